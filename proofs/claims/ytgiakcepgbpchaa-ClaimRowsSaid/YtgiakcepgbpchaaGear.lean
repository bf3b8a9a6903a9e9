/- Package pace (layer 4): what comes next, a function in a field. -/
import Derived.Laws.EntriesVeiled
import Derived.Test.YtgiakcepgbpchaaArenaA
set_option linter.all false
namespace Go.Proofs.Ytgiakcepgbpchaa
open Go.RowKit

theorem gearTo (g o : Nat) (fn : Fn) (a1 a2 : Array Value) (w : World) (v0 : Value) (hc : w.cell? ⟨g, o, none⟩ = some v0) (hf : w.frozen? ⟨g, o, none⟩ = false) :
    Calls Try.prog 101 #[.pointer (some ⟨g, o, none⟩), .func fn a1 a2] w fun e w' => e = .returned (.tuple #[]) ∧ w' = w.setCell ⟨g, o, none⟩ (.func fn a1 a2) := by
  go_enter Try.func101, Try.ntmps101
  go_wp2
  go_end0
  exact ⟨rfl, rfl⟩
theorem gearEnd (g o : Nat) (w : World) (v0 : Value) (hc : w.cell? ⟨g, o, none⟩ = some v0) (hf : w.frozen? ⟨g, o, none⟩ = false) :
    Calls Try.prog 142 #[.pointer (some ⟨g, o, none⟩)] w fun e w' => e = .returned (.tuple #[]) ∧ w' = w.setCell ⟨g, o, none⟩ .nilFunc := by
  go_enter Try.func142, Try.ntmps142
  go_wp2
  go_end0
  exact ⟨rfl, rfl⟩
theorem gearDone_yes (g o : Nat) (w : World) (hc : w.cell? ⟨g, o, none⟩ = some .nilFunc) :
    Calls Try.prog 107 #[.pointer (some ⟨g, o, none⟩)] w fun e w' => e = .returned (.bool true) ∧ w = w' := by
  have he := fun w => run_eql_nils (P := Try.prog) w (t := 1) Try.underlying1
  go_enter Try.func107, Try.ntmps107
  go_wp2
  go_ret
  exact ⟨rfl, rfl⟩
theorem gearDone_no (g o : Nat) (fn : Fn) (a1 a2 : Array Value) (w : World) (hc : w.cell? ⟨g, o, none⟩ = some (.func fn a1 a2)) :
    Calls Try.prog 107 #[.pointer (some ⟨g, o, none⟩)] w fun e w' => e = .returned (.bool false) ∧ w = w' := by
  have he := fun w => run_eql_func (P := Try.prog) w (t := 1) Try.underlying1 fn a1 a2
  go_enter Try.func107, Try.ntmps107
  go_wp2
  go_ret
  exact ⟨rfl, rfl⟩
/-- Nothing comes next. -/
theorem gearStep_none (g o : Nat) (w : World) (hc : w.cell? ⟨g, o, none⟩ = some .nilFunc) :
    Calls Try.prog 93 #[.pointer (some ⟨g, o, none⟩)] w fun e w' => e = .returned (.tuple #[]) ∧ w = w' := by
  have he := fun w => run_neq_nils (P := Try.prog) w (t := 1) Try.underlying1
  go_enter Try.func93, Try.ntmps93
  go_wp2
  go_end0
  exact ⟨rfl, rfl⟩
/-- What comes next is the method count_add of the machine m. -/
theorem gearStep_count_add (g o m : Nat) (w : World) {Q : World → Prop} (hc : w.cell? ⟨g, o, none⟩ = some (.func (.func 156) #[.pointer (some ⟨m, 0, none⟩)] #[]))
    (hcall : Calls Try.prog 156 #[.pointer (some ⟨m, 0, none⟩)] w fun e w' => e = .returned (.tuple #[]) ∧ Q w') :
    Calls Try.prog 93 #[.pointer (some ⟨g, o, none⟩)] w fun e w' => e = .returned (.tuple #[]) ∧ Q w' := by
  have he := fun w => run_neq_func (P := Try.prog) w (t := 1) Try.underlying1 (.func 156) #[.pointer (some ⟨m, 0, none⟩)] #[]
  have Hc := Lib.hid hcall
  clear hcall
  go_enter Try.func93, Try.ntmps93
  go_wp2_with fail
  refine Hc.out.mono ?_; rintro e w' ⟨rfl, hq⟩
  have HQ := Lib.hid hq
  clear hq
  go_wp2
  go_end0
  exact ⟨rfl, HQ.out⟩

/-- What comes next is the method grip_read of the machine m. -/
theorem gearStep_grip_read (g o m : Nat) (w : World) {Q : World → Prop} (hc : w.cell? ⟨g, o, none⟩ = some (.func (.func 102) #[.pointer (some ⟨m, 0, none⟩)] #[]))
    (hcall : Calls Try.prog 102 #[.pointer (some ⟨m, 0, none⟩)] w fun e w' => e = .returned (.tuple #[]) ∧ Q w') :
    Calls Try.prog 93 #[.pointer (some ⟨g, o, none⟩)] w fun e w' => e = .returned (.tuple #[]) ∧ Q w' := by
  have he := fun w => run_neq_func (P := Try.prog) w (t := 1) Try.underlying1 (.func 102) #[.pointer (some ⟨m, 0, none⟩)] #[]
  have Hc := Lib.hid hcall
  clear hcall
  go_enter Try.func93, Try.ntmps93
  go_wp2_with fail
  refine Hc.out.mono ?_; rintro e w' ⟨rfl, hq⟩
  have HQ := Lib.hid hq
  clear hq
  go_wp2
  go_end0
  exact ⟨rfl, HQ.out⟩

/-- What comes next is the method grip_hold of the machine m. -/
theorem gearStep_grip_hold (g o m : Nat) (w : World) {Q : World → Prop} (hc : w.cell? ⟨g, o, none⟩ = some (.func (.func 138) #[.pointer (some ⟨m, 0, none⟩)] #[]))
    (hcall : Calls Try.prog 138 #[.pointer (some ⟨m, 0, none⟩)] w fun e w' => e = .returned (.tuple #[]) ∧ Q w') :
    Calls Try.prog 93 #[.pointer (some ⟨g, o, none⟩)] w fun e w' => e = .returned (.tuple #[]) ∧ Q w' := by
  have he := fun w => run_neq_func (P := Try.prog) w (t := 1) Try.underlying1 (.func 138) #[.pointer (some ⟨m, 0, none⟩)] #[]
  have Hc := Lib.hid hcall
  clear hcall
  go_enter Try.func93, Try.ntmps93
  go_wp2_with fail
  refine Hc.out.mono ?_; rintro e w' ⟨rfl, hq⟩
  have HQ := Lib.hid hq
  clear hq
  go_wp2
  go_end0
  exact ⟨rfl, HQ.out⟩

/-- What comes next is the method grip_look of the machine m. -/
theorem gearStep_grip_look (g o m : Nat) (w : World) {Q : World → Prop} (hc : w.cell? ⟨g, o, none⟩ = some (.func (.func 159) #[.pointer (some ⟨m, 0, none⟩)] #[]))
    (hcall : Calls Try.prog 159 #[.pointer (some ⟨m, 0, none⟩)] w fun e w' => e = .returned (.tuple #[]) ∧ Q w') :
    Calls Try.prog 93 #[.pointer (some ⟨g, o, none⟩)] w fun e w' => e = .returned (.tuple #[]) ∧ Q w' := by
  have he := fun w => run_neq_func (P := Try.prog) w (t := 1) Try.underlying1 (.func 159) #[.pointer (some ⟨m, 0, none⟩)] #[]
  have Hc := Lib.hid hcall
  clear hcall
  go_enter Try.func93, Try.ntmps93
  go_wp2_with fail
  refine Hc.out.mono ?_; rintro e w' ⟨rfl, hq⟩
  have HQ := Lib.hid hq
  clear hq
  go_wp2
  go_end0
  exact ⟨rfl, HQ.out⟩

/-- What comes next is the method fetch_hold of the machine m. -/
theorem gearStep_fetch_hold (g o m : Nat) (w : World) {Q : World → Prop} (hc : w.cell? ⟨g, o, none⟩ = some (.func (.func 103) #[.pointer (some ⟨m, 0, none⟩)] #[]))
    (hcall : Calls Try.prog 103 #[.pointer (some ⟨m, 0, none⟩)] w fun e w' => e = .returned (.tuple #[]) ∧ Q w') :
    Calls Try.prog 93 #[.pointer (some ⟨g, o, none⟩)] w fun e w' => e = .returned (.tuple #[]) ∧ Q w' := by
  have he := fun w => run_neq_func (P := Try.prog) w (t := 1) Try.underlying1 (.func 103) #[.pointer (some ⟨m, 0, none⟩)] #[]
  have Hc := Lib.hid hcall
  clear hcall
  go_enter Try.func93, Try.ntmps93
  go_wp2_with fail
  refine Hc.out.mono ?_; rintro e w' ⟨rfl, hq⟩
  have HQ := Lib.hid hq
  clear hq
  go_wp2
  go_end0
  exact ⟨rfl, HQ.out⟩

/-- What comes next is the method fetch_look of the machine m. -/
theorem gearStep_fetch_look (g o m : Nat) (w : World) {Q : World → Prop} (hc : w.cell? ⟨g, o, none⟩ = some (.func (.func 140) #[.pointer (some ⟨m, 0, none⟩)] #[]))
    (hcall : Calls Try.prog 140 #[.pointer (some ⟨m, 0, none⟩)] w fun e w' => e = .returned (.tuple #[]) ∧ Q w') :
    Calls Try.prog 93 #[.pointer (some ⟨g, o, none⟩)] w fun e w' => e = .returned (.tuple #[]) ∧ Q w' := by
  have he := fun w => run_neq_func (P := Try.prog) w (t := 1) Try.underlying1 (.func 140) #[.pointer (some ⟨m, 0, none⟩)] #[]
  have Hc := Lib.hid hcall
  clear hcall
  go_enter Try.func93, Try.ntmps93
  go_wp2_with fail
  refine Hc.out.mono ?_; rintro e w' ⟨rfl, hq⟩
  have HQ := Lib.hid hq
  clear hq
  go_wp2
  go_end0
  exact ⟨rfl, HQ.out⟩

/-- What comes next is the method fetch_read of the machine m. -/
theorem gearStep_fetch_read (g o m : Nat) (w : World) {Q : World → Prop} (hc : w.cell? ⟨g, o, none⟩ = some (.func (.func 174) #[.pointer (some ⟨m, 0, none⟩)] #[]))
    (hcall : Calls Try.prog 174 #[.pointer (some ⟨m, 0, none⟩)] w fun e w' => e = .returned (.tuple #[]) ∧ Q w') :
    Calls Try.prog 93 #[.pointer (some ⟨g, o, none⟩)] w fun e w' => e = .returned (.tuple #[]) ∧ Q w' := by
  have he := fun w => run_neq_func (P := Try.prog) w (t := 1) Try.underlying1 (.func 174) #[.pointer (some ⟨m, 0, none⟩)] #[]
  have Hc := Lib.hid hcall
  clear hcall
  go_enter Try.func93, Try.ntmps93
  go_wp2_with fail
  refine Hc.out.mono ?_; rintro e w' ⟨rfl, hq⟩
  have HQ := Lib.hid hq
  clear hq
  go_wp2
  go_end0
  exact ⟨rfl, HQ.out⟩

/-- What comes next is the method clear_first of the machine m. -/
theorem gearStep_clear_first (g o m : Nat) (w : World) {Q : World → Prop} (hc : w.cell? ⟨g, o, none⟩ = some (.func (.func 110) #[.pointer (some ⟨m, 0, none⟩)] #[]))
    (hcall : Calls Try.prog 110 #[.pointer (some ⟨m, 0, none⟩)] w fun e w' => e = .returned (.tuple #[]) ∧ Q w') :
    Calls Try.prog 93 #[.pointer (some ⟨g, o, none⟩)] w fun e w' => e = .returned (.tuple #[]) ∧ Q w' := by
  have he := fun w => run_neq_func (P := Try.prog) w (t := 1) Try.underlying1 (.func 110) #[.pointer (some ⟨m, 0, none⟩)] #[]
  have Hc := Lib.hid hcall
  clear hcall
  go_enter Try.func93, Try.ntmps93
  go_wp2_with fail
  refine Hc.out.mono ?_; rintro e w' ⟨rfl, hq⟩
  have HQ := Lib.hid hq
  clear hq
  go_wp2
  go_end0
  exact ⟨rfl, HQ.out⟩

/-- What comes next is the method clear_second of the machine m. -/
theorem gearStep_clear_second (g o m : Nat) (w : World) {Q : World → Prop} (hc : w.cell? ⟨g, o, none⟩ = some (.func (.func 146) #[.pointer (some ⟨m, 0, none⟩)] #[]))
    (hcall : Calls Try.prog 146 #[.pointer (some ⟨m, 0, none⟩)] w fun e w' => e = .returned (.tuple #[]) ∧ Q w') :
    Calls Try.prog 93 #[.pointer (some ⟨g, o, none⟩)] w fun e w' => e = .returned (.tuple #[]) ∧ Q w' := by
  have he := fun w => run_neq_func (P := Try.prog) w (t := 1) Try.underlying1 (.func 146) #[.pointer (some ⟨m, 0, none⟩)] #[]
  have Hc := Lib.hid hcall
  clear hcall
  go_enter Try.func93, Try.ntmps93
  go_wp2_with fail
  refine Hc.out.mono ?_; rintro e w' ⟨rfl, hq⟩
  have HQ := Lib.hid hq
  clear hq
  go_wp2
  go_end0
  exact ⟨rfl, HQ.out⟩

/-- What comes next is the method collect_look of the machine m. -/
theorem gearStep_collect_look (g o m : Nat) (w : World) {Q : World → Prop} (hc : w.cell? ⟨g, o, none⟩ = some (.func (.func 106) #[.pointer (some ⟨m, 0, none⟩)] #[]))
    (hcall : Calls Try.prog 106 #[.pointer (some ⟨m, 0, none⟩)] w fun e w' => e = .returned (.tuple #[]) ∧ Q w') :
    Calls Try.prog 93 #[.pointer (some ⟨g, o, none⟩)] w fun e w' => e = .returned (.tuple #[]) ∧ Q w' := by
  have he := fun w => run_neq_func (P := Try.prog) w (t := 1) Try.underlying1 (.func 106) #[.pointer (some ⟨m, 0, none⟩)] #[]
  have Hc := Lib.hid hcall
  clear hcall
  go_enter Try.func93, Try.ntmps93
  go_wp2_with fail
  refine Hc.out.mono ?_; rintro e w' ⟨rfl, hq⟩
  have HQ := Lib.hid hq
  clear hq
  go_wp2
  go_end0
  exact ⟨rfl, HQ.out⟩

/-- What comes next is the method collect_count of the machine m. -/
theorem gearStep_collect_count (g o m : Nat) (w : World) {Q : World → Prop} (hc : w.cell? ⟨g, o, none⟩ = some (.func (.func 143) #[.pointer (some ⟨m, 0, none⟩)] #[]))
    (hcall : Calls Try.prog 143 #[.pointer (some ⟨m, 0, none⟩)] w fun e w' => e = .returned (.tuple #[]) ∧ Q w') :
    Calls Try.prog 93 #[.pointer (some ⟨g, o, none⟩)] w fun e w' => e = .returned (.tuple #[]) ∧ Q w' := by
  have he := fun w => run_neq_func (P := Try.prog) w (t := 1) Try.underlying1 (.func 143) #[.pointer (some ⟨m, 0, none⟩)] #[]
  have Hc := Lib.hid hcall
  clear hcall
  go_enter Try.func93, Try.ntmps93
  go_wp2_with fail
  refine Hc.out.mono ?_; rintro e w' ⟨rfl, hq⟩
  have HQ := Lib.hid hq
  clear hq
  go_wp2
  go_end0
  exact ⟨rfl, HQ.out⟩

/-- What comes next is the method claim_look of the machine m. -/
theorem gearStep_claim_look (g o m : Nat) (w : World) {Q : World → Prop} (hc : w.cell? ⟨g, o, none⟩ = some (.func (.func 147) #[.pointer (some ⟨m, 0, none⟩)] #[]))
    (hcall : Calls Try.prog 147 #[.pointer (some ⟨m, 0, none⟩)] w fun e w' => e = .returned (.tuple #[]) ∧ Q w') :
    Calls Try.prog 93 #[.pointer (some ⟨g, o, none⟩)] w fun e w' => e = .returned (.tuple #[]) ∧ Q w' := by
  have he := fun w => run_neq_func (P := Try.prog) w (t := 1) Try.underlying1 (.func 147) #[.pointer (some ⟨m, 0, none⟩)] #[]
  have Hc := Lib.hid hcall
  clear hcall
  go_enter Try.func93, Try.ntmps93
  go_wp2_with fail
  refine Hc.out.mono ?_; rintro e w' ⟨rfl, hq⟩
  have HQ := Lib.hid hq
  clear hq
  go_wp2
  go_end0
  exact ⟨rfl, HQ.out⟩

/-- What comes next is the method claim_take of the machine m. -/
theorem gearStep_claim_take (g o m : Nat) (w : World) {Q : World → Prop} (hc : w.cell? ⟨g, o, none⟩ = some (.func (.func 148) #[.pointer (some ⟨m, 0, none⟩)] #[]))
    (hcall : Calls Try.prog 148 #[.pointer (some ⟨m, 0, none⟩)] w fun e w' => e = .returned (.tuple #[]) ∧ Q w') :
    Calls Try.prog 93 #[.pointer (some ⟨g, o, none⟩)] w fun e w' => e = .returned (.tuple #[]) ∧ Q w' := by
  have he := fun w => run_neq_func (P := Try.prog) w (t := 1) Try.underlying1 (.func 148) #[.pointer (some ⟨m, 0, none⟩)] #[]
  have Hc := Lib.hid hcall
  clear hcall
  go_enter Try.func93, Try.ntmps93
  go_wp2_with fail
  refine Hc.out.mono ?_; rintro e w' ⟨rfl, hq⟩
  have HQ := Lib.hid hq
  clear hq
  go_wp2
  go_end0
  exact ⟨rfl, HQ.out⟩

/-- What comes next is the method claim_lay of the machine m. -/
theorem gearStep_claim_lay (g o m : Nat) (w : World) {Q : World → Prop} (hc : w.cell? ⟨g, o, none⟩ = some (.func (.func 166) #[.pointer (some ⟨m, 0, none⟩)] #[]))
    (hcall : Calls Try.prog 166 #[.pointer (some ⟨m, 0, none⟩)] w fun e w' => e = .returned (.tuple #[]) ∧ Q w') :
    Calls Try.prog 93 #[.pointer (some ⟨g, o, none⟩)] w fun e w' => e = .returned (.tuple #[]) ∧ Q w' := by
  have he := fun w => run_neq_func (P := Try.prog) w (t := 1) Try.underlying1 (.func 166) #[.pointer (some ⟨m, 0, none⟩)] #[]
  have Hc := Lib.hid hcall
  clear hcall
  go_enter Try.func93, Try.ntmps93
  go_wp2_with fail
  refine Hc.out.mono ?_; rintro e w' ⟨rfl, hq⟩
  have HQ := Lib.hid hq
  clear hq
  go_wp2
  go_end0
  exact ⟨rfl, HQ.out⟩

/-- What comes next is the method claim_install of the machine m. -/
theorem gearStep_claim_install (g o m : Nat) (w : World) {Q : World → Prop} (hc : w.cell? ⟨g, o, none⟩ = some (.func (.func 177) #[.pointer (some ⟨m, 0, none⟩)] #[]))
    (hcall : Calls Try.prog 177 #[.pointer (some ⟨m, 0, none⟩)] w fun e w' => e = .returned (.tuple #[]) ∧ Q w') :
    Calls Try.prog 93 #[.pointer (some ⟨g, o, none⟩)] w fun e w' => e = .returned (.tuple #[]) ∧ Q w' := by
  have he := fun w => run_neq_func (P := Try.prog) w (t := 1) Try.underlying1 (.func 177) #[.pointer (some ⟨m, 0, none⟩)] #[]
  have Hc := Lib.hid hcall
  clear hcall
  go_enter Try.func93, Try.ntmps93
  go_wp2_with fail
  refine Hc.out.mono ?_; rintro e w' ⟨rfl, hq⟩
  have HQ := Lib.hid hq
  clear hq
  go_wp2
  go_end0
  exact ⟨rfl, HQ.out⟩

/-- What comes next is the method claim_drop of the machine m. -/
theorem gearStep_claim_drop (g o m : Nat) (w : World) {Q : World → Prop} (hc : w.cell? ⟨g, o, none⟩ = some (.func (.func 182) #[.pointer (some ⟨m, 0, none⟩)] #[]))
    (hcall : Calls Try.prog 182 #[.pointer (some ⟨m, 0, none⟩)] w fun e w' => e = .returned (.tuple #[]) ∧ Q w') :
    Calls Try.prog 93 #[.pointer (some ⟨g, o, none⟩)] w fun e w' => e = .returned (.tuple #[]) ∧ Q w' := by
  have he := fun w => run_neq_func (P := Try.prog) w (t := 1) Try.underlying1 (.func 182) #[.pointer (some ⟨m, 0, none⟩)] #[]
  have Hc := Lib.hid hcall
  clear hcall
  go_enter Try.func93, Try.ntmps93
  go_wp2_with fail
  refine Hc.out.mono ?_; rintro e w' ⟨rfl, hq⟩
  have HQ := Lib.hid hq
  clear hq
  go_wp2
  go_end0
  exact ⟨rfl, HQ.out⟩
end Go.Proofs.Ytgiakcepgbpchaa
