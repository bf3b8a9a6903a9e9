/- Package pace (layer 4): what comes next, a function in a field. -/
import Derived.Laws.EntriesVeiled
import Derived.Test.YtnfpkadepomjjaaArenaA
set_option linter.all false
namespace Go.Proofs.Ytnfpkadepomjjaa
open Go.RowKit

theorem gearTo (g o : Nat) (fn : Fn) (a1 a2 : Array Value) (w : World) (v0 : Value) (hc : w.cell? ⟨g, o, none⟩ = some v0) (hf : w.frozen? ⟨g, o, none⟩ = false) :
    Calls Try.prog 97 #[.pointer (some ⟨g, o, none⟩), .func fn a1 a2] w fun e w' => e = .returned (.tuple #[]) ∧ w' = w.setCell ⟨g, o, none⟩ (.func fn a1 a2) := by
  go_enter Try.func97, Try.ntmps97
  go_wp2
  go_end0
  exact ⟨rfl, rfl⟩
theorem gearEnd (g o : Nat) (w : World) (v0 : Value) (hc : w.cell? ⟨g, o, none⟩ = some v0) (hf : w.frozen? ⟨g, o, none⟩ = false) :
    Calls Try.prog 163 #[.pointer (some ⟨g, o, none⟩)] w fun e w' => e = .returned (.tuple #[]) ∧ w' = w.setCell ⟨g, o, none⟩ .nilFunc := by
  go_enter Try.func163, Try.ntmps163
  go_wp2
  go_end0
  exact ⟨rfl, rfl⟩
theorem gearDone_yes (g o : Nat) (w : World) (hc : w.cell? ⟨g, o, none⟩ = some .nilFunc) :
    Calls Try.prog 99 #[.pointer (some ⟨g, o, none⟩)] w fun e w' => e = .returned (.bool true) ∧ w = w' := by
  have he := fun w => run_eql_nils (P := Try.prog) w (t := 1) Try.underlying1
  go_enter Try.func99, Try.ntmps99
  go_wp2
  go_ret
  exact ⟨rfl, rfl⟩
theorem gearDone_no (g o : Nat) (fn : Fn) (a1 a2 : Array Value) (w : World) (hc : w.cell? ⟨g, o, none⟩ = some (.func fn a1 a2)) :
    Calls Try.prog 99 #[.pointer (some ⟨g, o, none⟩)] w fun e w' => e = .returned (.bool false) ∧ w = w' := by
  have he := fun w => run_eql_func (P := Try.prog) w (t := 1) Try.underlying1 fn a1 a2
  go_enter Try.func99, Try.ntmps99
  go_wp2
  go_ret
  exact ⟨rfl, rfl⟩
/-- Nothing comes next. -/
theorem gearStep_none (g o : Nat) (w : World) (hc : w.cell? ⟨g, o, none⟩ = some .nilFunc) :
    Calls Try.prog 100 #[.pointer (some ⟨g, o, none⟩)] w fun e w' => e = .returned (.tuple #[]) ∧ w = w' := by
  have he := fun w => run_neq_nils (P := Try.prog) w (t := 1) Try.underlying1
  go_enter Try.func100, Try.ntmps100
  go_wp2
  go_end0
  exact ⟨rfl, rfl⟩
/-- What comes next is the method count_add of the machine m. -/
theorem gearStep_count_add (g o m : Nat) (w : World) {Q : World → Prop} (hc : w.cell? ⟨g, o, none⟩ = some (.func (.func 208) #[.pointer (some ⟨m, 0, none⟩)] #[]))
    (hcall : Calls Try.prog 208 #[.pointer (some ⟨m, 0, none⟩)] w fun e w' => e = .returned (.tuple #[]) ∧ Q w') :
    Calls Try.prog 100 #[.pointer (some ⟨g, o, none⟩)] w fun e w' => e = .returned (.tuple #[]) ∧ Q w' := by
  have he := fun w => run_neq_func (P := Try.prog) w (t := 1) Try.underlying1 (.func 208) #[.pointer (some ⟨m, 0, none⟩)] #[]
  have Hc := Lib.hid hcall
  clear hcall
  go_enter Try.func100, Try.ntmps100
  go_wp2_with fail
  refine Hc.out.mono ?_; rintro e w' ⟨rfl, hq⟩
  have HQ := Lib.hid hq
  clear hq
  go_wp2
  go_end0
  exact ⟨rfl, HQ.out⟩

/-- What comes next is the method collect_look of the machine m. -/
theorem gearStep_collect_look (g o m : Nat) (w : World) {Q : World → Prop} (hc : w.cell? ⟨g, o, none⟩ = some (.func (.func 98) #[.pointer (some ⟨m, 0, none⟩)] #[]))
    (hcall : Calls Try.prog 98 #[.pointer (some ⟨m, 0, none⟩)] w fun e w' => e = .returned (.tuple #[]) ∧ Q w') :
    Calls Try.prog 100 #[.pointer (some ⟨g, o, none⟩)] w fun e w' => e = .returned (.tuple #[]) ∧ Q w' := by
  have he := fun w => run_neq_func (P := Try.prog) w (t := 1) Try.underlying1 (.func 98) #[.pointer (some ⟨m, 0, none⟩)] #[]
  have Hc := Lib.hid hcall
  clear hcall
  go_enter Try.func100, Try.ntmps100
  go_wp2_with fail
  refine Hc.out.mono ?_; rintro e w' ⟨rfl, hq⟩
  have HQ := Lib.hid hq
  clear hq
  go_wp2
  go_end0
  exact ⟨rfl, HQ.out⟩

/-- What comes next is the method collect_count of the machine m. -/
theorem gearStep_collect_count (g o m : Nat) (w : World) {Q : World → Prop} (hc : w.cell? ⟨g, o, none⟩ = some (.func (.func 164) #[.pointer (some ⟨m, 0, none⟩)] #[]))
    (hcall : Calls Try.prog 164 #[.pointer (some ⟨m, 0, none⟩)] w fun e w' => e = .returned (.tuple #[]) ∧ Q w') :
    Calls Try.prog 100 #[.pointer (some ⟨g, o, none⟩)] w fun e w' => e = .returned (.tuple #[]) ∧ Q w' := by
  have he := fun w => run_neq_func (P := Try.prog) w (t := 1) Try.underlying1 (.func 164) #[.pointer (some ⟨m, 0, none⟩)] #[]
  have Hc := Lib.hid hcall
  clear hcall
  go_enter Try.func100, Try.ntmps100
  go_wp2_with fail
  refine Hc.out.mono ?_; rintro e w' ⟨rfl, hq⟩
  have HQ := Lib.hid hq
  clear hq
  go_wp2
  go_end0
  exact ⟨rfl, HQ.out⟩

/-- What comes next is the method claim_look of the machine m. -/
theorem gearStep_claim_look (g o m : Nat) (w : World) {Q : World → Prop} (hc : w.cell? ⟨g, o, none⟩ = some (.func (.func 184) #[.pointer (some ⟨m, 0, none⟩)] #[]))
    (hcall : Calls Try.prog 184 #[.pointer (some ⟨m, 0, none⟩)] w fun e w' => e = .returned (.tuple #[]) ∧ Q w') :
    Calls Try.prog 100 #[.pointer (some ⟨g, o, none⟩)] w fun e w' => e = .returned (.tuple #[]) ∧ Q w' := by
  have he := fun w => run_neq_func (P := Try.prog) w (t := 1) Try.underlying1 (.func 184) #[.pointer (some ⟨m, 0, none⟩)] #[]
  have Hc := Lib.hid hcall
  clear hcall
  go_enter Try.func100, Try.ntmps100
  go_wp2_with fail
  refine Hc.out.mono ?_; rintro e w' ⟨rfl, hq⟩
  have HQ := Lib.hid hq
  clear hq
  go_wp2
  go_end0
  exact ⟨rfl, HQ.out⟩

/-- What comes next is the method claim_take of the machine m. -/
theorem gearStep_claim_take (g o m : Nat) (w : World) {Q : World → Prop} (hc : w.cell? ⟨g, o, none⟩ = some (.func (.func 185) #[.pointer (some ⟨m, 0, none⟩)] #[]))
    (hcall : Calls Try.prog 185 #[.pointer (some ⟨m, 0, none⟩)] w fun e w' => e = .returned (.tuple #[]) ∧ Q w') :
    Calls Try.prog 100 #[.pointer (some ⟨g, o, none⟩)] w fun e w' => e = .returned (.tuple #[]) ∧ Q w' := by
  have he := fun w => run_neq_func (P := Try.prog) w (t := 1) Try.underlying1 (.func 185) #[.pointer (some ⟨m, 0, none⟩)] #[]
  have Hc := Lib.hid hcall
  clear hcall
  go_enter Try.func100, Try.ntmps100
  go_wp2_with fail
  refine Hc.out.mono ?_; rintro e w' ⟨rfl, hq⟩
  have HQ := Lib.hid hq
  clear hq
  go_wp2
  go_end0
  exact ⟨rfl, HQ.out⟩

/-- What comes next is the method claim_lay of the machine m. -/
theorem gearStep_claim_lay (g o m : Nat) (w : World) {Q : World → Prop} (hc : w.cell? ⟨g, o, none⟩ = some (.func (.func 211) #[.pointer (some ⟨m, 0, none⟩)] #[]))
    (hcall : Calls Try.prog 211 #[.pointer (some ⟨m, 0, none⟩)] w fun e w' => e = .returned (.tuple #[]) ∧ Q w') :
    Calls Try.prog 100 #[.pointer (some ⟨g, o, none⟩)] w fun e w' => e = .returned (.tuple #[]) ∧ Q w' := by
  have he := fun w => run_neq_func (P := Try.prog) w (t := 1) Try.underlying1 (.func 211) #[.pointer (some ⟨m, 0, none⟩)] #[]
  have Hc := Lib.hid hcall
  clear hcall
  go_enter Try.func100, Try.ntmps100
  go_wp2_with fail
  refine Hc.out.mono ?_; rintro e w' ⟨rfl, hq⟩
  have HQ := Lib.hid hq
  clear hq
  go_wp2
  go_end0
  exact ⟨rfl, HQ.out⟩

/-- What comes next is the method claim_install of the machine m. -/
theorem gearStep_claim_install (g o m : Nat) (w : World) {Q : World → Prop} (hc : w.cell? ⟨g, o, none⟩ = some (.func (.func 233) #[.pointer (some ⟨m, 0, none⟩)] #[]))
    (hcall : Calls Try.prog 233 #[.pointer (some ⟨m, 0, none⟩)] w fun e w' => e = .returned (.tuple #[]) ∧ Q w') :
    Calls Try.prog 100 #[.pointer (some ⟨g, o, none⟩)] w fun e w' => e = .returned (.tuple #[]) ∧ Q w' := by
  have he := fun w => run_neq_func (P := Try.prog) w (t := 1) Try.underlying1 (.func 233) #[.pointer (some ⟨m, 0, none⟩)] #[]
  have Hc := Lib.hid hcall
  clear hcall
  go_enter Try.func100, Try.ntmps100
  go_wp2_with fail
  refine Hc.out.mono ?_; rintro e w' ⟨rfl, hq⟩
  have HQ := Lib.hid hq
  clear hq
  go_wp2
  go_end0
  exact ⟨rfl, HQ.out⟩

/-- What comes next is the method claim_drop of the machine m. -/
theorem gearStep_claim_drop (g o m : Nat) (w : World) {Q : World → Prop} (hc : w.cell? ⟨g, o, none⟩ = some (.func (.func 249) #[.pointer (some ⟨m, 0, none⟩)] #[]))
    (hcall : Calls Try.prog 249 #[.pointer (some ⟨m, 0, none⟩)] w fun e w' => e = .returned (.tuple #[]) ∧ Q w') :
    Calls Try.prog 100 #[.pointer (some ⟨g, o, none⟩)] w fun e w' => e = .returned (.tuple #[]) ∧ Q w' := by
  have he := fun w => run_neq_func (P := Try.prog) w (t := 1) Try.underlying1 (.func 249) #[.pointer (some ⟨m, 0, none⟩)] #[]
  have Hc := Lib.hid hcall
  clear hcall
  go_enter Try.func100, Try.ntmps100
  go_wp2_with fail
  refine Hc.out.mono ?_; rintro e w' ⟨rfl, hq⟩
  have HQ := Lib.hid hq
  clear hq
  go_wp2
  go_end0
  exact ⟨rfl, HQ.out⟩
end Go.Proofs.Ytnfpkadepomjjaa
