/- Small laws of the model's operations that the kit lacks: two arrays of two integers against one another; a quiet call. -/
import Derived.Laws.StructEq
import Derived.Deep.QuietTactic
namespace Go.Proofs.Ytohijcgbfcahhaa
open Go

theorem quiet_eq {P : Program} {f : FuncId} {args : Array Value} {w : World} {n : Nat} {v : Value}
    (h : Calls P f args (w.drewN n) fun e w' => e = .returned v ∧ w.drewN n = w') : Calls P f args (w.drewN n) fun e w'' => e = .returned v ∧ ∃ m, w'' = w.drewN m :=
  h.mono fun _ _ ⟨he, hm⟩ => ⟨he, n, hm.symm⟩

theorem run_equalIn_arr2 {P : Program} (w : World) (D : Nat) (t e : TypeId) (k : IntKind) (a b a' b' : Int) (ht : P.underlying t = some (.array 2 e))
    (hD : ∀ a b w, (Op.equalIn D e (.int k a) (.int k b)).run P w = .ok (a == b) w)
    (hs : ∀ w, (sizeOf e).run P w = .ok 1 w) (hg : ∀ w, (isAgg e).run P w = .ok false w) :
    (Op.equalIn (D + 1) t (.agg #[.int k a, .int k b]) (.agg #[.int k a', .int k b'])).run P w = .ok (a == a' && b == b') w := by
  simp [Op.equalIn, run_underlying ht, hs, List.range', part, hg, hD, Sem.run_bind]
  by_cases h : a = a' <;> by_cases h2 : b = b' <;> simp_all
end Go.Proofs.Ytohijcgbfcahhaa
