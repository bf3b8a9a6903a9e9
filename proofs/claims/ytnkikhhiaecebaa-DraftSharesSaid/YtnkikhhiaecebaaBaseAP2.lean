/- Small laws of the model's operations that the kit lacks: two arrays of two integers against one another; a quiet call. -/
import Derived.Laws.StructEq
import Derived.Laws.AppendOwn
import Derived.Below
import Derived.Deep.QuietTactic
set_option linter.all false
namespace Go.Proofs.Ytnkikhhiaecebaa
open Go

theorem quiet_eq {P : Program} {f : FuncId} {args : Array Value} {w : World} {n : Nat} {v : Value}
    (h : Calls P f args (w.drewN n) fun e w' => e = .returned v ∧ w.drewN n = w') : Calls P f args (w.drewN n) fun e w'' => e = .returned v ∧ ∃ m, w'' = w.drewN m :=
  h.mono fun _ _ ⟨he, hm⟩ => ⟨he, n, hm.symm⟩

theorem run_equalIn_arr2 {P : Program} (w : World) (D : Nat) (t e : TypeId) (k : IntKind) (a b a' b' : Int) (ht : P.underlying t = some (.array 2 e))
    (hD : ∀ a b w, (Op.equalIn D e (.int k a) (.int k b)).run P w = .ok (a == b) w)
    (hs : ∀ w, (sizeOf e).run P w = .ok 1 w) (hg : ∀ w, (isAgg e).run P w = .ok false w) :
    (Op.equalIn (D + 1) t (.agg #[.int k a, .int k b]) (.agg #[.int k a', .int k b'])).run P w = .ok (a == a' && b == b') w := by
  simp [Op.equalIn, run_underlying ht, hs, List.range', part, hg, hD, Sem.run_bind]
  by_cases h : a = a' <;> by_cases h2 : b = b' <;> simp_all

section
variable {P : Program} (w : World) {t : TypeId} {ps rs : Array TypeId} {vd : Bool} (ht : P.underlying t = some (.func ps rs vd)) (fn : Fn) (a b : Array Value)
include ht
theorem run_equalIn_func (d : Nat) : (Op.equalIn (d + 1) t (.func fn a b) .nilFunc).run P w = .ok false w := by simp [Op.equalIn, run_underlying ht]
theorem run_equalIn_nils (d : Nat) : (Op.equalIn (d + 1) t .nilFunc .nilFunc).run P w = .ok true w := by simp [Op.equalIn, run_underlying ht]
theorem run_eql_func : (binOp .eql t (.func fn a b) .nilFunc).run P w = .ok (.bool false) w := by
  simp only [binOp]; simp [Op.equal, Op.maxDepth, run_equalIn_func w ht fn a b 9999]
theorem run_neq_func : (binOp .neq t (.func fn a b) .nilFunc).run P w = .ok (.bool true) w := by
  simp only [binOp]; simp [Op.equal, Op.maxDepth, run_equalIn_func w ht fn a b 9999]
theorem run_eql_nils : (binOp .eql t .nilFunc .nilFunc).run P w = .ok (.bool true) w := by
  simp only [binOp]; simp [Op.equal, Op.maxDepth, run_equalIn_nils w ht 9999]
theorem run_neq_nils : (binOp .neq t .nilFunc .nilFunc).run P w = .ok (.bool false) w := by
  simp only [binOp]; simp [Op.equal, Op.maxDepth, run_equalIn_nils w ht 9999]
end

/-- A slice's length, for a loop's measure. -/
def lenOf : Value → Nat | .slice _ n _ => n | _ => 0

/-- An owned row lies in a block from its base on. -/
theorem own_base {w : World} {base : Nat} {e : TypeId} {size : Nat} {v : Value} {n : Nat} {xs : List Value} (h : w.ownsRow base e size v n xs) : ∀ k, v.ownBlock = some k → base ≤ k := by
  intro k hk
  rcases h.2 with ⟨rfl, _⟩ | ⟨g, cap, cur, rfl, hg, _⟩
  · cases hk
  · cases hk; exact hg

/-- w' is w with more blocks, and perhaps draws: each block that w has is there unturned. -/
def Ext (w w' : World) : Prop := ∀ (b : Nat) (o : Obj), w.heap[b]? = some o → w'.heap[b]? = some o
theorem Ext.refl (w : World) : Ext w w := fun _ _ h => h
theorem Ext.trans {a b c : World} (h : Ext a b) (k : Ext b c) : Ext a c := fun i o x => k i o (h i o x)
theorem cell_alloc_other {w : World} {o o' : Obj} {p : Addr} {v : Value} (hp : p.block < w.heap.size) (h : (w.alloc o).cell? p = some v) : (w.alloc o').cell? p = some v := by
  obtain ⟨b, f, s⟩ := p
  have e : ∀ q : Obj, (w.alloc q).cell? ⟨b, f, s⟩ = w.cell? ⟨b, f, s⟩ := fun q => World.cell?_of_block (w := w) (RowKit.Below.heap_alloc w q b hp)
  rw [e] at h ⊢; exact h
theorem heap_lt {w : World} {b : Nat} {o : Obj} (h : w.heap[b]? = some o) : b < w.heap.size := by
  rcases Nat.lt_or_ge b w.heap.size with h' | h'
  · exact h'
  · simp [Array.getElem?_eq_none h'] at h
theorem Ext.of_below {w w' : World} (h : RowKit.Below w.heap.size w w') : Ext w w' := fun b _ x => by rw [h.block b (heap_lt x)]; exact x
theorem Ext.alloc {a w : World} (h : Ext a w) (o : Obj) : Ext a (w.alloc o) := fun b p x => by
  have := h b p x
  rw [RowKit.Below.heap_alloc _ _ _ (heap_lt this)]; exact this
theorem Ext.draws {a w : World} (h : Ext a w) (n : Nat) : Ext a (w.drewN n) := h
theorem Ext.drew {a w : World} (h : Ext a w) : Ext a w.drew := h
theorem cell_block {w : World} {p : Addr} {v : Value} (c : w.cell? p = some v) : ∃ o, w.heap[p.block]? = some o := by
  unfold World.cell? at c
  split at c
  · rename_i x _ _ h; exact ⟨_, h⟩
  · cases c
theorem Ext.cell {w w' : World} (h : Ext w w') {p : Addr} {v : Value} (c : w.cell? p = some v) : w'.cell? p = some v := by
  obtain ⟨o, ho⟩ := cell_block c
  have e := h _ _ ho
  unfold World.cell? at c ⊢
  rw [e]; rw [ho] at c; exact c
theorem Ext.lt {w w' : World} (h : Ext w w') {b : Nat} (hb : b < w.heap.size) : b < w'.heap.size := by
  have : w.heap[b]? = some w.heap[b] := by simp
  exact heap_lt (h b _ this)
end Go.Proofs.Ytnkikhhiaecebaa
