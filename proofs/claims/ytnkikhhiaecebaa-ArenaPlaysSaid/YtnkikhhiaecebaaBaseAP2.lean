/- Small laws of the model's operations that the kit lacks: two arrays of two integers against one another; a quiet call. -/
import Derived.Laws.StructEq
import Derived.Laws.AppendOwn
import Derived.Below
import Derived.Deep.QuietTactic
set_option linter.all false
namespace Go.Proofs.Ytnkikhhiaecebaa
open Go

section
variable {P : Program} (w : World) {t : TypeId} {ps rs : Array TypeId} {vd : Bool} (ht : P.underlying t = some (.func ps rs vd)) (fn : Fn) (a b : Array Value)
include ht
theorem run_equalIn_func (d : Nat) : (Op.equalIn (d + 1) t (.func fn a b) .nilFunc).run P w = .ok false w := by simp [Op.equalIn, run_underlying ht]
theorem run_equalIn_nils (d : Nat) : (Op.equalIn (d + 1) t .nilFunc .nilFunc).run P w = .ok true w := by simp [Op.equalIn, run_underlying ht]
end



def Ext (w w' : World) : Prop := ∀ (b : Nat) (o : Obj), w.heap[b]? = some o → w'.heap[b]? = some o
theorem Ext.refl (w : World) : Ext w w := fun _ _ h => h
theorem Ext.trans {a b c : World} (h : Ext a b) (k : Ext b c) : Ext a c := fun i o x => k i o (h i o x)
theorem heap_lt {w : World} {b : Nat} {o : Obj} (h : w.heap[b]? = some o) : b < w.heap.size := by
  rcases Nat.lt_or_ge b w.heap.size with h' | h'
  · exact h'
  · simp [Array.getElem?_eq_none h'] at h
theorem Ext.alloc {a w : World} (h : Ext a w) (o : Obj) : Ext a (w.alloc o) := fun b p x => by
  have := h b p x
  rw [RowKit.Below.heap_alloc _ _ _ (heap_lt this)]; exact this
theorem Ext.draws {a w : World} (h : Ext a w) (n : Nat) : Ext a (w.drewN n) := h
theorem Ext.drew {a w : World} (h : Ext a w) : Ext a w.drew := h
theorem cell_block {w : World} {p : Addr} {v : Value} (c : w.cell? p = some v) : ∃ o, w.heap[p.block]? = some o := by
  unfold World.cell? at c
  split at c
  · rename_i x _ _ h; exact ⟨_, h⟩
  · cases c
theorem Ext.cell {w w' : World} (h : Ext w w') {p : Addr} {v : Value} (c : w.cell? p = some v) : w'.cell? p = some v := by
  obtain ⟨o, ho⟩ := cell_block c
  have e := h _ _ ho
  unfold World.cell? at c ⊢
  rw [e]; rw [ho] at c; exact c
theorem Ext.lt {w w' : World} (h : Ext w w') {b : Nat} (hb : b < w.heap.size) : b < w'.heap.size := by
  have : w.heap[b]? = some w.heap[b] := by simp
  exact heap_lt (h b _ this)
end Go.Proofs.Ytnkikhhiaecebaa
