/- A walk through a tree (package quad) as plain data, and how it lies in memory. -/
import Derived.Test.YtnfpkadepomjjaaBaseMap
import Derived.Test.YtnfpkadepomjjaaBaseArM
import Derived.Test.YtnfpkadepomjjaaBaseAll
set_option linter.all false
namespace Go.Proofs.Ytnfpkadepomjjaa
open Go Go.RowKit

/-- Words by their handles, as they lie: handle, words, the slice that has them. -/
abbrev Wds : Type := List (Nat × List Nat × Value)
def wrows : Wds → Assn
  | [] => 1
  | b :: l => rowAt 25 b.2.2 (u64s b.2.1) * wrows l
def went (b : Nat × List Nat × Value) : Int × Value := (b.1, b.2.2)
def wordsAt (m : Nat) (xs : Wds) : Assn := mapUAt m (xs.map went) * wrows xs
theorem wrows_mid (l1 l2 : Wds) (b : Nat × List Nat × Value) : wrows (l1 ++ b :: l2) = rowAt 25 b.2.2 (u64s b.2.1) * wrows (l1 ++ l2) := by
  induction l1 with
  | nil => rfl
  | cons a l1 ih => show rowAt _ _ _ * wrows (l1 ++ b :: l2) = _ * (rowAt _ _ _ * wrows (l1 ++ l2)); rw [ih, Assn.mul_left_comm]
/-- A node's words, and whether it is one. -/
def nodeF (ks : List (Nat × List Nat)) (h : Nat) : (Nat × Nat × Nat × Nat) × Bool := match ks.find? (fun b => b.1 == h) with
  | some (_, [a, b, c, d]) => ((a, b, c, d), !(a == 0 && b == 0 && c == 0 && d == 0))
  | _ => ((0, 0, 0, 0), false)
def keyW (b : Nat × List Nat × Value) : Nat × List Nat := (b.1, b.2.1)
theorem look_went (xs : Wds) (h : Nat) : look (xs.map went) (h : Int) = (xs.find? fun b => b.1 == h).map (·.2.2) := by
  induction xs with
  | nil => rfl
  | cons b l ih =>
    simp only [look, List.map_cons, List.find?_cons, went] at ih ⊢
    by_cases e : b.1 = h
    · simp [e]
    · have e1 : ((b.1 : Int) == (h : Int)) = false := by simpa using fun h' => e (by omega)
      have e2 : (b.1 == h) = false := by simpa using e
      rw [e1, e2]; exact ih
theorem find_keyW (xs : Wds) (h : Nat) : (xs.map keyW).find? (fun b => b.1 == h) = (xs.find? fun b => b.1 == h).map keyW := by
  rw [List.find?_map]; rfl
theorem run_equalIn_arr4 {P : Program} (w : World) (D : Nat) (t e : TypeId) (k : IntKind) (a b c d a' b' c' d' : Int) (ht : P.underlying t = some (.array 4 e))
    (hD : ∀ a b w, (Op.equalIn D e (.int k a) (.int k b)).run P w = .ok (a == b) w)
    (hs : ∀ w, (sizeOf e).run P w = .ok 1 w) (hg : ∀ w, (isAgg e).run P w = .ok false w) :
    (Op.equalIn (D + 1) t (.agg #[.int k a, .int k b, .int k c, .int k d]) (.agg #[.int k a', .int k b', .int k c', .int k d'])).run P w = .ok (a == a' && b == b' && c == c' && d == d') w := by
  simp [Op.equalIn, run_underlying ht, hs, List.range', part, hg, hD, Sem.run_bind]
  by_cases h : a = a' <;> by_cases h2 : b = b' <;> by_cases h3 : c = c' <;> by_cases h4 : d = d' <;> simp_all
def cells4 (n : Nat × Nat × Nat × Nat) : Array Value := #[.int .u64 n.1, .int .u64 n.2.1, .int .u64 n.2.2.1, .int .u64 n.2.2.2]
/-- What a walk has found: pairs of a key and a value, and handles. -/
structure WSt where
  pairs : List (Int × Int)
  hs : List Nat
def pcells (l : List (Int × Int)) : List Value := l.flatMap fun p => [.int .i64 p.1, .int .i64 p.2]
def walkAt (pw m : Nat) (st : WSt) : Assn := Assn.ex fun d : Value × Value =>
  own pw (.cells #[.map (some m), d.1, d.2] 220 (0, 0)) * (rowK 110 2 d.1 st.pairs.length (pcells st.pairs) * rowK 25 1 d.2 st.hs.length (u64s st.hs))
theorem walkAt_open {w : World} {pw m : Nat} {st : WSt} {R : Assn} (h : Sat w (walkAt pw m st * R)) : ∃ vp vh,
    Sat w (own pw (.cells #[.map (some m), vp, vh] 220 (0, 0)) * (rowK 110 2 vp st.pairs.length (pcells st.pairs) * (rowK 25 1 vh st.hs.length (u64s st.hs) * R))) := by
  obtain ⟨⟨vp, vh⟩, h⟩ := h.ex_mul
  exact ⟨vp, vh, h.cast (by simp only [Assn.mul_assoc])⟩
theorem walkAt_shut {w : World} {pw m : Nat} {st : WSt} {R : Assn} {vp vh : Value}
    (h : Sat w (own pw (.cells #[.map (some m), vp, vh] 220 (0, 0)) * (rowK 110 2 vp st.pairs.length (pcells st.pairs) * (rowK 25 1 vh st.hs.length (u64s st.hs) * R)))) : Sat w (walkAt pw m st * R) :=
  Sat.mk_ex_mul (vp, vh) (h.cast (by simp only [Assn.mul_assoc]))
/-- A leaf's word. -/
def leafF (key : Int) (x : Nat) (st : WSt) : Bool × WSt := if 1024 < x then (false, st) else (true, { st with pairs := st.pairs ++ [(key, (x : Int) - 1)] })
/-- One digit's word of a node. -/
def digF (below : Nat → Int → WSt → Bool × WSt) (last : Bool) (key : Int) (d x : Nat) (s : Bool × WSt) : Bool × WSt :=
  if x = 0 then s else if last then ((leafF (4 * key + d) x s.2).1 && s.1, (leafF (4 * key + d) x s.2).2)
  else if s.1 then below x (4 * key + d) s.2 else s
/-- Below a node; the first number: how many levels are left. -/
def belowF (ks : List (Nat × List Nat)) : Nat → Nat → Int → WSt → Bool × WSt
  | 0, _, _, st => (false, st)
  | n + 1, h, key, st =>
    let N := nodeF ks h
    if N.2 then
      let dg := digF (belowF ks n) (n == 0) key
      dg 3 N.1.2.2.2 (dg 2 N.1.2.2.1 (dg 1 N.1.2.1 (dg 0 N.1.1 (true, { st with hs := st.hs ++ [h] }))))
    else (false, st)
end Go.Proofs.Ytnfpkadepomjjaa
