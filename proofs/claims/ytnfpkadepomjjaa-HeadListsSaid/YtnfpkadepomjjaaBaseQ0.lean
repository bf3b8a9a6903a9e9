/- A walk through a tree (package quad) as plain data, and how it lies in memory. -/
import Derived.Test.YtnfpkadepomjjaaBaseMap
import Derived.Test.YtnfpkadepomjjaaBaseArM
import Derived.Test.YtnfpkadepomjjaaBaseAll
import Derived.Test.YtnfpkadepomjjaaAllB
import Derived.Test.YtnfpkadepomjjaaBaseS
import Derived.Test.YtnfpkadepomjjaaBaseC
set_option linter.all false
namespace Go.Proofs.Ytnfpkadepomjjaa
open Go Go.RowKit

/-- Words by their handles, as they lie: handle, words, the slice that has them. -/
abbrev Wds : Type := List (Nat × List Nat × Value)
def wrows : Wds → Assn
  | [] => 1
  | b :: l => rowAt 25 b.2.2 (u64s b.2.1) * wrows l
def went (b : Nat × List Nat × Value) : Int × Value := (b.1, b.2.2)
def wordsAt (m : Nat) (xs : Wds) : Assn := mapUAt m (xs.map went) * wrows xs
theorem wrows_mid (l1 l2 : Wds) (b : Nat × List Nat × Value) : wrows (l1 ++ b :: l2) = rowAt 25 b.2.2 (u64s b.2.1) * wrows (l1 ++ l2) := by
  induction l1 with
  | nil => rfl
  | cons a l1 ih => show rowAt _ _ _ * wrows (l1 ++ b :: l2) = _ * (rowAt _ _ _ * wrows (l1 ++ l2)); rw [ih, Assn.mul_left_comm]
/-- A node's words, and whether it is one. -/
def nodeF (ks : List (Nat × List Nat)) (h : Nat) : (Nat × Nat × Nat × Nat) × Bool := match ks.find? (fun b => b.1 == h) with
  | some (_, [a, b, c, d]) => ((a, b, c, d), !(a == 0 && b == 0 && c == 0 && d == 0))
  | _ => ((0, 0, 0, 0), false)
def keyW (b : Nat × List Nat × Value) : Nat × List Nat := (b.1, b.2.1)
theorem look_went (xs : Wds) (h : Nat) : look (xs.map went) (h : Int) = (xs.find? fun b => b.1 == h).map (·.2.2) := by
  induction xs with
  | nil => rfl
  | cons b l ih =>
    simp only [look, List.map_cons, List.find?_cons, went] at ih ⊢
    by_cases e : b.1 = h
    · simp [e]
    · have e1 : ((b.1 : Int) == (h : Int)) = false := by simpa using fun h' => e (by omega)
      have e2 : (b.1 == h) = false := by simpa using e
      rw [e1, e2]; exact ih
theorem find_keyW (xs : Wds) (h : Nat) : (xs.map keyW).find? (fun b => b.1 == h) = (xs.find? fun b => b.1 == h).map keyW := by
  rw [List.find?_map]; rfl
theorem run_equalIn_arr4 {P : Program} (w : World) (D : Nat) (t e : TypeId) (k : IntKind) (a b c d a' b' c' d' : Int) (ht : P.underlying t = some (.array 4 e))
    (hD : ∀ a b w, (Op.equalIn D e (.int k a) (.int k b)).run P w = .ok (a == b) w)
    (hs : ∀ w, (sizeOf e).run P w = .ok 1 w) (hg : ∀ w, (isAgg e).run P w = .ok false w) :
    (Op.equalIn (D + 1) t (.agg #[.int k a, .int k b, .int k c, .int k d]) (.agg #[.int k a', .int k b', .int k c', .int k d'])).run P w = .ok (a == a' && b == b' && c == c' && d == d') w := by
  simp [Op.equalIn, run_underlying ht, hs, List.range', part, hg, hD, Sem.run_bind]
  by_cases h : a = a' <;> by_cases h2 : b = b' <;> by_cases h3 : c = c' <;> by_cases h4 : d = d' <;> simp_all
def cells4 (n : Nat × Nat × Nat × Nat) : Array Value := #[.int .u64 n.1, .int .u64 n.2.1, .int .u64 n.2.2.1, .int .u64 n.2.2.2]
/-- What a walk has found: pairs of a key and a value, and handles. -/
structure WSt where
  pairs : List (Int × Int)
  hs : List Nat
def pcells (l : List (Int × Int)) : List Value := l.flatMap fun p => [.int .i64 p.1, .int .i64 p.2]
def walkAt (pw m : Nat) (st : WSt) : Assn := Assn.ex fun d : Value × Value =>
  own pw (.cells #[.map (some m), d.1, d.2] 220 (0, 0)) * (rowK 110 2 d.1 st.pairs.length (pcells st.pairs) * rowK 25 1 d.2 st.hs.length (u64s st.hs))
theorem walkAt_open {w : World} {pw m : Nat} {st : WSt} {R : Assn} (h : Sat w (walkAt pw m st * R)) : ∃ vp vh,
    Sat w (own pw (.cells #[.map (some m), vp, vh] 220 (0, 0)) * (rowK 110 2 vp st.pairs.length (pcells st.pairs) * (rowK 25 1 vh st.hs.length (u64s st.hs) * R))) := by
  obtain ⟨⟨vp, vh⟩, h⟩ := h.ex_mul
  exact ⟨vp, vh, h.cast (by simp only [Assn.mul_assoc])⟩
theorem walkAt_shut {w : World} {pw m : Nat} {st : WSt} {R : Assn} {vp vh : Value}
    (h : Sat w (own pw (.cells #[.map (some m), vp, vh] 220 (0, 0)) * (rowK 110 2 vp st.pairs.length (pcells st.pairs) * (rowK 25 1 vh st.hs.length (u64s st.hs) * R)))) : Sat w (walkAt pw m st * R) :=
  Sat.mk_ex_mul (vp, vh) (h.cast (by simp only [Assn.mul_assoc]))
/-- A leaf's word. -/
def leafF (key : Int) (x : Nat) (st : WSt) : Bool × WSt := if 1024 < x then (false, st) else (true, { st with pairs := st.pairs ++ [(key, (x : Int) - 1)] })
/-- One digit's word of a node. -/
def digF (below : Nat → Int → WSt → Bool × WSt) (last : Bool) (key : Int) (d x : Nat) (s : Bool × WSt) : Bool × WSt :=
  if x = 0 then s else if last then ((leafF (4 * key + d) x s.2).1 && s.1, (leafF (4 * key + d) x s.2).2)
  else if s.1 then below x (4 * key + d) s.2 else s
/-- Below a node; the first number: how many levels are left. -/
def belowF (ks : List (Nat × List Nat)) : Nat → Nat → Int → WSt → Bool × WSt
  | 0, _, _, st => (false, st)
  | n + 1, h, key, st =>
    let N := nodeF ks h
    if N.2 then
      let dg := digF (belowF ks n) (n == 0) key
      dg 3 N.1.2.2.2 (dg 2 N.1.2.2.1 (dg 1 N.1.2.1 (dg 0 N.1.1 (true, { st with hs := st.hs ++ [h] }))))
    else (false, st)
end Go.Proofs.Ytnfpkadepomjjaa

/- The blocks of an arena, by their handles: plain laws. -/
namespace Go.Proofs.Ytnfpkadepomjjaa
open Go Go.RowKit Go.Shelf
theorem blkOf_mem {A : Ar} {x : Int} (hx : x ∈ numsOf A) (hi : ArInv A) : ∃ b ∈ A.bs, (b.n : Int) = x ∧ blkOf A.bs x = (b.h, b.ws) := by
  obtain ⟨b, hb, e, _, h2, _⟩ := nums_blk hi (List.Perm.refl _) hx
  exact ⟨b, hb, e, h2⟩
theorem nums_nodup {A : Ar} (hi : ArInv A) : (numsOf A).Nodup := by
  have h1 : (A.bs.map fun b => (b.n : Int)).Nodup := by
    have := hi.apart
    rw [show (A.bs.map fun b => (b.n : Int)) = (A.bs.map (·.n)).map (fun n : Nat => (n : Int)) by rw [List.map_map]; rfl]
    exact List.Pairwise.map _ (fun a b (h : a ≠ b) e => h (by omega)) this
  exact (List.mergeSort_perm _ _).nodup_iff.2 h1
/-- No handle stands twice. -/
theorem allOf_nodup {A : Ar} (hi : ArInv A) : ((allOf A).map (·.1)).Nodup := by
  unfold allOf
  rw [List.map_map]
  refine List.Pairwise.map _ (R := fun a b => a ≠ b ∧ a ∈ numsOf A ∧ b ∈ numsOf A) ?_ ?_
  · rintro a b ⟨hab, ha, hb⟩ e
    obtain ⟨c, hc, ec, h1⟩ := blkOf_mem ha hi
    obtain ⟨d, hd, ed, h2⟩ := blkOf_mem hb hi
    simp only [Function.comp, h1, h2] at e
    have := handle_inj hi hc hd e
    subst this
    exact hab (ec.symm.trans ed)
  · exact (List.pairwise_iff_forall_sublist.2 fun {a b} hs => ⟨(List.pairwise_iff_forall_sublist.1 (nums_nodup hi)) hs, hs.subset (by simp), hs.subset (by simp)⟩)
theorem allOf_words {A : Ar} (hi : ArInv A) : ∀ k ∈ allOf A, (∀ x ∈ k.2, x < TW) ∧ k.1 < TW := by
  intro k hk
  obtain ⟨x, hx, rfl⟩ := List.mem_map.1 hk
  obtain ⟨b, hb, _, h1⟩ := blkOf_mem hx hi
  obtain ⟨b', hb', _, _, h2, _, _, h3⟩ := nums_blk hi (List.Perm.refl _) hx
  rw [h1] at h2
  rw [h1]
  refine ⟨hi.words b hb, ?_⟩
  have : b.h = b'.h := congrArg Prod.fst h2
  show b.h < TW
  omega
theorem look_new {A : Ar} (hi : ArInv A) {pre : Wds} {b : Nat × List Nat × Value} (hp : (pre ++ [b]).map keyW <+: allOf A) : look (pre.map went) (b.1 : Int) = none := by
  rw [look_went, Option.map_eq_none_iff, List.find?_eq_none]
  intro c hc e
  have h1 := (allOf_nodup hi)
  obtain ⟨t, ht⟩ := hp
  rw [← ht] at h1
  simp only [List.map_append, List.nodup_append] at h1
  have h2 := h1.1.2.2 c.1 (List.mem_map.2 ⟨keyW c, List.mem_map.2 ⟨c, hc, rfl⟩, rfl⟩) b.1 (by simp [keyW])
  exact h2 (by simpa using e)
/-- The blocks, in whatever order. -/
def blksQ (A : Ar) : List (Nat × List Nat) := A.bs.map fun b => (b.h, b.ws)
theorem allOf_perm {A : Ar} (hi : ArInv A) : (allOf A).Perm (blksQ A) := by
  have h1 : (allOf A).Perm ((A.bs.map fun b => (b.n : Int)).map (blkOf A.bs)) := (List.mergeSort_perm _ _).map _
  refine h1.trans (List.Perm.of_eq ?_)
  unfold blksQ
  rw [List.map_map]
  refine List.map_congr_left fun b hb => ?_
  simp only [Function.comp, blkOf, find_n hi.apart hb]
theorem find_perm {l m : List (Nat × List Nat)} (hp : l.Perm m) (hn : (l.map (·.1)).Nodup) (h : Nat) : l.find? (fun b => b.1 == h) = m.find? (fun b => b.1 == h) := by
  have key : ∀ (l : List (Nat × List Nat)), (l.map (·.1)).Nodup → ∀ b, l.find? (fun b => b.1 == h) = some b ↔ b ∈ l ∧ b.1 = h := by
    intro l hn b
    constructor
    · intro e; exact ⟨List.mem_of_find?_eq_some e, by simpa using List.find?_some e⟩
    · rintro ⟨hb, rfl⟩
      induction l with
      | nil => cases hb
      | cons a l ih =>
        simp only [List.map_cons, List.nodup_cons, List.mem_map] at hn
        rw [List.find?_cons]
        rcases List.mem_cons.1 hb with rfl | hb'
        · simp
        · have : (a.1 == b.1) = false := by simpa using fun e => hn.1 ⟨b, hb', e.symm⟩
          rw [this]
          exact ih hn.2 hb'
  have hn2 : (m.map (·.1)).Nodup := (hp.map _).nodup_iff.1 hn
  cases hl : l.find? (fun b => b.1 == h) with
  | some b =>
    have := (key l hn b).1 hl
    exact ((key m hn2 b).2 ⟨hp.mem_iff.1 this.1, this.2⟩).symm
  | none =>
    symm
    rw [List.find?_eq_none] at hl ⊢
    exact fun x hx => hl x (hp.mem_iff.2 hx)
end Go.Proofs.Ytnfpkadepomjjaa

/- Rows that a call which reads an arena hands back. -/
namespace Go.Proofs.Ytnfpkadepomjjaa
open Go Go.RowKit

/-- A call that reads an arena and hands back a row of its own, or nothing, and a flag. -/
theorem gives_rowK {g : FuncId} {args : List SV} {m : MX} {K : SV → MX → Prop} {n : Nat} {A : Ar} (hA : m.hp.get n = some (arO A)) {T : TypeId} {k cnt : Nat} {xs : List Value} {bo : Bool}
    (hc : ∀ ν w R, Sat w (arAt (ν n) A * R) → Calls Try.prog g (args.map (SV.den ν)).toArray w fun e w' => Kept w w' ∧
      ((bo = false ∧ e = .returned (.tuple #[.slice none 0 0, .bool false]) ∧ Sat w' (arAt (ν n) A * R)) ∨ (bo = true ∧ ∃ v, e = .returned (.tuple #[v, .bool true]) ∧ Sat w' (rowK T k v cnt xs * (arAt (ν n) A * R)))))
    (h0 : bo = false → K (.tup [(false, [.nls]), okB false]) m) (h1 : bo = true → cnt = 0 → K (.tup [(false, [.nls]), okB true]) m)
    (h2 : bo = true → ∀ cap, cnt ≤ cap → ∃ (o : SO XE) (ll : Bool), (∀ ν b w R, Sat w (rowHead b T k cnt cap xs * R) → Sat w (o.den ν b * R)) ∧ newOk m o = true ∧ K (.tup [(false, [.sli m.nx k true 0 ll cnt cap]), okB true]) (withNew m o)) :
    Gives Try.prog g args m K := fun ν w R w0 H HK => by
  rw [SH.den_get ν hA, Assn.mul_assoc] at H
  refine (hc ν w _ H).mono ?_
  rintro e w' ⟨hk', ⟨hb, he, hs⟩ | ⟨hb, v, he, hs⟩⟩
  · refine ⟨_, m, ν, h0 hb, Agree.refl _ _, Nat.le_refl _, by rw [he]; rfl, ?_, HK.trans hk'⟩
    rw [SH.den_get ν hA, Assn.mul_assoc]
    exact hs
  · by_cases hv : v = .slice none 0 0
    · subst hv
      obtain ⟨_, hz⟩ := rowK_open hs
      have hcnt : cnt = 0 := by
        rcases hz with ⟨_, h, _⟩ | ⟨_, _, _, h, _⟩
        · exact h
        · cases h
      refine ⟨_, m, ν, h1 hb hcnt, Agree.refl _ _, Nat.le_refl _, by rw [he]; rfl, ?_, HK.trans hk'⟩
      rw [SH.den_get ν hA, Assn.mul_assoc]
      exact hs.right
    · obtain ⟨b, cap, rfl, hcap, hs2⟩ := rowK_head hs hv
      obtain ⟨o, ll, ho, hn, hk⟩ := h2 hb cap hcap
      refine ⟨_, _, upd ν m.nx b, hk, Agree.upd (Nat.le_refl _) _, Nat.le_succ _, ?_, withNew_sat hn ?_, HK.trans hk'⟩
      · rw [he]
        simp [SV.den, SC.den, SC.denL, partDen, okB, upd_same]
      · refine (ho ν b w' _ hs2).cast ?_
        rw [SH.den_get ν hA, Assn.mul_assoc]
        rfl
def pairF (l : List (Int × Int)) (i : Nat) : List Value := [.int .i64 (l.getD i (0, 0)).1, .int .i64 (l.getD i (0, 0)).2]
theorem pcells_vals (l : List (Int × Int)) : pcells l = valsOf l.length (pairF l) := by
  unfold pcells valsOf
  rw [Go.Deep.flatMap_by_index l (0, 0)]
  rfl
theorem u64s_ints (l : List Nat) : u64s l = intsOf .u64 l.length fun i => ((l.getD i 0 : Nat) : Int) := by
  unfold u64s intsOf
  rw [Go.Deep.map_by_index l 0]
def pairC : List (Int × Int) → List SC
  | [] => []
  | (a, b) :: l => .int true .i64 a :: .int true .i64 b :: pairC l
theorem pairC_den (ν : Nat → Nat) : ∀ l, SC.denL ν (pairC l) = pcells l
  | [] => rfl
  | (a, b) :: l => by
    have := pairC_den ν l
    simp only [pairC, SC.denL, SC.den, this]
    rfl
def natC : List Nat → List SC
  | [] => []
  | a :: l => .int true .u64 (a : Int) :: natC l
theorem natC_den (ν : Nat → Nat) : ∀ l, SC.denL ν (natC l) = u64s l
  | [] => rfl
  | a :: l => by
    have := natC_den ν l
    simp only [natC, SC.denL, SC.den, this]
    rfl
end Go.Proofs.Ytnfpkadepomjjaa
