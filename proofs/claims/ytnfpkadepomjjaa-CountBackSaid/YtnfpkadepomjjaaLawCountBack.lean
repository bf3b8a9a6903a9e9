/- CountBack: for all slices of bytes the law returns true and turns nothing that was there; condition: the slices are read as numbers of one byte. -/
import Derived.Test.YtnfpkadepomjjaaCntN
import Derived.Test.YtnfpkadepomjjaaCntL
import Derived.Test.YtnfpkadepomjjaaBlkF
import Derived.Test.YtnfpkadepomjjaaBaseC
import Derived.Test.YtnfpkadepomjjaaFirst12
import Derived.Test.YtnfpkadepomjjaaBaseSeg
set_option linter.all false
namespace Go.Proofs.Ytnfpkadepomjjaa
open Go Go.RowKit
set_option maxRecDepth 1000000
set_option maxHeartbeats 0
abbrev XN : EXT := XE.hid (cntHg xIn)
def tblCB : List (Smry Try.prog XN) := [firstS 60 (fun W => law_true first12 W), segsX.lift, cnStep xIn, cnDone xIn, cnEnter xIn, cnExit xIn, blocksF (xUp xIn (cntHg xIn)), faultsX.lift, rsegS]
def allN : List Nat := (List.range 1500).map (· + 1)
abbrev arN (A : Ar) : SO XN := .ext (HO.old (XO.ar A))
abbrev csO (n len : Nat) (c : Nat → Option Cnt) : SO XN := .ext (HO.all [n] 41 len len c)
abbrev inO (len : Nat) (f : Nat → Bool) : SO XN := .vals 4 1 len len (fun j => [.bool (f j)])
def hB (n cap len : Nat) (A : Ar) (c : Nat → Option Cnt) (f : Nat → Bool) : List (Nat × SO XN) := [(n, arN A), (n + 1, .ints 25 .u64 4 cap hsF), (n + 2, csO n len c), (n + 3, inO len f)]
def sB (n cap len : Nat) : List (Nat × SV) := [(5, .c (.ptr n 0)), (7, .c (.sli (n + 1) 1 true 0 true 4 cap)), (8, .c (.sli (n + 2) 1 true 0 false len len)), (9, .c (.sli (n + 3) 1 true 0 false len len))]
structure B1 (W : World) (a : Option Addr) (len plen : Nat) where
  k : Nat
  cap : Nat
  A0 : Ar
  A : Ar
  c : Nat → Option Cnt
  f : Nat → Bool
  hk : k ≤ plen
  hc : 4 ≤ cap
  h0 : SegOk 4 A0
  hi : CtInv A0 (slF W a) len c A
  hf : ∀ j, j < len → f j = isInC (c j)
structure B2 (W : World) (a : Option Addr) (len : Nat) where
  i : Nat
  cap : Nat
  A0 : Ar
  A : Ar
  c : Nat → Option Cnt
  f : Nat → Bool
  hk : i ≤ len
  hc : 4 ≤ cap
  h0 : SegOk 4 A0
  hi : CtInv A0 (slF W a) len c A
  hf : ∀ j, i ≤ j → j < len → f j = isInC (c j)
  ho : ∀ j, j < i → doneC (c j) = true ∧ isInC (c j) = false
def Prog (o : Option Cnt) (j : Nat) : Prop := ∀ st, o = some st → min j st.last ≤ st.first
structure B3 {W : World} {a : Option Addr} {len : Nat} (y : B2 W a len) (b : Bool) where
  j : Nat
  A : Ar
  c : Nat → Option Cnt
  p1 : Int
  p2 : Int
  hj : j ≤ 20
  hp1 : p1 = ((segG (slF W a y.i) + 1) * 65537 : Nat)
  hp2 : p2 = (slF W a y.i : Nat)
  hi : CtInv y.A0 (slF W a) len c A
  oth : ∀ q, q ≠ y.i → c q = y.c q
  pr : Prog (c y.i) j
  inn : isInC (c y.i) = b
def iB1 {W : World} {a : Option Addr} {len plen : Nat} (n : Nat) (y : B1 W a len plen) : List (Nat × SV) × List (Nat × SO XN) := ((48, .c (.int false .i64 (y.k : Int))) :: sB n y.cap len, hB n y.cap len y.A y.c y.f)
def iB2 {W : World} {a : Option Addr} {len : Nat} (n : Nat) (y : B2 W a len) : List (Nat × SV) × List (Nat × SO XN) := ((102, .c (.int false .i64 (y.i : Int))) :: sB n y.cap len, hB n y.cap len y.A y.c y.f)
def iB3 (t : Nat) {W : World} {a : Option Addr} {len : Nat} (y : B2 W a len) (b : Bool) (n : Nat) (z : B3 y b) : List (Nat × SV) × List (Nat × SO XN) :=
  ((t, .c (.int false .i64 (z.j : Int))) :: (15, .c (.ptr (n + 4) 0)) :: sB n y.cap len, hB n y.cap len z.A z.c y.f ++ [(n + 4, .cells [.int false .u64 z.p1, .int false .i64 z.p2] 44)])
def iB4 {W : World} {a : Option Addr} {len : Nat} (y : B2 W a len) (n : Nat) (z : {j : Nat // j ≤ 9}) : List (Nat × SV) × List (Nat × SO XN) := ([(5, .c (.ptr n 0)), (149, .c (.int false .i64 (z.1 : Int)))], [(n, arN y.A)])
def iB5 {W : World} {a : Option Addr} {len : Nat} (y : B2 W a len) (q n : Nat) (z : {j : Nat // j ≤ q}) : List (Nat × SV) × List (Nat × SO XN) := ([(5, .c (.ptr n 0)), (156, .c (.int false .i64 (z.1 : Int)))], [(n, arN y.A)])
def restB {W : World} {a : Option Addr} {len : Nat} (y : B2 W a len) : Scr XN := .inv (liveL [5, 147, 148, 149]) allN {j : Nat // j ≤ 9} (iB4 y) (fun z => 9 - z.1) fun _ => .both
    (.inv (liveL [5, 147, 148, 149, 154, 155, 156]) allN {j : Nat // j ≤ 2048} (iB5 y 2048) (fun z => 2048 - z.1) fun _ => .both (.f .nil) .nil)
    .nil
def endB {W : World} {a : Option Addr} {len : Nat} (y : B2 W a len) : Scr XN := .inv (liveL [0, 5, 7, 8, 9, 14, 15, 100, 101, 102, 131]) allN (B3 y false) (iB3 131 y false) (fun z => 20 - z.j) fun _ => .both
  (.ghost 32 (focusG 8 14) (.ghost 33 (foldG 8) .nil))
  (.ghost 34 (focusG 8 14) (.f (.ghost 36 (foldG 8) .nil)))
def loop2 {W : World} {a : Option Addr} {len : Nat} : Scr XN := .inv (liveL [0, 5, 7, 8, 9, 100, 101, 102]) allN (B2 W a len) iB2 (fun y => len - y.i) fun y => .both
  (.f (.inv (liveL [0, 5, 7, 8, 9, 14, 15, 100, 101, 102, 113]) allN (B3 y (isInC (y.c y.i))) (iB3 113 y (isInC (y.c y.i))) (fun z => 20 - z.j) fun _ => .both
    (.ghost 26 (focusG 8 14) (.ghost 27 (foldG 8) .nil))
    (.both (.ghost 29 (focusG 8 14) (.ghost 30 (foldG 8) (endB y))) (endB y))))
  (restB y)
def scrB (W : World) (a : Option Addr) (len plen : Nat) : Scr XN := .both .nil (.both .nil (.both .nil (.ghost 8 (nilsG 8 [5]) (.inv (liveL [0, 5, 7, 8, 9, 46, 47, 48]) allN (B1 W a len plen) iB1 (fun y => plen - y.k) fun y => .both
  (.f (.ghost 13 (focusG 8 12) (.both (.both (.ghost 19 (foldG 8) .nil) (.ghost 19 (foldG 8) .nil)) (.ghost 19 (foldG 8) .nil))))
  (loop2 (W := W) (a := a) (len := len))))))

theorem ar_find_mem {A : Ar} (hi : ArInv A) {b : Blk} (hb : b ∈ A.bs) : A.find b.h = some b := by
  have key : ∀ l : List Blk, (l.map fun b => b.h / 65536).Nodup → b ∈ l → l.find? (fun c => c.h == b.h) = some b := by
    intro l
    induction l with
    | nil => intro _ h; cases h
    | cons x l ih =>
      intro hn h
      rw [List.map_cons, List.nodup_cons] at hn
      rw [List.find?_cons]
      by_cases e : x.h = b.h
      · rw [beq_iff_eq.2 e]
        rcases List.mem_cons.1 h with rfl | h
        · rfl
        · exfalso
          exact hn.1 (List.mem_map.2 ⟨b, h, by rw [e]⟩)
      · rw [beq_eq_false_iff_ne.2 e]
        rcases List.mem_cons.1 h with rfl | h
        · exact absurd rfl e
        · exact ih hn.2 h
  exact key A.bs hi.births' hb
theorem all_mem {A : Ar} (hi : ArInv A) {p : Nat × List Nat} (hp : p ∈ allOf A) : ∃ b ∈ A.bs, p = (b.h, b.ws) := by
  unfold allOf numsOf at hp
  simp only [List.mem_map] at hp
  obtain ⟨z, hz, rfl⟩ := hp
  rw [(List.mergeSort_perm _ _).mem_iff] at hz
  simp only [List.mem_map] at hz
  obtain ⟨b, hb, rfl⟩ := hz
  exact ⟨b, hb, by simp only [blkOf, find_n hi.apart hb]⟩
theorem all_zero {A0 A : Ar} {σ : Nat → Nat} {n : Nat} {c : Nat → Option Cnt} (h0 : SegOk 4 A0) (h : CtInv A0 σ n c A) (ho : ∀ j, j < n → doneC (c j) = true ∧ isInC (c j) = false) (hi : ArInv A) {p : Nat × List Nat} (hp : p ∈ allOf A) :
    p.2.length ≤ 2048 ∧ ∀ (k u : Nat), p.2[k]? = some u → u = 0 := by
  obtain ⟨b, hb, rfl⟩ := all_mem hi hp
  obtain ⟨r1, r2, r3, r4, r5, r6, r7⟩ := hi.range b hb
  refine ⟨r7, fun k u hu => ?_⟩
  have h1 : b.h ≠ 0 := by omega
  refine h.out h0 ho (k := b.h) (i := k) h1 ?_
  unfold Ar.word
  rw [if_neg h1, ar_find_mem hi hb]
  exact hu
section
variable {W : World} {a : Option Addr} {len plen : Nat}
theorem putC_eq (c : Nat → Option Cnt) (i : Nat) (o : Option Cnt) : putC c i o = fun j => if j = i then o else c j := rfl
theorem isInC_step (st : Cnt) : isInC (some (stepC st)) = isInC (some st) := by
  unfold stepC
  split <;> rfl
theorem B1.step (y : B1 W a len plen) (h12 : len ≤ 12) (hk : y.k < plen) {i : Nat} (hi : i < len) {st : Cnt} (hc : y.c i = some st) : CntOk st y.A ∧ ∃ y' : B1 W a len plen, plen - y'.k < plen - y.k ∧ (y'.k : Int) = (y.k : Int) + 1 ∧ y'.cap = y.cap ∧ y'.A = stepA st y.A ∧
    (y'.c = fun j => if j = i then some (stepC st) else y.c j) ∧ ∀ j, j < len → y'.f j = y.f j := by
  refine ⟨y.hi.okS y.h0 (slF_le W a) hi hc, ⟨y.k + 1, y.cap, y.A0, stepA st y.A, putC y.c i (some (stepC st)), y.f, hk, y.hc, y.h0, y.hi.step y.h0 (slF_le W a) (by omega) hi hc, fun j hj => ?_⟩, by dsimp only; omega, rfl, rfl, rfl, rfl, fun _ _ => rfl⟩
  rw [y.hf j hj]
  unfold putC
  by_cases e : j = i
  · subst e
    rw [if_pos rfl, isInC_step, hc]
  · rw [if_neg e]
theorem B1.turn (y : B1 W a len plen) (h12 : len ≤ 12) (hk : y.k < plen) {i : Nat} (hi : i < len) (hd : doneC (y.c i) = true) {b : Bool} (hb : y.f i = b) {st : Cnt} (hst : st = freshC (slF W a i) (if b = true then fullB else 1)) : CntOk st y.A ∧ ∃ y' : B1 W a len plen, plen - y'.k < plen - y.k ∧ (y'.k : Int) = (y.k : Int) + 1 ∧ y'.cap = y.cap ∧ y'.A = stepA st y.A ∧
    (y'.c = fun j => if j = i then some (stepC st) else y.c j) ∧ ∀ j, j < len → y'.f j = if j = i then !y.f i else y.f j := by
  have hct : CtInv y.A0 (slF W a) len (putC y.c i (some st)) y.A := by
    subst hst
    cases b with
    | true => exact y.hi.exit hi hd (by rw [← y.hf i hi]; exact hb)
    | false => exact y.hi.enter hi hd (by rw [← y.hf i hi]; exact hb)
  have hc : putC y.c i (some st) i = some st := if_pos rfl
  refine ⟨hct.okS y.h0 (slF_le W a) hi hc, ⟨y.k + 1, y.cap, y.A0, stepA st y.A, putC (putC y.c i (some st)) i (some (stepC st)), fun j => if j = i then !y.f i else y.f j, hk, y.hc, y.h0, hct.step y.h0 (slF_le W a) (by omega) hi hc, fun j hj => ?_⟩, by dsimp only; omega, rfl, rfl, rfl, ?_, fun _ _ => rfl⟩
  · unfold putC
    by_cases e : j = i
    · subst e
      rw [if_pos rfl, if_pos rfl, isInC_step, hb, hst]
      cases b <;> rfl
    · rw [if_neg e, if_neg e, if_neg e]
      exact y.hf j hj
  · funext j
    unfold putC
    dsimp only
    by_cases e : j = i
    · rw [if_pos e, if_pos e]
    · rw [if_neg e, if_neg e, if_neg e]
theorem B1.still (y : B1 W a len plen) (hk : y.k < plen) {i : Nat} (hc : y.c i = none) : ∃ y' : B1 W a len plen, plen - y'.k < plen - y.k ∧ (y'.k : Int) = (y.k : Int) + 1 ∧ y'.cap = y.cap ∧ y'.A = y.A ∧
    (y'.c = fun j => if j = i then none else y.c j) ∧ ∀ j, j < len → y'.f j = y.f j := by
  refine ⟨⟨y.k + 1, y.cap, y.A0, y.A, y.c, y.f, hk, y.hc, y.h0, y.hi, y.hf⟩, by dsimp only; omega, rfl, rfl, rfl, ?_, fun _ _ => rfl⟩
  funext j
  by_cases e : j = i
  · rw [if_pos e, e]; exact hc
  · rw [if_neg e]
theorem B1.toB2 (y : B1 W a len plen) : ∃ y' : B2 W a len, y'.i = 0 ∧ y'.cap = y.cap ∧ y'.A = y.A ∧ y'.c = y.c ∧ ∀ j, j < len → y'.f j = y.f j :=
  ⟨⟨0, y.cap, y.A0, y.A, y.c, y.f, Nat.zero_le _, y.hc, y.h0, y.hi, fun j _ hj => y.hf j hj, fun j hj => absurd hj (Nat.not_lt_zero j)⟩, rfl, rfl, rfl, rfl, fun _ _ => rfl⟩
theorem B2.toB3 (y : B2 W a len) (hi : y.i < len) {p1 p2 : Int} (h1 : p1 = ((segG (slF W a y.i) + 1) * 65537 : Nat)) (h2 : p2 = (slF W a y.i : Nat)) : ∃ z : B3 y (isInC (y.c y.i)), z.j = 0 ∧ z.A = y.A ∧ z.c = y.c ∧ z.p1 = p1 ∧ z.p2 = p2 :=
  ⟨⟨0, y.A, y.c, p1, p2, by omega, h1, h2, y.hi, fun _ _ => rfl, fun st _ => by rw [Nat.zero_min]; exact Nat.zero_le _, rfl⟩, rfl, rfl, rfl, rfl, rfl⟩
theorem B3.step {y : B2 W a len} {b : Bool} (z : B3 y b) (h12 : len ≤ 12) (hi : y.i < len) (hj : z.j < 20) {st : Cnt} (hc : z.c y.i = some st) : CntOk st z.A ∧ ∃ z' : B3 y b, 20 - z'.j < 20 - z.j ∧ (z'.j : Int) = (z.j : Int) + 1 ∧ z'.A = stepA st z.A ∧
    (z'.c = fun j => if j = y.i then some (stepC st) else z.c j) ∧ z'.p1 = z.p1 ∧ z'.p2 = z.p2 := by
  refine ⟨z.hi.okS y.h0 (slF_le W a) hi hc, ⟨z.j + 1, stepA st z.A, putC z.c y.i (some (stepC st)), z.p1, z.p2, hj, z.hp1, z.hp2, z.hi.step y.h0 (slF_le W a) (by omega) hi hc, fun q hq => ?_, fun st' h' => ?_, ?_⟩, by dsimp only; omega, rfl, rfl, rfl, rfl, rfl⟩
  · rw [putC, if_neg hq]
    exact z.oth q hq
  · rw [putC, if_pos rfl] at h'
    cases h'
    have := z.pr st hc
    unfold stepC
    split <;> (try dsimp only) <;> omega
  · rw [putC, if_pos rfl, isInC_step, ← hc]
    exact z.inn
theorem B3.still {y : B2 W a len} {b : Bool} (z : B3 y b) (hj : z.j < 20) (hc : z.c y.i = none) : ∃ z' : B3 y b, 20 - z'.j < 20 - z.j ∧ (z'.j : Int) = (z.j : Int) + 1 ∧ z'.A = z.A ∧
    (z'.c = fun j => if j = y.i then none else z.c j) ∧ z'.p1 = z.p1 ∧ z'.p2 = z.p2 := by
  refine ⟨⟨z.j + 1, z.A, z.c, z.p1, z.p2, hj, z.hp1, z.hp2, z.hi, z.oth, fun st h => (by rw [hc] at h; cases h), z.inn⟩, by dsimp only; omega, rfl, rfl, ?_, rfl, rfl⟩
  funext j
  by_cases e : j = y.i
  · rw [if_pos e, e]; exact hc
  · rw [if_neg e]
theorem B3.done {y : B2 W a len} {b : Bool} (z : B3 y b) (hi : y.i < len) (hj : 20 ≤ z.j) : doneC (z.c y.i) = true := by
  cases hc : z.c y.i with
  | none => rfl
  | some st =>
    have h1 := z.pr st hc
    obtain ⟨_, _, e3, _, _⟩ := z.hi.ok y.i hi st hc
    have := segG_14 (slF_le W a y.i)
    exact decide_eq_true (by omega)
theorem B3.exit {y : B2 W a len} (z : B3 y (isInC (y.c y.i))) (hi : y.i < len) (hj : 20 ≤ z.j) (hf : y.f y.i = true) {st : Cnt} (hst : st = freshC (slF W a y.i) fullB) : ∃ z' : B3 y false, z'.j = 0 ∧ z'.A = z.A ∧
    (z'.c = fun j => if j = y.i then some st else z.c j) ∧ z'.p1 = z.p1 ∧ z'.p2 = z.p2 := by
  subst hst
  have hin : isInC (z.c y.i) = true := by rw [z.inn, ← y.hf y.i (Nat.le_refl _) hi]; exact hf
  refine ⟨⟨0, z.A, putC z.c y.i (some (freshC (slF W a y.i) fullB)), z.p1, z.p2, by omega, z.hp1, z.hp2, z.hi.exit hi (z.done hi hj) hin, fun q hq => ?_, fun st _ => by rw [Nat.zero_min]; exact Nat.zero_le _, ?_⟩, rfl, rfl, rfl, rfl, rfl⟩
  · rw [putC, if_neg hq]
    exact z.oth q hq
  · rw [putC, if_pos rfl]
    rfl
theorem B3.stay {y : B2 W a len} (z : B3 y (isInC (y.c y.i))) (hi : y.i < len) (hf : y.f y.i = false) : ∃ z' : B3 y false, z'.j = 0 ∧ z'.A = z.A ∧ z'.c = z.c ∧ z'.p1 = z.p1 ∧ z'.p2 = z.p2 := by
  refine ⟨⟨0, z.A, z.c, z.p1, z.p2, by omega, z.hp1, z.hp2, z.hi, z.oth, fun st _ => by rw [Nat.zero_min]; exact Nat.zero_le _, ?_⟩, rfl, rfl, rfl, rfl, rfl⟩
  rw [z.inn, ← y.hf y.i (Nat.le_refl _) hi]
  exact hf
theorem B3.last {y : B2 W a len} (z : B3 y false) (hi : y.i < len) (hj : 20 ≤ z.j) {o : Option Cnt} (ho : z.c y.i = o) : ∃ y' : B2 W a len, len - y'.i < len - y.i ∧ (y'.i : Int) = (y.i : Int) + 1 ∧ y'.cap = y.cap ∧ y'.A = z.A ∧
    (y'.c = fun j => if j = y.i then o else z.c j) ∧ ∀ j, j < len → y'.f j = y.f j := by
  refine ⟨⟨y.i + 1, y.cap, y.A0, z.A, z.c, y.f, hi, y.hc, y.h0, z.hi, fun j h1 h2 => ?_, fun j h1 => ?_⟩, by dsimp only; omega, rfl, rfl, rfl, ?_, fun _ _ => rfl⟩
  · rw [z.oth j (by omega)]
    exact y.hf j (by omega) h2
  · by_cases e : j = y.i
    · subst e
      exact ⟨z.done hi hj, z.inn⟩
    · rw [z.oth j e]
      exact y.ho j (by omega)
  · funext j
    by_cases e : j = y.i
    · rw [if_pos e, e]; exact ho
    · rw [if_neg e]
theorem mod_slot (len : Nat) {v : Int} (h0 : 0 ≤ v) (hl : 0 < len) : ∃ i : Nat, v % (len : Int) = (i : Int) ∧ i < len := by
  have h1 := Int.emod_nonneg v (show (len : Int) ≠ 0 by omega)
  have h2 := Int.emod_lt_of_pos v (show 0 < (len : Int) by omega)
  exact ⟨(v % (len : Int)).toNat, by omega, by omega⟩
theorem hs_fresh {s : Int} {n : Nat} (h : s.toNat = n) : (hsF (segG s.toNat)).toNat = (segG n + 1) * 65537 := by
  subst h
  unfold hsF
  rw [Int.toNat_natCast]
end
/-- What the executor leaves to be shown of roundelay/roundelaylaw12.CountBack, written out. -/
theorem countBack_vc (W : World) (a : Option Addr) (len cap : Nat) (pa : Option Addr) (plen pcap : Nat) : (callN Try.prog (tblCB : List (Smry Try.prog XN)) (fun _ _ => false) 100 20 9 [.c (.sliv a false len cap), .c (.sliv pa false plen pcap)] ⟨[(0, .seen W)], 1⟩ (scrB W a len plen) (fun v m _ => retGrow W v m)) = (
    (((↑len : Int) == (0 : Int)) = true → true = true ∧ ∃ (W' : World), some W = some W' ∧ Grow W W') ∧ (((↑len : Int) == (0 : Int)) = false → (decide ((↑len : Int) > (12 : Int)) = true
    → true = true ∧ ∃ (W' : World), some W = some W' ∧ Grow W W') ∧ (decide ((↑len : Int) > (12 : Int)) = false → (decide ((↑plen : Int) > (300 : Int)) = true → true = true ∧ ∃ (W' :
    World), some W = some W' ∧ Grow W W') ∧ (decide ((↑plen : Int) > (300 : Int)) = false → ∀ (A : Ar) (cap_1 : Nat) (z : Nat → Int) (ad : Option Addr) (ln cp : Nat), SegOk (4 : Nat) A
    → (4 : Nat) ≤ cap_1 → (↑len : Int) = (↑len : Int) ∧ (0 : Int) ≤ (↑len : Int) ∧ (8 : Int) * (↑len : Int) ≤ (281474976710656 : Int) ∧ (↑len : Int) ≤ (1000000000 : Int) ∧ (↑len : Int)
    = (↑len : Int) ∧ (0 : Int) ≤ (↑len : Int) ∧ (1 : Int) * (↑len : Int) ≤ (281474976710656 : Int) ∧ (↑len : Int) ≤ (1000000000 : Int) ∧ (∀ (j : Nat), j < (↑len : Int).toNat →
    [Value.pointer none] = [Value.pointer none]) ∧ (∃ (y : B1 W a len plen), a = a ∧ len = len ∧ cap = cap ∧ pa = pa ∧ plen = plen ∧ pcap = pcap ∧ (↑plen : Int) = (↑plen : Int) ∧ W = W
    ∧ (↑y.k : Int) = (0 : Int) ∧ (0 : Nat) = (0 : Nat) ∧ y.cap = cap_1 ∧ (0 : Nat) = (0 : Nat) ∧ len = (↑len : Int).toNat ∧ len = (↑len : Int).toNat ∧ (0 : Nat) = (0 : Nat) ∧ len =
    (↑len : Int).toNat ∧ len = (↑len : Int).toNat ∧ y.A = A ∧ ((4 : Nat) = (4 : Nat) ∧ y.cap = cap_1 ∧ ∀ (i : Nat), i < (4 : Nat) → hsF i = hsF i) ∧ (len = (↑len : Int).toNat ∧ len =
    (↑len : Int).toNat ∧ y.c = fun (x : Nat) => none) ∧ (len = (↑len : Int).toNat ∧ len = (↑len : Int).toNat ∧ ∀ (i : Nat), i < len → [Value.bool (y.f i)] = [Value.bool false]) ∧ True)
    ∧ ∀ (y : B1 W a len plen) (ρ : Nat → Value), (decide ((↑y.k : Int) < (↑plen : Int)) = true → ((0 : Int) ≤ (↑y.k : Int) ∧ (↑y.k : Int) < (↑plen : Int) ∧ pa.isSome = true) ∧ (∃ (x :
    Addr), addOpt pa (↑y.k : Int).toNat = some x ∧ W.cell? x = some (Value.int IntKind.u8 (seenInt IntKind.u8 W (addOpt pa (↑y.k : Int).toNat)))) ∧ ((0 : Int) ≤ seenInt IntKind.u8 W
    (addOpt pa (↑y.k : Int).toNat) ∧ (0 : Int) < (↑len : Int)) ∧ ((0 : Int) ≤ seenInt IntKind.u8 W (addOpt pa (↑y.k : Int).toNat) % (↑len : Int) ∧ seenInt IntKind.u8 W (addOpt pa (↑y.k
    : Int).toNat) % (↑len : Int) < (↑len : Int) ∧ a.isSome = true) ∧ (∃ (x : Addr), addOpt a (seenInt IntKind.u8 W (addOpt pa (↑y.k : Int).toNat) % (↑len : Int)).toNat = some x ∧
    W.cell? x = some (Value.int IntKind.u8 (seenInt IntKind.u8 W (addOpt a (seenInt IntKind.u8 W (addOpt pa (↑y.k : Int).toNat) % (↑len : Int)).toNat)))) ∧ decide ((↑(segG (seenInt
    IntKind.u8 W (addOpt a (seenInt IntKind.u8 W (addOpt pa (↑y.k : Int).toNat) % (↑len : Int)).toNat) % (15 : Int)).toNat) : Int) ≥ (4 : Int)) = false ∧ ((0 : Int) ≤ (↑(segG (seenInt
    IntKind.u8 W (addOpt a (seenInt IntKind.u8 W (addOpt pa (↑y.k : Int).toNat) % (↑len : Int)).toNat) % (15 : Int)).toNat) : Int) ∧ (↑(segG (seenInt IntKind.u8 W (addOpt a (seenInt
    IntKind.u8 W (addOpt pa (↑y.k : Int).toNat) % (↑len : Int)).toNat) % (15 : Int)).toNat) : Int) < (4 : Int)) ∧ addO true (0 : Nat) (↑(segG (seenInt IntKind.u8 W (addOpt a (seenInt
    IntKind.u8 W (addOpt pa (↑y.k : Int).toNat) % (↑len : Int)).toNat) % (15 : Int)).toNat) : Int).toNat < (4 : Nat) ∧ ((0 : Int) ≤ seenInt IntKind.u8 W (addOpt pa (↑y.k : Int).toNat) %
    (↑len : Int) ∧ seenInt IntKind.u8 W (addOpt pa (↑y.k : Int).toNat) % (↑len : Int) < (↑len : Int)) ∧ ∀ (g : Nat → List Value), (y.c (seenInt IntKind.u8 W (addOpt pa (↑y.k :
    Int).toNat) % (↑len : Int)).toNat = none → ((0 : Int) ≤ seenInt IntKind.u8 W (addOpt pa (↑y.k : Int).toNat) % (↑len : Int) ∧ seenInt IntKind.u8 W (addOpt pa (↑y.k : Int).toNat) %
    (↑len : Int) < (↑len : Int)) ∧ addO true (0 : Nat) (seenInt IntKind.u8 W (addOpt pa (↑y.k : Int).toNat) % (↑len : Int)).toNat = (seenInt IntKind.u8 W (addOpt pa (↑y.k : Int).toNat)
    % (↑len : Int)).toNat ∧ (true = true → ((0 : Int) ≤ seenInt IntKind.u8 W (addOpt pa (↑y.k : Int).toNat) % (↑len : Int) ∧ seenInt IntKind.u8 W (addOpt pa (↑y.k : Int).toNat) % (↑len
    : Int) < (↑len : Int)) ∧ addO true (0 : Nat) (seenInt IntKind.u8 W (addOpt pa (↑y.k : Int).toNat) % (↑len : Int)).toNat < len ∧ (y.6 (addO true (0 : Nat) (seenInt IntKind.u8 W
    (addOpt pa (↑y.k : Int).toNat) % (↑len : Int)).toNat) = true → ((0 : Int) ≤ hsF (addO true (0 : Nat) (↑(segG (seenInt IntKind.u8 W (addOpt a (seenInt IntKind.u8 W (addOpt pa (↑y.k :
    Int).toNat) % (↑len : Int)).toNat) % (15 : Int)).toNat) : Int).toNat) ∧ (0 : Int) ≤ seenInt IntKind.u8 W (addOpt a (seenInt IntKind.u8 W (addOpt pa (↑y.k : Int).toNat) % (↑len :
    Int)).toNat) % (15 : Int) ∧ seenInt IntKind.u8 W (addOpt a (seenInt IntKind.u8 W (addOpt pa (↑y.k : Int).toNat) % (↑len : Int)).toNat) % (15 : Int) ≤ (254 : Int)) ∧ ((0 : Int) ≤
    seenInt IntKind.u8 W (addOpt pa (↑y.k : Int).toNat) % (↑len : Int) ∧ seenInt IntKind.u8 W (addOpt pa (↑y.k : Int).toNat) % (↑len : Int) < (↑len : Int)) ∧ addO true (0 : Nat)
    (seenInt IntKind.u8 W (addOpt pa (↑y.k : Int).toNat) % (↑len : Int)).toNat = (seenInt IntKind.u8 W (addOpt pa (↑y.k : Int).toNat) % (↑len : Int)).toNat ∧ ((0 : Int) ≤ seenInt
    IntKind.u8 W (addOpt pa (↑y.k : Int).toNat) % (↑len : Int) ∧ seenInt IntKind.u8 W (addOpt pa (↑y.k : Int).toNat) % (↑len : Int) < (↑len : Int)) ∧ addO true (0 : Nat) (seenInt
    IntKind.u8 W (addOpt pa (↑y.k : Int).toNat) % (↑len : Int)).toNat < len ∧ ((0 : Int) ≤ seenInt IntKind.u8 W (addOpt pa (↑y.k : Int).toNat) % (↑len : Int) ∧ seenInt IntKind.u8 W
    (addOpt pa (↑y.k : Int).toNat) % (↑len : Int) < (↑len : Int)) ∧ addO true (0 : Nat) (seenInt IntKind.u8 W (addOpt pa (↑y.k : Int).toNat) % (↑len : Int)).toNat < len ∧ (∀ (j : Nat),
    j < len → True) ∧ ((0 : Int) ≤ seenInt IntKind.u8 W (addOpt pa (↑y.k : Int).toNat) % (↑len : Int) ∧ seenInt IntKind.u8 W (addOpt pa (↑y.k : Int).toNat) % (↑len : Int) < (↑len :
    Int)) ∧ addO true (0 : Nat) (seenInt IntKind.u8 W (addOpt pa (↑y.k : Int).toNat) % (↑len : Int)).toNat = (seenInt IntKind.u8 W (addOpt pa (↑y.k : Int).toNat) % (↑len : Int)).toNat ∧
    CntOk (cntNew (hsF (addO true (0 : Nat) (↑(segG (seenInt IntKind.u8 W (addOpt a (seenInt IntKind.u8 W (addOpt pa (↑y.k : Int).toNat) % (↑len : Int)).toNat) % (15 : Int)).toNat) :
    Int).toNat)).toNat (seenInt IntKind.u8 W (addOpt a (seenInt IntKind.u8 W (addOpt pa (↑y.k : Int).toNat) % (↑len : Int)).toNat) % (15 : Int)).toNat (0 : Int) (99 : Int)
    (18446744073709551615 : Nat)) y.A ∧ (len = len ∧ (seenInt IntKind.u8 W (addOpt pa (↑y.k : Int).toNat) % (↑len : Int)).toNat = (seenInt IntKind.u8 W (addOpt pa (↑y.k : Int).toNat) %
    (↑len : Int)).toNat ∧ g = g) ∧ ((-9223372036854775808 : Int) ≤ (↑y.k : Int) + (1 : Int) ∧ (↑y.k : Int) + (1 : Int) ≤ (9223372036854775807 : Int)) ∧ ∃ (y' : B1 W a len plen), plen -
    y'.k < plen - y.k ∧ a = a ∧ len = len ∧ cap = cap ∧ pa = pa ∧ plen = plen ∧ pcap = pcap ∧ (↑plen : Int) = (↑plen : Int) ∧ W = W ∧ (↑y'.k : Int) = (↑y.k : Int) + (1 : Int) ∧ (0 :
    Nat) = (0 : Nat) ∧ y'.cap = y.cap ∧ (0 : Nat) = (0 : Nat) ∧ len = len ∧ len = len ∧ (0 : Nat) = (0 : Nat) ∧ len = len ∧ len = len ∧ y'.A = stepA (cntNew (hsF (addO true (0 : Nat)
    (↑(segG (seenInt IntKind.u8 W (addOpt a (seenInt IntKind.u8 W (addOpt pa (↑y.k : Int).toNat) % (↑len : Int)).toNat) % (15 : Int)).toNat) : Int).toNat)).toNat (seenInt IntKind.u8 W
    (addOpt a (seenInt IntKind.u8 W (addOpt pa (↑y.k : Int).toNat) % (↑len : Int)).toNat) % (15 : Int)).toNat (0 : Int) (99 : Int) (18446744073709551615 : Nat)) y.A ∧ ((4 : Nat) = (4 :
    Nat) ∧ y'.cap = y.cap ∧ ∀ (i : Nat), i < (4 : Nat) → hsF i = hsF i) ∧ (len = len ∧ len = len ∧ y'.c = fun (j : Nat) => if j = (seenInt IntKind.u8 W (addOpt pa (↑y.k : Int).toNat) %
    (↑len : Int)).toNat then some (stepC (cntNew (hsF (addO true (0 : Nat) (↑(segG (seenInt IntKind.u8 W (addOpt a (seenInt IntKind.u8 W (addOpt pa (↑y.k : Int).toNat) % (↑len :
    Int)).toNat) % (15 : Int)).toNat) : Int).toNat)).toNat (seenInt IntKind.u8 W (addOpt a (seenInt IntKind.u8 W (addOpt pa (↑y.k : Int).toNat) % (↑len : Int)).toNat) % (15 :
    Int)).toNat (0 : Int) (99 : Int) (18446744073709551615 : Nat))) else y.c j) ∧ (len = len ∧ len = len ∧ ∀ (i : Nat), i < len → [Value.bool (y'.f i)] = [Value.bool (if i = addO true
    (0 : Nat) (seenInt IntKind.u8 W (addOpt pa (↑y.k : Int).toNat) % (↑len : Int)).toNat then !y.f (addO true (0 : Nat) (seenInt IntKind.u8 W (addOpt pa (↑y.k : Int).toNat) % (↑len :
    Int)).toNat) else booOfV ([Value.bool (y.f i)].getD (0 : Nat) undef))]) ∧ True) ∧ (y.6 (addO true (0 : Nat) (seenInt IntKind.u8 W (addOpt pa (↑y.k : Int).toNat) % (↑len :
    Int)).toNat) = false → ((0 : Int) ≤ hsF (addO true (0 : Nat) (↑(segG (seenInt IntKind.u8 W (addOpt a (seenInt IntKind.u8 W (addOpt pa (↑y.k : Int).toNat) % (↑len : Int)).toNat) %
    (15 : Int)).toNat) : Int).toNat) ∧ (0 : Int) ≤ seenInt IntKind.u8 W (addOpt a (seenInt IntKind.u8 W (addOpt pa (↑y.k : Int).toNat) % (↑len : Int)).toNat) % (15 : Int) ∧ seenInt
    IntKind.u8 W (addOpt a (seenInt IntKind.u8 W (addOpt pa (↑y.k : Int).toNat) % (↑len : Int)).toNat) % (15 : Int) ≤ (254 : Int)) ∧ ((0 : Int) ≤ seenInt IntKind.u8 W (addOpt pa (↑y.k :
    Int).toNat) % (↑len : Int) ∧ seenInt IntKind.u8 W (addOpt pa (↑y.k : Int).toNat) % (↑len : Int) < (↑len : Int)) ∧ addO true (0 : Nat) (seenInt IntKind.u8 W (addOpt pa (↑y.k :
    Int).toNat) % (↑len : Int)).toNat = (seenInt IntKind.u8 W (addOpt pa (↑y.k : Int).toNat) % (↑len : Int)).toNat ∧ ((0 : Int) ≤ seenInt IntKind.u8 W (addOpt pa (↑y.k : Int).toNat) %
    (↑len : Int) ∧ seenInt IntKind.u8 W (addOpt pa (↑y.k : Int).toNat) % (↑len : Int) < (↑len : Int)) ∧ addO true (0 : Nat) (seenInt IntKind.u8 W (addOpt pa (↑y.k : Int).toNat) % (↑len
    : Int)).toNat < len ∧ ((0 : Int) ≤ seenInt IntKind.u8 W (addOpt pa (↑y.k : Int).toNat) % (↑len : Int) ∧ seenInt IntKind.u8 W (addOpt pa (↑y.k : Int).toNat) % (↑len : Int) < (↑len :
    Int)) ∧ addO true (0 : Nat) (seenInt IntKind.u8 W (addOpt pa (↑y.k : Int).toNat) % (↑len : Int)).toNat < len ∧ (∀ (j : Nat), j < len → True) ∧ ((0 : Int) ≤ seenInt IntKind.u8 W
    (addOpt pa (↑y.k : Int).toNat) % (↑len : Int) ∧ seenInt IntKind.u8 W (addOpt pa (↑y.k : Int).toNat) % (↑len : Int) < (↑len : Int)) ∧ addO true (0 : Nat) (seenInt IntKind.u8 W
    (addOpt pa (↑y.k : Int).toNat) % (↑len : Int)).toNat = (seenInt IntKind.u8 W (addOpt pa (↑y.k : Int).toNat) % (↑len : Int)).toNat ∧ CntOk (enterC (hsF (addO true (0 : Nat) (↑(segG
    (seenInt IntKind.u8 W (addOpt a (seenInt IntKind.u8 W (addOpt pa (↑y.k : Int).toNat) % (↑len : Int)).toNat) % (15 : Int)).toNat) : Int).toNat)) (seenInt IntKind.u8 W (addOpt a
    (seenInt IntKind.u8 W (addOpt pa (↑y.k : Int).toNat) % (↑len : Int)).toNat) % (15 : Int))) y.A ∧ (len = len ∧ (seenInt IntKind.u8 W (addOpt pa (↑y.k : Int).toNat) % (↑len :
    Int)).toNat = (seenInt IntKind.u8 W (addOpt pa (↑y.k : Int).toNat) % (↑len : Int)).toNat ∧ g = g) ∧ ((-9223372036854775808 : Int) ≤ (↑y.k : Int) + (1 : Int) ∧ (↑y.k : Int) + (1 :
    Int) ≤ (9223372036854775807 : Int)) ∧ ∃ (y' : B1 W a len plen), plen - y'.k < plen - y.k ∧ a = a ∧ len = len ∧ cap = cap ∧ pa = pa ∧ plen = plen ∧ pcap = pcap ∧ (↑plen : Int) =
    (↑plen : Int) ∧ W = W ∧ (↑y'.k : Int) = (↑y.k : Int) + (1 : Int) ∧ (0 : Nat) = (0 : Nat) ∧ y'.cap = y.cap ∧ (0 : Nat) = (0 : Nat) ∧ len = len ∧ len = len ∧ (0 : Nat) = (0 : Nat) ∧
    len = len ∧ len = len ∧ y'.A = stepA (enterC (hsF (addO true (0 : Nat) (↑(segG (seenInt IntKind.u8 W (addOpt a (seenInt IntKind.u8 W (addOpt pa (↑y.k : Int).toNat) % (↑len :
    Int)).toNat) % (15 : Int)).toNat) : Int).toNat)) (seenInt IntKind.u8 W (addOpt a (seenInt IntKind.u8 W (addOpt pa (↑y.k : Int).toNat) % (↑len : Int)).toNat) % (15 : Int))) y.A ∧ ((4
    : Nat) = (4 : Nat) ∧ y'.cap = y.cap ∧ ∀ (i : Nat), i < (4 : Nat) → hsF i = hsF i) ∧ (len = len ∧ len = len ∧ y'.c = fun (j : Nat) => if j = (seenInt IntKind.u8 W (addOpt pa (↑y.k :
    Int).toNat) % (↑len : Int)).toNat then some (stepC (enterC (hsF (addO true (0 : Nat) (↑(segG (seenInt IntKind.u8 W (addOpt a (seenInt IntKind.u8 W (addOpt pa (↑y.k : Int).toNat) %
    (↑len : Int)).toNat) % (15 : Int)).toNat) : Int).toNat)) (seenInt IntKind.u8 W (addOpt a (seenInt IntKind.u8 W (addOpt pa (↑y.k : Int).toNat) % (↑len : Int)).toNat) % (15 : Int))))
    else y.c j) ∧ (len = len ∧ len = len ∧ ∀ (i : Nat), i < len → [Value.bool (y'.f i)] = [Value.bool (if i = addO true (0 : Nat) (seenInt IntKind.u8 W (addOpt pa (↑y.k : Int).toNat) %
    (↑len : Int)).toNat then !y.f (addO true (0 : Nat) (seenInt IntKind.u8 W (addOpt pa (↑y.k : Int).toNat) % (↑len : Int)).toNat) else booOfV ([Value.bool (y.f i)].getD (0 : Nat)
    undef))]) ∧ True)) ∧ (true = false → ((0 : Int) ≤ seenInt IntKind.u8 W (addOpt pa (↑y.k : Int).toNat) % (↑len : Int) ∧ seenInt IntKind.u8 W (addOpt pa (↑y.k : Int).toNat) % (↑len :
    Int) < (↑len : Int)) ∧ addO true (0 : Nat) (seenInt IntKind.u8 W (addOpt pa (↑y.k : Int).toNat) % (↑len : Int)).toNat = (seenInt IntKind.u8 W (addOpt pa (↑y.k : Int).toNat) % (↑len
    : Int)).toNat ∧ (len = len ∧ (seenInt IntKind.u8 W (addOpt pa (↑y.k : Int).toNat) % (↑len : Int)).toNat = (seenInt IntKind.u8 W (addOpt pa (↑y.k : Int).toNat) % (↑len : Int)).toNat
    ∧ g = g) ∧ ((-9223372036854775808 : Int) ≤ (↑y.k : Int) + (1 : Int) ∧ (↑y.k : Int) + (1 : Int) ≤ (9223372036854775807 : Int)) ∧ ∃ (y' : B1 W a len plen), plen - y'.k < plen - y.k ∧
    a = a ∧ len = len ∧ cap = cap ∧ pa = pa ∧ plen = plen ∧ pcap = pcap ∧ (↑plen : Int) = (↑plen : Int) ∧ W = W ∧ (↑y'.k : Int) = (↑y.k : Int) + (1 : Int) ∧ (0 : Nat) = (0 : Nat) ∧
    y'.cap = y.cap ∧ (0 : Nat) = (0 : Nat) ∧ len = len ∧ len = len ∧ (0 : Nat) = (0 : Nat) ∧ len = len ∧ len = len ∧ y'.A = y.A ∧ ((4 : Nat) = (4 : Nat) ∧ y'.cap = y.cap ∧ ∀ (i : Nat),
    i < (4 : Nat) → hsF i = hsF i) ∧ (len = len ∧ len = len ∧ y'.c = fun (j : Nat) => if j = (seenInt IntKind.u8 W (addOpt pa (↑y.k : Int).toNat) % (↑len : Int)).toNat then none else
    y.c j) ∧ (len = len ∧ len = len ∧ ∀ (i : Nat), i < len → [Value.bool (y'.f i)] = [Value.bool (y.f i)]) ∧ True)) ∧ ∀ (y_1 : (cntHg xIn).X), y.c (seenInt IntKind.u8 W (addOpt pa (↑y.k
    : Int).toNat) % (↑len : Int)).toNat = some y_1 → ((0 : Int) ≤ seenInt IntKind.u8 W (addOpt pa (↑y.k : Int).toNat) % (↑len : Int) ∧ seenInt IntKind.u8 W (addOpt pa (↑y.k :
    Int).toNat) % (↑len : Int) < (↑len : Int)) ∧ addO true (0 : Nat) (seenInt IntKind.u8 W (addOpt pa (↑y.k : Int).toNat) % (↑len : Int)).toNat = (seenInt IntKind.u8 W (addOpt pa (↑y.k
    : Int).toNat) % (↑len : Int)).toNat ∧ (isDone y_1 = true → ((0 : Int) ≤ seenInt IntKind.u8 W (addOpt pa (↑y.k : Int).toNat) % (↑len : Int) ∧ seenInt IntKind.u8 W (addOpt pa (↑y.k :
    Int).toNat) % (↑len : Int) < (↑len : Int)) ∧ addO true (0 : Nat) (seenInt IntKind.u8 W (addOpt pa (↑y.k : Int).toNat) % (↑len : Int)).toNat < len ∧ (y.6 (addO true (0 : Nat)
    (seenInt IntKind.u8 W (addOpt pa (↑y.k : Int).toNat) % (↑len : Int)).toNat) = true → ((0 : Int) ≤ hsF (addO true (0 : Nat) (↑(segG (seenInt IntKind.u8 W (addOpt a (seenInt
    IntKind.u8 W (addOpt pa (↑y.k : Int).toNat) % (↑len : Int)).toNat) % (15 : Int)).toNat) : Int).toNat) ∧ (0 : Int) ≤ seenInt IntKind.u8 W (addOpt a (seenInt IntKind.u8 W (addOpt pa
    (↑y.k : Int).toNat) % (↑len : Int)).toNat) % (15 : Int) ∧ seenInt IntKind.u8 W (addOpt a (seenInt IntKind.u8 W (addOpt pa (↑y.k : Int).toNat) % (↑len : Int)).toNat) % (15 : Int) ≤
    (254 : Int)) ∧ ((0 : Int) ≤ seenInt IntKind.u8 W (addOpt pa (↑y.k : Int).toNat) % (↑len : Int) ∧ seenInt IntKind.u8 W (addOpt pa (↑y.k : Int).toNat) % (↑len : Int) < (↑len : Int)) ∧
    addO true (0 : Nat) (seenInt IntKind.u8 W (addOpt pa (↑y.k : Int).toNat) % (↑len : Int)).toNat = (seenInt IntKind.u8 W (addOpt pa (↑y.k : Int).toNat) % (↑len : Int)).toNat ∧ ((0 :
    Int) ≤ seenInt IntKind.u8 W (addOpt pa (↑y.k : Int).toNat) % (↑len : Int) ∧ seenInt IntKind.u8 W (addOpt pa (↑y.k : Int).toNat) % (↑len : Int) < (↑len : Int)) ∧ addO true (0 : Nat)
    (seenInt IntKind.u8 W (addOpt pa (↑y.k : Int).toNat) % (↑len : Int)).toNat < len ∧ ((0 : Int) ≤ seenInt IntKind.u8 W (addOpt pa (↑y.k : Int).toNat) % (↑len : Int) ∧ seenInt
    IntKind.u8 W (addOpt pa (↑y.k : Int).toNat) % (↑len : Int) < (↑len : Int)) ∧ addO true (0 : Nat) (seenInt IntKind.u8 W (addOpt pa (↑y.k : Int).toNat) % (↑len : Int)).toNat < len ∧
    (∀ (j : Nat), j < len → True) ∧ ((0 : Int) ≤ seenInt IntKind.u8 W (addOpt pa (↑y.k : Int).toNat) % (↑len : Int) ∧ seenInt IntKind.u8 W (addOpt pa (↑y.k : Int).toNat) % (↑len : Int)
    < (↑len : Int)) ∧ addO true (0 : Nat) (seenInt IntKind.u8 W (addOpt pa (↑y.k : Int).toNat) % (↑len : Int)).toNat = (seenInt IntKind.u8 W (addOpt pa (↑y.k : Int).toNat) % (↑len :
    Int)).toNat ∧ CntOk (cntNew (hsF (addO true (0 : Nat) (↑(segG (seenInt IntKind.u8 W (addOpt a (seenInt IntKind.u8 W (addOpt pa (↑y.k : Int).toNat) % (↑len : Int)).toNat) % (15 :
    Int)).toNat) : Int).toNat)).toNat (seenInt IntKind.u8 W (addOpt a (seenInt IntKind.u8 W (addOpt pa (↑y.k : Int).toNat) % (↑len : Int)).toNat) % (15 : Int)).toNat (0 : Int) (99 :
    Int) (18446744073709551615 : Nat)) y.A ∧ (len = len ∧ (seenInt IntKind.u8 W (addOpt pa (↑y.k : Int).toNat) % (↑len : Int)).toNat = (seenInt IntKind.u8 W (addOpt pa (↑y.k :
    Int).toNat) % (↑len : Int)).toNat ∧ g = g) ∧ ((-9223372036854775808 : Int) ≤ (↑y.k : Int) + (1 : Int) ∧ (↑y.k : Int) + (1 : Int) ≤ (9223372036854775807 : Int)) ∧ ∃ (y' : B1 W a len
    plen), plen - y'.k < plen - y.k ∧ a = a ∧ len = len ∧ cap = cap ∧ pa = pa ∧ plen = plen ∧ pcap = pcap ∧ (↑plen : Int) = (↑plen : Int) ∧ W = W ∧ (↑y'.k : Int) = (↑y.k : Int) + (1 :
    Int) ∧ (0 : Nat) = (0 : Nat) ∧ y'.cap = y.cap ∧ (0 : Nat) = (0 : Nat) ∧ len = len ∧ len = len ∧ (0 : Nat) = (0 : Nat) ∧ len = len ∧ len = len ∧ y'.A = stepA (cntNew (hsF (addO true
    (0 : Nat) (↑(segG (seenInt IntKind.u8 W (addOpt a (seenInt IntKind.u8 W (addOpt pa (↑y.k : Int).toNat) % (↑len : Int)).toNat) % (15 : Int)).toNat) : Int).toNat)).toNat (seenInt
    IntKind.u8 W (addOpt a (seenInt IntKind.u8 W (addOpt pa (↑y.k : Int).toNat) % (↑len : Int)).toNat) % (15 : Int)).toNat (0 : Int) (99 : Int) (18446744073709551615 : Nat)) y.A ∧ ((4 :
    Nat) = (4 : Nat) ∧ y'.cap = y.cap ∧ ∀ (i : Nat), i < (4 : Nat) → hsF i = hsF i) ∧ (len = len ∧ len = len ∧ y'.c = fun (j : Nat) => if j = (seenInt IntKind.u8 W (addOpt pa (↑y.k :
    Int).toNat) % (↑len : Int)).toNat then some (stepC (cntNew (hsF (addO true (0 : Nat) (↑(segG (seenInt IntKind.u8 W (addOpt a (seenInt IntKind.u8 W (addOpt pa (↑y.k : Int).toNat) %
    (↑len : Int)).toNat) % (15 : Int)).toNat) : Int).toNat)).toNat (seenInt IntKind.u8 W (addOpt a (seenInt IntKind.u8 W (addOpt pa (↑y.k : Int).toNat) % (↑len : Int)).toNat) % (15 :
    Int)).toNat (0 : Int) (99 : Int) (18446744073709551615 : Nat))) else y.c j) ∧ (len = len ∧ len = len ∧ ∀ (i : Nat), i < len → [Value.bool (y'.f i)] = [Value.bool (if i = addO true
    (0 : Nat) (seenInt IntKind.u8 W (addOpt pa (↑y.k : Int).toNat) % (↑len : Int)).toNat then !y.f (addO true (0 : Nat) (seenInt IntKind.u8 W (addOpt pa (↑y.k : Int).toNat) % (↑len :
    Int)).toNat) else booOfV ([Value.bool (y.f i)].getD (0 : Nat) undef))]) ∧ True) ∧ (y.6 (addO true (0 : Nat) (seenInt IntKind.u8 W (addOpt pa (↑y.k : Int).toNat) % (↑len :
    Int)).toNat) = false → ((0 : Int) ≤ hsF (addO true (0 : Nat) (↑(segG (seenInt IntKind.u8 W (addOpt a (seenInt IntKind.u8 W (addOpt pa (↑y.k : Int).toNat) % (↑len : Int)).toNat) %
    (15 : Int)).toNat) : Int).toNat) ∧ (0 : Int) ≤ seenInt IntKind.u8 W (addOpt a (seenInt IntKind.u8 W (addOpt pa (↑y.k : Int).toNat) % (↑len : Int)).toNat) % (15 : Int) ∧ seenInt
    IntKind.u8 W (addOpt a (seenInt IntKind.u8 W (addOpt pa (↑y.k : Int).toNat) % (↑len : Int)).toNat) % (15 : Int) ≤ (254 : Int)) ∧ ((0 : Int) ≤ seenInt IntKind.u8 W (addOpt pa (↑y.k :
    Int).toNat) % (↑len : Int) ∧ seenInt IntKind.u8 W (addOpt pa (↑y.k : Int).toNat) % (↑len : Int) < (↑len : Int)) ∧ addO true (0 : Nat) (seenInt IntKind.u8 W (addOpt pa (↑y.k :
    Int).toNat) % (↑len : Int)).toNat = (seenInt IntKind.u8 W (addOpt pa (↑y.k : Int).toNat) % (↑len : Int)).toNat ∧ ((0 : Int) ≤ seenInt IntKind.u8 W (addOpt pa (↑y.k : Int).toNat) %
    (↑len : Int) ∧ seenInt IntKind.u8 W (addOpt pa (↑y.k : Int).toNat) % (↑len : Int) < (↑len : Int)) ∧ addO true (0 : Nat) (seenInt IntKind.u8 W (addOpt pa (↑y.k : Int).toNat) % (↑len
    : Int)).toNat < len ∧ ((0 : Int) ≤ seenInt IntKind.u8 W (addOpt pa (↑y.k : Int).toNat) % (↑len : Int) ∧ seenInt IntKind.u8 W (addOpt pa (↑y.k : Int).toNat) % (↑len : Int) < (↑len :
    Int)) ∧ addO true (0 : Nat) (seenInt IntKind.u8 W (addOpt pa (↑y.k : Int).toNat) % (↑len : Int)).toNat < len ∧ (∀ (j : Nat), j < len → True) ∧ ((0 : Int) ≤ seenInt IntKind.u8 W
    (addOpt pa (↑y.k : Int).toNat) % (↑len : Int) ∧ seenInt IntKind.u8 W (addOpt pa (↑y.k : Int).toNat) % (↑len : Int) < (↑len : Int)) ∧ addO true (0 : Nat) (seenInt IntKind.u8 W
    (addOpt pa (↑y.k : Int).toNat) % (↑len : Int)).toNat = (seenInt IntKind.u8 W (addOpt pa (↑y.k : Int).toNat) % (↑len : Int)).toNat ∧ CntOk (enterC (hsF (addO true (0 : Nat) (↑(segG
    (seenInt IntKind.u8 W (addOpt a (seenInt IntKind.u8 W (addOpt pa (↑y.k : Int).toNat) % (↑len : Int)).toNat) % (15 : Int)).toNat) : Int).toNat)) (seenInt IntKind.u8 W (addOpt a
    (seenInt IntKind.u8 W (addOpt pa (↑y.k : Int).toNat) % (↑len : Int)).toNat) % (15 : Int))) y.A ∧ (len = len ∧ (seenInt IntKind.u8 W (addOpt pa (↑y.k : Int).toNat) % (↑len :
    Int)).toNat = (seenInt IntKind.u8 W (addOpt pa (↑y.k : Int).toNat) % (↑len : Int)).toNat ∧ g = g) ∧ ((-9223372036854775808 : Int) ≤ (↑y.k : Int) + (1 : Int) ∧ (↑y.k : Int) + (1 :
    Int) ≤ (9223372036854775807 : Int)) ∧ ∃ (y' : B1 W a len plen), plen - y'.k < plen - y.k ∧ a = a ∧ len = len ∧ cap = cap ∧ pa = pa ∧ plen = plen ∧ pcap = pcap ∧ (↑plen : Int) =
    (↑plen : Int) ∧ W = W ∧ (↑y'.k : Int) = (↑y.k : Int) + (1 : Int) ∧ (0 : Nat) = (0 : Nat) ∧ y'.cap = y.cap ∧ (0 : Nat) = (0 : Nat) ∧ len = len ∧ len = len ∧ (0 : Nat) = (0 : Nat) ∧
    len = len ∧ len = len ∧ y'.A = stepA (enterC (hsF (addO true (0 : Nat) (↑(segG (seenInt IntKind.u8 W (addOpt a (seenInt IntKind.u8 W (addOpt pa (↑y.k : Int).toNat) % (↑len :
    Int)).toNat) % (15 : Int)).toNat) : Int).toNat)) (seenInt IntKind.u8 W (addOpt a (seenInt IntKind.u8 W (addOpt pa (↑y.k : Int).toNat) % (↑len : Int)).toNat) % (15 : Int))) y.A ∧ ((4
    : Nat) = (4 : Nat) ∧ y'.cap = y.cap ∧ ∀ (i : Nat), i < (4 : Nat) → hsF i = hsF i) ∧ (len = len ∧ len = len ∧ y'.c = fun (j : Nat) => if j = (seenInt IntKind.u8 W (addOpt pa (↑y.k :
    Int).toNat) % (↑len : Int)).toNat then some (stepC (enterC (hsF (addO true (0 : Nat) (↑(segG (seenInt IntKind.u8 W (addOpt a (seenInt IntKind.u8 W (addOpt pa (↑y.k : Int).toNat) %
    (↑len : Int)).toNat) % (15 : Int)).toNat) : Int).toNat)) (seenInt IntKind.u8 W (addOpt a (seenInt IntKind.u8 W (addOpt pa (↑y.k : Int).toNat) % (↑len : Int)).toNat) % (15 : Int))))
    else y.c j) ∧ (len = len ∧ len = len ∧ ∀ (i : Nat), i < len → [Value.bool (y'.f i)] = [Value.bool (if i = addO true (0 : Nat) (seenInt IntKind.u8 W (addOpt pa (↑y.k : Int).toNat) %
    (↑len : Int)).toNat then !y.f (addO true (0 : Nat) (seenInt IntKind.u8 W (addOpt pa (↑y.k : Int).toNat) % (↑len : Int)).toNat) else booOfV ([Value.bool (y.f i)].getD (0 : Nat)
    undef))]) ∧ True)) ∧ (isDone y_1 = false → ((0 : Int) ≤ seenInt IntKind.u8 W (addOpt pa (↑y.k : Int).toNat) % (↑len : Int) ∧ seenInt IntKind.u8 W (addOpt pa (↑y.k : Int).toNat) %
    (↑len : Int) < (↑len : Int)) ∧ addO true (0 : Nat) (seenInt IntKind.u8 W (addOpt pa (↑y.k : Int).toNat) % (↑len : Int)).toNat = (seenInt IntKind.u8 W (addOpt pa (↑y.k : Int).toNat)
    % (↑len : Int)).toNat ∧ CntOk y_1 y.A ∧ (len = len ∧ (seenInt IntKind.u8 W (addOpt pa (↑y.k : Int).toNat) % (↑len : Int)).toNat = (seenInt IntKind.u8 W (addOpt pa (↑y.k :
    Int).toNat) % (↑len : Int)).toNat ∧ g = g) ∧ ((-9223372036854775808 : Int) ≤ (↑y.k : Int) + (1 : Int) ∧ (↑y.k : Int) + (1 : Int) ≤ (9223372036854775807 : Int)) ∧ ∃ (y' : B1 W a len
    plen), plen - y'.k < plen - y.k ∧ a = a ∧ len = len ∧ cap = cap ∧ pa = pa ∧ plen = plen ∧ pcap = pcap ∧ (↑plen : Int) = (↑plen : Int) ∧ W = W ∧ (↑y'.k : Int) = (↑y.k : Int) + (1 :
    Int) ∧ (0 : Nat) = (0 : Nat) ∧ y'.cap = y.cap ∧ (0 : Nat) = (0 : Nat) ∧ len = len ∧ len = len ∧ (0 : Nat) = (0 : Nat) ∧ len = len ∧ len = len ∧ y'.A = stepA y_1 y.A ∧ ((4 : Nat) =
    (4 : Nat) ∧ y'.cap = y.cap ∧ ∀ (i : Nat), i < (4 : Nat) → hsF i = hsF i) ∧ (len = len ∧ len = len ∧ y'.c = fun (j : Nat) => if j = (seenInt IntKind.u8 W (addOpt pa (↑y.k :
    Int).toNat) % (↑len : Int)).toNat then some (stepC y_1) else y.c j) ∧ (len = len ∧ len = len ∧ ∀ (i : Nat), i < len → [Value.bool (y'.f i)] = [Value.bool (y.f i)]) ∧ True)) ∧
    (decide ((↑y.k : Int) < (↑plen : Int)) = false → (∃ (y_1 : B2 W a len), a = a ∧ len = len ∧ cap = cap ∧ a = a ∧ len = len ∧ cap = cap ∧ (↑len : Int) = (↑len : Int) ∧ W = W ∧ (↑y_1.i
    : Int) = (0 : Int) ∧ (0 : Nat) = (0 : Nat) ∧ y_1.cap = y.cap ∧ (0 : Nat) = (0 : Nat) ∧ len = len ∧ len = len ∧ (0 : Nat) = (0 : Nat) ∧ len = len ∧ len = len ∧ y_1.A = y.A ∧ ((4 :
    Nat) = (4 : Nat) ∧ y_1.cap = y.cap ∧ ∀ (i : Nat), i < (4 : Nat) → hsF i = hsF i) ∧ (len = len ∧ len = len ∧ y_1.c = y.c) ∧ (len = len ∧ len = len ∧ ∀ (i : Nat), i < len →
    [Value.bool (y_1.f i)] = [Value.bool (y.f i)]) ∧ True) ∧ ∀ (y : B2 W a len) (ρ : Nat → Value), (decide ((↑y.i : Int) < (↑len : Int)) = true → ((0 : Int) ≤ (↑y.i : Int) ∧ (↑y.i :
    Int) < (↑len : Int) ∧ a.isSome = true) ∧ (∃ (x : Addr), addOpt a (↑y.i : Int).toNat = some x ∧ W.cell? x = some (Value.int IntKind.u8 (seenInt IntKind.u8 W (addOpt a (↑y.i :
    Int).toNat)))) ∧ decide ((↑(segG (seenInt IntKind.u8 W (addOpt a (↑y.i : Int).toNat) % (15 : Int)).toNat) : Int) ≥ (4 : Int)) = false ∧ ((0 : Int) ≤ (↑(segG (seenInt IntKind.u8 W
    (addOpt a (↑y.i : Int).toNat) % (15 : Int)).toNat) : Int) ∧ (↑(segG (seenInt IntKind.u8 W (addOpt a (↑y.i : Int).toNat) % (15 : Int)).toNat) : Int) < (4 : Int)) ∧ addO true (0 :
    Nat) (↑(segG (seenInt IntKind.u8 W (addOpt a (↑y.i : Int).toNat) % (15 : Int)).toNat) : Int).toNat < (4 : Nat) ∧ (∃ (y_1 : B3 y (isInC (y.c y.i))), a = a ∧ len = len ∧ cap = cap ∧
    (↑y.i : Int) = (↑y.i : Int) ∧ a = a ∧ len = len ∧ cap = cap ∧ (↑len : Int) = (↑len : Int) ∧ (↑y.i : Int) = (↑y.i : Int) ∧ W = W ∧ (↑y_1.j : Int) = (0 : Int) ∧ (0 : Nat) = (0 : Nat)
    ∧ y.cap = y.cap ∧ (0 : Nat) = (0 : Nat) ∧ len = len ∧ len = len ∧ (0 : Nat) = (0 : Nat) ∧ len = len ∧ len = len ∧ y_1.A = y.A ∧ ((4 : Nat) = (4 : Nat) ∧ y.cap = y.cap ∧ ∀ (i : Nat),
    i < (4 : Nat) → hsF i = hsF i) ∧ (len = len ∧ len = len ∧ y_1.c = y.c) ∧ (len = len ∧ len = len ∧ ∀ (i : Nat), i < len → [Value.bool (y.f i)] = [Value.bool (y.f i)]) ∧ (y_1.p1 = hsF
    (addO true (0 : Nat) (↑(segG (seenInt IntKind.u8 W (addOpt a (↑y.i : Int).toNat) % (15 : Int)).toNat) : Int).toNat) ∧ y_1.p2 = seenInt IntKind.u8 W (addOpt a (↑y.i : Int).toNat) %
    (15 : Int) ∧ True) ∧ True) ∧ ∀ (y_1 : B3 y (isInC (y.c y.i))) (ρ : Nat → Value), (decide ((↑y_1.j : Int) < (20 : Int)) = true → ((0 : Int) ≤ (↑y.i : Int) ∧ (↑y.i : Int) < (↑len :
    Int)) ∧ ∀ (g : Nat → List Value), (y_1.c (↑y.i : Int).toNat = none → ((0 : Int) ≤ (↑y.i : Int) ∧ (↑y.i : Int) < (↑len : Int)) ∧ addO true (0 : Nat) (↑y.i : Int).toNat = (↑y.i :
    Int).toNat ∧ (len = len ∧ (↑y.i : Int).toNat = (↑y.i : Int).toNat ∧ g = g) ∧ ((-9223372036854775808 : Int) ≤ (↑y_1.j : Int) + (1 : Int) ∧ (↑y_1.j : Int) + (1 : Int) ≤
    (9223372036854775807 : Int)) ∧ ∃ (y' : B3 y (isInC (y.c y.i))), (20 : Nat) - y'.j < (20 : Nat) - y_1.j ∧ a = a ∧ len = len ∧ cap = cap ∧ (↑y.i : Int) = (↑y.i : Int) ∧ a = a ∧ len =
    len ∧ cap = cap ∧ (↑len : Int) = (↑len : Int) ∧ (↑y.i : Int) = (↑y.i : Int) ∧ W = W ∧ (↑y'.j : Int) = (↑y_1.j : Int) + (1 : Int) ∧ (0 : Nat) = (0 : Nat) ∧ y.cap = y.cap ∧ (0 : Nat)
    = (0 : Nat) ∧ len = len ∧ len = len ∧ (0 : Nat) = (0 : Nat) ∧ len = len ∧ len = len ∧ y'.A = y_1.A ∧ ((4 : Nat) = (4 : Nat) ∧ y.cap = y.cap ∧ ∀ (i : Nat), i < (4 : Nat) → hsF i =
    hsF i) ∧ (len = len ∧ len = len ∧ y'.c = fun (j : Nat) => if j = (↑y.i : Int).toNat then none else y_1.c j) ∧ (len = len ∧ len = len ∧ ∀ (i : Nat), i < len → [Value.bool (y.f i)] =
    [Value.bool (y.f i)]) ∧ (y'.p1 = y_1.p1 ∧ y'.p2 = y_1.p2 ∧ True) ∧ True) ∧ ∀ (y_2 : (cntHg xIn).X), y_1.c (↑y.i : Int).toNat = some y_2 → ((0 : Int) ≤ (↑y.i : Int) ∧ (↑y.i : Int) <
    (↑len : Int)) ∧ addO true (0 : Nat) (↑y.i : Int).toNat = (↑y.i : Int).toNat ∧ CntOk y_2 y_1.A ∧ (len = len ∧ (↑y.i : Int).toNat = (↑y.i : Int).toNat ∧ g = g) ∧
    ((-9223372036854775808 : Int) ≤ (↑y_1.j : Int) + (1 : Int) ∧ (↑y_1.j : Int) + (1 : Int) ≤ (9223372036854775807 : Int)) ∧ ∃ (y' : B3 y (isInC (y.c y.i))), (20 : Nat) - y'.j < (20 :
    Nat) - y_1.j ∧ a = a ∧ len = len ∧ cap = cap ∧ (↑y.i : Int) = (↑y.i : Int) ∧ a = a ∧ len = len ∧ cap = cap ∧ (↑len : Int) = (↑len : Int) ∧ (↑y.i : Int) = (↑y.i : Int) ∧ W = W ∧
    (↑y'.j : Int) = (↑y_1.j : Int) + (1 : Int) ∧ (0 : Nat) = (0 : Nat) ∧ y.cap = y.cap ∧ (0 : Nat) = (0 : Nat) ∧ len = len ∧ len = len ∧ (0 : Nat) = (0 : Nat) ∧ len = len ∧ len = len ∧
    y'.A = stepA y_2 y_1.A ∧ ((4 : Nat) = (4 : Nat) ∧ y.cap = y.cap ∧ ∀ (i : Nat), i < (4 : Nat) → hsF i = hsF i) ∧ (len = len ∧ len = len ∧ y'.c = fun (j : Nat) => if j = (↑y.i :
    Int).toNat then some (stepC y_2) else y_1.c j) ∧ (len = len ∧ len = len ∧ ∀ (i : Nat), i < len → [Value.bool (y.f i)] = [Value.bool (y.f i)]) ∧ (y'.p1 = y_1.p1 ∧ y'.p2 = y_1.p2 ∧
    True) ∧ True) ∧ (decide ((↑y_1.j : Int) < (20 : Int)) = false → ((0 : Int) ≤ (↑y.i : Int) ∧ (↑y.i : Int) < (↑len : Int)) ∧ addO true (0 : Nat) (↑y.i : Int).toNat < len ∧ (y.6 (addO
    true (0 : Nat) (↑y.i : Int).toNat) = true → ((0 : Int) ≤ (↑y.i : Int) ∧ (↑y.i : Int) < (↑len : Int)) ∧ ∀ (g : Nat → List Value), (y_1.c (↑y.i : Int).toNat = none → ((0 : Int) ≤
    y_1.p1 ∧ (0 : Int) ≤ y_1.p2 ∧ y_1.p2 ≤ (254 : Int)) ∧ ((0 : Int) ≤ (↑y.i : Int) ∧ (↑y.i : Int) < (↑len : Int)) ∧ addO true (0 : Nat) (↑y.i : Int).toNat = (↑y.i : Int).toNat ∧ (len =
    len ∧ (↑y.i : Int).toNat = (↑y.i : Int).toNat ∧ g = g) ∧ (∃ (y_2 : B3 y false), a = a ∧ len = len ∧ cap = cap ∧ (↑y.i : Int) = (↑y.i : Int) ∧ a = a ∧ len = len ∧ cap = cap ∧ (↑len :
    Int) = (↑len : Int) ∧ (↑y.i : Int) = (↑y.i : Int) ∧ W = W ∧ (↑y_2.j : Int) = (0 : Int) ∧ (0 : Nat) = (0 : Nat) ∧ y.cap = y.cap ∧ (0 : Nat) = (0 : Nat) ∧ len = len ∧ len = len ∧ (0 :
    Nat) = (0 : Nat) ∧ len = len ∧ len = len ∧ y_2.A = y_1.A ∧ ((4 : Nat) = (4 : Nat) ∧ y.cap = y.cap ∧ ∀ (i : Nat), i < (4 : Nat) → hsF i = hsF i) ∧ (len = len ∧ len = len ∧ y_2.c =
    fun (j : Nat) => if j = (↑y.i : Int).toNat then some (cntNew y_1.p1.toNat y_1.p2.toNat (0 : Int) (99 : Int) (18446744073709551615 : Nat)) else y_1.c j) ∧ (len = len ∧ len = len ∧ ∀
    (i : Nat), i < len → [Value.bool (y.f i)] = [Value.bool (y.f i)]) ∧ (y_2.p1 = y_1.p1 ∧ y_2.p2 = y_1.p2 ∧ True) ∧ True) ∧ ∀ (y_2 : B3 y false) (ρ : Nat → Value), (decide ((↑y_2.j :
    Int) < (20 : Int)) = true → ((0 : Int) ≤ (↑y.i : Int) ∧ (↑y.i : Int) < (↑len : Int)) ∧ ∀ (g : Nat → List Value), (y_2.c (↑y.i : Int).toNat = none → ((0 : Int) ≤ (↑y.i : Int) ∧ (↑y.i
    : Int) < (↑len : Int)) ∧ addO true (0 : Nat) (↑y.i : Int).toNat = (↑y.i : Int).toNat ∧ (len = len ∧ (↑y.i : Int).toNat = (↑y.i : Int).toNat ∧ g = g) ∧ ((-9223372036854775808 : Int)
    ≤ (↑y_2.j : Int) + (1 : Int) ∧ (↑y_2.j : Int) + (1 : Int) ≤ (9223372036854775807 : Int)) ∧ ∃ (y' : B3 y false), (20 : Nat) - y'.j < (20 : Nat) - y_2.j ∧ a = a ∧ len = len ∧ cap =
    cap ∧ (↑y.i : Int) = (↑y.i : Int) ∧ a = a ∧ len = len ∧ cap = cap ∧ (↑len : Int) = (↑len : Int) ∧ (↑y.i : Int) = (↑y.i : Int) ∧ W = W ∧ (↑y'.j : Int) = (↑y_2.j : Int) + (1 : Int) ∧
    (0 : Nat) = (0 : Nat) ∧ y.cap = y.cap ∧ (0 : Nat) = (0 : Nat) ∧ len = len ∧ len = len ∧ (0 : Nat) = (0 : Nat) ∧ len = len ∧ len = len ∧ y'.A = y_2.A ∧ ((4 : Nat) = (4 : Nat) ∧ y.cap
    = y.cap ∧ ∀ (i : Nat), i < (4 : Nat) → hsF i = hsF i) ∧ (len = len ∧ len = len ∧ y'.c = fun (j : Nat) => if j = (↑y.i : Int).toNat then none else y_2.c j) ∧ (len = len ∧ len = len ∧
    ∀ (i : Nat), i < len → [Value.bool (y.f i)] = [Value.bool (y.f i)]) ∧ (y'.p1 = y_2.p1 ∧ y'.p2 = y_2.p2 ∧ True) ∧ True) ∧ ∀ (y_3 : (cntHg xIn).X), y_2.c (↑y.i : Int).toNat = some y_3
    → ((0 : Int) ≤ (↑y.i : Int) ∧ (↑y.i : Int) < (↑len : Int)) ∧ addO true (0 : Nat) (↑y.i : Int).toNat = (↑y.i : Int).toNat ∧ CntOk y_3 y_2.A ∧ (len = len ∧ (↑y.i : Int).toNat = (↑y.i
    : Int).toNat ∧ g = g) ∧ ((-9223372036854775808 : Int) ≤ (↑y_2.j : Int) + (1 : Int) ∧ (↑y_2.j : Int) + (1 : Int) ≤ (9223372036854775807 : Int)) ∧ ∃ (y' : B3 y false), (20 : Nat) -
    y'.j < (20 : Nat) - y_2.j ∧ a = a ∧ len = len ∧ cap = cap ∧ (↑y.i : Int) = (↑y.i : Int) ∧ a = a ∧ len = len ∧ cap = cap ∧ (↑len : Int) = (↑len : Int) ∧ (↑y.i : Int) = (↑y.i : Int) ∧
    W = W ∧ (↑y'.j : Int) = (↑y_2.j : Int) + (1 : Int) ∧ (0 : Nat) = (0 : Nat) ∧ y.cap = y.cap ∧ (0 : Nat) = (0 : Nat) ∧ len = len ∧ len = len ∧ (0 : Nat) = (0 : Nat) ∧ len = len ∧ len
    = len ∧ y'.A = stepA y_3 y_2.A ∧ ((4 : Nat) = (4 : Nat) ∧ y.cap = y.cap ∧ ∀ (i : Nat), i < (4 : Nat) → hsF i = hsF i) ∧ (len = len ∧ len = len ∧ y'.c = fun (j : Nat) => if j = (↑y.i
    : Int).toNat then some (stepC y_3) else y_2.c j) ∧ (len = len ∧ len = len ∧ ∀ (i : Nat), i < len → [Value.bool (y.f i)] = [Value.bool (y.f i)]) ∧ (y'.p1 = y_2.p1 ∧ y'.p2 = y_2.p2 ∧
    True) ∧ True) ∧ (decide ((↑y_2.j : Int) < (20 : Int)) = false → ((0 : Int) ≤ (↑y.i : Int) ∧ (↑y.i : Int) < (↑len : Int)) ∧ ∀ (g : Nat → List Value), (y_2.c (↑y.i : Int).toNat = none
    → ((0 : Int) ≤ (↑y.i : Int) ∧ (↑y.i : Int) < (↑len : Int)) ∧ addO true (0 : Nat) (↑y.i : Int).toNat = (↑y.i : Int).toNat ∧ false = false ∧ (len = len ∧ (↑y.i : Int).toNat = (↑y.i :
    Int).toNat ∧ g = g) ∧ ((-9223372036854775808 : Int) ≤ (↑y.i : Int) + (1 : Int) ∧ (↑y.i : Int) + (1 : Int) ≤ (9223372036854775807 : Int)) ∧ ∃ (y' : B2 W a len), len - y'.i < len -
    y.i ∧ a = a ∧ len = len ∧ cap = cap ∧ a = a ∧ len = len ∧ cap = cap ∧ (↑len : Int) = (↑len : Int) ∧ W = W ∧ (↑y'.i : Int) = (↑y.i : Int) + (1 : Int) ∧ (0 : Nat) = (0 : Nat) ∧ y'.cap
    = y.cap ∧ (0 : Nat) = (0 : Nat) ∧ len = len ∧ len = len ∧ (0 : Nat) = (0 : Nat) ∧ len = len ∧ len = len ∧ y'.A = y_2.A ∧ ((4 : Nat) = (4 : Nat) ∧ y'.cap = y.cap ∧ ∀ (i : Nat), i <
    (4 : Nat) → hsF i = hsF i) ∧ (len = len ∧ len = len ∧ y'.c = fun (j : Nat) => if j = (↑y.i : Int).toNat then none else y_2.c j) ∧ (len = len ∧ len = len ∧ ∀ (i : Nat), i < len →
    [Value.bool (y'.f i)] = [Value.bool (y.f i)]) ∧ True) ∧ ∀ (y_3 : (cntHg xIn).X), y_2.c (↑y.i : Int).toNat = some y_3 → ((0 : Int) ≤ (↑y.i : Int) ∧ (↑y.i : Int) < (↑len : Int)) ∧
    addO true (0 : Nat) (↑y.i : Int).toNat = (↑y.i : Int).toNat ∧ (!isDone y_3) = false ∧ (len = len ∧ (↑y.i : Int).toNat = (↑y.i : Int).toNat ∧ g = g) ∧ ((-9223372036854775808 : Int) ≤
    (↑y.i : Int) + (1 : Int) ∧ (↑y.i : Int) + (1 : Int) ≤ (9223372036854775807 : Int)) ∧ ∃ (y' : B2 W a len), len - y'.i < len - y.i ∧ a = a ∧ len = len ∧ cap = cap ∧ a = a ∧ len = len
    ∧ cap = cap ∧ (↑len : Int) = (↑len : Int) ∧ W = W ∧ (↑y'.i : Int) = (↑y.i : Int) + (1 : Int) ∧ (0 : Nat) = (0 : Nat) ∧ y'.cap = y.cap ∧ (0 : Nat) = (0 : Nat) ∧ len = len ∧ len = len
    ∧ (0 : Nat) = (0 : Nat) ∧ len = len ∧ len = len ∧ y'.A = y_2.A ∧ ((4 : Nat) = (4 : Nat) ∧ y'.cap = y.cap ∧ ∀ (i : Nat), i < (4 : Nat) → hsF i = hsF i) ∧ (len = len ∧ len = len ∧
    y'.c = fun (j : Nat) => if j = (↑y.i : Int).toNat then some y_3 else y_2.c j) ∧ (len = len ∧ len = len ∧ ∀ (i : Nat), i < len → [Value.bool (y'.f i)] = [Value.bool (y.f i)]) ∧
    True)) ∧ ∀ (y_2 : (cntHg xIn).X), y_1.c (↑y.i : Int).toNat = some y_2 → ((0 : Int) ≤ y_1.p1 ∧ (0 : Int) ≤ y_1.p2 ∧ y_1.p2 ≤ (254 : Int)) ∧ ((0 : Int) ≤ (↑y.i : Int) ∧ (↑y.i : Int) <
    (↑len : Int)) ∧ addO true (0 : Nat) (↑y.i : Int).toNat = (↑y.i : Int).toNat ∧ (len = len ∧ (↑y.i : Int).toNat = (↑y.i : Int).toNat ∧ g = g) ∧ (∃ (y_3 : B3 y false), a = a ∧ len =
    len ∧ cap = cap ∧ (↑y.i : Int) = (↑y.i : Int) ∧ a = a ∧ len = len ∧ cap = cap ∧ (↑len : Int) = (↑len : Int) ∧ (↑y.i : Int) = (↑y.i : Int) ∧ W = W ∧ (↑y_3.j : Int) = (0 : Int) ∧ (0 :
    Nat) = (0 : Nat) ∧ y.cap = y.cap ∧ (0 : Nat) = (0 : Nat) ∧ len = len ∧ len = len ∧ (0 : Nat) = (0 : Nat) ∧ len = len ∧ len = len ∧ y_3.A = y_1.A ∧ ((4 : Nat) = (4 : Nat) ∧ y.cap =
    y.cap ∧ ∀ (i : Nat), i < (4 : Nat) → hsF i = hsF i) ∧ (len = len ∧ len = len ∧ y_3.c = fun (j : Nat) => if j = (↑y.i : Int).toNat then some (cntNew y_1.p1.toNat y_1.p2.toNat (0 :
    Int) (99 : Int) (18446744073709551615 : Nat)) else y_1.c j) ∧ (len = len ∧ len = len ∧ ∀ (i : Nat), i < len → [Value.bool (y.f i)] = [Value.bool (y.f i)]) ∧ (y_3.p1 = y_1.p1 ∧
    y_3.p2 = y_1.p2 ∧ True) ∧ True) ∧ ∀ (y_3 : B3 y false) (ρ : Nat → Value), (decide ((↑y_3.j : Int) < (20 : Int)) = true → ((0 : Int) ≤ (↑y.i : Int) ∧ (↑y.i : Int) < (↑len : Int)) ∧ ∀
    (g : Nat → List Value), (y_3.c (↑y.i : Int).toNat = none → ((0 : Int) ≤ (↑y.i : Int) ∧ (↑y.i : Int) < (↑len : Int)) ∧ addO true (0 : Nat) (↑y.i : Int).toNat = (↑y.i : Int).toNat ∧
    (len = len ∧ (↑y.i : Int).toNat = (↑y.i : Int).toNat ∧ g = g) ∧ ((-9223372036854775808 : Int) ≤ (↑y_3.j : Int) + (1 : Int) ∧ (↑y_3.j : Int) + (1 : Int) ≤ (9223372036854775807 :
    Int)) ∧ ∃ (y' : B3 y false), (20 : Nat) - y'.j < (20 : Nat) - y_3.j ∧ a = a ∧ len = len ∧ cap = cap ∧ (↑y.i : Int) = (↑y.i : Int) ∧ a = a ∧ len = len ∧ cap = cap ∧ (↑len : Int) =
    (↑len : Int) ∧ (↑y.i : Int) = (↑y.i : Int) ∧ W = W ∧ (↑y'.j : Int) = (↑y_3.j : Int) + (1 : Int) ∧ (0 : Nat) = (0 : Nat) ∧ y.cap = y.cap ∧ (0 : Nat) = (0 : Nat) ∧ len = len ∧ len =
    len ∧ (0 : Nat) = (0 : Nat) ∧ len = len ∧ len = len ∧ y'.A = y_3.A ∧ ((4 : Nat) = (4 : Nat) ∧ y.cap = y.cap ∧ ∀ (i : Nat), i < (4 : Nat) → hsF i = hsF i) ∧ (len = len ∧ len = len ∧
    y'.c = fun (j : Nat) => if j = (↑y.i : Int).toNat then none else y_3.c j) ∧ (len = len ∧ len = len ∧ ∀ (i : Nat), i < len → [Value.bool (y.f i)] = [Value.bool (y.f i)]) ∧ (y'.p1 =
    y_3.p1 ∧ y'.p2 = y_3.p2 ∧ True) ∧ True) ∧ ∀ (y_4 : (cntHg xIn).X), y_3.c (↑y.i : Int).toNat = some y_4 → ((0 : Int) ≤ (↑y.i : Int) ∧ (↑y.i : Int) < (↑len : Int)) ∧ addO true (0 :
    Nat) (↑y.i : Int).toNat = (↑y.i : Int).toNat ∧ CntOk y_4 y_3.A ∧ (len = len ∧ (↑y.i : Int).toNat = (↑y.i : Int).toNat ∧ g = g) ∧ ((-9223372036854775808 : Int) ≤ (↑y_3.j : Int) + (1
    : Int) ∧ (↑y_3.j : Int) + (1 : Int) ≤ (9223372036854775807 : Int)) ∧ ∃ (y' : B3 y false), (20 : Nat) - y'.j < (20 : Nat) - y_3.j ∧ a = a ∧ len = len ∧ cap = cap ∧ (↑y.i : Int) =
    (↑y.i : Int) ∧ a = a ∧ len = len ∧ cap = cap ∧ (↑len : Int) = (↑len : Int) ∧ (↑y.i : Int) = (↑y.i : Int) ∧ W = W ∧ (↑y'.j : Int) = (↑y_3.j : Int) + (1 : Int) ∧ (0 : Nat) = (0 : Nat)
    ∧ y.cap = y.cap ∧ (0 : Nat) = (0 : Nat) ∧ len = len ∧ len = len ∧ (0 : Nat) = (0 : Nat) ∧ len = len ∧ len = len ∧ y'.A = stepA y_4 y_3.A ∧ ((4 : Nat) = (4 : Nat) ∧ y.cap = y.cap ∧ ∀
    (i : Nat), i < (4 : Nat) → hsF i = hsF i) ∧ (len = len ∧ len = len ∧ y'.c = fun (j : Nat) => if j = (↑y.i : Int).toNat then some (stepC y_4) else y_3.c j) ∧ (len = len ∧ len = len ∧
    ∀ (i : Nat), i < len → [Value.bool (y.f i)] = [Value.bool (y.f i)]) ∧ (y'.p1 = y_3.p1 ∧ y'.p2 = y_3.p2 ∧ True) ∧ True) ∧ (decide ((↑y_3.j : Int) < (20 : Int)) = false → ((0 : Int) ≤
    (↑y.i : Int) ∧ (↑y.i : Int) < (↑len : Int)) ∧ ∀ (g : Nat → List Value), (y_3.c (↑y.i : Int).toNat = none → ((0 : Int) ≤ (↑y.i : Int) ∧ (↑y.i : Int) < (↑len : Int)) ∧ addO true (0 :
    Nat) (↑y.i : Int).toNat = (↑y.i : Int).toNat ∧ false = false ∧ (len = len ∧ (↑y.i : Int).toNat = (↑y.i : Int).toNat ∧ g = g) ∧ ((-9223372036854775808 : Int) ≤ (↑y.i : Int) + (1 :
    Int) ∧ (↑y.i : Int) + (1 : Int) ≤ (9223372036854775807 : Int)) ∧ ∃ (y' : B2 W a len), len - y'.i < len - y.i ∧ a = a ∧ len = len ∧ cap = cap ∧ a = a ∧ len = len ∧ cap = cap ∧ (↑len
    : Int) = (↑len : Int) ∧ W = W ∧ (↑y'.i : Int) = (↑y.i : Int) + (1 : Int) ∧ (0 : Nat) = (0 : Nat) ∧ y'.cap = y.cap ∧ (0 : Nat) = (0 : Nat) ∧ len = len ∧ len = len ∧ (0 : Nat) = (0 :
    Nat) ∧ len = len ∧ len = len ∧ y'.A = y_3.A ∧ ((4 : Nat) = (4 : Nat) ∧ y'.cap = y.cap ∧ ∀ (i : Nat), i < (4 : Nat) → hsF i = hsF i) ∧ (len = len ∧ len = len ∧ y'.c = fun (j : Nat)
    => if j = (↑y.i : Int).toNat then none else y_3.c j) ∧ (len = len ∧ len = len ∧ ∀ (i : Nat), i < len → [Value.bool (y'.f i)] = [Value.bool (y.f i)]) ∧ True) ∧ ∀ (y_4 : (cntHg
    xIn).X), y_3.c (↑y.i : Int).toNat = some y_4 → ((0 : Int) ≤ (↑y.i : Int) ∧ (↑y.i : Int) < (↑len : Int)) ∧ addO true (0 : Nat) (↑y.i : Int).toNat = (↑y.i : Int).toNat ∧ (!isDone y_4)
    = false ∧ (len = len ∧ (↑y.i : Int).toNat = (↑y.i : Int).toNat ∧ g = g) ∧ ((-9223372036854775808 : Int) ≤ (↑y.i : Int) + (1 : Int) ∧ (↑y.i : Int) + (1 : Int) ≤ (9223372036854775807
    : Int)) ∧ ∃ (y' : B2 W a len), len - y'.i < len - y.i ∧ a = a ∧ len = len ∧ cap = cap ∧ a = a ∧ len = len ∧ cap = cap ∧ (↑len : Int) = (↑len : Int) ∧ W = W ∧ (↑y'.i : Int) = (↑y.i :
    Int) + (1 : Int) ∧ (0 : Nat) = (0 : Nat) ∧ y'.cap = y.cap ∧ (0 : Nat) = (0 : Nat) ∧ len = len ∧ len = len ∧ (0 : Nat) = (0 : Nat) ∧ len = len ∧ len = len ∧ y'.A = y_3.A ∧ ((4 : Nat)
    = (4 : Nat) ∧ y'.cap = y.cap ∧ ∀ (i : Nat), i < (4 : Nat) → hsF i = hsF i) ∧ (len = len ∧ len = len ∧ y'.c = fun (j : Nat) => if j = (↑y.i : Int).toNat then some y_4 else y_3.c j) ∧
    (len = len ∧ len = len ∧ ∀ (i : Nat), i < len → [Value.bool (y'.f i)] = [Value.bool (y.f i)]) ∧ True)) ∧ (y.6 (addO true (0 : Nat) (↑y.i : Int).toNat) = false → (∃ (y_2 : B3 y
    false), a = a ∧ len = len ∧ cap = cap ∧ (↑y.i : Int) = (↑y.i : Int) ∧ a = a ∧ len = len ∧ cap = cap ∧ (↑len : Int) = (↑len : Int) ∧ (↑y.i : Int) = (↑y.i : Int) ∧ W = W ∧ (↑y_2.j :
    Int) = (0 : Int) ∧ (0 : Nat) = (0 : Nat) ∧ y.cap = y.cap ∧ (0 : Nat) = (0 : Nat) ∧ len = len ∧ len = len ∧ (0 : Nat) = (0 : Nat) ∧ len = len ∧ len = len ∧ y_2.A = y_1.A ∧ ((4 : Nat)
    = (4 : Nat) ∧ y.cap = y.cap ∧ ∀ (i : Nat), i < (4 : Nat) → hsF i = hsF i) ∧ (len = len ∧ len = len ∧ y_2.c = y_1.c) ∧ (len = len ∧ len = len ∧ ∀ (i : Nat), i < len → [Value.bool
    (y.f i)] = [Value.bool (y.f i)]) ∧ (y_2.p1 = y_1.p1 ∧ y_2.p2 = y_1.p2 ∧ True) ∧ True) ∧ ∀ (y_2 : B3 y false) (ρ : Nat → Value), (decide ((↑y_2.j : Int) < (20 : Int)) = true → ((0 :
    Int) ≤ (↑y.i : Int) ∧ (↑y.i : Int) < (↑len : Int)) ∧ ∀ (g : Nat → List Value), (y_2.c (↑y.i : Int).toNat = none → ((0 : Int) ≤ (↑y.i : Int) ∧ (↑y.i : Int) < (↑len : Int)) ∧ addO
    true (0 : Nat) (↑y.i : Int).toNat = (↑y.i : Int).toNat ∧ (len = len ∧ (↑y.i : Int).toNat = (↑y.i : Int).toNat ∧ g = g) ∧ ((-9223372036854775808 : Int) ≤ (↑y_2.j : Int) + (1 : Int) ∧
    (↑y_2.j : Int) + (1 : Int) ≤ (9223372036854775807 : Int)) ∧ ∃ (y' : B3 y false), (20 : Nat) - y'.j < (20 : Nat) - y_2.j ∧ a = a ∧ len = len ∧ cap = cap ∧ (↑y.i : Int) = (↑y.i : Int)
    ∧ a = a ∧ len = len ∧ cap = cap ∧ (↑len : Int) = (↑len : Int) ∧ (↑y.i : Int) = (↑y.i : Int) ∧ W = W ∧ (↑y'.j : Int) = (↑y_2.j : Int) + (1 : Int) ∧ (0 : Nat) = (0 : Nat) ∧ y.cap =
    y.cap ∧ (0 : Nat) = (0 : Nat) ∧ len = len ∧ len = len ∧ (0 : Nat) = (0 : Nat) ∧ len = len ∧ len = len ∧ y'.A = y_2.A ∧ ((4 : Nat) = (4 : Nat) ∧ y.cap = y.cap ∧ ∀ (i : Nat), i < (4 :
    Nat) → hsF i = hsF i) ∧ (len = len ∧ len = len ∧ y'.c = fun (j : Nat) => if j = (↑y.i : Int).toNat then none else y_2.c j) ∧ (len = len ∧ len = len ∧ ∀ (i : Nat), i < len →
    [Value.bool (y.f i)] = [Value.bool (y.f i)]) ∧ (y'.p1 = y_2.p1 ∧ y'.p2 = y_2.p2 ∧ True) ∧ True) ∧ ∀ (y_3 : (cntHg xIn).X), y_2.c (↑y.i : Int).toNat = some y_3 → ((0 : Int) ≤ (↑y.i :
    Int) ∧ (↑y.i : Int) < (↑len : Int)) ∧ addO true (0 : Nat) (↑y.i : Int).toNat = (↑y.i : Int).toNat ∧ CntOk y_3 y_2.A ∧ (len = len ∧ (↑y.i : Int).toNat = (↑y.i : Int).toNat ∧ g = g) ∧
    ((-9223372036854775808 : Int) ≤ (↑y_2.j : Int) + (1 : Int) ∧ (↑y_2.j : Int) + (1 : Int) ≤ (9223372036854775807 : Int)) ∧ ∃ (y' : B3 y false), (20 : Nat) - y'.j < (20 : Nat) - y_2.j
    ∧ a = a ∧ len = len ∧ cap = cap ∧ (↑y.i : Int) = (↑y.i : Int) ∧ a = a ∧ len = len ∧ cap = cap ∧ (↑len : Int) = (↑len : Int) ∧ (↑y.i : Int) = (↑y.i : Int) ∧ W = W ∧ (↑y'.j : Int) =
    (↑y_2.j : Int) + (1 : Int) ∧ (0 : Nat) = (0 : Nat) ∧ y.cap = y.cap ∧ (0 : Nat) = (0 : Nat) ∧ len = len ∧ len = len ∧ (0 : Nat) = (0 : Nat) ∧ len = len ∧ len = len ∧ y'.A = stepA y_3
    y_2.A ∧ ((4 : Nat) = (4 : Nat) ∧ y.cap = y.cap ∧ ∀ (i : Nat), i < (4 : Nat) → hsF i = hsF i) ∧ (len = len ∧ len = len ∧ y'.c = fun (j : Nat) => if j = (↑y.i : Int).toNat then some
    (stepC y_3) else y_2.c j) ∧ (len = len ∧ len = len ∧ ∀ (i : Nat), i < len → [Value.bool (y.f i)] = [Value.bool (y.f i)]) ∧ (y'.p1 = y_2.p1 ∧ y'.p2 = y_2.p2 ∧ True) ∧ True) ∧ (decide
    ((↑y_2.j : Int) < (20 : Int)) = false → ((0 : Int) ≤ (↑y.i : Int) ∧ (↑y.i : Int) < (↑len : Int)) ∧ ∀ (g : Nat → List Value), (y_2.c (↑y.i : Int).toNat = none → ((0 : Int) ≤ (↑y.i :
    Int) ∧ (↑y.i : Int) < (↑len : Int)) ∧ addO true (0 : Nat) (↑y.i : Int).toNat = (↑y.i : Int).toNat ∧ false = false ∧ (len = len ∧ (↑y.i : Int).toNat = (↑y.i : Int).toNat ∧ g = g) ∧
    ((-9223372036854775808 : Int) ≤ (↑y.i : Int) + (1 : Int) ∧ (↑y.i : Int) + (1 : Int) ≤ (9223372036854775807 : Int)) ∧ ∃ (y' : B2 W a len), len - y'.i < len - y.i ∧ a = a ∧ len = len
    ∧ cap = cap ∧ a = a ∧ len = len ∧ cap = cap ∧ (↑len : Int) = (↑len : Int) ∧ W = W ∧ (↑y'.i : Int) = (↑y.i : Int) + (1 : Int) ∧ (0 : Nat) = (0 : Nat) ∧ y'.cap = y.cap ∧ (0 : Nat) =
    (0 : Nat) ∧ len = len ∧ len = len ∧ (0 : Nat) = (0 : Nat) ∧ len = len ∧ len = len ∧ y'.A = y_2.A ∧ ((4 : Nat) = (4 : Nat) ∧ y'.cap = y.cap ∧ ∀ (i : Nat), i < (4 : Nat) → hsF i = hsF
    i) ∧ (len = len ∧ len = len ∧ y'.c = fun (j : Nat) => if j = (↑y.i : Int).toNat then none else y_2.c j) ∧ (len = len ∧ len = len ∧ ∀ (i : Nat), i < len → [Value.bool (y'.f i)] =
    [Value.bool (y.f i)]) ∧ True) ∧ ∀ (y_3 : (cntHg xIn).X), y_2.c (↑y.i : Int).toNat = some y_3 → ((0 : Int) ≤ (↑y.i : Int) ∧ (↑y.i : Int) < (↑len : Int)) ∧ addO true (0 : Nat) (↑y.i :
    Int).toNat = (↑y.i : Int).toNat ∧ (!isDone y_3) = false ∧ (len = len ∧ (↑y.i : Int).toNat = (↑y.i : Int).toNat ∧ g = g) ∧ ((-9223372036854775808 : Int) ≤ (↑y.i : Int) + (1 : Int) ∧
    (↑y.i : Int) + (1 : Int) ≤ (9223372036854775807 : Int)) ∧ ∃ (y' : B2 W a len), len - y'.i < len - y.i ∧ a = a ∧ len = len ∧ cap = cap ∧ a = a ∧ len = len ∧ cap = cap ∧ (↑len : Int)
    = (↑len : Int) ∧ W = W ∧ (↑y'.i : Int) = (↑y.i : Int) + (1 : Int) ∧ (0 : Nat) = (0 : Nat) ∧ y'.cap = y.cap ∧ (0 : Nat) = (0 : Nat) ∧ len = len ∧ len = len ∧ (0 : Nat) = (0 : Nat) ∧
    len = len ∧ len = len ∧ y'.A = y_2.A ∧ ((4 : Nat) = (4 : Nat) ∧ y'.cap = y.cap ∧ ∀ (i : Nat), i < (4 : Nat) → hsF i = hsF i) ∧ (len = len ∧ len = len ∧ y'.c = fun (j : Nat) => if j
    = (↑y.i : Int).toNat then some y_3 else y_2.c j) ∧ (len = len ∧ len = len ∧ ∀ (i : Nat), i < len → [Value.bool (y'.f i)] = [Value.bool (y.f i)]) ∧ True)))) ∧ (decide ((↑y.i : Int) <
    (↑len : Int)) = false → y.A.s.back.length ≤ (70000 : Nat) ∧ ∀ (W' : World) (a_8 : Option Addr) (cap : Nat) (bs L : List (Nat × List Nat)), Grow W W' → ArInv y.A → L = allOf y.A → bs
    = List.take (Int.toNat (9 : Int)) L → BlkRow W' a_8 bs.length bs → bs.length ≤ cap ∧ cap ≤ (9223372036854775807 : Nat) → (∃ (y_1 : { j : Nat // j ≤ (9 : Nat) }), a_8 = a_8 ∧
    bs.length = bs.length ∧ cap = cap ∧ (↑bs.length : Int) = (↑bs.length : Int) ∧ W' = W' ∧ (↑y_1.val : Int) = (0 : Int) ∧ y.A = y.A ∧ True) ∧ ∀ (y_1 : { j : Nat // j ≤ (9 : Nat) }) (ρ
    : Nat → Value), (decide ((↑y_1.val : Int) < (↑bs.length : Int)) = true → ((0 : Int) ≤ (↑y_1.val : Int) ∧ (↑y_1.val : Int) < (↑bs.length : Int) ∧ a_8.isSome = true) ∧ ((∃ (x : Addr),
    addOpt (addOpt a_8 ((↑y_1.val : Int).toNat * Try.prog.types[(123 : Nat)].size)) (0 : Nat) = some x ∧ W'.cell? x = some (Value.int IntKind.u64 (seenInt IntKind.u64 W' (addOpt (addOpt
    a_8 ((↑y_1.val : Int).toNat * (2 : Nat))) (0 : Nat))))) ∧ (∃ (x : Addr), addOpt (addOpt a_8 ((↑y_1.val : Int).toNat * Try.prog.types[(123 : Nat)].size)) ((0 : Nat) + (1 : Nat)) =
    some x ∧ W'.cell? x = some (Value.slice (seenSli W' (addOpt (addOpt a_8 ((↑y_1.val : Int).toNat * Try.prog.types[(123 : Nat)].size)) ((0 : Nat) + (1 : Nat)))).fst (seenSli W'
    (addOpt (addOpt a_8 ((↑y_1.val : Int).toNat * (2 : Nat))) (1 : Nat))).snd.fst (seenSli W' (addOpt (addOpt a_8 ((↑y_1.val : Int).toNat * (2 : Nat))) (1 : Nat))).snd.snd)) ∧ True) ∧
    (∃ (y_2 : { j : Nat // j ≤ (2048 : Nat) }), a_8 = a_8 ∧ bs.length = bs.length ∧ cap = cap ∧ (↑bs.length : Int) = (↑bs.length : Int) ∧ (↑y_1.val : Int) = (↑y_1.val : Int) ∧ (seenSli
    W' (addOpt (addOpt a_8 ((↑y_1.val : Int).toNat * Try.prog.types[(123 : Nat)].size)) ((0 : Nat) + (1 : Nat)))).fst = (seenSli W' (addOpt (addOpt a_8 ((↑y_1.val : Int).toNat *
    Try.prog.types[(123 : Nat)].size)) ((0 : Nat) + (1 : Nat)))).fst ∧ (seenSli W' (addOpt (addOpt a_8 ((↑y_1.val : Int).toNat * (2 : Nat))) (1 : Nat))).snd.fst = (seenSli W' (addOpt
    (addOpt a_8 ((↑y_1.val : Int).toNat * (2 : Nat))) (1 : Nat))).snd.fst ∧ (seenSli W' (addOpt (addOpt a_8 ((↑y_1.val : Int).toNat * (2 : Nat))) (1 : Nat))).snd.snd = (seenSli W'
    (addOpt (addOpt a_8 ((↑y_1.val : Int).toNat * (2 : Nat))) (1 : Nat))).snd.snd ∧ (↑(seenSli W' (addOpt (addOpt a_8 ((↑y_1.val : Int).toNat * (2 : Nat))) (1 : Nat))).snd.fst : Int) =
    (↑(seenSli W' (addOpt (addOpt a_8 ((↑y_1.val : Int).toNat * (2 : Nat))) (1 : Nat))).snd.fst : Int) ∧ W' = W' ∧ (↑y_2.val : Int) = (0 : Int) ∧ y.A = y.A ∧ True) ∧ ∀ (y_2 : { j : Nat
    // j ≤ (2048 : Nat) }) (ρ : Nat → Value), (decide ((↑y_2.val : Int) < (↑(seenSli W' (addOpt (addOpt a_8 ((↑y_1.val : Int).toNat * (2 : Nat))) (1 : Nat))).snd.fst : Int)) = true →
    ((0 : Int) ≤ (↑y_2.val : Int) ∧ (↑y_2.val : Int) < (↑(seenSli W' (addOpt (addOpt a_8 ((↑y_1.val : Int).toNat * (2 : Nat))) (1 : Nat))).snd.fst : Int) ∧ (seenSli W' (addOpt (addOpt
    a_8 ((↑y_1.val : Int).toNat * (2 : Nat))) (1 : Nat))).fst.isSome = true) ∧ (∃ (x : Addr), addOpt (seenSli W' (addOpt (addOpt a_8 ((↑y_1.val : Int).toNat * Try.prog.types[(123 :
    Nat)].size)) ((0 : Nat) + (1 : Nat)))).fst (↑y_2.val : Int).toNat = some x ∧ W'.cell? x = some (Value.int IntKind.u64 (seenInt IntKind.u64 W' (addOpt (seenSli W' (addOpt (addOpt a_8
    ((↑y_1.val : Int).toNat * (2 : Nat))) (1 : Nat))).fst (↑y_2.val : Int).toNat)))) ∧ (seenInt IntKind.u64 W' (addOpt (seenSli W' (addOpt (addOpt a_8 ((↑y_1.val : Int).toNat * (2 :
    Nat))) (1 : Nat))).fst (↑y_2.val : Int).toNat) != (0 : Int)) = false ∧ ((-9223372036854775808 : Int) ≤ (↑y_2.val : Int) + (1 : Int) ∧ (↑y_2.val : Int) + (1 : Int) ≤
    (9223372036854775807 : Int)) ∧ ∃ (y' : { j : Nat // j ≤ (2048 : Nat) }), (2048 : Nat) - y'.val < (2048 : Nat) - y_2.val ∧ a_8 = a_8 ∧ bs.length = bs.length ∧ cap = cap ∧ (↑bs.length
    : Int) = (↑bs.length : Int) ∧ (↑y_1.val : Int) = (↑y_1.val : Int) ∧ (seenSli W' (addOpt (addOpt a_8 ((↑y_1.val : Int).toNat * Try.prog.types[(123 : Nat)].size)) ((0 : Nat) + (1 :
    Nat)))).fst = (seenSli W' (addOpt (addOpt a_8 ((↑y_1.val : Int).toNat * Try.prog.types[(123 : Nat)].size)) ((0 : Nat) + (1 : Nat)))).fst ∧ (seenSli W' (addOpt (addOpt a_8 ((↑y_1.val
    : Int).toNat * (2 : Nat))) (1 : Nat))).snd.fst = (seenSli W' (addOpt (addOpt a_8 ((↑y_1.val : Int).toNat * (2 : Nat))) (1 : Nat))).snd.fst ∧ (seenSli W' (addOpt (addOpt a_8
    ((↑y_1.val : Int).toNat * (2 : Nat))) (1 : Nat))).snd.snd = (seenSli W' (addOpt (addOpt a_8 ((↑y_1.val : Int).toNat * (2 : Nat))) (1 : Nat))).snd.snd ∧ (↑(seenSli W' (addOpt (addOpt
    a_8 ((↑y_1.val : Int).toNat * (2 : Nat))) (1 : Nat))).snd.fst : Int) = (↑(seenSli W' (addOpt (addOpt a_8 ((↑y_1.val : Int).toNat * (2 : Nat))) (1 : Nat))).snd.fst : Int) ∧ W' = W' ∧
    (↑y'.val : Int) = (↑y_2.val : Int) + (1 : Int) ∧ y.A = y.A ∧ True) ∧ (decide ((↑y_2.val : Int) < (↑(seenSli W' (addOpt (addOpt a_8 ((↑y_1.val : Int).toNat * (2 : Nat))) (1 :
    Nat))).snd.fst : Int)) = false → ((-9223372036854775808 : Int) ≤ (↑y_1.val : Int) + (1 : Int) ∧ (↑y_1.val : Int) + (1 : Int) ≤ (9223372036854775807 : Int)) ∧ ∃ (y' : { j : Nat // j
    ≤ (9 : Nat) }), (9 : Nat) - y'.val < (9 : Nat) - y_1.val ∧ a_8 = a_8 ∧ bs.length = bs.length ∧ cap = cap ∧ (↑bs.length : Int) = (↑bs.length : Int) ∧ W' = W' ∧ (↑y'.val : Int) =
    (↑y_1.val : Int) + (1 : Int) ∧ y.A = y.A ∧ True)) ∧ (decide ((↑y_1.val : Int) < (↑bs.length : Int)) = false → (wr64 y.A.faults == (0 : Int)) = true ∧ ∃ (W'_1 : World), some W' =
    some W'_1 ∧ Grow W W'_1))))))) := by
  kernel_rfl
theorem countBack_run (W : World) (a : Option Addr) (len cap : Nat) (pa : Option Addr) (plen pcap : Nat) (hc : (0 < len → a.isSome = true) ∧ (∀ j, j < len → Seen .u8 W (addOpt a j)) ∧ (0 < plen → pa.isSome = true) ∧ (∀ j, j < plen → Seen .u8 W (addOpt pa j))) : Run (callN Try.prog (tblCB : List (Smry Try.prog XN)) (fun _ _ => false) 100 20 9 [.c (.sliv a false len cap), .c (.sliv pa false plen pcap)] ⟨[(0, .seen W)], 1⟩ (scrB W a len plen) (fun v m _ => retGrow W v m)) := by
  constructor
  rw [countBack_vc]
  obtain ⟨hs, hx, hps, hpx⟩ := hc
  have grow : ∃ W' : World, some W = some W' ∧ Grow W W' := ⟨W, rfl, Grow.refl W⟩
  refine ⟨fun _ => ⟨rfl, grow⟩, fun hl0 => ⟨fun _ => ⟨rfl, grow⟩, fun hl12 => ⟨fun _ => ⟨rfl, grow⟩, fun hp300 => ?_⟩⟩⟩
  have h12 : len ≤ 12 := by have := of_decide_eq_false hl12; omega
  have hpos : 0 < len := by have := beq_eq_false_iff_ne.1 hl0; omega
  have h300 : plen ≤ 300 := by have := of_decide_eq_false hp300; omega
  intro A cap1 z ad ln cp hA hcap
  have slE : ∀ i : Nat, (seenInt .u8 W (addOpt a i) % 15).toNat = slF W a i := fun _ => rfl
  have slB : ∀ i : Nat, 0 ≤ seenInt .u8 W (addOpt a i) % 15 ∧ seenInt .u8 W (addOpt a i) % 15 ≤ 14 ∧ seenInt .u8 W (addOpt a i) % 15 = (slF W a i : Nat) := fun i => by
    have h1 := Int.emod_lt_of_pos (seenInt .u8 W (addOpt a i)) (show (0 : Int) < 15 by omega)
    have h2 := Int.emod_nonneg (seenInt .u8 W (addOpt a i)) (show (15 : Int) ≠ 0 by omega)
    have h3 := slE i
    omega
  have sg4 : ∀ i : Nat, segG (slF W a i) < 4 := fun i => by have := segG_14 (slF_le W a i); omega
  have hs0 : ∀ g : Nat, 0 ≤ hsF g := fun g => Int.natCast_nonneg _
  have frE : ∀ i : Nat, enterC (hsF (segG (slF W a i))) (seenInt .u8 W (addOpt a i) % 15) = freshC (slF W a i) 1 := fun i => by
    unfold enterC freshC hsF
    rw [Int.toNat_natCast]
    rfl
  have frX : ∀ i : Nat, cntNew (hsF (segG (slF W a i))).toNat (slF W a i) 0 99 18446744073709551615 = freshC (slF W a i) fullB := fun i => by
    have := sg4 i
    unfold cntNew freshC hsF fullB
    rw [Int.toNat_natCast]
    congr 1 <;> omega
  have u8 : ∀ x, 0 ≤ seenInt .u8 W x ∧ seenInt .u8 W x ≤ 255 := fun x => seenInt_bd .u8 W x
  simp only [Int.toNat_natCast, addO_eq, Nat.zero_add]
  repeat' first
    | with_reducible apply And.intro
    | with_reducible exact trivial
    | with_reducible exact Eq.refl _
  · omega
  · omega
  · omega
  · omega
  · omega
  · omega
  · exact fun _ _ => trivial
  · exact ⟨⟨0, cap1, A, A, fun _ => none, fun _ => false, Nat.zero_le _, hcap, hA, CtInv.zero hA _ _, fun _ _ => rfl⟩, by repeat' first
        | with_reducible apply And.intro
        | with_reducible exact trivial
        | with_reducible exact Eq.refl _
        | exact fun _ _ => trivial
        | (show ((0 : Nat) : Int) = 0; rfl)
        | exact fun _ _ => rfl⟩
  · intro y ρ
    refine ⟨fun hlt => ?_, fun hge => ?_⟩
    · have hk : y.k < plen := by have := of_decide_eq_true hlt; omega
      obtain ⟨i, hi1, hi2⟩ := mod_slot len (u8 (addOpt pa y.k)).1 hpos
      simp only [hi1, Int.toNat_natCast, slE]
      have hb := slB i
      have h4 := sg4 i
      refine ⟨⟨by omega, by omega, hps (by omega)⟩, hpx _ hk, ⟨(u8 _).1, by omega⟩, ⟨by omega, by omega, hs hpos⟩, hx _ hi2, decide_eq_false (by omega), ⟨by omega, by omega⟩, h4, ⟨by omega, by omega⟩, fun g => ⟨fun hn => ?_, fun st hst => ?_⟩⟩
      · have hd : doneC (y.c i) = true := by rw [hn]; rfl
        refine ⟨⟨by omega, by omega⟩, (by first | exact trivial | rfl), fun _ => ⟨⟨by omega, by omega⟩, hi2, fun hf => ?_, fun hf => ?_⟩, fun hf => by cases hf⟩
        · obtain ⟨ok, y', e1, e2, e3, e4, e5, e6⟩ := y.turn h12 hk hi2 hd hf (frX i)
          repeat' first
            | with_reducible apply And.intro
            | with_reducible exact trivial
            | with_reducible exact Eq.refl _
            | with_reducible assumption
            | (with_reducible refine Exists.intro y' ?_)
            | omega
            | exact hs0 _
            | with_reducible exact e5
            | exact e5
            | exact fun _ _ => trivial
            | exact fun _ _ => rfl
            | exact fun j hj => congrArg (fun b => [Value.bool b]) (e6 j hj)
        · obtain ⟨ok, y', e1, e2, e3, e4, e5, e6⟩ := y.turn h12 hk hi2 hd hf (frE i)
          repeat' first
            | with_reducible apply And.intro
            | with_reducible exact trivial
            | with_reducible exact Eq.refl _
            | with_reducible assumption
            | (with_reducible refine Exists.intro y' ?_)
            | omega
            | exact hs0 _
            | with_reducible exact e5
            | exact e5
            | exact fun _ _ => trivial
            | exact fun _ _ => rfl
            | exact fun j hj => congrArg (fun b => [Value.bool b]) (e6 j hj)
      · refine ⟨⟨by omega, by omega⟩, (by first | exact trivial | rfl), fun hdn => ⟨⟨by omega, by omega⟩, hi2, fun hf => ?_, fun hf => ?_⟩, fun hdn => ?_⟩
        · obtain ⟨ok, y', e1, e2, e3, e4, e5, e6⟩ := y.turn h12 hk hi2 (by rw [hst]; exact hdn) hf (frX i)
          repeat' first
            | with_reducible apply And.intro
            | with_reducible exact trivial
            | with_reducible exact Eq.refl _
            | with_reducible assumption
            | (with_reducible refine Exists.intro y' ?_)
            | omega
            | exact hs0 _
            | with_reducible exact e5
            | exact e5
            | exact fun _ _ => trivial
            | exact fun _ _ => rfl
            | exact fun j hj => congrArg (fun b => [Value.bool b]) (e6 j hj)
        · obtain ⟨ok, y', e1, e2, e3, e4, e5, e6⟩ := y.turn h12 hk hi2 (by rw [hst]; exact hdn) hf (frE i)
          repeat' first
            | with_reducible apply And.intro
            | with_reducible exact trivial
            | with_reducible exact Eq.refl _
            | with_reducible assumption
            | (with_reducible refine Exists.intro y' ?_)
            | omega
            | exact hs0 _
            | with_reducible exact e5
            | exact e5
            | exact fun _ _ => trivial
            | exact fun _ _ => rfl
            | exact fun j hj => congrArg (fun b => [Value.bool b]) (e6 j hj)
        · obtain ⟨ok, y', e1, e2, e3, e4, e5, e6⟩ := y.step h12 hk hi2 hst
          repeat' first
            | with_reducible apply And.intro
            | with_reducible exact trivial
            | with_reducible exact Eq.refl _
            | with_reducible assumption
            | (with_reducible refine Exists.intro y' ?_)
            | omega
            | exact hs0 _
            | with_reducible exact e5
            | exact e5
            | exact fun _ _ => trivial
            | exact fun _ _ => rfl
            | exact fun j hj => congrArg (fun b => [Value.bool b]) (e6 j hj)
    · refine ⟨?_, fun y ρ => ⟨fun hlt => ?_, fun hge => ?_⟩⟩
      · obtain ⟨y', e1, e3, e4, e5, e6⟩ := y.toB2
        have e2 : (y'.i : Int) = 0 := by rw [e1]; rfl
        repeat' first
          | with_reducible apply And.intro
          | with_reducible exact trivial
          | with_reducible exact Eq.refl _
          | with_reducible assumption
          | (with_reducible refine Exists.intro y' ?_)
          | omega
          | exact hs0 _
          | with_reducible exact e5
          | exact e5
          | exact fun _ _ => trivial
          | exact fun _ _ => rfl
          | exact fun j hj => congrArg (fun b => [Value.bool b]) (e6 j hj)
      · have hi2 : y.i < len := by have := of_decide_eq_true hlt; omega
        simp only [slE]
        have hb := slB y.i
        have h4 := sg4 y.i
        refine ⟨⟨by omega, by omega, hs hpos⟩, hx _ hi2, decide_eq_false (by omega), ⟨by omega, by omega⟩, h4, ?_, fun z ρ => ⟨fun hlt => ?_, fun hge => ?_⟩⟩
        · obtain ⟨y', e1, e2, e3, e4, e5⟩ := y.toB3 hi2 (p1 := hsF (segG (slF W a y.i))) (p2 := seenInt .u8 W (addOpt a y.i) % 15) rfl hb.2.2
          have e6 : (y'.j : Int) = 0 := by rw [e1]; rfl
          repeat' first
            | with_reducible apply And.intro
            | with_reducible exact trivial
            | with_reducible exact Eq.refl _
            | with_reducible assumption
            | (with_reducible refine Exists.intro y' ?_)
            | omega
            | exact hs0 _
            | with_reducible exact e5
            | exact e5
            | exact fun _ _ => trivial
            | exact fun _ _ => rfl
            | exact fun j hj => congrArg (fun b => [Value.bool b]) (e6 j hj)
        · have hj : z.j < 20 := by have := of_decide_eq_true hlt; omega
          refine ⟨⟨by omega, by omega⟩, fun g => ⟨fun hn => ?_, fun st hst => ?_⟩⟩
          · obtain ⟨y', e1, e2, e3, e4, e5, e6⟩ := z.still hj hn
            repeat' first
              | with_reducible apply And.intro
              | with_reducible exact trivial
              | with_reducible exact Eq.refl _
              | with_reducible assumption
              | (with_reducible refine Exists.intro y' ?_)
              | omega
              | exact hs0 _
              | with_reducible exact e5
              | exact e5
              | exact fun _ _ => trivial
              | exact fun _ _ => rfl
              | exact fun j hj => congrArg (fun b => [Value.bool b]) (e6 j hj)
          · obtain ⟨ok, y', e1, e2, e3, e4, e5, e6⟩ := z.step h12 hi2 hj hst
            repeat' first
              | with_reducible apply And.intro
              | with_reducible exact trivial
              | with_reducible exact Eq.refl _
              | with_reducible assumption
              | (with_reducible refine Exists.intro y' ?_)
              | omega
              | exact hs0 _
              | with_reducible exact e5
              | exact e5
              | exact fun _ _ => trivial
              | exact fun _ _ => rfl
              | exact fun j hj => congrArg (fun b => [Value.bool b]) (e6 j hj)
        · have hj : 20 ≤ z.j := by have := of_decide_eq_false hge; omega
          have hp1 := z.hp1
          have hp2 := z.hp2
          have hsl := slF_le W a y.i
          have fr : cntNew z.p1.toNat z.p2.toNat 0 99 18446744073709551615 = freshC (slF W a y.i) fullB := by
            rw [hp1, hp2, Int.toNat_natCast, Int.toNat_natCast]
            exact frX y.i
          refine ⟨⟨by omega, by omega⟩, hi2, fun hf => ⟨⟨by omega, by omega⟩, fun g => ⟨fun hn => ?_, fun st hst => ?_⟩⟩, fun hf => ?_⟩
          · exfalso
            have h1 := z.inn
            rw [hn, ← y.hf y.i (Nat.le_refl _) hi2, hf] at h1
            cases h1
          · refine ⟨⟨by omega, by omega, by omega⟩, ⟨by omega, by omega⟩, (by first | exact trivial | rfl), (by first | exact ⟨rfl, rfl⟩ | exact ⟨trivial, trivial⟩ | exact ⟨trivial, trivial, trivial⟩ | trivial), ?_, fun z ρ => ?_⟩
            · obtain ⟨y', e1, e2, e3, e4, e5⟩ := z.exit hi2 hj hf fr
              have e6 : (y'.j : Int) = 0 := by rw [e1]; rfl
              repeat' first
                | with_reducible apply And.intro
                | with_reducible exact trivial
                | with_reducible exact Eq.refl _
                | with_reducible assumption
                | (with_reducible refine Exists.intro y' ?_)
                | omega
                | exact hs0 _
                | with_reducible exact e5
                | exact e5
                | exact fun _ _ => trivial
                | exact fun _ _ => rfl
                | exact fun j hj => congrArg (fun b => [Value.bool b]) (e6 j hj)
            · refine ⟨fun hlt => ?_, fun hge => ?_⟩
              · have hj : z.j < 20 := by have := of_decide_eq_true hlt; omega
                refine ⟨⟨by omega, by omega⟩, fun g => ⟨fun hn => ?_, fun st hst => ?_⟩⟩
                · obtain ⟨y', e1, e2, e3, e4, e5, e6⟩ := z.still hj hn
                  repeat' first
                    | with_reducible apply And.intro
                    | with_reducible exact trivial
                    | with_reducible exact Eq.refl _
                    | with_reducible assumption
                    | (with_reducible refine Exists.intro y' ?_)
                    | omega
                    | exact hs0 _
                    | with_reducible exact e5
                    | exact e5
                    | exact fun _ _ => trivial
                    | exact fun _ _ => rfl
                    | exact fun j hj => congrArg (fun b => [Value.bool b]) (e6 j hj)
                · obtain ⟨ok, y', e1, e2, e3, e4, e5, e6⟩ := z.step h12 hi2 hj hst
                  repeat' first
                    | with_reducible apply And.intro
                    | with_reducible exact trivial
                    | with_reducible exact Eq.refl _
                    | with_reducible assumption
                    | (with_reducible refine Exists.intro y' ?_)
                    | omega
                    | exact hs0 _
                    | with_reducible exact e5
                    | exact e5
                    | exact fun _ _ => trivial
                    | exact fun _ _ => rfl
                    | exact fun j hj => congrArg (fun b => [Value.bool b]) (e6 j hj)
              · have hj : 20 ≤ z.j := by have := of_decide_eq_false hge; omega
                refine ⟨⟨by omega, by omega⟩, fun g => ⟨fun hn => ?_, fun st hst => ?_⟩⟩
                · obtain ⟨y', e1, e2, e3, e4, e5, e6⟩ := z.last hi2 hj hn
                  repeat' first
                    | with_reducible apply And.intro
                    | with_reducible exact trivial
                    | with_reducible exact Eq.refl _
                    | with_reducible assumption
                    | (with_reducible refine Exists.intro y' ?_)
                    | omega
                    | exact hs0 _
                    | with_reducible exact e5
                    | exact e5
                    | exact fun _ _ => trivial
                    | exact fun _ _ => rfl
                    | exact fun j hj => congrArg (fun b => [Value.bool b]) (e6 j hj)
                · have hd : (!isDone st) = false := by
                    have := z.done hi2 hj
                    rw [hst] at this
                    exact congrArg (fun b => !b) this
                  obtain ⟨y', e1, e2, e3, e4, e5, e6⟩ := z.last hi2 hj hst
                  repeat' first
                    | with_reducible apply And.intro
                    | with_reducible exact trivial
                    | with_reducible exact Eq.refl _
                    | with_reducible assumption
                    | (with_reducible refine Exists.intro y' ?_)
                    | omega
                    | exact hs0 _
                    | with_reducible exact e5
                    | exact e5
                    | exact fun _ _ => trivial
                    | exact fun _ _ => rfl
                    | exact fun j hj => congrArg (fun b => [Value.bool b]) (e6 j hj)
          · refine ⟨?_, fun z ρ => ?_⟩
            · obtain ⟨y', e1, e2, e3, e4, e5⟩ := z.stay hi2 hf
              have e6 : (y'.j : Int) = 0 := by rw [e1]; rfl
              repeat' first
                | with_reducible apply And.intro
                | with_reducible exact trivial
                | with_reducible exact Eq.refl _
                | with_reducible assumption
                | (with_reducible refine Exists.intro y' ?_)
                | omega
                | exact hs0 _
                | with_reducible exact e5
                | exact e5
                | exact fun _ _ => trivial
                | exact fun _ _ => rfl
                | exact fun j hj => congrArg (fun b => [Value.bool b]) (e6 j hj)
            · refine ⟨fun hlt => ?_, fun hge => ?_⟩
              · have hj : z.j < 20 := by have := of_decide_eq_true hlt; omega
                refine ⟨⟨by omega, by omega⟩, fun g => ⟨fun hn => ?_, fun st hst => ?_⟩⟩
                · obtain ⟨y', e1, e2, e3, e4, e5, e6⟩ := z.still hj hn
                  repeat' first
                    | with_reducible apply And.intro
                    | with_reducible exact trivial
                    | with_reducible exact Eq.refl _
                    | with_reducible assumption
                    | (with_reducible refine Exists.intro y' ?_)
                    | omega
                    | exact hs0 _
                    | with_reducible exact e5
                    | exact e5
                    | exact fun _ _ => trivial
                    | exact fun _ _ => rfl
                    | exact fun j hj => congrArg (fun b => [Value.bool b]) (e6 j hj)
                · obtain ⟨ok, y', e1, e2, e3, e4, e5, e6⟩ := z.step h12 hi2 hj hst
                  repeat' first
                    | with_reducible apply And.intro
                    | with_reducible exact trivial
                    | with_reducible exact Eq.refl _
                    | with_reducible assumption
                    | (with_reducible refine Exists.intro y' ?_)
                    | omega
                    | exact hs0 _
                    | with_reducible exact e5
                    | exact e5
                    | exact fun _ _ => trivial
                    | exact fun _ _ => rfl
                    | exact fun j hj => congrArg (fun b => [Value.bool b]) (e6 j hj)
              · have hj : 20 ≤ z.j := by have := of_decide_eq_false hge; omega
                refine ⟨⟨by omega, by omega⟩, fun g => ⟨fun hn => ?_, fun st hst => ?_⟩⟩
                · obtain ⟨y', e1, e2, e3, e4, e5, e6⟩ := z.last hi2 hj hn
                  repeat' first
                    | with_reducible apply And.intro
                    | with_reducible exact trivial
                    | with_reducible exact Eq.refl _
                    | with_reducible assumption
                    | (with_reducible refine Exists.intro y' ?_)
                    | omega
                    | exact hs0 _
                    | with_reducible exact e5
                    | exact e5
                    | exact fun _ _ => trivial
                    | exact fun _ _ => rfl
                    | exact fun j hj => congrArg (fun b => [Value.bool b]) (e6 j hj)
                · have hd : (!isDone st) = false := by
                    have := z.done hi2 hj
                    rw [hst] at this
                    exact congrArg (fun b => !b) this
                  obtain ⟨y', e1, e2, e3, e4, e5, e6⟩ := z.last hi2 hj hst
                  repeat' first
                    | with_reducible apply And.intro
                    | with_reducible exact trivial
                    | with_reducible exact Eq.refl _
                    | with_reducible assumption
                    | (with_reducible refine Exists.intro y' ?_)
                    | omega
                    | exact hs0 _
                    | with_reducible exact e5
                    | exact e5
                    | exact fun _ _ => trivial
                    | exact fun _ _ => rfl
                    | exact fun j hj => congrArg (fun b => [Value.bool b]) (e6 j hj)
      · have hiy : y.i = len := by have := of_decide_eq_false hge; have := y.hk; omega
        refine ⟨by rw [y.hi.back]; exact Nat.zero_le _, fun W2 a2 cp2 bs L g2 inv hL hbs row hcp => ?_⟩
        have hmem : ∀ j, j < bs.length → blk3 bs j ∈ allOf y.A := fun j hj => by
          have h1 : blk3 bs j ∈ bs := List.mem_of_getElem? (blk3_some hj)
          have h2 : ∀ p, p ∈ bs → p ∈ allOf y.A := fun p hp => by
            rw [hbs] at hp
            have h3 := List.mem_of_mem_take hp
            rw [hL] at h3
            exact h3
          exact h2 _ h1
        have hz : ∀ j, j < bs.length → (blk3 bs j).2.length ≤ 2048 ∧ ∀ (k u : Nat), (blk3 bs j).2[k]? = some u → u = 0 := fun j hj => all_zero y.h0 y.hi (fun q hq => y.ho q (by omega)) inv (hmem j hj)
        have h9 : bs.length ≤ 9 := by
          rw [hbs, List.length_take]
          have : Int.toNat 9 = 9 := rfl
          omega
        refine ⟨⟨⟨0, by omega⟩, by repeat' first | with_reducible apply And.intro | with_reducible exact trivial | with_reducible exact Eq.refl _ | (show ((0 : Nat) : Int) = 0; rfl)⟩, fun q ρ => ⟨fun hlt => ?_, fun hge => ?_⟩⟩
        · have hq : q.1 < bs.length := by have := of_decide_eq_true hlt; omega
          obtain ⟨s1, s2⟩ := row.slice hq
          obtain ⟨z1, z2⟩ := hz q.1 hq
          refine ⟨⟨by omega, by omega, row.sm (by omega)⟩, row.kinds hq, ⟨⟨0, by omega⟩, by repeat' first | with_reducible apply And.intro | with_reducible exact trivial | with_reducible exact Eq.refl _ | (show ((0 : Nat) : Int) = 0; rfl)⟩, fun r ρ => ⟨fun hlt2 => ?_, fun hge2 => ?_⟩⟩
          · have hr := of_decide_eq_true hlt2
            have hr2 : r.1 < (blk3 bs q.1).2.length := by rw [← s1]; omega
            have hu := List.getElem?_eq_getElem hr2
            have hu0 := z2 r.1 _ hu
            rw [hu0] at hu
            obtain ⟨c1, c2⟩ := s2.at' r.1 _ hu
            have c3 := CellAt.int (k := .u64) c1 (by decide) (by decide)
            refine ⟨⟨by omega, by omega, s2.sm (by omega)⟩, c3.1, ?_, ⟨by omega, by omega⟩, ⟨r.1 + 1, by omega⟩, ?_⟩
            · rw [c3.2]; rfl
            · repeat' first
                | with_reducible apply And.intro
                | with_reducible exact trivial
                | with_reducible exact Eq.refl _
                | (show _ - (_ + 1) < _ - _; omega)
                | (show ((_ + 1 : Nat) : Int) = _ + 1; omega)
          · refine ⟨⟨by omega, by omega⟩, ⟨q.1 + 1, by omega⟩, ?_⟩
            repeat' first
              | with_reducible apply And.intro
              | with_reducible exact trivial
              | with_reducible exact Eq.refl _
              | (show _ - (_ + 1) < _ - _; omega)
              | (show ((_ + 1 : Nat) : Int) = _ + 1; omega)
        · refine ⟨?_, W2, rfl, g2⟩
          rw [y.hi.faults]
          rfl
end Go.Proofs.Ytnfpkadepomjjaa
