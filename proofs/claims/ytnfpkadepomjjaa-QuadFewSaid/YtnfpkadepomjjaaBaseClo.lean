/- What the executor knows of an arena's copy. -/
import Derived.Test.YtnfpkadepomjjaaCloC
import Derived.Test.YtnfpkadepomjjaaBaseS
set_option linter.all false
namespace Go.Proofs.Ytnfpkadepomjjaa
open Go Go.RowKit

/-- A copy: the same, but for the blocks' order and their rows. -/
structure CloneOf (A B : Ar) : Prop where
  cap : B.cap = A.cap
  used : B.used = A.used
  peak : B.peak = A.peak
  faults : B.faults = A.faults
  births : B.births = A.births
  fixed : B.fixed = A.fixed
  s : B.s = A.s
  t : B.t = A.t
  bs : (B.bs.map key3).Perm (A.bs.map key3)
  word : ∀ h i, B.word h i = A.word h i
  inv : ArInv A
theorem perm_n {A : Ar} {bs : List Blk} (h : (bs.map key3).Perm (A.bs.map key3)) : (bs.map (·.n)).Perm (A.bs.map (·.n)) := by
  have := h.map fun x => x.1
  rw [List.map_map, List.map_map] at this
  exact this
theorem perm_h {A : Ar} {bs : List Blk} (h : (bs.map key3).Perm (A.bs.map key3)) : (bs.map fun b => (b.h, b.ws)).Perm (A.bs.map fun b => (b.h, b.ws)) := by
  have := h.map fun x => x.2
  rw [List.map_map, List.map_map] at this
  exact this
theorem key_mem {A : Ar} {bs : List Blk} (h : (bs.map key3).Perm (A.bs.map key3)) {b : Blk} (hb : b ∈ bs) : ∃ c ∈ A.bs, c.n = b.n ∧ c.h = b.h ∧ c.ws = b.ws := by
  have h1 : key3 b ∈ A.bs.map key3 := h.mem_iff.1 (List.mem_map.2 ⟨b, hb, rfl⟩)
  obtain ⟨c, hc, e⟩ := List.mem_map.1 h1
  simp only [key3, Prod.mk.injEq] at e
  exact ⟨c, hc, e⟩
theorem clone_inv {A : Ar} (hi : ArInv A) {bs : List Blk} (h : (bs.map key3).Perm (A.bs.map key3)) : ArInv { A with bs := bs } := by
  have hl : bs.length = A.bs.length := by simpa using h.length_eq
  refine { cap := hi.cap, used := hi.used, peak := hi.peak, births := hi.births, fixed := hi.fixed, nums := hi.nums.trans (perm_n h).symm, range := fun b hb => ?_, words := fun b hb => ?_, apart := (perm_n h).nodup_iff.2 hi.apart, births' := ?_, sum := ?_, backs := hi.backs, high := ?_, bnd := hi.bnd, hmax := hi.hmax }
  · obtain ⟨c, hc, e1, e2, e3⟩ := key_mem h hb
    have := hi.range c hc
    rw [e1, e2, e3] at this
    exact this
  · obtain ⟨c, hc, e1, e2, e3⟩ := key_mem h hb
    rw [← e3]
    exact hi.words c hc
  · have h1 := (perm_h h).map fun x => x.1 / 65536
    simp only [List.map_map, Function.comp] at h1
    exact h1.nodup_iff.2 hi.births'
  · have h1 := (perm_h h).map fun x => x.2.length
    simp only [List.map_map, Function.comp] at h1
    rw [hi.sum]
    exact h1.symm.sum_nat
  · show A.s.high = bs.length + _
    rw [hl]; exact hi.high
theorem find_mem_ws {bs : List Blk} {h : Nat} {b : Blk} (hf : bs.find? (fun b => b.h == h) = some b) : b ∈ bs ∧ b.h = h := ⟨List.mem_of_find?_eq_some hf, by have := List.find?_some hf; simpa using this⟩
theorem nodup_inj {α β : Type} {f : α → β} : ∀ {l : List α}, (l.map f).Nodup → ∀ {a b : α}, a ∈ l → b ∈ l → f a = f b → a = b
  | [], _, _, _, ha, _, _ => by cases ha
  | x :: l, hn, a, b, ha, hb, e => by
    rw [List.map_cons, List.nodup_cons] at hn
    obtain ⟨h1, h2⟩ := hn
    rcases List.mem_cons.1 ha with h3 | h3 <;> rcases List.mem_cons.1 hb with h4 | h4
    · rw [h3, h4]
    · exact absurd (List.mem_map.2 ⟨b, h4, by rw [← e, h3]⟩) h1
    · exact absurd (List.mem_map.2 ⟨a, h3, by rw [e, h4]⟩) h1
    · exact nodup_inj h2 h3 h4 e
theorem clone_word {A : Ar} (hi : ArInv A) {bs : List Blk} (h : (bs.map key3).Perm (A.bs.map key3)) (x i : Nat) : Ar.word { A with bs := bs } x i = A.word x i := by
  unfold Ar.word
  split
  · rfl
  · unfold Ar.find
    show Option.bind (bs.find? _) _ = _
    have key : ∀ b ∈ A.bs, ∀ c ∈ A.bs, b.h = c.h → b.ws = c.ws := fun b hb c hc e => by
      rw [nodup_inj (f := fun b : Blk => b.h / 65536) hi.births' hb hc (by simp only [e])]
    cases h1 : bs.find? (fun b => b.h == x) with
    | none =>
      cases h2 : A.bs.find? (fun b => b.h == x) with
      | none => rfl
      | some c =>
        obtain ⟨hc, e⟩ := find_mem_ws h2
        have h3 : key3 c ∈ bs.map key3 := h.mem_iff.2 (List.mem_map.2 ⟨c, hc, rfl⟩)
        obtain ⟨b, hb, e2⟩ := List.mem_map.1 h3
        simp only [key3, Prod.mk.injEq] at e2
        have := List.find?_eq_none.1 h1 b hb
        exact absurd (by simp [e2.2.1, e]) this
    | some b =>
      obtain ⟨hb, e⟩ := find_mem_ws h1
      obtain ⟨c, hc, e1, e2, e3⟩ := key_mem h hb
      cases h2 : A.bs.find? (fun b => b.h == x) with
      | none =>
        have := List.find?_eq_none.1 h2 c hc
        exact absurd (by simp [e2, e]) this
      | some d =>
        obtain ⟨hd, ed⟩ := find_mem_ws h2
        have := key c hc d hd (by rw [e2, e, ed])
        show b.ws[i]? = d.ws[i]?
        rw [← this, e3]
theorem cloneOf {A : Ar} (hi : ArInv A) {bs : List Blk} (h : (bs.map key3).Perm (A.bs.map key3)) : CloneOf A { A with bs := bs } := ⟨rfl, rfl, rfl, rfl, rfl, rfl, rfl, rfl, h, clone_word hi h, hi⟩
def cloneX : Smry Try.prog XE where
  g := 82
  run := fun args m K => match args with
    | [.c (.ptr n 0)] => match m.hp.get n with
      | some (.ext (.ar A)) => A.s.back.length ≤ 70000 ∧ bif !(m.hp.names.contains m.nx) then ∀ B, CloneOf A B → K (.c (.ptr m.nx 0)) (withNew m (arO B)) else Stuck 910
      | _ => Stuck 911
    | _ => Stuck 912
  ok := fun args m K hr => by
    split at hr <;> try exact hr.elim
    rename_i n
    split at hr <;> try exact hr.elim
    rename_i A hA
    obtain ⟨hl, hr⟩ := hr
    cases hb : !(m.hp.names.contains m.nx) <;> rw [hb] at hr
    · exact hr.elim
    simp only [cond_true] at hr
    intro ν w R w0 H HK
    have H' := H
    rw [SH.den_get ν hA, Assn.mul_assoc] at H'
    obtain ⟨_, _, hi, _⟩ := arAt_open H'
    refine (ar_clone (ν n) A w H' hl).mono ?_
    rintro e w' ⟨q, bs, he, hp, hs, hk⟩
    have hn : newOk m (arO { A with bs := bs }) = true := by
      unfold newOk
      rw [hb]; rfl
    refine ⟨_, _, upd ν m.nx q, hr { A with bs := bs } (cloneOf hi hp), Agree.upd (Nat.le_refl _) _, Nat.le_succ _, by rw [he]; simp [SV.den, SC.den, upd_same], ?_, HK.trans hk⟩
    refine withNew_sat hn ?_
    rw [SH.den_get ν hA, Assn.mul_assoc]
    have hinv := clone_inv hi hp
    have hs1 : Sat w' (cloAt q A bs * (arAt (ν n) A * ((m.hp.del n).den ν * R))) := hs
    refine hs1.mono fun x hx => ?_
    obtain ⟨d, hd⟩ := hx
    exact ⟨d, Part.none, x, Part.apart_none _, rfl, ⟨hinv, rfl⟩, hd⟩
end Go.Proofs.Ytnfpkadepomjjaa

/- What the executor knows of Lay, of words that lie in the old memory. -/
namespace Go.Proofs.Ytnfpkadepomjjaa
open Go Go.RowKit
theorem natsOf_get {n : Nat} {f : Nat → Int} {j : Nat} {u : Value} (h0 : ∀ i, i < n → 0 ≤ f i) (h : (u64s (natsOf n f))[j]? = some u) : j < n ∧ u = .int .u64 (f j) := by
  rw [natsOf_u64s h0] at h
  have hj : j < n := by
    rcases Nat.lt_or_ge j n with h' | h'
    · exact h'
    · rw [List.getElem?_eq_none (by simp [intsOf]; exact h')] at h; cases h
  rw [intsOf_get _ _ _ j hj] at h
  exact ⟨hj, (Option.some.inj h).symm⟩
theorem gives_layV {n len cap : Nat} {a : Option Addr} {lo : Bool} {m : MX} {K : SV → MX → Prop} {A : Ar} {W : World} {l : Bool} (hA : m.hp.get n = some (arO A)) (hS : seenOf (m.hp.del n) = some W) (hx : ∀ j, j < len → Seen .u64 W (addOpt a j))
    (h1 : 1 ≤ len) (h2 : len ≤ 2048) (hc : A.used + len ≤ A.cap) (hb : A.s.back = []) (hbi : A.births < 268435455)
    (hk : ∀ v, K (.tup [(false, [.int l .u64 (layH A : Nat)]), okE]) ⟨m.hp.set n (arO (A.lay (natsOf len fun j => seenInt .u64 W (addOpt a j)) v)), m.nx⟩) :
    Gives Try.prog 71 [.c (.ptr n 0), .c (.sliv a lo len cap)] m K := fun ν w R w0 H HK => by
  obtain ⟨g, rfl⟩ : ∃ g, a = some g := by
    obtain ⟨x, hx0, _⟩ := hx 0 (by omega)
    cases a with
    | none => cases hx0
    | some g => exact ⟨g, rfl⟩
  have hbd : ∀ i, 0 ≤ seenInt .u64 W (addOpt (some g) i) ∧ seenInt .u64 W (addOpt (some g) i) ≤ 18446744073709551615 := fun i => seenInt_bd .u64 W _
  have hlen : (natsOf len fun j => seenInt .u64 W (addOpt (some g) j)).length = len := by simp [natsOf]
  have hcell : ∀ w R, Sat w ((m.hp.del n).den ν * R) → ∀ j, j < len → w.cell? (g.add j) = some (.int .u64 (seenInt .u64 W (addOpt (some g) j))) := fun w R HH j hj => by
    obtain ⟨x, hx0, hv⟩ := hx j hj
    have e : x = g.add j := (Option.some.inj hx0).symm
    rw [e] at hv
    exact seenOf_cell hv hS HH
  rw [SH.den_get ν hA, Assn.mul_assoc] at H
  have hcall := lay_any (ν n) A (natsOf len fun j => seenInt .u64 W (addOpt (some g) j)) len hlen g cap w (Q := (m.hp.del n).den ν) (R := R) H (fun w R HH => ⟨?_, fun j u hj => ?_⟩) (by omega) (by omega) (by omega) hb hbi (fun x hxm => ?_)
  · have hargs : (List.map (SV.den ν) [.c (.ptr n 0), .c (.sliv (some g) lo len cap)]).toArray = #[.pointer (some ⟨ν n, 0, none⟩), .slice (some g) len cap] := by simp [SV.den, SC.den]
    rw [hargs]
    refine hcall.mono fun e w' ⟨he, ⟨v', hs⟩, hk'⟩ => ?_
    refine ⟨_, _, ν, hk v', Agree.refl _ _, Nat.le_refl _, he, ?_, HK.trans hk'⟩
    rw [SH.den_set ν hA, Assn.mul_assoc]
    exact hs
  · have h0 := hcell w R HH 0 (by omega)
    rcases Nat.lt_or_ge g.block w.heap.size with h' | h'
    · exact h'
    · exfalso
      have : w.cell? (g.add 0) = none := by
        unfold World.cell?
        simp [Addr.add, Array.getElem?_eq_none h']
      rw [this] at h0; cases h0
  · obtain ⟨hjl, rfl⟩ := natsOf_get (fun i _ => (hbd i).1) hj
    exact hcell w R HH j hjl
  · simp only [natsOf, List.mem_map, List.mem_range] at hxm
    obtain ⟨i, hi, rfl⟩ := hxm
    have := hbd i
    unfold TW
    omega
def layV (lit : Bool) : Smry Try.prog XE where
  g := 71
  run := fun args m K => match args with
    | [.c (.ptr n 0), .c (.sliv a _ len cap)] => match m.hp.get n with
      | some (.ext (.ar A)) => match seenOf (m.hp.del n) with
        | some W => (∀ j, j < len → Seen .u64 W (addOpt a j)) ∧ (1 ≤ len ∧ len ≤ 2048) ∧ A.used + len ≤ A.cap ∧ A.s.back = [] ∧ A.births < 268435455 ∧
            ∀ v, K (.tup [(false, [.int lit .u64 (layH A : Nat)]), okE]) ⟨m.hp.set n (arO (A.lay (natsOf len fun j => seenInt .u64 W (addOpt a j)) v)), m.nx⟩
        | none => Stuck 744
      | _ => Stuck 742
    | _ => Stuck 743
  ok := fun args m K hr => by
    split at hr <;> try exact hr.elim
    split at hr <;> try exact hr.elim
    rename_i A hA
    split at hr <;> try exact hr.elim
    rename_i W hS
    obtain ⟨hx, ⟨h1, h2⟩, hc, hb, hbi, hk⟩ := hr
    exact gives_layV hA hS hx h1 h2 hc hb hbi hk
end Go.Proofs.Ytnfpkadepomjjaa
