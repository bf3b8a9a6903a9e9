/- Contracts of layer 10 as the executor takes them. -/
import Derived.Test.YtnfpkadepomjjaaBaseC
import Derived.Test.YtnfpkadepomjjaaDirD
set_option linter.all false
namespace Go.Proofs.Ytnfpkadepomjjaa
open Go Go.RowKit

def EXT.none : EXT := ⟨Empty, fun _ _ x => x.elim, fun x => x.elim, fun _ x => x, fun _ _ _ x => x.elim, fun _ _ _ x => x.elim, fun x => x.elim, fun x => x.elim⟩

section
variable {E : EXT}
theorem toNat_cast {s : Int} (h : 0 ≤ s) : ((s.toNat : Nat) : Int) = s := Int.toNat_of_nonneg h

def segYS : Smry Try.prog E where
  g := 166
  run := fun args m K => match args with
    | [.c (.int l .i64 s b)] => needIf ((b.of l).in 0 254) (0 ≤ s ∧ s ≤ 254) (K (.tup [numI false (segG s.toNat : Nat), numI false (segO s.toNat : Nat), okB true]) m)
    | _ => Stuck 701
  ok := fun args m K h => by
    split at h <;> try exact h.elim
    rename_i s bs
    obtain ⟨⟨h0, h1⟩, hk⟩ := needIf_elim Bd.in_sound h
    refine gives_draws hk fun ν w => ?_
    have := segment_yes s.toNat w (by omega)
    rw [toNat_cast h0] at this
    exact this
def segNS : Smry Try.prog E where
  g := 166
  run := fun args m K => match args with
    | [.c (.int _ .i64 s _)] => (s < 0 ∨ 255 ≤ s) ∧ K (.tup [numI true 0, numI true 0, okB false]) m
    | _ => Stuck 702
  ok := fun args m K h => by
    split at h <;> try exact h.elim
    exact gives_same h.2 fun ν w => segment_no _ w h.1
def sizeYS : Smry Try.prog E where
  g := 232
  run := fun args m K => match args with
    | [.c (.int l .i64 s b)] => needIf ((b.of l).in 0 7) (0 ≤ s ∧ s ≤ 7) (K (.c (.int false .i64 ((7 * 2 ^ s.toNat : Nat) : Int))) m)
    | _ => Stuck 703
  ok := fun args m K h => by
    split at h <;> try exact h.elim
    rename_i s bs
    obtain ⟨⟨h0, h1⟩, hk⟩ := needIf_elim Bd.in_sound h
    refine gives_same hk fun ν w => ?_
    have := size_yes s.toNat w (by omega)
    rw [toNat_cast h0] at this
    exact this
def sizeNS : Smry Try.prog E where
  g := 232
  run := fun args m K => match args with
    | [.c (.int _ .i64 s _)] => (s < 0 ∨ 8 ≤ s) ∧ K (.c (.int true .i64 0)) m
    | _ => Stuck 704
  ok := fun args m K h => by
    split at h <;> try exact h.elim
    exact gives_same h.2 fun ν w => size_no _ w h.1
def fixed_bd (s : Int) : Bd (1 + max 0 (min s 7)) := .w 1 8 (by omega)
def fixedS : Smry Try.prog E where
  g := 162
  run := fun args m K => match args with
    | [.c (.int _ .i64 s _)] => K (.agg [.int true .u64 0, .int false .i64 (1 + max 0 (min s 7)) (fixed_bd s)]) m
    | _ => Stuck 705
  ok := fun args m K h => by
    split at h <;> try exact h.elim
    exact gives_pure h fun ν w => fixed_any _ w
def powS : Smry Try.prog E where
  g := 96
  run := fun args m K => match args with
    | [.c (.int l .i64 s b)] => needIf ((b.of l).in 0 8) (0 ≤ s ∧ s ≤ 8) (K (.c (.int l .i64 ((2 ^ s.toNat : Nat) : Int) (b.of l).pow)) m)
    | _ => Stuck 706
  ok := fun args m K h => by
    split at h <;> try exact h.elim
    rename_i s bs
    obtain ⟨⟨h0, h1⟩, hk⟩ := needIf_elim Bd.in_sound h
    refine gives_same hk fun ν w => ?_
    have := pow_any s.toNat w (by omega)
    rw [toNat_cast h0] at this
    exact this
def rsegS : Smry Try.prog E where
  g := 95
  run := fun args m K => match args with
    | [.c (.int l .i64 s b)] => needIf ((b.of l).in 0 254) (0 ≤ s ∧ s ≤ 254) (K (.tup [numI l (segG s.toNat : Nat), numI l (segO s.toNat : Nat)]) m)
    | _ => Stuck 707
  ok := fun args m K h => by
    split at h <;> try exact h.elim
    rename_i s bs
    obtain ⟨⟨h0, h1⟩, hk⟩ := needIf_elim Bd.in_sound h
    refine gives_same hk fun ν w => ?_
    have := ref_segment s.toNat w (by omega)
    rw [toNat_cast h0] at this
    exact this
def pathF' (s : Nat) (i : Nat) : Int := ((s + 1) / 2 ^ i : Nat)
theorem ints_path (s : Nat) : ints (pathOf s) = intsOf .i64 (segG s + 1) (pathF' s) := by simp [ints, pathOf, pathF, intsOf, pathF', List.map_map, Function.comp_def]
def pathYS : Smry Try.prog E where
  g := 165
  run := fun args m K => match args with
    | [.c (.int l .i64 s b)] => needIf ((b.of l).in 0 254) (0 ≤ s ∧ s ≤ 254) (rowRun m 3 .i64 (segG s.toNat + 1) (pathF' s.toNat) K)
    | _ => Stuck 708
  ok := fun args m K h => by
    split at h <;> try exact h.elim
    rename_i s bs
    obtain ⟨⟨h0, h1⟩, hk⟩ := needIf_elim Bd.in_sound h
    refine gives_row hk fun ν w => ?_
    have := path_yes s.toNat w (by omega)
    rw [toNat_cast h0, ints_path] at this
    exact this
def pathNS : Smry Try.prog E where
  g := 165
  run := fun args m K => match args with
    | [.c (.int _ .i64 s _)] => (s < 0 ∨ 255 ≤ s) ∧ K (.c .nls) m
    | _ => Stuck 710
  ok := fun args m K h => by
    split at h <;> try exact h.elim
    exact gives_same h.2 fun ν w => path_no _ w h.1
def inS (s : Int) : Bool := decide (0 ≤ s) && decide (s ≤ 254)
def inG (g : Int) : Bool := decide (0 ≤ g) && decide (g ≤ 7)
def inF (f : Int) : Bool := decide (0 ≤ f) && decide (f ≤ 4)
def inC (g n : Int) : Bool := inG g && (decide (1 ≤ n) && decide (n < 2 * ((2 ^ g.toNat : Nat) : Int)))
def inL (g n : Int) : Bool := inG g && (decide (((2 ^ g.toNat : Nat) : Int) ≤ n) && decide (n < 2 * ((2 ^ g.toNat : Nat) : Int)))
theorem inS_yes {s : Int} (h : inS s = true) : 0 ≤ s ∧ s ≤ 254 := by simpa [inS] using h
theorem inS_no {s : Int} (h : inS s = false) : s < 0 ∨ 255 ≤ s := by simp [inS] at h; omega
theorem inG_yes {s : Int} (h : inG s = true) : 0 ≤ s ∧ s ≤ 7 := by simpa [inG] using h
theorem inG_no {s : Int} (h : inG s = false) : s < 0 ∨ 8 ≤ s := by simp [inG] at h; omega
theorem inF_yes {s : Int} (h : inF s = true) : 0 ≤ s ∧ s ≤ 4 := by simpa [inF] using h
theorem inF_no {s : Int} (h : inF s = false) : s < 0 ∨ 5 ≤ s := by simp [inF] at h; omega
theorem inC_yes {g n : Int} (h : inC g n = true) : inG g = true ∧ 1 ≤ n ∧ n < 2 * ((2 ^ g.toNat : Nat) : Int) := by simpa [inC] using h
theorem inL_yes {g n : Int} (h : inL g n = true) : inG g = true ∧ ((2 ^ g.toNat : Nat) : Int) ≤ n ∧ n < 2 * ((2 ^ g.toNat : Nat) : Int) := by simpa [inL] using h
def segG_bd (s : Int) : Bd (if inS s = true then (segG s.toNat : Int) else 0) := .w 0 7 (by
  split
  · rename_i h
    have := inS_yes h
    have := (seg_facts (s := s.toNat) (by omega)).1
    omega
  · omega)
def segO_bd (s : Int) : Bd (if inS s = true then (segO s.toNat : Int) else 0) := .w 0 127 (by
  split
  · rename_i h
    have := inS_yes h
    have h1 := seg_facts (s := s.toNat) (by omega)
    have h2 := pow_le h1.1
    unfold segO
    omega
  · omega)
def size_bd (s : Int) : Bd (if inG s = true then ((7 * 2 ^ s.toNat : Nat) : Int) else 0) := .w 0 896 (by
  split
  · rename_i h
    have := inG_yes h
    have h2 := pow_le (k := s.toNat) (by omega)
    omega
  · omega)
def word_bd (s f : Int) : Bd (if (inS s && inF f) = true then 5 * (segO s.toNat : Int) + f else 0) := .w 0 639 (by
  split
  · rename_i h
    simp only [Bool.and_eq_true] at h
    have := inS_yes h.1
    have := inF_yes h.2
    have h1 := seg_facts (s := s.toNat) (by omega)
    have h2 := pow_le h1.1
    unfold segO
    omega
  · omega)
def counter_bd (g n : Int) : Bd (if inC g n = true then 5 * ((2 ^ g.toNat : Nat) : Int) + n else 0) := .w 0 895 (by
  split
  · rename_i h
    have h1 := inC_yes h
    have h0 := inG_yes h1.1
    have h2 := pow_le (k := g.toNat) (by omega)
    omega
  · omega)
def slot_bd (g n : Int) : Bd (if inL g n = true then n - 1 else 0) := .w 0 254 (by
  split
  · rename_i h
    have h1 := inL_yes h
    have h0 := inG_yes h1.1
    have h2 := pow_le (k := g.toNat) (by omega)
    omega
  · omega)
def segS : Smry Try.prog E where
  g := 166
  run := fun args m K => match args with
    | [.c (.int l .i64 s _)] => K (.tup [numI l (if inS s = true then (segG s.toNat : Int) else 0) (segG_bd s), numI l (if inS s = true then (segO s.toNat : Int) else 0) (segO_bd s), (false, [.boo l (inS s)])]) m
    | _ => Stuck 711
  ok := fun args m K h => by
    split at h <;> try exact h.elim
    rename_i s bs
    refine gives_draws h fun ν w => ?_
    simp only [SV.den, partDen, SC.den, SC.denL, numI, List.map_cons, List.map_nil]
    cases hs : inS s
    · exact (segment_no s w (inS_no hs)).mono fun e w' ⟨he, hw⟩ => ⟨he, 0, hw ▸ rfl⟩
    · obtain ⟨h0, h1⟩ := inS_yes hs
      have := segment_yes s.toNat w (by omega)
      rw [toNat_cast h0] at this
      exact this
def sizeS : Smry Try.prog E where
  g := 232
  run := fun args m K => match args with
    | [.c (.int _ .i64 s _)] => K (.c (.int false .i64 (if inG s = true then ((7 * 2 ^ s.toNat : Nat) : Int) else 0) (size_bd s))) m
    | _ => Stuck 712
  ok := fun args m K h => by
    split at h <;> try exact h.elim
    rename_i s bs
    refine gives_same h fun ν w => ?_
    simp only [SV.den, partDen, SC.den, SC.denL, numI, List.map_cons, List.map_nil]
    cases hs : inG s
    · exact size_no s w (inG_no hs)
    · obtain ⟨h0, h1⟩ := inG_yes hs
      have := size_yes s.toNat w (by omega)
      rw [toNat_cast h0] at this
      exact this
def wordS : Smry Try.prog E where
  g := 212
  run := fun args m K => match args with
    | [.agg [.int lg .u64 sg bg, .int ls .i64 s _], .c (.int lf .i64 f _)] => needIf ((bg.of lg).in 0 18446744073709551615) (0 ≤ sg) (K (.tup [(true, [.int (lg && (ls && lf)) .u64 (if (inS s && inF f) = true then sg else 0) ((bg.of lg).orZero _), .int (ls && lf) .i64 (if (inS s && inF f) = true then 5 * (segO s.toNat : Int) + f else 0) (word_bd s f)]), (false, [.boo (ls && lf) (inS s && inF f)])]) m)
    | _ => Stuck 713
  ok := fun args m K h => by
    split at h <;> try exact h.elim
    rename_i _ sg bsg _ s _ _ f _
    obtain ⟨hsg, hk⟩ := needIf_elim (fun e => (Bd.in_sound e).1) h
    refine gives_pure hk fun ν w => ?_
    simp only [SV.den, partDen, SC.den, SC.denL, numI, List.map_cons, List.map_nil]
    cases hs : inS s
    · have := word_none sg.toNat s f w (inS_no hs)
      rw [toNat_cast hsg] at this
      exact this
    · obtain ⟨h0, h1⟩ := inS_yes hs
      cases hf : inF f
      · have := word_bad sg.toNat s.toNat f w (by omega) (inF_no hf)
        rw [toNat_cast hsg, toNat_cast h0] at this
        exact this
      · obtain ⟨h2, h3⟩ := inF_yes hf
        have := word_yes sg.toNat s.toNat f.toNat w (by omega) (by omega)
        rw [toNat_cast hsg, toNat_cast h0, toNat_cast h2] at this
        refine this.mono fun e w' ⟨he, hb⟩ => ⟨he.trans ?_, hb⟩
        simp [toNat_cast h2]
def counterS : Smry Try.prog E where
  g := 205
  run := fun args m K => match args with
    | [.c (.int lg .u64 sg bg), .c (.int ls .i64 g _), .c (.int lf .i64 n _)] => needIf ((bg.of lg).in 0 18446744073709551615) (0 ≤ sg) (K (.tup [(true, [.int (lg && (ls && lf)) .u64 (if inC g n = true then sg else 0) ((bg.of lg).orZero _), .int (ls && lf) .i64 (if inC g n = true then 5 * ((2 ^ g.toNat : Nat) : Int) + n else 0) (counter_bd g n)]), (false, [.boo (ls && lf) (inC g n)])]) m)
    | _ => Stuck 714
  ok := fun args m K h => by
    split at h <;> try exact h.elim
    rename_i _ sg bsg _ g _ _ n _
    obtain ⟨hsg, hk⟩ := needIf_elim (fun e => (Bd.in_sound e).1) h
    refine gives_pure hk fun ν w => ?_
    simp only [SV.den, partDen, SC.den, SC.denL, numI, List.map_cons, List.map_nil]
    cases hs : inG g
    · have := counter_none sg.toNat g n w (inG_no hs)
      rw [toNat_cast hsg] at this
      have hc : inC g n = false := by simp [inC, hs]
      simp only [hc]
      exact this
    · obtain ⟨h0, h1⟩ := inG_yes hs
      cases hc : inC g n
      · have hn : n < 1 ∨ 2 * 2 ^ g.toNat ≤ n := by
          simp [inC, hs] at hc
          by_cases h : n < 1
          · exact .inl h
          · exact .inr (hc (by omega))
        have := counter_bad sg.toNat g.toNat n w (by omega) hn
        rw [toNat_cast hsg, toNat_cast h0] at this
        exact this
      · obtain ⟨_, h2, h3⟩ := inC_yes hc
        have := counter_yes sg.toNat g.toNat n.toNat w (by omega) (by omega) (by omega)
        rw [toNat_cast hsg, toNat_cast h0, toNat_cast (by omega : 0 ≤ n)] at this
        refine this.mono fun e w' ⟨he, hb⟩ => ⟨he.trans ?_, hb⟩
        simp
        omega
def slotS : Smry Try.prog E where
  g := 206
  run := fun args m K => match args with
    | [.c (.int ls .i64 g _), .c (.int lf .i64 n _)] => K (.tup [numI (ls && lf) (if inL g n = true then n - 1 else 0) (slot_bd g n), (false, [.boo (ls && lf) (inL g n)])]) m
    | _ => Stuck 715
  ok := fun args m K h => by
    split at h <;> try exact h.elim
    rename_i _ g _ _ n _
    refine gives_same h fun ν w => ?_
    simp only [SV.den, partDen, SC.den, SC.denL, numI, List.map_cons, List.map_nil]
    cases hs : inG g
    · have hc : inL g n = false := by simp [inL, hs]
      simp only [hc]
      exact slot_none g n w (inG_no hs)
    · obtain ⟨h0, h1⟩ := inG_yes hs
      cases hc : inL g n
      · have hn : n < 2 ^ g.toNat ∨ 2 * 2 ^ g.toNat ≤ n := by
          simp [inL, hs] at hc
          by_cases h : n < 2 ^ g.toNat
          · exact .inl h
          · exact .inr (hc (by omega))
        have := slot_bad g.toNat n w (by omega) hn
        rw [toNat_cast h0] at this
        exact this
      · obtain ⟨_, h2, h3⟩ := inL_yes hc
        have hp : 1 ≤ 2 ^ g.toNat := Nat.one_le_two_pow
        have := slot_yes g.toNat n.toNat w (by omega) (by omega) (by omega)
        rw [toNat_cast h0, toNat_cast (by omega : 0 ≤ n)] at this
        refine this.mono fun e w' ⟨he, hb⟩ => ⟨he.trans ?_, hb⟩
        simp
        omega
def pathS : Smry Try.prog E where
  g := 165
  run := fun args m K => match args with
    | [.c (.int _ .i64 s _)] => (inS s = true → rowRun m 3 .i64 (segG s.toNat + 1) (pathF' s.toNat) K) ∧ (inS s = false → K (.c .nls) m)
    | _ => Stuck 716
  ok := fun args m K h => by
    split at h <;> try exact h.elim
    rename_i s bs
    cases hs : inS s
    · exact gives_same (h.2 hs) fun ν w => path_no s w (inS_no hs)
    · obtain ⟨h0, h1⟩ := inS_yes hs
      refine gives_row (h.1 hs) fun ν w => ?_
      have := path_yes s.toNat w (by omega)
      rw [toNat_cast h0, ints_path] at this
      exact this
end
end Go.Proofs.Ytnfpkadepomjjaa
