/- What is left of a count; an arena's tally. -/
import Derived.Test.YtgiakcepgbpchaaBaseS
set_option linter.all false
namespace Go.Proofs.Ytgiakcepgbpchaa
open Go Go.RowKit

def cntSC (g p : Value) (sg s t : Int) (a : Option Addr) (n cap : Nat) (f l by' : Int) : List SC := [.raw g, .raw p, .int false .u64 sg, .int false .i64 s, .int false .i64 t, .sliv a false n cap, .int false .i64 f, .int false .i64 l, .int false .u64 by']
set_option maxRecDepth 1000000 in
theorem left_run (K : SV → MX → Scr XE → Prop) (g p : Value) (sg s t : Int) (a : Option Addr) (n cap : Nat) (f l by' : Int) : callN Try.prog ([] : List (Smry Try.prog XE)) (fun _ _ => false) 100 20 90 [.c (.ptr 0 0)] ⟨[(0, .cells (cntSC g p sg s t a n cap f l by') 144)], 1⟩ (.f .nil) K =
    (((n : Int) == (0 : Int)) = false ∧ K (.tup [(false, [.int false .i64 f]), (false, [.int false .i64 l])]) ⟨[(0, .cells (cntSC g p sg s t a n cap f l by') 144)], 23⟩ .nil) := by
  kernel_rfl
set_option maxRecDepth 100000 in
theorem count_left (c p : Nat) (st : Cnt) (w : World) {R : Assn} (H : Sat w (cntAt c p st * R)) :
    Calls Try.prog 90 #[.pointer (some ⟨c, 0, none⟩)] w fun e w' => e = .returned (.tuple #[.int .i64 st.first, .int .i64 st.last]) ∧ Sat w' (cntAt c p st * R) ∧ Kept w w' := by
  obtain ⟨pv, H1⟩ := H.ex_mul
  have H2 := H1.cast (Assn.mul_assoc _ _ _)
  have H3 : Sat w (rowAt 3 pv (ints (pathOf st.s)) * (own c (.cells (cntCells (cntGear c st) p st pv) 144 (0, 0)) * R)) := H2.cast (by ac_rfl)
  obtain ⟨g, cap, n, hn, rfl⟩ : ∃ g cap n, 0 < n ∧ pv = .slice (some ⟨g, 0, none⟩) n cap := by
    rcases rowAt_open H3 with ⟨_, h, _⟩ | ⟨g, cap, cur, h, _⟩
    · simp [ints, pathOf, pathF] at h
    · exact ⟨g, cap, _, by simp [ints, pathOf, pathF], h⟩
  have ec : cntCells (cntGear c st) p st (.slice (some ⟨g, 0, none⟩) n cap) = (SC.denL (fun _ => c) (cntSC (cntGear c st) (.pointer (some ⟨p, 0, none⟩)) st.sg st.s (segG st.s) (some ⟨g, 0, none⟩) n cap st.first st.last st.by')).toArray := rfl
  rw [ec] at H2
  have H4 : Sat w (SH.den (fun _ => c) (⟨[(0, .cells (cntSC (cntGear c st) (.pointer (some ⟨p, 0, none⟩)) st.sg st.s (segG st.s) (some ⟨g, 0, none⟩) n cap st.first st.last st.by') 144)], 1⟩ : MX).hp * (rowAt 3 (.slice (some ⟨g, 0, none⟩) n cap) (ints (pathOf st.s)) * R)) := by
    simp only [SH.den, SO.den]
    exact H2.cast (by rw [Assn.mul_assoc, Assn.one_mul])
  have hrun := left_run (fun v m _ => v = .tup [(false, [.int false .i64 (st.first : Nat)]), (false, [.int false .i64 (st.last : Nat)])] ∧ m.hp = [(0, .cells (cntSC (cntGear c st) (.pointer (some ⟨p, 0, none⟩)) st.sg st.s (segG st.s) (some ⟨g, 0, none⟩) n cap st.first st.last st.by') 144)]) (cntGear c st) (.pointer (some ⟨p, 0, none⟩)) st.sg st.s (segG st.s) (some ⟨g, 0, none⟩) n cap st.first st.last st.by'
  have h5 := hrun.mpr ⟨by rw [beq_eq_false_iff_ne]; omega, rfl, rfl⟩
  refine (callN_ok namesOk mixed _ _ _ _ _ _ _ _ _ h5 (fun _ => c) w _ w H4 (Kept.refl w)).mono ?_
  rintro e w' ⟨v, m', s', μ, ⟨rfl, hm⟩, ag, _, he, hs, hk⟩
  rw [hm] at hs
  have h0 : μ 0 = c := ag 0 (by simp)
  simp only [SH.den, SO.den, h0] at hs
  refine ⟨by rw [he]; rfl, ?_, hk⟩
  refine Sat.mk_ex_mul (.slice (some ⟨g, 0, none⟩) n cap) ?_
  rw [ec]
  exact hs.cast (by rw [Assn.mul_comm _ (1 : Assn), Assn.one_mul]; ac_rfl)
/-- An arena's cells, of which the last six are told. -/
def arSC (z : Nat → Int) (c : Nat → Value) : List SC := [.raw (c 0), .raw (c 1), .raw (c 2), .raw (c 3), .raw (c 4), .raw (c 5), .raw (c 6), .raw (c 7), .raw (c 8), .raw (c 9), .raw (c 10), .raw (c 11), .raw (c 12), .raw (c 13), .raw (c 14), .raw (c 15),
  .int false .i64 (z 0), .int false .i64 (z 1), .int false .i64 (z 2), .int false .i64 (z 3), .int false .i64 (z 4), .int false .i64 (z 5)]
def tlySC (z : Nat → Int) : List SC := [.int false .i64 (z 0), .int false .i64 (z 1), .int false .i64 (z 2), .int false .i64 (z 3), .int false .i64 (z 4), .int false .i64 (z 5)]
set_option maxRecDepth 1000000 in
theorem tally_run (K : SV → MX → Scr XE → Prop) (z : Nat → Int) (c : Nat → Value) : callN Try.prog ([] : List (Smry Try.prog XE)) (fun _ _ => false) 100 20 40 [.c (.ptr 0 0)] ⟨[(0, .cells (arSC z c) 150)], 1⟩ .nil K =
    K (.agg (tlySC z)) ⟨[(0, .cells (arSC z c) 150), (1, .cells (tlySC z) 29)], 9⟩ .nil := by
  kernel_rfl
def tlyZ (t : Tly) (i : Nat) : Int := [wr64 t.lays, wr64 t.frees, wr64 t.reads, wr64 t.writes, wr64 t.swaps, wr64 t.adds].getD i 0
set_option maxRecDepth 100000 in
theorem ar_tally (p : Nat) (A : Ar) (w : World) {R : Assn} (H : Sat w (arAt p A * R)) :
    Calls Try.prog 40 #[.pointer (some ⟨p, 0, none⟩)] w fun e w' => e = .returned (.agg (tlyCells A.t).toArray) ∧ Sat w' (arAt p A * R) ∧ Kept w w' := by
  obtain ⟨ps, pb, hi, H1⟩ := arAt_open H
  have ec : arCells A ps pb = (SC.denL (fun _ => p) (arSC (tlyZ A.t) fun i => (arCells A ps pb).getD i undef)).toArray := rfl
  rw [ec] at H1
  have H2 : Sat w (SH.den (fun _ => p) (⟨[(0, .cells (arSC (tlyZ A.t) fun i => (arCells A ps pb).getD i undef) 150)], 1⟩ : MX).hp * (stkAt ps A.s * (mapAt pb (A.bs.map ent) * (rowsAt A.bs * R)))) := by
    simp only [SH.den, SO.den]
    exact H1.cast (by rw [Assn.mul_assoc, Assn.one_mul])
  refine (callN_ok namesOk mixed _ _ _ _ _ _ _ _ (fun v m _ => v = .agg (tlySC (tlyZ A.t)) ∧ m.hp = [(0, .cells (arSC (tlyZ A.t) fun i => (arCells A ps pb).getD i undef) 150), (1, .cells (tlySC (tlyZ A.t)) 29)]) (by rw [tally_run]; exact ⟨rfl, rfl⟩) (fun _ => p) w _ w H2 (Kept.refl w)).mono ?_
  rintro e w' ⟨v, m', s', μ, ⟨rfl, hm⟩, ag, _, he, hs, hk⟩
  rw [hm] at hs
  have h0 : μ 0 = p := ag 0 (by simp)
  simp only [SH.den, SO.den, h0] at hs
  refine ⟨by rw [he]; rfl, ?_, hk⟩
  refine arAt_shut (ps := ps) (pb := pb) hi ?_
  have hs1 : Sat w' (own (μ 1) (.cells (SC.denL μ (tlySC (tlyZ A.t))).toArray 29 (0, 0)) * (own p (.cells (SC.denL μ (arSC (tlyZ A.t) fun i => (arCells A ps pb).getD i undef)).toArray 150 (0, 0)) * (stkAt ps A.s * (mapAt pb (A.bs.map ent) * (rowsAt A.bs * R))))) := hs.cast (by rw [Assn.mul_comm _ (1 : Assn), Assn.one_mul]; ac_rfl)
  exact hs1.right
def tallyX : Smry Try.prog XE where
  g := 40
  run := fun args m K => match args with
    | [.c (.ptr n 0)] => match m.hp.get n with
      | some (.ext (.ar A)) => K (.agg (tlySC (tlyZ A.t))) ⟨m.hp.set n (arO A), m.nx⟩
      | _ => Stuck 762
    | _ => Stuck 763
  ok := fun args m K hr => by
    split at hr <;> try exact hr.elim
    split at hr <;> try exact hr.elim
    rename_i A hA
    exact gives_ext hA hr fun ν w R H => ar_tally _ A w H
def leftX : Smry Try.prog XE where
  g := 90
  run := fun args m K => match args with
    | [.c (.ptr c 0)] => match m.hp.get c with
      | some (.ext (.cnt p st)) => K (.tup [(false, [.int false .i64 (st.first : Nat)]), (false, [.int false .i64 (st.last : Nat)])]) ⟨m.hp.set c (cntO p st), m.nx⟩
      | _ => Stuck 764
    | _ => Stuck 765
  ok := fun args m K hr => by
    split at hr <;> try exact hr.elim
    rename_i c
    split at hr <;> try exact hr.elim
    rename_i p st hc
    exact gives_ext hc hr fun ν w R H => count_left (ν c) (ν p) st w H
end Go.Proofs.Ytgiakcepgbpchaa
