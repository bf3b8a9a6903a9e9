/- What the executor knows of Segments(1) to Segments(4). -/
import Derived.Test.YtgiakcepgbpchaaSegRun1
import Derived.Test.YtgiakcepgbpchaaSegRun2
import Derived.Test.YtgiakcepgbpchaaSegRun3
import Derived.Test.YtgiakcepgbpchaaSegRun4
namespace Go.Proofs.Ytgiakcepgbpchaa
open Go Go.RowKit
set_option maxRecDepth 100000

theorem seg_ok {n : Nat} {z : Int} (hrun : callN Try.prog tblS (fun _ _ => false) 100 20 16 [.c (.int true .i64 z)] ⟨[], 0⟩ .nil (fun v m _ => segPost n v m)) (w : World) {R : Assn} (H : Sat w R) :
    Calls Try.prog 16 #[.int .i64 z] w fun e w' => ∃ (A : Ar) (b s cap : Nat) (z : Nat → Int) (ad : Option Addr) (ln cp : Nat), SegOk n A ∧ e = .returned (.tuple #[.pointer (some ⟨b, 0, none⟩), .agg (SC.denL (fun _ => 0) (rawM z ad ln cp)).toArray, .slice (some ⟨s, 0, none⟩) n cap]) ∧
      Sat w' (arAt b A * (rowHead s 25 1 n cap (intsOf .u64 n hsF) * R)) ∧ Kept w w' := by
  have H0 : Sat w (SH.den (fun _ => 0) (⟨[], 0⟩ : MX).hp * R) := by
    simp only [SH.den]
    rw [Assn.one_mul]
    exact H
  refine (callN_ok namesOk mixed _ _ _ _ _ _ _ _ _ hrun (fun _ => 0) w R w H0 (Kept.refl w)).mono ?_
  rintro e w' ⟨v, m', s', μ, hv, _, _, he, hs, hk⟩
  unfold segPost at hv
  split at hv <;> try exact hv.elim
  rename_i p l s lo ll k cap
  split at hv <;> try exact hv.elim
  rename_i A hp
  split at hv <;> try exact hv.elim
  rename_i o ho
  obtain ⟨h1, rfl, h3, h4⟩ := hv
  rw [SH.den_get μ hp, SH.den_get μ ho, Assn.mul_assoc, Assn.mul_assoc] at hs
  have hs1 : Sat w' (o.den μ (μ s) * (arAt (μ p) A * (SH.den μ ((m'.hp.del p).del s) * R))) := hs.cast (by simp only [SO.den, XE, XO.den]; ac_rfl)
  have hs2 := eqO_den μ (μ s) h4 hs1
  simp only [SO.den] at hs2
  obtain ⟨z, ad, ln, cp, hz⟩ := isM_den h1 μ
  refine ⟨A, μ p, μ s, cap, z, ad, ln, cp, h3, by rw [he, ← hz]; simp [SV.den, SC.den, partDen], ?_, hk⟩
  have hs3 : Sat w' ((SH.den μ ((m'.hp.del p).del s)) * (arAt (μ p) A * (rowHead (μ s) 25 1 k cap (intsOf .u64 k hsF) * R))) := hs2.cast (by ac_rfl)
  exact hs3.right
theorem rawM_den (ν : Nat → Nat) (z : Nat → Int) (a : Option Addr) (ln cp : Nat) : SC.denL ν (rawM z a ln cp) = SC.denL (fun _ => 0) (rawM z a ln cp) := rfl
def segM (m : MX) (n cap : Nat) (A : Ar) : MX := ⟨(m.hp.put m.nx (arO A)).put (m.nx + 1) (.ints 25 .u64 n cap hsF), m.nx + 2⟩
def segK (m : MX) (n : Nat) (K : SV → MX → Prop) : Prop := bif m.hp.names.all (fun k => Nat.blt k m.nx) then
    ∀ (A : Ar) (cap : Nat) (z : Nat → Int) (ad : Option Addr) (ln cp : Nat), SegOk n A → n ≤ cap → K (.tup [(false, [.ptr m.nx 0]), (true, rawM z ad ln cp), (false, [.sli (m.nx + 1) 1 true 0 true n cap])]) (segM m n cap A) else Stuck 780
theorem gives_seg {n : Nat} {z : Int} (hrun : callN Try.prog tblS (fun _ _ => false) 100 20 16 [.c (.int true .i64 z)] ⟨[], 0⟩ .nil (fun v m _ => segPost n v m)) {m : MX} {K : SV → MX → Prop} {l : Bool} {bd : Bd z} (hk : segK m n K) :
    Gives Try.prog 16 [.c (.int l .i64 z bd)] m K := fun ν w R w0 H HK => by
  refine (seg_ok hrun w H).mono ?_
  rintro e w' ⟨A, b, s, cap, z, ad, ln, cp, h1, he, hs, hk'⟩
  unfold segK at hk
  cases hall : m.hp.names.all (fun k => Nat.blt k m.nx) <;> rw [hall] at hk
  · exact hk.elim
  simp only [cond_true] at hk
  have hnm : ∀ k ∈ m.hp.names, k < m.nx := fun k hk => by simpa [Nat.blt_eq] using List.all_eq_true.1 hall k hk
  have hcap : n ≤ cap := by
    have h5 : Sat w' (rowHead s 25 1 n cap (intsOf .u64 n hsF) * (arAt b A * (SH.den ν m.hp * R))) := hs.cast (by ac_rfl)
    obtain ⟨cur, h6⟩ := h5.ex_mul
    rw [Assn.mul_assoc] at h6
    exact h6.pure_mul.1.2.1
  refine ⟨_, _, upd (upd ν m.nx b) (m.nx + 1) s, hk A cap z ad ln cp h1 hcap, ?_, ?_, ?_, ?_, HK.trans hk'⟩
  · exact (Agree.upd (Nat.le_refl _) _).trans (Agree.upd (Nat.le_succ _) _) (Nat.le_refl _)
  · simp only [segM]; omega
  · rw [he]
    simp only [SV.den, List.map_cons, List.map_nil, partDen, rawM_den (upd (upd ν m.nx b) (m.nx + 1) s), SC.den]
    simp [upd]
  · simp only [segM]
    rw [SH.den_put, SH.den_put]
    have e1 : SH.den (upd (upd ν m.nx b) (m.nx + 1) s) m.hp = SH.den ν m.hp := SH.den_eq m.hp fun k hk => by
      have := hnm k hk
      simp only [upd]
      rw [if_neg (by omega), if_neg (by omega)]
    rw [e1]
    have e2 : upd (upd ν m.nx b) (m.nx + 1) s (m.nx + 1) = s := by simp [upd]
    have e3 : upd (upd ν m.nx b) (m.nx + 1) s m.nx = b := by simp [upd]
    rw [e2, e3]
    exact hs.cast (by simp only [SO.den, XE, XO.den]; ac_rfl)
def segsX : Smry Try.prog XE where
  g := 16
  run := fun args m K => match args with
    | [.c (.int _ .i64 (.ofNat 1) _)] => segK m 1 K
    | [.c (.int _ .i64 (.ofNat 2) _)] => segK m 2 K
    | [.c (.int _ .i64 (.ofNat 3) _)] => segK m 3 K
    | [.c (.int _ .i64 (.ofNat 4) _)] => segK m 4 K
    | _ => Stuck 781
  ok := fun args m K hr => by
    split at hr <;> try exact hr.elim
    · exact gives_seg (n := 1) seg_run1 hr
    · exact gives_seg (n := 2) seg_run2 hr
    · exact gives_seg (n := 3) seg_run3 hr
    · exact gives_seg (n := 4) seg_run4 hr


/-- The same, with the arena itself. -/
def allV : Nat → (List Value → Prop) → Prop
  | 0, p => p []
  | n + 1, p => ∀ v, allV n fun l => p (v :: l)
theorem allV_of : ∀ {n : Nat} {p : List Value → Prop}, allV n p → ∀ l : List Value, l.length = n → p l
  | 0, p, h, l, e => by
    cases l with
    | nil => exact h
    | cons v l => cases e
  | n + 1, p, h, l, e => by
    cases l with
    | nil => cases e
    | cons v l => exact allV_of (h v) l (by simpa using e)
def segK2 (m : MX) (n : Nat) (K : SV → MX → Prop) : Prop := bif m.hp.names.all (fun k => Nat.blt k m.nx) then
    allV n fun l => ∀ (cap : Nat) (z : Nat → Int) (ad : Option Addr) (ln cp : Nat), SegOk n (segA l) → n ≤ cap → K (.tup [(false, [.ptr m.nx 0]), (true, rawM z ad ln cp), (false, [.sli (m.nx + 1) 1 true 0 true n cap])]) (segM m n cap (segA l)) else Stuck 782
theorem segK_of {m : MX} {n : Nat} {K : SV → MX → Prop} (h : segK2 m n K) : segK m n K := by
  unfold segK2 at h
  unfold segK
  cases hall : m.hp.names.all (fun k => Nat.blt k m.nx) <;> rw [hall] at h
  · exact h.elim
  · simp only [cond_true] at h ⊢
    intro A cap z ad ln cp hA hcap
    obtain ⟨l, hl, rfl⟩ := hA.eq
    exact allV_of h l hl cap z ad ln cp hA hcap
def segsY : Smry Try.prog XE where
  g := 16
  run := fun args m K => match args with
    | [.c (.int _ .i64 (.ofNat 1) _)] => segK2 m 1 K
    | [.c (.int _ .i64 (.ofNat 2) _)] => segK2 m 2 K
    | [.c (.int _ .i64 (.ofNat 3) _)] => segK2 m 3 K
    | [.c (.int _ .i64 (.ofNat 4) _)] => segK2 m 4 K
    | _ => Stuck 783
  ok := fun args m K hr => by
    split at hr <;> try exact hr.elim
    · exact gives_seg (n := 1) seg_run1 (segK_of hr)
    · exact gives_seg (n := 2) seg_run2 (segK_of hr)
    · exact gives_seg (n := 3) seg_run3 (segK_of hr)
    · exact gives_seg (n := 4) seg_run4 (segK_of hr)
end Go.Proofs.Ytgiakcepgbpchaa
