/- What arenas that are told by what they hold have by their handles; rows that a call hands back. -/
import Derived.Test.YtnfpkadepomjjaaBaseParL
import Derived.Test.YtnfpkadepomjjaaBaseQ0
import Derived.Test.YtnfpkadepomjjaaHeadN
import Derived.Test.YtnfpkadepomjjaaBaseG
import Derived.Test.YtnfpkadepomjjaaBaseDoc
import Derived.Test.YtnfpkadepomjjaaBaseF
import Derived.Test.YtnfpkadepomjjaaBasePl
set_option linter.all false
namespace Go.Proofs.Ytnfpkadepomjjaa
open Go Go.RowKit
set_option maxRecDepth 100000
theorem blksQ_ar (z : Nat → Value) (x : PA) : blksQ (x.ar z) = x.bs.map fun b => b.2 := by
  unfold blksQ PA.ar
  simp only
  generalize 0 = i
  induction x.bs generalizing i with
  | nil => rfl
  | cons b l ih =>
    obtain ⟨n, h, ws⟩ := b
    simp only [blksOf, List.map_cons]
    rw [ih]
theorem gives_rowP {g : FuncId} {args : List SV} {m : MP} {K : SV → MP → Prop} {n : Nat} {x : PA} (hx : m.hp.get n = some (parO x)) {T : TypeId} {k cnt : Nat} {xs : List Value} {bo : Bool}
    (hc : x.bk.length ≤ 70000 → ∀ ν w z R, Sat w (arAt (ν n) (x.ar z) * R) → Calls Try.prog g (args.map (SV.den ν)).toArray w fun e w' => Kept w w' ∧
      ((bo = false ∧ e = .returned (.tuple #[.slice none 0 0, .bool false]) ∧ Sat w' (arAt (ν n) (x.ar z) * R)) ∨ (bo = true ∧ ∃ v, e = .returned (.tuple #[v, .bool true]) ∧ Sat w' (rowK T k v cnt xs * (arAt (ν n) (x.ar z) * R)))))
    (h0 : bo = false → K (.tup [(false, [.nls]), okB false]) m) (h1 : bo = true → cnt = 0 → K (.tup [(false, [.nls]), okB true]) m)
    (h2 : bo = true → ∀ cap, cnt ≤ cap → ∃ (o : SO XP) (ll : Bool), (∀ ν b w R, Sat w (rowHead b T k cnt cap xs * R) → Sat w (o.den ν b * R)) ∧ newOk m o = true ∧ K (.tup [(false, [.sli m.nx k true 0 ll cnt cap]), okB true]) (withNew m o)) :
    Gives Try.prog g args m K := fun ν w R w0 H HK => by
  rw [SH.den_get ν hx, Assn.mul_assoc] at H
  have hbk := inv_back (par_inv H)
  obtain ⟨z, H⟩ := par_open H
  refine (hc (by omega) ν w z _ H).mono ?_
  rintro e w' ⟨hk', ⟨hb, he, hs⟩ | ⟨hb, v, he, hs⟩⟩
  · refine ⟨_, m, ν, h0 hb, Agree.refl _ _, Nat.le_refl _, by rw [he]; rfl, ?_, HK.trans hk'⟩
    rw [SH.den_get ν hx, Assn.mul_assoc]
    exact par_shut hs
  · have hs := par_shut (ν := ν) (hs.swap)
    by_cases hv : v = .slice none 0 0
    · subst hv
      have hs' := hs.swap
      obtain ⟨_, hz⟩ := rowK_open hs'
      have hcnt : cnt = 0 := by
        rcases hz with ⟨_, h, _⟩ | ⟨_, _, _, h, _⟩
        · exact h
        · cases h
      refine ⟨_, m, ν, h1 hb hcnt, Agree.refl _ _, Nat.le_refl _, by rw [he]; rfl, ?_, HK.trans hk'⟩
      rw [SH.den_get ν hx, Assn.mul_assoc]
      exact hs'.right
    · obtain ⟨b, cap, rfl, hcap, hs2⟩ := rowK_head hs.swap hv
      obtain ⟨o, ll, ho, hn, hk⟩ := h2 hb cap hcap
      refine ⟨_, _, upd ν m.nx b, hk, Agree.upd (Nat.le_refl _) _, Nat.le_succ _, ?_, withNew_sat hn ?_, HK.trans hk'⟩
      · rw [he]
        simp [SV.den, SC.den, SC.denL, partDen, okB, upd_same]
      · refine (ho ν b w' _ hs2).cast ?_
        rw [SH.den_get ν hx, Assn.mul_assoc]
end Go.Proofs.Ytnfpkadepomjjaa

/- What the executor knows of entries behind a cursor, where arenas are told by what they hold; and where there is none. -/
namespace Go.Proofs.Ytnfpkadepomjjaa
open Go Go.RowKit
set_option maxRecDepth 100000
def chainP (x : PA) (cur : Nat) : Option (List Ent) := chainF (x.bs.map fun b => b.2) 1001 cur []
theorem chain_par (x : PA) (z : Nat → Value) (cur : Nat) : chain (x.ar z) cur = chainP x cur := by
  unfold chain chainP
  rw [blksQ_ar]
theorem chain_nil0 : chainF [] 1001 0 [] = some [] := rfl
theorem chain_nil1 {c : Nat} (h : c ≠ 0) : chainF [] 1001 c [] = none := by
  unfold chainF
  rw [if_neg h, if_neg]
  rintro ⟨h1, _⟩
  have : enOkF (hwds [] c).length (wsF (hwds [] c)) = false := enOkF_no (by show 0 ≠ 3; decide)
  rw [this] at h1
  cases h1

theorem hlistP_callsP (p : Nat) (x : PA) (z : Nat → Value) (cur : Nat) (w : World) {R : Assn} (H : Sat w (arAt p (x.ar z) * R)) (hr : cur < TW) (hl : x.bk.length ≤ 70000) :
    Calls Try.prog 56 #[.pointer (some ⟨p, 0, none⟩), .int .u64 cur] w fun e w' => Kept w w' ∧
      (((chainP x cur).isSome = false ∧ e = .returned (.tuple #[.slice none 0 0, .bool false]) ∧ Sat w' (arAt p (x.ar z) * R)) ∨
      ((chainP x cur).isSome = true ∧ ∃ v, e = .returned (.tuple #[v, .bool true]) ∧ Sat w' (rowK 119 3 v ((chainP x cur).getD []).length (ecells ((chainP x cur).getD [])) * (arAt p (x.ar z) * R)))) := by
  rw [← chain_par x z cur]
  exact (hlist_calls p (x.ar z) cur w H hr hl).mono fun e w' h => hlist_bo h
def hlistPR : Smry Try.prog XP where
  g := 56
  run := fun args m K => match args with
    | [.c (.ptr n 0), .c (.int _ .u64 cur _)] => match m.hp.get n with
      | some (.ext (.obj [] x)) => (0 ≤ cur ∧ cur < 18446744073709551616) ∧
          (chainP x cur.toNat = none → K (.tup [(false, [.nls]), okB false]) m) ∧
          (chainP x cur.toNat = some [] → K (.tup [(false, [.nls]), okB true]) m) ∧
          (∀ l, chainP x cur.toNat = some l → ∀ cap, l.length ≤ cap →
            bif newOk m (SO.vals 119 3 l.length cap (entV l)) then
              K (.tup [(false, [.sli m.nx 3 true 0 false l.length cap]), okB true]) (withNew m (SO.vals 119 3 l.length cap (entV l))) else Stuck 840)
      | _ => Stuck 841
    | [.c (.raw (.pointer none)), .c (.int _ .u64 cur _)] => (0 ≤ cur ∧ cur < 18446744073709551616) ∧ (cur = 0 → ∀ v, K (.tup [(false, [.raw v]), okB true]) m) ∧ (cur ≠ 0 → K (.tup [(false, [.nls]), okB false]) m)
    | _ => Stuck 842
  ok := fun args m K hr => by
    split at hr <;> try exact hr.elim
    · rename_i n _ cur _
      split at hr <;> try exact hr.elim
      rename_i x hx
      obtain ⟨⟨hr0, hr1⟩, k0, k1, k2⟩ := hr
      obtain ⟨z, rfl⟩ : ∃ z : Nat, cur = z := ⟨cur.toNat, by omega⟩
      simp only [Int.toNat_natCast] at *
      refine gives_rowP hx (T := 119) (k := 3) (cnt := ((chainP x z).getD []).length) (xs := ecells ((chainP x z).getD [])) (bo := (chainP x z).isSome) (fun hb ν w zz R H => hlistP_callsP (ν n) x zz z w H (by unfold TW; omega) hb) ?_ ?_ ?_
      · intro h
        cases hc : chainP x z with
        | none => exact k0 hc
        | some l => rw [hc] at h; cases h
      · intro h hl
        cases hc : chainP x z with
        | none => rw [hc] at h; cases h
        | some l =>
          rw [hc] at hl
          have : l = [] := List.length_eq_zero_iff.1 hl
          subst this
          exact k1 hc
      · intro h cap hcap
        cases hc : chainP x z with
        | none => rw [hc] at h; cases h
        | some l =>
          rw [hc] at hcap
          simp only [Option.getD_some] at hcap ⊢
          have hk := k2 l hc cap hcap
          cases hn : newOk m (SO.vals 119 3 l.length cap (entV l) : SO XP) <;> rw [hn] at hk
          · exact hk.elim
          refine ⟨_, false, fun ν b w R H => ?_, hn, hk⟩
          simp only [SO.den]
          rw [Assn.mul_assoc]
          exact Sat.mk_pure_mul (fun i _ => rfl) H
    · rename_i l1 cur b1
      obtain ⟨⟨hr0, hr1⟩, k0, k1⟩ := hr
      obtain ⟨z, rfl⟩ : ∃ z : Nat, cur = z := ⟨cur.toNat, by omega⟩
      intro ν w R w0 H HK
      refine (hlist_nil z w H (by unfold TW; omega)).mono ?_
      rintro e w' ⟨hk, ⟨hc, rfl, hs⟩ | ⟨l, hc, v, rfl, hs⟩⟩
      · have hz : ((z : Nat) : Int) ≠ 0 := fun e => by
          have : z = 0 := by omega
          subst this
          rw [chain_nil0] at hc
          cases hc
        exact ⟨_, m, ν, k1 hz, Agree.refl _ _, Nat.le_refl _, rfl, hs, HK.trans hk⟩
      · have hz : ((z : Nat) : Int) = 0 := by
          by_cases e : z = 0
          · subst e; rfl
          · rw [chain_nil1 e] at hc; cases hc
        exact ⟨_, m, ν, k0 hz v, Agree.refl _ _, Nat.le_refl _, rfl, hs.right, HK.trans hk⟩

theorem hhandlesP_callsP (p : Nat) (x : PA) (z : Nat → Value) (cur : Nat) (w : World) {R : Assn} (H : Sat w (arAt p (x.ar z) * R)) (hr : cur < TW) (hl : x.bk.length ≤ 70000) :
    Calls Try.prog 57 #[.pointer (some ⟨p, 0, none⟩), .int .u64 cur] w fun e w' => Kept w w' ∧
      (((chainP x cur).isSome = false ∧ e = .returned (.tuple #[.slice none 0 0, .bool false]) ∧ Sat w' (arAt p (x.ar z) * R)) ∨
      ((chainP x cur).isSome = true ∧ ∃ v, e = .returned (.tuple #[v, .bool true]) ∧ Sat w' (rowK 25 1 v ((chainP x cur).getD []).length (ccells ((chainP x cur).getD [])) * (arAt p (x.ar z) * R)))) := by
  rw [← chain_par x z cur]
  exact (hhandles_calls p (x.ar z) cur w H hr hl).mono fun e w' h => hhandles_bo h
def hhandlesPR : Smry Try.prog XP where
  g := 57
  run := fun args m K => match args with
    | [.c (.ptr n 0), .c (.int _ .u64 cur _)] => match m.hp.get n with
      | some (.ext (.obj [] x)) => (0 ≤ cur ∧ cur < 18446744073709551616) ∧
          (chainP x cur.toNat = none → K (.tup [(false, [.nls]), okB false]) m) ∧
          (chainP x cur.toNat = some [] → K (.tup [(false, [.nls]), okB true]) m) ∧
          (∀ l, chainP x cur.toNat = some l → ∀ cap, l.length ≤ cap →
            bif newOk m (SO.ints 25 .u64 l.length cap (entC l)) then
              K (.tup [(false, [.sli m.nx 1 true 0 false l.length cap]), okB true]) (withNew m (SO.ints 25 .u64 l.length cap (entC l))) else Stuck 840)
      | _ => Stuck 841
    | [.c (.raw (.pointer none)), .c (.int _ .u64 cur _)] => (0 ≤ cur ∧ cur < 18446744073709551616) ∧ (cur = 0 → ∀ v, K (.tup [(false, [.raw v]), okB true]) m) ∧ (cur ≠ 0 → K (.tup [(false, [.nls]), okB false]) m)
    | _ => Stuck 842
  ok := fun args m K hr => by
    split at hr <;> try exact hr.elim
    · rename_i n _ cur _
      split at hr <;> try exact hr.elim
      rename_i x hx
      obtain ⟨⟨hr0, hr1⟩, k0, k1, k2⟩ := hr
      obtain ⟨z, rfl⟩ : ∃ z : Nat, cur = z := ⟨cur.toNat, by omega⟩
      simp only [Int.toNat_natCast] at *
      refine gives_rowP hx (T := 25) (k := 1) (cnt := ((chainP x z).getD []).length) (xs := ccells ((chainP x z).getD [])) (bo := (chainP x z).isSome) (fun hb ν w zz R H => hhandlesP_callsP (ν n) x zz z w H (by unfold TW; omega) hb) ?_ ?_ ?_
      · intro h
        cases hc : chainP x z with
        | none => exact k0 hc
        | some l => rw [hc] at h; cases h
      · intro h hl
        cases hc : chainP x z with
        | none => rw [hc] at h; cases h
        | some l =>
          rw [hc] at hl
          have : l = [] := List.length_eq_zero_iff.1 hl
          subst this
          exact k1 hc
      · intro h cap hcap
        cases hc : chainP x z with
        | none => rw [hc] at h; cases h
        | some l =>
          rw [hc] at hcap
          simp only [Option.getD_some] at hcap ⊢
          have hk := k2 l hc cap hcap
          cases hn : newOk m (SO.ints 25 .u64 l.length cap (entC l) : SO XP) <;> rw [hn] at hk
          · exact hk.elim
          refine ⟨_, false, fun ν b w R H => ?_, hn, hk⟩
          exact H
    · rename_i l1 cur b1
      obtain ⟨⟨hr0, hr1⟩, k0, k1⟩ := hr
      obtain ⟨z, rfl⟩ : ∃ z : Nat, cur = z := ⟨cur.toNat, by omega⟩
      intro ν w R w0 H HK
      refine (hhandles_nil z w H (by unfold TW; omega)).mono ?_
      rintro e w' ⟨hk, ⟨hc, rfl, hs⟩ | ⟨l, hc, v, rfl, hs⟩⟩
      · have hz : ((z : Nat) : Int) ≠ 0 := fun e => by
          have : z = 0 := by omega
          subst this
          rw [chain_nil0] at hc
          cases hc
        exact ⟨_, m, ν, k1 hz, Agree.refl _ _, Nat.le_refl _, rfl, hs, HK.trans hk⟩
      · have hz : ((z : Nat) : Int) = 0 := by
          by_cases e : z = 0
          · subst e; rfl
          · rw [chain_nil1 e] at hc; cases hc
        exact ⟨_, m, ν, k0 hz v, Agree.refl _ _, Nat.le_refl _, rfl, hs.right, HK.trans hk⟩
end Go.Proofs.Ytnfpkadepomjjaa

/- The document's entries behind a cursor: a block's place, an entry read, the entries listed. -/
namespace Go.Proofs.Ytnfpkadepomjjaa
open Go Go.RowKit
set_option maxRecDepth 1000000
set_option maxHeartbeats 0
/-- The first block of a handle: its place; -1: there is none. -/
def at3F (bs : List (Nat × List Nat)) (h : Int) : Nat → Nat → Int
  | 0, _ => -1
  | n + 1, i => if ((blk3 bs i).1 : Int) = h then i else at3F bs h n (i + 1)
theorem at3F_find : ∀ (n i : Nat) (bs : List (Nat × List Nat)) (h : Nat), i + n = bs.length → ((∃ b, (bs.drop i).find? (fun b => b.1 == h) = some b ∧ ∃ j, at3F bs h n i = (j : Nat) ∧ j < bs.length ∧ blk3 bs j = b) ∨ ((bs.drop i).find? (fun b => b.1 == h) = none ∧ at3F bs h n i = -1))
  | 0, i, bs, h, hn => by
    right
    rw [List.drop_eq_nil_of_le (by omega)]
    exact ⟨rfl, rfl⟩
  | n + 1, i, bs, h, hn => by
    have hi : i < bs.length := by omega
    have e1 : bs.drop i = blk3 bs i :: bs.drop (i + 1) := by
      rw [List.drop_eq_getElem_cons hi]
      congr 1
      have := blk3_some hi
      rw [List.getElem?_eq_getElem hi] at this
      exact Option.some.inj this
    rw [e1, List.find?_cons]
    simp only [at3F]
    by_cases e : (blk3 bs i).1 = h
    · left
      rw [show ((blk3 bs i).1 == h) = true by simpa using e, if_pos (by rw [e])]
      exact ⟨_, rfl, i, rfl, hi, rfl⟩
    · rw [show ((blk3 bs i).1 == h) = false by simpa using e, if_neg (by omega)]
      exact at3F_find n (i + 1) bs h (by omega)
structure AY3 (bs : List (Nat × List Nat)) (h : Int) (len : Nat) where
  i : Nat
  hi : i ≤ len
  eq : at3F bs h len 0 = at3F bs h (len - i) i
def retA3 (W : World) (n : Int) (v : SV) (m : Mem XV) : Prop := match v with
  | .c (.int _ .i64 k _) => k = n ∧ seenOf m.hp = some W
  | _ => Stuck 671
/-- What the executor leaves to be shown of (roundelay/roundelayref03.Arena).At, written out. -/
theorem at3_vc (W : World) (x : D3) (a : Option Addr) (len cp : Nat) (bs : List (Nat × List Nat)) (h : Int) : (callN Try.prog ([] : List (Smry Try.prog XV)) (fun _ _ => false) 100 20 132 [.agg (d3C x (.sliv a false len cp)), .c (.int false .u64 h)] ⟨[(0, .seen W)], 100⟩ (.inv (liveL [1, 4, 5, 6, 8, 9, 10]) ((List.range 1500).map (· + 1)) (AY3 bs h len) (fun n y => ([(10, .c (.int false .i64 (y.i : Int)))], [])) (fun y => len - y.i) fun _ => .both (.both .nil .nil) .nil) (fun v m _ => retA3 W (at3F bs h len 0) v m)) = (
    (∃ (y : AY3 bs h len), h = h ∧ a = a ∧ len = len ∧ cp = cp ∧ (↑len : Int) = (↑len : Int) ∧ W = W ∧ (↑y.i : Int) = (0 : Int) ∧ True) ∧ ∀ (y : AY3 bs h len) (ρ : Nat → Value), (decide
    ((↑y.i : Int) < (↑len : Int)) = true → ((0 : Int) ≤ (↑y.i : Int) ∧ (↑y.i : Int) < (↑len : Int) ∧ a.isSome = true) ∧ ((∃ (x : Addr), addOpt (addOpt a ((↑y.i : Int).toNat * (2 :
    Nat))) (0 : Nat) = some x ∧ W.cell? x = some (Value.int IntKind.u64 (seenInt IntKind.u64 W (addOpt (addOpt a ((↑y.i : Int).toNat * (2 : Nat))) (0 : Nat))))) ∧ (∃ (x : Addr), addOpt
    (addOpt a ((↑y.i : Int).toNat * (2 : Nat))) ((0 : Nat) + (1 : Nat)) = some x ∧ W.cell? x = some (Value.slice (seenSli W (addOpt (addOpt a ((↑y.i : Int).toNat * (2 : Nat))) ((0 :
    Nat) + (1 : Nat)))).fst (seenSli W (addOpt (addOpt a ((↑y.i : Int).toNat * (2 : Nat))) (1 : Nat))).snd.fst (seenSli W (addOpt (addOpt a ((↑y.i : Int).toNat * (2 : Nat))) (1 :
    Nat))).snd.snd)) ∧ True) ∧ ((seenInt IntKind.u64 W (addOpt (addOpt a ((↑y.i : Int).toNat * (2 : Nat))) (0 : Nat)) == h) = true → (↑y.i : Int) = at3F bs h len (0 : Nat) ∧ some W =
    some W) ∧ ((seenInt IntKind.u64 W (addOpt (addOpt a ((↑y.i : Int).toNat * (2 : Nat))) (0 : Nat)) == h) = false → ((-9223372036854775808 : Int) ≤ (↑y.i : Int) + (1 : Int) ∧ (↑y.i :
    Int) + (1 : Int) ≤ (9223372036854775807 : Int)) ∧ ∃ (y' : AY3 bs h len), len - y'.i < len - y.i ∧ h = h ∧ a = a ∧ len = len ∧ cp = cp ∧ (↑len : Int) = (↑len : Int) ∧ W = W ∧ (↑y'.i
    : Int) = (↑y.i : Int) + (1 : Int) ∧ True)) ∧ (decide ((↑y.i : Int) < (↑len : Int)) = false → (-1 : Int) = at3F bs h len (0 : Nat) ∧ some W = some W)) := by
  kernel_rfl
theorem at3_run (W : World) (x : D3) (a : Option Addr) (len cp : Nat) (bs : List (Nat × List Nat)) (h : Int) (hc : BlkRow W a len bs ∧ len ≤ 1000000) : Run (callN Try.prog ([] : List (Smry Try.prog XV)) (fun _ _ => false) 100 20 132 [.agg (d3C x (.sliv a false len cp)), .c (.int false .u64 h)] ⟨[(0, .seen W)], 100⟩ (.inv (liveL [1, 4, 5, 6, 8, 9, 10]) ((List.range 1500).map (· + 1)) (AY3 bs h len) (fun n y => ([(10, .c (.int false .i64 (y.i : Int)))], [])) (fun y => len - y.i) fun _ => .both (.both .nil .nil) .nil) (fun v m _ => retA3 W (at3F bs h len 0) v m)) := by
  constructor
  rw [at3_vc]
  obtain ⟨row, hl⟩ := hc
  refine ⟨⟨⟨0, Nat.zero_le _, rfl⟩, ?_⟩, fun y ρ => ⟨fun hlt => ?_, fun hge => ?_⟩⟩
  · repeat' first | exact rfl | exact trivial | apply And.intro
  · have hlt' : y.i < len := by have := of_decide_eq_true hlt; omega
    have hk := row.kinds hlt'
    have hh := row.handle hlt'
    have est : at3F bs h (len - y.i) y.i = if ((blk3 bs y.i).1 : Int) = h then (y.i : Int) else at3F bs h (len - (y.i + 1)) (y.i + 1) := by
      rw [show len - y.i = (len - (y.i + 1)) + 1 by omega]
      rfl
    simp only [Int.toNat_natCast]
    refine ⟨⟨by omega, by omega, row.sm (by omega)⟩, hk, fun heq => ?_, fun hne => ⟨⟨by omega, by omega⟩, ⟨y.i + 1, hlt', ?_⟩, ?_⟩⟩
    · have heq : seenInt .u64 W (addOpt (addOpt a (y.i * 2)) 0) = h := by simpa using heq
      rw [hh] at heq
      rw [y.eq, est, if_pos heq]
      first | exact ⟨rfl, trivial⟩ | exact ⟨rfl, rfl⟩
    · have hne : ¬ seenInt .u64 W (addOpt (addOpt a (y.i * 2)) 0) = h := by simpa using hne
      rw [hh] at hne
      rw [y.eq, est, if_neg hne]
    · repeat' first | exact rfl | exact trivial | apply And.intro
      all_goals first
        | (show len - (y.i + 1) < len - y.i; omega)
        | (show ((y.i + 1 : Nat) : Int) = _; omega)
  · have hge' : y.i = len := by have := of_decide_eq_false hge; have := y.hi; omega
    rw [y.eq, hge', Nat.sub_self]
    exact ⟨rfl, rfl⟩
section
variable {E : EXT}
theorem retA3_den {W : World} {n : Int} {v : SV} {m : Mem XV} (h : retA3 W n v m) : seenOf m.hp = some W ∧ v.names = [] ∧ ∀ ν, v.den ν = .int .i64 n := by
  unfold retA3 at h
  split at h
  · obtain ⟨rfl, h⟩ := h
    exact ⟨h, rfl, fun ν => rfl⟩
  · exact h.elim
def at3S : Smry Try.prog E where
  g := 132
  run := fun args m K => match args with
    | [.agg l, .c (.int _ .u64 h _)] => match m.hp.get 0, d3Of l with
      | some (.seen W), some (_, L) => match L with
        | .sliv a _ len _ => ∃ bs, (BlkRow W a len bs ∧ len ≤ 1000000) ∧ K (.c (.int false .i64 (at3F bs h len 0))) m
        | _ => Stuck 676
      | _, _ => Stuck 677
    | _ => Stuck 678
  ok := fun args m K hr => by
    split at hr <;> try exact hr.elim
    rename_i l lh h bh
    split at hr <;> try exact hr.elim
    rename_i W x L hW hl
    obtain ⟨hd, hn⟩ := d3Of_sound hl
    split at hr <;> try exact hr.elim
    rename_i a ll len cp
    obtain ⟨bs, hc, hr⟩ := hr
    intro ν w R w0 H HK
    have ea : [SV.agg l, .c (.int lh .u64 h bh)].map (SV.den ν) = [SV.agg (d3C x (.sliv a false len cp)), .c (.int false .u64 h)].map (SV.den ν) := by
      have e1 : SC.denL ν l = SC.denL ν (d3C x (.sliv a false len cp)) := (hd ν).trans (by simp only [d3C, SC.denL, SC.den])
      simp only [List.map_cons, List.map_nil, SV.den, e1, SC.den]
    rw [ea]
    refine (seen_calls (at3_run W x a len cp bs h hc) (fun v m h => ⟨W, (retA3_den h).1, (retA3_den h).2.1⟩) (fun y hy => ?_) hW H HK).mono ?_
    · simp only [List.mem_cons, List.not_mem_nil, or_false] at hy; rcases hy with rfl | rfl <;> rfl
    · rintro e w' ⟨v, m', W', hv, hW', he, hs, hk⟩
      obtain ⟨h1, _, hd⟩ := retA3_den hv
      rw [h1] at hW'
      cases hW'
      rw [set_same _ hW] at hs
      exact ⟨_, m, ν, hr, Agree.refl _ _, Nat.le_refl _, by rw [he, hd]; rfl, hs, hk⟩
end
/-- An entry read from words of the old memory. -/
def sfF (W : World) (a : Option Addr) (j : Nat) : Int := seenInt .u64 W (addOpt a j)
def retE9 (W : World) (n : Nat) (f : Nat → Int) (v : SV) (m : Mem XE) : Prop := match v with
  | .tup [(true, [.int _ .i64 s _, .int _ .u64 t _, .int _ .u64 x _]), (false, [.boo _ b])] => (s = enSF n f ∧ t = enNF n f ∧ x = enXF n f ∧ b = enOkF n f) ∧ seenOf m.hp = some W
  | _ => Stuck 679
/-- What the executor leaves to be shown of roundelay/roundelayref09.ReadEntry, written out. -/
theorem rread9_vc (W : World) (a : Option Addr) (n c : Nat) : (callN Try.prog ([rentwS] : List (Smry Try.prog XE)) (fun _ _ => false) 100 20 133 [.c (.sliv a false n c)] ⟨[(0, .seen W)], 100⟩ (.both .nil (.both .nil .nil)) (fun v m _ => retE9 W n (sfF W a) v m)) = (
    (((↑n : Int) != (3 : Int)) = true → ((0 : Int) = enSF n (sfF W a) ∧ (0 : Int) = enNF n (sfF W a) ∧ (0 : Int) = enXF n (sfF W a) ∧ false = enOkF n (sfF W a)) ∧ some W = some W) ∧
    (((↑n : Int) != (3 : Int)) = false → ((0 : Int) ≤ (0 : Int) ∧ (0 : Int) < (↑n : Int) ∧ a.isSome = true) ∧ (∃ (x : Addr), addOpt a (Int.toNat (0 : Int)) = some x ∧ W.cell? x = some
    (Value.int IntKind.u64 (seenInt IntKind.u64 W (addOpt a (0 : Nat))))) ∧ (decide (seenInt IntKind.u64 W (addOpt a (0 : Nat)) > (254 : Int)) = true → ((0 : Int) = enSF n (sfF W a) ∧
    (0 : Int) = enNF n (sfF W a) ∧ (0 : Int) = enXF n (sfF W a) ∧ false = enOkF n (sfF W a)) ∧ some W = some W) ∧ (decide (seenInt IntKind.u64 W (addOpt a (0 : Nat)) > (254 : Int)) =
    false → ((0 : Int) ≤ (0 : Int) ∧ (0 : Int) < (↑n : Int) ∧ a.isSome = true) ∧ (∃ (x : Addr), addOpt a (Int.toNat (0 : Int)) = some x ∧ W.cell? x = some (Value.int IntKind.u64
    (seenInt IntKind.u64 W (addOpt a (0 : Nat))))) ∧ ((-9223372036854775808 : Int) ≤ seenInt IntKind.u64 W (addOpt a (0 : Nat)) ∧ seenInt IntKind.u64 W (addOpt a (0 : Nat)) ≤
    (9223372036854775807 : Int)) ∧ ((0 : Int) ≤ (1 : Int) ∧ (1 : Int) < (↑n : Int) ∧ a.isSome = true) ∧ (∃ (x : Addr), addOpt a (Int.toNat (1 : Int)) = some x ∧ W.cell? x = some
    (Value.int IntKind.u64 (seenInt IntKind.u64 W (addOpt a (1 : Nat))))) ∧ ((0 : Int) ≤ (2 : Int) ∧ (2 : Int) < (↑n : Int) ∧ a.isSome = true) ∧ (∃ (x : Addr), addOpt a (Int.toNat (2 :
    Int)) = some x ∧ W.cell? x = some (Value.int IntKind.u64 (seenInt IntKind.u64 W (addOpt a (2 : Nat))))) ∧ (W = W ∧ ((((0 : Int) ≤ seenInt IntKind.u64 W (addOpt a (1 : Nat)) ∧
    seenInt IntKind.u64 W (addOpt a (1 : Nat)) ≤ (18446744073709551615 : Int)) ∧ (0 : Int) ≤ seenInt IntKind.u64 W (addOpt a (2 : Nat)) ∧ seenInt IntKind.u64 W (addOpt a (2 : Nat)) ≤
    (18446744073709551615 : Int)) ∧ (∀ (z : Un), entB (seenInt IntKind.u64 W (addOpt a (0 : Nat))) (seenInt IntKind.u64 W (addOpt a (1 : Nat))) (seenInt IntKind.u64 W (addOpt a (2 :
    Nat))) = false → ((0 : Int) = enSF n (sfF W a) ∧ (0 : Int) = enNF n (sfF W a) ∧ (0 : Int) = enXF n (sfF W a) ∧ false = enOkF n (sfF W a)) ∧ some W = some W) ∧ (∀ (z : Un), entB
    (seenInt IntKind.u64 W (addOpt a (0 : Nat))) (seenInt IntKind.u64 W (addOpt a (1 : Nat))) (seenInt IntKind.u64 W (addOpt a (2 : Nat))) = true → (seenInt IntKind.u64 W (addOpt a (0 :
    Nat)) = enSF n (sfF W a) ∧ seenInt IntKind.u64 W (addOpt a (1 : Nat)) = enNF n (sfF W a) ∧ seenInt IntKind.u64 W (addOpt a (2 : Nat)) = enXF n (sfF W a) ∧ true = enOkF n (sfF W a))
    ∧ some W = some W) ∧ True) ∧ True) ∧ True))) := by
  kernel_rfl
theorem rread9_run (W : World) (a : Option Addr) (n c : Nat) (hc : (0 < n → a.isSome = true) ∧ ∀ j, j < n → Seen .u64 W (addOpt a j)) : Run (callN Try.prog ([rentwS] : List (Smry Try.prog XE)) (fun _ _ => false) 100 20 133 [.c (.sliv a false n c)] ⟨[(0, .seen W)], 100⟩ (.both .nil (.both .nil .nil)) (fun v m _ => retE9 W n (sfF W a) v m)) := by
  constructor
  rw [rread9_vc]
  obtain ⟨hs, hx⟩ := hc
  refine ⟨fun h3 => ?_, fun h3 => ?_⟩
  · have h3 : n ≠ 3 := fun e => by subst e; simp at h3
    have e := enOkF_no (f := sfF W a) h3
    unfold enSF enNF enXF
    rw [e]
    exact ⟨⟨rfl, rfl, rfl, rfl⟩, rfl⟩
  · have h3 : n = 3 := by have := bne_eq_false_iff_eq.1 h3; omega
    subst h3
    have e0 : enOkF 3 (sfF W a) = entB (smF (seenInt .u64 W (addOpt a 0))) (seenInt .u64 W (addOpt a 1)) (seenInt .u64 W (addOpt a 2)) := rfl
    have b0 : 0 ≤ seenInt .u64 W (addOpt a 0) ∧ seenInt .u64 W (addOpt a 0) ≤ 18446744073709551615 := seenInt_bd .u64 W _
    have b1 : 0 ≤ seenInt .u64 W (addOpt a 1) ∧ seenInt .u64 W (addOpt a 1) ≤ 18446744073709551615 := seenInt_bd .u64 W _
    have b2 : 0 ≤ seenInt .u64 W (addOpt a 2) ∧ seenInt .u64 W (addOpt a 2) ≤ 18446744073709551615 := seenInt_bd .u64 W _
    have no : enOkF 3 (sfF W a) = false → (0 = enSF 3 (sfF W a) ∧ 0 = enNF 3 (sfF W a) ∧ 0 = enXF 3 (sfF W a) ∧ false = enOkF 3 (sfF W a)) ∧ some W = some W := fun e => by
      unfold enSF enNF enXF
      rw [e]
      exact ⟨⟨rfl, rfl, rfl, rfl⟩, rfl⟩
    refine ⟨⟨by omega, by omega, hs (by omega)⟩, hx 0 (by omega), fun hb => no ?_, fun hb => ?_⟩
    · have hb := of_decide_eq_true hb
      rw [e0]
      have : decide (0 ≤ smF (seenInt .u64 W (addOpt a 0)) ∧ smF (seenInt .u64 W (addOpt a 0)) ≤ 254) = false := decide_eq_false (by unfold smF; split <;> omega)
      unfold entB
      rw [this, Bool.false_and, Bool.and_false]
    · have hb := of_decide_eq_false hb
      have es : smF (seenInt .u64 W (addOpt a 0)) = seenInt .u64 W (addOpt a 0) := by unfold smF; rw [if_neg (by omega)]
      rw [es] at e0
      refine ⟨⟨by omega, by omega, hs (by omega)⟩, hx 0 (by omega), ⟨by omega, by omega⟩, ⟨by omega, by omega, hs (by omega)⟩, hx 1 (by omega), ⟨by omega, by omega, hs (by omega)⟩, hx 2 (by omega), ⟨rfl, ⟨⟨b1, b2⟩, fun z he => no (e0.trans he), fun z he => ?_, trivial⟩, trivial⟩, trivial⟩
      have e1 := e0.trans he
      unfold enSF enNF enXF
      rw [e1]
      exact ⟨⟨es.symm, rfl, rfl, rfl⟩, rfl⟩
theorem retE9_den {W : World} {n : Nat} {f : Nat → Int} {v : SV} {m : Mem XE} (h : retE9 W n f v m) : seenOf m.hp = some W ∧ v.names = [] ∧ ∀ ν, v.den ν = (enRes n f).den ν := by
  unfold retE9 at h
  split at h
  · obtain ⟨⟨rfl, rfl, rfl, rfl⟩, h⟩ := h
    exact ⟨h, rfl, fun ν => rfl⟩
  · exact h.elim
def rread9S {E : EXT} : Smry Try.prog E where
  g := 133
  run := fun args m K => match args with
    | [.c (.sliv a _ n _)] => match m.hp.get 0 with
      | some (.seen W) => ((0 < n → a.isSome = true) ∧ ∀ j, j < n → Seen .u64 W (addOpt a j)) ∧ K (enRes n (sfF W a)) m
      | _ => Stuck 683
    | _ => Stuck 684
  ok := fun args m K hr => by
    split at hr <;> try exact hr.elim
    rename_i a ll n c
    split at hr <;> try exact hr.elim
    rename_i W hW
    obtain ⟨hc, hr⟩ := hr
    intro ν w R w0 H HK
    refine (seen_calls (rread9_run W a n c hc) (fun v m h => ⟨W, (retE9_den h).1, (retE9_den h).2.1⟩) (fun y hy => by simp only [List.mem_singleton] at hy; subst hy; rfl) hW H HK).mono ?_
    rintro e w' ⟨v, m', W', hv, hW', he, hs, hk⟩
    obtain ⟨h1, _, hd⟩ := retE9_den hv
    rw [h1] at hW'
    cases hW'
    rw [set_same _ hW] at hs
    exact ⟨_, m, ν, hr, Agree.refl _ _, Nat.le_refl _, by rw [he, hd], hs, hk⟩
end Go.Proofs.Ytnfpkadepomjjaa

/- The document's entries behind a cursor, listed. -/
namespace Go.Proofs.Ytnfpkadepomjjaa
open Go Go.RowKit
set_option maxRecDepth 1000000
set_option maxHeartbeats 0
section
variable {E : EXT}
def rows9 (n : Nat) (s : HSt) : List (Nat × SO E) := [(n, .vals 119 3 s.l.length s.cap1 (entV s.l)), (n + 1, .ints 25 .u64 s.l.length s.cap2 (entC s.l))]
end
def invR (bs : List (Nat × List Nat)) (c0 n : Nat) : HY bs c0 → List (Nat × SV) × List (Nat × SO XV)
  | .z x => ([(1, .c (.int false .u64 (x.1.c : Int))), (7, .c .nls), (8, .c .nls)], [])
  | .s x => ([(1, .c (.int false .u64 (x.1.c : Int))), (7, sli1 n x.1), (8, sli2 (n + 1) x.1)], rows9 n x.1)
def selR (f : SF) (_ : SH XV) : Nat := match f.at 7 with
  | .c .nls => 0
  | _ => 1
def rlP (W : World) (bs : List (Nat × List Nat)) (cur : Nat) (v : SV) (m : Mem XV) : Prop := match v with
  | .tup [(false, [.nls]), _, (false, [.boo _ b])] => (chainF bs 1001 cur [] = bif b then some [] else none) ∧ outM (.tup [(false, [.nls]), (false, [.nls]), (false, [.boo false b])]) [(0, .seen W)] v m
  | _ => ∃ s : HSt, chainF bs 1001 cur [] = some s.l ∧ outM (.tup [(false, [.sli 10 3 true 0 false s.l.length s.cap1]), (false, [.sli 11 1 true 0 false s.l.length s.cap2]), (false, [.boo false true])]) ((0, .seen W) :: rows9 10 s) v m
def rlScr (bs : List (Nat × List Nat)) (cur : Nat) : Scr XV := .invs (liveL [1, 2, 4, 5, 6, 7, 8, 9, 10, 11]) ((List.range 1500).map (· + 101)) (HY bs cur) (embsH bs cur) selR (invR bs cur) (fun y => 1001 - y.st.l.length) (fun _ => bN 5)
theorem enRes_congr {n : Nat} {f g : Nat → Int} (h : ∀ j, j < n → f j = g j) : enSF n f = enSF n g ∧ enNF n f = enNF n g ∧ enXF n f = enXF n g ∧ enOkF n f = enOkF n g := by
  by_cases e : n = 3
  · subst e
    have e1 : enOkF 3 f = enOkF 3 g := by
      show entB (smF (f 0)) (f 1) (f 2) = entB (smF (g 0)) (g 1) (g 2)
      rw [h 0 (by omega), h 1 (by omega), h 2 (by omega)]
    unfold enSF enNF enXF
    rw [e1, h 0 (by omega), h 1 (by omega), h 2 (by omega)]
    exact ⟨rfl, rfl, rfl, rfl⟩
  · have e1 := enOkF_no (f := f) e
    have e2 := enOkF_no (f := g) e
    unfold enSF enNF enXF
    rw [e1, e2]
    exact ⟨rfl, rfl, rfl, rfl⟩
theorem beqT9 {a b : Int} (h : (a == b) = true) : a = b := by simpa using h
theorem beqF9 {a b : Int} (h : (a == b) = false) : ¬ a = b := by simpa using h
theorem hwds_at {bs : List (Nat × List Nat)} {c : Nat} {len : Nat} (hl : bs.length = len) : (at3F bs c len 0 < 0 ∧ hwds bs c = []) ∨ ∃ j : Nat, at3F bs c len 0 = j ∧ j < len ∧ hwds bs c = (blk3 bs j).2 := by
  unfold hwds
  rcases at3F_find len 0 bs c (by omega) with ⟨b, hf, j, hj, hjl, hb⟩ | ⟨hf, hn⟩
  · right
    rw [List.drop_zero] at hf
    rw [hf]
    exact ⟨j, hj, by omega, by rw [hb]⟩
  · left
    rw [List.drop_zero] at hf
    rw [hf]
    exact ⟨by omega, rfl⟩
/-- What is read of a block's words. -/
structure RdOk (W : World) (S : Option Addr × Nat × Nat) (ws : List Nat) : Prop where
  sm : 0 < S.2.1 → S.1.isSome = true
  at' : ∀ i, i < S.2.1 → Seen .u64 W (addOpt S.1 i)
  s : enSF S.2.1 (sfF W S.1) = enSF ws.length (wsF ws)
  n : enNF S.2.1 (sfF W S.1) = enNF ws.length (wsF ws)
  x : enXF S.2.1 (sfF W S.1) = enXF ws.length (wsF ws)
  o : enOkF S.2.1 (sfF W S.1) = enOkF ws.length (wsF ws)
theorem rdOk_of {W : World} {S : Option Addr × Nat × Nat} {ws : List Nat} (hn : S.2.1 = ws.length) (hw : WordsAt W S.1 ws) : RdOk W S ws := by
  have h1 : ∀ i, i < ws.length → Seen .u64 W (addOpt S.1 i) ∧ seenInt .u64 W (addOpt S.1 i) = wsF ws i := fun i hi => by
    have := hw.at' i (ws.getD i 0) (by rw [List.getD_eq_getElem?_getD, List.getElem?_eq_getElem hi]; rfl)
    exact CellAt.int (k := .u64) this.1 (Int.natCast_nonneg _) (show ((ws.getD i 0 : Nat) : Int) ≤ 18446744073709551615 by omega)
  obtain ⟨e1, e2, e3, e4⟩ := enRes_congr (n := ws.length) (f := sfF W S.1) (g := wsF ws) fun i hi => (h1 i hi).2
  refine ⟨fun h => hw.sm (by omega), fun i hi => (h1 i (by omega)).1, ?_, ?_, ?_, ?_⟩
  · rw [hn]; exact e1
  · rw [hn]; exact e2
  · rw [hn]; exact e3
  · rw [hn]; exact e4
/-- What the executor leaves to be shown of roundelay/roundelayref09.List, written out. -/
theorem rlist9_vc (W : World) (x : D3) (a : Option Addr) (len cp : Nat) (bs : List (Nat × List Nat)) (cur : Nat) : (callN Try.prog ([at3S, rread9S] : List (Smry Try.prog XV)) (fun _ _ => false) 100 20 58 [.agg (d3C x (.sliv a false len cp)), .c (.int false .u64 (cur : Int))] ⟨[(0, .seen W)], 100⟩ (rlScr bs cur) (fun v m _ => rlP W bs cur v m)) = (
    (∀ (y : HY bs cur), (∃ (z : (Emb.mk { s : HSt // HOk bs cur s ∧ s.l = [] } HY.z).Z), HY.z z = y) ∨ (∃ (z : (Emb.mk { s : HSt // HOk bs cur s ∧ s.l ≠ [] } HY.s).Z), HY.s z = y) ∨
    False) ∧ (∃ (z : (Emb.mk { s : HSt // HOk bs cur s ∧ s.l = [] } HY.z).Z), W = W ∧ x.cap = x.cap ∧ x.births = x.births ∧ x.peak = x.peak ∧ x.faults = x.faults ∧ x.x0 = x.x0 ∧ x.x1 =
    x.x1 ∧ x.x2 = x.x2 ∧ x.x3 = x.x3 ∧ x.x4 = x.x4 ∧ x.x5 = x.x5 ∧ x.x6 = x.x6 ∧ x.x7 = x.x7 ∧ x.x8 = x.x8 ∧ a = a ∧ len = len ∧ cp = cp ∧ x.t0 = x.t0 ∧ x.t1 = x.t1 ∧ x.t2 = x.t2 ∧ x.t3
    = x.t3 ∧ x.t4 = x.t4 ∧ x.t5 = x.t5 ∧ (↑z.val.c : Int) = (↑cur : Int) ∧ True) ∧ (∀ (z : (Emb.mk { s : HSt // HOk bs cur s ∧ s.l = [] } HY.z).Z) (ρ : Nat → Value), (decide ((↑z.val.c
    : Int) > (0 : Int)) = true → ∃ (bs_1 : List (Nat × List Nat)), (BlkRow W a len bs_1 ∧ len ≤ (1000000 : Nat)) ∧ (decide (at3F bs_1 (↑z.val.c : Int) len (0 : Nat) < (0 : Int)) = true
    → chainF bs (1001 : Nat) cur [] = none ∧ false = false ∧ W = W ∧ True) ∧ (decide (at3F bs_1 (↑z.val.c : Int) len (0 : Nat) < (0 : Int)) = false → ((0 : Int) ≤ at3F bs_1 (↑z.val.c :
    Int) len (0 : Nat) ∧ at3F bs_1 (↑z.val.c : Int) len (0 : Nat) < (↑len : Int) ∧ a.isSome = true) ∧ (addOpt a ((at3F bs_1 (↑z.val.c : Int) len (0 : Nat)).toNat * (2 : Nat))).isSome =
    true ∧ (∃ (x : Addr), addOpt (addOpt a ((at3F bs_1 (↑z.val.c : Int) len (0 : Nat)).toNat * (2 : Nat))) (1 : Nat) = some x ∧ W.cell? x = some (Value.slice (seenSli W (addOpt (addOpt
    a ((at3F bs_1 (↑z.val.c : Int) len (0 : Nat)).toNat * (2 : Nat))) (1 : Nat))).fst (seenSli W (addOpt (addOpt a ((at3F bs_1 (↑z.val.c : Int) len (0 : Nat)).toNat * (2 : Nat))) (1 :
    Nat))).snd.fst (seenSli W (addOpt (addOpt a ((at3F bs_1 (↑z.val.c : Int) len (0 : Nat)).toNat * (2 : Nat))) (1 : Nat))).snd.snd)) ∧ (((0 : Nat) < (seenSli W (addOpt (addOpt a ((at3F
    bs_1 (↑z.val.c : Int) len (0 : Nat)).toNat * (2 : Nat))) (1 : Nat))).snd.fst → (seenSli W (addOpt (addOpt a ((at3F bs_1 (↑z.val.c : Int) len (0 : Nat)).toNat * (2 : Nat))) (1 :
    Nat))).fst.isSome = true) ∧ ∀ (j : Nat), j < (seenSli W (addOpt (addOpt a ((at3F bs_1 (↑z.val.c : Int) len (0 : Nat)).toNat * (2 : Nat))) (1 : Nat))).snd.fst → Seen IntKind.u64 W
    (addOpt (seenSli W (addOpt (addOpt a ((at3F bs_1 (↑z.val.c : Int) len (0 : Nat)).toNat * (2 : Nat))) (1 : Nat))).fst j)) ∧ ((!enOkF (seenSli W (addOpt (addOpt a ((at3F bs_1
    (↑z.val.c : Int) len (0 : Nat)).toNat * (2 : Nat))) (1 : Nat))).snd.fst (sfF W (seenSli W (addOpt (addOpt a ((at3F bs_1 (↑z.val.c : Int) len (0 : Nat)).toNat * (2 : Nat))) (1 :
    Nat))).fst)) = true → chainF bs (1001 : Nat) cur [] = none ∧ false = false ∧ W = W ∧ True) ∧ ((!enOkF (seenSli W (addOpt (addOpt a ((at3F bs_1 (↑z.val.c : Int) len (0 : Nat)).toNat
    * (2 : Nat))) (1 : Nat))).snd.fst (sfF W (seenSli W (addOpt (addOpt a ((at3F bs_1 (↑z.val.c : Int) len (0 : Nat)).toNat * (2 : Nat))) (1 : Nat))).fst)) = false → True ∧ True ∧ (1 :
    Nat) ≤ (1000000000 : Nat) ∧ ∀ (cap : Nat), (1 : Nat) ≤ cap → True ∧ True ∧ (1 : Nat) ≤ (1000000000 : Nat) ∧ ∀ (cap_1 : Nat), (1 : Nat) ≤ cap_1 → ∃ (z_1 : (Emb.mk { s : HSt // HOk bs
    cur s ∧ s.l ≠ [] } HY.s).Z), (1001 : Nat) - ((Emb.mk { s : HSt // HOk bs cur s ∧ s.l ≠ [] } HY.s).e z_1).st.l.length < (1001 : Nat) - ((Emb.mk { s : HSt // HOk bs cur s ∧ s.l = [] }
    HY.z).e z).st.l.length ∧ W = W ∧ x.cap = x.cap ∧ x.births = x.births ∧ x.peak = x.peak ∧ x.faults = x.faults ∧ x.x0 = x.x0 ∧ x.x1 = x.x1 ∧ x.x2 = x.x2 ∧ x.x3 = x.x3 ∧ x.x4 = x.x4 ∧
    x.x5 = x.x5 ∧ x.x6 = x.x6 ∧ x.x7 = x.x7 ∧ x.x8 = x.x8 ∧ a = a ∧ len = len ∧ cp = cp ∧ x.t0 = x.t0 ∧ x.t1 = x.t1 ∧ x.t2 = x.t2 ∧ x.t3 = x.t3 ∧ x.t4 = x.t4 ∧ x.t5 = x.t5 ∧ (↑z_1.val.c
    : Int) = enXF (seenSli W (addOpt (addOpt a ((at3F bs_1 (↑z.val.c : Int) len (0 : Nat)).toNat * (2 : Nat))) (1 : Nat))).snd.fst (sfF W (seenSli W (addOpt (addOpt a ((at3F bs_1
    (↑z.val.c : Int) len (0 : Nat)).toNat * (2 : Nat))) (1 : Nat))).fst) ∧ (0 : Nat) = (0 : Nat) ∧ z_1.val.l.length = (1 : Nat) ∧ z_1.val.cap1 = cap ∧ (0 : Nat) = (0 : Nat) ∧
    z_1.val.l.length = (1 : Nat) ∧ z_1.val.cap2 = cap_1 ∧ (z_1.val.l.length = (1 : Nat) ∧ z_1.val.cap1 = cap ∧ (3 : Nat) = (3 : Nat) ∧ [Value.int IntKind.i64 (z_1.val.l.getD (0 : Nat)
    ((0 : Nat), (0 : Int), (0 : Int), (0 : Int))).snd.fst, Value.int IntKind.u64 (z_1.val.l.getD (0 : Nat) ((0 : Nat), (0 : Int), (0 : Int), (0 : Int))).snd.snd.fst, Value.int
    IntKind.u64 (z_1.val.l.getD (0 : Nat) ((0 : Nat), (0 : Int), (0 : Int), (0 : Int))).snd.snd.snd] = [Value.int IntKind.i64 (enSF (seenSli W (addOpt (addOpt a ((at3F bs_1 (↑z.val.c :
    Int) len (0 : Nat)).toNat * (2 : Nat))) (1 : Nat))).snd.fst (sfF W (seenSli W (addOpt (addOpt a ((at3F bs_1 (↑z.val.c : Int) len (0 : Nat)).toNat * (2 : Nat))) (1 : Nat))).fst)),
    Value.int IntKind.u64 (enNF (seenSli W (addOpt (addOpt a ((at3F bs_1 (↑z.val.c : Int) len (0 : Nat)).toNat * (2 : Nat))) (1 : Nat))).snd.fst (sfF W (seenSli W (addOpt (addOpt a
    ((at3F bs_1 (↑z.val.c : Int) len (0 : Nat)).toNat * (2 : Nat))) (1 : Nat))).fst)), Value.int IntKind.u64 (enXF (seenSli W (addOpt (addOpt a ((at3F bs_1 (↑z.val.c : Int) len (0 :
    Nat)).toNat * (2 : Nat))) (1 : Nat))).snd.fst (sfF W (seenSli W (addOpt (addOpt a ((at3F bs_1 (↑z.val.c : Int) len (0 : Nat)).toNat * (2 : Nat))) (1 : Nat))).fst))] ∧ True) ∧
    (z_1.val.l.length = (1 : Nat) ∧ z_1.val.cap2 = cap_1 ∧ entC z_1.val.l (0 : Nat) = (↑z.val.c : Int) ∧ True) ∧ True))) ∧ (decide ((↑z.val.c : Int) > (0 : Int)) = false → chainF bs
    (1001 : Nat) cur [] = some [] ∧ true = true ∧ W = W ∧ True)) ∧ (∀ (z : (Emb.mk { s : HSt // HOk bs cur s ∧ s.l ≠ [] } HY.s).Z) (ρ : Nat → Value), (decide ((↑z.val.c : Int) > (0 :
    Int)) = true → ∃ (bs_1 : List (Nat × List Nat)), (BlkRow W a len bs_1 ∧ len ≤ (1000000 : Nat)) ∧ (decide (at3F bs_1 (↑z.val.c : Int) len (0 : Nat) < (0 : Int)) = true → chainF bs
    (1001 : Nat) cur [] = none ∧ false = false ∧ W = W ∧ True) ∧ (decide (at3F bs_1 (↑z.val.c : Int) len (0 : Nat) < (0 : Int)) = false → (((↑z.val.l.length : Int) == (1000 : Int)) =
    true → chainF bs (1001 : Nat) cur [] = none ∧ false = false ∧ W = W ∧ True) ∧ (((↑z.val.l.length : Int) == (1000 : Int)) = false → ((0 : Int) ≤ at3F bs_1 (↑z.val.c : Int) len (0 :
    Nat) ∧ at3F bs_1 (↑z.val.c : Int) len (0 : Nat) < (↑len : Int) ∧ a.isSome = true) ∧ (addOpt a ((at3F bs_1 (↑z.val.c : Int) len (0 : Nat)).toNat * (2 : Nat))).isSome = true ∧ (∃ (x :
    Addr), addOpt (addOpt a ((at3F bs_1 (↑z.val.c : Int) len (0 : Nat)).toNat * (2 : Nat))) (1 : Nat) = some x ∧ W.cell? x = some (Value.slice (seenSli W (addOpt (addOpt a ((at3F bs_1
    (↑z.val.c : Int) len (0 : Nat)).toNat * (2 : Nat))) (1 : Nat))).fst (seenSli W (addOpt (addOpt a ((at3F bs_1 (↑z.val.c : Int) len (0 : Nat)).toNat * (2 : Nat))) (1 : Nat))).snd.fst
    (seenSli W (addOpt (addOpt a ((at3F bs_1 (↑z.val.c : Int) len (0 : Nat)).toNat * (2 : Nat))) (1 : Nat))).snd.snd)) ∧ (((0 : Nat) < (seenSli W (addOpt (addOpt a ((at3F bs_1 (↑z.val.c
    : Int) len (0 : Nat)).toNat * (2 : Nat))) (1 : Nat))).snd.fst → (seenSli W (addOpt (addOpt a ((at3F bs_1 (↑z.val.c : Int) len (0 : Nat)).toNat * (2 : Nat))) (1 : Nat))).fst.isSome =
    true) ∧ ∀ (j : Nat), j < (seenSli W (addOpt (addOpt a ((at3F bs_1 (↑z.val.c : Int) len (0 : Nat)).toNat * (2 : Nat))) (1 : Nat))).snd.fst → Seen IntKind.u64 W (addOpt (seenSli W
    (addOpt (addOpt a ((at3F bs_1 (↑z.val.c : Int) len (0 : Nat)).toNat * (2 : Nat))) (1 : Nat))).fst j)) ∧ ((!enOkF (seenSli W (addOpt (addOpt a ((at3F bs_1 (↑z.val.c : Int) len (0 :
    Nat)).toNat * (2 : Nat))) (1 : Nat))).snd.fst (sfF W (seenSli W (addOpt (addOpt a ((at3F bs_1 (↑z.val.c : Int) len (0 : Nat)).toNat * (2 : Nat))) (1 : Nat))).fst)) = true → chainF
    bs (1001 : Nat) cur [] = none ∧ false = false ∧ W = W ∧ True) ∧ ((!enOkF (seenSli W (addOpt (addOpt a ((at3F bs_1 (↑z.val.c : Int) len (0 : Nat)).toNat * (2 : Nat))) (1 :
    Nat))).snd.fst (sfF W (seenSli W (addOpt (addOpt a ((at3F bs_1 (↑z.val.c : Int) len (0 : Nat)).toNat * (2 : Nat))) (1 : Nat))).fst)) = false → (z.val.cap1 = z.val.cap1 ∧
    z.val.l.length ≤ z.val.l.length) ∧ True ∧ z.val.l.length + (1 : Nat) ≤ (1000000000 : Nat) ∧ ∀ (cap : Nat), z.val.l.length + (1 : Nat) ≤ cap → (z.val.cap2 = z.val.cap2 ∧
    z.val.l.length ≤ z.val.l.length) ∧ True ∧ z.val.l.length + (1 : Nat) ≤ (1000000000 : Nat) ∧ ∀ (cap_1 : Nat), z.val.l.length + (1 : Nat) ≤ cap_1 → ∃ (z_1 : (Emb.mk { s : HSt // HOk
    bs cur s ∧ s.l ≠ [] } HY.s).Z), (1001 : Nat) - ((Emb.mk { s : HSt // HOk bs cur s ∧ s.l ≠ [] } HY.s).e z_1).st.l.length < (1001 : Nat) - ((Emb.mk { s : HSt // HOk bs cur s ∧ s.l ≠
    [] } HY.s).e z).st.l.length ∧ W = W ∧ x.cap = x.cap ∧ x.births = x.births ∧ x.peak = x.peak ∧ x.faults = x.faults ∧ x.x0 = x.x0 ∧ x.x1 = x.x1 ∧ x.x2 = x.x2 ∧ x.x3 = x.x3 ∧ x.x4 =
    x.x4 ∧ x.x5 = x.x5 ∧ x.x6 = x.x6 ∧ x.x7 = x.x7 ∧ x.x8 = x.x8 ∧ a = a ∧ len = len ∧ cp = cp ∧ x.t0 = x.t0 ∧ x.t1 = x.t1 ∧ x.t2 = x.t2 ∧ x.t3 = x.t3 ∧ x.t4 = x.t4 ∧ x.t5 = x.t5 ∧
    (↑z_1.val.c : Int) = enXF (seenSli W (addOpt (addOpt a ((at3F bs_1 (↑z.val.c : Int) len (0 : Nat)).toNat * (2 : Nat))) (1 : Nat))).snd.fst (sfF W (seenSli W (addOpt (addOpt a ((at3F
    bs_1 (↑z.val.c : Int) len (0 : Nat)).toNat * (2 : Nat))) (1 : Nat))).fst) ∧ (0 : Nat) = (0 : Nat) ∧ z_1.val.l.length = z.val.l.length + (1 : Nat) ∧ z_1.val.cap1 = cap ∧ (0 : Nat) =
    (0 : Nat) ∧ z_1.val.l.length = z.val.l.length + (1 : Nat) ∧ z_1.val.cap2 = cap_1 ∧ (z_1.val.l.length = z.val.l.length + (1 : Nat) ∧ z_1.val.cap1 = cap ∧ ∀ (i : Nat), i <
    z_1.val.l.length → [Value.int IntKind.i64 (z_1.val.l.getD i ((0 : Nat), (0 : Int), (0 : Int), (0 : Int))).snd.fst, Value.int IntKind.u64 (z_1.val.l.getD i ((0 : Nat), (0 : Int), (0
    : Int), (0 : Int))).snd.snd.fst, Value.int IntKind.u64 (z_1.val.l.getD i ((0 : Nat), (0 : Int), (0 : Int), (0 : Int))).snd.snd.snd] = if i < z.val.l.length then entV z.val.l i else
    [Value.int IntKind.i64 (enSF (seenSli W (addOpt (addOpt a ((at3F bs_1 (↑z.val.c : Int) len (0 : Nat)).toNat * (2 : Nat))) (1 : Nat))).snd.fst (sfF W (seenSli W (addOpt (addOpt a
    ((at3F bs_1 (↑z.val.c : Int) len (0 : Nat)).toNat * (2 : Nat))) (1 : Nat))).fst)), Value.int IntKind.u64 (enNF (seenSli W (addOpt (addOpt a ((at3F bs_1 (↑z.val.c : Int) len (0 :
    Nat)).toNat * (2 : Nat))) (1 : Nat))).snd.fst (sfF W (seenSli W (addOpt (addOpt a ((at3F bs_1 (↑z.val.c : Int) len (0 : Nat)).toNat * (2 : Nat))) (1 : Nat))).fst)), Value.int
    IntKind.u64 (enXF (seenSli W (addOpt (addOpt a ((at3F bs_1 (↑z.val.c : Int) len (0 : Nat)).toNat * (2 : Nat))) (1 : Nat))).snd.fst (sfF W (seenSli W (addOpt (addOpt a ((at3F bs_1
    (↑z.val.c : Int) len (0 : Nat)).toNat * (2 : Nat))) (1 : Nat))).fst))]) ∧ (z_1.val.l.length = z.val.l.length + (1 : Nat) ∧ z_1.val.cap2 = cap_1 ∧ ∀ (i : Nat), i < z_1.val.l.length →
    entC z_1.val.l i = if i < z.val.l.length then entC z.val.l i else (↑z.val.c : Int)) ∧ True)))) ∧ (decide ((↑z.val.c : Int) > (0 : Int)) = false → ∃ (s : HSt), chainF bs (1001 : Nat)
    cur [] = some s.l ∧ (0 : Nat) = (0 : Nat) ∧ s.l.length = z.val.l.length ∧ s.cap1 = z.val.cap1 ∧ (0 : Nat) = (0 : Nat) ∧ s.l.length = z.val.l.length ∧ s.cap2 = z.val.cap2 ∧ true =
    true ∧ W = W ∧ (s.l.length = z.val.l.length ∧ s.cap1 = z.val.cap1 ∧ ∀ (i : Nat), i < s.l.length → [Value.int IntKind.i64 (s.l.getD i ((0 : Nat), (0 : Int), (0 : Int), (0 :
    Int))).snd.fst, Value.int IntKind.u64 (s.l.getD i ((0 : Nat), (0 : Int), (0 : Int), (0 : Int))).snd.snd.fst, Value.int IntKind.u64 (s.l.getD i ((0 : Nat), (0 : Int), (0 : Int), (0 :
    Int))).snd.snd.snd] = [Value.int IntKind.i64 (z.val.l.getD i ((0 : Nat), (0 : Int), (0 : Int), (0 : Int))).snd.fst, Value.int IntKind.u64 (z.val.l.getD i ((0 : Nat), (0 : Int), (0 :
    Int), (0 : Int))).snd.snd.fst, Value.int IntKind.u64 (z.val.l.getD i ((0 : Nat), (0 : Int), (0 : Int), (0 : Int))).snd.snd.snd]) ∧ (s.l.length = z.val.l.length ∧ s.cap2 = z.val.cap2
    ∧ ∀ (i : Nat), i < s.l.length → entC s.l i = entC z.val.l i) ∧ True)) ∧ True) := by
  kernel_rfl
theorem rlist9_run (W : World) (x : D3) (a : Option Addr) (len cp : Nat) (bs : List (Nat × List Nat)) (cur : Nat) (hc : BlkRow W a len bs ∧ len ≤ 1000000 ∧ cur < TW) : Run (callN Try.prog ([at3S, rread9S] : List (Smry Try.prog XV)) (fun _ _ => false) 100 20 58 [.agg (d3C x (.sliv a false len cp)), .c (.int false .u64 (cur : Int))] ⟨[(0, .seen W)], 100⟩ (rlScr bs cur) (fun v m _ => rlP W bs cur v m)) := by
  constructor
  rw [rlist9_vc]
  obtain ⟨row, hl0, hcur⟩ := hc
  simp only [eq_self, true_and, and_true, Nat.le_refl]
  have hw : ∀ c z, z ∈ hwds bs c → z < TW := fun c z hz => by
    rcases hwds_at (c := c) row.num with ⟨_, hnil⟩ | ⟨j, _, hj, hb⟩
    · rw [hnil] at hz; cases hz
    · rw [hb] at hz
      obtain ⟨i, hi⟩ := List.mem_iff_getElem?.1 hz
      have := ((row.slice hj).2.at' i z hi).2
      unfold TW
      omega
  refine ⟨fun y => embsH_cover y, ⟨⟨⟨cur, [], 0, 0⟩, ⟨hcur, Nat.zero_le _, rfl⟩, rfl⟩, rfl⟩, fun z ρ => ⟨fun h1 => ⟨bs, ⟨row, hl0⟩, ?_⟩, fun h1 => ?_⟩, fun z ρ => ⟨fun h1 => ⟨bs, ⟨row, hl0⟩, ?_⟩, fun h1 => ?_⟩⟩
  · obtain ⟨s, hs, hl⟩ := z
    dsimp only at *
    have hc0 : s.c ≠ 0 := fun e => by have := of_decide_eq_true h1; omega
    obtain ⟨n, en, _⟩ := enX_nat (hw s.c)
    rcases hwds_at (c := s.c) row.num with ⟨hneg, hnil⟩ | ⟨j, hA, hj, hb⟩
    · refine ⟨fun _ => chain_no hs hc0 (by rw [hnil]; exact enOkF_no (by show 0 ≠ 3; decide)), fun h2 => absurd (of_decide_eq_false h2) (by omega)⟩
    · rw [hA]
      simp only [Int.toNat_natCast]
      have hsl := row.slice hj
      have hkk : ∃ x, addOpt (addOpt a (j * 2)) 1 = some x ∧ W.cell? x = some (Value.slice (seenSli W (addOpt (addOpt a (j * 2)) 1)).1 (seenSli W (addOpt (addOpt a (j * 2)) 1)).2.1 (seenSli W (addOpt (addOpt a (j * 2)) 1)).2.2) := (row.kinds hj).2.1
      have rd := rdOk_of hsl.1 hsl.2
      rw [← hb] at rd
      generalize seenSli W (addOpt (addOpt a (j * 2)) 1) = S at *
      refine ⟨fun h2 => absurd (of_decide_eq_true h2) (by omega), fun _ => ⟨⟨by omega, by omega, row.sm (by omega)⟩, by rw [addOpt, Option.isSome_map]; exact row.sm (by omega), hkk, ⟨rd.sm, rd.at'⟩, fun h3 => chain_no hs hc0 (by rw [← rd.o]; simpa using h3), fun h3 => ?_⟩⟩
      have hll : s.l.length < 1000 := by rw [hl]; decide
      have ho : enOkF (hwds bs s.c).length (wsF (hwds bs s.c)) = true := by rw [← rd.o]; simpa using h3
      repeat' first
        | with_reducible exact trivial
        | with_reducible apply And.intro
        | omega
        | (refine ⟨⟨⟨(enXF (hwds bs s.c).length (wsF (hwds bs s.c))).toNat, s.l ++ [entE bs s.c], _, _⟩, hs.next (hw _) hc0 ho hll _ _, by simp⟩, ?_, ?_, ?_, rfl, ?_, rfl, ⟨?_, rfl, ?_⟩, ⟨?_, rfl, ?_⟩⟩)
        | (show 1001 - (s.l ++ [_]).length < 1001 - s.l.length; rw [hl]; simp; done)
        | (show (((enXF _ _).toNat : Nat) : Int) = enXF _ _; rw [rd.x, en]; rfl)
        | (show (s.l ++ [_]).length = 1; rw [hl]; rfl)
        | (show [Value.int IntKind.i64 ((s.l ++ [_]).getD 0 _).2.1, Value.int IntKind.u64 ((s.l ++ [_]).getD 0 _).2.2.1, Value.int IntKind.u64 ((s.l ++ [_]).getD 0 _).2.2.2] = _; rw [hl, rd.s, rd.n, rd.x]; rfl)
        | (show entC (s.l ++ [_]) 0 = _; rw [hl]; rfl)
        | intro _
  · obtain ⟨s, hs, hl⟩ := z
    dsimp only at *
    have := chain_end hs (by have := of_decide_eq_false h1; omega)
    rw [this, hl]
  · obtain ⟨s, hs, hl⟩ := z
    dsimp only at *
    have hc0 : s.c ≠ 0 := fun e => by have := of_decide_eq_true h1; omega
    obtain ⟨n, en, _⟩ := enX_nat (hw s.c)
    rcases hwds_at (c := s.c) row.num with ⟨hneg, hnil⟩ | ⟨j, hA, hj, hb⟩
    · refine ⟨fun _ => chain_no hs hc0 (by rw [hnil]; exact enOkF_no (by show 0 ≠ 3; decide)), fun h2 => absurd (of_decide_eq_false h2) (by omega)⟩
    · rw [hA]
      simp only [Int.toNat_natCast]
      have hsl := row.slice hj
      have hkk : ∃ x, addOpt (addOpt a (j * 2)) 1 = some x ∧ W.cell? x = some (Value.slice (seenSli W (addOpt (addOpt a (j * 2)) 1)).1 (seenSli W (addOpt (addOpt a (j * 2)) 1)).2.1 (seenSli W (addOpt (addOpt a (j * 2)) 1)).2.2) := (row.kinds hj).2.1
      have rd := rdOk_of hsl.1 hsl.2
      rw [← hb] at rd
      generalize seenSli W (addOpt (addOpt a (j * 2)) 1) = S at *
      refine ⟨fun h2 => absurd (of_decide_eq_true h2) (by omega), fun _ => ⟨fun h3 => chain_full hs hc0 (by have := beqT9 h3; omega), fun h4 => ⟨⟨by omega, by omega, row.sm (by omega)⟩, by rw [addOpt, Option.isSome_map]; exact row.sm (by omega), hkk, ⟨rd.sm, rd.at'⟩, fun h5 => chain_no hs hc0 (by rw [← rd.o]; simpa using h5), fun h3 => ?_⟩⟩⟩
      have hll : s.l.length < 1000 := by have h6 := beqF9 h4; have := hs.l; omega
      have ho : enOkF (hwds bs s.c).length (wsF (hwds bs s.c)) = true := by rw [← rd.o]; simpa using h3
      repeat' first
        | with_reducible exact trivial
        | with_reducible apply And.intro
        | omega
        | (refine ⟨⟨⟨(enXF (hwds bs s.c).length (wsF (hwds bs s.c))).toNat, s.l ++ [entE bs s.c], _, _⟩, hs.next (hw _) hc0 ho hll _ _, by simp⟩, ?_, ?_, ?_, rfl, ?_, rfl, ⟨?_, rfl, ?_⟩, ⟨?_, rfl, ?_⟩⟩)
        | (show 1001 - (s.l ++ [_]).length < 1001 - s.l.length; rw [List.length_append]; simp only [List.length_cons, List.length_nil]; omega)
        | (show (((enXF _ _).toNat : Nat) : Int) = enXF _ _; rw [rd.x, en]; rfl)
        | (show (s.l ++ [_]).length = s.l.length + 1; rw [List.length_append]; rfl)
        | (intro i hi; show entV (s.l ++ [_]) i = _; unfold entV; rw [getD_app hi]; rw [rd.s, rd.n, rd.x]; split <;> rfl)
        | (intro i hi; show entC (s.l ++ [_]) i = _; unfold entC; rw [getD_app hi]; split <;> rfl)
        | intro _
  · obtain ⟨s, hs, hl⟩ := z
    dsimp only at *
    exact ⟨s, chain_end hs (by have := of_decide_eq_false h1; omega), by simp⟩
section
variable {E : EXT}
def res9 (n : Nat) (l : List Ent) (c1 c2 : Nat) : SV := .tup [(false, [.sli n 3 true 0 false l.length c1]), (false, [.sli (n + 1) 1 true 0 false l.length c2]), (false, [.boo true true])]
def rlist9S : Smry Try.prog E where
  g := 58
  run := fun args m K => match args with
    | [.agg l, .c (.int _ .u64 cur _)] => match m.hp.get 0, d3Of l with
      | some (.seen W), some (_, L) => match L with
        | .sliv a _ len _ => ∃ bs, (BlkRow W a len bs ∧ len ≤ 1000000 ∧ 0 ≤ cur ∧ cur < 18446744073709551616) ∧
            (chainF bs 1001 cur.toNat [] = none → K (.tup [(false, [.nls]), (false, [.nls]), (false, [.boo true false])]) m) ∧
            (chainF bs 1001 cur.toNat [] = some [] → K (.tup [(false, [.nls]), (false, [.nls]), (false, [.boo true true])]) m) ∧
            (∀ l c1 c2, chainF bs 1001 cur.toNat [] = some l → (bif newOk m (.vals 119 3 l.length c1 (entV l)) && newOk (withNew m (.vals 119 3 l.length c1 (entV l))) (.ints 25 .u64 l.length c2 (entC l)) then
              K (res9 m.nx l c1 c2) (withNew (withNew m (.vals 119 3 l.length c1 (entV l))) (.ints 25 .u64 l.length c2 (entC l))) else Stuck 685))
        | _ => Stuck 686
      | _, _ => Stuck 687
    | _ => Stuck 688
  ok := fun args m K hr => by
    split at hr <;> try exact hr.elim
    rename_i l lh cur bh
    split at hr <;> try exact hr.elim
    rename_i W x L hW hl
    obtain ⟨hd, hnm⟩ := d3Of_sound hl
    split at hr <;> try exact hr.elim
    rename_i a ll len cp
    obtain ⟨bs, ⟨hrow, hlen, hc0, hc1⟩, k0, k1, k2⟩ := hr
    obtain ⟨c, rfl⟩ : ∃ c : Nat, cur = c := ⟨cur.toNat, by omega⟩
    simp only [Int.toNat_natCast] at k0 k1 k2
    intro ν w R w0 H HK
    have ea : [SV.agg l, .c (.int lh .u64 (c : Int) bh)].map (SV.den ν) = [SV.agg (d3C x (.sliv a false len cp)), .c (.int false .u64 (c : Int))].map (SV.den ν) := by
      have e1 : SC.denL ν l = SC.denL ν (d3C x (.sliv a false len cp)) := (hd ν).trans (by simp only [d3C, SC.denL, SC.den])
      simp only [List.map_cons, List.map_nil, SV.den, e1, SC.den]
    rw [ea]
    have H1 := H
    rw [SH.den_get ν hW, Assn.mul_assoc] at H1
    have H2 : Sat w ((⟨[(0, .seen W)], 100⟩ : Mem XV).hp.den ν * ((m.hp.del 0).den ν * R)) := by
      refine H1.cast ?_
      simp only [SH.den, SO.den]
      rw [Assn.mul_comm (seenA W) (1 : Assn), Assn.one_mul]
    refine (callN_ok namesOk mixed _ _ _ _ _ _ ⟨[(0, .seen W)], 100⟩ _ _ (rlist9_run W x a len cp bs c ⟨hrow, hlen, by unfold TW; omega⟩).out ν w _ w0 H2 HK).mono ?_
    rintro e w' ⟨v, m', s', ξ, hp, _, _, he, hs, hk⟩
    unfold rlP at hp
    split at hp
    · rename_i pr lb b
      obtain ⟨hch, ho⟩ := hp
      obtain ⟨κ, ag, hv, hs⟩ := outM_sound ho hs
      have hs2 : Sat w' (m.hp.den ν * R) := by
        rw [SH.den_get ν hW, Assn.mul_assoc]
        refine hs.cast ?_
        simp only [SH.den, SO.den]
        rw [Assn.mul_comm (seenA W) (1 : Assn), Assn.one_mul]
      cases b with
      | false => exact ⟨_, m, ν, k0 hch, Agree.refl _ _, Nat.le_refl _, by rw [he, hv]; rfl, hs2, hk⟩
      | true => exact ⟨_, m, ν, k1 hch, Agree.refl _ _, Nat.le_refl _, by rw [he, hv]; rfl, hs2, hk⟩
    · obtain ⟨s, hch, ho⟩ := hp
      obtain ⟨κ, ag, hv, hs⟩ := outM_sound ho hs
      have hk2 := k2 s.l s.cap1 s.cap2 hch
      cases hb : newOk m (.vals 119 3 s.l.length s.cap1 (entV s.l)) && newOk (withNew m (.vals 119 3 s.l.length s.cap1 (entV s.l))) (.ints 25 .u64 s.l.length s.cap2 (entC s.l)) <;> rw [hb] at hk2
      · exact hk2.elim
      simp only [cond_true] at hk2
      simp only [Bool.and_eq_true] at hb
      have hs2 : Sat w' ((SO.ints 25 .u64 s.l.length s.cap2 (entC s.l) : SO E).den (upd ν m.nx (κ 10)) (κ 11) * ((SO.vals 119 3 s.l.length s.cap1 (entV s.l) : SO E).den ν (κ 10) * (m.hp.den ν * R))) := by
        rw [SH.den_get ν hW]
        refine hs.cast ?_
        simp only [SH.den, SO.den, rows9]
        rw [Assn.mul_comm _ (1 : Assn), Assn.one_mul]
        ac_rfl
      have hs3 := withNew_sat hb.1 (hs2.cast (Q := (SO.vals 119 3 s.l.length s.cap1 (entV s.l) : SO E).den ν (κ 10) * (m.hp.den ν * ((SO.ints 25 .u64 s.l.length s.cap2 (entC s.l) : SO E).den (upd ν m.nx (κ 10)) (κ 11) * R))) (by ac_rfl))
      refine ⟨_, _, upd (upd ν m.nx (κ 10)) (m.nx + 1) (κ 11), hk2, (Agree.upd (Nat.le_refl _) _).trans (Agree.upd (Nat.le_refl _) _) (Nat.le_succ _), Nat.le_succ_of_le (Nat.le_succ _), ?_, ?_, hk⟩
      · rw [he, hv]
        have e1 : upd (upd ν m.nx (κ 10)) (m.nx + 1) (κ 11) m.nx = κ 10 := by simp [upd]
        simp only [res9, SV.den, List.map_cons, List.map_nil, partDen, SC.den, upd_same, e1]
      · exact withNew_sat hb.2 (hs3.cast (by ac_rfl))
end
end Go.Proofs.Ytnfpkadepomjjaa

/- Entries behind a cursor: what is listed is put with the old memory at once. -/
namespace Go.Proofs.Ytnfpkadepomjjaa
open Go Go.RowKit
set_option maxRecDepth 100000

theorem rowK_frz {W w : World} {T : TypeId} {k n : Nat} {v : Value} {xs : List Value} {R : Assn} (h : Sat w (seenA W * (rowK T k v n xs * R))) :
    ∃ W' a cap, v = .slice a n cap ∧ Grow W W' ∧ (0 < n → a.isSome = true) ∧ (∀ j u, xs[j]? = some u → CellAt W' a j u) ∧ Sat w (seenA W' * R) := by
  have h1 : Sat w (rowK T k v n xs * (seenA W * R)) := h.cast (by ac_rfl)
  by_cases hv : v = .slice none 0 0
  · subst hv
    obtain ⟨hl, hz⟩ := rowK_open h1
    have hn : n = 0 := by
      rcases hz with ⟨_, h, _⟩ | ⟨_, _, _, h, _⟩
      · exact h
      · cases h
    subst hn
    have hx : xs = [] := List.eq_nil_of_length_eq_zero (by omega)
    subst hx
    exact ⟨W, none, 0, rfl, Grow.refl W, fun h => absurd h (Nat.lt_irrefl 0), fun j u h => by simp at h, h1.right⟩
  · obtain ⟨b, cap, rfl, hcap, hs2⟩ := rowK_head h1 hv
    obtain ⟨W', hg, hc, _, hs3⟩ := head_frz (hs2.cast (Q := seenA W * (rowHead b T k n cap xs * R)) (by ac_rfl))
    exact ⟨W', _, cap, rfl, hg, fun _ => rfl, hc, hs3⟩
/-- Entries that memory has. -/
structure EntAt (W : World) (a : Option Addr) (n : Nat) (l : List Ent) : Prop where
  num : l.length = n
  sm : 0 < n → a.isSome = true
  at' : ∀ j u, (ecells l)[j]? = some u → CellAt W a j u
structure CurAt (W : World) (a : Option Addr) (n : Nat) (l : List Ent) : Prop where
  num : l.length = n
  sm : 0 < n → a.isSome = true
  at' : ∀ j u, (ccells l)[j]? = some u → CellAt W a j u
theorem EntAt.grow {W W' : World} {a : Option Addr} {n : Nat} {l : List Ent} (h : EntAt W a n l) (g : Grow W W') : EntAt W' a n l := ⟨h.num, h.sm, fun j u hj => (h.at' j u hj).grow g⟩
theorem CurAt.grow {W W' : World} {a : Option Addr} {n : Nat} {l : List Ent} (h : CurAt W a n l) (g : Grow W W') : CurAt W' a n l := ⟨h.num, h.sm, fun j u hj => (h.at' j u hj).grow g⟩
def okL (a : Option Addr) (n c : Nat) (b : Bool) : SV := .tup [(false, [.sliv a false n c]), (false, [.boo false b])]
/-- From a contract that hands back a row and a flag. -/
theorem gives_frz {g : FuncId} {args : List SV} {m : MP} {K : SV → MP → Prop} {n : Nat} {x : PA} {W : World} (h0 : m.hp.get 0 = some (.seen W)) (hx : (m.hp.del 0).get n = some (parO x)) {T : TypeId} {k cnt : Nat} {xs : List Value} {bo : Bool} (hz : bo = false → cnt = 0 ∧ xs = [])
    (hc : x.bk.length ≤ 70000 → ∀ ν w z R, Sat w (arAt (ν n) (x.ar z) * R) → Calls Try.prog g (args.map (SV.den ν)).toArray w fun e w' => Kept w w' ∧
      ((bo = false ∧ e = .returned (.tuple #[.slice none 0 0, .bool false]) ∧ Sat w' (arAt (ν n) (x.ar z) * R)) ∨ (bo = true ∧ ∃ v, e = .returned (.tuple #[v, .bool true]) ∧ Sat w' (rowK T k v cnt xs * (arAt (ν n) (x.ar z) * R)))))
    (hk : ∀ W' a c, Grow W W' → (0 < cnt → a.isSome = true) → (∀ j u, xs[j]? = some u → CellAt W' a j u) → K (okL a cnt c bo) ⟨m.hp.set 0 (.seen W'), m.nx⟩) :
    Gives Try.prog g args m K := fun ν w R w0 H HK => by
  have hset : ∀ W', ((m.hp.set 0 (.seen W')).den ν) = seenA W' * ((parO x).den ν (ν n) * ((m.hp.del 0).del n).den ν) := fun W' => by
    rw [SH.den_set ν h0, SH.den_get ν hx]
    rfl
  rw [SH.den_get ν h0, SH.den_get ν hx] at H
  have H1 := H.cast (Q := (parO x).den ν (ν n) * (seenA W * (((m.hp.del 0).del n).den ν * R))) (by simp only [SO.den]; ac_rfl)
  have hbk := inv_back (par_inv H1)
  obtain ⟨z, H1⟩ := par_open H1
  refine (hc (by omega) ν w z _ H1).mono ?_
  rintro e w' ⟨hk', ⟨hb, he, hs⟩ | ⟨hb, v, he, hs⟩⟩
  · obtain ⟨hz1, hz2⟩ := hz hb
    subst hz1 hz2
    refine ⟨_, _, ν, hk W none 0 (Grow.refl W) (fun h => absurd h (Nat.lt_irrefl 0)) (fun j u h => by simp at h), Agree.refl _ _, Nat.le_refl _, by rw [he, hb]; rfl, ?_, HK.trans hk'⟩
    rw [hset]
    exact (par_shut (ν := ν) hs).cast (by ac_rfl)
  · have hs2 := par_shut (ν := ν) (hs.cast (Q := arAt (ν n) (x.ar z) * (rowK T k v cnt xs * (seenA W * (((m.hp.del 0).del n).den ν * R)))) (by ac_rfl))
    obtain ⟨W', a, c, hv, hg, hsm, hcell, hs3⟩ := rowK_frz (hs2.cast (Q := seenA W * (rowK T k v cnt xs * ((parO x).den ν (ν n) * (((m.hp.del 0).del n).den ν * R)))) (by ac_rfl))
    refine ⟨_, _, ν, hk W' a c hg hsm hcell, Agree.refl _ _, Nat.le_refl _, by rw [he, hv, hb]; rfl, ?_, HK.trans hk'⟩
    rw [hset]
    exact hs3.cast (by ac_rfl)
theorem bo_nil {x : PA} {cur : Nat} (h : (chainP x cur).isSome = false) : ((chainP x cur).getD []).length = 0 ∧ ecells ((chainP x cur).getD []) = [] ∧ ccells ((chainP x cur).getD []) = [] := by
  cases hc : chainP x cur with
  | none => exact ⟨rfl, rfl, rfl⟩
  | some l => rw [hc] at h; cases h
def hlistF : Smry Try.prog XP where
  g := 56
  run := fun args m K => match args with
    | [.c (.ptr n 0), .c (.int _ .u64 cur _)] => match m.hp.get 0, (m.hp.del 0).get n with
      | some (.seen W), some (.ext (.obj [] x)) => (0 ≤ cur ∧ cur < 18446744073709551616) ∧ ∀ W' a k c, Grow W W' → EntAt W' a k ((chainP x cur.toNat).getD []) → K (okL a k c (chainP x cur.toNat).isSome) ⟨m.hp.set 0 (.seen W'), m.nx⟩
      | _, _ => Stuck 841
    | [.c (.raw (.pointer none)), .c (.int _ .u64 cur _)] => match cur with
      | .ofNat 0 => ∀ v, K (.tup [(false, [.raw v]), okB true]) m
      | .ofNat (k + 1) => k + 1 < 18446744073709551616 ∧ K (.tup [(false, [.nls]), okB false]) m
      | _ => Stuck 843
    | _ => Stuck 842
  ok := fun args m K hr => by
    split at hr <;> try exact hr.elim
    · rename_i n _ cur _
      split at hr <;> try exact hr.elim
      rename_i W x hW hx
      obtain ⟨⟨hr0, hr1⟩, hk⟩ := hr
      obtain ⟨z, rfl⟩ : ∃ z : Nat, cur = z := ⟨cur.toNat, by omega⟩
      simp only [Int.toNat_natCast] at *
      exact gives_frz hW hx (T := 119) (k := 3) (cnt := ((chainP x z).getD []).length) (xs := ecells ((chainP x z).getD [])) (bo := (chainP x z).isSome) (fun h => ⟨(bo_nil h).1, (bo_nil h).2.1⟩) (fun hb ν w zz R H => hlistP_callsP (ν n) x zz z w H (by unfold TW; omega) hb) fun W' a c hg hsm hcell => hk W' a _ c hg ⟨rfl, hsm, hcell⟩
    · split at hr <;> try exact hr.elim
      · exact hlistPR.ok [.c (.raw (.pointer none)), .c (.int _ .u64 (Int.ofNat 0) _)] m K ⟨⟨Int.le_refl 0, by decide⟩, fun _ => hr, fun h => absurd rfl h⟩
      · rename_i k _
        exact hlistPR.ok [.c (.raw (.pointer none)), .c (.int _ .u64 (Int.ofNat (k + 1)) _)] m K ⟨⟨Int.natCast_nonneg _, by have := hr.1; show ((k + 1 : Nat) : Int) < _; omega⟩, fun h => absurd h (by show ¬ ((k + 1 : Nat) : Int) = 0; omega), fun _ => hr.2⟩
def hhandlesF : Smry Try.prog XP where
  g := 57
  run := fun args m K => match args with
    | [.c (.ptr n 0), .c (.int _ .u64 cur _)] => match m.hp.get 0, (m.hp.del 0).get n with
      | some (.seen W), some (.ext (.obj [] x)) => (0 ≤ cur ∧ cur < 18446744073709551616) ∧ ∀ W' a k c, Grow W W' → CurAt W' a k ((chainP x cur.toNat).getD []) → K (okL a k c (chainP x cur.toNat).isSome) ⟨m.hp.set 0 (.seen W'), m.nx⟩
      | _, _ => Stuck 841
    | [.c (.raw (.pointer none)), .c (.int _ .u64 cur _)] => match cur with
      | .ofNat 0 => ∀ v, K (.tup [(false, [.raw v]), okB true]) m
      | .ofNat (k + 1) => k + 1 < 18446744073709551616 ∧ K (.tup [(false, [.nls]), okB false]) m
      | _ => Stuck 843
    | _ => Stuck 842
  ok := fun args m K hr => by
    split at hr <;> try exact hr.elim
    · rename_i n _ cur _
      split at hr <;> try exact hr.elim
      rename_i W x hW hx
      obtain ⟨⟨hr0, hr1⟩, hk⟩ := hr
      obtain ⟨z, rfl⟩ : ∃ z : Nat, cur = z := ⟨cur.toNat, by omega⟩
      simp only [Int.toNat_natCast] at *
      exact gives_frz hW hx (T := 25) (k := 1) (cnt := ((chainP x z).getD []).length) (xs := ccells ((chainP x z).getD [])) (bo := (chainP x z).isSome) (fun h => ⟨(bo_nil h).1, (bo_nil h).2.2⟩) (fun hb ν w zz R H => hhandlesP_callsP (ν n) x zz z w H (by unfold TW; omega) hb) fun W' a c hg hsm hcell => hk W' a _ c hg ⟨rfl, hsm, hcell⟩
    · split at hr <;> try exact hr.elim
      · exact hhandlesPR.ok [.c (.raw (.pointer none)), .c (.int _ .u64 (Int.ofNat 0) _)] m K ⟨⟨Int.le_refl 0, by decide⟩, fun _ => hr, fun h => absurd rfl h⟩
      · rename_i k _
        exact hhandlesPR.ok [.c (.raw (.pointer none)), .c (.int _ .u64 (Int.ofNat (k + 1)) _)] m K ⟨⟨Int.natCast_nonneg _, by have := hr.1; show ((k + 1 : Nat) : Int) < _; omega⟩, fun h => absurd h (by show ¬ ((k + 1 : Nat) : Int) = 0; omega), fun _ => hr.2⟩
end Go.Proofs.Ytnfpkadepomjjaa

/- Words of the old memory, compared; the document's entries, put with the old memory. -/
namespace Go.Proofs.Ytnfpkadepomjjaa
open Go Go.RowKit
set_option maxRecDepth 1000000
set_option maxHeartbeats 0
structure WY9 (n : Nat) (f g : Nat → Int) where
  i : Nat
  hi : i ≤ n
  eq : ∀ j, j < i → f j = g j
def retW9 (W : World) (k : Int) (v : SV) (m : Mem XV) : Prop := match v with
  | .c (.int _ .i64 j _) => j = k ∧ seenOf m.hp = some W
  | _ => Stuck 671
/-- What the executor leaves to be shown of roundelay/roundelaylaw04.Words, written out. -/
theorem words9_vc (W : World) (a b : Option Addr) (n c k d : Nat) : (callN Try.prog ([] : List (Smry Try.prog XV)) (fun _ _ => false) 100 20 59 [.c (.sliv a false n c), .c (.sliv b false k d)] ⟨[(0, .seen W)], 100⟩ (.both .nil (.inv (liveL [0, 1, 4, 5, 12, 13]) ((List.range 1500).map (· + 1)) (WY9 n (sfF W a) (sfF W b)) (fun _ y => ([(13, .c (.int false .i64 (y.i : Int)))], [])) (fun y => n - y.i) fun _ => .both (.both .nil .nil) .nil)) (fun v m _ => retW9 W (weqF n (sfF W a) k (sfF W b)) v m)) = (
    (((↑n : Int) != (↑k : Int)) = true → (0 : Int) = weqF n (sfF W a) k (sfF W b) ∧ some W = some W) ∧ (((↑n : Int) != (↑k : Int)) = false → (∃ (y : WY9 n (sfF W a) (sfF W b)), a = a ∧
    n = n ∧ c = c ∧ b = b ∧ k = k ∧ d = d ∧ (↑n : Int) = (↑n : Int) ∧ W = W ∧ (↑y.i : Int) = (0 : Int) ∧ True) ∧ ∀ (y : WY9 n (sfF W a) (sfF W b)) (ρ : Nat → Value), (decide ((↑y.i :
    Int) < (↑n : Int)) = true → ((0 : Int) ≤ (↑y.i : Int) ∧ (↑y.i : Int) < (↑n : Int) ∧ a.isSome = true) ∧ (∃ (x : Addr), addOpt a (↑y.i : Int).toNat = some x ∧ W.cell? x = some
    (Value.int IntKind.u64 (seenInt IntKind.u64 W (addOpt a (↑y.i : Int).toNat)))) ∧ ((0 : Int) ≤ (↑y.i : Int) ∧ (↑y.i : Int) < (↑k : Int) ∧ b.isSome = true) ∧ (∃ (x : Addr), addOpt b
    (↑y.i : Int).toNat = some x ∧ W.cell? x = some (Value.int IntKind.u64 (seenInt IntKind.u64 W (addOpt b (↑y.i : Int).toNat)))) ∧ ((seenInt IntKind.u64 W (addOpt a (↑y.i : Int).toNat)
    != seenInt IntKind.u64 W (addOpt b (↑y.i : Int).toNat)) = true → (0 : Int) = weqF n (sfF W a) k (sfF W b) ∧ some W = some W) ∧ ((seenInt IntKind.u64 W (addOpt a (↑y.i : Int).toNat)
    != seenInt IntKind.u64 W (addOpt b (↑y.i : Int).toNat)) = false → ((-9223372036854775808 : Int) ≤ (↑y.i : Int) + (1 : Int) ∧ (↑y.i : Int) + (1 : Int) ≤ (9223372036854775807 : Int))
    ∧ ∃ (y' : WY9 n (sfF W a) (sfF W b)), n - y'.i < n - y.i ∧ a = a ∧ n = n ∧ c = c ∧ b = b ∧ k = k ∧ d = d ∧ (↑n : Int) = (↑n : Int) ∧ W = W ∧ (↑y'.i : Int) = (↑y.i : Int) + (1 : Int)
    ∧ True)) ∧ (decide ((↑y.i : Int) < (↑n : Int)) = false → (1 : Int) = weqF n (sfF W a) k (sfF W b) ∧ some W = some W))) := by
  kernel_rfl
theorem words9_run (W : World) (a b : Option Addr) (n c k d : Nat) (hc : ((0 < n → a.isSome = true) ∧ (∀ j, j < n → Seen .u64 W (addOpt a j)) ∧ n ≤ 1000000000) ∧ (0 < k → b.isSome = true) ∧ ∀ j, j < k → Seen .u64 W (addOpt b j)) : Run (callN Try.prog ([] : List (Smry Try.prog XV)) (fun _ _ => false) 100 20 59 [.c (.sliv a false n c), .c (.sliv b false k d)] ⟨[(0, .seen W)], 100⟩ (.both .nil (.inv (liveL [0, 1, 4, 5, 12, 13]) ((List.range 1500).map (· + 1)) (WY9 n (sfF W a) (sfF W b)) (fun _ y => ([(13, .c (.int false .i64 (y.i : Int)))], [])) (fun y => n - y.i) fun _ => .both (.both .nil .nil) .nil)) (fun v m _ => retW9 W (weqF n (sfF W a) k (sfF W b)) v m)) := by
  constructor
  rw [words9_vc]
  obtain ⟨⟨h1, h2, h3⟩, h4, h5⟩ := hc
  refine ⟨fun hne => ⟨(weqF_len (by have := bne_iff_ne.1 hne; omega)).symm, rfl⟩, fun he => ?_⟩
  have hnk : n = k := by have := bne_eq_false_iff_eq.1 he; omega
  refine ⟨⟨⟨0, Nat.zero_le _, fun j h => absurd h (Nat.not_lt_zero j)⟩, ?_⟩, fun y ρ => ⟨fun hlt => ?_, fun hge => ?_⟩⟩
  · repeat' first | exact rfl | exact trivial | apply And.intro
  · have hlt' : y.i < n := by have := of_decide_eq_true hlt; omega
    simp only [Int.toNat_natCast]
    refine ⟨⟨by omega, by omega, h1 (by omega)⟩, h2 _ hlt', ⟨by omega, by omega, h4 (by omega)⟩, h5 _ (by omega), fun hd => ⟨(weqF_at hlt' (bne_iff_ne.1 hd)).symm, (by first | exact trivial | exact rfl)⟩, fun hd => ⟨⟨by omega, by omega⟩, ⟨y.i + 1, hlt', fun j hj => ?_⟩, ?_⟩⟩
    · by_cases e : j = y.i
      · subst e; exact bne_eq_false_iff_eq.1 hd
      · exact y.eq j (by omega)
    · repeat' first | exact rfl | exact trivial | apply And.intro
      all_goals first
        | (show n - (y.i + 1) < n - y.i; omega)
        | (show ((y.i + 1 : Nat) : Int) = _; omega)
  · have hi : y.i = n := by have := of_decide_eq_false hge; have := y.hi; omega
    refine ⟨(weqF_one hnk fun j hj => y.eq j (by omega)).symm, rfl⟩
section
variable {E : EXT}
theorem retW9_den {W : World} {k : Int} {v : SV} {m : Mem XV} (h : retW9 W k v m) : seenOf m.hp = some W ∧ v.names = [] ∧ ∀ ν, v.den ν = .int .i64 k := by
  unfold retW9 at h
  split at h
  · obtain ⟨rfl, h⟩ := h
    exact ⟨h, rfl, fun ν => rfl⟩
  · exact h.elim
/-- Two slices of words of the old memory, compared. -/
def words9S : Smry Try.prog E where
  g := 59
  run := fun args m K => match args with
    | [.c (.sliv a _ n _), .c (.sliv b _ k _)] => match m.hp.get 0 with
      | some (.seen W) => (((0 < n → a.isSome = true) ∧ (∀ j, j < n → Seen .u64 W (addOpt a j)) ∧ n ≤ 1000000000) ∧ (0 < k → b.isSome = true) ∧ ∀ j, j < k → Seen .u64 W (addOpt b j)) ∧ K (.c (.int false .i64 (weqF n (sfF W a) k (sfF W b)))) m
      | _ => Stuck 689
    | _ => Stuck 690
  ok := fun args m K hr => by
    split at hr <;> try exact hr.elim
    rename_i a la n c b lb k d
    split at hr <;> try exact hr.elim
    rename_i W hW
    obtain ⟨hc, hr⟩ := hr
    intro ν w R w0 H HK
    have ea : [SV.c (.sliv a la n c), .c (.sliv b lb k d)].map (SV.den ν) = [SV.c (.sliv a false n c), .c (.sliv b false k d)].map (SV.den ν) := rfl
    rw [ea]
    refine (seen_calls (words9_run W a b n c k d hc) (fun v m h => ⟨W, (retW9_den h).1, (retW9_den h).2.1⟩) (fun y hy => ?_) hW H HK).mono ?_
    · simp only [List.mem_cons, List.not_mem_nil, or_false] at hy; rcases hy with rfl | rfl <;> rfl
    · rintro e w' ⟨v, m', W', hv, hW', he, hs, hk⟩
      obtain ⟨h1, _, hd⟩ := retW9_den hv
      rw [h1] at hW'
      cases hW'
      rw [set_same _ hW] at hs
      exact ⟨_, m, ν, hr, Agree.refl _ _, Nat.le_refl _, by rw [he, hd]; rfl, hs, hk⟩
/-- The document's entries, put with the old memory. -/
def rlist9F : Smry Try.prog E where
  g := 58
  run := fun args m K => match args with
    | [.agg l, .c (.int _ .u64 cur _)] => match m.hp.get 0, d3Of l with
      | some (.seen W), some (_, L) => match L with
        | .sliv a _ len _ => ∃ bs, (BlkRow W a len bs ∧ len ≤ 1000000 ∧ 0 ≤ cur ∧ cur < 18446744073709551616) ∧
            ∀ W' a1 k c1 a2 c2, Grow W W' → EntAt W' a1 k ((chainF bs 1001 cur.toNat []).getD []) → CurAt W' a2 k ((chainF bs 1001 cur.toNat []).getD []) →
              K (.tup [(false, [.sliv a1 false k c1]), (false, [.sliv a2 false k c2]), (false, [.boo false (chainF bs 1001 cur.toNat []).isSome])]) ⟨m.hp.set 0 (.seen W'), m.nx⟩
        | _ => Stuck 686
      | _, _ => Stuck 687
    | _ => Stuck 688
  ok := fun args m K hr => by
    split at hr <;> try exact hr.elim
    rename_i l lh cur bh
    split at hr <;> try exact hr.elim
    rename_i W x L hW hl
    obtain ⟨hd, hnm⟩ := d3Of_sound hl
    split at hr <;> try exact hr.elim
    rename_i a ll len cp
    obtain ⟨bs, ⟨hrow, hlen, hc0, hc1⟩, hk⟩ := hr
    obtain ⟨c, rfl⟩ : ∃ c : Nat, cur = c := ⟨cur.toNat, by omega⟩
    simp only [Int.toNat_natCast] at hk
    intro ν w R w0 H HK
    have ea : [SV.agg l, .c (.int lh .u64 (c : Int) bh)].map (SV.den ν) = [SV.agg (d3C x (.sliv a false len cp)), .c (.int false .u64 (c : Int))].map (SV.den ν) := by
      have e1 : SC.denL ν l = SC.denL ν (d3C x (.sliv a false len cp)) := (hd ν).trans (by simp only [d3C, SC.denL, SC.den])
      simp only [List.map_cons, List.map_nil, SV.den, e1, SC.den]
    rw [ea]
    have H1 := H
    rw [SH.den_get ν hW, Assn.mul_assoc] at H1
    have H2 : Sat w ((⟨[(0, .seen W)], 100⟩ : Mem XV).hp.den ν * ((m.hp.del 0).den ν * R)) := by
      refine H1.cast ?_
      simp only [SH.den, SO.den]
      rw [Assn.mul_comm (seenA W) (1 : Assn), Assn.one_mul]
    refine (callN_ok namesOk mixed _ _ _ _ _ _ ⟨[(0, .seen W)], 100⟩ _ _ (rlist9_run W x a len cp bs c ⟨hrow, hlen, by unfold TW; omega⟩).out ν w _ w0 H2 HK).mono ?_
    rintro e w' ⟨v, m', s', ξ, hp, _, _, he, hs, hk'⟩
    unfold rlP at hp
    split at hp
    · rename_i pr lb b
      obtain ⟨hch, ho⟩ := hp
      obtain ⟨κ, ag, hv, hs⟩ := outM_sound ho hs
      have hs2 : Sat w' ((m.hp.set 0 (.seen W)).den ν * R) := by
        rw [SH.den_set ν hW, Assn.mul_assoc]
        refine hs.cast ?_
        simp only [SH.den, SO.den]
        rw [Assn.mul_comm (seenA W) (1 : Assn), Assn.one_mul]
      have e1 : (chainF bs 1001 c []).getD [] = [] ∧ (chainF bs 1001 c []).isSome = b := by rw [hch]; cases b <;> exact ⟨rfl, rfl⟩
      refine ⟨_, _, ν, hk W none 0 0 none 0 (Grow.refl W) (by rw [e1.1]; exact ⟨rfl, fun h => absurd h (Nat.lt_irrefl 0), fun j u h => by simp [ecells, valsOf] at h⟩) (by rw [e1.1]; exact ⟨rfl, fun h => absurd h (Nat.lt_irrefl 0), fun j u h => by simp [ccells, intsOf] at h⟩), Agree.refl _ _, Nat.le_refl _, ?_, hs2, hk'⟩
      rw [he, hv, e1.2]
      rfl
    · obtain ⟨s, hch, ho⟩ := hp
      obtain ⟨κ, ag, hv, hs⟩ := outM_sound ho hs
      have hs2 : Sat w' (Assn.pure (∀ i, i < s.l.length → (entV s.l i).length = 3) * (seenA W * (rowHead (κ 10) 119 3 s.l.length s.cap1 (ecells s.l) * (rowHead (κ 11) 25 1 s.l.length s.cap2 (ccells s.l) * ((m.hp.del 0).den ν * R))))) := by
        refine hs.cast ?_
        simp only [SH.den, SO.den, rows9, ecells, ccells]
        rw [Assn.mul_comm _ (1 : Assn), Assn.one_mul]
        ac_rfl
      obtain ⟨W1, g1, c1, _, hs3⟩ := head_frz hs2.pure_mul.2
      obtain ⟨W2, g2, c2, _, hs4⟩ := head_frz hs3
      have e1 : (chainF bs 1001 c []).getD [] = s.l ∧ (chainF bs 1001 c []).isSome = true := by rw [hch]; exact ⟨rfl, rfl⟩
      refine ⟨_, _, ν, hk W2 (some ⟨κ 10, 0, none⟩) s.l.length s.cap1 (some ⟨κ 11, 0, none⟩) s.cap2 (g1.trans g2) (by rw [e1.1]; exact ⟨rfl, fun _ => rfl, fun j u h => (c1 j u h).grow g2⟩) (by rw [e1.1]; exact ⟨rfl, fun _ => rfl, c2⟩), Agree.refl _ _, Nat.le_refl _, ?_, ?_, hk'⟩
      · rw [he, hv, e1.2]
        simp only [SV.den, List.map_cons, List.map_nil, partDen, SC.den, Nat.zero_mul]
      · rw [SH.den_set ν hW, Assn.mul_assoc]
        exact hs4
end
end Go.Proofs.Ytnfpkadepomjjaa
