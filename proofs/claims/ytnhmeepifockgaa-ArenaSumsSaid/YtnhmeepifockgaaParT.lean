/- Arenas told by what they hold (module Par): copies; comparisons; the first blocks; the fixed words. -/
import Derived.Test.YtnhmeepifockgaaBaseSamS
set_option linter.all false
namespace Go.Proofs.Ytnhmeepifockgaa
open Go Go.RowKit
set_option maxRecDepth 100000

theorem blksOf_key (z : Nat → Value) : ∀ (l : List (Nat × Nat × List Nat)) (i : Nat), (blksOf z i l).map key3 = l
  | [], _ => rfl
  | (n, h, ws) :: l, i => by simp only [blksOf, List.map_cons, blksOf_key z l, key3]
theorem key_blksOf : ∀ (bs : List Blk) (i : Nat), ∃ z, bs = blksOf z i (bs.map key3)
  | [], _ => ⟨fun _ => undef, rfl⟩
  | b :: l, i => by
    obtain ⟨z, hz⟩ := key_blksOf l (i + 1)
    refine ⟨fun j => if j = i then b.v else z j, ?_⟩
    simp only [List.map_cons, key3, blksOf, if_true]
    congr 1
    have e : blksOf (fun j => if j = i then b.v else z j) (i + 1) (l.map key3) = blksOf z (i + 1) (l.map key3) := blksOf_congr fun j hj => by rw [if_neg (by omega)]
    exact hz.trans e.symm
theorem inv_back {x : PA} (h : PA.Inv x) : x.bk.length ≤ 60000 := by
  obtain ⟨z, hi⟩ := h
  have h1 := hi.high
  have h2 := hi.hmax
  have : (x.ar z).s.back.length = x.bk.length := rfl
  omega
/-- A copy: the blocks in whatever order. -/
def cloneR : Smry Try.prog XP where
  g := 62
  run := fun args m K => match args with
    | [.c (.ptr n 0)] => match m.hp.get n with
      | some (.ext (.obj [] x)) => bif !(m.hp.names.contains m.nx) then (PA.Inv x → ∀ l : List (Nat × Nat × List Nat), l.Perm (PA.bs x) → K (.c (.ptr m.nx 0)) (withNew m (parO { x with bs := l }))) else Stuck 970
      | _ => Stuck 971
    | _ => Stuck 972
  ok := fun args m K hr => by
    split at hr <;> try exact hr.elim
    rename_i n
    split at hr <;> try exact hr.elim
    rename_i x hx
    cases hb : !(m.hp.names.contains m.nx) <;> rw [hb] at hr
    · exact hr.elim
    simp only [cond_true] at hr
    intro ν w R w0 H HK
    have hn : ∀ y : PA, newOk m (parO y) = true := fun y => by
      unfold newOk
      rw [hb]; rfl
    rw [SH.den_get ν hx, Assn.mul_assoc] at H
    have hinv := par_inv H
    obtain ⟨z, H⟩ := par_open H
    obtain ⟨_, _, hi, _⟩ := arAt_open H
    have hbk := inv_back hinv
    refine (ar_clone (ν n) (x.ar z) w H (by show x.bk.length ≤ 70000; omega)).mono ?_
    rintro e w' ⟨q, bs, he, hp, hs, hk⟩
    have hp2 : (bs.map key3).Perm (PA.bs x) := by
      have := hp
      rw [show (PA.ar x z).bs = blksOf z 0 x.bs from rfl, blksOf_key] at this
      exact this
    refine ⟨_, _, upd ν m.nx q, hr hinv (bs.map key3) hp2, Agree.upd (Nat.le_refl _) _, Nat.le_succ _, by rw [he]; simp [SV.den, SC.den, upd_same], ?_, HK.trans hk⟩
    obtain ⟨z', hz⟩ := key_blksOf bs 0
    have hs1 : Sat w' (arAt q ((({ x with bs := bs.map key3 } : PA)).ar z') * (m.hp.den ν * R)) := by
      rw [SH.den_get ν hx, Assn.mul_assoc]
      have hs2 : Sat w' (arAt q ((({ x with bs := bs.map key3 } : PA)).ar z') * (arAt (ν n) (x.ar z) * ((m.hp.del n).den ν * R))) := by
        have hinv2 := clone_inv hi hp
        refine hs.mono fun y hy => ?_
        obtain ⟨d, hd⟩ := hy
        refine ⟨d, Part.none, y, Part.apart_none _, rfl, ⟨?_, rfl⟩, ?_⟩
        · have e : ((({ x with bs := bs.map key3 } : PA)).ar z') = { (x.ar z) with bs := bs } := by
            unfold PA.ar
            simp only []
            rw [← hz]
          rw [e]
          exact hinv2
        · have e : ((({ x with bs := bs.map key3 } : PA)).ar z').bs = bs := hz.symm
          rw [e]
          exact hd
      have hs3 := hs2.swap
      exact (par_shut hs3).swap
    exact withNew_sat (hn _) (par_shut hs1)
def alikeP (x y : PA) : Bool := ((List.range 9).all fun i => x.fx.getD i 0 == y.fx.getD i 0) && ((x.bs.length == y.bs.length) && x.bs.all fun a => y.bs.any fun b => a == b)
theorem alikeP_perm {x : PA} {l : List (Nat × Nat × List Nat)} (h : l.Perm x.bs) : alikeP x { x with bs := l } = true := by
  unfold alikeP
  simp only [Bool.and_eq_true, List.all_eq_true, beq_iff_eq, List.any_eq_true]
  exact ⟨fun i _ => trivial, h.length_eq.symm, fun a ha => ⟨a, h.mem_iff.2 ha, rfl⟩⟩
theorem blks_ok {A : Ar} (hi : ArInv A) : BlksOk A.bs where
  ws := fun b hb => by have := hi.range b hb; omega
  nd := hi.apart
  len := by
    have h1 := hi.high
    have h2 := hi.hmax
    omega
theorem sameBs_P (z z' : Nat → Value) (l l' : List (Nat × Nat × List Nat)) : sameBs (blksOf z 0 l) (blksOf z' 0 l') = ((l.length == l'.length) && l.all fun a => l'.any fun b => a == b) := by
  unfold sameBs
  rw [blksOf_len, blksOf_len]
  congr 1
  have e1 : ∀ (f : (Nat × Nat × List Nat) → Bool), ((blksOf z 0 l).all fun a => f (key3 a)) = l.all f := fun f => by
    conv => rhs; rw [← blksOf_key z l 0]
    rw [List.all_map]
    rfl
  have e2 : ∀ (f : (Nat × Nat × List Nat) → Bool), ((blksOf z' 0 l').any fun a => f (key3 a)) = l'.any f := fun f => by
    conv => rhs; rw [← blksOf_key z' l' 0]
    rw [List.any_map]
    rfl
  rw [← e1]
  congr 1
  funext a
  exact e2 fun b => key3 a == b
theorem ar_same (p q : Nat) (A B : Ar) (w : World) {R : Assn} (H : Sat w (arAt p A * (arAt q B * R))) :
    Calls Try.prog 63 #[.pointer (some ⟨p, 0, none⟩), .pointer (some ⟨q, 0, none⟩)] w fun e w' => e = .returned (.bool (((List.range 9).all fun i => A.fixed i == B.fixed i) && sameBs A.bs B.bs)) ∧ Sat w' (arAt p A * (arAt q B * R)) ∧ Kept w w' := by
  obtain ⟨ps, pb, hi, H1⟩ := arAt_open H
  have H1' := H1.cast (Q := arAt q B * (own p (.cells (arCells A ps pb) 198 (0, 0)) * (stkAt ps A.s * (mapAt pb (A.bs.map ent) * (rowsAt A.bs * R))))) (by ac_rfl)
  obtain ⟨qs, qb, hj, H2⟩ := arAt_open H1'
  have oA := blks_ok hi
  have oB := blks_ok hj
  let ν : Nat → Nat := fun i => match i with | 0 => p | 1 => pb | 2 => q | _ => qb
  have H3 : Sat w ((SH.den (E := XB) ν [(0, .cells [.raw ((arCells A ps pb).getD 0 undef), .raw ((arCells A ps pb).getD 1 undef), .raw ((arCells A ps pb).getD 2 undef), .raw ((arCells A ps pb).getD 3 undef), .raw ((arCells A ps pb).getD 4 undef), .int false .u64 (A.fixed 0 : Nat), .int false .u64 (A.fixed 1 : Nat), .int false .u64 (A.fixed 2 : Nat), .int false .u64 (A.fixed 3 : Nat), .int false .u64 (A.fixed 4 : Nat), .int false .u64 (A.fixed 5 : Nat), .int false .u64 (A.fixed 6 : Nat), .int false .u64 (A.fixed 7 : Nat), .int false .u64 (A.fixed 8 : Nat), .raw ((arCells A ps pb).getD 14 undef), .map 1, .raw ((arCells A ps pb).getD 16 undef), .raw ((arCells A ps pb).getD 17 undef), .raw ((arCells A ps pb).getD 18 undef), .raw ((arCells A ps pb).getD 19 undef), .raw ((arCells A ps pb).getD 20 undef), .raw ((arCells A ps pb).getD 21 undef)] 198), (1, .ext (E := XB) A.bs),
      (2, .cells [.raw ((arCells B qs qb).getD 0 undef), .raw ((arCells B qs qb).getD 1 undef), .raw ((arCells B qs qb).getD 2 undef), .raw ((arCells B qs qb).getD 3 undef), .raw ((arCells B qs qb).getD 4 undef), .int false .u64 (B.fixed 0 : Nat), .int false .u64 (B.fixed 1 : Nat), .int false .u64 (B.fixed 2 : Nat), .int false .u64 (B.fixed 3 : Nat), .int false .u64 (B.fixed 4 : Nat), .int false .u64 (B.fixed 5 : Nat), .int false .u64 (B.fixed 6 : Nat), .int false .u64 (B.fixed 7 : Nat), .int false .u64 (B.fixed 8 : Nat), .raw ((arCells B qs qb).getD 14 undef), .map 3, .raw ((arCells B qs qb).getD 16 undef), .raw ((arCells B qs qb).getD 17 undef), .raw ((arCells B qs qb).getD 18 undef), .raw ((arCells B qs qb).getD 19 undef), .raw ((arCells B qs qb).getD 20 undef), .raw ((arCells B qs qb).getD 21 undef)] 198), (3, .ext (E := XB) B.bs)]) * (stkAt ps A.s * (stkAt qs B.s * R))) := by
    refine H2.cast ?_
    show _ = (own p (.cells (arCells A ps pb) _ (0, 0)) * ((mapAt pb (A.bs.map ent) * rowsAt A.bs) * (own q (.cells (arCells B qs qb) _ (0, 0)) * ((mapAt qb (B.bs.map ent) * rowsAt B.bs) * 1)))) * _
    rw [Assn.mul_one]
    ac_rfl
  refine (callN_ok namesOk mixed _ _ _ _ _ _ _ _ _ (asame_run A.fixed B.fixed (fun i => (arCells A ps pb).getD i undef) (fun i => (arCells B qs qb).getD i undef) A.bs B.bs ⟨oA, oB⟩).out ν w _ w H3 (Kept.refl w)).mono ?_
  rintro e w' ⟨v, m', s', ξ, ho, ag, _, he, hs, hk⟩
  obtain ⟨κ, agk, hv, hs⟩ := outM_sound ho hs
  have k0 : κ 0 = p := by rw [agk 0 (by decide), ag 0 (by show 0 < 100; decide)]; rfl
  have k1 : κ 1 = pb := by rw [agk 1 (by decide), ag 1 (by show 1 < 100; decide)]; rfl
  have k2 : κ 2 = q := by rw [agk 2 (by decide), ag 2 (by show 2 < 100; decide)]; rfl
  have k3 : κ 3 = qb := by rw [agk 3 (by decide), ag 3 (by show 3 < 100; decide)]; rfl
  refine ⟨by rw [he, hv]; rfl, ?_, hk⟩
  refine arAt_shut (ps := ps) (pb := pb) hi ?_
  have hs4 : Sat w' (own q (.cells (arCells B qs qb) 198 (0, 0)) * (stkAt qs B.s * (mapAt qb (B.bs.map ent) * (rowsAt B.bs * (own p (.cells (arCells A ps pb) 198 (0, 0)) * (stkAt ps A.s * (mapAt pb (A.bs.map ent) * (rowsAt A.bs * R)))))))) := by
    refine hs.cast ?_
    simp only [SH.den, SO.den, SC.denL, SC.den, k0, k1, k2, k3]
    rw [Assn.mul_comm _ (1 : Assn), Assn.one_mul]
    show (own p (.cells (arCells A ps pb) _ (0, 0)) * ((mapAt pb (A.bs.map ent) * rowsAt A.bs) * (own q (.cells (arCells B qs qb) _ (0, 0)) * (mapAt qb (B.bs.map ent) * rowsAt B.bs)))) * _ = _
    ac_rfl
  have hs5 := arAt_shut (ps := qs) (pb := qb) hj hs4
  exact hs5.cast (by ac_rfl)
def sameR : Smry Try.prog XP where
  g := 63
  run := fun args m K => match args with
    | [.c (.ptr a 0), .c (.ptr b 0)] => match m.hp.get a with
      | some (.ext (.obj [] x)) => match (m.hp.del a).get b with
        | some (.ext (.obj [] y)) => K (.c (.boo false (alikeP x y))) m
        | _ => Stuck 973
      | _ => Stuck 974
    | _ => Stuck 975
  ok := fun args m K hr => by
    split at hr <;> try exact hr.elim
    rename_i a b
    split at hr <;> try exact hr.elim
    rename_i x hx
    split at hr <;> try exact hr.elim
    rename_i y hy
    intro ν w R w0 H HK
    have H0 := H
    rw [SH.den_get ν hx, SH.den_get ν hy, Assn.mul_assoc, Assn.mul_assoc] at H0
    obtain ⟨z, H1⟩ := par_open H0
    have H1 := H1.swap
    obtain ⟨z', H2⟩ := par_open H1
    have H2 := H2.swap
    refine (ar_same (ν a) (ν b) (x.ar z) (y.ar z') w H2).mono fun e w' ⟨he, hs, hk⟩ => ?_
    refine ⟨_, m, ν, hr, Agree.refl _ _, Nat.le_refl _, ?_, ?_, HK.trans hk⟩
    · rw [he]
      have e : (((List.range 9).all fun i => (PA.ar x z).fixed i == (PA.ar y z').fixed i) && sameBs (PA.ar x z).bs (PA.ar y z').bs) = alikeP x y := by
        rw [show (PA.ar x z).bs = blksOf z 0 (PA.bs x) from rfl, show (PA.ar y z').bs = blksOf z' 0 (PA.bs y) from rfl, sameBs_P]
        rfl
      rw [e]
      rfl
    · rw [SH.den_get ν hx, SH.den_get ν hy, Assn.mul_assoc, Assn.mul_assoc]
      have h3 := par_shut (ν := ν) hs.swap
      exact par_shut (ν := ν) h3.swap
theorem allOf_permP {A : Ar} (hi : ArInv A) : (allOf A).Perm (A.bs.map fun b => (b.h, b.ws)) := by
  have h1 : (allOf A).Perm ((A.bs.map fun b => (b.n : Int)).map (blkOf A.bs)) := (List.mergeSort_perm _ _).map _
  refine h1.trans (List.Perm.of_eq ?_)
  rw [List.map_map]
  refine List.map_congr_left fun b hb => ?_
  simp only [Function.comp, blkOf, find_n hi.apart hb]
/-- What is seen of listed blocks: their handles, how many words they have. -/
def blkV (l : List (Nat × List Nat)) (z : Nat → Option Addr × Nat) (i : Nat) : List Value := [.int .u64 ((l.getD i (0, [])).1 : Nat), .slice (z i).1 (l.getD i (0, [])).2.length (z i).2]
theorem bcells_vals : ∀ (xs : List (Nat × List Nat × Value)), (∀ y ∈ xs, ∃ a c, y.2.2 = .slice a y.2.1.length c) → ∃ z, bcells xs = valsOf xs.length (blkV (xs.map keyB) z)
  | [], _ => ⟨fun _ => (none, 0), rfl⟩
  | y :: xs, h => by
    obtain ⟨z, hz⟩ := bcells_vals xs fun y hy => h y (by simp [hy])
    obtain ⟨a, c, e⟩ := h y (by simp)
    refine ⟨fun i => match i with | 0 => (a, c) | i + 1 => z i, ?_⟩
    unfold valsOf
    rw [List.length_cons, List.range_succ_eq_map, List.flatMap_cons, List.flatMap_map]
    have e1 : bcells (y :: xs) = [.int .u64 y.1, y.2.2] ++ bcells xs := rfl
    rw [e1, hz, e]
    congr 1
/-- The first blocks of an arena, in some order: so many, their handles, how many words they have. -/
def BlkList (x : PA) (most : Int) (q : Nat) (hf : Nat → Int) (nf : Nat → Nat) : Prop := ∃ l : List (Nat × List Nat), l.Perm (x.bs.map fun b => b.2) ∧ q = (l.take most.toNat).length ∧ ∀ i, i < q → hf i = ((l.getD i (0, [])).1 : Nat) ∧ nf i = (l.getD i (0, [])).2.length
def blkW (hf : Nat → Int) (nf : Nat → Nat) (z : Nat → Option Addr × Nat) (i : Nat) : List Value := [.int .u64 (hf i), .slice (z i).1 (nf i) (z i).2]
theorem blkList_of {x : PA} {L : List (Nat × List Nat)} {most : Int} {xs : List (Nat × List Nat × Value)} (hp : L.Perm (x.bs.map fun b => b.2)) (hxs : xs.map keyB = L.take most.toNat) :
    BlkList x most xs.length (fun i => (((xs.map keyB).getD i (0, [])).1 : Nat)) (fun i => ((xs.map keyB).getD i (0, [])).2.length) := by
  have hlen : (L.take most.toNat).length = xs.length := by rw [← hxs, List.length_map]
  refine ⟨L, hp, hlen.symm, fun i hi => ?_⟩
  simp only [hxs]
  have hit : i < most.toNat := by
    have := hlen
    rw [List.length_take] at this
    omega
  have e1 : (L.take most.toNat).getD i (0, []) = L.getD i (0, []) := by
    rw [List.getD_eq_getElem?_getD, List.getD_eq_getElem?_getD, List.getElem?_take, if_pos hit]
  rw [e1]
  exact ⟨rfl, rfl⟩
def blocksR : Smry Try.prog XP where
  g := 89
  run := fun args m K => match args with
    | [.c (.ptr n 0), .c (.int _ .i64 most _)] => match m.hp.get n with
      | some (.ext (.obj [] x)) => PA.Inv x → ∀ (q : Nat) (hf : Nat → Int) (nf : Nat → Nat), BlkList x most q hf nf → (q = 0 → K (.c .nls) m) ∧
          (∀ (cap : Nat) (z : Nat → Option Addr × Nat), q ≤ cap →
            bif newOk (E := XP) m (.vals 164 2 q cap (blkW hf nf z)) then
              K (.c (.sli m.nx 2 true 0 false q cap)) (withNew m (.vals 164 2 q cap (blkW hf nf z))) else Stuck 976)
      | _ => Stuck 977
    | _ => Stuck 978
  ok := fun args m K hr => by
    split at hr <;> try exact hr.elim
    rename_i n _ most _
    split at hr <;> try exact hr.elim
    rename_i x hx
    intro ν w R w0 H HK
    have H0 := H
    rw [SH.den_get ν hx, Assn.mul_assoc] at H0
    have hinv := par_inv H0
    obtain ⟨z, H1⟩ := par_open H0
    obtain ⟨_, _, hi, _⟩ := arAt_open H1
    have hbk := inv_back hinv
    refine (blocks_calls (ν n) (x.ar z) most w H1 (by show x.bk.length ≤ 70000; omega)).mono ?_
    rintro e w' ⟨hk', v, xs, he, hxs, hoks, hs⟩
    have hperm : (allOf (PA.ar x z)).Perm ((PA.bs x).map fun b => b.2) := by
      refine (allOf_permP hi).trans (List.Perm.of_eq ?_)
      have e1 : (PA.bs x) = (PA.ar x z).bs.map key3 := (blksOf_key z x.bs 0).symm
      rw [e1, List.map_map]
      rfl
    have hlen : ((allOf (PA.ar x z)).take most.toNat).length = xs.length := by rw [← hxs, List.length_map]
    have hbl := blkList_of hperm hxs
    obtain ⟨h0, h1⟩ := hr hinv _ _ _ hbl
    obtain ⟨hl, ⟨rfl, hn0, hs2⟩ | ⟨g, cap, cur, rfl, c2, c3, c4, c5, hs2⟩⟩ := rowK_open hs
    · refine ⟨_, m, ν, h0 hn0, Agree.refl _ _, Nat.le_refl _, he, ?_, HK.trans hk'⟩
      rw [SH.den_get ν hx, Assn.mul_assoc]
      exact par_shut hs2
    · obtain ⟨zz, hz⟩ := bcells_vals xs hoks
      have hz : bcells xs = valsOf xs.length (blkW (fun i => (((xs.map keyB).getD i (0, [])).1 : Nat)) (fun i => ((xs.map keyB).getD i (0, [])).2.length) zz) := hz
      have hk2 := h1 cap zz c2
      generalize (fun i => ((((xs.map keyB).getD i (0, [])).1 : Nat) : Int)) = hf at *
      generalize (fun i => ((xs.map keyB).getD i (0, [])).2.length) = nf at *
      cases hb : newOk (E := XP) m (.vals 164 2 xs.length cap (blkW hf nf zz)) <;> rw [hb] at hk2
      · exact hk2.elim
      simp only [cond_true] at hk2
      refine ⟨_, _, upd ν m.nx g, hk2, Agree.upd (Nat.le_refl _) _, Nat.le_succ _, ?_, ?_, HK.trans hk'⟩
      · rw [he]
        simp [SV.den, SC.den, upd_same]
      · refine withNew_sat hb ?_
        rw [SH.den_get ν hx, Assn.mul_assoc]
        simp only [SO.den]
        rw [Assn.mul_assoc]
        refine Sat.mk_pure_mul (fun i _ => rfl) ?_
        refine Sat.mk_ex_mul cur ?_
        rw [Assn.mul_assoc]
        refine Sat.mk_pure_mul ⟨?_, c2, c3, c4, ?_⟩ ?_
        · rw [← hz]; exact hl
        · rw [← hz]; exact c5
        · exact (par_shut hs2.swap).swap
def blocksK : Smry Try.prog XP where
  g := 89
  run := fun args m K => match args with
    | [.c (.ptr n 0), .c (.int l .i64 most bd)] => match m.hp.get n with
      | some (.ext (.obj [] x)) => match PA.bs x with
        | [] => K (.c .nls) m ∧ ∀ (cap : Nat) (hf : Nat → Int) (nf : Nat → Nat) (z : Nat → Option Addr × Nat), bif newOk (E := XP) m (.vals 164 2 0 cap (blkW hf nf z)) then
              K (.c (.sli m.nx 2 true 0 true 0 cap)) (withNew m (.vals 164 2 0 cap (blkW hf nf z))) else Stuck 976
        | _ => Stuck 979
      | _ => Stuck 977
    | _ => Stuck 978
  ok := fun args m K hr => by
    split at hr <;> try exact hr.elim
    rename_i n l most bd
    split at hr <;> try exact hr.elim
    rename_i x hx
    split at hr <;> try exact hr.elim
    rename_i hbs
    have hrun : blocksR.run [.c (.ptr n 0), .c (.int l .i64 most bd)] m (fun v m' => ∃ u, K u m' ∧ ∀ ν, u.den ν = v.den ν) := by
      show (match m.hp.get n with
        | some (.ext (.obj [] x)) => _
        | _ => _)
      rw [hx]
      intro _ q hf nf hq
      obtain ⟨l', hl', hq, _⟩ := hq
      rw [hbs] at hl'
      have : l' = [] := hl'.eq_nil
      subst this
      have hq : q = 0 := by rw [hq]; simp
      subst hq
      refine ⟨fun _ => ⟨_, hr.1, fun _ => rfl⟩, fun cap z _ => ?_⟩
      have h2 := hr.2 cap hf nf z
      cases hb : newOk (E := XP) m (.vals 164 2 0 cap (blkW hf nf z)) <;> rw [hb] at h2
      · exact h2.elim
      · exact ⟨_, h2, fun _ => rfl⟩
    intro ν w R w0 H HK
    exact (blocksR.ok _ m _ hrun ν w R w0 H HK).mono fun e w' ⟨v, m', μ, ⟨u, hu, hd⟩, a, b, c, d⟩ => ⟨u, m', μ, hu, a, b, by rw [hd]; exact c, d⟩
/-- The fixed words. -/
theorem ar_words (p : Nat) (A : Ar) (w : World) {R : Assn} (H : Sat w (arAt p A * R)) :
    Calls Try.prog 173 #[.pointer (some ⟨p, 0, none⟩)] w fun e w' => ∃ v, e = .returned v ∧ Sat w' (rowAt 25 v (u64s ((List.range 9).map A.fixed)) * (arAt p A * R)) ∧ Kept w w' := by
  obtain ⟨ps, pb, hi, H1⟩ := arAt_open H
  have hp := H1.lt
  have hc : ∀ j u, (u64s ((List.range 9).map A.fixed))[j]? = some u → w.cell? ((⟨p, 5, none⟩ : Addr).add j) = some u := fun j u hj => by
    have hj9 : j < 9 := by
      rcases Nat.lt_or_ge j 9 with h | h
      · exact h
      · rw [List.getElem?_eq_none (by simp [u64s]; exact h)] at hj; cases hj
    have e : ((⟨p, 5, none⟩ : Addr).add j) = ⟨p, 5 + j, none⟩ := by (by_cases h0 : j = 0) <;> simp [Addr.add, h0]
    rw [e]
    refine (H1.cell (5 + j)).trans ((fixed_cell A ps pb hj9).trans ?_)
    rw [← hj]
    simp [u64s, hj9]
  have HC := Lib.hid (clone_any ⟨p, 5, none⟩ 9 ((List.range 9).map A.fixed) 9 w H (by simp) hc (by omega) (by omega) hp)
  clear H H1 hc
  go_enter Try.func173, Try.ntmps173
  go_wp2_with fail
  refine (HC.out).mono ?_; rintro e w1 ⟨v, rfl, hs, hb⟩
  have Hs := Lib.hid hs
  have hk := (Kept.refl w).below hb
  clear hs hb HC
  go_wp2
  go_ret
  exact ⟨_, rfl, Hs.out, hk⟩
def wordsR : Smry Try.prog XP where
  g := 173
  run := fun args m K => match args with
    | [.c (.ptr n 0)] => match m.hp.get n with
      | some (.ext (.obj [] x)) => ∀ cap, 9 ≤ cap → (bif newOk (E := XP) m (.ints 25 .u64 9 cap (fun i => ((PA.fx x).getD i 0 : Nat))) then K (.c (.sli m.nx 1 true 0 true 9 cap)) (withNew m (.ints 25 .u64 9 cap (fun i => ((PA.fx x).getD i 0 : Nat)))) else Stuck 980)
      | _ => Stuck 981
    | _ => Stuck 982
  ok := fun args m K hr => by
    split at hr <;> try exact hr.elim
    rename_i n
    split at hr <;> try exact hr.elim
    rename_i x hx
    intro ν w R w0 H HK
    rw [SH.den_get ν hx, Assn.mul_assoc] at H
    obtain ⟨z, H⟩ := par_open H
    refine (ar_words (ν n) (x.ar z) w H).mono fun e w' ⟨v, he, hs, hk⟩ => ?_
    have hlen : (u64s ((List.range 9).map (PA.ar x z).fixed)).length = 9 := by simp [u64s]
    rcases rowAt_open hs with ⟨_, h0, _⟩ | ⟨g, cap, cur, rfl, c2, c3, c4, c5, hs2⟩
    · rw [h0] at hlen; simp at hlen
    · rw [hlen] at hs c2 c5 he
      have h2 := hr cap c2
      cases hb : newOk (E := XP) m (.ints 25 .u64 9 cap (fun i => ((PA.fx x).getD i 0 : Nat))) <;> rw [hb] at h2
      · exact h2.elim
      simp only [cond_true] at h2
      refine ⟨_, _, upd ν m.nx g, h2, Agree.upd (Nat.le_refl _) _, Nat.le_succ _, ?_, ?_, HK.trans hk⟩
      · rw [he]
        simp [SV.den, SC.den, upd_same]
      · refine withNew_sat hb ?_
        have e1 : intsOf .u64 9 (fun i => ((PA.fx x).getD i 0 : Nat)) = u64s ((List.range 9).map (PA.ar x z).fixed) := rfl
        simp only [SO.den]
        rw [e1]
        have hs3 := rowAt_head hlen hs
        refine (par_shut (ν := ν) hs3.swap).swap.cast ?_
        rw [SH.den_get ν hx, Assn.mul_assoc]
theorem arenaNew_err (c : Int) (w : World) (h : c < 0 ∨ 60000 < c) : Calls Try.prog 44 #[.int .i64 c] w fun e w' => e = .returned (.tuple #[.pointer none, .int .i64 2]) ∧ w = w' := by
  rcases h with h | h
  · have hd : decide (c < 0) = true := by simpa using h
    go_enter Try.func44, Try.ntmps44
    go_wp2
    go_ret2
    exact ⟨rfl, rfl⟩
  · have hd : decide (c < 0) = false := by simp; omega
    have hd2 : decide (60000 < c) = true := by simpa using h
    go_enter Try.func44, Try.ntmps44
    go_wp2
    go_ret2
    exact ⟨rfl, rfl⟩
/-- A new arena, or none. -/
def newG : Smry Try.prog XP where
  g := newX.g
  run := fun args m K => match args with
    | [.c (.int l .i64 c bd)] => (0 ≤ c ∧ c ≤ 60000 → (bif newOk m (parO (PA.new c.toNat)) then K (.tup [(false, [.ptr m.nx 0]), okE]) (withNew m (parO (PA.new c.toNat))) else Stuck 983)) ∧
        (c < 0 ∨ 60000 < c → K (.tup [(false, [.raw (.pointer none)]), (false, [.int true .i64 2])]) m)
    | _ => Stuck 984
  ok := fun args m K hr => by
    split at hr <;> try exact hr.elim
    rename_i l c bd
    by_cases h : 0 ≤ c ∧ c ≤ 60000
    · refine newQ.ok [.c (.int l .i64 c bd)] m K ⟨h, ?_⟩
      have h2 := hr.1 h
      cases hb : newOk m (parO (PA.new c.toNat)) <;> rw [hb] at h2
      · exact h2.elim
      · exact h2
    · intro ν w R w0 H HK
      refine (arenaNew_err c w (by omega)).mono fun e w' ⟨he, hw⟩ => ?_
      subst hw
      exact ⟨_, m, ν, hr.2 (by omega), Agree.refl _ _, Nat.le_refl _, he, H, HK⟩
end Go.Proofs.Ytnhmeepifockgaa
