/- Blocks laid into an arena, and into the document's. -/
import Derived.Test.YtnfpkadepomjjaaBaseDoc
import Derived.Test.YtnfpkadepomjjaaBaseParL
set_option linter.all false
namespace Go.Proofs.Ytnfpkadepomjjaa
open Go Go.RowKit
set_option maxRecDepth 1000000
set_option maxHeartbeats 0
/-- An arena and the document's, where nothing was freed: they have the same blocks, in the order in which they were laid. -/
structure Twin0 (x : PA) (d : D3) (bs : List (Nat × List Nat)) : Prop where
  same : bs = x.bs.map fun b => b.2
  bk : x.bk = []
  high : x.high = bs.length
  nums : ∀ i, i < bs.length → (blk3 bs i).1 % 65536 = i + 1
  births : x.births = bs.length ∧ d.births = (bs.length : Nat)
  used : x.used = tot3 bs
  cap : x.cap = 60000 ∧ d.cap = 60000
  t0 : d.t0 = (bs.length : Nat)
  few : bs.length ≤ 60
  faults : x.faults = 0
structure Blk7Out (W V : World) (x : PA) (d : D3) (a : Option Addr) (len cp : Nat) : Prop where
  grow : Grow W V
  out : ∃ bs, Twin0 x d bs ∧ BlkRow V a len bs ∧ len ≤ cp ∧ (a = none → cp = 0)
structure Y7 (W : World) (len : Nat) where
  i : Nat
  x : PA
  d : D3
  V : World
  a : Option Addr
  l : Nat
  cp : Nat
  bs : List (Nat × List Nat)
  hi : i ≤ len
  g : Grow W V
  row : BlkRow V a l bs
  lc : l ≤ cp
  non : a = none → cp = 0
  li : l ≤ i
  tw : Twin0 x d bs
def y7I {W : World} {len : Nat} (n : Nat) (y : Y7 W len) : List (Nat × SV) × List (Nat × SO XP) := ([(4, .c (.ptr n 0)), (6, .c (.ptr (n + 1) 0)), (16, .c (.int false .i64 (y.i : Int)))], [(0, .seen y.V), (n, parO y.x), (n + 1, .cells (d3C y.d (.sliv y.a false y.l y.cp)) 31)])
theorem appB_app (n h : Nat) (ws : List Nat) : ∀ l : List (Nat × Nat × List Nat), appB n h ws l = l ++ [(n, h, ws)]
  | [] => rfl
  | x :: l => by simp only [appB, appB_app n h ws l, List.cons_append]
theorem Twin0.start : Twin0 (PA.new 60000) ⟨60000, 0, 0, 0, 0, 0, 0, 0, 0, 0, 0, 0, 0, 0, 0, 0, 0, 0, 0⟩ [] :=
  ⟨rfl, rfl, rfl, fun i h => absurd h (Nat.not_lt_zero i), ⟨rfl, rfl⟩, rfl, ⟨rfl, rfl⟩, rfl, Nat.zero_le _, rfl⟩
theorem Twin0.gap {x : PA} {d : D3} {bs : List (Nat × List Nat)} (tw : Twin0 x d bs) : gapG bs 0 = bs.length := by
  have := gapG_at bs 0 bs.length (Nat.le_refl _) (fun j hj => by have := tw.nums j hj; omega) (.inl rfl)
  omega
theorem Twin0.step {x : PA} {d : D3} {bs : List (Nat × List Nat)} (tw : Twin0 x d bs) (hlt : bs.length < 60) {V V' : World} {a a' : Option Addr} {l l' cp cp' : Nat} {ws : List Nat} {y : D3} {h e : Int} (row : BlkRow V a l bs) (lc : l ≤ cp) (non : a = none → cp = 0)
    (ho : LayOut V d a l cp bs ws V' y a' l' cp' h e) : ∃ bs', Twin0 (x.layX0 ws.length ws) y bs' ∧ BlkRow V' a' l' bs' ∧ l' ≤ cp' ∧ (a' = none → cp' = 0) ∧ l' ≤ l + 1 := by
  obtain ⟨g, ho⟩ := ho
  have eu := tw.used
  have ec := tw.cap
  have eb := tw.births
  have same : x.layE ws.length ≠ 0 → y = d → a' = a → l' = l → cp' = cp → ∃ bs', Twin0 (x.layX0 ws.length ws) y bs' ∧ BlkRow V' a' l' bs' ∧ l' ≤ cp' ∧ (a' = none → cp' = 0) ∧ l' ≤ l + 1 := by
    intro he hy ha hl hc
    subst hy ha hl hc
    refine ⟨bs, ?_, row.grow g, lc, non, Nat.le_succ _⟩
    have : x.layX0 ws.length ws = x := by
      unfold PA.layX0
      rw [eqI_dec, decide_eq_false he]
      rfl
    rw [this]
    exact tw
  rcases ho with ⟨h1, _, _, hy, ha, hl, hc⟩ | ⟨h1, h2, _, _, hy, ha, hl, hc⟩ | ⟨h1, h2, _, _, hy, hr, hc⟩
  · refine same (fun he => ?_) hy ha hl hc
    have := layE_zero he
    omega
  · refine same (fun he => ?_) hy ha hl hc
    have := layE_zero he
    omega
  · have he : x.layE ws.length = 0 := by
      unfold PA.layE layE
      rw [if_neg (by omega), if_neg (by omega), if_neg (by omega)]
    have e1 : x.layX0 ws.length ws = x.lay ws := by
      unfold PA.layX0
      rw [eqI_dec, decide_eq_true he]
      rfl
    have eh := tw.high
    have hg := tw.gap
    have hb : d.births.toNat = bs.length := by omega
    have ehd : (handleF (d.births.toNat + 1) (gapG bs 0 + 1)).1 = x.hdl := by
      unfold handleF PA.hdl
      rw [if_pos (by omega), hg, hb, eb.1, eh]
    have elay : ∀ b, lay3 bs b = bs ++ [b] := fun b => by
      unfold lay3
      rw [hg, List.take_length, List.drop_length]
    rw [ehd, elay] at hr
    have hn := hr.num
    rw [List.length_append] at hn
    refine ⟨_, ?_, hr, hc, fun ha => ?_, ?_⟩
    · rw [e1, hy]
      refine ⟨?_, ?_, ?_, fun i hi => ?_, ⟨?_, ?_⟩, ?_, ec, ?_, ?_, tw.faults⟩
      · show _ = (appB (x.high + 1) x.hdl ws x.bs).map _
        rw [appB_app, List.map_append, ← tw.same]
        rfl
      · exact tw.bk
      · show x.high + 1 = _
        rw [List.length_append, eh]
        rfl
      · rw [List.length_append] at hi
        by_cases e : i < bs.length
        · have := tw.nums i e
          unfold blk3 at this ⊢
          rw [List.getD_eq_getElem?_getD, List.getElem?_append_left e, ← List.getD_eq_getElem?_getD]
          exact this
        · have : i = bs.length := by simp only [List.length_singleton] at hi; omega
          subst this
          unfold blk3
          rw [List.getD_eq_getElem?_getD, List.getElem?_append_right (Nat.le_refl _), Nat.sub_self]
          show x.hdl % 65536 = _
          unfold PA.hdl
          omega
      · show x.births + 1 = _
        rw [List.length_append, eb.1]; rfl
      · show d.births + 1 = _
        rw [List.length_append, eb.2]; rfl
      · show x.used + ws.length = _
        rw [tot3_app, eu]; rfl
      · show d.t0 + 1 = _
        rw [List.length_append, tw.t0]; rfl
      · rw [List.length_append, List.length_singleton]; omega
    · have : 0 < l' := by simp only [List.length_singleton] at hn; omega
      have := hr.sm this
      rw [ha] at this
      cases this
    · have := row.num
      simp only [List.length_singleton] at hn
      omega
def blk7P (W : World) (v : SV) (m : Mem XP) : Prop := match v with
  | .tup [(false, [.ptr n 0]), (true, l)] => match d3Of l, m.hp.get 0, (m.hp.del 0).get n with
    | some (d, .sliv a _ len cp), some (.seen V), some (.ext (.obj [] x)) => Blk7Out W V x d a len cp
    | _, _, _ => Stuck 651
  | _ => Stuck 650
def tblB7 : List (Smry Try.prog XP) := [newQ, layR0, lay3S]
/-- What the executor leaves to be shown of roundelay/roundelaylaw07.Blocks, written out. -/
theorem blk7_vc (W : World) (a : Option Addr) (len cap : Nat) : (callN Try.prog (tblB7 : List (Smry Try.prog XP)) (fun _ _ => false) 100 20 52 [.c (.sliv a false len cap)] ⟨[(0, .seen W)], 100⟩ (.inv (liveL [2, 3, 4, 6, 8, 14, 15, 16]) (0 :: (List.range 1500).map (· + 102)) (Y7 W len) y7I (fun y => len - y.i) fun _ => .both .nil .nil) (fun v m _ => blk7P W v m)) = (
    ((0 : Int) ≤ (60000 : Int) ∧ (60000 : Int) ≤ (60000 : Int)) ∧ (∃ (y : Y7 W len), Value.pointer none = Value.pointer none ∧ a = a ∧ len = len ∧ cap = cap ∧ (↑len : Int) = (↑len :
    Int) ∧ (↑y.i : Int) = (0 : Int) ∧ y.V = W ∧ y.x = PA.new (60000 : Nat) ∧ (y.d.cap = (60000 : Int) ∧ y.d.births = (0 : Int) ∧ y.d.peak = (0 : Int) ∧ y.d.faults = (0 : Int) ∧ y.d.x0 =
    (0 : Int) ∧ y.d.x1 = (0 : Int) ∧ y.d.x2 = (0 : Int) ∧ y.d.x3 = (0 : Int) ∧ y.d.x4 = (0 : Int) ∧ y.d.x5 = (0 : Int) ∧ y.d.x6 = (0 : Int) ∧ y.d.x7 = (0 : Int) ∧ y.d.x8 = (0 : Int) ∧
    (y.a = none ∧ y.l = (0 : Nat) ∧ y.cp = (0 : Nat)) ∧ y.d.t0 = (0 : Int) ∧ y.d.t1 = (0 : Int) ∧ y.d.t2 = (0 : Int) ∧ y.d.t3 = (0 : Int) ∧ y.d.t4 = (0 : Int) ∧ y.d.t5 = (0 : Int) ∧
    True) ∧ True) ∧ ∀ (y : Y7 W len) (ρ : Nat → Value), (decide ((↑y.i : Int) < (↑len : Int)) = true → ((0 : Int) ≤ (↑y.i : Int) ∧ (↑y.i : Int) < (↑len : Int) ∧ a.isSome = true) ∧ (∃ (x
    : Addr), addOpt a (↑y.i : Int).toNat = some x ∧ y.V.cell? x = some (Value.slice (seenSli y.V (addOpt a (↑y.i : Int).toNat)).fst (seenSli y.V (addOpt a (↑y.i : Int).toNat)).snd.fst
    (seenSli y.V (addOpt a (↑y.i : Int).toNat)).snd.snd)) ∧ (∀ (j : Nat), j < (seenSli y.V (addOpt a (↑y.i : Int).toNat)).snd.fst → Seen IntKind.u64 y.V (addOpt (seenSli y.V (addOpt a
    (↑y.i : Int).toNat)).fst j)) ∧ (seenSli y.V (addOpt a (↑y.i : Int).toNat)).snd.fst ≤ (9223372036854775807 : Nat) ∧ y.x.bk = [] ∧ ((∃ (z : Nat → Value), ArInv (y.x.ar z)) → ∃ (bs :
    List (Nat × List Nat)), Lay3Any y.V (D3.mk y.d.cap y.d.births y.d.peak y.d.faults y.d.x0 y.d.x1 y.d.x2 y.d.x3 y.d.x4 y.d.x5 y.d.x6 y.d.x7 y.d.x8 y.d.t0 y.d.t1 y.d.t2 y.d.t3 y.d.t4
    y.d.t5) y.a y.l y.cp bs (seenSli y.V (addOpt a (↑y.i : Int).toNat)).fst (seenSli y.V (addOpt a (↑y.i : Int).toNat)).snd.fst ∧ ∀ (W' : World) (y_1 : D3) (a' : Option Addr) (len' cp'
    : Nat) (h e : Int), LayOut y.V (D3.mk y.d.cap y.d.births y.d.peak y.d.faults y.d.x0 y.d.x1 y.d.x2 y.d.x3 y.d.x4 y.d.x5 y.d.x6 y.d.x7 y.d.x8 y.d.t0 y.d.t1 y.d.t2 y.d.t3 y.d.t4
    y.d.t5) y.a y.l y.cp bs (words3 y.V (seenSli y.V (addOpt a (↑y.i : Int).toNat)).fst (seenSli y.V (addOpt a (↑y.i : Int).toNat)).snd.fst) W' y_1 a' len' cp' h e →
    ((-9223372036854775808 : Int) ≤ (↑y.i : Int) + (1 : Int) ∧ (↑y.i : Int) + (1 : Int) ≤ (9223372036854775807 : Int)) ∧ ∃ (y' : Y7 W len), len - y'.i < len - y.i ∧ Value.pointer none =
    Value.pointer none ∧ a = a ∧ len = len ∧ cap = cap ∧ (↑len : Int) = (↑len : Int) ∧ (↑y'.i : Int) = (↑y.i : Int) + (1 : Int) ∧ y'.V = W' ∧ y'.x = y.x.layX0 (seenSli y.V (addOpt a
    (↑y.i : Int).toNat)).snd.fst (natsOf (seenSli y.V (addOpt a (↑y.i : Int).toNat)).snd.fst fun (j : Nat) => seenInt IntKind.u64 y.V (addOpt (seenSli y.V (addOpt a (↑y.i :
    Int).toNat)).fst j)) ∧ (y'.d.cap = y_1.cap ∧ y'.d.births = y_1.births ∧ y'.d.peak = y_1.peak ∧ y'.d.faults = y_1.faults ∧ y'.d.x0 = y_1.x0 ∧ y'.d.x1 = y_1.x1 ∧ y'.d.x2 = y_1.x2 ∧
    y'.d.x3 = y_1.x3 ∧ y'.d.x4 = y_1.x4 ∧ y'.d.x5 = y_1.x5 ∧ y'.d.x6 = y_1.x6 ∧ y'.d.x7 = y_1.x7 ∧ y'.d.x8 = y_1.x8 ∧ (y'.a = a' ∧ y'.l = len' ∧ y'.cp = cp') ∧ y'.d.t0 = y_1.t0 ∧
    y'.d.t1 = y_1.t1 ∧ y'.d.t2 = y_1.t2 ∧ y'.d.t3 = y_1.t3 ∧ y'.d.t4 = y_1.t4 ∧ y'.d.t5 = y_1.t5 ∧ True) ∧ True)) ∧ (decide ((↑y.i : Int) < (↑len : Int)) = false → Blk7Out W y.V y.x
    (D3.mk y.d.cap y.d.births y.d.peak y.d.faults y.d.x0 y.d.x1 y.d.x2 y.d.x3 y.d.x4 y.d.x5 y.d.x6 y.d.x7 y.d.x8 y.d.t0 y.d.t1 y.d.t2 y.d.t3 y.d.t4 y.d.t5) y.a y.l y.cp ∧ True)) := by
  kernel_rfl
theorem blk7_run (W : World) (a : Option Addr) (len cap : Nat) (hc : SlisOk W a len ∧ len ≤ 60) : Run (callN Try.prog (tblB7 : List (Smry Try.prog XP)) (fun _ _ => false) 100 20 52 [.c (.sliv a false len cap)] ⟨[(0, .seen W)], 100⟩ (.inv (liveL [2, 3, 4, 6, 8, 14, 15, 16]) (0 :: (List.range 1500).map (· + 102)) (Y7 W len) y7I (fun y => len - y.i) fun _ => .both .nil .nil) (fun v m _ => blk7P W v m)) := by
  constructor
  rw [blk7_vc]
  obtain ⟨hs, hlen⟩ := hc
  have T0 := Twin0.start
  refine ⟨⟨by omega, by omega⟩, ⟨⟨0, PA.new 60000, ⟨60000, 0, 0, 0, 0, 0, 0, 0, 0, 0, 0, 0, 0, 0, 0, 0, 0, 0, 0⟩, W, none, 0, 0, [], Nat.zero_le _, Grow.refl W, BlkRow.nil W none, Nat.le_refl _, fun _ => rfl, Nat.le_refl _, T0⟩, ?_⟩, fun y ρ => ⟨fun hlt => ?_, fun hge => ⟨⟨y.g, y.bs, y.tw, y.row, y.lc, y.non⟩, trivial⟩⟩⟩
  · repeat' first | exact rfl | exact trivial | apply And.intro
  · have hlt' : y.i < len := by have := of_decide_eq_true hlt; omega
    have hs' := hs.grow y.g
    have h1 := hs'.at' y.i hlt'
    have h2 := hs'.lens y.i hlt'
    have h3 := hs'.words y.i hlt'
    have hb := y.tw.births
    have hu := y.tw.used
    have hcp := y.tw.cap
    have hbl := y.row.num
    have hli := y.li
    have ht0 := y.tw.t0
    simp only [Int.toNat_natCast]
    refine ⟨⟨by omega, by omega, hs.sm (by omega)⟩, h1, h3, h2, y.tw.bk, fun hi => ⟨y.bs, ?_, fun V' d' a' l' cp' h e ho => ?_⟩⟩
    · have hi' : y.x.used ≤ y.x.cap := (by obtain ⟨z, hz⟩ := hi; exact hz.used)
      refine ⟨y.row, y.lc, y.non, by omega, by omega, h3, fun hp => ?_, h2, by show 0 ≤ y.d.cap ∧ y.d.cap ≤ 1000000000; omega, by show 0 ≤ y.d.births ∧ y.d.births ≤ 1000000000; omega, by show -1000000000 ≤ y.d.t0 ∧ y.d.t0 ≤ 1000000000; omega⟩
      obtain ⟨z, hz, _⟩ := h3 0 hp
      cases hq : (seenSli y.V (addOpt a y.i)).1 with
      | none => rw [hq] at hz; cases hz
      | some q => rfl
    · obtain ⟨bs', tw', row', lc', non', ll'⟩ := y.tw.step (by omega) y.row y.lc y.non ho
      rw [words3_len] at tw'
      refine ⟨⟨by omega, by omega⟩, ⟨y.i + 1, _, d', V', a', l', cp', bs', hlt', y.g.trans ho.grow, row', lc', non', by omega, tw'⟩, ?_⟩
      repeat' first | exact rfl | exact trivial | apply And.intro
      all_goals first
        | (show len - (y.i + 1) < len - y.i; omega)
        | (show ((y.i + 1 : Nat) : Int) = (y.i : Int) + 1; omega)
theorem blk7P_den {W : World} {v : SV} {m : Mem XP} (h : blk7P W v m) : ∃ n l d a ll len cp V x, v = .tup [(false, [.ptr n 0]), (true, l)] ∧ d3Of l = some (d, .sliv a ll len cp) ∧ m.hp.get 0 = some (.seen V) ∧ (m.hp.del 0).get n = some (parO x) ∧ Blk7Out W V x d a len cp := by
  unfold blk7P at h
  split at h <;> try exact h.elim
  rename_i n l
  split at h <;> try exact h.elim
  rename_i d a ll len cp V x h1 h2 h3
  exact ⟨n, l, d, a, ll, len, cp, V, x, rfl, h1, h2, h3, h⟩
/-- Blocks laid: the arena, the document's, the memory that the document's blocks lie in. -/
def blocks7S : Smry Try.prog XP where
  g := 52
  run := fun args m K => match args with
    | [.c (.sliv a _ len cap)] => match m.hp.get 0 with
      | some (.seen W) => (SlisOk W a len ∧ len ≤ 60) ∧ ∀ V x d a' len' cp', Blk7Out W V x d a' len' cp' → (bif newOk (E := XP) ⟨m.hp.set 0 (.seen V), m.nx⟩ (parO x) then
          K (.tup [(false, [.ptr m.nx 0]), (true, d3C d (.sliv a' false len' cp'))]) (withNew ⟨m.hp.set 0 (.seen V), m.nx⟩ (parO x)) else Stuck 652)
      | _ => Stuck 653
    | _ => Stuck 654
  ok := fun args m K hr => by
    split at hr <;> try exact hr.elim
    rename_i a ll len cap
    split at hr <;> try exact hr.elim
    rename_i W hW
    obtain ⟨hc, hr⟩ := hr
    intro ν w R w0 H HK
    have H1 := H
    rw [SH.den_get ν hW, Assn.mul_assoc] at H1
    have H2 : Sat w ((⟨[(0, .seen W)], 100⟩ : Mem XP).hp.den ν * ((m.hp.del 0).den ν * R)) := by
      refine H1.cast ?_
      simp only [SH.den, SO.den]
      rw [Assn.mul_comm (seenA W) (1 : Assn), Assn.one_mul]
    refine (callN_ok namesOk mixed _ _ _ _ _ _ ⟨[(0, .seen W)], 100⟩ _ _ (blk7_run W a len cap hc).out ν w _ w0 H2 HK).mono ?_
    rintro e w' ⟨v, m', s', ξ, hp, _, _, he, hs, hk⟩
    obtain ⟨n, l, d, a', ll', len', cp', V, x, rfl, hl, h0, hn, ho⟩ := blk7P_den hp
    obtain ⟨hd, _⟩ := d3Of_sound hl
    have hk2 := hr V x d a' len' cp' ho
    cases hb : newOk (E := XP) ⟨m.hp.set 0 (.seen V), m.nx⟩ (parO x) <;> rw [hb] at hk2
    · exact hk2.elim
    simp only [cond_true] at hk2
    rw [SH.den_get ξ h0, SH.den_get ξ hn] at hs
    have hs2 : Sat w' ((parO x).den ξ (ξ n) * (seenA V * ((m.hp.del 0).den ν * R))) := by
      have h3 := hs.cast (Q := (((m'.hp.del 0).del n).den ξ) * ((parO x).den ξ (ξ n) * (seenA V * ((m.hp.del 0).den ν * R)))) (by simp only [SO.den]; ac_rfl)
      exact h3.right
    have e4 : (parO x).den ξ (ξ n) = (parO x).den ν (ξ n) := SO.den_eq (parO x) (by intro k hk; cases hk)
    refine ⟨_, _, upd ν m.nx (ξ n), hk2, Agree.upd (Nat.le_refl _) _, Nat.le_succ _, ?_, withNew_sat hb ?_, hk⟩
    · rw [he]
      have e1 : SC.denL ξ l = SC.denL (upd ν m.nx (ξ n)) (d3C d (.sliv a' false len' cp')) := (hd ξ).trans (by simp only [d3C, SC.denL, SC.den])
      simp only [SV.den, List.map_cons, List.map_nil, partDen, e1, SC.den, upd_same]
    · show Sat w' ((parO x).den ν (ξ n) * ((m.hp.set 0 (.seen V)).den ν * R))
      rw [SH.den_set ν hW, Assn.mul_assoc, ← e4]
      exact hs2
end Go.Proofs.Ytnfpkadepomjjaa
