/- The executor: addresses, tests, numbers, built values. -/
import Derived.Test.YtohijcgbfcahhaaSymOp2
namespace Go.Proofs.Ytohijcgbfcahhaa
open Go Go.RowKit

section
variable {E : EXT} {P : Program}

def fieldAddrV (P : Program) (s : TypeId) (x : SV) (i : Nat) : PV :=
  match P.underlying s with
  | some (.struct fs) => match fs[i]? with
    | some F => match sizeT P F.type with
      | some (_ + 1) => match x with
        | .c (.ptr n o) => .ok (.c (.ptr n (o + F.offset)))
        | .c (.elp n i k f) => .ok (.c (.elp n i k (f + F.offset)))
        | _ => .no 51
      | _ => .no 52
    | none => .no 53
  | _ => .no 54
theorem fieldAddrV_sound {s : TypeId} {x v : SV} {i : Nat} (hg : (fieldAddrV P s x i).gives v) (ν : Nat → Nat) (w : World) : (Instr.fieldAt s (x.den ν) i).run P w = .ok (v.den ν) w := by
  unfold fieldAddrV at hg
  split at hg <;> try exact hg.elim
  rename_i fs hu
  split at hg <;> try exact hg.elim
  rename_i F hF
  split at hg <;> try exact hg.elim
  rename_i m hs
  have h1 : ∀ b o, (fieldPlace ⟨b, o, none⟩ F).run P w = .ok ⟨b, o + F.offset, none⟩ w := by
    intro b o
    simp [fieldPlace, run_sizeOf_T hs, Addr.add_mid]
  split at hg <;> try exact hg.elim
  all_goals
    simp only [PV.gives] at hg
    subst hg
    simp [Instr.fieldAt, run_underlying hu, hF, SV.den, SC.den, Instr.sureAddr, h1, Nat.add_assoc]

def fieldV (P : Program) (s : TypeId) (x : SV) (i : Nat) : PV :=
  match P.underlying s with
  | some (.struct fs) => match fs[i]? with
    | some F => match x with
      | .agg l => match aggT P F.type with
        | some true => match sizeT P F.type with
          | some m => .ok (.agg ((l.drop F.offset).take m))
          | none => .no 61
        | some false => match l[F.offset]? with
          | some x => .ok (.c x)
          | none => .no 62
        | none => .no 63
      | _ => .no 64
    | none => .no 65
  | _ => .no 66
theorem denL_get (ν : Nat → Nat) (l : List SC) (i : Nat) : (SC.denL ν l)[i]? = (l[i]?).map (SC.den ν) := by rw [denL_map, List.getElem?_map]
theorem denL_take (ν : Nat → Nat) (l : List SC) (i m : Nat) : (SC.denL ν l).toArray.extract i (i + m) = (SC.denL ν ((l.drop i).take m)).toArray := by
  rw [denL_map, denL_map]
  simp [List.map_take, List.map_drop, List.extract_eq_take_drop]
theorem fieldV_sound {s : TypeId} {x v : SV} {i : Nat} (hg : (fieldV P s x i).gives v) (ν : Nat → Nat) (w : World) : (Instr.field s (x.den ν) i).run P w = .ok (v.den ν) w := by
  unfold fieldV at hg
  split at hg <;> try exact hg.elim
  rename_i fs hu
  split at hg <;> try exact hg.elim
  rename_i F hF
  split at hg <;> try exact hg.elim
  rename_i l
  split at hg <;> try exact hg.elim
  · rename_i ha
    split at hg <;> try exact hg.elim
    rename_i m hs
    simp only [PV.gives] at hg
    subst hg
    simp [Instr.field, run_underlying hu, hF, SV.den, asAgg, part, run_isAgg_T ha, run_sizeOf_T hs, ← denL_take]
  · rename_i ha
    split at hg <;> try exact hg.elim
    rename_i u hl
    simp only [PV.gives] at hg
    subst hg
    have : (SC.denL ν l)[F.offset]? = some (u.den ν) := by rw [denL_get, hl]; rfl
    simp [Instr.field, run_underlying hu, hF, SV.den, asAgg, part, run_isAgg_T ha, this]

/-- An offset, where it begins at nothing. -/
def addO (known : Bool) (o i : Nat) : Nat := match known, o with
  | true, 0 => i
  | _, o => o + i
theorem addO_eq (b : Bool) (o i : Nat) : addO b o i = o + i := by unfold addO; split <;> omega

def atNat (i : Int) (n : Nat) (K : Nat → PV) : PV := match i with
  | .ofNat m => K m
  | _ => .no n
theorem atNat_gives {i : Int} {n : Nat} {K : Nat → PV} {v : SV} (h : (atNat i n K).gives v) : ∃ m, i = .ofNat m ∧ (K m).gives v := by
  unfold atNat at h
  split at h
  · rename_i m; exact ⟨m, rfl, h⟩
  · exact h.elim
/-- Is it surely an index below n? -/
def idxOk {i : Int} (b : Bd i) (n : Nat) : Bool := match b with
  | .w lo hi _ => leI 0 lo && leI (hi + 1) (n : Int)
  | .any => false
theorem idxOk_sound {i : Int} {b : Bd i} {n : Nat} (h : idxOk b n = true) : 0 ≤ i ∧ i < n := by
  unfold idxOk at h
  split at h
  · simp only [Bool.and_eq_true] at h
    have h1 := leI_le h.1
    have h2 := leI_le h.2
    omega
  · cases h
def indexAddrV (P : Program) (t : TypeId) (x ix : SV) : PV :=
  match ix with
  | .c (.int li _ i bi) => match P.underlying t with
    | some (.slice e) => match x with
      | .c (.sli n ks lo o ll len _) => match sizeT P e with
        | some s => bif s == ks then
            (bif li && lo && ll then atNat i 71 (fun m => bif Nat.blt m len then .ok (.c (.ptr n ((o + m) * ks))) else .no 70)
            else bif ll && idxOk bi len then .ok (.c (.elp n (addO lo o i.toNat) ks 0)) else .need (0 ≤ i ∧ i < len) (.c (.elp n (addO lo o i.toNat) ks 0))) else .no 72
        | none => .no 73
      | _ => .no 74
    | some (.array len e) => match sizeT P e with
      | some s => atNat i 78 fun m => bif li then (bif Nat.blt m len then (match x with
            | .c (.ptr n o) => .ok (.c (.ptr n (o + m * s)))
            | .c (.elp n j k f) => .ok (.c (.elp n j k (f + m * s)))
            | _ => .no 75) else .no 76) else .no 77
      | none => .no 79
    | _ => .no 80
  | _ => .no 81
theorem indexAddrV_sound {t : TypeId} {x ix v : SV} (hg : (indexAddrV P t x ix).gives v) (ν : Nat → Nat) (w : World) : (Instr.indexAt t (x.den ν) (ix.den ν)).run P w = .ok (v.den ν) w := by
  unfold indexAddrV at hg
  split at hg <;> try exact hg.elim
  rename_i li k i bi
  split at hg <;> try exact hg.elim
  · rename_i e hu
    split at hg <;> try exact hg.elim
    rename_i n ks lo o ll len cap
    split at hg <;> try exact hg.elim
    rename_i s hs
    cases hk : s == ks
    · rw [hk] at hg; exact hg.elim
    rw [hk] at hg
    simp only [cond_true] at hg
    have hk := eq_of_beq hk
    subst hk
    cases hl : li && lo && ll <;> rw [hl] at hg
    · have hg : (0 ≤ i ∧ i < len) ∧ v = .c (.elp n (addO lo o i.toNat) s 0) := by
        cases hd : ll && idxOk bi len <;> rw [hd] at hg <;> simp only [cond_true, cond_false, PV.gives] at hg
        · exact hg
        · simp only [Bool.and_eq_true] at hd
          exact ⟨idxOk_sound hd.2, hg⟩
      obtain ⟨⟨h0, h1⟩, rfl⟩ := hg
      simp [Instr.indexAt, run_underlying hu, SV.den, SC.den, asIntOf, h0, h1, run_sizeOf_T hs, Addr.add_mid, addO_eq, Nat.add_mul]
    · simp only [cond_true] at hg
      obtain ⟨m, rfl, hg'⟩ := atNat_gives hg
      clear hg
      have hg := hg'
      · cases hm : Nat.blt m len
        · rw [hm] at hg; exact hg.elim
        rw [hm] at hg
        simp only [cond_true, PV.gives] at hg
        subst hg
        have hm : m < len := by simpa [Nat.blt_eq] using hm
        simp [Instr.indexAt, run_underlying hu, SV.den, SC.den, asIntOf, hm, run_sizeOf_T hs, Addr.add_mid, Nat.add_mul]
  · rename_i len e hu
    split at hg <;> try exact hg.elim
    rename_i s hs
    obtain ⟨m, rfl, hg'⟩ := atNat_gives hg
    clear hg
    have hg := hg'
    cases hl : li
    · rw [hl] at hg; exact hg.elim
    rw [hl] at hg
    simp only [cond_true] at hg
    cases hm : Nat.blt m len
    · rw [hm] at hg; exact hg.elim
    rw [hm] at hg
    simp only [cond_true] at hg
    have hm : m < len := by simpa [Nat.blt_eq] using hm
    split at hg <;> try exact hg.elim
    all_goals
      simp only [PV.gives] at hg
      subst hg
      simp [Instr.indexAt, run_underlying hu, SV.den, SC.den, asIntOf, Instr.sureAddr, hm, run_sizeOf_T hs, Addr.add_mid, Nat.add_assoc]

def nilCheckV (x : SV) : PV :=
  match x with
  | .c (.ptr n o) => .ok (.c (.ptr n o))
  | .c (.elp n i k f) => .ok (.c (.elp n i k f))
  | .c (.fn (.func f) a c) => .ok (.c (.fn (.func f) a c))
  | _ => .no 90
theorem nilCheckV_sound {x v : SV} (hg : (nilCheckV x).gives v) (ν : Nat → Nat) (w : World) (f : SF) (o : Oper) (y : Operand) (ho : o.op = .nilCheck y) (hy : f.opv y = x) :
    (execOp (actOf ν f).eval o).run P w = .ok (.value (v.den ν)) w := by
  have he : (actOf ν f).eval y = x.den ν := by rw [eval_opv, hy]
  unfold nilCheckV at hg
  split at hg <;> try exact hg.elim
  all_goals
    simp only [PV.gives] at hg
    subst hg
    simp [execOp, ho, he, SV.den, SC.den]

def convV (P : Program) (wr : Bool) (s d : TypeId) (x : SV) : PV :=
  match P.underlying s with
  | some _ => match P.underlying d with
    | some (.int k) => match x with
      | .c (.int l _ n b) => arithV wr k l n b
      | _ => .no 95
    | _ => .no 96
  | none => .no 97
theorem convV_sound {wr : Bool} {s d : TypeId} {x v : SV} (hg : (convV P wr s d x).gives v) (ν : Nat → Nat) (w : World) : (convert s d (x.den ν)).run P w = .ok (v.den ν) w := by
  unfold convV at hg
  split at hg <;> try exact hg.elim
  rename_i ds hs
  split at hg <;> try exact hg.elim
  rename_i k hd
  split at hg <;> try exact hg.elim
  rw [arithV_den hg]
  simp only [convert, Sem.run_bind, run_underlying hs, run_underlying hd, Result.andThen_ok, SV.den, SC.den, Conv.intToInt]
  simp

def unV (wr : Bool) (op : UnOp) (x : SV) : PV :=
  match op, x with
  | .not, .c (.boo l b) => bif l then .ok (litB (!b)) else .ok (.c (.boo false (!b)))
  | .neg, .c (.int l k n b) => arithV wr k l (0 - n) (Bd.sub (.w 0 0 ⟨Int.le_refl 0, Int.le_refl 0⟩) b)
  | _, _ => .no 100
theorem unV_sound {wr : Bool} {op : UnOp} {x v : SV} (hg : (unV wr op x).gives v) (ν : Nat → Nat) (w : World) : (Op.unary op (x.den ν)).run P w = .ok (v.den ν) w := by
  unfold unV at hg
  split at hg
  · rename_i l b
    cases l <;> simp only [cond_true, cond_false, PV.gives] at hg <;> subst hg
    · simp [Op.unary, SV.den, SC.den]
    · rw [litB_den]; simp [Op.unary, SV.den, SC.den]
  · rename_i l k n b
    rw [arithV_den hg]
    simp [Op.unary, SV.den, SC.den, Op.intArith]
  · exact hg.elim

def extractV (x : SV) (i : Nat) : PV :=
  match x with
  | .tup l => match l[i]? with
    | some (true, c) => .ok (.agg c)
    | some (false, [y]) => .ok (.c y)
    | _ => .no 105
  | _ => .no 106
theorem extractV_sound {x v : SV} {i : Nat} (hg : (extractV x i).gives v) (ν : Nat → Nat) (w : World) : (Instr.extract (x.den ν) i).run P w = .ok (v.den ν) w := by
  unfold extractV at hg
  split at hg <;> try exact hg.elim
  rename_i l
  split at hg <;> try exact hg.elim
  all_goals
    rename_i hl
    simp only [PV.gives] at hg
    subst hg
    simp [Instr.extract, SV.den, hl, partDen]

/-- Shifts. -/
theorem pow_bd {b lo hi : Int} (h : lo ≤ b ∧ b ≤ hi) (c : (leI 0 hi && leI hi 64) = true) : (1 : Int) ≤ ((2 ^ b.toNat : Nat) : Int) ∧ ((2 ^ b.toNat : Nat) : Int) ≤ ((2 ^ hi.toNat : Nat) : Int) := by
  simp only [Bool.and_eq_true] at c
  have := leI_le c.1
  have h1 : 2 ^ b.toNat ≤ 2 ^ hi.toNat := Nat.pow_le_pow_right (by omega) (by omega)
  have h2 : 1 ≤ 2 ^ b.toNat := Nat.one_le_two_pow
  omega
/-- Bounds of a power. -/
def Bd.pow {b : Int} (y : Bd b) : Bd ((2 ^ b.toNat : Nat) : Int) := match y with
  | .w _ hi h => onTrue (leI 0 hi && leI hi 64) (fun c => .w 1 ((2 ^ hi.toNat : Nat) : Int) (pow_bd h c)) .any
  | .any => .any
def Bd.upTo {b : Int} (y : Bd b) (n : Nat) : Bool := match y with
  | .w lo hi _ => leI 0 lo && leI hi (n : Int)
  | .any => false
theorem Bd.upTo_sound {b : Int} {y : Bd b} {n : Nat} (h : y.upTo n = true) : 0 ≤ b ∧ b ≤ n := by
  unfold Bd.upTo at h
  split at h
  · simp only [Bool.and_eq_true] at h
    have h1 := leI_le h.1
    have h2 := leI_le h.2
    omega
  · cases h
def Bd.lit (n : Int) : Bd n := .w n n ⟨Int.le_refl n, Int.le_refl n⟩
def shiftV (wr : Bool) (op : BinOp) (k : IntKind) (la : Bool) (a : Int) (lb : Bool) (b : Int) (x : Bd a) (y : Bd b) : PV :=
  match op with
  | .shl => bif lb then atNat b 110 (fun m => arithV wr k la (a * ((2 ^ (min m k.bits) : Nat) : Int)) (x.mul (.lit _)))
    else bif y.upTo k.bits && (x.mul y.pow).fit k then .ok (.c (.int false k (a * ((2 ^ b.toNat : Nat) : Int)) (x.mul y.pow))) else .need (0 ≤ b ∧ b ≤ k.bits ∧ inR k (a * ((2 ^ b.toNat : Nat) : Int))) (.c (.int false k (a * ((2 ^ b.toNat : Nat) : Int)) (x.mul y.pow)))
  | .shr => bif lb then atNat b 111 (fun m => bif la then .ok (litI k (a / ((2 ^ (min m k.bits) : Nat) : Int))) else .ok (.c (.int false k (a / ((2 ^ (min m k.bits) : Nat) : Int)) (x.div (.lit _)))))
    else bif y.upTo k.bits then .ok (.c (.int false k (a / ((2 ^ b.toNat : Nat) : Int)) (x.div y.pow))) else .need (0 ≤ b ∧ b ≤ k.bits) (.c (.int false k (a / ((2 ^ b.toNat : Nat) : Int)) (x.div y.pow)))
  | _ => .no 112
theorem run_shl (k k' : IntKind) (a b : Int) (t : TypeId) (w : World) (h : 0 ≤ b) : (binOp .shl t (.int k a) (.int k' b)).run P w = .ok (.int k (k.wrap (a * ((2 ^ (min b.toNat k.bits) : Nat) : Int)))) w := by
  have hneg : ¬ b < 0 := by omega
  have hp : ((2 ^ (min b.toNat k.bits) : Nat) : Int) = (2 : Int) ^ (min b.toNat k.bits) := by simp
  rw [hp]
  simp only [binOp, Op.shift, hneg, if_false]
  rfl
theorem run_shr (k k' : IntKind) (a b : Int) (t : TypeId) (w : World) (h : 0 ≤ b) : (binOp .shr t (.int k a) (.int k' b)).run P w = .ok (.int k (a / ((2 ^ (min b.toNat k.bits) : Nat) : Int))) w := by
  have hneg : ¬ b < 0 := by omega
  have hp : ((2 ^ (min b.toNat k.bits) : Nat) : Int) = (2 : Int) ^ (min b.toNat k.bits) := by simp
  have hd : a / ((2 ^ (min b.toNat k.bits) : Nat) : Int) = a.fdiv (2 ^ (min b.toNat k.bits)) := by
    rw [← hp, Int.fdiv_eq_ediv_of_nonneg]; exact Int.natCast_nonneg _
  rw [hd]
  simp only [binOp, Op.shift, hneg, if_false]
  rfl
theorem shiftV_sound {wr : Bool} {op : BinOp} {k k' : IntKind} {la lb : Bool} {a b : Int} {x : Bd a} {y : Bd b} {v : SV} (hg : (shiftV wr op k la a lb b x y).gives v) (ν : Nat → Nat) (t : TypeId) (w : World) :
    (binOp op t (.int k a) (.int k' b)).run P w = .ok (v.den ν) w := by
  unfold shiftV at hg
  split at hg
  · cases lb
    · have hg : (0 ≤ b ∧ b ≤ k.bits ∧ inR k (a * ((2 ^ b.toNat : Nat) : Int))) ∧ v = .c (.int false k (a * ((2 ^ b.toNat : Nat) : Int)) (x.mul y.pow)) := by
        cases hd : y.upTo k.bits && (x.mul y.pow).fit k <;> rw [hd] at hg <;> simp only [cond_true, cond_false, PV.gives] at hg
        · exact hg
        · simp only [Bool.and_eq_true] at hd
          exact ⟨⟨(Bd.upTo_sound hd.1).1, (Bd.upTo_sound hd.1).2, Bd.fit_inR hd.2⟩, hg⟩
      obtain ⟨⟨h0, h1, h2⟩, rfl⟩ := hg
      have e : min b.toNat k.bits = b.toNat := by omega
      rw [run_shl k k' a b t w h0, e, wrap_inR h2]
      rfl
    · simp only [cond_true] at hg
      obtain ⟨m, rfl, hg'⟩ := atNat_gives hg
      clear hg
      have hg := hg'
      rw [arithV_den hg, run_shl k k' a (.ofNat m) t w (Int.natCast_nonneg m)]
      rfl
  · cases lb
    · have hg : (0 ≤ b ∧ b ≤ k.bits) ∧ v = .c (.int false k (a / ((2 ^ b.toNat : Nat) : Int)) (x.div y.pow)) := by
        cases hd : y.upTo k.bits <;> rw [hd] at hg <;> simp only [cond_true, cond_false, PV.gives] at hg
        · exact hg
        · exact ⟨Bd.upTo_sound hd, hg⟩
      obtain ⟨⟨h0, h1⟩, rfl⟩ := hg
      have e : min b.toNat k.bits = b.toNat := by omega
      rw [run_shr k k' a b t w h0, e]
      rfl
    · simp only [cond_true] at hg
      obtain ⟨m, rfl, hg'⟩ := atNat_gives hg
      clear hg
      have hg := hg'
      rw [run_shr k k' a (.ofNat m) t w (Int.natCast_nonneg m)]
      cases la <;> simp only [cond_true, cond_false, PV.gives] at hg <;> subst hg
      · rfl
      · rw [litI_den]; rfl
  · exact hg.elim
end
end Go.Proofs.Ytohijcgbfcahhaa
