/- Summaries whose results are known: each number is reckoned at once. For closed runs. -/
import Derived.Test.YtgiakcepgbpchaaSymD
namespace Go.Proofs.Ytgiakcepgbpchaa
open Go Go.RowKit
section
variable {E : EXT} {P : Program}
def knC (K : SC → Prop) : SC → Prop
  | .int _ k n _ => forceI true n fun n => K (.int true k n .any)
  | .boo _ b => forceB b fun b => K (.boo true b)
  | x => K x
theorem knC_of {K : SC → Prop} {x : SC} (h : knC K x) : ∃ y, K y ∧ ∀ ν, y.den ν = x.den ν := by
  cases x <;> simp only [knC, forceI_eq, forceB_eq] at h <;> exact ⟨_, h, fun _ => rfl⟩
def knL (K : List SC → Prop) : List SC → Prop
  | [] => K []
  | x :: l => knC (fun y => knL (fun r => K (y :: r)) l) x
theorem knL_of : ∀ {l : List SC} {K : List SC → Prop}, knL K l → ∃ r, K r ∧ r.length = l.length ∧ ∀ ν, SC.denL ν r = SC.denL ν l
  | [], K, h => ⟨[], h, rfl, fun _ => rfl⟩
  | x :: l, K, h => by
    simp only [knL] at h
    obtain ⟨y, h1, e1⟩ := knC_of h
    obtain ⟨r, h2, hl, e2⟩ := knL_of h1
    exact ⟨y :: r, h2, by simp [hl], fun ν => by simp [SC.denL, e1 ν, e2 ν]⟩
def knP (K : List (Bool × List SC) → Prop) : List (Bool × List SC) → Prop
  | [] => K []
  | (b, x) :: l => knL (fun y => knP (fun r => K ((b, y) :: r)) l) x
theorem partDen_of {ν : Nat → Nat} {b : Bool} {l r : List SC} (hl : r.length = l.length) (e : SC.denL ν r = SC.denL ν l) : partDen ν (b, r) = partDen ν (b, l) := by
  cases b with
  | true => simp only [partDen]; rw [e]
  | false =>
    match l, r, hl, e with
    | [], [], _, _ => rfl
    | [x], [y], _, e => simpa [SC.denL, partDen] using e
    | _ :: _ :: _, _ :: _ :: _, _, _ => rfl
theorem knP_of : ∀ {l : List (Bool × List SC)} {K : List (Bool × List SC) → Prop}, knP K l → ∃ r, K r ∧ ∀ ν, r.map (partDen ν) = l.map (partDen ν)
  | [], K, h => ⟨[], h, fun _ => rfl⟩
  | (b, x) :: l, K, h => by
    simp only [knP] at h
    obtain ⟨y, h1, hl, e1⟩ := knL_of h
    obtain ⟨r, h2, e2⟩ := knP_of h1
    exact ⟨(b, y) :: r, h2, fun ν => by simp only [List.map_cons, e2 ν, partDen_of hl (e1 ν)]⟩
def knV (K : SV → Prop) : SV → Prop
  | .c x => knC (fun y => K (.c y)) x
  | .agg l => knL (fun y => K (.agg y)) l
  | .tup l => knP (fun y => K (.tup y)) l
theorem knV_of {K : SV → Prop} {v : SV} (h : knV K v) : ∃ u, K u ∧ ∀ ν, u.den ν = v.den ν := by
  cases v with
  | c x =>
    have h : knC (fun y => K (.c y)) x := h
    obtain ⟨y, h1, e⟩ := knC_of h
    exact ⟨.c y, h1, fun ν => e ν⟩
  | agg l =>
    have h : knL (fun y => K (.agg y)) l := h
    obtain ⟨y, h1, _, e⟩ := knL_of h; exact ⟨_, h1, fun ν => by simp only [SV.den, e ν]⟩
  | tup l =>
    have h : knP (fun y => K (.tup y)) l := h
    obtain ⟨y, h1, e⟩ := knP_of h; exact ⟨_, h1, fun ν => by simp only [SV.den, e ν]⟩
def Smry.known (S : Smry P E) : Smry P E where
  g := S.g
  run := fun args m K => S.run args m fun v m' => knV (fun u => K u m') v
  ok := fun args m K h ν w R w0 H HK => (S.ok args m _ h ν w R w0 H HK).mono fun e w' ⟨v, m', μ, hk, ag, hn, he, hs, hk'⟩ => by
    obtain ⟨u, hu, eu⟩ := knV_of hk
    exact ⟨u, m', μ, hu, ag, hn, by rw [he, eu], hs, hk'⟩
end
end Go.Proofs.Ytgiakcepgbpchaa
