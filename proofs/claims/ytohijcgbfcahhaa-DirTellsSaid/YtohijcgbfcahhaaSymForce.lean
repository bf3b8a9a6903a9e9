/- The executor: values written out, so that nothing is reckoned twice. -/
import Derived.Test.YtohijcgbfcahhaaSymClose
namespace Go.Proofs.Ytohijcgbfcahhaa
open Go Go.RowKit

section
variable {α : Sort _}
def forceB (b : Bool) (K : Bool → α) : α := match b with | true => K true | false => K false
def forceN (n : Nat) (K : Nat → α) : α := match n with | 0 => K 0 | n + 1 => K (n + 1)
theorem forceB_eq (b : Bool) (K : Bool → α) : forceB b K = K b := by cases b <;> rfl
theorem forceN_eq (n : Nat) (K : Nat → α) : forceN n K = K n := by cases n <;> rfl
def forceI (l : Bool) (n : Int) (K : Int → α) : α := match l with
  | true => (match n with | .ofNat m => forceN m fun m => K (.ofNat m) | .negSucc m => forceN m fun m => K (.negSucc m))
  | false => K n
theorem forceI_eq (l : Bool) (n : Int) (K : Int → α) : forceI l n K = K n := by
  cases l
  · rfl
  · cases n <;> simp only [forceI, forceN_eq]
def forceNum (n : Int) (b : Bd n) (K : (n : Int) → Bd n → α) : α := match n, b with
  | .ofNat 0, b => K (.ofNat 0) b
  | .ofNat (m + 1), b => K (.ofNat (m + 1)) b
  | .negSucc 0, b => K (.negSucc 0) b
  | .negSucc (m + 1), b => K (.negSucc (m + 1)) b
theorem forceNum_eq (n : Int) (b : Bd n) (K : (n : Int) → Bd n → α) : forceNum n b K = K n b := by unfold forceNum; split <;> rfl
def forceLo {n hi : Int} (lo : Int) (h : lo ≤ n ∧ n ≤ hi) (K : (lo : Int) → lo ≤ n ∧ n ≤ hi → α) : α := match lo, h with
  | .ofNat 0, h => K (.ofNat 0) h
  | .ofNat (m + 1), h => K (.ofNat (m + 1)) h
  | .negSucc 0, h => K (.negSucc 0) h
  | .negSucc (m + 1), h => K (.negSucc (m + 1)) h
theorem forceLo_eq {n hi : Int} (lo : Int) (h : lo ≤ n ∧ n ≤ hi) (K : (lo : Int) → lo ≤ n ∧ n ≤ hi → α) : forceLo lo h K = K lo h := by unfold forceLo; split <;> rfl
def forceHi {n lo : Int} (hi : Int) (h : lo ≤ n ∧ n ≤ hi) (K : (hi : Int) → lo ≤ n ∧ n ≤ hi → α) : α := match hi, h with
  | .ofNat 0, h => K (.ofNat 0) h
  | .ofNat (m + 1), h => K (.ofNat (m + 1)) h
  | .negSucc 0, h => K (.negSucc 0) h
  | .negSucc (m + 1), h => K (.negSucc (m + 1)) h
theorem forceHi_eq {n lo : Int} (hi : Int) (h : lo ≤ n ∧ n ≤ hi) (K : (hi : Int) → lo ≤ n ∧ n ≤ hi → α) : forceHi hi h K = K hi h := by unfold forceHi; split <;> rfl
def forceBd {n : Int} (b : Bd n) (K : Bd n → α) : α := match b with
  | .any => K .any
  | .w lo hi h => forceLo lo h fun lo h => forceHi hi h fun hi h => K (.w lo hi h)
theorem forceBd_eq {n : Int} (b : Bd n) (K : Bd n → α) : forceBd b K = K b := by
  cases b
  · rfl
  · simp only [forceBd, forceLo_eq, forceHi_eq]
def forceM (l : Bool) (n : Nat) (K : Nat → α) : α := match l with | true => forceN n K | false => K n
theorem forceM_eq (l : Bool) (n : Nat) (K : Nat → α) : forceM l n K = K n := by cases l <;> simp only [forceM, forceN_eq]
mutual
def forceC (K : SC → α) : SC → α
  | .int true k n b => forceNum n b fun n b => K (.int true k n b)
  | .int false k n b => forceBd b fun b => K (.int false k n b)
  | .boo true b => forceB b fun b => K (.boo true b)
  | .boo false b => K (.boo false b)
  | .ptr n o => forceN n fun n => forceN o fun o => K (.ptr n o)
  | .elp n i k f => forceN n fun n => forceN k fun k => forceN f fun f => K (.elp n i k f)
  | .sli n k lo o ll len cap => forceN n fun n => forceN k fun k => forceB lo fun lo => forceM lo o fun o => forceB ll fun ll => forceM ll len fun len => K (.sli n k lo o ll len cap)
  | .map n => forceN n fun n => K (.map n)
  | .fn f a c => forceL (fun a => forceL (fun c => K (.fn f a c)) c) a
  | .ifc t x => forceC (fun x => K (.ifc t x)) x
  | x => K x
termination_by structural x => x
def forceL (K : List SC → α) : List SC → α
  | [] => K []
  | x :: l => forceC (fun x => forceL (fun l => K (x :: l)) l) x
termination_by structural l => l
end
mutual
theorem forceC_eq : ∀ (x : SC) (K : SC → α), forceC K x = K x
  | .int true k n b, K => by simp only [forceC, forceNum_eq]
  | .int false k n b, K => by simp only [forceC, forceBd_eq]
  | .boo true b, K => by simp only [forceC, forceB_eq]
  | .boo false b, K => by simp only [forceC]
  | .ptr n o, K => by simp only [forceC, forceN_eq]
  | .elp n i k f, K => by simp only [forceC, forceN_eq]
  | .sli n k lo o ll len cap, K => by simp only [forceC, forceN_eq, forceB_eq, forceM_eq]
  | .nls, K => by simp only [forceC]
  | .map n, K => by simp only [forceC, forceN_eq]
  | .fn f a c, K => by simp only [forceC, forceL_eq a, forceL_eq c]
  | .ifc t x, K => by simp only [forceC, forceC_eq x]
  | .sliv _ _ _ _, K => by simp only [forceC]
  | .ptv _, K => by simp only [forceC]
  | .raw _, K => by simp only [forceC]
theorem forceL_eq : ∀ (l : List SC) (K : List SC → α), forceL K l = K l
  | [], K => by simp only [forceL]
  | x :: l, K => by simp only [forceL, forceC_eq x, forceL_eq l]
end
def forceP (K : List (Bool × List SC) → α) : List (Bool × List SC) → α
  | [] => K []
  | (b, c) :: l => forceB b fun b => forceL (fun c => forceP (fun l => K ((b, c) :: l)) l) c
theorem forceP_eq : ∀ (l : List (Bool × List SC)) (K : List (Bool × List SC) → α), forceP K l = K l
  | [], K => by simp only [forceP]
  | (b, c) :: l, K => by simp only [forceP, forceB_eq, forceL_eq, forceP_eq l]
def forceV (K : SV → α) : SV → α
  | .c x => forceC (fun x => K (.c x)) x
  | .agg l => forceL (fun l => K (.agg l)) l
  | .tup l => forceP (fun l => K (.tup l)) l
theorem forceV_eq (x : SV) (K : SV → α) : forceV K x = K x := by cases x <;> simp only [forceV, forceC_eq, forceL_eq, forceP_eq]
def forceT (K : ST → α) : ST → α
  | .nil => K .nil
  | .node v l r => forceV (fun v => forceT (fun l => forceT (fun r => K (.node v l r)) r) l) v
theorem forceT_eq : ∀ (t : ST) (K : ST → α), forceT K t = K t
  | .nil, K => by simp only [forceT]
  | .node v l r, K => by simp only [forceT, forceV_eq, forceT_eq l, forceT_eq r]
def forceF (K : SF → α) (f : SF) : α := match f with
  | ⟨n, t⟩ => forceN n fun n => forceT (fun t => K ⟨n, t⟩) t
theorem forceF_eq (f : SF) (K : SF → α) : forceF K f = K f := by
  cases f
  simp only [forceF, forceN_eq, forceT_eq]
variable {E : EXT}
def forceO (K : SO E → α) : SO E → α
  | .cells l t => forceL (fun l => K (.cells l t)) l
  | .row t k n c l => forceL (fun l => K (.row t k n c l)) l
  | o => K o
theorem forceO_eq (o : SO E) (K : SO E → α) : forceO K o = K o := by cases o <;> simp only [forceO, forceL_eq]
def forceH (K : SH E → α) : SH E → α
  | [] => K []
  | (n, o) :: h => forceN n fun n => forceO (fun o => forceH (fun h => K ((n, o) :: h)) h) o
theorem forceH_eq : ∀ (h : SH E) (K : SH E → α), forceH K h = K h
  | [], K => by simp only [forceH]
  | (n, o) :: h, K => by simp only [forceH, forceN_eq, forceO_eq, forceH_eq h]
end
end Go.Proofs.Ytohijcgbfcahhaa
