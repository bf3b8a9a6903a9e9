/- Short names for what printed states are full of. No program in sight. -/
import Derived.Test.YtnfpkadepomjjaaBaseB
set_option linter.all false
namespace Go.Proofs.Ytnfpkadepomjjaa
open Go Go.RowKit
abbrev tn : ST := .nil
abbrev nu (l r : ST) : ST := .node (.tup []) l r
abbrev nu0 : ST := .node (.tup []) .nil .nil
abbrev nr (ρ : Nat → Value) (k : Nat) (l r : ST) : ST := .node (.c (.raw (ρ k))) l r
abbrev np (n o : Nat) (l r : ST) : ST := .node (.c (.ptr n o)) l r
abbrev nc (x : SC) (l r : ST) : ST := .node (.c x) l r
abbrev nv (v : SV) (l r : ST) : ST := .node v l r
abbrev si (k : IntKind) (n : Int) : SC := .int false k n .any
abbrev ti (k : IntKind) (n : Int) : SC := .int true k n .any
abbrev tb (b : Bool) : SC := .boo true b
abbrev fb (b : Bool) : SC := .boo false b
abbrev sp (n o : Nat) : SC := .ptr n o
abbrev rl (ρ : Nat → Value) (k : Nat) : ST := .node (.c (.raw (ρ k))) .nil .nil
abbrev rt (ρ : Nat → Value) (n a b : Nat) : ST := ST.build (fun t => .c (.raw (ρ t))) n 12 a b
def bk (lo hi n : Int) : Bd n := if h : lo ≤ n ∧ n ≤ hi then .w lo hi h else .any
abbrev kb (k : IntKind) (n lo hi : Int) : SC := .int true k n (bk lo hi n)
end Go.Proofs.Ytnfpkadepomjjaa
