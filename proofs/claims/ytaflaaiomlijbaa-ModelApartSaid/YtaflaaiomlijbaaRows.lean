/-
  No cell of these rows narrows 'for every input' (looked for: loops, veiled, ifaces, maps, wideKeys, modest, calm, conditions, laid).
  DERIVED. THE GIVEN ROWS OF THIS SEAT. 6 by the template 'for every input the law returns true; each argument reads behind the call as it read before'; 0 by the template 'total and deterministic' (their statements: YtaflaaiomlijbaaTotals.lean).
  GIVEN WITH THE SEED: the statements are not yours to turn. If you find one false, say at which input.
  Laid BY PROGRAM, IN A SANDBOX (cutbox-rows.mjs): the forced cells as the released guide's own fill.sh prints them over the translation 2635b76729b475d8… (all of the seat's roots in one cut). By AI agents, Wed Nov 11 2026. No macro, syntax, notation, axiom, sorry.
-/
import Derived.Test.YtaflaaiomlijbaaChecked
import GoSem.Claim
import GoSem.ClaimJoined
import GoSem.ClaimMapViews
import Derived.JoinedTies
import Derived.KernelRfl
namespace Go.Proofs.Ytaflaaiomlijbaa
/- THE CELL 'sum', in the pinned program and in every row, IS THE sha256 OF THE DUMP (.gsa) THAT YtaflaaiomlijbaaProg.lean LOADS. Nothing in Lean hashes anything: it is a label: what it is worth is what the hold of that sum in a sandbox is worth. -/
noncomputable def Try.pinned : Pinned := { name := "ytaflaaiomlijbaa", sum := "2635b76729b475d827220626d72499981fe4eb873fda4e90ae7c63301af9b950", checked := Try.checked }
namespace Rows
def none {H : Type} : Left H := { results := [], args := [] }

/-- 'roundelaylaw08.DraftShares': WHATEVER THE INPUT: true; the input reads as it did. -/
def draftSharesSpec : ChangeSpec := { name := "draftShares", fn := fun _ => fun
  | [d1, d2] => { results := [.lit (.bool true)], args := [d1, d2] }
  | _ => none }
def draftSharesRow : OpenClaim := { program := "ytaflaaiomlijbaa", sum := "2635b76729b475d827220626d72499981fe4eb873fda4e90ae7c63301af9b950", func := "roundelay/roundelaylaw08.DraftShares", spec := "draftShares", recurses := true, apart := false }
def DraftSharesSaid : Prop := draftSharesRow.holds Try.pinned (OpenSpec.ofChange draftSharesSpec)

/-- ITS FALSE NEIGHBOUR: 'it returns false'. Refute it at one input. -/
def draftSharesWrong : ChangeSpec := { name := "draftShares", fn := fun _ => fun
  | [d1, d2] => { results := [.lit (.bool false)], args := [d1, d2] }
  | _ => none }
def DraftSharesWrongFalsely : Prop := draftSharesRow.holds Try.pinned (OpenSpec.ofChange draftSharesWrong)

/-- 'roundelaylaw08.DraftRaw': WHATEVER THE INPUT: true; the input reads as it did. -/
def draftRawSpec : ChangeSpec := { name := "draftRaw", fn := fun _ => fun
  | [d1, d2, d3] => { results := [.lit (.bool true)], args := [d1, d2, d3] }
  | _ => none }
def draftRawRow : OpenClaim := { program := "ytaflaaiomlijbaa", sum := "2635b76729b475d827220626d72499981fe4eb873fda4e90ae7c63301af9b950", func := "roundelay/roundelaylaw08.DraftRaw", spec := "draftRaw", recurses := true, apart := false }
def DraftRawSaid : Prop := draftRawRow.holds Try.pinned (OpenSpec.ofChange draftRawSpec)

/-- ITS FALSE NEIGHBOUR: 'it returns false'. Refute it at one input. -/
def draftRawWrong : ChangeSpec := { name := "draftRaw", fn := fun _ => fun
  | [d1, d2, d3] => { results := [.lit (.bool false)], args := [d1, d2, d3] }
  | _ => none }
def DraftRawWrongFalsely : Prop := draftRawRow.holds Try.pinned (OpenSpec.ofChange draftRawWrong)

/-- 'roundelaylaw08.DraftPlays': WHATEVER THE INPUT: true; the input reads as it did. -/
def draftPlaysSpec : ChangeSpec := { name := "draftPlays", fn := fun _ => fun
  | [d] => { results := [.lit (.bool true)], args := [d] }
  | _ => none }
def draftPlaysRow : OpenClaim := { program := "ytaflaaiomlijbaa", sum := "2635b76729b475d827220626d72499981fe4eb873fda4e90ae7c63301af9b950", func := "roundelay/roundelaylaw08.DraftPlays", spec := "draftPlays", unfollowed := true, recurses := true, apart := false }
def DraftPlaysSaid : Prop := draftPlaysRow.holds Try.pinned (OpenSpec.ofChange draftPlaysSpec)

/-- ITS FALSE NEIGHBOUR: 'it returns false'. Refute it at one input. -/
def draftPlaysWrong : ChangeSpec := { name := "draftPlays", fn := fun _ => fun
  | [d] => { results := [.lit (.bool false)], args := [d] }
  | _ => none }
def DraftPlaysWrongFalsely : Prop := draftPlaysRow.holds Try.pinned (OpenSpec.ofChange draftPlaysWrong)

/-- 'roundelaylaw06.ModelPlays': WHATEVER THE INPUT: true; the input reads as it did. -/
def modelPlaysSpec : ChangeSpec := { name := "modelPlays", fn := fun _ => fun
  | [d] => { results := [.lit (.bool true)], args := [d] }
  | _ => none }
def modelPlaysRow : OpenClaim := { program := "ytaflaaiomlijbaa", sum := "2635b76729b475d827220626d72499981fe4eb873fda4e90ae7c63301af9b950", func := "roundelay/roundelaylaw06.ModelPlays", spec := "modelPlays", inPlace := ["maps.clone"], unfollowed := true, recurses := true, apart := false }
def ModelPlaysSaid : Prop := modelPlaysRow.holds Try.pinned (OpenSpec.ofChange modelPlaysSpec)

/-- ITS FALSE NEIGHBOUR: 'it returns false'. Refute it at one input. -/
def modelPlaysWrong : ChangeSpec := { name := "modelPlays", fn := fun _ => fun
  | [d] => { results := [.lit (.bool false)], args := [d] }
  | _ => none }
def ModelPlaysWrongFalsely : Prop := modelPlaysRow.holds Try.pinned (OpenSpec.ofChange modelPlaysWrong)

/-- 'roundelaylaw06.ModelHolds': WHATEVER THE INPUT: true; the input reads as it did. -/
def modelHoldsSpec : ChangeSpec := { name := "modelHolds", fn := fun _ => fun
  | [d] => { results := [.lit (.bool true)], args := [d] }
  | _ => none }
def modelHoldsRow : OpenClaim := { program := "ytaflaaiomlijbaa", sum := "2635b76729b475d827220626d72499981fe4eb873fda4e90ae7c63301af9b950", func := "roundelay/roundelaylaw06.ModelHolds", spec := "modelHolds", inPlace := ["maps.clone"], unfollowed := true, recurses := true, apart := false }
def ModelHoldsSaid : Prop := modelHoldsRow.holds Try.pinned (OpenSpec.ofChange modelHoldsSpec)

/-- ITS FALSE NEIGHBOUR: 'it returns false'. Refute it at one input. -/
def modelHoldsWrong : ChangeSpec := { name := "modelHolds", fn := fun _ => fun
  | [d] => { results := [.lit (.bool false)], args := [d] }
  | _ => none }
def ModelHoldsWrongFalsely : Prop := modelHoldsRow.holds Try.pinned (OpenSpec.ofChange modelHoldsWrong)

/-- 'roundelaylaw06.ModelApart': WHATEVER THE INPUT: true; the input reads as it did. -/
def modelApartSpec : ChangeSpec := { name := "modelApart", fn := fun _ => fun
  | [d1, d2, d3] => { results := [.lit (.bool true)], args := [d1, d2, d3] }
  | _ => none }
def modelApartRow : OpenClaim := { program := "ytaflaaiomlijbaa", sum := "2635b76729b475d827220626d72499981fe4eb873fda4e90ae7c63301af9b950", func := "roundelay/roundelaylaw06.ModelApart", spec := "modelApart", inPlace := ["maps.clone"], unfollowed := true, recurses := true, apart := false }
def ModelApartSaid : Prop := modelApartRow.holds Try.pinned (OpenSpec.ofChange modelApartSpec)

/-- ITS FALSE NEIGHBOUR: 'it returns false'. Refute it at one input. -/
def modelApartWrong : ChangeSpec := { name := "modelApart", fn := fun _ => fun
  | [d1, d2, d3] => { results := [.lit (.bool false)], args := [d1, d2, d3] }
  | _ => none }
def ModelApartWrongFalsely : Prop := modelApartRow.holds Try.pinned (OpenSpec.ofChange modelApartWrong)

/- THE SECOND FORM. 'bulk': how many values and letters a reading holds, each counted each time it is reached (what is shared counts as often as it is met; a slice's spare places count too). A statement '..UptoSaid' is the law's where the arguments, and the package variables that the reading takes, are together of bulk at most 1048576: NARROWER than '..Said'. Prove '..Said' where nothing that the law and all that it calls make is longer than what came in: it says more and counts as full. Else prove '..UptoSaid'. A law counts once. -/
mutual
def uptoBulk {H : Type} : DataW H → Nat
  | .lit (.string bytes) => bytes.length + 1
  | .lit _ => 1
  | .nil => 1
  | .ptr d => uptoBulk d + 1
  | .slice elems spare => uptoBulkAll elems + uptoBulkAll spare + 1
  | .agg parts => uptoBulkAll parts + 1
  | .iface _ d => uptoBulk d + 1
  | .map entries => uptoBulkEntries entries + 1
  | .held _ => 1
def uptoBulkAll {H : Type} : List (DataW H) → Nat
  | [] => 0
  | d :: r => uptoBulk d + uptoBulkAll r
def uptoBulkEntries {H : Type} : List (Lit × DataW H) → Nat
  | [] => 0
  | x :: r => uptoBulkEntry x + uptoBulkEntries r
def uptoBulkEntry {H : Type} : Lit × DataW H → Nat
  | (.string bytes, d) => bytes.length + uptoBulk d + 1
  | (_, d) => uptoBulk d + 1
 end
def uptoSmall : (H : Type) → List (DataW H) → Bool := fun _ ds => decide (uptoBulkAll ds ≤ 1048576)
def OpenSpec.upto (s : _root_.Go.ChangeSpec) : _root_.Go.OpenSpec := { _root_.Go.OpenSpec.ofChange s with cond := some uptoSmall }

/-- 'roundelaylaw08.DraftShares', WHERE WHAT IT READS IS OF BULK AT MOST 1048576: true; the input reads as it did. -/
def draftSharesUptoRow : OpenClaim := { program := "ytaflaaiomlijbaa", sum := "2635b76729b475d827220626d72499981fe4eb873fda4e90ae7c63301af9b950", func := "roundelay/roundelaylaw08.DraftShares", spec := "draftShares", recurses := true, apart := false, narrowed := true }
def DraftSharesUptoSaid : Prop := draftSharesUptoRow.holds Try.pinned (OpenSpec.upto draftSharesSpec)

/-- 'roundelaylaw08.DraftRaw', WHERE WHAT IT READS IS OF BULK AT MOST 1048576: true; the input reads as it did. -/
def draftRawUptoRow : OpenClaim := { program := "ytaflaaiomlijbaa", sum := "2635b76729b475d827220626d72499981fe4eb873fda4e90ae7c63301af9b950", func := "roundelay/roundelaylaw08.DraftRaw", spec := "draftRaw", recurses := true, apart := false, narrowed := true }
def DraftRawUptoSaid : Prop := draftRawUptoRow.holds Try.pinned (OpenSpec.upto draftRawSpec)

/-- 'roundelaylaw08.DraftPlays', WHERE WHAT IT READS IS OF BULK AT MOST 1048576: true; the input reads as it did. -/
def draftPlaysUptoRow : OpenClaim := { program := "ytaflaaiomlijbaa", sum := "2635b76729b475d827220626d72499981fe4eb873fda4e90ae7c63301af9b950", func := "roundelay/roundelaylaw08.DraftPlays", spec := "draftPlays", unfollowed := true, recurses := true, apart := false, narrowed := true }
def DraftPlaysUptoSaid : Prop := draftPlaysUptoRow.holds Try.pinned (OpenSpec.upto draftPlaysSpec)

/-- 'roundelaylaw06.ModelPlays', WHERE WHAT IT READS IS OF BULK AT MOST 1048576: true; the input reads as it did. -/
def modelPlaysUptoRow : OpenClaim := { program := "ytaflaaiomlijbaa", sum := "2635b76729b475d827220626d72499981fe4eb873fda4e90ae7c63301af9b950", func := "roundelay/roundelaylaw06.ModelPlays", spec := "modelPlays", inPlace := ["maps.clone"], unfollowed := true, recurses := true, apart := false, narrowed := true }
def ModelPlaysUptoSaid : Prop := modelPlaysUptoRow.holds Try.pinned (OpenSpec.upto modelPlaysSpec)

/-- 'roundelaylaw06.ModelHolds', WHERE WHAT IT READS IS OF BULK AT MOST 1048576: true; the input reads as it did. -/
def modelHoldsUptoRow : OpenClaim := { program := "ytaflaaiomlijbaa", sum := "2635b76729b475d827220626d72499981fe4eb873fda4e90ae7c63301af9b950", func := "roundelay/roundelaylaw06.ModelHolds", spec := "modelHolds", inPlace := ["maps.clone"], unfollowed := true, recurses := true, apart := false, narrowed := true }
def ModelHoldsUptoSaid : Prop := modelHoldsUptoRow.holds Try.pinned (OpenSpec.upto modelHoldsSpec)

/-- 'roundelaylaw06.ModelApart', WHERE WHAT IT READS IS OF BULK AT MOST 1048576: true; the input reads as it did. -/
def modelApartUptoRow : OpenClaim := { program := "ytaflaaiomlijbaa", sum := "2635b76729b475d827220626d72499981fe4eb873fda4e90ae7c63301af9b950", func := "roundelay/roundelaylaw06.ModelApart", spec := "modelApart", inPlace := ["maps.clone"], unfollowed := true, recurses := true, apart := false, narrowed := true }
def ModelApartUptoSaid : Prop := modelApartUptoRow.holds Try.pinned (OpenSpec.upto modelApartSpec)

end Rows
end Go.Proofs.Ytaflaaiomlijbaa
