/-
  No cell of these rows narrows 'for every input' (looked for: loops, veiled, ifaces, maps, wideKeys, modest, calm, conditions, laid).
  DERIVED. THE GIVEN ROWS OF THIS SEAT. 8 by the template 'for every input the law returns true; each argument reads behind the call as it read before'; 0 by the template 'total and deterministic' (their statements: YtnkikhhiaecebaaTotals.lean).
  GIVEN WITH THE SEED: the statements are not yours to turn. If you find one false, say at which input.
  Laid BY PROGRAM, IN A SANDBOX (cutbox-rows.mjs): the forced cells as the released guide's own fill.sh prints them over the translation 737a53b418245b5a… (all of the seat's roots in one cut). By AI agents, Wed Nov 11 2026. No macro, syntax, notation, axiom, sorry.
-/
import Derived.Test.YtnkikhhiaecebaaChecked
import GoSem.Claim
import GoSem.ClaimJoined
import GoSem.ClaimMapViews
import Derived.JoinedTies
import Derived.KernelRfl
namespace Go.Proofs.Ytnkikhhiaecebaa
/- THE CELL 'sum', in the pinned program and in every row, IS THE sha256 OF THE DUMP (.gsa) THAT YtnkikhhiaecebaaProg.lean LOADS. Nothing in Lean hashes anything: it is a label: what it is worth is what the hold of that sum in a sandbox is worth. -/
noncomputable def Try.pinned : Pinned := { name := "ytnkikhhiaecebaa", sum := "737a53b418245b5ad1c5171cfc91b1facefcdf5aa343ccd74df75ca6734e812c", checked := Try.checked }
namespace Rows
def none {H : Type} : Left H := { results := [], args := [] }

/-- 'roundelaylaw03.ArenaPlays': WHATEVER THE INPUT: true; the input reads as it did. -/
def arenaPlaysSpec : ChangeSpec := { name := "arenaPlays", fn := fun _ => fun
  | [d1, d2, d3] => { results := [.lit (.bool true)], args := [d1, d2, d3] }
  | _ => none }
def arenaPlaysRow : OpenClaim := { program := "ytnkikhhiaecebaa", sum := "737a53b418245b5ad1c5171cfc91b1facefcdf5aa343ccd74df75ca6734e812c", func := "roundelay/roundelaylaw03.ArenaPlays", spec := "arenaPlays", inPlace := ["maps.clone"], unfollowed := true, recurses := true, apart := false }
def ArenaPlaysSaid : Prop := arenaPlaysRow.holds Try.pinned (OpenSpec.ofChange arenaPlaysSpec)

/-- ITS FALSE NEIGHBOUR: 'it returns false'. Refute it at one input. -/
def arenaPlaysWrong : ChangeSpec := { name := "arenaPlays", fn := fun _ => fun
  | [d1, d2, d3] => { results := [.lit (.bool false)], args := [d1, d2, d3] }
  | _ => none }
def ArenaPlaysWrongFalsely : Prop := arenaPlaysRow.holds Try.pinned (OpenSpec.ofChange arenaPlaysWrong)

/-- 'roundelaylaw08.DraftShares': WHATEVER THE INPUT: true; the input reads as it did. -/
def draftSharesSpec : ChangeSpec := { name := "draftShares", fn := fun _ => fun
  | [d1, d2] => { results := [.lit (.bool true)], args := [d1, d2] }
  | _ => none }
def draftSharesRow : OpenClaim := { program := "ytnkikhhiaecebaa", sum := "737a53b418245b5ad1c5171cfc91b1facefcdf5aa343ccd74df75ca6734e812c", func := "roundelay/roundelaylaw08.DraftShares", spec := "draftShares", recurses := true, apart := false }
def DraftSharesSaid : Prop := draftSharesRow.holds Try.pinned (OpenSpec.ofChange draftSharesSpec)

/-- ITS FALSE NEIGHBOUR: 'it returns false'. Refute it at one input. -/
def draftSharesWrong : ChangeSpec := { name := "draftShares", fn := fun _ => fun
  | [d1, d2] => { results := [.lit (.bool false)], args := [d1, d2] }
  | _ => none }
def DraftSharesWrongFalsely : Prop := draftSharesRow.holds Try.pinned (OpenSpec.ofChange draftSharesWrong)

/-- 'roundelaylaw08.DraftRaw': WHATEVER THE INPUT: true; the input reads as it did. -/
def draftRawSpec : ChangeSpec := { name := "draftRaw", fn := fun _ => fun
  | [d1, d2, d3] => { results := [.lit (.bool true)], args := [d1, d2, d3] }
  | _ => none }
def draftRawRow : OpenClaim := { program := "ytnkikhhiaecebaa", sum := "737a53b418245b5ad1c5171cfc91b1facefcdf5aa343ccd74df75ca6734e812c", func := "roundelay/roundelaylaw08.DraftRaw", spec := "draftRaw", recurses := true, apart := false }
def DraftRawSaid : Prop := draftRawRow.holds Try.pinned (OpenSpec.ofChange draftRawSpec)

/-- ITS FALSE NEIGHBOUR: 'it returns false'. Refute it at one input. -/
def draftRawWrong : ChangeSpec := { name := "draftRaw", fn := fun _ => fun
  | [d1, d2, d3] => { results := [.lit (.bool false)], args := [d1, d2, d3] }
  | _ => none }
def DraftRawWrongFalsely : Prop := draftRawRow.holds Try.pinned (OpenSpec.ofChange draftRawWrong)

/-- 'roundelaylaw08.DraftPlays': WHATEVER THE INPUT: true; the input reads as it did. -/
def draftPlaysSpec : ChangeSpec := { name := "draftPlays", fn := fun _ => fun
  | [d] => { results := [.lit (.bool true)], args := [d] }
  | _ => none }
def draftPlaysRow : OpenClaim := { program := "ytnkikhhiaecebaa", sum := "737a53b418245b5ad1c5171cfc91b1facefcdf5aa343ccd74df75ca6734e812c", func := "roundelay/roundelaylaw08.DraftPlays", spec := "draftPlays", unfollowed := true, recurses := true, apart := false }
def DraftPlaysSaid : Prop := draftPlaysRow.holds Try.pinned (OpenSpec.ofChange draftPlaysSpec)

/-- ITS FALSE NEIGHBOUR: 'it returns false'. Refute it at one input. -/
def draftPlaysWrong : ChangeSpec := { name := "draftPlays", fn := fun _ => fun
  | [d] => { results := [.lit (.bool false)], args := [d] }
  | _ => none }
def DraftPlaysWrongFalsely : Prop := draftPlaysRow.holds Try.pinned (OpenSpec.ofChange draftPlaysWrong)

/-- 'roundelaylaw17.GatherFinds': WHATEVER THE INPUT: true; the input reads as it did. -/
def gatherFindsSpec : ChangeSpec := { name := "gatherFinds", fn := fun _ => fun
  | [d1, d2] => { results := [.lit (.bool true)], args := [d1, d2] }
  | _ => none }
def gatherFindsRow : OpenClaim := { program := "ytnkikhhiaecebaa", sum := "737a53b418245b5ad1c5171cfc91b1facefcdf5aa343ccd74df75ca6734e812c", func := "roundelay/roundelaylaw17.GatherFinds", spec := "gatherFinds", unfollowed := true, recurses := true, apart := false }
def GatherFindsSaid : Prop := gatherFindsRow.holds Try.pinned (OpenSpec.ofChange gatherFindsSpec)

/-- ITS FALSE NEIGHBOUR: 'it returns false'. Refute it at one input. -/
def gatherFindsWrong : ChangeSpec := { name := "gatherFinds", fn := fun _ => fun
  | [d1, d2] => { results := [.lit (.bool false)], args := [d1, d2] }
  | _ => none }
def GatherFindsWrongFalsely : Prop := gatherFindsRow.holds Try.pinned (OpenSpec.ofChange gatherFindsWrong)

/-- 'roundelaylaw17.GatherReads': WHATEVER THE INPUT: true; the input reads as it did. -/
def gatherReadsSpec : ChangeSpec := { name := "gatherReads", fn := fun _ => fun
  | [d] => { results := [.lit (.bool true)], args := [d] }
  | _ => none }
def gatherReadsRow : OpenClaim := { program := "ytnkikhhiaecebaa", sum := "737a53b418245b5ad1c5171cfc91b1facefcdf5aa343ccd74df75ca6734e812c", func := "roundelay/roundelaylaw17.GatherReads", spec := "gatherReads", inPlace := ["maps.clone"], unfollowed := true, recurses := true, apart := false }
def GatherReadsSaid : Prop := gatherReadsRow.holds Try.pinned (OpenSpec.ofChange gatherReadsSpec)

/-- ITS FALSE NEIGHBOUR: 'it returns false'. Refute it at one input. -/
def gatherReadsWrong : ChangeSpec := { name := "gatherReads", fn := fun _ => fun
  | [d] => { results := [.lit (.bool false)], args := [d] }
  | _ => none }
def GatherReadsWrongFalsely : Prop := gatherReadsRow.holds Try.pinned (OpenSpec.ofChange gatherReadsWrong)

/-- 'roundelaylaw06.ModelPlays': WHATEVER THE INPUT: true; the input reads as it did. -/
def modelPlaysSpec : ChangeSpec := { name := "modelPlays", fn := fun _ => fun
  | [d] => { results := [.lit (.bool true)], args := [d] }
  | _ => none }
def modelPlaysRow : OpenClaim := { program := "ytnkikhhiaecebaa", sum := "737a53b418245b5ad1c5171cfc91b1facefcdf5aa343ccd74df75ca6734e812c", func := "roundelay/roundelaylaw06.ModelPlays", spec := "modelPlays", inPlace := ["maps.clone"], unfollowed := true, recurses := true, apart := false }
def ModelPlaysSaid : Prop := modelPlaysRow.holds Try.pinned (OpenSpec.ofChange modelPlaysSpec)

/-- ITS FALSE NEIGHBOUR: 'it returns false'. Refute it at one input. -/
def modelPlaysWrong : ChangeSpec := { name := "modelPlays", fn := fun _ => fun
  | [d] => { results := [.lit (.bool false)], args := [d] }
  | _ => none }
def ModelPlaysWrongFalsely : Prop := modelPlaysRow.holds Try.pinned (OpenSpec.ofChange modelPlaysWrong)

/-- 'roundelaylaw15.AtticBack': WHATEVER THE INPUT: true; the input reads as it did. -/
def atticBackSpec : ChangeSpec := { name := "atticBack", fn := fun _ => fun
  | [d1, d2] => { results := [.lit (.bool true)], args := [d1, d2] }
  | _ => none }
def atticBackRow : OpenClaim := { program := "ytnkikhhiaecebaa", sum := "737a53b418245b5ad1c5171cfc91b1facefcdf5aa343ccd74df75ca6734e812c", func := "roundelay/roundelaylaw15.AtticBack", spec := "atticBack", unfollowed := true, recurses := true, apart := false }
def AtticBackSaid : Prop := atticBackRow.holds Try.pinned (OpenSpec.ofChange atticBackSpec)

/-- ITS FALSE NEIGHBOUR: 'it returns false'. Refute it at one input. -/
def atticBackWrong : ChangeSpec := { name := "atticBack", fn := fun _ => fun
  | [d1, d2] => { results := [.lit (.bool false)], args := [d1, d2] }
  | _ => none }
def AtticBackWrongFalsely : Prop := atticBackRow.holds Try.pinned (OpenSpec.ofChange atticBackWrong)

/- THE SECOND FORM. 'bulk': how many values and letters a reading holds, each counted each time it is reached (what is shared counts as often as it is met; a slice's spare places count too). A statement '..UptoSaid' is the law's where the arguments, and the package variables that the reading takes, are together of bulk at most 1048576: NARROWER than '..Said'. Prove '..Said' where nothing that the law and all that it calls make is longer than what came in: it says more and counts as full. Else prove '..UptoSaid'. A law counts once. -/
mutual
def uptoBulk {H : Type} : DataW H → Nat
  | .lit (.string bytes) => bytes.length + 1
  | .lit _ => 1
  | .nil => 1
  | .ptr d => uptoBulk d + 1
  | .slice elems spare => uptoBulkAll elems + uptoBulkAll spare + 1
  | .agg parts => uptoBulkAll parts + 1
  | .iface _ d => uptoBulk d + 1
  | .map entries => uptoBulkEntries entries + 1
  | .held _ => 1
def uptoBulkAll {H : Type} : List (DataW H) → Nat
  | [] => 0
  | d :: r => uptoBulk d + uptoBulkAll r
def uptoBulkEntries {H : Type} : List (Lit × DataW H) → Nat
  | [] => 0
  | x :: r => uptoBulkEntry x + uptoBulkEntries r
def uptoBulkEntry {H : Type} : Lit × DataW H → Nat
  | (.string bytes, d) => bytes.length + uptoBulk d + 1
  | (_, d) => uptoBulk d + 1
 end
def uptoSmall : (H : Type) → List (DataW H) → Bool := fun _ ds => decide (uptoBulkAll ds ≤ 1048576)
def OpenSpec.upto (s : _root_.Go.ChangeSpec) : _root_.Go.OpenSpec := { _root_.Go.OpenSpec.ofChange s with cond := some uptoSmall }

/-- 'roundelaylaw03.ArenaPlays', WHERE WHAT IT READS IS OF BULK AT MOST 1048576: true; the input reads as it did. -/
def arenaPlaysUptoRow : OpenClaim := { program := "ytnkikhhiaecebaa", sum := "737a53b418245b5ad1c5171cfc91b1facefcdf5aa343ccd74df75ca6734e812c", func := "roundelay/roundelaylaw03.ArenaPlays", spec := "arenaPlays", inPlace := ["maps.clone"], unfollowed := true, recurses := true, apart := false, narrowed := true }
def ArenaPlaysUptoSaid : Prop := arenaPlaysUptoRow.holds Try.pinned (OpenSpec.upto arenaPlaysSpec)

/-- 'roundelaylaw08.DraftShares', WHERE WHAT IT READS IS OF BULK AT MOST 1048576: true; the input reads as it did. -/
def draftSharesUptoRow : OpenClaim := { program := "ytnkikhhiaecebaa", sum := "737a53b418245b5ad1c5171cfc91b1facefcdf5aa343ccd74df75ca6734e812c", func := "roundelay/roundelaylaw08.DraftShares", spec := "draftShares", recurses := true, apart := false, narrowed := true }
def DraftSharesUptoSaid : Prop := draftSharesUptoRow.holds Try.pinned (OpenSpec.upto draftSharesSpec)

/-- 'roundelaylaw08.DraftRaw', WHERE WHAT IT READS IS OF BULK AT MOST 1048576: true; the input reads as it did. -/
def draftRawUptoRow : OpenClaim := { program := "ytnkikhhiaecebaa", sum := "737a53b418245b5ad1c5171cfc91b1facefcdf5aa343ccd74df75ca6734e812c", func := "roundelay/roundelaylaw08.DraftRaw", spec := "draftRaw", recurses := true, apart := false, narrowed := true }
def DraftRawUptoSaid : Prop := draftRawUptoRow.holds Try.pinned (OpenSpec.upto draftRawSpec)

/-- 'roundelaylaw08.DraftPlays', WHERE WHAT IT READS IS OF BULK AT MOST 1048576: true; the input reads as it did. -/
def draftPlaysUptoRow : OpenClaim := { program := "ytnkikhhiaecebaa", sum := "737a53b418245b5ad1c5171cfc91b1facefcdf5aa343ccd74df75ca6734e812c", func := "roundelay/roundelaylaw08.DraftPlays", spec := "draftPlays", unfollowed := true, recurses := true, apart := false, narrowed := true }
def DraftPlaysUptoSaid : Prop := draftPlaysUptoRow.holds Try.pinned (OpenSpec.upto draftPlaysSpec)

/-- 'roundelaylaw17.GatherFinds', WHERE WHAT IT READS IS OF BULK AT MOST 1048576: true; the input reads as it did. -/
def gatherFindsUptoRow : OpenClaim := { program := "ytnkikhhiaecebaa", sum := "737a53b418245b5ad1c5171cfc91b1facefcdf5aa343ccd74df75ca6734e812c", func := "roundelay/roundelaylaw17.GatherFinds", spec := "gatherFinds", unfollowed := true, recurses := true, apart := false, narrowed := true }
def GatherFindsUptoSaid : Prop := gatherFindsUptoRow.holds Try.pinned (OpenSpec.upto gatherFindsSpec)

/-- 'roundelaylaw17.GatherReads', WHERE WHAT IT READS IS OF BULK AT MOST 1048576: true; the input reads as it did. -/
def gatherReadsUptoRow : OpenClaim := { program := "ytnkikhhiaecebaa", sum := "737a53b418245b5ad1c5171cfc91b1facefcdf5aa343ccd74df75ca6734e812c", func := "roundelay/roundelaylaw17.GatherReads", spec := "gatherReads", inPlace := ["maps.clone"], unfollowed := true, recurses := true, apart := false, narrowed := true }
def GatherReadsUptoSaid : Prop := gatherReadsUptoRow.holds Try.pinned (OpenSpec.upto gatherReadsSpec)

/-- 'roundelaylaw06.ModelPlays', WHERE WHAT IT READS IS OF BULK AT MOST 1048576: true; the input reads as it did. -/
def modelPlaysUptoRow : OpenClaim := { program := "ytnkikhhiaecebaa", sum := "737a53b418245b5ad1c5171cfc91b1facefcdf5aa343ccd74df75ca6734e812c", func := "roundelay/roundelaylaw06.ModelPlays", spec := "modelPlays", inPlace := ["maps.clone"], unfollowed := true, recurses := true, apart := false, narrowed := true }
def ModelPlaysUptoSaid : Prop := modelPlaysUptoRow.holds Try.pinned (OpenSpec.upto modelPlaysSpec)

/-- 'roundelaylaw15.AtticBack', WHERE WHAT IT READS IS OF BULK AT MOST 1048576: true; the input reads as it did. -/
def atticBackUptoRow : OpenClaim := { program := "ytnkikhhiaecebaa", sum := "737a53b418245b5ad1c5171cfc91b1facefcdf5aa343ccd74df75ca6734e812c", func := "roundelay/roundelaylaw15.AtticBack", spec := "atticBack", unfollowed := true, recurses := true, apart := false, narrowed := true }
def AtticBackUptoSaid : Prop := atticBackUptoRow.holds Try.pinned (OpenSpec.upto atticBackSpec)

end Rows
end Go.Proofs.Ytnkikhhiaecebaa
