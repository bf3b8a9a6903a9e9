/-
  No cell of these rows narrows 'for every input' (looked for: loops, veiled, ifaces, maps, wideKeys, modest, calm, conditions, laid).
  DERIVED. THE GIVEN ROWS OF THIS SEAT. 9 by the template 'for every input the law returns true; each argument reads behind the call as it read before'; 0 by the template 'total and deterministic' (their statements: YtnfpkadepomjjaaTotals.lean).
  GIVEN WITH THE SEED: the statements are not yours to turn. If you find one false, say at which input.
  Laid BY PROGRAM, IN A SANDBOX (cutbox-rows.mjs): the forced cells as the released guide's own fill.sh prints them over the translation 2c5ce814c0cc538f… (all of the seat's roots in one cut). By AI agents, Wed Nov 11 2026. No macro, syntax, notation, axiom, sorry.
-/
import Derived.Test.YtnfpkadepomjjaaChecked
import GoSem.Claim
import GoSem.ClaimJoined
import GoSem.ClaimMapViews
import Derived.JoinedTies
import Derived.KernelRfl
namespace Go.Proofs.Ytnfpkadepomjjaa
/- THE CELL 'sum', in the pinned program and in every row, IS THE sha256 OF THE DUMP (.gsa) THAT YtnfpkadepomjjaaProg.lean LOADS. Nothing in Lean hashes anything: it is a label: what it is worth is what the hold of that sum in a sandbox is worth. -/
noncomputable def Try.pinned : Pinned := { name := "ytnfpkadepomjjaa", sum := "2c5ce814c0cc538f4544aa6365bfe23758b9e6a632a9a7323ed0e320f594d68a", checked := Try.checked }
namespace Rows
def none {H : Type} : Left H := { results := [], args := [] }

/-- 'roundelaylaw13.CollectFinds': WHATEVER THE INPUT: true; the input reads as it did. -/
def collectFindsSpec : ChangeSpec := { name := "collectFinds", fn := fun _ => fun
  | [d1, d2] => { results := [.lit (.bool true)], args := [d1, d2] }
  | _ => none }
def collectFindsRow : OpenClaim := { program := "ytnfpkadepomjjaa", sum := "2c5ce814c0cc538f4544aa6365bfe23758b9e6a632a9a7323ed0e320f594d68a", func := "roundelay/roundelaylaw13.CollectFinds", spec := "collectFinds", unfollowed := true, recurses := true, apart := false }
def CollectFindsSaid : Prop := collectFindsRow.holds Try.pinned (OpenSpec.ofChange collectFindsSpec)

/-- ITS FALSE NEIGHBOUR: 'it returns false'. Refute it at one input. -/
def collectFindsWrong : ChangeSpec := { name := "collectFinds", fn := fun _ => fun
  | [d1, d2] => { results := [.lit (.bool false)], args := [d1, d2] }
  | _ => none }
def CollectFindsWrongFalsely : Prop := collectFindsRow.holds Try.pinned (OpenSpec.ofChange collectFindsWrong)

/-- 'roundelaylaw08.DraftShares': WHATEVER THE INPUT: true; the input reads as it did. -/
def draftSharesSpec : ChangeSpec := { name := "draftShares", fn := fun _ => fun
  | [d1, d2] => { results := [.lit (.bool true)], args := [d1, d2] }
  | _ => none }
def draftSharesRow : OpenClaim := { program := "ytnfpkadepomjjaa", sum := "2c5ce814c0cc538f4544aa6365bfe23758b9e6a632a9a7323ed0e320f594d68a", func := "roundelay/roundelaylaw08.DraftShares", spec := "draftShares", recurses := true, apart := false }
def DraftSharesSaid : Prop := draftSharesRow.holds Try.pinned (OpenSpec.ofChange draftSharesSpec)

/-- ITS FALSE NEIGHBOUR: 'it returns false'. Refute it at one input. -/
def draftSharesWrong : ChangeSpec := { name := "draftShares", fn := fun _ => fun
  | [d1, d2] => { results := [.lit (.bool false)], args := [d1, d2] }
  | _ => none }
def DraftSharesWrongFalsely : Prop := draftSharesRow.holds Try.pinned (OpenSpec.ofChange draftSharesWrong)

/-- 'roundelaylaw08.DraftRaw': WHATEVER THE INPUT: true; the input reads as it did. -/
def draftRawSpec : ChangeSpec := { name := "draftRaw", fn := fun _ => fun
  | [d1, d2, d3] => { results := [.lit (.bool true)], args := [d1, d2, d3] }
  | _ => none }
def draftRawRow : OpenClaim := { program := "ytnfpkadepomjjaa", sum := "2c5ce814c0cc538f4544aa6365bfe23758b9e6a632a9a7323ed0e320f594d68a", func := "roundelay/roundelaylaw08.DraftRaw", spec := "draftRaw", recurses := true, apart := false }
def DraftRawSaid : Prop := draftRawRow.holds Try.pinned (OpenSpec.ofChange draftRawSpec)

/-- ITS FALSE NEIGHBOUR: 'it returns false'. Refute it at one input. -/
def draftRawWrong : ChangeSpec := { name := "draftRaw", fn := fun _ => fun
  | [d1, d2, d3] => { results := [.lit (.bool false)], args := [d1, d2, d3] }
  | _ => none }
def DraftRawWrongFalsely : Prop := draftRawRow.holds Try.pinned (OpenSpec.ofChange draftRawWrong)

/-- 'roundelaylaw11.ClaimFew': WHATEVER THE INPUT: true; the input reads as it did. -/
def claimFewSpec : ChangeSpec := { name := "claimFew", fn := fun _ => fun
  | [d1, d2] => { results := [.lit (.bool true)], args := [d1, d2] }
  | _ => none }
def claimFewRow : OpenClaim := { program := "ytnfpkadepomjjaa", sum := "2c5ce814c0cc538f4544aa6365bfe23758b9e6a632a9a7323ed0e320f594d68a", func := "roundelay/roundelaylaw11.ClaimFew", spec := "claimFew", unfollowed := true, recurses := true, apart := false }
def ClaimFewSaid : Prop := claimFewRow.holds Try.pinned (OpenSpec.ofChange claimFewSpec)

/-- ITS FALSE NEIGHBOUR: 'it returns false'. Refute it at one input. -/
def claimFewWrong : ChangeSpec := { name := "claimFew", fn := fun _ => fun
  | [d1, d2] => { results := [.lit (.bool false)], args := [d1, d2] }
  | _ => none }
def ClaimFewWrongFalsely : Prop := claimFewRow.holds Try.pinned (OpenSpec.ofChange claimFewWrong)

/-- 'roundelaylaw07.QuadFew': WHATEVER THE INPUT: true; the input reads as it did. -/
def quadFewSpec : ChangeSpec := { name := "quadFew", fn := fun _ => fun
  | [d1, d2] => { results := [.lit (.bool true)], args := [d1, d2] }
  | _ => none }
def quadFewRow : OpenClaim := { program := "ytnfpkadepomjjaa", sum := "2c5ce814c0cc538f4544aa6365bfe23758b9e6a632a9a7323ed0e320f594d68a", func := "roundelay/roundelaylaw07.QuadFew", spec := "quadFew", inPlace := ["maps.clone"], unfollowed := true, recurses := true, apart := false }
def QuadFewSaid : Prop := quadFewRow.holds Try.pinned (OpenSpec.ofChange quadFewSpec)

/-- ITS FALSE NEIGHBOUR: 'it returns false'. Refute it at one input. -/
def quadFewWrong : ChangeSpec := { name := "quadFew", fn := fun _ => fun
  | [d1, d2] => { results := [.lit (.bool false)], args := [d1, d2] }
  | _ => none }
def QuadFewWrongFalsely : Prop := quadFewRow.holds Try.pinned (OpenSpec.ofChange quadFewWrong)

/-- 'roundelaylaw09.HeadLists': WHATEVER THE INPUT: true; the input reads as it did. -/
def headListsSpec : ChangeSpec := { name := "headLists", fn := fun _ => fun
  | [d1, d2] => { results := [.lit (.bool true)], args := [d1, d2] }
  | _ => none }
def headListsRow : OpenClaim := { program := "ytnfpkadepomjjaa", sum := "2c5ce814c0cc538f4544aa6365bfe23758b9e6a632a9a7323ed0e320f594d68a", func := "roundelay/roundelaylaw09.HeadLists", spec := "headLists", inPlace := ["maps.clone"], unfollowed := true, recurses := true, apart := false }
def HeadListsSaid : Prop := headListsRow.holds Try.pinned (OpenSpec.ofChange headListsSpec)

/-- ITS FALSE NEIGHBOUR: 'it returns false'. Refute it at one input. -/
def headListsWrong : ChangeSpec := { name := "headLists", fn := fun _ => fun
  | [d1, d2] => { results := [.lit (.bool false)], args := [d1, d2] }
  | _ => none }
def HeadListsWrongFalsely : Prop := headListsRow.holds Try.pinned (OpenSpec.ofChange headListsWrong)

/-- 'roundelaylaw12.CountBack': WHATEVER THE INPUT: true; the input reads as it did. -/
def countBackSpec : ChangeSpec := { name := "countBack", fn := fun _ => fun
  | [d1, d2] => { results := [.lit (.bool true)], args := [d1, d2] }
  | _ => none }
def countBackRow : OpenClaim := { program := "ytnfpkadepomjjaa", sum := "2c5ce814c0cc538f4544aa6365bfe23758b9e6a632a9a7323ed0e320f594d68a", func := "roundelay/roundelaylaw12.CountBack", spec := "countBack", inPlace := ["maps.clone"], unfollowed := true, recurses := true, apart := false }
def CountBackSaid : Prop := countBackRow.holds Try.pinned (OpenSpec.ofChange countBackSpec)

/-- ITS FALSE NEIGHBOUR: 'it returns false'. Refute it at one input. -/
def countBackWrong : ChangeSpec := { name := "countBack", fn := fun _ => fun
  | [d1, d2] => { results := [.lit (.bool false)], args := [d1, d2] }
  | _ => none }
def CountBackWrongFalsely : Prop := countBackRow.holds Try.pinned (OpenSpec.ofChange countBackWrong)

/-- 'roundelaylaw15.AtticBack': WHATEVER THE INPUT: true; the input reads as it did. -/
def atticBackSpec : ChangeSpec := { name := "atticBack", fn := fun _ => fun
  | [d1, d2] => { results := [.lit (.bool true)], args := [d1, d2] }
  | _ => none }
def atticBackRow : OpenClaim := { program := "ytnfpkadepomjjaa", sum := "2c5ce814c0cc538f4544aa6365bfe23758b9e6a632a9a7323ed0e320f594d68a", func := "roundelay/roundelaylaw15.AtticBack", spec := "atticBack", unfollowed := true, recurses := true, apart := false }
def AtticBackSaid : Prop := atticBackRow.holds Try.pinned (OpenSpec.ofChange atticBackSpec)

/-- ITS FALSE NEIGHBOUR: 'it returns false'. Refute it at one input. -/
def atticBackWrong : ChangeSpec := { name := "atticBack", fn := fun _ => fun
  | [d1, d2] => { results := [.lit (.bool false)], args := [d1, d2] }
  | _ => none }
def AtticBackWrongFalsely : Prop := atticBackRow.holds Try.pinned (OpenSpec.ofChange atticBackWrong)

/-- 'roundelaylaw03.ArenaPlays': WHATEVER THE INPUT: true; the input reads as it did. -/
def arenaPlaysSpec : ChangeSpec := { name := "arenaPlays", fn := fun _ => fun
  | [d1, d2, d3] => { results := [.lit (.bool true)], args := [d1, d2, d3] }
  | _ => none }
def arenaPlaysRow : OpenClaim := { program := "ytnfpkadepomjjaa", sum := "2c5ce814c0cc538f4544aa6365bfe23758b9e6a632a9a7323ed0e320f594d68a", func := "roundelay/roundelaylaw03.ArenaPlays", spec := "arenaPlays", inPlace := ["maps.clone"], unfollowed := true, recurses := true, apart := false }
def ArenaPlaysSaid : Prop := arenaPlaysRow.holds Try.pinned (OpenSpec.ofChange arenaPlaysSpec)

/-- ITS FALSE NEIGHBOUR: 'it returns false'. Refute it at one input. -/
def arenaPlaysWrong : ChangeSpec := { name := "arenaPlays", fn := fun _ => fun
  | [d1, d2, d3] => { results := [.lit (.bool false)], args := [d1, d2, d3] }
  | _ => none }
def ArenaPlaysWrongFalsely : Prop := arenaPlaysRow.holds Try.pinned (OpenSpec.ofChange arenaPlaysWrong)

/- THE SECOND FORM. 'bulk': how many values and letters a reading holds, each counted each time it is reached (what is shared counts as often as it is met; a slice's spare places count too). A statement '..UptoSaid' is the law's where the arguments, and the package variables that the reading takes, are together of bulk at most 1048576: NARROWER than '..Said'. Prove '..Said' where nothing that the law and all that it calls make is longer than what came in: it says more and counts as full. Else prove '..UptoSaid'. A law counts once. -/
mutual
def uptoBulk {H : Type} : DataW H → Nat
  | .lit (.string bytes) => bytes.length + 1
  | .lit _ => 1
  | .nil => 1
  | .ptr d => uptoBulk d + 1
  | .slice elems spare => uptoBulkAll elems + uptoBulkAll spare + 1
  | .agg parts => uptoBulkAll parts + 1
  | .iface _ d => uptoBulk d + 1
  | .map entries => uptoBulkEntries entries + 1
  | .held _ => 1
def uptoBulkAll {H : Type} : List (DataW H) → Nat
  | [] => 0
  | d :: r => uptoBulk d + uptoBulkAll r
def uptoBulkEntries {H : Type} : List (Lit × DataW H) → Nat
  | [] => 0
  | x :: r => uptoBulkEntry x + uptoBulkEntries r
def uptoBulkEntry {H : Type} : Lit × DataW H → Nat
  | (.string bytes, d) => bytes.length + uptoBulk d + 1
  | (_, d) => uptoBulk d + 1
 end
def uptoSmall : (H : Type) → List (DataW H) → Bool := fun _ ds => decide (uptoBulkAll ds ≤ 1048576)
def OpenSpec.upto (s : _root_.Go.ChangeSpec) : _root_.Go.OpenSpec := { _root_.Go.OpenSpec.ofChange s with cond := some uptoSmall }

/-- 'roundelaylaw13.CollectFinds', WHERE WHAT IT READS IS OF BULK AT MOST 1048576: true; the input reads as it did. -/
def collectFindsUptoRow : OpenClaim := { program := "ytnfpkadepomjjaa", sum := "2c5ce814c0cc538f4544aa6365bfe23758b9e6a632a9a7323ed0e320f594d68a", func := "roundelay/roundelaylaw13.CollectFinds", spec := "collectFinds", unfollowed := true, recurses := true, apart := false, narrowed := true }
def CollectFindsUptoSaid : Prop := collectFindsUptoRow.holds Try.pinned (OpenSpec.upto collectFindsSpec)

/-- 'roundelaylaw08.DraftShares', WHERE WHAT IT READS IS OF BULK AT MOST 1048576: true; the input reads as it did. -/
def draftSharesUptoRow : OpenClaim := { program := "ytnfpkadepomjjaa", sum := "2c5ce814c0cc538f4544aa6365bfe23758b9e6a632a9a7323ed0e320f594d68a", func := "roundelay/roundelaylaw08.DraftShares", spec := "draftShares", recurses := true, apart := false, narrowed := true }
def DraftSharesUptoSaid : Prop := draftSharesUptoRow.holds Try.pinned (OpenSpec.upto draftSharesSpec)

/-- 'roundelaylaw08.DraftRaw', WHERE WHAT IT READS IS OF BULK AT MOST 1048576: true; the input reads as it did. -/
def draftRawUptoRow : OpenClaim := { program := "ytnfpkadepomjjaa", sum := "2c5ce814c0cc538f4544aa6365bfe23758b9e6a632a9a7323ed0e320f594d68a", func := "roundelay/roundelaylaw08.DraftRaw", spec := "draftRaw", recurses := true, apart := false, narrowed := true }
def DraftRawUptoSaid : Prop := draftRawUptoRow.holds Try.pinned (OpenSpec.upto draftRawSpec)

/-- 'roundelaylaw11.ClaimFew', WHERE WHAT IT READS IS OF BULK AT MOST 1048576: true; the input reads as it did. -/
def claimFewUptoRow : OpenClaim := { program := "ytnfpkadepomjjaa", sum := "2c5ce814c0cc538f4544aa6365bfe23758b9e6a632a9a7323ed0e320f594d68a", func := "roundelay/roundelaylaw11.ClaimFew", spec := "claimFew", unfollowed := true, recurses := true, apart := false, narrowed := true }
def ClaimFewUptoSaid : Prop := claimFewUptoRow.holds Try.pinned (OpenSpec.upto claimFewSpec)

/-- 'roundelaylaw07.QuadFew', WHERE WHAT IT READS IS OF BULK AT MOST 1048576: true; the input reads as it did. -/
def quadFewUptoRow : OpenClaim := { program := "ytnfpkadepomjjaa", sum := "2c5ce814c0cc538f4544aa6365bfe23758b9e6a632a9a7323ed0e320f594d68a", func := "roundelay/roundelaylaw07.QuadFew", spec := "quadFew", inPlace := ["maps.clone"], unfollowed := true, recurses := true, apart := false, narrowed := true }
def QuadFewUptoSaid : Prop := quadFewUptoRow.holds Try.pinned (OpenSpec.upto quadFewSpec)

/-- 'roundelaylaw09.HeadLists', WHERE WHAT IT READS IS OF BULK AT MOST 1048576: true; the input reads as it did. -/
def headListsUptoRow : OpenClaim := { program := "ytnfpkadepomjjaa", sum := "2c5ce814c0cc538f4544aa6365bfe23758b9e6a632a9a7323ed0e320f594d68a", func := "roundelay/roundelaylaw09.HeadLists", spec := "headLists", inPlace := ["maps.clone"], unfollowed := true, recurses := true, apart := false, narrowed := true }
def HeadListsUptoSaid : Prop := headListsUptoRow.holds Try.pinned (OpenSpec.upto headListsSpec)

/-- 'roundelaylaw12.CountBack', WHERE WHAT IT READS IS OF BULK AT MOST 1048576: true; the input reads as it did. -/
def countBackUptoRow : OpenClaim := { program := "ytnfpkadepomjjaa", sum := "2c5ce814c0cc538f4544aa6365bfe23758b9e6a632a9a7323ed0e320f594d68a", func := "roundelay/roundelaylaw12.CountBack", spec := "countBack", inPlace := ["maps.clone"], unfollowed := true, recurses := true, apart := false, narrowed := true }
def CountBackUptoSaid : Prop := countBackUptoRow.holds Try.pinned (OpenSpec.upto countBackSpec)

/-- 'roundelaylaw15.AtticBack', WHERE WHAT IT READS IS OF BULK AT MOST 1048576: true; the input reads as it did. -/
def atticBackUptoRow : OpenClaim := { program := "ytnfpkadepomjjaa", sum := "2c5ce814c0cc538f4544aa6365bfe23758b9e6a632a9a7323ed0e320f594d68a", func := "roundelay/roundelaylaw15.AtticBack", spec := "atticBack", unfollowed := true, recurses := true, apart := false, narrowed := true }
def AtticBackUptoSaid : Prop := atticBackUptoRow.holds Try.pinned (OpenSpec.upto atticBackSpec)

/-- 'roundelaylaw03.ArenaPlays', WHERE WHAT IT READS IS OF BULK AT MOST 1048576: true; the input reads as it did. -/
def arenaPlaysUptoRow : OpenClaim := { program := "ytnfpkadepomjjaa", sum := "2c5ce814c0cc538f4544aa6365bfe23758b9e6a632a9a7323ed0e320f594d68a", func := "roundelay/roundelaylaw03.ArenaPlays", spec := "arenaPlays", inPlace := ["maps.clone"], unfollowed := true, recurses := true, apart := false, narrowed := true }
def ArenaPlaysUptoSaid : Prop := arenaPlaysUptoRow.holds Try.pinned (OpenSpec.upto arenaPlaysSpec)

end Rows
end Go.Proofs.Ytnfpkadepomjjaa
