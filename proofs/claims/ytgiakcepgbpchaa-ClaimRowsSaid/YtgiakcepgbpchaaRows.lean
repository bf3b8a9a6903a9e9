/-
  No cell of these rows narrows 'for every input' (looked for: loops, veiled, ifaces, maps, wideKeys, modest, calm, conditions, laid).
  DERIVED. THE GIVEN ROWS OF THIS SEAT. 12 by the template 'for every input the law returns true; each argument reads behind the call as it read before'; 0 by the template 'total and deterministic' (their statements: YtgiakcepgbpchaaTotals.lean).
  GIVEN WITH THE SEED: the statements are not yours to turn. If you find one false, say at which input.
  Laid BY PROGRAM, IN A SANDBOX (cutbox-rows.mjs): the forced cells as the released guide's own fill.sh prints them over the translation b8f07930f249f120… (all of the seat's roots in one cut). By AI agents, Wed Nov 11 2026. No macro, syntax, notation, axiom, sorry.
-/
import Derived.Test.YtgiakcepgbpchaaChecked
import GoSem.Claim
import GoSem.ClaimJoined
import GoSem.ClaimMapViews
import Derived.JoinedTies
import Derived.KernelRfl
namespace Go.Proofs.Ytgiakcepgbpchaa
/- THE CELL 'sum', in the pinned program and in every row, IS THE sha256 OF THE DUMP (.gsa) THAT YtgiakcepgbpchaaProg.lean LOADS. Nothing in Lean hashes anything: it is a label: what it is worth is what the hold of that sum in a sandbox is worth. -/
noncomputable def Try.pinned : Pinned := { name := "ytgiakcepgbpchaa", sum := "b8f07930f249f120c4db037dd73cece02833bed03c17d78573a7d83c17752e0a", checked := Try.checked }
namespace Rows
def none {H : Type} : Left H := { results := [], args := [] }

/-- 'roundelaylaw12.CountTops': WHATEVER THE INPUT: true; the input reads as it did. -/
def countTopsSpec : ChangeSpec := { name := "countTops", fn := fun _ => fun
  | [d] => { results := [.lit (.bool true)], args := [d] }
  | _ => none }
def countTopsRow : OpenClaim := { program := "ytgiakcepgbpchaa", sum := "b8f07930f249f120c4db037dd73cece02833bed03c17d78573a7d83c17752e0a", func := "roundelay/roundelaylaw12.CountTops", spec := "countTops", unfollowed := true, recurses := true, apart := false }
def CountTopsSaid : Prop := countTopsRow.holds Try.pinned (OpenSpec.ofChange countTopsSpec)

/-- ITS FALSE NEIGHBOUR: 'it returns false'. Refute it at one input. -/
def countTopsWrong : ChangeSpec := { name := "countTops", fn := fun _ => fun
  | [d] => { results := [.lit (.bool false)], args := [d] }
  | _ => none }
def CountTopsWrongFalsely : Prop := countTopsRow.holds Try.pinned (OpenSpec.ofChange countTopsWrong)

/-- 'roundelaylaw14.HoldWins': WHATEVER THE INPUT: true; the input reads as it did. -/
def holdWinsSpec : ChangeSpec := { name := "holdWins", fn := fun _ => fun
  | [d1, d2, d3] => { results := [.lit (.bool true)], args := [d1, d2, d3] }
  | _ => none }
def holdWinsRow : OpenClaim := { program := "ytgiakcepgbpchaa", sum := "b8f07930f249f120c4db037dd73cece02833bed03c17d78573a7d83c17752e0a", func := "roundelay/roundelaylaw14.HoldWins", spec := "holdWins", unfollowed := true, recurses := true, apart := false }
def HoldWinsSaid : Prop := holdWinsRow.holds Try.pinned (OpenSpec.ofChange holdWinsSpec)

/-- ITS FALSE NEIGHBOUR: 'it returns false'. Refute it at one input. -/
def holdWinsWrong : ChangeSpec := { name := "holdWins", fn := fun _ => fun
  | [d1, d2, d3] => { results := [.lit (.bool false)], args := [d1, d2, d3] }
  | _ => none }
def HoldWinsWrongFalsely : Prop := holdWinsRow.holds Try.pinned (OpenSpec.ofChange holdWinsWrong)

/-- 'roundelaylaw13.CollectFinds': WHATEVER THE INPUT: true; the input reads as it did. -/
def collectFindsSpec : ChangeSpec := { name := "collectFinds", fn := fun _ => fun
  | [d1, d2] => { results := [.lit (.bool true)], args := [d1, d2] }
  | _ => none }
def collectFindsRow : OpenClaim := { program := "ytgiakcepgbpchaa", sum := "b8f07930f249f120c4db037dd73cece02833bed03c17d78573a7d83c17752e0a", func := "roundelay/roundelaylaw13.CollectFinds", spec := "collectFinds", unfollowed := true, recurses := true, apart := false }
def CollectFindsSaid : Prop := collectFindsRow.holds Try.pinned (OpenSpec.ofChange collectFindsSpec)

/-- ITS FALSE NEIGHBOUR: 'it returns false'. Refute it at one input. -/
def collectFindsWrong : ChangeSpec := { name := "collectFinds", fn := fun _ => fun
  | [d1, d2] => { results := [.lit (.bool false)], args := [d1, d2] }
  | _ => none }
def CollectFindsWrongFalsely : Prop := collectFindsRow.holds Try.pinned (OpenSpec.ofChange collectFindsWrong)

/-- 'roundelaylaw13.CollectStill': WHATEVER THE INPUT: true; the input reads as it did. -/
def collectStillSpec : ChangeSpec := { name := "collectStill", fn := fun _ => fun
  | [d] => { results := [.lit (.bool true)], args := [d] }
  | _ => none }
def collectStillRow : OpenClaim := { program := "ytgiakcepgbpchaa", sum := "b8f07930f249f120c4db037dd73cece02833bed03c17d78573a7d83c17752e0a", func := "roundelay/roundelaylaw13.CollectStill", spec := "collectStill", unfollowed := true, recurses := true, apart := false }
def CollectStillSaid : Prop := collectStillRow.holds Try.pinned (OpenSpec.ofChange collectStillSpec)

/-- ITS FALSE NEIGHBOUR: 'it returns false'. Refute it at one input. -/
def collectStillWrong : ChangeSpec := { name := "collectStill", fn := fun _ => fun
  | [d] => { results := [.lit (.bool false)], args := [d] }
  | _ => none }
def CollectStillWrongFalsely : Prop := collectStillRow.holds Try.pinned (OpenSpec.ofChange collectStillWrong)

/-- 'roundelaylaw14.HoldClears': WHATEVER THE INPUT: true; the input reads as it did. -/
def holdClearsSpec : ChangeSpec := { name := "holdClears", fn := fun _ => fun
  | [d1, d2] => { results := [.lit (.bool true)], args := [d1, d2] }
  | _ => none }
def holdClearsRow : OpenClaim := { program := "ytgiakcepgbpchaa", sum := "b8f07930f249f120c4db037dd73cece02833bed03c17d78573a7d83c17752e0a", func := "roundelay/roundelaylaw14.HoldClears", spec := "holdClears", inPlace := ["maps.clone"], unfollowed := true, recurses := true, apart := false }
def HoldClearsSaid : Prop := holdClearsRow.holds Try.pinned (OpenSpec.ofChange holdClearsSpec)

/-- ITS FALSE NEIGHBOUR: 'it returns false'. Refute it at one input. -/
def holdClearsWrong : ChangeSpec := { name := "holdClears", fn := fun _ => fun
  | [d1, d2] => { results := [.lit (.bool false)], args := [d1, d2] }
  | _ => none }
def HoldClearsWrongFalsely : Prop := holdClearsRow.holds Try.pinned (OpenSpec.ofChange holdClearsWrong)

/-- 'roundelaylaw11.ClaimRows': WHATEVER THE INPUT: true; the input reads as it did. -/
def claimRowsSpec : ChangeSpec := { name := "claimRows", fn := fun _ => fun
  | [d1, d2] => { results := [.lit (.bool true)], args := [d1, d2] }
  | _ => none }
def claimRowsRow : OpenClaim := { program := "ytgiakcepgbpchaa", sum := "b8f07930f249f120c4db037dd73cece02833bed03c17d78573a7d83c17752e0a", func := "roundelay/roundelaylaw11.ClaimRows", spec := "claimRows", unfollowed := true, recurses := true, apart := false }
def ClaimRowsSaid : Prop := claimRowsRow.holds Try.pinned (OpenSpec.ofChange claimRowsSpec)

/-- ITS FALSE NEIGHBOUR: 'it returns false'. Refute it at one input. -/
def claimRowsWrong : ChangeSpec := { name := "claimRows", fn := fun _ => fun
  | [d1, d2] => { results := [.lit (.bool false)], args := [d1, d2] }
  | _ => none }
def ClaimRowsWrongFalsely : Prop := claimRowsRow.holds Try.pinned (OpenSpec.ofChange claimRowsWrong)

/-- 'roundelaylaw11.ClaimFew': WHATEVER THE INPUT: true; the input reads as it did. -/
def claimFewSpec : ChangeSpec := { name := "claimFew", fn := fun _ => fun
  | [d1, d2] => { results := [.lit (.bool true)], args := [d1, d2] }
  | _ => none }
def claimFewRow : OpenClaim := { program := "ytgiakcepgbpchaa", sum := "b8f07930f249f120c4db037dd73cece02833bed03c17d78573a7d83c17752e0a", func := "roundelay/roundelaylaw11.ClaimFew", spec := "claimFew", unfollowed := true, recurses := true, apart := false }
def ClaimFewSaid : Prop := claimFewRow.holds Try.pinned (OpenSpec.ofChange claimFewSpec)

/-- ITS FALSE NEIGHBOUR: 'it returns false'. Refute it at one input. -/
def claimFewWrong : ChangeSpec := { name := "claimFew", fn := fun _ => fun
  | [d1, d2] => { results := [.lit (.bool false)], args := [d1, d2] }
  | _ => none }
def ClaimFewWrongFalsely : Prop := claimFewRow.holds Try.pinned (OpenSpec.ofChange claimFewWrong)

/-- 'roundelaylaw17.GatherFinds': WHATEVER THE INPUT: true; the input reads as it did. -/
def gatherFindsSpec : ChangeSpec := { name := "gatherFinds", fn := fun _ => fun
  | [d1, d2] => { results := [.lit (.bool true)], args := [d1, d2] }
  | _ => none }
def gatherFindsRow : OpenClaim := { program := "ytgiakcepgbpchaa", sum := "b8f07930f249f120c4db037dd73cece02833bed03c17d78573a7d83c17752e0a", func := "roundelay/roundelaylaw17.GatherFinds", spec := "gatherFinds", unfollowed := true, recurses := true, apart := false }
def GatherFindsSaid : Prop := gatherFindsRow.holds Try.pinned (OpenSpec.ofChange gatherFindsSpec)

/-- ITS FALSE NEIGHBOUR: 'it returns false'. Refute it at one input. -/
def gatherFindsWrong : ChangeSpec := { name := "gatherFinds", fn := fun _ => fun
  | [d1, d2] => { results := [.lit (.bool false)], args := [d1, d2] }
  | _ => none }
def GatherFindsWrongFalsely : Prop := gatherFindsRow.holds Try.pinned (OpenSpec.ofChange gatherFindsWrong)

/-- 'roundelaylaw17.GatherReads': WHATEVER THE INPUT: true; the input reads as it did. -/
def gatherReadsSpec : ChangeSpec := { name := "gatherReads", fn := fun _ => fun
  | [d] => { results := [.lit (.bool true)], args := [d] }
  | _ => none }
def gatherReadsRow : OpenClaim := { program := "ytgiakcepgbpchaa", sum := "b8f07930f249f120c4db037dd73cece02833bed03c17d78573a7d83c17752e0a", func := "roundelay/roundelaylaw17.GatherReads", spec := "gatherReads", inPlace := ["maps.clone"], unfollowed := true, recurses := true, apart := false }
def GatherReadsSaid : Prop := gatherReadsRow.holds Try.pinned (OpenSpec.ofChange gatherReadsSpec)

/-- ITS FALSE NEIGHBOUR: 'it returns false'. Refute it at one input. -/
def gatherReadsWrong : ChangeSpec := { name := "gatherReads", fn := fun _ => fun
  | [d] => { results := [.lit (.bool false)], args := [d] }
  | _ => none }
def GatherReadsWrongFalsely : Prop := gatherReadsRow.holds Try.pinned (OpenSpec.ofChange gatherReadsWrong)

/-- 'roundelaylaw12.CountBack': WHATEVER THE INPUT: true; the input reads as it did. -/
def countBackSpec : ChangeSpec := { name := "countBack", fn := fun _ => fun
  | [d1, d2] => { results := [.lit (.bool true)], args := [d1, d2] }
  | _ => none }
def countBackRow : OpenClaim := { program := "ytgiakcepgbpchaa", sum := "b8f07930f249f120c4db037dd73cece02833bed03c17d78573a7d83c17752e0a", func := "roundelay/roundelaylaw12.CountBack", spec := "countBack", inPlace := ["maps.clone"], unfollowed := true, recurses := true, apart := false }
def CountBackSaid : Prop := countBackRow.holds Try.pinned (OpenSpec.ofChange countBackSpec)

/-- ITS FALSE NEIGHBOUR: 'it returns false'. Refute it at one input. -/
def countBackWrong : ChangeSpec := { name := "countBack", fn := fun _ => fun
  | [d1, d2] => { results := [.lit (.bool false)], args := [d1, d2] }
  | _ => none }
def CountBackWrongFalsely : Prop := countBackRow.holds Try.pinned (OpenSpec.ofChange countBackWrong)

/-- 'roundelaylaw03.ArenaOnce': WHATEVER THE INPUT: true; the input reads as it did. -/
def arenaOnceSpec : ChangeSpec := { name := "arenaOnce", fn := fun _ => fun
  | [d1, d2] => { results := [.lit (.bool true)], args := [d1, d2] }
  | _ => none }
def arenaOnceRow : OpenClaim := { program := "ytgiakcepgbpchaa", sum := "b8f07930f249f120c4db037dd73cece02833bed03c17d78573a7d83c17752e0a", func := "roundelay/roundelaylaw03.ArenaOnce", spec := "arenaOnce", inPlace := ["maps.clone"], unfollowed := true, recurses := true, apart := false }
def ArenaOnceSaid : Prop := arenaOnceRow.holds Try.pinned (OpenSpec.ofChange arenaOnceSpec)

/-- ITS FALSE NEIGHBOUR: 'it returns false'. Refute it at one input. -/
def arenaOnceWrong : ChangeSpec := { name := "arenaOnce", fn := fun _ => fun
  | [d1, d2] => { results := [.lit (.bool false)], args := [d1, d2] }
  | _ => none }
def ArenaOnceWrongFalsely : Prop := arenaOnceRow.holds Try.pinned (OpenSpec.ofChange arenaOnceWrong)

/-- 'roundelaylaw03.ArenaPlays': WHATEVER THE INPUT: true; the input reads as it did. -/
def arenaPlaysSpec : ChangeSpec := { name := "arenaPlays", fn := fun _ => fun
  | [d1, d2, d3] => { results := [.lit (.bool true)], args := [d1, d2, d3] }
  | _ => none }
def arenaPlaysRow : OpenClaim := { program := "ytgiakcepgbpchaa", sum := "b8f07930f249f120c4db037dd73cece02833bed03c17d78573a7d83c17752e0a", func := "roundelay/roundelaylaw03.ArenaPlays", spec := "arenaPlays", inPlace := ["maps.clone"], unfollowed := true, recurses := true, apart := false }
def ArenaPlaysSaid : Prop := arenaPlaysRow.holds Try.pinned (OpenSpec.ofChange arenaPlaysSpec)

/-- ITS FALSE NEIGHBOUR: 'it returns false'. Refute it at one input. -/
def arenaPlaysWrong : ChangeSpec := { name := "arenaPlays", fn := fun _ => fun
  | [d1, d2, d3] => { results := [.lit (.bool false)], args := [d1, d2, d3] }
  | _ => none }
def ArenaPlaysWrongFalsely : Prop := arenaPlaysRow.holds Try.pinned (OpenSpec.ofChange arenaPlaysWrong)

/- THE SECOND FORM. 'bulk': how many values and letters a reading holds, each counted each time it is reached (what is shared counts as often as it is met; a slice's spare places count too). A statement '..UptoSaid' is the law's where the arguments, and the package variables that the reading takes, are together of bulk at most 1048576: NARROWER than '..Said'. Prove '..Said' where nothing that the law and all that it calls make is longer than what came in: it says more and counts as full. Else prove '..UptoSaid'. A law counts once. -/
mutual
def uptoBulk {H : Type} : DataW H → Nat
  | .lit (.string bytes) => bytes.length + 1
  | .lit _ => 1
  | .nil => 1
  | .ptr d => uptoBulk d + 1
  | .slice elems spare => uptoBulkAll elems + uptoBulkAll spare + 1
  | .agg parts => uptoBulkAll parts + 1
  | .iface _ d => uptoBulk d + 1
  | .map entries => uptoBulkEntries entries + 1
  | .held _ => 1
def uptoBulkAll {H : Type} : List (DataW H) → Nat
  | [] => 0
  | d :: r => uptoBulk d + uptoBulkAll r
def uptoBulkEntries {H : Type} : List (Lit × DataW H) → Nat
  | [] => 0
  | x :: r => uptoBulkEntry x + uptoBulkEntries r
def uptoBulkEntry {H : Type} : Lit × DataW H → Nat
  | (.string bytes, d) => bytes.length + uptoBulk d + 1
  | (_, d) => uptoBulk d + 1
 end
def uptoSmall : (H : Type) → List (DataW H) → Bool := fun _ ds => decide (uptoBulkAll ds ≤ 1048576)
def OpenSpec.upto (s : _root_.Go.ChangeSpec) : _root_.Go.OpenSpec := { _root_.Go.OpenSpec.ofChange s with cond := some uptoSmall }

/-- 'roundelaylaw12.CountTops', WHERE WHAT IT READS IS OF BULK AT MOST 1048576: true; the input reads as it did. -/
def countTopsUptoRow : OpenClaim := { program := "ytgiakcepgbpchaa", sum := "b8f07930f249f120c4db037dd73cece02833bed03c17d78573a7d83c17752e0a", func := "roundelay/roundelaylaw12.CountTops", spec := "countTops", unfollowed := true, recurses := true, apart := false, narrowed := true }
def CountTopsUptoSaid : Prop := countTopsUptoRow.holds Try.pinned (OpenSpec.upto countTopsSpec)

/-- 'roundelaylaw14.HoldWins', WHERE WHAT IT READS IS OF BULK AT MOST 1048576: true; the input reads as it did. -/
def holdWinsUptoRow : OpenClaim := { program := "ytgiakcepgbpchaa", sum := "b8f07930f249f120c4db037dd73cece02833bed03c17d78573a7d83c17752e0a", func := "roundelay/roundelaylaw14.HoldWins", spec := "holdWins", unfollowed := true, recurses := true, apart := false, narrowed := true }
def HoldWinsUptoSaid : Prop := holdWinsUptoRow.holds Try.pinned (OpenSpec.upto holdWinsSpec)

/-- 'roundelaylaw13.CollectFinds', WHERE WHAT IT READS IS OF BULK AT MOST 1048576: true; the input reads as it did. -/
def collectFindsUptoRow : OpenClaim := { program := "ytgiakcepgbpchaa", sum := "b8f07930f249f120c4db037dd73cece02833bed03c17d78573a7d83c17752e0a", func := "roundelay/roundelaylaw13.CollectFinds", spec := "collectFinds", unfollowed := true, recurses := true, apart := false, narrowed := true }
def CollectFindsUptoSaid : Prop := collectFindsUptoRow.holds Try.pinned (OpenSpec.upto collectFindsSpec)

/-- 'roundelaylaw13.CollectStill', WHERE WHAT IT READS IS OF BULK AT MOST 1048576: true; the input reads as it did. -/
def collectStillUptoRow : OpenClaim := { program := "ytgiakcepgbpchaa", sum := "b8f07930f249f120c4db037dd73cece02833bed03c17d78573a7d83c17752e0a", func := "roundelay/roundelaylaw13.CollectStill", spec := "collectStill", unfollowed := true, recurses := true, apart := false, narrowed := true }
def CollectStillUptoSaid : Prop := collectStillUptoRow.holds Try.pinned (OpenSpec.upto collectStillSpec)

/-- 'roundelaylaw14.HoldClears', WHERE WHAT IT READS IS OF BULK AT MOST 1048576: true; the input reads as it did. -/
def holdClearsUptoRow : OpenClaim := { program := "ytgiakcepgbpchaa", sum := "b8f07930f249f120c4db037dd73cece02833bed03c17d78573a7d83c17752e0a", func := "roundelay/roundelaylaw14.HoldClears", spec := "holdClears", inPlace := ["maps.clone"], unfollowed := true, recurses := true, apart := false, narrowed := true }
def HoldClearsUptoSaid : Prop := holdClearsUptoRow.holds Try.pinned (OpenSpec.upto holdClearsSpec)

/-- 'roundelaylaw11.ClaimRows', WHERE WHAT IT READS IS OF BULK AT MOST 1048576: true; the input reads as it did. -/
def claimRowsUptoRow : OpenClaim := { program := "ytgiakcepgbpchaa", sum := "b8f07930f249f120c4db037dd73cece02833bed03c17d78573a7d83c17752e0a", func := "roundelay/roundelaylaw11.ClaimRows", spec := "claimRows", unfollowed := true, recurses := true, apart := false, narrowed := true }
def ClaimRowsUptoSaid : Prop := claimRowsUptoRow.holds Try.pinned (OpenSpec.upto claimRowsSpec)

/-- 'roundelaylaw11.ClaimFew', WHERE WHAT IT READS IS OF BULK AT MOST 1048576: true; the input reads as it did. -/
def claimFewUptoRow : OpenClaim := { program := "ytgiakcepgbpchaa", sum := "b8f07930f249f120c4db037dd73cece02833bed03c17d78573a7d83c17752e0a", func := "roundelay/roundelaylaw11.ClaimFew", spec := "claimFew", unfollowed := true, recurses := true, apart := false, narrowed := true }
def ClaimFewUptoSaid : Prop := claimFewUptoRow.holds Try.pinned (OpenSpec.upto claimFewSpec)

/-- 'roundelaylaw17.GatherFinds', WHERE WHAT IT READS IS OF BULK AT MOST 1048576: true; the input reads as it did. -/
def gatherFindsUptoRow : OpenClaim := { program := "ytgiakcepgbpchaa", sum := "b8f07930f249f120c4db037dd73cece02833bed03c17d78573a7d83c17752e0a", func := "roundelay/roundelaylaw17.GatherFinds", spec := "gatherFinds", unfollowed := true, recurses := true, apart := false, narrowed := true }
def GatherFindsUptoSaid : Prop := gatherFindsUptoRow.holds Try.pinned (OpenSpec.upto gatherFindsSpec)

/-- 'roundelaylaw17.GatherReads', WHERE WHAT IT READS IS OF BULK AT MOST 1048576: true; the input reads as it did. -/
def gatherReadsUptoRow : OpenClaim := { program := "ytgiakcepgbpchaa", sum := "b8f07930f249f120c4db037dd73cece02833bed03c17d78573a7d83c17752e0a", func := "roundelay/roundelaylaw17.GatherReads", spec := "gatherReads", inPlace := ["maps.clone"], unfollowed := true, recurses := true, apart := false, narrowed := true }
def GatherReadsUptoSaid : Prop := gatherReadsUptoRow.holds Try.pinned (OpenSpec.upto gatherReadsSpec)

/-- 'roundelaylaw12.CountBack', WHERE WHAT IT READS IS OF BULK AT MOST 1048576: true; the input reads as it did. -/
def countBackUptoRow : OpenClaim := { program := "ytgiakcepgbpchaa", sum := "b8f07930f249f120c4db037dd73cece02833bed03c17d78573a7d83c17752e0a", func := "roundelay/roundelaylaw12.CountBack", spec := "countBack", inPlace := ["maps.clone"], unfollowed := true, recurses := true, apart := false, narrowed := true }
def CountBackUptoSaid : Prop := countBackUptoRow.holds Try.pinned (OpenSpec.upto countBackSpec)

/-- 'roundelaylaw03.ArenaOnce', WHERE WHAT IT READS IS OF BULK AT MOST 1048576: true; the input reads as it did. -/
def arenaOnceUptoRow : OpenClaim := { program := "ytgiakcepgbpchaa", sum := "b8f07930f249f120c4db037dd73cece02833bed03c17d78573a7d83c17752e0a", func := "roundelay/roundelaylaw03.ArenaOnce", spec := "arenaOnce", inPlace := ["maps.clone"], unfollowed := true, recurses := true, apart := false, narrowed := true }
def ArenaOnceUptoSaid : Prop := arenaOnceUptoRow.holds Try.pinned (OpenSpec.upto arenaOnceSpec)

/-- 'roundelaylaw03.ArenaPlays', WHERE WHAT IT READS IS OF BULK AT MOST 1048576: true; the input reads as it did. -/
def arenaPlaysUptoRow : OpenClaim := { program := "ytgiakcepgbpchaa", sum := "b8f07930f249f120c4db037dd73cece02833bed03c17d78573a7d83c17752e0a", func := "roundelay/roundelaylaw03.ArenaPlays", spec := "arenaPlays", inPlace := ["maps.clone"], unfollowed := true, recurses := true, apart := false, narrowed := true }
def ArenaPlaysUptoSaid : Prop := arenaPlaysUptoRow.holds Try.pinned (OpenSpec.upto arenaPlaysSpec)

end Rows
end Go.Proofs.Ytgiakcepgbpchaa
