/-
  No cell of these rows narrows 'for every input' (looked for: loops, veiled, ifaces, maps, wideKeys, modest, calm, conditions, laid).
  DERIVED. THE GIVEN ROWS OF THIS SEAT. 12 by the template 'for every input the law returns true; each argument reads behind the call as it read before'; 0 by the template 'total and deterministic' (their statements: YtcmoffcaiepgbaaTotals.lean).
  GIVEN WITH THE SEED: the statements are not yours to turn. If you find one false, say at which input.
  Laid BY PROGRAM, IN A SANDBOX (cutbox-rows.mjs): the forced cells as the released guide's own fill.sh prints them over the translation 2c1b45ab959c3fb7… (all of the seat's roots in one cut). By AI agents, Wed Nov 11 2026. No macro, syntax, notation, axiom, sorry.
-/
import Derived.Test.YtcmoffcaiepgbaaChecked
import GoSem.Claim
import GoSem.ClaimJoined
import GoSem.ClaimMapViews
import Derived.JoinedTies
import Derived.KernelRfl
namespace Go.Proofs.Ytcmoffcaiepgbaa
/- THE CELL 'sum', in the pinned program and in every row, IS THE sha256 OF THE DUMP (.gsa) THAT YtcmoffcaiepgbaaProg.lean LOADS. Nothing in Lean hashes anything: it is a label: what it is worth is what the hold of that sum in a sandbox is worth. -/
noncomputable def Try.pinned : Pinned := { name := "ytcmoffcaiepgbaa", sum := "2c1b45ab959c3fb7d6748586524e77a6d23c525b925d05336f6ca41685f4569c", checked := Try.checked }
namespace Rows
def none {H : Type} : Left H := { results := [], args := [] }

/-- 'roundelaylaw12.CountTops': WHATEVER THE INPUT: true; the input reads as it did. -/
def countTopsSpec : ChangeSpec := { name := "countTops", fn := fun _ => fun
  | [d] => { results := [.lit (.bool true)], args := [d] }
  | _ => none }
def countTopsRow : OpenClaim := { program := "ytcmoffcaiepgbaa", sum := "2c1b45ab959c3fb7d6748586524e77a6d23c525b925d05336f6ca41685f4569c", func := "roundelay/roundelaylaw12.CountTops", spec := "countTops", unfollowed := true, recurses := true, apart := false }
def CountTopsSaid : Prop := countTopsRow.holds Try.pinned (OpenSpec.ofChange countTopsSpec)

/-- ITS FALSE NEIGHBOUR: 'it returns false'. Refute it at one input. -/
def countTopsWrong : ChangeSpec := { name := "countTops", fn := fun _ => fun
  | [d] => { results := [.lit (.bool false)], args := [d] }
  | _ => none }
def CountTopsWrongFalsely : Prop := countTopsRow.holds Try.pinned (OpenSpec.ofChange countTopsWrong)

/-- 'roundelaylaw07.QuadTells': WHATEVER THE INPUT: true; the input reads as it did. -/
def quadTellsSpec : ChangeSpec := { name := "quadTells", fn := fun _ => fun
  | [d] => { results := [.lit (.bool true)], args := [d] }
  | _ => none }
def quadTellsRow : OpenClaim := { program := "ytcmoffcaiepgbaa", sum := "2c1b45ab959c3fb7d6748586524e77a6d23c525b925d05336f6ca41685f4569c", func := "roundelay/roundelaylaw07.QuadTells", spec := "quadTells", inPlace := ["maps.clone"], unfollowed := true, recurses := true, apart := false }
def QuadTellsSaid : Prop := quadTellsRow.holds Try.pinned (OpenSpec.ofChange quadTellsSpec)

/-- ITS FALSE NEIGHBOUR: 'it returns false'. Refute it at one input. -/
def quadTellsWrong : ChangeSpec := { name := "quadTells", fn := fun _ => fun
  | [d] => { results := [.lit (.bool false)], args := [d] }
  | _ => none }
def QuadTellsWrongFalsely : Prop := quadTellsRow.holds Try.pinned (OpenSpec.ofChange quadTellsWrong)

/-- 'roundelaylaw07.QuadFew': WHATEVER THE INPUT: true; the input reads as it did. -/
def quadFewSpec : ChangeSpec := { name := "quadFew", fn := fun _ => fun
  | [d1, d2] => { results := [.lit (.bool true)], args := [d1, d2] }
  | _ => none }
def quadFewRow : OpenClaim := { program := "ytcmoffcaiepgbaa", sum := "2c1b45ab959c3fb7d6748586524e77a6d23c525b925d05336f6ca41685f4569c", func := "roundelay/roundelaylaw07.QuadFew", spec := "quadFew", inPlace := ["maps.clone"], unfollowed := true, recurses := true, apart := false }
def QuadFewSaid : Prop := quadFewRow.holds Try.pinned (OpenSpec.ofChange quadFewSpec)

/-- ITS FALSE NEIGHBOUR: 'it returns false'. Refute it at one input. -/
def quadFewWrong : ChangeSpec := { name := "quadFew", fn := fun _ => fun
  | [d1, d2] => { results := [.lit (.bool false)], args := [d1, d2] }
  | _ => none }
def QuadFewWrongFalsely : Prop := quadFewRow.holds Try.pinned (OpenSpec.ofChange quadFewWrong)

/-- 'roundelaylaw07.QuadPuts': WHATEVER THE INPUT: true; the input reads as it did. -/
def quadPutsSpec : ChangeSpec := { name := "quadPuts", fn := fun _ => fun
  | [d1, d2, d3] => { results := [.lit (.bool true)], args := [d1, d2, d3] }
  | _ => none }
def quadPutsRow : OpenClaim := { program := "ytcmoffcaiepgbaa", sum := "2c1b45ab959c3fb7d6748586524e77a6d23c525b925d05336f6ca41685f4569c", func := "roundelay/roundelaylaw07.QuadPuts", spec := "quadPuts", inPlace := ["maps.clone"], unfollowed := true, recurses := true, apart := false }
def QuadPutsSaid : Prop := quadPutsRow.holds Try.pinned (OpenSpec.ofChange quadPutsSpec)

/-- ITS FALSE NEIGHBOUR: 'it returns false'. Refute it at one input. -/
def quadPutsWrong : ChangeSpec := { name := "quadPuts", fn := fun _ => fun
  | [d1, d2, d3] => { results := [.lit (.bool false)], args := [d1, d2, d3] }
  | _ => none }
def QuadPutsWrongFalsely : Prop := quadPutsRow.holds Try.pinned (OpenSpec.ofChange quadPutsWrong)

/-- 'roundelaylaw09.HeadPuts': WHATEVER THE INPUT: true; the input reads as it did. -/
def headPutsSpec : ChangeSpec := { name := "headPuts", fn := fun _ => fun
  | [d1, d2, d3] => { results := [.lit (.bool true)], args := [d1, d2, d3] }
  | _ => none }
def headPutsRow : OpenClaim := { program := "ytcmoffcaiepgbaa", sum := "2c1b45ab959c3fb7d6748586524e77a6d23c525b925d05336f6ca41685f4569c", func := "roundelay/roundelaylaw09.HeadPuts", spec := "headPuts", inPlace := ["maps.clone"], unfollowed := true, recurses := true, apart := false }
def HeadPutsSaid : Prop := headPutsRow.holds Try.pinned (OpenSpec.ofChange headPutsSpec)

/-- ITS FALSE NEIGHBOUR: 'it returns false'. Refute it at one input. -/
def headPutsWrong : ChangeSpec := { name := "headPuts", fn := fun _ => fun
  | [d1, d2, d3] => { results := [.lit (.bool false)], args := [d1, d2, d3] }
  | _ => none }
def HeadPutsWrongFalsely : Prop := headPutsRow.holds Try.pinned (OpenSpec.ofChange headPutsWrong)

/-- 'roundelaylaw09.HeadReads': WHATEVER THE INPUT: true; the input reads as it did. -/
def headReadsSpec : ChangeSpec := { name := "headReads", fn := fun _ => fun
  | [d] => { results := [.lit (.bool true)], args := [d] }
  | _ => none }
def headReadsRow : OpenClaim := { program := "ytcmoffcaiepgbaa", sum := "2c1b45ab959c3fb7d6748586524e77a6d23c525b925d05336f6ca41685f4569c", func := "roundelay/roundelaylaw09.HeadReads", spec := "headReads", inPlace := ["maps.clone"], unfollowed := true, recurses := true, apart := false }
def HeadReadsSaid : Prop := headReadsRow.holds Try.pinned (OpenSpec.ofChange headReadsSpec)

/-- ITS FALSE NEIGHBOUR: 'it returns false'. Refute it at one input. -/
def headReadsWrong : ChangeSpec := { name := "headReads", fn := fun _ => fun
  | [d] => { results := [.lit (.bool false)], args := [d] }
  | _ => none }
def HeadReadsWrongFalsely : Prop := headReadsRow.holds Try.pinned (OpenSpec.ofChange headReadsWrong)

/-- 'roundelaylaw09.HeadBack': WHATEVER THE INPUT: true; the input reads as it did. -/
def headBackSpec : ChangeSpec := { name := "headBack", fn := fun _ => fun
  | [d1, d2, d3] => { results := [.lit (.bool true)], args := [d1, d2, d3] }
  | _ => none }
def headBackRow : OpenClaim := { program := "ytcmoffcaiepgbaa", sum := "2c1b45ab959c3fb7d6748586524e77a6d23c525b925d05336f6ca41685f4569c", func := "roundelay/roundelaylaw09.HeadBack", spec := "headBack", inPlace := ["maps.clone"], unfollowed := true, recurses := true, apart := false }
def HeadBackSaid : Prop := headBackRow.holds Try.pinned (OpenSpec.ofChange headBackSpec)

/-- ITS FALSE NEIGHBOUR: 'it returns false'. Refute it at one input. -/
def headBackWrong : ChangeSpec := { name := "headBack", fn := fun _ => fun
  | [d1, d2, d3] => { results := [.lit (.bool false)], args := [d1, d2, d3] }
  | _ => none }
def HeadBackWrongFalsely : Prop := headBackRow.holds Try.pinned (OpenSpec.ofChange headBackWrong)

/-- 'roundelaylaw09.HeadChains': WHATEVER THE INPUT: true; the input reads as it did. -/
def headChainsSpec : ChangeSpec := { name := "headChains", fn := fun _ => fun
  | [d] => { results := [.lit (.bool true)], args := [d] }
  | _ => none }
def headChainsRow : OpenClaim := { program := "ytcmoffcaiepgbaa", sum := "2c1b45ab959c3fb7d6748586524e77a6d23c525b925d05336f6ca41685f4569c", func := "roundelay/roundelaylaw09.HeadChains", spec := "headChains", inPlace := ["maps.clone"], unfollowed := true, recurses := true, apart := false }
def HeadChainsSaid : Prop := headChainsRow.holds Try.pinned (OpenSpec.ofChange headChainsSpec)

/-- ITS FALSE NEIGHBOUR: 'it returns false'. Refute it at one input. -/
def headChainsWrong : ChangeSpec := { name := "headChains", fn := fun _ => fun
  | [d] => { results := [.lit (.bool false)], args := [d] }
  | _ => none }
def HeadChainsWrongFalsely : Prop := headChainsRow.holds Try.pinned (OpenSpec.ofChange headChainsWrong)

/-- 'roundelaylaw09.HeadLists': WHATEVER THE INPUT: true; the input reads as it did. -/
def headListsSpec : ChangeSpec := { name := "headLists", fn := fun _ => fun
  | [d1, d2] => { results := [.lit (.bool true)], args := [d1, d2] }
  | _ => none }
def headListsRow : OpenClaim := { program := "ytcmoffcaiepgbaa", sum := "2c1b45ab959c3fb7d6748586524e77a6d23c525b925d05336f6ca41685f4569c", func := "roundelay/roundelaylaw09.HeadLists", spec := "headLists", inPlace := ["maps.clone"], unfollowed := true, recurses := true, apart := false }
def HeadListsSaid : Prop := headListsRow.holds Try.pinned (OpenSpec.ofChange headListsSpec)

/-- ITS FALSE NEIGHBOUR: 'it returns false'. Refute it at one input. -/
def headListsWrong : ChangeSpec := { name := "headLists", fn := fun _ => fun
  | [d1, d2] => { results := [.lit (.bool false)], args := [d1, d2] }
  | _ => none }
def HeadListsWrongFalsely : Prop := headListsRow.holds Try.pinned (OpenSpec.ofChange headListsWrong)

/-- 'roundelaylaw03.ArenaOnce': WHATEVER THE INPUT: true; the input reads as it did. -/
def arenaOnceSpec : ChangeSpec := { name := "arenaOnce", fn := fun _ => fun
  | [d1, d2] => { results := [.lit (.bool true)], args := [d1, d2] }
  | _ => none }
def arenaOnceRow : OpenClaim := { program := "ytcmoffcaiepgbaa", sum := "2c1b45ab959c3fb7d6748586524e77a6d23c525b925d05336f6ca41685f4569c", func := "roundelay/roundelaylaw03.ArenaOnce", spec := "arenaOnce", inPlace := ["maps.clone"], unfollowed := true, recurses := true, apart := false }
def ArenaOnceSaid : Prop := arenaOnceRow.holds Try.pinned (OpenSpec.ofChange arenaOnceSpec)

/-- ITS FALSE NEIGHBOUR: 'it returns false'. Refute it at one input. -/
def arenaOnceWrong : ChangeSpec := { name := "arenaOnce", fn := fun _ => fun
  | [d1, d2] => { results := [.lit (.bool false)], args := [d1, d2] }
  | _ => none }
def ArenaOnceWrongFalsely : Prop := arenaOnceRow.holds Try.pinned (OpenSpec.ofChange arenaOnceWrong)

/-- 'roundelaylaw03.ArenaPlays': WHATEVER THE INPUT: true; the input reads as it did. -/
def arenaPlaysSpec : ChangeSpec := { name := "arenaPlays", fn := fun _ => fun
  | [d1, d2, d3] => { results := [.lit (.bool true)], args := [d1, d2, d3] }
  | _ => none }
def arenaPlaysRow : OpenClaim := { program := "ytcmoffcaiepgbaa", sum := "2c1b45ab959c3fb7d6748586524e77a6d23c525b925d05336f6ca41685f4569c", func := "roundelay/roundelaylaw03.ArenaPlays", spec := "arenaPlays", inPlace := ["maps.clone"], unfollowed := true, recurses := true, apart := false }
def ArenaPlaysSaid : Prop := arenaPlaysRow.holds Try.pinned (OpenSpec.ofChange arenaPlaysSpec)

/-- ITS FALSE NEIGHBOUR: 'it returns false'. Refute it at one input. -/
def arenaPlaysWrong : ChangeSpec := { name := "arenaPlays", fn := fun _ => fun
  | [d1, d2, d3] => { results := [.lit (.bool false)], args := [d1, d2, d3] }
  | _ => none }
def ArenaPlaysWrongFalsely : Prop := arenaPlaysRow.holds Try.pinned (OpenSpec.ofChange arenaPlaysWrong)

/-- 'roundelaylaw03.ArenaSums': WHATEVER THE INPUT: true; the input reads as it did. -/
def arenaSumsSpec : ChangeSpec := { name := "arenaSums", fn := fun _ => fun
  | [d1, d2] => { results := [.lit (.bool true)], args := [d1, d2] }
  | _ => none }
def arenaSumsRow : OpenClaim := { program := "ytcmoffcaiepgbaa", sum := "2c1b45ab959c3fb7d6748586524e77a6d23c525b925d05336f6ca41685f4569c", func := "roundelay/roundelaylaw03.ArenaSums", spec := "arenaSums", inPlace := ["maps.clone"], unfollowed := true, recurses := true, apart := false }
def ArenaSumsSaid : Prop := arenaSumsRow.holds Try.pinned (OpenSpec.ofChange arenaSumsSpec)

/-- ITS FALSE NEIGHBOUR: 'it returns false'. Refute it at one input. -/
def arenaSumsWrong : ChangeSpec := { name := "arenaSums", fn := fun _ => fun
  | [d1, d2] => { results := [.lit (.bool false)], args := [d1, d2] }
  | _ => none }
def ArenaSumsWrongFalsely : Prop := arenaSumsRow.holds Try.pinned (OpenSpec.ofChange arenaSumsWrong)

/- THE SECOND FORM. 'bulk': how many values and letters a reading holds, each counted each time it is reached (what is shared counts as often as it is met; a slice's spare places count too). A statement '..UptoSaid' is the law's where the arguments, and the package variables that the reading takes, are together of bulk at most 1048576: NARROWER than '..Said'. Prove '..Said' where nothing that the law and all that it calls make is longer than what came in: it says more and counts as full. Else prove '..UptoSaid'. A law counts once. -/
mutual
def uptoBulk {H : Type} : DataW H → Nat
  | .lit (.string bytes) => bytes.length + 1
  | .lit _ => 1
  | .nil => 1
  | .ptr d => uptoBulk d + 1
  | .slice elems spare => uptoBulkAll elems + uptoBulkAll spare + 1
  | .agg parts => uptoBulkAll parts + 1
  | .iface _ d => uptoBulk d + 1
  | .map entries => uptoBulkEntries entries + 1
  | .held _ => 1
def uptoBulkAll {H : Type} : List (DataW H) → Nat
  | [] => 0
  | d :: r => uptoBulk d + uptoBulkAll r
def uptoBulkEntries {H : Type} : List (Lit × DataW H) → Nat
  | [] => 0
  | x :: r => uptoBulkEntry x + uptoBulkEntries r
def uptoBulkEntry {H : Type} : Lit × DataW H → Nat
  | (.string bytes, d) => bytes.length + uptoBulk d + 1
  | (_, d) => uptoBulk d + 1
 end
def uptoSmall : (H : Type) → List (DataW H) → Bool := fun _ ds => decide (uptoBulkAll ds ≤ 1048576)
def OpenSpec.upto (s : _root_.Go.ChangeSpec) : _root_.Go.OpenSpec := { _root_.Go.OpenSpec.ofChange s with cond := some uptoSmall }

/-- 'roundelaylaw12.CountTops', WHERE WHAT IT READS IS OF BULK AT MOST 1048576: true; the input reads as it did. -/
def countTopsUptoRow : OpenClaim := { program := "ytcmoffcaiepgbaa", sum := "2c1b45ab959c3fb7d6748586524e77a6d23c525b925d05336f6ca41685f4569c", func := "roundelay/roundelaylaw12.CountTops", spec := "countTops", unfollowed := true, recurses := true, apart := false, narrowed := true }
def CountTopsUptoSaid : Prop := countTopsUptoRow.holds Try.pinned (OpenSpec.upto countTopsSpec)

/-- 'roundelaylaw07.QuadTells', WHERE WHAT IT READS IS OF BULK AT MOST 1048576: true; the input reads as it did. -/
def quadTellsUptoRow : OpenClaim := { program := "ytcmoffcaiepgbaa", sum := "2c1b45ab959c3fb7d6748586524e77a6d23c525b925d05336f6ca41685f4569c", func := "roundelay/roundelaylaw07.QuadTells", spec := "quadTells", inPlace := ["maps.clone"], unfollowed := true, recurses := true, apart := false, narrowed := true }
def QuadTellsUptoSaid : Prop := quadTellsUptoRow.holds Try.pinned (OpenSpec.upto quadTellsSpec)

/-- 'roundelaylaw07.QuadFew', WHERE WHAT IT READS IS OF BULK AT MOST 1048576: true; the input reads as it did. -/
def quadFewUptoRow : OpenClaim := { program := "ytcmoffcaiepgbaa", sum := "2c1b45ab959c3fb7d6748586524e77a6d23c525b925d05336f6ca41685f4569c", func := "roundelay/roundelaylaw07.QuadFew", spec := "quadFew", inPlace := ["maps.clone"], unfollowed := true, recurses := true, apart := false, narrowed := true }
def QuadFewUptoSaid : Prop := quadFewUptoRow.holds Try.pinned (OpenSpec.upto quadFewSpec)

/-- 'roundelaylaw07.QuadPuts', WHERE WHAT IT READS IS OF BULK AT MOST 1048576: true; the input reads as it did. -/
def quadPutsUptoRow : OpenClaim := { program := "ytcmoffcaiepgbaa", sum := "2c1b45ab959c3fb7d6748586524e77a6d23c525b925d05336f6ca41685f4569c", func := "roundelay/roundelaylaw07.QuadPuts", spec := "quadPuts", inPlace := ["maps.clone"], unfollowed := true, recurses := true, apart := false, narrowed := true }
def QuadPutsUptoSaid : Prop := quadPutsUptoRow.holds Try.pinned (OpenSpec.upto quadPutsSpec)

/-- 'roundelaylaw09.HeadPuts', WHERE WHAT IT READS IS OF BULK AT MOST 1048576: true; the input reads as it did. -/
def headPutsUptoRow : OpenClaim := { program := "ytcmoffcaiepgbaa", sum := "2c1b45ab959c3fb7d6748586524e77a6d23c525b925d05336f6ca41685f4569c", func := "roundelay/roundelaylaw09.HeadPuts", spec := "headPuts", inPlace := ["maps.clone"], unfollowed := true, recurses := true, apart := false, narrowed := true }
def HeadPutsUptoSaid : Prop := headPutsUptoRow.holds Try.pinned (OpenSpec.upto headPutsSpec)

/-- 'roundelaylaw09.HeadReads', WHERE WHAT IT READS IS OF BULK AT MOST 1048576: true; the input reads as it did. -/
def headReadsUptoRow : OpenClaim := { program := "ytcmoffcaiepgbaa", sum := "2c1b45ab959c3fb7d6748586524e77a6d23c525b925d05336f6ca41685f4569c", func := "roundelay/roundelaylaw09.HeadReads", spec := "headReads", inPlace := ["maps.clone"], unfollowed := true, recurses := true, apart := false, narrowed := true }
def HeadReadsUptoSaid : Prop := headReadsUptoRow.holds Try.pinned (OpenSpec.upto headReadsSpec)

/-- 'roundelaylaw09.HeadBack', WHERE WHAT IT READS IS OF BULK AT MOST 1048576: true; the input reads as it did. -/
def headBackUptoRow : OpenClaim := { program := "ytcmoffcaiepgbaa", sum := "2c1b45ab959c3fb7d6748586524e77a6d23c525b925d05336f6ca41685f4569c", func := "roundelay/roundelaylaw09.HeadBack", spec := "headBack", inPlace := ["maps.clone"], unfollowed := true, recurses := true, apart := false, narrowed := true }
def HeadBackUptoSaid : Prop := headBackUptoRow.holds Try.pinned (OpenSpec.upto headBackSpec)

/-- 'roundelaylaw09.HeadChains', WHERE WHAT IT READS IS OF BULK AT MOST 1048576: true; the input reads as it did. -/
def headChainsUptoRow : OpenClaim := { program := "ytcmoffcaiepgbaa", sum := "2c1b45ab959c3fb7d6748586524e77a6d23c525b925d05336f6ca41685f4569c", func := "roundelay/roundelaylaw09.HeadChains", spec := "headChains", inPlace := ["maps.clone"], unfollowed := true, recurses := true, apart := false, narrowed := true }
def HeadChainsUptoSaid : Prop := headChainsUptoRow.holds Try.pinned (OpenSpec.upto headChainsSpec)

/-- 'roundelaylaw09.HeadLists', WHERE WHAT IT READS IS OF BULK AT MOST 1048576: true; the input reads as it did. -/
def headListsUptoRow : OpenClaim := { program := "ytcmoffcaiepgbaa", sum := "2c1b45ab959c3fb7d6748586524e77a6d23c525b925d05336f6ca41685f4569c", func := "roundelay/roundelaylaw09.HeadLists", spec := "headLists", inPlace := ["maps.clone"], unfollowed := true, recurses := true, apart := false, narrowed := true }
def HeadListsUptoSaid : Prop := headListsUptoRow.holds Try.pinned (OpenSpec.upto headListsSpec)

/-- 'roundelaylaw03.ArenaOnce', WHERE WHAT IT READS IS OF BULK AT MOST 1048576: true; the input reads as it did. -/
def arenaOnceUptoRow : OpenClaim := { program := "ytcmoffcaiepgbaa", sum := "2c1b45ab959c3fb7d6748586524e77a6d23c525b925d05336f6ca41685f4569c", func := "roundelay/roundelaylaw03.ArenaOnce", spec := "arenaOnce", inPlace := ["maps.clone"], unfollowed := true, recurses := true, apart := false, narrowed := true }
def ArenaOnceUptoSaid : Prop := arenaOnceUptoRow.holds Try.pinned (OpenSpec.upto arenaOnceSpec)

/-- 'roundelaylaw03.ArenaPlays', WHERE WHAT IT READS IS OF BULK AT MOST 1048576: true; the input reads as it did. -/
def arenaPlaysUptoRow : OpenClaim := { program := "ytcmoffcaiepgbaa", sum := "2c1b45ab959c3fb7d6748586524e77a6d23c525b925d05336f6ca41685f4569c", func := "roundelay/roundelaylaw03.ArenaPlays", spec := "arenaPlays", inPlace := ["maps.clone"], unfollowed := true, recurses := true, apart := false, narrowed := true }
def ArenaPlaysUptoSaid : Prop := arenaPlaysUptoRow.holds Try.pinned (OpenSpec.upto arenaPlaysSpec)

/-- 'roundelaylaw03.ArenaSums', WHERE WHAT IT READS IS OF BULK AT MOST 1048576: true; the input reads as it did. -/
def arenaSumsUptoRow : OpenClaim := { program := "ytcmoffcaiepgbaa", sum := "2c1b45ab959c3fb7d6748586524e77a6d23c525b925d05336f6ca41685f4569c", func := "roundelay/roundelaylaw03.ArenaSums", spec := "arenaSums", inPlace := ["maps.clone"], unfollowed := true, recurses := true, apart := false, narrowed := true }
def ArenaSumsUptoSaid : Prop := arenaSumsUptoRow.holds Try.pinned (OpenSpec.upto arenaSumsSpec)

end Rows
end Go.Proofs.Ytcmoffcaiepgbaa
