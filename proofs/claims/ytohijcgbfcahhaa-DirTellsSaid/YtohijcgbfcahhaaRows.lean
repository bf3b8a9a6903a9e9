/-
  No cell of these rows narrows 'for every input' (looked for: loops, veiled, ifaces, maps, wideKeys, modest, calm, conditions, laid).
  DERIVED. THE GIVEN ROWS OF THIS SEAT. 7 by the template 'for every input the law returns true; each argument reads behind the call as it read before'; 0 by the template 'total and deterministic' (their statements: YtohijcgbfcahhaaTotals.lean).
  GIVEN WITH THE SEED: the statements are not yours to turn. If you find one false, say at which input.
  Laid BY PROGRAM, IN A SANDBOX (cutbox-rows.mjs): the forced cells as the released guide's own fill.sh prints them over the translation 260c75b7bde3a979… (all of the seat's roots in one cut). By AI agents, Wed Nov 11 2026. No macro, syntax, notation, axiom, sorry.
-/
import Derived.Test.YtohijcgbfcahhaaChecked
import GoSem.Claim
import GoSem.ClaimJoined
import GoSem.ClaimMapViews
import Derived.JoinedTies
import Derived.KernelRfl
namespace Go.Proofs.Ytohijcgbfcahhaa
/- THE CELL 'sum', in the pinned program and in every row, IS THE sha256 OF THE DUMP (.gsa) THAT YtohijcgbfcahhaaProg.lean LOADS. Nothing in Lean hashes anything: it is a label: what it is worth is what the hold of that sum in a sandbox is worth. -/
noncomputable def Try.pinned : Pinned := { name := "ytohijcgbfcahhaa", sum := "260c75b7bde3a979d2b85f50e4ebe00b5b745a431724e91f44bb396bdc560357", checked := Try.checked }
namespace Rows
def none {H : Type} : Left H := { results := [], args := [] }

/-- 'roundelaylaw01.FieldsMake': WHATEVER THE INPUT: true; the input reads as it did. -/
def fieldsMakeSpec : ChangeSpec := { name := "fieldsMake", fn := fun _ => fun
  | [d1, d2] => { results := [.lit (.bool true)], args := [d1, d2] }
  | _ => none }
def fieldsMakeRow : OpenClaim := { program := "ytohijcgbfcahhaa", sum := "260c75b7bde3a979d2b85f50e4ebe00b5b745a431724e91f44bb396bdc560357", func := "roundelay/roundelaylaw01.FieldsMake", spec := "fieldsMake", apart := false }
def FieldsMakeSaid : Prop := fieldsMakeRow.holds Try.pinned (OpenSpec.ofChange fieldsMakeSpec)

/-- ITS FALSE NEIGHBOUR: 'it returns false'. Refute it at one input. -/
def fieldsMakeWrong : ChangeSpec := { name := "fieldsMake", fn := fun _ => fun
  | [d1, d2] => { results := [.lit (.bool false)], args := [d1, d2] }
  | _ => none }
def FieldsMakeWrongFalsely : Prop := fieldsMakeRow.holds Try.pinned (OpenSpec.ofChange fieldsMakeWrong)

/-- 'roundelaylaw01.FieldsTell': WHATEVER THE INPUT: true; the input reads as it did. -/
def fieldsTellSpec : ChangeSpec := { name := "fieldsTell", fn := fun _ => fun
  | [d] => { results := [.lit (.bool true)], args := [d] }
  | _ => none }
def fieldsTellRow : OpenClaim := { program := "ytohijcgbfcahhaa", sum := "260c75b7bde3a979d2b85f50e4ebe00b5b745a431724e91f44bb396bdc560357", func := "roundelay/roundelaylaw01.FieldsTell", spec := "fieldsTell", apart := false }
def FieldsTellSaid : Prop := fieldsTellRow.holds Try.pinned (OpenSpec.ofChange fieldsTellSpec)

/-- ITS FALSE NEIGHBOUR: 'it returns false'. Refute it at one input. -/
def fieldsTellWrong : ChangeSpec := { name := "fieldsTell", fn := fun _ => fun
  | [d] => { results := [.lit (.bool false)], args := [d] }
  | _ => none }
def FieldsTellWrongFalsely : Prop := fieldsTellRow.holds Try.pinned (OpenSpec.ofChange fieldsTellWrong)

/-- 'roundelaylaw01.FieldsBack': WHATEVER THE INPUT: true; the input reads as it did. -/
def fieldsBackSpec : ChangeSpec := { name := "fieldsBack", fn := fun _ => fun
  | [d1, d2] => { results := [.lit (.bool true)], args := [d1, d2] }
  | _ => none }
def fieldsBackRow : OpenClaim := { program := "ytohijcgbfcahhaa", sum := "260c75b7bde3a979d2b85f50e4ebe00b5b745a431724e91f44bb396bdc560357", func := "roundelay/roundelaylaw01.FieldsBack", spec := "fieldsBack", apart := false }
def FieldsBackSaid : Prop := fieldsBackRow.holds Try.pinned (OpenSpec.ofChange fieldsBackSpec)

/-- ITS FALSE NEIGHBOUR: 'it returns false'. Refute it at one input. -/
def fieldsBackWrong : ChangeSpec := { name := "fieldsBack", fn := fun _ => fun
  | [d1, d2] => { results := [.lit (.bool false)], args := [d1, d2] }
  | _ => none }
def FieldsBackWrongFalsely : Prop := fieldsBackRow.holds Try.pinned (OpenSpec.ofChange fieldsBackWrong)

/-- 'roundelaylaw01.FieldsTurns': WHATEVER THE INPUT: true; the input reads as it did. -/
def fieldsTurnsSpec : ChangeSpec := { name := "fieldsTurns", fn := fun _ => fun
  | [d1, d2, d3] => { results := [.lit (.bool true)], args := [d1, d2, d3] }
  | _ => none }
def fieldsTurnsRow : OpenClaim := { program := "ytohijcgbfcahhaa", sum := "260c75b7bde3a979d2b85f50e4ebe00b5b745a431724e91f44bb396bdc560357", func := "roundelay/roundelaylaw01.FieldsTurns", spec := "fieldsTurns", apart := false }
def FieldsTurnsSaid : Prop := fieldsTurnsRow.holds Try.pinned (OpenSpec.ofChange fieldsTurnsSpec)

/-- ITS FALSE NEIGHBOUR: 'it returns false'. Refute it at one input. -/
def fieldsTurnsWrong : ChangeSpec := { name := "fieldsTurns", fn := fun _ => fun
  | [d1, d2, d3] => { results := [.lit (.bool false)], args := [d1, d2, d3] }
  | _ => none }
def FieldsTurnsWrongFalsely : Prop := fieldsTurnsRow.holds Try.pinned (OpenSpec.ofChange fieldsTurnsWrong)

/-- 'roundelaylaw10.DirTells': WHATEVER THE INPUT: true; the input reads as it did. -/
def dirTellsSpec : ChangeSpec := { name := "dirTells", fn := fun _ => fun
  | [d] => { results := [.lit (.bool true)], args := [d] }
  | _ => none }
def dirTellsRow : OpenClaim := { program := "ytohijcgbfcahhaa", sum := "260c75b7bde3a979d2b85f50e4ebe00b5b745a431724e91f44bb396bdc560357", func := "roundelay/roundelaylaw10.DirTells", spec := "dirTells", apart := false }
def DirTellsSaid : Prop := dirTellsRow.holds Try.pinned (OpenSpec.ofChange dirTellsSpec)

/-- ITS FALSE NEIGHBOUR: 'it returns false'. Refute it at one input. -/
def dirTellsWrong : ChangeSpec := { name := "dirTells", fn := fun _ => fun
  | [d] => { results := [.lit (.bool false)], args := [d] }
  | _ => none }
def DirTellsWrongFalsely : Prop := dirTellsRow.holds Try.pinned (OpenSpec.ofChange dirTellsWrong)

/-- 'roundelaylaw10.DirApart': WHATEVER THE INPUT: true; the input reads as it did. -/
def dirApartSpec : ChangeSpec := { name := "dirApart", fn := fun _ => fun
  | [d1, d2] => { results := [.lit (.bool true)], args := [d1, d2] }
  | _ => none }
def dirApartRow : OpenClaim := { program := "ytohijcgbfcahhaa", sum := "260c75b7bde3a979d2b85f50e4ebe00b5b745a431724e91f44bb396bdc560357", func := "roundelay/roundelaylaw10.DirApart", spec := "dirApart", apart := false }
def DirApartSaid : Prop := dirApartRow.holds Try.pinned (OpenSpec.ofChange dirApartSpec)

/-- ITS FALSE NEIGHBOUR: 'it returns false'. Refute it at one input. -/
def dirApartWrong : ChangeSpec := { name := "dirApart", fn := fun _ => fun
  | [d1, d2] => { results := [.lit (.bool false)], args := [d1, d2] }
  | _ => none }
def DirApartWrongFalsely : Prop := dirApartRow.holds Try.pinned (OpenSpec.ofChange dirApartWrong)

/-- 'roundelaylaw10.DirMeets': WHATEVER THE INPUT: true; the input reads as it did. -/
def dirMeetsSpec : ChangeSpec := { name := "dirMeets", fn := fun _ => fun
  | [d1, d2] => { results := [.lit (.bool true)], args := [d1, d2] }
  | _ => none }
def dirMeetsRow : OpenClaim := { program := "ytohijcgbfcahhaa", sum := "260c75b7bde3a979d2b85f50e4ebe00b5b745a431724e91f44bb396bdc560357", func := "roundelay/roundelaylaw10.DirMeets", spec := "dirMeets", apart := false }
def DirMeetsSaid : Prop := dirMeetsRow.holds Try.pinned (OpenSpec.ofChange dirMeetsSpec)

/-- ITS FALSE NEIGHBOUR: 'it returns false'. Refute it at one input. -/
def dirMeetsWrong : ChangeSpec := { name := "dirMeets", fn := fun _ => fun
  | [d1, d2] => { results := [.lit (.bool false)], args := [d1, d2] }
  | _ => none }
def DirMeetsWrongFalsely : Prop := dirMeetsRow.holds Try.pinned (OpenSpec.ofChange dirMeetsWrong)

/- THE SECOND FORM. 'bulk': how many values and letters a reading holds, each counted each time it is reached (what is shared counts as often as it is met; a slice's spare places count too). A statement '..UptoSaid' is the law's where the arguments, and the package variables that the reading takes, are together of bulk at most 1048576: NARROWER than '..Said'. Prove '..Said' where nothing that the law and all that it calls make is longer than what came in: it says more and counts as full. Else prove '..UptoSaid'. A law counts once. -/
mutual
def uptoBulk {H : Type} : DataW H → Nat
  | .lit (.string bytes) => bytes.length + 1
  | .lit _ => 1
  | .nil => 1
  | .ptr d => uptoBulk d + 1
  | .slice elems spare => uptoBulkAll elems + uptoBulkAll spare + 1
  | .agg parts => uptoBulkAll parts + 1
  | .iface _ d => uptoBulk d + 1
  | .map entries => uptoBulkEntries entries + 1
  | .held _ => 1
def uptoBulkAll {H : Type} : List (DataW H) → Nat
  | [] => 0
  | d :: r => uptoBulk d + uptoBulkAll r
def uptoBulkEntries {H : Type} : List (Lit × DataW H) → Nat
  | [] => 0
  | x :: r => uptoBulkEntry x + uptoBulkEntries r
def uptoBulkEntry {H : Type} : Lit × DataW H → Nat
  | (.string bytes, d) => bytes.length + uptoBulk d + 1
  | (_, d) => uptoBulk d + 1
 end
def uptoSmall : (H : Type) → List (DataW H) → Bool := fun _ ds => decide (uptoBulkAll ds ≤ 1048576)
def OpenSpec.upto (s : _root_.Go.ChangeSpec) : _root_.Go.OpenSpec := { _root_.Go.OpenSpec.ofChange s with cond := some uptoSmall }

/-- 'roundelaylaw01.FieldsMake', WHERE WHAT IT READS IS OF BULK AT MOST 1048576: true; the input reads as it did. -/
def fieldsMakeUptoRow : OpenClaim := { program := "ytohijcgbfcahhaa", sum := "260c75b7bde3a979d2b85f50e4ebe00b5b745a431724e91f44bb396bdc560357", func := "roundelay/roundelaylaw01.FieldsMake", spec := "fieldsMake", apart := false, narrowed := true }
def FieldsMakeUptoSaid : Prop := fieldsMakeUptoRow.holds Try.pinned (OpenSpec.upto fieldsMakeSpec)

/-- 'roundelaylaw01.FieldsTell', WHERE WHAT IT READS IS OF BULK AT MOST 1048576: true; the input reads as it did. -/
def fieldsTellUptoRow : OpenClaim := { program := "ytohijcgbfcahhaa", sum := "260c75b7bde3a979d2b85f50e4ebe00b5b745a431724e91f44bb396bdc560357", func := "roundelay/roundelaylaw01.FieldsTell", spec := "fieldsTell", apart := false, narrowed := true }
def FieldsTellUptoSaid : Prop := fieldsTellUptoRow.holds Try.pinned (OpenSpec.upto fieldsTellSpec)

/-- 'roundelaylaw01.FieldsBack', WHERE WHAT IT READS IS OF BULK AT MOST 1048576: true; the input reads as it did. -/
def fieldsBackUptoRow : OpenClaim := { program := "ytohijcgbfcahhaa", sum := "260c75b7bde3a979d2b85f50e4ebe00b5b745a431724e91f44bb396bdc560357", func := "roundelay/roundelaylaw01.FieldsBack", spec := "fieldsBack", apart := false, narrowed := true }
def FieldsBackUptoSaid : Prop := fieldsBackUptoRow.holds Try.pinned (OpenSpec.upto fieldsBackSpec)

/-- 'roundelaylaw01.FieldsTurns', WHERE WHAT IT READS IS OF BULK AT MOST 1048576: true; the input reads as it did. -/
def fieldsTurnsUptoRow : OpenClaim := { program := "ytohijcgbfcahhaa", sum := "260c75b7bde3a979d2b85f50e4ebe00b5b745a431724e91f44bb396bdc560357", func := "roundelay/roundelaylaw01.FieldsTurns", spec := "fieldsTurns", apart := false, narrowed := true }
def FieldsTurnsUptoSaid : Prop := fieldsTurnsUptoRow.holds Try.pinned (OpenSpec.upto fieldsTurnsSpec)

/-- 'roundelaylaw10.DirTells', WHERE WHAT IT READS IS OF BULK AT MOST 1048576: true; the input reads as it did. -/
def dirTellsUptoRow : OpenClaim := { program := "ytohijcgbfcahhaa", sum := "260c75b7bde3a979d2b85f50e4ebe00b5b745a431724e91f44bb396bdc560357", func := "roundelay/roundelaylaw10.DirTells", spec := "dirTells", apart := false, narrowed := true }
def DirTellsUptoSaid : Prop := dirTellsUptoRow.holds Try.pinned (OpenSpec.upto dirTellsSpec)

/-- 'roundelaylaw10.DirApart', WHERE WHAT IT READS IS OF BULK AT MOST 1048576: true; the input reads as it did. -/
def dirApartUptoRow : OpenClaim := { program := "ytohijcgbfcahhaa", sum := "260c75b7bde3a979d2b85f50e4ebe00b5b745a431724e91f44bb396bdc560357", func := "roundelay/roundelaylaw10.DirApart", spec := "dirApart", apart := false, narrowed := true }
def DirApartUptoSaid : Prop := dirApartUptoRow.holds Try.pinned (OpenSpec.upto dirApartSpec)

/-- 'roundelaylaw10.DirMeets', WHERE WHAT IT READS IS OF BULK AT MOST 1048576: true; the input reads as it did. -/
def dirMeetsUptoRow : OpenClaim := { program := "ytohijcgbfcahhaa", sum := "260c75b7bde3a979d2b85f50e4ebe00b5b745a431724e91f44bb396bdc560357", func := "roundelay/roundelaylaw10.DirMeets", spec := "dirMeets", apart := false, narrowed := true }
def DirMeetsUptoSaid : Prop := dirMeetsUptoRow.holds Try.pinned (OpenSpec.upto dirMeetsSpec)

end Rows
end Go.Proofs.Ytohijcgbfcahhaa
