/-
  No cell of these rows narrows 'for every input' (looked for: loops, veiled, ifaces, maps, wideKeys, modest, calm, conditions, laid).
  DERIVED. THE GIVEN ROWS OF THIS SEAT. 9 by the template 'for every input the law returns true; each argument reads behind the call as it read before'; 0 by the template 'total and deterministic' (their statements: YtebknplbghcemaaTotals.lean).
  GIVEN WITH THE SEED: the statements are not yours to turn. If you find one false, say at which input.
  Laid BY PROGRAM, IN A SANDBOX (cutbox-rows.mjs): the forced cells as the released guide's own fill.sh prints them over the translation 67ba845ab86be280… (all of the seat's roots in one cut). By AI agents, Wed Nov 11 2026. No macro, syntax, notation, axiom, sorry.
-/
import Derived.Test.YtebknplbghcemaaChecked
import GoSem.Claim
import GoSem.ClaimJoined
import GoSem.ClaimMapViews
import Derived.JoinedTies
import Derived.KernelRfl
namespace Go.Proofs.Ytebknplbghcemaa
/- THE CELL 'sum', in the pinned program and in every row, IS THE sha256 OF THE DUMP (.gsa) THAT YtebknplbghcemaaProg.lean LOADS. Nothing in Lean hashes anything: it is a label: what it is worth is what the hold of that sum in a sandbox is worth. -/
noncomputable def Try.pinned : Pinned := { name := "ytebknplbghcemaa", sum := "67ba845ab86be28075942dd51a8530807437cde4fc76513b9459378d20b3cb28", checked := Try.checked }
namespace Rows
def none {H : Type} : Left H := { results := [], args := [] }

/-- 'gleanlaw17.MsgEncode': WHATEVER THE INPUT: true; the input reads as it did. -/
def msgEncodeSpec : ChangeSpec := { name := "msgEncode", fn := fun _ => fun
  | [d] => { results := [.lit (.bool true)], args := [d] }
  | _ => none }
def msgEncodeRow : OpenClaim := { program := "ytebknplbghcemaa", sum := "67ba845ab86be28075942dd51a8530807437cde4fc76513b9459378d20b3cb28", func := "glean/gleanlaw17.MsgEncode", spec := "msgEncode", apart := false }
def MsgEncodeSaid : Prop := msgEncodeRow.holds Try.pinned (OpenSpec.ofChange msgEncodeSpec)

/-- ITS FALSE NEIGHBOUR: 'it returns false'. Refute it at one input. -/
def msgEncodeWrong : ChangeSpec := { name := "msgEncode", fn := fun _ => fun
  | [d] => { results := [.lit (.bool false)], args := [d] }
  | _ => none }
def MsgEncodeWrongFalsely : Prop := msgEncodeRow.holds Try.pinned (OpenSpec.ofChange msgEncodeWrong)

/-- 'gleanlaw17.MsgDecode': WHATEVER THE INPUT: true; the input reads as it did. -/
def msgDecodeSpec : ChangeSpec := { name := "msgDecode", fn := fun _ => fun
  | [d] => { results := [.lit (.bool true)], args := [d] }
  | _ => none }
def msgDecodeRow : OpenClaim := { program := "ytebknplbghcemaa", sum := "67ba845ab86be28075942dd51a8530807437cde4fc76513b9459378d20b3cb28", func := "glean/gleanlaw17.MsgDecode", spec := "msgDecode", apart := false }
def MsgDecodeSaid : Prop := msgDecodeRow.holds Try.pinned (OpenSpec.ofChange msgDecodeSpec)

/-- ITS FALSE NEIGHBOUR: 'it returns false'. Refute it at one input. -/
def msgDecodeWrong : ChangeSpec := { name := "msgDecode", fn := fun _ => fun
  | [d] => { results := [.lit (.bool false)], args := [d] }
  | _ => none }
def MsgDecodeWrongFalsely : Prop := msgDecodeRow.holds Try.pinned (OpenSpec.ofChange msgDecodeWrong)

/-- 'gleanlaw17.MsgBack': WHATEVER THE INPUT: true; the input reads as it did. -/
def msgBackSpec : ChangeSpec := { name := "msgBack", fn := fun _ => fun
  | [d1, d2] => { results := [.lit (.bool true)], args := [d1, d2] }
  | _ => none }
def msgBackRow : OpenClaim := { program := "ytebknplbghcemaa", sum := "67ba845ab86be28075942dd51a8530807437cde4fc76513b9459378d20b3cb28", func := "glean/gleanlaw17.MsgBack", spec := "msgBack", apart := false }
def MsgBackSaid : Prop := msgBackRow.holds Try.pinned (OpenSpec.ofChange msgBackSpec)

/-- ITS FALSE NEIGHBOUR: 'it returns false'. Refute it at one input. -/
def msgBackWrong : ChangeSpec := { name := "msgBack", fn := fun _ => fun
  | [d1, d2] => { results := [.lit (.bool false)], args := [d1, d2] }
  | _ => none }
def MsgBackWrongFalsely : Prop := msgBackRow.holds Try.pinned (OpenSpec.ofChange msgBackWrong)

/-- 'gleanlaw4.EncWrites': WHATEVER THE INPUT: true; the input reads as it did. -/
def encWritesSpec : ChangeSpec := { name := "encWrites", fn := fun _ => fun
  | [d] => { results := [.lit (.bool true)], args := [d] }
  | _ => none }
def encWritesRow : OpenClaim := { program := "ytebknplbghcemaa", sum := "67ba845ab86be28075942dd51a8530807437cde4fc76513b9459378d20b3cb28", func := "glean/gleanlaw4.EncWrites", spec := "encWrites", unfollowed := true, recurses := true, apart := false }
def EncWritesSaid : Prop := encWritesRow.holds Try.pinned (OpenSpec.ofChange encWritesSpec)

/-- ITS FALSE NEIGHBOUR: 'it returns false'. Refute it at one input. -/
def encWritesWrong : ChangeSpec := { name := "encWrites", fn := fun _ => fun
  | [d] => { results := [.lit (.bool false)], args := [d] }
  | _ => none }
def EncWritesWrongFalsely : Prop := encWritesRow.holds Try.pinned (OpenSpec.ofChange encWritesWrong)

/-- 'gleanlaw4.EncJoin': WHATEVER THE INPUT: true; the input reads as it did. -/
def encJoinSpec : ChangeSpec := { name := "encJoin", fn := fun _ => fun
  | [d1, d2] => { results := [.lit (.bool true)], args := [d1, d2] }
  | _ => none }
def encJoinRow : OpenClaim := { program := "ytebknplbghcemaa", sum := "67ba845ab86be28075942dd51a8530807437cde4fc76513b9459378d20b3cb28", func := "glean/gleanlaw4.EncJoin", spec := "encJoin", unfollowed := true, recurses := true, apart := false }
def EncJoinSaid : Prop := encJoinRow.holds Try.pinned (OpenSpec.ofChange encJoinSpec)

/-- ITS FALSE NEIGHBOUR: 'it returns false'. Refute it at one input. -/
def encJoinWrong : ChangeSpec := { name := "encJoin", fn := fun _ => fun
  | [d1, d2] => { results := [.lit (.bool false)], args := [d1, d2] }
  | _ => none }
def EncJoinWrongFalsely : Prop := encJoinRow.holds Try.pinned (OpenSpec.ofChange encJoinWrong)

/-- 'gleanlaw4.EncReads': WHATEVER THE INPUT: true; the input reads as it did. -/
def encReadsSpec : ChangeSpec := { name := "encReads", fn := fun _ => fun
  | [d1, d2] => { results := [.lit (.bool true)], args := [d1, d2] }
  | _ => none }
def encReadsRow : OpenClaim := { program := "ytebknplbghcemaa", sum := "67ba845ab86be28075942dd51a8530807437cde4fc76513b9459378d20b3cb28", func := "glean/gleanlaw4.EncReads", spec := "encReads", unfollowed := true, recurses := true, apart := false }
def EncReadsSaid : Prop := encReadsRow.holds Try.pinned (OpenSpec.ofChange encReadsSpec)

/-- ITS FALSE NEIGHBOUR: 'it returns false'. Refute it at one input. -/
def encReadsWrong : ChangeSpec := { name := "encReads", fn := fun _ => fun
  | [d1, d2] => { results := [.lit (.bool false)], args := [d1, d2] }
  | _ => none }
def EncReadsWrongFalsely : Prop := encReadsRow.holds Try.pinned (OpenSpec.ofChange encReadsWrong)

/-- 'gleanlaw4.EncOne': WHATEVER THE INPUT: true; the input reads as it did. -/
def encOneSpec : ChangeSpec := { name := "encOne", fn := fun _ => fun
  | [d1, d2] => { results := [.lit (.bool true)], args := [d1, d2] }
  | _ => none }
def encOneRow : OpenClaim := { program := "ytebknplbghcemaa", sum := "67ba845ab86be28075942dd51a8530807437cde4fc76513b9459378d20b3cb28", func := "glean/gleanlaw4.EncOne", spec := "encOne", unfollowed := true, recurses := true, apart := false }
def EncOneSaid : Prop := encOneRow.holds Try.pinned (OpenSpec.ofChange encOneSpec)

/-- ITS FALSE NEIGHBOUR: 'it returns false'. Refute it at one input. -/
def encOneWrong : ChangeSpec := { name := "encOne", fn := fun _ => fun
  | [d1, d2] => { results := [.lit (.bool false)], args := [d1, d2] }
  | _ => none }
def EncOneWrongFalsely : Prop := encOneRow.holds Try.pinned (OpenSpec.ofChange encOneWrong)

/-- 'gleanlaw4.EncStops': WHATEVER THE INPUT: true; the input reads as it did. -/
def encStopsSpec : ChangeSpec := { name := "encStops", fn := fun _ => fun
  | [d1, d2] => { results := [.lit (.bool true)], args := [d1, d2] }
  | _ => none }
def encStopsRow : OpenClaim := { program := "ytebknplbghcemaa", sum := "67ba845ab86be28075942dd51a8530807437cde4fc76513b9459378d20b3cb28", func := "glean/gleanlaw4.EncStops", spec := "encStops", unfollowed := true, recurses := true, apart := false }
def EncStopsSaid : Prop := encStopsRow.holds Try.pinned (OpenSpec.ofChange encStopsSpec)

/-- ITS FALSE NEIGHBOUR: 'it returns false'. Refute it at one input. -/
def encStopsWrong : ChangeSpec := { name := "encStops", fn := fun _ => fun
  | [d1, d2] => { results := [.lit (.bool false)], args := [d1, d2] }
  | _ => none }
def EncStopsWrongFalsely : Prop := encStopsRow.holds Try.pinned (OpenSpec.ofChange encStopsWrong)

/-- 'gleanlaw4.EncBack': WHATEVER THE INPUT: true; the input reads as it did. -/
def encBackSpec : ChangeSpec := { name := "encBack", fn := fun _ => fun
  | [d] => { results := [.lit (.bool true)], args := [d] }
  | _ => none }
def encBackRow : OpenClaim := { program := "ytebknplbghcemaa", sum := "67ba845ab86be28075942dd51a8530807437cde4fc76513b9459378d20b3cb28", func := "glean/gleanlaw4.EncBack", spec := "encBack", unfollowed := true, recurses := true, apart := false }
def EncBackSaid : Prop := encBackRow.holds Try.pinned (OpenSpec.ofChange encBackSpec)

/-- ITS FALSE NEIGHBOUR: 'it returns false'. Refute it at one input. -/
def encBackWrong : ChangeSpec := { name := "encBack", fn := fun _ => fun
  | [d] => { results := [.lit (.bool false)], args := [d] }
  | _ => none }
def EncBackWrongFalsely : Prop := encBackRow.holds Try.pinned (OpenSpec.ofChange encBackWrong)

/- THE SECOND FORM. 'bulk': how many values and letters a reading holds, each counted each time it is reached (what is shared counts as often as it is met; a slice's spare places count too). A statement '..UptoSaid' is the law's where the arguments, and the package variables that the reading takes, are together of bulk at most 1048576: NARROWER than '..Said'. Prove '..Said' where nothing that the law and all that it calls make is longer than what came in: it says more and counts as full. Else prove '..UptoSaid'. A law counts once. -/
mutual
def uptoBulk {H : Type} : DataW H → Nat
  | .lit (.string bytes) => bytes.length + 1
  | .lit _ => 1
  | .nil => 1
  | .ptr d => uptoBulk d + 1
  | .slice elems spare => uptoBulkAll elems + uptoBulkAll spare + 1
  | .agg parts => uptoBulkAll parts + 1
  | .iface _ d => uptoBulk d + 1
  | .map entries => uptoBulkEntries entries + 1
  | .held _ => 1
def uptoBulkAll {H : Type} : List (DataW H) → Nat
  | [] => 0
  | d :: r => uptoBulk d + uptoBulkAll r
def uptoBulkEntries {H : Type} : List (Lit × DataW H) → Nat
  | [] => 0
  | x :: r => uptoBulkEntry x + uptoBulkEntries r
def uptoBulkEntry {H : Type} : Lit × DataW H → Nat
  | (.string bytes, d) => bytes.length + uptoBulk d + 1
  | (_, d) => uptoBulk d + 1
 end
def uptoSmall : (H : Type) → List (DataW H) → Bool := fun _ ds => decide (uptoBulkAll ds ≤ 1048576)
def OpenSpec.upto (s : _root_.Go.ChangeSpec) : _root_.Go.OpenSpec := { _root_.Go.OpenSpec.ofChange s with cond := some uptoSmall }

/-- 'gleanlaw17.MsgEncode', WHERE WHAT IT READS IS OF BULK AT MOST 1048576: true; the input reads as it did. -/
def msgEncodeUptoRow : OpenClaim := { program := "ytebknplbghcemaa", sum := "67ba845ab86be28075942dd51a8530807437cde4fc76513b9459378d20b3cb28", func := "glean/gleanlaw17.MsgEncode", spec := "msgEncode", apart := false, narrowed := true }
def MsgEncodeUptoSaid : Prop := msgEncodeUptoRow.holds Try.pinned (OpenSpec.upto msgEncodeSpec)

/-- 'gleanlaw17.MsgDecode', WHERE WHAT IT READS IS OF BULK AT MOST 1048576: true; the input reads as it did. -/
def msgDecodeUptoRow : OpenClaim := { program := "ytebknplbghcemaa", sum := "67ba845ab86be28075942dd51a8530807437cde4fc76513b9459378d20b3cb28", func := "glean/gleanlaw17.MsgDecode", spec := "msgDecode", apart := false, narrowed := true }
def MsgDecodeUptoSaid : Prop := msgDecodeUptoRow.holds Try.pinned (OpenSpec.upto msgDecodeSpec)

/-- 'gleanlaw17.MsgBack', WHERE WHAT IT READS IS OF BULK AT MOST 1048576: true; the input reads as it did. -/
def msgBackUptoRow : OpenClaim := { program := "ytebknplbghcemaa", sum := "67ba845ab86be28075942dd51a8530807437cde4fc76513b9459378d20b3cb28", func := "glean/gleanlaw17.MsgBack", spec := "msgBack", apart := false, narrowed := true }
def MsgBackUptoSaid : Prop := msgBackUptoRow.holds Try.pinned (OpenSpec.upto msgBackSpec)

/-- 'gleanlaw4.EncWrites', WHERE WHAT IT READS IS OF BULK AT MOST 1048576: true; the input reads as it did. -/
def encWritesUptoRow : OpenClaim := { program := "ytebknplbghcemaa", sum := "67ba845ab86be28075942dd51a8530807437cde4fc76513b9459378d20b3cb28", func := "glean/gleanlaw4.EncWrites", spec := "encWrites", unfollowed := true, recurses := true, apart := false, narrowed := true }
def EncWritesUptoSaid : Prop := encWritesUptoRow.holds Try.pinned (OpenSpec.upto encWritesSpec)

/-- 'gleanlaw4.EncJoin', WHERE WHAT IT READS IS OF BULK AT MOST 1048576: true; the input reads as it did. -/
def encJoinUptoRow : OpenClaim := { program := "ytebknplbghcemaa", sum := "67ba845ab86be28075942dd51a8530807437cde4fc76513b9459378d20b3cb28", func := "glean/gleanlaw4.EncJoin", spec := "encJoin", unfollowed := true, recurses := true, apart := false, narrowed := true }
def EncJoinUptoSaid : Prop := encJoinUptoRow.holds Try.pinned (OpenSpec.upto encJoinSpec)

/-- 'gleanlaw4.EncReads', WHERE WHAT IT READS IS OF BULK AT MOST 1048576: true; the input reads as it did. -/
def encReadsUptoRow : OpenClaim := { program := "ytebknplbghcemaa", sum := "67ba845ab86be28075942dd51a8530807437cde4fc76513b9459378d20b3cb28", func := "glean/gleanlaw4.EncReads", spec := "encReads", unfollowed := true, recurses := true, apart := false, narrowed := true }
def EncReadsUptoSaid : Prop := encReadsUptoRow.holds Try.pinned (OpenSpec.upto encReadsSpec)

/-- 'gleanlaw4.EncOne', WHERE WHAT IT READS IS OF BULK AT MOST 1048576: true; the input reads as it did. -/
def encOneUptoRow : OpenClaim := { program := "ytebknplbghcemaa", sum := "67ba845ab86be28075942dd51a8530807437cde4fc76513b9459378d20b3cb28", func := "glean/gleanlaw4.EncOne", spec := "encOne", unfollowed := true, recurses := true, apart := false, narrowed := true }
def EncOneUptoSaid : Prop := encOneUptoRow.holds Try.pinned (OpenSpec.upto encOneSpec)

/-- 'gleanlaw4.EncStops', WHERE WHAT IT READS IS OF BULK AT MOST 1048576: true; the input reads as it did. -/
def encStopsUptoRow : OpenClaim := { program := "ytebknplbghcemaa", sum := "67ba845ab86be28075942dd51a8530807437cde4fc76513b9459378d20b3cb28", func := "glean/gleanlaw4.EncStops", spec := "encStops", unfollowed := true, recurses := true, apart := false, narrowed := true }
def EncStopsUptoSaid : Prop := encStopsUptoRow.holds Try.pinned (OpenSpec.upto encStopsSpec)

/-- 'gleanlaw4.EncBack', WHERE WHAT IT READS IS OF BULK AT MOST 1048576: true; the input reads as it did. -/
def encBackUptoRow : OpenClaim := { program := "ytebknplbghcemaa", sum := "67ba845ab86be28075942dd51a8530807437cde4fc76513b9459378d20b3cb28", func := "glean/gleanlaw4.EncBack", spec := "encBack", unfollowed := true, recurses := true, apart := false, narrowed := true }
def EncBackUptoSaid : Prop := encBackUptoRow.holds Try.pinned (OpenSpec.upto encBackSpec)

end Rows
end Go.Proofs.Ytebknplbghcemaa
