/-
  No cell of these rows narrows 'for every input' (looked for: loops, veiled, ifaces, maps, wideKeys, modest, calm, conditions, laid).
  DERIVED. THE GIVEN ROWS OF THIS SEAT. 4 by the template 'for every input the law returns true; each argument reads behind the call as it read before'; 0 by the template 'total and deterministic' (their statements: YtnkbbclcileleaaGreatTotals.lean).
  GIVEN WITH THE SEED: the statements are not yours to turn. If you find one false, say at which input.
  Laid BY PROGRAM, IN A SANDBOX (cutbox-rows.mjs): the forced cells as the released guide's own fill.sh prints them over the translation 153de74b7c4c13c9… (all of the seat's roots in one cut). By AI agents, Wed Nov 11 2026. No macro, syntax, notation, axiom, sorry.
-/
import Derived.Test.YtnkbbclcileleaaGreatChecked
import GoSem.Claim
import GoSem.ClaimJoined
import GoSem.ClaimMapViews
import Derived.JoinedTies
import Derived.KernelRfl
namespace Go.Proofs.YtnkbbclcileleaaGreat
/- THE CELL 'sum', in the pinned program and in every row, IS THE sha256 OF THE DUMP (.gsa) THAT YtnkbbclcileleaaGreatProg.lean LOADS. Nothing in Lean hashes anything: it is a label: what it is worth is what the hold of that sum in a sandbox is worth. -/
noncomputable def Tryz.pinned : Pinned := { name := "ytnkbbclcileleaagreat", sum := "153de74b7c4c13c91a00ba6132928715af95e0f7ea3ff6cf3282f260f6c0475c", checked := Tryz.checked }
namespace Rows
def none {H : Type} : Left H := { results := [], args := [] }

/-- 'gleanlaw8.RecPuts': WHATEVER THE INPUT: true; the input reads as it did. -/
def recPutsSpec : ChangeSpec := { name := "recPuts", fn := fun _ => fun
  | [d] => { results := [.lit (.bool true)], args := [d] }
  | _ => none }
def recPutsRow : OpenClaim := { program := "ytnkbbclcileleaagreat", sum := "153de74b7c4c13c91a00ba6132928715af95e0f7ea3ff6cf3282f260f6c0475c", func := "glean/gleanlaw8.RecPuts", spec := "recPuts", unfollowed := true, recurses := true, apart := false }
def RecPutsSaid : Prop := recPutsRow.holds Tryz.pinned (OpenSpec.ofChange recPutsSpec)

/-- ITS FALSE NEIGHBOUR: 'it returns false'. Refute it at one input. -/
def recPutsWrong : ChangeSpec := { name := "recPuts", fn := fun _ => fun
  | [d] => { results := [.lit (.bool false)], args := [d] }
  | _ => none }
def RecPutsWrongFalsely : Prop := recPutsRow.holds Tryz.pinned (OpenSpec.ofChange recPutsWrong)

/-- 'gleanlaw8.RecReads': WHATEVER THE INPUT: true; the input reads as it did. -/
def recReadsSpec : ChangeSpec := { name := "recReads", fn := fun _ => fun
  | [d] => { results := [.lit (.bool true)], args := [d] }
  | _ => none }
def recReadsRow : OpenClaim := { program := "ytnkbbclcileleaagreat", sum := "153de74b7c4c13c91a00ba6132928715af95e0f7ea3ff6cf3282f260f6c0475c", func := "glean/gleanlaw8.RecReads", spec := "recReads", unfollowed := true, recurses := true, apart := false }
def RecReadsSaid : Prop := recReadsRow.holds Tryz.pinned (OpenSpec.ofChange recReadsSpec)

/-- ITS FALSE NEIGHBOUR: 'it returns false'. Refute it at one input. -/
def recReadsWrong : ChangeSpec := { name := "recReads", fn := fun _ => fun
  | [d] => { results := [.lit (.bool false)], args := [d] }
  | _ => none }
def RecReadsWrongFalsely : Prop := recReadsRow.holds Tryz.pinned (OpenSpec.ofChange recReadsWrong)

/-- 'gleanlaw8.RecOne': WHATEVER THE INPUT: true; the input reads as it did. -/
def recOneSpec : ChangeSpec := { name := "recOne", fn := fun _ => fun
  | [d] => { results := [.lit (.bool true)], args := [d] }
  | _ => none }
def recOneRow : OpenClaim := { program := "ytnkbbclcileleaagreat", sum := "153de74b7c4c13c91a00ba6132928715af95e0f7ea3ff6cf3282f260f6c0475c", func := "glean/gleanlaw8.RecOne", spec := "recOne", unfollowed := true, recurses := true, apart := false }
def RecOneSaid : Prop := recOneRow.holds Tryz.pinned (OpenSpec.ofChange recOneSpec)

/-- ITS FALSE NEIGHBOUR: 'it returns false'. Refute it at one input. -/
def recOneWrong : ChangeSpec := { name := "recOne", fn := fun _ => fun
  | [d] => { results := [.lit (.bool false)], args := [d] }
  | _ => none }
def RecOneWrongFalsely : Prop := recOneRow.holds Tryz.pinned (OpenSpec.ofChange recOneWrong)

/-- 'gleanlaw8.RecBack': WHATEVER THE INPUT: true; the input reads as it did. -/
def recBackSpec : ChangeSpec := { name := "recBack", fn := fun _ => fun
  | [d] => { results := [.lit (.bool true)], args := [d] }
  | _ => none }
def recBackRow : OpenClaim := { program := "ytnkbbclcileleaagreat", sum := "153de74b7c4c13c91a00ba6132928715af95e0f7ea3ff6cf3282f260f6c0475c", func := "glean/gleanlaw8.RecBack", spec := "recBack", unfollowed := true, recurses := true, apart := false }
def RecBackSaid : Prop := recBackRow.holds Tryz.pinned (OpenSpec.ofChange recBackSpec)

/-- ITS FALSE NEIGHBOUR: 'it returns false'. Refute it at one input. -/
def recBackWrong : ChangeSpec := { name := "recBack", fn := fun _ => fun
  | [d] => { results := [.lit (.bool false)], args := [d] }
  | _ => none }
def RecBackWrongFalsely : Prop := recBackRow.holds Tryz.pinned (OpenSpec.ofChange recBackWrong)

/- THE SECOND FORM. 'bulk': how many values and letters a reading holds, each counted each time it is reached (what is shared counts as often as it is met; a slice's spare places count too). A statement '..UptoSaid' is the law's where the arguments, and the package variables that the reading takes, are together of bulk at most 1048576: NARROWER than '..Said'. Prove '..Said' where nothing that the law and all that it calls make is longer than what came in: it says more and counts as full. Else prove '..UptoSaid'. A law counts once. -/
mutual
def uptoBulk {H : Type} : DataW H → Nat
  | .lit (.string bytes) => bytes.length + 1
  | .lit _ => 1
  | .nil => 1
  | .ptr d => uptoBulk d + 1
  | .slice elems spare => uptoBulkAll elems + uptoBulkAll spare + 1
  | .agg parts => uptoBulkAll parts + 1
  | .iface _ d => uptoBulk d + 1
  | .map entries => uptoBulkEntries entries + 1
  | .held _ => 1
def uptoBulkAll {H : Type} : List (DataW H) → Nat
  | [] => 0
  | d :: r => uptoBulk d + uptoBulkAll r
def uptoBulkEntries {H : Type} : List (Lit × DataW H) → Nat
  | [] => 0
  | x :: r => uptoBulkEntry x + uptoBulkEntries r
def uptoBulkEntry {H : Type} : Lit × DataW H → Nat
  | (.string bytes, d) => bytes.length + uptoBulk d + 1
  | (_, d) => uptoBulk d + 1
 end
def uptoSmall : (H : Type) → List (DataW H) → Bool := fun _ ds => decide (uptoBulkAll ds ≤ 1048576)
def OpenSpec.upto (s : _root_.Go.ChangeSpec) : _root_.Go.OpenSpec := { _root_.Go.OpenSpec.ofChange s with cond := some uptoSmall }

/-- 'gleanlaw8.RecPuts', WHERE WHAT IT READS IS OF BULK AT MOST 1048576: true; the input reads as it did. -/
def recPutsUptoRow : OpenClaim := { program := "ytnkbbclcileleaagreat", sum := "153de74b7c4c13c91a00ba6132928715af95e0f7ea3ff6cf3282f260f6c0475c", func := "glean/gleanlaw8.RecPuts", spec := "recPuts", unfollowed := true, recurses := true, apart := false, narrowed := true }
def RecPutsUptoSaid : Prop := recPutsUptoRow.holds Tryz.pinned (OpenSpec.upto recPutsSpec)

/-- 'gleanlaw8.RecReads', WHERE WHAT IT READS IS OF BULK AT MOST 1048576: true; the input reads as it did. -/
def recReadsUptoRow : OpenClaim := { program := "ytnkbbclcileleaagreat", sum := "153de74b7c4c13c91a00ba6132928715af95e0f7ea3ff6cf3282f260f6c0475c", func := "glean/gleanlaw8.RecReads", spec := "recReads", unfollowed := true, recurses := true, apart := false, narrowed := true }
def RecReadsUptoSaid : Prop := recReadsUptoRow.holds Tryz.pinned (OpenSpec.upto recReadsSpec)

/-- 'gleanlaw8.RecOne', WHERE WHAT IT READS IS OF BULK AT MOST 1048576: true; the input reads as it did. -/
def recOneUptoRow : OpenClaim := { program := "ytnkbbclcileleaagreat", sum := "153de74b7c4c13c91a00ba6132928715af95e0f7ea3ff6cf3282f260f6c0475c", func := "glean/gleanlaw8.RecOne", spec := "recOne", unfollowed := true, recurses := true, apart := false, narrowed := true }
def RecOneUptoSaid : Prop := recOneUptoRow.holds Tryz.pinned (OpenSpec.upto recOneSpec)

/-- 'gleanlaw8.RecBack', WHERE WHAT IT READS IS OF BULK AT MOST 1048576: true; the input reads as it did. -/
def recBackUptoRow : OpenClaim := { program := "ytnkbbclcileleaagreat", sum := "153de74b7c4c13c91a00ba6132928715af95e0f7ea3ff6cf3282f260f6c0475c", func := "glean/gleanlaw8.RecBack", spec := "recBack", unfollowed := true, recurses := true, apart := false, narrowed := true }
def RecBackUptoSaid : Prop := recBackUptoRow.holds Tryz.pinned (OpenSpec.upto recBackSpec)

end Rows
end Go.Proofs.YtnkbbclcileleaaGreat
