/-
  No cell of these rows narrows 'for every input' (looked for: loops, veiled, ifaces, maps, wideKeys, modest, calm, conditions, laid).
  DERIVED. THE GIVEN ROWS OF THIS SEAT. 4 by the template 'for every input the law returns true; each argument reads behind the call as it read before'; 0 by the template 'total and deterministic' (their statements: YtdoeadoaffmgpaaTotals.lean).
  GIVEN WITH THE SEED: the statements are not yours to turn. If you find one false, say at which input.
  Laid BY PROGRAM, IN A SANDBOX (cutbox-rows.mjs): the forced cells as the released guide's own fill.sh prints them over the translation 8553702ad45fd2e9… (all of the seat's roots in one cut). By AI agents, Wed Nov 11 2026. No macro, syntax, notation, axiom, sorry.
-/
import Derived.Test.YtdoeadoaffmgpaaChecked
import GoSem.Claim
import GoSem.ClaimJoined
import GoSem.ClaimMapViews
import Derived.JoinedTies
import Derived.KernelRfl
namespace Go.Proofs.Ytdoeadoaffmgpaa
/- THE CELL 'sum', in the pinned program and in every row, IS THE sha256 OF THE DUMP (.gsa) THAT YtdoeadoaffmgpaaProg.lean LOADS. Nothing in Lean hashes anything: it is a label: what it is worth is what the hold of that sum in a sandbox is worth. -/
noncomputable def Try.pinned : Pinned := { name := "ytdoeadoaffmgpaa", sum := "8553702ad45fd2e92718726d60171586a7f8060cd6aa5c9b4bde0a0e6bee5fae", checked := Try.checked }
namespace Rows
def none {H : Type} : Left H := { results := [], args := [] }

/-- 'gleanlaw7.KeysMake': WHATEVER THE INPUT: true; the input reads as it did. -/
def keysMakeSpec : ChangeSpec := { name := "keysMake", fn := fun _ => fun
  | [d1, d2, d3] => { results := [.lit (.bool true)], args := [d1, d2, d3] }
  | _ => none }
def keysMakeRow : OpenClaim := { program := "ytdoeadoaffmgpaa", sum := "8553702ad45fd2e92718726d60171586a7f8060cd6aa5c9b4bde0a0e6bee5fae", func := "glean/gleanlaw7.KeysMake", spec := "keysMake", apart := false }
def KeysMakeSaid : Prop := keysMakeRow.holds Try.pinned (OpenSpec.ofChange keysMakeSpec)

/-- ITS FALSE NEIGHBOUR: 'it returns false'. Refute it at one input. -/
def keysMakeWrong : ChangeSpec := { name := "keysMake", fn := fun _ => fun
  | [d1, d2, d3] => { results := [.lit (.bool false)], args := [d1, d2, d3] }
  | _ => none }
def KeysMakeWrongFalsely : Prop := keysMakeRow.holds Try.pinned (OpenSpec.ofChange keysMakeWrong)

/-- 'gleanlaw7.KeysRead': WHATEVER THE INPUT: true; the input reads as it did. -/
def keysReadSpec : ChangeSpec := { name := "keysRead", fn := fun _ => fun
  | [d] => { results := [.lit (.bool true)], args := [d] }
  | _ => none }
def keysReadRow : OpenClaim := { program := "ytdoeadoaffmgpaa", sum := "8553702ad45fd2e92718726d60171586a7f8060cd6aa5c9b4bde0a0e6bee5fae", func := "glean/gleanlaw7.KeysRead", spec := "keysRead", apart := false }
def KeysReadSaid : Prop := keysReadRow.holds Try.pinned (OpenSpec.ofChange keysReadSpec)

/-- ITS FALSE NEIGHBOUR: 'it returns false'. Refute it at one input. -/
def keysReadWrong : ChangeSpec := { name := "keysRead", fn := fun _ => fun
  | [d] => { results := [.lit (.bool false)], args := [d] }
  | _ => none }
def KeysReadWrongFalsely : Prop := keysReadRow.holds Try.pinned (OpenSpec.ofChange keysReadWrong)

/-- 'gleanlaw7.KeysOrder': WHATEVER THE INPUT: true; the input reads as it did. -/
def keysOrderSpec : ChangeSpec := { name := "keysOrder", fn := fun _ => fun
  | [d1, d2, d3, d4, d5, d6] => { results := [.lit (.bool true)], args := [d1, d2, d3, d4, d5, d6] }
  | _ => none }
def keysOrderRow : OpenClaim := { program := "ytdoeadoaffmgpaa", sum := "8553702ad45fd2e92718726d60171586a7f8060cd6aa5c9b4bde0a0e6bee5fae", func := "glean/gleanlaw7.KeysOrder", spec := "keysOrder", apart := false }
def KeysOrderSaid : Prop := keysOrderRow.holds Try.pinned (OpenSpec.ofChange keysOrderSpec)

/-- ITS FALSE NEIGHBOUR: 'it returns false'. Refute it at one input. -/
def keysOrderWrong : ChangeSpec := { name := "keysOrder", fn := fun _ => fun
  | [d1, d2, d3, d4, d5, d6] => { results := [.lit (.bool false)], args := [d1, d2, d3, d4, d5, d6] }
  | _ => none }
def KeysOrderWrongFalsely : Prop := keysOrderRow.holds Try.pinned (OpenSpec.ofChange keysOrderWrong)

/-- 'gleanlaw7.KeysNext': WHATEVER THE INPUT: true; the input reads as it did. -/
def keysNextSpec : ChangeSpec := { name := "keysNext", fn := fun _ => fun
  | [d1, d2, d3, d4] => { results := [.lit (.bool true)], args := [d1, d2, d3, d4] }
  | _ => none }
def keysNextRow : OpenClaim := { program := "ytdoeadoaffmgpaa", sum := "8553702ad45fd2e92718726d60171586a7f8060cd6aa5c9b4bde0a0e6bee5fae", func := "glean/gleanlaw7.KeysNext", spec := "keysNext", apart := false }
def KeysNextSaid : Prop := keysNextRow.holds Try.pinned (OpenSpec.ofChange keysNextSpec)

/-- ITS FALSE NEIGHBOUR: 'it returns false'. Refute it at one input. -/
def keysNextWrong : ChangeSpec := { name := "keysNext", fn := fun _ => fun
  | [d1, d2, d3, d4] => { results := [.lit (.bool false)], args := [d1, d2, d3, d4] }
  | _ => none }
def KeysNextWrongFalsely : Prop := keysNextRow.holds Try.pinned (OpenSpec.ofChange keysNextWrong)

/- THE SECOND FORM. 'bulk': how many values and letters a reading holds, each counted each time it is reached (what is shared counts as often as it is met; a slice's spare places count too). A statement '..UptoSaid' is the law's where the arguments, and the package variables that the reading takes, are together of bulk at most 1048576: NARROWER than '..Said'. Prove '..Said' where nothing that the law and all that it calls make is longer than what came in: it says more and counts as full. Else prove '..UptoSaid'. A law counts once. -/
mutual
def uptoBulk {H : Type} : DataW H → Nat
  | .lit (.string bytes) => bytes.length + 1
  | .lit _ => 1
  | .nil => 1
  | .ptr d => uptoBulk d + 1
  | .slice elems spare => uptoBulkAll elems + uptoBulkAll spare + 1
  | .agg parts => uptoBulkAll parts + 1
  | .iface _ d => uptoBulk d + 1
  | .map entries => uptoBulkEntries entries + 1
  | .held _ => 1
def uptoBulkAll {H : Type} : List (DataW H) → Nat
  | [] => 0
  | d :: r => uptoBulk d + uptoBulkAll r
def uptoBulkEntries {H : Type} : List (Lit × DataW H) → Nat
  | [] => 0
  | x :: r => uptoBulkEntry x + uptoBulkEntries r
def uptoBulkEntry {H : Type} : Lit × DataW H → Nat
  | (.string bytes, d) => bytes.length + uptoBulk d + 1
  | (_, d) => uptoBulk d + 1
 end
def uptoSmall : (H : Type) → List (DataW H) → Bool := fun _ ds => decide (uptoBulkAll ds ≤ 1048576)
def OpenSpec.upto (s : _root_.Go.ChangeSpec) : _root_.Go.OpenSpec := { _root_.Go.OpenSpec.ofChange s with cond := some uptoSmall }

/-- 'gleanlaw7.KeysMake', WHERE WHAT IT READS IS OF BULK AT MOST 1048576: true; the input reads as it did. -/
def keysMakeUptoRow : OpenClaim := { program := "ytdoeadoaffmgpaa", sum := "8553702ad45fd2e92718726d60171586a7f8060cd6aa5c9b4bde0a0e6bee5fae", func := "glean/gleanlaw7.KeysMake", spec := "keysMake", apart := false, narrowed := true }
def KeysMakeUptoSaid : Prop := keysMakeUptoRow.holds Try.pinned (OpenSpec.upto keysMakeSpec)

/-- 'gleanlaw7.KeysRead', WHERE WHAT IT READS IS OF BULK AT MOST 1048576: true; the input reads as it did. -/
def keysReadUptoRow : OpenClaim := { program := "ytdoeadoaffmgpaa", sum := "8553702ad45fd2e92718726d60171586a7f8060cd6aa5c9b4bde0a0e6bee5fae", func := "glean/gleanlaw7.KeysRead", spec := "keysRead", apart := false, narrowed := true }
def KeysReadUptoSaid : Prop := keysReadUptoRow.holds Try.pinned (OpenSpec.upto keysReadSpec)

/-- 'gleanlaw7.KeysOrder', WHERE WHAT IT READS IS OF BULK AT MOST 1048576: true; the input reads as it did. -/
def keysOrderUptoRow : OpenClaim := { program := "ytdoeadoaffmgpaa", sum := "8553702ad45fd2e92718726d60171586a7f8060cd6aa5c9b4bde0a0e6bee5fae", func := "glean/gleanlaw7.KeysOrder", spec := "keysOrder", apart := false, narrowed := true }
def KeysOrderUptoSaid : Prop := keysOrderUptoRow.holds Try.pinned (OpenSpec.upto keysOrderSpec)

/-- 'gleanlaw7.KeysNext', WHERE WHAT IT READS IS OF BULK AT MOST 1048576: true; the input reads as it did. -/
def keysNextUptoRow : OpenClaim := { program := "ytdoeadoaffmgpaa", sum := "8553702ad45fd2e92718726d60171586a7f8060cd6aa5c9b4bde0a0e6bee5fae", func := "glean/gleanlaw7.KeysNext", spec := "keysNext", apart := false, narrowed := true }
def KeysNextUptoSaid : Prop := keysNextUptoRow.holds Try.pinned (OpenSpec.upto keysNextSpec)

end Rows
end Go.Proofs.Ytdoeadoaffmgpaa
