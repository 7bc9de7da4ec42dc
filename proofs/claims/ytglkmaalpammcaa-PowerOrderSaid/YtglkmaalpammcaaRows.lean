/-
  No cell of these rows narrows 'for every input' (looked for: loops, veiled, ifaces, maps, wideKeys, modest, calm, conditions, laid).
  DERIVED. THE GIVEN ROWS OF THIS SEAT. 4 by the template 'for every input the law returns true; each argument reads behind the call as it read before'; 0 by the template 'total and deterministic' (their statements: YtglkmaalpammcaaTotals.lean).
  GIVEN WITH THE SEED: the statements are not yours to turn. If you find one false, say at which input.
  Laid BY PROGRAM, IN A SANDBOX (cutbox-rows.mjs): the forced cells as the released guide's own fill.sh prints them over the translation 79ff79b325caddb2… (all of the seat's roots in one cut). By AI agents, Wed Nov 11 2026. No macro, syntax, notation, axiom, sorry.
-/
import Derived.Test.YtglkmaalpammcaaChecked
import GoSem.Claim
import GoSem.ClaimJoined
import GoSem.ClaimMapViews
import Derived.JoinedTies
import Derived.KernelRfl
namespace Go.Proofs.Ytglkmaalpammcaa
/- THE CELL 'sum', in the pinned program and in every row, IS THE sha256 OF THE DUMP (.gsa) THAT YtglkmaalpammcaaProg.lean LOADS. Nothing in Lean hashes anything: it is a label: what it is worth is what the hold of that sum in a sandbox is worth. -/
noncomputable def Try.pinned : Pinned := { name := "ytglkmaalpammcaa", sum := "79ff79b325caddb2df697078713028dd582087440a015b1cd1c8af5cfb448b20", checked := Try.checked }
namespace Rows
def none {H : Type} : Left H := { results := [], args := [] }

/-- 'gleanlaw18.AnteTwice': WHATEVER THE INPUT: true; the input reads as it did. -/
def anteTwiceSpec : ChangeSpec := { name := "anteTwice", fn := fun _ => fun
  | [d1, d2, d3] => { results := [.lit (.bool true)], args := [d1, d2, d3] }
  | _ => none }
def anteTwiceRow : OpenClaim := { program := "ytglkmaalpammcaa", sum := "79ff79b325caddb2df697078713028dd582087440a015b1cd1c8af5cfb448b20", func := "glean/gleanlaw18.AnteTwice", spec := "anteTwice", inPlace := ["sync/atomic.AddInt64", "internal/bytealg.Compare", "slices.overlaps[glean/page.entry]", "slices.overlaps[[]glean/page.entry]"], unfollowed := true, recurses := true, apart := false }
def AnteTwiceSaid : Prop := anteTwiceRow.holds Try.pinned (OpenSpec.ofChange anteTwiceSpec)

/-- ITS FALSE NEIGHBOUR: 'it returns false'. Refute it at one input. -/
def anteTwiceWrong : ChangeSpec := { name := "anteTwice", fn := fun _ => fun
  | [d1, d2, d3] => { results := [.lit (.bool false)], args := [d1, d2, d3] }
  | _ => none }
def AnteTwiceWrongFalsely : Prop := anteTwiceRow.holds Try.pinned (OpenSpec.ofChange anteTwiceWrong)

/-- 'gleanlaw9.BankSum': WHATEVER THE INPUT: true; the input reads as it did. -/
def bankSumSpec : ChangeSpec := { name := "bankSum", fn := fun _ => fun
  | [d] => { results := [.lit (.bool true)], args := [d] }
  | _ => none }
def bankSumRow : OpenClaim := { program := "ytglkmaalpammcaa", sum := "79ff79b325caddb2df697078713028dd582087440a015b1cd1c8af5cfb448b20", func := "glean/gleanlaw9.BankSum", spec := "bankSum", inPlace := ["sync/atomic.AddInt64", "internal/bytealg.Compare", "slices.overlaps[glean/page.entry]", "slices.overlaps[[]glean/page.entry]", "math/bits.Add64"], unfollowed := true, recurses := true, apart := false }
def BankSumSaid : Prop := bankSumRow.holds Try.pinned (OpenSpec.ofChange bankSumSpec)

/-- ITS FALSE NEIGHBOUR: 'it returns false'. Refute it at one input. -/
def bankSumWrong : ChangeSpec := { name := "bankSum", fn := fun _ => fun
  | [d] => { results := [.lit (.bool false)], args := [d] }
  | _ => none }
def BankSumWrongFalsely : Prop := bankSumRow.holds Try.pinned (OpenSpec.ofChange bankSumWrong)

/-- 'gleanlaw11.PowerTurns': WHATEVER THE INPUT: true; the input reads as it did. -/
def powerTurnsSpec : ChangeSpec := { name := "powerTurns", fn := fun _ => fun
  | [d1, d2] => { results := [.lit (.bool true)], args := [d1, d2] }
  | _ => none }
def powerTurnsRow : OpenClaim := { program := "ytglkmaalpammcaa", sum := "79ff79b325caddb2df697078713028dd582087440a015b1cd1c8af5cfb448b20", func := "glean/gleanlaw11.PowerTurns", spec := "powerTurns", inPlace := ["sync/atomic.AddInt64", "internal/bytealg.Compare", "slices.overlaps[glean/page.entry]", "slices.overlaps[[]glean/page.entry]"], unfollowed := true, recurses := true, apart := false }
def PowerTurnsSaid : Prop := powerTurnsRow.holds Try.pinned (OpenSpec.ofChange powerTurnsSpec)

/-- ITS FALSE NEIGHBOUR: 'it returns false'. Refute it at one input. -/
def powerTurnsWrong : ChangeSpec := { name := "powerTurns", fn := fun _ => fun
  | [d1, d2] => { results := [.lit (.bool false)], args := [d1, d2] }
  | _ => none }
def PowerTurnsWrongFalsely : Prop := powerTurnsRow.holds Try.pinned (OpenSpec.ofChange powerTurnsWrong)

/-- 'gleanlaw11.PowerOrder': WHATEVER THE INPUT: true; the input reads as it did. -/
def powerOrderSpec : ChangeSpec := { name := "powerOrder", fn := fun _ => fun
  | [d1, d2, d3] => { results := [.lit (.bool true)], args := [d1, d2, d3] }
  | _ => none }
def powerOrderRow : OpenClaim := { program := "ytglkmaalpammcaa", sum := "79ff79b325caddb2df697078713028dd582087440a015b1cd1c8af5cfb448b20", func := "glean/gleanlaw11.PowerOrder", spec := "powerOrder", inPlace := ["sync/atomic.AddInt64", "internal/bytealg.Compare", "slices.overlaps[glean/page.entry]", "slices.overlaps[[]glean/page.entry]"], unfollowed := true, recurses := true, apart := false }
def PowerOrderSaid : Prop := powerOrderRow.holds Try.pinned (OpenSpec.ofChange powerOrderSpec)

/-- ITS FALSE NEIGHBOUR: 'it returns false'. Refute it at one input. -/
def powerOrderWrong : ChangeSpec := { name := "powerOrder", fn := fun _ => fun
  | [d1, d2, d3] => { results := [.lit (.bool false)], args := [d1, d2, d3] }
  | _ => none }
def PowerOrderWrongFalsely : Prop := powerOrderRow.holds Try.pinned (OpenSpec.ofChange powerOrderWrong)

/- THE SECOND FORM. 'bulk': how many values and letters a reading holds, each counted each time it is reached (what is shared counts as often as it is met; a slice's spare places count too). A statement '..UptoSaid' is the law's where the arguments, and the package variables that the reading takes, are together of bulk at most 1048576: NARROWER than '..Said'. Prove '..Said' where nothing that the law and all that it calls make is longer than what came in: it says more and counts as full. Else prove '..UptoSaid'. A law counts once. -/
mutual
def uptoBulk {H : Type} : DataW H → Nat
  | .lit (.string bytes) => bytes.length + 1
  | .lit _ => 1
  | .nil => 1
  | .ptr d => uptoBulk d + 1
  | .slice elems spare => uptoBulkAll elems + uptoBulkAll spare + 1
  | .agg parts => uptoBulkAll parts + 1
  | .iface _ d => uptoBulk d + 1
  | .map entries => uptoBulkEntries entries + 1
  | .held _ => 1
def uptoBulkAll {H : Type} : List (DataW H) → Nat
  | [] => 0
  | d :: r => uptoBulk d + uptoBulkAll r
def uptoBulkEntries {H : Type} : List (Lit × DataW H) → Nat
  | [] => 0
  | x :: r => uptoBulkEntry x + uptoBulkEntries r
def uptoBulkEntry {H : Type} : Lit × DataW H → Nat
  | (.string bytes, d) => bytes.length + uptoBulk d + 1
  | (_, d) => uptoBulk d + 1
 end
def uptoSmall : (H : Type) → List (DataW H) → Bool := fun _ ds => decide (uptoBulkAll ds ≤ 1048576)
def OpenSpec.upto (s : _root_.Go.ChangeSpec) : _root_.Go.OpenSpec := { _root_.Go.OpenSpec.ofChange s with cond := some uptoSmall }

/-- 'gleanlaw18.AnteTwice', WHERE WHAT IT READS IS OF BULK AT MOST 1048576: true; the input reads as it did. -/
def anteTwiceUptoRow : OpenClaim := { program := "ytglkmaalpammcaa", sum := "79ff79b325caddb2df697078713028dd582087440a015b1cd1c8af5cfb448b20", func := "glean/gleanlaw18.AnteTwice", spec := "anteTwice", inPlace := ["sync/atomic.AddInt64", "internal/bytealg.Compare", "slices.overlaps[glean/page.entry]", "slices.overlaps[[]glean/page.entry]"], unfollowed := true, recurses := true, apart := false, narrowed := true }
def AnteTwiceUptoSaid : Prop := anteTwiceUptoRow.holds Try.pinned (OpenSpec.upto anteTwiceSpec)

/-- 'gleanlaw9.BankSum', WHERE WHAT IT READS IS OF BULK AT MOST 1048576: true; the input reads as it did. -/
def bankSumUptoRow : OpenClaim := { program := "ytglkmaalpammcaa", sum := "79ff79b325caddb2df697078713028dd582087440a015b1cd1c8af5cfb448b20", func := "glean/gleanlaw9.BankSum", spec := "bankSum", inPlace := ["sync/atomic.AddInt64", "internal/bytealg.Compare", "slices.overlaps[glean/page.entry]", "slices.overlaps[[]glean/page.entry]", "math/bits.Add64"], unfollowed := true, recurses := true, apart := false, narrowed := true }
def BankSumUptoSaid : Prop := bankSumUptoRow.holds Try.pinned (OpenSpec.upto bankSumSpec)

/-- 'gleanlaw11.PowerTurns', WHERE WHAT IT READS IS OF BULK AT MOST 1048576: true; the input reads as it did. -/
def powerTurnsUptoRow : OpenClaim := { program := "ytglkmaalpammcaa", sum := "79ff79b325caddb2df697078713028dd582087440a015b1cd1c8af5cfb448b20", func := "glean/gleanlaw11.PowerTurns", spec := "powerTurns", inPlace := ["sync/atomic.AddInt64", "internal/bytealg.Compare", "slices.overlaps[glean/page.entry]", "slices.overlaps[[]glean/page.entry]"], unfollowed := true, recurses := true, apart := false, narrowed := true }
def PowerTurnsUptoSaid : Prop := powerTurnsUptoRow.holds Try.pinned (OpenSpec.upto powerTurnsSpec)

/-- 'gleanlaw11.PowerOrder', WHERE WHAT IT READS IS OF BULK AT MOST 1048576: true; the input reads as it did. -/
def powerOrderUptoRow : OpenClaim := { program := "ytglkmaalpammcaa", sum := "79ff79b325caddb2df697078713028dd582087440a015b1cd1c8af5cfb448b20", func := "glean/gleanlaw11.PowerOrder", spec := "powerOrder", inPlace := ["sync/atomic.AddInt64", "internal/bytealg.Compare", "slices.overlaps[glean/page.entry]", "slices.overlaps[[]glean/page.entry]"], unfollowed := true, recurses := true, apart := false, narrowed := true }
def PowerOrderUptoSaid : Prop := powerOrderUptoRow.holds Try.pinned (OpenSpec.upto powerOrderSpec)

end Rows
end Go.Proofs.Ytglkmaalpammcaa
