/-
  No cell of these rows narrows 'for every input' (looked for: loops, veiled, ifaces, maps, wideKeys, modest, calm, conditions, laid).
  DERIVED. THE GIVEN ROWS OF THIS SEAT. 8 by the template 'for every input the law returns true; each argument reads behind the call as it read before'; 0 by the template 'total and deterministic' (their statements: YtglkmaalpammcaaGreatTotals.lean).
  GIVEN WITH THE SEED: the statements are not yours to turn. If you find one false, say at which input.
  Laid BY PROGRAM, IN A SANDBOX (cutbox-rows.mjs): the forced cells as the released guide's own fill.sh prints them over the translation 460c213607398bee… (all of the seat's roots in one cut). By AI agents, Wed Nov 11 2026. No macro, syntax, notation, axiom, sorry.
-/
import Derived.Test.YtglkmaalpammcaaGreatChecked
import GoSem.Claim
import GoSem.ClaimJoined
import GoSem.ClaimMapViews
import Derived.JoinedTies
import Derived.KernelRfl
namespace Go.Proofs.YtglkmaalpammcaaGreat
/- THE CELL 'sum', in the pinned program and in every row, IS THE sha256 OF THE DUMP (.gsa) THAT YtglkmaalpammcaaGreatProg.lean LOADS. Nothing in Lean hashes anything: it is a label: what it is worth is what the hold of that sum in a sandbox is worth. -/
noncomputable def Tryz.pinned : Pinned := { name := "ytglkmaalpammcaagreat", sum := "460c213607398beea2099656bf39e0aaa3a3b77d3a8e6472455ebcd35dd55985", checked := Tryz.checked }
namespace Rows
def none {H : Type} : Left H := { results := [], args := [] }

/-- 'gleanlaw18.AntePlays': WHATEVER THE INPUT: true; the input reads as it did. -/
def antePlaysSpec : ChangeSpec := { name := "antePlays", fn := fun _ => fun
  | [d1, d2, d3, d4] => { results := [.lit (.bool true)], args := [d1, d2, d3, d4] }
  | _ => none }
def antePlaysRow : OpenClaim := { program := "ytglkmaalpammcaagreat", sum := "460c213607398beea2099656bf39e0aaa3a3b77d3a8e6472455ebcd35dd55985", func := "glean/gleanlaw18.AntePlays", spec := "antePlays", inPlace := ["sync/atomic.AddInt64", "internal/bytealg.Compare", "slices.overlaps[glean/page.entry]", "slices.overlaps[[]glean/page.entry]"], unfollowed := true, recurses := true, apart := false }
def AntePlaysSaid : Prop := antePlaysRow.holds Tryz.pinned (OpenSpec.ofChange antePlaysSpec)

/-- ITS FALSE NEIGHBOUR: 'it returns false'. Refute it at one input. -/
def antePlaysWrong : ChangeSpec := { name := "antePlays", fn := fun _ => fun
  | [d1, d2, d3, d4] => { results := [.lit (.bool false)], args := [d1, d2, d3, d4] }
  | _ => none }
def AntePlaysWrongFalsely : Prop := antePlaysRow.holds Tryz.pinned (OpenSpec.ofChange antePlaysWrong)

/-- 'gleanlaw9.BankPlays': WHATEVER THE INPUT: true; the input reads as it did. -/
def bankPlaysSpec : ChangeSpec := { name := "bankPlays", fn := fun _ => fun
  | [d] => { results := [.lit (.bool true)], args := [d] }
  | _ => none }
def bankPlaysRow : OpenClaim := { program := "ytglkmaalpammcaagreat", sum := "460c213607398beea2099656bf39e0aaa3a3b77d3a8e6472455ebcd35dd55985", func := "glean/gleanlaw9.BankPlays", spec := "bankPlays", inPlace := ["sync/atomic.AddInt64", "internal/bytealg.Compare", "slices.overlaps[glean/page.entry]", "slices.overlaps[[]glean/page.entry]", "math/bits.Add64"], unfollowed := true, recurses := true, apart := false }
def BankPlaysSaid : Prop := bankPlaysRow.holds Tryz.pinned (OpenSpec.ofChange bankPlaysSpec)

/-- ITS FALSE NEIGHBOUR: 'it returns false'. Refute it at one input. -/
def bankPlaysWrong : ChangeSpec := { name := "bankPlays", fn := fun _ => fun
  | [d] => { results := [.lit (.bool false)], args := [d] }
  | _ => none }
def BankPlaysWrongFalsely : Prop := bankPlaysRow.holds Tryz.pinned (OpenSpec.ofChange bankPlaysWrong)

/-- 'gleanlaw9.BankSplit': WHATEVER THE INPUT: true; the input reads as it did. -/
def bankSplitSpec : ChangeSpec := { name := "bankSplit", fn := fun _ => fun
  | [d1, d2, d3, d4, d5] => { results := [.lit (.bool true)], args := [d1, d2, d3, d4, d5] }
  | _ => none }
def bankSplitRow : OpenClaim := { program := "ytglkmaalpammcaagreat", sum := "460c213607398beea2099656bf39e0aaa3a3b77d3a8e6472455ebcd35dd55985", func := "glean/gleanlaw9.BankSplit", spec := "bankSplit", inPlace := ["sync/atomic.AddInt64", "internal/bytealg.Compare", "slices.overlaps[glean/page.entry]", "slices.overlaps[[]glean/page.entry]", "math/bits.Add64"], unfollowed := true, recurses := true, apart := false }
def BankSplitSaid : Prop := bankSplitRow.holds Tryz.pinned (OpenSpec.ofChange bankSplitSpec)

/-- ITS FALSE NEIGHBOUR: 'it returns false'. Refute it at one input. -/
def bankSplitWrong : ChangeSpec := { name := "bankSplit", fn := fun _ => fun
  | [d1, d2, d3, d4, d5] => { results := [.lit (.bool false)], args := [d1, d2, d3, d4, d5] }
  | _ => none }
def BankSplitWrongFalsely : Prop := bankSplitRow.holds Tryz.pinned (OpenSpec.ofChange bankSplitWrong)

/-- 'gleanlaw12.QueueOrder': WHATEVER THE INPUT: true; the input reads as it did. -/
def queueOrderSpec : ChangeSpec := { name := "queueOrder", fn := fun _ => fun
  | [d] => { results := [.lit (.bool true)], args := [d] }
  | _ => none }
def queueOrderRow : OpenClaim := { program := "ytglkmaalpammcaagreat", sum := "460c213607398beea2099656bf39e0aaa3a3b77d3a8e6472455ebcd35dd55985", func := "glean/gleanlaw12.QueueOrder", spec := "queueOrder", inPlace := ["sync/atomic.AddInt64", "internal/bytealg.Compare", "slices.overlaps[glean/page.entry]", "slices.overlaps[[]glean/page.entry]"], unfollowed := true, recurses := true, apart := false }
def QueueOrderSaid : Prop := queueOrderRow.holds Tryz.pinned (OpenSpec.ofChange queueOrderSpec)

/-- ITS FALSE NEIGHBOUR: 'it returns false'. Refute it at one input. -/
def queueOrderWrong : ChangeSpec := { name := "queueOrder", fn := fun _ => fun
  | [d] => { results := [.lit (.bool false)], args := [d] }
  | _ => none }
def QueueOrderWrongFalsely : Prop := queueOrderRow.holds Tryz.pinned (OpenSpec.ofChange queueOrderWrong)

/-- 'gleanlaw12.QueuePlays': WHATEVER THE INPUT: true; the input reads as it did. -/
def queuePlaysSpec : ChangeSpec := { name := "queuePlays", fn := fun _ => fun
  | [d1, d2, d3] => { results := [.lit (.bool true)], args := [d1, d2, d3] }
  | _ => none }
def queuePlaysRow : OpenClaim := { program := "ytglkmaalpammcaagreat", sum := "460c213607398beea2099656bf39e0aaa3a3b77d3a8e6472455ebcd35dd55985", func := "glean/gleanlaw12.QueuePlays", spec := "queuePlays", inPlace := ["sync/atomic.AddInt64", "internal/bytealg.Compare", "slices.overlaps[glean/page.entry]", "slices.overlaps[[]glean/page.entry]"], unfollowed := true, recurses := true, apart := false }
def QueuePlaysSaid : Prop := queuePlaysRow.holds Tryz.pinned (OpenSpec.ofChange queuePlaysSpec)

/-- ITS FALSE NEIGHBOUR: 'it returns false'. Refute it at one input. -/
def queuePlaysWrong : ChangeSpec := { name := "queuePlays", fn := fun _ => fun
  | [d1, d2, d3] => { results := [.lit (.bool false)], args := [d1, d2, d3] }
  | _ => none }
def QueuePlaysWrongFalsely : Prop := queuePlaysRow.holds Tryz.pinned (OpenSpec.ofChange queuePlaysWrong)

/-- 'gleanlaw12.QueueOnce': WHATEVER THE INPUT: true; the input reads as it did. -/
def queueOnceSpec : ChangeSpec := { name := "queueOnce", fn := fun _ => fun
  | [d1, d2] => { results := [.lit (.bool true)], args := [d1, d2] }
  | _ => none }
def queueOnceRow : OpenClaim := { program := "ytglkmaalpammcaagreat", sum := "460c213607398beea2099656bf39e0aaa3a3b77d3a8e6472455ebcd35dd55985", func := "glean/gleanlaw12.QueueOnce", spec := "queueOnce", inPlace := ["sync/atomic.AddInt64", "internal/bytealg.Compare", "slices.overlaps[glean/page.entry]", "slices.overlaps[[]glean/page.entry]"], unfollowed := true, recurses := true, apart := false }
def QueueOnceSaid : Prop := queueOnceRow.holds Tryz.pinned (OpenSpec.ofChange queueOnceSpec)

/-- ITS FALSE NEIGHBOUR: 'it returns false'. Refute it at one input. -/
def queueOnceWrong : ChangeSpec := { name := "queueOnce", fn := fun _ => fun
  | [d1, d2] => { results := [.lit (.bool false)], args := [d1, d2] }
  | _ => none }
def QueueOnceWrongFalsely : Prop := queueOnceRow.holds Tryz.pinned (OpenSpec.ofChange queueOnceWrong)

/-- 'gleanlaw12.QueueApart': WHATEVER THE INPUT: true; the input reads as it did. -/
def queueApartSpec : ChangeSpec := { name := "queueApart", fn := fun _ => fun
  | [d1, d2, d3, d4] => { results := [.lit (.bool true)], args := [d1, d2, d3, d4] }
  | _ => none }
def queueApartRow : OpenClaim := { program := "ytglkmaalpammcaagreat", sum := "460c213607398beea2099656bf39e0aaa3a3b77d3a8e6472455ebcd35dd55985", func := "glean/gleanlaw12.QueueApart", spec := "queueApart", inPlace := ["sync/atomic.AddInt64", "internal/bytealg.Compare", "slices.overlaps[glean/page.entry]", "slices.overlaps[[]glean/page.entry]"], unfollowed := true, recurses := true, apart := false }
def QueueApartSaid : Prop := queueApartRow.holds Tryz.pinned (OpenSpec.ofChange queueApartSpec)

/-- ITS FALSE NEIGHBOUR: 'it returns false'. Refute it at one input. -/
def queueApartWrong : ChangeSpec := { name := "queueApart", fn := fun _ => fun
  | [d1, d2, d3, d4] => { results := [.lit (.bool false)], args := [d1, d2, d3, d4] }
  | _ => none }
def QueueApartWrongFalsely : Prop := queueApartRow.holds Tryz.pinned (OpenSpec.ofChange queueApartWrong)

/-- 'gleanlaw11.PowerPlays': WHATEVER THE INPUT: true; the input reads as it did. -/
def powerPlaysSpec : ChangeSpec := { name := "powerPlays", fn := fun _ => fun
  | [d] => { results := [.lit (.bool true)], args := [d] }
  | _ => none }
def powerPlaysRow : OpenClaim := { program := "ytglkmaalpammcaagreat", sum := "460c213607398beea2099656bf39e0aaa3a3b77d3a8e6472455ebcd35dd55985", func := "glean/gleanlaw11.PowerPlays", spec := "powerPlays", inPlace := ["sync/atomic.AddInt64", "internal/bytealg.Compare", "slices.overlaps[glean/page.entry]", "slices.overlaps[[]glean/page.entry]", "sync/atomic.LoadInt64"], unfollowed := true, recurses := true, apart := false }
def PowerPlaysSaid : Prop := powerPlaysRow.holds Tryz.pinned (OpenSpec.ofChange powerPlaysSpec)

/-- ITS FALSE NEIGHBOUR: 'it returns false'. Refute it at one input. -/
def powerPlaysWrong : ChangeSpec := { name := "powerPlays", fn := fun _ => fun
  | [d] => { results := [.lit (.bool false)], args := [d] }
  | _ => none }
def PowerPlaysWrongFalsely : Prop := powerPlaysRow.holds Tryz.pinned (OpenSpec.ofChange powerPlaysWrong)

/- THE SECOND FORM. 'bulk': how many values and letters a reading holds, each counted each time it is reached (what is shared counts as often as it is met; a slice's spare places count too). A statement '..UptoSaid' is the law's where the arguments, and the package variables that the reading takes, are together of bulk at most 1048576: NARROWER than '..Said'. Prove '..Said' where nothing that the law and all that it calls make is longer than what came in: it says more and counts as full. Else prove '..UptoSaid'. A law counts once. -/
mutual
def uptoBulk {H : Type} : DataW H → Nat
  | .lit (.string bytes) => bytes.length + 1
  | .lit _ => 1
  | .nil => 1
  | .ptr d => uptoBulk d + 1
  | .slice elems spare => uptoBulkAll elems + uptoBulkAll spare + 1
  | .agg parts => uptoBulkAll parts + 1
  | .iface _ d => uptoBulk d + 1
  | .map entries => uptoBulkEntries entries + 1
  | .held _ => 1
def uptoBulkAll {H : Type} : List (DataW H) → Nat
  | [] => 0
  | d :: r => uptoBulk d + uptoBulkAll r
def uptoBulkEntries {H : Type} : List (Lit × DataW H) → Nat
  | [] => 0
  | x :: r => uptoBulkEntry x + uptoBulkEntries r
def uptoBulkEntry {H : Type} : Lit × DataW H → Nat
  | (.string bytes, d) => bytes.length + uptoBulk d + 1
  | (_, d) => uptoBulk d + 1
 end
def uptoSmall : (H : Type) → List (DataW H) → Bool := fun _ ds => decide (uptoBulkAll ds ≤ 1048576)
def OpenSpec.upto (s : _root_.Go.ChangeSpec) : _root_.Go.OpenSpec := { _root_.Go.OpenSpec.ofChange s with cond := some uptoSmall }

/-- 'gleanlaw18.AntePlays', WHERE WHAT IT READS IS OF BULK AT MOST 1048576: true; the input reads as it did. -/
def antePlaysUptoRow : OpenClaim := { program := "ytglkmaalpammcaagreat", sum := "460c213607398beea2099656bf39e0aaa3a3b77d3a8e6472455ebcd35dd55985", func := "glean/gleanlaw18.AntePlays", spec := "antePlays", inPlace := ["sync/atomic.AddInt64", "internal/bytealg.Compare", "slices.overlaps[glean/page.entry]", "slices.overlaps[[]glean/page.entry]"], unfollowed := true, recurses := true, apart := false, narrowed := true }
def AntePlaysUptoSaid : Prop := antePlaysUptoRow.holds Tryz.pinned (OpenSpec.upto antePlaysSpec)

/-- 'gleanlaw9.BankPlays', WHERE WHAT IT READS IS OF BULK AT MOST 1048576: true; the input reads as it did. -/
def bankPlaysUptoRow : OpenClaim := { program := "ytglkmaalpammcaagreat", sum := "460c213607398beea2099656bf39e0aaa3a3b77d3a8e6472455ebcd35dd55985", func := "glean/gleanlaw9.BankPlays", spec := "bankPlays", inPlace := ["sync/atomic.AddInt64", "internal/bytealg.Compare", "slices.overlaps[glean/page.entry]", "slices.overlaps[[]glean/page.entry]", "math/bits.Add64"], unfollowed := true, recurses := true, apart := false, narrowed := true }
def BankPlaysUptoSaid : Prop := bankPlaysUptoRow.holds Tryz.pinned (OpenSpec.upto bankPlaysSpec)

/-- 'gleanlaw9.BankSplit', WHERE WHAT IT READS IS OF BULK AT MOST 1048576: true; the input reads as it did. -/
def bankSplitUptoRow : OpenClaim := { program := "ytglkmaalpammcaagreat", sum := "460c213607398beea2099656bf39e0aaa3a3b77d3a8e6472455ebcd35dd55985", func := "glean/gleanlaw9.BankSplit", spec := "bankSplit", inPlace := ["sync/atomic.AddInt64", "internal/bytealg.Compare", "slices.overlaps[glean/page.entry]", "slices.overlaps[[]glean/page.entry]", "math/bits.Add64"], unfollowed := true, recurses := true, apart := false, narrowed := true }
def BankSplitUptoSaid : Prop := bankSplitUptoRow.holds Tryz.pinned (OpenSpec.upto bankSplitSpec)

/-- 'gleanlaw12.QueueOrder', WHERE WHAT IT READS IS OF BULK AT MOST 1048576: true; the input reads as it did. -/
def queueOrderUptoRow : OpenClaim := { program := "ytglkmaalpammcaagreat", sum := "460c213607398beea2099656bf39e0aaa3a3b77d3a8e6472455ebcd35dd55985", func := "glean/gleanlaw12.QueueOrder", spec := "queueOrder", inPlace := ["sync/atomic.AddInt64", "internal/bytealg.Compare", "slices.overlaps[glean/page.entry]", "slices.overlaps[[]glean/page.entry]"], unfollowed := true, recurses := true, apart := false, narrowed := true }
def QueueOrderUptoSaid : Prop := queueOrderUptoRow.holds Tryz.pinned (OpenSpec.upto queueOrderSpec)

/-- 'gleanlaw12.QueuePlays', WHERE WHAT IT READS IS OF BULK AT MOST 1048576: true; the input reads as it did. -/
def queuePlaysUptoRow : OpenClaim := { program := "ytglkmaalpammcaagreat", sum := "460c213607398beea2099656bf39e0aaa3a3b77d3a8e6472455ebcd35dd55985", func := "glean/gleanlaw12.QueuePlays", spec := "queuePlays", inPlace := ["sync/atomic.AddInt64", "internal/bytealg.Compare", "slices.overlaps[glean/page.entry]", "slices.overlaps[[]glean/page.entry]"], unfollowed := true, recurses := true, apart := false, narrowed := true }
def QueuePlaysUptoSaid : Prop := queuePlaysUptoRow.holds Tryz.pinned (OpenSpec.upto queuePlaysSpec)

/-- 'gleanlaw12.QueueOnce', WHERE WHAT IT READS IS OF BULK AT MOST 1048576: true; the input reads as it did. -/
def queueOnceUptoRow : OpenClaim := { program := "ytglkmaalpammcaagreat", sum := "460c213607398beea2099656bf39e0aaa3a3b77d3a8e6472455ebcd35dd55985", func := "glean/gleanlaw12.QueueOnce", spec := "queueOnce", inPlace := ["sync/atomic.AddInt64", "internal/bytealg.Compare", "slices.overlaps[glean/page.entry]", "slices.overlaps[[]glean/page.entry]"], unfollowed := true, recurses := true, apart := false, narrowed := true }
def QueueOnceUptoSaid : Prop := queueOnceUptoRow.holds Tryz.pinned (OpenSpec.upto queueOnceSpec)

/-- 'gleanlaw12.QueueApart', WHERE WHAT IT READS IS OF BULK AT MOST 1048576: true; the input reads as it did. -/
def queueApartUptoRow : OpenClaim := { program := "ytglkmaalpammcaagreat", sum := "460c213607398beea2099656bf39e0aaa3a3b77d3a8e6472455ebcd35dd55985", func := "glean/gleanlaw12.QueueApart", spec := "queueApart", inPlace := ["sync/atomic.AddInt64", "internal/bytealg.Compare", "slices.overlaps[glean/page.entry]", "slices.overlaps[[]glean/page.entry]"], unfollowed := true, recurses := true, apart := false, narrowed := true }
def QueueApartUptoSaid : Prop := queueApartUptoRow.holds Tryz.pinned (OpenSpec.upto queueApartSpec)

/-- 'gleanlaw11.PowerPlays', WHERE WHAT IT READS IS OF BULK AT MOST 1048576: true; the input reads as it did. -/
def powerPlaysUptoRow : OpenClaim := { program := "ytglkmaalpammcaagreat", sum := "460c213607398beea2099656bf39e0aaa3a3b77d3a8e6472455ebcd35dd55985", func := "glean/gleanlaw11.PowerPlays", spec := "powerPlays", inPlace := ["sync/atomic.AddInt64", "internal/bytealg.Compare", "slices.overlaps[glean/page.entry]", "slices.overlaps[[]glean/page.entry]", "sync/atomic.LoadInt64"], unfollowed := true, recurses := true, apart := false, narrowed := true }
def PowerPlaysUptoSaid : Prop := powerPlaysUptoRow.holds Tryz.pinned (OpenSpec.upto powerPlaysSpec)

end Rows
end Go.Proofs.YtglkmaalpammcaaGreat
