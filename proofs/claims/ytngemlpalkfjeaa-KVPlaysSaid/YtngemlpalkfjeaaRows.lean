/-
  No cell of these rows narrows 'for every input' (looked for: loops, veiled, ifaces, maps, wideKeys, modest, calm, conditions, laid).
  DERIVED. THE GIVEN ROWS OF THIS SEAT. 6 by the template 'for every input the law returns true; each argument reads behind the call as it read before'; 0 by the template 'total and deterministic' (their statements: YtngemlpalkfjeaaTotals.lean).
  GIVEN WITH THE SEED: the statements are not yours to turn. If you find one false, say at which input.
  Laid BY PROGRAM, IN A SANDBOX (cutbox-rows.mjs): the forced cells as the released guide's own fill.sh prints them over the translation edbcfbc2bab8fe17… (all of the seat's roots in one cut). By AI agents, Wed Nov 11 2026. No macro, syntax, notation, axiom, sorry.
-/
import Derived.Test.YtngemlpalkfjeaaChecked
import GoSem.Claim
import GoSem.ClaimJoined
import GoSem.ClaimMapViews
import Derived.JoinedTies
import Derived.KernelRfl
namespace Go.Proofs.Ytngemlpalkfjeaa
/- THE CELL 'sum', in the pinned program and in every row, IS THE sha256 OF THE DUMP (.gsa) THAT YtngemlpalkfjeaaProg.lean LOADS. Nothing in Lean hashes anything: it is a label: what it is worth is what the hold of that sum in a sandbox is worth. -/
noncomputable def Try.pinned : Pinned := { name := "ytngemlpalkfjeaa", sum := "edbcfbc2bab8fe17b7d18bcc838b141640b49e69ddb08c515c9ced7a101a6bf8", checked := Try.checked }
namespace Rows
def none {H : Type} : Left H := { results := [], args := [] }

/-- 'gleanlaw6.KVPlays': WHATEVER THE INPUT: true; the input reads as it did. -/
def kVPlaysSpec : ChangeSpec := { name := "kVPlays", fn := fun _ => fun
  | [d] => { results := [.lit (.bool true)], args := [d] }
  | _ => none }
def kVPlaysRow : OpenClaim := { program := "ytngemlpalkfjeaa", sum := "edbcfbc2bab8fe17b7d18bcc838b141640b49e69ddb08c515c9ced7a101a6bf8", func := "glean/gleanlaw6.KVPlays", spec := "kVPlays", inPlace := ["sync/atomic.AddInt64", "internal/bytealg.Compare", "slices.overlaps[glean/page.entry]", "slices.overlaps[[]glean/page.entry]", "sync/atomic.LoadInt64"], unfollowed := true, recurses := true, apart := false }
def KVPlaysSaid : Prop := kVPlaysRow.holds Try.pinned (OpenSpec.ofChange kVPlaysSpec)

/-- ITS FALSE NEIGHBOUR: 'it returns false'. Refute it at one input. -/
def kVPlaysWrong : ChangeSpec := { name := "kVPlays", fn := fun _ => fun
  | [d] => { results := [.lit (.bool false)], args := [d] }
  | _ => none }
def KVPlaysWrongFalsely : Prop := kVPlaysRow.holds Try.pinned (OpenSpec.ofChange kVPlaysWrong)

/-- 'gleanlaw6.KVBack': WHATEVER THE INPUT: true; the input reads as it did. -/
def kVBackSpec : ChangeSpec := { name := "kVBack", fn := fun _ => fun
  | [d1, d2, d3] => { results := [.lit (.bool true)], args := [d1, d2, d3] }
  | _ => none }
def kVBackRow : OpenClaim := { program := "ytngemlpalkfjeaa", sum := "edbcfbc2bab8fe17b7d18bcc838b141640b49e69ddb08c515c9ced7a101a6bf8", func := "glean/gleanlaw6.KVBack", spec := "kVBack", inPlace := ["sync/atomic.AddInt64", "internal/bytealg.Compare", "slices.overlaps[glean/page.entry]", "slices.overlaps[[]glean/page.entry]", "sync/atomic.LoadInt64"], unfollowed := true, recurses := true, apart := false }
def KVBackSaid : Prop := kVBackRow.holds Try.pinned (OpenSpec.ofChange kVBackSpec)

/-- ITS FALSE NEIGHBOUR: 'it returns false'. Refute it at one input. -/
def kVBackWrong : ChangeSpec := { name := "kVBack", fn := fun _ => fun
  | [d1, d2, d3] => { results := [.lit (.bool false)], args := [d1, d2, d3] }
  | _ => none }
def KVBackWrongFalsely : Prop := kVBackRow.holds Try.pinned (OpenSpec.ofChange kVBackWrong)

/-- 'gleanlaw6.KVPrefix': WHATEVER THE INPUT: true; the input reads as it did. -/
def kVPrefixSpec : ChangeSpec := { name := "kVPrefix", fn := fun _ => fun
  | [d1, d2] => { results := [.lit (.bool true)], args := [d1, d2] }
  | _ => none }
def kVPrefixRow : OpenClaim := { program := "ytngemlpalkfjeaa", sum := "edbcfbc2bab8fe17b7d18bcc838b141640b49e69ddb08c515c9ced7a101a6bf8", func := "glean/gleanlaw6.KVPrefix", spec := "kVPrefix", inPlace := ["sync/atomic.AddInt64", "internal/bytealg.Compare", "slices.overlaps[glean/page.entry]", "slices.overlaps[[]glean/page.entry]", "sync/atomic.LoadInt64"], unfollowed := true, recurses := true, apart := false }
def KVPrefixSaid : Prop := kVPrefixRow.holds Try.pinned (OpenSpec.ofChange kVPrefixSpec)

/-- ITS FALSE NEIGHBOUR: 'it returns false'. Refute it at one input. -/
def kVPrefixWrong : ChangeSpec := { name := "kVPrefix", fn := fun _ => fun
  | [d1, d2] => { results := [.lit (.bool false)], args := [d1, d2] }
  | _ => none }
def KVPrefixWrongFalsely : Prop := kVPrefixRow.holds Try.pinned (OpenSpec.ofChange kVPrefixWrong)

/-- 'gleanlaw6.KVApart': WHATEVER THE INPUT: true; the input reads as it did. -/
def kVApartSpec : ChangeSpec := { name := "kVApart", fn := fun _ => fun
  | [d1, d2] => { results := [.lit (.bool true)], args := [d1, d2] }
  | _ => none }
def kVApartRow : OpenClaim := { program := "ytngemlpalkfjeaa", sum := "edbcfbc2bab8fe17b7d18bcc838b141640b49e69ddb08c515c9ced7a101a6bf8", func := "glean/gleanlaw6.KVApart", spec := "kVApart", inPlace := ["sync/atomic.AddInt64", "internal/bytealg.Compare", "slices.overlaps[glean/page.entry]", "slices.overlaps[[]glean/page.entry]", "sync/atomic.LoadInt64"], unfollowed := true, recurses := true, apart := false }
def KVApartSaid : Prop := kVApartRow.holds Try.pinned (OpenSpec.ofChange kVApartSpec)

/-- ITS FALSE NEIGHBOUR: 'it returns false'. Refute it at one input. -/
def kVApartWrong : ChangeSpec := { name := "kVApart", fn := fun _ => fun
  | [d1, d2] => { results := [.lit (.bool false)], args := [d1, d2] }
  | _ => none }
def KVApartWrongFalsely : Prop := kVApartRow.holds Try.pinned (OpenSpec.ofChange kVApartWrong)

/-- 'gleanlaw6.KVDeep': WHATEVER THE INPUT: true; the input reads as it did. -/
def kVDeepSpec : ChangeSpec := { name := "kVDeep", fn := fun _ => fun
  | [d1, d2, d3, d4] => { results := [.lit (.bool true)], args := [d1, d2, d3, d4] }
  | _ => none }
def kVDeepRow : OpenClaim := { program := "ytngemlpalkfjeaa", sum := "edbcfbc2bab8fe17b7d18bcc838b141640b49e69ddb08c515c9ced7a101a6bf8", func := "glean/gleanlaw6.KVDeep", spec := "kVDeep", inPlace := ["sync/atomic.AddInt64", "internal/bytealg.Compare", "slices.overlaps[glean/page.entry]", "slices.overlaps[[]glean/page.entry]", "sync/atomic.LoadInt64"], unfollowed := true, recurses := true, apart := false }
def KVDeepSaid : Prop := kVDeepRow.holds Try.pinned (OpenSpec.ofChange kVDeepSpec)

/-- ITS FALSE NEIGHBOUR: 'it returns false'. Refute it at one input. -/
def kVDeepWrong : ChangeSpec := { name := "kVDeep", fn := fun _ => fun
  | [d1, d2, d3, d4] => { results := [.lit (.bool false)], args := [d1, d2, d3, d4] }
  | _ => none }
def KVDeepWrongFalsely : Prop := kVDeepRow.holds Try.pinned (OpenSpec.ofChange kVDeepWrong)

/-- 'gleanlaw6.KVLast': WHATEVER THE INPUT: true; the input reads as it did. -/
def kVLastSpec : ChangeSpec := { name := "kVLast", fn := fun _ => fun
  | [d] => { results := [.lit (.bool true)], args := [d] }
  | _ => none }
def kVLastRow : OpenClaim := { program := "ytngemlpalkfjeaa", sum := "edbcfbc2bab8fe17b7d18bcc838b141640b49e69ddb08c515c9ced7a101a6bf8", func := "glean/gleanlaw6.KVLast", spec := "kVLast", inPlace := ["sync/atomic.AddInt64", "internal/bytealg.Compare", "slices.overlaps[glean/page.entry]", "slices.overlaps[[]glean/page.entry]", "sync/atomic.LoadInt64"], unfollowed := true, recurses := true, apart := false }
def KVLastSaid : Prop := kVLastRow.holds Try.pinned (OpenSpec.ofChange kVLastSpec)

/-- ITS FALSE NEIGHBOUR: 'it returns false'. Refute it at one input. -/
def kVLastWrong : ChangeSpec := { name := "kVLast", fn := fun _ => fun
  | [d] => { results := [.lit (.bool false)], args := [d] }
  | _ => none }
def KVLastWrongFalsely : Prop := kVLastRow.holds Try.pinned (OpenSpec.ofChange kVLastWrong)

/- THE SECOND FORM. 'bulk': how many values and letters a reading holds, each counted each time it is reached (what is shared counts as often as it is met; a slice's spare places count too). A statement '..UptoSaid' is the law's where the arguments, and the package variables that the reading takes, are together of bulk at most 1048576: NARROWER than '..Said'. Prove '..Said' where nothing that the law and all that it calls make is longer than what came in: it says more and counts as full. Else prove '..UptoSaid'. A law counts once. -/
mutual
def uptoBulk {H : Type} : DataW H → Nat
  | .lit (.string bytes) => bytes.length + 1
  | .lit _ => 1
  | .nil => 1
  | .ptr d => uptoBulk d + 1
  | .slice elems spare => uptoBulkAll elems + uptoBulkAll spare + 1
  | .agg parts => uptoBulkAll parts + 1
  | .iface _ d => uptoBulk d + 1
  | .map entries => uptoBulkEntries entries + 1
  | .held _ => 1
def uptoBulkAll {H : Type} : List (DataW H) → Nat
  | [] => 0
  | d :: r => uptoBulk d + uptoBulkAll r
def uptoBulkEntries {H : Type} : List (Lit × DataW H) → Nat
  | [] => 0
  | x :: r => uptoBulkEntry x + uptoBulkEntries r
def uptoBulkEntry {H : Type} : Lit × DataW H → Nat
  | (.string bytes, d) => bytes.length + uptoBulk d + 1
  | (_, d) => uptoBulk d + 1
 end
def uptoSmall : (H : Type) → List (DataW H) → Bool := fun _ ds => decide (uptoBulkAll ds ≤ 1048576)
def OpenSpec.upto (s : _root_.Go.ChangeSpec) : _root_.Go.OpenSpec := { _root_.Go.OpenSpec.ofChange s with cond := some uptoSmall }

/-- 'gleanlaw6.KVPlays', WHERE WHAT IT READS IS OF BULK AT MOST 1048576: true; the input reads as it did. -/
def kVPlaysUptoRow : OpenClaim := { program := "ytngemlpalkfjeaa", sum := "edbcfbc2bab8fe17b7d18bcc838b141640b49e69ddb08c515c9ced7a101a6bf8", func := "glean/gleanlaw6.KVPlays", spec := "kVPlays", inPlace := ["sync/atomic.AddInt64", "internal/bytealg.Compare", "slices.overlaps[glean/page.entry]", "slices.overlaps[[]glean/page.entry]", "sync/atomic.LoadInt64"], unfollowed := true, recurses := true, apart := false, narrowed := true }
def KVPlaysUptoSaid : Prop := kVPlaysUptoRow.holds Try.pinned (OpenSpec.upto kVPlaysSpec)

/-- 'gleanlaw6.KVBack', WHERE WHAT IT READS IS OF BULK AT MOST 1048576: true; the input reads as it did. -/
def kVBackUptoRow : OpenClaim := { program := "ytngemlpalkfjeaa", sum := "edbcfbc2bab8fe17b7d18bcc838b141640b49e69ddb08c515c9ced7a101a6bf8", func := "glean/gleanlaw6.KVBack", spec := "kVBack", inPlace := ["sync/atomic.AddInt64", "internal/bytealg.Compare", "slices.overlaps[glean/page.entry]", "slices.overlaps[[]glean/page.entry]", "sync/atomic.LoadInt64"], unfollowed := true, recurses := true, apart := false, narrowed := true }
def KVBackUptoSaid : Prop := kVBackUptoRow.holds Try.pinned (OpenSpec.upto kVBackSpec)

/-- 'gleanlaw6.KVPrefix', WHERE WHAT IT READS IS OF BULK AT MOST 1048576: true; the input reads as it did. -/
def kVPrefixUptoRow : OpenClaim := { program := "ytngemlpalkfjeaa", sum := "edbcfbc2bab8fe17b7d18bcc838b141640b49e69ddb08c515c9ced7a101a6bf8", func := "glean/gleanlaw6.KVPrefix", spec := "kVPrefix", inPlace := ["sync/atomic.AddInt64", "internal/bytealg.Compare", "slices.overlaps[glean/page.entry]", "slices.overlaps[[]glean/page.entry]", "sync/atomic.LoadInt64"], unfollowed := true, recurses := true, apart := false, narrowed := true }
def KVPrefixUptoSaid : Prop := kVPrefixUptoRow.holds Try.pinned (OpenSpec.upto kVPrefixSpec)

/-- 'gleanlaw6.KVApart', WHERE WHAT IT READS IS OF BULK AT MOST 1048576: true; the input reads as it did. -/
def kVApartUptoRow : OpenClaim := { program := "ytngemlpalkfjeaa", sum := "edbcfbc2bab8fe17b7d18bcc838b141640b49e69ddb08c515c9ced7a101a6bf8", func := "glean/gleanlaw6.KVApart", spec := "kVApart", inPlace := ["sync/atomic.AddInt64", "internal/bytealg.Compare", "slices.overlaps[glean/page.entry]", "slices.overlaps[[]glean/page.entry]", "sync/atomic.LoadInt64"], unfollowed := true, recurses := true, apart := false, narrowed := true }
def KVApartUptoSaid : Prop := kVApartUptoRow.holds Try.pinned (OpenSpec.upto kVApartSpec)

/-- 'gleanlaw6.KVDeep', WHERE WHAT IT READS IS OF BULK AT MOST 1048576: true; the input reads as it did. -/
def kVDeepUptoRow : OpenClaim := { program := "ytngemlpalkfjeaa", sum := "edbcfbc2bab8fe17b7d18bcc838b141640b49e69ddb08c515c9ced7a101a6bf8", func := "glean/gleanlaw6.KVDeep", spec := "kVDeep", inPlace := ["sync/atomic.AddInt64", "internal/bytealg.Compare", "slices.overlaps[glean/page.entry]", "slices.overlaps[[]glean/page.entry]", "sync/atomic.LoadInt64"], unfollowed := true, recurses := true, apart := false, narrowed := true }
def KVDeepUptoSaid : Prop := kVDeepUptoRow.holds Try.pinned (OpenSpec.upto kVDeepSpec)

/-- 'gleanlaw6.KVLast', WHERE WHAT IT READS IS OF BULK AT MOST 1048576: true; the input reads as it did. -/
def kVLastUptoRow : OpenClaim := { program := "ytngemlpalkfjeaa", sum := "edbcfbc2bab8fe17b7d18bcc838b141640b49e69ddb08c515c9ced7a101a6bf8", func := "glean/gleanlaw6.KVLast", spec := "kVLast", inPlace := ["sync/atomic.AddInt64", "internal/bytealg.Compare", "slices.overlaps[glean/page.entry]", "slices.overlaps[[]glean/page.entry]", "sync/atomic.LoadInt64"], unfollowed := true, recurses := true, apart := false, narrowed := true }
def KVLastUptoSaid : Prop := kVLastUptoRow.holds Try.pinned (OpenSpec.upto kVLastSpec)

end Rows
end Go.Proofs.Ytngemlpalkfjeaa
