/-
  No cell of these rows narrows 'for every input' (looked for: loops, veiled, ifaces, maps, wideKeys, modest, calm, conditions, laid).
  DERIVED. THE GIVEN ROWS OF THIS SEAT. 4 by the template 'for every input the law returns true; each argument reads behind the call as it read before'; 0 by the template 'total and deterministic' (their statements: YtjlomnhngngkiaaTotals.lean).
  GIVEN WITH THE SEED: the statements are not yours to turn. If you find one false, say at which input.
  Laid BY PROGRAM, IN A SANDBOX (cutbox-rows.mjs): the forced cells as the released guide's own fill.sh prints them over the translation 410f316f1833a947… (all of the seat's roots in one cut). By AI agents, Wed Nov 11 2026. No macro, syntax, notation, axiom, sorry.
-/
import Derived.Test.YtjlomnhngngkiaaChecked
import GoSem.Claim
import GoSem.ClaimJoined
import GoSem.ClaimMapViews
import Derived.JoinedTies
import Derived.KernelRfl
namespace Go.Proofs.Ytjlomnhngngkiaa
/- THE CELL 'sum', in the pinned program and in every row, IS THE sha256 OF THE DUMP (.gsa) THAT YtjlomnhngngkiaaProg.lean LOADS. Nothing in Lean hashes anything: it is a label: what it is worth is what the hold of that sum in a sandbox is worth. -/
noncomputable def Try.pinned : Pinned := { name := "ytjlomnhngngkiaa", sum := "410f316f1833a947446d3a576b813c638fef328909c225f411970a487192b12a", checked := Try.checked }
namespace Rows
def none {H : Type} : Left H := { results := [], args := [] }

/-- 'gleanlaw5.PagePlays': WHATEVER THE INPUT: true; the input reads as it did. -/
def pagePlaysSpec : ChangeSpec := { name := "pagePlays", fn := fun _ => fun
  | [d] => { results := [.lit (.bool true)], args := [d] }
  | _ => none }
def pagePlaysRow : OpenClaim := { program := "ytjlomnhngngkiaa", sum := "410f316f1833a947446d3a576b813c638fef328909c225f411970a487192b12a", func := "glean/gleanlaw5.PagePlays", spec := "pagePlays", inPlace := ["internal/bytealg.Compare", "slices.overlaps[glean/page.entry]", "slices.overlaps[[]glean/page.entry]"], unfollowed := true, recurses := true, apart := false }
def PagePlaysSaid : Prop := pagePlaysRow.holds Try.pinned (OpenSpec.ofChange pagePlaysSpec)

/-- ITS FALSE NEIGHBOUR: 'it returns false'. Refute it at one input. -/
def pagePlaysWrong : ChangeSpec := { name := "pagePlays", fn := fun _ => fun
  | [d] => { results := [.lit (.bool false)], args := [d] }
  | _ => none }
def PagePlaysWrongFalsely : Prop := pagePlaysRow.holds Try.pinned (OpenSpec.ofChange pagePlaysWrong)

/-- 'gleanlaw5.PageShape': WHATEVER THE INPUT: true; the input reads as it did. -/
def pageShapeSpec : ChangeSpec := { name := "pageShape", fn := fun _ => fun
  | [d] => { results := [.lit (.bool true)], args := [d] }
  | _ => none }
def pageShapeRow : OpenClaim := { program := "ytjlomnhngngkiaa", sum := "410f316f1833a947446d3a576b813c638fef328909c225f411970a487192b12a", func := "glean/gleanlaw5.PageShape", spec := "pageShape", inPlace := ["internal/bytealg.Compare", "slices.overlaps[glean/page.entry]", "slices.overlaps[[]glean/page.entry]"], unfollowed := true, recurses := true, apart := false }
def PageShapeSaid : Prop := pageShapeRow.holds Try.pinned (OpenSpec.ofChange pageShapeSpec)

/-- ITS FALSE NEIGHBOUR: 'it returns false'. Refute it at one input. -/
def pageShapeWrong : ChangeSpec := { name := "pageShape", fn := fun _ => fun
  | [d] => { results := [.lit (.bool false)], args := [d] }
  | _ => none }
def PageShapeWrongFalsely : Prop := pageShapeRow.holds Try.pinned (OpenSpec.ofChange pageShapeWrong)

/-- 'gleanlaw5.PageWalks': WHATEVER THE INPUT: true; the input reads as it did. -/
def pageWalksSpec : ChangeSpec := { name := "pageWalks", fn := fun _ => fun
  | [d1, d2, d3, d4] => { results := [.lit (.bool true)], args := [d1, d2, d3, d4] }
  | _ => none }
def pageWalksRow : OpenClaim := { program := "ytjlomnhngngkiaa", sum := "410f316f1833a947446d3a576b813c638fef328909c225f411970a487192b12a", func := "glean/gleanlaw5.PageWalks", spec := "pageWalks", inPlace := ["internal/bytealg.Compare", "slices.overlaps[glean/page.entry]", "slices.overlaps[[]glean/page.entry]"], unfollowed := true, recurses := true, apart := false }
def PageWalksSaid : Prop := pageWalksRow.holds Try.pinned (OpenSpec.ofChange pageWalksSpec)

/-- ITS FALSE NEIGHBOUR: 'it returns false'. Refute it at one input. -/
def pageWalksWrong : ChangeSpec := { name := "pageWalks", fn := fun _ => fun
  | [d1, d2, d3, d4] => { results := [.lit (.bool false)], args := [d1, d2, d3, d4] }
  | _ => none }
def PageWalksWrongFalsely : Prop := pageWalksRow.holds Try.pinned (OpenSpec.ofChange pageWalksWrong)

/-- 'gleanlaw5.PageLong': WHATEVER THE INPUT: true; the input reads as it did. -/
def pageLongSpec : ChangeSpec := { name := "pageLong", fn := fun _ => fun
  | [d1, d2] => { results := [.lit (.bool true)], args := [d1, d2] }
  | _ => none }
def pageLongRow : OpenClaim := { program := "ytjlomnhngngkiaa", sum := "410f316f1833a947446d3a576b813c638fef328909c225f411970a487192b12a", func := "glean/gleanlaw5.PageLong", spec := "pageLong", inPlace := ["internal/bytealg.Compare", "slices.overlaps[glean/page.entry]", "slices.overlaps[[]glean/page.entry]"], unfollowed := true, recurses := true, apart := false }
def PageLongSaid : Prop := pageLongRow.holds Try.pinned (OpenSpec.ofChange pageLongSpec)

/-- ITS FALSE NEIGHBOUR: 'it returns false'. Refute it at one input. -/
def pageLongWrong : ChangeSpec := { name := "pageLong", fn := fun _ => fun
  | [d1, d2] => { results := [.lit (.bool false)], args := [d1, d2] }
  | _ => none }
def PageLongWrongFalsely : Prop := pageLongRow.holds Try.pinned (OpenSpec.ofChange pageLongWrong)

/- THE SECOND FORM. 'bulk': how many values and letters a reading holds, each counted each time it is reached (what is shared counts as often as it is met; a slice's spare places count too). A statement '..UptoSaid' is the law's where the arguments, and the package variables that the reading takes, are together of bulk at most 1048576: NARROWER than '..Said'. Prove '..Said' where nothing that the law and all that it calls make is longer than what came in: it says more and counts as full. Else prove '..UptoSaid'. A law counts once. -/
mutual
def uptoBulk {H : Type} : DataW H → Nat
  | .lit (.string bytes) => bytes.length + 1
  | .lit _ => 1
  | .nil => 1
  | .ptr d => uptoBulk d + 1
  | .slice elems spare => uptoBulkAll elems + uptoBulkAll spare + 1
  | .agg parts => uptoBulkAll parts + 1
  | .iface _ d => uptoBulk d + 1
  | .map entries => uptoBulkEntries entries + 1
  | .held _ => 1
def uptoBulkAll {H : Type} : List (DataW H) → Nat
  | [] => 0
  | d :: r => uptoBulk d + uptoBulkAll r
def uptoBulkEntries {H : Type} : List (Lit × DataW H) → Nat
  | [] => 0
  | x :: r => uptoBulkEntry x + uptoBulkEntries r
def uptoBulkEntry {H : Type} : Lit × DataW H → Nat
  | (.string bytes, d) => bytes.length + uptoBulk d + 1
  | (_, d) => uptoBulk d + 1
 end
def uptoSmall : (H : Type) → List (DataW H) → Bool := fun _ ds => decide (uptoBulkAll ds ≤ 1048576)
def OpenSpec.upto (s : _root_.Go.ChangeSpec) : _root_.Go.OpenSpec := { _root_.Go.OpenSpec.ofChange s with cond := some uptoSmall }

/-- 'gleanlaw5.PagePlays', WHERE WHAT IT READS IS OF BULK AT MOST 1048576: true; the input reads as it did. -/
def pagePlaysUptoRow : OpenClaim := { program := "ytjlomnhngngkiaa", sum := "410f316f1833a947446d3a576b813c638fef328909c225f411970a487192b12a", func := "glean/gleanlaw5.PagePlays", spec := "pagePlays", inPlace := ["internal/bytealg.Compare", "slices.overlaps[glean/page.entry]", "slices.overlaps[[]glean/page.entry]"], unfollowed := true, recurses := true, apart := false, narrowed := true }
def PagePlaysUptoSaid : Prop := pagePlaysUptoRow.holds Try.pinned (OpenSpec.upto pagePlaysSpec)

/-- 'gleanlaw5.PageShape', WHERE WHAT IT READS IS OF BULK AT MOST 1048576: true; the input reads as it did. -/
def pageShapeUptoRow : OpenClaim := { program := "ytjlomnhngngkiaa", sum := "410f316f1833a947446d3a576b813c638fef328909c225f411970a487192b12a", func := "glean/gleanlaw5.PageShape", spec := "pageShape", inPlace := ["internal/bytealg.Compare", "slices.overlaps[glean/page.entry]", "slices.overlaps[[]glean/page.entry]"], unfollowed := true, recurses := true, apart := false, narrowed := true }
def PageShapeUptoSaid : Prop := pageShapeUptoRow.holds Try.pinned (OpenSpec.upto pageShapeSpec)

/-- 'gleanlaw5.PageWalks', WHERE WHAT IT READS IS OF BULK AT MOST 1048576: true; the input reads as it did. -/
def pageWalksUptoRow : OpenClaim := { program := "ytjlomnhngngkiaa", sum := "410f316f1833a947446d3a576b813c638fef328909c225f411970a487192b12a", func := "glean/gleanlaw5.PageWalks", spec := "pageWalks", inPlace := ["internal/bytealg.Compare", "slices.overlaps[glean/page.entry]", "slices.overlaps[[]glean/page.entry]"], unfollowed := true, recurses := true, apart := false, narrowed := true }
def PageWalksUptoSaid : Prop := pageWalksUptoRow.holds Try.pinned (OpenSpec.upto pageWalksSpec)

/-- 'gleanlaw5.PageLong', WHERE WHAT IT READS IS OF BULK AT MOST 1048576: true; the input reads as it did. -/
def pageLongUptoRow : OpenClaim := { program := "ytjlomnhngngkiaa", sum := "410f316f1833a947446d3a576b813c638fef328909c225f411970a487192b12a", func := "glean/gleanlaw5.PageLong", spec := "pageLong", inPlace := ["internal/bytealg.Compare", "slices.overlaps[glean/page.entry]", "slices.overlaps[[]glean/page.entry]"], unfollowed := true, recurses := true, apart := false, narrowed := true }
def PageLongUptoSaid : Prop := pageLongUptoRow.holds Try.pinned (OpenSpec.upto pageLongSpec)

end Rows
end Go.Proofs.Ytjlomnhngngkiaa
