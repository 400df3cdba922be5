/-
  No cell of these rows narrows 'for every input' (looked for: loops, veiled, ifaces, maps, wideKeys, modest, calm, conditions, laid).
  DERIVED. THE GIVEN ROWS OF THIS SEAT. 7 by the template 'for every input the law returns true; each argument reads behind the call as it read before'; 0 by the template 'total and deterministic' (their statements: YtnbpiejjeeomkaaTotals.lean).
  GIVEN WITH THE SEED: the statements are not yours to turn. If you find one false, say at which input.
  Laid BY PROGRAM, IN A SANDBOX (cutbox-rows.mjs): the forced cells as the released guide's own fill.sh prints them over the translation 6b9d574bb0dbacba… (all of the seat's roots in one cut). By AI agents, Wed Nov 11 2026. No macro, syntax, notation, axiom, sorry.
-/
import Derived.Test.YtnbpiejjeeomkaaChecked
import GoSem.Claim
import GoSem.ClaimJoined
import GoSem.ClaimMapViews
import Derived.JoinedTies
import Derived.KernelRfl
namespace Go.Proofs.Ytnbpiejjeeomkaa
/- THE CELL 'sum', in the pinned program and in every row, IS THE sha256 OF THE DUMP (.gsa) THAT YtnbpiejjeeomkaaProg.lean LOADS. Nothing in Lean hashes anything: it is a label: what it is worth is what the hold of that sum in a sandbox is worth. -/
noncomputable def Try.pinned : Pinned := { name := "ytnbpiejjeeomkaa", sum := "6b9d574bb0dbacbaffa472f1ce180828ad378fc827d825c559b2de58b0a09387", checked := Try.checked }
namespace Rows
def none {H : Type} : Left H := { results := [], args := [] }

/-- 'facetlaw05.TreeBuilds': WHATEVER THE INPUT: true; the input reads as it did. -/
def treeBuildsSpec : ChangeSpec := { name := "treeBuilds", fn := fun _ => fun
  | [d1, d2] => { results := [.lit (.bool true)], args := [d1, d2] }
  | _ => none }
def treeBuildsRow : OpenClaim := { program := "ytnbpiejjeeomkaa", sum := "6b9d574bb0dbacbaffa472f1ce180828ad378fc827d825c559b2de58b0a09387", func := "facet/facetlaw05.TreeBuilds", spec := "treeBuilds", unfollowed := true, recurses := true, apart := false }
def TreeBuildsSaid : Prop := treeBuildsRow.holds Try.pinned (OpenSpec.ofChange treeBuildsSpec)

/-- ITS FALSE NEIGHBOUR: 'it returns false'. Refute it at one input. -/
def treeBuildsWrong : ChangeSpec := { name := "treeBuilds", fn := fun _ => fun
  | [d1, d2] => { results := [.lit (.bool false)], args := [d1, d2] }
  | _ => none }
def TreeBuildsWrongFalsely : Prop := treeBuildsRow.holds Try.pinned (OpenSpec.ofChange treeBuildsWrong)

/-- 'facetlaw05.TreeChecks': WHATEVER THE INPUT: true; the input reads as it did. -/
def treeChecksSpec : ChangeSpec := { name := "treeChecks", fn := fun _ => fun
  | [d1, d2] => { results := [.lit (.bool true)], args := [d1, d2] }
  | _ => none }
def treeChecksRow : OpenClaim := { program := "ytnbpiejjeeomkaa", sum := "6b9d574bb0dbacbaffa472f1ce180828ad378fc827d825c559b2de58b0a09387", func := "facet/facetlaw05.TreeChecks", spec := "treeChecks", unfollowed := true, recurses := true, apart := false }
def TreeChecksSaid : Prop := treeChecksRow.holds Try.pinned (OpenSpec.ofChange treeChecksSpec)

/-- ITS FALSE NEIGHBOUR: 'it returns false'. Refute it at one input. -/
def treeChecksWrong : ChangeSpec := { name := "treeChecks", fn := fun _ => fun
  | [d1, d2] => { results := [.lit (.bool false)], args := [d1, d2] }
  | _ => none }
def TreeChecksWrongFalsely : Prop := treeChecksRow.holds Try.pinned (OpenSpec.ofChange treeChecksWrong)

/-- 'facetlaw05.TreeFarSpans': WHATEVER THE INPUT: true; the input reads as it did. -/
def treeFarSpansSpec : ChangeSpec := { name := "treeFarSpans", fn := fun _ => fun
  | [d1, d2] => { results := [.lit (.bool true)], args := [d1, d2] }
  | _ => none }
def treeFarSpansRow : OpenClaim := { program := "ytnbpiejjeeomkaa", sum := "6b9d574bb0dbacbaffa472f1ce180828ad378fc827d825c559b2de58b0a09387", func := "facet/facetlaw05.TreeFarSpans", spec := "treeFarSpans", unfollowed := true, recurses := true, apart := false }
def TreeFarSpansSaid : Prop := treeFarSpansRow.holds Try.pinned (OpenSpec.ofChange treeFarSpansSpec)

/-- ITS FALSE NEIGHBOUR: 'it returns false'. Refute it at one input. -/
def treeFarSpansWrong : ChangeSpec := { name := "treeFarSpans", fn := fun _ => fun
  | [d1, d2] => { results := [.lit (.bool false)], args := [d1, d2] }
  | _ => none }
def TreeFarSpansWrongFalsely : Prop := treeFarSpansRow.holds Try.pinned (OpenSpec.ofChange treeFarSpansWrong)

/-- 'facetlaw05.TreeCovers': WHATEVER THE INPUT: true; the input reads as it did. -/
def treeCoversSpec : ChangeSpec := { name := "treeCovers", fn := fun _ => fun
  | [d1, d2, d3] => { results := [.lit (.bool true)], args := [d1, d2, d3] }
  | _ => none }
def treeCoversRow : OpenClaim := { program := "ytnbpiejjeeomkaa", sum := "6b9d574bb0dbacbaffa472f1ce180828ad378fc827d825c559b2de58b0a09387", func := "facet/facetlaw05.TreeCovers", spec := "treeCovers", unfollowed := true, recurses := true, apart := false }
def TreeCoversSaid : Prop := treeCoversRow.holds Try.pinned (OpenSpec.ofChange treeCoversSpec)

/-- ITS FALSE NEIGHBOUR: 'it returns false'. Refute it at one input. -/
def treeCoversWrong : ChangeSpec := { name := "treeCovers", fn := fun _ => fun
  | [d1, d2, d3] => { results := [.lit (.bool false)], args := [d1, d2, d3] }
  | _ => none }
def TreeCoversWrongFalsely : Prop := treeCoversRow.holds Try.pinned (OpenSpec.ofChange treeCoversWrong)

/-- 'facetlaw05.TreeChooses': WHATEVER THE INPUT: true; the input reads as it did. -/
def treeChoosesSpec : ChangeSpec := { name := "treeChooses", fn := fun _ => fun
  | [d1, d2] => { results := [.lit (.bool true)], args := [d1, d2] }
  | _ => none }
def treeChoosesRow : OpenClaim := { program := "ytnbpiejjeeomkaa", sum := "6b9d574bb0dbacbaffa472f1ce180828ad378fc827d825c559b2de58b0a09387", func := "facet/facetlaw05.TreeChooses", spec := "treeChooses", unfollowed := true, recurses := true, apart := false }
def TreeChoosesSaid : Prop := treeChoosesRow.holds Try.pinned (OpenSpec.ofChange treeChoosesSpec)

/-- ITS FALSE NEIGHBOUR: 'it returns false'. Refute it at one input. -/
def treeChoosesWrong : ChangeSpec := { name := "treeChooses", fn := fun _ => fun
  | [d1, d2] => { results := [.lit (.bool false)], args := [d1, d2] }
  | _ => none }
def TreeChoosesWrongFalsely : Prop := treeChoosesRow.holds Try.pinned (OpenSpec.ofChange treeChoosesWrong)

/-- 'facetlaw05.TreeServes': WHATEVER THE INPUT: true; the input reads as it did. -/
def treeServesSpec : ChangeSpec := { name := "treeServes", fn := fun _ => fun
  | [d1, d2] => { results := [.lit (.bool true)], args := [d1, d2] }
  | _ => none }
def treeServesRow : OpenClaim := { program := "ytnbpiejjeeomkaa", sum := "6b9d574bb0dbacbaffa472f1ce180828ad378fc827d825c559b2de58b0a09387", func := "facet/facetlaw05.TreeServes", spec := "treeServes", unfollowed := true, recurses := true, apart := false }
def TreeServesSaid : Prop := treeServesRow.holds Try.pinned (OpenSpec.ofChange treeServesSpec)

/-- ITS FALSE NEIGHBOUR: 'it returns false'. Refute it at one input. -/
def treeServesWrong : ChangeSpec := { name := "treeServes", fn := fun _ => fun
  | [d1, d2] => { results := [.lit (.bool false)], args := [d1, d2] }
  | _ => none }
def TreeServesWrongFalsely : Prop := treeServesRow.holds Try.pinned (OpenSpec.ofChange treeServesWrong)

/-- 'facetlaw05.TreeBlocks': WHATEVER THE INPUT: true; the input reads as it did. -/
def treeBlocksSpec : ChangeSpec := { name := "treeBlocks", fn := fun _ => fun
  | [d1, d2, d3] => { results := [.lit (.bool true)], args := [d1, d2, d3] }
  | _ => none }
def treeBlocksRow : OpenClaim := { program := "ytnbpiejjeeomkaa", sum := "6b9d574bb0dbacbaffa472f1ce180828ad378fc827d825c559b2de58b0a09387", func := "facet/facetlaw05.TreeBlocks", spec := "treeBlocks", unfollowed := true, recurses := true, apart := false }
def TreeBlocksSaid : Prop := treeBlocksRow.holds Try.pinned (OpenSpec.ofChange treeBlocksSpec)

/-- ITS FALSE NEIGHBOUR: 'it returns false'. Refute it at one input. -/
def treeBlocksWrong : ChangeSpec := { name := "treeBlocks", fn := fun _ => fun
  | [d1, d2, d3] => { results := [.lit (.bool false)], args := [d1, d2, d3] }
  | _ => none }
def TreeBlocksWrongFalsely : Prop := treeBlocksRow.holds Try.pinned (OpenSpec.ofChange treeBlocksWrong)

/- THE SECOND FORM. 'bulk': how many values and letters a reading holds, each counted each time it is reached (what is shared counts as often as it is met; a slice's spare places count too). A statement '..UptoSaid' is the law's where the arguments, and the package variables that the reading takes, are together of bulk at most 1048576: NARROWER than '..Said'. Prove '..Said' where nothing that the law and all that it calls make is longer than what came in: it says more and counts as full. Else prove '..UptoSaid'. A law counts once. -/
mutual
def uptoBulk {H : Type} : DataW H → Nat
  | .lit (.string bytes) => bytes.length + 1
  | .lit _ => 1
  | .nil => 1
  | .ptr d => uptoBulk d + 1
  | .slice elems spare => uptoBulkAll elems + uptoBulkAll spare + 1
  | .agg parts => uptoBulkAll parts + 1
  | .iface _ d => uptoBulk d + 1
  | .map entries => uptoBulkEntries entries + 1
  | .held _ => 1
def uptoBulkAll {H : Type} : List (DataW H) → Nat
  | [] => 0
  | d :: r => uptoBulk d + uptoBulkAll r
def uptoBulkEntries {H : Type} : List (Lit × DataW H) → Nat
  | [] => 0
  | x :: r => uptoBulkEntry x + uptoBulkEntries r
def uptoBulkEntry {H : Type} : Lit × DataW H → Nat
  | (.string bytes, d) => bytes.length + uptoBulk d + 1
  | (_, d) => uptoBulk d + 1
 end
def uptoSmall : (H : Type) → List (DataW H) → Bool := fun _ ds => decide (uptoBulkAll ds ≤ 1048576)
def OpenSpec.upto (s : _root_.Go.ChangeSpec) : _root_.Go.OpenSpec := { _root_.Go.OpenSpec.ofChange s with cond := some uptoSmall }

/-- 'facetlaw05.TreeBuilds', WHERE WHAT IT READS IS OF BULK AT MOST 1048576: true; the input reads as it did. -/
def treeBuildsUptoRow : OpenClaim := { program := "ytnbpiejjeeomkaa", sum := "6b9d574bb0dbacbaffa472f1ce180828ad378fc827d825c559b2de58b0a09387", func := "facet/facetlaw05.TreeBuilds", spec := "treeBuilds", unfollowed := true, recurses := true, apart := false, narrowed := true }
def TreeBuildsUptoSaid : Prop := treeBuildsUptoRow.holds Try.pinned (OpenSpec.upto treeBuildsSpec)

/-- 'facetlaw05.TreeChecks', WHERE WHAT IT READS IS OF BULK AT MOST 1048576: true; the input reads as it did. -/
def treeChecksUptoRow : OpenClaim := { program := "ytnbpiejjeeomkaa", sum := "6b9d574bb0dbacbaffa472f1ce180828ad378fc827d825c559b2de58b0a09387", func := "facet/facetlaw05.TreeChecks", spec := "treeChecks", unfollowed := true, recurses := true, apart := false, narrowed := true }
def TreeChecksUptoSaid : Prop := treeChecksUptoRow.holds Try.pinned (OpenSpec.upto treeChecksSpec)

/-- 'facetlaw05.TreeFarSpans', WHERE WHAT IT READS IS OF BULK AT MOST 1048576: true; the input reads as it did. -/
def treeFarSpansUptoRow : OpenClaim := { program := "ytnbpiejjeeomkaa", sum := "6b9d574bb0dbacbaffa472f1ce180828ad378fc827d825c559b2de58b0a09387", func := "facet/facetlaw05.TreeFarSpans", spec := "treeFarSpans", unfollowed := true, recurses := true, apart := false, narrowed := true }
def TreeFarSpansUptoSaid : Prop := treeFarSpansUptoRow.holds Try.pinned (OpenSpec.upto treeFarSpansSpec)

/-- 'facetlaw05.TreeCovers', WHERE WHAT IT READS IS OF BULK AT MOST 1048576: true; the input reads as it did. -/
def treeCoversUptoRow : OpenClaim := { program := "ytnbpiejjeeomkaa", sum := "6b9d574bb0dbacbaffa472f1ce180828ad378fc827d825c559b2de58b0a09387", func := "facet/facetlaw05.TreeCovers", spec := "treeCovers", unfollowed := true, recurses := true, apart := false, narrowed := true }
def TreeCoversUptoSaid : Prop := treeCoversUptoRow.holds Try.pinned (OpenSpec.upto treeCoversSpec)

/-- 'facetlaw05.TreeChooses', WHERE WHAT IT READS IS OF BULK AT MOST 1048576: true; the input reads as it did. -/
def treeChoosesUptoRow : OpenClaim := { program := "ytnbpiejjeeomkaa", sum := "6b9d574bb0dbacbaffa472f1ce180828ad378fc827d825c559b2de58b0a09387", func := "facet/facetlaw05.TreeChooses", spec := "treeChooses", unfollowed := true, recurses := true, apart := false, narrowed := true }
def TreeChoosesUptoSaid : Prop := treeChoosesUptoRow.holds Try.pinned (OpenSpec.upto treeChoosesSpec)

/-- 'facetlaw05.TreeServes', WHERE WHAT IT READS IS OF BULK AT MOST 1048576: true; the input reads as it did. -/
def treeServesUptoRow : OpenClaim := { program := "ytnbpiejjeeomkaa", sum := "6b9d574bb0dbacbaffa472f1ce180828ad378fc827d825c559b2de58b0a09387", func := "facet/facetlaw05.TreeServes", spec := "treeServes", unfollowed := true, recurses := true, apart := false, narrowed := true }
def TreeServesUptoSaid : Prop := treeServesUptoRow.holds Try.pinned (OpenSpec.upto treeServesSpec)

/-- 'facetlaw05.TreeBlocks', WHERE WHAT IT READS IS OF BULK AT MOST 1048576: true; the input reads as it did. -/
def treeBlocksUptoRow : OpenClaim := { program := "ytnbpiejjeeomkaa", sum := "6b9d574bb0dbacbaffa472f1ce180828ad378fc827d825c559b2de58b0a09387", func := "facet/facetlaw05.TreeBlocks", spec := "treeBlocks", unfollowed := true, recurses := true, apart := false, narrowed := true }
def TreeBlocksUptoSaid : Prop := treeBlocksUptoRow.holds Try.pinned (OpenSpec.upto treeBlocksSpec)

end Rows
end Go.Proofs.Ytnbpiejjeeomkaa
