/-
  No cell of these rows narrows 'for every input' (looked for: loops, veiled, ifaces, maps, wideKeys, modest, calm, conditions, laid).
  DERIVED. THE GIVEN ROWS OF THIS SEAT. 4 by the template 'for every input the law returns true; each argument reads behind the call as it read before'; 0 by the template 'total and deterministic' (their statements: YtlckcjfbjnjfhaaGreatTotals.lean).
  GIVEN WITH THE SEED: the statements are not yours to turn. If you find one false, say at which input.
  Laid BY PROGRAM, IN A SANDBOX (cutbox-rows.mjs): the forced cells as the released guide's own fill.sh prints them over the translation dff4f6a37a460abb… (all of the seat's roots in one cut). By AI agents, Wed Nov 11 2026. No macro, syntax, notation, axiom, sorry.
-/
import Derived.Test.YtlckcjfbjnjfhaaGreatChecked
import GoSem.Claim
import GoSem.ClaimJoined
import GoSem.ClaimMapViews
import Derived.JoinedTies
import Derived.KernelRfl
namespace Go.Proofs.YtlckcjfbjnjfhaaGreat
/- THE CELL 'sum', in the pinned program and in every row, IS THE sha256 OF THE DUMP (.gsa) THAT YtlckcjfbjnjfhaaGreatProg.lean LOADS. Nothing in Lean hashes anything: it is a label: what it is worth is what the hold of that sum in a sandbox is worth. -/
noncomputable def Tryz.pinned : Pinned := { name := "ytlckcjfbjnjfhaagreat", sum := "dff4f6a37a460abbcae9170de3650044baaeacb8bced1480e6f5371c78823443", checked := Tryz.checked }
namespace Rows
def none {H : Type} : Left H := { results := [], args := [] }

/-- 'facetlaw05.TreeAgrees': WHATEVER THE INPUT: true; the input reads as it did. -/
def treeAgreesSpec : ChangeSpec := { name := "treeAgrees", fn := fun _ => fun
  | [d1, d2, d3] => { results := [.lit (.bool true)], args := [d1, d2, d3] }
  | _ => none }
def treeAgreesRow : OpenClaim := { program := "ytlckcjfbjnjfhaagreat", sum := "dff4f6a37a460abbcae9170de3650044baaeacb8bced1480e6f5371c78823443", func := "facet/facetlaw05.TreeAgrees", spec := "treeAgrees", unfollowed := true, recurses := true, apart := false }
def TreeAgreesSaid : Prop := treeAgreesRow.holds Tryz.pinned (OpenSpec.ofChange treeAgreesSpec)

/-- ITS FALSE NEIGHBOUR: 'it returns false'. Refute it at one input. -/
def treeAgreesWrong : ChangeSpec := { name := "treeAgrees", fn := fun _ => fun
  | [d1, d2, d3] => { results := [.lit (.bool false)], args := [d1, d2, d3] }
  | _ => none }
def TreeAgreesWrongFalsely : Prop := treeAgreesRow.holds Tryz.pinned (OpenSpec.ofChange treeAgreesWrong)

/-- 'facettop.TopBlocks': WHATEVER THE INPUT: true; the input reads as it did. -/
def topBlocksSpec : ChangeSpec := { name := "topBlocks", fn := fun _ => fun
  | [d1, d2, d3] => { results := [.lit (.bool true)], args := [d1, d2, d3] }
  | _ => none }
def topBlocksRow : OpenClaim := { program := "ytlckcjfbjnjfhaagreat", sum := "dff4f6a37a460abbcae9170de3650044baaeacb8bced1480e6f5371c78823443", func := "facet/facettop.TopBlocks", spec := "topBlocks", unfollowed := true, recurses := true, apart := false }
def TopBlocksSaid : Prop := topBlocksRow.holds Tryz.pinned (OpenSpec.ofChange topBlocksSpec)

/-- ITS FALSE NEIGHBOUR: 'it returns false'. Refute it at one input. -/
def topBlocksWrong : ChangeSpec := { name := "topBlocks", fn := fun _ => fun
  | [d1, d2, d3] => { results := [.lit (.bool false)], args := [d1, d2, d3] }
  | _ => none }
def TopBlocksWrongFalsely : Prop := topBlocksRow.holds Tryz.pinned (OpenSpec.ofChange topBlocksWrong)

/-- 'facetlaw05.TreeCompresses': WHATEVER THE INPUT: true; the input reads as it did. -/
def treeCompressesSpec : ChangeSpec := { name := "treeCompresses", fn := fun _ => fun
  | [d1, d2] => { results := [.lit (.bool true)], args := [d1, d2] }
  | _ => none }
def treeCompressesRow : OpenClaim := { program := "ytlckcjfbjnjfhaagreat", sum := "dff4f6a37a460abbcae9170de3650044baaeacb8bced1480e6f5371c78823443", func := "facet/facetlaw05.TreeCompresses", spec := "treeCompresses", unfollowed := true, recurses := true, apart := false }
def TreeCompressesSaid : Prop := treeCompressesRow.holds Tryz.pinned (OpenSpec.ofChange treeCompressesSpec)

/-- ITS FALSE NEIGHBOUR: 'it returns false'. Refute it at one input. -/
def treeCompressesWrong : ChangeSpec := { name := "treeCompresses", fn := fun _ => fun
  | [d1, d2] => { results := [.lit (.bool false)], args := [d1, d2] }
  | _ => none }
def TreeCompressesWrongFalsely : Prop := treeCompressesRow.holds Tryz.pinned (OpenSpec.ofChange treeCompressesWrong)

/-- 'facetlaw05.TreeApplies': WHATEVER THE INPUT: true; the input reads as it did. -/
def treeAppliesSpec : ChangeSpec := { name := "treeApplies", fn := fun _ => fun
  | [d1, d2] => { results := [.lit (.bool true)], args := [d1, d2] }
  | _ => none }
def treeAppliesRow : OpenClaim := { program := "ytlckcjfbjnjfhaagreat", sum := "dff4f6a37a460abbcae9170de3650044baaeacb8bced1480e6f5371c78823443", func := "facet/facetlaw05.TreeApplies", spec := "treeApplies", unfollowed := true, recurses := true, apart := false }
def TreeAppliesSaid : Prop := treeAppliesRow.holds Tryz.pinned (OpenSpec.ofChange treeAppliesSpec)

/-- ITS FALSE NEIGHBOUR: 'it returns false'. Refute it at one input. -/
def treeAppliesWrong : ChangeSpec := { name := "treeApplies", fn := fun _ => fun
  | [d1, d2] => { results := [.lit (.bool false)], args := [d1, d2] }
  | _ => none }
def TreeAppliesWrongFalsely : Prop := treeAppliesRow.holds Tryz.pinned (OpenSpec.ofChange treeAppliesWrong)

/- THE SECOND FORM. 'bulk': how many values and letters a reading holds, each counted each time it is reached (what is shared counts as often as it is met; a slice's spare places count too). A statement '..UptoSaid' is the law's where the arguments, and the package variables that the reading takes, are together of bulk at most 1048576: NARROWER than '..Said'. Prove '..Said' where nothing that the law and all that it calls make is longer than what came in: it says more and counts as full. Else prove '..UptoSaid'. A law counts once. -/
mutual
def uptoBulk {H : Type} : DataW H → Nat
  | .lit (.string bytes) => bytes.length + 1
  | .lit _ => 1
  | .nil => 1
  | .ptr d => uptoBulk d + 1
  | .slice elems spare => uptoBulkAll elems + uptoBulkAll spare + 1
  | .agg parts => uptoBulkAll parts + 1
  | .iface _ d => uptoBulk d + 1
  | .map entries => uptoBulkEntries entries + 1
  | .held _ => 1
def uptoBulkAll {H : Type} : List (DataW H) → Nat
  | [] => 0
  | d :: r => uptoBulk d + uptoBulkAll r
def uptoBulkEntries {H : Type} : List (Lit × DataW H) → Nat
  | [] => 0
  | x :: r => uptoBulkEntry x + uptoBulkEntries r
def uptoBulkEntry {H : Type} : Lit × DataW H → Nat
  | (.string bytes, d) => bytes.length + uptoBulk d + 1
  | (_, d) => uptoBulk d + 1
 end
def uptoSmall : (H : Type) → List (DataW H) → Bool := fun _ ds => decide (uptoBulkAll ds ≤ 1048576)
def OpenSpec.upto (s : _root_.Go.ChangeSpec) : _root_.Go.OpenSpec := { _root_.Go.OpenSpec.ofChange s with cond := some uptoSmall }

/-- 'facetlaw05.TreeAgrees', WHERE WHAT IT READS IS OF BULK AT MOST 1048576: true; the input reads as it did. -/
def treeAgreesUptoRow : OpenClaim := { program := "ytlckcjfbjnjfhaagreat", sum := "dff4f6a37a460abbcae9170de3650044baaeacb8bced1480e6f5371c78823443", func := "facet/facetlaw05.TreeAgrees", spec := "treeAgrees", unfollowed := true, recurses := true, apart := false, narrowed := true }
def TreeAgreesUptoSaid : Prop := treeAgreesUptoRow.holds Tryz.pinned (OpenSpec.upto treeAgreesSpec)

/-- 'facettop.TopBlocks', WHERE WHAT IT READS IS OF BULK AT MOST 1048576: true; the input reads as it did. -/
def topBlocksUptoRow : OpenClaim := { program := "ytlckcjfbjnjfhaagreat", sum := "dff4f6a37a460abbcae9170de3650044baaeacb8bced1480e6f5371c78823443", func := "facet/facettop.TopBlocks", spec := "topBlocks", unfollowed := true, recurses := true, apart := false, narrowed := true }
def TopBlocksUptoSaid : Prop := topBlocksUptoRow.holds Tryz.pinned (OpenSpec.upto topBlocksSpec)

/-- 'facetlaw05.TreeCompresses', WHERE WHAT IT READS IS OF BULK AT MOST 1048576: true; the input reads as it did. -/
def treeCompressesUptoRow : OpenClaim := { program := "ytlckcjfbjnjfhaagreat", sum := "dff4f6a37a460abbcae9170de3650044baaeacb8bced1480e6f5371c78823443", func := "facet/facetlaw05.TreeCompresses", spec := "treeCompresses", unfollowed := true, recurses := true, apart := false, narrowed := true }
def TreeCompressesUptoSaid : Prop := treeCompressesUptoRow.holds Tryz.pinned (OpenSpec.upto treeCompressesSpec)

/-- 'facetlaw05.TreeApplies', WHERE WHAT IT READS IS OF BULK AT MOST 1048576: true; the input reads as it did. -/
def treeAppliesUptoRow : OpenClaim := { program := "ytlckcjfbjnjfhaagreat", sum := "dff4f6a37a460abbcae9170de3650044baaeacb8bced1480e6f5371c78823443", func := "facet/facetlaw05.TreeApplies", spec := "treeApplies", unfollowed := true, recurses := true, apart := false, narrowed := true }
def TreeAppliesUptoSaid : Prop := treeAppliesUptoRow.holds Tryz.pinned (OpenSpec.upto treeAppliesSpec)

end Rows
end Go.Proofs.YtlckcjfbjnjfhaaGreat
