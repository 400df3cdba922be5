/-
  No cell of these rows narrows 'for every input' (looked for: loops, veiled, ifaces, maps, wideKeys, modest, calm, conditions, laid).
  DERIVED. THE GIVEN ROWS OF THIS SEAT. 3 by the template 'for every input the law returns true; each argument reads behind the call as it read before'; 0 by the template 'total and deterministic' (their statements: YtaeagjnpobdglaaTotals.lean).
  GIVEN WITH THE SEED: the statements are not yours to turn. If you find one false, say at which input.
  Laid BY PROGRAM, IN A SANDBOX (cutbox-rows.mjs): the forced cells as the released guide's own fill.sh prints them over the translation 2331c48bc70111d0… (all of the seat's roots in one cut). By AI agents, Wed Nov 11 2026. No macro, syntax, notation, axiom, sorry.
-/
import Derived.Test.YtaeagjnpobdglaaChecked
import GoSem.Claim
import GoSem.ClaimJoined
import GoSem.ClaimMapViews
import Derived.JoinedTies
import Derived.KernelRfl
namespace Go.Proofs.Ytaeagjnpobdglaa
/- THE CELL 'sum', in the pinned program and in every row, IS THE sha256 OF THE DUMP (.gsa) THAT YtaeagjnpobdglaaProg.lean LOADS. Nothing in Lean hashes anything: it is a label: what it is worth is what the hold of that sum in a sandbox is worth. -/
noncomputable def Try.pinned : Pinned := { name := "ytaeagjnpobdglaa", sum := "2331c48bc70111d0d7a12d075f0972136f7855a237da1918733f27853c97445e", checked := Try.checked }
namespace Rows
def none {H : Type} : Left H := { results := [], args := [] }

/-- 'facetlaw07.HoldMeets': WHATEVER THE INPUT: true; the input reads as it did. -/
def holdMeetsSpec : ChangeSpec := { name := "holdMeets", fn := fun _ => fun
  | [d1, d2, d3] => { results := [.lit (.bool true)], args := [d1, d2, d3] }
  | _ => none }
def holdMeetsRow : OpenClaim := { program := "ytaeagjnpobdglaa", sum := "2331c48bc70111d0d7a12d075f0972136f7855a237da1918733f27853c97445e", func := "facet/facetlaw07.HoldMeets", spec := "holdMeets", unfollowed := true, recurses := true, plainKeys := false, apart := false }
def HoldMeetsSaid : Prop := holdMeetsRow.holds Try.pinned (OpenSpec.ofChange holdMeetsSpec)

/-- ITS FALSE NEIGHBOUR: 'it returns false'. Refute it at one input. -/
def holdMeetsWrong : ChangeSpec := { name := "holdMeets", fn := fun _ => fun
  | [d1, d2, d3] => { results := [.lit (.bool false)], args := [d1, d2, d3] }
  | _ => none }
def HoldMeetsWrongFalsely : Prop := holdMeetsRow.holds Try.pinned (OpenSpec.ofChange holdMeetsWrong)

/-- 'facetlaw07.HoldFiner': WHATEVER THE INPUT: true; the input reads as it did. -/
def holdFinerSpec : ChangeSpec := { name := "holdFiner", fn := fun _ => fun
  | [d1, d2] => { results := [.lit (.bool true)], args := [d1, d2] }
  | _ => none }
def holdFinerRow : OpenClaim := { program := "ytaeagjnpobdglaa", sum := "2331c48bc70111d0d7a12d075f0972136f7855a237da1918733f27853c97445e", func := "facet/facetlaw07.HoldFiner", spec := "holdFiner", unfollowed := true, recurses := true, plainKeys := false, apart := false }
def HoldFinerSaid : Prop := holdFinerRow.holds Try.pinned (OpenSpec.ofChange holdFinerSpec)

/-- ITS FALSE NEIGHBOUR: 'it returns false'. Refute it at one input. -/
def holdFinerWrong : ChangeSpec := { name := "holdFiner", fn := fun _ => fun
  | [d1, d2] => { results := [.lit (.bool false)], args := [d1, d2] }
  | _ => none }
def HoldFinerWrongFalsely : Prop := holdFinerRow.holds Try.pinned (OpenSpec.ofChange holdFinerWrong)

/-- 'facettop.TopCapacity': WHATEVER THE INPUT: true; the input reads as it did. -/
def topCapacitySpec : ChangeSpec := { name := "topCapacity", fn := fun _ => fun
  | [d1, d2] => { results := [.lit (.bool true)], args := [d1, d2] }
  | _ => none }
def topCapacityRow : OpenClaim := { program := "ytaeagjnpobdglaa", sum := "2331c48bc70111d0d7a12d075f0972136f7855a237da1918733f27853c97445e", func := "facet/facettop.TopCapacity", spec := "topCapacity", unfollowed := true, recurses := true, plainKeys := false, apart := false }
def TopCapacitySaid : Prop := topCapacityRow.holds Try.pinned (OpenSpec.ofChange topCapacitySpec)

/-- ITS FALSE NEIGHBOUR: 'it returns false'. Refute it at one input. -/
def topCapacityWrong : ChangeSpec := { name := "topCapacity", fn := fun _ => fun
  | [d1, d2] => { results := [.lit (.bool false)], args := [d1, d2] }
  | _ => none }
def TopCapacityWrongFalsely : Prop := topCapacityRow.holds Try.pinned (OpenSpec.ofChange topCapacityWrong)

/- THE SECOND FORM. 'bulk': how many values and letters a reading holds, each counted each time it is reached (what is shared counts as often as it is met; a slice's spare places count too). A statement '..UptoSaid' is the law's where the arguments, and the package variables that the reading takes, are together of bulk at most 1048576: NARROWER than '..Said'. Prove '..Said' where nothing that the law and all that it calls make is longer than what came in: it says more and counts as full. Else prove '..UptoSaid'. A law counts once. -/
mutual
def uptoBulk {H : Type} : DataW H → Nat
  | .lit (.string bytes) => bytes.length + 1
  | .lit _ => 1
  | .nil => 1
  | .ptr d => uptoBulk d + 1
  | .slice elems spare => uptoBulkAll elems + uptoBulkAll spare + 1
  | .agg parts => uptoBulkAll parts + 1
  | .iface _ d => uptoBulk d + 1
  | .map entries => uptoBulkEntries entries + 1
  | .held _ => 1
def uptoBulkAll {H : Type} : List (DataW H) → Nat
  | [] => 0
  | d :: r => uptoBulk d + uptoBulkAll r
def uptoBulkEntries {H : Type} : List (Lit × DataW H) → Nat
  | [] => 0
  | x :: r => uptoBulkEntry x + uptoBulkEntries r
def uptoBulkEntry {H : Type} : Lit × DataW H → Nat
  | (.string bytes, d) => bytes.length + uptoBulk d + 1
  | (_, d) => uptoBulk d + 1
 end
def uptoSmall : (H : Type) → List (DataW H) → Bool := fun _ ds => decide (uptoBulkAll ds ≤ 1048576)
def OpenSpec.upto (s : _root_.Go.ChangeSpec) : _root_.Go.OpenSpec := { _root_.Go.OpenSpec.ofChange s with cond := some uptoSmall }

/-- 'facetlaw07.HoldMeets', WHERE WHAT IT READS IS OF BULK AT MOST 1048576: true; the input reads as it did. -/
def holdMeetsUptoRow : OpenClaim := { program := "ytaeagjnpobdglaa", sum := "2331c48bc70111d0d7a12d075f0972136f7855a237da1918733f27853c97445e", func := "facet/facetlaw07.HoldMeets", spec := "holdMeets", unfollowed := true, recurses := true, plainKeys := false, apart := false, narrowed := true }
def HoldMeetsUptoSaid : Prop := holdMeetsUptoRow.holds Try.pinned (OpenSpec.upto holdMeetsSpec)

/-- 'facetlaw07.HoldFiner', WHERE WHAT IT READS IS OF BULK AT MOST 1048576: true; the input reads as it did. -/
def holdFinerUptoRow : OpenClaim := { program := "ytaeagjnpobdglaa", sum := "2331c48bc70111d0d7a12d075f0972136f7855a237da1918733f27853c97445e", func := "facet/facetlaw07.HoldFiner", spec := "holdFiner", unfollowed := true, recurses := true, plainKeys := false, apart := false, narrowed := true }
def HoldFinerUptoSaid : Prop := holdFinerUptoRow.holds Try.pinned (OpenSpec.upto holdFinerSpec)

/-- 'facettop.TopCapacity', WHERE WHAT IT READS IS OF BULK AT MOST 1048576: true; the input reads as it did. -/
def topCapacityUptoRow : OpenClaim := { program := "ytaeagjnpobdglaa", sum := "2331c48bc70111d0d7a12d075f0972136f7855a237da1918733f27853c97445e", func := "facet/facettop.TopCapacity", spec := "topCapacity", unfollowed := true, recurses := true, plainKeys := false, apart := false, narrowed := true }
def TopCapacityUptoSaid : Prop := topCapacityUptoRow.holds Try.pinned (OpenSpec.upto topCapacitySpec)

end Rows
end Go.Proofs.Ytaeagjnpobdglaa
