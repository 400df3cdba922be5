/-
  No cell of these rows narrows 'for every input' (looked for: loops, veiled, ifaces, maps, wideKeys, modest, calm, conditions, laid).
  DERIVED. THE GIVEN ROWS OF THIS SEAT. 6 by the template 'for every input the law returns true; each argument reads behind the call as it read before'; 0 by the template 'total and deterministic' (their statements: YtaeagjnpobdglaaGreatTotals.lean).
  GIVEN WITH THE SEED: the statements are not yours to turn. If you find one false, say at which input.
  Laid BY PROGRAM, IN A SANDBOX (cutbox-rows.mjs): the forced cells as the released guide's own fill.sh prints them over the translation 3acbe5e5f5a651d6… (all of the seat's roots in one cut). By AI agents, Wed Nov 11 2026. No macro, syntax, notation, axiom, sorry.
-/
import Derived.Test.YtaeagjnpobdglaaGreatChecked
import GoSem.Claim
import GoSem.ClaimJoined
import GoSem.ClaimMapViews
import Derived.JoinedTies
import Derived.KernelRfl
namespace Go.Proofs.YtaeagjnpobdglaaGreat
/- THE CELL 'sum', in the pinned program and in every row, IS THE sha256 OF THE DUMP (.gsa) THAT YtaeagjnpobdglaaGreatProg.lean LOADS. Nothing in Lean hashes anything: it is a label: what it is worth is what the hold of that sum in a sandbox is worth. -/
noncomputable def Tryz.pinned : Pinned := { name := "ytaeagjnpobdglaagreat", sum := "3acbe5e5f5a651d62c486e589df0370bbc67afd08090f20df9ad33f5589cee44", checked := Tryz.checked }
namespace Rows
def none {H : Type} : Left H := { results := [], args := [] }

/-- 'facetlaw07.HoldMoves': WHATEVER THE INPUT: true; the input reads as it did. -/
def holdMovesSpec : ChangeSpec := { name := "holdMoves", fn := fun _ => fun
  | [d1, d2, d3] => { results := [.lit (.bool true)], args := [d1, d2, d3] }
  | _ => none }
def holdMovesRow : OpenClaim := { program := "ytaeagjnpobdglaagreat", sum := "3acbe5e5f5a651d62c486e589df0370bbc67afd08090f20df9ad33f5589cee44", func := "facet/facetlaw07.HoldMoves", spec := "holdMoves", unfollowed := true, recurses := true, plainKeys := false, apart := false }
def HoldMovesSaid : Prop := holdMovesRow.holds Tryz.pinned (OpenSpec.ofChange holdMovesSpec)

/-- ITS FALSE NEIGHBOUR: 'it returns false'. Refute it at one input. -/
def holdMovesWrong : ChangeSpec := { name := "holdMoves", fn := fun _ => fun
  | [d1, d2, d3] => { results := [.lit (.bool false)], args := [d1, d2, d3] }
  | _ => none }
def HoldMovesWrongFalsely : Prop := holdMovesRow.holds Tryz.pinned (OpenSpec.ofChange holdMovesWrong)

/-- 'facetlaw07.HoldScales': WHATEVER THE INPUT: true; the input reads as it did. -/
def holdScalesSpec : ChangeSpec := { name := "holdScales", fn := fun _ => fun
  | [d1, d2, d3] => { results := [.lit (.bool true)], args := [d1, d2, d3] }
  | _ => none }
def holdScalesRow : OpenClaim := { program := "ytaeagjnpobdglaagreat", sum := "3acbe5e5f5a651d62c486e589df0370bbc67afd08090f20df9ad33f5589cee44", func := "facet/facetlaw07.HoldScales", spec := "holdScales", unfollowed := true, recurses := true, plainKeys := false, apart := false }
def HoldScalesSaid : Prop := holdScalesRow.holds Tryz.pinned (OpenSpec.ofChange holdScalesSpec)

/-- ITS FALSE NEIGHBOUR: 'it returns false'. Refute it at one input. -/
def holdScalesWrong : ChangeSpec := { name := "holdScales", fn := fun _ => fun
  | [d1, d2, d3] => { results := [.lit (.bool false)], args := [d1, d2, d3] }
  | _ => none }
def HoldScalesWrongFalsely : Prop := holdScalesRow.holds Tryz.pinned (OpenSpec.ofChange holdScalesWrong)

/-- 'facetlaw07.HoldJudges': WHATEVER THE INPUT: true; the input reads as it did. -/
def holdJudgesSpec : ChangeSpec := { name := "holdJudges", fn := fun _ => fun
  | [d1, d2] => { results := [.lit (.bool true)], args := [d1, d2] }
  | _ => none }
def holdJudgesRow : OpenClaim := { program := "ytaeagjnpobdglaagreat", sum := "3acbe5e5f5a651d62c486e589df0370bbc67afd08090f20df9ad33f5589cee44", func := "facet/facetlaw07.HoldJudges", spec := "holdJudges", unfollowed := true, recurses := true, plainKeys := false, apart := false }
def HoldJudgesSaid : Prop := holdJudgesRow.holds Tryz.pinned (OpenSpec.ofChange holdJudgesSpec)

/-- ITS FALSE NEIGHBOUR: 'it returns false'. Refute it at one input. -/
def holdJudgesWrong : ChangeSpec := { name := "holdJudges", fn := fun _ => fun
  | [d1, d2] => { results := [.lit (.bool false)], args := [d1, d2] }
  | _ => none }
def HoldJudgesWrongFalsely : Prop := holdJudgesRow.holds Tryz.pinned (OpenSpec.ofChange holdJudgesWrong)

/-- 'facetlaw07.HoldProves': WHATEVER THE INPUT: true; the input reads as it did. -/
def holdProvesSpec : ChangeSpec := { name := "holdProves", fn := fun _ => fun
  | [d1, d2, d3] => { results := [.lit (.bool true)], args := [d1, d2, d3] }
  | _ => none }
def holdProvesRow : OpenClaim := { program := "ytaeagjnpobdglaagreat", sum := "3acbe5e5f5a651d62c486e589df0370bbc67afd08090f20df9ad33f5589cee44", func := "facet/facetlaw07.HoldProves", spec := "holdProves", unfollowed := true, recurses := true, plainKeys := false, apart := false }
def HoldProvesSaid : Prop := holdProvesRow.holds Tryz.pinned (OpenSpec.ofChange holdProvesSpec)

/-- ITS FALSE NEIGHBOUR: 'it returns false'. Refute it at one input. -/
def holdProvesWrong : ChangeSpec := { name := "holdProves", fn := fun _ => fun
  | [d1, d2, d3] => { results := [.lit (.bool false)], args := [d1, d2, d3] }
  | _ => none }
def HoldProvesWrongFalsely : Prop := holdProvesRow.holds Tryz.pinned (OpenSpec.ofChange holdProvesWrong)

/-- 'facetlaw07.HoldDisputes': WHATEVER THE INPUT: true; the input reads as it did. -/
def holdDisputesSpec : ChangeSpec := { name := "holdDisputes", fn := fun _ => fun
  | [d1, d2, d3] => { results := [.lit (.bool true)], args := [d1, d2, d3] }
  | _ => none }
def holdDisputesRow : OpenClaim := { program := "ytaeagjnpobdglaagreat", sum := "3acbe5e5f5a651d62c486e589df0370bbc67afd08090f20df9ad33f5589cee44", func := "facet/facetlaw07.HoldDisputes", spec := "holdDisputes", unfollowed := true, recurses := true, plainKeys := false, apart := false }
def HoldDisputesSaid : Prop := holdDisputesRow.holds Tryz.pinned (OpenSpec.ofChange holdDisputesSpec)

/-- ITS FALSE NEIGHBOUR: 'it returns false'. Refute it at one input. -/
def holdDisputesWrong : ChangeSpec := { name := "holdDisputes", fn := fun _ => fun
  | [d1, d2, d3] => { results := [.lit (.bool false)], args := [d1, d2, d3] }
  | _ => none }
def HoldDisputesWrongFalsely : Prop := holdDisputesRow.holds Tryz.pinned (OpenSpec.ofChange holdDisputesWrong)

/-- 'facetlaw07.HoldNarrows': WHATEVER THE INPUT: true; the input reads as it did. -/
def holdNarrowsSpec : ChangeSpec := { name := "holdNarrows", fn := fun _ => fun
  | [d1, d2] => { results := [.lit (.bool true)], args := [d1, d2] }
  | _ => none }
def holdNarrowsRow : OpenClaim := { program := "ytaeagjnpobdglaagreat", sum := "3acbe5e5f5a651d62c486e589df0370bbc67afd08090f20df9ad33f5589cee44", func := "facet/facetlaw07.HoldNarrows", spec := "holdNarrows", unfollowed := true, recurses := true, plainKeys := false, apart := false }
def HoldNarrowsSaid : Prop := holdNarrowsRow.holds Tryz.pinned (OpenSpec.ofChange holdNarrowsSpec)

/-- ITS FALSE NEIGHBOUR: 'it returns false'. Refute it at one input. -/
def holdNarrowsWrong : ChangeSpec := { name := "holdNarrows", fn := fun _ => fun
  | [d1, d2] => { results := [.lit (.bool false)], args := [d1, d2] }
  | _ => none }
def HoldNarrowsWrongFalsely : Prop := holdNarrowsRow.holds Tryz.pinned (OpenSpec.ofChange holdNarrowsWrong)

/- THE SECOND FORM. 'bulk': how many values and letters a reading holds, each counted each time it is reached (what is shared counts as often as it is met; a slice's spare places count too). A statement '..UptoSaid' is the law's where the arguments, and the package variables that the reading takes, are together of bulk at most 1048576: NARROWER than '..Said'. Prove '..Said' where nothing that the law and all that it calls make is longer than what came in: it says more and counts as full. Else prove '..UptoSaid'. A law counts once. -/
mutual
def uptoBulk {H : Type} : DataW H → Nat
  | .lit (.string bytes) => bytes.length + 1
  | .lit _ => 1
  | .nil => 1
  | .ptr d => uptoBulk d + 1
  | .slice elems spare => uptoBulkAll elems + uptoBulkAll spare + 1
  | .agg parts => uptoBulkAll parts + 1
  | .iface _ d => uptoBulk d + 1
  | .map entries => uptoBulkEntries entries + 1
  | .held _ => 1
def uptoBulkAll {H : Type} : List (DataW H) → Nat
  | [] => 0
  | d :: r => uptoBulk d + uptoBulkAll r
def uptoBulkEntries {H : Type} : List (Lit × DataW H) → Nat
  | [] => 0
  | x :: r => uptoBulkEntry x + uptoBulkEntries r
def uptoBulkEntry {H : Type} : Lit × DataW H → Nat
  | (.string bytes, d) => bytes.length + uptoBulk d + 1
  | (_, d) => uptoBulk d + 1
 end
def uptoSmall : (H : Type) → List (DataW H) → Bool := fun _ ds => decide (uptoBulkAll ds ≤ 1048576)
def OpenSpec.upto (s : _root_.Go.ChangeSpec) : _root_.Go.OpenSpec := { _root_.Go.OpenSpec.ofChange s with cond := some uptoSmall }

/-- 'facetlaw07.HoldMoves', WHERE WHAT IT READS IS OF BULK AT MOST 1048576: true; the input reads as it did. -/
def holdMovesUptoRow : OpenClaim := { program := "ytaeagjnpobdglaagreat", sum := "3acbe5e5f5a651d62c486e589df0370bbc67afd08090f20df9ad33f5589cee44", func := "facet/facetlaw07.HoldMoves", spec := "holdMoves", unfollowed := true, recurses := true, plainKeys := false, apart := false, narrowed := true }
def HoldMovesUptoSaid : Prop := holdMovesUptoRow.holds Tryz.pinned (OpenSpec.upto holdMovesSpec)

/-- 'facetlaw07.HoldScales', WHERE WHAT IT READS IS OF BULK AT MOST 1048576: true; the input reads as it did. -/
def holdScalesUptoRow : OpenClaim := { program := "ytaeagjnpobdglaagreat", sum := "3acbe5e5f5a651d62c486e589df0370bbc67afd08090f20df9ad33f5589cee44", func := "facet/facetlaw07.HoldScales", spec := "holdScales", unfollowed := true, recurses := true, plainKeys := false, apart := false, narrowed := true }
def HoldScalesUptoSaid : Prop := holdScalesUptoRow.holds Tryz.pinned (OpenSpec.upto holdScalesSpec)

/-- 'facetlaw07.HoldJudges', WHERE WHAT IT READS IS OF BULK AT MOST 1048576: true; the input reads as it did. -/
def holdJudgesUptoRow : OpenClaim := { program := "ytaeagjnpobdglaagreat", sum := "3acbe5e5f5a651d62c486e589df0370bbc67afd08090f20df9ad33f5589cee44", func := "facet/facetlaw07.HoldJudges", spec := "holdJudges", unfollowed := true, recurses := true, plainKeys := false, apart := false, narrowed := true }
def HoldJudgesUptoSaid : Prop := holdJudgesUptoRow.holds Tryz.pinned (OpenSpec.upto holdJudgesSpec)

/-- 'facetlaw07.HoldProves', WHERE WHAT IT READS IS OF BULK AT MOST 1048576: true; the input reads as it did. -/
def holdProvesUptoRow : OpenClaim := { program := "ytaeagjnpobdglaagreat", sum := "3acbe5e5f5a651d62c486e589df0370bbc67afd08090f20df9ad33f5589cee44", func := "facet/facetlaw07.HoldProves", spec := "holdProves", unfollowed := true, recurses := true, plainKeys := false, apart := false, narrowed := true }
def HoldProvesUptoSaid : Prop := holdProvesUptoRow.holds Tryz.pinned (OpenSpec.upto holdProvesSpec)

/-- 'facetlaw07.HoldDisputes', WHERE WHAT IT READS IS OF BULK AT MOST 1048576: true; the input reads as it did. -/
def holdDisputesUptoRow : OpenClaim := { program := "ytaeagjnpobdglaagreat", sum := "3acbe5e5f5a651d62c486e589df0370bbc67afd08090f20df9ad33f5589cee44", func := "facet/facetlaw07.HoldDisputes", spec := "holdDisputes", unfollowed := true, recurses := true, plainKeys := false, apart := false, narrowed := true }
def HoldDisputesUptoSaid : Prop := holdDisputesUptoRow.holds Tryz.pinned (OpenSpec.upto holdDisputesSpec)

/-- 'facetlaw07.HoldNarrows', WHERE WHAT IT READS IS OF BULK AT MOST 1048576: true; the input reads as it did. -/
def holdNarrowsUptoRow : OpenClaim := { program := "ytaeagjnpobdglaagreat", sum := "3acbe5e5f5a651d62c486e589df0370bbc67afd08090f20df9ad33f5589cee44", func := "facet/facetlaw07.HoldNarrows", spec := "holdNarrows", unfollowed := true, recurses := true, plainKeys := false, apart := false, narrowed := true }
def HoldNarrowsUptoSaid : Prop := holdNarrowsUptoRow.holds Tryz.pinned (OpenSpec.upto holdNarrowsSpec)

end Rows
end Go.Proofs.YtaeagjnpobdglaaGreat
