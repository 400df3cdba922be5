/-
  No cell of these rows narrows 'for every input' (looked for: loops, veiled, ifaces, maps, wideKeys, modest, calm, conditions, laid).
  DERIVED. THE GIVEN ROWS OF THIS SEAT. 6 by the template 'for every input the law returns true; each argument reads behind the call as it read before'; 0 by the template 'total and deterministic' (their statements: YthpgabaeefifbaaGreatTotals.lean).
  GIVEN WITH THE SEED: the statements are not yours to turn. If you find one false, say at which input.
  Laid BY PROGRAM, IN A SANDBOX (cutbox-rows.mjs): the forced cells as the released guide's own fill.sh prints them over the translation d75436ebde2ff9dc… (all of the seat's roots in one cut). By AI agents, Wed Nov 11 2026. No macro, syntax, notation, axiom, sorry.
-/
import Derived.Test.YthpgabaeefifbaaGreatChecked
import GoSem.Claim
import GoSem.ClaimJoined
import GoSem.ClaimMapViews
import Derived.JoinedTies
import Derived.KernelRfl
namespace Go.Proofs.YthpgabaeefifbaaGreat
/- THE CELL 'sum', in the pinned program and in every row, IS THE sha256 OF THE DUMP (.gsa) THAT YthpgabaeefifbaaGreatProg.lean LOADS. Nothing in Lean hashes anything: it is a label: what it is worth is what the hold of that sum in a sandbox is worth. -/
noncomputable def Tryz.pinned : Pinned := { name := "ythpgabaeefifbaagreat", sum := "d75436ebde2ff9dc4f711f72ccb18daf781f2f83045d2cf1123098c246337be1", checked := Tryz.checked }
namespace Rows
def none {H : Type} : Left H := { results := [], args := [] }

/-- 'facetlaw07.HoldBalls': WHATEVER THE INPUT: true; the input reads as it did. -/
def holdBallsSpec : ChangeSpec := { name := "holdBalls", fn := fun _ => fun
  | [d1, d2] => { results := [.lit (.bool true)], args := [d1, d2] }
  | _ => none }
def holdBallsRow : OpenClaim := { program := "ythpgabaeefifbaagreat", sum := "d75436ebde2ff9dc4f711f72ccb18daf781f2f83045d2cf1123098c246337be1", func := "facet/facetlaw07.HoldBalls", spec := "holdBalls", unfollowed := true, recurses := true, plainKeys := false, apart := false }
def HoldBallsSaid : Prop := holdBallsRow.holds Tryz.pinned (OpenSpec.ofChange holdBallsSpec)

/-- ITS FALSE NEIGHBOUR: 'it returns false'. Refute it at one input. -/
def holdBallsWrong : ChangeSpec := { name := "holdBalls", fn := fun _ => fun
  | [d1, d2] => { results := [.lit (.bool false)], args := [d1, d2] }
  | _ => none }
def HoldBallsWrongFalsely : Prop := holdBallsRow.holds Tryz.pinned (OpenSpec.ofChange holdBallsWrong)

/-- 'facetlaw07.HoldPotentials': WHATEVER THE INPUT: true; the input reads as it did. -/
def holdPotentialsSpec : ChangeSpec := { name := "holdPotentials", fn := fun _ => fun
  | [d1, d2, d3] => { results := [.lit (.bool true)], args := [d1, d2, d3] }
  | _ => none }
def holdPotentialsRow : OpenClaim := { program := "ythpgabaeefifbaagreat", sum := "d75436ebde2ff9dc4f711f72ccb18daf781f2f83045d2cf1123098c246337be1", func := "facet/facetlaw07.HoldPotentials", spec := "holdPotentials", unfollowed := true, recurses := true, plainKeys := false, apart := false }
def HoldPotentialsSaid : Prop := holdPotentialsRow.holds Tryz.pinned (OpenSpec.ofChange holdPotentialsSpec)

/-- ITS FALSE NEIGHBOUR: 'it returns false'. Refute it at one input. -/
def holdPotentialsWrong : ChangeSpec := { name := "holdPotentials", fn := fun _ => fun
  | [d1, d2, d3] => { results := [.lit (.bool false)], args := [d1, d2, d3] }
  | _ => none }
def HoldPotentialsWrongFalsely : Prop := holdPotentialsRow.holds Tryz.pinned (OpenSpec.ofChange holdPotentialsWrong)

/-- 'facetlaw07.HoldEnergy': WHATEVER THE INPUT: true; the input reads as it did. -/
def holdEnergySpec : ChangeSpec := { name := "holdEnergy", fn := fun _ => fun
  | [d1, d2, d3] => { results := [.lit (.bool true)], args := [d1, d2, d3] }
  | _ => none }
def holdEnergyRow : OpenClaim := { program := "ythpgabaeefifbaagreat", sum := "d75436ebde2ff9dc4f711f72ccb18daf781f2f83045d2cf1123098c246337be1", func := "facet/facetlaw07.HoldEnergy", spec := "holdEnergy", unfollowed := true, recurses := true, plainKeys := false, apart := false }
def HoldEnergySaid : Prop := holdEnergyRow.holds Tryz.pinned (OpenSpec.ofChange holdEnergySpec)

/-- ITS FALSE NEIGHBOUR: 'it returns false'. Refute it at one input. -/
def holdEnergyWrong : ChangeSpec := { name := "holdEnergy", fn := fun _ => fun
  | [d1, d2, d3] => { results := [.lit (.bool false)], args := [d1, d2, d3] }
  | _ => none }
def HoldEnergyWrongFalsely : Prop := holdEnergyRow.holds Tryz.pinned (OpenSpec.ofChange holdEnergyWrong)

/-- 'facetlaw07.HoldSides': WHATEVER THE INPUT: true; the input reads as it did. -/
def holdSidesSpec : ChangeSpec := { name := "holdSides", fn := fun _ => fun
  | [d1, d2, d3] => { results := [.lit (.bool true)], args := [d1, d2, d3] }
  | _ => none }
def holdSidesRow : OpenClaim := { program := "ythpgabaeefifbaagreat", sum := "d75436ebde2ff9dc4f711f72ccb18daf781f2f83045d2cf1123098c246337be1", func := "facet/facetlaw07.HoldSides", spec := "holdSides", unfollowed := true, recurses := true, plainKeys := false, apart := false }
def HoldSidesSaid : Prop := holdSidesRow.holds Tryz.pinned (OpenSpec.ofChange holdSidesSpec)

/-- ITS FALSE NEIGHBOUR: 'it returns false'. Refute it at one input. -/
def holdSidesWrong : ChangeSpec := { name := "holdSides", fn := fun _ => fun
  | [d1, d2, d3] => { results := [.lit (.bool false)], args := [d1, d2, d3] }
  | _ => none }
def HoldSidesWrongFalsely : Prop := holdSidesRow.holds Tryz.pinned (OpenSpec.ofChange holdSidesWrong)

/-- 'facetlaw07.HoldBounds': WHATEVER THE INPUT: true; the input reads as it did. -/
def holdBoundsSpec : ChangeSpec := { name := "holdBounds", fn := fun _ => fun
  | [d1, d2, d3] => { results := [.lit (.bool true)], args := [d1, d2, d3] }
  | _ => none }
def holdBoundsRow : OpenClaim := { program := "ythpgabaeefifbaagreat", sum := "d75436ebde2ff9dc4f711f72ccb18daf781f2f83045d2cf1123098c246337be1", func := "facet/facetlaw07.HoldBounds", spec := "holdBounds", unfollowed := true, recurses := true, plainKeys := false, apart := false }
def HoldBoundsSaid : Prop := holdBoundsRow.holds Tryz.pinned (OpenSpec.ofChange holdBoundsSpec)

/-- ITS FALSE NEIGHBOUR: 'it returns false'. Refute it at one input. -/
def holdBoundsWrong : ChangeSpec := { name := "holdBounds", fn := fun _ => fun
  | [d1, d2, d3] => { results := [.lit (.bool false)], args := [d1, d2, d3] }
  | _ => none }
def HoldBoundsWrongFalsely : Prop := holdBoundsRow.holds Tryz.pinned (OpenSpec.ofChange holdBoundsWrong)

/-- 'facetlaw07.HoldImproves': WHATEVER THE INPUT: true; the input reads as it did. -/
def holdImprovesSpec : ChangeSpec := { name := "holdImproves", fn := fun _ => fun
  | [d1, d2] => { results := [.lit (.bool true)], args := [d1, d2] }
  | _ => none }
def holdImprovesRow : OpenClaim := { program := "ythpgabaeefifbaagreat", sum := "d75436ebde2ff9dc4f711f72ccb18daf781f2f83045d2cf1123098c246337be1", func := "facet/facetlaw07.HoldImproves", spec := "holdImproves", unfollowed := true, recurses := true, plainKeys := false, apart := false }
def HoldImprovesSaid : Prop := holdImprovesRow.holds Tryz.pinned (OpenSpec.ofChange holdImprovesSpec)

/-- ITS FALSE NEIGHBOUR: 'it returns false'. Refute it at one input. -/
def holdImprovesWrong : ChangeSpec := { name := "holdImproves", fn := fun _ => fun
  | [d1, d2] => { results := [.lit (.bool false)], args := [d1, d2] }
  | _ => none }
def HoldImprovesWrongFalsely : Prop := holdImprovesRow.holds Tryz.pinned (OpenSpec.ofChange holdImprovesWrong)

/- THE SECOND FORM. 'bulk': how many values and letters a reading holds, each counted each time it is reached (what is shared counts as often as it is met; a slice's spare places count too). A statement '..UptoSaid' is the law's where the arguments, and the package variables that the reading takes, are together of bulk at most 1048576: NARROWER than '..Said'. Prove '..Said' where nothing that the law and all that it calls make is longer than what came in: it says more and counts as full. Else prove '..UptoSaid'. A law counts once. -/
mutual
def uptoBulk {H : Type} : DataW H → Nat
  | .lit (.string bytes) => bytes.length + 1
  | .lit _ => 1
  | .nil => 1
  | .ptr d => uptoBulk d + 1
  | .slice elems spare => uptoBulkAll elems + uptoBulkAll spare + 1
  | .agg parts => uptoBulkAll parts + 1
  | .iface _ d => uptoBulk d + 1
  | .map entries => uptoBulkEntries entries + 1
  | .held _ => 1
def uptoBulkAll {H : Type} : List (DataW H) → Nat
  | [] => 0
  | d :: r => uptoBulk d + uptoBulkAll r
def uptoBulkEntries {H : Type} : List (Lit × DataW H) → Nat
  | [] => 0
  | x :: r => uptoBulkEntry x + uptoBulkEntries r
def uptoBulkEntry {H : Type} : Lit × DataW H → Nat
  | (.string bytes, d) => bytes.length + uptoBulk d + 1
  | (_, d) => uptoBulk d + 1
 end
def uptoSmall : (H : Type) → List (DataW H) → Bool := fun _ ds => decide (uptoBulkAll ds ≤ 1048576)
def OpenSpec.upto (s : _root_.Go.ChangeSpec) : _root_.Go.OpenSpec := { _root_.Go.OpenSpec.ofChange s with cond := some uptoSmall }

/-- 'facetlaw07.HoldBalls', WHERE WHAT IT READS IS OF BULK AT MOST 1048576: true; the input reads as it did. -/
def holdBallsUptoRow : OpenClaim := { program := "ythpgabaeefifbaagreat", sum := "d75436ebde2ff9dc4f711f72ccb18daf781f2f83045d2cf1123098c246337be1", func := "facet/facetlaw07.HoldBalls", spec := "holdBalls", unfollowed := true, recurses := true, plainKeys := false, apart := false, narrowed := true }
def HoldBallsUptoSaid : Prop := holdBallsUptoRow.holds Tryz.pinned (OpenSpec.upto holdBallsSpec)

/-- 'facetlaw07.HoldPotentials', WHERE WHAT IT READS IS OF BULK AT MOST 1048576: true; the input reads as it did. -/
def holdPotentialsUptoRow : OpenClaim := { program := "ythpgabaeefifbaagreat", sum := "d75436ebde2ff9dc4f711f72ccb18daf781f2f83045d2cf1123098c246337be1", func := "facet/facetlaw07.HoldPotentials", spec := "holdPotentials", unfollowed := true, recurses := true, plainKeys := false, apart := false, narrowed := true }
def HoldPotentialsUptoSaid : Prop := holdPotentialsUptoRow.holds Tryz.pinned (OpenSpec.upto holdPotentialsSpec)

/-- 'facetlaw07.HoldEnergy', WHERE WHAT IT READS IS OF BULK AT MOST 1048576: true; the input reads as it did. -/
def holdEnergyUptoRow : OpenClaim := { program := "ythpgabaeefifbaagreat", sum := "d75436ebde2ff9dc4f711f72ccb18daf781f2f83045d2cf1123098c246337be1", func := "facet/facetlaw07.HoldEnergy", spec := "holdEnergy", unfollowed := true, recurses := true, plainKeys := false, apart := false, narrowed := true }
def HoldEnergyUptoSaid : Prop := holdEnergyUptoRow.holds Tryz.pinned (OpenSpec.upto holdEnergySpec)

/-- 'facetlaw07.HoldSides', WHERE WHAT IT READS IS OF BULK AT MOST 1048576: true; the input reads as it did. -/
def holdSidesUptoRow : OpenClaim := { program := "ythpgabaeefifbaagreat", sum := "d75436ebde2ff9dc4f711f72ccb18daf781f2f83045d2cf1123098c246337be1", func := "facet/facetlaw07.HoldSides", spec := "holdSides", unfollowed := true, recurses := true, plainKeys := false, apart := false, narrowed := true }
def HoldSidesUptoSaid : Prop := holdSidesUptoRow.holds Tryz.pinned (OpenSpec.upto holdSidesSpec)

/-- 'facetlaw07.HoldBounds', WHERE WHAT IT READS IS OF BULK AT MOST 1048576: true; the input reads as it did. -/
def holdBoundsUptoRow : OpenClaim := { program := "ythpgabaeefifbaagreat", sum := "d75436ebde2ff9dc4f711f72ccb18daf781f2f83045d2cf1123098c246337be1", func := "facet/facetlaw07.HoldBounds", spec := "holdBounds", unfollowed := true, recurses := true, plainKeys := false, apart := false, narrowed := true }
def HoldBoundsUptoSaid : Prop := holdBoundsUptoRow.holds Tryz.pinned (OpenSpec.upto holdBoundsSpec)

/-- 'facetlaw07.HoldImproves', WHERE WHAT IT READS IS OF BULK AT MOST 1048576: true; the input reads as it did. -/
def holdImprovesUptoRow : OpenClaim := { program := "ythpgabaeefifbaagreat", sum := "d75436ebde2ff9dc4f711f72ccb18daf781f2f83045d2cf1123098c246337be1", func := "facet/facetlaw07.HoldImproves", spec := "holdImproves", unfollowed := true, recurses := true, plainKeys := false, apart := false, narrowed := true }
def HoldImprovesUptoSaid : Prop := holdImprovesUptoRow.holds Tryz.pinned (OpenSpec.upto holdImprovesSpec)

end Rows
end Go.Proofs.YthpgabaeefifbaaGreat
