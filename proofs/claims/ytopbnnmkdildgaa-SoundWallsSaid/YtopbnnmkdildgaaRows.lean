/-
  No cell of these rows narrows 'for every input' (looked for: loops, veiled, ifaces, maps, wideKeys, modest, calm, conditions, laid).
  DERIVED. THE GIVEN ROWS OF THIS SEAT. 10 by the template 'for every input the law returns true; each argument reads behind the call as it read before'; 0 by the template 'total and deterministic' (their statements: YtopbnnmkdildgaaTotals.lean).
  GIVEN WITH THE SEED: the statements are not yours to turn. If you find one false, say at which input.
  Laid BY PROGRAM, IN A SANDBOX (cutbox-rows.mjs): the forced cells as the released guide's own fill.sh prints them over the translation 8b7a6249ee6a778b… (all of the seat's roots in one cut). By AI agents, Wed Nov 11 2026. No macro, syntax, notation, axiom, sorry.
-/
import Derived.Test.YtopbnnmkdildgaaChecked
import GoSem.Claim
import GoSem.ClaimJoined
import GoSem.ClaimMapViews
import Derived.JoinedTies
import Derived.KernelRfl
namespace Go.Proofs.Ytopbnnmkdildgaa
/- THE CELL 'sum', in the pinned program and in every row, IS THE sha256 OF THE DUMP (.gsa) THAT YtopbnnmkdildgaaProg.lean LOADS. Nothing in Lean hashes anything: it is a label: what it is worth is what the hold of that sum in a sandbox is worth. -/
noncomputable def Try.pinned : Pinned := { name := "ytopbnnmkdildgaa", sum := "8b7a6249ee6a778bf6d6b8061ff881da53e8b55a7737c8b301ecee280f7a6c86", checked := Try.checked }
namespace Rows
def none {H : Type} : Left H := { results := [], args := [] }

/-- 'facetlaw03.FieldAdds': WHATEVER THE INPUT: true; the input reads as it did. -/
def fieldAddsSpec : ChangeSpec := { name := "fieldAdds", fn := fun _ => fun
  | [d1, d2, d3] => { results := [.lit (.bool true)], args := [d1, d2, d3] }
  | _ => none }
def fieldAddsRow : OpenClaim := { program := "ytopbnnmkdildgaa", sum := "8b7a6249ee6a778bf6d6b8061ff881da53e8b55a7737c8b301ecee280f7a6c86", func := "facet/facetlaw03.FieldAdds", spec := "fieldAdds", unfollowed := true, recurses := true, apart := false }
def FieldAddsSaid : Prop := fieldAddsRow.holds Try.pinned (OpenSpec.ofChange fieldAddsSpec)

/-- ITS FALSE NEIGHBOUR: 'it returns false'. Refute it at one input. -/
def fieldAddsWrong : ChangeSpec := { name := "fieldAdds", fn := fun _ => fun
  | [d1, d2, d3] => { results := [.lit (.bool false)], args := [d1, d2, d3] }
  | _ => none }
def FieldAddsWrongFalsely : Prop := fieldAddsRow.holds Try.pinned (OpenSpec.ofChange fieldAddsWrong)

/-- 'facetlaw08.SoundTravels': WHATEVER THE INPUT: true; the input reads as it did. -/
def soundTravelsSpec : ChangeSpec := { name := "soundTravels", fn := fun _ => fun
  | [d1, d2, d3] => { results := [.lit (.bool true)], args := [d1, d2, d3] }
  | _ => none }
def soundTravelsRow : OpenClaim := { program := "ytopbnnmkdildgaa", sum := "8b7a6249ee6a778bf6d6b8061ff881da53e8b55a7737c8b301ecee280f7a6c86", func := "facet/facetlaw08.SoundTravels", spec := "soundTravels", unfollowed := true, recurses := true, apart := false }
def SoundTravelsSaid : Prop := soundTravelsRow.holds Try.pinned (OpenSpec.ofChange soundTravelsSpec)

/-- ITS FALSE NEIGHBOUR: 'it returns false'. Refute it at one input. -/
def soundTravelsWrong : ChangeSpec := { name := "soundTravels", fn := fun _ => fun
  | [d1, d2, d3] => { results := [.lit (.bool false)], args := [d1, d2, d3] }
  | _ => none }
def SoundTravelsWrongFalsely : Prop := soundTravelsRow.holds Try.pinned (OpenSpec.ofChange soundTravelsWrong)

/-- 'facetlaw08.SoundTimes': WHATEVER THE INPUT: true; the input reads as it did. -/
def soundTimesSpec : ChangeSpec := { name := "soundTimes", fn := fun _ => fun
  | [d1, d2, d3] => { results := [.lit (.bool true)], args := [d1, d2, d3] }
  | _ => none }
def soundTimesRow : OpenClaim := { program := "ytopbnnmkdildgaa", sum := "8b7a6249ee6a778bf6d6b8061ff881da53e8b55a7737c8b301ecee280f7a6c86", func := "facet/facetlaw08.SoundTimes", spec := "soundTimes", unfollowed := true, recurses := true, apart := false }
def SoundTimesSaid : Prop := soundTimesRow.holds Try.pinned (OpenSpec.ofChange soundTimesSpec)

/-- ITS FALSE NEIGHBOUR: 'it returns false'. Refute it at one input. -/
def soundTimesWrong : ChangeSpec := { name := "soundTimes", fn := fun _ => fun
  | [d1, d2, d3] => { results := [.lit (.bool false)], args := [d1, d2, d3] }
  | _ => none }
def SoundTimesWrongFalsely : Prop := soundTimesRow.holds Try.pinned (OpenSpec.ofChange soundTimesWrong)

/-- 'facetlaw08.SoundHears': WHATEVER THE INPUT: true; the input reads as it did. -/
def soundHearsSpec : ChangeSpec := { name := "soundHears", fn := fun _ => fun
  | [d1, d2] => { results := [.lit (.bool true)], args := [d1, d2] }
  | _ => none }
def soundHearsRow : OpenClaim := { program := "ytopbnnmkdildgaa", sum := "8b7a6249ee6a778bf6d6b8061ff881da53e8b55a7737c8b301ecee280f7a6c86", func := "facet/facetlaw08.SoundHears", spec := "soundHears", unfollowed := true, recurses := true, apart := false }
def SoundHearsSaid : Prop := soundHearsRow.holds Try.pinned (OpenSpec.ofChange soundHearsSpec)

/-- ITS FALSE NEIGHBOUR: 'it returns false'. Refute it at one input. -/
def soundHearsWrong : ChangeSpec := { name := "soundHears", fn := fun _ => fun
  | [d1, d2] => { results := [.lit (.bool false)], args := [d1, d2] }
  | _ => none }
def SoundHearsWrongFalsely : Prop := soundHearsRow.holds Try.pinned (OpenSpec.ofChange soundHearsWrong)

/-- 'facetlaw08.SoundDelays': WHATEVER THE INPUT: true; the input reads as it did. -/
def soundDelaysSpec : ChangeSpec := { name := "soundDelays", fn := fun _ => fun
  | [d1, d2] => { results := [.lit (.bool true)], args := [d1, d2] }
  | _ => none }
def soundDelaysRow : OpenClaim := { program := "ytopbnnmkdildgaa", sum := "8b7a6249ee6a778bf6d6b8061ff881da53e8b55a7737c8b301ecee280f7a6c86", func := "facet/facetlaw08.SoundDelays", spec := "soundDelays", unfollowed := true, recurses := true, apart := false }
def SoundDelaysSaid : Prop := soundDelaysRow.holds Try.pinned (OpenSpec.ofChange soundDelaysSpec)

/-- ITS FALSE NEIGHBOUR: 'it returns false'. Refute it at one input. -/
def soundDelaysWrong : ChangeSpec := { name := "soundDelays", fn := fun _ => fun
  | [d1, d2] => { results := [.lit (.bool false)], args := [d1, d2] }
  | _ => none }
def SoundDelaysWrongFalsely : Prop := soundDelaysRow.holds Try.pinned (OpenSpec.ofChange soundDelaysWrong)

/-- 'facetlaw08.SoundImages': WHATEVER THE INPUT: true; the input reads as it did. -/
def soundImagesSpec : ChangeSpec := { name := "soundImages", fn := fun _ => fun
  | [d1, d2] => { results := [.lit (.bool true)], args := [d1, d2] }
  | _ => none }
def soundImagesRow : OpenClaim := { program := "ytopbnnmkdildgaa", sum := "8b7a6249ee6a778bf6d6b8061ff881da53e8b55a7737c8b301ecee280f7a6c86", func := "facet/facetlaw08.SoundImages", spec := "soundImages", unfollowed := true, recurses := true, apart := false }
def SoundImagesSaid : Prop := soundImagesRow.holds Try.pinned (OpenSpec.ofChange soundImagesSpec)

/-- ITS FALSE NEIGHBOUR: 'it returns false'. Refute it at one input. -/
def soundImagesWrong : ChangeSpec := { name := "soundImages", fn := fun _ => fun
  | [d1, d2] => { results := [.lit (.bool false)], args := [d1, d2] }
  | _ => none }
def SoundImagesWrongFalsely : Prop := soundImagesRow.holds Try.pinned (OpenSpec.ofChange soundImagesWrong)

/-- 'facetlaw08.SoundLater': WHATEVER THE INPUT: true; the input reads as it did. -/
def soundLaterSpec : ChangeSpec := { name := "soundLater", fn := fun _ => fun
  | [d1, d2, d3] => { results := [.lit (.bool true)], args := [d1, d2, d3] }
  | _ => none }
def soundLaterRow : OpenClaim := { program := "ytopbnnmkdildgaa", sum := "8b7a6249ee6a778bf6d6b8061ff881da53e8b55a7737c8b301ecee280f7a6c86", func := "facet/facetlaw08.SoundLater", spec := "soundLater", unfollowed := true, recurses := true, apart := false }
def SoundLaterSaid : Prop := soundLaterRow.holds Try.pinned (OpenSpec.ofChange soundLaterSpec)

/-- ITS FALSE NEIGHBOUR: 'it returns false'. Refute it at one input. -/
def soundLaterWrong : ChangeSpec := { name := "soundLater", fn := fun _ => fun
  | [d1, d2, d3] => { results := [.lit (.bool false)], args := [d1, d2, d3] }
  | _ => none }
def SoundLaterWrongFalsely : Prop := soundLaterRow.holds Try.pinned (OpenSpec.ofChange soundLaterWrong)

/-- 'facetlaw08.SoundTraces': WHATEVER THE INPUT: true; the input reads as it did. -/
def soundTracesSpec : ChangeSpec := { name := "soundTraces", fn := fun _ => fun
  | [d1, d2] => { results := [.lit (.bool true)], args := [d1, d2] }
  | _ => none }
def soundTracesRow : OpenClaim := { program := "ytopbnnmkdildgaa", sum := "8b7a6249ee6a778bf6d6b8061ff881da53e8b55a7737c8b301ecee280f7a6c86", func := "facet/facetlaw08.SoundTraces", spec := "soundTraces", unfollowed := true, recurses := true, apart := false }
def SoundTracesSaid : Prop := soundTracesRow.holds Try.pinned (OpenSpec.ofChange soundTracesSpec)

/-- ITS FALSE NEIGHBOUR: 'it returns false'. Refute it at one input. -/
def soundTracesWrong : ChangeSpec := { name := "soundTraces", fn := fun _ => fun
  | [d1, d2] => { results := [.lit (.bool false)], args := [d1, d2] }
  | _ => none }
def SoundTracesWrongFalsely : Prop := soundTracesRow.holds Try.pinned (OpenSpec.ofChange soundTracesWrong)

/-- 'facetlaw08.SoundJoins': WHATEVER THE INPUT: true; the input reads as it did. -/
def soundJoinsSpec : ChangeSpec := { name := "soundJoins", fn := fun _ => fun
  | [d1, d2, d3] => { results := [.lit (.bool true)], args := [d1, d2, d3] }
  | _ => none }
def soundJoinsRow : OpenClaim := { program := "ytopbnnmkdildgaa", sum := "8b7a6249ee6a778bf6d6b8061ff881da53e8b55a7737c8b301ecee280f7a6c86", func := "facet/facetlaw08.SoundJoins", spec := "soundJoins", unfollowed := true, recurses := true, apart := false }
def SoundJoinsSaid : Prop := soundJoinsRow.holds Try.pinned (OpenSpec.ofChange soundJoinsSpec)

/-- ITS FALSE NEIGHBOUR: 'it returns false'. Refute it at one input. -/
def soundJoinsWrong : ChangeSpec := { name := "soundJoins", fn := fun _ => fun
  | [d1, d2, d3] => { results := [.lit (.bool false)], args := [d1, d2, d3] }
  | _ => none }
def SoundJoinsWrongFalsely : Prop := soundJoinsRow.holds Try.pinned (OpenSpec.ofChange soundJoinsWrong)

/-- 'facetlaw08.SoundWalls': WHATEVER THE INPUT: true; the input reads as it did. -/
def soundWallsSpec : ChangeSpec := { name := "soundWalls", fn := fun _ => fun
  | [d1, d2] => { results := [.lit (.bool true)], args := [d1, d2] }
  | _ => none }
def soundWallsRow : OpenClaim := { program := "ytopbnnmkdildgaa", sum := "8b7a6249ee6a778bf6d6b8061ff881da53e8b55a7737c8b301ecee280f7a6c86", func := "facet/facetlaw08.SoundWalls", spec := "soundWalls", unfollowed := true, recurses := true, apart := false }
def SoundWallsSaid : Prop := soundWallsRow.holds Try.pinned (OpenSpec.ofChange soundWallsSpec)

/-- ITS FALSE NEIGHBOUR: 'it returns false'. Refute it at one input. -/
def soundWallsWrong : ChangeSpec := { name := "soundWalls", fn := fun _ => fun
  | [d1, d2] => { results := [.lit (.bool false)], args := [d1, d2] }
  | _ => none }
def SoundWallsWrongFalsely : Prop := soundWallsRow.holds Try.pinned (OpenSpec.ofChange soundWallsWrong)

/- THE SECOND FORM. 'bulk': how many values and letters a reading holds, each counted each time it is reached (what is shared counts as often as it is met; a slice's spare places count too). A statement '..UptoSaid' is the law's where the arguments, and the package variables that the reading takes, are together of bulk at most 1048576: NARROWER than '..Said'. Prove '..Said' where nothing that the law and all that it calls make is longer than what came in: it says more and counts as full. Else prove '..UptoSaid'. A law counts once. -/
mutual
def uptoBulk {H : Type} : DataW H → Nat
  | .lit (.string bytes) => bytes.length + 1
  | .lit _ => 1
  | .nil => 1
  | .ptr d => uptoBulk d + 1
  | .slice elems spare => uptoBulkAll elems + uptoBulkAll spare + 1
  | .agg parts => uptoBulkAll parts + 1
  | .iface _ d => uptoBulk d + 1
  | .map entries => uptoBulkEntries entries + 1
  | .held _ => 1
def uptoBulkAll {H : Type} : List (DataW H) → Nat
  | [] => 0
  | d :: r => uptoBulk d + uptoBulkAll r
def uptoBulkEntries {H : Type} : List (Lit × DataW H) → Nat
  | [] => 0
  | x :: r => uptoBulkEntry x + uptoBulkEntries r
def uptoBulkEntry {H : Type} : Lit × DataW H → Nat
  | (.string bytes, d) => bytes.length + uptoBulk d + 1
  | (_, d) => uptoBulk d + 1
 end
def uptoSmall : (H : Type) → List (DataW H) → Bool := fun _ ds => decide (uptoBulkAll ds ≤ 1048576)
def OpenSpec.upto (s : _root_.Go.ChangeSpec) : _root_.Go.OpenSpec := { _root_.Go.OpenSpec.ofChange s with cond := some uptoSmall }

/-- 'facetlaw03.FieldAdds', WHERE WHAT IT READS IS OF BULK AT MOST 1048576: true; the input reads as it did. -/
def fieldAddsUptoRow : OpenClaim := { program := "ytopbnnmkdildgaa", sum := "8b7a6249ee6a778bf6d6b8061ff881da53e8b55a7737c8b301ecee280f7a6c86", func := "facet/facetlaw03.FieldAdds", spec := "fieldAdds", unfollowed := true, recurses := true, apart := false, narrowed := true }
def FieldAddsUptoSaid : Prop := fieldAddsUptoRow.holds Try.pinned (OpenSpec.upto fieldAddsSpec)

/-- 'facetlaw08.SoundTravels', WHERE WHAT IT READS IS OF BULK AT MOST 1048576: true; the input reads as it did. -/
def soundTravelsUptoRow : OpenClaim := { program := "ytopbnnmkdildgaa", sum := "8b7a6249ee6a778bf6d6b8061ff881da53e8b55a7737c8b301ecee280f7a6c86", func := "facet/facetlaw08.SoundTravels", spec := "soundTravels", unfollowed := true, recurses := true, apart := false, narrowed := true }
def SoundTravelsUptoSaid : Prop := soundTravelsUptoRow.holds Try.pinned (OpenSpec.upto soundTravelsSpec)

/-- 'facetlaw08.SoundTimes', WHERE WHAT IT READS IS OF BULK AT MOST 1048576: true; the input reads as it did. -/
def soundTimesUptoRow : OpenClaim := { program := "ytopbnnmkdildgaa", sum := "8b7a6249ee6a778bf6d6b8061ff881da53e8b55a7737c8b301ecee280f7a6c86", func := "facet/facetlaw08.SoundTimes", spec := "soundTimes", unfollowed := true, recurses := true, apart := false, narrowed := true }
def SoundTimesUptoSaid : Prop := soundTimesUptoRow.holds Try.pinned (OpenSpec.upto soundTimesSpec)

/-- 'facetlaw08.SoundHears', WHERE WHAT IT READS IS OF BULK AT MOST 1048576: true; the input reads as it did. -/
def soundHearsUptoRow : OpenClaim := { program := "ytopbnnmkdildgaa", sum := "8b7a6249ee6a778bf6d6b8061ff881da53e8b55a7737c8b301ecee280f7a6c86", func := "facet/facetlaw08.SoundHears", spec := "soundHears", unfollowed := true, recurses := true, apart := false, narrowed := true }
def SoundHearsUptoSaid : Prop := soundHearsUptoRow.holds Try.pinned (OpenSpec.upto soundHearsSpec)

/-- 'facetlaw08.SoundDelays', WHERE WHAT IT READS IS OF BULK AT MOST 1048576: true; the input reads as it did. -/
def soundDelaysUptoRow : OpenClaim := { program := "ytopbnnmkdildgaa", sum := "8b7a6249ee6a778bf6d6b8061ff881da53e8b55a7737c8b301ecee280f7a6c86", func := "facet/facetlaw08.SoundDelays", spec := "soundDelays", unfollowed := true, recurses := true, apart := false, narrowed := true }
def SoundDelaysUptoSaid : Prop := soundDelaysUptoRow.holds Try.pinned (OpenSpec.upto soundDelaysSpec)

/-- 'facetlaw08.SoundImages', WHERE WHAT IT READS IS OF BULK AT MOST 1048576: true; the input reads as it did. -/
def soundImagesUptoRow : OpenClaim := { program := "ytopbnnmkdildgaa", sum := "8b7a6249ee6a778bf6d6b8061ff881da53e8b55a7737c8b301ecee280f7a6c86", func := "facet/facetlaw08.SoundImages", spec := "soundImages", unfollowed := true, recurses := true, apart := false, narrowed := true }
def SoundImagesUptoSaid : Prop := soundImagesUptoRow.holds Try.pinned (OpenSpec.upto soundImagesSpec)

/-- 'facetlaw08.SoundLater', WHERE WHAT IT READS IS OF BULK AT MOST 1048576: true; the input reads as it did. -/
def soundLaterUptoRow : OpenClaim := { program := "ytopbnnmkdildgaa", sum := "8b7a6249ee6a778bf6d6b8061ff881da53e8b55a7737c8b301ecee280f7a6c86", func := "facet/facetlaw08.SoundLater", spec := "soundLater", unfollowed := true, recurses := true, apart := false, narrowed := true }
def SoundLaterUptoSaid : Prop := soundLaterUptoRow.holds Try.pinned (OpenSpec.upto soundLaterSpec)

/-- 'facetlaw08.SoundTraces', WHERE WHAT IT READS IS OF BULK AT MOST 1048576: true; the input reads as it did. -/
def soundTracesUptoRow : OpenClaim := { program := "ytopbnnmkdildgaa", sum := "8b7a6249ee6a778bf6d6b8061ff881da53e8b55a7737c8b301ecee280f7a6c86", func := "facet/facetlaw08.SoundTraces", spec := "soundTraces", unfollowed := true, recurses := true, apart := false, narrowed := true }
def SoundTracesUptoSaid : Prop := soundTracesUptoRow.holds Try.pinned (OpenSpec.upto soundTracesSpec)

/-- 'facetlaw08.SoundJoins', WHERE WHAT IT READS IS OF BULK AT MOST 1048576: true; the input reads as it did. -/
def soundJoinsUptoRow : OpenClaim := { program := "ytopbnnmkdildgaa", sum := "8b7a6249ee6a778bf6d6b8061ff881da53e8b55a7737c8b301ecee280f7a6c86", func := "facet/facetlaw08.SoundJoins", spec := "soundJoins", unfollowed := true, recurses := true, apart := false, narrowed := true }
def SoundJoinsUptoSaid : Prop := soundJoinsUptoRow.holds Try.pinned (OpenSpec.upto soundJoinsSpec)

/-- 'facetlaw08.SoundWalls', WHERE WHAT IT READS IS OF BULK AT MOST 1048576: true; the input reads as it did. -/
def soundWallsUptoRow : OpenClaim := { program := "ytopbnnmkdildgaa", sum := "8b7a6249ee6a778bf6d6b8061ff881da53e8b55a7737c8b301ecee280f7a6c86", func := "facet/facetlaw08.SoundWalls", spec := "soundWalls", unfollowed := true, recurses := true, apart := false, narrowed := true }
def SoundWallsUptoSaid : Prop := soundWallsUptoRow.holds Try.pinned (OpenSpec.upto soundWallsSpec)

end Rows
end Go.Proofs.Ytopbnnmkdildgaa
