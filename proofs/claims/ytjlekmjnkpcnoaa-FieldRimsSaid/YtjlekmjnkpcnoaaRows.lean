/-
  No cell of these rows narrows 'for every input' (looked for: loops, veiled, ifaces, maps, wideKeys, modest, calm, conditions, laid).
  DERIVED. THE GIVEN ROWS OF THIS SEAT. 11 by the template 'for every input the law returns true; each argument reads behind the call as it read before'; 0 by the template 'total and deterministic' (their statements: YtjlekmjnkpcnoaaTotals.lean).
  GIVEN WITH THE SEED: the statements are not yours to turn. If you find one false, say at which input.
  Laid BY PROGRAM, IN A SANDBOX (cutbox-rows.mjs): the forced cells as the released guide's own fill.sh prints them over the translation 76ac379b25a652db… (all of the seat's roots in one cut). By AI agents, Wed Nov 11 2026. No macro, syntax, notation, axiom, sorry.
-/
import Derived.Test.YtjlekmjnkpcnoaaChecked
import GoSem.Claim
import GoSem.ClaimJoined
import GoSem.ClaimMapViews
import Derived.JoinedTies
import Derived.KernelRfl
namespace Go.Proofs.Ytjlekmjnkpcnoaa
/- THE CELL 'sum', in the pinned program and in every row, IS THE sha256 OF THE DUMP (.gsa) THAT YtjlekmjnkpcnoaaProg.lean LOADS. Nothing in Lean hashes anything: it is a label: what it is worth is what the hold of that sum in a sandbox is worth. -/
noncomputable def Try.pinned : Pinned := { name := "ytjlekmjnkpcnoaa", sum := "76ac379b25a652db4f78034ac241602f34914ecb58184873345524032a2ad036", checked := Try.checked }
namespace Rows
def none {H : Type} : Left H := { results := [], args := [] }

/-- 'facetlaw03.FieldLeasts': WHATEVER THE INPUT: true; the input reads as it did. -/
def fieldLeastsSpec : ChangeSpec := { name := "fieldLeasts", fn := fun _ => fun
  | [d1, d2, d3] => { results := [.lit (.bool true)], args := [d1, d2, d3] }
  | _ => none }
def fieldLeastsRow : OpenClaim := { program := "ytjlekmjnkpcnoaa", sum := "76ac379b25a652db4f78034ac241602f34914ecb58184873345524032a2ad036", func := "facet/facetlaw03.FieldLeasts", spec := "fieldLeasts", unfollowed := true, recurses := true, apart := false }
def FieldLeastsSaid : Prop := fieldLeastsRow.holds Try.pinned (OpenSpec.ofChange fieldLeastsSpec)

/-- ITS FALSE NEIGHBOUR: 'it returns false'. Refute it at one input. -/
def fieldLeastsWrong : ChangeSpec := { name := "fieldLeasts", fn := fun _ => fun
  | [d1, d2, d3] => { results := [.lit (.bool false)], args := [d1, d2, d3] }
  | _ => none }
def FieldLeastsWrongFalsely : Prop := fieldLeastsRow.holds Try.pinned (OpenSpec.ofChange fieldLeastsWrong)

/-- 'facetlaw03.FieldParts': WHATEVER THE INPUT: true; the input reads as it did. -/
def fieldPartsSpec : ChangeSpec := { name := "fieldParts", fn := fun _ => fun
  | [d1, d2] => { results := [.lit (.bool true)], args := [d1, d2] }
  | _ => none }
def fieldPartsRow : OpenClaim := { program := "ytjlekmjnkpcnoaa", sum := "76ac379b25a652db4f78034ac241602f34914ecb58184873345524032a2ad036", func := "facet/facetlaw03.FieldParts", spec := "fieldParts", unfollowed := true, recurses := true, apart := false }
def FieldPartsSaid : Prop := fieldPartsRow.holds Try.pinned (OpenSpec.ofChange fieldPartsSpec)

/-- ITS FALSE NEIGHBOUR: 'it returns false'. Refute it at one input. -/
def fieldPartsWrong : ChangeSpec := { name := "fieldParts", fn := fun _ => fun
  | [d1, d2] => { results := [.lit (.bool false)], args := [d1, d2] }
  | _ => none }
def FieldPartsWrongFalsely : Prop := fieldPartsRow.holds Try.pinned (OpenSpec.ofChange fieldPartsWrong)

/-- 'facetlaw03.FieldMeans': WHATEVER THE INPUT: true; the input reads as it did. -/
def fieldMeansSpec : ChangeSpec := { name := "fieldMeans", fn := fun _ => fun
  | [d] => { results := [.lit (.bool true)], args := [d] }
  | _ => none }
def fieldMeansRow : OpenClaim := { program := "ytjlekmjnkpcnoaa", sum := "76ac379b25a652db4f78034ac241602f34914ecb58184873345524032a2ad036", func := "facet/facetlaw03.FieldMeans", spec := "fieldMeans", unfollowed := true, recurses := true, apart := false }
def FieldMeansSaid : Prop := fieldMeansRow.holds Try.pinned (OpenSpec.ofChange fieldMeansSpec)

/-- ITS FALSE NEIGHBOUR: 'it returns false'. Refute it at one input. -/
def fieldMeansWrong : ChangeSpec := { name := "fieldMeans", fn := fun _ => fun
  | [d] => { results := [.lit (.bool false)], args := [d] }
  | _ => none }
def FieldMeansWrongFalsely : Prop := fieldMeansRow.holds Try.pinned (OpenSpec.ofChange fieldMeansWrong)

/-- 'facetlaw03.FieldRims': WHATEVER THE INPUT: true; the input reads as it did. -/
def fieldRimsSpec : ChangeSpec := { name := "fieldRims", fn := fun _ => fun
  | [d] => { results := [.lit (.bool true)], args := [d] }
  | _ => none }
def fieldRimsRow : OpenClaim := { program := "ytjlekmjnkpcnoaa", sum := "76ac379b25a652db4f78034ac241602f34914ecb58184873345524032a2ad036", func := "facet/facetlaw03.FieldRims", spec := "fieldRims", unfollowed := true, recurses := true, apart := false }
def FieldRimsSaid : Prop := fieldRimsRow.holds Try.pinned (OpenSpec.ofChange fieldRimsSpec)

/-- ITS FALSE NEIGHBOUR: 'it returns false'. Refute it at one input. -/
def fieldRimsWrong : ChangeSpec := { name := "fieldRims", fn := fun _ => fun
  | [d] => { results := [.lit (.bool false)], args := [d] }
  | _ => none }
def FieldRimsWrongFalsely : Prop := fieldRimsRow.holds Try.pinned (OpenSpec.ofChange fieldRimsWrong)

/-- 'facetlaw03.FieldFiner': WHATEVER THE INPUT: true; the input reads as it did. -/
def fieldFinerSpec : ChangeSpec := { name := "fieldFiner", fn := fun _ => fun
  | [d] => { results := [.lit (.bool true)], args := [d] }
  | _ => none }
def fieldFinerRow : OpenClaim := { program := "ytjlekmjnkpcnoaa", sum := "76ac379b25a652db4f78034ac241602f34914ecb58184873345524032a2ad036", func := "facet/facetlaw03.FieldFiner", spec := "fieldFiner", unfollowed := true, recurses := true, apart := false }
def FieldFinerSaid : Prop := fieldFinerRow.holds Try.pinned (OpenSpec.ofChange fieldFinerSpec)

/-- ITS FALSE NEIGHBOUR: 'it returns false'. Refute it at one input. -/
def fieldFinerWrong : ChangeSpec := { name := "fieldFiner", fn := fun _ => fun
  | [d] => { results := [.lit (.bool false)], args := [d] }
  | _ => none }
def FieldFinerWrongFalsely : Prop := fieldFinerRow.holds Try.pinned (OpenSpec.ofChange fieldFinerWrong)

/-- 'facetlaw03.FieldBetweens': WHATEVER THE INPUT: true; the input reads as it did. -/
def fieldBetweensSpec : ChangeSpec := { name := "fieldBetweens", fn := fun _ => fun
  | [d1, d2, d3] => { results := [.lit (.bool true)], args := [d1, d2, d3] }
  | _ => none }
def fieldBetweensRow : OpenClaim := { program := "ytjlekmjnkpcnoaa", sum := "76ac379b25a652db4f78034ac241602f34914ecb58184873345524032a2ad036", func := "facet/facetlaw03.FieldBetweens", spec := "fieldBetweens", unfollowed := true, recurses := true, apart := false }
def FieldBetweensSaid : Prop := fieldBetweensRow.holds Try.pinned (OpenSpec.ofChange fieldBetweensSpec)

/-- ITS FALSE NEIGHBOUR: 'it returns false'. Refute it at one input. -/
def fieldBetweensWrong : ChangeSpec := { name := "fieldBetweens", fn := fun _ => fun
  | [d1, d2, d3] => { results := [.lit (.bool false)], args := [d1, d2, d3] }
  | _ => none }
def FieldBetweensWrongFalsely : Prop := fieldBetweensRow.holds Try.pinned (OpenSpec.ofChange fieldBetweensWrong)

/-- 'facetlaw03.FieldAngles': WHATEVER THE INPUT: true; the input reads as it did. -/
def fieldAnglesSpec : ChangeSpec := { name := "fieldAngles", fn := fun _ => fun
  | [d] => { results := [.lit (.bool true)], args := [d] }
  | _ => none }
def fieldAnglesRow : OpenClaim := { program := "ytjlekmjnkpcnoaa", sum := "76ac379b25a652db4f78034ac241602f34914ecb58184873345524032a2ad036", func := "facet/facetlaw03.FieldAngles", spec := "fieldAngles", unfollowed := true, recurses := true, apart := false }
def FieldAnglesSaid : Prop := fieldAnglesRow.holds Try.pinned (OpenSpec.ofChange fieldAnglesSpec)

/-- ITS FALSE NEIGHBOUR: 'it returns false'. Refute it at one input. -/
def fieldAnglesWrong : ChangeSpec := { name := "fieldAngles", fn := fun _ => fun
  | [d] => { results := [.lit (.bool false)], args := [d] }
  | _ => none }
def FieldAnglesWrongFalsely : Prop := fieldAnglesRow.holds Try.pinned (OpenSpec.ofChange fieldAnglesWrong)

/-- 'facetlaw03.FieldAdds': WHATEVER THE INPUT: true; the input reads as it did. -/
def fieldAddsSpec : ChangeSpec := { name := "fieldAdds", fn := fun _ => fun
  | [d1, d2, d3] => { results := [.lit (.bool true)], args := [d1, d2, d3] }
  | _ => none }
def fieldAddsRow : OpenClaim := { program := "ytjlekmjnkpcnoaa", sum := "76ac379b25a652db4f78034ac241602f34914ecb58184873345524032a2ad036", func := "facet/facetlaw03.FieldAdds", spec := "fieldAdds", unfollowed := true, recurses := true, apart := false }
def FieldAddsSaid : Prop := fieldAddsRow.holds Try.pinned (OpenSpec.ofChange fieldAddsSpec)

/-- ITS FALSE NEIGHBOUR: 'it returns false'. Refute it at one input. -/
def fieldAddsWrong : ChangeSpec := { name := "fieldAdds", fn := fun _ => fun
  | [d1, d2, d3] => { results := [.lit (.bool false)], args := [d1, d2, d3] }
  | _ => none }
def FieldAddsWrongFalsely : Prop := fieldAddsRow.holds Try.pinned (OpenSpec.ofChange fieldAddsWrong)

/-- 'facetlaw03.FieldMutuals': WHATEVER THE INPUT: true; the input reads as it did. -/
def fieldMutualsSpec : ChangeSpec := { name := "fieldMutuals", fn := fun _ => fun
  | [d1, d2, d3] => { results := [.lit (.bool true)], args := [d1, d2, d3] }
  | _ => none }
def fieldMutualsRow : OpenClaim := { program := "ytjlekmjnkpcnoaa", sum := "76ac379b25a652db4f78034ac241602f34914ecb58184873345524032a2ad036", func := "facet/facetlaw03.FieldMutuals", spec := "fieldMutuals", unfollowed := true, recurses := true, apart := false }
def FieldMutualsSaid : Prop := fieldMutualsRow.holds Try.pinned (OpenSpec.ofChange fieldMutualsSpec)

/-- ITS FALSE NEIGHBOUR: 'it returns false'. Refute it at one input. -/
def fieldMutualsWrong : ChangeSpec := { name := "fieldMutuals", fn := fun _ => fun
  | [d1, d2, d3] => { results := [.lit (.bool false)], args := [d1, d2, d3] }
  | _ => none }
def FieldMutualsWrongFalsely : Prop := fieldMutualsRow.holds Try.pinned (OpenSpec.ofChange fieldMutualsWrong)

/-- 'facetlaw08.SoundTravels': WHATEVER THE INPUT: true; the input reads as it did. -/
def soundTravelsSpec : ChangeSpec := { name := "soundTravels", fn := fun _ => fun
  | [d1, d2, d3] => { results := [.lit (.bool true)], args := [d1, d2, d3] }
  | _ => none }
def soundTravelsRow : OpenClaim := { program := "ytjlekmjnkpcnoaa", sum := "76ac379b25a652db4f78034ac241602f34914ecb58184873345524032a2ad036", func := "facet/facetlaw08.SoundTravels", spec := "soundTravels", unfollowed := true, recurses := true, apart := false }
def SoundTravelsSaid : Prop := soundTravelsRow.holds Try.pinned (OpenSpec.ofChange soundTravelsSpec)

/-- ITS FALSE NEIGHBOUR: 'it returns false'. Refute it at one input. -/
def soundTravelsWrong : ChangeSpec := { name := "soundTravels", fn := fun _ => fun
  | [d1, d2, d3] => { results := [.lit (.bool false)], args := [d1, d2, d3] }
  | _ => none }
def SoundTravelsWrongFalsely : Prop := soundTravelsRow.holds Try.pinned (OpenSpec.ofChange soundTravelsWrong)

/-- 'facetlaw08.SoundTimes': WHATEVER THE INPUT: true; the input reads as it did. -/
def soundTimesSpec : ChangeSpec := { name := "soundTimes", fn := fun _ => fun
  | [d1, d2, d3] => { results := [.lit (.bool true)], args := [d1, d2, d3] }
  | _ => none }
def soundTimesRow : OpenClaim := { program := "ytjlekmjnkpcnoaa", sum := "76ac379b25a652db4f78034ac241602f34914ecb58184873345524032a2ad036", func := "facet/facetlaw08.SoundTimes", spec := "soundTimes", unfollowed := true, recurses := true, apart := false }
def SoundTimesSaid : Prop := soundTimesRow.holds Try.pinned (OpenSpec.ofChange soundTimesSpec)

/-- ITS FALSE NEIGHBOUR: 'it returns false'. Refute it at one input. -/
def soundTimesWrong : ChangeSpec := { name := "soundTimes", fn := fun _ => fun
  | [d1, d2, d3] => { results := [.lit (.bool false)], args := [d1, d2, d3] }
  | _ => none }
def SoundTimesWrongFalsely : Prop := soundTimesRow.holds Try.pinned (OpenSpec.ofChange soundTimesWrong)

/- THE SECOND FORM. 'bulk': how many values and letters a reading holds, each counted each time it is reached (what is shared counts as often as it is met; a slice's spare places count too). A statement '..UptoSaid' is the law's where the arguments, and the package variables that the reading takes, are together of bulk at most 1048576: NARROWER than '..Said'. Prove '..Said' where nothing that the law and all that it calls make is longer than what came in: it says more and counts as full. Else prove '..UptoSaid'. A law counts once. -/
mutual
def uptoBulk {H : Type} : DataW H → Nat
  | .lit (.string bytes) => bytes.length + 1
  | .lit _ => 1
  | .nil => 1
  | .ptr d => uptoBulk d + 1
  | .slice elems spare => uptoBulkAll elems + uptoBulkAll spare + 1
  | .agg parts => uptoBulkAll parts + 1
  | .iface _ d => uptoBulk d + 1
  | .map entries => uptoBulkEntries entries + 1
  | .held _ => 1
def uptoBulkAll {H : Type} : List (DataW H) → Nat
  | [] => 0
  | d :: r => uptoBulk d + uptoBulkAll r
def uptoBulkEntries {H : Type} : List (Lit × DataW H) → Nat
  | [] => 0
  | x :: r => uptoBulkEntry x + uptoBulkEntries r
def uptoBulkEntry {H : Type} : Lit × DataW H → Nat
  | (.string bytes, d) => bytes.length + uptoBulk d + 1
  | (_, d) => uptoBulk d + 1
 end
def uptoSmall : (H : Type) → List (DataW H) → Bool := fun _ ds => decide (uptoBulkAll ds ≤ 1048576)
def OpenSpec.upto (s : _root_.Go.ChangeSpec) : _root_.Go.OpenSpec := { _root_.Go.OpenSpec.ofChange s with cond := some uptoSmall }

/-- 'facetlaw03.FieldLeasts', WHERE WHAT IT READS IS OF BULK AT MOST 1048576: true; the input reads as it did. -/
def fieldLeastsUptoRow : OpenClaim := { program := "ytjlekmjnkpcnoaa", sum := "76ac379b25a652db4f78034ac241602f34914ecb58184873345524032a2ad036", func := "facet/facetlaw03.FieldLeasts", spec := "fieldLeasts", unfollowed := true, recurses := true, apart := false, narrowed := true }
def FieldLeastsUptoSaid : Prop := fieldLeastsUptoRow.holds Try.pinned (OpenSpec.upto fieldLeastsSpec)

/-- 'facetlaw03.FieldParts', WHERE WHAT IT READS IS OF BULK AT MOST 1048576: true; the input reads as it did. -/
def fieldPartsUptoRow : OpenClaim := { program := "ytjlekmjnkpcnoaa", sum := "76ac379b25a652db4f78034ac241602f34914ecb58184873345524032a2ad036", func := "facet/facetlaw03.FieldParts", spec := "fieldParts", unfollowed := true, recurses := true, apart := false, narrowed := true }
def FieldPartsUptoSaid : Prop := fieldPartsUptoRow.holds Try.pinned (OpenSpec.upto fieldPartsSpec)

/-- 'facetlaw03.FieldMeans', WHERE WHAT IT READS IS OF BULK AT MOST 1048576: true; the input reads as it did. -/
def fieldMeansUptoRow : OpenClaim := { program := "ytjlekmjnkpcnoaa", sum := "76ac379b25a652db4f78034ac241602f34914ecb58184873345524032a2ad036", func := "facet/facetlaw03.FieldMeans", spec := "fieldMeans", unfollowed := true, recurses := true, apart := false, narrowed := true }
def FieldMeansUptoSaid : Prop := fieldMeansUptoRow.holds Try.pinned (OpenSpec.upto fieldMeansSpec)

/-- 'facetlaw03.FieldRims', WHERE WHAT IT READS IS OF BULK AT MOST 1048576: true; the input reads as it did. -/
def fieldRimsUptoRow : OpenClaim := { program := "ytjlekmjnkpcnoaa", sum := "76ac379b25a652db4f78034ac241602f34914ecb58184873345524032a2ad036", func := "facet/facetlaw03.FieldRims", spec := "fieldRims", unfollowed := true, recurses := true, apart := false, narrowed := true }
def FieldRimsUptoSaid : Prop := fieldRimsUptoRow.holds Try.pinned (OpenSpec.upto fieldRimsSpec)

/-- 'facetlaw03.FieldFiner', WHERE WHAT IT READS IS OF BULK AT MOST 1048576: true; the input reads as it did. -/
def fieldFinerUptoRow : OpenClaim := { program := "ytjlekmjnkpcnoaa", sum := "76ac379b25a652db4f78034ac241602f34914ecb58184873345524032a2ad036", func := "facet/facetlaw03.FieldFiner", spec := "fieldFiner", unfollowed := true, recurses := true, apart := false, narrowed := true }
def FieldFinerUptoSaid : Prop := fieldFinerUptoRow.holds Try.pinned (OpenSpec.upto fieldFinerSpec)

/-- 'facetlaw03.FieldBetweens', WHERE WHAT IT READS IS OF BULK AT MOST 1048576: true; the input reads as it did. -/
def fieldBetweensUptoRow : OpenClaim := { program := "ytjlekmjnkpcnoaa", sum := "76ac379b25a652db4f78034ac241602f34914ecb58184873345524032a2ad036", func := "facet/facetlaw03.FieldBetweens", spec := "fieldBetweens", unfollowed := true, recurses := true, apart := false, narrowed := true }
def FieldBetweensUptoSaid : Prop := fieldBetweensUptoRow.holds Try.pinned (OpenSpec.upto fieldBetweensSpec)

/-- 'facetlaw03.FieldAngles', WHERE WHAT IT READS IS OF BULK AT MOST 1048576: true; the input reads as it did. -/
def fieldAnglesUptoRow : OpenClaim := { program := "ytjlekmjnkpcnoaa", sum := "76ac379b25a652db4f78034ac241602f34914ecb58184873345524032a2ad036", func := "facet/facetlaw03.FieldAngles", spec := "fieldAngles", unfollowed := true, recurses := true, apart := false, narrowed := true }
def FieldAnglesUptoSaid : Prop := fieldAnglesUptoRow.holds Try.pinned (OpenSpec.upto fieldAnglesSpec)

/-- 'facetlaw03.FieldAdds', WHERE WHAT IT READS IS OF BULK AT MOST 1048576: true; the input reads as it did. -/
def fieldAddsUptoRow : OpenClaim := { program := "ytjlekmjnkpcnoaa", sum := "76ac379b25a652db4f78034ac241602f34914ecb58184873345524032a2ad036", func := "facet/facetlaw03.FieldAdds", spec := "fieldAdds", unfollowed := true, recurses := true, apart := false, narrowed := true }
def FieldAddsUptoSaid : Prop := fieldAddsUptoRow.holds Try.pinned (OpenSpec.upto fieldAddsSpec)

/-- 'facetlaw03.FieldMutuals', WHERE WHAT IT READS IS OF BULK AT MOST 1048576: true; the input reads as it did. -/
def fieldMutualsUptoRow : OpenClaim := { program := "ytjlekmjnkpcnoaa", sum := "76ac379b25a652db4f78034ac241602f34914ecb58184873345524032a2ad036", func := "facet/facetlaw03.FieldMutuals", spec := "fieldMutuals", unfollowed := true, recurses := true, apart := false, narrowed := true }
def FieldMutualsUptoSaid : Prop := fieldMutualsUptoRow.holds Try.pinned (OpenSpec.upto fieldMutualsSpec)

/-- 'facetlaw08.SoundTravels', WHERE WHAT IT READS IS OF BULK AT MOST 1048576: true; the input reads as it did. -/
def soundTravelsUptoRow : OpenClaim := { program := "ytjlekmjnkpcnoaa", sum := "76ac379b25a652db4f78034ac241602f34914ecb58184873345524032a2ad036", func := "facet/facetlaw08.SoundTravels", spec := "soundTravels", unfollowed := true, recurses := true, apart := false, narrowed := true }
def SoundTravelsUptoSaid : Prop := soundTravelsUptoRow.holds Try.pinned (OpenSpec.upto soundTravelsSpec)

/-- 'facetlaw08.SoundTimes', WHERE WHAT IT READS IS OF BULK AT MOST 1048576: true; the input reads as it did. -/
def soundTimesUptoRow : OpenClaim := { program := "ytjlekmjnkpcnoaa", sum := "76ac379b25a652db4f78034ac241602f34914ecb58184873345524032a2ad036", func := "facet/facetlaw08.SoundTimes", spec := "soundTimes", unfollowed := true, recurses := true, apart := false, narrowed := true }
def SoundTimesUptoSaid : Prop := soundTimesUptoRow.holds Try.pinned (OpenSpec.upto soundTimesSpec)

end Rows
end Go.Proofs.Ytjlekmjnkpcnoaa
