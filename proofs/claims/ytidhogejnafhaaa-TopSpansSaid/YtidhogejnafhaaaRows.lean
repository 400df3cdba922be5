/-
  No cell of these rows narrows 'for every input' (looked for: loops, veiled, ifaces, maps, wideKeys, modest, calm, conditions, laid).
  DERIVED. THE GIVEN ROWS OF THIS SEAT. 3 by the template 'for every input the law returns true; each argument reads behind the call as it read before'; 0 by the template 'total and deterministic' (their statements: YtidhogejnafhaaaTotals.lean).
  GIVEN WITH THE SEED: the statements are not yours to turn. If you find one false, say at which input.
  Laid BY PROGRAM, IN A SANDBOX (cutbox-rows.mjs): the forced cells as the released guide's own fill.sh prints them over the translation 37b0f1d56514bc9a… (all of the seat's roots in one cut). By AI agents, Wed Nov 11 2026. No macro, syntax, notation, axiom, sorry.
-/
import Derived.Test.YtidhogejnafhaaaChecked
import GoSem.Claim
import GoSem.ClaimJoined
import GoSem.ClaimMapViews
import Derived.JoinedTies
import Derived.KernelRfl
namespace Go.Proofs.Ytidhogejnafhaaa
/- THE CELL 'sum', in the pinned program and in every row, IS THE sha256 OF THE DUMP (.gsa) THAT YtidhogejnafhaaaProg.lean LOADS. Nothing in Lean hashes anything: it is a label: what it is worth is what the hold of that sum in a sandbox is worth. -/
noncomputable def Try.pinned : Pinned := { name := "ytidhogejnafhaaa", sum := "37b0f1d56514bc9a9e4e25718a0d04ffc7bcc289b4cc8f32eab944fa64c792c0", checked := Try.checked }
namespace Rows
def none {H : Type} : Left H := { results := [], args := [] }

/-- 'facettop.TopSpans': WHATEVER THE INPUT: true; the input reads as it did. -/
def topSpansSpec : ChangeSpec := { name := "topSpans", fn := fun _ => fun
  | [d1, d2, d3] => { results := [.lit (.bool true)], args := [d1, d2, d3] }
  | _ => none }
def topSpansRow : OpenClaim := { program := "ytidhogejnafhaaa", sum := "37b0f1d56514bc9a9e4e25718a0d04ffc7bcc289b4cc8f32eab944fa64c792c0", func := "facet/facettop.TopSpans", spec := "topSpans", unfollowed := true, recurses := true, apart := false }
def TopSpansSaid : Prop := topSpansRow.holds Try.pinned (OpenSpec.ofChange topSpansSpec)

/-- ITS FALSE NEIGHBOUR: 'it returns false'. Refute it at one input. -/
def topSpansWrong : ChangeSpec := { name := "topSpans", fn := fun _ => fun
  | [d1, d2, d3] => { results := [.lit (.bool false)], args := [d1, d2, d3] }
  | _ => none }
def TopSpansWrongFalsely : Prop := topSpansRow.holds Try.pinned (OpenSpec.ofChange topSpansWrong)

/-- 'facetlaw08.SoundJoins': WHATEVER THE INPUT: true; the input reads as it did. -/
def soundJoinsSpec : ChangeSpec := { name := "soundJoins", fn := fun _ => fun
  | [d1, d2, d3] => { results := [.lit (.bool true)], args := [d1, d2, d3] }
  | _ => none }
def soundJoinsRow : OpenClaim := { program := "ytidhogejnafhaaa", sum := "37b0f1d56514bc9a9e4e25718a0d04ffc7bcc289b4cc8f32eab944fa64c792c0", func := "facet/facetlaw08.SoundJoins", spec := "soundJoins", unfollowed := true, recurses := true, apart := false }
def SoundJoinsSaid : Prop := soundJoinsRow.holds Try.pinned (OpenSpec.ofChange soundJoinsSpec)

/-- ITS FALSE NEIGHBOUR: 'it returns false'. Refute it at one input. -/
def soundJoinsWrong : ChangeSpec := { name := "soundJoins", fn := fun _ => fun
  | [d1, d2, d3] => { results := [.lit (.bool false)], args := [d1, d2, d3] }
  | _ => none }
def SoundJoinsWrongFalsely : Prop := soundJoinsRow.holds Try.pinned (OpenSpec.ofChange soundJoinsWrong)

/-- 'facetlaw08.SoundSums': WHATEVER THE INPUT: true; the input reads as it did. -/
def soundSumsSpec : ChangeSpec := { name := "soundSums", fn := fun _ => fun
  | [d1, d2] => { results := [.lit (.bool true)], args := [d1, d2] }
  | _ => none }
def soundSumsRow : OpenClaim := { program := "ytidhogejnafhaaa", sum := "37b0f1d56514bc9a9e4e25718a0d04ffc7bcc289b4cc8f32eab944fa64c792c0", func := "facet/facetlaw08.SoundSums", spec := "soundSums", unfollowed := true, recurses := true, apart := false }
def SoundSumsSaid : Prop := soundSumsRow.holds Try.pinned (OpenSpec.ofChange soundSumsSpec)

/-- ITS FALSE NEIGHBOUR: 'it returns false'. Refute it at one input. -/
def soundSumsWrong : ChangeSpec := { name := "soundSums", fn := fun _ => fun
  | [d1, d2] => { results := [.lit (.bool false)], args := [d1, d2] }
  | _ => none }
def SoundSumsWrongFalsely : Prop := soundSumsRow.holds Try.pinned (OpenSpec.ofChange soundSumsWrong)

/- THE SECOND FORM. 'bulk': how many values and letters a reading holds, each counted each time it is reached (what is shared counts as often as it is met; a slice's spare places count too). A statement '..UptoSaid' is the law's where the arguments, and the package variables that the reading takes, are together of bulk at most 1048576: NARROWER than '..Said'. Prove '..Said' where nothing that the law and all that it calls make is longer than what came in: it says more and counts as full. Else prove '..UptoSaid'. A law counts once. -/
mutual
def uptoBulk {H : Type} : DataW H → Nat
  | .lit (.string bytes) => bytes.length + 1
  | .lit _ => 1
  | .nil => 1
  | .ptr d => uptoBulk d + 1
  | .slice elems spare => uptoBulkAll elems + uptoBulkAll spare + 1
  | .agg parts => uptoBulkAll parts + 1
  | .iface _ d => uptoBulk d + 1
  | .map entries => uptoBulkEntries entries + 1
  | .held _ => 1
def uptoBulkAll {H : Type} : List (DataW H) → Nat
  | [] => 0
  | d :: r => uptoBulk d + uptoBulkAll r
def uptoBulkEntries {H : Type} : List (Lit × DataW H) → Nat
  | [] => 0
  | x :: r => uptoBulkEntry x + uptoBulkEntries r
def uptoBulkEntry {H : Type} : Lit × DataW H → Nat
  | (.string bytes, d) => bytes.length + uptoBulk d + 1
  | (_, d) => uptoBulk d + 1
 end
def uptoSmall : (H : Type) → List (DataW H) → Bool := fun _ ds => decide (uptoBulkAll ds ≤ 1048576)
def OpenSpec.upto (s : _root_.Go.ChangeSpec) : _root_.Go.OpenSpec := { _root_.Go.OpenSpec.ofChange s with cond := some uptoSmall }

/-- 'facettop.TopSpans', WHERE WHAT IT READS IS OF BULK AT MOST 1048576: true; the input reads as it did. -/
def topSpansUptoRow : OpenClaim := { program := "ytidhogejnafhaaa", sum := "37b0f1d56514bc9a9e4e25718a0d04ffc7bcc289b4cc8f32eab944fa64c792c0", func := "facet/facettop.TopSpans", spec := "topSpans", unfollowed := true, recurses := true, apart := false, narrowed := true }
def TopSpansUptoSaid : Prop := topSpansUptoRow.holds Try.pinned (OpenSpec.upto topSpansSpec)

/-- 'facetlaw08.SoundJoins', WHERE WHAT IT READS IS OF BULK AT MOST 1048576: true; the input reads as it did. -/
def soundJoinsUptoRow : OpenClaim := { program := "ytidhogejnafhaaa", sum := "37b0f1d56514bc9a9e4e25718a0d04ffc7bcc289b4cc8f32eab944fa64c792c0", func := "facet/facetlaw08.SoundJoins", spec := "soundJoins", unfollowed := true, recurses := true, apart := false, narrowed := true }
def SoundJoinsUptoSaid : Prop := soundJoinsUptoRow.holds Try.pinned (OpenSpec.upto soundJoinsSpec)

/-- 'facetlaw08.SoundSums', WHERE WHAT IT READS IS OF BULK AT MOST 1048576: true; the input reads as it did. -/
def soundSumsUptoRow : OpenClaim := { program := "ytidhogejnafhaaa", sum := "37b0f1d56514bc9a9e4e25718a0d04ffc7bcc289b4cc8f32eab944fa64c792c0", func := "facet/facetlaw08.SoundSums", spec := "soundSums", unfollowed := true, recurses := true, apart := false, narrowed := true }
def SoundSumsUptoSaid : Prop := soundSumsUptoRow.holds Try.pinned (OpenSpec.upto soundSumsSpec)

end Rows
end Go.Proofs.Ytidhogejnafhaaa
