/-
  A part of the proofs of the Field laws: what functions of the program compute, and that it is what the statements ask. No premise.
-/
import Derived.Test.YtopbnnmkdildgaaMl
namespace Go.Proofs.Ytopbnnmkdildgaa
open Go.Proofs Go.Aw Go.RowKit
set_option maxRecDepth 100000
set_option linter.unusedVariables false
set_option linter.unusedSimpArgs false

theorem cut64 (p : PN) {d : Int} (h : 0 ≤ d ∧ d ≤ 3) : (cutL (Int.toNat d) p).length ≤ 64 := by
  have h1 := cnt_len h p; have h2 := cnt_in d; omega


end Go.Proofs.Ytopbnnmkdildgaa
