/-
  A part of the proofs of the Field laws: what functions of the program compute, and that it is what the statements ask. No premise.
-/
import Derived.Test.YtopbnnmkdildgaaLf
namespace Go.Proofs.Ytopbnnmkdildgaa
open Go.Proofs Go.Aw Go.RowKit
set_option maxRecDepth 100000
set_option linter.unusedVariables false
set_option linter.unusedSimpArgs false

/-! ### The parts -/
theorem known_t : F14 = true := by kernel_rfl
theorem foldl_snoc {α : Type} : ∀ (l a : List α), l.foldl (fun v x => v ++ [x]) a = a ++ l
  | [], a => by simp
  | x :: l, a => by rw [List.foldl_cons, foldl_snoc l]; simp
theorem collect_eq (p : PN) (d : Int) : F114_c141 p d = cutL d.toNat p := by
  have h := foldl_snoc (cutL d.toNat p) []
  rw [List.nil_append] at h
  exact h
open Classical in
theorem parts_f (p : PN) (d : Int) : F88 p d = if vp p = 0 then (if 0 ≤ d ∧ d ≤ 3 then (cutL d.toNat p, 0) else ([], 1)) else ([], vp p) := by
  have h0 : bd 256 (0, 0, 0) := by unfold bd; simp only; omega
  unfold F88
  rw [chk_eq, collect_eq]
  unfold ck
  by_cases hv : vp p = 0
  · by_cases hd : 0 ≤ d ∧ d ≤ 3
    · rw [if_pos hv, if_pos ⟨h0, hd⟩, if_pos hv, if_pos hd]; rfl
    · rw [if_pos hv, if_neg (fun h => hd h.2), if_pos hv, if_neg hd]; rfl
  · rw [if_neg hv, if_neg hv, bne_iff_ne.2 hv, cond_true]
open Classical in
theorem cutL_len : ∀ (d : Nat) (p : PN), (cutL d p).length = 4 ^ d
  | 0, p => rfl
  | d + 1, p => by
    rw [cutL_quad]
    have : ∀ l : List PN, (l.flatMap quad).length = 4 * l.length := fun l => by
      induction l with
      | nil => rfl
      | cons x l ih => rw [List.flatMap_cons, List.length_append, ih]; show 4 + _ = _; simp only [List.length_cons]; omega
    rw [this, cutL_len d p, Nat.pow_succ]; omega
end Go.Proofs.Ytopbnnmkdildgaa
