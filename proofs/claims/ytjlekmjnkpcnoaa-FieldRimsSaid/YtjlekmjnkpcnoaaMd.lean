/-
  A part of the proofs of the Field laws: what functions of the program compute, and that it is what the statements ask. No premise.
-/
import Derived.Test.YtjlekmjnkpcnoaaLf
namespace Go.Proofs.Ytjlekmjnkpcnoaa
open Go.Proofs Go.Aw Go.RowKit
set_option maxRecDepth 100000
set_option linter.unusedVariables false
set_option linter.unusedSimpArgs false

/-! ### The parts -/
theorem known_t : F16 = true := by kernel_rfl
theorem foldl_snoc {α : Type} : ∀ (l a : List α), l.foldl (fun v x => v ++ [x]) a = a ++ l
  | [], a => by simp
  | x :: l, a => by rw [List.foldl_cons, foldl_snoc l]; simp
theorem collect_eq (p : PN) (d : Int) : F47_c102 p d = cutL d.toNat p := by
  have h := foldl_snoc (cutL d.toNat p) []
  rw [List.nil_append] at h
  exact h
open Classical in
theorem parts_f (p : PN) (d : Int) : F17 p d = if vp p = 0 then (if 0 ≤ d ∧ d ≤ 3 then (cutL d.toNat p, 0) else ([], 1)) else ([], vp p) := by
  have h0 : bd 256 (0, 0, 0) := by unfold bd; simp only; omega
  unfold F17
  rw [chk_eq, collect_eq]
  unfold ck
  by_cases hv : vp p = 0
  · by_cases hd : 0 ≤ d ∧ d ≤ 3
    · rw [if_pos hv, if_pos ⟨h0, hd⟩, if_pos hv, if_pos hd]; rfl
    · rw [if_pos hv, if_neg (fun h => hd h.2), if_pos hv, if_neg hd]; rfl
  · rw [if_neg hv, if_neg hv, bne_iff_ne.2 hv, cond_true]
open Classical in
theorem parts_r (p : PN) (d : Int) : F18 p d = if vp p = 0 then (if 0 ≤ d ∧ d ≤ 3 then (cutL d.toNat p, 0) else ([], 1)) else ([], vp p) := by
  unfold F18
  rw [vp_r, within_eq3]
  by_cases hv : vp p = 0
  · rw [if_pos hv]
    by_cases hd : 0 ≤ d ∧ d ≤ 3
    · rw [if_pos hd, cutR (vp_ok hv).1 hd, hv, decide_eq_true hd]; rfl
    · rw [if_neg hd, hv, decide_eq_false hd]; rfl
  · rw [if_neg hv, bne_iff_ne.2 hv, cond_true]
theorem parts_eq (p : PN) (d : Int) : F17 p d = F18 p d := by rw [parts_f, parts_r]
theorem cutL_len : ∀ (d : Nat) (p : PN), (cutL d p).length = 4 ^ d
  | 0, p => rfl
  | d + 1, p => by
    rw [cutL_quad]
    have : ∀ l : List PN, (l.flatMap quad).length = 4 * l.length := fun l => by
      induction l with
      | nil => rfl
      | cons x l ih => rw [List.flatMap_cons, List.length_append, ih]; show 4 + _ = _; simp only [List.length_cons]; omega
    rw [this, cutL_len d p, Nat.pow_succ]; omega
theorem parts_len (p : PN) (d : Int) : (F17 p d).1.length = (F18 p d).1.length ∧ (F18 p d).1.length ≤ 64 := by
  rw [parts_eq]
  refine ⟨rfl, ?_⟩
  rw [parts_r]
  split
  · split
    · rename_i h
      have : d.toNat = 0 ∨ d.toNat = 1 ∨ d.toNat = 2 ∨ d.toNat = 3 := by omega
      simp only [cutL_len]
      rcases this with h | h | h | h <;> rw [h] <;> decide
    · exact Nat.zero_le _
  · exact Nat.zero_le _

end Go.Proofs.Ytjlekmjnkpcnoaa
