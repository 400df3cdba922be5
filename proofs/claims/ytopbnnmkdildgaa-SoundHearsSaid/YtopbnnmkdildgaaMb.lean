/-
  A part of the proofs of the Field laws: what functions of the program compute, and that it is what the statements ask. No premise.
-/
import Derived.Test.YtopbnnmkdildgaaMa
namespace Go.Proofs.Ytopbnnmkdildgaa
open Go.Proofs Go.Aw Go.RowKit
set_option maxRecDepth 100000
set_option linter.unusedVariables false
set_option linter.unusedSimpArgs false

/-! ### The reference's list of parts -/
/-! ### It is the program's -/
def quad (x : PN) : List PN := [q1 x, q2 x, q3 x, q4 x]
theorem times_f {p : P3} (h : bd 100000 p) : F103 p 2 = (2 * p.1, 2 * p.2.1, 2 * p.2.2) := by
  unfold bd at h; simp only [F103]; rw [W_eq (by omega) (by omega), W_eq (by omega) (by omega), W_eq (by omega) (by omega)]
theorem mid_f {p q : P3} (hp : bd 100000 p) (hq : bd 100000 q) : F143 p q = (p.1 + q.1, p.2.1 + q.2.1, p.2.2 + q.2.2) := by
  unfold bd at hp hq; simp only [F143]; rw [W_eq (by omega) (by omega), W_eq (by omega) (by omega), W_eq (by omega) (by omega)]
theorem quad_bd {m : Int} {x y : PN} (h : bdP m x) (hm : m ≤ 100000) (hy : y ∈ quad x) : bdP (2 * m) y := by
  have h1 := h.1.mono hm; have h2 := h.2.1.mono hm; have h3 := h.2.2.mono hm
  unfold quad q1 q2 q3 q4 at hy
  rw [mid_f h1 h2, mid_f h3 h1, mid_f h2 h3, times_f h1, times_f h2, times_f h3] at hy
  have ha := h.1; have hb := h.2.1; have hc := h.2.2
  unfold bd at ha hb hc
  simp only [List.mem_cons, List.mem_nil_iff, or_false] at hy
  unfold bdP bd
  rcases hy with rfl | rfl | rfl | rfl <;> simp only <;> omega
theorem cutL_quad : ∀ (d : Nat) (p : PN), cutL (d + 1) p = (cutL d p).flatMap quad
  | 0, p => by simp [cutL, quad]
  | d + 1, p => by
    rw [show cutL (d + 1 + 1) p = cutL (d + 1) (q1 p) ++ (cutL (d + 1) (q2 p) ++ (cutL (d + 1) (q3 p) ++ cutL (d + 1) (q4 p))) from rfl]
    rw [cutL_quad d (q1 p), cutL_quad d (q2 p), cutL_quad d (q3 p), cutL_quad d (q4 p)]
    simp only [cutL, List.flatMap_append]
theorem cutL_bd : ∀ (d : Nat) {m : Int} {p x : PN}, bdP m p → m * 2 ^ d ≤ 100000 → 0 ≤ m → x ∈ cutL d p → bdP (m * 2 ^ d) x
  | 0, m, p, x, h, _, _, hx => by simp [cutL] at hx; subst hx; simpa using h
  | d + 1, m, p, x, h, hm, h0, hx => by
    rw [cutL_quad, List.mem_flatMap] at hx
    obtain ⟨y, hy, hx⟩ := hx
    have hp : (0 : Int) < 2 ^ d := Int.pow_pos (by omega)
    have hle : m * 2 ^ d ≤ m * 2 ^ (d + 1) := Int.mul_le_mul_of_nonneg_left (by rw [Int.pow_succ]; omega) h0
    have := quad_bd (cutL_bd d h (by omega) h0 hy) (by omega) hx
    rw [Int.pow_succ, ← Int.mul_assoc, Int.mul_comm]; exact this
theorem flatMap_eq {α β : Type} {f g : α → List β} : ∀ {l : List α}, (∀ x ∈ l, f x = g x) → l.flatMap f = l.flatMap g
  | [], _ => rfl
  | x :: l, h => by rw [List.flatMap_cons, List.flatMap_cons, h x (by simp), flatMap_eq (fun y hy => h y (by simp [hy]))]
end Go.Proofs.Ytopbnnmkdildgaa
