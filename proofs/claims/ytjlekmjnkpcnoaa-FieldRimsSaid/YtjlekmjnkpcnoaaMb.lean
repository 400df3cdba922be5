/-
  A part of the proofs of the Field laws: what functions of the program compute, and that it is what the statements ask. No premise.
-/
import Derived.Test.YtjlekmjnkpcnoaaMa
namespace Go.Proofs.Ytjlekmjnkpcnoaa
open Go.Proofs Go.Aw Go.RowKit
set_option maxRecDepth 100000
set_option linter.unusedVariables false
set_option linter.unusedSimpArgs false

/-! ### The reference's list of parts -/
def quadR (x : PN) : List PN :=
  [(F67 x.1 2, F107 (F67 x.1 2) (F67 x.2.1 2), F107 (F67 x.2.2 2) (F67 x.1 2)),
   (F107 (F67 x.1 2) (F67 x.2.1 2), F67 x.2.1 2, F107 (F67 x.2.1 2) (F67 x.2.2 2)),
   (F107 (F67 x.2.2 2) (F67 x.1 2), F107 (F67 x.2.1 2) (F67 x.2.2 2), F67 x.2.2 2),
   (F107 (F67 x.1 2) (F67 x.2.1 2), F107 (F67 x.2.1 2) (F67 x.2.2 2), F107 (F67 x.2.2 2) (F67 x.1 2))]
def refL : Nat → List PN → List PN
  | 0, l => l
  | n + 1, l => refL n (l.flatMap quadR)
theorem refL_length : ∀ (n : Nat) (l : List PN), (refL n l).length = 4 ^ n * l.length
  | 0, l => by simp [refL]
  | n + 1, l => by
    have : (l.flatMap quadR).length = 4 * l.length := by
      induction l with
      | nil => rfl
      | cons x l ih => rw [List.flatMap_cons, List.length_append, ih]; simp only [quadR, List.length_cons, List.length_nil]; omega
    rw [refL, refL_length n, this, Nat.pow_succ]
    rw [← Nat.mul_assoc, Nat.mul_comm (4 ^ n) 4, Nat.mul_comm 4 (4 ^ n)]
theorem cut_in (a0 : PN) (a1 : Int) (l : List PN) : ∀ (f i : Nat) (nx : List PN) (d : Int), l.length - i < f → i ≤ l.length →
    loopF (S50_1 a0 a1) f (l, nx, d, (i : Int)) = .inl (nx ++ (l.drop i).flatMap quadR, d + 1) := by
  intro f
  induction f with
  | zero => intro i nx d h; omega
  | succ f ih =>
    intro i nx d h hi
    by_cases hlt : i < l.length
    · have hs : S50_1 a0 a1 (l, nx, d, (i : Int)) = .inl (l, nx ++ quadR (l.getD i default), d, ((i + 1 : Nat) : Int)) := by
        have : decide ((i : Int) < (l.length : Int)) = true := by simpa using hlt
        simp only [S50_1, this, cond_true, Int.toNat_natCast, quadR]
        rfl
      rw [loopF_inl hs, ih _ _ _ (by omega) (by omega)]
      have hd : l.drop i = l.getD i default :: l.drop (i + 1) := by
        rw [List.drop_eq_getElem_cons hlt]; simp [List.getD_eq_getElem?_getD, hlt]
      rw [hd, List.flatMap_cons, List.append_assoc]
    · have : decide ((i : Int) < (l.length : Int)) = false := by simpa using hlt
      have hs : S50_1 a0 a1 (l, nx, d, (i : Int)) = .inr (.inl (nx, d + 1)) := by
        simp only [S50_1, this, cond_false]
      rw [loopF_inr hs, List.drop_of_length_le (by omega)]; simp
theorem cut_out (a0 : PN) (a1 : Int) : ∀ (f n : Nat) (l : List PN), n < f → loopF (S50_0 a0 a1) f (l, a1 - n) = refL n l := by
  intro f
  induction f with
  | zero => intro n l h; omega
  | succ f ih =>
    intro n l h
    cases n with
    | zero =>
      have hs : S50_0 a0 a1 (l, a1 - (0 : Nat)) = .inr l := by
        have : decide (a1 - ((0 : Nat) : Int) < a1) = false := by simp
        simp only [S50_0, this, cond_false]
      rw [loopF_inr hs]; rfl
    | succ n =>
      have hs : S50_0 a0 a1 (l, a1 - ((n + 1 : Nat) : Int)) = .inl (l.flatMap quadR, a1 - (n : Nat)) := by
        have : decide (a1 - ((n + 1 : Nat) : Int) < a1) = true := by simp; omega
        simp only [S50_0, this, cond_true]
        have := cut_in a0 a1 l (Int.toNat (((l.length : Nat) : Int) - 0) + 1) 0 [] (a1 - ((n + 1 : Nat) : Int)) (by omega) (by omega)
        simp only [List.drop_zero, List.nil_append] at this
        rw [show ((0 : Nat) : Int) = 0 from rfl] at this
        rw [this, show a1 - ((n + 1 : Nat) : Int) + 1 = a1 - (n : Nat) by omega]
      rw [loopF_inl hs, ih _ _ (by omega)]; rfl
theorem cut_refL (p : PN) {d : Int} (h : 0 ≤ d) : F50 p d = refL d.toNat [p] := by
  unfold F50
  have := cut_out p d (Int.toNat (d - 0) + 1) d.toNat [p] (by omega)
  rw [show d - (d.toNat : Int) = 0 by omega] at this
  exact this
theorem cut_len (p : PN) {d : Int} (h : 0 ≤ d) : (F50 p d).length = 4 ^ d.toNat := by
  rw [cut_refL p h, refL_length]; simp
theorem cut_ne {p : PN} {d : Int} (h : 0 ≤ d) : ((((F50 p d).length : Nat)) : Int) ≠ 0 := by
  rw [cut_len p h]
  have : 0 < 4 ^ d.toNat := Nat.pow_pos (by omega)
  omega
theorem cut_le {p : PN} {d : Int} (h : 0 ≤ d ∧ d ≤ 3) : (F50 p d).length ≤ 64 := by
  rw [cut_len p h.1]
  have : d.toNat ≤ 3 := by omega
  calc 4 ^ d.toNat ≤ 4 ^ 3 := Nat.pow_le_pow_right (by omega) this
    _ = 64 := rfl

/-! ### It is the program's -/
def quad (x : PN) : List PN := [q1 x, q2 x, q3 x, q4 x]
theorem times_f {p : P3} (h : bd 100000 p) : F64 p 2 = (2 * p.1, 2 * p.2.1, 2 * p.2.2) := by
  unfold bd at h; simp only [F64]; rw [W_eq (by omega) (by omega), W_eq (by omega) (by omega), W_eq (by omega) (by omega)]
theorem times_r {p : P3} (h : bd 100000 p) : F67 p 2 = (2 * p.1, 2 * p.2.1, 2 * p.2.2) := by
  unfold bd at h; simp only [F67]; rw [W_eq (by omega) (by omega), W_eq (by omega) (by omega), W_eq (by omega) (by omega)]
theorem mid_f {p q : P3} (hp : bd 100000 p) (hq : bd 100000 q) : F104 p q = (p.1 + q.1, p.2.1 + q.2.1, p.2.2 + q.2.2) := by
  unfold bd at hp hq; simp only [F104]; rw [W_eq (by omega) (by omega), W_eq (by omega) (by omega), W_eq (by omega) (by omega)]
theorem mid_r {p q : P3} (hp : bd 100000 p) (hq : bd 100000 q) : F107 (F67 p 2) (F67 q 2) = (p.1 + q.1, p.2.1 + q.2.1, p.2.2 + q.2.2) := by
  rw [times_r hp, times_r hq]
  have key : ∀ a b : Int, (-100000 ≤ a ∧ a ≤ 100000) → (-100000 ≤ b ∧ b ≤ 100000) → W (Int.tdiv (W (2 * a + 2 * b)) 2) = a + b := fun a b h1 h2 => by
    rw [W_eq (n := 2 * a + 2 * b) (by omega) (by omega), ← Int.mul_add, Int.mul_tdiv_cancel_left _ (by omega), W_eq (by omega) (by omega)]
  simp only [F107]
  rw [key _ _ hp.1 hq.1, key _ _ hp.2.1 hq.2.1, key _ _ hp.2.2 hq.2.2]
theorem quad_eq {x : PN} (h : bdP 100000 x) : quadR x = quad x := by
  unfold quadR quad q1 q2 q3 q4
  rw [mid_r h.1 h.2.1, mid_r h.2.2 h.1, mid_r h.2.1 h.2.2, mid_f h.1 h.2.1, mid_f h.2.2 h.1, mid_f h.2.1 h.2.2, times_r h.1, times_r h.2.1, times_r h.2.2, times_f h.1, times_f h.2.1, times_f h.2.2]
theorem quad_bd {m : Int} {x y : PN} (h : bdP m x) (hm : m ≤ 100000) (hy : y ∈ quad x) : bdP (2 * m) y := by
  have h1 := h.1.mono hm; have h2 := h.2.1.mono hm; have h3 := h.2.2.mono hm
  unfold quad q1 q2 q3 q4 at hy
  rw [mid_f h1 h2, mid_f h3 h1, mid_f h2 h3, times_f h1, times_f h2, times_f h3] at hy
  have ha := h.1; have hb := h.2.1; have hc := h.2.2
  unfold bd at ha hb hc
  simp only [List.mem_cons, List.mem_nil_iff, or_false] at hy
  unfold bdP bd
  rcases hy with rfl | rfl | rfl | rfl <;> simp only <;> omega
theorem cutL_quad : ∀ (d : Nat) (p : PN), cutL (d + 1) p = (cutL d p).flatMap quad
  | 0, p => by simp [cutL, quad]
  | d + 1, p => by
    rw [show cutL (d + 1 + 1) p = cutL (d + 1) (q1 p) ++ (cutL (d + 1) (q2 p) ++ (cutL (d + 1) (q3 p) ++ cutL (d + 1) (q4 p))) from rfl]
    rw [cutL_quad d (q1 p), cutL_quad d (q2 p), cutL_quad d (q3 p), cutL_quad d (q4 p)]
    simp only [cutL, List.flatMap_append]
theorem cutL_bd : ∀ (d : Nat) {m : Int} {p x : PN}, bdP m p → m * 2 ^ d ≤ 100000 → 0 ≤ m → x ∈ cutL d p → bdP (m * 2 ^ d) x
  | 0, m, p, x, h, _, _, hx => by simp [cutL] at hx; subst hx; simpa using h
  | d + 1, m, p, x, h, hm, h0, hx => by
    rw [cutL_quad, List.mem_flatMap] at hx
    obtain ⟨y, hy, hx⟩ := hx
    have hp : (0 : Int) < 2 ^ d := Int.pow_pos (by omega)
    have hle : m * 2 ^ d ≤ m * 2 ^ (d + 1) := Int.mul_le_mul_of_nonneg_left (by rw [Int.pow_succ]; omega) h0
    have := quad_bd (cutL_bd d h (by omega) h0 hy) (by omega) hx
    rw [Int.pow_succ, ← Int.mul_assoc, Int.mul_comm]; exact this
theorem flatMap_eq {α β : Type} {f g : α → List β} : ∀ {l : List α}, (∀ x ∈ l, f x = g x) → l.flatMap f = l.flatMap g
  | [], _ => rfl
  | x :: l, h => by rw [List.flatMap_cons, List.flatMap_cons, h x (by simp), flatMap_eq (fun y hy => h y (by simp [hy]))]
theorem refL_snoc : ∀ (n : Nat) (l : List PN), refL (n + 1) l = (refL n l).flatMap quadR
  | 0, l => rfl
  | n + 1, l => by rw [refL, refL_snoc n]; rfl
theorem cut_eq {p : PN} (hp : bdP 64 p) : ∀ d : Nat, d ≤ 9 → refL d [p] = cutL d p
  | 0, _ => rfl
  | d + 1, h => by
    rw [refL_snoc, cut_eq hp d (by omega), cutL_quad]
    have hle : (64 : Int) * 2 ^ d ≤ 100000 := by
      have h1 : (2 : Nat) ^ d ≤ 2 ^ 9 := Nat.pow_le_pow_right (by omega) (by omega)
      have h2 : (2 : Int) ^ d = ((2 ^ d : Nat) : Int) := by simp
      omega
    exact flatMap_eq (fun x hx => quad_eq ((cutL_bd d hp hle (by omega) hx).mono hle))
theorem cutR {p : PN} (hp : bdP 64 p) {d : Int} (h : 0 ≤ d ∧ d ≤ 3) : F50 p d = cutL d.toNat p := by
  rw [cut_refL p h.1, cut_eq hp _ (by omega)]

end Go.Proofs.Ytjlekmjnkpcnoaa
