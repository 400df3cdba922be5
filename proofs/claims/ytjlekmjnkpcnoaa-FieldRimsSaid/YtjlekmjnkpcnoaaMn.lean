/-
  A part of the proofs of the Field laws: what functions of the program compute, and that it is what the statements ask. No premise.
-/
import Derived.Test.YtjlekmjnkpcnoaaMm
namespace Go.Proofs.Ytjlekmjnkpcnoaa
open Go.Proofs Go.Aw Go.RowKit
set_option maxRecDepth 100000
set_option linter.unusedVariables false
set_option linter.unusedSimpArgs false

/-! ### Every way to the mean meets -/
theorem ds_comm (p q : P3) : ds p q = ds q p := by unfold ds dt sb; grind
theorem fa3_comm (a b : PN) : fa3 a b = fa3 b a := by
  unfold fa3
  rw [mx_comm9, ds_comm b.1 a.1, ds_comm b.1 a.2.1, ds_comm b.1 a.2.2, ds_comm b.2.1 a.1, ds_comm b.2.1 a.2.1, ds_comm b.2.1 a.2.2, ds_comm b.2.2 a.1, ds_comm b.2.2 a.2.1, ds_comm b.2.2 a.2.2]
theorem ne3_comm (a b : PN) : ne3 a b = ne3 b a := by
  unfold ne3 nr
  rw [gp_comm (blo a).1, gp_comm (blo a).2.1, gp_comm (blo a).2.2]
/-- X lies in the triangle of w times the corners of q -/
def hull (w : Int) (q : PN) (X : P3) : Prop := ∃ i j k : Int, 0 ≤ i ∧ 0 ≤ j ∧ 0 ≤ k ∧ i + j + k = w ∧ X.1 = i * q.1.1 + j * q.2.1.1 + k * q.2.2.1 ∧ X.2.1 = i * q.1.2.1 + j * q.2.1.2.1 + k * q.2.2.2.1 ∧ X.2.2 = i * q.1.2.2 + j * q.2.1.2.2 + k * q.2.2.2.2
theorem hull_ad {w v : Int} {q : PN} {X Y : P3} (h : hull w q X) (h' : hull v q Y) : hull (w + v) q (ad X Y) := by
  obtain ⟨i, j, k, a1, a2, a3, a4, a5, a6, a7⟩ := h
  obtain ⟨i', j', k', b1, b2, b3, b4, b5, b6, b7⟩ := h'
  refine ⟨i + i', j + j', k + k', by omega, by omega, by omega, by omega, ?_, ?_, ?_⟩
  · simp only [ad]; rw [a5, b5]; grind
  · simp only [ad]; rw [a6, b6]; grind
  · simp only [ad]; rw [a7, b7]; grind
theorem hull_cut : ∀ (d : Nat) {m : Int} {q b : PN}, bdP m q → m * 2 ^ d ≤ 100000 → 0 ≤ m → b ∈ cutL d q → hull (2 ^ d) q b.1 ∧ hull (2 ^ d) q b.2.1 ∧ hull (2 ^ d) q b.2.2
  | 0, m, q, b, h, _, _, hx => by
    simp only [cutL, List.mem_singleton] at hx
    subst hx
    exact ⟨⟨1, 0, 0, by simp, by simp, by simp, by simp, by simp, by simp, by simp⟩, ⟨0, 1, 0, by simp, by simp, by simp, by simp, by simp, by simp, by simp⟩, ⟨0, 0, 1, by simp, by simp, by simp, by simp, by simp, by simp, by simp⟩⟩
  | d + 1, m, q, b, h, hm, h0, hx => by
    rw [cutL_quad, List.mem_flatMap] at hx
    obtain ⟨y, hy, hx⟩ := hx
    have hp : (0 : Int) < 2 ^ d := Int.pow_pos (by omega)
    have hle : m * 2 ^ d ≤ m * 2 ^ (d + 1) := Int.mul_le_mul_of_nonneg_left (by rw [Int.pow_succ]; omega) h0
    have hb := cutL_bd d h (by omega) h0 hy
    obtain ⟨i1, i2, i3⟩ := hull_cut d h (by omega) h0 hy
    obtain ⟨a1, b1, a2, b2, a3, b3, h1, k1, h2, k2, h3, k3, rfl⟩ := quad_ad (hb.mono (by omega)) hx
    have key : ∀ a : P3, (a = y.1 ∨ a = y.2.1 ∨ a = y.2.2) → hull (2 ^ d) q a := fun a ha => by rcases ha with rfl | rfl | rfl <;> assumption
    have e : (2 : Int) ^ (d + 1) = 2 ^ d + 2 ^ d := by rw [Int.pow_succ]; omega
    rw [e]
    exact ⟨hull_ad (key _ h1) (key _ k1), hull_ad (key _ h2) (key _ k2), hull_ad (key _ h3) (key _ k3)⟩
theorem hull_in {q b : PN} {d : Int} (hq : bdP 64 q) (hd : 0 ≤ d ∧ d ≤ 3) (hb : b ∈ cutL d.toNat q) : hull (sc d) q b.1 ∧ hull (sc d) q b.2.1 ∧ hull (sc d) q b.2.2 := by
  rcases d4 hd with rfl | rfl | rfl | rfl <;> exact hull_cut (m := 64) _ hq (by decide) (by decide) hb
theorem cau (i j k u v t : Int) (hi : 0 ≤ i) (hj : 0 ≤ j) (hk : 0 ≤ k) : (i * u + j * v + k * t) * (i * u + j * v + k * t) ≤ (i + j + k) * (i * (u * u) + j * (v * v) + k * (t * t)) := by
  have h1 := Int.mul_nonneg (Int.mul_nonneg hi hj) (sq_nn (u - v))
  have h2 := Int.mul_nonneg (Int.mul_nonneg hi hk) (sq_nn (u - t))
  have h3 := Int.mul_nonneg (Int.mul_nonneg hj hk) (sq_nn (v - t))
  have e : (i + j + k) * (i * (u * u) + j * (v * v) + k * (t * t)) - (i * u + j * v + k * t) * (i * u + j * v + k * t) = i * j * ((u - v) * (u - v)) + i * k * ((u - t) * (u - t)) + j * k * ((v - t) * (v - t)) := by grind
  omega
theorem hull_ds {w M : Int} {q : PN} {X Z : P3} (hw : 1 ≤ w) (h : hull w q X) (h1 : ds (tm w q.1) Z ≤ M) (h2 : ds (tm w q.2.1) Z ≤ M) (h3 : ds (tm w q.2.2) Z ≤ M) : ds X Z ≤ M := by
  obtain ⟨i, j, k, a1, a2, a3, a4, a5, a6, a7⟩ := h
  have c1 := cau i j k (w * q.1.1 - Z.1) (w * q.2.1.1 - Z.1) (w * q.2.2.1 - Z.1) a1 a2 a3
  have c2 := cau i j k (w * q.1.2.1 - Z.2.1) (w * q.2.1.2.1 - Z.2.1) (w * q.2.2.2.1 - Z.2.1) a1 a2 a3
  have c3 := cau i j k (w * q.1.2.2 - Z.2.2) (w * q.2.1.2.2 - Z.2.2) (w * q.2.2.2.2 - Z.2.2) a1 a2 a3
  rw [a4] at c1 c2 c3
  have f1 : i * (w * q.1.1 - Z.1) + j * (w * q.2.1.1 - Z.1) + k * (w * q.2.2.1 - Z.1) = w * (X.1 - Z.1) := by rw [a5]; subst a4; grind
  have f2 : i * (w * q.1.2.1 - Z.2.1) + j * (w * q.2.1.2.1 - Z.2.1) + k * (w * q.2.2.2.1 - Z.2.1) = w * (X.2.1 - Z.2.1) := by rw [a6]; subst a4; grind
  have f3 : i * (w * q.1.2.2 - Z.2.2) + j * (w * q.2.1.2.2 - Z.2.2) + k * (w * q.2.2.2.2 - Z.2.2) = w * (X.2.2 - Z.2.2) := by rw [a7]; subst a4; grind
  rw [f1] at c1; rw [f2] at c2; rw [f3] at c3
  have g1 := Int.mul_le_mul_of_nonneg_left h1 a1; have g2 := Int.mul_le_mul_of_nonneg_left h2 a2; have g3 := Int.mul_le_mul_of_nonneg_left h3 a3
  have e : w * w * ds X Z ≤ w * w * M := by
    have e1 : w * w * ds X Z = w * (X.1 - Z.1) * (w * (X.1 - Z.1)) + w * (X.2.1 - Z.2.1) * (w * (X.2.1 - Z.2.1)) + w * (X.2.2 - Z.2.2) * (w * (X.2.2 - Z.2.2)) := by unfold ds dt sb; grind
    have e2 : w * (i * ds (tm w q.1) Z + j * ds (tm w q.2.1) Z + k * ds (tm w q.2.2) Z) = w * (i * ((w * q.1.1 - Z.1) * (w * q.1.1 - Z.1)) + j * ((w * q.2.1.1 - Z.1) * (w * q.2.1.1 - Z.1)) + k * ((w * q.2.2.1 - Z.1) * (w * q.2.2.1 - Z.1))) + w * (i * ((w * q.1.2.1 - Z.2.1) * (w * q.1.2.1 - Z.2.1)) + j * ((w * q.2.1.2.1 - Z.2.1) * (w * q.2.1.2.1 - Z.2.1)) + k * ((w * q.2.2.2.1 - Z.2.1) * (w * q.2.2.2.1 - Z.2.1))) + w * (i * ((w * q.1.2.2 - Z.2.2) * (w * q.1.2.2 - Z.2.2)) + j * ((w * q.2.1.2.2 - Z.2.2) * (w * q.2.1.2.2 - Z.2.2)) + k * ((w * q.2.2.2.2 - Z.2.2) * (w * q.2.2.2.2 - Z.2.2))) := by unfold ds dt sb tm; grind
    have e3 : w * (i * ds (tm w q.1) Z + j * ds (tm w q.2.1) Z + k * ds (tm w q.2.2) Z) ≤ w * (i * M + j * M + k * M) := Int.mul_le_mul_of_nonneg_left (by omega) (by omega)
    have e4 : w * (i * M + j * M + k * M) = w * w * M := by
      rw [show i * M + j * M + k * M = (i + j + k) * M by grind, a4]; grind
    omega
  exact Int.le_of_mul_le_mul_left e (Int.mul_pos (by omega) (by omega))
theorem hull_1 {w M lo : Int} {A B C i j k : Int} (hi : 0 ≤ i) (hj : 0 ≤ j) (hk : 0 ≤ k) (hw : i + j + k = w) (hw1 : 1 ≤ w) (h1 : w * A ≤ M ∧ lo ≤ w * A) (h2 : w * B ≤ M ∧ lo ≤ w * B) (h3 : w * C ≤ M ∧ lo ≤ w * C) : lo ≤ i * A + j * B + k * C ∧ i * A + j * B + k * C ≤ M := by
  have e : w * (i * A + j * B + k * C) = i * (w * A) + j * (w * B) + k * (w * C) := by grind
  have l1 := Int.mul_le_mul_of_nonneg_left h1.1 hi; have l2 := Int.mul_le_mul_of_nonneg_left h2.1 hj; have l3 := Int.mul_le_mul_of_nonneg_left h3.1 hk
  have m1 := Int.mul_le_mul_of_nonneg_left h1.2 hi; have m2 := Int.mul_le_mul_of_nonneg_left h2.2 hj; have m3 := Int.mul_le_mul_of_nonneg_left h3.2 hk
  have e1 : i * M + j * M + k * M = w * M := by rw [← hw]; grind
  have e2 : i * lo + j * lo + k * lo = w * lo := by rw [← hw]; grind
  exact ⟨Int.le_of_mul_le_mul_left (a := w) (by omega) (by omega), Int.le_of_mul_le_mul_left (a := w) (by omega) (by omega)⟩
theorem hull_box {w : Int} {q : PN} {X : P3} (hw : 1 ≤ w) (h : hull w q X) : ((blo (tmP w q)).1 ≤ X.1 ∧ X.1 ≤ (bhi (tmP w q)).1) ∧ ((blo (tmP w q)).2.1 ≤ X.2.1 ∧ X.2.1 ≤ (bhi (tmP w q)).2.1) ∧ ((blo (tmP w q)).2.2 ≤ X.2.2 ∧ X.2.2 ≤ (bhi (tmP w q)).2.2) := by
  obtain ⟨i, j, k, a1, a2, a3, a4, a5, a6, a7⟩ := h
  have i1 := in3 (c := tmP w q) (a := tm w q.1) (Or.inl rfl); have i2 := in3 (c := tmP w q) (a := tm w q.2.1) (Or.inr (Or.inl rfl)); have i3 := in3 (c := tmP w q) (a := tm w q.2.2) (Or.inr (Or.inr rfl))
  simp only [tm] at i1 i2 i3
  rw [a5, a6, a7]
  exact ⟨hull_1 a1 a2 a3 a4 hw ⟨i1.2.1, i1.1⟩ ⟨i2.2.1, i2.1⟩ ⟨i3.2.1, i3.1⟩, hull_1 a1 a2 a3 a4 hw ⟨i1.2.2.2.1, i1.2.2.1⟩ ⟨i2.2.2.2.1, i2.2.2.1⟩ ⟨i3.2.2.2.1, i3.2.2.1⟩, hull_1 a1 a2 a3 a4 hw ⟨i1.2.2.2.2.2, i1.2.2.2.2.1⟩ ⟨i2.2.2.2.2.2, i2.2.2.2.2.1⟩ ⟨i3.2.2.2.2.2, i3.2.2.2.2.1⟩⟩
theorem fa3_all (c q : PN) {a b : P3} (ha : a = c.1 ∨ a = c.2.1 ∨ a = c.2.2) (hb : b = q.1 ∨ b = q.2.1 ∨ b = q.2.2) : ds a b ≤ fa3 c q := by
  unfold fa3
  have t1 := fun m (h : ds a b ≤ m) (n : Int) => Int.le_trans h (le_mx1 m n)
  rcases ha with rfl | rfl | rfl <;> rcases hb with rfl | rfl | rfl <;> first | exact le_mx2 _ _ | (refine Int.le_trans ?_ (le_mx1 _ _); first | exact le_mx2 _ _ | (refine Int.le_trans ?_ (le_mx1 _ _); first | exact le_mx2 _ _ | (refine Int.le_trans ?_ (le_mx1 _ _); first | exact le_mx2 _ _ | (refine Int.le_trans ?_ (le_mx1 _ _); first | exact le_mx2 _ _ | (refine Int.le_trans ?_ (le_mx1 _ _); first | exact le_mx2 _ _ | (refine Int.le_trans ?_ (le_mx1 _ _); first | exact le_mx2 _ _ | (refine Int.le_trans ?_ (le_mx1 _ _); first | exact le_mx2 _ _ | (refine Int.le_trans ?_ (le_mx1 _ _); exact le_mx2 _ _))))))))
section
variable {q a b : PN} {d : Int}
theorem fa3_part (hq : bdP 64 q) (hd : 0 ≤ d ∧ d ≤ 3) (hb : b ∈ cutL d.toNat q) : fa3 a b ≤ fa3 a (tmP (sc d) q) := by
  obtain ⟨h1, h2, h3⟩ := hull_in hq hd hb
  have hw := (sc_bd d).1
  have key : ∀ X Z : P3, (Z = a.1 ∨ Z = a.2.1 ∨ Z = a.2.2) → hull (sc d) q X → ds Z X ≤ fa3 a (tmP (sc d) q) := by
    intro X Z hZ hX
    rw [ds_comm]
    refine hull_ds hw hX ?_ ?_ ?_ <;> rw [ds_comm]
    · exact fa3_all a (tmP (sc d) q) hZ (Or.inl rfl)
    · exact fa3_all a (tmP (sc d) q) hZ (Or.inr (Or.inl rfl))
    · exact fa3_all a (tmP (sc d) q) hZ (Or.inr (Or.inr rfl))
  have k0 := (fa3_ge a (tmP (sc d) q)).1
  have k1 := dt_self (sb a.1 (tmP (sc d) q).1)
  have z1 := fun X hX => key X a.1 (Or.inl rfl) hX; have z2 := fun X hX => key X a.2.1 (Or.inr (Or.inl rfl)) hX; have z3 := fun X hX => key X a.2.2 (Or.inr (Or.inr rfl)) hX
  exact mx_le (mx_le (mx_le (mx_le (mx_le (mx_le (mx_le (mx_le (mx_le (Int.le_trans k1 k0) (z1 _ h1)) (z1 _ h2)) (z1 _ h3)) (z2 _ h1)) (z2 _ h2)) (z2 _ h3)) (z3 _ h1)) (z3 _ h2)) (z3 _ h3)
theorem ne3_part (hq : bdP 64 q) (hd : 0 ≤ d ∧ d ≤ 3) (hb : b ∈ cutL d.toNat q) : ne3 a (tmP (sc d) q) ≤ ne3 a b := by
  obtain ⟨h1, h2, h3⟩ := hull_in hq hd hb
  have hw := (sc_bd d).1
  have x1 := hull_box hw h1; have x2 := hull_box hw h2; have x3 := hull_box hw h3
  have key : ∀ u v w m : Int, m ≤ u → m ≤ v → m ≤ w → m ≤ lo3 u v w := fun u v w m e1 e2 e3 => by rcases lo3_in u v w with e | e | e <;> rw [e] <;> assumption
  have key2 : ∀ u v w m : Int, u ≤ m → v ≤ m → w ≤ m → hi3 u v w ≤ m := fun u v w m e1 e2 e3 => by rcases hi3_in u v w with e | e | e <;> rw [e] <;> assumption
  have gm : ∀ e f l h l' h' : Int, l ≤ l' → h' ≤ h → gp e f l h * gp e f l h ≤ gp e f l' h' * gp e f l' h' := by
    intro e f l h l' h' e1 e2
    have : gp e f l h ≤ gp e f l' h' := by unfold gp mx; (repeat' split) <;> omega
    exact Int.mul_le_mul this this (gp_nn _ _ _ _) (gp_nn _ _ _ _)
  have g1 := gm (blo a).1 (bhi a).1 _ _ _ _ (key _ _ _ _ x1.1.1 x2.1.1 x3.1.1) (key2 _ _ _ _ x1.1.2 x2.1.2 x3.1.2)
  have g2 := gm (blo a).2.1 (bhi a).2.1 _ _ _ _ (key _ _ _ _ x1.2.1.1 x2.2.1.1 x3.2.1.1) (key2 _ _ _ _ x1.2.1.2 x2.2.1.2 x3.2.1.2)
  have g3 := gm (blo a).2.2 (bhi a).2.2 _ _ _ _ (key _ _ _ _ x1.2.2.1 x2.2.2.1 x3.2.2.1) (key2 _ _ _ _ x1.2.2.2 x2.2.2.2 x3.2.2.2)
  exact Int.add_le_add (Int.add_le_add g1 g2) g3
end

end Go.Proofs.Ytjlekmjnkpcnoaa
