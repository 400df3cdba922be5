/-
  A part of the proofs of the Field laws: what functions of the program compute, and that it is what the statements ask. No premise.
-/
import Derived.Test.YtjlekmjnkpcnoaaMr
namespace Go.Proofs.Ytjlekmjnkpcnoaa
open Go.Proofs Go.Aw Go.RowKit
set_option maxRecDepth 100000
set_option linter.unusedVariables false
set_option linter.unusedSimpArgs false

/-! ### How many parts are near -/
theorem lagr (u v : P3) : dt (cr u v) (cr u v) ≤ dt u u * dt v v := by
  have h := sq_nn (dt u v)
  have e : dt (cr u v) (cr u v) + dt u v * dt u v = dt u u * dt v v := by
    unfold dt cr; grind
  omega
theorem par4 {a b x : P3} {U : Int} (h1 : ds a x ≤ U) (h2 : ds b x ≤ U) : dt (sb a b) (sb a b) ≤ 4 * U := by
  have k : ∀ s t y : Int, (s - t) * (s - t) ≤ 2 * ((s - y) * (s - y)) + 2 * ((t - y) * (t - y)) := by
    intro s t y
    have := sq_nn (s + t - 2 * y)
    grind
  have k1 := k a.1 b.1 x.1; have k2 := k a.2.1 b.2.1 x.2.1; have k3 := k a.2.2 b.2.2 x.2.2
  unfold ds dt sb at *; simp only at *; omega
theorem iroot {N n : Int} (hN : 0 ≤ N ∧ N ≤ 288230376151711744) (hn : 1 ≤ n) : ∃ k : Int, 0 ≤ k ∧ k * k * n ≤ N ∧ ∀ t : Int, 0 ≤ t → t * t * n ≤ N → t ≤ k := by
  obtain ⟨k, _, hr, k0, _, _, _, _, k5⟩ := inv_facts hN hn
  exact ⟨k, k0, k5, fun t ht h => hr.ge ht (Int.le_ediv_of_mul_le (by omega) h)⟩
section
variable {p : PN} {w U : Int} {x : P3}
theorem pt_row (i i' j : Int) : dt (sb (pt p w i j) (pt p w i' j)) (sb (pt p w i j) (pt p w i' j)) = (i - i') * (i - i') * dt (sb p.2.1 p.1) (sb p.2.1 p.1) := by
  unfold dt sb pt; grind
theorem pt_cr (i j i' j' : Int) : cr (sb (pt p w i j) (pt p w i' j')) (sb p.2.1 p.1) = (-((j - j') * (nrm p).1), -((j - j') * (nrm p).2.1), -((j - j') * (nrm p).2.2)) := by
  unfold nrm cr sb pt; simp only [Prod.mk.injEq]; refine ⟨?_, ?_, ?_⟩ <;> grind
theorem dt_neg (t : Int) (n : P3) : dt (-(t * n.1), -(t * n.2.1), -(t * n.2.2)) (-(t * n.1), -(t * n.2.1), -(t * n.2.2)) = t * t * dt n n := by
  unfold dt; grind
noncomputable def near (p : PN) (w : Int) (x : P3) (U : Int) (c : Cd) : Bool := decide (fa (tri p w c) x ≤ U)
theorem near_c {c : Cd} (h : near p w x U c = true) : ds (tri p w c).1 x ≤ U ∧ ds (tri p w c).2.1 x ≤ U ∧ ds (tri p w c).2.2 x ≤ U := by
  have h := of_decide_eq_true h
  exact ⟨Int.le_trans (fa_ge _ x _ (Or.inl rfl)) h, Int.le_trans (fa_ge _ x _ (Or.inr (Or.inl rfl))) h, Int.le_trans (fa_ge _ x _ (Or.inr (Or.inr rfl))) h⟩
theorem count_bd (hp : bdP 64 p) {r : Int} (hr : IsRt (dt (nrm p) (nrm p)) r) (h1 : 1 ≤ dt (nrm p) (nrm p)) (hU : 0 ≤ U ∧ U ≤ 300000000) {d : Nat} (hd : d ≤ 3) :
    ((((KL d (0, 0, false)).map (one (near p w x U))).sum + 1) / 2) * r ≤ 4 * U := by
  have hu := bd_sb hp.2.1 hp.1
  have hub := (dt_bd hu hu).2
  have hu0 : 1 ≤ dt (sb p.2.1 p.1) (sb p.2.1 p.1) := by
    have h0 := dt_self (sb p.2.1 p.1)
    have hl := lagr (sb p.2.1 p.1) (sb p.2.2 p.1)
    rcases Int.lt_or_le (dt (sb p.2.1 p.1) (sb p.2.1 p.1)) 1 with h | h
    · have e : dt (sb p.2.1 p.1) (sb p.2.1 p.1) = 0 := by omega
      rw [e, Int.zero_mul] at hl
      have : dt (nrm p) (nrm p) = dt (cr (sb p.2.1 p.1) (sb p.2.2 p.1)) (cr (sb p.2.1 p.1) (sb p.2.2 p.1)) := rfl
      omega
    · exact h
  generalize hw2 : dt (sb p.2.1 p.1) (sb p.2.1 p.1) = q at *
  have hq := mul_bd (a := 1200000000) (b := 49152) (x := 4 * U) (y := q) (by omega) (by omega)
  have hq0 : 0 ≤ 4 * U * q := Int.mul_nonneg (by omega) (by omega)
  obtain ⟨M, M0, M1, M2⟩ := iroot (N := 4 * U) (n := q) (by omega) hu0
  obtain ⟨S, S0, S1, S2⟩ := iroot (N := 4 * U * q) (n := dt (nrm p) (nrm p)) (by omega) h1
  have hc : ct (near p w x U) 8 ≤ 2 * M * S := by
    refine ct_le M0 S0 (fun i i' j o hi t1 t2 => ?_) (fun i i' j j' o o' hj t1 t2 => ?_)
    · refine M2 _ (by omega) ?_
      have c1 := near_c t1; have c2 := near_c t2
      cases o
      · have := par4 (a := pt p w (i' + 1) j) (b := pt p w i j) c2.2.1 c1.1
        rw [pt_row, hw2] at this; exact this
      · have := par4 (a := pt p w (i' + 1) (j + 1)) (b := pt p w i (j + 1)) c2.2.1 c1.2.2
        rw [pt_row, hw2] at this; exact this
    · refine S2 _ (by omega) ?_
      have c1 := near_c t1; have c2 := near_c t2
      have k2 : ds (pt p w i' (j' + 1)) x ≤ U := by cases o' <;> exact c2.2.2
      have k1 : ∃ a, ds (pt p w a j) x ≤ U := by
        cases o
        · exact ⟨i, c1.1⟩
        · exact ⟨i + 1, c1.1⟩
      obtain ⟨a, k1⟩ := k1
      have h4 := par4 k2 k1
      have h5 := lagr (sb (pt p w i' (j' + 1)) (pt p w a j)) (sb p.2.1 p.1)
      rw [pt_cr, dt_neg, hw2] at h5
      exact Int.le_trans h5 (Int.mul_le_mul_of_nonneg_right h4 (by omega))
  have hk := KL_le (near p w x U) hd
  have hk0 := one_nn (near p w x U) (KL d (0, 0, false))
  generalize ((KL d (0, 0, false)).map (one (near p w x U))).sum = k at *
  have e1 : 2 * M * S = 2 * (M * S) := by rw [Int.mul_assoc]
  have hms : 0 ≤ M * S := Int.mul_nonneg M0 S0
  have h3 : (k + 1) / 2 ≤ M * S := by omega
  refine Int.le_trans (Int.mul_le_mul_of_nonneg_right h3 hr.1) ?_
  have e2 : (M * S * r) * (M * S * r) * q ≤ (4 * U) * (4 * U) * q := by
    have f1 : (M * S * r) * (M * S * r) * q = (M * M * q) * (S * S * (r * r)) := by grind
    have f2 : (4 * U) * (4 * U) * q = (4 * U) * (4 * U * q) := by grind
    rw [f1, f2]
    have f3 : S * S * (r * r) ≤ S * S * dt (nrm p) (nrm p) := Int.mul_le_mul_of_nonneg_left hr.2.1 (Int.mul_nonneg S0 S0)
    exact Int.mul_le_mul M1 (Int.le_trans f3 S1) (Int.mul_nonneg (Int.mul_nonneg S0 S0) (Int.mul_nonneg hr.1 hr.1)) (by omega)
  have e3 := Int.le_of_mul_le_mul_right e2 (by omega)
  rcases Int.lt_or_le (4 * U) (M * S * r) with h | h
  · have := Int.mul_le_mul (show 4 * U + 1 ≤ M * S * r by omega) (show 4 * U + 1 ≤ M * S * r by omega) (by omega) (by omega)
    have e : (4 * U + 1) * (4 * U + 1) = (4 * U) * (4 * U) + 8 * U + 1 := by grind
    omega
  · exact h
end
/-! ### The sum of lower bounds -/
def cnU (l : List Int) (U : Int) : Int := (l.map fun u => if u ≤ U then (1 : Int) else 0).sum
def A32 : List Int := [398942, 282095, 230330, 199471, 178413, 162868, 150786, 141048, 132981, 126157, 120286, 115165, 110647, 106622, 103007, 99736, 96758, 94032, 91524, 89207, 87057, 85055, 83186, 81434, 79789, 78239, 76777, 75393, 74082, 72837, 71653, 70524]
def al (k : Nat) : Int := A32.getD ((k + 1) / 2 - 1) 0
def sumA : Nat → Int
  | 0 => 0
  | k + 1 => sumA k + al (k + 1)
theorem al_ok : ∀ k : Nat, k < 64 → 0 ≤ al (k + 1) ∧ 512000000000000 ≤ al (k + 1) * al (k + 1) * (((k + 2) / 2 : Nat) : Int) * 3217 := by decide +kernel
theorem max_in : ∀ (l : List Int), l ≠ [] → ∃ u ∈ l, ∀ y ∈ l, y ≤ u
  | [u], _ => ⟨u, by simp, fun y hy => by simp at hy; omega⟩
  | u :: v :: l, _ => by
    obtain ⟨z, hz, h⟩ := max_in (v :: l) (by simp)
    by_cases hc : u ≤ z
    · exact ⟨z, List.mem_cons_of_mem _ hz, fun y hy => by
        rcases List.mem_cons.1 hy with rfl | hy
        · exact hc
        · exact h y hy⟩
    · exact ⟨u, List.mem_cons_self, fun y hy => by
        rcases List.mem_cons.1 hy with rfl | hy
        · exact Int.le_refl _
        · have := h y hy; omega⟩
theorem cnU_all {U : Int} : ∀ {l : List Int}, (∀ y ∈ l, y ≤ U) → cnU l U = (l.length : Nat)
  | [], _ => rfl
  | u :: l, h => by
    have := cnU_all (l := l) (fun y hy => h y (List.mem_cons_of_mem _ hy))
    unfold cnU at *
    simp only [List.map_cons, List.sum_cons, if_pos (h u List.mem_cons_self), this, List.length_cons]; omega
theorem sum_lo {s r R : Int} {f : Int → Int} (hs : 0 ≤ s) (hR : 0 ≤ R) (hr : 1 ≤ r) (hRr : 3217 * 1099511627776 ≤ R * R * (128 * r)) (hf0 : ∀ u, 0 ≤ f u) (hf : ∀ u, 1 ≤ u → f u * f u * u ≤ s * s * 1099511627776) :
    ∀ (k : Nat) (l : List Int), l.length = k → k ≤ 64 → (∀ U ∈ l, (cnU l U + 1) / 2 * r ≤ 4 * U) → 1000000 * (l.map f).sum ≤ sumA k * (s * R)
  | 0, l, h, _, _ => by
    have : l = [] := List.length_eq_zero_iff.1 h
    subst this; simp [sumA]
  | k + 1, l, h, hk, hc => by
    obtain ⟨u, hu, hm⟩ := max_in l (by intro e; rw [e] at h; cases h)
    have hp := List.perm_cons_erase hu
    have hlen : (l.erase u).length = k := by rw [List.length_erase_of_mem hu, h]; rfl
    have hsub : ∀ U, cnU (l.erase u) U ≤ cnU l U := by
      intro U
      have e : cnU l U = (if u ≤ U then 1 else 0) + cnU (l.erase u) U := by
        unfold cnU
        rw [perm_sum (hp.map _)]; rfl
      rw [e]; split <;> omega
    have ih := sum_lo hs hR hr hRr hf0 hf k (l.erase u) hlen (by omega) (fun U hU => by
      have h1 := hc U (List.mem_of_mem_erase hU)
      have h2 := hsub U
      have := Int.mul_le_mul_of_nonneg_right (show (cnU (l.erase u) U + 1) / 2 ≤ (cnU l U + 1) / 2 by omega) (show 0 ≤ r by omega)
      omega)
    have e : (l.map f).sum = f u + ((l.erase u).map f).sum := by rw [perm_sum (hp.map f)]; rfl
    have hcu := hc u hu
    rw [cnU_all hm, h] at hcu
    obtain ⟨a0, a1⟩ := al_ok k (by omega)
    have hm1 : (((k + 1 : Nat) : Int) + 1) / 2 = (((k + 2) / 2 : Nat) : Int) := by omega
    rw [hm1] at hcu
    generalize hmm : (((k + 2) / 2 : Nat) : Int) = m at *
    have m1 : 1 ≤ m := by omega
    have hmr : 1 ≤ m * r := by have := Int.mul_le_mul m1 hr (by omega) (by omega); omega
    have hu1 : 1 ≤ u := by omega
    have hfu := hf u hu1
    have key : 1000000 * f u ≤ al (k + 1) * (s * R) := by
      generalize f u = t at *
      have t0 : 0 ≤ t ∨ t < 0 := by omega
      have ht : 0 ≤ t * t := sq_nn t
      have hR2 : 0 ≤ R * R := sq_nn R
      have hs2 : 0 ≤ s * s := sq_nn s
      -- t^2 m r <= 4 s^2 2^40
      have g1 : t * t * (m * r) ≤ 4 * (s * s * 1099511627776) := by
        have := Int.mul_le_mul_of_nonneg_left hcu ht
        have e1 : t * t * (4 * u) = 4 * (t * t * u) := by grind
        omega
      -- t^2 m 3217 <= 512 s^2 R^2
      have g2 : t * t * m * 3217 ≤ 512 * (s * s) * (R * R) := by
        have h5 := Int.mul_le_mul_of_nonneg_left hRr (show 0 ≤ 4 * (s * s) by omega)
        have e1 : 4 * (s * s) * (3217 * 1099511627776) = 3217 * (4 * (s * s * 1099511627776)) := by grind
        have e2 : 4 * (s * s) * (R * R * (128 * r)) = 512 * (s * s) * (R * R) * r := by grind
        have e3 : t * t * m * 3217 * r = 3217 * (t * t * (m * r)) := by grind
        exact Int.le_of_mul_le_mul_right (a := r) (by omega) (by omega)
      have g3 : (1000000 * t) * (1000000 * t) * (m * 3217) ≤ (al (k + 1) * (s * R)) * (al (k + 1) * (s * R)) * (m * 3217) := by
        have e1 : (1000000 * t) * (1000000 * t) * (m * 3217) = 1000000000000 * (t * t * m * 3217) := by grind
        have e2 : (al (k + 1) * (s * R)) * (al (k + 1) * (s * R)) * (m * 3217) = (al (k + 1) * al (k + 1) * m * 3217) * ((s * s) * (R * R)) := by grind
        have h6 := Int.mul_le_mul_of_nonneg_right a1 (Int.mul_nonneg hs2 hR2)
        have e3 : 512000000000000 * (s * s * (R * R)) = 1000000000000 * (512 * (s * s) * (R * R)) := by grind
        omega
      have g4 := Int.le_of_mul_le_mul_right g3 (by omega)
      have hB : 0 ≤ al (k + 1) * (s * R) := Int.mul_nonneg a0 (Int.mul_nonneg hs hR)
      generalize al (k + 1) * (s * R) = B at *
      rcases Int.lt_or_le B (1000000 * t) with h | h
      · have := Int.mul_le_mul (show B + 1 ≤ 1000000 * t by omega) (show B + 1 ≤ 1000000 * t by omega) (by omega) (by omega)
        have e : (B + 1) * (B + 1) = B * B + 2 * B + 1 := by grind
        omega
      · exact h
    rw [e]
    have e5 : sumA (k + 1) * (s * R) = sumA k * (s * R) + al (k + 1) * (s * R) := by rw [sumA, Int.add_mul]
    omega

end Go.Proofs.Ytjlekmjnkpcnoaa
