/-
  A part of the proofs of the Field laws: what functions of the program compute, and that it is what the statements ask. No premise.
-/
import Derived.Test.YtopbnnmkdildgaaFr
namespace Go.Proofs.Ytopbnnmkdildgaa
open Go.Proofs Go.Aw Go.RowKit
set_option maxRecDepth 100000
set_option linter.unusedVariables false
set_option linter.unusedSimpArgs false

/-! ### Scales -/
def sc (d : Int) : Int := if d = 0 then 1 else if d = 1 then 2 else if d = 2 then 4 else 8
theorem d4 {d : Int} (h : 0 ≤ d ∧ d ≤ 3) : d = 0 ∨ d = 1 ∨ d = 2 ∨ d = 3 := by omega
theorem sc_f {d : Int} (h : 0 ≤ d ∧ d ≤ 3) : W (1 * 2 ^ (min (Int.toNat d) 64)) = sc d := by
  rcases d4 h with rfl | rfl | rfl | rfl <;> kernel_rfl
theorem sc_r {d : Int} (h : 0 ≤ d ∧ d ≤ 3) : W (1 * 2 ^ (min (Int.toNat (IntKind.wrap .u64 d)) 64)) = sc d := by
  rcases d4 h with rfl | rfl | rfl | rfl <;> kernel_rfl
theorem cnt_f {d : Int} (h : 0 ≤ d ∧ d ≤ 3) : W (1 * 2 ^ (min (Int.toNat (W (2 * d))) 64)) = sc d * sc d := by
  rcases d4 h with rfl | rfl | rfl | rfl <;> kernel_rfl
theorem cnt_len {d : Int} (h : 0 ≤ d ∧ d ≤ 3) (p : PN) : (((cutL d.toNat p).length : Nat) : Int) = sc d * sc d := by
  rw [cutL_len]; rcases d4 h with rfl | rfl | rfl | rfl <;> kernel_rfl
theorem sc_in (d : Int) : sc d = 1 ∨ sc d = 2 ∨ sc d = 4 ∨ sc d = 8 := by unfold sc; (repeat' split) <;> simp
theorem sc_bd (d : Int) : 1 ≤ sc d ∧ sc d ≤ 8 := by have := sc_in d; omega
def tm (s : Int) (p : P3) : P3 := (s * p.1, s * p.2.1, s * p.2.2)
theorem bd_tm {s m : Int} {p : P3} (hs : 1 ≤ s ∧ s ≤ 8) (hm : 0 ≤ m) (hp : bd m p) : bd (8 * m) (tm s p) := by
  have h1 := mul_bd (a := 8) (b := m) (x := s) (y := p.1) (by omega) hp.1
  have h2 := mul_bd (a := 8) (b := m) (x := s) (y := p.2.1) (by omega) hp.2.1
  have h3 := mul_bd (a := 8) (b := m) (x := s) (y := p.2.2) (by omega) hp.2.2
  exact ⟨h1, h2, h3⟩
theorem tm_W {s : Int} {p : P3} (hs : 1 ≤ s ∧ s ≤ 8) (hp : bd 4096 p) : ((W (s * p.1)), (W (s * p.2.1)), (W (s * p.2.2))) = tm s p := by
  have h := bd_tm hs (by omega) hp
  have h1 := h.1; have h2 := h.2.1; have h3 := h.2.2
  simp only [tm] at h1 h2 h3
  unfold tm
  rw [W_eq (n := s * p.1) (by omega) (by omega), W_eq (n := s * p.2.1) (by omega) (by omega), W_eq (n := s * p.2.2) (by omega) (by omega)]
theorem tm_f {s : Int} {p : P3} (hs : 1 ≤ s ∧ s ≤ 8) (hp : bd 4096 p) : F103 p s = tm s p := tm_W hs hp
/-! ### Spans of numbers that are small -/
theorem res_f {a b : Int} (h1 : -1099511627776 ≤ a) (h2 : a ≤ b) (h3 : b ≤ 1099511627776) : F78 a b = ((a, b), 0) := by
  unfold F78 F102
  rw [decide_eq_true (show (a, b).1 ≥ -1099511627776 from h1), decide_eq_true (show (a, b).1 ≤ (a, b).2 from h2), decide_eq_true (show (a, b).2 ≤ 1099511627776 from h3)]; rfl
theorem res_r {a b : Int} (h1 : -1099511627776 ≤ a) (h2 : a ≤ b) (h3 : b ≤ 1099511627776) : F121 a b = ((a, b), 0) := by
  unfold F121 F124
  rw [decide_eq_true (show (a, b).1 ≥ -1099511627776 from h1), decide_eq_true (show (a, b).1 ≤ (a, b).2 from h2), decide_eq_true (show (a, b).2 ≤ 1099511627776 from h3)]; rfl
/-! ### Roots of quotients -/
theorem rt_eq {n : Int} (h0 : 0 ≤ n) (h : n < 4611686018427387904) : F159 n = F149 n := (rtRef h0 h).eq (rtSpan h0 h)
noncomputable def inv (N n : Int) : Int × Int :=
  (F149 (N / n), if F149 (N / n) * F149 (N / n) * n = N then F149 (N / n) else F149 (N / n) + 1)
theorem quo_bd {N n : Int} (hN : 0 ≤ N) (hn : 1 ≤ n) : 0 ≤ N / n ∧ N / n ≤ N ∧ (N / n) * n ≤ N := by
  have h1 : 0 ≤ N / n := Int.ediv_nonneg hN (by omega)
  have h2 : (N / n) * n ≤ N := Int.ediv_mul_le N (by omega)
  have h3 : (N / n) * 1 ≤ (N / n) * n := Int.mul_le_mul_of_nonneg_left hn h1
  omega
theorem inv_facts {N n : Int} (hN : 0 ≤ N ∧ N ≤ 288230376151711744) (hn : 1 ≤ n) :
    ∃ k, F149 (N / n) = k ∧ IsRt (N / n) k ∧ 0 ≤ k ∧ k ≤ 536870912 ∧ 0 ≤ k * k ∧ k * k ≤ N / n ∧ 0 ≤ k * k * n ∧ k * k * n ≤ N := by
  obtain ⟨h1, h2, h3⟩ := quo_bd hN.1 hn
  have h := rtSpan (n := N / n) h1 (by omega)
  have h4 := h.le (m := 536870912) (by omega) (by omega)
  have h5 : 0 ≤ F149 (N / n) * F149 (N / n) := Int.mul_nonneg h.1 h.1
  exact ⟨_, rfl, h, h.1, h4, h5, h.2.1, Int.mul_nonneg h5 (by omega), Int.le_trans (Int.mul_le_mul_of_nonneg_right h.2.1 (by omega)) h3⟩
theorem inv_f {N n : Int} (hN : 0 ≤ N ∧ N ≤ 288230376151711744) (hn : 1 ≤ n) : F109 N n = (inv N n, 0) := by
  obtain ⟨k, hk, _, k0, k1, k2, k3, k4, k5⟩ := inv_facts hN hn
  obtain ⟨h1, h2, h3⟩ := quo_bd hN.1 hn
  unfold F109 inv
  rw [Int.tdiv_eq_ediv_of_nonneg hN.1, W_eq (n := N / n) (by omega) (by omega), hk, W_eq (n := k * k) (by omega) (by omega), W_eq (n := k * k * n) (by omega) (by omega), W_eq (n := k + 1) (by omega) (by omega),
    res_f (by omega) (Int.le_refl k) (by omega), res_f (by omega) (by omega) (by omega)]
  by_cases h : k * k * n = N
  · rw [if_pos h, beq_iff_eq.2 h]; rfl
  · rw [if_neg h, beq_eq_false_iff_ne.2 h]; rfl
theorem inv_r {N n : Int} (hN : 0 ≤ N ∧ N ≤ 288230376151711744) (hn : 1 ≤ n) : F154 N n = (inv N n, 0) := by
  obtain ⟨k, hk, _, k0, k1, k2, k3, k4, k5⟩ := inv_facts hN hn
  obtain ⟨h1, h2, h3⟩ := quo_bd hN.1 hn
  unfold F154 inv
  rw [Int.tdiv_eq_ediv_of_nonneg hN.1, W_eq (n := N / n) (by omega) (by omega), rt_eq h1 (by omega), hk, W_eq (n := k * k) (by omega) (by omega), W_eq (n := k + 1) (by omega) (by omega),
    res_r (by omega) (Int.le_refl k) (by omega), res_r (by omega) (by omega) (by omega), Int.tmod_eq_emod_of_nonneg hN.1]
  have hdm : n * (N / n) + N % n = N := Int.mul_ediv_add_emod N n
  by_cases h0 : N % n = 0
  · rw [beq_iff_eq.2 h0, cond_true]
    by_cases h : k * k = N / n
    · rw [beq_iff_eq.2 h, cond_true, if_pos (by rw [h, Int.mul_comm]; omega)]
    · rw [beq_eq_false_iff_ne.2 h, cond_false, if_neg]
      intro h'
      rw [h0, Int.add_zero, Int.mul_comm] at hdm
      exact h (Int.eq_of_mul_eq_mul_right (by omega) (h'.trans hdm.symm))
  · rw [beq_eq_false_iff_ne.2 h0, cond_false, if_neg]
    intro h'
    rw [← h'] at h0
    exact h0 (Int.mul_emod_left _ _)
theorem inv_bd {N n : Int} (hN : 0 ≤ N ∧ N ≤ 288230376151711744) (hn : 1 ≤ n) : 0 ≤ (inv N n).1 ∧ (inv N n).1 ≤ (inv N n).2 ∧ (inv N n).2 ≤ 536870913 := by
  obtain ⟨k, hk, _, k0, k1, _⟩ := inv_facts hN hn
  unfold inv
  rw [hk]
  simp only
  split <;> omega
theorem inv_mono {N n m : Int} (hN : 0 ≤ N ∧ N ≤ 288230376151711744) (hn : 1 ≤ n) (hm : n ≤ m) : (inv N m).1 ≤ (inv N n).1 := by
  obtain ⟨h1, h2, h3⟩ := quo_bd hN.1 hn
  obtain ⟨g1, g2, g3⟩ := quo_bd (n := m) hN.1 (by omega)
  have h : N / m ≤ N / n := by
    refine Int.le_ediv_of_mul_le (by omega) (Int.le_trans (Int.mul_le_mul_of_nonneg_left hm g1) g3)
  exact (rtSpan g1 (by omega)).mono (rtSpan h1 (by omega)) h
def NN (s : Int) : Int := s * s * 1099511627776
def NC (s : Int) : Int := s * s * s * s * s * s * 1099511627776
theorem NN_bd {s : Int} (h : s = 1 ∨ s = 2 ∨ s = 4 ∨ s = 8) : 0 ≤ NN s ∧ NN s ≤ 288230376151711744 := by rcases h with rfl | rfl | rfl | rfl <;> decide
theorem NC_bd {s : Int} (h : s = 1 ∨ s = 2 ∨ s = 4 ∨ s = 8) : 0 ≤ NC s ∧ NC s ≤ 288230376151711744 := by rcases h with rfl | rfl | rfl | rfl <;> decide
noncomputable def of1 (s n : Int) : Int × Int := if n < 1 then (0, 0) else inv (NN s) n
noncomputable def of3 (s n : Int) : Int × Int := if n < 1 then (0, 0) else if 1048576 < n then (0, 1) else inv (NC s) (n * n * n)
theorem lt8 {s : Int} (h : s = 1 ∨ s = 2 ∨ s = 4 ∨ s = 8) : decide (s < 1) = false ∧ decide (s > 8) = false ∧ F125 s 1 8 = true := by
  rcases h with rfl | rfl | rfl | rfl <;> decide
theorem one_f {s n : Int} (hs : s = 1 ∨ s = 2 ∨ s = 4 ∨ s = 8) (hn : n ≤ 1000000000) : (F81 n s).1 = of1 s n := by
  obtain ⟨e1, e2, _⟩ := lt8 hs
  unfold F81 of1
  by_cases h : n < 1
  · rw [decide_eq_true h, cond_true, if_pos h]
  · have e : W ((W (s * s)) * 2 ^ (min (Int.toNat 40) 64)) = NN s := by rcases hs with rfl | rfl | rfl | rfl <;> kernel_rfl
    rw [decide_eq_false h, cond_false, decide_eq_false (show ¬ n > 1099511627776 by omega), cond_false, e1, cond_false, e2, cond_false, if_neg h, e, inv_f (NN_bd hs) (by omega)]
theorem one_r {s n : Int} (hs : s = 1 ∨ s = 2 ∨ s = 4 ∨ s = 8) (hn : n ≤ 1000000000) : (F119 n s).1 = of1 s n := by
  obtain ⟨_, _, e3⟩ := lt8 hs
  unfold F119 of1
  by_cases h : n < 1
  · rw [within_eq1, decide_eq_false (show ¬ (1 ≤ n ∧ n ≤ 1099511627776) by omega), if_pos h]; rfl
  · have e : W ((W ((W (1048576 * s)) * 1048576)) * s) = NN s := by rcases hs with rfl | rfl | rfl | rfl <;> kernel_rfl
    rw [e3, within_eq1, decide_eq_true (show (1 ≤ n ∧ n ≤ 1099511627776) by omega), if_neg h, e, inv_r (NN_bd hs) (by omega)]; rfl
theorem cub_W {n : Int} (h1 : 1 ≤ n) (h2 : n ≤ 1048576) : W ((W (n * n)) * n) = n * n * n ∧ 1 ≤ n * n * n := by
  have a1 : 1 * 1 ≤ n * n := Int.mul_le_mul h1 h1 (by omega) (by omega)
  have a2 : n * n ≤ 1048576 * 1048576 := Int.mul_le_mul h2 h2 (by omega) (by omega)
  have b1 : 1 * 1 ≤ n * n * n := Int.mul_le_mul (by omega) h1 (by omega) (by omega)
  have b2 : n * n * n ≤ 1048576 * 1048576 * 1048576 := Int.mul_le_mul a2 h2 (by omega) (by omega)
  rw [W_eq (n := n * n) (by omega) (by omega), W_eq (by omega) (by omega)]
  exact ⟨rfl, by omega⟩
/-- what a function of the distance must be -/
structure OfOk (of : Int → Int × Int) : Prop where
  lo : ∀ n, 0 ≤ (of n).1
  le : ∀ n, (of n).1 ≤ (of n).2
  hi : ∀ n, (of n).2 ≤ 536870913
  mono : ∀ n m, 1 ≤ n → n ≤ m → (of m).1 ≤ (of n).1
theorem of1_ok {s : Int} (hs : s = 1 ∨ s = 2 ∨ s = 4 ∨ s = 8) : OfOk (of1 s) := by
  have hb : ∀ n, 0 ≤ (of1 s n).1 ∧ (of1 s n).1 ≤ (of1 s n).2 ∧ (of1 s n).2 ≤ 536870913 := by
    intro n
    unfold of1
    split
    · simp
    · exact inv_bd (NN_bd hs) (by omega)
  refine ⟨fun n => (hb n).1, fun n => (hb n).2.1, fun n => (hb n).2.2, fun n m h1 h2 => ?_⟩
  unfold of1
  rw [if_neg (by omega), if_neg (by omega)]
  exact inv_mono (NN_bd hs) h1 h2
theorem cub_mono {n m : Int} (h1 : 1 ≤ n) (h2 : n ≤ m) : n * n * n ≤ m * m * m :=
  Int.mul_le_mul (Int.mul_le_mul h2 h2 (by omega) (by omega)) h2 (by omega) (Int.mul_nonneg (by omega) (by omega))
theorem of3_ok {s : Int} (hs : s = 1 ∨ s = 2 ∨ s = 4 ∨ s = 8) : OfOk (of3 s) := by
  have hb : ∀ n, 0 ≤ (of3 s n).1 ∧ (of3 s n).1 ≤ (of3 s n).2 ∧ (of3 s n).2 ≤ 536870913 := by
    intro n
    unfold of3
    split
    · simp
    · split
      · simp
      · exact inv_bd (NC_bd hs) (cub_W (by omega) (by omega)).2
  refine ⟨fun n => (hb n).1, fun n => (hb n).2.1, fun n => (hb n).2.2, fun n m h1 h2 => ?_⟩
  by_cases hm : 1048576 < m
  · have : (of3 s m).1 = 0 := by unfold of3; rw [if_neg (by omega), if_pos hm]
    rw [this]; exact (hb n).1
  · unfold of3
    rw [if_neg (by omega), if_neg hm, if_neg (by omega), if_neg (by omega)]
    exact inv_mono (NC_bd hs) (cub_W (by omega) (by omega)).2 (cub_mono h1 h2)

end Go.Proofs.Ytopbnnmkdildgaa
