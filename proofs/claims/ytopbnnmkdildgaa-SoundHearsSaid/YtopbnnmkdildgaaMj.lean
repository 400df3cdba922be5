/-
  A part of the proofs of the Field laws: what functions of the program compute, and that it is what the statements ask. No premise.
-/
import Derived.Test.YtopbnnmkdildgaaLh
namespace Go.Proofs.Ytopbnnmkdildgaa
open Go.Proofs Go.Aw Go.RowKit
set_option maxRecDepth 100000
set_option linter.unusedVariables false
set_option linter.unusedSimpArgs false

/-! ### Products that may be too large -/
theorem U_def (n : Int) : IntKind.wrap .u64 n = n % 18446744073709551616 := by
  simp [IntKind.wrap, IntKind.bits, IntKind.signed]
theorem fdiv32 (a : Int) : Int.fdiv a (2 ^ (min (Int.toNat 32) 64)) = a / 4294967296 := by
  rw [show (2 : Int) ^ (min (Int.toNat 32) 64) = 4294967296 from by kernel_rfl]
  exact Int.fdiv_eq_ediv_of_nonneg _ (by omega)
theorem and32 (a : Int) : ((BitVec.ofInt 64 a &&& BitVec.ofInt 64 4294967295).toNat : Int) = a % 4294967296 := by
  rw [BitVec.toNat_and, show (BitVec.ofInt 64 4294967295).toNat = 2 ^ 32 - 1 from by kernel_rfl, Nat.and_two_pow_sub_one_eq_mod, BitVec.toNat_ofInt]
  have h0 := Int.emod_nonneg a (show (18446744073709551616 : Int) ≠ 0 by omega)
  rw [show ((2 ^ 64 : Nat) : Int) = 18446744073709551616 from by kernel_rfl]
  have h1 : (((a % 18446744073709551616).toNat : Nat) : Int) = a % 18446744073709551616 := Int.toNat_of_nonneg h0
  rw [Int.natCast_emod, h1]
  show a % 18446744073709551616 % 4294967296 = _
  omega
theorem mul64 {x y : Int} (hx : 0 ≤ x ∧ x ≤ 1099511627776) (hy : 0 ≤ y ∧ y ≤ 1099511627776) : F155 x y = (x * y / 18446744073709551616, x * y % 18446744073709551616) := by
  unfold F155
  simp only [U_def, fdiv32, and32]
  have e0 : ∀ n : Int, n % 4294967296 % 18446744073709551616 = n % 4294967296 := fun n => by omega
  simp only [e0]
  have key : x * y = (x / 4294967296 * (y / 4294967296)) * 18446744073709551616 + (x / 4294967296 * (y % 4294967296) + x % 4294967296 * (y / 4294967296)) * 4294967296 + x % 4294967296 * (y % 4294967296) := by
    have h1 := Int.mul_ediv_add_emod x 4294967296
    have h2 := Int.mul_ediv_add_emod y 4294967296
    generalize x / 4294967296 = x1 at *
    generalize x % 4294967296 = x0 at *
    generalize y / 4294967296 = y1 at *
    generalize y % 4294967296 = y0 at *
    subst h1; subst h2; grind
  have b1 := mul_bd (a := 256) (b := 256) (x := x / 4294967296) (y := y / 4294967296) (by omega) (by omega)
  have b2 := mul_bd (a := 256) (b := 4294967295) (x := x / 4294967296) (y := y % 4294967296) (by omega) (by omega)
  have b3 := mul_bd (a := 4294967295) (b := 256) (x := x % 4294967296) (y := y / 4294967296) (by omega) (by omega)
  have b4 := mul_bd (a := 4294967295) (b := 4294967295) (x := x % 4294967296) (y := y % 4294967296) (by omega) (by omega)
  have n1 : 0 ≤ x / 4294967296 * (y / 4294967296) := Int.mul_nonneg (by omega) (by omega)
  have n2 : 0 ≤ x / 4294967296 * (y % 4294967296) := Int.mul_nonneg (by omega) (by omega)
  have n3 : 0 ≤ x % 4294967296 * (y / 4294967296) := Int.mul_nonneg (by omega) (by omega)
  have n4 : 0 ≤ x % 4294967296 * (y % 4294967296) := Int.mul_nonneg (by omega) (by omega)
  generalize x * y = m at *
  generalize x / 4294967296 * (y / 4294967296) = d at *
  generalize x / 4294967296 * (y % 4294967296) = b at *
  generalize x % 4294967296 * (y / 4294967296) = c at *
  generalize x % 4294967296 * (y % 4294967296) = a at *
  rw [Prod.mk.injEq]
  exact ⟨by omega, rfl⟩
/-- a product, or what stands for one that is too large -/
def sat (x n : Int) : Int := if 1099511627776 < x * n then 1099511627777 else if x * n < -1099511627776 then -1099511627777 else x * n
theorem ab_mul (x n : Int) : (x * n = (if x < 0 then 0 - x else x) * (if n < 0 then 0 - n else n) ∧ ((x < 0) = (n < 0))) ∨ (x * n = -((if x < 0 then 0 - x else x) * (if n < 0 then 0 - n else n)) ∧ ¬ ((x < 0) = (n < 0))) := by
  by_cases h1 : x < 0
  · by_cases h2 : n < 0
    · left; rw [if_pos h1, if_pos h2]; exact ⟨by grind, by simp [h1, h2]⟩
    · right; rw [if_pos h1, if_neg h2]; exact ⟨by grind, by simp [h1, h2]⟩
  · by_cases h2 : n < 0
    · right; rw [if_neg h1, if_pos h2]; exact ⟨by grind, by simp [h1, h2]⟩
    · left; rw [if_neg h1, if_neg h2]; exact ⟨by grind, by simp [h1, h2]⟩
theorem prod_r {x n : Int} (hx : -1099511627776 ≤ x ∧ x ≤ 1099511627776) (hn : -1099511627776 ≤ n ∧ n ≤ 1099511627776) : F126 x n = sat x n := by
  have hsz : ∀ z : Int, -1099511627776 ≤ z ∧ z ≤ 1099511627776 → F156 z = if z < 0 then 0 - z else z := by
    intro z hz
    unfold F156
    by_cases h : z < 0
    · rw [decide_eq_true h, cond_true, if_pos h, W_eq (by omega) (by omega), U_def]; omega
    · rw [decide_eq_false h, cond_false, if_neg h, U_def]; omega
  unfold F126 sat
  rw [hsz x hx, hsz n hn, mul64 (by split <;> omega) (by split <;> omega)]
  have hm := ab_mul x n
  have hnn : 0 ≤ (if x < 0 then 0 - x else x) * (if n < 0 then 0 - n else n) := Int.mul_nonneg (by split <;> omega) (by split <;> omega)
  generalize (if x < 0 then 0 - x else x) * (if n < 0 then 0 - n else n) = m at *
  have e : (!(decide (x < 0) == decide (n < 0))) = decide (x * n = -m ∧ ¬ ((x < 0) = (n < 0))) := by
    by_cases h1 : x < 0 <;> by_cases h2 : n < 0 <;> simp [h1, h2] at hm ⊢ <;> omega
  rw [e]
  simp only
  by_cases h1 : m / 18446744073709551616 = 0
  · rw [beq_iff_eq.2 h1, cond_true]
    have h2 : m % 18446744073709551616 = m := by omega
    rw [h2]
    by_cases h3 : m ≤ 1099511627776
    · rw [decide_eq_true h3, cond_true, W_eq (n := m) (by omega) (by omega), W_eq (n := 0 - m) (by omega) (by omega)]
      rcases hm with ⟨q1, q2⟩ | ⟨q1, q2⟩
      · rw [decide_eq_false (fun h => h.2 q2), cond_false, q1, if_neg (by omega), if_neg (by omega)]
      · rw [decide_eq_true ⟨q1, q2⟩, cond_true, q1, if_neg (by omega), if_neg (by omega)]; omega
    · rw [decide_eq_false h3, cond_false]
      rcases hm with ⟨q1, q2⟩ | ⟨q1, q2⟩
      · rw [decide_eq_false (fun h => h.2 q2), cond_false, q1, if_pos (by omega)]
      · rw [decide_eq_true ⟨q1, q2⟩, cond_true, q1, if_neg (by omega), if_pos (by omega)]
  · rw [beq_eq_false_iff_ne.2 h1, cond_false]
    rcases hm with ⟨q1, q2⟩ | ⟨q1, q2⟩
    · rw [decide_eq_false (fun h => h.2 q2), cond_false, q1, if_pos (by omega)]
    · rw [decide_eq_true ⟨q1, q2⟩, cond_true, q1, if_neg (by omega), if_pos (by omega)]

theorem prod_f {x n : Int} (hx : -1099511627776 ≤ x ∧ x ≤ 1099511627776) (hn : -1099511627776 ≤ n ∧ n ≤ 1099511627776) : F77 x n = sat x n := by
  have hm := ab_mul x n
  have ha : ∀ z : Int, (-1099511627776 ≤ z ∧ z ≤ 1099511627776) → (if (z : Int) < (W (0 - z)) then (W (0 - z)) else z) = if z < 0 then 0 - z else z := by
    intro z hz
    rw [W_eq (n := 0 - z) (by omega) (by omega)]
    (repeat' split) <;> omega
  unfold F77 sat
  rw [ha x hx, ha n hn]
  by_cases hx0 : x = 0
  · subst hx0; simp [W_eq]
  by_cases hn0 : n = 0
  · subst hn0; simp [W_eq]
  rw [bne_iff_ne.2 hx0, bne_iff_ne.2 hn0, cond_true, cond_true]
  have a1 : 1 ≤ (if x < 0 then 0 - x else x) ∧ (if x < 0 then 0 - x else x) ≤ 1099511627776 := by split <;> omega
  have a2 : 1 ≤ (if n < 0 then 0 - n else n) ∧ (if n < 0 then 0 - n else n) ≤ 1099511627776 := by split <;> omega
  have e : (!(decide (x < 0) == decide (n < 0))) = decide (x * n = -((if x < 0 then 0 - x else x) * (if n < 0 then 0 - n else n)) ∧ ¬ ((x < 0) = (n < 0))) := by
    by_cases h1 : x < 0 <;> by_cases h2 : n < 0 <;> simp [h1, h2] at hm ⊢ <;> omega
  rw [e]
  generalize (if x < 0 then 0 - x else x) = ax at *
  generalize (if n < 0 then 0 - n else n) = an at *
  rw [Int.tdiv_eq_ediv_of_nonneg (by omega)]
  obtain ⟨d1, d2, d3⟩ := quo_bd (N := 1099511627776) (n := ax) (by omega) (by omega)
  have d4 := Int.mul_ediv_add_emod 1099511627776 ax
  have d5 := Int.emod_lt_of_pos 1099511627776 (show 0 < ax by omega)
  rw [W_eq (n := 1099511627776 / ax) (by omega) (by omega)]
  have hbig : an > 1099511627776 / ax ↔ 1099511627776 < ax * an := by
    constructor
    · intro h
      have := Int.mul_le_mul_of_nonneg_left (show 1099511627776 / ax + 1 ≤ an by omega) (show 0 ≤ ax by omega)
      rw [Int.mul_add, Int.mul_one] at this; omega
    · intro h
      rcases Int.lt_or_le (1099511627776 / ax) an with h' | h'
      · exact h'
      · have := Int.mul_le_mul_of_nonneg_left h' (show 0 ≤ ax by omega)
        rw [Int.mul_comm] at d3; omega
  by_cases hb : an > 1099511627776 / ax
  · rw [decide_eq_true hb, cond_true]
    have := hbig.1 hb
    rcases hm with ⟨q1, q2⟩ | ⟨q1, q2⟩
    · rw [decide_eq_false (fun h => h.2 q2), cond_false, q1, if_pos (by omega)]
    · rw [decide_eq_true ⟨q1, q2⟩, cond_true, q1, if_neg (by omega), if_pos (by omega)]
  · rw [decide_eq_false hb, cond_false]
    have h1 : ax * an ≤ 1099511627776 := by
      rcases Int.lt_or_le 1099511627776 (ax * an) with h | h
      · exact absurd (hbig.2 h) hb
      · exact h
    have h2 : 0 ≤ ax * an := Int.mul_nonneg (by omega) (by omega)
    rcases hm with ⟨q1, q2⟩ | ⟨q1, q2⟩ <;> rw [q1, if_neg (by omega), if_neg (by omega)] <;> exact W_eq (by omega) (by omega)
theorem sat_mono {x y n : Int} (h : x ≤ y) (hn : 0 ≤ n) : sat x n ≤ sat y n := by
  have := Int.mul_le_mul_of_nonneg_right h hn
  unfold sat; (repeat' split) <;> omega
theorem sat_anti {x y n : Int} (h : x ≤ y) (hn : n ≤ 0) : sat y n ≤ sat x n := by
  have := Int.mul_le_mul_of_nonpos_right h hn
  unfold sat; (repeat' split) <;> omega
/-- the least span of the products -/
def scl (a : Int × Int) (n : Int) : Int × Int := if n < 0 then (sat a.2 n, sat a.1 n) else (sat a.1 n, sat a.2 n)
/-- a span that is valid -/
def vs (a : Int × Int) : Prop := -1099511627776 ≤ a.1 ∧ a.1 ≤ a.2 ∧ a.2 ≤ 1099511627776
theorem Scale_f {a : Int × Int} {n : Int} (ha : vs a) (hn : -1099511627776 ≤ n ∧ n ≤ 1099511627776) : F39 a n = F78 (scl a n).1 (scl a n).2 := by
  obtain ⟨h1, h2, h3⟩ := ha
  unfold F39 F75_1 F76
  rw [val_f (a := a.1) (b := a.2) h1 h2 h3, decide_eq_true (show n ≥ -1099511627776 from hn.1), decide_eq_true hn.2, prod_f (x := a.1) (by omega) hn, prod_f (x := a.2) (by omega) hn]
  show ((F78 _ _).1, (F78 _ _).2) = _
  unfold scl
  by_cases h : n < 0
  · have := sat_anti h2 (show n ≤ 0 by omega)
    rw [if_pos h]
    simp only
    rw [show (if (sat a.2 n : Int) < sat a.1 n then sat a.2 n else sat a.1 n) = sat a.2 n by split <;> omega, show (if (sat a.1 n : Int) < sat a.2 n then sat a.2 n else sat a.1 n) = sat a.1 n by split <;> omega]
  · have := sat_mono h2 (show 0 ≤ n by omega)
    rw [if_neg h]
    simp only
    rw [show (if (sat a.2 n : Int) < sat a.1 n then sat a.2 n else sat a.1 n) = sat a.1 n by split <;> omega, show (if (sat a.1 n : Int) < sat a.2 n then sat a.2 n else sat a.1 n) = sat a.2 n by split <;> omega]
theorem val_r {a b : Int} (h1 : -1099511627776 ≤ a) (h2 : a ≤ b) (h3 : b ≤ 1099511627776) : F124 (a, b) = true := val_f h1 h2 h3
theorem told_eq (a b : Int) : F121 a b = F78 a b := rfl
theorem Scale_r {a : Int × Int} {n : Int} (ha : vs a) (hn : -1099511627776 ≤ n ∧ n ≤ 1099511627776) : F94 a n = F78 (scl a n).1 (scl a n).2 := by
  obtain ⟨h1, h2, h3⟩ := ha
  unfold F94
  rw [val_r (a := a.1) (b := a.2) h1 h2 h3, within_eq1, decide_eq_true hn, prod_r (x := a.1) (by omega) hn, prod_r (x := a.2) (by omega) hn, told_eq, told_eq]
  unfold scl
  by_cases h : n < 0
  · rw [if_pos h, decide_eq_true h]; rfl
  · rw [if_neg h, decide_eq_false h]; rfl
/-! halves -/
def hlf (a : Int × Int) : Int × Int := (a.1 / 2, -(-a.2 / 2))
theorem hlf_ok {a : Int × Int} (h : vs a) : vs (hlf a) := by unfold vs hlf at *; simp only; omega
theorem dn2_f {a : Int} (ha : -1099511627776 ≤ a ∧ a ≤ 1099511627776) : F115 a 2 = a / 2 := by
  unfold F115
  rcases Int.lt_or_le a 0 with h | h
  · obtain ⟨b, rfl⟩ : ∃ b : Int, a = -b := ⟨-a, by omega⟩
    have hb : 0 ≤ b := by omega
    rw [Int.neg_tdiv, Int.neg_tmod, Int.tdiv_eq_ediv_of_nonneg hb, Int.tmod_eq_emod_of_nonneg hb, W_eq (n := -(b / 2)) (by omega) (by omega), decide_eq_true h, W_eq (n := -(b / 2) - 1) (by omega) (by omega)]
    by_cases h1 : -(b % 2) = 0
    · rw [h1]; show -(b / 2) = _; omega
    · rw [bne_iff_ne.2 h1]; show -(b / 2) - 1 = _; omega
  · rw [decide_eq_false (by omega), Int.tdiv_eq_ediv_of_nonneg h, W_eq (n := a / 2) (by omega) (by omega)]
    cases ((Int.tmod a 2 : Int) != 0) <;> rfl
theorem Part_f {a : Int × Int} (ha : vs a) : F148 a 2 = (hlf a, 0) := by
  have hh := hlf_ok ha
  obtain ⟨h1, h2, h3⟩ := ha
  unfold F148 F75_1 F116
  rw [val_f (a := a.1) (b := a.2) h1 h2 h3, dn2_f (by omega), W_eq (n := 0 - a.2) (by omega) (by omega), dn2_f (a := 0 - a.2) (by omega), W_eq (n := 0 - (0 - a.2) / 2) (by omega) (by omega), Int.zero_sub, Int.zero_sub]
  show ((F78 (hlf a).1 (hlf a).2).1, (F78 (hlf a).1 (hlf a).2).2) = _
  rw [res_f hh.1 hh.2.1 hh.2.2]
theorem res_cases (a b : Int) : (F78 a b = ((a, b), 0) ∧ vs (a, b)) ∨ F78 a b = ((0, 0), 4) := by
  by_cases h : vs (a, b)
  · exact Or.inl ⟨res_f h.1 h.2.1 h.2.2, h⟩
  · right
    unfold F78
    have : F102 (a, b) = false := by
      unfold F102
      by_cases h1 : (a, b).1 ≥ -1099511627776
      · by_cases h2 : (a, b).1 ≤ (a, b).2
        · rw [decide_eq_true h1, decide_eq_true h2, cond_true, cond_true]; exact decide_eq_false (fun h3 => h ⟨h1, h2, h3⟩)
        · rw [decide_eq_true h1, decide_eq_false h2]; rfl
      · rw [decide_eq_false h1]; rfl
    rw [this]; rfl

end Go.Proofs.Ytopbnnmkdildgaa
