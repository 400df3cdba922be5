/-
  A part of the proofs of the Field laws: what functions of the program compute, and that it is what the statements ask. No premise.
-/
import Derived.Test.YtopbnnmkdildgaaMg
namespace Go.Proofs.Ytopbnnmkdildgaa
open Go.Proofs Go.Aw Go.RowKit
set_option maxRecDepth 100000
set_option linter.unusedVariables false
set_option linter.unusedSimpArgs false

/-! ### The rim -/
def IsUp (T r : Int) : Prop := 0 ≤ r ∧ T ≤ r * r ∧ (r = 0 ∨ (r - 1) * (r - 1) < T)
theorem IsUp.le {T r m : Int} (h : IsUp T r) (hm : 0 ≤ m) (h' : T ≤ m * m) : r ≤ m := by
  rcases Int.lt_or_le m r with hlt | hle
  · rcases h.2.2 with h0 | h0
    · omega
    · have := Int.mul_le_mul (show m ≤ r - 1 by omega) (show m ≤ r - 1 by omega) hm (by omega)
      omega
  · exact hle
theorem IsUp.eq {T a b : Int} (h : IsUp T a) (h' : IsUp T b) : a = b := Int.le_antisymm (h.le h'.1 h'.2.1) (h'.le h.1 h.2.1)
theorem least_spec {T : Int} {S : Int × Int → (Int × Int) ⊕ Int} (hS : ∀ a b, 0 ≤ a → a < b → b ≤ 268435456 → S (a, b) = if T ≤ ((a + b) / 2) * ((a + b) / 2) then .inl (a, (a + b) / 2) else .inl ((a + b) / 2 + 1, b)) (h0 : ∀ a, S (a, a) = .inr a) :
    ∀ (f : Nat) (a b : Int), 0 ≤ a → a ≤ b → b ≤ 268435456 → b - a < f → T ≤ b * b → (a = 0 ∨ (a - 1) * (a - 1) < T) → IsUp T (loopF S f (a, b)) := by
  intro f
  induction f with
  | zero => intro a b _ h _ hf; omega
  | succ f ih =>
    intro a b ha hab hb hf h1 h2
    by_cases he : a = b
    · subst he
      rw [loopF_inr (h0 a)]; exact ⟨ha, h1, h2⟩
    · have hs := hS a b ha (by omega) hb
      by_cases hc : T ≤ ((a + b) / 2) * ((a + b) / 2)
      · rw [if_pos hc] at hs
        rw [loopF_inl hs]
        exact ih _ _ ha (by omega) (by omega) (by omega) hc h2
      · rw [if_neg hc] at hs
        rw [loopF_inl hs]
        refine ih _ _ (by omega) (by omega) hb (by omega) h1 (Or.inr ?_)
        rw [show (a + b) / 2 + 1 - 1 = (a + b) / 2 by omega]; omega
def top (d : Int) : Int := 3537128906555392 * (sc d * sc d)
theorem top_f {d : Int} (h : 0 ≤ d ∧ d ≤ 3) : W (3537128906555392 * 2 ^ (min (Int.toNat (W (2 * d))) 64)) = top d := by
  rcases d4 h with rfl | rfl | rfl | rfl <;> kernel_rfl
theorem top_r {d : Int} (h : 0 ≤ d ∧ d ≤ 3) : W ((W ((W (1099511627776 * (W (1 * 2 ^ (min (Int.toNat (IntKind.wrap .u64 d)) 64))))) * (W (1 * 2 ^ (min (Int.toNat (IntKind.wrap .u64 d)) 64))))) * 3217) = top d := by
  rcases d4 h with rfl | rfl | rfl | rfl <;> kernel_rfl
theorem top_bd (d : Int) : 3537128906555392 ≤ top d ∧ top d ≤ 226376250019545088 := by
  unfold top; have := cnt_in d; omega
/-- the quotient, rounded up -/
def cq (t b : Int) : Int := -(-t / b)
theorem cq_facts {t b : Int} (hb : 1 ≤ b) : t ≤ cq t b * b ∧ (cq t b - 1) * b < t := by
  have h1 := Int.mul_ediv_add_emod (-t) b
  have h2 := Int.emod_nonneg (-t) (show b ≠ 0 by omega)
  have h3 := Int.emod_lt_of_pos (-t) (show 0 < b by omega)
  unfold cq
  have e : -(-t / b) * b = -(b * (-t / b)) := by rw [Int.neg_mul, Int.mul_comm]
  have e2 : (-(-t / b) - 1) * b = -(b * (-t / b)) - b := by rw [Int.sub_mul, e, Int.one_mul]
  omega
theorem dn_any {a n : Int} (hn : 1 ≤ n) (ha : -1152921504606846976 ≤ a ∧ a ≤ 1152921504606846976) : F122 a n = a / n := by
  unfold F122
  rcases Int.lt_or_le a 0 with h | h
  · obtain ⟨b, rfl⟩ : ∃ b : Int, a = -b := ⟨-a, by omega⟩
    have hb : 0 ≤ b := by omega
    obtain ⟨h1, h2, _⟩ := quo_bd hb hn
    have hd := Int.mul_ediv_add_emod b n
    have hm0 := Int.emod_nonneg b (show n ≠ 0 by omega)
    have hm1 := Int.emod_lt_of_pos b (show 0 < n by omega)
    rw [Int.neg_tdiv, Int.neg_tmod, Int.tdiv_eq_ediv_of_nonneg hb, Int.tmod_eq_emod_of_nonneg hb, W_eq (n := -(b / n)) (by omega) (by omega)]
    by_cases h3 : -(b % n) < (0 : Int)
    · rw [decide_eq_true h3, cond_true, W_eq (by omega) (by omega)]
      refine (((Int.ediv_emod_unique (a := -b) (b := n) (q := -(b / n) - 1) (r := n - b % n) (by omega)).2 ⟨?_, by omega, by omega⟩).1).symm
      rw [Int.mul_sub, Int.mul_neg, Int.mul_one]; omega
    · rw [decide_eq_false h3, cond_false]
      refine (((Int.ediv_emod_unique (a := -b) (b := n) (q := -(b / n)) (r := 0) (by omega)).2 ⟨?_, by omega, by omega⟩).1).symm
      rw [Int.mul_neg]; omega
  · rw [Int.tdiv_eq_ediv_of_nonneg h, Int.tmod_eq_emod_of_nonneg h]
    have := Int.emod_nonneg a (show n ≠ 0 by omega)
    rw [decide_eq_false (by omega), cond_false]
    obtain ⟨h1, h2, _⟩ := quo_bd h hn
    exact W_eq (by omega) (by omega)
theorem up_any {a n : Int} (hn : 1 ≤ n) (ha : 0 ≤ a ∧ a ≤ 1152921504606846976) : F123 a n = cq a n := by
  unfold F123 cq
  have h1 := cq_facts (t := a) hn
  rw [W_eq (n := 0 - a) (by omega) (by omega), dn_any hn (by omega), Int.zero_sub, Int.zero_sub]
  have h2 : 0 ≤ cq a n := by
    rcases Int.lt_or_le (cq a n) 0 with h | h
    · have := Int.mul_le_mul_of_nonneg_right (show cq a n ≤ -1 by omega) (show 0 ≤ n by omega); omega
    · exact h
  have h3 : cq a n ≤ a + 1 := by
    rcases Int.lt_or_le (a + 1) (cq a n) with h | h
    · have := Int.mul_le_mul_of_nonneg_left hn (show 0 ≤ cq a n - 1 by omega); omega
    · exact h
  unfold cq at h2 h3
  exact W_eq (by omega) (by omega)
end Go.Proofs.Ytopbnnmkdildgaa
