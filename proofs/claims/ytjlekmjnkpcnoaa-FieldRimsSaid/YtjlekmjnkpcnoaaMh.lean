/-
  A part of the proofs of the Field laws: what functions of the program compute, and that it is what the statements ask. No premise.
-/
import Derived.Test.YtjlekmjnkpcnoaaMg
namespace Go.Proofs.Ytjlekmjnkpcnoaa
open Go.Proofs Go.Aw Go.RowKit
set_option maxRecDepth 100000
set_option linter.unusedVariables false
set_option linter.unusedSimpArgs false

/-! ### The rim -/
def IsUp (T r : Int) : Prop := 0 ≤ r ∧ T ≤ r * r ∧ (r = 0 ∨ (r - 1) * (r - 1) < T)
theorem IsUp.le {T r m : Int} (h : IsUp T r) (hm : 0 ≤ m) (h' : T ≤ m * m) : r ≤ m := by
  rcases Int.lt_or_le m r with hlt | hle
  · rcases h.2.2 with h0 | h0
    · omega
    · have := Int.mul_le_mul (show m ≤ r - 1 by omega) (show m ≤ r - 1 by omega) hm (by omega)
      omega
  · exact hle
theorem IsUp.eq {T a b : Int} (h : IsUp T a) (h' : IsUp T b) : a = b := Int.le_antisymm (h.le h'.1 h'.2.1) (h'.le h.1 h.2.1)
theorem least_spec {T : Int} {S : Int × Int → (Int × Int) ⊕ Int} (hS : ∀ a b, 0 ≤ a → a < b → b ≤ 268435456 → S (a, b) = if T ≤ ((a + b) / 2) * ((a + b) / 2) then .inl (a, (a + b) / 2) else .inl ((a + b) / 2 + 1, b)) (h0 : ∀ a, S (a, a) = .inr a) :
    ∀ (f : Nat) (a b : Int), 0 ≤ a → a ≤ b → b ≤ 268435456 → b - a < f → T ≤ b * b → (a = 0 ∨ (a - 1) * (a - 1) < T) → IsUp T (loopF S f (a, b)) := by
  intro f
  induction f with
  | zero => intro a b _ h _ hf; omega
  | succ f ih =>
    intro a b ha hab hb hf h1 h2
    by_cases he : a = b
    · subst he
      rw [loopF_inr (h0 a)]; exact ⟨ha, h1, h2⟩
    · have hs := hS a b ha (by omega) hb
      by_cases hc : T ≤ ((a + b) / 2) * ((a + b) / 2)
      · rw [if_pos hc] at hs
        rw [loopF_inl hs]
        exact ih _ _ ha (by omega) (by omega) (by omega) hc h2
      · rw [if_neg hc] at hs
        rw [loopF_inl hs]
        refine ih _ _ (by omega) (by omega) hb (by omega) h1 (Or.inr ?_)
        rw [show (a + b) / 2 + 1 - 1 = (a + b) / 2 by omega]; omega
def top (d : Int) : Int := 3537128906555392 * (sc d * sc d)
theorem top_f {d : Int} (h : 0 ≤ d ∧ d ≤ 3) : W (3537128906555392 * 2 ^ (min (Int.toNat (W (2 * d))) 64)) = top d := by
  rcases d4 h with rfl | rfl | rfl | rfl <;> kernel_rfl
theorem top_r {d : Int} (h : 0 ≤ d ∧ d ≤ 3) : W ((W ((W (1099511627776 * (W (1 * 2 ^ (min (Int.toNat (IntKind.wrap .u64 d)) 64))))) * (W (1 * 2 ^ (min (Int.toNat (IntKind.wrap .u64 d)) 64))))) * 3217) = top d := by
  rcases d4 h with rfl | rfl | rfl | rfl <;> kernel_rfl
theorem top_bd (d : Int) : 3537128906555392 ≤ top d ∧ top d ≤ 226376250019545088 := by
  unfold top; have := cnt_in d; omega
/-- the quotient, rounded up -/
def cq (t b : Int) : Int := -(-t / b)
theorem cq_facts {t b : Int} (hb : 1 ≤ b) : t ≤ cq t b * b ∧ (cq t b - 1) * b < t := by
  have h1 := Int.mul_ediv_add_emod (-t) b
  have h2 := Int.emod_nonneg (-t) (show b ≠ 0 by omega)
  have h3 := Int.emod_lt_of_pos (-t) (show 0 < b by omega)
  unfold cq
  have e : -(-t / b) * b = -(b * (-t / b)) := by rw [Int.neg_mul, Int.mul_comm]
  have e2 : (-(-t / b) - 1) * b = -(b * (-t / b)) - b := by rw [Int.sub_mul, e, Int.one_mul]
  omega
theorem dn_any {a n : Int} (hn : 1 ≤ n) (ha : -1152921504606846976 ≤ a ∧ a ≤ 1152921504606846976) : F99 a n = a / n := by
  unfold F99
  rcases Int.lt_or_le a 0 with h | h
  · obtain ⟨b, rfl⟩ : ∃ b : Int, a = -b := ⟨-a, by omega⟩
    have hb : 0 ≤ b := by omega
    obtain ⟨h1, h2, _⟩ := quo_bd hb hn
    have hd := Int.mul_ediv_add_emod b n
    have hm0 := Int.emod_nonneg b (show n ≠ 0 by omega)
    have hm1 := Int.emod_lt_of_pos b (show 0 < n by omega)
    rw [Int.neg_tdiv, Int.neg_tmod, Int.tdiv_eq_ediv_of_nonneg hb, Int.tmod_eq_emod_of_nonneg hb, W_eq (n := -(b / n)) (by omega) (by omega)]
    by_cases h3 : -(b % n) < (0 : Int)
    · rw [decide_eq_true h3, cond_true, W_eq (by omega) (by omega)]
      refine (((Int.ediv_emod_unique (a := -b) (b := n) (q := -(b / n) - 1) (r := n - b % n) (by omega)).2 ⟨?_, by omega, by omega⟩).1).symm
      rw [Int.mul_sub, Int.mul_neg, Int.mul_one]; omega
    · rw [decide_eq_false h3, cond_false]
      refine (((Int.ediv_emod_unique (a := -b) (b := n) (q := -(b / n)) (r := 0) (by omega)).2 ⟨?_, by omega, by omega⟩).1).symm
      rw [Int.mul_neg]; omega
  · rw [Int.tdiv_eq_ediv_of_nonneg h, Int.tmod_eq_emod_of_nonneg h]
    have := Int.emod_nonneg a (show n ≠ 0 by omega)
    rw [decide_eq_false (by omega), cond_false]
    obtain ⟨h1, h2, _⟩ := quo_bd h hn
    exact W_eq (by omega) (by omega)
theorem up_any {a n : Int} (hn : 1 ≤ n) (ha : 0 ≤ a ∧ a ≤ 1152921504606846976) : F100 a n = cq a n := by
  unfold F100 cq
  have h1 := cq_facts (t := a) hn
  rw [W_eq (n := 0 - a) (by omega) (by omega), dn_any hn (by omega), Int.zero_sub, Int.zero_sub]
  have h2 : 0 ≤ cq a n := by
    rcases Int.lt_or_le (cq a n) 0 with h | h
    · have := Int.mul_le_mul_of_nonneg_right (show cq a n ≤ -1 by omega) (show 0 ≤ n by omega); omega
    · exact h
  have h3 : cq a n ≤ a + 1 := by
    rcases Int.lt_or_le (a + 1) (cq a n) with h | h
    · have := Int.mul_le_mul_of_nonneg_left hn (show 0 ≤ cq a n - 1 by omega); omega
    · exact h
  unfold cq at h2 h3
  exact W_eq (by omega) (by omega)
theorem rim_spec {p : PN} {d : Int} (hp : vp p = 0) (hd : 0 ≤ d ∧ d ≤ 3) :
    ∃ r, IsRt (dt (nrm p) (nrm p)) r ∧ 1 ≤ r ∧ r ≤ 56755 ∧ IsUp (cq (top d) (128 * r)) (F54 p d) ∧ F54 p d ≤ 67108864 := by
  obtain ⟨r, e, hr, r1, r2⟩ := rt_rim hp
  have ht := top_bd d
  obtain ⟨q1, q2, q3⟩ := quo_bd (N := top d) (n := 128 * r) (by omega) (by omega)
  have hqb : top d / (128 * r) ≤ 1768564453277696 := by
    rcases Int.lt_or_le 1768564453277696 (top d / (128 * r)) with h | h
    · have := Int.mul_le_mul_of_nonneg_left (show 128 ≤ 128 * r by omega) q1; omega
    · exact h
  have hk := rtField (n := top d / (128 * r)) q1 (by omega)
  have hkb := hk.le (m := 42054304) (by omega) (by omega)
  obtain ⟨u1, u2⟩ := cq_facts (t := top d) (b := 128 * r) (by omega)
  have hm := Int.mul_ediv_add_emod (top d) (128 * r)
  have hm1 := Int.emod_lt_of_pos (top d) (show 0 < 128 * r by omega)
  refine ⟨r, hr, r1, r2, ?_⟩
  unfold F54
  rw [e, W_eq (n := 128 * r) (by omega) (by omega), top_f hd, Int.tdiv_eq_ediv_of_nonneg (by omega), W_eq (n := top d / (128 * r)) (by omega) (by omega)]
  generalize F113 (top d / (128 * r)) = k at *
  have k0 := hk.1; have k1 := hk.2.1; have k2 := hk.2.2
  have k3 : 0 ≤ k * k := Int.mul_nonneg k0 k0
  have k4 : k * k * (128 * r) ≤ top d / (128 * r) * (128 * r) := Int.mul_le_mul_of_nonneg_right k1 (by omega)
  have k5 : 0 ≤ k * k * (128 * r) := Int.mul_nonneg k3 (by omega)
  rw [W_eq (n := k * k) (by omega) (by omega), W_eq (n := k * k * (128 * r)) (by omega) (by omega), W_eq (n := k + 1) (by omega) (by omega)]
  generalize top d / (128 * r) = q at *
  generalize cq (top d) (128 * r) = T at *
  have hb : 0 < 128 * r := by omega
  generalize 128 * r = b at *
  have hqT : q ≤ T := Int.le_of_mul_le_mul_right (Int.le_trans q3 u1) hb
  have hTq : T ≤ q + 1 := by
    have : (T - 1) * b < (q + 1) * b := by rw [Int.add_mul, Int.mul_comm q b]; omega
    have := Int.lt_of_mul_lt_mul_right this (by omega); omega
  by_cases h : k * k * b < top d
  · rw [decide_eq_true h, cond_true]
    refine ⟨⟨by omega, by omega, Or.inr ?_⟩, by omega⟩
    rw [show k + 1 - 1 = k by omega]
    exact Int.lt_of_mul_lt_mul_right (Int.lt_of_lt_of_le h u1) (by omega)
  · rw [decide_eq_false h, cond_false]
    refine ⟨⟨k0, ?_, ?_⟩, by omega⟩
    · have : (T - 1) * b < k * k * b := by omega
      have := Int.lt_of_mul_lt_mul_right this (by omega); omega
    · rcases Int.lt_or_le 0 k with h0 | h0
      · right
        have : (k - 1) * (k - 1) ≤ (k - 1) * k := Int.mul_le_mul_of_nonneg_left (by omega) (by omega)
        have e : (k - 1) * k = k * k - k := by rw [Int.sub_mul, Int.one_mul]
        omega
      · left; omega
theorem rim_eq {p : PN} {d : Int} (hp : vp p = 0) (hd : 0 ≤ d ∧ d ≤ 3) : F55 p d = F54 p d := by
  obtain ⟨r, hr, r1, r2, hu, hb⟩ := rim_spec hp hd
  obtain ⟨hb', hd'⟩ := vp_ok hp
  obtain ⟨hn, hn2⟩ := nn_bd hb'
  have ht := top_bd d
  have er : F114 (F115 (F106 p) (F106 p)) = r := by
    rw [nrm_r hb', rdt (hn.mono (by omega)) (hn.mono (by omega))]
    exact (rtRef (n := dt (nrm p) (nrm p)) (by omega) (by omega)).eq hr
  obtain ⟨u1, u2⟩ := cq_facts (t := top d) (b := 128 * r) (by omega)
  have hT : cq (top d) (128 * r) ≤ 1768564453277697 := by
    rcases Int.lt_or_le 1768564453277697 (cq (top d) (128 * r)) with h | h
    · have := Int.mul_le_mul_of_nonneg_left (show 128 ≤ 128 * r by omega) (show 0 ≤ cq (top d) (128 * r) - 1 by omega); omega
    · exact h
  refine IsUp.eq ?_ hu
  unfold F55
  refine least_spec (T := cq (top d) (128 * r)) (fun a b ha hab hb => ?_) (fun a => ?_) _ 0 268435456 (by omega) (by omega) (by omega) (by decide) (by omega) (Or.inl rfl)
  · have h2 : decide (a < b) = true := decide_eq_true hab
    have hq := sq_bd (a := (a + b) / 2) (by omega) (by omega)
    simp only [S55_0]
    rw [h2, cond_true, top_r hd, er, W_eq (n := 128 * r) (by omega) (by omega), up_any (by omega) (by omega), mid3_eq (by omega), mid0_eq (by omega), W_eq (n := (a + b) / 2 * ((a + b) / 2)) (by omega) (by omega)]
    by_cases hc : cq (top d) (128 * r) ≤ (a + b) / 2 * ((a + b) / 2)
    · rw [decide_eq_true (show (a + b) / 2 * ((a + b) / 2) ≥ cq (top d) (128 * r) from hc), if_pos hc]; rfl
    · rw [decide_eq_false (show ¬ (a + b) / 2 * ((a + b) / 2) ≥ cq (top d) (128 * r) from hc), if_neg hc]; rfl
  · simp [S55_0]
open Classical in
theorem Rim_eq (p : PN) (d : Int) : F23 p d = F24 p d := by
  have h0 : bd 256 (0, 0, 0) := by unfold bd; simp only; omega
  unfold F23 F24
  rw [chk_eq, vp_r, within_eq3]
  unfold ck
  by_cases hv : vp p = 0
  · by_cases hd : 0 ≤ d ∧ d ≤ 3
    · rw [if_pos hv, if_pos ⟨h0, hd⟩, rim_eq hv hd, hv, decide_eq_true hd]; rfl
    · rw [if_pos hv, if_neg (fun h => hd h.2), hv, decide_eq_false hd]; rfl
  · rw [if_neg hv, bne_iff_ne.2 hv, cond_true, cond_true]

end Go.Proofs.Ytjlekmjnkpcnoaa
