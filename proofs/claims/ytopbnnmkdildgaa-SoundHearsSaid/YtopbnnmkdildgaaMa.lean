/-
  A part of the proofs of the Field laws: what functions of the program compute, and that it is what the statements ask. No premise.
-/
import Derived.Test.YtopbnnmkdildgaaLc
namespace Go.Proofs.Ytopbnnmkdildgaa
open Go.Proofs Go.Aw Go.RowKit
set_option maxRecDepth 100000
set_option linter.unusedVariables false
set_option linter.unusedSimpArgs false

/-! ### Roots -/
theorem sq_unique {n a b : Int} (ha : 0 ≤ a) (hb : 0 ≤ b) (h1 : a * a ≤ n) (h2 : n < (a + 1) * (a + 1)) (h3 : b * b ≤ n) (h4 : n < (b + 1) * (b + 1)) : a = b := by
  rcases Int.lt_trichotomy a b with h | h | h
  · have : (a + 1) * (a + 1) ≤ b * b := Int.mul_le_mul (by omega) (by omega) (by omega) hb
    omega
  · exact h
  · have : (b + 1) * (b + 1) ≤ a * a := Int.mul_le_mul (by omega) (by omega) (by omega) ha
    omega
/-- r is the root of n, rounded down -/
def IsRt (n r : Int) : Prop := 0 ≤ r ∧ r * r ≤ n ∧ n < (r + 1) * (r + 1)
theorem IsRt.eq {n a b : Int} (h : IsRt n a) (h' : IsRt n b) : a = b := sq_unique h.1 h'.1 h.2.1 h.2.2 h'.2.1 h'.2.2
theorem IsRt.le {n r m : Int} (h : IsRt n r) (hm : 0 ≤ m) (hn : n < (m + 1) * (m + 1)) : r ≤ m := by
  rcases Int.lt_or_le m r with hlt | hle
  · have : (m + 1) * (m + 1) ≤ r * r := Int.mul_le_mul (by omega) (by omega) (by omega) h.1
    have := h.2.1; omega
  · exact hle
theorem IsRt.ge {n r m : Int} (h : IsRt n r) (hm : 0 ≤ m) (hn : m * m ≤ n) : m ≤ r := by
  rcases Int.lt_or_le r m with hlt | hle
  · have : (r + 1) * (r + 1) ≤ m * m := Int.mul_le_mul (by omega) (by omega) (by have := h.1; omega) hm
    have := h.2.2; omega
  · exact hle
theorem IsRt.mono {n m a b : Int} (h : IsRt n a) (h' : IsRt m b) (hnm : n ≤ m) : a ≤ b := h'.ge h.1 (Int.le_trans h.2.1 hnm)

theorem bits_spec {n : Int} {S : Int × Int → (Int × Int) ⊕ Int} (hS : ∀ k b, 0 ≤ k → 0 < b → k + b ≤ 2147483648 → S (k, b) = if (k + b) * (k + b) ≤ n then .inl (k + b, b / 2) else .inl (k, b / 2)) (h0 : ∀ k, S (k, 0) = .inr k) :
    ∀ (j f : Nat) (k : Int), j + 2 ≤ f → 0 ≤ k → k + 2 * 2 ^ j ≤ 2147483648 → k * k ≤ n → n < (k + 2 * 2 ^ j) * (k + 2 * 2 ^ j) → IsRt n (loopF S f (k, 2 ^ j)) := by
  intro j
  induction j with
  | zero =>
    intro f k hf hk hb h1 h2
    obtain ⟨f, rfl⟩ : ∃ g, f = g + 2 := ⟨f - 2, by omega⟩
    simp only [Int.pow_zero] at h2 hb ⊢
    have hs := hS k 1 hk (by omega) (by omega)
    by_cases hc : (k + 1) * (k + 1) ≤ n
    · rw [if_pos hc] at hs
      rw [loopF_inl hs, show ((1 : Int) / 2) = 0 by omega, loopF_inr (h0 _)]
      refine ⟨by omega, hc, ?_⟩
      rw [show k + 1 + 1 = k + 2 * 1 by omega]; exact h2
    · rw [if_neg hc] at hs
      rw [loopF_inl hs, show ((1 : Int) / 2) = 0 by omega, loopF_inr (h0 _)]
      exact ⟨hk, h1, by omega⟩
  | succ j ih =>
    intro f k hf hk hb h1 h2
    obtain ⟨f, rfl⟩ : ∃ g, f = g + 1 := ⟨f - 1, by omega⟩
    have hp : (0 : Int) < 2 ^ j := Int.pow_pos (by omega)
    rw [Int.pow_succ] at h2 hb ⊢
    have hs := hS k (2 ^ j * 2) hk (by omega) (by omega)
    have hd : (2 : Int) ^ j * 2 / 2 = 2 ^ j := Int.mul_ediv_cancel _ (by omega)
    rw [hd] at hs
    by_cases hc : (k + 2 ^ j * 2) * (k + 2 ^ j * 2) ≤ n
    · rw [if_pos hc] at hs
      rw [loopF_inl hs]
      refine ih f _ (by omega) (by omega) (by omega) hc ?_
      rw [show k + 2 ^ j * 2 + 2 * 2 ^ j = k + 2 * ((2 : Int) ^ j * 2) by omega]; exact h2
    · rw [if_neg hc] at hs
      rw [loopF_inl hs]
      refine ih f _ (by omega) hk (by omega) h1 ?_
      rw [show k + 2 * (2 : Int) ^ j = k + 2 ^ j * 2 by omega]; omega

theorem bins_spec {n : Int} {S : Int × Int → (Int × Int) ⊕ Int} (hS : ∀ a b, 0 ≤ a → a < b → b ≤ 2147483648 → S (a, b) = if ((a + b + 1) / 2) * ((a + b + 1) / 2) ≤ n then .inl ((a + b + 1) / 2, b) else .inl (a, (a + b + 1) / 2 - 1)) (h0 : ∀ a, S (a, a) = .inr a) :
    ∀ (f : Nat) (a b : Int), 0 ≤ a → a ≤ b → b ≤ 2147483648 → b - a < f → a * a ≤ n → n < (b + 1) * (b + 1) → IsRt n (loopF S f (a, b)) := by
  intro f
  induction f with
  | zero => intro a b _ h _ hf; omega
  | succ f ih =>
    intro a b ha hab hb hf h1 h2
    by_cases he : a = b
    · subst he
      rw [loopF_inr (h0 a)]; exact ⟨ha, h1, h2⟩
    · have hs := hS a b ha (by omega) hb
      by_cases hc : ((a + b + 1) / 2) * ((a + b + 1) / 2) ≤ n
      · rw [if_pos hc] at hs
        rw [loopF_inl hs]
        exact ih _ _ (by omega) (by omega) hb (by omega) hc h2
      · rw [if_neg hc] at hs
        rw [loopF_inl hs]
        refine ih _ _ ha (by omega) (by omega) (by omega) h1 ?_
        rw [show (a + b + 1) / 2 - 1 + 1 = (a + b + 1) / 2 by omega]; omega

theorem sq_bd {a : Int} (h : 0 ≤ a) (h' : a ≤ 2147483648) : 0 ≤ a * a ∧ a * a ≤ 4611686018427387904 := ⟨Int.mul_nonneg h h, Int.le_trans (Int.mul_le_mul h' h' h (by omega)) (by omega)⟩

theorem rtSpan {n : Int} (h0 : 0 ≤ n) (h : n < 4611686018427387904) : IsRt n (F149 n) := by
  unfold F149
  rw [show decide ((4611686018427387904 : Int) ≤ n) = false by simpa using h]
  simp only [cond_false]
  refine bits_spec (n := n) (fun k b hk hb hkb => ?_) (fun k => ?_) 30 _ 0 (by decide) (by omega) (by decide) (by omega) (by simpa using h)
  · have h2 : ((b : Int) == 0) = false := by rw [beq_eq_false_iff_ne]; omega
    have hw : W (k + b) = k + b := W_eq (by omega) (by omega)
    have hq := sq_bd (a := k + b) (by omega) hkb
    have hw2 : W ((k + b) * (k + b)) = (k + b) * (k + b) := W_eq (by omega) (by omega)
    simp only [S149_0, h2, cond_false, hw, hw2]
    by_cases hc : (k + b) * (k + b) ≤ n <;> simp [hc]
  · simp [S149_0]

theorem rtRef {n : Int} (h0 : 0 ≤ n) (h : n < 4611686018427387904) : IsRt n (F159 n) := by
  unfold F159
  refine bins_spec (n := n) (fun a b ha hab hb => ?_) (fun a => ?_) _ 0 2147483648 (by omega) (by omega) (by omega) (by decide) (by omega) (by omega)
  · have h2 : decide (a < b) = true := by simpa using hab
    have hw := mid1_eq (a := a) (b := b) (by omega)
    have hw3 := mid2_eq (a := a) (b := b) (by omega)
    have hq := sq_bd (a := (a + b + 1) / 2) (by omega) (by omega)
    have hw2 : W ((a + b + 1) / 2 * ((a + b + 1) / 2)) = (a + b + 1) / 2 * ((a + b + 1) / 2) := W_eq (by omega) (by omega)
    have hw4 : W ((a + b + 1) / 2 - 1) = (a + b + 1) / 2 - 1 := W_eq (by omega) (by omega)
    simp only [S159_0, h2, cond_true, hw, hw2, hw4]
    by_cases hc : (a + b + 1) / 2 * ((a + b + 1) / 2) ≤ n <;> simp [hc]
  · simp [S159_0]

/-! ### Points, in whole numbers -/
abbrev P3 := Int × Int × Int
abbrev PN := P3 × P3 × P3
def bd (m : Int) (p : P3) : Prop := (-m ≤ p.1 ∧ p.1 ≤ m) ∧ (-m ≤ p.2.1 ∧ p.2.1 ≤ m) ∧ (-m ≤ p.2.2 ∧ p.2.2 ≤ m)
def bdP (m : Int) (p : PN) : Prop := bd m p.1 ∧ bd m p.2.1 ∧ bd m p.2.2
def sb (p q : P3) : P3 := (p.1 - q.1, p.2.1 - q.2.1, p.2.2 - q.2.2)
def dt (p q : P3) : Int := p.1 * q.1 + p.2.1 * q.2.1 + p.2.2 * q.2.2
def cr (p q : P3) : P3 := (p.2.1 * q.2.2 - p.2.2 * q.2.1, p.2.2 * q.1 - p.1 * q.2.2, p.1 * q.2.1 - p.2.1 * q.1)
def nrm (p : PN) : P3 := cr (sb p.2.1 p.1) (sb p.2.2 p.1)

theorem mul_bd {a b x y : Int} (hx : -a ≤ x ∧ x ≤ a) (hy : -b ≤ y ∧ y ≤ b) : -(a * b) ≤ x * y ∧ x * y ≤ a * b := by
  have h1 := Int.mul_nonneg (show 0 ≤ a - x by omega) (show 0 ≤ b - y by omega)
  have h2 := Int.mul_nonneg (show 0 ≤ a + x by omega) (show 0 ≤ b + y by omega)
  have h3 := Int.mul_nonneg (show 0 ≤ a - x by omega) (show 0 ≤ b + y by omega)
  have h4 := Int.mul_nonneg (show 0 ≤ a + x by omega) (show 0 ≤ b - y by omega)
  rw [Int.sub_mul, Int.mul_sub, Int.mul_sub] at h1
  rw [Int.add_mul, Int.mul_add, Int.mul_add] at h2
  rw [Int.sub_mul, Int.mul_add, Int.mul_add] at h3
  rw [Int.add_mul, Int.mul_sub, Int.mul_sub] at h4
  omega

theorem bd_sb {a b : Int} {p q : P3} (hp : bd a p) (hq : bd b q) : bd (a + b) (sb p q) := by
  unfold bd at *; simp only [sb]; omega
theorem sq_nn (x : Int) : 0 ≤ x * x := by
  rcases Int.le_total 0 x with h | h
  · exact Int.mul_nonneg h h
  · exact Int.mul_nonneg_of_nonpos_of_nonpos h h
theorem dt_self (p : P3) : 0 ≤ dt p p := by
  have := sq_nn p.1; have := sq_nn p.2.1; have := sq_nn p.2.2
  simp only [dt]; omega
theorem dt_pos {p : P3} (h : ¬ (p.1 = 0 ∧ p.2.1 = 0 ∧ p.2.2 = 0)) : 1 ≤ dt p p := by
  have := sq_nn p.1; have := sq_nn p.2.1; have := sq_nn p.2.2
  have key : ∀ x : Int, x ≠ 0 → 1 ≤ x * x := fun x hx => by
    have h0 := sq_nn x
    have : x * x ≠ 0 := Int.mul_ne_zero hx hx
    omega
  simp only [dt]
  by_cases h1 : p.1 = 0
  · by_cases h2 : p.2.1 = 0
    · have := key p.2.2 (fun h3 => h ⟨h1, h2, h3⟩); omega
    · have := key _ h2; omega
  · have := key _ h1; omega
theorem dt_bd {a : Int} {p q : P3} (hp : bd a p) (hq : bd a q) : -(3 * (a * a)) ≤ dt p q ∧ dt p q ≤ 3 * (a * a) := by
  have := mul_bd hp.1 hq.1; have := mul_bd hp.2.1 hq.2.1; have := mul_bd hp.2.2 hq.2.2
  simp only [dt]; omega
theorem cr_bd {a : Int} {p q : P3} (hp : bd a p) (hq : bd a q) : bd (2 * (a * a)) (cr p q) := by
  have := mul_bd hp.2.1 hq.2.2; have := mul_bd hp.2.2 hq.2.1; have := mul_bd hp.2.2 hq.1; have := mul_bd hp.1 hq.2.2; have := mul_bd hp.1 hq.2.1; have := mul_bd hp.2.1 hq.1
  unfold bd; simp only [cr]; omega

theorem W0 {n : Int} (h : -9223372036854775808 ≤ n ∧ n < 9223372036854775808) : W n = n := W_eq h.1 h.2
theorem fsb {p q : P3} (hp : bd 100000 p) (hq : bd 100000 q) : F147 p q = sb p q := by
  unfold bd at *; simp only [F147, sb]
  rw [W_eq (by omega) (by omega), W_eq (by omega) (by omega), W_eq (by omega) (by omega)]
theorem fdt {p q : P3} (hp : bd 1000000000 p) (hq : bd 1000000000 q) : F146 p q = dt p q := by
  have h1 := mul_bd hp.1 hq.1; have h2 := mul_bd hp.2.1 hq.2.1; have h3 := mul_bd hp.2.2 hq.2.2
  simp only [F146, F158_3, dt]
  rw [W_eq (n := p.1 * q.1) (by omega) (by omega), W_eq (n := p.2.1 * q.2.1) (by omega) (by omega), W_eq (n := p.2.2 * q.2.2) (by omega) (by omega), Int.zero_add, W_eq (n := p.1 * q.1) (by omega) (by omega), W_eq (n := p.1 * q.1 + p.2.1 * q.2.1) (by omega) (by omega), W_eq (by omega) (by omega)]
theorem rsb {p q : P3} (hp : bd 100000 p) (hq : bd 100000 q) : F152 p q = sb p q := by
  unfold bd at *; simp only [F152, sb]
  rw [W_eq (by omega) (by omega), W_eq (by omega) (by omega), W_eq (by omega) (by omega)]
theorem cr_W {p q : P3} (hp : bd 1000000000 p) (hq : bd 1000000000 q) :
    ((W ((W (p.2.1 * q.2.2)) - (W (p.2.2 * q.2.1)))), (W ((W (p.2.2 * q.1)) - (W (p.1 * q.2.2)))), (W ((W (p.1 * q.2.1)) - (W (p.2.1 * q.1))))) = cr p q := by
  have h1 := mul_bd hp.2.1 hq.2.2; have h2 := mul_bd hp.2.2 hq.2.1; have h3 := mul_bd hp.2.2 hq.1; have h4 := mul_bd hp.1 hq.2.2; have h5 := mul_bd hp.1 hq.2.1; have h6 := mul_bd hp.2.1 hq.1
  simp only [cr]
  rw [W_eq (n := p.2.1 * q.2.2) (by omega) (by omega), W_eq (n := p.2.2 * q.2.1) (by omega) (by omega), W_eq (n := p.2.2 * q.1) (by omega) (by omega), W_eq (n := p.1 * q.2.2) (by omega) (by omega), W_eq (n := p.1 * q.2.1) (by omega) (by omega), W_eq (n := p.2.1 * q.1) (by omega) (by omega),
    W_eq (by omega) (by omega), W_eq (by omega) (by omega), W_eq (by omega) (by omega)]
theorem scr {p q : P3} (hp : bd 1000000000 p) (hq : bd 1000000000 q) : F128 p q = cr p q := cr_W hp hq
theorem rcr {p q : P3} (hp : bd 1000000000 p) (hq : bd 1000000000 q) : F151 p q = cr p q := cr_W hp hq
theorem ssb {p q : P3} (hp : bd 100000 p) (hq : bd 100000 q) : F129 p q = sb p q := by
  unfold bd at *; simp only [F129, F157, sb]
  rw [W_eq (n := -1 * q.1) (by omega) (by omega), W_eq (n := -1 * q.2.1) (by omega) (by omega), W_eq (n := -1 * q.2.2) (by omega) (by omega), W_eq (by omega) (by omega), W_eq (by omega) (by omega), W_eq (by omega) (by omega)]
  refine Prod.ext (by simp only; omega) (Prod.ext (by simp only; omega) (by simp only; omega))
theorem bd.mono {a b : Int} {p : P3} (h : bd a p) (hab : a ≤ b) : bd b p := by unfold bd at *; omega
theorem bdP.mono {a b : Int} {p : PN} (h : bdP a p) (hab : a ≤ b) : bdP b p := ⟨h.1.mono hab, h.2.1.mono hab, h.2.2.mono hab⟩

/-! ### Valid panels -/
theorem within_eq (n a b : Int) : F43 n a b = decide (a ≤ n ∧ n ≤ b) := by
  unfold F43
  by_cases h1 : n ≥ a <;> by_cases h2 : n ≤ b <;> simp [h1, h2] <;> omega
theorem within_eq1 (n a b : Int) : F125 n a b = decide (a ≤ n ∧ n ≤ b) := by
  unfold F125
  by_cases h1 : n ≥ a <;> by_cases h2 : n ≤ b <;> simp [h1, h2] <;> omega
theorem within_eq2 (n a b : Int) : F150 n a b = decide (a ≤ n ∧ n ≤ b) := by
  unfold F150
  by_cases h1 : n ≥ a <;> by_cases h2 : n ≤ b <;> simp [h1, h2] <;> omega
theorem from_eq (n a b : Int) : F127 n a b = decide (a ≤ n ∧ n ≤ b) := by
  unfold F127
  by_cases h1 : a ≤ n <;> by_cases h2 : n ≤ b <;> simp [h1, h2]
theorem and3 {a b c d : Prop} [Decidable a] [Decidable b] [Decidable c] [Decidable d] (h : (a ∧ b ∧ c) ↔ d) : (bif decide a then (bif decide b then decide c else false) else false) = decide d := by
  by_cases h1 : a
  · by_cases h2 : b
    · rw [decide_eq_true h1, decide_eq_true h2, cond_true, cond_true]
      by_cases h3 : c
      · rw [decide_eq_true h3, decide_eq_true (h.1 ⟨h1, h2, h3⟩)]
      · rw [decide_eq_false h3, decide_eq_false (fun hd => h3 (h.2 hd).2.2)]
    · rw [decide_eq_true h1, decide_eq_false h2, cond_true, cond_false, decide_eq_false (fun hd => h2 (h.2 hd).2.1)]
  · rw [decide_eq_false h1, cond_false, decide_eq_false (fun hd => h1 (h.2 hd).1)]
theorem eq3 (x y z a b : Int) : (bif (((x : Int) == 0) && (((y : Int) == 0) && (((z : Int) == 0) && true))) then a else b) = if x = 0 ∧ y = 0 ∧ z = 0 then a else b := by
  have key : ∀ t : Int, (t == 0) = decide (t = 0) := fun t => by
    by_cases h : t = 0
    · rw [decide_eq_true h]; simpa using h
    · rw [decide_eq_false h]; simpa using h
  rw [key, key, key, Bool.and_true, ← Bool.decide_and, ← Bool.decide_and]
  by_cases h : x = 0 ∧ y = 0 ∧ z = 0
  · rw [if_pos h, decide_eq_true h, cond_true]
  · rw [if_neg h, decide_eq_false h, cond_false]
open Classical in
theorem inRange_eq (p : P3) : F95 p 64 = decide (bd 64 p) := by
  unfold F95
  rw [from_eq, from_eq, from_eq, W_eq (by omega) (by omega)]
  exact and3 (by unfold bd; omega)
open Classical in
theorem near02_eq (p : P3) : F111 p 64 = decide (bd 64 p) := by
  unfold F111
  rw [within_eq2, within_eq2, within_eq2, W_eq (by omega) (by omega)]
  exact and3 (by unfold bd; omega)
open Classical in
noncomputable def vp (p : PN) : Int := if bdP 64 p then (if (nrm p).1 = 0 ∧ (nrm p).2.1 = 0 ∧ (nrm p).2.2 = 0 then 6 else 0) else 1
theorem nrm_s {p : PN} (h : bdP 64 p) : F96 p = nrm p := by
  have h1 := h.1.mono (show (64 : Int) ≤ 100000 by omega); have h2 := h.2.1.mono (show (64 : Int) ≤ 100000 by omega); have h3 := h.2.2.mono (show (64 : Int) ≤ 100000 by omega)
  unfold F96 nrm
  rw [ssb h2 h1, ssb h3 h1]
  exact scr ((bd_sb h.2.1 h.1).mono (by omega)) ((bd_sb h.2.2 h.1).mono (by omega))
theorem nrm_r {p : PN} (h : bdP 64 p) : F112 p = nrm p := by
  have h1 := h.1.mono (show (64 : Int) ≤ 100000 by omega); have h2 := h.2.1.mono (show (64 : Int) ≤ 100000 by omega); have h3 := h.2.2.mono (show (64 : Int) ≤ 100000 by omega)
  unfold F112 nrm
  rw [rsb h2 h1, rsb h3 h1]
  exact rcr ((bd_sb h.2.1 h.1).mono (by omega)) ((bd_sb h.2.2 h.1).mono (by omega))
theorem vp_s (p : PN) : F66 p = vp p := by
  unfold F66 vp
  rw [inRange_eq, inRange_eq, inRange_eq]
  by_cases h1 : bd 64 p.1
  · by_cases h2 : bd 64 p.2.1
    · by_cases h3 : bd 64 p.2.2
      · have hb : bdP 64 p := ⟨h1, h2, h3⟩
        rw [nrm_s hb, if_pos hb]
        rw [eq3]; simp [h1, h2, h3]
      · simp [h1, h2, h3, bdP]
    · simp [h1, h2, bdP]
  · simp [h1, bdP]
theorem vp_r (p : PN) : F85 p = vp p := by
  unfold F85 vp
  rw [near02_eq, near02_eq, near02_eq]
  by_cases h1 : bd 64 p.1
  · by_cases h2 : bd 64 p.2.1
    · by_cases h3 : bd 64 p.2.2
      · have hb : bdP 64 p := ⟨h1, h2, h3⟩
        rw [nrm_r hb, if_pos hb]
        rw [eq3]; simp [h1, h2, h3]
      · simp [h1, h2, h3, bdP]
    · simp [h1, h2, bdP]
  · simp [h1, bdP]
/-- a valid panel -/
theorem vp_ok {p : PN} (h : vp p = 0) : bdP 64 p ∧ 1 ≤ dt (nrm p) (nrm p) := by
  unfold vp at h
  split at h
  · rename_i hb
    split at h
    · cases h
    · rename_i hn; exact ⟨hb, dt_pos hn⟩
  · cases h
theorem nn_bd {p : PN} (h : bdP 64 p) : bd 32768 (nrm p) ∧ dt (nrm p) (nrm p) ≤ 3221225472 := by
  have hb : bd (2 * (128 * 128)) (nrm p) := cr_bd (bd_sb h.2.1 h.1) (bd_sb h.2.2 h.1)
  exact ⟨hb.mono (by omega), by have := (dt_bd hb hb).2; omega⟩
end Go.Proofs.Ytopbnnmkdildgaa
