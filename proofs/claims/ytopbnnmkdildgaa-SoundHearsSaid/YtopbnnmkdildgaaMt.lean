/-
  A part of the proofs of the Field laws: what functions of the program compute, and that it is what the statements ask. No premise.
-/
import Derived.Test.YtopbnnmkdildgaaLt
namespace Go.Proofs.Ytopbnnmkdildgaa
open Go.Proofs Go.Aw Go.RowKit
set_option maxRecDepth 100000
set_option linter.unusedVariables false
set_option linter.unusedSimpArgs false

theorem sane_t : F18 = true := by kernel_rfl
/-! ### Travels -/
section
variable {n s t : Int}
theorem trav_step (hq : n ≤ 1000000) (hs : 1 ≤ s ∧ s ≤ 1000) (ht : 0 ≤ t ∧ t ≤ 1000) : S50_0 n s t = S47_0 n s t := by
  simp only [S50_0, S47_0]; rw [trav_sq hs ht, trav_sqr hs ht]
theorem trav_next {u : Int} (hq : n ≤ 1000000) (hs : 1 ≤ s ∧ s ≤ 1000) (ht : 0 ≤ t ∧ t ≤ 1000) (e : S47_0 n s t = .inl u) : s * t * (s * t) < n ∧ u = t + 1 ∧ t < 1000 := by
  simp only [S47_0] at e
  rw [trav_sq hs ht] at e
  by_cases h : s * t * (s * t) < n
  · have h1 := trav_lt hs ht hq h
    rw [decide_eq_true h, cond_true, W_eq (by omega) (by omega)] at e
    cases e; exact ⟨h, rfl, h1⟩
  · rw [decide_eq_false h] at e; cases e
theorem trav_eqF (hq : n ≤ 1000000) (hs : 1 ≤ s ∧ s ≤ 1000) : ∀ (f : Nat) (t : Int), 0 ≤ t ∧ t ≤ 1000 → loopF (S50_0 n s) f t = loopF (S47_0 n s) f t
  | 0, t, _ => rfl
  | f + 1, t, ht => by
    rw [show loopF (S50_0 n s) (f + 1) t = thenF (S50_0 n s) f (S50_0 n s t) from rfl, show loopF (S47_0 n s) (f + 1) t = thenF (S47_0 n s) f (S47_0 n s t) from rfl, trav_step hq hs ht]
    cases e : S47_0 n s t with
    | inr r => rfl
    | inl u =>
      have h := trav_next hq hs ht e
      exact trav_eqF hq hs f u (by omega)
theorem trav_eq (hq : n ≤ 1000000) (hs : 1 ≤ s ∧ s ≤ 1000) : F50 n s = F47 n s := trav_eqF hq hs _ _ (by omega)
end
open Classical in
theorem Travel_f (a b : P3) (s : Int) : F16 a b s = if bd 256 a ∧ bd 256 b ∧ (1 ≤ s ∧ s ≤ 16) then (F47 (ds a b) s, 0) else (0, 1) := by
  unfold F16
  rw [isP_f, isP_f, isS_f]
  by_cases h1 : bd 256 a
  · by_cases h2 : bd 256 b
    · by_cases h3 : 1 ≤ s ∧ s ≤ 16
      · rw [if_pos (show bd 256 a ∧ bd 256 b ∧ (1 ≤ s ∧ s ≤ 16) from ⟨h1, h2, h3⟩), dist_f (h1.mono (by omega)) (h2.mono (by omega))]; simp [h1, h2, h3]
      · simp [h1, h2, h3]
    · simp [h1, h2]
  · simp [h1]
open Classical in
theorem Travel_r (a b : P3) (s : Int) : F17 a b s = if bd 256 a ∧ bd 256 b ∧ (1 ≤ s ∧ s ≤ 16) then (F47 (ds a b) s, 0) else (0, 1) := by
  unfold F17
  rw [small_r, asked_r]
  by_cases h1 : bd 256 a
  · by_cases h2 : bd 256 b
    · by_cases h3 : 1 ≤ s ∧ s ≤ 16
      · rw [if_pos (show bd 256 a ∧ bd 256 b ∧ (1 ≤ s ∧ s ≤ 16) from ⟨h1, h2, h3⟩), dist_r (h1.mono (by omega)) (h2.mono (by omega)), trav_eq (by have := ds6 h1 h2 (by omega); omega) (by omega)]; simp [h1, h2, h3]
      · simp [h1, h2, h3]
    · simp [h1, h2]
  · by_cases h2 : bd 256 b <;> simp [h1, h2]
/-! ### From when to when -/
noncomputable def tmV (g : PN → P3 → Int) (p : PU) (x : P3) (s : Int) : Int × Int :=
  open Classical in if pv p = 0 then (if bd 256 x ∧ (1 ≤ s ∧ s ≤ 16) then (W (p.2.1 + F47 (g p.1 x) s), 0) else (0, 1)) else (0, pv p)
open Classical in
theorem tm_aux (g : PN → P3 → Int) (p : PU) (x : P3) (s : Int) (k : Int) (hk : POK p → bd 256 x → k = W (p.2.1 + F47 (g p.1 x) s)) :
    (bif (decide (bd 256 x)) then (bif ((F53_1 p (decide (1 ≤ s ∧ s ≤ 16)) : Int) != 0) then (0, F53_1 p (decide (1 ≤ s ∧ s ≤ 16))) else (k, 0)) else (bif ((F53_1 p false : Int) != 0) then (0, F53_1 p false) else (k, (0 : Int)))) = tmV g p x s := by
  rw [chk_1, chk_1]
  unfold tmV
  by_cases h : pv p = 0
  · rw [if_pos h, if_pos h, if_pos h]
    by_cases h1 : bd 256 x
    · by_cases h2 : 1 ≤ s ∧ s ≤ 16
      · rw [hk (pv_ok.1 h) h1]; simp [h1, h2]
      · simp [h1, h2]
    · simp [h1]
  · rw [if_neg h, if_neg h, if_neg h, bne_iff_ne.2 h]
    cases decide (bd 256 x) <;> rfl
theorem First_f (p : PU) (x : P3) (s : Int) : F19 p x s = tmV ne p x s := by
  unfold F19
  rw [isP_f, isS_f]
  refine tm_aux ne p x s _ (fun h1 h2 => ?_)
  unfold F54
  rw [sne_f ((pok_bd h1).mono (by omega)) (h2.mono (by omega))]
theorem Last_f (p : PU) (x : P3) (s : Int) : F21 p x s = tmV fa p x s := by
  unfold F21
  rw [isP_f, isS_f]
  refine tm_aux fa p x s _ (fun h1 h2 => ?_)
  unfold F57
  rw [sfa_f ((pok_bd h1).mono (by omega)) (h2.mono (by omega))]
open Classical in
theorem tm_auxr (g : PN → P3 → Int) (p : PU) (x : P3) (s : Int) (k : Int) (hk : POK p → bd 256 x → 1 ≤ s ∧ s ≤ 16 → k = W (p.2.1 + F47 (g p.1 x) s)) :
    (bif ((F55 p : Int) != 0) then (0, F55 p) else (bif ((F49 x s 0 0 : Int) != 0) then (0, F49 x s 0 0) else (k, (0 : Int)))) = tmV g p x s := by
  rw [one_e, asked_r]
  unfold tmV
  by_cases h : pv p = 0
  · rw [if_pos h, h]
    by_cases h1 : bd 256 x
    · by_cases h2 : 1 ≤ s ∧ s ≤ 16
      · rw [hk (pv_ok.1 h) h1 h2]; simp [h1, h2]
      · simp [h1, h2]
    · simp [h1]
  · rw [if_neg h, bne_iff_ne.2 h]; rfl
theorem First_r (p : PU) (x : P3) (s : Int) : F20 p x s = tmV ne p x s := by
  unfold F20
  refine tm_auxr ne p x s _ (fun h1 h2 h3 => ?_)
  have h6 := ner6 h1 h2
  rw [sne_r ((pok_bd h1).mono (by omega)) (h2.mono (by omega))] at h6 ⊢
  rw [trav_eq h6 (by omega)]
theorem Last_r (p : PU) (x : P3) (s : Int) : F22 p x s = tmV fa p x s := by
  unfold F22
  refine tm_auxr fa p x s _ (fun h1 h2 h3 => ?_)
  have h6 := far6 h1 h2
  rw [sfa_r ((pok_bd h1).mono (by omega)) (h2.mono (by omega))] at h6 ⊢
  rw [trav_eq h6 (by omega)]

end Go.Proofs.Ytopbnnmkdildgaa
