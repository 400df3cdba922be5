/-
  A part of the proofs of the Field laws: what functions of the program compute, and that it is what the statements ask. No premise.
-/
import Derived.Test.YtopbnnmkdildgaaMf
namespace Go.Proofs.Ytopbnnmkdildgaa
open Go.Proofs Go.Aw Go.RowKit
set_option maxRecDepth 100000
set_option linter.unusedVariables false
set_option linter.unusedSimpArgs false

/-! ### The program's mean is the reference's -/
theorem thenL_ok {of : Int → Int × Int} (ho : OfOk of) {x : P3} {l : List PN} {R : Type} {G G' : Int × Int → R} {v : Int × Int} {w : (Int × Int) ⊕ R}
    (hv : okv v l.length) (hw : ∀ u, w = .inl u → acc of x l v = .inl u) (h : ∀ u, okv u 0 → G u = G' u) : thenL G w = thenL G' w := by
  cases w with
  | inl u => exact h u (acc_ok ho hv (hw u rfl))
  | inr r => rfl
theorem cutL_in {p c : PN} {d : Int} (hp : bdP 64 p) (hd : 0 ≤ d ∧ d ≤ 3) (hc : c ∈ cutL d.toNat p) : bdP 512 c := by
  have key : ∀ k : Nat, k ≤ 3 → c ∈ cutL k p → bdP 512 c := by
    intro k hk hc
    have : k = 0 ∨ k = 1 ∨ k = 2 ∨ k = 3 := by omega
    rcases this with rfl | rfl | rfl | rfl <;> exact (cutL_bd (m := 64) _ hp (by decide) (by decide) hc).mono (by decide)
  exact key _ (by omega) hc
theorem okv_0 {p : PN} {d : Int} (hd : 0 ≤ d ∧ d ≤ 3) : okv (0, 0) (cutL d.toNat p).length := by
  have h := cnt_len hd p
  have h1 := cnt_in d
  unfold okv; simp only; omega
noncomputable def meanS (of : Int → Int × Int) (p : PN) (x : P3) (d : Int) : (Int × Int) × Int :=
  thenL (fun v => (avg v (sc d * sc d), 0)) (acc of (tm (sc d) x) (cutL d.toNat p) (0, 0))
section
variable {p : PN} {x : P3} {d : Int}
theorem mean1_f (hp : bdP 64 p) (hx : bd 256 x) (hd : 0 ≤ d ∧ d ≤ 3) : F80_f81 p x d = meanS (of1 (sc d)) p x d := by
  have hs := sc_bd d
  have hx' : bd 5000 (tm (sc d) x) := (bd_tm hs (by omega) hx).mono (by omega)
  have ho := of1_ok (sc_in d)
  have hk := okv_0 (p := p) hd
  unfold F80_f81 meanS
  rw [acc_runL ho (x := tm (sc d) x) (S := S80_f81_r p x d) (fun c hc v => ?_) hk]
  · refine thenL_ok ho hk (fun u h => h) (fun u hu => ?_)
    show (F108 u.1 u.2 _, (0 : Int)) = _
    rw [cnt_f hd, avg_f (cnt_in d) hu]
  · have hb := (cutL_in hp hd hc).mono (show (512 : Int) ≤ 5000 by omega)
    obtain ⟨v1, v2⟩ := v
    simp only [S80_f81_r]
    rw [sc_f hd, tm_f hs (hx.mono (by omega)), ne_f hb hx', fa_f hb hx']
    have h1 := fa_bd hb hx'; have h2 := ne_le c (tm (sc d) x)
    rw [one_f (sc_in d) (by omega), one_f (sc_in d) (by omega)]
    by_cases h : ne c (tm (sc d) x) = 0
    · rw [if_pos h, beq_iff_eq.2 h, cond_true]
    · rw [if_neg h, beq_eq_false_iff_ne.2 h, cond_false]
end
/-- Mean and MeanCube -/
noncomputable def meanV (of : Int → Int → Int × Int) (p : PN) (x : P3) (d : Int) : (Int × Int) × Int := if ck p x d = 0 then meanS (of (sc d)) p x d else ((0, 0), ck p x d)
theorem Mean_f (p : PN) (x : P3) (d : Int) : F40 p x d = meanV of1 p x d := by
  unfold F40 meanV
  rw [chk_eq]
  by_cases h : ck p x d = 0
  · obtain ⟨h1, h2, h3⟩ := ck_ok h
    rw [h, mean1_f (vp_ok h1).1 h2 h3]; rfl
  · rw [bne_iff_ne.2 h, if_neg h, cond_true]
end Go.Proofs.Ytopbnnmkdildgaa
