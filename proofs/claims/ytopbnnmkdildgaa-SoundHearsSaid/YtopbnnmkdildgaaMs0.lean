/-
  A part of the proofs of the Field laws: what functions of the program compute, and that it is what the statements ask. No premise.
-/
import Derived.Test.YtopbnnmkdildgaaLr
namespace Go.Proofs.Ytopbnnmkdildgaa
open Go.Proofs Go.Aw Go.RowKit
set_option maxRecDepth 100000
set_option linter.unusedVariables false
set_option linter.unusedSimpArgs false

/-! ### Sound: what the small functions say -/
theorem sqs_bd {s t : Int} (hs : 1 ≤ s ∧ s ≤ 1000) (ht : 0 ≤ t ∧ t ≤ 1000) : 0 ≤ s * t ∧ s * t ≤ 1000000 ∧ 0 ≤ s * t * (s * t) ∧ s * t * (s * t) ≤ 1000000000000 := by
  have h1 : 0 ≤ s * t := Int.mul_nonneg (by omega) (by omega)
  have h2 : s * t ≤ 1000 * 1000 := Int.mul_le_mul (by omega) (by omega) (by omega) (by omega)
  have h3 : s * t * (s * t) ≤ 1000000 * 1000000 := Int.mul_le_mul (by omega) (by omega) (by omega) (by omega)
  exact ⟨h1, by omega, Int.mul_nonneg h1 h1, by omega⟩
theorem square_f {n : Int} (h : -2000000000 ≤ n ∧ n ≤ 2000000000) : F83 n = n * n := by
  have h1 := mul_bd h h
  simp only [F83]; rw [W_eq (by omega) (by omega)]
theorem trav_sq {s t : Int} (hs : 1 ≤ s ∧ s ≤ 1000) (ht : 0 ≤ t ∧ t ≤ 1000) : F83 (W (s * t)) = s * t * (s * t) := by
  have h := sqs_bd hs ht
  rw [W_eq (by omega) (by omega), square_f (by omega)]
theorem trav_sqr {s t : Int} (hs : 1 ≤ s ∧ s ≤ 1000) (ht : 0 ≤ t ∧ t ≤ 1000) : W ((W ((W (s * s)) * t)) * t) = s * t * (s * t) := by
  have h := sqs_bd hs ht
  have h1 : 0 ≤ s * s := Int.mul_nonneg (by omega) (by omega)
  have h2 : s * s ≤ 1000 * 1000 := Int.mul_le_mul (by omega) (by omega) (by omega) (by omega)
  have h3 : 0 ≤ s * s * t := Int.mul_nonneg (by omega) (by omega)
  have h4 : s * s * t ≤ 1000000 * 1000 := Int.mul_le_mul (by omega) (by omega) (by omega) (by omega)
  have e : s * s * t * t = s * t * (s * t) := by grind
  rw [W_eq (n := s * s) (by omega) (by omega), W_eq (n := s * s * t) (by omega) (by omega), e, W_eq (by omega) (by omega)]
theorem trav_lt {s t n : Int} (hs : 1 ≤ s ∧ s ≤ 1000) (ht : 0 ≤ t ∧ t ≤ 1000) (hn : n ≤ 1000000) : s * t * (s * t) < n → t < 1000 := by
  intro h
  rcases Int.lt_or_le t 1000 with h' | h'
  · exact h'
  · have e : t = 1000 := by omega
    subst e
    have h2 : 1000 * 1000 ≤ s * 1000 * (s * 1000) := Int.mul_le_mul (by omega) (by omega) (by omega) (by omega)
    omega
theorem trav_f {s t n : Int} (hs : 1 ≤ s ∧ s ≤ 1000) (ht : 0 ≤ t ∧ t ≤ 1000) (hn : n ≤ 1000000) : F83 (W (s * t)) < n → t < 1000 := by
  rw [trav_sq hs ht]; exact trav_lt hs ht hn
theorem trav_r {s t n : Int} (hs : 1 ≤ s ∧ s ≤ 1000) (ht : 0 ≤ t ∧ t ≤ 1000) (hn : n ≤ 1000000) : W ((W ((W (s * s)) * t)) * t) < n → t < 1000 := by
  rw [trav_sqr hs ht]; exact trav_lt hs ht hn
theorem pa_d {d : Int} (h : d ≠ 0) (ha : 0 ≤ d ∧ d ≤ 3) : (0 ≤ W (d - 1) ∧ W (d - 1) ≤ 3) ∧ Int.toNat (W (d - 1)) + 1 = Int.toNat d := by
  rw [W_eq (by omega) (by omega)]; omega
/-! distances -/
theorem dist_f {p q : P3} (hp : bd 5000 p) (hq : bd 5000 q) : F48 p q = ds p q := by
  have h : bd 10000 (sb p q) := bd_sb hp hq
  have h1 := mul_bd h.1 h.1; have h2 := mul_bd h.2.1 h.2.1; have h3 := mul_bd h.2.2 h.2.2
  have n1 := sq_nn (sb p q).1; have n2 := sq_nn (sb p q).2.1; have n3 := sq_nn (sb p q).2.2
  have e1 : W (p.1 - q.1) = (sb p q).1 := W_eq (by have := h.1; simp only [sb] at this; omega) (by have := h.1; simp only [sb] at this; omega)
  have e2 : W (p.2.1 - q.2.1) = (sb p q).2.1 := W_eq (by have := h.2.1; simp only [sb] at this; omega) (by have := h.2.1; simp only [sb] at this; omega)
  have e3 : W (p.2.2 - q.2.2) = (sb p q).2.2 := W_eq (by have := h.2.2; simp only [sb] at this; omega) (by have := h.2.2; simp only [sb] at this; omega)
  unfold F48
  rw [e1, e2, e3, square_f (by have := h.1; omega), square_f (by have := h.2.1; omega), square_f (by have := h.2.2; omega), sum3 (by omega) (by omega) (by omega)]; rfl
theorem sqr_r {v : P3} (h : bd 10000 v) : F51 v = dt v v := by
  have h1 := mul_bd h.1 h.1; have h2 := mul_bd h.2.1 h.2.1; have h3 := mul_bd h.2.2 h.2.2
  have n1 := sq_nn v.1; have n2 := sq_nn v.2.1; have n3 := sq_nn v.2.2
  unfold F51
  rw [W_eq (n := v.1 * v.1) (by omega) (by omega), W_eq (n := v.2.1 * v.2.1) (by omega) (by omega), W_eq (n := v.2.2 * v.2.2) (by omega) (by omega), sum3 (by omega) (by omega) (by omega)]; rfl
theorem min_r {p q : P3} (hp : bd 5000 p) (hq : bd 5000 q) : F52 p q = sb p q := by
  unfold bd at hp hq
  unfold F52
  rw [W_eq (n := p.1 - q.1) (by omega) (by omega), W_eq (n := p.2.1 - q.2.1) (by omega) (by omega), W_eq (n := p.2.2 - q.2.2) (by omega) (by omega)]; rfl
theorem dist_r {p q : P3} (hp : bd 5000 p) (hq : bd 5000 q) : F51 (F52 p q) = ds p q := by
  rw [min_r hp hq, sqr_r (bd_sb hp hq)]; rfl
theorem ds_comm (p q : P3) : ds p q = ds q p := by simp only [ds, dt, sb]; grind
theorem gap_s {x a b c : Int} (hx : -5000 ≤ x ∧ x ≤ 5000) (hl : -5000 ≤ lo3 a b c ∧ lo3 a b c ≤ 5000) (hh : -5000 ≤ hi3 a b c ∧ hi3 a b c ≤ 5000) : F110_3 x (a, b, c) = gp (lo3 a b c) (hi3 a b c) x x := by
  show mx (mx 0 (W (lo3 a b c - x))) (W (x - hi3 a b c)) = _
  rw [W_eq (by omega) (by omega), W_eq (by omega) (by omega)]
  unfold gp mx; repeat' split <;> omega
theorem gap_t {x l h : Int} (hx : -5000 ≤ x ∧ x ≤ 5000) (hl : -5000 ≤ l ∧ l ≤ 5000) (hh : -5000 ≤ h ∧ h ≤ 5000) : F86 x l h = gp l h x x := by
  unfold F86
  rw [W_eq (n := l - x) (by omega) (by omega), W_eq (n := x - h) (by omega) (by omega)]
  unfold gp mx; repeat' split <;> omega
theorem lo3' (a b c : Int) : (if c < (if b < a then b else a) then c else (if b < a then b else a)) = lo3 a b c := by unfold lo3; simp only [Int.lt_irrefl, if_false]
theorem hi3' (a b c : Int) : (if (if a < b then b else a) < c then c else (if a < b then b else a)) = hi3 a b c := by unfold hi3; simp only [Int.lt_irrefl, if_false]
theorem sne_f {c : PN} {x : P3} (hc : bdP 5000 c) (hx : bd 5000 x) : F84 c x = ne c x := by
  have hl := blo_bd hc; have hh := bhi_bd hc
  have h1 := gp_bd hl.1 hh.1 hx.1 hx.1; have h2 := gp_bd hl.2.1 hh.2.1 hx.2.1 hx.2.1; have h3 := gp_bd hl.2.2 hh.2.2 hx.2.2 hx.2.2
  have m1 := mul_bd (a := 10000) (b := 10000) ⟨by omega, h1.2⟩ ⟨by omega, h1.2⟩; have m2 := mul_bd (a := 10000) (b := 10000) ⟨by omega, h2.2⟩ ⟨by omega, h2.2⟩; have m3 := mul_bd (a := 10000) (b := 10000) ⟨by omega, h3.2⟩ ⟨by omega, h3.2⟩
  have n1 := Int.mul_nonneg h1.1 h1.1; have n2 := Int.mul_nonneg h2.1 h2.1; have n3 := Int.mul_nonneg h3.1 h3.1
  unfold F84
  rw [gap_s hx.1 hl.1 hh.1, gap_s hx.2.1 hl.2.1 hh.2.1, gap_s hx.2.2 hl.2.2 hh.2.2]
  change W (W (F83 (gp (blo c).1 (bhi c).1 x.1 x.1) + F83 (gp (blo c).2.1 (bhi c).2.1 x.2.1 x.2.1)) + F83 (gp (blo c).2.2 (bhi c).2.2 x.2.2 x.2.2)) = _
  rw [square_f (by omega), square_f (by omega), square_f (by omega), sum3 (by omega) (by omega) (by omega)]; rfl
theorem sne_r {c : PN} {x : P3} (hc : bdP 5000 c) (hx : bd 5000 x) : F56 c x = ne c x := by
  have hl := blo_bd hc; have hh := bhi_bd hc
  have h1 := gp_bd hl.1 hh.1 hx.1 hx.1; have h2 := gp_bd hl.2.1 hh.2.1 hx.2.1 hx.2.1; have h3 := gp_bd hl.2.2 hh.2.2 hx.2.2 hx.2.2
  unfold F56
  rw [lo3', lo3', lo3', hi3', hi3', hi3']
  change F51 (F86 x.1 (blo c).1 (bhi c).1, F86 x.2.1 (blo c).2.1 (bhi c).2.1, F86 x.2.2 (blo c).2.2 (bhi c).2.2) = _
  rw [gap_t hx.1 hl.1 hh.1, gap_t hx.2.1 hl.2.1 hh.2.1, gap_t hx.2.2 hl.2.2 hh.2.2, sqr_r (by unfold bd; simp only; omega)]; rfl
theorem sfa_f {c : PN} {x : P3} (hc : bdP 5000 c) (hx : bd 5000 x) : F87 c x = fa c x := by
  show mx (mx (mx 0 (F48 c.1 x)) (F48 c.2.1 x)) (F48 c.2.2 x) = _
  rw [dist_f hc.1 hx, dist_f hc.2.1 hx, dist_f hc.2.2 hx]; rfl
theorem ds_nn (p q : P3) : 0 ≤ ds p q := dt_self _
theorem sfa_r {c : PN} {x : P3} (hc : bdP 5000 c) (hx : bd 5000 x) : F58 c x = fa c x := by
  unfold F58
  rw [dist_r hc.1 hx, dist_r hc.2.1 hx, dist_r hc.2.2 hx]
  show mx (mx (ds c.1 x) (ds c.2.1 x)) (ds c.2.2 x) = mx (mx (mx 0 (ds c.1 x)) (ds c.2.1 x)) (ds c.2.2 x)
  rw [show mx 0 (ds c.1 x) = ds c.1 x by unfold mx; have := ds_nn c.1 x; split <;> omega]
/-! what is asked -/
theorem sfrom_eq (n a b : Int) : F63 n a b = decide (a ≤ n ∧ n ≤ b) := by
  unfold F63
  by_cases h1 : a ≤ n <;> by_cases h2 : n ≤ b <;> simp [h1, h2]
theorem win8 (n a b : Int) : F65 n a b = decide (a ≤ n ∧ n ≤ b) := by
  unfold F65
  by_cases h1 : a ≤ n <;> by_cases h2 : n ≤ b <;> simp [h1, h2]
open Classical in
theorem isP_f (x : P3) : F45 x = decide (bd 256 x) := by
  unfold F45
  rw [sfrom_eq, sfrom_eq, sfrom_eq]
  exact and3 Iff.rfl
theorem isS_f (n : Int) : F46 n = decide (1 ≤ n ∧ n ≤ 16) := by unfold F46; exact sfrom_eq _ _ _
theorem w256 : W (0 - 256) = -256 := rfl
theorem size_r {n : Int} (h : F73 n ≤ 256) (h2 : n ≥ -256) : -256 ≤ n ∧ n ≤ 256 := by
  unfold F73 at h
  split at h <;> omega
theorem size_l {n : Int} (h : -256 ≤ n ∧ n ≤ 256) : F73 n ≤ 256 := by
  unfold F73
  rw [W_eq (by omega) (by omega)]
  split <;> omega
theorem small_iff (x : P3) : F36 x 256 = true ↔ bd 256 x := by
  unfold F36 bd
  rw [w256]
  constructor
  · intro h
    by_cases h1 : F73 x.1 ≤ 256 <;> by_cases h2 : F73 x.2.1 ≤ 256 <;> by_cases h3 : F73 x.2.2 ≤ 256 <;> simp [h1, h2, h3] at h
    exact ⟨size_r h1 h.1, size_r h2 h.2.1, size_r h3 h.2.2⟩
  · intro h
    have h1 := size_l h.1; have h2 := size_l h.2.1; have h3 := size_l h.2.2
    simp [h1, h2, h3, h.1.1, h.2.1.1, h.2.2.1]
open Classical in
theorem small_r (x : P3) : F36 x 256 = decide (bd 256 x) := by
  by_cases h : bd 256 x
  · rw [(small_iff x).2 h]; simp [h]
  · rw [Bool.eq_false_iff.2 (fun e => h ((small_iff x).1 e))]; simp [h]
open Classical in
theorem asked_r (x : P3) (s t d : Int) : F49 x s t d = if bd 256 x ∧ (1 ≤ s ∧ s ≤ 16) ∧ (0 ≤ t ∧ t ≤ 2000) ∧ (0 ≤ d ∧ d ≤ 3) then 0 else 1 := by
  unfold F49
  rw [small_r, win8, win8, win8]
  by_cases h1 : bd 256 x <;> by_cases h2 : 1 ≤ s ∧ s ≤ 16 <;> by_cases h3 : 0 ≤ t ∧ t ≤ 2000 <;> by_cases h4 : 0 ≤ d ∧ d ≤ 3 <;> simp [h1, h2, h3, h4]
abbrev PU := PN × Int × Int
/-- the error of a pulse -/
noncomputable def pv (p : PU) : Int := if vp p.1 = 0 then (if (0 ≤ p.2.1 ∧ p.2.1 ≤ 1000) ∧ (-100 ≤ p.2.2 ∧ p.2.2 ≤ 100) then 0 else 1) else vp p.1
theorem pv_aux (v : Int) (a b : Prop) [Decidable a] [Decidable b] : (bif (v != 0) then v else (bif (!(decide a)) then 1 else (bif (!(decide b)) then (1 : Int) else 0))) = if v = 0 then (if a ∧ b then 0 else 1) else v := by
  by_cases h : v = 0
  · subst h; by_cases ha : a <;> by_cases hb : b <;> simp [ha, hb]
  · rw [bne_iff_ne.2 h, if_neg h]; rfl
theorem vpul_1 (p : PU) : F27_1 p = pv p := by
  unfold F27_1
  rw [vp_s, sfrom_eq, sfrom_eq]; exact pv_aux _ _ _
theorem one_e (p : PU) : F55 p = pv p := by
  unfold F55
  rw [vp_r, win8, win8]; exact pv_aux _ _ _
theorem chk_1 (p : PU) (b : Bool) : F53_1 p b = if pv p = 0 then (if b = true then 0 else 1) else pv p := by
  unfold F53_1
  rw [vpul_1]
  by_cases h : pv p = 0
  · rw [h]; cases b <;> simp
  · rw [bne_iff_ne.2 h, if_neg h]; rfl
def POK (p : PU) : Prop := vp p.1 = 0 ∧ (0 ≤ p.2.1 ∧ p.2.1 ≤ 1000) ∧ (-100 ≤ p.2.2 ∧ p.2.2 ≤ 100)
theorem pv_ok {p : PU} : pv p = 0 ↔ POK p := by
  unfold pv POK
  constructor
  · intro h
    split at h
    · split at h
      · rename_i h1 h2; exact ⟨h1, h2⟩
      · cases h
    · rename_i h1; exact absurd h h1
  · intro h; rw [if_pos h.1, if_pos h.2]
theorem ckb_p {p : PU} {b : Bool} (h : ((F53_1 p b : Int) != 0) = false) : POK p := by
  have h := bne_eq_false_iff_eq.1 h
  rw [chk_1] at h
  split at h
  · rename_i h1; exact pv_ok.1 h1
  · rename_i h1; exact absurd h h1
theorem ckb_b {p : PU} {b : Bool} (h : ((F53_1 p b : Int) != 0) = false) : b = true := by
  have h := bne_eq_false_iff_eq.1 h
  rw [chk_1] at h
  split at h
  · split at h
    · assumption
    · cases h
  · rename_i h1; exact absurd h h1
theorem one_p {p : PU} (h : ((F55 p : Int) != 0) = false) : POK p := by
  have h := bne_eq_false_iff_eq.1 h
  rw [one_e] at h; exact pv_ok.1 h
theorem ask_p {x : P3} {s t d : Int} (h : ((F49 x s t d : Int) != 0) = false) : bd 256 x ∧ (1 ≤ s ∧ s ≤ 16) ∧ (0 ≤ t ∧ t ≤ 2000) ∧ (0 ≤ d ∧ d ≤ 3) := by
  have h := bne_eq_false_iff_eq.1 h
  rw [asked_r] at h
  split at h
  · assumption
  · cases h
theorem isp_p {x : P3} (h : F45 x = true) : bd 256 x := by rw [isP_f] at h; simpa using h
theorem isp_n {x : P3} (h : (!(F45 x)) = false) : bd 256 x := isp_p (by simpa using h)
theorem iss_p {n : Int} (h : F46 n = true) : 1 ≤ n ∧ n ≤ 16 := by rw [isS_f] at h; simpa using h
theorem iss_n {n : Int} (h : (!(F46 n)) = false) : 1 ≤ n ∧ n ≤ 16 := iss_p (by simpa using h)
theorem sml_n {x : P3} (h : (!(F36 x 256)) = false) : bd 256 x := (small_iff x).1 (by simpa using h)
/-! how far sound goes -/
theorem ds6 {m : Int} {p q : P3} (hp : bd m p) (hq : bd 256 q) (hm : 0 ≤ m ∧ m ≤ 256) : ds p q ≤ 786432 := by
  have h : bd 512 (sb p q) := (bd_sb hp hq).mono (by omega)
  have h1 := (dt_bd h h).2
  have : ds p q = dt (sb p q) (sb p q) := rfl
  omega
theorem fa6 {c : PN} {x : P3} (hc : bdP 64 c) (hx : bd 256 x) : fa c x ≤ 786432 :=
  mx_le (mx_le (mx_le (by omega) (ds6 hc.1 hx (by omega))) (ds6 hc.2.1 hx (by omega))) (ds6 hc.2.2 hx (by omega))
theorem tra_f {p q : P3} (hp : bd 256 p) (hq : bd 256 q) : F48 p q ≤ 1000000 := by
  rw [dist_f (hp.mono (by omega)) (hq.mono (by omega))]; have := ds6 hp hq (by omega); omega
theorem tra_r {p q : P3} (hp : bd 256 p) (hq : bd 256 q) : F51 (F52 p q) ≤ 1000000 := by
  rw [dist_r (hp.mono (by omega)) (hq.mono (by omega))]; have := ds6 hp hq (by omega); omega
theorem pok_bd {p : PU} (h : POK p) : bdP 64 p.1 := (vp_ok h.1).1
theorem nef6 {p : PU} {x : P3} (h : POK p) (hx : bd 256 x) : F84 p.1 x ≤ 1000000 := by
  rw [sne_f ((pok_bd h).mono (by omega)) (hx.mono (by omega))]; have := (ne_le p.1 x).2; have := fa6 (pok_bd h) hx; omega
theorem ner6 {p : PU} {x : P3} (h : POK p) (hx : bd 256 x) : F56 p.1 x ≤ 1000000 := by
  rw [sne_r ((pok_bd h).mono (by omega)) (hx.mono (by omega))]; have := (ne_le p.1 x).2; have := fa6 (pok_bd h) hx; omega
theorem faf6 {p : PU} {x : P3} (h : POK p) (hx : bd 256 x) : F87 p.1 x ≤ 1000000 := by
  rw [sfa_f ((pok_bd h).mono (by omega)) (hx.mono (by omega))]; have := fa6 (pok_bd h) hx; omega
theorem far6 {p : PU} {x : P3} (h : POK p) (hx : bd 256 x) : F58 p.1 x ≤ 1000000 := by
  rw [sfa_r ((pok_bd h).mono (by omega)) (hx.mono (by omega))]; have := fa6 (pok_bd h) hx; omega

end Go.Proofs.Ytopbnnmkdildgaa
