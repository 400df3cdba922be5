/-
  Parts of the proofs of the laws: the executor, what functions of the program compute, and that it is what the statements ask. No premise.
-/
import Derived.Test.YtopbnnmkdildgaaVPwa2
import Derived.Deep.Slices
import Derived.ProofKit
import Derived.RowKit
namespace Go.Proofs.Ytopbnnmkdildgaa
open Go.Proofs Go.Aw Go.RowKit
set_option maxRecDepth 100000
set_option linter.unusedVariables false
set_option linter.unusedSimpArgs false

/-! ### Scales -/
def sc (d : Int) : Int := if d = 0 then 1 else if d = 1 then 2 else if d = 2 then 4 else 8
theorem d4 {d : Int} (h : 0 ≤ d ∧ d ≤ 3) : d = 0 ∨ d = 1 ∨ d = 2 ∨ d = 3 := by omega
theorem sc_f {d : Int} (h : 0 ≤ d ∧ d ≤ 3) : W (1 * 2 ^ (min (Int.toNat d) 64)) = sc d := by
  rcases d4 h with rfl | rfl | rfl | rfl <;> kernel_rfl
theorem cnt_len {d : Int} (h : 0 ≤ d ∧ d ≤ 3) (p : PN) : (((cutL d.toNat p).length : Nat) : Int) = sc d * sc d := by
  rw [cutL_len]; rcases d4 h with rfl | rfl | rfl | rfl <;> kernel_rfl
theorem sc_in (d : Int) : sc d = 1 ∨ sc d = 2 ∨ sc d = 4 ∨ sc d = 8 := by unfold sc; (repeat' split) <;> simp
theorem sc_bd (d : Int) : 1 ≤ sc d ∧ sc d ≤ 8 := by have := sc_in d; omega
def tm (s : Int) (p : P3) : P3 := (s * p.1, s * p.2.1, s * p.2.2)
theorem bd_tm {s m : Int} {p : P3} (hs : 1 ≤ s ∧ s ≤ 8) (hm : 0 ≤ m) (hp : bd m p) : bd (8 * m) (tm s p) := by
  have h1 := mul_bd (a := 8) (b := m) (x := s) (y := p.1) (by omega) hp.1
  have h2 := mul_bd (a := 8) (b := m) (x := s) (y := p.2.1) (by omega) hp.2.1
  have h3 := mul_bd (a := 8) (b := m) (x := s) (y := p.2.2) (by omega) hp.2.2
  exact ⟨h1, h2, h3⟩
theorem tm_W {s : Int} {p : P3} (hs : 1 ≤ s ∧ s ≤ 8) (hp : bd 4096 p) : ((W (s * p.1)), (W (s * p.2.1)), (W (s * p.2.2))) = tm s p := by
  have h := bd_tm hs (by omega) hp
  have h1 := h.1; have h2 := h.2.1; have h3 := h.2.2
  simp only [tm] at h1 h2 h3
  unfold tm
  rw [W_eq (n := s * p.1) (by omega) (by omega), W_eq (n := s * p.2.1) (by omega) (by omega), W_eq (n := s * p.2.2) (by omega) (by omega)]
/-! ### Spans of numbers that are small -/
theorem res_f {a b : Int} (h1 : -1099511627776 ≤ a) (h2 : a ≤ b) (h3 : b ≤ 1099511627776) : F78 a b = ((a, b), 0) := by
  unfold F78 F102
  rw [decide_eq_true (show (a, b).1 ≥ -1099511627776 from h1), decide_eq_true (show (a, b).1 ≤ (a, b).2 from h2), decide_eq_true (show (a, b).2 ≤ 1099511627776 from h3)]; rfl
/-! ### Roots of quotients -/
noncomputable def inv (N n : Int) : Int × Int :=
  (F149 (N / n), if F149 (N / n) * F149 (N / n) * n = N then F149 (N / n) else F149 (N / n) + 1)
theorem quo_bd {N n : Int} (hN : 0 ≤ N) (hn : 1 ≤ n) : 0 ≤ N / n ∧ N / n ≤ N ∧ (N / n) * n ≤ N := by
  have h1 : 0 ≤ N / n := Int.ediv_nonneg hN (by omega)
  have h2 : (N / n) * n ≤ N := Int.ediv_mul_le N (by omega)
  have h3 : (N / n) * 1 ≤ (N / n) * n := Int.mul_le_mul_of_nonneg_left hn h1
  omega
theorem inv_facts {N n : Int} (hN : 0 ≤ N ∧ N ≤ 288230376151711744) (hn : 1 ≤ n) :
    ∃ k, F149 (N / n) = k ∧ IsRt (N / n) k ∧ 0 ≤ k ∧ k ≤ 536870912 ∧ 0 ≤ k * k ∧ k * k ≤ N / n ∧ 0 ≤ k * k * n ∧ k * k * n ≤ N := by
  obtain ⟨h1, h2, h3⟩ := quo_bd hN.1 hn
  have h := rtSpan (n := N / n) h1 (by omega)
  have h4 := h.le (m := 536870912) (by omega) (by omega)
  have h5 : 0 ≤ F149 (N / n) * F149 (N / n) := Int.mul_nonneg h.1 h.1
  exact ⟨_, rfl, h, h.1, h4, h5, h.2.1, Int.mul_nonneg h5 (by omega), Int.le_trans (Int.mul_le_mul_of_nonneg_right h.2.1 (by omega)) h3⟩
theorem inv_f {N n : Int} (hN : 0 ≤ N ∧ N ≤ 288230376151711744) (hn : 1 ≤ n) : F109 N n = (inv N n, 0) := by
  obtain ⟨k, hk, _, k0, k1, k2, k3, k4, k5⟩ := inv_facts hN hn
  obtain ⟨h1, h2, h3⟩ := quo_bd hN.1 hn
  unfold F109 inv
  rw [Int.tdiv_eq_ediv_of_nonneg hN.1, W_eq (n := N / n) (by omega) (by omega), hk, W_eq (n := k * k) (by omega) (by omega), W_eq (n := k * k * n) (by omega) (by omega), W_eq (n := k + 1) (by omega) (by omega),
    res_f (by omega) (Int.le_refl k) (by omega), res_f (by omega) (by omega) (by omega)]
  by_cases h : k * k * n = N
  · rw [if_pos h, beq_iff_eq.2 h]; rfl
  · rw [if_neg h, beq_eq_false_iff_ne.2 h]; rfl
theorem inv_bd {N n : Int} (hN : 0 ≤ N ∧ N ≤ 288230376151711744) (hn : 1 ≤ n) : 0 ≤ (inv N n).1 ∧ (inv N n).1 ≤ (inv N n).2 ∧ (inv N n).2 ≤ 536870913 := by
  obtain ⟨k, hk, _, k0, k1, _⟩ := inv_facts hN hn
  unfold inv
  rw [hk]
  simp only
  split <;> omega
theorem inv_mono {N n m : Int} (hN : 0 ≤ N ∧ N ≤ 288230376151711744) (hn : 1 ≤ n) (hm : n ≤ m) : (inv N m).1 ≤ (inv N n).1 := by
  obtain ⟨h1, h2, h3⟩ := quo_bd hN.1 hn
  obtain ⟨g1, g2, g3⟩ := quo_bd (n := m) hN.1 (by omega)
  have h : N / m ≤ N / n := by
    refine Int.le_ediv_of_mul_le (by omega) (Int.le_trans (Int.mul_le_mul_of_nonneg_left hm g1) g3)
  exact (rtSpan g1 (by omega)).mono (rtSpan h1 (by omega)) h
def NN (s : Int) : Int := s * s * 1099511627776
theorem NN_bd {s : Int} (h : s = 1 ∨ s = 2 ∨ s = 4 ∨ s = 8) : 0 ≤ NN s ∧ NN s ≤ 288230376151711744 := by rcases h with rfl | rfl | rfl | rfl <;> decide
noncomputable def of1 (s n : Int) : Int × Int := if n < 1 then (0, 0) else inv (NN s) n
theorem lt8 {s : Int} (h : s = 1 ∨ s = 2 ∨ s = 4 ∨ s = 8) : decide (s < 1) = false ∧ decide (s > 8) = false ∧ F125 s 1 8 = true := by
  rcases h with rfl | rfl | rfl | rfl <;> decide
/-- what a function of the distance must be -/
structure OfOk (of : Int → Int × Int) : Prop where
  lo : ∀ n, 0 ≤ (of n).1
  le : ∀ n, (of n).1 ≤ (of n).2
  hi : ∀ n, (of n).2 ≤ 536870913
  mono : ∀ n m, 1 ≤ n → n ≤ m → (of m).1 ≤ (of n).1
theorem of1_ok {s : Int} (hs : s = 1 ∨ s = 2 ∨ s = 4 ∨ s = 8) : OfOk (of1 s) := by
  have hb : ∀ n, 0 ≤ (of1 s n).1 ∧ (of1 s n).1 ≤ (of1 s n).2 ∧ (of1 s n).2 ≤ 536870913 := by
    intro n
    unfold of1
    split
    · simp
    · exact inv_bd (NN_bd hs) (by omega)
  refine ⟨fun n => (hb n).1, fun n => (hb n).2.1, fun n => (hb n).2.2, fun n m h1 h2 => ?_⟩
  unfold of1
  rw [if_neg (by omega), if_neg (by omega)]
  exact inv_mono (NN_bd hs) h1 h2
end Go.Proofs.Ytopbnnmkdildgaa

namespace Go.Proofs.Ytopbnnmkdildgaa
open Go.Proofs Go.Aw Go.RowKit
set_option maxRecDepth 100000
set_option linter.unusedVariables false
set_option linter.unusedSimpArgs false

/-! ### The mean -/
def fa (c : PN) (x : P3) : Int := mx (mx (mx 0 (ds c.1 x)) (ds c.2.1 x)) (ds c.2.2 x)
def ne (c : PN) (x : P3) : Int := nr (blo c) (bhi c) x x
theorem ds_bd {p q : P3} (hp : bd 5000 p) (hq : bd 5000 q) : 0 ≤ ds p q ∧ ds p q ≤ 300000000 := by
  have h := bd_sb hp hq
  have := dt_bd h h
  exact ⟨dt_self _, by unfold ds; omega⟩
theorem fa_bd {c : PN} {x : P3} (hc : bdP 5000 c) (hx : bd 5000 x) : 0 ≤ fa c x ∧ fa c x ≤ 300000000 :=
  ⟨Int.le_trans (le_mx1 0 _) (Int.le_trans (le_mx1 _ _) (le_mx1 _ _)), mx_le (mx_le (mx_le (by omega) (ds_bd hc.1 hx).2) (ds_bd hc.2.1 hx).2) (ds_bd hc.2.2 hx).2⟩
theorem sq_le {a b : Int} (ha : 0 ≤ a) (h : a ≤ b ∨ a ≤ -b) : a * a ≤ b * b := by
  rcases h with h | h
  · exact Int.mul_le_mul h h ha (by omega)
  · have := Int.mul_le_mul h h ha (by omega)
    rwa [Int.neg_mul_neg] at this
theorem gp_le {a b c x : Int} (h1 : a ≤ c) (h2 : c ≤ b) : gp a b x x * gp a b x x ≤ (c - x) * (c - x) := by
  refine sq_le (gp_nn _ _ _ _) ?_
  unfold gp mx
  (repeat' split) <;> omega
theorem nr_nn (a b c d : P3) : 0 ≤ nr a b c d := by
  have h1 := sq_nn (gp a.1 b.1 c.1 d.1); have h2 := sq_nn (gp a.2.1 b.2.1 c.2.1 d.2.1); have h3 := sq_nn (gp a.2.2 b.2.2 c.2.2 d.2.2)
  unfold nr; omega
theorem ne_le (c : PN) (x : P3) : 0 ≤ ne c x ∧ ne c x ≤ fa c x := by
  refine ⟨nr_nn _ _ _ _, Int.le_trans ?_ (Int.le_trans (le_mx2 _ _) (Int.le_trans (le_mx1 _ (ds c.2.1 x)) (le_mx1 _ (ds c.2.2 x))))⟩
  have h1 := gp_le (x := x.1) (lo3_le c.1.1 c.2.1.1 c.2.2.1).1 (le_hi3 c.1.1 c.2.1.1 c.2.2.1).1
  have h2 := gp_le (x := x.2.1) (lo3_le c.1.2.1 c.2.1.2.1 c.2.2.2.1).1 (le_hi3 c.1.2.1 c.2.1.2.1 c.2.2.2.1).1
  have h3 := gp_le (x := x.2.2) (lo3_le c.1.2.2 c.2.1.2.2 c.2.2.2.2).1 (le_hi3 c.1.2.2 c.2.1.2.2 c.2.2.2.2).1
  unfold ne nr ds dt sb
  simp only [blo, bhi]
  omega
/-- the sums over parts -/
noncomputable def acc (of : Int → Int × Int) (x : P3) : List PN → Int × Int → (Int × Int) ⊕ ((Int × Int) × Int)
  | [], v => .inl v
  | c :: l, v => if ne c x = 0 then .inr ((0, 0), 10) else acc of x l (v.1 + (of (fa c x)).1, v.2 + (of (ne c x)).2)
/-- sums that are not out of range -/
def okv (v : Int × Int) (n : Nat) : Prop := 0 ≤ v.1 ∧ v.1 ≤ v.2 ∧ v.2 + 536870913 * n ≤ 34359738432
/-! division by small numbers -/
theorem dn_f {a n : Int} (hn : n = 1 ∨ n = 4 ∨ n = 16 ∨ n = 64) (ha : -1099511627776 ≤ a ∧ a ≤ 1099511627776) : F115 a n = a / n := by
  unfold F115
  have h0 : ∀ b : Int, decide (n < 0) = false := fun _ => decide_eq_false (by omega)
  rw [h0 0]
  have key : (bif ((Int.tmod a n : Int) != 0) then (bif (!(decide (a < 0) == false)) then W (W (Int.tdiv a n) - 1) else W (Int.tdiv a n)) else W (Int.tdiv a n)) = if Int.tmod a n ≠ 0 ∧ a < 0 then W (W (Int.tdiv a n) - 1) else W (Int.tdiv a n) := by
    by_cases h1 : Int.tmod a n = 0
    · rw [h1]; simp
    · by_cases h2 : a < 0
      · rw [bne_iff_ne.2 h1, decide_eq_true h2, if_pos ⟨h1, h2⟩]; rfl
      · rw [bne_iff_ne.2 h1, decide_eq_false h2, if_neg (fun h => h2 h.2)]; rfl
  rw [key]
  rcases Int.lt_or_le a 0 with h | h
  · obtain ⟨b, rfl⟩ : ∃ b : Int, a = -b := ⟨-a, by omega⟩
    have hb : 0 ≤ b := by omega
    rw [Int.neg_tdiv, Int.neg_tmod, Int.tdiv_eq_ediv_of_nonneg hb, Int.tmod_eq_emod_of_nonneg hb]
    rcases hn with rfl | rfl | rfl | rfl <;>
    · rw [W_eq (n := -(b / _)) (by omega) (by omega)]
      split
      · rw [W_eq (by omega) (by omega)]; omega
      · omega
  · rw [if_neg (by omega), Int.tdiv_eq_ediv_of_nonneg h]
    rcases hn with rfl | rfl | rfl | rfl <;> exact W_eq (by omega) (by omega)
theorem up_f {a n : Int} (hn : n = 1 ∨ n = 4 ∨ n = 16 ∨ n = 64) (ha : -1099511627776 ≤ a ∧ a ≤ 1099511627776) : F116 a n = -(-a / n) := by
  unfold F116
  rw [W_eq (n := 0 - a) (by omega) (by omega), dn_f hn (by omega), Int.zero_sub]
  rcases hn with rfl | rfl | rfl | rfl <;> exact (W_eq (by omega) (by omega)).trans (by omega)
/-- the mean of so many spans -/
def avg (v : Int × Int) (n : Int) : Int × Int := (v.1 / n, -(-v.2 / n))
theorem val_f {a b : Int} (h1 : -1099511627776 ≤ a) (h2 : a ≤ b) (h3 : b ≤ 1099511627776) : F102 (a, b) = true := by
  unfold F102
  rw [decide_eq_true (show (a, b).1 ≥ -1099511627776 from h1), decide_eq_true (show (a, b).1 ≤ (a, b).2 from h2), decide_eq_true (show (a, b).2 ≤ 1099511627776 from h3)]; rfl
theorem cnt_in (d : Int) : sc d * sc d = 1 ∨ sc d * sc d = 4 ∨ sc d * sc d = 16 ∨ sc d * sc d = 64 := by
  rcases sc_in d with h | h | h | h <;> rw [h] <;> decide

end Go.Proofs.Ytopbnnmkdildgaa

namespace Go.Proofs.Ytopbnnmkdildgaa
open Go.Proofs Go.Aw Go.RowKit
set_option maxRecDepth 100000
set_option linter.unusedVariables false
set_option linter.unusedSimpArgs false

/-! ### The program's mean is the reference's -/
theorem cutL_in {p c : PN} {d : Int} (hp : bdP 64 p) (hd : 0 ≤ d ∧ d ≤ 3) (hc : c ∈ cutL d.toNat p) : bdP 512 c := by
  have key : ∀ k : Nat, k ≤ 3 → c ∈ cutL k p → bdP 512 c := by
    intro k hk hc
    have : k = 0 ∨ k = 1 ∨ k = 2 ∨ k = 3 := by omega
    rcases this with rfl | rfl | rfl | rfl <;> exact (cutL_bd (m := 64) _ hp (by decide) (by decide) hc).mono (by decide)
  exact key _ (by omega) hc
section
variable {p : PN} {x : P3} {d : Int}
end
end Go.Proofs.Ytopbnnmkdildgaa

namespace Go.Proofs.Ytopbnnmkdildgaa
open Go.Proofs Go.Aw Go.RowKit
set_option maxRecDepth 100000
set_option linter.unusedVariables false
set_option linter.unusedSimpArgs false

/-! ### The rim -/
def IsUp (T r : Int) : Prop := 0 ≤ r ∧ T ≤ r * r ∧ (r = 0 ∨ (r - 1) * (r - 1) < T)
theorem IsUp.le {T r m : Int} (h : IsUp T r) (hm : 0 ≤ m) (h' : T ≤ m * m) : r ≤ m := by
  rcases Int.lt_or_le m r with hlt | hle
  · rcases h.2.2 with h0 | h0
    · omega
    · have := Int.mul_le_mul (show m ≤ r - 1 by omega) (show m ≤ r - 1 by omega) hm (by omega)
      omega
  · exact hle
theorem IsUp.eq {T a b : Int} (h : IsUp T a) (h' : IsUp T b) : a = b := Int.le_antisymm (h.le h'.1 h'.2.1) (h'.le h.1 h.2.1)
end Go.Proofs.Ytopbnnmkdildgaa

namespace Go.Proofs.Ytopbnnmkdildgaa
open Go.Proofs Go.Aw Go.RowKit
set_option maxRecDepth 100000
set_option linter.unusedVariables false
set_option linter.unusedSimpArgs false

/-! ### Between -/
/-! the normal of a part is the panel's -/
/-! sums of bounds -/
theorem okv_add {lo hi : Int} {v : Int × Int} {n : Nat} (h : okv v (n + 1)) (h1 : 0 ≤ lo ∧ lo ≤ hi ∧ hi ≤ 536870913) : okv (v.1 + lo, v.2 + hi) n := by
  unfold okv at *; simp only; omega
section
variable {p q : PN} {d : Int}
end
end Go.Proofs.Ytopbnnmkdildgaa

namespace Go.Proofs.Ytopbnnmkdildgaa
open Go.Proofs Go.Aw Go.RowKit
set_option maxRecDepth 100000
set_option linter.unusedVariables false
set_option linter.unusedSimpArgs false

theorem v1_ok {a : Int × Int} (h : ((F75_1 a : Int) != 0) = false) : -1099511627776 ≤ a.1 ∧ a.1 ≤ a.2 ∧ a.2 ≤ 1099511627776 := by
  have h : F75_1 a = 0 := by simpa using h
  unfold F75_1 at h
  cases h0 : F102 a with
  | false => rw [h0] at h; cases h
  | true =>
    unfold F102 at h0
    by_cases h1 : a.1 ≥ -1099511627776
    · by_cases h2 : a.1 ≤ a.2
      · rw [decide_eq_true h1, cond_true, decide_eq_true h2, cond_true] at h0
        exact ⟨h1, h2, of_decide_eq_true h0⟩
      · rw [decide_eq_true h1, cond_true, decide_eq_false h2, cond_false] at h0; cases h0
    · rw [decide_eq_false h1, cond_false] at h0; cases h0

/-- facet/span.whole -/
def F76 (a0 : Int) : Bool :=
  (bif (decide ((a0 : Int) ≥ (-1099511627776))) then
   (decide ((a0 : Int) ≤ 1099511627776))
  else
   false)

theorem C76 (a0 : Int) : Con Try.prog 76 [(iv a0)] [] (.v (.bool (F76 a0))) [] := by
  cases h0 : (decide ((a0 : Int) ≥ (-1099511627776))) with
  | true =>
    have q0 := of_decide_eq_true h0
    have e : (F76 a0) = (decide ((a0 : Int) ≤ 1099511627776)) := by simp only [F76, h0, cond_true, cond_false]
    rw [e]
    refine con_of (n := 9) Try.func76 rfl (ent Try.func76 (by kernel_rfl) rfl) (by show 1 ≤ Try.f76.ntmps; decide) (by kernel_rfl) trivial (fun cx hcx => ?_)
    exact ret_of (T := T0) hT hm (f := 5000) (orc := [.d true]) [] [] [] hcx
      (obs := [.eq (decide ((a0 : Int) ≥ (-1099511627776))) true]) (by kernel_rfl) ⟨h0, trivial⟩
  | false =>
    have q0 := of_decide_eq_false h0
    have e : (F76 a0) = false := by simp only [F76, h0, cond_true, cond_false]
    rw [e]
    refine con_of (n := 9) Try.func76 rfl (ent Try.func76 (by kernel_rfl) rfl) (by show 1 ≤ Try.f76.ntmps; decide) (by kernel_rfl) trivial (fun cx hcx => ?_)
    exact ret_of (T := T0) hT hm (f := 5000) (orc := [.d false]) [] [] [] hcx
      (obs := [.eq (decide ((a0 : Int) ≥ (-1099511627776))) false]) (by kernel_rfl) ⟨h0, trivial⟩

/-- facet/span.Scale -/
def F39 (a0 : Int × Int) (a1 : Int) : (Int × Int) × Int :=
  (bif (((F75_1 a0) : Int) != 0) then
   ((0, 0), (F75_1 a0))
  else
   (bif (!(F76 a1)) then
    ((0, 0), 1)
   else
    ((F78 (if ((F77 a0.2 a1) : Int) < (F77 a0.1 a1) then (F77 a0.2 a1) else (F77 a0.1 a1)) (if ((F77 a0.1 a1) : Int) < (F77 a0.2 a1) then (F77 a0.2 a1) else (F77 a0.1 a1))).1, (F78 (if ((F77 a0.2 a1) : Int) < (F77 a0.1 a1) then (F77 a0.2 a1) else (F77 a0.1 a1)) (if ((F77 a0.1 a1) : Int) < (F77 a0.2 a1) then (F77 a0.2 a1) else (F77 a0.1 a1))).2)))

noncomputable def oC39_0 (a0 : Int × Int) : Ob := .call 75 [(.s 0 0 1 2)] [(.live false false [(iv a0.1), (iv a0.2)])] (iv (F75_1 a0)) []
theorem C39 (a0 : Int × Int) (a1 : Int) : Con Try.prog 39 [(.a [(iv a0.1), (iv a0.2)]), (iv a1)] [] (.t [(.a (k2 (F39 a0 a1).1)), (iv (F39 a0 a1).2)]) [] := by
  cases h0 : (((F75_1 a0) : Int) != 0) with
  | true =>
    have q0 := bne_iff_ne.1 h0
    have e : (F39 a0 a1) = ((0, 0), (F75_1 a0)) := by simp only [F39, h0, cond_true, cond_false]
    rw [e]
    refine con_of (n := 9) Try.func39 rfl (ent Try.func39 (by kernel_rfl) rfl) (by show 2 ≤ Try.f39.ntmps; decide) (by kernel_rfl) trivial (fun cx hcx => ?_)
    exact ret_of (T := T0) hT hm (f := 5000) (orc := [.call [2] (iv (F75_1 a0)) [], .d true]) [] [] [] hcx
      (obs := [(oC39_0 a0), .eq (((F75_1 a0) : Int) != 0) true]) (by kernel_rfl) ⟨(C75_1 a0), h0, trivial⟩
  | false =>
    cases h1 : (!(F76 a1)) with
    | true =>
      have q0 := bne_eq_false_iff_eq.1 h0
      have e : (F39 a0 a1) = ((0, 0), 1) := by simp only [F39, h0, h1, cond_true, cond_false]
      rw [e]
      refine con_of (n := 9) Try.func39 rfl (ent Try.func39 (by kernel_rfl) rfl) (by show 2 ≤ Try.f39.ntmps; decide) (by kernel_rfl) trivial (fun cx hcx => ?_)
      exact ret_of (T := T0) hT hm (f := 5000) (orc := [.call [2] (iv (F75_1 a0)) [], .d false, .call [] (.v (.bool (F76 a1))) [], .d true]) [] [] [] hcx
        (obs := [(oC39_0 a0), .eq (((F75_1 a0) : Int) != 0) false, .call 76 [(iv a1)] [] (.v (.bool (F76 a1))) [], .eq (!(F76 a1)) true]) (by kernel_rfl) ⟨(C75_1 a0), h0, (C76 a1), h1, trivial⟩
    | false =>
      have q0 := bne_eq_false_iff_eq.1 h0
      have e : (F39 a0 a1) = ((F78 (if ((F77 a0.2 a1) : Int) < (F77 a0.1 a1) then (F77 a0.2 a1) else (F77 a0.1 a1)) (if ((F77 a0.1 a1) : Int) < (F77 a0.2 a1) then (F77 a0.2 a1) else (F77 a0.1 a1))).1, (F78 (if ((F77 a0.2 a1) : Int) < (F77 a0.1 a1) then (F77 a0.2 a1) else (F77 a0.1 a1)) (if ((F77 a0.1 a1) : Int) < (F77 a0.2 a1) then (F77 a0.2 a1) else (F77 a0.1 a1))).2) := by simp only [F39, h0, h1, cond_true, cond_false]
      rw [e]
      refine con_of (n := 9) Try.func39 rfl (ent Try.func39 (by kernel_rfl) rfl) (by show 2 ≤ Try.f39.ntmps; decide) (by kernel_rfl) trivial (fun cx hcx => ?_)
      exact ret_of (T := T0) hT hm (f := 5000) (orc := [.call [2] (iv (F75_1 a0)) [], .d false, .call [] (.v (.bool (F76 a1))) [], .d false, .call [] (iv (F77 a0.1 a1)) [], .call [] (iv (F77 a0.2 a1)) [], .call [] (.t [(.a (k2 (F78 (if ((F77 a0.2 a1) : Int) < (F77 a0.1 a1) then (F77 a0.2 a1) else (F77 a0.1 a1)) (if ((F77 a0.1 a1) : Int) < (F77 a0.2 a1) then (F77 a0.2 a1) else (F77 a0.1 a1))).1)), (iv (F78 (if ((F77 a0.2 a1) : Int) < (F77 a0.1 a1) then (F77 a0.2 a1) else (F77 a0.1 a1)) (if ((F77 a0.1 a1) : Int) < (F77 a0.2 a1) then (F77 a0.2 a1) else (F77 a0.1 a1))).2)]) []]) [] [] [] hcx
        (obs := [(oC39_0 a0), .eq (((F75_1 a0) : Int) != 0) false, .call 76 [(iv a1)] [] (.v (.bool (F76 a1))) [], .eq (!(F76 a1)) false, .call 77 [(iv a0.1), (iv a1)] [] (iv (F77 a0.1 a1)) [], .call 77 [(iv a0.2), (iv a1)] [] (iv (F77 a0.2 a1)) [], .call 78 [(iv (if ((F77 a0.2 a1) : Int) < (F77 a0.1 a1) then (F77 a0.2 a1) else (F77 a0.1 a1))), (iv (if ((F77 a0.1 a1) : Int) < (F77 a0.2 a1) then (F77 a0.2 a1) else (F77 a0.1 a1)))] [] (.t [(.a (k2 (F78 (if ((F77 a0.2 a1) : Int) < (F77 a0.1 a1) then (F77 a0.2 a1) else (F77 a0.1 a1)) (if ((F77 a0.1 a1) : Int) < (F77 a0.2 a1) then (F77 a0.2 a1) else (F77 a0.1 a1))).1)), (iv (F78 (if ((F77 a0.2 a1) : Int) < (F77 a0.1 a1) then (F77 a0.2 a1) else (F77 a0.1 a1)) (if ((F77 a0.1 a1) : Int) < (F77 a0.2 a1) then (F77 a0.2 a1) else (F77 a0.1 a1))).2)]) []]) (by kernel_rfl) ⟨(C75_1 a0), h0, (C76 a1), h1, (C77 a0.1 a1  (by have := v1_ok h0; omega)), (C77 a0.2 a1  (by have := v1_ok h0; omega)), (C78 (if ((F77 a0.2 a1) : Int) < (F77 a0.1 a1) then (F77 a0.2 a1) else (F77 a0.1 a1)) (if ((F77 a0.1 a1) : Int) < (F77 a0.2 a1) then (F77 a0.2 a1) else (F77 a0.1 a1))), trivial⟩

end Go.Proofs.Ytopbnnmkdildgaa

namespace Go.Proofs.Ytopbnnmkdildgaa
open Go.Proofs Go.Aw Go.RowKit
set_option maxRecDepth 100000
set_option linter.unusedVariables false
set_option linter.unusedSimpArgs false

/-! ### Products that may be too large -/
/-- a product, or what stands for one that is too large -/
def sat (x n : Int) : Int := if 1099511627776 < x * n then 1099511627777 else if x * n < -1099511627776 then -1099511627777 else x * n
theorem ab_mul (x n : Int) : (x * n = (if x < 0 then 0 - x else x) * (if n < 0 then 0 - n else n) ∧ ((x < 0) = (n < 0))) ∨ (x * n = -((if x < 0 then 0 - x else x) * (if n < 0 then 0 - n else n)) ∧ ¬ ((x < 0) = (n < 0))) := by
  by_cases h1 : x < 0
  · by_cases h2 : n < 0
    · left; rw [if_pos h1, if_pos h2]; exact ⟨by grind, by simp [h1, h2]⟩
    · right; rw [if_pos h1, if_neg h2]; exact ⟨by grind, by simp [h1, h2]⟩
  · by_cases h2 : n < 0
    · right; rw [if_neg h1, if_pos h2]; exact ⟨by grind, by simp [h1, h2]⟩
    · left; rw [if_neg h1, if_neg h2]; exact ⟨by grind, by simp [h1, h2]⟩
theorem prod_f {x n : Int} (hx : -1099511627776 ≤ x ∧ x ≤ 1099511627776) (hn : -1099511627776 ≤ n ∧ n ≤ 1099511627776) : F77 x n = sat x n := by
  have hm := ab_mul x n
  have ha : ∀ z : Int, (-1099511627776 ≤ z ∧ z ≤ 1099511627776) → (if (z : Int) < (W (0 - z)) then (W (0 - z)) else z) = if z < 0 then 0 - z else z := by
    intro z hz
    rw [W_eq (n := 0 - z) (by omega) (by omega)]
    (repeat' split) <;> omega
  unfold F77 sat
  rw [ha x hx, ha n hn]
  by_cases hx0 : x = 0
  · subst hx0; simp [W_eq]
  by_cases hn0 : n = 0
  · subst hn0; simp [W_eq]
  rw [bne_iff_ne.2 hx0, bne_iff_ne.2 hn0, cond_true, cond_true]
  have a1 : 1 ≤ (if x < 0 then 0 - x else x) ∧ (if x < 0 then 0 - x else x) ≤ 1099511627776 := by split <;> omega
  have a2 : 1 ≤ (if n < 0 then 0 - n else n) ∧ (if n < 0 then 0 - n else n) ≤ 1099511627776 := by split <;> omega
  have e : (!(decide (x < 0) == decide (n < 0))) = decide (x * n = -((if x < 0 then 0 - x else x) * (if n < 0 then 0 - n else n)) ∧ ¬ ((x < 0) = (n < 0))) := by
    by_cases h1 : x < 0 <;> by_cases h2 : n < 0 <;> simp [h1, h2] at hm ⊢ <;> omega
  rw [e]
  generalize (if x < 0 then 0 - x else x) = ax at *
  generalize (if n < 0 then 0 - n else n) = an at *
  rw [Int.tdiv_eq_ediv_of_nonneg (by omega)]
  obtain ⟨d1, d2, d3⟩ := quo_bd (N := 1099511627776) (n := ax) (by omega) (by omega)
  have d4 := Int.mul_ediv_add_emod 1099511627776 ax
  have d5 := Int.emod_lt_of_pos 1099511627776 (show 0 < ax by omega)
  rw [W_eq (n := 1099511627776 / ax) (by omega) (by omega)]
  have hbig : an > 1099511627776 / ax ↔ 1099511627776 < ax * an := by
    constructor
    · intro h
      have := Int.mul_le_mul_of_nonneg_left (show 1099511627776 / ax + 1 ≤ an by omega) (show 0 ≤ ax by omega)
      rw [Int.mul_add, Int.mul_one] at this; omega
    · intro h
      rcases Int.lt_or_le (1099511627776 / ax) an with h' | h'
      · exact h'
      · have := Int.mul_le_mul_of_nonneg_left h' (show 0 ≤ ax by omega)
        rw [Int.mul_comm] at d3; omega
  by_cases hb : an > 1099511627776 / ax
  · rw [decide_eq_true hb, cond_true]
    have := hbig.1 hb
    rcases hm with ⟨q1, q2⟩ | ⟨q1, q2⟩
    · rw [decide_eq_false (fun h => h.2 q2), cond_false, q1, if_pos (by omega)]
    · rw [decide_eq_true ⟨q1, q2⟩, cond_true, q1, if_neg (by omega), if_pos (by omega)]
  · rw [decide_eq_false hb, cond_false]
    have h1 : ax * an ≤ 1099511627776 := by
      rcases Int.lt_or_le 1099511627776 (ax * an) with h | h
      · exact absurd (hbig.2 h) hb
      · exact h
    have h2 : 0 ≤ ax * an := Int.mul_nonneg (by omega) (by omega)
    rcases hm with ⟨q1, q2⟩ | ⟨q1, q2⟩ <;> rw [q1, if_neg (by omega), if_neg (by omega)] <;> exact W_eq (by omega) (by omega)
theorem sat_mono {x y n : Int} (h : x ≤ y) (hn : 0 ≤ n) : sat x n ≤ sat y n := by
  have := Int.mul_le_mul_of_nonneg_right h hn
  unfold sat; (repeat' split) <;> omega
theorem sat_anti {x y n : Int} (h : x ≤ y) (hn : n ≤ 0) : sat y n ≤ sat x n := by
  have := Int.mul_le_mul_of_nonpos_right h hn
  unfold sat; (repeat' split) <;> omega
/-- the least span of the products -/
def scl (a : Int × Int) (n : Int) : Int × Int := if n < 0 then (sat a.2 n, sat a.1 n) else (sat a.1 n, sat a.2 n)
/-- a span that is valid -/
def vs (a : Int × Int) : Prop := -1099511627776 ≤ a.1 ∧ a.1 ≤ a.2 ∧ a.2 ≤ 1099511627776
theorem Scale_f {a : Int × Int} {n : Int} (ha : vs a) (hn : -1099511627776 ≤ n ∧ n ≤ 1099511627776) : F39 a n = F78 (scl a n).1 (scl a n).2 := by
  obtain ⟨h1, h2, h3⟩ := ha
  unfold F39 F75_1 F76
  rw [val_f (a := a.1) (b := a.2) h1 h2 h3, decide_eq_true (show n ≥ -1099511627776 from hn.1), decide_eq_true hn.2, prod_f (x := a.1) (by omega) hn, prod_f (x := a.2) (by omega) hn]
  show ((F78 _ _).1, (F78 _ _).2) = _
  unfold scl
  by_cases h : n < 0
  · have := sat_anti h2 (show n ≤ 0 by omega)
    rw [if_pos h]
    simp only
    rw [show (if (sat a.2 n : Int) < sat a.1 n then sat a.2 n else sat a.1 n) = sat a.2 n by split <;> omega, show (if (sat a.1 n : Int) < sat a.2 n then sat a.2 n else sat a.1 n) = sat a.1 n by split <;> omega]
  · have := sat_mono h2 (show 0 ≤ n by omega)
    rw [if_neg h]
    simp only
    rw [show (if (sat a.2 n : Int) < sat a.1 n then sat a.2 n else sat a.1 n) = sat a.1 n by split <;> omega, show (if (sat a.1 n : Int) < sat a.2 n then sat a.2 n else sat a.1 n) = sat a.2 n by split <;> omega]
/-! halves -/
end Go.Proofs.Ytopbnnmkdildgaa

namespace Go.Proofs.Ytopbnnmkdildgaa
open Go.Proofs Go.Aw Go.RowKit
set_option maxRecDepth 100000
set_option linter.unusedVariables false
set_option linter.unusedSimpArgs false

/-! ### Solid angles -/
def ht (p : PN) (x : P3) : Int := dt (sb p.1 x) (cr (sb p.2.1 x) (sb p.2.2 x))
theorem avg_vs {v : Int × Int} {n : Int} (hn : n = 1 ∨ n = 4 ∨ n = 16 ∨ n = 64) (h : okv v 0) : vs (avg v n) := by
  unfold okv at h; unfold vs avg; simp only
  rcases hn with rfl | rfl | rfl | rfl <;> omega
/-! ### Corners exchanged -/
theorem sat_neg (x n : Int) : sat x (-n) = -sat x n := by
  unfold sat; rw [Int.mul_neg]; (repeat' split) <;> omega
theorem scl_neg {m : Int × Int} (h : m.1 ≤ m.2) (n : Int) : scl m (-n) = (-(scl m n).2, -(scl m n).1) := by
  unfold scl
  rw [sat_neg, sat_neg]
  rcases Int.lt_trichotomy n 0 with h1 | h1 | h1
  · rw [if_pos h1, if_neg (by omega)]
  · subst h1
    have e : ∀ z, sat z 0 = 0 := fun z => by unfold sat; simp
    simp [e]
  · rw [if_neg (show ¬ n < 0 by omega), if_pos (show -n < 0 by omega)]
end Go.Proofs.Ytopbnnmkdildgaa

namespace Go.Proofs.Ytopbnnmkdildgaa
open Go.Proofs Go.Aw Go.RowKit
set_option maxRecDepth 100000
set_option linter.unusedVariables false
set_option linter.unusedSimpArgs false

/-! ### Finer parts -/
/-! what is proved of a part holds of its parts -/
/-! sums -/
end Go.Proofs.Ytopbnnmkdildgaa

namespace Go.Proofs.Ytopbnnmkdildgaa
open Go.Proofs Go.Aw Go.RowKit
set_option maxRecDepth 100000
set_option linter.unusedVariables false
set_option linter.unusedSimpArgs false

end Go.Proofs.Ytopbnnmkdildgaa

namespace Go.Proofs.Ytopbnnmkdildgaa
open Go.Proofs Go.Aw Go.RowKit
set_option maxRecDepth 100000
set_option linter.unusedVariables false
set_option linter.unusedSimpArgs false

/-! ### Means of lists of spans -/
def sums : List (Int × Int) → Int × Int → Int × Int
  | [], v => v
  | a :: l, v => sums l (v.1 + a.1, v.2 + a.2)
theorem sums_eq : ∀ (l : List (Int × Int)) (v : Int × Int), sums l v = (v.1 + (l.map (·.1)).sum, v.2 + (l.map (·.2)).sum)
  | [], v => by simp [sums]
  | a :: l, v => by rw [sums, sums_eq l]; simp only [List.map_cons, List.sum_cons, Int.add_assoc]
def okE (a : Int × Int) : Prop := 0 ≤ a.1 ∧ a.1 ≤ a.2 ∧ a.2 ≤ 536870913
theorem sums_ok : ∀ {l : List (Int × Int)} {v : Int × Int}, (∀ a ∈ l, okE a) → okv v l.length → okv (sums l v) 0
  | [], v, _, h => h
  | a :: l, v, hl, h => sums_ok (l := l) (fun c hc => hl c (List.mem_cons_of_mem _ hc)) (okv_add h (hl a List.mem_cons_self))
theorem sums_loopF {R : Type} [Inhabited R] {S : Int × Int × Int → (Int × Int × Int) ⊕ R} {G : Int × Int → R} {L : List (Int × Int)} (hl : ∀ a ∈ L, okE a)
    (hS : ∀ (i : Nat) (a : Int × Int), L[i]? = some a → ∀ v1 v2 : Int, S (v1, v2, (i : Int)) = .inl (W (v1 + a.1), W (v2 + a.2), ((i + 1 : Nat) : Int)))
    (hE : ∀ v1 v2 : Int, S (v1, v2, (L.length : Int)) = .inr (G (v1, v2))) :
    ∀ (l : List (Int × Int)) (i n : Nat) (v : Int × Int), L.drop i = l → i ≤ L.length → l.length < n → okv v l.length → loopF S n (v.1, v.2, (i : Int)) = G (sums l v)
  | [], i, n, v, hd, hi', hn, h => by
    have : i = L.length := by have := List.drop_eq_nil_iff.1 hd; omega
    obtain ⟨n, rfl⟩ : ∃ m, n = m + 1 := ⟨n - 1, by simp only [List.length_nil] at hn; omega⟩
    subst this
    rw [loopF_inr (hE _ _)]; rfl
  | c :: l, i, n, v, hd, hi', hn, h => by
    have hc : L[i]? = some c := by
      have : (L.drop i)[0]? = some c := by rw [hd]; rfl
      simpa using this
    obtain ⟨hlt, hce⟩ := List.getElem?_eq_some_iff.1 hc
    obtain ⟨n, rfl⟩ : ∃ m, n = m + 1 := ⟨n - 1, by omega⟩
    have h1 := okv_add h (hl c (hce ▸ List.getElem_mem hlt))
    have h2 := h1
    unfold okv at h2; simp only at h2
    rw [loopF_inl (hS i c hc v.1 v.2), W_eq (by omega) (by omega), W_eq (by omega) (by omega)]
    exact sums_loopF hl hS hE l (i + 1) n _ (by rw [← List.drop_drop, hd]; rfl) (by omega) (by simp only [List.length_cons] at hn; omega) h1
section
variable {l : List (Int × Int)}
theorem okE_val {a : Int × Int} (h : okE a) : F102 a = true := val_f (a := a.1) (b := a.2) (by have := h.1; omega) h.2.1 (by have := h.2.2; omega)
theorem okv_len (hn : l.length ≤ 64) : okv (0, 0) l.length := by unfold okv; simp only; omega
theorem chkL (hl : ∀ a ∈ l, okE a) : F75_L l = 0 := by
  have key : ∀ (m : List (Int × Int)) (i n : Nat), l.drop i = m → i ≤ l.length → m.length < n → loopF (S75_L_0 l) n (i : Int) = 0 := by
    intro m
    induction m with
    | nil =>
      intro i n hd hi hn
      have : i = l.length := by have := List.drop_eq_nil_iff.1 hd; omega
      obtain ⟨n, rfl⟩ : ∃ m, n = m + 1 := ⟨n - 1, by simp only [List.length_nil] at hn; omega⟩
      subst this
      refine loopF_inr ?_
      simp only [S75_L_0]
      rw [decide_eq_false (Int.lt_irrefl _), cond_false]
    | cons c m ih =>
      intro i n hd hi hn
      have hc : l[i]? = some c := by
        have : (l.drop i)[0]? = some c := by rw [hd]; rfl
        simpa using this
      obtain ⟨hlt, hce⟩ := List.getElem?_eq_some_iff.1 hc
      obtain ⟨n, rfl⟩ : ∃ m, n = m + 1 := ⟨n - 1, by omega⟩
      have hg : l.getD i default = c := by rw [List.getD_eq_getElem?_getD, hc]; rfl
      have e : S75_L_0 l (i : Int) = .inl ((i + 1 : Nat) : Int) := by
        simp only [S75_L_0]
        rw [decide_eq_true (show ((i : Nat) : Int) < (l.length : Nat) by omega), cond_true, Int.toNat_natCast, hg, okE_val (hl c (hce ▸ List.getElem_mem hlt))]; rfl
      rw [loopF_inl e]
      exact ih (i + 1) n (by rw [← List.drop_drop, hd]; rfl) (by omega) (by simp only [List.length_cons] at hn; omega)
  unfold F75_L
  exact key l 0 _ rfl (Nat.zero_le _) (by omega)
theorem tot_f (hl : ∀ a ∈ l, okE a) (hn : l.length ≤ 64) : F82_L l = ((sums l (0, 0)).1, (sums l (0, 0)).2, 0) := by
  unfold F82_L
  rw [decide_eq_false (by omega), cond_false, chkL hl]
  show loopF _ _ (((0, 0) : Int × Int).1, ((0, 0) : Int × Int).2, ((0 : Nat) : Int)) = _
  refine sums_loopF (G := fun v => (v.1, v.2, 0)) hl (fun i a hi v1 v2 => ?_) (fun v1 v2 => ?_) l 0 _ (0, 0) rfl (Nat.zero_le _) (by omega) (okv_len hn)
  · obtain ⟨hlt, hce⟩ := List.getElem?_eq_some_iff.1 hi
    have hg : l.getD i default = a := by rw [List.getD_eq_getElem?_getD, hi]; rfl
    simp only [S82_L_0]
    rw [decide_eq_true (show ((i : Nat) : Int) < (l.length : Nat) by omega), cond_true, Int.toNat_natCast, hg]; rfl
  · simp only [S82_L_0]
    rw [decide_eq_false (Int.lt_irrefl _), cond_false]
theorem avg_bd {v : Int × Int} {n : Int} (hn : n = 1 ∨ n = 4 ∨ n = 16 ∨ n = 64) (h : okv v 0) : -1099511627776 ≤ v.1 / n ∧ v.1 / n ≤ -(-v.2 / n) ∧ -(-v.2 / n) ≤ 1099511627776 := by
  unfold okv at h; rcases hn with rfl | rfl | rfl | rfl <;> omega
theorem meanL_f (hl : ∀ a ∈ l, okE a) {n : Int} (hn : n = 1 ∨ n = 4 ∨ n = 16 ∨ n = 64) (hk : ((l.length : Nat) : Int) = n) : F90_L l = (avg (sums l (0, 0)) n, 0) := by
  have h64 : l.length ≤ 64 := by omega
  have ho := sums_ok hl (okv_len h64)
  have hb := avg_bd hn ho
  unfold okv at ho
  unfold F90_L
  rw [tot_f hl h64, hk, beq_eq_false_iff_ne.2 (show n ≠ 0 by omega), dn_f hn (by simp only; omega), up_f hn (by simp only; omega), res_f hb.1 hb.2.1 hb.2.2]; rfl
end
/-! ### The mean over two panels -/
end Go.Proofs.Ytopbnnmkdildgaa

namespace Go.Proofs.Ytopbnnmkdildgaa
open Go.Proofs Go.Aw Go.RowKit
set_option maxRecDepth 100000
set_option linter.unusedVariables false
set_option linter.unusedSimpArgs false

/-- facet/sound.square -/
def F83 (a0 : Int) : Int :=
  (W (a0 * a0))

theorem C83 (a0 : Int) : Con Try.prog 83 [(iv a0)] [] (iv (F83 a0)) [] := by
  have e : (F83 a0) = (W (a0 * a0)) := by simp only [F83]
  rw [e]
  refine con_of (n := 9) Try.func83 rfl (ent Try.func83 (by kernel_rfl) rfl) (by show 1 ≤ Try.f83.ntmps; decide) (by kernel_rfl) trivial (fun cx hcx => ?_)
  exact ret_of (T := T0) hT hm (f := 5000) (orc := []) [] [] [] hcx
    (obs := []) (by kernel_rfl) trivial

/-- facet/sound.corners -/
def F113 (a0 : (Int × Int × Int) × (Int × Int × Int) × Int × Int × Int) : (Int × Int × Int) × (Int × Int × Int) × Int × Int × Int :=
  a0

theorem C113 (a0 : (Int × Int × Int) × (Int × Int × Int) × Int × Int × Int) : Con Try.prog 113 [(.a (k9 a0))] [] (.a (k9 (F113 a0))) [] := by
  have e : (F113 a0) = a0 := by simp only [F113]
  rw [e]
  refine con_of (n := 9) Try.func113 rfl (ent Try.func113 (by kernel_rfl) rfl) (by show 1 ≤ Try.f113.ntmps; decide) (by kernel_rfl) trivial (fun cx hcx => ?_)
  exact ret_of (T := T0) hT hm (f := 5000) (orc := []) [] [] [] hcx
    (obs := []) (by kernel_rfl) trivial

/-- facet/sound.distance -/
def F48 (a0 : Int × Int × Int) (a1 : Int × Int × Int) : Int :=
  (W ((W ((F83 (W (a0.1 - a1.1))) + (F83 (W (a0.2.1 - a1.2.1))))) + (F83 (W (a0.2.2 - a1.2.2)))))

theorem C48 (a0 : Int × Int × Int) (a1 : Int × Int × Int) : Con Try.prog 48 [(.a (k3 a0)), (.a (k3 a1))] [] (iv (F48 a0 a1)) [] := by
  have e : (F48 a0 a1) = (W ((W ((F83 (W (a0.1 - a1.1))) + (F83 (W (a0.2.1 - a1.2.1))))) + (F83 (W (a0.2.2 - a1.2.2))))) := by simp only [F48]
  rw [e]
  refine con_of (n := 9) Try.func48 rfl (ent Try.func48 (by kernel_rfl) rfl) (by show 2 ≤ Try.f48.ntmps; decide) (by kernel_rfl) trivial (fun cx hcx => ?_)
  exact ret_of (T := T0) hT hm (f := 5000) (orc := [.call [] (iv (F83 (W (a0.1 - a1.1)))) [], .call [] (iv (F83 (W (a0.2.1 - a1.2.1)))) [], .call [] (iv (F83 (W (a0.2.2 - a1.2.2)))) []]) [] [] [] hcx
    (obs := [.call 83 [(iv (W (a0.1 - a1.1)))] [] (iv (F83 (W (a0.1 - a1.1)))) [], .call 83 [(iv (W (a0.2.1 - a1.2.1)))] [] (iv (F83 (W (a0.2.1 - a1.2.1)))) [], .call 83 [(iv (W (a0.2.2 - a1.2.2)))] [] (iv (F83 (W (a0.2.2 - a1.2.2)))) []]) (by kernel_rfl) ⟨(C83 (W (a0.1 - a1.1))), (C83 (W (a0.2.1 - a1.2.1))), (C83 (W (a0.2.2 - a1.2.2))), trivial⟩

/-- facet/sound.far -/
def F87 (a0 : (Int × Int × Int) × (Int × Int × Int) × Int × Int × Int) (a1 : Int × Int × Int) : Int :=
  (if ((if ((if (0 : Int) < (F48 (F113 a0).1 a1) then (F48 (F113 a0).1 a1) else 0) : Int) < (F48 (F113 a0).2.1 a1) then (F48 (F113 a0).2.1 a1) else (if (0 : Int) < (F48 (F113 a0).1 a1) then (F48 (F113 a0).1 a1) else 0)) : Int) < (F48 (F113 a0).2.2 a1) then (F48 (F113 a0).2.2 a1) else (if ((if (0 : Int) < (F48 (F113 a0).1 a1) then (F48 (F113 a0).1 a1) else 0) : Int) < (F48 (F113 a0).2.1 a1) then (F48 (F113 a0).2.1 a1) else (if (0 : Int) < (F48 (F113 a0).1 a1) then (F48 (F113 a0).1 a1) else 0)))

theorem C87 (a0 : (Int × Int × Int) × (Int × Int × Int) × Int × Int × Int) (a1 : Int × Int × Int) : Con Try.prog 87 [(.a (k9 a0)), (.a (k3 a1))] [] (iv (F87 a0 a1)) [] := by
  have e : (F87 a0 a1) = (if ((if ((if (0 : Int) < (F48 (F113 a0).1 a1) then (F48 (F113 a0).1 a1) else 0) : Int) < (F48 (F113 a0).2.1 a1) then (F48 (F113 a0).2.1 a1) else (if (0 : Int) < (F48 (F113 a0).1 a1) then (F48 (F113 a0).1 a1) else 0)) : Int) < (F48 (F113 a0).2.2 a1) then (F48 (F113 a0).2.2 a1) else (if ((if (0 : Int) < (F48 (F113 a0).1 a1) then (F48 (F113 a0).1 a1) else 0) : Int) < (F48 (F113 a0).2.1 a1) then (F48 (F113 a0).2.1 a1) else (if (0 : Int) < (F48 (F113 a0).1 a1) then (F48 (F113 a0).1 a1) else 0))) := by simp only [F87]
  rw [e]
  refine con_of (n := 9) Try.func87 rfl (ent Try.func87 (by kernel_rfl) rfl) (by show 2 ≤ Try.f87.ntmps; decide) (by kernel_rfl) trivial (fun cx hcx => ?_)
  exact ret_of (T := T0) hT hm (f := 5000) (orc := [.call [] (.a (k9 (F113 a0))) [], .un 200, .d true, .call [] (iv (F48 (F113 a0).1 a1)) [], .un 0, .d true, .call [] (iv (F48 (F113 a0).2.1 a1)) [], .un 0, .d true, .call [] (iv (F48 (F113 a0).2.2 a1)) [], .un 0, .d false]) [] [] [] hcx
    (obs := [.call 113 [(.a (k9 a0))] [] (.a (k9 (F113 a0))) [], .eq true true, .pr (0 ≤ (0 : Int) ∧ (0 : Int) < ((3 : Nat) : Int)), .call 48 [(.a (k3 (F113 a0).1)), (.a (k3 a1))] [] (iv (F48 (F113 a0).1 a1)) [], .eq true true, .pr (0 ≤ (1 : Int) ∧ (1 : Int) < ((3 : Nat) : Int)), .call 48 [(.a (k3 (F113 a0).2.1)), (.a (k3 a1))] [] (iv (F48 (F113 a0).2.1 a1)) [], .eq true true, .pr (0 ≤ (2 : Int) ∧ (2 : Int) < ((3 : Nat) : Int)), .call 48 [(.a (k3 (F113 a0).2.2)), (.a (k3 a1))] [] (iv (F48 (F113 a0).2.2 a1)) [], .eq false false]) (by kernel_rfl) ⟨(C113 a0), rfl, (show 0 ≤ (0 : Int) ∧ (0 : Int) < ((3 : Nat) : Int) from by decide), (C48 (F113 a0).1 a1), rfl, (show 0 ≤ (1 : Int) ∧ (1 : Int) < ((3 : Nat) : Int) from by decide), (C48 (F113 a0).2.1 a1), rfl, (show 0 ≤ (2 : Int) ∧ (2 : Int) < ((3 : Nat) : Int) from by decide), (C48 (F113 a0).2.2 a1), rfl, trivial⟩

/-- facet/sound.gap at (3,) -/
def F110_3 (a0 : Int) (a1 : (Int) × (Int) × (Int)) : Int :=
  (if ((if (0 : Int) < (W ((if (a1.2.2 : Int) < (if (a1.2.1 : Int) < (if (a1.1 : Int) < a1.1 then a1.1 else a1.1) then a1.2.1 else (if (a1.1 : Int) < a1.1 then a1.1 else a1.1)) then a1.2.2 else (if (a1.2.1 : Int) < (if (a1.1 : Int) < a1.1 then a1.1 else a1.1) then a1.2.1 else (if (a1.1 : Int) < a1.1 then a1.1 else a1.1))) - a0)) then (W ((if (a1.2.2 : Int) < (if (a1.2.1 : Int) < (if (a1.1 : Int) < a1.1 then a1.1 else a1.1) then a1.2.1 else (if (a1.1 : Int) < a1.1 then a1.1 else a1.1)) then a1.2.2 else (if (a1.2.1 : Int) < (if (a1.1 : Int) < a1.1 then a1.1 else a1.1) then a1.2.1 else (if (a1.1 : Int) < a1.1 then a1.1 else a1.1))) - a0)) else 0) : Int) < (W (a0 - (if ((if ((if (a1.1 : Int) < a1.1 then a1.1 else a1.1) : Int) < a1.2.1 then a1.2.1 else (if (a1.1 : Int) < a1.1 then a1.1 else a1.1)) : Int) < a1.2.2 then a1.2.2 else (if ((if (a1.1 : Int) < a1.1 then a1.1 else a1.1) : Int) < a1.2.1 then a1.2.1 else (if (a1.1 : Int) < a1.1 then a1.1 else a1.1))))) then (W (a0 - (if ((if ((if (a1.1 : Int) < a1.1 then a1.1 else a1.1) : Int) < a1.2.1 then a1.2.1 else (if (a1.1 : Int) < a1.1 then a1.1 else a1.1)) : Int) < a1.2.2 then a1.2.2 else (if ((if (a1.1 : Int) < a1.1 then a1.1 else a1.1) : Int) < a1.2.1 then a1.2.1 else (if (a1.1 : Int) < a1.1 then a1.1 else a1.1))))) else (if (0 : Int) < (W ((if (a1.2.2 : Int) < (if (a1.2.1 : Int) < (if (a1.1 : Int) < a1.1 then a1.1 else a1.1) then a1.2.1 else (if (a1.1 : Int) < a1.1 then a1.1 else a1.1)) then a1.2.2 else (if (a1.2.1 : Int) < (if (a1.1 : Int) < a1.1 then a1.1 else a1.1) then a1.2.1 else (if (a1.1 : Int) < a1.1 then a1.1 else a1.1))) - a0)) then (W ((if (a1.2.2 : Int) < (if (a1.2.1 : Int) < (if (a1.1 : Int) < a1.1 then a1.1 else a1.1) then a1.2.1 else (if (a1.1 : Int) < a1.1 then a1.1 else a1.1)) then a1.2.2 else (if (a1.2.1 : Int) < (if (a1.1 : Int) < a1.1 then a1.1 else a1.1) then a1.2.1 else (if (a1.1 : Int) < a1.1 then a1.1 else a1.1))) - a0)) else 0))

theorem C110_3 (a0 : Int) (a1 : (Int) × (Int) × (Int)) : Con Try.prog 110 [(iv a0), (.s 0 0 3 1)] [(.live false false (k3 a1))] (iv (F110_3 a0 a1)) [] := by
  have e : (F110_3 a0 a1) = (if ((if (0 : Int) < (W ((if (a1.2.2 : Int) < (if (a1.2.1 : Int) < (if (a1.1 : Int) < a1.1 then a1.1 else a1.1) then a1.2.1 else (if (a1.1 : Int) < a1.1 then a1.1 else a1.1)) then a1.2.2 else (if (a1.2.1 : Int) < (if (a1.1 : Int) < a1.1 then a1.1 else a1.1) then a1.2.1 else (if (a1.1 : Int) < a1.1 then a1.1 else a1.1))) - a0)) then (W ((if (a1.2.2 : Int) < (if (a1.2.1 : Int) < (if (a1.1 : Int) < a1.1 then a1.1 else a1.1) then a1.2.1 else (if (a1.1 : Int) < a1.1 then a1.1 else a1.1)) then a1.2.2 else (if (a1.2.1 : Int) < (if (a1.1 : Int) < a1.1 then a1.1 else a1.1) then a1.2.1 else (if (a1.1 : Int) < a1.1 then a1.1 else a1.1))) - a0)) else 0) : Int) < (W (a0 - (if ((if ((if (a1.1 : Int) < a1.1 then a1.1 else a1.1) : Int) < a1.2.1 then a1.2.1 else (if (a1.1 : Int) < a1.1 then a1.1 else a1.1)) : Int) < a1.2.2 then a1.2.2 else (if ((if (a1.1 : Int) < a1.1 then a1.1 else a1.1) : Int) < a1.2.1 then a1.2.1 else (if (a1.1 : Int) < a1.1 then a1.1 else a1.1))))) then (W (a0 - (if ((if ((if (a1.1 : Int) < a1.1 then a1.1 else a1.1) : Int) < a1.2.1 then a1.2.1 else (if (a1.1 : Int) < a1.1 then a1.1 else a1.1)) : Int) < a1.2.2 then a1.2.2 else (if ((if (a1.1 : Int) < a1.1 then a1.1 else a1.1) : Int) < a1.2.1 then a1.2.1 else (if (a1.1 : Int) < a1.1 then a1.1 else a1.1))))) else (if (0 : Int) < (W ((if (a1.2.2 : Int) < (if (a1.2.1 : Int) < (if (a1.1 : Int) < a1.1 then a1.1 else a1.1) then a1.2.1 else (if (a1.1 : Int) < a1.1 then a1.1 else a1.1)) then a1.2.2 else (if (a1.2.1 : Int) < (if (a1.1 : Int) < a1.1 then a1.1 else a1.1) then a1.2.1 else (if (a1.1 : Int) < a1.1 then a1.1 else a1.1))) - a0)) then (W ((if (a1.2.2 : Int) < (if (a1.2.1 : Int) < (if (a1.1 : Int) < a1.1 then a1.1 else a1.1) then a1.2.1 else (if (a1.1 : Int) < a1.1 then a1.1 else a1.1)) then a1.2.2 else (if (a1.2.1 : Int) < (if (a1.1 : Int) < a1.1 then a1.1 else a1.1) then a1.2.1 else (if (a1.1 : Int) < a1.1 then a1.1 else a1.1))) - a0)) else 0)) := by simp only [F110_3]
  rw [e]
  refine con_of (n := 9) Try.func110 rfl (ent Try.func110 (by kernel_rfl) rfl) (by show 2 ≤ Try.f110.ntmps; decide) (by kernel_rfl) ⟨rfl, trivial⟩ (fun cx hcx => ?_)
  exact ret_of (T := T0) hT hm (f := 5000) (orc := [.un 200, .d true, .un 0, .d true, .un 0, .d true, .un 0, .d false]) [] [] [] hcx
    (obs := [.pr (0 ≤ (0 : Int) ∧ (0 : Int) < ((3 : Nat) : Int)), .pr (0 ≤ (0 : Int) ∧ (0 : Int) < ((3 : Nat) : Int)), .eq true true, .pr (0 ≤ (0 : Int) ∧ (0 : Int) < ((3 : Nat) : Int)), .eq true true, .pr (0 ≤ (1 : Int) ∧ (1 : Int) < ((3 : Nat) : Int)), .eq true true, .pr (0 ≤ (2 : Int) ∧ (2 : Int) < ((3 : Nat) : Int)), .eq false false]) (by kernel_rfl) ⟨(show 0 ≤ (0 : Int) ∧ (0 : Int) < ((3 : Nat) : Int) from by decide), (show 0 ≤ (0 : Int) ∧ (0 : Int) < ((3 : Nat) : Int) from by decide), rfl, (show 0 ≤ (0 : Int) ∧ (0 : Int) < ((3 : Nat) : Int) from by decide), rfl, (show 0 ≤ (1 : Int) ∧ (1 : Int) < ((3 : Nat) : Int) from by decide), rfl, (show 0 ≤ (2 : Int) ∧ (2 : Int) < ((3 : Nat) : Int) from by decide), rfl, trivial⟩

/-- facet/sound.near -/
def F84 (a0 : (Int × Int × Int) × (Int × Int × Int) × Int × Int × Int) (a1 : Int × Int × Int) : Int :=
  (W ((W ((F83 (F110_3 a1.1 (a0.1.1, a0.2.1.1, a0.2.2.1))) + (F83 (F110_3 a1.2.1 (a0.1.2.1, a0.2.1.2.1, a0.2.2.2.1))))) + (F83 (F110_3 a1.2.2 (a0.1.2.2, a0.2.1.2.2, a0.2.2.2.2)))))

theorem C84 (a0 : (Int × Int × Int) × (Int × Int × Int) × Int × Int × Int) (a1 : Int × Int × Int) : Con Try.prog 84 [(.a (k9 a0)), (.a (k3 a1))] [] (iv (F84 a0 a1)) [] := by
  have e : (F84 a0 a1) = (W ((W ((F83 (F110_3 a1.1 (a0.1.1, a0.2.1.1, a0.2.2.1))) + (F83 (F110_3 a1.2.1 (a0.1.2.1, a0.2.1.2.1, a0.2.2.2.1))))) + (F83 (F110_3 a1.2.2 (a0.1.2.2, a0.2.1.2.2, a0.2.2.2.2))))) := by simp only [F84]
  rw [e]
  refine con_of (n := 9) Try.func84 rfl (ent Try.func84 (by kernel_rfl) rfl) (by show 2 ≤ Try.f84.ntmps; decide) (by kernel_rfl) trivial (fun cx hcx => ?_)
  exact ret_of (T := T0) hT hm (f := 5000) (orc := [.call [2] (iv (F110_3 a1.1 (a0.1.1, a0.2.1.1, a0.2.2.1))) [], .call [] (iv (F83 (F110_3 a1.1 (a0.1.1, a0.2.1.1, a0.2.2.1)))) [], .call [3] (iv (F110_3 a1.2.1 (a0.1.2.1, a0.2.1.2.1, a0.2.2.2.1))) [], .call [] (iv (F83 (F110_3 a1.2.1 (a0.1.2.1, a0.2.1.2.1, a0.2.2.2.1)))) [], .call [4] (iv (F110_3 a1.2.2 (a0.1.2.2, a0.2.1.2.2, a0.2.2.2.2))) [], .call [] (iv (F83 (F110_3 a1.2.2 (a0.1.2.2, a0.2.1.2.2, a0.2.2.2.2)))) []]) [] [] [] hcx
    (obs := [.call 110 [(iv a1.1), (.s 0 0 3 1)] [(.live false false [(iv a0.1.1), (iv a0.2.1.1), (iv a0.2.2.1)])] (iv (F110_3 a1.1 (a0.1.1, a0.2.1.1, a0.2.2.1))) [], .call 83 [(iv (F110_3 a1.1 (a0.1.1, a0.2.1.1, a0.2.2.1)))] [] (iv (F83 (F110_3 a1.1 (a0.1.1, a0.2.1.1, a0.2.2.1)))) [], .call 110 [(iv a1.2.1), (.s 0 0 3 1)] [(.live false false [(iv a0.1.2.1), (iv a0.2.1.2.1), (iv a0.2.2.2.1)])] (iv (F110_3 a1.2.1 (a0.1.2.1, a0.2.1.2.1, a0.2.2.2.1))) [], .call 83 [(iv (F110_3 a1.2.1 (a0.1.2.1, a0.2.1.2.1, a0.2.2.2.1)))] [] (iv (F83 (F110_3 a1.2.1 (a0.1.2.1, a0.2.1.2.1, a0.2.2.2.1)))) [], .call 110 [(iv a1.2.2), (.s 0 0 3 1)] [(.live false false [(iv a0.1.2.2), (iv a0.2.1.2.2), (iv a0.2.2.2.2)])] (iv (F110_3 a1.2.2 (a0.1.2.2, a0.2.1.2.2, a0.2.2.2.2))) [], .call 83 [(iv (F110_3 a1.2.2 (a0.1.2.2, a0.2.1.2.2, a0.2.2.2.2)))] [] (iv (F83 (F110_3 a1.2.2 (a0.1.2.2, a0.2.1.2.2, a0.2.2.2.2)))) []]) (by kernel_rfl) ⟨(C110_3 a1.1 (a0.1.1, a0.2.1.1, a0.2.2.1)), (C83 (F110_3 a1.1 (a0.1.1, a0.2.1.1, a0.2.2.1))), (C110_3 a1.2.1 (a0.1.2.1, a0.2.1.2.1, a0.2.2.2.1)), (C83 (F110_3 a1.2.1 (a0.1.2.1, a0.2.1.2.1, a0.2.2.2.1))), (C110_3 a1.2.2 (a0.1.2.2, a0.2.1.2.2, a0.2.2.2.2)), (C83 (F110_3 a1.2.2 (a0.1.2.2, a0.2.1.2.2, a0.2.2.2.2))), trivial⟩

/-- facet/sound.from -/
def F63 (a0 : Int) (a1 : Int) (a2 : Int) : Bool :=
  (bif (decide ((a1 : Int) ≤ a0)) then
   (decide ((a0 : Int) ≤ a2))
  else
   false)

theorem C63 (a0 : Int) (a1 : Int) (a2 : Int) : Con Try.prog 63 [(iv a0), (iv a1), (iv a2)] [] (.v (.bool (F63 a0 a1 a2))) [] := by
  cases h0 : (decide ((a1 : Int) ≤ a0)) with
  | true =>
    have q0 := of_decide_eq_true h0
    have e : (F63 a0 a1 a2) = (decide ((a0 : Int) ≤ a2)) := by simp only [F63, h0, cond_true, cond_false]
    rw [e]
    refine con_of (n := 9) Try.func63 rfl (ent Try.func63 (by kernel_rfl) rfl) (by show 3 ≤ Try.f63.ntmps; decide) (by kernel_rfl) trivial (fun cx hcx => ?_)
    exact ret_of (T := T0) hT hm (f := 5000) (orc := [.d true]) [] [] [] hcx
      (obs := [.eq (decide ((a1 : Int) ≤ a0)) true]) (by kernel_rfl) ⟨h0, trivial⟩
  | false =>
    have q0 := of_decide_eq_false h0
    have e : (F63 a0 a1 a2) = false := by simp only [F63, h0, cond_true, cond_false]
    rw [e]
    refine con_of (n := 9) Try.func63 rfl (ent Try.func63 (by kernel_rfl) rfl) (by show 3 ≤ Try.f63.ntmps; decide) (by kernel_rfl) trivial (fun cx hcx => ?_)
    exact ret_of (T := T0) hT hm (f := 5000) (orc := [.d false]) [] [] [] hcx
      (obs := [.eq (decide ((a1 : Int) ≤ a0)) false]) (by kernel_rfl) ⟨h0, trivial⟩

/-- facet/sound.isPoint -/
def F45 (a0 : Int × Int × Int) : Bool :=
  (bif (F63 a0.1 (-256) 256) then
   (bif (F63 a0.2.1 (-256) 256) then
    (F63 a0.2.2 (-256) 256)
   else
    false)
  else
   false)

noncomputable def oC45_0 (a0 : Int × Int × Int) : Ob := .call 63 [(iv a0.1), (iv (-256)), (iv 256)] [] (.v (.bool (F63 a0.1 (-256) 256))) []
theorem C45 (a0 : Int × Int × Int) : Con Try.prog 45 [(.a (k3 a0))] [] (.v (.bool (F45 a0))) [] := by
  cases h0 : (F63 a0.1 (-256) 256) with
  | true =>
    cases h1 : (F63 a0.2.1 (-256) 256) with
    | true =>
      have e : (F45 a0) = (F63 a0.2.2 (-256) 256) := by simp only [F45, h0, h1, cond_true, cond_false]
      rw [e]
      refine con_of (n := 9) Try.func45 rfl (ent Try.func45 (by kernel_rfl) rfl) (by show 1 ≤ Try.f45.ntmps; decide) (by kernel_rfl) trivial (fun cx hcx => ?_)
      exact ret_of (T := T0) hT hm (f := 5000) (orc := [.call [] (.v (.bool (F63 a0.1 (-256) 256))) [], .d true, .call [] (.v (.bool (F63 a0.2.1 (-256) 256))) [], .d true, .call [] (.v (.bool (F63 a0.2.2 (-256) 256))) []]) [] [] [] hcx
        (obs := [(oC45_0 a0), .eq (F63 a0.1 (-256) 256) true, .call 63 [(iv a0.2.1), (iv (-256)), (iv 256)] [] (.v (.bool (F63 a0.2.1 (-256) 256))) [], .eq (F63 a0.2.1 (-256) 256) true, .call 63 [(iv a0.2.2), (iv (-256)), (iv 256)] [] (.v (.bool (F63 a0.2.2 (-256) 256))) []]) (by kernel_rfl) ⟨(C63 a0.1 (-256) 256), h0, (C63 a0.2.1 (-256) 256), h1, (C63 a0.2.2 (-256) 256), trivial⟩
    | false =>
      have e : (F45 a0) = false := by simp only [F45, h0, h1, cond_true, cond_false]
      rw [e]
      refine con_of (n := 9) Try.func45 rfl (ent Try.func45 (by kernel_rfl) rfl) (by show 1 ≤ Try.f45.ntmps; decide) (by kernel_rfl) trivial (fun cx hcx => ?_)
      exact ret_of (T := T0) hT hm (f := 5000) (orc := [.call [] (.v (.bool (F63 a0.1 (-256) 256))) [], .d true, .call [] (.v (.bool (F63 a0.2.1 (-256) 256))) [], .d false]) [] [] [] hcx
        (obs := [(oC45_0 a0), .eq (F63 a0.1 (-256) 256) true, .call 63 [(iv a0.2.1), (iv (-256)), (iv 256)] [] (.v (.bool (F63 a0.2.1 (-256) 256))) [], .eq (F63 a0.2.1 (-256) 256) false]) (by kernel_rfl) ⟨(C63 a0.1 (-256) 256), h0, (C63 a0.2.1 (-256) 256), h1, trivial⟩
  | false =>
    have e : (F45 a0) = false := by simp only [F45, h0, cond_true, cond_false]
    rw [e]
    refine con_of (n := 9) Try.func45 rfl (ent Try.func45 (by kernel_rfl) rfl) (by show 1 ≤ Try.f45.ntmps; decide) (by kernel_rfl) trivial (fun cx hcx => ?_)
    exact ret_of (T := T0) hT hm (f := 5000) (orc := [.call [] (.v (.bool (F63 a0.1 (-256) 256))) [], .d false]) [] [] [] hcx
      (obs := [(oC45_0 a0), .eq (F63 a0.1 (-256) 256) false]) (by kernel_rfl) ⟨(C63 a0.1 (-256) 256), h0, trivial⟩

/-- facet/sound.isSpeed -/
def F46 (a0 : Int) : Bool :=
  (F63 a0 1 16)

theorem C46 (a0 : Int) : Con Try.prog 46 [(iv a0)] [] (.v (.bool (F46 a0))) [] := by
  have e : (F46 a0) = (F63 a0 1 16) := by simp only [F46]
  rw [e]
  refine con_of (n := 9) Try.func46 rfl (ent Try.func46 (by kernel_rfl) rfl) (by show 1 ≤ Try.f46.ntmps; decide) (by kernel_rfl) trivial (fun cx hcx => ?_)
  exact ret_of (T := T0) hT hm (f := 5000) (orc := [.call [] (.v (.bool (F63 a0 1 16))) []]) [] [] [] hcx
    (obs := [.call 63 [(iv a0), (iv 1), (iv 16)] [] (.v (.bool (F63 a0 1 16))) []]) (by kernel_rfl) ⟨(C63 a0 1 16), trivial⟩

/-- facet/sound.isTick -/
def F59 (a0 : Int) : Bool :=
  (F63 a0 0 2000)

theorem C59 (a0 : Int) : Con Try.prog 59 [(iv a0)] [] (.v (.bool (F59 a0))) [] := by
  have e : (F59 a0) = (F63 a0 0 2000) := by simp only [F59]
  rw [e]
  refine con_of (n := 9) Try.func59 rfl (ent Try.func59 (by kernel_rfl) rfl) (by show 1 ≤ Try.f59.ntmps; decide) (by kernel_rfl) trivial (fun cx hcx => ?_)
  exact ret_of (T := T0) hT hm (f := 5000) (orc := [.call [] (.v (.bool (F63 a0 0 2000))) []]) [] [] [] hcx
    (obs := [.call 63 [(iv a0), (iv 0), (iv 2000)] [] (.v (.bool (F63 a0 0 2000))) []]) (by kernel_rfl) ⟨(C63 a0 0 2000), trivial⟩

/-- facet/sound.isDepth -/
def F60 (a0 : Int) : Bool :=
  (F63 a0 0 3)

theorem C60 (a0 : Int) : Con Try.prog 60 [(iv a0)] [] (.v (.bool (F60 a0))) [] := by
  have e : (F60 a0) = (F63 a0 0 3) := by simp only [F60]
  rw [e]
  refine con_of (n := 9) Try.func60 rfl (ent Try.func60 (by kernel_rfl) rfl) (by show 1 ≤ Try.f60.ntmps; decide) (by kernel_rfl) trivial (fun cx hcx => ?_)
  exact ret_of (T := T0) hT hm (f := 5000) (orc := [.call [] (.v (.bool (F63 a0 0 3))) []]) [] [] [] hcx
    (obs := [.call 63 [(iv a0), (iv 0), (iv 3)] [] (.v (.bool (F63 a0 0 3))) []]) (by kernel_rfl) ⟨(C63 a0 0 3), trivial⟩

/-- facet/sound.ValidatePulses at (1,) -/
def F27_1 (a0 : ((Int × Int × Int) × (Int × Int × Int) × Int × Int × Int) × Int × Int) : Int :=
  (bif (((F66 a0.1) : Int) != 0) then
   (F66 a0.1)
  else
   (bif (!(F63 a0.2.1 0 1000)) then
    1
   else
    (bif (!(F63 a0.2.2 (-100) 100)) then
     1
    else
     0)))

theorem C27_1 (a0 : ((Int × Int × Int) × (Int × Int × Int) × Int × Int × Int) × Int × Int) : Con Try.prog 27 [(.s 0 0 1 11)] [(.live false false [(iv a0.1.1.1), (iv a0.1.1.2.1), (iv a0.1.1.2.2), (iv a0.1.2.1.1), (iv a0.1.2.1.2.1), (iv a0.1.2.1.2.2), (iv a0.1.2.2.1), (iv a0.1.2.2.2.1), (iv a0.1.2.2.2.2), (iv a0.2.1), (iv a0.2.2)])] (iv (F27_1 a0)) [] := by
  cases h0 : (((F66 a0.1) : Int) != 0) with
  | true =>
    have q0 := bne_iff_ne.1 h0
    have e : (F27_1 a0) = (F66 a0.1) := by simp only [F27_1, h0, cond_true, cond_false]
    rw [e]
    refine con_of (n := 9) Try.func27 rfl (ent Try.func27 (by kernel_rfl) rfl) (by show 1 ≤ Try.f27.ntmps; decide) (by kernel_rfl) ⟨rfl, trivial⟩ (fun cx hcx => ?_)
    exact ret_of (T := T0) hT hm (f := 5000) (orc := [.d false, .un 200, .d true, .call [] (iv (F66 a0.1)) [], .d true]) [] [] [] hcx
      (obs := [.eq false false, .eq true true, .pr (0 ≤ (0 : Int) ∧ (0 : Int) < ((1 : Nat) : Int)), .call 66 [(.a (k9 a0.1))] [] (iv (F66 a0.1)) [], .eq (((F66 a0.1) : Int) != 0) true]) (by kernel_rfl) ⟨rfl, rfl, (show 0 ≤ (0 : Int) ∧ (0 : Int) < ((1 : Nat) : Int) from by decide), (C66 a0.1), h0, trivial⟩
  | false =>
    cases h1 : (!(F63 a0.2.1 0 1000)) with
    | true =>
      have q0 := bne_eq_false_iff_eq.1 h0
      have e : (F27_1 a0) = 1 := by simp only [F27_1, h0, h1, cond_true, cond_false]
      rw [e]
      refine con_of (n := 9) Try.func27 rfl (ent Try.func27 (by kernel_rfl) rfl) (by show 1 ≤ Try.f27.ntmps; decide) (by kernel_rfl) ⟨rfl, trivial⟩ (fun cx hcx => ?_)
      exact ret_of (T := T0) hT hm (f := 5000) (orc := [.d false, .un 200, .d true, .call [] (iv (F66 a0.1)) [], .d false, .call [] (.v (.bool (F63 a0.2.1 0 1000))) [], .d true]) [] [] [] hcx
        (obs := [.eq false false, .eq true true, .pr (0 ≤ (0 : Int) ∧ (0 : Int) < ((1 : Nat) : Int)), .call 66 [(.a (k9 a0.1))] [] (iv (F66 a0.1)) [], .eq (((F66 a0.1) : Int) != 0) false, .call 63 [(iv a0.2.1), (iv 0), (iv 1000)] [] (.v (.bool (F63 a0.2.1 0 1000))) [], .eq (!(F63 a0.2.1 0 1000)) true]) (by kernel_rfl) ⟨rfl, rfl, (show 0 ≤ (0 : Int) ∧ (0 : Int) < ((1 : Nat) : Int) from by decide), (C66 a0.1), h0, (C63 a0.2.1 0 1000), h1, trivial⟩
    | false =>
      cases h2 : (!(F63 a0.2.2 (-100) 100)) with
      | true =>
        have q0 := bne_eq_false_iff_eq.1 h0
        have e : (F27_1 a0) = 1 := by simp only [F27_1, h0, h1, h2, cond_true, cond_false]
        rw [e]
        refine con_of (n := 9) Try.func27 rfl (ent Try.func27 (by kernel_rfl) rfl) (by show 1 ≤ Try.f27.ntmps; decide) (by kernel_rfl) ⟨rfl, trivial⟩ (fun cx hcx => ?_)
        exact ret_of (T := T0) hT hm (f := 5000) (orc := [.d false, .un 200, .d true, .call [] (iv (F66 a0.1)) [], .d false, .call [] (.v (.bool (F63 a0.2.1 0 1000))) [], .d false, .call [] (.v (.bool (F63 a0.2.2 (-100) 100))) [], .d true]) [] [] [] hcx
          (obs := [.eq false false, .eq true true, .pr (0 ≤ (0 : Int) ∧ (0 : Int) < ((1 : Nat) : Int)), .call 66 [(.a (k9 a0.1))] [] (iv (F66 a0.1)) [], .eq (((F66 a0.1) : Int) != 0) false, .call 63 [(iv a0.2.1), (iv 0), (iv 1000)] [] (.v (.bool (F63 a0.2.1 0 1000))) [], .eq (!(F63 a0.2.1 0 1000)) false, .call 63 [(iv a0.2.2), (iv (-100)), (iv 100)] [] (.v (.bool (F63 a0.2.2 (-100) 100))) [], .eq (!(F63 a0.2.2 (-100) 100)) true]) (by kernel_rfl) ⟨rfl, rfl, (show 0 ≤ (0 : Int) ∧ (0 : Int) < ((1 : Nat) : Int) from by decide), (C66 a0.1), h0, (C63 a0.2.1 0 1000), h1, (C63 a0.2.2 (-100) 100), h2, trivial⟩
      | false =>
        have q0 := bne_eq_false_iff_eq.1 h0
        have e : (F27_1 a0) = 0 := by simp only [F27_1, h0, h1, h2, cond_true, cond_false]
        rw [e]
        refine con_of (n := 9) Try.func27 rfl (ent Try.func27 (by kernel_rfl) rfl) (by show 1 ≤ Try.f27.ntmps; decide) (by kernel_rfl) ⟨rfl, trivial⟩ (fun cx hcx => ?_)
        exact ret_of (T := T0) hT hm (f := 5000) (orc := [.d false, .un 200, .d true, .call [] (iv (F66 a0.1)) [], .d false, .call [] (.v (.bool (F63 a0.2.1 0 1000))) [], .d false, .call [] (.v (.bool (F63 a0.2.2 (-100) 100))) [], .d false, .un 0, .d false]) [] [] [] hcx
          (obs := [.eq false false, .eq true true, .pr (0 ≤ (0 : Int) ∧ (0 : Int) < ((1 : Nat) : Int)), .call 66 [(.a (k9 a0.1))] [] (iv (F66 a0.1)) [], .eq (((F66 a0.1) : Int) != 0) false, .call 63 [(iv a0.2.1), (iv 0), (iv 1000)] [] (.v (.bool (F63 a0.2.1 0 1000))) [], .eq (!(F63 a0.2.1 0 1000)) false, .call 63 [(iv a0.2.2), (iv (-100)), (iv 100)] [] (.v (.bool (F63 a0.2.2 (-100) 100))) [], .eq (!(F63 a0.2.2 (-100) 100)) false, .eq false false]) (by kernel_rfl) ⟨rfl, rfl, (show 0 ≤ (0 : Int) ∧ (0 : Int) < ((1 : Nat) : Int) from by decide), (C66 a0.1), h0, (C63 a0.2.1 0 1000), h1, (C63 a0.2.2 (-100) 100), h2, rfl, trivial⟩

/-- facet/sound.check at (1,) -/
def F53_1 (a0 : ((Int × Int × Int) × (Int × Int × Int) × Int × Int × Int) × Int × Int) (a1 : Bool) : Int :=
  (bif (((F27_1 a0) : Int) != 0) then
   (F27_1 a0)
  else
   (bif (!a1) then
    1
   else
    0))

noncomputable def oC53_1_0 (a0 : ((Int × Int × Int) × (Int × Int × Int) × Int × Int × Int) × Int × Int) : Ob := .call 27 [(.s 0 0 1 11)] [(.live false false [(iv a0.1.1.1), (iv a0.1.1.2.1), (iv a0.1.1.2.2), (iv a0.1.2.1.1), (iv a0.1.2.1.2.1), (iv a0.1.2.1.2.2), (iv a0.1.2.2.1), (iv a0.1.2.2.2.1), (iv a0.1.2.2.2.2), (iv a0.2.1), (iv a0.2.2)])] (iv (F27_1 a0)) []
theorem C53_1 (a0 : ((Int × Int × Int) × (Int × Int × Int) × Int × Int × Int) × Int × Int) (a1 : Bool) : Con Try.prog 53 [(.s 0 0 1 11), (.v (.bool a1))] [(.live false false [(iv a0.1.1.1), (iv a0.1.1.2.1), (iv a0.1.1.2.2), (iv a0.1.2.1.1), (iv a0.1.2.1.2.1), (iv a0.1.2.1.2.2), (iv a0.1.2.2.1), (iv a0.1.2.2.2.1), (iv a0.1.2.2.2.2), (iv a0.2.1), (iv a0.2.2)])] (iv (F53_1 a0 a1)) [] := by
  cases h0 : (((F27_1 a0) : Int) != 0) with
  | true =>
    have q0 := bne_iff_ne.1 h0
    have e : (F53_1 a0 a1) = (F27_1 a0) := by simp only [F53_1, h0, cond_true, cond_false]
    rw [e]
    refine con_of (n := 9) Try.func53 rfl (ent Try.func53 (by kernel_rfl) rfl) (by show 2 ≤ Try.f53.ntmps; decide) (by kernel_rfl) ⟨rfl, trivial⟩ (fun cx hcx => ?_)
    exact ret_of (T := T0) hT hm (f := 5000) (orc := [.call [0] (iv (F27_1 a0)) [], .d true]) [] [] [] hcx
      (obs := [(oC53_1_0 a0), .eq (((F27_1 a0) : Int) != 0) true]) (by kernel_rfl) ⟨(C27_1 a0), h0, trivial⟩
  | false =>
    cases h1 : (!a1) with
    | true =>
      have q0 := bne_eq_false_iff_eq.1 h0
      have e : (F53_1 a0 a1) = 1 := by simp only [F53_1, h0, h1, cond_true, cond_false]
      rw [e]
      refine con_of (n := 9) Try.func53 rfl (ent Try.func53 (by kernel_rfl) rfl) (by show 2 ≤ Try.f53.ntmps; decide) (by kernel_rfl) ⟨rfl, trivial⟩ (fun cx hcx => ?_)
      exact ret_of (T := T0) hT hm (f := 5000) (orc := [.call [0] (iv (F27_1 a0)) [], .d false, .d true]) [] [] [] hcx
        (obs := [(oC53_1_0 a0), .eq (((F27_1 a0) : Int) != 0) false, .eq (!a1) true]) (by kernel_rfl) ⟨(C27_1 a0), h0, h1, trivial⟩
    | false =>
      have q0 := bne_eq_false_iff_eq.1 h0
      have e : (F53_1 a0 a1) = 0 := by simp only [F53_1, h0, h1, cond_true, cond_false]
      rw [e]
      refine con_of (n := 9) Try.func53 rfl (ent Try.func53 (by kernel_rfl) rfl) (by show 2 ≤ Try.f53.ntmps; decide) (by kernel_rfl) ⟨rfl, trivial⟩ (fun cx hcx => ?_)
      exact ret_of (T := T0) hT hm (f := 5000) (orc := [.call [0] (iv (F27_1 a0)) [], .d false, .d false]) [] [] [] hcx
        (obs := [(oC53_1_0 a0), .eq (((F27_1 a0) : Int) != 0) false, .eq (!a1) false]) (by kernel_rfl) ⟨(C27_1 a0), h0, h1, trivial⟩

end Go.Proofs.Ytopbnnmkdildgaa

namespace Go.Proofs.Ytopbnnmkdildgaa
open Go.Proofs Go.Aw Go.RowKit
set_option maxRecDepth 100000
set_option linter.unusedVariables false
set_option linter.unusedSimpArgs false

/-! ### Sound: what the small functions say -/
theorem sqs_bd {s t : Int} (hs : 1 ≤ s ∧ s ≤ 1000) (ht : 0 ≤ t ∧ t ≤ 1000) : 0 ≤ s * t ∧ s * t ≤ 1000000 ∧ 0 ≤ s * t * (s * t) ∧ s * t * (s * t) ≤ 1000000000000 := by
  have h1 : 0 ≤ s * t := Int.mul_nonneg (by omega) (by omega)
  have h2 : s * t ≤ 1000 * 1000 := Int.mul_le_mul (by omega) (by omega) (by omega) (by omega)
  have h3 : s * t * (s * t) ≤ 1000000 * 1000000 := Int.mul_le_mul (by omega) (by omega) (by omega) (by omega)
  exact ⟨h1, by omega, Int.mul_nonneg h1 h1, by omega⟩
theorem square_f {n : Int} (h : -2000000000 ≤ n ∧ n ≤ 2000000000) : F83 n = n * n := by
  have h1 := mul_bd h h
  simp only [F83]; rw [W_eq (by omega) (by omega)]
theorem trav_sq {s t : Int} (hs : 1 ≤ s ∧ s ≤ 1000) (ht : 0 ≤ t ∧ t ≤ 1000) : F83 (W (s * t)) = s * t * (s * t) := by
  have h := sqs_bd hs ht
  rw [W_eq (by omega) (by omega), square_f (by omega)]
theorem trav_lt {s t n : Int} (hs : 1 ≤ s ∧ s ≤ 1000) (ht : 0 ≤ t ∧ t ≤ 1000) (hn : n ≤ 1000000) : s * t * (s * t) < n → t < 1000 := by
  intro h
  rcases Int.lt_or_le t 1000 with h' | h'
  · exact h'
  · have e : t = 1000 := by omega
    subst e
    have h2 : 1000 * 1000 ≤ s * 1000 * (s * 1000) := Int.mul_le_mul (by omega) (by omega) (by omega) (by omega)
    omega
theorem trav_f {s t n : Int} (hs : 1 ≤ s ∧ s ≤ 1000) (ht : 0 ≤ t ∧ t ≤ 1000) (hn : n ≤ 1000000) : F83 (W (s * t)) < n → t < 1000 := by
  rw [trav_sq hs ht]; exact trav_lt hs ht hn
/-! distances -/
theorem dist_f {p q : P3} (hp : bd 5000 p) (hq : bd 5000 q) : F48 p q = ds p q := by
  have h : bd 10000 (sb p q) := bd_sb hp hq
  have h1 := mul_bd h.1 h.1; have h2 := mul_bd h.2.1 h.2.1; have h3 := mul_bd h.2.2 h.2.2
  have n1 := sq_nn (sb p q).1; have n2 := sq_nn (sb p q).2.1; have n3 := sq_nn (sb p q).2.2
  have e1 : W (p.1 - q.1) = (sb p q).1 := W_eq (by have := h.1; simp only [sb] at this; omega) (by have := h.1; simp only [sb] at this; omega)
  have e2 : W (p.2.1 - q.2.1) = (sb p q).2.1 := W_eq (by have := h.2.1; simp only [sb] at this; omega) (by have := h.2.1; simp only [sb] at this; omega)
  have e3 : W (p.2.2 - q.2.2) = (sb p q).2.2 := W_eq (by have := h.2.2; simp only [sb] at this; omega) (by have := h.2.2; simp only [sb] at this; omega)
  unfold F48
  rw [e1, e2, e3, square_f (by have := h.1; omega), square_f (by have := h.2.1; omega), square_f (by have := h.2.2; omega), sum3 (by omega) (by omega) (by omega)]; rfl
theorem gap_s {x a b c : Int} (hx : -5000 ≤ x ∧ x ≤ 5000) (hl : -5000 ≤ lo3 a b c ∧ lo3 a b c ≤ 5000) (hh : -5000 ≤ hi3 a b c ∧ hi3 a b c ≤ 5000) : F110_3 x (a, b, c) = gp (lo3 a b c) (hi3 a b c) x x := by
  show mx (mx 0 (W (lo3 a b c - x))) (W (x - hi3 a b c)) = _
  rw [W_eq (by omega) (by omega), W_eq (by omega) (by omega)]
  unfold gp mx; repeat' split <;> omega
theorem sne_f {c : PN} {x : P3} (hc : bdP 5000 c) (hx : bd 5000 x) : F84 c x = ne c x := by
  have hl := blo_bd hc; have hh := bhi_bd hc
  have h1 := gp_bd hl.1 hh.1 hx.1 hx.1; have h2 := gp_bd hl.2.1 hh.2.1 hx.2.1 hx.2.1; have h3 := gp_bd hl.2.2 hh.2.2 hx.2.2 hx.2.2
  have m1 := mul_bd (a := 10000) (b := 10000) ⟨by omega, h1.2⟩ ⟨by omega, h1.2⟩; have m2 := mul_bd (a := 10000) (b := 10000) ⟨by omega, h2.2⟩ ⟨by omega, h2.2⟩; have m3 := mul_bd (a := 10000) (b := 10000) ⟨by omega, h3.2⟩ ⟨by omega, h3.2⟩
  have n1 := Int.mul_nonneg h1.1 h1.1; have n2 := Int.mul_nonneg h2.1 h2.1; have n3 := Int.mul_nonneg h3.1 h3.1
  unfold F84
  rw [gap_s hx.1 hl.1 hh.1, gap_s hx.2.1 hl.2.1 hh.2.1, gap_s hx.2.2 hl.2.2 hh.2.2]
  change W (W (F83 (gp (blo c).1 (bhi c).1 x.1 x.1) + F83 (gp (blo c).2.1 (bhi c).2.1 x.2.1 x.2.1)) + F83 (gp (blo c).2.2 (bhi c).2.2 x.2.2 x.2.2)) = _
  rw [square_f (by omega), square_f (by omega), square_f (by omega), sum3 (by omega) (by omega) (by omega)]; rfl
theorem sfa_f {c : PN} {x : P3} (hc : bdP 5000 c) (hx : bd 5000 x) : F87 c x = fa c x := by
  show mx (mx (mx 0 (F48 c.1 x)) (F48 c.2.1 x)) (F48 c.2.2 x) = _
  rw [dist_f hc.1 hx, dist_f hc.2.1 hx, dist_f hc.2.2 hx]; rfl
/-! what is asked -/
theorem sfrom_eq (n a b : Int) : F63 n a b = decide (a ≤ n ∧ n ≤ b) := by
  unfold F63
  by_cases h1 : a ≤ n <;> by_cases h2 : n ≤ b <;> simp [h1, h2]
open Classical in
theorem isP_f (x : P3) : F45 x = decide (bd 256 x) := by
  unfold F45
  rw [sfrom_eq, sfrom_eq, sfrom_eq]
  exact and3 Iff.rfl
theorem isS_f (n : Int) : F46 n = decide (1 ≤ n ∧ n ≤ 16) := by unfold F46; exact sfrom_eq _ _ _
abbrev PU := PN × Int × Int
/-- the error of a pulse -/
noncomputable def pv (p : PU) : Int := if vp p.1 = 0 then (if (0 ≤ p.2.1 ∧ p.2.1 ≤ 1000) ∧ (-100 ≤ p.2.2 ∧ p.2.2 ≤ 100) then 0 else 1) else vp p.1
theorem pv_aux (v : Int) (a b : Prop) [Decidable a] [Decidable b] : (bif (v != 0) then v else (bif (!(decide a)) then 1 else (bif (!(decide b)) then (1 : Int) else 0))) = if v = 0 then (if a ∧ b then 0 else 1) else v := by
  by_cases h : v = 0
  · subst h; by_cases ha : a <;> by_cases hb : b <;> simp [ha, hb]
  · rw [bne_iff_ne.2 h, if_neg h]; rfl
theorem vpul_1 (p : PU) : F27_1 p = pv p := by
  unfold F27_1
  rw [vp_s, sfrom_eq, sfrom_eq]; exact pv_aux _ _ _
theorem chk_1 (p : PU) (b : Bool) : F53_1 p b = if pv p = 0 then (if b = true then 0 else 1) else pv p := by
  unfold F53_1
  rw [vpul_1]
  by_cases h : pv p = 0
  · rw [h]; cases b <;> simp
  · rw [bne_iff_ne.2 h, if_neg h]; rfl
def POK (p : PU) : Prop := vp p.1 = 0 ∧ (0 ≤ p.2.1 ∧ p.2.1 ≤ 1000) ∧ (-100 ≤ p.2.2 ∧ p.2.2 ≤ 100)
theorem pv_ok {p : PU} : pv p = 0 ↔ POK p := by
  unfold pv POK
  constructor
  · intro h
    split at h
    · split at h
      · rename_i h1 h2; exact ⟨h1, h2⟩
      · cases h
    · rename_i h1; exact absurd h h1
  · intro h; rw [if_pos h.1, if_pos h.2]
theorem ckb_p {p : PU} {b : Bool} (h : ((F53_1 p b : Int) != 0) = false) : POK p := by
  have h := bne_eq_false_iff_eq.1 h
  rw [chk_1] at h
  split at h
  · rename_i h1; exact pv_ok.1 h1
  · rename_i h1; exact absurd h h1
theorem ckb_b {p : PU} {b : Bool} (h : ((F53_1 p b : Int) != 0) = false) : b = true := by
  have h := bne_eq_false_iff_eq.1 h
  rw [chk_1] at h
  split at h
  · split at h
    · assumption
    · cases h
  · rename_i h1; exact absurd h h1
theorem isp_p {x : P3} (h : F45 x = true) : bd 256 x := by rw [isP_f] at h; simpa using h
theorem isp_n {x : P3} (h : (!(F45 x)) = false) : bd 256 x := isp_p (by simpa using h)
theorem iss_p {n : Int} (h : F46 n = true) : 1 ≤ n ∧ n ≤ 16 := by rw [isS_f] at h; simpa using h
theorem iss_n {n : Int} (h : (!(F46 n)) = false) : 1 ≤ n ∧ n ≤ 16 := iss_p (by simpa using h)
/-! how far sound goes -/
theorem ds6 {m : Int} {p q : P3} (hp : bd m p) (hq : bd 256 q) (hm : 0 ≤ m ∧ m ≤ 256) : ds p q ≤ 786432 := by
  have h : bd 512 (sb p q) := (bd_sb hp hq).mono (by omega)
  have h1 := (dt_bd h h).2
  have : ds p q = dt (sb p q) (sb p q) := rfl
  omega
theorem fa6 {c : PN} {x : P3} (hc : bdP 64 c) (hx : bd 256 x) : fa c x ≤ 786432 :=
  mx_le (mx_le (mx_le (by omega) (ds6 hc.1 hx (by omega))) (ds6 hc.2.1 hx (by omega))) (ds6 hc.2.2 hx (by omega))
theorem tra_f {p q : P3} (hp : bd 256 p) (hq : bd 256 q) : F48 p q ≤ 1000000 := by
  rw [dist_f (hp.mono (by omega)) (hq.mono (by omega))]; have := ds6 hp hq (by omega); omega
theorem pok_bd {p : PU} (h : POK p) : bdP 64 p.1 := (vp_ok h.1).1
theorem nef6 {p : PU} {x : P3} (h : POK p) (hx : bd 256 x) : F84 p.1 x ≤ 1000000 := by
  rw [sne_f ((pok_bd h).mono (by omega)) (hx.mono (by omega))]; have := (ne_le p.1 x).2; have := fa6 (pok_bd h) hx; omega
end Go.Proofs.Ytopbnnmkdildgaa

namespace Go.Proofs.Ytopbnnmkdildgaa
open Go.Proofs Go.Aw Go.RowKit
set_option maxRecDepth 100000
set_option linter.unusedVariables false
set_option linter.unusedSimpArgs false

noncomputable def B47_0 : Code := (loopAtD [1, 1, 0] [] (Try.f47.body.getD .skip) []).1
noncomputable def K47_0 : List K := (loopAtD [1, 1, 0] [] (Try.f47.body.getD .skip) []).2

/-- a round of loop 0 of facet/sound.travel; the variables: v1 = s5 -/
def S47_0 (a0 : Int) (a1 : Int) : Int → (Int) ⊕ (Int)
  | v1 =>
   (bif (decide (((F83 (W (a1 * v1))) : Int) < a0)) then
    (.inl (W (v1 + 1)))
   else
    (.inr v1))

set_option maxHeartbeats 4000000 in
theorem L47_0 (a0 : Int) (a1 : Int) (hq : a0 ≤ 1000000) (hs : 1 ≤ a1 ∧ a1 ≤ 1000) {cx : Cx} (hcx : cx.base = 0) : ∀ (n : Nat) (v1 : Int), (0 ≤ v1) ∧ (v1 ≤ 1000) → Int.toNat (1000 - v1) < n → Aw.Good Try.prog none 9 (bodyPost Try.prog Try.f47 (RR cx (iv (loopF (S47_0 a0 a1) n v1)) [] [])) cx [] (.l B47_0 n :: K47_0) ⟨[(iv a0), (iv a1), .u, .u, .u, (iv v1), .u, .u, .u, .u, .u, .u, .u, .u, .u], []⟩ := by
  intro n
  induction n with
  | zero => intro v1 hi hn; exact absurd hn (Nat.not_lt_zero _)
  | succ n ih =>
    intro v1 hi hn
    refine good_round ?_
    cases h0 : (decide (((F83 (W (a1 * v1))) : Int) < a0)) with
    | true =>
      have q0 := of_decide_eq_true h0
      have hf := trav_f (t := v1) hs (by omega) hq
      have hw := W_eq (n := v1 + 1) (by omega) (by omega)
      have e : S47_0 a0 a1 v1 = (.inl (W (v1 + 1))) := by simp only [S47_0, h0, cond_true, cond_false]
      rw [loopF_inl e]
      refine back_of (T := T0) hT hm (f := 5000) (orc := [.call [] (iv (F83 (W (a1 * v1)))) [], .d true]) [] [0, 1, 5] [] hcx (body := B47_0) (m := n) (k' := K47_0) (s' := ⟨[(iv a0), (iv a1), .u, .u, .u, (iv (W (v1 + 1))), .u, .u, .u, .u, .u, .u, .u, .u, .u], []⟩)
        (obs := [.call 83 [(iv (W (a1 * v1)))] [] (iv (F83 (W (a1 * v1)))) [], .eq (decide (((F83 (W (a1 * v1))) : Int) < a0)) true]) (by kernel_rfl) ⟨(C83 (W (a1 * v1))), h0, trivial⟩ ?_
      exact ih (W (v1 + 1)) (by refine ⟨?_, ?_⟩ <;> (try simp only [List.length_append, List.length_cons, List.length_nil, Int.toNat_zero]) <;> first | omega | simp) (by (try simp only [List.length_append, List.length_cons, List.length_nil, Int.toNat_zero]); omega)
    | false =>
      have q0 := of_decide_eq_false h0
      have hf := trav_f (t := v1) hs (by omega) hq
      have hw := W_eq (n := v1 + 1) (by omega) (by omega)
      have e : S47_0 a0 a1 v1 = (.inr v1) := by simp only [S47_0, h0, cond_true, cond_false]
      rw [show loopF (S47_0 a0 a1) (n + 1) v1 = thenF (S47_0 a0 a1) n (S47_0 a0 a1 v1) from rfl, e]
      exact ret_of (T := T0) hT hm (f := 5000) (orc := [.call [] (iv (F83 (W (a1 * v1)))) [], .d false]) [] [] [] hcx
        (obs := [.call 83 [(iv (W (a1 * v1)))] [] (iv (F83 (W (a1 * v1)))) [], .eq (decide (((F83 (W (a1 * v1))) : Int) < a0)) false]) (by kernel_rfl) ⟨(C83 (W (a1 * v1))), h0, trivial⟩

/-- facet/sound.travel -/
def F47 (a0 : Int) (a1 : Int) : Int :=
  (loopF (S47_0 a0 a1) (Int.toNat (1000 - 0) + 1) 0)

theorem C47 (a0 : Int) (a1 : Int) (hq : a0 ≤ 1000000) (hs : 1 ≤ a1 ∧ a1 ≤ 1000) : Con Try.prog 47 [(iv a0), (iv a1)] [] (iv (F47 a0 a1)) [] := by
  have e : (F47 a0 a1) = (loopF (S47_0 a0 a1) (Int.toNat (1000 - 0) + 1) 0) := by simp only [F47]
  rw [e]
  refine con_of (n := 9) Try.func47 rfl (ent Try.func47 (by kernel_rfl) rfl) (by show 2 ≤ Try.f47.ntmps; decide) (by kernel_rfl) trivial (fun cx hcx => ?_)
  refine enter_of (T := T0) hT hm (f := 5000) (orc := []) [] [0, 1, 5] [] hcx (body := B47_0) (k' := K47_0) (s' := ⟨[(iv a0), (iv a1), .u, .u, .u, (iv 0), .u, .u, .u, .u, .u, .u, .u, .u, .u], []⟩)
    (obs := []) (by kernel_rfl) trivial ⟨Int.toNat (1000 - 0) + 1, ?_⟩
  exact L47_0 a0 a1 hq hs hcx (Int.toNat (1000 - 0) + 1) 0 (by refine ⟨?_, ?_⟩ <;> (try simp only [List.length_append, List.length_cons, List.length_nil, Int.toNat_zero]) <;> first | omega | simp) (by (try simp only [List.length_append, List.length_cons, List.length_nil, Int.toNat_zero]); omega)

/-- facet/sound.Travel -/
def F16 (a0 : Int × Int × Int) (a1 : Int × Int × Int) (a2 : Int) : Int × Int :=
  (bif (!(F45 a0)) then
   (0, 1)
  else
   (bif (!(F45 a1)) then
    (0, 1)
   else
    (bif (!(F46 a2)) then
     (0, 1)
    else
     ((F47 (F48 a0 a1) a2), 0))))

theorem C16 (a0 : Int × Int × Int) (a1 : Int × Int × Int) (a2 : Int) : Con Try.prog 16 [(.a (k3 a0)), (.a (k3 a1)), (iv a2)] [] (.t (k2 (F16 a0 a1 a2))) [] := by
  cases h0 : (!(F45 a0)) with
  | true =>
    have e : (F16 a0 a1 a2) = (0, 1) := by simp only [F16, h0, cond_true, cond_false]
    rw [e]
    refine con_of (n := 9) Try.func16 rfl (ent Try.func16 (by kernel_rfl) rfl) (by show 3 ≤ Try.f16.ntmps; decide) (by kernel_rfl) trivial (fun cx hcx => ?_)
    exact ret_of (T := T0) hT hm (f := 5000) (orc := [.call [] (.v (.bool (F45 a0))) [], .d true]) [] [] [] hcx
      (obs := [.call 45 [(.a (k3 a0))] [] (.v (.bool (F45 a0))) [], .eq (!(F45 a0)) true]) (by kernel_rfl) ⟨(C45 a0), h0, trivial⟩
  | false =>
    cases h1 : (!(F45 a1)) with
    | true =>
      have e : (F16 a0 a1 a2) = (0, 1) := by simp only [F16, h0, h1, cond_true, cond_false]
      rw [e]
      refine con_of (n := 9) Try.func16 rfl (ent Try.func16 (by kernel_rfl) rfl) (by show 3 ≤ Try.f16.ntmps; decide) (by kernel_rfl) trivial (fun cx hcx => ?_)
      exact ret_of (T := T0) hT hm (f := 5000) (orc := [.call [] (.v (.bool (F45 a0))) [], .d false, .call [] (.v (.bool (F45 a1))) [], .d true]) [] [] [] hcx
        (obs := [.call 45 [(.a (k3 a0))] [] (.v (.bool (F45 a0))) [], .eq (!(F45 a0)) false, .call 45 [(.a (k3 a1))] [] (.v (.bool (F45 a1))) [], .eq (!(F45 a1)) true]) (by kernel_rfl) ⟨(C45 a0), h0, (C45 a1), h1, trivial⟩
    | false =>
      cases h2 : (!(F46 a2)) with
      | true =>
        have e : (F16 a0 a1 a2) = (0, 1) := by simp only [F16, h0, h1, h2, cond_true, cond_false]
        rw [e]
        refine con_of (n := 9) Try.func16 rfl (ent Try.func16 (by kernel_rfl) rfl) (by show 3 ≤ Try.f16.ntmps; decide) (by kernel_rfl) trivial (fun cx hcx => ?_)
        exact ret_of (T := T0) hT hm (f := 5000) (orc := [.call [] (.v (.bool (F45 a0))) [], .d false, .call [] (.v (.bool (F45 a1))) [], .d false, .call [] (.v (.bool (F46 a2))) [], .d true]) [] [] [] hcx
          (obs := [.call 45 [(.a (k3 a0))] [] (.v (.bool (F45 a0))) [], .eq (!(F45 a0)) false, .call 45 [(.a (k3 a1))] [] (.v (.bool (F45 a1))) [], .eq (!(F45 a1)) false, .call 46 [(iv a2)] [] (.v (.bool (F46 a2))) [], .eq (!(F46 a2)) true]) (by kernel_rfl) ⟨(C45 a0), h0, (C45 a1), h1, (C46 a2), h2, trivial⟩
      | false =>
        have e : (F16 a0 a1 a2) = ((F47 (F48 a0 a1) a2), 0) := by simp only [F16, h0, h1, h2, cond_true, cond_false]
        rw [e]
        refine con_of (n := 9) Try.func16 rfl (ent Try.func16 (by kernel_rfl) rfl) (by show 3 ≤ Try.f16.ntmps; decide) (by kernel_rfl) trivial (fun cx hcx => ?_)
        exact ret_of (T := T0) hT hm (f := 5000) (orc := [.call [] (.v (.bool (F45 a0))) [], .d false, .call [] (.v (.bool (F45 a1))) [], .d false, .call [] (.v (.bool (F46 a2))) [], .d false, .call [] (iv (F48 a0 a1)) [], .call [] (iv (F47 (F48 a0 a1) a2)) []]) [] [] [] hcx
          (obs := [.call 45 [(.a (k3 a0))] [] (.v (.bool (F45 a0))) [], .eq (!(F45 a0)) false, .call 45 [(.a (k3 a1))] [] (.v (.bool (F45 a1))) [], .eq (!(F45 a1)) false, .call 46 [(iv a2)] [] (.v (.bool (F46 a2))) [], .eq (!(F46 a2)) false, .call 48 [(.a (k3 a0)), (.a (k3 a1))] [] (iv (F48 a0 a1)) [], .call 47 [(iv (F48 a0 a1)), (iv a2)] [] (iv (F47 (F48 a0 a1) a2)) []]) (by kernel_rfl) ⟨(C45 a0), h0, (C45 a1), h1, (C46 a2), h2, (C48 a0 a1), (C47 (F48 a0 a1) a2  (tra_f (isp_n h0) (isp_n h1)) (by have := iss_n h2; omega)), trivial⟩

/-- facet/sound.first -/
def F54 (a0 : ((Int × Int × Int) × (Int × Int × Int) × Int × Int × Int) × Int × Int) (a1 : Int × Int × Int) (a2 : Int) : Int :=
  (W (a0.2.1 + (F47 (F84 a0.1 a1) a2)))

theorem C54 (a0 : ((Int × Int × Int) × (Int × Int × Int) × Int × Int × Int) × Int × Int) (a1 : Int × Int × Int) (a2 : Int) (hp : POK a0) (hx : bd 256 a1) (hs : 1 ≤ a2 ∧ a2 ≤ 16) : Con Try.prog 54 [(.a [(iv a0.1.1.1), (iv a0.1.1.2.1), (iv a0.1.1.2.2), (iv a0.1.2.1.1), (iv a0.1.2.1.2.1), (iv a0.1.2.1.2.2), (iv a0.1.2.2.1), (iv a0.1.2.2.2.1), (iv a0.1.2.2.2.2), (iv a0.2.1), (iv a0.2.2)]), (.a (k3 a1)), (iv a2)] [] (iv (F54 a0 a1 a2)) [] := by
  have e : (F54 a0 a1 a2) = (W (a0.2.1 + (F47 (F84 a0.1 a1) a2))) := by simp only [F54]
  rw [e]
  refine con_of (n := 9) Try.func54 rfl (ent Try.func54 (by kernel_rfl) rfl) (by show 3 ≤ Try.f54.ntmps; decide) (by kernel_rfl) trivial (fun cx hcx => ?_)
  exact ret_of (T := T0) hT hm (f := 5000) (orc := [.call [] (iv (F84 a0.1 a1)) [], .call [] (iv (F47 (F84 a0.1 a1) a2)) []]) [] [] [] hcx
    (obs := [.call 84 [(.a (k9 a0.1)), (.a (k3 a1))] [] (iv (F84 a0.1 a1)) [], .call 47 [(iv (F84 a0.1 a1)), (iv a2)] [] (iv (F47 (F84 a0.1 a1) a2)) []]) (by kernel_rfl) ⟨(C84 a0.1 a1), (C47 (F84 a0.1 a1) a2  (nef6 hp hx) (by omega)), trivial⟩

/-- facet/sound.First -/
def F19 (a0 : ((Int × Int × Int) × (Int × Int × Int) × Int × Int × Int) × Int × Int) (a1 : Int × Int × Int) (a2 : Int) : Int × Int :=
  (bif (F45 a1) then
   (bif (((F53_1 a0 (F46 a2)) : Int) != 0) then
    (0, (F53_1 a0 (F46 a2)))
   else
    ((F54 a0 a1 a2), 0))
  else
   (bif (((F53_1 a0 false) : Int) != 0) then
    (0, (F53_1 a0 false))
   else
    ((F54 a0 a1 a2), 0)))

noncomputable def oC19_0 (a0 : ((Int × Int × Int) × (Int × Int × Int) × Int × Int × Int) × Int × Int) (a2 : Int) : Ob := .call 53 [(.s 0 0 1 11), (.v (.bool (F46 a2)))] [(.live false false [(iv a0.1.1.1), (iv a0.1.1.2.1), (iv a0.1.1.2.2), (iv a0.1.2.1.1), (iv a0.1.2.1.2.1), (iv a0.1.2.1.2.2), (iv a0.1.2.2.1), (iv a0.1.2.2.2.1), (iv a0.1.2.2.2.2), (iv a0.2.1), (iv a0.2.2)])] (iv (F53_1 a0 (F46 a2))) []
noncomputable def oC19_1 (a0 : ((Int × Int × Int) × (Int × Int × Int) × Int × Int × Int) × Int × Int) (a1 : Int × Int × Int) (a2 : Int) : Ob := .call 54 [(.a [(iv a0.1.1.1), (iv a0.1.1.2.1), (iv a0.1.1.2.2), (iv a0.1.2.1.1), (iv a0.1.2.1.2.1), (iv a0.1.2.1.2.2), (iv a0.1.2.2.1), (iv a0.1.2.2.2.1), (iv a0.1.2.2.2.2), (iv a0.2.1), (iv a0.2.2)]), (.a (k3 a1)), (iv a2)] [] (iv (F54 a0 a1 a2)) []
noncomputable def oC19_2 (a0 : ((Int × Int × Int) × (Int × Int × Int) × Int × Int × Int) × Int × Int) : Ob := .call 53 [(.s 0 0 1 11), (.v (.bool false))] [(.live false false [(iv a0.1.1.1), (iv a0.1.1.2.1), (iv a0.1.1.2.2), (iv a0.1.2.1.1), (iv a0.1.2.1.2.1), (iv a0.1.2.1.2.2), (iv a0.1.2.2.1), (iv a0.1.2.2.2.1), (iv a0.1.2.2.2.2), (iv a0.2.1), (iv a0.2.2)])] (iv (F53_1 a0 false)) []
theorem C19 (a0 : ((Int × Int × Int) × (Int × Int × Int) × Int × Int × Int) × Int × Int) (a1 : Int × Int × Int) (a2 : Int) : Con Try.prog 19 [(.a [(iv a0.1.1.1), (iv a0.1.1.2.1), (iv a0.1.1.2.2), (iv a0.1.2.1.1), (iv a0.1.2.1.2.1), (iv a0.1.2.1.2.2), (iv a0.1.2.2.1), (iv a0.1.2.2.2.1), (iv a0.1.2.2.2.2), (iv a0.2.1), (iv a0.2.2)]), (.a (k3 a1)), (iv a2)] [] (.t (k2 (F19 a0 a1 a2))) [] := by
  cases h0 : (F45 a1) with
  | true =>
    cases h1 : (((F53_1 a0 (F46 a2)) : Int) != 0) with
    | true =>
      have q1 := bne_iff_ne.1 h1
      have e : (F19 a0 a1 a2) = (0, (F53_1 a0 (F46 a2))) := by simp only [F19, h0, h1, cond_true, cond_false]
      rw [e]
      refine con_of (n := 9) Try.func19 rfl (ent Try.func19 (by kernel_rfl) rfl) (by show 3 ≤ Try.f19.ntmps; decide) (by kernel_rfl) trivial (fun cx hcx => ?_)
      exact ret_of (T := T0) hT hm (f := 5000) (orc := [.call [] (.v (.bool (F45 a1))) [], .d true, .call [] (.v (.bool (F46 a2))) [], .call [2] (iv (F53_1 a0 (F46 a2))) [], .d true]) [] [] [] hcx
        (obs := [.call 45 [(.a (k3 a1))] [] (.v (.bool (F45 a1))) [], .eq (F45 a1) true, .call 46 [(iv a2)] [] (.v (.bool (F46 a2))) [], (oC19_0 a0 a2), .eq (((F53_1 a0 (F46 a2)) : Int) != 0) true]) (by kernel_rfl) ⟨(C45 a1), h0, (C46 a2), (C53_1 a0 (F46 a2)), h1, trivial⟩
    | false =>
      have q1 := bne_eq_false_iff_eq.1 h1
      have e : (F19 a0 a1 a2) = ((F54 a0 a1 a2), 0) := by simp only [F19, h0, h1, cond_true, cond_false]
      rw [e]
      refine con_of (n := 9) Try.func19 rfl (ent Try.func19 (by kernel_rfl) rfl) (by show 3 ≤ Try.f19.ntmps; decide) (by kernel_rfl) trivial (fun cx hcx => ?_)
      exact ret_of (T := T0) hT hm (f := 5000) (orc := [.call [] (.v (.bool (F45 a1))) [], .d true, .call [] (.v (.bool (F46 a2))) [], .call [2] (iv (F53_1 a0 (F46 a2))) [], .d false, .call [] (iv (F54 a0 a1 a2)) []]) [] [] [] hcx
        (obs := [.call 45 [(.a (k3 a1))] [] (.v (.bool (F45 a1))) [], .eq (F45 a1) true, .call 46 [(iv a2)] [] (.v (.bool (F46 a2))) [], (oC19_0 a0 a2), .eq (((F53_1 a0 (F46 a2)) : Int) != 0) false, (oC19_1 a0 a1 a2)]) (by kernel_rfl) ⟨(C45 a1), h0, (C46 a2), (C53_1 a0 (F46 a2)), h1, (C54 a0 a1 a2  (ckb_p h1) (by first | exact isp_p h0 | exact absurd (ckb_b h1) (by decide)) (by first | exact iss_p (ckb_b h1) | exact absurd (ckb_b h1) (by decide))), trivial⟩
  | false =>
    cases h1 : (((F53_1 a0 false) : Int) != 0) with
    | true =>
      have q1 := bne_iff_ne.1 h1
      have e : (F19 a0 a1 a2) = (0, (F53_1 a0 false)) := by simp only [F19, h0, h1, cond_true, cond_false]
      rw [e]
      refine con_of (n := 9) Try.func19 rfl (ent Try.func19 (by kernel_rfl) rfl) (by show 3 ≤ Try.f19.ntmps; decide) (by kernel_rfl) trivial (fun cx hcx => ?_)
      exact ret_of (T := T0) hT hm (f := 5000) (orc := [.call [] (.v (.bool (F45 a1))) [], .d false, .call [2] (iv (F53_1 a0 false)) [], .d true]) [] [] [] hcx
        (obs := [.call 45 [(.a (k3 a1))] [] (.v (.bool (F45 a1))) [], .eq (F45 a1) false, (oC19_2 a0), .eq (((F53_1 a0 false) : Int) != 0) true]) (by kernel_rfl) ⟨(C45 a1), h0, (C53_1 a0 false), h1, trivial⟩
    | false =>
      have q1 := bne_eq_false_iff_eq.1 h1
      have e : (F19 a0 a1 a2) = ((F54 a0 a1 a2), 0) := by simp only [F19, h0, h1, cond_true, cond_false]
      rw [e]
      refine con_of (n := 9) Try.func19 rfl (ent Try.func19 (by kernel_rfl) rfl) (by show 3 ≤ Try.f19.ntmps; decide) (by kernel_rfl) trivial (fun cx hcx => ?_)
      exact ret_of (T := T0) hT hm (f := 5000) (orc := [.call [] (.v (.bool (F45 a1))) [], .d false, .call [2] (iv (F53_1 a0 false)) [], .d false, .call [] (iv (F54 a0 a1 a2)) []]) [] [] [] hcx
        (obs := [.call 45 [(.a (k3 a1))] [] (.v (.bool (F45 a1))) [], .eq (F45 a1) false, (oC19_2 a0), .eq (((F53_1 a0 false) : Int) != 0) false, (oC19_1 a0 a1 a2)]) (by kernel_rfl) ⟨(C45 a1), h0, (C53_1 a0 false), h1, (C54 a0 a1 a2  (ckb_p h1) (by first | exact isp_p h0 | exact absurd (ckb_b h1) (by decide)) (by first | exact iss_p (ckb_b h1) | exact absurd (ckb_b h1) (by decide))), trivial⟩

/-! ### The reference's parts: a recursion -/
end Go.Proofs.Ytopbnnmkdildgaa

namespace Go.Proofs.Ytopbnnmkdildgaa
open Go.Proofs Go.Aw Go.RowKit
set_option maxRecDepth 100000
set_option linter.unusedVariables false
set_option linter.unusedSimpArgs false

/-- (facet/sound.shell).gives -/
def F89 (a0 : Int × Int × Int) (a1 : Int) (a2 : Int) : (Int × Int) × Int :=
  (bif (decide ((a2 : Int) ≤ a0.1)) then
   ((0, 0), 0)
  else
   (bif (decide ((a1 : Int) > a0.2.1)) then
    ((0, 0), 0)
   else
    (bif (decide ((a1 : Int) > a0.1)) then
     (bif (((if (a1 : Int) < a0.1 then a0.1 else a1) : Int) == 0) then
      ((0, 0), 10)
     else
      (bif (((F81 (if (a1 : Int) < a0.1 then a0.1 else a1) a0.2.2).2 : Int) != 0) then
       ((0, (F81 (if (a1 : Int) < a0.1 then a0.1 else a1) a0.2.2).1.2), (F81 (if (a1 : Int) < a0.1 then a0.1 else a1) a0.2.2).2)
      else
       (bif (!(decide ((a2 : Int) ≤ a0.2.1))) then
        ((0, (F81 (if (a1 : Int) < a0.1 then a0.1 else a1) a0.2.2).1.2), (F81 (if (a1 : Int) < a0.1 then a0.1 else a1) a0.2.2).2)
       else
        (((F81 a2 a0.2.2).1.1, (F81 (if (a1 : Int) < a0.1 then a0.1 else a1) a0.2.2).1.2), (F81 a2 a0.2.2).2))))
    else
     (bif (((if (a1 : Int) < a0.1 then a0.1 else a1) : Int) == 0) then
      ((0, 0), 10)
     else
      (bif (((F81 (if (a1 : Int) < a0.1 then a0.1 else a1) a0.2.2).2 : Int) != 0) then
       ((0, (F81 (if (a1 : Int) < a0.1 then a0.1 else a1) a0.2.2).1.2), (F81 (if (a1 : Int) < a0.1 then a0.1 else a1) a0.2.2).2)
      else
       ((0, (F81 (if (a1 : Int) < a0.1 then a0.1 else a1) a0.2.2).1.2), (F81 (if (a1 : Int) < a0.1 then a0.1 else a1) a0.2.2).2))))))

noncomputable def oC89_0 (a0 : Int × Int × Int) (a1 : Int) : Ob := .eq (((if (a1 : Int) < a0.1 then a0.1 else a1) : Int) == 0) false
theorem C89 (a0 : Int × Int × Int) (a1 : Int) (a2 : Int) : Con Try.prog 89 [(.a (k3 a0)), (iv a1), (iv a2)] [] (.t [(.a (k2 (F89 a0 a1 a2).1)), (iv (F89 a0 a1 a2).2)]) [] := by
  cases h0 : (decide ((a2 : Int) ≤ a0.1)) with
  | true =>
    have q0 := of_decide_eq_true h0
    have e : (F89 a0 a1 a2) = ((0, 0), 0) := by simp only [F89, h0, cond_true, cond_false]
    rw [e]
    refine con_of (n := 9) Try.func89 rfl (ent Try.func89 (by kernel_rfl) rfl) (by show 3 ≤ Try.f89.ntmps; decide) (by kernel_rfl) trivial (fun cx hcx => ?_)
    exact ret_of (T := T0) hT hm (f := 5000) (orc := [.d true]) [] [] [] hcx
      (obs := [.eq (decide ((a2 : Int) ≤ a0.1)) true]) (by kernel_rfl) ⟨h0, trivial⟩
  | false =>
    cases h1 : (decide ((a1 : Int) > a0.2.1)) with
    | true =>
      have q0 := of_decide_eq_false h0
      have q1 := of_decide_eq_true h1
      have e : (F89 a0 a1 a2) = ((0, 0), 0) := by simp only [F89, h0, h1, cond_true, cond_false]
      rw [e]
      refine con_of (n := 9) Try.func89 rfl (ent Try.func89 (by kernel_rfl) rfl) (by show 3 ≤ Try.f89.ntmps; decide) (by kernel_rfl) trivial (fun cx hcx => ?_)
      exact ret_of (T := T0) hT hm (f := 5000) (orc := [.d false, .d true]) [] [] [] hcx
        (obs := [.eq (decide ((a2 : Int) ≤ a0.1)) false, .eq (decide ((a1 : Int) > a0.2.1)) true]) (by kernel_rfl) ⟨h0, h1, trivial⟩
    | false =>
      cases h2 : (decide ((a1 : Int) > a0.1)) with
      | true =>
        cases h3 : (((if (a1 : Int) < a0.1 then a0.1 else a1) : Int) == 0) with
        | true =>
          have q0 := of_decide_eq_false h0
          have q1 := of_decide_eq_false h1
          have q2 := of_decide_eq_true h2
          have q3 := eq_of_beq h3
          have e : (F89 a0 a1 a2) = ((0, 0), 10) := by simp only [F89, h0, h1, h2, h3, cond_true, cond_false]
          rw [e]
          refine con_of (n := 9) Try.func89 rfl (ent Try.func89 (by kernel_rfl) rfl) (by show 3 ≤ Try.f89.ntmps; decide) (by kernel_rfl) trivial (fun cx hcx => ?_)
          exact ret_of (T := T0) hT hm (f := 5000) (orc := [.d false, .d false, .d true, .d true]) [] [] [] hcx
            (obs := [.eq (decide ((a2 : Int) ≤ a0.1)) false, .eq (decide ((a1 : Int) > a0.2.1)) false, .eq (decide ((a1 : Int) > a0.1)) true, .eq (((if (a1 : Int) < a0.1 then a0.1 else a1) : Int) == 0) true]) (by kernel_rfl) ⟨h0, h1, h2, h3, trivial⟩
        | false =>
          cases h4 : (((F81 (if (a1 : Int) < a0.1 then a0.1 else a1) a0.2.2).2 : Int) != 0) with
          | true =>
            have q0 := of_decide_eq_false h0
            have q1 := of_decide_eq_false h1
            have q2 := of_decide_eq_true h2
            have q3 := ne_of_beq_false h3
            have q4 := bne_iff_ne.1 h4
            obtain ⟨u0, hu0⟩ : ∃ u, u = (F81 (if (a1 : Int) < a0.1 then a0.1 else a1) a0.2.2) := ⟨_, rfl⟩
            have e : (F89 a0 a1 a2) = ((0, u0.1.2), u0.2) := by subst hu0; simp only [F89, h0, h1, h2, h3, h4, cond_true, cond_false]
            rw [e]
            refine con_of (n := 9) Try.func89 rfl (ent Try.func89 (by kernel_rfl) rfl) (by show 3 ≤ Try.f89.ntmps; decide) (by kernel_rfl) trivial (fun cx hcx => ?_)
            exact ret_of (T := T0) hT hm (f := 5000) (orc := [.d false, .d false, .d true, .d false, .call [] (.t [(.a [(iv u0.1.1), (iv u0.1.2)]), (iv u0.2)]) [], .d true]) [] [] [] hcx
              (obs := [.eq (decide ((a2 : Int) ≤ a0.1)) false, .eq (decide ((a1 : Int) > a0.2.1)) false, .eq (decide ((a1 : Int) > a0.1)) true, (oC89_0 a0 a1), .call 81 [(iv (if (a1 : Int) < a0.1 then a0.1 else a1)), (iv a0.2.2)] [] (.t [(.a [(iv u0.1.1), (iv u0.1.2)]), (iv u0.2)]) [], .eq ((u0.2 : Int) != 0) true]) (by kernel_rfl) (by subst hu0; exact ⟨h0, h1, h2, h3, (C81 (if (a1 : Int) < a0.1 then a0.1 else a1) a0.2.2), h4, trivial⟩)
          | false =>
            cases h5 : (!(decide ((a2 : Int) ≤ a0.2.1))) with
            | true =>
              have q0 := of_decide_eq_false h0
              have q1 := of_decide_eq_false h1
              have q2 := of_decide_eq_true h2
              have q3 := ne_of_beq_false h3
              have q4 := bne_eq_false_iff_eq.1 h4
              obtain ⟨u0, hu0⟩ : ∃ u, u = (F81 (if (a1 : Int) < a0.1 then a0.1 else a1) a0.2.2) := ⟨_, rfl⟩
              have e : (F89 a0 a1 a2) = ((0, u0.1.2), u0.2) := by subst hu0; simp only [F89, h0, h1, h2, h3, h4, h5, cond_true, cond_false]
              rw [e]
              refine con_of (n := 9) Try.func89 rfl (ent Try.func89 (by kernel_rfl) rfl) (by show 3 ≤ Try.f89.ntmps; decide) (by kernel_rfl) trivial (fun cx hcx => ?_)
              exact ret_of (T := T0) hT hm (f := 5000) (orc := [.d false, .d false, .d true, .d false, .call [] (.t [(.a [(iv u0.1.1), (iv u0.1.2)]), (iv u0.2)]) [], .d false, .d true]) [] [] [] hcx
                (obs := [.eq (decide ((a2 : Int) ≤ a0.1)) false, .eq (decide ((a1 : Int) > a0.2.1)) false, .eq (decide ((a1 : Int) > a0.1)) true, (oC89_0 a0 a1), .call 81 [(iv (if (a1 : Int) < a0.1 then a0.1 else a1)), (iv a0.2.2)] [] (.t [(.a [(iv u0.1.1), (iv u0.1.2)]), (iv u0.2)]) [], .eq ((u0.2 : Int) != 0) false, .eq (!(decide ((a2 : Int) ≤ a0.2.1))) true]) (by kernel_rfl) (by subst hu0; exact ⟨h0, h1, h2, h3, (C81 (if (a1 : Int) < a0.1 then a0.1 else a1) a0.2.2), h4, h5, trivial⟩)
            | false =>
              have q0 := of_decide_eq_false h0
              have q1 := of_decide_eq_false h1
              have q2 := of_decide_eq_true h2
              have q3 := ne_of_beq_false h3
              have q4 := bne_eq_false_iff_eq.1 h4
              obtain ⟨u0, hu0⟩ : ∃ u, u = (F81 (if (a1 : Int) < a0.1 then a0.1 else a1) a0.2.2) := ⟨_, rfl⟩
              obtain ⟨u1, hu1⟩ : ∃ u, u = (F81 a2 a0.2.2) := ⟨_, rfl⟩
              have e : (F89 a0 a1 a2) = ((u1.1.1, u0.1.2), u1.2) := by subst hu1; subst hu0; simp only [F89, h0, h1, h2, h3, h4, h5, cond_true, cond_false]
              rw [e]
              refine con_of (n := 9) Try.func89 rfl (ent Try.func89 (by kernel_rfl) rfl) (by show 3 ≤ Try.f89.ntmps; decide) (by kernel_rfl) trivial (fun cx hcx => ?_)
              exact ret_of (T := T0) hT hm (f := 5000) (orc := [.d false, .d false, .d true, .d false, .call [] (.t [(.a [(iv u0.1.1), (iv u0.1.2)]), (iv u0.2)]) [], .d false, .d false, .call [] (.t [(.a [(iv u1.1.1), (iv u1.1.2)]), (iv u1.2)]) []]) [] [] [] hcx
                (obs := [.eq (decide ((a2 : Int) ≤ a0.1)) false, .eq (decide ((a1 : Int) > a0.2.1)) false, .eq (decide ((a1 : Int) > a0.1)) true, (oC89_0 a0 a1), .call 81 [(iv (if (a1 : Int) < a0.1 then a0.1 else a1)), (iv a0.2.2)] [] (.t [(.a [(iv u0.1.1), (iv u0.1.2)]), (iv u0.2)]) [], .eq ((u0.2 : Int) != 0) false, .eq (!(decide ((a2 : Int) ≤ a0.2.1))) false, .call 81 [(iv a2), (iv a0.2.2)] [] (.t [(.a [(iv u1.1.1), (iv u1.1.2)]), (iv u1.2)]) []]) (by kernel_rfl) (by subst hu1; subst hu0; exact ⟨h0, h1, h2, h3, (C81 (if (a1 : Int) < a0.1 then a0.1 else a1) a0.2.2), h4, h5, (C81 a2 a0.2.2), trivial⟩)
      | false =>
        cases h3 : (((if (a1 : Int) < a0.1 then a0.1 else a1) : Int) == 0) with
        | true =>
          have q0 := of_decide_eq_false h0
          have q1 := of_decide_eq_false h1
          have q2 := of_decide_eq_false h2
          have q3 := eq_of_beq h3
          have e : (F89 a0 a1 a2) = ((0, 0), 10) := by simp only [F89, h0, h1, h2, h3, cond_true, cond_false]
          rw [e]
          refine con_of (n := 9) Try.func89 rfl (ent Try.func89 (by kernel_rfl) rfl) (by show 3 ≤ Try.f89.ntmps; decide) (by kernel_rfl) trivial (fun cx hcx => ?_)
          exact ret_of (T := T0) hT hm (f := 5000) (orc := [.d false, .d false, .d false, .d true]) [] [] [] hcx
            (obs := [.eq (decide ((a2 : Int) ≤ a0.1)) false, .eq (decide ((a1 : Int) > a0.2.1)) false, .eq (decide ((a1 : Int) > a0.1)) false, .eq (((if (a1 : Int) < a0.1 then a0.1 else a1) : Int) == 0) true]) (by kernel_rfl) ⟨h0, h1, h2, h3, trivial⟩
        | false =>
          cases h4 : (((F81 (if (a1 : Int) < a0.1 then a0.1 else a1) a0.2.2).2 : Int) != 0) with
          | true =>
            have q0 := of_decide_eq_false h0
            have q1 := of_decide_eq_false h1
            have q2 := of_decide_eq_false h2
            have q3 := ne_of_beq_false h3
            have q4 := bne_iff_ne.1 h4
            obtain ⟨u0, hu0⟩ : ∃ u, u = (F81 (if (a1 : Int) < a0.1 then a0.1 else a1) a0.2.2) := ⟨_, rfl⟩
            have e : (F89 a0 a1 a2) = ((0, u0.1.2), u0.2) := by subst hu0; simp only [F89, h0, h1, h2, h3, h4, cond_true, cond_false]
            rw [e]
            refine con_of (n := 9) Try.func89 rfl (ent Try.func89 (by kernel_rfl) rfl) (by show 3 ≤ Try.f89.ntmps; decide) (by kernel_rfl) trivial (fun cx hcx => ?_)
            exact ret_of (T := T0) hT hm (f := 5000) (orc := [.d false, .d false, .d false, .d false, .call [] (.t [(.a [(iv u0.1.1), (iv u0.1.2)]), (iv u0.2)]) [], .d true]) [] [] [] hcx
              (obs := [.eq (decide ((a2 : Int) ≤ a0.1)) false, .eq (decide ((a1 : Int) > a0.2.1)) false, .eq (decide ((a1 : Int) > a0.1)) false, (oC89_0 a0 a1), .call 81 [(iv (if (a1 : Int) < a0.1 then a0.1 else a1)), (iv a0.2.2)] [] (.t [(.a [(iv u0.1.1), (iv u0.1.2)]), (iv u0.2)]) [], .eq ((u0.2 : Int) != 0) true]) (by kernel_rfl) (by subst hu0; exact ⟨h0, h1, h2, h3, (C81 (if (a1 : Int) < a0.1 then a0.1 else a1) a0.2.2), h4, trivial⟩)
          | false =>
            have q0 := of_decide_eq_false h0
            have q1 := of_decide_eq_false h1
            have q2 := of_decide_eq_false h2
            have q3 := ne_of_beq_false h3
            have q4 := bne_eq_false_iff_eq.1 h4
            obtain ⟨u0, hu0⟩ : ∃ u, u = (F81 (if (a1 : Int) < a0.1 then a0.1 else a1) a0.2.2) := ⟨_, rfl⟩
            have e : (F89 a0 a1 a2) = ((0, u0.1.2), u0.2) := by subst hu0; simp only [F89, h0, h1, h2, h3, h4, cond_true, cond_false]
            rw [e]
            refine con_of (n := 9) Try.func89 rfl (ent Try.func89 (by kernel_rfl) rfl) (by show 3 ≤ Try.f89.ntmps; decide) (by kernel_rfl) trivial (fun cx hcx => ?_)
            exact ret_of (T := T0) hT hm (f := 5000) (orc := [.d false, .d false, .d false, .d false, .call [] (.t [(.a [(iv u0.1.1), (iv u0.1.2)]), (iv u0.2)]) [], .d false]) [] [] [] hcx
              (obs := [.eq (decide ((a2 : Int) ≤ a0.1)) false, .eq (decide ((a1 : Int) > a0.2.1)) false, .eq (decide ((a1 : Int) > a0.1)) false, (oC89_0 a0 a1), .call 81 [(iv (if (a1 : Int) < a0.1 then a0.1 else a1)), (iv a0.2.2)] [] (.t [(.a [(iv u0.1.1), (iv u0.1.2)]), (iv u0.2)]) [], .eq ((u0.2 : Int) != 0) false]) (by kernel_rfl) (by subst hu0; exact ⟨h0, h1, h2, h3, (C81 (if (a1 : Int) < a0.1 then a0.1 else a1) a0.2.2), h4, trivial⟩)

end Go.Proofs.Ytopbnnmkdildgaa

namespace Go.Proofs.Ytopbnnmkdildgaa
open Go.Proofs Go.Aw Go.RowKit
set_option maxRecDepth 100000
set_option linter.unusedVariables false
set_option linter.unusedSimpArgs false

theorem ist_p {n : Int} (h : F59 n = true) : 0 ≤ n ∧ n ≤ 2000 := by
  unfold F59 at h; rw [sfrom_eq] at h; simpa using h
theorem isd_p {n : Int} (h : F60 n = true) : 0 ≤ n ∧ n ≤ 3 := by
  unfold F60 at h; rw [sfrom_eq] at h; simpa using h
theorem sp_len (p : PN) (d : Int) : (F88 p d).1.length ≤ 64 := by
  rw [parts_f]
  split
  · split
    · rename_i h
      simp only [cutL_len]
      have : Int.toNat d = 0 ∨ Int.toNat d = 1 ∨ Int.toNat d = 2 ∨ Int.toNat d = 3 := by omega
      rcases this with e | e | e | e <;> rw [e] <;> decide
    · simp
  · simp
noncomputable def B61_0 : Code := (loopAtD [1, 1, 1, 1, 1, 1, 1, 1, 1, 0, 1] [] (Try.f61.body.getD .skip) []).1
noncomputable def K61_0 : List K := (loopAtD [1, 1, 1, 1, 1, 1, 1, 1, 1, 0, 1] [] (Try.f61.body.getD .skip) []).2

/-- a round of loop 0 of facet/sound.heard; the variables: v2 = s18, v3 = s73 -/
def S61_0 (a0 : ((Int × Int × Int) × (Int × Int × Int) × Int × Int × Int) × Int × Int) (a1 : Int × Int × Int) (a2 : Int) (a3 : Int) (a4 : Int) : (List (Int × Int)) × Int → ((List (Int × Int)) × Int) ⊕ ((Int × Int) × Int)
  | (v2, v3) =>
   (bif (decide ((v3 : Int) < (((F88 a0.1 a4).1.length : Nat) : Int))) then
    (bif (((F89 ((F83 (W ((W ((W (1 * 2 ^ (min (Int.toNat a4) 64))) * a2)) * (W ((W (a3 - a0.2.1)) - 1))))), (F83 (W ((W ((W (1 * 2 ^ (min (Int.toNat a4) 64))) * a2)) * (W (a3 - a0.2.1))))), (W (1 * 2 ^ (min (Int.toNat a4) 64)))) (F84 ((F88 a0.1 a4).1.getD (Int.toNat v3) default) ((W ((W (1 * 2 ^ (min (Int.toNat a4) 64))) * a1.1)), (W ((W (1 * 2 ^ (min (Int.toNat a4) 64))) * a1.2.1)), (W ((W (1 * 2 ^ (min (Int.toNat a4) 64))) * a1.2.2)))) (F87 ((F88 a0.1 a4).1.getD (Int.toNat v3) default) ((W ((W (1 * 2 ^ (min (Int.toNat a4) 64))) * a1.1)), (W ((W (1 * 2 ^ (min (Int.toNat a4) 64))) * a1.2.1)), (W ((W (1 * 2 ^ (min (Int.toNat a4) 64))) * a1.2.2))))).2 : Int) != 0) then
     (.inr ((0, 0), (F89 ((F83 (W ((W ((W (1 * 2 ^ (min (Int.toNat a4) 64))) * a2)) * (W ((W (a3 - a0.2.1)) - 1))))), (F83 (W ((W ((W (1 * 2 ^ (min (Int.toNat a4) 64))) * a2)) * (W (a3 - a0.2.1))))), (W (1 * 2 ^ (min (Int.toNat a4) 64)))) (F84 ((F88 a0.1 a4).1.getD (Int.toNat v3) default) ((W ((W (1 * 2 ^ (min (Int.toNat a4) 64))) * a1.1)), (W ((W (1 * 2 ^ (min (Int.toNat a4) 64))) * a1.2.1)), (W ((W (1 * 2 ^ (min (Int.toNat a4) 64))) * a1.2.2)))) (F87 ((F88 a0.1 a4).1.getD (Int.toNat v3) default) ((W ((W (1 * 2 ^ (min (Int.toNat a4) 64))) * a1.1)), (W ((W (1 * 2 ^ (min (Int.toNat a4) 64))) * a1.2.1)), (W ((W (1 * 2 ^ (min (Int.toNat a4) 64))) * a1.2.2))))).2))
    else
     (.inl ((v2 ++ [(F89 ((F83 (W ((W ((W (1 * 2 ^ (min (Int.toNat a4) 64))) * a2)) * (W ((W (a3 - a0.2.1)) - 1))))), (F83 (W ((W ((W (1 * 2 ^ (min (Int.toNat a4) 64))) * a2)) * (W (a3 - a0.2.1))))), (W (1 * 2 ^ (min (Int.toNat a4) 64)))) (F84 ((F88 a0.1 a4).1.getD (Int.toNat v3) default) ((W ((W (1 * 2 ^ (min (Int.toNat a4) 64))) * a1.1)), (W ((W (1 * 2 ^ (min (Int.toNat a4) 64))) * a1.2.1)), (W ((W (1 * 2 ^ (min (Int.toNat a4) 64))) * a1.2.2)))) (F87 ((F88 a0.1 a4).1.getD (Int.toNat v3) default) ((W ((W (1 * 2 ^ (min (Int.toNat a4) 64))) * a1.1)), (W ((W (1 * 2 ^ (min (Int.toNat a4) 64))) * a1.2.1)), (W ((W (1 * 2 ^ (min (Int.toNat a4) 64))) * a1.2.2))))).1]), (v3 + 1))))
   else
    (bif (((F90_L v2).2 : Int) != 0) then
     (.inr ((0, 0), (F90_L v2).2))
    else
     (.inr ((F39 (F90_L v2).1 a0.2.2).1, (F39 (F90_L v2).1 a0.2.2).2))))

set_option maxHeartbeats 4000000 in
theorem L61_0 (a0 : ((Int × Int × Int) × (Int × Int × Int) × Int × Int × Int) × Int × Int) (a1 : Int × Int × Int) (a2 : Int) (a3 : Int) (a4 : Int) (hp : POK a0) (hx : bd 256 a1) (hs : 1 ≤ a2 ∧ a2 ≤ 16) (ht : 0 ≤ a3 ∧ a3 ≤ 2000) (hd : 0 ≤ a4 ∧ a4 ≤ 3) {cx : Cx} (hcx : cx.base = 0) : ∀ (n : Nat) (v2 : List (Int × Int)) (v3 : Int), (0 ≤ v3) ∧ (v2.length = Int.toNat v3) ∧ (v3 ≤ (F88 a0.1 a4).1.length) → Int.toNat ((((F88 a0.1 a4).1.length : Nat) : Int) - v3) < n → Aw.Good Try.prog none 9 (bodyPost Try.prog Try.f61 (RR cx (.t [(.a (k2 (loopF (S61_0 a0 a1 a2 a3 a4) n (v2, v3)).1)), (iv (loopF (S61_0 a0 a1 a2 a3 a4) n (v2, v3)).2)]) [] [])) cx [] (.l B61_0 n :: K61_0) ⟨[.u, .u, .u, .u, .u, (.p 0 0), .u, .u, .u, .u, (.p 1 0), .u, .u, (.s 2 0 (F88 a0.1 a4).1.length 9), .u, .u, (.p 3 0), (.p 4 0), (.s 5 0 v2.length 2), .u, .u, .u, .u, .u, .u, .u, .u, .u, .u, .u, .u, .u, .u, .u, .u, .u, .u, .u, .u, .u, .u, .u, .u, .u, .u, .u, .u, .u, .u, .u, .u, .u, .u, .u, .u, .u, .u, .u, .u, .u, .u, .u, .u, .u, .u, .u, .u, .u, .u, .u, .u, .u, (iv (((F88 a0.1 a4).1.length : Nat) : Int)), (iv v3), .u, .u, .u, .u, .u, .u, .u, .u, .u, .u, .u, .u, .u, .u, .u, .u, .u, .u, .u, .u, .u, .u, .u, .u, .u, .u, .u, .u, .u, .u, .u, .u, .u, .u, .u, .u, .u, .u, .u, .u, .u, .u, .u], [(.live true false [(iv a0.1.1.1), (iv a0.1.1.2.1), (iv a0.1.1.2.2), (iv a0.1.2.1.1), (iv a0.1.2.1.2.1), (iv a0.1.2.1.2.2), (iv a0.1.2.2.1), (iv a0.1.2.2.2.1), (iv a0.1.2.2.2.2), (iv a0.2.1), (iv a0.2.2)]), (.live true false [(iv 0), (iv 0)]), (.live true true (flat c26 (F88 a0.1 a4).1)), (.live true false [(iv (F83 (W ((W ((W (1 * 2 ^ (min (Int.toNat a4) 64))) * a2)) * (W ((W (a3 - a0.2.1)) - 1)))))), (iv (F83 (W ((W ((W (1 * 2 ^ (min (Int.toNat a4) 64))) * a2)) * (W (a3 - a0.2.1)))))), (iv (W (1 * 2 ^ (min (Int.toNat a4) 64))))]), (.live true false [(iv (W ((W (1 * 2 ^ (min (Int.toNat a4) 64))) * a1.1))), (iv (W ((W (1 * 2 ^ (min (Int.toNat a4) 64))) * a1.2.1))), (iv (W ((W (1 * 2 ^ (min (Int.toNat a4) 64))) * a1.2.2)))]), (.live true true (flat c32 v2))]⟩ := by
  intro n
  induction n with
  | zero => intro v2 v3 hi hn; exact absurd hn (Nat.not_lt_zero _)
  | succ n ih =>
    intro v2 v3 hi hn
    refine good_round ?_
    cases h0 : (decide ((v3 : Int) < (((F88 a0.1 a4).1.length : Nat) : Int))) with
    | true =>
      cases h1 : (((F89 ((F83 (W ((W ((W (1 * 2 ^ (min (Int.toNat a4) 64))) * a2)) * (W ((W (a3 - a0.2.1)) - 1))))), (F83 (W ((W ((W (1 * 2 ^ (min (Int.toNat a4) 64))) * a2)) * (W (a3 - a0.2.1))))), (W (1 * 2 ^ (min (Int.toNat a4) 64)))) (F84 ((F88 a0.1 a4).1.getD (Int.toNat v3) default) ((W ((W (1 * 2 ^ (min (Int.toNat a4) 64))) * a1.1)), (W ((W (1 * 2 ^ (min (Int.toNat a4) 64))) * a1.2.1)), (W ((W (1 * 2 ^ (min (Int.toNat a4) 64))) * a1.2.2)))) (F87 ((F88 a0.1 a4).1.getD (Int.toNat v3) default) ((W ((W (1 * 2 ^ (min (Int.toNat a4) 64))) * a1.1)), (W ((W (1 * 2 ^ (min (Int.toNat a4) 64))) * a1.2.1)), (W ((W (1 * 2 ^ (min (Int.toNat a4) 64))) * a1.2.2))))).2 : Int) != 0) with
      | true =>
        have q0 := of_decide_eq_true h0
        have q1 := bne_iff_ne.1 h1
        have hpl := sp_len a0.1 a4
        have e : S61_0 a0 a1 a2 a3 a4 (v2, v3) = (.inr ((0, 0), (F89 ((F83 (W ((W ((W (1 * 2 ^ (min (Int.toNat a4) 64))) * a2)) * (W ((W (a3 - a0.2.1)) - 1))))), (F83 (W ((W ((W (1 * 2 ^ (min (Int.toNat a4) 64))) * a2)) * (W (a3 - a0.2.1))))), (W (1 * 2 ^ (min (Int.toNat a4) 64)))) (F84 ((F88 a0.1 a4).1.getD (Int.toNat v3) default) ((W ((W (1 * 2 ^ (min (Int.toNat a4) 64))) * a1.1)), (W ((W (1 * 2 ^ (min (Int.toNat a4) 64))) * a1.2.1)), (W ((W (1 * 2 ^ (min (Int.toNat a4) 64))) * a1.2.2)))) (F87 ((F88 a0.1 a4).1.getD (Int.toNat v3) default) ((W ((W (1 * 2 ^ (min (Int.toNat a4) 64))) * a1.1)), (W ((W (1 * 2 ^ (min (Int.toNat a4) 64))) * a1.2.1)), (W ((W (1 * 2 ^ (min (Int.toNat a4) 64))) * a1.2.2))))).2)) := by simp only [S61_0, h0, h1, cond_true, cond_false]
        rw [show loopF (S61_0 a0 a1 a2 a3 a4) (n + 1) (v2, v3) = thenF (S61_0 a0 a1 a2 a3 a4) n (S61_0 a0 a1 a2 a3 a4 (v2, v3)) from rfl, e]
        exact ret_of (T := T0) hT hm (f := 5000) (orc := [.d true, .ld (k9 ((F88 a0.1 a4).1.getD (Int.toNat v3) default)), .call [] (iv (F84 ((F88 a0.1 a4).1.getD (Int.toNat v3) default) ((W ((W (1 * 2 ^ (min (Int.toNat a4) 64))) * a1.1)), (W ((W (1 * 2 ^ (min (Int.toNat a4) 64))) * a1.2.1)), (W ((W (1 * 2 ^ (min (Int.toNat a4) 64))) * a1.2.2))))) [], .ld (k9 ((F88 a0.1 a4).1.getD (Int.toNat v3) default)), .call [] (iv (F87 ((F88 a0.1 a4).1.getD (Int.toNat v3) default) ((W ((W (1 * 2 ^ (min (Int.toNat a4) 64))) * a1.1)), (W ((W (1 * 2 ^ (min (Int.toNat a4) 64))) * a1.2.1)), (W ((W (1 * 2 ^ (min (Int.toNat a4) 64))) * a1.2.2))))) [], .call [] (.t [(.a [(iv (F89 ((F83 (W ((W ((W (1 * 2 ^ (min (Int.toNat a4) 64))) * a2)) * (W ((W (a3 - a0.2.1)) - 1))))), (F83 (W ((W ((W (1 * 2 ^ (min (Int.toNat a4) 64))) * a2)) * (W (a3 - a0.2.1))))), (W (1 * 2 ^ (min (Int.toNat a4) 64)))) (F84 ((F88 a0.1 a4).1.getD (Int.toNat v3) default) ((W ((W (1 * 2 ^ (min (Int.toNat a4) 64))) * a1.1)), (W ((W (1 * 2 ^ (min (Int.toNat a4) 64))) * a1.2.1)), (W ((W (1 * 2 ^ (min (Int.toNat a4) 64))) * a1.2.2)))) (F87 ((F88 a0.1 a4).1.getD (Int.toNat v3) default) ((W ((W (1 * 2 ^ (min (Int.toNat a4) 64))) * a1.1)), (W ((W (1 * 2 ^ (min (Int.toNat a4) 64))) * a1.2.1)), (W ((W (1 * 2 ^ (min (Int.toNat a4) 64))) * a1.2.2))))).1.1), (iv (F89 ((F83 (W ((W ((W (1 * 2 ^ (min (Int.toNat a4) 64))) * a2)) * (W ((W (a3 - a0.2.1)) - 1))))), (F83 (W ((W ((W (1 * 2 ^ (min (Int.toNat a4) 64))) * a2)) * (W (a3 - a0.2.1))))), (W (1 * 2 ^ (min (Int.toNat a4) 64)))) (F84 ((F88 a0.1 a4).1.getD (Int.toNat v3) default) ((W ((W (1 * 2 ^ (min (Int.toNat a4) 64))) * a1.1)), (W ((W (1 * 2 ^ (min (Int.toNat a4) 64))) * a1.2.1)), (W ((W (1 * 2 ^ (min (Int.toNat a4) 64))) * a1.2.2)))) (F87 ((F88 a0.1 a4).1.getD (Int.toNat v3) default) ((W ((W (1 * 2 ^ (min (Int.toNat a4) 64))) * a1.1)), (W ((W (1 * 2 ^ (min (Int.toNat a4) 64))) * a1.2.1)), (W ((W (1 * 2 ^ (min (Int.toNat a4) 64))) * a1.2.2))))).1.2)]), (iv (F89 ((F83 (W ((W ((W (1 * 2 ^ (min (Int.toNat a4) 64))) * a2)) * (W ((W (a3 - a0.2.1)) - 1))))), (F83 (W ((W ((W (1 * 2 ^ (min (Int.toNat a4) 64))) * a2)) * (W (a3 - a0.2.1))))), (W (1 * 2 ^ (min (Int.toNat a4) 64)))) (F84 ((F88 a0.1 a4).1.getD (Int.toNat v3) default) ((W ((W (1 * 2 ^ (min (Int.toNat a4) 64))) * a1.1)), (W ((W (1 * 2 ^ (min (Int.toNat a4) 64))) * a1.2.1)), (W ((W (1 * 2 ^ (min (Int.toNat a4) 64))) * a1.2.2)))) (F87 ((F88 a0.1 a4).1.getD (Int.toNat v3) default) ((W ((W (1 * 2 ^ (min (Int.toNat a4) 64))) * a1.1)), (W ((W (1 * 2 ^ (min (Int.toNat a4) 64))) * a1.2.1)), (W ((W (1 * 2 ^ (min (Int.toNat a4) 64))) * a1.2.2))))).2)]) [], .d true]) [] [] [] hcx
          (obs := [.eq (decide ((v3 : Int) < (((F88 a0.1 a4).1.length : Nat) : Int))) true, .pr (0 ≤ (v3 : Int) ∧ (v3 : Int) < (((F88 a0.1 a4).1.length : Nat) : Int)), .pr (((((flat c26 (F88 a0.1 a4).1)).drop (0 + Int.toNat v3 * 9)).take 9) = (k9 ((F88 a0.1 a4).1.getD (Int.toNat v3) default))), .call 84 [(.a (k9 ((F88 a0.1 a4).1.getD (Int.toNat v3) default))), (.a [(iv (W ((W (1 * 2 ^ (min (Int.toNat a4) 64))) * a1.1))), (iv (W ((W (1 * 2 ^ (min (Int.toNat a4) 64))) * a1.2.1))), (iv (W ((W (1 * 2 ^ (min (Int.toNat a4) 64))) * a1.2.2)))])] [] (iv (F84 ((F88 a0.1 a4).1.getD (Int.toNat v3) default) ((W ((W (1 * 2 ^ (min (Int.toNat a4) 64))) * a1.1)), (W ((W (1 * 2 ^ (min (Int.toNat a4) 64))) * a1.2.1)), (W ((W (1 * 2 ^ (min (Int.toNat a4) 64))) * a1.2.2))))) [], .pr (0 ≤ (v3 : Int) ∧ (v3 : Int) < (((F88 a0.1 a4).1.length : Nat) : Int)), .pr (((((flat c26 (F88 a0.1 a4).1)).drop (0 + Int.toNat v3 * 9)).take 9) = (k9 ((F88 a0.1 a4).1.getD (Int.toNat v3) default))), .call 87 [(.a (k9 ((F88 a0.1 a4).1.getD (Int.toNat v3) default))), (.a [(iv (W ((W (1 * 2 ^ (min (Int.toNat a4) 64))) * a1.1))), (iv (W ((W (1 * 2 ^ (min (Int.toNat a4) 64))) * a1.2.1))), (iv (W ((W (1 * 2 ^ (min (Int.toNat a4) 64))) * a1.2.2)))])] [] (iv (F87 ((F88 a0.1 a4).1.getD (Int.toNat v3) default) ((W ((W (1 * 2 ^ (min (Int.toNat a4) 64))) * a1.1)), (W ((W (1 * 2 ^ (min (Int.toNat a4) 64))) * a1.2.1)), (W ((W (1 * 2 ^ (min (Int.toNat a4) 64))) * a1.2.2))))) [], .call 89 [(.a [(iv (F83 (W ((W ((W (1 * 2 ^ (min (Int.toNat a4) 64))) * a2)) * (W ((W (a3 - a0.2.1)) - 1)))))), (iv (F83 (W ((W ((W (1 * 2 ^ (min (Int.toNat a4) 64))) * a2)) * (W (a3 - a0.2.1)))))), (iv (W (1 * 2 ^ (min (Int.toNat a4) 64))))]), (iv (F84 ((F88 a0.1 a4).1.getD (Int.toNat v3) default) ((W ((W (1 * 2 ^ (min (Int.toNat a4) 64))) * a1.1)), (W ((W (1 * 2 ^ (min (Int.toNat a4) 64))) * a1.2.1)), (W ((W (1 * 2 ^ (min (Int.toNat a4) 64))) * a1.2.2))))), (iv (F87 ((F88 a0.1 a4).1.getD (Int.toNat v3) default) ((W ((W (1 * 2 ^ (min (Int.toNat a4) 64))) * a1.1)), (W ((W (1 * 2 ^ (min (Int.toNat a4) 64))) * a1.2.1)), (W ((W (1 * 2 ^ (min (Int.toNat a4) 64))) * a1.2.2)))))] [] (.t [(.a [(iv (F89 ((F83 (W ((W ((W (1 * 2 ^ (min (Int.toNat a4) 64))) * a2)) * (W ((W (a3 - a0.2.1)) - 1))))), (F83 (W ((W ((W (1 * 2 ^ (min (Int.toNat a4) 64))) * a2)) * (W (a3 - a0.2.1))))), (W (1 * 2 ^ (min (Int.toNat a4) 64)))) (F84 ((F88 a0.1 a4).1.getD (Int.toNat v3) default) ((W ((W (1 * 2 ^ (min (Int.toNat a4) 64))) * a1.1)), (W ((W (1 * 2 ^ (min (Int.toNat a4) 64))) * a1.2.1)), (W ((W (1 * 2 ^ (min (Int.toNat a4) 64))) * a1.2.2)))) (F87 ((F88 a0.1 a4).1.getD (Int.toNat v3) default) ((W ((W (1 * 2 ^ (min (Int.toNat a4) 64))) * a1.1)), (W ((W (1 * 2 ^ (min (Int.toNat a4) 64))) * a1.2.1)), (W ((W (1 * 2 ^ (min (Int.toNat a4) 64))) * a1.2.2))))).1.1), (iv (F89 ((F83 (W ((W ((W (1 * 2 ^ (min (Int.toNat a4) 64))) * a2)) * (W ((W (a3 - a0.2.1)) - 1))))), (F83 (W ((W ((W (1 * 2 ^ (min (Int.toNat a4) 64))) * a2)) * (W (a3 - a0.2.1))))), (W (1 * 2 ^ (min (Int.toNat a4) 64)))) (F84 ((F88 a0.1 a4).1.getD (Int.toNat v3) default) ((W ((W (1 * 2 ^ (min (Int.toNat a4) 64))) * a1.1)), (W ((W (1 * 2 ^ (min (Int.toNat a4) 64))) * a1.2.1)), (W ((W (1 * 2 ^ (min (Int.toNat a4) 64))) * a1.2.2)))) (F87 ((F88 a0.1 a4).1.getD (Int.toNat v3) default) ((W ((W (1 * 2 ^ (min (Int.toNat a4) 64))) * a1.1)), (W ((W (1 * 2 ^ (min (Int.toNat a4) 64))) * a1.2.1)), (W ((W (1 * 2 ^ (min (Int.toNat a4) 64))) * a1.2.2))))).1.2)]), (iv (F89 ((F83 (W ((W ((W (1 * 2 ^ (min (Int.toNat a4) 64))) * a2)) * (W ((W (a3 - a0.2.1)) - 1))))), (F83 (W ((W ((W (1 * 2 ^ (min (Int.toNat a4) 64))) * a2)) * (W (a3 - a0.2.1))))), (W (1 * 2 ^ (min (Int.toNat a4) 64)))) (F84 ((F88 a0.1 a4).1.getD (Int.toNat v3) default) ((W ((W (1 * 2 ^ (min (Int.toNat a4) 64))) * a1.1)), (W ((W (1 * 2 ^ (min (Int.toNat a4) 64))) * a1.2.1)), (W ((W (1 * 2 ^ (min (Int.toNat a4) 64))) * a1.2.2)))) (F87 ((F88 a0.1 a4).1.getD (Int.toNat v3) default) ((W ((W (1 * 2 ^ (min (Int.toNat a4) 64))) * a1.1)), (W ((W (1 * 2 ^ (min (Int.toNat a4) 64))) * a1.2.1)), (W ((W (1 * 2 ^ (min (Int.toNat a4) 64))) * a1.2.2))))).2)]) [], .eq (((F89 ((F83 (W ((W ((W (1 * 2 ^ (min (Int.toNat a4) 64))) * a2)) * (W ((W (a3 - a0.2.1)) - 1))))), (F83 (W ((W ((W (1 * 2 ^ (min (Int.toNat a4) 64))) * a2)) * (W (a3 - a0.2.1))))), (W (1 * 2 ^ (min (Int.toNat a4) 64)))) (F84 ((F88 a0.1 a4).1.getD (Int.toNat v3) default) ((W ((W (1 * 2 ^ (min (Int.toNat a4) 64))) * a1.1)), (W ((W (1 * 2 ^ (min (Int.toNat a4) 64))) * a1.2.1)), (W ((W (1 * 2 ^ (min (Int.toNat a4) 64))) * a1.2.2)))) (F87 ((F88 a0.1 a4).1.getD (Int.toNat v3) default) ((W ((W (1 * 2 ^ (min (Int.toNat a4) 64))) * a1.1)), (W ((W (1 * 2 ^ (min (Int.toNat a4) 64))) * a1.2.1)), (W ((W (1 * 2 ^ (min (Int.toNat a4) 64))) * a1.2.2))))).2 : Int) != 0) true]) (by kernel_rfl) ⟨h0, (show 0 ≤ (v3 : Int) ∧ (v3 : Int) < (((F88 a0.1 a4).1.length : Nat) : Int) from by first | omega | (rw [W_eq] <;> omega) | exact u64_nn _), (ld_part c26_len default (F88 a0.1 a4).1 v3 0 9 (by omega) (by decide) (by omega) rfl), (C84 ((F88 a0.1 a4).1.getD (Int.toNat v3) default) ((W ((W (1 * 2 ^ (min (Int.toNat a4) 64))) * a1.1)), (W ((W (1 * 2 ^ (min (Int.toNat a4) 64))) * a1.2.1)), (W ((W (1 * 2 ^ (min (Int.toNat a4) 64))) * a1.2.2)))), (show 0 ≤ (v3 : Int) ∧ (v3 : Int) < (((F88 a0.1 a4).1.length : Nat) : Int) from by first | omega | (rw [W_eq] <;> omega) | exact u64_nn _), (ld_part c26_len default (F88 a0.1 a4).1 v3 0 9 (by omega) (by decide) (by omega) rfl), (C87 ((F88 a0.1 a4).1.getD (Int.toNat v3) default) ((W ((W (1 * 2 ^ (min (Int.toNat a4) 64))) * a1.1)), (W ((W (1 * 2 ^ (min (Int.toNat a4) 64))) * a1.2.1)), (W ((W (1 * 2 ^ (min (Int.toNat a4) 64))) * a1.2.2)))), (C89 ((F83 (W ((W ((W (1 * 2 ^ (min (Int.toNat a4) 64))) * a2)) * (W ((W (a3 - a0.2.1)) - 1))))), (F83 (W ((W ((W (1 * 2 ^ (min (Int.toNat a4) 64))) * a2)) * (W (a3 - a0.2.1))))), (W (1 * 2 ^ (min (Int.toNat a4) 64)))) (F84 ((F88 a0.1 a4).1.getD (Int.toNat v3) default) ((W ((W (1 * 2 ^ (min (Int.toNat a4) 64))) * a1.1)), (W ((W (1 * 2 ^ (min (Int.toNat a4) 64))) * a1.2.1)), (W ((W (1 * 2 ^ (min (Int.toNat a4) 64))) * a1.2.2)))) (F87 ((F88 a0.1 a4).1.getD (Int.toNat v3) default) ((W ((W (1 * 2 ^ (min (Int.toNat a4) 64))) * a1.1)), (W ((W (1 * 2 ^ (min (Int.toNat a4) 64))) * a1.2.1)), (W ((W (1 * 2 ^ (min (Int.toNat a4) 64))) * a1.2.2))))), h1, trivial⟩
      | false =>
        have q0 := of_decide_eq_true h0
        have q1 := bne_eq_false_iff_eq.1 h1
        have hpl := sp_len a0.1 a4
        have e : S61_0 a0 a1 a2 a3 a4 (v2, v3) = (.inl ((v2 ++ [(F89 ((F83 (W ((W ((W (1 * 2 ^ (min (Int.toNat a4) 64))) * a2)) * (W ((W (a3 - a0.2.1)) - 1))))), (F83 (W ((W ((W (1 * 2 ^ (min (Int.toNat a4) 64))) * a2)) * (W (a3 - a0.2.1))))), (W (1 * 2 ^ (min (Int.toNat a4) 64)))) (F84 ((F88 a0.1 a4).1.getD (Int.toNat v3) default) ((W ((W (1 * 2 ^ (min (Int.toNat a4) 64))) * a1.1)), (W ((W (1 * 2 ^ (min (Int.toNat a4) 64))) * a1.2.1)), (W ((W (1 * 2 ^ (min (Int.toNat a4) 64))) * a1.2.2)))) (F87 ((F88 a0.1 a4).1.getD (Int.toNat v3) default) ((W ((W (1 * 2 ^ (min (Int.toNat a4) 64))) * a1.1)), (W ((W (1 * 2 ^ (min (Int.toNat a4) 64))) * a1.2.1)), (W ((W (1 * 2 ^ (min (Int.toNat a4) 64))) * a1.2.2))))).1]), (v3 + 1))) := by simp only [S61_0, h0, h1, cond_true, cond_false]
        rw [loopF_inl e]
        refine back_of (T := T0) hT hm (f := 5000) (orc := [.d true, .ld (k9 ((F88 a0.1 a4).1.getD (Int.toNat v3) default)), .call [] (iv (F84 ((F88 a0.1 a4).1.getD (Int.toNat v3) default) ((W ((W (1 * 2 ^ (min (Int.toNat a4) 64))) * a1.1)), (W ((W (1 * 2 ^ (min (Int.toNat a4) 64))) * a1.2.1)), (W ((W (1 * 2 ^ (min (Int.toNat a4) 64))) * a1.2.2))))) [], .ld (k9 ((F88 a0.1 a4).1.getD (Int.toNat v3) default)), .call [] (iv (F87 ((F88 a0.1 a4).1.getD (Int.toNat v3) default) ((W ((W (1 * 2 ^ (min (Int.toNat a4) 64))) * a1.1)), (W ((W (1 * 2 ^ (min (Int.toNat a4) 64))) * a1.2.1)), (W ((W (1 * 2 ^ (min (Int.toNat a4) 64))) * a1.2.2))))) [], .call [] (.t [(.a [(iv (F89 ((F83 (W ((W ((W (1 * 2 ^ (min (Int.toNat a4) 64))) * a2)) * (W ((W (a3 - a0.2.1)) - 1))))), (F83 (W ((W ((W (1 * 2 ^ (min (Int.toNat a4) 64))) * a2)) * (W (a3 - a0.2.1))))), (W (1 * 2 ^ (min (Int.toNat a4) 64)))) (F84 ((F88 a0.1 a4).1.getD (Int.toNat v3) default) ((W ((W (1 * 2 ^ (min (Int.toNat a4) 64))) * a1.1)), (W ((W (1 * 2 ^ (min (Int.toNat a4) 64))) * a1.2.1)), (W ((W (1 * 2 ^ (min (Int.toNat a4) 64))) * a1.2.2)))) (F87 ((F88 a0.1 a4).1.getD (Int.toNat v3) default) ((W ((W (1 * 2 ^ (min (Int.toNat a4) 64))) * a1.1)), (W ((W (1 * 2 ^ (min (Int.toNat a4) 64))) * a1.2.1)), (W ((W (1 * 2 ^ (min (Int.toNat a4) 64))) * a1.2.2))))).1.1), (iv (F89 ((F83 (W ((W ((W (1 * 2 ^ (min (Int.toNat a4) 64))) * a2)) * (W ((W (a3 - a0.2.1)) - 1))))), (F83 (W ((W ((W (1 * 2 ^ (min (Int.toNat a4) 64))) * a2)) * (W (a3 - a0.2.1))))), (W (1 * 2 ^ (min (Int.toNat a4) 64)))) (F84 ((F88 a0.1 a4).1.getD (Int.toNat v3) default) ((W ((W (1 * 2 ^ (min (Int.toNat a4) 64))) * a1.1)), (W ((W (1 * 2 ^ (min (Int.toNat a4) 64))) * a1.2.1)), (W ((W (1 * 2 ^ (min (Int.toNat a4) 64))) * a1.2.2)))) (F87 ((F88 a0.1 a4).1.getD (Int.toNat v3) default) ((W ((W (1 * 2 ^ (min (Int.toNat a4) 64))) * a1.1)), (W ((W (1 * 2 ^ (min (Int.toNat a4) 64))) * a1.2.1)), (W ((W (1 * 2 ^ (min (Int.toNat a4) 64))) * a1.2.2))))).1.2)]), (iv (F89 ((F83 (W ((W ((W (1 * 2 ^ (min (Int.toNat a4) 64))) * a2)) * (W ((W (a3 - a0.2.1)) - 1))))), (F83 (W ((W ((W (1 * 2 ^ (min (Int.toNat a4) 64))) * a2)) * (W (a3 - a0.2.1))))), (W (1 * 2 ^ (min (Int.toNat a4) 64)))) (F84 ((F88 a0.1 a4).1.getD (Int.toNat v3) default) ((W ((W (1 * 2 ^ (min (Int.toNat a4) 64))) * a1.1)), (W ((W (1 * 2 ^ (min (Int.toNat a4) 64))) * a1.2.1)), (W ((W (1 * 2 ^ (min (Int.toNat a4) 64))) * a1.2.2)))) (F87 ((F88 a0.1 a4).1.getD (Int.toNat v3) default) ((W ((W (1 * 2 ^ (min (Int.toNat a4) 64))) * a1.1)), (W ((W (1 * 2 ^ (min (Int.toNat a4) 64))) * a1.2.1)), (W ((W (1 * 2 ^ (min (Int.toNat a4) 64))) * a1.2.2))))).2)]) [], .d false]) [] [5, 10, 13, 16, 17, 18, 72, 73] [0, 1, 2, 3, 4, 8] hcx (body := B61_0) (m := n) (k' := K61_0) (s' := ⟨[.u, .u, .u, .u, .u, (.p 0 0), .u, .u, .u, .u, (.p 1 0), .u, .u, (.s 2 0 (F88 a0.1 a4).1.length 9), .u, .u, (.p 3 0), (.p 4 0), (.s 5 0 (v2.length + 1) 2), .u, .u, .u, .u, .u, .u, .u, .u, .u, .u, .u, .u, .u, .u, .u, .u, .u, .u, .u, .u, .u, .u, .u, .u, .u, .u, .u, .u, .u, .u, .u, .u, .u, .u, .u, .u, .u, .u, .u, .u, .u, .u, .u, .u, .u, .u, .u, .u, .u, .u, .u, .u, .u, (iv (((F88 a0.1 a4).1.length : Nat) : Int)), (iv (W (v3 + 1))), .u, .u, .u, .u, .u, .u, .u, .u, .u, .u, .u, .u, .u, .u, .u, .u, .u, .u, .u, .u, .u, .u, .u, .u, .u, .u, .u, .u, .u, .u, .u, .u, .u, .u, .u, .u, .u, .u, .u, .u, .u, .u, .u], [(.live true false [(iv a0.1.1.1), (iv a0.1.1.2.1), (iv a0.1.1.2.2), (iv a0.1.2.1.1), (iv a0.1.2.1.2.1), (iv a0.1.2.1.2.2), (iv a0.1.2.2.1), (iv a0.1.2.2.2.1), (iv a0.1.2.2.2.2), (iv a0.2.1), (iv a0.2.2)]), (.live true false [(iv 0), (iv 0)]), (.live true true (flat c26 (F88 a0.1 a4).1)), (.live true false [(iv (F83 (W ((W ((W (1 * 2 ^ (min (Int.toNat a4) 64))) * a2)) * (W ((W (a3 - a0.2.1)) - 1)))))), (iv (F83 (W ((W ((W (1 * 2 ^ (min (Int.toNat a4) 64))) * a2)) * (W (a3 - a0.2.1)))))), (iv (W (1 * 2 ^ (min (Int.toNat a4) 64))))]), (.live true false [(iv (W ((W (1 * 2 ^ (min (Int.toNat a4) 64))) * a1.1))), (iv (W ((W (1 * 2 ^ (min (Int.toNat a4) 64))) * a1.2.1))), (iv (W ((W (1 * 2 ^ (min (Int.toNat a4) 64))) * a1.2.2)))]), (.live true true (flat c32 v2 ++ [(iv (F89 ((F83 (W ((W ((W (1 * 2 ^ (min (Int.toNat a4) 64))) * a2)) * (W ((W (a3 - a0.2.1)) - 1))))), (F83 (W ((W ((W (1 * 2 ^ (min (Int.toNat a4) 64))) * a2)) * (W (a3 - a0.2.1))))), (W (1 * 2 ^ (min (Int.toNat a4) 64)))) (F84 ((F88 a0.1 a4).1.getD (Int.toNat v3) default) ((W ((W (1 * 2 ^ (min (Int.toNat a4) 64))) * a1.1)), (W ((W (1 * 2 ^ (min (Int.toNat a4) 64))) * a1.2.1)), (W ((W (1 * 2 ^ (min (Int.toNat a4) 64))) * a1.2.2)))) (F87 ((F88 a0.1 a4).1.getD (Int.toNat v3) default) ((W ((W (1 * 2 ^ (min (Int.toNat a4) 64))) * a1.1)), (W ((W (1 * 2 ^ (min (Int.toNat a4) 64))) * a1.2.1)), (W ((W (1 * 2 ^ (min (Int.toNat a4) 64))) * a1.2.2))))).1.1), (iv (F89 ((F83 (W ((W ((W (1 * 2 ^ (min (Int.toNat a4) 64))) * a2)) * (W ((W (a3 - a0.2.1)) - 1))))), (F83 (W ((W ((W (1 * 2 ^ (min (Int.toNat a4) 64))) * a2)) * (W (a3 - a0.2.1))))), (W (1 * 2 ^ (min (Int.toNat a4) 64)))) (F84 ((F88 a0.1 a4).1.getD (Int.toNat v3) default) ((W ((W (1 * 2 ^ (min (Int.toNat a4) 64))) * a1.1)), (W ((W (1 * 2 ^ (min (Int.toNat a4) 64))) * a1.2.1)), (W ((W (1 * 2 ^ (min (Int.toNat a4) 64))) * a1.2.2)))) (F87 ((F88 a0.1 a4).1.getD (Int.toNat v3) default) ((W ((W (1 * 2 ^ (min (Int.toNat a4) 64))) * a1.1)), (W ((W (1 * 2 ^ (min (Int.toNat a4) 64))) * a1.2.1)), (W ((W (1 * 2 ^ (min (Int.toNat a4) 64))) * a1.2.2))))).1.2)]))]⟩)
          (obs := [.eq (decide ((v3 : Int) < (((F88 a0.1 a4).1.length : Nat) : Int))) true, .pr (0 ≤ (v3 : Int) ∧ (v3 : Int) < (((F88 a0.1 a4).1.length : Nat) : Int)), .pr (((((flat c26 (F88 a0.1 a4).1)).drop (0 + Int.toNat v3 * 9)).take 9) = (k9 ((F88 a0.1 a4).1.getD (Int.toNat v3) default))), .call 84 [(.a (k9 ((F88 a0.1 a4).1.getD (Int.toNat v3) default))), (.a [(iv (W ((W (1 * 2 ^ (min (Int.toNat a4) 64))) * a1.1))), (iv (W ((W (1 * 2 ^ (min (Int.toNat a4) 64))) * a1.2.1))), (iv (W ((W (1 * 2 ^ (min (Int.toNat a4) 64))) * a1.2.2)))])] [] (iv (F84 ((F88 a0.1 a4).1.getD (Int.toNat v3) default) ((W ((W (1 * 2 ^ (min (Int.toNat a4) 64))) * a1.1)), (W ((W (1 * 2 ^ (min (Int.toNat a4) 64))) * a1.2.1)), (W ((W (1 * 2 ^ (min (Int.toNat a4) 64))) * a1.2.2))))) [], .pr (0 ≤ (v3 : Int) ∧ (v3 : Int) < (((F88 a0.1 a4).1.length : Nat) : Int)), .pr (((((flat c26 (F88 a0.1 a4).1)).drop (0 + Int.toNat v3 * 9)).take 9) = (k9 ((F88 a0.1 a4).1.getD (Int.toNat v3) default))), .call 87 [(.a (k9 ((F88 a0.1 a4).1.getD (Int.toNat v3) default))), (.a [(iv (W ((W (1 * 2 ^ (min (Int.toNat a4) 64))) * a1.1))), (iv (W ((W (1 * 2 ^ (min (Int.toNat a4) 64))) * a1.2.1))), (iv (W ((W (1 * 2 ^ (min (Int.toNat a4) 64))) * a1.2.2)))])] [] (iv (F87 ((F88 a0.1 a4).1.getD (Int.toNat v3) default) ((W ((W (1 * 2 ^ (min (Int.toNat a4) 64))) * a1.1)), (W ((W (1 * 2 ^ (min (Int.toNat a4) 64))) * a1.2.1)), (W ((W (1 * 2 ^ (min (Int.toNat a4) 64))) * a1.2.2))))) [], .call 89 [(.a [(iv (F83 (W ((W ((W (1 * 2 ^ (min (Int.toNat a4) 64))) * a2)) * (W ((W (a3 - a0.2.1)) - 1)))))), (iv (F83 (W ((W ((W (1 * 2 ^ (min (Int.toNat a4) 64))) * a2)) * (W (a3 - a0.2.1)))))), (iv (W (1 * 2 ^ (min (Int.toNat a4) 64))))]), (iv (F84 ((F88 a0.1 a4).1.getD (Int.toNat v3) default) ((W ((W (1 * 2 ^ (min (Int.toNat a4) 64))) * a1.1)), (W ((W (1 * 2 ^ (min (Int.toNat a4) 64))) * a1.2.1)), (W ((W (1 * 2 ^ (min (Int.toNat a4) 64))) * a1.2.2))))), (iv (F87 ((F88 a0.1 a4).1.getD (Int.toNat v3) default) ((W ((W (1 * 2 ^ (min (Int.toNat a4) 64))) * a1.1)), (W ((W (1 * 2 ^ (min (Int.toNat a4) 64))) * a1.2.1)), (W ((W (1 * 2 ^ (min (Int.toNat a4) 64))) * a1.2.2)))))] [] (.t [(.a [(iv (F89 ((F83 (W ((W ((W (1 * 2 ^ (min (Int.toNat a4) 64))) * a2)) * (W ((W (a3 - a0.2.1)) - 1))))), (F83 (W ((W ((W (1 * 2 ^ (min (Int.toNat a4) 64))) * a2)) * (W (a3 - a0.2.1))))), (W (1 * 2 ^ (min (Int.toNat a4) 64)))) (F84 ((F88 a0.1 a4).1.getD (Int.toNat v3) default) ((W ((W (1 * 2 ^ (min (Int.toNat a4) 64))) * a1.1)), (W ((W (1 * 2 ^ (min (Int.toNat a4) 64))) * a1.2.1)), (W ((W (1 * 2 ^ (min (Int.toNat a4) 64))) * a1.2.2)))) (F87 ((F88 a0.1 a4).1.getD (Int.toNat v3) default) ((W ((W (1 * 2 ^ (min (Int.toNat a4) 64))) * a1.1)), (W ((W (1 * 2 ^ (min (Int.toNat a4) 64))) * a1.2.1)), (W ((W (1 * 2 ^ (min (Int.toNat a4) 64))) * a1.2.2))))).1.1), (iv (F89 ((F83 (W ((W ((W (1 * 2 ^ (min (Int.toNat a4) 64))) * a2)) * (W ((W (a3 - a0.2.1)) - 1))))), (F83 (W ((W ((W (1 * 2 ^ (min (Int.toNat a4) 64))) * a2)) * (W (a3 - a0.2.1))))), (W (1 * 2 ^ (min (Int.toNat a4) 64)))) (F84 ((F88 a0.1 a4).1.getD (Int.toNat v3) default) ((W ((W (1 * 2 ^ (min (Int.toNat a4) 64))) * a1.1)), (W ((W (1 * 2 ^ (min (Int.toNat a4) 64))) * a1.2.1)), (W ((W (1 * 2 ^ (min (Int.toNat a4) 64))) * a1.2.2)))) (F87 ((F88 a0.1 a4).1.getD (Int.toNat v3) default) ((W ((W (1 * 2 ^ (min (Int.toNat a4) 64))) * a1.1)), (W ((W (1 * 2 ^ (min (Int.toNat a4) 64))) * a1.2.1)), (W ((W (1 * 2 ^ (min (Int.toNat a4) 64))) * a1.2.2))))).1.2)]), (iv (F89 ((F83 (W ((W ((W (1 * 2 ^ (min (Int.toNat a4) 64))) * a2)) * (W ((W (a3 - a0.2.1)) - 1))))), (F83 (W ((W ((W (1 * 2 ^ (min (Int.toNat a4) 64))) * a2)) * (W (a3 - a0.2.1))))), (W (1 * 2 ^ (min (Int.toNat a4) 64)))) (F84 ((F88 a0.1 a4).1.getD (Int.toNat v3) default) ((W ((W (1 * 2 ^ (min (Int.toNat a4) 64))) * a1.1)), (W ((W (1 * 2 ^ (min (Int.toNat a4) 64))) * a1.2.1)), (W ((W (1 * 2 ^ (min (Int.toNat a4) 64))) * a1.2.2)))) (F87 ((F88 a0.1 a4).1.getD (Int.toNat v3) default) ((W ((W (1 * 2 ^ (min (Int.toNat a4) 64))) * a1.1)), (W ((W (1 * 2 ^ (min (Int.toNat a4) 64))) * a1.2.1)), (W ((W (1 * 2 ^ (min (Int.toNat a4) 64))) * a1.2.2))))).2)]) [], .eq (((F89 ((F83 (W ((W ((W (1 * 2 ^ (min (Int.toNat a4) 64))) * a2)) * (W ((W (a3 - a0.2.1)) - 1))))), (F83 (W ((W ((W (1 * 2 ^ (min (Int.toNat a4) 64))) * a2)) * (W (a3 - a0.2.1))))), (W (1 * 2 ^ (min (Int.toNat a4) 64)))) (F84 ((F88 a0.1 a4).1.getD (Int.toNat v3) default) ((W ((W (1 * 2 ^ (min (Int.toNat a4) 64))) * a1.1)), (W ((W (1 * 2 ^ (min (Int.toNat a4) 64))) * a1.2.1)), (W ((W (1 * 2 ^ (min (Int.toNat a4) 64))) * a1.2.2)))) (F87 ((F88 a0.1 a4).1.getD (Int.toNat v3) default) ((W ((W (1 * 2 ^ (min (Int.toNat a4) 64))) * a1.1)), (W ((W (1 * 2 ^ (min (Int.toNat a4) 64))) * a1.2.1)), (W ((W (1 * 2 ^ (min (Int.toNat a4) 64))) * a1.2.2))))).2 : Int) != 0) false, .pr ((flat c32 v2).length = v2.length * 2 ∧ v2.length + 1 ≤ 2 ^ 40 ∧ (v2.length + 1) * 16 ≤ 2 ^ 47)]) (by kernel_rfl) ⟨h0, (show 0 ≤ (v3 : Int) ∧ (v3 : Int) < (((F88 a0.1 a4).1.length : Nat) : Int) from by first | omega | (rw [W_eq] <;> omega) | exact u64_nn _), (ld_part c26_len default (F88 a0.1 a4).1 v3 0 9 (by omega) (by decide) (by omega) rfl), (C84 ((F88 a0.1 a4).1.getD (Int.toNat v3) default) ((W ((W (1 * 2 ^ (min (Int.toNat a4) 64))) * a1.1)), (W ((W (1 * 2 ^ (min (Int.toNat a4) 64))) * a1.2.1)), (W ((W (1 * 2 ^ (min (Int.toNat a4) 64))) * a1.2.2)))), (show 0 ≤ (v3 : Int) ∧ (v3 : Int) < (((F88 a0.1 a4).1.length : Nat) : Int) from by first | omega | (rw [W_eq] <;> omega) | exact u64_nn _), (ld_part c26_len default (F88 a0.1 a4).1 v3 0 9 (by omega) (by decide) (by omega) rfl), (C87 ((F88 a0.1 a4).1.getD (Int.toNat v3) default) ((W ((W (1 * 2 ^ (min (Int.toNat a4) 64))) * a1.1)), (W ((W (1 * 2 ^ (min (Int.toNat a4) 64))) * a1.2.1)), (W ((W (1 * 2 ^ (min (Int.toNat a4) 64))) * a1.2.2)))), (C89 ((F83 (W ((W ((W (1 * 2 ^ (min (Int.toNat a4) 64))) * a2)) * (W ((W (a3 - a0.2.1)) - 1))))), (F83 (W ((W ((W (1 * 2 ^ (min (Int.toNat a4) 64))) * a2)) * (W (a3 - a0.2.1))))), (W (1 * 2 ^ (min (Int.toNat a4) 64)))) (F84 ((F88 a0.1 a4).1.getD (Int.toNat v3) default) ((W ((W (1 * 2 ^ (min (Int.toNat a4) 64))) * a1.1)), (W ((W (1 * 2 ^ (min (Int.toNat a4) 64))) * a1.2.1)), (W ((W (1 * 2 ^ (min (Int.toNat a4) 64))) * a1.2.2)))) (F87 ((F88 a0.1 a4).1.getD (Int.toNat v3) default) ((W ((W (1 * 2 ^ (min (Int.toNat a4) 64))) * a1.1)), (W ((W (1 * 2 ^ (min (Int.toNat a4) 64))) * a1.2.1)), (W ((W (1 * 2 ^ (min (Int.toNat a4) 64))) * a1.2.2))))), h1, (app_ok c32_len (by omega) (by omega)), trivial⟩ ?_
        have z0 : (W (v3 + 1)) = (v3 + 1) := W_eq (by omega) (by omega)
        have z1 : (flat c32 v2 ++ [(iv (F89 ((F83 (W ((W ((W (1 * 2 ^ (min (Int.toNat a4) 64))) * a2)) * (W ((W (a3 - a0.2.1)) - 1))))), (F83 (W ((W ((W (1 * 2 ^ (min (Int.toNat a4) 64))) * a2)) * (W (a3 - a0.2.1))))), (W (1 * 2 ^ (min (Int.toNat a4) 64)))) (F84 ((F88 a0.1 a4).1.getD (Int.toNat v3) default) ((W ((W (1 * 2 ^ (min (Int.toNat a4) 64))) * a1.1)), (W ((W (1 * 2 ^ (min (Int.toNat a4) 64))) * a1.2.1)), (W ((W (1 * 2 ^ (min (Int.toNat a4) 64))) * a1.2.2)))) (F87 ((F88 a0.1 a4).1.getD (Int.toNat v3) default) ((W ((W (1 * 2 ^ (min (Int.toNat a4) 64))) * a1.1)), (W ((W (1 * 2 ^ (min (Int.toNat a4) 64))) * a1.2.1)), (W ((W (1 * 2 ^ (min (Int.toNat a4) 64))) * a1.2.2))))).1.1), (iv (F89 ((F83 (W ((W ((W (1 * 2 ^ (min (Int.toNat a4) 64))) * a2)) * (W ((W (a3 - a0.2.1)) - 1))))), (F83 (W ((W ((W (1 * 2 ^ (min (Int.toNat a4) 64))) * a2)) * (W (a3 - a0.2.1))))), (W (1 * 2 ^ (min (Int.toNat a4) 64)))) (F84 ((F88 a0.1 a4).1.getD (Int.toNat v3) default) ((W ((W (1 * 2 ^ (min (Int.toNat a4) 64))) * a1.1)), (W ((W (1 * 2 ^ (min (Int.toNat a4) 64))) * a1.2.1)), (W ((W (1 * 2 ^ (min (Int.toNat a4) 64))) * a1.2.2)))) (F87 ((F88 a0.1 a4).1.getD (Int.toNat v3) default) ((W ((W (1 * 2 ^ (min (Int.toNat a4) 64))) * a1.1)), (W ((W (1 * 2 ^ (min (Int.toNat a4) 64))) * a1.2.1)), (W ((W (1 * 2 ^ (min (Int.toNat a4) 64))) * a1.2.2))))).1.2)]) = (flat c32 (v2 ++ [(F89 ((F83 (W ((W ((W (1 * 2 ^ (min (Int.toNat a4) 64))) * a2)) * (W ((W (a3 - a0.2.1)) - 1))))), (F83 (W ((W ((W (1 * 2 ^ (min (Int.toNat a4) 64))) * a2)) * (W (a3 - a0.2.1))))), (W (1 * 2 ^ (min (Int.toNat a4) 64)))) (F84 ((F88 a0.1 a4).1.getD (Int.toNat v3) default) ((W ((W (1 * 2 ^ (min (Int.toNat a4) 64))) * a1.1)), (W ((W (1 * 2 ^ (min (Int.toNat a4) 64))) * a1.2.1)), (W ((W (1 * 2 ^ (min (Int.toNat a4) 64))) * a1.2.2)))) (F87 ((F88 a0.1 a4).1.getD (Int.toNat v3) default) ((W ((W (1 * 2 ^ (min (Int.toNat a4) 64))) * a1.1)), (W ((W (1 * 2 ^ (min (Int.toNat a4) 64))) * a1.2.1)), (W ((W (1 * 2 ^ (min (Int.toNat a4) 64))) * a1.2.2))))).1])) := (flat_append (c := c32) (l := v2) (m := [(F89 ((F83 (W ((W ((W (1 * 2 ^ (min (Int.toNat a4) 64))) * a2)) * (W ((W (a3 - a0.2.1)) - 1))))), (F83 (W ((W ((W (1 * 2 ^ (min (Int.toNat a4) 64))) * a2)) * (W (a3 - a0.2.1))))), (W (1 * 2 ^ (min (Int.toNat a4) 64)))) (F84 ((F88 a0.1 a4).1.getD (Int.toNat v3) default) ((W ((W (1 * 2 ^ (min (Int.toNat a4) 64))) * a1.1)), (W ((W (1 * 2 ^ (min (Int.toNat a4) 64))) * a1.2.1)), (W ((W (1 * 2 ^ (min (Int.toNat a4) 64))) * a1.2.2)))) (F87 ((F88 a0.1 a4).1.getD (Int.toNat v3) default) ((W ((W (1 * 2 ^ (min (Int.toNat a4) 64))) * a1.1)), (W ((W (1 * 2 ^ (min (Int.toNat a4) 64))) * a1.2.1)), (W ((W (1 * 2 ^ (min (Int.toNat a4) 64))) * a1.2.2))))).1])).symm
        have z2 : (v2.length + 1) = (v2 ++ [(F89 ((F83 (W ((W ((W (1 * 2 ^ (min (Int.toNat a4) 64))) * a2)) * (W ((W (a3 - a0.2.1)) - 1))))), (F83 (W ((W ((W (1 * 2 ^ (min (Int.toNat a4) 64))) * a2)) * (W (a3 - a0.2.1))))), (W (1 * 2 ^ (min (Int.toNat a4) 64)))) (F84 ((F88 a0.1 a4).1.getD (Int.toNat v3) default) ((W ((W (1 * 2 ^ (min (Int.toNat a4) 64))) * a1.1)), (W ((W (1 * 2 ^ (min (Int.toNat a4) 64))) * a1.2.1)), (W ((W (1 * 2 ^ (min (Int.toNat a4) 64))) * a1.2.2)))) (F87 ((F88 a0.1 a4).1.getD (Int.toNat v3) default) ((W ((W (1 * 2 ^ (min (Int.toNat a4) 64))) * a1.1)), (W ((W (1 * 2 ^ (min (Int.toNat a4) 64))) * a1.2.1)), (W ((W (1 * 2 ^ (min (Int.toNat a4) 64))) * a1.2.2))))).1]).length := len_app v2 [(F89 ((F83 (W ((W ((W (1 * 2 ^ (min (Int.toNat a4) 64))) * a2)) * (W ((W (a3 - a0.2.1)) - 1))))), (F83 (W ((W ((W (1 * 2 ^ (min (Int.toNat a4) 64))) * a2)) * (W (a3 - a0.2.1))))), (W (1 * 2 ^ (min (Int.toNat a4) 64)))) (F84 ((F88 a0.1 a4).1.getD (Int.toNat v3) default) ((W ((W (1 * 2 ^ (min (Int.toNat a4) 64))) * a1.1)), (W ((W (1 * 2 ^ (min (Int.toNat a4) 64))) * a1.2.1)), (W ((W (1 * 2 ^ (min (Int.toNat a4) 64))) * a1.2.2)))) (F87 ((F88 a0.1 a4).1.getD (Int.toNat v3) default) ((W ((W (1 * 2 ^ (min (Int.toNat a4) 64))) * a1.1)), (W ((W (1 * 2 ^ (min (Int.toNat a4) 64))) * a1.2.1)), (W ((W (1 * 2 ^ (min (Int.toNat a4) 64))) * a1.2.2))))).1] rfl
        rw [z0, z1, z2]
        exact ih (v2 ++ [(F89 ((F83 (W ((W ((W (1 * 2 ^ (min (Int.toNat a4) 64))) * a2)) * (W ((W (a3 - a0.2.1)) - 1))))), (F83 (W ((W ((W (1 * 2 ^ (min (Int.toNat a4) 64))) * a2)) * (W (a3 - a0.2.1))))), (W (1 * 2 ^ (min (Int.toNat a4) 64)))) (F84 ((F88 a0.1 a4).1.getD (Int.toNat v3) default) ((W ((W (1 * 2 ^ (min (Int.toNat a4) 64))) * a1.1)), (W ((W (1 * 2 ^ (min (Int.toNat a4) 64))) * a1.2.1)), (W ((W (1 * 2 ^ (min (Int.toNat a4) 64))) * a1.2.2)))) (F87 ((F88 a0.1 a4).1.getD (Int.toNat v3) default) ((W ((W (1 * 2 ^ (min (Int.toNat a4) 64))) * a1.1)), (W ((W (1 * 2 ^ (min (Int.toNat a4) 64))) * a1.2.1)), (W ((W (1 * 2 ^ (min (Int.toNat a4) 64))) * a1.2.2))))).1]) (v3 + 1) (by refine ⟨?_, ?_, ?_⟩ <;> (try simp only [List.length_append, List.length_cons, List.length_nil, Int.toNat_zero]) <;> first | omega | simp) (by (try simp only [List.length_append, List.length_cons, List.length_nil, Int.toNat_zero]); omega)
    | false =>
      cases h1 : (((F90_L v2).2 : Int) != 0) with
      | true =>
        have q0 := of_decide_eq_false h0
        have q1 := bne_iff_ne.1 h1
        have hpl := sp_len a0.1 a4
        have e : S61_0 a0 a1 a2 a3 a4 (v2, v3) = (.inr ((0, 0), (F90_L v2).2)) := by simp only [S61_0, h0, h1, cond_true, cond_false]
        rw [show loopF (S61_0 a0 a1 a2 a3 a4) (n + 1) (v2, v3) = thenF (S61_0 a0 a1 a2 a3 a4) n (S61_0 a0 a1 a2 a3 a4 (v2, v3)) from rfl, e]
        exact ret_of (T := T0) hT hm (f := 5000) (orc := [.d false, .call [5] (.t [(.a (k2 (F90_L v2).1)), (iv (F90_L v2).2)]) [], .d true]) [] [] [] hcx
          (obs := [.eq (decide ((v3 : Int) < (((F88 a0.1 a4).1.length : Nat) : Int))) false, .call 90 [(.s 0 0 v2.length 2)] [(.live false true (flat c32 v2))] (.t [(.a (k2 (F90_L v2).1)), (iv (F90_L v2).2)]) [], .eq (((F90_L v2).2 : Int) != 0) true]) (by kernel_rfl) ⟨h0, (C90_L v2 (by (try simp only [List.length_append, List.length_cons, List.length_nil, Int.toNat_zero]); omega)), h1, trivial⟩
      | false =>
        have q0 := of_decide_eq_false h0
        have q1 := bne_eq_false_iff_eq.1 h1
        have hpl := sp_len a0.1 a4
        have e : S61_0 a0 a1 a2 a3 a4 (v2, v3) = (.inr ((F39 (F90_L v2).1 a0.2.2).1, (F39 (F90_L v2).1 a0.2.2).2)) := by simp only [S61_0, h0, h1, cond_true, cond_false]
        rw [show loopF (S61_0 a0 a1 a2 a3 a4) (n + 1) (v2, v3) = thenF (S61_0 a0 a1 a2 a3 a4) n (S61_0 a0 a1 a2 a3 a4 (v2, v3)) from rfl, e]
        exact ret_of (T := T0) hT hm (f := 5000) (orc := [.d false, .call [5] (.t [(.a (k2 (F90_L v2).1)), (iv (F90_L v2).2)]) [], .d false, .call [] (.t [(.a (k2 (F39 (F90_L v2).1 a0.2.2).1)), (iv (F39 (F90_L v2).1 a0.2.2).2)]) []]) [] [] [] hcx
          (obs := [.eq (decide ((v3 : Int) < (((F88 a0.1 a4).1.length : Nat) : Int))) false, .call 90 [(.s 0 0 v2.length 2)] [(.live false true (flat c32 v2))] (.t [(.a (k2 (F90_L v2).1)), (iv (F90_L v2).2)]) [], .eq (((F90_L v2).2 : Int) != 0) false, .call 39 [(.a (k2 (F90_L v2).1)), (iv a0.2.2)] [] (.t [(.a (k2 (F39 (F90_L v2).1 a0.2.2).1)), (iv (F39 (F90_L v2).1 a0.2.2).2)]) []]) (by kernel_rfl) ⟨h0, (C90_L v2 (by (try simp only [List.length_append, List.length_cons, List.length_nil, Int.toNat_zero]); omega)), h1, (C39 (F90_L v2).1 a0.2.2), trivial⟩

/-- facet/sound.heard -/
def F61 (a0 : ((Int × Int × Int) × (Int × Int × Int) × Int × Int × Int) × Int × Int) (a1 : Int × Int × Int) (a2 : Int) (a3 : Int) (a4 : Int) : (Int × Int) × Int :=
  (bif (decide (((W (a3 - a0.2.1)) : Int) < 1)) then
   ((0, 0), 0)
  else
   (bif (((F88 a0.1 a4).2 : Int) != 0) then
    ((0, 0), (F88 a0.1 a4).2)
   else
    (loopF (S61_0 a0 a1 a2 a3 a4) (Int.toNat ((((F88 a0.1 a4).1.length : Nat) : Int) - 0) + 1) (([] : List (Int × Int)), 0))))

theorem C61 (a0 : ((Int × Int × Int) × (Int × Int × Int) × Int × Int × Int) × Int × Int) (a1 : Int × Int × Int) (a2 : Int) (a3 : Int) (a4 : Int) (hp : POK a0) (hx : bd 256 a1) (hs : 1 ≤ a2 ∧ a2 ≤ 16) (ht : 0 ≤ a3 ∧ a3 ≤ 2000) (hd : 0 ≤ a4 ∧ a4 ≤ 3) : Con Try.prog 61 [(.a [(iv a0.1.1.1), (iv a0.1.1.2.1), (iv a0.1.1.2.2), (iv a0.1.2.1.1), (iv a0.1.2.1.2.1), (iv a0.1.2.1.2.2), (iv a0.1.2.2.1), (iv a0.1.2.2.2.1), (iv a0.1.2.2.2.2), (iv a0.2.1), (iv a0.2.2)]), (.a (k3 a1)), (iv a2), (iv a3), (iv a4)] [] (.t [(.a (k2 (F61 a0 a1 a2 a3 a4).1)), (iv (F61 a0 a1 a2 a3 a4).2)]) [] := by
  cases h0 : (decide (((W (a3 - a0.2.1)) : Int) < 1)) with
  | true =>
    have q0 := of_decide_eq_true h0
    have e : (F61 a0 a1 a2 a3 a4) = ((0, 0), 0) := by simp only [F61, h0, cond_true, cond_false]
    rw [e]
    refine con_of (n := 9) Try.func61 rfl (ent Try.func61 (by kernel_rfl) rfl) (by show 5 ≤ Try.f61.ntmps; decide) (by kernel_rfl) trivial (fun cx hcx => ?_)
    exact ret_of (T := T0) hT hm (f := 5000) (orc := [.d true]) [] [] [] hcx
      (obs := [.eq (decide (((W (a3 - a0.2.1)) : Int) < 1)) true]) (by kernel_rfl) ⟨h0, trivial⟩
  | false =>
    cases h1 : (((F88 a0.1 a4).2 : Int) != 0) with
    | true =>
      have q0 := of_decide_eq_false h0
      have q1 := bne_iff_ne.1 h1
      have e : (F61 a0 a1 a2 a3 a4) = ((0, 0), (F88 a0.1 a4).2) := by simp only [F61, h0, h1, cond_true, cond_false]
      rw [e]
      refine con_of (n := 9) Try.func61 rfl (ent Try.func61 (by kernel_rfl) rfl) (by show 5 ≤ Try.f61.ntmps; decide) (by kernel_rfl) trivial (fun cx hcx => ?_)
      exact ret_of (T := T0) hT hm (f := 5000) (orc := [.d false, .call [] (.t [(.s 0 0 (F88 a0.1 a4).1.length 9), (iv (F88 a0.1 a4).2)]) [(.live true true (flat c26 (F88 a0.1 a4).1))], .d true]) [] [] [] hcx
        (obs := [.eq (decide (((W (a3 - a0.2.1)) : Int) < 1)) false, .call 88 [(.a (k9 a0.1)), (iv a4)] [] (.t [(.s 0 0 (F88 a0.1 a4).1.length 9), (iv (F88 a0.1 a4).2)]) [(.live true true (flat c26 (F88 a0.1 a4).1))], .eq (((F88 a0.1 a4).2 : Int) != 0) true]) (by kernel_rfl) ⟨h0, (C88 a0.1 a4), h1, trivial⟩
    | false =>
      have q0 := of_decide_eq_false h0
      have q1 := bne_eq_false_iff_eq.1 h1
      have e : (F61 a0 a1 a2 a3 a4) = (loopF (S61_0 a0 a1 a2 a3 a4) (Int.toNat ((((F88 a0.1 a4).1.length : Nat) : Int) - 0) + 1) (([] : List (Int × Int)), 0)) := by simp only [F61, h0, h1, cond_true, cond_false]
      rw [e]
      refine con_of (n := 9) Try.func61 rfl (ent Try.func61 (by kernel_rfl) rfl) (by show 5 ≤ Try.f61.ntmps; decide) (by kernel_rfl) trivial (fun cx hcx => ?_)
      refine enter_of (T := T0) hT hm (f := 5000) (orc := [.d false, .call [] (.t [(.s 0 0 (F88 a0.1 a4).1.length 9), (iv (F88 a0.1 a4).2)]) [(.live true true (flat c26 (F88 a0.1 a4).1))], .d false, .call [] (iv (F83 (W ((W ((W (1 * 2 ^ (min (Int.toNat a4) 64))) * a2)) * (W ((W (a3 - a0.2.1)) - 1)))))) [], .call [] (iv (F83 (W ((W ((W (1 * 2 ^ (min (Int.toNat a4) 64))) * a2)) * (W (a3 - a0.2.1)))))) []]) [.slot 18 2] [5, 10, 13, 16, 17, 18, 72, 73] [0, 2, 3, 4, 5, 6] hcx (body := B61_0) (k' := K61_0) (s' := ⟨[.u, .u, .u, .u, .u, (.p 0 0), .u, .u, .u, .u, (.p 1 0), .u, .u, (.s 2 0 (F88 a0.1 a4).1.length 9), .u, .u, (.p 3 0), (.p 4 0), (.s 5 0 0 2), .u, .u, .u, .u, .u, .u, .u, .u, .u, .u, .u, .u, .u, .u, .u, .u, .u, .u, .u, .u, .u, .u, .u, .u, .u, .u, .u, .u, .u, .u, .u, .u, .u, .u, .u, .u, .u, .u, .u, .u, .u, .u, .u, .u, .u, .u, .u, .u, .u, .u, .u, .u, .u, (iv (((F88 a0.1 a4).1.length : Nat) : Int)), (iv 0), .u, .u, .u, .u, .u, .u, .u, .u, .u, .u, .u, .u, .u, .u, .u, .u, .u, .u, .u, .u, .u, .u, .u, .u, .u, .u, .u, .u, .u, .u, .u, .u, .u, .u, .u, .u, .u, .u, .u, .u, .u, .u, .u], [(.live true false [(iv a0.1.1.1), (iv a0.1.1.2.1), (iv a0.1.1.2.2), (iv a0.1.2.1.1), (iv a0.1.2.1.2.1), (iv a0.1.2.1.2.2), (iv a0.1.2.2.1), (iv a0.1.2.2.2.1), (iv a0.1.2.2.2.2), (iv a0.2.1), (iv a0.2.2)]), (.live true false [(iv 0), (iv 0)]), (.live true true (flat c26 (F88 a0.1 a4).1)), (.live true false [(iv (F83 (W ((W ((W (1 * 2 ^ (min (Int.toNat a4) 64))) * a2)) * (W ((W (a3 - a0.2.1)) - 1)))))), (iv (F83 (W ((W ((W (1 * 2 ^ (min (Int.toNat a4) 64))) * a2)) * (W (a3 - a0.2.1)))))), (iv (W (1 * 2 ^ (min (Int.toNat a4) 64))))]), (.live true false [(iv (W ((W (1 * 2 ^ (min (Int.toNat a4) 64))) * a1.1))), (iv (W ((W (1 * 2 ^ (min (Int.toNat a4) 64))) * a1.2.1))), (iv (W ((W (1 * 2 ^ (min (Int.toNat a4) 64))) * a1.2.2)))]), (.live true true (flat c32 ([] : List (Int × Int))))]⟩)
        (obs := [.eq (decide (((W (a3 - a0.2.1)) : Int) < 1)) false, .call 88 [(.a (k9 a0.1)), (iv a4)] [] (.t [(.s 0 0 (F88 a0.1 a4).1.length 9), (iv (F88 a0.1 a4).2)]) [(.live true true (flat c26 (F88 a0.1 a4).1))], .eq (((F88 a0.1 a4).2 : Int) != 0) false, .pr (0 ≤ (a4 : Int)), .call 83 [(iv (W ((W ((W (1 * 2 ^ (min (Int.toNat a4) 64))) * a2)) * (W ((W (a3 - a0.2.1)) - 1)))))] [] (iv (F83 (W ((W ((W (1 * 2 ^ (min (Int.toNat a4) 64))) * a2)) * (W ((W (a3 - a0.2.1)) - 1)))))) [], .call 83 [(iv (W ((W ((W (1 * 2 ^ (min (Int.toNat a4) 64))) * a2)) * (W (a3 - a0.2.1)))))] [] (iv (F83 (W ((W ((W (1 * 2 ^ (min (Int.toNat a4) 64))) * a2)) * (W (a3 - a0.2.1)))))) []]) (by kernel_rfl) ⟨h0, (C88 a0.1 a4), h1, (show 0 ≤ (a4 : Int) from by first | omega | (rw [W_eq] <;> omega) | exact u64_nn _), (C83 (W ((W ((W (1 * 2 ^ (min (Int.toNat a4) 64))) * a2)) * (W ((W (a3 - a0.2.1)) - 1))))), (C83 (W ((W ((W (1 * 2 ^ (min (Int.toNat a4) 64))) * a2)) * (W (a3 - a0.2.1))))), trivial⟩ ⟨Int.toNat ((((F88 a0.1 a4).1.length : Nat) : Int) - 0) + 1, ?_⟩
      exact L61_0 a0 a1 a2 a3 a4 hp hx hs ht hd hcx (Int.toNat ((((F88 a0.1 a4).1.length : Nat) : Int) - 0) + 1) ([] : List (Int × Int)) 0 (by refine ⟨?_, ?_, ?_⟩ <;> (try simp only [List.length_append, List.length_cons, List.length_nil, Int.toNat_zero]) <;> first | omega | simp) (by (try simp only [List.length_append, List.length_cons, List.length_nil, Int.toNat_zero]); omega)

/-- facet/sound.Heard -/
def F23 (a0 : ((Int × Int × Int) × (Int × Int × Int) × Int × Int × Int) × Int × Int) (a1 : Int × Int × Int) (a2 : Int) (a3 : Int) (a4 : Int) : (Int × Int) × Int :=
  (bif (F45 a1) then
   (bif (F46 a2) then
    (bif (F59 a3) then
     (bif (((F53_1 a0 (F60 a4)) : Int) != 0) then
      ((0, 0), (F53_1 a0 (F60 a4)))
     else
      ((F61 a0 a1 a2 a3 a4).1, (F61 a0 a1 a2 a3 a4).2))
    else
     (bif (((F53_1 a0 false) : Int) != 0) then
      ((0, 0), (F53_1 a0 false))
     else
      ((F61 a0 a1 a2 a3 a4).1, (F61 a0 a1 a2 a3 a4).2)))
   else
    (bif (((F53_1 a0 false) : Int) != 0) then
     ((0, 0), (F53_1 a0 false))
    else
     ((F61 a0 a1 a2 a3 a4).1, (F61 a0 a1 a2 a3 a4).2)))
  else
   (bif (((F53_1 a0 false) : Int) != 0) then
    ((0, 0), (F53_1 a0 false))
   else
    ((F61 a0 a1 a2 a3 a4).1, (F61 a0 a1 a2 a3 a4).2)))

noncomputable def oC23_0 (a0 : ((Int × Int × Int) × (Int × Int × Int) × Int × Int × Int) × Int × Int) (a4 : Int) : Ob := .call 53 [(.s 0 0 1 11), (.v (.bool (F60 a4)))] [(.live false false [(iv a0.1.1.1), (iv a0.1.1.2.1), (iv a0.1.1.2.2), (iv a0.1.2.1.1), (iv a0.1.2.1.2.1), (iv a0.1.2.1.2.2), (iv a0.1.2.2.1), (iv a0.1.2.2.2.1), (iv a0.1.2.2.2.2), (iv a0.2.1), (iv a0.2.2)])] (iv (F53_1 a0 (F60 a4))) []
noncomputable def oC23_1 (a0 : ((Int × Int × Int) × (Int × Int × Int) × Int × Int × Int) × Int × Int) (a1 : Int × Int × Int) (a2 : Int) (a3 : Int) (a4 : Int) : Or := .call [] (.t [(.a (k2 (F61 a0 a1 a2 a3 a4).1)), (iv (F61 a0 a1 a2 a3 a4).2)]) []
noncomputable def oC23_2 (a0 : ((Int × Int × Int) × (Int × Int × Int) × Int × Int × Int) × Int × Int) (a1 : Int × Int × Int) (a2 : Int) (a3 : Int) (a4 : Int) : Ob := .call 61 [(.a [(iv a0.1.1.1), (iv a0.1.1.2.1), (iv a0.1.1.2.2), (iv a0.1.2.1.1), (iv a0.1.2.1.2.1), (iv a0.1.2.1.2.2), (iv a0.1.2.2.1), (iv a0.1.2.2.2.1), (iv a0.1.2.2.2.2), (iv a0.2.1), (iv a0.2.2)]), (.a (k3 a1)), (iv a2), (iv a3), (iv a4)] [] (.t [(.a (k2 (F61 a0 a1 a2 a3 a4).1)), (iv (F61 a0 a1 a2 a3 a4).2)]) []
noncomputable def oC23_3 (a0 : ((Int × Int × Int) × (Int × Int × Int) × Int × Int × Int) × Int × Int) : Ob := .call 53 [(.s 0 0 1 11), (.v (.bool false))] [(.live false false [(iv a0.1.1.1), (iv a0.1.1.2.1), (iv a0.1.1.2.2), (iv a0.1.2.1.1), (iv a0.1.2.1.2.1), (iv a0.1.2.1.2.2), (iv a0.1.2.2.1), (iv a0.1.2.2.2.1), (iv a0.1.2.2.2.2), (iv a0.2.1), (iv a0.2.2)])] (iv (F53_1 a0 false)) []
theorem C23 (a0 : ((Int × Int × Int) × (Int × Int × Int) × Int × Int × Int) × Int × Int) (a1 : Int × Int × Int) (a2 : Int) (a3 : Int) (a4 : Int) : Con Try.prog 23 [(.a [(iv a0.1.1.1), (iv a0.1.1.2.1), (iv a0.1.1.2.2), (iv a0.1.2.1.1), (iv a0.1.2.1.2.1), (iv a0.1.2.1.2.2), (iv a0.1.2.2.1), (iv a0.1.2.2.2.1), (iv a0.1.2.2.2.2), (iv a0.2.1), (iv a0.2.2)]), (.a (k3 a1)), (iv a2), (iv a3), (iv a4)] [] (.t [(.a (k2 (F23 a0 a1 a2 a3 a4).1)), (iv (F23 a0 a1 a2 a3 a4).2)]) [] := by
  cases h0 : (F45 a1) with
  | true =>
    cases h1 : (F46 a2) with
    | true =>
      cases h2 : (F59 a3) with
      | true =>
        cases h3 : (((F53_1 a0 (F60 a4)) : Int) != 0) with
        | true =>
          have q3 := bne_iff_ne.1 h3
          have e : (F23 a0 a1 a2 a3 a4) = ((0, 0), (F53_1 a0 (F60 a4))) := by simp only [F23, h0, h1, h2, h3, cond_true, cond_false]
          rw [e]
          refine con_of (n := 9) Try.func23 rfl (ent Try.func23 (by kernel_rfl) rfl) (by show 5 ≤ Try.f23.ntmps; decide) (by kernel_rfl) trivial (fun cx hcx => ?_)
          exact ret_of (T := T0) hT hm (f := 5000) (orc := [.call [] (.v (.bool (F45 a1))) [], .d true, .call [] (.v (.bool (F46 a2))) [], .d true, .call [] (.v (.bool (F59 a3))) [], .d true, .call [] (.v (.bool (F60 a4))) [], .call [3] (iv (F53_1 a0 (F60 a4))) [], .d true]) [] [] [] hcx
            (obs := [.call 45 [(.a (k3 a1))] [] (.v (.bool (F45 a1))) [], .eq (F45 a1) true, .call 46 [(iv a2)] [] (.v (.bool (F46 a2))) [], .eq (F46 a2) true, .call 59 [(iv a3)] [] (.v (.bool (F59 a3))) [], .eq (F59 a3) true, .call 60 [(iv a4)] [] (.v (.bool (F60 a4))) [], (oC23_0 a0 a4), .eq (((F53_1 a0 (F60 a4)) : Int) != 0) true]) (by kernel_rfl) ⟨(C45 a1), h0, (C46 a2), h1, (C59 a3), h2, (C60 a4), (C53_1 a0 (F60 a4)), h3, trivial⟩
        | false =>
          have q3 := bne_eq_false_iff_eq.1 h3
          have e : (F23 a0 a1 a2 a3 a4) = ((F61 a0 a1 a2 a3 a4).1, (F61 a0 a1 a2 a3 a4).2) := by simp only [F23, h0, h1, h2, h3, cond_true, cond_false]
          rw [e]
          refine con_of (n := 9) Try.func23 rfl (ent Try.func23 (by kernel_rfl) rfl) (by show 5 ≤ Try.f23.ntmps; decide) (by kernel_rfl) trivial (fun cx hcx => ?_)
          exact ret_of (T := T0) hT hm (f := 5000) (orc := [.call [] (.v (.bool (F45 a1))) [], .d true, .call [] (.v (.bool (F46 a2))) [], .d true, .call [] (.v (.bool (F59 a3))) [], .d true, .call [] (.v (.bool (F60 a4))) [], .call [3] (iv (F53_1 a0 (F60 a4))) [], .d false, (oC23_1 a0 a1 a2 a3 a4)]) [] [] [] hcx
            (obs := [.call 45 [(.a (k3 a1))] [] (.v (.bool (F45 a1))) [], .eq (F45 a1) true, .call 46 [(iv a2)] [] (.v (.bool (F46 a2))) [], .eq (F46 a2) true, .call 59 [(iv a3)] [] (.v (.bool (F59 a3))) [], .eq (F59 a3) true, .call 60 [(iv a4)] [] (.v (.bool (F60 a4))) [], (oC23_0 a0 a4), .eq (((F53_1 a0 (F60 a4)) : Int) != 0) false, (oC23_2 a0 a1 a2 a3 a4)]) (by kernel_rfl) ⟨(C45 a1), h0, (C46 a2), h1, (C59 a3), h2, (C60 a4), (C53_1 a0 (F60 a4)), h3, (C61 a0 a1 a2 a3 a4  (by first | exact ckb_p h1 | exact ckb_p h2 | exact ckb_p h3) (by first | exact isp_p h0 | exact absurd (ckb_b h1) (by decide) | exact absurd (ckb_b h2) (by decide) | exact absurd (ckb_b h3) (by decide)) (by first | exact iss_p h1 | exact absurd (ckb_b h1) (by decide) | exact absurd (ckb_b h2) (by decide) | exact absurd (ckb_b h3) (by decide)) (by first | exact ist_p h2 | exact absurd (ckb_b h1) (by decide) | exact absurd (ckb_b h2) (by decide) | exact absurd (ckb_b h3) (by decide)) (by first | exact isd_p (ckb_b h3) | exact absurd (ckb_b h1) (by decide) | exact absurd (ckb_b h2) (by decide) | exact absurd (ckb_b h3) (by decide))), trivial⟩
      | false =>
        cases h3 : (((F53_1 a0 false) : Int) != 0) with
        | true =>
          have q3 := bne_iff_ne.1 h3
          have e : (F23 a0 a1 a2 a3 a4) = ((0, 0), (F53_1 a0 false)) := by simp only [F23, h0, h1, h2, h3, cond_true, cond_false]
          rw [e]
          refine con_of (n := 9) Try.func23 rfl (ent Try.func23 (by kernel_rfl) rfl) (by show 5 ≤ Try.f23.ntmps; decide) (by kernel_rfl) trivial (fun cx hcx => ?_)
          exact ret_of (T := T0) hT hm (f := 5000) (orc := [.call [] (.v (.bool (F45 a1))) [], .d true, .call [] (.v (.bool (F46 a2))) [], .d true, .call [] (.v (.bool (F59 a3))) [], .d false, .call [3] (iv (F53_1 a0 false)) [], .d true]) [] [] [] hcx
            (obs := [.call 45 [(.a (k3 a1))] [] (.v (.bool (F45 a1))) [], .eq (F45 a1) true, .call 46 [(iv a2)] [] (.v (.bool (F46 a2))) [], .eq (F46 a2) true, .call 59 [(iv a3)] [] (.v (.bool (F59 a3))) [], .eq (F59 a3) false, (oC23_3 a0), .eq (((F53_1 a0 false) : Int) != 0) true]) (by kernel_rfl) ⟨(C45 a1), h0, (C46 a2), h1, (C59 a3), h2, (C53_1 a0 false), h3, trivial⟩
        | false =>
          have q3 := bne_eq_false_iff_eq.1 h3
          have e : (F23 a0 a1 a2 a3 a4) = ((F61 a0 a1 a2 a3 a4).1, (F61 a0 a1 a2 a3 a4).2) := by simp only [F23, h0, h1, h2, h3, cond_true, cond_false]
          rw [e]
          refine con_of (n := 9) Try.func23 rfl (ent Try.func23 (by kernel_rfl) rfl) (by show 5 ≤ Try.f23.ntmps; decide) (by kernel_rfl) trivial (fun cx hcx => ?_)
          exact ret_of (T := T0) hT hm (f := 5000) (orc := [.call [] (.v (.bool (F45 a1))) [], .d true, .call [] (.v (.bool (F46 a2))) [], .d true, .call [] (.v (.bool (F59 a3))) [], .d false, .call [3] (iv (F53_1 a0 false)) [], .d false, (oC23_1 a0 a1 a2 a3 a4)]) [] [] [] hcx
            (obs := [.call 45 [(.a (k3 a1))] [] (.v (.bool (F45 a1))) [], .eq (F45 a1) true, .call 46 [(iv a2)] [] (.v (.bool (F46 a2))) [], .eq (F46 a2) true, .call 59 [(iv a3)] [] (.v (.bool (F59 a3))) [], .eq (F59 a3) false, (oC23_3 a0), .eq (((F53_1 a0 false) : Int) != 0) false, (oC23_2 a0 a1 a2 a3 a4)]) (by kernel_rfl) ⟨(C45 a1), h0, (C46 a2), h1, (C59 a3), h2, (C53_1 a0 false), h3, (C61 a0 a1 a2 a3 a4  (by first | exact ckb_p h1 | exact ckb_p h2 | exact ckb_p h3) (by first | exact isp_p h0 | exact absurd (ckb_b h1) (by decide) | exact absurd (ckb_b h2) (by decide) | exact absurd (ckb_b h3) (by decide)) (by first | exact iss_p h1 | exact absurd (ckb_b h1) (by decide) | exact absurd (ckb_b h2) (by decide) | exact absurd (ckb_b h3) (by decide)) (by first | exact ist_p h2 | exact absurd (ckb_b h1) (by decide) | exact absurd (ckb_b h2) (by decide) | exact absurd (ckb_b h3) (by decide)) (by first | exact isd_p (ckb_b h3) | exact absurd (ckb_b h1) (by decide) | exact absurd (ckb_b h2) (by decide) | exact absurd (ckb_b h3) (by decide))), trivial⟩
    | false =>
      cases h2 : (((F53_1 a0 false) : Int) != 0) with
      | true =>
        have q2 := bne_iff_ne.1 h2
        have e : (F23 a0 a1 a2 a3 a4) = ((0, 0), (F53_1 a0 false)) := by simp only [F23, h0, h1, h2, cond_true, cond_false]
        rw [e]
        refine con_of (n := 9) Try.func23 rfl (ent Try.func23 (by kernel_rfl) rfl) (by show 5 ≤ Try.f23.ntmps; decide) (by kernel_rfl) trivial (fun cx hcx => ?_)
        exact ret_of (T := T0) hT hm (f := 5000) (orc := [.call [] (.v (.bool (F45 a1))) [], .d true, .call [] (.v (.bool (F46 a2))) [], .d false, .call [3] (iv (F53_1 a0 false)) [], .d true]) [] [] [] hcx
          (obs := [.call 45 [(.a (k3 a1))] [] (.v (.bool (F45 a1))) [], .eq (F45 a1) true, .call 46 [(iv a2)] [] (.v (.bool (F46 a2))) [], .eq (F46 a2) false, (oC23_3 a0), .eq (((F53_1 a0 false) : Int) != 0) true]) (by kernel_rfl) ⟨(C45 a1), h0, (C46 a2), h1, (C53_1 a0 false), h2, trivial⟩
      | false =>
        have q2 := bne_eq_false_iff_eq.1 h2
        have e : (F23 a0 a1 a2 a3 a4) = ((F61 a0 a1 a2 a3 a4).1, (F61 a0 a1 a2 a3 a4).2) := by simp only [F23, h0, h1, h2, cond_true, cond_false]
        rw [e]
        refine con_of (n := 9) Try.func23 rfl (ent Try.func23 (by kernel_rfl) rfl) (by show 5 ≤ Try.f23.ntmps; decide) (by kernel_rfl) trivial (fun cx hcx => ?_)
        exact ret_of (T := T0) hT hm (f := 5000) (orc := [.call [] (.v (.bool (F45 a1))) [], .d true, .call [] (.v (.bool (F46 a2))) [], .d false, .call [3] (iv (F53_1 a0 false)) [], .d false, (oC23_1 a0 a1 a2 a3 a4)]) [] [] [] hcx
          (obs := [.call 45 [(.a (k3 a1))] [] (.v (.bool (F45 a1))) [], .eq (F45 a1) true, .call 46 [(iv a2)] [] (.v (.bool (F46 a2))) [], .eq (F46 a2) false, (oC23_3 a0), .eq (((F53_1 a0 false) : Int) != 0) false, (oC23_2 a0 a1 a2 a3 a4)]) (by kernel_rfl) ⟨(C45 a1), h0, (C46 a2), h1, (C53_1 a0 false), h2, (C61 a0 a1 a2 a3 a4  (by first | exact ckb_p h1 | exact ckb_p h2 | exact ckb_p h3) (by first | exact isp_p h0 | exact absurd (ckb_b h1) (by decide) | exact absurd (ckb_b h2) (by decide) | exact absurd (ckb_b h3) (by decide)) (by first | exact iss_p h1 | exact absurd (ckb_b h1) (by decide) | exact absurd (ckb_b h2) (by decide) | exact absurd (ckb_b h3) (by decide)) (by first | exact ist_p h2 | exact absurd (ckb_b h1) (by decide) | exact absurd (ckb_b h2) (by decide) | exact absurd (ckb_b h3) (by decide)) (by first | exact isd_p (ckb_b h3) | exact absurd (ckb_b h1) (by decide) | exact absurd (ckb_b h2) (by decide) | exact absurd (ckb_b h3) (by decide))), trivial⟩
  | false =>
    cases h1 : (((F53_1 a0 false) : Int) != 0) with
    | true =>
      have q1 := bne_iff_ne.1 h1
      have e : (F23 a0 a1 a2 a3 a4) = ((0, 0), (F53_1 a0 false)) := by simp only [F23, h0, h1, cond_true, cond_false]
      rw [e]
      refine con_of (n := 9) Try.func23 rfl (ent Try.func23 (by kernel_rfl) rfl) (by show 5 ≤ Try.f23.ntmps; decide) (by kernel_rfl) trivial (fun cx hcx => ?_)
      exact ret_of (T := T0) hT hm (f := 5000) (orc := [.call [] (.v (.bool (F45 a1))) [], .d false, .call [3] (iv (F53_1 a0 false)) [], .d true]) [] [] [] hcx
        (obs := [.call 45 [(.a (k3 a1))] [] (.v (.bool (F45 a1))) [], .eq (F45 a1) false, (oC23_3 a0), .eq (((F53_1 a0 false) : Int) != 0) true]) (by kernel_rfl) ⟨(C45 a1), h0, (C53_1 a0 false), h1, trivial⟩
    | false =>
      have q1 := bne_eq_false_iff_eq.1 h1
      have e : (F23 a0 a1 a2 a3 a4) = ((F61 a0 a1 a2 a3 a4).1, (F61 a0 a1 a2 a3 a4).2) := by simp only [F23, h0, h1, cond_true, cond_false]
      rw [e]
      refine con_of (n := 9) Try.func23 rfl (ent Try.func23 (by kernel_rfl) rfl) (by show 5 ≤ Try.f23.ntmps; decide) (by kernel_rfl) trivial (fun cx hcx => ?_)
      exact ret_of (T := T0) hT hm (f := 5000) (orc := [.call [] (.v (.bool (F45 a1))) [], .d false, .call [3] (iv (F53_1 a0 false)) [], .d false, (oC23_1 a0 a1 a2 a3 a4)]) [] [] [] hcx
        (obs := [.call 45 [(.a (k3 a1))] [] (.v (.bool (F45 a1))) [], .eq (F45 a1) false, (oC23_3 a0), .eq (((F53_1 a0 false) : Int) != 0) false, (oC23_2 a0 a1 a2 a3 a4)]) (by kernel_rfl) ⟨(C45 a1), h0, (C53_1 a0 false), h1, (C61 a0 a1 a2 a3 a4  (by first | exact ckb_p h1 | exact ckb_p h2 | exact ckb_p h3) (by first | exact isp_p h0 | exact absurd (ckb_b h1) (by decide) | exact absurd (ckb_b h2) (by decide) | exact absurd (ckb_b h3) (by decide)) (by first | exact iss_p h1 | exact absurd (ckb_b h1) (by decide) | exact absurd (ckb_b h2) (by decide) | exact absurd (ckb_b h3) (by decide)) (by first | exact ist_p h2 | exact absurd (ckb_b h1) (by decide) | exact absurd (ckb_b h2) (by decide) | exact absurd (ckb_b h3) (by decide)) (by first | exact isd_p (ckb_b h3) | exact absurd (ckb_b h1) (by decide) | exact absurd (ckb_b h2) (by decide) | exact absurd (ckb_b h3) (by decide))), trivial⟩

/-- facet/facetlaw08.sane -/
def F18 : Bool :=
  (bif (((F16 (0, 0, 0) (3, 4, 0) 2).2 : Int) == 0) then
   (bif (((F16 (0, 0, 0) (3, 4, 0) 2).1 : Int) == 3) then
    (bif (((F19 (((10, 0, 0), (12, 0, 0), (10, 2, 0)), 7, 3) (0, 0, 0) 2).2 : Int) == 0) then
     (bif (((F19 (((10, 0, 0), (12, 0, 0), (10, 2, 0)), 7, 3) (0, 0, 0) 2).1 : Int) == 12) then
      (bif (((F23 (((10, 0, 0), (12, 0, 0), (10, 2, 0)), 7, 3) (0, 0, 0) 2 7 1).2 : Int) == 0) then
       (bif ((((F23 (((10, 0, 0), (12, 0, 0), (10, 2, 0)), 7, 3) (0, 0, 0) 2 7 1).1.1 : Int) == 0) && ((((F23 (((10, 0, 0), (12, 0, 0), (10, 2, 0)), 7, 3) (0, 0, 0) 2 7 1).1.2 : Int) == 0) && true)) then
        (bif (((F23 (((10, 0, 0), (12, 0, 0), (10, 2, 0)), 7, 3) (0, 0, 0) 2 13 1).2 : Int) == 0) then
         (decide (((F23 (((10, 0, 0), (12, 0, 0), (10, 2, 0)), 7, 3) (0, 0, 0) 2 13 1).1.2 : Int) > 0))
        else
         false)
       else
        false)
      else
       false)
     else
      false)
    else
     false)
   else
    false)
  else
   false)

noncomputable def oC18_0 : Or := .call [] (.t (k2 (F19 (((10, 0, 0), (12, 0, 0), (10, 2, 0)), 7, 3) (0, 0, 0) 2))) []
noncomputable def oC18_1 : Or := .call [] (.t [(.a (k2 (F23 (((10, 0, 0), (12, 0, 0), (10, 2, 0)), 7, 3) (0, 0, 0) 2 7 1).1)), (iv (F23 (((10, 0, 0), (12, 0, 0), (10, 2, 0)), 7, 3) (0, 0, 0) 2 7 1).2)]) []
noncomputable def oC18_2 : Or := .call [] (.t [(.a (k2 (F23 (((10, 0, 0), (12, 0, 0), (10, 2, 0)), 7, 3) (0, 0, 0) 2 13 1).1)), (iv (F23 (((10, 0, 0), (12, 0, 0), (10, 2, 0)), 7, 3) (0, 0, 0) 2 13 1).2)]) []
noncomputable def oC18_3 : Ob := .call 16 [(.a [(iv 0), (iv 0), (iv 0)]), (.a [(iv 3), (iv 4), (iv 0)]), (iv 2)] [] (.t (k2 (F16 (0, 0, 0) (3, 4, 0) 2))) []
noncomputable def oC18_4 : Ob := .call 19 [(.a [(iv 10), (iv 0), (iv 0), (iv 12), (iv 0), (iv 0), (iv 10), (iv 2), (iv 0), (iv 7), (iv 3)]), (.a [(iv 0), (iv 0), (iv 0)]), (iv 2)] [] (.t (k2 (F19 (((10, 0, 0), (12, 0, 0), (10, 2, 0)), 7, 3) (0, 0, 0) 2))) []
noncomputable def oC18_5 : Ob := .call 23 [(.a [(iv 10), (iv 0), (iv 0), (iv 12), (iv 0), (iv 0), (iv 10), (iv 2), (iv 0), (iv 7), (iv 3)]), (.a [(iv 0), (iv 0), (iv 0)]), (iv 2), (iv 7), (iv 1)] [] (.t [(.a (k2 (F23 (((10, 0, 0), (12, 0, 0), (10, 2, 0)), 7, 3) (0, 0, 0) 2 7 1).1)), (iv (F23 (((10, 0, 0), (12, 0, 0), (10, 2, 0)), 7, 3) (0, 0, 0) 2 7 1).2)]) []
noncomputable def oC18_6 : Ob := .call 23 [(.a [(iv 10), (iv 0), (iv 0), (iv 12), (iv 0), (iv 0), (iv 10), (iv 2), (iv 0), (iv 7), (iv 3)]), (.a [(iv 0), (iv 0), (iv 0)]), (iv 2), (iv 13), (iv 1)] [] (.t [(.a (k2 (F23 (((10, 0, 0), (12, 0, 0), (10, 2, 0)), 7, 3) (0, 0, 0) 2 13 1).1)), (iv (F23 (((10, 0, 0), (12, 0, 0), (10, 2, 0)), 7, 3) (0, 0, 0) 2 13 1).2)]) []
noncomputable def oC18_7 : Ob := .eq (((F19 (((10, 0, 0), (12, 0, 0), (10, 2, 0)), 7, 3) (0, 0, 0) 2).2 : Int) == 0) true
noncomputable def oC18_8 : Ob := .eq (((F19 (((10, 0, 0), (12, 0, 0), (10, 2, 0)), 7, 3) (0, 0, 0) 2).1 : Int) == 12) true
noncomputable def oC18_9 : Ob := .eq (((F23 (((10, 0, 0), (12, 0, 0), (10, 2, 0)), 7, 3) (0, 0, 0) 2 7 1).2 : Int) == 0) true
noncomputable def oC18_10 : Ob := .eq ((((F23 (((10, 0, 0), (12, 0, 0), (10, 2, 0)), 7, 3) (0, 0, 0) 2 7 1).1.1 : Int) == 0) && ((((F23 (((10, 0, 0), (12, 0, 0), (10, 2, 0)), 7, 3) (0, 0, 0) 2 7 1).1.2 : Int) == 0) && true)) true
theorem C18 : Con Try.prog 18 [] [] (.v (.bool F18)) [] := by
  cases h0 : (((F16 (0, 0, 0) (3, 4, 0) 2).2 : Int) == 0) with
  | true =>
    cases h1 : (((F16 (0, 0, 0) (3, 4, 0) 2).1 : Int) == 3) with
    | true =>
      cases h2 : (((F19 (((10, 0, 0), (12, 0, 0), (10, 2, 0)), 7, 3) (0, 0, 0) 2).2 : Int) == 0) with
      | true =>
        cases h3 : (((F19 (((10, 0, 0), (12, 0, 0), (10, 2, 0)), 7, 3) (0, 0, 0) 2).1 : Int) == 12) with
        | true =>
          cases h4 : (((F23 (((10, 0, 0), (12, 0, 0), (10, 2, 0)), 7, 3) (0, 0, 0) 2 7 1).2 : Int) == 0) with
          | true =>
            cases h5 : ((((F23 (((10, 0, 0), (12, 0, 0), (10, 2, 0)), 7, 3) (0, 0, 0) 2 7 1).1.1 : Int) == 0) && ((((F23 (((10, 0, 0), (12, 0, 0), (10, 2, 0)), 7, 3) (0, 0, 0) 2 7 1).1.2 : Int) == 0) && true)) with
            | true =>
              cases h6 : (((F23 (((10, 0, 0), (12, 0, 0), (10, 2, 0)), 7, 3) (0, 0, 0) 2 13 1).2 : Int) == 0) with
              | true =>
                have q0 := eq_of_beq h0
                have q1 := eq_of_beq h1
                have q2 := eq_of_beq h2
                have q3 := eq_of_beq h3
                have q4 := eq_of_beq h4
                have q6 := eq_of_beq h6
                have e : F18 = (decide (((F23 (((10, 0, 0), (12, 0, 0), (10, 2, 0)), 7, 3) (0, 0, 0) 2 13 1).1.2 : Int) > 0)) := by simp only [F18, h0, h1, h2, h3, h4, h5, h6, cond_true, cond_false]
                rw [e]
                refine con_of (n := 9) Try.func18 rfl (ent Try.func18 (by kernel_rfl) rfl) (by show 0 ≤ Try.f18.ntmps; decide) (by kernel_rfl) trivial (fun cx hcx => ?_)
                exact ret_of (T := T0) hT hm (f := 5000) (orc := [.call [] (.t (k2 (F16 (0, 0, 0) (3, 4, 0) 2))) [], oC18_0, oC18_1, oC18_2, .d true, .d true, .d true, .d true, .d true, .d true, .d true]) [] [] [] hcx
                  (obs := [oC18_3, oC18_4, oC18_5, oC18_6, .eq (((F16 (0, 0, 0) (3, 4, 0) 2).2 : Int) == 0) true, .eq (((F16 (0, 0, 0) (3, 4, 0) 2).1 : Int) == 3) true, oC18_7, oC18_8, oC18_9, oC18_10, .eq (((F23 (((10, 0, 0), (12, 0, 0), (10, 2, 0)), 7, 3) (0, 0, 0) 2 13 1).2 : Int) == 0) true]) (by kernel_rfl) ⟨(C16 (0, 0, 0) (3, 4, 0) 2), (C19 (((10, 0, 0), (12, 0, 0), (10, 2, 0)), 7, 3) (0, 0, 0) 2), (C23 (((10, 0, 0), (12, 0, 0), (10, 2, 0)), 7, 3) (0, 0, 0) 2 7 1), (C23 (((10, 0, 0), (12, 0, 0), (10, 2, 0)), 7, 3) (0, 0, 0) 2 13 1), h0, h1, h2, h3, h4, h5, h6, trivial⟩
              | false =>
                have q0 := eq_of_beq h0
                have q1 := eq_of_beq h1
                have q2 := eq_of_beq h2
                have q3 := eq_of_beq h3
                have q4 := eq_of_beq h4
                have q6 := ne_of_beq_false h6
                have e : F18 = false := by simp only [F18, h0, h1, h2, h3, h4, h5, h6, cond_true, cond_false]
                rw [e]
                refine con_of (n := 9) Try.func18 rfl (ent Try.func18 (by kernel_rfl) rfl) (by show 0 ≤ Try.f18.ntmps; decide) (by kernel_rfl) trivial (fun cx hcx => ?_)
                exact ret_of (T := T0) hT hm (f := 5000) (orc := [.call [] (.t (k2 (F16 (0, 0, 0) (3, 4, 0) 2))) [], oC18_0, oC18_1, oC18_2, .d true, .d true, .d true, .d true, .d true, .d true, .d false]) [] [] [] hcx
                  (obs := [oC18_3, oC18_4, oC18_5, oC18_6, .eq (((F16 (0, 0, 0) (3, 4, 0) 2).2 : Int) == 0) true, .eq (((F16 (0, 0, 0) (3, 4, 0) 2).1 : Int) == 3) true, oC18_7, oC18_8, oC18_9, oC18_10, .eq (((F23 (((10, 0, 0), (12, 0, 0), (10, 2, 0)), 7, 3) (0, 0, 0) 2 13 1).2 : Int) == 0) false]) (by kernel_rfl) ⟨(C16 (0, 0, 0) (3, 4, 0) 2), (C19 (((10, 0, 0), (12, 0, 0), (10, 2, 0)), 7, 3) (0, 0, 0) 2), (C23 (((10, 0, 0), (12, 0, 0), (10, 2, 0)), 7, 3) (0, 0, 0) 2 7 1), (C23 (((10, 0, 0), (12, 0, 0), (10, 2, 0)), 7, 3) (0, 0, 0) 2 13 1), h0, h1, h2, h3, h4, h5, h6, trivial⟩
            | false =>
              have q0 := eq_of_beq h0
              have q1 := eq_of_beq h1
              have q2 := eq_of_beq h2
              have q3 := eq_of_beq h3
              have q4 := eq_of_beq h4
              have e : F18 = false := by simp only [F18, h0, h1, h2, h3, h4, h5, cond_true, cond_false]
              rw [e]
              refine con_of (n := 9) Try.func18 rfl (ent Try.func18 (by kernel_rfl) rfl) (by show 0 ≤ Try.f18.ntmps; decide) (by kernel_rfl) trivial (fun cx hcx => ?_)
              exact ret_of (T := T0) hT hm (f := 5000) (orc := [.call [] (.t (k2 (F16 (0, 0, 0) (3, 4, 0) 2))) [], oC18_0, oC18_1, oC18_2, .d true, .d true, .d true, .d true, .d true, .d false]) [] [] [] hcx
                (obs := [oC18_3, oC18_4, oC18_5, oC18_6, .eq (((F16 (0, 0, 0) (3, 4, 0) 2).2 : Int) == 0) true, .eq (((F16 (0, 0, 0) (3, 4, 0) 2).1 : Int) == 3) true, oC18_7, oC18_8, oC18_9, .eq ((((F23 (((10, 0, 0), (12, 0, 0), (10, 2, 0)), 7, 3) (0, 0, 0) 2 7 1).1.1 : Int) == 0) && ((((F23 (((10, 0, 0), (12, 0, 0), (10, 2, 0)), 7, 3) (0, 0, 0) 2 7 1).1.2 : Int) == 0) && true)) false]) (by kernel_rfl) ⟨(C16 (0, 0, 0) (3, 4, 0) 2), (C19 (((10, 0, 0), (12, 0, 0), (10, 2, 0)), 7, 3) (0, 0, 0) 2), (C23 (((10, 0, 0), (12, 0, 0), (10, 2, 0)), 7, 3) (0, 0, 0) 2 7 1), (C23 (((10, 0, 0), (12, 0, 0), (10, 2, 0)), 7, 3) (0, 0, 0) 2 13 1), h0, h1, h2, h3, h4, h5, trivial⟩
          | false =>
            have q0 := eq_of_beq h0
            have q1 := eq_of_beq h1
            have q2 := eq_of_beq h2
            have q3 := eq_of_beq h3
            have q4 := ne_of_beq_false h4
            have e : F18 = false := by simp only [F18, h0, h1, h2, h3, h4, cond_true, cond_false]
            rw [e]
            refine con_of (n := 9) Try.func18 rfl (ent Try.func18 (by kernel_rfl) rfl) (by show 0 ≤ Try.f18.ntmps; decide) (by kernel_rfl) trivial (fun cx hcx => ?_)
            exact ret_of (T := T0) hT hm (f := 5000) (orc := [.call [] (.t (k2 (F16 (0, 0, 0) (3, 4, 0) 2))) [], oC18_0, oC18_1, oC18_2, .d true, .d true, .d true, .d true, .d false]) [] [] [] hcx
              (obs := [oC18_3, oC18_4, oC18_5, oC18_6, .eq (((F16 (0, 0, 0) (3, 4, 0) 2).2 : Int) == 0) true, .eq (((F16 (0, 0, 0) (3, 4, 0) 2).1 : Int) == 3) true, oC18_7, oC18_8, .eq (((F23 (((10, 0, 0), (12, 0, 0), (10, 2, 0)), 7, 3) (0, 0, 0) 2 7 1).2 : Int) == 0) false]) (by kernel_rfl) ⟨(C16 (0, 0, 0) (3, 4, 0) 2), (C19 (((10, 0, 0), (12, 0, 0), (10, 2, 0)), 7, 3) (0, 0, 0) 2), (C23 (((10, 0, 0), (12, 0, 0), (10, 2, 0)), 7, 3) (0, 0, 0) 2 7 1), (C23 (((10, 0, 0), (12, 0, 0), (10, 2, 0)), 7, 3) (0, 0, 0) 2 13 1), h0, h1, h2, h3, h4, trivial⟩
        | false =>
          have q0 := eq_of_beq h0
          have q1 := eq_of_beq h1
          have q2 := eq_of_beq h2
          have q3 := ne_of_beq_false h3
          have e : F18 = false := by simp only [F18, h0, h1, h2, h3, cond_true, cond_false]
          rw [e]
          refine con_of (n := 9) Try.func18 rfl (ent Try.func18 (by kernel_rfl) rfl) (by show 0 ≤ Try.f18.ntmps; decide) (by kernel_rfl) trivial (fun cx hcx => ?_)
          exact ret_of (T := T0) hT hm (f := 5000) (orc := [.call [] (.t (k2 (F16 (0, 0, 0) (3, 4, 0) 2))) [], oC18_0, oC18_1, oC18_2, .d true, .d true, .d true, .d false]) [] [] [] hcx
            (obs := [oC18_3, oC18_4, oC18_5, oC18_6, .eq (((F16 (0, 0, 0) (3, 4, 0) 2).2 : Int) == 0) true, .eq (((F16 (0, 0, 0) (3, 4, 0) 2).1 : Int) == 3) true, oC18_7, .eq (((F19 (((10, 0, 0), (12, 0, 0), (10, 2, 0)), 7, 3) (0, 0, 0) 2).1 : Int) == 12) false]) (by kernel_rfl) ⟨(C16 (0, 0, 0) (3, 4, 0) 2), (C19 (((10, 0, 0), (12, 0, 0), (10, 2, 0)), 7, 3) (0, 0, 0) 2), (C23 (((10, 0, 0), (12, 0, 0), (10, 2, 0)), 7, 3) (0, 0, 0) 2 7 1), (C23 (((10, 0, 0), (12, 0, 0), (10, 2, 0)), 7, 3) (0, 0, 0) 2 13 1), h0, h1, h2, h3, trivial⟩
      | false =>
        have q0 := eq_of_beq h0
        have q1 := eq_of_beq h1
        have q2 := ne_of_beq_false h2
        have e : F18 = false := by simp only [F18, h0, h1, h2, cond_true, cond_false]
        rw [e]
        refine con_of (n := 9) Try.func18 rfl (ent Try.func18 (by kernel_rfl) rfl) (by show 0 ≤ Try.f18.ntmps; decide) (by kernel_rfl) trivial (fun cx hcx => ?_)
        exact ret_of (T := T0) hT hm (f := 5000) (orc := [.call [] (.t (k2 (F16 (0, 0, 0) (3, 4, 0) 2))) [], oC18_0, oC18_1, oC18_2, .d true, .d true, .d false]) [] [] [] hcx
          (obs := [oC18_3, oC18_4, oC18_5, oC18_6, .eq (((F16 (0, 0, 0) (3, 4, 0) 2).2 : Int) == 0) true, .eq (((F16 (0, 0, 0) (3, 4, 0) 2).1 : Int) == 3) true, .eq (((F19 (((10, 0, 0), (12, 0, 0), (10, 2, 0)), 7, 3) (0, 0, 0) 2).2 : Int) == 0) false]) (by kernel_rfl) ⟨(C16 (0, 0, 0) (3, 4, 0) 2), (C19 (((10, 0, 0), (12, 0, 0), (10, 2, 0)), 7, 3) (0, 0, 0) 2), (C23 (((10, 0, 0), (12, 0, 0), (10, 2, 0)), 7, 3) (0, 0, 0) 2 7 1), (C23 (((10, 0, 0), (12, 0, 0), (10, 2, 0)), 7, 3) (0, 0, 0) 2 13 1), h0, h1, h2, trivial⟩
    | false =>
      have q0 := eq_of_beq h0
      have q1 := ne_of_beq_false h1
      have e : F18 = false := by simp only [F18, h0, h1, cond_true, cond_false]
      rw [e]
      refine con_of (n := 9) Try.func18 rfl (ent Try.func18 (by kernel_rfl) rfl) (by show 0 ≤ Try.f18.ntmps; decide) (by kernel_rfl) trivial (fun cx hcx => ?_)
      exact ret_of (T := T0) hT hm (f := 5000) (orc := [.call [] (.t (k2 (F16 (0, 0, 0) (3, 4, 0) 2))) [], oC18_0, oC18_1, oC18_2, .d true, .d false]) [] [] [] hcx
        (obs := [oC18_3, oC18_4, oC18_5, oC18_6, .eq (((F16 (0, 0, 0) (3, 4, 0) 2).2 : Int) == 0) true, .eq (((F16 (0, 0, 0) (3, 4, 0) 2).1 : Int) == 3) false]) (by kernel_rfl) ⟨(C16 (0, 0, 0) (3, 4, 0) 2), (C19 (((10, 0, 0), (12, 0, 0), (10, 2, 0)), 7, 3) (0, 0, 0) 2), (C23 (((10, 0, 0), (12, 0, 0), (10, 2, 0)), 7, 3) (0, 0, 0) 2 7 1), (C23 (((10, 0, 0), (12, 0, 0), (10, 2, 0)), 7, 3) (0, 0, 0) 2 13 1), h0, h1, trivial⟩
  | false =>
    have q0 := ne_of_beq_false h0
    have e : F18 = false := by simp only [F18, h0, cond_true, cond_false]
    rw [e]
    refine con_of (n := 9) Try.func18 rfl (ent Try.func18 (by kernel_rfl) rfl) (by show 0 ≤ Try.f18.ntmps; decide) (by kernel_rfl) trivial (fun cx hcx => ?_)
    exact ret_of (T := T0) hT hm (f := 5000) (orc := [.call [] (.t (k2 (F16 (0, 0, 0) (3, 4, 0) 2))) [], oC18_0, oC18_1, oC18_2, .d false]) [] [] [] hcx
      (obs := [oC18_3, oC18_4, oC18_5, oC18_6, .eq (((F16 (0, 0, 0) (3, 4, 0) 2).2 : Int) == 0) false]) (by kernel_rfl) ⟨(C16 (0, 0, 0) (3, 4, 0) 2), (C19 (((10, 0, 0), (12, 0, 0), (10, 2, 0)), 7, 3) (0, 0, 0) 2), (C23 (((10, 0, 0), (12, 0, 0), (10, 2, 0)), 7, 3) (0, 0, 0) 2 7 1), (C23 (((10, 0, 0), (12, 0, 0), (10, 2, 0)), 7, 3) (0, 0, 0) 2 13 1), h0, trivial⟩

end Go.Proofs.Ytopbnnmkdildgaa

namespace Go.Proofs.Ytopbnnmkdildgaa
open Go.Proofs Go.Aw Go.RowKit
set_option maxRecDepth 100000
set_option linter.unusedVariables false
set_option linter.unusedSimpArgs false

theorem sane_t : F18 = true := by kernel_rfl
/-! ### Travels -/
section
variable {n s t : Int}
end
/-! ### From when to when -/
end Go.Proofs.Ytopbnnmkdildgaa

namespace Go.Proofs.Ytopbnnmkdildgaa
open Go.Proofs Go.Aw Go.RowKit
set_option maxRecDepth 100000
set_option linter.unusedVariables false
set_option linter.unusedSimpArgs false

/-! ### What is heard of a pulse -/
theorem inv1_f {s n : Int} (hs : s = 1 ∨ s = 2 ∨ s = 4 ∨ s = 8) (h1 : 1 ≤ n) (hn : n ≤ 1000000000) : F81 n s = (of1 s n, 0) := by
  obtain ⟨e1, e2, _⟩ := lt8 hs
  unfold F81 of1
  have e : W ((W (s * s)) * 2 ^ (min (Int.toNat 40) 64)) = NN s := by rcases hs with rfl | rfl | rfl | rfl <;> kernel_rfl
  rw [decide_eq_false (show ¬ n < 1 by omega), cond_false, decide_eq_false (show ¬ n > 1099511627776 by omega), cond_false, e1, cond_false, e2, cond_false, if_neg (show ¬ n < 1 by omega), e, inv_f (NN_bd hs) (by omega)]
/-- what a part gives whose nearest and farthest squared distances are n and f -/
noncomputable def gv (a b s n f : Int) : (Int × Int) × Int :=
  if f ≤ a ∨ b < n then ((0, 0), 0) else if mx n a = 0 then ((0, 0), 10) else if a < n ∧ f ≤ b then (((of1 s f).1, (of1 s (mx n a)).2), 0) else ((0, (of1 s (mx n a)).2), 0)
theorem mx_eq (n a : Int) : (if n < a then a else n) = mx n a := rfl
theorem gives_f {a b s n f : Int} (hs : s = 1 ∨ s = 2 ∨ s = 4 ∨ s = 8) (ha : 0 ≤ a) (hn : 0 ≤ n) (hnf : n ≤ f) (hf : f ≤ 1000000000) : F89 (a, b, s) n f = gv a b s n f := by
  unfold F89 gv
  simp only [mx_eq]
  by_cases h1 : f ≤ a
  · simp [h1]
  · by_cases h2 : b < n
    · simp [h1, h2]
    · have hm := le_mx1 n a
      have hm2 : mx n a ≤ 1000000000 := mx_le (by omega) (by omega)
      rw [decide_eq_false h1, cond_false, decide_eq_false h2, cond_false, if_neg (by omega)]
      by_cases h3 : mx n a = 0
      · rw [h3]; cases decide (n > a) <;> rfl
      · rw [if_neg h3, inv1_f hs (by omega) hm2, inv1_f hs (by omega) hf, beq_eq_false_iff_ne.2 h3, cond_false, cond_false]
        by_cases h4 : a < n
        · by_cases h5 : f ≤ b
          · rw [if_pos ⟨h4, h5⟩]; simp [h4, h5]
          · rw [if_neg (by omega)]; simp [h4, h5]
        · rw [if_neg (by omega)]; simp [h4]
theorem gv_ok {a b s n f : Int} (hs : s = 1 ∨ s = 2 ∨ s = 4 ∨ s = 8) (hn : 0 ≤ n) (hnf : n ≤ f) : okE (gv a b s n f).1 := by
  have ho := of1_ok hs
  have hm := le_mx1 n a
  unfold gv okE
  split
  · simp
  · split
    · simp
    · rename_i h1 h2
      have hmf : mx n a ≤ f := mx_le hnf (by omega)
      have q1 := ho.lo f; have q2 := ho.mono (mx n a) f (by omega) hmf; have q3 := ho.le (mx n a); have q4 := ho.hi (mx n a); have q5 := ho.lo (mx n a)
      split <;> simp only <;> omega
/-! a list that is filled, or left at the first error -/
def shs {α β : Type} (g : α → β × Int) : List α → List β → List β ⊕ Int
  | [], l => .inl l
  | c :: m, l => if (g c).2 = 0 then shs g m (l ++ [(g c).1]) else .inr (g c).2
def out8 {β R : Type} (G : List β → R) (E : Int → R) : List β ⊕ Int → R
  | .inl m => G m
  | .inr e => E e
theorem shs_loopF {α β R : Type} [Inhabited R] {g : α → β × Int} {S : List β × Int → (List β × Int) ⊕ R} {G : List β → R} {E : Int → R} {L : List α}
    (hS : ∀ (i : Nat) (c : α), L[i]? = some c → ∀ l : List β, S (l, (i : Int)) = bif ((g c).2 != 0) then .inr (E (g c).2) else .inl (l ++ [(g c).1], ((i + 1 : Nat) : Int)))
    (hE : ∀ l : List β, S (l, (L.length : Int)) = .inr (G l)) :
    ∀ (k : List α) (i n : Nat) (l : List β), L.drop i = k → i ≤ L.length → k.length < n → loopF S n (l, (i : Int)) = out8 G E (shs g k l)
  | [], i, n, l, hd, hi', hn => by
    have : i = L.length := by have := List.drop_eq_nil_iff.1 hd; omega
    obtain ⟨n, rfl⟩ : ∃ m, n = m + 1 := ⟨n - 1, by simp only [List.length_nil] at hn; omega⟩
    subst this
    rw [loopF_inr (hE _)]; rfl
  | c :: k, i, n, l, hd, hi', hn => by
    have hc : L[i]? = some c := by
      have : (L.drop i)[0]? = some c := by rw [hd]; rfl
      simpa using this
    obtain ⟨hlt, hce⟩ := List.getElem?_eq_some_iff.1 hc
    obtain ⟨n, rfl⟩ : ∃ m, n = m + 1 := ⟨n - 1, by omega⟩
    have h1 := hS i c hc l
    unfold shs
    by_cases h : (g c).2 = 0
    · rw [h] at h1
      rw [loopF_inl h1, if_pos h]
      exact shs_loopF hS hE k (i + 1) n _ (by rw [← List.drop_drop, hd]; rfl) (by omega) (by simp only [List.length_cons] at hn; omega)
    · rw [bne_iff_ne.2 h, cond_true] at h1
      rw [loopF_inr h1, if_neg h]; rfl
theorem shs_inl {α β : Type} {g : α → β × Int} : ∀ {k : List α} {l m : List β}, shs g k l = .inl m → m = l ++ k.map (fun c => (g c).1) ∧ ∀ c ∈ k, (g c).2 = 0
  | [], l, m, h => by simp only [shs] at h; cases h; simp
  | c :: k, l, m, h => by
    unfold shs at h
    split at h
    · rename_i h0
      obtain ⟨h1, h2⟩ := shs_inl h
      refine ⟨by rw [h1]; simp, fun x hx => ?_⟩
      rcases List.mem_cons.1 hx with rfl | hx
      · exact h0
      · exact h2 x hx
    · cases h
theorem out8_ok {α β R : Type} {g : α → β × Int} {k : List α} {G G' : List β → R} {E : Int → R} (h : (∀ c ∈ k, (g c).2 = 0) → G (k.map (fun c => (g c).1)) = G' (k.map (fun c => (g c).1))) : out8 G E (shs g k []) = out8 G' E (shs g k []) := by
  cases e : shs g k [] with
  | inr r => rfl
  | inl m =>
    obtain ⟨h1, h2⟩ := shs_inl e
    subst h1
    exact h h2
/-! a pulse in a tick -/
def shA (s d q : Int) : Int := sc d * s * q * (sc d * s * q)
noncomputable def shG (p : PU) (x : P3) (s t d : Int) (c : PN) : (Int × Int) × Int := gv (shA s d (t - p.2.1 - 1)) (shA s d (t - p.2.1)) (sc d) (ne c (tm (sc d) x)) (fa c (tm (sc d) x))
noncomputable def hrE (l : List (Int × Int)) (d w : Int) : (Int × Int) × Int := F78 (scl (avg (sums l (0, 0)) (sc d * sc d)) w).1 (scl (avg (sums l (0, 0)) (sc d * sc d)) w).2
noncomputable def hrS (p : PU) (x : P3) (s t d : Int) : (Int × Int) × Int :=
  if t - p.2.1 < 1 then ((0, 0), 0) else out8 (fun l => hrE l d p.2.2) (fun e => ((0, 0), e)) (shs (shG p x s t d) (cutL d.toNat p.1) [])
theorem shA_bd {s d q : Int} (hs : 1 ≤ s ∧ s ≤ 16) (hq : 0 ≤ q ∧ q ≤ 2000) : 0 ≤ sc d * s ∧ sc d * s ≤ 128 ∧ 0 ≤ sc d * s * q ∧ sc d * s * q ≤ 256000 ∧ 0 ≤ shA s d q ∧ shA s d q ≤ 65536000000 := by
  have h0 := sc_bd d
  have h1 : 0 ≤ sc d * s := Int.mul_nonneg (by omega) (by omega)
  have h2 : sc d * s ≤ 8 * 16 := Int.mul_le_mul (by omega) (by omega) (by omega) (by omega)
  have h3 : 0 ≤ sc d * s * q := Int.mul_nonneg (by omega) (by omega)
  have h4 : sc d * s * q ≤ 128 * 2000 := Int.mul_le_mul (by omega) (by omega) (by omega) (by omega)
  have h5 : shA s d q ≤ 256000 * 256000 := Int.mul_le_mul (by omega) (by omega) (by omega) (by omega)
  have h6 : 0 ≤ shA s d q := Int.mul_nonneg h3 h3
  exact ⟨h1, by omega, h3, by omega, h6, by omega⟩
theorem shW {s d q : Int} (hs : 1 ≤ s ∧ s ≤ 16) (hq : 0 ≤ q ∧ q ≤ 2000) : W ((W (sc d * s)) * q) = sc d * s * q := by
  have h := shA_bd (d := d) hs hq
  rw [W_eq (n := sc d * s) (by omega) (by omega), W_eq (by omega) (by omega)]
theorem hr_end_f {l : List (Int × Int)} {d w : Int} (hd : 0 ≤ d ∧ d ≤ 3) (hl : ∀ a ∈ l, okE a) (hk : ((l.length : Nat) : Int) = sc d * sc d) (hw : -100 ≤ w ∧ w ≤ 100) :
    (bif (((F90_L l).2 : Int) != 0) then ((0, 0), (F90_L l).2) else ((F39 (F90_L l).1 w).1, (F39 (F90_L l).1 w).2)) = hrE l d w := by
  have hc := cnt_in d
  have h64 : l.length ≤ 64 := by omega
  rw [meanL_f hl hc hk]
  rw [Scale_f (avg_vs hc (sums_ok hl (okv_len h64))) (by omega)]; rfl
theorem shG_ok (p : PU) (x : P3) (s t d : Int) (c : PN) : okE (shG p x s t d c).1 := gv_ok (sc_in d) (ne_le _ _).1 (ne_le _ _).2
theorem sp_eq {p : PN} {d : Int} (hp : vp p = 0) (hd : 0 ≤ d ∧ d ≤ 3) : F88 p d = (cutL d.toNat p, 0) := by rw [parts_f, if_pos hp, if_pos hd]
theorem heard_f {p : PU} {x : P3} {s t d : Int} (hp : POK p) (hx : bd 256 x) (hs : 1 ≤ s ∧ s ≤ 16) (ht : 0 ≤ t ∧ t ≤ 2000) (hd : 0 ≤ d ∧ d ≤ 3) : F61 p x s t d = hrS p x s t d := by
  have hb := pok_bd hp
  have hsc := sc_bd d
  have hx' : bd 5000 (tm (sc d) x) := (bd_tm hsc (by omega) hx).mono (by omega)
  have hpt := hp.2.1
  unfold F61 hrS
  rw [W_eq (n := t - p.2.1) (by omega) (by omega)]
  by_cases h0 : t - p.2.1 < 1
  · rw [decide_eq_true h0, if_pos h0]; rfl
  have hA := shA_bd (d := d) (q := t - p.2.1 - 1) hs (by omega)
  have hB := shA_bd (d := d) (q := t - p.2.1) hs (by omega)
  rw [decide_eq_false h0, if_neg h0, cond_false, sp_eq hp.1 hd]
  show loopF (S61_0 p x s t d) _ (([] : List (Int × Int)), ((0 : Nat) : Int)) = _
  have key := shs_loopF (g := shG p x s t d) (S := S61_0 p x s t d) (E := fun e => ((0, 0), e)) (L := cutL d.toNat p.1)
    (G := fun l => (bif (((F90_L l).2 : Int) != 0) then ((0, 0), (F90_L l).2) else ((F39 (F90_L l).1 p.2.2).1, (F39 (F90_L l).1 p.2.2).2)))
    (fun i c hi l => ?_) (fun l => ?_) (cutL d.toNat p.1) 0 (Int.toNat ((((cutL d.toNat p.1).length : Nat) : Int) - 0) + 1) [] rfl (Nat.zero_le _) (by omega)
  · rw [key]
    refine out8_ok (fun _ => hr_end_f hd ?_ ?_ hp.2.2)
    · intro a ha
      obtain ⟨c, _, rfl⟩ := List.mem_map.1 ha
      exact shG_ok _ _ _ _ _ _
    · rw [List.length_map]; exact cnt_len hd p.1
  · obtain ⟨hlt, hce⟩ := List.getElem?_eq_some_iff.1 hi
    have hg : (cutL d.toNat p.1).getD i default = c := by rw [List.getD_eq_getElem?_getD, hi]; rfl
    have hc : bdP 5000 c := (cutL_in hb hd (hce ▸ List.getElem_mem hlt)).mono (by omega)
    have e : F89 ((F83 (W ((W (sc d * s)) * (W (t - p.2.1 - 1))))), (F83 (W ((W (sc d * s)) * (t - p.2.1)))), sc d) (F84 c (tm (sc d) x)) (F87 c (tm (sc d) x)) = shG p x s t d c := by
      rw [W_eq (n := t - p.2.1 - 1) (by omega) (by omega), shW hs (by omega), shW hs (by omega), square_f (by omega), square_f (by omega), sne_f hc hx', sfa_f hc hx']
      exact gives_f (sc_in d) hA.2.2.2.2.1 (ne_le _ _).1 (ne_le _ _).2 (by have := (fa_bd hc hx').2; omega)
    simp only [S61_0]
    rw [sp_eq hp.1 hd, decide_eq_true (show ((i : Nat) : Int) < ((cutL d.toNat p.1).length : Nat) by omega), cond_true, Int.toNat_natCast, hg, sc_f hd, tm_W hsc (hx.mono (by omega)), W_eq (n := t - p.2.1) (by omega) (by omega), e]; rfl
  · simp only [S61_0]
    rw [sp_eq hp.1 hd, decide_eq_false (Int.lt_irrefl _), cond_false]
    cases (((F90_L l).2 : Int) != 0) <;> rfl
open Classical in
theorem isT_f (n : Int) : F59 n = decide (0 ≤ n ∧ n ≤ 2000) := by unfold F59; exact sfrom_eq _ _ _
theorem isD_f (n : Int) : F60 n = decide (0 ≤ n ∧ n ≤ 3) := by unfold F60; exact sfrom_eq _ _ _
end Go.Proofs.Ytopbnnmkdildgaa

namespace Go.Proofs.Ytopbnnmkdildgaa
open Go.Proofs Go.Aw Go.RowKit
set_option maxRecDepth 100000
set_option linter.unusedVariables false
set_option linter.unusedSimpArgs false

/-! ### Slices of flat elements as arguments -/
open Go.ChangeShapes Go.WideShapes Go.ChangeAt
section
variable {H : Type} {enc : TypeId × Value → H} {P : Program} {w : World}
/-- what a slice of elements of es numbers holds -/
def SliceOf (w : World) (es : Nat) (v : Value) (nss : List (List Int)) : Prop :=
  (∀ ns ∈ nss, ns.length = es) ∧ nss.length ≤ 9223372036854775807 ∧
  ((v = .slice none 0 0 ∧ nss = []) ∨ ∃ b o cap, v = .slice (some ⟨b, o, none⟩) nss.length cap ∧ nss.length ≤ cap ∧ ∀ (i : Nat) (x : Value), ((nss.flatten).map (Value.int .i64))[i]? = some x → w.cell? ⟨b, o + i, none⟩ = some x)
theorem flat_cells {es b : Nat} : ∀ (nss : List (List Int)) (o : Nat), (∀ (j : Nat) (ns : List Int), nss[j]? = some ns → ns.length = es ∧ ∀ (q : Nat) (x : Value), (ns.map (Value.int .i64))[q]? = some x → w.cell? ⟨b, o + j * es + q, none⟩ = some x) →
    ∀ (i : Nat) (x : Value), ((nss.flatten).map (Value.int .i64))[i]? = some x → w.cell? ⟨b, o + i, none⟩ = some x
  | [], o, _, i, x, hi => by simp at hi
  | ns :: l, o, h, i, x, hi => by
    obtain ⟨h1, h2⟩ := h 0 ns rfl
    rw [List.flatten_cons, List.map_append] at hi
    by_cases hlt : i < ns.length
    · rw [List.getElem?_append_left (by simpa using hlt)] at hi
      have := h2 i x hi
      simpa using this
    · rw [List.getElem?_append_right (by simpa using hlt)] at hi
      have := flat_cells l (o + es) (fun j ms hj => ⟨(h (j + 1) ms hj).1, fun q y hq => by
        have := (h (j + 1) ms hj).2 q y hq
        rw [show o + es + j * es + q = o + (j + 1) * es + q by rw [Nat.add_mul]; omega]; exact this⟩) (i - es) x (by simpa [h1] using hi)
      rw [show o + es + (i - es) = o + i by omega] at this; exact this
theorem open_list {r : Reach} {b0 : Nat} {t e : TypeId} {es : Nat} {v : Value} {d : DataW H} {ps : List MemPlace} (ht : P.underlying t = some (.slice e)) (hf : flatB P 6 e = true) (hes : P.cellsOf e = es)
    (hval : Value.okWide P w r b0 t v) (hd : DataW.Trod enc P w 0 (fun _ => true) true t v d ps) : (∃ nss, SliceOf w es v nss) ∧ ∀ x ∈ ps, x.block < w.heap.size := by
  obtain ⟨fuel, hx⟩ := hd
  refine ⟨?_, DataW.trod_lt fuel t _ _ hx⟩
  obtain ⟨a, len, cap, rfl⟩ := okWide_slice ht hval
  rcases Go.Deep.open_slice ht hx with ⟨hc, _⟩ | ⟨a', len', cap', m, n, D, Pl, hc, hb, hl, hm, hmm, _, hall⟩
  · simp only [Value.cells, List.cons.injEq, and_true] at hc
    exact ⟨[], fun ns h => by simp at h, by simp, .inl ⟨hc, rfl⟩⟩
  · simp only [Value.cells, List.cons.injEq, and_true, Value.slice.injEq] at hc
    obtain ⟨rfl, rfl, rfl⟩ := hc
    simp only [Value.okWide, ht, Cell.okWide, Cell.ok, World.has] at hval
    have hsp : a'.spot = none := hval.2.2.2.1
    obtain ⟨b, o, sp⟩ := a'
    simp only at hsp
    subst hsp
    simp only [if_true] at hmm
    obtain ⟨N, hN⟩ := Go.Deep.choose_lt (α := List Int) (p := fun i ns => ns.length = es ∧ ∀ (q : Nat) (x : Value), (ns.map (Value.int .i64))[q]? = some x → w.cell? ⟨b, o + i * es + q, none⟩ = some x) (n := len) (fun i hi => by
      obtain ⟨cs', h1, h2⟩ := hall i (by omega)
      obtain ⟨_, ns, rfl⟩ := flat_trod 6 e n cs' _ hf h2
      obtain ⟨_, hlen, hcell⟩ := World.cells?_some h1
      rw [hes] at hlen hcell
      refine ⟨ns, by simpa using hlen, fun q x hq => ?_⟩
      have hq' := (List.getElem?_eq_some_iff.1 hq).1
      have := hcell q (by omega)
      rw [Go.Aw.add_eq, Go.Aw.add_eq] at this
      rw [this, hq])
    refine ⟨(List.range len).map N, fun ns h => ?_, ?_, .inr ⟨b, o, cap, ?_, ?_, ?_⟩⟩
    · obtain ⟨i, hi, rfl⟩ := List.mem_map.1 h
      exact (hN i (by simpa using hi)).1
    · have : maxLen = 9223372036854775807 := rfl
      simp; omega
    · simp
    · simpa using hl
    · refine flat_cells (es := es) _ o (fun j ns hj => ?_)
      have hjl := (List.getElem?_eq_some_iff.1 hj).1
      simp only [List.length_map, List.length_range] at hjl
      have : N j = ns := by simpa [hjl] using hj
      subst this
      exact hN j hjl
/-- where a slice lies -/
def rho (es : Nat) : Value → Option (Nat × Nat × Nat)
  | .slice (some a) _ cap => some (a.block, a.off, cap * es)
  | _ => none
theorem slice_rel {es : Nat} {v : Value} {nss : List (List Int)} {ρ : Env} {k : Nat} (h : SliceOf w es v nss) (hk : ρ k = rho es v) : Rel ρ (.s k 0 nss.length es) v := by
  obtain ⟨h1, h2, ⟨rfl, rfl⟩ | ⟨b, o, cap, rfl, h3, h4⟩⟩ := h
  · simp only [Rel]; exact .inl ⟨hk, rfl, trivial⟩
  · simp only [Rel]; exact .inr ⟨b, o, cap * es, cap, 0, hk, rfl, h3, by omega, fun _ => rfl⟩
theorem flatten_len {es : Nat} : ∀ {nss : List (List Int)}, (∀ ns ∈ nss, ns.length = es) → nss.flatten.length = nss.length * es
  | [], _ => by simp
  | ns :: l, h => by
    rw [List.flatten_cons, List.length_append, flatten_len (fun m hm => h m (List.mem_cons_of_mem _ hm)), h ns List.mem_cons_self, List.length_cons, Nat.add_mul]; omega
theorem slice_brep {es : Nat} {v : Value} {nss : List (List Int)} {ρ : Env} {k : Nat} {M : Nat → Prop} (h : SliceOf w es v nss) (hk : ρ k = rho es v) (hM : ∀ b, M b → w.heap.size ≤ b) : BRep ρ M w k (.live false true ((nss.flatten).map iv)) := by
  obtain ⟨h1, h2, ⟨rfl, rfl⟩ | ⟨b, o, cap, rfl, h3, h4⟩⟩ := h
  · exact .inl ⟨hk, rfl⟩
  · have hlen := flatten_len h1
    refine .inr ⟨b, o, cap * es, (nss.flatten).map (Value.int .i64), hk, ⟨?_, fun hne hm => ?_⟩, rels_iv _, h4⟩
    · rw [List.length_map, hlen]; exact Nat.mul_le_mul_right _ h3
    · have hb := hM b hm
      obtain ⟨x, hx⟩ := List.exists_mem_of_ne_nil _ hne
      obtain ⟨i, hi⟩ := List.getElem?_of_mem hx
      have := World.block_lt_of_cell? w ⟨b, o + i, none⟩ (h4 i x hi)
      exact absurd this (Nat.not_lt_of_le hb)
theorem flat_mk {α : Type} {c : α → List SV} {f : List Int → α} {es : Nat} (hc : ∀ ns : List Int, ns.length = es → c (f ns) = ns.map iv) : ∀ {nss : List (List Int)}, (∀ ns ∈ nss, ns.length = es) → flat c (nss.map f) = (nss.flatten).map iv
  | [], _ => rfl
  | ns :: l, h => by
    have := flat_mk hc (nss := l) (fun m hm => h m (List.mem_cons_of_mem _ hm))
    unfold flat at *
    rw [List.map_cons, List.flatMap_cons, this, hc ns (h ns List.mem_cons_self), List.flatten_cons, List.map_append]
end
theorem plain_ivs : ∀ ns : List Int, Plain (ns.map iv)
  | [] => fun k hk => by simp [SV.hasl] at hk
  | n :: l => fun k hk => by
    simp only [List.map_cons, SV.hasl] at hk
    rcases hk with hk | hk
    · simp [iv, SV.has] at hk
    · exact plain_ivs l k hk
/-- A contract to which lists are handed over that it only reads, called. -/
theorem law_callsL {P : Program} {f : Nat} {args : List SV} {vs : List Value} {x : Value} {bs : List BK} (hc : Con P f args bs (.v x) []) (ρ : Env) {W : World} (hr : Rels ρ args vs) (hown : ∀ i, ¬ (bs.getD i .un).own)
    (hb : (∀ b, (callCx ρ W bs).mine b → W.heap.size ≤ b) → ∀ i, BRep ρ (callCx ρ W bs).mine W i (bs.getD i .un)) (hpl : ∀ i, (bs.getD i .un).pl) :
    Calls P f vs.toArray W fun e W' => e = .returned x ∧ Below W.heap.size W W' := by
  have hM : ∀ b, (callCx ρ W bs).mine b → W.heap.size ≤ b := by
    rintro b (h | ⟨i, n, hi, _⟩)
    · exact h
    · exact absurd hi (hown i)
  refine (hc.2 ρ W vs hr (hb hM) hpl (fun i j b n b' n' _ h => absurd h (hown i))).mono fun e W' h => ?_
  obtain ⟨ρ', v, rfl, _, hv, hk, _⟩ := h
  refine ⟨by rw [show v = x from hv], hk.os, hk.tape, hk.output, hk.size, fun k hk' => hk.block k hk' ?_⟩
  rintro ⟨i, n, hi, _⟩
  exact hown i hi
def rho1 (e : Nat) (v : Value) : Env := fun k => if k = 0 then rho e v else none
theorem law_calls1 {P : Program} {f es0 : Nat} {args : List SV} {vs : List Value} {x v0 : Value} {nss0 : List (List Int)} {W : World} (hc : Con P f args [.live false true ((nss0.flatten).map iv)] (.v x) [])
    (s0 : SliceOf W es0 v0 nss0) (hr : Rels (rho1 es0 v0) args vs) : Calls P f vs.toArray W fun e W' => e = .returned x ∧ Below W.heap.size W W' := by
  refine law_callsL hc _ hr (fun i => ?_) (fun hM i => ?_) (fun i => ?_)
  · rcases i with _ | i <;> simp [BK.own]
  · rcases i with _ | i
    · exact slice_brep s0 rfl hM
    · simp [BRep]
  · rcases i with _ | i
    · exact plain_ivs _
    · simp [BK.pl]
end Go.Proofs.Ytopbnnmkdildgaa

namespace Go.Proofs.Ytopbnnmkdildgaa
open Go.Proofs Go.Aw Go.RowKit
set_option maxRecDepth 100000
set_option linter.unusedVariables false
set_option linter.unusedSimpArgs false

/-! ### Sums of lists of spans -/
theorem flat_one {α : Type} {c : α → List SV} (hc : ∀ x, (c x).all SV.one = true) {l : List α} : (flat c l).all SV.one = true := by
  rw [List.all_eq_true]
  intro x hx
  obtain ⟨a, _, ha⟩ := List.mem_flatMap.1 hx
  exact List.all_eq_true.1 (hc a) x ha
theorem flat_lenc {α : Type} {c : α → List SV} {es : Nat} (hc : ∀ x, (c x).length = es) (l : List α) : (flat c l).length = l.length * es := flat_length hc l
def okw (v : Int × Int) (n : Nat) : Prop := (-4611686018427387904 + 1099511627776 * n ≤ v.1 ∧ v.1 + 1099511627776 * n ≤ 4611686018427387904) ∧ (-4611686018427387904 + 1099511627776 * n ≤ v.2 ∧ v.2 + 1099511627776 * n ≤ 4611686018427387904)
theorem okw_next {v a : Int × Int} {n : Nat} (h : okw v (n + 1)) (ha : vs a) : okw (v.1 + a.1, v.2 + a.2) n := by unfold okw vs at *; simp only; omega
theorem okw_W {v : Int × Int} {n : Nat} (h : okw v n) : W v.1 = v.1 ∧ W v.2 = v.2 := by unfold okw at h; exact ⟨W_eq (by omega) (by omega), W_eq (by omega) (by omega)⟩
theorem okw_0 {n : Nat} (h : n ≤ 10000) : okw (0, 0) n := by unfold okw; simp only; omega
theorem sumw_loopF {R : Type} [Inhabited R] {S : Int × Int × Int → (Int × Int × Int) ⊕ R} {G : Int × Int → R} {L : List (Int × Int)} (hl : ∀ a ∈ L, vs a)
    (hS : ∀ (i : Nat) (a : Int × Int), L[i]? = some a → ∀ v1 v2 : Int, S (v1, v2, (i : Int)) = .inl (W (v1 + a.1), W (v2 + a.2), ((i + 1 : Nat) : Int)))
    (hE : ∀ v1 v2 : Int, S (v1, v2, (L.length : Int)) = .inr (G (v1, v2))) :
    ∀ (l : List (Int × Int)) (i n : Nat) (v : Int × Int), L.drop i = l → i ≤ L.length → l.length < n → okw v l.length → loopF S n (v.1, v.2, (i : Int)) = G (sums l v) := by
  intro l
  induction l with
  | nil =>
    intro i n v hd hi' hn h
    have : i = L.length := by have := List.drop_eq_nil_iff.1 hd; omega
    obtain ⟨n, rfl⟩ : ∃ m, n = m + 1 := ⟨n - 1, by simp only [List.length_nil] at hn; omega⟩
    subst this
    rw [loopF_inr (hE _ _)]; rfl
  | cons c l ih =>
    intro i n v hd hi' hn h
    have hc : L[i]? = some c := by
      have : (L.drop i)[0]? = some c := by rw [hd]; rfl
      simpa using this
    obtain ⟨hlt, hce⟩ := List.getElem?_eq_some_iff.1 hc
    obtain ⟨n, rfl⟩ : ∃ m, n = m + 1 := ⟨n - 1, by omega⟩
    have h1 : okw (v.1 + c.1, v.2 + c.2) l.length := okw_next h (hl c (hce ▸ List.getElem_mem hlt))
    have hw := okw_W h1
    simp only at hw
    rw [loopF_inl (hS i c hc v.1 v.2), hw.1, hw.2]
    exact ih (i + 1) n (v.1 + c.1, v.2 + c.2) (by rw [← List.drop_drop, hd]; rfl) (by omega) (by simp only [List.length_cons] at hn; omega) h1
section
variable {l : List (Int × Int)}
theorem vs_val {a : Int × Int} (h : vs a) : F102 a = true := val_f (a := a.1) (b := a.2) h.1 h.2.1 h.2.2
theorem chkW (hl : ∀ a ∈ l, vs a) : F75_L l = 0 := by
  have key : ∀ (m : List (Int × Int)) (i n : Nat), l.drop i = m → i ≤ l.length → m.length < n → loopF (S75_L_0 l) n (i : Int) = 0 := by
    intro m
    induction m with
    | nil =>
      intro i n hd hi hn
      have : i = l.length := by have := List.drop_eq_nil_iff.1 hd; omega
      obtain ⟨n, rfl⟩ : ∃ m, n = m + 1 := ⟨n - 1, by simp only [List.length_nil] at hn; omega⟩
      subst this
      refine loopF_inr ?_
      simp only [S75_L_0]
      rw [decide_eq_false (Int.lt_irrefl _), cond_false]
    | cons c m ih =>
      intro i n hd hi hn
      have hc : l[i]? = some c := by
        have : (l.drop i)[0]? = some c := by rw [hd]; rfl
        simpa using this
      obtain ⟨hlt, hce⟩ := List.getElem?_eq_some_iff.1 hc
      obtain ⟨n, rfl⟩ : ∃ m, n = m + 1 := ⟨n - 1, by omega⟩
      have hg : l.getD i default = c := by rw [List.getD_eq_getElem?_getD, hc]; rfl
      have e : S75_L_0 l (i : Int) = .inl ((i + 1 : Nat) : Int) := by
        simp only [S75_L_0]
        rw [decide_eq_true (show ((i : Nat) : Int) < (l.length : Nat) by omega), cond_true, Int.toNat_natCast, hg, vs_val (hl c (hce ▸ List.getElem_mem hlt))]; rfl
      rw [loopF_inl e]
      exact ih (i + 1) n (by rw [← List.drop_drop, hd]; rfl) (by omega) (by simp only [List.length_cons] at hn; omega)
  unfold F75_L
  exact key l 0 _ rfl (Nat.zero_le _) (by omega)
theorem totw_f (hl : ∀ a ∈ l, vs a) (hn : l.length ≤ 10000) : F82_L l = ((sums l (0, 0)).1, (sums l (0, 0)).2, 0) := by
  unfold F82_L
  rw [decide_eq_false (by omega), cond_false, chkW hl]
  show loopF _ _ (((0, 0) : Int × Int).1, ((0, 0) : Int × Int).2, ((0 : Nat) : Int)) = _
  refine sumw_loopF (G := fun v => (v.1, v.2, 0)) hl (fun i a hi v1 v2 => ?_) (fun v1 v2 => ?_) l 0 _ (0, 0) rfl (Nat.zero_le _) (by omega) (okw_0 hn)
  · obtain ⟨hlt, hce⟩ := List.getElem?_eq_some_iff.1 hi
    have hg : l.getD i default = a := by rw [List.getD_eq_getElem?_getD, hi]; rfl
    simp only [S82_L_0]
    rw [decide_eq_true (show ((i : Nat) : Int) < (l.length : Nat) by omega), cond_true, Int.toNat_natCast, hg]; rfl
  · simp only [S82_L_0]
    rw [decide_eq_false (Int.lt_irrefl _), cond_false]
/-- the least span of the sums, or an error -/
noncomputable def sumV (l : List (Int × Int)) : (Int × Int) × Int := F78 (sums l (0, 0)).1 (sums l (0, 0)).2
theorem Sum_f (hl : ∀ a ∈ l, vs a) (hn : l.length ≤ 10000) : F44_L l = sumV l := by
  unfold F44_L
  rw [totw_f hl hn]; rfl
end
theorem sums_app (l m : List (Int × Int)) : sums (l ++ m) (0, 0) = ((sums l (0, 0)).1 + (sums m (0, 0)).1, (sums l (0, 0)).2 + (sums m (0, 0)).2) := by
  simp only [sums_eq, List.map_append, List.sum_append, Int.zero_add]
theorem shs_inr {α β : Type} {g : α → β × Int} : ∀ {k : List α} {l : List β} {e : Int}, shs g k l = .inr e → e ≠ 0
  | [], l, e, h => by simp only [shs] at h; cases h
  | c :: k, l, e, h => by
    unfold shs at h
    split at h
    · exact shs_inr h
    · rename_i h0; cases h; exact h0

end Go.Proofs.Ytopbnnmkdildgaa

namespace Go.Proofs.Ytopbnnmkdildgaa
open Go.Proofs Go.Aw Go.RowKit
set_option maxRecDepth 100000
set_option linter.unusedVariables false
set_option linter.unusedSimpArgs false

end Go.Proofs.Ytopbnnmkdildgaa

namespace Go.Proofs.Ytopbnnmkdildgaa
open Go.Proofs Go.Aw Go.RowKit
set_option maxRecDepth 100000
set_option linter.unusedVariables false
set_option linter.unusedSimpArgs false

/-- api.Pulse, as cells -/
def c41 (x : ((Int × Int × Int) × (Int × Int × Int) × Int × Int × Int) × Int × Int) : List SV := [(iv x.1.1.1), (iv x.1.1.2.1), (iv x.1.1.2.2), (iv x.1.2.1.1), (iv x.1.2.1.2.1), (iv x.1.2.1.2.2), (iv x.1.2.2.1), (iv x.1.2.2.2.1), (iv x.1.2.2.2.2), (iv x.2.1), (iv x.2.2)]
theorem c41_len (x : ((Int × Int × Int) × (Int × Int × Int) × Int × Int × Int) × Int × Int) : (c41 x).length = 11 := rfl

noncomputable def B27_L_0 : Code := (loopAtD [1, 1, 0, 1] [] (Try.f27.body.getD .skip) []).1
noncomputable def K27_L_0 : List K := (loopAtD [1, 1, 0, 1] [] (Try.f27.body.getD .skip) []).2

/-- a round of loop 0 of facet/sound.ValidatePulses; the variables: v1 = s11 -/
def S27_L_0 (a0 : List (((Int × Int × Int) × (Int × Int × Int) × Int × Int × Int) × Int × Int)) : Int → (Int) ⊕ (Int)
  | v1 =>
   (bif (decide ((v1 : Int) < ((a0.length : Nat) : Int))) then
    (bif (((F66 (a0.getD (Int.toNat v1) default).1) : Int) != 0) then
     (.inr (F66 (a0.getD (Int.toNat v1) default).1))
    else
     (bif (!(F63 (a0.getD (Int.toNat v1) default).2.1 0 1000)) then
      (.inr 1)
     else
      (bif (!(F63 (a0.getD (Int.toNat v1) default).2.2 (-100) 100)) then
       (.inr 1)
      else
       (.inl (v1 + 1)))))
   else
    (.inr 0))

set_option maxHeartbeats 4000000 in
theorem L27_L_0 (a0 : List (((Int × Int × Int) × (Int × Int × Int) × Int × Int × Int) × Int × Int)) (l0 : a0.length ≤ 9223372036854775807) {cx : Cx} (hcx : cx.base = 1) : ∀ (n : Nat) (v1 : Int), 0 ≤ v1 → Int.toNat (((a0.length : Nat) : Int) - v1) < n → Aw.Good Try.prog none 9 (bodyPost Try.prog Try.f27 (RR cx (iv (loopF (S27_L_0 a0) n v1)) [] [])) cx [] (.l B27_L_0 n :: K27_L_0) ⟨[.u, .u, .u, .u, .u, .u, .u, .u, .u, (.s 0 0 a0.length 11), (iv ((a0.length : Nat) : Int)), (iv v1), .u, .u, .u, .u, .u, .u, .u, .u, .u, .u, .u, .u, .u, .u, .u, .u, .u, .u, .u, .u], [(.live false true (flat c41 a0))]⟩ := by
  intro n
  induction n with
  | zero => intro v1 hi hn; exact absurd hn (Nat.not_lt_zero _)
  | succ n ih =>
    intro v1 hi hn
    refine good_round ?_
    cases h0 : (decide ((v1 : Int) < ((a0.length : Nat) : Int))) with
    | true =>
      cases h1 : (((F66 (a0.getD (Int.toNat v1) default).1) : Int) != 0) with
      | true =>
        have q0 := of_decide_eq_true h0
        have q1 := bne_iff_ne.1 h1
        have e : S27_L_0 a0 v1 = (.inr (F66 (a0.getD (Int.toNat v1) default).1)) := by simp only [S27_L_0, h0, h1, cond_true, cond_false]
        rw [show loopF (S27_L_0 a0) (n + 1) v1 = thenF (S27_L_0 a0) n (S27_L_0 a0 v1) from rfl, e]
        exact ret_of (T := T0) hT hm (f := 5000) (orc := [.d true, .ld [(iv (a0.getD (Int.toNat v1) default).1.1.1), (iv (a0.getD (Int.toNat v1) default).1.1.2.1), (iv (a0.getD (Int.toNat v1) default).1.1.2.2), (iv (a0.getD (Int.toNat v1) default).1.2.1.1), (iv (a0.getD (Int.toNat v1) default).1.2.1.2.1), (iv (a0.getD (Int.toNat v1) default).1.2.1.2.2), (iv (a0.getD (Int.toNat v1) default).1.2.2.1), (iv (a0.getD (Int.toNat v1) default).1.2.2.2.1), (iv (a0.getD (Int.toNat v1) default).1.2.2.2.2), (iv (a0.getD (Int.toNat v1) default).2.1), (iv (a0.getD (Int.toNat v1) default).2.2)], .call [] (iv (F66 (a0.getD (Int.toNat v1) default).1)) [], .d true]) [] [] [] hcx
          (obs := [.eq (decide ((v1 : Int) < ((a0.length : Nat) : Int))) true, .pr (0 ≤ (v1 : Int) ∧ (v1 : Int) < ((a0.length : Nat) : Int)), .pr (((((flat c41 a0)).drop (0 + Int.toNat v1 * 11)).take 11) = [(iv (a0.getD (Int.toNat v1) default).1.1.1), (iv (a0.getD (Int.toNat v1) default).1.1.2.1), (iv (a0.getD (Int.toNat v1) default).1.1.2.2), (iv (a0.getD (Int.toNat v1) default).1.2.1.1), (iv (a0.getD (Int.toNat v1) default).1.2.1.2.1), (iv (a0.getD (Int.toNat v1) default).1.2.1.2.2), (iv (a0.getD (Int.toNat v1) default).1.2.2.1), (iv (a0.getD (Int.toNat v1) default).1.2.2.2.1), (iv (a0.getD (Int.toNat v1) default).1.2.2.2.2), (iv (a0.getD (Int.toNat v1) default).2.1), (iv (a0.getD (Int.toNat v1) default).2.2)]), .call 66 [(.a (k9 (a0.getD (Int.toNat v1) default).1))] [] (iv (F66 (a0.getD (Int.toNat v1) default).1)) [], .eq (((F66 (a0.getD (Int.toNat v1) default).1) : Int) != 0) true]) (by kernel_rfl) ⟨h0, (show 0 ≤ (v1 : Int) ∧ (v1 : Int) < ((a0.length : Nat) : Int) from by first | omega | (rw [W_eq] <;> omega) | exact u64_nn _), (ld_part c41_len default a0 v1 0 11 (by omega) (by decide) (by omega) rfl), (C66 (a0.getD (Int.toNat v1) default).1), h1, trivial⟩
      | false =>
        cases h2 : (!(F63 (a0.getD (Int.toNat v1) default).2.1 0 1000)) with
        | true =>
          have q0 := of_decide_eq_true h0
          have q1 := bne_eq_false_iff_eq.1 h1
          have e : S27_L_0 a0 v1 = (.inr 1) := by simp only [S27_L_0, h0, h1, h2, cond_true, cond_false]
          rw [show loopF (S27_L_0 a0) (n + 1) v1 = thenF (S27_L_0 a0) n (S27_L_0 a0 v1) from rfl, e]
          exact ret_of (T := T0) hT hm (f := 5000) (orc := [.d true, .ld [(iv (a0.getD (Int.toNat v1) default).1.1.1), (iv (a0.getD (Int.toNat v1) default).1.1.2.1), (iv (a0.getD (Int.toNat v1) default).1.1.2.2), (iv (a0.getD (Int.toNat v1) default).1.2.1.1), (iv (a0.getD (Int.toNat v1) default).1.2.1.2.1), (iv (a0.getD (Int.toNat v1) default).1.2.1.2.2), (iv (a0.getD (Int.toNat v1) default).1.2.2.1), (iv (a0.getD (Int.toNat v1) default).1.2.2.2.1), (iv (a0.getD (Int.toNat v1) default).1.2.2.2.2), (iv (a0.getD (Int.toNat v1) default).2.1), (iv (a0.getD (Int.toNat v1) default).2.2)], .call [] (iv (F66 (a0.getD (Int.toNat v1) default).1)) [], .d false, .call [] (.v (.bool (F63 (a0.getD (Int.toNat v1) default).2.1 0 1000))) [], .d true]) [] [] [] hcx
            (obs := [.eq (decide ((v1 : Int) < ((a0.length : Nat) : Int))) true, .pr (0 ≤ (v1 : Int) ∧ (v1 : Int) < ((a0.length : Nat) : Int)), .pr (((((flat c41 a0)).drop (0 + Int.toNat v1 * 11)).take 11) = [(iv (a0.getD (Int.toNat v1) default).1.1.1), (iv (a0.getD (Int.toNat v1) default).1.1.2.1), (iv (a0.getD (Int.toNat v1) default).1.1.2.2), (iv (a0.getD (Int.toNat v1) default).1.2.1.1), (iv (a0.getD (Int.toNat v1) default).1.2.1.2.1), (iv (a0.getD (Int.toNat v1) default).1.2.1.2.2), (iv (a0.getD (Int.toNat v1) default).1.2.2.1), (iv (a0.getD (Int.toNat v1) default).1.2.2.2.1), (iv (a0.getD (Int.toNat v1) default).1.2.2.2.2), (iv (a0.getD (Int.toNat v1) default).2.1), (iv (a0.getD (Int.toNat v1) default).2.2)]), .call 66 [(.a (k9 (a0.getD (Int.toNat v1) default).1))] [] (iv (F66 (a0.getD (Int.toNat v1) default).1)) [], .eq (((F66 (a0.getD (Int.toNat v1) default).1) : Int) != 0) false, .call 63 [(iv (a0.getD (Int.toNat v1) default).2.1), (iv 0), (iv 1000)] [] (.v (.bool (F63 (a0.getD (Int.toNat v1) default).2.1 0 1000))) [], .eq (!(F63 (a0.getD (Int.toNat v1) default).2.1 0 1000)) true]) (by kernel_rfl) ⟨h0, (show 0 ≤ (v1 : Int) ∧ (v1 : Int) < ((a0.length : Nat) : Int) from by first | omega | (rw [W_eq] <;> omega) | exact u64_nn _), (ld_part c41_len default a0 v1 0 11 (by omega) (by decide) (by omega) rfl), (C66 (a0.getD (Int.toNat v1) default).1), h1, (C63 (a0.getD (Int.toNat v1) default).2.1 0 1000), h2, trivial⟩
        | false =>
          cases h3 : (!(F63 (a0.getD (Int.toNat v1) default).2.2 (-100) 100)) with
          | true =>
            have q0 := of_decide_eq_true h0
            have q1 := bne_eq_false_iff_eq.1 h1
            have e : S27_L_0 a0 v1 = (.inr 1) := by simp only [S27_L_0, h0, h1, h2, h3, cond_true, cond_false]
            rw [show loopF (S27_L_0 a0) (n + 1) v1 = thenF (S27_L_0 a0) n (S27_L_0 a0 v1) from rfl, e]
            exact ret_of (T := T0) hT hm (f := 5000) (orc := [.d true, .ld [(iv (a0.getD (Int.toNat v1) default).1.1.1), (iv (a0.getD (Int.toNat v1) default).1.1.2.1), (iv (a0.getD (Int.toNat v1) default).1.1.2.2), (iv (a0.getD (Int.toNat v1) default).1.2.1.1), (iv (a0.getD (Int.toNat v1) default).1.2.1.2.1), (iv (a0.getD (Int.toNat v1) default).1.2.1.2.2), (iv (a0.getD (Int.toNat v1) default).1.2.2.1), (iv (a0.getD (Int.toNat v1) default).1.2.2.2.1), (iv (a0.getD (Int.toNat v1) default).1.2.2.2.2), (iv (a0.getD (Int.toNat v1) default).2.1), (iv (a0.getD (Int.toNat v1) default).2.2)], .call [] (iv (F66 (a0.getD (Int.toNat v1) default).1)) [], .d false, .call [] (.v (.bool (F63 (a0.getD (Int.toNat v1) default).2.1 0 1000))) [], .d false, .call [] (.v (.bool (F63 (a0.getD (Int.toNat v1) default).2.2 (-100) 100))) [], .d true]) [] [] [] hcx
              (obs := [.eq (decide ((v1 : Int) < ((a0.length : Nat) : Int))) true, .pr (0 ≤ (v1 : Int) ∧ (v1 : Int) < ((a0.length : Nat) : Int)), .pr (((((flat c41 a0)).drop (0 + Int.toNat v1 * 11)).take 11) = [(iv (a0.getD (Int.toNat v1) default).1.1.1), (iv (a0.getD (Int.toNat v1) default).1.1.2.1), (iv (a0.getD (Int.toNat v1) default).1.1.2.2), (iv (a0.getD (Int.toNat v1) default).1.2.1.1), (iv (a0.getD (Int.toNat v1) default).1.2.1.2.1), (iv (a0.getD (Int.toNat v1) default).1.2.1.2.2), (iv (a0.getD (Int.toNat v1) default).1.2.2.1), (iv (a0.getD (Int.toNat v1) default).1.2.2.2.1), (iv (a0.getD (Int.toNat v1) default).1.2.2.2.2), (iv (a0.getD (Int.toNat v1) default).2.1), (iv (a0.getD (Int.toNat v1) default).2.2)]), .call 66 [(.a (k9 (a0.getD (Int.toNat v1) default).1))] [] (iv (F66 (a0.getD (Int.toNat v1) default).1)) [], .eq (((F66 (a0.getD (Int.toNat v1) default).1) : Int) != 0) false, .call 63 [(iv (a0.getD (Int.toNat v1) default).2.1), (iv 0), (iv 1000)] [] (.v (.bool (F63 (a0.getD (Int.toNat v1) default).2.1 0 1000))) [], .eq (!(F63 (a0.getD (Int.toNat v1) default).2.1 0 1000)) false, .call 63 [(iv (a0.getD (Int.toNat v1) default).2.2), (iv (-100)), (iv 100)] [] (.v (.bool (F63 (a0.getD (Int.toNat v1) default).2.2 (-100) 100))) [], .eq (!(F63 (a0.getD (Int.toNat v1) default).2.2 (-100) 100)) true]) (by kernel_rfl) ⟨h0, (show 0 ≤ (v1 : Int) ∧ (v1 : Int) < ((a0.length : Nat) : Int) from by first | omega | (rw [W_eq] <;> omega) | exact u64_nn _), (ld_part c41_len default a0 v1 0 11 (by omega) (by decide) (by omega) rfl), (C66 (a0.getD (Int.toNat v1) default).1), h1, (C63 (a0.getD (Int.toNat v1) default).2.1 0 1000), h2, (C63 (a0.getD (Int.toNat v1) default).2.2 (-100) 100), h3, trivial⟩
          | false =>
            have q0 := of_decide_eq_true h0
            have q1 := bne_eq_false_iff_eq.1 h1
            have e : S27_L_0 a0 v1 = (.inl (v1 + 1)) := by simp only [S27_L_0, h0, h1, h2, h3, cond_true, cond_false]
            rw [loopF_inl e]
            refine back_of (T := T0) hT hm (f := 5000) (orc := [.d true, .ld [(iv (a0.getD (Int.toNat v1) default).1.1.1), (iv (a0.getD (Int.toNat v1) default).1.1.2.1), (iv (a0.getD (Int.toNat v1) default).1.1.2.2), (iv (a0.getD (Int.toNat v1) default).1.2.1.1), (iv (a0.getD (Int.toNat v1) default).1.2.1.2.1), (iv (a0.getD (Int.toNat v1) default).1.2.1.2.2), (iv (a0.getD (Int.toNat v1) default).1.2.2.1), (iv (a0.getD (Int.toNat v1) default).1.2.2.2.1), (iv (a0.getD (Int.toNat v1) default).1.2.2.2.2), (iv (a0.getD (Int.toNat v1) default).2.1), (iv (a0.getD (Int.toNat v1) default).2.2)], .call [] (iv (F66 (a0.getD (Int.toNat v1) default).1)) [], .d false, .call [] (.v (.bool (F63 (a0.getD (Int.toNat v1) default).2.1 0 1000))) [], .d false, .call [] (.v (.bool (F63 (a0.getD (Int.toNat v1) default).2.2 (-100) 100))) [], .d false]) [] [9, 10, 11] [] hcx (body := B27_L_0) (m := n) (k' := K27_L_0) (s' := ⟨[.u, .u, .u, .u, .u, .u, .u, .u, .u, (.s 0 0 a0.length 11), (iv ((a0.length : Nat) : Int)), (iv (W (v1 + 1))), .u, .u, .u, .u, .u, .u, .u, .u, .u, .u, .u, .u, .u, .u, .u, .u, .u, .u, .u, .u], [(.live false true (flat c41 a0))]⟩)
              (obs := [.eq (decide ((v1 : Int) < ((a0.length : Nat) : Int))) true, .pr (0 ≤ (v1 : Int) ∧ (v1 : Int) < ((a0.length : Nat) : Int)), .pr (((((flat c41 a0)).drop (0 + Int.toNat v1 * 11)).take 11) = [(iv (a0.getD (Int.toNat v1) default).1.1.1), (iv (a0.getD (Int.toNat v1) default).1.1.2.1), (iv (a0.getD (Int.toNat v1) default).1.1.2.2), (iv (a0.getD (Int.toNat v1) default).1.2.1.1), (iv (a0.getD (Int.toNat v1) default).1.2.1.2.1), (iv (a0.getD (Int.toNat v1) default).1.2.1.2.2), (iv (a0.getD (Int.toNat v1) default).1.2.2.1), (iv (a0.getD (Int.toNat v1) default).1.2.2.2.1), (iv (a0.getD (Int.toNat v1) default).1.2.2.2.2), (iv (a0.getD (Int.toNat v1) default).2.1), (iv (a0.getD (Int.toNat v1) default).2.2)]), .call 66 [(.a (k9 (a0.getD (Int.toNat v1) default).1))] [] (iv (F66 (a0.getD (Int.toNat v1) default).1)) [], .eq (((F66 (a0.getD (Int.toNat v1) default).1) : Int) != 0) false, .call 63 [(iv (a0.getD (Int.toNat v1) default).2.1), (iv 0), (iv 1000)] [] (.v (.bool (F63 (a0.getD (Int.toNat v1) default).2.1 0 1000))) [], .eq (!(F63 (a0.getD (Int.toNat v1) default).2.1 0 1000)) false, .call 63 [(iv (a0.getD (Int.toNat v1) default).2.2), (iv (-100)), (iv 100)] [] (.v (.bool (F63 (a0.getD (Int.toNat v1) default).2.2 (-100) 100))) [], .eq (!(F63 (a0.getD (Int.toNat v1) default).2.2 (-100) 100)) false]) (by kernel_rfl) ⟨h0, (show 0 ≤ (v1 : Int) ∧ (v1 : Int) < ((a0.length : Nat) : Int) from by first | omega | (rw [W_eq] <;> omega) | exact u64_nn _), (ld_part c41_len default a0 v1 0 11 (by omega) (by decide) (by omega) rfl), (C66 (a0.getD (Int.toNat v1) default).1), h1, (C63 (a0.getD (Int.toNat v1) default).2.1 0 1000), h2, (C63 (a0.getD (Int.toNat v1) default).2.2 (-100) 100), h3, trivial⟩ ?_
            have z0 : (W (v1 + 1)) = (v1 + 1) := W_eq (by omega) (by omega)
            rw [z0]
            exact ih (v1 + 1) (by (try simp only [List.length_append, List.length_cons, List.length_nil, Int.toNat_zero]); omega) (by (try simp only [List.length_append, List.length_cons, List.length_nil, Int.toNat_zero]); omega)
    | false =>
      have q0 := of_decide_eq_false h0
      have e : S27_L_0 a0 v1 = (.inr 0) := by simp only [S27_L_0, h0, cond_true, cond_false]
      rw [show loopF (S27_L_0 a0) (n + 1) v1 = thenF (S27_L_0 a0) n (S27_L_0 a0 v1) from rfl, e]
      exact ret_of (T := T0) hT hm (f := 5000) (orc := [.d false]) [] [] [] hcx
        (obs := [.eq (decide ((v1 : Int) < ((a0.length : Nat) : Int))) false]) (by kernel_rfl) ⟨h0, trivial⟩

/-- facet/sound.ValidatePulses at ('L',) -/
def F27_L (a0 : List (((Int × Int × Int) × (Int × Int × Int) × Int × Int × Int) × Int × Int)) : Int :=
  (bif (decide ((((a0.length : Nat) : Int) : Int) > 16)) then
   4
  else
   (loopF (S27_L_0 a0) (Int.toNat (((a0.length : Nat) : Int) - 0) + 1) 0))

theorem C27_L (a0 : List (((Int × Int × Int) × (Int × Int × Int) × Int × Int × Int) × Int × Int)) (l0 : a0.length ≤ 9223372036854775807) : Con Try.prog 27 [(.s 0 0 a0.length 11)] [(.live false true (flat c41 a0))] (iv (F27_L a0)) [] := by
  cases h0 : (decide ((((a0.length : Nat) : Int) : Int) > 16)) with
  | true =>
    have q0 := of_decide_eq_true h0
    have e : (F27_L a0) = 4 := by simp only [F27_L, h0, cond_true, cond_false]
    rw [e]
    refine con_of (n := 9) Try.func27 rfl (ent Try.func27 (by kernel_rfl) rfl) (by show 1 ≤ Try.f27.ntmps; decide) (by kernel_rfl) ⟨rfl, trivial⟩ (fun cx hcx => ?_)
    exact ret_of (T := T0) hT hm (f := 5000) (orc := [.d true]) [] [] [] hcx
      (obs := [.eq (decide ((((a0.length : Nat) : Int) : Int) > 16)) true]) (by kernel_rfl) ⟨h0, trivial⟩
  | false =>
    have q0 := of_decide_eq_false h0
    have e : (F27_L a0) = (loopF (S27_L_0 a0) (Int.toNat (((a0.length : Nat) : Int) - 0) + 1) 0) := by simp only [F27_L, h0, cond_true, cond_false]
    rw [e]
    refine con_of (n := 9) Try.func27 rfl (ent Try.func27 (by kernel_rfl) rfl) (by show 1 ≤ Try.f27.ntmps; decide) (by kernel_rfl) ⟨rfl, trivial⟩ (fun cx hcx => ?_)
    refine enter_of (T := T0) hT hm (f := 5000) (orc := [.d false]) [] [9, 10, 11] [] hcx (body := B27_L_0) (k' := K27_L_0) (s' := ⟨[.u, .u, .u, .u, .u, .u, .u, .u, .u, (.s 0 0 a0.length 11), (iv ((a0.length : Nat) : Int)), (iv 0), .u, .u, .u, .u, .u, .u, .u, .u, .u, .u, .u, .u, .u, .u, .u, .u, .u, .u, .u, .u], [(.live false true (flat c41 a0))]⟩)
      (obs := [.eq (decide ((((a0.length : Nat) : Int) : Int) > 16)) false]) (by kernel_rfl) ⟨h0, trivial⟩ ⟨Int.toNat (((a0.length : Nat) : Int) - 0) + 1, ?_⟩
    exact L27_L_0 a0 l0 hcx (Int.toNat (((a0.length : Nat) : Int) - 0) + 1) 0 (by (try simp only [List.length_append, List.length_cons, List.length_nil, Int.toNat_zero]); omega) (by (try simp only [List.length_append, List.length_cons, List.length_nil, Int.toNat_zero]); omega)

/-- facet/sound.check at ('L',) -/
def F53_L (a0 : List (((Int × Int × Int) × (Int × Int × Int) × Int × Int × Int) × Int × Int)) (a1 : Bool) : Int :=
  (bif (((F27_L a0) : Int) != 0) then
   (F27_L a0)
  else
   (bif (!a1) then
    1
   else
    0))

noncomputable def oC53_L_0 (a0 : List (((Int × Int × Int) × (Int × Int × Int) × Int × Int × Int) × Int × Int)) : Ob := .call 27 [(.s 0 0 a0.length 11)] [(.live false true (flat c41 a0))] (iv (F27_L a0)) []
theorem C53_L (a0 : List (((Int × Int × Int) × (Int × Int × Int) × Int × Int × Int) × Int × Int)) (a1 : Bool) (l0 : a0.length ≤ 9223372036854775807) : Con Try.prog 53 [(.s 0 0 a0.length 11), (.v (.bool a1))] [(.live false true (flat c41 a0))] (iv (F53_L a0 a1)) [] := by
  cases h0 : (((F27_L a0) : Int) != 0) with
  | true =>
    have q0 := bne_iff_ne.1 h0
    have e : (F53_L a0 a1) = (F27_L a0) := by simp only [F53_L, h0, cond_true, cond_false]
    rw [e]
    refine con_of (n := 9) Try.func53 rfl (ent Try.func53 (by kernel_rfl) rfl) (by show 2 ≤ Try.f53.ntmps; decide) (by kernel_rfl) ⟨rfl, trivial⟩ (fun cx hcx => ?_)
    exact ret_of (T := T0) hT hm (f := 5000) (orc := [.call [0] (iv (F27_L a0)) [], .d true]) [] [] [] hcx
      (obs := [(oC53_L_0 a0), .eq (((F27_L a0) : Int) != 0) true]) (by kernel_rfl) ⟨(C27_L a0 (by (try simp only [List.length_append, List.length_cons, List.length_nil, Int.toNat_zero]); omega)), h0, trivial⟩
  | false =>
    cases h1 : (!a1) with
    | true =>
      have q0 := bne_eq_false_iff_eq.1 h0
      have e : (F53_L a0 a1) = 1 := by simp only [F53_L, h0, h1, cond_true, cond_false]
      rw [e]
      refine con_of (n := 9) Try.func53 rfl (ent Try.func53 (by kernel_rfl) rfl) (by show 2 ≤ Try.f53.ntmps; decide) (by kernel_rfl) ⟨rfl, trivial⟩ (fun cx hcx => ?_)
      exact ret_of (T := T0) hT hm (f := 5000) (orc := [.call [0] (iv (F27_L a0)) [], .d false, .d true]) [] [] [] hcx
        (obs := [(oC53_L_0 a0), .eq (((F27_L a0) : Int) != 0) false, .eq (!a1) true]) (by kernel_rfl) ⟨(C27_L a0 (by (try simp only [List.length_append, List.length_cons, List.length_nil, Int.toNat_zero]); omega)), h0, h1, trivial⟩
    | false =>
      have q0 := bne_eq_false_iff_eq.1 h0
      have e : (F53_L a0 a1) = 0 := by simp only [F53_L, h0, h1, cond_true, cond_false]
      rw [e]
      refine con_of (n := 9) Try.func53 rfl (ent Try.func53 (by kernel_rfl) rfl) (by show 2 ≤ Try.f53.ntmps; decide) (by kernel_rfl) ⟨rfl, trivial⟩ (fun cx hcx => ?_)
      exact ret_of (T := T0) hT hm (f := 5000) (orc := [.call [0] (iv (F27_L a0)) [], .d false, .d false]) [] [] [] hcx
        (obs := [(oC53_L_0 a0), .eq (((F27_L a0) : Int) != 0) false, .eq (!a1) false]) (by kernel_rfl) ⟨(C27_L a0 (by (try simp only [List.length_append, List.length_cons, List.length_nil, Int.toNat_zero]); omega)), h0, h1, trivial⟩

theorem vpl_len {l : List PU} (h : F27_L l = 0) : l.length ≤ 16 := by
  rcases Nat.lt_or_ge 16 l.length with h' | h'
  · exfalso
    unfold F27_L at h
    rw [decide_eq_true (by omega), cond_true] at h
    exact absurd h (by decide)
  · exact h'
theorem chkL_0 {l : List PU} {b : Bool} (h : ((F53_L l b : Int) != 0) = false) : F27_L l = 0 ∧ b = true := by
  have h := bne_eq_false_iff_eq.1 h
  unfold F53_L at h
  cases h1 : ((F27_L l : Int) != 0) with
  | true => rw [h1, cond_true] at h; exact absurd h (bne_iff_ne.1 h1)
  | false =>
    rw [h1, cond_false] at h
    refine ⟨bne_eq_false_iff_eq.1 h1, ?_⟩
    cases b with
    | true => rfl
    | false => exact absurd h (by decide)
theorem chkL_len {l : List PU} {b : Bool} (h : ((F53_L l b : Int) != 0) = false) : l.length ≤ 16 := vpl_len (chkL_0 h).1

/-- slices.Clone[[]facet/api.Pulse,facet/api.Pulse] at ('L',) -/
def F64_L (a0 : List (((Int × Int × Int) × (Int × Int × Int) × Int × Int × Int) × Int × Int)) : List (((Int × Int × Int) × (Int × Int × Int) × Int × Int × Int) × Int × Int) :=
  (([] : List (((Int × Int × Int) × (Int × Int × Int) × Int × Int × Int) × Int × Int)) ++ a0)

theorem C64_L (a0 : List (((Int × Int × Int) × (Int × Int × Int) × Int × Int × Int) × Int × Int)) (l0 : a0.length ≤ 9223372036854775807) (hne : a0.length ≠ 0) (h40 : a0.length ≤ 1048576) : Con Try.prog 64 [(.s 0 0 a0.length 11)] [(.live false true (flat c41 a0))] (.s 1 0 (F64_L a0).length 11) [(.live true true (flat c41 (F64_L a0)))] := by
  have e : (F64_L a0) = (([] : List (((Int × Int × Int) × (Int × Int × Int) × Int × Int × Int) × Int × Int)) ++ a0) := by simp only [F64_L]
  rw [e]
  refine con_of (n := 9) Try.func64 rfl (ent Try.func64 (by kernel_rfl) rfl) (by show 1 ≤ Try.f64.ntmps; decide) (by kernel_rfl) ⟨rfl, trivial⟩ (fun cx hcx => ?_)
  rw [show flat c41 (([] : List (((Int × Int × Int) × (Int × Int × Int) × Int × Int × Int) × Int × Int)) ++ a0) = (([] : List SV) ++ (flat c41 a0)) from Eq.symm (by simp [flat])]
  rw [show (([] : List (((Int × Int × Int) × (Int × Int × Int) × Int × Int × Int) × Int × Int)) ++ a0).length = (0 + a0.length) from by simp]
  exact ret_of (T := T0) hT hm (f := 5000) (orc := [.d false]) [] [] [2] hcx
    (obs := [.pr ((a0.length : Nat) ≠ 0), .eq false false, .pr (([] : List SV).length = 0 * 11 ∧ (flat c41 a0).length = a0.length * 11 ∧ (flat c41 a0).all SV.one = true ∧ 0 + a0.length ≤ 2 ^ 40 ∧ (0 + a0.length) * 88 ≤ 2 ^ 47)]) (by kernel_rfl) ⟨(show (a0.length : Nat) ≠ 0 from by first | omega | (rw [W_eq] <;> omega) | exact u64_nn _), rfl, (show (([] : List SV).length = 0 * 11 ∧ (flat c41 a0).length = a0.length * 11 ∧ (flat c41 a0).all SV.one = true ∧ 0 + a0.length ≤ 2 ^ 40 ∧ (0 + a0.length) * 88 ≤ 2 ^ 47) from by refine ⟨?_, ?_, ?_, ?_, ?_⟩ <;> first | omega | exact flat_one (fun _ => rfl) | (simp [flat_lenc c41_len]; done) | (simp [flat_lenc c41_len]; omega)), trivial⟩

/-- slices.Clone[[]facet/api.Pulse,facet/api.Pulse] at ('n',) -/
def F64_n : List (((Int × Int × Int) × (Int × Int × Int) × Int × Int × Int) × Int × Int) :=
  ([] : List (((Int × Int × Int) × (Int × Int × Int) × Int × Int × Int) × Int × Int))

theorem C64_n : Con Try.prog 64 [(.v (.slice none 0 0))] [] (.s 0 0 F64_n.length 11) [(.live true true (flat c41 F64_n))] := by
  have e : F64_n = ([] : List (((Int × Int × Int) × (Int × Int × Int) × Int × Int × Int) × Int × Int)) := by simp only [F64_n]
  rw [e]
  refine con_of (n := 9) Try.func64 rfl (ent Try.func64 (by kernel_rfl) rfl) (by show 1 ≤ Try.f64.ntmps; decide) (by kernel_rfl) trivial (fun cx hcx => ?_)
  exact ret_of (T := T0) hT hm (f := 5000) (orc := [.d true]) [.slot 2 11] [] [0] hcx
    (obs := [.eq true true]) (by kernel_rfl) ⟨rfl, trivial⟩

/-! ### slices.Clone -/
theorem clone_e (a : Addr) (c : Nat) : Con Try.prog 64 [.v (.slice (some a) 0 c)] [] (.s 0 0 0 11) [.live true true []] := by
  refine con_of (n := 9) Try.func64 rfl (ent Try.func64 (by kernel_rfl) rfl) (by show 1 ≤ Try.f64.ntmps; decide) (by kernel_rfl) trivial (fun cx hcx => ?_)
  exact ret_of (T := T0) hT hm (f := 5000) (orc := [.d false]) [.sym 0 true] [] [0] hcx
    (obs := [.eq false false]) (by kernel_rfl) ⟨rfl, trivial⟩
theorem clone_con (l : List PU) (l0 : l.length ≤ 9223372036854775807) (h : l.length ≤ 1048576) : Con Try.prog 64 [.s 0 0 l.length 11] [.live false true (flat c41 l)] (.s 1 0 (F64_L l).length 11) [.live true true (flat c41 (F64_L l))] := by
  by_cases hne : l.length ≠ 0
  · exact C64_L l l0 hne h
  have hl : l = [] := List.eq_nil_of_length_eq_zero (by omega)
  subst hl
  refine ⟨(clone_e ⟨0, 0, none⟩ 0).1, fun ρ W vs hr hb hpl hap => ?_⟩
  cases vs with
  | nil => simp [Rels] at hr
  | cons v vs =>
  cases vs with
  | cons _ _ => simp [Rels] at hr
  | nil =>
  have hv : v = .slice none 0 0 ∨ ∃ a c, v = .slice (some a) 0 c := by
    have := hr.1
    simp only [Rel] at this
    rcases this with ⟨_, _, h⟩ | ⟨b, o, n, cap, off', _, h, _⟩
    · exact .inl h
    · exact .inr ⟨_, _, h⟩
  have key : ∀ a0 : SV, Con Try.prog 64 [a0] [] (.s 0 0 0 11) [.live true true []] → Rel (fun _ => none) a0 v →
      Calls Try.prog 64 [v].toArray W (RR (callCx ρ W [.live false true (flat c41 [])]) (.s 1 0 (F64_L []).length 11) [.live true true (flat c41 (F64_L []))] []) := by
    intro a0 hc hrel
    refine (hc.2 (fun _ => none) W [v] ⟨hrel, trivial⟩ (fun i => by simp [BRep]) (fun i => by simp [BK.pl]) (fun i j b n b' n' _ h => by simp [BK.own] at h)).mono fun e W' hh => ?_
    obtain ⟨ρ', u, he, _, hu, hk, hB, hP, hA⟩ := hh
    refine ⟨fun j => if j = 0 then ρ 0 else if j = 1 then ρ' 0 else none, u, he, fun i hi => ?_, ?_, ?_, fun j => ?_, fun j => ?_, fun i j b n b' n' hij hi hj => ?_⟩
    · have : i = 0 := by simp only [callCx, List.length_cons, List.length_nil] at hi; omega
      subst this; rfl
    · show Rel _ (.s 1 0 0 11) u
      simp only [Rel] at hu ⊢
      exact hu
    · exact ⟨hk.os, hk.tape, hk.output, hk.size, fun k hk' _ => hk.block k hk' (by rintro ⟨i, n, hi, _⟩; simp [BK.own] at hi)⟩
    · rcases j with _ | _ | j
      · simp [postB, callCx, BRep]
      · have h0 := hB 0
        rcases h0 with h0 | ⟨b, vs, rest, ty, g1, g2, g3, g4⟩
        · exact .inl ⟨h0.1, rfl⟩
        · refine .inr ⟨b, vs, rest, ty, g1, ?_, ?_, g4⟩
          · rcases g2 with g2 | ⟨i, n, hi, _⟩
            · exact .inl g2
            · simp [BK.own] at hi
          · have : vs = [] := by
              cases vs with
              | nil => rfl
              | cons _ _ => simp [Rels] at g3
            subst this; trivial
      · simp [postB, callCx, BRep]
    · rcases j with _ | _ | j
      · simp [postB, callCx, BK.pl]
      · exact fun k hk => by simp [flat, F64_L, SV.hasl, postB, callCx] at hk
      · simp [postB, callCx, BK.pl]
    · have hi1 : i = 1 := by
        rcases i with _ | _ | i
        · simp [postB, callCx, BK.own] at hi
        · rfl
        · simp [postB, callCx, BK.own] at hi
      have hj1 : j = 1 := by
        rcases j with _ | _ | j
        · simp [postB, callCx, BK.own] at hj
        · rfl
        · simp [postB, callCx, BK.own] at hj
      omega
  rcases hv with rfl | ⟨a, c, rfl⟩
  · exact key _ C64_n rfl
  · exact key _ (clone_e a c) rfl
theorem clone_len (l : List PU) : (F64_L l).length = l.length := rfl

end Go.Proofs.Ytopbnnmkdildgaa

namespace Go.Proofs.Ytopbnnmkdildgaa
open Go.Proofs Go.Aw Go.RowKit
set_option maxRecDepth 100000
set_option linter.unusedVariables false
set_option linter.unusedSimpArgs false

/-! ### Lists of pulses: which are valid, the delayed ones -/
def fe {α : Type} (g : α → Int) : List α → Int
  | [] => 0
  | c :: l => if g c = 0 then fe g l else g c
theorem fe_0 {α : Type} {g : α → Int} : ∀ {l : List α}, fe g l = 0 ↔ ∀ c ∈ l, g c = 0
  | [] => by simp [fe]
  | c :: l => by
    unfold fe
    by_cases h : g c = 0
    · rw [if_pos h, fe_0]; simp [h]
    · rw [if_neg h]; simp [h]
theorem fe_loopF {α R : Type} [Inhabited R] {g : α → Int} {S : Int → Int ⊕ R} {L : List α} {E : Int → R} {G : R}
    (hS : ∀ (i : Nat) (c : α), L[i]? = some c → S (i : Int) = if g c = 0 then .inl ((i + 1 : Nat) : Int) else .inr (E (g c)))
    (hE : S (L.length : Int) = .inr G) : ∀ (k : List α) (i n : Nat), L.drop i = k → i ≤ L.length → k.length < n → loopF S n (i : Int) = if fe g k = 0 then G else E (fe g k)
  | [], i, n, hd, hi', hn => by
    have : i = L.length := by have := List.drop_eq_nil_iff.1 hd; omega
    obtain ⟨n, rfl⟩ : ∃ m, n = m + 1 := ⟨n - 1, by simp only [List.length_nil] at hn; omega⟩
    subst this
    rw [loopF_inr hE]; rfl
  | c :: k, i, n, hd, hi', hn => by
    have hc : L[i]? = some c := by
      have : (L.drop i)[0]? = some c := by rw [hd]; rfl
      simpa using this
    obtain ⟨hlt, hce⟩ := List.getElem?_eq_some_iff.1 hc
    obtain ⟨n, rfl⟩ : ∃ m, n = m + 1 := ⟨n - 1, by omega⟩
    have h1 := hS i c hc
    unfold fe
    by_cases h : g c = 0
    · rw [if_pos h] at h1
      rw [loopF_inl h1, if_pos h]
      exact fe_loopF hS hE k (i + 1) n (by rw [← List.drop_drop, hd]; rfl) (by omega) (by simp only [List.length_cons] at hn; omega)
    · rw [if_neg h] at h1
      rw [loopF_inr h1, if_neg h, if_neg h]
theorem getD_some {α : Type} [Inhabited α] {l : List α} {i : Nat} {c : α} (h : l[i]? = some c) : l.getD i default = c ∧ i < l.length := by
  obtain ⟨hlt, _⟩ := List.getElem?_eq_some_iff.1 h
  exact ⟨by rw [List.getD_eq_getElem?_getD, h]; rfl, hlt⟩
/-- the first error of pulses -/
noncomputable def vpL (l : List PU) : Int := if 16 < l.length then 4 else fe pv l
theorem pv_step {R : Type} (p : PU) (a : R) (E : Int → R) : (bif ((vp p.1 : Int) != 0) then E (vp p.1) else (bif (!(decide (0 ≤ p.2.1 ∧ p.2.1 ≤ 1000))) then E 1 else (bif (!(decide (-100 ≤ p.2.2 ∧ p.2.2 ≤ 100))) then E 1 else a))) = if pv p = 0 then a else E (pv p) := by
  unfold pv
  by_cases h : vp p.1 = 0
  · rw [h]
    by_cases h1 : 0 ≤ p.2.1 ∧ p.2.1 ≤ 1000 <;> by_cases h2 : -100 ≤ p.2.2 ∧ p.2.2 ≤ 100 <;> simp [h1, h2]
  · rw [if_neg h, if_neg h, bne_iff_ne.2 h]; rfl
theorem vpl_f (l : List PU) : F27_L l = vpL l := by
  unfold F27_L vpL
  by_cases h : 16 < l.length
  · rw [decide_eq_true (by omega), if_pos h]; rfl
  · rw [decide_eq_false (by omega), if_neg h, cond_false]
    have key := fe_loopF (g := pv) (S := S27_L_0 l) (L := l) (E := id) (G := 0) (fun i c hi => ?_) ?_ l 0 (Int.toNat (((l.length : Nat) : Int) - 0) + 1) rfl (Nat.zero_le _) (by omega)
    · refine Eq.trans key ?_
      split
      · rename_i h0; exact h0.symm
      · rfl
    · obtain ⟨hg, hlt⟩ := getD_some hi
      simp only [S27_L_0]
      rw [decide_eq_true (show ((i : Nat) : Int) < (l.length : Nat) by omega), cond_true, Int.toNat_natCast, hg, vp_s, sfrom_eq, sfrom_eq]
      exact pv_step c _ (fun e => Sum.inr (id e))
    · simp only [S27_L_0]
      rw [decide_eq_false (Int.lt_irrefl _), cond_false]
theorem chkL_f (l : List PU) (b : Bool) : F53_L l b = if vpL l = 0 then (if b = true then 0 else 1) else vpL l := by
  unfold F53_L
  rw [vpl_f]
  by_cases h : vpL l = 0
  · rw [h]; cases b <;> simp
  · rw [bne_iff_ne.2 h, if_neg h]; rfl
theorem vpL_ok {l : List PU} (h : vpL l = 0) : l.length ≤ 16 ∧ ∀ p ∈ l, POK p := by
  unfold vpL at h
  split at h
  · exact absurd h (by decide)
  · exact ⟨by omega, fun p hp => pv_ok.1 (fe_0.1 h p hp)⟩
/-! equal lists -/
/-! later pulses -/
end Go.Proofs.Ytopbnnmkdildgaa

namespace Go.Proofs.Ytopbnnmkdildgaa
open Go.Proofs Go.Aw Go.RowKit
set_option maxRecDepth 100000
set_option linter.unusedVariables false
set_option linter.unusedSimpArgs false

/-- facet/sound.Images$1 -/
def F68 (a0 : ((Int × Int × Int) × (Int × Int × Int) × Int × Int × Int) × Int × Int) : Bool :=
  (decide (((if (a0.1.2.2.2.2 : Int) < (if (a0.1.2.1.2.2 : Int) < a0.1.1.2.2 then a0.1.2.1.2.2 else a0.1.1.2.2) then a0.1.2.2.2.2 else (if (a0.1.2.1.2.2 : Int) < a0.1.1.2.2 then a0.1.2.1.2.2 else a0.1.1.2.2)) : Int) < 0))

theorem C68 (a0 : ((Int × Int × Int) × (Int × Int × Int) × Int × Int × Int) × Int × Int) : Con Try.prog 68 [(.a [(iv a0.1.1.1), (iv a0.1.1.2.1), (iv a0.1.1.2.2), (iv a0.1.2.1.1), (iv a0.1.2.1.2.1), (iv a0.1.2.1.2.2), (iv a0.1.2.2.1), (iv a0.1.2.2.2.1), (iv a0.1.2.2.2.2), (iv a0.2.1), (iv a0.2.2)])] [] (.v (.bool (F68 a0))) [] := by
  have e : (F68 a0) = (decide (((if (a0.1.2.2.2.2 : Int) < (if (a0.1.2.1.2.2 : Int) < a0.1.1.2.2 then a0.1.2.1.2.2 else a0.1.1.2.2) then a0.1.2.2.2.2 else (if (a0.1.2.1.2.2 : Int) < a0.1.1.2.2 then a0.1.2.1.2.2 else a0.1.1.2.2)) : Int) < 0)) := by simp only [F68]
  rw [e]
  refine con_of (n := 9) Try.func68 rfl (ent Try.func68 (by kernel_rfl) rfl) (by show 1 ≤ Try.f68.ntmps; decide) (by kernel_rfl) trivial (fun cx hcx => ?_)
  exact ret_of (T := T0) hT hm (f := 5000) (orc := []) [] [] [] hcx
    (obs := []) (by kernel_rfl) trivial

noncomputable def B97_L_f68_0 : Code := (loopAtD [1, 0, 1] [] (Try.f97.body.getD .skip) []).1
noncomputable def K97_L_f68_0 : List K := (loopAtD [1, 0, 1] [] (Try.f97.body.getD .skip) []).2

/-- a round of loop 0 of slices.IndexFunc[[]facet/api.Pulse,facet/api.Pulse]; the variables: v1 = s8 -/
def S97_L_f68_0 (a0 : List (((Int × Int × Int) × (Int × Int × Int) × Int × Int × Int) × Int × Int)) : Int → (Int) ⊕ (Int)
  | v1 =>
   (bif (decide ((v1 : Int) < ((a0.length : Nat) : Int))) then
    (bif (F68 (a0.getD (Int.toNat v1) default)) then
     (.inr v1)
    else
     (.inl (v1 + 1)))
   else
    (.inr (-1)))

set_option maxHeartbeats 4000000 in
theorem L97_L_f68_0 (a0 : List (((Int × Int × Int) × (Int × Int × Int) × Int × Int × Int) × Int × Int)) (l0 : a0.length ≤ 9223372036854775807) {cx : Cx} (hcx : cx.base = 1) : ∀ (n : Nat) (v1 : Int), 0 ≤ v1 → Int.toNat (((a0.length : Nat) : Int) - v1) < n → Aw.Good Try.prog none 9 (bodyPost Try.prog Try.f97 (RR cx (iv (loopF (S97_L_f68_0 a0) n v1)) [] [])) cx [] (.l B97_L_f68_0 n :: K97_L_f68_0) ⟨[(.s 0 0 a0.length 11), (.v (.func (.func 68) #[] #[])), .u, .u, .u, .u, .u, (iv ((a0.length : Nat) : Int)), (iv v1), .u, .u, .u, .u, .u, .u, .u, .u, .u, .u], [(.live false true (flat c41 a0))]⟩ := by
  intro n
  induction n with
  | zero => intro v1 hi hn; exact absurd hn (Nat.not_lt_zero _)
  | succ n ih =>
    intro v1 hi hn
    refine good_round ?_
    cases h0 : (decide ((v1 : Int) < ((a0.length : Nat) : Int))) with
    | true =>
      cases h1 : (F68 (a0.getD (Int.toNat v1) default)) with
      | true =>
        have q0 := of_decide_eq_true h0
        have e : S97_L_f68_0 a0 v1 = (.inr v1) := by simp only [S97_L_f68_0, h0, h1, cond_true, cond_false]
        rw [show loopF (S97_L_f68_0 a0) (n + 1) v1 = thenF (S97_L_f68_0 a0) n (S97_L_f68_0 a0 v1) from rfl, e]
        exact ret_of (T := T0) hT hm (f := 5000) (orc := [.d true, .ld [(iv (a0.getD (Int.toNat v1) default).1.1.1), (iv (a0.getD (Int.toNat v1) default).1.1.2.1), (iv (a0.getD (Int.toNat v1) default).1.1.2.2), (iv (a0.getD (Int.toNat v1) default).1.2.1.1), (iv (a0.getD (Int.toNat v1) default).1.2.1.2.1), (iv (a0.getD (Int.toNat v1) default).1.2.1.2.2), (iv (a0.getD (Int.toNat v1) default).1.2.2.1), (iv (a0.getD (Int.toNat v1) default).1.2.2.2.1), (iv (a0.getD (Int.toNat v1) default).1.2.2.2.2), (iv (a0.getD (Int.toNat v1) default).2.1), (iv (a0.getD (Int.toNat v1) default).2.2)], .call [] (.v (.bool (F68 (a0.getD (Int.toNat v1) default)))) [], .d true]) [] [] [] hcx
          (obs := [.eq (decide ((v1 : Int) < ((a0.length : Nat) : Int))) true, .pr (0 ≤ (v1 : Int) ∧ (v1 : Int) < ((a0.length : Nat) : Int)), .pr (((((flat c41 a0)).drop (0 + Int.toNat v1 * 11)).take 11) = [(iv (a0.getD (Int.toNat v1) default).1.1.1), (iv (a0.getD (Int.toNat v1) default).1.1.2.1), (iv (a0.getD (Int.toNat v1) default).1.1.2.2), (iv (a0.getD (Int.toNat v1) default).1.2.1.1), (iv (a0.getD (Int.toNat v1) default).1.2.1.2.1), (iv (a0.getD (Int.toNat v1) default).1.2.1.2.2), (iv (a0.getD (Int.toNat v1) default).1.2.2.1), (iv (a0.getD (Int.toNat v1) default).1.2.2.2.1), (iv (a0.getD (Int.toNat v1) default).1.2.2.2.2), (iv (a0.getD (Int.toNat v1) default).2.1), (iv (a0.getD (Int.toNat v1) default).2.2)]), .call 68 [(.a [(iv (a0.getD (Int.toNat v1) default).1.1.1), (iv (a0.getD (Int.toNat v1) default).1.1.2.1), (iv (a0.getD (Int.toNat v1) default).1.1.2.2), (iv (a0.getD (Int.toNat v1) default).1.2.1.1), (iv (a0.getD (Int.toNat v1) default).1.2.1.2.1), (iv (a0.getD (Int.toNat v1) default).1.2.1.2.2), (iv (a0.getD (Int.toNat v1) default).1.2.2.1), (iv (a0.getD (Int.toNat v1) default).1.2.2.2.1), (iv (a0.getD (Int.toNat v1) default).1.2.2.2.2), (iv (a0.getD (Int.toNat v1) default).2.1), (iv (a0.getD (Int.toNat v1) default).2.2)])] [] (.v (.bool (F68 (a0.getD (Int.toNat v1) default)))) [], .eq (F68 (a0.getD (Int.toNat v1) default)) true]) (by kernel_rfl) ⟨h0, (show 0 ≤ (v1 : Int) ∧ (v1 : Int) < ((a0.length : Nat) : Int) from by first | omega | (rw [W_eq] <;> omega) | exact u64_nn _), (ld_part c41_len default a0 v1 0 11 (by omega) (by decide) (by omega) rfl), (C68 (a0.getD (Int.toNat v1) default)), h1, trivial⟩
      | false =>
        have q0 := of_decide_eq_true h0
        have e : S97_L_f68_0 a0 v1 = (.inl (v1 + 1)) := by simp only [S97_L_f68_0, h0, h1, cond_true, cond_false]
        rw [loopF_inl e]
        refine back_of (T := T0) hT hm (f := 5000) (orc := [.d true, .ld [(iv (a0.getD (Int.toNat v1) default).1.1.1), (iv (a0.getD (Int.toNat v1) default).1.1.2.1), (iv (a0.getD (Int.toNat v1) default).1.1.2.2), (iv (a0.getD (Int.toNat v1) default).1.2.1.1), (iv (a0.getD (Int.toNat v1) default).1.2.1.2.1), (iv (a0.getD (Int.toNat v1) default).1.2.1.2.2), (iv (a0.getD (Int.toNat v1) default).1.2.2.1), (iv (a0.getD (Int.toNat v1) default).1.2.2.2.1), (iv (a0.getD (Int.toNat v1) default).1.2.2.2.2), (iv (a0.getD (Int.toNat v1) default).2.1), (iv (a0.getD (Int.toNat v1) default).2.2)], .call [] (.v (.bool (F68 (a0.getD (Int.toNat v1) default)))) [], .d false]) [] [0, 1, 7, 8] [] hcx (body := B97_L_f68_0) (m := n) (k' := K97_L_f68_0) (s' := ⟨[(.s 0 0 a0.length 11), (.v (.func (.func 68) #[] #[])), .u, .u, .u, .u, .u, (iv ((a0.length : Nat) : Int)), (iv (W (v1 + 1))), .u, .u, .u, .u, .u, .u, .u, .u, .u, .u], [(.live false true (flat c41 a0))]⟩)
          (obs := [.eq (decide ((v1 : Int) < ((a0.length : Nat) : Int))) true, .pr (0 ≤ (v1 : Int) ∧ (v1 : Int) < ((a0.length : Nat) : Int)), .pr (((((flat c41 a0)).drop (0 + Int.toNat v1 * 11)).take 11) = [(iv (a0.getD (Int.toNat v1) default).1.1.1), (iv (a0.getD (Int.toNat v1) default).1.1.2.1), (iv (a0.getD (Int.toNat v1) default).1.1.2.2), (iv (a0.getD (Int.toNat v1) default).1.2.1.1), (iv (a0.getD (Int.toNat v1) default).1.2.1.2.1), (iv (a0.getD (Int.toNat v1) default).1.2.1.2.2), (iv (a0.getD (Int.toNat v1) default).1.2.2.1), (iv (a0.getD (Int.toNat v1) default).1.2.2.2.1), (iv (a0.getD (Int.toNat v1) default).1.2.2.2.2), (iv (a0.getD (Int.toNat v1) default).2.1), (iv (a0.getD (Int.toNat v1) default).2.2)]), .call 68 [(.a [(iv (a0.getD (Int.toNat v1) default).1.1.1), (iv (a0.getD (Int.toNat v1) default).1.1.2.1), (iv (a0.getD (Int.toNat v1) default).1.1.2.2), (iv (a0.getD (Int.toNat v1) default).1.2.1.1), (iv (a0.getD (Int.toNat v1) default).1.2.1.2.1), (iv (a0.getD (Int.toNat v1) default).1.2.1.2.2), (iv (a0.getD (Int.toNat v1) default).1.2.2.1), (iv (a0.getD (Int.toNat v1) default).1.2.2.2.1), (iv (a0.getD (Int.toNat v1) default).1.2.2.2.2), (iv (a0.getD (Int.toNat v1) default).2.1), (iv (a0.getD (Int.toNat v1) default).2.2)])] [] (.v (.bool (F68 (a0.getD (Int.toNat v1) default)))) [], .eq (F68 (a0.getD (Int.toNat v1) default)) false]) (by kernel_rfl) ⟨h0, (show 0 ≤ (v1 : Int) ∧ (v1 : Int) < ((a0.length : Nat) : Int) from by first | omega | (rw [W_eq] <;> omega) | exact u64_nn _), (ld_part c41_len default a0 v1 0 11 (by omega) (by decide) (by omega) rfl), (C68 (a0.getD (Int.toNat v1) default)), h1, trivial⟩ ?_
        have z0 : (W (v1 + 1)) = (v1 + 1) := W_eq (by omega) (by omega)
        rw [z0]
        exact ih (v1 + 1) (by (try simp only [List.length_append, List.length_cons, List.length_nil, Int.toNat_zero]); omega) (by (try simp only [List.length_append, List.length_cons, List.length_nil, Int.toNat_zero]); omega)
    | false =>
      have q0 := of_decide_eq_false h0
      have e : S97_L_f68_0 a0 v1 = (.inr (-1)) := by simp only [S97_L_f68_0, h0, cond_true, cond_false]
      rw [show loopF (S97_L_f68_0 a0) (n + 1) v1 = thenF (S97_L_f68_0 a0) n (S97_L_f68_0 a0 v1) from rfl, e]
      exact ret_of (T := T0) hT hm (f := 5000) (orc := [.d false]) [] [] [] hcx
        (obs := [.eq (decide ((v1 : Int) < ((a0.length : Nat) : Int))) false]) (by kernel_rfl) ⟨h0, trivial⟩

/-- slices.IndexFunc[[]facet/api.Pulse,facet/api.Pulse] at ('L', 'f68') -/
def F97_L_f68 (a0 : List (((Int × Int × Int) × (Int × Int × Int) × Int × Int × Int) × Int × Int)) : Int :=
  (loopF (S97_L_f68_0 a0) (Int.toNat (((a0.length : Nat) : Int) - 0) + 1) 0)

theorem C97_L_f68 (a0 : List (((Int × Int × Int) × (Int × Int × Int) × Int × Int × Int) × Int × Int)) (l0 : a0.length ≤ 9223372036854775807) : Con Try.prog 97 [(.s 0 0 a0.length 11), (.v (.func (.func 68) #[] #[]))] [(.live false true (flat c41 a0))] (iv (F97_L_f68 a0)) [] := by
  have e : (F97_L_f68 a0) = (loopF (S97_L_f68_0 a0) (Int.toNat (((a0.length : Nat) : Int) - 0) + 1) 0) := by simp only [F97_L_f68]
  rw [e]
  refine con_of (n := 9) Try.func97 rfl (ent Try.func97 (by kernel_rfl) rfl) (by show 2 ≤ Try.f97.ntmps; decide) (by kernel_rfl) ⟨rfl, trivial⟩ (fun cx hcx => ?_)
  refine enter_of (T := T0) hT hm (f := 5000) (orc := []) [] [0, 1, 7, 8] [] hcx (body := B97_L_f68_0) (k' := K97_L_f68_0) (s' := ⟨[(.s 0 0 a0.length 11), (.v (.func (.func 68) #[] #[])), .u, .u, .u, .u, .u, (iv ((a0.length : Nat) : Int)), (iv 0), .u, .u, .u, .u, .u, .u, .u, .u, .u, .u], [(.live false true (flat c41 a0))]⟩)
    (obs := []) (by kernel_rfl) trivial ⟨Int.toNat (((a0.length : Nat) : Int) - 0) + 1, ?_⟩
  exact L97_L_f68_0 a0 l0 hcx (Int.toNat (((a0.length : Nat) : Int) - 0) + 1) 0 (by (try simp only [List.length_append, List.length_cons, List.length_nil, Int.toNat_zero]); omega) (by (try simp only [List.length_append, List.length_cons, List.length_nil, Int.toNat_zero]); omega)

/-- slices.ContainsFunc[[]facet/api.Pulse,facet/api.Pulse] at ('L', 'f68') -/
def F67_L_f68 (a0 : List (((Int × Int × Int) × (Int × Int × Int) × Int × Int × Int) × Int × Int)) : Bool :=
  (decide (((F97_L_f68 a0) : Int) ≥ 0))

theorem C67_L_f68 (a0 : List (((Int × Int × Int) × (Int × Int × Int) × Int × Int × Int) × Int × Int)) (l0 : a0.length ≤ 9223372036854775807) : Con Try.prog 67 [(.s 0 0 a0.length 11), (.v (.func (.func 68) #[] #[]))] [(.live false true (flat c41 a0))] (.v (.bool (F67_L_f68 a0))) [] := by
  have e : (F67_L_f68 a0) = (decide (((F97_L_f68 a0) : Int) ≥ 0)) := by simp only [F67_L_f68]
  rw [e]
  refine con_of (n := 9) Try.func67 rfl (ent Try.func67 (by kernel_rfl) rfl) (by show 2 ≤ Try.f67.ntmps; decide) (by kernel_rfl) ⟨rfl, trivial⟩ (fun cx hcx => ?_)
  exact ret_of (T := T0) hT hm (f := 5000) (orc := [.call [0] (iv (F97_L_f68 a0)) []]) [] [] [] hcx
    (obs := [.call 97 [(.s 0 0 a0.length 11), (.v (.func (.func 68) #[] #[]))] [(.live false true (flat c41 a0))] (iv (F97_L_f68 a0)) []]) (by kernel_rfl) ⟨(C97_L_f68 a0 (by (try simp only [List.length_append, List.length_cons, List.length_nil, Int.toNat_zero]); omega)), trivial⟩

/-- facet/sound.mirrored -/
def F69 (a0 : Int × Int × Int) : Int × Int × Int :=
  (a0.1, a0.2.1, (W (0 - a0.2.2)))

theorem C69 (a0 : Int × Int × Int) : Con Try.prog 69 [(.a (k3 a0))] [] (.a (k3 (F69 a0))) [] := by
  have e : (F69 a0) = (a0.1, a0.2.1, (W (0 - a0.2.2))) := by simp only [F69]
  rw [e]
  refine con_of (n := 9) Try.func69 rfl (ent Try.func69 (by kernel_rfl) rfl) (by show 1 ≤ Try.f69.ntmps; decide) (by kernel_rfl) trivial (fun cx hcx => ?_)
  exact ret_of (T := T0) hT hm (f := 5000) (orc := []) [] [] [] hcx
    (obs := []) (by kernel_rfl) trivial

noncomputable def B30_L_0 : Code := (loopAtD [1, 1, 1, 1, 1, 0, 1] [] (Try.f30.body.getD .skip) []).1
noncomputable def K30_L_0 : List K := (loopAtD [1, 1, 1, 1, 1, 0, 1] [] (Try.f30.body.getD .skip) []).2

/-- a round of loop 0 of facet/sound.Images; the variables: v1 = s8, v2 = s28 -/
def S30_L_0 (a0 : List (((Int × Int × Int) × (Int × Int × Int) × Int × Int × Int) × Int × Int)) (a1 : Bool) : (List (((Int × Int × Int) × (Int × Int × Int) × Int × Int × Int) × Int × Int)) × Int → ((List (((Int × Int × Int) × (Int × Int × Int) × Int × Int × Int) × Int × Int)) × Int) ⊕ ((List (((Int × Int × Int) × (Int × Int × Int) × Int × Int × Int) × Int × Int)) × Int)
  | (v1, v2) =>
   (bif (decide ((v2 : Int) < ((a0.length : Nat) : Int))) then
    (bif a1 then
     (.inl ((v1 ++ [(((F69 (a0.getD (Int.toNat v2) default).1.1), (F69 (a0.getD (Int.toNat v2) default).1.2.1), (F69 (a0.getD (Int.toNat v2) default).1.2.2)), (a0.getD (Int.toNat v2) default).2.1, (W (0 - (a0.getD (Int.toNat v2) default).2.2)))]), (v2 + 1)))
    else
     (.inl ((v1 ++ [(((F69 (a0.getD (Int.toNat v2) default).1.1), (F69 (a0.getD (Int.toNat v2) default).1.2.1), (F69 (a0.getD (Int.toNat v2) default).1.2.2)), (a0.getD (Int.toNat v2) default).2.1, (a0.getD (Int.toNat v2) default).2.2)]), (v2 + 1))))
   else
    (.inr (v1, 0)))

set_option maxHeartbeats 4000000 in
theorem L30_L_0 (a0 : List (((Int × Int × Int) × (Int × Int × Int) × Int × Int × Int) × Int × Int)) (a1 : Bool) (l0 : a0.length ≤ 9223372036854775807) {cx : Cx} (hcx : cx.base = 1) : ∀ (n : Nat) (v1 : List (((Int × Int × Int) × (Int × Int × Int) × Int × Int × Int) × Int × Int)) (v2 : Int), (0 ≤ v2) ∧ (v1.length = (F64_L a0).length + Int.toNat v2) ∧ (v2 ≤ a0.length) ∧ (a0.length ≤ 16) → Int.toNat (((a0.length : Nat) : Int) - v2) < n → Aw.Good Try.prog none 9 (bodyPost Try.prog Try.f30 (RR cx (.t [(.s 1 0 (loopF (S30_L_0 a0 a1) n (v1, v2)).1.length 11), (iv (loopF (S30_L_0 a0 a1) n (v1, v2)).2)]) [(.live true true (flat c41 (loopF (S30_L_0 a0 a1) n (v1, v2)).1))] [])) cx [] (.l B30_L_0 n :: K30_L_0) ⟨[.u, (.v (.bool a1)), .u, .u, .u, .u, .u, .u, (.s 1 0 v1.length 11), .u, .u, .u, .u, .u, .u, .u, .u, .u, .u, .u, .u, .u, .u, .u, .u, .u, (.s 0 0 a0.length 11), (iv ((a0.length : Nat) : Int)), (iv v2), .u, .u, .u, .u, .u, .u, .u, .u, .u, .u, .u, .u, .u, .u, .u, .u, .u, .u, .u, .u, .u, .u, .u, .u, .u, .u, .u, .u], [(.live false true (flat c41 a0)), (.live true true (flat c41 v1))]⟩ := by
  intro n
  induction n with
  | zero => intro v1 v2 hi hn; exact absurd hn (Nat.not_lt_zero _)
  | succ n ih =>
    intro v1 v2 hi hn
    refine good_round ?_
    cases h0 : (decide ((v2 : Int) < ((a0.length : Nat) : Int))) with
    | true =>
      rcases bool_tf a1 with h1 | h1
      · skip
        have q0 := of_decide_eq_true h0
        have hcl := clone_len a0
        have e : S30_L_0 a0 a1 (v1, v2) = (.inl ((v1 ++ [(((F69 (a0.getD (Int.toNat v2) default).1.1), (F69 (a0.getD (Int.toNat v2) default).1.2.1), (F69 (a0.getD (Int.toNat v2) default).1.2.2)), (a0.getD (Int.toNat v2) default).2.1, (W (0 - (a0.getD (Int.toNat v2) default).2.2)))]), (v2 + 1))) := by simp only [S30_L_0, h0, h1, cond_true, cond_false]
        rw [loopF_inl e]
        refine back_of (T := T0) hT hm (f := 5000) (orc := [.d true, .ld [(iv (a0.getD (Int.toNat v2) default).1.1.1), (iv (a0.getD (Int.toNat v2) default).1.1.2.1), (iv (a0.getD (Int.toNat v2) default).1.1.2.2), (iv (a0.getD (Int.toNat v2) default).1.2.1.1), (iv (a0.getD (Int.toNat v2) default).1.2.1.2.1), (iv (a0.getD (Int.toNat v2) default).1.2.1.2.2), (iv (a0.getD (Int.toNat v2) default).1.2.2.1), (iv (a0.getD (Int.toNat v2) default).1.2.2.2.1), (iv (a0.getD (Int.toNat v2) default).1.2.2.2.2), (iv (a0.getD (Int.toNat v2) default).2.1), (iv (a0.getD (Int.toNat v2) default).2.2)], .call [] (.a (k3 (F69 (a0.getD (Int.toNat v2) default).1.1))) [], .call [] (.a (k3 (F69 (a0.getD (Int.toNat v2) default).1.2.1))) [], .call [] (.a (k3 (F69 (a0.getD (Int.toNat v2) default).1.2.2))) [], .d true]) [] [1, 8, 26, 27, 28] [4] hcx (body := B30_L_0) (m := n) (k' := K30_L_0) (s' := ⟨[.u, (.v (.bool a1)), .u, .u, .u, .u, .u, .u, (.s 1 0 (v1.length + 1) 11), .u, .u, .u, .u, .u, .u, .u, .u, .u, .u, .u, .u, .u, .u, .u, .u, .u, (.s 0 0 a0.length 11), (iv ((a0.length : Nat) : Int)), (iv (W (v2 + 1))), .u, .u, .u, .u, .u, .u, .u, .u, .u, .u, .u, .u, .u, .u, .u, .u, .u, .u, .u, .u, .u, .u, .u, .u, .u, .u, .u, .u], [(.live false true (flat c41 a0)), (.live true true (flat c41 v1 ++ [(iv (F69 (a0.getD (Int.toNat v2) default).1.1).1), (iv (F69 (a0.getD (Int.toNat v2) default).1.1).2.1), (iv (F69 (a0.getD (Int.toNat v2) default).1.1).2.2), (iv (F69 (a0.getD (Int.toNat v2) default).1.2.1).1), (iv (F69 (a0.getD (Int.toNat v2) default).1.2.1).2.1), (iv (F69 (a0.getD (Int.toNat v2) default).1.2.1).2.2), (iv (F69 (a0.getD (Int.toNat v2) default).1.2.2).1), (iv (F69 (a0.getD (Int.toNat v2) default).1.2.2).2.1), (iv (F69 (a0.getD (Int.toNat v2) default).1.2.2).2.2), (iv (a0.getD (Int.toNat v2) default).2.1), (iv (W (0 - (a0.getD (Int.toNat v2) default).2.2)))]))]⟩)
          (obs := [.eq (decide ((v2 : Int) < ((a0.length : Nat) : Int))) true, .pr (0 ≤ (v2 : Int) ∧ (v2 : Int) < ((a0.length : Nat) : Int)), .pr (((((flat c41 a0)).drop (0 + Int.toNat v2 * 11)).take 11) = [(iv (a0.getD (Int.toNat v2) default).1.1.1), (iv (a0.getD (Int.toNat v2) default).1.1.2.1), (iv (a0.getD (Int.toNat v2) default).1.1.2.2), (iv (a0.getD (Int.toNat v2) default).1.2.1.1), (iv (a0.getD (Int.toNat v2) default).1.2.1.2.1), (iv (a0.getD (Int.toNat v2) default).1.2.1.2.2), (iv (a0.getD (Int.toNat v2) default).1.2.2.1), (iv (a0.getD (Int.toNat v2) default).1.2.2.2.1), (iv (a0.getD (Int.toNat v2) default).1.2.2.2.2), (iv (a0.getD (Int.toNat v2) default).2.1), (iv (a0.getD (Int.toNat v2) default).2.2)]), .call 69 [(.a (k3 (a0.getD (Int.toNat v2) default).1.1))] [] (.a (k3 (F69 (a0.getD (Int.toNat v2) default).1.1))) [], .call 69 [(.a (k3 (a0.getD (Int.toNat v2) default).1.2.1))] [] (.a (k3 (F69 (a0.getD (Int.toNat v2) default).1.2.1))) [], .call 69 [(.a (k3 (a0.getD (Int.toNat v2) default).1.2.2))] [] (.a (k3 (F69 (a0.getD (Int.toNat v2) default).1.2.2))) [], .eq a1 true, .pr ((flat c41 v1).length = v1.length * 11 ∧ v1.length + 1 ≤ 2 ^ 40 ∧ (v1.length + 1) * 88 ≤ 2 ^ 47)]) (by kernel_rfl) ⟨h0, (show 0 ≤ (v2 : Int) ∧ (v2 : Int) < ((a0.length : Nat) : Int) from by first | omega | (rw [W_eq] <;> omega) | exact u64_nn _), (ld_part c41_len default a0 v2 0 11 (by omega) (by decide) (by omega) rfl), (C69 (a0.getD (Int.toNat v2) default).1.1), (C69 (a0.getD (Int.toNat v2) default).1.2.1), (C69 (a0.getD (Int.toNat v2) default).1.2.2), h1, (app_ok c41_len (by omega) (by omega)), trivial⟩ ?_
        have z0 : (W (v2 + 1)) = (v2 + 1) := W_eq (by omega) (by omega)
        have z1 : (flat c41 v1 ++ [(iv (F69 (a0.getD (Int.toNat v2) default).1.1).1), (iv (F69 (a0.getD (Int.toNat v2) default).1.1).2.1), (iv (F69 (a0.getD (Int.toNat v2) default).1.1).2.2), (iv (F69 (a0.getD (Int.toNat v2) default).1.2.1).1), (iv (F69 (a0.getD (Int.toNat v2) default).1.2.1).2.1), (iv (F69 (a0.getD (Int.toNat v2) default).1.2.1).2.2), (iv (F69 (a0.getD (Int.toNat v2) default).1.2.2).1), (iv (F69 (a0.getD (Int.toNat v2) default).1.2.2).2.1), (iv (F69 (a0.getD (Int.toNat v2) default).1.2.2).2.2), (iv (a0.getD (Int.toNat v2) default).2.1), (iv (W (0 - (a0.getD (Int.toNat v2) default).2.2)))]) = (flat c41 (v1 ++ [(((F69 (a0.getD (Int.toNat v2) default).1.1), (F69 (a0.getD (Int.toNat v2) default).1.2.1), (F69 (a0.getD (Int.toNat v2) default).1.2.2)), (a0.getD (Int.toNat v2) default).2.1, (W (0 - (a0.getD (Int.toNat v2) default).2.2)))])) := (flat_append (c := c41) (l := v1) (m := [(((F69 (a0.getD (Int.toNat v2) default).1.1), (F69 (a0.getD (Int.toNat v2) default).1.2.1), (F69 (a0.getD (Int.toNat v2) default).1.2.2)), (a0.getD (Int.toNat v2) default).2.1, (W (0 - (a0.getD (Int.toNat v2) default).2.2)))])).symm
        have z2 : (v1.length + 1) = (v1 ++ [(((F69 (a0.getD (Int.toNat v2) default).1.1), (F69 (a0.getD (Int.toNat v2) default).1.2.1), (F69 (a0.getD (Int.toNat v2) default).1.2.2)), (a0.getD (Int.toNat v2) default).2.1, (W (0 - (a0.getD (Int.toNat v2) default).2.2)))]).length := len_app v1 [(((F69 (a0.getD (Int.toNat v2) default).1.1), (F69 (a0.getD (Int.toNat v2) default).1.2.1), (F69 (a0.getD (Int.toNat v2) default).1.2.2)), (a0.getD (Int.toNat v2) default).2.1, (W (0 - (a0.getD (Int.toNat v2) default).2.2)))] rfl
        rw [z0, z1, z2]
        exact ih (v1 ++ [(((F69 (a0.getD (Int.toNat v2) default).1.1), (F69 (a0.getD (Int.toNat v2) default).1.2.1), (F69 (a0.getD (Int.toNat v2) default).1.2.2)), (a0.getD (Int.toNat v2) default).2.1, (W (0 - (a0.getD (Int.toNat v2) default).2.2)))]) (v2 + 1) (by refine ⟨?_, ?_, ?_, ?_⟩ <;> (try simp only [List.length_append, List.length_cons, List.length_nil, Int.toNat_zero]) <;> first | omega | simp) (by (try simp only [List.length_append, List.length_cons, List.length_nil, Int.toNat_zero]); omega)
      · skip
        have q0 := of_decide_eq_true h0
        have hcl := clone_len a0
        have e : S30_L_0 a0 a1 (v1, v2) = (.inl ((v1 ++ [(((F69 (a0.getD (Int.toNat v2) default).1.1), (F69 (a0.getD (Int.toNat v2) default).1.2.1), (F69 (a0.getD (Int.toNat v2) default).1.2.2)), (a0.getD (Int.toNat v2) default).2.1, (a0.getD (Int.toNat v2) default).2.2)]), (v2 + 1))) := by simp only [S30_L_0, h0, h1, cond_true, cond_false]
        rw [loopF_inl e]
        refine back_of (T := T0) hT hm (f := 5000) (orc := [.d true, .ld [(iv (a0.getD (Int.toNat v2) default).1.1.1), (iv (a0.getD (Int.toNat v2) default).1.1.2.1), (iv (a0.getD (Int.toNat v2) default).1.1.2.2), (iv (a0.getD (Int.toNat v2) default).1.2.1.1), (iv (a0.getD (Int.toNat v2) default).1.2.1.2.1), (iv (a0.getD (Int.toNat v2) default).1.2.1.2.2), (iv (a0.getD (Int.toNat v2) default).1.2.2.1), (iv (a0.getD (Int.toNat v2) default).1.2.2.2.1), (iv (a0.getD (Int.toNat v2) default).1.2.2.2.2), (iv (a0.getD (Int.toNat v2) default).2.1), (iv (a0.getD (Int.toNat v2) default).2.2)], .call [] (.a (k3 (F69 (a0.getD (Int.toNat v2) default).1.1))) [], .call [] (.a (k3 (F69 (a0.getD (Int.toNat v2) default).1.2.1))) [], .call [] (.a (k3 (F69 (a0.getD (Int.toNat v2) default).1.2.2))) [], .d false]) [] [1, 8, 26, 27, 28] [4] hcx (body := B30_L_0) (m := n) (k' := K30_L_0) (s' := ⟨[.u, (.v (.bool a1)), .u, .u, .u, .u, .u, .u, (.s 1 0 (v1.length + 1) 11), .u, .u, .u, .u, .u, .u, .u, .u, .u, .u, .u, .u, .u, .u, .u, .u, .u, (.s 0 0 a0.length 11), (iv ((a0.length : Nat) : Int)), (iv (W (v2 + 1))), .u, .u, .u, .u, .u, .u, .u, .u, .u, .u, .u, .u, .u, .u, .u, .u, .u, .u, .u, .u, .u, .u, .u, .u, .u, .u, .u, .u], [(.live false true (flat c41 a0)), (.live true true (flat c41 v1 ++ [(iv (F69 (a0.getD (Int.toNat v2) default).1.1).1), (iv (F69 (a0.getD (Int.toNat v2) default).1.1).2.1), (iv (F69 (a0.getD (Int.toNat v2) default).1.1).2.2), (iv (F69 (a0.getD (Int.toNat v2) default).1.2.1).1), (iv (F69 (a0.getD (Int.toNat v2) default).1.2.1).2.1), (iv (F69 (a0.getD (Int.toNat v2) default).1.2.1).2.2), (iv (F69 (a0.getD (Int.toNat v2) default).1.2.2).1), (iv (F69 (a0.getD (Int.toNat v2) default).1.2.2).2.1), (iv (F69 (a0.getD (Int.toNat v2) default).1.2.2).2.2), (iv (a0.getD (Int.toNat v2) default).2.1), (iv (a0.getD (Int.toNat v2) default).2.2)]))]⟩)
          (obs := [.eq (decide ((v2 : Int) < ((a0.length : Nat) : Int))) true, .pr (0 ≤ (v2 : Int) ∧ (v2 : Int) < ((a0.length : Nat) : Int)), .pr (((((flat c41 a0)).drop (0 + Int.toNat v2 * 11)).take 11) = [(iv (a0.getD (Int.toNat v2) default).1.1.1), (iv (a0.getD (Int.toNat v2) default).1.1.2.1), (iv (a0.getD (Int.toNat v2) default).1.1.2.2), (iv (a0.getD (Int.toNat v2) default).1.2.1.1), (iv (a0.getD (Int.toNat v2) default).1.2.1.2.1), (iv (a0.getD (Int.toNat v2) default).1.2.1.2.2), (iv (a0.getD (Int.toNat v2) default).1.2.2.1), (iv (a0.getD (Int.toNat v2) default).1.2.2.2.1), (iv (a0.getD (Int.toNat v2) default).1.2.2.2.2), (iv (a0.getD (Int.toNat v2) default).2.1), (iv (a0.getD (Int.toNat v2) default).2.2)]), .call 69 [(.a (k3 (a0.getD (Int.toNat v2) default).1.1))] [] (.a (k3 (F69 (a0.getD (Int.toNat v2) default).1.1))) [], .call 69 [(.a (k3 (a0.getD (Int.toNat v2) default).1.2.1))] [] (.a (k3 (F69 (a0.getD (Int.toNat v2) default).1.2.1))) [], .call 69 [(.a (k3 (a0.getD (Int.toNat v2) default).1.2.2))] [] (.a (k3 (F69 (a0.getD (Int.toNat v2) default).1.2.2))) [], .eq a1 false, .pr ((flat c41 v1).length = v1.length * 11 ∧ v1.length + 1 ≤ 2 ^ 40 ∧ (v1.length + 1) * 88 ≤ 2 ^ 47)]) (by kernel_rfl) ⟨h0, (show 0 ≤ (v2 : Int) ∧ (v2 : Int) < ((a0.length : Nat) : Int) from by first | omega | (rw [W_eq] <;> omega) | exact u64_nn _), (ld_part c41_len default a0 v2 0 11 (by omega) (by decide) (by omega) rfl), (C69 (a0.getD (Int.toNat v2) default).1.1), (C69 (a0.getD (Int.toNat v2) default).1.2.1), (C69 (a0.getD (Int.toNat v2) default).1.2.2), h1, (app_ok c41_len (by omega) (by omega)), trivial⟩ ?_
        have z0 : (W (v2 + 1)) = (v2 + 1) := W_eq (by omega) (by omega)
        have z1 : (flat c41 v1 ++ [(iv (F69 (a0.getD (Int.toNat v2) default).1.1).1), (iv (F69 (a0.getD (Int.toNat v2) default).1.1).2.1), (iv (F69 (a0.getD (Int.toNat v2) default).1.1).2.2), (iv (F69 (a0.getD (Int.toNat v2) default).1.2.1).1), (iv (F69 (a0.getD (Int.toNat v2) default).1.2.1).2.1), (iv (F69 (a0.getD (Int.toNat v2) default).1.2.1).2.2), (iv (F69 (a0.getD (Int.toNat v2) default).1.2.2).1), (iv (F69 (a0.getD (Int.toNat v2) default).1.2.2).2.1), (iv (F69 (a0.getD (Int.toNat v2) default).1.2.2).2.2), (iv (a0.getD (Int.toNat v2) default).2.1), (iv (a0.getD (Int.toNat v2) default).2.2)]) = (flat c41 (v1 ++ [(((F69 (a0.getD (Int.toNat v2) default).1.1), (F69 (a0.getD (Int.toNat v2) default).1.2.1), (F69 (a0.getD (Int.toNat v2) default).1.2.2)), (a0.getD (Int.toNat v2) default).2.1, (a0.getD (Int.toNat v2) default).2.2)])) := (flat_append (c := c41) (l := v1) (m := [(((F69 (a0.getD (Int.toNat v2) default).1.1), (F69 (a0.getD (Int.toNat v2) default).1.2.1), (F69 (a0.getD (Int.toNat v2) default).1.2.2)), (a0.getD (Int.toNat v2) default).2.1, (a0.getD (Int.toNat v2) default).2.2)])).symm
        have z2 : (v1.length + 1) = (v1 ++ [(((F69 (a0.getD (Int.toNat v2) default).1.1), (F69 (a0.getD (Int.toNat v2) default).1.2.1), (F69 (a0.getD (Int.toNat v2) default).1.2.2)), (a0.getD (Int.toNat v2) default).2.1, (a0.getD (Int.toNat v2) default).2.2)]).length := len_app v1 [(((F69 (a0.getD (Int.toNat v2) default).1.1), (F69 (a0.getD (Int.toNat v2) default).1.2.1), (F69 (a0.getD (Int.toNat v2) default).1.2.2)), (a0.getD (Int.toNat v2) default).2.1, (a0.getD (Int.toNat v2) default).2.2)] rfl
        rw [z0, z1, z2]
        exact ih (v1 ++ [(((F69 (a0.getD (Int.toNat v2) default).1.1), (F69 (a0.getD (Int.toNat v2) default).1.2.1), (F69 (a0.getD (Int.toNat v2) default).1.2.2)), (a0.getD (Int.toNat v2) default).2.1, (a0.getD (Int.toNat v2) default).2.2)]) (v2 + 1) (by refine ⟨?_, ?_, ?_, ?_⟩ <;> (try simp only [List.length_append, List.length_cons, List.length_nil, Int.toNat_zero]) <;> first | omega | simp) (by (try simp only [List.length_append, List.length_cons, List.length_nil, Int.toNat_zero]); omega)
    | false =>
      have q0 := of_decide_eq_false h0
      have hcl := clone_len a0
      have e : S30_L_0 a0 a1 (v1, v2) = (.inr (v1, 0)) := by simp only [S30_L_0, h0, cond_true, cond_false]
      rw [show loopF (S30_L_0 a0 a1) (n + 1) (v1, v2) = thenF (S30_L_0 a0 a1) n (S30_L_0 a0 a1 (v1, v2)) from rfl, e]
      exact ret_of (T := T0) hT hm (f := 5000) (orc := [.d false]) [] [] [1] hcx
        (obs := [.eq (decide ((v2 : Int) < ((a0.length : Nat) : Int))) false]) (by kernel_rfl) ⟨h0, trivial⟩

/-- facet/sound.Images at ('L',) -/
def F30_L (a0 : List (((Int × Int × Int) × (Int × Int × Int) × Int × Int × Int) × Int × Int)) (a1 : Bool) : (List (((Int × Int × Int) × (Int × Int × Int) × Int × Int × Int) × Int × Int)) × Int :=
  (bif (((F53_L a0 (!(F67_L_f68 a0))) : Int) != 0) then
   (([] : List (((Int × Int × Int) × (Int × Int × Int) × Int × Int × Int) × Int × Int)), (F53_L a0 (!(F67_L_f68 a0))))
  else
   (bif (decide (((W (2 * ((a0.length : Nat) : Int))) : Int) > 16)) then
    (([] : List (((Int × Int × Int) × (Int × Int × Int) × Int × Int × Int) × Int × Int)), 4)
   else
    (loopF (S30_L_0 a0 a1) (Int.toNat (((a0.length : Nat) : Int) - 0) + 1) ((F64_L a0), 0))))

noncomputable def oC30_L_0 (a0 : List (((Int × Int × Int) × (Int × Int × Int) × Int × Int × Int) × Int × Int)) : Ob := .call 67 [(.s 0 0 a0.length 11), (.v (.func (.func 68) #[] #[]))] [(.live false true (flat c41 a0))] (.v (.bool (F67_L_f68 a0))) []
noncomputable def oC30_L_1 (a0 : List (((Int × Int × Int) × (Int × Int × Int) × Int × Int × Int) × Int × Int)) : Ob := .call 53 [(.s 0 0 a0.length 11), (.v (.bool (!(F67_L_f68 a0))))] [(.live false true (flat c41 a0))] (iv (F53_L a0 (!(F67_L_f68 a0)))) []
theorem C30_L (a0 : List (((Int × Int × Int) × (Int × Int × Int) × Int × Int × Int) × Int × Int)) (a1 : Bool) (l0 : a0.length ≤ 9223372036854775807) : Con Try.prog 30 [(.s 0 0 a0.length 11), (.v (.bool a1))] [(.live false true (flat c41 a0))] (.t [(.s 1 0 (F30_L a0 a1).1.length 11), (iv (F30_L a0 a1).2)]) [(.live true true (flat c41 (F30_L a0 a1).1))] := by
  cases h0 : (((F53_L a0 (!(F67_L_f68 a0))) : Int) != 0) with
  | true =>
    have q0 := bne_iff_ne.1 h0
    try have hl16 := chkL_len h0
    have hcl := clone_len a0
    have e : (F30_L a0 a1) = (([] : List (((Int × Int × Int) × (Int × Int × Int) × Int × Int × Int) × Int × Int)), (F53_L a0 (!(F67_L_f68 a0)))) := by simp only [F30_L, h0, cond_true, cond_false]
    rw [e]
    refine con_of (n := 9) Try.func30 rfl (ent Try.func30 (by kernel_rfl) rfl) (by show 2 ≤ Try.f30.ntmps; decide) (by kernel_rfl) ⟨rfl, trivial⟩ (fun cx hcx => ?_)
    exact ret_of (T := T0) hT hm (f := 5000) (orc := [.call [0] (.v (.bool (F67_L_f68 a0))) [], .call [0] (iv (F53_L a0 (!(F67_L_f68 a0)))) [], .d true]) [.slot 4 11] [] [1] hcx
      (obs := [(oC30_L_0 a0), (oC30_L_1 a0), .eq (((F53_L a0 (!(F67_L_f68 a0))) : Int) != 0) true]) (by kernel_rfl) ⟨(C67_L_f68 a0 (by (try simp only [List.length_append, List.length_cons, List.length_nil, Int.toNat_zero]); omega)), (C53_L a0 (!(F67_L_f68 a0)) (by (try simp only [List.length_append, List.length_cons, List.length_nil, Int.toNat_zero]); omega)), h0, trivial⟩
  | false =>
    cases h1 : (decide (((W (2 * ((a0.length : Nat) : Int))) : Int) > 16)) with
    | true =>
      have q0 := bne_eq_false_iff_eq.1 h0
      have q1 := of_decide_eq_true h1
      try have hl16 := chkL_len h0
      have hcl := clone_len a0
      have e : (F30_L a0 a1) = (([] : List (((Int × Int × Int) × (Int × Int × Int) × Int × Int × Int) × Int × Int)), 4) := by simp only [F30_L, h0, h1, cond_true, cond_false]
      rw [e]
      refine con_of (n := 9) Try.func30 rfl (ent Try.func30 (by kernel_rfl) rfl) (by show 2 ≤ Try.f30.ntmps; decide) (by kernel_rfl) ⟨rfl, trivial⟩ (fun cx hcx => ?_)
      exact ret_of (T := T0) hT hm (f := 5000) (orc := [.call [0] (.v (.bool (F67_L_f68 a0))) [], .call [0] (iv (F53_L a0 (!(F67_L_f68 a0)))) [], .d false, .d true]) [.slot 4 11] [] [1] hcx
        (obs := [(oC30_L_0 a0), (oC30_L_1 a0), .eq (((F53_L a0 (!(F67_L_f68 a0))) : Int) != 0) false, .eq (decide (((W (2 * ((a0.length : Nat) : Int))) : Int) > 16)) true]) (by kernel_rfl) ⟨(C67_L_f68 a0 (by (try simp only [List.length_append, List.length_cons, List.length_nil, Int.toNat_zero]); omega)), (C53_L a0 (!(F67_L_f68 a0)) (by (try simp only [List.length_append, List.length_cons, List.length_nil, Int.toNat_zero]); omega)), h0, h1, trivial⟩
    | false =>
      have q0 := bne_eq_false_iff_eq.1 h0
      have q1 := of_decide_eq_false h1
      try have hl16 := chkL_len h0
      have hcl := clone_len a0
      have e : (F30_L a0 a1) = (loopF (S30_L_0 a0 a1) (Int.toNat (((a0.length : Nat) : Int) - 0) + 1) ((F64_L a0), 0)) := by simp only [F30_L, h0, h1, cond_true, cond_false]
      rw [e]
      refine con_of (n := 9) Try.func30 rfl (ent Try.func30 (by kernel_rfl) rfl) (by show 2 ≤ Try.f30.ntmps; decide) (by kernel_rfl) ⟨rfl, trivial⟩ (fun cx hcx => ?_)
      refine enter_of (T := T0) hT hm (f := 5000) (orc := [.call [0] (.v (.bool (F67_L_f68 a0))) [], .call [0] (iv (F53_L a0 (!(F67_L_f68 a0)))) [], .d false, .d false, .call [0] (.s 1 0 (F64_L a0).length 11) [(.live true true (flat c41 (F64_L a0)))]]) [] [1, 8, 26, 27, 28] [1] hcx (body := B30_L_0) (k' := K30_L_0) (s' := ⟨[.u, (.v (.bool a1)), .u, .u, .u, .u, .u, .u, (.s 1 0 (F64_L a0).length 11), .u, .u, .u, .u, .u, .u, .u, .u, .u, .u, .u, .u, .u, .u, .u, .u, .u, (.s 0 0 a0.length 11), (iv ((a0.length : Nat) : Int)), (iv 0), .u, .u, .u, .u, .u, .u, .u, .u, .u, .u, .u, .u, .u, .u, .u, .u, .u, .u, .u, .u, .u, .u, .u, .u, .u, .u, .u, .u], [(.live false true (flat c41 a0)), (.live true true (flat c41 (F64_L a0)))]⟩)
        (obs := [(oC30_L_0 a0), (oC30_L_1 a0), .eq (((F53_L a0 (!(F67_L_f68 a0))) : Int) != 0) false, .eq (decide (((W (2 * ((a0.length : Nat) : Int))) : Int) > 16)) false, .call 64 [(.s 0 0 a0.length 11)] [(.live false true (flat c41 a0))] (.s 1 0 (F64_L a0).length 11) [(.live true true (flat c41 (F64_L a0)))]]) (by kernel_rfl) ⟨(C67_L_f68 a0 (by (try simp only [List.length_append, List.length_cons, List.length_nil, Int.toNat_zero]); omega)), (C53_L a0 (!(F67_L_f68 a0)) (by (try simp only [List.length_append, List.length_cons, List.length_nil, Int.toNat_zero]); omega)), h0, h1, (clone_con a0 (by (try simp only [List.length_append, List.length_cons, List.length_nil, Int.toNat_zero]); omega) (by omega)), trivial⟩ ⟨Int.toNat (((a0.length : Nat) : Int) - 0) + 1, ?_⟩
      exact L30_L_0 a0 a1 l0 hcx (Int.toNat (((a0.length : Nat) : Int) - 0) + 1) (F64_L a0) 0 (by refine ⟨?_, ?_, ?_, ?_⟩ <;> (try simp only [List.length_append, List.length_cons, List.length_nil, Int.toNat_zero]) <;> first | omega | simp) (by (try simp only [List.length_append, List.length_cons, List.length_nil, Int.toNat_zero]); omega)

end Go.Proofs.Ytopbnnmkdildgaa

namespace Go.Proofs.Ytopbnnmkdildgaa
open Go.Proofs Go.Aw Go.RowKit
set_option maxRecDepth 100000
set_option linter.unusedVariables false
set_option linter.unusedSimpArgs false

/-! ### Images behind a wall -/
def bz (p : PU) : Prop := p.1.1.2.2 < 0 ∨ p.1.2.1.2.2 < 0 ∨ p.1.2.2.2.2 < 0
instance (p : PU) : Decidable (bz p) := by unfold bz; exact inferInstance
def gz (p : PU) : Int := if bz p then 1 else 0
theorem neg_f (p : PU) : F68 p = decide (bz p) := by
  unfold F68 bz
  apply decide_eq_decide.2
  (repeat' split) <;> omega
theorem idx_f (l : List PU) : ∀ (k : List PU) (i n : Nat), l.drop i = k → i ≤ l.length → k.length < n → (0 ≤ loopF (S97_L_f68_0 l) n (i : Int) ↔ fe gz k ≠ 0)
  | [], i, n, hd, hi', hn => by
    have : i = l.length := by have := List.drop_eq_nil_iff.1 hd; omega
    obtain ⟨n, rfl⟩ : ∃ m, n = m + 1 := ⟨n - 1, by simp only [List.length_nil] at hn; omega⟩
    subst this
    have e : S97_L_f68_0 l (l.length : Int) = .inr (-1) := by
      simp only [S97_L_f68_0]
      rw [decide_eq_false (Int.lt_irrefl _), cond_false]
    rw [loopF_inr e]; simp [fe]
  | c :: k, i, n, hd, hi', hn => by
    have hc : l[i]? = some c := by
      have : (l.drop i)[0]? = some c := by rw [hd]; rfl
      simpa using this
    obtain ⟨hg, hlt⟩ := getD_some hc
    obtain ⟨n, rfl⟩ : ∃ m, n = m + 1 := ⟨n - 1, by omega⟩
    have e : S97_L_f68_0 l (i : Int) = if bz c then .inr (i : Int) else .inl ((i + 1 : Nat) : Int) := by
      simp only [S97_L_f68_0]
      rw [decide_eq_true (show ((i : Nat) : Int) < (l.length : Nat) by omega), cond_true, Int.toNat_natCast, hg, neg_f]
      by_cases h : bz c <;> simp [h]
    unfold fe gz
    by_cases h : bz c
    · rw [if_pos h] at e
      rw [loopF_inr e, if_pos h]; simp
    · rw [if_neg h] at e
      rw [loopF_inl e, if_neg h, if_pos rfl]
      exact idx_f l k (i + 1) n (by rw [← List.drop_drop, hd]; rfl) (by omega) (by simp only [List.length_cons] at hn; omega)
theorem con_f (l : List PU) : F67_L_f68 l = decide (fe gz l ≠ 0) := by
  unfold F67_L_f68 F97_L_f68
  exact decide_eq_decide.2 (idx_f l l 0 _ rfl (Nat.zero_le _) (by omega))
def im (soft : Bool) (p : PU) : PU := ((F69 p.1.1, F69 p.1.2.1, F69 p.1.2.2), p.2.1, bif soft then W (0 - p.2.2) else p.2.2)
noncomputable def imV (l : List PU) (soft : Bool) : List PU × Int :=
  if vpL l = 0 then (if fe gz l = 0 then (if 16 < 2 * l.length then ([], 4) else (l ++ l.map (im soft), 0)) else ([], 1)) else ([], vpL l)
theorem shs_all {α β : Type} {f : α → β} : ∀ (k : List α) (l : List β), shs (fun c => (f c, 0)) k l = .inl (l ++ k.map f)
  | [], l => by simp [shs]
  | c :: k, l => by
    unfold shs
    rw [if_pos rfl, shs_all k]; simp
theorem Images_f (l : List PU) (soft : Bool) : F30_L l soft = imV l soft := by
  unfold F30_L imV
  rw [chkL_f, con_f]
  by_cases h : vpL l = 0
  · have h16 := (vpL_ok h).1
    rw [if_pos h, if_pos h, W_eq (n := 2 * ((l.length : Nat) : Int)) (by omega) (by omega)]
    by_cases h1 : fe gz l = 0
    · rw [if_pos h1, decide_eq_false (show ¬ fe gz l ≠ 0 from fun h => h h1), if_pos (show (!false) = true from rfl)]
      by_cases h2 : 16 < 2 * l.length
      · rw [if_pos h2, decide_eq_true (show 2 * ((l.length : Nat) : Int) > 16 by omega)]; rfl
      · rw [if_neg h2, decide_eq_false (show ¬ 2 * ((l.length : Nat) : Int) > 16 by omega)]
        have key := shs_loopF (g := fun p => (im soft p, 0)) (S := S30_L_0 l soft) (L := l) (G := fun m => (m, (0 : Int))) (E := fun e => (([] : List PU), e)) (fun i c hi m => ?_) (fun m => ?_) l 0 (Int.toNat (((l.length : Nat) : Int) - 0) + 1) l rfl (Nat.zero_le _) (by omega)
        · rw [shs_all] at key
          exact key
        · obtain ⟨hg, hlt⟩ := getD_some hi
          simp only [S30_L_0]
          rw [decide_eq_true (show ((i : Nat) : Int) < (l.length : Nat) by omega), cond_true, Int.toNat_natCast, hg]
          cases soft <;> rfl
        · simp only [S30_L_0]
          rw [decide_eq_false (Int.lt_irrefl _), cond_false]
    · rw [if_neg h1, decide_eq_true (show fe gz l ≠ 0 from h1)]; rfl
  · rw [if_neg h, if_neg h, bne_iff_ne.2 h]; rfl
theorem imV_len (l : List PU) (soft : Bool) : (imV l soft).1.length ≤ 32 := by
  unfold imV
  split
  · split
    · split
      · simp
      · simp only [List.length_append, List.length_map]; omega
    · simp
  · simp
theorem imf_len (l : List PU) (soft : Bool) : (F30_L l soft).1.length ≤ 32 := by rw [Images_f]; exact imV_len l soft
end Go.Proofs.Ytopbnnmkdildgaa
