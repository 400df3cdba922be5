/-
  A part of the proofs of the Field laws: what functions of the program compute, and that it is what the statements ask. No premise.
-/
import Derived.Test.YtopbnnmkdildgaaMk
namespace Go.Proofs.Ytopbnnmkdildgaa
open Go.Proofs Go.Aw Go.RowKit
set_option maxRecDepth 100000
set_option linter.unusedVariables false
set_option linter.unusedSimpArgs false

/-! ### Finer parts -/
theorem sq2 (s t : Int) : (s + t) * (s + t) ≤ 2 * (s * s) + 2 * (t * t) := by
  have := sq_nn (s - t); grind
def ad (p q : P3) : P3 := (p.1 + q.1, p.2.1 + q.2.1, p.2.2 + q.2.2)
theorem ds_ad (a b x : P3) : ds (ad a b) (tm 2 x) ≤ 2 * ds a x + 2 * ds b x := by
  have h1 := sq2 (a.1 - x.1) (b.1 - x.1); have h2 := sq2 (a.2.1 - x.2.1) (b.2.1 - x.2.1); have h3 := sq2 (a.2.2 - x.2.2) (b.2.2 - x.2.2)
  have e1 : a.1 + b.1 - 2 * x.1 = a.1 - x.1 + (b.1 - x.1) := by omega
  have e2 : a.2.1 + b.2.1 - 2 * x.2.1 = a.2.1 - x.2.1 + (b.2.1 - x.2.1) := by omega
  have e3 : a.2.2 + b.2.2 - 2 * x.2.2 = a.2.2 - x.2.2 + (b.2.2 - x.2.2) := by omega
  unfold ds dt sb ad tm; simp only; rw [e1, e2, e3]; omega
theorem quad_ad {c y : PN} (h : bdP 100000 c) (hy : y ∈ quad c) : ∃ a1 b1 a2 b2 a3 b3 : P3, (a1 = c.1 ∨ a1 = c.2.1 ∨ a1 = c.2.2) ∧ (b1 = c.1 ∨ b1 = c.2.1 ∨ b1 = c.2.2) ∧ (a2 = c.1 ∨ a2 = c.2.1 ∨ a2 = c.2.2) ∧ (b2 = c.1 ∨ b2 = c.2.1 ∨ b2 = c.2.2) ∧ (a3 = c.1 ∨ a3 = c.2.1 ∨ a3 = c.2.2) ∧ (b3 = c.1 ∨ b3 = c.2.1 ∨ b3 = c.2.2) ∧ y = (ad a1 b1, ad a2 b2, ad a3 b3) := by
  unfold quad q1 q2 q3 q4 at hy
  rw [mid_f h.1 h.2.1, mid_f h.2.2 h.1, mid_f h.2.1 h.2.2, times_f h.1, times_f h.2.1, times_f h.2.2] at hy
  have e : ∀ p : P3, (2 * p.1, 2 * p.2.1, 2 * p.2.2) = ad p p := fun p => by unfold ad; simp only [Prod.mk.injEq]; omega
  rw [e, e, e] at hy
  simp only [List.mem_cons, List.mem_nil_iff, or_false] at hy
  rcases hy with rfl | rfl | rfl | rfl
  · exact ⟨c.1, c.1, c.1, c.2.1, c.2.2, c.1, by simp, by simp, by simp, by simp, by simp, by simp, rfl⟩
  · exact ⟨c.1, c.2.1, c.2.1, c.2.1, c.2.1, c.2.2, by simp, by simp, by simp, by simp, by simp, by simp, rfl⟩
  · exact ⟨c.2.2, c.1, c.2.1, c.2.2, c.2.2, c.2.2, by simp, by simp, by simp, by simp, by simp, by simp, rfl⟩
  · exact ⟨c.1, c.2.1, c.2.1, c.2.2, c.2.2, c.1, by simp, by simp, by simp, by simp, by simp, by simp, rfl⟩
theorem fa_ge (c : PN) (x a : P3) (h : a = c.1 ∨ a = c.2.1 ∨ a = c.2.2) : ds a x ≤ fa c x := by
  rcases h with rfl | rfl | rfl
  · exact Int.le_trans (le_mx2 _ _) (Int.le_trans (le_mx1 _ _) (le_mx1 _ _))
  · exact Int.le_trans (le_mx2 _ _) (le_mx1 _ _)
  · exact le_mx2 _ _
theorem fa_quad {c y : PN} {x : P3} (h : bdP 100000 c) (hy : y ∈ quad c) : fa y (tm 2 x) ≤ 4 * fa c x := by
  obtain ⟨a1, b1, a2, b2, a3, b3, h1, k1, h2, k2, h3, k3, rfl⟩ := quad_ad h hy
  have g1 := fa_ge c x a1 h1; have g2 := fa_ge c x b1 k1; have g3 := fa_ge c x a2 h2; have g4 := fa_ge c x b2 k2; have g5 := fa_ge c x a3 h3; have g6 := fa_ge c x b3 k3
  have f1 := ds_ad a1 b1 x; have f2 := ds_ad a2 b2 x; have f3 := ds_ad a3 b3 x
  have g0 : 0 ≤ fa c x := Int.le_trans (dt_self _) (fa_ge c x c.1 (Or.inl rfl))
  exact mx_le (mx_le (mx_le (by omega) (by simp only; omega)) (by simp only; omega)) (by simp only; omega)
theorem in3 {c : PN} {a : P3} (h : a = c.1 ∨ a = c.2.1 ∨ a = c.2.2) : (blo c).1 ≤ a.1 ∧ a.1 ≤ (bhi c).1 ∧ (blo c).2.1 ≤ a.2.1 ∧ a.2.1 ≤ (bhi c).2.1 ∧ (blo c).2.2 ≤ a.2.2 ∧ a.2.2 ≤ (bhi c).2.2 := by
  have l1 := lo3_le c.1.1 c.2.1.1 c.2.2.1; have l2 := lo3_le c.1.2.1 c.2.1.2.1 c.2.2.2.1; have l3 := lo3_le c.1.2.2 c.2.1.2.2 c.2.2.2.2
  have m1 := le_hi3 c.1.1 c.2.1.1 c.2.2.1; have m2 := le_hi3 c.1.2.1 c.2.1.2.1 c.2.2.2.1; have m3 := le_hi3 c.1.2.2 c.2.1.2.2 c.2.2.2.2
  unfold blo bhi
  rcases h with rfl | rfl | rfl
  · exact ⟨l1.1, m1.1, l2.1, m2.1, l3.1, m3.1⟩
  · exact ⟨l1.2.1, m1.2.1, l2.2.1, m2.2.1, l3.2.1, m3.2.1⟩
  · exact ⟨l1.2.2, m1.2.2, l2.2.2, m2.2.2, l3.2.2, m3.2.2⟩
theorem gp_two {a b a' b' x : Int} (h1 : 2 * a ≤ a') (h2 : b' ≤ 2 * b) : 4 * (gp a b x x * gp a b x x) ≤ gp a' b' (2 * x) (2 * x) * gp a' b' (2 * x) (2 * x) := by
  have h : 2 * gp a b x x ≤ gp a' b' (2 * x) (2 * x) := by
    unfold gp mx; (repeat' split) <;> omega
  have h0 := gp_nn a b x x
  have := Int.mul_le_mul h h (by omega) (gp_nn _ _ _ _)
  have e : 2 * gp a b x x * (2 * gp a b x x) = 4 * (gp a b x x * gp a b x x) := by grind
  omega
theorem ne_quad {c y : PN} {x : P3} (h : bdP 100000 c) (hy : y ∈ quad c) : 4 * ne c x ≤ ne y (tm 2 x) := by
  obtain ⟨a1, b1, a2, b2, a3, b3, h1, k1, h2, k2, h3, k3, rfl⟩ := quad_ad h hy
  have i1 := in3 h1; have i2 := in3 k1; have i3 := in3 h2; have i4 := in3 k2; have i5 := in3 h3; have i6 := in3 k3
  have key : ∀ u v w m : Int, m ≤ u → m ≤ v → m ≤ w → m ≤ lo3 u v w := fun u v w m e1 e2 e3 => by rcases lo3_in u v w with e | e | e <;> rw [e] <;> assumption
  have key2 : ∀ u v w m : Int, u ≤ m → v ≤ m → w ≤ m → hi3 u v w ≤ m := fun u v w m e1 e2 e3 => by rcases hi3_in u v w with e | e | e <;> rw [e] <;> assumption
  have g1 := gp_two (a := (blo c).1) (b := (bhi c).1) (x := x.1) (key (a1.1 + b1.1) (a2.1 + b2.1) (a3.1 + b3.1) _ (by omega) (by omega) (by omega)) (key2 (a1.1 + b1.1) (a2.1 + b2.1) (a3.1 + b3.1) _ (by omega) (by omega) (by omega))
  have g2 := gp_two (a := (blo c).2.1) (b := (bhi c).2.1) (x := x.2.1) (key (a1.2.1 + b1.2.1) (a2.2.1 + b2.2.1) (a3.2.1 + b3.2.1) _ (by omega) (by omega) (by omega)) (key2 (a1.2.1 + b1.2.1) (a2.2.1 + b2.2.1) (a3.2.1 + b3.2.1) _ (by omega) (by omega) (by omega))
  have g3 := gp_two (a := (blo c).2.2) (b := (bhi c).2.2) (x := x.2.2) (key (a1.2.2 + b1.2.2) (a2.2.2 + b2.2.2) (a3.2.2 + b3.2.2) _ (by omega) (by omega) (by omega)) (key2 (a1.2.2 + b1.2.2) (a2.2.2 + b2.2.2) (a3.2.2 + b3.2.2) _ (by omega) (by omega) (by omega))
  show 4 * (gp (blo c).1 (bhi c).1 x.1 x.1 * gp (blo c).1 (bhi c).1 x.1 x.1 + gp (blo c).2.1 (bhi c).2.1 x.2.1 x.2.1 * gp (blo c).2.1 (bhi c).2.1 x.2.1 x.2.1 + gp (blo c).2.2 (bhi c).2.2 x.2.2 x.2.2 * gp (blo c).2.2 (bhi c).2.2 x.2.2 x.2.2) ≤ _
  refine Int.le_trans ?_ (Int.add_le_add (Int.add_le_add g1 g2) g3)
  omega
/-! what is proved of a part holds of its parts -/
structure Rel4 (of of' : Int → Int × Int) : Prop where
  lo : ∀ n n', 1 ≤ n' → n' ≤ 4 * n → (of n).1 ≤ (of' n').1
  hi : ∀ n n', 1 ≤ n → 4 * n ≤ n' → (of' n').2 ≤ (of n).2
theorem inv_hi {N n : Int} (hN : 1 ≤ N ∧ N ≤ 288230376151711744) (hn : 1 ≤ n) : 1 ≤ (inv N n).2 ∧ N ≤ (inv N n).2 * (inv N n).2 * n ∧ ((inv N n).2 - 1) * ((inv N n).2 - 1) * n < N := by
  obtain ⟨k, hk, hr, k0, k1, k2, k3, k4, k5⟩ := inv_facts (N := N) ⟨by omega, hN.2⟩ hn
  have h := hr.2.2
  have hm := Int.mul_ediv_add_emod N n
  have hm1 := Int.emod_lt_of_pos N (show 0 < n by omega)
  have h2 : N < (k + 1) * (k + 1) * n := by
    have := Int.mul_le_mul_of_nonneg_right (show N / n + 1 ≤ (k + 1) * (k + 1) by omega) (show 0 ≤ n by omega)
    rw [Int.add_mul, Int.one_mul, Int.mul_comm (N / n) n] at this; omega
  unfold inv
  rw [hk]
  simp only
  split
  · rename_i he
    have h1 : 1 ≤ k := by
      rcases Int.lt_or_le k 1 with h | h
      · have : k = 0 := by omega
        subst this; simp at he; omega
      · exact h
    refine ⟨h1, by omega, ?_⟩
    have e : (k - 1) * (k - 1) ≤ k * k - 1 := by
      have e1 : (k - 1) * (k - 1) = k * k - 2 * k + 1 := by grind
      omega
    have e2 := Int.mul_le_mul_of_nonneg_right e (show 0 ≤ n by omega)
    rw [show (k * k - 1) * n = k * k * n - n by rw [Int.sub_mul, Int.one_mul]] at e2; omega
  · rename_i he
    refine ⟨by omega, by omega, ?_⟩
    rw [show k + 1 - 1 = k by omega]; omega
theorem inv_hi_mono {N n m : Int} (hN : 1 ≤ N ∧ N ≤ 288230376151711744) (hn : 1 ≤ n) (hm : n ≤ m) : (inv N m).2 ≤ (inv N n).2 := by
  obtain ⟨a1, a2, a3⟩ := inv_hi hN hn
  obtain ⟨b1, b2, b3⟩ := inv_hi hN (show 1 ≤ m by omega)
  rcases Int.lt_or_le (inv N n).2 (inv N m).2 with h | h
  · exfalso
    have e := Int.mul_le_mul (Int.mul_le_mul (show (inv N n).2 ≤ (inv N m).2 - 1 by omega) (show (inv N n).2 ≤ (inv N m).2 - 1 by omega) (by omega) (by omega)) hm (by omega) (Int.mul_nonneg (by omega) (by omega))
    omega
  · exact h
theorem inv_mul {N n q : Int} (hq : 0 < q) : inv (q * N) (q * n) = inv N n := by
  unfold inv
  rw [Int.mul_ediv_mul_of_pos _ _ hq]
  have e : ∀ k : Int, (k * k * (q * n) = q * N) ↔ (k * k * n = N) := by
    intro k
    rw [show k * k * (q * n) = q * (k * k * n) by grind]
    exact ⟨fun h => Int.eq_of_mul_eq_mul_left (by omega) h, fun h => by rw [h]⟩
  simp only [e]
theorem rel1 {s : Int} (hs : s = 1 ∨ s = 2 ∨ s = 4) : Rel4 (of1 s) (of1 (2 * s)) := by
  have hN := NN_bd (s := 2 * s) (by omega)
  have e : NN (2 * s) = 4 * NN s := by unfold NN; grind
  have hN1 : 1 ≤ NN (2 * s) := by rcases hs with rfl | rfl | rfl <;> decide
  refine ⟨fun n n' h1 h2 => ?_, fun n n' h1 h2 => ?_⟩
  · unfold of1
    rw [if_neg (by omega), if_neg (by omega), ← inv_mul (q := 4) (by omega), ← e]
    exact inv_mono hN h1 h2
  · unfold of1
    rw [if_neg (by omega), if_neg (by omega), ← inv_mul (N := NN s) (q := 4) (by omega), ← e]
    exact inv_hi_mono ⟨hN1, hN.2⟩ (by omega) h2
theorem of3_big {s n : Int} (h : 1048576 < n) : of3 s n = (0, 1) := by unfold of3; rw [if_neg (by omega), if_pos h]
theorem of3_mid {s n : Int} (h1 : 1 ≤ n) (h2 : n ≤ 1048576) : of3 s n = inv (NC s) (n * n * n) := by unfold of3; rw [if_neg (by omega), if_neg (by omega)]
theorem rel3 {s : Int} (hs : s = 1 ∨ s = 2 ∨ s = 4) : Rel4 (of3 s) (of3 (2 * s)) := by
  have hN := NC_bd (s := 2 * s) (by omega)
  have hS := NC_bd (s := s) (by omega)
  have e : NC (2 * s) = 64 * NC s := by unfold NC; grind
  have hN1 : 1 ≤ NC (2 * s) := by rcases hs with rfl | rfl | rfl <;> decide
  have hS1 : 1 ≤ NC s ∧ NC s ≤ 4503599627370496 := by rcases hs with rfl | rfl | rfl <;> decide
  have e4 : ∀ n : Int, 4 * n * (4 * n) * (4 * n) = 64 * (n * n * n) := fun n => by grind
  have ok := of3_ok (s := 2 * s) (by omega)
  refine ⟨fun n n' h1 h2 => ?_, fun n n' h1 h2 => ?_⟩
  · by_cases hb : 1048576 < n
    · rw [of3_big hb]; exact ok.lo n'
    · by_cases hb' : 1048576 < n'
      · have : (of3 s n).1 = 0 := by
          rw [of3_mid (by omega) (by omega)]
          have c := cub_mono (n := 262144) (m := n) (by omega) (by omega)
          have hq : NC s / (n * n * n) = 0 := Int.ediv_eq_zero_of_lt (by omega) (by omega)
          unfold inv
          rw [hq]
          have hr := rtSpan (n := 0) (by omega) (by omega)
          have := hr.le (m := 0) (by omega) (by omega); have := hr.1
          simp only; omega
        rw [this]; exact ok.lo n'
      · rw [of3_mid (n := n) (by omega) (by omega), of3_mid (n := n') (by omega) (by omega), ← inv_mul (N := NC s) (q := 64) (by omega), ← e, ← e4]
        exact inv_mono hN (cub_W (by omega) (by omega)).2 (cub_mono h1 h2)
  · by_cases hb : 1048576 < n
    · rw [of3_big hb, of3_big (by omega)]; exact Int.le_refl _
    · have c := cub_W (n := n) (by omega) (by omega)
      by_cases hb' : 1048576 < n'
      · rw [of3_big hb', of3_mid (by omega) (by omega)]
        exact (inv_hi ⟨hS1.1, hS.2⟩ c.2).1
      · rw [of3_mid (n := n) (by omega) (by omega), of3_mid (n := n') (by omega) (by omega), ← inv_mul (N := NC s) (q := 64) (by omega), ← e, ← e4]
        refine inv_hi_mono ⟨hN1, hN.2⟩ ?_ (cub_mono (by omega) h2)
        rw [e4]; omega
/-! sums -/
theorem sum_flat (g : PN → Int) : ∀ l : List PN, ((l.flatMap quad).map g).sum = (l.map fun c => ((quad c).map g).sum).sum
  | [] => rfl
  | c :: l => by simp only [List.flatMap_cons, List.map_append, List.sum_append, List.map_cons, List.sum_cons, sum_flat g l]
theorem sum_le {f g : PN → Int} : ∀ {l : List PN}, (∀ c ∈ l, f c ≤ g c) → (l.map f).sum ≤ (l.map g).sum
  | [], _ => Int.le_refl _
  | c :: l, h => by
    have := h c List.mem_cons_self; have := sum_le (l := l) (fun c hc => h c (List.mem_cons_of_mem _ hc))
    simp only [List.map_cons, List.sum_cons]; omega
theorem sum_four (g : PN → Int) : ∀ l : List PN, (l.map fun c => 4 * g c).sum = 4 * (l.map g).sum
  | [] => rfl
  | c :: l => by simp only [List.map_cons, List.sum_cons, sum_four g l]; omega
theorem zc_all {x : P3} : ∀ {l : List PN}, ¬ 0 < (l.map (zc x)).sum → ∀ c ∈ l, ne c x ≠ 0
  | c :: l, h, y, hy => by
    have hn : ∀ c, 0 ≤ zc x c := fun c => by unfold zc; split <;> omega
    have h0 := sum_nn (l := l) hn; have h1 := hn c
    simp only [List.map_cons, List.sum_cons] at h
    rcases List.mem_cons.1 hy with rfl | hy
    · intro h2
      have : zc x y = 1 := by unfold zc; rw [if_pos h2]
      omega
    · exact zc_all (l := l) (by omega) y hy
theorem zc_none {x : P3} : ∀ {l : List PN}, (∀ c ∈ l, ne c x ≠ 0) → (l.map (zc x)).sum = 0
  | [], _ => rfl
  | c :: l, h => by
    have e : zc x c = 0 := by unfold zc; rw [if_neg (h c List.mem_cons_self)]
    simp only [List.map_cons, List.sum_cons, e, zc_none (l := l) (fun c hc => h c (List.mem_cons_of_mem _ hc))]; rfl
theorem acc_fine {of of' : Int → Int × Int} (hr : Rel4 of of') {x : P3} {l : List PN} (hb : ∀ c ∈ l, bdP 100000 c) {v : Int × Int} (h : acc of x l (0, 0) = .inl v) :
    ∃ v', acc of' (tm 2 x) (l.flatMap quad) (0, 0) = .inl v' ∧ 4 * v.1 ≤ v'.1 ∧ v'.2 ≤ 4 * v.2 := by
  rw [acc_sum] at h
  split at h
  · cases h
  · rename_i hz
    have hn := zc_all hz
    have hnn : ∀ c ∈ l, 1 ≤ ne c x := fun c hc => by have := hn c hc; have := ne_le c x; omega
    have hz' : ((l.flatMap quad).map (zc (tm 2 x))).sum = 0 := zc_none (fun y hy => by
      obtain ⟨c, hc, hy⟩ := List.mem_flatMap.1 hy
      have := ne_quad (x := x) (hb c hc) hy; have := hnn c hc; omega)
    cases h
    refine ⟨_, by rw [acc_sum, hz', if_neg (by omega)], ?_, ?_⟩
    · simp only [Int.zero_add]
      rw [sum_flat, ← sum_four]
      refine sum_le (fun c hc => ?_)
      have key : ∀ y ∈ quad c, (of (fa c x)).1 ≤ (of' (fa y (tm 2 x))).1 := fun y hy => hr.lo _ _ (by have := ne_quad (x := x) (hb c hc) hy; have := hnn c hc; have := ne_le y (tm 2 x); omega) (fa_quad (hb c hc) hy)
      have k1 := key (q1 c) (by simp [quad]); have k2 := key (q2 c) (by simp [quad]); have k3 := key (q3 c) (by simp [quad]); have k4 := key (q4 c) (by simp [quad])
      simp only [quad, List.map_cons, List.map_nil, List.sum_cons, List.sum_nil]; omega
    · simp only [Int.zero_add]
      rw [sum_flat, ← sum_four]
      refine sum_le (fun c hc => ?_)
      have key : ∀ y ∈ quad c, (of' (ne y (tm 2 x))).2 ≤ (of (ne c x)).2 := fun y hy => hr.hi _ _ (hnn c hc) (ne_quad (hb c hc) hy)
      have k1 := key (q1 c) (by simp [quad]); have k2 := key (q2 c) (by simp [quad]); have k3 := key (q3 c) (by simp [quad]); have k4 := key (q4 c) (by simp [quad])
      simp only [quad, List.map_cons, List.map_nil, List.sum_cons, List.sum_nil]; omega
/-- b lies in a -/
def ins (b a : Int × Int) : Prop := a.1 ≤ b.1 ∧ b.2 ≤ a.2
theorem sc_next {d : Int} (h : 0 ≤ d ∧ d ≤ 2) : sc (d + 1) = 2 * sc d ∧ (sc d = 1 ∨ sc d = 2 ∨ sc d = 4) := by
  have : d = 0 ∨ d = 1 ∨ d = 2 := by omega
  rcases this with rfl | rfl | rfl <;> decide
theorem meanS_fine {of : Int → Int → Int × Int} (hr : ∀ s, s = 1 ∨ s = 2 ∨ s = 4 → Rel4 (of s) (of (2 * s))) {p : PN} {x : P3} {d : Int} (hp : bdP 64 p) (hd : 0 ≤ d ∧ d ≤ 2) (h : (meanS (of (sc d)) p x d).2 = 0) :
    (meanS (of (sc (d + 1))) p x (d + 1)).2 = 0 ∧ ins (meanS (of (sc (d + 1))) p x (d + 1)).1 (meanS (of (sc d)) p x d).1 := by
  obtain ⟨e1, e2⟩ := sc_next hd
  have e3 : tm (2 * sc d) x = tm 2 (tm (sc d) x) := by unfold tm; simp only [Int.mul_assoc]
  have e4 : cutL (d + 1).toNat p = (cutL d.toNat p).flatMap quad := by rw [show (d + 1).toNat = d.toNat + 1 by omega, cutL_quad]
  unfold meanS at *
  rw [e1, e3, e4]
  cases ha : acc (of (sc d)) (tm (sc d) x) (cutL d.toNat p) (0, 0) with
  | inr r =>
    rw [ha] at h
    rw [acc_sum] at ha
    split at ha
    · cases ha; cases h
    · cases ha
  | inl v =>
    obtain ⟨v', h1, h2, h3⟩ := acc_fine (hr _ e2) (fun c hc => (cutL_in hp (by omega) hc).mono (by omega)) ha
    rw [h1]
    refine ⟨rfl, ?_⟩
    show ins (avg v' _) (avg v _)
    unfold ins avg
    simp only
    rcases e2 with e | e | e <;> rw [e] <;> refine ⟨?_, ?_⟩ <;> simp only [Int.reduceMul] <;> omega
theorem meanV_fine {of : Int → Int → Int × Int} (ho : ∀ s, s = 1 ∨ s = 2 ∨ s = 4 ∨ s = 8 → OfOk (of s)) (hr : ∀ s, s = 1 ∨ s = 2 ∨ s = 4 → Rel4 (of s) (of (2 * s))) {p : PN} {x : P3} {d : Int}
    (h : (meanV of p x d).2 = 0) (h1 : (meanV of p x (d + 1)).2 ≠ 1) : (meanV of p x (d + 1)).2 = 0 ∧ vs (meanV of p x (d + 1)).1 ∧ vs (meanV of p x d).1 ∧ ins (meanV of p x (d + 1)).1 (meanV of p x d).1 := by
  obtain ⟨hc, hv⟩ := meanV_vs ho h
  obtain ⟨g1, g2, g3⟩ := ck_ok hc
  have hd : d ≤ 2 := by
    rcases Int.lt_or_le 2 d with h' | h'
    · exfalso; apply h1
      unfold meanV ck
      rw [if_pos g1, if_neg (by omega), if_neg (by omega)]
    · exact h'
  have hc' : ck p x (d + 1) = 0 := by unfold ck; rw [if_pos g1, if_pos ⟨g2, by omega⟩]
  have e : meanV of p x d = meanS (of (sc d)) p x d := by unfold meanV; rw [if_pos hc]
  have e' : meanV of p x (d + 1) = meanS (of (sc (d + 1))) p x (d + 1) := by unfold meanV; rw [if_pos hc']
  rw [e] at h
  obtain ⟨k1, k2⟩ := meanS_fine hr (vp_ok g1).1 ⟨g3.1, hd⟩ h
  rw [← e'] at k1
  exact ⟨k1, (meanV_vs ho k1).2, hv, by rw [e, e']; exact k2⟩
theorem scl_ins {a b : Int × Int} (h : ins b a) (hb : b.1 ≤ b.2) (n : Int) : ins (scl b n) (scl a n) ∧ (scl b n).1 ≤ (scl b n).2 := by
  unfold ins scl at *
  by_cases hn : n < 0
  · rw [if_pos hn, if_pos hn]; exact ⟨⟨sat_anti h.2 (by omega), sat_anti h.1 (by omega)⟩, sat_anti hb (by omega)⟩
  · rw [if_neg hn, if_neg hn]; exact ⟨⟨sat_mono h.1 (by omega), sat_mono h.2 (by omega)⟩, sat_mono hb (by omega)⟩
theorem angV_fine {p : PN} {x : P3} {d : Int} (h : (angV p x d).2 = 0) (h1 : (angV p x (d + 1)).2 ≠ 1) :
    (angV p x (d + 1)).2 = 0 ∧ vs (angV p x (d + 1)).1 ∧ vs (angV p x d).1 ∧ ins (angV p x (d + 1)).1 (angV p x d).1 := by
  have hm : (meanV of3 p x d).2 = 0 := by
    by_cases hm : (meanV of3 p x d).2 = 0
    · exact hm
    · unfold angV at h; rw [if_neg hm] at h; exact absurd h hm
  have hm1 : (meanV of3 p x (d + 1)).2 ≠ 1 := by
    intro hm1
    apply h1
    unfold angV; rw [if_neg (by rw [hm1]; omega)]; exact hm1
  obtain ⟨k1, k2, k3, k4⟩ := meanV_fine of3_all (fun s hs => rel3 hs) hm hm1
  obtain ⟨j1, j2⟩ := scl_ins k4 k2.2.1 (ht p x)
  have hs : vs (scl (meanV of3 p x d).1 (ht p x)) := by
    unfold angV angR at h
    rw [if_pos hm] at h
    split at h
    · assumption
    · cases h
  have hs' : vs (scl (meanV of3 p x (d + 1)).1 (ht p x)) := by unfold vs ins at *; omega
  have e : angV p x d = (hlf (scl (meanV of3 p x d).1 (ht p x)), 0) := by unfold angV angR; rw [if_pos hm, if_pos hs]
  have e' : angV p x (d + 1) = (hlf (scl (meanV of3 p x (d + 1)).1 (ht p x)), 0) := by unfold angV angR; rw [if_pos k1, if_pos hs']
  rw [e, e']
  refine ⟨rfl, hlf_ok hs', hlf_ok hs, ?_⟩
  unfold ins hlf at *; simp only; omega

end Go.Proofs.Ytopbnnmkdildgaa
