/-
  A part of the proofs of the Field laws: what functions of the program compute, and that it is what the statements ask. No premise.
-/
import Derived.Test.YtopbnnmkdildgaaMh
namespace Go.Proofs.Ytopbnnmkdildgaa
open Go.Proofs Go.Aw Go.RowKit
set_option maxRecDepth 100000
set_option linter.unusedVariables false
set_option linter.unusedSimpArgs false

/-! ### Between -/
def fa3 (c q : PN) : Int := mx (mx (mx (mx (mx (mx (mx (mx (mx 0 (ds c.1 q.1)) (ds c.1 q.2.1)) (ds c.1 q.2.2)) (ds c.2.1 q.1)) (ds c.2.1 q.2.1)) (ds c.2.1 q.2.2)) (ds c.2.2 q.1)) (ds c.2.2 q.2.1)) (ds c.2.2 q.2.2)
def ne3 (c q : PN) : Int := nr (blo c) (bhi c) (blo q) (bhi q)
theorem fa3_f {c q : PN} (hc : bdP 5000 c) (hq : bdP 5000 q) : F107_L_L [(F105 c).1, (F105 c).2.1, (F105 c).2.2] [(F105 q).1, (F105 q).2.1, (F105 q).2.2] = fa3 c q := by
  refine (farF3 c q.1 q.2.1 q.2.2).trans ?_
  rw [fF_eq hc.1 hq.1, fF_eq hc.1 hq.2.1, fF_eq hc.1 hq.2.2, fF_eq hc.2.1 hq.1, fF_eq hc.2.1 hq.2.1, fF_eq hc.2.1 hq.2.2, fF_eq hc.2.2 hq.1, fF_eq hc.2.2 hq.2.1, fF_eq hc.2.2 hq.2.2]; rfl
theorem ne3_f {c q : PN} (hc : bdP 5000 c) (hq : bdP 5000 q) : F106_3_3 (F105 c) (F105 q) = ne3 c q := near33 hc hq
theorem fa3_bd {c q : PN} (hc : bdP 5000 c) (hq : bdP 5000 q) : fa3 c q ≤ 300000000 :=
  mx_le (mx_le (mx_le (mx_le (mx_le (mx_le (mx_le (mx_le (mx_le (by omega) (ds_bd hc.1 hq.1).2) (ds_bd hc.1 hq.2.1).2) (ds_bd hc.1 hq.2.2).2) (ds_bd hc.2.1 hq.1).2) (ds_bd hc.2.1 hq.2.1).2) (ds_bd hc.2.1 hq.2.2).2) (ds_bd hc.2.2 hq.1).2) (ds_bd hc.2.2 hq.2.1).2) (ds_bd hc.2.2 hq.2.2).2
theorem fa3_ge (c q : PN) : ds c.1 q.1 ≤ fa3 c q ∧ ds c.2.1 q.1 ≤ fa3 c q ∧ ds c.2.2 q.1 ≤ fa3 c q := by
  refine ⟨?_, ?_, ?_⟩
  · exact Int.le_trans (le_mx2 _ _) (Int.le_trans (le_mx1 _ _) (Int.le_trans (le_mx1 _ _) (Int.le_trans (le_mx1 _ _) (Int.le_trans (le_mx1 _ _) (Int.le_trans (le_mx1 _ _) (Int.le_trans (le_mx1 _ _) (Int.le_trans (le_mx1 _ _) (le_mx1 _ _))))))))
  · exact Int.le_trans (le_mx2 _ _) (Int.le_trans (le_mx1 _ _) (Int.le_trans (le_mx1 _ _) (Int.le_trans (le_mx1 _ _) (Int.le_trans (le_mx1 _ _) (le_mx1 _ _)))))
  · exact Int.le_trans (le_mx2 _ _) (Int.le_trans (le_mx1 _ _) (le_mx1 _ _))
theorem gp_le2 {a b c d x y : Int} (h1 : a ≤ x) (h2 : x ≤ b) (h3 : c ≤ y) (h4 : y ≤ d) : gp a b c d * gp a b c d ≤ (x - y) * (x - y) := by
  refine sq_le (gp_nn _ _ _ _) ?_
  unfold gp mx
  (repeat' split) <;> omega
theorem ne3_le (c q : PN) : 0 ≤ ne3 c q ∧ ne3 c q ≤ fa3 c q := by
  refine ⟨nr_nn _ _ _ _, Int.le_trans ?_ (fa3_ge c q).1⟩
  have h1 := gp_le2 (lo3_le c.1.1 c.2.1.1 c.2.2.1).1 (le_hi3 c.1.1 c.2.1.1 c.2.2.1).1 (lo3_le q.1.1 q.2.1.1 q.2.2.1).1 (le_hi3 q.1.1 q.2.1.1 q.2.2.1).1
  have h2 := gp_le2 (lo3_le c.1.2.1 c.2.1.2.1 c.2.2.2.1).1 (le_hi3 c.1.2.1 c.2.1.2.1 c.2.2.2.1).1 (lo3_le q.1.2.1 q.2.1.2.1 q.2.2.2.1).1 (le_hi3 q.1.2.1 q.2.1.2.1 q.2.2.2.1).1
  have h3 := gp_le2 (lo3_le c.1.2.2 c.2.1.2.2 c.2.2.2.2).1 (le_hi3 c.1.2.2 c.2.1.2.2 c.2.2.2.2).1 (lo3_le q.1.2.2 q.2.1.2.2 q.2.2.2.2).1 (le_hi3 q.1.2.2 q.2.1.2.2 q.2.2.2.2).1
  unfold ne3 nr ds dt sb
  simp only [blo, bhi]
  omega
/-! the normal of a part is the panel's -/
theorem sb2 (a b c : P3) : sb (2 * a.1, 2 * a.2.1, 2 * a.2.2) (a.1 + b.1, a.2.1 + b.2.1, a.2.2 + b.2.2) = sb a b := by unfold sb; simp only [Prod.mk.injEq]; omega
theorem nrm_quad {x y : PN} (h : bdP 100000 x) (hy : y ∈ quad x) : nrm y = nrm x := by
  unfold quad q1 q2 q3 q4 at hy
  rw [mid_f h.1 h.2.1, mid_f h.2.2 h.1, mid_f h.2.1 h.2.2, times_f h.1, times_f h.2.1, times_f h.2.2] at hy
  simp only [List.mem_cons, List.mem_nil_iff, or_false] at hy
  unfold nrm cr sb
  rcases hy with rfl | rfl | rfl | rfl <;> simp only [Prod.mk.injEq] <;> refine ⟨?_, ?_, ?_⟩ <;> grind
theorem nrm_cut : ∀ (d : Nat) {m : Int} {p x : PN}, bdP m p → m * 2 ^ d ≤ 100000 → 0 ≤ m → x ∈ cutL d p → nrm x = nrm p
  | 0, m, p, x, h, _, _, hx => by simp [cutL] at hx; subst hx; rfl
  | d + 1, m, p, x, h, hm, h0, hx => by
    rw [cutL_quad, List.mem_flatMap] at hx
    obtain ⟨y, hy, hx⟩ := hx
    have hp : (0 : Int) < 2 ^ d := Int.pow_pos (by omega)
    have hle : m * 2 ^ d ≤ m * 2 ^ (d + 1) := Int.mul_le_mul_of_nonneg_left (by rw [Int.pow_succ]; omega) h0
    have hb := cutL_bd d h (by omega) h0 hy
    rw [nrm_quad (hb.mono (by omega)) hx, nrm_cut d h (by omega) h0 hy]
theorem nrm_in {p c : PN} {d : Int} (hp : bdP 64 p) (hd : 0 ≤ d ∧ d ≤ 3) (hc : c ∈ cutL d.toNat p) : nrm c = nrm p := by
  have : d.toNat = 0 ∨ d.toNat = 1 ∨ d.toNat = 2 ∨ d.toNat = 3 := by omega
  rcases this with h | h | h | h <;> rw [h] at hc <;> exact nrm_cut (m := 64) _ hp (by decide) (by decide) hc
/-- the squared normal is small where all corners are near -/
theorem nn_far (c : PN) (x : P3) {R : Int} (h1 : ds c.1 x ≤ R) (h2 : ds c.2.1 x ≤ R) (h3 : ds c.2.2 x ≤ R) : dt (nrm c) (nrm c) ≤ (4 * R) * (4 * R) := by
  have lag : ∀ u v : P3, dt (cr u v) (cr u v) ≤ dt u u * dt v v := by
    intro u v
    have h := sq_nn (dt u v)
    have e : dt (cr u v) (cr u v) + dt u v * dt u v = dt u u * dt v v := by
      unfold dt cr; grind
    omega
  have par : ∀ a b : P3, dt (sb a b) (sb a b) ≤ 2 * ds a x + 2 * ds b x := by
    intro a b
    have k : ∀ s t y : Int, (s - t) * (s - t) ≤ 2 * ((s - y) * (s - y)) + 2 * ((t - y) * (t - y)) := by
      intro s t y
      have := sq_nn (s + t - 2 * y)
      grind
    have k1 := k a.1 b.1 x.1; have k2 := k a.2.1 b.2.1 x.2.1; have k3 := k a.2.2 b.2.2 x.2.2
    unfold ds dt sb; simp only; omega
  have p1 := par c.2.1 c.1; have p2 := par c.2.2 c.1
  refine Int.le_trans (lag _ _) (Int.mul_le_mul (by omega) (by omega) (dt_self _) ?_)
  have := dt_self (sb c.1 x)
  unfold ds at *; omega
theorem NN_sc (d : Int) : NN (sc d) = sc d * sc d * 1099511627776 := rfl
/-! sums of bounds -/
def accS (lo hi : PN → Int) : List PN → Int × Int → Int × Int
  | [], v => v
  | c :: l, v => accS lo hi l (v.1 + lo c, v.2 + hi c)
theorem okv_add {lo hi : Int} {v : Int × Int} {n : Nat} (h : okv v (n + 1)) (h1 : 0 ≤ lo ∧ lo ≤ hi ∧ hi ≤ 536870913) : okv (v.1 + lo, v.2 + hi) n := by
  unfold okv at *; simp only; omega
theorem accS_ok {lo hi : PN → Int} : ∀ {l : List PN} {v : Int × Int}, (∀ c ∈ l, 0 ≤ lo c ∧ lo c ≤ hi c ∧ hi c ≤ 536870913) → okv v l.length → okv (accS lo hi l v) 0
  | [], v, _, h => h
  | c :: l, v, hl, h => accS_ok (l := l) (fun c hc => hl c (List.mem_cons_of_mem _ hc)) (okv_add h (hl c List.mem_cons_self))
theorem accS_foldl {lo hi : PN → Int} {S : Int × Int → PN → Int × Int} : ∀ {l : List PN} {v : Int × Int}, (∀ c ∈ l, 0 ≤ lo c ∧ lo c ≤ hi c ∧ hi c ≤ 536870913) →
    (∀ c ∈ l, ∀ v : Int × Int, S v c = (W (v.1 + lo c), W (v.2 + hi c))) → okv v l.length → l.foldl S v = accS lo hi l v
  | [], v, _, _, _ => rfl
  | c :: l, v, hl, hS, h => by
    have h1 := okv_add h (hl c List.mem_cons_self)
    have h2 := h1
    unfold okv at h2; simp only at h2
    rw [List.foldl_cons, hS c List.mem_cons_self v, W_eq (by omega) (by omega), W_eq (by omega) (by omega)]
    exact accS_foldl (l := l) (fun c hc => hl c (List.mem_cons_of_mem _ hc)) (fun c hc => hS c (List.mem_cons_of_mem _ hc)) h1
theorem accS_loopF {lo hi : PN → Int} {S : Int × Int × Int → (Int × Int × Int) ⊕ (Int × Int)} {G : Int × Int → Int × Int} {L : List PN} (hl : ∀ c ∈ L, 0 ≤ lo c ∧ lo c ≤ hi c ∧ hi c ≤ 536870913)
    (hS : ∀ (i : Nat) (c : PN), L[i]? = some c → ∀ v1 v2 : Int, S (v1, v2, (i : Int)) = .inl (W (v1 + lo c), W (v2 + hi c), ((i + 1 : Nat) : Int)))
    (hE : ∀ v1 v2 : Int, S (v1, v2, (L.length : Int)) = .inr (G (v1, v2))) :
    ∀ (l : List PN) (i n : Nat) (v : Int × Int), L.drop i = l → i ≤ L.length → l.length < n → okv v l.length → loopF S n (v.1, v.2, (i : Int)) = G (accS lo hi l v)
  | [], i, n, v, hd, hi', hn, h => by
    have : i = L.length := by have := List.drop_eq_nil_iff.1 hd; omega
    obtain ⟨n, rfl⟩ : ∃ m, n = m + 1 := ⟨n - 1, by simp only [List.length_nil] at hn; omega⟩
    subst this
    rw [loopF_inr (hE _ _)]; rfl
  | c :: l, i, n, v, hd, hi', hn, h => by
    have hc : L[i]? = some c := by
      have : (L.drop i)[0]? = some c := by rw [hd]; rfl
      simpa using this
    obtain ⟨hlt, hce⟩ := List.getElem?_eq_some_iff.1 hc
    obtain ⟨n, rfl⟩ : ∃ m, n = m + 1 := ⟨n - 1, by omega⟩
    have h1 := okv_add h (hl c (hce ▸ List.getElem_mem hlt))
    have h2 := h1
    unfold okv at h2; simp only at h2
    rw [loopF_inl (hS i c hc v.1 v.2), W_eq (by omega) (by omega), W_eq (by omega) (by omega)]
    exact accS_loopF hl hS hE l (i + 1) n _ (by rw [← List.drop_drop, hd]; rfl) (by omega) (by simp only [List.length_cons] at hn; omega) h1
/-- the bounds of what a part gives -/
noncomputable def bLo (d : Int) (q c : PN) : Int := (of1 (sc d) (fa3 c q)).1
noncomputable def bHi (R d : Int) (q c : PN) : Int := if 0 < ne3 c q then (if (of1 (sc d) (ne3 c q)).2 < R then (of1 (sc d) (ne3 c q)).2 else R) else R
section
variable {p q : PN} {d : Int}
end
def tmP (s : Int) (q : PN) : PN := (tm s q.1, tm s q.2.1, tm s q.2.2)
theorem tmP_bd {q : PN} {s : Int} (hs : 1 ≤ s ∧ s ≤ 8) (hq : bdP 64 q) : bdP 5000 (tmP s q) :=
  ⟨(bd_tm hs (by omega) hq.1).mono (by omega), (bd_tm hs (by omega) hq.2.1).mono (by omega), (bd_tm hs (by omega) hq.2.2).mono (by omega)⟩
end Go.Proofs.Ytopbnnmkdildgaa
