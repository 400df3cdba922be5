/-
  A part of the proofs of the Field laws: what functions of the program compute, and that it is what the statements ask. No premise.
-/
import Derived.Test.YtjlekmjnkpcnoaaMh
namespace Go.Proofs.Ytjlekmjnkpcnoaa
open Go.Proofs Go.Aw Go.RowKit
set_option maxRecDepth 100000
set_option linter.unusedVariables false
set_option linter.unusedSimpArgs false

/-! ### Between -/
def fa3 (c q : PN) : Int := mx (mx (mx (mx (mx (mx (mx (mx (mx 0 (ds c.1 q.1)) (ds c.1 q.2.1)) (ds c.1 q.2.2)) (ds c.2.1 q.1)) (ds c.2.1 q.2.1)) (ds c.2.1 q.2.2)) (ds c.2.2 q.1)) (ds c.2.2 q.2.1)) (ds c.2.2 q.2.2)
def ne3 (c q : PN) : Int := nr (blo c) (bhi c) (blo q) (bhi q)
theorem fa3_f {c q : PN} (hc : bdP 5000 c) (hq : bdP 5000 q) : F110_L_L [(F108 c).1, (F108 c).2.1, (F108 c).2.2] [(F108 q).1, (F108 q).2.1, (F108 q).2.2] = fa3 c q := by
  refine (farF3 c q.1 q.2.1 q.2.2).trans ?_
  rw [fF_eq hc.1 hq.1, fF_eq hc.1 hq.2.1, fF_eq hc.1 hq.2.2, fF_eq hc.2.1 hq.1, fF_eq hc.2.1 hq.2.1, fF_eq hc.2.1 hq.2.2, fF_eq hc.2.2 hq.1, fF_eq hc.2.2 hq.2.1, fF_eq hc.2.2 hq.2.2]; rfl
theorem fa3_r {c q : PN} (hc : bdP 5000 c) (hq : bdP 5000 q) : F97_L c [q.1, q.2.1, q.2.2] = fa3 c q := by
  rw [farR3, rF_eq hc.1 hq.1, rF_eq hc.1 hq.2.1, rF_eq hc.1 hq.2.2, rF_eq hc.2.1 hq.1, rF_eq hc.2.1 hq.2.1, rF_eq hc.2.1 hq.2.2, rF_eq hc.2.2 hq.1, rF_eq hc.2.2 hq.2.1, rF_eq hc.2.2 hq.2.2, mx_comm9]; rfl
theorem ne3_f {c q : PN} (hc : bdP 5000 c) (hq : bdP 5000 q) : F109_3_3 (F108 c) (F108 q) = ne3 c q := near33 hc hq
theorem ne3_r {c q : PN} (hc : bdP 5000 c) (hq : bdP 5000 q) : F95_3 c q = ne3 c q := close3 hc hq
theorem fa3_bd {c q : PN} (hc : bdP 5000 c) (hq : bdP 5000 q) : fa3 c q ≤ 300000000 :=
  mx_le (mx_le (mx_le (mx_le (mx_le (mx_le (mx_le (mx_le (mx_le (by omega) (ds_bd hc.1 hq.1).2) (ds_bd hc.1 hq.2.1).2) (ds_bd hc.1 hq.2.2).2) (ds_bd hc.2.1 hq.1).2) (ds_bd hc.2.1 hq.2.1).2) (ds_bd hc.2.1 hq.2.2).2) (ds_bd hc.2.2 hq.1).2) (ds_bd hc.2.2 hq.2.1).2) (ds_bd hc.2.2 hq.2.2).2
theorem fa3_ge (c q : PN) : ds c.1 q.1 ≤ fa3 c q ∧ ds c.2.1 q.1 ≤ fa3 c q ∧ ds c.2.2 q.1 ≤ fa3 c q := by
  refine ⟨?_, ?_, ?_⟩
  · exact Int.le_trans (le_mx2 _ _) (Int.le_trans (le_mx1 _ _) (Int.le_trans (le_mx1 _ _) (Int.le_trans (le_mx1 _ _) (Int.le_trans (le_mx1 _ _) (Int.le_trans (le_mx1 _ _) (Int.le_trans (le_mx1 _ _) (Int.le_trans (le_mx1 _ _) (le_mx1 _ _))))))))
  · exact Int.le_trans (le_mx2 _ _) (Int.le_trans (le_mx1 _ _) (Int.le_trans (le_mx1 _ _) (Int.le_trans (le_mx1 _ _) (Int.le_trans (le_mx1 _ _) (le_mx1 _ _)))))
  · exact Int.le_trans (le_mx2 _ _) (Int.le_trans (le_mx1 _ _) (le_mx1 _ _))
theorem gp_le2 {a b c d x y : Int} (h1 : a ≤ x) (h2 : x ≤ b) (h3 : c ≤ y) (h4 : y ≤ d) : gp a b c d * gp a b c d ≤ (x - y) * (x - y) := by
  refine sq_le (gp_nn _ _ _ _) ?_
  unfold gp mx
  (repeat' split) <;> omega
theorem ne3_le (c q : PN) : 0 ≤ ne3 c q ∧ ne3 c q ≤ fa3 c q := by
  refine ⟨nr_nn _ _ _ _, Int.le_trans ?_ (fa3_ge c q).1⟩
  have h1 := gp_le2 (lo3_le c.1.1 c.2.1.1 c.2.2.1).1 (le_hi3 c.1.1 c.2.1.1 c.2.2.1).1 (lo3_le q.1.1 q.2.1.1 q.2.2.1).1 (le_hi3 q.1.1 q.2.1.1 q.2.2.1).1
  have h2 := gp_le2 (lo3_le c.1.2.1 c.2.1.2.1 c.2.2.2.1).1 (le_hi3 c.1.2.1 c.2.1.2.1 c.2.2.2.1).1 (lo3_le q.1.2.1 q.2.1.2.1 q.2.2.2.1).1 (le_hi3 q.1.2.1 q.2.1.2.1 q.2.2.2.1).1
  have h3 := gp_le2 (lo3_le c.1.2.2 c.2.1.2.2 c.2.2.2.2).1 (le_hi3 c.1.2.2 c.2.1.2.2 c.2.2.2.2).1 (lo3_le q.1.2.2 q.2.1.2.2 q.2.2.2.2).1 (le_hi3 q.1.2.2 q.2.1.2.2 q.2.2.2.2).1
  unfold ne3 nr ds dt sb
  simp only [blo, bhi]
  omega
/-! the normal of a part is the panel's -/
theorem sb2 (a b c : P3) : sb (2 * a.1, 2 * a.2.1, 2 * a.2.2) (a.1 + b.1, a.2.1 + b.2.1, a.2.2 + b.2.2) = sb a b := by unfold sb; simp only [Prod.mk.injEq]; omega
theorem nrm_quad {x y : PN} (h : bdP 100000 x) (hy : y ∈ quad x) : nrm y = nrm x := by
  unfold quad q1 q2 q3 q4 at hy
  rw [mid_f h.1 h.2.1, mid_f h.2.2 h.1, mid_f h.2.1 h.2.2, times_f h.1, times_f h.2.1, times_f h.2.2] at hy
  simp only [List.mem_cons, List.mem_nil_iff, or_false] at hy
  unfold nrm cr sb
  rcases hy with rfl | rfl | rfl | rfl <;> simp only [Prod.mk.injEq] <;> refine ⟨?_, ?_, ?_⟩ <;> grind
theorem nrm_cut : ∀ (d : Nat) {m : Int} {p x : PN}, bdP m p → m * 2 ^ d ≤ 100000 → 0 ≤ m → x ∈ cutL d p → nrm x = nrm p
  | 0, m, p, x, h, _, _, hx => by simp [cutL] at hx; subst hx; rfl
  | d + 1, m, p, x, h, hm, h0, hx => by
    rw [cutL_quad, List.mem_flatMap] at hx
    obtain ⟨y, hy, hx⟩ := hx
    have hp : (0 : Int) < 2 ^ d := Int.pow_pos (by omega)
    have hle : m * 2 ^ d ≤ m * 2 ^ (d + 1) := Int.mul_le_mul_of_nonneg_left (by rw [Int.pow_succ]; omega) h0
    have hb := cutL_bd d h (by omega) h0 hy
    rw [nrm_quad (hb.mono (by omega)) hx, nrm_cut d h (by omega) h0 hy]
theorem nrm_in {p c : PN} {d : Int} (hp : bdP 64 p) (hd : 0 ≤ d ∧ d ≤ 3) (hc : c ∈ cutL d.toNat p) : nrm c = nrm p := by
  have : d.toNat = 0 ∨ d.toNat = 1 ∨ d.toNat = 2 ∨ d.toNat = 3 := by omega
  rcases this with h | h | h | h <;> rw [h] at hc <;> exact nrm_cut (m := 64) _ hp (by decide) (by decide) hc
/-- the squared normal is small where all corners are near -/
theorem nn_far (c : PN) (x : P3) {R : Int} (h1 : ds c.1 x ≤ R) (h2 : ds c.2.1 x ≤ R) (h3 : ds c.2.2 x ≤ R) : dt (nrm c) (nrm c) ≤ (4 * R) * (4 * R) := by
  have lag : ∀ u v : P3, dt (cr u v) (cr u v) ≤ dt u u * dt v v := by
    intro u v
    have h := sq_nn (dt u v)
    have e : dt (cr u v) (cr u v) + dt u v * dt u v = dt u u * dt v v := by
      unfold dt cr; grind
    omega
  have par : ∀ a b : P3, dt (sb a b) (sb a b) ≤ 2 * ds a x + 2 * ds b x := by
    intro a b
    have k : ∀ s t y : Int, (s - t) * (s - t) ≤ 2 * ((s - y) * (s - y)) + 2 * ((t - y) * (t - y)) := by
      intro s t y
      have := sq_nn (s + t - 2 * y)
      grind
    have k1 := k a.1 b.1 x.1; have k2 := k a.2.1 b.2.1 x.2.1; have k3 := k a.2.2 b.2.2 x.2.2
    unfold ds dt sb; simp only; omega
  have p1 := par c.2.1 c.1; have p2 := par c.2.2 c.1
  refine Int.le_trans (lag _ _) (Int.mul_le_mul (by omega) (by omega) (dt_self _) ?_)
  have := dt_self (sb c.1 x)
  unfold ds at *; omega
theorem NN_sc (d : Int) : NN (sc d) = sc d * sc d * 1099511627776 := rfl
theorem low_rim {p c : PN} {d : Int} (hp : vp p = 0) (hd : 0 ≤ d ∧ d ≤ 3) (hc : c ∈ cutL d.toNat p) (x : P3) {R : Int} (h1 : ds c.1 x ≤ R) (h2 : ds c.2.1 x ≤ R) (h3 : ds c.2.2 x ≤ R) : (of1 (sc d) R).1 ≤ F54 p d := by
  obtain ⟨r, hr, r1, r2, hu, _⟩ := rim_spec hp hd
  have hR : 0 ≤ R := Int.le_trans (dt_self _) h1
  have hn := nn_far c x h1 h2 h3
  rw [nrm_in (vp_ok hp).1 hd hc] at hn
  have h4 : r ≤ 4 * R := by
    rcases Int.lt_or_le (4 * R) r with h | h
    · have := Int.mul_le_mul (show 4 * R + 1 ≤ r by omega) (show 4 * R + 1 ≤ r by omega) (by omega) hr.1
      have e : (4 * R + 1) * (4 * R + 1) = (4 * R) * (4 * R) + 8 * R + 1 := by grind
      have := hr.2.1; omega
    · exact h
  unfold of1
  rw [if_neg (by omega)]
  obtain ⟨k, hk, _, k0, k1, k2, k3, k4, k5⟩ := inv_facts (NN_bd (sc_in d)) (show 1 ≤ R by omega)
  unfold inv
  rw [hk]
  simp only
  rcases Int.lt_or_le (F54 p d) k with h | h
  · exfalso
    obtain ⟨u1, _⟩ := cq_facts (t := top d) (b := 128 * r) (by omega)
    have v0 := hu.1; have v1 := hu.2.1
    generalize F54 p d = m at *
    have e1 : cq (top d) (128 * r) * (128 * r) ≤ m * m * (128 * r) := Int.mul_le_mul_of_nonneg_right v1 (by omega)
    have e2 : m * m ≤ k * k := Int.mul_le_mul (by omega) (by omega) v0 k0
    have e3 : m * m * (128 * r) ≤ k * k * (512 * R) := Int.mul_le_mul e2 (by omega) (by omega) k2
    have e4 : k * k * (512 * R) = 512 * (k * k * R) := by grind
    rw [NN_sc] at k5
    have := cnt_in d
    unfold top at *
    omega
  · exact h
/-! sums of bounds -/
def accS (lo hi : PN → Int) : List PN → Int × Int → Int × Int
  | [], v => v
  | c :: l, v => accS lo hi l (v.1 + lo c, v.2 + hi c)
theorem okv_add {lo hi : Int} {v : Int × Int} {n : Nat} (h : okv v (n + 1)) (h1 : 0 ≤ lo ∧ lo ≤ hi ∧ hi ≤ 536870913) : okv (v.1 + lo, v.2 + hi) n := by
  unfold okv at *; simp only; omega
theorem accS_ok {lo hi : PN → Int} : ∀ {l : List PN} {v : Int × Int}, (∀ c ∈ l, 0 ≤ lo c ∧ lo c ≤ hi c ∧ hi c ≤ 536870913) → okv v l.length → okv (accS lo hi l v) 0
  | [], v, _, h => h
  | c :: l, v, hl, h => accS_ok (l := l) (fun c hc => hl c (List.mem_cons_of_mem _ hc)) (okv_add h (hl c List.mem_cons_self))
theorem accS_foldl {lo hi : PN → Int} {S : Int × Int → PN → Int × Int} : ∀ {l : List PN} {v : Int × Int}, (∀ c ∈ l, 0 ≤ lo c ∧ lo c ≤ hi c ∧ hi c ≤ 536870913) →
    (∀ c ∈ l, ∀ v : Int × Int, S v c = (W (v.1 + lo c), W (v.2 + hi c))) → okv v l.length → l.foldl S v = accS lo hi l v
  | [], v, _, _, _ => rfl
  | c :: l, v, hl, hS, h => by
    have h1 := okv_add h (hl c List.mem_cons_self)
    have h2 := h1
    unfold okv at h2; simp only at h2
    rw [List.foldl_cons, hS c List.mem_cons_self v, W_eq (by omega) (by omega), W_eq (by omega) (by omega)]
    exact accS_foldl (l := l) (fun c hc => hl c (List.mem_cons_of_mem _ hc)) (fun c hc => hS c (List.mem_cons_of_mem _ hc)) h1
theorem accS_loopF {lo hi : PN → Int} {S : Int × Int × Int → (Int × Int × Int) ⊕ (Int × Int)} {G : Int × Int → Int × Int} {L : List PN} (hl : ∀ c ∈ L, 0 ≤ lo c ∧ lo c ≤ hi c ∧ hi c ≤ 536870913)
    (hS : ∀ (i : Nat) (c : PN), L[i]? = some c → ∀ v1 v2 : Int, S (v1, v2, (i : Int)) = .inl (W (v1 + lo c), W (v2 + hi c), ((i + 1 : Nat) : Int)))
    (hE : ∀ v1 v2 : Int, S (v1, v2, (L.length : Int)) = .inr (G (v1, v2))) :
    ∀ (l : List PN) (i n : Nat) (v : Int × Int), L.drop i = l → i ≤ L.length → l.length < n → okv v l.length → loopF S n (v.1, v.2, (i : Int)) = G (accS lo hi l v)
  | [], i, n, v, hd, hi', hn, h => by
    have : i = L.length := by have := List.drop_eq_nil_iff.1 hd; omega
    obtain ⟨n, rfl⟩ : ∃ m, n = m + 1 := ⟨n - 1, by simp only [List.length_nil] at hn; omega⟩
    subst this
    rw [loopF_inr (hE _ _)]; rfl
  | c :: l, i, n, v, hd, hi', hn, h => by
    have hc : L[i]? = some c := by
      have : (L.drop i)[0]? = some c := by rw [hd]; rfl
      simpa using this
    obtain ⟨hlt, hce⟩ := List.getElem?_eq_some_iff.1 hc
    obtain ⟨n, rfl⟩ : ∃ m, n = m + 1 := ⟨n - 1, by omega⟩
    have h1 := okv_add h (hl c (hce ▸ List.getElem_mem hlt))
    have h2 := h1
    unfold okv at h2; simp only at h2
    rw [loopF_inl (hS i c hc v.1 v.2), W_eq (by omega) (by omega), W_eq (by omega) (by omega)]
    exact accS_loopF hl hS hE l (i + 1) n _ (by rw [← List.drop_drop, hd]; rfl) (by omega) (by simp only [List.length_cons] at hn; omega) h1
/-- the bounds of what a part gives -/
noncomputable def bLo (d : Int) (q c : PN) : Int := (of1 (sc d) (fa3 c q)).1
noncomputable def bHi (R d : Int) (q c : PN) : Int := if 0 < ne3 c q then (if (of1 (sc d) (ne3 c q)).2 < R then (of1 (sc d) (ne3 c q)).2 else R) else R
theorem b_ok {p q : PN} {d : Int} (hp : vp p = 0) (hd : 0 ≤ d ∧ d ≤ 3) : ∀ c ∈ cutL d.toNat p, 0 ≤ bLo d q c ∧ bLo d q c ≤ bHi (F54 p d) d q c ∧ bHi (F54 p d) d q c ≤ 536870913 := by
  intro c hc
  obtain ⟨_, _, _, _, _, hub⟩ := rim_spec hp hd
  have ho := of1_ok (sc_in d)
  obtain ⟨g1, g2, g3⟩ := fa3_ge c q
  have hl := low_rim hp hd hc q.1 g1 g2 g3
  have hn := ne3_le c q
  have h0 := ho.lo (fa3 c q)
  unfold bLo bHi
  split
  · rename_i hz
    have h1 := ho.mono (ne3 c q) (fa3 c q) (by omega) hn.2; have h2 := ho.le (ne3 c q)
    split <;> omega
  · omega
noncomputable def betS (p q : PN) (d : Int) : Int × Int := avg (accS (bLo d q) (bHi (F54 p d) d q) (cutL d.toNat p) (0, 0)) (sc d * sc d)
section
variable {p q : PN} {d : Int}
theorem bet_f (hp : vp p = 0) (hq : bdP 5000 q) (hd : 0 ≤ d ∧ d ≤ 3) : F63 p q d = betS p q d := by
  have hk := okv_0 (p := p) hd
  have hb := b_ok (q := q) hp hd
  unfold F63 betS
  rw [accS_foldl hb (fun c hc v => ?_) hk]
  · show F111 _ _ _ = _
    rw [cnt_f hd, avg_f (cnt_in d) (accS_ok hb hk)]
  · have hcb := (cutL_in (vp_ok hp).1 hd hc).mono (show (512 : Int) ≤ 5000 by omega)
    obtain ⟨v1, v2⟩ := v
    have h1 := fa3_bd hcb hq; have h2 := ne3_le c q
    simp only [S63_r]
    rw [sc_f hd, ne3_f hcb hq, fa3_f hcb hq, one_f (sc_in d) (by omega), one_f (sc_in d) (by omega)]
    unfold bLo bHi
    by_cases h : 0 < ne3 c q
    · rw [if_pos h, decide_eq_true (show ne3 c q > 0 from h), cond_true]
    · rw [if_neg h, decide_eq_false (show ¬ ne3 c q > 0 from h), cond_false]
theorem bet_r (hp : vp p = 0) (hq : bdP 5000 q) (hd : 0 ≤ d ∧ d ≤ 3) : F66 p d q = betS p q d := by
  have hk := okv_0 (p := p) hd
  have hb := b_ok (q := q) hp hd
  have hL := cutR (vp_ok hp).1 hd
  have hl := cnt_len hd p
  unfold F66 betS
  rw [show ((0, 0, 0) : Int × Int × Int) = (((0, 0) : Int × Int).1, ((0, 0) : Int × Int).2, ((0 : Nat) : Int)) from rfl,
    accS_loopF hb (S := S66_0 p d q) (G := fun v => (F99 v.1 (sc d * sc d), F100 v.2 (sc d * sc d))) (fun i c hi v1 v2 => ?_) (fun v1 v2 => ?_) (cutL d.toNat p) 0 _ (0, 0) rfl (Nat.zero_le _) (by rw [hL]; omega) hk]
  · have hu := accS_ok hb hk
    unfold okv at hu
    rw [dn_r (cnt_in d) (by omega), up_r (cnt_in d) (by omega)]; rfl
  · obtain ⟨hlt, hc⟩ := List.getElem?_eq_some_iff.1 hi
    have hm : c ∈ cutL d.toNat p := hc ▸ List.getElem_mem hlt
    have hcb := (cutL_in (vp_ok hp).1 hd hm).mono (show (512 : Int) ≤ 5000 by omega)
    have hg : (cutL d.toNat p).getD i default = c := by rw [List.getD_eq_getElem?_getD, hi]; rfl
    have h1 := fa3_bd hcb hq; have h2 := ne3_le c q
    simp only [S66_0]
    rw [hL, decide_eq_true (show ((i : Nat) : Int) < ((cutL d.toNat p).length : Nat) by omega), cond_true, Int.toNat_natCast, hg, sc_r hd, ne3_r hcb hq, fa3_r hcb hq, one_r (sc_in d) (by omega), one_r (sc_in d) (by omega), rim_eq hp hd]
    unfold bLo bHi
    by_cases h : 0 < ne3 c q
    · rw [if_pos h, decide_eq_true (show ne3 c q > 0 from h), cond_true]; rfl
    · rw [if_neg h, decide_eq_false (show ¬ ne3 c q > 0 from h), cond_false]; rfl
  · simp only [S66_0]
    rw [hL, decide_eq_false (Int.lt_irrefl _), cond_false, hl]
end
def tmP (s : Int) (q : PN) : PN := (tm s q.1, tm s q.2.1, tm s q.2.2)
theorem tmP_bd {q : PN} {s : Int} (hs : 1 ≤ s ∧ s ≤ 8) (hq : bdP 64 q) : bdP 5000 (tmP s q) :=
  ⟨(bd_tm hs (by omega) hq.1).mono (by omega), (bd_tm hs (by omega) hq.2.1).mono (by omega), (bd_tm hs (by omega) hq.2.2).mono (by omega)⟩
theorem Between_eq (p q : PN) (d : Int) : F27 p q d = F28 p q d := by
  unfold F27 F28
  rw [pair_eq, paired_eq]
  by_cases h : pk p q d = 0
  · obtain ⟨h1, h2, h3⟩ := pk_ok h
    have hs := sc_bd d
    have hq := (vp_ok h2).1
    have hq' := hq.mono (show (64 : Int) ≤ 4096 by omega)
    have hd : 0 ≤ d ∧ d ≤ 3 := by omega
    rw [sc_f hd, sc_r hd, tm_f hs hq'.1, tm_f hs hq'.2.1, tm_f hs hq'.2.2, tm_r hs hq'.1, tm_r hs hq'.2.1, tm_r hs hq'.2.2]
    have e1 := bet_f h1 (tmP_bd hs hq) hd
    have e2 := bet_r h1 (tmP_bd hs hq) hd
    unfold tmP at e1 e2
    rw [e1, e2]
  · rw [bne_iff_ne.2 h, cond_true, cond_true]

end Go.Proofs.Ytjlekmjnkpcnoaa
