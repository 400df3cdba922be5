/-
  Parts of the proofs of the laws: the executor, what functions of the program compute, and that it is what the statements ask. No premise.
-/
import Derived.Test.YtopbnnmkdildgaaU3
namespace Go.Proofs.Ytopbnnmkdildgaa
open Go.Proofs Go.Aw Go.RowKit
set_option maxRecDepth 100000
set_option linter.unusedVariables false
set_option linter.unusedSimpArgs false

/-! ### Between -/
def fa3 (c q : PN) : Int := mx (mx (mx (mx (mx (mx (mx (mx (mx 0 (ds c.1 q.1)) (ds c.1 q.2.1)) (ds c.1 q.2.2)) (ds c.2.1 q.1)) (ds c.2.1 q.2.1)) (ds c.2.1 q.2.2)) (ds c.2.2 q.1)) (ds c.2.2 q.2.1)) (ds c.2.2 q.2.2)
def ne3 (c q : PN) : Int := nr (blo c) (bhi c) (blo q) (bhi q)
theorem fa3_f {c q : PN} (hc : bdP 5000 c) (hq : bdP 5000 q) : F107_L_L [(F105 c).1, (F105 c).2.1, (F105 c).2.2] [(F105 q).1, (F105 q).2.1, (F105 q).2.2] = fa3 c q := by
  refine (farF3 c q.1 q.2.1 q.2.2).trans ?_
  rw [fF_eq hc.1 hq.1, fF_eq hc.1 hq.2.1, fF_eq hc.1 hq.2.2, fF_eq hc.2.1 hq.1, fF_eq hc.2.1 hq.2.1, fF_eq hc.2.1 hq.2.2, fF_eq hc.2.2 hq.1, fF_eq hc.2.2 hq.2.1, fF_eq hc.2.2 hq.2.2]; rfl
theorem ne3_f {c q : PN} (hc : bdP 5000 c) (hq : bdP 5000 q) : F106_3_3 (F105 c) (F105 q) = ne3 c q := near33 hc hq
theorem fa3_bd {c q : PN} (hc : bdP 5000 c) (hq : bdP 5000 q) : fa3 c q ≤ 300000000 :=
  mx_le (mx_le (mx_le (mx_le (mx_le (mx_le (mx_le (mx_le (mx_le (by omega) (ds_bd hc.1 hq.1).2) (ds_bd hc.1 hq.2.1).2) (ds_bd hc.1 hq.2.2).2) (ds_bd hc.2.1 hq.1).2) (ds_bd hc.2.1 hq.2.1).2) (ds_bd hc.2.1 hq.2.2).2) (ds_bd hc.2.2 hq.1).2) (ds_bd hc.2.2 hq.2.1).2) (ds_bd hc.2.2 hq.2.2).2
theorem fa3_ge (c q : PN) : ds c.1 q.1 ≤ fa3 c q ∧ ds c.2.1 q.1 ≤ fa3 c q ∧ ds c.2.2 q.1 ≤ fa3 c q := by
  refine ⟨?_, ?_, ?_⟩
  · exact Int.le_trans (le_mx2 _ _) (Int.le_trans (le_mx1 _ _) (Int.le_trans (le_mx1 _ _) (Int.le_trans (le_mx1 _ _) (Int.le_trans (le_mx1 _ _) (Int.le_trans (le_mx1 _ _) (Int.le_trans (le_mx1 _ _) (Int.le_trans (le_mx1 _ _) (le_mx1 _ _))))))))
  · exact Int.le_trans (le_mx2 _ _) (Int.le_trans (le_mx1 _ _) (Int.le_trans (le_mx1 _ _) (Int.le_trans (le_mx1 _ _) (Int.le_trans (le_mx1 _ _) (le_mx1 _ _)))))
  · exact Int.le_trans (le_mx2 _ _) (Int.le_trans (le_mx1 _ _) (le_mx1 _ _))
theorem gp_le2 {a b c d x y : Int} (h1 : a ≤ x) (h2 : x ≤ b) (h3 : c ≤ y) (h4 : y ≤ d) : gp a b c d * gp a b c d ≤ (x - y) * (x - y) := by
  refine sq_le (gp_nn _ _ _ _) ?_
  unfold gp mx
  (repeat' split) <;> omega
theorem ne3_le (c q : PN) : 0 ≤ ne3 c q ∧ ne3 c q ≤ fa3 c q := by
  refine ⟨nr_nn _ _ _ _, Int.le_trans ?_ (fa3_ge c q).1⟩
  have h1 := gp_le2 (lo3_le c.1.1 c.2.1.1 c.2.2.1).1 (le_hi3 c.1.1 c.2.1.1 c.2.2.1).1 (lo3_le q.1.1 q.2.1.1 q.2.2.1).1 (le_hi3 q.1.1 q.2.1.1 q.2.2.1).1
  have h2 := gp_le2 (lo3_le c.1.2.1 c.2.1.2.1 c.2.2.2.1).1 (le_hi3 c.1.2.1 c.2.1.2.1 c.2.2.2.1).1 (lo3_le q.1.2.1 q.2.1.2.1 q.2.2.2.1).1 (le_hi3 q.1.2.1 q.2.1.2.1 q.2.2.2.1).1
  have h3 := gp_le2 (lo3_le c.1.2.2 c.2.1.2.2 c.2.2.2.2).1 (le_hi3 c.1.2.2 c.2.1.2.2 c.2.2.2.2).1 (lo3_le q.1.2.2 q.2.1.2.2 q.2.2.2.2).1 (le_hi3 q.1.2.2 q.2.1.2.2 q.2.2.2.2).1
  unfold ne3 nr ds dt sb
  simp only [blo, bhi]
  omega
/-! the normal of a part is the panel's -/
theorem sb2 (a b c : P3) : sb (2 * a.1, 2 * a.2.1, 2 * a.2.2) (a.1 + b.1, a.2.1 + b.2.1, a.2.2 + b.2.2) = sb a b := by unfold sb; simp only [Prod.mk.injEq]; omega
theorem nrm_quad {x y : PN} (h : bdP 100000 x) (hy : y ∈ quad x) : nrm y = nrm x := by
  unfold quad q1 q2 q3 q4 at hy
  rw [mid_f h.1 h.2.1, mid_f h.2.2 h.1, mid_f h.2.1 h.2.2, times_f h.1, times_f h.2.1, times_f h.2.2] at hy
  simp only [List.mem_cons, List.mem_nil_iff, or_false] at hy
  unfold nrm cr sb
  rcases hy with rfl | rfl | rfl | rfl <;> simp only [Prod.mk.injEq] <;> refine ⟨?_, ?_, ?_⟩ <;> grind
theorem nrm_cut : ∀ (d : Nat) {m : Int} {p x : PN}, bdP m p → m * 2 ^ d ≤ 100000 → 0 ≤ m → x ∈ cutL d p → nrm x = nrm p
  | 0, m, p, x, h, _, _, hx => by simp [cutL] at hx; subst hx; rfl
  | d + 1, m, p, x, h, hm, h0, hx => by
    rw [cutL_quad, List.mem_flatMap] at hx
    obtain ⟨y, hy, hx⟩ := hx
    have hp : (0 : Int) < 2 ^ d := Int.pow_pos (by omega)
    have hle : m * 2 ^ d ≤ m * 2 ^ (d + 1) := Int.mul_le_mul_of_nonneg_left (by rw [Int.pow_succ]; omega) h0
    have hb := cutL_bd d h (by omega) h0 hy
    rw [nrm_quad (hb.mono (by omega)) hx, nrm_cut d h (by omega) h0 hy]
theorem nrm_in {p c : PN} {d : Int} (hp : bdP 64 p) (hd : 0 ≤ d ∧ d ≤ 3) (hc : c ∈ cutL d.toNat p) : nrm c = nrm p := by
  have : d.toNat = 0 ∨ d.toNat = 1 ∨ d.toNat = 2 ∨ d.toNat = 3 := by omega
  rcases this with h | h | h | h <;> rw [h] at hc <;> exact nrm_cut (m := 64) _ hp (by decide) (by decide) hc
/-- the squared normal is small where all corners are near -/
theorem nn_far (c : PN) (x : P3) {R : Int} (h1 : ds c.1 x ≤ R) (h2 : ds c.2.1 x ≤ R) (h3 : ds c.2.2 x ≤ R) : dt (nrm c) (nrm c) ≤ (4 * R) * (4 * R) := by
  have lag : ∀ u v : P3, dt (cr u v) (cr u v) ≤ dt u u * dt v v := by
    intro u v
    have h := sq_nn (dt u v)
    have e : dt (cr u v) (cr u v) + dt u v * dt u v = dt u u * dt v v := by
      unfold dt cr; grind
    omega
  have par : ∀ a b : P3, dt (sb a b) (sb a b) ≤ 2 * ds a x + 2 * ds b x := by
    intro a b
    have k : ∀ s t y : Int, (s - t) * (s - t) ≤ 2 * ((s - y) * (s - y)) + 2 * ((t - y) * (t - y)) := by
      intro s t y
      have := sq_nn (s + t - 2 * y)
      grind
    have k1 := k a.1 b.1 x.1; have k2 := k a.2.1 b.2.1 x.2.1; have k3 := k a.2.2 b.2.2 x.2.2
    unfold ds dt sb; simp only; omega
  have p1 := par c.2.1 c.1; have p2 := par c.2.2 c.1
  refine Int.le_trans (lag _ _) (Int.mul_le_mul (by omega) (by omega) (dt_self _) ?_)
  have := dt_self (sb c.1 x)
  unfold ds at *; omega
theorem NN_sc (d : Int) : NN (sc d) = sc d * sc d * 1099511627776 := rfl
/-! sums of bounds -/
def accS (lo hi : PN → Int) : List PN → Int × Int → Int × Int
  | [], v => v
  | c :: l, v => accS lo hi l (v.1 + lo c, v.2 + hi c)
theorem okv_add {lo hi : Int} {v : Int × Int} {n : Nat} (h : okv v (n + 1)) (h1 : 0 ≤ lo ∧ lo ≤ hi ∧ hi ≤ 536870913) : okv (v.1 + lo, v.2 + hi) n := by
  unfold okv at *; simp only; omega
theorem accS_ok {lo hi : PN → Int} : ∀ {l : List PN} {v : Int × Int}, (∀ c ∈ l, 0 ≤ lo c ∧ lo c ≤ hi c ∧ hi c ≤ 536870913) → okv v l.length → okv (accS lo hi l v) 0
  | [], v, _, h => h
  | c :: l, v, hl, h => accS_ok (l := l) (fun c hc => hl c (List.mem_cons_of_mem _ hc)) (okv_add h (hl c List.mem_cons_self))
theorem accS_foldl {lo hi : PN → Int} {S : Int × Int → PN → Int × Int} : ∀ {l : List PN} {v : Int × Int}, (∀ c ∈ l, 0 ≤ lo c ∧ lo c ≤ hi c ∧ hi c ≤ 536870913) →
    (∀ c ∈ l, ∀ v : Int × Int, S v c = (W (v.1 + lo c), W (v.2 + hi c))) → okv v l.length → l.foldl S v = accS lo hi l v
  | [], v, _, _, _ => rfl
  | c :: l, v, hl, hS, h => by
    have h1 := okv_add h (hl c List.mem_cons_self)
    have h2 := h1
    unfold okv at h2; simp only at h2
    rw [List.foldl_cons, hS c List.mem_cons_self v, W_eq (by omega) (by omega), W_eq (by omega) (by omega)]
    exact accS_foldl (l := l) (fun c hc => hl c (List.mem_cons_of_mem _ hc)) (fun c hc => hS c (List.mem_cons_of_mem _ hc)) h1
theorem accS_loopF {lo hi : PN → Int} {S : Int × Int × Int → (Int × Int × Int) ⊕ (Int × Int)} {G : Int × Int → Int × Int} {L : List PN} (hl : ∀ c ∈ L, 0 ≤ lo c ∧ lo c ≤ hi c ∧ hi c ≤ 536870913)
    (hS : ∀ (i : Nat) (c : PN), L[i]? = some c → ∀ v1 v2 : Int, S (v1, v2, (i : Int)) = .inl (W (v1 + lo c), W (v2 + hi c), ((i + 1 : Nat) : Int)))
    (hE : ∀ v1 v2 : Int, S (v1, v2, (L.length : Int)) = .inr (G (v1, v2))) :
    ∀ (l : List PN) (i n : Nat) (v : Int × Int), L.drop i = l → i ≤ L.length → l.length < n → okv v l.length → loopF S n (v.1, v.2, (i : Int)) = G (accS lo hi l v)
  | [], i, n, v, hd, hi', hn, h => by
    have : i = L.length := by have := List.drop_eq_nil_iff.1 hd; omega
    obtain ⟨n, rfl⟩ : ∃ m, n = m + 1 := ⟨n - 1, by simp only [List.length_nil] at hn; omega⟩
    subst this
    rw [loopF_inr (hE _ _)]; rfl
  | c :: l, i, n, v, hd, hi', hn, h => by
    have hc : L[i]? = some c := by
      have : (L.drop i)[0]? = some c := by rw [hd]; rfl
      simpa using this
    obtain ⟨hlt, hce⟩ := List.getElem?_eq_some_iff.1 hc
    obtain ⟨n, rfl⟩ : ∃ m, n = m + 1 := ⟨n - 1, by omega⟩
    have h1 := okv_add h (hl c (hce ▸ List.getElem_mem hlt))
    have h2 := h1
    unfold okv at h2; simp only at h2
    rw [loopF_inl (hS i c hc v.1 v.2), W_eq (by omega) (by omega), W_eq (by omega) (by omega)]
    exact accS_loopF hl hS hE l (i + 1) n _ (by rw [← List.drop_drop, hd]; rfl) (by omega) (by simp only [List.length_cons] at hn; omega) h1
/-- the bounds of what a part gives -/
noncomputable def bLo (d : Int) (q c : PN) : Int := (of1 (sc d) (fa3 c q)).1
noncomputable def bHi (R d : Int) (q c : PN) : Int := if 0 < ne3 c q then (if (of1 (sc d) (ne3 c q)).2 < R then (of1 (sc d) (ne3 c q)).2 else R) else R
section
variable {p q : PN} {d : Int}
end
def tmP (s : Int) (q : PN) : PN := (tm s q.1, tm s q.2.1, tm s q.2.2)
theorem tmP_bd {q : PN} {s : Int} (hs : 1 ≤ s ∧ s ≤ 8) (hq : bdP 64 q) : bdP 5000 (tmP s q) :=
  ⟨(bd_tm hs (by omega) hq.1).mono (by omega), (bd_tm hs (by omega) hq.2.1).mono (by omega), (bd_tm hs (by omega) hq.2.2).mono (by omega)⟩
end Go.Proofs.Ytopbnnmkdildgaa

namespace Go.Proofs.Ytopbnnmkdildgaa
open Go.Proofs Go.Aw Go.RowKit
set_option maxRecDepth 100000
set_option linter.unusedVariables false
set_option linter.unusedSimpArgs false

theorem v1_ok {a : Int × Int} (h : ((F75_1 a : Int) != 0) = false) : -1099511627776 ≤ a.1 ∧ a.1 ≤ a.2 ∧ a.2 ≤ 1099511627776 := by
  have h : F75_1 a = 0 := by simpa using h
  unfold F75_1 at h
  cases h0 : F102 a with
  | false => rw [h0] at h; cases h
  | true =>
    unfold F102 at h0
    by_cases h1 : a.1 ≥ -1099511627776
    · by_cases h2 : a.1 ≤ a.2
      · rw [decide_eq_true h1, cond_true, decide_eq_true h2, cond_true] at h0
        exact ⟨h1, h2, of_decide_eq_true h0⟩
      · rw [decide_eq_true h1, cond_true, decide_eq_false h2, cond_false] at h0; cases h0
    · rw [decide_eq_false h1, cond_false] at h0; cases h0

/-- facet/span.whole -/
def F76 (a0 : Int) : Bool :=
  (bif (decide ((a0 : Int) ≥ (-1099511627776))) then
   (decide ((a0 : Int) ≤ 1099511627776))
  else
   false)

theorem C76 (a0 : Int) : Con Try.prog 76 [(iv a0)] [] (.v (.bool (F76 a0))) [] := by
  cases h0 : (decide ((a0 : Int) ≥ (-1099511627776))) with
  | true =>
    have q0 := of_decide_eq_true h0
    have e : (F76 a0) = (decide ((a0 : Int) ≤ 1099511627776)) := by simp only [F76, h0, cond_true, cond_false]
    rw [e]
    refine con_of (n := 9) Try.func76 rfl (ent Try.func76 (by kernel_rfl) rfl) (by show 1 ≤ Try.f76.ntmps; decide) (by kernel_rfl) trivial (fun cx hcx => ?_)
    exact ret_of (T := T0) hT hm (f := 5000) (orc := [.d true]) [] [] [] hcx
      (obs := [.eq (decide ((a0 : Int) ≥ (-1099511627776))) true]) (by kernel_rfl) ⟨h0, trivial⟩
  | false =>
    have q0 := of_decide_eq_false h0
    have e : (F76 a0) = false := by simp only [F76, h0, cond_true, cond_false]
    rw [e]
    refine con_of (n := 9) Try.func76 rfl (ent Try.func76 (by kernel_rfl) rfl) (by show 1 ≤ Try.f76.ntmps; decide) (by kernel_rfl) trivial (fun cx hcx => ?_)
    exact ret_of (T := T0) hT hm (f := 5000) (orc := [.d false]) [] [] [] hcx
      (obs := [.eq (decide ((a0 : Int) ≥ (-1099511627776))) false]) (by kernel_rfl) ⟨h0, trivial⟩

/-- facet/span.Scale -/
def F39 (a0 : Int × Int) (a1 : Int) : (Int × Int) × Int :=
  (bif (((F75_1 a0) : Int) != 0) then
   ((0, 0), (F75_1 a0))
  else
   (bif (!(F76 a1)) then
    ((0, 0), 1)
   else
    ((F78 (if ((F77 a0.2 a1) : Int) < (F77 a0.1 a1) then (F77 a0.2 a1) else (F77 a0.1 a1)) (if ((F77 a0.1 a1) : Int) < (F77 a0.2 a1) then (F77 a0.2 a1) else (F77 a0.1 a1))).1, (F78 (if ((F77 a0.2 a1) : Int) < (F77 a0.1 a1) then (F77 a0.2 a1) else (F77 a0.1 a1)) (if ((F77 a0.1 a1) : Int) < (F77 a0.2 a1) then (F77 a0.2 a1) else (F77 a0.1 a1))).2)))

noncomputable def oC39_0 (a0 : Int × Int) : Ob := .call 75 [(.s 0 0 1 2)] [(.live false false [(iv a0.1), (iv a0.2)])] (iv (F75_1 a0)) []
theorem C39 (a0 : Int × Int) (a1 : Int) : Con Try.prog 39 [(.a [(iv a0.1), (iv a0.2)]), (iv a1)] [] (.t [(.a (k2 (F39 a0 a1).1)), (iv (F39 a0 a1).2)]) [] := by
  cases h0 : (((F75_1 a0) : Int) != 0) with
  | true =>
    have q0 := bne_iff_ne.1 h0
    have e : (F39 a0 a1) = ((0, 0), (F75_1 a0)) := by simp only [F39, h0, cond_true, cond_false]
    rw [e]
    refine con_of (n := 9) Try.func39 rfl (ent Try.func39 (by kernel_rfl) rfl) (by show 2 ≤ Try.f39.ntmps; decide) (by kernel_rfl) trivial (fun cx hcx => ?_)
    exact ret_of (T := T0) hT hm (f := 5000) (orc := [.call [2] (iv (F75_1 a0)) [], .d true]) [] [] [] hcx
      (obs := [(oC39_0 a0), .eq (((F75_1 a0) : Int) != 0) true]) (by kernel_rfl) ⟨(C75_1 a0), h0, trivial⟩
  | false =>
    cases h1 : (!(F76 a1)) with
    | true =>
      have q0 := bne_eq_false_iff_eq.1 h0
      have e : (F39 a0 a1) = ((0, 0), 1) := by simp only [F39, h0, h1, cond_true, cond_false]
      rw [e]
      refine con_of (n := 9) Try.func39 rfl (ent Try.func39 (by kernel_rfl) rfl) (by show 2 ≤ Try.f39.ntmps; decide) (by kernel_rfl) trivial (fun cx hcx => ?_)
      exact ret_of (T := T0) hT hm (f := 5000) (orc := [.call [2] (iv (F75_1 a0)) [], .d false, .call [] (.v (.bool (F76 a1))) [], .d true]) [] [] [] hcx
        (obs := [(oC39_0 a0), .eq (((F75_1 a0) : Int) != 0) false, .call 76 [(iv a1)] [] (.v (.bool (F76 a1))) [], .eq (!(F76 a1)) true]) (by kernel_rfl) ⟨(C75_1 a0), h0, (C76 a1), h1, trivial⟩
    | false =>
      have q0 := bne_eq_false_iff_eq.1 h0
      have e : (F39 a0 a1) = ((F78 (if ((F77 a0.2 a1) : Int) < (F77 a0.1 a1) then (F77 a0.2 a1) else (F77 a0.1 a1)) (if ((F77 a0.1 a1) : Int) < (F77 a0.2 a1) then (F77 a0.2 a1) else (F77 a0.1 a1))).1, (F78 (if ((F77 a0.2 a1) : Int) < (F77 a0.1 a1) then (F77 a0.2 a1) else (F77 a0.1 a1)) (if ((F77 a0.1 a1) : Int) < (F77 a0.2 a1) then (F77 a0.2 a1) else (F77 a0.1 a1))).2) := by simp only [F39, h0, h1, cond_true, cond_false]
      rw [e]
      refine con_of (n := 9) Try.func39 rfl (ent Try.func39 (by kernel_rfl) rfl) (by show 2 ≤ Try.f39.ntmps; decide) (by kernel_rfl) trivial (fun cx hcx => ?_)
      exact ret_of (T := T0) hT hm (f := 5000) (orc := [.call [2] (iv (F75_1 a0)) [], .d false, .call [] (.v (.bool (F76 a1))) [], .d false, .call [] (iv (F77 a0.1 a1)) [], .call [] (iv (F77 a0.2 a1)) [], .call [] (.t [(.a (k2 (F78 (if ((F77 a0.2 a1) : Int) < (F77 a0.1 a1) then (F77 a0.2 a1) else (F77 a0.1 a1)) (if ((F77 a0.1 a1) : Int) < (F77 a0.2 a1) then (F77 a0.2 a1) else (F77 a0.1 a1))).1)), (iv (F78 (if ((F77 a0.2 a1) : Int) < (F77 a0.1 a1) then (F77 a0.2 a1) else (F77 a0.1 a1)) (if ((F77 a0.1 a1) : Int) < (F77 a0.2 a1) then (F77 a0.2 a1) else (F77 a0.1 a1))).2)]) []]) [] [] [] hcx
        (obs := [(oC39_0 a0), .eq (((F75_1 a0) : Int) != 0) false, .call 76 [(iv a1)] [] (.v (.bool (F76 a1))) [], .eq (!(F76 a1)) false, .call 77 [(iv a0.1), (iv a1)] [] (iv (F77 a0.1 a1)) [], .call 77 [(iv a0.2), (iv a1)] [] (iv (F77 a0.2 a1)) [], .call 78 [(iv (if ((F77 a0.2 a1) : Int) < (F77 a0.1 a1) then (F77 a0.2 a1) else (F77 a0.1 a1))), (iv (if ((F77 a0.1 a1) : Int) < (F77 a0.2 a1) then (F77 a0.2 a1) else (F77 a0.1 a1)))] [] (.t [(.a (k2 (F78 (if ((F77 a0.2 a1) : Int) < (F77 a0.1 a1) then (F77 a0.2 a1) else (F77 a0.1 a1)) (if ((F77 a0.1 a1) : Int) < (F77 a0.2 a1) then (F77 a0.2 a1) else (F77 a0.1 a1))).1)), (iv (F78 (if ((F77 a0.2 a1) : Int) < (F77 a0.1 a1) then (F77 a0.2 a1) else (F77 a0.1 a1)) (if ((F77 a0.1 a1) : Int) < (F77 a0.2 a1) then (F77 a0.2 a1) else (F77 a0.1 a1))).2)]) []]) (by kernel_rfl) ⟨(C75_1 a0), h0, (C76 a1), h1, (C77 a0.1 a1  (by have := v1_ok h0; omega)), (C77 a0.2 a1  (by have := v1_ok h0; omega)), (C78 (if ((F77 a0.2 a1) : Int) < (F77 a0.1 a1) then (F77 a0.2 a1) else (F77 a0.1 a1)) (if ((F77 a0.1 a1) : Int) < (F77 a0.2 a1) then (F77 a0.2 a1) else (F77 a0.1 a1))), trivial⟩

/-- facet/facetref01.size -/
def F156 (a0 : Int) : Int :=
  (bif (decide ((a0 : Int) < 0)) then
   (IntKind.wrap .u64 (W (0 - a0)))
  else
   (IntKind.wrap .u64 a0))

theorem C156 (a0 : Int) : Con Try.prog 156 [(iv a0)] [] (.v (.int .u64 (F156 a0))) [] := by
  cases h0 : (decide ((a0 : Int) < 0)) with
  | true =>
    have q0 := of_decide_eq_true h0
    have e : (F156 a0) = (IntKind.wrap .u64 (W (0 - a0))) := by simp only [F156, h0, cond_true, cond_false]
    rw [e]
    refine con_of (n := 9) Try.func156 rfl (ent Try.func156 (by kernel_rfl) rfl) (by show 1 ≤ Try.f156.ntmps; decide) (by kernel_rfl) trivial (fun cx hcx => ?_)
    exact ret_of (T := T0) hT hm (f := 5000) (orc := [.d true]) [] [] [] hcx
      (obs := [.eq (decide ((a0 : Int) < 0)) true]) (by kernel_rfl) ⟨h0, trivial⟩
  | false =>
    have q0 := of_decide_eq_false h0
    have e : (F156 a0) = (IntKind.wrap .u64 a0) := by simp only [F156, h0, cond_true, cond_false]
    rw [e]
    refine con_of (n := 9) Try.func156 rfl (ent Try.func156 (by kernel_rfl) rfl) (by show 1 ≤ Try.f156.ntmps; decide) (by kernel_rfl) trivial (fun cx hcx => ?_)
    exact ret_of (T := T0) hT hm (f := 5000) (orc := [.d false]) [] [] [] hcx
      (obs := [.eq (decide ((a0 : Int) < 0)) false]) (by kernel_rfl) ⟨h0, trivial⟩

/-- math/bits.Mul64 -/
def F155 (a0 : Int) (a1 : Int) : Int × Int :=
  ((IntKind.wrap .u64 ((IntKind.wrap .u64 ((IntKind.wrap .u64 ((Int.fdiv a0 (2 ^ (min (Int.toNat 32) 64))) * (Int.fdiv a1 (2 ^ (min (Int.toNat 32) 64))))) + (Int.fdiv (IntKind.wrap .u64 ((IntKind.wrap .u64 ((Int.fdiv a0 (2 ^ (min (Int.toNat 32) 64))) * (IntKind.wrap .u64 ((BitVec.ofInt 64 a1 &&& BitVec.ofInt 64 4294967295).toNat : Int)))) + (Int.fdiv (IntKind.wrap .u64 ((IntKind.wrap .u64 ((BitVec.ofInt 64 a0 &&& BitVec.ofInt 64 4294967295).toNat : Int)) * (IntKind.wrap .u64 ((BitVec.ofInt 64 a1 &&& BitVec.ofInt 64 4294967295).toNat : Int)))) (2 ^ (min (Int.toNat 32) 64))))) (2 ^ (min (Int.toNat 32) 64))))) + (Int.fdiv (IntKind.wrap .u64 ((IntKind.wrap .u64 ((BitVec.ofInt 64 (IntKind.wrap .u64 ((IntKind.wrap .u64 ((Int.fdiv a0 (2 ^ (min (Int.toNat 32) 64))) * (IntKind.wrap .u64 ((BitVec.ofInt 64 a1 &&& BitVec.ofInt 64 4294967295).toNat : Int)))) + (Int.fdiv (IntKind.wrap .u64 ((IntKind.wrap .u64 ((BitVec.ofInt 64 a0 &&& BitVec.ofInt 64 4294967295).toNat : Int)) * (IntKind.wrap .u64 ((BitVec.ofInt 64 a1 &&& BitVec.ofInt 64 4294967295).toNat : Int)))) (2 ^ (min (Int.toNat 32) 64))))) &&& BitVec.ofInt 64 4294967295).toNat : Int)) + (IntKind.wrap .u64 ((IntKind.wrap .u64 ((BitVec.ofInt 64 a0 &&& BitVec.ofInt 64 4294967295).toNat : Int)) * (Int.fdiv a1 (2 ^ (min (Int.toNat 32) 64))))))) (2 ^ (min (Int.toNat 32) 64))))), (IntKind.wrap .u64 (a0 * a1)))

theorem C155 (a0 : Int) (a1 : Int) : Con Try.prog 155 [(.v (.int .u64 a0)), (.v (.int .u64 a1))] [] (.t [(.v (.int .u64 (F155 a0 a1).1)), (.v (.int .u64 (F155 a0 a1).2))]) [] := by
  have e : (F155 a0 a1) = ((IntKind.wrap .u64 ((IntKind.wrap .u64 ((IntKind.wrap .u64 ((Int.fdiv a0 (2 ^ (min (Int.toNat 32) 64))) * (Int.fdiv a1 (2 ^ (min (Int.toNat 32) 64))))) + (Int.fdiv (IntKind.wrap .u64 ((IntKind.wrap .u64 ((Int.fdiv a0 (2 ^ (min (Int.toNat 32) 64))) * (IntKind.wrap .u64 ((BitVec.ofInt 64 a1 &&& BitVec.ofInt 64 4294967295).toNat : Int)))) + (Int.fdiv (IntKind.wrap .u64 ((IntKind.wrap .u64 ((BitVec.ofInt 64 a0 &&& BitVec.ofInt 64 4294967295).toNat : Int)) * (IntKind.wrap .u64 ((BitVec.ofInt 64 a1 &&& BitVec.ofInt 64 4294967295).toNat : Int)))) (2 ^ (min (Int.toNat 32) 64))))) (2 ^ (min (Int.toNat 32) 64))))) + (Int.fdiv (IntKind.wrap .u64 ((IntKind.wrap .u64 ((BitVec.ofInt 64 (IntKind.wrap .u64 ((IntKind.wrap .u64 ((Int.fdiv a0 (2 ^ (min (Int.toNat 32) 64))) * (IntKind.wrap .u64 ((BitVec.ofInt 64 a1 &&& BitVec.ofInt 64 4294967295).toNat : Int)))) + (Int.fdiv (IntKind.wrap .u64 ((IntKind.wrap .u64 ((BitVec.ofInt 64 a0 &&& BitVec.ofInt 64 4294967295).toNat : Int)) * (IntKind.wrap .u64 ((BitVec.ofInt 64 a1 &&& BitVec.ofInt 64 4294967295).toNat : Int)))) (2 ^ (min (Int.toNat 32) 64))))) &&& BitVec.ofInt 64 4294967295).toNat : Int)) + (IntKind.wrap .u64 ((IntKind.wrap .u64 ((BitVec.ofInt 64 a0 &&& BitVec.ofInt 64 4294967295).toNat : Int)) * (Int.fdiv a1 (2 ^ (min (Int.toNat 32) 64))))))) (2 ^ (min (Int.toNat 32) 64))))), (IntKind.wrap .u64 (a0 * a1))) := by simp only [F155]
  rw [e]
  refine con_of (n := 9) Try.func155 rfl (ent Try.func155 (by kernel_rfl) rfl) (by show 2 ≤ Try.f155.ntmps; decide) (by kernel_rfl) trivial (fun cx hcx => ?_)
  exact ret_of (T := T0) hT hm (f := 5000) (orc := []) [] [] [] hcx
    (obs := [.pr (0 ≤ (32 : Int)), .pr (0 ≤ (32 : Int)), .pr (0 ≤ (32 : Int)), .pr (0 ≤ (32 : Int)), .pr (0 ≤ (32 : Int))]) (by kernel_rfl) ⟨(show 0 ≤ (32 : Int) from by decide), (show 0 ≤ (32 : Int) from by decide), (show 0 ≤ (32 : Int) from by decide), (show 0 ≤ (32 : Int) from by decide), (show 0 ≤ (32 : Int) from by decide), trivial⟩

/-- facet/facetref01.product -/
def F126 (a0 : Int) (a1 : Int) : Int :=
  (bif (((F155 (F156 a0) (F156 a1)).1 : Int) == 0) then
   (bif (decide (((F155 (F156 a0) (F156 a1)).2 : Int) ≤ 1099511627776)) then
    (bif (!((decide ((a0 : Int) < 0)) == (decide ((a1 : Int) < 0)))) then
     (W (0 - (W (F155 (F156 a0) (F156 a1)).2)))
    else
     (W (F155 (F156 a0) (F156 a1)).2))
   else
    (bif (!((decide ((a0 : Int) < 0)) == (decide ((a1 : Int) < 0)))) then
     (-1099511627777)
    else
     1099511627777))
  else
   (bif (!((decide ((a0 : Int) < 0)) == (decide ((a1 : Int) < 0)))) then
    (-1099511627777)
   else
    1099511627777))

theorem C126 (a0 : Int) (a1 : Int) : Con Try.prog 126 [(iv a0), (iv a1)] [] (iv (F126 a0 a1)) [] := by
  cases h0 : (((F155 (F156 a0) (F156 a1)).1 : Int) == 0) with
  | true =>
    cases h1 : (decide (((F155 (F156 a0) (F156 a1)).2 : Int) ≤ 1099511627776)) with
    | true =>
      cases h2 : (!((decide ((a0 : Int) < 0)) == (decide ((a1 : Int) < 0)))) with
      | true =>
        have q0 := eq_of_beq h0
        have q1 := of_decide_eq_true h1
        have e : (F126 a0 a1) = (W (0 - (W (F155 (F156 a0) (F156 a1)).2))) := by simp only [F126, h0, h1, h2, cond_true, cond_false]
        rw [e]
        refine con_of (n := 9) Try.func126 rfl (ent Try.func126 (by kernel_rfl) rfl) (by show 2 ≤ Try.f126.ntmps; decide) (by kernel_rfl) trivial (fun cx hcx => ?_)
        exact ret_of (T := T0) hT hm (f := 5000) (orc := [.call [] (.v (.int .u64 (F156 a0))) [], .call [] (.v (.int .u64 (F156 a1))) [], .call [] (.t [(.v (.int .u64 (F155 (F156 a0) (F156 a1)).1)), (.v (.int .u64 (F155 (F156 a0) (F156 a1)).2))]) [], .d true, .d true, .d true]) [] [] [] hcx
          (obs := [.call 156 [(iv a0)] [] (.v (.int .u64 (F156 a0))) [], .call 156 [(iv a1)] [] (.v (.int .u64 (F156 a1))) [], .call 155 [(.v (.int .u64 (F156 a0))), (.v (.int .u64 (F156 a1)))] [] (.t [(.v (.int .u64 (F155 (F156 a0) (F156 a1)).1)), (.v (.int .u64 (F155 (F156 a0) (F156 a1)).2))]) [], .eq (((F155 (F156 a0) (F156 a1)).1 : Int) == 0) true, .eq (decide (((F155 (F156 a0) (F156 a1)).2 : Int) ≤ 1099511627776)) true, .eq (!((decide ((a0 : Int) < 0)) == (decide ((a1 : Int) < 0)))) true]) (by kernel_rfl) ⟨(C156 a0), (C156 a1), (C155 (F156 a0) (F156 a1)), h0, h1, h2, trivial⟩
      | false =>
        have q0 := eq_of_beq h0
        have q1 := of_decide_eq_true h1
        have e : (F126 a0 a1) = (W (F155 (F156 a0) (F156 a1)).2) := by simp only [F126, h0, h1, h2, cond_true, cond_false]
        rw [e]
        refine con_of (n := 9) Try.func126 rfl (ent Try.func126 (by kernel_rfl) rfl) (by show 2 ≤ Try.f126.ntmps; decide) (by kernel_rfl) trivial (fun cx hcx => ?_)
        exact ret_of (T := T0) hT hm (f := 5000) (orc := [.call [] (.v (.int .u64 (F156 a0))) [], .call [] (.v (.int .u64 (F156 a1))) [], .call [] (.t [(.v (.int .u64 (F155 (F156 a0) (F156 a1)).1)), (.v (.int .u64 (F155 (F156 a0) (F156 a1)).2))]) [], .d true, .d true, .d false]) [] [] [] hcx
          (obs := [.call 156 [(iv a0)] [] (.v (.int .u64 (F156 a0))) [], .call 156 [(iv a1)] [] (.v (.int .u64 (F156 a1))) [], .call 155 [(.v (.int .u64 (F156 a0))), (.v (.int .u64 (F156 a1)))] [] (.t [(.v (.int .u64 (F155 (F156 a0) (F156 a1)).1)), (.v (.int .u64 (F155 (F156 a0) (F156 a1)).2))]) [], .eq (((F155 (F156 a0) (F156 a1)).1 : Int) == 0) true, .eq (decide (((F155 (F156 a0) (F156 a1)).2 : Int) ≤ 1099511627776)) true, .eq (!((decide ((a0 : Int) < 0)) == (decide ((a1 : Int) < 0)))) false]) (by kernel_rfl) ⟨(C156 a0), (C156 a1), (C155 (F156 a0) (F156 a1)), h0, h1, h2, trivial⟩
    | false =>
      cases h2 : (!((decide ((a0 : Int) < 0)) == (decide ((a1 : Int) < 0)))) with
      | true =>
        have q0 := eq_of_beq h0
        have q1 := of_decide_eq_false h1
        have e : (F126 a0 a1) = (-1099511627777) := by simp only [F126, h0, h1, h2, cond_true, cond_false]
        rw [e]
        refine con_of (n := 9) Try.func126 rfl (ent Try.func126 (by kernel_rfl) rfl) (by show 2 ≤ Try.f126.ntmps; decide) (by kernel_rfl) trivial (fun cx hcx => ?_)
        exact ret_of (T := T0) hT hm (f := 5000) (orc := [.call [] (.v (.int .u64 (F156 a0))) [], .call [] (.v (.int .u64 (F156 a1))) [], .call [] (.t [(.v (.int .u64 (F155 (F156 a0) (F156 a1)).1)), (.v (.int .u64 (F155 (F156 a0) (F156 a1)).2))]) [], .d true, .d false, .d true]) [] [] [] hcx
          (obs := [.call 156 [(iv a0)] [] (.v (.int .u64 (F156 a0))) [], .call 156 [(iv a1)] [] (.v (.int .u64 (F156 a1))) [], .call 155 [(.v (.int .u64 (F156 a0))), (.v (.int .u64 (F156 a1)))] [] (.t [(.v (.int .u64 (F155 (F156 a0) (F156 a1)).1)), (.v (.int .u64 (F155 (F156 a0) (F156 a1)).2))]) [], .eq (((F155 (F156 a0) (F156 a1)).1 : Int) == 0) true, .eq (decide (((F155 (F156 a0) (F156 a1)).2 : Int) ≤ 1099511627776)) false, .eq (!((decide ((a0 : Int) < 0)) == (decide ((a1 : Int) < 0)))) true]) (by kernel_rfl) ⟨(C156 a0), (C156 a1), (C155 (F156 a0) (F156 a1)), h0, h1, h2, trivial⟩
      | false =>
        have q0 := eq_of_beq h0
        have q1 := of_decide_eq_false h1
        have e : (F126 a0 a1) = 1099511627777 := by simp only [F126, h0, h1, h2, cond_true, cond_false]
        rw [e]
        refine con_of (n := 9) Try.func126 rfl (ent Try.func126 (by kernel_rfl) rfl) (by show 2 ≤ Try.f126.ntmps; decide) (by kernel_rfl) trivial (fun cx hcx => ?_)
        exact ret_of (T := T0) hT hm (f := 5000) (orc := [.call [] (.v (.int .u64 (F156 a0))) [], .call [] (.v (.int .u64 (F156 a1))) [], .call [] (.t [(.v (.int .u64 (F155 (F156 a0) (F156 a1)).1)), (.v (.int .u64 (F155 (F156 a0) (F156 a1)).2))]) [], .d true, .d false, .d false]) [] [] [] hcx
          (obs := [.call 156 [(iv a0)] [] (.v (.int .u64 (F156 a0))) [], .call 156 [(iv a1)] [] (.v (.int .u64 (F156 a1))) [], .call 155 [(.v (.int .u64 (F156 a0))), (.v (.int .u64 (F156 a1)))] [] (.t [(.v (.int .u64 (F155 (F156 a0) (F156 a1)).1)), (.v (.int .u64 (F155 (F156 a0) (F156 a1)).2))]) [], .eq (((F155 (F156 a0) (F156 a1)).1 : Int) == 0) true, .eq (decide (((F155 (F156 a0) (F156 a1)).2 : Int) ≤ 1099511627776)) false, .eq (!((decide ((a0 : Int) < 0)) == (decide ((a1 : Int) < 0)))) false]) (by kernel_rfl) ⟨(C156 a0), (C156 a1), (C155 (F156 a0) (F156 a1)), h0, h1, h2, trivial⟩
  | false =>
    cases h1 : (!((decide ((a0 : Int) < 0)) == (decide ((a1 : Int) < 0)))) with
    | true =>
      have q0 := ne_of_beq_false h0
      have e : (F126 a0 a1) = (-1099511627777) := by simp only [F126, h0, h1, cond_true, cond_false]
      rw [e]
      refine con_of (n := 9) Try.func126 rfl (ent Try.func126 (by kernel_rfl) rfl) (by show 2 ≤ Try.f126.ntmps; decide) (by kernel_rfl) trivial (fun cx hcx => ?_)
      exact ret_of (T := T0) hT hm (f := 5000) (orc := [.call [] (.v (.int .u64 (F156 a0))) [], .call [] (.v (.int .u64 (F156 a1))) [], .call [] (.t [(.v (.int .u64 (F155 (F156 a0) (F156 a1)).1)), (.v (.int .u64 (F155 (F156 a0) (F156 a1)).2))]) [], .d false, .d true]) [] [] [] hcx
        (obs := [.call 156 [(iv a0)] [] (.v (.int .u64 (F156 a0))) [], .call 156 [(iv a1)] [] (.v (.int .u64 (F156 a1))) [], .call 155 [(.v (.int .u64 (F156 a0))), (.v (.int .u64 (F156 a1)))] [] (.t [(.v (.int .u64 (F155 (F156 a0) (F156 a1)).1)), (.v (.int .u64 (F155 (F156 a0) (F156 a1)).2))]) [], .eq (((F155 (F156 a0) (F156 a1)).1 : Int) == 0) false, .eq (!((decide ((a0 : Int) < 0)) == (decide ((a1 : Int) < 0)))) true]) (by kernel_rfl) ⟨(C156 a0), (C156 a1), (C155 (F156 a0) (F156 a1)), h0, h1, trivial⟩
    | false =>
      have q0 := ne_of_beq_false h0
      have e : (F126 a0 a1) = 1099511627777 := by simp only [F126, h0, h1, cond_true, cond_false]
      rw [e]
      refine con_of (n := 9) Try.func126 rfl (ent Try.func126 (by kernel_rfl) rfl) (by show 2 ≤ Try.f126.ntmps; decide) (by kernel_rfl) trivial (fun cx hcx => ?_)
      exact ret_of (T := T0) hT hm (f := 5000) (orc := [.call [] (.v (.int .u64 (F156 a0))) [], .call [] (.v (.int .u64 (F156 a1))) [], .call [] (.t [(.v (.int .u64 (F155 (F156 a0) (F156 a1)).1)), (.v (.int .u64 (F155 (F156 a0) (F156 a1)).2))]) [], .d false, .d false]) [] [] [] hcx
        (obs := [.call 156 [(iv a0)] [] (.v (.int .u64 (F156 a0))) [], .call 156 [(iv a1)] [] (.v (.int .u64 (F156 a1))) [], .call 155 [(.v (.int .u64 (F156 a0))), (.v (.int .u64 (F156 a1)))] [] (.t [(.v (.int .u64 (F155 (F156 a0) (F156 a1)).1)), (.v (.int .u64 (F155 (F156 a0) (F156 a1)).2))]) [], .eq (((F155 (F156 a0) (F156 a1)).1 : Int) == 0) false, .eq (!((decide ((a0 : Int) < 0)) == (decide ((a1 : Int) < 0)))) false]) (by kernel_rfl) ⟨(C156 a0), (C156 a1), (C155 (F156 a0) (F156 a1)), h0, h1, trivial⟩

/-- facet/facetref01.Scale -/
def F94 (a0 : Int × Int) (a1 : Int) : (Int × Int) × Int :=
  (bif (!(F124 a0)) then
   ((0, 0), 1)
  else
   (bif (!(F125 a1 (-1099511627776) 1099511627776)) then
    ((0, 0), 1)
   else
    (bif (decide ((a1 : Int) < 0)) then
     ((F121 (F126 a0.2 a1) (F126 a0.1 a1)).1, (F121 (F126 a0.2 a1) (F126 a0.1 a1)).2)
    else
     ((F121 (F126 a0.1 a1) (F126 a0.2 a1)).1, (F121 (F126 a0.1 a1) (F126 a0.2 a1)).2))))

noncomputable def oC94_0 (a0 : Int × Int) : Ob := .call 124 [(.a [(iv a0.1), (iv a0.2)])] [] (.v (.bool (F124 a0))) []
noncomputable def oC94_1 (a1 : Int) : Ob := .call 125 [(iv a1), (iv (-1099511627776)), (iv 1099511627776)] [] (.v (.bool (F125 a1 (-1099511627776) 1099511627776))) []
theorem C94 (a0 : Int × Int) (a1 : Int) : Con Try.prog 94 [(.a [(iv a0.1), (iv a0.2)]), (iv a1)] [] (.t [(.a (k2 (F94 a0 a1).1)), (iv (F94 a0 a1).2)]) [] := by
  cases h0 : (!(F124 a0)) with
  | true =>
    have e : (F94 a0 a1) = ((0, 0), 1) := by simp only [F94, h0, cond_true, cond_false]
    rw [e]
    refine con_of (n := 9) Try.func94 rfl (ent Try.func94 (by kernel_rfl) rfl) (by show 2 ≤ Try.f94.ntmps; decide) (by kernel_rfl) trivial (fun cx hcx => ?_)
    exact ret_of (T := T0) hT hm (f := 5000) (orc := [.call [] (.v (.bool (F124 a0))) [], .d true]) [] [] [] hcx
      (obs := [(oC94_0 a0), .eq (!(F124 a0)) true]) (by kernel_rfl) ⟨(C124 a0), h0, trivial⟩
  | false =>
    cases h1 : (!(F125 a1 (-1099511627776) 1099511627776)) with
    | true =>
      have e : (F94 a0 a1) = ((0, 0), 1) := by simp only [F94, h0, h1, cond_true, cond_false]
      rw [e]
      refine con_of (n := 9) Try.func94 rfl (ent Try.func94 (by kernel_rfl) rfl) (by show 2 ≤ Try.f94.ntmps; decide) (by kernel_rfl) trivial (fun cx hcx => ?_)
      exact ret_of (T := T0) hT hm (f := 5000) (orc := [.call [] (.v (.bool (F124 a0))) [], .d false, .call [] (.v (.bool (F125 a1 (-1099511627776) 1099511627776))) [], .d true]) [] [] [] hcx
        (obs := [(oC94_0 a0), .eq (!(F124 a0)) false, (oC94_1 a1), .eq (!(F125 a1 (-1099511627776) 1099511627776)) true]) (by kernel_rfl) ⟨(C124 a0), h0, (C125 a1 (-1099511627776) 1099511627776), h1, trivial⟩
    | false =>
      cases h2 : (decide ((a1 : Int) < 0)) with
      | true =>
        have q2 := of_decide_eq_true h2
        have e : (F94 a0 a1) = ((F121 (F126 a0.2 a1) (F126 a0.1 a1)).1, (F121 (F126 a0.2 a1) (F126 a0.1 a1)).2) := by simp only [F94, h0, h1, h2, cond_true, cond_false]
        rw [e]
        refine con_of (n := 9) Try.func94 rfl (ent Try.func94 (by kernel_rfl) rfl) (by show 2 ≤ Try.f94.ntmps; decide) (by kernel_rfl) trivial (fun cx hcx => ?_)
        exact ret_of (T := T0) hT hm (f := 5000) (orc := [.call [] (.v (.bool (F124 a0))) [], .d false, .call [] (.v (.bool (F125 a1 (-1099511627776) 1099511627776))) [], .d false, .d true, .call [] (iv (F126 a0.2 a1)) [], .call [] (iv (F126 a0.1 a1)) [], .call [] (.t [(.a (k2 (F121 (F126 a0.2 a1) (F126 a0.1 a1)).1)), (iv (F121 (F126 a0.2 a1) (F126 a0.1 a1)).2)]) []]) [] [] [] hcx
          (obs := [(oC94_0 a0), .eq (!(F124 a0)) false, (oC94_1 a1), .eq (!(F125 a1 (-1099511627776) 1099511627776)) false, .eq (decide ((a1 : Int) < 0)) true, .call 126 [(iv a0.2), (iv a1)] [] (iv (F126 a0.2 a1)) [], .call 126 [(iv a0.1), (iv a1)] [] (iv (F126 a0.1 a1)) [], .call 121 [(iv (F126 a0.2 a1)), (iv (F126 a0.1 a1))] [] (.t [(.a (k2 (F121 (F126 a0.2 a1) (F126 a0.1 a1)).1)), (iv (F121 (F126 a0.2 a1) (F126 a0.1 a1)).2)]) []]) (by kernel_rfl) ⟨(C124 a0), h0, (C125 a1 (-1099511627776) 1099511627776), h1, h2, (C126 a0.2 a1), (C126 a0.1 a1), (C121 (F126 a0.2 a1) (F126 a0.1 a1)), trivial⟩
      | false =>
        have q2 := of_decide_eq_false h2
        have e : (F94 a0 a1) = ((F121 (F126 a0.1 a1) (F126 a0.2 a1)).1, (F121 (F126 a0.1 a1) (F126 a0.2 a1)).2) := by simp only [F94, h0, h1, h2, cond_true, cond_false]
        rw [e]
        refine con_of (n := 9) Try.func94 rfl (ent Try.func94 (by kernel_rfl) rfl) (by show 2 ≤ Try.f94.ntmps; decide) (by kernel_rfl) trivial (fun cx hcx => ?_)
        exact ret_of (T := T0) hT hm (f := 5000) (orc := [.call [] (.v (.bool (F124 a0))) [], .d false, .call [] (.v (.bool (F125 a1 (-1099511627776) 1099511627776))) [], .d false, .d false, .call [] (iv (F126 a0.1 a1)) [], .call [] (iv (F126 a0.2 a1)) [], .call [] (.t [(.a (k2 (F121 (F126 a0.1 a1) (F126 a0.2 a1)).1)), (iv (F121 (F126 a0.1 a1) (F126 a0.2 a1)).2)]) []]) [] [] [] hcx
          (obs := [(oC94_0 a0), .eq (!(F124 a0)) false, (oC94_1 a1), .eq (!(F125 a1 (-1099511627776) 1099511627776)) false, .eq (decide ((a1 : Int) < 0)) false, .call 126 [(iv a0.1), (iv a1)] [] (iv (F126 a0.1 a1)) [], .call 126 [(iv a0.2), (iv a1)] [] (iv (F126 a0.2 a1)) [], .call 121 [(iv (F126 a0.1 a1)), (iv (F126 a0.2 a1))] [] (.t [(.a (k2 (F121 (F126 a0.1 a1) (F126 a0.2 a1)).1)), (iv (F121 (F126 a0.1 a1) (F126 a0.2 a1)).2)]) []]) (by kernel_rfl) ⟨(C124 a0), h0, (C125 a1 (-1099511627776) 1099511627776), h1, h2, (C126 a0.1 a1), (C126 a0.2 a1), (C121 (F126 a0.1 a1) (F126 a0.2 a1)), trivial⟩

end Go.Proofs.Ytopbnnmkdildgaa

namespace Go.Proofs.Ytopbnnmkdildgaa
open Go.Proofs Go.Aw Go.RowKit
set_option maxRecDepth 100000
set_option linter.unusedVariables false
set_option linter.unusedSimpArgs false

/-! ### Products that may be too large -/
theorem U_def (n : Int) : IntKind.wrap .u64 n = n % 18446744073709551616 := by
  simp [IntKind.wrap, IntKind.bits, IntKind.signed]
theorem fdiv32 (a : Int) : Int.fdiv a (2 ^ (min (Int.toNat 32) 64)) = a / 4294967296 := by
  rw [show (2 : Int) ^ (min (Int.toNat 32) 64) = 4294967296 from by kernel_rfl]
  exact Int.fdiv_eq_ediv_of_nonneg _ (by omega)
theorem and32 (a : Int) : ((BitVec.ofInt 64 a &&& BitVec.ofInt 64 4294967295).toNat : Int) = a % 4294967296 := by
  rw [BitVec.toNat_and, show (BitVec.ofInt 64 4294967295).toNat = 2 ^ 32 - 1 from by kernel_rfl, Nat.and_two_pow_sub_one_eq_mod, BitVec.toNat_ofInt]
  have h0 := Int.emod_nonneg a (show (18446744073709551616 : Int) ≠ 0 by omega)
  rw [show ((2 ^ 64 : Nat) : Int) = 18446744073709551616 from by kernel_rfl]
  have h1 : (((a % 18446744073709551616).toNat : Nat) : Int) = a % 18446744073709551616 := Int.toNat_of_nonneg h0
  rw [Int.natCast_emod, h1]
  show a % 18446744073709551616 % 4294967296 = _
  omega
theorem mul64 {x y : Int} (hx : 0 ≤ x ∧ x ≤ 1099511627776) (hy : 0 ≤ y ∧ y ≤ 1099511627776) : F155 x y = (x * y / 18446744073709551616, x * y % 18446744073709551616) := by
  unfold F155
  simp only [U_def, fdiv32, and32]
  have e0 : ∀ n : Int, n % 4294967296 % 18446744073709551616 = n % 4294967296 := fun n => by omega
  simp only [e0]
  have key : x * y = (x / 4294967296 * (y / 4294967296)) * 18446744073709551616 + (x / 4294967296 * (y % 4294967296) + x % 4294967296 * (y / 4294967296)) * 4294967296 + x % 4294967296 * (y % 4294967296) := by
    have h1 := Int.mul_ediv_add_emod x 4294967296
    have h2 := Int.mul_ediv_add_emod y 4294967296
    generalize x / 4294967296 = x1 at *
    generalize x % 4294967296 = x0 at *
    generalize y / 4294967296 = y1 at *
    generalize y % 4294967296 = y0 at *
    subst h1; subst h2; grind
  have b1 := mul_bd (a := 256) (b := 256) (x := x / 4294967296) (y := y / 4294967296) (by omega) (by omega)
  have b2 := mul_bd (a := 256) (b := 4294967295) (x := x / 4294967296) (y := y % 4294967296) (by omega) (by omega)
  have b3 := mul_bd (a := 4294967295) (b := 256) (x := x % 4294967296) (y := y / 4294967296) (by omega) (by omega)
  have b4 := mul_bd (a := 4294967295) (b := 4294967295) (x := x % 4294967296) (y := y % 4294967296) (by omega) (by omega)
  have n1 : 0 ≤ x / 4294967296 * (y / 4294967296) := Int.mul_nonneg (by omega) (by omega)
  have n2 : 0 ≤ x / 4294967296 * (y % 4294967296) := Int.mul_nonneg (by omega) (by omega)
  have n3 : 0 ≤ x % 4294967296 * (y / 4294967296) := Int.mul_nonneg (by omega) (by omega)
  have n4 : 0 ≤ x % 4294967296 * (y % 4294967296) := Int.mul_nonneg (by omega) (by omega)
  generalize x * y = m at *
  generalize x / 4294967296 * (y / 4294967296) = d at *
  generalize x / 4294967296 * (y % 4294967296) = b at *
  generalize x % 4294967296 * (y / 4294967296) = c at *
  generalize x % 4294967296 * (y % 4294967296) = a at *
  rw [Prod.mk.injEq]
  exact ⟨by omega, rfl⟩
/-- a product, or what stands for one that is too large -/
def sat (x n : Int) : Int := if 1099511627776 < x * n then 1099511627777 else if x * n < -1099511627776 then -1099511627777 else x * n
theorem ab_mul (x n : Int) : (x * n = (if x < 0 then 0 - x else x) * (if n < 0 then 0 - n else n) ∧ ((x < 0) = (n < 0))) ∨ (x * n = -((if x < 0 then 0 - x else x) * (if n < 0 then 0 - n else n)) ∧ ¬ ((x < 0) = (n < 0))) := by
  by_cases h1 : x < 0
  · by_cases h2 : n < 0
    · left; rw [if_pos h1, if_pos h2]; exact ⟨by grind, by simp [h1, h2]⟩
    · right; rw [if_pos h1, if_neg h2]; exact ⟨by grind, by simp [h1, h2]⟩
  · by_cases h2 : n < 0
    · right; rw [if_neg h1, if_pos h2]; exact ⟨by grind, by simp [h1, h2]⟩
    · left; rw [if_neg h1, if_neg h2]; exact ⟨by grind, by simp [h1, h2]⟩
theorem prod_r {x n : Int} (hx : -1099511627776 ≤ x ∧ x ≤ 1099511627776) (hn : -1099511627776 ≤ n ∧ n ≤ 1099511627776) : F126 x n = sat x n := by
  have hsz : ∀ z : Int, -1099511627776 ≤ z ∧ z ≤ 1099511627776 → F156 z = if z < 0 then 0 - z else z := by
    intro z hz
    unfold F156
    by_cases h : z < 0
    · rw [decide_eq_true h, cond_true, if_pos h, W_eq (by omega) (by omega), U_def]; omega
    · rw [decide_eq_false h, cond_false, if_neg h, U_def]; omega
  unfold F126 sat
  rw [hsz x hx, hsz n hn, mul64 (by split <;> omega) (by split <;> omega)]
  have hm := ab_mul x n
  have hnn : 0 ≤ (if x < 0 then 0 - x else x) * (if n < 0 then 0 - n else n) := Int.mul_nonneg (by split <;> omega) (by split <;> omega)
  generalize (if x < 0 then 0 - x else x) * (if n < 0 then 0 - n else n) = m at *
  have e : (!(decide (x < 0) == decide (n < 0))) = decide (x * n = -m ∧ ¬ ((x < 0) = (n < 0))) := by
    by_cases h1 : x < 0 <;> by_cases h2 : n < 0 <;> simp [h1, h2] at hm ⊢ <;> omega
  rw [e]
  simp only
  by_cases h1 : m / 18446744073709551616 = 0
  · rw [beq_iff_eq.2 h1, cond_true]
    have h2 : m % 18446744073709551616 = m := by omega
    rw [h2]
    by_cases h3 : m ≤ 1099511627776
    · rw [decide_eq_true h3, cond_true, W_eq (n := m) (by omega) (by omega), W_eq (n := 0 - m) (by omega) (by omega)]
      rcases hm with ⟨q1, q2⟩ | ⟨q1, q2⟩
      · rw [decide_eq_false (fun h => h.2 q2), cond_false, q1, if_neg (by omega), if_neg (by omega)]
      · rw [decide_eq_true ⟨q1, q2⟩, cond_true, q1, if_neg (by omega), if_neg (by omega)]; omega
    · rw [decide_eq_false h3, cond_false]
      rcases hm with ⟨q1, q2⟩ | ⟨q1, q2⟩
      · rw [decide_eq_false (fun h => h.2 q2), cond_false, q1, if_pos (by omega)]
      · rw [decide_eq_true ⟨q1, q2⟩, cond_true, q1, if_neg (by omega), if_pos (by omega)]
  · rw [beq_eq_false_iff_ne.2 h1, cond_false]
    rcases hm with ⟨q1, q2⟩ | ⟨q1, q2⟩
    · rw [decide_eq_false (fun h => h.2 q2), cond_false, q1, if_pos (by omega)]
    · rw [decide_eq_true ⟨q1, q2⟩, cond_true, q1, if_neg (by omega), if_pos (by omega)]

theorem prod_f {x n : Int} (hx : -1099511627776 ≤ x ∧ x ≤ 1099511627776) (hn : -1099511627776 ≤ n ∧ n ≤ 1099511627776) : F77 x n = sat x n := by
  have hm := ab_mul x n
  have ha : ∀ z : Int, (-1099511627776 ≤ z ∧ z ≤ 1099511627776) → (if (z : Int) < (W (0 - z)) then (W (0 - z)) else z) = if z < 0 then 0 - z else z := by
    intro z hz
    rw [W_eq (n := 0 - z) (by omega) (by omega)]
    (repeat' split) <;> omega
  unfold F77 sat
  rw [ha x hx, ha n hn]
  by_cases hx0 : x = 0
  · subst hx0; simp [W_eq]
  by_cases hn0 : n = 0
  · subst hn0; simp [W_eq]
  rw [bne_iff_ne.2 hx0, bne_iff_ne.2 hn0, cond_true, cond_true]
  have a1 : 1 ≤ (if x < 0 then 0 - x else x) ∧ (if x < 0 then 0 - x else x) ≤ 1099511627776 := by split <;> omega
  have a2 : 1 ≤ (if n < 0 then 0 - n else n) ∧ (if n < 0 then 0 - n else n) ≤ 1099511627776 := by split <;> omega
  have e : (!(decide (x < 0) == decide (n < 0))) = decide (x * n = -((if x < 0 then 0 - x else x) * (if n < 0 then 0 - n else n)) ∧ ¬ ((x < 0) = (n < 0))) := by
    by_cases h1 : x < 0 <;> by_cases h2 : n < 0 <;> simp [h1, h2] at hm ⊢ <;> omega
  rw [e]
  generalize (if x < 0 then 0 - x else x) = ax at *
  generalize (if n < 0 then 0 - n else n) = an at *
  rw [Int.tdiv_eq_ediv_of_nonneg (by omega)]
  obtain ⟨d1, d2, d3⟩ := quo_bd (N := 1099511627776) (n := ax) (by omega) (by omega)
  have d4 := Int.mul_ediv_add_emod 1099511627776 ax
  have d5 := Int.emod_lt_of_pos 1099511627776 (show 0 < ax by omega)
  rw [W_eq (n := 1099511627776 / ax) (by omega) (by omega)]
  have hbig : an > 1099511627776 / ax ↔ 1099511627776 < ax * an := by
    constructor
    · intro h
      have := Int.mul_le_mul_of_nonneg_left (show 1099511627776 / ax + 1 ≤ an by omega) (show 0 ≤ ax by omega)
      rw [Int.mul_add, Int.mul_one] at this; omega
    · intro h
      rcases Int.lt_or_le (1099511627776 / ax) an with h' | h'
      · exact h'
      · have := Int.mul_le_mul_of_nonneg_left h' (show 0 ≤ ax by omega)
        rw [Int.mul_comm] at d3; omega
  by_cases hb : an > 1099511627776 / ax
  · rw [decide_eq_true hb, cond_true]
    have := hbig.1 hb
    rcases hm with ⟨q1, q2⟩ | ⟨q1, q2⟩
    · rw [decide_eq_false (fun h => h.2 q2), cond_false, q1, if_pos (by omega)]
    · rw [decide_eq_true ⟨q1, q2⟩, cond_true, q1, if_neg (by omega), if_pos (by omega)]
  · rw [decide_eq_false hb, cond_false]
    have h1 : ax * an ≤ 1099511627776 := by
      rcases Int.lt_or_le 1099511627776 (ax * an) with h | h
      · exact absurd (hbig.2 h) hb
      · exact h
    have h2 : 0 ≤ ax * an := Int.mul_nonneg (by omega) (by omega)
    rcases hm with ⟨q1, q2⟩ | ⟨q1, q2⟩ <;> rw [q1, if_neg (by omega), if_neg (by omega)] <;> exact W_eq (by omega) (by omega)
theorem sat_mono {x y n : Int} (h : x ≤ y) (hn : 0 ≤ n) : sat x n ≤ sat y n := by
  have := Int.mul_le_mul_of_nonneg_right h hn
  unfold sat; (repeat' split) <;> omega
theorem sat_anti {x y n : Int} (h : x ≤ y) (hn : n ≤ 0) : sat y n ≤ sat x n := by
  have := Int.mul_le_mul_of_nonpos_right h hn
  unfold sat; (repeat' split) <;> omega
/-- the least span of the products -/
def scl (a : Int × Int) (n : Int) : Int × Int := if n < 0 then (sat a.2 n, sat a.1 n) else (sat a.1 n, sat a.2 n)
/-- a span that is valid -/
def vs (a : Int × Int) : Prop := -1099511627776 ≤ a.1 ∧ a.1 ≤ a.2 ∧ a.2 ≤ 1099511627776
theorem Scale_f {a : Int × Int} {n : Int} (ha : vs a) (hn : -1099511627776 ≤ n ∧ n ≤ 1099511627776) : F39 a n = F78 (scl a n).1 (scl a n).2 := by
  obtain ⟨h1, h2, h3⟩ := ha
  unfold F39 F75_1 F76
  rw [val_f (a := a.1) (b := a.2) h1 h2 h3, decide_eq_true (show n ≥ -1099511627776 from hn.1), decide_eq_true hn.2, prod_f (x := a.1) (by omega) hn, prod_f (x := a.2) (by omega) hn]
  show ((F78 _ _).1, (F78 _ _).2) = _
  unfold scl
  by_cases h : n < 0
  · have := sat_anti h2 (show n ≤ 0 by omega)
    rw [if_pos h]
    simp only
    rw [show (if (sat a.2 n : Int) < sat a.1 n then sat a.2 n else sat a.1 n) = sat a.2 n by split <;> omega, show (if (sat a.1 n : Int) < sat a.2 n then sat a.2 n else sat a.1 n) = sat a.1 n by split <;> omega]
  · have := sat_mono h2 (show 0 ≤ n by omega)
    rw [if_neg h]
    simp only
    rw [show (if (sat a.2 n : Int) < sat a.1 n then sat a.2 n else sat a.1 n) = sat a.1 n by split <;> omega, show (if (sat a.1 n : Int) < sat a.2 n then sat a.2 n else sat a.1 n) = sat a.2 n by split <;> omega]
theorem val_r {a b : Int} (h1 : -1099511627776 ≤ a) (h2 : a ≤ b) (h3 : b ≤ 1099511627776) : F124 (a, b) = true := val_f h1 h2 h3
theorem told_eq (a b : Int) : F121 a b = F78 a b := rfl
theorem Scale_r {a : Int × Int} {n : Int} (ha : vs a) (hn : -1099511627776 ≤ n ∧ n ≤ 1099511627776) : F94 a n = F78 (scl a n).1 (scl a n).2 := by
  obtain ⟨h1, h2, h3⟩ := ha
  unfold F94
  rw [val_r (a := a.1) (b := a.2) h1 h2 h3, within_eq1, decide_eq_true hn, prod_r (x := a.1) (by omega) hn, prod_r (x := a.2) (by omega) hn, told_eq, told_eq]
  unfold scl
  by_cases h : n < 0
  · rw [if_pos h, decide_eq_true h]; rfl
  · rw [if_neg h, decide_eq_false h]; rfl
/-! halves -/
def hlf (a : Int × Int) : Int × Int := (a.1 / 2, -(-a.2 / 2))
theorem hlf_ok {a : Int × Int} (h : vs a) : vs (hlf a) := by unfold vs hlf at *; simp only; omega
theorem dn2_f {a : Int} (ha : -1099511627776 ≤ a ∧ a ≤ 1099511627776) : F115 a 2 = a / 2 := by
  unfold F115
  rcases Int.lt_or_le a 0 with h | h
  · obtain ⟨b, rfl⟩ : ∃ b : Int, a = -b := ⟨-a, by omega⟩
    have hb : 0 ≤ b := by omega
    rw [Int.neg_tdiv, Int.neg_tmod, Int.tdiv_eq_ediv_of_nonneg hb, Int.tmod_eq_emod_of_nonneg hb, W_eq (n := -(b / 2)) (by omega) (by omega), decide_eq_true h, W_eq (n := -(b / 2) - 1) (by omega) (by omega)]
    by_cases h1 : -(b % 2) = 0
    · rw [h1]; show -(b / 2) = _; omega
    · rw [bne_iff_ne.2 h1]; show -(b / 2) - 1 = _; omega
  · rw [decide_eq_false (by omega), Int.tdiv_eq_ediv_of_nonneg h, W_eq (n := a / 2) (by omega) (by omega)]
    cases ((Int.tmod a 2 : Int) != 0) <;> rfl
theorem Part_f {a : Int × Int} (ha : vs a) : F148 a 2 = (hlf a, 0) := by
  have hh := hlf_ok ha
  obtain ⟨h1, h2, h3⟩ := ha
  unfold F148 F75_1 F116
  rw [val_f (a := a.1) (b := a.2) h1 h2 h3, dn2_f (by omega), W_eq (n := 0 - a.2) (by omega) (by omega), dn2_f (a := 0 - a.2) (by omega), W_eq (n := 0 - (0 - a.2) / 2) (by omega) (by omega), Int.zero_sub, Int.zero_sub]
  show ((F78 (hlf a).1 (hlf a).2).1, (F78 (hlf a).1 (hlf a).2).2) = _
  rw [res_f hh.1 hh.2.1 hh.2.2]
theorem res_cases (a b : Int) : (F78 a b = ((a, b), 0) ∧ vs (a, b)) ∨ F78 a b = ((0, 0), 4) := by
  by_cases h : vs (a, b)
  · exact Or.inl ⟨res_f h.1 h.2.1 h.2.2, h⟩
  · right
    unfold F78
    have : F102 (a, b) = false := by
      unfold F102
      by_cases h1 : (a, b).1 ≥ -1099511627776
      · by_cases h2 : (a, b).1 ≤ (a, b).2
        · rw [decide_eq_true h1, decide_eq_true h2, cond_true, cond_true]; exact decide_eq_false (fun h3 => h ⟨h1, h2, h3⟩)
        · rw [decide_eq_true h1, decide_eq_false h2]; rfl
      · rw [decide_eq_false h1]; rfl
    rw [this]; rfl

end Go.Proofs.Ytopbnnmkdildgaa

namespace Go.Proofs.Ytopbnnmkdildgaa
open Go.Proofs Go.Aw Go.RowKit
set_option maxRecDepth 100000
set_option linter.unusedVariables false
set_option linter.unusedSimpArgs false

/-! ### Solid angles -/
def ht (p : PN) (x : P3) : Int := dt (sb p.1 x) (cr (sb p.2.1 x) (sb p.2.2 x))
theorem ht_bd {p : PN} {x : P3} (hp : bdP 64 p) (hx : bd 256 x) : bd 320 (sb p.1 x) ∧ bd 204800 (cr (sb p.2.1 x) (sb p.2.2 x)) ∧ -1099511627776 ≤ ht p x ∧ ht p x ≤ 1099511627776 := by
  have h1 : bd 320 (sb p.1 x) := bd_sb hp.1 hx
  have h2 : bd 204800 (cr (sb p.2.1 x) (sb p.2.2 x)) := cr_bd (bd_sb hp.2.1 hx) (bd_sb hp.2.2 hx)
  have := dt_bd (h1.mono (show (320 : Int) ≤ 204800 by omega)) h2
  exact ⟨h1, h2, by unfold ht; omega⟩
open Classical in
noncomputable def angR (m : Int × Int) (h : Int) : (Int × Int) × Int := if vs (scl m h) then (hlf (scl m h), 0) else ((0, 0), 4)
theorem avg_vs {v : Int × Int} {n : Int} (hn : n = 1 ∨ n = 4 ∨ n = 16 ∨ n = 64) (h : okv v 0) : vs (avg v n) := by
  unfold okv at h; unfold vs avg; simp only
  rcases hn with rfl | rfl | rfl | rfl <;> omega
theorem meanS_vs {of : Int → Int × Int} (ho : OfOk of) {p : PN} {x : P3} {d : Int} (hd : 0 ≤ d ∧ d ≤ 3) : ((meanS of p x d).2 = 0 ∧ vs (meanS of p x d).1) ∨ meanS of p x d = ((0, 0), 10) := by
  unfold meanS
  cases h : acc of (tm (sc d) x) (cutL d.toNat p) (0, 0) with
  | inl v => exact Or.inl ⟨rfl, avg_vs (cnt_in d) (acc_ok ho (okv_0 hd) h)⟩
  | inr r =>
    right
    have key : ∀ (l : List PN) (v : Int × Int) (r : (Int × Int) × Int), acc of (tm (sc d) x) l v = .inr r → r = ((0, 0), 10) := by
      intro l
      induction l with
      | nil => intro v r h; cases h
      | cons c l ih =>
        intro v r h
        unfold acc at h
        split at h
        · cases h; rfl
        · exact ih _ _ h
    exact key _ _ _ h
theorem meanV_vs {p : PN} {x : P3} {d : Int} {of : Int → Int → Int × Int} (ho : ∀ s, s = 1 ∨ s = 2 ∨ s = 4 ∨ s = 8 → OfOk (of s)) (h : (meanV of p x d).2 = 0) : ck p x d = 0 ∧ vs (meanV of p x d).1 := by
  unfold meanV at *
  by_cases hc : ck p x d = 0
  · rw [if_pos hc] at *
    refine ⟨hc, ?_⟩
    rcases meanS_vs (ho _ (sc_in d)) (p := p) (x := x) (ck_ok hc).2.2 with h1 | h1
    · exact h1.2
    · rw [h1] at h; cases h
  · rw [if_neg hc] at h; exact absurd h hc
theorem meanV_err {p : PN} {x : P3} {d : Int} {of : Int → Int → Int × Int} (ho : ∀ s, s = 1 ∨ s = 2 ∨ s = 4 ∨ s = 8 → OfOk (of s)) (h : (meanV of p x d).2 ≠ 0) : (meanV of p x d).1 = (0, 0) := by
  unfold meanV at *
  by_cases hc : ck p x d = 0
  · rw [if_pos hc] at *
    rcases meanS_vs (ho _ (sc_in d)) (p := p) (x := x) (ck_ok hc).2.2 with h1 | h1
    · exact absurd h1.1 h
    · rw [h1]
  · rw [if_neg hc]
open Classical in
noncomputable def angV (p : PN) (x : P3) (d : Int) : (Int × Int) × Int := if (meanV of3 p x d).2 = 0 then angR (meanV of3 p x d).1 (ht p x) else ((0, 0), (meanV of3 p x d).2)
theorem of1_all : ∀ s : Int, s = 1 ∨ s = 2 ∨ s = 4 ∨ s = 8 → OfOk (of1 s) := fun s h => of1_ok h
theorem of3_all : ∀ s : Int, s = 1 ∨ s = 2 ∨ s = 4 ∨ s = 8 → OfOk (of3 s) := fun s h => of3_ok h
/-! ### Corners exchanged -/
def tBC (p : PN) : PN := (p.1, p.2.2, p.2.1)
def tAC (p : PN) : PN := (p.2.2, p.2.1, p.1)
def tAB (p : PN) : PN := (p.2.1, p.1, p.2.2)
theorem mid_comm (p q : P3) : F143 p q = F143 q p := by
  simp only [F143, Int.add_comm]
def sumP (g : PN → Int) (d : Nat) (p : PN) : Int := ((cutL d p).map g).sum
theorem sumP_succ (g : PN → Int) (d : Nat) (p : PN) : sumP g (d + 1) p = sumP g d (q1 p) + (sumP g d (q2 p) + (sumP g d (q3 p) + sumP g d (q4 p))) := by
  unfold sumP
  rw [show cutL (d + 1) p = cutL d (q1 p) ++ (cutL d (q2 p) ++ (cutL d (q3 p) ++ cutL d (q4 p))) from rfl]
  simp only [List.map_append, List.sum_append]
theorem sumP_t {g : PN → Int} (h1 : ∀ p, g (tBC p) = g p) (h2 : ∀ p, g (tAC p) = g p) (h3 : ∀ p, g (tAB p) = g p) :
    ∀ (d : Nat) (p : PN), sumP g d (tBC p) = sumP g d p ∧ sumP g d (tAC p) = sumP g d p ∧ sumP g d (tAB p) = sumP g d p
  | 0, p => by
    have e : ∀ q, sumP g 0 q = g q := fun q => by simp [sumP, cutL]
    rw [e, e, e, e]; exact ⟨h1 p, h2 p, h3 p⟩
  | d + 1, p => by
    have ih := sumP_t h1 h2 h3 d
    refine ⟨?_, ?_, ?_⟩
    · rw [sumP_succ, sumP_succ]
      have e1 : q1 (tBC p) = tBC (q1 p) := by unfold q1 tBC; simp only; rw [mid_comm p.1 p.2.2, mid_comm p.2.1 p.1]
      have e2 : q2 (tBC p) = tBC (q3 p) := by unfold q2 q3 tBC; simp only; rw [mid_comm p.1 p.2.2, mid_comm p.2.2 p.2.1]
      have e3 : q3 (tBC p) = tBC (q2 p) := by unfold q2 q3 tBC; simp only; rw [mid_comm p.2.1 p.1, mid_comm p.2.2 p.2.1]
      have e4 : q4 (tBC p) = tAC (q4 p) := by unfold q4 tBC tAC; simp only; rw [mid_comm p.1 p.2.2, mid_comm p.2.2 p.2.1, mid_comm p.2.1 p.1]
      rw [e1, e2, e3, e4, (ih (q1 p)).1, (ih (q2 p)).1, (ih (q3 p)).1, (ih (q4 p)).2.1]; omega
    · rw [sumP_succ, sumP_succ]
      have e1 : q1 (tAC p) = tAC (q3 p) := by unfold q1 q3 tAC; simp only; rw [mid_comm p.2.2 p.2.1, mid_comm p.1 p.2.2]
      have e2 : q2 (tAC p) = tAC (q2 p) := by unfold q2 tAC; simp only; rw [mid_comm p.2.2 p.2.1, mid_comm p.2.1 p.1]
      have e3 : q3 (tAC p) = tAC (q1 p) := by unfold q1 q3 tAC; simp only; rw [mid_comm p.1 p.2.2, mid_comm p.2.1 p.1]
      have e4 : q4 (tAC p) = tAB (q4 p) := by unfold q4 tAC tAB; simp only; rw [mid_comm p.2.2 p.2.1, mid_comm p.2.1 p.1, mid_comm p.1 p.2.2]
      rw [e1, e2, e3, e4, (ih (q1 p)).2.1, (ih (q2 p)).2.1, (ih (q3 p)).2.1, (ih (q4 p)).2.2]; omega
    · rw [sumP_succ, sumP_succ]
      have e1 : q1 (tAB p) = tAB (q2 p) := by unfold q1 q2 tAB; simp only; rw [mid_comm p.2.1 p.1, mid_comm p.2.2 p.2.1]
      have e2 : q2 (tAB p) = tAB (q1 p) := by unfold q1 q2 tAB; simp only; rw [mid_comm p.2.1 p.1, mid_comm p.1 p.2.2]
      have e3 : q3 (tAB p) = tAB (q3 p) := by unfold q3 tAB; simp only; rw [mid_comm p.2.2 p.2.1, mid_comm p.1 p.2.2]
      have e4 : q4 (tAB p) = tBC (q4 p) := by unfold q4 tAB tBC; simp only; rw [mid_comm p.2.1 p.1, mid_comm p.1 p.2.2, mid_comm p.2.2 p.2.1]
      rw [e1, e2, e3, e4, (ih (q1 p)).2.2, (ih (q2 p)).2.2, (ih (q3 p)).2.2, (ih (q4 p)).1]; omega
def zc (x : P3) (c : PN) : Int := if ne c x = 0 then 1 else 0
theorem sum_nn {l : List PN} {g : PN → Int} (h : ∀ c, 0 ≤ g c) : 0 ≤ (l.map g).sum := by
  induction l with
  | nil => simp
  | cons c l ih => have := h c; simp only [List.map_cons, List.sum_cons]; omega
theorem acc_sum (of : Int → Int × Int) (x : P3) : ∀ (l : List PN) (v : Int × Int), acc of x l v =
    if 0 < (l.map (zc x)).sum then .inr ((0, 0), 10) else .inl (v.1 + (l.map fun c => (of (fa c x)).1).sum, v.2 + (l.map fun c => (of (ne c x)).2).sum)
  | [], v => by simp [acc]
  | c :: l, v => by
    have hn : ∀ c, 0 ≤ zc x c := fun c => by unfold zc; split <;> omega
    have h0 := sum_nn (l := l) hn
    unfold acc
    rw [acc_sum of x l]
    simp only [List.map_cons, List.sum_cons]
    by_cases h : ne c x = 0
    · have e : zc x c = 1 := by unfold zc; rw [if_pos h]
      rw [if_pos h, e, if_pos (by omega)]
    · have e : zc x c = 0 := by unfold zc; rw [if_neg h]
      rw [if_neg h, e, Int.zero_add]
      by_cases h' : 0 < (l.map (zc x)).sum
      · rw [if_pos h', if_pos h']
      · rw [if_neg h', if_neg h', Int.add_assoc, Int.add_assoc]
theorem lo3_t (a b c : Int) : lo3 a c b = lo3 a b c ∧ lo3 c b a = lo3 a b c ∧ lo3 b a c = lo3 a b c := by
  unfold lo3; simp only [Int.lt_irrefl, if_false]
  refine ⟨?_, ?_, ?_⟩ <;> (repeat' split) <;> omega
theorem hi3_t (a b c : Int) : hi3 a c b = hi3 a b c ∧ hi3 c b a = hi3 a b c ∧ hi3 b a c = hi3 a b c := by
  unfold hi3; simp only [Int.lt_irrefl, if_false]
  refine ⟨?_, ?_, ?_⟩ <;> (repeat' split) <;> omega
theorem ne_t (c : PN) (x : P3) : ne (tBC c) x = ne c x ∧ ne (tAC c) x = ne c x ∧ ne (tAB c) x = ne c x := by
  have l := fun a b c => lo3_t a b c; have h := fun a b c => hi3_t a b c
  unfold ne blo bhi tBC tAC tAB
  simp only
  refine ⟨?_, ?_, ?_⟩
  · rw [(l c.1.1 c.2.1.1 c.2.2.1).1, (l c.1.2.1 c.2.1.2.1 c.2.2.2.1).1, (l c.1.2.2 c.2.1.2.2 c.2.2.2.2).1, (h c.1.1 c.2.1.1 c.2.2.1).1, (h c.1.2.1 c.2.1.2.1 c.2.2.2.1).1, (h c.1.2.2 c.2.1.2.2 c.2.2.2.2).1]
  · rw [(l c.1.1 c.2.1.1 c.2.2.1).2.1, (l c.1.2.1 c.2.1.2.1 c.2.2.2.1).2.1, (l c.1.2.2 c.2.1.2.2 c.2.2.2.2).2.1, (h c.1.1 c.2.1.1 c.2.2.1).2.1, (h c.1.2.1 c.2.1.2.1 c.2.2.2.1).2.1, (h c.1.2.2 c.2.1.2.2 c.2.2.2.2).2.1]
  · rw [(l c.1.1 c.2.1.1 c.2.2.1).2.2, (l c.1.2.1 c.2.1.2.1 c.2.2.2.1).2.2, (l c.1.2.2 c.2.1.2.2 c.2.2.2.2).2.2, (h c.1.1 c.2.1.1 c.2.2.1).2.2, (h c.1.2.1 c.2.1.2.1 c.2.2.2.1).2.2, (h c.1.2.2 c.2.1.2.2 c.2.2.2.2).2.2]
theorem fa_t (c : PN) (x : P3) : fa (tBC c) x = fa c x ∧ fa (tAC c) x = fa c x ∧ fa (tAB c) x = fa c x := by
  unfold fa tBC tAC tAB
  simp only
  generalize ds c.1 x = a; generalize ds c.2.1 x = b; generalize ds c.2.2 x = e
  unfold mx
  refine ⟨?_, ?_, ?_⟩ <;> (repeat' split) <;> omega
theorem acc_t (of : Int → Int × Int) (x : P3) (d : Nat) (p : PN) (v : Int × Int) : acc of x (cutL d (tBC p)) v = acc of x (cutL d p) v := by
  rw [acc_sum, acc_sum]
  have e0 : ((cutL d (tBC p)).map (zc x)).sum = ((cutL d p).map (zc x)).sum := (sumP_t (g := zc x) (fun q => by unfold zc; rw [(ne_t q x).1]) (fun q => by unfold zc; rw [(ne_t q x).2.1]) (fun q => by unfold zc; rw [(ne_t q x).2.2]) d p).1
  have e1 : ((cutL d (tBC p)).map fun c => (of (fa c x)).1).sum = ((cutL d p).map fun c => (of (fa c x)).1).sum := (sumP_t (g := fun c => (of (fa c x)).1) (fun q => by rw [(fa_t q x).1]) (fun q => by rw [(fa_t q x).2.1]) (fun q => by rw [(fa_t q x).2.2]) d p).1
  have e2 : ((cutL d (tBC p)).map fun c => (of (ne c x)).2).sum = ((cutL d p).map fun c => (of (ne c x)).2).sum := (sumP_t (g := fun c => (of (ne c x)).2) (fun q => by rw [(ne_t q x).1]) (fun q => by rw [(ne_t q x).2.1]) (fun q => by rw [(ne_t q x).2.2]) d p).1
  rw [e0, e1, e2]
theorem vp_t (p : PN) : vp (tBC p) = vp p := by
  have hb : bdP 64 (tBC p) ↔ bdP 64 p := ⟨fun h => ⟨h.1, h.2.2, h.2.1⟩, fun h => ⟨h.1, h.2.2, h.2.1⟩⟩
  have hn : nrm (tBC p) = (-(nrm p).1, -(nrm p).2.1, -(nrm p).2.2) := by
    unfold nrm cr sb tBC; simp only [Prod.mk.injEq]; refine ⟨?_, ?_, ?_⟩ <;> grind
  unfold vp
  rw [hn]
  by_cases h : bdP 64 p
  · rw [if_pos h, if_pos (hb.2 h)]
    by_cases h' : (nrm p).1 = 0 ∧ (nrm p).2.1 = 0 ∧ (nrm p).2.2 = 0
    · rw [if_pos h', if_pos (by simp only; omega)]
    · rw [if_neg h', if_neg (by simp only; omega)]
  · rw [if_neg h, if_neg (fun h' => h (hb.1 h'))]
theorem meanV_t (of : Int → Int → Int × Int) (p : PN) (x : P3) (d : Int) : meanV of (tBC p) x d = meanV of p x d := by
  unfold meanV meanS ck
  rw [vp_t, acc_t]
theorem ht_t (p : PN) (x : P3) : ht (tBC p) x = -ht p x := by
  unfold ht dt cr sb tBC; grind
theorem sat_neg (x n : Int) : sat x (-n) = -sat x n := by
  unfold sat; rw [Int.mul_neg]; (repeat' split) <;> omega
theorem scl_neg {m : Int × Int} (h : m.1 ≤ m.2) (n : Int) : scl m (-n) = (-(scl m n).2, -(scl m n).1) := by
  unfold scl
  rw [sat_neg, sat_neg]
  rcases Int.lt_trichotomy n 0 with h1 | h1 | h1
  · rw [if_pos h1, if_neg (by omega)]
  · subst h1
    have e : ∀ z, sat z 0 = 0 := fun z => by unfold sat; simp
    simp [e]
  · rw [if_neg (show ¬ n < 0 by omega), if_pos (show -n < 0 by omega)]
theorem hlf_neg (a : Int × Int) : hlf (-a.2, -a.1) = (-(hlf a).2, -(hlf a).1) := by
  unfold hlf; simp only [Int.neg_neg]
theorem angR_neg {m : Int × Int} (h : vs m) (n : Int) : angR m (-n) = ((-(angR m n).1.2, -(angR m n).1.1), (angR m n).2) := by
  unfold angR
  rw [scl_neg h.2.1]
  have hv : vs (-(scl m n).2, -(scl m n).1) ↔ vs (scl m n) := by unfold vs; simp only; omega
  by_cases h' : vs (scl m n)
  · rw [if_pos h', if_pos (hv.2 h'), hlf_neg]
  · rw [if_neg h', if_neg (fun h => h' (hv.1 h))]; rfl
theorem angV_t (p : PN) (x : P3) (d : Int) : angV (tBC p) x d = ((-(angV p x d).1.2, -(angV p x d).1.1), (angV p x d).2) := by
  unfold angV
  rw [meanV_t, ht_t]
  by_cases h : (meanV of3 p x d).2 = 0
  · rw [if_pos h, if_pos h, angR_neg (meanV_vs of3_all h).2]
  · rw [if_neg h, if_neg h]; rfl
theorem angV_bd (p : PN) (x : P3) (d : Int) : vs (angV p x d).1 := by
  have h0 : vs (0, 0) := by unfold vs; simp
  unfold angV angR
  split
  · split
    · rename_i h; exact hlf_ok h
    · exact h0
  · exact h0

end Go.Proofs.Ytopbnnmkdildgaa

namespace Go.Proofs.Ytopbnnmkdildgaa
open Go.Proofs Go.Aw Go.RowKit
set_option maxRecDepth 100000
set_option linter.unusedVariables false
set_option linter.unusedSimpArgs false

/-! ### Finer parts -/
theorem sq2 (s t : Int) : (s + t) * (s + t) ≤ 2 * (s * s) + 2 * (t * t) := by
  have := sq_nn (s - t); grind
def ad (p q : P3) : P3 := (p.1 + q.1, p.2.1 + q.2.1, p.2.2 + q.2.2)
theorem ds_ad (a b x : P3) : ds (ad a b) (tm 2 x) ≤ 2 * ds a x + 2 * ds b x := by
  have h1 := sq2 (a.1 - x.1) (b.1 - x.1); have h2 := sq2 (a.2.1 - x.2.1) (b.2.1 - x.2.1); have h3 := sq2 (a.2.2 - x.2.2) (b.2.2 - x.2.2)
  have e1 : a.1 + b.1 - 2 * x.1 = a.1 - x.1 + (b.1 - x.1) := by omega
  have e2 : a.2.1 + b.2.1 - 2 * x.2.1 = a.2.1 - x.2.1 + (b.2.1 - x.2.1) := by omega
  have e3 : a.2.2 + b.2.2 - 2 * x.2.2 = a.2.2 - x.2.2 + (b.2.2 - x.2.2) := by omega
  unfold ds dt sb ad tm; simp only; rw [e1, e2, e3]; omega
theorem quad_ad {c y : PN} (h : bdP 100000 c) (hy : y ∈ quad c) : ∃ a1 b1 a2 b2 a3 b3 : P3, (a1 = c.1 ∨ a1 = c.2.1 ∨ a1 = c.2.2) ∧ (b1 = c.1 ∨ b1 = c.2.1 ∨ b1 = c.2.2) ∧ (a2 = c.1 ∨ a2 = c.2.1 ∨ a2 = c.2.2) ∧ (b2 = c.1 ∨ b2 = c.2.1 ∨ b2 = c.2.2) ∧ (a3 = c.1 ∨ a3 = c.2.1 ∨ a3 = c.2.2) ∧ (b3 = c.1 ∨ b3 = c.2.1 ∨ b3 = c.2.2) ∧ y = (ad a1 b1, ad a2 b2, ad a3 b3) := by
  unfold quad q1 q2 q3 q4 at hy
  rw [mid_f h.1 h.2.1, mid_f h.2.2 h.1, mid_f h.2.1 h.2.2, times_f h.1, times_f h.2.1, times_f h.2.2] at hy
  have e : ∀ p : P3, (2 * p.1, 2 * p.2.1, 2 * p.2.2) = ad p p := fun p => by unfold ad; simp only [Prod.mk.injEq]; omega
  rw [e, e, e] at hy
  simp only [List.mem_cons, List.mem_nil_iff, or_false] at hy
  rcases hy with rfl | rfl | rfl | rfl
  · exact ⟨c.1, c.1, c.1, c.2.1, c.2.2, c.1, by simp, by simp, by simp, by simp, by simp, by simp, rfl⟩
  · exact ⟨c.1, c.2.1, c.2.1, c.2.1, c.2.1, c.2.2, by simp, by simp, by simp, by simp, by simp, by simp, rfl⟩
  · exact ⟨c.2.2, c.1, c.2.1, c.2.2, c.2.2, c.2.2, by simp, by simp, by simp, by simp, by simp, by simp, rfl⟩
  · exact ⟨c.1, c.2.1, c.2.1, c.2.2, c.2.2, c.1, by simp, by simp, by simp, by simp, by simp, by simp, rfl⟩
theorem fa_ge (c : PN) (x a : P3) (h : a = c.1 ∨ a = c.2.1 ∨ a = c.2.2) : ds a x ≤ fa c x := by
  rcases h with rfl | rfl | rfl
  · exact Int.le_trans (le_mx2 _ _) (Int.le_trans (le_mx1 _ _) (le_mx1 _ _))
  · exact Int.le_trans (le_mx2 _ _) (le_mx1 _ _)
  · exact le_mx2 _ _
theorem fa_quad {c y : PN} {x : P3} (h : bdP 100000 c) (hy : y ∈ quad c) : fa y (tm 2 x) ≤ 4 * fa c x := by
  obtain ⟨a1, b1, a2, b2, a3, b3, h1, k1, h2, k2, h3, k3, rfl⟩ := quad_ad h hy
  have g1 := fa_ge c x a1 h1; have g2 := fa_ge c x b1 k1; have g3 := fa_ge c x a2 h2; have g4 := fa_ge c x b2 k2; have g5 := fa_ge c x a3 h3; have g6 := fa_ge c x b3 k3
  have f1 := ds_ad a1 b1 x; have f2 := ds_ad a2 b2 x; have f3 := ds_ad a3 b3 x
  have g0 : 0 ≤ fa c x := Int.le_trans (dt_self _) (fa_ge c x c.1 (Or.inl rfl))
  exact mx_le (mx_le (mx_le (by omega) (by simp only; omega)) (by simp only; omega)) (by simp only; omega)
theorem in3 {c : PN} {a : P3} (h : a = c.1 ∨ a = c.2.1 ∨ a = c.2.2) : (blo c).1 ≤ a.1 ∧ a.1 ≤ (bhi c).1 ∧ (blo c).2.1 ≤ a.2.1 ∧ a.2.1 ≤ (bhi c).2.1 ∧ (blo c).2.2 ≤ a.2.2 ∧ a.2.2 ≤ (bhi c).2.2 := by
  have l1 := lo3_le c.1.1 c.2.1.1 c.2.2.1; have l2 := lo3_le c.1.2.1 c.2.1.2.1 c.2.2.2.1; have l3 := lo3_le c.1.2.2 c.2.1.2.2 c.2.2.2.2
  have m1 := le_hi3 c.1.1 c.2.1.1 c.2.2.1; have m2 := le_hi3 c.1.2.1 c.2.1.2.1 c.2.2.2.1; have m3 := le_hi3 c.1.2.2 c.2.1.2.2 c.2.2.2.2
  unfold blo bhi
  rcases h with rfl | rfl | rfl
  · exact ⟨l1.1, m1.1, l2.1, m2.1, l3.1, m3.1⟩
  · exact ⟨l1.2.1, m1.2.1, l2.2.1, m2.2.1, l3.2.1, m3.2.1⟩
  · exact ⟨l1.2.2, m1.2.2, l2.2.2, m2.2.2, l3.2.2, m3.2.2⟩
theorem gp_two {a b a' b' x : Int} (h1 : 2 * a ≤ a') (h2 : b' ≤ 2 * b) : 4 * (gp a b x x * gp a b x x) ≤ gp a' b' (2 * x) (2 * x) * gp a' b' (2 * x) (2 * x) := by
  have h : 2 * gp a b x x ≤ gp a' b' (2 * x) (2 * x) := by
    unfold gp mx; (repeat' split) <;> omega
  have h0 := gp_nn a b x x
  have := Int.mul_le_mul h h (by omega) (gp_nn _ _ _ _)
  have e : 2 * gp a b x x * (2 * gp a b x x) = 4 * (gp a b x x * gp a b x x) := by grind
  omega
theorem ne_quad {c y : PN} {x : P3} (h : bdP 100000 c) (hy : y ∈ quad c) : 4 * ne c x ≤ ne y (tm 2 x) := by
  obtain ⟨a1, b1, a2, b2, a3, b3, h1, k1, h2, k2, h3, k3, rfl⟩ := quad_ad h hy
  have i1 := in3 h1; have i2 := in3 k1; have i3 := in3 h2; have i4 := in3 k2; have i5 := in3 h3; have i6 := in3 k3
  have key : ∀ u v w m : Int, m ≤ u → m ≤ v → m ≤ w → m ≤ lo3 u v w := fun u v w m e1 e2 e3 => by rcases lo3_in u v w with e | e | e <;> rw [e] <;> assumption
  have key2 : ∀ u v w m : Int, u ≤ m → v ≤ m → w ≤ m → hi3 u v w ≤ m := fun u v w m e1 e2 e3 => by rcases hi3_in u v w with e | e | e <;> rw [e] <;> assumption
  have g1 := gp_two (a := (blo c).1) (b := (bhi c).1) (x := x.1) (key (a1.1 + b1.1) (a2.1 + b2.1) (a3.1 + b3.1) _ (by omega) (by omega) (by omega)) (key2 (a1.1 + b1.1) (a2.1 + b2.1) (a3.1 + b3.1) _ (by omega) (by omega) (by omega))
  have g2 := gp_two (a := (blo c).2.1) (b := (bhi c).2.1) (x := x.2.1) (key (a1.2.1 + b1.2.1) (a2.2.1 + b2.2.1) (a3.2.1 + b3.2.1) _ (by omega) (by omega) (by omega)) (key2 (a1.2.1 + b1.2.1) (a2.2.1 + b2.2.1) (a3.2.1 + b3.2.1) _ (by omega) (by omega) (by omega))
  have g3 := gp_two (a := (blo c).2.2) (b := (bhi c).2.2) (x := x.2.2) (key (a1.2.2 + b1.2.2) (a2.2.2 + b2.2.2) (a3.2.2 + b3.2.2) _ (by omega) (by omega) (by omega)) (key2 (a1.2.2 + b1.2.2) (a2.2.2 + b2.2.2) (a3.2.2 + b3.2.2) _ (by omega) (by omega) (by omega))
  show 4 * (gp (blo c).1 (bhi c).1 x.1 x.1 * gp (blo c).1 (bhi c).1 x.1 x.1 + gp (blo c).2.1 (bhi c).2.1 x.2.1 x.2.1 * gp (blo c).2.1 (bhi c).2.1 x.2.1 x.2.1 + gp (blo c).2.2 (bhi c).2.2 x.2.2 x.2.2 * gp (blo c).2.2 (bhi c).2.2 x.2.2 x.2.2) ≤ _
  refine Int.le_trans ?_ (Int.add_le_add (Int.add_le_add g1 g2) g3)
  omega
/-! what is proved of a part holds of its parts -/
structure Rel4 (of of' : Int → Int × Int) : Prop where
  lo : ∀ n n', 1 ≤ n' → n' ≤ 4 * n → (of n).1 ≤ (of' n').1
  hi : ∀ n n', 1 ≤ n → 4 * n ≤ n' → (of' n').2 ≤ (of n).2
theorem inv_hi {N n : Int} (hN : 1 ≤ N ∧ N ≤ 288230376151711744) (hn : 1 ≤ n) : 1 ≤ (inv N n).2 ∧ N ≤ (inv N n).2 * (inv N n).2 * n ∧ ((inv N n).2 - 1) * ((inv N n).2 - 1) * n < N := by
  obtain ⟨k, hk, hr, k0, k1, k2, k3, k4, k5⟩ := inv_facts (N := N) ⟨by omega, hN.2⟩ hn
  have h := hr.2.2
  have hm := Int.mul_ediv_add_emod N n
  have hm1 := Int.emod_lt_of_pos N (show 0 < n by omega)
  have h2 : N < (k + 1) * (k + 1) * n := by
    have := Int.mul_le_mul_of_nonneg_right (show N / n + 1 ≤ (k + 1) * (k + 1) by omega) (show 0 ≤ n by omega)
    rw [Int.add_mul, Int.one_mul, Int.mul_comm (N / n) n] at this; omega
  unfold inv
  rw [hk]
  simp only
  split
  · rename_i he
    have h1 : 1 ≤ k := by
      rcases Int.lt_or_le k 1 with h | h
      · have : k = 0 := by omega
        subst this; simp at he; omega
      · exact h
    refine ⟨h1, by omega, ?_⟩
    have e : (k - 1) * (k - 1) ≤ k * k - 1 := by
      have e1 : (k - 1) * (k - 1) = k * k - 2 * k + 1 := by grind
      omega
    have e2 := Int.mul_le_mul_of_nonneg_right e (show 0 ≤ n by omega)
    rw [show (k * k - 1) * n = k * k * n - n by rw [Int.sub_mul, Int.one_mul]] at e2; omega
  · rename_i he
    refine ⟨by omega, by omega, ?_⟩
    rw [show k + 1 - 1 = k by omega]; omega
theorem inv_hi_mono {N n m : Int} (hN : 1 ≤ N ∧ N ≤ 288230376151711744) (hn : 1 ≤ n) (hm : n ≤ m) : (inv N m).2 ≤ (inv N n).2 := by
  obtain ⟨a1, a2, a3⟩ := inv_hi hN hn
  obtain ⟨b1, b2, b3⟩ := inv_hi hN (show 1 ≤ m by omega)
  rcases Int.lt_or_le (inv N n).2 (inv N m).2 with h | h
  · exfalso
    have e := Int.mul_le_mul (Int.mul_le_mul (show (inv N n).2 ≤ (inv N m).2 - 1 by omega) (show (inv N n).2 ≤ (inv N m).2 - 1 by omega) (by omega) (by omega)) hm (by omega) (Int.mul_nonneg (by omega) (by omega))
    omega
  · exact h
theorem inv_mul {N n q : Int} (hq : 0 < q) : inv (q * N) (q * n) = inv N n := by
  unfold inv
  rw [Int.mul_ediv_mul_of_pos _ _ hq]
  have e : ∀ k : Int, (k * k * (q * n) = q * N) ↔ (k * k * n = N) := by
    intro k
    rw [show k * k * (q * n) = q * (k * k * n) by grind]
    exact ⟨fun h => Int.eq_of_mul_eq_mul_left (by omega) h, fun h => by rw [h]⟩
  simp only [e]
theorem rel1 {s : Int} (hs : s = 1 ∨ s = 2 ∨ s = 4) : Rel4 (of1 s) (of1 (2 * s)) := by
  have hN := NN_bd (s := 2 * s) (by omega)
  have e : NN (2 * s) = 4 * NN s := by unfold NN; grind
  have hN1 : 1 ≤ NN (2 * s) := by rcases hs with rfl | rfl | rfl <;> decide
  refine ⟨fun n n' h1 h2 => ?_, fun n n' h1 h2 => ?_⟩
  · unfold of1
    rw [if_neg (by omega), if_neg (by omega), ← inv_mul (q := 4) (by omega), ← e]
    exact inv_mono hN h1 h2
  · unfold of1
    rw [if_neg (by omega), if_neg (by omega), ← inv_mul (N := NN s) (q := 4) (by omega), ← e]
    exact inv_hi_mono ⟨hN1, hN.2⟩ (by omega) h2
theorem of3_big {s n : Int} (h : 1048576 < n) : of3 s n = (0, 1) := by unfold of3; rw [if_neg (by omega), if_pos h]
theorem of3_mid {s n : Int} (h1 : 1 ≤ n) (h2 : n ≤ 1048576) : of3 s n = inv (NC s) (n * n * n) := by unfold of3; rw [if_neg (by omega), if_neg (by omega)]
theorem rel3 {s : Int} (hs : s = 1 ∨ s = 2 ∨ s = 4) : Rel4 (of3 s) (of3 (2 * s)) := by
  have hN := NC_bd (s := 2 * s) (by omega)
  have hS := NC_bd (s := s) (by omega)
  have e : NC (2 * s) = 64 * NC s := by unfold NC; grind
  have hN1 : 1 ≤ NC (2 * s) := by rcases hs with rfl | rfl | rfl <;> decide
  have hS1 : 1 ≤ NC s ∧ NC s ≤ 4503599627370496 := by rcases hs with rfl | rfl | rfl <;> decide
  have e4 : ∀ n : Int, 4 * n * (4 * n) * (4 * n) = 64 * (n * n * n) := fun n => by grind
  have ok := of3_ok (s := 2 * s) (by omega)
  refine ⟨fun n n' h1 h2 => ?_, fun n n' h1 h2 => ?_⟩
  · by_cases hb : 1048576 < n
    · rw [of3_big hb]; exact ok.lo n'
    · by_cases hb' : 1048576 < n'
      · have : (of3 s n).1 = 0 := by
          rw [of3_mid (by omega) (by omega)]
          have c := cub_mono (n := 262144) (m := n) (by omega) (by omega)
          have hq : NC s / (n * n * n) = 0 := Int.ediv_eq_zero_of_lt (by omega) (by omega)
          unfold inv
          rw [hq]
          have hr := rtSpan (n := 0) (by omega) (by omega)
          have := hr.le (m := 0) (by omega) (by omega); have := hr.1
          simp only; omega
        rw [this]; exact ok.lo n'
      · rw [of3_mid (n := n) (by omega) (by omega), of3_mid (n := n') (by omega) (by omega), ← inv_mul (N := NC s) (q := 64) (by omega), ← e, ← e4]
        exact inv_mono hN (cub_W (by omega) (by omega)).2 (cub_mono h1 h2)
  · by_cases hb : 1048576 < n
    · rw [of3_big hb, of3_big (by omega)]; exact Int.le_refl _
    · have c := cub_W (n := n) (by omega) (by omega)
      by_cases hb' : 1048576 < n'
      · rw [of3_big hb', of3_mid (by omega) (by omega)]
        exact (inv_hi ⟨hS1.1, hS.2⟩ c.2).1
      · rw [of3_mid (n := n) (by omega) (by omega), of3_mid (n := n') (by omega) (by omega), ← inv_mul (N := NC s) (q := 64) (by omega), ← e, ← e4]
        refine inv_hi_mono ⟨hN1, hN.2⟩ ?_ (cub_mono (by omega) h2)
        rw [e4]; omega
/-! sums -/
theorem sum_flat (g : PN → Int) : ∀ l : List PN, ((l.flatMap quad).map g).sum = (l.map fun c => ((quad c).map g).sum).sum
  | [] => rfl
  | c :: l => by simp only [List.flatMap_cons, List.map_append, List.sum_append, List.map_cons, List.sum_cons, sum_flat g l]
theorem sum_le {f g : PN → Int} : ∀ {l : List PN}, (∀ c ∈ l, f c ≤ g c) → (l.map f).sum ≤ (l.map g).sum
  | [], _ => Int.le_refl _
  | c :: l, h => by
    have := h c List.mem_cons_self; have := sum_le (l := l) (fun c hc => h c (List.mem_cons_of_mem _ hc))
    simp only [List.map_cons, List.sum_cons]; omega
theorem sum_four (g : PN → Int) : ∀ l : List PN, (l.map fun c => 4 * g c).sum = 4 * (l.map g).sum
  | [] => rfl
  | c :: l => by simp only [List.map_cons, List.sum_cons, sum_four g l]; omega
theorem zc_all {x : P3} : ∀ {l : List PN}, ¬ 0 < (l.map (zc x)).sum → ∀ c ∈ l, ne c x ≠ 0
  | c :: l, h, y, hy => by
    have hn : ∀ c, 0 ≤ zc x c := fun c => by unfold zc; split <;> omega
    have h0 := sum_nn (l := l) hn; have h1 := hn c
    simp only [List.map_cons, List.sum_cons] at h
    rcases List.mem_cons.1 hy with rfl | hy
    · intro h2
      have : zc x y = 1 := by unfold zc; rw [if_pos h2]
      omega
    · exact zc_all (l := l) (by omega) y hy
theorem zc_none {x : P3} : ∀ {l : List PN}, (∀ c ∈ l, ne c x ≠ 0) → (l.map (zc x)).sum = 0
  | [], _ => rfl
  | c :: l, h => by
    have e : zc x c = 0 := by unfold zc; rw [if_neg (h c List.mem_cons_self)]
    simp only [List.map_cons, List.sum_cons, e, zc_none (l := l) (fun c hc => h c (List.mem_cons_of_mem _ hc))]; rfl
theorem acc_fine {of of' : Int → Int × Int} (hr : Rel4 of of') {x : P3} {l : List PN} (hb : ∀ c ∈ l, bdP 100000 c) {v : Int × Int} (h : acc of x l (0, 0) = .inl v) :
    ∃ v', acc of' (tm 2 x) (l.flatMap quad) (0, 0) = .inl v' ∧ 4 * v.1 ≤ v'.1 ∧ v'.2 ≤ 4 * v.2 := by
  rw [acc_sum] at h
  split at h
  · cases h
  · rename_i hz
    have hn := zc_all hz
    have hnn : ∀ c ∈ l, 1 ≤ ne c x := fun c hc => by have := hn c hc; have := ne_le c x; omega
    have hz' : ((l.flatMap quad).map (zc (tm 2 x))).sum = 0 := zc_none (fun y hy => by
      obtain ⟨c, hc, hy⟩ := List.mem_flatMap.1 hy
      have := ne_quad (x := x) (hb c hc) hy; have := hnn c hc; omega)
    cases h
    refine ⟨_, by rw [acc_sum, hz', if_neg (by omega)], ?_, ?_⟩
    · simp only [Int.zero_add]
      rw [sum_flat, ← sum_four]
      refine sum_le (fun c hc => ?_)
      have key : ∀ y ∈ quad c, (of (fa c x)).1 ≤ (of' (fa y (tm 2 x))).1 := fun y hy => hr.lo _ _ (by have := ne_quad (x := x) (hb c hc) hy; have := hnn c hc; have := ne_le y (tm 2 x); omega) (fa_quad (hb c hc) hy)
      have k1 := key (q1 c) (by simp [quad]); have k2 := key (q2 c) (by simp [quad]); have k3 := key (q3 c) (by simp [quad]); have k4 := key (q4 c) (by simp [quad])
      simp only [quad, List.map_cons, List.map_nil, List.sum_cons, List.sum_nil]; omega
    · simp only [Int.zero_add]
      rw [sum_flat, ← sum_four]
      refine sum_le (fun c hc => ?_)
      have key : ∀ y ∈ quad c, (of' (ne y (tm 2 x))).2 ≤ (of (ne c x)).2 := fun y hy => hr.hi _ _ (hnn c hc) (ne_quad (hb c hc) hy)
      have k1 := key (q1 c) (by simp [quad]); have k2 := key (q2 c) (by simp [quad]); have k3 := key (q3 c) (by simp [quad]); have k4 := key (q4 c) (by simp [quad])
      simp only [quad, List.map_cons, List.map_nil, List.sum_cons, List.sum_nil]; omega
/-- b lies in a -/
def ins (b a : Int × Int) : Prop := a.1 ≤ b.1 ∧ b.2 ≤ a.2
theorem sc_next {d : Int} (h : 0 ≤ d ∧ d ≤ 2) : sc (d + 1) = 2 * sc d ∧ (sc d = 1 ∨ sc d = 2 ∨ sc d = 4) := by
  have : d = 0 ∨ d = 1 ∨ d = 2 := by omega
  rcases this with rfl | rfl | rfl <;> decide
theorem meanS_fine {of : Int → Int → Int × Int} (hr : ∀ s, s = 1 ∨ s = 2 ∨ s = 4 → Rel4 (of s) (of (2 * s))) {p : PN} {x : P3} {d : Int} (hp : bdP 64 p) (hd : 0 ≤ d ∧ d ≤ 2) (h : (meanS (of (sc d)) p x d).2 = 0) :
    (meanS (of (sc (d + 1))) p x (d + 1)).2 = 0 ∧ ins (meanS (of (sc (d + 1))) p x (d + 1)).1 (meanS (of (sc d)) p x d).1 := by
  obtain ⟨e1, e2⟩ := sc_next hd
  have e3 : tm (2 * sc d) x = tm 2 (tm (sc d) x) := by unfold tm; simp only [Int.mul_assoc]
  have e4 : cutL (d + 1).toNat p = (cutL d.toNat p).flatMap quad := by rw [show (d + 1).toNat = d.toNat + 1 by omega, cutL_quad]
  unfold meanS at *
  rw [e1, e3, e4]
  cases ha : acc (of (sc d)) (tm (sc d) x) (cutL d.toNat p) (0, 0) with
  | inr r =>
    rw [ha] at h
    rw [acc_sum] at ha
    split at ha
    · cases ha; cases h
    · cases ha
  | inl v =>
    obtain ⟨v', h1, h2, h3⟩ := acc_fine (hr _ e2) (fun c hc => (cutL_in hp (by omega) hc).mono (by omega)) ha
    rw [h1]
    refine ⟨rfl, ?_⟩
    show ins (avg v' _) (avg v _)
    unfold ins avg
    simp only
    rcases e2 with e | e | e <;> rw [e] <;> refine ⟨?_, ?_⟩ <;> simp only [Int.reduceMul] <;> omega
theorem meanV_fine {of : Int → Int → Int × Int} (ho : ∀ s, s = 1 ∨ s = 2 ∨ s = 4 ∨ s = 8 → OfOk (of s)) (hr : ∀ s, s = 1 ∨ s = 2 ∨ s = 4 → Rel4 (of s) (of (2 * s))) {p : PN} {x : P3} {d : Int}
    (h : (meanV of p x d).2 = 0) (h1 : (meanV of p x (d + 1)).2 ≠ 1) : (meanV of p x (d + 1)).2 = 0 ∧ vs (meanV of p x (d + 1)).1 ∧ vs (meanV of p x d).1 ∧ ins (meanV of p x (d + 1)).1 (meanV of p x d).1 := by
  obtain ⟨hc, hv⟩ := meanV_vs ho h
  obtain ⟨g1, g2, g3⟩ := ck_ok hc
  have hd : d ≤ 2 := by
    rcases Int.lt_or_le 2 d with h' | h'
    · exfalso; apply h1
      unfold meanV ck
      rw [if_pos g1, if_neg (by omega), if_neg (by omega)]
    · exact h'
  have hc' : ck p x (d + 1) = 0 := by unfold ck; rw [if_pos g1, if_pos ⟨g2, by omega⟩]
  have e : meanV of p x d = meanS (of (sc d)) p x d := by unfold meanV; rw [if_pos hc]
  have e' : meanV of p x (d + 1) = meanS (of (sc (d + 1))) p x (d + 1) := by unfold meanV; rw [if_pos hc']
  rw [e] at h
  obtain ⟨k1, k2⟩ := meanS_fine hr (vp_ok g1).1 ⟨g3.1, hd⟩ h
  rw [← e'] at k1
  exact ⟨k1, (meanV_vs ho k1).2, hv, by rw [e, e']; exact k2⟩
theorem scl_ins {a b : Int × Int} (h : ins b a) (hb : b.1 ≤ b.2) (n : Int) : ins (scl b n) (scl a n) ∧ (scl b n).1 ≤ (scl b n).2 := by
  unfold ins scl at *
  by_cases hn : n < 0
  · rw [if_pos hn, if_pos hn]; exact ⟨⟨sat_anti h.2 (by omega), sat_anti h.1 (by omega)⟩, sat_anti hb (by omega)⟩
  · rw [if_neg hn, if_neg hn]; exact ⟨⟨sat_mono h.1 (by omega), sat_mono h.2 (by omega)⟩, sat_mono hb (by omega)⟩
theorem angV_fine {p : PN} {x : P3} {d : Int} (h : (angV p x d).2 = 0) (h1 : (angV p x (d + 1)).2 ≠ 1) :
    (angV p x (d + 1)).2 = 0 ∧ vs (angV p x (d + 1)).1 ∧ vs (angV p x d).1 ∧ ins (angV p x (d + 1)).1 (angV p x d).1 := by
  have hm : (meanV of3 p x d).2 = 0 := by
    by_cases hm : (meanV of3 p x d).2 = 0
    · exact hm
    · unfold angV at h; rw [if_neg hm] at h; exact absurd h hm
  have hm1 : (meanV of3 p x (d + 1)).2 ≠ 1 := by
    intro hm1
    apply h1
    unfold angV; rw [if_neg (by rw [hm1]; omega)]; exact hm1
  obtain ⟨k1, k2, k3, k4⟩ := meanV_fine of3_all (fun s hs => rel3 hs) hm hm1
  obtain ⟨j1, j2⟩ := scl_ins k4 k2.2.1 (ht p x)
  have hs : vs (scl (meanV of3 p x d).1 (ht p x)) := by
    unfold angV angR at h
    rw [if_pos hm] at h
    split at h
    · assumption
    · cases h
  have hs' : vs (scl (meanV of3 p x (d + 1)).1 (ht p x)) := by unfold vs ins at *; omega
  have e : angV p x d = (hlf (scl (meanV of3 p x d).1 (ht p x)), 0) := by unfold angV angR; rw [if_pos hm, if_pos hs]
  have e' : angV p x (d + 1) = (hlf (scl (meanV of3 p x (d + 1)).1 (ht p x)), 0) := by unfold angV angR; rw [if_pos k1, if_pos hs']
  rw [e, e']
  refine ⟨rfl, hlf_ok hs', hlf_ok hs, ?_⟩
  unfold ins hlf at *; simp only; omega

end Go.Proofs.Ytopbnnmkdildgaa

namespace Go.Proofs.Ytopbnnmkdildgaa
open Go.Proofs Go.Aw Go.RowKit
set_option maxRecDepth 100000
set_option linter.unusedVariables false
set_option linter.unusedSimpArgs false

theorem cut64 (p : PN) {d : Int} (h : 0 ≤ d ∧ d ≤ 3) : (cutL (Int.toNat d) p).length ≤ 64 := by
  have h1 := cnt_len h p; have h2 := cnt_in d; omega


end Go.Proofs.Ytopbnnmkdildgaa

namespace Go.Proofs.Ytopbnnmkdildgaa
open Go.Proofs Go.Aw Go.RowKit
set_option maxRecDepth 100000
set_option linter.unusedVariables false
set_option linter.unusedSimpArgs false

/-! ### Means of lists of spans -/
def sums : List (Int × Int) → Int × Int → Int × Int
  | [], v => v
  | a :: l, v => sums l (v.1 + a.1, v.2 + a.2)
theorem sums_eq : ∀ (l : List (Int × Int)) (v : Int × Int), sums l v = (v.1 + (l.map (·.1)).sum, v.2 + (l.map (·.2)).sum)
  | [], v => by simp [sums]
  | a :: l, v => by rw [sums, sums_eq l]; simp only [List.map_cons, List.sum_cons, Int.add_assoc]
def okE (a : Int × Int) : Prop := 0 ≤ a.1 ∧ a.1 ≤ a.2 ∧ a.2 ≤ 536870913
theorem sums_ok : ∀ {l : List (Int × Int)} {v : Int × Int}, (∀ a ∈ l, okE a) → okv v l.length → okv (sums l v) 0
  | [], v, _, h => h
  | a :: l, v, hl, h => sums_ok (l := l) (fun c hc => hl c (List.mem_cons_of_mem _ hc)) (okv_add h (hl a List.mem_cons_self))
theorem sums_loopF {R : Type} [Inhabited R] {S : Int × Int × Int → (Int × Int × Int) ⊕ R} {G : Int × Int → R} {L : List (Int × Int)} (hl : ∀ a ∈ L, okE a)
    (hS : ∀ (i : Nat) (a : Int × Int), L[i]? = some a → ∀ v1 v2 : Int, S (v1, v2, (i : Int)) = .inl (W (v1 + a.1), W (v2 + a.2), ((i + 1 : Nat) : Int)))
    (hE : ∀ v1 v2 : Int, S (v1, v2, (L.length : Int)) = .inr (G (v1, v2))) :
    ∀ (l : List (Int × Int)) (i n : Nat) (v : Int × Int), L.drop i = l → i ≤ L.length → l.length < n → okv v l.length → loopF S n (v.1, v.2, (i : Int)) = G (sums l v)
  | [], i, n, v, hd, hi', hn, h => by
    have : i = L.length := by have := List.drop_eq_nil_iff.1 hd; omega
    obtain ⟨n, rfl⟩ : ∃ m, n = m + 1 := ⟨n - 1, by simp only [List.length_nil] at hn; omega⟩
    subst this
    rw [loopF_inr (hE _ _)]; rfl
  | c :: l, i, n, v, hd, hi', hn, h => by
    have hc : L[i]? = some c := by
      have : (L.drop i)[0]? = some c := by rw [hd]; rfl
      simpa using this
    obtain ⟨hlt, hce⟩ := List.getElem?_eq_some_iff.1 hc
    obtain ⟨n, rfl⟩ : ∃ m, n = m + 1 := ⟨n - 1, by omega⟩
    have h1 := okv_add h (hl c (hce ▸ List.getElem_mem hlt))
    have h2 := h1
    unfold okv at h2; simp only at h2
    rw [loopF_inl (hS i c hc v.1 v.2), W_eq (by omega) (by omega), W_eq (by omega) (by omega)]
    exact sums_loopF hl hS hE l (i + 1) n _ (by rw [← List.drop_drop, hd]; rfl) (by omega) (by simp only [List.length_cons] at hn; omega) h1
section
variable {l : List (Int × Int)}
theorem okE_val {a : Int × Int} (h : okE a) : F102 a = true := val_f (a := a.1) (b := a.2) (by have := h.1; omega) h.2.1 (by have := h.2.2; omega)
theorem okv_len (hn : l.length ≤ 64) : okv (0, 0) l.length := by unfold okv; simp only; omega
theorem chkL (hl : ∀ a ∈ l, okE a) : F75_L l = 0 := by
  have key : ∀ (m : List (Int × Int)) (i n : Nat), l.drop i = m → i ≤ l.length → m.length < n → loopF (S75_L_0 l) n (i : Int) = 0 := by
    intro m
    induction m with
    | nil =>
      intro i n hd hi hn
      have : i = l.length := by have := List.drop_eq_nil_iff.1 hd; omega
      obtain ⟨n, rfl⟩ : ∃ m, n = m + 1 := ⟨n - 1, by simp only [List.length_nil] at hn; omega⟩
      subst this
      refine loopF_inr ?_
      simp only [S75_L_0]
      rw [decide_eq_false (Int.lt_irrefl _), cond_false]
    | cons c m ih =>
      intro i n hd hi hn
      have hc : l[i]? = some c := by
        have : (l.drop i)[0]? = some c := by rw [hd]; rfl
        simpa using this
      obtain ⟨hlt, hce⟩ := List.getElem?_eq_some_iff.1 hc
      obtain ⟨n, rfl⟩ : ∃ m, n = m + 1 := ⟨n - 1, by omega⟩
      have hg : l.getD i default = c := by rw [List.getD_eq_getElem?_getD, hc]; rfl
      have e : S75_L_0 l (i : Int) = .inl ((i + 1 : Nat) : Int) := by
        simp only [S75_L_0]
        rw [decide_eq_true (show ((i : Nat) : Int) < (l.length : Nat) by omega), cond_true, Int.toNat_natCast, hg, okE_val (hl c (hce ▸ List.getElem_mem hlt))]; rfl
      rw [loopF_inl e]
      exact ih (i + 1) n (by rw [← List.drop_drop, hd]; rfl) (by omega) (by simp only [List.length_cons] at hn; omega)
  unfold F75_L
  exact key l 0 _ rfl (Nat.zero_le _) (by omega)
theorem tot_f (hl : ∀ a ∈ l, okE a) (hn : l.length ≤ 64) : F82_L l = ((sums l (0, 0)).1, (sums l (0, 0)).2, 0) := by
  unfold F82_L
  rw [decide_eq_false (by omega), cond_false, chkL hl]
  show loopF _ _ (((0, 0) : Int × Int).1, ((0, 0) : Int × Int).2, ((0 : Nat) : Int)) = _
  refine sums_loopF (G := fun v => (v.1, v.2, 0)) hl (fun i a hi v1 v2 => ?_) (fun v1 v2 => ?_) l 0 _ (0, 0) rfl (Nat.zero_le _) (by omega) (okv_len hn)
  · obtain ⟨hlt, hce⟩ := List.getElem?_eq_some_iff.1 hi
    have hg : l.getD i default = a := by rw [List.getD_eq_getElem?_getD, hi]; rfl
    simp only [S82_L_0]
    rw [decide_eq_true (show ((i : Nat) : Int) < (l.length : Nat) by omega), cond_true, Int.toNat_natCast, hg]; rfl
  · simp only [S82_L_0]
    rw [decide_eq_false (Int.lt_irrefl _), cond_false]
theorem tot_r (hl : ∀ a ∈ l, okE a) (hn : l.length ≤ 64) : F120_L l = ((sums l (0, 0)).1, (sums l (0, 0)).2, 0) := by
  unfold F120_L
  rw [decide_eq_false (by omega), cond_false]
  show loopF _ _ (((0, 0) : Int × Int).1, ((0, 0) : Int × Int).2, ((0 : Nat) : Int)) = _
  refine sums_loopF (G := fun v => (v.1, v.2, 0)) hl (fun i a hi v1 v2 => ?_) (fun v1 v2 => ?_) l 0 _ (0, 0) rfl (Nat.zero_le _) (by omega) (okv_len hn)
  · obtain ⟨hlt, hce⟩ := List.getElem?_eq_some_iff.1 hi
    have hg : l.getD i default = a := by rw [List.getD_eq_getElem?_getD, hi]; rfl
    simp only [S120_L_0]
    rw [decide_eq_true (show ((i : Nat) : Int) < (l.length : Nat) by omega), cond_true, Int.toNat_natCast, hg, show F124 a = true from okE_val (hl a (hce ▸ List.getElem_mem hlt))]; rfl
  · simp only [S120_L_0]
    rw [decide_eq_false (Int.lt_irrefl _), cond_false]
theorem avg_bd {v : Int × Int} {n : Int} (hn : n = 1 ∨ n = 4 ∨ n = 16 ∨ n = 64) (h : okv v 0) : -1099511627776 ≤ v.1 / n ∧ v.1 / n ≤ -(-v.2 / n) ∧ -(-v.2 / n) ≤ 1099511627776 := by
  unfold okv at h; rcases hn with rfl | rfl | rfl | rfl <;> omega
theorem meanL_f (hl : ∀ a ∈ l, okE a) {n : Int} (hn : n = 1 ∨ n = 4 ∨ n = 16 ∨ n = 64) (hk : ((l.length : Nat) : Int) = n) : F90_L l = (avg (sums l (0, 0)) n, 0) := by
  have h64 : l.length ≤ 64 := by omega
  have ho := sums_ok hl (okv_len h64)
  have hb := avg_bd hn ho
  unfold okv at ho
  unfold F90_L
  rw [tot_f hl h64, hk, beq_eq_false_iff_ne.2 (show n ≠ 0 by omega), dn_f hn (by simp only; omega), up_f hn (by simp only; omega), res_f hb.1 hb.2.1 hb.2.2]; rfl
theorem meanL_r (hl : ∀ a ∈ l, okE a) {n : Int} (hn : n = 1 ∨ n = 4 ∨ n = 16 ∨ n = 64) (hk : ((l.length : Nat) : Int) = n) : F93_L l = (avg (sums l (0, 0)) n, 0) := by
  have h64 : l.length ≤ 64 := by omega
  have ho := sums_ok hl (okv_len h64)
  have hb := avg_bd hn ho
  unfold okv at ho
  unfold F93_L
  rw [tot_r hl h64, hk, beq_eq_false_iff_ne.2 (show n ≠ 0 by omega), dn_r hn (by simp only; omega), up_r hn (by simp only; omega), res_r hb.1 hb.2.1 hb.2.2]; rfl
end
/-! ### The mean over two panels -/
theorem accS_eq (lo hi : PN → Int) : ∀ (l : List PN) (v : Int × Int), accS lo hi l v = (v.1 + (l.map lo).sum, v.2 + (l.map hi).sum)
  | [], v => by simp [accS]
  | a :: l, v => by rw [accS, accS_eq lo hi l]; simp only [List.map_cons, List.sum_cons, Int.add_assoc]
theorem foldl_map {α β : Type} (g : α → β) : ∀ (l : List α) (a : List β), l.foldl (fun v x => v ++ [g x]) a = a ++ l.map g
  | [], a => by simp
  | x :: l, a => by rw [List.foldl_cons, foldl_map g l]; simp
end Go.Proofs.Ytopbnnmkdildgaa

namespace Go.Proofs.Ytopbnnmkdildgaa
open Go.Proofs Go.Aw Go.RowKit
set_option maxRecDepth 100000
set_option linter.unusedVariables false
set_option linter.unusedSimpArgs false

/-- facet/sound.square -/
def F83 (a0 : Int) : Int :=
  (W (a0 * a0))

theorem C83 (a0 : Int) : Con Try.prog 83 [(iv a0)] [] (iv (F83 a0)) [] := by
  have e : (F83 a0) = (W (a0 * a0)) := by simp only [F83]
  rw [e]
  refine con_of (n := 9) Try.func83 rfl (ent Try.func83 (by kernel_rfl) rfl) (by show 1 ≤ Try.f83.ntmps; decide) (by kernel_rfl) trivial (fun cx hcx => ?_)
  exact ret_of (T := T0) hT hm (f := 5000) (orc := []) [] [] [] hcx
    (obs := []) (by kernel_rfl) trivial

/-- facet/sound.corners -/
def F113 (a0 : (Int × Int × Int) × (Int × Int × Int) × Int × Int × Int) : (Int × Int × Int) × (Int × Int × Int) × Int × Int × Int :=
  a0

theorem C113 (a0 : (Int × Int × Int) × (Int × Int × Int) × Int × Int × Int) : Con Try.prog 113 [(.a (k9 a0))] [] (.a (k9 (F113 a0))) [] := by
  have e : (F113 a0) = a0 := by simp only [F113]
  rw [e]
  refine con_of (n := 9) Try.func113 rfl (ent Try.func113 (by kernel_rfl) rfl) (by show 1 ≤ Try.f113.ntmps; decide) (by kernel_rfl) trivial (fun cx hcx => ?_)
  exact ret_of (T := T0) hT hm (f := 5000) (orc := []) [] [] [] hcx
    (obs := []) (by kernel_rfl) trivial

/-- facet/sound.distance -/
def F48 (a0 : Int × Int × Int) (a1 : Int × Int × Int) : Int :=
  (W ((W ((F83 (W (a0.1 - a1.1))) + (F83 (W (a0.2.1 - a1.2.1))))) + (F83 (W (a0.2.2 - a1.2.2)))))

theorem C48 (a0 : Int × Int × Int) (a1 : Int × Int × Int) : Con Try.prog 48 [(.a (k3 a0)), (.a (k3 a1))] [] (iv (F48 a0 a1)) [] := by
  have e : (F48 a0 a1) = (W ((W ((F83 (W (a0.1 - a1.1))) + (F83 (W (a0.2.1 - a1.2.1))))) + (F83 (W (a0.2.2 - a1.2.2))))) := by simp only [F48]
  rw [e]
  refine con_of (n := 9) Try.func48 rfl (ent Try.func48 (by kernel_rfl) rfl) (by show 2 ≤ Try.f48.ntmps; decide) (by kernel_rfl) trivial (fun cx hcx => ?_)
  exact ret_of (T := T0) hT hm (f := 5000) (orc := [.call [] (iv (F83 (W (a0.1 - a1.1)))) [], .call [] (iv (F83 (W (a0.2.1 - a1.2.1)))) [], .call [] (iv (F83 (W (a0.2.2 - a1.2.2)))) []]) [] [] [] hcx
    (obs := [.call 83 [(iv (W (a0.1 - a1.1)))] [] (iv (F83 (W (a0.1 - a1.1)))) [], .call 83 [(iv (W (a0.2.1 - a1.2.1)))] [] (iv (F83 (W (a0.2.1 - a1.2.1)))) [], .call 83 [(iv (W (a0.2.2 - a1.2.2)))] [] (iv (F83 (W (a0.2.2 - a1.2.2)))) []]) (by kernel_rfl) ⟨(C83 (W (a0.1 - a1.1))), (C83 (W (a0.2.1 - a1.2.1))), (C83 (W (a0.2.2 - a1.2.2))), trivial⟩

/-- facet/sound.far -/
def F87 (a0 : (Int × Int × Int) × (Int × Int × Int) × Int × Int × Int) (a1 : Int × Int × Int) : Int :=
  (if ((if ((if (0 : Int) < (F48 (F113 a0).1 a1) then (F48 (F113 a0).1 a1) else 0) : Int) < (F48 (F113 a0).2.1 a1) then (F48 (F113 a0).2.1 a1) else (if (0 : Int) < (F48 (F113 a0).1 a1) then (F48 (F113 a0).1 a1) else 0)) : Int) < (F48 (F113 a0).2.2 a1) then (F48 (F113 a0).2.2 a1) else (if ((if (0 : Int) < (F48 (F113 a0).1 a1) then (F48 (F113 a0).1 a1) else 0) : Int) < (F48 (F113 a0).2.1 a1) then (F48 (F113 a0).2.1 a1) else (if (0 : Int) < (F48 (F113 a0).1 a1) then (F48 (F113 a0).1 a1) else 0)))

theorem C87 (a0 : (Int × Int × Int) × (Int × Int × Int) × Int × Int × Int) (a1 : Int × Int × Int) : Con Try.prog 87 [(.a (k9 a0)), (.a (k3 a1))] [] (iv (F87 a0 a1)) [] := by
  have e : (F87 a0 a1) = (if ((if ((if (0 : Int) < (F48 (F113 a0).1 a1) then (F48 (F113 a0).1 a1) else 0) : Int) < (F48 (F113 a0).2.1 a1) then (F48 (F113 a0).2.1 a1) else (if (0 : Int) < (F48 (F113 a0).1 a1) then (F48 (F113 a0).1 a1) else 0)) : Int) < (F48 (F113 a0).2.2 a1) then (F48 (F113 a0).2.2 a1) else (if ((if (0 : Int) < (F48 (F113 a0).1 a1) then (F48 (F113 a0).1 a1) else 0) : Int) < (F48 (F113 a0).2.1 a1) then (F48 (F113 a0).2.1 a1) else (if (0 : Int) < (F48 (F113 a0).1 a1) then (F48 (F113 a0).1 a1) else 0))) := by simp only [F87]
  rw [e]
  refine con_of (n := 9) Try.func87 rfl (ent Try.func87 (by kernel_rfl) rfl) (by show 2 ≤ Try.f87.ntmps; decide) (by kernel_rfl) trivial (fun cx hcx => ?_)
  exact ret_of (T := T0) hT hm (f := 5000) (orc := [.call [] (.a (k9 (F113 a0))) [], .un 200, .d true, .call [] (iv (F48 (F113 a0).1 a1)) [], .un 0, .d true, .call [] (iv (F48 (F113 a0).2.1 a1)) [], .un 0, .d true, .call [] (iv (F48 (F113 a0).2.2 a1)) [], .un 0, .d false]) [] [] [] hcx
    (obs := [.call 113 [(.a (k9 a0))] [] (.a (k9 (F113 a0))) [], .eq true true, .pr (0 ≤ (0 : Int) ∧ (0 : Int) < ((3 : Nat) : Int)), .call 48 [(.a (k3 (F113 a0).1)), (.a (k3 a1))] [] (iv (F48 (F113 a0).1 a1)) [], .eq true true, .pr (0 ≤ (1 : Int) ∧ (1 : Int) < ((3 : Nat) : Int)), .call 48 [(.a (k3 (F113 a0).2.1)), (.a (k3 a1))] [] (iv (F48 (F113 a0).2.1 a1)) [], .eq true true, .pr (0 ≤ (2 : Int) ∧ (2 : Int) < ((3 : Nat) : Int)), .call 48 [(.a (k3 (F113 a0).2.2)), (.a (k3 a1))] [] (iv (F48 (F113 a0).2.2 a1)) [], .eq false false]) (by kernel_rfl) ⟨(C113 a0), rfl, (show 0 ≤ (0 : Int) ∧ (0 : Int) < ((3 : Nat) : Int) from by decide), (C48 (F113 a0).1 a1), rfl, (show 0 ≤ (1 : Int) ∧ (1 : Int) < ((3 : Nat) : Int) from by decide), (C48 (F113 a0).2.1 a1), rfl, (show 0 ≤ (2 : Int) ∧ (2 : Int) < ((3 : Nat) : Int) from by decide), (C48 (F113 a0).2.2 a1), rfl, trivial⟩

/-- facet/sound.gap at (3,) -/
def F110_3 (a0 : Int) (a1 : (Int) × (Int) × (Int)) : Int :=
  (if ((if (0 : Int) < (W ((if (a1.2.2 : Int) < (if (a1.2.1 : Int) < (if (a1.1 : Int) < a1.1 then a1.1 else a1.1) then a1.2.1 else (if (a1.1 : Int) < a1.1 then a1.1 else a1.1)) then a1.2.2 else (if (a1.2.1 : Int) < (if (a1.1 : Int) < a1.1 then a1.1 else a1.1) then a1.2.1 else (if (a1.1 : Int) < a1.1 then a1.1 else a1.1))) - a0)) then (W ((if (a1.2.2 : Int) < (if (a1.2.1 : Int) < (if (a1.1 : Int) < a1.1 then a1.1 else a1.1) then a1.2.1 else (if (a1.1 : Int) < a1.1 then a1.1 else a1.1)) then a1.2.2 else (if (a1.2.1 : Int) < (if (a1.1 : Int) < a1.1 then a1.1 else a1.1) then a1.2.1 else (if (a1.1 : Int) < a1.1 then a1.1 else a1.1))) - a0)) else 0) : Int) < (W (a0 - (if ((if ((if (a1.1 : Int) < a1.1 then a1.1 else a1.1) : Int) < a1.2.1 then a1.2.1 else (if (a1.1 : Int) < a1.1 then a1.1 else a1.1)) : Int) < a1.2.2 then a1.2.2 else (if ((if (a1.1 : Int) < a1.1 then a1.1 else a1.1) : Int) < a1.2.1 then a1.2.1 else (if (a1.1 : Int) < a1.1 then a1.1 else a1.1))))) then (W (a0 - (if ((if ((if (a1.1 : Int) < a1.1 then a1.1 else a1.1) : Int) < a1.2.1 then a1.2.1 else (if (a1.1 : Int) < a1.1 then a1.1 else a1.1)) : Int) < a1.2.2 then a1.2.2 else (if ((if (a1.1 : Int) < a1.1 then a1.1 else a1.1) : Int) < a1.2.1 then a1.2.1 else (if (a1.1 : Int) < a1.1 then a1.1 else a1.1))))) else (if (0 : Int) < (W ((if (a1.2.2 : Int) < (if (a1.2.1 : Int) < (if (a1.1 : Int) < a1.1 then a1.1 else a1.1) then a1.2.1 else (if (a1.1 : Int) < a1.1 then a1.1 else a1.1)) then a1.2.2 else (if (a1.2.1 : Int) < (if (a1.1 : Int) < a1.1 then a1.1 else a1.1) then a1.2.1 else (if (a1.1 : Int) < a1.1 then a1.1 else a1.1))) - a0)) then (W ((if (a1.2.2 : Int) < (if (a1.2.1 : Int) < (if (a1.1 : Int) < a1.1 then a1.1 else a1.1) then a1.2.1 else (if (a1.1 : Int) < a1.1 then a1.1 else a1.1)) then a1.2.2 else (if (a1.2.1 : Int) < (if (a1.1 : Int) < a1.1 then a1.1 else a1.1) then a1.2.1 else (if (a1.1 : Int) < a1.1 then a1.1 else a1.1))) - a0)) else 0))

theorem C110_3 (a0 : Int) (a1 : (Int) × (Int) × (Int)) : Con Try.prog 110 [(iv a0), (.s 0 0 3 1)] [(.live false false (k3 a1))] (iv (F110_3 a0 a1)) [] := by
  have e : (F110_3 a0 a1) = (if ((if (0 : Int) < (W ((if (a1.2.2 : Int) < (if (a1.2.1 : Int) < (if (a1.1 : Int) < a1.1 then a1.1 else a1.1) then a1.2.1 else (if (a1.1 : Int) < a1.1 then a1.1 else a1.1)) then a1.2.2 else (if (a1.2.1 : Int) < (if (a1.1 : Int) < a1.1 then a1.1 else a1.1) then a1.2.1 else (if (a1.1 : Int) < a1.1 then a1.1 else a1.1))) - a0)) then (W ((if (a1.2.2 : Int) < (if (a1.2.1 : Int) < (if (a1.1 : Int) < a1.1 then a1.1 else a1.1) then a1.2.1 else (if (a1.1 : Int) < a1.1 then a1.1 else a1.1)) then a1.2.2 else (if (a1.2.1 : Int) < (if (a1.1 : Int) < a1.1 then a1.1 else a1.1) then a1.2.1 else (if (a1.1 : Int) < a1.1 then a1.1 else a1.1))) - a0)) else 0) : Int) < (W (a0 - (if ((if ((if (a1.1 : Int) < a1.1 then a1.1 else a1.1) : Int) < a1.2.1 then a1.2.1 else (if (a1.1 : Int) < a1.1 then a1.1 else a1.1)) : Int) < a1.2.2 then a1.2.2 else (if ((if (a1.1 : Int) < a1.1 then a1.1 else a1.1) : Int) < a1.2.1 then a1.2.1 else (if (a1.1 : Int) < a1.1 then a1.1 else a1.1))))) then (W (a0 - (if ((if ((if (a1.1 : Int) < a1.1 then a1.1 else a1.1) : Int) < a1.2.1 then a1.2.1 else (if (a1.1 : Int) < a1.1 then a1.1 else a1.1)) : Int) < a1.2.2 then a1.2.2 else (if ((if (a1.1 : Int) < a1.1 then a1.1 else a1.1) : Int) < a1.2.1 then a1.2.1 else (if (a1.1 : Int) < a1.1 then a1.1 else a1.1))))) else (if (0 : Int) < (W ((if (a1.2.2 : Int) < (if (a1.2.1 : Int) < (if (a1.1 : Int) < a1.1 then a1.1 else a1.1) then a1.2.1 else (if (a1.1 : Int) < a1.1 then a1.1 else a1.1)) then a1.2.2 else (if (a1.2.1 : Int) < (if (a1.1 : Int) < a1.1 then a1.1 else a1.1) then a1.2.1 else (if (a1.1 : Int) < a1.1 then a1.1 else a1.1))) - a0)) then (W ((if (a1.2.2 : Int) < (if (a1.2.1 : Int) < (if (a1.1 : Int) < a1.1 then a1.1 else a1.1) then a1.2.1 else (if (a1.1 : Int) < a1.1 then a1.1 else a1.1)) then a1.2.2 else (if (a1.2.1 : Int) < (if (a1.1 : Int) < a1.1 then a1.1 else a1.1) then a1.2.1 else (if (a1.1 : Int) < a1.1 then a1.1 else a1.1))) - a0)) else 0)) := by simp only [F110_3]
  rw [e]
  refine con_of (n := 9) Try.func110 rfl (ent Try.func110 (by kernel_rfl) rfl) (by show 2 ≤ Try.f110.ntmps; decide) (by kernel_rfl) ⟨rfl, trivial⟩ (fun cx hcx => ?_)
  exact ret_of (T := T0) hT hm (f := 5000) (orc := [.un 200, .d true, .un 0, .d true, .un 0, .d true, .un 0, .d false]) [] [] [] hcx
    (obs := [.pr (0 ≤ (0 : Int) ∧ (0 : Int) < ((3 : Nat) : Int)), .pr (0 ≤ (0 : Int) ∧ (0 : Int) < ((3 : Nat) : Int)), .eq true true, .pr (0 ≤ (0 : Int) ∧ (0 : Int) < ((3 : Nat) : Int)), .eq true true, .pr (0 ≤ (1 : Int) ∧ (1 : Int) < ((3 : Nat) : Int)), .eq true true, .pr (0 ≤ (2 : Int) ∧ (2 : Int) < ((3 : Nat) : Int)), .eq false false]) (by kernel_rfl) ⟨(show 0 ≤ (0 : Int) ∧ (0 : Int) < ((3 : Nat) : Int) from by decide), (show 0 ≤ (0 : Int) ∧ (0 : Int) < ((3 : Nat) : Int) from by decide), rfl, (show 0 ≤ (0 : Int) ∧ (0 : Int) < ((3 : Nat) : Int) from by decide), rfl, (show 0 ≤ (1 : Int) ∧ (1 : Int) < ((3 : Nat) : Int) from by decide), rfl, (show 0 ≤ (2 : Int) ∧ (2 : Int) < ((3 : Nat) : Int) from by decide), rfl, trivial⟩

/-- facet/sound.near -/
def F84 (a0 : (Int × Int × Int) × (Int × Int × Int) × Int × Int × Int) (a1 : Int × Int × Int) : Int :=
  (W ((W ((F83 (F110_3 a1.1 (a0.1.1, a0.2.1.1, a0.2.2.1))) + (F83 (F110_3 a1.2.1 (a0.1.2.1, a0.2.1.2.1, a0.2.2.2.1))))) + (F83 (F110_3 a1.2.2 (a0.1.2.2, a0.2.1.2.2, a0.2.2.2.2)))))

theorem C84 (a0 : (Int × Int × Int) × (Int × Int × Int) × Int × Int × Int) (a1 : Int × Int × Int) : Con Try.prog 84 [(.a (k9 a0)), (.a (k3 a1))] [] (iv (F84 a0 a1)) [] := by
  have e : (F84 a0 a1) = (W ((W ((F83 (F110_3 a1.1 (a0.1.1, a0.2.1.1, a0.2.2.1))) + (F83 (F110_3 a1.2.1 (a0.1.2.1, a0.2.1.2.1, a0.2.2.2.1))))) + (F83 (F110_3 a1.2.2 (a0.1.2.2, a0.2.1.2.2, a0.2.2.2.2))))) := by simp only [F84]
  rw [e]
  refine con_of (n := 9) Try.func84 rfl (ent Try.func84 (by kernel_rfl) rfl) (by show 2 ≤ Try.f84.ntmps; decide) (by kernel_rfl) trivial (fun cx hcx => ?_)
  exact ret_of (T := T0) hT hm (f := 5000) (orc := [.call [2] (iv (F110_3 a1.1 (a0.1.1, a0.2.1.1, a0.2.2.1))) [], .call [] (iv (F83 (F110_3 a1.1 (a0.1.1, a0.2.1.1, a0.2.2.1)))) [], .call [3] (iv (F110_3 a1.2.1 (a0.1.2.1, a0.2.1.2.1, a0.2.2.2.1))) [], .call [] (iv (F83 (F110_3 a1.2.1 (a0.1.2.1, a0.2.1.2.1, a0.2.2.2.1)))) [], .call [4] (iv (F110_3 a1.2.2 (a0.1.2.2, a0.2.1.2.2, a0.2.2.2.2))) [], .call [] (iv (F83 (F110_3 a1.2.2 (a0.1.2.2, a0.2.1.2.2, a0.2.2.2.2)))) []]) [] [] [] hcx
    (obs := [.call 110 [(iv a1.1), (.s 0 0 3 1)] [(.live false false [(iv a0.1.1), (iv a0.2.1.1), (iv a0.2.2.1)])] (iv (F110_3 a1.1 (a0.1.1, a0.2.1.1, a0.2.2.1))) [], .call 83 [(iv (F110_3 a1.1 (a0.1.1, a0.2.1.1, a0.2.2.1)))] [] (iv (F83 (F110_3 a1.1 (a0.1.1, a0.2.1.1, a0.2.2.1)))) [], .call 110 [(iv a1.2.1), (.s 0 0 3 1)] [(.live false false [(iv a0.1.2.1), (iv a0.2.1.2.1), (iv a0.2.2.2.1)])] (iv (F110_3 a1.2.1 (a0.1.2.1, a0.2.1.2.1, a0.2.2.2.1))) [], .call 83 [(iv (F110_3 a1.2.1 (a0.1.2.1, a0.2.1.2.1, a0.2.2.2.1)))] [] (iv (F83 (F110_3 a1.2.1 (a0.1.2.1, a0.2.1.2.1, a0.2.2.2.1)))) [], .call 110 [(iv a1.2.2), (.s 0 0 3 1)] [(.live false false [(iv a0.1.2.2), (iv a0.2.1.2.2), (iv a0.2.2.2.2)])] (iv (F110_3 a1.2.2 (a0.1.2.2, a0.2.1.2.2, a0.2.2.2.2))) [], .call 83 [(iv (F110_3 a1.2.2 (a0.1.2.2, a0.2.1.2.2, a0.2.2.2.2)))] [] (iv (F83 (F110_3 a1.2.2 (a0.1.2.2, a0.2.1.2.2, a0.2.2.2.2)))) []]) (by kernel_rfl) ⟨(C110_3 a1.1 (a0.1.1, a0.2.1.1, a0.2.2.1)), (C83 (F110_3 a1.1 (a0.1.1, a0.2.1.1, a0.2.2.1))), (C110_3 a1.2.1 (a0.1.2.1, a0.2.1.2.1, a0.2.2.2.1)), (C83 (F110_3 a1.2.1 (a0.1.2.1, a0.2.1.2.1, a0.2.2.2.1))), (C110_3 a1.2.2 (a0.1.2.2, a0.2.1.2.2, a0.2.2.2.2)), (C83 (F110_3 a1.2.2 (a0.1.2.2, a0.2.1.2.2, a0.2.2.2.2))), trivial⟩

/-- facet/sound.from -/
def F63 (a0 : Int) (a1 : Int) (a2 : Int) : Bool :=
  (bif (decide ((a1 : Int) ≤ a0)) then
   (decide ((a0 : Int) ≤ a2))
  else
   false)

theorem C63 (a0 : Int) (a1 : Int) (a2 : Int) : Con Try.prog 63 [(iv a0), (iv a1), (iv a2)] [] (.v (.bool (F63 a0 a1 a2))) [] := by
  cases h0 : (decide ((a1 : Int) ≤ a0)) with
  | true =>
    have q0 := of_decide_eq_true h0
    have e : (F63 a0 a1 a2) = (decide ((a0 : Int) ≤ a2)) := by simp only [F63, h0, cond_true, cond_false]
    rw [e]
    refine con_of (n := 9) Try.func63 rfl (ent Try.func63 (by kernel_rfl) rfl) (by show 3 ≤ Try.f63.ntmps; decide) (by kernel_rfl) trivial (fun cx hcx => ?_)
    exact ret_of (T := T0) hT hm (f := 5000) (orc := [.d true]) [] [] [] hcx
      (obs := [.eq (decide ((a1 : Int) ≤ a0)) true]) (by kernel_rfl) ⟨h0, trivial⟩
  | false =>
    have q0 := of_decide_eq_false h0
    have e : (F63 a0 a1 a2) = false := by simp only [F63, h0, cond_true, cond_false]
    rw [e]
    refine con_of (n := 9) Try.func63 rfl (ent Try.func63 (by kernel_rfl) rfl) (by show 3 ≤ Try.f63.ntmps; decide) (by kernel_rfl) trivial (fun cx hcx => ?_)
    exact ret_of (T := T0) hT hm (f := 5000) (orc := [.d false]) [] [] [] hcx
      (obs := [.eq (decide ((a1 : Int) ≤ a0)) false]) (by kernel_rfl) ⟨h0, trivial⟩

/-- facet/sound.isPoint -/
def F45 (a0 : Int × Int × Int) : Bool :=
  (bif (F63 a0.1 (-256) 256) then
   (bif (F63 a0.2.1 (-256) 256) then
    (F63 a0.2.2 (-256) 256)
   else
    false)
  else
   false)

noncomputable def oC45_0 (a0 : Int × Int × Int) : Ob := .call 63 [(iv a0.1), (iv (-256)), (iv 256)] [] (.v (.bool (F63 a0.1 (-256) 256))) []
theorem C45 (a0 : Int × Int × Int) : Con Try.prog 45 [(.a (k3 a0))] [] (.v (.bool (F45 a0))) [] := by
  cases h0 : (F63 a0.1 (-256) 256) with
  | true =>
    cases h1 : (F63 a0.2.1 (-256) 256) with
    | true =>
      have e : (F45 a0) = (F63 a0.2.2 (-256) 256) := by simp only [F45, h0, h1, cond_true, cond_false]
      rw [e]
      refine con_of (n := 9) Try.func45 rfl (ent Try.func45 (by kernel_rfl) rfl) (by show 1 ≤ Try.f45.ntmps; decide) (by kernel_rfl) trivial (fun cx hcx => ?_)
      exact ret_of (T := T0) hT hm (f := 5000) (orc := [.call [] (.v (.bool (F63 a0.1 (-256) 256))) [], .d true, .call [] (.v (.bool (F63 a0.2.1 (-256) 256))) [], .d true, .call [] (.v (.bool (F63 a0.2.2 (-256) 256))) []]) [] [] [] hcx
        (obs := [(oC45_0 a0), .eq (F63 a0.1 (-256) 256) true, .call 63 [(iv a0.2.1), (iv (-256)), (iv 256)] [] (.v (.bool (F63 a0.2.1 (-256) 256))) [], .eq (F63 a0.2.1 (-256) 256) true, .call 63 [(iv a0.2.2), (iv (-256)), (iv 256)] [] (.v (.bool (F63 a0.2.2 (-256) 256))) []]) (by kernel_rfl) ⟨(C63 a0.1 (-256) 256), h0, (C63 a0.2.1 (-256) 256), h1, (C63 a0.2.2 (-256) 256), trivial⟩
    | false =>
      have e : (F45 a0) = false := by simp only [F45, h0, h1, cond_true, cond_false]
      rw [e]
      refine con_of (n := 9) Try.func45 rfl (ent Try.func45 (by kernel_rfl) rfl) (by show 1 ≤ Try.f45.ntmps; decide) (by kernel_rfl) trivial (fun cx hcx => ?_)
      exact ret_of (T := T0) hT hm (f := 5000) (orc := [.call [] (.v (.bool (F63 a0.1 (-256) 256))) [], .d true, .call [] (.v (.bool (F63 a0.2.1 (-256) 256))) [], .d false]) [] [] [] hcx
        (obs := [(oC45_0 a0), .eq (F63 a0.1 (-256) 256) true, .call 63 [(iv a0.2.1), (iv (-256)), (iv 256)] [] (.v (.bool (F63 a0.2.1 (-256) 256))) [], .eq (F63 a0.2.1 (-256) 256) false]) (by kernel_rfl) ⟨(C63 a0.1 (-256) 256), h0, (C63 a0.2.1 (-256) 256), h1, trivial⟩
  | false =>
    have e : (F45 a0) = false := by simp only [F45, h0, cond_true, cond_false]
    rw [e]
    refine con_of (n := 9) Try.func45 rfl (ent Try.func45 (by kernel_rfl) rfl) (by show 1 ≤ Try.f45.ntmps; decide) (by kernel_rfl) trivial (fun cx hcx => ?_)
    exact ret_of (T := T0) hT hm (f := 5000) (orc := [.call [] (.v (.bool (F63 a0.1 (-256) 256))) [], .d false]) [] [] [] hcx
      (obs := [(oC45_0 a0), .eq (F63 a0.1 (-256) 256) false]) (by kernel_rfl) ⟨(C63 a0.1 (-256) 256), h0, trivial⟩

/-- facet/sound.isSpeed -/
def F46 (a0 : Int) : Bool :=
  (F63 a0 1 16)

theorem C46 (a0 : Int) : Con Try.prog 46 [(iv a0)] [] (.v (.bool (F46 a0))) [] := by
  have e : (F46 a0) = (F63 a0 1 16) := by simp only [F46]
  rw [e]
  refine con_of (n := 9) Try.func46 rfl (ent Try.func46 (by kernel_rfl) rfl) (by show 1 ≤ Try.f46.ntmps; decide) (by kernel_rfl) trivial (fun cx hcx => ?_)
  exact ret_of (T := T0) hT hm (f := 5000) (orc := [.call [] (.v (.bool (F63 a0 1 16))) []]) [] [] [] hcx
    (obs := [.call 63 [(iv a0), (iv 1), (iv 16)] [] (.v (.bool (F63 a0 1 16))) []]) (by kernel_rfl) ⟨(C63 a0 1 16), trivial⟩

/-- facet/sound.isTick -/
def F59 (a0 : Int) : Bool :=
  (F63 a0 0 2000)

theorem C59 (a0 : Int) : Con Try.prog 59 [(iv a0)] [] (.v (.bool (F59 a0))) [] := by
  have e : (F59 a0) = (F63 a0 0 2000) := by simp only [F59]
  rw [e]
  refine con_of (n := 9) Try.func59 rfl (ent Try.func59 (by kernel_rfl) rfl) (by show 1 ≤ Try.f59.ntmps; decide) (by kernel_rfl) trivial (fun cx hcx => ?_)
  exact ret_of (T := T0) hT hm (f := 5000) (orc := [.call [] (.v (.bool (F63 a0 0 2000))) []]) [] [] [] hcx
    (obs := [.call 63 [(iv a0), (iv 0), (iv 2000)] [] (.v (.bool (F63 a0 0 2000))) []]) (by kernel_rfl) ⟨(C63 a0 0 2000), trivial⟩

/-- facet/sound.isDepth -/
def F60 (a0 : Int) : Bool :=
  (F63 a0 0 3)

theorem C60 (a0 : Int) : Con Try.prog 60 [(iv a0)] [] (.v (.bool (F60 a0))) [] := by
  have e : (F60 a0) = (F63 a0 0 3) := by simp only [F60]
  rw [e]
  refine con_of (n := 9) Try.func60 rfl (ent Try.func60 (by kernel_rfl) rfl) (by show 1 ≤ Try.f60.ntmps; decide) (by kernel_rfl) trivial (fun cx hcx => ?_)
  exact ret_of (T := T0) hT hm (f := 5000) (orc := [.call [] (.v (.bool (F63 a0 0 3))) []]) [] [] [] hcx
    (obs := [.call 63 [(iv a0), (iv 0), (iv 3)] [] (.v (.bool (F63 a0 0 3))) []]) (by kernel_rfl) ⟨(C63 a0 0 3), trivial⟩

/-- facet/sound.ValidatePulses at (1,) -/
def F27_1 (a0 : ((Int × Int × Int) × (Int × Int × Int) × Int × Int × Int) × Int × Int) : Int :=
  (bif (((F66 a0.1) : Int) != 0) then
   (F66 a0.1)
  else
   (bif (!(F63 a0.2.1 0 1000)) then
    1
   else
    (bif (!(F63 a0.2.2 (-100) 100)) then
     1
    else
     0)))

theorem C27_1 (a0 : ((Int × Int × Int) × (Int × Int × Int) × Int × Int × Int) × Int × Int) : Con Try.prog 27 [(.s 0 0 1 11)] [(.live false false [(iv a0.1.1.1), (iv a0.1.1.2.1), (iv a0.1.1.2.2), (iv a0.1.2.1.1), (iv a0.1.2.1.2.1), (iv a0.1.2.1.2.2), (iv a0.1.2.2.1), (iv a0.1.2.2.2.1), (iv a0.1.2.2.2.2), (iv a0.2.1), (iv a0.2.2)])] (iv (F27_1 a0)) [] := by
  cases h0 : (((F66 a0.1) : Int) != 0) with
  | true =>
    have q0 := bne_iff_ne.1 h0
    have e : (F27_1 a0) = (F66 a0.1) := by simp only [F27_1, h0, cond_true, cond_false]
    rw [e]
    refine con_of (n := 9) Try.func27 rfl (ent Try.func27 (by kernel_rfl) rfl) (by show 1 ≤ Try.f27.ntmps; decide) (by kernel_rfl) ⟨rfl, trivial⟩ (fun cx hcx => ?_)
    exact ret_of (T := T0) hT hm (f := 5000) (orc := [.d false, .un 200, .d true, .call [] (iv (F66 a0.1)) [], .d true]) [] [] [] hcx
      (obs := [.eq false false, .eq true true, .pr (0 ≤ (0 : Int) ∧ (0 : Int) < ((1 : Nat) : Int)), .call 66 [(.a (k9 a0.1))] [] (iv (F66 a0.1)) [], .eq (((F66 a0.1) : Int) != 0) true]) (by kernel_rfl) ⟨rfl, rfl, (show 0 ≤ (0 : Int) ∧ (0 : Int) < ((1 : Nat) : Int) from by decide), (C66 a0.1), h0, trivial⟩
  | false =>
    cases h1 : (!(F63 a0.2.1 0 1000)) with
    | true =>
      have q0 := bne_eq_false_iff_eq.1 h0
      have e : (F27_1 a0) = 1 := by simp only [F27_1, h0, h1, cond_true, cond_false]
      rw [e]
      refine con_of (n := 9) Try.func27 rfl (ent Try.func27 (by kernel_rfl) rfl) (by show 1 ≤ Try.f27.ntmps; decide) (by kernel_rfl) ⟨rfl, trivial⟩ (fun cx hcx => ?_)
      exact ret_of (T := T0) hT hm (f := 5000) (orc := [.d false, .un 200, .d true, .call [] (iv (F66 a0.1)) [], .d false, .call [] (.v (.bool (F63 a0.2.1 0 1000))) [], .d true]) [] [] [] hcx
        (obs := [.eq false false, .eq true true, .pr (0 ≤ (0 : Int) ∧ (0 : Int) < ((1 : Nat) : Int)), .call 66 [(.a (k9 a0.1))] [] (iv (F66 a0.1)) [], .eq (((F66 a0.1) : Int) != 0) false, .call 63 [(iv a0.2.1), (iv 0), (iv 1000)] [] (.v (.bool (F63 a0.2.1 0 1000))) [], .eq (!(F63 a0.2.1 0 1000)) true]) (by kernel_rfl) ⟨rfl, rfl, (show 0 ≤ (0 : Int) ∧ (0 : Int) < ((1 : Nat) : Int) from by decide), (C66 a0.1), h0, (C63 a0.2.1 0 1000), h1, trivial⟩
    | false =>
      cases h2 : (!(F63 a0.2.2 (-100) 100)) with
      | true =>
        have q0 := bne_eq_false_iff_eq.1 h0
        have e : (F27_1 a0) = 1 := by simp only [F27_1, h0, h1, h2, cond_true, cond_false]
        rw [e]
        refine con_of (n := 9) Try.func27 rfl (ent Try.func27 (by kernel_rfl) rfl) (by show 1 ≤ Try.f27.ntmps; decide) (by kernel_rfl) ⟨rfl, trivial⟩ (fun cx hcx => ?_)
        exact ret_of (T := T0) hT hm (f := 5000) (orc := [.d false, .un 200, .d true, .call [] (iv (F66 a0.1)) [], .d false, .call [] (.v (.bool (F63 a0.2.1 0 1000))) [], .d false, .call [] (.v (.bool (F63 a0.2.2 (-100) 100))) [], .d true]) [] [] [] hcx
          (obs := [.eq false false, .eq true true, .pr (0 ≤ (0 : Int) ∧ (0 : Int) < ((1 : Nat) : Int)), .call 66 [(.a (k9 a0.1))] [] (iv (F66 a0.1)) [], .eq (((F66 a0.1) : Int) != 0) false, .call 63 [(iv a0.2.1), (iv 0), (iv 1000)] [] (.v (.bool (F63 a0.2.1 0 1000))) [], .eq (!(F63 a0.2.1 0 1000)) false, .call 63 [(iv a0.2.2), (iv (-100)), (iv 100)] [] (.v (.bool (F63 a0.2.2 (-100) 100))) [], .eq (!(F63 a0.2.2 (-100) 100)) true]) (by kernel_rfl) ⟨rfl, rfl, (show 0 ≤ (0 : Int) ∧ (0 : Int) < ((1 : Nat) : Int) from by decide), (C66 a0.1), h0, (C63 a0.2.1 0 1000), h1, (C63 a0.2.2 (-100) 100), h2, trivial⟩
      | false =>
        have q0 := bne_eq_false_iff_eq.1 h0
        have e : (F27_1 a0) = 0 := by simp only [F27_1, h0, h1, h2, cond_true, cond_false]
        rw [e]
        refine con_of (n := 9) Try.func27 rfl (ent Try.func27 (by kernel_rfl) rfl) (by show 1 ≤ Try.f27.ntmps; decide) (by kernel_rfl) ⟨rfl, trivial⟩ (fun cx hcx => ?_)
        exact ret_of (T := T0) hT hm (f := 5000) (orc := [.d false, .un 200, .d true, .call [] (iv (F66 a0.1)) [], .d false, .call [] (.v (.bool (F63 a0.2.1 0 1000))) [], .d false, .call [] (.v (.bool (F63 a0.2.2 (-100) 100))) [], .d false, .un 0, .d false]) [] [] [] hcx
          (obs := [.eq false false, .eq true true, .pr (0 ≤ (0 : Int) ∧ (0 : Int) < ((1 : Nat) : Int)), .call 66 [(.a (k9 a0.1))] [] (iv (F66 a0.1)) [], .eq (((F66 a0.1) : Int) != 0) false, .call 63 [(iv a0.2.1), (iv 0), (iv 1000)] [] (.v (.bool (F63 a0.2.1 0 1000))) [], .eq (!(F63 a0.2.1 0 1000)) false, .call 63 [(iv a0.2.2), (iv (-100)), (iv 100)] [] (.v (.bool (F63 a0.2.2 (-100) 100))) [], .eq (!(F63 a0.2.2 (-100) 100)) false, .eq false false]) (by kernel_rfl) ⟨rfl, rfl, (show 0 ≤ (0 : Int) ∧ (0 : Int) < ((1 : Nat) : Int) from by decide), (C66 a0.1), h0, (C63 a0.2.1 0 1000), h1, (C63 a0.2.2 (-100) 100), h2, rfl, trivial⟩

/-- facet/sound.check at (1,) -/
def F53_1 (a0 : ((Int × Int × Int) × (Int × Int × Int) × Int × Int × Int) × Int × Int) (a1 : Bool) : Int :=
  (bif (((F27_1 a0) : Int) != 0) then
   (F27_1 a0)
  else
   (bif (!a1) then
    1
   else
    0))

noncomputable def oC53_1_0 (a0 : ((Int × Int × Int) × (Int × Int × Int) × Int × Int × Int) × Int × Int) : Ob := .call 27 [(.s 0 0 1 11)] [(.live false false [(iv a0.1.1.1), (iv a0.1.1.2.1), (iv a0.1.1.2.2), (iv a0.1.2.1.1), (iv a0.1.2.1.2.1), (iv a0.1.2.1.2.2), (iv a0.1.2.2.1), (iv a0.1.2.2.2.1), (iv a0.1.2.2.2.2), (iv a0.2.1), (iv a0.2.2)])] (iv (F27_1 a0)) []
theorem C53_1 (a0 : ((Int × Int × Int) × (Int × Int × Int) × Int × Int × Int) × Int × Int) (a1 : Bool) : Con Try.prog 53 [(.s 0 0 1 11), (.v (.bool a1))] [(.live false false [(iv a0.1.1.1), (iv a0.1.1.2.1), (iv a0.1.1.2.2), (iv a0.1.2.1.1), (iv a0.1.2.1.2.1), (iv a0.1.2.1.2.2), (iv a0.1.2.2.1), (iv a0.1.2.2.2.1), (iv a0.1.2.2.2.2), (iv a0.2.1), (iv a0.2.2)])] (iv (F53_1 a0 a1)) [] := by
  cases h0 : (((F27_1 a0) : Int) != 0) with
  | true =>
    have q0 := bne_iff_ne.1 h0
    have e : (F53_1 a0 a1) = (F27_1 a0) := by simp only [F53_1, h0, cond_true, cond_false]
    rw [e]
    refine con_of (n := 9) Try.func53 rfl (ent Try.func53 (by kernel_rfl) rfl) (by show 2 ≤ Try.f53.ntmps; decide) (by kernel_rfl) ⟨rfl, trivial⟩ (fun cx hcx => ?_)
    exact ret_of (T := T0) hT hm (f := 5000) (orc := [.call [0] (iv (F27_1 a0)) [], .d true]) [] [] [] hcx
      (obs := [(oC53_1_0 a0), .eq (((F27_1 a0) : Int) != 0) true]) (by kernel_rfl) ⟨(C27_1 a0), h0, trivial⟩
  | false =>
    cases h1 : (!a1) with
    | true =>
      have q0 := bne_eq_false_iff_eq.1 h0
      have e : (F53_1 a0 a1) = 1 := by simp only [F53_1, h0, h1, cond_true, cond_false]
      rw [e]
      refine con_of (n := 9) Try.func53 rfl (ent Try.func53 (by kernel_rfl) rfl) (by show 2 ≤ Try.f53.ntmps; decide) (by kernel_rfl) ⟨rfl, trivial⟩ (fun cx hcx => ?_)
      exact ret_of (T := T0) hT hm (f := 5000) (orc := [.call [0] (iv (F27_1 a0)) [], .d false, .d true]) [] [] [] hcx
        (obs := [(oC53_1_0 a0), .eq (((F27_1 a0) : Int) != 0) false, .eq (!a1) true]) (by kernel_rfl) ⟨(C27_1 a0), h0, h1, trivial⟩
    | false =>
      have q0 := bne_eq_false_iff_eq.1 h0
      have e : (F53_1 a0 a1) = 0 := by simp only [F53_1, h0, h1, cond_true, cond_false]
      rw [e]
      refine con_of (n := 9) Try.func53 rfl (ent Try.func53 (by kernel_rfl) rfl) (by show 2 ≤ Try.f53.ntmps; decide) (by kernel_rfl) ⟨rfl, trivial⟩ (fun cx hcx => ?_)
      exact ret_of (T := T0) hT hm (f := 5000) (orc := [.call [0] (iv (F27_1 a0)) [], .d false, .d false]) [] [] [] hcx
        (obs := [(oC53_1_0 a0), .eq (((F27_1 a0) : Int) != 0) false, .eq (!a1) false]) (by kernel_rfl) ⟨(C27_1 a0), h0, h1, trivial⟩

/-- facet/facetref04.size -/
def F73 (a0 : Int) : Int :=
  (if (a0 : Int) < (W (0 - a0)) then (W (0 - a0)) else a0)

theorem C73 (a0 : Int) : Con Try.prog 73 [(iv a0)] [] (iv (F73 a0)) [] := by
  have e : (F73 a0) = (if (a0 : Int) < (W (0 - a0)) then (W (0 - a0)) else a0) := by simp only [F73]
  rw [e]
  refine con_of (n := 9) Try.func73 rfl (ent Try.func73 (by kernel_rfl) rfl) (by show 1 ≤ Try.f73.ntmps; decide) (by kernel_rfl) trivial (fun cx hcx => ?_)
  exact ret_of (T := T0) hT hm (f := 5000) (orc := []) [] [] [] hcx
    (obs := []) (by kernel_rfl) trivial

/-- facet/facetref04.Small -/
def F36 (a0 : Int × Int × Int) (a1 : Int) : Bool :=
  (bif (decide (((F73 a0.1) : Int) ≤ a1)) then
   (bif (decide (((F73 a0.2.1) : Int) ≤ a1)) then
    (bif (decide (((F73 a0.2.2) : Int) ≤ a1)) then
     (bif (decide ((a0.1 : Int) ≥ (W (0 - a1)))) then
      (bif (decide ((a0.2.1 : Int) ≥ (W (0 - a1)))) then
       (decide ((a0.2.2 : Int) ≥ (W (0 - a1))))
      else
       false)
     else
      false)
    else
     false)
   else
    false)
  else
   false)

theorem C36 (a0 : Int × Int × Int) (a1 : Int) : Con Try.prog 36 [(.a (k3 a0)), (iv a1)] [] (.v (.bool (F36 a0 a1))) [] := by
  cases h0 : (decide (((F73 a0.1) : Int) ≤ a1)) with
  | true =>
    cases h1 : (decide (((F73 a0.2.1) : Int) ≤ a1)) with
    | true =>
      cases h2 : (decide (((F73 a0.2.2) : Int) ≤ a1)) with
      | true =>
        cases h3 : (decide ((a0.1 : Int) ≥ (W (0 - a1)))) with
        | true =>
          cases h4 : (decide ((a0.2.1 : Int) ≥ (W (0 - a1)))) with
          | true =>
            have q0 := of_decide_eq_true h0
            have q1 := of_decide_eq_true h1
            have q2 := of_decide_eq_true h2
            have q3 := of_decide_eq_true h3
            have q4 := of_decide_eq_true h4
            have e : (F36 a0 a1) = (decide ((a0.2.2 : Int) ≥ (W (0 - a1)))) := by simp only [F36, h0, h1, h2, h3, h4, cond_true, cond_false]
            rw [e]
            refine con_of (n := 9) Try.func36 rfl (ent Try.func36 (by kernel_rfl) rfl) (by show 2 ≤ Try.f36.ntmps; decide) (by kernel_rfl) trivial (fun cx hcx => ?_)
            exact ret_of (T := T0) hT hm (f := 5000) (orc := [.call [] (iv (F73 a0.1)) [], .d true, .call [] (iv (F73 a0.2.1)) [], .d true, .call [] (iv (F73 a0.2.2)) [], .d true, .d true, .d true]) [] [] [] hcx
              (obs := [.call 73 [(iv a0.1)] [] (iv (F73 a0.1)) [], .eq (decide (((F73 a0.1) : Int) ≤ a1)) true, .call 73 [(iv a0.2.1)] [] (iv (F73 a0.2.1)) [], .eq (decide (((F73 a0.2.1) : Int) ≤ a1)) true, .call 73 [(iv a0.2.2)] [] (iv (F73 a0.2.2)) [], .eq (decide (((F73 a0.2.2) : Int) ≤ a1)) true, .eq (decide ((a0.1 : Int) ≥ (W (0 - a1)))) true, .eq (decide ((a0.2.1 : Int) ≥ (W (0 - a1)))) true]) (by kernel_rfl) ⟨(C73 a0.1), h0, (C73 a0.2.1), h1, (C73 a0.2.2), h2, h3, h4, trivial⟩
          | false =>
            have q0 := of_decide_eq_true h0
            have q1 := of_decide_eq_true h1
            have q2 := of_decide_eq_true h2
            have q3 := of_decide_eq_true h3
            have q4 := of_decide_eq_false h4
            have e : (F36 a0 a1) = false := by simp only [F36, h0, h1, h2, h3, h4, cond_true, cond_false]
            rw [e]
            refine con_of (n := 9) Try.func36 rfl (ent Try.func36 (by kernel_rfl) rfl) (by show 2 ≤ Try.f36.ntmps; decide) (by kernel_rfl) trivial (fun cx hcx => ?_)
            exact ret_of (T := T0) hT hm (f := 5000) (orc := [.call [] (iv (F73 a0.1)) [], .d true, .call [] (iv (F73 a0.2.1)) [], .d true, .call [] (iv (F73 a0.2.2)) [], .d true, .d true, .d false]) [] [] [] hcx
              (obs := [.call 73 [(iv a0.1)] [] (iv (F73 a0.1)) [], .eq (decide (((F73 a0.1) : Int) ≤ a1)) true, .call 73 [(iv a0.2.1)] [] (iv (F73 a0.2.1)) [], .eq (decide (((F73 a0.2.1) : Int) ≤ a1)) true, .call 73 [(iv a0.2.2)] [] (iv (F73 a0.2.2)) [], .eq (decide (((F73 a0.2.2) : Int) ≤ a1)) true, .eq (decide ((a0.1 : Int) ≥ (W (0 - a1)))) true, .eq (decide ((a0.2.1 : Int) ≥ (W (0 - a1)))) false]) (by kernel_rfl) ⟨(C73 a0.1), h0, (C73 a0.2.1), h1, (C73 a0.2.2), h2, h3, h4, trivial⟩
        | false =>
          have q0 := of_decide_eq_true h0
          have q1 := of_decide_eq_true h1
          have q2 := of_decide_eq_true h2
          have q3 := of_decide_eq_false h3
          have e : (F36 a0 a1) = false := by simp only [F36, h0, h1, h2, h3, cond_true, cond_false]
          rw [e]
          refine con_of (n := 9) Try.func36 rfl (ent Try.func36 (by kernel_rfl) rfl) (by show 2 ≤ Try.f36.ntmps; decide) (by kernel_rfl) trivial (fun cx hcx => ?_)
          exact ret_of (T := T0) hT hm (f := 5000) (orc := [.call [] (iv (F73 a0.1)) [], .d true, .call [] (iv (F73 a0.2.1)) [], .d true, .call [] (iv (F73 a0.2.2)) [], .d true, .d false]) [] [] [] hcx
            (obs := [.call 73 [(iv a0.1)] [] (iv (F73 a0.1)) [], .eq (decide (((F73 a0.1) : Int) ≤ a1)) true, .call 73 [(iv a0.2.1)] [] (iv (F73 a0.2.1)) [], .eq (decide (((F73 a0.2.1) : Int) ≤ a1)) true, .call 73 [(iv a0.2.2)] [] (iv (F73 a0.2.2)) [], .eq (decide (((F73 a0.2.2) : Int) ≤ a1)) true, .eq (decide ((a0.1 : Int) ≥ (W (0 - a1)))) false]) (by kernel_rfl) ⟨(C73 a0.1), h0, (C73 a0.2.1), h1, (C73 a0.2.2), h2, h3, trivial⟩
      | false =>
        have q0 := of_decide_eq_true h0
        have q1 := of_decide_eq_true h1
        have q2 := of_decide_eq_false h2
        have e : (F36 a0 a1) = false := by simp only [F36, h0, h1, h2, cond_true, cond_false]
        rw [e]
        refine con_of (n := 9) Try.func36 rfl (ent Try.func36 (by kernel_rfl) rfl) (by show 2 ≤ Try.f36.ntmps; decide) (by kernel_rfl) trivial (fun cx hcx => ?_)
        exact ret_of (T := T0) hT hm (f := 5000) (orc := [.call [] (iv (F73 a0.1)) [], .d true, .call [] (iv (F73 a0.2.1)) [], .d true, .call [] (iv (F73 a0.2.2)) [], .d false]) [] [] [] hcx
          (obs := [.call 73 [(iv a0.1)] [] (iv (F73 a0.1)) [], .eq (decide (((F73 a0.1) : Int) ≤ a1)) true, .call 73 [(iv a0.2.1)] [] (iv (F73 a0.2.1)) [], .eq (decide (((F73 a0.2.1) : Int) ≤ a1)) true, .call 73 [(iv a0.2.2)] [] (iv (F73 a0.2.2)) [], .eq (decide (((F73 a0.2.2) : Int) ≤ a1)) false]) (by kernel_rfl) ⟨(C73 a0.1), h0, (C73 a0.2.1), h1, (C73 a0.2.2), h2, trivial⟩
    | false =>
      have q0 := of_decide_eq_true h0
      have q1 := of_decide_eq_false h1
      have e : (F36 a0 a1) = false := by simp only [F36, h0, h1, cond_true, cond_false]
      rw [e]
      refine con_of (n := 9) Try.func36 rfl (ent Try.func36 (by kernel_rfl) rfl) (by show 2 ≤ Try.f36.ntmps; decide) (by kernel_rfl) trivial (fun cx hcx => ?_)
      exact ret_of (T := T0) hT hm (f := 5000) (orc := [.call [] (iv (F73 a0.1)) [], .d true, .call [] (iv (F73 a0.2.1)) [], .d false]) [] [] [] hcx
        (obs := [.call 73 [(iv a0.1)] [] (iv (F73 a0.1)) [], .eq (decide (((F73 a0.1) : Int) ≤ a1)) true, .call 73 [(iv a0.2.1)] [] (iv (F73 a0.2.1)) [], .eq (decide (((F73 a0.2.1) : Int) ≤ a1)) false]) (by kernel_rfl) ⟨(C73 a0.1), h0, (C73 a0.2.1), h1, trivial⟩
  | false =>
    have q0 := of_decide_eq_false h0
    have e : (F36 a0 a1) = false := by simp only [F36, h0, cond_true, cond_false]
    rw [e]
    refine con_of (n := 9) Try.func36 rfl (ent Try.func36 (by kernel_rfl) rfl) (by show 2 ≤ Try.f36.ntmps; decide) (by kernel_rfl) trivial (fun cx hcx => ?_)
    exact ret_of (T := T0) hT hm (f := 5000) (orc := [.call [] (iv (F73 a0.1)) [], .d false]) [] [] [] hcx
      (obs := [.call 73 [(iv a0.1)] [] (iv (F73 a0.1)) [], .eq (decide (((F73 a0.1) : Int) ≤ a1)) false]) (by kernel_rfl) ⟨(C73 a0.1), h0, trivial⟩

/-- facet/facetref08.within -/
def F65 (a0 : Int) (a1 : Int) (a2 : Int) : Bool :=
  (bif (decide ((a0 : Int) ≥ a1)) then
   (decide ((a0 : Int) ≤ a2))
  else
   false)

theorem C65 (a0 : Int) (a1 : Int) (a2 : Int) : Con Try.prog 65 [(iv a0), (iv a1), (iv a2)] [] (.v (.bool (F65 a0 a1 a2))) [] := by
  cases h0 : (decide ((a0 : Int) ≥ a1)) with
  | true =>
    have q0 := of_decide_eq_true h0
    have e : (F65 a0 a1 a2) = (decide ((a0 : Int) ≤ a2)) := by simp only [F65, h0, cond_true, cond_false]
    rw [e]
    refine con_of (n := 9) Try.func65 rfl (ent Try.func65 (by kernel_rfl) rfl) (by show 3 ≤ Try.f65.ntmps; decide) (by kernel_rfl) trivial (fun cx hcx => ?_)
    exact ret_of (T := T0) hT hm (f := 5000) (orc := [.d true]) [] [] [] hcx
      (obs := [.eq (decide ((a0 : Int) ≥ a1)) true]) (by kernel_rfl) ⟨h0, trivial⟩
  | false =>
    have q0 := of_decide_eq_false h0
    have e : (F65 a0 a1 a2) = false := by simp only [F65, h0, cond_true, cond_false]
    rw [e]
    refine con_of (n := 9) Try.func65 rfl (ent Try.func65 (by kernel_rfl) rfl) (by show 3 ≤ Try.f65.ntmps; decide) (by kernel_rfl) trivial (fun cx hcx => ?_)
    exact ret_of (T := T0) hT hm (f := 5000) (orc := [.d false]) [] [] [] hcx
      (obs := [.eq (decide ((a0 : Int) ≥ a1)) false]) (by kernel_rfl) ⟨h0, trivial⟩

/-- facet/facetref08.asked -/
def F49 (a0 : Int × Int × Int) (a1 : Int) (a2 : Int) (a3 : Int) : Int :=
  (bif (!(F36 a0 256)) then
   1
  else
   (bif (!(F65 a1 1 16)) then
    1
   else
    (bif (!(F65 a2 0 2000)) then
     1
    else
     (bif (!(F65 a3 0 3)) then
      1
     else
      0))))

noncomputable def oC49_0 (a0 : Int × Int × Int) : Ob := .call 36 [(.a (k3 a0)), (iv 256)] [] (.v (.bool (F36 a0 256))) []
noncomputable def oC49_1 (a1 : Int) : Ob := .call 65 [(iv a1), (iv 1), (iv 16)] [] (.v (.bool (F65 a1 1 16))) []
theorem C49 (a0 : Int × Int × Int) (a1 : Int) (a2 : Int) (a3 : Int) : Con Try.prog 49 [(.a (k3 a0)), (iv a1), (iv a2), (iv a3)] [] (iv (F49 a0 a1 a2 a3)) [] := by
  cases h0 : (!(F36 a0 256)) with
  | true =>
    have e : (F49 a0 a1 a2 a3) = 1 := by simp only [F49, h0, cond_true, cond_false]
    rw [e]
    refine con_of (n := 9) Try.func49 rfl (ent Try.func49 (by kernel_rfl) rfl) (by show 4 ≤ Try.f49.ntmps; decide) (by kernel_rfl) trivial (fun cx hcx => ?_)
    exact ret_of (T := T0) hT hm (f := 5000) (orc := [.call [] (.v (.bool (F36 a0 256))) [], .d true]) [] [] [] hcx
      (obs := [(oC49_0 a0), .eq (!(F36 a0 256)) true]) (by kernel_rfl) ⟨(C36 a0 256), h0, trivial⟩
  | false =>
    cases h1 : (!(F65 a1 1 16)) with
    | true =>
      have e : (F49 a0 a1 a2 a3) = 1 := by simp only [F49, h0, h1, cond_true, cond_false]
      rw [e]
      refine con_of (n := 9) Try.func49 rfl (ent Try.func49 (by kernel_rfl) rfl) (by show 4 ≤ Try.f49.ntmps; decide) (by kernel_rfl) trivial (fun cx hcx => ?_)
      exact ret_of (T := T0) hT hm (f := 5000) (orc := [.call [] (.v (.bool (F36 a0 256))) [], .d false, .call [] (.v (.bool (F65 a1 1 16))) [], .d true]) [] [] [] hcx
        (obs := [(oC49_0 a0), .eq (!(F36 a0 256)) false, (oC49_1 a1), .eq (!(F65 a1 1 16)) true]) (by kernel_rfl) ⟨(C36 a0 256), h0, (C65 a1 1 16), h1, trivial⟩
    | false =>
      cases h2 : (!(F65 a2 0 2000)) with
      | true =>
        have e : (F49 a0 a1 a2 a3) = 1 := by simp only [F49, h0, h1, h2, cond_true, cond_false]
        rw [e]
        refine con_of (n := 9) Try.func49 rfl (ent Try.func49 (by kernel_rfl) rfl) (by show 4 ≤ Try.f49.ntmps; decide) (by kernel_rfl) trivial (fun cx hcx => ?_)
        exact ret_of (T := T0) hT hm (f := 5000) (orc := [.call [] (.v (.bool (F36 a0 256))) [], .d false, .call [] (.v (.bool (F65 a1 1 16))) [], .d false, .call [] (.v (.bool (F65 a2 0 2000))) [], .d true]) [] [] [] hcx
          (obs := [(oC49_0 a0), .eq (!(F36 a0 256)) false, (oC49_1 a1), .eq (!(F65 a1 1 16)) false, .call 65 [(iv a2), (iv 0), (iv 2000)] [] (.v (.bool (F65 a2 0 2000))) [], .eq (!(F65 a2 0 2000)) true]) (by kernel_rfl) ⟨(C36 a0 256), h0, (C65 a1 1 16), h1, (C65 a2 0 2000), h2, trivial⟩
      | false =>
        cases h3 : (!(F65 a3 0 3)) with
        | true =>
          have e : (F49 a0 a1 a2 a3) = 1 := by simp only [F49, h0, h1, h2, h3, cond_true, cond_false]
          rw [e]
          refine con_of (n := 9) Try.func49 rfl (ent Try.func49 (by kernel_rfl) rfl) (by show 4 ≤ Try.f49.ntmps; decide) (by kernel_rfl) trivial (fun cx hcx => ?_)
          exact ret_of (T := T0) hT hm (f := 5000) (orc := [.call [] (.v (.bool (F36 a0 256))) [], .d false, .call [] (.v (.bool (F65 a1 1 16))) [], .d false, .call [] (.v (.bool (F65 a2 0 2000))) [], .d false, .call [] (.v (.bool (F65 a3 0 3))) [], .d true]) [] [] [] hcx
            (obs := [(oC49_0 a0), .eq (!(F36 a0 256)) false, (oC49_1 a1), .eq (!(F65 a1 1 16)) false, .call 65 [(iv a2), (iv 0), (iv 2000)] [] (.v (.bool (F65 a2 0 2000))) [], .eq (!(F65 a2 0 2000)) false, .call 65 [(iv a3), (iv 0), (iv 3)] [] (.v (.bool (F65 a3 0 3))) [], .eq (!(F65 a3 0 3)) true]) (by kernel_rfl) ⟨(C36 a0 256), h0, (C65 a1 1 16), h1, (C65 a2 0 2000), h2, (C65 a3 0 3), h3, trivial⟩
        | false =>
          have e : (F49 a0 a1 a2 a3) = 0 := by simp only [F49, h0, h1, h2, h3, cond_true, cond_false]
          rw [e]
          refine con_of (n := 9) Try.func49 rfl (ent Try.func49 (by kernel_rfl) rfl) (by show 4 ≤ Try.f49.ntmps; decide) (by kernel_rfl) trivial (fun cx hcx => ?_)
          exact ret_of (T := T0) hT hm (f := 5000) (orc := [.call [] (.v (.bool (F36 a0 256))) [], .d false, .call [] (.v (.bool (F65 a1 1 16))) [], .d false, .call [] (.v (.bool (F65 a2 0 2000))) [], .d false, .call [] (.v (.bool (F65 a3 0 3))) [], .d false]) [] [] [] hcx
            (obs := [(oC49_0 a0), .eq (!(F36 a0 256)) false, (oC49_1 a1), .eq (!(F65 a1 1 16)) false, .call 65 [(iv a2), (iv 0), (iv 2000)] [] (.v (.bool (F65 a2 0 2000))) [], .eq (!(F65 a2 0 2000)) false, .call 65 [(iv a3), (iv 0), (iv 3)] [] (.v (.bool (F65 a3 0 3))) [], .eq (!(F65 a3 0 3)) false]) (by kernel_rfl) ⟨(C36 a0 256), h0, (C65 a1 1 16), h1, (C65 a2 0 2000), h2, (C65 a3 0 3), h3, trivial⟩

/-- facet/facetref08.one -/
def F55 (a0 : ((Int × Int × Int) × (Int × Int × Int) × Int × Int × Int) × Int × Int) : Int :=
  (bif (((F85 a0.1) : Int) != 0) then
   (F85 a0.1)
  else
   (bif (!(F65 a0.2.1 0 1000)) then
    1
   else
    (bif (!(F65 a0.2.2 (-100) 100)) then
     1
    else
     0)))

theorem C55 (a0 : ((Int × Int × Int) × (Int × Int × Int) × Int × Int × Int) × Int × Int) : Con Try.prog 55 [(.a [(iv a0.1.1.1), (iv a0.1.1.2.1), (iv a0.1.1.2.2), (iv a0.1.2.1.1), (iv a0.1.2.1.2.1), (iv a0.1.2.1.2.2), (iv a0.1.2.2.1), (iv a0.1.2.2.2.1), (iv a0.1.2.2.2.2), (iv a0.2.1), (iv a0.2.2)])] [] (iv (F55 a0)) [] := by
  cases h0 : (((F85 a0.1) : Int) != 0) with
  | true =>
    have q0 := bne_iff_ne.1 h0
    have e : (F55 a0) = (F85 a0.1) := by simp only [F55, h0, cond_true, cond_false]
    rw [e]
    refine con_of (n := 9) Try.func55 rfl (ent Try.func55 (by kernel_rfl) rfl) (by show 1 ≤ Try.f55.ntmps; decide) (by kernel_rfl) trivial (fun cx hcx => ?_)
    exact ret_of (T := T0) hT hm (f := 5000) (orc := [.call [] (iv (F85 a0.1)) [], .d true]) [] [] [] hcx
      (obs := [.call 85 [(.a (k9 a0.1))] [] (iv (F85 a0.1)) [], .eq (((F85 a0.1) : Int) != 0) true]) (by kernel_rfl) ⟨(C85 a0.1), h0, trivial⟩
  | false =>
    cases h1 : (!(F65 a0.2.1 0 1000)) with
    | true =>
      have q0 := bne_eq_false_iff_eq.1 h0
      have e : (F55 a0) = 1 := by simp only [F55, h0, h1, cond_true, cond_false]
      rw [e]
      refine con_of (n := 9) Try.func55 rfl (ent Try.func55 (by kernel_rfl) rfl) (by show 1 ≤ Try.f55.ntmps; decide) (by kernel_rfl) trivial (fun cx hcx => ?_)
      exact ret_of (T := T0) hT hm (f := 5000) (orc := [.call [] (iv (F85 a0.1)) [], .d false, .call [] (.v (.bool (F65 a0.2.1 0 1000))) [], .d true]) [] [] [] hcx
        (obs := [.call 85 [(.a (k9 a0.1))] [] (iv (F85 a0.1)) [], .eq (((F85 a0.1) : Int) != 0) false, .call 65 [(iv a0.2.1), (iv 0), (iv 1000)] [] (.v (.bool (F65 a0.2.1 0 1000))) [], .eq (!(F65 a0.2.1 0 1000)) true]) (by kernel_rfl) ⟨(C85 a0.1), h0, (C65 a0.2.1 0 1000), h1, trivial⟩
    | false =>
      cases h2 : (!(F65 a0.2.2 (-100) 100)) with
      | true =>
        have q0 := bne_eq_false_iff_eq.1 h0
        have e : (F55 a0) = 1 := by simp only [F55, h0, h1, h2, cond_true, cond_false]
        rw [e]
        refine con_of (n := 9) Try.func55 rfl (ent Try.func55 (by kernel_rfl) rfl) (by show 1 ≤ Try.f55.ntmps; decide) (by kernel_rfl) trivial (fun cx hcx => ?_)
        exact ret_of (T := T0) hT hm (f := 5000) (orc := [.call [] (iv (F85 a0.1)) [], .d false, .call [] (.v (.bool (F65 a0.2.1 0 1000))) [], .d false, .call [] (.v (.bool (F65 a0.2.2 (-100) 100))) [], .d true]) [] [] [] hcx
          (obs := [.call 85 [(.a (k9 a0.1))] [] (iv (F85 a0.1)) [], .eq (((F85 a0.1) : Int) != 0) false, .call 65 [(iv a0.2.1), (iv 0), (iv 1000)] [] (.v (.bool (F65 a0.2.1 0 1000))) [], .eq (!(F65 a0.2.1 0 1000)) false, .call 65 [(iv a0.2.2), (iv (-100)), (iv 100)] [] (.v (.bool (F65 a0.2.2 (-100) 100))) [], .eq (!(F65 a0.2.2 (-100) 100)) true]) (by kernel_rfl) ⟨(C85 a0.1), h0, (C65 a0.2.1 0 1000), h1, (C65 a0.2.2 (-100) 100), h2, trivial⟩
      | false =>
        have q0 := bne_eq_false_iff_eq.1 h0
        have e : (F55 a0) = 0 := by simp only [F55, h0, h1, h2, cond_true, cond_false]
        rw [e]
        refine con_of (n := 9) Try.func55 rfl (ent Try.func55 (by kernel_rfl) rfl) (by show 1 ≤ Try.f55.ntmps; decide) (by kernel_rfl) trivial (fun cx hcx => ?_)
        exact ret_of (T := T0) hT hm (f := 5000) (orc := [.call [] (iv (F85 a0.1)) [], .d false, .call [] (.v (.bool (F65 a0.2.1 0 1000))) [], .d false, .call [] (.v (.bool (F65 a0.2.2 (-100) 100))) [], .d false]) [] [] [] hcx
          (obs := [.call 85 [(.a (k9 a0.1))] [] (iv (F85 a0.1)) [], .eq (((F85 a0.1) : Int) != 0) false, .call 65 [(iv a0.2.1), (iv 0), (iv 1000)] [] (.v (.bool (F65 a0.2.1 0 1000))) [], .eq (!(F65 a0.2.1 0 1000)) false, .call 65 [(iv a0.2.2), (iv (-100)), (iv 100)] [] (.v (.bool (F65 a0.2.2 (-100) 100))) [], .eq (!(F65 a0.2.2 (-100) 100)) false]) (by kernel_rfl) ⟨(C85 a0.1), h0, (C65 a0.2.1 0 1000), h1, (C65 a0.2.2 (-100) 100), h2, trivial⟩

/-- facet/facetref08.gap -/
def F86 (a0 : Int) (a1 : Int) (a2 : Int) : Int :=
  (if ((if ((W (a1 - a0)) : Int) < (W (a0 - a2)) then (W (a0 - a2)) else (W (a1 - a0))) : Int) < 0 then 0 else (if ((W (a1 - a0)) : Int) < (W (a0 - a2)) then (W (a0 - a2)) else (W (a1 - a0))))

theorem C86 (a0 : Int) (a1 : Int) (a2 : Int) : Con Try.prog 86 [(iv a0), (iv a1), (iv a2)] [] (iv (F86 a0 a1 a2)) [] := by
  have e : (F86 a0 a1 a2) = (if ((if ((W (a1 - a0)) : Int) < (W (a0 - a2)) then (W (a0 - a2)) else (W (a1 - a0))) : Int) < 0 then 0 else (if ((W (a1 - a0)) : Int) < (W (a0 - a2)) then (W (a0 - a2)) else (W (a1 - a0)))) := by simp only [F86]
  rw [e]
  refine con_of (n := 9) Try.func86 rfl (ent Try.func86 (by kernel_rfl) rfl) (by show 3 ≤ Try.f86.ntmps; decide) (by kernel_rfl) trivial (fun cx hcx => ?_)
  exact ret_of (T := T0) hT hm (f := 5000) (orc := []) [] [] [] hcx
    (obs := []) (by kernel_rfl) trivial

/-- facet/facetref04.Square -/
def F51 (a0 : Int × Int × Int) : Int :=
  (W ((W ((W (a0.1 * a0.1)) + (W (a0.2.1 * a0.2.1)))) + (W (a0.2.2 * a0.2.2))))

theorem C51 (a0 : Int × Int × Int) : Con Try.prog 51 [(.a (k3 a0))] [] (iv (F51 a0)) [] := by
  have e : (F51 a0) = (W ((W ((W (a0.1 * a0.1)) + (W (a0.2.1 * a0.2.1)))) + (W (a0.2.2 * a0.2.2)))) := by simp only [F51]
  rw [e]
  refine con_of (n := 9) Try.func51 rfl (ent Try.func51 (by kernel_rfl) rfl) (by show 1 ≤ Try.f51.ntmps; decide) (by kernel_rfl) trivial (fun cx hcx => ?_)
  exact ret_of (T := T0) hT hm (f := 5000) (orc := []) [] [] [] hcx
    (obs := []) (by kernel_rfl) trivial

/-- facet/facetref08.near -/
def F56 (a0 : (Int × Int × Int) × (Int × Int × Int) × Int × Int × Int) (a1 : Int × Int × Int) : Int :=
  (F51 ((F86 a1.1 (if (a0.2.2.1 : Int) < (if (a0.2.1.1 : Int) < a0.1.1 then a0.2.1.1 else a0.1.1) then a0.2.2.1 else (if (a0.2.1.1 : Int) < a0.1.1 then a0.2.1.1 else a0.1.1)) (if ((if (a0.1.1 : Int) < a0.2.1.1 then a0.2.1.1 else a0.1.1) : Int) < a0.2.2.1 then a0.2.2.1 else (if (a0.1.1 : Int) < a0.2.1.1 then a0.2.1.1 else a0.1.1))), (F86 a1.2.1 (if (a0.2.2.2.1 : Int) < (if (a0.2.1.2.1 : Int) < a0.1.2.1 then a0.2.1.2.1 else a0.1.2.1) then a0.2.2.2.1 else (if (a0.2.1.2.1 : Int) < a0.1.2.1 then a0.2.1.2.1 else a0.1.2.1)) (if ((if (a0.1.2.1 : Int) < a0.2.1.2.1 then a0.2.1.2.1 else a0.1.2.1) : Int) < a0.2.2.2.1 then a0.2.2.2.1 else (if (a0.1.2.1 : Int) < a0.2.1.2.1 then a0.2.1.2.1 else a0.1.2.1))), (F86 a1.2.2 (if (a0.2.2.2.2 : Int) < (if (a0.2.1.2.2 : Int) < a0.1.2.2 then a0.2.1.2.2 else a0.1.2.2) then a0.2.2.2.2 else (if (a0.2.1.2.2 : Int) < a0.1.2.2 then a0.2.1.2.2 else a0.1.2.2)) (if ((if (a0.1.2.2 : Int) < a0.2.1.2.2 then a0.2.1.2.2 else a0.1.2.2) : Int) < a0.2.2.2.2 then a0.2.2.2.2 else (if (a0.1.2.2 : Int) < a0.2.1.2.2 then a0.2.1.2.2 else a0.1.2.2)))))

theorem C56 (a0 : (Int × Int × Int) × (Int × Int × Int) × Int × Int × Int) (a1 : Int × Int × Int) : Con Try.prog 56 [(.a (k9 a0)), (.a (k3 a1))] [] (iv (F56 a0 a1)) [] := by
  have e : (F56 a0 a1) = (F51 ((F86 a1.1 (if (a0.2.2.1 : Int) < (if (a0.2.1.1 : Int) < a0.1.1 then a0.2.1.1 else a0.1.1) then a0.2.2.1 else (if (a0.2.1.1 : Int) < a0.1.1 then a0.2.1.1 else a0.1.1)) (if ((if (a0.1.1 : Int) < a0.2.1.1 then a0.2.1.1 else a0.1.1) : Int) < a0.2.2.1 then a0.2.2.1 else (if (a0.1.1 : Int) < a0.2.1.1 then a0.2.1.1 else a0.1.1))), (F86 a1.2.1 (if (a0.2.2.2.1 : Int) < (if (a0.2.1.2.1 : Int) < a0.1.2.1 then a0.2.1.2.1 else a0.1.2.1) then a0.2.2.2.1 else (if (a0.2.1.2.1 : Int) < a0.1.2.1 then a0.2.1.2.1 else a0.1.2.1)) (if ((if (a0.1.2.1 : Int) < a0.2.1.2.1 then a0.2.1.2.1 else a0.1.2.1) : Int) < a0.2.2.2.1 then a0.2.2.2.1 else (if (a0.1.2.1 : Int) < a0.2.1.2.1 then a0.2.1.2.1 else a0.1.2.1))), (F86 a1.2.2 (if (a0.2.2.2.2 : Int) < (if (a0.2.1.2.2 : Int) < a0.1.2.2 then a0.2.1.2.2 else a0.1.2.2) then a0.2.2.2.2 else (if (a0.2.1.2.2 : Int) < a0.1.2.2 then a0.2.1.2.2 else a0.1.2.2)) (if ((if (a0.1.2.2 : Int) < a0.2.1.2.2 then a0.2.1.2.2 else a0.1.2.2) : Int) < a0.2.2.2.2 then a0.2.2.2.2 else (if (a0.1.2.2 : Int) < a0.2.1.2.2 then a0.2.1.2.2 else a0.1.2.2))))) := by simp only [F56]
  rw [e]
  refine con_of (n := 9) Try.func56 rfl (ent Try.func56 (by kernel_rfl) rfl) (by show 2 ≤ Try.f56.ntmps; decide) (by kernel_rfl) trivial (fun cx hcx => ?_)
  exact ret_of (T := T0) hT hm (f := 5000) (orc := [.call [] (iv (F86 a1.1 (if (a0.2.2.1 : Int) < (if (a0.2.1.1 : Int) < a0.1.1 then a0.2.1.1 else a0.1.1) then a0.2.2.1 else (if (a0.2.1.1 : Int) < a0.1.1 then a0.2.1.1 else a0.1.1)) (if ((if (a0.1.1 : Int) < a0.2.1.1 then a0.2.1.1 else a0.1.1) : Int) < a0.2.2.1 then a0.2.2.1 else (if (a0.1.1 : Int) < a0.2.1.1 then a0.2.1.1 else a0.1.1)))) [], .call [] (iv (F86 a1.2.1 (if (a0.2.2.2.1 : Int) < (if (a0.2.1.2.1 : Int) < a0.1.2.1 then a0.2.1.2.1 else a0.1.2.1) then a0.2.2.2.1 else (if (a0.2.1.2.1 : Int) < a0.1.2.1 then a0.2.1.2.1 else a0.1.2.1)) (if ((if (a0.1.2.1 : Int) < a0.2.1.2.1 then a0.2.1.2.1 else a0.1.2.1) : Int) < a0.2.2.2.1 then a0.2.2.2.1 else (if (a0.1.2.1 : Int) < a0.2.1.2.1 then a0.2.1.2.1 else a0.1.2.1)))) [], .call [] (iv (F86 a1.2.2 (if (a0.2.2.2.2 : Int) < (if (a0.2.1.2.2 : Int) < a0.1.2.2 then a0.2.1.2.2 else a0.1.2.2) then a0.2.2.2.2 else (if (a0.2.1.2.2 : Int) < a0.1.2.2 then a0.2.1.2.2 else a0.1.2.2)) (if ((if (a0.1.2.2 : Int) < a0.2.1.2.2 then a0.2.1.2.2 else a0.1.2.2) : Int) < a0.2.2.2.2 then a0.2.2.2.2 else (if (a0.1.2.2 : Int) < a0.2.1.2.2 then a0.2.1.2.2 else a0.1.2.2)))) [], .call [] (iv (F51 ((F86 a1.1 (if (a0.2.2.1 : Int) < (if (a0.2.1.1 : Int) < a0.1.1 then a0.2.1.1 else a0.1.1) then a0.2.2.1 else (if (a0.2.1.1 : Int) < a0.1.1 then a0.2.1.1 else a0.1.1)) (if ((if (a0.1.1 : Int) < a0.2.1.1 then a0.2.1.1 else a0.1.1) : Int) < a0.2.2.1 then a0.2.2.1 else (if (a0.1.1 : Int) < a0.2.1.1 then a0.2.1.1 else a0.1.1))), (F86 a1.2.1 (if (a0.2.2.2.1 : Int) < (if (a0.2.1.2.1 : Int) < a0.1.2.1 then a0.2.1.2.1 else a0.1.2.1) then a0.2.2.2.1 else (if (a0.2.1.2.1 : Int) < a0.1.2.1 then a0.2.1.2.1 else a0.1.2.1)) (if ((if (a0.1.2.1 : Int) < a0.2.1.2.1 then a0.2.1.2.1 else a0.1.2.1) : Int) < a0.2.2.2.1 then a0.2.2.2.1 else (if (a0.1.2.1 : Int) < a0.2.1.2.1 then a0.2.1.2.1 else a0.1.2.1))), (F86 a1.2.2 (if (a0.2.2.2.2 : Int) < (if (a0.2.1.2.2 : Int) < a0.1.2.2 then a0.2.1.2.2 else a0.1.2.2) then a0.2.2.2.2 else (if (a0.2.1.2.2 : Int) < a0.1.2.2 then a0.2.1.2.2 else a0.1.2.2)) (if ((if (a0.1.2.2 : Int) < a0.2.1.2.2 then a0.2.1.2.2 else a0.1.2.2) : Int) < a0.2.2.2.2 then a0.2.2.2.2 else (if (a0.1.2.2 : Int) < a0.2.1.2.2 then a0.2.1.2.2 else a0.1.2.2)))))) []]) [] [] [] hcx
    (obs := [.call 86 [(iv a1.1), (iv (if (a0.2.2.1 : Int) < (if (a0.2.1.1 : Int) < a0.1.1 then a0.2.1.1 else a0.1.1) then a0.2.2.1 else (if (a0.2.1.1 : Int) < a0.1.1 then a0.2.1.1 else a0.1.1))), (iv (if ((if (a0.1.1 : Int) < a0.2.1.1 then a0.2.1.1 else a0.1.1) : Int) < a0.2.2.1 then a0.2.2.1 else (if (a0.1.1 : Int) < a0.2.1.1 then a0.2.1.1 else a0.1.1)))] [] (iv (F86 a1.1 (if (a0.2.2.1 : Int) < (if (a0.2.1.1 : Int) < a0.1.1 then a0.2.1.1 else a0.1.1) then a0.2.2.1 else (if (a0.2.1.1 : Int) < a0.1.1 then a0.2.1.1 else a0.1.1)) (if ((if (a0.1.1 : Int) < a0.2.1.1 then a0.2.1.1 else a0.1.1) : Int) < a0.2.2.1 then a0.2.2.1 else (if (a0.1.1 : Int) < a0.2.1.1 then a0.2.1.1 else a0.1.1)))) [], .call 86 [(iv a1.2.1), (iv (if (a0.2.2.2.1 : Int) < (if (a0.2.1.2.1 : Int) < a0.1.2.1 then a0.2.1.2.1 else a0.1.2.1) then a0.2.2.2.1 else (if (a0.2.1.2.1 : Int) < a0.1.2.1 then a0.2.1.2.1 else a0.1.2.1))), (iv (if ((if (a0.1.2.1 : Int) < a0.2.1.2.1 then a0.2.1.2.1 else a0.1.2.1) : Int) < a0.2.2.2.1 then a0.2.2.2.1 else (if (a0.1.2.1 : Int) < a0.2.1.2.1 then a0.2.1.2.1 else a0.1.2.1)))] [] (iv (F86 a1.2.1 (if (a0.2.2.2.1 : Int) < (if (a0.2.1.2.1 : Int) < a0.1.2.1 then a0.2.1.2.1 else a0.1.2.1) then a0.2.2.2.1 else (if (a0.2.1.2.1 : Int) < a0.1.2.1 then a0.2.1.2.1 else a0.1.2.1)) (if ((if (a0.1.2.1 : Int) < a0.2.1.2.1 then a0.2.1.2.1 else a0.1.2.1) : Int) < a0.2.2.2.1 then a0.2.2.2.1 else (if (a0.1.2.1 : Int) < a0.2.1.2.1 then a0.2.1.2.1 else a0.1.2.1)))) [], .call 86 [(iv a1.2.2), (iv (if (a0.2.2.2.2 : Int) < (if (a0.2.1.2.2 : Int) < a0.1.2.2 then a0.2.1.2.2 else a0.1.2.2) then a0.2.2.2.2 else (if (a0.2.1.2.2 : Int) < a0.1.2.2 then a0.2.1.2.2 else a0.1.2.2))), (iv (if ((if (a0.1.2.2 : Int) < a0.2.1.2.2 then a0.2.1.2.2 else a0.1.2.2) : Int) < a0.2.2.2.2 then a0.2.2.2.2 else (if (a0.1.2.2 : Int) < a0.2.1.2.2 then a0.2.1.2.2 else a0.1.2.2)))] [] (iv (F86 a1.2.2 (if (a0.2.2.2.2 : Int) < (if (a0.2.1.2.2 : Int) < a0.1.2.2 then a0.2.1.2.2 else a0.1.2.2) then a0.2.2.2.2 else (if (a0.2.1.2.2 : Int) < a0.1.2.2 then a0.2.1.2.2 else a0.1.2.2)) (if ((if (a0.1.2.2 : Int) < a0.2.1.2.2 then a0.2.1.2.2 else a0.1.2.2) : Int) < a0.2.2.2.2 then a0.2.2.2.2 else (if (a0.1.2.2 : Int) < a0.2.1.2.2 then a0.2.1.2.2 else a0.1.2.2)))) [], .call 51 [(.a [(iv (F86 a1.1 (if (a0.2.2.1 : Int) < (if (a0.2.1.1 : Int) < a0.1.1 then a0.2.1.1 else a0.1.1) then a0.2.2.1 else (if (a0.2.1.1 : Int) < a0.1.1 then a0.2.1.1 else a0.1.1)) (if ((if (a0.1.1 : Int) < a0.2.1.1 then a0.2.1.1 else a0.1.1) : Int) < a0.2.2.1 then a0.2.2.1 else (if (a0.1.1 : Int) < a0.2.1.1 then a0.2.1.1 else a0.1.1)))), (iv (F86 a1.2.1 (if (a0.2.2.2.1 : Int) < (if (a0.2.1.2.1 : Int) < a0.1.2.1 then a0.2.1.2.1 else a0.1.2.1) then a0.2.2.2.1 else (if (a0.2.1.2.1 : Int) < a0.1.2.1 then a0.2.1.2.1 else a0.1.2.1)) (if ((if (a0.1.2.1 : Int) < a0.2.1.2.1 then a0.2.1.2.1 else a0.1.2.1) : Int) < a0.2.2.2.1 then a0.2.2.2.1 else (if (a0.1.2.1 : Int) < a0.2.1.2.1 then a0.2.1.2.1 else a0.1.2.1)))), (iv (F86 a1.2.2 (if (a0.2.2.2.2 : Int) < (if (a0.2.1.2.2 : Int) < a0.1.2.2 then a0.2.1.2.2 else a0.1.2.2) then a0.2.2.2.2 else (if (a0.2.1.2.2 : Int) < a0.1.2.2 then a0.2.1.2.2 else a0.1.2.2)) (if ((if (a0.1.2.2 : Int) < a0.2.1.2.2 then a0.2.1.2.2 else a0.1.2.2) : Int) < a0.2.2.2.2 then a0.2.2.2.2 else (if (a0.1.2.2 : Int) < a0.2.1.2.2 then a0.2.1.2.2 else a0.1.2.2))))])] [] (iv (F51 ((F86 a1.1 (if (a0.2.2.1 : Int) < (if (a0.2.1.1 : Int) < a0.1.1 then a0.2.1.1 else a0.1.1) then a0.2.2.1 else (if (a0.2.1.1 : Int) < a0.1.1 then a0.2.1.1 else a0.1.1)) (if ((if (a0.1.1 : Int) < a0.2.1.1 then a0.2.1.1 else a0.1.1) : Int) < a0.2.2.1 then a0.2.2.1 else (if (a0.1.1 : Int) < a0.2.1.1 then a0.2.1.1 else a0.1.1))), (F86 a1.2.1 (if (a0.2.2.2.1 : Int) < (if (a0.2.1.2.1 : Int) < a0.1.2.1 then a0.2.1.2.1 else a0.1.2.1) then a0.2.2.2.1 else (if (a0.2.1.2.1 : Int) < a0.1.2.1 then a0.2.1.2.1 else a0.1.2.1)) (if ((if (a0.1.2.1 : Int) < a0.2.1.2.1 then a0.2.1.2.1 else a0.1.2.1) : Int) < a0.2.2.2.1 then a0.2.2.2.1 else (if (a0.1.2.1 : Int) < a0.2.1.2.1 then a0.2.1.2.1 else a0.1.2.1))), (F86 a1.2.2 (if (a0.2.2.2.2 : Int) < (if (a0.2.1.2.2 : Int) < a0.1.2.2 then a0.2.1.2.2 else a0.1.2.2) then a0.2.2.2.2 else (if (a0.2.1.2.2 : Int) < a0.1.2.2 then a0.2.1.2.2 else a0.1.2.2)) (if ((if (a0.1.2.2 : Int) < a0.2.1.2.2 then a0.2.1.2.2 else a0.1.2.2) : Int) < a0.2.2.2.2 then a0.2.2.2.2 else (if (a0.1.2.2 : Int) < a0.2.1.2.2 then a0.2.1.2.2 else a0.1.2.2)))))) []]) (by kernel_rfl) ⟨(C86 a1.1 (if (a0.2.2.1 : Int) < (if (a0.2.1.1 : Int) < a0.1.1 then a0.2.1.1 else a0.1.1) then a0.2.2.1 else (if (a0.2.1.1 : Int) < a0.1.1 then a0.2.1.1 else a0.1.1)) (if ((if (a0.1.1 : Int) < a0.2.1.1 then a0.2.1.1 else a0.1.1) : Int) < a0.2.2.1 then a0.2.2.1 else (if (a0.1.1 : Int) < a0.2.1.1 then a0.2.1.1 else a0.1.1))), (C86 a1.2.1 (if (a0.2.2.2.1 : Int) < (if (a0.2.1.2.1 : Int) < a0.1.2.1 then a0.2.1.2.1 else a0.1.2.1) then a0.2.2.2.1 else (if (a0.2.1.2.1 : Int) < a0.1.2.1 then a0.2.1.2.1 else a0.1.2.1)) (if ((if (a0.1.2.1 : Int) < a0.2.1.2.1 then a0.2.1.2.1 else a0.1.2.1) : Int) < a0.2.2.2.1 then a0.2.2.2.1 else (if (a0.1.2.1 : Int) < a0.2.1.2.1 then a0.2.1.2.1 else a0.1.2.1))), (C86 a1.2.2 (if (a0.2.2.2.2 : Int) < (if (a0.2.1.2.2 : Int) < a0.1.2.2 then a0.2.1.2.2 else a0.1.2.2) then a0.2.2.2.2 else (if (a0.2.1.2.2 : Int) < a0.1.2.2 then a0.2.1.2.2 else a0.1.2.2)) (if ((if (a0.1.2.2 : Int) < a0.2.1.2.2 then a0.2.1.2.2 else a0.1.2.2) : Int) < a0.2.2.2.2 then a0.2.2.2.2 else (if (a0.1.2.2 : Int) < a0.2.1.2.2 then a0.2.1.2.2 else a0.1.2.2))), (C51 ((F86 a1.1 (if (a0.2.2.1 : Int) < (if (a0.2.1.1 : Int) < a0.1.1 then a0.2.1.1 else a0.1.1) then a0.2.2.1 else (if (a0.2.1.1 : Int) < a0.1.1 then a0.2.1.1 else a0.1.1)) (if ((if (a0.1.1 : Int) < a0.2.1.1 then a0.2.1.1 else a0.1.1) : Int) < a0.2.2.1 then a0.2.2.1 else (if (a0.1.1 : Int) < a0.2.1.1 then a0.2.1.1 else a0.1.1))), (F86 a1.2.1 (if (a0.2.2.2.1 : Int) < (if (a0.2.1.2.1 : Int) < a0.1.2.1 then a0.2.1.2.1 else a0.1.2.1) then a0.2.2.2.1 else (if (a0.2.1.2.1 : Int) < a0.1.2.1 then a0.2.1.2.1 else a0.1.2.1)) (if ((if (a0.1.2.1 : Int) < a0.2.1.2.1 then a0.2.1.2.1 else a0.1.2.1) : Int) < a0.2.2.2.1 then a0.2.2.2.1 else (if (a0.1.2.1 : Int) < a0.2.1.2.1 then a0.2.1.2.1 else a0.1.2.1))), (F86 a1.2.2 (if (a0.2.2.2.2 : Int) < (if (a0.2.1.2.2 : Int) < a0.1.2.2 then a0.2.1.2.2 else a0.1.2.2) then a0.2.2.2.2 else (if (a0.2.1.2.2 : Int) < a0.1.2.2 then a0.2.1.2.2 else a0.1.2.2)) (if ((if (a0.1.2.2 : Int) < a0.2.1.2.2 then a0.2.1.2.2 else a0.1.2.2) : Int) < a0.2.2.2.2 then a0.2.2.2.2 else (if (a0.1.2.2 : Int) < a0.2.1.2.2 then a0.2.1.2.2 else a0.1.2.2))))), trivial⟩

/-- facet/facetref04.Minus -/
def F52 (a0 : Int × Int × Int) (a1 : Int × Int × Int) : Int × Int × Int :=
  ((W (a0.1 - a1.1)), (W (a0.2.1 - a1.2.1)), (W (a0.2.2 - a1.2.2)))

theorem C52 (a0 : Int × Int × Int) (a1 : Int × Int × Int) : Con Try.prog 52 [(.a (k3 a0)), (.a (k3 a1))] [] (.a (k3 (F52 a0 a1))) [] := by
  have e : (F52 a0 a1) = ((W (a0.1 - a1.1)), (W (a0.2.1 - a1.2.1)), (W (a0.2.2 - a1.2.2))) := by simp only [F52]
  rw [e]
  refine con_of (n := 9) Try.func52 rfl (ent Try.func52 (by kernel_rfl) rfl) (by show 2 ≤ Try.f52.ntmps; decide) (by kernel_rfl) trivial (fun cx hcx => ?_)
  exact ret_of (T := T0) hT hm (f := 5000) (orc := []) [] [] [] hcx
    (obs := []) (by kernel_rfl) trivial

/-- facet/facetref08.far -/
def F58 (a0 : (Int × Int × Int) × (Int × Int × Int) × Int × Int × Int) (a1 : Int × Int × Int) : Int :=
  (if ((if ((F51 (F52 a0.1 a1)) : Int) < (F51 (F52 a0.2.1 a1)) then (F51 (F52 a0.2.1 a1)) else (F51 (F52 a0.1 a1))) : Int) < (F51 (F52 a0.2.2 a1)) then (F51 (F52 a0.2.2 a1)) else (if ((F51 (F52 a0.1 a1)) : Int) < (F51 (F52 a0.2.1 a1)) then (F51 (F52 a0.2.1 a1)) else (F51 (F52 a0.1 a1))))

theorem C58 (a0 : (Int × Int × Int) × (Int × Int × Int) × Int × Int × Int) (a1 : Int × Int × Int) : Con Try.prog 58 [(.a (k9 a0)), (.a (k3 a1))] [] (iv (F58 a0 a1)) [] := by
  have e : (F58 a0 a1) = (if ((if ((F51 (F52 a0.1 a1)) : Int) < (F51 (F52 a0.2.1 a1)) then (F51 (F52 a0.2.1 a1)) else (F51 (F52 a0.1 a1))) : Int) < (F51 (F52 a0.2.2 a1)) then (F51 (F52 a0.2.2 a1)) else (if ((F51 (F52 a0.1 a1)) : Int) < (F51 (F52 a0.2.1 a1)) then (F51 (F52 a0.2.1 a1)) else (F51 (F52 a0.1 a1)))) := by simp only [F58]
  rw [e]
  refine con_of (n := 9) Try.func58 rfl (ent Try.func58 (by kernel_rfl) rfl) (by show 2 ≤ Try.f58.ntmps; decide) (by kernel_rfl) trivial (fun cx hcx => ?_)
  exact ret_of (T := T0) hT hm (f := 5000) (orc := [.call [] (.a (k3 (F52 a0.1 a1))) [], .call [] (iv (F51 (F52 a0.1 a1))) [], .call [] (.a (k3 (F52 a0.2.1 a1))) [], .call [] (iv (F51 (F52 a0.2.1 a1))) [], .call [] (.a (k3 (F52 a0.2.2 a1))) [], .call [] (iv (F51 (F52 a0.2.2 a1))) []]) [] [] [] hcx
    (obs := [.call 52 [(.a (k3 a0.1)), (.a (k3 a1))] [] (.a (k3 (F52 a0.1 a1))) [], .call 51 [(.a (k3 (F52 a0.1 a1)))] [] (iv (F51 (F52 a0.1 a1))) [], .call 52 [(.a (k3 a0.2.1)), (.a (k3 a1))] [] (.a (k3 (F52 a0.2.1 a1))) [], .call 51 [(.a (k3 (F52 a0.2.1 a1)))] [] (iv (F51 (F52 a0.2.1 a1))) [], .call 52 [(.a (k3 a0.2.2)), (.a (k3 a1))] [] (.a (k3 (F52 a0.2.2 a1))) [], .call 51 [(.a (k3 (F52 a0.2.2 a1)))] [] (iv (F51 (F52 a0.2.2 a1))) []]) (by kernel_rfl) ⟨(C52 a0.1 a1), (C51 (F52 a0.1 a1)), (C52 a0.2.1 a1), (C51 (F52 a0.2.1 a1)), (C52 a0.2.2 a1), (C51 (F52 a0.2.2 a1)), trivial⟩

/-- facet/facetref04.Plus -/
def F117 (a0 : Int × Int × Int) (a1 : Int × Int × Int) : Int × Int × Int :=
  ((W (a0.1 + a1.1)), (W (a0.2.1 + a1.2.1)), (W (a0.2.2 + a1.2.2)))

theorem C117 (a0 : Int × Int × Int) (a1 : Int × Int × Int) : Con Try.prog 117 [(.a (k3 a0)), (.a (k3 a1))] [] (.a (k3 (F117 a0 a1))) [] := by
  have e : (F117 a0 a1) = ((W (a0.1 + a1.1)), (W (a0.2.1 + a1.2.1)), (W (a0.2.2 + a1.2.2))) := by simp only [F117]
  rw [e]
  refine con_of (n := 9) Try.func117 rfl (ent Try.func117 (by kernel_rfl) rfl) (by show 2 ≤ Try.f117.ntmps; decide) (by kernel_rfl) trivial (fun cx hcx => ?_)
  exact ret_of (T := T0) hT hm (f := 5000) (orc := []) [] [] [] hcx
    (obs := []) (by kernel_rfl) trivial

end Go.Proofs.Ytopbnnmkdildgaa

namespace Go.Proofs.Ytopbnnmkdildgaa
open Go.Proofs Go.Aw Go.RowKit
set_option maxRecDepth 100000
set_option linter.unusedVariables false
set_option linter.unusedSimpArgs false

/-! ### Sound: what the small functions say -/
theorem sqs_bd {s t : Int} (hs : 1 ≤ s ∧ s ≤ 1000) (ht : 0 ≤ t ∧ t ≤ 1000) : 0 ≤ s * t ∧ s * t ≤ 1000000 ∧ 0 ≤ s * t * (s * t) ∧ s * t * (s * t) ≤ 1000000000000 := by
  have h1 : 0 ≤ s * t := Int.mul_nonneg (by omega) (by omega)
  have h2 : s * t ≤ 1000 * 1000 := Int.mul_le_mul (by omega) (by omega) (by omega) (by omega)
  have h3 : s * t * (s * t) ≤ 1000000 * 1000000 := Int.mul_le_mul (by omega) (by omega) (by omega) (by omega)
  exact ⟨h1, by omega, Int.mul_nonneg h1 h1, by omega⟩
theorem square_f {n : Int} (h : -2000000000 ≤ n ∧ n ≤ 2000000000) : F83 n = n * n := by
  have h1 := mul_bd h h
  simp only [F83]; rw [W_eq (by omega) (by omega)]
theorem trav_sq {s t : Int} (hs : 1 ≤ s ∧ s ≤ 1000) (ht : 0 ≤ t ∧ t ≤ 1000) : F83 (W (s * t)) = s * t * (s * t) := by
  have h := sqs_bd hs ht
  rw [W_eq (by omega) (by omega), square_f (by omega)]
theorem trav_sqr {s t : Int} (hs : 1 ≤ s ∧ s ≤ 1000) (ht : 0 ≤ t ∧ t ≤ 1000) : W ((W ((W (s * s)) * t)) * t) = s * t * (s * t) := by
  have h := sqs_bd hs ht
  have h1 : 0 ≤ s * s := Int.mul_nonneg (by omega) (by omega)
  have h2 : s * s ≤ 1000 * 1000 := Int.mul_le_mul (by omega) (by omega) (by omega) (by omega)
  have h3 : 0 ≤ s * s * t := Int.mul_nonneg (by omega) (by omega)
  have h4 : s * s * t ≤ 1000000 * 1000 := Int.mul_le_mul (by omega) (by omega) (by omega) (by omega)
  have e : s * s * t * t = s * t * (s * t) := by grind
  rw [W_eq (n := s * s) (by omega) (by omega), W_eq (n := s * s * t) (by omega) (by omega), e, W_eq (by omega) (by omega)]
theorem trav_lt {s t n : Int} (hs : 1 ≤ s ∧ s ≤ 1000) (ht : 0 ≤ t ∧ t ≤ 1000) (hn : n ≤ 1000000) : s * t * (s * t) < n → t < 1000 := by
  intro h
  rcases Int.lt_or_le t 1000 with h' | h'
  · exact h'
  · have e : t = 1000 := by omega
    subst e
    have h2 : 1000 * 1000 ≤ s * 1000 * (s * 1000) := Int.mul_le_mul (by omega) (by omega) (by omega) (by omega)
    omega
theorem trav_f {s t n : Int} (hs : 1 ≤ s ∧ s ≤ 1000) (ht : 0 ≤ t ∧ t ≤ 1000) (hn : n ≤ 1000000) : F83 (W (s * t)) < n → t < 1000 := by
  rw [trav_sq hs ht]; exact trav_lt hs ht hn
theorem trav_r {s t n : Int} (hs : 1 ≤ s ∧ s ≤ 1000) (ht : 0 ≤ t ∧ t ≤ 1000) (hn : n ≤ 1000000) : W ((W ((W (s * s)) * t)) * t) < n → t < 1000 := by
  rw [trav_sqr hs ht]; exact trav_lt hs ht hn
theorem pa_d {d : Int} (h : d ≠ 0) (ha : 0 ≤ d ∧ d ≤ 3) : (0 ≤ W (d - 1) ∧ W (d - 1) ≤ 3) ∧ Int.toNat (W (d - 1)) + 1 = Int.toNat d := by
  rw [W_eq (by omega) (by omega)]; omega
/-! distances -/
theorem dist_f {p q : P3} (hp : bd 5000 p) (hq : bd 5000 q) : F48 p q = ds p q := by
  have h : bd 10000 (sb p q) := bd_sb hp hq
  have h1 := mul_bd h.1 h.1; have h2 := mul_bd h.2.1 h.2.1; have h3 := mul_bd h.2.2 h.2.2
  have n1 := sq_nn (sb p q).1; have n2 := sq_nn (sb p q).2.1; have n3 := sq_nn (sb p q).2.2
  have e1 : W (p.1 - q.1) = (sb p q).1 := W_eq (by have := h.1; simp only [sb] at this; omega) (by have := h.1; simp only [sb] at this; omega)
  have e2 : W (p.2.1 - q.2.1) = (sb p q).2.1 := W_eq (by have := h.2.1; simp only [sb] at this; omega) (by have := h.2.1; simp only [sb] at this; omega)
  have e3 : W (p.2.2 - q.2.2) = (sb p q).2.2 := W_eq (by have := h.2.2; simp only [sb] at this; omega) (by have := h.2.2; simp only [sb] at this; omega)
  unfold F48
  rw [e1, e2, e3, square_f (by have := h.1; omega), square_f (by have := h.2.1; omega), square_f (by have := h.2.2; omega), sum3 (by omega) (by omega) (by omega)]; rfl
theorem sqr_r {v : P3} (h : bd 10000 v) : F51 v = dt v v := by
  have h1 := mul_bd h.1 h.1; have h2 := mul_bd h.2.1 h.2.1; have h3 := mul_bd h.2.2 h.2.2
  have n1 := sq_nn v.1; have n2 := sq_nn v.2.1; have n3 := sq_nn v.2.2
  unfold F51
  rw [W_eq (n := v.1 * v.1) (by omega) (by omega), W_eq (n := v.2.1 * v.2.1) (by omega) (by omega), W_eq (n := v.2.2 * v.2.2) (by omega) (by omega), sum3 (by omega) (by omega) (by omega)]; rfl
theorem min_r {p q : P3} (hp : bd 5000 p) (hq : bd 5000 q) : F52 p q = sb p q := by
  unfold bd at hp hq
  unfold F52
  rw [W_eq (n := p.1 - q.1) (by omega) (by omega), W_eq (n := p.2.1 - q.2.1) (by omega) (by omega), W_eq (n := p.2.2 - q.2.2) (by omega) (by omega)]; rfl
theorem dist_r {p q : P3} (hp : bd 5000 p) (hq : bd 5000 q) : F51 (F52 p q) = ds p q := by
  rw [min_r hp hq, sqr_r (bd_sb hp hq)]; rfl
theorem ds_comm (p q : P3) : ds p q = ds q p := by simp only [ds, dt, sb]; grind
theorem gap_s {x a b c : Int} (hx : -5000 ≤ x ∧ x ≤ 5000) (hl : -5000 ≤ lo3 a b c ∧ lo3 a b c ≤ 5000) (hh : -5000 ≤ hi3 a b c ∧ hi3 a b c ≤ 5000) : F110_3 x (a, b, c) = gp (lo3 a b c) (hi3 a b c) x x := by
  show mx (mx 0 (W (lo3 a b c - x))) (W (x - hi3 a b c)) = _
  rw [W_eq (by omega) (by omega), W_eq (by omega) (by omega)]
  unfold gp mx; repeat' split <;> omega
theorem gap_t {x l h : Int} (hx : -5000 ≤ x ∧ x ≤ 5000) (hl : -5000 ≤ l ∧ l ≤ 5000) (hh : -5000 ≤ h ∧ h ≤ 5000) : F86 x l h = gp l h x x := by
  unfold F86
  rw [W_eq (n := l - x) (by omega) (by omega), W_eq (n := x - h) (by omega) (by omega)]
  unfold gp mx; repeat' split <;> omega
theorem lo3' (a b c : Int) : (if c < (if b < a then b else a) then c else (if b < a then b else a)) = lo3 a b c := by unfold lo3; simp only [Int.lt_irrefl, if_false]
theorem hi3' (a b c : Int) : (if (if a < b then b else a) < c then c else (if a < b then b else a)) = hi3 a b c := by unfold hi3; simp only [Int.lt_irrefl, if_false]
theorem sne_f {c : PN} {x : P3} (hc : bdP 5000 c) (hx : bd 5000 x) : F84 c x = ne c x := by
  have hl := blo_bd hc; have hh := bhi_bd hc
  have h1 := gp_bd hl.1 hh.1 hx.1 hx.1; have h2 := gp_bd hl.2.1 hh.2.1 hx.2.1 hx.2.1; have h3 := gp_bd hl.2.2 hh.2.2 hx.2.2 hx.2.2
  have m1 := mul_bd (a := 10000) (b := 10000) ⟨by omega, h1.2⟩ ⟨by omega, h1.2⟩; have m2 := mul_bd (a := 10000) (b := 10000) ⟨by omega, h2.2⟩ ⟨by omega, h2.2⟩; have m3 := mul_bd (a := 10000) (b := 10000) ⟨by omega, h3.2⟩ ⟨by omega, h3.2⟩
  have n1 := Int.mul_nonneg h1.1 h1.1; have n2 := Int.mul_nonneg h2.1 h2.1; have n3 := Int.mul_nonneg h3.1 h3.1
  unfold F84
  rw [gap_s hx.1 hl.1 hh.1, gap_s hx.2.1 hl.2.1 hh.2.1, gap_s hx.2.2 hl.2.2 hh.2.2]
  change W (W (F83 (gp (blo c).1 (bhi c).1 x.1 x.1) + F83 (gp (blo c).2.1 (bhi c).2.1 x.2.1 x.2.1)) + F83 (gp (blo c).2.2 (bhi c).2.2 x.2.2 x.2.2)) = _
  rw [square_f (by omega), square_f (by omega), square_f (by omega), sum3 (by omega) (by omega) (by omega)]; rfl
theorem sne_r {c : PN} {x : P3} (hc : bdP 5000 c) (hx : bd 5000 x) : F56 c x = ne c x := by
  have hl := blo_bd hc; have hh := bhi_bd hc
  have h1 := gp_bd hl.1 hh.1 hx.1 hx.1; have h2 := gp_bd hl.2.1 hh.2.1 hx.2.1 hx.2.1; have h3 := gp_bd hl.2.2 hh.2.2 hx.2.2 hx.2.2
  unfold F56
  rw [lo3', lo3', lo3', hi3', hi3', hi3']
  change F51 (F86 x.1 (blo c).1 (bhi c).1, F86 x.2.1 (blo c).2.1 (bhi c).2.1, F86 x.2.2 (blo c).2.2 (bhi c).2.2) = _
  rw [gap_t hx.1 hl.1 hh.1, gap_t hx.2.1 hl.2.1 hh.2.1, gap_t hx.2.2 hl.2.2 hh.2.2, sqr_r (by unfold bd; simp only; omega)]; rfl
theorem sfa_f {c : PN} {x : P3} (hc : bdP 5000 c) (hx : bd 5000 x) : F87 c x = fa c x := by
  show mx (mx (mx 0 (F48 c.1 x)) (F48 c.2.1 x)) (F48 c.2.2 x) = _
  rw [dist_f hc.1 hx, dist_f hc.2.1 hx, dist_f hc.2.2 hx]; rfl
theorem ds_nn (p q : P3) : 0 ≤ ds p q := dt_self _
theorem sfa_r {c : PN} {x : P3} (hc : bdP 5000 c) (hx : bd 5000 x) : F58 c x = fa c x := by
  unfold F58
  rw [dist_r hc.1 hx, dist_r hc.2.1 hx, dist_r hc.2.2 hx]
  show mx (mx (ds c.1 x) (ds c.2.1 x)) (ds c.2.2 x) = mx (mx (mx 0 (ds c.1 x)) (ds c.2.1 x)) (ds c.2.2 x)
  rw [show mx 0 (ds c.1 x) = ds c.1 x by unfold mx; have := ds_nn c.1 x; split <;> omega]
/-! what is asked -/
theorem sfrom_eq (n a b : Int) : F63 n a b = decide (a ≤ n ∧ n ≤ b) := by
  unfold F63
  by_cases h1 : a ≤ n <;> by_cases h2 : n ≤ b <;> simp [h1, h2]
theorem win8 (n a b : Int) : F65 n a b = decide (a ≤ n ∧ n ≤ b) := by
  unfold F65
  by_cases h1 : a ≤ n <;> by_cases h2 : n ≤ b <;> simp [h1, h2]
open Classical in
theorem isP_f (x : P3) : F45 x = decide (bd 256 x) := by
  unfold F45
  rw [sfrom_eq, sfrom_eq, sfrom_eq]
  exact and3 Iff.rfl
theorem isS_f (n : Int) : F46 n = decide (1 ≤ n ∧ n ≤ 16) := by unfold F46; exact sfrom_eq _ _ _
theorem w256 : W (0 - 256) = -256 := rfl
theorem size_r {n : Int} (h : F73 n ≤ 256) (h2 : n ≥ -256) : -256 ≤ n ∧ n ≤ 256 := by
  unfold F73 at h
  split at h <;> omega
theorem size_l {n : Int} (h : -256 ≤ n ∧ n ≤ 256) : F73 n ≤ 256 := by
  unfold F73
  rw [W_eq (by omega) (by omega)]
  split <;> omega
theorem small_iff (x : P3) : F36 x 256 = true ↔ bd 256 x := by
  unfold F36 bd
  rw [w256]
  constructor
  · intro h
    by_cases h1 : F73 x.1 ≤ 256 <;> by_cases h2 : F73 x.2.1 ≤ 256 <;> by_cases h3 : F73 x.2.2 ≤ 256 <;> simp [h1, h2, h3] at h
    exact ⟨size_r h1 h.1, size_r h2 h.2.1, size_r h3 h.2.2⟩
  · intro h
    have h1 := size_l h.1; have h2 := size_l h.2.1; have h3 := size_l h.2.2
    simp [h1, h2, h3, h.1.1, h.2.1.1, h.2.2.1]
open Classical in
theorem small_r (x : P3) : F36 x 256 = decide (bd 256 x) := by
  by_cases h : bd 256 x
  · rw [(small_iff x).2 h]; simp [h]
  · rw [Bool.eq_false_iff.2 (fun e => h ((small_iff x).1 e))]; simp [h]
open Classical in
theorem asked_r (x : P3) (s t d : Int) : F49 x s t d = if bd 256 x ∧ (1 ≤ s ∧ s ≤ 16) ∧ (0 ≤ t ∧ t ≤ 2000) ∧ (0 ≤ d ∧ d ≤ 3) then 0 else 1 := by
  unfold F49
  rw [small_r, win8, win8, win8]
  by_cases h1 : bd 256 x <;> by_cases h2 : 1 ≤ s ∧ s ≤ 16 <;> by_cases h3 : 0 ≤ t ∧ t ≤ 2000 <;> by_cases h4 : 0 ≤ d ∧ d ≤ 3 <;> simp [h1, h2, h3, h4]
abbrev PU := PN × Int × Int
/-- the error of a pulse -/
noncomputable def pv (p : PU) : Int := if vp p.1 = 0 then (if (0 ≤ p.2.1 ∧ p.2.1 ≤ 1000) ∧ (-100 ≤ p.2.2 ∧ p.2.2 ≤ 100) then 0 else 1) else vp p.1
theorem pv_aux (v : Int) (a b : Prop) [Decidable a] [Decidable b] : (bif (v != 0) then v else (bif (!(decide a)) then 1 else (bif (!(decide b)) then (1 : Int) else 0))) = if v = 0 then (if a ∧ b then 0 else 1) else v := by
  by_cases h : v = 0
  · subst h; by_cases ha : a <;> by_cases hb : b <;> simp [ha, hb]
  · rw [bne_iff_ne.2 h, if_neg h]; rfl
theorem vpul_1 (p : PU) : F27_1 p = pv p := by
  unfold F27_1
  rw [vp_s, sfrom_eq, sfrom_eq]; exact pv_aux _ _ _
theorem one_e (p : PU) : F55 p = pv p := by
  unfold F55
  rw [vp_r, win8, win8]; exact pv_aux _ _ _
theorem chk_1 (p : PU) (b : Bool) : F53_1 p b = if pv p = 0 then (if b = true then 0 else 1) else pv p := by
  unfold F53_1
  rw [vpul_1]
  by_cases h : pv p = 0
  · rw [h]; cases b <;> simp
  · rw [bne_iff_ne.2 h, if_neg h]; rfl
def POK (p : PU) : Prop := vp p.1 = 0 ∧ (0 ≤ p.2.1 ∧ p.2.1 ≤ 1000) ∧ (-100 ≤ p.2.2 ∧ p.2.2 ≤ 100)
theorem pv_ok {p : PU} : pv p = 0 ↔ POK p := by
  unfold pv POK
  constructor
  · intro h
    split at h
    · split at h
      · rename_i h1 h2; exact ⟨h1, h2⟩
      · cases h
    · rename_i h1; exact absurd h h1
  · intro h; rw [if_pos h.1, if_pos h.2]
theorem ckb_p {p : PU} {b : Bool} (h : ((F53_1 p b : Int) != 0) = false) : POK p := by
  have h := bne_eq_false_iff_eq.1 h
  rw [chk_1] at h
  split at h
  · rename_i h1; exact pv_ok.1 h1
  · rename_i h1; exact absurd h h1
theorem ckb_b {p : PU} {b : Bool} (h : ((F53_1 p b : Int) != 0) = false) : b = true := by
  have h := bne_eq_false_iff_eq.1 h
  rw [chk_1] at h
  split at h
  · split at h
    · assumption
    · cases h
  · rename_i h1; exact absurd h h1
theorem one_p {p : PU} (h : ((F55 p : Int) != 0) = false) : POK p := by
  have h := bne_eq_false_iff_eq.1 h
  rw [one_e] at h; exact pv_ok.1 h
theorem ask_p {x : P3} {s t d : Int} (h : ((F49 x s t d : Int) != 0) = false) : bd 256 x ∧ (1 ≤ s ∧ s ≤ 16) ∧ (0 ≤ t ∧ t ≤ 2000) ∧ (0 ≤ d ∧ d ≤ 3) := by
  have h := bne_eq_false_iff_eq.1 h
  rw [asked_r] at h
  split at h
  · assumption
  · cases h
theorem isp_p {x : P3} (h : F45 x = true) : bd 256 x := by rw [isP_f] at h; simpa using h
theorem isp_n {x : P3} (h : (!(F45 x)) = false) : bd 256 x := isp_p (by simpa using h)
theorem iss_p {n : Int} (h : F46 n = true) : 1 ≤ n ∧ n ≤ 16 := by rw [isS_f] at h; simpa using h
theorem iss_n {n : Int} (h : (!(F46 n)) = false) : 1 ≤ n ∧ n ≤ 16 := iss_p (by simpa using h)
theorem sml_n {x : P3} (h : (!(F36 x 256)) = false) : bd 256 x := (small_iff x).1 (by simpa using h)
/-! how far sound goes -/
theorem ds6 {m : Int} {p q : P3} (hp : bd m p) (hq : bd 256 q) (hm : 0 ≤ m ∧ m ≤ 256) : ds p q ≤ 786432 := by
  have h : bd 512 (sb p q) := (bd_sb hp hq).mono (by omega)
  have h1 := (dt_bd h h).2
  have : ds p q = dt (sb p q) (sb p q) := rfl
  omega
theorem fa6 {c : PN} {x : P3} (hc : bdP 64 c) (hx : bd 256 x) : fa c x ≤ 786432 :=
  mx_le (mx_le (mx_le (by omega) (ds6 hc.1 hx (by omega))) (ds6 hc.2.1 hx (by omega))) (ds6 hc.2.2 hx (by omega))
theorem tra_f {p q : P3} (hp : bd 256 p) (hq : bd 256 q) : F48 p q ≤ 1000000 := by
  rw [dist_f (hp.mono (by omega)) (hq.mono (by omega))]; have := ds6 hp hq (by omega); omega
theorem tra_r {p q : P3} (hp : bd 256 p) (hq : bd 256 q) : F51 (F52 p q) ≤ 1000000 := by
  rw [dist_r (hp.mono (by omega)) (hq.mono (by omega))]; have := ds6 hp hq (by omega); omega
theorem pok_bd {p : PU} (h : POK p) : bdP 64 p.1 := (vp_ok h.1).1
theorem nef6 {p : PU} {x : P3} (h : POK p) (hx : bd 256 x) : F84 p.1 x ≤ 1000000 := by
  rw [sne_f ((pok_bd h).mono (by omega)) (hx.mono (by omega))]; have := (ne_le p.1 x).2; have := fa6 (pok_bd h) hx; omega
theorem ner6 {p : PU} {x : P3} (h : POK p) (hx : bd 256 x) : F56 p.1 x ≤ 1000000 := by
  rw [sne_r ((pok_bd h).mono (by omega)) (hx.mono (by omega))]; have := (ne_le p.1 x).2; have := fa6 (pok_bd h) hx; omega
theorem faf6 {p : PU} {x : P3} (h : POK p) (hx : bd 256 x) : F87 p.1 x ≤ 1000000 := by
  rw [sfa_f ((pok_bd h).mono (by omega)) (hx.mono (by omega))]; have := fa6 (pok_bd h) hx; omega
theorem far6 {p : PU} {x : P3} (h : POK p) (hx : bd 256 x) : F58 p.1 x ≤ 1000000 := by
  rw [sfa_r ((pok_bd h).mono (by omega)) (hx.mono (by omega))]; have := fa6 (pok_bd h) hx; omega

end Go.Proofs.Ytopbnnmkdildgaa

namespace Go.Proofs.Ytopbnnmkdildgaa
open Go.Proofs Go.Aw Go.RowKit
set_option maxRecDepth 100000
set_option linter.unusedVariables false
set_option linter.unusedSimpArgs false

noncomputable def B47_0 : Code := (loopAtD [1, 1, 0] [] (Try.f47.body.getD .skip) []).1
noncomputable def K47_0 : List K := (loopAtD [1, 1, 0] [] (Try.f47.body.getD .skip) []).2

/-- a round of loop 0 of facet/sound.travel; the variables: v1 = s5 -/
def S47_0 (a0 : Int) (a1 : Int) : Int → (Int) ⊕ (Int)
  | v1 =>
   (bif (decide (((F83 (W (a1 * v1))) : Int) < a0)) then
    (.inl (W (v1 + 1)))
   else
    (.inr v1))

set_option maxHeartbeats 4000000 in
theorem L47_0 (a0 : Int) (a1 : Int) (hq : a0 ≤ 1000000) (hs : 1 ≤ a1 ∧ a1 ≤ 1000) {cx : Cx} (hcx : cx.base = 0) : ∀ (n : Nat) (v1 : Int), (0 ≤ v1) ∧ (v1 ≤ 1000) → Int.toNat (1000 - v1) < n → Aw.Good Try.prog none 9 (bodyPost Try.prog Try.f47 (RR cx (iv (loopF (S47_0 a0 a1) n v1)) [] [])) cx [] (.l B47_0 n :: K47_0) ⟨[(iv a0), (iv a1), .u, .u, .u, (iv v1), .u, .u, .u, .u, .u, .u, .u, .u, .u], []⟩ := by
  intro n
  induction n with
  | zero => intro v1 hi hn; exact absurd hn (Nat.not_lt_zero _)
  | succ n ih =>
    intro v1 hi hn
    refine good_round ?_
    cases h0 : (decide (((F83 (W (a1 * v1))) : Int) < a0)) with
    | true =>
      have q0 := of_decide_eq_true h0
      have hf := trav_f (t := v1) hs (by omega) hq
      have hw := W_eq (n := v1 + 1) (by omega) (by omega)
      have e : S47_0 a0 a1 v1 = (.inl (W (v1 + 1))) := by simp only [S47_0, h0, cond_true, cond_false]
      rw [loopF_inl e]
      refine back_of (T := T0) hT hm (f := 5000) (orc := [.call [] (iv (F83 (W (a1 * v1)))) [], .d true]) [] [0, 1, 5] [] hcx (body := B47_0) (m := n) (k' := K47_0) (s' := ⟨[(iv a0), (iv a1), .u, .u, .u, (iv (W (v1 + 1))), .u, .u, .u, .u, .u, .u, .u, .u, .u], []⟩)
        (obs := [.call 83 [(iv (W (a1 * v1)))] [] (iv (F83 (W (a1 * v1)))) [], .eq (decide (((F83 (W (a1 * v1))) : Int) < a0)) true]) (by kernel_rfl) ⟨(C83 (W (a1 * v1))), h0, trivial⟩ ?_
      exact ih (W (v1 + 1)) (by refine ⟨?_, ?_⟩ <;> (try simp only [List.length_append, List.length_cons, List.length_nil, Int.toNat_zero]) <;> first | omega | simp) (by (try simp only [List.length_append, List.length_cons, List.length_nil, Int.toNat_zero]); omega)
    | false =>
      have q0 := of_decide_eq_false h0
      have hf := trav_f (t := v1) hs (by omega) hq
      have hw := W_eq (n := v1 + 1) (by omega) (by omega)
      have e : S47_0 a0 a1 v1 = (.inr v1) := by simp only [S47_0, h0, cond_true, cond_false]
      rw [show loopF (S47_0 a0 a1) (n + 1) v1 = thenF (S47_0 a0 a1) n (S47_0 a0 a1 v1) from rfl, e]
      exact ret_of (T := T0) hT hm (f := 5000) (orc := [.call [] (iv (F83 (W (a1 * v1)))) [], .d false]) [] [] [] hcx
        (obs := [.call 83 [(iv (W (a1 * v1)))] [] (iv (F83 (W (a1 * v1)))) [], .eq (decide (((F83 (W (a1 * v1))) : Int) < a0)) false]) (by kernel_rfl) ⟨(C83 (W (a1 * v1))), h0, trivial⟩

/-- facet/sound.travel -/
def F47 (a0 : Int) (a1 : Int) : Int :=
  (loopF (S47_0 a0 a1) (Int.toNat (1000 - 0) + 1) 0)

theorem C47 (a0 : Int) (a1 : Int) (hq : a0 ≤ 1000000) (hs : 1 ≤ a1 ∧ a1 ≤ 1000) : Con Try.prog 47 [(iv a0), (iv a1)] [] (iv (F47 a0 a1)) [] := by
  have e : (F47 a0 a1) = (loopF (S47_0 a0 a1) (Int.toNat (1000 - 0) + 1) 0) := by simp only [F47]
  rw [e]
  refine con_of (n := 9) Try.func47 rfl (ent Try.func47 (by kernel_rfl) rfl) (by show 2 ≤ Try.f47.ntmps; decide) (by kernel_rfl) trivial (fun cx hcx => ?_)
  refine enter_of (T := T0) hT hm (f := 5000) (orc := []) [] [0, 1, 5] [] hcx (body := B47_0) (k' := K47_0) (s' := ⟨[(iv a0), (iv a1), .u, .u, .u, (iv 0), .u, .u, .u, .u, .u, .u, .u, .u, .u], []⟩)
    (obs := []) (by kernel_rfl) trivial ⟨Int.toNat (1000 - 0) + 1, ?_⟩
  exact L47_0 a0 a1 hq hs hcx (Int.toNat (1000 - 0) + 1) 0 (by refine ⟨?_, ?_⟩ <;> (try simp only [List.length_append, List.length_cons, List.length_nil, Int.toNat_zero]) <;> first | omega | simp) (by (try simp only [List.length_append, List.length_cons, List.length_nil, Int.toNat_zero]); omega)

noncomputable def B50_0 : Code := (loopAtD [1, 1, 0] [] (Try.f50.body.getD .skip) []).1
noncomputable def K50_0 : List K := (loopAtD [1, 1, 0] [] (Try.f50.body.getD .skip) []).2

/-- a round of loop 0 of facet/facetref08.travel; the variables: v1 = s5 -/
def S50_0 (a0 : Int) (a1 : Int) : Int → (Int) ⊕ (Int)
  | v1 =>
   (bif (decide (((W ((W ((W (a1 * a1)) * v1)) * v1)) : Int) < a0)) then
    (.inl (W (v1 + 1)))
   else
    (.inr v1))

set_option maxHeartbeats 4000000 in
theorem L50_0 (a0 : Int) (a1 : Int) (hq : a0 ≤ 1000000) (hs : 1 ≤ a1 ∧ a1 ≤ 1000) {cx : Cx} (hcx : cx.base = 0) : ∀ (n : Nat) (v1 : Int), (0 ≤ v1) ∧ (v1 ≤ 1000) → Int.toNat (1000 - v1) < n → Aw.Good Try.prog none 9 (bodyPost Try.prog Try.f50 (RR cx (iv (loopF (S50_0 a0 a1) n v1)) [] [])) cx [] (.l B50_0 n :: K50_0) ⟨[(iv a0), (iv a1), .u, .u, .u, (iv v1), .u, .u, .u, .u, .u, .u, .u, .u, .u, .u, .u, .u], []⟩ := by
  intro n
  induction n with
  | zero => intro v1 hi hn; exact absurd hn (Nat.not_lt_zero _)
  | succ n ih =>
    intro v1 hi hn
    refine good_round ?_
    cases h0 : (decide (((W ((W ((W (a1 * a1)) * v1)) * v1)) : Int) < a0)) with
    | true =>
      have q0 := of_decide_eq_true h0
      have hf := trav_r (t := v1) hs (by omega) hq
      have hw := W_eq (n := v1 + 1) (by omega) (by omega)
      have e : S50_0 a0 a1 v1 = (.inl (W (v1 + 1))) := by simp only [S50_0, h0, cond_true, cond_false]
      rw [loopF_inl e]
      refine back_of (T := T0) hT hm (f := 5000) (orc := [.d true]) [] [0, 1, 5] [] hcx (body := B50_0) (m := n) (k' := K50_0) (s' := ⟨[(iv a0), (iv a1), .u, .u, .u, (iv (W (v1 + 1))), .u, .u, .u, .u, .u, .u, .u, .u, .u, .u, .u, .u], []⟩)
        (obs := [.eq (decide (((W ((W ((W (a1 * a1)) * v1)) * v1)) : Int) < a0)) true]) (by kernel_rfl) ⟨h0, trivial⟩ ?_
      exact ih (W (v1 + 1)) (by refine ⟨?_, ?_⟩ <;> (try simp only [List.length_append, List.length_cons, List.length_nil, Int.toNat_zero]) <;> first | omega | simp) (by (try simp only [List.length_append, List.length_cons, List.length_nil, Int.toNat_zero]); omega)
    | false =>
      have q0 := of_decide_eq_false h0
      have hf := trav_r (t := v1) hs (by omega) hq
      have hw := W_eq (n := v1 + 1) (by omega) (by omega)
      have e : S50_0 a0 a1 v1 = (.inr v1) := by simp only [S50_0, h0, cond_true, cond_false]
      rw [show loopF (S50_0 a0 a1) (n + 1) v1 = thenF (S50_0 a0 a1) n (S50_0 a0 a1 v1) from rfl, e]
      exact ret_of (T := T0) hT hm (f := 5000) (orc := [.d false]) [] [] [] hcx
        (obs := [.eq (decide (((W ((W ((W (a1 * a1)) * v1)) * v1)) : Int) < a0)) false]) (by kernel_rfl) ⟨h0, trivial⟩

/-- facet/facetref08.travel -/
def F50 (a0 : Int) (a1 : Int) : Int :=
  (loopF (S50_0 a0 a1) (Int.toNat (1000 - 0) + 1) 0)

theorem C50 (a0 : Int) (a1 : Int) (hq : a0 ≤ 1000000) (hs : 1 ≤ a1 ∧ a1 ≤ 1000) : Con Try.prog 50 [(iv a0), (iv a1)] [] (iv (F50 a0 a1)) [] := by
  have e : (F50 a0 a1) = (loopF (S50_0 a0 a1) (Int.toNat (1000 - 0) + 1) 0) := by simp only [F50]
  rw [e]
  refine con_of (n := 9) Try.func50 rfl (ent Try.func50 (by kernel_rfl) rfl) (by show 2 ≤ Try.f50.ntmps; decide) (by kernel_rfl) trivial (fun cx hcx => ?_)
  refine enter_of (T := T0) hT hm (f := 5000) (orc := []) [] [0, 1, 5] [] hcx (body := B50_0) (k' := K50_0) (s' := ⟨[(iv a0), (iv a1), .u, .u, .u, (iv 0), .u, .u, .u, .u, .u, .u, .u, .u, .u, .u, .u, .u], []⟩)
    (obs := []) (by kernel_rfl) trivial ⟨Int.toNat (1000 - 0) + 1, ?_⟩
  exact L50_0 a0 a1 hq hs hcx (Int.toNat (1000 - 0) + 1) 0 (by refine ⟨?_, ?_⟩ <;> (try simp only [List.length_append, List.length_cons, List.length_nil, Int.toNat_zero]) <;> first | omega | simp) (by (try simp only [List.length_append, List.length_cons, List.length_nil, Int.toNat_zero]); omega)

/-- facet/sound.Travel -/
def F16 (a0 : Int × Int × Int) (a1 : Int × Int × Int) (a2 : Int) : Int × Int :=
  (bif (!(F45 a0)) then
   (0, 1)
  else
   (bif (!(F45 a1)) then
    (0, 1)
   else
    (bif (!(F46 a2)) then
     (0, 1)
    else
     ((F47 (F48 a0 a1) a2), 0))))

theorem C16 (a0 : Int × Int × Int) (a1 : Int × Int × Int) (a2 : Int) : Con Try.prog 16 [(.a (k3 a0)), (.a (k3 a1)), (iv a2)] [] (.t (k2 (F16 a0 a1 a2))) [] := by
  cases h0 : (!(F45 a0)) with
  | true =>
    have e : (F16 a0 a1 a2) = (0, 1) := by simp only [F16, h0, cond_true, cond_false]
    rw [e]
    refine con_of (n := 9) Try.func16 rfl (ent Try.func16 (by kernel_rfl) rfl) (by show 3 ≤ Try.f16.ntmps; decide) (by kernel_rfl) trivial (fun cx hcx => ?_)
    exact ret_of (T := T0) hT hm (f := 5000) (orc := [.call [] (.v (.bool (F45 a0))) [], .d true]) [] [] [] hcx
      (obs := [.call 45 [(.a (k3 a0))] [] (.v (.bool (F45 a0))) [], .eq (!(F45 a0)) true]) (by kernel_rfl) ⟨(C45 a0), h0, trivial⟩
  | false =>
    cases h1 : (!(F45 a1)) with
    | true =>
      have e : (F16 a0 a1 a2) = (0, 1) := by simp only [F16, h0, h1, cond_true, cond_false]
      rw [e]
      refine con_of (n := 9) Try.func16 rfl (ent Try.func16 (by kernel_rfl) rfl) (by show 3 ≤ Try.f16.ntmps; decide) (by kernel_rfl) trivial (fun cx hcx => ?_)
      exact ret_of (T := T0) hT hm (f := 5000) (orc := [.call [] (.v (.bool (F45 a0))) [], .d false, .call [] (.v (.bool (F45 a1))) [], .d true]) [] [] [] hcx
        (obs := [.call 45 [(.a (k3 a0))] [] (.v (.bool (F45 a0))) [], .eq (!(F45 a0)) false, .call 45 [(.a (k3 a1))] [] (.v (.bool (F45 a1))) [], .eq (!(F45 a1)) true]) (by kernel_rfl) ⟨(C45 a0), h0, (C45 a1), h1, trivial⟩
    | false =>
      cases h2 : (!(F46 a2)) with
      | true =>
        have e : (F16 a0 a1 a2) = (0, 1) := by simp only [F16, h0, h1, h2, cond_true, cond_false]
        rw [e]
        refine con_of (n := 9) Try.func16 rfl (ent Try.func16 (by kernel_rfl) rfl) (by show 3 ≤ Try.f16.ntmps; decide) (by kernel_rfl) trivial (fun cx hcx => ?_)
        exact ret_of (T := T0) hT hm (f := 5000) (orc := [.call [] (.v (.bool (F45 a0))) [], .d false, .call [] (.v (.bool (F45 a1))) [], .d false, .call [] (.v (.bool (F46 a2))) [], .d true]) [] [] [] hcx
          (obs := [.call 45 [(.a (k3 a0))] [] (.v (.bool (F45 a0))) [], .eq (!(F45 a0)) false, .call 45 [(.a (k3 a1))] [] (.v (.bool (F45 a1))) [], .eq (!(F45 a1)) false, .call 46 [(iv a2)] [] (.v (.bool (F46 a2))) [], .eq (!(F46 a2)) true]) (by kernel_rfl) ⟨(C45 a0), h0, (C45 a1), h1, (C46 a2), h2, trivial⟩
      | false =>
        have e : (F16 a0 a1 a2) = ((F47 (F48 a0 a1) a2), 0) := by simp only [F16, h0, h1, h2, cond_true, cond_false]
        rw [e]
        refine con_of (n := 9) Try.func16 rfl (ent Try.func16 (by kernel_rfl) rfl) (by show 3 ≤ Try.f16.ntmps; decide) (by kernel_rfl) trivial (fun cx hcx => ?_)
        exact ret_of (T := T0) hT hm (f := 5000) (orc := [.call [] (.v (.bool (F45 a0))) [], .d false, .call [] (.v (.bool (F45 a1))) [], .d false, .call [] (.v (.bool (F46 a2))) [], .d false, .call [] (iv (F48 a0 a1)) [], .call [] (iv (F47 (F48 a0 a1) a2)) []]) [] [] [] hcx
          (obs := [.call 45 [(.a (k3 a0))] [] (.v (.bool (F45 a0))) [], .eq (!(F45 a0)) false, .call 45 [(.a (k3 a1))] [] (.v (.bool (F45 a1))) [], .eq (!(F45 a1)) false, .call 46 [(iv a2)] [] (.v (.bool (F46 a2))) [], .eq (!(F46 a2)) false, .call 48 [(.a (k3 a0)), (.a (k3 a1))] [] (iv (F48 a0 a1)) [], .call 47 [(iv (F48 a0 a1)), (iv a2)] [] (iv (F47 (F48 a0 a1) a2)) []]) (by kernel_rfl) ⟨(C45 a0), h0, (C45 a1), h1, (C46 a2), h2, (C48 a0 a1), (C47 (F48 a0 a1) a2  (tra_f (isp_n h0) (isp_n h1)) (by have := iss_n h2; omega)), trivial⟩

/-- facet/facetref08.Travel -/
def F17 (a0 : Int × Int × Int) (a1 : Int × Int × Int) (a2 : Int) : Int × Int :=
  (bif (!(F36 a1 256)) then
   (0, 1)
  else
   (bif (((F49 a0 a2 0 0) : Int) != 0) then
    (0, (F49 a0 a2 0 0))
   else
    ((F50 (F51 (F52 a0 a1)) a2), 0)))

theorem C17 (a0 : Int × Int × Int) (a1 : Int × Int × Int) (a2 : Int) : Con Try.prog 17 [(.a (k3 a0)), (.a (k3 a1)), (iv a2)] [] (.t (k2 (F17 a0 a1 a2))) [] := by
  cases h0 : (!(F36 a1 256)) with
  | true =>
    have e : (F17 a0 a1 a2) = (0, 1) := by simp only [F17, h0, cond_true, cond_false]
    rw [e]
    refine con_of (n := 9) Try.func17 rfl (ent Try.func17 (by kernel_rfl) rfl) (by show 3 ≤ Try.f17.ntmps; decide) (by kernel_rfl) trivial (fun cx hcx => ?_)
    exact ret_of (T := T0) hT hm (f := 5000) (orc := [.call [] (.v (.bool (F36 a1 256))) [], .d true]) [] [] [] hcx
      (obs := [.call 36 [(.a (k3 a1)), (iv 256)] [] (.v (.bool (F36 a1 256))) [], .eq (!(F36 a1 256)) true]) (by kernel_rfl) ⟨(C36 a1 256), h0, trivial⟩
  | false =>
    cases h1 : (((F49 a0 a2 0 0) : Int) != 0) with
    | true =>
      have q1 := bne_iff_ne.1 h1
      have e : (F17 a0 a1 a2) = (0, (F49 a0 a2 0 0)) := by simp only [F17, h0, h1, cond_true, cond_false]
      rw [e]
      refine con_of (n := 9) Try.func17 rfl (ent Try.func17 (by kernel_rfl) rfl) (by show 3 ≤ Try.f17.ntmps; decide) (by kernel_rfl) trivial (fun cx hcx => ?_)
      exact ret_of (T := T0) hT hm (f := 5000) (orc := [.call [] (.v (.bool (F36 a1 256))) [], .d false, .call [] (iv (F49 a0 a2 0 0)) [], .d true]) [] [] [] hcx
        (obs := [.call 36 [(.a (k3 a1)), (iv 256)] [] (.v (.bool (F36 a1 256))) [], .eq (!(F36 a1 256)) false, .call 49 [(.a (k3 a0)), (iv a2), (iv 0), (iv 0)] [] (iv (F49 a0 a2 0 0)) [], .eq (((F49 a0 a2 0 0) : Int) != 0) true]) (by kernel_rfl) ⟨(C36 a1 256), h0, (C49 a0 a2 0 0), h1, trivial⟩
    | false =>
      have q1 := bne_eq_false_iff_eq.1 h1
      have e : (F17 a0 a1 a2) = ((F50 (F51 (F52 a0 a1)) a2), 0) := by simp only [F17, h0, h1, cond_true, cond_false]
      rw [e]
      refine con_of (n := 9) Try.func17 rfl (ent Try.func17 (by kernel_rfl) rfl) (by show 3 ≤ Try.f17.ntmps; decide) (by kernel_rfl) trivial (fun cx hcx => ?_)
      exact ret_of (T := T0) hT hm (f := 5000) (orc := [.call [] (.v (.bool (F36 a1 256))) [], .d false, .call [] (iv (F49 a0 a2 0 0)) [], .d false, .call [] (.a (k3 (F52 a0 a1))) [], .call [] (iv (F51 (F52 a0 a1))) [], .call [] (iv (F50 (F51 (F52 a0 a1)) a2)) []]) [] [] [] hcx
        (obs := [.call 36 [(.a (k3 a1)), (iv 256)] [] (.v (.bool (F36 a1 256))) [], .eq (!(F36 a1 256)) false, .call 49 [(.a (k3 a0)), (iv a2), (iv 0), (iv 0)] [] (iv (F49 a0 a2 0 0)) [], .eq (((F49 a0 a2 0 0) : Int) != 0) false, .call 52 [(.a (k3 a0)), (.a (k3 a1))] [] (.a (k3 (F52 a0 a1))) [], .call 51 [(.a (k3 (F52 a0 a1)))] [] (iv (F51 (F52 a0 a1))) [], .call 50 [(iv (F51 (F52 a0 a1))), (iv a2)] [] (iv (F50 (F51 (F52 a0 a1)) a2)) []]) (by kernel_rfl) ⟨(C36 a1 256), h0, (C49 a0 a2 0 0), h1, (C52 a0 a1), (C51 (F52 a0 a1)), (C50 (F51 (F52 a0 a1)) a2  (tra_r (ask_p h1).1 (sml_n h0)) (by have := (ask_p h1).2.1; omega)), trivial⟩

/-- facet/sound.first -/
def F54 (a0 : ((Int × Int × Int) × (Int × Int × Int) × Int × Int × Int) × Int × Int) (a1 : Int × Int × Int) (a2 : Int) : Int :=
  (W (a0.2.1 + (F47 (F84 a0.1 a1) a2)))

theorem C54 (a0 : ((Int × Int × Int) × (Int × Int × Int) × Int × Int × Int) × Int × Int) (a1 : Int × Int × Int) (a2 : Int) (hp : POK a0) (hx : bd 256 a1) (hs : 1 ≤ a2 ∧ a2 ≤ 16) : Con Try.prog 54 [(.a [(iv a0.1.1.1), (iv a0.1.1.2.1), (iv a0.1.1.2.2), (iv a0.1.2.1.1), (iv a0.1.2.1.2.1), (iv a0.1.2.1.2.2), (iv a0.1.2.2.1), (iv a0.1.2.2.2.1), (iv a0.1.2.2.2.2), (iv a0.2.1), (iv a0.2.2)]), (.a (k3 a1)), (iv a2)] [] (iv (F54 a0 a1 a2)) [] := by
  have e : (F54 a0 a1 a2) = (W (a0.2.1 + (F47 (F84 a0.1 a1) a2))) := by simp only [F54]
  rw [e]
  refine con_of (n := 9) Try.func54 rfl (ent Try.func54 (by kernel_rfl) rfl) (by show 3 ≤ Try.f54.ntmps; decide) (by kernel_rfl) trivial (fun cx hcx => ?_)
  exact ret_of (T := T0) hT hm (f := 5000) (orc := [.call [] (iv (F84 a0.1 a1)) [], .call [] (iv (F47 (F84 a0.1 a1) a2)) []]) [] [] [] hcx
    (obs := [.call 84 [(.a (k9 a0.1)), (.a (k3 a1))] [] (iv (F84 a0.1 a1)) [], .call 47 [(iv (F84 a0.1 a1)), (iv a2)] [] (iv (F47 (F84 a0.1 a1) a2)) []]) (by kernel_rfl) ⟨(C84 a0.1 a1), (C47 (F84 a0.1 a1) a2  (nef6 hp hx) (by omega)), trivial⟩

/-- facet/sound.First -/
def F19 (a0 : ((Int × Int × Int) × (Int × Int × Int) × Int × Int × Int) × Int × Int) (a1 : Int × Int × Int) (a2 : Int) : Int × Int :=
  (bif (F45 a1) then
   (bif (((F53_1 a0 (F46 a2)) : Int) != 0) then
    (0, (F53_1 a0 (F46 a2)))
   else
    ((F54 a0 a1 a2), 0))
  else
   (bif (((F53_1 a0 false) : Int) != 0) then
    (0, (F53_1 a0 false))
   else
    ((F54 a0 a1 a2), 0)))

noncomputable def oC19_0 (a0 : ((Int × Int × Int) × (Int × Int × Int) × Int × Int × Int) × Int × Int) (a2 : Int) : Ob := .call 53 [(.s 0 0 1 11), (.v (.bool (F46 a2)))] [(.live false false [(iv a0.1.1.1), (iv a0.1.1.2.1), (iv a0.1.1.2.2), (iv a0.1.2.1.1), (iv a0.1.2.1.2.1), (iv a0.1.2.1.2.2), (iv a0.1.2.2.1), (iv a0.1.2.2.2.1), (iv a0.1.2.2.2.2), (iv a0.2.1), (iv a0.2.2)])] (iv (F53_1 a0 (F46 a2))) []
noncomputable def oC19_1 (a0 : ((Int × Int × Int) × (Int × Int × Int) × Int × Int × Int) × Int × Int) (a1 : Int × Int × Int) (a2 : Int) : Ob := .call 54 [(.a [(iv a0.1.1.1), (iv a0.1.1.2.1), (iv a0.1.1.2.2), (iv a0.1.2.1.1), (iv a0.1.2.1.2.1), (iv a0.1.2.1.2.2), (iv a0.1.2.2.1), (iv a0.1.2.2.2.1), (iv a0.1.2.2.2.2), (iv a0.2.1), (iv a0.2.2)]), (.a (k3 a1)), (iv a2)] [] (iv (F54 a0 a1 a2)) []
noncomputable def oC19_2 (a0 : ((Int × Int × Int) × (Int × Int × Int) × Int × Int × Int) × Int × Int) : Ob := .call 53 [(.s 0 0 1 11), (.v (.bool false))] [(.live false false [(iv a0.1.1.1), (iv a0.1.1.2.1), (iv a0.1.1.2.2), (iv a0.1.2.1.1), (iv a0.1.2.1.2.1), (iv a0.1.2.1.2.2), (iv a0.1.2.2.1), (iv a0.1.2.2.2.1), (iv a0.1.2.2.2.2), (iv a0.2.1), (iv a0.2.2)])] (iv (F53_1 a0 false)) []
theorem C19 (a0 : ((Int × Int × Int) × (Int × Int × Int) × Int × Int × Int) × Int × Int) (a1 : Int × Int × Int) (a2 : Int) : Con Try.prog 19 [(.a [(iv a0.1.1.1), (iv a0.1.1.2.1), (iv a0.1.1.2.2), (iv a0.1.2.1.1), (iv a0.1.2.1.2.1), (iv a0.1.2.1.2.2), (iv a0.1.2.2.1), (iv a0.1.2.2.2.1), (iv a0.1.2.2.2.2), (iv a0.2.1), (iv a0.2.2)]), (.a (k3 a1)), (iv a2)] [] (.t (k2 (F19 a0 a1 a2))) [] := by
  cases h0 : (F45 a1) with
  | true =>
    cases h1 : (((F53_1 a0 (F46 a2)) : Int) != 0) with
    | true =>
      have q1 := bne_iff_ne.1 h1
      have e : (F19 a0 a1 a2) = (0, (F53_1 a0 (F46 a2))) := by simp only [F19, h0, h1, cond_true, cond_false]
      rw [e]
      refine con_of (n := 9) Try.func19 rfl (ent Try.func19 (by kernel_rfl) rfl) (by show 3 ≤ Try.f19.ntmps; decide) (by kernel_rfl) trivial (fun cx hcx => ?_)
      exact ret_of (T := T0) hT hm (f := 5000) (orc := [.call [] (.v (.bool (F45 a1))) [], .d true, .call [] (.v (.bool (F46 a2))) [], .call [2] (iv (F53_1 a0 (F46 a2))) [], .d true]) [] [] [] hcx
        (obs := [.call 45 [(.a (k3 a1))] [] (.v (.bool (F45 a1))) [], .eq (F45 a1) true, .call 46 [(iv a2)] [] (.v (.bool (F46 a2))) [], (oC19_0 a0 a2), .eq (((F53_1 a0 (F46 a2)) : Int) != 0) true]) (by kernel_rfl) ⟨(C45 a1), h0, (C46 a2), (C53_1 a0 (F46 a2)), h1, trivial⟩
    | false =>
      have q1 := bne_eq_false_iff_eq.1 h1
      have e : (F19 a0 a1 a2) = ((F54 a0 a1 a2), 0) := by simp only [F19, h0, h1, cond_true, cond_false]
      rw [e]
      refine con_of (n := 9) Try.func19 rfl (ent Try.func19 (by kernel_rfl) rfl) (by show 3 ≤ Try.f19.ntmps; decide) (by kernel_rfl) trivial (fun cx hcx => ?_)
      exact ret_of (T := T0) hT hm (f := 5000) (orc := [.call [] (.v (.bool (F45 a1))) [], .d true, .call [] (.v (.bool (F46 a2))) [], .call [2] (iv (F53_1 a0 (F46 a2))) [], .d false, .call [] (iv (F54 a0 a1 a2)) []]) [] [] [] hcx
        (obs := [.call 45 [(.a (k3 a1))] [] (.v (.bool (F45 a1))) [], .eq (F45 a1) true, .call 46 [(iv a2)] [] (.v (.bool (F46 a2))) [], (oC19_0 a0 a2), .eq (((F53_1 a0 (F46 a2)) : Int) != 0) false, (oC19_1 a0 a1 a2)]) (by kernel_rfl) ⟨(C45 a1), h0, (C46 a2), (C53_1 a0 (F46 a2)), h1, (C54 a0 a1 a2  (ckb_p h1) (by first | exact isp_p h0 | exact absurd (ckb_b h1) (by decide)) (by first | exact iss_p (ckb_b h1) | exact absurd (ckb_b h1) (by decide))), trivial⟩
  | false =>
    cases h1 : (((F53_1 a0 false) : Int) != 0) with
    | true =>
      have q1 := bne_iff_ne.1 h1
      have e : (F19 a0 a1 a2) = (0, (F53_1 a0 false)) := by simp only [F19, h0, h1, cond_true, cond_false]
      rw [e]
      refine con_of (n := 9) Try.func19 rfl (ent Try.func19 (by kernel_rfl) rfl) (by show 3 ≤ Try.f19.ntmps; decide) (by kernel_rfl) trivial (fun cx hcx => ?_)
      exact ret_of (T := T0) hT hm (f := 5000) (orc := [.call [] (.v (.bool (F45 a1))) [], .d false, .call [2] (iv (F53_1 a0 false)) [], .d true]) [] [] [] hcx
        (obs := [.call 45 [(.a (k3 a1))] [] (.v (.bool (F45 a1))) [], .eq (F45 a1) false, (oC19_2 a0), .eq (((F53_1 a0 false) : Int) != 0) true]) (by kernel_rfl) ⟨(C45 a1), h0, (C53_1 a0 false), h1, trivial⟩
    | false =>
      have q1 := bne_eq_false_iff_eq.1 h1
      have e : (F19 a0 a1 a2) = ((F54 a0 a1 a2), 0) := by simp only [F19, h0, h1, cond_true, cond_false]
      rw [e]
      refine con_of (n := 9) Try.func19 rfl (ent Try.func19 (by kernel_rfl) rfl) (by show 3 ≤ Try.f19.ntmps; decide) (by kernel_rfl) trivial (fun cx hcx => ?_)
      exact ret_of (T := T0) hT hm (f := 5000) (orc := [.call [] (.v (.bool (F45 a1))) [], .d false, .call [2] (iv (F53_1 a0 false)) [], .d false, .call [] (iv (F54 a0 a1 a2)) []]) [] [] [] hcx
        (obs := [.call 45 [(.a (k3 a1))] [] (.v (.bool (F45 a1))) [], .eq (F45 a1) false, (oC19_2 a0), .eq (((F53_1 a0 false) : Int) != 0) false, (oC19_1 a0 a1 a2)]) (by kernel_rfl) ⟨(C45 a1), h0, (C53_1 a0 false), h1, (C54 a0 a1 a2  (ckb_p h1) (by first | exact isp_p h0 | exact absurd (ckb_b h1) (by decide)) (by first | exact iss_p (ckb_b h1) | exact absurd (ckb_b h1) (by decide))), trivial⟩

/-- facet/sound.last -/
def F57 (a0 : ((Int × Int × Int) × (Int × Int × Int) × Int × Int × Int) × Int × Int) (a1 : Int × Int × Int) (a2 : Int) : Int :=
  (W (a0.2.1 + (F47 (F87 a0.1 a1) a2)))

theorem C57 (a0 : ((Int × Int × Int) × (Int × Int × Int) × Int × Int × Int) × Int × Int) (a1 : Int × Int × Int) (a2 : Int) (hp : POK a0) (hx : bd 256 a1) (hs : 1 ≤ a2 ∧ a2 ≤ 16) : Con Try.prog 57 [(.a [(iv a0.1.1.1), (iv a0.1.1.2.1), (iv a0.1.1.2.2), (iv a0.1.2.1.1), (iv a0.1.2.1.2.1), (iv a0.1.2.1.2.2), (iv a0.1.2.2.1), (iv a0.1.2.2.2.1), (iv a0.1.2.2.2.2), (iv a0.2.1), (iv a0.2.2)]), (.a (k3 a1)), (iv a2)] [] (iv (F57 a0 a1 a2)) [] := by
  have e : (F57 a0 a1 a2) = (W (a0.2.1 + (F47 (F87 a0.1 a1) a2))) := by simp only [F57]
  rw [e]
  refine con_of (n := 9) Try.func57 rfl (ent Try.func57 (by kernel_rfl) rfl) (by show 3 ≤ Try.f57.ntmps; decide) (by kernel_rfl) trivial (fun cx hcx => ?_)
  exact ret_of (T := T0) hT hm (f := 5000) (orc := [.call [] (iv (F87 a0.1 a1)) [], .call [] (iv (F47 (F87 a0.1 a1) a2)) []]) [] [] [] hcx
    (obs := [.call 87 [(.a (k9 a0.1)), (.a (k3 a1))] [] (iv (F87 a0.1 a1)) [], .call 47 [(iv (F87 a0.1 a1)), (iv a2)] [] (iv (F47 (F87 a0.1 a1) a2)) []]) (by kernel_rfl) ⟨(C87 a0.1 a1), (C47 (F87 a0.1 a1) a2  (faf6 hp hx) (by omega)), trivial⟩

/-- facet/sound.Last -/
def F21 (a0 : ((Int × Int × Int) × (Int × Int × Int) × Int × Int × Int) × Int × Int) (a1 : Int × Int × Int) (a2 : Int) : Int × Int :=
  (bif (F45 a1) then
   (bif (((F53_1 a0 (F46 a2)) : Int) != 0) then
    (0, (F53_1 a0 (F46 a2)))
   else
    ((F57 a0 a1 a2), 0))
  else
   (bif (((F53_1 a0 false) : Int) != 0) then
    (0, (F53_1 a0 false))
   else
    ((F57 a0 a1 a2), 0)))

noncomputable def oC21_0 (a0 : ((Int × Int × Int) × (Int × Int × Int) × Int × Int × Int) × Int × Int) (a2 : Int) : Ob := .call 53 [(.s 0 0 1 11), (.v (.bool (F46 a2)))] [(.live false false [(iv a0.1.1.1), (iv a0.1.1.2.1), (iv a0.1.1.2.2), (iv a0.1.2.1.1), (iv a0.1.2.1.2.1), (iv a0.1.2.1.2.2), (iv a0.1.2.2.1), (iv a0.1.2.2.2.1), (iv a0.1.2.2.2.2), (iv a0.2.1), (iv a0.2.2)])] (iv (F53_1 a0 (F46 a2))) []
noncomputable def oC21_1 (a0 : ((Int × Int × Int) × (Int × Int × Int) × Int × Int × Int) × Int × Int) (a1 : Int × Int × Int) (a2 : Int) : Ob := .call 57 [(.a [(iv a0.1.1.1), (iv a0.1.1.2.1), (iv a0.1.1.2.2), (iv a0.1.2.1.1), (iv a0.1.2.1.2.1), (iv a0.1.2.1.2.2), (iv a0.1.2.2.1), (iv a0.1.2.2.2.1), (iv a0.1.2.2.2.2), (iv a0.2.1), (iv a0.2.2)]), (.a (k3 a1)), (iv a2)] [] (iv (F57 a0 a1 a2)) []
noncomputable def oC21_2 (a0 : ((Int × Int × Int) × (Int × Int × Int) × Int × Int × Int) × Int × Int) : Ob := .call 53 [(.s 0 0 1 11), (.v (.bool false))] [(.live false false [(iv a0.1.1.1), (iv a0.1.1.2.1), (iv a0.1.1.2.2), (iv a0.1.2.1.1), (iv a0.1.2.1.2.1), (iv a0.1.2.1.2.2), (iv a0.1.2.2.1), (iv a0.1.2.2.2.1), (iv a0.1.2.2.2.2), (iv a0.2.1), (iv a0.2.2)])] (iv (F53_1 a0 false)) []
theorem C21 (a0 : ((Int × Int × Int) × (Int × Int × Int) × Int × Int × Int) × Int × Int) (a1 : Int × Int × Int) (a2 : Int) : Con Try.prog 21 [(.a [(iv a0.1.1.1), (iv a0.1.1.2.1), (iv a0.1.1.2.2), (iv a0.1.2.1.1), (iv a0.1.2.1.2.1), (iv a0.1.2.1.2.2), (iv a0.1.2.2.1), (iv a0.1.2.2.2.1), (iv a0.1.2.2.2.2), (iv a0.2.1), (iv a0.2.2)]), (.a (k3 a1)), (iv a2)] [] (.t (k2 (F21 a0 a1 a2))) [] := by
  cases h0 : (F45 a1) with
  | true =>
    cases h1 : (((F53_1 a0 (F46 a2)) : Int) != 0) with
    | true =>
      have q1 := bne_iff_ne.1 h1
      have e : (F21 a0 a1 a2) = (0, (F53_1 a0 (F46 a2))) := by simp only [F21, h0, h1, cond_true, cond_false]
      rw [e]
      refine con_of (n := 9) Try.func21 rfl (ent Try.func21 (by kernel_rfl) rfl) (by show 3 ≤ Try.f21.ntmps; decide) (by kernel_rfl) trivial (fun cx hcx => ?_)
      exact ret_of (T := T0) hT hm (f := 5000) (orc := [.call [] (.v (.bool (F45 a1))) [], .d true, .call [] (.v (.bool (F46 a2))) [], .call [2] (iv (F53_1 a0 (F46 a2))) [], .d true]) [] [] [] hcx
        (obs := [.call 45 [(.a (k3 a1))] [] (.v (.bool (F45 a1))) [], .eq (F45 a1) true, .call 46 [(iv a2)] [] (.v (.bool (F46 a2))) [], (oC21_0 a0 a2), .eq (((F53_1 a0 (F46 a2)) : Int) != 0) true]) (by kernel_rfl) ⟨(C45 a1), h0, (C46 a2), (C53_1 a0 (F46 a2)), h1, trivial⟩
    | false =>
      have q1 := bne_eq_false_iff_eq.1 h1
      have e : (F21 a0 a1 a2) = ((F57 a0 a1 a2), 0) := by simp only [F21, h0, h1, cond_true, cond_false]
      rw [e]
      refine con_of (n := 9) Try.func21 rfl (ent Try.func21 (by kernel_rfl) rfl) (by show 3 ≤ Try.f21.ntmps; decide) (by kernel_rfl) trivial (fun cx hcx => ?_)
      exact ret_of (T := T0) hT hm (f := 5000) (orc := [.call [] (.v (.bool (F45 a1))) [], .d true, .call [] (.v (.bool (F46 a2))) [], .call [2] (iv (F53_1 a0 (F46 a2))) [], .d false, .call [] (iv (F57 a0 a1 a2)) []]) [] [] [] hcx
        (obs := [.call 45 [(.a (k3 a1))] [] (.v (.bool (F45 a1))) [], .eq (F45 a1) true, .call 46 [(iv a2)] [] (.v (.bool (F46 a2))) [], (oC21_0 a0 a2), .eq (((F53_1 a0 (F46 a2)) : Int) != 0) false, (oC21_1 a0 a1 a2)]) (by kernel_rfl) ⟨(C45 a1), h0, (C46 a2), (C53_1 a0 (F46 a2)), h1, (C57 a0 a1 a2  (ckb_p h1) (by first | exact isp_p h0 | exact absurd (ckb_b h1) (by decide)) (by first | exact iss_p (ckb_b h1) | exact absurd (ckb_b h1) (by decide))), trivial⟩
  | false =>
    cases h1 : (((F53_1 a0 false) : Int) != 0) with
    | true =>
      have q1 := bne_iff_ne.1 h1
      have e : (F21 a0 a1 a2) = (0, (F53_1 a0 false)) := by simp only [F21, h0, h1, cond_true, cond_false]
      rw [e]
      refine con_of (n := 9) Try.func21 rfl (ent Try.func21 (by kernel_rfl) rfl) (by show 3 ≤ Try.f21.ntmps; decide) (by kernel_rfl) trivial (fun cx hcx => ?_)
      exact ret_of (T := T0) hT hm (f := 5000) (orc := [.call [] (.v (.bool (F45 a1))) [], .d false, .call [2] (iv (F53_1 a0 false)) [], .d true]) [] [] [] hcx
        (obs := [.call 45 [(.a (k3 a1))] [] (.v (.bool (F45 a1))) [], .eq (F45 a1) false, (oC21_2 a0), .eq (((F53_1 a0 false) : Int) != 0) true]) (by kernel_rfl) ⟨(C45 a1), h0, (C53_1 a0 false), h1, trivial⟩
    | false =>
      have q1 := bne_eq_false_iff_eq.1 h1
      have e : (F21 a0 a1 a2) = ((F57 a0 a1 a2), 0) := by simp only [F21, h0, h1, cond_true, cond_false]
      rw [e]
      refine con_of (n := 9) Try.func21 rfl (ent Try.func21 (by kernel_rfl) rfl) (by show 3 ≤ Try.f21.ntmps; decide) (by kernel_rfl) trivial (fun cx hcx => ?_)
      exact ret_of (T := T0) hT hm (f := 5000) (orc := [.call [] (.v (.bool (F45 a1))) [], .d false, .call [2] (iv (F53_1 a0 false)) [], .d false, .call [] (iv (F57 a0 a1 a2)) []]) [] [] [] hcx
        (obs := [.call 45 [(.a (k3 a1))] [] (.v (.bool (F45 a1))) [], .eq (F45 a1) false, (oC21_2 a0), .eq (((F53_1 a0 false) : Int) != 0) false, (oC21_1 a0 a1 a2)]) (by kernel_rfl) ⟨(C45 a1), h0, (C53_1 a0 false), h1, (C57 a0 a1 a2  (ckb_p h1) (by first | exact isp_p h0 | exact absurd (ckb_b h1) (by decide)) (by first | exact iss_p (ckb_b h1) | exact absurd (ckb_b h1) (by decide))), trivial⟩

/-- facet/facetref08.First -/
def F20 (a0 : ((Int × Int × Int) × (Int × Int × Int) × Int × Int × Int) × Int × Int) (a1 : Int × Int × Int) (a2 : Int) : Int × Int :=
  (bif (((F55 a0) : Int) != 0) then
   (0, (F55 a0))
  else
   (bif (((F49 a1 a2 0 0) : Int) != 0) then
    (0, (F49 a1 a2 0 0))
   else
    ((W (a0.2.1 + (F50 (F56 a0.1 a1) a2))), 0)))

noncomputable def oC20_0 (a0 : ((Int × Int × Int) × (Int × Int × Int) × Int × Int × Int) × Int × Int) : Ob := .call 55 [(.a [(iv a0.1.1.1), (iv a0.1.1.2.1), (iv a0.1.1.2.2), (iv a0.1.2.1.1), (iv a0.1.2.1.2.1), (iv a0.1.2.1.2.2), (iv a0.1.2.2.1), (iv a0.1.2.2.2.1), (iv a0.1.2.2.2.2), (iv a0.2.1), (iv a0.2.2)])] [] (iv (F55 a0)) []
theorem C20 (a0 : ((Int × Int × Int) × (Int × Int × Int) × Int × Int × Int) × Int × Int) (a1 : Int × Int × Int) (a2 : Int) : Con Try.prog 20 [(.a [(iv a0.1.1.1), (iv a0.1.1.2.1), (iv a0.1.1.2.2), (iv a0.1.2.1.1), (iv a0.1.2.1.2.1), (iv a0.1.2.1.2.2), (iv a0.1.2.2.1), (iv a0.1.2.2.2.1), (iv a0.1.2.2.2.2), (iv a0.2.1), (iv a0.2.2)]), (.a (k3 a1)), (iv a2)] [] (.t (k2 (F20 a0 a1 a2))) [] := by
  cases h0 : (((F55 a0) : Int) != 0) with
  | true =>
    have q0 := bne_iff_ne.1 h0
    have e : (F20 a0 a1 a2) = (0, (F55 a0)) := by simp only [F20, h0, cond_true, cond_false]
    rw [e]
    refine con_of (n := 9) Try.func20 rfl (ent Try.func20 (by kernel_rfl) rfl) (by show 3 ≤ Try.f20.ntmps; decide) (by kernel_rfl) trivial (fun cx hcx => ?_)
    exact ret_of (T := T0) hT hm (f := 5000) (orc := [.call [] (iv (F55 a0)) [], .d true]) [] [] [] hcx
      (obs := [(oC20_0 a0), .eq (((F55 a0) : Int) != 0) true]) (by kernel_rfl) ⟨(C55 a0), h0, trivial⟩
  | false =>
    cases h1 : (((F49 a1 a2 0 0) : Int) != 0) with
    | true =>
      have q0 := bne_eq_false_iff_eq.1 h0
      have q1 := bne_iff_ne.1 h1
      have e : (F20 a0 a1 a2) = (0, (F49 a1 a2 0 0)) := by simp only [F20, h0, h1, cond_true, cond_false]
      rw [e]
      refine con_of (n := 9) Try.func20 rfl (ent Try.func20 (by kernel_rfl) rfl) (by show 3 ≤ Try.f20.ntmps; decide) (by kernel_rfl) trivial (fun cx hcx => ?_)
      exact ret_of (T := T0) hT hm (f := 5000) (orc := [.call [] (iv (F55 a0)) [], .d false, .call [] (iv (F49 a1 a2 0 0)) [], .d true]) [] [] [] hcx
        (obs := [(oC20_0 a0), .eq (((F55 a0) : Int) != 0) false, .call 49 [(.a (k3 a1)), (iv a2), (iv 0), (iv 0)] [] (iv (F49 a1 a2 0 0)) [], .eq (((F49 a1 a2 0 0) : Int) != 0) true]) (by kernel_rfl) ⟨(C55 a0), h0, (C49 a1 a2 0 0), h1, trivial⟩
    | false =>
      have q0 := bne_eq_false_iff_eq.1 h0
      have q1 := bne_eq_false_iff_eq.1 h1
      have e : (F20 a0 a1 a2) = ((W (a0.2.1 + (F50 (F56 a0.1 a1) a2))), 0) := by simp only [F20, h0, h1, cond_true, cond_false]
      rw [e]
      refine con_of (n := 9) Try.func20 rfl (ent Try.func20 (by kernel_rfl) rfl) (by show 3 ≤ Try.f20.ntmps; decide) (by kernel_rfl) trivial (fun cx hcx => ?_)
      exact ret_of (T := T0) hT hm (f := 5000) (orc := [.call [] (iv (F55 a0)) [], .d false, .call [] (iv (F49 a1 a2 0 0)) [], .d false, .call [] (iv (F56 a0.1 a1)) [], .call [] (iv (F50 (F56 a0.1 a1) a2)) []]) [] [] [] hcx
        (obs := [(oC20_0 a0), .eq (((F55 a0) : Int) != 0) false, .call 49 [(.a (k3 a1)), (iv a2), (iv 0), (iv 0)] [] (iv (F49 a1 a2 0 0)) [], .eq (((F49 a1 a2 0 0) : Int) != 0) false, .call 56 [(.a (k9 a0.1)), (.a (k3 a1))] [] (iv (F56 a0.1 a1)) [], .call 50 [(iv (F56 a0.1 a1)), (iv a2)] [] (iv (F50 (F56 a0.1 a1) a2)) []]) (by kernel_rfl) ⟨(C55 a0), h0, (C49 a1 a2 0 0), h1, (C56 a0.1 a1), (C50 (F56 a0.1 a1) a2  (ner6 (one_p h0) (ask_p h1).1) (by have := (ask_p h1).2.1; omega)), trivial⟩

/-- facet/facetref08.Last -/
def F22 (a0 : ((Int × Int × Int) × (Int × Int × Int) × Int × Int × Int) × Int × Int) (a1 : Int × Int × Int) (a2 : Int) : Int × Int :=
  (bif (((F55 a0) : Int) != 0) then
   (0, (F55 a0))
  else
   (bif (((F49 a1 a2 0 0) : Int) != 0) then
    (0, (F49 a1 a2 0 0))
   else
    ((W (a0.2.1 + (F50 (F58 a0.1 a1) a2))), 0)))

noncomputable def oC22_0 (a0 : ((Int × Int × Int) × (Int × Int × Int) × Int × Int × Int) × Int × Int) : Ob := .call 55 [(.a [(iv a0.1.1.1), (iv a0.1.1.2.1), (iv a0.1.1.2.2), (iv a0.1.2.1.1), (iv a0.1.2.1.2.1), (iv a0.1.2.1.2.2), (iv a0.1.2.2.1), (iv a0.1.2.2.2.1), (iv a0.1.2.2.2.2), (iv a0.2.1), (iv a0.2.2)])] [] (iv (F55 a0)) []
theorem C22 (a0 : ((Int × Int × Int) × (Int × Int × Int) × Int × Int × Int) × Int × Int) (a1 : Int × Int × Int) (a2 : Int) : Con Try.prog 22 [(.a [(iv a0.1.1.1), (iv a0.1.1.2.1), (iv a0.1.1.2.2), (iv a0.1.2.1.1), (iv a0.1.2.1.2.1), (iv a0.1.2.1.2.2), (iv a0.1.2.2.1), (iv a0.1.2.2.2.1), (iv a0.1.2.2.2.2), (iv a0.2.1), (iv a0.2.2)]), (.a (k3 a1)), (iv a2)] [] (.t (k2 (F22 a0 a1 a2))) [] := by
  cases h0 : (((F55 a0) : Int) != 0) with
  | true =>
    have q0 := bne_iff_ne.1 h0
    have e : (F22 a0 a1 a2) = (0, (F55 a0)) := by simp only [F22, h0, cond_true, cond_false]
    rw [e]
    refine con_of (n := 9) Try.func22 rfl (ent Try.func22 (by kernel_rfl) rfl) (by show 3 ≤ Try.f22.ntmps; decide) (by kernel_rfl) trivial (fun cx hcx => ?_)
    exact ret_of (T := T0) hT hm (f := 5000) (orc := [.call [] (iv (F55 a0)) [], .d true]) [] [] [] hcx
      (obs := [(oC22_0 a0), .eq (((F55 a0) : Int) != 0) true]) (by kernel_rfl) ⟨(C55 a0), h0, trivial⟩
  | false =>
    cases h1 : (((F49 a1 a2 0 0) : Int) != 0) with
    | true =>
      have q0 := bne_eq_false_iff_eq.1 h0
      have q1 := bne_iff_ne.1 h1
      have e : (F22 a0 a1 a2) = (0, (F49 a1 a2 0 0)) := by simp only [F22, h0, h1, cond_true, cond_false]
      rw [e]
      refine con_of (n := 9) Try.func22 rfl (ent Try.func22 (by kernel_rfl) rfl) (by show 3 ≤ Try.f22.ntmps; decide) (by kernel_rfl) trivial (fun cx hcx => ?_)
      exact ret_of (T := T0) hT hm (f := 5000) (orc := [.call [] (iv (F55 a0)) [], .d false, .call [] (iv (F49 a1 a2 0 0)) [], .d true]) [] [] [] hcx
        (obs := [(oC22_0 a0), .eq (((F55 a0) : Int) != 0) false, .call 49 [(.a (k3 a1)), (iv a2), (iv 0), (iv 0)] [] (iv (F49 a1 a2 0 0)) [], .eq (((F49 a1 a2 0 0) : Int) != 0) true]) (by kernel_rfl) ⟨(C55 a0), h0, (C49 a1 a2 0 0), h1, trivial⟩
    | false =>
      have q0 := bne_eq_false_iff_eq.1 h0
      have q1 := bne_eq_false_iff_eq.1 h1
      have e : (F22 a0 a1 a2) = ((W (a0.2.1 + (F50 (F58 a0.1 a1) a2))), 0) := by simp only [F22, h0, h1, cond_true, cond_false]
      rw [e]
      refine con_of (n := 9) Try.func22 rfl (ent Try.func22 (by kernel_rfl) rfl) (by show 3 ≤ Try.f22.ntmps; decide) (by kernel_rfl) trivial (fun cx hcx => ?_)
      exact ret_of (T := T0) hT hm (f := 5000) (orc := [.call [] (iv (F55 a0)) [], .d false, .call [] (iv (F49 a1 a2 0 0)) [], .d false, .call [] (iv (F58 a0.1 a1)) [], .call [] (iv (F50 (F58 a0.1 a1) a2)) []]) [] [] [] hcx
        (obs := [(oC22_0 a0), .eq (((F55 a0) : Int) != 0) false, .call 49 [(.a (k3 a1)), (iv a2), (iv 0), (iv 0)] [] (iv (F49 a1 a2 0 0)) [], .eq (((F49 a1 a2 0 0) : Int) != 0) false, .call 58 [(.a (k9 a0.1)), (.a (k3 a1))] [] (iv (F58 a0.1 a1)) [], .call 50 [(iv (F58 a0.1 a1)), (iv a2)] [] (iv (F50 (F58 a0.1 a1) a2)) []]) (by kernel_rfl) ⟨(C55 a0), h0, (C49 a1 a2 0 0), h1, (C58 a0.1 a1), (C50 (F58 a0.1 a1) a2  (far6 (one_p h0) (ask_p h1).1) (by have := (ask_p h1).2.1; omega)), trivial⟩

/-- facet/facetref08.double -/
def F118 (a0 : Int × Int × Int) : Int × Int × Int :=
  (F117 a0 a0)

theorem C118 (a0 : Int × Int × Int) : Con Try.prog 118 [(.a (k3 a0))] [] (.a (k3 (F118 a0))) [] := by
  have e : (F118 a0) = (F117 a0 a0) := by simp only [F118]
  rw [e]
  refine con_of (n := 9) Try.func118 rfl (ent Try.func118 (by kernel_rfl) rfl) (by show 1 ≤ Try.f118.ntmps; decide) (by kernel_rfl) trivial (fun cx hcx => ?_)
  exact ret_of (T := T0) hT hm (f := 5000) (orc := [.call [] (.a (k3 (F117 a0 a0))) []]) [] [] [] hcx
    (obs := [.call 117 [(.a (k3 a0)), (.a (k3 a0))] [] (.a (k3 (F117 a0 a0))) []]) (by kernel_rfl) ⟨(C117 a0 a0), trivial⟩

noncomputable def B91_0 : Code := (loopAtD [1, 1, 1, 1, 0, 1] [] (Try.f91.body.getD .skip) []).1
noncomputable def K91_0 : List K := (loopAtD [1, 1, 1, 1, 0, 1] [] (Try.f91.body.getD .skip) []).2

/-- a round of loop 0 of facet/facetref08.parts; the variables: v4 = s5, v5 = s6, v6 = s7 -/
def S91_0 (nr : Nat) (a0 : (Int × Int × Int) × (Int × Int × Int) × Int × Int × Int) (a1 : Int) : (List ((Int × Int × Int) × (Int × Int × Int) × Int × Int × Int)) × (List ((Int × Int × Int) × (Int × Int × Int) × Int × Int × Int)) × Int → ((List ((Int × Int × Int) × (Int × Int × Int) × Int × Int × Int)) × (List ((Int × Int × Int) × (Int × Int × Int) × Int × Int × Int)) × Int) ⊕ (List ((Int × Int × Int) × (Int × Int × Int) × Int × Int × Int))
  | (v4, v5, v6) =>
   (bif (decide ((v6 : Int) < ((v5.length : Nat) : Int))) then
    (.inl ((v4 ++ [((F118 (v5.getD (Int.toNat v6) default).1), (F117 (v5.getD (Int.toNat v6) default).1 (v5.getD (Int.toNat v6) default).2.1), (F117 (v5.getD (Int.toNat v6) default).2.2 (v5.getD (Int.toNat v6) default).1)), ((F117 (v5.getD (Int.toNat v6) default).1 (v5.getD (Int.toNat v6) default).2.1), (F118 (v5.getD (Int.toNat v6) default).2.1), (F117 (v5.getD (Int.toNat v6) default).2.1 (v5.getD (Int.toNat v6) default).2.2)), ((F117 (v5.getD (Int.toNat v6) default).2.2 (v5.getD (Int.toNat v6) default).1), (F117 (v5.getD (Int.toNat v6) default).2.1 (v5.getD (Int.toNat v6) default).2.2), (F118 (v5.getD (Int.toNat v6) default).2.2)), ((F117 (v5.getD (Int.toNat v6) default).1 (v5.getD (Int.toNat v6) default).2.1), (F117 (v5.getD (Int.toNat v6) default).2.1 (v5.getD (Int.toNat v6) default).2.2), (F117 (v5.getD (Int.toNat v6) default).2.2 (v5.getD (Int.toNat v6) default).1))]), v5, (v6 + 1)))
   else
    (.inr v4))

/-- facet/facetref08.parts -/
def R91 : Nat → ((Int × Int × Int) × (Int × Int × Int) × Int × Int × Int) → (Int) → List ((Int × Int × Int) × (Int × Int × Int) × Int × Int × Int)
  | 0, _, _ => default
  | nr + 1, a0, a1 =>
  (bif ((a1 : Int) == 0) then
   ([a0] : List ((Int × Int × Int) × (Int × Int × Int) × Int × Int × Int))
  else
   (loopF (S91_0 nr a0 a1) (Int.toNat ((((R91 nr a0 (W (a1 - 1))).length : Nat) : Int) - 0) + 1) (([] : List ((Int × Int × Int) × (Int × Int × Int) × Int × Int × Int)), (R91 nr a0 (W (a1 - 1))), 0)))

def F91 (a0 : (Int × Int × Int) × (Int × Int × Int) × Int × Int × Int) (a1 : Int) : List ((Int × Int × Int) × (Int × Int × Int) × Int × Int × Int) := R91 (Int.toNat a1 + 1) a0 a1

/-! ### The reference's parts: a recursion -/
def quad8 (x : PN) : List PN :=
  [(F118 x.1, F117 x.1 x.2.1, F117 x.2.2 x.1), (F117 x.1 x.2.1, F118 x.2.1, F117 x.2.1 x.2.2),
   (F117 x.2.2 x.1, F117 x.2.1 x.2.2, F118 x.2.2), (F117 x.1 x.2.1, F117 x.2.1 x.2.2, F117 x.2.2 x.1)]
theorem pa_in (nr : Nat) (a0 : PN) (a1 : Int) (l : List PN) : ∀ (f i : Nat) (nx : List PN), l.length - i < f → i ≤ l.length →
    loopF (S91_0 nr a0 a1) f (nx, l, (i : Int)) = nx ++ (l.drop i).flatMap quad8 := by
  intro f
  induction f with
  | zero => intro i nx h; omega
  | succ f ih =>
    intro i nx h hi
    by_cases hlt : i < l.length
    · have hs : S91_0 nr a0 a1 (nx, l, (i : Int)) = .inl (nx ++ quad8 (l.getD i default), l, ((i + 1 : Nat) : Int)) := by
        have : decide ((i : Int) < (l.length : Int)) = true := by simpa using hlt
        simp only [S91_0, this, cond_true, Int.toNat_natCast, quad8]
        rfl
      rw [loopF_inl hs, ih _ _ (by omega) (by omega)]
      have hd : l.drop i = l.getD i default :: l.drop (i + 1) := by
        rw [List.drop_eq_getElem_cons hlt]; simp [List.getD_eq_getElem?_getD, hlt]
      rw [hd, List.flatMap_cons, List.append_assoc]
    · have : decide ((i : Int) < (l.length : Int)) = false := by simpa using hlt
      have hs : S91_0 nr a0 a1 (nx, l, (i : Int)) = .inr nx := by
        simp only [S91_0, this, cond_false]
      rw [loopF_inr hs, List.drop_of_length_le (by omega)]; simp
theorem R8_eq (nr : Nat) (p : PN) (d : Int) : R91 (nr + 1) p d = if d = 0 then [p] else (R91 nr p (W (d - 1))).flatMap quad8 := by
  have := pa_in nr p d (R91 nr p (W (d - 1))) (Int.toNat ((((R91 nr p (W (d - 1))).length : Nat) : Int) - 0) + 1) 0 [] (by omega) (by omega)
  simp only [R91]
  by_cases h : d = 0
  · subst h; rfl
  · rw [if_neg h, show (d == 0) = false from by simpa using h, cond_false]
    simpa using this
theorem quad8_len (l : List PN) : (l.flatMap quad8).length = 4 * l.length := by
  induction l with
  | nil => rfl
  | cons x l ih => rw [List.flatMap_cons, List.length_append, ih]; simp only [quad8, List.length_cons, List.length_nil]; omega
theorem R8_len : ∀ (nr : Nat) (p : PN) (d : Int), 0 ≤ d ∧ d ≤ 3 → Int.toNat d < nr → (R91 nr p d).length = 4 ^ (Int.toNat d)
  | 0, p, d, _, h => by omega
  | nr + 1, p, d, hd, h => by
    rw [R8_eq]
    by_cases h0 : d = 0
    · subst h0; rfl
    · have h1 := pa_d h0 hd
      rw [if_neg h0, quad8_len, R8_len nr p _ h1.1 (by omega), ← h1.2, Nat.pow_succ, Nat.mul_comm]
theorem R8_le (nr : Nat) (p : PN) (d : Int) (hd : 0 ≤ d ∧ d ≤ 3) (h : Int.toNat d < nr) : (R91 nr p d).length ≤ 64 := by
  rw [R8_len nr p d hd h]
  have : Int.toNat d = 0 ∨ Int.toNat d = 1 ∨ Int.toNat d = 2 ∨ Int.toNat d = 3 := by omega
  rcases this with e | e | e | e <;> rw [e] <;> decide


set_option maxHeartbeats 4000000 in
theorem L91_0 (nr : Nat) (a0 : (Int × Int × Int) × (Int × Int × Int) × Int × Int × Int) (a1 : Int) (ha : 0 ≤ a1 ∧ a1 ≤ 3) (hlt : Int.toNat a1 < nr + 1) (ihr : ∀ (a0 : (Int × Int × Int) × (Int × Int × Int) × Int × Int × Int) (a1 : Int) (ha : 0 ≤ a1 ∧ a1 ≤ 3), Int.toNat a1 < nr → Con Try.prog 91 [(.a (k9 a0)), (iv a1)] [] (.s 0 0 (R91 nr a0 a1).length 9) [(.live true true (flat c26 (R91 nr a0 a1)))]) {cx : Cx} (hcx : cx.base = 0) : ∀ (n : Nat) (v4 : List ((Int × Int × Int) × (Int × Int × Int) × Int × Int × Int)) (v5 : List ((Int × Int × Int) × (Int × Int × Int) × Int × Int × Int)) (v6 : Int), (0 ≤ v6) ∧ (v4.length = 4 * Int.toNat v6) ∧ (v6 ≤ v5.length) ∧ (v5.length ≤ 64) → Int.toNat (((v5.length : Nat) : Int) - v6) < n → Aw.Good Try.prog none 9 (bodyPost Try.prog Try.f91 (RR cx (.s 0 0 (loopF (S91_0 nr a0 a1) n (v4, v5, v6)).length 9) [(.live true true (flat c26 (loopF (S91_0 nr a0 a1) n (v4, v5, v6))))] [])) cx [] (.l B91_0 n :: K91_0) ⟨[.u, .u, .u, .u, .u, (.s 0 0 v4.length 9), (.s 1 0 v5.length 9), (iv v6), .u, .u, .u, .u, .u, .u, .u, .u, .u, .u, .u, .u, .u, .u, .u, .u, .u, .u, .u, .u, .u, .u, .u, .u, .u, .u, .u, .u, .u, .u, .u, .u, .u, .u, .u, .u, .u, .u, .u, .u, .u, .u, .u, .u, .u, .u, .u, .u, .u, .u, .u, .u, .u, .u, .u, .u, .u, .u, .u, .u, .u, .u, .u, .u, .u, .u, .u], [(.live true true (flat c26 v4)), (.live true true (flat c26 v5))]⟩ := by
  intro n
  induction n with
  | zero => intro v4 v5 v6 hi hn; exact absurd hn (Nat.not_lt_zero _)
  | succ n ih =>
    intro v4 v5 v6 hi hn
    refine good_round ?_
    cases h0 : (decide ((v6 : Int) < ((v5.length : Nat) : Int))) with
    | true =>
      have q0 := of_decide_eq_true h0
      have e : S91_0 nr a0 a1 (v4, v5, v6) = (.inl ((v4 ++ [((F118 (v5.getD (Int.toNat v6) default).1), (F117 (v5.getD (Int.toNat v6) default).1 (v5.getD (Int.toNat v6) default).2.1), (F117 (v5.getD (Int.toNat v6) default).2.2 (v5.getD (Int.toNat v6) default).1)), ((F117 (v5.getD (Int.toNat v6) default).1 (v5.getD (Int.toNat v6) default).2.1), (F118 (v5.getD (Int.toNat v6) default).2.1), (F117 (v5.getD (Int.toNat v6) default).2.1 (v5.getD (Int.toNat v6) default).2.2)), ((F117 (v5.getD (Int.toNat v6) default).2.2 (v5.getD (Int.toNat v6) default).1), (F117 (v5.getD (Int.toNat v6) default).2.1 (v5.getD (Int.toNat v6) default).2.2), (F118 (v5.getD (Int.toNat v6) default).2.2)), ((F117 (v5.getD (Int.toNat v6) default).1 (v5.getD (Int.toNat v6) default).2.1), (F117 (v5.getD (Int.toNat v6) default).2.1 (v5.getD (Int.toNat v6) default).2.2), (F117 (v5.getD (Int.toNat v6) default).2.2 (v5.getD (Int.toNat v6) default).1))]), v5, (v6 + 1))) := by simp only [S91_0, h0, cond_true, cond_false]
      rw [loopF_inl e]
      refine back_of (T := T0) hT hm (f := 5000) (orc := [.d true, .ld (k3 (v5.getD (Int.toNat v6) default).1), .ld (k3 (v5.getD (Int.toNat v6) default).2.1), .ld (k3 (v5.getD (Int.toNat v6) default).2.2), .call [] (.a (k3 (F117 (v5.getD (Int.toNat v6) default).1 (v5.getD (Int.toNat v6) default).2.1))) [], .call [] (.a (k3 (F117 (v5.getD (Int.toNat v6) default).2.1 (v5.getD (Int.toNat v6) default).2.2))) [], .call [] (.a (k3 (F117 (v5.getD (Int.toNat v6) default).2.2 (v5.getD (Int.toNat v6) default).1))) [], .call [] (.a (k3 (F118 (v5.getD (Int.toNat v6) default).1))) [], .call [] (.a (k3 (F118 (v5.getD (Int.toNat v6) default).2.1))) [], .call [] (.a (k3 (F118 (v5.getD (Int.toNat v6) default).2.2))) []]) [] [5, 6, 7] [9, 1] hcx (body := B91_0) (m := n) (k' := K91_0) (s' := ⟨[.u, .u, .u, .u, .u, (.s 0 0 (v4.length + 4) 9), (.s 1 0 v5.length 9), (iv (W (v6 + 1))), .u, .u, .u, .u, .u, .u, .u, .u, .u, .u, .u, .u, .u, .u, .u, .u, .u, .u, .u, .u, .u, .u, .u, .u, .u, .u, .u, .u, .u, .u, .u, .u, .u, .u, .u, .u, .u, .u, .u, .u, .u, .u, .u, .u, .u, .u, .u, .u, .u, .u, .u, .u, .u, .u, .u, .u, .u, .u, .u, .u, .u, .u, .u, .u, .u, .u, .u], [(.live true true (flat c26 v4 ++ [(iv (F118 (v5.getD (Int.toNat v6) default).1).1), (iv (F118 (v5.getD (Int.toNat v6) default).1).2.1), (iv (F118 (v5.getD (Int.toNat v6) default).1).2.2), (iv (F117 (v5.getD (Int.toNat v6) default).1 (v5.getD (Int.toNat v6) default).2.1).1), (iv (F117 (v5.getD (Int.toNat v6) default).1 (v5.getD (Int.toNat v6) default).2.1).2.1), (iv (F117 (v5.getD (Int.toNat v6) default).1 (v5.getD (Int.toNat v6) default).2.1).2.2), (iv (F117 (v5.getD (Int.toNat v6) default).2.2 (v5.getD (Int.toNat v6) default).1).1), (iv (F117 (v5.getD (Int.toNat v6) default).2.2 (v5.getD (Int.toNat v6) default).1).2.1), (iv (F117 (v5.getD (Int.toNat v6) default).2.2 (v5.getD (Int.toNat v6) default).1).2.2), (iv (F117 (v5.getD (Int.toNat v6) default).1 (v5.getD (Int.toNat v6) default).2.1).1), (iv (F117 (v5.getD (Int.toNat v6) default).1 (v5.getD (Int.toNat v6) default).2.1).2.1), (iv (F117 (v5.getD (Int.toNat v6) default).1 (v5.getD (Int.toNat v6) default).2.1).2.2), (iv (F118 (v5.getD (Int.toNat v6) default).2.1).1), (iv (F118 (v5.getD (Int.toNat v6) default).2.1).2.1), (iv (F118 (v5.getD (Int.toNat v6) default).2.1).2.2), (iv (F117 (v5.getD (Int.toNat v6) default).2.1 (v5.getD (Int.toNat v6) default).2.2).1), (iv (F117 (v5.getD (Int.toNat v6) default).2.1 (v5.getD (Int.toNat v6) default).2.2).2.1), (iv (F117 (v5.getD (Int.toNat v6) default).2.1 (v5.getD (Int.toNat v6) default).2.2).2.2), (iv (F117 (v5.getD (Int.toNat v6) default).2.2 (v5.getD (Int.toNat v6) default).1).1), (iv (F117 (v5.getD (Int.toNat v6) default).2.2 (v5.getD (Int.toNat v6) default).1).2.1), (iv (F117 (v5.getD (Int.toNat v6) default).2.2 (v5.getD (Int.toNat v6) default).1).2.2), (iv (F117 (v5.getD (Int.toNat v6) default).2.1 (v5.getD (Int.toNat v6) default).2.2).1), (iv (F117 (v5.getD (Int.toNat v6) default).2.1 (v5.getD (Int.toNat v6) default).2.2).2.1), (iv (F117 (v5.getD (Int.toNat v6) default).2.1 (v5.getD (Int.toNat v6) default).2.2).2.2), (iv (F118 (v5.getD (Int.toNat v6) default).2.2).1), (iv (F118 (v5.getD (Int.toNat v6) default).2.2).2.1), (iv (F118 (v5.getD (Int.toNat v6) default).2.2).2.2), (iv (F117 (v5.getD (Int.toNat v6) default).1 (v5.getD (Int.toNat v6) default).2.1).1), (iv (F117 (v5.getD (Int.toNat v6) default).1 (v5.getD (Int.toNat v6) default).2.1).2.1), (iv (F117 (v5.getD (Int.toNat v6) default).1 (v5.getD (Int.toNat v6) default).2.1).2.2), (iv (F117 (v5.getD (Int.toNat v6) default).2.1 (v5.getD (Int.toNat v6) default).2.2).1), (iv (F117 (v5.getD (Int.toNat v6) default).2.1 (v5.getD (Int.toNat v6) default).2.2).2.1), (iv (F117 (v5.getD (Int.toNat v6) default).2.1 (v5.getD (Int.toNat v6) default).2.2).2.2), (iv (F117 (v5.getD (Int.toNat v6) default).2.2 (v5.getD (Int.toNat v6) default).1).1), (iv (F117 (v5.getD (Int.toNat v6) default).2.2 (v5.getD (Int.toNat v6) default).1).2.1), (iv (F117 (v5.getD (Int.toNat v6) default).2.2 (v5.getD (Int.toNat v6) default).1).2.2)])), (.live true true (flat c26 v5))]⟩)
        (obs := [.eq (decide ((v6 : Int) < ((v5.length : Nat) : Int))) true, .pr (0 ≤ (v6 : Int) ∧ (v6 : Int) < ((v5.length : Nat) : Int)), .pr (((((flat c26 v5)).drop (0 + Int.toNat v6 * 9 + 0)).take 3) = (k3 (v5.getD (Int.toNat v6) default).1)), .pr (0 ≤ (v6 : Int) ∧ (v6 : Int) < ((v5.length : Nat) : Int)), .pr (((((flat c26 v5)).drop (0 + Int.toNat v6 * 9 + 3)).take 3) = (k3 (v5.getD (Int.toNat v6) default).2.1)), .pr (0 ≤ (v6 : Int) ∧ (v6 : Int) < ((v5.length : Nat) : Int)), .pr (((((flat c26 v5)).drop (0 + Int.toNat v6 * 9 + 6)).take 3) = (k3 (v5.getD (Int.toNat v6) default).2.2)), .call 117 [(.a (k3 (v5.getD (Int.toNat v6) default).1)), (.a (k3 (v5.getD (Int.toNat v6) default).2.1))] [] (.a (k3 (F117 (v5.getD (Int.toNat v6) default).1 (v5.getD (Int.toNat v6) default).2.1))) [], .call 117 [(.a (k3 (v5.getD (Int.toNat v6) default).2.1)), (.a (k3 (v5.getD (Int.toNat v6) default).2.2))] [] (.a (k3 (F117 (v5.getD (Int.toNat v6) default).2.1 (v5.getD (Int.toNat v6) default).2.2))) [], .call 117 [(.a (k3 (v5.getD (Int.toNat v6) default).2.2)), (.a (k3 (v5.getD (Int.toNat v6) default).1))] [] (.a (k3 (F117 (v5.getD (Int.toNat v6) default).2.2 (v5.getD (Int.toNat v6) default).1))) [], .call 118 [(.a (k3 (v5.getD (Int.toNat v6) default).1))] [] (.a (k3 (F118 (v5.getD (Int.toNat v6) default).1))) [], .call 118 [(.a (k3 (v5.getD (Int.toNat v6) default).2.1))] [] (.a (k3 (F118 (v5.getD (Int.toNat v6) default).2.1))) [], .call 118 [(.a (k3 (v5.getD (Int.toNat v6) default).2.2))] [] (.a (k3 (F118 (v5.getD (Int.toNat v6) default).2.2))) [], .pr ((flat c26 v4).length = v4.length * 9 ∧ v4.length + 4 ≤ 2 ^ 40 ∧ (v4.length + 4) * 72 ≤ 2 ^ 47)]) (by kernel_rfl) ⟨h0, (show 0 ≤ (v6 : Int) ∧ (v6 : Int) < ((v5.length : Nat) : Int) from by first | omega | (rw [W_eq] <;> omega) | exact u64_nn _), (ld_part c26_len default v5 v6 0 3 (by omega) (by decide) (by omega) rfl), (show 0 ≤ (v6 : Int) ∧ (v6 : Int) < ((v5.length : Nat) : Int) from by first | omega | (rw [W_eq] <;> omega) | exact u64_nn _), (ld_part c26_len default v5 v6 3 3 (by omega) (by decide) (by omega) rfl), (show 0 ≤ (v6 : Int) ∧ (v6 : Int) < ((v5.length : Nat) : Int) from by first | omega | (rw [W_eq] <;> omega) | exact u64_nn _), (ld_part c26_len default v5 v6 6 3 (by omega) (by decide) (by omega) rfl), (C117 (v5.getD (Int.toNat v6) default).1 (v5.getD (Int.toNat v6) default).2.1), (C117 (v5.getD (Int.toNat v6) default).2.1 (v5.getD (Int.toNat v6) default).2.2), (C117 (v5.getD (Int.toNat v6) default).2.2 (v5.getD (Int.toNat v6) default).1), (C118 (v5.getD (Int.toNat v6) default).1), (C118 (v5.getD (Int.toNat v6) default).2.1), (C118 (v5.getD (Int.toNat v6) default).2.2), (app_ok c26_len (by omega) (by omega)), trivial⟩ ?_
      have z0 : (W (v6 + 1)) = (v6 + 1) := W_eq (by omega) (by omega)
      have z1 : (flat c26 v4 ++ [(iv (F118 (v5.getD (Int.toNat v6) default).1).1), (iv (F118 (v5.getD (Int.toNat v6) default).1).2.1), (iv (F118 (v5.getD (Int.toNat v6) default).1).2.2), (iv (F117 (v5.getD (Int.toNat v6) default).1 (v5.getD (Int.toNat v6) default).2.1).1), (iv (F117 (v5.getD (Int.toNat v6) default).1 (v5.getD (Int.toNat v6) default).2.1).2.1), (iv (F117 (v5.getD (Int.toNat v6) default).1 (v5.getD (Int.toNat v6) default).2.1).2.2), (iv (F117 (v5.getD (Int.toNat v6) default).2.2 (v5.getD (Int.toNat v6) default).1).1), (iv (F117 (v5.getD (Int.toNat v6) default).2.2 (v5.getD (Int.toNat v6) default).1).2.1), (iv (F117 (v5.getD (Int.toNat v6) default).2.2 (v5.getD (Int.toNat v6) default).1).2.2), (iv (F117 (v5.getD (Int.toNat v6) default).1 (v5.getD (Int.toNat v6) default).2.1).1), (iv (F117 (v5.getD (Int.toNat v6) default).1 (v5.getD (Int.toNat v6) default).2.1).2.1), (iv (F117 (v5.getD (Int.toNat v6) default).1 (v5.getD (Int.toNat v6) default).2.1).2.2), (iv (F118 (v5.getD (Int.toNat v6) default).2.1).1), (iv (F118 (v5.getD (Int.toNat v6) default).2.1).2.1), (iv (F118 (v5.getD (Int.toNat v6) default).2.1).2.2), (iv (F117 (v5.getD (Int.toNat v6) default).2.1 (v5.getD (Int.toNat v6) default).2.2).1), (iv (F117 (v5.getD (Int.toNat v6) default).2.1 (v5.getD (Int.toNat v6) default).2.2).2.1), (iv (F117 (v5.getD (Int.toNat v6) default).2.1 (v5.getD (Int.toNat v6) default).2.2).2.2), (iv (F117 (v5.getD (Int.toNat v6) default).2.2 (v5.getD (Int.toNat v6) default).1).1), (iv (F117 (v5.getD (Int.toNat v6) default).2.2 (v5.getD (Int.toNat v6) default).1).2.1), (iv (F117 (v5.getD (Int.toNat v6) default).2.2 (v5.getD (Int.toNat v6) default).1).2.2), (iv (F117 (v5.getD (Int.toNat v6) default).2.1 (v5.getD (Int.toNat v6) default).2.2).1), (iv (F117 (v5.getD (Int.toNat v6) default).2.1 (v5.getD (Int.toNat v6) default).2.2).2.1), (iv (F117 (v5.getD (Int.toNat v6) default).2.1 (v5.getD (Int.toNat v6) default).2.2).2.2), (iv (F118 (v5.getD (Int.toNat v6) default).2.2).1), (iv (F118 (v5.getD (Int.toNat v6) default).2.2).2.1), (iv (F118 (v5.getD (Int.toNat v6) default).2.2).2.2), (iv (F117 (v5.getD (Int.toNat v6) default).1 (v5.getD (Int.toNat v6) default).2.1).1), (iv (F117 (v5.getD (Int.toNat v6) default).1 (v5.getD (Int.toNat v6) default).2.1).2.1), (iv (F117 (v5.getD (Int.toNat v6) default).1 (v5.getD (Int.toNat v6) default).2.1).2.2), (iv (F117 (v5.getD (Int.toNat v6) default).2.1 (v5.getD (Int.toNat v6) default).2.2).1), (iv (F117 (v5.getD (Int.toNat v6) default).2.1 (v5.getD (Int.toNat v6) default).2.2).2.1), (iv (F117 (v5.getD (Int.toNat v6) default).2.1 (v5.getD (Int.toNat v6) default).2.2).2.2), (iv (F117 (v5.getD (Int.toNat v6) default).2.2 (v5.getD (Int.toNat v6) default).1).1), (iv (F117 (v5.getD (Int.toNat v6) default).2.2 (v5.getD (Int.toNat v6) default).1).2.1), (iv (F117 (v5.getD (Int.toNat v6) default).2.2 (v5.getD (Int.toNat v6) default).1).2.2)]) = (flat c26 (v4 ++ [((F118 (v5.getD (Int.toNat v6) default).1), (F117 (v5.getD (Int.toNat v6) default).1 (v5.getD (Int.toNat v6) default).2.1), (F117 (v5.getD (Int.toNat v6) default).2.2 (v5.getD (Int.toNat v6) default).1)), ((F117 (v5.getD (Int.toNat v6) default).1 (v5.getD (Int.toNat v6) default).2.1), (F118 (v5.getD (Int.toNat v6) default).2.1), (F117 (v5.getD (Int.toNat v6) default).2.1 (v5.getD (Int.toNat v6) default).2.2)), ((F117 (v5.getD (Int.toNat v6) default).2.2 (v5.getD (Int.toNat v6) default).1), (F117 (v5.getD (Int.toNat v6) default).2.1 (v5.getD (Int.toNat v6) default).2.2), (F118 (v5.getD (Int.toNat v6) default).2.2)), ((F117 (v5.getD (Int.toNat v6) default).1 (v5.getD (Int.toNat v6) default).2.1), (F117 (v5.getD (Int.toNat v6) default).2.1 (v5.getD (Int.toNat v6) default).2.2), (F117 (v5.getD (Int.toNat v6) default).2.2 (v5.getD (Int.toNat v6) default).1))])) := (flat_append (c := c26) (l := v4) (m := [((F118 (v5.getD (Int.toNat v6) default).1), (F117 (v5.getD (Int.toNat v6) default).1 (v5.getD (Int.toNat v6) default).2.1), (F117 (v5.getD (Int.toNat v6) default).2.2 (v5.getD (Int.toNat v6) default).1)), ((F117 (v5.getD (Int.toNat v6) default).1 (v5.getD (Int.toNat v6) default).2.1), (F118 (v5.getD (Int.toNat v6) default).2.1), (F117 (v5.getD (Int.toNat v6) default).2.1 (v5.getD (Int.toNat v6) default).2.2)), ((F117 (v5.getD (Int.toNat v6) default).2.2 (v5.getD (Int.toNat v6) default).1), (F117 (v5.getD (Int.toNat v6) default).2.1 (v5.getD (Int.toNat v6) default).2.2), (F118 (v5.getD (Int.toNat v6) default).2.2)), ((F117 (v5.getD (Int.toNat v6) default).1 (v5.getD (Int.toNat v6) default).2.1), (F117 (v5.getD (Int.toNat v6) default).2.1 (v5.getD (Int.toNat v6) default).2.2), (F117 (v5.getD (Int.toNat v6) default).2.2 (v5.getD (Int.toNat v6) default).1))])).symm
      have z2 : (v4.length + 4) = (v4 ++ [((F118 (v5.getD (Int.toNat v6) default).1), (F117 (v5.getD (Int.toNat v6) default).1 (v5.getD (Int.toNat v6) default).2.1), (F117 (v5.getD (Int.toNat v6) default).2.2 (v5.getD (Int.toNat v6) default).1)), ((F117 (v5.getD (Int.toNat v6) default).1 (v5.getD (Int.toNat v6) default).2.1), (F118 (v5.getD (Int.toNat v6) default).2.1), (F117 (v5.getD (Int.toNat v6) default).2.1 (v5.getD (Int.toNat v6) default).2.2)), ((F117 (v5.getD (Int.toNat v6) default).2.2 (v5.getD (Int.toNat v6) default).1), (F117 (v5.getD (Int.toNat v6) default).2.1 (v5.getD (Int.toNat v6) default).2.2), (F118 (v5.getD (Int.toNat v6) default).2.2)), ((F117 (v5.getD (Int.toNat v6) default).1 (v5.getD (Int.toNat v6) default).2.1), (F117 (v5.getD (Int.toNat v6) default).2.1 (v5.getD (Int.toNat v6) default).2.2), (F117 (v5.getD (Int.toNat v6) default).2.2 (v5.getD (Int.toNat v6) default).1))]).length := len_app v4 [((F118 (v5.getD (Int.toNat v6) default).1), (F117 (v5.getD (Int.toNat v6) default).1 (v5.getD (Int.toNat v6) default).2.1), (F117 (v5.getD (Int.toNat v6) default).2.2 (v5.getD (Int.toNat v6) default).1)), ((F117 (v5.getD (Int.toNat v6) default).1 (v5.getD (Int.toNat v6) default).2.1), (F118 (v5.getD (Int.toNat v6) default).2.1), (F117 (v5.getD (Int.toNat v6) default).2.1 (v5.getD (Int.toNat v6) default).2.2)), ((F117 (v5.getD (Int.toNat v6) default).2.2 (v5.getD (Int.toNat v6) default).1), (F117 (v5.getD (Int.toNat v6) default).2.1 (v5.getD (Int.toNat v6) default).2.2), (F118 (v5.getD (Int.toNat v6) default).2.2)), ((F117 (v5.getD (Int.toNat v6) default).1 (v5.getD (Int.toNat v6) default).2.1), (F117 (v5.getD (Int.toNat v6) default).2.1 (v5.getD (Int.toNat v6) default).2.2), (F117 (v5.getD (Int.toNat v6) default).2.2 (v5.getD (Int.toNat v6) default).1))] rfl
      rw [z0, z1, z2]
      exact ih (v4 ++ [((F118 (v5.getD (Int.toNat v6) default).1), (F117 (v5.getD (Int.toNat v6) default).1 (v5.getD (Int.toNat v6) default).2.1), (F117 (v5.getD (Int.toNat v6) default).2.2 (v5.getD (Int.toNat v6) default).1)), ((F117 (v5.getD (Int.toNat v6) default).1 (v5.getD (Int.toNat v6) default).2.1), (F118 (v5.getD (Int.toNat v6) default).2.1), (F117 (v5.getD (Int.toNat v6) default).2.1 (v5.getD (Int.toNat v6) default).2.2)), ((F117 (v5.getD (Int.toNat v6) default).2.2 (v5.getD (Int.toNat v6) default).1), (F117 (v5.getD (Int.toNat v6) default).2.1 (v5.getD (Int.toNat v6) default).2.2), (F118 (v5.getD (Int.toNat v6) default).2.2)), ((F117 (v5.getD (Int.toNat v6) default).1 (v5.getD (Int.toNat v6) default).2.1), (F117 (v5.getD (Int.toNat v6) default).2.1 (v5.getD (Int.toNat v6) default).2.2), (F117 (v5.getD (Int.toNat v6) default).2.2 (v5.getD (Int.toNat v6) default).1))]) v5 (v6 + 1) (by refine ⟨?_, ?_, ?_, ?_⟩ <;> (try simp only [List.length_append, List.length_cons, List.length_nil, Int.toNat_zero]) <;> first | omega | simp) (by (try simp only [List.length_append, List.length_cons, List.length_nil, Int.toNat_zero]); omega)
    | false =>
      have q0 := of_decide_eq_false h0
      have e : S91_0 nr a0 a1 (v4, v5, v6) = (.inr v4) := by simp only [S91_0, h0, cond_true, cond_false]
      rw [show loopF (S91_0 nr a0 a1) (n + 1) (v4, v5, v6) = thenF (S91_0 nr a0 a1) n (S91_0 nr a0 a1 (v4, v5, v6)) from rfl, e]
      exact ret_of (T := T0) hT hm (f := 5000) (orc := [.d false]) [] [] [0] hcx
        (obs := [.eq (decide ((v6 : Int) < ((v5.length : Nat) : Int))) false]) (by kernel_rfl) ⟨h0, trivial⟩

theorem Cr91 : ∀ (nr : Nat) (a0 : (Int × Int × Int) × (Int × Int × Int) × Int × Int × Int) (a1 : Int) (ha : 0 ≤ a1 ∧ a1 ≤ 3), Int.toNat a1 < nr → Con Try.prog 91 [(.a (k9 a0)), (iv a1)] [] (.s 0 0 (R91 nr a0 a1).length 9) [(.live true true (flat c26 (R91 nr a0 a1)))] := by
  intro nr
  induction nr with
  | zero => intro a0 a1 ha hlt; exact absurd hlt (Nat.not_lt_zero _)
  | succ nr ihr =>
  intro a0 a1 ha hlt
  cases h0 : ((a1 : Int) == 0) with
  | true =>
    have q0 := eq_of_beq h0
    have hpl : a1 ≠ 0 → (R91 nr a0 (W (a1 - 1))).length ≤ 64 := fun h => R8_le nr a0 _ (pa_d h ha).1 (by have := (pa_d h ha).2; omega)
    have e : (R91 (nr + 1) a0 a1) = ([a0] : List ((Int × Int × Int) × (Int × Int × Int) × Int × Int × Int)) := by simp only [R91, h0, cond_true, cond_false]
    rw [e]
    refine con_of (n := 9) Try.func91 rfl (ent Try.func91 (by kernel_rfl) rfl) (by show 2 ≤ Try.f91.ntmps; decide) (by kernel_rfl) trivial (fun cx hcx => ?_)
    exact ret_of (T := T0) hT hm (f := 5000) (orc := [.d true]) [.sym 1 true] [] [1] hcx
      (obs := [.eq ((a1 : Int) == 0) true]) (by kernel_rfl) ⟨h0, trivial⟩
  | false =>
    have q0 := ne_of_beq_false h0
    have hpl : a1 ≠ 0 → (R91 nr a0 (W (a1 - 1))).length ≤ 64 := fun h => R8_le nr a0 _ (pa_d h ha).1 (by have := (pa_d h ha).2; omega)
    have e : (R91 (nr + 1) a0 a1) = (loopF (S91_0 nr a0 a1) (Int.toNat ((((R91 nr a0 (W (a1 - 1))).length : Nat) : Int) - 0) + 1) (([] : List ((Int × Int × Int) × (Int × Int × Int) × Int × Int × Int)), (R91 nr a0 (W (a1 - 1))), 0)) := by simp only [R91, h0, cond_true, cond_false]
    rw [e]
    refine con_of (n := 9) Try.func91 rfl (ent Try.func91 (by kernel_rfl) rfl) (by show 2 ≤ Try.f91.ntmps; decide) (by kernel_rfl) trivial (fun cx hcx => ?_)
    refine enter_of (T := T0) hT hm (f := 5000) (orc := [.d false, .call [] (.s 0 0 (R91 nr a0 (W (a1 - 1))).length 9) [(.live true true (flat c26 (R91 nr a0 (W (a1 - 1)))))]]) [.slot 5 9] [5, 6, 7] [2, 1] hcx (body := B91_0) (k' := K91_0) (s' := ⟨[.u, .u, .u, .u, .u, (.s 0 0 0 9), (.s 1 0 (R91 nr a0 (W (a1 - 1))).length 9), (iv 0), .u, .u, .u, .u, .u, .u, .u, .u, .u, .u, .u, .u, .u, .u, .u, .u, .u, .u, .u, .u, .u, .u, .u, .u, .u, .u, .u, .u, .u, .u, .u, .u, .u, .u, .u, .u, .u, .u, .u, .u, .u, .u, .u, .u, .u, .u, .u, .u, .u, .u, .u, .u, .u, .u, .u, .u, .u, .u, .u, .u, .u, .u, .u, .u, .u, .u, .u], [(.live true true (flat c26 ([] : List ((Int × Int × Int) × (Int × Int × Int) × Int × Int × Int)))), (.live true true (flat c26 (R91 nr a0 (W (a1 - 1)))))]⟩)
      (obs := [.eq ((a1 : Int) == 0) false, .call 91 [(.a (k9 a0)), (iv (W (a1 - 1)))] [] (.s 0 0 (R91 nr a0 (W (a1 - 1))).length 9) [(.live true true (flat c26 (R91 nr a0 (W (a1 - 1)))))]]) (by kernel_rfl) ⟨h0, (ihr a0 (W (a1 - 1))  (pa_d (ne_of_beq_false h0) ha).1 (by have := (pa_d (ne_of_beq_false h0) ha).2; omega)), trivial⟩ ⟨Int.toNat ((((R91 nr a0 (W (a1 - 1))).length : Nat) : Int) - 0) + 1, ?_⟩
    exact L91_0 nr a0 a1 ha hlt ihr hcx (Int.toNat ((((R91 nr a0 (W (a1 - 1))).length : Nat) : Int) - 0) + 1) ([] : List ((Int × Int × Int) × (Int × Int × Int) × Int × Int × Int)) (R91 nr a0 (W (a1 - 1))) 0 (by refine ⟨?_, ?_, ?_, ?_⟩ <;> (try simp only [List.length_append, List.length_cons, List.length_nil, Int.toNat_zero]) <;> first | omega | simp) (by (try simp only [List.length_append, List.length_cons, List.length_nil, Int.toNat_zero]); omega)

theorem C91 (a0 : (Int × Int × Int) × (Int × Int × Int) × Int × Int × Int) (a1 : Int) (ha : 0 ≤ a1 ∧ a1 ≤ 3) : Con Try.prog 91 [(.a (k9 a0)), (iv a1)] [] (.s 0 0 (F91 a0 a1).length 9) [(.live true true (flat c26 (F91 a0 a1)))] := Cr91 (Int.toNat a1 + 1) a0 a1 ha (Nat.lt_succ_self _)

end Go.Proofs.Ytopbnnmkdildgaa

namespace Go.Proofs.Ytopbnnmkdildgaa
open Go.Proofs Go.Aw Go.RowKit
set_option maxRecDepth 100000
set_option linter.unusedVariables false
set_option linter.unusedSimpArgs false

/-- (facet/sound.shell).gives -/
def F89 (a0 : Int × Int × Int) (a1 : Int) (a2 : Int) : (Int × Int) × Int :=
  (bif (decide ((a2 : Int) ≤ a0.1)) then
   ((0, 0), 0)
  else
   (bif (decide ((a1 : Int) > a0.2.1)) then
    ((0, 0), 0)
   else
    (bif (decide ((a1 : Int) > a0.1)) then
     (bif (((if (a1 : Int) < a0.1 then a0.1 else a1) : Int) == 0) then
      ((0, 0), 10)
     else
      (bif (((F81 (if (a1 : Int) < a0.1 then a0.1 else a1) a0.2.2).2 : Int) != 0) then
       ((0, (F81 (if (a1 : Int) < a0.1 then a0.1 else a1) a0.2.2).1.2), (F81 (if (a1 : Int) < a0.1 then a0.1 else a1) a0.2.2).2)
      else
       (bif (!(decide ((a2 : Int) ≤ a0.2.1))) then
        ((0, (F81 (if (a1 : Int) < a0.1 then a0.1 else a1) a0.2.2).1.2), (F81 (if (a1 : Int) < a0.1 then a0.1 else a1) a0.2.2).2)
       else
        (((F81 a2 a0.2.2).1.1, (F81 (if (a1 : Int) < a0.1 then a0.1 else a1) a0.2.2).1.2), (F81 a2 a0.2.2).2))))
    else
     (bif (((if (a1 : Int) < a0.1 then a0.1 else a1) : Int) == 0) then
      ((0, 0), 10)
     else
      (bif (((F81 (if (a1 : Int) < a0.1 then a0.1 else a1) a0.2.2).2 : Int) != 0) then
       ((0, (F81 (if (a1 : Int) < a0.1 then a0.1 else a1) a0.2.2).1.2), (F81 (if (a1 : Int) < a0.1 then a0.1 else a1) a0.2.2).2)
      else
       ((0, (F81 (if (a1 : Int) < a0.1 then a0.1 else a1) a0.2.2).1.2), (F81 (if (a1 : Int) < a0.1 then a0.1 else a1) a0.2.2).2))))))

noncomputable def oC89_0 (a0 : Int × Int × Int) (a1 : Int) : Ob := .eq (((if (a1 : Int) < a0.1 then a0.1 else a1) : Int) == 0) false
theorem C89 (a0 : Int × Int × Int) (a1 : Int) (a2 : Int) : Con Try.prog 89 [(.a (k3 a0)), (iv a1), (iv a2)] [] (.t [(.a (k2 (F89 a0 a1 a2).1)), (iv (F89 a0 a1 a2).2)]) [] := by
  cases h0 : (decide ((a2 : Int) ≤ a0.1)) with
  | true =>
    have q0 := of_decide_eq_true h0
    have e : (F89 a0 a1 a2) = ((0, 0), 0) := by simp only [F89, h0, cond_true, cond_false]
    rw [e]
    refine con_of (n := 9) Try.func89 rfl (ent Try.func89 (by kernel_rfl) rfl) (by show 3 ≤ Try.f89.ntmps; decide) (by kernel_rfl) trivial (fun cx hcx => ?_)
    exact ret_of (T := T0) hT hm (f := 5000) (orc := [.d true]) [] [] [] hcx
      (obs := [.eq (decide ((a2 : Int) ≤ a0.1)) true]) (by kernel_rfl) ⟨h0, trivial⟩
  | false =>
    cases h1 : (decide ((a1 : Int) > a0.2.1)) with
    | true =>
      have q0 := of_decide_eq_false h0
      have q1 := of_decide_eq_true h1
      have e : (F89 a0 a1 a2) = ((0, 0), 0) := by simp only [F89, h0, h1, cond_true, cond_false]
      rw [e]
      refine con_of (n := 9) Try.func89 rfl (ent Try.func89 (by kernel_rfl) rfl) (by show 3 ≤ Try.f89.ntmps; decide) (by kernel_rfl) trivial (fun cx hcx => ?_)
      exact ret_of (T := T0) hT hm (f := 5000) (orc := [.d false, .d true]) [] [] [] hcx
        (obs := [.eq (decide ((a2 : Int) ≤ a0.1)) false, .eq (decide ((a1 : Int) > a0.2.1)) true]) (by kernel_rfl) ⟨h0, h1, trivial⟩
    | false =>
      cases h2 : (decide ((a1 : Int) > a0.1)) with
      | true =>
        cases h3 : (((if (a1 : Int) < a0.1 then a0.1 else a1) : Int) == 0) with
        | true =>
          have q0 := of_decide_eq_false h0
          have q1 := of_decide_eq_false h1
          have q2 := of_decide_eq_true h2
          have q3 := eq_of_beq h3
          have e : (F89 a0 a1 a2) = ((0, 0), 10) := by simp only [F89, h0, h1, h2, h3, cond_true, cond_false]
          rw [e]
          refine con_of (n := 9) Try.func89 rfl (ent Try.func89 (by kernel_rfl) rfl) (by show 3 ≤ Try.f89.ntmps; decide) (by kernel_rfl) trivial (fun cx hcx => ?_)
          exact ret_of (T := T0) hT hm (f := 5000) (orc := [.d false, .d false, .d true, .d true]) [] [] [] hcx
            (obs := [.eq (decide ((a2 : Int) ≤ a0.1)) false, .eq (decide ((a1 : Int) > a0.2.1)) false, .eq (decide ((a1 : Int) > a0.1)) true, .eq (((if (a1 : Int) < a0.1 then a0.1 else a1) : Int) == 0) true]) (by kernel_rfl) ⟨h0, h1, h2, h3, trivial⟩
        | false =>
          cases h4 : (((F81 (if (a1 : Int) < a0.1 then a0.1 else a1) a0.2.2).2 : Int) != 0) with
          | true =>
            have q0 := of_decide_eq_false h0
            have q1 := of_decide_eq_false h1
            have q2 := of_decide_eq_true h2
            have q3 := ne_of_beq_false h3
            have q4 := bne_iff_ne.1 h4
            obtain ⟨u0, hu0⟩ : ∃ u, u = (F81 (if (a1 : Int) < a0.1 then a0.1 else a1) a0.2.2) := ⟨_, rfl⟩
            have e : (F89 a0 a1 a2) = ((0, u0.1.2), u0.2) := by subst hu0; simp only [F89, h0, h1, h2, h3, h4, cond_true, cond_false]
            rw [e]
            refine con_of (n := 9) Try.func89 rfl (ent Try.func89 (by kernel_rfl) rfl) (by show 3 ≤ Try.f89.ntmps; decide) (by kernel_rfl) trivial (fun cx hcx => ?_)
            exact ret_of (T := T0) hT hm (f := 5000) (orc := [.d false, .d false, .d true, .d false, .call [] (.t [(.a [(iv u0.1.1), (iv u0.1.2)]), (iv u0.2)]) [], .d true]) [] [] [] hcx
              (obs := [.eq (decide ((a2 : Int) ≤ a0.1)) false, .eq (decide ((a1 : Int) > a0.2.1)) false, .eq (decide ((a1 : Int) > a0.1)) true, (oC89_0 a0 a1), .call 81 [(iv (if (a1 : Int) < a0.1 then a0.1 else a1)), (iv a0.2.2)] [] (.t [(.a [(iv u0.1.1), (iv u0.1.2)]), (iv u0.2)]) [], .eq ((u0.2 : Int) != 0) true]) (by kernel_rfl) (by subst hu0; exact ⟨h0, h1, h2, h3, (C81 (if (a1 : Int) < a0.1 then a0.1 else a1) a0.2.2), h4, trivial⟩)
          | false =>
            cases h5 : (!(decide ((a2 : Int) ≤ a0.2.1))) with
            | true =>
              have q0 := of_decide_eq_false h0
              have q1 := of_decide_eq_false h1
              have q2 := of_decide_eq_true h2
              have q3 := ne_of_beq_false h3
              have q4 := bne_eq_false_iff_eq.1 h4
              obtain ⟨u0, hu0⟩ : ∃ u, u = (F81 (if (a1 : Int) < a0.1 then a0.1 else a1) a0.2.2) := ⟨_, rfl⟩
              have e : (F89 a0 a1 a2) = ((0, u0.1.2), u0.2) := by subst hu0; simp only [F89, h0, h1, h2, h3, h4, h5, cond_true, cond_false]
              rw [e]
              refine con_of (n := 9) Try.func89 rfl (ent Try.func89 (by kernel_rfl) rfl) (by show 3 ≤ Try.f89.ntmps; decide) (by kernel_rfl) trivial (fun cx hcx => ?_)
              exact ret_of (T := T0) hT hm (f := 5000) (orc := [.d false, .d false, .d true, .d false, .call [] (.t [(.a [(iv u0.1.1), (iv u0.1.2)]), (iv u0.2)]) [], .d false, .d true]) [] [] [] hcx
                (obs := [.eq (decide ((a2 : Int) ≤ a0.1)) false, .eq (decide ((a1 : Int) > a0.2.1)) false, .eq (decide ((a1 : Int) > a0.1)) true, (oC89_0 a0 a1), .call 81 [(iv (if (a1 : Int) < a0.1 then a0.1 else a1)), (iv a0.2.2)] [] (.t [(.a [(iv u0.1.1), (iv u0.1.2)]), (iv u0.2)]) [], .eq ((u0.2 : Int) != 0) false, .eq (!(decide ((a2 : Int) ≤ a0.2.1))) true]) (by kernel_rfl) (by subst hu0; exact ⟨h0, h1, h2, h3, (C81 (if (a1 : Int) < a0.1 then a0.1 else a1) a0.2.2), h4, h5, trivial⟩)
            | false =>
              have q0 := of_decide_eq_false h0
              have q1 := of_decide_eq_false h1
              have q2 := of_decide_eq_true h2
              have q3 := ne_of_beq_false h3
              have q4 := bne_eq_false_iff_eq.1 h4
              obtain ⟨u0, hu0⟩ : ∃ u, u = (F81 (if (a1 : Int) < a0.1 then a0.1 else a1) a0.2.2) := ⟨_, rfl⟩
              obtain ⟨u1, hu1⟩ : ∃ u, u = (F81 a2 a0.2.2) := ⟨_, rfl⟩
              have e : (F89 a0 a1 a2) = ((u1.1.1, u0.1.2), u1.2) := by subst hu1; subst hu0; simp only [F89, h0, h1, h2, h3, h4, h5, cond_true, cond_false]
              rw [e]
              refine con_of (n := 9) Try.func89 rfl (ent Try.func89 (by kernel_rfl) rfl) (by show 3 ≤ Try.f89.ntmps; decide) (by kernel_rfl) trivial (fun cx hcx => ?_)
              exact ret_of (T := T0) hT hm (f := 5000) (orc := [.d false, .d false, .d true, .d false, .call [] (.t [(.a [(iv u0.1.1), (iv u0.1.2)]), (iv u0.2)]) [], .d false, .d false, .call [] (.t [(.a [(iv u1.1.1), (iv u1.1.2)]), (iv u1.2)]) []]) [] [] [] hcx
                (obs := [.eq (decide ((a2 : Int) ≤ a0.1)) false, .eq (decide ((a1 : Int) > a0.2.1)) false, .eq (decide ((a1 : Int) > a0.1)) true, (oC89_0 a0 a1), .call 81 [(iv (if (a1 : Int) < a0.1 then a0.1 else a1)), (iv a0.2.2)] [] (.t [(.a [(iv u0.1.1), (iv u0.1.2)]), (iv u0.2)]) [], .eq ((u0.2 : Int) != 0) false, .eq (!(decide ((a2 : Int) ≤ a0.2.1))) false, .call 81 [(iv a2), (iv a0.2.2)] [] (.t [(.a [(iv u1.1.1), (iv u1.1.2)]), (iv u1.2)]) []]) (by kernel_rfl) (by subst hu1; subst hu0; exact ⟨h0, h1, h2, h3, (C81 (if (a1 : Int) < a0.1 then a0.1 else a1) a0.2.2), h4, h5, (C81 a2 a0.2.2), trivial⟩)
      | false =>
        cases h3 : (((if (a1 : Int) < a0.1 then a0.1 else a1) : Int) == 0) with
        | true =>
          have q0 := of_decide_eq_false h0
          have q1 := of_decide_eq_false h1
          have q2 := of_decide_eq_false h2
          have q3 := eq_of_beq h3
          have e : (F89 a0 a1 a2) = ((0, 0), 10) := by simp only [F89, h0, h1, h2, h3, cond_true, cond_false]
          rw [e]
          refine con_of (n := 9) Try.func89 rfl (ent Try.func89 (by kernel_rfl) rfl) (by show 3 ≤ Try.f89.ntmps; decide) (by kernel_rfl) trivial (fun cx hcx => ?_)
          exact ret_of (T := T0) hT hm (f := 5000) (orc := [.d false, .d false, .d false, .d true]) [] [] [] hcx
            (obs := [.eq (decide ((a2 : Int) ≤ a0.1)) false, .eq (decide ((a1 : Int) > a0.2.1)) false, .eq (decide ((a1 : Int) > a0.1)) false, .eq (((if (a1 : Int) < a0.1 then a0.1 else a1) : Int) == 0) true]) (by kernel_rfl) ⟨h0, h1, h2, h3, trivial⟩
        | false =>
          cases h4 : (((F81 (if (a1 : Int) < a0.1 then a0.1 else a1) a0.2.2).2 : Int) != 0) with
          | true =>
            have q0 := of_decide_eq_false h0
            have q1 := of_decide_eq_false h1
            have q2 := of_decide_eq_false h2
            have q3 := ne_of_beq_false h3
            have q4 := bne_iff_ne.1 h4
            obtain ⟨u0, hu0⟩ : ∃ u, u = (F81 (if (a1 : Int) < a0.1 then a0.1 else a1) a0.2.2) := ⟨_, rfl⟩
            have e : (F89 a0 a1 a2) = ((0, u0.1.2), u0.2) := by subst hu0; simp only [F89, h0, h1, h2, h3, h4, cond_true, cond_false]
            rw [e]
            refine con_of (n := 9) Try.func89 rfl (ent Try.func89 (by kernel_rfl) rfl) (by show 3 ≤ Try.f89.ntmps; decide) (by kernel_rfl) trivial (fun cx hcx => ?_)
            exact ret_of (T := T0) hT hm (f := 5000) (orc := [.d false, .d false, .d false, .d false, .call [] (.t [(.a [(iv u0.1.1), (iv u0.1.2)]), (iv u0.2)]) [], .d true]) [] [] [] hcx
              (obs := [.eq (decide ((a2 : Int) ≤ a0.1)) false, .eq (decide ((a1 : Int) > a0.2.1)) false, .eq (decide ((a1 : Int) > a0.1)) false, (oC89_0 a0 a1), .call 81 [(iv (if (a1 : Int) < a0.1 then a0.1 else a1)), (iv a0.2.2)] [] (.t [(.a [(iv u0.1.1), (iv u0.1.2)]), (iv u0.2)]) [], .eq ((u0.2 : Int) != 0) true]) (by kernel_rfl) (by subst hu0; exact ⟨h0, h1, h2, h3, (C81 (if (a1 : Int) < a0.1 then a0.1 else a1) a0.2.2), h4, trivial⟩)
          | false =>
            have q0 := of_decide_eq_false h0
            have q1 := of_decide_eq_false h1
            have q2 := of_decide_eq_false h2
            have q3 := ne_of_beq_false h3
            have q4 := bne_eq_false_iff_eq.1 h4
            obtain ⟨u0, hu0⟩ : ∃ u, u = (F81 (if (a1 : Int) < a0.1 then a0.1 else a1) a0.2.2) := ⟨_, rfl⟩
            have e : (F89 a0 a1 a2) = ((0, u0.1.2), u0.2) := by subst hu0; simp only [F89, h0, h1, h2, h3, h4, cond_true, cond_false]
            rw [e]
            refine con_of (n := 9) Try.func89 rfl (ent Try.func89 (by kernel_rfl) rfl) (by show 3 ≤ Try.f89.ntmps; decide) (by kernel_rfl) trivial (fun cx hcx => ?_)
            exact ret_of (T := T0) hT hm (f := 5000) (orc := [.d false, .d false, .d false, .d false, .call [] (.t [(.a [(iv u0.1.1), (iv u0.1.2)]), (iv u0.2)]) [], .d false]) [] [] [] hcx
              (obs := [.eq (decide ((a2 : Int) ≤ a0.1)) false, .eq (decide ((a1 : Int) > a0.2.1)) false, .eq (decide ((a1 : Int) > a0.1)) false, (oC89_0 a0 a1), .call 81 [(iv (if (a1 : Int) < a0.1 then a0.1 else a1)), (iv a0.2.2)] [] (.t [(.a [(iv u0.1.1), (iv u0.1.2)]), (iv u0.2)]) [], .eq ((u0.2 : Int) != 0) false]) (by kernel_rfl) (by subst hu0; exact ⟨h0, h1, h2, h3, (C81 (if (a1 : Int) < a0.1 then a0.1 else a1) a0.2.2), h4, trivial⟩)

/-- facet/facetref08.share -/
def F92 (a0 : (Int × Int × Int) × (Int × Int × Int) × Int × Int × Int) (a1 : Int × Int × Int) (a2 : Int) (a3 : Int) (a4 : Int) : (Int × Int) × Int :=
  (bif (decide (((F58 a0 a1) : Int) ≤ a2)) then
   ((0, 0), 0)
  else
   (bif (decide (((F56 a0 a1) : Int) > a3)) then
    ((0, 0), 0)
   else
    (bif (((if ((F56 a0 a1) : Int) < a2 then a2 else (F56 a0 a1)) : Int) == 0) then
     ((0, 0), 10)
    else
     (bif (((F119 (if ((F56 a0 a1) : Int) < a2 then a2 else (F56 a0 a1)) a4).2 : Int) != 0) then
      ((0, (F119 (if ((F56 a0 a1) : Int) < a2 then a2 else (F56 a0 a1)) a4).1.2), (F119 (if ((F56 a0 a1) : Int) < a2 then a2 else (F56 a0 a1)) a4).2)
     else
      (bif (decide (((F56 a0 a1) : Int) ≤ a2)) then
       ((0, (F119 (if ((F56 a0 a1) : Int) < a2 then a2 else (F56 a0 a1)) a4).1.2), (F119 (if ((F56 a0 a1) : Int) < a2 then a2 else (F56 a0 a1)) a4).2)
      else
       (bif (decide (((F58 a0 a1) : Int) > a3)) then
        ((0, (F119 (if ((F56 a0 a1) : Int) < a2 then a2 else (F56 a0 a1)) a4).1.2), (F119 (if ((F56 a0 a1) : Int) < a2 then a2 else (F56 a0 a1)) a4).2)
       else
        (((F119 (F58 a0 a1) a4).1.1, (F119 (if ((F56 a0 a1) : Int) < a2 then a2 else (F56 a0 a1)) a4).1.2), (F119 (F58 a0 a1) a4).2)))))))

theorem C92 (a0 : (Int × Int × Int) × (Int × Int × Int) × Int × Int × Int) (a1 : Int × Int × Int) (a2 : Int) (a3 : Int) (a4 : Int) : Con Try.prog 92 [(.a (k9 a0)), (.a (k3 a1)), (iv a2), (iv a3), (iv a4)] [] (.t [(.a (k2 (F92 a0 a1 a2 a3 a4).1)), (iv (F92 a0 a1 a2 a3 a4).2)]) [] := by
  cases h0 : (decide (((F58 a0 a1) : Int) ≤ a2)) with
  | true =>
    have q0 := of_decide_eq_true h0
    obtain ⟨u0, hu0⟩ : ∃ u, u = (F58 a0 a1) := ⟨_, rfl⟩
    obtain ⟨u1, hu1⟩ : ∃ u, u = (F56 a0 a1) := ⟨_, rfl⟩
    have e : (F92 a0 a1 a2 a3 a4) = ((0, 0), 0) := by subst hu1; subst hu0; simp only [F92, h0, cond_true, cond_false]
    rw [e]
    refine con_of (n := 9) Try.func92 rfl (ent Try.func92 (by kernel_rfl) rfl) (by show 5 ≤ Try.f92.ntmps; decide) (by kernel_rfl) trivial (fun cx hcx => ?_)
    exact ret_of (T := T0) hT hm (f := 5000) (orc := [.call [] (iv u0) [], .call [] (iv u1) [], .d true]) [] [] [] hcx
      (obs := [.call 58 [(.a (k9 a0)), (.a (k3 a1))] [] (iv u0) [], .call 56 [(.a (k9 a0)), (.a (k3 a1))] [] (iv u1) [], .eq (decide ((u0 : Int) ≤ a2)) true]) (by kernel_rfl) (by subst hu1; subst hu0; exact ⟨(C58 a0 a1), (C56 a0 a1), h0, trivial⟩)
  | false =>
    cases h1 : (decide (((F56 a0 a1) : Int) > a3)) with
    | true =>
      have q0 := of_decide_eq_false h0
      have q1 := of_decide_eq_true h1
      obtain ⟨u0, hu0⟩ : ∃ u, u = (F58 a0 a1) := ⟨_, rfl⟩
      obtain ⟨u1, hu1⟩ : ∃ u, u = (F56 a0 a1) := ⟨_, rfl⟩
      have e : (F92 a0 a1 a2 a3 a4) = ((0, 0), 0) := by subst hu1; subst hu0; simp only [F92, h0, h1, cond_true, cond_false]
      rw [e]
      refine con_of (n := 9) Try.func92 rfl (ent Try.func92 (by kernel_rfl) rfl) (by show 5 ≤ Try.f92.ntmps; decide) (by kernel_rfl) trivial (fun cx hcx => ?_)
      exact ret_of (T := T0) hT hm (f := 5000) (orc := [.call [] (iv u0) [], .call [] (iv u1) [], .d false, .d true]) [] [] [] hcx
        (obs := [.call 58 [(.a (k9 a0)), (.a (k3 a1))] [] (iv u0) [], .call 56 [(.a (k9 a0)), (.a (k3 a1))] [] (iv u1) [], .eq (decide ((u0 : Int) ≤ a2)) false, .eq (decide ((u1 : Int) > a3)) true]) (by kernel_rfl) (by subst hu1; subst hu0; exact ⟨(C58 a0 a1), (C56 a0 a1), h0, h1, trivial⟩)
    | false =>
      cases h2 : (((if ((F56 a0 a1) : Int) < a2 then a2 else (F56 a0 a1)) : Int) == 0) with
      | true =>
        have q0 := of_decide_eq_false h0
        have q1 := of_decide_eq_false h1
        have q2 := eq_of_beq h2
        obtain ⟨u0, hu0⟩ : ∃ u, u = (F58 a0 a1) := ⟨_, rfl⟩
        obtain ⟨u1, hu1⟩ : ∃ u, u = (F56 a0 a1) := ⟨_, rfl⟩
        have e : (F92 a0 a1 a2 a3 a4) = ((0, 0), 10) := by subst hu1; subst hu0; simp only [F92, h0, h1, h2, cond_true, cond_false]
        rw [e]
        refine con_of (n := 9) Try.func92 rfl (ent Try.func92 (by kernel_rfl) rfl) (by show 5 ≤ Try.f92.ntmps; decide) (by kernel_rfl) trivial (fun cx hcx => ?_)
        exact ret_of (T := T0) hT hm (f := 5000) (orc := [.call [] (iv u0) [], .call [] (iv u1) [], .d false, .d false, .d true]) [] [] [] hcx
          (obs := [.call 58 [(.a (k9 a0)), (.a (k3 a1))] [] (iv u0) [], .call 56 [(.a (k9 a0)), (.a (k3 a1))] [] (iv u1) [], .eq (decide ((u0 : Int) ≤ a2)) false, .eq (decide ((u1 : Int) > a3)) false, .eq (((if (u1 : Int) < a2 then a2 else u1) : Int) == 0) true]) (by kernel_rfl) (by subst hu1; subst hu0; exact ⟨(C58 a0 a1), (C56 a0 a1), h0, h1, h2, trivial⟩)
      | false =>
        cases h3 : (((F119 (if ((F56 a0 a1) : Int) < a2 then a2 else (F56 a0 a1)) a4).2 : Int) != 0) with
        | true =>
          have q0 := of_decide_eq_false h0
          have q1 := of_decide_eq_false h1
          have q2 := ne_of_beq_false h2
          have q3 := bne_iff_ne.1 h3
          obtain ⟨u0, hu0⟩ : ∃ u, u = (F58 a0 a1) := ⟨_, rfl⟩
          obtain ⟨u1, hu1⟩ : ∃ u, u = (F56 a0 a1) := ⟨_, rfl⟩
          obtain ⟨u2, hu2⟩ : ∃ u, u = (F119 (if (u1 : Int) < a2 then a2 else u1) a4) := ⟨_, rfl⟩
          have e : (F92 a0 a1 a2 a3 a4) = ((0, u2.1.2), u2.2) := by subst hu2; subst hu1; subst hu0; simp only [F92, h0, h1, h2, h3, cond_true, cond_false]
          rw [e]
          refine con_of (n := 9) Try.func92 rfl (ent Try.func92 (by kernel_rfl) rfl) (by show 5 ≤ Try.f92.ntmps; decide) (by kernel_rfl) trivial (fun cx hcx => ?_)
          exact ret_of (T := T0) hT hm (f := 5000) (orc := [.call [] (iv u0) [], .call [] (iv u1) [], .d false, .d false, .d false, .call [] (.t [(.a [(iv u2.1.1), (iv u2.1.2)]), (iv u2.2)]) [], .d true]) [] [] [] hcx
            (obs := [.call 58 [(.a (k9 a0)), (.a (k3 a1))] [] (iv u0) [], .call 56 [(.a (k9 a0)), (.a (k3 a1))] [] (iv u1) [], .eq (decide ((u0 : Int) ≤ a2)) false, .eq (decide ((u1 : Int) > a3)) false, .eq (((if (u1 : Int) < a2 then a2 else u1) : Int) == 0) false, .call 119 [(iv (if (u1 : Int) < a2 then a2 else u1)), (iv a4)] [] (.t [(.a [(iv u2.1.1), (iv u2.1.2)]), (iv u2.2)]) [], .eq ((u2.2 : Int) != 0) true]) (by kernel_rfl) (by subst hu2; subst hu1; subst hu0; exact ⟨(C58 a0 a1), (C56 a0 a1), h0, h1, h2, (C119 (if ((F56 a0 a1) : Int) < a2 then a2 else (F56 a0 a1)) a4), h3, trivial⟩)
        | false =>
          cases h4 : (decide (((F56 a0 a1) : Int) ≤ a2)) with
          | true =>
            have q0 := of_decide_eq_false h0
            have q1 := of_decide_eq_false h1
            have q2 := ne_of_beq_false h2
            have q3 := bne_eq_false_iff_eq.1 h3
            have q4 := of_decide_eq_true h4
            obtain ⟨u0, hu0⟩ : ∃ u, u = (F58 a0 a1) := ⟨_, rfl⟩
            obtain ⟨u1, hu1⟩ : ∃ u, u = (F56 a0 a1) := ⟨_, rfl⟩
            obtain ⟨u2, hu2⟩ : ∃ u, u = (F119 (if (u1 : Int) < a2 then a2 else u1) a4) := ⟨_, rfl⟩
            have e : (F92 a0 a1 a2 a3 a4) = ((0, u2.1.2), u2.2) := by subst hu2; subst hu1; subst hu0; simp only [F92, h0, h1, h2, h3, h4, cond_true, cond_false]
            rw [e]
            refine con_of (n := 9) Try.func92 rfl (ent Try.func92 (by kernel_rfl) rfl) (by show 5 ≤ Try.f92.ntmps; decide) (by kernel_rfl) trivial (fun cx hcx => ?_)
            exact ret_of (T := T0) hT hm (f := 5000) (orc := [.call [] (iv u0) [], .call [] (iv u1) [], .d false, .d false, .d false, .call [] (.t [(.a [(iv u2.1.1), (iv u2.1.2)]), (iv u2.2)]) [], .d false, .d true]) [] [] [] hcx
              (obs := [.call 58 [(.a (k9 a0)), (.a (k3 a1))] [] (iv u0) [], .call 56 [(.a (k9 a0)), (.a (k3 a1))] [] (iv u1) [], .eq (decide ((u0 : Int) ≤ a2)) false, .eq (decide ((u1 : Int) > a3)) false, .eq (((if (u1 : Int) < a2 then a2 else u1) : Int) == 0) false, .call 119 [(iv (if (u1 : Int) < a2 then a2 else u1)), (iv a4)] [] (.t [(.a [(iv u2.1.1), (iv u2.1.2)]), (iv u2.2)]) [], .eq ((u2.2 : Int) != 0) false, .eq (decide ((u1 : Int) ≤ a2)) true]) (by kernel_rfl) (by subst hu2; subst hu1; subst hu0; exact ⟨(C58 a0 a1), (C56 a0 a1), h0, h1, h2, (C119 (if ((F56 a0 a1) : Int) < a2 then a2 else (F56 a0 a1)) a4), h3, h4, trivial⟩)
          | false =>
            cases h5 : (decide (((F58 a0 a1) : Int) > a3)) with
            | true =>
              have q0 := of_decide_eq_false h0
              have q1 := of_decide_eq_false h1
              have q2 := ne_of_beq_false h2
              have q3 := bne_eq_false_iff_eq.1 h3
              have q4 := of_decide_eq_false h4
              have q5 := of_decide_eq_true h5
              obtain ⟨u0, hu0⟩ : ∃ u, u = (F58 a0 a1) := ⟨_, rfl⟩
              obtain ⟨u1, hu1⟩ : ∃ u, u = (F56 a0 a1) := ⟨_, rfl⟩
              obtain ⟨u2, hu2⟩ : ∃ u, u = (F119 (if (u1 : Int) < a2 then a2 else u1) a4) := ⟨_, rfl⟩
              have e : (F92 a0 a1 a2 a3 a4) = ((0, u2.1.2), u2.2) := by subst hu2; subst hu1; subst hu0; simp only [F92, h0, h1, h2, h3, h4, h5, cond_true, cond_false]
              rw [e]
              refine con_of (n := 9) Try.func92 rfl (ent Try.func92 (by kernel_rfl) rfl) (by show 5 ≤ Try.f92.ntmps; decide) (by kernel_rfl) trivial (fun cx hcx => ?_)
              exact ret_of (T := T0) hT hm (f := 5000) (orc := [.call [] (iv u0) [], .call [] (iv u1) [], .d false, .d false, .d false, .call [] (.t [(.a [(iv u2.1.1), (iv u2.1.2)]), (iv u2.2)]) [], .d false, .d false, .d true]) [] [] [] hcx
                (obs := [.call 58 [(.a (k9 a0)), (.a (k3 a1))] [] (iv u0) [], .call 56 [(.a (k9 a0)), (.a (k3 a1))] [] (iv u1) [], .eq (decide ((u0 : Int) ≤ a2)) false, .eq (decide ((u1 : Int) > a3)) false, .eq (((if (u1 : Int) < a2 then a2 else u1) : Int) == 0) false, .call 119 [(iv (if (u1 : Int) < a2 then a2 else u1)), (iv a4)] [] (.t [(.a [(iv u2.1.1), (iv u2.1.2)]), (iv u2.2)]) [], .eq ((u2.2 : Int) != 0) false, .eq (decide ((u1 : Int) ≤ a2)) false, .eq (decide ((u0 : Int) > a3)) true]) (by kernel_rfl) (by subst hu2; subst hu1; subst hu0; exact ⟨(C58 a0 a1), (C56 a0 a1), h0, h1, h2, (C119 (if ((F56 a0 a1) : Int) < a2 then a2 else (F56 a0 a1)) a4), h3, h4, h5, trivial⟩)
            | false =>
              have q0 := of_decide_eq_false h0
              have q1 := of_decide_eq_false h1
              have q2 := ne_of_beq_false h2
              have q3 := bne_eq_false_iff_eq.1 h3
              have q4 := of_decide_eq_false h4
              have q5 := of_decide_eq_false h5
              obtain ⟨u0, hu0⟩ : ∃ u, u = (F58 a0 a1) := ⟨_, rfl⟩
              obtain ⟨u1, hu1⟩ : ∃ u, u = (F56 a0 a1) := ⟨_, rfl⟩
              obtain ⟨u2, hu2⟩ : ∃ u, u = (F119 (if (u1 : Int) < a2 then a2 else u1) a4) := ⟨_, rfl⟩
              obtain ⟨u3, hu3⟩ : ∃ u, u = (F119 u0 a4) := ⟨_, rfl⟩
              have e : (F92 a0 a1 a2 a3 a4) = ((u3.1.1, u2.1.2), u3.2) := by subst hu3; subst hu2; subst hu1; subst hu0; simp only [F92, h0, h1, h2, h3, h4, h5, cond_true, cond_false]
              rw [e]
              refine con_of (n := 9) Try.func92 rfl (ent Try.func92 (by kernel_rfl) rfl) (by show 5 ≤ Try.f92.ntmps; decide) (by kernel_rfl) trivial (fun cx hcx => ?_)
              exact ret_of (T := T0) hT hm (f := 5000) (orc := [.call [] (iv u0) [], .call [] (iv u1) [], .d false, .d false, .d false, .call [] (.t [(.a [(iv u2.1.1), (iv u2.1.2)]), (iv u2.2)]) [], .d false, .d false, .d false, .call [] (.t [(.a [(iv u3.1.1), (iv u3.1.2)]), (iv u3.2)]) []]) [] [] [] hcx
                (obs := [.call 58 [(.a (k9 a0)), (.a (k3 a1))] [] (iv u0) [], .call 56 [(.a (k9 a0)), (.a (k3 a1))] [] (iv u1) [], .eq (decide ((u0 : Int) ≤ a2)) false, .eq (decide ((u1 : Int) > a3)) false, .eq (((if (u1 : Int) < a2 then a2 else u1) : Int) == 0) false, .call 119 [(iv (if (u1 : Int) < a2 then a2 else u1)), (iv a4)] [] (.t [(.a [(iv u2.1.1), (iv u2.1.2)]), (iv u2.2)]) [], .eq ((u2.2 : Int) != 0) false, .eq (decide ((u1 : Int) ≤ a2)) false, .eq (decide ((u0 : Int) > a3)) false, .call 119 [(iv u0), (iv a4)] [] (.t [(.a [(iv u3.1.1), (iv u3.1.2)]), (iv u3.2)]) []]) (by kernel_rfl) (by subst hu3; subst hu2; subst hu1; subst hu0; exact ⟨(C58 a0 a1), (C56 a0 a1), h0, h1, h2, (C119 (if ((F56 a0 a1) : Int) < a2 then a2 else (F56 a0 a1)) a4), h3, h4, h5, (C119 (F58 a0 a1) a4), trivial⟩)

end Go.Proofs.Ytopbnnmkdildgaa
