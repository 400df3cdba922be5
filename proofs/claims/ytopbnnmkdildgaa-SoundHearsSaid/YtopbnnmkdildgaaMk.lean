/-
  A part of the proofs of the Field laws: what functions of the program compute, and that it is what the statements ask. No premise.
-/
import Derived.Test.YtopbnnmkdildgaaMj
namespace Go.Proofs.Ytopbnnmkdildgaa
open Go.Proofs Go.Aw Go.RowKit
set_option maxRecDepth 100000
set_option linter.unusedVariables false
set_option linter.unusedSimpArgs false

/-! ### Solid angles -/
def ht (p : PN) (x : P3) : Int := dt (sb p.1 x) (cr (sb p.2.1 x) (sb p.2.2 x))
theorem ht_bd {p : PN} {x : P3} (hp : bdP 64 p) (hx : bd 256 x) : bd 320 (sb p.1 x) ∧ bd 204800 (cr (sb p.2.1 x) (sb p.2.2 x)) ∧ -1099511627776 ≤ ht p x ∧ ht p x ≤ 1099511627776 := by
  have h1 : bd 320 (sb p.1 x) := bd_sb hp.1 hx
  have h2 : bd 204800 (cr (sb p.2.1 x) (sb p.2.2 x)) := cr_bd (bd_sb hp.2.1 hx) (bd_sb hp.2.2 hx)
  have := dt_bd (h1.mono (show (320 : Int) ≤ 204800 by omega)) h2
  exact ⟨h1, h2, by unfold ht; omega⟩
open Classical in
noncomputable def angR (m : Int × Int) (h : Int) : (Int × Int) × Int := if vs (scl m h) then (hlf (scl m h), 0) else ((0, 0), 4)
theorem avg_vs {v : Int × Int} {n : Int} (hn : n = 1 ∨ n = 4 ∨ n = 16 ∨ n = 64) (h : okv v 0) : vs (avg v n) := by
  unfold okv at h; unfold vs avg; simp only
  rcases hn with rfl | rfl | rfl | rfl <;> omega
theorem meanS_vs {of : Int → Int × Int} (ho : OfOk of) {p : PN} {x : P3} {d : Int} (hd : 0 ≤ d ∧ d ≤ 3) : ((meanS of p x d).2 = 0 ∧ vs (meanS of p x d).1) ∨ meanS of p x d = ((0, 0), 10) := by
  unfold meanS
  cases h : acc of (tm (sc d) x) (cutL d.toNat p) (0, 0) with
  | inl v => exact Or.inl ⟨rfl, avg_vs (cnt_in d) (acc_ok ho (okv_0 hd) h)⟩
  | inr r =>
    right
    have key : ∀ (l : List PN) (v : Int × Int) (r : (Int × Int) × Int), acc of (tm (sc d) x) l v = .inr r → r = ((0, 0), 10) := by
      intro l
      induction l with
      | nil => intro v r h; cases h
      | cons c l ih =>
        intro v r h
        unfold acc at h
        split at h
        · cases h; rfl
        · exact ih _ _ h
    exact key _ _ _ h
theorem meanV_vs {p : PN} {x : P3} {d : Int} {of : Int → Int → Int × Int} (ho : ∀ s, s = 1 ∨ s = 2 ∨ s = 4 ∨ s = 8 → OfOk (of s)) (h : (meanV of p x d).2 = 0) : ck p x d = 0 ∧ vs (meanV of p x d).1 := by
  unfold meanV at *
  by_cases hc : ck p x d = 0
  · rw [if_pos hc] at *
    refine ⟨hc, ?_⟩
    rcases meanS_vs (ho _ (sc_in d)) (p := p) (x := x) (ck_ok hc).2.2 with h1 | h1
    · exact h1.2
    · rw [h1] at h; cases h
  · rw [if_neg hc] at h; exact absurd h hc
theorem meanV_err {p : PN} {x : P3} {d : Int} {of : Int → Int → Int × Int} (ho : ∀ s, s = 1 ∨ s = 2 ∨ s = 4 ∨ s = 8 → OfOk (of s)) (h : (meanV of p x d).2 ≠ 0) : (meanV of p x d).1 = (0, 0) := by
  unfold meanV at *
  by_cases hc : ck p x d = 0
  · rw [if_pos hc] at *
    rcases meanS_vs (ho _ (sc_in d)) (p := p) (x := x) (ck_ok hc).2.2 with h1 | h1
    · exact absurd h1.1 h
    · rw [h1]
  · rw [if_neg hc]
open Classical in
noncomputable def angV (p : PN) (x : P3) (d : Int) : (Int × Int) × Int := if (meanV of3 p x d).2 = 0 then angR (meanV of3 p x d).1 (ht p x) else ((0, 0), (meanV of3 p x d).2)
theorem of1_all : ∀ s : Int, s = 1 ∨ s = 2 ∨ s = 4 ∨ s = 8 → OfOk (of1 s) := fun s h => of1_ok h
theorem of3_all : ∀ s : Int, s = 1 ∨ s = 2 ∨ s = 4 ∨ s = 8 → OfOk (of3 s) := fun s h => of3_ok h
/-! ### Corners exchanged -/
def tBC (p : PN) : PN := (p.1, p.2.2, p.2.1)
def tAC (p : PN) : PN := (p.2.2, p.2.1, p.1)
def tAB (p : PN) : PN := (p.2.1, p.1, p.2.2)
theorem mid_comm (p q : P3) : F143 p q = F143 q p := by
  simp only [F143, Int.add_comm]
def sumP (g : PN → Int) (d : Nat) (p : PN) : Int := ((cutL d p).map g).sum
theorem sumP_succ (g : PN → Int) (d : Nat) (p : PN) : sumP g (d + 1) p = sumP g d (q1 p) + (sumP g d (q2 p) + (sumP g d (q3 p) + sumP g d (q4 p))) := by
  unfold sumP
  rw [show cutL (d + 1) p = cutL d (q1 p) ++ (cutL d (q2 p) ++ (cutL d (q3 p) ++ cutL d (q4 p))) from rfl]
  simp only [List.map_append, List.sum_append]
theorem sumP_t {g : PN → Int} (h1 : ∀ p, g (tBC p) = g p) (h2 : ∀ p, g (tAC p) = g p) (h3 : ∀ p, g (tAB p) = g p) :
    ∀ (d : Nat) (p : PN), sumP g d (tBC p) = sumP g d p ∧ sumP g d (tAC p) = sumP g d p ∧ sumP g d (tAB p) = sumP g d p
  | 0, p => by
    have e : ∀ q, sumP g 0 q = g q := fun q => by simp [sumP, cutL]
    rw [e, e, e, e]; exact ⟨h1 p, h2 p, h3 p⟩
  | d + 1, p => by
    have ih := sumP_t h1 h2 h3 d
    refine ⟨?_, ?_, ?_⟩
    · rw [sumP_succ, sumP_succ]
      have e1 : q1 (tBC p) = tBC (q1 p) := by unfold q1 tBC; simp only; rw [mid_comm p.1 p.2.2, mid_comm p.2.1 p.1]
      have e2 : q2 (tBC p) = tBC (q3 p) := by unfold q2 q3 tBC; simp only; rw [mid_comm p.1 p.2.2, mid_comm p.2.2 p.2.1]
      have e3 : q3 (tBC p) = tBC (q2 p) := by unfold q2 q3 tBC; simp only; rw [mid_comm p.2.1 p.1, mid_comm p.2.2 p.2.1]
      have e4 : q4 (tBC p) = tAC (q4 p) := by unfold q4 tBC tAC; simp only; rw [mid_comm p.1 p.2.2, mid_comm p.2.2 p.2.1, mid_comm p.2.1 p.1]
      rw [e1, e2, e3, e4, (ih (q1 p)).1, (ih (q2 p)).1, (ih (q3 p)).1, (ih (q4 p)).2.1]; omega
    · rw [sumP_succ, sumP_succ]
      have e1 : q1 (tAC p) = tAC (q3 p) := by unfold q1 q3 tAC; simp only; rw [mid_comm p.2.2 p.2.1, mid_comm p.1 p.2.2]
      have e2 : q2 (tAC p) = tAC (q2 p) := by unfold q2 tAC; simp only; rw [mid_comm p.2.2 p.2.1, mid_comm p.2.1 p.1]
      have e3 : q3 (tAC p) = tAC (q1 p) := by unfold q1 q3 tAC; simp only; rw [mid_comm p.1 p.2.2, mid_comm p.2.1 p.1]
      have e4 : q4 (tAC p) = tAB (q4 p) := by unfold q4 tAC tAB; simp only; rw [mid_comm p.2.2 p.2.1, mid_comm p.2.1 p.1, mid_comm p.1 p.2.2]
      rw [e1, e2, e3, e4, (ih (q1 p)).2.1, (ih (q2 p)).2.1, (ih (q3 p)).2.1, (ih (q4 p)).2.2]; omega
    · rw [sumP_succ, sumP_succ]
      have e1 : q1 (tAB p) = tAB (q2 p) := by unfold q1 q2 tAB; simp only; rw [mid_comm p.2.1 p.1, mid_comm p.2.2 p.2.1]
      have e2 : q2 (tAB p) = tAB (q1 p) := by unfold q1 q2 tAB; simp only; rw [mid_comm p.2.1 p.1, mid_comm p.1 p.2.2]
      have e3 : q3 (tAB p) = tAB (q3 p) := by unfold q3 tAB; simp only; rw [mid_comm p.2.2 p.2.1, mid_comm p.1 p.2.2]
      have e4 : q4 (tAB p) = tBC (q4 p) := by unfold q4 tAB tBC; simp only; rw [mid_comm p.2.1 p.1, mid_comm p.1 p.2.2, mid_comm p.2.2 p.2.1]
      rw [e1, e2, e3, e4, (ih (q1 p)).2.2, (ih (q2 p)).2.2, (ih (q3 p)).2.2, (ih (q4 p)).1]; omega
def zc (x : P3) (c : PN) : Int := if ne c x = 0 then 1 else 0
theorem sum_nn {l : List PN} {g : PN → Int} (h : ∀ c, 0 ≤ g c) : 0 ≤ (l.map g).sum := by
  induction l with
  | nil => simp
  | cons c l ih => have := h c; simp only [List.map_cons, List.sum_cons]; omega
theorem acc_sum (of : Int → Int × Int) (x : P3) : ∀ (l : List PN) (v : Int × Int), acc of x l v =
    if 0 < (l.map (zc x)).sum then .inr ((0, 0), 10) else .inl (v.1 + (l.map fun c => (of (fa c x)).1).sum, v.2 + (l.map fun c => (of (ne c x)).2).sum)
  | [], v => by simp [acc]
  | c :: l, v => by
    have hn : ∀ c, 0 ≤ zc x c := fun c => by unfold zc; split <;> omega
    have h0 := sum_nn (l := l) hn
    unfold acc
    rw [acc_sum of x l]
    simp only [List.map_cons, List.sum_cons]
    by_cases h : ne c x = 0
    · have e : zc x c = 1 := by unfold zc; rw [if_pos h]
      rw [if_pos h, e, if_pos (by omega)]
    · have e : zc x c = 0 := by unfold zc; rw [if_neg h]
      rw [if_neg h, e, Int.zero_add]
      by_cases h' : 0 < (l.map (zc x)).sum
      · rw [if_pos h', if_pos h']
      · rw [if_neg h', if_neg h', Int.add_assoc, Int.add_assoc]
theorem lo3_t (a b c : Int) : lo3 a c b = lo3 a b c ∧ lo3 c b a = lo3 a b c ∧ lo3 b a c = lo3 a b c := by
  unfold lo3; simp only [Int.lt_irrefl, if_false]
  refine ⟨?_, ?_, ?_⟩ <;> (repeat' split) <;> omega
theorem hi3_t (a b c : Int) : hi3 a c b = hi3 a b c ∧ hi3 c b a = hi3 a b c ∧ hi3 b a c = hi3 a b c := by
  unfold hi3; simp only [Int.lt_irrefl, if_false]
  refine ⟨?_, ?_, ?_⟩ <;> (repeat' split) <;> omega
theorem ne_t (c : PN) (x : P3) : ne (tBC c) x = ne c x ∧ ne (tAC c) x = ne c x ∧ ne (tAB c) x = ne c x := by
  have l := fun a b c => lo3_t a b c; have h := fun a b c => hi3_t a b c
  unfold ne blo bhi tBC tAC tAB
  simp only
  refine ⟨?_, ?_, ?_⟩
  · rw [(l c.1.1 c.2.1.1 c.2.2.1).1, (l c.1.2.1 c.2.1.2.1 c.2.2.2.1).1, (l c.1.2.2 c.2.1.2.2 c.2.2.2.2).1, (h c.1.1 c.2.1.1 c.2.2.1).1, (h c.1.2.1 c.2.1.2.1 c.2.2.2.1).1, (h c.1.2.2 c.2.1.2.2 c.2.2.2.2).1]
  · rw [(l c.1.1 c.2.1.1 c.2.2.1).2.1, (l c.1.2.1 c.2.1.2.1 c.2.2.2.1).2.1, (l c.1.2.2 c.2.1.2.2 c.2.2.2.2).2.1, (h c.1.1 c.2.1.1 c.2.2.1).2.1, (h c.1.2.1 c.2.1.2.1 c.2.2.2.1).2.1, (h c.1.2.2 c.2.1.2.2 c.2.2.2.2).2.1]
  · rw [(l c.1.1 c.2.1.1 c.2.2.1).2.2, (l c.1.2.1 c.2.1.2.1 c.2.2.2.1).2.2, (l c.1.2.2 c.2.1.2.2 c.2.2.2.2).2.2, (h c.1.1 c.2.1.1 c.2.2.1).2.2, (h c.1.2.1 c.2.1.2.1 c.2.2.2.1).2.2, (h c.1.2.2 c.2.1.2.2 c.2.2.2.2).2.2]
theorem fa_t (c : PN) (x : P3) : fa (tBC c) x = fa c x ∧ fa (tAC c) x = fa c x ∧ fa (tAB c) x = fa c x := by
  unfold fa tBC tAC tAB
  simp only
  generalize ds c.1 x = a; generalize ds c.2.1 x = b; generalize ds c.2.2 x = e
  unfold mx
  refine ⟨?_, ?_, ?_⟩ <;> (repeat' split) <;> omega
theorem acc_t (of : Int → Int × Int) (x : P3) (d : Nat) (p : PN) (v : Int × Int) : acc of x (cutL d (tBC p)) v = acc of x (cutL d p) v := by
  rw [acc_sum, acc_sum]
  have e0 : ((cutL d (tBC p)).map (zc x)).sum = ((cutL d p).map (zc x)).sum := (sumP_t (g := zc x) (fun q => by unfold zc; rw [(ne_t q x).1]) (fun q => by unfold zc; rw [(ne_t q x).2.1]) (fun q => by unfold zc; rw [(ne_t q x).2.2]) d p).1
  have e1 : ((cutL d (tBC p)).map fun c => (of (fa c x)).1).sum = ((cutL d p).map fun c => (of (fa c x)).1).sum := (sumP_t (g := fun c => (of (fa c x)).1) (fun q => by rw [(fa_t q x).1]) (fun q => by rw [(fa_t q x).2.1]) (fun q => by rw [(fa_t q x).2.2]) d p).1
  have e2 : ((cutL d (tBC p)).map fun c => (of (ne c x)).2).sum = ((cutL d p).map fun c => (of (ne c x)).2).sum := (sumP_t (g := fun c => (of (ne c x)).2) (fun q => by rw [(ne_t q x).1]) (fun q => by rw [(ne_t q x).2.1]) (fun q => by rw [(ne_t q x).2.2]) d p).1
  rw [e0, e1, e2]
theorem vp_t (p : PN) : vp (tBC p) = vp p := by
  have hb : bdP 64 (tBC p) ↔ bdP 64 p := ⟨fun h => ⟨h.1, h.2.2, h.2.1⟩, fun h => ⟨h.1, h.2.2, h.2.1⟩⟩
  have hn : nrm (tBC p) = (-(nrm p).1, -(nrm p).2.1, -(nrm p).2.2) := by
    unfold nrm cr sb tBC; simp only [Prod.mk.injEq]; refine ⟨?_, ?_, ?_⟩ <;> grind
  unfold vp
  rw [hn]
  by_cases h : bdP 64 p
  · rw [if_pos h, if_pos (hb.2 h)]
    by_cases h' : (nrm p).1 = 0 ∧ (nrm p).2.1 = 0 ∧ (nrm p).2.2 = 0
    · rw [if_pos h', if_pos (by simp only; omega)]
    · rw [if_neg h', if_neg (by simp only; omega)]
  · rw [if_neg h, if_neg (fun h' => h (hb.1 h'))]
theorem meanV_t (of : Int → Int → Int × Int) (p : PN) (x : P3) (d : Int) : meanV of (tBC p) x d = meanV of p x d := by
  unfold meanV meanS ck
  rw [vp_t, acc_t]
theorem ht_t (p : PN) (x : P3) : ht (tBC p) x = -ht p x := by
  unfold ht dt cr sb tBC; grind
theorem sat_neg (x n : Int) : sat x (-n) = -sat x n := by
  unfold sat; rw [Int.mul_neg]; (repeat' split) <;> omega
theorem scl_neg {m : Int × Int} (h : m.1 ≤ m.2) (n : Int) : scl m (-n) = (-(scl m n).2, -(scl m n).1) := by
  unfold scl
  rw [sat_neg, sat_neg]
  rcases Int.lt_trichotomy n 0 with h1 | h1 | h1
  · rw [if_pos h1, if_neg (by omega)]
  · subst h1
    have e : ∀ z, sat z 0 = 0 := fun z => by unfold sat; simp
    simp [e]
  · rw [if_neg (show ¬ n < 0 by omega), if_pos (show -n < 0 by omega)]
theorem hlf_neg (a : Int × Int) : hlf (-a.2, -a.1) = (-(hlf a).2, -(hlf a).1) := by
  unfold hlf; simp only [Int.neg_neg]
theorem angR_neg {m : Int × Int} (h : vs m) (n : Int) : angR m (-n) = ((-(angR m n).1.2, -(angR m n).1.1), (angR m n).2) := by
  unfold angR
  rw [scl_neg h.2.1]
  have hv : vs (-(scl m n).2, -(scl m n).1) ↔ vs (scl m n) := by unfold vs; simp only; omega
  by_cases h' : vs (scl m n)
  · rw [if_pos h', if_pos (hv.2 h'), hlf_neg]
  · rw [if_neg h', if_neg (fun h => h' (hv.1 h))]; rfl
theorem angV_t (p : PN) (x : P3) (d : Int) : angV (tBC p) x d = ((-(angV p x d).1.2, -(angV p x d).1.1), (angV p x d).2) := by
  unfold angV
  rw [meanV_t, ht_t]
  by_cases h : (meanV of3 p x d).2 = 0
  · rw [if_pos h, if_pos h, angR_neg (meanV_vs of3_all h).2]
  · rw [if_neg h, if_neg h]; rfl
theorem angV_bd (p : PN) (x : P3) (d : Int) : vs (angV p x d).1 := by
  have h0 : vs (0, 0) := by unfold vs; simp
  unfold angV angR
  split
  · split
    · rename_i h; exact hlf_ok h
    · exact h0
  · exact h0

end Go.Proofs.Ytopbnnmkdildgaa
