/-
  A part of the proofs of the Field laws: what functions of the program compute, and that it is what the statements ask. No premise.
-/
import Derived.Test.YtjlekmjnkpcnoaaMn
namespace Go.Proofs.Ytjlekmjnkpcnoaa
open Go.Proofs Go.Aw Go.RowKit
set_option maxRecDepth 100000
set_option linter.unusedVariables false
set_option linter.unusedSimpArgs false

/-! ### The parts as triangles of a lattice -/
abbrev Cd := Int × Int × Bool
def pt (p : PN) (w i j : Int) : P3 := (w * p.1.1 + i * (p.2.1.1 - p.1.1) + j * (p.2.2.1 - p.1.1), w * p.1.2.1 + i * (p.2.1.2.1 - p.1.2.1) + j * (p.2.2.2.1 - p.1.2.1), w * p.1.2.2 + i * (p.2.1.2.2 - p.1.2.2) + j * (p.2.2.2.2 - p.1.2.2))
def tri (p : PN) (w : Int) : Cd → PN
  | (i, j, false) => (pt p w i j, pt p w (i + 1) j, pt p w i (j + 1))
  | (i, j, true) => (pt p w (i + 1) j, pt p w (i + 1) (j + 1), pt p w i (j + 1))
def k1 : Cd → Cd
  | (i, j, false) => (2 * i, 2 * j, false)
  | (i, j, true) => (2 * i + 1, 2 * j, true)
def kk2 : Cd → Cd
  | (i, j, false) => (2 * i + 1, 2 * j, false)
  | (i, j, true) => (2 * i + 1, 2 * j + 1, true)
def kk3 : Cd → Cd
  | (i, j, false) => (2 * i, 2 * j + 1, false)
  | (i, j, true) => (2 * i, 2 * j + 1, true)
def kk4 : Cd → Cd
  | (i, j, false) => (2 * i, 2 * j, true)
  | (i, j, true) => (2 * i + 1, 2 * j + 1, false)
def KL : Nat → Cd → List Cd
  | 0, c => [c]
  | d + 1, c => KL d (k1 c) ++ (KL d (kk2 c) ++ (KL d (kk3 c) ++ KL d (kk4 c)))
theorem qs {y : PN} (h : bdP 100000 y) : q1 y = (ad y.1 y.1, ad y.1 y.2.1, ad y.2.2 y.1) ∧ q2 y = (ad y.1 y.2.1, ad y.2.1 y.2.1, ad y.2.1 y.2.2) ∧ q3 y = (ad y.2.2 y.1, ad y.2.1 y.2.2, ad y.2.2 y.2.2) ∧ q4 y = (ad y.1 y.2.1, ad y.2.1 y.2.2, ad y.2.2 y.1) := by
  have e : ∀ p : P3, (2 * p.1, 2 * p.2.1, 2 * p.2.2) = ad p p := fun p => by unfold ad; simp only [Prod.mk.injEq]; omega
  unfold q1 q2 q3 q4
  rw [mid_f h.1 h.2.1, mid_f h.2.2 h.1, mid_f h.2.1 h.2.2, times_f h.1, times_f h.2.1, times_f h.2.2, e, e, e]
  exact ⟨rfl, rfl, rfl, rfl⟩
theorem pt_ad (p : PN) (w i j i' j' : Int) : ad (pt p w i j) (pt p w i' j') = pt p (2 * w) (i + i') (j + j') := by
  unfold ad pt; simp only [Prod.mk.injEq]; refine ⟨?_, ?_, ?_⟩ <;> grind
theorem tri_q {p : PN} {w : Int} (c : Cd) (h : bdP 100000 (tri p w c)) : q1 (tri p w c) = tri p (2 * w) (k1 c) ∧ q2 (tri p w c) = tri p (2 * w) (kk2 c) ∧ q3 (tri p w c) = tri p (2 * w) (kk3 c) ∧
    (q4 (tri p w c) = tri p (2 * w) (kk4 c) ∨ q4 (tri p w c) = tBC (tAB (tri p (2 * w) (kk4 c)))) := by
  obtain ⟨e1, e2, e3, e4⟩ := qs h
  rw [e1, e2, e3, e4]
  obtain ⟨i, j, o⟩ := c
  cases o
  · simp only [tri, k1, kk2, kk3, kk4, pt_ad]
    refine ⟨?_, ?_, ?_, Or.inl ?_⟩ <;> (simp only [Prod.mk.injEq]; refine ⟨?_, ?_, ?_⟩ <;> congr 1 <;> omega)
  · simp only [tri, k1, kk2, kk3, kk4, pt_ad, tBC, tAB]
    refine ⟨?_, ?_, ?_, Or.inr ?_⟩ <;> (simp only [Prod.mk.injEq]; refine ⟨?_, ?_, ?_⟩ <;> congr 1 <;> omega)
theorem sum_KL {g : PN → Int} (h1 : ∀ p, g (tBC p) = g p) (h2 : ∀ p, g (tAC p) = g p) (h3 : ∀ p, g (tAB p) = g p) {p : PN} :
    ∀ (d : Nat) {m : Int} (w : Int) (c : Cd), bdP m (tri p w c) → m * 2 ^ d ≤ 100000 → 0 ≤ m → sumP g d (tri p w c) = ((KL d c).map fun k => g (tri p (2 ^ d * w) k)).sum
  | 0, m, w, c, _, _, _ => by simp [sumP, cutL, KL]
  | d + 1, m, w, c, h, hm, h0 => by
    have hp : (0 : Int) < 2 ^ d := Int.pow_pos (by omega)
    have hle : m * 1 ≤ m * 2 ^ (d + 1) := Int.mul_le_mul_of_nonneg_left (by rw [Int.pow_succ]; omega) h0
    have hb : bdP 100000 (tri p w c) := h.mono (by omega)
    obtain ⟨e1, e2, e3, e4⟩ := tri_q c hb
    have hm' : 2 * m * 2 ^ d ≤ 100000 := by rw [Int.pow_succ] at hm; rw [Int.mul_comm 2 m, Int.mul_assoc, Int.mul_comm 2]; exact hm
    have b1 := quad_bd h (show m ≤ 100000 by omega) (show q1 (tri p w c) ∈ quad (tri p w c) by simp [quad])
    have b2 := quad_bd h (show m ≤ 100000 by omega) (show q2 (tri p w c) ∈ quad (tri p w c) by simp [quad])
    have b3 := quad_bd h (show m ≤ 100000 by omega) (show q3 (tri p w c) ∈ quad (tri p w c) by simp [quad])
    have b4 := quad_bd h (show m ≤ 100000 by omega) (show q4 (tri p w c) ∈ quad (tri p w c) by simp [quad])
    rw [e1] at b1; rw [e2] at b2; rw [e3] at b3
    have hw : (2 : Int) ^ (d + 1) * w = 2 ^ d * (2 * w) := by rw [Int.pow_succ, Int.mul_assoc]
    rw [sumP_succ, e1, e2, e3, sum_KL h1 h2 h3 d (2 * w) (k1 c) b1 hm' (by omega), sum_KL h1 h2 h3 d (2 * w) (kk2 c) b2 hm' (by omega), sum_KL h1 h2 h3 d (2 * w) (kk3 c) b3 hm' (by omega)]
    have g4 : sumP g d (q4 (tri p w c)) = ((KL d (kk4 c)).map fun k => g (tri p (2 ^ d * (2 * w)) k)).sum := by
      rcases e4 with e4 | e4
      · rw [e4] at b4 ⊢; exact sum_KL h1 h2 h3 d (2 * w) (kk4 c) b4 hm' (by omega)
      · rw [e4] at b4 ⊢
        have b5 : bdP (2 * m) (tri p (2 * w) (kk4 c)) := by
          obtain ⟨z1, z2, z3⟩ := b4; exact ⟨z3, z1, z2⟩
        rw [(sumP_t h1 h2 h3 d _).1, (sumP_t h1 h2 h3 d _).2.2]
        exact sum_KL h1 h2 h3 d (2 * w) (kk4 c) b5 hm' (by omega)
    rw [g4, hw]
    simp only [KL, List.map_append, List.sum_append]
theorem tri_0 (p : PN) : tri p 1 (0, 0, false) = p := by
  unfold tri pt
  simp only [Int.zero_mul, Int.one_mul, Int.add_zero, Int.zero_add]
  have e : ∀ a b : Int, a + (b - a) = b := fun a b => by omega
  simp only [e]
theorem sum_parts {g : PN → Int} (h1 : ∀ p, g (tBC p) = g p) (h2 : ∀ p, g (tAC p) = g p) (h3 : ∀ p, g (tAB p) = g p) {p : PN} (hp : bdP 64 p) {d : Nat} (hd : d ≤ 3) :
    sumP g d p = ((KL d (0, 0, false)).map fun k => g (tri p (2 ^ d) k)).sum := by
  have hm : (64 : Int) * 2 ^ d ≤ 100000 := by
    have : d = 0 ∨ d = 1 ∨ d = 2 ∨ d = 3 := by omega
    rcases this with rfl | rfl | rfl | rfl <;> decide
  have h := sum_KL h1 h2 h3 (p := p) d (m := 64) 1 (0, 0, false) (by rw [tri_0]; exact hp) hm (by omega)
  rw [tri_0, Int.mul_one] at h
  exact h
/-! ### Counting -/
def cn (b : Int → Bool) : Nat → Int
  | 0 => 0
  | n + 1 => cn b n + (if b n then 1 else 0)
theorem cn_nn (b : Int → Bool) : ∀ n, 0 ≤ cn b n
  | 0 => Int.le_refl _
  | n + 1 => by have := cn_nn b n; unfold cn; split <;> omega
theorem cn_ge {b : Int → Bool} {lo : Int} : ∀ n : Nat, (∀ i : Nat, i < n → b i = true → lo ≤ i) → cn b n ≤ 0 ∨ cn b n ≤ n - lo
  | 0, _ => Or.inl (Int.le_refl _)
  | n + 1, h => by
    have ih := cn_ge (lo := lo) n (fun i hi hb => h i (by omega) hb)
    unfold cn
    by_cases hb : b n = true
    · have := h n (by omega) hb
      rw [if_pos hb]; omega
    · rw [if_neg hb]; omega
theorem cn_le {b : Int → Bool} {M : Int} (hM : 0 ≤ M) : ∀ n : Nat, (∀ i i' : Nat, i ≤ i' → i' < n → b i = true → b i' = true → (i' : Int) + 1 - i ≤ M) → cn b n ≤ M
  | 0, _ => hM
  | n + 1, h => by
    by_cases hb : b n = true
    · have h1 : (1 : Int) ≤ M := by have := h n n (by omega) (by omega) hb hb; omega
      have h2 := cn_ge (b := b) (lo := n + 1 - M) n (fun i hi hbi => by have := h i n (by omega) (by omega) hbi hb; omega)
      unfold cn
      rw [if_pos hb]; omega
    · have := cn_le hM n (fun i i' h1 h2 => h i i' h1 (by omega))
      unfold cn
      rw [if_neg hb]; omega

def row (j : Int) (o : Bool) : Nat → List Cd
  | 0 => []
  | n + 1 => row j o n ++ [((n : Int), j, o)]
def GRl : Nat → List Cd
  | 0 => []
  | n + 1 => GRl n ++ (row n false 8 ++ row n true 8)
def ct (T : Cd → Bool) : Nat → Int
  | 0 => 0
  | n + 1 => ct T n + (cn (fun i => T (i, (n : Int), false)) 8 + cn (fun i => T (i, (n : Int), true)) 8)
def one (T : Cd → Bool) (c : Cd) : Int := if T c then 1 else 0
theorem sum_row (T : Cd → Bool) (j : Int) (o : Bool) : ∀ n, ((row j o n).map (one T)).sum = cn (fun i => T (i, j, o)) n
  | 0 => rfl
  | n + 1 => by
    rw [row, List.map_append, List.sum_append, sum_row T j o n]
    simp only [List.map_cons, List.map_nil, List.sum_cons, List.sum_nil, Int.add_zero]; rfl
theorem sum_GR (T : Cd → Bool) : ∀ n, ((GRl n).map (one T)).sum = ct T n
  | 0 => rfl
  | n + 1 => by rw [GRl, List.map_append, List.sum_append, List.map_append, List.sum_append, sum_GR T n, sum_row, sum_row]; rfl
theorem one_nn (T : Cd → Bool) : ∀ l : List Cd, 0 ≤ (l.map (one T)).sum
  | [] => Int.le_refl _
  | c :: l => by have := one_nn T l; simp only [List.map_cons, List.sum_cons]; unfold one at *; split <;> omega
theorem perm_sum {l m : List Int} (h : l.Perm m) : l.sum = m.sum := by
  induction h with
  | nil => rfl
  | cons x _ ih => simp only [List.sum_cons, ih]
  | swap x y l => simp only [List.sum_cons]; omega
  | trans _ _ ih1 ih2 => exact ih1.trans ih2
theorem KL_le (T : Cd → Bool) {d : Nat} (hd : d ≤ 3) : ((KL d (0, 0, false)).map (one T)).sum ≤ ct T 8 := by
  have key : ∃ rest, (GRl 8).Perm (KL d (0, 0, false) ++ rest) := by
    have : d = 0 ∨ d = 1 ∨ d = 2 ∨ d = 3 := by omega
    rcases this with rfl | rfl | rfl | rfl
    · exact ⟨(GRl 8).filter (fun c => !(KL 0 (0, 0, false)).contains c), by decide +kernel⟩
    · exact ⟨(GRl 8).filter (fun c => !(KL 1 (0, 0, false)).contains c), by decide +kernel⟩
    · exact ⟨(GRl 8).filter (fun c => !(KL 2 (0, 0, false)).contains c), by decide +kernel⟩
    · exact ⟨(GRl 8).filter (fun c => !(KL 3 (0, 0, false)).contains c), by decide +kernel⟩
  obtain ⟨rest, h⟩ := key
  have e : ((GRl 8).map (one T)).sum = ((KL d (0, 0, false) ++ rest).map (one T)).sum := perm_sum (h.map (one T))
  rw [sum_GR, List.map_append, List.sum_append] at e
  have := one_nn T rest; omega
/-- at most 2 M S triangles -/
theorem ct_le {T : Cd → Bool} {M S : Int} (hM : 0 ≤ M) (hS : 0 ≤ S)
    (h1 : ∀ (i i' j : Int) (o : Bool), i ≤ i' → T (i, j, o) = true → T (i', j, o) = true → i' + 1 - i ≤ M)
    (h2 : ∀ (i i' j j' : Int) (o o' : Bool), j ≤ j' → T (i, j, o) = true → T (i', j', o') = true → j' + 1 - j ≤ S) : ct T 8 ≤ 2 * M * S := by
  have hr : ∀ (j : Int) (o : Bool) (n : Nat), cn (fun i => T (i, j, o)) n ≤ M := fun j o n => cn_le hM n (fun i i' g1 _ g3 g4 => h1 i i' j o (by omega) g3 g4)
  have hz : ∀ (j : Int) (o : Bool) (n : Nat), (∀ i : Nat, i < n → T ((i : Int), j, o) = false) → cn (fun i => T (i, j, o)) n = 0 := by
    intro j o n
    induction n with
    | zero => intro _; rfl
    | succ n ih =>
      intro h
      have := ih (fun i hi => h i (by omega))
      unfold cn; rw [this, h n (by omega)]; rfl
  have key : ∀ n : Nat, ct T n ≤ 2 * M * cn (fun j => (List.range 8).any fun i => T ((i : Int), j, false) || T ((i : Int), j, true)) n := by
    intro n
    induction n with
    | zero => simp [ct, cn]
    | succ n ih =>
      rw [show ct T (n + 1) = ct T n + (cn (fun i => T (i, (n : Int), false)) 8 + cn (fun i => T (i, (n : Int), true)) 8) from rfl,
        show cn (fun j => (List.range 8).any fun i => T ((i : Int), j, false) || T ((i : Int), j, true)) (n + 1) = cn (fun j => (List.range 8).any fun i => T ((i : Int), j, false) || T ((i : Int), j, true)) n + (if ((List.range 8).any fun i => T ((i : Int), (n : Int), false) || T ((i : Int), (n : Int), true)) = true then 1 else 0) from rfl]
      cases hb : ((List.range 8).any fun i => T ((i : Int), (n : Int), false) || T ((i : Int), (n : Int), true)) with
      | true =>
        have a1 := hr n false 8; have a2 := hr n true 8
        rw [if_pos rfl, Int.mul_add, Int.mul_one]; omega
      | false =>
        have hb' := List.any_eq_false.1 hb
        have a1 := hz n false 8 (fun i hi => by have := hb' i (List.mem_range.2 hi); simp at this; exact this.1)
        have a2 := hz n true 8 (fun i hi => by have := hb' i (List.mem_range.2 hi); simp at this; exact this.2)
        rw [a1, a2]; simpa using ih
  refine Int.le_trans (key 8) (Int.mul_le_mul_of_nonneg_left (cn_le hS 8 (fun j j' g1 _ g3 g4 => ?_)) (by omega))
  obtain ⟨i, _, hi⟩ := List.any_eq_true.1 g3
  obtain ⟨i', _, hi'⟩ := List.any_eq_true.1 g4
  rcases Bool.or_eq_true _ _ ▸ hi with x | x <;> rcases Bool.or_eq_true _ _ ▸ hi' with y | y <;> exact h2 _ _ _ _ _ _ (by omega) x y

end Go.Proofs.Ytjlekmjnkpcnoaa
