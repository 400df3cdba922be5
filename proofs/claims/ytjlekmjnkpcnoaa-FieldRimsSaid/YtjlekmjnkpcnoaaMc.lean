/-
  A part of the proofs of the Field laws: what functions of the program compute, and that it is what the statements ask. No premise.
-/
import Derived.Test.YtjlekmjnkpcnoaaLe
namespace Go.Proofs.Ytjlekmjnkpcnoaa
open Go.Proofs Go.Aw Go.RowKit
set_option maxRecDepth 100000
set_option linter.unusedVariables false
set_option linter.unusedSimpArgs false

/-! ### How far, how near -/
def mx (a b : Int) : Int := if a < b then b else a
theorem mx_le {a b c : Int} (h : a ≤ c) (h' : b ≤ c) : mx a b ≤ c := by unfold mx; split <;> assumption
theorem le_mx1 (a b : Int) : a ≤ mx a b := by unfold mx; split <;> omega
theorem le_mx2 (a b : Int) : b ≤ mx a b := by unfold mx; split <;> omega
def ds (p q : P3) : Int := dt (sb p q) (sb p q)
/-- the greatest squared distance of a panel's corners and points -/
def farL (c : PN) : List P3 → Int
  | [] => 0
  | x :: l => mx (mx (mx (farL c l) (ds c.1 x)) (ds c.2.1 x)) (ds c.2.2 x)
def fF (p q : P3) : Int := F58 (F59 p q) (F59 p q)
theorem fF_eq {p q : P3} (hp : bd 5000 p) (hq : bd 5000 q) : fF p q = ds p q := by
  unfold fF ds
  rw [fsb (hp.mono (by omega)) (hq.mono (by omega))]
  exact fdt ((bd_sb hp hq).mono (by omega)) ((bd_sb hp hq).mono (by omega))
def rF (p q : P3) : Int := F115 (F125 p q) (F125 p q)
theorem rF_eq {p q : P3} (hp : bd 5000 p) (hq : bd 5000 q) : rF p q = ds p q := by
  unfold rF ds
  rw [rsb (hp.mono (by omega)) (hq.mono (by omega))]
  exact rdt ((bd_sb hp hq).mono (by omega)) ((bd_sb hp hq).mono (by omega))
theorem farF1 (c : PN) (x : P3) : F110_L_L [c.1, c.2.1, c.2.2] [x] = mx (mx (mx 0 (fF c.1 x)) (fF c.2.1 x)) (fF c.2.2 x) := by
  rfl
theorem farF3 (c : PN) (x y z : P3) : F110_L_L [c.1, c.2.1, c.2.2] [x, y, z] =
    mx (mx (mx (mx (mx (mx (mx (mx (mx 0 (fF c.1 x)) (fF c.1 y)) (fF c.1 z)) (fF c.2.1 x)) (fF c.2.1 y)) (fF c.2.1 z)) (fF c.2.2 x)) (fF c.2.2 y)) (fF c.2.2 z) := by
  rfl
theorem farR_step (c : PN) (l : List P3) (v : Int) (i : Nat) (h : i < l.length) :
    S97_L_0 c l (v, (i : Int)) = .inl (mx (mx (mx v (rF c.1 (l.getD i default))) (rF c.2.1 (l.getD i default))) (rF c.2.2 (l.getD i default)), ((i + 1 : Nat) : Int)) := by
  have h0 : decide ((i : Int) < ((l.length : Nat) : Int)) = true := by simpa using h
  simp only [S97_L_0, h0, cond_true, Int.toNat_natCast]
  have key : ∀ q : P3, (bif decide (rF c.1 q > v) then bif decide (rF c.2.1 q > rF c.1 q) then bif decide (rF c.2.2 q > rF c.2.1 q) then Sum.inl (rF c.2.2 q, (i : Int) + 1) else Sum.inl (rF c.2.1 q, (i : Int) + 1) else bif decide (rF c.2.2 q > rF c.1 q) then Sum.inl (rF c.2.2 q, (i : Int) + 1) else Sum.inl (rF c.1 q, (i : Int) + 1)
    else bif decide (rF c.2.1 q > v) then bif decide (rF c.2.2 q > rF c.2.1 q) then Sum.inl (rF c.2.2 q, (i : Int) + 1) else Sum.inl (rF c.2.1 q, (i : Int) + 1) else bif decide (rF c.2.2 q > v) then Sum.inl (rF c.2.2 q, (i : Int) + 1) else Sum.inl (v, (i : Int) + 1))
    = (Sum.inl (mx (mx (mx v (rF c.1 q)) (rF c.2.1 q)) (rF c.2.2 q), ((i : Int) + 1)) : (Int × Int) ⊕ Int) := by
    intro q
    generalize rF c.1 q = a1; generalize rF c.2.1 q = a2; generalize rF c.2.2 q = a3
    unfold mx
    by_cases h1 : a1 > v
    · rw [decide_eq_true h1, cond_true, if_pos h1]
      by_cases h2 : a2 > a1
      · rw [decide_eq_true h2, cond_true, if_pos h2]
        by_cases h3 : a3 > a2
        · rw [decide_eq_true h3, cond_true, if_pos h3]
        · rw [decide_eq_false h3, cond_false, if_neg h3]
      · rw [decide_eq_false h2, cond_false, if_neg h2]
        by_cases h3 : a3 > a1
        · rw [decide_eq_true h3, cond_true, if_pos h3]
        · rw [decide_eq_false h3, cond_false, if_neg h3]
    · rw [decide_eq_false h1, cond_false, if_neg h1]
      by_cases h2 : a2 > v
      · rw [decide_eq_true h2, cond_true, if_pos h2]
        by_cases h3 : a3 > a2
        · rw [decide_eq_true h3, cond_true, if_pos h3]
        · rw [decide_eq_false h3, cond_false, if_neg h3]
      · rw [decide_eq_false h2, cond_false, if_neg h2]
        by_cases h3 : a3 > v
        · rw [decide_eq_true h3, cond_true, if_pos h3]
        · rw [decide_eq_false h3, cond_false, if_neg h3]
  exact key (l.getD i default)
theorem farR_end (c : PN) (l : List P3) (v : Int) : S97_L_0 c l (v, (l.length : Int)) = .inr v := by
  have h0 : decide (((l.length : Nat) : Int) < ((l.length : Nat) : Int)) = false := by simp
  simp only [S97_L_0, h0, cond_false]
theorem farR1 (c : PN) (x : P3) : F97_L c [x] = mx (mx (mx 0 (rF c.1 x)) (rF c.2.1 x)) (rF c.2.2 x) := by
  unfold F97_L
  have e0 := farR_step c [x] 0 0 (by simp)
  have e1 := farR_end c [x] (mx (mx (mx 0 (rF c.1 x)) (rF c.2.1 x)) (rF c.2.2 x))
  rw [show Int.toNat ((([x] : List P3).length : Int) - 0) + 1 = 2 from rfl, show ((0, 0) : Int × Int) = (0, ((0 : Nat) : Int)) from rfl, loopF_inl e0]
  exact loopF_inr e1
theorem farR3 (c : PN) (x y z : P3) : F97_L c [x, y, z] =
    mx (mx (mx (mx (mx (mx (mx (mx (mx 0 (rF c.1 x)) (rF c.2.1 x)) (rF c.2.2 x)) (rF c.1 y)) (rF c.2.1 y)) (rF c.2.2 y)) (rF c.1 z)) (rF c.2.1 z)) (rF c.2.2 z) := by
  unfold F97_L
  have e0 := farR_step c [x, y, z] 0 0 (by simp)
  have e1 := farR_step c [x, y, z] (mx (mx (mx 0 (rF c.1 x)) (rF c.2.1 x)) (rF c.2.2 x)) 1 (by simp)
  have e2 := farR_step c [x, y, z] (mx (mx (mx (mx (mx (mx 0 (rF c.1 x)) (rF c.2.1 x)) (rF c.2.2 x)) (rF c.1 y)) (rF c.2.1 y)) (rF c.2.2 y)) 2 (by simp)
  have e3 := farR_end c [x, y, z] (mx (mx (mx (mx (mx (mx (mx (mx (mx 0 (rF c.1 x)) (rF c.2.1 x)) (rF c.2.2 x)) (rF c.1 y)) (rF c.2.1 y)) (rF c.2.2 y)) (rF c.1 z)) (rF c.2.1 z)) (rF c.2.2 z))
  rw [show Int.toNat ((([x, y, z] : List P3).length : Int) - 0) + 1 = 4 from rfl, show ((0, 0) : Int × Int) = (0, ((0 : Nat) : Int)) from rfl, loopF_inl e0]
  refine (loopF_inl e1).trans ?_
  refine (loopF_inl e2).trans ?_
  exact loopF_inr e3
theorem mx_comm9 (a b c d e f g h i : Int) : mx (mx (mx (mx (mx (mx (mx (mx (mx 0 a) b) c) d) e) f) g) h) i = mx (mx (mx (mx (mx (mx (mx (mx (mx 0 a) d) g) b) e) h) c) f) i := by
  have key : ∀ a b c : Int, mx (mx a b) c = mx (mx a c) b := fun a b c => by unfold mx; repeat' split <;> omega
  rw [key _ c d, key _ b d, key _ f g, key _ e g, key _ c g, key _ b g]
  rw [key _ c e, key _ f h, key _ c h]

/-! boxes -/
def lo3 (a b c : Int) : Int := if c < (if b < (if a < a then a else a) then b else (if a < a then a else a)) then c else (if b < (if a < a then a else a) then b else (if a < a then a else a))
def hi3 (a b c : Int) : Int := if (if (if a < a then a else a) < b then b else (if a < a then a else a)) < c then c else (if (if a < a then a else a) < b then b else (if a < a then a else a))
theorem lo3_le (a b c : Int) : lo3 a b c ≤ a ∧ lo3 a b c ≤ b ∧ lo3 a b c ≤ c := by
  unfold lo3; simp only [Int.lt_irrefl, if_false]; split <;> split at * <;> omega
theorem le_hi3 (a b c : Int) : a ≤ hi3 a b c ∧ b ≤ hi3 a b c ∧ c ≤ hi3 a b c := by
  unfold hi3; simp only [Int.lt_irrefl, if_false]; split <;> split at * <;> omega
theorem lo3_in (a b c : Int) : lo3 a b c = a ∨ lo3 a b c = b ∨ lo3 a b c = c := by
  unfold lo3; simp only [Int.lt_irrefl, if_false]; split <;> split at * <;> omega
theorem hi3_in (a b c : Int) : hi3 a b c = a ∨ hi3 a b c = b ∨ hi3 a b c = c := by
  unfold hi3; simp only [Int.lt_irrefl, if_false]; split <;> split at * <;> omega
/-- the gap between two intervals -/
def gp (a b c d : Int) : Int := mx (mx 0 (c - b)) (a - d)
theorem gp_nn (a b c d : Int) : 0 ≤ gp a b c d := Int.le_trans (le_mx1 0 _) (le_mx1 _ _)
theorem gp_comm (a b c d : Int) : gp c d a b = gp a b c d := by unfold gp mx; repeat' split <;> omega
/-- the squared distance of two boxes -/
def nr (a b c d : P3) : Int := gp a.1 b.1 c.1 d.1 * gp a.1 b.1 c.1 d.1 + gp a.2.1 b.2.1 c.2.1 d.2.1 * gp a.2.1 b.2.1 c.2.1 d.2.1 + gp a.2.2 b.2.2 c.2.2 d.2.2 * gp a.2.2 b.2.2 c.2.2 d.2.2
def blo (c : PN) : P3 := (lo3 c.1.1 c.2.1.1 c.2.2.1, lo3 c.1.2.1 c.2.1.2.1 c.2.2.2.1, lo3 c.1.2.2 c.2.1.2.2 c.2.2.2.2)
def bhi (c : PN) : P3 := (hi3 c.1.1 c.2.1.1 c.2.2.1, hi3 c.1.2.1 c.2.1.2.1 c.2.2.2.1, hi3 c.1.2.2 c.2.1.2.2 c.2.2.2.2)
theorem blo_bd {m : Int} {c : PN} (h : bdP m c) : bd m (blo c) := by
  have h1 := lo3_in c.1.1 c.2.1.1 c.2.2.1; have h2 := lo3_in c.1.2.1 c.2.1.2.1 c.2.2.2.1; have h3 := lo3_in c.1.2.2 c.2.1.2.2 c.2.2.2.2
  have ha := h.1; have hb := h.2.1; have hc := h.2.2
  unfold bd at *; simp only [blo]; omega
theorem bhi_bd {m : Int} {c : PN} (h : bdP m c) : bd m (bhi c) := by
  have h1 := hi3_in c.1.1 c.2.1.1 c.2.2.1; have h2 := hi3_in c.1.2.1 c.2.1.2.1 c.2.2.2.1; have h3 := hi3_in c.1.2.2 c.2.1.2.2 c.2.2.2.2
  have ha := h.1; have hb := h.2.1; have hc := h.2.2
  unfold bd at *; simp only [bhi]; omega
theorem box3 (c : PN) : F147_3 c = (blo c, bhi c) := rfl
theorem box1 (x : P3) : F147_1 x = (x, x) := by
  have key : ∀ a : Int, (if a < a then a else a) = a := fun a => by split <;> rfl
  unfold F147_1
  simp only [key]
theorem gap_f {a b c d : Int} (ha : -5000 ≤ a ∧ a ≤ 5000) (hb : -5000 ≤ b ∧ b ≤ 5000) (hc : -5000 ≤ c ∧ c ≤ 5000) (hd : -5000 ≤ d ∧ d ≤ 5000) : F148 a b c d = gp a b c d := by
  unfold F148
  rw [W_eq (n := c - b) (by omega) (by omega), W_eq (n := a - d) (by omega) (by omega)]; rfl
theorem gp_bd {a b c d : Int} (ha : -5000 ≤ a ∧ a ≤ 5000) (hb : -5000 ≤ b ∧ b ≤ 5000) (hc : -5000 ≤ c ∧ c ≤ 5000) (hd : -5000 ≤ d ∧ d ≤ 5000) : 0 ≤ gp a b c d ∧ gp a b c d ≤ 10000 :=
  ⟨gp_nn _ _ _ _, mx_le (mx_le (by omega) (by omega)) (by omega)⟩
theorem nrF {a b c d : P3} (ha : bd 5000 a) (hb : bd 5000 b) (hc : bd 5000 c) (hd : bd 5000 d) :
    F58 (F148 a.1 b.1 c.1 d.1, F148 a.2.1 b.2.1 c.2.1 d.2.1, F148 a.2.2 b.2.2 c.2.2 d.2.2) (F148 a.1 b.1 c.1 d.1, F148 a.2.1 b.2.1 c.2.1 d.2.1, F148 a.2.2 b.2.2 c.2.2 d.2.2) = nr a b c d := by
  rw [gap_f ha.1 hb.1 hc.1 hd.1, gap_f ha.2.1 hb.2.1 hc.2.1 hd.2.1, gap_f ha.2.2 hb.2.2 hc.2.2 hd.2.2]
  have h1 := gp_bd ha.1 hb.1 hc.1 hd.1; have h2 := gp_bd ha.2.1 hb.2.1 hc.2.1 hd.2.1; have h3 := gp_bd ha.2.2 hb.2.2 hc.2.2 hd.2.2
  have hv : bd 1000000000 (gp a.1 b.1 c.1 d.1, gp a.2.1 b.2.1 c.2.1 d.2.1, gp a.2.2 b.2.2 c.2.2 d.2.2) := by unfold bd; simp only; omega
  rw [fdt hv hv]; rfl
theorem near31 {c : PN} {x : P3} (hc : bdP 5000 c) (hx : bd 5000 x) : F109_3_1 c x = nr (blo c) (bhi c) x x := by
  unfold F109_3_1
  rw [box3, box1]
  exact nrF (blo_bd hc) (bhi_bd hc) hx hx
theorem near33 {c q : PN} (hc : bdP 5000 c) (hq : bdP 5000 q) : F109_3_3 c q = nr (blo c) (bhi c) (blo q) (bhi q) := by
  unfold F109_3_3
  rw [box3, box3]
  exact nrF (blo_bd hc) (bhi_bd hc) (blo_bd hq) (bhi_bd hq)
/-! the reference's -/
theorem bounds3 (a b c : Int) : F159_L [a, b, c] = (lo3 a b c, hi3 a b c) := rfl
theorem bounds1 (a : Int) : F159_L [a] = (a, a) := by
  have key : ∀ a : Int, (if a < a then a else a) = a := fun a => by split <;> rfl
  show ((if a < a then a else a), (if a < a then a else a)) = _
  rw [key]
theorem gap_r {l m : List Int} {a b c d : Int} (hl : F159_L l = (a, b)) (hm : F159_L m = (c, d)) (ha : -5000 ≤ a ∧ a ≤ 5000) (hb : -5000 ≤ b ∧ b ≤ 5000) (hc : -5000 ≤ c ∧ c ≤ 5000) (hd : -5000 ≤ d ∧ d ≤ 5000) :
    F143_L_L l m = gp a b c d * gp a b c d := by
  unfold F143_L_L
  rw [hl, hm]
  simp only
  rw [W_eq (n := a - d) (by omega) (by omega), W_eq (n := c - b) (by omega) (by omega)]
  have e : (if ((if (0 : Int) < a - d then a - d else 0) : Int) < c - b then c - b else (if (0 : Int) < a - d then a - d else 0)) = gp a b c d := gp_comm a b c d
  rw [e]
  have h1 := gp_bd ha hb hc hd
  have h2 := mul_bd (a := 10000) (b := 10000) (x := gp a b c d) (y := gp a b c d) (by omega) (by omega)
  exact W_eq (by omega) (by omega)
theorem sum3 {a b c : Int} (ha : 0 ≤ a ∧ a ≤ 100000000) (hb : 0 ≤ b ∧ b ≤ 100000000) (hc : 0 ≤ c ∧ c ≤ 100000000) : W ((W (a + b)) + c) = a + b + c := by
  rw [W_eq (n := a + b) (by omega) (by omega), W_eq (by omega) (by omega)]
theorem close1 {c : PN} {x : P3} (hc : bdP 5000 c) (hx : bd 5000 x) : F95_1 c x = nr (blo c) (bhi c) x x := by
  unfold F95_1
  have hl := blo_bd hc; have hh := bhi_bd hc
  have g1 := gap_r (l := F144_3 c 0) (m := F144_1 x 0) (bounds3 c.1.1 c.2.1.1 c.2.2.1) (bounds1 x.1) hl.1 hh.1 hx.1 hx.1
  have g2 := gap_r (l := F144_3 c 1) (m := F144_1 x 1) (bounds3 c.1.2.1 c.2.1.2.1 c.2.2.2.1) (bounds1 x.2.1) hl.2.1 hh.2.1 hx.2.1 hx.2.1
  have g3 := gap_r (l := F144_3 c 2) (m := F144_1 x 2) (bounds3 c.1.2.2 c.2.1.2.2 c.2.2.2.2) (bounds1 x.2.2) hl.2.2 hh.2.2 hx.2.2 hx.2.2
  have b1 := gp_bd hl.1 hh.1 hx.1 hx.1; have b2 := gp_bd hl.2.1 hh.2.1 hx.2.1 hx.2.1; have b3 := gp_bd hl.2.2 hh.2.2 hx.2.2 hx.2.2
  have m1 := mul_bd (a := 10000) (b := 10000) (by omega) (by omega) (x := gp (blo c).1 (bhi c).1 x.1 x.1) (y := gp (blo c).1 (bhi c).1 x.1 x.1)
  have m2 := mul_bd (a := 10000) (b := 10000) (by omega) (by omega) (x := gp (blo c).2.1 (bhi c).2.1 x.2.1 x.2.1) (y := gp (blo c).2.1 (bhi c).2.1 x.2.1 x.2.1)
  have m3 := mul_bd (a := 10000) (b := 10000) (by omega) (by omega) (x := gp (blo c).2.2 (bhi c).2.2 x.2.2 x.2.2) (y := gp (blo c).2.2 (bhi c).2.2 x.2.2 x.2.2)
  refine (show _ = _ from ?_)
  rw [show F143_L_L (F144_3 c 0) (F144_1 x 0) = _ from g1, show F143_L_L (F144_3 c 1) (F144_1 x 1) = _ from g2, show F143_L_L (F144_3 c 2) (F144_1 x 2) = _ from g3]
  exact sum3 ⟨sq_nn _, by have := m1.2; exact this⟩ ⟨sq_nn _, by have := m2.2; exact this⟩ ⟨sq_nn _, by have := m3.2; exact this⟩
theorem close3 {c q : PN} (hc : bdP 5000 c) (hq : bdP 5000 q) : F95_3 c q = nr (blo c) (bhi c) (blo q) (bhi q) := by
  unfold F95_3
  have hl := blo_bd hc; have hh := bhi_bd hc; have kl := blo_bd hq; have kh := bhi_bd hq
  have g1 := gap_r (l := F144_3 c 0) (m := F144_3 q 0) (bounds3 c.1.1 c.2.1.1 c.2.2.1) (bounds3 q.1.1 q.2.1.1 q.2.2.1) hl.1 hh.1 kl.1 kh.1
  have g2 := gap_r (l := F144_3 c 1) (m := F144_3 q 1) (bounds3 c.1.2.1 c.2.1.2.1 c.2.2.2.1) (bounds3 q.1.2.1 q.2.1.2.1 q.2.2.2.1) hl.2.1 hh.2.1 kl.2.1 kh.2.1
  have g3 := gap_r (l := F144_3 c 2) (m := F144_3 q 2) (bounds3 c.1.2.2 c.2.1.2.2 c.2.2.2.2) (bounds3 q.1.2.2 q.2.1.2.2 q.2.2.2.2) hl.2.2 hh.2.2 kl.2.2 kh.2.2
  have b1 := gp_bd hl.1 hh.1 kl.1 kh.1; have b2 := gp_bd hl.2.1 hh.2.1 kl.2.1 kh.2.1; have b3 := gp_bd hl.2.2 hh.2.2 kl.2.2 kh.2.2
  have m1 := mul_bd (a := 10000) (b := 10000) (by omega) (by omega) (x := gp (blo c).1 (bhi c).1 (blo q).1 (bhi q).1) (y := gp (blo c).1 (bhi c).1 (blo q).1 (bhi q).1)
  have m2 := mul_bd (a := 10000) (b := 10000) (by omega) (by omega) (x := gp (blo c).2.1 (bhi c).2.1 (blo q).2.1 (bhi q).2.1) (y := gp (blo c).2.1 (bhi c).2.1 (blo q).2.1 (bhi q).2.1)
  have m3 := mul_bd (a := 10000) (b := 10000) (by omega) (by omega) (x := gp (blo c).2.2 (bhi c).2.2 (blo q).2.2 (bhi q).2.2) (y := gp (blo c).2.2 (bhi c).2.2 (blo q).2.2 (bhi q).2.2)
  rw [show F143_L_L (F144_3 c 0) (F144_3 q 0) = _ from g1, show F143_L_L (F144_3 c 1) (F144_3 q 1) = _ from g2, show F143_L_L (F144_3 c 2) (F144_3 q 2) = _ from g3]
  exact sum3 ⟨sq_nn _, by have := m1.2; exact this⟩ ⟨sq_nn _, by have := m2.2; exact this⟩ ⟨sq_nn _, by have := m3.2; exact this⟩

end Go.Proofs.Ytjlekmjnkpcnoaa
