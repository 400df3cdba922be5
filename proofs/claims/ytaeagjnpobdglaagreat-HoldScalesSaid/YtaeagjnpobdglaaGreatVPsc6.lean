/-
  Parts of the proofs of the laws: the executor, what functions of the program compute, and that it is what the statements ask. No premise.
-/
import Derived.Test.YtaeagjnpobdglaaGreatVPsc5
set_option linter.unusedVariables false
set_option linter.unusedSimpArgs false
set_option maxHeartbeats 4000000
open Int (toNat)
namespace Go.Proofs.YtaeagjnpobdglaaGreat
open Go.Proofs Go.Aw Go.RowKit
set_option maxRecDepth 100000

theorem isum_le {α : Type} {f g : α → Int} : ∀ {l : List α}, (∀ c ∈ l, f c ≤ g c) → (l.map f).sum ≤ (l.map g).sum
 | [], _ => Int.le_refl _
 | c :: l, h => by
   have h1 := h c List.mem_cons_self
   have h2 := isum_le (l := l) (fun x hx => h x (List.mem_cons_of_mem _ hx))
   simp only [List.map_cons, List.sum_cons]; omega
theorem isum_mul {α : Type} (a : Int) (f : α → Int) : ∀ l : List α, (l.map fun c => a * f c).sum = a * (l.map f).sum
 | [] => by simp
 | c :: l => by simp only [List.map_cons, List.sum_cons]; rw [isum_mul a f l, Int.mul_add]
theorem isum_const {α : Type} (a : Int) : ∀ l : List α, (l.map fun _ => a).sum = (l.length : Int) * a
 | [] => by simp
 | c :: l => by simp only [List.map_cons, List.sum_cons, List.length_cons]; rw [isum_const a l, show ((l.length + 1 : Nat) : Int) = (l.length : Int) + 1 by omega, Int.add_mul]; omega
theorem avg_lo {v : Int × Int} {n : Int} (hn : 1 ≤ n) : n * (avg v n).1 ≤ v.1 := Int.mul_ediv_self_le (by omega)
theorem avg_hi {v : Int × Int} {n : Int} (hn : 1 ≤ n) : v.2 ≤ n * (avg v n).2 := by
 have := Int.mul_ediv_self_le (x := -v.2) (k := n) (by omega)
 show v.2 ≤ n * -(-v.2 / n)
 rw [Int.mul_neg]; omega
theorem sc2_pos (d : Int) : 1 ≤ sc d * sc d := by
 rcases sc_in d with h | h | h | h <;> rw [h] <;> decide
theorem bet_lo (p q : PN) (d : Int) : sc d * sc d * (betS p q d).1 ≤ ((cutL d.toNat p).map (bLo d q)).sum := by
 unfold betS
 refine Int.le_trans (avg_lo (sc2_pos d)) ?_
 rw [accS_eq]; simp only [Int.zero_add]; exact Int.le_refl _
theorem bet_hi (p q : PN) (d : Int) : ((cutL d.toNat p).map (bHi (F117 p d) d q)).sum ≤ sc d * sc d * (betS p q d).2 := by
 unfold betS
 refine Int.le_trans ?_ (avg_hi (sc2_pos d))
 rw [accS_eq]; simp only [Int.zero_add]; exact Int.le_refl _
theorem PL_ge {d : Int} {L : List (PN × Int)} (hL : ∀ e ∈ L, vp e.1 = 0 ∧ 0 ≤ e.2) (p : PN) : sc d * sc d * (L.map fun e => e.2 * (betS e.1 (tmP (sc d) p) d).1).sum ≤ PLs d L p := by
 unfold PLs
 rw [← isum_mul]
 refine isum_le (fun e he => ?_)
 rw [isum_mul]
 have := Int.mul_le_mul_of_nonneg_left (bet_lo e.1 (tmP (sc d) p) d) (hL e he).2
 have e1 : sc d * sc d * (e.2 * (betS e.1 (tmP (sc d) p) d).1) = e.2 * (sc d * sc d * (betS e.1 (tmP (sc d) p) d).1) := by grind
 rw [e1]; exact this
theorem bHi_part {p q b : PN} {d : Int} {c : PN} (hp : vp p = 0) (hq : vp q = 0) (hd : 0 ≤ d ∧ d ≤ 2) (hc : c ∈ cutL d.toNat p) (hb : b ∈ cutL d.toNat q) : bHi (F117 p d) d b c ≤ bHi (F117 p d) d (tmP (sc d) q) c := by
 have hn := ne3_part (a := c) (vp_ok hq).1 (d := d) (by omega) hb
 have hN : 1 ≤ NN (sc d) ∧ NN (sc d) ≤ 288230376151711744 := by
   have : d = 0 ∨ d = 1 ∨ d = 2 := by omega
   rcases this with rfl | rfl | rfl <;> decide
 unfold bHi
 by_cases h1 : 0 < ne3 c (tmP (sc d) q)
 · rw [if_pos h1, if_pos (show 0 < ne3 c b by omega)]
   have hm : (of1 (sc d) (ne3 c b)).2 ≤ (of1 (sc d) (ne3 c (tmP (sc d) q))).2 := by
     unfold of1
     rw [if_neg (by omega), if_neg (by omega)]
     exact inv_hi_mono hN (by omega) hn
   split <;> split <;> omega
 · rw [if_neg h1]
   split
   · split <;> omega
   · omega
theorem ES_bet {d : Int} (hd : 0 ≤ d ∧ d ≤ 2) {L : List (PN × Int)} (hL : ∀ e ∈ L, vp e.1 = 0 ∧ 0 ≤ e.2) : ESum d L ≤ (sc d * sc d) * (sc d * sc d) * (L.map fun e' => e'.2 * (L.map fun e => e.2 * (betS e.1 (tmP (sc d) e'.1) d).2).sum).sum := by
 unfold ESum
 rw [← isum_mul]
 refine isum_le (fun e' he' => ?_)
 have key : ∀ b ∈ cutL d.toNat e'.1, e'.2 * (L.map fun e => ((cutL d.toNat e.1).map fun c => e.2 * bHi (F117 e.1 d) d b c).sum).sum ≤ e'.2 * (sc d * sc d * (L.map fun e => e.2 * (betS e.1 (tmP (sc d) e'.1) d).2).sum) := by
   intro b hb
   refine Int.mul_le_mul_of_nonneg_left ?_ (hL e' he').2
   rw [← isum_mul]
   refine isum_le (fun e he => ?_)
   rw [isum_mul]
   have h1 := isum_le (l := cutL d.toNat e.1) (f := bHi (F117 e.1 d) d b) (g := bHi (F117 e.1 d) d (tmP (sc d) e'.1)) (fun c hc => bHi_part (hL e he).1 (hL e' he').1 hd hc hb)
   have h2 := Int.le_trans h1 (bet_hi e.1 (tmP (sc d) e'.1) d)
   have h3 := Int.mul_le_mul_of_nonneg_left h2 (hL e he).2
   have e1 : sc d * sc d * (e.2 * (betS e.1 (tmP (sc d) e'.1) d).2) = e.2 * (sc d * sc d * (betS e.1 (tmP (sc d) e'.1) d).2) := by grind
   rw [e1]; exact h3
 refine Int.le_trans (isum_le key) ?_
 rw [isum_const, cnt_len (by omega) e'.1]
 exact Int.le_of_eq (by grind)
theorem ES_mut {d : Int} (hd : 0 ≤ d ∧ d ≤ 2) {L : List (PN × Int)} (hL : ∀ e ∈ L, vp e.1 = 0 ∧ 0 ≤ e.2) : ESum d L ≤ (sc d * sc d) * (sc d * sc d) * (L.map fun e' => (L.map fun e => e.2 * e'.2 * (mutV e.1 e'.1 d).1.2).sum).sum := by
 unfold ESum
 rw [← isum_mul]
 refine isum_le (fun e' he' => ?_)
 -- exchange the sums over b and e
 have ex : ((cutL d.toNat e'.1).map fun b => e'.2 * (L.map fun e => ((cutL d.toNat e.1).map fun c => e.2 * bHi (F117 e.1 d) d b c).sum).sum).sum = (L.map fun e => ((cutL d.toNat e'.1).map fun b => e'.2 * ((cutL d.toNat e.1).map fun c => e.2 * bHi (F117 e.1 d) d b c).sum).sum).sum := by
   have sw : ∀ (A : List PN) (B : List (PN × Int)) (f : PN → PN × Int → Int), (A.map fun a => (B.map fun b => f a b).sum).sum = (B.map fun b => (A.map fun a => f a b).sum).sum := by
     intro A B f
     induction A with
     | nil => simp only [List.map_nil, List.sum_nil]; rw [isum_const]; omega
     | cons a A ih =>
       simp only [List.map_cons, List.sum_cons, ih]
       clear ih
       induction B with
       | nil => simp
       | cons b B ih2 => simp only [List.map_cons, List.sum_cons]; omega
   have e2 : ((cutL d.toNat e'.1).map fun b => e'.2 * (L.map fun e => ((cutL d.toNat e.1).map fun c => e.2 * bHi (F117 e.1 d) d b c).sum).sum) = ((cutL d.toNat e'.1).map fun b => (L.map fun e => e'.2 * ((cutL d.toNat e.1).map fun c => e.2 * bHi (F117 e.1 d) d b c).sum).sum) := by
     refine List.map_congr_left (fun b _ => ?_)
     rw [isum_mul]
   rw [e2]; exact sw _ _ _
 rw [ex, ← isum_mul]
 refine isum_le (fun e he => ?_)
 have hpk : pk e.1 e'.1 d = 0 := by unfold pk; rw [if_pos (hL e he).1, if_pos (hL e' he').1, if_pos hd]
 have hm : (mutV e.1 e'.1 d).1.2 = (avg (sums (mutL e.1 e'.1 d) (0, 0)) (sc d * sc d)).2 := by unfold mutV; rw [if_pos hpk]
 have h1 : ((cutL d.toNat e'.1).map fun b => e'.2 * ((cutL d.toNat e.1).map fun c => e.2 * bHi (F117 e.1 d) d b c).sum).sum ≤ e.2 * e'.2 * (sc d * sc d * ((cutL d.toNat e'.1).map fun b => (betS e.1 b d).2).sum) := by
   rw [← isum_mul, ← isum_mul]
   refine isum_le (fun b hb => ?_)
   rw [isum_mul]
   have h2 := bet_hi e.1 b d
   have h3 := Int.mul_le_mul_of_nonneg_left h2 (Int.mul_nonneg (hL e he).2 (hL e' he').2)
   have e1 : e'.2 * (e.2 * ((cutL d.toNat e.1).map fun c => bHi (F117 e.1 d) d b c).sum) = e.2 * e'.2 * ((cutL d.toNat e.1).map (bHi (F117 e.1 d) d b)).sum := by grind
   rw [e1]; exact h3
 refine Int.le_trans h1 ?_
 have h4 := avg_hi (v := sums (mutL e.1 e'.1 d) (0, 0)) (sc2_pos d)
 rw [sums_eq] at h4
 have e3 : (((0 : Int), (0 : Int)).2 + ((mutL e.1 e'.1 d).map (·.2)).sum) = ((cutL d.toNat e'.1).map fun b => (betS e.1 b d).2).sum := by
   unfold mutL
   rw [List.map_map]
   simp only [Int.zero_add]
   rfl
 simp only at h4 e3
 rw [e3] at h4
 rw [hm, sums_eq]
 have h5 := Int.mul_le_mul_of_nonneg_left h4 (show 0 ≤ sc d * sc d by have := sc2_pos d; omega)
 have h6 := Int.mul_le_mul_of_nonneg_left h5 (Int.mul_nonneg (hL e he).2 (hL e' he').2)
 exact Int.le_trans h6 (Int.le_of_eq (by grind))
structure Sys (L : List (PN × Int)) (d Q mx E mn : Int) : Prop where
 hd : 0 ≤ d ∧ d ≤ 2
 hL : ∀ e ∈ L, vp e.1 = 0 ∧ 0 ≤ e.2
 hQ : qsum L = Q
 Q1 : 1 ≤ Q
 E1 : 1 ≤ E
 mx1 : 1 ≤ mx
 mn1 : 1 ≤ mn
 hmx : ∀ e ∈ L, (L.map fun e' => e'.2 * (betS e'.1 (tmP (sc d) e.1) d).2).sum ≤ mx
 hmn : ∀ e ∈ L, mn ≤ (L.map fun e' => e'.2 * (betS e'.1 (tmP (sc d) e.1) d).1).sum
 hE : (L.map fun e' => (L.map fun e => e.2 * e'.2 * (mutV e.1 e'.1 d).1.2).sum).sum ≤ E
theorem sys_bet {L : List (PN × Int)} {d Q mx E mn : Int} (S : Sys L d Q mx E mn) : ESum d L ≤ (sc d * sc d) * (sc d * sc d) * (Q * mx) := by
 refine Int.le_trans (ES_bet S.hd S.hL) (Int.mul_le_mul_of_nonneg_left ?_ (Int.mul_nonneg (by have := sc2_pos d; omega) (by have := sc2_pos d; omega)))
 have h1 := isum_le (l := L) (f := fun e' => e'.2 * (L.map fun e => e.2 * (betS e.1 (tmP (sc d) e'.1) d).2).sum) (g := fun e' => mx * e'.2) (fun e' he' => by
   have := Int.mul_le_mul_of_nonneg_left (S.hmx e' he') (S.hL e' he').2
   exact Int.le_trans this (Int.le_of_eq (Int.mul_comm _ _)))
 rw [isum_mul] at h1
 have : (L.map (·.2)).sum = Q := S.hQ
 rw [this] at h1
 exact Int.le_trans h1 (Int.le_of_eq (Int.mul_comm _ _))
theorem sys_mut {L : List (PN × Int)} {d Q mx E mn : Int} (S : Sys L d Q mx E mn) : ESum d L ≤ (sc d * sc d) * (sc d * sc d) * E :=
 Int.le_trans (ES_mut S.hd S.hL) (Int.mul_le_mul_of_nonneg_left S.hE (Int.mul_nonneg (by have := sc2_pos d; omega) (by have := sc2_pos d; omega)))
theorem cancel_pos {a b k : Int} (hk : 1 ≤ k) (h : k * a ≤ k * b) : a ≤ b := Int.le_of_mul_le_mul_left h (by omega)
theorem sys_pair {L L' : List (PN × Int)} {d Q mx E mn d' Q' mx' E' mn' : Int} (S : Sys L d Q mx E mn) (S' : Sys L' d' Q' mx' E' mn')
   (hV : ∀ e ∈ L, mn' ≤ (L'.map fun e' => e'.2 * (betS e'.1 (tmP (sc d') e.1) d').1).sum) : Q * Q * mn' ≤ Q' * E ∧ Q * mn' ≤ Q' * mx := by
 have hV0 : ∀ e ∈ L, sc d' * sc d' * mn' ≤ PLs d' L' e.1 := fun e he =>
   Int.le_trans (Int.mul_le_mul_of_nonneg_left (hV e he) (by have := sc2_pos d'; omega)) (PL_ge S'.hL e.1)
 have a := phyA S.hd S'.hd S.hL S'.hL hV0 (sys_mut S)
 have b := phyA S.hd S'.hd S.hL S'.hL hV0 (sys_bet S)
 rw [S.hQ, S'.hQ] at a b
 have n1 := sc2_pos d; have n2 := sc2_pos d'
 generalize sc d * sc d = n at *
 generalize sc d' * sc d' = n' at *
 have nn : 1 ≤ n * n := by have := Int.mul_le_mul (a := 1) (b := 1) (c := n) (d := n) n1 n1 (by omega) (by omega); omega
 have nnn : 1 ≤ n * n * n' := by have := Int.mul_le_mul (a := 1) (b := 1) (c := n * n) (d := n') nn n2 (by omega) (by omega); omega
 refine ⟨cancel_pos nnn ?_, cancel_pos S.Q1 (cancel_pos nnn ?_)⟩
 · have e1 : n * n * n' * (Q * Q * mn') = n * Q * (n * Q) * (n' * mn') := by grind
   have e2 : n * n * n' * (Q' * E) = n' * Q' * (n * n * E) := by grind
   rw [e1, e2]; exact a
 · have e1 : n * n * n' * (Q * (Q * mn')) = n * Q * (n * Q) * (n' * mn') := by grind
   have e2 : n * n * n' * (Q * (Q' * mx)) = n' * Q' * (n * n * (Q * mx)) := by grind
   rw [e1, e2]; exact b
theorem sys_ball {L : List (PN × Int)} {d Q mx E mn : Int} (S : Sys L d Q mx E mn) {c : P3} {m B : Int} (hc : bd 256 c) (hm : ∀ e ∈ L, ds e.1.1 c ≤ m ∧ ds e.1.2.1 c ≤ m ∧ ds e.1.2.2 c ≤ m) (hm1 : 1 ≤ m) (hB : m * 1099511627776 ≤ B * B) (hB0 : 1 ≤ B) : Q * Q * 1099511627776 ≤ B * E ∧ Q * 1099511627776 ≤ B * mx := by
 have a := phyB S.hd S.hL hc hm hm1 hB hB0 (sys_mut S)
 have b := phyB S.hd S.hL hc hm hm1 hB hB0 (sys_bet S)
 rw [S.hQ] at a b
 have n1 := sc2_pos d
 generalize sc d * sc d = n at *
 have nn : 1 ≤ n * n := by have := Int.mul_le_mul (a := 1) (b := 1) (c := n) (d := n) n1 n1 (by omega) (by omega); omega
 refine ⟨cancel_pos nn ?_, cancel_pos S.Q1 (cancel_pos nn ?_)⟩
 · have e1 : n * n * (Q * Q * 1099511627776) = n * Q * (n * Q) * 1099511627776 := by grind
   have e2 : n * n * (B * E) = B * (n * n * E) := by grind
   rw [e1, e2]; exact a
 · have e1 : n * n * (Q * (Q * 1099511627776)) = n * Q * (n * Q) * 1099511627776 := by grind
   have e2 : n * n * (Q * (B * mx)) = B * (n * n * (Q * mx)) := by grind
   rw [e1, e2]; exact b


theorem sat_in {x n : Int} (h1 : -1099511627776 ≤ sat x n) (h2 : sat x n ≤ 1099511627776) : sat x n = x * n := by
 unfold sat at *
 split at h1 <;> rename_i a
 · rw [if_pos a] at h2; omega
 · rw [if_neg a] at h2 ⊢
   split at h1 <;> rename_i b
   · omega
   · rw [if_neg b]
theorem scl_val {a : Int × Int} {n : Int} (ha : okP a) (hn : 0 ≤ n ∧ n ≤ 10000) (h : (F17 a n).2 = 0) : (F17 a n).1 = (a.1 * n, a.2 * n) := by
 rw [Scale_f (okP_vs ha) (by omega)] at h ⊢
 rcases res_cases (scl a n).1 (scl a n).2 with ⟨e, v⟩ | e
 · rw [e]
   have hs : scl a n = (sat a.1 n, sat a.2 n) := by unfold scl; rw [if_neg (by omega)]
   rw [hs] at v ⊢
   unfold vs at v
   simp only at v ⊢
   rw [sat_in v.1 (by omega), sat_in (x := a.2) (by omega) v.2.2]
 · rw [e] at h; exact absurd h (by decide)
theorem add_val {l : List ((Int × Int) × Int)} (hl : ∀ c ∈ l, okP c.1 ∧ 0 ≤ c.2 ∧ c.2 ≤ 10000) (h : (addV l).2 = 0) : (addV l).1 = ((l.map fun c => c.1.1 * c.2).sum, (l.map fun c => c.1.2 * c.2).sum) := by
 unfold addV at h ⊢
 cases hs : shs sclV l [] with
 | inr r => rw [hs] at h; exact absurd h (shs_inr hs)
 | inl m =>
   rw [hs] at h
   simp only [out8] at h ⊢
   obtain ⟨e, hv⟩ := sumV_0 h
   rw [e]
   obtain ⟨e2, h0⟩ := shs_inl hs
   rw [List.nil_append] at e2
   rw [sums_eq, e2]
   simp only [Int.zero_add, List.map_map]
   refine Prod.ext ?_ ?_
   · refine congrArg List.sum (List.map_congr_left fun c hc => ?_)
     show (F17 c.1 c.2).1.1 = _
     rw [scl_val (hl c hc).1 (hl c hc).2 (h0 c hc)]
   · refine congrArg List.sum (List.map_congr_left fun c hc => ?_)
     show (F17 c.1 c.2).1.2 = _
     rw [scl_val (hl c hc).1 (hl c hc).2 (h0 c hc)]
theorem pot_val {T : TB} {q : List Int} (hT : ∀ r ∈ T, r.length = q.length ∧ ∀ s ∈ r, okP s) (hq : okC q) (h : (potV T q).2 = 0) :
   (potV T q).1 = T.map fun r => (((r.zip q).map fun c => c.1.1 * c.2).sum, ((r.zip q).map fun c => c.1.2 * c.2).sum) := by
 unfold potV at h ⊢
 cases hs : shs (fun r : List (Int × Int) => addV (r.zip q)) T [] with
 | inr r => rw [hs] at h; exact absurd h (shs_inr hs)
 | inl m =>
   simp only [out8]
   obtain ⟨e, h0⟩ := shs_inl hs
   rw [List.nil_append] at e
   subst e
   refine List.map_congr_left fun r hr => ?_
   obtain ⟨hl, hP⟩ := hT r hr
   exact add_val (l := r.zip q) (fun c hc => ⟨hP _ (List.of_mem_zip hc).1, by have := hq _ (List.of_mem_zip hc).2; omega⟩) (h0 r hr)
theorem mxF_ge : ∀ (l : List (Int × Int)) (v : Int), v ≤ mxF l v ∧ ∀ s ∈ l, s.2 ≤ mxF l v
 | [], v => ⟨Int.le_refl _, fun s hs => by cases hs⟩
 | a :: l, v => by
   have ih := mxF_ge l (imx v a.2)
   have hb : v ≤ imx v a.2 ∧ a.2 ≤ imx v a.2 := by unfold imx; split <;> omega
   refine ⟨Int.le_trans hb.1 ih.1, fun s hs => ?_⟩
   rcases List.mem_cons.1 hs with rfl | hs
   · exact Int.le_trans hb.2 ih.1
   · exact ih.2 s hs
theorem mnF_le : ∀ (l : List (Int × Int)) (v : Int), mnF l v ≤ v ∧ ∀ s ∈ l, mnF l v ≤ s.1
 | [], v => ⟨Int.le_refl _, fun s hs => by cases hs⟩
 | a :: l, v => by
   have ih := mnF_le l (imn v a.1)
   have hb : imn v a.1 ≤ v ∧ imn v a.1 ≤ a.1 := by unfold imn; split <;> omega
   refine ⟨Int.le_trans ih.1 hb.1, fun s hs => ?_⟩
   rcases List.mem_cons.1 hs with rfl | hs
   · exact Int.le_trans ih.1 hb.2
   · exact ih.2 s hs
theorem mnF_pos : ∀ (l : List (Int × Int)) (v : Int), 1 ≤ v → (∀ s ∈ l, 1 ≤ s.1) → 1 ≤ mnF l v
 | [], v, h, _ => h
 | a :: l, v, h, h2 => mnF_pos l (imn v a.1) (by have := h2 a List.mem_cons_self; unfold imn; split <;> omega) (fun s hs => h2 s (List.mem_cons_of_mem _ hs))
theorem mxF_vs : ∀ (l : List (Int × Int)) (v B : Int), v ≤ B → (∀ s ∈ l, s.2 ≤ B) → mxF l v ≤ B
 | [], v, B, h, _ => h
 | a :: l, v, B, h, h2 => mxF_vs l (imx v a.2) B (by have := h2 a List.mem_cons_self; unfold imx; split <;> omega) (fun s hs => h2 s (List.mem_cons_of_mem _ hs))
theorem lim_0 {n : Int} (h : (F97 n).2 = 0) : (F97 n).1 = n ∧ n ≤ 1099511627776 := by
 unfold F97 at h ⊢
 by_cases c : n > 1099511627776
 · rw [dqt c] at h; exact absurd h (show ¬ ((4 : Int) = 0) by decide)
 · rw [dqf c]; exact ⟨rfl, by omega⟩
abbrev chg (m : ME) (q : List Int) : List (PN × Int) := (pans m).zip q
theorem chg_sum {m : ME} {q : List Int} (hC : ChOK m q) : qsum (chg m q) = q.sum := by
 unfold qsum chg
 have hpl : (pans m).length = m.2.length := List.length_map _
 rw [List.map_snd_zip (by have := hC.len; omega)]
theorem chg_ok {m : ME} {q : List Int} (hC : ChOK m q) : ∀ e ∈ chg m q, vp e.1 = 0 ∧ 0 ≤ e.2 := by
 intro e he
 have h1 := List.of_mem_zip he
 refine ⟨?_, (hC.ok _ h1.2).1⟩
 obtain ⟨c, hc, e1⟩ := List.mem_map.1 h1.1
 rw [← e1]
 exact vld_pan hC.v c hc
structure BV (x : Int × Int) (Q mx E mn B : Int) : Prop where
 lo : ∃ b t, x.1 = imx b t ∧ 0 ≤ b ∧ 0 ≤ t ∧ b * mx ≤ Q * 1099511627776 ∧ t * E ≤ Q * Q * 1099511627776
 hi : ∃ a, x.2 = imn a B ∧ Q * 1099511627776 ≤ a * mn ∧ a ≤ 1099511627776
theorem bnd_facts {m : ME} {q : List Int} {d : Int} (h : (F11_L m q d).2 = 0) : ChOK m q ∧ ∃ Q mx E mn, Sys (chg m q) d Q mx E mn ∧ BV (F11_L m q d).1 Q mx E mn (F28 m (midV (bxV m))).1 := by
 unfold F11_L at h ⊢
 cases hc : ((F32_L (m.1, m.2) q d : Int) != 0) with
 | true => simp only [hc, cond_true] at h; rw [h] at hc; cases hc
 | false =>
   obtain ⟨hv, hd⟩ := chk_v (m := m) hc
   have hC : ChOK m q := by have hc2 : ((F32_L m q d : Int) != 0) = false := hc; rw [chk_h] at hc2; exact (chD_ok (bne_eq_false_iff_eq.1 hc2)).1
   refine ⟨hC, ?_⟩
   have hpf := prep_f (m := m) hv hd
   simp only [hc, cond_false] at h ⊢
   have hpf' : F33 (m.1, m.2) d = _ := hpf
   rw [hpf'] at h ⊢
   rw [show ((((((m.1, m.2), (F59_f60 m d).1, (F59_f61 m d).1, (F28 m (midV (bxV m))).1), 0) : TBL × Int).2 : Int) != 0) = false from rfl, cond_false] at h ⊢
   have eB : (F59_f60 m d).1 = (pans m).map (rowB m d) := by rw [tab_b hv hd]; rfl
   have eM : (F59_f61 m d).1 = MT m d := by rw [tab_m hv hd]; rfl
   simp only [eB, eM] at h ⊢
   have hn := hC.n; have hl := hC.len; have hs1 := hC.pos; have hle := hC.le
   have hpl : (pans m).length = m.2.length := List.length_map _
   have hrow : ∀ r ∈ (pans m).map (rowB m d), r.length = q.length ∧ ∀ s ∈ r, okP s := fun r hr => by
     obtain ⟨p, hp, rfl⟩ := List.mem_map.1 hr
     unfold rowB
     refine ⟨by rw [List.length_map]; omega, fun s hsm => ?_⟩
     obtain ⟨p', hp', rfl⟩ := List.mem_map.1 hsm
     exact (Between_okP (vld_pk hC.v hd hp' hp)).2
   have ep := pot_h (T := (pans m).map (rowB m d)) (q := q) (fun r hr => by rw [(hrow r hr).1]; exact Nat.le_refl _) (by omega)
   have ee := en_h (m := m) (q := q) (d := d) (by omega) (by omega)
   unfold F34_L at h ⊢
   simp only [ep, ee] at h ⊢
   generalize hB : (F28 m (midV (bxV m))).1 = B at *
   cases hP : ((((potV ((pans m).map (rowB m d)) q).2 : Int)) != 0) with
   | true => simp only [hP, cond_true] at h; rw [h] at hP; cases hP
   | false =>
     simp only [hP, cond_false] at h ⊢
     have hP0 := bne_eq_false_iff_eq.1 hP
     have pv := pot_val hrow hC.ok hP0
     have pp := pot_pos hrow hC.ok hP0
     cases hb : (((F64_L_L (potV ((pans m).map (rowB m d)) q).1 q).2 : Int) != 0) with
     | true => simp only [hb, cond_true] at h; rw [h] at hb; cases hb
     | false =>
       simp only [hb, cond_false] at h ⊢
       cases hE : (((addV (((pans m).zip q).flatMap (eC m q d))).2 : Int) != 0) with
       | true => simp only [hE, cond_true] at h; rw [h] at hE; cases hE
       | false =>
         simp only [hE, cond_false] at h ⊢
         have hE0 := bne_eq_false_iff_eq.1 hE
         have hzq : ∀ e ∈ (pans m).zip q, 0 ≤ e.2 ∧ e.2 ≤ 100 := fun e he => hC.ok _ (List.of_mem_zip he).2
         have hWq : ∀ c ∈ (pans m).zip q, ∀ e ∈ (pans m).zip q, W (c.2 * e.2) = c.2 * e.2 ∧ 0 ≤ c.2 * e.2 ∧ c.2 * e.2 ≤ 10000 := fun c hc e he => by
           have a := hzq c hc; have b := hzq e he
           have c1 := Int.mul_nonneg a.1 b.1
           have c2 := Int.mul_le_mul (a := c.2) (b := e.2) (c := 100) (d := 100) a.2 b.2 b.1 (by omega)
           exact ⟨W_eq (by omega) (by omega), c1, by omega⟩
         have hel : ∀ c ∈ ((pans m).zip q).flatMap (eC m q d), okP c.1 ∧ 0 ≤ c.2 ∧ c.2 ≤ 10000 := fun c hc => by
           obtain ⟨e, he, hc⟩ := List.mem_flatMap.1 hc
           obtain ⟨e', he', rfl⟩ := List.mem_map.1 hc
           have := hWq e he e' he'
           exact ⟨(Mutual_okP (vld_pk hC.v hd (List.of_mem_zip he).1 (List.of_mem_zip he').1)).2, by simp only; rw [this.1]; exact this.2.1, by simp only; rw [this.1]; exact this.2.2⟩
         have ev := add_val hel hE0
         have epos := en_pos hC hd hE0
         cases ht : (((F66_L (addV (((pans m).zip q).flatMap (eC m q d))).1 q).2 : Int) != 0) with
         | true => simp only [ht, cond_true] at h; rw [h] at ht; cases ht
         | false =>
           simp only [ht, cond_false] at h ⊢
           cases ha : (((F67_L_L (potV ((pans m).map (rowB m d)) q).1 q).2 : Int) != 0) with
           | true => simp only [ha, cond_true] at h; rw [h] at ha; cases ha
           | false =>
             simp only [cond_false]
             have tq := tot_eq hC.ok hC.pos (by omega)
             have o1 := one_eq hC.ok hC.pos (by omega)
             have hb0 := bne_eq_false_iff_eq.1 hb
             have ht0 := bne_eq_false_iff_eq.1 ht
             have ha0 := bne_eq_false_iff_eq.1 ha
             rw [below_f] at hb0 ⊢
             rw [above_f] at ha0 ⊢
             unfold F66_L at ht0 ⊢
             rw [tq.1] at hb0 ha0 ht0 ⊢
             rw [tq.1] at o1
             rw [o1] at ht0 ⊢
             simp only at ht0 ⊢
             generalize hl2 : (potV ((pans m).map (rowB m d)) q).1 = l at *
             have l1 : 1 ≤ l.length := by rw [pp.1, List.length_map]; omega
             have lv : ∀ s ∈ l, 1 ≤ s.1 ∧ s.1 ≤ s.2 ∧ s.2 ≤ 1099511627776 := fun s hs => by
               have := pp.2 s hs
               unfold vs at this; omega
             have l0m : l.getD (toNat 0) default ∈ l := by
               rw [show toNat 0 = 0 from rfl, gdq, List.getElem?_eq_getElem (show 0 < l.length by omega)]
               exact List.getElem_mem (show 0 < l.length by omega)
             have hmx := mxF_ge l (l.getD (toNat 0) default).2
             have hmn := mnF_le l (l.getD (toNat 0) default).1
             have mn1 := mnF_pos l (l.getD (toNat 0) default).1 (lv _ l0m).1 (fun s hs => (lv s hs).1)
             have mxb := mxF_vs l (l.getD (toNat 0) default).2 1099511627776 (lv _ l0m).2.2 (fun s hs => (lv s hs).2.2)
             have mx1 : 1 ≤ mxF l (l.getD (toNat 0) default).2 := by have := lv _ l0m; omega
             have mnb : mnF l (l.getD (toNat 0) default).1 ≤ 1099511627776 := by have := lv _ l0m; omega
             generalize mxF l (l.getD (toNat 0) default).2 = mx at *
             generalize mnF l (l.getD (toNat 0) default).1 = mn at *
             have hEE : (addV (((pans m).zip q).flatMap (eC m q d))).1.2 = ((((pans m).zip q).flatMap (eC m q d)).map fun c => c.1.2 * c.2).sum := by rw [ev]
             generalize hEg : (addV (((pans m).zip q).flatMap (eC m q d))).1.2 = E at *
             have hvE : E ≤ 1099511627776 := by have := epos.2; unfold vs at this; omega
             refine ⟨q.sum, mx, E, mn, ⟨hd, chg_ok hC, chg_sum hC, hC.pos, epos.1, mx1, mn1, ?_, ?_, ?_⟩, ⟨?_, ?_⟩⟩
             · intro e he
               have hx2 := hmx.2
               rw [pv] at hx2
               have hm := hx2 _ (List.mem_map.2 ⟨rowB m d e.1, List.mem_map.2 ⟨e.1, (List.of_mem_zip he).1, rfl⟩, rfl⟩)
               refine Int.le_trans (Int.le_of_eq ?_) hm
               simp only
               unfold rowB
               rw [zip_l, List.map_map]
               refine congrArg List.sum (List.map_congr_left fun e' he' => ?_)
               have := Between_f (vld_pk hC.v hd (List.of_mem_zip he').1 (List.of_mem_zip he).1)
               simp only [Function.comp]
               rw [this]; exact Int.mul_comm _ _
             · intro e he
               have hx2 := hmn.2
               rw [pv] at hx2
               have hm := hx2 _ (List.mem_map.2 ⟨rowB m d e.1, List.mem_map.2 ⟨e.1, (List.of_mem_zip he).1, rfl⟩, rfl⟩)
               refine Int.le_trans hm (Int.le_of_eq ?_)
               simp only
               unfold rowB
               rw [zip_l, List.map_map]
               refine congrArg List.sum (List.map_congr_left fun e' he' => ?_)
               have := Between_f (vld_pk hC.v hd (List.of_mem_zip he').1 (List.of_mem_zip he).1)
               simp only [Function.comp]
               rw [this]; exact Int.mul_comm _ _
             · rw [hEE]
               refine Int.le_of_eq ?_
               -- sum over e' of sum over e against sum over c of sum over e
               have fl : ∀ (A : List (PN × Int)) (g : PN × Int → List ((Int × Int) × Int)), ((A.flatMap g).map fun c => c.1.2 * c.2).sum = (A.map fun a => ((g a).map fun c => c.1.2 * c.2).sum).sum := by
                 intro A g
                 induction A with
                 | nil => rfl
                 | cons a A ih => rw [List.flatMap_cons, List.map_append, List.sum_append, ih, List.map_cons, List.sum_cons]
               have sw : ∀ (A B : List (PN × Int)) (f : PN × Int → PN × Int → Int), (A.map fun a => (B.map fun b => f a b).sum).sum = (B.map fun b => (A.map fun a => f a b).sum).sum := by
                 intro A B f
                 induction A with
                 | nil => simp only [List.map_nil, List.sum_nil]; rw [isum_const]; omega
                 | cons a A ih =>
                   simp only [List.map_cons, List.sum_cons, ih]
                   clear ih
                   induction B with
                   | nil => simp
                   | cons b B ih2 => simp only [List.map_cons, List.sum_cons]; omega
               rw [fl, sw]
               refine congrArg List.sum (List.map_congr_left fun c hc => ?_)
               unfold eC
               rw [List.map_map]
               refine congrArg List.sum (List.map_congr_left fun e he => ?_)
               simp only [Function.comp]
               rw [(hWq c hc e he).1, Mutual_f, Int.mul_comm (c.2 * e.2)]
             · have ub := up_pos (a := E) (n := q.sum) (by omega) (by omega)
               have w0 : 1 ≤ (E + q.sum - 1).tdiv q.sum := by rw [← ub.2]; exact ub.1
               have ed : (E + q.sum - 1).tdiv q.sum = (E + q.sum - 1) / q.sum := Int.tdiv_eq_ediv_of_nonneg (by omega)
               have w1 : E ≤ (E + q.sum - 1) / q.sum * q.sum := by
                 have a1 := Int.lt_mul_ediv_self_add (x := E + q.sum - 1) (k := q.sum) (by omega)
                 rw [Int.mul_comm] at a1; omega
               rw [ub.2] at ht0 ⊢
               have b1 := lim_0 hb0
               have t1 := lim_0 ht0
               rw [b1.1, t1.1]
               have bd1 : (q.sum * 1099511627776).tdiv mx = q.sum * 1099511627776 / mx := Int.tdiv_eq_ediv_of_nonneg (by omega)
               have td1 : (q.sum * 1099511627776).tdiv ((E + q.sum - 1).tdiv q.sum) = q.sum * 1099511627776 / ((E + q.sum - 1).tdiv q.sum) := Int.tdiv_eq_ediv_of_nonneg (by omega)
               have bq := Int.ediv_mul_le (q.sum * 1099511627776) (b := mx) (by omega)
               have tq2 := Int.ediv_mul_le (q.sum * 1099511627776) (b := (E + q.sum - 1).tdiv q.sum) (by omega)
               have bn : 0 ≤ q.sum * 1099511627776 / mx := Int.ediv_nonneg (by omega) (by omega)
               have tn : 0 ≤ q.sum * 1099511627776 / ((E + q.sum - 1).tdiv q.sum) := Int.ediv_nonneg (by omega) (by omega)
               have bl : q.sum * 1099511627776 / mx ≤ q.sum * 1099511627776 := Int.ediv_le_self _ (by omega)
               have tl : q.sum * 1099511627776 / ((E + q.sum - 1).tdiv q.sum) ≤ q.sum * 1099511627776 := Int.ediv_le_self _ (by omega)
               rw [bd1, td1, W_eq (by omega) (by omega), W_eq (by omega) (by omega)]
               refine ⟨_, _, rfl, bn, tn, bq, ?_⟩
               generalize q.sum * 1099511627776 / ((E + q.sum - 1).tdiv q.sum) = t at *
               rw [ed] at tq2
               have a1 := Int.mul_le_mul_of_nonneg_left w1 tn
               have a2 := Int.mul_le_mul_of_nonneg_right tq2 (show 0 ≤ q.sum by omega)
               have a3 : t * ((E + q.sum - 1) / q.sum * q.sum) = t * ((E + q.sum - 1) / q.sum) * q.sum := by grind
               have a4 : q.sum * 1099511627776 * q.sum = q.sum * q.sum * 1099511627776 := by grind
               rw [a3] at a1
               rw [a4] at a2
               exact Int.le_trans a1 a2
             · have a1 := lim_0 ha0
               rw [a1.1]
               have ua := up_pos (a := q.sum * 1099511627776) (n := mn) (by omega) (by omega)
               have ed : (q.sum * 1099511627776 + mn - 1).tdiv mn = (q.sum * 1099511627776 + mn - 1) / mn := Int.tdiv_eq_ediv_of_nonneg (by omega)
               have a2 := Int.lt_mul_ediv_self_add (x := q.sum * 1099511627776 + mn - 1) (k := mn) (by omega)
               rw [Int.mul_comm mn] at a2
               refine ⟨_, rfl, ?_, a1.2⟩
               rw [ua.2, ed]
               omega


theorem bv_le {x x' : Int × Int} {Q mx E mn B Q' mx' E' mn' B' f g : Int} (h : BV x Q mx E mn B) (h' : BV x' Q' mx' E' mn' B') (hf : 0 ≤ f) (hg : 0 ≤ g) (m1 : 1 ≤ mx) (e1 : 1 ≤ E) (n1 : 1 ≤ mn')
   (p : f * (Q * Q * mn') ≤ g * (Q' * E) ∧ f * (Q * mn') ≤ g * (Q' * mx)) (b : f * (Q * Q * 1099511627776) ≤ g * (B' * E) ∧ f * (Q * 1099511627776) ≤ g * (B' * mx)) : f * x.1 ≤ g * x'.2 := by
 obtain ⟨u, t, ex, u0, t0, hu, ht⟩ := h.lo
 obtain ⟨a, ey, ha, _⟩ := h'.hi
 have c1 : f * u ≤ g * a := by
   have s1 := Int.mul_le_mul_of_nonneg_left hu (show 0 ≤ f * mn' from Int.mul_nonneg hf (by omega))
   have s2 := Int.mul_le_mul_of_nonneg_left p.2 (show (0 : Int) ≤ 1099511627776 by omega)
   have s3 := Int.mul_le_mul_of_nonneg_left ha (show 0 ≤ g * mx from Int.mul_nonneg hg (by omega))
   have k1 : 1 ≤ mx * mn' := by have := Int.mul_le_mul (a := 1) (b := 1) (c := mx) (d := mn') m1 n1 (by omega) (by omega); omega
   refine cancel_pos k1 ?_
   grind
 have c2 : f * t ≤ g * a := by
   have s1 := Int.mul_le_mul_of_nonneg_left ht (show 0 ≤ f * mn' from Int.mul_nonneg hf (by omega))
   have s2 := Int.mul_le_mul_of_nonneg_left p.1 (show (0 : Int) ≤ 1099511627776 by omega)
   have s3 := Int.mul_le_mul_of_nonneg_left ha (show 0 ≤ g * E from Int.mul_nonneg hg (by omega))
   have k1 : 1 ≤ E * mn' := by have := Int.mul_le_mul (a := 1) (b := 1) (c := E) (d := mn') e1 n1 (by omega) (by omega); omega
   refine cancel_pos k1 ?_
   grind
 have c3 : f * u ≤ g * B' := by
   have s1 := Int.mul_le_mul_of_nonneg_left hu hf
   refine cancel_pos m1 ?_
   grind
 have c4 : f * t ≤ g * B' := by
   have s1 := Int.mul_le_mul_of_nonneg_left ht hf
   refine cancel_pos e1 ?_
   grind
 rw [ex, ey]
 have i1 := imx_bd u t
 have i2 := imn_bd a B'
 rcases i1.2.2 with k | k <;> rcases i2.2.2 with l | l <;> rw [k, l] <;> assumption
theorem bv_in {x : Int × Int} {Q mx E mn B : Int} (h : BV x Q mx E mn B) : 0 ≤ x.1 ∧ x.2 ≤ 1099511627776 := by
 obtain ⟨u, t, ex, u0, t0, _⟩ := h.lo
 obtain ⟨a, ey, _, ha⟩ := h.hi
 have := imx_bd u t; have := imn_bd a B
 omega
theorem Len_v {n : Int} (h : 0 ≤ n ∧ n ≤ 400000) : (F56 n).2 = 0 ∧ 0 ≤ (F56 n).1.2 ∧ n * 1099511627776 ≤ (F56 n).1.2 * (F56 n).1.2 := by
 obtain ⟨r, hr, e⟩ := Len_f h
 obtain ⟨h0, h1, h2⟩ := hr
 rw [e]
 unfold lenV
 have hb : r ≤ 1073741824 := by
   by_cases hc : r ≤ 1073741824
   · exact hc
   · have := Int.mul_le_mul (show (1073741824 : Int) ≤ r by omega) (show (1073741824 : Int) ≤ r by omega) (by omega) (by omega)
     omega
 have hx : ((if r * r = n * 1099511627776 then r else r + 1) = r ∧ r * r = n * 1099511627776) ∨ (if r * r = n * 1099511627776 then r else r + 1) = r + 1 := by
   split
   · rename_i c; exact .inl ⟨rfl, c⟩
   · exact .inr rfl
 generalize (if r * r = n * 1099511627776 then r else r + 1) = s at hx ⊢
 rw [res_f (by omega) (by omega) (by omega)]
 refine ⟨rfl, ?_, ?_⟩
 · show 0 ≤ s; omega
 · show n * 1099511627776 ≤ s * s
   rcases hx with ⟨e1, e2⟩ | e1 <;> rw [e1] <;> omega
theorem dsW_ds {p x : P3} (hp : bd 64 p) (hx : bd 256 x) : dsW p x = ds p x := by
 unfold bd at hp hx
 have e1 : W (p.1 - x.1) = p.1 - x.1 := W_eq (by omega) (by omega)
 have e2 : W (p.2.1 - x.2.1) = p.2.1 - x.2.1 := W_eq (by omega) (by omega)
 have e3 : W (p.2.2 - x.2.2) = p.2.2 - x.2.2 := W_eq (by omega) (by omega)
 have b1 := mul_bd (a := 320) (b := 320) (x := p.1 - x.1) (y := p.1 - x.1) (by omega) (by omega)
 have b2 := mul_bd (a := 320) (b := 320) (x := p.2.1 - x.2.1) (y := p.2.1 - x.2.1) (by omega) (by omega)
 have b3 := mul_bd (a := 320) (b := 320) (x := p.2.2 - x.2.2) (y := p.2.2 - x.2.2) (by omega) (by omega)
 unfold dsW ds dt sb
 simp only [e1, e2, e3]
 generalize (p.1 - x.1) * (p.1 - x.1) = a at *
 generalize (p.2.1 - x.2.1) * (p.2.1 - x.2.1) = b at *
 generalize (p.2.2 - x.2.2) * (p.2.2 - x.2.2) = c at *
 rw [W_eq (n := a) (by omega) (by omega), W_eq (n := b) (by omega) (by omega), W_eq (n := c) (by omega) (by omega), W_eq (n := a + b) (by omega) (by omega), W_eq (n := a + b + c) (by omega) (by omega)]
theorem ballW_ge (x : P3) : ∀ (l : List P3) (v : Int), v ≤ l.foldl (fun v p => imx v (dsW p x)) v ∧ ∀ p ∈ l, dsW p x ≤ l.foldl (fun v p => imx v (dsW p x)) v
 | [], v => ⟨Int.le_refl _, fun s hs => by cases hs⟩
 | a :: l, v => by
   rw [List.foldl_cons]
   have ih := ballW_ge x l (imx v (dsW a x))
   have hb := imx_bd v (dsW a x)
   refine ⟨Int.le_trans hb.1 ih.1, fun s hs => ?_⟩
   rcases List.mem_cons.1 hs with rfl | hs
   · exact Int.le_trans hb.2.1 ih.1
   · exact ih.2 s hs
theorem pan_pts {m : ME} (h : F35 m = 0) : ∀ p ∈ pans m, p.1 ∈ m.1 ∧ p.2.1 ∈ m.1 ∧ p.2.2 ∈ m.1 := by
 intro p hp
 obtain ⟨c, hc, rfl⟩ := List.mem_map.1 hp
 obtain ⟨i, hi⟩ := List.getElem?_of_mem hc
 obtain ⟨hlt, _⟩ := List.getElem?_eq_some_iff.1 hi
 obtain ⟨h64, _, _, _, hf⟩ := val_parts h
 have hfc := hf (i : Int) (by omega) (by omega)
 rw [getD_of hi] at hfc
 have hin : inF m.1.length c := face_in (m := m) (by rw [hfc]; rfl) h64
 have mm : ∀ j : Int, 0 ≤ j ∧ j < (m.1.length : Int) → m.1.getD (toNat j) default ∈ m.1 := fun j hj => by
   have hl : toNat j < m.1.length := by omega
   rw [gdq, List.getElem?_eq_getElem hl]
   exact List.getElem_mem hl
 exact ⟨mm _ hin.1, mm _ hin.2.1, mm _ hin.2.2⟩
theorem sq3_0 {a b c : Int} (h : a * a + b * b + c * c ≤ 0) : a = 0 ∧ b = 0 ∧ c = 0 := by
 have sq : ∀ x : Int, 0 ≤ x * x := fun x => by
   rcases Int.le_total 0 x with k | k
   · exact Int.mul_nonneg k k
   · exact Int.mul_nonneg_of_nonpos_of_nonpos k k
 have := sq a; have := sq b; have := sq c
 have z : ∀ x : Int, x * x ≤ 0 → x = 0 := fun x hx => by
   rcases Int.lt_trichotomy x 0 with k | k | k
   · have := Int.mul_le_mul (a := 1) (b := 1) (c := -x) (d := -x) (by omega) (by omega) (by omega) (by omega)
     rw [Int.neg_mul_neg] at this; omega
   · exact k
   · have := Int.mul_le_mul (a := 1) (b := 1) (c := x) (d := x) (by omega) (by omega) (by omega) (by omega)
     omega
 exact ⟨z a (by omega), z b (by omega), z c (by omega)⟩
theorem ds_0 {p c : P3} (h : ds p c ≤ 0) : p = c := by
 unfold ds dt sb at h
 obtain ⟨h1, h2, h3⟩ := sq3_0 h
 simp only at h1 h2 h3
 exact Prod.ext (by omega) (Prod.ext (by omega) (by omega))
theorem ball_sys {m : ME} {q : List Int} {c : P3} {d Q mx E mn : Int} (hC : ChOK m q) (S : Sys (chg m q) d Q mx E mn) (hc : bd 256 c) :
   (F28 m c).2 = 0 ∧ Q * Q * 1099511627776 ≤ (F28 m c).1 * E ∧ Q * 1099511627776 ≤ (F28 m c).1 * mx := by
 have hv := hC.v
 have hpt := pts_all hv
 have hW := ballW_bd hc m.1 0 hpt (by omega)
 have eB : F28 m c = ((F56 (ballW m c)).1.2, (F56 (ballW m c)).2) := by
   unfold F28
   rw [show F35 (m.1, m.2) = 0 from hv, hwith, hwith, hwith, dqt hc.1, dqt hc.2.1, dqt hc.2.2]
   show (loopF (S28_1 m c) (toNat ((m.1.length : Int) - 0) + 1) (0, 0)) = _
   rw [ball_lf]
 have L := Len_v (n := ballW m c) hW
 rw [eB]
 refine ⟨L.1, ?_⟩
 have hd := (ballW_ge c m.1 0).2
 have hm : ∀ e ∈ chg m q, ds e.1.1 c ≤ ballW m c ∧ ds e.1.2.1 c ≤ ballW m c ∧ ds e.1.2.2 c ≤ ballW m c := by
   intro e he
   have hp := pan_pts hv e.1 (List.of_mem_zip he).1
   have one : ∀ p ∈ m.1, ds p c ≤ ballW m c := fun p hp => by rw [← dsW_ds (hpt p hp) hc]; exact hd p hp
   exact ⟨one _ hp.1, one _ hp.2.1, one _ hp.2.2⟩
 have h1 : 1 ≤ ballW m c := by
   rcases Int.lt_or_le 0 (ballW m c) with k | k
   · omega
   · exfalso
     have hne : ∃ e, e ∈ chg m q := by
       cases hl : chg m q with
       | nil => have a := S.hQ; rw [hl] at a; have b := S.Q1; exact absurd (show (0 : Int) = Q from a) (by omega)
       | cons a l => exact ⟨a, List.mem_cons_self⟩
     obtain ⟨e, he⟩ := hne
     have h3 := hm e he
     have hv := (vp_ok (S.hL e he).1).2
     have e1 := ds_0 (Int.le_trans h3.1 k); have e2 := ds_0 (Int.le_trans h3.2.1 k); have e3 := ds_0 (Int.le_trans h3.2.2 k)
     have hz : nrm e.1 = (0, 0, 0) := by
       have s0 : sb c c = (0, 0, 0) := Prod.ext (Int.sub_self _) (Prod.ext (Int.sub_self _) (Int.sub_self _))
       unfold nrm; rw [e1, e2, e3, s0]; decide
     rw [hz] at hv
     exact absurd hv (by decide)
 have B1 : 1 ≤ (F56 (ballW m c)).1.2 := by
   rcases Int.lt_or_le 0 (F56 (ballW m c)).1.2 with k | k
   · omega
   · exfalso
     have e0 : (F56 (ballW m c)).1.2 = 0 := by have := L.2.1; omega
     have := L.2.2
     rw [e0] at this; omega
 exact sys_ball S hc hm h1 L.2.2 B1
theorem hV_same {m : ME} {q q' : List Int} {d' Q' mx' E' mn' : Int} (hC : ChOK m q) (hC' : ChOK m q') (S' : Sys (chg m q') d' Q' mx' E' mn') : ∀ e ∈ chg m q, mn' ≤ ((chg m q').map fun e' => e'.2 * (betS e'.1 (tmP (sc d') e.1) d').1).sum := by
 intro e he
 have hp := (List.of_mem_zip he).1
 have : ∃ e' ∈ chg m q', e'.1 = e.1 := by
   obtain ⟨i, hi⟩ := List.getElem?_of_mem hp
   obtain ⟨hlt, hge⟩ := List.getElem?_eq_some_iff.1 hi
   have hpl : (pans m).length = m.2.length := List.length_map _
   have hl : i < (chg m q').length := by
     unfold chg
     rw [List.length_zip]; have := hC'.len; omega
   refine ⟨(chg m q')[i], List.getElem_mem hl, ?_⟩
   unfold chg
   rw [List.getElem_zip]; exact hge
 obtain ⟨e', he', eq⟩ := this
 have := S'.hmn e' he'
 rw [eq] at this
 exact this
theorem bnd_meet {m : ME} {q q' : List Int} {d d' : Int} (h : (F11_L m q d).2 = 0) (h' : (F11_L m q' d').2 = 0) : (F11_L m q d).1.1 ≤ (F11_L m q' d').1.2 := by
 obtain ⟨hC, Q, mx, E, mn, S, V⟩ := bnd_facts h
 obtain ⟨hC', Q', mx', E', mn', S', V'⟩ := bnd_facts h'
 have p := sys_pair S S' (hV_same hC hC' S')
 have hb := mid_bd hC.v
 have b := (ball_sys hC S (c := midV (bxV m)) (by unfold bd at hb ⊢; omega)).2
 have := bv_le (f := 1) (g := 1) V V' (by omega) (by omega) S.mx1 S.E1 S'.mn1 (by omega) (by omega)
 omega
theorem bnd_val {m : ME} {q : List Int} {d : Int} (h : (F11_L m q d).2 = 0) : 0 ≤ (F11_L m q d).1.1 ∧ (F11_L m q d).1.1 ≤ (F11_L m q d).1.2 ∧ (F11_L m q d).1.2 ≤ 1099511627776 := by
 obtain ⟨hC, Q, mx, E, mn, S, V⟩ := bnd_facts h
 have := bv_in V
 exact ⟨this.1, bnd_meet h h, this.2⟩

theorem uu_cancel {a b : Int} (h : (a : Rat) * uu ≤ (b : Rat) * uu) : a ≤ b := by
 have h2 : (a : Rat) ≤ (b : Rat) := by
   have hu : uu * 4194304 = 1 := by unfold uu; decide +kernel
   have h3 := CapT.rmul_le h (show (0 : Rat) ≤ 4194304 by decide +kernel)
   have hx : ∀ x : Rat, x * uu * 4194304 = x * (uu * 4194304) := fun x => by grind
   rw [hx, hx, hu] at h3
   grind
 exact Rat.intCast_le_intCast.mp h2
def sT (k : Int) (t : CapT.Tri) : CapT.Tri := ⟨tm k t.A, tm k t.B, tm k t.C, t.q, t.o⟩
theorem sT_pt (k : Int) (t : CapT.Tri) (M i j : Nat) : CapT.tpt (sT k t) M i j = tm k (CapT.tpt t M i j) := by
 simp only [sT, CapT.tpt, CapT.pt, CapT.vs, tm, Prod.mk.injEq]
 refine ⟨?_, ?_, ?_⟩ <;> grind
theorem sT_in {k : Int} {t : CapT.Tri} {G K : Nat} (hk : 0 ≤ k) (hK : k ≤ K) (h : CapT.tin G t) : CapT.tin ((K * G : Nat) : Int) (sT k t) := by
 have one : ∀ x : P3, CapT.inb (G : Int) x → CapT.inb ((K * G : Nat) : Int) (tm k x) := by
   intro x hx
   obtain ⟨a1, a2, a3, a4, a5, a6⟩ := hx
   have e : ((K * G : Nat) : Int) = (K : Int) * (G : Int) := Int.natCast_mul K G
   have up : ∀ y : Int, y ≤ G → k * y ≤ (K : Int) * G := fun y hy => by
     have h1 := Int.mul_le_mul_of_nonneg_left hy hk
     have h2 := Int.mul_le_mul_of_nonneg_right hK (show (0 : Int) ≤ (G : Int) by omega)
     omega
   have lo : ∀ y : Int, -(G : Int) ≤ y → -((K : Int) * G) ≤ k * y := fun y hy => by
     have h1 := up (-y) (by omega)
     rw [Int.mul_neg] at h1; omega
   unfold CapT.inb tm
   rw [e]
   exact ⟨lo _ a1, up _ a2, lo _ a3, up _ a4, lo _ a5, up _ a6⟩
 exact ⟨one _ h.1, one _ h.2.1, one _ h.2.2⟩
theorem gapc_sc {k a b c x y z g : Int} (hk : 0 ≤ k) (h : CapT.gapc a b c x y z g) : CapT.gapc (k * a) (k * b) (k * c) (k * x) (k * y) (k * z) (k * g) := by
 have mem : ∀ (u v w p : Int), p ∈ [k * u, k * v, k * w] → ∃ p', p' ∈ [u, v, w] ∧ p = k * p' := by
   intro u v w p hp
   simp only [List.mem_cons, List.not_mem_nil, or_false] at hp
   rcases hp with rfl | rfl | rfl
   · exact ⟨u, by simp, rfl⟩
   · exact ⟨v, by simp, rfl⟩
   · exact ⟨w, by simp, rfl⟩
 rcases h with h | h | h
 · exact .inl (by rw [h]; exact Int.mul_zero k)
 · refine .inr (.inl fun p hp q hq => ?_)
   obtain ⟨p', hp', rfl⟩ := mem a b c p hp
   obtain ⟨q', hq', rfl⟩ := mem x y z q hq
   have := Int.mul_le_mul_of_nonneg_left (h p' hp' q' hq') hk
   rw [Int.mul_add] at this; exact this
 · refine .inr (.inr fun p hp q hq => ?_)
   obtain ⟨p', hp', rfl⟩ := mem a b c p hp
   obtain ⟨q', hq', rfl⟩ := mem x y z q hq
   have := Int.mul_le_mul_of_nonneg_left (h p' hp' q' hq') hk
   rw [Int.mul_add] at this; exact this
theorem sT_near {k : Int} {t s : CapT.Tri} {n : Int} (hk : 0 ≤ k) (h : CapT.nearT t s n) : CapT.nearT (sT k t) (sT k s) (k * k * n) := by
 obtain ⟨g, g1, g2, g3, hn, a, b, c⟩ := h
 refine ⟨tm k g, Int.mul_nonneg hk g1, Int.mul_nonneg hk g2, Int.mul_nonneg hk g3, ?_, gapc_sc hk a, gapc_sc hk b, gapc_sc hk c⟩
 have := Int.mul_le_mul_of_nonneg_left hn (show 0 ≤ k * k from CapT.sq_int_nonneg k)
 have e : CapT.nsq (tm k g) = k * k * CapT.nsq g := by simp only [CapT.nsq, tm]; grind
 rw [e]; exact this
theorem inv_sq {k : Int} (hk : 1 ≤ k) (h : Rat) : (h * (1 / (k : Rat))) * (h * (1 / (k : Rat))) * ((k * k : Int) : Rat) = h * h := by
 have := CapT.odm (CapT.rcast_pos (a := k) (by omega))
 rw [CapT.rcast_mul]
 have e : (h * (1 / (k : Rat))) * (h * (1 / (k : Rat))) * ((k : Rat) * (k : Rat)) = h * h * ((1 / (k : Rat) * (k : Rat)) * (1 / (k : Rat) * (k : Rat))) := by grind
 rw [e, this]; grind
theorem sT_rim {k : Int} {t : CapT.Tri} {h : Rat} (hk : 1 ≤ k) (hr : CapT.rimT t h) : CapT.rimT (sT k t) (h * (1 / (k : Rat))) := by
 obtain ⟨r, r0, r1, r2, r3⟩ := hr
 have kk : 1 ≤ k * k := by have := Int.mul_le_mul (a := 1) (b := 1) (c := k) (d := k) hk hk (by omega) (by omega); omega
 have er : ((toNat (k * k) * r : Nat) : Int) = k * k * (r : Int) := by rw [Int.natCast_mul, Int.toNat_of_nonneg (by omega)]
 refine ⟨toNat (k * k) * r, Nat.mul_pos (by omega) r0, ?_, ?_, ?_⟩
 · rw [er]
   have e : CapT.nsq (CapT.cr (CapT.vs (sT k t).B (sT k t).A) (CapT.vs (sT k t).C (sT k t).A)) = k * k * (k * k) * CapT.nsq (CapT.cr (CapT.vs t.B t.A) (CapT.vs t.C t.A)) := by
     simp only [sT, CapT.nsq, CapT.cr, CapT.vs, tm]; grind
   rw [e]
   have := Int.mul_le_mul_of_nonneg_left r1 (show 0 ≤ k * k * (k * k) from CapT.sq_int_nonneg _)
   have e2 : k * k * (r : Int) * (k * k * (r : Int)) = k * k * (k * k) * ((r : Int) * (r : Int)) := by grind
   rw [e2]; exact this
 · have e : CapT.nsq (CapT.vs (sT k t).B (sT k t).A) = k * k * CapT.nsq (CapT.vs t.B t.A) := by
     simp only [sT, CapT.nsq, CapT.vs, tm]; grind
   rw [e]
   exact Int.mul_pos (by omega) r2
 · rw [er, CapT.rcast_mul (k * k)]
   have := inv_sq hk h
   have e : 128 * (((k * k : Int) : Rat) * ((r : Int) : Rat)) * (h * (1 / (k : Rat)) * (h * (1 / (k : Rat)))) = 128 * ((r : Int) : Rat) * ((h * (1 / (k : Rat))) * (h * (1 / (k : Rat))) * ((k * k : Int) : Rat)) := by grind
   rw [e, this]; exact r3
theorem tot_sT (k : Int) (X : List CapT.Tri) : CapT.tot (X.map (sT k)) = CapT.tot X := by unfold CapT.tot; rw [CapT.ls_map]; rfl
theorem hull_mix {w : Int} {q : PN} {t : CapT.Tri} (hA : hull w q t.A) (hB : hull w q t.B) (hC : hull w q t.C) {M i j : Nat} (h : i + j < M) : hull ((M : Int) * w) q (CapT.tpt t M i j) := by
 obtain ⟨a1, a2, a3, p1, p2, p3, pw, x1, x2, x3⟩ := hA
 obtain ⟨b1, b2, b3, q1', q2', q3', qw, y1, y2, y3⟩ := hB
 obtain ⟨c1, c2, c3, s1, s2, s3, sw, u1, u2, u3⟩ := hC
 rw [CapT.tpt_eq t h]
 have e : ((M - i - j : Nat) : Int) + (i : Int) + (j : Int) = (M : Int) := by omega
 have l0 : (0 : Int) ≤ ((M - i - j : Nat) : Int) := by omega
 generalize ((M - i - j : Nat) : Int) = l at *
 have i0 : (0 : Int) ≤ (i : Int) := by omega
 have j0 : (0 : Int) ≤ (j : Int) := by omega
 generalize (i : Int) = i at *
 generalize (j : Int) = j at *
 refine ⟨l * a1 + i * b1 + j * c1, l * a2 + i * b2 + j * c2, l * a3 + i * b3 + j * c3, ?_, ?_, ?_, ?_, ?_, ?_, ?_⟩
 · have := Int.mul_nonneg l0 p1; have := Int.mul_nonneg i0 q1'; have := Int.mul_nonneg j0 s1; omega
 · have := Int.mul_nonneg l0 p2; have := Int.mul_nonneg i0 q2'; have := Int.mul_nonneg j0 s2; omega
 · have := Int.mul_nonneg l0 p3; have := Int.mul_nonneg i0 q3'; have := Int.mul_nonneg j0 s3; omega
 · rw [← e]
   have e1 : l * w = l * a1 + l * a2 + l * a3 := by rw [← pw]; grind
   have e2 : i * w = i * b1 + i * b2 + i * b3 := by rw [← qw]; grind
   have e3 : j * w = j * c1 + j * c2 + j * c3 := by rw [← sw]; grind
   rw [Int.add_mul, Int.add_mul, e1, e2, e3]; omega
 · simp only; rw [x1, y1, u1]; grind
 · simp only; rw [x2, y2, u2]; grind
 · simp only; rw [x3, y3, u3]; grind
theorem ds_tm (k : Int) (p q : P3) : ds (tm k p) (tm k q) = k * k * ds p q := by simp only [ds, dt, sb, tm]; grind
theorem ds_sym (p q : P3) : ds p q = ds q p := by simp only [ds, dt, sb]; grind
theorem tm_tm (a b : Int) (p : P3) : tm a (tm b p) = tm (a * b) p := by simp only [tm, Prod.mk.injEq]; refine ⟨?_, ?_, ?_⟩ <;> grind
theorem far_at {d' k' : Int} (hd' : 0 ≤ d' ∧ d' ≤ 2) (hk : 1 ≤ k') {L' : List (PN × Int)} (hL' : ∀ e ∈ L', vp e.1 = 0 ∧ 0 ≤ e.2) {p : PN} {P : P3} {M : Nat} (hM : 0 < M) (hP : hull ((M : Int) * 4) (tmP k' p) P) :
   ∀ s, s ∈ chs d' L' → 0 ≤ ((bLo d' (tmP (sc d') p) s.o.1 : Int) : Rat) * uu * (1 / (k' : Rat)) ∧ ∃ f : Int, 1 ≤ f ∧ ((bLo d' (tmP (sc d') p) s.o.1 : Int) : Rat) * uu * (1 / (k' : Rat)) * (((bLo d' (tmP (sc d') p) s.o.1 : Int) : Rat) * uu * (1 / (k' : Rat))) * (f : Rat) ≤ 1 ∧ ∀ i' j' : Nat, i' + j' < M → CapT.nsq (CapT.vs P (CapT.tpt (sT k' s) M i' j')) ≤ (M : Int) * (M * f) := by
 intro s hs
 obtain ⟨e', he', c, hc, rfl⟩ := chs_mem hs
 have hp' := (hL' e' he').1
 have hg := gsc_ok hd'
 have hb1 := NN_16 hd'
 have hfp := fa3_pos (q := tmP (sc d') p) hp' (d := d') (by omega) hc
 have hN : 0 ≤ NN (sc d') ∧ NN (sc d') ≤ 288230376151711744 := NN_bd (sc_in d')
 obtain ⟨k, k1, k2, k3, k4, k5, k6, k7, k8⟩ := inv_facts hN hfp
 have kk : 1 ≤ k' * k' := by have := Int.mul_le_mul (a := 1) (b := 1) (c := k') (d := k') hk hk (by omega) (by omega); omega
 have ik := CapT.inv_nn (Rat.le_of_lt (CapT.rcast_pos (a := k') (by omega)))
 have hbl : bLo d' (tmP (sc d') p) c = k := by
   unfold bLo of1
   rw [if_neg (by omega)]
   unfold inv
   exact k1
 have f0 : 1 ≤ fa3 c (tmP (sc d') p) * (gsc d' * gsc d') := by
   have := Int.mul_le_mul (a := 1) (b := 1) (c := fa3 c (tmP (sc d') p)) (d := gsc d' * gsc d') hfp (by have := Int.mul_le_mul (a := 1) (b := 1) (c := gsc d') (d := gsc d') hg.2.1 hg.2.1 (by omega) (by omega); omega) (by omega) (by omega)
   omega
 have one : ∀ x : P3, (tm (sc d') x = (tmP (sc d') p).1 ∨ tm (sc d') x = (tmP (sc d') p).2.1 ∨ tm (sc d') x = (tmP (sc d') p).2.2) → ∀ a, (a = c.1 ∨ a = c.2.1 ∨ a = c.2.2) → ds (tm 4 x) (tm (gsc d') a) ≤ fa3 c (tmP (sc d') p) * (gsc d' * gsc d') := by
   intro x hx a ha
   have h1 := fa3_all c (tmP (sc d') p) ha hx
   have h2 := Int.mul_le_mul_of_nonneg_right h1 (show 0 ≤ gsc d' * gsc d' from CapT.sq_int_nonneg _)
   have e1 : ds (tm 4 x) (tm (gsc d') a) = ds a (tm (sc d') x) * (gsc d' * gsc d') := by
     rw [← hg.1]
     simp only [ds, dt, sb, tm]
     grind
   rw [e1]; exact h2
 refine ⟨?_, k' * k' * (fa3 c (tmP (sc d') p) * (gsc d' * gsc d')), ?_, ?_, ?_⟩
 · show 0 ≤ ((bLo d' (tmP (sc d') p) c : Int) : Rat) * uu * (1 / (k' : Rat))
   rw [hbl]
   exact Rat.mul_nonneg (Rat.mul_nonneg (CapT.rcast_le (a := 0) k3) (Rat.le_of_lt uu_pos)) ik
 · have := Int.mul_le_mul (a := 1) (b := 1) kk f0 (by omega) (by omega)
   omega
 · show ((bLo d' (tmP (sc d') p) c : Int) : Rat) * uu * (1 / (k' : Rat)) * (((bLo d' (tmP (sc d') p) c : Int) : Rat) * uu * (1 / (k' : Rat))) * _ ≤ 1
   rw [hbl, CapT.rcast_mul (k' * k')]
   have h1 := inv_sq hk (((k : Int) : Rat) * uu)
   have h2 : ((k : Int) : Rat) * uu * (((k : Int) : Rat) * uu) * ((fa3 c (tmP (sc d') p) * (gsc d' * gsc d') : Int) : Rat) ≤ 1 := by
     refine sq_uu' ?_
     have := Int.mul_le_mul_of_nonneg_right k8 (show 0 ≤ gsc d' * gsc d' from CapT.sq_int_nonneg _)
     rw [hb1] at this
     grind
   rw [← Rat.mul_assoc, h1]; exact h2
 · intro i' j' hij
   generalize fa3 c (tmP (sc d') p) * (gsc d' * gsc d') = F at *
   rw [sT_pt]
   generalize hR : CapT.tpt (gtri d' (F117 e'.1 d') ((e'.2 : Int) : Rat) c) M i' j' = R
   -- R lies in the hull of the part's corners
   have hRh : hull ((M : Int) * 1) (tm (gsc d') c.1, tm (gsc d') c.2.1, tm (gsc d') c.2.2) R := by
     rw [← hR]
     refine hull_mix ?_ ?_ ?_ hij
     · exact ⟨1, 0, 0, by decide, by decide, by decide, by decide, by simp only [gtri]; omega, by simp only [gtri]; omega, by simp only [gtri]; omega⟩
     · exact ⟨0, 1, 0, by decide, by decide, by decide, by decide, by simp only [gtri]; omega, by simp only [gtri]; omega, by simp only [gtri]; omega⟩
     · exact ⟨0, 0, 1, by decide, by decide, by decide, by decide, by simp only [gtri]; omega, by simp only [gtri]; omega, by simp only [gtri]; omega⟩
   have two : ∀ x : P3, (tm (sc d') x = (tmP (sc d') p).1 ∨ tm (sc d') x = (tmP (sc d') p).2.1 ∨ tm (sc d') x = (tmP (sc d') p).2.2) → ds (tm ((M : Int) * 4) (tm k' x)) (tm k' R) ≤ (M : Int) * (M * (k' * k' * F)) := by
     intro x hx
     have e1 : tm ((M : Int) * 4) (tm k' x) = tm k' (tm M (tm 4 x)) := by rw [tm_tm, tm_tm, tm_tm]; congr 1; grind
     rw [e1, ds_tm, ds_sym]
     have cor : ∀ a, (a = c.1 ∨ a = c.2.1 ∨ a = c.2.2) → ds (tm ((M : Int) * 1) (tm (gsc d') a)) (tm M (tm 4 x)) ≤ (M : Int) * M * F := by
       intro a ha
       rw [Int.mul_one, ds_tm, ds_sym]
       exact Int.mul_le_mul_of_nonneg_left (one x hx a ha) (CapT.sq_int_nonneg _)
     have := hull_ds (w := (M : Int) * 1) (Z := tm M (tm 4 x)) (by omega) hRh (cor _ (.inl rfl)) (cor _ (.inr (.inl rfl))) (cor _ (.inr (.inr rfl)))
     have h3 := Int.mul_le_mul_of_nonneg_left this (show 0 ≤ k' * k' by omega)
     have e2 : (M : Int) * (M * (k' * k' * F)) = k' * k' * ((M : Int) * M * F) := by grind
     rw [e2]; exact h3
   exact hull_ds (w := (M : Int) * 4) (Z := tm k' R) (by omega) hP (two p.1 (.inl rfl)) (two p.2.1 (.inr (.inl rfl))) (two p.2.2 (.inr (.inr rfl)))
theorem hull_tm {w g : Int} {q : PN} {X : P3} (h : hull w q X) : hull w (tmP g q) (tm g X) := by
 obtain ⟨i, j, k, hi, hj, hk, hw, h1, h2, h3⟩ := h
 refine ⟨i, j, k, hi, hj, hk, hw, ?_, ?_, ?_⟩
 · simp only [tm, tmP]; rw [h1]; grind
 · simp only [tm, tmP]; rw [h2]; grind
 · simp only [tm, tmP]; rw [h3]; grind
theorem near_k {d k : Int} (hd : 0 ≤ d ∧ d ≤ 2) (hk : 1 ≤ k) {L : List (PN × Int)} (hL : ∀ e ∈ L, vp e.1 = 0 ∧ 0 ≤ e.2) : ∀ t, t ∈ (chs d L).map (sT k) → ∀ t', t' ∈ (chs d L).map (sT k) → 0 < hcap d t t' * (1 / (k : Rat)) ∧ ((∃ f : Int, 1 ≤ f ∧ 1 ≤ hcap d t t' * (1 / (k : Rat)) * (hcap d t t' * (1 / (k : Rat))) * (f : Rat) ∧ CapT.nearT t' t f) ∨ CapT.rimT t (hcap d t t' * (1 / (k : Rat)))) := by
 intro t ht t' ht'
 obtain ⟨s, hs, rfl⟩ := List.mem_map.1 ht
 obtain ⟨s', hs', rfl⟩ := List.mem_map.1 ht'
 have e : hcap d (sT k s) (sT k s') = hcap d s s' := rfl
 rw [e]
 have kp := CapT.rcast_pos (a := k) (by omega)
 have kk : 1 ≤ k * k := by have := Int.mul_le_mul (a := 1) (b := 1) (c := k) (d := k) hk hk (by omega) (by omega); omega
 obtain ⟨h0, h1⟩ := chs_near hd hL s hs s' hs'
 refine ⟨Rat.mul_pos h0 ?_, ?_⟩
 · have h2 := CapT.odm kp
   have h3 := CapT.inv_nn (Rat.le_of_lt kp)
   refine Rat.not_le.1 (fun h4 => ?_)
   have : 1 / (k : Rat) = 0 := Rat.le_antisymm h4 h3
   rw [this] at h2; grind
 · rcases h1 with ⟨f, f1, f2, f3⟩ | h1
   · refine .inl ⟨k * k * f, ?_, ?_, sT_near (by omega) f3⟩
     · have := Int.mul_le_mul (a := 1) (b := 1) kk f1 (by omega) (by omega)
       omega
     · rw [CapT.rcast_mul (k * k), ← Rat.mul_assoc, inv_sq hk]; exact f2
   · exact .inr (sT_rim hk h1)
theorem ls_Ek (d : Int) (k : Rat) (n : Int) (L : List (PN × Int)) : CapT.ls ((chs d L).map (sT n)) (fun t' => t'.q * CapT.ls ((chs d L).map (sT n)) (fun t => t.q * (hcap d t t' * k))) = ((ESum d L : Int) : Rat) * uu * k := by
 rw [CapT.ls_map, ← ls_E, Rat.mul_comm _ k, ← CapT.ls_mul]
 refine CapT.ls_congr (fun t' _ => ?_)
 rw [CapT.ls_map]
 have : CapT.ls (chs d L) (fun a => (sT n a).q * (hcap d (sT n a) (sT n t') * k)) = k * CapT.ls (chs d L) (fun t => t.q * hcap d t t') := by
   rw [← CapT.ls_mul]
   refine CapT.ls_congr (fun t _ => ?_)
   show t.q * (hcap d t t' * k) = k * (t.q * hcap d t t')
   grind
 rw [this]
 show t'.q * (k * _) = k * (t'.q * _)
 grind
theorem sT_ok {d k : Int} (hd : 0 ≤ d ∧ d ≤ 2) (hk : 1 ≤ k ∧ k ≤ 128) {L : List (PN × Int)} (hL : ∀ e ∈ L, vp e.1 = 0 ∧ 0 ≤ e.2) : ∀ t, t ∈ (chs d L).map (sT k) → 0 ≤ t.q ∧ CapT.tin ((128 * 2048 : Nat) : Int) t := by
 intro t ht
 obtain ⟨s, hs, rfl⟩ := List.mem_map.1 ht
 obtain ⟨e, he, c, hc, rfl⟩ := chs_mem hs
 exact ⟨CapT.rcast_le (a := 0) (hL e he).2, sT_in (by omega) (by omega) (tri_in hd (hL e he).1 hc)⟩
theorem phyK {d d' k k' : Int} (hd : 0 ≤ d ∧ d ≤ 2) (hd' : 0 ≤ d' ∧ d' ≤ 2) (hk : 1 ≤ k ∧ k ≤ 128) (hk' : 1 ≤ k' ∧ k' ≤ 128) {L L' : List (PN × Int)} (hL : ∀ e ∈ L, vp e.1 = 0 ∧ 0 ≤ e.2) (hL' : ∀ e ∈ L', vp e.1 = 0 ∧ 0 ≤ e.2) {V0 E0 : Int}
   (hV : ∀ e ∈ L, ∀ (w : Int) (P : P3), 1 ≤ w → hull w e.1 P → ∃ p, hull w (tmP k' p) (tm k P) ∧ V0 ≤ PLs d' L' p) (hE : ESum d L ≤ E0) :
   k * ((sc d * sc d * qsum L) * (sc d * sc d * qsum L) * V0) ≤ k' * ((sc d' * sc d' * qsum L') * E0) := by
 have kp := CapT.rcast_pos (a := k) (by omega)
 have kp' := CapT.rcast_pos (a := k') (by omega)
 have ik := CapT.inv_nn (Rat.le_of_lt kp)
 have ik' := CapT.inv_nn (Rat.le_of_lt kp')
 have ok := CapT.odm kp
 have ok' := CapT.odm kp'
 have key := CapT.cap (X := (chs d L).map (sT k)) (Y := (chs d' L').map (sT k')) (G := 128 * 2048) (h := fun t t' => hcap d t t' * (1 / (k : Rat))) (V := ((V0 : Int) : Rat) * uu * (1 / (k' : Rat))) (E := ((E0 : Int) : Rat) * uu * (1 / (k : Rat)))
   (sT_ok hd hk hL) (sT_ok hd' hk' hL')
   (fun t ht M i j hij => by
     obtain ⟨s, hs, rfl⟩ := List.mem_map.1 ht
     obtain ⟨e, he, c, hc, rfl⟩ := chs_mem hs
     have hh := chs_hull (R := F117 e.1 d) (w := ((e.2 : Int) : Rat)) hd (hL e he).1 hc
     have hm := hull_mix (hh _ List.mem_cons_self) (hh _ (List.mem_cons_of_mem _ List.mem_cons_self)) (hh _ (List.mem_cons_of_mem _ (List.mem_cons_of_mem _ List.mem_cons_self))) hij
     obtain ⟨p, hp, hv⟩ := hV e he _ _ (by omega) hm
     refine ⟨fun s => ((bLo d' (tmP (sc d') p) s.o.1 : Int) : Rat) * uu * (1 / (k' : Rat)), fun s hs => ?_, ?_⟩
     · obtain ⟨s0, hs0, rfl⟩ := List.mem_map.1 hs
       rw [sT_pt]
       exact far_at hd' hk'.1 hL' (M := M) (by omega) hp s0 hs0
     · rw [CapT.ls_map]
       have e1 : CapT.ls (chs d' L') (fun a => (sT k' a).q * (((bLo d' (tmP (sc d') p) (sT k' a).o.1 : Int) : Rat) * uu * (1 / (k' : Rat)))) = (1 / (k' : Rat)) * (((PLs d' L' p : Int) : Rat) * uu) := by
         rw [← ls_P, ← CapT.ls_mul]
         refine CapT.ls_congr (fun a _ => ?_)
         show a.q * (((bLo d' (tmP (sc d') p) a.o.1 : Int) : Rat) * uu * (1 / (k' : Rat))) = _
         grind
       rw [e1, Rat.mul_comm (1 / (k' : Rat))]
       exact CapT.rmul_le (CapT.rmul_le (CapT.rcast_le hv) (Rat.le_of_lt uu_pos)) ik')
   (near_k hd hk.1 hL) (by
     rw [ls_Ek]
     exact CapT.rmul_le (CapT.rmul_le (CapT.rcast_le hE) (Rat.le_of_lt uu_pos)) ik)
 rw [tot_sT, tot_sT, tot_chs hd, tot_chs hd'] at key
 generalize sc d * sc d * qsum L = a at *
 generalize sc d' * sc d' * qsum L' = b at *
 have h0 := CapT.rmul_le (CapT.rmul_le key (Rat.le_of_lt kp)) (Rat.le_of_lt kp')
 have h1 : ((k * (a * a * V0) : Int) : Rat) * uu ≤ ((k' * (b * E0) : Int) : Rat) * uu := by
   rw [CapT.rcast_mul, CapT.rcast_mul (a * a), CapT.rcast_mul a, CapT.rcast_mul k', CapT.rcast_mul b]
   have e1 : (a : Rat) * (a : Rat) * ((V0 : Rat) * uu * (1 / (k' : Rat))) * (k : Rat) * (k' : Rat) = (k : Rat) * ((a : Rat) * (a : Rat) * (V0 : Rat)) * uu * (1 / (k' : Rat) * (k' : Rat)) := by grind
   have e2 : (b : Rat) * ((E0 : Rat) * uu * (1 / (k : Rat))) * (k : Rat) * (k' : Rat) = (k' : Rat) * ((b : Rat) * (E0 : Rat)) * uu * (1 / (k : Rat) * (k : Rat)) := by grind
   rw [e1, e2, ok, ok'] at h0
   grind
 exact uu_cancel h1


theorem sys_k {L L' : List (PN × Int)} {d Q mx E mn d' Q' mx' E' mn' k k' : Int} (S : Sys L d Q mx E mn) (S' : Sys L' d' Q' mx' E' mn') (hk : 1 ≤ k ∧ k ≤ 128) (hk' : 1 ≤ k' ∧ k' ≤ 128)
   (hV : ∀ e ∈ L, ∀ (w : Int) (P : P3), 1 ≤ w → hull w e.1 P → ∃ p, hull w (tmP k' p) (tm k P) ∧ mn' ≤ (L'.map fun e' => e'.2 * (betS e'.1 (tmP (sc d') p) d').1).sum) :
   k * (Q * Q * mn') ≤ k' * (Q' * E) ∧ k * (Q * mn') ≤ k' * (Q' * mx) := by
 have hV0 : ∀ e ∈ L, ∀ (w : Int) (P : P3), 1 ≤ w → hull w e.1 P → ∃ p, hull w (tmP k' p) (tm k P) ∧ sc d' * sc d' * mn' ≤ PLs d' L' p := fun e he w P hw hP => by
   obtain ⟨p, h1, h2⟩ := hV e he w P hw hP
   exact ⟨p, h1, Int.le_trans (Int.mul_le_mul_of_nonneg_left h2 (by have := sc2_pos d'; omega)) (PL_ge S'.hL p)⟩
 have a := phyK S.hd S'.hd hk hk' S.hL S'.hL hV0 (sys_mut S)
 have b := phyK S.hd S'.hd hk hk' S.hL S'.hL hV0 (sys_bet S)
 rw [S.hQ, S'.hQ] at a b
 have n1 := sc2_pos d; have n2 := sc2_pos d'
 generalize sc d * sc d = n at *
 generalize sc d' * sc d' = n' at *
 have nn : 1 ≤ n * n := by have := Int.mul_le_mul (a := 1) (b := 1) (c := n) (d := n) n1 n1 (by omega) (by omega); omega
 have nnn : 1 ≤ n * n * n' := by have := Int.mul_le_mul (a := 1) (b := 1) (c := n * n) (d := n') nn n2 (by omega) (by omega); omega
 refine ⟨cancel_pos nnn ?_, cancel_pos S.Q1 (cancel_pos nnn ?_)⟩
 · have e1 : n * n * n' * (k * (Q * Q * mn')) = k * (n * Q * (n * Q) * (n' * mn')) := by grind
   have e2 : n * n * n' * (k' * (Q' * E)) = k' * (n' * Q' * (n * n * E)) := by grind
   rw [e1, e2]; exact a
 · have e1 : n * n * n' * (Q * (k * (Q * mn'))) = k * (n * Q * (n * Q) * (n' * mn')) := by grind
   have e2 : n * n * n' * (Q * (k' * (Q' * mx))) = k' * (n' * Q' * (n * n * (Q * mx))) := by grind
   rw [e1, e2]; exact b
theorem phyBk {d k : Int} (hd : 0 ≤ d ∧ d ≤ 2) (hk : 1 ≤ k ∧ k ≤ 128) {L : List (PN × Int)} (hL : ∀ e ∈ L, vp e.1 = 0 ∧ 0 ≤ e.2) {c : P3} {m B E0 : Int} (hc : bd 16384 c) (hm : ∀ e ∈ L, ds (tm k e.1.1) c ≤ m ∧ ds (tm k e.1.2.1) c ≤ m ∧ ds (tm k e.1.2.2) c ≤ m) (hm1 : 1 ≤ m) (hB : m * 1099511627776 ≤ B * B) (hB0 : 1 ≤ B) (hE : ESum d L ≤ E0) :
   k * ((sc d * sc d * qsum L) * (sc d * sc d * qsum L) * 1099511627776) ≤ B * E0 := by
 have hBr := CapT.rcast_pos (a := B) (by omega)
 have iB := CapT.odm hBr
 have iB0 := CapT.inv_nn (Rat.le_of_lt hBr)
 have kp := CapT.rcast_pos (a := k) (by omega)
 have ik := CapT.inv_nn (Rat.le_of_lt kp)
 have ok := CapT.odm kp
 have key := CapT.cap (X := (chs d L).map (sT k)) (Y := [⟨tm 4 c, tm 4 c, tm 4 c, 1, ((c, c, c), 0)⟩]) (G := 128 * 2048) (h := fun t t' => hcap d t t' * (1 / (k : Rat))) (V := 262144 * (1 / ((B : Int) : Rat))) (E := ((E0 : Int) : Rat) * uu * (1 / (k : Rat)))
   (sT_ok hd hk hL)
   (fun t ht => by
     obtain rfl := List.mem_singleton.1 ht
     have : CapT.inb ((128 * 2048 : Nat) : Int) (tm 4 c) := by
       unfold CapT.inb tm bd at *
       simp only
       omega
     exact ⟨show (0 : Rat) ≤ 1 by decide +kernel, this, this, this⟩)
   (fun t ht M i j hij => by
     obtain ⟨s0, hs0, rfl⟩ := List.mem_map.1 ht
     obtain ⟨e, he, b, hb, rfl⟩ := chs_mem hs0
     have hp := (hL e he).1
     refine CapT.potAt_of (fun _ => 262144 * (1 / ((B : Int) : Rat))) (fun s hs => ?_) ?_ hij
     · obtain rfl := List.mem_singleton.1 hs
       refine ⟨Rat.mul_nonneg (by decide +kernel) iB0, 16 * m, by omega, ?_, ?_⟩
       · have h1 := CapT.rcast_le hB
         rw [CapT.rcast_mul, CapT.rcast_mul] at h1
         have h2 := CapT.rmul_le' h1 (CapT.sq_nonneg (1 / ((B : Int) : Rat)))
         have e1 : (1 / ((B : Int) : Rat)) * (1 / ((B : Int) : Rat)) * (((B : Int) : Rat) * ((B : Int) : Rat)) = (1 / ((B : Int) : Rat) * ((B : Int) : Rat)) * (1 / ((B : Int) : Rat) * ((B : Int) : Rat)) := by grind
         rw [e1, iB] at h2
         have c1 : ((1099511627776 : Int) : Rat) = 1099511627776 := rfl
         rw [c1] at h2
         rw [CapT.rcast_mul, show ((16 : Int) : Rat) = 16 from rfl]
         grind
       · intro P hP Q hQ
         have hP' : ∃ P0, hull 4 e.1 P0 ∧ P = tm k P0 := by
           have hh := chs_hull (R := F117 e.1 d) (w := ((e.2 : Int) : Rat)) hd hp hb
           simp only [List.mem_cons, List.not_mem_nil, or_false] at hP
           rcases hP with rfl | rfl | rfl
           · exact ⟨_, hh _ List.mem_cons_self, rfl⟩
           · exact ⟨_, hh _ (List.mem_cons_of_mem _ List.mem_cons_self), rfl⟩
           · exact ⟨_, hh _ (List.mem_cons_of_mem _ (List.mem_cons_of_mem _ List.mem_cons_self)), rfl⟩
         obtain ⟨P0, hh, rfl⟩ := hP'
         have hQ' : Q = tm 4 c := by
           simp only [List.mem_cons, List.not_mem_nil, or_false, or_self] at hQ
           exact hQ
         subst hQ'
         have e4 : ∀ x : P3, ds (tm 4 x) (tm 4 c) = 16 * ds x c := by
           intro x; simp only [ds, dt, sb, tm]; grind
         have h3 := hm e he
         exact hull_ds (w := 4) (Z := tm 4 c) (by decide) (hull_tm hh) (by rw [e4]; exact Int.mul_le_mul_of_nonneg_left h3.1 (by decide)) (by rw [e4]; exact Int.mul_le_mul_of_nonneg_left h3.2.1 (by decide)) (by rw [e4]; exact Int.mul_le_mul_of_nonneg_left h3.2.2 (by decide))
     · simp only [CapT.ls]; grind)
   (near_k hd hk.1 hL) (by
     rw [ls_Ek]
     exact CapT.rmul_le (CapT.rmul_le (CapT.rcast_le hE) (Rat.le_of_lt uu_pos)) ik)
 rw [tot_sT, tot_chs hd] at key
 have t1 : CapT.tot [⟨tm 4 c, tm 4 c, tm 4 c, 1, ((c, c, c), 0)⟩] = 1 := by simp only [CapT.tot, CapT.ls]; grind
 rw [t1] at key
 generalize sc d * sc d * qsum L = a at *
 have h0 := CapT.rmul_le (CapT.rmul_le key (Rat.le_of_lt hBr)) (Rat.le_of_lt kp)
 have hu : uu * 4194304 = 1 := by unfold uu; decide +kernel
 have h1 : ((k * (a * a * 1099511627776) : Int) : Rat) * uu ≤ ((B * E0 : Int) : Rat) * uu := by
   rw [CapT.rcast_mul, CapT.rcast_mul (a * a), CapT.rcast_mul a, CapT.rcast_mul B, show ((1099511627776 : Int) : Rat) = 1099511627776 from rfl]
   have e1 : (a : Rat) * (a : Rat) * (262144 * (1 / (B : Rat))) * (B : Rat) * (k : Rat) = (a : Rat) * (a : Rat) * (k : Rat) * 262144 * (1 / (B : Rat) * (B : Rat)) := by grind
   have e2 : 1 * ((E0 : Rat) * uu * (1 / (k : Rat))) * (B : Rat) * (k : Rat) = (E0 : Rat) * (B : Rat) * uu * (1 / (k : Rat) * (k : Rat)) := by grind
   rw [e1, e2, iB, ok] at h0
   have e3 : (k : Rat) * ((a : Rat) * (a : Rat) * 1099511627776) * uu = (a : Rat) * (a : Rat) * (k : Rat) * 262144 * (uu * 4194304) := by grind
   rw [e3, hu]
   grind
 exact uu_cancel h1
theorem sys_ballk {L : List (PN × Int)} {d Q mx E mn k : Int} (S : Sys L d Q mx E mn) (hk : 1 ≤ k ∧ k ≤ 128) {c : P3} {m B : Int} (hc : bd 16384 c) (hm : ∀ e ∈ L, ds (tm k e.1.1) c ≤ m ∧ ds (tm k e.1.2.1) c ≤ m ∧ ds (tm k e.1.2.2) c ≤ m) (hm1 : 1 ≤ m) (hB : m * 1099511627776 ≤ B * B) (hB0 : 1 ≤ B) : k * (Q * Q * 1099511627776) ≤ B * E ∧ k * (Q * 1099511627776) ≤ B * mx := by
 have a := phyBk S.hd hk S.hL hc hm hm1 hB hB0 (sys_mut S)
 have b := phyBk S.hd hk S.hL hc hm hm1 hB hB0 (sys_bet S)
 rw [S.hQ] at a b
 have n1 := sc2_pos d
 generalize sc d * sc d = n at *
 have nn : 1 ≤ n * n := by have := Int.mul_le_mul (a := 1) (b := 1) (c := n) (d := n) n1 n1 (by omega) (by omega); omega
 refine ⟨cancel_pos nn ?_, cancel_pos S.Q1 (cancel_pos nn ?_)⟩
 · have e1 : n * n * (k * (Q * Q * 1099511627776)) = k * (n * Q * (n * Q) * 1099511627776) := by grind
   have e2 : n * n * (B * E) = B * (n * n * E) := by grind
   rw [e1, e2]; exact a
 · have e1 : n * n * (Q * (k * (Q * 1099511627776))) = k * (n * Q * (n * Q) * 1099511627776) := by grind
   have e2 : n * n * (Q * (B * mx)) = B * (n * n * (Q * mx)) := by grind
   rw [e1, e2]; exact b


def F75 (a0 : (List (Int × Int × Int)) × List (Int × Int × Int)) : ((List (Int × Int × Int)) × List (Int × Int × Int)) × Int :=
 (bif (((F35 (a0.1, a0.2)) : Int) != 0) then
  default
 else
  ((a0.1, a0.2), 0))

theorem C75 (a0 : (List (Int × Int × Int)) × List (Int × Int × Int)) (l0_1 : a0.1.length ≤ 9223372036854775807) (l0_2 : a0.2.length ≤ 9223372036854775807) (hv : F35 a0 = 0) : Con Tryz.prog 75 [(.a [(.s 0 0 a0.1.length 3), (.s 1 0 a0.2.length 3)])] [(.live false true (flat c30 a0.1)), (.live false true (flat c94 a0.2))] (.t [(.a [(.s 0 0 a0.1.length 3), (.s 1 0 a0.2.length 3)]), (iv (F75 a0).2)]) [] := by
 refine con_s Tryz.func75 (by kernel_rfl) fun cx hcx => ?_
 let t0 : List (St Tryz.prog) := [.c [0, 1] (C35 (a0.1, a0.2) (by (try simp only [Lt]); omega) (by (try simp only [Lt]); omega))]
 cases h0 : (((F35 (a0.1, a0.2)) : Int) != 0) with
 | true =>
  have q0 := bne_iff_ne.1 h0
  exact absurd hv (bne_iff_ne.1 h0)
 | false =>
  have q0 := bne_eq_false_iff_eq.1 h0
  have e := Eq.refl (F75 a0); conv at e => rhs; simp only [F75, h0, cdb]
  rw [e]
  exact rt (t0 ++ [.d h0]) [] [] hcx (by kernel_rfl)

def F74_L (a0 : List (Int × Int × Int)) : List (Int × Int × Int) :=
 (([] : List (Int × Int × Int)) ++ a0)

theorem C74_L (a0 : List (Int × Int × Int)) (l0 : a0.length ≤ 9223372036854775807) (hne : a0.length ≠ 0) (h40 : a0.length ≤ 1048576) : Con Tryz.prog 74 [(.s 0 0 a0.length 3)] [(.live false true (flat c94 a0))] (.s 1 0 (F74_L a0).length 3) [(.live true true (flat c94 (F74_L a0)))] := by
 refine con_s Tryz.func74 (by kernel_rfl) fun cx hcx => ?_
 have e := Eq.refl (F74_L a0); conv at e => rhs; simp only [F74_L]
 rw [e]
 rw [show flat c94 (([] : List (Int × Int × Int)) ++ a0) = (([] : List SV) ++ (flat c94 a0)) from Eq.symm (by simp [flat])]
 rw [show (([] : List (Int × Int × Int)) ++ a0).length = (0 + a0.length) from by simp]
 exact rt [.p (show (a0.length : Nat) ≠ 0 from by first | omega | (rw [W_eq] <;> omega) | exact u64_nn _), .F, .p (show (([] : List SV).length = 0 * 3 ∧ (flat c94 a0).length = a0.length * 3 ∧ (flat c94 a0).all SV.one = true ∧ 0 + a0.length ≤ 2 ^ 40 ∧ (0 + a0.length) * 24 ≤ 2 ^ 47) from by refine ⟨?_, ?_, ?_, ?_, ?_⟩ <;> first | omega | exact flat_one (fun _ => rfl) | (simp [flat_lenc c94_len]; done) | (simp [flat_lenc c94_len]; omega))] [] [2] hcx (by kernel_rfl)

theorem C75_bad (a0 : (List (Int × Int × Int)) × List (Int × Int × Int)) (l0_1 : a0.1.length ≤ 9223372036854775807) (l0_2 : a0.2.length ≤ 9223372036854775807) (h : (((F35 (a0.1, a0.2)) : Int) != 0) = true) : Con Tryz.prog 75 [(.a [(.s 0 0 a0.1.length 3), (.s 1 0 a0.2.length 3)])] [(.live false true (flat c30 a0.1)), (.live false true (flat c94 a0.2))] (.t [(.a [(.v (.slice none 0 0)), (.v (.slice none 0 0))]), (iv (F35 (a0.1, a0.2)))]) [] := by
 refine con_s Tryz.func75 (by kernel_rfl) fun cx hcx => ?_
 exact rt [.c [0, 1] (C35 (a0.1, a0.2) l0_1 l0_2), .d h] [] [] hcx (by kernel_rfl)
theorem C75_good (a0 : (List (Int × Int × Int)) × List (Int × Int × Int)) (l0_1 : a0.1.length ≤ 9223372036854775807) (l0_2 : a0.2.length ≤ 9223372036854775807) (h : (((F35 (a0.1, a0.2)) : Int) != 0) = false) : Con Tryz.prog 75 [(.a [(.s 0 0 a0.1.length 3), (.s 1 0 a0.2.length 3)])] [(.live false true (flat c30 a0.1)), (.live false true (flat c94 a0.2))] (.t [(.a [(.s 0 0 a0.1.length 3), (.s 1 0 a0.2.length 3)]), (iv 0)]) [] := by
 have e : F75 a0 = (a0, 0) := by unfold F75; rw [h, cond_false]
 have hc := C75 a0 l0_1 l0_2 (bne_eq_false_iff_eq.1 h)
 rw [e] at hc
 exact hc


def F44 (a0 : Int × Int × Int) (a1 : Int) : Int × Int × Int :=
 (F39 (0, 0, 0) a1 a0)

theorem C44 (a0 : Int × Int × Int) (a1 : Int) : Con Tryz.prog 44 [(.a (k3 a0)), (.p 0 0)] [(.live false false [(iv a1)])] (.a (k3 (F44 a0 a1))) [] := by
 refine con_s Tryz.func44 (by kernel_rfl) fun cx hcx => ?_
 have e := Eq.refl (F44 a0 a1); conv at e => rhs; simp only [F44]
 rw [e]
 exact rt [.c [] (C39 (0, 0, 0) a1 a0)] [] [] hcx (by kernel_rfl)

noncomputable def B37_c44_1 : Code := (loopAtD [1, 1, 1, 0, 1] [] (bodyOf Tryz.f37) []).1
noncomputable def K37_c44_1 : List K := (loopAtD [1, 1, 1, 0, 1] [] (bodyOf Tryz.f37) []).2

def st37_c44_1 (a0 : (List (Int × Int × Int)) × List (Int × Int × Int)) (a1 : Bool) (a2_0 : Int) (v5c : List SV) (v5n : Nat) (v6c : List SV) (v6n : Nat) (v7 : Int) : LS := ⟨slN 58 [(1, (.v (.bool a1))), (6, (.p 3 0)), (8, (.p 4 0)), (34, (.s 1 0 a0.2.length 3)), (35, (iv (a0.2.length : Int))), (36, (iv v7))], [(.live false true (flat c30 a0.1)), (.live false true (flat c94 a0.2)), (.live false false [(iv a2_0)]), (.live true false [(.v (.slice none 0 0)), (.v (.slice none 0 0))]), (.live true false [(.s 5 0 v5n 3), (.s 6 0 v6n 3)]), (.live true true v5c), (.live true true v6c)]⟩

def S37_c44_1 (a0 : (List (Int × Int × Int)) × List (Int × Int × Int)) (a1 : Bool) (a2_0 : Int) : (List (Int × Int × Int)) × (List (Int × Int × Int)) × Int → ((List (Int × Int × Int)) × (List (Int × Int × Int)) × Int) ⊕ (((List (Int × Int × Int)) × List (Int × Int × Int)) × Int)
 | (v5, v6, v7) =>
  (bif (decide ((v7 : Int) < (a0.2.length : Int))) then
   (bif a1 then
    (.inl (v5, (v6.set (toNat v7) ((a0.2.getD (toNat v7) default).1, (a0.2.getD (toNat v7) default).2.2, (a0.2.getD (toNat v7) default).2.1)), (v7 + 1)))
   else
    (.inl (v5, v6, (v7 + 1))))
  else
   (bif (((F35 ((v5, v6).1, (v5, v6).2)) : Int) != 0) then
    (.inr ((([] : List (Int × Int × Int)), ([] : List (Int × Int × Int))), (F35 ((v5, v6).1, (v5, v6).2))))
   else
    (.inr ((v5, v6), 0))))

noncomputable def B37_c44_0 : Code := (loopAtD [1, 1, 0, 1] [] (bodyOf Tryz.f37) []).1
noncomputable def K37_c44_0 : List K := (loopAtD [1, 1, 0, 1] [] (bodyOf Tryz.f37) []).2

def st37_c44_0 (a0 : (List (Int × Int × Int)) × List (Int × Int × Int)) (a1 : Bool) (a2_0 : Int) (v2c : List SV) (v2n : Nat) (v3 : Int) : LS := ⟨slN 58 [(1, (.v (.bool a1))), (2, (.f 44 [(.p 2 0)])), (3, (.p 3 0)), (6, (.p 4 0)), (8, (.p 5 0)), (18, (.s 0 0 a0.1.length 3)), (19, (iv (a0.1.length : Int))), (20, (iv v3))], [(.live false true (flat c30 a0.1)), (.live false true (flat c94 a0.2)), (.live false false [(iv a2_0)]), (.live true false [(.s 0 0 a0.1.length 3), (.s 1 0 a0.2.length 3)]), (.live true false [(.v (.slice none 0 0)), (.v (.slice none 0 0))]), (.live true false [(.s 6 0 v2n 3), (.s 7 0 (F74_L a0.2).length 3)]), (.live true true v2c), (.live true true (flat c94 (F74_L a0.2)))]⟩

def S37_c44_0 (a0 : (List (Int × Int × Int)) × List (Int × Int × Int)) (a1 : Bool) (a2_0 : Int) : (List (Int × Int × Int)) × Int → ((List (Int × Int × Int)) × Int) ⊕ (((List (Int × Int × Int)) × List (Int × Int × Int)) × Int)
 | (v2, v3) =>
  (bif (decide ((v3 : Int) < (a0.1.length : Int))) then
   (.inl ((v2 ++ [(F44 (a0.1.getD (toNat v3) default) a2_0)]), (v3 + 1)))
  else
   (.inr (loopF (S37_c44_1 a0 a1 a2_0) (toNat ((a0.2.length : Int) - 0) + 1) (v2, (F74_L a0.2), 0))))

theorem L37_c44_1 (a0 : (List (Int × Int × Int)) × List (Int × Int × Int)) (a1 : Bool) (a2_0 : Int) (l0_1 : a0.1.length ≤ 9223372036854775807) (l0_2 : a0.2.length ≤ 9223372036854775807) (hv : F35 a0 = 0) {cx : Cx} (hcx : cx.base = 3) : ∀ (n : Nat) (v5 : List (Int × Int × Int)) (v6 : List (Int × Int × Int)) (v7 : Int), (0 ≤ v7) ∧ (v6.length = a0.2.length) ∧ (v7 ≤ a0.2.length) ∧ (v5.length ≤ 64) → toNat ((a0.2.length : Int) - v7) < n → Aw.Good Tryz.prog none 9 (bodyPost Tryz.prog Tryz.f37 (RR cx (.t [(.a [(.s 3 0 (loopF (S37_c44_1 a0 a1 a2_0) n (v5, v6, v7)).1.1.length 3), (.s 4 0 (loopF (S37_c44_1 a0 a1 a2_0) n (v5, v6, v7)).1.2.length 3)]), (iv (loopF (S37_c44_1 a0 a1 a2_0) n (v5, v6, v7)).2)]) [(.live true true (flat c30 (loopF (S37_c44_1 a0 a1 a2_0) n (v5, v6, v7)).1.1)), (.live true true (flat c94 (loopF (S37_c44_1 a0 a1 a2_0) n (v5, v6, v7)).1.2))] [])) cx [] (.l B37_c44_1 n :: K37_c44_1) (st37_c44_1 a0 a1 a2_0 (flat c30 v5) v5.length (flat c94 v6) v6.length v7) := by
 intro n
 induction n with
 | zero => intro v5 v6 v7 hi hn; exact absurd hn (nlz _)
 | succ n ih =>
   intro v5 v6 v7 hi hn
   refine good_round ?_
   have hpf := val_parts hv
   have hcl : (F74_L a0.2).length = a0.2.length := rfl
   cases h0 : (decide ((v7 : Int) < (a0.2.length : Int))) with
   | true =>
    have q0 := odt h0
    let t1 : List (St Tryz.prog) := [.d h0, .i v7 (a0.2.length), .L c94_len a0.2 v7 0 3]
    rcases bool_tf a1 with h1 | h1
    · skip
      have e := Eq.refl (S37_c44_1 a0 a1 a2_0 (v5, v6, v7)); conv at e => rhs; simp only [S37_c44_1, h0, h1, cdb]
      rw [loopF_inl e]
      refine ba (t1 ++ [.d h1, .i 0 3 (by decide), .i 2 3 (by decide), .i 1 3 (by decide), .i v7 (v6.length), .p (show ((0 + toNat v7 * 3) + 3 ≤ (flat c94 v6).length) from (flat_setl c94_len (by first | omega | (simp only [Lt]; omega)) (o := 0) (Nb rfl)))]) [] [1, 6, 8, 34, 35, 36] [3, 4, 5, 6] hcx (m := n) B37_c44_1 (K37_c44_1) (st37_c44_1 a0 a1 a2_0 (flat c30 v5) (v5.length) (splice (flat c94 v6) (0 + toNat v7 * 3) [(iv (a0.2.getD (toNat v7) default).1), (iv (a0.2.getD (toNat v7) default).2.2), (iv (a0.2.getD (toNat v7) default).2.1)]) (v6.length) (W (v7 + 1))) (by kernel_rfl) ?_
      have z0 : (W (v7 + 1)) = (v7 + 1) := W_eq (by omega) (by omega)
      have z1 : (splice (flat c94 v6) (0 + toNat v7 * 3) [(iv (a0.2.getD (toNat v7) default).1), (iv (a0.2.getD (toNat v7) default).2.2), (iv (a0.2.getD (toNat v7) default).2.1)]) = flat c94 (v6.set (toNat v7) ((a0.2.getD (toNat v7) default).1, (a0.2.getD (toNat v7) default).2.2, (a0.2.getD (toNat v7) default).2.1)) := (flat_set c94_len (by first | omega | (simp only [Lt]; omega)) (o := 0) (d := default) (Nb rfl) rfl)
      have z2 : v6.length = (v6.set (toNat v7) ((a0.2.getD (toNat v7) default).1, (a0.2.getD (toNat v7) default).2.2, (a0.2.getD (toNat v7) default).2.1)).length := by simp
      rw [z0, z1, z2]
      exact ih v5 (v6.set (toNat v7) ((a0.2.getD (toNat v7) default).1, (a0.2.getD (toNat v7) default).2.2, (a0.2.getD (toNat v7) default).2.1)) (v7 + 1) (by refine ⟨?_, ?_, ?_, ?_⟩ <;> (try simp only [Ls]) <;> first | omega | assumption | simp) (by (try simp only [Ls]); omega)
    · skip
      have e := Eq.refl (S37_c44_1 a0 a1 a2_0 (v5, v6, v7)); conv at e => rhs; simp only [S37_c44_1, h0, h1, cdb]
      rw [loopF_inl e]
      refine ba (t1 ++ [.d h1]) [] [1, 6, 8, 34, 35, 36] [3, 4, 5, 6] hcx (m := n) B37_c44_1 (K37_c44_1) (st37_c44_1 a0 a1 a2_0 (flat c30 v5) (v5.length) (flat c94 v6) (v6.length) (W (v7 + 1))) (by kernel_rfl) ?_
      have z0 : (W (v7 + 1)) = (v7 + 1) := W_eq (by omega) (by omega)
      rw [z0]
      exact ih v5 v6 (v7 + 1) (by refine ⟨?_, ?_, ?_, ?_⟩ <;> (try simp only [Ls]) <;> first | omega | assumption | simp) (by (try simp only [Ls]); omega)
   | false =>
    have q0 := odf h0
    let t1 : List (St Tryz.prog) := [.d h0]
    cases h1 : (((F35 ((v5, v6).1, (v5, v6).2)) : Int) != 0) with
    | true =>
     have q1 := bne_iff_ne.1 h1
     have e := Eq.refl (S37_c44_1 a0 a1 a2_0 (v5, v6, v7)); conv at e => rhs; simp only [S37_c44_1, h0, h1, cdb]
     rw [loopF_s, e]
     exact rt (t1 ++ [.c [5, 6] (C75_bad (v5, v6) (by (try simp only [Lt]); omega) (by (try simp only [Lt]); omega) h1)]) [.cell 3 0 3, .cell 3 1 3] [7, 8] hcx (by kernel_rfl)
    | false =>
     have q1 := bne_eq_false_iff_eq.1 h1
     have e := Eq.refl (S37_c44_1 a0 a1 a2_0 (v5, v6, v7)); conv at e => rhs; simp only [S37_c44_1, h0, h1, cdb]
     rw [loopF_s, e]
     exact rt (t1 ++ [.c [5, 6] (C75_good (v5, v6) (by (try simp only [Lt]); omega) (by (try simp only [Lt]); omega) h1)]) [] [5, 6] hcx (by kernel_rfl)

theorem L37_c44_0 (a0 : (List (Int × Int × Int)) × List (Int × Int × Int)) (a1 : Bool) (a2_0 : Int) (l0_1 : a0.1.length ≤ 9223372036854775807) (l0_2 : a0.2.length ≤ 9223372036854775807) (hv : F35 a0 = 0) {cx : Cx} (hcx : cx.base = 3) : ∀ (n : Nat) (v2 : List (Int × Int × Int)) (v3 : Int), (0 ≤ v3) ∧ (v2.length = toNat v3) ∧ (v3 ≤ a0.1.length) → toNat ((a0.1.length : Int) - v3) < n → Aw.Good Tryz.prog none 9 (bodyPost Tryz.prog Tryz.f37 (RR cx (.t [(.a [(.s 3 0 (loopF (S37_c44_0 a0 a1 a2_0) n (v2, v3)).1.1.length 3), (.s 4 0 (loopF (S37_c44_0 a0 a1 a2_0) n (v2, v3)).1.2.length 3)]), (iv (loopF (S37_c44_0 a0 a1 a2_0) n (v2, v3)).2)]) [(.live true true (flat c30 (loopF (S37_c44_0 a0 a1 a2_0) n (v2, v3)).1.1)), (.live true true (flat c94 (loopF (S37_c44_0 a0 a1 a2_0) n (v2, v3)).1.2))] [])) cx [] (.l B37_c44_0 n :: K37_c44_0) (st37_c44_0 a0 a1 a2_0 (flat c30 v2) v2.length v3) := by
 intro n
 induction n with
 | zero => intro v2 v3 hi hn; exact absurd hn (nlz _)
 | succ n ih =>
   intro v2 v3 hi hn
   refine good_round ?_
   have hpf := val_parts hv
   have hcl : (F74_L a0.2).length = a0.2.length := rfl
   cases h0 : (decide ((v3 : Int) < (a0.1.length : Int))) with
   | true =>
    have q0 := odt h0
    have e := Eq.refl (S37_c44_0 a0 a1 a2_0 (v2, v3)); conv at e => rhs; simp only [S37_c44_0, h0, cdb]
    rw [loopF_inl e]
    refine ba [.d h0, .i v3 (a0.1.length), .L c30_len a0.1 v3 0 3, .c [2] (C44 (a0.1.getD (toNat v3) default) a2_0), .p (show ((flat c30 v2).length = v2.length * 3 ∧ v2.length + 1 ≤ 2 ^ 40 ∧ (v2.length + 1) * 24 ≤ 2 ^ 47) from app_ok c30_len (by omega) (by omega))] [] [1, 2, 3, 6, 8, 18, 19, 20] [3, 4, 5, 10, 7] hcx (m := n) B37_c44_0 (K37_c44_0) (st37_c44_0 a0 a1 a2_0 (flat c30 v2 ++ (k3 (F44 (a0.1.getD (toNat v3) default) a2_0))) (v2.length + 1) (W (v3 + 1))) (by kernel_rfl) ?_
    have z0 : (W (v3 + 1)) = (v3 + 1) := W_eq (by omega) (by omega)
    have z1 : (flat c30 v2 ++ (k3 (F44 (a0.1.getD (toNat v3) default) a2_0))) = (flat c30 (v2 ++ [(F44 (a0.1.getD (toNat v3) default) a2_0)])) := (flat_append (c := c30) (l := v2) (m := [(F44 (a0.1.getD (toNat v3) default) a2_0)])).symm
    have z2 : (v2.length + 1) = (v2 ++ [(F44 (a0.1.getD (toNat v3) default) a2_0)]).length := len_app v2 [(F44 (a0.1.getD (toNat v3) default) a2_0)] rfl
    rw [z0, z1, z2]
    exact ih (v2 ++ [(F44 (a0.1.getD (toNat v3) default) a2_0)]) (v3 + 1) (by refine ⟨?_, ?_, ?_⟩ <;> (try simp only [Ls]) <;> first | omega | assumption | simp) (by (try simp only [Ls]); omega)
   | false =>
    have q0 := odf h0
    have e := Eq.refl (S37_c44_0 a0 a1 a2_0 (v2, v3)); conv at e => rhs; simp only [S37_c44_0, h0, cdb]
    rw [loopF_s, e]
    refine en [.d h0] [] [1, 6, 8, 34, 35, 36] [4, 5, 6, 7] hcx B37_c44_1 (K37_c44_1) (st37_c44_1 a0 a1 a2_0 (flat c30 v2) (v2.length) (flat c94 (F74_L a0.2)) ((F74_L a0.2).length) 0) (toNat ((a0.2.length : Int) - 0) + 1) (by kernel_rfl) ?_
    exact L37_c44_1 a0 a1 a2_0 l0_1 l0_2 hv hcx (toNat ((a0.2.length : Int) - 0) + 1) v2 (F74_L a0.2) 0 (by refine ⟨?_, ?_, ?_, ?_⟩ <;> (try simp only [Ls]) <;> first | omega | assumption | simp) (by (try simp only [Ls]); omega)

def F37_c44 (a0 : (List (Int × Int × Int)) × List (Int × Int × Int)) (a1 : Bool) (a2_0 : Int) : ((List (Int × Int × Int)) × List (Int × Int × Int)) × Int :=
 (loopF (S37_c44_0 a0 a1 a2_0) (toNat ((a0.1.length : Int) - 0) + 1) (([] : List (Int × Int × Int)), 0))

theorem C37_c44 (a0 : (List (Int × Int × Int)) × List (Int × Int × Int)) (a1 : Bool) (a2_0 : Int) (l0_1 : a0.1.length ≤ 9223372036854775807) (l0_2 : a0.2.length ≤ 9223372036854775807) (hv : F35 a0 = 0) : Con Tryz.prog 37 [(.a [(.s 0 0 a0.1.length 3), (.s 1 0 a0.2.length 3)]), (.v (.bool a1)), (.f 44 [(.p 2 0)])] [(.live false true (flat c30 a0.1)), (.live false true (flat c94 a0.2)), (.live false false [(iv a2_0)])] (.t [(.a [(.s 3 0 (F37_c44 a0 a1 a2_0).1.1.length 3), (.s 4 0 (F37_c44 a0 a1 a2_0).1.2.length 3)]), (iv (F37_c44 a0 a1 a2_0).2)]) [(.live true true (flat c30 (F37_c44 a0 a1 a2_0).1.1)), (.live true true (flat c94 (F37_c44 a0 a1 a2_0).1.2))] := by
 refine con_s Tryz.func37 (by kernel_rfl) fun cx hcx => ?_
 have hpf := val_parts hv
 have hcl : (F74_L a0.2).length = a0.2.length := rfl
 have e := Eq.refl (F37_c44 a0 a1 a2_0); conv at e => rhs; simp only [F37_c44]
 rw [e]
 refine en [.c [1] (C74_L a0.2 (by omega) (by omega) (by omega))] [.cell 6 0 3] [1, 2, 3, 6, 8, 18, 19, 20] [3, 4, 6, 7, 5] hcx B37_c44_0 (K37_c44_0) (st37_c44_0 a0 a1 a2_0 (flat c30 ([] : List (Int × Int × Int))) 0 0) (toNat ((a0.1.length : Int) - 0) + 1) (by kernel_rfl) ?_
 exact L37_c44_0 a0 a1 a2_0 l0_1 l0_2 hv hcx (toNat ((a0.1.length : Int) - 0) + 1) ([] : List (Int × Int × Int)) 0 (by refine ⟨?_, ?_, ?_⟩ <;> (try simp only [Ls]) <;> first | omega | assumption | simp) (by (try simp only [Ls]); omega)


def chgV (to : P3 → P3) (fs : List P3) (m : ME) : ME × Int := bif (((F35 (m.1.map to, fs)) : Int) != 0) then (([], []), F35 (m.1.map to, fs)) else ((m.1.map to, fs), 0)
theorem chg_scale (m : ME) (k : Int) : F37_c44 m false k = chgV (fun p => F44 p k) m.2 m := by
 unfold F37_c44
 have key := each_loop (S := S37_c44_0 m false k) (fun v i => (v, i)) (fun v p => .inl (v ++ [F44 p k])) (fun v => loopF (S37_c44_1 m false k) (toNat ((m.2.length : Int) - 0) + 1) (v, m.2, 0)) (L := m.1) (v := []) (n := toNat ((m.1.length : Int) - 0) + 1) (fun _ _ => True) ?_ (fun _ _ _ _ _ _ _ => trivial) ?_ (by omega) trivial
 · refine Eq.trans key ?_
   rw [foldE_inl, snocs (fun p => F44 p k)]
   simp only [outE, List.nil_append]
   have k2 := each_loop (S := S37_c44_1 m false k) (fun (_ : Unit) i => (m.1.map (fun p => F44 p k), m.2, i)) (fun v _ => .inl v) (fun _ => chgV (fun p => F44 p k) m.2 m) (L := m.2) (v := ()) (n := toNat ((m.2.length : Int) - 0) + 1) (fun _ _ => True) ?_ (fun _ _ _ _ _ _ _ => trivial) ?_ (by omega) trivial
   · refine Eq.trans k2 ?_
     rw [foldE_inl (fun v _ => v)]; rfl
   · intro i c hc v _
     obtain ⟨hlt, _⟩ := List.getElem?_eq_some_iff.1 hc
     simp only [S37_c44_1]
     rw [dqt (by omega), cond_true]; rw [cond_false]; rfl
   · intro v _
     simp only [S37_c44_1]
     rw [dqf (by omega), cond_false]
     unfold chgV
     generalize F35 (m.1.map (fun p => F44 p k), m.2) = e
     cases (e != 0) <;> rfl
 · intro i c hc v _
   obtain ⟨hlt, _⟩ := List.getElem?_eq_some_iff.1 hc
   simp only [S37_c44_0]
   rw [dqt (by omega), cond_true, getD_of hc]; rfl
 · intro v _
   simp only [S37_c44_0]
   rw [dqf (by omega), cond_false]; rfl
theorem chgV_len (to : P3 → P3) (fs : List P3) (m : ME) : (chgV to fs m).1.1.length ≤ m.1.length ∧ (chgV to fs m).1.2.length ≤ fs.length := by
 unfold chgV
 cases (((F35 (m.1.map to, fs)) : Int) != 0) with
 | true => exact ⟨Nat.zero_le _, Nat.zero_le _⟩
 | false => rw [cond_false]; simp only [List.length_map]; exact ⟨Nat.le_refl _, Nat.le_refl _⟩
theorem chgV_ok {to : P3 → P3} {fs : List P3} {m : ME} (h : (chgV to fs m).2 = 0) : (chgV to fs m).1 = (m.1.map to, fs) ∧ F35 (m.1.map to, fs) = 0 := by
 unfold chgV at h ⊢
 cases hv : (((F35 (m.1.map to, fs)) : Int) != 0) with
 | true => rw [hv, cond_true] at h; simp only at h; rw [h] at hv; cases hv
 | false => exact ⟨rfl, bne_eq_false_iff_eq.1 hv⟩


def F16 (a0 : (List (Int × Int × Int)) × List (Int × Int × Int)) (a1 : Int) : ((List (Int × Int × Int)) × List (Int × Int × Int)) × Int :=
 (bif (((F35 (a0.1, a0.2)) : Int) != 0) then
  ((([] : List (Int × Int × Int)), ([] : List (Int × Int × Int))), (F35 (a0.1, a0.2)))
 else
  (bif (!(F43 a1 1 128)) then
   ((([] : List (Int × Int × Int)), ([] : List (Int × Int × Int))), 1)
  else
   (((F37_c44 (a0.1, a0.2) false a1).1.1, (F37_c44 (a0.1, a0.2) false a1).1.2), (F37_c44 (a0.1, a0.2) false a1).2)))

theorem C16 (a0 : (List (Int × Int × Int)) × List (Int × Int × Int)) (a1 : Int) (l0_1 : a0.1.length ≤ 9223372036854775807) (l0_2 : a0.2.length ≤ 9223372036854775807) : Con Tryz.prog 16 [(.a [(.s 0 0 a0.1.length 3), (.s 1 0 a0.2.length 3)]), (iv a1)] [(.live false true (flat c30 a0.1)), (.live false true (flat c94 a0.2))] (.t [(.a [(.s 2 0 (F16 a0 a1).1.1.length 3), (.s 3 0 (F16 a0 a1).1.2.length 3)]), (iv (F16 a0 a1).2)]) [(.live true true (flat c30 (F16 a0 a1).1.1)), (.live true true (flat c94 (F16 a0 a1).1.2))] := by
 refine con_s Tryz.func16 (by kernel_rfl) fun cx hcx => ?_
 let t0 : List (St Tryz.prog) := [.c [0, 1] (C35 (a0.1, a0.2) (by (try simp only [Lt]); omega) (by (try simp only [Lt]); omega))]
 cases h0 : (((F35 (a0.1, a0.2)) : Int) != 0) with
 | true =>
  have q0 := bne_iff_ne.1 h0
  have e := Eq.refl (F16 a0 a1); conv at e => rhs; simp only [F16, h0, cdb]
  rw [e]
  exact rt (t0 ++ [.d h0]) [.cell 4 0 3, .cell 4 1 3] [5, 6] hcx (by kernel_rfl)
 | false =>
  have q0 := bne_eq_false_iff_eq.1 h0
  let t1 : List (St Tryz.prog) := (t0 ++ [.d h0, .c [] (C43 a1 1 128)])
  cases h1 : (!(F43 a1 1 128)) with
  | true =>
   have e := Eq.refl (F16 a0 a1); conv at e => rhs; simp only [F16, h0, h1, cdb]
   rw [e]
   exact rt (t1 ++ [.d h1]) [.cell 4 0 3, .cell 4 1 3] [5, 6] hcx (by kernel_rfl)
  | false =>
   have e := Eq.refl (F16 a0 a1); conv at e => rhs; simp only [F16, h0, h1, cdb]
   rw [e]
   exact rt (t1 ++ [.d h1, .c [0, 1, 3] (C37_c44 (a0.1, a0.2) false a1 (by (try simp only [Lt]); omega) (by (try simp only [Lt]); omega) (bne_eq_false_iff_eq.1 h0))]) [] [5, 6] hcx (by kernel_rfl)

def F10 : Bool :=
 (bif (((F28 (F29.1, F29.2) (0, 0, 0)).2 : Int) == 0) then
  (bif (((F28 (F29.1, F29.2) (0, 0, 0)).1 : Int) == 1048576) then
   (bif (((F30 (F29.1, F29.2) 1).2 : Int) == 0) then
    (bif (((F30 (F29.1, F29.2) 1).1 : Int) == 1280) then
     (bif (((F31 (F29.1, F29.2) 0).2 : Int) == 0) then
      (bif (decide (((F31 (F29.1, F29.2) 0).1.1 : Int) > 0)) then
       (decide (((F31 (F29.1, F29.2) 0).1.2 : Int) ≤ 1048576))
      else
       false)
     else
      false)
    else
     false)
   else
    false)
  else
   false)
 else
  false)

theorem C10 : Con Tryz.prog 10 [] [] (.v (.bool F10)) [] := by
 refine con_s Tryz.func10 (by kernel_rfl) fun cx hcx => ?_
 have ho1 : F29.1.length = 6 := by kernel_rfl
 have ho2 : F29.2.length = 8 := by kernel_rfl
 let t0 : List (St Tryz.prog) := [.c [] (C29), .c [0, 1] (C28 (F29.1, F29.2) (0, 0, 0) (by (try simp only [Lt]); omega) (by (try simp only [Lt]); omega)), .c [] (C29), .c [2, 3] (C30 (F29.1, F29.2) 1 (by (try simp only [Lt]); omega) (by (try simp only [Lt]); omega)), .c [] (C29), .c [4, 5] (C31 (F29.1, F29.2) 0 (by (try simp only [Lt]); omega) (by (try simp only [Lt]); omega))]
 cases h0 : (((F28 (F29.1, F29.2) (0, 0, 0)).2 : Int) == 0) with
 | true =>
  have q0 := eq_of_beq h0
  let t1 : List (St Tryz.prog) := (t0 ++ [.d h0])
  cases h1 : (((F28 (F29.1, F29.2) (0, 0, 0)).1 : Int) == 1048576) with
  | true =>
   have q1 := eq_of_beq h1
   let t2 : List (St Tryz.prog) := (t1 ++ [.d h1])
   cases h2 : (((F30 (F29.1, F29.2) 1).2 : Int) == 0) with
   | true =>
    have q2 := eq_of_beq h2
    let t3 : List (St Tryz.prog) := (t2 ++ [.d h2])
    cases h3 : (((F30 (F29.1, F29.2) 1).1 : Int) == 1280) with
    | true =>
     have q3 := eq_of_beq h3
     let t4 : List (St Tryz.prog) := (t3 ++ [.d h3])
     cases h4 : (((F31 (F29.1, F29.2) 0).2 : Int) == 0) with
     | true =>
      have q4 := eq_of_beq h4
      let t5 : List (St Tryz.prog) := (t4 ++ [.d h4])
      cases h5 : (decide (((F31 (F29.1, F29.2) 0).1.1 : Int) > 0)) with
      | true =>
       have q5 := odt h5
       have e := Eq.refl F10; conv at e => rhs; simp only [F10, h0, h1, h2, h3, h4, h5, cdb]
       rw [e]
       exact rt (t5 ++ [.d h5]) [] [] hcx (by kernel_rfl)
      | false =>
       have q5 := odf h5
       have e := Eq.refl F10; conv at e => rhs; simp only [F10, h0, h1, h2, h3, h4, h5, cdb]
       rw [e]
       exact rt (t5 ++ [.d h5]) [] [] hcx (by kernel_rfl)
     | false =>
      have q4 := ne_of_beq_false h4
      have e := Eq.refl F10; conv at e => rhs; simp only [F10, h0, h1, h2, h3, h4, cdb]
      rw [e]
      exact rt (t4 ++ [.d h4]) [] [] hcx (by kernel_rfl)
    | false =>
     have q3 := ne_of_beq_false h3
     have e := Eq.refl F10; conv at e => rhs; simp only [F10, h0, h1, h2, h3, cdb]
     rw [e]
     exact rt (t3 ++ [.d h3]) [] [] hcx (by kernel_rfl)
   | false =>
    have q2 := ne_of_beq_false h2
    have e := Eq.refl F10; conv at e => rhs; simp only [F10, h0, h1, h2, cdb]
    rw [e]
    exact rt (t2 ++ [.d h2]) [] [] hcx (by kernel_rfl)
  | false =>
   have q1 := ne_of_beq_false h1
   have e := Eq.refl F10; conv at e => rhs; simp only [F10, h0, h1, cdb]
   rw [e]
   exact rt (t1 ++ [.d h1]) [] [] hcx (by kernel_rfl)
 | false =>
  have q0 := ne_of_beq_false h0
  have e := Eq.refl F10; conv at e => rhs; simp only [F10, h0, cdb]
  rw [e]
  exact rt (t0 ++ [.d h0]) [] [] hcx (by kernel_rfl)

def F15 (a0 : Int × Int) (a1 : Int × Int) : Bool :=
 (bif (((F42 a0 a1).2.2 : Int) == 0) then
  (F42 a0 a1).2.1
 else
  false)

theorem C15 (a0 : Int × Int) (a1 : Int × Int) : Con Tryz.prog 15 [(.a [(iv a0.1), (iv a0.2)]), (.a [(iv a1.1), (iv a1.2)])] [] (.v (.bool (F15 a0 a1))) [] := by
 refine con_s Tryz.func15 (by kernel_rfl) fun cx hcx => ?_
 let t0 : List (St Tryz.prog) := [.c [] (C42 a0 a1)]
 cases h0 : (((F42 a0 a1).2.2 : Int) == 0) with
 | true =>
  have q0 := eq_of_beq h0
  have e := Eq.refl (F15 a0 a1); conv at e => rhs; simp only [F15, h0, cdb]
  rw [e]
  exact rt (t0 ++ [.d h0]) [] [] hcx (by kernel_rfl)
 | false =>
  have q0 := ne_of_beq_false h0
  have e := Eq.refl (F15 a0 a1); conv at e => rhs; simp only [F15, h0, cdb]
  rw [e]
  exact rt (t0 ++ [.d h0]) [] [] hcx (by kernel_rfl)

theorem sane_h : F10 = true := by kernel_rfl

theorem meet_m {a c : Int × Int} (ha : vs a) (hc : vs c) (h1 : a.1 ≤ c.2) (h2 : c.1 ≤ a.2) : F15 a c = true := by
 have hm : (F42 a c).2.1 = true ∧ (F42 a c).2.2 = 0 := by
   unfold F42 F45_2
   have e1 : F76 (a, c).1 = true := val_f (a := a.1) (b := a.2) ha.1 ha.2.1 ha.2.2
   have e2 : F76 (a, c).2 = true := val_f (a := c.1) (b := c.2) hc.1 hc.2.1 hc.2.2
   have h3 := ha.2.1; have h4 := hc.2.1
   rw [e1, e2, dqf (by (repeat' split) <;> omega)]
   exact ⟨rfl, rfl⟩
 unfold F15
 rw [hm.1, hm.2]; rfl
theorem bnd_vs {m : ME} {q : List Int} {d : Int} (h : (F11_L m q d).2 = 0) : vs (F11_L m q d).1 := by
 have := bnd_val h
 unfold vs; omega

theorem scl_len (m : ME) (k : Int) : (F16 m k).1.1.length ≤ m.1.length ∧ (F16 m k).1.2.length ≤ m.2.length := by
 unfold F16
 rw [chg_scale]
 have h := chgV_len (fun p => F44 p k) m.2 m
 cases (((F35 (m.1, m.2)) : Int) != 0) with
 | true => exact ⟨Nat.zero_le _, Nat.zero_le _⟩
 | false =>
   rw [cond_false]
   cases (!F43 k 1 128) with
   | true => exact ⟨Nat.zero_le _, Nat.zero_le _⟩
   | false => exact h

def F4 (a0 : (List (Int × Int × Int)) × List (Int × Int × Int)) (a1 : List (Int) × Int) (a2 : Int) : Bool :=
 (bif (F9 (a0.1, a0.2) a1.2) then
  F10
 else
  (bif (decide (((a1.1.length : Int) : Int) > 300)) then
   F10
  else
   (bif (((F11_L (a0.1, a0.2) a1.1 a1.2).2 : Int) != 0) then
    F10
   else
    (bif (((F16 (a0.1, a0.2) a2).2 : Int) != 0) then
     F10
    else
     (bif (((F11_L ((F16 (a0.1, a0.2) a2).1.1, (F16 (a0.1, a0.2) a2).1.2) a1.1 a1.2).2 : Int) != 0) then
      F10
     else
      (bif (((F17 (F11_L (a0.1, a0.2) a1.1 a1.2).1 a2).2 : Int) == 0) then
       (bif (F15 (F11_L ((F16 (a0.1, a0.2) a2).1.1, (F16 (a0.1, a0.2) a2).1.2) a1.1 a1.2).1 (F17 (F11_L (a0.1, a0.2) a1.1 a1.2).1 a2).1) then
        F10
       else
        false)
      else
       false))))))

theorem C4 (a0 : (List (Int × Int × Int)) × List (Int × Int × Int)) (a1 : List (Int) × Int) (a2 : Int) (l0_1 : a0.1.length ≤ 9223372036854775807) (l0_2 : a0.2.length ≤ 9223372036854775807) (l1_1 : a1.1.length ≤ 9223372036854775807) : Con Tryz.prog 4 [(.a [(.s 0 0 a0.1.length 3), (.s 1 0 a0.2.length 3)]), (.a [(.s 2 0 a1.1.length 1), (iv a1.2)]), (iv a2)] [(.live false true (flat c30 a0.1)), (.live false true (flat c94 a0.2)), (.live false true (flat c3 a1.1))] (.v (.bool (F4 a0 a1 a2))) [] := by
 refine con_s Tryz.func4 (by kernel_rfl) fun cx hcx => ?_
 have hx1 := scl_len (a0.1, a0.2) a2
 dsimp only at hx1
 let t0 : List (St Tryz.prog) := [.c [0, 1] (C9 (a0.1, a0.2) a1.2 (by (try simp only [Lt]); omega) (by (try simp only [Lt]); omega))]
 cases h0 : (F9 (a0.1, a0.2) a1.2) with
 | true =>
  have e := Eq.refl (F4 a0 a1 a2); conv at e => rhs; simp only [F4, h0, cdb]
  rw [e]
  exact rt (t0 ++ [.d h0, .c [] (C10)]) [] [] hcx (by kernel_rfl)
 | false =>
  let t1 : List (St Tryz.prog) := (t0 ++ [.d h0])
  cases h1 : (decide (((a1.1.length : Int) : Int) > 300)) with
  | true =>
   have q1 := odt h1
   have e := Eq.refl (F4 a0 a1 a2); conv at e => rhs; simp only [F4, h0, h1, cdb]
   rw [e]
   exact rt (t1 ++ [.d h1, .c [] (C10)]) [] [] hcx (by kernel_rfl)
  | false =>
   have q1 := odf h1
   let t2 : List (St Tryz.prog) := (t1 ++ [.d h1, .c [0, 1, 2] (C11_L (a0.1, a0.2) a1.1 a1.2 (by (try simp only [Lt]); omega) (by (try simp only [Lt]); omega) (by omega)), .c [0, 1] (C16 (a0.1, a0.2) a2 (by (try simp only [Lt]); omega) (by (try simp only [Lt]); omega))])
   cases h2 : (((F11_L (a0.1, a0.2) a1.1 a1.2).2 : Int) != 0) with
   | true =>
    have q2 := bne_iff_ne.1 h2
    have e := Eq.refl (F4 a0 a1 a2); conv at e => rhs; simp only [F4, h0, h1, h2, cdb]
    rw [e]
    exact rt (t2 ++ [.d h2, .c [] (C10)]) [] [] hcx (by kernel_rfl)
   | false =>
    have q2 := bne_eq_false_iff_eq.1 h2
    let t3 : List (St Tryz.prog) := (t2 ++ [.d h2])
    cases h3 : (((F16 (a0.1, a0.2) a2).2 : Int) != 0) with
    | true =>
     have q3 := bne_iff_ne.1 h3
     have e := Eq.refl (F4 a0 a1 a2); conv at e => rhs; simp only [F4, h0, h1, h2, h3, cdb]
     rw [e]
     exact rt (t3 ++ [.d h3, .c [] (C10)]) [] [] hcx (by kernel_rfl)
    | false =>
     have q3 := bne_eq_false_iff_eq.1 h3
     let t4 : List (St Tryz.prog) := (t3 ++ [.d h3, .c [6, 7, 2] (C11_L ((F16 (a0.1, a0.2) a2).1.1, (F16 (a0.1, a0.2) a2).1.2) a1.1 a1.2 (by (try simp only [Lt]); omega) (by (try simp only [Lt]); omega) (by (try simp only [Lt]); omega))])
     cases h4 : (((F11_L ((F16 (a0.1, a0.2) a2).1.1, (F16 (a0.1, a0.2) a2).1.2) a1.1 a1.2).2 : Int) != 0) with
     | true =>
      have q4 := bne_iff_ne.1 h4
      have e := Eq.refl (F4 a0 a1 a2); conv at e => rhs; simp only [F4, h0, h1, h2, h3, h4, cdb]
      rw [e]
      exact rt (t4 ++ [.d h4, .c [] (C10)]) [] [] hcx (by kernel_rfl)
     | false =>
      have q4 := bne_eq_false_iff_eq.1 h4
      let t5 : List (St Tryz.prog) := (t4 ++ [.d h4, .c [] (C17 (F11_L (a0.1, a0.2) a1.1 a1.2).1 a2)])
      cases h5 : (((F17 (F11_L (a0.1, a0.2) a1.1 a1.2).1 a2).2 : Int) == 0) with
      | true =>
       have q5 := eq_of_beq h5
       let t6 : List (St Tryz.prog) := (t5 ++ [.d h5, .c [] (C15 (F11_L ((F16 (a0.1, a0.2) a2).1.1, (F16 (a0.1, a0.2) a2).1.2) a1.1 a1.2).1 (F17 (F11_L (a0.1, a0.2) a1.1 a1.2).1 a2).1)])
       cases h6 : (F15 (F11_L ((F16 (a0.1, a0.2) a2).1.1, (F16 (a0.1, a0.2) a2).1.2) a1.1 a1.2).1 (F17 (F11_L (a0.1, a0.2) a1.1 a1.2).1 a2).1) with
       | true =>
        have e := Eq.refl (F4 a0 a1 a2); conv at e => rhs; simp only [F4, h0, h1, h2, h3, h4, h5, h6, cdb]
        rw [e]
        exact rt (t6 ++ [.d h6, .c [] (C10)]) [] [] hcx (by kernel_rfl)
       | false =>
        have e := Eq.refl (F4 a0 a1 a2); conv at e => rhs; simp only [F4, h0, h1, h2, h3, h4, h5, h6, cdb]
        rw [e]
        exact rt (t6 ++ [.d h6]) [] [] hcx (by kernel_rfl)
      | false =>
       have q5 := ne_of_beq_false h5
       have e := Eq.refl (F4 a0 a1 a2); conv at e => rhs; simp only [F4, h0, h1, h2, h3, h4, h5, cdb]
       rw [e]
       exact rt (t5 ++ [.d h5]) [] [] hcx (by kernel_rfl)


theorem ball_at {m : ME} {c : P3} (hv : F35 m = 0) (hc : bd 256 c) :
   (F28 m c).2 = 0 ∧ 1 ≤ (F28 m c).1 ∧ (F28 m c).1 ≤ 1073741825 ∧ 1 ≤ ballW m c ∧ ballW m c * 1099511627776 ≤ (F28 m c).1 * (F28 m c).1 ∧ ∀ p ∈ pans m, ds p.1 c ≤ ballW m c ∧ ds p.2.1 c ≤ ballW m c ∧ ds p.2.2 c ≤ ballW m c := by
 have hpt := pts_all hv
 have hW := ballW_bd hc m.1 0 hpt (by omega)
 have eB : F28 m c = ((F56 (ballW m c)).1.2, (F56 (ballW m c)).2) := by
   unfold F28
   rw [show F35 (m.1, m.2) = 0 from hv, hwith, hwith, hwith, dqt hc.1, dqt hc.2.1, dqt hc.2.2]
   show (loopF (S28_1 m c) (toNat ((m.1.length : Int) - 0) + 1) (0, 0)) = _
   rw [ball_lf]
 have L := Len_v (n := ballW m c) hW
 have hd := (ballW_ge c m.1 0).2
 have hm : ∀ p ∈ pans m, ds p.1 c ≤ ballW m c ∧ ds p.2.1 c ≤ ballW m c ∧ ds p.2.2 c ≤ ballW m c := by
   intro e he
   have hp := pan_pts hv e he
   have one : ∀ p ∈ m.1, ds p c ≤ ballW m c := fun p hp => by rw [← dsW_ds (hpt p hp) hc]; exact hd p hp
   exact ⟨one _ hp.1, one _ hp.2.1, one _ hp.2.2⟩
 have h1 : 1 ≤ ballW m c := by
   rcases Int.lt_or_le 0 (ballW m c) with k | k
   · omega
   · exfalso
     obtain ⟨_, hf1, _⟩ := val_parts hv
     cases hl : m.2 with
     | nil => rw [hl] at hf1; exact absurd hf1 (by decide)
     | cons f l =>
       have hf : f ∈ m.2 := by rw [hl]; exact List.mem_cons_self
       have hp : F101 m f ∈ pans m := List.mem_map.2 ⟨f, hf, rfl⟩
       have h3 := hm _ hp
       have hv2 := (vp_ok (vld_pan hv f hf)).2
       generalize F101 m f = e at *
       have e1 := ds_0 (Int.le_trans h3.1 k); have e2 := ds_0 (Int.le_trans h3.2.1 k); have e3 := ds_0 (Int.le_trans h3.2.2 k)
       have hz : nrm e = (0, 0, 0) := by
         have s0 : sb c c = (0, 0, 0) := Prod.ext (Int.sub_self _) (Prod.ext (Int.sub_self _) (Int.sub_self _))
         unfold nrm; rw [e1, e2, e3, s0]; decide
       rw [hz] at hv2
       exact absurd hv2 (by decide)
 rw [eB]
 refine ⟨L.1, ?_, ?_, h1, L.2.2, hm⟩
 · rcases Int.lt_or_le 0 (F56 (ballW m c)).1.2 with k | k
   · exact k
   · exfalso
     have e0 : (F56 (ballW m c)).1.2 = 0 := by have := L.2.1; omega
     have := L.2.2
     rw [e0] at this; omega
 · obtain ⟨r, hr, e⟩ := Len_f (n := ballW m c) hW
   obtain ⟨r0, r1, r2⟩ := hr
   show (F56 (ballW m c)).1.2 ≤ 1073741825
   rw [e]
   unfold lenV
   have hW2 : ballW m c ≤ 400000 := hW.2
   have hb : r ≤ 1073741824 := by
     by_cases hc : r ≤ 1073741824
     · exact hc
     · have := Int.mul_le_mul (show (1073741824 : Int) ≤ r by omega) (show (1073741824 : Int) ≤ r by omega) (by omega) (by omega)
       omega
   have hx : (if r * r = ballW m c * 1099511627776 then r else r + 1) = r ∨ (if r * r = ballW m c * 1099511627776 then r else r + 1) = r + 1 := by split <;> simp
   generalize (if r * r = ballW m c * 1099511627776 then r else r + 1) = s at hx ⊢
   rw [res_f (by omega) (by omega) (by omega)]
   show s ≤ 1073741825
   omega
theorem bv_hi {x : Int × Int} {Q mx E mn B : Int} (h : BV x Q mx E mn B) : x.2 ≤ B := by
 obtain ⟨a, ey, _, ha⟩ := h.hi
 have := imn_bd a B
 omega
theorem mem_chg {m : ME} {q : List Int} (hC : ChOK m q) {p : PN} (hp : p ∈ pans m) : ∃ e ∈ chg m q, e.1 = p := by
 obtain ⟨i, hi⟩ := List.getElem?_of_mem hp
 obtain ⟨hlt, hge⟩ := List.getElem?_eq_some_iff.1 hi
 have hpl : (pans m).length = m.2.length := List.length_map _
 have hl : i < (chg m q).length := by
   unfold chg
   rw [List.length_zip]; have := hC.len; omega
 refine ⟨(chg m q)[i], List.getElem_mem hl, ?_⟩
 unfold chg
 rw [List.getElem_zip]; exact hge
theorem tm_1 (p : P3) : tm 1 p = p := by simp only [tm, Int.one_mul]
theorem tmP_1 (p : PN) : tmP 1 p = p := by simp only [tmP, tm_1]
theorem scl_meet {m ml : ME} {q : List Int} {d k : Int} (hk : 1 ≤ k ∧ k ≤ 128) (hp : pans ml = (pans m).map (tmP k)) (h : (F11_L m q d).2 = 0) (h' : (F11_L ml q d).2 = 0) :
   (F11_L ml q d).1.1 ≤ k * (F11_L m q d).1.2 ∧ k * (F11_L m q d).1.1 ≤ (F11_L ml q d).1.2 := by
 obtain ⟨hC, Q, mx, E, mn, S, V⟩ := bnd_facts h
 obtain ⟨hC', Q', mx', E', mn', S', V'⟩ := bnd_facts h'
 have hb := mid_bd hC.v
 have hb' := mid_bd hC'.v
 have hc : bd 256 (midV (bxV m)) := by unfold bd at hb ⊢; omega
 have hc' : bd 256 (midV (bxV ml)) := by unfold bd at hb' ⊢; omega
 obtain ⟨_, B1, _, W1, WB, hm⟩ := ball_at hC.v hc
 obtain ⟨_, B1', _, W1', WB', hm'⟩ := ball_at hC'.v hc'
 have pl : ∀ e ∈ chg ml q, ∃ p ∈ pans m, e.1 = tmP k p := fun e he => by
   have := (List.of_mem_zip he).1
   rw [hp] at this
   obtain ⟨p, h1, h2⟩ := List.mem_map.1 this
   exact ⟨p, h1, h2.symm⟩
 constructor
 · have p := sys_k (k := 1) (k' := k) S' S (by omega) hk (fun e he w P hw hP => by
     obtain ⟨p, h1, h2⟩ := pl e he
     obtain ⟨e'', he'', eq⟩ := mem_chg hC h1
     refine ⟨p, ?_, ?_⟩
     · rw [tm_1, ← h2]; exact hP
     · have := S.hmn e'' he''
       rw [eq] at this; exact this)
   have kb : ∀ x y z : P3, ds (tm k x) (tm k (midV (bxV m))) = k * k * ds x (midV (bxV m)) := fun x _ _ => ds_tm k x _
   have b := sys_ballk (k := 1) S' (by omega) (c := tm k (midV (bxV m))) (m := k * k * ballW m (midV (bxV m))) (B := k * (F28 m (midV (bxV m))).1)
     (by
       unfold bd at hb
       have a1 := mul_bd (a := 128) (b := 64) (x := k) (y := (midV (bxV m)).1) (by omega) hb.1
       have a2 := mul_bd (a := 128) (b := 64) (x := k) (y := (midV (bxV m)).2.1) (by omega) hb.2.1
       have a3 := mul_bd (a := 128) (b := 64) (x := k) (y := (midV (bxV m)).2.2) (by omega) hb.2.2
       unfold bd tm; simp only; omega)
     (fun e he => by
       obtain ⟨p, h1, h2⟩ := pl e he
       have h3 := hm p h1
       rw [h2]
       simp only [tmP, tm_1, ds_tm]
       have kk := CapT.sq_int_nonneg k
       exact ⟨Int.mul_le_mul_of_nonneg_left h3.1 kk, Int.mul_le_mul_of_nonneg_left h3.2.1 kk, Int.mul_le_mul_of_nonneg_left h3.2.2 kk⟩)
     (by
       have kk : 1 ≤ k * k := by have := Int.mul_le_mul (a := 1) (b := 1) (c := k) (d := k) hk.1 hk.1 (by omega) (by omega); omega
       have := Int.mul_le_mul (a := 1) (b := 1) kk W1 (by omega) (by omega); omega)
     (by
       have := Int.mul_le_mul_of_nonneg_left WB (CapT.sq_int_nonneg k)
       grind)
     (by have := Int.mul_le_mul (a := 1) (b := 1) hk.1 B1 (by omega) (by omega); omega)
   have r := bv_le (f := 1) (g := k) V' V (by omega) (by omega) S'.mx1 S'.E1 S.mn1 p (by
     refine ⟨?_, ?_⟩
     · have := b.1; grind
     · have := b.2; grind)
   omega
 · have p := sys_k (k := k) (k' := 1) S S' hk (by omega) (fun e he w P hw hP => by
     have hpe : tmP k e.1 ∈ pans ml := by rw [hp]; exact List.mem_map.2 ⟨_, (List.of_mem_zip he).1, rfl⟩
     obtain ⟨e'', he'', eq⟩ := mem_chg hC' hpe
     refine ⟨tmP k e.1, ?_, ?_⟩
     · rw [tmP_1]; exact hull_tm hP
     · have := S'.hmn e'' he''
       rw [eq] at this; exact this)
   have b := sys_ballk (k := k) S hk (c := midV (bxV ml)) (m := ballW ml (midV (bxV ml))) (B := (F28 ml (midV (bxV ml))).1) (by unfold bd at hb' ⊢; omega)
     (fun e he => by
       have hpe : tmP k e.1 ∈ pans ml := by rw [hp]; exact List.mem_map.2 ⟨_, (List.of_mem_zip he).1, rfl⟩
       have h3 := hm' (tmP k e.1) hpe
       simp only [tmP] at h3
       exact h3) W1' WB' B1'
   have r := bv_le (f := k) (g := 1) V V' (by omega) (by omega) S.mx1 S.E1 S'.mn1 p (by omega)
   omega
theorem getD_map0 (f : P3 → P3) (hf : f default = default) (l : List P3) (i : Nat) : (l.map f).getD i default = f (l.getD i default) := by
 rw [gdq, gdq, List.getElem?_map]
 cases l[i]? with
 | none => exact hf.symm
 | some a => rfl
theorem pans_map {f : P3 → P3} (hf : f default = default) (m : ME) : pans (m.1.map f, m.2) = (pans m).map fun p => (f p.1, f p.2.1, f p.2.2) := by
 unfold pans
 rw [List.map_map]
 refine List.map_congr_left fun c _ => ?_
 unfold F101
 simp only [Function.comp, getD_map0 f hf]
theorem scale_pt {p : P3} {k : Int} (hp : bd 64 p) (hk : 1 ≤ k ∧ k ≤ 128) : F44 p k = tm k p := by
 unfold bd at hp
 have a1 := mul_bd (a := 128) (b := 64) (x := k) (y := p.1) (by omega) hp.1
 have a2 := mul_bd (a := 128) (b := 64) (x := k) (y := p.2.1) (by omega) hp.2.1
 have a3 := mul_bd (a := 128) (b := 64) (x := k) (y := p.2.2) (by omega) hp.2.2
 unfold F44 F39 tm
 simp only
 rw [W_eq (n := k * p.1) (by omega) (by omega), W_eq (n := k * p.2.1) (by omega) (by omega), W_eq (n := k * p.2.2) (by omega) (by omega), W_eq (n := 0 + k * p.1) (by omega) (by omega), W_eq (n := 0 + k * p.2.1) (by omega) (by omega), W_eq (n := 0 + k * p.2.2) (by omega) (by omega)]
 simp only [Int.zero_add]
theorem scale_ok {m : ME} {k : Int} (h : (F16 m k).2 = 0) : 1 ≤ k ∧ k ≤ 128 ∧ pans (F16 m k).1 = (pans m).map (tmP k) := by
 unfold F16 at h ⊢
 cases hv : (((F35 (m.1, m.2)) : Int) != 0) with
 | true => rw [hv, cond_true] at h; simp only at h; rw [h] at hv; cases hv
 | false =>
   rw [hv, cond_false] at h
   rw [cond_false]
   have hv0 := bne_eq_false_iff_eq.1 hv
   cases hf : (!(F43 k 1 128)) with
   | true => rw [hf, cond_true] at h; exact absurd h (by decide)
   | false =>
     rw [hf, cond_false] at h
     rw [cond_false]
     have hk : 1 ≤ k ∧ k ≤ 128 := by
       unfold F43 at hf
       by_cases h1 : k ≥ 1 <;> by_cases h2 : k ≤ 128 <;> simp [h1, h2] at hf
       exact ⟨h1, h2⟩
     rw [chg_scale] at h ⊢
     simp only at h
     have hc := chgV_ok h
     refine ⟨hk.1, hk.2, ?_⟩
     have e1 : (((chgV (fun p => F44 p k) (m.1, m.2).2 (m.1, m.2)).1.1, (chgV (fun p => F44 p k) (m.1, m.2).2 (m.1, m.2)).1.2) : ME) = (m.1.map (tm k), m.2) := by
       show (chgV (fun p => F44 p k) (m.1, m.2).2 (m.1, m.2)).1 = _
       rw [hc.1]
       refine Prod.ext (List.map_congr_left fun p hp => scale_pt (pts_all hv0 p hp) hk) rfl
     show pans (((chgV (fun p => F44 p k) (m.1, m.2).2 (m.1, m.2)).1.1, (chgV (fun p => F44 p k) (m.1, m.2).2 (m.1, m.2)).1.2) : ME) = _
     rw [e1]
     exact pans_map (f := tm k) (Prod.ext (Int.mul_zero k) (Prod.ext (Int.mul_zero k) (Int.mul_zero k))) m
theorem scl_z {m : ME} {q : List Int} {d k : Int} (hk : 1 ≤ k ∧ k ≤ 128) (h : (F11_L m q d).2 = 0) : F17 (F11_L m q d).1 k = ((k * (F11_L m q d).1.1, k * (F11_L m q d).1.2), 0) ∧ vs (k * (F11_L m q d).1.1, k * (F11_L m q d).1.2) := by
 have hb := bnd_val h
 obtain ⟨hC, Q, mx, E, mn, S, V⟩ := bnd_facts h
 have hm := mid_bd hC.v
 have hB := ball_at hC.v (c := midV (bxV m)) (by unfold bd at hm ⊢; omega)
 have hx := bv_hi V
 have hx2 : (F11_L m q d).1.2 ≤ 1073741825 := Int.le_trans hx hB.2.2.1
 rw [Scale_f (by unfold vs; omega) (by omega)]
 generalize (F11_L m q d).1 = x at *
 have a1 := Int.mul_le_mul_of_nonneg_left hb.2.1 (show 0 ≤ k by omega)
 have a2 := Int.mul_nonneg (show 0 ≤ k by omega) hb.1
 have a3 := Int.mul_le_mul (a := k) (b := x.2) (c := 128) (d := 1073741825) hk.2 hx2 (by omega) (by omega)
 have es : scl x k = (k * x.1, k * x.2) := by
   unfold scl sat
   rw [if_neg (by omega), Int.mul_comm x.1, Int.mul_comm x.2, if_neg (by omega), if_neg (by omega), if_neg (by omega), if_neg (by omega)]
 rw [es]
 refine ⟨res_f (by omega) (by omega) (by omega), ?_⟩
 unfold vs; simp only; omega

end Go.Proofs.YtaeagjnpobdglaaGreat
