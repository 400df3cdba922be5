/-
  Parts of the proofs of the laws: the executor, what functions of the program compute, and that it is what the statements ask. No premise.
-/
import Derived.Test.YtaeagjnpobdglaaVPme5
set_option linter.unusedVariables false
set_option linter.unusedSimpArgs false
set_option maxHeartbeats 4000000
open Int (toNat)
namespace Go.Proofs.Ytaeagjnpobdglaa
open Go.Proofs Go.Aw Go.RowKit
set_option maxRecDepth 100000

theorem isum_le {α : Type} {f g : α → Int} : ∀ {l : List α}, (∀ c ∈ l, f c ≤ g c) → (l.map f).sum ≤ (l.map g).sum
 | [], _ => Int.le_refl _
 | c :: l, h => by
   have h1 := h c List.mem_cons_self
   have h2 := isum_le (l := l) (fun x hx => h x (List.mem_cons_of_mem _ hx))
   simp only [List.map_cons, List.sum_cons]; omega
theorem isum_mul {α : Type} (a : Int) (f : α → Int) : ∀ l : List α, (l.map fun c => a * f c).sum = a * (l.map f).sum
 | [] => by simp
 | c :: l => by simp only [List.map_cons, List.sum_cons]; rw [isum_mul a f l, Int.mul_add]
theorem isum_const {α : Type} (a : Int) : ∀ l : List α, (l.map fun _ => a).sum = (l.length : Int) * a
 | [] => by simp
 | c :: l => by simp only [List.map_cons, List.sum_cons, List.length_cons]; rw [isum_const a l, show ((l.length + 1 : Nat) : Int) = (l.length : Int) + 1 by omega, Int.add_mul]; omega
theorem avg_lo {v : Int × Int} {n : Int} (hn : 1 ≤ n) : n * (avg v n).1 ≤ v.1 := Int.mul_ediv_self_le (by omega)
theorem avg_hi {v : Int × Int} {n : Int} (hn : 1 ≤ n) : v.2 ≤ n * (avg v n).2 := by
 have := Int.mul_ediv_self_le (x := -v.2) (k := n) (by omega)
 show v.2 ≤ n * -(-v.2 / n)
 rw [Int.mul_neg]; omega
theorem sc2_pos (d : Int) : 1 ≤ sc d * sc d := by
 rcases sc_in d with h | h | h | h <;> rw [h] <;> decide
theorem bet_lo (p q : PN) (d : Int) : sc d * sc d * (betS p q d).1 ≤ ((cutL d.toNat p).map (bLo d q)).sum := by
 unfold betS
 refine Int.le_trans (avg_lo (sc2_pos d)) ?_
 rw [accS_eq]; simp only [Int.zero_add]; exact Int.le_refl _
theorem bet_hi (p q : PN) (d : Int) : ((cutL d.toNat p).map (bHi (F98 p d) d q)).sum ≤ sc d * sc d * (betS p q d).2 := by
 unfold betS
 refine Int.le_trans ?_ (avg_hi (sc2_pos d))
 rw [accS_eq]; simp only [Int.zero_add]; exact Int.le_refl _
theorem PL_ge {d : Int} {L : List (PN × Int)} (hL : ∀ e ∈ L, vp e.1 = 0 ∧ 0 ≤ e.2) (p : PN) : sc d * sc d * (L.map fun e => e.2 * (betS e.1 (tmP (sc d) p) d).1).sum ≤ PLs d L p := by
 unfold PLs
 rw [← isum_mul]
 refine isum_le (fun e he => ?_)
 rw [isum_mul]
 have := Int.mul_le_mul_of_nonneg_left (bet_lo e.1 (tmP (sc d) p) d) (hL e he).2
 have e1 : sc d * sc d * (e.2 * (betS e.1 (tmP (sc d) p) d).1) = e.2 * (sc d * sc d * (betS e.1 (tmP (sc d) p) d).1) := by grind
 rw [e1]; exact this
theorem bHi_part {p q b : PN} {d : Int} {c : PN} (hp : vp p = 0) (hq : vp q = 0) (hd : 0 ≤ d ∧ d ≤ 2) (hc : c ∈ cutL d.toNat p) (hb : b ∈ cutL d.toNat q) : bHi (F98 p d) d b c ≤ bHi (F98 p d) d (tmP (sc d) q) c := by
 have hn := ne3_part (a := c) (vp_ok hq).1 (d := d) (by omega) hb
 have hN : 1 ≤ NN (sc d) ∧ NN (sc d) ≤ 288230376151711744 := by
   have : d = 0 ∨ d = 1 ∨ d = 2 := by omega
   rcases this with rfl | rfl | rfl <;> decide
 unfold bHi
 by_cases h1 : 0 < ne3 c (tmP (sc d) q)
 · rw [if_pos h1, if_pos (show 0 < ne3 c b by omega)]
   have hm : (of1 (sc d) (ne3 c b)).2 ≤ (of1 (sc d) (ne3 c (tmP (sc d) q))).2 := by
     unfold of1
     rw [if_neg (by omega), if_neg (by omega)]
     exact inv_hi_mono hN (by omega) hn
   split <;> split <;> omega
 · rw [if_neg h1]
   split
   · split <;> omega
   · omega
theorem ES_bet {d : Int} (hd : 0 ≤ d ∧ d ≤ 2) {L : List (PN × Int)} (hL : ∀ e ∈ L, vp e.1 = 0 ∧ 0 ≤ e.2) : ESum d L ≤ (sc d * sc d) * (sc d * sc d) * (L.map fun e' => e'.2 * (L.map fun e => e.2 * (betS e.1 (tmP (sc d) e'.1) d).2).sum).sum := by
 unfold ESum
 rw [← isum_mul]
 refine isum_le (fun e' he' => ?_)
 have key : ∀ b ∈ cutL d.toNat e'.1, e'.2 * (L.map fun e => ((cutL d.toNat e.1).map fun c => e.2 * bHi (F98 e.1 d) d b c).sum).sum ≤ e'.2 * (sc d * sc d * (L.map fun e => e.2 * (betS e.1 (tmP (sc d) e'.1) d).2).sum) := by
   intro b hb
   refine Int.mul_le_mul_of_nonneg_left ?_ (hL e' he').2
   rw [← isum_mul]
   refine isum_le (fun e he => ?_)
   rw [isum_mul]
   have h1 := isum_le (l := cutL d.toNat e.1) (f := bHi (F98 e.1 d) d b) (g := bHi (F98 e.1 d) d (tmP (sc d) e'.1)) (fun c hc => bHi_part (hL e he).1 (hL e' he').1 hd hc hb)
   have h2 := Int.le_trans h1 (bet_hi e.1 (tmP (sc d) e'.1) d)
   have h3 := Int.mul_le_mul_of_nonneg_left h2 (hL e he).2
   have e1 : sc d * sc d * (e.2 * (betS e.1 (tmP (sc d) e'.1) d).2) = e.2 * (sc d * sc d * (betS e.1 (tmP (sc d) e'.1) d).2) := by grind
   rw [e1]; exact h3
 refine Int.le_trans (isum_le key) ?_
 rw [isum_const, cnt_len (by omega) e'.1]
 exact Int.le_of_eq (by grind)
theorem ES_mut {d : Int} (hd : 0 ≤ d ∧ d ≤ 2) {L : List (PN × Int)} (hL : ∀ e ∈ L, vp e.1 = 0 ∧ 0 ≤ e.2) : ESum d L ≤ (sc d * sc d) * (sc d * sc d) * (L.map fun e' => (L.map fun e => e.2 * e'.2 * (mutV e.1 e'.1 d).1.2).sum).sum := by
 unfold ESum
 rw [← isum_mul]
 refine isum_le (fun e' he' => ?_)
 -- exchange the sums over b and e
 have ex : ((cutL d.toNat e'.1).map fun b => e'.2 * (L.map fun e => ((cutL d.toNat e.1).map fun c => e.2 * bHi (F98 e.1 d) d b c).sum).sum).sum = (L.map fun e => ((cutL d.toNat e'.1).map fun b => e'.2 * ((cutL d.toNat e.1).map fun c => e.2 * bHi (F98 e.1 d) d b c).sum).sum).sum := by
   have sw : ∀ (A : List PN) (B : List (PN × Int)) (f : PN → PN × Int → Int), (A.map fun a => (B.map fun b => f a b).sum).sum = (B.map fun b => (A.map fun a => f a b).sum).sum := by
     intro A B f
     induction A with
     | nil => simp only [List.map_nil, List.sum_nil]; rw [isum_const]; omega
     | cons a A ih =>
       simp only [List.map_cons, List.sum_cons, ih]
       clear ih
       induction B with
       | nil => simp
       | cons b B ih2 => simp only [List.map_cons, List.sum_cons]; omega
   have e2 : ((cutL d.toNat e'.1).map fun b => e'.2 * (L.map fun e => ((cutL d.toNat e.1).map fun c => e.2 * bHi (F98 e.1 d) d b c).sum).sum) = ((cutL d.toNat e'.1).map fun b => (L.map fun e => e'.2 * ((cutL d.toNat e.1).map fun c => e.2 * bHi (F98 e.1 d) d b c).sum).sum) := by
     refine List.map_congr_left (fun b _ => ?_)
     rw [isum_mul]
   rw [e2]; exact sw _ _ _
 rw [ex, ← isum_mul]
 refine isum_le (fun e he => ?_)
 have hpk : pk e.1 e'.1 d = 0 := by unfold pk; rw [if_pos (hL e he).1, if_pos (hL e' he').1, if_pos hd]
 have hm : (mutV e.1 e'.1 d).1.2 = (avg (sums (mutL e.1 e'.1 d) (0, 0)) (sc d * sc d)).2 := by unfold mutV; rw [if_pos hpk]
 have h1 : ((cutL d.toNat e'.1).map fun b => e'.2 * ((cutL d.toNat e.1).map fun c => e.2 * bHi (F98 e.1 d) d b c).sum).sum ≤ e.2 * e'.2 * (sc d * sc d * ((cutL d.toNat e'.1).map fun b => (betS e.1 b d).2).sum) := by
   rw [← isum_mul, ← isum_mul]
   refine isum_le (fun b hb => ?_)
   rw [isum_mul]
   have h2 := bet_hi e.1 b d
   have h3 := Int.mul_le_mul_of_nonneg_left h2 (Int.mul_nonneg (hL e he).2 (hL e' he').2)
   have e1 : e'.2 * (e.2 * ((cutL d.toNat e.1).map fun c => bHi (F98 e.1 d) d b c).sum) = e.2 * e'.2 * ((cutL d.toNat e.1).map (bHi (F98 e.1 d) d b)).sum := by grind
   rw [e1]; exact h3
 refine Int.le_trans h1 ?_
 have h4 := avg_hi (v := sums (mutL e.1 e'.1 d) (0, 0)) (sc2_pos d)
 rw [sums_eq] at h4
 have e3 : (((0 : Int), (0 : Int)).2 + ((mutL e.1 e'.1 d).map (·.2)).sum) = ((cutL d.toNat e'.1).map fun b => (betS e.1 b d).2).sum := by
   unfold mutL
   rw [List.map_map]
   simp only [Int.zero_add]
   rfl
 simp only at h4 e3
 rw [e3] at h4
 rw [hm, sums_eq]
 have h5 := Int.mul_le_mul_of_nonneg_left h4 (show 0 ≤ sc d * sc d by have := sc2_pos d; omega)
 have h6 := Int.mul_le_mul_of_nonneg_left h5 (Int.mul_nonneg (hL e he).2 (hL e' he').2)
 exact Int.le_trans h6 (Int.le_of_eq (by grind))
structure Sys (L : List (PN × Int)) (d Q mx E mn : Int) : Prop where
 hd : 0 ≤ d ∧ d ≤ 2
 hL : ∀ e ∈ L, vp e.1 = 0 ∧ 0 ≤ e.2
 hQ : qsum L = Q
 Q1 : 1 ≤ Q
 E1 : 1 ≤ E
 mx1 : 1 ≤ mx
 mn1 : 1 ≤ mn
 hmx : ∀ e ∈ L, (L.map fun e' => e'.2 * (betS e'.1 (tmP (sc d) e.1) d).2).sum ≤ mx
 hmn : ∀ e ∈ L, mn ≤ (L.map fun e' => e'.2 * (betS e'.1 (tmP (sc d) e.1) d).1).sum
 hE : (L.map fun e' => (L.map fun e => e.2 * e'.2 * (mutV e.1 e'.1 d).1.2).sum).sum ≤ E
theorem sys_bet {L : List (PN × Int)} {d Q mx E mn : Int} (S : Sys L d Q mx E mn) : ESum d L ≤ (sc d * sc d) * (sc d * sc d) * (Q * mx) := by
 refine Int.le_trans (ES_bet S.hd S.hL) (Int.mul_le_mul_of_nonneg_left ?_ (Int.mul_nonneg (by have := sc2_pos d; omega) (by have := sc2_pos d; omega)))
 have h1 := isum_le (l := L) (f := fun e' => e'.2 * (L.map fun e => e.2 * (betS e.1 (tmP (sc d) e'.1) d).2).sum) (g := fun e' => mx * e'.2) (fun e' he' => by
   have := Int.mul_le_mul_of_nonneg_left (S.hmx e' he') (S.hL e' he').2
   exact Int.le_trans this (Int.le_of_eq (Int.mul_comm _ _)))
 rw [isum_mul] at h1
 have : (L.map (·.2)).sum = Q := S.hQ
 rw [this] at h1
 exact Int.le_trans h1 (Int.le_of_eq (Int.mul_comm _ _))
theorem sys_mut {L : List (PN × Int)} {d Q mx E mn : Int} (S : Sys L d Q mx E mn) : ESum d L ≤ (sc d * sc d) * (sc d * sc d) * E :=
 Int.le_trans (ES_mut S.hd S.hL) (Int.mul_le_mul_of_nonneg_left S.hE (Int.mul_nonneg (by have := sc2_pos d; omega) (by have := sc2_pos d; omega)))
theorem cancel_pos {a b k : Int} (hk : 1 ≤ k) (h : k * a ≤ k * b) : a ≤ b := Int.le_of_mul_le_mul_left h (by omega)
theorem sys_pair {L L' : List (PN × Int)} {d Q mx E mn d' Q' mx' E' mn' : Int} (S : Sys L d Q mx E mn) (S' : Sys L' d' Q' mx' E' mn')
   (hV : ∀ e ∈ L, mn' ≤ (L'.map fun e' => e'.2 * (betS e'.1 (tmP (sc d') e.1) d').1).sum) : Q * Q * mn' ≤ Q' * E ∧ Q * mn' ≤ Q' * mx := by
 have hV0 : ∀ e ∈ L, sc d' * sc d' * mn' ≤ PLs d' L' e.1 := fun e he =>
   Int.le_trans (Int.mul_le_mul_of_nonneg_left (hV e he) (by have := sc2_pos d'; omega)) (PL_ge S'.hL e.1)
 have a := phyA S.hd S'.hd S.hL S'.hL hV0 (sys_mut S)
 have b := phyA S.hd S'.hd S.hL S'.hL hV0 (sys_bet S)
 rw [S.hQ, S'.hQ] at a b
 have n1 := sc2_pos d; have n2 := sc2_pos d'
 generalize sc d * sc d = n at *
 generalize sc d' * sc d' = n' at *
 have nn : 1 ≤ n * n := by have := Int.mul_le_mul (a := 1) (b := 1) (c := n) (d := n) n1 n1 (by omega) (by omega); omega
 have nnn : 1 ≤ n * n * n' := by have := Int.mul_le_mul (a := 1) (b := 1) (c := n * n) (d := n') nn n2 (by omega) (by omega); omega
 refine ⟨cancel_pos nnn ?_, cancel_pos S.Q1 (cancel_pos nnn ?_)⟩
 · have e1 : n * n * n' * (Q * Q * mn') = n * Q * (n * Q) * (n' * mn') := by grind
   have e2 : n * n * n' * (Q' * E) = n' * Q' * (n * n * E) := by grind
   rw [e1, e2]; exact a
 · have e1 : n * n * n' * (Q * (Q * mn')) = n * Q * (n * Q) * (n' * mn') := by grind
   have e2 : n * n * n' * (Q * (Q' * mx)) = n' * Q' * (n * n * (Q * mx)) := by grind
   rw [e1, e2]; exact b
theorem sys_ball {L : List (PN × Int)} {d Q mx E mn : Int} (S : Sys L d Q mx E mn) {c : P3} {m B : Int} (hc : bd 256 c) (hm : ∀ e ∈ L, ds e.1.1 c ≤ m ∧ ds e.1.2.1 c ≤ m ∧ ds e.1.2.2 c ≤ m) (hm1 : 1 ≤ m) (hB : m * 1099511627776 ≤ B * B) (hB0 : 1 ≤ B) : Q * Q * 1099511627776 ≤ B * E ∧ Q * 1099511627776 ≤ B * mx := by
 have a := phyB S.hd S.hL hc hm hm1 hB hB0 (sys_mut S)
 have b := phyB S.hd S.hL hc hm hm1 hB hB0 (sys_bet S)
 rw [S.hQ] at a b
 have n1 := sc2_pos d
 generalize sc d * sc d = n at *
 have nn : 1 ≤ n * n := by have := Int.mul_le_mul (a := 1) (b := 1) (c := n) (d := n) n1 n1 (by omega) (by omega); omega
 refine ⟨cancel_pos nn ?_, cancel_pos S.Q1 (cancel_pos nn ?_)⟩
 · have e1 : n * n * (Q * Q * 1099511627776) = n * Q * (n * Q) * 1099511627776 := by grind
   have e2 : n * n * (B * E) = B * (n * n * E) := by grind
   rw [e1, e2]; exact a
 · have e1 : n * n * (Q * (Q * 1099511627776)) = n * Q * (n * Q) * 1099511627776 := by grind
   have e2 : n * n * (Q * (B * mx)) = B * (n * n * (Q * mx)) := by grind
   rw [e1, e2]; exact b


theorem sat_in {x n : Int} (h1 : -1099511627776 ≤ sat x n) (h2 : sat x n ≤ 1099511627776) : sat x n = x * n := by
 unfold sat at *
 split at h1 <;> rename_i a
 · rw [if_pos a] at h2; omega
 · rw [if_neg a] at h2 ⊢
   split at h1 <;> rename_i b
   · omega
   · rw [if_neg b]
theorem scl_val {a : Int × Int} {n : Int} (ha : okP a) (hn : 0 ≤ n ∧ n ≤ 10000) (h : (F13 a n).2 = 0) : (F13 a n).1 = (a.1 * n, a.2 * n) := by
 rw [Scale_f (okP_vs ha) (by omega)] at h ⊢
 rcases res_cases (scl a n).1 (scl a n).2 with ⟨e, v⟩ | e
 · rw [e]
   have hs : scl a n = (sat a.1 n, sat a.2 n) := by unfold scl; rw [if_neg (by omega)]
   rw [hs] at v ⊢
   unfold vs at v
   simp only at v ⊢
   rw [sat_in v.1 (by omega), sat_in (x := a.2) (by omega) v.2.2]
 · rw [e] at h; exact absurd h (by decide)
theorem add_val {l : List ((Int × Int) × Int)} (hl : ∀ c ∈ l, okP c.1 ∧ 0 ≤ c.2 ∧ c.2 ≤ 10000) (h : (addV l).2 = 0) : (addV l).1 = ((l.map fun c => c.1.1 * c.2).sum, (l.map fun c => c.1.2 * c.2).sum) := by
 unfold addV at h ⊢
 cases hs : shs sclV l [] with
 | inr r => rw [hs] at h; exact absurd h (shs_inr hs)
 | inl m =>
   rw [hs] at h
   simp only [out8] at h ⊢
   obtain ⟨e, hv⟩ := sumV_0 h
   rw [e]
   obtain ⟨e2, h0⟩ := shs_inl hs
   rw [List.nil_append] at e2
   rw [sums_eq, e2]
   simp only [Int.zero_add, List.map_map]
   refine Prod.ext ?_ ?_
   · refine congrArg List.sum (List.map_congr_left fun c hc => ?_)
     show (F13 c.1 c.2).1.1 = _
     rw [scl_val (hl c hc).1 (hl c hc).2 (h0 c hc)]
   · refine congrArg List.sum (List.map_congr_left fun c hc => ?_)
     show (F13 c.1 c.2).1.2 = _
     rw [scl_val (hl c hc).1 (hl c hc).2 (h0 c hc)]
theorem pot_val {T : TB} {q : List Int} (hT : ∀ r ∈ T, r.length = q.length ∧ ∀ s ∈ r, okP s) (hq : okC q) (h : (potV T q).2 = 0) :
   (potV T q).1 = T.map fun r => (((r.zip q).map fun c => c.1.1 * c.2).sum, ((r.zip q).map fun c => c.1.2 * c.2).sum) := by
 unfold potV at h ⊢
 cases hs : shs (fun r : List (Int × Int) => addV (r.zip q)) T [] with
 | inr r => rw [hs] at h; exact absurd h (shs_inr hs)
 | inl m =>
   simp only [out8]
   obtain ⟨e, h0⟩ := shs_inl hs
   rw [List.nil_append] at e
   subst e
   refine List.map_congr_left fun r hr => ?_
   obtain ⟨hl, hP⟩ := hT r hr
   exact add_val (l := r.zip q) (fun c hc => ⟨hP _ (List.of_mem_zip hc).1, by have := hq _ (List.of_mem_zip hc).2; omega⟩) (h0 r hr)
theorem mxF_ge : ∀ (l : List (Int × Int)) (v : Int), v ≤ mxF l v ∧ ∀ s ∈ l, s.2 ≤ mxF l v
 | [], v => ⟨Int.le_refl _, fun s hs => by cases hs⟩
 | a :: l, v => by
   have ih := mxF_ge l (imx v a.2)
   have hb : v ≤ imx v a.2 ∧ a.2 ≤ imx v a.2 := by unfold imx; split <;> omega
   refine ⟨Int.le_trans hb.1 ih.1, fun s hs => ?_⟩
   rcases List.mem_cons.1 hs with rfl | hs
   · exact Int.le_trans hb.2 ih.1
   · exact ih.2 s hs
theorem mnF_le : ∀ (l : List (Int × Int)) (v : Int), mnF l v ≤ v ∧ ∀ s ∈ l, mnF l v ≤ s.1
 | [], v => ⟨Int.le_refl _, fun s hs => by cases hs⟩
 | a :: l, v => by
   have ih := mnF_le l (imn v a.1)
   have hb : imn v a.1 ≤ v ∧ imn v a.1 ≤ a.1 := by unfold imn; split <;> omega
   refine ⟨Int.le_trans ih.1 hb.1, fun s hs => ?_⟩
   rcases List.mem_cons.1 hs with rfl | hs
   · exact Int.le_trans ih.1 hb.2
   · exact ih.2 s hs
theorem mnF_pos : ∀ (l : List (Int × Int)) (v : Int), 1 ≤ v → (∀ s ∈ l, 1 ≤ s.1) → 1 ≤ mnF l v
 | [], v, h, _ => h
 | a :: l, v, h, h2 => mnF_pos l (imn v a.1) (by have := h2 a List.mem_cons_self; unfold imn; split <;> omega) (fun s hs => h2 s (List.mem_cons_of_mem _ hs))
theorem mxF_vs : ∀ (l : List (Int × Int)) (v B : Int), v ≤ B → (∀ s ∈ l, s.2 ≤ B) → mxF l v ≤ B
 | [], v, B, h, _ => h
 | a :: l, v, B, h, h2 => mxF_vs l (imx v a.2) B (by have := h2 a List.mem_cons_self; unfold imx; split <;> omega) (fun s hs => h2 s (List.mem_cons_of_mem _ hs))
theorem lim_0 {n : Int} (h : (F86 n).2 = 0) : (F86 n).1 = n ∧ n ≤ 1099511627776 := by
 unfold F86 at h ⊢
 by_cases c : n > 1099511627776
 · rw [dqt c] at h; exact absurd h (show ¬ ((4 : Int) = 0) by decide)
 · rw [dqf c]; exact ⟨rfl, by omega⟩
abbrev chg (m : ME) (q : List Int) : List (PN × Int) := (pans m).zip q
theorem chg_sum {m : ME} {q : List Int} (hC : ChOK m q) : qsum (chg m q) = q.sum := by
 unfold qsum chg
 have hpl : (pans m).length = m.2.length := List.length_map _
 rw [List.map_snd_zip (by have := hC.len; omega)]
theorem chg_ok {m : ME} {q : List Int} (hC : ChOK m q) : ∀ e ∈ chg m q, vp e.1 = 0 ∧ 0 ≤ e.2 := by
 intro e he
 have h1 := List.of_mem_zip he
 refine ⟨?_, (hC.ok _ h1.2).1⟩
 obtain ⟨c, hc, e1⟩ := List.mem_map.1 h1.1
 rw [← e1]
 exact vld_pan hC.v c hc
structure BV (x : Int × Int) (Q mx E mn B : Int) : Prop where
 lo : ∃ b t, x.1 = imx b t ∧ 0 ≤ b ∧ 0 ≤ t ∧ b * mx ≤ Q * 1099511627776 ∧ t * E ≤ Q * Q * 1099511627776
 hi : ∃ a, x.2 = imn a B ∧ Q * 1099511627776 ≤ a * mn ∧ a ≤ 1099511627776
theorem bnd_facts {m : ME} {q : List Int} {d : Int} (h : (F8_L m q d).2 = 0) : ChOK m q ∧ ∃ Q mx E mn, Sys (chg m q) d Q mx E mn ∧ BV (F8_L m q d).1 Q mx E mn (F9 m (midV (bxV m))).1 := by
 unfold F8_L at h ⊢
 cases hc : ((F28_L (m.1, m.2) q d : Int) != 0) with
 | true => simp only [hc, cond_true] at h; rw [h] at hc; cases hc
 | false =>
   obtain ⟨hv, hd⟩ := chk_v (m := m) hc
   have hC : ChOK m q := by have hc2 : ((F28_L m q d : Int) != 0) = false := hc; rw [chk_h] at hc2; exact (chD_ok (bne_eq_false_iff_eq.1 hc2)).1
   refine ⟨hC, ?_⟩
   have hpf := prep_f (m := m) hv hd
   simp only [hc, cond_false] at h ⊢
   have hpf' : F29 (m.1, m.2) d = _ := hpf
   rw [hpf'] at h ⊢
   rw [show ((((((m.1, m.2), (F56_f57 m d).1, (F56_f58 m d).1, (F9 m (midV (bxV m))).1), 0) : TBL × Int).2 : Int) != 0) = false from rfl, cond_false] at h ⊢
   have eB : (F56_f57 m d).1 = (pans m).map (rowB m d) := by rw [tab_b hv hd]; rfl
   have eM : (F56_f58 m d).1 = MT m d := by rw [tab_m hv hd]; rfl
   simp only [eB, eM] at h ⊢
   have hn := hC.n; have hl := hC.len; have hs1 := hC.pos; have hle := hC.le
   have hpl : (pans m).length = m.2.length := List.length_map _
   have hrow : ∀ r ∈ (pans m).map (rowB m d), r.length = q.length ∧ ∀ s ∈ r, okP s := fun r hr => by
     obtain ⟨p, hp, rfl⟩ := List.mem_map.1 hr
     unfold rowB
     refine ⟨by rw [List.length_map]; omega, fun s hsm => ?_⟩
     obtain ⟨p', hp', rfl⟩ := List.mem_map.1 hsm
     exact (Between_okP (vld_pk hC.v hd hp' hp)).2
   have ep := pot_h (T := (pans m).map (rowB m d)) (q := q) (fun r hr => by rw [(hrow r hr).1]; exact Nat.le_refl _) (by omega)
   have ee := en_h (m := m) (q := q) (d := d) (by omega) (by omega)
   unfold F30_L at h ⊢
   simp only [ep, ee] at h ⊢
   generalize hB : (F9 m (midV (bxV m))).1 = B at *
   cases hP : ((((potV ((pans m).map (rowB m d)) q).2 : Int)) != 0) with
   | true => simp only [hP, cond_true] at h; rw [h] at hP; cases hP
   | false =>
     simp only [hP, cond_false] at h ⊢
     have hP0 := bne_eq_false_iff_eq.1 hP
     have pv := pot_val hrow hC.ok hP0
     have pp := pot_pos hrow hC.ok hP0
     cases hb : (((F61_L_L (potV ((pans m).map (rowB m d)) q).1 q).2 : Int) != 0) with
     | true => simp only [hb, cond_true] at h; rw [h] at hb; cases hb
     | false =>
       simp only [hb, cond_false] at h ⊢
       cases hE : (((addV (((pans m).zip q).flatMap (eC m q d))).2 : Int) != 0) with
       | true => simp only [hE, cond_true] at h; rw [h] at hE; cases hE
       | false =>
         simp only [hE, cond_false] at h ⊢
         have hE0 := bne_eq_false_iff_eq.1 hE
         have hzq : ∀ e ∈ (pans m).zip q, 0 ≤ e.2 ∧ e.2 ≤ 100 := fun e he => hC.ok _ (List.of_mem_zip he).2
         have hWq : ∀ c ∈ (pans m).zip q, ∀ e ∈ (pans m).zip q, W (c.2 * e.2) = c.2 * e.2 ∧ 0 ≤ c.2 * e.2 ∧ c.2 * e.2 ≤ 10000 := fun c hc e he => by
           have a := hzq c hc; have b := hzq e he
           have c1 := Int.mul_nonneg a.1 b.1
           have c2 := Int.mul_le_mul (a := c.2) (b := e.2) (c := 100) (d := 100) a.2 b.2 b.1 (by omega)
           exact ⟨W_eq (by omega) (by omega), c1, by omega⟩
         have hel : ∀ c ∈ ((pans m).zip q).flatMap (eC m q d), okP c.1 ∧ 0 ≤ c.2 ∧ c.2 ≤ 10000 := fun c hc => by
           obtain ⟨e, he, hc⟩ := List.mem_flatMap.1 hc
           obtain ⟨e', he', rfl⟩ := List.mem_map.1 hc
           have := hWq e he e' he'
           exact ⟨(Mutual_okP (vld_pk hC.v hd (List.of_mem_zip he).1 (List.of_mem_zip he').1)).2, by simp only; rw [this.1]; exact this.2.1, by simp only; rw [this.1]; exact this.2.2⟩
         have ev := add_val hel hE0
         have epos := en_pos hC hd hE0
         cases ht : (((F63_L (addV (((pans m).zip q).flatMap (eC m q d))).1 q).2 : Int) != 0) with
         | true => simp only [ht, cond_true] at h; rw [h] at ht; cases ht
         | false =>
           simp only [ht, cond_false] at h ⊢
           cases ha : (((F64_L_L (potV ((pans m).map (rowB m d)) q).1 q).2 : Int) != 0) with
           | true => simp only [ha, cond_true] at h; rw [h] at ha; cases ha
           | false =>
             simp only [cond_false]
             have tq := tot_eq hC.ok hC.pos (by omega)
             have o1 := one_eq hC.ok hC.pos (by omega)
             have hb0 := bne_eq_false_iff_eq.1 hb
             have ht0 := bne_eq_false_iff_eq.1 ht
             have ha0 := bne_eq_false_iff_eq.1 ha
             rw [below_f] at hb0 ⊢
             rw [above_f] at ha0 ⊢
             unfold F63_L at ht0 ⊢
             rw [tq.1] at hb0 ha0 ht0 ⊢
             rw [tq.1] at o1
             rw [o1] at ht0 ⊢
             simp only at ht0 ⊢
             generalize hl2 : (potV ((pans m).map (rowB m d)) q).1 = l at *
             have l1 : 1 ≤ l.length := by rw [pp.1, List.length_map]; omega
             have lv : ∀ s ∈ l, 1 ≤ s.1 ∧ s.1 ≤ s.2 ∧ s.2 ≤ 1099511627776 := fun s hs => by
               have := pp.2 s hs
               unfold vs at this; omega
             have l0m : l.getD (toNat 0) default ∈ l := by
               rw [show toNat 0 = 0 from rfl, gdq, List.getElem?_eq_getElem (show 0 < l.length by omega)]
               exact List.getElem_mem (show 0 < l.length by omega)
             have hmx := mxF_ge l (l.getD (toNat 0) default).2
             have hmn := mnF_le l (l.getD (toNat 0) default).1
             have mn1 := mnF_pos l (l.getD (toNat 0) default).1 (lv _ l0m).1 (fun s hs => (lv s hs).1)
             have mxb := mxF_vs l (l.getD (toNat 0) default).2 1099511627776 (lv _ l0m).2.2 (fun s hs => (lv s hs).2.2)
             have mx1 : 1 ≤ mxF l (l.getD (toNat 0) default).2 := by have := lv _ l0m; omega
             have mnb : mnF l (l.getD (toNat 0) default).1 ≤ 1099511627776 := by have := lv _ l0m; omega
             generalize mxF l (l.getD (toNat 0) default).2 = mx at *
             generalize mnF l (l.getD (toNat 0) default).1 = mn at *
             have hEE : (addV (((pans m).zip q).flatMap (eC m q d))).1.2 = ((((pans m).zip q).flatMap (eC m q d)).map fun c => c.1.2 * c.2).sum := by rw [ev]
             generalize hEg : (addV (((pans m).zip q).flatMap (eC m q d))).1.2 = E at *
             have hvE : E ≤ 1099511627776 := by have := epos.2; unfold vs at this; omega
             refine ⟨q.sum, mx, E, mn, ⟨hd, chg_ok hC, chg_sum hC, hC.pos, epos.1, mx1, mn1, ?_, ?_, ?_⟩, ⟨?_, ?_⟩⟩
             · intro e he
               have hx2 := hmx.2
               rw [pv] at hx2
               have hm := hx2 _ (List.mem_map.2 ⟨rowB m d e.1, List.mem_map.2 ⟨e.1, (List.of_mem_zip he).1, rfl⟩, rfl⟩)
               refine Int.le_trans (Int.le_of_eq ?_) hm
               simp only
               unfold rowB
               rw [zip_l, List.map_map]
               refine congrArg List.sum (List.map_congr_left fun e' he' => ?_)
               have := Between_f (vld_pk hC.v hd (List.of_mem_zip he').1 (List.of_mem_zip he).1)
               simp only [Function.comp]
               rw [this]; exact Int.mul_comm _ _
             · intro e he
               have hx2 := hmn.2
               rw [pv] at hx2
               have hm := hx2 _ (List.mem_map.2 ⟨rowB m d e.1, List.mem_map.2 ⟨e.1, (List.of_mem_zip he).1, rfl⟩, rfl⟩)
               refine Int.le_trans hm (Int.le_of_eq ?_)
               simp only
               unfold rowB
               rw [zip_l, List.map_map]
               refine congrArg List.sum (List.map_congr_left fun e' he' => ?_)
               have := Between_f (vld_pk hC.v hd (List.of_mem_zip he').1 (List.of_mem_zip he).1)
               simp only [Function.comp]
               rw [this]; exact Int.mul_comm _ _
             · rw [hEE]
               refine Int.le_of_eq ?_
               -- sum over e' of sum over e against sum over c of sum over e
               have fl : ∀ (A : List (PN × Int)) (g : PN × Int → List ((Int × Int) × Int)), ((A.flatMap g).map fun c => c.1.2 * c.2).sum = (A.map fun a => ((g a).map fun c => c.1.2 * c.2).sum).sum := by
                 intro A g
                 induction A with
                 | nil => rfl
                 | cons a A ih => rw [List.flatMap_cons, List.map_append, List.sum_append, ih, List.map_cons, List.sum_cons]
               have sw : ∀ (A B : List (PN × Int)) (f : PN × Int → PN × Int → Int), (A.map fun a => (B.map fun b => f a b).sum).sum = (B.map fun b => (A.map fun a => f a b).sum).sum := by
                 intro A B f
                 induction A with
                 | nil => simp only [List.map_nil, List.sum_nil]; rw [isum_const]; omega
                 | cons a A ih =>
                   simp only [List.map_cons, List.sum_cons, ih]
                   clear ih
                   induction B with
                   | nil => simp
                   | cons b B ih2 => simp only [List.map_cons, List.sum_cons]; omega
               rw [fl, sw]
               refine congrArg List.sum (List.map_congr_left fun c hc => ?_)
               unfold eC
               rw [List.map_map]
               refine congrArg List.sum (List.map_congr_left fun e he => ?_)
               simp only [Function.comp]
               rw [(hWq c hc e he).1, Mutual_f, Int.mul_comm (c.2 * e.2)]
             · have ub := up_pos (a := E) (n := q.sum) (by omega) (by omega)
               have w0 : 1 ≤ (E + q.sum - 1).tdiv q.sum := by rw [← ub.2]; exact ub.1
               have ed : (E + q.sum - 1).tdiv q.sum = (E + q.sum - 1) / q.sum := Int.tdiv_eq_ediv_of_nonneg (by omega)
               have w1 : E ≤ (E + q.sum - 1) / q.sum * q.sum := by
                 have a1 := Int.lt_mul_ediv_self_add (x := E + q.sum - 1) (k := q.sum) (by omega)
                 rw [Int.mul_comm] at a1; omega
               rw [ub.2] at ht0 ⊢
               have b1 := lim_0 hb0
               have t1 := lim_0 ht0
               rw [b1.1, t1.1]
               have bd1 : (q.sum * 1099511627776).tdiv mx = q.sum * 1099511627776 / mx := Int.tdiv_eq_ediv_of_nonneg (by omega)
               have td1 : (q.sum * 1099511627776).tdiv ((E + q.sum - 1).tdiv q.sum) = q.sum * 1099511627776 / ((E + q.sum - 1).tdiv q.sum) := Int.tdiv_eq_ediv_of_nonneg (by omega)
               have bq := Int.ediv_mul_le (q.sum * 1099511627776) (b := mx) (by omega)
               have tq2 := Int.ediv_mul_le (q.sum * 1099511627776) (b := (E + q.sum - 1).tdiv q.sum) (by omega)
               have bn : 0 ≤ q.sum * 1099511627776 / mx := Int.ediv_nonneg (by omega) (by omega)
               have tn : 0 ≤ q.sum * 1099511627776 / ((E + q.sum - 1).tdiv q.sum) := Int.ediv_nonneg (by omega) (by omega)
               have bl : q.sum * 1099511627776 / mx ≤ q.sum * 1099511627776 := Int.ediv_le_self _ (by omega)
               have tl : q.sum * 1099511627776 / ((E + q.sum - 1).tdiv q.sum) ≤ q.sum * 1099511627776 := Int.ediv_le_self _ (by omega)
               rw [bd1, td1, W_eq (by omega) (by omega), W_eq (by omega) (by omega)]
               refine ⟨_, _, rfl, bn, tn, bq, ?_⟩
               generalize q.sum * 1099511627776 / ((E + q.sum - 1).tdiv q.sum) = t at *
               rw [ed] at tq2
               have a1 := Int.mul_le_mul_of_nonneg_left w1 tn
               have a2 := Int.mul_le_mul_of_nonneg_right tq2 (show 0 ≤ q.sum by omega)
               have a3 : t * ((E + q.sum - 1) / q.sum * q.sum) = t * ((E + q.sum - 1) / q.sum) * q.sum := by grind
               have a4 : q.sum * 1099511627776 * q.sum = q.sum * q.sum * 1099511627776 := by grind
               rw [a3] at a1
               rw [a4] at a2
               exact Int.le_trans a1 a2
             · have a1 := lim_0 ha0
               rw [a1.1]
               have ua := up_pos (a := q.sum * 1099511627776) (n := mn) (by omega) (by omega)
               have ed : (q.sum * 1099511627776 + mn - 1).tdiv mn = (q.sum * 1099511627776 + mn - 1) / mn := Int.tdiv_eq_ediv_of_nonneg (by omega)
               have a2 := Int.lt_mul_ediv_self_add (x := q.sum * 1099511627776 + mn - 1) (k := mn) (by omega)
               rw [Int.mul_comm mn] at a2
               refine ⟨_, rfl, ?_, a1.2⟩
               rw [ua.2, ed]
               omega


theorem bv_le {x x' : Int × Int} {Q mx E mn B Q' mx' E' mn' B' f g : Int} (h : BV x Q mx E mn B) (h' : BV x' Q' mx' E' mn' B') (hf : 0 ≤ f) (hg : 0 ≤ g) (m1 : 1 ≤ mx) (e1 : 1 ≤ E) (n1 : 1 ≤ mn')
   (p : f * (Q * Q * mn') ≤ g * (Q' * E) ∧ f * (Q * mn') ≤ g * (Q' * mx)) (b : f * (Q * Q * 1099511627776) ≤ g * (B' * E) ∧ f * (Q * 1099511627776) ≤ g * (B' * mx)) : f * x.1 ≤ g * x'.2 := by
 obtain ⟨u, t, ex, u0, t0, hu, ht⟩ := h.lo
 obtain ⟨a, ey, ha, _⟩ := h'.hi
 have c1 : f * u ≤ g * a := by
   have s1 := Int.mul_le_mul_of_nonneg_left hu (show 0 ≤ f * mn' from Int.mul_nonneg hf (by omega))
   have s2 := Int.mul_le_mul_of_nonneg_left p.2 (show (0 : Int) ≤ 1099511627776 by omega)
   have s3 := Int.mul_le_mul_of_nonneg_left ha (show 0 ≤ g * mx from Int.mul_nonneg hg (by omega))
   have k1 : 1 ≤ mx * mn' := by have := Int.mul_le_mul (a := 1) (b := 1) (c := mx) (d := mn') m1 n1 (by omega) (by omega); omega
   refine cancel_pos k1 ?_
   grind
 have c2 : f * t ≤ g * a := by
   have s1 := Int.mul_le_mul_of_nonneg_left ht (show 0 ≤ f * mn' from Int.mul_nonneg hf (by omega))
   have s2 := Int.mul_le_mul_of_nonneg_left p.1 (show (0 : Int) ≤ 1099511627776 by omega)
   have s3 := Int.mul_le_mul_of_nonneg_left ha (show 0 ≤ g * E from Int.mul_nonneg hg (by omega))
   have k1 : 1 ≤ E * mn' := by have := Int.mul_le_mul (a := 1) (b := 1) (c := E) (d := mn') e1 n1 (by omega) (by omega); omega
   refine cancel_pos k1 ?_
   grind
 have c3 : f * u ≤ g * B' := by
   have s1 := Int.mul_le_mul_of_nonneg_left hu hf
   refine cancel_pos m1 ?_
   grind
 have c4 : f * t ≤ g * B' := by
   have s1 := Int.mul_le_mul_of_nonneg_left ht hf
   refine cancel_pos e1 ?_
   grind
 rw [ex, ey]
 have i1 := imx_bd u t
 have i2 := imn_bd a B'
 rcases i1.2.2 with k | k <;> rcases i2.2.2 with l | l <;> rw [k, l] <;> assumption
theorem bv_ball {x : Int × Int} {Q mx E mn B f B' : Int} (h : BV x Q mx E mn B) (hf : 0 ≤ f) (m1 : 1 ≤ mx) (e1 : 1 ≤ E) (b : f * (Q * Q * 1099511627776) ≤ B' * E ∧ f * (Q * 1099511627776) ≤ B' * mx) : f * x.1 ≤ B' := by
 obtain ⟨u, t, ex, u0, t0, hu, ht⟩ := h.lo
 have c3 : f * u ≤ B' := by
   have s1 := Int.mul_le_mul_of_nonneg_left hu hf
   refine cancel_pos m1 ?_
   grind
 have c4 : f * t ≤ B' := by
   have s1 := Int.mul_le_mul_of_nonneg_left ht hf
   refine cancel_pos e1 ?_
   grind
 rw [ex]
 rcases (imx_bd u t).2.2 with k | k <;> rw [k] <;> assumption
theorem bv_in {x : Int × Int} {Q mx E mn B : Int} (h : BV x Q mx E mn B) : 0 ≤ x.1 ∧ x.2 ≤ 1099511627776 := by
 obtain ⟨u, t, ex, u0, t0, _⟩ := h.lo
 obtain ⟨a, ey, _, ha⟩ := h.hi
 have := imx_bd u t; have := imn_bd a B
 omega
theorem Len_v {n : Int} (h : 0 ≤ n ∧ n ≤ 400000) : (F33 n).2 = 0 ∧ 0 ≤ (F33 n).1.2 ∧ n * 1099511627776 ≤ (F33 n).1.2 * (F33 n).1.2 := by
 obtain ⟨r, hr, e⟩ := Len_f h
 obtain ⟨h0, h1, h2⟩ := hr
 rw [e]
 unfold lenV
 have hb : r ≤ 1073741824 := by
   by_cases hc : r ≤ 1073741824
   · exact hc
   · have := Int.mul_le_mul (show (1073741824 : Int) ≤ r by omega) (show (1073741824 : Int) ≤ r by omega) (by omega) (by omega)
     omega
 have hx : ((if r * r = n * 1099511627776 then r else r + 1) = r ∧ r * r = n * 1099511627776) ∨ (if r * r = n * 1099511627776 then r else r + 1) = r + 1 := by
   split
   · rename_i c; exact .inl ⟨rfl, c⟩
   · exact .inr rfl
 generalize (if r * r = n * 1099511627776 then r else r + 1) = s at hx ⊢
 rw [res_f (by omega) (by omega) (by omega)]
 refine ⟨rfl, ?_, ?_⟩
 · show 0 ≤ s; omega
 · show n * 1099511627776 ≤ s * s
   rcases hx with ⟨e1, e2⟩ | e1 <;> rw [e1] <;> omega
theorem dsW_ds {p x : P3} (hp : bd 64 p) (hx : bd 256 x) : dsW p x = ds p x := by
 unfold bd at hp hx
 have e1 : W (p.1 - x.1) = p.1 - x.1 := W_eq (by omega) (by omega)
 have e2 : W (p.2.1 - x.2.1) = p.2.1 - x.2.1 := W_eq (by omega) (by omega)
 have e3 : W (p.2.2 - x.2.2) = p.2.2 - x.2.2 := W_eq (by omega) (by omega)
 have b1 := mul_bd (a := 320) (b := 320) (x := p.1 - x.1) (y := p.1 - x.1) (by omega) (by omega)
 have b2 := mul_bd (a := 320) (b := 320) (x := p.2.1 - x.2.1) (y := p.2.1 - x.2.1) (by omega) (by omega)
 have b3 := mul_bd (a := 320) (b := 320) (x := p.2.2 - x.2.2) (y := p.2.2 - x.2.2) (by omega) (by omega)
 unfold dsW ds dt sb
 simp only [e1, e2, e3]
 generalize (p.1 - x.1) * (p.1 - x.1) = a at *
 generalize (p.2.1 - x.2.1) * (p.2.1 - x.2.1) = b at *
 generalize (p.2.2 - x.2.2) * (p.2.2 - x.2.2) = c at *
 rw [W_eq (n := a) (by omega) (by omega), W_eq (n := b) (by omega) (by omega), W_eq (n := c) (by omega) (by omega), W_eq (n := a + b) (by omega) (by omega), W_eq (n := a + b + c) (by omega) (by omega)]
theorem ballW_ge (x : P3) : ∀ (l : List P3) (v : Int), v ≤ l.foldl (fun v p => imx v (dsW p x)) v ∧ ∀ p ∈ l, dsW p x ≤ l.foldl (fun v p => imx v (dsW p x)) v
 | [], v => ⟨Int.le_refl _, fun s hs => by cases hs⟩
 | a :: l, v => by
   rw [List.foldl_cons]
   have ih := ballW_ge x l (imx v (dsW a x))
   have hb := imx_bd v (dsW a x)
   refine ⟨Int.le_trans hb.1 ih.1, fun s hs => ?_⟩
   rcases List.mem_cons.1 hs with rfl | hs
   · exact Int.le_trans hb.2.1 ih.1
   · exact ih.2 s hs
theorem pan_pts {m : ME} (h : F31 m = 0) : ∀ p ∈ pans m, p.1 ∈ m.1 ∧ p.2.1 ∈ m.1 ∧ p.2.2 ∈ m.1 := by
 intro p hp
 obtain ⟨c, hc, rfl⟩ := List.mem_map.1 hp
 obtain ⟨i, hi⟩ := List.getElem?_of_mem hc
 obtain ⟨hlt, _⟩ := List.getElem?_eq_some_iff.1 hi
 obtain ⟨h64, _, _, _, hf⟩ := val_parts h
 have hfc := hf (i : Int) (by omega) (by omega)
 rw [getD_of hi] at hfc
 have hin : inF m.1.length c := face_in (m := m) (by rw [hfc]; rfl) h64
 have mm : ∀ j : Int, 0 ≤ j ∧ j < (m.1.length : Int) → m.1.getD (toNat j) default ∈ m.1 := fun j hj => by
   have hl : toNat j < m.1.length := by omega
   rw [gdq, List.getElem?_eq_getElem hl]
   exact List.getElem_mem hl
 exact ⟨mm _ hin.1, mm _ hin.2.1, mm _ hin.2.2⟩
theorem sq3_0 {a b c : Int} (h : a * a + b * b + c * c ≤ 0) : a = 0 ∧ b = 0 ∧ c = 0 := by
 have sq : ∀ x : Int, 0 ≤ x * x := fun x => by
   rcases Int.le_total 0 x with k | k
   · exact Int.mul_nonneg k k
   · exact Int.mul_nonneg_of_nonpos_of_nonpos k k
 have := sq a; have := sq b; have := sq c
 have z : ∀ x : Int, x * x ≤ 0 → x = 0 := fun x hx => by
   rcases Int.lt_trichotomy x 0 with k | k | k
   · have := Int.mul_le_mul (a := 1) (b := 1) (c := -x) (d := -x) (by omega) (by omega) (by omega) (by omega)
     rw [Int.neg_mul_neg] at this; omega
   · exact k
   · have := Int.mul_le_mul (a := 1) (b := 1) (c := x) (d := x) (by omega) (by omega) (by omega) (by omega)
     omega
 exact ⟨z a (by omega), z b (by omega), z c (by omega)⟩
theorem ds_0 {p c : P3} (h : ds p c ≤ 0) : p = c := by
 unfold ds dt sb at h
 obtain ⟨h1, h2, h3⟩ := sq3_0 h
 simp only at h1 h2 h3
 exact Prod.ext (by omega) (Prod.ext (by omega) (by omega))
theorem ball_sys {m : ME} {q : List Int} {c : P3} {d Q mx E mn : Int} (hC : ChOK m q) (S : Sys (chg m q) d Q mx E mn) (hc : bd 256 c) :
   (F9 m c).2 = 0 ∧ Q * Q * 1099511627776 ≤ (F9 m c).1 * E ∧ Q * 1099511627776 ≤ (F9 m c).1 * mx := by
 have hv := hC.v
 have hpt := pts_all hv
 have hW := ballW_bd hc m.1 0 hpt (by omega)
 have eB : F9 m c = ((F33 (ballW m c)).1.2, (F33 (ballW m c)).2) := by
   unfold F9
   rw [show F31 (m.1, m.2) = 0 from hv, hwith, hwith, hwith, dqt hc.1, dqt hc.2.1, dqt hc.2.2]
   show (loopF (S9_1 m c) (toNat ((m.1.length : Int) - 0) + 1) (0, 0)) = _
   rw [ball_lf]
 have L := Len_v (n := ballW m c) hW
 rw [eB]
 refine ⟨L.1, ?_⟩
 have hd := (ballW_ge c m.1 0).2
 have hm : ∀ e ∈ chg m q, ds e.1.1 c ≤ ballW m c ∧ ds e.1.2.1 c ≤ ballW m c ∧ ds e.1.2.2 c ≤ ballW m c := by
   intro e he
   have hp := pan_pts hv e.1 (List.of_mem_zip he).1
   have one : ∀ p ∈ m.1, ds p c ≤ ballW m c := fun p hp => by rw [← dsW_ds (hpt p hp) hc]; exact hd p hp
   exact ⟨one _ hp.1, one _ hp.2.1, one _ hp.2.2⟩
 have h1 : 1 ≤ ballW m c := by
   rcases Int.lt_or_le 0 (ballW m c) with k | k
   · omega
   · exfalso
     have hne : ∃ e, e ∈ chg m q := by
       cases hl : chg m q with
       | nil => have a := S.hQ; rw [hl] at a; have b := S.Q1; exact absurd (show (0 : Int) = Q from a) (by omega)
       | cons a l => exact ⟨a, List.mem_cons_self⟩
     obtain ⟨e, he⟩ := hne
     have h3 := hm e he
     have hv := (vp_ok (S.hL e he).1).2
     have e1 := ds_0 (Int.le_trans h3.1 k); have e2 := ds_0 (Int.le_trans h3.2.1 k); have e3 := ds_0 (Int.le_trans h3.2.2 k)
     have hz : nrm e.1 = (0, 0, 0) := by
       have s0 : sb c c = (0, 0, 0) := Prod.ext (Int.sub_self _) (Prod.ext (Int.sub_self _) (Int.sub_self _))
       unfold nrm; rw [e1, e2, e3, s0]; decide
     rw [hz] at hv
     exact absurd hv (by decide)
 have B1 : 1 ≤ (F33 (ballW m c)).1.2 := by
   rcases Int.lt_or_le 0 (F33 (ballW m c)).1.2 with k | k
   · omega
   · exfalso
     have e0 : (F33 (ballW m c)).1.2 = 0 := by have := L.2.1; omega
     have := L.2.2
     rw [e0] at this; omega
 exact sys_ball S hc hm h1 L.2.2 B1
theorem hV_same {m : ME} {q q' : List Int} {d' Q' mx' E' mn' : Int} (hC : ChOK m q) (hC' : ChOK m q') (S' : Sys (chg m q') d' Q' mx' E' mn') : ∀ e ∈ chg m q, mn' ≤ ((chg m q').map fun e' => e'.2 * (betS e'.1 (tmP (sc d') e.1) d').1).sum := by
 intro e he
 have hp := (List.of_mem_zip he).1
 have : ∃ e' ∈ chg m q', e'.1 = e.1 := by
   obtain ⟨i, hi⟩ := List.getElem?_of_mem hp
   obtain ⟨hlt, hge⟩ := List.getElem?_eq_some_iff.1 hi
   have hpl : (pans m).length = m.2.length := List.length_map _
   have hl : i < (chg m q').length := by
     unfold chg
     rw [List.length_zip]; have := hC'.len; omega
   refine ⟨(chg m q')[i], List.getElem_mem hl, ?_⟩
   unfold chg
   rw [List.getElem_zip]; exact hge
 obtain ⟨e', he', eq⟩ := this
 have := S'.hmn e' he'
 rw [eq] at this
 exact this
theorem bnd_meet {m : ME} {q q' : List Int} {d d' : Int} (h : (F8_L m q d).2 = 0) (h' : (F8_L m q' d').2 = 0) : (F8_L m q d).1.1 ≤ (F8_L m q' d').1.2 := by
 obtain ⟨hC, Q, mx, E, mn, S, V⟩ := bnd_facts h
 obtain ⟨hC', Q', mx', E', mn', S', V'⟩ := bnd_facts h'
 have p := sys_pair S S' (hV_same hC hC' S')
 have hb := mid_bd hC.v
 have b := (ball_sys hC S (c := midV (bxV m)) (by unfold bd at hb ⊢; omega)).2
 have := bv_le (f := 1) (g := 1) V V' (by omega) (by omega) S.mx1 S.E1 S'.mn1 (by omega) (by omega)
 omega
theorem bnd_val {m : ME} {q : List Int} {d : Int} (h : (F8_L m q d).2 = 0) : 0 ≤ (F8_L m q d).1.1 ∧ (F8_L m q d).1.1 ≤ (F8_L m q d).1.2 ∧ (F8_L m q d).1.2 ≤ 1099511627776 := by
 obtain ⟨hC, Q, mx, E, mn, S, V⟩ := bnd_facts h
 have := bv_in V
 exact ⟨this.1, bnd_meet h h, this.2⟩
theorem bnd_ball {m : ME} {q : List Int} {d : Int} {c : P3} (h : (F8_L m q d).2 = 0) (hc : bd 256 c) : (F9 m c).2 = 0 ∧ (F8_L m q d).1.1 ≤ (F9 m c).1 := by
 obtain ⟨hC, Q, mx, E, mn, S, V⟩ := bnd_facts h
 have b := ball_sys hC S hc
 refine ⟨b.1, ?_⟩
 have := bv_ball (f := 1) V (by omega) S.mx1 S.E1 (B' := (F9 m c).1) (by omega)
 omega


def F7 : Bool :=
 (bif (((F9 (F27.1, F27.2) (0, 0, 0)).2 : Int) == 0) then
  (bif (((F9 (F27.1, F27.2) (0, 0, 0)).1 : Int) == 1048576) then
   (bif (((F17 (F27.1, F27.2) 1).2 : Int) == 0) then
    (bif (((F17 (F27.1, F27.2) 1).1 : Int) == 1280) then
     (bif (((F12 (F27.1, F27.2) 0).2 : Int) == 0) then
      (bif (decide (((F12 (F27.1, F27.2) 0).1.1 : Int) > 0)) then
       (decide (((F12 (F27.1, F27.2) 0).1.2 : Int) ≤ 1048576))
      else
       false)
     else
      false)
    else
     false)
   else
    false)
  else
   false)
 else
  false)

theorem C7 : Con Try.prog 7 [] [] (.v (.bool F7)) [] := by
 refine con_s Try.func7 (by kernel_rfl) fun cx hcx => ?_
 have ho1 : F27.1.length = 6 := by kernel_rfl
 have ho2 : F27.2.length = 8 := by kernel_rfl
 let t0 : List (St Try.prog) := [.c [] (C27), .c [0, 1] (C9 (F27.1, F27.2) (0, 0, 0) (by (try simp only [Lt]); omega) (by (try simp only [Lt]); omega)), .c [] (C27), .c [2, 3] (C17 (F27.1, F27.2) 1 (by (try simp only [Lt]); omega) (by (try simp only [Lt]); omega)), .c [] (C27), .c [4, 5] (C12 (F27.1, F27.2) 0 (by (try simp only [Lt]); omega) (by (try simp only [Lt]); omega))]
 cases h0 : (((F9 (F27.1, F27.2) (0, 0, 0)).2 : Int) == 0) with
 | true =>
  have q0 := eq_of_beq h0
  let t1 : List (St Try.prog) := (t0 ++ [.d h0])
  cases h1 : (((F9 (F27.1, F27.2) (0, 0, 0)).1 : Int) == 1048576) with
  | true =>
   have q1 := eq_of_beq h1
   let t2 : List (St Try.prog) := (t1 ++ [.d h1])
   cases h2 : (((F17 (F27.1, F27.2) 1).2 : Int) == 0) with
   | true =>
    have q2 := eq_of_beq h2
    let t3 : List (St Try.prog) := (t2 ++ [.d h2])
    cases h3 : (((F17 (F27.1, F27.2) 1).1 : Int) == 1280) with
    | true =>
     have q3 := eq_of_beq h3
     let t4 : List (St Try.prog) := (t3 ++ [.d h3])
     cases h4 : (((F12 (F27.1, F27.2) 0).2 : Int) == 0) with
     | true =>
      have q4 := eq_of_beq h4
      let t5 : List (St Try.prog) := (t4 ++ [.d h4])
      cases h5 : (decide (((F12 (F27.1, F27.2) 0).1.1 : Int) > 0)) with
      | true =>
       have q5 := odt h5
       have e := Eq.refl F7; conv at e => rhs; simp only [F7, h0, h1, h2, h3, h4, h5, cdb]
       rw [e]
       exact rt (t5 ++ [.d h5]) [] [] hcx (by kernel_rfl)
      | false =>
       have q5 := odf h5
       have e := Eq.refl F7; conv at e => rhs; simp only [F7, h0, h1, h2, h3, h4, h5, cdb]
       rw [e]
       exact rt (t5 ++ [.d h5]) [] [] hcx (by kernel_rfl)
     | false =>
      have q4 := ne_of_beq_false h4
      have e := Eq.refl F7; conv at e => rhs; simp only [F7, h0, h1, h2, h3, h4, cdb]
      rw [e]
      exact rt (t4 ++ [.d h4]) [] [] hcx (by kernel_rfl)
    | false =>
     have q3 := ne_of_beq_false h3
     have e := Eq.refl F7; conv at e => rhs; simp only [F7, h0, h1, h2, h3, cdb]
     rw [e]
     exact rt (t3 ++ [.d h3]) [] [] hcx (by kernel_rfl)
   | false =>
    have q2 := ne_of_beq_false h2
    have e := Eq.refl F7; conv at e => rhs; simp only [F7, h0, h1, h2, cdb]
    rw [e]
    exact rt (t2 ++ [.d h2]) [] [] hcx (by kernel_rfl)
  | false =>
   have q1 := ne_of_beq_false h1
   have e := Eq.refl F7; conv at e => rhs; simp only [F7, h0, h1, cdb]
   rw [e]
   exact rt (t1 ++ [.d h1]) [] [] hcx (by kernel_rfl)
 | false =>
  have q0 := ne_of_beq_false h0
  have e := Eq.refl F7; conv at e => rhs; simp only [F7, h0, cdb]
  rw [e]
  exact rt (t0 ++ [.d h0]) [] [] hcx (by kernel_rfl)

def F10 (a0 : Int × Int) (a1 : Int × Int) : Bool :=
 (bif (((F21 a0 a1).2.2 : Int) == 0) then
  (F21 a0 a1).2.1
 else
  false)

theorem C10 (a0 : Int × Int) (a1 : Int × Int) : Con Try.prog 10 [(.a [(iv a0.1), (iv a0.2)]), (.a [(iv a1.1), (iv a1.2)])] [] (.v (.bool (F10 a0 a1))) [] := by
 refine con_s Try.func10 (by kernel_rfl) fun cx hcx => ?_
 let t0 : List (St Try.prog) := [.c [] (C21 a0 a1)]
 cases h0 : (((F21 a0 a1).2.2 : Int) == 0) with
 | true =>
  have q0 := eq_of_beq h0
  have e := Eq.refl (F10 a0 a1); conv at e => rhs; simp only [F10, h0, cdb]
  rw [e]
  exact rt (t0 ++ [.d h0]) [] [] hcx (by kernel_rfl)
 | false =>
  have q0 := ne_of_beq_false h0
  have e := Eq.refl (F10 a0 a1); conv at e => rhs; simp only [F10, h0, cdb]
  rw [e]
  exact rt (t0 ++ [.d h0]) [] [] hcx (by kernel_rfl)

theorem sane_h : F7 = true := by kernel_rfl

theorem meet_m {a c : Int × Int} (ha : vs a) (hc : vs c) (h1 : a.1 ≤ c.2) (h2 : c.1 ≤ a.2) : F10 a c = true := by
 have hm : (F21 a c).2.1 = true ∧ (F21 a c).2.2 = 0 := by
   unfold F21 F40_2
   have e1 : F70 (a, c).1 = true := val_f (a := a.1) (b := a.2) ha.1 ha.2.1 ha.2.2
   have e2 : F70 (a, c).2 = true := val_f (a := c.1) (b := c.2) hc.1 hc.2.1 hc.2.2
   have h3 := ha.2.1; have h4 := hc.2.1
   rw [e1, e2, dqf (by (repeat' split) <;> omega)]
   exact ⟨rfl, rfl⟩
 unfold F10
 rw [hm.1, hm.2]; rfl
theorem bnd_vs {m : ME} {q : List Int} {d : Int} (h : (F8_L m q d).2 = 0) : vs (F8_L m q d).1 := by
 have := bnd_val h
 unfold vs; omega


noncomputable def B3_j2 : Code := (codeAtD [1, 0, 1, 0, 0] [] (bodyOf Try.f3)).1
noncomputable def K3_j2 : List K := (codeAtD [1, 0, 1, 0, 0] [] (bodyOf Try.f3)).2

def st3_j2 (a0 : (List (Int × Int × Int)) × List (Int × Int × Int)) (a1 : List (Int) × Int) (a2 : List (Int) × Int) : LS := ⟨slN 89 [], [(.live false true (flat c39 a0.1)), (.live false true (flat c84 a0.2)), (.live false true (flat c3 a1.1)), (.live false true (flat c3 a2.1))]⟩

def S3_j2 (a0 : (List (Int × Int × Int)) × List (Int × Int × Int)) (a1 : List (Int) × Int) (a2 : List (Int) × Int) : Unit → Bool
 | () =>
  F7

noncomputable def B3_j6 : Code := (codeAtD [1, 1, 1, 1, 0, 1, 0, 0] [] (bodyOf Try.f3)).1
noncomputable def K3_j6 : List K := (codeAtD [1, 1, 1, 1, 0, 1, 0, 0] [] (bodyOf Try.f3)).2

def st3_j6 (a0 : (List (Int × Int × Int)) × List (Int × Int × Int)) (a1 : List (Int) × Int) (a2 : List (Int) × Int) : LS := ⟨slN 89 [], [(.live false true (flat c39 a0.1)), (.live false true (flat c84 a0.2)), (.live false true (flat c3 a1.1)), (.live false true (flat c3 a2.1))]⟩

def S3_j6 (a0 : (List (Int × Int × Int)) × List (Int × Int × Int)) (a1 : List (Int) × Int) (a2 : List (Int) × Int) : Unit → Bool
 | () =>
  F7

theorem L3_j2 (a0 : (List (Int × Int × Int)) × List (Int × Int × Int)) (a1 : List (Int) × Int) (a2 : List (Int) × Int) (l0_1 : a0.1.length ≤ 9223372036854775807) (l0_2 : a0.2.length ≤ 9223372036854775807) (l1_1 : a1.1.length ≤ 9223372036854775807) (l2_1 : a2.1.length ≤ 9223372036854775807) {cx : Cx} (hcx : cx.base = 4) : True → Aw.Good Try.prog none 9 (bodyPost Try.prog Try.f3 (RR cx (.v (.bool (S3_j2 a0 a1 a2 ()))) [] [])) cx [] (.c B3_j2 :: K3_j2) (st3_j2 a0 a1 a2) := by
 intro hi
 have e := Eq.refl (S3_j2 a0 a1 a2 ()); conv at e => rhs; simp only [S3_j2]
 rw [e]
 exact rt [.c [] (C7)] [] [] hcx (by kernel_rfl)

theorem L3_j6 (a0 : (List (Int × Int × Int)) × List (Int × Int × Int)) (a1 : List (Int) × Int) (a2 : List (Int) × Int) (l0_1 : a0.1.length ≤ 9223372036854775807) (l0_2 : a0.2.length ≤ 9223372036854775807) (l1_1 : a1.1.length ≤ 9223372036854775807) (l2_1 : a2.1.length ≤ 9223372036854775807) {cx : Cx} (hcx : cx.base = 4) : True → Aw.Good Try.prog none 9 (bodyPost Try.prog Try.f3 (RR cx (.v (.bool (S3_j6 a0 a1 a2 ()))) [] [])) cx [] (.c B3_j6 :: K3_j6) (st3_j6 a0 a1 a2) := by
 intro hi
 have e := Eq.refl (S3_j6 a0 a1 a2 ()); conv at e => rhs; simp only [S3_j6]
 rw [e]
 exact rt [.c [] (C7)] [] [] hcx (by kernel_rfl)

def F3 (a0 : (List (Int × Int × Int)) × List (Int × Int × Int)) (a1 : List (Int) × Int) (a2 : List (Int) × Int) : Bool :=
 (bif (F6 (a0.1, a0.2) a1.2) then
  (S3_j2 a0 a1 a2 ())
 else
  (bif (F6 (a0.1, a0.2) a2.2) then
   (S3_j2 a0 a1 a2 ())
  else
   (bif (decide (((a1.1.length : Int) : Int) > 300)) then
    (S3_j2 a0 a1 a2 ())
   else
    (bif (decide (((a2.1.length : Int) : Int) > 300)) then
     (S3_j2 a0 a1 a2 ())
    else
     (bif (((F8_L (a0.1, a0.2) a1.1 a1.2).2 : Int) != 0) then
      (S3_j6 a0 a1 a2 ())
     else
      (bif (((F8_L (a0.1, a0.2) a2.1 a2.2).2 : Int) != 0) then
       (S3_j6 a0 a1 a2 ())
      else
       (bif (F10 (F8_L (a0.1, a0.2) a1.1 a1.2).1 (F8_L (a0.1, a0.2) a2.1 a2.2).1) then
        (bif (((F9 (a0.1, a0.2) (3, (-2), 0)).2 : Int) == 0) then
         (bif (decide (((F8_L (a0.1, a0.2) a1.1 a1.2).1.1 : Int) ≤ (F9 (a0.1, a0.2) (3, (-2), 0)).1)) then
          (bif (decide (((F8_L (a0.1, a0.2) a2.1 a2.2).1.1 : Int) ≤ (F9 (a0.1, a0.2) (3, (-2), 0)).1)) then
           F7
          else
           false)
         else
          false)
        else
         false)
       else
        false)))))))

theorem C3 (a0 : (List (Int × Int × Int)) × List (Int × Int × Int)) (a1 : List (Int) × Int) (a2 : List (Int) × Int) (l0_1 : a0.1.length ≤ 9223372036854775807) (l0_2 : a0.2.length ≤ 9223372036854775807) (l1_1 : a1.1.length ≤ 9223372036854775807) (l2_1 : a2.1.length ≤ 9223372036854775807) : Con Try.prog 3 [(.a [(.s 0 0 a0.1.length 3), (.s 1 0 a0.2.length 3)]), (.a [(.s 2 0 a1.1.length 1), (iv a1.2)]), (.a [(.s 3 0 a2.1.length 1), (iv a2.2)])] [(.live false true (flat c39 a0.1)), (.live false true (flat c84 a0.2)), (.live false true (flat c3 a1.1)), (.live false true (flat c3 a2.1))] (.v (.bool (F3 a0 a1 a2))) [] := by
 refine con_s Try.func3 (by kernel_rfl) fun cx hcx => ?_
 let t0 : List (St Try.prog) := [.c [0, 1] (C6 (a0.1, a0.2) a1.2 (by (try simp only [Lt]); omega) (by (try simp only [Lt]); omega))]
 cases h0 : (F6 (a0.1, a0.2) a1.2) with
 | true =>
  have e := Eq.refl (F3 a0 a1 a2); conv at e => rhs; simp only [F3, h0, cdb]
  rw [e]
  refine ga (t0 ++ [.d h0, .z 2]) [] [] [] hcx B3_j2 (K3_j2) (st3_j2 a0 a1 a2) (by kernel_rfl) ?_
  exact L3_j2 a0 a1 a2 l0_1 l0_2 l1_1 l2_1 hcx trivial
 | false =>
  let t1 : List (St Try.prog) := (t0 ++ [.d h0, .c [0, 1] (C6 (a0.1, a0.2) a2.2 (by (try simp only [Lt]); omega) (by (try simp only [Lt]); omega))])
  cases h1 : (F6 (a0.1, a0.2) a2.2) with
  | true =>
   have e := Eq.refl (F3 a0 a1 a2); conv at e => rhs; simp only [F3, h0, h1, cdb]
   rw [e]
   refine ga (t1 ++ [.d h1, .z 2]) [] [] [] hcx B3_j2 (K3_j2) (st3_j2 a0 a1 a2) (by kernel_rfl) ?_
   exact L3_j2 a0 a1 a2 l0_1 l0_2 l1_1 l2_1 hcx trivial
  | false =>
   let t2 : List (St Try.prog) := (t1 ++ [.d h1])
   cases h2 : (decide (((a1.1.length : Int) : Int) > 300)) with
   | true =>
    have q2 := odt h2
    have e := Eq.refl (F3 a0 a1 a2); conv at e => rhs; simp only [F3, h0, h1, h2, cdb]
    rw [e]
    refine ga (t2 ++ [.d h2, .z 2]) [] [] [] hcx B3_j2 (K3_j2) (st3_j2 a0 a1 a2) (by kernel_rfl) ?_
    exact L3_j2 a0 a1 a2 l0_1 l0_2 l1_1 l2_1 hcx trivial
   | false =>
    have q2 := odf h2
    let t3 : List (St Try.prog) := (t2 ++ [.d h2])
    cases h3 : (decide (((a2.1.length : Int) : Int) > 300)) with
    | true =>
     have q3 := odt h3
     have e := Eq.refl (F3 a0 a1 a2); conv at e => rhs; simp only [F3, h0, h1, h2, h3, cdb]
     rw [e]
     refine ga (t3 ++ [.d h3, .z 2]) [] [] [] hcx B3_j2 (K3_j2) (st3_j2 a0 a1 a2) (by kernel_rfl) ?_
     exact L3_j2 a0 a1 a2 l0_1 l0_2 l1_1 l2_1 hcx trivial
    | false =>
     have q3 := odf h3
     let t4 : List (St Try.prog) := (t3 ++ [.d h3, .c [0, 1, 2] (C8_L (a0.1, a0.2) a1.1 a1.2 (by (try simp only [Lt]); omega) (by (try simp only [Lt]); omega) (by omega)), .c [0, 1, 3] (C8_L (a0.1, a0.2) a2.1 a2.2 (by (try simp only [Lt]); omega) (by (try simp only [Lt]); omega) (by omega))])
     cases h4 : (((F8_L (a0.1, a0.2) a1.1 a1.2).2 : Int) != 0) with
     | true =>
      have q4 := bne_iff_ne.1 h4
      have e := Eq.refl (F3 a0 a1 a2); conv at e => rhs; simp only [F3, h0, h1, h2, h3, h4, cdb]
      rw [e]
      refine ga (t4 ++ [.d h4, .z 6]) [] [] [] hcx B3_j6 (K3_j6) (st3_j6 a0 a1 a2) (by kernel_rfl) ?_
      exact L3_j6 a0 a1 a2 l0_1 l0_2 l1_1 l2_1 hcx trivial
     | false =>
      have q4 := bne_eq_false_iff_eq.1 h4
      let t5 : List (St Try.prog) := (t4 ++ [.d h4])
      cases h5 : (((F8_L (a0.1, a0.2) a2.1 a2.2).2 : Int) != 0) with
      | true =>
       have q5 := bne_iff_ne.1 h5
       have e := Eq.refl (F3 a0 a1 a2); conv at e => rhs; simp only [F3, h0, h1, h2, h3, h4, h5, cdb]
       rw [e]
       refine ga (t5 ++ [.d h5, .z 6]) [] [] [] hcx B3_j6 (K3_j6) (st3_j6 a0 a1 a2) (by kernel_rfl) ?_
       exact L3_j6 a0 a1 a2 l0_1 l0_2 l1_1 l2_1 hcx trivial
      | false =>
       have q5 := bne_eq_false_iff_eq.1 h5
       let t6 : List (St Try.prog) := (t5 ++ [.d h5, .c [0, 1] (C9 (a0.1, a0.2) (3, (-2), 0) (by (try simp only [Lt]); omega) (by (try simp only [Lt]); omega)), .c [] (C10 (F8_L (a0.1, a0.2) a1.1 a1.2).1 (F8_L (a0.1, a0.2) a2.1 a2.2).1)])
       cases h6 : (F10 (F8_L (a0.1, a0.2) a1.1 a1.2).1 (F8_L (a0.1, a0.2) a2.1 a2.2).1) with
       | true =>
        let t7 : List (St Try.prog) := (t6 ++ [.d h6])
        cases h7 : (((F9 (a0.1, a0.2) (3, (-2), 0)).2 : Int) == 0) with
        | true =>
         have q7 := eq_of_beq h7
         let t8 : List (St Try.prog) := (t7 ++ [.d h7])
         cases h8 : (decide (((F8_L (a0.1, a0.2) a1.1 a1.2).1.1 : Int) ≤ (F9 (a0.1, a0.2) (3, (-2), 0)).1)) with
         | true =>
          have q8 := odt h8
          let t9 : List (St Try.prog) := (t8 ++ [.d h8])
          cases h9 : (decide (((F8_L (a0.1, a0.2) a2.1 a2.2).1.1 : Int) ≤ (F9 (a0.1, a0.2) (3, (-2), 0)).1)) with
          | true =>
           have q9 := odt h9
           have e := Eq.refl (F3 a0 a1 a2); conv at e => rhs; simp only [F3, h0, h1, h2, h3, h4, h5, h6, h7, h8, h9, cdb]
           rw [e]
           exact rt (t9 ++ [.d h9, .c [] (C7)]) [] [] hcx (by kernel_rfl)
          | false =>
           have q9 := odf h9
           have e := Eq.refl (F3 a0 a1 a2); conv at e => rhs; simp only [F3, h0, h1, h2, h3, h4, h5, h6, h7, h8, h9, cdb]
           rw [e]
           exact rt (t9 ++ [.d h9]) [] [] hcx (by kernel_rfl)
         | false =>
          have q8 := odf h8
          have e := Eq.refl (F3 a0 a1 a2); conv at e => rhs; simp only [F3, h0, h1, h2, h3, h4, h5, h6, h7, h8, cdb]
          rw [e]
          exact rt (t8 ++ [.d h8]) [] [] hcx (by kernel_rfl)
        | false =>
         have q7 := ne_of_beq_false h7
         have e := Eq.refl (F3 a0 a1 a2); conv at e => rhs; simp only [F3, h0, h1, h2, h3, h4, h5, h6, h7, cdb]
         rw [e]
         exact rt (t7 ++ [.d h7]) [] [] hcx (by kernel_rfl)
       | false =>
        have e := Eq.refl (F3 a0 a1 a2); conv at e => rhs; simp only [F3, h0, h1, h2, h3, h4, h5, h6, cdb]
        rw [e]
        exact rt (t6 ++ [.d h6]) [] [] hcx (by kernel_rfl)

end Go.Proofs.Ytaeagjnpobdglaa
