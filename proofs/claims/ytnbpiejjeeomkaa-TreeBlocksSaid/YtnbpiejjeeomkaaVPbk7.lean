/-
  Parts of the proofs of the laws: the executor, what functions of the program compute, and that it is what the statements ask. No premise.
-/
import Derived.Test.YtnbpiejjeeomkaaVPbk6
set_option linter.unusedVariables false
set_option linter.unusedSimpArgs false
set_option maxHeartbeats 4000000
open Int (toNat)
namespace Go.Proofs.Ytnbpiejjeeomkaa
open Go.Proofs Go.Aw Go.RowKit
set_option maxRecDepth 100000

abbrev LBK := List BLK
def rg (f u : Int) : List Int := (List.range (toNat (u - f))).map (fun j : Nat => f + (j : Int))
theorem rg_nil {f u : Int} (h : u ≤ f) : rg f u = [] := by unfold rg; rw [show toNat (u - f) = 0 by omega]; rfl
theorem rg_cons {f u : Int} (h : f < u) : rg f u = f :: rg (f + 1) u := by
 unfold rg
 rw [show toNat (u - f) = toNat (u - (f + 1)) + 1 by omega, List.range_succ_eq_map, List.map_cons, List.map_map]
 refine List.cons_eq_cons.2 ⟨by omega, List.map_congr_left fun j _ => ?_⟩
 show f + ((j + 1 : Nat) : Int) = f + 1 + (j : Int)
 omega
theorem rg_mem {f u x : Int} (h : x ∈ rg f u) : f ≤ x ∧ x < u := by
 unfold rg at h
 obtain ⟨j, hj, rfl⟩ := List.mem_map.1 h
 have := List.mem_range.1 hj
 omega
def row (n i f u : Int) : List Int := (rg f u).map (fun k => i * n + k)
def blkc (n : Int) (N : List NDE) (x : BLK) : List Int := (rg (N.getD (toNat x.1) default).1 (N.getD (toNat x.1) default).2.1).flatMap fun i => row n i (N.getD (toNat x.2.1) default).1 (N.getD (toNat x.2.1) default).2.1
def runP : List Int → List Int → Option (List Int)
 | [], D => some D
 | c :: cs, D => if (inc D c).getD (toNat c) default > 1 then none else runP cs (inc D c)
theorem runP_app : ∀ (a b D : List Int), runP (a ++ b) D = (runP a D).bind (runP b)
 | [], _, _ => rfl
 | c :: a, b, D => by
   rw [List.cons_append, runP, runP]
   split
   · rfl
   · exact runP_app a b _
def pgo (l : LCH) (t : TR) : LBK → List Int → Bool × Int
 | [], D => (!(F48_L D 0), 0)
 | x :: bs, D => bif (!(F33 x.1 0 (W ((t.2.length : Int) - 1)))) then (false, 0) else bif (!(F33 x.2.1 0 (W ((t.2.length : Int) - 1)))) then (false, 0) else match runP (blkc l.length t.2 x) D with | none => (false, 0) | some D' => pgo l t bs D'
theorem cov_p2 {l : LCH} {t : TR} {b : LBK} (hl : l.length ≤ 96) : ∀ (d n : Nat) (D : List Int) (i k w0 w1 u w3 w4 w5 w6 w7 w8 w9 e w11 w12 w13 w14 w15 w16 : Int), toNat (e - k) = d → d < n → 0 ≤ i → i < l.length → 0 ≤ k → e ≤ l.length →
   loopF (S23_L_L_2 l t b) n (D, i, k, w0, w1, u, w3, w4, w5, w6, w7, w8, w9, e, w11, w12, w13, w14, w15, w16) = match runP (row l.length i k e) D with | none => .inr (.inr (false, 0)) | some D' => .inl (D', i + 1, w0, w1, u, w3, w4, w5, w6, w7, w8, w9, e, w11, w12, w13, w14, w15, w16)
 | 0, n, D, i, k, w0, w1, u, w3, w4, w5, w6, w7, w8, w9, e, w11, w12, w13, w14, w15, w16, hd, hn, h0, h1, h2, h3 => by
   obtain ⟨n, rfl⟩ : ∃ q, n = q + 1 := ⟨n - 1, by omega⟩
   rw [row, rg_nil (by omega)]
   refine loopF_inr ?_
   simp only [S23_L_L_2]
   rw [dqf (show ¬ k < e by omega)]
   rfl
 | d + 1, n, D, i, k, w0, w1, u, w3, w4, w5, w6, w7, w8, w9, e, w11, w12, w13, w14, w15, w16, hd, hn, h0, h1, h2, h3 => by
   obtain ⟨n, rfl⟩ : ∃ q, n = q + 1 := ⟨n - 1, by omega⟩
   have hx := cov_ix (n := l.length) (i := i) (k := k) hl ⟨h0, h1⟩ ⟨h2, by omega⟩
   rw [row, rg_cons (by omega), List.map_cons, runP]
   have ih := cov_p2 (t := t) (b := b) hl d n (inc D (i * (l.length : Int) + k)) i (k + 1) w0 w1 u w3 w4 w5 w6 w7 w8 w9 e w11 w12 w13 w14 w15 w16 (by omega) (by omega) h0 h1 (by omega) h3
   rw [row] at ih
   by_cases c : (inc D (i * (l.length : Int) + k)).getD (toNat (i * (l.length : Int) + k)) default > 1
   · rw [if_pos c]
     refine loopF_inr ?_
     simp only [S23_L_L_2]
     rw [dqt (show k < e by omega), cond_true, hx.2.1]
     have c2 : (D.set (toNat (i * (l.length : Int) + k)) (W (D.getD (toNat (i * (l.length : Int) + k)) default + 1))).getD (toNat (i * (l.length : Int) + k)) default > 1 := c
     rw [dqt c2]
     rfl
   · rw [if_neg c, ← ih]
     refine loopF_inl ?_
     simp only [S23_L_L_2]
     rw [dqt (show k < e by omega), cond_true, hx.2.1]
     have c2 : ¬ (D.set (toNat (i * (l.length : Int) + k)) (W (D.getD (toNat (i * (l.length : Int) + k)) default + 1))).getD (toNat (i * (l.length : Int) + k)) default > 1 := c
     rw [dqf c2]
     rfl
theorem cov_p1 {l : LCH} {t : TR} {b : LBK} (hl : l.length ≤ 96) : ∀ (d n : Nat) (D : List Int) (i w0 w1 u w3 w4 w5 w6 w7 w8 f e w11 w12 w13 w14 w15 w16 : Int), toNat (u - i) = d → d < n → 0 ≤ i → u ≤ l.length → 0 ≤ f → e ≤ l.length →
   loopF (S23_L_L_1 l t b) n (D, i, w0, w1, u, w3, w4, w5, w6, w7, w8, f, e, w11, w12, w13, w14, w15, w16) = match runP ((rg i u).flatMap fun i => row l.length i f e) D with | none => .inr (false, 0) | some D' => .inl (D', w0 + 1)
 | 0, n, D, i, w0, w1, u, w3, w4, w5, w6, w7, w8, f, e, w11, w12, w13, w14, w15, w16, hd, hn, h0, h1, h2, h3 => by
   obtain ⟨n, rfl⟩ : ∃ q, n = q + 1 := ⟨n - 1, by omega⟩
   rw [rg_nil (by omega)]
   refine loopF_inr ?_
   simp only [S23_L_L_1]
   rw [dqf (show ¬ i < u by omega)]
   rfl
 | d + 1, n, D, i, w0, w1, u, w3, w4, w5, w6, w7, w8, f, e, w11, w12, w13, w14, w15, w16, hd, hn, h0, h1, h2, h3 => by
   obtain ⟨n, rfl⟩ : ∃ q, n = q + 1 := ⟨n - 1, by omega⟩
   rw [rg_cons (by omega), List.flatMap_cons, runP_app]
   have hs := cov_p2 (t := t) (b := b) hl _ _ D i f w0 w1 u w3 w4 w5 w6 w7 w8 f e w11 w12 w13 w14 w15 w16 rfl (lss _) h0 (by omega) h2 h3
   have he : S23_L_L_1 l t b (D, i, w0, w1, u, w3, w4, w5, w6, w7, w8, f, e, w11, w12, w13, w14, w15, w16) = loopF (S23_L_L_2 l t b) (toNat (e - f) + 1) (D, i, f, w0, w1, u, w3, w4, w5, w6, w7, w8, f, e, w11, w12, w13, w14, w15, w16) := by
     simp only [S23_L_L_1]
     rw [dqt (show i < u by omega), cond_true]
   rw [hs] at he
   cases c : runP (row l.length i f e) D with
   | none =>
     rw [c] at he
     exact loopF_inr he
   | some D' =>
     rw [c] at he
     rw [Option.bind_some, ← cov_p1 (t := t) (b := b) hl d n D' (i + 1) w0 w1 u w3 w4 w5 w6 w7 w8 f e w11 w12 w13 w14 w15 w16 (by omega) (by omega) (by omega) h1 h2 h3]
     exact loopF_inl he
theorem cov_p0 {l : LCH} {t : TR} {b : LBK} (hl : l.length ≤ 96) (ht : t.1.length = l.length) (hk : NODS t) : ∀ (d n : Nat) (D : List Int) (j : Nat), b.length - j = d → j ≤ b.length → d < n →
   loopF (S23_L_L_0 l t b) n (D, (j : Int)) = pgo l t (b.drop j) D
 | 0, n, D, j, hd, hj, hn => by
   obtain ⟨n, rfl⟩ : ∃ q, n = q + 1 := ⟨n - 1, by omega⟩
   rw [List.drop_eq_nil_of_le (by omega)]
   refine loopF_inr ?_
   simp only [S23_L_L_0]
   rw [dqf (show ¬ (j : Int) < (b.length : Int) by omega)]
   rfl
 | d + 1, n, D, j, hd, hj, hn => by
   obtain ⟨n, rfl⟩ : ∃ q, n = q + 1 := ⟨n - 1, by omega⟩
   have h1 : j < b.length := by omega
   have hg : b.getD j default = b[j] := by rw [gdq, List.getElem?_eq_getElem h1]; rfl
   rw [List.drop_eq_getElem_cons h1, ← hg, pgo]
   generalize hx : b.getD j default = x
   cases c1 : (!(F33 x.1 0 (W ((t.2.length : Int) - 1)))) with
   | true =>
     refine loopF_inr ?_
     simp only [S23_L_L_0, itn, hx]
     rw [dqt (show (j : Int) < (b.length : Int) by omega), cond_true, c1]
     rfl
   | false =>
     cases c2 : (!(F33 x.2.1 0 (W ((t.2.length : Int) - 1)))) with
     | true =>
       refine loopF_inr ?_
       simp only [S23_L_L_0, itn, hx]
       rw [dqt (show (j : Int) < (b.length : Int) by omega), cond_true, c1, c2]
       rfl
     | false =>
       have n1 := cov_nd hk c1
       have n2 := cov_nd hk c2
       simp only [cond_false]
       have he : S23_L_L_0 l t b (D, (j : Int)) = match runP (blkc l.length t.2 x) D with | none => .inr (false, 0) | some D' => .inl (D', (j : Int) + 1) := by
         simp only [S23_L_L_0, itn, hx]
         rw [dqt (show (j : Int) < (b.length : Int) by omega), cond_true, c1, c2, cond_false, cond_false, cov_p1 (t := t) (b := b) hl _ _ _ _ _ _ _ _ _ _ _ _ _ _ _ _ _ _ _ _ _ rfl (lss _) n1.2.2.1 (by omega) n2.2.2.1 (by omega)]
         rfl
       cases c : runP (blkc l.length t.2 x) D with
       | none =>
         rw [c] at he
         exact loopF_inr he
       | some D' =>
         rw [c] at he
         show _ = pgo l t (b.drop (j + 1)) D'
         rw [← cov_p0 (b := b) hl ht hk d n D' (j + 1) (by omega) (by omega) (by omega)]
         exact loopF_inl he


def drow (t : TR) (n i f u : Int) : List Int := (rg f u).map (fun k => t.1.getD (toNat i) default * n + t.1.getD (toNat k) default)
def dblk (n : Int) (t : TR) (x : BLK) : List Int := (rg (t.2.getD (toNat x.1) default).1 (t.2.getD (toNat x.1) default).2.1).flatMap fun i => drow t n i (t.2.getD (toNat x.2.1) default).1 (t.2.getD (toNat x.2.1) default).2.1
theorem idx_run {D : List Int} {a : Int} : ∀ (d n i : Nat), D.length - i = d → i ≤ D.length → d < n → (loopF (S66_L_0 D a) n (i : Int) ≥ 0 ↔ ∃ j, i ≤ j ∧ j < D.length ∧ D.getD j default = a)
 | 0, n, i, hd, hi, hn => by
   obtain ⟨n, rfl⟩ : ∃ q, n = q + 1 := ⟨n - 1, by omega⟩
   have e : loopF (S66_L_0 D a) (n + 1) (i : Int) = -1 := by
     refine loopF_inr ?_
     simp only [S66_L_0]
     rw [dqf (show ¬ (i : Int) < (D.length : Int) by omega)]
     rfl
   rw [e]
   exact ⟨fun h => absurd h (by decide), fun ⟨j, h1, h2, _⟩ => by omega⟩
 | d + 1, n, i, hd, hi, hn => by
   obtain ⟨n, rfl⟩ : ∃ q, n = q + 1 := ⟨n - 1, by omega⟩
   by_cases c : a = D.getD i default
   · have e : loopF (S66_L_0 D a) (n + 1) (i : Int) = (i : Int) := by
       refine loopF_inr ?_
       simp only [S66_L_0, itn]
       rw [dqt (show (i : Int) < (D.length : Int) by omega), cond_true, show ((a : Int) == D.getD i default) = true from beq_iff_eq.2 c]
       rfl
     rw [e]
     exact ⟨fun _ => ⟨i, Nat.le_refl _, by omega, c.symm⟩, fun _ => by omega⟩
   · have e : loopF (S66_L_0 D a) (n + 1) (i : Int) = loopF (S66_L_0 D a) n ((i + 1 : Nat) : Int) := by
       refine loopF_inl ?_
       simp only [S66_L_0, itn]
       rw [dqt (show (i : Int) < (D.length : Int) by omega), cond_true, show ((a : Int) == D.getD i default) = false from beq_eq_false_iff_ne.2 c]
       rfl
     rw [e]
     refine (idx_run (D := D) (a := a) d n (i + 1) (by omega) (by omega) (by omega)).trans ⟨fun ⟨j, h1, h2, h3⟩ => ⟨j, by omega, h2, h3⟩, fun ⟨j, h1, h2, h3⟩ => ⟨j, ?_, h2, h3⟩⟩
     by_cases ej : j = i
     · subst ej; exact absurd h3.symm c
     · omega
theorem has_iff {D : List Int} {a : Int} : F48_L D a = true ↔ ∃ j, j < D.length ∧ D.getD j default = a := by
 unfold F48_L F66_L
 rw [decide_eq_true_iff]
 refine (idx_run (D := D) (a := a) D.length _ 0 (by omega) (by omega) (by omega)).trans ⟨fun ⟨j, _, h⟩ => ⟨j, h⟩, fun ⟨j, h⟩ => ⟨j, Nat.zero_le _, h⟩⟩


theorem cnt_cons (c : Int) (L : List Int) (i : Nat) : ((List.count (i : Int) (c :: L) : Nat) : Int) = ((List.count (i : Int) L : Nat) : Int) + (if c = (i : Int) then 1 else 0) := by
 rw [List.count_cons]
 by_cases e : c = (i : Int)
 · rw [if_pos e, if_pos (by rw [e]; exact beq_self_eq_true _)]; rfl
 · rw [if_neg e, if_neg (by rw [beq_iff_eq]; exact e)]; rfl
theorem flatMap_cg {α β : Type} {f g : α → List β} : ∀ (l : List α), (∀ x ∈ l, f x = g x) → l.flatMap f = l.flatMap g
 | [], _ => rfl
 | x :: l, h => by rw [List.flatMap_cons, List.flatMap_cons, h x List.mem_cons_self, flatMap_cg l (fun y hy => h y (List.mem_cons_of_mem _ hy))]
theorem inc_at {D : List Int} {c : Int} (hc : 0 ≤ c ∧ c < D.length) (hb : ∀ i, i < D.length → 0 ≤ D.getD i default ∧ D.getD i default ≤ 4611686018427387904) (i : Nat) : (inc D c).getD i default = D.getD i default + (if c = (i : Int) then 1 else 0) := by
 unfold inc
 by_cases e : c = (i : Int)
 · have h1 : i < D.length := by omega
   have h2 := hb i h1
   rw [if_pos e, e, itn, gset h1, W_eq (by omega) (by omega)]
 · rw [if_neg e, gsne (by omega)]; omega
theorem runP_cnt : ∀ (L D : List Int), (∀ c ∈ L, 0 ≤ c ∧ c < D.length) → (∀ i, i < D.length → 0 ≤ D.getD i default ∧ D.getD i default ≤ 1) →
   match runP L D with
   | some D' => D'.length = D.length ∧ (∀ i : Nat, D'.getD i default = D.getD i default + (L.count (i : Int) : Nat)) ∧ ∀ i, i < D.length → D'.getD i default ≤ 1
   | none => ∃ i, i < D.length ∧ 2 ≤ D.getD i default + (L.count (i : Int) : Nat)
 | [], D, _, hb => by
   rw [runP]
   exact ⟨rfl, fun i => by simp, fun i hi => (hb i hi).2⟩
 | c :: L, D, h, hb => by
   have hc := h c List.mem_cons_self
   have ha := inc_at hc (fun j hj => ⟨(hb j hj).1, by have := hb j hj; omega⟩)
   rw [runP]
   by_cases c1 : (inc D c).getD (toNat c) default > 1
   · rw [if_pos c1]
     refine ⟨toNat c, by omega, ?_⟩
     rw [ha (toNat c), if_pos (by omega)] at c1
     rw [cnt_cons, if_pos (by omega)]
     omega
   · rw [if_neg c1]
     have hb2 : ∀ i, i < (inc D c).length → 0 ≤ (inc D c).getD i default ∧ (inc D c).getD i default ≤ 1 := by
       intro i hi
       rw [inc_len] at hi
       have := hb i hi
       by_cases e : c = (i : Int)
       · have e2 : toNat c = i := by omega
         rw [e2] at c1
         rw [ha i] at c1 ⊢
         rw [if_pos e] at c1 ⊢
         omega
       · rw [ha i, if_neg e]; omega
     have ih := runP_cnt L (inc D c) (fun k hk => by rw [inc_len]; exact h k (List.mem_cons_of_mem _ hk)) hb2
     cases c2 : runP L (inc D c) with
     | none =>
       rw [c2] at ih
       obtain ⟨i, h1, h2⟩ := ih
       rw [inc_len] at h1
       rw [ha i] at h2
       refine ⟨i, h1, ?_⟩
       rw [cnt_cons]; omega
     | some D' =>
       rw [c2] at ih
       obtain ⟨h1, h2, h3⟩ := ih
       rw [inc_len] at h1 h3
       refine ⟨h1, fun i => ?_, h3⟩
       rw [h2 i, ha i, cnt_cons]; omega
def okb (t : TR) (x : BLK) : Bool := F33 x.1 0 (W ((t.2.length : Int) - 1)) && F33 x.2.1 0 (W ((t.2.length : Int) - 1))
theorem pgo_ok {l : LCH} {t : TR} : ∀ (bs : LBK) (D : List Int), (∀ x ∈ bs, okb t x = true) → pgo l t bs D = match runP (bs.flatMap (blkc l.length t.2)) D with | none => (false, 0) | some D' => (!(F48_L D' 0), 0)
 | [], D, _ => rfl
 | x :: bs, D, h => by
   have hx := h x List.mem_cons_self
   unfold okb at hx
   rw [Bool.and_eq_true] at hx
   rw [pgo, hx.1, hx.2, List.flatMap_cons, runP_app]
   show (match runP (blkc l.length t.2 x) D with | none => (false, 0) | some D' => pgo l t bs D') = _
   cases runP (blkc l.length t.2 x) D with
   | none => rfl
   | some D' => exact pgo_ok bs D' (fun y hy => h y (List.mem_cons_of_mem _ hy))
def phi (n : Int) (t : TR) (c : Int) : Int := t.1.getD (toNat (c / n)) default * n + t.1.getD (toNat (c % n)) default
theorem div_mod_of {n i k : Int} (h : 0 ≤ k ∧ k < n) : (i * n + k) / n = i ∧ (i * n + k) % n = k := by
 rw [Int.add_comm, Int.add_mul_ediv_right _ _ (by omega), Int.add_mul_emod_self_right, Int.ediv_eq_zero_of_lt h.1 h.2, Int.emod_eq_of_lt h.1 h.2]
 exact ⟨by omega, rfl⟩
theorem dblk_map {l : LCH} {t : TR} {x : BLK} (ht : t.1.length = l.length) (hk : NODS t) (hx : okb t x = true) : dblk l.length t x = (blkc l.length t.2 x).map (phi l.length t) ∧ ∀ c ∈ blkc l.length t.2 x, 0 ≤ c ∧ c < (l.length : Int) * l.length := by
 unfold okb at hx
 rw [Bool.and_eq_true] at hx
 have n1 := cov_nd (x := x.1) hk (by rw [hx.1]; rfl)
 have n2 := cov_nd (x := x.2.1) hk (by rw [hx.2]; rfl)
 refine ⟨?_, fun c hc => ?_⟩
 · unfold dblk blkc drow row
   rw [List.map_flatMap]
   refine flatMap_cg _ fun i hi => ?_
   rw [List.map_map]
   refine List.map_congr_left fun k hk2 => ?_
   have a1 := rg_mem hi
   have a2 := rg_mem hk2
   have a3 := div_mod_of (n := l.length) (i := i) (k := k) (by omega)
   show _ = phi l.length t (i * l.length + k)
   unfold phi
   rw [a3.1, a3.2]
 · unfold blkc row at hc
   obtain ⟨i, hi, hc⟩ := List.mem_flatMap.1 hc
   obtain ⟨k, hk2, rfl⟩ := List.mem_map.1 hc
   have a1 := rg_mem hi
   have a2 := rg_mem hk2
   have a3 := Int.mul_le_mul_of_nonneg_right (a := i + 1) (b := l.length) (c := l.length) (by omega) (by omega)
   have a4 := Int.mul_nonneg (a := i) (b := l.length) (by omega) (by omega)
   rw [Int.add_mul, Int.one_mul] at a3
   omega

theorem rg_app {f c u : Int} (h : f ≤ c ∧ c ≤ u) : rg f c ++ rg c u = rg f u := by
 obtain ⟨d, hd⟩ : ∃ d : Nat, toNat (c - f) = d := ⟨_, rfl⟩
 induction d generalizing f with
 | zero => rw [show c = f by omega, rg_nil (Int.le_refl f)]; rfl
 | succ d ih => rw [rg_cons (f := f) (u := c) (by omega), List.cons_append, ih ⟨by omega, h.2⟩ (by omega), ← rg_cons (f := f) (u := u) (by omega)]
theorem row_app {n i f c u : Int} (h : f ≤ c ∧ c ≤ u) : row n i f c ++ row n i c u = row n i f u := by
 unfold row
 rw [← List.map_append, rg_app h]
theorem fm_perm {α β : Type} (l : List α) (f g : α → List β) : (l.flatMap f ++ l.flatMap g).Perm (l.flatMap fun x => f x ++ g x) := by
 induction l with
 | nil => exact List.Perm.refl _
 | cons x l ih =>
   rw [List.flatMap_cons, List.flatMap_cons, List.flatMap_cons]
   refine List.Perm.trans ?_ (List.Perm.append_left (f x ++ g x) ih)
   rw [List.append_assoc, List.append_assoc]
   refine List.Perm.append_left (f x) ?_
   rw [← List.append_assoc, ← List.append_assoc]
   exact List.Perm.append_right _ List.perm_append_comm
def cel (n f u f' u' : Int) : List Int := (rg f u).flatMap fun a => row n a f' u'
theorem cel_cut {n f c u f' u' : Int} (h : f ≤ c ∧ c ≤ u) : cel n f c f' u' ++ cel n c u f' u' = cel n f u f' u' := by
 unfold cel
 rw [← List.flatMap_append, rg_app h]
theorem cel_cut' {n f u f' c u' : Int} (h : f' ≤ c ∧ c ≤ u') : (cel n f u f' c ++ cel n f u c u').Perm (cel n f u f' u') := by
 unfold cel
 refine (fm_perm _ _ _).trans ?_
 rw [flatMap_cg (rg f u) (fun a _ => row_app h)]
theorem prs_cel (w : Int) : ∀ (nr : Nat) (t : TR) (i k sep : Int) (m : Nat) (f u h : Int) (m' : Nat) (f' u' h' : Int), TRE t.2 (toNat i) m f u h → TRE t.2 (toNat k) m' f' u' h' → 0 ≤ i → 0 ≤ k → (t.2.length - toNat i) + (t.2.length - toNat k) < nr →
   ((R69 nr t i k sep).flatMap (blkc w t.2)).Perm (cel w f u f' u') ∧ ∀ x ∈ R69 nr t i k sep, (0 ≤ x.1 ∧ x.1 < t.2.length) ∧ (0 ≤ x.2.1 ∧ x.2.1 < t.2.length)
 | 0, _, _, _, _, _, _, _, _, _, _, _, _, _, _, _, _, h => absurd h (nlz _)
 | nr + 1, t, i, k, sep, m, f, u, h, m', f', u', h', H, K, hi, hk, hn => by
   have hb := tre_le H
   have kb := tre_le K
   have hs : ∀ b : Bool, (([(i, k, b)] : List BLK).flatMap (blkc w t.2)).Perm (cel w f u f' u') ∧ ∀ x ∈ ([(i, k, b)] : List BLK), (0 ≤ x.1 ∧ x.1 < t.2.length) ∧ (0 ≤ x.2.1 ∧ x.2.1 < t.2.length) := by
     intro b
     refine ⟨?_, fun x hx => ?_⟩
     · rw [List.flatMap_cons, List.flatMap_nil, List.append_nil]
       unfold blkc cel
       simp only
       rw [hb.2.2.2.2.2.1, hb.2.2.2.2.2.2, kb.2.2.2.2.2.1, kb.2.2.2.2.2.2]
     · obtain rfl := List.mem_singleton.1 hx
       exact ⟨⟨hi, by simp only; omega⟩, hk, by simp only; omega⟩
   have hA : ¬ (t.2.getD (toNat i) default).2.2.1 < 0 → ((A69_2 (R69 nr) t i k sep ++ A69_3 (R69 nr) t i k sep).flatMap (blkc w t.2)).Perm (cel w f u f' u') ∧ ∀ x ∈ A69_2 (R69 nr) t i k sep ++ A69_3 (R69 nr) t i k sep, (0 ≤ x.1 ∧ x.1 < t.2.length) ∧ (0 ≤ x.2.1 ∧ x.2.1 < t.2.length) := by
     intro hq
     rcases tre_kids H with ⟨_, _, h5, _⟩ | ⟨m1, m2, c, h1, h2, e8, g4, g5, b1, b2, e9⟩
     · omega
     · have l1 := tre_le b1
       have l2 := tre_le b2
       have c1 := prs_cel w nr t (t.2.getD (toNat i) default).2.2.1 k sep m1 f c h1 m' f' u' h' (by rw [g4, itn]; exact b1) K (by omega) hk (by omega)
       have c2 := prs_cel w nr t (t.2.getD (toNat i) default).2.2.2.1 k sep m2 c u h2 m' f' u' h' (by rw [g5, itn]; exact b2) K (by omega) hk (by omega)
       refine ⟨?_, fun x hx => ?_⟩
       · rw [List.flatMap_append, ← cel_cut (c := c) (by omega)]
         exact c1.1.append c2.1
       · rcases List.mem_append.1 hx with hx | hx
         · exact c1.2 x hx
         · exact c2.2 x hx
   have hB : ¬ (t.2.getD (toNat k) default).2.2.1 < 0 → ((A69_4 (R69 nr) t i k sep ++ A69_5 (R69 nr) t i k sep).flatMap (blkc w t.2)).Perm (cel w f u f' u') ∧ ∀ x ∈ A69_4 (R69 nr) t i k sep ++ A69_5 (R69 nr) t i k sep, (0 ≤ x.1 ∧ x.1 < t.2.length) ∧ (0 ≤ x.2.1 ∧ x.2.1 < t.2.length) := by
     intro hq
     rcases tre_kids K with ⟨_, _, h5, _⟩ | ⟨m1, m2, c, h1, h2, e8, g4, g5, b1, b2, e9⟩
     · omega
     · have l1 := tre_le b1
       have l2 := tre_le b2
       have c1 := prs_cel w nr t i (t.2.getD (toNat k) default).2.2.1 sep m f u h m1 f' c h1 H (by rw [g4, itn]; exact b1) hi (by omega) (by omega)
       have c2 := prs_cel w nr t i (t.2.getD (toNat k) default).2.2.2.1 sep m f u h m2 c u' h2 H (by rw [g5, itn]; exact b2) hi (by omega) (by omega)
       refine ⟨?_, fun x hx => ?_⟩
       · rw [List.flatMap_append]
         exact (c1.1.append c2.1).trans (cel_cut' (by omega))
       · rcases List.mem_append.1 hx with hx | hx
         · exact c1.2 x hx
         · exact c2.2 x hx
   have hJ : ((S69_j5 (R69 nr) t i k sep ()).flatMap (blkc w t.2)).Perm (cel w f u f' u') ∧ ∀ x ∈ S69_j5 (R69 nr) t i k sep (), (0 ≤ x.1 ∧ x.1 < t.2.length) ∧ (0 ≤ x.2.1 ∧ x.2.1 < t.2.length) := by
     simp only [S69_j5]
     by_cases z5 : (t.2.getD (toNat i) default).2.2.1 < 0 <;> by_cases z6 : (t.2.getD (toNat k) default).2.2.1 < 0
     · rw [dqt z5, dqt z6, cond_true, cond_true]; exact hs false
     · rw [dqt z5, dqf z6, cond_true, cond_false, dqf (show ¬ (t.2.getD (toNat i) default).2.2.1 ≥ 0 by omega), cond_false]; exact hB z6
     · rw [dqf z5, dqt z6, cond_false, cond_true]; exact hA z5
     · rw [dqf z5, dqf z6, cond_false, cond_false, dqt (show (t.2.getD (toNat i) default).2.2.1 ≥ 0 by omega), cond_true, Bool.cond_eq_ite]
       split
       · exact hA z5
       · exact hB z6
   simp only [R69]
   rw [Bool.cond_eq_ite]
   split
   · rw [Bool.cond_eq_ite]
     split
     · exact hs true
     · exact hJ
   · exact hJ
theorem rbk_cel {l : LCH} {t : TR} (sep : Int) (h : F15_L l t = 0) : ((F54 t sep).flatMap (blkc l.length t.2)).Perm (cel l.length 0 l.length 0 l.length) ∧ (∀ x ∈ F54 t sep, (0 ≤ x.1 ∧ x.1 < t.2.length) ∧ (0 ≤ x.2.1 ∧ x.2.1 < t.2.length)) ∧ (F54 t sep).length ≤ 9216 := by
 obtain ⟨hv, leaf, h1, _, rfl⟩ := rck_ok h
 have hl := hv.1
 rcases BT_tre l h1 with ⟨e0, e⟩ | ⟨hh, H⟩
 · rw [e, e0]
   exact ⟨List.Perm.refl _, ⟨fun x hx => (by cases hx), Nat.zero_le _⟩⟩
 · have hw := tre_le H
   unfold F54
   rw [show ((((BT l leaf).2.length : Nat) : Int) == 0) = false by rw [beq_eq_false_iff_ne]; omega, cond_false]
   simp only [F69]
   have qa := prs_cel l.length _ (BT l leaf) 0 0 sep _ _ _ _ _ _ _ _ H H (Int.le_refl _) (Int.le_refl _) (lss _)
   have qb := prs_len _ (BT l leaf) 0 0 sep _ _ _ _ _ _ _ _ H H (Int.le_refl _) (Int.le_refl _) (lss _)
   refine ⟨qa.1, qa.2, ?_⟩
   have hm : ((l.length : Int) - 0) * ((l.length : Int) - 0) ≤ 96 * 96 := Int.mul_le_mul (by omega) (by omega) (by omega) (by omega)
   exact Int.ofNat_le.1 (Int.le_trans qb hm)
theorem rBlk_bd (l : LCH) (t : TR) (sep : Int) : (F29_L l t sep).1.length ≤ 9216 := by
 unfold F29_L
 cases h0 : ((F15_L l (t.1, t.2) : Int) != 0) with
 | true => exact Nat.zero_le _
 | false =>
   rw [cond_false, Bool.cond_eq_ite]
   split
   · exact Nat.zero_le _
   · exact (rbk_cel (t := t) sep (bne_eq_false_iff_eq.1 h0)).2.2
theorem Blk_bd (l : LCH) (t : TR) (sep : Int) : (F28_L l t sep).1.length ≤ 9216 := by
 rw [Blocks_eq]; exact rBlk_bd l t sep

def F9_L (a0 : TyL) (a1 : Int) (a2 : Int) : Bool :=
 (bif (F14_L a0) then
  F10
 else
  (bif (((F28_L a0 ((F12_L a0 a1).1.1, (F12_L a0 a1).1.2) a2).2 : Int) != (F29_L a0 ((F12_L a0 a1).1.1, (F12_L a0 a1).1.2) a2).2) then
   false
  else
   (bif (!(F30_L_L (F28_L a0 ((F12_L a0 a1).1.1, (F12_L a0 a1).1.2) a2).1 (F29_L a0 ((F12_L a0 a1).1.1, (F12_L a0 a1).1.2) a2).1)) then
    false
   else
    (bif (((F28_L a0 ((F12_L a0 a1).1.1, (F12_L a0 a1).1.2) a2).2 : Int) != 0) then
     F10
    else
     (bif (((F23_L_L a0 ((F12_L a0 a1).1.1, (F12_L a0 a1).1.2) (F28_L a0 ((F12_L a0 a1).1.1, (F12_L a0 a1).1.2) a2).1).2 : Int) == 0) then
      (bif (F23_L_L a0 ((F12_L a0 a1).1.1, (F12_L a0 a1).1.2) (F28_L a0 ((F12_L a0 a1).1.1, (F12_L a0 a1).1.2) a2).1).1 then
       F10
      else
       false)
     else
      false)))))

theorem C9_L (a0 : TyL) (a1 : Int) (a2 : Int) (l0 : a0.length ≤ 9223372036854775807) : Con Try.prog 9 [(.s 0 0 a0.length 10), (iv a1), (iv a2)] [(.live false true (flat c81 a0))] (.v (.bool (F9_L a0 a1 a2))) [] := by
 refine con_s Try.func9 (by kernel_rfl) fun cx hcx => ?_
 have hb2 := rBuild_len a0 a1
 have hb3 := Blk_bd a0 ((F12_L a0 a1).1.1, (F12_L a0 a1).1.2) a2
 have hb4 := rBlk_bd a0 ((F12_L a0 a1).1.1, (F12_L a0 a1).1.2) a2
 let t0 : List (St Try.prog) := [.c [0] (C14_L a0 (by omega))]
 cases h0 : (F14_L a0) with
 | true =>
  have e := Eq.refl (F9_L a0 a1 a2); conv at e => rhs; simp only [F9_L, h0, cdb]
  rw [e]
  exact rt (t0 ++ [.d h0, .c [] (C10)]) [] [] hcx (by kernel_rfl)
 | false =>
  let t1 : List (St Try.prog) := (t0 ++ [.d h0, .c [0] (C12_L a0 a1 (by omega)), .c [0, 1, 2] (C28_L a0 ((F12_L a0 a1).1.1, (F12_L a0 a1).1.2) a2 (by (try simp only [Lt]); omega) (by (try simp only [Lt]); omega) (by (try simp only [Lt]); omega)), .c [0, 1, 2] (C29_L a0 ((F12_L a0 a1).1.1, (F12_L a0 a1).1.2) a2 (by (try simp only [Lt]); omega) (by (try simp only [Lt]); omega) (by (try simp only [Lt]); omega))])
  cases h1 : (((F28_L a0 ((F12_L a0 a1).1.1, (F12_L a0 a1).1.2) a2).2 : Int) != (F29_L a0 ((F12_L a0 a1).1.1, (F12_L a0 a1).1.2) a2).2) with
  | true =>
   have q1 := bne_iff_ne.1 h1
   have e := Eq.refl (F9_L a0 a1 a2); conv at e => rhs; simp only [F9_L, h0, h1, cdb]
   rw [e]
   exact rt (t1 ++ [.d h1]) [] [] hcx (by kernel_rfl)
  | false =>
   have q1 := bne_eq_false_iff_eq.1 h1
   let t2 : List (St Try.prog) := (t1 ++ [.d h1, .c [4, 5] (C30_L_L (F28_L a0 ((F12_L a0 a1).1.1, (F12_L a0 a1).1.2) a2).1 (F29_L a0 ((F12_L a0 a1).1.1, (F12_L a0 a1).1.2) a2).1 (by (try simp only [Lt]); omega) (by (try simp only [Lt]); omega))])
   cases h2 : (!(F30_L_L (F28_L a0 ((F12_L a0 a1).1.1, (F12_L a0 a1).1.2) a2).1 (F29_L a0 ((F12_L a0 a1).1.1, (F12_L a0 a1).1.2) a2).1)) with
   | true =>
    have e := Eq.refl (F9_L a0 a1 a2); conv at e => rhs; simp only [F9_L, h0, h1, h2, cdb]
    rw [e]
    exact rt (t2 ++ [.d h2]) [] [] hcx (by kernel_rfl)
   | false =>
    let t3 : List (St Try.prog) := (t2 ++ [.d h2])
    cases h3 : (((F28_L a0 ((F12_L a0 a1).1.1, (F12_L a0 a1).1.2) a2).2 : Int) != 0) with
    | true =>
     have q3 := bne_iff_ne.1 h3
     have e := Eq.refl (F9_L a0 a1 a2); conv at e => rhs; simp only [F9_L, h0, h1, h2, h3, cdb]
     rw [e]
     exact rt (t3 ++ [.d h3, .c [] (C10)]) [] [] hcx (by kernel_rfl)
    | false =>
     have q3 := bne_eq_false_iff_eq.1 h3
     let t4 : List (St Try.prog) := (t3 ++ [.d h3, .c [0, 1, 2, 4] (C23_L_L a0 ((F12_L a0 a1).1.1, (F12_L a0 a1).1.2) (F28_L a0 ((F12_L a0 a1).1.1, (F12_L a0 a1).1.2) a2).1 (by (try simp only [Lt]); omega) (by (try simp only [Lt]); omega) (by (try simp only [Lt]); omega) (by (try simp only [Lt]); omega))])
     cases h4 : (((F23_L_L a0 ((F12_L a0 a1).1.1, (F12_L a0 a1).1.2) (F28_L a0 ((F12_L a0 a1).1.1, (F12_L a0 a1).1.2) a2).1).2 : Int) == 0) with
     | true =>
      have q4 := eq_of_beq h4
      let t5 : List (St Try.prog) := (t4 ++ [.d h4])
      cases h5 : (F23_L_L a0 ((F12_L a0 a1).1.1, (F12_L a0 a1).1.2) (F28_L a0 ((F12_L a0 a1).1.1, (F12_L a0 a1).1.2) a2).1).1 with
      | true =>
       have e := Eq.refl (F9_L a0 a1 a2); conv at e => rhs; simp only [F9_L, h0, h1, h2, h3, h4, h5, cdb]
       rw [e]
       exact rt (t5 ++ [.d h5, .c [] (C10)]) [] [] hcx (by kernel_rfl)
      | false =>
       have e := Eq.refl (F9_L a0 a1 a2); conv at e => rhs; simp only [F9_L, h0, h1, h2, h3, h4, h5, cdb]
       rw [e]
       exact rt (t5 ++ [.d h5]) [] [] hcx (by kernel_rfl)
     | false =>
      have q4 := ne_of_beq_false h4
      have e := Eq.refl (F9_L a0 a1 a2); conv at e => rhs; simp only [F9_L, h0, h1, h2, h3, h4, cdb]
      rw [e]
      exact rt (t4 ++ [.d h4]) [] [] hcx (by kernel_rfl)

theorem row_cnt {n : Nat} (m : Nat) (c : Nat) : (row n m 0 n).count (c : Int) = if m * n ≤ c ∧ c < m * n + n then 1 else 0 := by
 have key : ∀ d : Nat, (((List.range d).map (fun j : Nat => (0 : Int) + (j : Int))).map (fun k => (m : Int) * (n : Int) + k)).count (c : Int) = if m * n ≤ c ∧ c < m * n + d then 1 else 0 := by
   intro d
   induction d with
   | zero => rw [if_neg (by omega)]; rfl
   | succ d ih =>
     rw [List.range_succ, List.map_append, List.map_append, List.count_append, ih]
     simp only [List.map_cons, List.map_nil, List.count_cons, List.count_nil]
     have e : (m : Int) * (n : Int) = ((m * n : Nat) : Int) := (Int.natCast_mul m n).symm
     by_cases h : c = m * n + d
     · rw [if_neg (by omega), if_pos (by rw [beq_iff_eq, e]; omega), if_pos (by omega)]
     · rw [if_neg (c := ((m : Int) * (n : Int) + (0 + (d : Int)) == (c : Int)) = true) (by rw [beq_iff_eq, e]; omega)]
       split <;> split <;> omega
 unfold row rg
 rw [show toNat ((n : Int) - 0) = n by omega]
 exact key n
theorem cel_cnt {n : Nat} (m : Nat) (c : Nat) : ((rg 0 (m : Int)).flatMap fun a => row n a 0 n).count (c : Int) = if c < m * n then 1 else 0 := by
 induction m with
 | zero => rw [rg_nil (by omega), if_neg (by omega)]; rfl
 | succ m ih =>
   rw [← rg_app (f := 0) (c := (m : Int)) (u := ((m + 1 : Nat) : Int)) (by omega), List.flatMap_append, List.count_append, ih, rg_cons (f := (m : Int)) (by omega), rg_nil (by omega), List.flatMap_cons, List.flatMap_nil, List.append_nil, row_cnt, Nat.succ_mul]
   split <;> split <;> split <;> omega
theorem cov_true {l : LCH} {t : TR} {b : LBK} (hc : F15_L l (t.1, t.2) = 0) (hall : ∀ x ∈ b, okb t x = true) (h1 : ∀ c : Nat, c < l.length * l.length → (b.flatMap (blkc l.length t.2)).count (c : Int) = 1) : F23_L_L l t b = (true, 0) := by
 obtain ⟨ht, hl, _, hk⟩ := rck_dims (t := t) hc
 have hq := cov_sq (n := l.length) hl
 unfold F23_L_L
 rw [Check_eq, hc, show ((0 : Int) != 0) = false from rfl, cond_false, hq.1]
 have hN : toNat ((l.length : Int) * (l.length : Int)) = l.length * l.length := by omega
 rw [hN]
 have r1 := cov_p0 (l := l) (t := t) (b := b) hl ht hk _ _ (List.replicate (l.length * l.length) 0) 0 rfl (Nat.zero_le _) (show b.length - 0 < toNat ((b.length : Int) - 0) + 1 by omega)
 rw [List.drop_zero] at r1
 refine r1.trans ?_
 rw [pgo_ok b _ hall]
 have e2 : ∀ c ∈ b.flatMap (blkc l.length t.2), 0 ≤ c ∧ c < (l.length : Int) * l.length := by
   intro c hc
   obtain ⟨x, hx, hc⟩ := List.mem_flatMap.1 hc
   exact (dblk_map ht hk (hall x hx)).2 c hc
 generalize b.flatMap (blkc l.length t.2) = L at *
 have zr : ∀ i : Nat, (List.replicate (l.length * l.length) (0 : Int)).getD i default = 0 := by
   intro i; rw [gdq, List.getElem?_replicate]; split <;> rfl
 have hp1 := runP_cnt L (List.replicate (l.length * l.length) 0) (fun c hc => by rw [List.length_replicate]; have := e2 c hc; omega) (fun i _ => by rw [zr i]; omega)
 cases c : runP L (List.replicate (l.length * l.length) 0) with
 | none =>
   rw [c] at hp1
   obtain ⟨i, g1, g2⟩ := hp1
   rw [List.length_replicate] at g1
   rw [zr, h1 i g1] at g2
   omega
 | some D' =>
   rw [c] at hp1
   obtain ⟨g1, g2, g3⟩ := hp1
   rw [List.length_replicate] at g1
   show ((!(F48_L D' 0)), (0 : Int)) = (true, 0)
   cases hc3 : F48_L D' 0 with
   | false => rfl
   | true =>
     obtain ⟨j, hj, e⟩ := has_iff.1 hc3
     rw [g2, zr, h1 j (by omega)] at e
     omega
theorem blks_refl (b : LBK) : F30_L_L b b = true := by
 have run : ∀ (d n i : Nat), b.length - i = d → i ≤ b.length → d < n → loopF (S30_L_L_0 b b) n (i : Int) = true := by
   intro d
   induction d with
   | zero =>
     intro n i hd hi hn
     obtain ⟨n, rfl⟩ : ∃ q, n = q + 1 := ⟨n - 1, by omega⟩
     refine loopF_inr ?_
     simp only [S30_L_L_0]
     rw [dqf (show ¬ (i : Int) < (b.length : Int) by omega)]
     rfl
   | succ d ih =>
     intro n i hd hi hn
     obtain ⟨n, rfl⟩ : ∃ q, n = q + 1 := ⟨n - 1, by omega⟩
     rw [← ih n (i + 1) (by omega) (by omega) (by omega)]
     refine loopF_inl ?_
     simp only [S30_L_L_0]
     rw [dqt (show (i : Int) < (b.length : Int) by omega)]
     simp
 unfold F30_L_L
 rw [show (((b.length : Int) : Int) != (b.length : Int)) = false by simp, cond_false]
 exact run _ _ 0 rfl (Nat.zero_le _) (by omega)
theorem law_blocks (l : LCH) (leaf sep : Int) : F9_L l leaf sep = true := by
 unfold F9_L
 rw [sane_5]
 cases h : (F14_L l) with
 | true => rfl
 | false =>
   rw [cond_false]
   generalize F12_L l leaf = B
   simp only [Blocks_eq, blks_refl]
   generalize hb : F29_L l (B.1.1, B.1.2) sep = R
   cases h2 : ((R.2 : Int) != 0) with
   | true => simp
   | false =>
     have h3 := bne_eq_false_iff_eq.1 h2
     have key : F23_L_L l (B.1.1, B.1.2) R.1 = (true, 0) := by
       rw [← hb] at h3 ⊢
       unfold F29_L at h3 ⊢
       cases c0 : ((F15_L l (B.1.1, B.1.2) : Int) != 0) with
       | true => rw [c0, cond_true] at h3; simp only at h3; rw [h3] at c0; cases c0
       | false =>
         rw [c0, cond_false] at h3
         rw [cond_false]
         have hc := bne_eq_false_iff_eq.1 c0
         cases c1 : F43 sep 1 16 with
         | false => rw [c1] at h3; exact absurd (show (1 : Int) = 0 from h3) (by decide)
         | true =>
           simp only [Bool.not_true, cond_false]
           have q := rbk_cel (t := (B.1.1, B.1.2)) sep hc
           have hd := rck_dims (t := (B.1.1, B.1.2)) hc
           refine cov_true (t := (B.1.1, B.1.2)) hc (fun x hx => ?_) (fun c hcl => ?_)
           · have := q.2.1 x hx
             have hk2 := hd.2.2.1
             unfold okb F33
             have hW : W ((B.1.2.length : Int) - 1) = (B.1.2.length : Int) - 1 := W_eq (by simp only at hk2; omega) (by simp only at hk2; omega)
             simp only [hW]
             simp only at this
             rw [dqt (show x.1 ≥ 0 by omega), dqt (show x.2.1 ≥ 0 by omega), dqt (show x.1 ≤ (B.1.2.length : Int) - 1 by omega), dqt (show x.2.1 ≤ (B.1.2.length : Int) - 1 by omega)]
             rfl
           · have := q.1.count_eq (c : Int)
             simp only at this
             rw [this]
             exact (cel_cnt l.length c).trans (if_pos hcl)
     simp only [key]
     simp

end Go.Proofs.Ytnbpiejjeeomkaa
