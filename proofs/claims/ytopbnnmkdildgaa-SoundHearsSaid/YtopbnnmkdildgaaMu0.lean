/-
  A part of the proofs of the Field laws: what functions of the program compute, and that it is what the statements ask. No premise.
-/
import Derived.Test.YtopbnnmkdildgaaMt
namespace Go.Proofs.Ytopbnnmkdildgaa
open Go.Proofs Go.Aw Go.RowKit
set_option maxRecDepth 100000
set_option linter.unusedVariables false
set_option linter.unusedSimpArgs false

/-! ### What is heard of a pulse -/
theorem inv1_f {s n : Int} (hs : s = 1 ∨ s = 2 ∨ s = 4 ∨ s = 8) (h1 : 1 ≤ n) (hn : n ≤ 1000000000) : F81 n s = (of1 s n, 0) := by
  obtain ⟨e1, e2, _⟩ := lt8 hs
  unfold F81 of1
  have e : W ((W (s * s)) * 2 ^ (min (Int.toNat 40) 64)) = NN s := by rcases hs with rfl | rfl | rfl | rfl <;> kernel_rfl
  rw [decide_eq_false (show ¬ n < 1 by omega), cond_false, decide_eq_false (show ¬ n > 1099511627776 by omega), cond_false, e1, cond_false, e2, cond_false, if_neg (show ¬ n < 1 by omega), e, inv_f (NN_bd hs) (by omega)]
theorem inv1_r {s n : Int} (hs : s = 1 ∨ s = 2 ∨ s = 4 ∨ s = 8) (h1 : 1 ≤ n) (hn : n ≤ 1000000000) : F119 n s = (of1 s n, 0) := by
  obtain ⟨_, _, e3⟩ := lt8 hs
  unfold F119 of1
  have e : W ((W ((W (1048576 * s)) * 1048576)) * s) = NN s := by rcases hs with rfl | rfl | rfl | rfl <;> kernel_rfl
  rw [e3, within_eq1, decide_eq_true (show (1 ≤ n ∧ n ≤ 1099511627776) by omega), if_neg (show ¬ n < 1 by omega), e, inv_r (NN_bd hs) (by omega)]; rfl
/-- what a part gives whose nearest and farthest squared distances are n and f -/
noncomputable def gv (a b s n f : Int) : (Int × Int) × Int :=
  if f ≤ a ∨ b < n then ((0, 0), 0) else if mx n a = 0 then ((0, 0), 10) else if a < n ∧ f ≤ b then (((of1 s f).1, (of1 s (mx n a)).2), 0) else ((0, (of1 s (mx n a)).2), 0)
theorem mx_eq (n a : Int) : (if n < a then a else n) = mx n a := rfl
theorem gives_f {a b s n f : Int} (hs : s = 1 ∨ s = 2 ∨ s = 4 ∨ s = 8) (ha : 0 ≤ a) (hn : 0 ≤ n) (hnf : n ≤ f) (hf : f ≤ 1000000000) : F89 (a, b, s) n f = gv a b s n f := by
  unfold F89 gv
  simp only [mx_eq]
  by_cases h1 : f ≤ a
  · simp [h1]
  · by_cases h2 : b < n
    · simp [h1, h2]
    · have hm := le_mx1 n a
      have hm2 : mx n a ≤ 1000000000 := mx_le (by omega) (by omega)
      rw [decide_eq_false h1, cond_false, decide_eq_false h2, cond_false, if_neg (by omega)]
      by_cases h3 : mx n a = 0
      · rw [h3]; cases decide (n > a) <;> rfl
      · rw [if_neg h3, inv1_f hs (by omega) hm2, inv1_f hs (by omega) hf, beq_eq_false_iff_ne.2 h3, cond_false, cond_false]
        by_cases h4 : a < n
        · by_cases h5 : f ≤ b
          · rw [if_pos ⟨h4, h5⟩]; simp [h4, h5]
          · rw [if_neg (by omega)]; simp [h4, h5]
        · rw [if_neg (by omega)]; simp [h4]
theorem share_r {c : PN} {y : P3} {a b s : Int} (hs : s = 1 ∨ s = 2 ∨ s = 4 ∨ s = 8) (ha : 0 ≤ a) (hc : bdP 5000 c) (hy : bd 5000 y) : F92 c y a b s = gv a b s (ne c y) (fa c y) := by
  have h0 := ne_le c y; have h00 := (fa_bd hc hy).2
  unfold F92 gv
  rw [sne_r hc hy, sfa_r hc hy]
  simp only [mx_eq]
  by_cases h1 : fa c y ≤ a
  · simp [h1]
  · by_cases h2 : b < ne c y
    · simp [h1, h2]
    · have hm := le_mx1 (ne c y) a
      have hm2 : mx (ne c y) a ≤ 1000000000 := mx_le (by omega) (by omega)
      rw [decide_eq_false h1, cond_false, decide_eq_false h2, cond_false, if_neg (by omega)]
      by_cases h3 : mx (ne c y) a = 0
      · rw [h3]; rfl
      · rw [if_neg h3, inv1_r hs (by omega) hm2, inv1_r hs (by omega) (by omega), beq_eq_false_iff_ne.2 h3, cond_false]
        by_cases h4 : a < ne c y
        · by_cases h5 : fa c y ≤ b
          · rw [if_pos ⟨h4, h5⟩]; simp [show ¬ ne c y ≤ a by omega, show ¬ b < fa c y by omega]
          · rw [if_neg (by omega)]; simp [show ¬ ne c y ≤ a by omega, show b < fa c y by omega]
        · rw [if_neg (by omega)]; simp [show ne c y ≤ a by omega]
theorem gv_ok {a b s n f : Int} (hs : s = 1 ∨ s = 2 ∨ s = 4 ∨ s = 8) (hn : 0 ≤ n) (hnf : n ≤ f) : okE (gv a b s n f).1 := by
  have ho := of1_ok hs
  have hm := le_mx1 n a
  unfold gv okE
  split
  · simp
  · split
    · simp
    · rename_i h1 h2
      have hmf : mx n a ≤ f := mx_le hnf (by omega)
      have q1 := ho.lo f; have q2 := ho.mono (mx n a) f (by omega) hmf; have q3 := ho.le (mx n a); have q4 := ho.hi (mx n a); have q5 := ho.lo (mx n a)
      split <;> simp only <;> omega
/-! a list that is filled, or left at the first error -/
def shs {α β : Type} (g : α → β × Int) : List α → List β → List β ⊕ Int
  | [], l => .inl l
  | c :: m, l => if (g c).2 = 0 then shs g m (l ++ [(g c).1]) else .inr (g c).2
def out8 {β R : Type} (G : List β → R) (E : Int → R) : List β ⊕ Int → R
  | .inl m => G m
  | .inr e => E e
theorem shs_loopF {α β R : Type} [Inhabited R] {g : α → β × Int} {S : List β × Int → (List β × Int) ⊕ R} {G : List β → R} {E : Int → R} {L : List α}
    (hS : ∀ (i : Nat) (c : α), L[i]? = some c → ∀ l : List β, S (l, (i : Int)) = bif ((g c).2 != 0) then .inr (E (g c).2) else .inl (l ++ [(g c).1], ((i + 1 : Nat) : Int)))
    (hE : ∀ l : List β, S (l, (L.length : Int)) = .inr (G l)) :
    ∀ (k : List α) (i n : Nat) (l : List β), L.drop i = k → i ≤ L.length → k.length < n → loopF S n (l, (i : Int)) = out8 G E (shs g k l)
  | [], i, n, l, hd, hi', hn => by
    have : i = L.length := by have := List.drop_eq_nil_iff.1 hd; omega
    obtain ⟨n, rfl⟩ : ∃ m, n = m + 1 := ⟨n - 1, by simp only [List.length_nil] at hn; omega⟩
    subst this
    rw [loopF_inr (hE _)]; rfl
  | c :: k, i, n, l, hd, hi', hn => by
    have hc : L[i]? = some c := by
      have : (L.drop i)[0]? = some c := by rw [hd]; rfl
      simpa using this
    obtain ⟨hlt, hce⟩ := List.getElem?_eq_some_iff.1 hc
    obtain ⟨n, rfl⟩ : ∃ m, n = m + 1 := ⟨n - 1, by omega⟩
    have h1 := hS i c hc l
    unfold shs
    by_cases h : (g c).2 = 0
    · rw [h] at h1
      rw [loopF_inl h1, if_pos h]
      exact shs_loopF hS hE k (i + 1) n _ (by rw [← List.drop_drop, hd]; rfl) (by omega) (by simp only [List.length_cons] at hn; omega)
    · rw [bne_iff_ne.2 h, cond_true] at h1
      rw [loopF_inr h1, if_neg h]; rfl
theorem shs_inl {α β : Type} {g : α → β × Int} : ∀ {k : List α} {l m : List β}, shs g k l = .inl m → m = l ++ k.map (fun c => (g c).1) ∧ ∀ c ∈ k, (g c).2 = 0
  | [], l, m, h => by simp only [shs] at h; cases h; simp
  | c :: k, l, m, h => by
    unfold shs at h
    split at h
    · rename_i h0
      obtain ⟨h1, h2⟩ := shs_inl h
      refine ⟨by rw [h1]; simp, fun x hx => ?_⟩
      rcases List.mem_cons.1 hx with rfl | hx
      · exact h0
      · exact h2 x hx
    · cases h
theorem out8_ok {α β R : Type} {g : α → β × Int} {k : List α} {G G' : List β → R} {E : Int → R} (h : (∀ c ∈ k, (g c).2 = 0) → G (k.map (fun c => (g c).1)) = G' (k.map (fun c => (g c).1))) : out8 G E (shs g k []) = out8 G' E (shs g k []) := by
  cases e : shs g k [] with
  | inr r => rfl
  | inl m =>
    obtain ⟨h1, h2⟩ := shs_inl e
    subst h1
    exact h h2
/-! a pulse in a tick -/
def shA (s d q : Int) : Int := sc d * s * q * (sc d * s * q)
noncomputable def shG (p : PU) (x : P3) (s t d : Int) (c : PN) : (Int × Int) × Int := gv (shA s d (t - p.2.1 - 1)) (shA s d (t - p.2.1)) (sc d) (ne c (tm (sc d) x)) (fa c (tm (sc d) x))
noncomputable def hrE (l : List (Int × Int)) (d w : Int) : (Int × Int) × Int := F78 (scl (avg (sums l (0, 0)) (sc d * sc d)) w).1 (scl (avg (sums l (0, 0)) (sc d * sc d)) w).2
noncomputable def hrS (p : PU) (x : P3) (s t d : Int) : (Int × Int) × Int :=
  if t - p.2.1 < 1 then ((0, 0), 0) else out8 (fun l => hrE l d p.2.2) (fun e => ((0, 0), e)) (shs (shG p x s t d) (cutL d.toNat p.1) [])
theorem shA_bd {s d q : Int} (hs : 1 ≤ s ∧ s ≤ 16) (hq : 0 ≤ q ∧ q ≤ 2000) : 0 ≤ sc d * s ∧ sc d * s ≤ 128 ∧ 0 ≤ sc d * s * q ∧ sc d * s * q ≤ 256000 ∧ 0 ≤ shA s d q ∧ shA s d q ≤ 65536000000 := by
  have h0 := sc_bd d
  have h1 : 0 ≤ sc d * s := Int.mul_nonneg (by omega) (by omega)
  have h2 : sc d * s ≤ 8 * 16 := Int.mul_le_mul (by omega) (by omega) (by omega) (by omega)
  have h3 : 0 ≤ sc d * s * q := Int.mul_nonneg (by omega) (by omega)
  have h4 : sc d * s * q ≤ 128 * 2000 := Int.mul_le_mul (by omega) (by omega) (by omega) (by omega)
  have h5 : shA s d q ≤ 256000 * 256000 := Int.mul_le_mul (by omega) (by omega) (by omega) (by omega)
  have h6 : 0 ≤ shA s d q := Int.mul_nonneg h3 h3
  exact ⟨h1, by omega, h3, by omega, h6, by omega⟩
theorem shW {s d q : Int} (hs : 1 ≤ s ∧ s ≤ 16) (hq : 0 ≤ q ∧ q ≤ 2000) : W ((W (sc d * s)) * q) = sc d * s * q := by
  have h := shA_bd (d := d) hs hq
  rw [W_eq (n := sc d * s) (by omega) (by omega), W_eq (by omega) (by omega)]
theorem hr_end_f {l : List (Int × Int)} {d w : Int} (hd : 0 ≤ d ∧ d ≤ 3) (hl : ∀ a ∈ l, okE a) (hk : ((l.length : Nat) : Int) = sc d * sc d) (hw : -100 ≤ w ∧ w ≤ 100) :
    (bif (((F90_L l).2 : Int) != 0) then ((0, 0), (F90_L l).2) else ((F39 (F90_L l).1 w).1, (F39 (F90_L l).1 w).2)) = hrE l d w := by
  have hc := cnt_in d
  have h64 : l.length ≤ 64 := by omega
  rw [meanL_f hl hc hk]
  rw [Scale_f (avg_vs hc (sums_ok hl (okv_len h64))) (by omega)]; rfl
theorem hr_end_r {l : List (Int × Int)} {d w : Int} (hd : 0 ≤ d ∧ d ≤ 3) (hl : ∀ a ∈ l, okE a) (hk : ((l.length : Nat) : Int) = sc d * sc d) (hw : -100 ≤ w ∧ w ≤ 100) :
    (bif (((F93_L l).2 : Int) != 0) then ((0, 0), (F93_L l).2) else ((F94 (F93_L l).1 w).1, (F94 (F93_L l).1 w).2)) = hrE l d w := by
  have hc := cnt_in d
  have h64 : l.length ≤ 64 := by omega
  rw [meanL_r hl hc hk]
  rw [Scale_r (avg_vs hc (sums_ok hl (okv_len h64))) (by omega)]; rfl
theorem shG_ok (p : PU) (x : P3) (s t d : Int) (c : PN) : okE (shG p x s t d c).1 := gv_ok (sc_in d) (ne_le _ _).1 (ne_le _ _).2
theorem sp_eq {p : PN} {d : Int} (hp : vp p = 0) (hd : 0 ≤ d ∧ d ≤ 3) : F88 p d = (cutL d.toNat p, 0) := by rw [parts_f, if_pos hp, if_pos hd]
theorem quad8_eq {x : PN} (h : bdP 100000 x) : quad8 x = quad x := by
  obtain ⟨⟨h1, h2, h3⟩, ⟨h4, h5, h6⟩, ⟨h7, h8, h9⟩⟩ := h
  unfold quad8 quad F118 F117 q1 q2 q3 q4
  have e : ∀ a b : Int, -100000 ≤ a ∧ a ≤ 100000 → -100000 ≤ b ∧ b ≤ 100000 → W (a + b) = a + b := fun a b ha hb => W_eq (by omega) (by omega)
  have t2 : ∀ a : Int, 2 * a = a + a := fun a => by omega
  simp [F103, F143, e, h1, h2, h3, h4, h5, h6, h7, h8, h9, t2]
theorem R8_cut {p : PN} (hp : bdP 64 p) : ∀ (nr : Nat) (d : Int), 0 ≤ d ∧ d ≤ 3 → Int.toNat d < nr → R91 nr p d = cutL (Int.toNat d) p
  | 0, d, _, h => by omega
  | nr + 1, d, hd, h => by
    rw [R8_eq]
    by_cases h0 : d = 0
    · subst h0; rfl
    · have h1 := pa_d h0 hd
      rw [if_neg h0, R8_cut hp nr _ h1.1 (by omega), ← h1.2, cutL_quad]
      exact flatMap_eq fun x hx => quad8_eq ((cutL_in hp (d := W (d - 1)) h1.1 hx).mono (by omega))
theorem rp_eq {p : PN} (hp : bdP 64 p) {d : Int} (hd : 0 ≤ d ∧ d ≤ 3) : F91 p d = cutL d.toNat p := R8_cut hp _ _ hd (Nat.lt_succ_self _)
theorem heard_f {p : PU} {x : P3} {s t d : Int} (hp : POK p) (hx : bd 256 x) (hs : 1 ≤ s ∧ s ≤ 16) (ht : 0 ≤ t ∧ t ≤ 2000) (hd : 0 ≤ d ∧ d ≤ 3) : F61 p x s t d = hrS p x s t d := by
  have hb := pok_bd hp
  have hsc := sc_bd d
  have hx' : bd 5000 (tm (sc d) x) := (bd_tm hsc (by omega) hx).mono (by omega)
  have hpt := hp.2.1
  unfold F61 hrS
  rw [W_eq (n := t - p.2.1) (by omega) (by omega)]
  by_cases h0 : t - p.2.1 < 1
  · rw [decide_eq_true h0, if_pos h0]; rfl
  have hA := shA_bd (d := d) (q := t - p.2.1 - 1) hs (by omega)
  have hB := shA_bd (d := d) (q := t - p.2.1) hs (by omega)
  rw [decide_eq_false h0, if_neg h0, cond_false, sp_eq hp.1 hd]
  show loopF (S61_0 p x s t d) _ (([] : List (Int × Int)), ((0 : Nat) : Int)) = _
  have key := shs_loopF (g := shG p x s t d) (S := S61_0 p x s t d) (E := fun e => ((0, 0), e)) (L := cutL d.toNat p.1)
    (G := fun l => (bif (((F90_L l).2 : Int) != 0) then ((0, 0), (F90_L l).2) else ((F39 (F90_L l).1 p.2.2).1, (F39 (F90_L l).1 p.2.2).2)))
    (fun i c hi l => ?_) (fun l => ?_) (cutL d.toNat p.1) 0 (Int.toNat ((((cutL d.toNat p.1).length : Nat) : Int) - 0) + 1) [] rfl (Nat.zero_le _) (by omega)
  · rw [key]
    refine out8_ok (fun _ => hr_end_f hd ?_ ?_ hp.2.2)
    · intro a ha
      obtain ⟨c, _, rfl⟩ := List.mem_map.1 ha
      exact shG_ok _ _ _ _ _ _
    · rw [List.length_map]; exact cnt_len hd p.1
  · obtain ⟨hlt, hce⟩ := List.getElem?_eq_some_iff.1 hi
    have hg : (cutL d.toNat p.1).getD i default = c := by rw [List.getD_eq_getElem?_getD, hi]; rfl
    have hc : bdP 5000 c := (cutL_in hb hd (hce ▸ List.getElem_mem hlt)).mono (by omega)
    have e : F89 ((F83 (W ((W (sc d * s)) * (W (t - p.2.1 - 1))))), (F83 (W ((W (sc d * s)) * (t - p.2.1)))), sc d) (F84 c (tm (sc d) x)) (F87 c (tm (sc d) x)) = shG p x s t d c := by
      rw [W_eq (n := t - p.2.1 - 1) (by omega) (by omega), shW hs (by omega), shW hs (by omega), square_f (by omega), square_f (by omega), sne_f hc hx', sfa_f hc hx']
      exact gives_f (sc_in d) hA.2.2.2.2.1 (ne_le _ _).1 (ne_le _ _).2 (by have := (fa_bd hc hx').2; omega)
    simp only [S61_0]
    rw [sp_eq hp.1 hd, decide_eq_true (show ((i : Nat) : Int) < ((cutL d.toNat p.1).length : Nat) by omega), cond_true, Int.toNat_natCast, hg, sc_f hd, tm_W hsc (hx.mono (by omega)), W_eq (n := t - p.2.1) (by omega) (by omega), e]; rfl
  · simp only [S61_0]
    rw [sp_eq hp.1 hd, decide_eq_false (Int.lt_irrefl _), cond_false]
    cases (((F90_L l).2 : Int) != 0) <;> rfl
theorem heard_r {p : PU} {x : P3} {s t d : Int} (hp : POK p) (hx : bd 256 x) (hs : 1 ≤ s ∧ s ≤ 16) (ht : 0 ≤ t ∧ t ≤ 2000) (hd : 0 ≤ d ∧ d ≤ 3) : F62 p x s t d = hrS p x s t d := by
  have hb := pok_bd hp
  have hsc := sc_bd d
  have hx' : bd 5000 (tm (sc d) x) := (bd_tm hsc (by omega) hx).mono (by omega)
  have hpt := hp.2.1
  unfold F62 hrS
  rw [W_eq (n := t - p.2.1) (by omega) (by omega)]
  by_cases h0 : t - p.2.1 < 1
  · rw [decide_eq_true h0, if_pos h0]; rfl
  have hA := shA_bd (d := d) (q := t - p.2.1 - 1) hs (by omega)
  have hB := shA_bd (d := d) (q := t - p.2.1) hs (by omega)
  rw [decide_eq_false h0, if_neg h0, cond_false, rp_eq hb hd]
  show loopF (S62_0 p x s t d) _ (([] : List (Int × Int)), ((0 : Nat) : Int)) = _
  have key := shs_loopF (g := shG p x s t d) (S := S62_0 p x s t d) (E := fun e => ((0, 0), e)) (L := cutL d.toNat p.1)
    (G := fun l => (bif (((F93_L l).2 : Int) != 0) then ((0, 0), (F93_L l).2) else ((F94 (F93_L l).1 p.2.2).1, (F94 (F93_L l).1 p.2.2).2)))
    (fun i c hi l => ?_) (fun l => ?_) (cutL d.toNat p.1) 0 (Int.toNat ((((cutL d.toNat p.1).length : Nat) : Int) - 0) + 1) [] rfl (Nat.zero_le _) (by omega)
  · rw [key]
    refine out8_ok (fun _ => hr_end_r hd ?_ ?_ hp.2.2)
    · intro a ha
      obtain ⟨c, _, rfl⟩ := List.mem_map.1 ha
      exact shG_ok _ _ _ _ _ _
    · rw [List.length_map]; exact cnt_len hd p.1
  · obtain ⟨hlt, hce⟩ := List.getElem?_eq_some_iff.1 hi
    have hg : (cutL d.toNat p.1).getD i default = c := by rw [List.getD_eq_getElem?_getD, hi]; rfl
    have hc : bdP 5000 c := (cutL_in hb hd (hce ▸ List.getElem_mem hlt)).mono (by omega)
    have e : F92 c (tm (sc d) x) (W ((W ((W (sc d * s)) * (W (t - p.2.1 - 1)))) * (W ((W (sc d * s)) * (W (t - p.2.1 - 1)))))) (W ((W ((W (sc d * s)) * (t - p.2.1))) * (W ((W (sc d * s)) * (t - p.2.1))))) (sc d) = shG p x s t d c := by
      rw [W_eq (n := t - p.2.1 - 1) (by omega) (by omega), shW hs (by omega), shW hs (by omega)]
      have e1 : W (sc d * s * (t - p.2.1 - 1) * (sc d * s * (t - p.2.1 - 1))) = shA s d (t - p.2.1 - 1) := W_eq (n := shA s d (t - p.2.1 - 1)) (by omega) (by omega)
      have e2 : W (sc d * s * (t - p.2.1) * (sc d * s * (t - p.2.1))) = shA s d (t - p.2.1) := W_eq (n := shA s d (t - p.2.1)) (by omega) (by omega)
      rw [e1, e2]
      exact share_r (sc_in d) hA.2.2.2.2.1 hc hx'
    simp only [S62_0]
    rw [rp_eq hb hd, decide_eq_true (show ((i : Nat) : Int) < ((cutL d.toNat p.1).length : Nat) by omega), cond_true, Int.toNat_natCast, hg, sc_r hd, tm_W hsc (hx.mono (by omega)), W_eq (n := t - p.2.1) (by omega) (by omega), e]; rfl
  · simp only [S62_0]
    rw [rp_eq hb hd, decide_eq_false (Int.lt_irrefl _), cond_false]
    cases (((F93_L l).2 : Int) != 0) <;> rfl
noncomputable def HrV (p : PU) (x : P3) (s t d : Int) : (Int × Int) × Int :=
  open Classical in if pv p = 0 then (if bd 256 x ∧ (1 ≤ s ∧ s ≤ 16) ∧ (0 ≤ t ∧ t ≤ 2000) ∧ (0 ≤ d ∧ d ≤ 3) then hrS p x s t d else ((0, 0), 1)) else ((0, 0), pv p)
open Classical in
theorem isT_f (n : Int) : F59 n = decide (0 ≤ n ∧ n ≤ 2000) := by unfold F59; exact sfrom_eq _ _ _
theorem isD_f (n : Int) : F60 n = decide (0 ≤ n ∧ n ≤ 3) := by unfold F60; exact sfrom_eq _ _ _
open Classical in
theorem Heard_f (p : PU) (x : P3) (s t d : Int) : F23 p x s t d = HrV p x s t d := by
  unfold F23 HrV
  rw [isP_f, isS_f, isT_f, isD_f]
  simp only [chk_1]
  by_cases h : pv p = 0
  · by_cases h1 : bd 256 x
    · by_cases h2 : 1 ≤ s ∧ s ≤ 16
      · by_cases h3 : 0 ≤ t ∧ t ≤ 2000
        · by_cases h4 : 0 ≤ d ∧ d ≤ 3
          · rw [heard_f (pv_ok.1 h) h1 h2 h3 h4]; simp [h, h1, h2, h3, h4]
          · simp [h, h1, h2, h3, h4]
        · simp [h, h1, h2, h3]
      · simp [h, h1, h2]
    · simp [h, h1]
  · simp only [if_neg h, bne_iff_ne.2 h, cond_true]
    cases decide (bd 256 x) <;> cases decide (1 ≤ s ∧ s ≤ 16) <;> cases decide (0 ≤ t ∧ t ≤ 2000) <;> rfl
open Classical in
theorem Heard_r (p : PU) (x : P3) (s t d : Int) : F24 p x s t d = HrV p x s t d := by
  unfold F24 HrV
  rw [one_e, asked_r]
  by_cases h : pv p = 0
  · by_cases h1 : bd 256 x ∧ (1 ≤ s ∧ s ≤ 16) ∧ (0 ≤ t ∧ t ≤ 2000) ∧ (0 ≤ d ∧ d ≤ 3)
    · rw [heard_r (pv_ok.1 h) h1.1 h1.2.1 h1.2.2.1 h1.2.2.2, if_pos h1, if_pos h, if_pos h1, h]; rfl
    · rw [if_neg h1, if_pos h, if_neg h1, h]; rfl
  · rw [if_neg h, bne_iff_ne.2 h]; rfl

end Go.Proofs.Ytopbnnmkdildgaa
