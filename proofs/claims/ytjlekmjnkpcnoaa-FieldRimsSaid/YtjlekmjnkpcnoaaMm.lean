/-
  A part of the proofs of the Field laws: what functions of the program compute, and that it is what the statements ask. No premise.
-/
import Derived.Test.YtjlekmjnkpcnoaaLm
namespace Go.Proofs.Ytjlekmjnkpcnoaa
open Go.Proofs Go.Aw Go.RowKit
set_option maxRecDepth 100000
set_option linter.unusedVariables false
set_option linter.unusedSimpArgs false

/-! ### Means of lists of spans -/
def sums : List (Int × Int) → Int × Int → Int × Int
  | [], v => v
  | a :: l, v => sums l (v.1 + a.1, v.2 + a.2)
theorem sums_eq : ∀ (l : List (Int × Int)) (v : Int × Int), sums l v = (v.1 + (l.map (·.1)).sum, v.2 + (l.map (·.2)).sum)
  | [], v => by simp [sums]
  | a :: l, v => by rw [sums, sums_eq l]; simp only [List.map_cons, List.sum_cons, Int.add_assoc]
def okE (a : Int × Int) : Prop := 0 ≤ a.1 ∧ a.1 ≤ a.2 ∧ a.2 ≤ 536870913
theorem sums_ok : ∀ {l : List (Int × Int)} {v : Int × Int}, (∀ a ∈ l, okE a) → okv v l.length → okv (sums l v) 0
  | [], v, _, h => h
  | a :: l, v, hl, h => sums_ok (l := l) (fun c hc => hl c (List.mem_cons_of_mem _ hc)) (okv_add h (hl a List.mem_cons_self))
theorem sums_loopF {R : Type} [Inhabited R] {S : Int × Int × Int → (Int × Int × Int) ⊕ R} {G : Int × Int → R} {L : List (Int × Int)} (hl : ∀ a ∈ L, okE a)
    (hS : ∀ (i : Nat) (a : Int × Int), L[i]? = some a → ∀ v1 v2 : Int, S (v1, v2, (i : Int)) = .inl (W (v1 + a.1), W (v2 + a.2), ((i + 1 : Nat) : Int)))
    (hE : ∀ v1 v2 : Int, S (v1, v2, (L.length : Int)) = .inr (G (v1, v2))) :
    ∀ (l : List (Int × Int)) (i n : Nat) (v : Int × Int), L.drop i = l → i ≤ L.length → l.length < n → okv v l.length → loopF S n (v.1, v.2, (i : Int)) = G (sums l v)
  | [], i, n, v, hd, hi', hn, h => by
    have : i = L.length := by have := List.drop_eq_nil_iff.1 hd; omega
    obtain ⟨n, rfl⟩ : ∃ m, n = m + 1 := ⟨n - 1, by simp only [List.length_nil] at hn; omega⟩
    subst this
    rw [loopF_inr (hE _ _)]; rfl
  | c :: l, i, n, v, hd, hi', hn, h => by
    have hc : L[i]? = some c := by
      have : (L.drop i)[0]? = some c := by rw [hd]; rfl
      simpa using this
    obtain ⟨hlt, hce⟩ := List.getElem?_eq_some_iff.1 hc
    obtain ⟨n, rfl⟩ : ∃ m, n = m + 1 := ⟨n - 1, by omega⟩
    have h1 := okv_add h (hl c (hce ▸ List.getElem_mem hlt))
    have h2 := h1
    unfold okv at h2; simp only at h2
    rw [loopF_inl (hS i c hc v.1 v.2), W_eq (by omega) (by omega), W_eq (by omega) (by omega)]
    exact sums_loopF hl hS hE l (i + 1) n _ (by rw [← List.drop_drop, hd]; rfl) (by omega) (by simp only [List.length_cons] at hn; omega) h1
section
variable {l : List (Int × Int)}
theorem okE_val {a : Int × Int} (h : okE a) : F129 a = true := val_f (a := a.1) (b := a.2) (by have := h.1; omega) h.2.1 (by have := h.2.2; omega)
theorem okv_len (hn : l.length ≤ 64) : okv (0, 0) l.length := by unfold okv; simp only; omega
theorem chkL (hl : ∀ a ∈ l, okE a) : F76_L l = 0 := by
  have key : ∀ (m : List (Int × Int)) (i n : Nat), l.drop i = m → i ≤ l.length → m.length < n → loopF (S76_L_0 l) n (i : Int) = 0 := by
    intro m
    induction m with
    | nil =>
      intro i n hd hi hn
      have : i = l.length := by have := List.drop_eq_nil_iff.1 hd; omega
      obtain ⟨n, rfl⟩ : ∃ m, n = m + 1 := ⟨n - 1, by simp only [List.length_nil] at hn; omega⟩
      subst this
      refine loopF_inr ?_
      simp only [S76_L_0]
      rw [decide_eq_false (Int.lt_irrefl _), cond_false]
    | cons c m ih =>
      intro i n hd hi hn
      have hc : l[i]? = some c := by
        have : (l.drop i)[0]? = some c := by rw [hd]; rfl
        simpa using this
      obtain ⟨hlt, hce⟩ := List.getElem?_eq_some_iff.1 hc
      obtain ⟨n, rfl⟩ : ∃ m, n = m + 1 := ⟨n - 1, by omega⟩
      have hg : l.getD i default = c := by rw [List.getD_eq_getElem?_getD, hc]; rfl
      have e : S76_L_0 l (i : Int) = .inl ((i + 1 : Nat) : Int) := by
        simp only [S76_L_0]
        rw [decide_eq_true (show ((i : Nat) : Int) < (l.length : Nat) by omega), cond_true, Int.toNat_natCast, hg, okE_val (hl c (hce ▸ List.getElem_mem hlt))]; rfl
      rw [loopF_inl e]
      exact ih (i + 1) n (by rw [← List.drop_drop, hd]; rfl) (by omega) (by simp only [List.length_cons] at hn; omega)
  unfold F76_L
  exact key l 0 _ rfl (Nat.zero_le _) (by omega)
theorem tot_f (hl : ∀ a ∈ l, okE a) (hn : l.length ≤ 64) : F127_L l = ((sums l (0, 0)).1, (sums l (0, 0)).2, 0) := by
  unfold F127_L
  rw [decide_eq_false (by omega), cond_false, chkL hl]
  show loopF _ _ (((0, 0) : Int × Int).1, ((0, 0) : Int × Int).2, ((0 : Nat) : Int)) = _
  refine sums_loopF (G := fun v => (v.1, v.2, 0)) hl (fun i a hi v1 v2 => ?_) (fun v1 v2 => ?_) l 0 _ (0, 0) rfl (Nat.zero_le _) (by omega) (okv_len hn)
  · obtain ⟨hlt, hce⟩ := List.getElem?_eq_some_iff.1 hi
    have hg : l.getD i default = a := by rw [List.getD_eq_getElem?_getD, hi]; rfl
    simp only [S127_L_0]
    rw [decide_eq_true (show ((i : Nat) : Int) < (l.length : Nat) by omega), cond_true, Int.toNat_natCast, hg]; rfl
  · simp only [S127_L_0]
    rw [decide_eq_false (Int.lt_irrefl _), cond_false]
theorem tot_r (hl : ∀ a ∈ l, okE a) (hn : l.length ≤ 64) : F128_L l = ((sums l (0, 0)).1, (sums l (0, 0)).2, 0) := by
  unfold F128_L
  rw [decide_eq_false (by omega), cond_false]
  show loopF _ _ (((0, 0) : Int × Int).1, ((0, 0) : Int × Int).2, ((0 : Nat) : Int)) = _
  refine sums_loopF (G := fun v => (v.1, v.2, 0)) hl (fun i a hi v1 v2 => ?_) (fun v1 v2 => ?_) l 0 _ (0, 0) rfl (Nat.zero_le _) (by omega) (okv_len hn)
  · obtain ⟨hlt, hce⟩ := List.getElem?_eq_some_iff.1 hi
    have hg : l.getD i default = a := by rw [List.getD_eq_getElem?_getD, hi]; rfl
    simp only [S128_L_0]
    rw [decide_eq_true (show ((i : Nat) : Int) < (l.length : Nat) by omega), cond_true, Int.toNat_natCast, hg, show F56 a = true from okE_val (hl a (hce ▸ List.getElem_mem hlt))]; rfl
  · simp only [S128_L_0]
    rw [decide_eq_false (Int.lt_irrefl _), cond_false]
theorem avg_bd {v : Int × Int} {n : Int} (hn : n = 1 ∨ n = 4 ∨ n = 16 ∨ n = 64) (h : okv v 0) : -1099511627776 ≤ v.1 / n ∧ v.1 / n ≤ -(-v.2 / n) ∧ -(-v.2 / n) ≤ 1099511627776 := by
  unfold okv at h; rcases hn with rfl | rfl | rfl | rfl <;> omega
theorem meanL_f (hl : ∀ a ∈ l, okE a) {n : Int} (hn : n = 1 ∨ n = 4 ∨ n = 16 ∨ n = 64) (hk : ((l.length : Nat) : Int) = n) : F74_L l = (avg (sums l (0, 0)) n, 0) := by
  have h64 : l.length ≤ 64 := by omega
  have ho := sums_ok hl (okv_len h64)
  have hb := avg_bd hn ho
  unfold okv at ho
  unfold F74_L
  rw [tot_f hl h64, hk, beq_eq_false_iff_ne.2 (show n ≠ 0 by omega), dn_f hn (by simp only; omega), up_f hn (by simp only; omega), res_f hb.1 hb.2.1 hb.2.2]; rfl
theorem meanL_r (hl : ∀ a ∈ l, okE a) {n : Int} (hn : n = 1 ∨ n = 4 ∨ n = 16 ∨ n = 64) (hk : ((l.length : Nat) : Int) = n) : F75_L l = (avg (sums l (0, 0)) n, 0) := by
  have h64 : l.length ≤ 64 := by omega
  have ho := sums_ok hl (okv_len h64)
  have hb := avg_bd hn ho
  unfold okv at ho
  unfold F75_L
  rw [tot_r hl h64, hk, beq_eq_false_iff_ne.2 (show n ≠ 0 by omega), dn_r hn (by simp only; omega), up_r hn (by simp only; omega), res_r hb.1 hb.2.1 hb.2.2]; rfl
end
/-! ### The mean over two panels -/
theorem accS_eq (lo hi : PN → Int) : ∀ (l : List PN) (v : Int × Int), accS lo hi l v = (v.1 + (l.map lo).sum, v.2 + (l.map hi).sum)
  | [], v => by simp [accS]
  | a :: l, v => by rw [accS, accS_eq lo hi l]; simp only [List.map_cons, List.sum_cons, Int.add_assoc]
theorem bet_ok {p q : PN} {d : Int} (hp : vp p = 0) (hd : 0 ≤ d ∧ d ≤ 3) : okE (betS p q d) := by
  have hb := b_ok (q := q) hp hd
  have hk := okv_0 (p := p) hd
  have ho := accS_ok hb hk
  have hs : (accS (bLo d q) (bHi (F54 p d) d q) (cutL d.toNat p) (0, 0)).2 ≤ 536870913 * (sc d * sc d) := by
    rw [accS_eq, ← cnt_len hd p]
    simp only [Int.zero_add]
    have key : ∀ l : List PN, (∀ c ∈ l, bHi (F54 p d) d q c ≤ 536870913) → (l.map (bHi (F54 p d) d q)).sum ≤ 536870913 * (l.length : Nat) := by
      intro l
      induction l with
      | nil => intro _; simp
      | cons c l ih =>
        intro h
        have h1 := h c List.mem_cons_self; have h2 := ih (fun c hc => h c (List.mem_cons_of_mem _ hc))
        simp only [List.map_cons, List.sum_cons, List.length_cons]; omega
    exact key _ (fun c hc => (hb c hc).2.2)
  unfold betS okE avg
  unfold okv at ho
  have hn := cnt_in d
  generalize accS (bLo d q) (bHi (F54 p d) d q) (cutL d.toNat p) (0, 0) = v at *
  simp only
  rcases hn with h | h | h | h <;> rw [h] at hs ⊢ <;> omega
theorem foldl_map {α β : Type} (g : α → β) : ∀ (l : List α) (a : List β), l.foldl (fun v x => v ++ [g x]) a = a ++ l.map g
  | [], a => by simp
  | x :: l, a => by rw [List.foldl_cons, foldl_map g l]; simp
noncomputable def mutL (p q : PN) (d : Int) : List (Int × Int) := (cutL d.toNat q).map fun b => betS p b d
noncomputable def mutV (p q : PN) (d : Int) : (Int × Int) × Int := if pk p q d = 0 then (avg (sums (mutL p q d) (0, 0)) (sc d * sc d), 0) else ((0, 0), pk p q d)
theorem mutL_ok {p q : PN} {d : Int} (hp : vp p = 0) (hd : 0 ≤ d ∧ d ≤ 3) : ∀ a ∈ mutL p q d, okE a := by
  intro a ha
  obtain ⟨b, _, rfl⟩ := List.mem_map.1 ha
  exact bet_ok hp hd
theorem mutL_len {p q : PN} {d : Int} (hd : 0 ≤ d ∧ d ≤ 3) : (((mutL p q d).length : Nat) : Int) = sc d * sc d := by
  unfold mutL; rw [List.length_map]; exact cnt_len hd q
theorem Mutual_f (p q : PN) (d : Int) : F32 p q d = mutV p q d := by
  unfold F32 mutV
  rw [pair_eq]
  by_cases h : pk p q d = 0
  · obtain ⟨h1, h2, h3⟩ := pk_ok h
    have hd : 0 ≤ d ∧ d ≤ 3 := by omega
    rw [if_pos h, h]
    have e : (cutL d.toNat q).foldl (S32_r p q d) [] = mutL p q d := by
      have := foldl_map (fun b => F63 p b d) (cutL d.toNat q) []
      rw [List.nil_append] at this
      refine Eq.trans this ?_
      unfold mutL
      exact List.map_congr_left (fun b hb => bet_f h1 ((cutL_in (vp_ok h2).1 hd hb).mono (by omega)) hd)
    rw [e]
    show (F74_L (mutL p q d)) = _
    exact meanL_f (mutL_ok h1 hd) (cnt_in d) (mutL_len hd)
  · rw [if_neg h, bne_iff_ne.2 h, cond_true]
theorem Mutual_r (p q : PN) (d : Int) : F33 p q d = mutV p q d := by
  unfold F33 mutV
  rw [paired_eq]
  by_cases h : pk p q d = 0
  · obtain ⟨h1, h2, h3⟩ := pk_ok h
    have hd : 0 ≤ d ∧ d ≤ 3 := by omega
    have hL := cutR (vp_ok h2).1 hd
    rw [if_pos h, h]
    have key : ∀ (m : List PN) (i n : Nat) (v : List (Int × Int)), (cutL d.toNat q).drop i = m → i ≤ (cutL d.toNat q).length → m.length < n →
        loopF (S33_0 p q d) n (v, (i : Int)) = F75_L (v ++ m.map fun b => betS p b d) := by
      intro m
      induction m with
      | nil =>
        intro i n v hdr hi hn
        have : i = (cutL d.toNat q).length := by have := List.drop_eq_nil_iff.1 hdr; omega
        obtain ⟨n, rfl⟩ : ∃ m, n = m + 1 := ⟨n - 1, by simp only [List.length_nil] at hn; omega⟩
        subst this
        refine loopF_inr ?_
        simp only [S33_0]
        rw [hL, decide_eq_false (Int.lt_irrefl _), cond_false, List.map_nil, List.append_nil]
      | cons c m ih =>
        intro i n v hdr hi hn
        have hc : (cutL d.toNat q)[i]? = some c := by
          have : ((cutL d.toNat q).drop i)[0]? = some c := by rw [hdr]; rfl
          simpa using this
        obtain ⟨hlt, hce⟩ := List.getElem?_eq_some_iff.1 hc
        have hm : c ∈ cutL d.toNat q := hce ▸ List.getElem_mem hlt
        obtain ⟨n, rfl⟩ : ∃ m, n = m + 1 := ⟨n - 1, by omega⟩
        have hg : (cutL d.toNat q).getD i default = c := by rw [List.getD_eq_getElem?_getD, hc]; rfl
        have e : S33_0 p q d (v, (i : Int)) = .inl (v ++ [betS p c d], ((i + 1 : Nat) : Int)) := by
          simp only [S33_0]
          rw [hL, decide_eq_true (show ((i : Nat) : Int) < ((cutL d.toNat q).length : Nat) by omega), cond_true, Int.toNat_natCast, hg, bet_r h1 ((cutL_in (vp_ok h2).1 hd hm).mono (by omega)) hd]; rfl
        rw [loopF_inl e, ih (i + 1) n _ (by rw [← List.drop_drop, hdr]; rfl) (by omega) (by simp only [List.length_cons] at hn; omega)]
        simp only [List.map_cons, List.append_assoc, List.singleton_append]
    show loopF (S33_0 p q d) _ ([], ((0 : Nat) : Int)) = _
    rw [key (cutL d.toNat q) 0 _ [] rfl (Nat.zero_le _) (by rw [hL]; omega), List.nil_append]
    exact meanL_r (mutL_ok h1 hd) (cnt_in d) (mutL_len hd)
  · rw [if_neg h, bne_iff_ne.2 h, cond_true]

end Go.Proofs.Ytjlekmjnkpcnoaa
