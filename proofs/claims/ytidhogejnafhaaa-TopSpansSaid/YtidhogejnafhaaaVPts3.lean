/-
  Parts of the proofs of the laws: the executor, what functions of the program compute, and that it is what the statements ask. No premise.
-/
import Derived.Test.YtidhogejnafhaaaVPts2
namespace Go.Proofs.Ytidhogejnafhaaa
open Go.Proofs Go.Aw Go.RowKit
set_option maxRecDepth 100000
set_option linter.unusedVariables false
set_option linter.unusedSimpArgs false

/-! ### Sums of lists of spans -/
def okw (v : Int × Int) (n : Nat) : Prop := (-4611686018427387904 + 1099511627776 * n ≤ v.1 ∧ v.1 + 1099511627776 * n ≤ 4611686018427387904) ∧ (-4611686018427387904 + 1099511627776 * n ≤ v.2 ∧ v.2 + 1099511627776 * n ≤ 4611686018427387904)
theorem okw_next {v a : Int × Int} {n : Nat} (h : okw v (n + 1)) (ha : vs a) : okw (v.1 + a.1, v.2 + a.2) n := by unfold okw vs at *; simp only; omega
theorem okw_W {v : Int × Int} {n : Nat} (h : okw v n) : W v.1 = v.1 ∧ W v.2 = v.2 := by unfold okw at h; exact ⟨W_eq (by omega) (by omega), W_eq (by omega) (by omega)⟩
theorem okw_0 {n : Nat} (h : n ≤ 10000) : okw (0, 0) n := by unfold okw; simp only; omega
theorem sumw_loopF {R : Type} [Inhabited R] {S : Int × Int × Int → (Int × Int × Int) ⊕ R} {G : Int × Int → R} {L : List (Int × Int)} (hl : ∀ a ∈ L, vs a)
    (hS : ∀ (i : Nat) (a : Int × Int), L[i]? = some a → ∀ v1 v2 : Int, S (v1, v2, (i : Int)) = .inl (W (v1 + a.1), W (v2 + a.2), ((i + 1 : Nat) : Int)))
    (hE : ∀ v1 v2 : Int, S (v1, v2, (L.length : Int)) = .inr (G (v1, v2))) :
    ∀ (l : List (Int × Int)) (i n : Nat) (v : Int × Int), L.drop i = l → i ≤ L.length → l.length < n → okw v l.length → loopF S n (v.1, v.2, (i : Int)) = G (sums l v) := by
  intro l
  induction l with
  | nil =>
    intro i n v hd hi' hn h
    have : i = L.length := by have := List.drop_eq_nil_iff.1 hd; omega
    obtain ⟨n, rfl⟩ : ∃ m, n = m + 1 := ⟨n - 1, by simp only [List.length_nil] at hn; omega⟩
    subst this
    rw [loopF_inr (hE _ _)]; rfl
  | cons c l ih =>
    intro i n v hd hi' hn h
    have hc : L[i]? = some c := by
      have : (L.drop i)[0]? = some c := by rw [hd]; rfl
      simpa using this
    obtain ⟨hlt, hce⟩ := List.getElem?_eq_some_iff.1 hc
    obtain ⟨n, rfl⟩ : ∃ m, n = m + 1 := ⟨n - 1, by omega⟩
    have h1 : okw (v.1 + c.1, v.2 + c.2) l.length := okw_next h (hl c (hce ▸ List.getElem_mem hlt))
    have hw := okw_W h1
    simp only at hw
    rw [loopF_inl (hS i c hc v.1 v.2), hw.1, hw.2]
    exact ih (i + 1) n (v.1 + c.1, v.2 + c.2) (by rw [← List.drop_drop, hd]; rfl) (by omega) (by simp only [List.length_cons] at hn; omega) h1
section
variable {l : List (Int × Int)}
theorem vs_val {a : Int × Int} (h : vs a) : F51 a = true := val_f (a := a.1) (b := a.2) h.1 h.2.1 h.2.2
theorem chkW (hl : ∀ a ∈ l, vs a) : F30_L l = 0 := by
  have key : ∀ (m : List (Int × Int)) (i n : Nat), l.drop i = m → i ≤ l.length → m.length < n → loopF (S30_L_0 l) n (i : Int) = 0 := by
    intro m
    induction m with
    | nil =>
      intro i n hd hi hn
      have : i = l.length := by have := List.drop_eq_nil_iff.1 hd; omega
      obtain ⟨n, rfl⟩ : ∃ m, n = m + 1 := ⟨n - 1, by simp only [List.length_nil] at hn; omega⟩
      subst this
      refine loopF_inr ?_
      simp only [S30_L_0]
      rw [decide_eq_false (Int.lt_irrefl _), cond_false]
    | cons c m ih =>
      intro i n hd hi hn
      have hc : l[i]? = some c := by
        have : (l.drop i)[0]? = some c := by rw [hd]; rfl
        simpa using this
      obtain ⟨hlt, hce⟩ := List.getElem?_eq_some_iff.1 hc
      obtain ⟨n, rfl⟩ : ∃ m, n = m + 1 := ⟨n - 1, by omega⟩
      have hg : l.getD i default = c := by rw [List.getD_eq_getElem?_getD, hc]; rfl
      have e : S30_L_0 l (i : Int) = .inl ((i + 1 : Nat) : Int) := by
        simp only [S30_L_0]
        rw [decide_eq_true (show ((i : Nat) : Int) < (l.length : Nat) by omega), cond_true, Int.toNat_natCast, hg, vs_val (hl c (hce ▸ List.getElem_mem hlt))]; rfl
      rw [loopF_inl e]
      exact ih (i + 1) n (by rw [← List.drop_drop, hd]; rfl) (by omega) (by simp only [List.length_cons] at hn; omega)
  unfold F30_L
  exact key l 0 _ rfl (Nat.zero_le _) (by omega)
theorem totw_f (hl : ∀ a ∈ l, vs a) (hn : l.length ≤ 10000) : F34_L l = ((sums l (0, 0)).1, (sums l (0, 0)).2, 0) := by
  unfold F34_L
  rw [decide_eq_false (by omega), cond_false, chkW hl]
  show loopF _ _ (((0, 0) : Int × Int).1, ((0, 0) : Int × Int).2, ((0 : Nat) : Int)) = _
  refine sumw_loopF (G := fun v => (v.1, v.2, 0)) hl (fun i a hi v1 v2 => ?_) (fun v1 v2 => ?_) l 0 _ (0, 0) rfl (Nat.zero_le _) (by omega) (okw_0 hn)
  · obtain ⟨hlt, hce⟩ := List.getElem?_eq_some_iff.1 hi
    have hg : l.getD i default = a := by rw [List.getD_eq_getElem?_getD, hi]; rfl
    simp only [S34_L_0]
    rw [decide_eq_true (show ((i : Nat) : Int) < (l.length : Nat) by omega), cond_true, Int.toNat_natCast, hg]; rfl
  · simp only [S34_L_0]
    rw [decide_eq_false (Int.lt_irrefl _), cond_false]
/-- the least span of the sums, or an error -/
noncomputable def sumV (l : List (Int × Int)) : (Int × Int) × Int := F26 (sums l (0, 0)).1 (sums l (0, 0)).2
theorem Sum_f (hl : ∀ a ∈ l, vs a) (hn : l.length ≤ 10000) : F11_L l = sumV l := by
  unfold F11_L
  rw [totw_f hl hn]; rfl
end
theorem sumV_0 {l : List (Int × Int)} (h : (sumV l).2 = 0) : sumV l = (sums l (0, 0), 0) ∧ vs (sums l (0, 0)) := by
  unfold sumV at *
  rcases res_cases (sums l (0, 0)).1 (sums l (0, 0)).2 with ⟨h1, h2⟩ | h1
  · exact ⟨h1, h2⟩
  · rw [h1] at h; exact absurd h (by decide)
end Go.Proofs.Ytidhogejnafhaaa

namespace Go.Proofs.Ytidhogejnafhaaa
open Go.Proofs Go.Aw Go.RowKit
set_option maxRecDepth 100000
set_option linter.unusedVariables false
set_option linter.unusedSimpArgs false

/-- facet/span.operations$4 -/
def F69 (a0 : Int × Int) : Int :=
  (bif (decide ((a0.1 : Int) ≤ 0)) then
   (bif (decide ((a0.2 : Int) ≥ 0)) then
    11
   else
    0)
  else
   0)

theorem C69 (a0 : Int × Int) : Con Try.prog 69 [(.a [(iv a0.1), (iv a0.2)])] [] (iv (F69 a0)) [] := by
  refine con_s Try.func69 (by kernel_rfl) fun cx hcx => ?_
  cases h0 : (decide ((a0.1 : Int) ≤ 0)) with
  | true =>
   have q0 := of_decide_eq_true h0
   let t1 : List (St Try.prog) := [.d h0]
   cases h1 : (decide ((a0.2 : Int) ≥ 0)) with
   | true =>
    have q1 := of_decide_eq_true h1
    have e := Eq.refl (F69 a0); conv at e => rhs; simp only [F69, h0, h1, cond_true, cond_false]
    rw [e]
    exact rt (t1 ++ [.d h1]) [] [] hcx (by kernel_rfl)
   | false =>
    have q1 := of_decide_eq_false h1
    have e := Eq.refl (F69 a0); conv at e => rhs; simp only [F69, h0, h1, cond_true, cond_false]
    rw [e]
    exact rt (t1 ++ [.d h1]) [] [] hcx (by kernel_rfl)
  | false =>
   have q0 := of_decide_eq_false h0
   have e := Eq.refl (F69 a0); conv at e => rhs; simp only [F69, h0, cond_true, cond_false]
   rw [e]
   exact rt [.d h0] [] [] hcx (by kernel_rfl)

theorem div_nz {a b : Int × Int} (h0 : (((F30_2 (a, b)) : Int) != 0) = false) (h1 : (((F69 b) : Int) != 0) = false) : b.1 ≠ 0 ∧ b.2 ≠ 0 := by
  have e0 := bne_eq_false_iff_eq.1 h0
  have e1 := bne_eq_false_iff_eq.1 h1
  unfold F30_2 at e0
  have hv : F51 b = true := by
    cases h2 : F51 a
    · rw [h2] at e0; simp at e0
    · cases h3 : F51 b
      · rw [h2, h3] at e0; simp at e0
      · rfl
  unfold F51 at hv
  unfold F69 at e1
  by_cases c1 : b.1 ≥ -1099511627776
  · by_cases c2 : b.1 ≤ b.2
    · by_cases c3 : b.1 ≤ 0
      · by_cases c4 : b.2 ≥ 0
        · rw [decide_eq_true c3, decide_eq_true c4] at e1; simp at e1
        · omega
      · omega
    · rw [decide_eq_true c1, decide_eq_false c2] at hv; simp at hv
  · rw [decide_eq_false c1] at hv; simp at hv

/-- facet/span.Quotient -/
def F6 (a0 : Int) (a1 : Int) : (Int × Int) × Int :=
  (bif (!(F25 a0)) then
   ((0, 0), 1)
  else
   (bif (!(F25 a1)) then
    ((0, 0), 1)
   else
    (bif ((a1 : Int) == 0) then
     ((0, 0), 1)
    else
     ((F26 (F27 (W (a0 * 1048576)) a1) (F28 (W (a0 * 1048576)) a1)).1, (F26 (F27 (W (a0 * 1048576)) a1) (F28 (W (a0 * 1048576)) a1)).2))))

theorem C6 (a0 : Int) (a1 : Int) : Con Try.prog 6 [(iv a0), (iv a1)] [] (.t [(.a (k2 (F6 a0 a1).1)), (iv (F6 a0 a1).2)]) [] := by
  refine con_s Try.func6 (by kernel_rfl) fun cx hcx => ?_
  let t0 : List (St Try.prog) := [.c [] (C25 a0)]
  cases h0 : (!(F25 a0)) with
  | true =>
   have e := Eq.refl (F6 a0 a1); conv at e => rhs; simp only [F6, h0, cond_true, cond_false]
   rw [e]
   exact rt (t0 ++ [.d h0]) [] [] hcx (by kernel_rfl)
  | false =>
   let t1 : List (St Try.prog) := (t0 ++ [.d h0, .c [] (C25 a1)])
   cases h1 : (!(F25 a1)) with
   | true =>
    have e := Eq.refl (F6 a0 a1); conv at e => rhs; simp only [F6, h0, h1, cond_true, cond_false]
    rw [e]
    exact rt (t1 ++ [.d h1]) [] [] hcx (by kernel_rfl)
   | false =>
    let t2 : List (St Try.prog) := (t1 ++ [.d h1])
    cases h2 : ((a1 : Int) == 0) with
    | true =>
     have q2 := eq_of_beq h2
     have e := Eq.refl (F6 a0 a1); conv at e => rhs; simp only [F6, h0, h1, h2, cond_true, cond_false]
     rw [e]
     exact rt (t2 ++ [.d h2]) [] [] hcx (by kernel_rfl)
    | false =>
     have q2 := ne_of_beq_false h2
     have e := Eq.refl (F6 a0 a1); conv at e => rhs; simp only [F6, h0, h1, h2, cond_true, cond_false]
     rw [e]
     exact rt (t2 ++ [.d h2, .c [] (C27 (W (a0 * 1048576)) a1  (by (try simp only [List.length_append, List.length_cons, List.length_nil, Int.toNat_zero]); omega)), .c [] (C28 (W (a0 * 1048576)) a1  (by (try simp only [List.length_append, List.length_cons, List.length_nil, Int.toNat_zero]); omega)), .c [] (C26 (F27 (W (a0 * 1048576)) a1) (F28 (W (a0 * 1048576)) a1))]) [] [] hcx (by kernel_rfl)

def kc5 (n : Int) : SV := .v (.int .u8 n)
theorem K5 : KeyOK T0 5 kc5 := intKey (fun _ => by kernel_rfl) (fun _ _ => by kernel_rfl)

/-- facet/span.operations -/
theorem C52 : Con Try.prog 52 [] [] (.m 0) [(.map (mapE kc5 (fun x => x) [(43, (.a [(.v (.func (.func 64) #[] #[])), (.v (.func (.func 65) #[] #[]))])), (45, (.a [(.v (.func (.func 64) #[] #[])), (.v (.func (.func 66) #[] #[]))])), (42, (.a [(.v (.func (.func 64) #[] #[])), (.v (.func (.func 67) #[] #[]))])), (47, (.a [(.v (.func (.func 69) #[] #[])), (.v (.func (.func 70) #[] #[]))]))]))] := by
  refine con_s Try.func52 (by kernel_rfl) fun cx hcx => ?_
  exact rt [.mPl K5 [] 43 (.a [(.v (.func (.func 64) #[] #[])), (.v (.func (.func 65) #[] #[]))]), .mPl K5 [(43, (.a [(.v (.func (.func 64) #[] #[])), (.v (.func (.func 65) #[] #[]))]))] 45 (.a [(.v (.func (.func 64) #[] #[])), (.v (.func (.func 66) #[] #[]))]), .mPl K5 [(43, (.a [(.v (.func (.func 64) #[] #[])), (.v (.func (.func 65) #[] #[]))])), (45, (.a [(.v (.func (.func 64) #[] #[])), (.v (.func (.func 66) #[] #[]))]))] 42 (.a [(.v (.func (.func 64) #[] #[])), (.v (.func (.func 67) #[] #[]))]), .mPl K5 [(43, (.a [(.v (.func (.func 64) #[] #[])), (.v (.func (.func 65) #[] #[]))])), (45, (.a [(.v (.func (.func 64) #[] #[])), (.v (.func (.func 66) #[] #[]))])), (42, (.a [(.v (.func (.func 64) #[] #[])), (.v (.func (.func 67) #[] #[]))]))] 47 (.a [(.v (.func (.func 69) #[] #[])), (.v (.func (.func 70) #[] #[]))])] [] [0] hcx (by kernel_rfl)

/-- facet/span.allowed -/
def F64 (a0 : Int × Int) : Int :=
  0

theorem C64 (a0 : Int × Int) : Con Try.prog 64 [(.a [(iv a0.1), (iv a0.2)])] [] (iv (F64 a0)) [] := by
  refine con_s Try.func64 (by kernel_rfl) fun cx hcx => ?_
  have e := Eq.refl (F64 a0); conv at e => rhs; simp only [F64]
  rw [e]
  exact rt [] [] [] hcx (by kernel_rfl)

/-- facet/span.operations$1 -/
def F65 (a0 : Int × Int) (a1 : Int × Int) : Int × Int :=
  ((W (a0.1 + a1.1)), (W (a0.2 + a1.2)))

theorem C65 (a0 : Int × Int) (a1 : Int × Int) : Con Try.prog 65 [(.a [(iv a0.1), (iv a0.2)]), (.a [(iv a1.1), (iv a1.2)])] [] (.t (k2 (F65 a0 a1))) [] := by
  refine con_s Try.func65 (by kernel_rfl) fun cx hcx => ?_
  have e := Eq.refl (F65 a0 a1); conv at e => rhs; simp only [F65]
  rw [e]
  exact rt [] [] [] hcx (by kernel_rfl)

/-- facet/span.apply at ('k43',) -/
def F29_k43 (a1 : Int × Int) (a2 : Int × Int) : (Int × Int) × Int :=
  (bif (((F30_2 (a1, a2)) : Int) != 0) then
   ((0, 0), (F30_2 (a1, a2)))
  else
   (bif (((F64 a2) : Int) != 0) then
    ((0, 0), (F64 a2))
   else
    ((F26 (F65 a1 a2).1 (F65 a1 a2).2).1, (F26 (F65 a1 a2).1 (F65 a1 a2).2).2)))

theorem C29_k43 (a1 : Int × Int) (a2 : Int × Int) : Con Try.prog 29 [(.v (.int .u8 43)), (.a [(iv a1.1), (iv a1.2)]), (.a [(iv a2.1), (iv a2.2)])] [] (.t [(.a (k2 (F29_k43 a1 a2).1)), (iv (F29_k43 a1 a2).2)]) [] := by
  refine con_s Try.func29 (by kernel_rfl) fun cx hcx => ?_
  let t0 : List (St Try.prog) := [.c [3] (C30_2 (a1, a2))]
  cases h0 : (((F30_2 (a1, a2)) : Int) != 0) with
  | true =>
   have q0 := bne_iff_ne.1 h0
   have e := Eq.refl (F29_k43 a1 a2); conv at e => rhs; simp only [F29_k43, h0, cond_true, cond_false]
   rw [e]
   exact rt (t0 ++ [.d h0]) [] [] hcx (by kernel_rfl)
  | false =>
   have q0 := bne_eq_false_iff_eq.1 h0
   let t1 : List (St Try.prog) := (t0 ++ [.d h0, .c [] (C52), .mG K5 (fun x => x) [(43, (.a [(.v (.func (.func 64) #[] #[])), (.v (.func (.func 65) #[] #[]))])), (45, (.a [(.v (.func (.func 64) #[] #[])), (.v (.func (.func 66) #[] #[]))])), (42, (.a [(.v (.func (.func 64) #[] #[])), (.v (.func (.func 67) #[] #[]))])), (47, (.a [(.v (.func (.func 69) #[] #[])), (.v (.func (.func 70) #[] #[]))]))] 43 (.a [(.v .nilFunc), (.v .nilFunc)]), .c [] (C64 a2)])
   cases h1 : (((F64 a2) : Int) != 0) with
   | true =>
    have q1 := bne_iff_ne.1 h1
    have e := Eq.refl (F29_k43 a1 a2); conv at e => rhs; simp only [F29_k43, h0, h1, cond_true, cond_false]
    rw [e]
    exact rt (t1 ++ [.d h1]) [] [] hcx (by kernel_rfl)
   | false =>
    have q1 := bne_eq_false_iff_eq.1 h1
    have e := Eq.refl (F29_k43 a1 a2); conv at e => rhs; simp only [F29_k43, h0, h1, cond_true, cond_false]
    rw [e]
    exact rt (t1 ++ [.d h1, .c [] (C65 a1 a2), .c [] (C26 (F65 a1 a2).1 (F65 a1 a2).2)]) [] [] hcx (by kernel_rfl)

/-- facet/span.Add -/
def F7 (a0 : Int × Int) (a1 : Int × Int) : (Int × Int) × Int :=
  ((F29_k43 a0 a1).1, (F29_k43 a0 a1).2)

theorem C7 (a0 : Int × Int) (a1 : Int × Int) : Con Try.prog 7 [(.a [(iv a0.1), (iv a0.2)]), (.a [(iv a1.1), (iv a1.2)])] [] (.t [(.a (k2 (F7 a0 a1).1)), (iv (F7 a0 a1).2)]) [] := by
  refine con_s Try.func7 (by kernel_rfl) fun cx hcx => ?_
  have e := Eq.refl (F7 a0 a1); conv at e => rhs; simp only [F7]
  rw [e]
  exact rt [.c [] (C29_k43 a0 a1)] [] [] hcx (by kernel_rfl)

/-- facet/span.timesDown -/
def F31 (a0 : Int) (a1 : Int) : Int :=
  (W ((W ((Int.fdiv a0 (2 ^ (min (Int.toNat 20) 64))) * a1)) + (Int.fdiv (W ((W ((BitVec.ofInt 64 a0 &&& BitVec.ofInt 64 1048575).toNat : Int)) * a1)) (2 ^ (min (Int.toNat 20) 64)))))

theorem C31 (a0 : Int) (a1 : Int) : Con Try.prog 31 [(iv a0), (iv a1)] [] (iv (F31 a0 a1)) [] := by
  refine con_s Try.func31 (by kernel_rfl) fun cx hcx => ?_
  have e := Eq.refl (F31 a0 a1); conv at e => rhs; simp only [F31]
  rw [e]
  exact rt [.p (show 0 ≤ (20 : Int) from by decide), .p (show 0 ≤ (20 : Int) from by decide)] [] [] hcx (by kernel_rfl)

/-- facet/span.timesUp -/
def F32 (a0 : Int) (a1 : Int) : Int :=
  (W (0 - (F31 (W (0 - a0)) a1)))

theorem C32 (a0 : Int) (a1 : Int) : Con Try.prog 32 [(iv a0), (iv a1)] [] (iv (F32 a0 a1)) [] := by
  refine con_s Try.func32 (by kernel_rfl) fun cx hcx => ?_
  have e := Eq.refl (F32 a0 a1); conv at e => rhs; simp only [F32]
  rw [e]
  exact rt [.c [] (C31 (W (0 - a0)) a1)] [] [] hcx (by kernel_rfl)

/-- facet/span.Square -/
def F8 (a0 : Int × Int) : (Int × Int) × Int :=
  (bif (((F30_1 a0) : Int) != 0) then
   ((0, 0), (F30_1 a0))
  else
   ((F26 (F31 (imx (imx a0.1 (W (0 - a0.2))) 0) (imx (imx a0.1 (W (0 - a0.2))) 0)) (F32 (imx a0.2 (W (0 - a0.1))) (imx a0.2 (W (0 - a0.1))))).1, (F26 (F31 (imx (imx a0.1 (W (0 - a0.2))) 0) (imx (imx a0.1 (W (0 - a0.2))) 0)) (F32 (imx a0.2 (W (0 - a0.1))) (imx a0.2 (W (0 - a0.1))))).2))

theorem C8 (a0 : Int × Int) : Con Try.prog 8 [(.a [(iv a0.1), (iv a0.2)])] [] (.t [(.a (k2 (F8 a0).1)), (iv (F8 a0).2)]) [] := by
  refine con_s Try.func8 (by kernel_rfl) fun cx hcx => ?_
  let t0 : List (St Try.prog) := [.c [2] (C30_1 a0)]
  cases h0 : (((F30_1 a0) : Int) != 0) with
  | true =>
   have q0 := bne_iff_ne.1 h0
   have e := Eq.refl (F8 a0); conv at e => rhs; simp only [F8, h0, cond_true, cond_false]
   rw [e]
   exact rt (t0 ++ [.d h0]) [] [] hcx (by kernel_rfl)
  | false =>
   have q0 := bne_eq_false_iff_eq.1 h0
   have e := Eq.refl (F8 a0); conv at e => rhs; simp only [F8, h0, cond_true, cond_false]
   rw [e]
   exact rt (t0 ++ [.d h0, .c [] (C31 (imx (imx a0.1 (W (0 - a0.2))) 0) (imx (imx a0.1 (W (0 - a0.2))) 0)), .c [] (C32 (imx a0.2 (W (0 - a0.1))) (imx a0.2 (W (0 - a0.1)))), .c [] (C26 (F31 (imx (imx a0.1 (W (0 - a0.2))) 0) (imx (imx a0.1 (W (0 - a0.2))) 0)) (F32 (imx a0.2 (W (0 - a0.1))) (imx a0.2 (W (0 - a0.1)))))]) [] [] hcx (by kernel_rfl)

/-- facet/span.corners at ('f31', 'f32') -/
def F68_f31_f32 (a0 : Int × Int) (a1 : Int × Int) : Int × Int :=
  ((imn (imn (imn (F31 a0.1 a1.1) (F31 a0.1 a1.2)) (F31 a0.2 a1.1)) (F31 a0.2 a1.2)), (imx (imx (imx (F32 a0.1 a1.1) (F32 a0.1 a1.2)) (F32 a0.2 a1.1)) (F32 a0.2 a1.2)))

theorem C68_f31_f32 (a0 : Int × Int) (a1 : Int × Int) : Con Try.prog 68 [(.a [(iv a0.1), (iv a0.2)]), (.a [(iv a1.1), (iv a1.2)]), (.v (.func (.func 31) #[] #[])), (.v (.func (.func 32) #[] #[]))] [] (.t (k2 (F68_f31_f32 a0 a1))) [] := by
  refine con_s Try.func68 (by kernel_rfl) fun cx hcx => ?_
  have e := Eq.refl (F68_f31_f32 a0 a1); conv at e => rhs; simp only [F68_f31_f32]
  rw [e]
  exact rt [.c [] (C31 a0.1 a1.1), .c [] (C31 a0.1 a1.2), .c [] (C31 a0.2 a1.1), .c [] (C31 a0.2 a1.2), .c [] (C32 a0.1 a1.1), .c [] (C32 a0.1 a1.2), .c [] (C32 a0.2 a1.1), .c [] (C32 a0.2 a1.2)] [] [] hcx (by kernel_rfl)

/-- facet/span.operations$3 -/
def F67 (a0 : Int × Int) (a1 : Int × Int) : Int × Int :=
  ((F68_f31_f32 a0 a1).1, (F68_f31_f32 a0 a1).2)

theorem C67 (a0 : Int × Int) (a1 : Int × Int) : Con Try.prog 67 [(.a [(iv a0.1), (iv a0.2)]), (.a [(iv a1.1), (iv a1.2)])] [] (.t (k2 (F67 a0 a1))) [] := by
  refine con_s Try.func67 (by kernel_rfl) fun cx hcx => ?_
  have e := Eq.refl (F67 a0 a1); conv at e => rhs; simp only [F67]
  rw [e]
  exact rt [.c [] (C68_f31_f32 a0 a1)] [] [] hcx (by kernel_rfl)

/-- facet/span.apply at ('k42',) -/
def F29_k42 (a1 : Int × Int) (a2 : Int × Int) : (Int × Int) × Int :=
  (bif (((F30_2 (a1, a2)) : Int) != 0) then
   ((0, 0), (F30_2 (a1, a2)))
  else
   (bif (((F64 a2) : Int) != 0) then
    ((0, 0), (F64 a2))
   else
    ((F26 (F67 a1 a2).1 (F67 a1 a2).2).1, (F26 (F67 a1 a2).1 (F67 a1 a2).2).2)))

theorem C29_k42 (a1 : Int × Int) (a2 : Int × Int) : Con Try.prog 29 [(.v (.int .u8 42)), (.a [(iv a1.1), (iv a1.2)]), (.a [(iv a2.1), (iv a2.2)])] [] (.t [(.a (k2 (F29_k42 a1 a2).1)), (iv (F29_k42 a1 a2).2)]) [] := by
  refine con_s Try.func29 (by kernel_rfl) fun cx hcx => ?_
  let t0 : List (St Try.prog) := [.c [3] (C30_2 (a1, a2))]
  cases h0 : (((F30_2 (a1, a2)) : Int) != 0) with
  | true =>
   have q0 := bne_iff_ne.1 h0
   have e := Eq.refl (F29_k42 a1 a2); conv at e => rhs; simp only [F29_k42, h0, cond_true, cond_false]
   rw [e]
   exact rt (t0 ++ [.d h0]) [] [] hcx (by kernel_rfl)
  | false =>
   have q0 := bne_eq_false_iff_eq.1 h0
   let t1 : List (St Try.prog) := (t0 ++ [.d h0, .c [] (C52), .mG K5 (fun x => x) [(43, (.a [(.v (.func (.func 64) #[] #[])), (.v (.func (.func 65) #[] #[]))])), (45, (.a [(.v (.func (.func 64) #[] #[])), (.v (.func (.func 66) #[] #[]))])), (42, (.a [(.v (.func (.func 64) #[] #[])), (.v (.func (.func 67) #[] #[]))])), (47, (.a [(.v (.func (.func 69) #[] #[])), (.v (.func (.func 70) #[] #[]))]))] 42 (.a [(.v .nilFunc), (.v .nilFunc)]), .c [] (C64 a2)])
   cases h1 : (((F64 a2) : Int) != 0) with
   | true =>
    have q1 := bne_iff_ne.1 h1
    have e := Eq.refl (F29_k42 a1 a2); conv at e => rhs; simp only [F29_k42, h0, h1, cond_true, cond_false]
    rw [e]
    exact rt (t1 ++ [.d h1]) [] [] hcx (by kernel_rfl)
   | false =>
    have q1 := bne_eq_false_iff_eq.1 h1
    have e := Eq.refl (F29_k42 a1 a2); conv at e => rhs; simp only [F29_k42, h0, h1, cond_true, cond_false]
    rw [e]
    exact rt (t1 ++ [.d h1, .c [] (C67 a1 a2), .c [] (C26 (F67 a1 a2).1 (F67 a1 a2).2)]) [] [] hcx (by kernel_rfl)

/-- facet/span.Mul -/
def F9 (a0 : Int × Int) (a1 : Int × Int) : (Int × Int) × Int :=
  ((F29_k42 a0 a1).1, (F29_k42 a0 a1).2)

theorem C9 (a0 : Int × Int) (a1 : Int × Int) : Con Try.prog 9 [(.a [(iv a0.1), (iv a0.2)]), (.a [(iv a1.1), (iv a1.2)])] [] (.t [(.a (k2 (F9 a0 a1).1)), (iv (F9 a0 a1).2)]) [] := by
  refine con_s Try.func9 (by kernel_rfl) fun cx hcx => ?_
  have e := Eq.refl (F9 a0 a1); conv at e => rhs; simp only [F9]
  rw [e]
  exact rt [.c [] (C29_k42 a0 a1)] [] [] hcx (by kernel_rfl)

/-- facet/span.operations$5$1 -/
def F71 (a0 : Int) (a1 : Int) : Int :=
  (F27 (W (a0 * 1048576)) a1)

theorem C71 (a0 : Int) (a1 : Int) (ha : a1 ≠ 0) : Con Try.prog 71 [(iv a0), (iv a1)] [] (iv (F71 a0 a1)) [] := by
  refine con_s Try.func71 (by kernel_rfl) fun cx hcx => ?_
  have e := Eq.refl (F71 a0 a1); conv at e => rhs; simp only [F71]
  rw [e]
  exact rt [.c [] (C27 (W (a0 * 1048576)) a1  ha)] [] [] hcx (by kernel_rfl)

/-- facet/span.operations$5$2 -/
def F72 (a0 : Int) (a1 : Int) : Int :=
  (F28 (W (a0 * 1048576)) a1)

theorem C72 (a0 : Int) (a1 : Int) (ha : a1 ≠ 0) : Con Try.prog 72 [(iv a0), (iv a1)] [] (iv (F72 a0 a1)) [] := by
  refine con_s Try.func72 (by kernel_rfl) fun cx hcx => ?_
  have e := Eq.refl (F72 a0 a1); conv at e => rhs; simp only [F72]
  rw [e]
  exact rt [.c [] (C28 (W (a0 * 1048576)) a1  ha)] [] [] hcx (by kernel_rfl)

/-- facet/span.corners at ('f71', 'f72') -/
def F68_f71_f72 (a0 : Int × Int) (a1 : Int × Int) : Int × Int :=
  ((imn (imn (imn (F71 a0.1 a1.1) (F71 a0.1 a1.2)) (F71 a0.2 a1.1)) (F71 a0.2 a1.2)), (imx (imx (imx (F72 a0.1 a1.1) (F72 a0.1 a1.2)) (F72 a0.2 a1.1)) (F72 a0.2 a1.2)))

theorem C68_f71_f72 (a0 : Int × Int) (a1 : Int × Int) (hb : a1.1 ≠ 0 ∧ a1.2 ≠ 0) : Con Try.prog 68 [(.a [(iv a0.1), (iv a0.2)]), (.a [(iv a1.1), (iv a1.2)]), (.v (.func (.func 71) #[] #[])), (.v (.func (.func 72) #[] #[]))] [] (.t (k2 (F68_f71_f72 a0 a1))) [] := by
  refine con_s Try.func68 (by kernel_rfl) fun cx hcx => ?_
  have e := Eq.refl (F68_f71_f72 a0 a1); conv at e => rhs; simp only [F68_f71_f72]
  rw [e]
  exact rt [.c [] (C71 a0.1 a1.1  (by first | exact hb.1 | exact hb.2)), .c [] (C71 a0.1 a1.2  (by first | exact hb.1 | exact hb.2)), .c [] (C71 a0.2 a1.1  (by first | exact hb.1 | exact hb.2)), .c [] (C71 a0.2 a1.2  (by first | exact hb.1 | exact hb.2)), .c [] (C72 a0.1 a1.1  (by first | exact hb.1 | exact hb.2)), .c [] (C72 a0.1 a1.2  (by first | exact hb.1 | exact hb.2)), .c [] (C72 a0.2 a1.1  (by first | exact hb.1 | exact hb.2)), .c [] (C72 a0.2 a1.2  (by first | exact hb.1 | exact hb.2))] [] [] hcx (by kernel_rfl)

/-- facet/span.operations$5 -/
def F70 (a0 : Int × Int) (a1 : Int × Int) : Int × Int :=
  ((F68_f71_f72 a0 a1).1, (F68_f71_f72 a0 a1).2)

theorem C70 (a0 : Int × Int) (a1 : Int × Int) (hb : a1.1 ≠ 0 ∧ a1.2 ≠ 0) : Con Try.prog 70 [(.a [(iv a0.1), (iv a0.2)]), (.a [(iv a1.1), (iv a1.2)])] [] (.t (k2 (F70 a0 a1))) [] := by
  refine con_s Try.func70 (by kernel_rfl) fun cx hcx => ?_
  have e := Eq.refl (F70 a0 a1); conv at e => rhs; simp only [F70]
  rw [e]
  exact rt [.c [] (C68_f71_f72 a0 a1  hb)] [] [] hcx (by kernel_rfl)

/-- facet/span.apply at ('k47',) -/
def F29_k47 (a1 : Int × Int) (a2 : Int × Int) : (Int × Int) × Int :=
  (bif (((F30_2 (a1, a2)) : Int) != 0) then
   ((0, 0), (F30_2 (a1, a2)))
  else
   (bif (((F69 a2) : Int) != 0) then
    ((0, 0), (F69 a2))
   else
    ((F26 (F70 a1 a2).1 (F70 a1 a2).2).1, (F26 (F70 a1 a2).1 (F70 a1 a2).2).2)))

theorem C29_k47 (a1 : Int × Int) (a2 : Int × Int) : Con Try.prog 29 [(.v (.int .u8 47)), (.a [(iv a1.1), (iv a1.2)]), (.a [(iv a2.1), (iv a2.2)])] [] (.t [(.a (k2 (F29_k47 a1 a2).1)), (iv (F29_k47 a1 a2).2)]) [] := by
  refine con_s Try.func29 (by kernel_rfl) fun cx hcx => ?_
  let t0 : List (St Try.prog) := [.c [3] (C30_2 (a1, a2))]
  cases h0 : (((F30_2 (a1, a2)) : Int) != 0) with
  | true =>
   have q0 := bne_iff_ne.1 h0
   have e := Eq.refl (F29_k47 a1 a2); conv at e => rhs; simp only [F29_k47, h0, cond_true, cond_false]
   rw [e]
   exact rt (t0 ++ [.d h0]) [] [] hcx (by kernel_rfl)
  | false =>
   have q0 := bne_eq_false_iff_eq.1 h0
   let t1 : List (St Try.prog) := (t0 ++ [.d h0, .c [] (C52), .mG K5 (fun x => x) [(43, (.a [(.v (.func (.func 64) #[] #[])), (.v (.func (.func 65) #[] #[]))])), (45, (.a [(.v (.func (.func 64) #[] #[])), (.v (.func (.func 66) #[] #[]))])), (42, (.a [(.v (.func (.func 64) #[] #[])), (.v (.func (.func 67) #[] #[]))])), (47, (.a [(.v (.func (.func 69) #[] #[])), (.v (.func (.func 70) #[] #[]))]))] 47 (.a [(.v .nilFunc), (.v .nilFunc)]), .c [] (C69 a2)])
   cases h1 : (((F69 a2) : Int) != 0) with
   | true =>
    have q1 := bne_iff_ne.1 h1
    have e := Eq.refl (F29_k47 a1 a2); conv at e => rhs; simp only [F29_k47, h0, h1, cond_true, cond_false]
    rw [e]
    exact rt (t1 ++ [.d h1]) [] [] hcx (by kernel_rfl)
   | false =>
    have q1 := bne_eq_false_iff_eq.1 h1
    have e := Eq.refl (F29_k47 a1 a2); conv at e => rhs; simp only [F29_k47, h0, h1, cond_true, cond_false]
    rw [e]
    exact rt (t1 ++ [.d h1, .c [] (C70 a1 a2  (div_nz h0 h1)), .c [] (C26 (F70 a1 a2).1 (F70 a1 a2).2)]) [] [] hcx (by kernel_rfl)

/-- facet/span.Div -/
def F13 (a0 : Int × Int) (a1 : Int × Int) : (Int × Int) × Int :=
  ((F29_k47 a0 a1).1, (F29_k47 a0 a1).2)

theorem C13 (a0 : Int × Int) (a1 : Int × Int) : Con Try.prog 13 [(.a [(iv a0.1), (iv a0.2)]), (.a [(iv a1.1), (iv a1.2)])] [] (.t [(.a (k2 (F13 a0 a1).1)), (iv (F13 a0 a1).2)]) [] := by
  refine con_s Try.func13 (by kernel_rfl) fun cx hcx => ?_
  have e := Eq.refl (F13 a0 a1); conv at e => rhs; simp only [F13]
  rw [e]
  exact rt [.c [] (C29_k47 a0 a1)] [] [] hcx (by kernel_rfl)

/-- facet/span.rootUp -/
def F36 (a0 : Int) : Int :=
  (bif (decide (((W ((F35 a0) * (F35 a0))) : Int) < a0)) then
   (W ((F35 a0) + 1))
  else
   (F35 a0))

theorem C36 (a0 : Int) : Con Try.prog 36 [(iv a0)] [] (iv (F36 a0)) [] := by
  refine con_s Try.func36 (by kernel_rfl) fun cx hcx => ?_
  let t0 : List (St Try.prog) := [.c [] (C35 a0)]
  cases h0 : (decide (((W ((F35 a0) * (F35 a0))) : Int) < a0)) with
  | true =>
   have q0 := of_decide_eq_true h0
   have e := Eq.refl (F36 a0); conv at e => rhs; simp only [F36, h0, cond_true, cond_false]
   rw [e]
   exact rt (t0 ++ [.d h0]) [] [] hcx (by kernel_rfl)
  | false =>
   have q0 := of_decide_eq_false h0
   have e := Eq.refl (F36 a0); conv at e => rhs; simp only [F36, h0, cond_true, cond_false]
   rw [e]
   exact rt (t0 ++ [.d h0]) [] [] hcx (by kernel_rfl)

/-- facet/span.Root -/
def F14 (a0 : Int × Int) : (Int × Int) × Int :=
  (bif (((F30_1 a0) : Int) != 0) then
   ((0, 0), (F30_1 a0))
  else
   (bif (decide ((a0.1 : Int) < 0)) then
    ((0, 0), 1)
   else
    ((F26 (F35 (W (a0.1 * 1048576))) (F36 (W (a0.2 * 1048576)))).1, (F26 (F35 (W (a0.1 * 1048576))) (F36 (W (a0.2 * 1048576)))).2)))

theorem C14 (a0 : Int × Int) : Con Try.prog 14 [(.a [(iv a0.1), (iv a0.2)])] [] (.t [(.a (k2 (F14 a0).1)), (iv (F14 a0).2)]) [] := by
  refine con_s Try.func14 (by kernel_rfl) fun cx hcx => ?_
  let t0 : List (St Try.prog) := [.c [2] (C30_1 a0)]
  cases h0 : (((F30_1 a0) : Int) != 0) with
  | true =>
   have q0 := bne_iff_ne.1 h0
   have e := Eq.refl (F14 a0); conv at e => rhs; simp only [F14, h0, cond_true, cond_false]
   rw [e]
   exact rt (t0 ++ [.d h0]) [] [] hcx (by kernel_rfl)
  | false =>
   have q0 := bne_eq_false_iff_eq.1 h0
   let t1 : List (St Try.prog) := (t0 ++ [.d h0])
   cases h1 : (decide ((a0.1 : Int) < 0)) with
   | true =>
    have q1 := of_decide_eq_true h1
    have e := Eq.refl (F14 a0); conv at e => rhs; simp only [F14, h0, h1, cond_true, cond_false]
    rw [e]
    exact rt (t1 ++ [.d h1]) [] [] hcx (by kernel_rfl)
   | false =>
    have q1 := of_decide_eq_false h1
    have e := Eq.refl (F14 a0); conv at e => rhs; simp only [F14, h0, h1, cond_true, cond_false]
    rw [e]
    exact rt (t1 ++ [.d h1, .c [] (C35 (W (a0.1 * 1048576))), .c [] (C36 (W (a0.2 * 1048576))), .c [] (C26 (F35 (W (a0.1 * 1048576))) (F36 (W (a0.2 * 1048576))))]) [] [] hcx (by kernel_rfl)

/-- facet/span.Hull -/
def F17 (a0 : Int × Int) (a1 : Int × Int) : (Int × Int) × Int :=
  (bif (((F30_2 (a0, a1)) : Int) != 0) then
   ((0, 0), (F30_2 (a0, a1)))
  else
   (((imn a0.1 a1.1), (imx a0.2 a1.2)), 0))

theorem C17 (a0 : Int × Int) (a1 : Int × Int) : Con Try.prog 17 [(.a [(iv a0.1), (iv a0.2)]), (.a [(iv a1.1), (iv a1.2)])] [] (.t [(.a (k2 (F17 a0 a1).1)), (iv (F17 a0 a1).2)]) [] := by
  refine con_s Try.func17 (by kernel_rfl) fun cx hcx => ?_
  let t0 : List (St Try.prog) := [.c [3] (C30_2 (a0, a1))]
  cases h0 : (((F30_2 (a0, a1)) : Int) != 0) with
  | true =>
   have q0 := bne_iff_ne.1 h0
   have e := Eq.refl (F17 a0 a1); conv at e => rhs; simp only [F17, h0, cond_true, cond_false]
   rw [e]
   exact rt (t0 ++ [.d h0]) [] [] hcx (by kernel_rfl)
  | false =>
   have q0 := bne_eq_false_iff_eq.1 h0
   have e := Eq.refl (F17 a0 a1); conv at e => rhs; simp only [F17, h0, cond_true, cond_false]
   rw [e]
   exact rt (t0 ++ [.d h0]) [] [] hcx (by kernel_rfl)

/-- facet/span.Within -/
def F18 (a0 : Int × Int) (a1 : Int × Int) : Bool × Int :=
  (bif (((F30_2 (a0, a1)) : Int) == 0) then
   (bif (decide ((a0.1 : Int) ≥ a1.1)) then
    ((decide ((a0.2 : Int) ≤ a1.2)), (F30_2 (a0, a1)))
   else
    (false, (F30_2 (a0, a1))))
  else
   (false, (F30_2 (a0, a1))))

theorem C18 (a0 : Int × Int) (a1 : Int × Int) : Con Try.prog 18 [(.a [(iv a0.1), (iv a0.2)]), (.a [(iv a1.1), (iv a1.2)])] [] (.t [(.v (.bool (F18 a0 a1).1)), (iv (F18 a0 a1).2)]) [] := by
  refine con_s Try.func18 (by kernel_rfl) fun cx hcx => ?_
  let t0 : List (St Try.prog) := [.c [2] (C30_2 (a0, a1))]
  cases h0 : (((F30_2 (a0, a1)) : Int) == 0) with
  | true =>
   have q0 := eq_of_beq h0
   let t1 : List (St Try.prog) := (t0 ++ [.d h0])
   cases h1 : (decide ((a0.1 : Int) ≥ a1.1)) with
   | true =>
    have q1 := of_decide_eq_true h1
    have e := Eq.refl (F18 a0 a1); conv at e => rhs; simp only [F18, h0, h1, cond_true, cond_false]
    rw [e]
    exact rt (t1 ++ [.d h1]) [] [] hcx (by kernel_rfl)
   | false =>
    have q1 := of_decide_eq_false h1
    have e := Eq.refl (F18 a0 a1); conv at e => rhs; simp only [F18, h0, h1, cond_true, cond_false]
    rw [e]
    exact rt (t1 ++ [.d h1]) [] [] hcx (by kernel_rfl)
  | false =>
   have q0 := ne_of_beq_false h0
   have e := Eq.refl (F18 a0 a1); conv at e => rhs; simp only [F18, h0, cond_true, cond_false]
   rw [e]
   exact rt (t0 ++ [.d h0]) [] [] hcx (by kernel_rfl)

end Go.Proofs.Ytidhogejnafhaaa

namespace Go.Proofs.Ytidhogejnafhaaa
open Go.Proofs Go.Aw Go.RowKit
set_option maxRecDepth 100000
set_option linter.unusedVariables false
set_option linter.unusedSimpArgs false

/-! ### Operations with spans -/
theorem val_iff (a : Int × Int) : F51 a = true ↔ vs a := by
  constructor
  · intro hv
    unfold F51 at hv
    unfold vs
    by_cases c1 : a.1 ≥ -1099511627776
    · by_cases c2 : a.1 ≤ a.2
      · by_cases c3 : a.2 ≤ 1099511627776
        · exact ⟨c1, c2, c3⟩
        · rw [decide_eq_true c1, decide_eq_true c2, decide_eq_false c3] at hv; simp at hv
      · rw [decide_eq_true c1, decide_eq_false c2] at hv; simp at hv
    · rw [decide_eq_false c1] at hv; simp at hv
  · exact vs_val
theorem chk2 {a b : Int × Int} (h : F30_2 (a, b) = 0) : vs a ∧ vs b := by
  unfold F30_2 at h
  cases h2 : F51 a
  · rw [h2] at h; simp at h
  · cases h3 : F51 b
    · rw [h2, h3] at h; simp at h
    · exact ⟨(val_iff a).1 h2, (val_iff b).1 h3⟩
theorem chk2_ok {a b : Int × Int} (ha : vs a) (hb : vs b) : F30_2 (a, b) = 0 := by
  unfold F30_2
  rw [vs_val ha, vs_val hb]; rfl
theorem chk1 {a : Int × Int} (h : F30_1 a = 0) : vs a := by
  unfold F30_1 at h
  cases h2 : F51 a
  · rw [h2] at h; simp at h
  · exact (val_iff a).1 h2
theorem res_0 {lo hi : Int} (h : (F26 lo hi).2 = 0) : F26 lo hi = ((lo, hi), 0) ∧ vs (lo, hi) := by
  rcases res_cases lo hi with ⟨e, hv⟩ | e
  · exact ⟨e, hv⟩
  · rw [e] at h; exact absurd h (by decide)
/-! rounding -/
def fl (n : Int) : Int := n / 1048576
def ce (n : Int) : Int := -(-n / 1048576)
theorem fl_le (n : Int) : fl n * 1048576 ≤ n := by unfold fl; omega
theorem le_ce (n : Int) : n ≤ ce n * 1048576 := by unfold ce; omega
theorem fl_mono {a b : Int} (h : a ≤ b) : fl a ≤ fl b := by unfold fl; omega
theorem ce_mono {a b : Int} (h : a ≤ b) : ce a ≤ ce b := by unfold ce; omega
def b40 (x : Int) : Prop := -1099511627776 ≤ x ∧ x ≤ 1099511627776
theorem low20 (x : Int) : ((BitVec.ofInt 64 x &&& BitVec.ofInt 64 1048575).toNat : Int) = x % 1048576 := by
  have e : (BitVec.ofInt 64 1048575).toNat = 2 ^ 20 - 1 := by decide
  rw [BitVec.toNat_and, e, Nat.and_two_pow_sub_one_eq_mod, BitVec.toNat_ofInt]
  omega
theorem shr20 (x : Int) : Int.fdiv x (2 ^ (min (Int.toNat 20) 64)) = x / 1048576 := shr_eq x 20 (m := 1048576) (by decide)
theorem tdn_f {x y : Int} (hx : b40 x) (hy : b40 y) : F31 x y = fl (x * y) := by
  unfold F31 fl
  unfold b40 at hx hy
  rw [low20, shr20, shr20, W_eq (n := x % 1048576) (by omega) (by omega)]
  have m1 := mul_bd (a := 1048576) (b := 1099511627776) (x := x / 1048576) (y := y) ⟨by omega, by omega⟩ hy
  have m2 := mul_bd (a := 1048576) (b := 1099511627776) (x := x % 1048576) (y := y) ⟨by omega, by omega⟩ hy
  rw [W_eq (n := x / 1048576 * y) (by omega) (by omega), W_eq (n := x % 1048576 * y) (by omega) (by omega), W_eq (by omega) (by omega)]
  have e : x * y = x / 1048576 * y * 1048576 + x % 1048576 * y := by
    have : x = x / 1048576 * 1048576 + x % 1048576 := by omega
    conv => lhs; rw [this]
    grind
  rw [e]
  generalize x / 1048576 * y = A
  generalize x % 1048576 * y = B
  omega
theorem tup_f {x y : Int} (hx : b40 x) (hy : b40 y) : F32 x y = ce (x * y) := by
  unfold F32
  have hx' : b40 (-x) := by unfold b40 at *; omega
  have m := mul_bd (a := 1099511627776) (b := 1099511627776) (x := x) (y := y) hx hy
  rw [W_eq (n := 0 - x) (by unfold b40 at hx; omega) (by unfold b40 at hx; omega), Int.zero_sub x, tdn_f hx' hy, Int.neg_mul, Int.zero_sub]
  unfold fl ce
  rw [W_eq (by omega) (by omega)]
theorem fl_key {a b : Int} (ha : 0 ≤ a) (hb : 0 < b) : ∃ Q R, a / b = Q ∧ a % b = R ∧ 0 ≤ Q ∧ Q ≤ a ∧ a * b = Q * b * b + R * b ∧ R * b < b * b ∧ (R = 0 → R * b = 0) ∧ (R ≠ 0 → 0 < R * b) := by
  have h1 := Int.emod_nonneg a (show b ≠ 0 by omega)
  have h2 := Int.emod_lt_of_pos a hb
  have h3 : b * (a / b) + a % b = a := Int.mul_ediv_add_emod a b
  have h4 : 0 ≤ a / b := Int.ediv_nonneg ha (by omega)
  have h5 : a / b ≤ a := Int.ediv_le_self b ha
  refine ⟨a / b, a % b, rfl, rfl, h4, h5, ?_, Int.mul_lt_mul_of_pos_right h2 hb, fun h => by rw [h, Int.zero_mul], fun h => Int.mul_pos (by omega) hb⟩
  generalize a / b = Q at *
  generalize a % b = R at *
  subst h3
  grind
theorem W60 {n : Int} (h : -1152921504606846977 ≤ n ∧ n ≤ 1152921504606846977) : W n = n := W_eq (by omega) (by omega)
theorem dn_aux (n d : Int) (h1 : -1152921504606846976 ≤ Int.tdiv n d ∧ Int.tdiv n d ≤ 1152921504606846976) : F27 n d = if Int.tmod n d ≠ 0 ∧ ¬ (n < 0 ↔ d < 0) then Int.tdiv n d - 1 else Int.tdiv n d := by
  unfold F27
  rw [W60 (n := Int.tdiv n d) (by omega), W60 (n := Int.tdiv n d - 1) (by omega)]
  by_cases c1 : Int.tmod n d = 0
  · simp [c1]
  · have e := bne_iff_ne.2 c1
    by_cases c2 : n < 0 <;> by_cases c3 : d < 0 <;> simp [c1, c2, c3, e]
def b60 (x : Int) : Prop := -1152921504606846976 ≤ x ∧ x ≤ 1152921504606846976
def b61 (x : Int) : Prop := -1152921504606846977 ≤ x ∧ x ≤ 1152921504606846977
theorem dn_spec {n d : Int} (hn : b60 n) (hd : d ≠ 0) : F27 n d * d * d ≤ n * d ∧ n * d < F27 n d * d * d + d * d ∧ b61 (F27 n d) := by
  unfold b61
  unfold b60 at hn
  rcases Int.lt_or_le n 0 with h | h <;> rcases Int.lt_or_le d 0 with g | g
  · obtain ⟨a, rfl⟩ : ∃ a : Int, n = -a := ⟨-n, by omega⟩
    obtain ⟨b, rfl⟩ : ∃ b : Int, d = -b := ⟨-d, by omega⟩
    obtain ⟨Q, R, e1, e2, k1, k2, k3, k4, k5, k6⟩ := fl_key (a := a) (b := b) (by omega) (by omega)
    have t1 : Int.tdiv (-a) (-b) = Q := by rw [Int.neg_tdiv, Int.tdiv_neg, Int.tdiv_eq_ediv_of_nonneg (by omega), e1, Int.neg_neg]
    rw [dn_aux _ _ (by rw [t1]; omega), t1, if_neg (fun hh => hh.2 ⟨fun _ => by omega, fun _ => by omega⟩)]
    have x1 : Q * -b * -b = Q * b * b := by grind
    have x2 : -a * -b = a * b := by grind
    have x3 : -b * -b = b * b := by grind
    have x4 : 0 ≤ R * b := by by_cases hr : R = 0; · rw [k5 hr]; exact Int.le_refl _
                              · have := k6 hr; omega
    rw [x1, x2, x3]; omega
  · obtain ⟨a, rfl⟩ : ∃ a : Int, n = -a := ⟨-n, by omega⟩
    obtain ⟨Q, R, e1, e2, k1, k2, k3, k4, k5, k6⟩ := fl_key (a := a) (b := d) (by omega) (by omega)
    have t1 : Int.tdiv (-a) d = -Q := by rw [Int.neg_tdiv, Int.tdiv_eq_ediv_of_nonneg (by omega), e1]
    have t2 : Int.tmod (-a) d = -R := by rw [Int.neg_tmod, Int.tmod_eq_emod_of_nonneg (by omega), e2]
    rw [dn_aux _ _ (by rw [t1]; omega), t1, t2]
    have x2 : -a * d = -(a * d) := by grind
    by_cases hr : R = 0
    · rw [if_neg (fun hh => hh.1 (by omega)), x2]
      have x1 : -Q * d * d = -(Q * d * d) := by grind
      have := k5 hr
      have : 0 < d * d := Int.mul_pos (by omega) (by omega)
      rw [x1]; omega
    · rw [if_pos ⟨by omega, fun hh => by have := hh.1 h; omega⟩, x2]
      have x1 : (-Q - 1) * d * d = -(Q * d * d) - d * d := by grind
      have := k6 hr
      rw [x1]; omega
  · obtain ⟨b, rfl⟩ : ∃ b : Int, d = -b := ⟨-d, by omega⟩
    obtain ⟨Q, R, e1, e2, k1, k2, k3, k4, k5, k6⟩ := fl_key (a := n) (b := b) (by omega) (by omega)
    have t1 : Int.tdiv n (-b) = -Q := by rw [Int.tdiv_neg, Int.tdiv_eq_ediv_of_nonneg (by omega), e1]
    have t2 : Int.tmod n (-b) = R := by rw [Int.tmod_neg, Int.tmod_eq_emod_of_nonneg (by omega), e2]
    rw [dn_aux _ _ (by rw [t1]; omega), t1, t2]
    have x2 : n * -b = -(n * b) := by grind
    have x3 : -b * -b = b * b := by grind
    by_cases hr : R = 0
    · rw [if_neg (fun hh => hh.1 hr), x2, x3]
      have x1 : -Q * -b * -b = -(Q * b * b) := by grind
      have := k5 hr
      have : 0 < b * b := Int.mul_pos (by omega) (by omega)
      rw [x1]; omega
    · rw [if_pos ⟨hr, fun hh => by have := hh.2 g; omega⟩, x2, x3]
      have x1 : (-Q - 1) * -b * -b = -(Q * b * b) - b * b := by grind
      have := k6 hr
      rw [x1]; omega
  · obtain ⟨Q, R, e1, e2, k1, k2, k3, k4, k5, k6⟩ := fl_key (a := n) (b := d) (by omega) (by omega)
    have t1 : Int.tdiv n d = Q := by rw [Int.tdiv_eq_ediv_of_nonneg (by omega), e1]
    rw [dn_aux _ _ (by rw [t1]; omega), t1, if_neg (fun hh => hh.2 ⟨fun _ => by omega, fun _ => by omega⟩)]
    have x4 : 0 ≤ R * d := by by_cases hr : R = 0; · rw [k5 hr]; exact Int.le_refl _
                              · have := k6 hr; omega
    omega
theorem up_spec {n d : Int} (hn : b60 n) (hd : d ≠ 0) : n * d ≤ F28 n d * d * d ∧ F28 n d * d * d < n * d + d * d := by
  unfold F28
  have hn' : b60 (-n) := by unfold b60 at *; omega
  have h := dn_spec hn' hd
  rw [W60 (n := 0 - n) (by unfold b60 at hn; omega), Int.zero_sub n, W60 (by have := h.2.2; unfold b61 at this; omega), Int.zero_sub]
  generalize F27 (-n) d = q at *
  have x1 : -q * d * d = -(q * d * d) := by grind
  have x2 : -n * d = -(n * d) := by grind
  rw [x1]; rw [x2] at h; omega
/-! corners -/
theorem imn_le (a b : Int) : imn a b ≤ a ∧ imn a b ≤ b ∧ (imn a b = a ∨ imn a b = b) := by unfold imn; split <;> omega
theorem imx_ge (a b : Int) : a ≤ imx a b ∧ b ≤ imx a b ∧ (imx a b = a ∨ imx a b = b) := by unfold imx; split <;> omega
def mn4 (f : Int → Int → Int) (a b : Int × Int) : Int := imn (imn (imn (f a.1 b.1) (f a.1 b.2)) (f a.2 b.1)) (f a.2 b.2)
def mx4 (f : Int → Int → Int) (a b : Int × Int) : Int := imx (imx (imx (f a.1 b.1) (f a.1 b.2)) (f a.2 b.1)) (f a.2 b.2)
theorem mn4_le (f : Int → Int → Int) (a b : Int × Int) : mn4 f a b ≤ f a.1 b.1 ∧ mn4 f a b ≤ f a.1 b.2 ∧ mn4 f a b ≤ f a.2 b.1 ∧ mn4 f a b ≤ f a.2 b.2 ∧ (mn4 f a b = f a.1 b.1 ∨ mn4 f a b = f a.1 b.2 ∨ mn4 f a b = f a.2 b.1 ∨ mn4 f a b = f a.2 b.2) := by
  have h1 := imn_le (f a.1 b.1) (f a.1 b.2)
  have h2 := imn_le (imn (f a.1 b.1) (f a.1 b.2)) (f a.2 b.1)
  have h3 := imn_le (imn (imn (f a.1 b.1) (f a.1 b.2)) (f a.2 b.1)) (f a.2 b.2)
  unfold mn4; omega
theorem mx4_ge (f : Int → Int → Int) (a b : Int × Int) : f a.1 b.1 ≤ mx4 f a b ∧ f a.1 b.2 ≤ mx4 f a b ∧ f a.2 b.1 ≤ mx4 f a b ∧ f a.2 b.2 ≤ mx4 f a b ∧ (mx4 f a b = f a.1 b.1 ∨ mx4 f a b = f a.1 b.2 ∨ mx4 f a b = f a.2 b.1 ∨ mx4 f a b = f a.2 b.2) := by
  have h1 := imx_ge (f a.1 b.1) (f a.1 b.2)
  have h2 := imx_ge (imx (f a.1 b.1) (f a.1 b.2)) (f a.2 b.1)
  have h3 := imx_ge (imx (imx (f a.1 b.1) (f a.1 b.2)) (f a.2 b.1)) (f a.2 b.2)
  unfold mx4; omega

end Go.Proofs.Ytidhogejnafhaaa

namespace Go.Proofs.Ytidhogejnafhaaa
open Go.Proofs Go.Aw Go.RowKit
set_option maxRecDepth 100000
set_option linter.unusedVariables false
set_option linter.unusedSimpArgs false

/-- facet/facettop.meets -/
def F12 (a0 : Int × Int) (a1 : Int) (a2 : Int × Int) (a3 : Int) : Bool :=
  (bif ((a1 : Int) != 0) then
   true
  else
   (bif ((a3 : Int) != 0) then
    true
   else
    (bif (F24 a0 a2).2.1 then
     (((F24 a0 a2).2.2 : Int) == 0)
    else
     false)))

theorem C12 (a0 : Int × Int) (a1 : Int) (a2 : Int × Int) (a3 : Int) : Con Try.prog 12 [(.a [(iv a0.1), (iv a0.2)]), (iv a1), (.a [(iv a2.1), (iv a2.2)]), (iv a3)] [] (.v (.bool (F12 a0 a1 a2 a3))) [] := by
  refine con_s Try.func12 (by kernel_rfl) fun cx hcx => ?_
  cases h0 : ((a1 : Int) != 0) with
  | true =>
   have q0 := bne_iff_ne.1 h0
   have e := Eq.refl (F12 a0 a1 a2 a3); conv at e => rhs; simp only [F12, h0, cond_true, cond_false]
   rw [e]
   exact rt [.d h0] [] [] hcx (by kernel_rfl)
  | false =>
   have q0 := bne_eq_false_iff_eq.1 h0
   let t1 : List (St Try.prog) := [.d h0]
   cases h1 : ((a3 : Int) != 0) with
   | true =>
    have q1 := bne_iff_ne.1 h1
    have e := Eq.refl (F12 a0 a1 a2 a3); conv at e => rhs; simp only [F12, h0, h1, cond_true, cond_false]
    rw [e]
    exact rt (t1 ++ [.d h1]) [] [] hcx (by kernel_rfl)
   | false =>
    have q1 := bne_eq_false_iff_eq.1 h1
    let t2 : List (St Try.prog) := (t1 ++ [.d h1, .c [] (C24 a0 a2)])
    cases h2 : (F24 a0 a2).2.1 with
    | true =>
     have e := Eq.refl (F12 a0 a1 a2 a3); conv at e => rhs; simp only [F12, h0, h1, h2, cond_true, cond_false]
     rw [e]
     exact rt (t2 ++ [.d h2]) [] [] hcx (by kernel_rfl)
    | false =>
     have e := Eq.refl (F12 a0 a1 a2 a3); conv at e => rhs; simp only [F12, h0, h1, h2, cond_true, cond_false]
     rw [e]
     exact rt (t2 ++ [.d h2]) [] [] hcx (by kernel_rfl)

theorem meet_s {a c : Int × Int} (ha : vs a) (hc : vs c) (h1 : a.1 ≤ c.2) (h2 : c.1 ≤ a.2) : (F24 a c).2.1 = true ∧ (F24 a c).2.2 = 0 := by
  unfold F24 F30_2
  have e1 : F51 (a, c).1 = true := val_f (a := a.1) (b := a.2) ha.1 ha.2.1 ha.2.2
  have e2 : F51 (a, c).2 = true := val_f (a := c.1) (b := c.2) hc.1 hc.2.1 hc.2.2
  have h3 := ha.2.1; have h4 := hc.2.1
  rw [e1, e2, decide_eq_false (by (repeat' split) <;> omega)]
  exact ⟨rfl, rfl⟩
theorem meets_t {a c : Int × Int} {e f : Int} (h : e = 0 → f = 0 → vs a ∧ vs c ∧ a.1 ≤ c.2 ∧ c.1 ≤ a.2) : F12 a e c f = true := by
  unfold F12
  by_cases he : e = 0
  · by_cases hf : f = 0
    · obtain ⟨h1, h2, h3, h4⟩ := h he hf
      obtain ⟨m1, m2⟩ := meet_s h1 h2 h3 h4
      rw [he, hf, m1, m2]; rfl
    · rw [he, bne_iff_ne.2 hf]; rfl
  · rw [bne_iff_ne.2 he]; rfl
/-! what the operations come to where they bring no error -/
theorem vs40 {a : Int × Int} (h : vs a) : b40 a.1 ∧ b40 a.2 := by unfold vs at h; unfold b40; omega
section
variable {a b c : Int × Int}
theorem add_0 (h : (F7 a b).2 = 0) : vs a ∧ vs b ∧ (F7 a b).1 = (a.1 + b.1, a.2 + b.2) ∧ vs (a.1 + b.1, a.2 + b.2) := by
  have h' : (F29_k43 a b).2 = 0 := h
  show vs a ∧ vs b ∧ (F29_k43 a b).1 = _ ∧ _
  unfold F29_k43 at h' ⊢
  cases hc : ((F30_2 (a, b) : Int) != 0) with
  | true => rw [hc, cond_true] at h'; exact absurd h' (bne_iff_ne.1 hc)
  | false =>
    rw [hc, cond_false] at h'
    rw [cond_false]
    obtain ⟨va, vb⟩ := chk2 (bne_eq_false_iff_eq.1 hc)
    have h2 : (F26 (W (a.1 + b.1)) (W (a.2 + b.2))).2 = 0 := h'
    obtain ⟨e, hv⟩ := res_0 h2
    have w1 : W (a.1 + b.1) = a.1 + b.1 := by unfold vs at va vb; exact W_eq (by omega) (by omega)
    have w2 : W (a.2 + b.2) = a.2 + b.2 := by unfold vs at va vb; exact W_eq (by omega) (by omega)
    rw [w1, w2] at hv
    refine ⟨va, vb, ?_, hv⟩
    show (F26 (W (a.1 + b.1)) (W (a.2 + b.2))).1 = _
    rw [e, w1, w2]
def ml (x y : Int) : Int := fl (x * y)
def mh (x y : Int) : Int := ce (x * y)
theorem mul_c (ha : vs a) (hb : vs b) : F68_f31_f32 a b = (mn4 ml a b, mx4 mh a b) := by
  obtain ⟨a1, a2⟩ := vs40 ha
  obtain ⟨b1, b2⟩ := vs40 hb
  unfold F68_f31_f32 mn4 mx4 ml mh
  rw [tdn_f a1 b1, tdn_f a1 b2, tdn_f a2 b1, tdn_f a2 b2, tup_f a1 b1, tup_f a1 b2, tup_f a2 b1, tup_f a2 b2]
theorem mul_0 (h : (F9 a b).2 = 0) : vs a ∧ vs b ∧ (F9 a b).1 = (mn4 ml a b, mx4 mh a b) ∧ vs (mn4 ml a b, mx4 mh a b) := by
  have h' : (F29_k42 a b).2 = 0 := h
  show vs a ∧ vs b ∧ (F29_k42 a b).1 = _ ∧ _
  unfold F29_k42 at h' ⊢
  cases hc : ((F30_2 (a, b) : Int) != 0) with
  | true => rw [hc, cond_true] at h'; exact absurd h' (bne_iff_ne.1 hc)
  | false =>
    rw [hc, cond_false] at h'
    rw [cond_false]
    obtain ⟨va, vb⟩ := chk2 (bne_eq_false_iff_eq.1 hc)
    have h2 : (F26 (F68_f31_f32 a b).1 (F68_f31_f32 a b).2).2 = 0 := h'
    rw [mul_c va vb] at h2
    obtain ⟨e, hv⟩ := res_0 h2
    refine ⟨va, vb, ?_, hv⟩
    show (F26 (F68_f31_f32 a b).1 (F68_f31_f32 a b).2).1 = _
    rw [mul_c va vb, e]
theorem div_0 (h : (F13 a c).2 = 0) : vs a ∧ vs c ∧ c.1 ≠ 0 ∧ c.2 ≠ 0 ∧ (F13 a c).1 = (mn4 F71 a c, mx4 F72 a c) ∧ vs (mn4 F71 a c, mx4 F72 a c) := by
  have h' : (F29_k47 a c).2 = 0 := h
  show vs a ∧ vs c ∧ _ ∧ _ ∧ (F29_k47 a c).1 = _ ∧ _
  unfold F29_k47 at h' ⊢
  cases hc : ((F30_2 (a, c) : Int) != 0) with
  | true => rw [hc, cond_true] at h'; exact absurd h' (bne_iff_ne.1 hc)
  | false =>
    rw [hc, cond_false] at h'
    rw [cond_false]
    obtain ⟨va, vb⟩ := chk2 (bne_eq_false_iff_eq.1 hc)
    cases hd : ((F69 c : Int) != 0) with
    | true => rw [hd, cond_true] at h'; exact absurd h' (bne_iff_ne.1 hd)
    | false =>
      rw [hd, cond_false] at h'
      rw [cond_false]
      obtain ⟨n1, n2⟩ := div_nz hc hd
      obtain ⟨e, hv⟩ := res_0 (lo := mn4 F71 a c) (hi := mx4 F72 a c) h'
      refine ⟨va, vb, n1, n2, ?_, hv⟩
      show (F26 (mn4 F71 a c) (mx4 F72 a c)).1 = _
      rw [e]
def nearS (a : Int × Int) : Int := imx (imx a.1 (-a.2)) 0
def farS (a : Int × Int) : Int := imx a.2 (-a.1)
theorem sq_0 (h : (F8 a).2 = 0) : vs a ∧ (F8 a).1 = (fl (nearS a * nearS a), ce (farS a * farS a)) ∧ vs (fl (nearS a * nearS a), ce (farS a * farS a)) := by
  unfold F8 at h ⊢
  cases hc : ((F30_1 a : Int) != 0) with
  | true => rw [hc, cond_true] at h; exact absurd h (bne_iff_ne.1 hc)
  | false =>
    rw [hc, cond_false] at h
    rw [cond_false]
    have va := chk1 (bne_eq_false_iff_eq.1 hc)
    have w1 : W (0 - a.1) = -a.1 := by unfold vs at va; rw [W_eq (by omega) (by omega), Int.zero_sub]
    have w2 : W (0 - a.2) = -a.2 := by unfold vs at va; rw [W_eq (by omega) (by omega), Int.zero_sub]
    have m1 := imx_ge a.1 (-a.2)
    have m2 := imx_ge (imx a.1 (-a.2)) 0
    have m3 := imx_ge a.2 (-a.1)
    have hn : b40 (nearS a) := by unfold nearS b40; unfold vs at va; omega
    have hf : b40 (farS a) := by unfold farS b40; unfold vs at va; omega
    have h2 : (F26 (F31 (imx (imx a.1 (W (0 - a.2))) 0) (imx (imx a.1 (W (0 - a.2))) 0)) (F32 (imx a.2 (W (0 - a.1))) (imx a.2 (W (0 - a.1))))).2 = 0 := h
    have e0 : F31 (imx (imx a.1 (W (0 - a.2))) 0) (imx (imx a.1 (W (0 - a.2))) 0) = fl (nearS a * nearS a) := by rw [w2]; exact tdn_f hn hn
    have e1 : F32 (imx a.2 (W (0 - a.1))) (imx a.2 (W (0 - a.1))) = ce (farS a * farS a) := by rw [w1]; exact tup_f hf hf
    rw [e0, e1] at h2
    obtain ⟨e, hv⟩ := res_0 h2
    refine ⟨va, ?_, hv⟩
    show (F26 (F31 (imx (imx a.1 (W (0 - a.2))) 0) (imx (imx a.1 (W (0 - a.2))) 0)) (F32 (imx a.2 (W (0 - a.1))) (imx a.2 (W (0 - a.1))))).1 = _
    rw [e0, e1, e]
theorem two_0 (ha : vs a) (h : (F10 a 2).2 = 0) : (F10 a 2).1 = (a.1 * 2, a.2 * 2) ∧ vs (a.1 * 2, a.2 * 2) := by
  rw [Scale_f ha (by omega)] at h ⊢
  obtain ⟨e, hv⟩ := res_0 h
  have e0 : scl a 2 = (sat a.1 2, sat a.2 2) := by unfold scl; rw [if_neg (by decide)]
  have hs : ∀ x, -1099511627776 ≤ sat x 2 ∧ sat x 2 ≤ 1099511627776 → sat x 2 = x * 2 := fun x h => by unfold sat at *; (repeat' split at h) <;> (repeat' split) <;> omega
  rw [e0] at hv e ⊢
  simp only at hv e ⊢
  have k := hv
  unfold vs at k
  simp only at k
  rw [e, hs a.1 (by omega), hs a.2 (by omega)]
  rw [hs a.1 (by omega), hs a.2 (by omega)] at hv
  exact ⟨rfl, hv⟩
theorem root_0 (h : (F14 a).2 = 0) : vs a ∧ 0 ≤ a.1 ∧ vs (F14 a).1 ∧ 0 ≤ (F14 a).1.1 ∧ (F14 a).1.1 * (F14 a).1.1 ≤ a.1 * 1048576 ∧ a.2 * 1048576 ≤ (F14 a).1.2 * (F14 a).1.2 := by
  unfold F14 at h ⊢
  cases hc : ((F30_1 a : Int) != 0) with
  | true => rw [hc, cond_true] at h; exact absurd h (bne_iff_ne.1 hc)
  | false =>
    rw [hc, cond_false] at h
    rw [cond_false]
    have va := chk1 (bne_eq_false_iff_eq.1 hc)
    cases hd : decide (a.1 < 0) with
    | true => rw [hd, cond_true] at h; exact absurd h (by decide)
    | false =>
      rw [hd, cond_false] at h
      rw [cond_false]
      have h0 : 0 ≤ a.1 := by have := of_decide_eq_false hd; omega
      have va' := va
      unfold vs at va'
      have w1 : W (a.1 * 1048576) = a.1 * 1048576 := W_eq (by omega) (by omega)
      have w2 : W (a.2 * 1048576) = a.2 * 1048576 := W_eq (by omega) (by omega)
      rw [w1, w2] at h ⊢
      have r1 := rtSpan (n := a.1 * 1048576) (by omega) (by omega)
      have r2 := rtSpan (n := a.2 * 1048576) (by omega) (by omega)
      obtain ⟨e, hv⟩ := res_0 (lo := F35 (a.1 * 1048576)) (hi := F36 (a.2 * 1048576)) h
      show vs a ∧ 0 ≤ a.1 ∧ vs (F26 (F35 (a.1 * 1048576)) (F36 (a.2 * 1048576))).1 ∧ 0 ≤ (F26 (F35 (a.1 * 1048576)) (F36 (a.2 * 1048576))).1.1 ∧ _ ≤ _ ∧ _ ≤ (F26 (F35 (a.1 * 1048576)) (F36 (a.2 * 1048576))).1.2 * (F26 (F35 (a.1 * 1048576)) (F36 (a.2 * 1048576))).1.2
      rw [e]
      refine ⟨va, h0, hv, r1.1, r1.2.1, ?_⟩
      have hb : F35 (a.2 * 1048576) ≤ 2147483648 := r2.le (by omega) (by omega)
      have hq := sq_bd r2.1 hb
      unfold F36
      rw [W_eq (n := F35 (a.2 * 1048576) * F35 (a.2 * 1048576)) (by omega) (by omega)]
      cases hl : decide (F35 (a.2 * 1048576) * F35 (a.2 * 1048576) < a.2 * 1048576) with
      | true =>
        have := r2.1
        rw [cond_true, W_eq (by omega) (by omega)]
        have := r2.2.2
        simp only at *
        omega
      | false =>
        have := of_decide_eq_false hl
        rw [cond_false]; simp only; omega
end
/-! two ways meet -/
theorem sq_in {a : Int × Int} (h : a.1 ≤ a.2) {u : Int} (hu : a.1 ≤ u ∧ u ≤ a.2) : nearS a * nearS a ≤ u * u ∧ u * u ≤ farS a * farS a := by
  have m1 := imx_ge a.1 (-a.2)
  have m2 := imx_ge (imx a.1 (-a.2)) 0
  have m3 := imx_ge a.2 (-a.1)
  unfold nearS farS
  generalize imx (imx a.1 (-a.2)) 0 = n at *
  generalize imx a.1 (-a.2) = k at *
  generalize imx a.2 (-a.1) = f at *
  have e : ∀ x : Int, -x * -x = x * x := fun x => by grind
  rcases Int.lt_or_le u 0 with g | g
  · rw [← e u]
    exact ⟨Int.mul_le_mul (by omega) (by omega) (by omega) (by omega), Int.mul_le_mul (by omega) (by omega) (by omega) (by omega)⟩
  · exact ⟨Int.mul_le_mul (by omega) (by omega) (by omega) (by omega), Int.mul_le_mul (by omega) (by omega) (by omega) (by omega)⟩
theorem way1 {a b : Int × Int} (ha : a.1 ≤ a.2) (hb : b.1 ≤ b.2) : fl (nearS (a.1 + b.1, a.2 + b.2) * nearS (a.1 + b.1, a.2 + b.2)) ≤ ce (farS a * farS a) + (mx4 mh a b * 2 + ce (farS b * farS b)) ∧
    fl (nearS a * nearS a) + (mn4 ml a b * 2 + fl (nearS b * nearS b)) ≤ ce (farS (a.1 + b.1, a.2 + b.2) * farS (a.1 + b.1, a.2 + b.2)) := by
  obtain ⟨s1, s2⟩ := sq_in (a := (a.1 + b.1, a.2 + b.2)) (by simp only; omega) (u := a.1 + b.1) (by simp only; omega)
  obtain ⟨p1, p2⟩ := sq_in ha (u := a.1) ⟨Int.le_refl _, ha⟩
  obtain ⟨q1, q2⟩ := sq_in hb (u := b.1) ⟨Int.le_refl _, hb⟩
  have m1 : mn4 ml a b ≤ fl (a.1 * b.1) := (mn4_le ml a b).1
  have m2 : ce (a.1 * b.1) ≤ mx4 mh a b := (mx4_ge mh a b).1
  have f1 := fl_le (a.1 * b.1)
  have f2 := le_ce (a.1 * b.1)
  have f3 := fl_le (nearS (a.1 + b.1, a.2 + b.2) * nearS (a.1 + b.1, a.2 + b.2))
  have f4 := le_ce (farS (a.1 + b.1, a.2 + b.2) * farS (a.1 + b.1, a.2 + b.2))
  have f5 := fl_le (nearS a * nearS a)
  have f6 := le_ce (farS a * farS a)
  have f7 := fl_le (nearS b * nearS b)
  have f8 := le_ce (farS b * farS b)
  have e : (a.1 + b.1) * (a.1 + b.1) = a.1 * a.1 + (a.1 * b.1 * 2 + b.1 * b.1) := by grind
  rw [e] at s1 s2
  omega
theorem sq_pos {w : Int} (h : w ≠ 0) : 0 < w * w := by
  rcases Int.lt_or_le w 0 with g | g
  · have := Int.mul_pos (a := -w) (b := -w) (by omega) (by omega)
    have e : -w * -w = w * w := by grind
    omega
  · exact Int.mul_pos (by omega) (by omega)
theorem way2 {x d1 d2 i1 i2 n1 n2 w : Int} (hw : w ≠ 0) (hd1 : d1 * w * w ≤ x * 1048576 * w) (hd2 : x * 1048576 * w ≤ d2 * w * w) (hi1 : i1 * w * w ≤ 1048576 * 1048576 * w) (hi2 : 1048576 * 1048576 * w ≤ i2 * w * w)
    (hn1 : n1 * 1048576 ≤ x * i1 ∧ n1 * 1048576 ≤ x * i2) (hn2 : x * i1 ≤ n2 * 1048576 ∧ x * i2 ≤ n2 * 1048576) : d1 ≤ n2 ∧ n1 ≤ d2 := by
  have hs := sq_pos hw
  have key : n1 * 1048576 * (w * w) ≤ x * (1048576 * 1048576 * w) ∧ x * (1048576 * 1048576 * w) ≤ n2 * 1048576 * (w * w) := by
    have a1 := Int.mul_le_mul_of_nonneg_right hn1.1 (Int.le_of_lt hs)
    have a2 := Int.mul_le_mul_of_nonneg_right hn1.2 (Int.le_of_lt hs)
    have a3 := Int.mul_le_mul_of_nonneg_right hn2.1 (Int.le_of_lt hs)
    have a4 := Int.mul_le_mul_of_nonneg_right hn2.2 (Int.le_of_lt hs)
    have e1 : x * i1 * (w * w) = x * (i1 * w * w) := by grind
    have e2 : x * i2 * (w * w) = x * (i2 * w * w) := by grind
    rw [e1] at a1 a3
    rw [e2] at a2 a4
    rcases Int.lt_or_le x 0 with g | g
    · have b1 := Int.mul_le_mul_of_nonpos_left (a := x) (by omega) hi1
      have b2 := Int.mul_le_mul_of_nonpos_left (a := x) (by omega) hi2
      omega
    · have b1 := Int.mul_le_mul_of_nonneg_left hi1 g
      have b2 := Int.mul_le_mul_of_nonneg_left hi2 g
      omega
  have e3 : x * (1048576 * 1048576 * w) = x * 1048576 * w * 1048576 := by grind
  have e4 : n1 * 1048576 * (w * w) = n1 * (w * w) * 1048576 := by grind
  have e5 : n2 * 1048576 * (w * w) = n2 * (w * w) * 1048576 := by grind
  have e6 : d1 * w * w = d1 * (w * w) := by grind
  have e7 : d2 * w * w = d2 * (w * w) := by grind
  rw [e3, e4, e5] at key
  rw [e6] at hd1
  rw [e7] at hd2
  constructor
  · exact Int.le_of_mul_le_mul_right (by omega) hs
  · exact Int.le_of_mul_le_mul_right (by omega) hs
theorem sq_le_sq {x y : Int} (hy : 0 ≤ y) (h : x * x ≤ y * y) : x ≤ y := by
  rcases Int.lt_or_le y x with g | g
  · have h1 := Int.mul_le_mul_of_nonneg_left (Int.le_of_lt g) hy
    have h2 := Int.mul_lt_mul_of_pos_right g (show 0 < x by omega)
    omega
  · exact g
theorem way3a {x y r u v m w : Int} (hr : 0 ≤ r) (hu : 0 ≤ u) (hx : 0 ≤ x) (h1 : r * r ≤ x * 1048576) (h2 : u * u ≤ y * 1048576) (hv : v * 1048576 ≤ r * u) (hm : x * y ≤ m * 1048576) (hw : 0 ≤ w) (hw2 : m * 1048576 ≤ w * w) : v ≤ w := by
  rcases Int.lt_or_le 0 v with g | g
  · refine sq_le_sq hw ?_
    have k1 : v * 1048576 * (v * 1048576) ≤ r * u * (r * u) := Int.mul_le_mul hv hv (by omega) (Int.mul_nonneg hr hu)
    have k2 : r * r * (u * u) ≤ x * 1048576 * (y * 1048576) := Int.mul_le_mul h1 h2 (Int.mul_nonneg hu hu) (by omega)
    have e1 : v * 1048576 * (v * 1048576) = v * v * 1099511627776 := by grind
    have e2 : r * u * (r * u) = r * r * (u * u) := by grind
    have e3 : x * 1048576 * (y * 1048576) = x * y * 1099511627776 := by grind
    omega
  · omega
theorem way3b {x y a2 b2 r u v m w : Int} (hr : 0 ≤ r) (hu : 0 ≤ u) (hx : 0 ≤ x) (hy : 0 ≤ y) (h1 : x * 1048576 ≤ r * r) (h2 : y * 1048576 ≤ u * u) (hv : r * u ≤ v * 1048576) (hm : m * 1048576 ≤ x * y) (hw : w * w ≤ m * 1048576) : w ≤ v := by
  have h0 : 0 ≤ r * u := Int.mul_nonneg hr hu
  refine sq_le_sq (by omega) ?_
  have k1 : r * u * (r * u) ≤ v * 1048576 * (v * 1048576) := Int.mul_le_mul hv hv h0 (by omega)
  have k2 : x * 1048576 * (y * 1048576) ≤ r * r * (u * u) := Int.mul_le_mul h1 h2 (by omega) (Int.mul_nonneg hr hr)
  have e1 : v * 1048576 * (v * 1048576) = v * v * 1099511627776 := by grind
  have e2 : r * u * (r * u) = r * r * (u * u) := by grind
  have e3 : x * 1048576 * (y * 1048576) = x * y * 1099511627776 := by grind
  omega
theorem way5 {h a c : Int × Int} (h1 : h.1 ≤ a.1) (h2 : a.1 ≤ a.2) (h3 : a.2 ≤ h.2) : mn4 ml h c ≤ mn4 ml a c ∧ mx4 mh a c ≤ mx4 mh h c := by
  have p : ∀ x y : Int, h.1 ≤ x → x ≤ h.2 → (h.1 * y ≤ x * y ∧ x * y ≤ h.2 * y) ∨ (h.2 * y ≤ x * y ∧ x * y ≤ h.1 * y) := fun x y g1 g2 => by
    rcases Int.lt_or_le y 0 with g | g
    · exact .inr ⟨Int.mul_le_mul_of_nonpos_right g2 (by omega), Int.mul_le_mul_of_nonpos_right g1 (by omega)⟩
    · exact .inl ⟨Int.mul_le_mul_of_nonneg_right g1 g, Int.mul_le_mul_of_nonneg_right g2 g⟩
  have m1 := mn4_le ml h c
  have m2 := mn4_le ml a c
  have m3 := mx4_ge mh h c
  have m4 := mx4_ge mh a c
  have q : ∀ x y : Int, h.1 ≤ x → x ≤ h.2 → (ml h.1 y ≤ ml x y ∨ ml h.2 y ≤ ml x y) ∧ (mh x y ≤ mh h.1 y ∨ mh x y ≤ mh h.2 y) := fun x y g1 g2 => by
    rcases p x y g1 g2 with ⟨k1, k2⟩ | ⟨k1, k2⟩
    · exact ⟨.inl (fl_mono k1), .inr (ce_mono k2)⟩
    · exact ⟨.inr (fl_mono k1), .inl (ce_mono k2)⟩
  have l : ∀ x : Int, h.1 ≤ x → x ≤ h.2 → (mn4 ml h c ≤ ml x c.1 ∧ mn4 ml h c ≤ ml x c.2) ∧ mh x c.1 ≤ mx4 mh h c ∧ mh x c.2 ≤ mx4 mh h c := fun x g1 g2 => by
    have u1 := q x c.1 g1 g2
    have u2 := q x c.2 g1 g2
    obtain ⟨n1, n2, n3, n4, _⟩ := m1
    obtain ⟨n5, n6, n7, n8, _⟩ := m3
    clear m2 m4 q p
    omega
  have l1 := l a.1 h1 (by omega)
  have l2 := l a.2 (by omega) h3
  obtain ⟨_, _, _, _, m2⟩ := m2
  obtain ⟨_, _, _, _, m4⟩ := m4
  clear l q p m1 m3
  constructor
  · rcases m2 with e | e | e | e <;> rw [e]
    · exact l1.1.1
    · exact l1.1.2
    · exact l2.1.1
    · exact l2.1.2
  · rcases m4 with e | e | e | e <;> rw [e]
    · exact l1.2.1
    · exact l1.2.2
    · exact l2.2.1
    · exact l2.2.2
theorem bq {a : Int} (h : (a == 0) = true) : a = 0 := beq_iff_eq.1 h

end Go.Proofs.Ytidhogejnafhaaa

namespace Go.Proofs.Ytidhogejnafhaaa
open Go.Proofs Go.Aw Go.RowKit
set_option maxRecDepth 100000
set_option linter.unusedVariables false
set_option linter.unusedSimpArgs false

noncomputable def B3_j3 : Code := (codeAtD [1, 1, 0, 1, 0, 0] [] (bodyOf Try.f3)).1
noncomputable def K3_j3 : List K := (codeAtD [1, 1, 0, 1, 0, 0] [] (bodyOf Try.f3)).2

def st3_j3 (a0 : Int × Int) (a1 : Int × Int) (a2 : Int × Int) : LS := ⟨slN 264 [], []⟩

/-- facet/facettop.TopSpans from a place on where ways meet; the variables:  -/
def S3_j3 (a0 : Int × Int) (a1 : Int × Int) (a2 : Int × Int) : Unit → Bool
  | () =>
   false

noncomputable def B3_j30 : Code := (codeAtD [1, 1, 1, 1, 1, 1, 1, 1, 1, 1, 1, 1, 1, 1, 1, 1, 1, 1, 1, 1, 1, 1, 1, 1, 1, 0, 1, 0, 0] [] (bodyOf Try.f3)).1
noncomputable def K3_j30 : List K := (codeAtD [1, 1, 1, 1, 1, 1, 1, 1, 1, 1, 1, 1, 1, 1, 1, 1, 1, 1, 1, 1, 1, 1, 1, 1, 1, 0, 1, 0, 0] [] (bodyOf Try.f3)).2

def st3_j30 (a0 : Int × Int) (a1 : Int × Int) (a2 : Int × Int) : LS := ⟨slN 264 [], []⟩

/-- facet/facettop.TopSpans from a place on where ways meet; the variables:  -/
def S3_j30 (a0 : Int × Int) (a1 : Int × Int) (a2 : Int × Int) : Unit → Bool
  | () =>
   false

noncomputable def B3_j31 : Code := (codeAtD [1, 1, 1, 1, 1, 1, 1, 1, 1, 1, 1, 1, 1, 1, 1, 1, 1, 1, 1, 1, 1, 1, 1, 1, 1, 1, 0] [] (bodyOf Try.f3)).1
noncomputable def K3_j31 : List K := (codeAtD [1, 1, 1, 1, 1, 1, 1, 1, 1, 1, 1, 1, 1, 1, 1, 1, 1, 1, 1, 1, 1, 1, 1, 1, 1, 1, 0] [] (bodyOf Try.f3)).2

def st3_j31 (a0 : Int × Int) (a1 : Int × Int) (a2 : Int × Int) : LS := ⟨slN 264 [(3, (.p 0 0)), (4, (.p 1 0)), (5, (.p 2 0))], [(.live true false [(iv a0.1), (iv a0.2)]), (.live true false [(iv a1.1), (iv a1.2)]), (.live true false [(iv a2.1), (iv a2.2)])]⟩

/-- facet/facettop.TopSpans from a place on where ways meet; the variables:  -/
def S3_j31 (a0 : Int × Int) (a1 : Int × Int) (a2 : Int × Int) : Unit → Bool
  | () =>
   (bif (((F17 a0 a1).2 : Int) == 0) then
    (bif (((F9 (F17 a0 a1).1 a2).2 : Int) == 0) then
     (bif (((F9 a0 a2).2 : Int) == 0) then
      (bif (((F18 (F9 a0 a2).1 (F9 (F17 a0 a1).1 a2).1).2 : Int) != 0) then
       false
      else
       (bif (!(F18 (F9 a0 a2).1 (F9 (F17 a0 a1).1 a2).1).1) then
        false
       else
        true))
     else
      true)
    else
     true)
   else
    true)

noncomputable def B3_j25 : Code := (codeAtD [1, 1, 1, 1, 1, 1, 1, 1, 1, 1, 1, 1, 1, 1, 1, 1, 1, 1, 1, 1, 1, 0] [] (bodyOf Try.f3)).1
noncomputable def K3_j25 : List K := (codeAtD [1, 1, 1, 1, 1, 1, 1, 1, 1, 1, 1, 1, 1, 1, 1, 1, 1, 1, 1, 1, 1, 0] [] (bodyOf Try.f3)).2

def st3_j25 (a0 : Int × Int) (a1 : Int × Int) (a2 : Int × Int) : LS := ⟨slN 264 [(3, (.p 0 0)), (4, (.p 1 0)), (5, (.p 2 0))], [(.live true false [(iv a0.1), (iv a0.2)]), (.live true false [(iv a1.1), (iv a1.2)]), (.live true false [(iv a2.1), (iv a2.2)])]⟩

/-- facet/facettop.TopSpans from a place on where ways meet; the variables:  -/
def S3_j25 (a0 : Int × Int) (a1 : Int × Int) (a2 : Int × Int) : Unit → Bool
  | () =>
   (bif (((F11_L ([a0, a1, a2, a0] : List (Int × Int))).2 : Int) == 0) then
    (bif (((F15_L ([a0, a1, a2, a0] : List (Int × Int))).2 : Int) != 0) then
     (S3_j30 a0 a1 a2 ())
    else
     (bif (((F16 (F11_L ([a0, a1, a2, a0] : List (Int × Int))).1 4).2 : Int) != 0) then
      (S3_j30 a0 a1 a2 ())
     else
      (bif (!((((F15_L ([a0, a1, a2, a0] : List (Int × Int))).1.1 : Int) == (F16 (F11_L ([a0, a1, a2, a0] : List (Int × Int))).1 4).1.1) && ((((F15_L ([a0, a1, a2, a0] : List (Int × Int))).1.2 : Int) == (F16 (F11_L ([a0, a1, a2, a0] : List (Int × Int))).1 4).1.2) && true))) then
       (S3_j30 a0 a1 a2 ())
      else
       (S3_j31 a0 a1 a2 ()))))
   else
    (S3_j31 a0 a1 a2 ()))

noncomputable def B3_j19 : Code := (codeAtD [1, 1, 1, 1, 1, 1, 1, 1, 1, 1, 1, 1, 1, 1, 1, 1, 0] [] (bodyOf Try.f3)).1
noncomputable def K3_j19 : List K := (codeAtD [1, 1, 1, 1, 1, 1, 1, 1, 1, 1, 1, 1, 1, 1, 1, 1, 0] [] (bodyOf Try.f3)).2

def st3_j19 (a0 : Int × Int) (a1 : Int × Int) (a2 : Int × Int) : LS := ⟨slN 264 [(3, (.p 0 0)), (4, (.p 1 0)), (5, (.p 2 0)), (16, (.p 3 0)), (17, (iv (F9 a0 a1).2))], [(.live true false [(iv a0.1), (iv a0.2)]), (.live true false [(iv a1.1), (iv a1.2)]), (.live true false [(iv a2.1), (iv a2.2)]), (.live true false (k2 (F9 a0 a1).1))]⟩

/-- facet/facettop.TopSpans from a place on where ways meet; the variables:  -/
def S3_j19 (a0 : Int × Int) (a1 : Int × Int) (a2 : Int × Int) : Unit → Bool
  | () =>
   (bif (((F14 a0).2 : Int) == 0) then
    (bif (((F14 a1).2 : Int) == 0) then
     (bif (((F9 a0 a1).2 : Int) == 0) then
      (bif (!(F12 (F9 (F14 a0).1 (F14 a1).1).1 (F9 (F14 a0).1 (F14 a1).1).2 (F14 (F9 a0 a1).1).1 (F14 (F9 a0 a1).1).2)) then
       false
      else
       (S3_j25 a0 a1 a2 ()))
     else
      (S3_j25 a0 a1 a2 ()))
    else
     (S3_j25 a0 a1 a2 ()))
   else
    (S3_j25 a0 a1 a2 ()))

noncomputable def B3_j13 : Code := (codeAtD [1, 1, 1, 1, 1, 1, 1, 1, 1, 1, 1, 0] [] (bodyOf Try.f3)).1
noncomputable def K3_j13 : List K := (codeAtD [1, 1, 1, 1, 1, 1, 1, 1, 1, 1, 1, 0] [] (bodyOf Try.f3)).2

def st3_j13 (a0 : Int × Int) (a1 : Int × Int) (a2 : Int × Int) : LS := ⟨slN 264 [(3, (.p 0 0)), (4, (.p 1 0)), (5, (.p 2 0)), (16, (.p 3 0)), (17, (iv (F9 a0 a1).2))], [(.live true false [(iv a0.1), (iv a0.2)]), (.live true false [(iv a1.1), (iv a1.2)]), (.live true false [(iv a2.1), (iv a2.2)]), (.live true false (k2 (F9 a0 a1).1))]⟩

/-- facet/facettop.TopSpans from a place on where ways meet; the variables:  -/
def S3_j13 (a0 : Int × Int) (a1 : Int × Int) (a2 : Int × Int) : Unit → Bool
  | () =>
   (bif (((F13 (1048576, 1048576) a2).2 : Int) == 0) then
    (bif (!(F12 (F13 a0 a2).1 (F13 a0 a2).2 (F9 a0 (F13 (1048576, 1048576) a2).1).1 (F9 a0 (F13 (1048576, 1048576) a2).1).2)) then
     false
    else
     (S3_j19 a0 a1 a2 ()))
   else
    (S3_j19 a0 a1 a2 ()))

set_option maxHeartbeats 4000000 in
theorem L3_j3 (a0 : Int × Int) (a1 : Int × Int) (a2 : Int × Int) {cx : Cx} (hcx : cx.base = 0) : True → Aw.Good Try.prog none 9 (bodyPost Try.prog Try.f3 (RR cx (.v (.bool (S3_j3 a0 a1 a2 ()))) [] [])) cx [] (.c B3_j3 :: K3_j3) (st3_j3 a0 a1 a2) := by
  intro hi
  have e := Eq.refl (S3_j3 a0 a1 a2 ()); conv at e => rhs; simp only [S3_j3]
  rw [e]
  exact rt [] [] [] hcx (by kernel_rfl)

set_option maxHeartbeats 4000000 in
theorem L3_j30 (a0 : Int × Int) (a1 : Int × Int) (a2 : Int × Int) {cx : Cx} (hcx : cx.base = 0) : True → Aw.Good Try.prog none 9 (bodyPost Try.prog Try.f3 (RR cx (.v (.bool (S3_j30 a0 a1 a2 ()))) [] [])) cx [] (.c B3_j30 :: K3_j30) (st3_j30 a0 a1 a2) := by
  intro hi
  have e := Eq.refl (S3_j30 a0 a1 a2 ()); conv at e => rhs; simp only [S3_j30]
  rw [e]
  exact rt [] [] [] hcx (by kernel_rfl)

set_option maxHeartbeats 4000000 in
theorem L3_j31 (a0 : Int × Int) (a1 : Int × Int) (a2 : Int × Int) {cx : Cx} (hcx : cx.base = 0) : True → Aw.Good Try.prog none 9 (bodyPost Try.prog Try.f3 (RR cx (.v (.bool (S3_j31 a0 a1 a2 ()))) [] [])) cx [] (.c B3_j31 :: K3_j31) (st3_j31 a0 a1 a2) := by
  intro hi
  let t0 : List (St Try.prog) := [.c [] (C17 a0 a1), .c [] (C9 (F17 a0 a1).1 a2), .c [] (C9 a0 a2)]
  cases h0 : (((F17 a0 a1).2 : Int) == 0) with
  | true =>
   have q0 := eq_of_beq h0
   let t1 : List (St Try.prog) := (t0 ++ [.d h0])
   cases h1 : (((F9 (F17 a0 a1).1 a2).2 : Int) == 0) with
   | true =>
    have q1 := eq_of_beq h1
    let t2 : List (St Try.prog) := (t1 ++ [.d h1])
    cases h2 : (((F9 a0 a2).2 : Int) == 0) with
    | true =>
     have q2 := eq_of_beq h2
     let t3 : List (St Try.prog) := (t2 ++ [.d h2, .c [] (C18 (F9 a0 a2).1 (F9 (F17 a0 a1).1 a2).1)])
     cases h3 : (((F18 (F9 a0 a2).1 (F9 (F17 a0 a1).1 a2).1).2 : Int) != 0) with
     | true =>
      have q3 := bne_iff_ne.1 h3
      have e := Eq.refl (S3_j31 a0 a1 a2 ()); conv at e => rhs; simp only [S3_j31, h0, h1, h2, h3, cond_true, cond_false]
      rw [e]
      exact rt (t3 ++ [.d h3]) [] [] hcx (by kernel_rfl)
     | false =>
      have q3 := bne_eq_false_iff_eq.1 h3
      let t4 : List (St Try.prog) := (t3 ++ [.d h3])
      cases h4 : (!(F18 (F9 a0 a2).1 (F9 (F17 a0 a1).1 a2).1).1) with
      | true =>
       have e := Eq.refl (S3_j31 a0 a1 a2 ()); conv at e => rhs; simp only [S3_j31, h0, h1, h2, h3, h4, cond_true, cond_false]
       rw [e]
       exact rt (t4 ++ [.d h4]) [] [] hcx (by kernel_rfl)
      | false =>
       have e := Eq.refl (S3_j31 a0 a1 a2 ()); conv at e => rhs; simp only [S3_j31, h0, h1, h2, h3, h4, cond_true, cond_false]
       rw [e]
       exact rt (t4 ++ [.d h4]) [] [] hcx (by kernel_rfl)
    | false =>
     have q2 := ne_of_beq_false h2
     have e := Eq.refl (S3_j31 a0 a1 a2 ()); conv at e => rhs; simp only [S3_j31, h0, h1, h2, cond_true, cond_false]
     rw [e]
     exact rt (t2 ++ [.d h2]) [] [] hcx (by kernel_rfl)
   | false =>
    have q1 := ne_of_beq_false h1
    have e := Eq.refl (S3_j31 a0 a1 a2 ()); conv at e => rhs; simp only [S3_j31, h0, h1, cond_true, cond_false]
    rw [e]
    exact rt (t1 ++ [.d h1]) [] [] hcx (by kernel_rfl)
  | false =>
   have q0 := ne_of_beq_false h0
   have e := Eq.refl (S3_j31 a0 a1 a2 ()); conv at e => rhs; simp only [S3_j31, h0, cond_true, cond_false]
   rw [e]
   exact rt (t0 ++ [.d h0]) [] [] hcx (by kernel_rfl)

set_option maxHeartbeats 4000000 in
theorem L3_j25 (a0 : Int × Int) (a1 : Int × Int) (a2 : Int × Int) {cx : Cx} (hcx : cx.base = 0) : True → Aw.Good Try.prog none 9 (bodyPost Try.prog Try.f3 (RR cx (.v (.bool (S3_j25 a0 a1 a2 ()))) [] [])) cx [] (.c B3_j25 :: K3_j25) (st3_j25 a0 a1 a2) := by
  intro hi
  let t0 : List (St Try.prog) := [.c [3] (Con.flags (bs' := [(.live false false [(iv a0.1), (iv a0.2), (iv a1.1), (iv a1.2), (iv a2.1), (iv a2.2), (iv a0.1), (iv a0.2)])]) (C15_L ([a0, a1, a2, a0] : List (Int × Int)) (by (try simp only [List.length_append, List.length_cons, List.length_nil, Int.toNat_zero]); omega)) rfl ⟨flat_plain (fun _ => rfl), trivial⟩), .c [3] (Con.flags (bs' := [(.live false false [(iv a0.1), (iv a0.2), (iv a1.1), (iv a1.2), (iv a2.1), (iv a2.2), (iv a0.1), (iv a0.2)])]) (C11_L ([a0, a1, a2, a0] : List (Int × Int)) (by (try simp only [List.length_append, List.length_cons, List.length_nil, Int.toNat_zero]); omega)) rfl ⟨flat_plain (fun _ => rfl), trivial⟩), .c [] (C16 (F11_L ([a0, a1, a2, a0] : List (Int × Int))).1 4)]
  cases h0 : (((F11_L ([a0, a1, a2, a0] : List (Int × Int))).2 : Int) == 0) with
  | true =>
   have q0 := eq_of_beq h0
   let t1 : List (St Try.prog) := (t0 ++ [.d h0])
   cases h1 : (((F15_L ([a0, a1, a2, a0] : List (Int × Int))).2 : Int) != 0) with
   | true =>
    have q1 := bne_iff_ne.1 h1
    have e := Eq.refl (S3_j25 a0 a1 a2 ()); conv at e => rhs; simp only [S3_j25, h0, h1, cond_true, cond_false]
    rw [e]
    refine ga (t1 ++ [.d h1, .z 30]) [] [] [] hcx B3_j30 (K3_j30) (st3_j30 a0 a1 a2) (by kernel_rfl) ?_
    exact L3_j30 a0 a1 a2 hcx trivial
   | false =>
    have q1 := bne_eq_false_iff_eq.1 h1
    let t2 : List (St Try.prog) := (t1 ++ [.d h1])
    cases h2 : (((F16 (F11_L ([a0, a1, a2, a0] : List (Int × Int))).1 4).2 : Int) != 0) with
    | true =>
     have q2 := bne_iff_ne.1 h2
     have e := Eq.refl (S3_j25 a0 a1 a2 ()); conv at e => rhs; simp only [S3_j25, h0, h1, h2, cond_true, cond_false]
     rw [e]
     refine ga (t2 ++ [.d h2, .z 30]) [] [] [] hcx B3_j30 (K3_j30) (st3_j30 a0 a1 a2) (by kernel_rfl) ?_
     exact L3_j30 a0 a1 a2 hcx trivial
    | false =>
     have q2 := bne_eq_false_iff_eq.1 h2
     let t3 : List (St Try.prog) := (t2 ++ [.d h2])
     cases h3 : (!((((F15_L ([a0, a1, a2, a0] : List (Int × Int))).1.1 : Int) == (F16 (F11_L ([a0, a1, a2, a0] : List (Int × Int))).1 4).1.1) && ((((F15_L ([a0, a1, a2, a0] : List (Int × Int))).1.2 : Int) == (F16 (F11_L ([a0, a1, a2, a0] : List (Int × Int))).1 4).1.2) && true))) with
     | true =>
      have e := Eq.refl (S3_j25 a0 a1 a2 ()); conv at e => rhs; simp only [S3_j25, h0, h1, h2, h3, cond_true, cond_false]
      rw [e]
      refine ga (t3 ++ [.d h3, .z 30]) [] [] [] hcx B3_j30 (K3_j30) (st3_j30 a0 a1 a2) (by kernel_rfl) ?_
      exact L3_j30 a0 a1 a2 hcx trivial
     | false =>
      have e := Eq.refl (S3_j25 a0 a1 a2 ()); conv at e => rhs; simp only [S3_j25, h0, h1, h2, h3, cond_true, cond_false]
      rw [e]
      refine ga (t3 ++ [.d h3, .z 31]) [] [3, 4, 5] [0, 1, 2] hcx B3_j31 (K3_j31) (st3_j31 a0 a1 a2) (by kernel_rfl) ?_
      exact L3_j31 a0 a1 a2 hcx trivial
  | false =>
   have q0 := ne_of_beq_false h0
   have e := Eq.refl (S3_j25 a0 a1 a2 ()); conv at e => rhs; simp only [S3_j25, h0, cond_true, cond_false]
   rw [e]
   refine ga (t0 ++ [.d h0, .z 31]) [] [3, 4, 5] [0, 1, 2] hcx B3_j31 (K3_j31) (st3_j31 a0 a1 a2) (by kernel_rfl) ?_
   exact L3_j31 a0 a1 a2 hcx trivial

set_option maxHeartbeats 4000000 in
theorem L3_j19 (a0 : Int × Int) (a1 : Int × Int) (a2 : Int × Int) {cx : Cx} (hcx : cx.base = 0) : True → Aw.Good Try.prog none 9 (bodyPost Try.prog Try.f3 (RR cx (.v (.bool (S3_j19 a0 a1 a2 ()))) [] [])) cx [] (.c B3_j19 :: K3_j19) (st3_j19 a0 a1 a2) := by
  intro hi
  let t0 : List (St Try.prog) := [.c [] (C14 a0), .c [] (C14 a1), .c [] (C9 (F14 a0).1 (F14 a1).1), .c [] (C14 (F9 a0 a1).1)]
  cases h0 : (((F14 a0).2 : Int) == 0) with
  | true =>
   have q0 := eq_of_beq h0
   let t1 : List (St Try.prog) := (t0 ++ [.d h0])
   cases h1 : (((F14 a1).2 : Int) == 0) with
   | true =>
    have q1 := eq_of_beq h1
    let t2 : List (St Try.prog) := (t1 ++ [.d h1])
    cases h2 : (((F9 a0 a1).2 : Int) == 0) with
    | true =>
     have q2 := eq_of_beq h2
     let t3 : List (St Try.prog) := (t2 ++ [.d h2, .c [] (C12 (F9 (F14 a0).1 (F14 a1).1).1 (F9 (F14 a0).1 (F14 a1).1).2 (F14 (F9 a0 a1).1).1 (F14 (F9 a0 a1).1).2)])
     cases h3 : (!(F12 (F9 (F14 a0).1 (F14 a1).1).1 (F9 (F14 a0).1 (F14 a1).1).2 (F14 (F9 a0 a1).1).1 (F14 (F9 a0 a1).1).2)) with
     | true =>
      have e := Eq.refl (S3_j19 a0 a1 a2 ()); conv at e => rhs; simp only [S3_j19, h0, h1, h2, h3, cond_true, cond_false]
      rw [e]
      exact rt (t3 ++ [.d h3]) [] [] hcx (by kernel_rfl)
     | false =>
      have e := Eq.refl (S3_j19 a0 a1 a2 ()); conv at e => rhs; simp only [S3_j19, h0, h1, h2, h3, cond_true, cond_false]
      rw [e]
      refine ga (t3 ++ [.d h3, .z 25]) [] [3, 4, 5] [0, 1, 2] hcx B3_j25 (K3_j25) (st3_j25 a0 a1 a2) (by kernel_rfl) ?_
      exact L3_j25 a0 a1 a2 hcx trivial
    | false =>
     have q2 := ne_of_beq_false h2
     have e := Eq.refl (S3_j19 a0 a1 a2 ()); conv at e => rhs; simp only [S3_j19, h0, h1, h2, cond_true, cond_false]
     rw [e]
     refine ga (t2 ++ [.d h2, .z 25]) [] [3, 4, 5] [0, 1, 2] hcx B3_j25 (K3_j25) (st3_j25 a0 a1 a2) (by kernel_rfl) ?_
     exact L3_j25 a0 a1 a2 hcx trivial
   | false =>
    have q1 := ne_of_beq_false h1
    have e := Eq.refl (S3_j19 a0 a1 a2 ()); conv at e => rhs; simp only [S3_j19, h0, h1, cond_true, cond_false]
    rw [e]
    refine ga (t1 ++ [.d h1, .z 25]) [] [3, 4, 5] [0, 1, 2] hcx B3_j25 (K3_j25) (st3_j25 a0 a1 a2) (by kernel_rfl) ?_
    exact L3_j25 a0 a1 a2 hcx trivial
  | false =>
   have q0 := ne_of_beq_false h0
   have e := Eq.refl (S3_j19 a0 a1 a2 ()); conv at e => rhs; simp only [S3_j19, h0, cond_true, cond_false]
   rw [e]
   refine ga (t0 ++ [.d h0, .z 25]) [] [3, 4, 5] [0, 1, 2] hcx B3_j25 (K3_j25) (st3_j25 a0 a1 a2) (by kernel_rfl) ?_
   exact L3_j25 a0 a1 a2 hcx trivial

set_option maxHeartbeats 4000000 in
theorem L3_j13 (a0 : Int × Int) (a1 : Int × Int) (a2 : Int × Int) {cx : Cx} (hcx : cx.base = 0) : True → Aw.Good Try.prog none 9 (bodyPost Try.prog Try.f3 (RR cx (.v (.bool (S3_j13 a0 a1 a2 ()))) [] [])) cx [] (.c B3_j13 :: K3_j13) (st3_j13 a0 a1 a2) := by
  intro hi
  let t0 : List (St Try.prog) := [.c [] (C13 a0 a2), .c [] (C13 (1048576, 1048576) a2), .c [] (C9 a0 (F13 (1048576, 1048576) a2).1)]
  cases h0 : (((F13 (1048576, 1048576) a2).2 : Int) == 0) with
  | true =>
   have q0 := eq_of_beq h0
   let t1 : List (St Try.prog) := (t0 ++ [.d h0, .c [] (C12 (F13 a0 a2).1 (F13 a0 a2).2 (F9 a0 (F13 (1048576, 1048576) a2).1).1 (F9 a0 (F13 (1048576, 1048576) a2).1).2)])
   cases h1 : (!(F12 (F13 a0 a2).1 (F13 a0 a2).2 (F9 a0 (F13 (1048576, 1048576) a2).1).1 (F9 a0 (F13 (1048576, 1048576) a2).1).2)) with
   | true =>
    have e := Eq.refl (S3_j13 a0 a1 a2 ()); conv at e => rhs; simp only [S3_j13, h0, h1, cond_true, cond_false]
    rw [e]
    exact rt (t1 ++ [.d h1]) [] [] hcx (by kernel_rfl)
   | false =>
    have e := Eq.refl (S3_j13 a0 a1 a2 ()); conv at e => rhs; simp only [S3_j13, h0, h1, cond_true, cond_false]
    rw [e]
    refine ga (t1 ++ [.d h1, .z 19]) [] [3, 4, 5, 16, 17] [0, 1, 2, 3] hcx B3_j19 (K3_j19) (st3_j19 a0 a1 a2) (by kernel_rfl) ?_
    exact L3_j19 a0 a1 a2 hcx trivial
  | false =>
   have q0 := ne_of_beq_false h0
   have e := Eq.refl (S3_j13 a0 a1 a2 ()); conv at e => rhs; simp only [S3_j13, h0, cond_true, cond_false]
   rw [e]
   refine ga (t0 ++ [.d h0, .z 19]) [] [3, 4, 5, 16, 17] [0, 1, 2, 3] hcx B3_j19 (K3_j19) (st3_j19 a0 a1 a2) (by kernel_rfl) ?_
   exact L3_j19 a0 a1 a2 hcx trivial

/-- facet/facettop.TopSpans -/
def F3 (a0 : Int × Int) (a1 : Int × Int) (a2 : Int × Int) : Bool :=
  (bif (((F6 1 3).2 : Int) != 0) then
   (S3_j3 a0 a1 a2 ())
  else
   (bif (((F6 1 3).1.1 : Int) != 349525) then
    (S3_j3 a0 a1 a2 ())
   else
    (bif (((F6 1 3).1.2 : Int) != 349526) then
     (S3_j3 a0 a1 a2 ())
    else
     (bif (((F7 a0 a1).2 : Int) == 0) then
      (bif (((F8 a0).2 : Int) == 0) then
       (bif (((F8 a1).2 : Int) == 0) then
        (bif (((F9 a0 a1).2 : Int) == 0) then
         (bif (((F10 (F9 a0 a1).1 2).2 : Int) == 0) then
          (bif (!(F12 (F8 (F7 a0 a1).1).1 (F8 (F7 a0 a1).1).2 (F11_L ([(F8 a0).1, (F10 (F9 a0 a1).1 2).1, (F8 a1).1] : List (Int × Int))).1 (F11_L ([(F8 a0).1, (F10 (F9 a0 a1).1 2).1, (F8 a1).1] : List (Int × Int))).2)) then
           false
          else
           (S3_j13 a0 a1 a2 ()))
         else
          (S3_j13 a0 a1 a2 ()))
        else
         (S3_j13 a0 a1 a2 ()))
       else
        (S3_j13 a0 a1 a2 ()))
      else
       (S3_j13 a0 a1 a2 ()))
     else
      (S3_j13 a0 a1 a2 ())))))

theorem C3 (a0 : Int × Int) (a1 : Int × Int) (a2 : Int × Int) : Con Try.prog 3 [(.a [(iv a0.1), (iv a0.2)]), (.a [(iv a1.1), (iv a1.2)]), (.a [(iv a2.1), (iv a2.2)])] [] (.v (.bool (F3 a0 a1 a2))) [] := by
  refine con_s Try.func3 (by kernel_rfl) fun cx hcx => ?_
  let t0 : List (St Try.prog) := [.c [] (C6 1 3)]
  cases h0 : (((F6 1 3).2 : Int) != 0) with
  | true =>
   have q0 := bne_iff_ne.1 h0
   have e := Eq.refl (F3 a0 a1 a2); conv at e => rhs; simp only [F3, h0, cond_true, cond_false]
   rw [e]
   refine ga (t0 ++ [.d h0, .z 3]) [] [] [] hcx B3_j3 (K3_j3) (st3_j3 a0 a1 a2) (by kernel_rfl) ?_
   exact L3_j3 a0 a1 a2 hcx trivial
  | false =>
   have q0 := bne_eq_false_iff_eq.1 h0
   let t1 : List (St Try.prog) := (t0 ++ [.d h0])
   cases h1 : (((F6 1 3).1.1 : Int) != 349525) with
   | true =>
    have q1 := bne_iff_ne.1 h1
    have e := Eq.refl (F3 a0 a1 a2); conv at e => rhs; simp only [F3, h0, h1, cond_true, cond_false]
    rw [e]
    refine ga (t1 ++ [.d h1, .z 3]) [] [] [] hcx B3_j3 (K3_j3) (st3_j3 a0 a1 a2) (by kernel_rfl) ?_
    exact L3_j3 a0 a1 a2 hcx trivial
   | false =>
    have q1 := bne_eq_false_iff_eq.1 h1
    let t2 : List (St Try.prog) := (t1 ++ [.d h1])
    cases h2 : (((F6 1 3).1.2 : Int) != 349526) with
    | true =>
     have q2 := bne_iff_ne.1 h2
     have e := Eq.refl (F3 a0 a1 a2); conv at e => rhs; simp only [F3, h0, h1, h2, cond_true, cond_false]
     rw [e]
     refine ga (t2 ++ [.d h2, .z 3]) [] [] [] hcx B3_j3 (K3_j3) (st3_j3 a0 a1 a2) (by kernel_rfl) ?_
     exact L3_j3 a0 a1 a2 hcx trivial
    | false =>
     have q2 := bne_eq_false_iff_eq.1 h2
     let t3 : List (St Try.prog) := (t2 ++ [.d h2, .c [] (C7 a0 a1), .c [] (C8 (F7 a0 a1).1), .c [] (C8 a0), .c [] (C8 a1), .c [] (C9 a0 a1), .c [] (C10 (F9 a0 a1).1 2), .c [10] (Con.flags (bs' := [(.live false false [(iv (F8 a0).1.1), (iv (F8 a0).1.2), (iv (F10 (F9 a0 a1).1 2).1.1), (iv (F10 (F9 a0 a1).1 2).1.2), (iv (F8 a1).1.1), (iv (F8 a1).1.2)])]) (C11_L ([(F8 a0).1, (F10 (F9 a0 a1).1 2).1, (F8 a1).1] : List (Int × Int)) (by (try simp only [List.length_append, List.length_cons, List.length_nil, Int.toNat_zero]); omega)) rfl ⟨flat_plain (fun _ => rfl), trivial⟩)])
     cases h3 : (((F7 a0 a1).2 : Int) == 0) with
     | true =>
      have q3 := eq_of_beq h3
      let t4 : List (St Try.prog) := (t3 ++ [.d h3])
      cases h4 : (((F8 a0).2 : Int) == 0) with
      | true =>
       have q4 := eq_of_beq h4
       let t5 : List (St Try.prog) := (t4 ++ [.d h4])
       cases h5 : (((F8 a1).2 : Int) == 0) with
       | true =>
        have q5 := eq_of_beq h5
        let t6 : List (St Try.prog) := (t5 ++ [.d h5])
        cases h6 : (((F9 a0 a1).2 : Int) == 0) with
        | true =>
         have q6 := eq_of_beq h6
         let t7 : List (St Try.prog) := (t6 ++ [.d h6])
         cases h7 : (((F10 (F9 a0 a1).1 2).2 : Int) == 0) with
         | true =>
          have q7 := eq_of_beq h7
          let t8 : List (St Try.prog) := (t7 ++ [.d h7, .c [] (C12 (F8 (F7 a0 a1).1).1 (F8 (F7 a0 a1).1).2 (F11_L ([(F8 a0).1, (F10 (F9 a0 a1).1 2).1, (F8 a1).1] : List (Int × Int))).1 (F11_L ([(F8 a0).1, (F10 (F9 a0 a1).1 2).1, (F8 a1).1] : List (Int × Int))).2)])
          cases h8 : (!(F12 (F8 (F7 a0 a1).1).1 (F8 (F7 a0 a1).1).2 (F11_L ([(F8 a0).1, (F10 (F9 a0 a1).1 2).1, (F8 a1).1] : List (Int × Int))).1 (F11_L ([(F8 a0).1, (F10 (F9 a0 a1).1 2).1, (F8 a1).1] : List (Int × Int))).2)) with
          | true =>
           have e := Eq.refl (F3 a0 a1 a2); conv at e => rhs; simp only [F3, h0, h1, h2, h3, h4, h5, h6, h7, h8, cond_true, cond_false]
           rw [e]
           exact rt (t8 ++ [.d h8]) [] [] hcx (by kernel_rfl)
          | false =>
           have e := Eq.refl (F3 a0 a1 a2); conv at e => rhs; simp only [F3, h0, h1, h2, h3, h4, h5, h6, h7, h8, cond_true, cond_false]
           rw [e]
           refine ga (t8 ++ [.d h8, .z 13]) [] [3, 4, 5, 16, 17] [0, 1, 2, 8] hcx B3_j13 (K3_j13) (st3_j13 a0 a1 a2) (by kernel_rfl) ?_
           exact L3_j13 a0 a1 a2 hcx trivial
         | false =>
          have q7 := ne_of_beq_false h7
          have e := Eq.refl (F3 a0 a1 a2); conv at e => rhs; simp only [F3, h0, h1, h2, h3, h4, h5, h6, h7, cond_true, cond_false]
          rw [e]
          refine ga (t7 ++ [.d h7, .z 13]) [] [3, 4, 5, 16, 17] [0, 1, 2, 8] hcx B3_j13 (K3_j13) (st3_j13 a0 a1 a2) (by kernel_rfl) ?_
          exact L3_j13 a0 a1 a2 hcx trivial
        | false =>
         have q6 := ne_of_beq_false h6
         have e := Eq.refl (F3 a0 a1 a2); conv at e => rhs; simp only [F3, h0, h1, h2, h3, h4, h5, h6, cond_true, cond_false]
         rw [e]
         refine ga (t6 ++ [.d h6, .z 13]) [] [3, 4, 5, 16, 17] [0, 1, 2, 8] hcx B3_j13 (K3_j13) (st3_j13 a0 a1 a2) (by kernel_rfl) ?_
         exact L3_j13 a0 a1 a2 hcx trivial
       | false =>
        have q5 := ne_of_beq_false h5
        have e := Eq.refl (F3 a0 a1 a2); conv at e => rhs; simp only [F3, h0, h1, h2, h3, h4, h5, cond_true, cond_false]
        rw [e]
        refine ga (t5 ++ [.d h5, .z 13]) [] [3, 4, 5, 16, 17] [0, 1, 2, 8] hcx B3_j13 (K3_j13) (st3_j13 a0 a1 a2) (by kernel_rfl) ?_
        exact L3_j13 a0 a1 a2 hcx trivial
      | false =>
       have q4 := ne_of_beq_false h4
       have e := Eq.refl (F3 a0 a1 a2); conv at e => rhs; simp only [F3, h0, h1, h2, h3, h4, cond_true, cond_false]
       rw [e]
       refine ga (t4 ++ [.d h4, .z 13]) [] [3, 4, 5, 16, 17] [0, 1, 2, 8] hcx B3_j13 (K3_j13) (st3_j13 a0 a1 a2) (by kernel_rfl) ?_
       exact L3_j13 a0 a1 a2 hcx trivial
     | false =>
      have q3 := ne_of_beq_false h3
      have e := Eq.refl (F3 a0 a1 a2); conv at e => rhs; simp only [F3, h0, h1, h2, h3, cond_true, cond_false]
      rw [e]
      refine ga (t3 ++ [.d h3, .z 13]) [] [3, 4, 5, 16, 17] [0, 1, 2, 8] hcx B3_j13 (K3_j13) (st3_j13 a0 a1 a2) (by kernel_rfl) ?_
      exact L3_j13 a0 a1 a2 hcx trivial

end Go.Proofs.Ytidhogejnafhaaa
