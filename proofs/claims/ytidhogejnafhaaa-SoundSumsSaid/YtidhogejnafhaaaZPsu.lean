/-
  SoundSums: for every list of pulses, point, speed, tick and depth the law returns true, and its arguments read behind the call as they read before. No condition.
-/
import Derived.Test.YtidhogejnafhaaaVPsu4
import Derived.ProofKit
namespace Go.Proofs.Ytidhogejnafhaaa
open Go.Proofs Go.Aw Go.RowKit
set_option maxRecDepth 100000
set_option linter.unusedVariables false
set_option linter.unusedSimpArgs false

noncomputable def B5_L_0 : Code := (loopAtD [1, 1, 1, 1, 1, 1, 0, 1] [] (bodyOf Try.f5) []).1
noncomputable def K5_L_0 : List K := (loopAtD [1, 1, 1, 1, 1, 1, 0, 1] [] (bodyOf Try.f5) []).2

def st5_L_0 (a0 : List (((Int × Int × Int) × (Int × Int × Int) × Int × Int × Int) × Int × Int)) (a1 : (Int × Int × Int) × Int × Int × Int) (v2c : List SV) (v2n : Nat) (v3 : Int) : LS := ⟨slN 105 [(0, (.s 0 0 a0.length 11)), (3, (.p 1 0)), (5, (.p 2 0)), (8, (iv (F23_L a0 a1.1 a1.2.1).2.1)), (10, (.s 3 0 v2n 2)), (11, (iv v3))], [(.live false true (flat c47 a0)), (.live true false [(iv a1.1.1), (iv a1.1.2.1), (iv a1.1.2.2), (iv a1.2.1), (iv a1.2.2.1), (iv a1.2.2.2)]), (.live true false (k2 (F22_L a0 a1.1 a1.2.2.2).1)), (.live true true v2c)]⟩

/-- a round of loop 0 of facet/facetlaw08.SoundSums; the variables: v2 = s10, v3 = s11 -/
def S5_L_0 (a0 : List (((Int × Int × Int) × (Int × Int × Int) × Int × Int × Int) × Int × Int)) (a1 : (Int × Int × Int) × Int × Int × Int) : (List (Int × Int)) × Int → ((List (Int × Int)) × Int) ⊕ (Bool)
  | (v2, v3) =>
   (bif (decide ((v3 : Int) ≤ (F23_L a0 a1.1 a1.2.1).2.1)) then
    (bif (((F21_L a0 a1.1 a1.2.1 v3 a1.2.2.2).2 : Int) != 0) then
     (.inr F20)
    else
     (.inl ((v2 ++ [(F21_L a0 a1.1 a1.2.1 v3 a1.2.2.2).1]), (v3 + 1))))
   else
    (bif (((F11_L v2).2 : Int) != 0) then
     (.inr F20)
    else
     (bif (((F24 (F11_L v2).1 (F22_L a0 a1.1 a1.2.2.2).1).2.2 : Int) == 0) then
      (bif (F24 (F11_L v2).1 (F22_L a0 a1.1 a1.2.2.2).1).2.1 then
       (.inr F20)
      else
       (.inr false))
     else
      (.inr false))))

set_option maxHeartbeats 4000000 in
theorem L5_L_0 (a0 : List (((Int × Int × Int) × (Int × Int × Int) × Int × Int × Int) × Int × Int)) (a1 : (Int × Int × Int) × Int × Int × Int) (l0 : a0.length ≤ 9223372036854775807) {cx : Cx} (hcx : cx.base = 1) : ∀ (n : Nat) (v2 : List (Int × Int)) (v3 : Int), (0 ≤ v3) ∧ (v2.length = Int.toNat v3) ∧ (v3 ≤ 301) ∧ ((F23_L a0 a1.1 a1.2.1).2.1 ≤ 300) → Int.toNat ((F23_L a0 a1.1 a1.2.1).2.1 - v3 + 1) < n → Aw.Good Try.prog none 9 (bodyPost Try.prog Try.f5 (RR cx (.v (.bool (loopF (S5_L_0 a0 a1) n (v2, v3)))) [] [])) cx [] (.l B5_L_0 n :: K5_L_0) (st5_L_0 a0 a1 (flat c23 v2) v2.length v3) := by
  intro n
  induction n with
  | zero => intro v2 v3 hi hn; exact absurd hn (Nat.not_lt_zero _)
  | succ n ih =>
    intro v2 v3 hi hn
    refine good_round ?_
    cases h0 : (decide ((v3 : Int) ≤ (F23_L a0 a1.1 a1.2.1).2.1)) with
    | true =>
     have q0 := of_decide_eq_true h0
     let t1 : List (St Try.prog) := [.d h0, .c [0] (C21_L a0 a1.1 a1.2.1 v3 a1.2.2.2 (by (try simp only [List.length_append, List.length_cons, List.length_nil, Int.toNat_zero]); omega))]
     cases h1 : (((F21_L a0 a1.1 a1.2.1 v3 a1.2.2.2).2 : Int) != 0) with
     | true =>
      have q1 := bne_iff_ne.1 h1
      have e := Eq.refl (S5_L_0 a0 a1 (v2, v3)); conv at e => rhs; simp only [S5_L_0, h0, h1, cond_true, cond_false]
      rw [loopF_s, e]
      exact rt (t1 ++ [.d h1, .c [] (C20)]) [] [] hcx (by kernel_rfl)
     | false =>
      have q1 := bne_eq_false_iff_eq.1 h1
      have e := Eq.refl (S5_L_0 a0 a1 (v2, v3)); conv at e => rhs; simp only [S5_L_0, h0, h1, cond_true, cond_false]
      rw [loopF_inl e]
      refine ba (t1 ++ [.d h1, .p (show ((flat c23 v2).length = v2.length * 2 ∧ v2.length + 1 ≤ 2 ^ 40 ∧ (v2.length + 1) * 16 ≤ 2 ^ 47) from app_ok c23_len (by omega) (by omega))]) [] [0, 3, 5, 8, 10, 11] [1, 2, 6] hcx (m := n) B5_L_0 (K5_L_0) (st5_L_0 a0 a1 (flat c23 v2 ++ (k2 (F21_L a0 a1.1 a1.2.1 v3 a1.2.2.2).1)) (v2.length + 1) (W (v3 + 1))) (by kernel_rfl) ?_
      have z0 : (W (v3 + 1)) = (v3 + 1) := W_eq (by omega) (by omega)
      have z1 : (flat c23 v2 ++ (k2 (F21_L a0 a1.1 a1.2.1 v3 a1.2.2.2).1)) = (flat c23 (v2 ++ [(F21_L a0 a1.1 a1.2.1 v3 a1.2.2.2).1])) := (flat_append (c := c23) (l := v2) (m := [(F21_L a0 a1.1 a1.2.1 v3 a1.2.2.2).1])).symm
      have z2 : (v2.length + 1) = (v2 ++ [(F21_L a0 a1.1 a1.2.1 v3 a1.2.2.2).1]).length := len_app v2 [(F21_L a0 a1.1 a1.2.1 v3 a1.2.2.2).1] rfl
      rw [z0, z1, z2]
      exact ih (v2 ++ [(F21_L a0 a1.1 a1.2.1 v3 a1.2.2.2).1]) (v3 + 1) (by refine ⟨?_, ?_, ?_, ?_⟩ <;> (try simp only [List.length_append, List.length_cons, List.length_nil, Int.toNat_zero]) <;> first | omega | assumption | simp) (by (try simp only [List.length_append, List.length_cons, List.length_nil, Int.toNat_zero]); omega)
    | false =>
     have q0 := of_decide_eq_false h0
     let t1 : List (St Try.prog) := [.d h0, .c [3] (C11_L v2 (by (try simp only [List.length_append, List.length_cons, List.length_nil, Int.toNat_zero]); omega))]
     cases h1 : (((F11_L v2).2 : Int) != 0) with
     | true =>
      have q1 := bne_iff_ne.1 h1
      have e := Eq.refl (S5_L_0 a0 a1 (v2, v3)); conv at e => rhs; simp only [S5_L_0, h0, h1, cond_true, cond_false]
      rw [loopF_s, e]
      exact rt (t1 ++ [.d h1, .c [] (C20)]) [] [] hcx (by kernel_rfl)
     | false =>
      have q1 := bne_eq_false_iff_eq.1 h1
      let t2 : List (St Try.prog) := (t1 ++ [.d h1, .c [] (C24 (F11_L v2).1 (F22_L a0 a1.1 a1.2.2.2).1)])
      cases h2 : (((F24 (F11_L v2).1 (F22_L a0 a1.1 a1.2.2.2).1).2.2 : Int) == 0) with
      | true =>
       have q2 := eq_of_beq h2
       let t3 : List (St Try.prog) := (t2 ++ [.d h2])
       cases h3 : (F24 (F11_L v2).1 (F22_L a0 a1.1 a1.2.2.2).1).2.1 with
       | true =>
        have e := Eq.refl (S5_L_0 a0 a1 (v2, v3)); conv at e => rhs; simp only [S5_L_0, h0, h1, h2, h3, cond_true, cond_false]
        rw [loopF_s, e]
        exact rt (t3 ++ [.d h3, .c [] (C20)]) [] [] hcx (by kernel_rfl)
       | false =>
        have e := Eq.refl (S5_L_0 a0 a1 (v2, v3)); conv at e => rhs; simp only [S5_L_0, h0, h1, h2, h3, cond_true, cond_false]
        rw [loopF_s, e]
        exact rt (t3 ++ [.d h3]) [] [] hcx (by kernel_rfl)
      | false =>
       have q2 := ne_of_beq_false h2
       have e := Eq.refl (S5_L_0 a0 a1 (v2, v3)); conv at e => rhs; simp only [S5_L_0, h0, h1, h2, cond_true, cond_false]
       rw [loopF_s, e]
       exact rt (t2 ++ [.d h2]) [] [] hcx (by kernel_rfl)

/-- facet/facetlaw08.SoundSums at ('L',) -/
def F5_L (a0 : List (((Int × Int × Int) × (Int × Int × Int) × Int × Int × Int) × Int × Int)) (a1 : (Int × Int × Int) × Int × Int × Int) : Bool :=
  (bif (decide ((((a0.length : Nat) : Int) : Int) > 4)) then
   F20
  else
   (bif (decide ((a1.2.2.2 : Int) > 1)) then
    F20
   else
    (bif (((F22_L a0 a1.1 a1.2.2.2).2 : Int) != 0) then
     F20
    else
     (bif (((F23_L a0 a1.1 a1.2.1).2.2 : Int) != 0) then
      F20
     else
      (bif (decide (((F23_L a0 a1.1 a1.2.1).2.1 : Int) > 300)) then
       F20
      else
       (loopF (S5_L_0 a0 a1) (Int.toNat ((F23_L a0 a1.1 a1.2.1).2.1 - 0 + 1) + 1) (([] : List (Int × Int)), 0)))))))

theorem C5_L (a0 : List (((Int × Int × Int) × (Int × Int × Int) × Int × Int × Int) × Int × Int)) (a1 : (Int × Int × Int) × Int × Int × Int) (l0 : a0.length ≤ 9223372036854775807) : Con Try.prog 5 [(.s 0 0 a0.length 11), (.a [(iv a1.1.1), (iv a1.1.2.1), (iv a1.1.2.2), (iv a1.2.1), (iv a1.2.2.1), (iv a1.2.2.2)])] [(.live false true (flat c47 a0))] (.v (.bool (F5_L a0 a1))) [] := by
  refine con_s Try.func5 (by kernel_rfl) fun cx hcx => ?_
  cases h0 : (decide ((((a0.length : Nat) : Int) : Int) > 4)) with
  | true =>
   have q0 := of_decide_eq_true h0
   have e := Eq.refl (F5_L a0 a1); conv at e => rhs; simp only [F5_L, h0, cond_true, cond_false]
   rw [e]
   exact rt [.d h0, .c [] (C20)] [] [] hcx (by kernel_rfl)
  | false =>
   have q0 := of_decide_eq_false h0
   let t1 : List (St Try.prog) := [.d h0]
   cases h1 : (decide ((a1.2.2.2 : Int) > 1)) with
   | true =>
    have q1 := of_decide_eq_true h1
    have e := Eq.refl (F5_L a0 a1); conv at e => rhs; simp only [F5_L, h0, h1, cond_true, cond_false]
    rw [e]
    exact rt (t1 ++ [.d h1, .c [] (C20)]) [] [] hcx (by kernel_rfl)
   | false =>
    have q1 := of_decide_eq_false h1
    let t2 : List (St Try.prog) := (t1 ++ [.d h1, .c [0] (C22_L a0 a1.1 a1.2.2.2 (by (try simp only [List.length_append, List.length_cons, List.length_nil, Int.toNat_zero]); omega)), .c [0] (C23_L a0 a1.1 a1.2.1 (by (try simp only [List.length_append, List.length_cons, List.length_nil, Int.toNat_zero]); omega))])
    cases h2 : (((F22_L a0 a1.1 a1.2.2.2).2 : Int) != 0) with
    | true =>
     have q2 := bne_iff_ne.1 h2
     have e := Eq.refl (F5_L a0 a1); conv at e => rhs; simp only [F5_L, h0, h1, h2, cond_true, cond_false]
     rw [e]
     exact rt (t2 ++ [.d h2, .c [] (C20)]) [] [] hcx (by kernel_rfl)
    | false =>
     have q2 := bne_eq_false_iff_eq.1 h2
     let t3 : List (St Try.prog) := (t2 ++ [.d h2])
     cases h3 : (((F23_L a0 a1.1 a1.2.1).2.2 : Int) != 0) with
     | true =>
      have q3 := bne_iff_ne.1 h3
      have e := Eq.refl (F5_L a0 a1); conv at e => rhs; simp only [F5_L, h0, h1, h2, h3, cond_true, cond_false]
      rw [e]
      exact rt (t3 ++ [.d h3, .c [] (C20)]) [] [] hcx (by kernel_rfl)
     | false =>
      have q3 := bne_eq_false_iff_eq.1 h3
      let t4 : List (St Try.prog) := (t3 ++ [.d h3])
      cases h4 : (decide (((F23_L a0 a1.1 a1.2.1).2.1 : Int) > 300)) with
      | true =>
       have q4 := of_decide_eq_true h4
       have e := Eq.refl (F5_L a0 a1); conv at e => rhs; simp only [F5_L, h0, h1, h2, h3, h4, cond_true, cond_false]
       rw [e]
       exact rt (t4 ++ [.d h4, .c [] (C20)]) [] [] hcx (by kernel_rfl)
      | false =>
       have q4 := of_decide_eq_false h4
       have e := Eq.refl (F5_L a0 a1); conv at e => rhs; simp only [F5_L, h0, h1, h2, h3, h4, cond_true, cond_false]
       rw [e]
       refine en (t4 ++ [.d h4]) [.slot 10 2] [0, 3, 5, 8, 10, 11] [1, 2, 3] hcx B5_L_0 (K5_L_0) (st5_L_0 a0 a1 (flat c23 ([] : List (Int × Int))) 0 0) (Int.toNat ((F23_L a0 a1.1 a1.2.1).2.1 - 0 + 1) + 1) (by kernel_rfl) ?_
       exact L5_L_0 a0 a1 l0 hcx (Int.toNat ((F23_L a0 a1.1 a1.2.1).2.1 - 0 + 1) + 1) ([] : List (Int × Int)) 0 (by refine ⟨?_, ?_, ?_, ?_⟩ <;> (try simp only [List.length_append, List.length_cons, List.length_nil, Int.toNat_zero]) <;> first | omega | assumption | simp) (by (try simp only [List.length_append, List.length_cons, List.length_nil, Int.toNat_zero]); omega)

theorem meet_s {a c : Int × Int} (ha : vs a) (hc : vs c) (h1 : a.1 ≤ c.2) (h2 : c.1 ≤ a.2) : (F24 a c).2.1 = true ∧ (F24 a c).2.2 = 0 := by
  unfold F24 F30_2
  have e1 : F51 (a, c).1 = true := val_f (a := a.1) (b := a.2) ha.1 ha.2.1 ha.2.2
  have e2 : F51 (a, c).2 = true := val_f (a := c.1) (b := c.2) hc.1 hc.2.1 hc.2.2
  have h3 := ha.2.1; have h4 := hc.2.1
  rw [e1, e2, decide_eq_false (by (repeat' split) <;> omega)]
  exact ⟨rfl, rfl⟩
theorem sat_ok {a : Int × Int} {n m : Int} (ha : a.1 ≤ m ∧ m ≤ a.2) (h : (F26 (scl a n).1 (scl a n).2).2 = 0) :
    (F26 (scl a n).1 (scl a n).2).1.1 ≤ m * n ∧ m * n ≤ (F26 (scl a n).1 (scl a n).2).1.2 := by
  rcases res_cases (scl a n).1 (scl a n).2 with ⟨e, hv⟩ | e
  · rw [e]
    have hs : ∀ x, -1099511627776 ≤ sat x n ∧ sat x n ≤ 1099511627776 → sat x n = x * n := fun x h => by unfold sat at *; (repeat' split at h) <;> (repeat' split) <;> omega
    unfold vs scl at hv
    unfold scl
    by_cases hn : n < 0
    · rw [if_pos hn] at hv ⊢
      dsimp only at hv ⊢
      rw [hs a.2 (by omega), hs a.1 (by omega)]
      exact ⟨Int.mul_le_mul_of_nonpos_right ha.2 (by omega), Int.mul_le_mul_of_nonpos_right ha.1 (by omega)⟩
    · rw [if_neg hn] at hv ⊢
      dsimp only at hv ⊢
      rw [hs a.2 (by omega), hs a.1 (by omega)]
      exact ⟨Int.mul_le_mul_of_nonneg_right ha.1 (by omega), Int.mul_le_mul_of_nonneg_right ha.2 (by omega)⟩
  · rw [e] at h; exact absurd h (by decide)
section
variable {l : List PU} {x : P3} {s d : Int}
/-- the sum of all ticks and the total hold a number in common -/
theorem both_in (hv : vpL l = 0) (hx : bd 256 x) (hs : 1 ≤ s ∧ s ≤ 16) (hd : d = 0 ∨ d = 1) (h0 : ∀ p ∈ l, (toG x d p).2 = 0) {T : Nat} (hT : ∀ p ∈ l, p.2.1 + F53 (fa p.1 x) s ≤ (T : Int)) :
    rs (fun t => (l.map fun p => (hrT p x s (t : Int) d).1.1).sum) (T + 1) ≤ (l.map fun p => mlo p x d * p.2.2).sum ∧ (l.map fun p => mlo p x d * p.2.2).sum ≤ rs (fun t => (l.map fun p => (hrT p x s (t : Int) d).1.2).sum) (T + 1) ∧
    (l.map fun p => (toG x d p).1.1).sum ≤ (l.map fun p => mlo p x d * p.2.2).sum ∧ (l.map fun p => mlo p x d * p.2.2).sum ≤ (l.map fun p => (toG x d p).1.2).sum := by
  obtain ⟨_, hpk⟩ := vpL_ok hv
  have hm : ∀ p ∈ l, ∃ M : Int × Int, meanS (of1 (sc d)) p.1 x d = (M, 0) ∧ toG x d p = F26 (scl M p.2.2).1 (scl M p.2.2).2 := fun p hp => by
    have h := h0 p hp
    by_cases hm : (meanV of1 p.1 x d).2 = 0
    · have e : toG x d p = F26 (scl (meanV of1 p.1 x d).1 p.2.2).1 (scl (meanV of1 p.1 x d).1 p.2.2).2 := if_pos hm
      have hc := (meanV_vs of1_all hm).1
      have e2 : meanV of1 p.1 x d = meanS (of1 (sc d)) p.1 x d := if_pos hc
      rw [e2] at e hm
      exact ⟨(meanS (of1 (sc d)) p.1 x d).1, by rw [← hm], e⟩
    · have e : toG x d p = ((0, 0), (meanV of1 p.1 x d).2) := if_neg hm
      rw [e] at h; exact absurd h hm
  have hk : ∀ p ∈ l, rs (fun t => (hrT p x s (t : Int) d).1.1) (T + 1) ≤ mlo p x d * p.2.2 ∧ mlo p x d * p.2.2 ≤ rs (fun t => (hrT p x s (t : Int) d).1.2) (T + 1) := fun p hp => by
    obtain ⟨M, hM, _⟩ := hm p hp
    obtain ⟨h1, _, _⟩ := mean_lo hd hM
    have hb := fa6 (pok_bd (hpk p hp)) hx
    have ht := trav_ge (s := s) (n := fa p.1 x) (by omega) (by omega)
    have hTp := hT p hp
    refine pul_sum (hpk p hp) hs.1 hd h1 (by omega) (Int.le_trans ht.2.2 ?_)
    have h2 : s * F53 (fa p.1 x) s ≤ s * ((T : Int) - p.2.1) := Int.mul_le_mul_of_nonneg_left (by omega) (by omega)
    have h3 : 0 ≤ s * F53 (fa p.1 x) s := Int.mul_nonneg (by omega) ht.1
    exact Int.mul_le_mul h2 h2 h3 (by omega)
  refine ⟨?_, ?_, suml_le fun p hp => ?_, suml_le fun p hp => ?_⟩
  · rw [rs_swap]; exact suml_le fun p hp => (hk p hp).1
  · rw [rs_swap]; exact suml_le fun p hp => (hk p hp).2
  · obtain ⟨M, hM, e⟩ := hm p hp
    obtain ⟨_, h2, h3⟩ := mean_lo hd hM
    have h := h0 p hp
    rw [e] at h ⊢
    exact (sat_ok ⟨by omega, by omega⟩ h).1
  · obtain ⟨M, hM, e⟩ := hm p hp
    obtain ⟨_, h2, h3⟩ := mean_lo hd hM
    have h := h0 p hp
    rw [e] at h ⊢
    exact (sat_ok ⟨by omega, by omega⟩ h).2
end
theorem shs_ok0 {α β : Type} {g : α → β × Int} {k : List α} {E : Int → β × Int} {G : List β → β × Int} (hE : ∀ e, (E e).2 = e) (h : (out8 G E (shs g k [])).2 = 0) : (∀ c ∈ k, (g c).2 = 0) ∧ out8 G E (shs g k []) = G (k.map fun c => (g c).1) := by
  cases e : shs g k [] with
  | inr r => rw [e] at h; have := shs_inr e; exact absurd ((hE r).symm.trans h) this
  | inl m =>
    obtain ⟨h1, h2⟩ := shs_inl e
    rw [List.nil_append] at h1
    subst h1
    exact ⟨h2, rfl⟩
theorem law_sums (l : List PU) (x : P3 × Int × Int × Int) : F5_L l x = true := by
  unfold F5_L
  rw [sane_t]
  by_cases h1 : ((l.length : Nat) : Int) > 4
  · rw [decide_eq_true h1]; rfl
  rw [decide_eq_false h1, cond_false]
  by_cases h2 : x.2.2.2 > 1
  · rw [decide_eq_true h2]; rfl
  rw [decide_eq_false h2, cond_false]
  cases h3 : ((F22_L l x.1 x.2.2.2).2 != 0) with
  | true => rfl
  | false =>
  rw [cond_false]
  cases h4 : ((F23_L l x.1 x.2.1).2.2 != 0) with
  | true => rfl
  | false =>
  rw [cond_false]
  by_cases h5 : (F23_L l x.1 x.2.1).2.1 > 300
  · rw [decide_eq_true h5]; rfl
  rw [decide_eq_false h5, cond_false]
  have h3 := bne_eq_false_iff_eq.1 h3
  have h4 := bne_eq_false_iff_eq.1 h4
  obtain ⟨hx, hs, hlast⟩ := Ticks_last h4
  have hto := Total_f l x.1 x.2.2.2
  rw [hto] at h3
  have hv : vpL l = 0 ∧ (0 ≤ x.2.2.2 ∧ x.2.2.2 ≤ 3) ∧ toV l x.1 x.2.2.2 = toS l x.1 x.2.2.2 := by
    unfold toV at h3 ⊢
    by_cases a1 : vpL l = 0
    · rw [if_pos a1] at h3 ⊢
      by_cases a2 : bd 256 x.1 ∧ (0 ≤ x.2.2.2 ∧ x.2.2.2 ≤ 3)
      · rw [if_pos a2]; exact ⟨a1, a2.2, rfl⟩
      · rw [if_neg a2] at h3; exact absurd h3 (by decide)
    · rw [if_neg a1] at h3; exact absurd h3 a1
  obtain ⟨hv, hd3, etV⟩ := hv
  have hd : x.2.2.2 = 0 ∨ x.2.2.2 = 1 := by omega
  rw [etV] at h3
  have hpk := (vpL_ok hv).2
  have hl16 := (vpL_ok hv).1
  unfold toS at h3
  obtain ⟨g0, etS⟩ := shs_ok0 (fun _ => rfl) h3
  rw [etS] at h3
  obtain ⟨etS2, hvt⟩ := sumV_0 h3
  have htot : (F22_L l x.1 x.2.2.2).1 = sums (l.map fun c => (toG x.1 x.2.2.2 c).1) (0, 0) := by
    rw [hto, etV]; unfold toS; rw [etS, etS2]
  generalize hTT : (F23_L l x.1 x.2.1).2.1 = TT at hlast h5
  have hT : ∀ p ∈ l, p.2.1 + F53 (fa p.1 x.1) x.2.1 ≤ TT := fun p hp => by
    have h := hlast p hp
    have hb := pok_bd (hpk p hp)
    have hf := fa6 hb hx
    have ht := trav_ge (s := x.2.1) (n := fa p.1 x.1) (by omega) (by omega)
    have hp1 := (hpk p hp).2.1
    unfold F63 at h
    rw [sfa_f (hb.mono (by omega)) (hx.mono (by omega)), W_eq (by omega) (by omega)] at h
    exact h
  -- the end of the loop
  have fin : ∀ k : Nat, TT < (k : Int) → ((k : Int) ≤ TT + 1 ∨ k = 0) → (∀ t : Nat, t < k → (scS l x.1 x.2.1 (t : Int) x.2.2.2).2 = 0) →
      (bif (((F11_L ((List.range k).map fun t : Nat => (scS l x.1 x.2.1 (t : Int) x.2.2.2).1)).2 : Int) != 0) then true
       else bif (((F24 (F11_L ((List.range k).map fun t : Nat => (scS l x.1 x.2.1 (t : Int) x.2.2.2).1)).1 (F22_L l x.1 x.2.2.2).1).2.2 : Int) == 0) then
        (bif (F24 (F11_L ((List.range k).map fun t : Nat => (scS l x.1 x.2.1 (t : Int) x.2.2.2).1)).1 (F22_L l x.1 x.2.2.2).1).2.1 then true else false) else false) = true := by
    intro k hk1 hk2 hok
    have hk3 : k ≤ 301 := by omega
    rw [Sum_f (fun a ha => by
      obtain ⟨t, _, rfl⟩ := List.mem_map.1 ha
      exact scS_vs hl16 hpk hd3) (by rw [List.length_map, List.length_range]; omega)]
    cases h6 : ((sumV ((List.range k).map fun t : Nat => (scS l x.1 x.2.1 (t : Int) x.2.2.2).1)).2 != 0) with
    | true => rfl
    | false =>
      rw [cond_false]
      obtain ⟨e7, v7⟩ := sumV_0 (bne_eq_false_iff_eq.1 h6)
      have hall : ∀ t : Nat, t < k → (scS l x.1 x.2.1 (t : Int) x.2.2.2).1 = sums (l.map fun p => (hrT p x.1 x.2.1 (t : Int) x.2.2.2).1) (0, 0) := fun t ht => by
        have := hok t ht
        unfold scS at this ⊢
        rw [(shs_ok0 (fun _ => rfl) this).2]
      have es : sums ((List.range k).map fun t : Nat => (scS l x.1 x.2.1 (t : Int) x.2.2.2).1) (0, 0) = (rs (fun t : Nat => (l.map fun p => (hrT p x.1 x.2.1 (t : Int) x.2.2.2).1.1).sum) k, rs (fun t : Nat => (l.map fun p => (hrT p x.1 x.2.1 (t : Int) x.2.2.2).1.2).sum) k) := by
        rw [sums_eq, List.map_map, List.map_map, rs_range, rs_range, Int.zero_add, Int.zero_add]
        congr 1
        · exact rs_congr fun t ht => by
            show (scS l x.1 x.2.1 (t : Int) x.2.2.2).1.1 = _
            rw [hall t ht, sums_eq, Int.zero_add, List.map_map]; rfl
        · exact rs_congr fun t ht => by
            show (scS l x.1 x.2.1 (t : Int) x.2.2.2).1.2 = _
            rw [hall t ht, sums_eq, List.map_map, List.map_map]
            show (0 : Int) + _ = _
            rw [Int.zero_add]; rfl
      have et : sums (l.map fun c => (toG x.1 x.2.2.2 c).1) (0, 0) = ((l.map fun p => (toG x.1 x.2.2.2 p).1.1).sum, (l.map fun p => (toG x.1 x.2.2.2 p).1.2).sum) := by
        rw [sums_eq, List.map_map, List.map_map, Int.zero_add, Int.zero_add]; rfl
      have hmeet : (sums ((List.range k).map fun t : Nat => (scS l x.1 x.2.1 (t : Int) x.2.2.2).1) (0, 0)).1 ≤ (sums (l.map fun c => (toG x.1 x.2.2.2 c).1) (0, 0)).2 ∧ (sums (l.map fun c => (toG x.1 x.2.2.2 c).1) (0, 0)).1 ≤ (sums ((List.range k).map fun t : Nat => (scS l x.1 x.2.1 (t : Int) x.2.2.2).1) (0, 0)).2 := by
        rw [es, et]
        by_cases hnil : l = []
        · subst hnil; simp [rs_zero]
        · obtain ⟨p, l', rfl⟩ := List.exists_cons_of_ne_nil hnil
          have hp := hT p List.mem_cons_self
          have hp1 := (hpk p List.mem_cons_self).2.1
          have hf := fa6 (pok_bd (hpk p List.mem_cons_self)) hx
          have ht := trav_ge (s := x.2.1) (n := fa p.1 x.1) (by omega) (by omega)
          obtain ⟨T, rfl⟩ : ∃ T : Nat, k = T + 1 := ⟨k - 1, by omega⟩
          have hb := both_in (T := T) hv hx hs hd g0 (fun p hp => Int.le_trans (hT p hp) (by omega))
          exact ⟨Int.le_trans hb.1 hb.2.2.2, Int.le_trans hb.2.2.1 hb.2.1⟩
      rw [htot, e7]
      obtain ⟨m1, m2⟩ := meet_s v7 hvt hmeet.1 hmeet.2
      rw [m2, m1]; rfl
  have key : ∀ (n k : Nat), Int.toNat (TT - (k : Int) + 1) < n → ((k : Int) ≤ TT + 1 ∨ k = 0) → (∀ t : Nat, t < k → (scS l x.1 x.2.1 (t : Int) x.2.2.2).2 = 0) →
      loopF (S5_L_0 l x) n ((List.range k).map (fun t : Nat => (scS l x.1 x.2.1 (t : Int) x.2.2.2).1), (k : Int)) = true := by
    intro n
    induction n with
    | zero => intro k h; exact absurd h (Nat.not_lt_zero _)
    | succ n ih =>
      intro k hn hk hok
      by_cases h6 : (k : Int) ≤ TT
      · have ea : askd x.1 x.2.1 (k : Int) x.2.2.2 := ⟨hx, hs, by omega, hd3⟩
        have eS : F21_L l x.1 x.2.1 (k : Int) x.2.2.2 = scS l x.1 x.2.1 (k : Int) x.2.2.2 := by
          rw [Scene_f]; unfold scV; rw [if_pos hv, if_pos ea]
        cases h7 : ((scS l x.1 x.2.1 (k : Int) x.2.2.2).2 != 0) with
        | true =>
          refine loopF_inr ?_
          simp only [S5_L_0]
          rw [hTT, decide_eq_true h6, cond_true, eS, h7, cond_true, sane_t]
        | false =>
          have e : S5_L_0 l x ((List.range k).map (fun t : Nat => (scS l x.1 x.2.1 (t : Int) x.2.2.2).1), (k : Int)) = .inl ((List.range (k + 1)).map (fun t : Nat => (scS l x.1 x.2.1 (t : Int) x.2.2.2).1), ((k + 1 : Nat) : Int)) := by
            simp only [S5_L_0]
            rw [hTT, decide_eq_true h6, cond_true, eS, h7, cond_false, List.range_succ, List.map_append]; rfl
          rw [loopF_inl e]
          refine ih (k + 1) (by omega) (by omega) (fun t ht => ?_)
          by_cases htk : t = k
          · subst htk; exact bne_eq_false_iff_eq.1 h7
          · exact hok t (by omega)
      · refine loopF_inr ?_
        simp only [S5_L_0]
        rw [hTT, decide_eq_false h6, cond_false, sane_t]
        have := fin k (by omega) hk hok
        revert this
        generalize (F11_L ((List.range k).map fun t : Nat => (scS l x.1 x.2.1 (t : Int) x.2.2.2).1)) = A
        intro this
        cases b1 : ((A.2 : Int) != 0)
        · rw [b1] at this
          cases b2 : (((F24 A.1 (F22_L l x.1 x.2.2.2).1).2.2 : Int) == 0)
          · rw [b2] at this; cases this
          · rw [b2] at this
            cases b3 : (F24 A.1 (F22_L l x.1 x.2.2.2).1).2.1
            · rw [b3] at this; cases this
            · rfl
        · rfl
  exact key _ 0 (by omega) (.inr rfl) (fun t ht => absurd ht (Nat.not_lt_zero _))

open Go.ChangeShapes Go.WideShapes Go.ChangeAt
theorem soundSums_len6 {l : List Int} (h : l.length = 6) : ∃ a0 a1 a2 a3 a4 a5, l = [a0, a1, a2, a3, a4, a5] := by
  match l, h with
  | [a0, a1, a2, a3, a4, a5], _ => exact ⟨a0, a1, a2, a3, a4, a5, rfl⟩
theorem soundSums_len11 {l : List Int} (h : l.length = 11) : ∃ a0 a1 a2 a3 a4 a5 a6 a7 a8 a9 a10, l = [a0, a1, a2, a3, a4, a5, a6, a7, a8, a9, a10] := by
  match l, h with
  | [a0, a1, a2, a3, a4, a5, a6, a7, a8, a9, a10], _ => exact ⟨a0, a1, a2, a3, a4, a5, a6, a7, a8, a9, a10, rfl⟩
def soundSums_mk47 (ns : List Int) : ((Int × Int × Int) × (Int × Int × Int) × Int × Int × Int) × Int × Int := ((((ns.getD 0 0), (ns.getD 1 0), (ns.getD 2 0)), ((ns.getD 3 0), (ns.getD 4 0), (ns.getD 5 0)), ((ns.getD 6 0), (ns.getD 7 0), (ns.getD 8 0))), (ns.getD 9 0), (ns.getD 10 0))
theorem soundSums_mkc47 (ns : List Int) (h : ns.length = 11) : c47 (soundSums_mk47 ns) = ns.map iv := by
  obtain ⟨a0, a1, a2, a3, a4, a5, a6, a7, a8, a9, a10, rfl⟩ := soundSums_len11 h
  rfl
set_option maxRecDepth 100000 in
theorem soundSums_lifted (os : Os) (started : os.Started) (H : Type) (enc : TypeId × Value → H) :
    ReturnsInHanded {} Try.checked os 5 .any (Rows.soundSumsSpec.pre6 enc Try.prog Try.f5 Rows.soundSumsRow.domain false) (Rows.soundSumsSpec.post enc Try.prog Try.f5 false true false false) := by
  refine returnsInHanded_of_change (C := Try.checked) own started (by kernel_rfl) Try.func5
    (ChangeSpec.witness6 (enc := enc) (C := Try.checked) false ⟨#[], #[.slice none 0 0, .agg #[.int .i64 0, .int .i64 0, .int .i64 0, .int .i64 0, .int .i64 0, .int .i64 0]], []⟩ 8 (by kernel_rfl) (by kernel_rfl) (by kernel_rfl) (by kernel_rfl)) ?_
  intro W base args ds gs before hval0 hW hcnd _
  have hval : ∀ (j : Nat) t v, Try.f5.params[j]? = some t → args[j]? = some v → Value.okWide Try.prog W .any base t v := hval0
  have hW' := hW
  obtain ⟨p, q, hA0, hV, rfl, hfz, hnd⟩ := hW
  have hA : DataW.TrodAll enc Try.prog W 0 (fun _ => true) true Try.f5.params.toList args.toList ds p := hA0
  rw [Try.params5] at hA hval
  obtain ⟨v0, vs0, d0, ds0, p0, q0, hargs, rfl, rfl, h0, r0⟩ := trodAll_cons hA
  obtain ⟨v1, vs1, d1, ds1, p1, q1, rfl, rfl, rfl, h1, r1⟩ := trodAll_cons r0
  obtain ⟨rfl, rfl, rfl⟩ := trodAll_nil r1
  obtain rfl : args = #[v0, v1] := by cases args; simp_all
  obtain ⟨rfl, rfl⟩ := trodVars_none hV
  obtain ⟨⟨nss0, s0⟩, b0⟩ := open_list Try.underlying36 (by kernel_rfl) (show Try.prog.cellsOf 47 = 11 from by kernel_rfl) (hval 0 36 v0 rfl rfl) h0
  obtain ⟨rfl, ns1, rfl, l1⟩ := open_flat Try.underlying40 (by kernel_rfl) (hval 1 40 v1 rfl rfl) h1
  rw [show Try.prog.cellsOf 40 = 6 from by kernel_rfl] at l1
  obtain ⟨x1_0, x1_1, x1_2, x1_3, x1_4, x1_5, rfl⟩ := soundSums_len6 l1
  clear hA0 hval0 hval hA
  simp only [List.append_nil, List.nil_append] at hW'
  have hC : Con Try.prog 5 [.s 0 0 nss0.length 11, .a ([x1_0, x1_1, x1_2, x1_3, x1_4, x1_5].map iv)] [.live false true ((nss0.flatten).map iv)] (.v (.bool true)) [] := by
    have h := C5_L (nss0.map soundSums_mk47) ((x1_0, x1_1, x1_2), x1_3, x1_4, x1_5) (by rw [List.length_map]; exact s0.2.1)
    rw [law_sums, flat_mk soundSums_mkc47 s0.1] at h
    simp only [List.length_map] at h
    exact h
  refine (law_calls1 (vs := [v0, .agg ([x1_0, x1_1, x1_2, x1_3, x1_4, x1_5].map (Value.int .i64)).toArray]) hC s0 ⟨slice_rel s0 rfl, rel_agg [x1_0, x1_1, x1_2, x1_3, x1_4, x1_5], trivial⟩).mono fun e W' ⟨he, hb⟩ => ?_
  subst he
  have hargs2 := (all_mk (Below.trod laidOut (by kernel_rfl) (of_decide_eq_true (by kernel_rfl)) h0 hb b0) (all_mk (Below.trod laidOut (by kernel_rfl) (of_decide_eq_true (by kernel_rfl)) h1 hb (fun x hx => by cases hx)) trodAll_mk0))
  simp only [List.append_nil, List.nil_append] at hargs2
  exact ⟨_, rfl, post_below hW' hb (fun _ _ _ => (all_mk (shut_bool Try.underlying4 _) trodAll_mk0)) hargs2 rfl⟩
theorem soundSums_over : Rows.soundSumsRow.holds Try.pinned (OpenSpec.ofChange Rows.soundSumsSpec) :=
  OpenClaim.holds_of_wide 5 Try.f5 rfl rfl rfl rfl rfl rfl rfl ⟨rfl, rfl, rfl, rfl, rfl⟩ rfl rfl rfl rfl rfl (by kernel_rfl) Try.func5 (by kernel_rfl)
    (of_decide_eq_true (by kernel_rfl)) (by unfold Func.isWrapper; first | (rw [if_pos (by decide +kernel)]; kernel_rfl) | (rw [if_neg (by decide +kernel)]; exact ⟨rfl, rfl⟩))
    (fun os started H enc _ => soundSums_lifted os started H enc)
/-- THE STATEMENT -/
theorem soundSums_proved : Rows.SoundSumsSaid :=
  soundSums_over

end Go.Proofs.Ytidhogejnafhaaa
