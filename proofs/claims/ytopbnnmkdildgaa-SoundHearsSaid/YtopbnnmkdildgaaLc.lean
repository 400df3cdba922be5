/-
  A part of the proofs of the Field laws: what functions of the program compute, and that it is what the statements ask. No premise.
-/
import Derived.Test.YtopbnnmkdildgaaLb
namespace Go.Proofs.Ytopbnnmkdildgaa
open Go.Proofs Go.Aw Go.RowKit
set_option maxRecDepth 100000
set_option linter.unusedVariables false
set_option linter.unusedSimpArgs false

/-- facet/facetref01.within -/
def F125 (a0 : Int) (a1 : Int) (a2 : Int) : Bool :=
  (bif (decide ((a0 : Int) ≥ a1)) then
   (decide ((a0 : Int) ≤ a2))
  else
   false)

theorem C125 (a0 : Int) (a1 : Int) (a2 : Int) : Con Try.prog 125 [(iv a0), (iv a1), (iv a2)] [] (.v (.bool (F125 a0 a1 a2))) [] := by
  cases h0 : (decide ((a0 : Int) ≥ a1)) with
  | true =>
    have q0 := of_decide_eq_true h0
    have e : (F125 a0 a1 a2) = (decide ((a0 : Int) ≤ a2)) := by simp only [F125, h0, cond_true, cond_false]
    rw [e]
    refine con_of (n := 9) Try.func125 rfl (ent Try.func125 (by kernel_rfl) rfl) (by show 3 ≤ Try.f125.ntmps; decide) (by kernel_rfl) trivial (fun cx hcx => ?_)
    exact ret_of (T := T0) hT hm (f := 5000) (orc := [.d true]) [] [] [] hcx
      (obs := [.eq (decide ((a0 : Int) ≥ a1)) true]) (by kernel_rfl) ⟨h0, trivial⟩
  | false =>
    have q0 := of_decide_eq_false h0
    have e : (F125 a0 a1 a2) = false := by simp only [F125, h0, cond_true, cond_false]
    rw [e]
    refine con_of (n := 9) Try.func125 rfl (ent Try.func125 (by kernel_rfl) rfl) (by show 3 ≤ Try.f125.ntmps; decide) (by kernel_rfl) trivial (fun cx hcx => ?_)
    exact ret_of (T := T0) hT hm (f := 5000) (orc := [.d false]) [] [] [] hcx
      (obs := [.eq (decide ((a0 : Int) ≥ a1)) false]) (by kernel_rfl) ⟨h0, trivial⟩

/-- facet/facetref01.Valid -/
def F124 (a0 : Int × Int) : Bool :=
  (bif (decide ((a0.1 : Int) ≥ (-1099511627776))) then
   (bif (decide ((a0.1 : Int) ≤ a0.2)) then
    (decide ((a0.2 : Int) ≤ 1099511627776))
   else
    false)
  else
   false)

theorem C124 (a0 : Int × Int) : Con Try.prog 124 [(.a [(iv a0.1), (iv a0.2)])] [] (.v (.bool (F124 a0))) [] := by
  cases h0 : (decide ((a0.1 : Int) ≥ (-1099511627776))) with
  | true =>
    cases h1 : (decide ((a0.1 : Int) ≤ a0.2)) with
    | true =>
      have q0 := of_decide_eq_true h0
      have q1 := of_decide_eq_true h1
      have e : (F124 a0) = (decide ((a0.2 : Int) ≤ 1099511627776)) := by simp only [F124, h0, h1, cond_true, cond_false]
      rw [e]
      refine con_of (n := 9) Try.func124 rfl (ent Try.func124 (by kernel_rfl) rfl) (by show 1 ≤ Try.f124.ntmps; decide) (by kernel_rfl) trivial (fun cx hcx => ?_)
      exact ret_of (T := T0) hT hm (f := 5000) (orc := [.d true, .d true]) [] [] [] hcx
        (obs := [.eq (decide ((a0.1 : Int) ≥ (-1099511627776))) true, .eq (decide ((a0.1 : Int) ≤ a0.2)) true]) (by kernel_rfl) ⟨h0, h1, trivial⟩
    | false =>
      have q0 := of_decide_eq_true h0
      have q1 := of_decide_eq_false h1
      have e : (F124 a0) = false := by simp only [F124, h0, h1, cond_true, cond_false]
      rw [e]
      refine con_of (n := 9) Try.func124 rfl (ent Try.func124 (by kernel_rfl) rfl) (by show 1 ≤ Try.f124.ntmps; decide) (by kernel_rfl) trivial (fun cx hcx => ?_)
      exact ret_of (T := T0) hT hm (f := 5000) (orc := [.d true, .d false]) [] [] [] hcx
        (obs := [.eq (decide ((a0.1 : Int) ≥ (-1099511627776))) true, .eq (decide ((a0.1 : Int) ≤ a0.2)) false]) (by kernel_rfl) ⟨h0, h1, trivial⟩
  | false =>
    have q0 := of_decide_eq_false h0
    have e : (F124 a0) = false := by simp only [F124, h0, cond_true, cond_false]
    rw [e]
    refine con_of (n := 9) Try.func124 rfl (ent Try.func124 (by kernel_rfl) rfl) (by show 1 ≤ Try.f124.ntmps; decide) (by kernel_rfl) trivial (fun cx hcx => ?_)
    exact ret_of (T := T0) hT hm (f := 5000) (orc := [.d false]) [] [] [] hcx
      (obs := [.eq (decide ((a0.1 : Int) ≥ (-1099511627776))) false]) (by kernel_rfl) ⟨h0, trivial⟩

theorem win_ne {a b c : Int} (h : (!(F125 a b c)) = false) (hb : 1 ≤ b := by omega) : a ≠ 0 := by
  unfold F125 at h
  cases h1 : decide ((a : Int) ≥ b) with
  | true => have := of_decide_eq_true h1; omega
  | false => simp [h1] at h
theorem cube_ne {n : Int} (h1 : 1 ≤ n) (h2 : n ≤ 1048576) : W ((W (n * n)) * n) ≠ 0 := by
  have a1 : 1 * 1 ≤ n * n := Int.mul_le_mul h1 h1 (by omega) (by omega)
  have a2 : n * n ≤ 1048576 * 1048576 := Int.mul_le_mul h2 h2 (by omega) (by omega)
  have b1 : 1 * 1 ≤ n * n * n := Int.mul_le_mul (by omega) h1 (by omega) (by omega)
  have b2 : n * n * n ≤ 1048576 * 1048576 * 1048576 := Int.mul_le_mul a2 h2 (by omega) (by omega)
  rw [W_eq (n := n * n) (by omega) (by omega), W_eq (by omega) (by omega)]
  omega
theorem win_ge {a b c : Int} (h : (!(F125 a b c)) = false) : b ≤ a := by
  unfold F125 at h
  cases h1 : decide ((a : Int) ≥ b) with
  | true => have := of_decide_eq_true h1; omega
  | false => simp [h1] at h
noncomputable def B159_0 : Code := (loopAtD [1, 1, 0] [] (Try.f159.body.getD .skip) []).1
noncomputable def K159_0 : List K := (loopAtD [1, 1, 0] [] (Try.f159.body.getD .skip) []).2

/-- a round of loop 0 of facet/facetref01.floor; the variables: v2 = s3, v3 = s4 -/
def S159_0 (a0 : Int) : Int × Int → (Int × Int) ⊕ (Int)
  | (v2, v3) =>
   (bif (decide ((v2 : Int) < v3)) then
    (bif (decide (((W ((W (Int.tdiv (W ((W (v2 + v3)) + 1)) 2)) * (W (Int.tdiv (W ((W (v2 + v3)) + 1)) 2)))) : Int) ≤ a0)) then
     (.inl ((W (Int.tdiv (W ((W (v2 + v3)) + 1)) 2)), v3))
    else
     (.inl (v2, (W ((W (Int.tdiv (W ((W (v2 + v3)) + 1)) 2)) - 1)))))
   else
    (.inr v2))

set_option maxHeartbeats 4000000 in
theorem L159_0 (a0 : Int) {cx : Cx} (hcx : cx.base = 0) : ∀ (n : Nat) (v2 : Int) (v3 : Int), (0 ≤ v2) ∧ (0 ≤ v2) ∧ (v2 ≤ v3) ∧ (v3 ≤ 2147483648) → Int.toNat (v3 - v2) < n → Aw.Good Try.prog none 9 (bodyPost Try.prog Try.f159 (RR cx (iv (loopF (S159_0 a0) n (v2, v3))) [] [])) cx [] (.l B159_0 n :: K159_0) ⟨[(iv a0), .u, .u, (iv v2), (iv v3), .u, .u, .u, .u, .u, .u, .u, .u, .u, .u, .u, .u, .u, .u, .u, .u, .u, .u], []⟩ := by
  intro n
  induction n with
  | zero => intro v2 v3 hi hn; exact absurd hn (Nat.not_lt_zero _)
  | succ n ih =>
    intro v2 v3 hi hn
    refine good_round ?_
    cases h0 : (decide ((v2 : Int) < v3)) with
    | true =>
      cases h1 : (decide (((W ((W (Int.tdiv (W ((W (v2 + v3)) + 1)) 2)) * (W (Int.tdiv (W ((W (v2 + v3)) + 1)) 2)))) : Int) ≤ a0)) with
      | true =>
        have q0 := of_decide_eq_true h0
        have q1 := of_decide_eq_true h1
        have hw := mid1_eq (a := v2) (b := v3) (by omega)
        have hw2 := mid2_eq (a := v2) (b := v3) (by omega)
        have e : S159_0 a0 (v2, v3) = (.inl ((W (Int.tdiv (W ((W (v2 + v3)) + 1)) 2)), v3)) := by simp only [S159_0, h0, h1, cond_true, cond_false]
        rw [loopF_inl e]
        refine back_of (T := T0) hT hm (f := 5000) (orc := [.d true, .d true]) [] [0, 3, 4] [] hcx (body := B159_0) (m := n) (k' := K159_0) (s' := ⟨[(iv a0), .u, .u, (iv (W (Int.tdiv (W ((W (v2 + v3)) + 1)) 2))), (iv v3), .u, .u, .u, .u, .u, .u, .u, .u, .u, .u, .u, .u, .u, .u, .u, .u, .u, .u], []⟩)
          (obs := [.eq (decide ((v2 : Int) < v3)) true, .pr ((2 : Int) ≠ 0), .eq (decide (((W ((W (Int.tdiv (W ((W (v2 + v3)) + 1)) 2)) * (W (Int.tdiv (W ((W (v2 + v3)) + 1)) 2)))) : Int) ≤ a0)) true]) (by kernel_rfl) ⟨h0, (show (2 : Int) ≠ 0 from by decide), h1, trivial⟩ ?_
        exact ih (W (Int.tdiv (W ((W (v2 + v3)) + 1)) 2)) v3 (by refine ⟨?_, ?_, ?_, ?_⟩ <;> (try simp only [List.length_append, List.length_cons, List.length_nil, Int.toNat_zero]) <;> first | omega | simp) (by (try simp only [List.length_append, List.length_cons, List.length_nil, Int.toNat_zero]); omega)
      | false =>
        have q0 := of_decide_eq_true h0
        have q1 := of_decide_eq_false h1
        have hw := mid1_eq (a := v2) (b := v3) (by omega)
        have hw2 := mid2_eq (a := v2) (b := v3) (by omega)
        have e : S159_0 a0 (v2, v3) = (.inl (v2, (W ((W (Int.tdiv (W ((W (v2 + v3)) + 1)) 2)) - 1)))) := by simp only [S159_0, h0, h1, cond_true, cond_false]
        rw [loopF_inl e]
        refine back_of (T := T0) hT hm (f := 5000) (orc := [.d true, .d false]) [] [0, 3, 4] [] hcx (body := B159_0) (m := n) (k' := K159_0) (s' := ⟨[(iv a0), .u, .u, (iv v2), (iv (W ((W (Int.tdiv (W ((W (v2 + v3)) + 1)) 2)) - 1))), .u, .u, .u, .u, .u, .u, .u, .u, .u, .u, .u, .u, .u, .u, .u, .u, .u, .u], []⟩)
          (obs := [.eq (decide ((v2 : Int) < v3)) true, .pr ((2 : Int) ≠ 0), .eq (decide (((W ((W (Int.tdiv (W ((W (v2 + v3)) + 1)) 2)) * (W (Int.tdiv (W ((W (v2 + v3)) + 1)) 2)))) : Int) ≤ a0)) false]) (by kernel_rfl) ⟨h0, (show (2 : Int) ≠ 0 from by decide), h1, trivial⟩ ?_
        exact ih v2 (W ((W (Int.tdiv (W ((W (v2 + v3)) + 1)) 2)) - 1)) (by refine ⟨?_, ?_, ?_, ?_⟩ <;> (try simp only [List.length_append, List.length_cons, List.length_nil, Int.toNat_zero]) <;> first | omega | simp) (by (try simp only [List.length_append, List.length_cons, List.length_nil, Int.toNat_zero]); omega)
    | false =>
      have q0 := of_decide_eq_false h0
      have hw := mid1_eq (a := v2) (b := v3) (by omega)
      have hw2 := mid2_eq (a := v2) (b := v3) (by omega)
      have e : S159_0 a0 (v2, v3) = (.inr v2) := by simp only [S159_0, h0, cond_true, cond_false]
      rw [show loopF (S159_0 a0) (n + 1) (v2, v3) = thenF (S159_0 a0) n (S159_0 a0 (v2, v3)) from rfl, e]
      exact ret_of (T := T0) hT hm (f := 5000) (orc := [.d false]) [] [] [] hcx
        (obs := [.eq (decide ((v2 : Int) < v3)) false]) (by kernel_rfl) ⟨h0, trivial⟩

/-- facet/facetref01.floor -/
def F159 (a0 : Int) : Int :=
  (loopF (S159_0 a0) (Int.toNat (2147483648 - 0) + 1) (0, 2147483648))

theorem C159 (a0 : Int) : Con Try.prog 159 [(iv a0)] [] (iv (F159 a0)) [] := by
  have e : (F159 a0) = (loopF (S159_0 a0) (Int.toNat (2147483648 - 0) + 1) (0, 2147483648)) := by simp only [F159]
  rw [e]
  refine con_of (n := 9) Try.func159 rfl (ent Try.func159 (by kernel_rfl) rfl) (by show 1 ≤ Try.f159.ntmps; decide) (by kernel_rfl) trivial (fun cx hcx => ?_)
  refine enter_of (T := T0) hT hm (f := 5000) (orc := []) [] [0, 3, 4] [] hcx (body := B159_0) (k' := K159_0) (s' := ⟨[(iv a0), .u, .u, (iv 0), (iv 2147483648), .u, .u, .u, .u, .u, .u, .u, .u, .u, .u, .u, .u, .u, .u, .u, .u, .u, .u], []⟩)
    (obs := []) (by kernel_rfl) trivial ⟨Int.toNat (2147483648 - 0) + 1, ?_⟩
  exact L159_0 a0 hcx (Int.toNat (2147483648 - 0) + 1) 0 2147483648 (by refine ⟨?_, ?_, ?_, ?_⟩ <;> (try simp only [List.length_append, List.length_cons, List.length_nil, Int.toNat_zero]) <;> first | omega | simp) (by (try simp only [List.length_append, List.length_cons, List.length_nil, Int.toNat_zero]); omega)

/-- facet/facetref01.told -/
def F121 (a0 : Int) (a1 : Int) : (Int × Int) × Int :=
  (bif (!(F124 (a0, a1))) then
   ((0, 0), 4)
  else
   ((a0, a1), 0))

theorem C121 (a0 : Int) (a1 : Int) : Con Try.prog 121 [(iv a0), (iv a1)] [] (.t [(.a (k2 (F121 a0 a1).1)), (iv (F121 a0 a1).2)]) [] := by
  cases h0 : (!(F124 (a0, a1))) with
  | true =>
    have e : (F121 a0 a1) = ((0, 0), 4) := by simp only [F121, h0, cond_true, cond_false]
    rw [e]
    refine con_of (n := 9) Try.func121 rfl (ent Try.func121 (by kernel_rfl) rfl) (by show 2 ≤ Try.f121.ntmps; decide) (by kernel_rfl) trivial (fun cx hcx => ?_)
    exact ret_of (T := T0) hT hm (f := 5000) (orc := [.call [] (.v (.bool (F124 (a0, a1)))) [], .d true]) [] [] [] hcx
      (obs := [.call 124 [(.a [(iv a0), (iv a1)])] [] (.v (.bool (F124 (a0, a1)))) [], .eq (!(F124 (a0, a1))) true]) (by kernel_rfl) ⟨(C124 (a0, a1)), h0, trivial⟩
  | false =>
    have e : (F121 a0 a1) = ((a0, a1), 0) := by simp only [F121, h0, cond_true, cond_false]
    rw [e]
    refine con_of (n := 9) Try.func121 rfl (ent Try.func121 (by kernel_rfl) rfl) (by show 2 ≤ Try.f121.ntmps; decide) (by kernel_rfl) trivial (fun cx hcx => ?_)
    exact ret_of (T := T0) hT hm (f := 5000) (orc := [.call [] (.v (.bool (F124 (a0, a1)))) [], .d false]) [] [] [] hcx
      (obs := [.call 124 [(.a [(iv a0), (iv a1)])] [] (.v (.bool (F124 (a0, a1)))) [], .eq (!(F124 (a0, a1))) false]) (by kernel_rfl) ⟨(C124 (a0, a1)), h0, trivial⟩

/-- facet/facetref01.below -/
def F154 (a0 : Int) (a1 : Int) : (Int × Int) × Int :=
  (bif (((Int.tmod a0 a1) : Int) == 0) then
   (bif (((W ((F159 (W (Int.tdiv a0 a1))) * (F159 (W (Int.tdiv a0 a1))))) : Int) == (W (Int.tdiv a0 a1))) then
    ((F121 (F159 (W (Int.tdiv a0 a1))) (F159 (W (Int.tdiv a0 a1)))).1, (F121 (F159 (W (Int.tdiv a0 a1))) (F159 (W (Int.tdiv a0 a1)))).2)
   else
    ((F121 (F159 (W (Int.tdiv a0 a1))) (W ((F159 (W (Int.tdiv a0 a1))) + 1))).1, (F121 (F159 (W (Int.tdiv a0 a1))) (W ((F159 (W (Int.tdiv a0 a1))) + 1))).2))
  else
   ((F121 (F159 (W (Int.tdiv a0 a1))) (W ((F159 (W (Int.tdiv a0 a1))) + 1))).1, (F121 (F159 (W (Int.tdiv a0 a1))) (W ((F159 (W (Int.tdiv a0 a1))) + 1))).2))

noncomputable def oC154_0 (a0 : Int) (a1 : Int) : Or := .call [] (.t [(.a (k2 (F121 (F159 (W (Int.tdiv a0 a1))) (W ((F159 (W (Int.tdiv a0 a1))) + 1))).1)), (iv (F121 (F159 (W (Int.tdiv a0 a1))) (W ((F159 (W (Int.tdiv a0 a1))) + 1))).2)]) []
noncomputable def oC154_1 (a0 : Int) (a1 : Int) : Ob := .call 121 [(iv (F159 (W (Int.tdiv a0 a1)))), (iv (W ((F159 (W (Int.tdiv a0 a1))) + 1)))] [] (.t [(.a (k2 (F121 (F159 (W (Int.tdiv a0 a1))) (W ((F159 (W (Int.tdiv a0 a1))) + 1))).1)), (iv (F121 (F159 (W (Int.tdiv a0 a1))) (W ((F159 (W (Int.tdiv a0 a1))) + 1))).2)]) []
theorem C154 (a0 : Int) (a1 : Int) (ha : a1 ≠ 0) : Con Try.prog 154 [(iv a0), (iv a1)] [] (.t [(.a (k2 (F154 a0 a1).1)), (iv (F154 a0 a1).2)]) [] := by
  cases h0 : (((Int.tmod a0 a1) : Int) == 0) with
  | true =>
    cases h1 : (((W ((F159 (W (Int.tdiv a0 a1))) * (F159 (W (Int.tdiv a0 a1))))) : Int) == (W (Int.tdiv a0 a1))) with
    | true =>
      have q0 := eq_of_beq h0
      have q1 := eq_of_beq h1
      have e : (F154 a0 a1) = ((F121 (F159 (W (Int.tdiv a0 a1))) (F159 (W (Int.tdiv a0 a1)))).1, (F121 (F159 (W (Int.tdiv a0 a1))) (F159 (W (Int.tdiv a0 a1)))).2) := by simp only [F154, h0, h1, cond_true, cond_false]
      rw [e]
      refine con_of (n := 9) Try.func154 rfl (ent Try.func154 (by kernel_rfl) rfl) (by show 2 ≤ Try.f154.ntmps; decide) (by kernel_rfl) trivial (fun cx hcx => ?_)
      exact ret_of (T := T0) hT hm (f := 5000) (orc := [.call [] (iv (F159 (W (Int.tdiv a0 a1)))) [], .d true, .d true, .call [] (.t [(.a (k2 (F121 (F159 (W (Int.tdiv a0 a1))) (F159 (W (Int.tdiv a0 a1)))).1)), (iv (F121 (F159 (W (Int.tdiv a0 a1))) (F159 (W (Int.tdiv a0 a1)))).2)]) []]) [] [] [] hcx
        (obs := [.pr ((a1 : Int) ≠ 0), .call 159 [(iv (W (Int.tdiv a0 a1)))] [] (iv (F159 (W (Int.tdiv a0 a1)))) [], .pr ((a1 : Int) ≠ 0), .eq (((Int.tmod a0 a1) : Int) == 0) true, .pr ((a1 : Int) ≠ 0), .eq (((W ((F159 (W (Int.tdiv a0 a1))) * (F159 (W (Int.tdiv a0 a1))))) : Int) == (W (Int.tdiv a0 a1))) true, .call 121 [(iv (F159 (W (Int.tdiv a0 a1)))), (iv (F159 (W (Int.tdiv a0 a1))))] [] (.t [(.a (k2 (F121 (F159 (W (Int.tdiv a0 a1))) (F159 (W (Int.tdiv a0 a1)))).1)), (iv (F121 (F159 (W (Int.tdiv a0 a1))) (F159 (W (Int.tdiv a0 a1)))).2)]) []]) (by kernel_rfl) ⟨(show (a1 : Int) ≠ 0 from by first | omega | (rw [W_eq] <;> omega) | exact u64_nn _), (C159 (W (Int.tdiv a0 a1))), (show (a1 : Int) ≠ 0 from by first | omega | (rw [W_eq] <;> omega) | exact u64_nn _), h0, (show (a1 : Int) ≠ 0 from by first | omega | (rw [W_eq] <;> omega) | exact u64_nn _), h1, (C121 (F159 (W (Int.tdiv a0 a1))) (F159 (W (Int.tdiv a0 a1)))), trivial⟩
    | false =>
      have q0 := eq_of_beq h0
      have q1 := ne_of_beq_false h1
      have e : (F154 a0 a1) = ((F121 (F159 (W (Int.tdiv a0 a1))) (W ((F159 (W (Int.tdiv a0 a1))) + 1))).1, (F121 (F159 (W (Int.tdiv a0 a1))) (W ((F159 (W (Int.tdiv a0 a1))) + 1))).2) := by simp only [F154, h0, h1, cond_true, cond_false]
      rw [e]
      refine con_of (n := 9) Try.func154 rfl (ent Try.func154 (by kernel_rfl) rfl) (by show 2 ≤ Try.f154.ntmps; decide) (by kernel_rfl) trivial (fun cx hcx => ?_)
      exact ret_of (T := T0) hT hm (f := 5000) (orc := [.call [] (iv (F159 (W (Int.tdiv a0 a1)))) [], .d true, .d false, (oC154_0 a0 a1)]) [] [] [] hcx
        (obs := [.pr ((a1 : Int) ≠ 0), .call 159 [(iv (W (Int.tdiv a0 a1)))] [] (iv (F159 (W (Int.tdiv a0 a1)))) [], .pr ((a1 : Int) ≠ 0), .eq (((Int.tmod a0 a1) : Int) == 0) true, .pr ((a1 : Int) ≠ 0), .eq (((W ((F159 (W (Int.tdiv a0 a1))) * (F159 (W (Int.tdiv a0 a1))))) : Int) == (W (Int.tdiv a0 a1))) false, (oC154_1 a0 a1)]) (by kernel_rfl) ⟨(show (a1 : Int) ≠ 0 from by first | omega | (rw [W_eq] <;> omega) | exact u64_nn _), (C159 (W (Int.tdiv a0 a1))), (show (a1 : Int) ≠ 0 from by first | omega | (rw [W_eq] <;> omega) | exact u64_nn _), h0, (show (a1 : Int) ≠ 0 from by first | omega | (rw [W_eq] <;> omega) | exact u64_nn _), h1, (C121 (F159 (W (Int.tdiv a0 a1))) (W ((F159 (W (Int.tdiv a0 a1))) + 1))), trivial⟩
  | false =>
    have q0 := ne_of_beq_false h0
    have e : (F154 a0 a1) = ((F121 (F159 (W (Int.tdiv a0 a1))) (W ((F159 (W (Int.tdiv a0 a1))) + 1))).1, (F121 (F159 (W (Int.tdiv a0 a1))) (W ((F159 (W (Int.tdiv a0 a1))) + 1))).2) := by simp only [F154, h0, cond_true, cond_false]
    rw [e]
    refine con_of (n := 9) Try.func154 rfl (ent Try.func154 (by kernel_rfl) rfl) (by show 2 ≤ Try.f154.ntmps; decide) (by kernel_rfl) trivial (fun cx hcx => ?_)
    exact ret_of (T := T0) hT hm (f := 5000) (orc := [.call [] (iv (F159 (W (Int.tdiv a0 a1)))) [], .d false, (oC154_0 a0 a1)]) [] [] [] hcx
      (obs := [.pr ((a1 : Int) ≠ 0), .call 159 [(iv (W (Int.tdiv a0 a1)))] [] (iv (F159 (W (Int.tdiv a0 a1)))) [], .pr ((a1 : Int) ≠ 0), .eq (((Int.tmod a0 a1) : Int) == 0) false, (oC154_1 a0 a1)]) (by kernel_rfl) ⟨(show (a1 : Int) ≠ 0 from by first | omega | (rw [W_eq] <;> omega) | exact u64_nn _), (C159 (W (Int.tdiv a0 a1))), (show (a1 : Int) ≠ 0 from by first | omega | (rw [W_eq] <;> omega) | exact u64_nn _), h0, (C121 (F159 (W (Int.tdiv a0 a1))) (W ((F159 (W (Int.tdiv a0 a1))) + 1))), trivial⟩

/-- facet/facetref01.Inverse -/
def F119 (a0 : Int) (a1 : Int) : (Int × Int) × Int :=
  (bif (!(F125 a0 1 1099511627776)) then
   ((0, 0), 1)
  else
   (bif (!(F125 a1 1 8)) then
    ((0, 0), 1)
   else
    ((F154 (W ((W ((W (1048576 * a1)) * 1048576)) * a1)) a0).1, (F154 (W ((W ((W (1048576 * a1)) * 1048576)) * a1)) a0).2)))

noncomputable def oC119_0 (a0 : Int) : Ob := .call 125 [(iv a0), (iv 1), (iv 1099511627776)] [] (.v (.bool (F125 a0 1 1099511627776))) []
theorem C119 (a0 : Int) (a1 : Int) : Con Try.prog 119 [(iv a0), (iv a1)] [] (.t [(.a (k2 (F119 a0 a1).1)), (iv (F119 a0 a1).2)]) [] := by
  cases h0 : (!(F125 a0 1 1099511627776)) with
  | true =>
    have e : (F119 a0 a1) = ((0, 0), 1) := by simp only [F119, h0, cond_true, cond_false]
    rw [e]
    refine con_of (n := 9) Try.func119 rfl (ent Try.func119 (by kernel_rfl) rfl) (by show 2 ≤ Try.f119.ntmps; decide) (by kernel_rfl) trivial (fun cx hcx => ?_)
    exact ret_of (T := T0) hT hm (f := 5000) (orc := [.call [] (.v (.bool (F125 a0 1 1099511627776))) [], .d true]) [] [] [] hcx
      (obs := [(oC119_0 a0), .eq (!(F125 a0 1 1099511627776)) true]) (by kernel_rfl) ⟨(C125 a0 1 1099511627776), h0, trivial⟩
  | false =>
    cases h1 : (!(F125 a1 1 8)) with
    | true =>
      have e : (F119 a0 a1) = ((0, 0), 1) := by simp only [F119, h0, h1, cond_true, cond_false]
      rw [e]
      refine con_of (n := 9) Try.func119 rfl (ent Try.func119 (by kernel_rfl) rfl) (by show 2 ≤ Try.f119.ntmps; decide) (by kernel_rfl) trivial (fun cx hcx => ?_)
      exact ret_of (T := T0) hT hm (f := 5000) (orc := [.call [] (.v (.bool (F125 a0 1 1099511627776))) [], .d false, .call [] (.v (.bool (F125 a1 1 8))) [], .d true]) [] [] [] hcx
        (obs := [(oC119_0 a0), .eq (!(F125 a0 1 1099511627776)) false, .call 125 [(iv a1), (iv 1), (iv 8)] [] (.v (.bool (F125 a1 1 8))) [], .eq (!(F125 a1 1 8)) true]) (by kernel_rfl) ⟨(C125 a0 1 1099511627776), h0, (C125 a1 1 8), h1, trivial⟩
    | false =>
      have e : (F119 a0 a1) = ((F154 (W ((W ((W (1048576 * a1)) * 1048576)) * a1)) a0).1, (F154 (W ((W ((W (1048576 * a1)) * 1048576)) * a1)) a0).2) := by simp only [F119, h0, h1, cond_true, cond_false]
      rw [e]
      refine con_of (n := 9) Try.func119 rfl (ent Try.func119 (by kernel_rfl) rfl) (by show 2 ≤ Try.f119.ntmps; decide) (by kernel_rfl) trivial (fun cx hcx => ?_)
      exact ret_of (T := T0) hT hm (f := 5000) (orc := [.call [] (.v (.bool (F125 a0 1 1099511627776))) [], .d false, .call [] (.v (.bool (F125 a1 1 8))) [], .d false, .call [] (.t [(.a (k2 (F154 (W ((W ((W (1048576 * a1)) * 1048576)) * a1)) a0).1)), (iv (F154 (W ((W ((W (1048576 * a1)) * 1048576)) * a1)) a0).2)]) []]) [] [] [] hcx
        (obs := [(oC119_0 a0), .eq (!(F125 a0 1 1099511627776)) false, .call 125 [(iv a1), (iv 1), (iv 8)] [] (.v (.bool (F125 a1 1 8))) [], .eq (!(F125 a1 1 8)) false, .call 154 [(iv (W ((W ((W (1048576 * a1)) * 1048576)) * a1))), (iv a0)] [] (.t [(.a (k2 (F154 (W ((W ((W (1048576 * a1)) * 1048576)) * a1)) a0).1)), (iv (F154 (W ((W ((W (1048576 * a1)) * 1048576)) * a1)) a0).2)]) []]) (by kernel_rfl) ⟨(C125 a0 1 1099511627776), h0, (C125 a1 1 8), h1, (C154 (W ((W ((W (1048576 * a1)) * 1048576)) * a1)) a0  (win_ne h0)), trivial⟩

/-- facet/facetref02.Minus -/
def F152 (a0 : Int × Int × Int) (a1 : Int × Int × Int) : Int × Int × Int :=
  ((W (a0.1 - a1.1)), (W (a0.2.1 - a1.2.1)), (W (a0.2.2 - a1.2.2)))

theorem C152 (a0 : Int × Int × Int) (a1 : Int × Int × Int) : Con Try.prog 152 [(.a (k3 a0)), (.a (k3 a1))] [] (.a (k3 (F152 a0 a1))) [] := by
  have e : (F152 a0 a1) = ((W (a0.1 - a1.1)), (W (a0.2.1 - a1.2.1)), (W (a0.2.2 - a1.2.2))) := by simp only [F152]
  rw [e]
  refine con_of (n := 9) Try.func152 rfl (ent Try.func152 (by kernel_rfl) rfl) (by show 2 ≤ Try.f152.ntmps; decide) (by kernel_rfl) trivial (fun cx hcx => ?_)
  exact ret_of (T := T0) hT hm (f := 5000) (orc := []) [] [] [] hcx
    (obs := []) (by kernel_rfl) trivial

/-- facet/facetref02.Cross -/
def F151 (a0 : Int × Int × Int) (a1 : Int × Int × Int) : Int × Int × Int :=
  ((W ((W (a0.2.1 * a1.2.2)) - (W (a0.2.2 * a1.2.1)))), (W ((W (a0.2.2 * a1.1)) - (W (a0.1 * a1.2.2)))), (W ((W (a0.1 * a1.2.1)) - (W (a0.2.1 * a1.1)))))

theorem C151 (a0 : Int × Int × Int) (a1 : Int × Int × Int) : Con Try.prog 151 [(.a (k3 a0)), (.a (k3 a1))] [] (.a (k3 (F151 a0 a1))) [] := by
  have e : (F151 a0 a1) = ((W ((W (a0.2.1 * a1.2.2)) - (W (a0.2.2 * a1.2.1)))), (W ((W (a0.2.2 * a1.1)) - (W (a0.1 * a1.2.2)))), (W ((W (a0.1 * a1.2.1)) - (W (a0.2.1 * a1.1))))) := by simp only [F151]
  rw [e]
  refine con_of (n := 9) Try.func151 rfl (ent Try.func151 (by kernel_rfl) rfl) (by show 2 ≤ Try.f151.ntmps; decide) (by kernel_rfl) trivial (fun cx hcx => ?_)
  exact ret_of (T := T0) hT hm (f := 5000) (orc := []) [] [] [] hcx
    (obs := []) (by kernel_rfl) trivial

/-- facet/facetref02.Across -/
def F112 (a0 : (Int × Int × Int) × (Int × Int × Int) × Int × Int × Int) : Int × Int × Int :=
  (F151 (F152 a0.2.1 a0.1) (F152 a0.2.2 a0.1))

theorem C112 (a0 : (Int × Int × Int) × (Int × Int × Int) × Int × Int × Int) : Con Try.prog 112 [(.a (k9 a0))] [] (.a (k3 (F112 a0))) [] := by
  have e : (F112 a0) = (F151 (F152 a0.2.1 a0.1) (F152 a0.2.2 a0.1)) := by simp only [F112]
  rw [e]
  refine con_of (n := 9) Try.func112 rfl (ent Try.func112 (by kernel_rfl) rfl) (by show 1 ≤ Try.f112.ntmps; decide) (by kernel_rfl) trivial (fun cx hcx => ?_)
  exact ret_of (T := T0) hT hm (f := 5000) (orc := [.call [] (.a (k3 (F152 a0.2.1 a0.1))) [], .call [] (.a (k3 (F152 a0.2.2 a0.1))) [], .call [] (.a (k3 (F151 (F152 a0.2.1 a0.1) (F152 a0.2.2 a0.1)))) []]) [] [] [] hcx
    (obs := [.call 152 [(.a (k3 a0.2.1)), (.a (k3 a0.1))] [] (.a (k3 (F152 a0.2.1 a0.1))) [], .call 152 [(.a (k3 a0.2.2)), (.a (k3 a0.1))] [] (.a (k3 (F152 a0.2.2 a0.1))) [], .call 151 [(.a (k3 (F152 a0.2.1 a0.1))), (.a (k3 (F152 a0.2.2 a0.1)))] [] (.a (k3 (F151 (F152 a0.2.1 a0.1) (F152 a0.2.2 a0.1)))) []]) (by kernel_rfl) ⟨(C152 a0.2.1 a0.1), (C152 a0.2.2 a0.1), (C151 (F152 a0.2.1 a0.1) (F152 a0.2.2 a0.1)), trivial⟩

/-- facet/facetref02.within -/
def F150 (a0 : Int) (a1 : Int) (a2 : Int) : Bool :=
  (bif (decide ((a0 : Int) ≥ a1)) then
   (decide ((a0 : Int) ≤ a2))
  else
   false)

theorem C150 (a0 : Int) (a1 : Int) (a2 : Int) : Con Try.prog 150 [(iv a0), (iv a1), (iv a2)] [] (.v (.bool (F150 a0 a1 a2))) [] := by
  cases h0 : (decide ((a0 : Int) ≥ a1)) with
  | true =>
    have q0 := of_decide_eq_true h0
    have e : (F150 a0 a1 a2) = (decide ((a0 : Int) ≤ a2)) := by simp only [F150, h0, cond_true, cond_false]
    rw [e]
    refine con_of (n := 9) Try.func150 rfl (ent Try.func150 (by kernel_rfl) rfl) (by show 3 ≤ Try.f150.ntmps; decide) (by kernel_rfl) trivial (fun cx hcx => ?_)
    exact ret_of (T := T0) hT hm (f := 5000) (orc := [.d true]) [] [] [] hcx
      (obs := [.eq (decide ((a0 : Int) ≥ a1)) true]) (by kernel_rfl) ⟨h0, trivial⟩
  | false =>
    have q0 := of_decide_eq_false h0
    have e : (F150 a0 a1 a2) = false := by simp only [F150, h0, cond_true, cond_false]
    rw [e]
    refine con_of (n := 9) Try.func150 rfl (ent Try.func150 (by kernel_rfl) rfl) (by show 3 ≤ Try.f150.ntmps; decide) (by kernel_rfl) trivial (fun cx hcx => ?_)
    exact ret_of (T := T0) hT hm (f := 5000) (orc := [.d false]) [] [] [] hcx
      (obs := [.eq (decide ((a0 : Int) ≥ a1)) false]) (by kernel_rfl) ⟨h0, trivial⟩

/-- facet/facetref02.near -/
def F111 (a0 : Int × Int × Int) (a1 : Int) : Bool :=
  (bif (F150 a0.1 (W (0 - a1)) a1) then
   (bif (F150 a0.2.1 (W (0 - a1)) a1) then
    (F150 a0.2.2 (W (0 - a1)) a1)
   else
    false)
  else
   false)

noncomputable def oC111_0 (a0 : Int × Int × Int) (a1 : Int) : Ob := .call 150 [(iv a0.1), (iv (W (0 - a1))), (iv a1)] [] (.v (.bool (F150 a0.1 (W (0 - a1)) a1))) []
theorem C111 (a0 : Int × Int × Int) (a1 : Int) : Con Try.prog 111 [(.a (k3 a0)), (iv a1)] [] (.v (.bool (F111 a0 a1))) [] := by
  cases h0 : (F150 a0.1 (W (0 - a1)) a1) with
  | true =>
    cases h1 : (F150 a0.2.1 (W (0 - a1)) a1) with
    | true =>
      have e : (F111 a0 a1) = (F150 a0.2.2 (W (0 - a1)) a1) := by simp only [F111, h0, h1, cond_true, cond_false]
      rw [e]
      refine con_of (n := 9) Try.func111 rfl (ent Try.func111 (by kernel_rfl) rfl) (by show 2 ≤ Try.f111.ntmps; decide) (by kernel_rfl) trivial (fun cx hcx => ?_)
      exact ret_of (T := T0) hT hm (f := 5000) (orc := [.call [] (.v (.bool (F150 a0.1 (W (0 - a1)) a1))) [], .d true, .call [] (.v (.bool (F150 a0.2.1 (W (0 - a1)) a1))) [], .d true, .call [] (.v (.bool (F150 a0.2.2 (W (0 - a1)) a1))) []]) [] [] [] hcx
        (obs := [(oC111_0 a0 a1), .eq (F150 a0.1 (W (0 - a1)) a1) true, .call 150 [(iv a0.2.1), (iv (W (0 - a1))), (iv a1)] [] (.v (.bool (F150 a0.2.1 (W (0 - a1)) a1))) [], .eq (F150 a0.2.1 (W (0 - a1)) a1) true, .call 150 [(iv a0.2.2), (iv (W (0 - a1))), (iv a1)] [] (.v (.bool (F150 a0.2.2 (W (0 - a1)) a1))) []]) (by kernel_rfl) ⟨(C150 a0.1 (W (0 - a1)) a1), h0, (C150 a0.2.1 (W (0 - a1)) a1), h1, (C150 a0.2.2 (W (0 - a1)) a1), trivial⟩
    | false =>
      have e : (F111 a0 a1) = false := by simp only [F111, h0, h1, cond_true, cond_false]
      rw [e]
      refine con_of (n := 9) Try.func111 rfl (ent Try.func111 (by kernel_rfl) rfl) (by show 2 ≤ Try.f111.ntmps; decide) (by kernel_rfl) trivial (fun cx hcx => ?_)
      exact ret_of (T := T0) hT hm (f := 5000) (orc := [.call [] (.v (.bool (F150 a0.1 (W (0 - a1)) a1))) [], .d true, .call [] (.v (.bool (F150 a0.2.1 (W (0 - a1)) a1))) [], .d false]) [] [] [] hcx
        (obs := [(oC111_0 a0 a1), .eq (F150 a0.1 (W (0 - a1)) a1) true, .call 150 [(iv a0.2.1), (iv (W (0 - a1))), (iv a1)] [] (.v (.bool (F150 a0.2.1 (W (0 - a1)) a1))) [], .eq (F150 a0.2.1 (W (0 - a1)) a1) false]) (by kernel_rfl) ⟨(C150 a0.1 (W (0 - a1)) a1), h0, (C150 a0.2.1 (W (0 - a1)) a1), h1, trivial⟩
  | false =>
    have e : (F111 a0 a1) = false := by simp only [F111, h0, cond_true, cond_false]
    rw [e]
    refine con_of (n := 9) Try.func111 rfl (ent Try.func111 (by kernel_rfl) rfl) (by show 2 ≤ Try.f111.ntmps; decide) (by kernel_rfl) trivial (fun cx hcx => ?_)
    exact ret_of (T := T0) hT hm (f := 5000) (orc := [.call [] (.v (.bool (F150 a0.1 (W (0 - a1)) a1))) [], .d false]) [] [] [] hcx
      (obs := [(oC111_0 a0 a1), .eq (F150 a0.1 (W (0 - a1)) a1) false]) (by kernel_rfl) ⟨(C150 a0.1 (W (0 - a1)) a1), h0, trivial⟩

/-- facet/facetref02.ValidatePanel -/
def F85 (a0 : (Int × Int × Int) × (Int × Int × Int) × Int × Int × Int) : Int :=
  (bif (!(F111 a0.1 64)) then
   1
  else
   (bif (!(F111 a0.2.1 64)) then
    1
   else
    (bif (!(F111 a0.2.2 64)) then
     1
    else
     (bif ((((F112 a0).1 : Int) == 0) && ((((F112 a0).2.1 : Int) == 0) && ((((F112 a0).2.2 : Int) == 0) && true))) then
      6
     else
      0))))

noncomputable def oC85_0 (a0 : (Int × Int × Int) × (Int × Int × Int) × Int × Int × Int) : Ob := .call 111 [(.a (k3 a0.1)), (iv 64)] [] (.v (.bool (F111 a0.1 64))) []
noncomputable def oC85_1 (a0 : (Int × Int × Int) × (Int × Int × Int) × Int × Int × Int) : Ob := .call 111 [(.a (k3 a0.2.1)), (iv 64)] [] (.v (.bool (F111 a0.2.1 64))) []
theorem C85 (a0 : (Int × Int × Int) × (Int × Int × Int) × Int × Int × Int) : Con Try.prog 85 [(.a (k9 a0))] [] (iv (F85 a0)) [] := by
  cases h0 : (!(F111 a0.1 64)) with
  | true =>
    have e : (F85 a0) = 1 := by simp only [F85, h0, cond_true, cond_false]
    rw [e]
    refine con_of (n := 9) Try.func85 rfl (ent Try.func85 (by kernel_rfl) rfl) (by show 1 ≤ Try.f85.ntmps; decide) (by kernel_rfl) trivial (fun cx hcx => ?_)
    exact ret_of (T := T0) hT hm (f := 5000) (orc := [.call [] (.v (.bool (F111 a0.1 64))) [], .d true]) [] [] [] hcx
      (obs := [(oC85_0 a0), .eq (!(F111 a0.1 64)) true]) (by kernel_rfl) ⟨(C111 a0.1 64), h0, trivial⟩
  | false =>
    cases h1 : (!(F111 a0.2.1 64)) with
    | true =>
      have e : (F85 a0) = 1 := by simp only [F85, h0, h1, cond_true, cond_false]
      rw [e]
      refine con_of (n := 9) Try.func85 rfl (ent Try.func85 (by kernel_rfl) rfl) (by show 1 ≤ Try.f85.ntmps; decide) (by kernel_rfl) trivial (fun cx hcx => ?_)
      exact ret_of (T := T0) hT hm (f := 5000) (orc := [.call [] (.v (.bool (F111 a0.1 64))) [], .d false, .call [] (.v (.bool (F111 a0.2.1 64))) [], .d true]) [] [] [] hcx
        (obs := [(oC85_0 a0), .eq (!(F111 a0.1 64)) false, (oC85_1 a0), .eq (!(F111 a0.2.1 64)) true]) (by kernel_rfl) ⟨(C111 a0.1 64), h0, (C111 a0.2.1 64), h1, trivial⟩
    | false =>
      cases h2 : (!(F111 a0.2.2 64)) with
      | true =>
        have e : (F85 a0) = 1 := by simp only [F85, h0, h1, h2, cond_true, cond_false]
        rw [e]
        refine con_of (n := 9) Try.func85 rfl (ent Try.func85 (by kernel_rfl) rfl) (by show 1 ≤ Try.f85.ntmps; decide) (by kernel_rfl) trivial (fun cx hcx => ?_)
        exact ret_of (T := T0) hT hm (f := 5000) (orc := [.call [] (.v (.bool (F111 a0.1 64))) [], .d false, .call [] (.v (.bool (F111 a0.2.1 64))) [], .d false, .call [] (.v (.bool (F111 a0.2.2 64))) [], .d true]) [] [] [] hcx
          (obs := [(oC85_0 a0), .eq (!(F111 a0.1 64)) false, (oC85_1 a0), .eq (!(F111 a0.2.1 64)) false, .call 111 [(.a (k3 a0.2.2)), (iv 64)] [] (.v (.bool (F111 a0.2.2 64))) [], .eq (!(F111 a0.2.2 64)) true]) (by kernel_rfl) ⟨(C111 a0.1 64), h0, (C111 a0.2.1 64), h1, (C111 a0.2.2 64), h2, trivial⟩
      | false =>
        cases h3 : ((((F112 a0).1 : Int) == 0) && ((((F112 a0).2.1 : Int) == 0) && ((((F112 a0).2.2 : Int) == 0) && true))) with
        | true =>
          have e : (F85 a0) = 6 := by simp only [F85, h0, h1, h2, h3, cond_true, cond_false]
          rw [e]
          refine con_of (n := 9) Try.func85 rfl (ent Try.func85 (by kernel_rfl) rfl) (by show 1 ≤ Try.f85.ntmps; decide) (by kernel_rfl) trivial (fun cx hcx => ?_)
          exact ret_of (T := T0) hT hm (f := 5000) (orc := [.call [] (.v (.bool (F111 a0.1 64))) [], .d false, .call [] (.v (.bool (F111 a0.2.1 64))) [], .d false, .call [] (.v (.bool (F111 a0.2.2 64))) [], .d false, .call [] (.a (k3 (F112 a0))) [], .d true]) [] [] [] hcx
            (obs := [(oC85_0 a0), .eq (!(F111 a0.1 64)) false, (oC85_1 a0), .eq (!(F111 a0.2.1 64)) false, .call 111 [(.a (k3 a0.2.2)), (iv 64)] [] (.v (.bool (F111 a0.2.2 64))) [], .eq (!(F111 a0.2.2 64)) false, .call 112 [(.a (k9 a0))] [] (.a (k3 (F112 a0))) [], .eq ((((F112 a0).1 : Int) == 0) && ((((F112 a0).2.1 : Int) == 0) && ((((F112 a0).2.2 : Int) == 0) && true))) true]) (by kernel_rfl) ⟨(C111 a0.1 64), h0, (C111 a0.2.1 64), h1, (C111 a0.2.2 64), h2, (C112 a0), h3, trivial⟩
        | false =>
          have e : (F85 a0) = 0 := by simp only [F85, h0, h1, h2, h3, cond_true, cond_false]
          rw [e]
          refine con_of (n := 9) Try.func85 rfl (ent Try.func85 (by kernel_rfl) rfl) (by show 1 ≤ Try.f85.ntmps; decide) (by kernel_rfl) trivial (fun cx hcx => ?_)
          exact ret_of (T := T0) hT hm (f := 5000) (orc := [.call [] (.v (.bool (F111 a0.1 64))) [], .d false, .call [] (.v (.bool (F111 a0.2.1 64))) [], .d false, .call [] (.v (.bool (F111 a0.2.2 64))) [], .d false, .call [] (.a (k3 (F112 a0))) [], .d false]) [] [] [] hcx
            (obs := [(oC85_0 a0), .eq (!(F111 a0.1 64)) false, (oC85_1 a0), .eq (!(F111 a0.2.1 64)) false, .call 111 [(.a (k3 a0.2.2)), (iv 64)] [] (.v (.bool (F111 a0.2.2 64))) [], .eq (!(F111 a0.2.2 64)) false, .call 112 [(.a (k9 a0))] [] (.a (k3 (F112 a0))) [], .eq ((((F112 a0).1 : Int) == 0) && ((((F112 a0).2.1 : Int) == 0) && ((((F112 a0).2.2 : Int) == 0) && true))) false]) (by kernel_rfl) ⟨(C111 a0.1 64), h0, (C111 a0.2.1 64), h1, (C111 a0.2.2 64), h2, (C112 a0), h3, trivial⟩

noncomputable def B120_L_0 : Code := (loopAtD [1, 1, 1, 0, 1] [] (Try.f120.body.getD .skip) []).1
noncomputable def K120_L_0 : List K := (loopAtD [1, 1, 1, 0, 1] [] (Try.f120.body.getD .skip) []).2

/-- a round of loop 0 of facet/facetref01.total; the variables: v1 = s5, v2 = s6, v3 = s7 -/
def S120_L_0 (a0 : List (Int × Int)) : Int × Int × Int → (Int × Int × Int) ⊕ (Int × Int × Int)
  | (v1, v2, v3) =>
   (bif (decide ((v3 : Int) < ((a0.length : Nat) : Int))) then
    (bif (!(F124 (a0.getD (Int.toNat v3) default))) then
     (.inr (0, 0, 1))
    else
     (.inl ((W (v1 + (a0.getD (Int.toNat v3) default).1)), (W (v2 + (a0.getD (Int.toNat v3) default).2)), (v3 + 1))))
   else
    (.inr (v1, v2, 0)))

set_option maxHeartbeats 4000000 in
theorem L120_L_0 (a0 : List (Int × Int)) (l0 : a0.length ≤ 2 ^ 40) {cx : Cx} (hcx : cx.base = 1) : ∀ (n : Nat) (v1 : Int) (v2 : Int) (v3 : Int), 0 ≤ v3 → Int.toNat (((a0.length : Nat) : Int) - v3) < n → Aw.Good Try.prog none 9 (bodyPost Try.prog Try.f120 (RR cx (.t (k3 (loopF (S120_L_0 a0) n (v1, v2, v3)))) [] [])) cx [] (.l B120_L_0 n :: K120_L_0) ⟨[(.s 0 0 a0.length 2), .u, .u, .u, .u, (iv v1), (iv v2), (iv v3), .u, .u, .u, .u, .u, .u, .u, .u, .u, .u, .u, .u, .u, .u, .u, .u, .u, .u, .u, .u, .u, .u, .u, .u, .u, .u, .u, .u, .u, .u, .u], [(.live false true (flat c32 a0))]⟩ := by
  intro n
  induction n with
  | zero => intro v1 v2 v3 hi hn; exact absurd hn (Nat.not_lt_zero _)
  | succ n ih =>
    intro v1 v2 v3 hi hn
    refine good_round ?_
    cases h0 : (decide ((v3 : Int) < ((a0.length : Nat) : Int))) with
    | true =>
      cases h1 : (!(F124 (a0.getD (Int.toNat v3) default))) with
      | true =>
        have q0 := of_decide_eq_true h0
        have e : S120_L_0 a0 (v1, v2, v3) = (.inr (0, 0, 1)) := by simp only [S120_L_0, h0, h1, cond_true, cond_false]
        rw [show loopF (S120_L_0 a0) (n + 1) (v1, v2, v3) = thenF (S120_L_0 a0) n (S120_L_0 a0 (v1, v2, v3)) from rfl, e]
        exact ret_of (T := T0) hT hm (f := 5000) (orc := [.d true, .ld (k2 (a0.getD (Int.toNat v3) default)), .call [] (.v (.bool (F124 (a0.getD (Int.toNat v3) default)))) [], .d true]) [] [] [] hcx
          (obs := [.eq (decide ((v3 : Int) < ((a0.length : Nat) : Int))) true, .pr (0 ≤ (v3 : Int) ∧ (v3 : Int) < ((a0.length : Nat) : Int)), .pr (((((flat c32 a0)).drop (0 + Int.toNat v3 * 2)).take 2) = (k2 (a0.getD (Int.toNat v3) default))), .call 124 [(.a (k2 (a0.getD (Int.toNat v3) default)))] [] (.v (.bool (F124 (a0.getD (Int.toNat v3) default)))) [], .eq (!(F124 (a0.getD (Int.toNat v3) default))) true]) (by kernel_rfl) ⟨h0, (show 0 ≤ (v3 : Int) ∧ (v3 : Int) < ((a0.length : Nat) : Int) from by first | omega | (rw [W_eq] <;> omega) | exact u64_nn _), (ld_part c32_len default a0 v3 0 2 (by omega) (by decide) (by omega) rfl), (C124 (a0.getD (Int.toNat v3) default)), h1, trivial⟩
      | false =>
        have q0 := of_decide_eq_true h0
        have e : S120_L_0 a0 (v1, v2, v3) = (.inl ((W (v1 + (a0.getD (Int.toNat v3) default).1)), (W (v2 + (a0.getD (Int.toNat v3) default).2)), (v3 + 1))) := by simp only [S120_L_0, h0, h1, cond_true, cond_false]
        rw [loopF_inl e]
        refine back_of (T := T0) hT hm (f := 5000) (orc := [.d true, .ld (k2 (a0.getD (Int.toNat v3) default)), .call [] (.v (.bool (F124 (a0.getD (Int.toNat v3) default)))) [], .d false, .ld [(iv (a0.getD (Int.toNat v3) default).1)], .ld [(iv (a0.getD (Int.toNat v3) default).2)]]) [] [0, 5, 6, 7] [] hcx (body := B120_L_0) (m := n) (k' := K120_L_0) (s' := ⟨[(.s 0 0 a0.length 2), .u, .u, .u, .u, (iv (W (v1 + (a0.getD (Int.toNat v3) default).1))), (iv (W (v2 + (a0.getD (Int.toNat v3) default).2))), (iv (W (v3 + 1))), .u, .u, .u, .u, .u, .u, .u, .u, .u, .u, .u, .u, .u, .u, .u, .u, .u, .u, .u, .u, .u, .u, .u, .u, .u, .u, .u, .u, .u, .u, .u], [(.live false true (flat c32 a0))]⟩)
          (obs := [.eq (decide ((v3 : Int) < ((a0.length : Nat) : Int))) true, .pr (0 ≤ (v3 : Int) ∧ (v3 : Int) < ((a0.length : Nat) : Int)), .pr (((((flat c32 a0)).drop (0 + Int.toNat v3 * 2)).take 2) = (k2 (a0.getD (Int.toNat v3) default))), .call 124 [(.a (k2 (a0.getD (Int.toNat v3) default)))] [] (.v (.bool (F124 (a0.getD (Int.toNat v3) default)))) [], .eq (!(F124 (a0.getD (Int.toNat v3) default))) false, .pr (0 ≤ (v3 : Int) ∧ (v3 : Int) < ((a0.length : Nat) : Int)), .pr (((((flat c32 a0)).drop (0 + Int.toNat v3 * 2 + 0)).take 1) = [(iv (a0.getD (Int.toNat v3) default).1)]), .pr (0 ≤ (v3 : Int) ∧ (v3 : Int) < ((a0.length : Nat) : Int)), .pr (((((flat c32 a0)).drop (0 + Int.toNat v3 * 2 + 1)).take 1) = [(iv (a0.getD (Int.toNat v3) default).2)])]) (by kernel_rfl) ⟨h0, (show 0 ≤ (v3 : Int) ∧ (v3 : Int) < ((a0.length : Nat) : Int) from by first | omega | (rw [W_eq] <;> omega) | exact u64_nn _), (ld_part c32_len default a0 v3 0 2 (by omega) (by decide) (by omega) rfl), (C124 (a0.getD (Int.toNat v3) default)), h1, (show 0 ≤ (v3 : Int) ∧ (v3 : Int) < ((a0.length : Nat) : Int) from by first | omega | (rw [W_eq] <;> omega) | exact u64_nn _), (ld_part c32_len default a0 v3 0 1 (by omega) (by decide) (by omega) rfl), (show 0 ≤ (v3 : Int) ∧ (v3 : Int) < ((a0.length : Nat) : Int) from by first | omega | (rw [W_eq] <;> omega) | exact u64_nn _), (ld_part c32_len default a0 v3 1 1 (by omega) (by decide) (by omega) rfl), trivial⟩ ?_
        have z0 : (W (v3 + 1)) = (v3 + 1) := W_eq (by omega) (by omega)
        rw [z0]
        exact ih (W (v1 + (a0.getD (Int.toNat v3) default).1)) (W (v2 + (a0.getD (Int.toNat v3) default).2)) (v3 + 1) (by (try simp only [List.length_append, List.length_cons, List.length_nil, Int.toNat_zero]); omega) (by (try simp only [List.length_append, List.length_cons, List.length_nil, Int.toNat_zero]); omega)
    | false =>
      have q0 := of_decide_eq_false h0
      have e : S120_L_0 a0 (v1, v2, v3) = (.inr (v1, v2, 0)) := by simp only [S120_L_0, h0, cond_true, cond_false]
      rw [show loopF (S120_L_0 a0) (n + 1) (v1, v2, v3) = thenF (S120_L_0 a0) n (S120_L_0 a0 (v1, v2, v3)) from rfl, e]
      exact ret_of (T := T0) hT hm (f := 5000) (orc := [.d false]) [] [] [] hcx
        (obs := [.eq (decide ((v3 : Int) < ((a0.length : Nat) : Int))) false]) (by kernel_rfl) ⟨h0, trivial⟩

/-- facet/facetref01.total at ('L',) -/
def F120_L (a0 : List (Int × Int)) : Int × Int × Int :=
  (bif (decide ((((a0.length : Nat) : Int) : Int) > 10000)) then
   (0, 0, 4)
  else
   (loopF (S120_L_0 a0) (Int.toNat (((a0.length : Nat) : Int) - 0) + 1) (0, 0, 0)))

theorem C120_L (a0 : List (Int × Int)) (l0 : a0.length ≤ 2 ^ 40) : Con Try.prog 120 [(.s 0 0 a0.length 2)] [(.live false true (flat c32 a0))] (.t (k3 (F120_L a0))) [] := by
  cases h0 : (decide ((((a0.length : Nat) : Int) : Int) > 10000)) with
  | true =>
    have q0 := of_decide_eq_true h0
    have e : (F120_L a0) = (0, 0, 4) := by simp only [F120_L, h0, cond_true, cond_false]
    rw [e]
    refine con_of (n := 9) Try.func120 rfl (ent Try.func120 (by kernel_rfl) rfl) (by show 1 ≤ Try.f120.ntmps; decide) (by kernel_rfl) ⟨rfl, trivial⟩ (fun cx hcx => ?_)
    exact ret_of (T := T0) hT hm (f := 5000) (orc := [.d true]) [] [] [] hcx
      (obs := [.eq (decide ((((a0.length : Nat) : Int) : Int) > 10000)) true]) (by kernel_rfl) ⟨h0, trivial⟩
  | false =>
    have q0 := of_decide_eq_false h0
    have e : (F120_L a0) = (loopF (S120_L_0 a0) (Int.toNat (((a0.length : Nat) : Int) - 0) + 1) (0, 0, 0)) := by simp only [F120_L, h0, cond_true, cond_false]
    rw [e]
    refine con_of (n := 9) Try.func120 rfl (ent Try.func120 (by kernel_rfl) rfl) (by show 1 ≤ Try.f120.ntmps; decide) (by kernel_rfl) ⟨rfl, trivial⟩ (fun cx hcx => ?_)
    refine enter_of (T := T0) hT hm (f := 5000) (orc := [.d false]) [] [0, 5, 6, 7] [] hcx (body := B120_L_0) (k' := K120_L_0) (s' := ⟨[(.s 0 0 a0.length 2), .u, .u, .u, .u, (iv 0), (iv 0), (iv 0), .u, .u, .u, .u, .u, .u, .u, .u, .u, .u, .u, .u, .u, .u, .u, .u, .u, .u, .u, .u, .u, .u, .u, .u, .u, .u, .u, .u, .u, .u, .u], [(.live false true (flat c32 a0))]⟩)
      (obs := [.eq (decide ((((a0.length : Nat) : Int) : Int) > 10000)) false]) (by kernel_rfl) ⟨h0, trivial⟩ ⟨Int.toNat (((a0.length : Nat) : Int) - 0) + 1, ?_⟩
    exact L120_L_0 a0 l0 hcx (Int.toNat (((a0.length : Nat) : Int) - 0) + 1) 0 0 0 (by (try simp only [List.length_append, List.length_cons, List.length_nil, Int.toNat_zero]); omega) (by (try simp only [List.length_append, List.length_cons, List.length_nil, Int.toNat_zero]); omega)

/-- facet/facetref01.Sum at ('L',) -/
def F100_L (a0 : List (Int × Int)) : (Int × Int) × Int :=
  (bif (((F120_L a0).2.2 : Int) != 0) then
   ((0, 0), (F120_L a0).2.2)
  else
   ((F121 (F120_L a0).1 (F120_L a0).2.1).1, (F121 (F120_L a0).1 (F120_L a0).2.1).2))

theorem C100_L (a0 : List (Int × Int)) (l0 : a0.length ≤ 2 ^ 40) : Con Try.prog 100 [(.s 0 0 a0.length 2)] [(.live false true (flat c32 a0))] (.t [(.a (k2 (F100_L a0).1)), (iv (F100_L a0).2)]) [] := by
  cases h0 : (((F120_L a0).2.2 : Int) != 0) with
  | true =>
    have q0 := bne_iff_ne.1 h0
    have e : (F100_L a0) = ((0, 0), (F120_L a0).2.2) := by simp only [F100_L, h0, cond_true, cond_false]
    rw [e]
    refine con_of (n := 9) Try.func100 rfl (ent Try.func100 (by kernel_rfl) rfl) (by show 1 ≤ Try.f100.ntmps; decide) (by kernel_rfl) ⟨rfl, trivial⟩ (fun cx hcx => ?_)
    exact ret_of (T := T0) hT hm (f := 5000) (orc := [.call [0] (.t (k3 (F120_L a0))) [], .d true]) [] [] [] hcx
      (obs := [.call 120 [(.s 0 0 a0.length 2)] [(.live false true (flat c32 a0))] (.t (k3 (F120_L a0))) [], .eq (((F120_L a0).2.2 : Int) != 0) true]) (by kernel_rfl) ⟨(C120_L a0 (by (try simp only [List.length_append, List.length_cons, List.length_nil, Int.toNat_zero, axis3, axis1]); omega)), h0, trivial⟩
  | false =>
    have q0 := bne_eq_false_iff_eq.1 h0
    have e : (F100_L a0) = ((F121 (F120_L a0).1 (F120_L a0).2.1).1, (F121 (F120_L a0).1 (F120_L a0).2.1).2) := by simp only [F100_L, h0, cond_true, cond_false]
    rw [e]
    refine con_of (n := 9) Try.func100 rfl (ent Try.func100 (by kernel_rfl) rfl) (by show 1 ≤ Try.f100.ntmps; decide) (by kernel_rfl) ⟨rfl, trivial⟩ (fun cx hcx => ?_)
    exact ret_of (T := T0) hT hm (f := 5000) (orc := [.call [0] (.t (k3 (F120_L a0))) [], .d false, .call [] (.t [(.a (k2 (F121 (F120_L a0).1 (F120_L a0).2.1).1)), (iv (F121 (F120_L a0).1 (F120_L a0).2.1).2)]) []]) [] [] [] hcx
      (obs := [.call 120 [(.s 0 0 a0.length 2)] [(.live false true (flat c32 a0))] (.t (k3 (F120_L a0))) [], .eq (((F120_L a0).2.2 : Int) != 0) false, .call 121 [(iv (F120_L a0).1), (iv (F120_L a0).2.1)] [] (.t [(.a (k2 (F121 (F120_L a0).1 (F120_L a0).2.1).1)), (iv (F121 (F120_L a0).1 (F120_L a0).2.1).2)]) []]) (by kernel_rfl) ⟨(C120_L a0 (by (try simp only [List.length_append, List.length_cons, List.length_nil, Int.toNat_zero, axis3, axis1]); omega)), h0, (C121 (F120_L a0).1 (F120_L a0).2.1), trivial⟩

/-- facet/facetref01.Down -/
def F122 (a0 : Int) (a1 : Int) : Int :=
  (bif (decide (((Int.tmod a0 a1) : Int) < 0)) then
   (W ((W (Int.tdiv a0 a1)) - 1))
  else
   (W (Int.tdiv a0 a1)))

theorem C122 (a0 : Int) (a1 : Int) (ha : a1 ≠ 0) : Con Try.prog 122 [(iv a0), (iv a1)] [] (iv (F122 a0 a1)) [] := by
  cases h0 : (decide (((Int.tmod a0 a1) : Int) < 0)) with
  | true =>
    have q0 := of_decide_eq_true h0
    have e : (F122 a0 a1) = (W ((W (Int.tdiv a0 a1)) - 1)) := by simp only [F122, h0, cond_true, cond_false]
    rw [e]
    refine con_of (n := 9) Try.func122 rfl (ent Try.func122 (by kernel_rfl) rfl) (by show 2 ≤ Try.f122.ntmps; decide) (by kernel_rfl) trivial (fun cx hcx => ?_)
    exact ret_of (T := T0) hT hm (f := 5000) (orc := [.d true]) [] [] [] hcx
      (obs := [.pr ((a1 : Int) ≠ 0), .pr ((a1 : Int) ≠ 0), .eq (decide (((Int.tmod a0 a1) : Int) < 0)) true]) (by kernel_rfl) ⟨(show (a1 : Int) ≠ 0 from by first | omega | (rw [W_eq] <;> omega) | exact u64_nn _), (show (a1 : Int) ≠ 0 from by first | omega | (rw [W_eq] <;> omega) | exact u64_nn _), h0, trivial⟩
  | false =>
    have q0 := of_decide_eq_false h0
    have e : (F122 a0 a1) = (W (Int.tdiv a0 a1)) := by simp only [F122, h0, cond_true, cond_false]
    rw [e]
    refine con_of (n := 9) Try.func122 rfl (ent Try.func122 (by kernel_rfl) rfl) (by show 2 ≤ Try.f122.ntmps; decide) (by kernel_rfl) trivial (fun cx hcx => ?_)
    exact ret_of (T := T0) hT hm (f := 5000) (orc := [.d false]) [] [] [] hcx
      (obs := [.pr ((a1 : Int) ≠ 0), .pr ((a1 : Int) ≠ 0), .eq (decide (((Int.tmod a0 a1) : Int) < 0)) false]) (by kernel_rfl) ⟨(show (a1 : Int) ≠ 0 from by first | omega | (rw [W_eq] <;> omega) | exact u64_nn _), (show (a1 : Int) ≠ 0 from by first | omega | (rw [W_eq] <;> omega) | exact u64_nn _), h0, trivial⟩

/-- facet/facetref01.Up -/
def F123 (a0 : Int) (a1 : Int) : Int :=
  (W (0 - (F122 (W (0 - a0)) a1)))

theorem C123 (a0 : Int) (a1 : Int) (ha : a1 ≠ 0) : Con Try.prog 123 [(iv a0), (iv a1)] [] (iv (F123 a0 a1)) [] := by
  have e : (F123 a0 a1) = (W (0 - (F122 (W (0 - a0)) a1))) := by simp only [F123]
  rw [e]
  refine con_of (n := 9) Try.func123 rfl (ent Try.func123 (by kernel_rfl) rfl) (by show 2 ≤ Try.f123.ntmps; decide) (by kernel_rfl) trivial (fun cx hcx => ?_)
  exact ret_of (T := T0) hT hm (f := 5000) (orc := [.call [] (iv (F122 (W (0 - a0)) a1)) []]) [] [] [] hcx
    (obs := [.call 122 [(iv (W (0 - a0))), (iv a1)] [] (iv (F122 (W (0 - a0)) a1)) []]) (by kernel_rfl) ⟨(C122 (W (0 - a0)) a1  (by (try simp only [List.length_append, List.length_cons, List.length_nil, Int.toNat_zero, axis3, axis1]); omega)), trivial⟩

/-- facet/facetref01.Mean at ('L',) -/
def F93_L (a0 : List (Int × Int)) : (Int × Int) × Int :=
  (bif (((F120_L a0).2.2 : Int) != 0) then
   ((0, 0), (F120_L a0).2.2)
  else
   (bif ((((a0.length : Nat) : Int) : Int) == 0) then
    ((0, 0), 1)
   else
    ((F121 (F122 (F120_L a0).1 ((a0.length : Nat) : Int)) (F123 (F120_L a0).2.1 ((a0.length : Nat) : Int))).1, (F121 (F122 (F120_L a0).1 ((a0.length : Nat) : Int)) (F123 (F120_L a0).2.1 ((a0.length : Nat) : Int))).2)))

noncomputable def oC93_L_0 (a0 : List (Int × Int)) : Ob := .call 120 [(.s 0 0 a0.length 2)] [(.live false true (flat c32 a0))] (.t (k3 (F120_L a0))) []
theorem C93_L (a0 : List (Int × Int)) (l0 : a0.length ≤ 2 ^ 40) : Con Try.prog 93 [(.s 0 0 a0.length 2)] [(.live false true (flat c32 a0))] (.t [(.a (k2 (F93_L a0).1)), (iv (F93_L a0).2)]) [] := by
  cases h0 : (((F120_L a0).2.2 : Int) != 0) with
  | true =>
    have q0 := bne_iff_ne.1 h0
    have e : (F93_L a0) = ((0, 0), (F120_L a0).2.2) := by simp only [F93_L, h0, cond_true, cond_false]
    rw [e]
    refine con_of (n := 9) Try.func93 rfl (ent Try.func93 (by kernel_rfl) rfl) (by show 1 ≤ Try.f93.ntmps; decide) (by kernel_rfl) ⟨rfl, trivial⟩ (fun cx hcx => ?_)
    exact ret_of (T := T0) hT hm (f := 5000) (orc := [.call [0] (.t (k3 (F120_L a0))) [], .d true]) [] [] [] hcx
      (obs := [(oC93_L_0 a0), .eq (((F120_L a0).2.2 : Int) != 0) true]) (by kernel_rfl) ⟨(C120_L a0 (by (try simp only [List.length_append, List.length_cons, List.length_nil, Int.toNat_zero, axis3, axis1]); omega)), h0, trivial⟩
  | false =>
    cases h1 : ((((a0.length : Nat) : Int) : Int) == 0) with
    | true =>
      have q0 := bne_eq_false_iff_eq.1 h0
      have q1 := eq_of_beq h1
      have e : (F93_L a0) = ((0, 0), 1) := by simp only [F93_L, h0, h1, cond_true, cond_false]
      rw [e]
      refine con_of (n := 9) Try.func93 rfl (ent Try.func93 (by kernel_rfl) rfl) (by show 1 ≤ Try.f93.ntmps; decide) (by kernel_rfl) ⟨rfl, trivial⟩ (fun cx hcx => ?_)
      exact ret_of (T := T0) hT hm (f := 5000) (orc := [.call [0] (.t (k3 (F120_L a0))) [], .d false, .d true]) [] [] [] hcx
        (obs := [(oC93_L_0 a0), .eq (((F120_L a0).2.2 : Int) != 0) false, .eq ((((a0.length : Nat) : Int) : Int) == 0) true]) (by kernel_rfl) ⟨(C120_L a0 (by (try simp only [List.length_append, List.length_cons, List.length_nil, Int.toNat_zero, axis3, axis1]); omega)), h0, h1, trivial⟩
    | false =>
      have q0 := bne_eq_false_iff_eq.1 h0
      have q1 := ne_of_beq_false h1
      have e : (F93_L a0) = ((F121 (F122 (F120_L a0).1 ((a0.length : Nat) : Int)) (F123 (F120_L a0).2.1 ((a0.length : Nat) : Int))).1, (F121 (F122 (F120_L a0).1 ((a0.length : Nat) : Int)) (F123 (F120_L a0).2.1 ((a0.length : Nat) : Int))).2) := by simp only [F93_L, h0, h1, cond_true, cond_false]
      rw [e]
      refine con_of (n := 9) Try.func93 rfl (ent Try.func93 (by kernel_rfl) rfl) (by show 1 ≤ Try.f93.ntmps; decide) (by kernel_rfl) ⟨rfl, trivial⟩ (fun cx hcx => ?_)
      exact ret_of (T := T0) hT hm (f := 5000) (orc := [.call [0] (.t (k3 (F120_L a0))) [], .d false, .d false, .call [] (iv (F122 (F120_L a0).1 ((a0.length : Nat) : Int))) [], .call [] (iv (F123 (F120_L a0).2.1 ((a0.length : Nat) : Int))) [], .call [] (.t [(.a (k2 (F121 (F122 (F120_L a0).1 ((a0.length : Nat) : Int)) (F123 (F120_L a0).2.1 ((a0.length : Nat) : Int))).1)), (iv (F121 (F122 (F120_L a0).1 ((a0.length : Nat) : Int)) (F123 (F120_L a0).2.1 ((a0.length : Nat) : Int))).2)]) []]) [] [] [] hcx
        (obs := [(oC93_L_0 a0), .eq (((F120_L a0).2.2 : Int) != 0) false, .eq ((((a0.length : Nat) : Int) : Int) == 0) false, .call 122 [(iv (F120_L a0).1), (iv ((a0.length : Nat) : Int))] [] (iv (F122 (F120_L a0).1 ((a0.length : Nat) : Int))) [], .call 123 [(iv (F120_L a0).2.1), (iv ((a0.length : Nat) : Int))] [] (iv (F123 (F120_L a0).2.1 ((a0.length : Nat) : Int))) [], .call 121 [(iv (F122 (F120_L a0).1 ((a0.length : Nat) : Int))), (iv (F123 (F120_L a0).2.1 ((a0.length : Nat) : Int)))] [] (.t [(.a (k2 (F121 (F122 (F120_L a0).1 ((a0.length : Nat) : Int)) (F123 (F120_L a0).2.1 ((a0.length : Nat) : Int))).1)), (iv (F121 (F122 (F120_L a0).1 ((a0.length : Nat) : Int)) (F123 (F120_L a0).2.1 ((a0.length : Nat) : Int))).2)]) []]) (by kernel_rfl) ⟨(C120_L a0 (by (try simp only [List.length_append, List.length_cons, List.length_nil, Int.toNat_zero, axis3, axis1]); omega)), h0, h1, (C122 (F120_L a0).1 ((a0.length : Nat) : Int)  (by (try simp only [List.length_append, List.length_cons, List.length_nil, Int.toNat_zero, axis3, axis1]); omega)), (C123 (F120_L a0).2.1 ((a0.length : Nat) : Int)  (by (try simp only [List.length_append, List.length_cons, List.length_nil, Int.toNat_zero, axis3, axis1]); omega)), (C121 (F122 (F120_L a0).1 ((a0.length : Nat) : Int)) (F123 (F120_L a0).2.1 ((a0.length : Nat) : Int))), trivial⟩

end Go.Proofs.Ytopbnnmkdildgaa
