/-
  A part of the proofs of the Field laws: what functions of the program compute, and that it is what the statements ask. No premise.
-/
import Derived.Test.YtjlekmjnkpcnoaaLb
namespace Go.Proofs.Ytjlekmjnkpcnoaa
open Go.Proofs Go.Aw Go.RowKit
set_option maxRecDepth 100000
set_option linter.unusedVariables false
set_option linter.unusedSimpArgs false

/-- facet/facetref01.within -/
def F122 (a0 : Int) (a1 : Int) (a2 : Int) : Bool :=
  (bif (decide ((a0 : Int) ≥ a1)) then
   (decide ((a0 : Int) ≤ a2))
  else
   false)

theorem C122 (a0 : Int) (a1 : Int) (a2 : Int) : Con Try.prog 122 [(iv a0), (iv a1), (iv a2)] [] (.v (.bool (F122 a0 a1 a2))) [] := by
  cases h0 : (decide ((a0 : Int) ≥ a1)) with
  | true =>
    have q0 := of_decide_eq_true h0
    have e : (F122 a0 a1 a2) = (decide ((a0 : Int) ≤ a2)) := by simp only [F122, h0, cond_true, cond_false]
    rw [e]
    refine con_of (n := 9) Try.func122 rfl (ent Try.func122 (by kernel_rfl) rfl) (by show 3 ≤ Try.f122.ntmps; decide) (by kernel_rfl) trivial (fun cx hcx => ?_)
    exact ret_of (T := T0) hT hm (f := 5000) (orc := [.d true]) [] [] [] hcx
      (obs := [.eq (decide ((a0 : Int) ≥ a1)) true]) (by kernel_rfl) ⟨h0, trivial⟩
  | false =>
    have q0 := of_decide_eq_false h0
    have e : (F122 a0 a1 a2) = false := by simp only [F122, h0, cond_true, cond_false]
    rw [e]
    refine con_of (n := 9) Try.func122 rfl (ent Try.func122 (by kernel_rfl) rfl) (by show 3 ≤ Try.f122.ntmps; decide) (by kernel_rfl) trivial (fun cx hcx => ?_)
    exact ret_of (T := T0) hT hm (f := 5000) (orc := [.d false]) [] [] [] hcx
      (obs := [.eq (decide ((a0 : Int) ≥ a1)) false]) (by kernel_rfl) ⟨h0, trivial⟩

/-- facet/facetref01.Valid -/
def F56 (a0 : Int × Int) : Bool :=
  (bif (decide ((a0.1 : Int) ≥ (-1099511627776))) then
   (bif (decide ((a0.1 : Int) ≤ a0.2)) then
    (decide ((a0.2 : Int) ≤ 1099511627776))
   else
    false)
  else
   false)

theorem C56 (a0 : Int × Int) : Con Try.prog 56 [(.a [(iv a0.1), (iv a0.2)])] [] (.v (.bool (F56 a0))) [] := by
  cases h0 : (decide ((a0.1 : Int) ≥ (-1099511627776))) with
  | true =>
    cases h1 : (decide ((a0.1 : Int) ≤ a0.2)) with
    | true =>
      have q0 := of_decide_eq_true h0
      have q1 := of_decide_eq_true h1
      have e : (F56 a0) = (decide ((a0.2 : Int) ≤ 1099511627776)) := by simp only [F56, h0, h1, cond_true, cond_false]
      rw [e]
      refine con_of (n := 9) Try.func56 rfl (ent Try.func56 (by kernel_rfl) rfl) (by show 1 ≤ Try.f56.ntmps; decide) (by kernel_rfl) trivial (fun cx hcx => ?_)
      exact ret_of (T := T0) hT hm (f := 5000) (orc := [.d true, .d true]) [] [] [] hcx
        (obs := [.eq (decide ((a0.1 : Int) ≥ (-1099511627776))) true, .eq (decide ((a0.1 : Int) ≤ a0.2)) true]) (by kernel_rfl) ⟨h0, h1, trivial⟩
    | false =>
      have q0 := of_decide_eq_true h0
      have q1 := of_decide_eq_false h1
      have e : (F56 a0) = false := by simp only [F56, h0, h1, cond_true, cond_false]
      rw [e]
      refine con_of (n := 9) Try.func56 rfl (ent Try.func56 (by kernel_rfl) rfl) (by show 1 ≤ Try.f56.ntmps; decide) (by kernel_rfl) trivial (fun cx hcx => ?_)
      exact ret_of (T := T0) hT hm (f := 5000) (orc := [.d true, .d false]) [] [] [] hcx
        (obs := [.eq (decide ((a0.1 : Int) ≥ (-1099511627776))) true, .eq (decide ((a0.1 : Int) ≤ a0.2)) false]) (by kernel_rfl) ⟨h0, h1, trivial⟩
  | false =>
    have q0 := of_decide_eq_false h0
    have e : (F56 a0) = false := by simp only [F56, h0, cond_true, cond_false]
    rw [e]
    refine con_of (n := 9) Try.func56 rfl (ent Try.func56 (by kernel_rfl) rfl) (by show 1 ≤ Try.f56.ntmps; decide) (by kernel_rfl) trivial (fun cx hcx => ?_)
    exact ret_of (T := T0) hT hm (f := 5000) (orc := [.d false]) [] [] [] hcx
      (obs := [.eq (decide ((a0.1 : Int) ≥ (-1099511627776))) false]) (by kernel_rfl) ⟨h0, trivial⟩

/-- int, as cells -/
def c3 (x : Int) : List SV := [(iv x)]
theorem c3_len (x : Int) : (c3 x).length = 1 := rfl

/-- facet/facetref03.axis at (3,) -/
def F144_3 (a0 : (Int × Int × Int) × (Int × Int × Int) × (Int × Int × Int)) (a1 : Int) : List (Int) :=
  (bif ((a1 : Int) == 0) then
   ([a0.1.1, a0.2.1.1, a0.2.2.1] : List (Int))
  else
   (bif ((a1 : Int) == 1) then
    ([a0.1.2.1, a0.2.1.2.1, a0.2.2.2.1] : List (Int))
   else
    ([a0.1.2.2, a0.2.1.2.2, a0.2.2.2.2] : List (Int))))

theorem C144_3 (a0 : (Int × Int × Int) × (Int × Int × Int) × (Int × Int × Int)) (a1 : Int) : Con Try.prog 144 [(.s 0 0 3 3), (iv a1)] [(.live false false (k9 a0))] (.s 1 0 (F144_3 a0 a1).length 1) [(.live true true (flat c3 (F144_3 a0 a1)))] := by
  cases h0 : ((a1 : Int) == 0) with
  | true =>
    have q0 := eq_of_beq h0
    have e : (F144_3 a0 a1) = ([a0.1.1, a0.2.1.1, a0.2.2.1] : List (Int)) := by simp only [F144_3, h0, cond_true, cond_false]
    rw [e]
    refine con_of (n := 9) Try.func144 rfl (ent Try.func144 (by kernel_rfl) rfl) (by show 2 ≤ Try.f144.ntmps; decide) (by kernel_rfl) ⟨rfl, trivial⟩ (fun cx hcx => ?_)
    exact ret_of (T := T0) hT hm (f := 5000) (orc := [.un 200, .d true, .d true, .un 0, .d true, .d true, .un 0, .d true, .d true, .un 0, .d false]) [.sym 6 true] [] [6] hcx
      (obs := [.eq true true, .eq ((a1 : Int) == 0) true, .pr (0 ≤ (0 : Int) ∧ (0 : Int) < ((3 : Nat) : Int)), .eq true true, .eq ((a1 : Int) == 0) true, .pr (0 ≤ (1 : Int) ∧ (1 : Int) < ((3 : Nat) : Int)), .eq true true, .eq ((a1 : Int) == 0) true, .pr (0 ≤ (2 : Int) ∧ (2 : Int) < ((3 : Nat) : Int)), .eq false false]) (by kernel_rfl) ⟨rfl, h0, (show 0 ≤ (0 : Int) ∧ (0 : Int) < ((3 : Nat) : Int) from by decide), rfl, h0, (show 0 ≤ (1 : Int) ∧ (1 : Int) < ((3 : Nat) : Int) from by decide), rfl, h0, (show 0 ≤ (2 : Int) ∧ (2 : Int) < ((3 : Nat) : Int) from by decide), rfl, trivial⟩
  | false =>
    cases h1 : ((a1 : Int) == 1) with
    | true =>
      have q0 := ne_of_beq_false h0
      have q1 := eq_of_beq h1
      have e : (F144_3 a0 a1) = ([a0.1.2.1, a0.2.1.2.1, a0.2.2.2.1] : List (Int)) := by simp only [F144_3, h0, h1, cond_true, cond_false]
      rw [e]
      refine con_of (n := 9) Try.func144 rfl (ent Try.func144 (by kernel_rfl) rfl) (by show 2 ≤ Try.f144.ntmps; decide) (by kernel_rfl) ⟨rfl, trivial⟩ (fun cx hcx => ?_)
      exact ret_of (T := T0) hT hm (f := 5000) (orc := [.un 200, .d true, .d false, .d true, .un 0, .d true, .d false, .d true, .un 0, .d true, .d false, .d true, .un 0, .d false]) [.sym 6 true] [] [6] hcx
        (obs := [.eq true true, .eq ((a1 : Int) == 0) false, .eq ((a1 : Int) == 1) true, .pr (0 ≤ (0 : Int) ∧ (0 : Int) < ((3 : Nat) : Int)), .eq true true, .eq ((a1 : Int) == 0) false, .eq ((a1 : Int) == 1) true, .pr (0 ≤ (1 : Int) ∧ (1 : Int) < ((3 : Nat) : Int)), .eq true true, .eq ((a1 : Int) == 0) false, .eq ((a1 : Int) == 1) true, .pr (0 ≤ (2 : Int) ∧ (2 : Int) < ((3 : Nat) : Int)), .eq false false]) (by kernel_rfl) ⟨rfl, h0, h1, (show 0 ≤ (0 : Int) ∧ (0 : Int) < ((3 : Nat) : Int) from by decide), rfl, h0, h1, (show 0 ≤ (1 : Int) ∧ (1 : Int) < ((3 : Nat) : Int) from by decide), rfl, h0, h1, (show 0 ≤ (2 : Int) ∧ (2 : Int) < ((3 : Nat) : Int) from by decide), rfl, trivial⟩
    | false =>
      have q0 := ne_of_beq_false h0
      have q1 := ne_of_beq_false h1
      have e : (F144_3 a0 a1) = ([a0.1.2.2, a0.2.1.2.2, a0.2.2.2.2] : List (Int)) := by simp only [F144_3, h0, h1, cond_true, cond_false]
      rw [e]
      refine con_of (n := 9) Try.func144 rfl (ent Try.func144 (by kernel_rfl) rfl) (by show 2 ≤ Try.f144.ntmps; decide) (by kernel_rfl) ⟨rfl, trivial⟩ (fun cx hcx => ?_)
      exact ret_of (T := T0) hT hm (f := 5000) (orc := [.un 200, .d true, .d false, .d false, .un 0, .d true, .d false, .d false, .un 0, .d true, .d false, .d false, .un 0, .d false]) [.sym 6 true] [] [6] hcx
        (obs := [.eq true true, .eq ((a1 : Int) == 0) false, .eq ((a1 : Int) == 1) false, .pr (0 ≤ (0 : Int) ∧ (0 : Int) < ((3 : Nat) : Int)), .eq true true, .eq ((a1 : Int) == 0) false, .eq ((a1 : Int) == 1) false, .pr (0 ≤ (1 : Int) ∧ (1 : Int) < ((3 : Nat) : Int)), .eq true true, .eq ((a1 : Int) == 0) false, .eq ((a1 : Int) == 1) false, .pr (0 ≤ (2 : Int) ∧ (2 : Int) < ((3 : Nat) : Int)), .eq false false]) (by kernel_rfl) ⟨rfl, h0, h1, (show 0 ≤ (0 : Int) ∧ (0 : Int) < ((3 : Nat) : Int) from by decide), rfl, h0, h1, (show 0 ≤ (1 : Int) ∧ (1 : Int) < ((3 : Nat) : Int) from by decide), rfl, h0, h1, (show 0 ≤ (2 : Int) ∧ (2 : Int) < ((3 : Nat) : Int) from by decide), rfl, trivial⟩

/-- facet/facetref03.axis at (1,) -/
def F144_1 (a0 : Int × Int × Int) (a1 : Int) : List (Int) :=
  (bif ((a1 : Int) == 0) then
   ([a0.1] : List (Int))
  else
   (bif ((a1 : Int) == 1) then
    ([a0.2.1] : List (Int))
   else
    ([a0.2.2] : List (Int))))

theorem C144_1 (a0 : Int × Int × Int) (a1 : Int) : Con Try.prog 144 [(.s 0 0 1 3), (iv a1)] [(.live false false (k3 a0))] (.s 1 0 (F144_1 a0 a1).length 1) [(.live true true (flat c3 (F144_1 a0 a1)))] := by
  cases h0 : ((a1 : Int) == 0) with
  | true =>
    have q0 := eq_of_beq h0
    have e : (F144_1 a0 a1) = ([a0.1] : List (Int)) := by simp only [F144_1, h0, cond_true, cond_false]
    rw [e]
    refine con_of (n := 9) Try.func144 rfl (ent Try.func144 (by kernel_rfl) rfl) (by show 2 ≤ Try.f144.ntmps; decide) (by kernel_rfl) ⟨rfl, trivial⟩ (fun cx hcx => ?_)
    exact ret_of (T := T0) hT hm (f := 5000) (orc := [.un 200, .d true, .d true, .un 0, .d false]) [.sym 2 true] [] [2] hcx
      (obs := [.eq true true, .eq ((a1 : Int) == 0) true, .pr (0 ≤ (0 : Int) ∧ (0 : Int) < ((1 : Nat) : Int)), .eq false false]) (by kernel_rfl) ⟨rfl, h0, (show 0 ≤ (0 : Int) ∧ (0 : Int) < ((1 : Nat) : Int) from by decide), rfl, trivial⟩
  | false =>
    cases h1 : ((a1 : Int) == 1) with
    | true =>
      have q0 := ne_of_beq_false h0
      have q1 := eq_of_beq h1
      have e : (F144_1 a0 a1) = ([a0.2.1] : List (Int)) := by simp only [F144_1, h0, h1, cond_true, cond_false]
      rw [e]
      refine con_of (n := 9) Try.func144 rfl (ent Try.func144 (by kernel_rfl) rfl) (by show 2 ≤ Try.f144.ntmps; decide) (by kernel_rfl) ⟨rfl, trivial⟩ (fun cx hcx => ?_)
      exact ret_of (T := T0) hT hm (f := 5000) (orc := [.un 200, .d true, .d false, .d true, .un 0, .d false]) [.sym 2 true] [] [2] hcx
        (obs := [.eq true true, .eq ((a1 : Int) == 0) false, .eq ((a1 : Int) == 1) true, .pr (0 ≤ (0 : Int) ∧ (0 : Int) < ((1 : Nat) : Int)), .eq false false]) (by kernel_rfl) ⟨rfl, h0, h1, (show 0 ≤ (0 : Int) ∧ (0 : Int) < ((1 : Nat) : Int) from by decide), rfl, trivial⟩
    | false =>
      have q0 := ne_of_beq_false h0
      have q1 := ne_of_beq_false h1
      have e : (F144_1 a0 a1) = ([a0.2.2] : List (Int)) := by simp only [F144_1, h0, h1, cond_true, cond_false]
      rw [e]
      refine con_of (n := 9) Try.func144 rfl (ent Try.func144 (by kernel_rfl) rfl) (by show 2 ≤ Try.f144.ntmps; decide) (by kernel_rfl) ⟨rfl, trivial⟩ (fun cx hcx => ?_)
      exact ret_of (T := T0) hT hm (f := 5000) (orc := [.un 200, .d true, .d false, .d false, .un 0, .d false]) [.sym 2 true] [] [2] hcx
        (obs := [.eq true true, .eq ((a1 : Int) == 0) false, .eq ((a1 : Int) == 1) false, .pr (0 ≤ (0 : Int) ∧ (0 : Int) < ((1 : Nat) : Int)), .eq false false]) (by kernel_rfl) ⟨rfl, h0, h1, (show 0 ≤ (0 : Int) ∧ (0 : Int) < ((1 : Nat) : Int) from by decide), rfl, trivial⟩

theorem win_ne {a b c : Int} (h : (!(F122 a b c)) = false) (hb : 1 ≤ b := by omega) : a ≠ 0 := by
  unfold F122 at h
  cases h1 : decide ((a : Int) ≥ b) with
  | true => have := of_decide_eq_true h1; omega
  | false => simp [h1] at h
theorem cube_ne {n : Int} (h1 : 1 ≤ n) (h2 : n ≤ 1048576) : W ((W (n * n)) * n) ≠ 0 := by
  have a1 : 1 * 1 ≤ n * n := Int.mul_le_mul h1 h1 (by omega) (by omega)
  have a2 : n * n ≤ 1048576 * 1048576 := Int.mul_le_mul h2 h2 (by omega) (by omega)
  have b1 : 1 * 1 ≤ n * n * n := Int.mul_le_mul (by omega) h1 (by omega) (by omega)
  have b2 : n * n * n ≤ 1048576 * 1048576 * 1048576 := Int.mul_le_mul a2 h2 (by omega) (by omega)
  rw [W_eq (n := n * n) (by omega) (by omega), W_eq (by omega) (by omega)]
  omega
theorem win_ge {a b c : Int} (h : (!(F122 a b c)) = false) : b ≤ a := by
  unfold F122 at h
  cases h1 : decide ((a : Int) ≥ b) with
  | true => have := of_decide_eq_true h1; omega
  | false => simp [h1] at h
theorem axis3 (a : (Int × Int × Int) × (Int × Int × Int) × (Int × Int × Int)) (k : Int) : (F144_3 a k).length = 3 := by
  unfold F144_3
  cases ((k : Int) == 0) <;> cases ((k : Int) == 1) <;> rfl
theorem axis1 (a : Int × Int × Int) (k : Int) : (F144_1 a k).length = 1 := by
  unfold F144_1
  cases ((k : Int) == 0) <;> cases ((k : Int) == 1) <;> rfl

/-- facet/facetref01.Inside -/
def F25 (a0 : Int × Int) (a1 : Int × Int) : Bool × Int :=
  (bif (!(F56 a0)) then
   (false, 1)
  else
   (bif (!(F56 a1)) then
    (false, 1)
   else
    (bif (decide ((a1.1 : Int) ≤ a0.1)) then
     ((decide ((a0.2 : Int) ≤ a1.2)), 0)
    else
     (false, 0))))

noncomputable def oC25_0 (a0 : Int × Int) : Ob := .call 56 [(.a [(iv a0.1), (iv a0.2)])] [] (.v (.bool (F56 a0))) []
theorem C25 (a0 : Int × Int) (a1 : Int × Int) : Con Try.prog 25 [(.a [(iv a0.1), (iv a0.2)]), (.a [(iv a1.1), (iv a1.2)])] [] (.t [(.v (.bool (F25 a0 a1).1)), (iv (F25 a0 a1).2)]) [] := by
  cases h0 : (!(F56 a0)) with
  | true =>
    have e : (F25 a0 a1) = (false, 1) := by simp only [F25, h0, cond_true, cond_false]
    rw [e]
    refine con_of (n := 9) Try.func25 rfl (ent Try.func25 (by kernel_rfl) rfl) (by show 2 ≤ Try.f25.ntmps; decide) (by kernel_rfl) trivial (fun cx hcx => ?_)
    exact ret_of (T := T0) hT hm (f := 5000) (orc := [.call [] (.v (.bool (F56 a0))) [], .d true]) [] [] [] hcx
      (obs := [(oC25_0 a0), .eq (!(F56 a0)) true]) (by kernel_rfl) ⟨(C56 a0), h0, trivial⟩
  | false =>
    cases h1 : (!(F56 a1)) with
    | true =>
      have e : (F25 a0 a1) = (false, 1) := by simp only [F25, h0, h1, cond_true, cond_false]
      rw [e]
      refine con_of (n := 9) Try.func25 rfl (ent Try.func25 (by kernel_rfl) rfl) (by show 2 ≤ Try.f25.ntmps; decide) (by kernel_rfl) trivial (fun cx hcx => ?_)
      exact ret_of (T := T0) hT hm (f := 5000) (orc := [.call [] (.v (.bool (F56 a0))) [], .d false, .call [] (.v (.bool (F56 a1))) [], .d true]) [] [] [] hcx
        (obs := [(oC25_0 a0), .eq (!(F56 a0)) false, .call 56 [(.a [(iv a1.1), (iv a1.2)])] [] (.v (.bool (F56 a1))) [], .eq (!(F56 a1)) true]) (by kernel_rfl) ⟨(C56 a0), h0, (C56 a1), h1, trivial⟩
    | false =>
      cases h2 : (decide ((a1.1 : Int) ≤ a0.1)) with
      | true =>
        have q2 := of_decide_eq_true h2
        have e : (F25 a0 a1) = ((decide ((a0.2 : Int) ≤ a1.2)), 0) := by simp only [F25, h0, h1, h2, cond_true, cond_false]
        rw [e]
        refine con_of (n := 9) Try.func25 rfl (ent Try.func25 (by kernel_rfl) rfl) (by show 2 ≤ Try.f25.ntmps; decide) (by kernel_rfl) trivial (fun cx hcx => ?_)
        exact ret_of (T := T0) hT hm (f := 5000) (orc := [.call [] (.v (.bool (F56 a0))) [], .d false, .call [] (.v (.bool (F56 a1))) [], .d false, .d true]) [] [] [] hcx
          (obs := [(oC25_0 a0), .eq (!(F56 a0)) false, .call 56 [(.a [(iv a1.1), (iv a1.2)])] [] (.v (.bool (F56 a1))) [], .eq (!(F56 a1)) false, .eq (decide ((a1.1 : Int) ≤ a0.1)) true]) (by kernel_rfl) ⟨(C56 a0), h0, (C56 a1), h1, h2, trivial⟩
      | false =>
        have q2 := of_decide_eq_false h2
        have e : (F25 a0 a1) = (false, 0) := by simp only [F25, h0, h1, h2, cond_true, cond_false]
        rw [e]
        refine con_of (n := 9) Try.func25 rfl (ent Try.func25 (by kernel_rfl) rfl) (by show 2 ≤ Try.f25.ntmps; decide) (by kernel_rfl) trivial (fun cx hcx => ?_)
        exact ret_of (T := T0) hT hm (f := 5000) (orc := [.call [] (.v (.bool (F56 a0))) [], .d false, .call [] (.v (.bool (F56 a1))) [], .d false, .d false]) [] [] [] hcx
          (obs := [(oC25_0 a0), .eq (!(F56 a0)) false, .call 56 [(.a [(iv a1.1), (iv a1.2)])] [] (.v (.bool (F56 a1))) [], .eq (!(F56 a1)) false, .eq (decide ((a1.1 : Int) ≤ a0.1)) false]) (by kernel_rfl) ⟨(C56 a0), h0, (C56 a1), h1, h2, trivial⟩

/-- facet/facetref01.Down -/
def F99 (a0 : Int) (a1 : Int) : Int :=
  (bif (decide (((Int.tmod a0 a1) : Int) < 0)) then
   (W ((W (Int.tdiv a0 a1)) - 1))
  else
   (W (Int.tdiv a0 a1)))

theorem C99 (a0 : Int) (a1 : Int) (ha : a1 ≠ 0) : Con Try.prog 99 [(iv a0), (iv a1)] [] (iv (F99 a0 a1)) [] := by
  cases h0 : (decide (((Int.tmod a0 a1) : Int) < 0)) with
  | true =>
    have q0 := of_decide_eq_true h0
    have e : (F99 a0 a1) = (W ((W (Int.tdiv a0 a1)) - 1)) := by simp only [F99, h0, cond_true, cond_false]
    rw [e]
    refine con_of (n := 9) Try.func99 rfl (ent Try.func99 (by kernel_rfl) rfl) (by show 2 ≤ Try.f99.ntmps; decide) (by kernel_rfl) trivial (fun cx hcx => ?_)
    exact ret_of (T := T0) hT hm (f := 5000) (orc := [.d true]) [] [] [] hcx
      (obs := [.pr ((a1 : Int) ≠ 0), .pr ((a1 : Int) ≠ 0), .eq (decide (((Int.tmod a0 a1) : Int) < 0)) true]) (by kernel_rfl) ⟨(show (a1 : Int) ≠ 0 from by first | omega | (rw [W_eq] <;> omega) | exact u64_nn _), (show (a1 : Int) ≠ 0 from by first | omega | (rw [W_eq] <;> omega) | exact u64_nn _), h0, trivial⟩
  | false =>
    have q0 := of_decide_eq_false h0
    have e : (F99 a0 a1) = (W (Int.tdiv a0 a1)) := by simp only [F99, h0, cond_true, cond_false]
    rw [e]
    refine con_of (n := 9) Try.func99 rfl (ent Try.func99 (by kernel_rfl) rfl) (by show 2 ≤ Try.f99.ntmps; decide) (by kernel_rfl) trivial (fun cx hcx => ?_)
    exact ret_of (T := T0) hT hm (f := 5000) (orc := [.d false]) [] [] [] hcx
      (obs := [.pr ((a1 : Int) ≠ 0), .pr ((a1 : Int) ≠ 0), .eq (decide (((Int.tmod a0 a1) : Int) < 0)) false]) (by kernel_rfl) ⟨(show (a1 : Int) ≠ 0 from by first | omega | (rw [W_eq] <;> omega) | exact u64_nn _), (show (a1 : Int) ≠ 0 from by first | omega | (rw [W_eq] <;> omega) | exact u64_nn _), h0, trivial⟩

/-- facet/facetref01.Up -/
def F100 (a0 : Int) (a1 : Int) : Int :=
  (W (0 - (F99 (W (0 - a0)) a1)))

theorem C100 (a0 : Int) (a1 : Int) (ha : a1 ≠ 0) : Con Try.prog 100 [(iv a0), (iv a1)] [] (iv (F100 a0 a1)) [] := by
  have e : (F100 a0 a1) = (W (0 - (F99 (W (0 - a0)) a1))) := by simp only [F100]
  rw [e]
  refine con_of (n := 9) Try.func100 rfl (ent Try.func100 (by kernel_rfl) rfl) (by show 2 ≤ Try.f100.ntmps; decide) (by kernel_rfl) trivial (fun cx hcx => ?_)
  exact ret_of (T := T0) hT hm (f := 5000) (orc := [.call [] (iv (F99 (W (0 - a0)) a1)) []]) [] [] [] hcx
    (obs := [.call 99 [(iv (W (0 - a0))), (iv a1)] [] (iv (F99 (W (0 - a0)) a1)) []]) (by kernel_rfl) ⟨(C99 (W (0 - a0)) a1  (by (try simp only [List.length_append, List.length_cons, List.length_nil, Int.toNat_zero, axis3, axis1]); omega)), trivial⟩

/-- facet/facetref01.told -/
def F123 (a0 : Int) (a1 : Int) : (Int × Int) × Int :=
  (bif (!(F56 (a0, a1))) then
   ((0, 0), 4)
  else
   ((a0, a1), 0))

theorem C123 (a0 : Int) (a1 : Int) : Con Try.prog 123 [(iv a0), (iv a1)] [] (.t [(.a (k2 (F123 a0 a1).1)), (iv (F123 a0 a1).2)]) [] := by
  cases h0 : (!(F56 (a0, a1))) with
  | true =>
    have e : (F123 a0 a1) = ((0, 0), 4) := by simp only [F123, h0, cond_true, cond_false]
    rw [e]
    refine con_of (n := 9) Try.func123 rfl (ent Try.func123 (by kernel_rfl) rfl) (by show 2 ≤ Try.f123.ntmps; decide) (by kernel_rfl) trivial (fun cx hcx => ?_)
    exact ret_of (T := T0) hT hm (f := 5000) (orc := [.call [] (.v (.bool (F56 (a0, a1)))) [], .d true]) [] [] [] hcx
      (obs := [.call 56 [(.a [(iv a0), (iv a1)])] [] (.v (.bool (F56 (a0, a1)))) [], .eq (!(F56 (a0, a1))) true]) (by kernel_rfl) ⟨(C56 (a0, a1)), h0, trivial⟩
  | false =>
    have e : (F123 a0 a1) = ((a0, a1), 0) := by simp only [F123, h0, cond_true, cond_false]
    rw [e]
    refine con_of (n := 9) Try.func123 rfl (ent Try.func123 (by kernel_rfl) rfl) (by show 2 ≤ Try.f123.ntmps; decide) (by kernel_rfl) trivial (fun cx hcx => ?_)
    exact ret_of (T := T0) hT hm (f := 5000) (orc := [.call [] (.v (.bool (F56 (a0, a1)))) [], .d false]) [] [] [] hcx
      (obs := [.call 56 [(.a [(iv a0), (iv a1)])] [] (.v (.bool (F56 (a0, a1)))) [], .eq (!(F56 (a0, a1))) false]) (by kernel_rfl) ⟨(C56 (a0, a1)), h0, trivial⟩

/-- facet/facetref01.Part -/
def F70 (a0 : Int × Int) (a1 : Int) : (Int × Int) × Int :=
  (bif (!(F56 a0)) then
   ((0, 0), 1)
  else
   (bif (!(F122 a1 1 1099511627776)) then
    ((0, 0), 1)
   else
    ((F123 (F99 a0.1 a1) (F100 a0.2 a1)).1, (F123 (F99 a0.1 a1) (F100 a0.2 a1)).2)))

theorem C70 (a0 : Int × Int) (a1 : Int) : Con Try.prog 70 [(.a [(iv a0.1), (iv a0.2)]), (iv a1)] [] (.t [(.a (k2 (F70 a0 a1).1)), (iv (F70 a0 a1).2)]) [] := by
  cases h0 : (!(F56 a0)) with
  | true =>
    have e : (F70 a0 a1) = ((0, 0), 1) := by simp only [F70, h0, cond_true, cond_false]
    rw [e]
    refine con_of (n := 9) Try.func70 rfl (ent Try.func70 (by kernel_rfl) rfl) (by show 2 ≤ Try.f70.ntmps; decide) (by kernel_rfl) trivial (fun cx hcx => ?_)
    exact ret_of (T := T0) hT hm (f := 5000) (orc := [.call [] (.v (.bool (F56 a0))) [], .d true]) [] [] [] hcx
      (obs := [.call 56 [(.a [(iv a0.1), (iv a0.2)])] [] (.v (.bool (F56 a0))) [], .eq (!(F56 a0)) true]) (by kernel_rfl) ⟨(C56 a0), h0, trivial⟩
  | false =>
    cases h1 : (!(F122 a1 1 1099511627776)) with
    | true =>
      have e : (F70 a0 a1) = ((0, 0), 1) := by simp only [F70, h0, h1, cond_true, cond_false]
      rw [e]
      refine con_of (n := 9) Try.func70 rfl (ent Try.func70 (by kernel_rfl) rfl) (by show 2 ≤ Try.f70.ntmps; decide) (by kernel_rfl) trivial (fun cx hcx => ?_)
      exact ret_of (T := T0) hT hm (f := 5000) (orc := [.call [] (.v (.bool (F56 a0))) [], .d false, .call [] (.v (.bool (F122 a1 1 1099511627776))) [], .d true]) [] [] [] hcx
        (obs := [.call 56 [(.a [(iv a0.1), (iv a0.2)])] [] (.v (.bool (F56 a0))) [], .eq (!(F56 a0)) false, .call 122 [(iv a1), (iv 1), (iv 1099511627776)] [] (.v (.bool (F122 a1 1 1099511627776))) [], .eq (!(F122 a1 1 1099511627776)) true]) (by kernel_rfl) ⟨(C56 a0), h0, (C122 a1 1 1099511627776), h1, trivial⟩
    | false =>
      have e : (F70 a0 a1) = ((F123 (F99 a0.1 a1) (F100 a0.2 a1)).1, (F123 (F99 a0.1 a1) (F100 a0.2 a1)).2) := by simp only [F70, h0, h1, cond_true, cond_false]
      rw [e]
      refine con_of (n := 9) Try.func70 rfl (ent Try.func70 (by kernel_rfl) rfl) (by show 2 ≤ Try.f70.ntmps; decide) (by kernel_rfl) trivial (fun cx hcx => ?_)
      exact ret_of (T := T0) hT hm (f := 5000) (orc := [.call [] (.v (.bool (F56 a0))) [], .d false, .call [] (.v (.bool (F122 a1 1 1099511627776))) [], .d false, .call [] (iv (F99 a0.1 a1)) [], .call [] (iv (F100 a0.2 a1)) [], .call [] (.t [(.a (k2 (F123 (F99 a0.1 a1) (F100 a0.2 a1)).1)), (iv (F123 (F99 a0.1 a1) (F100 a0.2 a1)).2)]) []]) [] [] [] hcx
        (obs := [.call 56 [(.a [(iv a0.1), (iv a0.2)])] [] (.v (.bool (F56 a0))) [], .eq (!(F56 a0)) false, .call 122 [(iv a1), (iv 1), (iv 1099511627776)] [] (.v (.bool (F122 a1 1 1099511627776))) [], .eq (!(F122 a1 1 1099511627776)) false, .call 99 [(iv a0.1), (iv a1)] [] (iv (F99 a0.1 a1)) [], .call 100 [(iv a0.2), (iv a1)] [] (iv (F100 a0.2 a1)) [], .call 123 [(iv (F99 a0.1 a1)), (iv (F100 a0.2 a1))] [] (.t [(.a (k2 (F123 (F99 a0.1 a1) (F100 a0.2 a1)).1)), (iv (F123 (F99 a0.1 a1) (F100 a0.2 a1)).2)]) []]) (by kernel_rfl) ⟨(C56 a0), h0, (C122 a1 1 1099511627776), h1, (C99 a0.1 a1  (win_ne h1)), (C100 a0.2 a1  (win_ne h1)), (C123 (F99 a0.1 a1) (F100 a0.2 a1)), trivial⟩

noncomputable def B150_0 : Code := (loopAtD [1, 1, 0] [] (Try.f150.body.getD .skip) []).1
noncomputable def K150_0 : List K := (loopAtD [1, 1, 0] [] (Try.f150.body.getD .skip) []).2

/-- a round of loop 0 of facet/facetref01.floor; the variables: v2 = s3, v3 = s4 -/
def S150_0 (a0 : Int) : Int × Int → (Int × Int) ⊕ (Int)
  | (v2, v3) =>
   (bif (decide ((v2 : Int) < v3)) then
    (bif (decide (((W ((W (Int.tdiv (W ((W (v2 + v3)) + 1)) 2)) * (W (Int.tdiv (W ((W (v2 + v3)) + 1)) 2)))) : Int) ≤ a0)) then
     (.inl ((W (Int.tdiv (W ((W (v2 + v3)) + 1)) 2)), v3))
    else
     (.inl (v2, (W ((W (Int.tdiv (W ((W (v2 + v3)) + 1)) 2)) - 1)))))
   else
    (.inr v2))

set_option maxHeartbeats 4000000 in
theorem L150_0 (a0 : Int) {cx : Cx} (hcx : cx.base = 0) : ∀ (n : Nat) (v2 : Int) (v3 : Int), (0 ≤ v2) ∧ (0 ≤ v2) ∧ (v2 ≤ v3) ∧ (v3 ≤ 2147483648) → Int.toNat (v3 - v2) < n → Aw.Good Try.prog none 9 (bodyPost Try.prog Try.f150 (RR cx (iv (loopF (S150_0 a0) n (v2, v3))) [] [])) cx [] (.l B150_0 n :: K150_0) ⟨[(iv a0), .u, .u, (iv v2), (iv v3), .u, .u, .u, .u, .u, .u, .u, .u, .u, .u, .u, .u, .u, .u, .u, .u, .u, .u], []⟩ := by
  intro n
  induction n with
  | zero => intro v2 v3 hi hn; exact absurd hn (Nat.not_lt_zero _)
  | succ n ih =>
    intro v2 v3 hi hn
    refine good_round ?_
    cases h0 : (decide ((v2 : Int) < v3)) with
    | true =>
      cases h1 : (decide (((W ((W (Int.tdiv (W ((W (v2 + v3)) + 1)) 2)) * (W (Int.tdiv (W ((W (v2 + v3)) + 1)) 2)))) : Int) ≤ a0)) with
      | true =>
        have q0 := of_decide_eq_true h0
        have q1 := of_decide_eq_true h1
        have hw := mid1_eq (a := v2) (b := v3) (by omega)
        have hw2 := mid2_eq (a := v2) (b := v3) (by omega)
        have e : S150_0 a0 (v2, v3) = (.inl ((W (Int.tdiv (W ((W (v2 + v3)) + 1)) 2)), v3)) := by simp only [S150_0, h0, h1, cond_true, cond_false]
        rw [loopF_inl e]
        refine back_of (T := T0) hT hm (f := 5000) (orc := [.d true, .d true]) [] [0, 3, 4] [] hcx (body := B150_0) (m := n) (k' := K150_0) (s' := ⟨[(iv a0), .u, .u, (iv (W (Int.tdiv (W ((W (v2 + v3)) + 1)) 2))), (iv v3), .u, .u, .u, .u, .u, .u, .u, .u, .u, .u, .u, .u, .u, .u, .u, .u, .u, .u], []⟩)
          (obs := [.eq (decide ((v2 : Int) < v3)) true, .pr ((2 : Int) ≠ 0), .eq (decide (((W ((W (Int.tdiv (W ((W (v2 + v3)) + 1)) 2)) * (W (Int.tdiv (W ((W (v2 + v3)) + 1)) 2)))) : Int) ≤ a0)) true]) (by kernel_rfl) ⟨h0, (show (2 : Int) ≠ 0 from by decide), h1, trivial⟩ ?_
        exact ih (W (Int.tdiv (W ((W (v2 + v3)) + 1)) 2)) v3 (by refine ⟨?_, ?_, ?_, ?_⟩ <;> (try simp only [List.length_append, List.length_cons, List.length_nil, Int.toNat_zero]) <;> first | omega | simp) (by (try simp only [List.length_append, List.length_cons, List.length_nil, Int.toNat_zero]); omega)
      | false =>
        have q0 := of_decide_eq_true h0
        have q1 := of_decide_eq_false h1
        have hw := mid1_eq (a := v2) (b := v3) (by omega)
        have hw2 := mid2_eq (a := v2) (b := v3) (by omega)
        have e : S150_0 a0 (v2, v3) = (.inl (v2, (W ((W (Int.tdiv (W ((W (v2 + v3)) + 1)) 2)) - 1)))) := by simp only [S150_0, h0, h1, cond_true, cond_false]
        rw [loopF_inl e]
        refine back_of (T := T0) hT hm (f := 5000) (orc := [.d true, .d false]) [] [0, 3, 4] [] hcx (body := B150_0) (m := n) (k' := K150_0) (s' := ⟨[(iv a0), .u, .u, (iv v2), (iv (W ((W (Int.tdiv (W ((W (v2 + v3)) + 1)) 2)) - 1))), .u, .u, .u, .u, .u, .u, .u, .u, .u, .u, .u, .u, .u, .u, .u, .u, .u, .u], []⟩)
          (obs := [.eq (decide ((v2 : Int) < v3)) true, .pr ((2 : Int) ≠ 0), .eq (decide (((W ((W (Int.tdiv (W ((W (v2 + v3)) + 1)) 2)) * (W (Int.tdiv (W ((W (v2 + v3)) + 1)) 2)))) : Int) ≤ a0)) false]) (by kernel_rfl) ⟨h0, (show (2 : Int) ≠ 0 from by decide), h1, trivial⟩ ?_
        exact ih v2 (W ((W (Int.tdiv (W ((W (v2 + v3)) + 1)) 2)) - 1)) (by refine ⟨?_, ?_, ?_, ?_⟩ <;> (try simp only [List.length_append, List.length_cons, List.length_nil, Int.toNat_zero]) <;> first | omega | simp) (by (try simp only [List.length_append, List.length_cons, List.length_nil, Int.toNat_zero]); omega)
    | false =>
      have q0 := of_decide_eq_false h0
      have hw := mid1_eq (a := v2) (b := v3) (by omega)
      have hw2 := mid2_eq (a := v2) (b := v3) (by omega)
      have e : S150_0 a0 (v2, v3) = (.inr v2) := by simp only [S150_0, h0, cond_true, cond_false]
      rw [show loopF (S150_0 a0) (n + 1) (v2, v3) = thenF (S150_0 a0) n (S150_0 a0 (v2, v3)) from rfl, e]
      exact ret_of (T := T0) hT hm (f := 5000) (orc := [.d false]) [] [] [] hcx
        (obs := [.eq (decide ((v2 : Int) < v3)) false]) (by kernel_rfl) ⟨h0, trivial⟩

/-- facet/facetref01.floor -/
def F150 (a0 : Int) : Int :=
  (loopF (S150_0 a0) (Int.toNat (2147483648 - 0) + 1) (0, 2147483648))

theorem C150 (a0 : Int) : Con Try.prog 150 [(iv a0)] [] (iv (F150 a0)) [] := by
  have e : (F150 a0) = (loopF (S150_0 a0) (Int.toNat (2147483648 - 0) + 1) (0, 2147483648)) := by simp only [F150]
  rw [e]
  refine con_of (n := 9) Try.func150 rfl (ent Try.func150 (by kernel_rfl) rfl) (by show 1 ≤ Try.f150.ntmps; decide) (by kernel_rfl) trivial (fun cx hcx => ?_)
  refine enter_of (T := T0) hT hm (f := 5000) (orc := []) [] [0, 3, 4] [] hcx (body := B150_0) (k' := K150_0) (s' := ⟨[(iv a0), .u, .u, (iv 0), (iv 2147483648), .u, .u, .u, .u, .u, .u, .u, .u, .u, .u, .u, .u, .u, .u, .u, .u, .u, .u], []⟩)
    (obs := []) (by kernel_rfl) trivial ⟨Int.toNat (2147483648 - 0) + 1, ?_⟩
  exact L150_0 a0 hcx (Int.toNat (2147483648 - 0) + 1) 0 2147483648 (by refine ⟨?_, ?_, ?_, ?_⟩ <;> (try simp only [List.length_append, List.length_cons, List.length_nil, Int.toNat_zero]) <;> first | omega | simp) (by (try simp only [List.length_append, List.length_cons, List.length_nil, Int.toNat_zero]); omega)

/-- facet/facetref01.below -/
def F145 (a0 : Int) (a1 : Int) : (Int × Int) × Int :=
  (bif (((Int.tmod a0 a1) : Int) == 0) then
   (bif (((W ((F150 (W (Int.tdiv a0 a1))) * (F150 (W (Int.tdiv a0 a1))))) : Int) == (W (Int.tdiv a0 a1))) then
    ((F123 (F150 (W (Int.tdiv a0 a1))) (F150 (W (Int.tdiv a0 a1)))).1, (F123 (F150 (W (Int.tdiv a0 a1))) (F150 (W (Int.tdiv a0 a1)))).2)
   else
    ((F123 (F150 (W (Int.tdiv a0 a1))) (W ((F150 (W (Int.tdiv a0 a1))) + 1))).1, (F123 (F150 (W (Int.tdiv a0 a1))) (W ((F150 (W (Int.tdiv a0 a1))) + 1))).2))
  else
   ((F123 (F150 (W (Int.tdiv a0 a1))) (W ((F150 (W (Int.tdiv a0 a1))) + 1))).1, (F123 (F150 (W (Int.tdiv a0 a1))) (W ((F150 (W (Int.tdiv a0 a1))) + 1))).2))

noncomputable def oC145_0 (a0 : Int) (a1 : Int) : Or := .call [] (.t [(.a (k2 (F123 (F150 (W (Int.tdiv a0 a1))) (W ((F150 (W (Int.tdiv a0 a1))) + 1))).1)), (iv (F123 (F150 (W (Int.tdiv a0 a1))) (W ((F150 (W (Int.tdiv a0 a1))) + 1))).2)]) []
noncomputable def oC145_1 (a0 : Int) (a1 : Int) : Ob := .call 123 [(iv (F150 (W (Int.tdiv a0 a1)))), (iv (W ((F150 (W (Int.tdiv a0 a1))) + 1)))] [] (.t [(.a (k2 (F123 (F150 (W (Int.tdiv a0 a1))) (W ((F150 (W (Int.tdiv a0 a1))) + 1))).1)), (iv (F123 (F150 (W (Int.tdiv a0 a1))) (W ((F150 (W (Int.tdiv a0 a1))) + 1))).2)]) []
theorem C145 (a0 : Int) (a1 : Int) (ha : a1 ≠ 0) : Con Try.prog 145 [(iv a0), (iv a1)] [] (.t [(.a (k2 (F145 a0 a1).1)), (iv (F145 a0 a1).2)]) [] := by
  cases h0 : (((Int.tmod a0 a1) : Int) == 0) with
  | true =>
    cases h1 : (((W ((F150 (W (Int.tdiv a0 a1))) * (F150 (W (Int.tdiv a0 a1))))) : Int) == (W (Int.tdiv a0 a1))) with
    | true =>
      have q0 := eq_of_beq h0
      have q1 := eq_of_beq h1
      have e : (F145 a0 a1) = ((F123 (F150 (W (Int.tdiv a0 a1))) (F150 (W (Int.tdiv a0 a1)))).1, (F123 (F150 (W (Int.tdiv a0 a1))) (F150 (W (Int.tdiv a0 a1)))).2) := by simp only [F145, h0, h1, cond_true, cond_false]
      rw [e]
      refine con_of (n := 9) Try.func145 rfl (ent Try.func145 (by kernel_rfl) rfl) (by show 2 ≤ Try.f145.ntmps; decide) (by kernel_rfl) trivial (fun cx hcx => ?_)
      exact ret_of (T := T0) hT hm (f := 5000) (orc := [.call [] (iv (F150 (W (Int.tdiv a0 a1)))) [], .d true, .d true, .call [] (.t [(.a (k2 (F123 (F150 (W (Int.tdiv a0 a1))) (F150 (W (Int.tdiv a0 a1)))).1)), (iv (F123 (F150 (W (Int.tdiv a0 a1))) (F150 (W (Int.tdiv a0 a1)))).2)]) []]) [] [] [] hcx
        (obs := [.pr ((a1 : Int) ≠ 0), .call 150 [(iv (W (Int.tdiv a0 a1)))] [] (iv (F150 (W (Int.tdiv a0 a1)))) [], .pr ((a1 : Int) ≠ 0), .eq (((Int.tmod a0 a1) : Int) == 0) true, .pr ((a1 : Int) ≠ 0), .eq (((W ((F150 (W (Int.tdiv a0 a1))) * (F150 (W (Int.tdiv a0 a1))))) : Int) == (W (Int.tdiv a0 a1))) true, .call 123 [(iv (F150 (W (Int.tdiv a0 a1)))), (iv (F150 (W (Int.tdiv a0 a1))))] [] (.t [(.a (k2 (F123 (F150 (W (Int.tdiv a0 a1))) (F150 (W (Int.tdiv a0 a1)))).1)), (iv (F123 (F150 (W (Int.tdiv a0 a1))) (F150 (W (Int.tdiv a0 a1)))).2)]) []]) (by kernel_rfl) ⟨(show (a1 : Int) ≠ 0 from by first | omega | (rw [W_eq] <;> omega) | exact u64_nn _), (C150 (W (Int.tdiv a0 a1))), (show (a1 : Int) ≠ 0 from by first | omega | (rw [W_eq] <;> omega) | exact u64_nn _), h0, (show (a1 : Int) ≠ 0 from by first | omega | (rw [W_eq] <;> omega) | exact u64_nn _), h1, (C123 (F150 (W (Int.tdiv a0 a1))) (F150 (W (Int.tdiv a0 a1)))), trivial⟩
    | false =>
      have q0 := eq_of_beq h0
      have q1 := ne_of_beq_false h1
      have e : (F145 a0 a1) = ((F123 (F150 (W (Int.tdiv a0 a1))) (W ((F150 (W (Int.tdiv a0 a1))) + 1))).1, (F123 (F150 (W (Int.tdiv a0 a1))) (W ((F150 (W (Int.tdiv a0 a1))) + 1))).2) := by simp only [F145, h0, h1, cond_true, cond_false]
      rw [e]
      refine con_of (n := 9) Try.func145 rfl (ent Try.func145 (by kernel_rfl) rfl) (by show 2 ≤ Try.f145.ntmps; decide) (by kernel_rfl) trivial (fun cx hcx => ?_)
      exact ret_of (T := T0) hT hm (f := 5000) (orc := [.call [] (iv (F150 (W (Int.tdiv a0 a1)))) [], .d true, .d false, (oC145_0 a0 a1)]) [] [] [] hcx
        (obs := [.pr ((a1 : Int) ≠ 0), .call 150 [(iv (W (Int.tdiv a0 a1)))] [] (iv (F150 (W (Int.tdiv a0 a1)))) [], .pr ((a1 : Int) ≠ 0), .eq (((Int.tmod a0 a1) : Int) == 0) true, .pr ((a1 : Int) ≠ 0), .eq (((W ((F150 (W (Int.tdiv a0 a1))) * (F150 (W (Int.tdiv a0 a1))))) : Int) == (W (Int.tdiv a0 a1))) false, (oC145_1 a0 a1)]) (by kernel_rfl) ⟨(show (a1 : Int) ≠ 0 from by first | omega | (rw [W_eq] <;> omega) | exact u64_nn _), (C150 (W (Int.tdiv a0 a1))), (show (a1 : Int) ≠ 0 from by first | omega | (rw [W_eq] <;> omega) | exact u64_nn _), h0, (show (a1 : Int) ≠ 0 from by first | omega | (rw [W_eq] <;> omega) | exact u64_nn _), h1, (C123 (F150 (W (Int.tdiv a0 a1))) (W ((F150 (W (Int.tdiv a0 a1))) + 1))), trivial⟩
  | false =>
    have q0 := ne_of_beq_false h0
    have e : (F145 a0 a1) = ((F123 (F150 (W (Int.tdiv a0 a1))) (W ((F150 (W (Int.tdiv a0 a1))) + 1))).1, (F123 (F150 (W (Int.tdiv a0 a1))) (W ((F150 (W (Int.tdiv a0 a1))) + 1))).2) := by simp only [F145, h0, cond_true, cond_false]
    rw [e]
    refine con_of (n := 9) Try.func145 rfl (ent Try.func145 (by kernel_rfl) rfl) (by show 2 ≤ Try.f145.ntmps; decide) (by kernel_rfl) trivial (fun cx hcx => ?_)
    exact ret_of (T := T0) hT hm (f := 5000) (orc := [.call [] (iv (F150 (W (Int.tdiv a0 a1)))) [], .d false, (oC145_0 a0 a1)]) [] [] [] hcx
      (obs := [.pr ((a1 : Int) ≠ 0), .call 150 [(iv (W (Int.tdiv a0 a1)))] [] (iv (F150 (W (Int.tdiv a0 a1)))) [], .pr ((a1 : Int) ≠ 0), .eq (((Int.tmod a0 a1) : Int) == 0) false, (oC145_1 a0 a1)]) (by kernel_rfl) ⟨(show (a1 : Int) ≠ 0 from by first | omega | (rw [W_eq] <;> omega) | exact u64_nn _), (C150 (W (Int.tdiv a0 a1))), (show (a1 : Int) ≠ 0 from by first | omega | (rw [W_eq] <;> omega) | exact u64_nn _), h0, (C123 (F150 (W (Int.tdiv a0 a1))) (W ((F150 (W (Int.tdiv a0 a1))) + 1))), trivial⟩

/-- facet/facetref01.Inverse -/
def F96 (a0 : Int) (a1 : Int) : (Int × Int) × Int :=
  (bif (!(F122 a0 1 1099511627776)) then
   ((0, 0), 1)
  else
   (bif (!(F122 a1 1 8)) then
    ((0, 0), 1)
   else
    ((F145 (W ((W ((W (1048576 * a1)) * 1048576)) * a1)) a0).1, (F145 (W ((W ((W (1048576 * a1)) * 1048576)) * a1)) a0).2)))

noncomputable def oC96_0 (a0 : Int) : Ob := .call 122 [(iv a0), (iv 1), (iv 1099511627776)] [] (.v (.bool (F122 a0 1 1099511627776))) []
theorem C96 (a0 : Int) (a1 : Int) : Con Try.prog 96 [(iv a0), (iv a1)] [] (.t [(.a (k2 (F96 a0 a1).1)), (iv (F96 a0 a1).2)]) [] := by
  cases h0 : (!(F122 a0 1 1099511627776)) with
  | true =>
    have e : (F96 a0 a1) = ((0, 0), 1) := by simp only [F96, h0, cond_true, cond_false]
    rw [e]
    refine con_of (n := 9) Try.func96 rfl (ent Try.func96 (by kernel_rfl) rfl) (by show 2 ≤ Try.f96.ntmps; decide) (by kernel_rfl) trivial (fun cx hcx => ?_)
    exact ret_of (T := T0) hT hm (f := 5000) (orc := [.call [] (.v (.bool (F122 a0 1 1099511627776))) [], .d true]) [] [] [] hcx
      (obs := [(oC96_0 a0), .eq (!(F122 a0 1 1099511627776)) true]) (by kernel_rfl) ⟨(C122 a0 1 1099511627776), h0, trivial⟩
  | false =>
    cases h1 : (!(F122 a1 1 8)) with
    | true =>
      have e : (F96 a0 a1) = ((0, 0), 1) := by simp only [F96, h0, h1, cond_true, cond_false]
      rw [e]
      refine con_of (n := 9) Try.func96 rfl (ent Try.func96 (by kernel_rfl) rfl) (by show 2 ≤ Try.f96.ntmps; decide) (by kernel_rfl) trivial (fun cx hcx => ?_)
      exact ret_of (T := T0) hT hm (f := 5000) (orc := [.call [] (.v (.bool (F122 a0 1 1099511627776))) [], .d false, .call [] (.v (.bool (F122 a1 1 8))) [], .d true]) [] [] [] hcx
        (obs := [(oC96_0 a0), .eq (!(F122 a0 1 1099511627776)) false, .call 122 [(iv a1), (iv 1), (iv 8)] [] (.v (.bool (F122 a1 1 8))) [], .eq (!(F122 a1 1 8)) true]) (by kernel_rfl) ⟨(C122 a0 1 1099511627776), h0, (C122 a1 1 8), h1, trivial⟩
    | false =>
      have e : (F96 a0 a1) = ((F145 (W ((W ((W (1048576 * a1)) * 1048576)) * a1)) a0).1, (F145 (W ((W ((W (1048576 * a1)) * 1048576)) * a1)) a0).2) := by simp only [F96, h0, h1, cond_true, cond_false]
      rw [e]
      refine con_of (n := 9) Try.func96 rfl (ent Try.func96 (by kernel_rfl) rfl) (by show 2 ≤ Try.f96.ntmps; decide) (by kernel_rfl) trivial (fun cx hcx => ?_)
      exact ret_of (T := T0) hT hm (f := 5000) (orc := [.call [] (.v (.bool (F122 a0 1 1099511627776))) [], .d false, .call [] (.v (.bool (F122 a1 1 8))) [], .d false, .call [] (.t [(.a (k2 (F145 (W ((W ((W (1048576 * a1)) * 1048576)) * a1)) a0).1)), (iv (F145 (W ((W ((W (1048576 * a1)) * 1048576)) * a1)) a0).2)]) []]) [] [] [] hcx
        (obs := [(oC96_0 a0), .eq (!(F122 a0 1 1099511627776)) false, .call 122 [(iv a1), (iv 1), (iv 8)] [] (.v (.bool (F122 a1 1 8))) [], .eq (!(F122 a1 1 8)) false, .call 145 [(iv (W ((W ((W (1048576 * a1)) * 1048576)) * a1))), (iv a0)] [] (.t [(.a (k2 (F145 (W ((W ((W (1048576 * a1)) * 1048576)) * a1)) a0).1)), (iv (F145 (W ((W ((W (1048576 * a1)) * 1048576)) * a1)) a0).2)]) []]) (by kernel_rfl) ⟨(C122 a0 1 1099511627776), h0, (C122 a1 1 8), h1, (C145 (W ((W ((W (1048576 * a1)) * 1048576)) * a1)) a0  (win_ne h0)), trivial⟩

/-- facet/facetref01.RootDown -/
def F114 (a0 : Int) : Int :=
  (F150 a0)

theorem C114 (a0 : Int) : Con Try.prog 114 [(iv a0)] [] (iv (F114 a0)) [] := by
  have e : (F114 a0) = (F150 a0) := by simp only [F114]
  rw [e]
  refine con_of (n := 9) Try.func114 rfl (ent Try.func114 (by kernel_rfl) rfl) (by show 1 ≤ Try.f114.ntmps; decide) (by kernel_rfl) trivial (fun cx hcx => ?_)
  exact ret_of (T := T0) hT hm (f := 5000) (orc := [.call [] (iv (F150 a0)) []]) [] [] [] hcx
    (obs := [.call 150 [(iv a0)] [] (iv (F150 a0)) []]) (by kernel_rfl) ⟨(C150 a0), trivial⟩

/-- facet/facetref02.Minus -/
def F125 (a0 : Int × Int × Int) (a1 : Int × Int × Int) : Int × Int × Int :=
  ((W (a0.1 - a1.1)), (W (a0.2.1 - a1.2.1)), (W (a0.2.2 - a1.2.2)))

theorem C125 (a0 : Int × Int × Int) (a1 : Int × Int × Int) : Con Try.prog 125 [(.a (k3 a0)), (.a (k3 a1))] [] (.a (k3 (F125 a0 a1))) [] := by
  have e : (F125 a0 a1) = ((W (a0.1 - a1.1)), (W (a0.2.1 - a1.2.1)), (W (a0.2.2 - a1.2.2))) := by simp only [F125]
  rw [e]
  refine con_of (n := 9) Try.func125 rfl (ent Try.func125 (by kernel_rfl) rfl) (by show 2 ≤ Try.f125.ntmps; decide) (by kernel_rfl) trivial (fun cx hcx => ?_)
  exact ret_of (T := T0) hT hm (f := 5000) (orc := []) [] [] [] hcx
    (obs := []) (by kernel_rfl) trivial

/-- facet/facetref02.Cross -/
def F126 (a0 : Int × Int × Int) (a1 : Int × Int × Int) : Int × Int × Int :=
  ((W ((W (a0.2.1 * a1.2.2)) - (W (a0.2.2 * a1.2.1)))), (W ((W (a0.2.2 * a1.1)) - (W (a0.1 * a1.2.2)))), (W ((W (a0.1 * a1.2.1)) - (W (a0.2.1 * a1.1)))))

theorem C126 (a0 : Int × Int × Int) (a1 : Int × Int × Int) : Con Try.prog 126 [(.a (k3 a0)), (.a (k3 a1))] [] (.a (k3 (F126 a0 a1))) [] := by
  have e : (F126 a0 a1) = ((W ((W (a0.2.1 * a1.2.2)) - (W (a0.2.2 * a1.2.1)))), (W ((W (a0.2.2 * a1.1)) - (W (a0.1 * a1.2.2)))), (W ((W (a0.1 * a1.2.1)) - (W (a0.2.1 * a1.1))))) := by simp only [F126]
  rw [e]
  refine con_of (n := 9) Try.func126 rfl (ent Try.func126 (by kernel_rfl) rfl) (by show 2 ≤ Try.f126.ntmps; decide) (by kernel_rfl) trivial (fun cx hcx => ?_)
  exact ret_of (T := T0) hT hm (f := 5000) (orc := []) [] [] [] hcx
    (obs := []) (by kernel_rfl) trivial

/-- facet/facetref02.Across -/
def F106 (a0 : (Int × Int × Int) × (Int × Int × Int) × Int × Int × Int) : Int × Int × Int :=
  (F126 (F125 a0.2.1 a0.1) (F125 a0.2.2 a0.1))

theorem C106 (a0 : (Int × Int × Int) × (Int × Int × Int) × Int × Int × Int) : Con Try.prog 106 [(.a (k9 a0))] [] (.a (k3 (F106 a0))) [] := by
  have e : (F106 a0) = (F126 (F125 a0.2.1 a0.1) (F125 a0.2.2 a0.1)) := by simp only [F106]
  rw [e]
  refine con_of (n := 9) Try.func106 rfl (ent Try.func106 (by kernel_rfl) rfl) (by show 1 ≤ Try.f106.ntmps; decide) (by kernel_rfl) trivial (fun cx hcx => ?_)
  exact ret_of (T := T0) hT hm (f := 5000) (orc := [.call [] (.a (k3 (F125 a0.2.1 a0.1))) [], .call [] (.a (k3 (F125 a0.2.2 a0.1))) [], .call [] (.a (k3 (F126 (F125 a0.2.1 a0.1) (F125 a0.2.2 a0.1)))) []]) [] [] [] hcx
    (obs := [.call 125 [(.a (k3 a0.2.1)), (.a (k3 a0.1))] [] (.a (k3 (F125 a0.2.1 a0.1))) [], .call 125 [(.a (k3 a0.2.2)), (.a (k3 a0.1))] [] (.a (k3 (F125 a0.2.2 a0.1))) [], .call 126 [(.a (k3 (F125 a0.2.1 a0.1))), (.a (k3 (F125 a0.2.2 a0.1)))] [] (.a (k3 (F126 (F125 a0.2.1 a0.1) (F125 a0.2.2 a0.1)))) []]) (by kernel_rfl) ⟨(C125 a0.2.1 a0.1), (C125 a0.2.2 a0.1), (C126 (F125 a0.2.1 a0.1) (F125 a0.2.2 a0.1)), trivial⟩

/-- facet/facetref02.Dot -/
def F115 (a0 : Int × Int × Int) (a1 : Int × Int × Int) : Int :=
  (W ((W ((W (a0.1 * a1.1)) + (W (a0.2.1 * a1.2.1)))) + (W (a0.2.2 * a1.2.2))))

theorem C115 (a0 : Int × Int × Int) (a1 : Int × Int × Int) : Con Try.prog 115 [(.a (k3 a0)), (.a (k3 a1))] [] (iv (F115 a0 a1)) [] := by
  have e : (F115 a0 a1) = (W ((W ((W (a0.1 * a1.1)) + (W (a0.2.1 * a1.2.1)))) + (W (a0.2.2 * a1.2.2)))) := by simp only [F115]
  rw [e]
  refine con_of (n := 9) Try.func115 rfl (ent Try.func115 (by kernel_rfl) rfl) (by show 2 ≤ Try.f115.ntmps; decide) (by kernel_rfl) trivial (fun cx hcx => ?_)
  exact ret_of (T := T0) hT hm (f := 5000) (orc := []) [] [] [] hcx
    (obs := []) (by kernel_rfl) trivial

/-- facet/facetref02.within -/
def F146 (a0 : Int) (a1 : Int) (a2 : Int) : Bool :=
  (bif (decide ((a0 : Int) ≥ a1)) then
   (decide ((a0 : Int) ≤ a2))
  else
   false)

theorem C146 (a0 : Int) (a1 : Int) (a2 : Int) : Con Try.prog 146 [(iv a0), (iv a1), (iv a2)] [] (.v (.bool (F146 a0 a1 a2))) [] := by
  cases h0 : (decide ((a0 : Int) ≥ a1)) with
  | true =>
    have q0 := of_decide_eq_true h0
    have e : (F146 a0 a1 a2) = (decide ((a0 : Int) ≤ a2)) := by simp only [F146, h0, cond_true, cond_false]
    rw [e]
    refine con_of (n := 9) Try.func146 rfl (ent Try.func146 (by kernel_rfl) rfl) (by show 3 ≤ Try.f146.ntmps; decide) (by kernel_rfl) trivial (fun cx hcx => ?_)
    exact ret_of (T := T0) hT hm (f := 5000) (orc := [.d true]) [] [] [] hcx
      (obs := [.eq (decide ((a0 : Int) ≥ a1)) true]) (by kernel_rfl) ⟨h0, trivial⟩
  | false =>
    have q0 := of_decide_eq_false h0
    have e : (F146 a0 a1 a2) = false := by simp only [F146, h0, cond_true, cond_false]
    rw [e]
    refine con_of (n := 9) Try.func146 rfl (ent Try.func146 (by kernel_rfl) rfl) (by show 3 ≤ Try.f146.ntmps; decide) (by kernel_rfl) trivial (fun cx hcx => ?_)
    exact ret_of (T := T0) hT hm (f := 5000) (orc := [.d false]) [] [] [] hcx
      (obs := [.eq (decide ((a0 : Int) ≥ a1)) false]) (by kernel_rfl) ⟨h0, trivial⟩

/-- facet/facetref02.near -/
def F105 (a0 : Int × Int × Int) (a1 : Int) : Bool :=
  (bif (F146 a0.1 (W (0 - a1)) a1) then
   (bif (F146 a0.2.1 (W (0 - a1)) a1) then
    (F146 a0.2.2 (W (0 - a1)) a1)
   else
    false)
  else
   false)

noncomputable def oC105_0 (a0 : Int × Int × Int) (a1 : Int) : Ob := .call 146 [(iv a0.1), (iv (W (0 - a1))), (iv a1)] [] (.v (.bool (F146 a0.1 (W (0 - a1)) a1))) []
theorem C105 (a0 : Int × Int × Int) (a1 : Int) : Con Try.prog 105 [(.a (k3 a0)), (iv a1)] [] (.v (.bool (F105 a0 a1))) [] := by
  cases h0 : (F146 a0.1 (W (0 - a1)) a1) with
  | true =>
    cases h1 : (F146 a0.2.1 (W (0 - a1)) a1) with
    | true =>
      have e : (F105 a0 a1) = (F146 a0.2.2 (W (0 - a1)) a1) := by simp only [F105, h0, h1, cond_true, cond_false]
      rw [e]
      refine con_of (n := 9) Try.func105 rfl (ent Try.func105 (by kernel_rfl) rfl) (by show 2 ≤ Try.f105.ntmps; decide) (by kernel_rfl) trivial (fun cx hcx => ?_)
      exact ret_of (T := T0) hT hm (f := 5000) (orc := [.call [] (.v (.bool (F146 a0.1 (W (0 - a1)) a1))) [], .d true, .call [] (.v (.bool (F146 a0.2.1 (W (0 - a1)) a1))) [], .d true, .call [] (.v (.bool (F146 a0.2.2 (W (0 - a1)) a1))) []]) [] [] [] hcx
        (obs := [(oC105_0 a0 a1), .eq (F146 a0.1 (W (0 - a1)) a1) true, .call 146 [(iv a0.2.1), (iv (W (0 - a1))), (iv a1)] [] (.v (.bool (F146 a0.2.1 (W (0 - a1)) a1))) [], .eq (F146 a0.2.1 (W (0 - a1)) a1) true, .call 146 [(iv a0.2.2), (iv (W (0 - a1))), (iv a1)] [] (.v (.bool (F146 a0.2.2 (W (0 - a1)) a1))) []]) (by kernel_rfl) ⟨(C146 a0.1 (W (0 - a1)) a1), h0, (C146 a0.2.1 (W (0 - a1)) a1), h1, (C146 a0.2.2 (W (0 - a1)) a1), trivial⟩
    | false =>
      have e : (F105 a0 a1) = false := by simp only [F105, h0, h1, cond_true, cond_false]
      rw [e]
      refine con_of (n := 9) Try.func105 rfl (ent Try.func105 (by kernel_rfl) rfl) (by show 2 ≤ Try.f105.ntmps; decide) (by kernel_rfl) trivial (fun cx hcx => ?_)
      exact ret_of (T := T0) hT hm (f := 5000) (orc := [.call [] (.v (.bool (F146 a0.1 (W (0 - a1)) a1))) [], .d true, .call [] (.v (.bool (F146 a0.2.1 (W (0 - a1)) a1))) [], .d false]) [] [] [] hcx
        (obs := [(oC105_0 a0 a1), .eq (F146 a0.1 (W (0 - a1)) a1) true, .call 146 [(iv a0.2.1), (iv (W (0 - a1))), (iv a1)] [] (.v (.bool (F146 a0.2.1 (W (0 - a1)) a1))) [], .eq (F146 a0.2.1 (W (0 - a1)) a1) false]) (by kernel_rfl) ⟨(C146 a0.1 (W (0 - a1)) a1), h0, (C146 a0.2.1 (W (0 - a1)) a1), h1, trivial⟩
  | false =>
    have e : (F105 a0 a1) = false := by simp only [F105, h0, cond_true, cond_false]
    rw [e]
    refine con_of (n := 9) Try.func105 rfl (ent Try.func105 (by kernel_rfl) rfl) (by show 2 ≤ Try.f105.ntmps; decide) (by kernel_rfl) trivial (fun cx hcx => ?_)
    exact ret_of (T := T0) hT hm (f := 5000) (orc := [.call [] (.v (.bool (F146 a0.1 (W (0 - a1)) a1))) [], .d false]) [] [] [] hcx
      (obs := [(oC105_0 a0 a1), .eq (F146 a0.1 (W (0 - a1)) a1) false]) (by kernel_rfl) ⟨(C146 a0.1 (W (0 - a1)) a1), h0, trivial⟩

/-- facet/facetref02.ValidatePanel -/
def F49 (a0 : (Int × Int × Int) × (Int × Int × Int) × Int × Int × Int) : Int :=
  (bif (!(F105 a0.1 64)) then
   1
  else
   (bif (!(F105 a0.2.1 64)) then
    1
   else
    (bif (!(F105 a0.2.2 64)) then
     1
    else
     (bif ((((F106 a0).1 : Int) == 0) && ((((F106 a0).2.1 : Int) == 0) && ((((F106 a0).2.2 : Int) == 0) && true))) then
      6
     else
      0))))

noncomputable def oC49_0 (a0 : (Int × Int × Int) × (Int × Int × Int) × Int × Int × Int) : Ob := .call 105 [(.a (k3 a0.1)), (iv 64)] [] (.v (.bool (F105 a0.1 64))) []
noncomputable def oC49_1 (a0 : (Int × Int × Int) × (Int × Int × Int) × Int × Int × Int) : Ob := .call 105 [(.a (k3 a0.2.1)), (iv 64)] [] (.v (.bool (F105 a0.2.1 64))) []
theorem C49 (a0 : (Int × Int × Int) × (Int × Int × Int) × Int × Int × Int) : Con Try.prog 49 [(.a (k9 a0))] [] (iv (F49 a0)) [] := by
  cases h0 : (!(F105 a0.1 64)) with
  | true =>
    have e : (F49 a0) = 1 := by simp only [F49, h0, cond_true, cond_false]
    rw [e]
    refine con_of (n := 9) Try.func49 rfl (ent Try.func49 (by kernel_rfl) rfl) (by show 1 ≤ Try.f49.ntmps; decide) (by kernel_rfl) trivial (fun cx hcx => ?_)
    exact ret_of (T := T0) hT hm (f := 5000) (orc := [.call [] (.v (.bool (F105 a0.1 64))) [], .d true]) [] [] [] hcx
      (obs := [(oC49_0 a0), .eq (!(F105 a0.1 64)) true]) (by kernel_rfl) ⟨(C105 a0.1 64), h0, trivial⟩
  | false =>
    cases h1 : (!(F105 a0.2.1 64)) with
    | true =>
      have e : (F49 a0) = 1 := by simp only [F49, h0, h1, cond_true, cond_false]
      rw [e]
      refine con_of (n := 9) Try.func49 rfl (ent Try.func49 (by kernel_rfl) rfl) (by show 1 ≤ Try.f49.ntmps; decide) (by kernel_rfl) trivial (fun cx hcx => ?_)
      exact ret_of (T := T0) hT hm (f := 5000) (orc := [.call [] (.v (.bool (F105 a0.1 64))) [], .d false, .call [] (.v (.bool (F105 a0.2.1 64))) [], .d true]) [] [] [] hcx
        (obs := [(oC49_0 a0), .eq (!(F105 a0.1 64)) false, (oC49_1 a0), .eq (!(F105 a0.2.1 64)) true]) (by kernel_rfl) ⟨(C105 a0.1 64), h0, (C105 a0.2.1 64), h1, trivial⟩
    | false =>
      cases h2 : (!(F105 a0.2.2 64)) with
      | true =>
        have e : (F49 a0) = 1 := by simp only [F49, h0, h1, h2, cond_true, cond_false]
        rw [e]
        refine con_of (n := 9) Try.func49 rfl (ent Try.func49 (by kernel_rfl) rfl) (by show 1 ≤ Try.f49.ntmps; decide) (by kernel_rfl) trivial (fun cx hcx => ?_)
        exact ret_of (T := T0) hT hm (f := 5000) (orc := [.call [] (.v (.bool (F105 a0.1 64))) [], .d false, .call [] (.v (.bool (F105 a0.2.1 64))) [], .d false, .call [] (.v (.bool (F105 a0.2.2 64))) [], .d true]) [] [] [] hcx
          (obs := [(oC49_0 a0), .eq (!(F105 a0.1 64)) false, (oC49_1 a0), .eq (!(F105 a0.2.1 64)) false, .call 105 [(.a (k3 a0.2.2)), (iv 64)] [] (.v (.bool (F105 a0.2.2 64))) [], .eq (!(F105 a0.2.2 64)) true]) (by kernel_rfl) ⟨(C105 a0.1 64), h0, (C105 a0.2.1 64), h1, (C105 a0.2.2 64), h2, trivial⟩
      | false =>
        cases h3 : ((((F106 a0).1 : Int) == 0) && ((((F106 a0).2.1 : Int) == 0) && ((((F106 a0).2.2 : Int) == 0) && true))) with
        | true =>
          have e : (F49 a0) = 6 := by simp only [F49, h0, h1, h2, h3, cond_true, cond_false]
          rw [e]
          refine con_of (n := 9) Try.func49 rfl (ent Try.func49 (by kernel_rfl) rfl) (by show 1 ≤ Try.f49.ntmps; decide) (by kernel_rfl) trivial (fun cx hcx => ?_)
          exact ret_of (T := T0) hT hm (f := 5000) (orc := [.call [] (.v (.bool (F105 a0.1 64))) [], .d false, .call [] (.v (.bool (F105 a0.2.1 64))) [], .d false, .call [] (.v (.bool (F105 a0.2.2 64))) [], .d false, .call [] (.a (k3 (F106 a0))) [], .d true]) [] [] [] hcx
            (obs := [(oC49_0 a0), .eq (!(F105 a0.1 64)) false, (oC49_1 a0), .eq (!(F105 a0.2.1 64)) false, .call 105 [(.a (k3 a0.2.2)), (iv 64)] [] (.v (.bool (F105 a0.2.2 64))) [], .eq (!(F105 a0.2.2 64)) false, .call 106 [(.a (k9 a0))] [] (.a (k3 (F106 a0))) [], .eq ((((F106 a0).1 : Int) == 0) && ((((F106 a0).2.1 : Int) == 0) && ((((F106 a0).2.2 : Int) == 0) && true))) true]) (by kernel_rfl) ⟨(C105 a0.1 64), h0, (C105 a0.2.1 64), h1, (C105 a0.2.2 64), h2, (C106 a0), h3, trivial⟩
        | false =>
          have e : (F49 a0) = 0 := by simp only [F49, h0, h1, h2, h3, cond_true, cond_false]
          rw [e]
          refine con_of (n := 9) Try.func49 rfl (ent Try.func49 (by kernel_rfl) rfl) (by show 1 ≤ Try.f49.ntmps; decide) (by kernel_rfl) trivial (fun cx hcx => ?_)
          exact ret_of (T := T0) hT hm (f := 5000) (orc := [.call [] (.v (.bool (F105 a0.1 64))) [], .d false, .call [] (.v (.bool (F105 a0.2.1 64))) [], .d false, .call [] (.v (.bool (F105 a0.2.2 64))) [], .d false, .call [] (.a (k3 (F106 a0))) [], .d false]) [] [] [] hcx
            (obs := [(oC49_0 a0), .eq (!(F105 a0.1 64)) false, (oC49_1 a0), .eq (!(F105 a0.2.1 64)) false, .call 105 [(.a (k3 a0.2.2)), (iv 64)] [] (.v (.bool (F105 a0.2.2 64))) [], .eq (!(F105 a0.2.2 64)) false, .call 106 [(.a (k9 a0))] [] (.a (k3 (F106 a0))) [], .eq ((((F106 a0).1 : Int) == 0) && ((((F106 a0).2.1 : Int) == 0) && ((((F106 a0).2.2 : Int) == 0) && true))) false]) (by kernel_rfl) ⟨(C105 a0.1 64), h0, (C105 a0.2.1 64), h1, (C105 a0.2.2 64), h2, (C106 a0), h3, trivial⟩

/-- facet/facetref03.within -/
def F45 (a0 : Int) (a1 : Int) (a2 : Int) : Bool :=
  (bif (decide ((a0 : Int) ≥ a1)) then
   (decide ((a0 : Int) ≤ a2))
  else
   false)

theorem C45 (a0 : Int) (a1 : Int) (a2 : Int) : Con Try.prog 45 [(iv a0), (iv a1), (iv a2)] [] (.v (.bool (F45 a0 a1 a2))) [] := by
  cases h0 : (decide ((a0 : Int) ≥ a1)) with
  | true =>
    have q0 := of_decide_eq_true h0
    have e : (F45 a0 a1 a2) = (decide ((a0 : Int) ≤ a2)) := by simp only [F45, h0, cond_true, cond_false]
    rw [e]
    refine con_of (n := 9) Try.func45 rfl (ent Try.func45 (by kernel_rfl) rfl) (by show 3 ≤ Try.f45.ntmps; decide) (by kernel_rfl) trivial (fun cx hcx => ?_)
    exact ret_of (T := T0) hT hm (f := 5000) (orc := [.d true]) [] [] [] hcx
      (obs := [.eq (decide ((a0 : Int) ≥ a1)) true]) (by kernel_rfl) ⟨h0, trivial⟩
  | false =>
    have q0 := of_decide_eq_false h0
    have e : (F45 a0 a1 a2) = false := by simp only [F45, h0, cond_true, cond_false]
    rw [e]
    refine con_of (n := 9) Try.func45 rfl (ent Try.func45 (by kernel_rfl) rfl) (by show 3 ≤ Try.f45.ntmps; decide) (by kernel_rfl) trivial (fun cx hcx => ?_)
    exact ret_of (T := T0) hT hm (f := 5000) (orc := [.d false]) [] [] [] hcx
      (obs := [.eq (decide ((a0 : Int) ≥ a1)) false]) (by kernel_rfl) ⟨h0, trivial⟩

/-- facet/facetref03.place -/
def F94 (a0 : Int × Int × Int) : Bool :=
  (bif (F45 a0.1 (-256) 256) then
   (bif (F45 a0.2.1 (-256) 256) then
    (F45 a0.2.2 (-256) 256)
   else
    false)
  else
   false)

noncomputable def oC94_0 (a0 : Int × Int × Int) : Ob := .call 45 [(iv a0.1), (iv (-256)), (iv 256)] [] (.v (.bool (F45 a0.1 (-256) 256))) []
theorem C94 (a0 : Int × Int × Int) : Con Try.prog 94 [(.a (k3 a0))] [] (.v (.bool (F94 a0))) [] := by
  cases h0 : (F45 a0.1 (-256) 256) with
  | true =>
    cases h1 : (F45 a0.2.1 (-256) 256) with
    | true =>
      have e : (F94 a0) = (F45 a0.2.2 (-256) 256) := by simp only [F94, h0, h1, cond_true, cond_false]
      rw [e]
      refine con_of (n := 9) Try.func94 rfl (ent Try.func94 (by kernel_rfl) rfl) (by show 1 ≤ Try.f94.ntmps; decide) (by kernel_rfl) trivial (fun cx hcx => ?_)
      exact ret_of (T := T0) hT hm (f := 5000) (orc := [.call [] (.v (.bool (F45 a0.1 (-256) 256))) [], .d true, .call [] (.v (.bool (F45 a0.2.1 (-256) 256))) [], .d true, .call [] (.v (.bool (F45 a0.2.2 (-256) 256))) []]) [] [] [] hcx
        (obs := [(oC94_0 a0), .eq (F45 a0.1 (-256) 256) true, .call 45 [(iv a0.2.1), (iv (-256)), (iv 256)] [] (.v (.bool (F45 a0.2.1 (-256) 256))) [], .eq (F45 a0.2.1 (-256) 256) true, .call 45 [(iv a0.2.2), (iv (-256)), (iv 256)] [] (.v (.bool (F45 a0.2.2 (-256) 256))) []]) (by kernel_rfl) ⟨(C45 a0.1 (-256) 256), h0, (C45 a0.2.1 (-256) 256), h1, (C45 a0.2.2 (-256) 256), trivial⟩
    | false =>
      have e : (F94 a0) = false := by simp only [F94, h0, h1, cond_true, cond_false]
      rw [e]
      refine con_of (n := 9) Try.func94 rfl (ent Try.func94 (by kernel_rfl) rfl) (by show 1 ≤ Try.f94.ntmps; decide) (by kernel_rfl) trivial (fun cx hcx => ?_)
      exact ret_of (T := T0) hT hm (f := 5000) (orc := [.call [] (.v (.bool (F45 a0.1 (-256) 256))) [], .d true, .call [] (.v (.bool (F45 a0.2.1 (-256) 256))) [], .d false]) [] [] [] hcx
        (obs := [(oC94_0 a0), .eq (F45 a0.1 (-256) 256) true, .call 45 [(iv a0.2.1), (iv (-256)), (iv 256)] [] (.v (.bool (F45 a0.2.1 (-256) 256))) [], .eq (F45 a0.2.1 (-256) 256) false]) (by kernel_rfl) ⟨(C45 a0.1 (-256) 256), h0, (C45 a0.2.1 (-256) 256), h1, trivial⟩
  | false =>
    have e : (F94 a0) = false := by simp only [F94, h0, cond_true, cond_false]
    rw [e]
    refine con_of (n := 9) Try.func94 rfl (ent Try.func94 (by kernel_rfl) rfl) (by show 1 ≤ Try.f94.ntmps; decide) (by kernel_rfl) trivial (fun cx hcx => ?_)
    exact ret_of (T := T0) hT hm (f := 5000) (orc := [.call [] (.v (.bool (F45 a0.1 (-256) 256))) [], .d false]) [] [] [] hcx
      (obs := [(oC94_0 a0), .eq (F45 a0.1 (-256) 256) false]) (by kernel_rfl) ⟨(C45 a0.1 (-256) 256), h0, trivial⟩

/-- facet/facetref03.asked -/
def F44 (a0 : (Int × Int × Int) × (Int × Int × Int) × Int × Int × Int) (a1 : Int × Int × Int) (a2 : Int) : Int :=
  (bif (((F49 a0) : Int) != 0) then
   (F49 a0)
  else
   (bif (!(F94 a1)) then
    1
   else
    (bif (!(F45 a2 0 3)) then
     1
    else
     0)))

theorem C44 (a0 : (Int × Int × Int) × (Int × Int × Int) × Int × Int × Int) (a1 : Int × Int × Int) (a2 : Int) : Con Try.prog 44 [(.a (k9 a0)), (.a (k3 a1)), (iv a2)] [] (iv (F44 a0 a1 a2)) [] := by
  cases h0 : (((F49 a0) : Int) != 0) with
  | true =>
    have q0 := bne_iff_ne.1 h0
    have e : (F44 a0 a1 a2) = (F49 a0) := by simp only [F44, h0, cond_true, cond_false]
    rw [e]
    refine con_of (n := 9) Try.func44 rfl (ent Try.func44 (by kernel_rfl) rfl) (by show 3 ≤ Try.f44.ntmps; decide) (by kernel_rfl) trivial (fun cx hcx => ?_)
    exact ret_of (T := T0) hT hm (f := 5000) (orc := [.call [] (iv (F49 a0)) [], .d true]) [] [] [] hcx
      (obs := [.call 49 [(.a (k9 a0))] [] (iv (F49 a0)) [], .eq (((F49 a0) : Int) != 0) true]) (by kernel_rfl) ⟨(C49 a0), h0, trivial⟩
  | false =>
    cases h1 : (!(F94 a1)) with
    | true =>
      have q0 := bne_eq_false_iff_eq.1 h0
      have e : (F44 a0 a1 a2) = 1 := by simp only [F44, h0, h1, cond_true, cond_false]
      rw [e]
      refine con_of (n := 9) Try.func44 rfl (ent Try.func44 (by kernel_rfl) rfl) (by show 3 ≤ Try.f44.ntmps; decide) (by kernel_rfl) trivial (fun cx hcx => ?_)
      exact ret_of (T := T0) hT hm (f := 5000) (orc := [.call [] (iv (F49 a0)) [], .d false, .call [] (.v (.bool (F94 a1))) [], .d true]) [] [] [] hcx
        (obs := [.call 49 [(.a (k9 a0))] [] (iv (F49 a0)) [], .eq (((F49 a0) : Int) != 0) false, .call 94 [(.a (k3 a1))] [] (.v (.bool (F94 a1))) [], .eq (!(F94 a1)) true]) (by kernel_rfl) ⟨(C49 a0), h0, (C94 a1), h1, trivial⟩
    | false =>
      cases h2 : (!(F45 a2 0 3)) with
      | true =>
        have q0 := bne_eq_false_iff_eq.1 h0
        have e : (F44 a0 a1 a2) = 1 := by simp only [F44, h0, h1, h2, cond_true, cond_false]
        rw [e]
        refine con_of (n := 9) Try.func44 rfl (ent Try.func44 (by kernel_rfl) rfl) (by show 3 ≤ Try.f44.ntmps; decide) (by kernel_rfl) trivial (fun cx hcx => ?_)
        exact ret_of (T := T0) hT hm (f := 5000) (orc := [.call [] (iv (F49 a0)) [], .d false, .call [] (.v (.bool (F94 a1))) [], .d false, .call [] (.v (.bool (F45 a2 0 3))) [], .d true]) [] [] [] hcx
          (obs := [.call 49 [(.a (k9 a0))] [] (iv (F49 a0)) [], .eq (((F49 a0) : Int) != 0) false, .call 94 [(.a (k3 a1))] [] (.v (.bool (F94 a1))) [], .eq (!(F94 a1)) false, .call 45 [(iv a2), (iv 0), (iv 3)] [] (.v (.bool (F45 a2 0 3))) [], .eq (!(F45 a2 0 3)) true]) (by kernel_rfl) ⟨(C49 a0), h0, (C94 a1), h1, (C45 a2 0 3), h2, trivial⟩
      | false =>
        have q0 := bne_eq_false_iff_eq.1 h0
        have e : (F44 a0 a1 a2) = 0 := by simp only [F44, h0, h1, h2, cond_true, cond_false]
        rw [e]
        refine con_of (n := 9) Try.func44 rfl (ent Try.func44 (by kernel_rfl) rfl) (by show 3 ≤ Try.f44.ntmps; decide) (by kernel_rfl) trivial (fun cx hcx => ?_)
        exact ret_of (T := T0) hT hm (f := 5000) (orc := [.call [] (iv (F49 a0)) [], .d false, .call [] (.v (.bool (F94 a1))) [], .d false, .call [] (.v (.bool (F45 a2 0 3))) [], .d false]) [] [] [] hcx
          (obs := [.call 49 [(.a (k9 a0))] [] (iv (F49 a0)) [], .eq (((F49 a0) : Int) != 0) false, .call 94 [(.a (k3 a1))] [] (.v (.bool (F94 a1))) [], .eq (!(F94 a1)) false, .call 45 [(iv a2), (iv 0), (iv 3)] [] (.v (.bool (F45 a2 0 3))) [], .eq (!(F45 a2 0 3)) false]) (by kernel_rfl) ⟨(C49 a0), h0, (C94 a1), h1, (C45 a2 0 3), h2, trivial⟩

/-- facet/facetref03.paired -/
def F65 (a0 : (Int × Int × Int) × (Int × Int × Int) × Int × Int × Int) (a1 : (Int × Int × Int) × (Int × Int × Int) × Int × Int × Int) (a2 : Int) : Int :=
  (bif (((F49 a0) : Int) != 0) then
   (F49 a0)
  else
   (bif (((F49 a1) : Int) != 0) then
    (F49 a1)
   else
    (bif (!(F45 a2 0 2)) then
     1
    else
     0)))

theorem C65 (a0 : (Int × Int × Int) × (Int × Int × Int) × Int × Int × Int) (a1 : (Int × Int × Int) × (Int × Int × Int) × Int × Int × Int) (a2 : Int) : Con Try.prog 65 [(.a (k9 a0)), (.a (k9 a1)), (iv a2)] [] (iv (F65 a0 a1 a2)) [] := by
  cases h0 : (((F49 a0) : Int) != 0) with
  | true =>
    have q0 := bne_iff_ne.1 h0
    have e : (F65 a0 a1 a2) = (F49 a0) := by simp only [F65, h0, cond_true, cond_false]
    rw [e]
    refine con_of (n := 9) Try.func65 rfl (ent Try.func65 (by kernel_rfl) rfl) (by show 3 ≤ Try.f65.ntmps; decide) (by kernel_rfl) trivial (fun cx hcx => ?_)
    exact ret_of (T := T0) hT hm (f := 5000) (orc := [.call [] (iv (F49 a0)) [], .d true]) [] [] [] hcx
      (obs := [.call 49 [(.a (k9 a0))] [] (iv (F49 a0)) [], .eq (((F49 a0) : Int) != 0) true]) (by kernel_rfl) ⟨(C49 a0), h0, trivial⟩
  | false =>
    cases h1 : (((F49 a1) : Int) != 0) with
    | true =>
      have q0 := bne_eq_false_iff_eq.1 h0
      have q1 := bne_iff_ne.1 h1
      have e : (F65 a0 a1 a2) = (F49 a1) := by simp only [F65, h0, h1, cond_true, cond_false]
      rw [e]
      refine con_of (n := 9) Try.func65 rfl (ent Try.func65 (by kernel_rfl) rfl) (by show 3 ≤ Try.f65.ntmps; decide) (by kernel_rfl) trivial (fun cx hcx => ?_)
      exact ret_of (T := T0) hT hm (f := 5000) (orc := [.call [] (iv (F49 a0)) [], .d false, .call [] (iv (F49 a1)) [], .d true]) [] [] [] hcx
        (obs := [.call 49 [(.a (k9 a0))] [] (iv (F49 a0)) [], .eq (((F49 a0) : Int) != 0) false, .call 49 [(.a (k9 a1))] [] (iv (F49 a1)) [], .eq (((F49 a1) : Int) != 0) true]) (by kernel_rfl) ⟨(C49 a0), h0, (C49 a1), h1, trivial⟩
    | false =>
      cases h2 : (!(F45 a2 0 2)) with
      | true =>
        have q0 := bne_eq_false_iff_eq.1 h0
        have q1 := bne_eq_false_iff_eq.1 h1
        have e : (F65 a0 a1 a2) = 1 := by simp only [F65, h0, h1, h2, cond_true, cond_false]
        rw [e]
        refine con_of (n := 9) Try.func65 rfl (ent Try.func65 (by kernel_rfl) rfl) (by show 3 ≤ Try.f65.ntmps; decide) (by kernel_rfl) trivial (fun cx hcx => ?_)
        exact ret_of (T := T0) hT hm (f := 5000) (orc := [.call [] (iv (F49 a0)) [], .d false, .call [] (iv (F49 a1)) [], .d false, .call [] (.v (.bool (F45 a2 0 2))) [], .d true]) [] [] [] hcx
          (obs := [.call 49 [(.a (k9 a0))] [] (iv (F49 a0)) [], .eq (((F49 a0) : Int) != 0) false, .call 49 [(.a (k9 a1))] [] (iv (F49 a1)) [], .eq (((F49 a1) : Int) != 0) false, .call 45 [(iv a2), (iv 0), (iv 2)] [] (.v (.bool (F45 a2 0 2))) [], .eq (!(F45 a2 0 2)) true]) (by kernel_rfl) ⟨(C49 a0), h0, (C49 a1), h1, (C45 a2 0 2), h2, trivial⟩
      | false =>
        have q0 := bne_eq_false_iff_eq.1 h0
        have q1 := bne_eq_false_iff_eq.1 h1
        have e : (F65 a0 a1 a2) = 0 := by simp only [F65, h0, h1, h2, cond_true, cond_false]
        rw [e]
        refine con_of (n := 9) Try.func65 rfl (ent Try.func65 (by kernel_rfl) rfl) (by show 3 ≤ Try.f65.ntmps; decide) (by kernel_rfl) trivial (fun cx hcx => ?_)
        exact ret_of (T := T0) hT hm (f := 5000) (orc := [.call [] (iv (F49 a0)) [], .d false, .call [] (iv (F49 a1)) [], .d false, .call [] (.v (.bool (F45 a2 0 2))) [], .d false]) [] [] [] hcx
          (obs := [.call 49 [(.a (k9 a0))] [] (iv (F49 a0)) [], .eq (((F49 a0) : Int) != 0) false, .call 49 [(.a (k9 a1))] [] (iv (F49 a1)) [], .eq (((F49 a1) : Int) != 0) false, .call 45 [(iv a2), (iv 0), (iv 2)] [] (.v (.bool (F45 a2 0 2))) [], .eq (!(F45 a2 0 2)) false]) (by kernel_rfl) ⟨(C49 a0), h0, (C49 a1), h1, (C45 a2 0 2), h2, trivial⟩

/-- facet/facetref03.Height -/
def F69 (a0 : (Int × Int × Int) × (Int × Int × Int) × Int × Int × Int) (a1 : Int × Int × Int) : Int :=
  (F115 (F125 a0.1 a1) (F126 (F125 a0.2.1 a1) (F125 a0.2.2 a1)))

theorem C69 (a0 : (Int × Int × Int) × (Int × Int × Int) × Int × Int × Int) (a1 : Int × Int × Int) : Con Try.prog 69 [(.a (k9 a0)), (.a (k3 a1))] [] (iv (F69 a0 a1)) [] := by
  have e : (F69 a0 a1) = (F115 (F125 a0.1 a1) (F126 (F125 a0.2.1 a1) (F125 a0.2.2 a1))) := by simp only [F69]
  rw [e]
  refine con_of (n := 9) Try.func69 rfl (ent Try.func69 (by kernel_rfl) rfl) (by show 2 ≤ Try.f69.ntmps; decide) (by kernel_rfl) trivial (fun cx hcx => ?_)
  exact ret_of (T := T0) hT hm (f := 5000) (orc := [.call [] (.a (k3 (F125 a0.1 a1))) [], .call [] (.a (k3 (F125 a0.2.1 a1))) [], .call [] (.a (k3 (F125 a0.2.2 a1))) [], .call [] (.a (k3 (F126 (F125 a0.2.1 a1) (F125 a0.2.2 a1)))) [], .call [] (iv (F115 (F125 a0.1 a1) (F126 (F125 a0.2.1 a1) (F125 a0.2.2 a1)))) []]) [] [] [] hcx
    (obs := [.call 125 [(.a (k3 a0.1)), (.a (k3 a1))] [] (.a (k3 (F125 a0.1 a1))) [], .call 125 [(.a (k3 a0.2.1)), (.a (k3 a1))] [] (.a (k3 (F125 a0.2.1 a1))) [], .call 125 [(.a (k3 a0.2.2)), (.a (k3 a1))] [] (.a (k3 (F125 a0.2.2 a1))) [], .call 126 [(.a (k3 (F125 a0.2.1 a1))), (.a (k3 (F125 a0.2.2 a1)))] [] (.a (k3 (F126 (F125 a0.2.1 a1) (F125 a0.2.2 a1)))) [], .call 115 [(.a (k3 (F125 a0.1 a1))), (.a (k3 (F126 (F125 a0.2.1 a1) (F125 a0.2.2 a1))))] [] (iv (F115 (F125 a0.1 a1) (F126 (F125 a0.2.1 a1) (F125 a0.2.2 a1)))) []]) (by kernel_rfl) ⟨(C125 a0.1 a1), (C125 a0.2.1 a1), (C125 a0.2.2 a1), (C126 (F125 a0.2.1 a1) (F125 a0.2.2 a1)), (C115 (F125 a0.1 a1) (F126 (F125 a0.2.1 a1) (F125 a0.2.2 a1))), trivial⟩

/-- facet/facetref02.Times -/
def F67 (a0 : Int × Int × Int) (a1 : Int) : Int × Int × Int :=
  ((W (a1 * a0.1)), (W (a1 * a0.2.1)), (W (a1 * a0.2.2)))

theorem C67 (a0 : Int × Int × Int) (a1 : Int) : Con Try.prog 67 [(.a (k3 a0)), (iv a1)] [] (.a (k3 (F67 a0 a1))) [] := by
  have e : (F67 a0 a1) = ((W (a1 * a0.1)), (W (a1 * a0.2.1)), (W (a1 * a0.2.2))) := by simp only [F67]
  rw [e]
  refine con_of (n := 9) Try.func67 rfl (ent Try.func67 (by kernel_rfl) rfl) (by show 2 ≤ Try.f67.ntmps; decide) (by kernel_rfl) trivial (fun cx hcx => ?_)
  exact ret_of (T := T0) hT hm (f := 5000) (orc := []) [] [] [] hcx
    (obs := []) (by kernel_rfl) trivial

/-- facet/facetref03.half -/
def F107 (a0 : Int × Int × Int) (a1 : Int × Int × Int) : Int × Int × Int :=
  ((W (Int.tdiv (W (a0.1 + a1.1)) 2)), (W (Int.tdiv (W (a0.2.1 + a1.2.1)) 2)), (W (Int.tdiv (W (a0.2.2 + a1.2.2)) 2)))

theorem C107 (a0 : Int × Int × Int) (a1 : Int × Int × Int) : Con Try.prog 107 [(.a (k3 a0)), (.a (k3 a1))] [] (.a (k3 (F107 a0 a1))) [] := by
  have e : (F107 a0 a1) = ((W (Int.tdiv (W (a0.1 + a1.1)) 2)), (W (Int.tdiv (W (a0.2.1 + a1.2.1)) 2)), (W (Int.tdiv (W (a0.2.2 + a1.2.2)) 2))) := by simp only [F107]
  rw [e]
  refine con_of (n := 9) Try.func107 rfl (ent Try.func107 (by kernel_rfl) rfl) (by show 2 ≤ Try.f107.ntmps; decide) (by kernel_rfl) trivial (fun cx hcx => ?_)
  exact ret_of (T := T0) hT hm (f := 5000) (orc := []) [] [] [] hcx
    (obs := [.pr ((2 : Int) ≠ 0), .pr ((2 : Int) ≠ 0), .pr ((2 : Int) ≠ 0)]) (by kernel_rfl) ⟨(show (2 : Int) ≠ 0 from by decide), (show (2 : Int) ≠ 0 from by decide), (show (2 : Int) ≠ 0 from by decide), trivial⟩

/-- api.Panel, as cells -/
def c25 (x : (Int × Int × Int) × (Int × Int × Int) × Int × Int × Int) : List SV := [(iv x.1.1), (iv x.1.2.1), (iv x.1.2.2), (iv x.2.1.1), (iv x.2.1.2.1), (iv x.2.1.2.2), (iv x.2.2.1), (iv x.2.2.2.1), (iv x.2.2.2.2)]
theorem c25_len (x : (Int × Int × Int) × (Int × Int × Int) × Int × Int × Int) : (c25 x).length = 9 := rfl

noncomputable def B50_1 : Code := (loopAtD [1, 1, 0, 1, 0, 1, 0, 1, 0, 1] [0] (Try.f50.body.getD .skip) []).1
noncomputable def K50_1 (m0 : Nat) : List K := (loopAtD [1, 1, 0, 1, 0, 1, 0, 1, 0, 1] [m0] (Try.f50.body.getD .skip) []).2

/-- a round of loop 1 of facet/facetref03.Cut; the variables: v21 = s5, v22 = s7, v23 = s6, v24 = s8 -/
def S50_1 (a0 : (Int × Int × Int) × (Int × Int × Int) × Int × Int × Int) (a1 : Int) : (List ((Int × Int × Int) × (Int × Int × Int) × Int × Int × Int)) × (List ((Int × Int × Int) × (Int × Int × Int) × Int × Int × Int)) × Int × Int → ((List ((Int × Int × Int) × (Int × Int × Int) × Int × Int × Int)) × (List ((Int × Int × Int) × (Int × Int × Int) × Int × Int × Int)) × Int × Int) ⊕ (((List ((Int × Int × Int) × (Int × Int × Int) × Int × Int × Int)) × Int) ⊕ (List ((Int × Int × Int) × (Int × Int × Int) × Int × Int × Int)))
  | (v21, v22, v23, v24) =>
   (bif (decide ((v24 : Int) < ((v21.length : Nat) : Int))) then
    (.inl (v21, (v22 ++ [((F67 (v21.getD (Int.toNat v24) default).1 2), (F107 (F67 (v21.getD (Int.toNat v24) default).1 2) (F67 (v21.getD (Int.toNat v24) default).2.1 2)), (F107 (F67 (v21.getD (Int.toNat v24) default).2.2 2) (F67 (v21.getD (Int.toNat v24) default).1 2))), ((F107 (F67 (v21.getD (Int.toNat v24) default).1 2) (F67 (v21.getD (Int.toNat v24) default).2.1 2)), (F67 (v21.getD (Int.toNat v24) default).2.1 2), (F107 (F67 (v21.getD (Int.toNat v24) default).2.1 2) (F67 (v21.getD (Int.toNat v24) default).2.2 2))), ((F107 (F67 (v21.getD (Int.toNat v24) default).2.2 2) (F67 (v21.getD (Int.toNat v24) default).1 2)), (F107 (F67 (v21.getD (Int.toNat v24) default).2.1 2) (F67 (v21.getD (Int.toNat v24) default).2.2 2)), (F67 (v21.getD (Int.toNat v24) default).2.2 2)), ((F107 (F67 (v21.getD (Int.toNat v24) default).1 2) (F67 (v21.getD (Int.toNat v24) default).2.1 2)), (F107 (F67 (v21.getD (Int.toNat v24) default).2.1 2) (F67 (v21.getD (Int.toNat v24) default).2.2 2)), (F107 (F67 (v21.getD (Int.toNat v24) default).2.2 2) (F67 (v21.getD (Int.toNat v24) default).1 2)))]), v23, (v24 + 1)))
   else
    (.inr (.inl (v22, (v23 + 1)))))

noncomputable def B50_0 : Code := (loopAtD [1, 1, 0, 1] [] (Try.f50.body.getD .skip) []).1
noncomputable def K50_0 : List K := (loopAtD [1, 1, 0, 1] [] (Try.f50.body.getD .skip) []).2

/-- a round of loop 0 of facet/facetref03.Cut; the variables: v14 = s5, v15 = s6 -/
def S50_0 (a0 : (Int × Int × Int) × (Int × Int × Int) × Int × Int × Int) (a1 : Int) : (List ((Int × Int × Int) × (Int × Int × Int) × Int × Int × Int)) × Int → ((List ((Int × Int × Int) × (Int × Int × Int) × Int × Int × Int)) × Int) ⊕ (List ((Int × Int × Int) × (Int × Int × Int) × Int × Int × Int))
  | (v14, v15) =>
   (bif (decide ((v15 : Int) < a1)) then
    (loopF (S50_1 a0 a1) (Int.toNat (((v14.length : Nat) : Int) - 0) + 1) (v14, ([] : List ((Int × Int × Int) × (Int × Int × Int) × Int × Int × Int)), v15, 0))
   else
    (.inr v14))

set_option maxHeartbeats 4000000 in
theorem L50_1 (a0 : (Int × Int × Int) × (Int × Int × Int) × Int × Int × Int) (a1 : Int) (ha : 0 ≤ a1 ∧ a1 ≤ 3) {cx : Cx} (hcx : cx.base = 0)
    (n0 : Nat) (g0 : ∀ (v14 : List ((Int × Int × Int) × (Int × Int × Int) × Int × Int × Int)) (v15 : Int), (0 ≤ v15) ∧ (v15 = 0 ∧ v14.length ≤ 1 ∨ v15 = 1 ∧ v14.length ≤ 4 ∨ v15 = 2 ∧ v14.length ≤ 16 ∨ 3 ≤ v15 ∧ v14.length ≤ 64) → Int.toNat (a1 - v15) < n0 → Aw.Good Try.prog none 9 (bodyPost Try.prog Try.f50 (RR cx (.s 0 0 (loopF (S50_0 a0 a1) n0 (v14, v15)).length 9) [(.live true true (flat c25 (loopF (S50_0 a0 a1) n0 (v14, v15))))] [])) cx [] (.l B50_0 n0 :: K50_0) ⟨[.u, (iv a1), .u, .u, .u, (.s 0 0 v14.length 9), (iv v15), .u, .u, .u, .u, .u, .u, .u, .u, .u, .u, .u, .u, .u, .u, .u, .u, .u, .u, .u, .u, .u, .u, .u, .u, .u, .u, .u, .u, .u, .u, .u, .u, .u, .u, .u, .u, .u, .u, .u, .u, .u, .u, .u, .u, .u, .u, .u, .u, .u, .u, .u, .u, .u, .u, .u, .u, .u, .u, .u, .u, .u, .u, .u, .u, .u, .u, .u, .u, .u], [(.live true true (flat c25 v14))]⟩) : ∀ (n : Nat) (v21 : List ((Int × Int × Int) × (Int × Int × Int) × Int × Int × Int)) (v22 : List ((Int × Int × Int) × (Int × Int × Int) × Int × Int × Int)) (v23 : Int) (v24 : Int), (0 ≤ v24) ∧ (v22.length = 4 * Int.toNat v24) ∧ (v24 ≤ v21.length) ∧ ((0 ≤ v23)) ∧ ((v23 = 0 ∧ v21.length ≤ 1 ∨ v23 = 1 ∧ v21.length ≤ 4 ∨ v23 = 2 ∧ v21.length ≤ 16 ∨ 3 ≤ v23 ∧ v21.length ≤ 64)) ∧ (v23 < a1) ∧ (Int.toNat (a1 - v23) < n0 + 1) → Int.toNat (((v21.length : Nat) : Int) - v24) < n → Aw.Good Try.prog none 9 (bodyPost Try.prog Try.f50 (RR cx (.s 0 0 (thenF (S50_0 a0 a1) n0 (loopF (S50_1 a0 a1) n (v21, v22, v23, v24))).length 9) [(.live true true (flat c25 (thenF (S50_0 a0 a1) n0 (loopF (S50_1 a0 a1) n (v21, v22, v23, v24)))))] [])) cx [] (.l B50_1 n :: K50_1 n0) ⟨[.u, (iv a1), .u, .u, .u, (.s 0 0 v21.length 9), (iv v23), (.s 1 0 v22.length 9), (iv v24), .u, .u, .u, .u, .u, .u, .u, .u, .u, .u, .u, .u, .u, .u, .u, .u, .u, .u, .u, .u, .u, .u, .u, .u, .u, .u, .u, .u, .u, .u, .u, .u, .u, .u, .u, .u, .u, .u, .u, .u, .u, .u, .u, .u, .u, .u, .u, .u, .u, .u, .u, .u, .u, .u, .u, .u, .u, .u, .u, .u, .u, .u, .u, .u, .u, .u, .u], [(.live true true (flat c25 v21)), (.live true true (flat c25 v22))]⟩ := by
  intro n
  induction n with
  | zero => intro v21 v22 v23 v24 hi hn; exact absurd hn (Nat.not_lt_zero _)
  | succ n ih =>
    intro v21 v22 v23 v24 hi hn
    refine good_round ?_
    cases h0 : (decide ((v24 : Int) < ((v21.length : Nat) : Int))) with
    | true =>
      have q0 := of_decide_eq_true h0
      have e : S50_1 a0 a1 (v21, v22, v23, v24) = (.inl (v21, (v22 ++ [((F67 (v21.getD (Int.toNat v24) default).1 2), (F107 (F67 (v21.getD (Int.toNat v24) default).1 2) (F67 (v21.getD (Int.toNat v24) default).2.1 2)), (F107 (F67 (v21.getD (Int.toNat v24) default).2.2 2) (F67 (v21.getD (Int.toNat v24) default).1 2))), ((F107 (F67 (v21.getD (Int.toNat v24) default).1 2) (F67 (v21.getD (Int.toNat v24) default).2.1 2)), (F67 (v21.getD (Int.toNat v24) default).2.1 2), (F107 (F67 (v21.getD (Int.toNat v24) default).2.1 2) (F67 (v21.getD (Int.toNat v24) default).2.2 2))), ((F107 (F67 (v21.getD (Int.toNat v24) default).2.2 2) (F67 (v21.getD (Int.toNat v24) default).1 2)), (F107 (F67 (v21.getD (Int.toNat v24) default).2.1 2) (F67 (v21.getD (Int.toNat v24) default).2.2 2)), (F67 (v21.getD (Int.toNat v24) default).2.2 2)), ((F107 (F67 (v21.getD (Int.toNat v24) default).1 2) (F67 (v21.getD (Int.toNat v24) default).2.1 2)), (F107 (F67 (v21.getD (Int.toNat v24) default).2.1 2) (F67 (v21.getD (Int.toNat v24) default).2.2 2)), (F107 (F67 (v21.getD (Int.toNat v24) default).2.2 2) (F67 (v21.getD (Int.toNat v24) default).1 2)))]), v23, (v24 + 1))) := by simp only [S50_1, h0, cond_true, cond_false]
      rw [loopF_inl e]
      refine back_of (T := T0) hT hm (f := 5000) (orc := [.d true, .ld (k3 (v21.getD (Int.toNat v24) default).1), .call [] (.a (k3 (F67 (v21.getD (Int.toNat v24) default).1 2))) [], .ld (k3 (v21.getD (Int.toNat v24) default).2.1), .call [] (.a (k3 (F67 (v21.getD (Int.toNat v24) default).2.1 2))) [], .ld (k3 (v21.getD (Int.toNat v24) default).2.2), .call [] (.a (k3 (F67 (v21.getD (Int.toNat v24) default).2.2 2))) [], .call [] (.a (k3 (F107 (F67 (v21.getD (Int.toNat v24) default).1 2) (F67 (v21.getD (Int.toNat v24) default).2.1 2)))) [], .call [] (.a (k3 (F107 (F67 (v21.getD (Int.toNat v24) default).2.1 2) (F67 (v21.getD (Int.toNat v24) default).2.2 2)))) [], .call [] (.a (k3 (F107 (F67 (v21.getD (Int.toNat v24) default).2.2 2) (F67 (v21.getD (Int.toNat v24) default).1 2)))) []]) [] [1, 5, 6, 7, 8] [0, 9] hcx (body := B50_1) (m := n) (k' := K50_1 n0) (s' := ⟨[.u, (iv a1), .u, .u, .u, (.s 0 0 v21.length 9), (iv v23), (.s 1 0 (v22.length + 4) 9), (iv (W (v24 + 1))), .u, .u, .u, .u, .u, .u, .u, .u, .u, .u, .u, .u, .u, .u, .u, .u, .u, .u, .u, .u, .u, .u, .u, .u, .u, .u, .u, .u, .u, .u, .u, .u, .u, .u, .u, .u, .u, .u, .u, .u, .u, .u, .u, .u, .u, .u, .u, .u, .u, .u, .u, .u, .u, .u, .u, .u, .u, .u, .u, .u, .u, .u, .u, .u, .u, .u, .u], [(.live true true (flat c25 v21)), (.live true true (flat c25 v22 ++ [(iv (F67 (v21.getD (Int.toNat v24) default).1 2).1), (iv (F67 (v21.getD (Int.toNat v24) default).1 2).2.1), (iv (F67 (v21.getD (Int.toNat v24) default).1 2).2.2), (iv (F107 (F67 (v21.getD (Int.toNat v24) default).1 2) (F67 (v21.getD (Int.toNat v24) default).2.1 2)).1), (iv (F107 (F67 (v21.getD (Int.toNat v24) default).1 2) (F67 (v21.getD (Int.toNat v24) default).2.1 2)).2.1), (iv (F107 (F67 (v21.getD (Int.toNat v24) default).1 2) (F67 (v21.getD (Int.toNat v24) default).2.1 2)).2.2), (iv (F107 (F67 (v21.getD (Int.toNat v24) default).2.2 2) (F67 (v21.getD (Int.toNat v24) default).1 2)).1), (iv (F107 (F67 (v21.getD (Int.toNat v24) default).2.2 2) (F67 (v21.getD (Int.toNat v24) default).1 2)).2.1), (iv (F107 (F67 (v21.getD (Int.toNat v24) default).2.2 2) (F67 (v21.getD (Int.toNat v24) default).1 2)).2.2), (iv (F107 (F67 (v21.getD (Int.toNat v24) default).1 2) (F67 (v21.getD (Int.toNat v24) default).2.1 2)).1), (iv (F107 (F67 (v21.getD (Int.toNat v24) default).1 2) (F67 (v21.getD (Int.toNat v24) default).2.1 2)).2.1), (iv (F107 (F67 (v21.getD (Int.toNat v24) default).1 2) (F67 (v21.getD (Int.toNat v24) default).2.1 2)).2.2), (iv (F67 (v21.getD (Int.toNat v24) default).2.1 2).1), (iv (F67 (v21.getD (Int.toNat v24) default).2.1 2).2.1), (iv (F67 (v21.getD (Int.toNat v24) default).2.1 2).2.2), (iv (F107 (F67 (v21.getD (Int.toNat v24) default).2.1 2) (F67 (v21.getD (Int.toNat v24) default).2.2 2)).1), (iv (F107 (F67 (v21.getD (Int.toNat v24) default).2.1 2) (F67 (v21.getD (Int.toNat v24) default).2.2 2)).2.1), (iv (F107 (F67 (v21.getD (Int.toNat v24) default).2.1 2) (F67 (v21.getD (Int.toNat v24) default).2.2 2)).2.2), (iv (F107 (F67 (v21.getD (Int.toNat v24) default).2.2 2) (F67 (v21.getD (Int.toNat v24) default).1 2)).1), (iv (F107 (F67 (v21.getD (Int.toNat v24) default).2.2 2) (F67 (v21.getD (Int.toNat v24) default).1 2)).2.1), (iv (F107 (F67 (v21.getD (Int.toNat v24) default).2.2 2) (F67 (v21.getD (Int.toNat v24) default).1 2)).2.2), (iv (F107 (F67 (v21.getD (Int.toNat v24) default).2.1 2) (F67 (v21.getD (Int.toNat v24) default).2.2 2)).1), (iv (F107 (F67 (v21.getD (Int.toNat v24) default).2.1 2) (F67 (v21.getD (Int.toNat v24) default).2.2 2)).2.1), (iv (F107 (F67 (v21.getD (Int.toNat v24) default).2.1 2) (F67 (v21.getD (Int.toNat v24) default).2.2 2)).2.2), (iv (F67 (v21.getD (Int.toNat v24) default).2.2 2).1), (iv (F67 (v21.getD (Int.toNat v24) default).2.2 2).2.1), (iv (F67 (v21.getD (Int.toNat v24) default).2.2 2).2.2), (iv (F107 (F67 (v21.getD (Int.toNat v24) default).1 2) (F67 (v21.getD (Int.toNat v24) default).2.1 2)).1), (iv (F107 (F67 (v21.getD (Int.toNat v24) default).1 2) (F67 (v21.getD (Int.toNat v24) default).2.1 2)).2.1), (iv (F107 (F67 (v21.getD (Int.toNat v24) default).1 2) (F67 (v21.getD (Int.toNat v24) default).2.1 2)).2.2), (iv (F107 (F67 (v21.getD (Int.toNat v24) default).2.1 2) (F67 (v21.getD (Int.toNat v24) default).2.2 2)).1), (iv (F107 (F67 (v21.getD (Int.toNat v24) default).2.1 2) (F67 (v21.getD (Int.toNat v24) default).2.2 2)).2.1), (iv (F107 (F67 (v21.getD (Int.toNat v24) default).2.1 2) (F67 (v21.getD (Int.toNat v24) default).2.2 2)).2.2), (iv (F107 (F67 (v21.getD (Int.toNat v24) default).2.2 2) (F67 (v21.getD (Int.toNat v24) default).1 2)).1), (iv (F107 (F67 (v21.getD (Int.toNat v24) default).2.2 2) (F67 (v21.getD (Int.toNat v24) default).1 2)).2.1), (iv (F107 (F67 (v21.getD (Int.toNat v24) default).2.2 2) (F67 (v21.getD (Int.toNat v24) default).1 2)).2.2)]))]⟩)
        (obs := [.eq (decide ((v24 : Int) < ((v21.length : Nat) : Int))) true, .pr (0 ≤ (v24 : Int) ∧ (v24 : Int) < ((v21.length : Nat) : Int)), .pr (((((flat c25 v21)).drop (0 + Int.toNat v24 * 9 + 0)).take 3) = (k3 (v21.getD (Int.toNat v24) default).1)), .call 67 [(.a (k3 (v21.getD (Int.toNat v24) default).1)), (iv 2)] [] (.a (k3 (F67 (v21.getD (Int.toNat v24) default).1 2))) [], .pr (0 ≤ (v24 : Int) ∧ (v24 : Int) < ((v21.length : Nat) : Int)), .pr (((((flat c25 v21)).drop (0 + Int.toNat v24 * 9 + 3)).take 3) = (k3 (v21.getD (Int.toNat v24) default).2.1)), .call 67 [(.a (k3 (v21.getD (Int.toNat v24) default).2.1)), (iv 2)] [] (.a (k3 (F67 (v21.getD (Int.toNat v24) default).2.1 2))) [], .pr (0 ≤ (v24 : Int) ∧ (v24 : Int) < ((v21.length : Nat) : Int)), .pr (((((flat c25 v21)).drop (0 + Int.toNat v24 * 9 + 6)).take 3) = (k3 (v21.getD (Int.toNat v24) default).2.2)), .call 67 [(.a (k3 (v21.getD (Int.toNat v24) default).2.2)), (iv 2)] [] (.a (k3 (F67 (v21.getD (Int.toNat v24) default).2.2 2))) [], .call 107 [(.a (k3 (F67 (v21.getD (Int.toNat v24) default).1 2))), (.a (k3 (F67 (v21.getD (Int.toNat v24) default).2.1 2)))] [] (.a (k3 (F107 (F67 (v21.getD (Int.toNat v24) default).1 2) (F67 (v21.getD (Int.toNat v24) default).2.1 2)))) [], .call 107 [(.a (k3 (F67 (v21.getD (Int.toNat v24) default).2.1 2))), (.a (k3 (F67 (v21.getD (Int.toNat v24) default).2.2 2)))] [] (.a (k3 (F107 (F67 (v21.getD (Int.toNat v24) default).2.1 2) (F67 (v21.getD (Int.toNat v24) default).2.2 2)))) [], .call 107 [(.a (k3 (F67 (v21.getD (Int.toNat v24) default).2.2 2))), (.a (k3 (F67 (v21.getD (Int.toNat v24) default).1 2)))] [] (.a (k3 (F107 (F67 (v21.getD (Int.toNat v24) default).2.2 2) (F67 (v21.getD (Int.toNat v24) default).1 2)))) [], .pr ((flat c25 v22).length = v22.length * 9 ∧ v22.length + 4 ≤ 2 ^ 40 ∧ (v22.length + 4) * 72 ≤ 2 ^ 47)]) (by kernel_rfl) ⟨h0, (show 0 ≤ (v24 : Int) ∧ (v24 : Int) < ((v21.length : Nat) : Int) from by first | omega | (rw [W_eq] <;> omega) | exact u64_nn _), (ld_part c25_len default v21 v24 0 3 (by omega) (by decide) (by omega) rfl), (C67 (v21.getD (Int.toNat v24) default).1 2), (show 0 ≤ (v24 : Int) ∧ (v24 : Int) < ((v21.length : Nat) : Int) from by first | omega | (rw [W_eq] <;> omega) | exact u64_nn _), (ld_part c25_len default v21 v24 3 3 (by omega) (by decide) (by omega) rfl), (C67 (v21.getD (Int.toNat v24) default).2.1 2), (show 0 ≤ (v24 : Int) ∧ (v24 : Int) < ((v21.length : Nat) : Int) from by first | omega | (rw [W_eq] <;> omega) | exact u64_nn _), (ld_part c25_len default v21 v24 6 3 (by omega) (by decide) (by omega) rfl), (C67 (v21.getD (Int.toNat v24) default).2.2 2), (C107 (F67 (v21.getD (Int.toNat v24) default).1 2) (F67 (v21.getD (Int.toNat v24) default).2.1 2)), (C107 (F67 (v21.getD (Int.toNat v24) default).2.1 2) (F67 (v21.getD (Int.toNat v24) default).2.2 2)), (C107 (F67 (v21.getD (Int.toNat v24) default).2.2 2) (F67 (v21.getD (Int.toNat v24) default).1 2)), (app_ok c25_len (by omega) (by omega)), trivial⟩ ?_
      have z0 : (W (v24 + 1)) = (v24 + 1) := W_eq (by omega) (by omega)
      have z1 : (flat c25 v22 ++ [(iv (F67 (v21.getD (Int.toNat v24) default).1 2).1), (iv (F67 (v21.getD (Int.toNat v24) default).1 2).2.1), (iv (F67 (v21.getD (Int.toNat v24) default).1 2).2.2), (iv (F107 (F67 (v21.getD (Int.toNat v24) default).1 2) (F67 (v21.getD (Int.toNat v24) default).2.1 2)).1), (iv (F107 (F67 (v21.getD (Int.toNat v24) default).1 2) (F67 (v21.getD (Int.toNat v24) default).2.1 2)).2.1), (iv (F107 (F67 (v21.getD (Int.toNat v24) default).1 2) (F67 (v21.getD (Int.toNat v24) default).2.1 2)).2.2), (iv (F107 (F67 (v21.getD (Int.toNat v24) default).2.2 2) (F67 (v21.getD (Int.toNat v24) default).1 2)).1), (iv (F107 (F67 (v21.getD (Int.toNat v24) default).2.2 2) (F67 (v21.getD (Int.toNat v24) default).1 2)).2.1), (iv (F107 (F67 (v21.getD (Int.toNat v24) default).2.2 2) (F67 (v21.getD (Int.toNat v24) default).1 2)).2.2), (iv (F107 (F67 (v21.getD (Int.toNat v24) default).1 2) (F67 (v21.getD (Int.toNat v24) default).2.1 2)).1), (iv (F107 (F67 (v21.getD (Int.toNat v24) default).1 2) (F67 (v21.getD (Int.toNat v24) default).2.1 2)).2.1), (iv (F107 (F67 (v21.getD (Int.toNat v24) default).1 2) (F67 (v21.getD (Int.toNat v24) default).2.1 2)).2.2), (iv (F67 (v21.getD (Int.toNat v24) default).2.1 2).1), (iv (F67 (v21.getD (Int.toNat v24) default).2.1 2).2.1), (iv (F67 (v21.getD (Int.toNat v24) default).2.1 2).2.2), (iv (F107 (F67 (v21.getD (Int.toNat v24) default).2.1 2) (F67 (v21.getD (Int.toNat v24) default).2.2 2)).1), (iv (F107 (F67 (v21.getD (Int.toNat v24) default).2.1 2) (F67 (v21.getD (Int.toNat v24) default).2.2 2)).2.1), (iv (F107 (F67 (v21.getD (Int.toNat v24) default).2.1 2) (F67 (v21.getD (Int.toNat v24) default).2.2 2)).2.2), (iv (F107 (F67 (v21.getD (Int.toNat v24) default).2.2 2) (F67 (v21.getD (Int.toNat v24) default).1 2)).1), (iv (F107 (F67 (v21.getD (Int.toNat v24) default).2.2 2) (F67 (v21.getD (Int.toNat v24) default).1 2)).2.1), (iv (F107 (F67 (v21.getD (Int.toNat v24) default).2.2 2) (F67 (v21.getD (Int.toNat v24) default).1 2)).2.2), (iv (F107 (F67 (v21.getD (Int.toNat v24) default).2.1 2) (F67 (v21.getD (Int.toNat v24) default).2.2 2)).1), (iv (F107 (F67 (v21.getD (Int.toNat v24) default).2.1 2) (F67 (v21.getD (Int.toNat v24) default).2.2 2)).2.1), (iv (F107 (F67 (v21.getD (Int.toNat v24) default).2.1 2) (F67 (v21.getD (Int.toNat v24) default).2.2 2)).2.2), (iv (F67 (v21.getD (Int.toNat v24) default).2.2 2).1), (iv (F67 (v21.getD (Int.toNat v24) default).2.2 2).2.1), (iv (F67 (v21.getD (Int.toNat v24) default).2.2 2).2.2), (iv (F107 (F67 (v21.getD (Int.toNat v24) default).1 2) (F67 (v21.getD (Int.toNat v24) default).2.1 2)).1), (iv (F107 (F67 (v21.getD (Int.toNat v24) default).1 2) (F67 (v21.getD (Int.toNat v24) default).2.1 2)).2.1), (iv (F107 (F67 (v21.getD (Int.toNat v24) default).1 2) (F67 (v21.getD (Int.toNat v24) default).2.1 2)).2.2), (iv (F107 (F67 (v21.getD (Int.toNat v24) default).2.1 2) (F67 (v21.getD (Int.toNat v24) default).2.2 2)).1), (iv (F107 (F67 (v21.getD (Int.toNat v24) default).2.1 2) (F67 (v21.getD (Int.toNat v24) default).2.2 2)).2.1), (iv (F107 (F67 (v21.getD (Int.toNat v24) default).2.1 2) (F67 (v21.getD (Int.toNat v24) default).2.2 2)).2.2), (iv (F107 (F67 (v21.getD (Int.toNat v24) default).2.2 2) (F67 (v21.getD (Int.toNat v24) default).1 2)).1), (iv (F107 (F67 (v21.getD (Int.toNat v24) default).2.2 2) (F67 (v21.getD (Int.toNat v24) default).1 2)).2.1), (iv (F107 (F67 (v21.getD (Int.toNat v24) default).2.2 2) (F67 (v21.getD (Int.toNat v24) default).1 2)).2.2)]) = (flat c25 (v22 ++ [((F67 (v21.getD (Int.toNat v24) default).1 2), (F107 (F67 (v21.getD (Int.toNat v24) default).1 2) (F67 (v21.getD (Int.toNat v24) default).2.1 2)), (F107 (F67 (v21.getD (Int.toNat v24) default).2.2 2) (F67 (v21.getD (Int.toNat v24) default).1 2))), ((F107 (F67 (v21.getD (Int.toNat v24) default).1 2) (F67 (v21.getD (Int.toNat v24) default).2.1 2)), (F67 (v21.getD (Int.toNat v24) default).2.1 2), (F107 (F67 (v21.getD (Int.toNat v24) default).2.1 2) (F67 (v21.getD (Int.toNat v24) default).2.2 2))), ((F107 (F67 (v21.getD (Int.toNat v24) default).2.2 2) (F67 (v21.getD (Int.toNat v24) default).1 2)), (F107 (F67 (v21.getD (Int.toNat v24) default).2.1 2) (F67 (v21.getD (Int.toNat v24) default).2.2 2)), (F67 (v21.getD (Int.toNat v24) default).2.2 2)), ((F107 (F67 (v21.getD (Int.toNat v24) default).1 2) (F67 (v21.getD (Int.toNat v24) default).2.1 2)), (F107 (F67 (v21.getD (Int.toNat v24) default).2.1 2) (F67 (v21.getD (Int.toNat v24) default).2.2 2)), (F107 (F67 (v21.getD (Int.toNat v24) default).2.2 2) (F67 (v21.getD (Int.toNat v24) default).1 2)))])) := (flat_append (c := c25) (l := v22) (m := [((F67 (v21.getD (Int.toNat v24) default).1 2), (F107 (F67 (v21.getD (Int.toNat v24) default).1 2) (F67 (v21.getD (Int.toNat v24) default).2.1 2)), (F107 (F67 (v21.getD (Int.toNat v24) default).2.2 2) (F67 (v21.getD (Int.toNat v24) default).1 2))), ((F107 (F67 (v21.getD (Int.toNat v24) default).1 2) (F67 (v21.getD (Int.toNat v24) default).2.1 2)), (F67 (v21.getD (Int.toNat v24) default).2.1 2), (F107 (F67 (v21.getD (Int.toNat v24) default).2.1 2) (F67 (v21.getD (Int.toNat v24) default).2.2 2))), ((F107 (F67 (v21.getD (Int.toNat v24) default).2.2 2) (F67 (v21.getD (Int.toNat v24) default).1 2)), (F107 (F67 (v21.getD (Int.toNat v24) default).2.1 2) (F67 (v21.getD (Int.toNat v24) default).2.2 2)), (F67 (v21.getD (Int.toNat v24) default).2.2 2)), ((F107 (F67 (v21.getD (Int.toNat v24) default).1 2) (F67 (v21.getD (Int.toNat v24) default).2.1 2)), (F107 (F67 (v21.getD (Int.toNat v24) default).2.1 2) (F67 (v21.getD (Int.toNat v24) default).2.2 2)), (F107 (F67 (v21.getD (Int.toNat v24) default).2.2 2) (F67 (v21.getD (Int.toNat v24) default).1 2)))])).symm
      have z2 : (v22.length + 4) = (v22 ++ [((F67 (v21.getD (Int.toNat v24) default).1 2), (F107 (F67 (v21.getD (Int.toNat v24) default).1 2) (F67 (v21.getD (Int.toNat v24) default).2.1 2)), (F107 (F67 (v21.getD (Int.toNat v24) default).2.2 2) (F67 (v21.getD (Int.toNat v24) default).1 2))), ((F107 (F67 (v21.getD (Int.toNat v24) default).1 2) (F67 (v21.getD (Int.toNat v24) default).2.1 2)), (F67 (v21.getD (Int.toNat v24) default).2.1 2), (F107 (F67 (v21.getD (Int.toNat v24) default).2.1 2) (F67 (v21.getD (Int.toNat v24) default).2.2 2))), ((F107 (F67 (v21.getD (Int.toNat v24) default).2.2 2) (F67 (v21.getD (Int.toNat v24) default).1 2)), (F107 (F67 (v21.getD (Int.toNat v24) default).2.1 2) (F67 (v21.getD (Int.toNat v24) default).2.2 2)), (F67 (v21.getD (Int.toNat v24) default).2.2 2)), ((F107 (F67 (v21.getD (Int.toNat v24) default).1 2) (F67 (v21.getD (Int.toNat v24) default).2.1 2)), (F107 (F67 (v21.getD (Int.toNat v24) default).2.1 2) (F67 (v21.getD (Int.toNat v24) default).2.2 2)), (F107 (F67 (v21.getD (Int.toNat v24) default).2.2 2) (F67 (v21.getD (Int.toNat v24) default).1 2)))]).length := len_app v22 [((F67 (v21.getD (Int.toNat v24) default).1 2), (F107 (F67 (v21.getD (Int.toNat v24) default).1 2) (F67 (v21.getD (Int.toNat v24) default).2.1 2)), (F107 (F67 (v21.getD (Int.toNat v24) default).2.2 2) (F67 (v21.getD (Int.toNat v24) default).1 2))), ((F107 (F67 (v21.getD (Int.toNat v24) default).1 2) (F67 (v21.getD (Int.toNat v24) default).2.1 2)), (F67 (v21.getD (Int.toNat v24) default).2.1 2), (F107 (F67 (v21.getD (Int.toNat v24) default).2.1 2) (F67 (v21.getD (Int.toNat v24) default).2.2 2))), ((F107 (F67 (v21.getD (Int.toNat v24) default).2.2 2) (F67 (v21.getD (Int.toNat v24) default).1 2)), (F107 (F67 (v21.getD (Int.toNat v24) default).2.1 2) (F67 (v21.getD (Int.toNat v24) default).2.2 2)), (F67 (v21.getD (Int.toNat v24) default).2.2 2)), ((F107 (F67 (v21.getD (Int.toNat v24) default).1 2) (F67 (v21.getD (Int.toNat v24) default).2.1 2)), (F107 (F67 (v21.getD (Int.toNat v24) default).2.1 2) (F67 (v21.getD (Int.toNat v24) default).2.2 2)), (F107 (F67 (v21.getD (Int.toNat v24) default).2.2 2) (F67 (v21.getD (Int.toNat v24) default).1 2)))] rfl
      rw [z0, z1, z2]
      exact ih v21 (v22 ++ [((F67 (v21.getD (Int.toNat v24) default).1 2), (F107 (F67 (v21.getD (Int.toNat v24) default).1 2) (F67 (v21.getD (Int.toNat v24) default).2.1 2)), (F107 (F67 (v21.getD (Int.toNat v24) default).2.2 2) (F67 (v21.getD (Int.toNat v24) default).1 2))), ((F107 (F67 (v21.getD (Int.toNat v24) default).1 2) (F67 (v21.getD (Int.toNat v24) default).2.1 2)), (F67 (v21.getD (Int.toNat v24) default).2.1 2), (F107 (F67 (v21.getD (Int.toNat v24) default).2.1 2) (F67 (v21.getD (Int.toNat v24) default).2.2 2))), ((F107 (F67 (v21.getD (Int.toNat v24) default).2.2 2) (F67 (v21.getD (Int.toNat v24) default).1 2)), (F107 (F67 (v21.getD (Int.toNat v24) default).2.1 2) (F67 (v21.getD (Int.toNat v24) default).2.2 2)), (F67 (v21.getD (Int.toNat v24) default).2.2 2)), ((F107 (F67 (v21.getD (Int.toNat v24) default).1 2) (F67 (v21.getD (Int.toNat v24) default).2.1 2)), (F107 (F67 (v21.getD (Int.toNat v24) default).2.1 2) (F67 (v21.getD (Int.toNat v24) default).2.2 2)), (F107 (F67 (v21.getD (Int.toNat v24) default).2.2 2) (F67 (v21.getD (Int.toNat v24) default).1 2)))]) v23 (v24 + 1) (by refine ⟨?_, ?_, ?_, ?_, ?_, ?_, ?_⟩ <;> (try simp only [List.length_append, List.length_cons, List.length_nil, Int.toNat_zero]) <;> first | omega | simp) (by (try simp only [List.length_append, List.length_cons, List.length_nil, Int.toNat_zero]); omega)
    | false =>
      have q0 := of_decide_eq_false h0
      have e : S50_1 a0 a1 (v21, v22, v23, v24) = (.inr (.inl (v22, (v23 + 1)))) := by simp only [S50_1, h0, cond_true, cond_false]
      rw [show loopF (S50_1 a0 a1) (n + 1) (v21, v22, v23, v24) = thenF (S50_1 a0 a1) n (S50_1 a0 a1 (v21, v22, v23, v24)) from rfl, e]
      refine back_of (T := T0) hT hm (f := 5000) (orc := [.d false]) [] [1, 5, 6] [1] hcx (body := B50_0) (m := n0) (k' := K50_0) (s' := ⟨[.u, (iv a1), .u, .u, .u, (.s 0 0 v22.length 9), (iv (W (v23 + 1))), .u, .u, .u, .u, .u, .u, .u, .u, .u, .u, .u, .u, .u, .u, .u, .u, .u, .u, .u, .u, .u, .u, .u, .u, .u, .u, .u, .u, .u, .u, .u, .u, .u, .u, .u, .u, .u, .u, .u, .u, .u, .u, .u, .u, .u, .u, .u, .u, .u, .u, .u, .u, .u, .u, .u, .u, .u, .u, .u, .u, .u, .u, .u, .u, .u, .u, .u, .u, .u], [(.live true true (flat c25 v22))]⟩)
        (obs := [.eq (decide ((v24 : Int) < ((v21.length : Nat) : Int))) false]) (by kernel_rfl) ⟨h0, trivial⟩ ?_
      have z0 : (W (v23 + 1)) = (v23 + 1) := W_eq (by omega) (by omega)
      rw [z0]
      exact g0 v22 (v23 + 1) (by refine ⟨?_, ?_⟩ <;> (try simp only [List.length_append, List.length_cons, List.length_nil, Int.toNat_zero]) <;> first | omega | simp) (by (try simp only [List.length_append, List.length_cons, List.length_nil, Int.toNat_zero]); omega)

set_option maxHeartbeats 4000000 in
theorem L50_0 (a0 : (Int × Int × Int) × (Int × Int × Int) × Int × Int × Int) (a1 : Int) (ha : 0 ≤ a1 ∧ a1 ≤ 3) {cx : Cx} (hcx : cx.base = 0) : ∀ (n : Nat) (v14 : List ((Int × Int × Int) × (Int × Int × Int) × Int × Int × Int)) (v15 : Int), (0 ≤ v15) ∧ (v15 = 0 ∧ v14.length ≤ 1 ∨ v15 = 1 ∧ v14.length ≤ 4 ∨ v15 = 2 ∧ v14.length ≤ 16 ∨ 3 ≤ v15 ∧ v14.length ≤ 64) → Int.toNat (a1 - v15) < n → Aw.Good Try.prog none 9 (bodyPost Try.prog Try.f50 (RR cx (.s 0 0 (loopF (S50_0 a0 a1) n (v14, v15)).length 9) [(.live true true (flat c25 (loopF (S50_0 a0 a1) n (v14, v15))))] [])) cx [] (.l B50_0 n :: K50_0) ⟨[.u, (iv a1), .u, .u, .u, (.s 0 0 v14.length 9), (iv v15), .u, .u, .u, .u, .u, .u, .u, .u, .u, .u, .u, .u, .u, .u, .u, .u, .u, .u, .u, .u, .u, .u, .u, .u, .u, .u, .u, .u, .u, .u, .u, .u, .u, .u, .u, .u, .u, .u, .u, .u, .u, .u, .u, .u, .u, .u, .u, .u, .u, .u, .u, .u, .u, .u, .u, .u, .u, .u, .u, .u, .u, .u, .u, .u, .u, .u, .u, .u, .u], [(.live true true (flat c25 v14))]⟩ := by
  intro n
  induction n with
  | zero => intro v14 v15 hi hn; exact absurd hn (Nat.not_lt_zero _)
  | succ n ih =>
    intro v14 v15 hi hn
    refine good_round ?_
    cases h0 : (decide ((v15 : Int) < a1)) with
    | true =>
      have q0 := of_decide_eq_true h0
      have e : S50_0 a0 a1 (v14, v15) = (loopF (S50_1 a0 a1) (Int.toNat (((v14.length : Nat) : Int) - 0) + 1) (v14, ([] : List ((Int × Int × Int) × (Int × Int × Int) × Int × Int × Int)), v15, 0)) := by simp only [S50_0, h0, cond_true, cond_false]
      rw [show loopF (S50_0 a0 a1) (n + 1) (v14, v15) = thenF (S50_0 a0 a1) n (S50_0 a0 a1 (v14, v15)) from rfl, e]
      refine enter_of (T := T0) hT hm (f := 5000) (orc := [.d true]) [.slot 7 9] [1, 5, 6, 7, 8] [0, 1] hcx (body := B50_1) (k' := K50_1 n) (s' := ⟨[.u, (iv a1), .u, .u, .u, (.s 0 0 v14.length 9), (iv v15), (.s 1 0 0 9), (iv 0), .u, .u, .u, .u, .u, .u, .u, .u, .u, .u, .u, .u, .u, .u, .u, .u, .u, .u, .u, .u, .u, .u, .u, .u, .u, .u, .u, .u, .u, .u, .u, .u, .u, .u, .u, .u, .u, .u, .u, .u, .u, .u, .u, .u, .u, .u, .u, .u, .u, .u, .u, .u, .u, .u, .u, .u, .u, .u, .u, .u, .u, .u, .u, .u, .u, .u, .u], [(.live true true (flat c25 v14)), (.live true true (flat c25 ([] : List ((Int × Int × Int) × (Int × Int × Int) × Int × Int × Int))))]⟩)
        (obs := [.eq (decide ((v15 : Int) < a1)) true]) (by kernel_rfl) ⟨h0, trivial⟩ ⟨Int.toNat (((v14.length : Nat) : Int) - 0) + 1, ?_⟩
      exact L50_1 a0 a1 ha hcx n ih (Int.toNat (((v14.length : Nat) : Int) - 0) + 1) v14 ([] : List ((Int × Int × Int) × (Int × Int × Int) × Int × Int × Int)) v15 0 (by refine ⟨?_, ?_, ?_, ?_, ?_, ?_, ?_⟩ <;> (try simp only [List.length_append, List.length_cons, List.length_nil, Int.toNat_zero]) <;> first | omega | simp) (by (try simp only [List.length_append, List.length_cons, List.length_nil, Int.toNat_zero]); omega)
    | false =>
      have q0 := of_decide_eq_false h0
      have e : S50_0 a0 a1 (v14, v15) = (.inr v14) := by simp only [S50_0, h0, cond_true, cond_false]
      rw [show loopF (S50_0 a0 a1) (n + 1) (v14, v15) = thenF (S50_0 a0 a1) n (S50_0 a0 a1 (v14, v15)) from rfl, e]
      exact ret_of (T := T0) hT hm (f := 5000) (orc := [.d false]) [] [] [0] hcx
        (obs := [.eq (decide ((v15 : Int) < a1)) false]) (by kernel_rfl) ⟨h0, trivial⟩

/-- facet/facetref03.Cut -/
def F50 (a0 : (Int × Int × Int) × (Int × Int × Int) × Int × Int × Int) (a1 : Int) : List ((Int × Int × Int) × (Int × Int × Int) × Int × Int × Int) :=
  (loopF (S50_0 a0 a1) (Int.toNat (a1 - 0) + 1) (([a0] : List ((Int × Int × Int) × (Int × Int × Int) × Int × Int × Int)), 0))

theorem C50 (a0 : (Int × Int × Int) × (Int × Int × Int) × Int × Int × Int) (a1 : Int) (ha : 0 ≤ a1 ∧ a1 ≤ 3) : Con Try.prog 50 [(.a (k9 a0)), (iv a1)] [] (.s 0 0 (F50 a0 a1).length 9) [(.live true true (flat c25 (F50 a0 a1)))] := by
  have e : (F50 a0 a1) = (loopF (S50_0 a0 a1) (Int.toNat (a1 - 0) + 1) (([a0] : List ((Int × Int × Int) × (Int × Int × Int) × Int × Int × Int)), 0)) := by simp only [F50]
  rw [e]
  refine con_of (n := 9) Try.func50 rfl (ent Try.func50 (by kernel_rfl) rfl) (by show 2 ≤ Try.f50.ntmps; decide) (by kernel_rfl) trivial (fun cx hcx => ?_)
  refine enter_of (T := T0) hT hm (f := 5000) (orc := []) [.sym 1 true] [1, 5, 6] [1] hcx (body := B50_0) (k' := K50_0) (s' := ⟨[.u, (iv a1), .u, .u, .u, (.s 0 0 1 9), (iv 0), .u, .u, .u, .u, .u, .u, .u, .u, .u, .u, .u, .u, .u, .u, .u, .u, .u, .u, .u, .u, .u, .u, .u, .u, .u, .u, .u, .u, .u, .u, .u, .u, .u, .u, .u, .u, .u, .u, .u, .u, .u, .u, .u, .u, .u, .u, .u, .u, .u, .u, .u, .u, .u, .u, .u, .u, .u, .u, .u, .u, .u, .u, .u, .u, .u, .u, .u, .u, .u], [(.live true true (flat c25 ([a0] : List ((Int × Int × Int) × (Int × Int × Int) × Int × Int × Int))))]⟩)
    (obs := []) (by kernel_rfl) trivial ⟨Int.toNat (a1 - 0) + 1, ?_⟩
  exact L50_0 a0 a1 ha hcx (Int.toNat (a1 - 0) + 1) ([a0] : List ((Int × Int × Int) × (Int × Int × Int) × Int × Int × Int)) 0 (by refine ⟨?_, ?_⟩ <;> (try simp only [List.length_append, List.length_cons, List.length_nil, Int.toNat_zero]) <;> first | omega | simp) (by (try simp only [List.length_append, List.length_cons, List.length_nil, Int.toNat_zero]); omega)

noncomputable def B128_L_0 : Code := (loopAtD [1, 1, 1, 0, 1] [] (Try.f128.body.getD .skip) []).1
noncomputable def K128_L_0 : List K := (loopAtD [1, 1, 1, 0, 1] [] (Try.f128.body.getD .skip) []).2

/-- a round of loop 0 of facet/facetref01.total; the variables: v1 = s5, v2 = s6, v3 = s7 -/
def S128_L_0 (a0 : List (Int × Int)) : Int × Int × Int → (Int × Int × Int) ⊕ (Int × Int × Int)
  | (v1, v2, v3) =>
   (bif (decide ((v3 : Int) < ((a0.length : Nat) : Int))) then
    (bif (!(F56 (a0.getD (Int.toNat v3) default))) then
     (.inr (0, 0, 1))
    else
     (.inl ((W (v1 + (a0.getD (Int.toNat v3) default).1)), (W (v2 + (a0.getD (Int.toNat v3) default).2)), (v3 + 1))))
   else
    (.inr (v1, v2, 0)))

set_option maxHeartbeats 4000000 in
theorem L128_L_0 (a0 : List (Int × Int)) (l0 : a0.length ≤ 2 ^ 40) {cx : Cx} (hcx : cx.base = 1) : ∀ (n : Nat) (v1 : Int) (v2 : Int) (v3 : Int), 0 ≤ v3 → Int.toNat (((a0.length : Nat) : Int) - v3) < n → Aw.Good Try.prog none 9 (bodyPost Try.prog Try.f128 (RR cx (.t (k3 (loopF (S128_L_0 a0) n (v1, v2, v3)))) [] [])) cx [] (.l B128_L_0 n :: K128_L_0) ⟨[(.s 0 0 a0.length 2), .u, .u, .u, .u, (iv v1), (iv v2), (iv v3), .u, .u, .u, .u, .u, .u, .u, .u, .u, .u, .u, .u, .u, .u, .u, .u, .u, .u, .u, .u, .u, .u, .u, .u, .u, .u, .u, .u, .u, .u, .u], [(.live false true (flat c27 a0))]⟩ := by
  intro n
  induction n with
  | zero => intro v1 v2 v3 hi hn; exact absurd hn (Nat.not_lt_zero _)
  | succ n ih =>
    intro v1 v2 v3 hi hn
    refine good_round ?_
    cases h0 : (decide ((v3 : Int) < ((a0.length : Nat) : Int))) with
    | true =>
      cases h1 : (!(F56 (a0.getD (Int.toNat v3) default))) with
      | true =>
        have q0 := of_decide_eq_true h0
        have e : S128_L_0 a0 (v1, v2, v3) = (.inr (0, 0, 1)) := by simp only [S128_L_0, h0, h1, cond_true, cond_false]
        rw [show loopF (S128_L_0 a0) (n + 1) (v1, v2, v3) = thenF (S128_L_0 a0) n (S128_L_0 a0 (v1, v2, v3)) from rfl, e]
        exact ret_of (T := T0) hT hm (f := 5000) (orc := [.d true, .ld (k2 (a0.getD (Int.toNat v3) default)), .call [] (.v (.bool (F56 (a0.getD (Int.toNat v3) default)))) [], .d true]) [] [] [] hcx
          (obs := [.eq (decide ((v3 : Int) < ((a0.length : Nat) : Int))) true, .pr (0 ≤ (v3 : Int) ∧ (v3 : Int) < ((a0.length : Nat) : Int)), .pr (((((flat c27 a0)).drop (0 + Int.toNat v3 * 2)).take 2) = (k2 (a0.getD (Int.toNat v3) default))), .call 56 [(.a (k2 (a0.getD (Int.toNat v3) default)))] [] (.v (.bool (F56 (a0.getD (Int.toNat v3) default)))) [], .eq (!(F56 (a0.getD (Int.toNat v3) default))) true]) (by kernel_rfl) ⟨h0, (show 0 ≤ (v3 : Int) ∧ (v3 : Int) < ((a0.length : Nat) : Int) from by first | omega | (rw [W_eq] <;> omega) | exact u64_nn _), (ld_part c27_len default a0 v3 0 2 (by omega) (by decide) (by omega) rfl), (C56 (a0.getD (Int.toNat v3) default)), h1, trivial⟩
      | false =>
        have q0 := of_decide_eq_true h0
        have e : S128_L_0 a0 (v1, v2, v3) = (.inl ((W (v1 + (a0.getD (Int.toNat v3) default).1)), (W (v2 + (a0.getD (Int.toNat v3) default).2)), (v3 + 1))) := by simp only [S128_L_0, h0, h1, cond_true, cond_false]
        rw [loopF_inl e]
        refine back_of (T := T0) hT hm (f := 5000) (orc := [.d true, .ld (k2 (a0.getD (Int.toNat v3) default)), .call [] (.v (.bool (F56 (a0.getD (Int.toNat v3) default)))) [], .d false, .ld [(iv (a0.getD (Int.toNat v3) default).1)], .ld [(iv (a0.getD (Int.toNat v3) default).2)]]) [] [0, 5, 6, 7] [] hcx (body := B128_L_0) (m := n) (k' := K128_L_0) (s' := ⟨[(.s 0 0 a0.length 2), .u, .u, .u, .u, (iv (W (v1 + (a0.getD (Int.toNat v3) default).1))), (iv (W (v2 + (a0.getD (Int.toNat v3) default).2))), (iv (W (v3 + 1))), .u, .u, .u, .u, .u, .u, .u, .u, .u, .u, .u, .u, .u, .u, .u, .u, .u, .u, .u, .u, .u, .u, .u, .u, .u, .u, .u, .u, .u, .u, .u], [(.live false true (flat c27 a0))]⟩)
          (obs := [.eq (decide ((v3 : Int) < ((a0.length : Nat) : Int))) true, .pr (0 ≤ (v3 : Int) ∧ (v3 : Int) < ((a0.length : Nat) : Int)), .pr (((((flat c27 a0)).drop (0 + Int.toNat v3 * 2)).take 2) = (k2 (a0.getD (Int.toNat v3) default))), .call 56 [(.a (k2 (a0.getD (Int.toNat v3) default)))] [] (.v (.bool (F56 (a0.getD (Int.toNat v3) default)))) [], .eq (!(F56 (a0.getD (Int.toNat v3) default))) false, .pr (0 ≤ (v3 : Int) ∧ (v3 : Int) < ((a0.length : Nat) : Int)), .pr (((((flat c27 a0)).drop (0 + Int.toNat v3 * 2 + 0)).take 1) = [(iv (a0.getD (Int.toNat v3) default).1)]), .pr (0 ≤ (v3 : Int) ∧ (v3 : Int) < ((a0.length : Nat) : Int)), .pr (((((flat c27 a0)).drop (0 + Int.toNat v3 * 2 + 1)).take 1) = [(iv (a0.getD (Int.toNat v3) default).2)])]) (by kernel_rfl) ⟨h0, (show 0 ≤ (v3 : Int) ∧ (v3 : Int) < ((a0.length : Nat) : Int) from by first | omega | (rw [W_eq] <;> omega) | exact u64_nn _), (ld_part c27_len default a0 v3 0 2 (by omega) (by decide) (by omega) rfl), (C56 (a0.getD (Int.toNat v3) default)), h1, (show 0 ≤ (v3 : Int) ∧ (v3 : Int) < ((a0.length : Nat) : Int) from by first | omega | (rw [W_eq] <;> omega) | exact u64_nn _), (ld_part c27_len default a0 v3 0 1 (by omega) (by decide) (by omega) rfl), (show 0 ≤ (v3 : Int) ∧ (v3 : Int) < ((a0.length : Nat) : Int) from by first | omega | (rw [W_eq] <;> omega) | exact u64_nn _), (ld_part c27_len default a0 v3 1 1 (by omega) (by decide) (by omega) rfl), trivial⟩ ?_
        have z0 : (W (v3 + 1)) = (v3 + 1) := W_eq (by omega) (by omega)
        rw [z0]
        exact ih (W (v1 + (a0.getD (Int.toNat v3) default).1)) (W (v2 + (a0.getD (Int.toNat v3) default).2)) (v3 + 1) (by (try simp only [List.length_append, List.length_cons, List.length_nil, Int.toNat_zero]); omega) (by (try simp only [List.length_append, List.length_cons, List.length_nil, Int.toNat_zero]); omega)
    | false =>
      have q0 := of_decide_eq_false h0
      have e : S128_L_0 a0 (v1, v2, v3) = (.inr (v1, v2, 0)) := by simp only [S128_L_0, h0, cond_true, cond_false]
      rw [show loopF (S128_L_0 a0) (n + 1) (v1, v2, v3) = thenF (S128_L_0 a0) n (S128_L_0 a0 (v1, v2, v3)) from rfl, e]
      exact ret_of (T := T0) hT hm (f := 5000) (orc := [.d false]) [] [] [] hcx
        (obs := [.eq (decide ((v3 : Int) < ((a0.length : Nat) : Int))) false]) (by kernel_rfl) ⟨h0, trivial⟩

/-- facet/facetref01.total at ('L',) -/
def F128_L (a0 : List (Int × Int)) : Int × Int × Int :=
  (bif (decide ((((a0.length : Nat) : Int) : Int) > 10000)) then
   (0, 0, 4)
  else
   (loopF (S128_L_0 a0) (Int.toNat (((a0.length : Nat) : Int) - 0) + 1) (0, 0, 0)))

theorem C128_L (a0 : List (Int × Int)) (l0 : a0.length ≤ 2 ^ 40) : Con Try.prog 128 [(.s 0 0 a0.length 2)] [(.live false true (flat c27 a0))] (.t (k3 (F128_L a0))) [] := by
  cases h0 : (decide ((((a0.length : Nat) : Int) : Int) > 10000)) with
  | true =>
    have q0 := of_decide_eq_true h0
    have e : (F128_L a0) = (0, 0, 4) := by simp only [F128_L, h0, cond_true, cond_false]
    rw [e]
    refine con_of (n := 9) Try.func128 rfl (ent Try.func128 (by kernel_rfl) rfl) (by show 1 ≤ Try.f128.ntmps; decide) (by kernel_rfl) ⟨rfl, trivial⟩ (fun cx hcx => ?_)
    exact ret_of (T := T0) hT hm (f := 5000) (orc := [.d true]) [] [] [] hcx
      (obs := [.eq (decide ((((a0.length : Nat) : Int) : Int) > 10000)) true]) (by kernel_rfl) ⟨h0, trivial⟩
  | false =>
    have q0 := of_decide_eq_false h0
    have e : (F128_L a0) = (loopF (S128_L_0 a0) (Int.toNat (((a0.length : Nat) : Int) - 0) + 1) (0, 0, 0)) := by simp only [F128_L, h0, cond_true, cond_false]
    rw [e]
    refine con_of (n := 9) Try.func128 rfl (ent Try.func128 (by kernel_rfl) rfl) (by show 1 ≤ Try.f128.ntmps; decide) (by kernel_rfl) ⟨rfl, trivial⟩ (fun cx hcx => ?_)
    refine enter_of (T := T0) hT hm (f := 5000) (orc := [.d false]) [] [0, 5, 6, 7] [] hcx (body := B128_L_0) (k' := K128_L_0) (s' := ⟨[(.s 0 0 a0.length 2), .u, .u, .u, .u, (iv 0), (iv 0), (iv 0), .u, .u, .u, .u, .u, .u, .u, .u, .u, .u, .u, .u, .u, .u, .u, .u, .u, .u, .u, .u, .u, .u, .u, .u, .u, .u, .u, .u, .u, .u, .u], [(.live false true (flat c27 a0))]⟩)
      (obs := [.eq (decide ((((a0.length : Nat) : Int) : Int) > 10000)) false]) (by kernel_rfl) ⟨h0, trivial⟩ ⟨Int.toNat (((a0.length : Nat) : Int) - 0) + 1, ?_⟩
    exact L128_L_0 a0 l0 hcx (Int.toNat (((a0.length : Nat) : Int) - 0) + 1) 0 0 0 (by (try simp only [List.length_append, List.length_cons, List.length_nil, Int.toNat_zero]); omega) (by (try simp only [List.length_append, List.length_cons, List.length_nil, Int.toNat_zero]); omega)

/-- facet/facetref01.Mean at ('L',) -/
def F75_L (a0 : List (Int × Int)) : (Int × Int) × Int :=
  (bif (((F128_L a0).2.2 : Int) != 0) then
   ((0, 0), (F128_L a0).2.2)
  else
   (bif ((((a0.length : Nat) : Int) : Int) == 0) then
    ((0, 0), 1)
   else
    ((F123 (F99 (F128_L a0).1 ((a0.length : Nat) : Int)) (F100 (F128_L a0).2.1 ((a0.length : Nat) : Int))).1, (F123 (F99 (F128_L a0).1 ((a0.length : Nat) : Int)) (F100 (F128_L a0).2.1 ((a0.length : Nat) : Int))).2)))

noncomputable def oC75_L_0 (a0 : List (Int × Int)) : Ob := .call 128 [(.s 0 0 a0.length 2)] [(.live false true (flat c27 a0))] (.t (k3 (F128_L a0))) []
theorem C75_L (a0 : List (Int × Int)) (l0 : a0.length ≤ 2 ^ 40) : Con Try.prog 75 [(.s 0 0 a0.length 2)] [(.live false true (flat c27 a0))] (.t [(.a (k2 (F75_L a0).1)), (iv (F75_L a0).2)]) [] := by
  cases h0 : (((F128_L a0).2.2 : Int) != 0) with
  | true =>
    have q0 := bne_iff_ne.1 h0
    have e : (F75_L a0) = ((0, 0), (F128_L a0).2.2) := by simp only [F75_L, h0, cond_true, cond_false]
    rw [e]
    refine con_of (n := 9) Try.func75 rfl (ent Try.func75 (by kernel_rfl) rfl) (by show 1 ≤ Try.f75.ntmps; decide) (by kernel_rfl) ⟨rfl, trivial⟩ (fun cx hcx => ?_)
    exact ret_of (T := T0) hT hm (f := 5000) (orc := [.call [0] (.t (k3 (F128_L a0))) [], .d true]) [] [] [] hcx
      (obs := [(oC75_L_0 a0), .eq (((F128_L a0).2.2 : Int) != 0) true]) (by kernel_rfl) ⟨(C128_L a0 (by (try simp only [List.length_append, List.length_cons, List.length_nil, Int.toNat_zero, axis3, axis1]); omega)), h0, trivial⟩
  | false =>
    cases h1 : ((((a0.length : Nat) : Int) : Int) == 0) with
    | true =>
      have q0 := bne_eq_false_iff_eq.1 h0
      have q1 := eq_of_beq h1
      have e : (F75_L a0) = ((0, 0), 1) := by simp only [F75_L, h0, h1, cond_true, cond_false]
      rw [e]
      refine con_of (n := 9) Try.func75 rfl (ent Try.func75 (by kernel_rfl) rfl) (by show 1 ≤ Try.f75.ntmps; decide) (by kernel_rfl) ⟨rfl, trivial⟩ (fun cx hcx => ?_)
      exact ret_of (T := T0) hT hm (f := 5000) (orc := [.call [0] (.t (k3 (F128_L a0))) [], .d false, .d true]) [] [] [] hcx
        (obs := [(oC75_L_0 a0), .eq (((F128_L a0).2.2 : Int) != 0) false, .eq ((((a0.length : Nat) : Int) : Int) == 0) true]) (by kernel_rfl) ⟨(C128_L a0 (by (try simp only [List.length_append, List.length_cons, List.length_nil, Int.toNat_zero, axis3, axis1]); omega)), h0, h1, trivial⟩
    | false =>
      have q0 := bne_eq_false_iff_eq.1 h0
      have q1 := ne_of_beq_false h1
      have e : (F75_L a0) = ((F123 (F99 (F128_L a0).1 ((a0.length : Nat) : Int)) (F100 (F128_L a0).2.1 ((a0.length : Nat) : Int))).1, (F123 (F99 (F128_L a0).1 ((a0.length : Nat) : Int)) (F100 (F128_L a0).2.1 ((a0.length : Nat) : Int))).2) := by simp only [F75_L, h0, h1, cond_true, cond_false]
      rw [e]
      refine con_of (n := 9) Try.func75 rfl (ent Try.func75 (by kernel_rfl) rfl) (by show 1 ≤ Try.f75.ntmps; decide) (by kernel_rfl) ⟨rfl, trivial⟩ (fun cx hcx => ?_)
      exact ret_of (T := T0) hT hm (f := 5000) (orc := [.call [0] (.t (k3 (F128_L a0))) [], .d false, .d false, .call [] (iv (F99 (F128_L a0).1 ((a0.length : Nat) : Int))) [], .call [] (iv (F100 (F128_L a0).2.1 ((a0.length : Nat) : Int))) [], .call [] (.t [(.a (k2 (F123 (F99 (F128_L a0).1 ((a0.length : Nat) : Int)) (F100 (F128_L a0).2.1 ((a0.length : Nat) : Int))).1)), (iv (F123 (F99 (F128_L a0).1 ((a0.length : Nat) : Int)) (F100 (F128_L a0).2.1 ((a0.length : Nat) : Int))).2)]) []]) [] [] [] hcx
        (obs := [(oC75_L_0 a0), .eq (((F128_L a0).2.2 : Int) != 0) false, .eq ((((a0.length : Nat) : Int) : Int) == 0) false, .call 99 [(iv (F128_L a0).1), (iv ((a0.length : Nat) : Int))] [] (iv (F99 (F128_L a0).1 ((a0.length : Nat) : Int))) [], .call 100 [(iv (F128_L a0).2.1), (iv ((a0.length : Nat) : Int))] [] (iv (F100 (F128_L a0).2.1 ((a0.length : Nat) : Int))) [], .call 123 [(iv (F99 (F128_L a0).1 ((a0.length : Nat) : Int))), (iv (F100 (F128_L a0).2.1 ((a0.length : Nat) : Int)))] [] (.t [(.a (k2 (F123 (F99 (F128_L a0).1 ((a0.length : Nat) : Int)) (F100 (F128_L a0).2.1 ((a0.length : Nat) : Int))).1)), (iv (F123 (F99 (F128_L a0).1 ((a0.length : Nat) : Int)) (F100 (F128_L a0).2.1 ((a0.length : Nat) : Int))).2)]) []]) (by kernel_rfl) ⟨(C128_L a0 (by (try simp only [List.length_append, List.length_cons, List.length_nil, Int.toNat_zero, axis3, axis1]); omega)), h0, h1, (C99 (F128_L a0).1 ((a0.length : Nat) : Int)  (by (try simp only [List.length_append, List.length_cons, List.length_nil, Int.toNat_zero, axis3, axis1]); omega)), (C100 (F128_L a0).2.1 ((a0.length : Nat) : Int)  (by (try simp only [List.length_append, List.length_cons, List.length_nil, Int.toNat_zero, axis3, axis1]); omega)), (C123 (F99 (F128_L a0).1 ((a0.length : Nat) : Int)) (F100 (F128_L a0).2.1 ((a0.length : Nat) : Int))), trivial⟩

noncomputable def B97_L_0 : Code := (loopAtD [1, 1, 0, 1] [] (Try.f97.body.getD .skip) []).1
noncomputable def K97_L_0 : List K := (loopAtD [1, 1, 0, 1] [] (Try.f97.body.getD .skip) []).2

/-- a round of loop 0 of facet/facetref03.far; the variables: v1 = s5, v2 = s6 -/
def S97_L_0 (a0 : (Int × Int × Int) × (Int × Int × Int) × Int × Int × Int) (a1 : List (Int × Int × Int)) : Int × Int → (Int × Int) ⊕ (Int)
  | (v1, v2) =>
   (bif (decide ((v2 : Int) < ((a1.length : Nat) : Int))) then
    (bif (decide (((F115 (F125 a0.1 (a1.getD (Int.toNat v2) default)) (F125 a0.1 (a1.getD (Int.toNat v2) default))) : Int) > v1)) then
     (bif (decide (((F115 (F125 a0.2.1 (a1.getD (Int.toNat v2) default)) (F125 a0.2.1 (a1.getD (Int.toNat v2) default))) : Int) > (F115 (F125 a0.1 (a1.getD (Int.toNat v2) default)) (F125 a0.1 (a1.getD (Int.toNat v2) default))))) then
      (bif (decide (((F115 (F125 a0.2.2 (a1.getD (Int.toNat v2) default)) (F125 a0.2.2 (a1.getD (Int.toNat v2) default))) : Int) > (F115 (F125 a0.2.1 (a1.getD (Int.toNat v2) default)) (F125 a0.2.1 (a1.getD (Int.toNat v2) default))))) then
       (.inl ((F115 (F125 a0.2.2 (a1.getD (Int.toNat v2) default)) (F125 a0.2.2 (a1.getD (Int.toNat v2) default))), (v2 + 1)))
      else
       (.inl ((F115 (F125 a0.2.1 (a1.getD (Int.toNat v2) default)) (F125 a0.2.1 (a1.getD (Int.toNat v2) default))), (v2 + 1))))
     else
      (bif (decide (((F115 (F125 a0.2.2 (a1.getD (Int.toNat v2) default)) (F125 a0.2.2 (a1.getD (Int.toNat v2) default))) : Int) > (F115 (F125 a0.1 (a1.getD (Int.toNat v2) default)) (F125 a0.1 (a1.getD (Int.toNat v2) default))))) then
       (.inl ((F115 (F125 a0.2.2 (a1.getD (Int.toNat v2) default)) (F125 a0.2.2 (a1.getD (Int.toNat v2) default))), (v2 + 1)))
      else
       (.inl ((F115 (F125 a0.1 (a1.getD (Int.toNat v2) default)) (F125 a0.1 (a1.getD (Int.toNat v2) default))), (v2 + 1)))))
    else
     (bif (decide (((F115 (F125 a0.2.1 (a1.getD (Int.toNat v2) default)) (F125 a0.2.1 (a1.getD (Int.toNat v2) default))) : Int) > v1)) then
      (bif (decide (((F115 (F125 a0.2.2 (a1.getD (Int.toNat v2) default)) (F125 a0.2.2 (a1.getD (Int.toNat v2) default))) : Int) > (F115 (F125 a0.2.1 (a1.getD (Int.toNat v2) default)) (F125 a0.2.1 (a1.getD (Int.toNat v2) default))))) then
       (.inl ((F115 (F125 a0.2.2 (a1.getD (Int.toNat v2) default)) (F125 a0.2.2 (a1.getD (Int.toNat v2) default))), (v2 + 1)))
      else
       (.inl ((F115 (F125 a0.2.1 (a1.getD (Int.toNat v2) default)) (F125 a0.2.1 (a1.getD (Int.toNat v2) default))), (v2 + 1))))
     else
      (bif (decide (((F115 (F125 a0.2.2 (a1.getD (Int.toNat v2) default)) (F125 a0.2.2 (a1.getD (Int.toNat v2) default))) : Int) > v1)) then
       (.inl ((F115 (F125 a0.2.2 (a1.getD (Int.toNat v2) default)) (F125 a0.2.2 (a1.getD (Int.toNat v2) default))), (v2 + 1)))
      else
       (.inl (v1, (v2 + 1))))))
   else
    (.inr v1))

set_option maxHeartbeats 4000000 in
theorem L97_L_0 (a0 : (Int × Int × Int) × (Int × Int × Int) × Int × Int × Int) (a1 : List (Int × Int × Int)) (l1 : a1.length ≤ 2 ^ 40) {cx : Cx} (hcx : cx.base = 1) : ∀ (n : Nat) (v1 : Int) (v2 : Int), 0 ≤ v2 → Int.toNat (((a1.length : Nat) : Int) - v2) < n → Aw.Good Try.prog none 9 (bodyPost Try.prog Try.f97 (RR cx (iv (loopF (S97_L_0 a0 a1) n (v1, v2))) [] [])) cx [] (.l B97_L_0 n :: K97_L_0) ⟨[.u, (.s 0 0 a1.length 3), (.p 1 0), .u, .u, (iv v1), (iv v2), .u, .u, .u, .u, .u, .u, .u, .u, .u, .u, .u, .u, .u, .u, .u, .u, .u, .u, .u, .u, .u, .u, .u, .u, .u, .u, .u, .u, .u, .u, .u, .u, .u, .u, .u, .u, .u], [(.live false true (flat c23 a1)), (.live true false (k9 a0))]⟩ := by
  intro n
  induction n with
  | zero => intro v1 v2 hi hn; exact absurd hn (Nat.not_lt_zero _)
  | succ n ih =>
    intro v1 v2 hi hn
    refine good_round ?_
    cases h0 : (decide ((v2 : Int) < ((a1.length : Nat) : Int))) with
    | true =>
      cases h1 : (decide (((F115 (F125 a0.1 (a1.getD (Int.toNat v2) default)) (F125 a0.1 (a1.getD (Int.toNat v2) default))) : Int) > v1)) with
      | true =>
        cases h2 : (decide (((F115 (F125 a0.2.1 (a1.getD (Int.toNat v2) default)) (F125 a0.2.1 (a1.getD (Int.toNat v2) default))) : Int) > (F115 (F125 a0.1 (a1.getD (Int.toNat v2) default)) (F125 a0.1 (a1.getD (Int.toNat v2) default))))) with
        | true =>
          cases h3 : (decide (((F115 (F125 a0.2.2 (a1.getD (Int.toNat v2) default)) (F125 a0.2.2 (a1.getD (Int.toNat v2) default))) : Int) > (F115 (F125 a0.2.1 (a1.getD (Int.toNat v2) default)) (F125 a0.2.1 (a1.getD (Int.toNat v2) default))))) with
          | true =>
            have q0 := of_decide_eq_true h0
            have q1 := of_decide_eq_true h1
            have q2 := of_decide_eq_true h2
            have q3 := of_decide_eq_true h3
            have e : S97_L_0 a0 a1 (v1, v2) = (.inl ((F115 (F125 a0.2.2 (a1.getD (Int.toNat v2) default)) (F125 a0.2.2 (a1.getD (Int.toNat v2) default))), (v2 + 1))) := by simp only [S97_L_0, h0, h1, h2, h3, cond_true, cond_false]
            rw [loopF_inl e]
            refine back_of (T := T0) hT hm (f := 5000) (orc := [.d true, .un 200, .d true, .ld (k3 (a1.getD (Int.toNat v2) default)), .call [] (.a (k3 (F125 a0.1 (a1.getD (Int.toNat v2) default)))) [], .call [] (iv (F115 (F125 a0.1 (a1.getD (Int.toNat v2) default)) (F125 a0.1 (a1.getD (Int.toNat v2) default)))) [], .d true, .un 0, .d true, .ld (k3 (a1.getD (Int.toNat v2) default)), .call [] (.a (k3 (F125 a0.2.1 (a1.getD (Int.toNat v2) default)))) [], .call [] (iv (F115 (F125 a0.2.1 (a1.getD (Int.toNat v2) default)) (F125 a0.2.1 (a1.getD (Int.toNat v2) default)))) [], .d true, .un 0, .d true, .ld (k3 (a1.getD (Int.toNat v2) default)), .call [] (.a (k3 (F125 a0.2.2 (a1.getD (Int.toNat v2) default)))) [], .call [] (iv (F115 (F125 a0.2.2 (a1.getD (Int.toNat v2) default)) (F125 a0.2.2 (a1.getD (Int.toNat v2) default)))) [], .d true, .un 0, .d false]) [] [1, 2, 5, 6] [1] hcx (body := B97_L_0) (m := n) (k' := K97_L_0) (s' := ⟨[.u, (.s 0 0 a1.length 3), (.p 1 0), .u, .u, (iv (F115 (F125 a0.2.2 (a1.getD (Int.toNat v2) default)) (F125 a0.2.2 (a1.getD (Int.toNat v2) default)))), (iv (W (v2 + 1))), .u, .u, .u, .u, .u, .u, .u, .u, .u, .u, .u, .u, .u, .u, .u, .u, .u, .u, .u, .u, .u, .u, .u, .u, .u, .u, .u, .u, .u, .u, .u, .u, .u, .u, .u, .u, .u], [(.live false true (flat c23 a1)), (.live true false (k9 a0))]⟩)
              (obs := [.eq (decide ((v2 : Int) < ((a1.length : Nat) : Int))) true, .eq true true, .pr (0 ≤ (0 : Int) ∧ (0 : Int) < ((3 : Nat) : Int)), .pr (0 ≤ (v2 : Int) ∧ (v2 : Int) < ((a1.length : Nat) : Int)), .pr (((((flat c23 a1)).drop (0 + Int.toNat v2 * 3)).take 3) = (k3 (a1.getD (Int.toNat v2) default))), .call 125 [(.a (k3 a0.1)), (.a (k3 (a1.getD (Int.toNat v2) default)))] [] (.a (k3 (F125 a0.1 (a1.getD (Int.toNat v2) default)))) [], .call 115 [(.a (k3 (F125 a0.1 (a1.getD (Int.toNat v2) default)))), (.a (k3 (F125 a0.1 (a1.getD (Int.toNat v2) default))))] [] (iv (F115 (F125 a0.1 (a1.getD (Int.toNat v2) default)) (F125 a0.1 (a1.getD (Int.toNat v2) default)))) [], .eq (decide (((F115 (F125 a0.1 (a1.getD (Int.toNat v2) default)) (F125 a0.1 (a1.getD (Int.toNat v2) default))) : Int) > v1)) true, .eq true true, .pr (0 ≤ (1 : Int) ∧ (1 : Int) < ((3 : Nat) : Int)), .pr (0 ≤ (v2 : Int) ∧ (v2 : Int) < ((a1.length : Nat) : Int)), .pr (((((flat c23 a1)).drop (0 + Int.toNat v2 * 3)).take 3) = (k3 (a1.getD (Int.toNat v2) default))), .call 125 [(.a (k3 a0.2.1)), (.a (k3 (a1.getD (Int.toNat v2) default)))] [] (.a (k3 (F125 a0.2.1 (a1.getD (Int.toNat v2) default)))) [], .call 115 [(.a (k3 (F125 a0.2.1 (a1.getD (Int.toNat v2) default)))), (.a (k3 (F125 a0.2.1 (a1.getD (Int.toNat v2) default))))] [] (iv (F115 (F125 a0.2.1 (a1.getD (Int.toNat v2) default)) (F125 a0.2.1 (a1.getD (Int.toNat v2) default)))) [], .eq (decide (((F115 (F125 a0.2.1 (a1.getD (Int.toNat v2) default)) (F125 a0.2.1 (a1.getD (Int.toNat v2) default))) : Int) > (F115 (F125 a0.1 (a1.getD (Int.toNat v2) default)) (F125 a0.1 (a1.getD (Int.toNat v2) default))))) true, .eq true true, .pr (0 ≤ (2 : Int) ∧ (2 : Int) < ((3 : Nat) : Int)), .pr (0 ≤ (v2 : Int) ∧ (v2 : Int) < ((a1.length : Nat) : Int)), .pr (((((flat c23 a1)).drop (0 + Int.toNat v2 * 3)).take 3) = (k3 (a1.getD (Int.toNat v2) default))), .call 125 [(.a (k3 a0.2.2)), (.a (k3 (a1.getD (Int.toNat v2) default)))] [] (.a (k3 (F125 a0.2.2 (a1.getD (Int.toNat v2) default)))) [], .call 115 [(.a (k3 (F125 a0.2.2 (a1.getD (Int.toNat v2) default)))), (.a (k3 (F125 a0.2.2 (a1.getD (Int.toNat v2) default))))] [] (iv (F115 (F125 a0.2.2 (a1.getD (Int.toNat v2) default)) (F125 a0.2.2 (a1.getD (Int.toNat v2) default)))) [], .eq (decide (((F115 (F125 a0.2.2 (a1.getD (Int.toNat v2) default)) (F125 a0.2.2 (a1.getD (Int.toNat v2) default))) : Int) > (F115 (F125 a0.2.1 (a1.getD (Int.toNat v2) default)) (F125 a0.2.1 (a1.getD (Int.toNat v2) default))))) true, .eq false false]) (by kernel_rfl) ⟨h0, rfl, (show 0 ≤ (0 : Int) ∧ (0 : Int) < ((3 : Nat) : Int) from by decide), (show 0 ≤ (v2 : Int) ∧ (v2 : Int) < ((a1.length : Nat) : Int) from by first | omega | (rw [W_eq] <;> omega) | exact u64_nn _), (ld_part c23_len default a1 v2 0 3 (by omega) (by decide) (by omega) rfl), (C125 a0.1 (a1.getD (Int.toNat v2) default)), (C115 (F125 a0.1 (a1.getD (Int.toNat v2) default)) (F125 a0.1 (a1.getD (Int.toNat v2) default))), h1, rfl, (show 0 ≤ (1 : Int) ∧ (1 : Int) < ((3 : Nat) : Int) from by decide), (show 0 ≤ (v2 : Int) ∧ (v2 : Int) < ((a1.length : Nat) : Int) from by first | omega | (rw [W_eq] <;> omega) | exact u64_nn _), (ld_part c23_len default a1 v2 0 3 (by omega) (by decide) (by omega) rfl), (C125 a0.2.1 (a1.getD (Int.toNat v2) default)), (C115 (F125 a0.2.1 (a1.getD (Int.toNat v2) default)) (F125 a0.2.1 (a1.getD (Int.toNat v2) default))), h2, rfl, (show 0 ≤ (2 : Int) ∧ (2 : Int) < ((3 : Nat) : Int) from by decide), (show 0 ≤ (v2 : Int) ∧ (v2 : Int) < ((a1.length : Nat) : Int) from by first | omega | (rw [W_eq] <;> omega) | exact u64_nn _), (ld_part c23_len default a1 v2 0 3 (by omega) (by decide) (by omega) rfl), (C125 a0.2.2 (a1.getD (Int.toNat v2) default)), (C115 (F125 a0.2.2 (a1.getD (Int.toNat v2) default)) (F125 a0.2.2 (a1.getD (Int.toNat v2) default))), h3, rfl, trivial⟩ ?_
            have z0 : (W (v2 + 1)) = (v2 + 1) := W_eq (by omega) (by omega)
            rw [z0]
            exact ih (F115 (F125 a0.2.2 (a1.getD (Int.toNat v2) default)) (F125 a0.2.2 (a1.getD (Int.toNat v2) default))) (v2 + 1) (by (try simp only [List.length_append, List.length_cons, List.length_nil, Int.toNat_zero]); omega) (by (try simp only [List.length_append, List.length_cons, List.length_nil, Int.toNat_zero]); omega)
          | false =>
            have q0 := of_decide_eq_true h0
            have q1 := of_decide_eq_true h1
            have q2 := of_decide_eq_true h2
            have q3 := of_decide_eq_false h3
            have e : S97_L_0 a0 a1 (v1, v2) = (.inl ((F115 (F125 a0.2.1 (a1.getD (Int.toNat v2) default)) (F125 a0.2.1 (a1.getD (Int.toNat v2) default))), (v2 + 1))) := by simp only [S97_L_0, h0, h1, h2, h3, cond_true, cond_false]
            rw [loopF_inl e]
            refine back_of (T := T0) hT hm (f := 5000) (orc := [.d true, .un 200, .d true, .ld (k3 (a1.getD (Int.toNat v2) default)), .call [] (.a (k3 (F125 a0.1 (a1.getD (Int.toNat v2) default)))) [], .call [] (iv (F115 (F125 a0.1 (a1.getD (Int.toNat v2) default)) (F125 a0.1 (a1.getD (Int.toNat v2) default)))) [], .d true, .un 0, .d true, .ld (k3 (a1.getD (Int.toNat v2) default)), .call [] (.a (k3 (F125 a0.2.1 (a1.getD (Int.toNat v2) default)))) [], .call [] (iv (F115 (F125 a0.2.1 (a1.getD (Int.toNat v2) default)) (F125 a0.2.1 (a1.getD (Int.toNat v2) default)))) [], .d true, .un 0, .d true, .ld (k3 (a1.getD (Int.toNat v2) default)), .call [] (.a (k3 (F125 a0.2.2 (a1.getD (Int.toNat v2) default)))) [], .call [] (iv (F115 (F125 a0.2.2 (a1.getD (Int.toNat v2) default)) (F125 a0.2.2 (a1.getD (Int.toNat v2) default)))) [], .d false, .un 0, .d false]) [] [1, 2, 5, 6] [1] hcx (body := B97_L_0) (m := n) (k' := K97_L_0) (s' := ⟨[.u, (.s 0 0 a1.length 3), (.p 1 0), .u, .u, (iv (F115 (F125 a0.2.1 (a1.getD (Int.toNat v2) default)) (F125 a0.2.1 (a1.getD (Int.toNat v2) default)))), (iv (W (v2 + 1))), .u, .u, .u, .u, .u, .u, .u, .u, .u, .u, .u, .u, .u, .u, .u, .u, .u, .u, .u, .u, .u, .u, .u, .u, .u, .u, .u, .u, .u, .u, .u, .u, .u, .u, .u, .u, .u], [(.live false true (flat c23 a1)), (.live true false (k9 a0))]⟩)
              (obs := [.eq (decide ((v2 : Int) < ((a1.length : Nat) : Int))) true, .eq true true, .pr (0 ≤ (0 : Int) ∧ (0 : Int) < ((3 : Nat) : Int)), .pr (0 ≤ (v2 : Int) ∧ (v2 : Int) < ((a1.length : Nat) : Int)), .pr (((((flat c23 a1)).drop (0 + Int.toNat v2 * 3)).take 3) = (k3 (a1.getD (Int.toNat v2) default))), .call 125 [(.a (k3 a0.1)), (.a (k3 (a1.getD (Int.toNat v2) default)))] [] (.a (k3 (F125 a0.1 (a1.getD (Int.toNat v2) default)))) [], .call 115 [(.a (k3 (F125 a0.1 (a1.getD (Int.toNat v2) default)))), (.a (k3 (F125 a0.1 (a1.getD (Int.toNat v2) default))))] [] (iv (F115 (F125 a0.1 (a1.getD (Int.toNat v2) default)) (F125 a0.1 (a1.getD (Int.toNat v2) default)))) [], .eq (decide (((F115 (F125 a0.1 (a1.getD (Int.toNat v2) default)) (F125 a0.1 (a1.getD (Int.toNat v2) default))) : Int) > v1)) true, .eq true true, .pr (0 ≤ (1 : Int) ∧ (1 : Int) < ((3 : Nat) : Int)), .pr (0 ≤ (v2 : Int) ∧ (v2 : Int) < ((a1.length : Nat) : Int)), .pr (((((flat c23 a1)).drop (0 + Int.toNat v2 * 3)).take 3) = (k3 (a1.getD (Int.toNat v2) default))), .call 125 [(.a (k3 a0.2.1)), (.a (k3 (a1.getD (Int.toNat v2) default)))] [] (.a (k3 (F125 a0.2.1 (a1.getD (Int.toNat v2) default)))) [], .call 115 [(.a (k3 (F125 a0.2.1 (a1.getD (Int.toNat v2) default)))), (.a (k3 (F125 a0.2.1 (a1.getD (Int.toNat v2) default))))] [] (iv (F115 (F125 a0.2.1 (a1.getD (Int.toNat v2) default)) (F125 a0.2.1 (a1.getD (Int.toNat v2) default)))) [], .eq (decide (((F115 (F125 a0.2.1 (a1.getD (Int.toNat v2) default)) (F125 a0.2.1 (a1.getD (Int.toNat v2) default))) : Int) > (F115 (F125 a0.1 (a1.getD (Int.toNat v2) default)) (F125 a0.1 (a1.getD (Int.toNat v2) default))))) true, .eq true true, .pr (0 ≤ (2 : Int) ∧ (2 : Int) < ((3 : Nat) : Int)), .pr (0 ≤ (v2 : Int) ∧ (v2 : Int) < ((a1.length : Nat) : Int)), .pr (((((flat c23 a1)).drop (0 + Int.toNat v2 * 3)).take 3) = (k3 (a1.getD (Int.toNat v2) default))), .call 125 [(.a (k3 a0.2.2)), (.a (k3 (a1.getD (Int.toNat v2) default)))] [] (.a (k3 (F125 a0.2.2 (a1.getD (Int.toNat v2) default)))) [], .call 115 [(.a (k3 (F125 a0.2.2 (a1.getD (Int.toNat v2) default)))), (.a (k3 (F125 a0.2.2 (a1.getD (Int.toNat v2) default))))] [] (iv (F115 (F125 a0.2.2 (a1.getD (Int.toNat v2) default)) (F125 a0.2.2 (a1.getD (Int.toNat v2) default)))) [], .eq (decide (((F115 (F125 a0.2.2 (a1.getD (Int.toNat v2) default)) (F125 a0.2.2 (a1.getD (Int.toNat v2) default))) : Int) > (F115 (F125 a0.2.1 (a1.getD (Int.toNat v2) default)) (F125 a0.2.1 (a1.getD (Int.toNat v2) default))))) false, .eq false false]) (by kernel_rfl) ⟨h0, rfl, (show 0 ≤ (0 : Int) ∧ (0 : Int) < ((3 : Nat) : Int) from by decide), (show 0 ≤ (v2 : Int) ∧ (v2 : Int) < ((a1.length : Nat) : Int) from by first | omega | (rw [W_eq] <;> omega) | exact u64_nn _), (ld_part c23_len default a1 v2 0 3 (by omega) (by decide) (by omega) rfl), (C125 a0.1 (a1.getD (Int.toNat v2) default)), (C115 (F125 a0.1 (a1.getD (Int.toNat v2) default)) (F125 a0.1 (a1.getD (Int.toNat v2) default))), h1, rfl, (show 0 ≤ (1 : Int) ∧ (1 : Int) < ((3 : Nat) : Int) from by decide), (show 0 ≤ (v2 : Int) ∧ (v2 : Int) < ((a1.length : Nat) : Int) from by first | omega | (rw [W_eq] <;> omega) | exact u64_nn _), (ld_part c23_len default a1 v2 0 3 (by omega) (by decide) (by omega) rfl), (C125 a0.2.1 (a1.getD (Int.toNat v2) default)), (C115 (F125 a0.2.1 (a1.getD (Int.toNat v2) default)) (F125 a0.2.1 (a1.getD (Int.toNat v2) default))), h2, rfl, (show 0 ≤ (2 : Int) ∧ (2 : Int) < ((3 : Nat) : Int) from by decide), (show 0 ≤ (v2 : Int) ∧ (v2 : Int) < ((a1.length : Nat) : Int) from by first | omega | (rw [W_eq] <;> omega) | exact u64_nn _), (ld_part c23_len default a1 v2 0 3 (by omega) (by decide) (by omega) rfl), (C125 a0.2.2 (a1.getD (Int.toNat v2) default)), (C115 (F125 a0.2.2 (a1.getD (Int.toNat v2) default)) (F125 a0.2.2 (a1.getD (Int.toNat v2) default))), h3, rfl, trivial⟩ ?_
            have z0 : (W (v2 + 1)) = (v2 + 1) := W_eq (by omega) (by omega)
            rw [z0]
            exact ih (F115 (F125 a0.2.1 (a1.getD (Int.toNat v2) default)) (F125 a0.2.1 (a1.getD (Int.toNat v2) default))) (v2 + 1) (by (try simp only [List.length_append, List.length_cons, List.length_nil, Int.toNat_zero]); omega) (by (try simp only [List.length_append, List.length_cons, List.length_nil, Int.toNat_zero]); omega)
        | false =>
          cases h3 : (decide (((F115 (F125 a0.2.2 (a1.getD (Int.toNat v2) default)) (F125 a0.2.2 (a1.getD (Int.toNat v2) default))) : Int) > (F115 (F125 a0.1 (a1.getD (Int.toNat v2) default)) (F125 a0.1 (a1.getD (Int.toNat v2) default))))) with
          | true =>
            have q0 := of_decide_eq_true h0
            have q1 := of_decide_eq_true h1
            have q2 := of_decide_eq_false h2
            have q3 := of_decide_eq_true h3
            have e : S97_L_0 a0 a1 (v1, v2) = (.inl ((F115 (F125 a0.2.2 (a1.getD (Int.toNat v2) default)) (F125 a0.2.2 (a1.getD (Int.toNat v2) default))), (v2 + 1))) := by simp only [S97_L_0, h0, h1, h2, h3, cond_true, cond_false]
            rw [loopF_inl e]
            refine back_of (T := T0) hT hm (f := 5000) (orc := [.d true, .un 200, .d true, .ld (k3 (a1.getD (Int.toNat v2) default)), .call [] (.a (k3 (F125 a0.1 (a1.getD (Int.toNat v2) default)))) [], .call [] (iv (F115 (F125 a0.1 (a1.getD (Int.toNat v2) default)) (F125 a0.1 (a1.getD (Int.toNat v2) default)))) [], .d true, .un 0, .d true, .ld (k3 (a1.getD (Int.toNat v2) default)), .call [] (.a (k3 (F125 a0.2.1 (a1.getD (Int.toNat v2) default)))) [], .call [] (iv (F115 (F125 a0.2.1 (a1.getD (Int.toNat v2) default)) (F125 a0.2.1 (a1.getD (Int.toNat v2) default)))) [], .d false, .un 0, .d true, .ld (k3 (a1.getD (Int.toNat v2) default)), .call [] (.a (k3 (F125 a0.2.2 (a1.getD (Int.toNat v2) default)))) [], .call [] (iv (F115 (F125 a0.2.2 (a1.getD (Int.toNat v2) default)) (F125 a0.2.2 (a1.getD (Int.toNat v2) default)))) [], .d true, .un 0, .d false]) [] [1, 2, 5, 6] [1] hcx (body := B97_L_0) (m := n) (k' := K97_L_0) (s' := ⟨[.u, (.s 0 0 a1.length 3), (.p 1 0), .u, .u, (iv (F115 (F125 a0.2.2 (a1.getD (Int.toNat v2) default)) (F125 a0.2.2 (a1.getD (Int.toNat v2) default)))), (iv (W (v2 + 1))), .u, .u, .u, .u, .u, .u, .u, .u, .u, .u, .u, .u, .u, .u, .u, .u, .u, .u, .u, .u, .u, .u, .u, .u, .u, .u, .u, .u, .u, .u, .u, .u, .u, .u, .u, .u, .u], [(.live false true (flat c23 a1)), (.live true false (k9 a0))]⟩)
              (obs := [.eq (decide ((v2 : Int) < ((a1.length : Nat) : Int))) true, .eq true true, .pr (0 ≤ (0 : Int) ∧ (0 : Int) < ((3 : Nat) : Int)), .pr (0 ≤ (v2 : Int) ∧ (v2 : Int) < ((a1.length : Nat) : Int)), .pr (((((flat c23 a1)).drop (0 + Int.toNat v2 * 3)).take 3) = (k3 (a1.getD (Int.toNat v2) default))), .call 125 [(.a (k3 a0.1)), (.a (k3 (a1.getD (Int.toNat v2) default)))] [] (.a (k3 (F125 a0.1 (a1.getD (Int.toNat v2) default)))) [], .call 115 [(.a (k3 (F125 a0.1 (a1.getD (Int.toNat v2) default)))), (.a (k3 (F125 a0.1 (a1.getD (Int.toNat v2) default))))] [] (iv (F115 (F125 a0.1 (a1.getD (Int.toNat v2) default)) (F125 a0.1 (a1.getD (Int.toNat v2) default)))) [], .eq (decide (((F115 (F125 a0.1 (a1.getD (Int.toNat v2) default)) (F125 a0.1 (a1.getD (Int.toNat v2) default))) : Int) > v1)) true, .eq true true, .pr (0 ≤ (1 : Int) ∧ (1 : Int) < ((3 : Nat) : Int)), .pr (0 ≤ (v2 : Int) ∧ (v2 : Int) < ((a1.length : Nat) : Int)), .pr (((((flat c23 a1)).drop (0 + Int.toNat v2 * 3)).take 3) = (k3 (a1.getD (Int.toNat v2) default))), .call 125 [(.a (k3 a0.2.1)), (.a (k3 (a1.getD (Int.toNat v2) default)))] [] (.a (k3 (F125 a0.2.1 (a1.getD (Int.toNat v2) default)))) [], .call 115 [(.a (k3 (F125 a0.2.1 (a1.getD (Int.toNat v2) default)))), (.a (k3 (F125 a0.2.1 (a1.getD (Int.toNat v2) default))))] [] (iv (F115 (F125 a0.2.1 (a1.getD (Int.toNat v2) default)) (F125 a0.2.1 (a1.getD (Int.toNat v2) default)))) [], .eq (decide (((F115 (F125 a0.2.1 (a1.getD (Int.toNat v2) default)) (F125 a0.2.1 (a1.getD (Int.toNat v2) default))) : Int) > (F115 (F125 a0.1 (a1.getD (Int.toNat v2) default)) (F125 a0.1 (a1.getD (Int.toNat v2) default))))) false, .eq true true, .pr (0 ≤ (2 : Int) ∧ (2 : Int) < ((3 : Nat) : Int)), .pr (0 ≤ (v2 : Int) ∧ (v2 : Int) < ((a1.length : Nat) : Int)), .pr (((((flat c23 a1)).drop (0 + Int.toNat v2 * 3)).take 3) = (k3 (a1.getD (Int.toNat v2) default))), .call 125 [(.a (k3 a0.2.2)), (.a (k3 (a1.getD (Int.toNat v2) default)))] [] (.a (k3 (F125 a0.2.2 (a1.getD (Int.toNat v2) default)))) [], .call 115 [(.a (k3 (F125 a0.2.2 (a1.getD (Int.toNat v2) default)))), (.a (k3 (F125 a0.2.2 (a1.getD (Int.toNat v2) default))))] [] (iv (F115 (F125 a0.2.2 (a1.getD (Int.toNat v2) default)) (F125 a0.2.2 (a1.getD (Int.toNat v2) default)))) [], .eq (decide (((F115 (F125 a0.2.2 (a1.getD (Int.toNat v2) default)) (F125 a0.2.2 (a1.getD (Int.toNat v2) default))) : Int) > (F115 (F125 a0.1 (a1.getD (Int.toNat v2) default)) (F125 a0.1 (a1.getD (Int.toNat v2) default))))) true, .eq false false]) (by kernel_rfl) ⟨h0, rfl, (show 0 ≤ (0 : Int) ∧ (0 : Int) < ((3 : Nat) : Int) from by decide), (show 0 ≤ (v2 : Int) ∧ (v2 : Int) < ((a1.length : Nat) : Int) from by first | omega | (rw [W_eq] <;> omega) | exact u64_nn _), (ld_part c23_len default a1 v2 0 3 (by omega) (by decide) (by omega) rfl), (C125 a0.1 (a1.getD (Int.toNat v2) default)), (C115 (F125 a0.1 (a1.getD (Int.toNat v2) default)) (F125 a0.1 (a1.getD (Int.toNat v2) default))), h1, rfl, (show 0 ≤ (1 : Int) ∧ (1 : Int) < ((3 : Nat) : Int) from by decide), (show 0 ≤ (v2 : Int) ∧ (v2 : Int) < ((a1.length : Nat) : Int) from by first | omega | (rw [W_eq] <;> omega) | exact u64_nn _), (ld_part c23_len default a1 v2 0 3 (by omega) (by decide) (by omega) rfl), (C125 a0.2.1 (a1.getD (Int.toNat v2) default)), (C115 (F125 a0.2.1 (a1.getD (Int.toNat v2) default)) (F125 a0.2.1 (a1.getD (Int.toNat v2) default))), h2, rfl, (show 0 ≤ (2 : Int) ∧ (2 : Int) < ((3 : Nat) : Int) from by decide), (show 0 ≤ (v2 : Int) ∧ (v2 : Int) < ((a1.length : Nat) : Int) from by first | omega | (rw [W_eq] <;> omega) | exact u64_nn _), (ld_part c23_len default a1 v2 0 3 (by omega) (by decide) (by omega) rfl), (C125 a0.2.2 (a1.getD (Int.toNat v2) default)), (C115 (F125 a0.2.2 (a1.getD (Int.toNat v2) default)) (F125 a0.2.2 (a1.getD (Int.toNat v2) default))), h3, rfl, trivial⟩ ?_
            have z0 : (W (v2 + 1)) = (v2 + 1) := W_eq (by omega) (by omega)
            rw [z0]
            exact ih (F115 (F125 a0.2.2 (a1.getD (Int.toNat v2) default)) (F125 a0.2.2 (a1.getD (Int.toNat v2) default))) (v2 + 1) (by (try simp only [List.length_append, List.length_cons, List.length_nil, Int.toNat_zero]); omega) (by (try simp only [List.length_append, List.length_cons, List.length_nil, Int.toNat_zero]); omega)
          | false =>
            have q0 := of_decide_eq_true h0
            have q1 := of_decide_eq_true h1
            have q2 := of_decide_eq_false h2
            have q3 := of_decide_eq_false h3
            have e : S97_L_0 a0 a1 (v1, v2) = (.inl ((F115 (F125 a0.1 (a1.getD (Int.toNat v2) default)) (F125 a0.1 (a1.getD (Int.toNat v2) default))), (v2 + 1))) := by simp only [S97_L_0, h0, h1, h2, h3, cond_true, cond_false]
            rw [loopF_inl e]
            refine back_of (T := T0) hT hm (f := 5000) (orc := [.d true, .un 200, .d true, .ld (k3 (a1.getD (Int.toNat v2) default)), .call [] (.a (k3 (F125 a0.1 (a1.getD (Int.toNat v2) default)))) [], .call [] (iv (F115 (F125 a0.1 (a1.getD (Int.toNat v2) default)) (F125 a0.1 (a1.getD (Int.toNat v2) default)))) [], .d true, .un 0, .d true, .ld (k3 (a1.getD (Int.toNat v2) default)), .call [] (.a (k3 (F125 a0.2.1 (a1.getD (Int.toNat v2) default)))) [], .call [] (iv (F115 (F125 a0.2.1 (a1.getD (Int.toNat v2) default)) (F125 a0.2.1 (a1.getD (Int.toNat v2) default)))) [], .d false, .un 0, .d true, .ld (k3 (a1.getD (Int.toNat v2) default)), .call [] (.a (k3 (F125 a0.2.2 (a1.getD (Int.toNat v2) default)))) [], .call [] (iv (F115 (F125 a0.2.2 (a1.getD (Int.toNat v2) default)) (F125 a0.2.2 (a1.getD (Int.toNat v2) default)))) [], .d false, .un 0, .d false]) [] [1, 2, 5, 6] [1] hcx (body := B97_L_0) (m := n) (k' := K97_L_0) (s' := ⟨[.u, (.s 0 0 a1.length 3), (.p 1 0), .u, .u, (iv (F115 (F125 a0.1 (a1.getD (Int.toNat v2) default)) (F125 a0.1 (a1.getD (Int.toNat v2) default)))), (iv (W (v2 + 1))), .u, .u, .u, .u, .u, .u, .u, .u, .u, .u, .u, .u, .u, .u, .u, .u, .u, .u, .u, .u, .u, .u, .u, .u, .u, .u, .u, .u, .u, .u, .u, .u, .u, .u, .u, .u, .u], [(.live false true (flat c23 a1)), (.live true false (k9 a0))]⟩)
              (obs := [.eq (decide ((v2 : Int) < ((a1.length : Nat) : Int))) true, .eq true true, .pr (0 ≤ (0 : Int) ∧ (0 : Int) < ((3 : Nat) : Int)), .pr (0 ≤ (v2 : Int) ∧ (v2 : Int) < ((a1.length : Nat) : Int)), .pr (((((flat c23 a1)).drop (0 + Int.toNat v2 * 3)).take 3) = (k3 (a1.getD (Int.toNat v2) default))), .call 125 [(.a (k3 a0.1)), (.a (k3 (a1.getD (Int.toNat v2) default)))] [] (.a (k3 (F125 a0.1 (a1.getD (Int.toNat v2) default)))) [], .call 115 [(.a (k3 (F125 a0.1 (a1.getD (Int.toNat v2) default)))), (.a (k3 (F125 a0.1 (a1.getD (Int.toNat v2) default))))] [] (iv (F115 (F125 a0.1 (a1.getD (Int.toNat v2) default)) (F125 a0.1 (a1.getD (Int.toNat v2) default)))) [], .eq (decide (((F115 (F125 a0.1 (a1.getD (Int.toNat v2) default)) (F125 a0.1 (a1.getD (Int.toNat v2) default))) : Int) > v1)) true, .eq true true, .pr (0 ≤ (1 : Int) ∧ (1 : Int) < ((3 : Nat) : Int)), .pr (0 ≤ (v2 : Int) ∧ (v2 : Int) < ((a1.length : Nat) : Int)), .pr (((((flat c23 a1)).drop (0 + Int.toNat v2 * 3)).take 3) = (k3 (a1.getD (Int.toNat v2) default))), .call 125 [(.a (k3 a0.2.1)), (.a (k3 (a1.getD (Int.toNat v2) default)))] [] (.a (k3 (F125 a0.2.1 (a1.getD (Int.toNat v2) default)))) [], .call 115 [(.a (k3 (F125 a0.2.1 (a1.getD (Int.toNat v2) default)))), (.a (k3 (F125 a0.2.1 (a1.getD (Int.toNat v2) default))))] [] (iv (F115 (F125 a0.2.1 (a1.getD (Int.toNat v2) default)) (F125 a0.2.1 (a1.getD (Int.toNat v2) default)))) [], .eq (decide (((F115 (F125 a0.2.1 (a1.getD (Int.toNat v2) default)) (F125 a0.2.1 (a1.getD (Int.toNat v2) default))) : Int) > (F115 (F125 a0.1 (a1.getD (Int.toNat v2) default)) (F125 a0.1 (a1.getD (Int.toNat v2) default))))) false, .eq true true, .pr (0 ≤ (2 : Int) ∧ (2 : Int) < ((3 : Nat) : Int)), .pr (0 ≤ (v2 : Int) ∧ (v2 : Int) < ((a1.length : Nat) : Int)), .pr (((((flat c23 a1)).drop (0 + Int.toNat v2 * 3)).take 3) = (k3 (a1.getD (Int.toNat v2) default))), .call 125 [(.a (k3 a0.2.2)), (.a (k3 (a1.getD (Int.toNat v2) default)))] [] (.a (k3 (F125 a0.2.2 (a1.getD (Int.toNat v2) default)))) [], .call 115 [(.a (k3 (F125 a0.2.2 (a1.getD (Int.toNat v2) default)))), (.a (k3 (F125 a0.2.2 (a1.getD (Int.toNat v2) default))))] [] (iv (F115 (F125 a0.2.2 (a1.getD (Int.toNat v2) default)) (F125 a0.2.2 (a1.getD (Int.toNat v2) default)))) [], .eq (decide (((F115 (F125 a0.2.2 (a1.getD (Int.toNat v2) default)) (F125 a0.2.2 (a1.getD (Int.toNat v2) default))) : Int) > (F115 (F125 a0.1 (a1.getD (Int.toNat v2) default)) (F125 a0.1 (a1.getD (Int.toNat v2) default))))) false, .eq false false]) (by kernel_rfl) ⟨h0, rfl, (show 0 ≤ (0 : Int) ∧ (0 : Int) < ((3 : Nat) : Int) from by decide), (show 0 ≤ (v2 : Int) ∧ (v2 : Int) < ((a1.length : Nat) : Int) from by first | omega | (rw [W_eq] <;> omega) | exact u64_nn _), (ld_part c23_len default a1 v2 0 3 (by omega) (by decide) (by omega) rfl), (C125 a0.1 (a1.getD (Int.toNat v2) default)), (C115 (F125 a0.1 (a1.getD (Int.toNat v2) default)) (F125 a0.1 (a1.getD (Int.toNat v2) default))), h1, rfl, (show 0 ≤ (1 : Int) ∧ (1 : Int) < ((3 : Nat) : Int) from by decide), (show 0 ≤ (v2 : Int) ∧ (v2 : Int) < ((a1.length : Nat) : Int) from by first | omega | (rw [W_eq] <;> omega) | exact u64_nn _), (ld_part c23_len default a1 v2 0 3 (by omega) (by decide) (by omega) rfl), (C125 a0.2.1 (a1.getD (Int.toNat v2) default)), (C115 (F125 a0.2.1 (a1.getD (Int.toNat v2) default)) (F125 a0.2.1 (a1.getD (Int.toNat v2) default))), h2, rfl, (show 0 ≤ (2 : Int) ∧ (2 : Int) < ((3 : Nat) : Int) from by decide), (show 0 ≤ (v2 : Int) ∧ (v2 : Int) < ((a1.length : Nat) : Int) from by first | omega | (rw [W_eq] <;> omega) | exact u64_nn _), (ld_part c23_len default a1 v2 0 3 (by omega) (by decide) (by omega) rfl), (C125 a0.2.2 (a1.getD (Int.toNat v2) default)), (C115 (F125 a0.2.2 (a1.getD (Int.toNat v2) default)) (F125 a0.2.2 (a1.getD (Int.toNat v2) default))), h3, rfl, trivial⟩ ?_
            have z0 : (W (v2 + 1)) = (v2 + 1) := W_eq (by omega) (by omega)
            rw [z0]
            exact ih (F115 (F125 a0.1 (a1.getD (Int.toNat v2) default)) (F125 a0.1 (a1.getD (Int.toNat v2) default))) (v2 + 1) (by (try simp only [List.length_append, List.length_cons, List.length_nil, Int.toNat_zero]); omega) (by (try simp only [List.length_append, List.length_cons, List.length_nil, Int.toNat_zero]); omega)
      | false =>
        cases h2 : (decide (((F115 (F125 a0.2.1 (a1.getD (Int.toNat v2) default)) (F125 a0.2.1 (a1.getD (Int.toNat v2) default))) : Int) > v1)) with
        | true =>
          cases h3 : (decide (((F115 (F125 a0.2.2 (a1.getD (Int.toNat v2) default)) (F125 a0.2.2 (a1.getD (Int.toNat v2) default))) : Int) > (F115 (F125 a0.2.1 (a1.getD (Int.toNat v2) default)) (F125 a0.2.1 (a1.getD (Int.toNat v2) default))))) with
          | true =>
            have q0 := of_decide_eq_true h0
            have q1 := of_decide_eq_false h1
            have q2 := of_decide_eq_true h2
            have q3 := of_decide_eq_true h3
            have e : S97_L_0 a0 a1 (v1, v2) = (.inl ((F115 (F125 a0.2.2 (a1.getD (Int.toNat v2) default)) (F125 a0.2.2 (a1.getD (Int.toNat v2) default))), (v2 + 1))) := by simp only [S97_L_0, h0, h1, h2, h3, cond_true, cond_false]
            rw [loopF_inl e]
            refine back_of (T := T0) hT hm (f := 5000) (orc := [.d true, .un 200, .d true, .ld (k3 (a1.getD (Int.toNat v2) default)), .call [] (.a (k3 (F125 a0.1 (a1.getD (Int.toNat v2) default)))) [], .call [] (iv (F115 (F125 a0.1 (a1.getD (Int.toNat v2) default)) (F125 a0.1 (a1.getD (Int.toNat v2) default)))) [], .d false, .un 0, .d true, .ld (k3 (a1.getD (Int.toNat v2) default)), .call [] (.a (k3 (F125 a0.2.1 (a1.getD (Int.toNat v2) default)))) [], .call [] (iv (F115 (F125 a0.2.1 (a1.getD (Int.toNat v2) default)) (F125 a0.2.1 (a1.getD (Int.toNat v2) default)))) [], .d true, .un 0, .d true, .ld (k3 (a1.getD (Int.toNat v2) default)), .call [] (.a (k3 (F125 a0.2.2 (a1.getD (Int.toNat v2) default)))) [], .call [] (iv (F115 (F125 a0.2.2 (a1.getD (Int.toNat v2) default)) (F125 a0.2.2 (a1.getD (Int.toNat v2) default)))) [], .d true, .un 0, .d false]) [] [1, 2, 5, 6] [1] hcx (body := B97_L_0) (m := n) (k' := K97_L_0) (s' := ⟨[.u, (.s 0 0 a1.length 3), (.p 1 0), .u, .u, (iv (F115 (F125 a0.2.2 (a1.getD (Int.toNat v2) default)) (F125 a0.2.2 (a1.getD (Int.toNat v2) default)))), (iv (W (v2 + 1))), .u, .u, .u, .u, .u, .u, .u, .u, .u, .u, .u, .u, .u, .u, .u, .u, .u, .u, .u, .u, .u, .u, .u, .u, .u, .u, .u, .u, .u, .u, .u, .u, .u, .u, .u, .u, .u], [(.live false true (flat c23 a1)), (.live true false (k9 a0))]⟩)
              (obs := [.eq (decide ((v2 : Int) < ((a1.length : Nat) : Int))) true, .eq true true, .pr (0 ≤ (0 : Int) ∧ (0 : Int) < ((3 : Nat) : Int)), .pr (0 ≤ (v2 : Int) ∧ (v2 : Int) < ((a1.length : Nat) : Int)), .pr (((((flat c23 a1)).drop (0 + Int.toNat v2 * 3)).take 3) = (k3 (a1.getD (Int.toNat v2) default))), .call 125 [(.a (k3 a0.1)), (.a (k3 (a1.getD (Int.toNat v2) default)))] [] (.a (k3 (F125 a0.1 (a1.getD (Int.toNat v2) default)))) [], .call 115 [(.a (k3 (F125 a0.1 (a1.getD (Int.toNat v2) default)))), (.a (k3 (F125 a0.1 (a1.getD (Int.toNat v2) default))))] [] (iv (F115 (F125 a0.1 (a1.getD (Int.toNat v2) default)) (F125 a0.1 (a1.getD (Int.toNat v2) default)))) [], .eq (decide (((F115 (F125 a0.1 (a1.getD (Int.toNat v2) default)) (F125 a0.1 (a1.getD (Int.toNat v2) default))) : Int) > v1)) false, .eq true true, .pr (0 ≤ (1 : Int) ∧ (1 : Int) < ((3 : Nat) : Int)), .pr (0 ≤ (v2 : Int) ∧ (v2 : Int) < ((a1.length : Nat) : Int)), .pr (((((flat c23 a1)).drop (0 + Int.toNat v2 * 3)).take 3) = (k3 (a1.getD (Int.toNat v2) default))), .call 125 [(.a (k3 a0.2.1)), (.a (k3 (a1.getD (Int.toNat v2) default)))] [] (.a (k3 (F125 a0.2.1 (a1.getD (Int.toNat v2) default)))) [], .call 115 [(.a (k3 (F125 a0.2.1 (a1.getD (Int.toNat v2) default)))), (.a (k3 (F125 a0.2.1 (a1.getD (Int.toNat v2) default))))] [] (iv (F115 (F125 a0.2.1 (a1.getD (Int.toNat v2) default)) (F125 a0.2.1 (a1.getD (Int.toNat v2) default)))) [], .eq (decide (((F115 (F125 a0.2.1 (a1.getD (Int.toNat v2) default)) (F125 a0.2.1 (a1.getD (Int.toNat v2) default))) : Int) > v1)) true, .eq true true, .pr (0 ≤ (2 : Int) ∧ (2 : Int) < ((3 : Nat) : Int)), .pr (0 ≤ (v2 : Int) ∧ (v2 : Int) < ((a1.length : Nat) : Int)), .pr (((((flat c23 a1)).drop (0 + Int.toNat v2 * 3)).take 3) = (k3 (a1.getD (Int.toNat v2) default))), .call 125 [(.a (k3 a0.2.2)), (.a (k3 (a1.getD (Int.toNat v2) default)))] [] (.a (k3 (F125 a0.2.2 (a1.getD (Int.toNat v2) default)))) [], .call 115 [(.a (k3 (F125 a0.2.2 (a1.getD (Int.toNat v2) default)))), (.a (k3 (F125 a0.2.2 (a1.getD (Int.toNat v2) default))))] [] (iv (F115 (F125 a0.2.2 (a1.getD (Int.toNat v2) default)) (F125 a0.2.2 (a1.getD (Int.toNat v2) default)))) [], .eq (decide (((F115 (F125 a0.2.2 (a1.getD (Int.toNat v2) default)) (F125 a0.2.2 (a1.getD (Int.toNat v2) default))) : Int) > (F115 (F125 a0.2.1 (a1.getD (Int.toNat v2) default)) (F125 a0.2.1 (a1.getD (Int.toNat v2) default))))) true, .eq false false]) (by kernel_rfl) ⟨h0, rfl, (show 0 ≤ (0 : Int) ∧ (0 : Int) < ((3 : Nat) : Int) from by decide), (show 0 ≤ (v2 : Int) ∧ (v2 : Int) < ((a1.length : Nat) : Int) from by first | omega | (rw [W_eq] <;> omega) | exact u64_nn _), (ld_part c23_len default a1 v2 0 3 (by omega) (by decide) (by omega) rfl), (C125 a0.1 (a1.getD (Int.toNat v2) default)), (C115 (F125 a0.1 (a1.getD (Int.toNat v2) default)) (F125 a0.1 (a1.getD (Int.toNat v2) default))), h1, rfl, (show 0 ≤ (1 : Int) ∧ (1 : Int) < ((3 : Nat) : Int) from by decide), (show 0 ≤ (v2 : Int) ∧ (v2 : Int) < ((a1.length : Nat) : Int) from by first | omega | (rw [W_eq] <;> omega) | exact u64_nn _), (ld_part c23_len default a1 v2 0 3 (by omega) (by decide) (by omega) rfl), (C125 a0.2.1 (a1.getD (Int.toNat v2) default)), (C115 (F125 a0.2.1 (a1.getD (Int.toNat v2) default)) (F125 a0.2.1 (a1.getD (Int.toNat v2) default))), h2, rfl, (show 0 ≤ (2 : Int) ∧ (2 : Int) < ((3 : Nat) : Int) from by decide), (show 0 ≤ (v2 : Int) ∧ (v2 : Int) < ((a1.length : Nat) : Int) from by first | omega | (rw [W_eq] <;> omega) | exact u64_nn _), (ld_part c23_len default a1 v2 0 3 (by omega) (by decide) (by omega) rfl), (C125 a0.2.2 (a1.getD (Int.toNat v2) default)), (C115 (F125 a0.2.2 (a1.getD (Int.toNat v2) default)) (F125 a0.2.2 (a1.getD (Int.toNat v2) default))), h3, rfl, trivial⟩ ?_
            have z0 : (W (v2 + 1)) = (v2 + 1) := W_eq (by omega) (by omega)
            rw [z0]
            exact ih (F115 (F125 a0.2.2 (a1.getD (Int.toNat v2) default)) (F125 a0.2.2 (a1.getD (Int.toNat v2) default))) (v2 + 1) (by (try simp only [List.length_append, List.length_cons, List.length_nil, Int.toNat_zero]); omega) (by (try simp only [List.length_append, List.length_cons, List.length_nil, Int.toNat_zero]); omega)
          | false =>
            have q0 := of_decide_eq_true h0
            have q1 := of_decide_eq_false h1
            have q2 := of_decide_eq_true h2
            have q3 := of_decide_eq_false h3
            have e : S97_L_0 a0 a1 (v1, v2) = (.inl ((F115 (F125 a0.2.1 (a1.getD (Int.toNat v2) default)) (F125 a0.2.1 (a1.getD (Int.toNat v2) default))), (v2 + 1))) := by simp only [S97_L_0, h0, h1, h2, h3, cond_true, cond_false]
            rw [loopF_inl e]
            refine back_of (T := T0) hT hm (f := 5000) (orc := [.d true, .un 200, .d true, .ld (k3 (a1.getD (Int.toNat v2) default)), .call [] (.a (k3 (F125 a0.1 (a1.getD (Int.toNat v2) default)))) [], .call [] (iv (F115 (F125 a0.1 (a1.getD (Int.toNat v2) default)) (F125 a0.1 (a1.getD (Int.toNat v2) default)))) [], .d false, .un 0, .d true, .ld (k3 (a1.getD (Int.toNat v2) default)), .call [] (.a (k3 (F125 a0.2.1 (a1.getD (Int.toNat v2) default)))) [], .call [] (iv (F115 (F125 a0.2.1 (a1.getD (Int.toNat v2) default)) (F125 a0.2.1 (a1.getD (Int.toNat v2) default)))) [], .d true, .un 0, .d true, .ld (k3 (a1.getD (Int.toNat v2) default)), .call [] (.a (k3 (F125 a0.2.2 (a1.getD (Int.toNat v2) default)))) [], .call [] (iv (F115 (F125 a0.2.2 (a1.getD (Int.toNat v2) default)) (F125 a0.2.2 (a1.getD (Int.toNat v2) default)))) [], .d false, .un 0, .d false]) [] [1, 2, 5, 6] [1] hcx (body := B97_L_0) (m := n) (k' := K97_L_0) (s' := ⟨[.u, (.s 0 0 a1.length 3), (.p 1 0), .u, .u, (iv (F115 (F125 a0.2.1 (a1.getD (Int.toNat v2) default)) (F125 a0.2.1 (a1.getD (Int.toNat v2) default)))), (iv (W (v2 + 1))), .u, .u, .u, .u, .u, .u, .u, .u, .u, .u, .u, .u, .u, .u, .u, .u, .u, .u, .u, .u, .u, .u, .u, .u, .u, .u, .u, .u, .u, .u, .u, .u, .u, .u, .u, .u, .u], [(.live false true (flat c23 a1)), (.live true false (k9 a0))]⟩)
              (obs := [.eq (decide ((v2 : Int) < ((a1.length : Nat) : Int))) true, .eq true true, .pr (0 ≤ (0 : Int) ∧ (0 : Int) < ((3 : Nat) : Int)), .pr (0 ≤ (v2 : Int) ∧ (v2 : Int) < ((a1.length : Nat) : Int)), .pr (((((flat c23 a1)).drop (0 + Int.toNat v2 * 3)).take 3) = (k3 (a1.getD (Int.toNat v2) default))), .call 125 [(.a (k3 a0.1)), (.a (k3 (a1.getD (Int.toNat v2) default)))] [] (.a (k3 (F125 a0.1 (a1.getD (Int.toNat v2) default)))) [], .call 115 [(.a (k3 (F125 a0.1 (a1.getD (Int.toNat v2) default)))), (.a (k3 (F125 a0.1 (a1.getD (Int.toNat v2) default))))] [] (iv (F115 (F125 a0.1 (a1.getD (Int.toNat v2) default)) (F125 a0.1 (a1.getD (Int.toNat v2) default)))) [], .eq (decide (((F115 (F125 a0.1 (a1.getD (Int.toNat v2) default)) (F125 a0.1 (a1.getD (Int.toNat v2) default))) : Int) > v1)) false, .eq true true, .pr (0 ≤ (1 : Int) ∧ (1 : Int) < ((3 : Nat) : Int)), .pr (0 ≤ (v2 : Int) ∧ (v2 : Int) < ((a1.length : Nat) : Int)), .pr (((((flat c23 a1)).drop (0 + Int.toNat v2 * 3)).take 3) = (k3 (a1.getD (Int.toNat v2) default))), .call 125 [(.a (k3 a0.2.1)), (.a (k3 (a1.getD (Int.toNat v2) default)))] [] (.a (k3 (F125 a0.2.1 (a1.getD (Int.toNat v2) default)))) [], .call 115 [(.a (k3 (F125 a0.2.1 (a1.getD (Int.toNat v2) default)))), (.a (k3 (F125 a0.2.1 (a1.getD (Int.toNat v2) default))))] [] (iv (F115 (F125 a0.2.1 (a1.getD (Int.toNat v2) default)) (F125 a0.2.1 (a1.getD (Int.toNat v2) default)))) [], .eq (decide (((F115 (F125 a0.2.1 (a1.getD (Int.toNat v2) default)) (F125 a0.2.1 (a1.getD (Int.toNat v2) default))) : Int) > v1)) true, .eq true true, .pr (0 ≤ (2 : Int) ∧ (2 : Int) < ((3 : Nat) : Int)), .pr (0 ≤ (v2 : Int) ∧ (v2 : Int) < ((a1.length : Nat) : Int)), .pr (((((flat c23 a1)).drop (0 + Int.toNat v2 * 3)).take 3) = (k3 (a1.getD (Int.toNat v2) default))), .call 125 [(.a (k3 a0.2.2)), (.a (k3 (a1.getD (Int.toNat v2) default)))] [] (.a (k3 (F125 a0.2.2 (a1.getD (Int.toNat v2) default)))) [], .call 115 [(.a (k3 (F125 a0.2.2 (a1.getD (Int.toNat v2) default)))), (.a (k3 (F125 a0.2.2 (a1.getD (Int.toNat v2) default))))] [] (iv (F115 (F125 a0.2.2 (a1.getD (Int.toNat v2) default)) (F125 a0.2.2 (a1.getD (Int.toNat v2) default)))) [], .eq (decide (((F115 (F125 a0.2.2 (a1.getD (Int.toNat v2) default)) (F125 a0.2.2 (a1.getD (Int.toNat v2) default))) : Int) > (F115 (F125 a0.2.1 (a1.getD (Int.toNat v2) default)) (F125 a0.2.1 (a1.getD (Int.toNat v2) default))))) false, .eq false false]) (by kernel_rfl) ⟨h0, rfl, (show 0 ≤ (0 : Int) ∧ (0 : Int) < ((3 : Nat) : Int) from by decide), (show 0 ≤ (v2 : Int) ∧ (v2 : Int) < ((a1.length : Nat) : Int) from by first | omega | (rw [W_eq] <;> omega) | exact u64_nn _), (ld_part c23_len default a1 v2 0 3 (by omega) (by decide) (by omega) rfl), (C125 a0.1 (a1.getD (Int.toNat v2) default)), (C115 (F125 a0.1 (a1.getD (Int.toNat v2) default)) (F125 a0.1 (a1.getD (Int.toNat v2) default))), h1, rfl, (show 0 ≤ (1 : Int) ∧ (1 : Int) < ((3 : Nat) : Int) from by decide), (show 0 ≤ (v2 : Int) ∧ (v2 : Int) < ((a1.length : Nat) : Int) from by first | omega | (rw [W_eq] <;> omega) | exact u64_nn _), (ld_part c23_len default a1 v2 0 3 (by omega) (by decide) (by omega) rfl), (C125 a0.2.1 (a1.getD (Int.toNat v2) default)), (C115 (F125 a0.2.1 (a1.getD (Int.toNat v2) default)) (F125 a0.2.1 (a1.getD (Int.toNat v2) default))), h2, rfl, (show 0 ≤ (2 : Int) ∧ (2 : Int) < ((3 : Nat) : Int) from by decide), (show 0 ≤ (v2 : Int) ∧ (v2 : Int) < ((a1.length : Nat) : Int) from by first | omega | (rw [W_eq] <;> omega) | exact u64_nn _), (ld_part c23_len default a1 v2 0 3 (by omega) (by decide) (by omega) rfl), (C125 a0.2.2 (a1.getD (Int.toNat v2) default)), (C115 (F125 a0.2.2 (a1.getD (Int.toNat v2) default)) (F125 a0.2.2 (a1.getD (Int.toNat v2) default))), h3, rfl, trivial⟩ ?_
            have z0 : (W (v2 + 1)) = (v2 + 1) := W_eq (by omega) (by omega)
            rw [z0]
            exact ih (F115 (F125 a0.2.1 (a1.getD (Int.toNat v2) default)) (F125 a0.2.1 (a1.getD (Int.toNat v2) default))) (v2 + 1) (by (try simp only [List.length_append, List.length_cons, List.length_nil, Int.toNat_zero]); omega) (by (try simp only [List.length_append, List.length_cons, List.length_nil, Int.toNat_zero]); omega)
        | false =>
          cases h3 : (decide (((F115 (F125 a0.2.2 (a1.getD (Int.toNat v2) default)) (F125 a0.2.2 (a1.getD (Int.toNat v2) default))) : Int) > v1)) with
          | true =>
            have q0 := of_decide_eq_true h0
            have q1 := of_decide_eq_false h1
            have q2 := of_decide_eq_false h2
            have q3 := of_decide_eq_true h3
            have e : S97_L_0 a0 a1 (v1, v2) = (.inl ((F115 (F125 a0.2.2 (a1.getD (Int.toNat v2) default)) (F125 a0.2.2 (a1.getD (Int.toNat v2) default))), (v2 + 1))) := by simp only [S97_L_0, h0, h1, h2, h3, cond_true, cond_false]
            rw [loopF_inl e]
            refine back_of (T := T0) hT hm (f := 5000) (orc := [.d true, .un 200, .d true, .ld (k3 (a1.getD (Int.toNat v2) default)), .call [] (.a (k3 (F125 a0.1 (a1.getD (Int.toNat v2) default)))) [], .call [] (iv (F115 (F125 a0.1 (a1.getD (Int.toNat v2) default)) (F125 a0.1 (a1.getD (Int.toNat v2) default)))) [], .d false, .un 0, .d true, .ld (k3 (a1.getD (Int.toNat v2) default)), .call [] (.a (k3 (F125 a0.2.1 (a1.getD (Int.toNat v2) default)))) [], .call [] (iv (F115 (F125 a0.2.1 (a1.getD (Int.toNat v2) default)) (F125 a0.2.1 (a1.getD (Int.toNat v2) default)))) [], .d false, .un 0, .d true, .ld (k3 (a1.getD (Int.toNat v2) default)), .call [] (.a (k3 (F125 a0.2.2 (a1.getD (Int.toNat v2) default)))) [], .call [] (iv (F115 (F125 a0.2.2 (a1.getD (Int.toNat v2) default)) (F125 a0.2.2 (a1.getD (Int.toNat v2) default)))) [], .d true, .un 0, .d false]) [] [1, 2, 5, 6] [1] hcx (body := B97_L_0) (m := n) (k' := K97_L_0) (s' := ⟨[.u, (.s 0 0 a1.length 3), (.p 1 0), .u, .u, (iv (F115 (F125 a0.2.2 (a1.getD (Int.toNat v2) default)) (F125 a0.2.2 (a1.getD (Int.toNat v2) default)))), (iv (W (v2 + 1))), .u, .u, .u, .u, .u, .u, .u, .u, .u, .u, .u, .u, .u, .u, .u, .u, .u, .u, .u, .u, .u, .u, .u, .u, .u, .u, .u, .u, .u, .u, .u, .u, .u, .u, .u, .u, .u], [(.live false true (flat c23 a1)), (.live true false (k9 a0))]⟩)
              (obs := [.eq (decide ((v2 : Int) < ((a1.length : Nat) : Int))) true, .eq true true, .pr (0 ≤ (0 : Int) ∧ (0 : Int) < ((3 : Nat) : Int)), .pr (0 ≤ (v2 : Int) ∧ (v2 : Int) < ((a1.length : Nat) : Int)), .pr (((((flat c23 a1)).drop (0 + Int.toNat v2 * 3)).take 3) = (k3 (a1.getD (Int.toNat v2) default))), .call 125 [(.a (k3 a0.1)), (.a (k3 (a1.getD (Int.toNat v2) default)))] [] (.a (k3 (F125 a0.1 (a1.getD (Int.toNat v2) default)))) [], .call 115 [(.a (k3 (F125 a0.1 (a1.getD (Int.toNat v2) default)))), (.a (k3 (F125 a0.1 (a1.getD (Int.toNat v2) default))))] [] (iv (F115 (F125 a0.1 (a1.getD (Int.toNat v2) default)) (F125 a0.1 (a1.getD (Int.toNat v2) default)))) [], .eq (decide (((F115 (F125 a0.1 (a1.getD (Int.toNat v2) default)) (F125 a0.1 (a1.getD (Int.toNat v2) default))) : Int) > v1)) false, .eq true true, .pr (0 ≤ (1 : Int) ∧ (1 : Int) < ((3 : Nat) : Int)), .pr (0 ≤ (v2 : Int) ∧ (v2 : Int) < ((a1.length : Nat) : Int)), .pr (((((flat c23 a1)).drop (0 + Int.toNat v2 * 3)).take 3) = (k3 (a1.getD (Int.toNat v2) default))), .call 125 [(.a (k3 a0.2.1)), (.a (k3 (a1.getD (Int.toNat v2) default)))] [] (.a (k3 (F125 a0.2.1 (a1.getD (Int.toNat v2) default)))) [], .call 115 [(.a (k3 (F125 a0.2.1 (a1.getD (Int.toNat v2) default)))), (.a (k3 (F125 a0.2.1 (a1.getD (Int.toNat v2) default))))] [] (iv (F115 (F125 a0.2.1 (a1.getD (Int.toNat v2) default)) (F125 a0.2.1 (a1.getD (Int.toNat v2) default)))) [], .eq (decide (((F115 (F125 a0.2.1 (a1.getD (Int.toNat v2) default)) (F125 a0.2.1 (a1.getD (Int.toNat v2) default))) : Int) > v1)) false, .eq true true, .pr (0 ≤ (2 : Int) ∧ (2 : Int) < ((3 : Nat) : Int)), .pr (0 ≤ (v2 : Int) ∧ (v2 : Int) < ((a1.length : Nat) : Int)), .pr (((((flat c23 a1)).drop (0 + Int.toNat v2 * 3)).take 3) = (k3 (a1.getD (Int.toNat v2) default))), .call 125 [(.a (k3 a0.2.2)), (.a (k3 (a1.getD (Int.toNat v2) default)))] [] (.a (k3 (F125 a0.2.2 (a1.getD (Int.toNat v2) default)))) [], .call 115 [(.a (k3 (F125 a0.2.2 (a1.getD (Int.toNat v2) default)))), (.a (k3 (F125 a0.2.2 (a1.getD (Int.toNat v2) default))))] [] (iv (F115 (F125 a0.2.2 (a1.getD (Int.toNat v2) default)) (F125 a0.2.2 (a1.getD (Int.toNat v2) default)))) [], .eq (decide (((F115 (F125 a0.2.2 (a1.getD (Int.toNat v2) default)) (F125 a0.2.2 (a1.getD (Int.toNat v2) default))) : Int) > v1)) true, .eq false false]) (by kernel_rfl) ⟨h0, rfl, (show 0 ≤ (0 : Int) ∧ (0 : Int) < ((3 : Nat) : Int) from by decide), (show 0 ≤ (v2 : Int) ∧ (v2 : Int) < ((a1.length : Nat) : Int) from by first | omega | (rw [W_eq] <;> omega) | exact u64_nn _), (ld_part c23_len default a1 v2 0 3 (by omega) (by decide) (by omega) rfl), (C125 a0.1 (a1.getD (Int.toNat v2) default)), (C115 (F125 a0.1 (a1.getD (Int.toNat v2) default)) (F125 a0.1 (a1.getD (Int.toNat v2) default))), h1, rfl, (show 0 ≤ (1 : Int) ∧ (1 : Int) < ((3 : Nat) : Int) from by decide), (show 0 ≤ (v2 : Int) ∧ (v2 : Int) < ((a1.length : Nat) : Int) from by first | omega | (rw [W_eq] <;> omega) | exact u64_nn _), (ld_part c23_len default a1 v2 0 3 (by omega) (by decide) (by omega) rfl), (C125 a0.2.1 (a1.getD (Int.toNat v2) default)), (C115 (F125 a0.2.1 (a1.getD (Int.toNat v2) default)) (F125 a0.2.1 (a1.getD (Int.toNat v2) default))), h2, rfl, (show 0 ≤ (2 : Int) ∧ (2 : Int) < ((3 : Nat) : Int) from by decide), (show 0 ≤ (v2 : Int) ∧ (v2 : Int) < ((a1.length : Nat) : Int) from by first | omega | (rw [W_eq] <;> omega) | exact u64_nn _), (ld_part c23_len default a1 v2 0 3 (by omega) (by decide) (by omega) rfl), (C125 a0.2.2 (a1.getD (Int.toNat v2) default)), (C115 (F125 a0.2.2 (a1.getD (Int.toNat v2) default)) (F125 a0.2.2 (a1.getD (Int.toNat v2) default))), h3, rfl, trivial⟩ ?_
            have z0 : (W (v2 + 1)) = (v2 + 1) := W_eq (by omega) (by omega)
            rw [z0]
            exact ih (F115 (F125 a0.2.2 (a1.getD (Int.toNat v2) default)) (F125 a0.2.2 (a1.getD (Int.toNat v2) default))) (v2 + 1) (by (try simp only [List.length_append, List.length_cons, List.length_nil, Int.toNat_zero]); omega) (by (try simp only [List.length_append, List.length_cons, List.length_nil, Int.toNat_zero]); omega)
          | false =>
            have q0 := of_decide_eq_true h0
            have q1 := of_decide_eq_false h1
            have q2 := of_decide_eq_false h2
            have q3 := of_decide_eq_false h3
            have e : S97_L_0 a0 a1 (v1, v2) = (.inl (v1, (v2 + 1))) := by simp only [S97_L_0, h0, h1, h2, h3, cond_true, cond_false]
            rw [loopF_inl e]
            refine back_of (T := T0) hT hm (f := 5000) (orc := [.d true, .un 200, .d true, .ld (k3 (a1.getD (Int.toNat v2) default)), .call [] (.a (k3 (F125 a0.1 (a1.getD (Int.toNat v2) default)))) [], .call [] (iv (F115 (F125 a0.1 (a1.getD (Int.toNat v2) default)) (F125 a0.1 (a1.getD (Int.toNat v2) default)))) [], .d false, .un 0, .d true, .ld (k3 (a1.getD (Int.toNat v2) default)), .call [] (.a (k3 (F125 a0.2.1 (a1.getD (Int.toNat v2) default)))) [], .call [] (iv (F115 (F125 a0.2.1 (a1.getD (Int.toNat v2) default)) (F125 a0.2.1 (a1.getD (Int.toNat v2) default)))) [], .d false, .un 0, .d true, .ld (k3 (a1.getD (Int.toNat v2) default)), .call [] (.a (k3 (F125 a0.2.2 (a1.getD (Int.toNat v2) default)))) [], .call [] (iv (F115 (F125 a0.2.2 (a1.getD (Int.toNat v2) default)) (F125 a0.2.2 (a1.getD (Int.toNat v2) default)))) [], .d false, .un 0, .d false]) [] [1, 2, 5, 6] [1] hcx (body := B97_L_0) (m := n) (k' := K97_L_0) (s' := ⟨[.u, (.s 0 0 a1.length 3), (.p 1 0), .u, .u, (iv v1), (iv (W (v2 + 1))), .u, .u, .u, .u, .u, .u, .u, .u, .u, .u, .u, .u, .u, .u, .u, .u, .u, .u, .u, .u, .u, .u, .u, .u, .u, .u, .u, .u, .u, .u, .u, .u, .u, .u, .u, .u, .u], [(.live false true (flat c23 a1)), (.live true false (k9 a0))]⟩)
              (obs := [.eq (decide ((v2 : Int) < ((a1.length : Nat) : Int))) true, .eq true true, .pr (0 ≤ (0 : Int) ∧ (0 : Int) < ((3 : Nat) : Int)), .pr (0 ≤ (v2 : Int) ∧ (v2 : Int) < ((a1.length : Nat) : Int)), .pr (((((flat c23 a1)).drop (0 + Int.toNat v2 * 3)).take 3) = (k3 (a1.getD (Int.toNat v2) default))), .call 125 [(.a (k3 a0.1)), (.a (k3 (a1.getD (Int.toNat v2) default)))] [] (.a (k3 (F125 a0.1 (a1.getD (Int.toNat v2) default)))) [], .call 115 [(.a (k3 (F125 a0.1 (a1.getD (Int.toNat v2) default)))), (.a (k3 (F125 a0.1 (a1.getD (Int.toNat v2) default))))] [] (iv (F115 (F125 a0.1 (a1.getD (Int.toNat v2) default)) (F125 a0.1 (a1.getD (Int.toNat v2) default)))) [], .eq (decide (((F115 (F125 a0.1 (a1.getD (Int.toNat v2) default)) (F125 a0.1 (a1.getD (Int.toNat v2) default))) : Int) > v1)) false, .eq true true, .pr (0 ≤ (1 : Int) ∧ (1 : Int) < ((3 : Nat) : Int)), .pr (0 ≤ (v2 : Int) ∧ (v2 : Int) < ((a1.length : Nat) : Int)), .pr (((((flat c23 a1)).drop (0 + Int.toNat v2 * 3)).take 3) = (k3 (a1.getD (Int.toNat v2) default))), .call 125 [(.a (k3 a0.2.1)), (.a (k3 (a1.getD (Int.toNat v2) default)))] [] (.a (k3 (F125 a0.2.1 (a1.getD (Int.toNat v2) default)))) [], .call 115 [(.a (k3 (F125 a0.2.1 (a1.getD (Int.toNat v2) default)))), (.a (k3 (F125 a0.2.1 (a1.getD (Int.toNat v2) default))))] [] (iv (F115 (F125 a0.2.1 (a1.getD (Int.toNat v2) default)) (F125 a0.2.1 (a1.getD (Int.toNat v2) default)))) [], .eq (decide (((F115 (F125 a0.2.1 (a1.getD (Int.toNat v2) default)) (F125 a0.2.1 (a1.getD (Int.toNat v2) default))) : Int) > v1)) false, .eq true true, .pr (0 ≤ (2 : Int) ∧ (2 : Int) < ((3 : Nat) : Int)), .pr (0 ≤ (v2 : Int) ∧ (v2 : Int) < ((a1.length : Nat) : Int)), .pr (((((flat c23 a1)).drop (0 + Int.toNat v2 * 3)).take 3) = (k3 (a1.getD (Int.toNat v2) default))), .call 125 [(.a (k3 a0.2.2)), (.a (k3 (a1.getD (Int.toNat v2) default)))] [] (.a (k3 (F125 a0.2.2 (a1.getD (Int.toNat v2) default)))) [], .call 115 [(.a (k3 (F125 a0.2.2 (a1.getD (Int.toNat v2) default)))), (.a (k3 (F125 a0.2.2 (a1.getD (Int.toNat v2) default))))] [] (iv (F115 (F125 a0.2.2 (a1.getD (Int.toNat v2) default)) (F125 a0.2.2 (a1.getD (Int.toNat v2) default)))) [], .eq (decide (((F115 (F125 a0.2.2 (a1.getD (Int.toNat v2) default)) (F125 a0.2.2 (a1.getD (Int.toNat v2) default))) : Int) > v1)) false, .eq false false]) (by kernel_rfl) ⟨h0, rfl, (show 0 ≤ (0 : Int) ∧ (0 : Int) < ((3 : Nat) : Int) from by decide), (show 0 ≤ (v2 : Int) ∧ (v2 : Int) < ((a1.length : Nat) : Int) from by first | omega | (rw [W_eq] <;> omega) | exact u64_nn _), (ld_part c23_len default a1 v2 0 3 (by omega) (by decide) (by omega) rfl), (C125 a0.1 (a1.getD (Int.toNat v2) default)), (C115 (F125 a0.1 (a1.getD (Int.toNat v2) default)) (F125 a0.1 (a1.getD (Int.toNat v2) default))), h1, rfl, (show 0 ≤ (1 : Int) ∧ (1 : Int) < ((3 : Nat) : Int) from by decide), (show 0 ≤ (v2 : Int) ∧ (v2 : Int) < ((a1.length : Nat) : Int) from by first | omega | (rw [W_eq] <;> omega) | exact u64_nn _), (ld_part c23_len default a1 v2 0 3 (by omega) (by decide) (by omega) rfl), (C125 a0.2.1 (a1.getD (Int.toNat v2) default)), (C115 (F125 a0.2.1 (a1.getD (Int.toNat v2) default)) (F125 a0.2.1 (a1.getD (Int.toNat v2) default))), h2, rfl, (show 0 ≤ (2 : Int) ∧ (2 : Int) < ((3 : Nat) : Int) from by decide), (show 0 ≤ (v2 : Int) ∧ (v2 : Int) < ((a1.length : Nat) : Int) from by first | omega | (rw [W_eq] <;> omega) | exact u64_nn _), (ld_part c23_len default a1 v2 0 3 (by omega) (by decide) (by omega) rfl), (C125 a0.2.2 (a1.getD (Int.toNat v2) default)), (C115 (F125 a0.2.2 (a1.getD (Int.toNat v2) default)) (F125 a0.2.2 (a1.getD (Int.toNat v2) default))), h3, rfl, trivial⟩ ?_
            have z0 : (W (v2 + 1)) = (v2 + 1) := W_eq (by omega) (by omega)
            rw [z0]
            exact ih v1 (v2 + 1) (by (try simp only [List.length_append, List.length_cons, List.length_nil, Int.toNat_zero]); omega) (by (try simp only [List.length_append, List.length_cons, List.length_nil, Int.toNat_zero]); omega)
    | false =>
      have q0 := of_decide_eq_false h0
      have e : S97_L_0 a0 a1 (v1, v2) = (.inr v1) := by simp only [S97_L_0, h0, cond_true, cond_false]
      rw [show loopF (S97_L_0 a0 a1) (n + 1) (v1, v2) = thenF (S97_L_0 a0 a1) n (S97_L_0 a0 a1 (v1, v2)) from rfl, e]
      exact ret_of (T := T0) hT hm (f := 5000) (orc := [.d false]) [] [] [] hcx
        (obs := [.eq (decide ((v2 : Int) < ((a1.length : Nat) : Int))) false]) (by kernel_rfl) ⟨h0, trivial⟩

/-- facet/facetref03.far at ('L',) -/
def F97_L (a0 : (Int × Int × Int) × (Int × Int × Int) × Int × Int × Int) (a1 : List (Int × Int × Int)) : Int :=
  (loopF (S97_L_0 a0 a1) (Int.toNat (((a1.length : Nat) : Int) - 0) + 1) (0, 0))

theorem C97_L (a0 : (Int × Int × Int) × (Int × Int × Int) × Int × Int × Int) (a1 : List (Int × Int × Int)) (l1 : a1.length ≤ 2 ^ 40) : Con Try.prog 97 [(.a (k9 a0)), (.s 0 0 a1.length 3)] [(.live false true (flat c23 a1))] (iv (F97_L a0 a1)) [] := by
  have e : (F97_L a0 a1) = (loopF (S97_L_0 a0 a1) (Int.toNat (((a1.length : Nat) : Int) - 0) + 1) (0, 0)) := by simp only [F97_L]
  rw [e]
  refine con_of (n := 9) Try.func97 rfl (ent Try.func97 (by kernel_rfl) rfl) (by show 2 ≤ Try.f97.ntmps; decide) (by kernel_rfl) ⟨rfl, trivial⟩ (fun cx hcx => ?_)
  refine enter_of (T := T0) hT hm (f := 5000) (orc := []) [] [1, 2, 5, 6] [1] hcx (body := B97_L_0) (k' := K97_L_0) (s' := ⟨[.u, (.s 0 0 a1.length 3), (.p 1 0), .u, .u, (iv 0), (iv 0), .u, .u, .u, .u, .u, .u, .u, .u, .u, .u, .u, .u, .u, .u, .u, .u, .u, .u, .u, .u, .u, .u, .u, .u, .u, .u, .u, .u, .u, .u, .u, .u, .u, .u, .u, .u, .u], [(.live false true (flat c23 a1)), (.live true false (k9 a0))]⟩)
    (obs := []) (by kernel_rfl) trivial ⟨Int.toNat (((a1.length : Nat) : Int) - 0) + 1, ?_⟩
  exact L97_L_0 a0 a1 l1 hcx (Int.toNat (((a1.length : Nat) : Int) - 0) + 1) 0 0 (by (try simp only [List.length_append, List.length_cons, List.length_nil, Int.toNat_zero]); omega) (by (try simp only [List.length_append, List.length_cons, List.length_nil, Int.toNat_zero]); omega)

noncomputable def B159_L_0 : Code := (loopAtD [1, 1, 0, 1] [] (Try.f159.body.getD .skip) []).1
noncomputable def K159_L_0 : List K := (loopAtD [1, 1, 0, 1] [] (Try.f159.body.getD .skip) []).2

/-- a round of loop 0 of facet/facetref03.bounds; the variables: v1 = s4, v2 = s5, v3 = s6 -/
def S159_L_0 (a0 : List (Int)) : Int × Int × Int → (Int × Int × Int) ⊕ (Int × Int)
  | (v1, v2, v3) =>
   (bif (decide ((v3 : Int) < ((a0.length : Nat) : Int))) then
    (.inl ((if ((a0.getD (Int.toNat v3) default) : Int) < v1 then (a0.getD (Int.toNat v3) default) else v1), (if (v2 : Int) < (a0.getD (Int.toNat v3) default) then (a0.getD (Int.toNat v3) default) else v2), (v3 + 1)))
   else
    (.inr (v1, v2)))

set_option maxHeartbeats 4000000 in
theorem L159_L_0 (a0 : List (Int)) (l0 : a0.length ≤ 2 ^ 40) (hl : 0 < a0.length) {cx : Cx} (hcx : cx.base = 1) : ∀ (n : Nat) (v1 : Int) (v2 : Int) (v3 : Int), 0 ≤ v3 → Int.toNat (((a0.length : Nat) : Int) - v3) < n → Aw.Good Try.prog none 9 (bodyPost Try.prog Try.f159 (RR cx (.t (k2 (loopF (S159_L_0 a0) n (v1, v2, v3)))) [] [])) cx [] (.l B159_L_0 n :: K159_L_0) ⟨[(.s 0 0 a0.length 1), .u, .u, .u, (iv v1), (iv v2), (iv v3), .u, .u, .u, .u, .u, .u, .u, .u, .u, .u, .u, .u, .u, .u, .u, .u, .u, .u, .u, .u, .u, .u, .u, .u, .u, .u], [(.live false true (flat c3 a0))]⟩ := by
  intro n
  induction n with
  | zero => intro v1 v2 v3 hi hn; exact absurd hn (Nat.not_lt_zero _)
  | succ n ih =>
    intro v1 v2 v3 hi hn
    refine good_round ?_
    cases h0 : (decide ((v3 : Int) < ((a0.length : Nat) : Int))) with
    | true =>
      have q0 := of_decide_eq_true h0
      have e : S159_L_0 a0 (v1, v2, v3) = (.inl ((if ((a0.getD (Int.toNat v3) default) : Int) < v1 then (a0.getD (Int.toNat v3) default) else v1), (if (v2 : Int) < (a0.getD (Int.toNat v3) default) then (a0.getD (Int.toNat v3) default) else v2), (v3 + 1))) := by simp only [S159_L_0, h0, cond_true, cond_false]
      rw [loopF_inl e]
      refine back_of (T := T0) hT hm (f := 5000) (orc := [.d true, .ld [(iv (a0.getD (Int.toNat v3) default))], .ld [(iv (a0.getD (Int.toNat v3) default))]]) [] [0, 4, 5, 6] [] hcx (body := B159_L_0) (m := n) (k' := K159_L_0) (s' := ⟨[(.s 0 0 a0.length 1), .u, .u, .u, (iv (if ((a0.getD (Int.toNat v3) default) : Int) < v1 then (a0.getD (Int.toNat v3) default) else v1)), (iv (if (v2 : Int) < (a0.getD (Int.toNat v3) default) then (a0.getD (Int.toNat v3) default) else v2)), (iv (W (v3 + 1))), .u, .u, .u, .u, .u, .u, .u, .u, .u, .u, .u, .u, .u, .u, .u, .u, .u, .u, .u, .u, .u, .u, .u, .u, .u, .u], [(.live false true (flat c3 a0))]⟩)
        (obs := [.eq (decide ((v3 : Int) < ((a0.length : Nat) : Int))) true, .pr (0 ≤ (v3 : Int) ∧ (v3 : Int) < ((a0.length : Nat) : Int)), .pr (((((flat c3 a0)).drop (0 + Int.toNat v3 * 1)).take 1) = [(iv (a0.getD (Int.toNat v3) default))]), .pr (0 ≤ (v3 : Int) ∧ (v3 : Int) < ((a0.length : Nat) : Int)), .pr (((((flat c3 a0)).drop (0 + Int.toNat v3 * 1)).take 1) = [(iv (a0.getD (Int.toNat v3) default))])]) (by kernel_rfl) ⟨h0, (show 0 ≤ (v3 : Int) ∧ (v3 : Int) < ((a0.length : Nat) : Int) from by first | omega | (rw [W_eq] <;> omega) | exact u64_nn _), (ld_part c3_len default a0 v3 0 1 (by omega) (by decide) (by omega) rfl), (show 0 ≤ (v3 : Int) ∧ (v3 : Int) < ((a0.length : Nat) : Int) from by first | omega | (rw [W_eq] <;> omega) | exact u64_nn _), (ld_part c3_len default a0 v3 0 1 (by omega) (by decide) (by omega) rfl), trivial⟩ ?_
      have z0 : (W (v3 + 1)) = (v3 + 1) := W_eq (by omega) (by omega)
      rw [z0]
      exact ih (if ((a0.getD (Int.toNat v3) default) : Int) < v1 then (a0.getD (Int.toNat v3) default) else v1) (if (v2 : Int) < (a0.getD (Int.toNat v3) default) then (a0.getD (Int.toNat v3) default) else v2) (v3 + 1) (by (try simp only [List.length_append, List.length_cons, List.length_nil, Int.toNat_zero]); omega) (by (try simp only [List.length_append, List.length_cons, List.length_nil, Int.toNat_zero]); omega)
    | false =>
      have q0 := of_decide_eq_false h0
      have e : S159_L_0 a0 (v1, v2, v3) = (.inr (v1, v2)) := by simp only [S159_L_0, h0, cond_true, cond_false]
      rw [show loopF (S159_L_0 a0) (n + 1) (v1, v2, v3) = thenF (S159_L_0 a0) n (S159_L_0 a0 (v1, v2, v3)) from rfl, e]
      exact ret_of (T := T0) hT hm (f := 5000) (orc := [.d false]) [] [] [] hcx
        (obs := [.eq (decide ((v3 : Int) < ((a0.length : Nat) : Int))) false]) (by kernel_rfl) ⟨h0, trivial⟩

/-- facet/facetref03.bounds at ('L',) -/
def F159_L (a0 : List (Int)) : Int × Int :=
  (loopF (S159_L_0 a0) (Int.toNat (((a0.length : Nat) : Int) - 0) + 1) ((a0.getD (Int.toNat 0) default), (a0.getD (Int.toNat 0) default), 0))

theorem C159_L (a0 : List (Int)) (l0 : a0.length ≤ 2 ^ 40) (hl : 0 < a0.length) : Con Try.prog 159 [(.s 0 0 a0.length 1)] [(.live false true (flat c3 a0))] (.t (k2 (F159_L a0))) [] := by
  have e : (F159_L a0) = (loopF (S159_L_0 a0) (Int.toNat (((a0.length : Nat) : Int) - 0) + 1) ((a0.getD (Int.toNat 0) default), (a0.getD (Int.toNat 0) default), 0)) := by simp only [F159_L]
  rw [e]
  refine con_of (n := 9) Try.func159 rfl (ent Try.func159 (by kernel_rfl) rfl) (by show 1 ≤ Try.f159.ntmps; decide) (by kernel_rfl) ⟨rfl, trivial⟩ (fun cx hcx => ?_)
  refine enter_of (T := T0) hT hm (f := 5000) (orc := [.ld [(iv (a0.getD (Int.toNat 0) default))], .ld [(iv (a0.getD (Int.toNat 0) default))]]) [] [0, 4, 5, 6] [] hcx (body := B159_L_0) (k' := K159_L_0) (s' := ⟨[(.s 0 0 a0.length 1), .u, .u, .u, (iv (a0.getD (Int.toNat 0) default)), (iv (a0.getD (Int.toNat 0) default)), (iv 0), .u, .u, .u, .u, .u, .u, .u, .u, .u, .u, .u, .u, .u, .u, .u, .u, .u, .u, .u, .u, .u, .u, .u, .u, .u, .u], [(.live false true (flat c3 a0))]⟩)
    (obs := [.pr (0 ≤ (0 : Int) ∧ (0 : Int) < ((a0.length : Nat) : Int)), .pr (((((flat c3 a0)).drop (0 + Int.toNat 0 * 1)).take 1) = [(iv (a0.getD (Int.toNat 0) default))]), .pr (0 ≤ (0 : Int) ∧ (0 : Int) < ((a0.length : Nat) : Int)), .pr (((((flat c3 a0)).drop (0 + Int.toNat 0 * 1)).take 1) = [(iv (a0.getD (Int.toNat 0) default))])]) (by kernel_rfl) ⟨(show 0 ≤ (0 : Int) ∧ (0 : Int) < ((a0.length : Nat) : Int) from by first | omega | (rw [W_eq] <;> omega) | exact u64_nn _), (ld_part c3_len default a0 0 0 1 (by omega) (by decide) (by omega) rfl), (show 0 ≤ (0 : Int) ∧ (0 : Int) < ((a0.length : Nat) : Int) from by first | omega | (rw [W_eq] <;> omega) | exact u64_nn _), (ld_part c3_len default a0 0 0 1 (by omega) (by decide) (by omega) rfl), trivial⟩ ⟨Int.toNat (((a0.length : Nat) : Int) - 0) + 1, ?_⟩
  exact L159_L_0 a0 l0 hl hcx (Int.toNat (((a0.length : Nat) : Int) - 0) + 1) (a0.getD (Int.toNat 0) default) (a0.getD (Int.toNat 0) default) 0 (by (try simp only [List.length_append, List.length_cons, List.length_nil, Int.toNat_zero]); omega) (by (try simp only [List.length_append, List.length_cons, List.length_nil, Int.toNat_zero]); omega)

/-- facet/facetref03.gap at ('L', 'L') -/
def F143_L_L (a0 : List (Int)) (a1 : List (Int)) : Int :=
  (W ((if ((if (0 : Int) < (W ((F159_L a0).1 - (F159_L a1).2)) then (W ((F159_L a0).1 - (F159_L a1).2)) else 0) : Int) < (W ((F159_L a1).1 - (F159_L a0).2)) then (W ((F159_L a1).1 - (F159_L a0).2)) else (if (0 : Int) < (W ((F159_L a0).1 - (F159_L a1).2)) then (W ((F159_L a0).1 - (F159_L a1).2)) else 0)) * (if ((if (0 : Int) < (W ((F159_L a0).1 - (F159_L a1).2)) then (W ((F159_L a0).1 - (F159_L a1).2)) else 0) : Int) < (W ((F159_L a1).1 - (F159_L a0).2)) then (W ((F159_L a1).1 - (F159_L a0).2)) else (if (0 : Int) < (W ((F159_L a0).1 - (F159_L a1).2)) then (W ((F159_L a0).1 - (F159_L a1).2)) else 0))))

theorem C143_L_L (a0 : List (Int)) (a1 : List (Int)) (l0 : a0.length ≤ 2 ^ 40) (l1 : a1.length ≤ 2 ^ 40) (h1 : 0 < a0.length) (h2 : 0 < a1.length) : Con Try.prog 143 [(.s 0 0 a0.length 1), (.s 1 0 a1.length 1)] [(.live false true (flat c3 a0)), (.live false true (flat c3 a1))] (iv (F143_L_L a0 a1)) [] := by
  have e : (F143_L_L a0 a1) = (W ((if ((if (0 : Int) < (W ((F159_L a0).1 - (F159_L a1).2)) then (W ((F159_L a0).1 - (F159_L a1).2)) else 0) : Int) < (W ((F159_L a1).1 - (F159_L a0).2)) then (W ((F159_L a1).1 - (F159_L a0).2)) else (if (0 : Int) < (W ((F159_L a0).1 - (F159_L a1).2)) then (W ((F159_L a0).1 - (F159_L a1).2)) else 0)) * (if ((if (0 : Int) < (W ((F159_L a0).1 - (F159_L a1).2)) then (W ((F159_L a0).1 - (F159_L a1).2)) else 0) : Int) < (W ((F159_L a1).1 - (F159_L a0).2)) then (W ((F159_L a1).1 - (F159_L a0).2)) else (if (0 : Int) < (W ((F159_L a0).1 - (F159_L a1).2)) then (W ((F159_L a0).1 - (F159_L a1).2)) else 0)))) := by simp only [F143_L_L]
  rw [e]
  refine con_of (n := 9) Try.func143 rfl (ent Try.func143 (by kernel_rfl) rfl) (by show 2 ≤ Try.f143.ntmps; decide) (by kernel_rfl) ⟨rfl, rfl, trivial⟩ (fun cx hcx => ?_)
  exact ret_of (T := T0) hT hm (f := 5000) (orc := [.call [0] (.t (k2 (F159_L a0))) [], .call [1] (.t (k2 (F159_L a1))) []]) [] [] [] hcx
    (obs := [.call 159 [(.s 0 0 a0.length 1)] [(.live false true (flat c3 a0))] (.t (k2 (F159_L a0))) [], .call 159 [(.s 0 0 a1.length 1)] [(.live false true (flat c3 a1))] (.t (k2 (F159_L a1))) []]) (by kernel_rfl) ⟨(C159_L a0 (by (try simp only [List.length_append, List.length_cons, List.length_nil, Int.toNat_zero, axis3, axis1]); omega) (by (try simp only [List.length_append, List.length_cons, List.length_nil, Int.toNat_zero, axis3, axis1]); omega)), (C159_L a1 (by (try simp only [List.length_append, List.length_cons, List.length_nil, Int.toNat_zero, axis3, axis1]); omega) (by (try simp only [List.length_append, List.length_cons, List.length_nil, Int.toNat_zero, axis3, axis1]); omega)), trivial⟩

/-- facet/facetref03.close at (1,) -/
def F95_1 (a0 : (Int × Int × Int) × (Int × Int × Int) × Int × Int × Int) (a1 : Int × Int × Int) : Int :=
  (W ((W ((F143_L_L (F144_3 a0 0) (F144_1 a1 0)) + (F143_L_L (F144_3 a0 1) (F144_1 a1 1)))) + (F143_L_L (F144_3 a0 2) (F144_1 a1 2))))

theorem C95_1 (a0 : (Int × Int × Int) × (Int × Int × Int) × Int × Int × Int) (a1 : Int × Int × Int) : Con Try.prog 95 [(.a (k9 a0)), (.s 0 0 1 3)] [(.live false false (k3 a1))] (iv (F95_1 a0 a1)) [] := by
  have e : (F95_1 a0 a1) = (W ((W ((F143_L_L (F144_3 a0 0) (F144_1 a1 0)) + (F143_L_L (F144_3 a0 1) (F144_1 a1 1)))) + (F143_L_L (F144_3 a0 2) (F144_1 a1 2)))) := by simp only [F95_1]
  rw [e]
  refine con_of (n := 9) Try.func95 rfl (ent Try.func95 (by kernel_rfl) rfl) (by show 2 ≤ Try.f95.ntmps; decide) (by kernel_rfl) ⟨rfl, trivial⟩ (fun cx hcx => ?_)
  exact ret_of (T := T0) hT hm (f := 5000) (orc := [.call [2] (.s 1 0 (F144_3 a0 0).length 1) [(.live true true (flat c3 (F144_3 a0 0)))], .call [0] (.s 1 0 (F144_1 a1 0).length 1) [(.live true true (flat c3 (F144_1 a1 0)))], .call [3, 4] (iv (F143_L_L (F144_3 a0 0) (F144_1 a1 0))) [], .call [2] (.s 1 0 (F144_3 a0 1).length 1) [(.live true true (flat c3 (F144_3 a0 1)))], .call [0] (.s 1 0 (F144_1 a1 1).length 1) [(.live true true (flat c3 (F144_1 a1 1)))], .call [5, 6] (iv (F143_L_L (F144_3 a0 1) (F144_1 a1 1))) [], .call [2] (.s 1 0 (F144_3 a0 2).length 1) [(.live true true (flat c3 (F144_3 a0 2)))], .call [0] (.s 1 0 (F144_1 a1 2).length 1) [(.live true true (flat c3 (F144_1 a1 2)))], .call [7, 8] (iv (F143_L_L (F144_3 a0 2) (F144_1 a1 2))) []]) [] [] [] hcx
    (obs := [.call 144 [(.s 0 0 3 3), (iv 0)] [(.live false false (k9 a0))] (.s 1 0 (F144_3 a0 0).length 1) [(.live true true (flat c3 (F144_3 a0 0)))], .call 144 [(.s 0 0 1 3), (iv 0)] [(.live false false (k3 a1))] (.s 1 0 (F144_1 a1 0).length 1) [(.live true true (flat c3 (F144_1 a1 0)))], .call 143 [(.s 0 0 (F144_3 a0 0).length 1), (.s 1 0 (F144_1 a1 0).length 1)] [(.live false true (flat c3 (F144_3 a0 0))), (.live false true (flat c3 (F144_1 a1 0)))] (iv (F143_L_L (F144_3 a0 0) (F144_1 a1 0))) [], .call 144 [(.s 0 0 3 3), (iv 1)] [(.live false false (k9 a0))] (.s 1 0 (F144_3 a0 1).length 1) [(.live true true (flat c3 (F144_3 a0 1)))], .call 144 [(.s 0 0 1 3), (iv 1)] [(.live false false (k3 a1))] (.s 1 0 (F144_1 a1 1).length 1) [(.live true true (flat c3 (F144_1 a1 1)))], .call 143 [(.s 0 0 (F144_3 a0 1).length 1), (.s 1 0 (F144_1 a1 1).length 1)] [(.live false true (flat c3 (F144_3 a0 1))), (.live false true (flat c3 (F144_1 a1 1)))] (iv (F143_L_L (F144_3 a0 1) (F144_1 a1 1))) [], .call 144 [(.s 0 0 3 3), (iv 2)] [(.live false false (k9 a0))] (.s 1 0 (F144_3 a0 2).length 1) [(.live true true (flat c3 (F144_3 a0 2)))], .call 144 [(.s 0 0 1 3), (iv 2)] [(.live false false (k3 a1))] (.s 1 0 (F144_1 a1 2).length 1) [(.live true true (flat c3 (F144_1 a1 2)))], .call 143 [(.s 0 0 (F144_3 a0 2).length 1), (.s 1 0 (F144_1 a1 2).length 1)] [(.live false true (flat c3 (F144_3 a0 2))), (.live false true (flat c3 (F144_1 a1 2)))] (iv (F143_L_L (F144_3 a0 2) (F144_1 a1 2))) []]) (by kernel_rfl) ⟨(C144_3 a0 0), (C144_1 a1 0), (C143_L_L (F144_3 a0 0) (F144_1 a1 0) (by (try simp only [List.length_append, List.length_cons, List.length_nil, Int.toNat_zero, axis3, axis1]); omega) (by (try simp only [List.length_append, List.length_cons, List.length_nil, Int.toNat_zero, axis3, axis1]); omega) (by (try simp only [List.length_append, List.length_cons, List.length_nil, Int.toNat_zero, axis3, axis1]); omega) (by (try simp only [List.length_append, List.length_cons, List.length_nil, Int.toNat_zero, axis3, axis1]); omega)), (C144_3 a0 1), (C144_1 a1 1), (C143_L_L (F144_3 a0 1) (F144_1 a1 1) (by (try simp only [List.length_append, List.length_cons, List.length_nil, Int.toNat_zero, axis3, axis1]); omega) (by (try simp only [List.length_append, List.length_cons, List.length_nil, Int.toNat_zero, axis3, axis1]); omega) (by (try simp only [List.length_append, List.length_cons, List.length_nil, Int.toNat_zero, axis3, axis1]); omega) (by (try simp only [List.length_append, List.length_cons, List.length_nil, Int.toNat_zero, axis3, axis1]); omega)), (C144_3 a0 2), (C144_1 a1 2), (C143_L_L (F144_3 a0 2) (F144_1 a1 2) (by (try simp only [List.length_append, List.length_cons, List.length_nil, Int.toNat_zero, axis3, axis1]); omega) (by (try simp only [List.length_append, List.length_cons, List.length_nil, Int.toNat_zero, axis3, axis1]); omega) (by (try simp only [List.length_append, List.length_cons, List.length_nil, Int.toNat_zero, axis3, axis1]); omega) (by (try simp only [List.length_append, List.length_cons, List.length_nil, Int.toNat_zero, axis3, axis1]); omega)), trivial⟩

/-- facet/facetref03.close at (3,) -/
def F95_3 (a0 : (Int × Int × Int) × (Int × Int × Int) × Int × Int × Int) (a1 : (Int × Int × Int) × (Int × Int × Int) × (Int × Int × Int)) : Int :=
  (W ((W ((F143_L_L (F144_3 a0 0) (F144_3 a1 0)) + (F143_L_L (F144_3 a0 1) (F144_3 a1 1)))) + (F143_L_L (F144_3 a0 2) (F144_3 a1 2))))

theorem C95_3 (a0 : (Int × Int × Int) × (Int × Int × Int) × Int × Int × Int) (a1 : (Int × Int × Int) × (Int × Int × Int) × (Int × Int × Int)) : Con Try.prog 95 [(.a (k9 a0)), (.s 0 0 3 3)] [(.live false false (k9 a1))] (iv (F95_3 a0 a1)) [] := by
  have e : (F95_3 a0 a1) = (W ((W ((F143_L_L (F144_3 a0 0) (F144_3 a1 0)) + (F143_L_L (F144_3 a0 1) (F144_3 a1 1)))) + (F143_L_L (F144_3 a0 2) (F144_3 a1 2)))) := by simp only [F95_3]
  rw [e]
  refine con_of (n := 9) Try.func95 rfl (ent Try.func95 (by kernel_rfl) rfl) (by show 2 ≤ Try.f95.ntmps; decide) (by kernel_rfl) ⟨rfl, trivial⟩ (fun cx hcx => ?_)
  exact ret_of (T := T0) hT hm (f := 5000) (orc := [.call [2] (.s 1 0 (F144_3 a0 0).length 1) [(.live true true (flat c3 (F144_3 a0 0)))], .call [0] (.s 1 0 (F144_3 a1 0).length 1) [(.live true true (flat c3 (F144_3 a1 0)))], .call [3, 4] (iv (F143_L_L (F144_3 a0 0) (F144_3 a1 0))) [], .call [2] (.s 1 0 (F144_3 a0 1).length 1) [(.live true true (flat c3 (F144_3 a0 1)))], .call [0] (.s 1 0 (F144_3 a1 1).length 1) [(.live true true (flat c3 (F144_3 a1 1)))], .call [5, 6] (iv (F143_L_L (F144_3 a0 1) (F144_3 a1 1))) [], .call [2] (.s 1 0 (F144_3 a0 2).length 1) [(.live true true (flat c3 (F144_3 a0 2)))], .call [0] (.s 1 0 (F144_3 a1 2).length 1) [(.live true true (flat c3 (F144_3 a1 2)))], .call [7, 8] (iv (F143_L_L (F144_3 a0 2) (F144_3 a1 2))) []]) [] [] [] hcx
    (obs := [.call 144 [(.s 0 0 3 3), (iv 0)] [(.live false false (k9 a0))] (.s 1 0 (F144_3 a0 0).length 1) [(.live true true (flat c3 (F144_3 a0 0)))], .call 144 [(.s 0 0 3 3), (iv 0)] [(.live false false (k9 a1))] (.s 1 0 (F144_3 a1 0).length 1) [(.live true true (flat c3 (F144_3 a1 0)))], .call 143 [(.s 0 0 (F144_3 a0 0).length 1), (.s 1 0 (F144_3 a1 0).length 1)] [(.live false true (flat c3 (F144_3 a0 0))), (.live false true (flat c3 (F144_3 a1 0)))] (iv (F143_L_L (F144_3 a0 0) (F144_3 a1 0))) [], .call 144 [(.s 0 0 3 3), (iv 1)] [(.live false false (k9 a0))] (.s 1 0 (F144_3 a0 1).length 1) [(.live true true (flat c3 (F144_3 a0 1)))], .call 144 [(.s 0 0 3 3), (iv 1)] [(.live false false (k9 a1))] (.s 1 0 (F144_3 a1 1).length 1) [(.live true true (flat c3 (F144_3 a1 1)))], .call 143 [(.s 0 0 (F144_3 a0 1).length 1), (.s 1 0 (F144_3 a1 1).length 1)] [(.live false true (flat c3 (F144_3 a0 1))), (.live false true (flat c3 (F144_3 a1 1)))] (iv (F143_L_L (F144_3 a0 1) (F144_3 a1 1))) [], .call 144 [(.s 0 0 3 3), (iv 2)] [(.live false false (k9 a0))] (.s 1 0 (F144_3 a0 2).length 1) [(.live true true (flat c3 (F144_3 a0 2)))], .call 144 [(.s 0 0 3 3), (iv 2)] [(.live false false (k9 a1))] (.s 1 0 (F144_3 a1 2).length 1) [(.live true true (flat c3 (F144_3 a1 2)))], .call 143 [(.s 0 0 (F144_3 a0 2).length 1), (.s 1 0 (F144_3 a1 2).length 1)] [(.live false true (flat c3 (F144_3 a0 2))), (.live false true (flat c3 (F144_3 a1 2)))] (iv (F143_L_L (F144_3 a0 2) (F144_3 a1 2))) []]) (by kernel_rfl) ⟨(C144_3 a0 0), (C144_3 a1 0), (C143_L_L (F144_3 a0 0) (F144_3 a1 0) (by (try simp only [List.length_append, List.length_cons, List.length_nil, Int.toNat_zero, axis3, axis1]); omega) (by (try simp only [List.length_append, List.length_cons, List.length_nil, Int.toNat_zero, axis3, axis1]); omega) (by (try simp only [List.length_append, List.length_cons, List.length_nil, Int.toNat_zero, axis3, axis1]); omega) (by (try simp only [List.length_append, List.length_cons, List.length_nil, Int.toNat_zero, axis3, axis1]); omega)), (C144_3 a0 1), (C144_3 a1 1), (C143_L_L (F144_3 a0 1) (F144_3 a1 1) (by (try simp only [List.length_append, List.length_cons, List.length_nil, Int.toNat_zero, axis3, axis1]); omega) (by (try simp only [List.length_append, List.length_cons, List.length_nil, Int.toNat_zero, axis3, axis1]); omega) (by (try simp only [List.length_append, List.length_cons, List.length_nil, Int.toNat_zero, axis3, axis1]); omega) (by (try simp only [List.length_append, List.length_cons, List.length_nil, Int.toNat_zero, axis3, axis1]); omega)), (C144_3 a0 2), (C144_3 a1 2), (C143_L_L (F144_3 a0 2) (F144_3 a1 2) (by (try simp only [List.length_append, List.length_cons, List.length_nil, Int.toNat_zero, axis3, axis1]); omega) (by (try simp only [List.length_append, List.length_cons, List.length_nil, Int.toNat_zero, axis3, axis1]); omega) (by (try simp only [List.length_append, List.length_cons, List.length_nil, Int.toNat_zero, axis3, axis1]); omega) (by (try simp only [List.length_append, List.length_cons, List.length_nil, Int.toNat_zero, axis3, axis1]); omega)), trivial⟩

end Go.Proofs.Ytjlekmjnkpcnoaa
