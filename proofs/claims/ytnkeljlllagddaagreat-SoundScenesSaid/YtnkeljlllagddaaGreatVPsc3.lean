/-
  Parts of the proofs of the laws: the executor, what functions of the program compute, and that it is what the statements ask. No premise.
-/
import Derived.Test.YtnkeljlllagddaaGreatVPsc2
namespace Go.Proofs.YtnkeljlllagddaaGreat
open Go.Proofs Go.Aw Go.RowKit
set_option maxRecDepth 100000
set_option linter.unusedVariables false
set_option linter.unusedSimpArgs false

/-- facet/facetref01.within -/
def F137 (a0 : Int) (a1 : Int) (a2 : Int) : Bool :=
  (bif (decide ((a0 : Int) ≥ a1)) then
   (decide ((a0 : Int) ≤ a2))
  else
   false)

theorem C137 (a0 : Int) (a1 : Int) (a2 : Int) : Con Tryz.prog 137 [(iv a0), (iv a1), (iv a2)] [] (.v (.bool (F137 a0 a1 a2))) [] := by
  cases h0 : (decide ((a0 : Int) ≥ a1)) with
  | true =>
    have q0 := of_decide_eq_true h0
    have e : (F137 a0 a1 a2) = (decide ((a0 : Int) ≤ a2)) := by simp only [F137, h0, cond_true, cond_false]
    rw [e]
    refine con_of (n := 9) Tryz.func137 rfl (ent Tryz.func137 (by kernel_rfl) rfl) (by show 3 ≤ Tryz.f137.ntmps; decide) (by kernel_rfl) trivial (fun cx hcx => ?_)
    exact ret_of (T := T0) hT hm (f := 5000) (orc := [.d true]) [] [] [] hcx
      (obs := [.eq (decide ((a0 : Int) ≥ a1)) true]) (by kernel_rfl) ⟨h0, trivial⟩
  | false =>
    have q0 := of_decide_eq_false h0
    have e : (F137 a0 a1 a2) = false := by simp only [F137, h0, cond_true, cond_false]
    rw [e]
    refine con_of (n := 9) Tryz.func137 rfl (ent Tryz.func137 (by kernel_rfl) rfl) (by show 3 ≤ Tryz.f137.ntmps; decide) (by kernel_rfl) trivial (fun cx hcx => ?_)
    exact ret_of (T := T0) hT hm (f := 5000) (orc := [.d false]) [] [] [] hcx
      (obs := [.eq (decide ((a0 : Int) ≥ a1)) false]) (by kernel_rfl) ⟨h0, trivial⟩

/-- facet/facetref01.Valid -/
def F110 (a0 : Int × Int) : Bool :=
  (bif (decide ((a0.1 : Int) ≥ (-1099511627776))) then
   (bif (decide ((a0.1 : Int) ≤ a0.2)) then
    (decide ((a0.2 : Int) ≤ 1099511627776))
   else
    false)
  else
   false)

theorem C110 (a0 : Int × Int) : Con Tryz.prog 110 [(.a [(iv a0.1), (iv a0.2)])] [] (.v (.bool (F110 a0))) [] := by
  cases h0 : (decide ((a0.1 : Int) ≥ (-1099511627776))) with
  | true =>
    cases h1 : (decide ((a0.1 : Int) ≤ a0.2)) with
    | true =>
      have q0 := of_decide_eq_true h0
      have q1 := of_decide_eq_true h1
      have e : (F110 a0) = (decide ((a0.2 : Int) ≤ 1099511627776)) := by simp only [F110, h0, h1, cond_true, cond_false]
      rw [e]
      refine con_of (n := 9) Tryz.func110 rfl (ent Tryz.func110 (by kernel_rfl) rfl) (by show 1 ≤ Tryz.f110.ntmps; decide) (by kernel_rfl) trivial (fun cx hcx => ?_)
      exact ret_of (T := T0) hT hm (f := 5000) (orc := [.d true, .d true]) [] [] [] hcx
        (obs := [.eq (decide ((a0.1 : Int) ≥ (-1099511627776))) true, .eq (decide ((a0.1 : Int) ≤ a0.2)) true]) (by kernel_rfl) ⟨h0, h1, trivial⟩
    | false =>
      have q0 := of_decide_eq_true h0
      have q1 := of_decide_eq_false h1
      have e : (F110 a0) = false := by simp only [F110, h0, h1, cond_true, cond_false]
      rw [e]
      refine con_of (n := 9) Tryz.func110 rfl (ent Tryz.func110 (by kernel_rfl) rfl) (by show 1 ≤ Tryz.f110.ntmps; decide) (by kernel_rfl) trivial (fun cx hcx => ?_)
      exact ret_of (T := T0) hT hm (f := 5000) (orc := [.d true, .d false]) [] [] [] hcx
        (obs := [.eq (decide ((a0.1 : Int) ≥ (-1099511627776))) true, .eq (decide ((a0.1 : Int) ≤ a0.2)) false]) (by kernel_rfl) ⟨h0, h1, trivial⟩
  | false =>
    have q0 := of_decide_eq_false h0
    have e : (F110 a0) = false := by simp only [F110, h0, cond_true, cond_false]
    rw [e]
    refine con_of (n := 9) Tryz.func110 rfl (ent Tryz.func110 (by kernel_rfl) rfl) (by show 1 ≤ Tryz.f110.ntmps; decide) (by kernel_rfl) trivial (fun cx hcx => ?_)
    exact ret_of (T := T0) hT hm (f := 5000) (orc := [.d false]) [] [] [] hcx
      (obs := [.eq (decide ((a0.1 : Int) ≥ (-1099511627776))) false]) (by kernel_rfl) ⟨h0, trivial⟩

/-- int, as cells -/
def c3 (x : Int) : List SV := [(iv x)]
theorem c3_len (x : Int) : (c3 x).length = 1 := rfl

/-- facet/facetref03.axis at (3,) -/
def F235_3 (a0 : (Int × Int × Int) × (Int × Int × Int) × (Int × Int × Int)) (a1 : Int) : List (Int) :=
  (bif ((a1 : Int) == 0) then
   ([a0.1.1, a0.2.1.1, a0.2.2.1] : List (Int))
  else
   (bif ((a1 : Int) == 1) then
    ([a0.1.2.1, a0.2.1.2.1, a0.2.2.2.1] : List (Int))
   else
    ([a0.1.2.2, a0.2.1.2.2, a0.2.2.2.2] : List (Int))))

theorem C235_3 (a0 : (Int × Int × Int) × (Int × Int × Int) × (Int × Int × Int)) (a1 : Int) : Con Tryz.prog 235 [(.s 0 0 3 3), (iv a1)] [(.live false false (k9 a0))] (.s 1 0 (F235_3 a0 a1).length 1) [(.live true true (flat c3 (F235_3 a0 a1)))] := by
  cases h0 : ((a1 : Int) == 0) with
  | true =>
    have q0 := eq_of_beq h0
    have e : (F235_3 a0 a1) = ([a0.1.1, a0.2.1.1, a0.2.2.1] : List (Int)) := by simp only [F235_3, h0, cond_true, cond_false]
    rw [e]
    refine con_of (n := 9) Tryz.func235 rfl (ent Tryz.func235 (by kernel_rfl) rfl) (by show 2 ≤ Tryz.f235.ntmps; decide) (by kernel_rfl) ⟨rfl, trivial⟩ (fun cx hcx => ?_)
    exact ret_of (T := T0) hT hm (f := 5000) (orc := [.un 200, .d true, .d true, .un 0, .d true, .d true, .un 0, .d true, .d true, .un 0, .d false]) [.sym 6 true] [] [6] hcx
      (obs := [.eq true true, .eq ((a1 : Int) == 0) true, .pr (0 ≤ (0 : Int) ∧ (0 : Int) < ((3 : Nat) : Int)), .eq true true, .eq ((a1 : Int) == 0) true, .pr (0 ≤ (1 : Int) ∧ (1 : Int) < ((3 : Nat) : Int)), .eq true true, .eq ((a1 : Int) == 0) true, .pr (0 ≤ (2 : Int) ∧ (2 : Int) < ((3 : Nat) : Int)), .eq false false]) (by kernel_rfl) ⟨rfl, h0, (show 0 ≤ (0 : Int) ∧ (0 : Int) < ((3 : Nat) : Int) from by decide), rfl, h0, (show 0 ≤ (1 : Int) ∧ (1 : Int) < ((3 : Nat) : Int) from by decide), rfl, h0, (show 0 ≤ (2 : Int) ∧ (2 : Int) < ((3 : Nat) : Int) from by decide), rfl, trivial⟩
  | false =>
    cases h1 : ((a1 : Int) == 1) with
    | true =>
      have q0 := ne_of_beq_false h0
      have q1 := eq_of_beq h1
      have e : (F235_3 a0 a1) = ([a0.1.2.1, a0.2.1.2.1, a0.2.2.2.1] : List (Int)) := by simp only [F235_3, h0, h1, cond_true, cond_false]
      rw [e]
      refine con_of (n := 9) Tryz.func235 rfl (ent Tryz.func235 (by kernel_rfl) rfl) (by show 2 ≤ Tryz.f235.ntmps; decide) (by kernel_rfl) ⟨rfl, trivial⟩ (fun cx hcx => ?_)
      exact ret_of (T := T0) hT hm (f := 5000) (orc := [.un 200, .d true, .d false, .d true, .un 0, .d true, .d false, .d true, .un 0, .d true, .d false, .d true, .un 0, .d false]) [.sym 6 true] [] [6] hcx
        (obs := [.eq true true, .eq ((a1 : Int) == 0) false, .eq ((a1 : Int) == 1) true, .pr (0 ≤ (0 : Int) ∧ (0 : Int) < ((3 : Nat) : Int)), .eq true true, .eq ((a1 : Int) == 0) false, .eq ((a1 : Int) == 1) true, .pr (0 ≤ (1 : Int) ∧ (1 : Int) < ((3 : Nat) : Int)), .eq true true, .eq ((a1 : Int) == 0) false, .eq ((a1 : Int) == 1) true, .pr (0 ≤ (2 : Int) ∧ (2 : Int) < ((3 : Nat) : Int)), .eq false false]) (by kernel_rfl) ⟨rfl, h0, h1, (show 0 ≤ (0 : Int) ∧ (0 : Int) < ((3 : Nat) : Int) from by decide), rfl, h0, h1, (show 0 ≤ (1 : Int) ∧ (1 : Int) < ((3 : Nat) : Int) from by decide), rfl, h0, h1, (show 0 ≤ (2 : Int) ∧ (2 : Int) < ((3 : Nat) : Int) from by decide), rfl, trivial⟩
    | false =>
      have q0 := ne_of_beq_false h0
      have q1 := ne_of_beq_false h1
      have e : (F235_3 a0 a1) = ([a0.1.2.2, a0.2.1.2.2, a0.2.2.2.2] : List (Int)) := by simp only [F235_3, h0, h1, cond_true, cond_false]
      rw [e]
      refine con_of (n := 9) Tryz.func235 rfl (ent Tryz.func235 (by kernel_rfl) rfl) (by show 2 ≤ Tryz.f235.ntmps; decide) (by kernel_rfl) ⟨rfl, trivial⟩ (fun cx hcx => ?_)
      exact ret_of (T := T0) hT hm (f := 5000) (orc := [.un 200, .d true, .d false, .d false, .un 0, .d true, .d false, .d false, .un 0, .d true, .d false, .d false, .un 0, .d false]) [.sym 6 true] [] [6] hcx
        (obs := [.eq true true, .eq ((a1 : Int) == 0) false, .eq ((a1 : Int) == 1) false, .pr (0 ≤ (0 : Int) ∧ (0 : Int) < ((3 : Nat) : Int)), .eq true true, .eq ((a1 : Int) == 0) false, .eq ((a1 : Int) == 1) false, .pr (0 ≤ (1 : Int) ∧ (1 : Int) < ((3 : Nat) : Int)), .eq true true, .eq ((a1 : Int) == 0) false, .eq ((a1 : Int) == 1) false, .pr (0 ≤ (2 : Int) ∧ (2 : Int) < ((3 : Nat) : Int)), .eq false false]) (by kernel_rfl) ⟨rfl, h0, h1, (show 0 ≤ (0 : Int) ∧ (0 : Int) < ((3 : Nat) : Int) from by decide), rfl, h0, h1, (show 0 ≤ (1 : Int) ∧ (1 : Int) < ((3 : Nat) : Int) from by decide), rfl, h0, h1, (show 0 ≤ (2 : Int) ∧ (2 : Int) < ((3 : Nat) : Int) from by decide), rfl, trivial⟩

/-- facet/facetref03.axis at (1,) -/
def F235_1 (a0 : Int × Int × Int) (a1 : Int) : List (Int) :=
  (bif ((a1 : Int) == 0) then
   ([a0.1] : List (Int))
  else
   (bif ((a1 : Int) == 1) then
    ([a0.2.1] : List (Int))
   else
    ([a0.2.2] : List (Int))))

theorem C235_1 (a0 : Int × Int × Int) (a1 : Int) : Con Tryz.prog 235 [(.s 0 0 1 3), (iv a1)] [(.live false false (k3 a0))] (.s 1 0 (F235_1 a0 a1).length 1) [(.live true true (flat c3 (F235_1 a0 a1)))] := by
  cases h0 : ((a1 : Int) == 0) with
  | true =>
    have q0 := eq_of_beq h0
    have e : (F235_1 a0 a1) = ([a0.1] : List (Int)) := by simp only [F235_1, h0, cond_true, cond_false]
    rw [e]
    refine con_of (n := 9) Tryz.func235 rfl (ent Tryz.func235 (by kernel_rfl) rfl) (by show 2 ≤ Tryz.f235.ntmps; decide) (by kernel_rfl) ⟨rfl, trivial⟩ (fun cx hcx => ?_)
    exact ret_of (T := T0) hT hm (f := 5000) (orc := [.un 200, .d true, .d true, .un 0, .d false]) [.sym 2 true] [] [2] hcx
      (obs := [.eq true true, .eq ((a1 : Int) == 0) true, .pr (0 ≤ (0 : Int) ∧ (0 : Int) < ((1 : Nat) : Int)), .eq false false]) (by kernel_rfl) ⟨rfl, h0, (show 0 ≤ (0 : Int) ∧ (0 : Int) < ((1 : Nat) : Int) from by decide), rfl, trivial⟩
  | false =>
    cases h1 : ((a1 : Int) == 1) with
    | true =>
      have q0 := ne_of_beq_false h0
      have q1 := eq_of_beq h1
      have e : (F235_1 a0 a1) = ([a0.2.1] : List (Int)) := by simp only [F235_1, h0, h1, cond_true, cond_false]
      rw [e]
      refine con_of (n := 9) Tryz.func235 rfl (ent Tryz.func235 (by kernel_rfl) rfl) (by show 2 ≤ Tryz.f235.ntmps; decide) (by kernel_rfl) ⟨rfl, trivial⟩ (fun cx hcx => ?_)
      exact ret_of (T := T0) hT hm (f := 5000) (orc := [.un 200, .d true, .d false, .d true, .un 0, .d false]) [.sym 2 true] [] [2] hcx
        (obs := [.eq true true, .eq ((a1 : Int) == 0) false, .eq ((a1 : Int) == 1) true, .pr (0 ≤ (0 : Int) ∧ (0 : Int) < ((1 : Nat) : Int)), .eq false false]) (by kernel_rfl) ⟨rfl, h0, h1, (show 0 ≤ (0 : Int) ∧ (0 : Int) < ((1 : Nat) : Int) from by decide), rfl, trivial⟩
    | false =>
      have q0 := ne_of_beq_false h0
      have q1 := ne_of_beq_false h1
      have e : (F235_1 a0 a1) = ([a0.2.2] : List (Int)) := by simp only [F235_1, h0, h1, cond_true, cond_false]
      rw [e]
      refine con_of (n := 9) Tryz.func235 rfl (ent Tryz.func235 (by kernel_rfl) rfl) (by show 2 ≤ Tryz.f235.ntmps; decide) (by kernel_rfl) ⟨rfl, trivial⟩ (fun cx hcx => ?_)
      exact ret_of (T := T0) hT hm (f := 5000) (orc := [.un 200, .d true, .d false, .d false, .un 0, .d false]) [.sym 2 true] [] [2] hcx
        (obs := [.eq true true, .eq ((a1 : Int) == 0) false, .eq ((a1 : Int) == 1) false, .pr (0 ≤ (0 : Int) ∧ (0 : Int) < ((1 : Nat) : Int)), .eq false false]) (by kernel_rfl) ⟨rfl, h0, h1, (show 0 ≤ (0 : Int) ∧ (0 : Int) < ((1 : Nat) : Int) from by decide), rfl, trivial⟩

theorem win_ne {a b c : Int} (h : (!(F137 a b c)) = false) (hb : 1 ≤ b := by omega) : a ≠ 0 := by
  unfold F137 at h
  cases h1 : decide ((a : Int) ≥ b) with
  | true => have := of_decide_eq_true h1; omega
  | false => simp [h1] at h
theorem cube_ne {n : Int} (h1 : 1 ≤ n) (h2 : n ≤ 1048576) : W ((W (n * n)) * n) ≠ 0 := by
  have a1 : 1 * 1 ≤ n * n := Int.mul_le_mul h1 h1 (by omega) (by omega)
  have a2 : n * n ≤ 1048576 * 1048576 := Int.mul_le_mul h2 h2 (by omega) (by omega)
  have b1 : 1 * 1 ≤ n * n * n := Int.mul_le_mul (by omega) h1 (by omega) (by omega)
  have b2 : n * n * n ≤ 1048576 * 1048576 * 1048576 := Int.mul_le_mul a2 h2 (by omega) (by omega)
  rw [W_eq (n := n * n) (by omega) (by omega), W_eq (by omega) (by omega)]
  omega
theorem win_ge {a b c : Int} (h : (!(F137 a b c)) = false) : b ≤ a := by
  unfold F137 at h
  cases h1 : decide ((a : Int) ≥ b) with
  | true => have := of_decide_eq_true h1; omega
  | false => simp [h1] at h
theorem axis3 (a : (Int × Int × Int) × (Int × Int × Int) × (Int × Int × Int)) (k : Int) : (F235_3 a k).length = 3 := by
  unfold F235_3
  cases ((k : Int) == 0) <;> cases ((k : Int) == 1) <;> rfl
theorem axis1 (a : Int × Int × Int) (k : Int) : (F235_1 a k).length = 1 := by
  unfold F235_1
  cases ((k : Int) == 0) <;> cases ((k : Int) == 1) <;> rfl

/-- facet/facetref01.Down -/
def F205 (a0 : Int) (a1 : Int) : Int :=
  (bif (decide (((Int.tmod a0 a1) : Int) < 0)) then
   (W ((W (Int.tdiv a0 a1)) - 1))
  else
   (W (Int.tdiv a0 a1)))

theorem C205 (a0 : Int) (a1 : Int) (ha : a1 ≠ 0) : Con Tryz.prog 205 [(iv a0), (iv a1)] [] (iv (F205 a0 a1)) [] := by
  cases h0 : (decide (((Int.tmod a0 a1) : Int) < 0)) with
  | true =>
    have q0 := of_decide_eq_true h0
    have e : (F205 a0 a1) = (W ((W (Int.tdiv a0 a1)) - 1)) := by simp only [F205, h0, cond_true, cond_false]
    rw [e]
    refine con_of (n := 9) Tryz.func205 rfl (ent Tryz.func205 (by kernel_rfl) rfl) (by show 2 ≤ Tryz.f205.ntmps; decide) (by kernel_rfl) trivial (fun cx hcx => ?_)
    exact ret_of (T := T0) hT hm (f := 5000) (orc := [.d true]) [] [] [] hcx
      (obs := [.pr ((a1 : Int) ≠ 0), .pr ((a1 : Int) ≠ 0), .eq (decide (((Int.tmod a0 a1) : Int) < 0)) true]) (by kernel_rfl) ⟨(show (a1 : Int) ≠ 0 from by first | omega | (rw [W_eq] <;> omega) | exact u64_nn _), (show (a1 : Int) ≠ 0 from by first | omega | (rw [W_eq] <;> omega) | exact u64_nn _), h0, trivial⟩
  | false =>
    have q0 := of_decide_eq_false h0
    have e : (F205 a0 a1) = (W (Int.tdiv a0 a1)) := by simp only [F205, h0, cond_true, cond_false]
    rw [e]
    refine con_of (n := 9) Tryz.func205 rfl (ent Tryz.func205 (by kernel_rfl) rfl) (by show 2 ≤ Tryz.f205.ntmps; decide) (by kernel_rfl) trivial (fun cx hcx => ?_)
    exact ret_of (T := T0) hT hm (f := 5000) (orc := [.d false]) [] [] [] hcx
      (obs := [.pr ((a1 : Int) ≠ 0), .pr ((a1 : Int) ≠ 0), .eq (decide (((Int.tmod a0 a1) : Int) < 0)) false]) (by kernel_rfl) ⟨(show (a1 : Int) ≠ 0 from by first | omega | (rw [W_eq] <;> omega) | exact u64_nn _), (show (a1 : Int) ≠ 0 from by first | omega | (rw [W_eq] <;> omega) | exact u64_nn _), h0, trivial⟩

/-- facet/facetref01.Up -/
def F206 (a0 : Int) (a1 : Int) : Int :=
  (W (0 - (F205 (W (0 - a0)) a1)))

theorem C206 (a0 : Int) (a1 : Int) (ha : a1 ≠ 0) : Con Tryz.prog 206 [(iv a0), (iv a1)] [] (iv (F206 a0 a1)) [] := by
  have e : (F206 a0 a1) = (W (0 - (F205 (W (0 - a0)) a1))) := by simp only [F206]
  rw [e]
  refine con_of (n := 9) Tryz.func206 rfl (ent Tryz.func206 (by kernel_rfl) rfl) (by show 2 ≤ Tryz.f206.ntmps; decide) (by kernel_rfl) trivial (fun cx hcx => ?_)
  exact ret_of (T := T0) hT hm (f := 5000) (orc := [.call [] (iv (F205 (W (0 - a0)) a1)) []]) [] [] [] hcx
    (obs := [.call 205 [(iv (W (0 - a0))), (iv a1)] [] (iv (F205 (W (0 - a0)) a1)) []]) (by kernel_rfl) ⟨(C205 (W (0 - a0)) a1  (by (try simp only [List.length_append, List.length_cons, List.length_nil, Int.toNat_zero, axis3, axis1]); omega)), trivial⟩

/-- facet/facetref01.told -/
def F138 (a0 : Int) (a1 : Int) : (Int × Int) × Int :=
  (bif (!(F110 (a0, a1))) then
   ((0, 0), 4)
  else
   ((a0, a1), 0))

theorem C138 (a0 : Int) (a1 : Int) : Con Tryz.prog 138 [(iv a0), (iv a1)] [] (.t [(.a (k2 (F138 a0 a1).1)), (iv (F138 a0 a1).2)]) [] := by
  cases h0 : (!(F110 (a0, a1))) with
  | true =>
    have e : (F138 a0 a1) = ((0, 0), 4) := by simp only [F138, h0, cond_true, cond_false]
    rw [e]
    refine con_of (n := 9) Tryz.func138 rfl (ent Tryz.func138 (by kernel_rfl) rfl) (by show 2 ≤ Tryz.f138.ntmps; decide) (by kernel_rfl) trivial (fun cx hcx => ?_)
    exact ret_of (T := T0) hT hm (f := 5000) (orc := [.call [] (.v (.bool (F110 (a0, a1)))) [], .d true]) [] [] [] hcx
      (obs := [.call 110 [(.a [(iv a0), (iv a1)])] [] (.v (.bool (F110 (a0, a1)))) [], .eq (!(F110 (a0, a1))) true]) (by kernel_rfl) ⟨(C110 (a0, a1)), h0, trivial⟩
  | false =>
    have e : (F138 a0 a1) = ((a0, a1), 0) := by simp only [F138, h0, cond_true, cond_false]
    rw [e]
    refine con_of (n := 9) Tryz.func138 rfl (ent Tryz.func138 (by kernel_rfl) rfl) (by show 2 ≤ Tryz.f138.ntmps; decide) (by kernel_rfl) trivial (fun cx hcx => ?_)
    exact ret_of (T := T0) hT hm (f := 5000) (orc := [.call [] (.v (.bool (F110 (a0, a1)))) [], .d false]) [] [] [] hcx
      (obs := [.call 110 [(.a [(iv a0), (iv a1)])] [] (.v (.bool (F110 (a0, a1)))) [], .eq (!(F110 (a0, a1))) false]) (by kernel_rfl) ⟨(C110 (a0, a1)), h0, trivial⟩

noncomputable def B245_0 : Code := (loopAtD [1, 1, 0] [] (Tryz.f245.body.getD .skip) []).1
noncomputable def K245_0 : List K := (loopAtD [1, 1, 0] [] (Tryz.f245.body.getD .skip) []).2

/-- a round of loop 0 of facet/facetref01.floor; the variables: v2 = s3, v3 = s4 -/
def S245_0 (a0 : Int) : Int × Int → (Int × Int) ⊕ (Int)
  | (v2, v3) =>
   (bif (decide ((v2 : Int) < v3)) then
    (bif (decide (((W ((W (Int.tdiv (W ((W (v2 + v3)) + 1)) 2)) * (W (Int.tdiv (W ((W (v2 + v3)) + 1)) 2)))) : Int) ≤ a0)) then
     (.inl ((W (Int.tdiv (W ((W (v2 + v3)) + 1)) 2)), v3))
    else
     (.inl (v2, (W ((W (Int.tdiv (W ((W (v2 + v3)) + 1)) 2)) - 1)))))
   else
    (.inr v2))

set_option maxHeartbeats 4000000 in
theorem L245_0 (a0 : Int) {cx : Cx} (hcx : cx.base = 0) : ∀ (n : Nat) (v2 : Int) (v3 : Int), (0 ≤ v2) ∧ (0 ≤ v2) ∧ (v2 ≤ v3) ∧ (v3 ≤ 2147483648) → Int.toNat (v3 - v2) < n → Aw.Good Tryz.prog none 9 (bodyPost Tryz.prog Tryz.f245 (RR cx (iv (loopF (S245_0 a0) n (v2, v3))) [] [])) cx [] (.l B245_0 n :: K245_0) ⟨[(iv a0), .u, .u, (iv v2), (iv v3), .u, .u, .u, .u, .u, .u, .u, .u, .u, .u, .u, .u, .u, .u, .u, .u, .u, .u], []⟩ := by
  intro n
  induction n with
  | zero => intro v2 v3 hi hn; exact absurd hn (Nat.not_lt_zero _)
  | succ n ih =>
    intro v2 v3 hi hn
    refine good_round ?_
    cases h0 : (decide ((v2 : Int) < v3)) with
    | true =>
      cases h1 : (decide (((W ((W (Int.tdiv (W ((W (v2 + v3)) + 1)) 2)) * (W (Int.tdiv (W ((W (v2 + v3)) + 1)) 2)))) : Int) ≤ a0)) with
      | true =>
        have q0 := of_decide_eq_true h0
        have q1 := of_decide_eq_true h1
        have hw := mid1_eq (a := v2) (b := v3) (by omega)
        have hw2 := mid2_eq (a := v2) (b := v3) (by omega)
        have e : S245_0 a0 (v2, v3) = (.inl ((W (Int.tdiv (W ((W (v2 + v3)) + 1)) 2)), v3)) := by simp only [S245_0, h0, h1, cond_true, cond_false]
        rw [loopF_inl e]
        refine back_of (T := T0) hT hm (f := 5000) (orc := [.d true, .d true]) [] [0, 3, 4] [] hcx (body := B245_0) (m := n) (k' := K245_0) (s' := ⟨[(iv a0), .u, .u, (iv (W (Int.tdiv (W ((W (v2 + v3)) + 1)) 2))), (iv v3), .u, .u, .u, .u, .u, .u, .u, .u, .u, .u, .u, .u, .u, .u, .u, .u, .u, .u], []⟩)
          (obs := [.eq (decide ((v2 : Int) < v3)) true, .pr ((2 : Int) ≠ 0), .eq (decide (((W ((W (Int.tdiv (W ((W (v2 + v3)) + 1)) 2)) * (W (Int.tdiv (W ((W (v2 + v3)) + 1)) 2)))) : Int) ≤ a0)) true]) (by kernel_rfl) ⟨h0, (show (2 : Int) ≠ 0 from by decide), h1, trivial⟩ ?_
        exact ih (W (Int.tdiv (W ((W (v2 + v3)) + 1)) 2)) v3 (by refine ⟨?_, ?_, ?_, ?_⟩ <;> (try simp only [List.length_append, List.length_cons, List.length_nil, Int.toNat_zero]) <;> first | omega | assumption | simp) (by (try simp only [List.length_append, List.length_cons, List.length_nil, Int.toNat_zero]); omega)
      | false =>
        have q0 := of_decide_eq_true h0
        have q1 := of_decide_eq_false h1
        have hw := mid1_eq (a := v2) (b := v3) (by omega)
        have hw2 := mid2_eq (a := v2) (b := v3) (by omega)
        have e : S245_0 a0 (v2, v3) = (.inl (v2, (W ((W (Int.tdiv (W ((W (v2 + v3)) + 1)) 2)) - 1)))) := by simp only [S245_0, h0, h1, cond_true, cond_false]
        rw [loopF_inl e]
        refine back_of (T := T0) hT hm (f := 5000) (orc := [.d true, .d false]) [] [0, 3, 4] [] hcx (body := B245_0) (m := n) (k' := K245_0) (s' := ⟨[(iv a0), .u, .u, (iv v2), (iv (W ((W (Int.tdiv (W ((W (v2 + v3)) + 1)) 2)) - 1))), .u, .u, .u, .u, .u, .u, .u, .u, .u, .u, .u, .u, .u, .u, .u, .u, .u, .u], []⟩)
          (obs := [.eq (decide ((v2 : Int) < v3)) true, .pr ((2 : Int) ≠ 0), .eq (decide (((W ((W (Int.tdiv (W ((W (v2 + v3)) + 1)) 2)) * (W (Int.tdiv (W ((W (v2 + v3)) + 1)) 2)))) : Int) ≤ a0)) false]) (by kernel_rfl) ⟨h0, (show (2 : Int) ≠ 0 from by decide), h1, trivial⟩ ?_
        exact ih v2 (W ((W (Int.tdiv (W ((W (v2 + v3)) + 1)) 2)) - 1)) (by refine ⟨?_, ?_, ?_, ?_⟩ <;> (try simp only [List.length_append, List.length_cons, List.length_nil, Int.toNat_zero]) <;> first | omega | assumption | simp) (by (try simp only [List.length_append, List.length_cons, List.length_nil, Int.toNat_zero]); omega)
    | false =>
      have q0 := of_decide_eq_false h0
      have hw := mid1_eq (a := v2) (b := v3) (by omega)
      have hw2 := mid2_eq (a := v2) (b := v3) (by omega)
      have e : S245_0 a0 (v2, v3) = (.inr v2) := by simp only [S245_0, h0, cond_true, cond_false]
      rw [show loopF (S245_0 a0) (n + 1) (v2, v3) = thenF (S245_0 a0) n (S245_0 a0 (v2, v3)) from rfl, e]
      exact ret_of (T := T0) hT hm (f := 5000) (orc := [.d false]) [] [] [] hcx
        (obs := [.eq (decide ((v2 : Int) < v3)) false]) (by kernel_rfl) ⟨h0, trivial⟩

/-- facet/facetref01.floor -/
def F245 (a0 : Int) : Int :=
  (loopF (S245_0 a0) (Int.toNat (2147483648 - 0) + 1) (0, 2147483648))

theorem C245 (a0 : Int) : Con Tryz.prog 245 [(iv a0)] [] (iv (F245 a0)) [] := by
  have e : (F245 a0) = (loopF (S245_0 a0) (Int.toNat (2147483648 - 0) + 1) (0, 2147483648)) := by simp only [F245]
  rw [e]
  refine con_of (n := 9) Tryz.func245 rfl (ent Tryz.func245 (by kernel_rfl) rfl) (by show 1 ≤ Tryz.f245.ntmps; decide) (by kernel_rfl) trivial (fun cx hcx => ?_)
  refine enter_of (T := T0) hT hm (f := 5000) (orc := []) [] [0, 3, 4] [] hcx (body := B245_0) (k' := K245_0) (s' := ⟨[(iv a0), .u, .u, (iv 0), (iv 2147483648), .u, .u, .u, .u, .u, .u, .u, .u, .u, .u, .u, .u, .u, .u, .u, .u, .u, .u], []⟩)
    (obs := []) (by kernel_rfl) trivial ⟨Int.toNat (2147483648 - 0) + 1, ?_⟩
  exact L245_0 a0 hcx (Int.toNat (2147483648 - 0) + 1) 0 2147483648 (by refine ⟨?_, ?_, ?_, ?_⟩ <;> (try simp only [List.length_append, List.length_cons, List.length_nil, Int.toNat_zero]) <;> first | omega | assumption | simp) (by (try simp only [List.length_append, List.length_cons, List.length_nil, Int.toNat_zero]); omega)

/-- facet/facetref01.below -/
def F236 (a0 : Int) (a1 : Int) : (Int × Int) × Int :=
  (bif (((Int.tmod a0 a1) : Int) == 0) then
   (bif (((W ((F245 (W (Int.tdiv a0 a1))) * (F245 (W (Int.tdiv a0 a1))))) : Int) == (W (Int.tdiv a0 a1))) then
    ((F138 (F245 (W (Int.tdiv a0 a1))) (F245 (W (Int.tdiv a0 a1)))).1, (F138 (F245 (W (Int.tdiv a0 a1))) (F245 (W (Int.tdiv a0 a1)))).2)
   else
    ((F138 (F245 (W (Int.tdiv a0 a1))) (W ((F245 (W (Int.tdiv a0 a1))) + 1))).1, (F138 (F245 (W (Int.tdiv a0 a1))) (W ((F245 (W (Int.tdiv a0 a1))) + 1))).2))
  else
   ((F138 (F245 (W (Int.tdiv a0 a1))) (W ((F245 (W (Int.tdiv a0 a1))) + 1))).1, (F138 (F245 (W (Int.tdiv a0 a1))) (W ((F245 (W (Int.tdiv a0 a1))) + 1))).2))

noncomputable def oC236_0 (a0 : Int) (a1 : Int) : Or := .call [] (.t [(.a (k2 (F138 (F245 (W (Int.tdiv a0 a1))) (W ((F245 (W (Int.tdiv a0 a1))) + 1))).1)), (iv (F138 (F245 (W (Int.tdiv a0 a1))) (W ((F245 (W (Int.tdiv a0 a1))) + 1))).2)]) []
noncomputable def oC236_1 (a0 : Int) (a1 : Int) : Ob := .call 138 [(iv (F245 (W (Int.tdiv a0 a1)))), (iv (W ((F245 (W (Int.tdiv a0 a1))) + 1)))] [] (.t [(.a (k2 (F138 (F245 (W (Int.tdiv a0 a1))) (W ((F245 (W (Int.tdiv a0 a1))) + 1))).1)), (iv (F138 (F245 (W (Int.tdiv a0 a1))) (W ((F245 (W (Int.tdiv a0 a1))) + 1))).2)]) []
theorem C236 (a0 : Int) (a1 : Int) (ha : a1 ≠ 0) : Con Tryz.prog 236 [(iv a0), (iv a1)] [] (.t [(.a (k2 (F236 a0 a1).1)), (iv (F236 a0 a1).2)]) [] := by
  cases h0 : (((Int.tmod a0 a1) : Int) == 0) with
  | true =>
    cases h1 : (((W ((F245 (W (Int.tdiv a0 a1))) * (F245 (W (Int.tdiv a0 a1))))) : Int) == (W (Int.tdiv a0 a1))) with
    | true =>
      have q0 := eq_of_beq h0
      have q1 := eq_of_beq h1
      have e : (F236 a0 a1) = ((F138 (F245 (W (Int.tdiv a0 a1))) (F245 (W (Int.tdiv a0 a1)))).1, (F138 (F245 (W (Int.tdiv a0 a1))) (F245 (W (Int.tdiv a0 a1)))).2) := by simp only [F236, h0, h1, cond_true, cond_false]
      rw [e]
      refine con_of (n := 9) Tryz.func236 rfl (ent Tryz.func236 (by kernel_rfl) rfl) (by show 2 ≤ Tryz.f236.ntmps; decide) (by kernel_rfl) trivial (fun cx hcx => ?_)
      exact ret_of (T := T0) hT hm (f := 5000) (orc := [.call [] (iv (F245 (W (Int.tdiv a0 a1)))) [], .d true, .d true, .call [] (.t [(.a (k2 (F138 (F245 (W (Int.tdiv a0 a1))) (F245 (W (Int.tdiv a0 a1)))).1)), (iv (F138 (F245 (W (Int.tdiv a0 a1))) (F245 (W (Int.tdiv a0 a1)))).2)]) []]) [] [] [] hcx
        (obs := [.pr ((a1 : Int) ≠ 0), .call 245 [(iv (W (Int.tdiv a0 a1)))] [] (iv (F245 (W (Int.tdiv a0 a1)))) [], .pr ((a1 : Int) ≠ 0), .eq (((Int.tmod a0 a1) : Int) == 0) true, .pr ((a1 : Int) ≠ 0), .eq (((W ((F245 (W (Int.tdiv a0 a1))) * (F245 (W (Int.tdiv a0 a1))))) : Int) == (W (Int.tdiv a0 a1))) true, .call 138 [(iv (F245 (W (Int.tdiv a0 a1)))), (iv (F245 (W (Int.tdiv a0 a1))))] [] (.t [(.a (k2 (F138 (F245 (W (Int.tdiv a0 a1))) (F245 (W (Int.tdiv a0 a1)))).1)), (iv (F138 (F245 (W (Int.tdiv a0 a1))) (F245 (W (Int.tdiv a0 a1)))).2)]) []]) (by kernel_rfl) ⟨(show (a1 : Int) ≠ 0 from by first | omega | (rw [W_eq] <;> omega) | exact u64_nn _), (C245 (W (Int.tdiv a0 a1))), (show (a1 : Int) ≠ 0 from by first | omega | (rw [W_eq] <;> omega) | exact u64_nn _), h0, (show (a1 : Int) ≠ 0 from by first | omega | (rw [W_eq] <;> omega) | exact u64_nn _), h1, (C138 (F245 (W (Int.tdiv a0 a1))) (F245 (W (Int.tdiv a0 a1)))), trivial⟩
    | false =>
      have q0 := eq_of_beq h0
      have q1 := ne_of_beq_false h1
      have e : (F236 a0 a1) = ((F138 (F245 (W (Int.tdiv a0 a1))) (W ((F245 (W (Int.tdiv a0 a1))) + 1))).1, (F138 (F245 (W (Int.tdiv a0 a1))) (W ((F245 (W (Int.tdiv a0 a1))) + 1))).2) := by simp only [F236, h0, h1, cond_true, cond_false]
      rw [e]
      refine con_of (n := 9) Tryz.func236 rfl (ent Tryz.func236 (by kernel_rfl) rfl) (by show 2 ≤ Tryz.f236.ntmps; decide) (by kernel_rfl) trivial (fun cx hcx => ?_)
      exact ret_of (T := T0) hT hm (f := 5000) (orc := [.call [] (iv (F245 (W (Int.tdiv a0 a1)))) [], .d true, .d false, (oC236_0 a0 a1)]) [] [] [] hcx
        (obs := [.pr ((a1 : Int) ≠ 0), .call 245 [(iv (W (Int.tdiv a0 a1)))] [] (iv (F245 (W (Int.tdiv a0 a1)))) [], .pr ((a1 : Int) ≠ 0), .eq (((Int.tmod a0 a1) : Int) == 0) true, .pr ((a1 : Int) ≠ 0), .eq (((W ((F245 (W (Int.tdiv a0 a1))) * (F245 (W (Int.tdiv a0 a1))))) : Int) == (W (Int.tdiv a0 a1))) false, (oC236_1 a0 a1)]) (by kernel_rfl) ⟨(show (a1 : Int) ≠ 0 from by first | omega | (rw [W_eq] <;> omega) | exact u64_nn _), (C245 (W (Int.tdiv a0 a1))), (show (a1 : Int) ≠ 0 from by first | omega | (rw [W_eq] <;> omega) | exact u64_nn _), h0, (show (a1 : Int) ≠ 0 from by first | omega | (rw [W_eq] <;> omega) | exact u64_nn _), h1, (C138 (F245 (W (Int.tdiv a0 a1))) (W ((F245 (W (Int.tdiv a0 a1))) + 1))), trivial⟩
  | false =>
    have q0 := ne_of_beq_false h0
    have e : (F236 a0 a1) = ((F138 (F245 (W (Int.tdiv a0 a1))) (W ((F245 (W (Int.tdiv a0 a1))) + 1))).1, (F138 (F245 (W (Int.tdiv a0 a1))) (W ((F245 (W (Int.tdiv a0 a1))) + 1))).2) := by simp only [F236, h0, cond_true, cond_false]
    rw [e]
    refine con_of (n := 9) Tryz.func236 rfl (ent Tryz.func236 (by kernel_rfl) rfl) (by show 2 ≤ Tryz.f236.ntmps; decide) (by kernel_rfl) trivial (fun cx hcx => ?_)
    exact ret_of (T := T0) hT hm (f := 5000) (orc := [.call [] (iv (F245 (W (Int.tdiv a0 a1)))) [], .d false, (oC236_0 a0 a1)]) [] [] [] hcx
      (obs := [.pr ((a1 : Int) ≠ 0), .call 245 [(iv (W (Int.tdiv a0 a1)))] [] (iv (F245 (W (Int.tdiv a0 a1)))) [], .pr ((a1 : Int) ≠ 0), .eq (((Int.tmod a0 a1) : Int) == 0) false, (oC236_1 a0 a1)]) (by kernel_rfl) ⟨(show (a1 : Int) ≠ 0 from by first | omega | (rw [W_eq] <;> omega) | exact u64_nn _), (C245 (W (Int.tdiv a0 a1))), (show (a1 : Int) ≠ 0 from by first | omega | (rw [W_eq] <;> omega) | exact u64_nn _), h0, (C138 (F245 (W (Int.tdiv a0 a1))) (W ((F245 (W (Int.tdiv a0 a1))) + 1))), trivial⟩

/-- facet/facetref01.Inverse -/
def F202 (a0 : Int) (a1 : Int) : (Int × Int) × Int :=
  (bif (!(F137 a0 1 1099511627776)) then
   ((0, 0), 1)
  else
   (bif (!(F137 a1 1 8)) then
    ((0, 0), 1)
   else
    ((F236 (W ((W ((W (1048576 * a1)) * 1048576)) * a1)) a0).1, (F236 (W ((W ((W (1048576 * a1)) * 1048576)) * a1)) a0).2)))

noncomputable def oC202_0 (a0 : Int) : Ob := .call 137 [(iv a0), (iv 1), (iv 1099511627776)] [] (.v (.bool (F137 a0 1 1099511627776))) []
theorem C202 (a0 : Int) (a1 : Int) : Con Tryz.prog 202 [(iv a0), (iv a1)] [] (.t [(.a (k2 (F202 a0 a1).1)), (iv (F202 a0 a1).2)]) [] := by
  cases h0 : (!(F137 a0 1 1099511627776)) with
  | true =>
    have e : (F202 a0 a1) = ((0, 0), 1) := by simp only [F202, h0, cond_true, cond_false]
    rw [e]
    refine con_of (n := 9) Tryz.func202 rfl (ent Tryz.func202 (by kernel_rfl) rfl) (by show 2 ≤ Tryz.f202.ntmps; decide) (by kernel_rfl) trivial (fun cx hcx => ?_)
    exact ret_of (T := T0) hT hm (f := 5000) (orc := [.call [] (.v (.bool (F137 a0 1 1099511627776))) [], .d true]) [] [] [] hcx
      (obs := [(oC202_0 a0), .eq (!(F137 a0 1 1099511627776)) true]) (by kernel_rfl) ⟨(C137 a0 1 1099511627776), h0, trivial⟩
  | false =>
    cases h1 : (!(F137 a1 1 8)) with
    | true =>
      have e : (F202 a0 a1) = ((0, 0), 1) := by simp only [F202, h0, h1, cond_true, cond_false]
      rw [e]
      refine con_of (n := 9) Tryz.func202 rfl (ent Tryz.func202 (by kernel_rfl) rfl) (by show 2 ≤ Tryz.f202.ntmps; decide) (by kernel_rfl) trivial (fun cx hcx => ?_)
      exact ret_of (T := T0) hT hm (f := 5000) (orc := [.call [] (.v (.bool (F137 a0 1 1099511627776))) [], .d false, .call [] (.v (.bool (F137 a1 1 8))) [], .d true]) [] [] [] hcx
        (obs := [(oC202_0 a0), .eq (!(F137 a0 1 1099511627776)) false, .call 137 [(iv a1), (iv 1), (iv 8)] [] (.v (.bool (F137 a1 1 8))) [], .eq (!(F137 a1 1 8)) true]) (by kernel_rfl) ⟨(C137 a0 1 1099511627776), h0, (C137 a1 1 8), h1, trivial⟩
    | false =>
      have e : (F202 a0 a1) = ((F236 (W ((W ((W (1048576 * a1)) * 1048576)) * a1)) a0).1, (F236 (W ((W ((W (1048576 * a1)) * 1048576)) * a1)) a0).2) := by simp only [F202, h0, h1, cond_true, cond_false]
      rw [e]
      refine con_of (n := 9) Tryz.func202 rfl (ent Tryz.func202 (by kernel_rfl) rfl) (by show 2 ≤ Tryz.f202.ntmps; decide) (by kernel_rfl) trivial (fun cx hcx => ?_)
      exact ret_of (T := T0) hT hm (f := 5000) (orc := [.call [] (.v (.bool (F137 a0 1 1099511627776))) [], .d false, .call [] (.v (.bool (F137 a1 1 8))) [], .d false, .call [] (.t [(.a (k2 (F236 (W ((W ((W (1048576 * a1)) * 1048576)) * a1)) a0).1)), (iv (F236 (W ((W ((W (1048576 * a1)) * 1048576)) * a1)) a0).2)]) []]) [] [] [] hcx
        (obs := [(oC202_0 a0), .eq (!(F137 a0 1 1099511627776)) false, .call 137 [(iv a1), (iv 1), (iv 8)] [] (.v (.bool (F137 a1 1 8))) [], .eq (!(F137 a1 1 8)) false, .call 236 [(iv (W ((W ((W (1048576 * a1)) * 1048576)) * a1))), (iv a0)] [] (.t [(.a (k2 (F236 (W ((W ((W (1048576 * a1)) * 1048576)) * a1)) a0).1)), (iv (F236 (W ((W ((W (1048576 * a1)) * 1048576)) * a1)) a0).2)]) []]) (by kernel_rfl) ⟨(C137 a0 1 1099511627776), h0, (C137 a1 1 8), h1, (C236 (W ((W ((W (1048576 * a1)) * 1048576)) * a1)) a0  (win_ne h0)), trivial⟩

/-- facet/facetref02.Minus -/
def F214 (a0 : Int × Int × Int) (a1 : Int × Int × Int) : Int × Int × Int :=
  ((W (a0.1 - a1.1)), (W (a0.2.1 - a1.2.1)), (W (a0.2.2 - a1.2.2)))

theorem C214 (a0 : Int × Int × Int) (a1 : Int × Int × Int) : Con Tryz.prog 214 [(.a (k3 a0)), (.a (k3 a1))] [] (.a (k3 (F214 a0 a1))) [] := by
  have e : (F214 a0 a1) = ((W (a0.1 - a1.1)), (W (a0.2.1 - a1.2.1)), (W (a0.2.2 - a1.2.2))) := by simp only [F214]
  rw [e]
  refine con_of (n := 9) Tryz.func214 rfl (ent Tryz.func214 (by kernel_rfl) rfl) (by show 2 ≤ Tryz.f214.ntmps; decide) (by kernel_rfl) trivial (fun cx hcx => ?_)
  exact ret_of (T := T0) hT hm (f := 5000) (orc := []) [] [] [] hcx
    (obs := []) (by kernel_rfl) trivial

/-- facet/facetref02.Cross -/
def F215 (a0 : Int × Int × Int) (a1 : Int × Int × Int) : Int × Int × Int :=
  ((W ((W (a0.2.1 * a1.2.2)) - (W (a0.2.2 * a1.2.1)))), (W ((W (a0.2.2 * a1.1)) - (W (a0.1 * a1.2.2)))), (W ((W (a0.1 * a1.2.1)) - (W (a0.2.1 * a1.1)))))

theorem C215 (a0 : Int × Int × Int) (a1 : Int × Int × Int) : Con Tryz.prog 215 [(.a (k3 a0)), (.a (k3 a1))] [] (.a (k3 (F215 a0 a1))) [] := by
  have e : (F215 a0 a1) = ((W ((W (a0.2.1 * a1.2.2)) - (W (a0.2.2 * a1.2.1)))), (W ((W (a0.2.2 * a1.1)) - (W (a0.1 * a1.2.2)))), (W ((W (a0.1 * a1.2.1)) - (W (a0.2.1 * a1.1))))) := by simp only [F215]
  rw [e]
  refine con_of (n := 9) Tryz.func215 rfl (ent Tryz.func215 (by kernel_rfl) rfl) (by show 2 ≤ Tryz.f215.ntmps; decide) (by kernel_rfl) trivial (fun cx hcx => ?_)
  exact ret_of (T := T0) hT hm (f := 5000) (orc := []) [] [] [] hcx
    (obs := []) (by kernel_rfl) trivial

/-- facet/facetref02.Across -/
def F162 (a0 : (Int × Int × Int) × (Int × Int × Int) × Int × Int × Int) : Int × Int × Int :=
  (F215 (F214 a0.2.1 a0.1) (F214 a0.2.2 a0.1))

theorem C162 (a0 : (Int × Int × Int) × (Int × Int × Int) × Int × Int × Int) : Con Tryz.prog 162 [(.a (k9 a0))] [] (.a (k3 (F162 a0))) [] := by
  have e : (F162 a0) = (F215 (F214 a0.2.1 a0.1) (F214 a0.2.2 a0.1)) := by simp only [F162]
  rw [e]
  refine con_of (n := 9) Tryz.func162 rfl (ent Tryz.func162 (by kernel_rfl) rfl) (by show 1 ≤ Tryz.f162.ntmps; decide) (by kernel_rfl) trivial (fun cx hcx => ?_)
  exact ret_of (T := T0) hT hm (f := 5000) (orc := [.call [] (.a (k3 (F214 a0.2.1 a0.1))) [], .call [] (.a (k3 (F214 a0.2.2 a0.1))) [], .call [] (.a (k3 (F215 (F214 a0.2.1 a0.1) (F214 a0.2.2 a0.1)))) []]) [] [] [] hcx
    (obs := [.call 214 [(.a (k3 a0.2.1)), (.a (k3 a0.1))] [] (.a (k3 (F214 a0.2.1 a0.1))) [], .call 214 [(.a (k3 a0.2.2)), (.a (k3 a0.1))] [] (.a (k3 (F214 a0.2.2 a0.1))) [], .call 215 [(.a (k3 (F214 a0.2.1 a0.1))), (.a (k3 (F214 a0.2.2 a0.1)))] [] (.a (k3 (F215 (F214 a0.2.1 a0.1) (F214 a0.2.2 a0.1)))) []]) (by kernel_rfl) ⟨(C214 a0.2.1 a0.1), (C214 a0.2.2 a0.1), (C215 (F214 a0.2.1 a0.1) (F214 a0.2.2 a0.1)), trivial⟩

/-- facet/facetref02.Dot -/
def F213 (a0 : Int × Int × Int) (a1 : Int × Int × Int) : Int :=
  (W ((W ((W (a0.1 * a1.1)) + (W (a0.2.1 * a1.2.1)))) + (W (a0.2.2 * a1.2.2))))

theorem C213 (a0 : Int × Int × Int) (a1 : Int × Int × Int) : Con Tryz.prog 213 [(.a (k3 a0)), (.a (k3 a1))] [] (iv (F213 a0 a1)) [] := by
  have e : (F213 a0 a1) = (W ((W ((W (a0.1 * a1.1)) + (W (a0.2.1 * a1.2.1)))) + (W (a0.2.2 * a1.2.2)))) := by simp only [F213]
  rw [e]
  refine con_of (n := 9) Tryz.func213 rfl (ent Tryz.func213 (by kernel_rfl) rfl) (by show 2 ≤ Tryz.f213.ntmps; decide) (by kernel_rfl) trivial (fun cx hcx => ?_)
  exact ret_of (T := T0) hT hm (f := 5000) (orc := []) [] [] [] hcx
    (obs := []) (by kernel_rfl) trivial

/-- facet/facetref02.within -/
def F160 (a0 : Int) (a1 : Int) (a2 : Int) : Bool :=
  (bif (decide ((a0 : Int) ≥ a1)) then
   (decide ((a0 : Int) ≤ a2))
  else
   false)

theorem C160 (a0 : Int) (a1 : Int) (a2 : Int) : Con Tryz.prog 160 [(iv a0), (iv a1), (iv a2)] [] (.v (.bool (F160 a0 a1 a2))) [] := by
  cases h0 : (decide ((a0 : Int) ≥ a1)) with
  | true =>
    have q0 := of_decide_eq_true h0
    have e : (F160 a0 a1 a2) = (decide ((a0 : Int) ≤ a2)) := by simp only [F160, h0, cond_true, cond_false]
    rw [e]
    refine con_of (n := 9) Tryz.func160 rfl (ent Tryz.func160 (by kernel_rfl) rfl) (by show 3 ≤ Tryz.f160.ntmps; decide) (by kernel_rfl) trivial (fun cx hcx => ?_)
    exact ret_of (T := T0) hT hm (f := 5000) (orc := [.d true]) [] [] [] hcx
      (obs := [.eq (decide ((a0 : Int) ≥ a1)) true]) (by kernel_rfl) ⟨h0, trivial⟩
  | false =>
    have q0 := of_decide_eq_false h0
    have e : (F160 a0 a1 a2) = false := by simp only [F160, h0, cond_true, cond_false]
    rw [e]
    refine con_of (n := 9) Tryz.func160 rfl (ent Tryz.func160 (by kernel_rfl) rfl) (by show 3 ≤ Tryz.f160.ntmps; decide) (by kernel_rfl) trivial (fun cx hcx => ?_)
    exact ret_of (T := T0) hT hm (f := 5000) (orc := [.d false]) [] [] [] hcx
      (obs := [.eq (decide ((a0 : Int) ≥ a1)) false]) (by kernel_rfl) ⟨h0, trivial⟩

/-- facet/facetref02.near -/
def F161 (a0 : Int × Int × Int) (a1 : Int) : Bool :=
  (bif (F160 a0.1 (W (0 - a1)) a1) then
   (bif (F160 a0.2.1 (W (0 - a1)) a1) then
    (F160 a0.2.2 (W (0 - a1)) a1)
   else
    false)
  else
   false)

noncomputable def oC161_0 (a0 : Int × Int × Int) (a1 : Int) : Ob := .call 160 [(iv a0.1), (iv (W (0 - a1))), (iv a1)] [] (.v (.bool (F160 a0.1 (W (0 - a1)) a1))) []
theorem C161 (a0 : Int × Int × Int) (a1 : Int) : Con Tryz.prog 161 [(.a (k3 a0)), (iv a1)] [] (.v (.bool (F161 a0 a1))) [] := by
  cases h0 : (F160 a0.1 (W (0 - a1)) a1) with
  | true =>
    cases h1 : (F160 a0.2.1 (W (0 - a1)) a1) with
    | true =>
      have e : (F161 a0 a1) = (F160 a0.2.2 (W (0 - a1)) a1) := by simp only [F161, h0, h1, cond_true, cond_false]
      rw [e]
      refine con_of (n := 9) Tryz.func161 rfl (ent Tryz.func161 (by kernel_rfl) rfl) (by show 2 ≤ Tryz.f161.ntmps; decide) (by kernel_rfl) trivial (fun cx hcx => ?_)
      exact ret_of (T := T0) hT hm (f := 5000) (orc := [.call [] (.v (.bool (F160 a0.1 (W (0 - a1)) a1))) [], .d true, .call [] (.v (.bool (F160 a0.2.1 (W (0 - a1)) a1))) [], .d true, .call [] (.v (.bool (F160 a0.2.2 (W (0 - a1)) a1))) []]) [] [] [] hcx
        (obs := [(oC161_0 a0 a1), .eq (F160 a0.1 (W (0 - a1)) a1) true, .call 160 [(iv a0.2.1), (iv (W (0 - a1))), (iv a1)] [] (.v (.bool (F160 a0.2.1 (W (0 - a1)) a1))) [], .eq (F160 a0.2.1 (W (0 - a1)) a1) true, .call 160 [(iv a0.2.2), (iv (W (0 - a1))), (iv a1)] [] (.v (.bool (F160 a0.2.2 (W (0 - a1)) a1))) []]) (by kernel_rfl) ⟨(C160 a0.1 (W (0 - a1)) a1), h0, (C160 a0.2.1 (W (0 - a1)) a1), h1, (C160 a0.2.2 (W (0 - a1)) a1), trivial⟩
    | false =>
      have e : (F161 a0 a1) = false := by simp only [F161, h0, h1, cond_true, cond_false]
      rw [e]
      refine con_of (n := 9) Tryz.func161 rfl (ent Tryz.func161 (by kernel_rfl) rfl) (by show 2 ≤ Tryz.f161.ntmps; decide) (by kernel_rfl) trivial (fun cx hcx => ?_)
      exact ret_of (T := T0) hT hm (f := 5000) (orc := [.call [] (.v (.bool (F160 a0.1 (W (0 - a1)) a1))) [], .d true, .call [] (.v (.bool (F160 a0.2.1 (W (0 - a1)) a1))) [], .d false]) [] [] [] hcx
        (obs := [(oC161_0 a0 a1), .eq (F160 a0.1 (W (0 - a1)) a1) true, .call 160 [(iv a0.2.1), (iv (W (0 - a1))), (iv a1)] [] (.v (.bool (F160 a0.2.1 (W (0 - a1)) a1))) [], .eq (F160 a0.2.1 (W (0 - a1)) a1) false]) (by kernel_rfl) ⟨(C160 a0.1 (W (0 - a1)) a1), h0, (C160 a0.2.1 (W (0 - a1)) a1), h1, trivial⟩
  | false =>
    have e : (F161 a0 a1) = false := by simp only [F161, h0, cond_true, cond_false]
    rw [e]
    refine con_of (n := 9) Tryz.func161 rfl (ent Tryz.func161 (by kernel_rfl) rfl) (by show 2 ≤ Tryz.f161.ntmps; decide) (by kernel_rfl) trivial (fun cx hcx => ?_)
    exact ret_of (T := T0) hT hm (f := 5000) (orc := [.call [] (.v (.bool (F160 a0.1 (W (0 - a1)) a1))) [], .d false]) [] [] [] hcx
      (obs := [(oC161_0 a0 a1), .eq (F160 a0.1 (W (0 - a1)) a1) false]) (by kernel_rfl) ⟨(C160 a0.1 (W (0 - a1)) a1), h0, trivial⟩

/-- facet/facetref02.ValidatePanel -/
def F195 (a0 : (Int × Int × Int) × (Int × Int × Int) × Int × Int × Int) : Int :=
  (bif (!(F161 a0.1 64)) then
   1
  else
   (bif (!(F161 a0.2.1 64)) then
    1
   else
    (bif (!(F161 a0.2.2 64)) then
     1
    else
     (bif ((((F162 a0).1 : Int) == 0) && ((((F162 a0).2.1 : Int) == 0) && ((((F162 a0).2.2 : Int) == 0) && true))) then
      6
     else
      0))))

noncomputable def oC195_0 (a0 : (Int × Int × Int) × (Int × Int × Int) × Int × Int × Int) : Ob := .call 161 [(.a (k3 a0.1)), (iv 64)] [] (.v (.bool (F161 a0.1 64))) []
noncomputable def oC195_1 (a0 : (Int × Int × Int) × (Int × Int × Int) × Int × Int × Int) : Ob := .call 161 [(.a (k3 a0.2.1)), (iv 64)] [] (.v (.bool (F161 a0.2.1 64))) []
theorem C195 (a0 : (Int × Int × Int) × (Int × Int × Int) × Int × Int × Int) : Con Tryz.prog 195 [(.a (k9 a0))] [] (iv (F195 a0)) [] := by
  cases h0 : (!(F161 a0.1 64)) with
  | true =>
    have e : (F195 a0) = 1 := by simp only [F195, h0, cond_true, cond_false]
    rw [e]
    refine con_of (n := 9) Tryz.func195 rfl (ent Tryz.func195 (by kernel_rfl) rfl) (by show 1 ≤ Tryz.f195.ntmps; decide) (by kernel_rfl) trivial (fun cx hcx => ?_)
    exact ret_of (T := T0) hT hm (f := 5000) (orc := [.call [] (.v (.bool (F161 a0.1 64))) [], .d true]) [] [] [] hcx
      (obs := [(oC195_0 a0), .eq (!(F161 a0.1 64)) true]) (by kernel_rfl) ⟨(C161 a0.1 64), h0, trivial⟩
  | false =>
    cases h1 : (!(F161 a0.2.1 64)) with
    | true =>
      have e : (F195 a0) = 1 := by simp only [F195, h0, h1, cond_true, cond_false]
      rw [e]
      refine con_of (n := 9) Tryz.func195 rfl (ent Tryz.func195 (by kernel_rfl) rfl) (by show 1 ≤ Tryz.f195.ntmps; decide) (by kernel_rfl) trivial (fun cx hcx => ?_)
      exact ret_of (T := T0) hT hm (f := 5000) (orc := [.call [] (.v (.bool (F161 a0.1 64))) [], .d false, .call [] (.v (.bool (F161 a0.2.1 64))) [], .d true]) [] [] [] hcx
        (obs := [(oC195_0 a0), .eq (!(F161 a0.1 64)) false, (oC195_1 a0), .eq (!(F161 a0.2.1 64)) true]) (by kernel_rfl) ⟨(C161 a0.1 64), h0, (C161 a0.2.1 64), h1, trivial⟩
    | false =>
      cases h2 : (!(F161 a0.2.2 64)) with
      | true =>
        have e : (F195 a0) = 1 := by simp only [F195, h0, h1, h2, cond_true, cond_false]
        rw [e]
        refine con_of (n := 9) Tryz.func195 rfl (ent Tryz.func195 (by kernel_rfl) rfl) (by show 1 ≤ Tryz.f195.ntmps; decide) (by kernel_rfl) trivial (fun cx hcx => ?_)
        exact ret_of (T := T0) hT hm (f := 5000) (orc := [.call [] (.v (.bool (F161 a0.1 64))) [], .d false, .call [] (.v (.bool (F161 a0.2.1 64))) [], .d false, .call [] (.v (.bool (F161 a0.2.2 64))) [], .d true]) [] [] [] hcx
          (obs := [(oC195_0 a0), .eq (!(F161 a0.1 64)) false, (oC195_1 a0), .eq (!(F161 a0.2.1 64)) false, .call 161 [(.a (k3 a0.2.2)), (iv 64)] [] (.v (.bool (F161 a0.2.2 64))) [], .eq (!(F161 a0.2.2 64)) true]) (by kernel_rfl) ⟨(C161 a0.1 64), h0, (C161 a0.2.1 64), h1, (C161 a0.2.2 64), h2, trivial⟩
      | false =>
        cases h3 : ((((F162 a0).1 : Int) == 0) && ((((F162 a0).2.1 : Int) == 0) && ((((F162 a0).2.2 : Int) == 0) && true))) with
        | true =>
          have e : (F195 a0) = 6 := by simp only [F195, h0, h1, h2, h3, cond_true, cond_false]
          rw [e]
          refine con_of (n := 9) Tryz.func195 rfl (ent Tryz.func195 (by kernel_rfl) rfl) (by show 1 ≤ Tryz.f195.ntmps; decide) (by kernel_rfl) trivial (fun cx hcx => ?_)
          exact ret_of (T := T0) hT hm (f := 5000) (orc := [.call [] (.v (.bool (F161 a0.1 64))) [], .d false, .call [] (.v (.bool (F161 a0.2.1 64))) [], .d false, .call [] (.v (.bool (F161 a0.2.2 64))) [], .d false, .call [] (.a (k3 (F162 a0))) [], .d true]) [] [] [] hcx
            (obs := [(oC195_0 a0), .eq (!(F161 a0.1 64)) false, (oC195_1 a0), .eq (!(F161 a0.2.1 64)) false, .call 161 [(.a (k3 a0.2.2)), (iv 64)] [] (.v (.bool (F161 a0.2.2 64))) [], .eq (!(F161 a0.2.2 64)) false, .call 162 [(.a (k9 a0))] [] (.a (k3 (F162 a0))) [], .eq ((((F162 a0).1 : Int) == 0) && ((((F162 a0).2.1 : Int) == 0) && ((((F162 a0).2.2 : Int) == 0) && true))) true]) (by kernel_rfl) ⟨(C161 a0.1 64), h0, (C161 a0.2.1 64), h1, (C161 a0.2.2 64), h2, (C162 a0), h3, trivial⟩
        | false =>
          have e : (F195 a0) = 0 := by simp only [F195, h0, h1, h2, h3, cond_true, cond_false]
          rw [e]
          refine con_of (n := 9) Tryz.func195 rfl (ent Tryz.func195 (by kernel_rfl) rfl) (by show 1 ≤ Tryz.f195.ntmps; decide) (by kernel_rfl) trivial (fun cx hcx => ?_)
          exact ret_of (T := T0) hT hm (f := 5000) (orc := [.call [] (.v (.bool (F161 a0.1 64))) [], .d false, .call [] (.v (.bool (F161 a0.2.1 64))) [], .d false, .call [] (.v (.bool (F161 a0.2.2 64))) [], .d false, .call [] (.a (k3 (F162 a0))) [], .d false]) [] [] [] hcx
            (obs := [(oC195_0 a0), .eq (!(F161 a0.1 64)) false, (oC195_1 a0), .eq (!(F161 a0.2.1 64)) false, .call 161 [(.a (k3 a0.2.2)), (iv 64)] [] (.v (.bool (F161 a0.2.2 64))) [], .eq (!(F161 a0.2.2 64)) false, .call 162 [(.a (k9 a0))] [] (.a (k3 (F162 a0))) [], .eq ((((F162 a0).1 : Int) == 0) && ((((F162 a0).2.1 : Int) == 0) && ((((F162 a0).2.2 : Int) == 0) && true))) false]) (by kernel_rfl) ⟨(C161 a0.1 64), h0, (C161 a0.2.1 64), h1, (C161 a0.2.2 64), h2, (C162 a0), h3, trivial⟩

/-- facet/facetref03.within -/
def F76 (a0 : Int) (a1 : Int) (a2 : Int) : Bool :=
  (bif (decide ((a0 : Int) ≥ a1)) then
   (decide ((a0 : Int) ≤ a2))
  else
   false)

theorem C76 (a0 : Int) (a1 : Int) (a2 : Int) : Con Tryz.prog 76 [(iv a0), (iv a1), (iv a2)] [] (.v (.bool (F76 a0 a1 a2))) [] := by
  cases h0 : (decide ((a0 : Int) ≥ a1)) with
  | true =>
    have q0 := of_decide_eq_true h0
    have e : (F76 a0 a1 a2) = (decide ((a0 : Int) ≤ a2)) := by simp only [F76, h0, cond_true, cond_false]
    rw [e]
    refine con_of (n := 9) Tryz.func76 rfl (ent Tryz.func76 (by kernel_rfl) rfl) (by show 3 ≤ Tryz.f76.ntmps; decide) (by kernel_rfl) trivial (fun cx hcx => ?_)
    exact ret_of (T := T0) hT hm (f := 5000) (orc := [.d true]) [] [] [] hcx
      (obs := [.eq (decide ((a0 : Int) ≥ a1)) true]) (by kernel_rfl) ⟨h0, trivial⟩
  | false =>
    have q0 := of_decide_eq_false h0
    have e : (F76 a0 a1 a2) = false := by simp only [F76, h0, cond_true, cond_false]
    rw [e]
    refine con_of (n := 9) Tryz.func76 rfl (ent Tryz.func76 (by kernel_rfl) rfl) (by show 3 ≤ Tryz.f76.ntmps; decide) (by kernel_rfl) trivial (fun cx hcx => ?_)
    exact ret_of (T := T0) hT hm (f := 5000) (orc := [.d false]) [] [] [] hcx
      (obs := [.eq (decide ((a0 : Int) ≥ a1)) false]) (by kernel_rfl) ⟨h0, trivial⟩

/-- facet/facetref03.place -/
def F75 (a0 : Int × Int × Int) : Bool :=
  (bif (F76 a0.1 (-256) 256) then
   (bif (F76 a0.2.1 (-256) 256) then
    (F76 a0.2.2 (-256) 256)
   else
    false)
  else
   false)

noncomputable def oC75_0 (a0 : Int × Int × Int) : Ob := .call 76 [(iv a0.1), (iv (-256)), (iv 256)] [] (.v (.bool (F76 a0.1 (-256) 256))) []
theorem C75 (a0 : Int × Int × Int) : Con Tryz.prog 75 [(.a (k3 a0))] [] (.v (.bool (F75 a0))) [] := by
  cases h0 : (F76 a0.1 (-256) 256) with
  | true =>
    cases h1 : (F76 a0.2.1 (-256) 256) with
    | true =>
      have e : (F75 a0) = (F76 a0.2.2 (-256) 256) := by simp only [F75, h0, h1, cond_true, cond_false]
      rw [e]
      refine con_of (n := 9) Tryz.func75 rfl (ent Tryz.func75 (by kernel_rfl) rfl) (by show 1 ≤ Tryz.f75.ntmps; decide) (by kernel_rfl) trivial (fun cx hcx => ?_)
      exact ret_of (T := T0) hT hm (f := 5000) (orc := [.call [] (.v (.bool (F76 a0.1 (-256) 256))) [], .d true, .call [] (.v (.bool (F76 a0.2.1 (-256) 256))) [], .d true, .call [] (.v (.bool (F76 a0.2.2 (-256) 256))) []]) [] [] [] hcx
        (obs := [(oC75_0 a0), .eq (F76 a0.1 (-256) 256) true, .call 76 [(iv a0.2.1), (iv (-256)), (iv 256)] [] (.v (.bool (F76 a0.2.1 (-256) 256))) [], .eq (F76 a0.2.1 (-256) 256) true, .call 76 [(iv a0.2.2), (iv (-256)), (iv 256)] [] (.v (.bool (F76 a0.2.2 (-256) 256))) []]) (by kernel_rfl) ⟨(C76 a0.1 (-256) 256), h0, (C76 a0.2.1 (-256) 256), h1, (C76 a0.2.2 (-256) 256), trivial⟩
    | false =>
      have e : (F75 a0) = false := by simp only [F75, h0, h1, cond_true, cond_false]
      rw [e]
      refine con_of (n := 9) Tryz.func75 rfl (ent Tryz.func75 (by kernel_rfl) rfl) (by show 1 ≤ Tryz.f75.ntmps; decide) (by kernel_rfl) trivial (fun cx hcx => ?_)
      exact ret_of (T := T0) hT hm (f := 5000) (orc := [.call [] (.v (.bool (F76 a0.1 (-256) 256))) [], .d true, .call [] (.v (.bool (F76 a0.2.1 (-256) 256))) [], .d false]) [] [] [] hcx
        (obs := [(oC75_0 a0), .eq (F76 a0.1 (-256) 256) true, .call 76 [(iv a0.2.1), (iv (-256)), (iv 256)] [] (.v (.bool (F76 a0.2.1 (-256) 256))) [], .eq (F76 a0.2.1 (-256) 256) false]) (by kernel_rfl) ⟨(C76 a0.1 (-256) 256), h0, (C76 a0.2.1 (-256) 256), h1, trivial⟩
  | false =>
    have e : (F75 a0) = false := by simp only [F75, h0, cond_true, cond_false]
    rw [e]
    refine con_of (n := 9) Tryz.func75 rfl (ent Tryz.func75 (by kernel_rfl) rfl) (by show 1 ≤ Tryz.f75.ntmps; decide) (by kernel_rfl) trivial (fun cx hcx => ?_)
    exact ret_of (T := T0) hT hm (f := 5000) (orc := [.call [] (.v (.bool (F76 a0.1 (-256) 256))) [], .d false]) [] [] [] hcx
      (obs := [(oC75_0 a0), .eq (F76 a0.1 (-256) 256) false]) (by kernel_rfl) ⟨(C76 a0.1 (-256) 256), h0, trivial⟩

/-- facet/facetref03.asked -/
def F135 (a0 : (Int × Int × Int) × (Int × Int × Int) × Int × Int × Int) (a1 : Int × Int × Int) (a2 : Int) : Int :=
  (bif (((F195 a0) : Int) != 0) then
   (F195 a0)
  else
   (bif (!(F75 a1)) then
    1
   else
    (bif (!(F76 a2 0 3)) then
     1
    else
     0)))

theorem C135 (a0 : (Int × Int × Int) × (Int × Int × Int) × Int × Int × Int) (a1 : Int × Int × Int) (a2 : Int) : Con Tryz.prog 135 [(.a (k9 a0)), (.a (k3 a1)), (iv a2)] [] (iv (F135 a0 a1 a2)) [] := by
  cases h0 : (((F195 a0) : Int) != 0) with
  | true =>
    have q0 := bne_iff_ne.1 h0
    have e : (F135 a0 a1 a2) = (F195 a0) := by simp only [F135, h0, cond_true, cond_false]
    rw [e]
    refine con_of (n := 9) Tryz.func135 rfl (ent Tryz.func135 (by kernel_rfl) rfl) (by show 3 ≤ Tryz.f135.ntmps; decide) (by kernel_rfl) trivial (fun cx hcx => ?_)
    exact ret_of (T := T0) hT hm (f := 5000) (orc := [.call [] (iv (F195 a0)) [], .d true]) [] [] [] hcx
      (obs := [.call 195 [(.a (k9 a0))] [] (iv (F195 a0)) [], .eq (((F195 a0) : Int) != 0) true]) (by kernel_rfl) ⟨(C195 a0), h0, trivial⟩
  | false =>
    cases h1 : (!(F75 a1)) with
    | true =>
      have q0 := bne_eq_false_iff_eq.1 h0
      have e : (F135 a0 a1 a2) = 1 := by simp only [F135, h0, h1, cond_true, cond_false]
      rw [e]
      refine con_of (n := 9) Tryz.func135 rfl (ent Tryz.func135 (by kernel_rfl) rfl) (by show 3 ≤ Tryz.f135.ntmps; decide) (by kernel_rfl) trivial (fun cx hcx => ?_)
      exact ret_of (T := T0) hT hm (f := 5000) (orc := [.call [] (iv (F195 a0)) [], .d false, .call [] (.v (.bool (F75 a1))) [], .d true]) [] [] [] hcx
        (obs := [.call 195 [(.a (k9 a0))] [] (iv (F195 a0)) [], .eq (((F195 a0) : Int) != 0) false, .call 75 [(.a (k3 a1))] [] (.v (.bool (F75 a1))) [], .eq (!(F75 a1)) true]) (by kernel_rfl) ⟨(C195 a0), h0, (C75 a1), h1, trivial⟩
    | false =>
      cases h2 : (!(F76 a2 0 3)) with
      | true =>
        have q0 := bne_eq_false_iff_eq.1 h0
        have e : (F135 a0 a1 a2) = 1 := by simp only [F135, h0, h1, h2, cond_true, cond_false]
        rw [e]
        refine con_of (n := 9) Tryz.func135 rfl (ent Tryz.func135 (by kernel_rfl) rfl) (by show 3 ≤ Tryz.f135.ntmps; decide) (by kernel_rfl) trivial (fun cx hcx => ?_)
        exact ret_of (T := T0) hT hm (f := 5000) (orc := [.call [] (iv (F195 a0)) [], .d false, .call [] (.v (.bool (F75 a1))) [], .d false, .call [] (.v (.bool (F76 a2 0 3))) [], .d true]) [] [] [] hcx
          (obs := [.call 195 [(.a (k9 a0))] [] (iv (F195 a0)) [], .eq (((F195 a0) : Int) != 0) false, .call 75 [(.a (k3 a1))] [] (.v (.bool (F75 a1))) [], .eq (!(F75 a1)) false, .call 76 [(iv a2), (iv 0), (iv 3)] [] (.v (.bool (F76 a2 0 3))) [], .eq (!(F76 a2 0 3)) true]) (by kernel_rfl) ⟨(C195 a0), h0, (C75 a1), h1, (C76 a2 0 3), h2, trivial⟩
      | false =>
        have q0 := bne_eq_false_iff_eq.1 h0
        have e : (F135 a0 a1 a2) = 0 := by simp only [F135, h0, h1, h2, cond_true, cond_false]
        rw [e]
        refine con_of (n := 9) Tryz.func135 rfl (ent Tryz.func135 (by kernel_rfl) rfl) (by show 3 ≤ Tryz.f135.ntmps; decide) (by kernel_rfl) trivial (fun cx hcx => ?_)
        exact ret_of (T := T0) hT hm (f := 5000) (orc := [.call [] (iv (F195 a0)) [], .d false, .call [] (.v (.bool (F75 a1))) [], .d false, .call [] (.v (.bool (F76 a2 0 3))) [], .d false]) [] [] [] hcx
          (obs := [.call 195 [(.a (k9 a0))] [] (iv (F195 a0)) [], .eq (((F195 a0) : Int) != 0) false, .call 75 [(.a (k3 a1))] [] (.v (.bool (F75 a1))) [], .eq (!(F75 a1)) false, .call 76 [(iv a2), (iv 0), (iv 3)] [] (.v (.bool (F76 a2 0 3))) [], .eq (!(F76 a2 0 3)) false]) (by kernel_rfl) ⟨(C195 a0), h0, (C75 a1), h1, (C76 a2 0 3), h2, trivial⟩

/-- facet/facetref02.Times -/
def F175 (a0 : Int × Int × Int) (a1 : Int) : Int × Int × Int :=
  ((W (a1 * a0.1)), (W (a1 * a0.2.1)), (W (a1 * a0.2.2)))

theorem C175 (a0 : Int × Int × Int) (a1 : Int) : Con Tryz.prog 175 [(.a (k3 a0)), (iv a1)] [] (.a (k3 (F175 a0 a1))) [] := by
  have e : (F175 a0 a1) = ((W (a1 * a0.1)), (W (a1 * a0.2.1)), (W (a1 * a0.2.2))) := by simp only [F175]
  rw [e]
  refine con_of (n := 9) Tryz.func175 rfl (ent Tryz.func175 (by kernel_rfl) rfl) (by show 2 ≤ Tryz.f175.ntmps; decide) (by kernel_rfl) trivial (fun cx hcx => ?_)
  exact ret_of (T := T0) hT hm (f := 5000) (orc := []) [] [] [] hcx
    (obs := []) (by kernel_rfl) trivial

/-- facet/facetref03.half -/
def F224 (a0 : Int × Int × Int) (a1 : Int × Int × Int) : Int × Int × Int :=
  ((W (Int.tdiv (W (a0.1 + a1.1)) 2)), (W (Int.tdiv (W (a0.2.1 + a1.2.1)) 2)), (W (Int.tdiv (W (a0.2.2 + a1.2.2)) 2)))

theorem C224 (a0 : Int × Int × Int) (a1 : Int × Int × Int) : Con Tryz.prog 224 [(.a (k3 a0)), (.a (k3 a1))] [] (.a (k3 (F224 a0 a1))) [] := by
  have e : (F224 a0 a1) = ((W (Int.tdiv (W (a0.1 + a1.1)) 2)), (W (Int.tdiv (W (a0.2.1 + a1.2.1)) 2)), (W (Int.tdiv (W (a0.2.2 + a1.2.2)) 2))) := by simp only [F224]
  rw [e]
  refine con_of (n := 9) Tryz.func224 rfl (ent Tryz.func224 (by kernel_rfl) rfl) (by show 2 ≤ Tryz.f224.ntmps; decide) (by kernel_rfl) trivial (fun cx hcx => ?_)
  exact ret_of (T := T0) hT hm (f := 5000) (orc := []) [] [] [] hcx
    (obs := [.pr ((2 : Int) ≠ 0), .pr ((2 : Int) ≠ 0), .pr ((2 : Int) ≠ 0)]) (by kernel_rfl) ⟨(show (2 : Int) ≠ 0 from by decide), (show (2 : Int) ≠ 0 from by decide), (show (2 : Int) ≠ 0 from by decide), trivial⟩

/-- api.Panel, as cells -/
def c65 (x : (Int × Int × Int) × (Int × Int × Int) × Int × Int × Int) : List SV := [(iv x.1.1), (iv x.1.2.1), (iv x.1.2.2), (iv x.2.1.1), (iv x.2.1.2.1), (iv x.2.1.2.2), (iv x.2.2.1), (iv x.2.2.2.1), (iv x.2.2.2.2)]
theorem c65_len (x : (Int × Int × Int) × (Int × Int × Int) × Int × Int × Int) : (c65 x).length = 9 := rfl

noncomputable def B178_1 : Code := (loopAtD [1, 1, 0, 1, 0, 1, 0, 1, 0, 1] [0] (Tryz.f178.body.getD .skip) []).1
noncomputable def K178_1 (m0 : Nat) : List K := (loopAtD [1, 1, 0, 1, 0, 1, 0, 1, 0, 1] [m0] (Tryz.f178.body.getD .skip) []).2

/-- a round of loop 1 of facet/facetref03.Cut; the variables: v21 = s5, v22 = s7, v23 = s6, v24 = s8 -/
def S178_1 (a0 : (Int × Int × Int) × (Int × Int × Int) × Int × Int × Int) (a1 : Int) : (List ((Int × Int × Int) × (Int × Int × Int) × Int × Int × Int)) × (List ((Int × Int × Int) × (Int × Int × Int) × Int × Int × Int)) × Int × Int → ((List ((Int × Int × Int) × (Int × Int × Int) × Int × Int × Int)) × (List ((Int × Int × Int) × (Int × Int × Int) × Int × Int × Int)) × Int × Int) ⊕ (((List ((Int × Int × Int) × (Int × Int × Int) × Int × Int × Int)) × Int) ⊕ (List ((Int × Int × Int) × (Int × Int × Int) × Int × Int × Int)))
  | (v21, v22, v23, v24) =>
   (bif (decide ((v24 : Int) < ((v21.length : Nat) : Int))) then
    (.inl (v21, (v22 ++ [((F175 (v21.getD (Int.toNat v24) default).1 2), (F224 (F175 (v21.getD (Int.toNat v24) default).1 2) (F175 (v21.getD (Int.toNat v24) default).2.1 2)), (F224 (F175 (v21.getD (Int.toNat v24) default).2.2 2) (F175 (v21.getD (Int.toNat v24) default).1 2))), ((F224 (F175 (v21.getD (Int.toNat v24) default).1 2) (F175 (v21.getD (Int.toNat v24) default).2.1 2)), (F175 (v21.getD (Int.toNat v24) default).2.1 2), (F224 (F175 (v21.getD (Int.toNat v24) default).2.1 2) (F175 (v21.getD (Int.toNat v24) default).2.2 2))), ((F224 (F175 (v21.getD (Int.toNat v24) default).2.2 2) (F175 (v21.getD (Int.toNat v24) default).1 2)), (F224 (F175 (v21.getD (Int.toNat v24) default).2.1 2) (F175 (v21.getD (Int.toNat v24) default).2.2 2)), (F175 (v21.getD (Int.toNat v24) default).2.2 2)), ((F224 (F175 (v21.getD (Int.toNat v24) default).1 2) (F175 (v21.getD (Int.toNat v24) default).2.1 2)), (F224 (F175 (v21.getD (Int.toNat v24) default).2.1 2) (F175 (v21.getD (Int.toNat v24) default).2.2 2)), (F224 (F175 (v21.getD (Int.toNat v24) default).2.2 2) (F175 (v21.getD (Int.toNat v24) default).1 2)))]), v23, (v24 + 1)))
   else
    (.inr (.inl (v22, (v23 + 1)))))

noncomputable def B178_0 : Code := (loopAtD [1, 1, 0, 1] [] (Tryz.f178.body.getD .skip) []).1
noncomputable def K178_0 : List K := (loopAtD [1, 1, 0, 1] [] (Tryz.f178.body.getD .skip) []).2

/-- a round of loop 0 of facet/facetref03.Cut; the variables: v14 = s5, v15 = s6 -/
def S178_0 (a0 : (Int × Int × Int) × (Int × Int × Int) × Int × Int × Int) (a1 : Int) : (List ((Int × Int × Int) × (Int × Int × Int) × Int × Int × Int)) × Int → ((List ((Int × Int × Int) × (Int × Int × Int) × Int × Int × Int)) × Int) ⊕ (List ((Int × Int × Int) × (Int × Int × Int) × Int × Int × Int))
  | (v14, v15) =>
   (bif (decide ((v15 : Int) < a1)) then
    (loopF (S178_1 a0 a1) (Int.toNat (((v14.length : Nat) : Int) - 0) + 1) (v14, ([] : List ((Int × Int × Int) × (Int × Int × Int) × Int × Int × Int)), v15, 0))
   else
    (.inr v14))

set_option maxHeartbeats 4000000 in
theorem L178_1 (a0 : (Int × Int × Int) × (Int × Int × Int) × Int × Int × Int) (a1 : Int) (ha : 0 ≤ a1 ∧ a1 ≤ 3) {cx : Cx} (hcx : cx.base = 0)
    (n0 : Nat) (g0 : ∀ (v14 : List ((Int × Int × Int) × (Int × Int × Int) × Int × Int × Int)) (v15 : Int), (0 ≤ v15) ∧ (v15 = 0 ∧ v14.length ≤ 1 ∨ v15 = 1 ∧ v14.length ≤ 4 ∨ v15 = 2 ∧ v14.length ≤ 16 ∨ 3 ≤ v15 ∧ v14.length ≤ 64) → Int.toNat (a1 - v15) < n0 → Aw.Good Tryz.prog none 9 (bodyPost Tryz.prog Tryz.f178 (RR cx (.s 0 0 (loopF (S178_0 a0 a1) n0 (v14, v15)).length 9) [(.live true true (flat c65 (loopF (S178_0 a0 a1) n0 (v14, v15))))] [])) cx [] (.l B178_0 n0 :: K178_0) ⟨[.u, (iv a1), .u, .u, .u, (.s 0 0 v14.length 9), (iv v15), .u, .u, .u, .u, .u, .u, .u, .u, .u, .u, .u, .u, .u, .u, .u, .u, .u, .u, .u, .u, .u, .u, .u, .u, .u, .u, .u, .u, .u, .u, .u, .u, .u, .u, .u, .u, .u, .u, .u, .u, .u, .u, .u, .u, .u, .u, .u, .u, .u, .u, .u, .u, .u, .u, .u, .u, .u, .u, .u, .u, .u, .u, .u, .u, .u, .u, .u, .u, .u], [(.live true true (flat c65 v14))]⟩) : ∀ (n : Nat) (v21 : List ((Int × Int × Int) × (Int × Int × Int) × Int × Int × Int)) (v22 : List ((Int × Int × Int) × (Int × Int × Int) × Int × Int × Int)) (v23 : Int) (v24 : Int), (0 ≤ v24) ∧ (v22.length = 4 * Int.toNat v24) ∧ (v24 ≤ v21.length) ∧ ((0 ≤ v23)) ∧ ((v23 = 0 ∧ v21.length ≤ 1 ∨ v23 = 1 ∧ v21.length ≤ 4 ∨ v23 = 2 ∧ v21.length ≤ 16 ∨ 3 ≤ v23 ∧ v21.length ≤ 64)) ∧ (v23 < a1) ∧ (Int.toNat (a1 - v23) < n0 + 1) → Int.toNat (((v21.length : Nat) : Int) - v24) < n → Aw.Good Tryz.prog none 9 (bodyPost Tryz.prog Tryz.f178 (RR cx (.s 0 0 (thenF (S178_0 a0 a1) n0 (loopF (S178_1 a0 a1) n (v21, v22, v23, v24))).length 9) [(.live true true (flat c65 (thenF (S178_0 a0 a1) n0 (loopF (S178_1 a0 a1) n (v21, v22, v23, v24)))))] [])) cx [] (.l B178_1 n :: K178_1 n0) ⟨[.u, (iv a1), .u, .u, .u, (.s 0 0 v21.length 9), (iv v23), (.s 1 0 v22.length 9), (iv v24), .u, .u, .u, .u, .u, .u, .u, .u, .u, .u, .u, .u, .u, .u, .u, .u, .u, .u, .u, .u, .u, .u, .u, .u, .u, .u, .u, .u, .u, .u, .u, .u, .u, .u, .u, .u, .u, .u, .u, .u, .u, .u, .u, .u, .u, .u, .u, .u, .u, .u, .u, .u, .u, .u, .u, .u, .u, .u, .u, .u, .u, .u, .u, .u, .u, .u, .u], [(.live true true (flat c65 v21)), (.live true true (flat c65 v22))]⟩ := by
  intro n
  induction n with
  | zero => intro v21 v22 v23 v24 hi hn; exact absurd hn (Nat.not_lt_zero _)
  | succ n ih =>
    intro v21 v22 v23 v24 hi hn
    refine good_round ?_
    cases h0 : (decide ((v24 : Int) < ((v21.length : Nat) : Int))) with
    | true =>
      have q0 := of_decide_eq_true h0
      have e : S178_1 a0 a1 (v21, v22, v23, v24) = (.inl (v21, (v22 ++ [((F175 (v21.getD (Int.toNat v24) default).1 2), (F224 (F175 (v21.getD (Int.toNat v24) default).1 2) (F175 (v21.getD (Int.toNat v24) default).2.1 2)), (F224 (F175 (v21.getD (Int.toNat v24) default).2.2 2) (F175 (v21.getD (Int.toNat v24) default).1 2))), ((F224 (F175 (v21.getD (Int.toNat v24) default).1 2) (F175 (v21.getD (Int.toNat v24) default).2.1 2)), (F175 (v21.getD (Int.toNat v24) default).2.1 2), (F224 (F175 (v21.getD (Int.toNat v24) default).2.1 2) (F175 (v21.getD (Int.toNat v24) default).2.2 2))), ((F224 (F175 (v21.getD (Int.toNat v24) default).2.2 2) (F175 (v21.getD (Int.toNat v24) default).1 2)), (F224 (F175 (v21.getD (Int.toNat v24) default).2.1 2) (F175 (v21.getD (Int.toNat v24) default).2.2 2)), (F175 (v21.getD (Int.toNat v24) default).2.2 2)), ((F224 (F175 (v21.getD (Int.toNat v24) default).1 2) (F175 (v21.getD (Int.toNat v24) default).2.1 2)), (F224 (F175 (v21.getD (Int.toNat v24) default).2.1 2) (F175 (v21.getD (Int.toNat v24) default).2.2 2)), (F224 (F175 (v21.getD (Int.toNat v24) default).2.2 2) (F175 (v21.getD (Int.toNat v24) default).1 2)))]), v23, (v24 + 1))) := by simp only [S178_1, h0, cond_true, cond_false]
      rw [loopF_inl e]
      refine back_of (T := T0) hT hm (f := 5000) (orc := [.d true, .ld (k3 (v21.getD (Int.toNat v24) default).1), .call [] (.a (k3 (F175 (v21.getD (Int.toNat v24) default).1 2))) [], .ld (k3 (v21.getD (Int.toNat v24) default).2.1), .call [] (.a (k3 (F175 (v21.getD (Int.toNat v24) default).2.1 2))) [], .ld (k3 (v21.getD (Int.toNat v24) default).2.2), .call [] (.a (k3 (F175 (v21.getD (Int.toNat v24) default).2.2 2))) [], .call [] (.a (k3 (F224 (F175 (v21.getD (Int.toNat v24) default).1 2) (F175 (v21.getD (Int.toNat v24) default).2.1 2)))) [], .call [] (.a (k3 (F224 (F175 (v21.getD (Int.toNat v24) default).2.1 2) (F175 (v21.getD (Int.toNat v24) default).2.2 2)))) [], .call [] (.a (k3 (F224 (F175 (v21.getD (Int.toNat v24) default).2.2 2) (F175 (v21.getD (Int.toNat v24) default).1 2)))) []]) [] [1, 5, 6, 7, 8] [0, 9] hcx (body := B178_1) (m := n) (k' := K178_1 n0) (s' := ⟨[.u, (iv a1), .u, .u, .u, (.s 0 0 v21.length 9), (iv v23), (.s 1 0 (v22.length + 4) 9), (iv (W (v24 + 1))), .u, .u, .u, .u, .u, .u, .u, .u, .u, .u, .u, .u, .u, .u, .u, .u, .u, .u, .u, .u, .u, .u, .u, .u, .u, .u, .u, .u, .u, .u, .u, .u, .u, .u, .u, .u, .u, .u, .u, .u, .u, .u, .u, .u, .u, .u, .u, .u, .u, .u, .u, .u, .u, .u, .u, .u, .u, .u, .u, .u, .u, .u, .u, .u, .u, .u, .u], [(.live true true (flat c65 v21)), (.live true true (flat c65 v22 ++ [(iv (F175 (v21.getD (Int.toNat v24) default).1 2).1), (iv (F175 (v21.getD (Int.toNat v24) default).1 2).2.1), (iv (F175 (v21.getD (Int.toNat v24) default).1 2).2.2), (iv (F224 (F175 (v21.getD (Int.toNat v24) default).1 2) (F175 (v21.getD (Int.toNat v24) default).2.1 2)).1), (iv (F224 (F175 (v21.getD (Int.toNat v24) default).1 2) (F175 (v21.getD (Int.toNat v24) default).2.1 2)).2.1), (iv (F224 (F175 (v21.getD (Int.toNat v24) default).1 2) (F175 (v21.getD (Int.toNat v24) default).2.1 2)).2.2), (iv (F224 (F175 (v21.getD (Int.toNat v24) default).2.2 2) (F175 (v21.getD (Int.toNat v24) default).1 2)).1), (iv (F224 (F175 (v21.getD (Int.toNat v24) default).2.2 2) (F175 (v21.getD (Int.toNat v24) default).1 2)).2.1), (iv (F224 (F175 (v21.getD (Int.toNat v24) default).2.2 2) (F175 (v21.getD (Int.toNat v24) default).1 2)).2.2), (iv (F224 (F175 (v21.getD (Int.toNat v24) default).1 2) (F175 (v21.getD (Int.toNat v24) default).2.1 2)).1), (iv (F224 (F175 (v21.getD (Int.toNat v24) default).1 2) (F175 (v21.getD (Int.toNat v24) default).2.1 2)).2.1), (iv (F224 (F175 (v21.getD (Int.toNat v24) default).1 2) (F175 (v21.getD (Int.toNat v24) default).2.1 2)).2.2), (iv (F175 (v21.getD (Int.toNat v24) default).2.1 2).1), (iv (F175 (v21.getD (Int.toNat v24) default).2.1 2).2.1), (iv (F175 (v21.getD (Int.toNat v24) default).2.1 2).2.2), (iv (F224 (F175 (v21.getD (Int.toNat v24) default).2.1 2) (F175 (v21.getD (Int.toNat v24) default).2.2 2)).1), (iv (F224 (F175 (v21.getD (Int.toNat v24) default).2.1 2) (F175 (v21.getD (Int.toNat v24) default).2.2 2)).2.1), (iv (F224 (F175 (v21.getD (Int.toNat v24) default).2.1 2) (F175 (v21.getD (Int.toNat v24) default).2.2 2)).2.2), (iv (F224 (F175 (v21.getD (Int.toNat v24) default).2.2 2) (F175 (v21.getD (Int.toNat v24) default).1 2)).1), (iv (F224 (F175 (v21.getD (Int.toNat v24) default).2.2 2) (F175 (v21.getD (Int.toNat v24) default).1 2)).2.1), (iv (F224 (F175 (v21.getD (Int.toNat v24) default).2.2 2) (F175 (v21.getD (Int.toNat v24) default).1 2)).2.2), (iv (F224 (F175 (v21.getD (Int.toNat v24) default).2.1 2) (F175 (v21.getD (Int.toNat v24) default).2.2 2)).1), (iv (F224 (F175 (v21.getD (Int.toNat v24) default).2.1 2) (F175 (v21.getD (Int.toNat v24) default).2.2 2)).2.1), (iv (F224 (F175 (v21.getD (Int.toNat v24) default).2.1 2) (F175 (v21.getD (Int.toNat v24) default).2.2 2)).2.2), (iv (F175 (v21.getD (Int.toNat v24) default).2.2 2).1), (iv (F175 (v21.getD (Int.toNat v24) default).2.2 2).2.1), (iv (F175 (v21.getD (Int.toNat v24) default).2.2 2).2.2), (iv (F224 (F175 (v21.getD (Int.toNat v24) default).1 2) (F175 (v21.getD (Int.toNat v24) default).2.1 2)).1), (iv (F224 (F175 (v21.getD (Int.toNat v24) default).1 2) (F175 (v21.getD (Int.toNat v24) default).2.1 2)).2.1), (iv (F224 (F175 (v21.getD (Int.toNat v24) default).1 2) (F175 (v21.getD (Int.toNat v24) default).2.1 2)).2.2), (iv (F224 (F175 (v21.getD (Int.toNat v24) default).2.1 2) (F175 (v21.getD (Int.toNat v24) default).2.2 2)).1), (iv (F224 (F175 (v21.getD (Int.toNat v24) default).2.1 2) (F175 (v21.getD (Int.toNat v24) default).2.2 2)).2.1), (iv (F224 (F175 (v21.getD (Int.toNat v24) default).2.1 2) (F175 (v21.getD (Int.toNat v24) default).2.2 2)).2.2), (iv (F224 (F175 (v21.getD (Int.toNat v24) default).2.2 2) (F175 (v21.getD (Int.toNat v24) default).1 2)).1), (iv (F224 (F175 (v21.getD (Int.toNat v24) default).2.2 2) (F175 (v21.getD (Int.toNat v24) default).1 2)).2.1), (iv (F224 (F175 (v21.getD (Int.toNat v24) default).2.2 2) (F175 (v21.getD (Int.toNat v24) default).1 2)).2.2)]))]⟩)
        (obs := [.eq (decide ((v24 : Int) < ((v21.length : Nat) : Int))) true, .pr (0 ≤ (v24 : Int) ∧ (v24 : Int) < ((v21.length : Nat) : Int)), .pr (((((flat c65 v21)).drop (0 + Int.toNat v24 * 9 + 0)).take 3) = (k3 (v21.getD (Int.toNat v24) default).1)), .call 175 [(.a (k3 (v21.getD (Int.toNat v24) default).1)), (iv 2)] [] (.a (k3 (F175 (v21.getD (Int.toNat v24) default).1 2))) [], .pr (0 ≤ (v24 : Int) ∧ (v24 : Int) < ((v21.length : Nat) : Int)), .pr (((((flat c65 v21)).drop (0 + Int.toNat v24 * 9 + 3)).take 3) = (k3 (v21.getD (Int.toNat v24) default).2.1)), .call 175 [(.a (k3 (v21.getD (Int.toNat v24) default).2.1)), (iv 2)] [] (.a (k3 (F175 (v21.getD (Int.toNat v24) default).2.1 2))) [], .pr (0 ≤ (v24 : Int) ∧ (v24 : Int) < ((v21.length : Nat) : Int)), .pr (((((flat c65 v21)).drop (0 + Int.toNat v24 * 9 + 6)).take 3) = (k3 (v21.getD (Int.toNat v24) default).2.2)), .call 175 [(.a (k3 (v21.getD (Int.toNat v24) default).2.2)), (iv 2)] [] (.a (k3 (F175 (v21.getD (Int.toNat v24) default).2.2 2))) [], .call 224 [(.a (k3 (F175 (v21.getD (Int.toNat v24) default).1 2))), (.a (k3 (F175 (v21.getD (Int.toNat v24) default).2.1 2)))] [] (.a (k3 (F224 (F175 (v21.getD (Int.toNat v24) default).1 2) (F175 (v21.getD (Int.toNat v24) default).2.1 2)))) [], .call 224 [(.a (k3 (F175 (v21.getD (Int.toNat v24) default).2.1 2))), (.a (k3 (F175 (v21.getD (Int.toNat v24) default).2.2 2)))] [] (.a (k3 (F224 (F175 (v21.getD (Int.toNat v24) default).2.1 2) (F175 (v21.getD (Int.toNat v24) default).2.2 2)))) [], .call 224 [(.a (k3 (F175 (v21.getD (Int.toNat v24) default).2.2 2))), (.a (k3 (F175 (v21.getD (Int.toNat v24) default).1 2)))] [] (.a (k3 (F224 (F175 (v21.getD (Int.toNat v24) default).2.2 2) (F175 (v21.getD (Int.toNat v24) default).1 2)))) [], .pr ((flat c65 v22).length = v22.length * 9 ∧ v22.length + 4 ≤ 2 ^ 40 ∧ (v22.length + 4) * 72 ≤ 2 ^ 47)]) (by kernel_rfl) ⟨h0, (show 0 ≤ (v24 : Int) ∧ (v24 : Int) < ((v21.length : Nat) : Int) from by first | omega | (rw [W_eq] <;> omega) | exact u64_nn _), (ld_part c65_len default v21 v24 0 3 (by omega) (by decide) (by omega) rfl), (C175 (v21.getD (Int.toNat v24) default).1 2), (show 0 ≤ (v24 : Int) ∧ (v24 : Int) < ((v21.length : Nat) : Int) from by first | omega | (rw [W_eq] <;> omega) | exact u64_nn _), (ld_part c65_len default v21 v24 3 3 (by omega) (by decide) (by omega) rfl), (C175 (v21.getD (Int.toNat v24) default).2.1 2), (show 0 ≤ (v24 : Int) ∧ (v24 : Int) < ((v21.length : Nat) : Int) from by first | omega | (rw [W_eq] <;> omega) | exact u64_nn _), (ld_part c65_len default v21 v24 6 3 (by omega) (by decide) (by omega) rfl), (C175 (v21.getD (Int.toNat v24) default).2.2 2), (C224 (F175 (v21.getD (Int.toNat v24) default).1 2) (F175 (v21.getD (Int.toNat v24) default).2.1 2)), (C224 (F175 (v21.getD (Int.toNat v24) default).2.1 2) (F175 (v21.getD (Int.toNat v24) default).2.2 2)), (C224 (F175 (v21.getD (Int.toNat v24) default).2.2 2) (F175 (v21.getD (Int.toNat v24) default).1 2)), (app_ok c65_len (by omega) (by omega)), trivial⟩ ?_
      have z0 : (W (v24 + 1)) = (v24 + 1) := W_eq (by omega) (by omega)
      have z1 : (flat c65 v22 ++ [(iv (F175 (v21.getD (Int.toNat v24) default).1 2).1), (iv (F175 (v21.getD (Int.toNat v24) default).1 2).2.1), (iv (F175 (v21.getD (Int.toNat v24) default).1 2).2.2), (iv (F224 (F175 (v21.getD (Int.toNat v24) default).1 2) (F175 (v21.getD (Int.toNat v24) default).2.1 2)).1), (iv (F224 (F175 (v21.getD (Int.toNat v24) default).1 2) (F175 (v21.getD (Int.toNat v24) default).2.1 2)).2.1), (iv (F224 (F175 (v21.getD (Int.toNat v24) default).1 2) (F175 (v21.getD (Int.toNat v24) default).2.1 2)).2.2), (iv (F224 (F175 (v21.getD (Int.toNat v24) default).2.2 2) (F175 (v21.getD (Int.toNat v24) default).1 2)).1), (iv (F224 (F175 (v21.getD (Int.toNat v24) default).2.2 2) (F175 (v21.getD (Int.toNat v24) default).1 2)).2.1), (iv (F224 (F175 (v21.getD (Int.toNat v24) default).2.2 2) (F175 (v21.getD (Int.toNat v24) default).1 2)).2.2), (iv (F224 (F175 (v21.getD (Int.toNat v24) default).1 2) (F175 (v21.getD (Int.toNat v24) default).2.1 2)).1), (iv (F224 (F175 (v21.getD (Int.toNat v24) default).1 2) (F175 (v21.getD (Int.toNat v24) default).2.1 2)).2.1), (iv (F224 (F175 (v21.getD (Int.toNat v24) default).1 2) (F175 (v21.getD (Int.toNat v24) default).2.1 2)).2.2), (iv (F175 (v21.getD (Int.toNat v24) default).2.1 2).1), (iv (F175 (v21.getD (Int.toNat v24) default).2.1 2).2.1), (iv (F175 (v21.getD (Int.toNat v24) default).2.1 2).2.2), (iv (F224 (F175 (v21.getD (Int.toNat v24) default).2.1 2) (F175 (v21.getD (Int.toNat v24) default).2.2 2)).1), (iv (F224 (F175 (v21.getD (Int.toNat v24) default).2.1 2) (F175 (v21.getD (Int.toNat v24) default).2.2 2)).2.1), (iv (F224 (F175 (v21.getD (Int.toNat v24) default).2.1 2) (F175 (v21.getD (Int.toNat v24) default).2.2 2)).2.2), (iv (F224 (F175 (v21.getD (Int.toNat v24) default).2.2 2) (F175 (v21.getD (Int.toNat v24) default).1 2)).1), (iv (F224 (F175 (v21.getD (Int.toNat v24) default).2.2 2) (F175 (v21.getD (Int.toNat v24) default).1 2)).2.1), (iv (F224 (F175 (v21.getD (Int.toNat v24) default).2.2 2) (F175 (v21.getD (Int.toNat v24) default).1 2)).2.2), (iv (F224 (F175 (v21.getD (Int.toNat v24) default).2.1 2) (F175 (v21.getD (Int.toNat v24) default).2.2 2)).1), (iv (F224 (F175 (v21.getD (Int.toNat v24) default).2.1 2) (F175 (v21.getD (Int.toNat v24) default).2.2 2)).2.1), (iv (F224 (F175 (v21.getD (Int.toNat v24) default).2.1 2) (F175 (v21.getD (Int.toNat v24) default).2.2 2)).2.2), (iv (F175 (v21.getD (Int.toNat v24) default).2.2 2).1), (iv (F175 (v21.getD (Int.toNat v24) default).2.2 2).2.1), (iv (F175 (v21.getD (Int.toNat v24) default).2.2 2).2.2), (iv (F224 (F175 (v21.getD (Int.toNat v24) default).1 2) (F175 (v21.getD (Int.toNat v24) default).2.1 2)).1), (iv (F224 (F175 (v21.getD (Int.toNat v24) default).1 2) (F175 (v21.getD (Int.toNat v24) default).2.1 2)).2.1), (iv (F224 (F175 (v21.getD (Int.toNat v24) default).1 2) (F175 (v21.getD (Int.toNat v24) default).2.1 2)).2.2), (iv (F224 (F175 (v21.getD (Int.toNat v24) default).2.1 2) (F175 (v21.getD (Int.toNat v24) default).2.2 2)).1), (iv (F224 (F175 (v21.getD (Int.toNat v24) default).2.1 2) (F175 (v21.getD (Int.toNat v24) default).2.2 2)).2.1), (iv (F224 (F175 (v21.getD (Int.toNat v24) default).2.1 2) (F175 (v21.getD (Int.toNat v24) default).2.2 2)).2.2), (iv (F224 (F175 (v21.getD (Int.toNat v24) default).2.2 2) (F175 (v21.getD (Int.toNat v24) default).1 2)).1), (iv (F224 (F175 (v21.getD (Int.toNat v24) default).2.2 2) (F175 (v21.getD (Int.toNat v24) default).1 2)).2.1), (iv (F224 (F175 (v21.getD (Int.toNat v24) default).2.2 2) (F175 (v21.getD (Int.toNat v24) default).1 2)).2.2)]) = (flat c65 (v22 ++ [((F175 (v21.getD (Int.toNat v24) default).1 2), (F224 (F175 (v21.getD (Int.toNat v24) default).1 2) (F175 (v21.getD (Int.toNat v24) default).2.1 2)), (F224 (F175 (v21.getD (Int.toNat v24) default).2.2 2) (F175 (v21.getD (Int.toNat v24) default).1 2))), ((F224 (F175 (v21.getD (Int.toNat v24) default).1 2) (F175 (v21.getD (Int.toNat v24) default).2.1 2)), (F175 (v21.getD (Int.toNat v24) default).2.1 2), (F224 (F175 (v21.getD (Int.toNat v24) default).2.1 2) (F175 (v21.getD (Int.toNat v24) default).2.2 2))), ((F224 (F175 (v21.getD (Int.toNat v24) default).2.2 2) (F175 (v21.getD (Int.toNat v24) default).1 2)), (F224 (F175 (v21.getD (Int.toNat v24) default).2.1 2) (F175 (v21.getD (Int.toNat v24) default).2.2 2)), (F175 (v21.getD (Int.toNat v24) default).2.2 2)), ((F224 (F175 (v21.getD (Int.toNat v24) default).1 2) (F175 (v21.getD (Int.toNat v24) default).2.1 2)), (F224 (F175 (v21.getD (Int.toNat v24) default).2.1 2) (F175 (v21.getD (Int.toNat v24) default).2.2 2)), (F224 (F175 (v21.getD (Int.toNat v24) default).2.2 2) (F175 (v21.getD (Int.toNat v24) default).1 2)))])) := (flat_append (c := c65) (l := v22) (m := [((F175 (v21.getD (Int.toNat v24) default).1 2), (F224 (F175 (v21.getD (Int.toNat v24) default).1 2) (F175 (v21.getD (Int.toNat v24) default).2.1 2)), (F224 (F175 (v21.getD (Int.toNat v24) default).2.2 2) (F175 (v21.getD (Int.toNat v24) default).1 2))), ((F224 (F175 (v21.getD (Int.toNat v24) default).1 2) (F175 (v21.getD (Int.toNat v24) default).2.1 2)), (F175 (v21.getD (Int.toNat v24) default).2.1 2), (F224 (F175 (v21.getD (Int.toNat v24) default).2.1 2) (F175 (v21.getD (Int.toNat v24) default).2.2 2))), ((F224 (F175 (v21.getD (Int.toNat v24) default).2.2 2) (F175 (v21.getD (Int.toNat v24) default).1 2)), (F224 (F175 (v21.getD (Int.toNat v24) default).2.1 2) (F175 (v21.getD (Int.toNat v24) default).2.2 2)), (F175 (v21.getD (Int.toNat v24) default).2.2 2)), ((F224 (F175 (v21.getD (Int.toNat v24) default).1 2) (F175 (v21.getD (Int.toNat v24) default).2.1 2)), (F224 (F175 (v21.getD (Int.toNat v24) default).2.1 2) (F175 (v21.getD (Int.toNat v24) default).2.2 2)), (F224 (F175 (v21.getD (Int.toNat v24) default).2.2 2) (F175 (v21.getD (Int.toNat v24) default).1 2)))])).symm
      have z2 : (v22.length + 4) = (v22 ++ [((F175 (v21.getD (Int.toNat v24) default).1 2), (F224 (F175 (v21.getD (Int.toNat v24) default).1 2) (F175 (v21.getD (Int.toNat v24) default).2.1 2)), (F224 (F175 (v21.getD (Int.toNat v24) default).2.2 2) (F175 (v21.getD (Int.toNat v24) default).1 2))), ((F224 (F175 (v21.getD (Int.toNat v24) default).1 2) (F175 (v21.getD (Int.toNat v24) default).2.1 2)), (F175 (v21.getD (Int.toNat v24) default).2.1 2), (F224 (F175 (v21.getD (Int.toNat v24) default).2.1 2) (F175 (v21.getD (Int.toNat v24) default).2.2 2))), ((F224 (F175 (v21.getD (Int.toNat v24) default).2.2 2) (F175 (v21.getD (Int.toNat v24) default).1 2)), (F224 (F175 (v21.getD (Int.toNat v24) default).2.1 2) (F175 (v21.getD (Int.toNat v24) default).2.2 2)), (F175 (v21.getD (Int.toNat v24) default).2.2 2)), ((F224 (F175 (v21.getD (Int.toNat v24) default).1 2) (F175 (v21.getD (Int.toNat v24) default).2.1 2)), (F224 (F175 (v21.getD (Int.toNat v24) default).2.1 2) (F175 (v21.getD (Int.toNat v24) default).2.2 2)), (F224 (F175 (v21.getD (Int.toNat v24) default).2.2 2) (F175 (v21.getD (Int.toNat v24) default).1 2)))]).length := len_app v22 [((F175 (v21.getD (Int.toNat v24) default).1 2), (F224 (F175 (v21.getD (Int.toNat v24) default).1 2) (F175 (v21.getD (Int.toNat v24) default).2.1 2)), (F224 (F175 (v21.getD (Int.toNat v24) default).2.2 2) (F175 (v21.getD (Int.toNat v24) default).1 2))), ((F224 (F175 (v21.getD (Int.toNat v24) default).1 2) (F175 (v21.getD (Int.toNat v24) default).2.1 2)), (F175 (v21.getD (Int.toNat v24) default).2.1 2), (F224 (F175 (v21.getD (Int.toNat v24) default).2.1 2) (F175 (v21.getD (Int.toNat v24) default).2.2 2))), ((F224 (F175 (v21.getD (Int.toNat v24) default).2.2 2) (F175 (v21.getD (Int.toNat v24) default).1 2)), (F224 (F175 (v21.getD (Int.toNat v24) default).2.1 2) (F175 (v21.getD (Int.toNat v24) default).2.2 2)), (F175 (v21.getD (Int.toNat v24) default).2.2 2)), ((F224 (F175 (v21.getD (Int.toNat v24) default).1 2) (F175 (v21.getD (Int.toNat v24) default).2.1 2)), (F224 (F175 (v21.getD (Int.toNat v24) default).2.1 2) (F175 (v21.getD (Int.toNat v24) default).2.2 2)), (F224 (F175 (v21.getD (Int.toNat v24) default).2.2 2) (F175 (v21.getD (Int.toNat v24) default).1 2)))] rfl
      rw [z0, z1, z2]
      exact ih v21 (v22 ++ [((F175 (v21.getD (Int.toNat v24) default).1 2), (F224 (F175 (v21.getD (Int.toNat v24) default).1 2) (F175 (v21.getD (Int.toNat v24) default).2.1 2)), (F224 (F175 (v21.getD (Int.toNat v24) default).2.2 2) (F175 (v21.getD (Int.toNat v24) default).1 2))), ((F224 (F175 (v21.getD (Int.toNat v24) default).1 2) (F175 (v21.getD (Int.toNat v24) default).2.1 2)), (F175 (v21.getD (Int.toNat v24) default).2.1 2), (F224 (F175 (v21.getD (Int.toNat v24) default).2.1 2) (F175 (v21.getD (Int.toNat v24) default).2.2 2))), ((F224 (F175 (v21.getD (Int.toNat v24) default).2.2 2) (F175 (v21.getD (Int.toNat v24) default).1 2)), (F224 (F175 (v21.getD (Int.toNat v24) default).2.1 2) (F175 (v21.getD (Int.toNat v24) default).2.2 2)), (F175 (v21.getD (Int.toNat v24) default).2.2 2)), ((F224 (F175 (v21.getD (Int.toNat v24) default).1 2) (F175 (v21.getD (Int.toNat v24) default).2.1 2)), (F224 (F175 (v21.getD (Int.toNat v24) default).2.1 2) (F175 (v21.getD (Int.toNat v24) default).2.2 2)), (F224 (F175 (v21.getD (Int.toNat v24) default).2.2 2) (F175 (v21.getD (Int.toNat v24) default).1 2)))]) v23 (v24 + 1) (by refine ⟨?_, ?_, ?_, ?_, ?_, ?_, ?_⟩ <;> (try simp only [List.length_append, List.length_cons, List.length_nil, Int.toNat_zero]) <;> first | omega | assumption | exact hi.2.1 | exact hi.2.2.1 | exact hi.2.2.2.1 | exact hi.2.2.2.2.1 | exact hi.2.2.2.2.2.1 | exact hi.2.2.2.2.2.2.1 | simp) (by (try simp only [List.length_append, List.length_cons, List.length_nil, Int.toNat_zero]); omega)
    | false =>
      have q0 := of_decide_eq_false h0
      have e : S178_1 a0 a1 (v21, v22, v23, v24) = (.inr (.inl (v22, (v23 + 1)))) := by simp only [S178_1, h0, cond_true, cond_false]
      rw [show loopF (S178_1 a0 a1) (n + 1) (v21, v22, v23, v24) = thenF (S178_1 a0 a1) n (S178_1 a0 a1 (v21, v22, v23, v24)) from rfl, e]
      refine back_of (T := T0) hT hm (f := 5000) (orc := [.d false]) [] [1, 5, 6] [1] hcx (body := B178_0) (m := n0) (k' := K178_0) (s' := ⟨[.u, (iv a1), .u, .u, .u, (.s 0 0 v22.length 9), (iv (W (v23 + 1))), .u, .u, .u, .u, .u, .u, .u, .u, .u, .u, .u, .u, .u, .u, .u, .u, .u, .u, .u, .u, .u, .u, .u, .u, .u, .u, .u, .u, .u, .u, .u, .u, .u, .u, .u, .u, .u, .u, .u, .u, .u, .u, .u, .u, .u, .u, .u, .u, .u, .u, .u, .u, .u, .u, .u, .u, .u, .u, .u, .u, .u, .u, .u, .u, .u, .u, .u, .u, .u], [(.live true true (flat c65 v22))]⟩)
        (obs := [.eq (decide ((v24 : Int) < ((v21.length : Nat) : Int))) false]) (by kernel_rfl) ⟨h0, trivial⟩ ?_
      have z0 : (W (v23 + 1)) = (v23 + 1) := W_eq (by omega) (by omega)
      rw [z0]
      exact g0 v22 (v23 + 1) (by refine ⟨?_, ?_⟩ <;> (try simp only [List.length_append, List.length_cons, List.length_nil, Int.toNat_zero]) <;> first | omega | assumption | simp) (by (try simp only [List.length_append, List.length_cons, List.length_nil, Int.toNat_zero]); omega)

set_option maxHeartbeats 4000000 in
theorem L178_0 (a0 : (Int × Int × Int) × (Int × Int × Int) × Int × Int × Int) (a1 : Int) (ha : 0 ≤ a1 ∧ a1 ≤ 3) {cx : Cx} (hcx : cx.base = 0) : ∀ (n : Nat) (v14 : List ((Int × Int × Int) × (Int × Int × Int) × Int × Int × Int)) (v15 : Int), (0 ≤ v15) ∧ (v15 = 0 ∧ v14.length ≤ 1 ∨ v15 = 1 ∧ v14.length ≤ 4 ∨ v15 = 2 ∧ v14.length ≤ 16 ∨ 3 ≤ v15 ∧ v14.length ≤ 64) → Int.toNat (a1 - v15) < n → Aw.Good Tryz.prog none 9 (bodyPost Tryz.prog Tryz.f178 (RR cx (.s 0 0 (loopF (S178_0 a0 a1) n (v14, v15)).length 9) [(.live true true (flat c65 (loopF (S178_0 a0 a1) n (v14, v15))))] [])) cx [] (.l B178_0 n :: K178_0) ⟨[.u, (iv a1), .u, .u, .u, (.s 0 0 v14.length 9), (iv v15), .u, .u, .u, .u, .u, .u, .u, .u, .u, .u, .u, .u, .u, .u, .u, .u, .u, .u, .u, .u, .u, .u, .u, .u, .u, .u, .u, .u, .u, .u, .u, .u, .u, .u, .u, .u, .u, .u, .u, .u, .u, .u, .u, .u, .u, .u, .u, .u, .u, .u, .u, .u, .u, .u, .u, .u, .u, .u, .u, .u, .u, .u, .u, .u, .u, .u, .u, .u, .u], [(.live true true (flat c65 v14))]⟩ := by
  intro n
  induction n with
  | zero => intro v14 v15 hi hn; exact absurd hn (Nat.not_lt_zero _)
  | succ n ih =>
    intro v14 v15 hi hn
    refine good_round ?_
    cases h0 : (decide ((v15 : Int) < a1)) with
    | true =>
      have q0 := of_decide_eq_true h0
      have e : S178_0 a0 a1 (v14, v15) = (loopF (S178_1 a0 a1) (Int.toNat (((v14.length : Nat) : Int) - 0) + 1) (v14, ([] : List ((Int × Int × Int) × (Int × Int × Int) × Int × Int × Int)), v15, 0)) := by simp only [S178_0, h0, cond_true, cond_false]
      rw [show loopF (S178_0 a0 a1) (n + 1) (v14, v15) = thenF (S178_0 a0 a1) n (S178_0 a0 a1 (v14, v15)) from rfl, e]
      refine enter_of (T := T0) hT hm (f := 5000) (orc := [.d true]) [.slot 7 9] [1, 5, 6, 7, 8] [0, 1] hcx (body := B178_1) (k' := K178_1 n) (s' := ⟨[.u, (iv a1), .u, .u, .u, (.s 0 0 v14.length 9), (iv v15), (.s 1 0 0 9), (iv 0), .u, .u, .u, .u, .u, .u, .u, .u, .u, .u, .u, .u, .u, .u, .u, .u, .u, .u, .u, .u, .u, .u, .u, .u, .u, .u, .u, .u, .u, .u, .u, .u, .u, .u, .u, .u, .u, .u, .u, .u, .u, .u, .u, .u, .u, .u, .u, .u, .u, .u, .u, .u, .u, .u, .u, .u, .u, .u, .u, .u, .u, .u, .u, .u, .u, .u, .u], [(.live true true (flat c65 v14)), (.live true true (flat c65 ([] : List ((Int × Int × Int) × (Int × Int × Int) × Int × Int × Int))))]⟩)
        (obs := [.eq (decide ((v15 : Int) < a1)) true]) (by kernel_rfl) ⟨h0, trivial⟩ ⟨Int.toNat (((v14.length : Nat) : Int) - 0) + 1, ?_⟩
      exact L178_1 a0 a1 ha hcx n ih (Int.toNat (((v14.length : Nat) : Int) - 0) + 1) v14 ([] : List ((Int × Int × Int) × (Int × Int × Int) × Int × Int × Int)) v15 0 (by refine ⟨?_, ?_, ?_, ?_, ?_, ?_, ?_⟩ <;> (try simp only [List.length_append, List.length_cons, List.length_nil, Int.toNat_zero]) <;> first | omega | assumption | exact hi.2.1 | exact hi.2.2.1 | exact hi.2.2.2.1 | exact hi.2.2.2.2.1 | exact hi.2.2.2.2.2.1 | exact hi.2.2.2.2.2.2.1 | simp) (by (try simp only [List.length_append, List.length_cons, List.length_nil, Int.toNat_zero]); omega)
    | false =>
      have q0 := of_decide_eq_false h0
      have e : S178_0 a0 a1 (v14, v15) = (.inr v14) := by simp only [S178_0, h0, cond_true, cond_false]
      rw [show loopF (S178_0 a0 a1) (n + 1) (v14, v15) = thenF (S178_0 a0 a1) n (S178_0 a0 a1 (v14, v15)) from rfl, e]
      exact ret_of (T := T0) hT hm (f := 5000) (orc := [.d false]) [] [] [0] hcx
        (obs := [.eq (decide ((v15 : Int) < a1)) false]) (by kernel_rfl) ⟨h0, trivial⟩

/-- facet/facetref03.Cut -/
def F178 (a0 : (Int × Int × Int) × (Int × Int × Int) × Int × Int × Int) (a1 : Int) : List ((Int × Int × Int) × (Int × Int × Int) × Int × Int × Int) :=
  (loopF (S178_0 a0 a1) (Int.toNat (a1 - 0) + 1) (([a0] : List ((Int × Int × Int) × (Int × Int × Int) × Int × Int × Int)), 0))

theorem C178 (a0 : (Int × Int × Int) × (Int × Int × Int) × Int × Int × Int) (a1 : Int) (ha : 0 ≤ a1 ∧ a1 ≤ 3) : Con Tryz.prog 178 [(.a (k9 a0)), (iv a1)] [] (.s 0 0 (F178 a0 a1).length 9) [(.live true true (flat c65 (F178 a0 a1)))] := by
  have e : (F178 a0 a1) = (loopF (S178_0 a0 a1) (Int.toNat (a1 - 0) + 1) (([a0] : List ((Int × Int × Int) × (Int × Int × Int) × Int × Int × Int)), 0)) := by simp only [F178]
  rw [e]
  refine con_of (n := 9) Tryz.func178 rfl (ent Tryz.func178 (by kernel_rfl) rfl) (by show 2 ≤ Tryz.f178.ntmps; decide) (by kernel_rfl) trivial (fun cx hcx => ?_)
  refine enter_of (T := T0) hT hm (f := 5000) (orc := []) [.sym 1 true] [1, 5, 6] [1] hcx (body := B178_0) (k' := K178_0) (s' := ⟨[.u, (iv a1), .u, .u, .u, (.s 0 0 1 9), (iv 0), .u, .u, .u, .u, .u, .u, .u, .u, .u, .u, .u, .u, .u, .u, .u, .u, .u, .u, .u, .u, .u, .u, .u, .u, .u, .u, .u, .u, .u, .u, .u, .u, .u, .u, .u, .u, .u, .u, .u, .u, .u, .u, .u, .u, .u, .u, .u, .u, .u, .u, .u, .u, .u, .u, .u, .u, .u, .u, .u, .u, .u, .u, .u, .u, .u, .u, .u, .u, .u], [(.live true true (flat c65 ([a0] : List ((Int × Int × Int) × (Int × Int × Int) × Int × Int × Int))))]⟩)
    (obs := []) (by kernel_rfl) trivial ⟨Int.toNat (a1 - 0) + 1, ?_⟩
  exact L178_0 a0 a1 ha hcx (Int.toNat (a1 - 0) + 1) ([a0] : List ((Int × Int × Int) × (Int × Int × Int) × Int × Int × Int)) 0 (by refine ⟨?_, ?_⟩ <;> (try simp only [List.length_append, List.length_cons, List.length_nil, Int.toNat_zero]) <;> first | omega | assumption | simp) (by (try simp only [List.length_append, List.length_cons, List.length_nil, Int.toNat_zero]); omega)

noncomputable def B140_L_0 : Code := (loopAtD [1, 1, 1, 0, 1] [] (Tryz.f140.body.getD .skip) []).1
noncomputable def K140_L_0 : List K := (loopAtD [1, 1, 1, 0, 1] [] (Tryz.f140.body.getD .skip) []).2

/-- a round of loop 0 of facet/facetref01.total; the variables: v1 = s5, v2 = s6, v3 = s7 -/
def S140_L_0 (a0 : List (Int × Int)) : Int × Int × Int → (Int × Int × Int) ⊕ (Int × Int × Int)
  | (v1, v2, v3) =>
   (bif (decide ((v3 : Int) < ((a0.length : Nat) : Int))) then
    (bif (!(F110 (a0.getD (Int.toNat v3) default))) then
     (.inr (0, 0, 1))
    else
     (.inl ((W (v1 + (a0.getD (Int.toNat v3) default).1)), (W (v2 + (a0.getD (Int.toNat v3) default).2)), (v3 + 1))))
   else
    (.inr (v1, v2, 0)))

set_option maxHeartbeats 4000000 in
theorem L140_L_0 (a0 : List (Int × Int)) (l0 : a0.length ≤ 9223372036854775807) {cx : Cx} (hcx : cx.base = 1) : ∀ (n : Nat) (v1 : Int) (v2 : Int) (v3 : Int), 0 ≤ v3 → Int.toNat (((a0.length : Nat) : Int) - v3) < n → Aw.Good Tryz.prog none 9 (bodyPost Tryz.prog Tryz.f140 (RR cx (.t (k3 (loopF (S140_L_0 a0) n (v1, v2, v3)))) [] [])) cx [] (.l B140_L_0 n :: K140_L_0) ⟨[(.s 0 0 a0.length 2), .u, .u, .u, .u, (iv v1), (iv v2), (iv v3), .u, .u, .u, .u, .u, .u, .u, .u, .u, .u, .u, .u, .u, .u, .u, .u, .u, .u, .u, .u, .u, .u, .u, .u, .u, .u, .u, .u, .u, .u, .u], [(.live false true (flat c29 a0))]⟩ := by
  intro n
  induction n with
  | zero => intro v1 v2 v3 hi hn; exact absurd hn (Nat.not_lt_zero _)
  | succ n ih =>
    intro v1 v2 v3 hi hn
    refine good_round ?_
    cases h0 : (decide ((v3 : Int) < ((a0.length : Nat) : Int))) with
    | true =>
      cases h1 : (!(F110 (a0.getD (Int.toNat v3) default))) with
      | true =>
        have q0 := of_decide_eq_true h0
        have e : S140_L_0 a0 (v1, v2, v3) = (.inr (0, 0, 1)) := by simp only [S140_L_0, h0, h1, cond_true, cond_false]
        rw [show loopF (S140_L_0 a0) (n + 1) (v1, v2, v3) = thenF (S140_L_0 a0) n (S140_L_0 a0 (v1, v2, v3)) from rfl, e]
        exact ret_of (T := T0) hT hm (f := 5000) (orc := [.d true, .ld (k2 (a0.getD (Int.toNat v3) default)), .call [] (.v (.bool (F110 (a0.getD (Int.toNat v3) default)))) [], .d true]) [] [] [] hcx
          (obs := [.eq (decide ((v3 : Int) < ((a0.length : Nat) : Int))) true, .pr (0 ≤ (v3 : Int) ∧ (v3 : Int) < ((a0.length : Nat) : Int)), .pr (((((flat c29 a0)).drop (0 + Int.toNat v3 * 2)).take 2) = (k2 (a0.getD (Int.toNat v3) default))), .call 110 [(.a (k2 (a0.getD (Int.toNat v3) default)))] [] (.v (.bool (F110 (a0.getD (Int.toNat v3) default)))) [], .eq (!(F110 (a0.getD (Int.toNat v3) default))) true]) (by kernel_rfl) ⟨h0, (show 0 ≤ (v3 : Int) ∧ (v3 : Int) < ((a0.length : Nat) : Int) from by first | omega | (rw [W_eq] <;> omega) | exact u64_nn _), (ld_part c29_len default a0 v3 0 2 (by omega) (by decide) (by omega) rfl), (C110 (a0.getD (Int.toNat v3) default)), h1, trivial⟩
      | false =>
        have q0 := of_decide_eq_true h0
        have e : S140_L_0 a0 (v1, v2, v3) = (.inl ((W (v1 + (a0.getD (Int.toNat v3) default).1)), (W (v2 + (a0.getD (Int.toNat v3) default).2)), (v3 + 1))) := by simp only [S140_L_0, h0, h1, cond_true, cond_false]
        rw [loopF_inl e]
        refine back_of (T := T0) hT hm (f := 5000) (orc := [.d true, .ld (k2 (a0.getD (Int.toNat v3) default)), .call [] (.v (.bool (F110 (a0.getD (Int.toNat v3) default)))) [], .d false, .ld [(iv (a0.getD (Int.toNat v3) default).1)], .ld [(iv (a0.getD (Int.toNat v3) default).2)]]) [] [0, 5, 6, 7] [] hcx (body := B140_L_0) (m := n) (k' := K140_L_0) (s' := ⟨[(.s 0 0 a0.length 2), .u, .u, .u, .u, (iv (W (v1 + (a0.getD (Int.toNat v3) default).1))), (iv (W (v2 + (a0.getD (Int.toNat v3) default).2))), (iv (W (v3 + 1))), .u, .u, .u, .u, .u, .u, .u, .u, .u, .u, .u, .u, .u, .u, .u, .u, .u, .u, .u, .u, .u, .u, .u, .u, .u, .u, .u, .u, .u, .u, .u], [(.live false true (flat c29 a0))]⟩)
          (obs := [.eq (decide ((v3 : Int) < ((a0.length : Nat) : Int))) true, .pr (0 ≤ (v3 : Int) ∧ (v3 : Int) < ((a0.length : Nat) : Int)), .pr (((((flat c29 a0)).drop (0 + Int.toNat v3 * 2)).take 2) = (k2 (a0.getD (Int.toNat v3) default))), .call 110 [(.a (k2 (a0.getD (Int.toNat v3) default)))] [] (.v (.bool (F110 (a0.getD (Int.toNat v3) default)))) [], .eq (!(F110 (a0.getD (Int.toNat v3) default))) false, .pr (0 ≤ (v3 : Int) ∧ (v3 : Int) < ((a0.length : Nat) : Int)), .pr (((((flat c29 a0)).drop (0 + Int.toNat v3 * 2 + 0)).take 1) = [(iv (a0.getD (Int.toNat v3) default).1)]), .pr (0 ≤ (v3 : Int) ∧ (v3 : Int) < ((a0.length : Nat) : Int)), .pr (((((flat c29 a0)).drop (0 + Int.toNat v3 * 2 + 1)).take 1) = [(iv (a0.getD (Int.toNat v3) default).2)])]) (by kernel_rfl) ⟨h0, (show 0 ≤ (v3 : Int) ∧ (v3 : Int) < ((a0.length : Nat) : Int) from by first | omega | (rw [W_eq] <;> omega) | exact u64_nn _), (ld_part c29_len default a0 v3 0 2 (by omega) (by decide) (by omega) rfl), (C110 (a0.getD (Int.toNat v3) default)), h1, (show 0 ≤ (v3 : Int) ∧ (v3 : Int) < ((a0.length : Nat) : Int) from by first | omega | (rw [W_eq] <;> omega) | exact u64_nn _), (ld_part c29_len default a0 v3 0 1 (by omega) (by decide) (by omega) rfl), (show 0 ≤ (v3 : Int) ∧ (v3 : Int) < ((a0.length : Nat) : Int) from by first | omega | (rw [W_eq] <;> omega) | exact u64_nn _), (ld_part c29_len default a0 v3 1 1 (by omega) (by decide) (by omega) rfl), trivial⟩ ?_
        have z0 : (W (v3 + 1)) = (v3 + 1) := W_eq (by omega) (by omega)
        rw [z0]
        exact ih (W (v1 + (a0.getD (Int.toNat v3) default).1)) (W (v2 + (a0.getD (Int.toNat v3) default).2)) (v3 + 1) (by (try simp only [List.length_append, List.length_cons, List.length_nil, Int.toNat_zero]); omega) (by (try simp only [List.length_append, List.length_cons, List.length_nil, Int.toNat_zero]); omega)
    | false =>
      have q0 := of_decide_eq_false h0
      have e : S140_L_0 a0 (v1, v2, v3) = (.inr (v1, v2, 0)) := by simp only [S140_L_0, h0, cond_true, cond_false]
      rw [show loopF (S140_L_0 a0) (n + 1) (v1, v2, v3) = thenF (S140_L_0 a0) n (S140_L_0 a0 (v1, v2, v3)) from rfl, e]
      exact ret_of (T := T0) hT hm (f := 5000) (orc := [.d false]) [] [] [] hcx
        (obs := [.eq (decide ((v3 : Int) < ((a0.length : Nat) : Int))) false]) (by kernel_rfl) ⟨h0, trivial⟩

/-- facet/facetref01.total at ('L',) -/
def F140_L (a0 : List (Int × Int)) : Int × Int × Int :=
  (bif (decide ((((a0.length : Nat) : Int) : Int) > 10000)) then
   (0, 0, 4)
  else
   (loopF (S140_L_0 a0) (Int.toNat (((a0.length : Nat) : Int) - 0) + 1) (0, 0, 0)))

theorem C140_L (a0 : List (Int × Int)) (l0 : a0.length ≤ 9223372036854775807) : Con Tryz.prog 140 [(.s 0 0 a0.length 2)] [(.live false true (flat c29 a0))] (.t (k3 (F140_L a0))) [] := by
  cases h0 : (decide ((((a0.length : Nat) : Int) : Int) > 10000)) with
  | true =>
    have q0 := of_decide_eq_true h0
    have e : (F140_L a0) = (0, 0, 4) := by simp only [F140_L, h0, cond_true, cond_false]
    rw [e]
    refine con_of (n := 9) Tryz.func140 rfl (ent Tryz.func140 (by kernel_rfl) rfl) (by show 1 ≤ Tryz.f140.ntmps; decide) (by kernel_rfl) ⟨rfl, trivial⟩ (fun cx hcx => ?_)
    exact ret_of (T := T0) hT hm (f := 5000) (orc := [.d true]) [] [] [] hcx
      (obs := [.eq (decide ((((a0.length : Nat) : Int) : Int) > 10000)) true]) (by kernel_rfl) ⟨h0, trivial⟩
  | false =>
    have q0 := of_decide_eq_false h0
    have e : (F140_L a0) = (loopF (S140_L_0 a0) (Int.toNat (((a0.length : Nat) : Int) - 0) + 1) (0, 0, 0)) := by simp only [F140_L, h0, cond_true, cond_false]
    rw [e]
    refine con_of (n := 9) Tryz.func140 rfl (ent Tryz.func140 (by kernel_rfl) rfl) (by show 1 ≤ Tryz.f140.ntmps; decide) (by kernel_rfl) ⟨rfl, trivial⟩ (fun cx hcx => ?_)
    refine enter_of (T := T0) hT hm (f := 5000) (orc := [.d false]) [] [0, 5, 6, 7] [] hcx (body := B140_L_0) (k' := K140_L_0) (s' := ⟨[(.s 0 0 a0.length 2), .u, .u, .u, .u, (iv 0), (iv 0), (iv 0), .u, .u, .u, .u, .u, .u, .u, .u, .u, .u, .u, .u, .u, .u, .u, .u, .u, .u, .u, .u, .u, .u, .u, .u, .u, .u, .u, .u, .u, .u, .u], [(.live false true (flat c29 a0))]⟩)
      (obs := [.eq (decide ((((a0.length : Nat) : Int) : Int) > 10000)) false]) (by kernel_rfl) ⟨h0, trivial⟩ ⟨Int.toNat (((a0.length : Nat) : Int) - 0) + 1, ?_⟩
    exact L140_L_0 a0 l0 hcx (Int.toNat (((a0.length : Nat) : Int) - 0) + 1) 0 0 0 (by (try simp only [List.length_append, List.length_cons, List.length_nil, Int.toNat_zero]); omega) (by (try simp only [List.length_append, List.length_cons, List.length_nil, Int.toNat_zero]); omega)

/-- facet/facetref01.Sum at ('L',) -/
def F68_L (a0 : List (Int × Int)) : (Int × Int) × Int :=
  (bif (((F140_L a0).2.2 : Int) != 0) then
   ((0, 0), (F140_L a0).2.2)
  else
   ((F138 (F140_L a0).1 (F140_L a0).2.1).1, (F138 (F140_L a0).1 (F140_L a0).2.1).2))

theorem C68_L (a0 : List (Int × Int)) (l0 : a0.length ≤ 9223372036854775807) : Con Tryz.prog 68 [(.s 0 0 a0.length 2)] [(.live false true (flat c29 a0))] (.t [(.a (k2 (F68_L a0).1)), (iv (F68_L a0).2)]) [] := by
  cases h0 : (((F140_L a0).2.2 : Int) != 0) with
  | true =>
    have q0 := bne_iff_ne.1 h0
    have e : (F68_L a0) = ((0, 0), (F140_L a0).2.2) := by simp only [F68_L, h0, cond_true, cond_false]
    rw [e]
    refine con_of (n := 9) Tryz.func68 rfl (ent Tryz.func68 (by kernel_rfl) rfl) (by show 1 ≤ Tryz.f68.ntmps; decide) (by kernel_rfl) ⟨rfl, trivial⟩ (fun cx hcx => ?_)
    exact ret_of (T := T0) hT hm (f := 5000) (orc := [.call [0] (.t (k3 (F140_L a0))) [], .d true]) [] [] [] hcx
      (obs := [.call 140 [(.s 0 0 a0.length 2)] [(.live false true (flat c29 a0))] (.t (k3 (F140_L a0))) [], .eq (((F140_L a0).2.2 : Int) != 0) true]) (by kernel_rfl) ⟨(C140_L a0 (by (try simp only [List.length_append, List.length_cons, List.length_nil, Int.toNat_zero, axis3, axis1]); omega)), h0, trivial⟩
  | false =>
    have q0 := bne_eq_false_iff_eq.1 h0
    have e : (F68_L a0) = ((F138 (F140_L a0).1 (F140_L a0).2.1).1, (F138 (F140_L a0).1 (F140_L a0).2.1).2) := by simp only [F68_L, h0, cond_true, cond_false]
    rw [e]
    refine con_of (n := 9) Tryz.func68 rfl (ent Tryz.func68 (by kernel_rfl) rfl) (by show 1 ≤ Tryz.f68.ntmps; decide) (by kernel_rfl) ⟨rfl, trivial⟩ (fun cx hcx => ?_)
    exact ret_of (T := T0) hT hm (f := 5000) (orc := [.call [0] (.t (k3 (F140_L a0))) [], .d false, .call [] (.t [(.a (k2 (F138 (F140_L a0).1 (F140_L a0).2.1).1)), (iv (F138 (F140_L a0).1 (F140_L a0).2.1).2)]) []]) [] [] [] hcx
      (obs := [.call 140 [(.s 0 0 a0.length 2)] [(.live false true (flat c29 a0))] (.t (k3 (F140_L a0))) [], .eq (((F140_L a0).2.2 : Int) != 0) false, .call 138 [(iv (F140_L a0).1), (iv (F140_L a0).2.1)] [] (.t [(.a (k2 (F138 (F140_L a0).1 (F140_L a0).2.1).1)), (iv (F138 (F140_L a0).1 (F140_L a0).2.1).2)]) []]) (by kernel_rfl) ⟨(C140_L a0 (by (try simp only [List.length_append, List.length_cons, List.length_nil, Int.toNat_zero, axis3, axis1]); omega)), h0, (C138 (F140_L a0).1 (F140_L a0).2.1), trivial⟩

/-- facet/facetref01.Mean at ('L',) -/
def F179_L (a0 : List (Int × Int)) : (Int × Int) × Int :=
  (bif (((F140_L a0).2.2 : Int) != 0) then
   ((0, 0), (F140_L a0).2.2)
  else
   (bif ((((a0.length : Nat) : Int) : Int) == 0) then
    ((0, 0), 1)
   else
    ((F138 (F205 (F140_L a0).1 ((a0.length : Nat) : Int)) (F206 (F140_L a0).2.1 ((a0.length : Nat) : Int))).1, (F138 (F205 (F140_L a0).1 ((a0.length : Nat) : Int)) (F206 (F140_L a0).2.1 ((a0.length : Nat) : Int))).2)))

noncomputable def oC179_L_0 (a0 : List (Int × Int)) : Ob := .call 140 [(.s 0 0 a0.length 2)] [(.live false true (flat c29 a0))] (.t (k3 (F140_L a0))) []
theorem C179_L (a0 : List (Int × Int)) (l0 : a0.length ≤ 9223372036854775807) : Con Tryz.prog 179 [(.s 0 0 a0.length 2)] [(.live false true (flat c29 a0))] (.t [(.a (k2 (F179_L a0).1)), (iv (F179_L a0).2)]) [] := by
  cases h0 : (((F140_L a0).2.2 : Int) != 0) with
  | true =>
    have q0 := bne_iff_ne.1 h0
    have e : (F179_L a0) = ((0, 0), (F140_L a0).2.2) := by simp only [F179_L, h0, cond_true, cond_false]
    rw [e]
    refine con_of (n := 9) Tryz.func179 rfl (ent Tryz.func179 (by kernel_rfl) rfl) (by show 1 ≤ Tryz.f179.ntmps; decide) (by kernel_rfl) ⟨rfl, trivial⟩ (fun cx hcx => ?_)
    exact ret_of (T := T0) hT hm (f := 5000) (orc := [.call [0] (.t (k3 (F140_L a0))) [], .d true]) [] [] [] hcx
      (obs := [(oC179_L_0 a0), .eq (((F140_L a0).2.2 : Int) != 0) true]) (by kernel_rfl) ⟨(C140_L a0 (by (try simp only [List.length_append, List.length_cons, List.length_nil, Int.toNat_zero, axis3, axis1]); omega)), h0, trivial⟩
  | false =>
    cases h1 : ((((a0.length : Nat) : Int) : Int) == 0) with
    | true =>
      have q0 := bne_eq_false_iff_eq.1 h0
      have q1 := eq_of_beq h1
      have e : (F179_L a0) = ((0, 0), 1) := by simp only [F179_L, h0, h1, cond_true, cond_false]
      rw [e]
      refine con_of (n := 9) Tryz.func179 rfl (ent Tryz.func179 (by kernel_rfl) rfl) (by show 1 ≤ Tryz.f179.ntmps; decide) (by kernel_rfl) ⟨rfl, trivial⟩ (fun cx hcx => ?_)
      exact ret_of (T := T0) hT hm (f := 5000) (orc := [.call [0] (.t (k3 (F140_L a0))) [], .d false, .d true]) [] [] [] hcx
        (obs := [(oC179_L_0 a0), .eq (((F140_L a0).2.2 : Int) != 0) false, .eq ((((a0.length : Nat) : Int) : Int) == 0) true]) (by kernel_rfl) ⟨(C140_L a0 (by (try simp only [List.length_append, List.length_cons, List.length_nil, Int.toNat_zero, axis3, axis1]); omega)), h0, h1, trivial⟩
    | false =>
      have q0 := bne_eq_false_iff_eq.1 h0
      have q1 := ne_of_beq_false h1
      have e : (F179_L a0) = ((F138 (F205 (F140_L a0).1 ((a0.length : Nat) : Int)) (F206 (F140_L a0).2.1 ((a0.length : Nat) : Int))).1, (F138 (F205 (F140_L a0).1 ((a0.length : Nat) : Int)) (F206 (F140_L a0).2.1 ((a0.length : Nat) : Int))).2) := by simp only [F179_L, h0, h1, cond_true, cond_false]
      rw [e]
      refine con_of (n := 9) Tryz.func179 rfl (ent Tryz.func179 (by kernel_rfl) rfl) (by show 1 ≤ Tryz.f179.ntmps; decide) (by kernel_rfl) ⟨rfl, trivial⟩ (fun cx hcx => ?_)
      exact ret_of (T := T0) hT hm (f := 5000) (orc := [.call [0] (.t (k3 (F140_L a0))) [], .d false, .d false, .call [] (iv (F205 (F140_L a0).1 ((a0.length : Nat) : Int))) [], .call [] (iv (F206 (F140_L a0).2.1 ((a0.length : Nat) : Int))) [], .call [] (.t [(.a (k2 (F138 (F205 (F140_L a0).1 ((a0.length : Nat) : Int)) (F206 (F140_L a0).2.1 ((a0.length : Nat) : Int))).1)), (iv (F138 (F205 (F140_L a0).1 ((a0.length : Nat) : Int)) (F206 (F140_L a0).2.1 ((a0.length : Nat) : Int))).2)]) []]) [] [] [] hcx
        (obs := [(oC179_L_0 a0), .eq (((F140_L a0).2.2 : Int) != 0) false, .eq ((((a0.length : Nat) : Int) : Int) == 0) false, .call 205 [(iv (F140_L a0).1), (iv ((a0.length : Nat) : Int))] [] (iv (F205 (F140_L a0).1 ((a0.length : Nat) : Int))) [], .call 206 [(iv (F140_L a0).2.1), (iv ((a0.length : Nat) : Int))] [] (iv (F206 (F140_L a0).2.1 ((a0.length : Nat) : Int))) [], .call 138 [(iv (F205 (F140_L a0).1 ((a0.length : Nat) : Int))), (iv (F206 (F140_L a0).2.1 ((a0.length : Nat) : Int)))] [] (.t [(.a (k2 (F138 (F205 (F140_L a0).1 ((a0.length : Nat) : Int)) (F206 (F140_L a0).2.1 ((a0.length : Nat) : Int))).1)), (iv (F138 (F205 (F140_L a0).1 ((a0.length : Nat) : Int)) (F206 (F140_L a0).2.1 ((a0.length : Nat) : Int))).2)]) []]) (by kernel_rfl) ⟨(C140_L a0 (by (try simp only [List.length_append, List.length_cons, List.length_nil, Int.toNat_zero, axis3, axis1]); omega)), h0, h1, (C205 (F140_L a0).1 ((a0.length : Nat) : Int)  (by (try simp only [List.length_append, List.length_cons, List.length_nil, Int.toNat_zero, axis3, axis1]); omega)), (C206 (F140_L a0).2.1 ((a0.length : Nat) : Int)  (by (try simp only [List.length_append, List.length_cons, List.length_nil, Int.toNat_zero, axis3, axis1]); omega)), (C138 (F205 (F140_L a0).1 ((a0.length : Nat) : Int)) (F206 (F140_L a0).2.1 ((a0.length : Nat) : Int))), trivial⟩

noncomputable def B203_L_0 : Code := (loopAtD [1, 1, 0, 1] [] (Tryz.f203.body.getD .skip) []).1
noncomputable def K203_L_0 : List K := (loopAtD [1, 1, 0, 1] [] (Tryz.f203.body.getD .skip) []).2

/-- a round of loop 0 of facet/facetref03.far; the variables: v1 = s5, v2 = s6 -/
def S203_L_0 (a0 : (Int × Int × Int) × (Int × Int × Int) × Int × Int × Int) (a1 : List (Int × Int × Int)) : Int × Int → (Int × Int) ⊕ (Int)
  | (v1, v2) =>
   (bif (decide ((v2 : Int) < ((a1.length : Nat) : Int))) then
    (bif (decide (((F213 (F214 a0.1 (a1.getD (Int.toNat v2) default)) (F214 a0.1 (a1.getD (Int.toNat v2) default))) : Int) > v1)) then
     (bif (decide (((F213 (F214 a0.2.1 (a1.getD (Int.toNat v2) default)) (F214 a0.2.1 (a1.getD (Int.toNat v2) default))) : Int) > (F213 (F214 a0.1 (a1.getD (Int.toNat v2) default)) (F214 a0.1 (a1.getD (Int.toNat v2) default))))) then
      (bif (decide (((F213 (F214 a0.2.2 (a1.getD (Int.toNat v2) default)) (F214 a0.2.2 (a1.getD (Int.toNat v2) default))) : Int) > (F213 (F214 a0.2.1 (a1.getD (Int.toNat v2) default)) (F214 a0.2.1 (a1.getD (Int.toNat v2) default))))) then
       (.inl ((F213 (F214 a0.2.2 (a1.getD (Int.toNat v2) default)) (F214 a0.2.2 (a1.getD (Int.toNat v2) default))), (v2 + 1)))
      else
       (.inl ((F213 (F214 a0.2.1 (a1.getD (Int.toNat v2) default)) (F214 a0.2.1 (a1.getD (Int.toNat v2) default))), (v2 + 1))))
     else
      (bif (decide (((F213 (F214 a0.2.2 (a1.getD (Int.toNat v2) default)) (F214 a0.2.2 (a1.getD (Int.toNat v2) default))) : Int) > (F213 (F214 a0.1 (a1.getD (Int.toNat v2) default)) (F214 a0.1 (a1.getD (Int.toNat v2) default))))) then
       (.inl ((F213 (F214 a0.2.2 (a1.getD (Int.toNat v2) default)) (F214 a0.2.2 (a1.getD (Int.toNat v2) default))), (v2 + 1)))
      else
       (.inl ((F213 (F214 a0.1 (a1.getD (Int.toNat v2) default)) (F214 a0.1 (a1.getD (Int.toNat v2) default))), (v2 + 1)))))
    else
     (bif (decide (((F213 (F214 a0.2.1 (a1.getD (Int.toNat v2) default)) (F214 a0.2.1 (a1.getD (Int.toNat v2) default))) : Int) > v1)) then
      (bif (decide (((F213 (F214 a0.2.2 (a1.getD (Int.toNat v2) default)) (F214 a0.2.2 (a1.getD (Int.toNat v2) default))) : Int) > (F213 (F214 a0.2.1 (a1.getD (Int.toNat v2) default)) (F214 a0.2.1 (a1.getD (Int.toNat v2) default))))) then
       (.inl ((F213 (F214 a0.2.2 (a1.getD (Int.toNat v2) default)) (F214 a0.2.2 (a1.getD (Int.toNat v2) default))), (v2 + 1)))
      else
       (.inl ((F213 (F214 a0.2.1 (a1.getD (Int.toNat v2) default)) (F214 a0.2.1 (a1.getD (Int.toNat v2) default))), (v2 + 1))))
     else
      (bif (decide (((F213 (F214 a0.2.2 (a1.getD (Int.toNat v2) default)) (F214 a0.2.2 (a1.getD (Int.toNat v2) default))) : Int) > v1)) then
       (.inl ((F213 (F214 a0.2.2 (a1.getD (Int.toNat v2) default)) (F214 a0.2.2 (a1.getD (Int.toNat v2) default))), (v2 + 1)))
      else
       (.inl (v1, (v2 + 1))))))
   else
    (.inr v1))

set_option maxHeartbeats 4000000 in
theorem L203_L_0 (a0 : (Int × Int × Int) × (Int × Int × Int) × Int × Int × Int) (a1 : List (Int × Int × Int)) (l1 : a1.length ≤ 9223372036854775807) {cx : Cx} (hcx : cx.base = 1) : ∀ (n : Nat) (v1 : Int) (v2 : Int), 0 ≤ v2 → Int.toNat (((a1.length : Nat) : Int) - v2) < n → Aw.Good Tryz.prog none 9 (bodyPost Tryz.prog Tryz.f203 (RR cx (iv (loopF (S203_L_0 a0 a1) n (v1, v2))) [] [])) cx [] (.l B203_L_0 n :: K203_L_0) ⟨[.u, (.s 0 0 a1.length 3), (.p 1 0), .u, .u, (iv v1), (iv v2), .u, .u, .u, .u, .u, .u, .u, .u, .u, .u, .u, .u, .u, .u, .u, .u, .u, .u, .u, .u, .u, .u, .u, .u, .u, .u, .u, .u, .u, .u, .u, .u, .u, .u, .u, .u, .u], [(.live false true (flat c24 a1)), (.live true false (k9 a0))]⟩ := by
  intro n
  induction n with
  | zero => intro v1 v2 hi hn; exact absurd hn (Nat.not_lt_zero _)
  | succ n ih =>
    intro v1 v2 hi hn
    refine good_round ?_
    cases h0 : (decide ((v2 : Int) < ((a1.length : Nat) : Int))) with
    | true =>
      cases h1 : (decide (((F213 (F214 a0.1 (a1.getD (Int.toNat v2) default)) (F214 a0.1 (a1.getD (Int.toNat v2) default))) : Int) > v1)) with
      | true =>
        cases h2 : (decide (((F213 (F214 a0.2.1 (a1.getD (Int.toNat v2) default)) (F214 a0.2.1 (a1.getD (Int.toNat v2) default))) : Int) > (F213 (F214 a0.1 (a1.getD (Int.toNat v2) default)) (F214 a0.1 (a1.getD (Int.toNat v2) default))))) with
        | true =>
          cases h3 : (decide (((F213 (F214 a0.2.2 (a1.getD (Int.toNat v2) default)) (F214 a0.2.2 (a1.getD (Int.toNat v2) default))) : Int) > (F213 (F214 a0.2.1 (a1.getD (Int.toNat v2) default)) (F214 a0.2.1 (a1.getD (Int.toNat v2) default))))) with
          | true =>
            have q0 := of_decide_eq_true h0
            have q1 := of_decide_eq_true h1
            have q2 := of_decide_eq_true h2
            have q3 := of_decide_eq_true h3
            have e : S203_L_0 a0 a1 (v1, v2) = (.inl ((F213 (F214 a0.2.2 (a1.getD (Int.toNat v2) default)) (F214 a0.2.2 (a1.getD (Int.toNat v2) default))), (v2 + 1))) := by simp only [S203_L_0, h0, h1, h2, h3, cond_true, cond_false]
            rw [loopF_inl e]
            refine back_of (T := T0) hT hm (f := 5000) (orc := [.d true, .un 200, .d true, .ld (k3 (a1.getD (Int.toNat v2) default)), .call [] (.a (k3 (F214 a0.1 (a1.getD (Int.toNat v2) default)))) [], .call [] (iv (F213 (F214 a0.1 (a1.getD (Int.toNat v2) default)) (F214 a0.1 (a1.getD (Int.toNat v2) default)))) [], .d true, .un 0, .d true, .ld (k3 (a1.getD (Int.toNat v2) default)), .call [] (.a (k3 (F214 a0.2.1 (a1.getD (Int.toNat v2) default)))) [], .call [] (iv (F213 (F214 a0.2.1 (a1.getD (Int.toNat v2) default)) (F214 a0.2.1 (a1.getD (Int.toNat v2) default)))) [], .d true, .un 0, .d true, .ld (k3 (a1.getD (Int.toNat v2) default)), .call [] (.a (k3 (F214 a0.2.2 (a1.getD (Int.toNat v2) default)))) [], .call [] (iv (F213 (F214 a0.2.2 (a1.getD (Int.toNat v2) default)) (F214 a0.2.2 (a1.getD (Int.toNat v2) default)))) [], .d true, .un 0, .d false]) [] [1, 2, 5, 6] [1] hcx (body := B203_L_0) (m := n) (k' := K203_L_0) (s' := ⟨[.u, (.s 0 0 a1.length 3), (.p 1 0), .u, .u, (iv (F213 (F214 a0.2.2 (a1.getD (Int.toNat v2) default)) (F214 a0.2.2 (a1.getD (Int.toNat v2) default)))), (iv (W (v2 + 1))), .u, .u, .u, .u, .u, .u, .u, .u, .u, .u, .u, .u, .u, .u, .u, .u, .u, .u, .u, .u, .u, .u, .u, .u, .u, .u, .u, .u, .u, .u, .u, .u, .u, .u, .u, .u, .u], [(.live false true (flat c24 a1)), (.live true false (k9 a0))]⟩)
              (obs := [.eq (decide ((v2 : Int) < ((a1.length : Nat) : Int))) true, .eq true true, .pr (0 ≤ (0 : Int) ∧ (0 : Int) < ((3 : Nat) : Int)), .pr (0 ≤ (v2 : Int) ∧ (v2 : Int) < ((a1.length : Nat) : Int)), .pr (((((flat c24 a1)).drop (0 + Int.toNat v2 * 3)).take 3) = (k3 (a1.getD (Int.toNat v2) default))), .call 214 [(.a (k3 a0.1)), (.a (k3 (a1.getD (Int.toNat v2) default)))] [] (.a (k3 (F214 a0.1 (a1.getD (Int.toNat v2) default)))) [], .call 213 [(.a (k3 (F214 a0.1 (a1.getD (Int.toNat v2) default)))), (.a (k3 (F214 a0.1 (a1.getD (Int.toNat v2) default))))] [] (iv (F213 (F214 a0.1 (a1.getD (Int.toNat v2) default)) (F214 a0.1 (a1.getD (Int.toNat v2) default)))) [], .eq (decide (((F213 (F214 a0.1 (a1.getD (Int.toNat v2) default)) (F214 a0.1 (a1.getD (Int.toNat v2) default))) : Int) > v1)) true, .eq true true, .pr (0 ≤ (1 : Int) ∧ (1 : Int) < ((3 : Nat) : Int)), .pr (0 ≤ (v2 : Int) ∧ (v2 : Int) < ((a1.length : Nat) : Int)), .pr (((((flat c24 a1)).drop (0 + Int.toNat v2 * 3)).take 3) = (k3 (a1.getD (Int.toNat v2) default))), .call 214 [(.a (k3 a0.2.1)), (.a (k3 (a1.getD (Int.toNat v2) default)))] [] (.a (k3 (F214 a0.2.1 (a1.getD (Int.toNat v2) default)))) [], .call 213 [(.a (k3 (F214 a0.2.1 (a1.getD (Int.toNat v2) default)))), (.a (k3 (F214 a0.2.1 (a1.getD (Int.toNat v2) default))))] [] (iv (F213 (F214 a0.2.1 (a1.getD (Int.toNat v2) default)) (F214 a0.2.1 (a1.getD (Int.toNat v2) default)))) [], .eq (decide (((F213 (F214 a0.2.1 (a1.getD (Int.toNat v2) default)) (F214 a0.2.1 (a1.getD (Int.toNat v2) default))) : Int) > (F213 (F214 a0.1 (a1.getD (Int.toNat v2) default)) (F214 a0.1 (a1.getD (Int.toNat v2) default))))) true, .eq true true, .pr (0 ≤ (2 : Int) ∧ (2 : Int) < ((3 : Nat) : Int)), .pr (0 ≤ (v2 : Int) ∧ (v2 : Int) < ((a1.length : Nat) : Int)), .pr (((((flat c24 a1)).drop (0 + Int.toNat v2 * 3)).take 3) = (k3 (a1.getD (Int.toNat v2) default))), .call 214 [(.a (k3 a0.2.2)), (.a (k3 (a1.getD (Int.toNat v2) default)))] [] (.a (k3 (F214 a0.2.2 (a1.getD (Int.toNat v2) default)))) [], .call 213 [(.a (k3 (F214 a0.2.2 (a1.getD (Int.toNat v2) default)))), (.a (k3 (F214 a0.2.2 (a1.getD (Int.toNat v2) default))))] [] (iv (F213 (F214 a0.2.2 (a1.getD (Int.toNat v2) default)) (F214 a0.2.2 (a1.getD (Int.toNat v2) default)))) [], .eq (decide (((F213 (F214 a0.2.2 (a1.getD (Int.toNat v2) default)) (F214 a0.2.2 (a1.getD (Int.toNat v2) default))) : Int) > (F213 (F214 a0.2.1 (a1.getD (Int.toNat v2) default)) (F214 a0.2.1 (a1.getD (Int.toNat v2) default))))) true, .eq false false]) (by kernel_rfl) ⟨h0, rfl, (show 0 ≤ (0 : Int) ∧ (0 : Int) < ((3 : Nat) : Int) from by decide), (show 0 ≤ (v2 : Int) ∧ (v2 : Int) < ((a1.length : Nat) : Int) from by first | omega | (rw [W_eq] <;> omega) | exact u64_nn _), (ld_part c24_len default a1 v2 0 3 (by omega) (by decide) (by omega) rfl), (C214 a0.1 (a1.getD (Int.toNat v2) default)), (C213 (F214 a0.1 (a1.getD (Int.toNat v2) default)) (F214 a0.1 (a1.getD (Int.toNat v2) default))), h1, rfl, (show 0 ≤ (1 : Int) ∧ (1 : Int) < ((3 : Nat) : Int) from by decide), (show 0 ≤ (v2 : Int) ∧ (v2 : Int) < ((a1.length : Nat) : Int) from by first | omega | (rw [W_eq] <;> omega) | exact u64_nn _), (ld_part c24_len default a1 v2 0 3 (by omega) (by decide) (by omega) rfl), (C214 a0.2.1 (a1.getD (Int.toNat v2) default)), (C213 (F214 a0.2.1 (a1.getD (Int.toNat v2) default)) (F214 a0.2.1 (a1.getD (Int.toNat v2) default))), h2, rfl, (show 0 ≤ (2 : Int) ∧ (2 : Int) < ((3 : Nat) : Int) from by decide), (show 0 ≤ (v2 : Int) ∧ (v2 : Int) < ((a1.length : Nat) : Int) from by first | omega | (rw [W_eq] <;> omega) | exact u64_nn _), (ld_part c24_len default a1 v2 0 3 (by omega) (by decide) (by omega) rfl), (C214 a0.2.2 (a1.getD (Int.toNat v2) default)), (C213 (F214 a0.2.2 (a1.getD (Int.toNat v2) default)) (F214 a0.2.2 (a1.getD (Int.toNat v2) default))), h3, rfl, trivial⟩ ?_
            have z0 : (W (v2 + 1)) = (v2 + 1) := W_eq (by omega) (by omega)
            rw [z0]
            exact ih (F213 (F214 a0.2.2 (a1.getD (Int.toNat v2) default)) (F214 a0.2.2 (a1.getD (Int.toNat v2) default))) (v2 + 1) (by (try simp only [List.length_append, List.length_cons, List.length_nil, Int.toNat_zero]); omega) (by (try simp only [List.length_append, List.length_cons, List.length_nil, Int.toNat_zero]); omega)
          | false =>
            have q0 := of_decide_eq_true h0
            have q1 := of_decide_eq_true h1
            have q2 := of_decide_eq_true h2
            have q3 := of_decide_eq_false h3
            have e : S203_L_0 a0 a1 (v1, v2) = (.inl ((F213 (F214 a0.2.1 (a1.getD (Int.toNat v2) default)) (F214 a0.2.1 (a1.getD (Int.toNat v2) default))), (v2 + 1))) := by simp only [S203_L_0, h0, h1, h2, h3, cond_true, cond_false]
            rw [loopF_inl e]
            refine back_of (T := T0) hT hm (f := 5000) (orc := [.d true, .un 200, .d true, .ld (k3 (a1.getD (Int.toNat v2) default)), .call [] (.a (k3 (F214 a0.1 (a1.getD (Int.toNat v2) default)))) [], .call [] (iv (F213 (F214 a0.1 (a1.getD (Int.toNat v2) default)) (F214 a0.1 (a1.getD (Int.toNat v2) default)))) [], .d true, .un 0, .d true, .ld (k3 (a1.getD (Int.toNat v2) default)), .call [] (.a (k3 (F214 a0.2.1 (a1.getD (Int.toNat v2) default)))) [], .call [] (iv (F213 (F214 a0.2.1 (a1.getD (Int.toNat v2) default)) (F214 a0.2.1 (a1.getD (Int.toNat v2) default)))) [], .d true, .un 0, .d true, .ld (k3 (a1.getD (Int.toNat v2) default)), .call [] (.a (k3 (F214 a0.2.2 (a1.getD (Int.toNat v2) default)))) [], .call [] (iv (F213 (F214 a0.2.2 (a1.getD (Int.toNat v2) default)) (F214 a0.2.2 (a1.getD (Int.toNat v2) default)))) [], .d false, .un 0, .d false]) [] [1, 2, 5, 6] [1] hcx (body := B203_L_0) (m := n) (k' := K203_L_0) (s' := ⟨[.u, (.s 0 0 a1.length 3), (.p 1 0), .u, .u, (iv (F213 (F214 a0.2.1 (a1.getD (Int.toNat v2) default)) (F214 a0.2.1 (a1.getD (Int.toNat v2) default)))), (iv (W (v2 + 1))), .u, .u, .u, .u, .u, .u, .u, .u, .u, .u, .u, .u, .u, .u, .u, .u, .u, .u, .u, .u, .u, .u, .u, .u, .u, .u, .u, .u, .u, .u, .u, .u, .u, .u, .u, .u, .u], [(.live false true (flat c24 a1)), (.live true false (k9 a0))]⟩)
              (obs := [.eq (decide ((v2 : Int) < ((a1.length : Nat) : Int))) true, .eq true true, .pr (0 ≤ (0 : Int) ∧ (0 : Int) < ((3 : Nat) : Int)), .pr (0 ≤ (v2 : Int) ∧ (v2 : Int) < ((a1.length : Nat) : Int)), .pr (((((flat c24 a1)).drop (0 + Int.toNat v2 * 3)).take 3) = (k3 (a1.getD (Int.toNat v2) default))), .call 214 [(.a (k3 a0.1)), (.a (k3 (a1.getD (Int.toNat v2) default)))] [] (.a (k3 (F214 a0.1 (a1.getD (Int.toNat v2) default)))) [], .call 213 [(.a (k3 (F214 a0.1 (a1.getD (Int.toNat v2) default)))), (.a (k3 (F214 a0.1 (a1.getD (Int.toNat v2) default))))] [] (iv (F213 (F214 a0.1 (a1.getD (Int.toNat v2) default)) (F214 a0.1 (a1.getD (Int.toNat v2) default)))) [], .eq (decide (((F213 (F214 a0.1 (a1.getD (Int.toNat v2) default)) (F214 a0.1 (a1.getD (Int.toNat v2) default))) : Int) > v1)) true, .eq true true, .pr (0 ≤ (1 : Int) ∧ (1 : Int) < ((3 : Nat) : Int)), .pr (0 ≤ (v2 : Int) ∧ (v2 : Int) < ((a1.length : Nat) : Int)), .pr (((((flat c24 a1)).drop (0 + Int.toNat v2 * 3)).take 3) = (k3 (a1.getD (Int.toNat v2) default))), .call 214 [(.a (k3 a0.2.1)), (.a (k3 (a1.getD (Int.toNat v2) default)))] [] (.a (k3 (F214 a0.2.1 (a1.getD (Int.toNat v2) default)))) [], .call 213 [(.a (k3 (F214 a0.2.1 (a1.getD (Int.toNat v2) default)))), (.a (k3 (F214 a0.2.1 (a1.getD (Int.toNat v2) default))))] [] (iv (F213 (F214 a0.2.1 (a1.getD (Int.toNat v2) default)) (F214 a0.2.1 (a1.getD (Int.toNat v2) default)))) [], .eq (decide (((F213 (F214 a0.2.1 (a1.getD (Int.toNat v2) default)) (F214 a0.2.1 (a1.getD (Int.toNat v2) default))) : Int) > (F213 (F214 a0.1 (a1.getD (Int.toNat v2) default)) (F214 a0.1 (a1.getD (Int.toNat v2) default))))) true, .eq true true, .pr (0 ≤ (2 : Int) ∧ (2 : Int) < ((3 : Nat) : Int)), .pr (0 ≤ (v2 : Int) ∧ (v2 : Int) < ((a1.length : Nat) : Int)), .pr (((((flat c24 a1)).drop (0 + Int.toNat v2 * 3)).take 3) = (k3 (a1.getD (Int.toNat v2) default))), .call 214 [(.a (k3 a0.2.2)), (.a (k3 (a1.getD (Int.toNat v2) default)))] [] (.a (k3 (F214 a0.2.2 (a1.getD (Int.toNat v2) default)))) [], .call 213 [(.a (k3 (F214 a0.2.2 (a1.getD (Int.toNat v2) default)))), (.a (k3 (F214 a0.2.2 (a1.getD (Int.toNat v2) default))))] [] (iv (F213 (F214 a0.2.2 (a1.getD (Int.toNat v2) default)) (F214 a0.2.2 (a1.getD (Int.toNat v2) default)))) [], .eq (decide (((F213 (F214 a0.2.2 (a1.getD (Int.toNat v2) default)) (F214 a0.2.2 (a1.getD (Int.toNat v2) default))) : Int) > (F213 (F214 a0.2.1 (a1.getD (Int.toNat v2) default)) (F214 a0.2.1 (a1.getD (Int.toNat v2) default))))) false, .eq false false]) (by kernel_rfl) ⟨h0, rfl, (show 0 ≤ (0 : Int) ∧ (0 : Int) < ((3 : Nat) : Int) from by decide), (show 0 ≤ (v2 : Int) ∧ (v2 : Int) < ((a1.length : Nat) : Int) from by first | omega | (rw [W_eq] <;> omega) | exact u64_nn _), (ld_part c24_len default a1 v2 0 3 (by omega) (by decide) (by omega) rfl), (C214 a0.1 (a1.getD (Int.toNat v2) default)), (C213 (F214 a0.1 (a1.getD (Int.toNat v2) default)) (F214 a0.1 (a1.getD (Int.toNat v2) default))), h1, rfl, (show 0 ≤ (1 : Int) ∧ (1 : Int) < ((3 : Nat) : Int) from by decide), (show 0 ≤ (v2 : Int) ∧ (v2 : Int) < ((a1.length : Nat) : Int) from by first | omega | (rw [W_eq] <;> omega) | exact u64_nn _), (ld_part c24_len default a1 v2 0 3 (by omega) (by decide) (by omega) rfl), (C214 a0.2.1 (a1.getD (Int.toNat v2) default)), (C213 (F214 a0.2.1 (a1.getD (Int.toNat v2) default)) (F214 a0.2.1 (a1.getD (Int.toNat v2) default))), h2, rfl, (show 0 ≤ (2 : Int) ∧ (2 : Int) < ((3 : Nat) : Int) from by decide), (show 0 ≤ (v2 : Int) ∧ (v2 : Int) < ((a1.length : Nat) : Int) from by first | omega | (rw [W_eq] <;> omega) | exact u64_nn _), (ld_part c24_len default a1 v2 0 3 (by omega) (by decide) (by omega) rfl), (C214 a0.2.2 (a1.getD (Int.toNat v2) default)), (C213 (F214 a0.2.2 (a1.getD (Int.toNat v2) default)) (F214 a0.2.2 (a1.getD (Int.toNat v2) default))), h3, rfl, trivial⟩ ?_
            have z0 : (W (v2 + 1)) = (v2 + 1) := W_eq (by omega) (by omega)
            rw [z0]
            exact ih (F213 (F214 a0.2.1 (a1.getD (Int.toNat v2) default)) (F214 a0.2.1 (a1.getD (Int.toNat v2) default))) (v2 + 1) (by (try simp only [List.length_append, List.length_cons, List.length_nil, Int.toNat_zero]); omega) (by (try simp only [List.length_append, List.length_cons, List.length_nil, Int.toNat_zero]); omega)
        | false =>
          cases h3 : (decide (((F213 (F214 a0.2.2 (a1.getD (Int.toNat v2) default)) (F214 a0.2.2 (a1.getD (Int.toNat v2) default))) : Int) > (F213 (F214 a0.1 (a1.getD (Int.toNat v2) default)) (F214 a0.1 (a1.getD (Int.toNat v2) default))))) with
          | true =>
            have q0 := of_decide_eq_true h0
            have q1 := of_decide_eq_true h1
            have q2 := of_decide_eq_false h2
            have q3 := of_decide_eq_true h3
            have e : S203_L_0 a0 a1 (v1, v2) = (.inl ((F213 (F214 a0.2.2 (a1.getD (Int.toNat v2) default)) (F214 a0.2.2 (a1.getD (Int.toNat v2) default))), (v2 + 1))) := by simp only [S203_L_0, h0, h1, h2, h3, cond_true, cond_false]
            rw [loopF_inl e]
            refine back_of (T := T0) hT hm (f := 5000) (orc := [.d true, .un 200, .d true, .ld (k3 (a1.getD (Int.toNat v2) default)), .call [] (.a (k3 (F214 a0.1 (a1.getD (Int.toNat v2) default)))) [], .call [] (iv (F213 (F214 a0.1 (a1.getD (Int.toNat v2) default)) (F214 a0.1 (a1.getD (Int.toNat v2) default)))) [], .d true, .un 0, .d true, .ld (k3 (a1.getD (Int.toNat v2) default)), .call [] (.a (k3 (F214 a0.2.1 (a1.getD (Int.toNat v2) default)))) [], .call [] (iv (F213 (F214 a0.2.1 (a1.getD (Int.toNat v2) default)) (F214 a0.2.1 (a1.getD (Int.toNat v2) default)))) [], .d false, .un 0, .d true, .ld (k3 (a1.getD (Int.toNat v2) default)), .call [] (.a (k3 (F214 a0.2.2 (a1.getD (Int.toNat v2) default)))) [], .call [] (iv (F213 (F214 a0.2.2 (a1.getD (Int.toNat v2) default)) (F214 a0.2.2 (a1.getD (Int.toNat v2) default)))) [], .d true, .un 0, .d false]) [] [1, 2, 5, 6] [1] hcx (body := B203_L_0) (m := n) (k' := K203_L_0) (s' := ⟨[.u, (.s 0 0 a1.length 3), (.p 1 0), .u, .u, (iv (F213 (F214 a0.2.2 (a1.getD (Int.toNat v2) default)) (F214 a0.2.2 (a1.getD (Int.toNat v2) default)))), (iv (W (v2 + 1))), .u, .u, .u, .u, .u, .u, .u, .u, .u, .u, .u, .u, .u, .u, .u, .u, .u, .u, .u, .u, .u, .u, .u, .u, .u, .u, .u, .u, .u, .u, .u, .u, .u, .u, .u, .u, .u], [(.live false true (flat c24 a1)), (.live true false (k9 a0))]⟩)
              (obs := [.eq (decide ((v2 : Int) < ((a1.length : Nat) : Int))) true, .eq true true, .pr (0 ≤ (0 : Int) ∧ (0 : Int) < ((3 : Nat) : Int)), .pr (0 ≤ (v2 : Int) ∧ (v2 : Int) < ((a1.length : Nat) : Int)), .pr (((((flat c24 a1)).drop (0 + Int.toNat v2 * 3)).take 3) = (k3 (a1.getD (Int.toNat v2) default))), .call 214 [(.a (k3 a0.1)), (.a (k3 (a1.getD (Int.toNat v2) default)))] [] (.a (k3 (F214 a0.1 (a1.getD (Int.toNat v2) default)))) [], .call 213 [(.a (k3 (F214 a0.1 (a1.getD (Int.toNat v2) default)))), (.a (k3 (F214 a0.1 (a1.getD (Int.toNat v2) default))))] [] (iv (F213 (F214 a0.1 (a1.getD (Int.toNat v2) default)) (F214 a0.1 (a1.getD (Int.toNat v2) default)))) [], .eq (decide (((F213 (F214 a0.1 (a1.getD (Int.toNat v2) default)) (F214 a0.1 (a1.getD (Int.toNat v2) default))) : Int) > v1)) true, .eq true true, .pr (0 ≤ (1 : Int) ∧ (1 : Int) < ((3 : Nat) : Int)), .pr (0 ≤ (v2 : Int) ∧ (v2 : Int) < ((a1.length : Nat) : Int)), .pr (((((flat c24 a1)).drop (0 + Int.toNat v2 * 3)).take 3) = (k3 (a1.getD (Int.toNat v2) default))), .call 214 [(.a (k3 a0.2.1)), (.a (k3 (a1.getD (Int.toNat v2) default)))] [] (.a (k3 (F214 a0.2.1 (a1.getD (Int.toNat v2) default)))) [], .call 213 [(.a (k3 (F214 a0.2.1 (a1.getD (Int.toNat v2) default)))), (.a (k3 (F214 a0.2.1 (a1.getD (Int.toNat v2) default))))] [] (iv (F213 (F214 a0.2.1 (a1.getD (Int.toNat v2) default)) (F214 a0.2.1 (a1.getD (Int.toNat v2) default)))) [], .eq (decide (((F213 (F214 a0.2.1 (a1.getD (Int.toNat v2) default)) (F214 a0.2.1 (a1.getD (Int.toNat v2) default))) : Int) > (F213 (F214 a0.1 (a1.getD (Int.toNat v2) default)) (F214 a0.1 (a1.getD (Int.toNat v2) default))))) false, .eq true true, .pr (0 ≤ (2 : Int) ∧ (2 : Int) < ((3 : Nat) : Int)), .pr (0 ≤ (v2 : Int) ∧ (v2 : Int) < ((a1.length : Nat) : Int)), .pr (((((flat c24 a1)).drop (0 + Int.toNat v2 * 3)).take 3) = (k3 (a1.getD (Int.toNat v2) default))), .call 214 [(.a (k3 a0.2.2)), (.a (k3 (a1.getD (Int.toNat v2) default)))] [] (.a (k3 (F214 a0.2.2 (a1.getD (Int.toNat v2) default)))) [], .call 213 [(.a (k3 (F214 a0.2.2 (a1.getD (Int.toNat v2) default)))), (.a (k3 (F214 a0.2.2 (a1.getD (Int.toNat v2) default))))] [] (iv (F213 (F214 a0.2.2 (a1.getD (Int.toNat v2) default)) (F214 a0.2.2 (a1.getD (Int.toNat v2) default)))) [], .eq (decide (((F213 (F214 a0.2.2 (a1.getD (Int.toNat v2) default)) (F214 a0.2.2 (a1.getD (Int.toNat v2) default))) : Int) > (F213 (F214 a0.1 (a1.getD (Int.toNat v2) default)) (F214 a0.1 (a1.getD (Int.toNat v2) default))))) true, .eq false false]) (by kernel_rfl) ⟨h0, rfl, (show 0 ≤ (0 : Int) ∧ (0 : Int) < ((3 : Nat) : Int) from by decide), (show 0 ≤ (v2 : Int) ∧ (v2 : Int) < ((a1.length : Nat) : Int) from by first | omega | (rw [W_eq] <;> omega) | exact u64_nn _), (ld_part c24_len default a1 v2 0 3 (by omega) (by decide) (by omega) rfl), (C214 a0.1 (a1.getD (Int.toNat v2) default)), (C213 (F214 a0.1 (a1.getD (Int.toNat v2) default)) (F214 a0.1 (a1.getD (Int.toNat v2) default))), h1, rfl, (show 0 ≤ (1 : Int) ∧ (1 : Int) < ((3 : Nat) : Int) from by decide), (show 0 ≤ (v2 : Int) ∧ (v2 : Int) < ((a1.length : Nat) : Int) from by first | omega | (rw [W_eq] <;> omega) | exact u64_nn _), (ld_part c24_len default a1 v2 0 3 (by omega) (by decide) (by omega) rfl), (C214 a0.2.1 (a1.getD (Int.toNat v2) default)), (C213 (F214 a0.2.1 (a1.getD (Int.toNat v2) default)) (F214 a0.2.1 (a1.getD (Int.toNat v2) default))), h2, rfl, (show 0 ≤ (2 : Int) ∧ (2 : Int) < ((3 : Nat) : Int) from by decide), (show 0 ≤ (v2 : Int) ∧ (v2 : Int) < ((a1.length : Nat) : Int) from by first | omega | (rw [W_eq] <;> omega) | exact u64_nn _), (ld_part c24_len default a1 v2 0 3 (by omega) (by decide) (by omega) rfl), (C214 a0.2.2 (a1.getD (Int.toNat v2) default)), (C213 (F214 a0.2.2 (a1.getD (Int.toNat v2) default)) (F214 a0.2.2 (a1.getD (Int.toNat v2) default))), h3, rfl, trivial⟩ ?_
            have z0 : (W (v2 + 1)) = (v2 + 1) := W_eq (by omega) (by omega)
            rw [z0]
            exact ih (F213 (F214 a0.2.2 (a1.getD (Int.toNat v2) default)) (F214 a0.2.2 (a1.getD (Int.toNat v2) default))) (v2 + 1) (by (try simp only [List.length_append, List.length_cons, List.length_nil, Int.toNat_zero]); omega) (by (try simp only [List.length_append, List.length_cons, List.length_nil, Int.toNat_zero]); omega)
          | false =>
            have q0 := of_decide_eq_true h0
            have q1 := of_decide_eq_true h1
            have q2 := of_decide_eq_false h2
            have q3 := of_decide_eq_false h3
            have e : S203_L_0 a0 a1 (v1, v2) = (.inl ((F213 (F214 a0.1 (a1.getD (Int.toNat v2) default)) (F214 a0.1 (a1.getD (Int.toNat v2) default))), (v2 + 1))) := by simp only [S203_L_0, h0, h1, h2, h3, cond_true, cond_false]
            rw [loopF_inl e]
            refine back_of (T := T0) hT hm (f := 5000) (orc := [.d true, .un 200, .d true, .ld (k3 (a1.getD (Int.toNat v2) default)), .call [] (.a (k3 (F214 a0.1 (a1.getD (Int.toNat v2) default)))) [], .call [] (iv (F213 (F214 a0.1 (a1.getD (Int.toNat v2) default)) (F214 a0.1 (a1.getD (Int.toNat v2) default)))) [], .d true, .un 0, .d true, .ld (k3 (a1.getD (Int.toNat v2) default)), .call [] (.a (k3 (F214 a0.2.1 (a1.getD (Int.toNat v2) default)))) [], .call [] (iv (F213 (F214 a0.2.1 (a1.getD (Int.toNat v2) default)) (F214 a0.2.1 (a1.getD (Int.toNat v2) default)))) [], .d false, .un 0, .d true, .ld (k3 (a1.getD (Int.toNat v2) default)), .call [] (.a (k3 (F214 a0.2.2 (a1.getD (Int.toNat v2) default)))) [], .call [] (iv (F213 (F214 a0.2.2 (a1.getD (Int.toNat v2) default)) (F214 a0.2.2 (a1.getD (Int.toNat v2) default)))) [], .d false, .un 0, .d false]) [] [1, 2, 5, 6] [1] hcx (body := B203_L_0) (m := n) (k' := K203_L_0) (s' := ⟨[.u, (.s 0 0 a1.length 3), (.p 1 0), .u, .u, (iv (F213 (F214 a0.1 (a1.getD (Int.toNat v2) default)) (F214 a0.1 (a1.getD (Int.toNat v2) default)))), (iv (W (v2 + 1))), .u, .u, .u, .u, .u, .u, .u, .u, .u, .u, .u, .u, .u, .u, .u, .u, .u, .u, .u, .u, .u, .u, .u, .u, .u, .u, .u, .u, .u, .u, .u, .u, .u, .u, .u, .u, .u], [(.live false true (flat c24 a1)), (.live true false (k9 a0))]⟩)
              (obs := [.eq (decide ((v2 : Int) < ((a1.length : Nat) : Int))) true, .eq true true, .pr (0 ≤ (0 : Int) ∧ (0 : Int) < ((3 : Nat) : Int)), .pr (0 ≤ (v2 : Int) ∧ (v2 : Int) < ((a1.length : Nat) : Int)), .pr (((((flat c24 a1)).drop (0 + Int.toNat v2 * 3)).take 3) = (k3 (a1.getD (Int.toNat v2) default))), .call 214 [(.a (k3 a0.1)), (.a (k3 (a1.getD (Int.toNat v2) default)))] [] (.a (k3 (F214 a0.1 (a1.getD (Int.toNat v2) default)))) [], .call 213 [(.a (k3 (F214 a0.1 (a1.getD (Int.toNat v2) default)))), (.a (k3 (F214 a0.1 (a1.getD (Int.toNat v2) default))))] [] (iv (F213 (F214 a0.1 (a1.getD (Int.toNat v2) default)) (F214 a0.1 (a1.getD (Int.toNat v2) default)))) [], .eq (decide (((F213 (F214 a0.1 (a1.getD (Int.toNat v2) default)) (F214 a0.1 (a1.getD (Int.toNat v2) default))) : Int) > v1)) true, .eq true true, .pr (0 ≤ (1 : Int) ∧ (1 : Int) < ((3 : Nat) : Int)), .pr (0 ≤ (v2 : Int) ∧ (v2 : Int) < ((a1.length : Nat) : Int)), .pr (((((flat c24 a1)).drop (0 + Int.toNat v2 * 3)).take 3) = (k3 (a1.getD (Int.toNat v2) default))), .call 214 [(.a (k3 a0.2.1)), (.a (k3 (a1.getD (Int.toNat v2) default)))] [] (.a (k3 (F214 a0.2.1 (a1.getD (Int.toNat v2) default)))) [], .call 213 [(.a (k3 (F214 a0.2.1 (a1.getD (Int.toNat v2) default)))), (.a (k3 (F214 a0.2.1 (a1.getD (Int.toNat v2) default))))] [] (iv (F213 (F214 a0.2.1 (a1.getD (Int.toNat v2) default)) (F214 a0.2.1 (a1.getD (Int.toNat v2) default)))) [], .eq (decide (((F213 (F214 a0.2.1 (a1.getD (Int.toNat v2) default)) (F214 a0.2.1 (a1.getD (Int.toNat v2) default))) : Int) > (F213 (F214 a0.1 (a1.getD (Int.toNat v2) default)) (F214 a0.1 (a1.getD (Int.toNat v2) default))))) false, .eq true true, .pr (0 ≤ (2 : Int) ∧ (2 : Int) < ((3 : Nat) : Int)), .pr (0 ≤ (v2 : Int) ∧ (v2 : Int) < ((a1.length : Nat) : Int)), .pr (((((flat c24 a1)).drop (0 + Int.toNat v2 * 3)).take 3) = (k3 (a1.getD (Int.toNat v2) default))), .call 214 [(.a (k3 a0.2.2)), (.a (k3 (a1.getD (Int.toNat v2) default)))] [] (.a (k3 (F214 a0.2.2 (a1.getD (Int.toNat v2) default)))) [], .call 213 [(.a (k3 (F214 a0.2.2 (a1.getD (Int.toNat v2) default)))), (.a (k3 (F214 a0.2.2 (a1.getD (Int.toNat v2) default))))] [] (iv (F213 (F214 a0.2.2 (a1.getD (Int.toNat v2) default)) (F214 a0.2.2 (a1.getD (Int.toNat v2) default)))) [], .eq (decide (((F213 (F214 a0.2.2 (a1.getD (Int.toNat v2) default)) (F214 a0.2.2 (a1.getD (Int.toNat v2) default))) : Int) > (F213 (F214 a0.1 (a1.getD (Int.toNat v2) default)) (F214 a0.1 (a1.getD (Int.toNat v2) default))))) false, .eq false false]) (by kernel_rfl) ⟨h0, rfl, (show 0 ≤ (0 : Int) ∧ (0 : Int) < ((3 : Nat) : Int) from by decide), (show 0 ≤ (v2 : Int) ∧ (v2 : Int) < ((a1.length : Nat) : Int) from by first | omega | (rw [W_eq] <;> omega) | exact u64_nn _), (ld_part c24_len default a1 v2 0 3 (by omega) (by decide) (by omega) rfl), (C214 a0.1 (a1.getD (Int.toNat v2) default)), (C213 (F214 a0.1 (a1.getD (Int.toNat v2) default)) (F214 a0.1 (a1.getD (Int.toNat v2) default))), h1, rfl, (show 0 ≤ (1 : Int) ∧ (1 : Int) < ((3 : Nat) : Int) from by decide), (show 0 ≤ (v2 : Int) ∧ (v2 : Int) < ((a1.length : Nat) : Int) from by first | omega | (rw [W_eq] <;> omega) | exact u64_nn _), (ld_part c24_len default a1 v2 0 3 (by omega) (by decide) (by omega) rfl), (C214 a0.2.1 (a1.getD (Int.toNat v2) default)), (C213 (F214 a0.2.1 (a1.getD (Int.toNat v2) default)) (F214 a0.2.1 (a1.getD (Int.toNat v2) default))), h2, rfl, (show 0 ≤ (2 : Int) ∧ (2 : Int) < ((3 : Nat) : Int) from by decide), (show 0 ≤ (v2 : Int) ∧ (v2 : Int) < ((a1.length : Nat) : Int) from by first | omega | (rw [W_eq] <;> omega) | exact u64_nn _), (ld_part c24_len default a1 v2 0 3 (by omega) (by decide) (by omega) rfl), (C214 a0.2.2 (a1.getD (Int.toNat v2) default)), (C213 (F214 a0.2.2 (a1.getD (Int.toNat v2) default)) (F214 a0.2.2 (a1.getD (Int.toNat v2) default))), h3, rfl, trivial⟩ ?_
            have z0 : (W (v2 + 1)) = (v2 + 1) := W_eq (by omega) (by omega)
            rw [z0]
            exact ih (F213 (F214 a0.1 (a1.getD (Int.toNat v2) default)) (F214 a0.1 (a1.getD (Int.toNat v2) default))) (v2 + 1) (by (try simp only [List.length_append, List.length_cons, List.length_nil, Int.toNat_zero]); omega) (by (try simp only [List.length_append, List.length_cons, List.length_nil, Int.toNat_zero]); omega)
      | false =>
        cases h2 : (decide (((F213 (F214 a0.2.1 (a1.getD (Int.toNat v2) default)) (F214 a0.2.1 (a1.getD (Int.toNat v2) default))) : Int) > v1)) with
        | true =>
          cases h3 : (decide (((F213 (F214 a0.2.2 (a1.getD (Int.toNat v2) default)) (F214 a0.2.2 (a1.getD (Int.toNat v2) default))) : Int) > (F213 (F214 a0.2.1 (a1.getD (Int.toNat v2) default)) (F214 a0.2.1 (a1.getD (Int.toNat v2) default))))) with
          | true =>
            have q0 := of_decide_eq_true h0
            have q1 := of_decide_eq_false h1
            have q2 := of_decide_eq_true h2
            have q3 := of_decide_eq_true h3
            have e : S203_L_0 a0 a1 (v1, v2) = (.inl ((F213 (F214 a0.2.2 (a1.getD (Int.toNat v2) default)) (F214 a0.2.2 (a1.getD (Int.toNat v2) default))), (v2 + 1))) := by simp only [S203_L_0, h0, h1, h2, h3, cond_true, cond_false]
            rw [loopF_inl e]
            refine back_of (T := T0) hT hm (f := 5000) (orc := [.d true, .un 200, .d true, .ld (k3 (a1.getD (Int.toNat v2) default)), .call [] (.a (k3 (F214 a0.1 (a1.getD (Int.toNat v2) default)))) [], .call [] (iv (F213 (F214 a0.1 (a1.getD (Int.toNat v2) default)) (F214 a0.1 (a1.getD (Int.toNat v2) default)))) [], .d false, .un 0, .d true, .ld (k3 (a1.getD (Int.toNat v2) default)), .call [] (.a (k3 (F214 a0.2.1 (a1.getD (Int.toNat v2) default)))) [], .call [] (iv (F213 (F214 a0.2.1 (a1.getD (Int.toNat v2) default)) (F214 a0.2.1 (a1.getD (Int.toNat v2) default)))) [], .d true, .un 0, .d true, .ld (k3 (a1.getD (Int.toNat v2) default)), .call [] (.a (k3 (F214 a0.2.2 (a1.getD (Int.toNat v2) default)))) [], .call [] (iv (F213 (F214 a0.2.2 (a1.getD (Int.toNat v2) default)) (F214 a0.2.2 (a1.getD (Int.toNat v2) default)))) [], .d true, .un 0, .d false]) [] [1, 2, 5, 6] [1] hcx (body := B203_L_0) (m := n) (k' := K203_L_0) (s' := ⟨[.u, (.s 0 0 a1.length 3), (.p 1 0), .u, .u, (iv (F213 (F214 a0.2.2 (a1.getD (Int.toNat v2) default)) (F214 a0.2.2 (a1.getD (Int.toNat v2) default)))), (iv (W (v2 + 1))), .u, .u, .u, .u, .u, .u, .u, .u, .u, .u, .u, .u, .u, .u, .u, .u, .u, .u, .u, .u, .u, .u, .u, .u, .u, .u, .u, .u, .u, .u, .u, .u, .u, .u, .u, .u, .u], [(.live false true (flat c24 a1)), (.live true false (k9 a0))]⟩)
              (obs := [.eq (decide ((v2 : Int) < ((a1.length : Nat) : Int))) true, .eq true true, .pr (0 ≤ (0 : Int) ∧ (0 : Int) < ((3 : Nat) : Int)), .pr (0 ≤ (v2 : Int) ∧ (v2 : Int) < ((a1.length : Nat) : Int)), .pr (((((flat c24 a1)).drop (0 + Int.toNat v2 * 3)).take 3) = (k3 (a1.getD (Int.toNat v2) default))), .call 214 [(.a (k3 a0.1)), (.a (k3 (a1.getD (Int.toNat v2) default)))] [] (.a (k3 (F214 a0.1 (a1.getD (Int.toNat v2) default)))) [], .call 213 [(.a (k3 (F214 a0.1 (a1.getD (Int.toNat v2) default)))), (.a (k3 (F214 a0.1 (a1.getD (Int.toNat v2) default))))] [] (iv (F213 (F214 a0.1 (a1.getD (Int.toNat v2) default)) (F214 a0.1 (a1.getD (Int.toNat v2) default)))) [], .eq (decide (((F213 (F214 a0.1 (a1.getD (Int.toNat v2) default)) (F214 a0.1 (a1.getD (Int.toNat v2) default))) : Int) > v1)) false, .eq true true, .pr (0 ≤ (1 : Int) ∧ (1 : Int) < ((3 : Nat) : Int)), .pr (0 ≤ (v2 : Int) ∧ (v2 : Int) < ((a1.length : Nat) : Int)), .pr (((((flat c24 a1)).drop (0 + Int.toNat v2 * 3)).take 3) = (k3 (a1.getD (Int.toNat v2) default))), .call 214 [(.a (k3 a0.2.1)), (.a (k3 (a1.getD (Int.toNat v2) default)))] [] (.a (k3 (F214 a0.2.1 (a1.getD (Int.toNat v2) default)))) [], .call 213 [(.a (k3 (F214 a0.2.1 (a1.getD (Int.toNat v2) default)))), (.a (k3 (F214 a0.2.1 (a1.getD (Int.toNat v2) default))))] [] (iv (F213 (F214 a0.2.1 (a1.getD (Int.toNat v2) default)) (F214 a0.2.1 (a1.getD (Int.toNat v2) default)))) [], .eq (decide (((F213 (F214 a0.2.1 (a1.getD (Int.toNat v2) default)) (F214 a0.2.1 (a1.getD (Int.toNat v2) default))) : Int) > v1)) true, .eq true true, .pr (0 ≤ (2 : Int) ∧ (2 : Int) < ((3 : Nat) : Int)), .pr (0 ≤ (v2 : Int) ∧ (v2 : Int) < ((a1.length : Nat) : Int)), .pr (((((flat c24 a1)).drop (0 + Int.toNat v2 * 3)).take 3) = (k3 (a1.getD (Int.toNat v2) default))), .call 214 [(.a (k3 a0.2.2)), (.a (k3 (a1.getD (Int.toNat v2) default)))] [] (.a (k3 (F214 a0.2.2 (a1.getD (Int.toNat v2) default)))) [], .call 213 [(.a (k3 (F214 a0.2.2 (a1.getD (Int.toNat v2) default)))), (.a (k3 (F214 a0.2.2 (a1.getD (Int.toNat v2) default))))] [] (iv (F213 (F214 a0.2.2 (a1.getD (Int.toNat v2) default)) (F214 a0.2.2 (a1.getD (Int.toNat v2) default)))) [], .eq (decide (((F213 (F214 a0.2.2 (a1.getD (Int.toNat v2) default)) (F214 a0.2.2 (a1.getD (Int.toNat v2) default))) : Int) > (F213 (F214 a0.2.1 (a1.getD (Int.toNat v2) default)) (F214 a0.2.1 (a1.getD (Int.toNat v2) default))))) true, .eq false false]) (by kernel_rfl) ⟨h0, rfl, (show 0 ≤ (0 : Int) ∧ (0 : Int) < ((3 : Nat) : Int) from by decide), (show 0 ≤ (v2 : Int) ∧ (v2 : Int) < ((a1.length : Nat) : Int) from by first | omega | (rw [W_eq] <;> omega) | exact u64_nn _), (ld_part c24_len default a1 v2 0 3 (by omega) (by decide) (by omega) rfl), (C214 a0.1 (a1.getD (Int.toNat v2) default)), (C213 (F214 a0.1 (a1.getD (Int.toNat v2) default)) (F214 a0.1 (a1.getD (Int.toNat v2) default))), h1, rfl, (show 0 ≤ (1 : Int) ∧ (1 : Int) < ((3 : Nat) : Int) from by decide), (show 0 ≤ (v2 : Int) ∧ (v2 : Int) < ((a1.length : Nat) : Int) from by first | omega | (rw [W_eq] <;> omega) | exact u64_nn _), (ld_part c24_len default a1 v2 0 3 (by omega) (by decide) (by omega) rfl), (C214 a0.2.1 (a1.getD (Int.toNat v2) default)), (C213 (F214 a0.2.1 (a1.getD (Int.toNat v2) default)) (F214 a0.2.1 (a1.getD (Int.toNat v2) default))), h2, rfl, (show 0 ≤ (2 : Int) ∧ (2 : Int) < ((3 : Nat) : Int) from by decide), (show 0 ≤ (v2 : Int) ∧ (v2 : Int) < ((a1.length : Nat) : Int) from by first | omega | (rw [W_eq] <;> omega) | exact u64_nn _), (ld_part c24_len default a1 v2 0 3 (by omega) (by decide) (by omega) rfl), (C214 a0.2.2 (a1.getD (Int.toNat v2) default)), (C213 (F214 a0.2.2 (a1.getD (Int.toNat v2) default)) (F214 a0.2.2 (a1.getD (Int.toNat v2) default))), h3, rfl, trivial⟩ ?_
            have z0 : (W (v2 + 1)) = (v2 + 1) := W_eq (by omega) (by omega)
            rw [z0]
            exact ih (F213 (F214 a0.2.2 (a1.getD (Int.toNat v2) default)) (F214 a0.2.2 (a1.getD (Int.toNat v2) default))) (v2 + 1) (by (try simp only [List.length_append, List.length_cons, List.length_nil, Int.toNat_zero]); omega) (by (try simp only [List.length_append, List.length_cons, List.length_nil, Int.toNat_zero]); omega)
          | false =>
            have q0 := of_decide_eq_true h0
            have q1 := of_decide_eq_false h1
            have q2 := of_decide_eq_true h2
            have q3 := of_decide_eq_false h3
            have e : S203_L_0 a0 a1 (v1, v2) = (.inl ((F213 (F214 a0.2.1 (a1.getD (Int.toNat v2) default)) (F214 a0.2.1 (a1.getD (Int.toNat v2) default))), (v2 + 1))) := by simp only [S203_L_0, h0, h1, h2, h3, cond_true, cond_false]
            rw [loopF_inl e]
            refine back_of (T := T0) hT hm (f := 5000) (orc := [.d true, .un 200, .d true, .ld (k3 (a1.getD (Int.toNat v2) default)), .call [] (.a (k3 (F214 a0.1 (a1.getD (Int.toNat v2) default)))) [], .call [] (iv (F213 (F214 a0.1 (a1.getD (Int.toNat v2) default)) (F214 a0.1 (a1.getD (Int.toNat v2) default)))) [], .d false, .un 0, .d true, .ld (k3 (a1.getD (Int.toNat v2) default)), .call [] (.a (k3 (F214 a0.2.1 (a1.getD (Int.toNat v2) default)))) [], .call [] (iv (F213 (F214 a0.2.1 (a1.getD (Int.toNat v2) default)) (F214 a0.2.1 (a1.getD (Int.toNat v2) default)))) [], .d true, .un 0, .d true, .ld (k3 (a1.getD (Int.toNat v2) default)), .call [] (.a (k3 (F214 a0.2.2 (a1.getD (Int.toNat v2) default)))) [], .call [] (iv (F213 (F214 a0.2.2 (a1.getD (Int.toNat v2) default)) (F214 a0.2.2 (a1.getD (Int.toNat v2) default)))) [], .d false, .un 0, .d false]) [] [1, 2, 5, 6] [1] hcx (body := B203_L_0) (m := n) (k' := K203_L_0) (s' := ⟨[.u, (.s 0 0 a1.length 3), (.p 1 0), .u, .u, (iv (F213 (F214 a0.2.1 (a1.getD (Int.toNat v2) default)) (F214 a0.2.1 (a1.getD (Int.toNat v2) default)))), (iv (W (v2 + 1))), .u, .u, .u, .u, .u, .u, .u, .u, .u, .u, .u, .u, .u, .u, .u, .u, .u, .u, .u, .u, .u, .u, .u, .u, .u, .u, .u, .u, .u, .u, .u, .u, .u, .u, .u, .u, .u], [(.live false true (flat c24 a1)), (.live true false (k9 a0))]⟩)
              (obs := [.eq (decide ((v2 : Int) < ((a1.length : Nat) : Int))) true, .eq true true, .pr (0 ≤ (0 : Int) ∧ (0 : Int) < ((3 : Nat) : Int)), .pr (0 ≤ (v2 : Int) ∧ (v2 : Int) < ((a1.length : Nat) : Int)), .pr (((((flat c24 a1)).drop (0 + Int.toNat v2 * 3)).take 3) = (k3 (a1.getD (Int.toNat v2) default))), .call 214 [(.a (k3 a0.1)), (.a (k3 (a1.getD (Int.toNat v2) default)))] [] (.a (k3 (F214 a0.1 (a1.getD (Int.toNat v2) default)))) [], .call 213 [(.a (k3 (F214 a0.1 (a1.getD (Int.toNat v2) default)))), (.a (k3 (F214 a0.1 (a1.getD (Int.toNat v2) default))))] [] (iv (F213 (F214 a0.1 (a1.getD (Int.toNat v2) default)) (F214 a0.1 (a1.getD (Int.toNat v2) default)))) [], .eq (decide (((F213 (F214 a0.1 (a1.getD (Int.toNat v2) default)) (F214 a0.1 (a1.getD (Int.toNat v2) default))) : Int) > v1)) false, .eq true true, .pr (0 ≤ (1 : Int) ∧ (1 : Int) < ((3 : Nat) : Int)), .pr (0 ≤ (v2 : Int) ∧ (v2 : Int) < ((a1.length : Nat) : Int)), .pr (((((flat c24 a1)).drop (0 + Int.toNat v2 * 3)).take 3) = (k3 (a1.getD (Int.toNat v2) default))), .call 214 [(.a (k3 a0.2.1)), (.a (k3 (a1.getD (Int.toNat v2) default)))] [] (.a (k3 (F214 a0.2.1 (a1.getD (Int.toNat v2) default)))) [], .call 213 [(.a (k3 (F214 a0.2.1 (a1.getD (Int.toNat v2) default)))), (.a (k3 (F214 a0.2.1 (a1.getD (Int.toNat v2) default))))] [] (iv (F213 (F214 a0.2.1 (a1.getD (Int.toNat v2) default)) (F214 a0.2.1 (a1.getD (Int.toNat v2) default)))) [], .eq (decide (((F213 (F214 a0.2.1 (a1.getD (Int.toNat v2) default)) (F214 a0.2.1 (a1.getD (Int.toNat v2) default))) : Int) > v1)) true, .eq true true, .pr (0 ≤ (2 : Int) ∧ (2 : Int) < ((3 : Nat) : Int)), .pr (0 ≤ (v2 : Int) ∧ (v2 : Int) < ((a1.length : Nat) : Int)), .pr (((((flat c24 a1)).drop (0 + Int.toNat v2 * 3)).take 3) = (k3 (a1.getD (Int.toNat v2) default))), .call 214 [(.a (k3 a0.2.2)), (.a (k3 (a1.getD (Int.toNat v2) default)))] [] (.a (k3 (F214 a0.2.2 (a1.getD (Int.toNat v2) default)))) [], .call 213 [(.a (k3 (F214 a0.2.2 (a1.getD (Int.toNat v2) default)))), (.a (k3 (F214 a0.2.2 (a1.getD (Int.toNat v2) default))))] [] (iv (F213 (F214 a0.2.2 (a1.getD (Int.toNat v2) default)) (F214 a0.2.2 (a1.getD (Int.toNat v2) default)))) [], .eq (decide (((F213 (F214 a0.2.2 (a1.getD (Int.toNat v2) default)) (F214 a0.2.2 (a1.getD (Int.toNat v2) default))) : Int) > (F213 (F214 a0.2.1 (a1.getD (Int.toNat v2) default)) (F214 a0.2.1 (a1.getD (Int.toNat v2) default))))) false, .eq false false]) (by kernel_rfl) ⟨h0, rfl, (show 0 ≤ (0 : Int) ∧ (0 : Int) < ((3 : Nat) : Int) from by decide), (show 0 ≤ (v2 : Int) ∧ (v2 : Int) < ((a1.length : Nat) : Int) from by first | omega | (rw [W_eq] <;> omega) | exact u64_nn _), (ld_part c24_len default a1 v2 0 3 (by omega) (by decide) (by omega) rfl), (C214 a0.1 (a1.getD (Int.toNat v2) default)), (C213 (F214 a0.1 (a1.getD (Int.toNat v2) default)) (F214 a0.1 (a1.getD (Int.toNat v2) default))), h1, rfl, (show 0 ≤ (1 : Int) ∧ (1 : Int) < ((3 : Nat) : Int) from by decide), (show 0 ≤ (v2 : Int) ∧ (v2 : Int) < ((a1.length : Nat) : Int) from by first | omega | (rw [W_eq] <;> omega) | exact u64_nn _), (ld_part c24_len default a1 v2 0 3 (by omega) (by decide) (by omega) rfl), (C214 a0.2.1 (a1.getD (Int.toNat v2) default)), (C213 (F214 a0.2.1 (a1.getD (Int.toNat v2) default)) (F214 a0.2.1 (a1.getD (Int.toNat v2) default))), h2, rfl, (show 0 ≤ (2 : Int) ∧ (2 : Int) < ((3 : Nat) : Int) from by decide), (show 0 ≤ (v2 : Int) ∧ (v2 : Int) < ((a1.length : Nat) : Int) from by first | omega | (rw [W_eq] <;> omega) | exact u64_nn _), (ld_part c24_len default a1 v2 0 3 (by omega) (by decide) (by omega) rfl), (C214 a0.2.2 (a1.getD (Int.toNat v2) default)), (C213 (F214 a0.2.2 (a1.getD (Int.toNat v2) default)) (F214 a0.2.2 (a1.getD (Int.toNat v2) default))), h3, rfl, trivial⟩ ?_
            have z0 : (W (v2 + 1)) = (v2 + 1) := W_eq (by omega) (by omega)
            rw [z0]
            exact ih (F213 (F214 a0.2.1 (a1.getD (Int.toNat v2) default)) (F214 a0.2.1 (a1.getD (Int.toNat v2) default))) (v2 + 1) (by (try simp only [List.length_append, List.length_cons, List.length_nil, Int.toNat_zero]); omega) (by (try simp only [List.length_append, List.length_cons, List.length_nil, Int.toNat_zero]); omega)
        | false =>
          cases h3 : (decide (((F213 (F214 a0.2.2 (a1.getD (Int.toNat v2) default)) (F214 a0.2.2 (a1.getD (Int.toNat v2) default))) : Int) > v1)) with
          | true =>
            have q0 := of_decide_eq_true h0
            have q1 := of_decide_eq_false h1
            have q2 := of_decide_eq_false h2
            have q3 := of_decide_eq_true h3
            have e : S203_L_0 a0 a1 (v1, v2) = (.inl ((F213 (F214 a0.2.2 (a1.getD (Int.toNat v2) default)) (F214 a0.2.2 (a1.getD (Int.toNat v2) default))), (v2 + 1))) := by simp only [S203_L_0, h0, h1, h2, h3, cond_true, cond_false]
            rw [loopF_inl e]
            refine back_of (T := T0) hT hm (f := 5000) (orc := [.d true, .un 200, .d true, .ld (k3 (a1.getD (Int.toNat v2) default)), .call [] (.a (k3 (F214 a0.1 (a1.getD (Int.toNat v2) default)))) [], .call [] (iv (F213 (F214 a0.1 (a1.getD (Int.toNat v2) default)) (F214 a0.1 (a1.getD (Int.toNat v2) default)))) [], .d false, .un 0, .d true, .ld (k3 (a1.getD (Int.toNat v2) default)), .call [] (.a (k3 (F214 a0.2.1 (a1.getD (Int.toNat v2) default)))) [], .call [] (iv (F213 (F214 a0.2.1 (a1.getD (Int.toNat v2) default)) (F214 a0.2.1 (a1.getD (Int.toNat v2) default)))) [], .d false, .un 0, .d true, .ld (k3 (a1.getD (Int.toNat v2) default)), .call [] (.a (k3 (F214 a0.2.2 (a1.getD (Int.toNat v2) default)))) [], .call [] (iv (F213 (F214 a0.2.2 (a1.getD (Int.toNat v2) default)) (F214 a0.2.2 (a1.getD (Int.toNat v2) default)))) [], .d true, .un 0, .d false]) [] [1, 2, 5, 6] [1] hcx (body := B203_L_0) (m := n) (k' := K203_L_0) (s' := ⟨[.u, (.s 0 0 a1.length 3), (.p 1 0), .u, .u, (iv (F213 (F214 a0.2.2 (a1.getD (Int.toNat v2) default)) (F214 a0.2.2 (a1.getD (Int.toNat v2) default)))), (iv (W (v2 + 1))), .u, .u, .u, .u, .u, .u, .u, .u, .u, .u, .u, .u, .u, .u, .u, .u, .u, .u, .u, .u, .u, .u, .u, .u, .u, .u, .u, .u, .u, .u, .u, .u, .u, .u, .u, .u, .u], [(.live false true (flat c24 a1)), (.live true false (k9 a0))]⟩)
              (obs := [.eq (decide ((v2 : Int) < ((a1.length : Nat) : Int))) true, .eq true true, .pr (0 ≤ (0 : Int) ∧ (0 : Int) < ((3 : Nat) : Int)), .pr (0 ≤ (v2 : Int) ∧ (v2 : Int) < ((a1.length : Nat) : Int)), .pr (((((flat c24 a1)).drop (0 + Int.toNat v2 * 3)).take 3) = (k3 (a1.getD (Int.toNat v2) default))), .call 214 [(.a (k3 a0.1)), (.a (k3 (a1.getD (Int.toNat v2) default)))] [] (.a (k3 (F214 a0.1 (a1.getD (Int.toNat v2) default)))) [], .call 213 [(.a (k3 (F214 a0.1 (a1.getD (Int.toNat v2) default)))), (.a (k3 (F214 a0.1 (a1.getD (Int.toNat v2) default))))] [] (iv (F213 (F214 a0.1 (a1.getD (Int.toNat v2) default)) (F214 a0.1 (a1.getD (Int.toNat v2) default)))) [], .eq (decide (((F213 (F214 a0.1 (a1.getD (Int.toNat v2) default)) (F214 a0.1 (a1.getD (Int.toNat v2) default))) : Int) > v1)) false, .eq true true, .pr (0 ≤ (1 : Int) ∧ (1 : Int) < ((3 : Nat) : Int)), .pr (0 ≤ (v2 : Int) ∧ (v2 : Int) < ((a1.length : Nat) : Int)), .pr (((((flat c24 a1)).drop (0 + Int.toNat v2 * 3)).take 3) = (k3 (a1.getD (Int.toNat v2) default))), .call 214 [(.a (k3 a0.2.1)), (.a (k3 (a1.getD (Int.toNat v2) default)))] [] (.a (k3 (F214 a0.2.1 (a1.getD (Int.toNat v2) default)))) [], .call 213 [(.a (k3 (F214 a0.2.1 (a1.getD (Int.toNat v2) default)))), (.a (k3 (F214 a0.2.1 (a1.getD (Int.toNat v2) default))))] [] (iv (F213 (F214 a0.2.1 (a1.getD (Int.toNat v2) default)) (F214 a0.2.1 (a1.getD (Int.toNat v2) default)))) [], .eq (decide (((F213 (F214 a0.2.1 (a1.getD (Int.toNat v2) default)) (F214 a0.2.1 (a1.getD (Int.toNat v2) default))) : Int) > v1)) false, .eq true true, .pr (0 ≤ (2 : Int) ∧ (2 : Int) < ((3 : Nat) : Int)), .pr (0 ≤ (v2 : Int) ∧ (v2 : Int) < ((a1.length : Nat) : Int)), .pr (((((flat c24 a1)).drop (0 + Int.toNat v2 * 3)).take 3) = (k3 (a1.getD (Int.toNat v2) default))), .call 214 [(.a (k3 a0.2.2)), (.a (k3 (a1.getD (Int.toNat v2) default)))] [] (.a (k3 (F214 a0.2.2 (a1.getD (Int.toNat v2) default)))) [], .call 213 [(.a (k3 (F214 a0.2.2 (a1.getD (Int.toNat v2) default)))), (.a (k3 (F214 a0.2.2 (a1.getD (Int.toNat v2) default))))] [] (iv (F213 (F214 a0.2.2 (a1.getD (Int.toNat v2) default)) (F214 a0.2.2 (a1.getD (Int.toNat v2) default)))) [], .eq (decide (((F213 (F214 a0.2.2 (a1.getD (Int.toNat v2) default)) (F214 a0.2.2 (a1.getD (Int.toNat v2) default))) : Int) > v1)) true, .eq false false]) (by kernel_rfl) ⟨h0, rfl, (show 0 ≤ (0 : Int) ∧ (0 : Int) < ((3 : Nat) : Int) from by decide), (show 0 ≤ (v2 : Int) ∧ (v2 : Int) < ((a1.length : Nat) : Int) from by first | omega | (rw [W_eq] <;> omega) | exact u64_nn _), (ld_part c24_len default a1 v2 0 3 (by omega) (by decide) (by omega) rfl), (C214 a0.1 (a1.getD (Int.toNat v2) default)), (C213 (F214 a0.1 (a1.getD (Int.toNat v2) default)) (F214 a0.1 (a1.getD (Int.toNat v2) default))), h1, rfl, (show 0 ≤ (1 : Int) ∧ (1 : Int) < ((3 : Nat) : Int) from by decide), (show 0 ≤ (v2 : Int) ∧ (v2 : Int) < ((a1.length : Nat) : Int) from by first | omega | (rw [W_eq] <;> omega) | exact u64_nn _), (ld_part c24_len default a1 v2 0 3 (by omega) (by decide) (by omega) rfl), (C214 a0.2.1 (a1.getD (Int.toNat v2) default)), (C213 (F214 a0.2.1 (a1.getD (Int.toNat v2) default)) (F214 a0.2.1 (a1.getD (Int.toNat v2) default))), h2, rfl, (show 0 ≤ (2 : Int) ∧ (2 : Int) < ((3 : Nat) : Int) from by decide), (show 0 ≤ (v2 : Int) ∧ (v2 : Int) < ((a1.length : Nat) : Int) from by first | omega | (rw [W_eq] <;> omega) | exact u64_nn _), (ld_part c24_len default a1 v2 0 3 (by omega) (by decide) (by omega) rfl), (C214 a0.2.2 (a1.getD (Int.toNat v2) default)), (C213 (F214 a0.2.2 (a1.getD (Int.toNat v2) default)) (F214 a0.2.2 (a1.getD (Int.toNat v2) default))), h3, rfl, trivial⟩ ?_
            have z0 : (W (v2 + 1)) = (v2 + 1) := W_eq (by omega) (by omega)
            rw [z0]
            exact ih (F213 (F214 a0.2.2 (a1.getD (Int.toNat v2) default)) (F214 a0.2.2 (a1.getD (Int.toNat v2) default))) (v2 + 1) (by (try simp only [List.length_append, List.length_cons, List.length_nil, Int.toNat_zero]); omega) (by (try simp only [List.length_append, List.length_cons, List.length_nil, Int.toNat_zero]); omega)
          | false =>
            have q0 := of_decide_eq_true h0
            have q1 := of_decide_eq_false h1
            have q2 := of_decide_eq_false h2
            have q3 := of_decide_eq_false h3
            have e : S203_L_0 a0 a1 (v1, v2) = (.inl (v1, (v2 + 1))) := by simp only [S203_L_0, h0, h1, h2, h3, cond_true, cond_false]
            rw [loopF_inl e]
            refine back_of (T := T0) hT hm (f := 5000) (orc := [.d true, .un 200, .d true, .ld (k3 (a1.getD (Int.toNat v2) default)), .call [] (.a (k3 (F214 a0.1 (a1.getD (Int.toNat v2) default)))) [], .call [] (iv (F213 (F214 a0.1 (a1.getD (Int.toNat v2) default)) (F214 a0.1 (a1.getD (Int.toNat v2) default)))) [], .d false, .un 0, .d true, .ld (k3 (a1.getD (Int.toNat v2) default)), .call [] (.a (k3 (F214 a0.2.1 (a1.getD (Int.toNat v2) default)))) [], .call [] (iv (F213 (F214 a0.2.1 (a1.getD (Int.toNat v2) default)) (F214 a0.2.1 (a1.getD (Int.toNat v2) default)))) [], .d false, .un 0, .d true, .ld (k3 (a1.getD (Int.toNat v2) default)), .call [] (.a (k3 (F214 a0.2.2 (a1.getD (Int.toNat v2) default)))) [], .call [] (iv (F213 (F214 a0.2.2 (a1.getD (Int.toNat v2) default)) (F214 a0.2.2 (a1.getD (Int.toNat v2) default)))) [], .d false, .un 0, .d false]) [] [1, 2, 5, 6] [1] hcx (body := B203_L_0) (m := n) (k' := K203_L_0) (s' := ⟨[.u, (.s 0 0 a1.length 3), (.p 1 0), .u, .u, (iv v1), (iv (W (v2 + 1))), .u, .u, .u, .u, .u, .u, .u, .u, .u, .u, .u, .u, .u, .u, .u, .u, .u, .u, .u, .u, .u, .u, .u, .u, .u, .u, .u, .u, .u, .u, .u, .u, .u, .u, .u, .u, .u], [(.live false true (flat c24 a1)), (.live true false (k9 a0))]⟩)
              (obs := [.eq (decide ((v2 : Int) < ((a1.length : Nat) : Int))) true, .eq true true, .pr (0 ≤ (0 : Int) ∧ (0 : Int) < ((3 : Nat) : Int)), .pr (0 ≤ (v2 : Int) ∧ (v2 : Int) < ((a1.length : Nat) : Int)), .pr (((((flat c24 a1)).drop (0 + Int.toNat v2 * 3)).take 3) = (k3 (a1.getD (Int.toNat v2) default))), .call 214 [(.a (k3 a0.1)), (.a (k3 (a1.getD (Int.toNat v2) default)))] [] (.a (k3 (F214 a0.1 (a1.getD (Int.toNat v2) default)))) [], .call 213 [(.a (k3 (F214 a0.1 (a1.getD (Int.toNat v2) default)))), (.a (k3 (F214 a0.1 (a1.getD (Int.toNat v2) default))))] [] (iv (F213 (F214 a0.1 (a1.getD (Int.toNat v2) default)) (F214 a0.1 (a1.getD (Int.toNat v2) default)))) [], .eq (decide (((F213 (F214 a0.1 (a1.getD (Int.toNat v2) default)) (F214 a0.1 (a1.getD (Int.toNat v2) default))) : Int) > v1)) false, .eq true true, .pr (0 ≤ (1 : Int) ∧ (1 : Int) < ((3 : Nat) : Int)), .pr (0 ≤ (v2 : Int) ∧ (v2 : Int) < ((a1.length : Nat) : Int)), .pr (((((flat c24 a1)).drop (0 + Int.toNat v2 * 3)).take 3) = (k3 (a1.getD (Int.toNat v2) default))), .call 214 [(.a (k3 a0.2.1)), (.a (k3 (a1.getD (Int.toNat v2) default)))] [] (.a (k3 (F214 a0.2.1 (a1.getD (Int.toNat v2) default)))) [], .call 213 [(.a (k3 (F214 a0.2.1 (a1.getD (Int.toNat v2) default)))), (.a (k3 (F214 a0.2.1 (a1.getD (Int.toNat v2) default))))] [] (iv (F213 (F214 a0.2.1 (a1.getD (Int.toNat v2) default)) (F214 a0.2.1 (a1.getD (Int.toNat v2) default)))) [], .eq (decide (((F213 (F214 a0.2.1 (a1.getD (Int.toNat v2) default)) (F214 a0.2.1 (a1.getD (Int.toNat v2) default))) : Int) > v1)) false, .eq true true, .pr (0 ≤ (2 : Int) ∧ (2 : Int) < ((3 : Nat) : Int)), .pr (0 ≤ (v2 : Int) ∧ (v2 : Int) < ((a1.length : Nat) : Int)), .pr (((((flat c24 a1)).drop (0 + Int.toNat v2 * 3)).take 3) = (k3 (a1.getD (Int.toNat v2) default))), .call 214 [(.a (k3 a0.2.2)), (.a (k3 (a1.getD (Int.toNat v2) default)))] [] (.a (k3 (F214 a0.2.2 (a1.getD (Int.toNat v2) default)))) [], .call 213 [(.a (k3 (F214 a0.2.2 (a1.getD (Int.toNat v2) default)))), (.a (k3 (F214 a0.2.2 (a1.getD (Int.toNat v2) default))))] [] (iv (F213 (F214 a0.2.2 (a1.getD (Int.toNat v2) default)) (F214 a0.2.2 (a1.getD (Int.toNat v2) default)))) [], .eq (decide (((F213 (F214 a0.2.2 (a1.getD (Int.toNat v2) default)) (F214 a0.2.2 (a1.getD (Int.toNat v2) default))) : Int) > v1)) false, .eq false false]) (by kernel_rfl) ⟨h0, rfl, (show 0 ≤ (0 : Int) ∧ (0 : Int) < ((3 : Nat) : Int) from by decide), (show 0 ≤ (v2 : Int) ∧ (v2 : Int) < ((a1.length : Nat) : Int) from by first | omega | (rw [W_eq] <;> omega) | exact u64_nn _), (ld_part c24_len default a1 v2 0 3 (by omega) (by decide) (by omega) rfl), (C214 a0.1 (a1.getD (Int.toNat v2) default)), (C213 (F214 a0.1 (a1.getD (Int.toNat v2) default)) (F214 a0.1 (a1.getD (Int.toNat v2) default))), h1, rfl, (show 0 ≤ (1 : Int) ∧ (1 : Int) < ((3 : Nat) : Int) from by decide), (show 0 ≤ (v2 : Int) ∧ (v2 : Int) < ((a1.length : Nat) : Int) from by first | omega | (rw [W_eq] <;> omega) | exact u64_nn _), (ld_part c24_len default a1 v2 0 3 (by omega) (by decide) (by omega) rfl), (C214 a0.2.1 (a1.getD (Int.toNat v2) default)), (C213 (F214 a0.2.1 (a1.getD (Int.toNat v2) default)) (F214 a0.2.1 (a1.getD (Int.toNat v2) default))), h2, rfl, (show 0 ≤ (2 : Int) ∧ (2 : Int) < ((3 : Nat) : Int) from by decide), (show 0 ≤ (v2 : Int) ∧ (v2 : Int) < ((a1.length : Nat) : Int) from by first | omega | (rw [W_eq] <;> omega) | exact u64_nn _), (ld_part c24_len default a1 v2 0 3 (by omega) (by decide) (by omega) rfl), (C214 a0.2.2 (a1.getD (Int.toNat v2) default)), (C213 (F214 a0.2.2 (a1.getD (Int.toNat v2) default)) (F214 a0.2.2 (a1.getD (Int.toNat v2) default))), h3, rfl, trivial⟩ ?_
            have z0 : (W (v2 + 1)) = (v2 + 1) := W_eq (by omega) (by omega)
            rw [z0]
            exact ih v1 (v2 + 1) (by (try simp only [List.length_append, List.length_cons, List.length_nil, Int.toNat_zero]); omega) (by (try simp only [List.length_append, List.length_cons, List.length_nil, Int.toNat_zero]); omega)
    | false =>
      have q0 := of_decide_eq_false h0
      have e : S203_L_0 a0 a1 (v1, v2) = (.inr v1) := by simp only [S203_L_0, h0, cond_true, cond_false]
      rw [show loopF (S203_L_0 a0 a1) (n + 1) (v1, v2) = thenF (S203_L_0 a0 a1) n (S203_L_0 a0 a1 (v1, v2)) from rfl, e]
      exact ret_of (T := T0) hT hm (f := 5000) (orc := [.d false]) [] [] [] hcx
        (obs := [.eq (decide ((v2 : Int) < ((a1.length : Nat) : Int))) false]) (by kernel_rfl) ⟨h0, trivial⟩

/-- facet/facetref03.far at ('L',) -/
def F203_L (a0 : (Int × Int × Int) × (Int × Int × Int) × Int × Int × Int) (a1 : List (Int × Int × Int)) : Int :=
  (loopF (S203_L_0 a0 a1) (Int.toNat (((a1.length : Nat) : Int) - 0) + 1) (0, 0))

theorem C203_L (a0 : (Int × Int × Int) × (Int × Int × Int) × Int × Int × Int) (a1 : List (Int × Int × Int)) (l1 : a1.length ≤ 9223372036854775807) : Con Tryz.prog 203 [(.a (k9 a0)), (.s 0 0 a1.length 3)] [(.live false true (flat c24 a1))] (iv (F203_L a0 a1)) [] := by
  have e : (F203_L a0 a1) = (loopF (S203_L_0 a0 a1) (Int.toNat (((a1.length : Nat) : Int) - 0) + 1) (0, 0)) := by simp only [F203_L]
  rw [e]
  refine con_of (n := 9) Tryz.func203 rfl (ent Tryz.func203 (by kernel_rfl) rfl) (by show 2 ≤ Tryz.f203.ntmps; decide) (by kernel_rfl) ⟨rfl, trivial⟩ (fun cx hcx => ?_)
  refine enter_of (T := T0) hT hm (f := 5000) (orc := []) [] [1, 2, 5, 6] [1] hcx (body := B203_L_0) (k' := K203_L_0) (s' := ⟨[.u, (.s 0 0 a1.length 3), (.p 1 0), .u, .u, (iv 0), (iv 0), .u, .u, .u, .u, .u, .u, .u, .u, .u, .u, .u, .u, .u, .u, .u, .u, .u, .u, .u, .u, .u, .u, .u, .u, .u, .u, .u, .u, .u, .u, .u, .u, .u, .u, .u, .u, .u], [(.live false true (flat c24 a1)), (.live true false (k9 a0))]⟩)
    (obs := []) (by kernel_rfl) trivial ⟨Int.toNat (((a1.length : Nat) : Int) - 0) + 1, ?_⟩
  exact L203_L_0 a0 a1 l1 hcx (Int.toNat (((a1.length : Nat) : Int) - 0) + 1) 0 0 (by (try simp only [List.length_append, List.length_cons, List.length_nil, Int.toNat_zero]); omega) (by (try simp only [List.length_append, List.length_cons, List.length_nil, Int.toNat_zero]); omega)

noncomputable def B244_L_0 : Code := (loopAtD [1, 1, 0, 1] [] (Tryz.f244.body.getD .skip) []).1
noncomputable def K244_L_0 : List K := (loopAtD [1, 1, 0, 1] [] (Tryz.f244.body.getD .skip) []).2

/-- a round of loop 0 of facet/facetref03.bounds; the variables: v1 = s4, v2 = s5, v3 = s6 -/
def S244_L_0 (a0 : List (Int)) : Int × Int × Int → (Int × Int × Int) ⊕ (Int × Int)
  | (v1, v2, v3) =>
   (bif (decide ((v3 : Int) < ((a0.length : Nat) : Int))) then
    (.inl ((if ((a0.getD (Int.toNat v3) default) : Int) < v1 then (a0.getD (Int.toNat v3) default) else v1), (if (v2 : Int) < (a0.getD (Int.toNat v3) default) then (a0.getD (Int.toNat v3) default) else v2), (v3 + 1)))
   else
    (.inr (v1, v2)))

set_option maxHeartbeats 4000000 in
theorem L244_L_0 (a0 : List (Int)) (l0 : a0.length ≤ 9223372036854775807) (hl : 0 < a0.length) {cx : Cx} (hcx : cx.base = 1) : ∀ (n : Nat) (v1 : Int) (v2 : Int) (v3 : Int), 0 ≤ v3 → Int.toNat (((a0.length : Nat) : Int) - v3) < n → Aw.Good Tryz.prog none 9 (bodyPost Tryz.prog Tryz.f244 (RR cx (.t (k2 (loopF (S244_L_0 a0) n (v1, v2, v3)))) [] [])) cx [] (.l B244_L_0 n :: K244_L_0) ⟨[(.s 0 0 a0.length 1), .u, .u, .u, (iv v1), (iv v2), (iv v3), .u, .u, .u, .u, .u, .u, .u, .u, .u, .u, .u, .u, .u, .u, .u, .u, .u, .u, .u, .u, .u, .u, .u, .u, .u, .u], [(.live false true (flat c3 a0))]⟩ := by
  intro n
  induction n with
  | zero => intro v1 v2 v3 hi hn; exact absurd hn (Nat.not_lt_zero _)
  | succ n ih =>
    intro v1 v2 v3 hi hn
    refine good_round ?_
    cases h0 : (decide ((v3 : Int) < ((a0.length : Nat) : Int))) with
    | true =>
      have q0 := of_decide_eq_true h0
      have e : S244_L_0 a0 (v1, v2, v3) = (.inl ((if ((a0.getD (Int.toNat v3) default) : Int) < v1 then (a0.getD (Int.toNat v3) default) else v1), (if (v2 : Int) < (a0.getD (Int.toNat v3) default) then (a0.getD (Int.toNat v3) default) else v2), (v3 + 1))) := by simp only [S244_L_0, h0, cond_true, cond_false]
      rw [loopF_inl e]
      refine back_of (T := T0) hT hm (f := 5000) (orc := [.d true, .ld [(iv (a0.getD (Int.toNat v3) default))], .ld [(iv (a0.getD (Int.toNat v3) default))]]) [] [0, 4, 5, 6] [] hcx (body := B244_L_0) (m := n) (k' := K244_L_0) (s' := ⟨[(.s 0 0 a0.length 1), .u, .u, .u, (iv (if ((a0.getD (Int.toNat v3) default) : Int) < v1 then (a0.getD (Int.toNat v3) default) else v1)), (iv (if (v2 : Int) < (a0.getD (Int.toNat v3) default) then (a0.getD (Int.toNat v3) default) else v2)), (iv (W (v3 + 1))), .u, .u, .u, .u, .u, .u, .u, .u, .u, .u, .u, .u, .u, .u, .u, .u, .u, .u, .u, .u, .u, .u, .u, .u, .u, .u], [(.live false true (flat c3 a0))]⟩)
        (obs := [.eq (decide ((v3 : Int) < ((a0.length : Nat) : Int))) true, .pr (0 ≤ (v3 : Int) ∧ (v3 : Int) < ((a0.length : Nat) : Int)), .pr (((((flat c3 a0)).drop (0 + Int.toNat v3 * 1)).take 1) = [(iv (a0.getD (Int.toNat v3) default))]), .pr (0 ≤ (v3 : Int) ∧ (v3 : Int) < ((a0.length : Nat) : Int)), .pr (((((flat c3 a0)).drop (0 + Int.toNat v3 * 1)).take 1) = [(iv (a0.getD (Int.toNat v3) default))])]) (by kernel_rfl) ⟨h0, (show 0 ≤ (v3 : Int) ∧ (v3 : Int) < ((a0.length : Nat) : Int) from by first | omega | (rw [W_eq] <;> omega) | exact u64_nn _), (ld_part c3_len default a0 v3 0 1 (by omega) (by decide) (by omega) rfl), (show 0 ≤ (v3 : Int) ∧ (v3 : Int) < ((a0.length : Nat) : Int) from by first | omega | (rw [W_eq] <;> omega) | exact u64_nn _), (ld_part c3_len default a0 v3 0 1 (by omega) (by decide) (by omega) rfl), trivial⟩ ?_
      have z0 : (W (v3 + 1)) = (v3 + 1) := W_eq (by omega) (by omega)
      rw [z0]
      exact ih (if ((a0.getD (Int.toNat v3) default) : Int) < v1 then (a0.getD (Int.toNat v3) default) else v1) (if (v2 : Int) < (a0.getD (Int.toNat v3) default) then (a0.getD (Int.toNat v3) default) else v2) (v3 + 1) (by (try simp only [List.length_append, List.length_cons, List.length_nil, Int.toNat_zero]); omega) (by (try simp only [List.length_append, List.length_cons, List.length_nil, Int.toNat_zero]); omega)
    | false =>
      have q0 := of_decide_eq_false h0
      have e : S244_L_0 a0 (v1, v2, v3) = (.inr (v1, v2)) := by simp only [S244_L_0, h0, cond_true, cond_false]
      rw [show loopF (S244_L_0 a0) (n + 1) (v1, v2, v3) = thenF (S244_L_0 a0) n (S244_L_0 a0 (v1, v2, v3)) from rfl, e]
      exact ret_of (T := T0) hT hm (f := 5000) (orc := [.d false]) [] [] [] hcx
        (obs := [.eq (decide ((v3 : Int) < ((a0.length : Nat) : Int))) false]) (by kernel_rfl) ⟨h0, trivial⟩

/-- facet/facetref03.bounds at ('L',) -/
def F244_L (a0 : List (Int)) : Int × Int :=
  (loopF (S244_L_0 a0) (Int.toNat (((a0.length : Nat) : Int) - 0) + 1) ((a0.getD (Int.toNat 0) default), (a0.getD (Int.toNat 0) default), 0))

theorem C244_L (a0 : List (Int)) (l0 : a0.length ≤ 9223372036854775807) (hl : 0 < a0.length) : Con Tryz.prog 244 [(.s 0 0 a0.length 1)] [(.live false true (flat c3 a0))] (.t (k2 (F244_L a0))) [] := by
  have e : (F244_L a0) = (loopF (S244_L_0 a0) (Int.toNat (((a0.length : Nat) : Int) - 0) + 1) ((a0.getD (Int.toNat 0) default), (a0.getD (Int.toNat 0) default), 0)) := by simp only [F244_L]
  rw [e]
  refine con_of (n := 9) Tryz.func244 rfl (ent Tryz.func244 (by kernel_rfl) rfl) (by show 1 ≤ Tryz.f244.ntmps; decide) (by kernel_rfl) ⟨rfl, trivial⟩ (fun cx hcx => ?_)
  refine enter_of (T := T0) hT hm (f := 5000) (orc := [.ld [(iv (a0.getD (Int.toNat 0) default))], .ld [(iv (a0.getD (Int.toNat 0) default))]]) [] [0, 4, 5, 6] [] hcx (body := B244_L_0) (k' := K244_L_0) (s' := ⟨[(.s 0 0 a0.length 1), .u, .u, .u, (iv (a0.getD (Int.toNat 0) default)), (iv (a0.getD (Int.toNat 0) default)), (iv 0), .u, .u, .u, .u, .u, .u, .u, .u, .u, .u, .u, .u, .u, .u, .u, .u, .u, .u, .u, .u, .u, .u, .u, .u, .u, .u], [(.live false true (flat c3 a0))]⟩)
    (obs := [.pr (0 ≤ (0 : Int) ∧ (0 : Int) < ((a0.length : Nat) : Int)), .pr (((((flat c3 a0)).drop (0 + Int.toNat 0 * 1)).take 1) = [(iv (a0.getD (Int.toNat 0) default))]), .pr (0 ≤ (0 : Int) ∧ (0 : Int) < ((a0.length : Nat) : Int)), .pr (((((flat c3 a0)).drop (0 + Int.toNat 0 * 1)).take 1) = [(iv (a0.getD (Int.toNat 0) default))])]) (by kernel_rfl) ⟨(show 0 ≤ (0 : Int) ∧ (0 : Int) < ((a0.length : Nat) : Int) from by first | omega | (rw [W_eq] <;> omega) | exact u64_nn _), (ld_part c3_len default a0 0 0 1 (by omega) (by decide) (by omega) rfl), (show 0 ≤ (0 : Int) ∧ (0 : Int) < ((a0.length : Nat) : Int) from by first | omega | (rw [W_eq] <;> omega) | exact u64_nn _), (ld_part c3_len default a0 0 0 1 (by omega) (by decide) (by omega) rfl), trivial⟩ ⟨Int.toNat (((a0.length : Nat) : Int) - 0) + 1, ?_⟩
  exact L244_L_0 a0 l0 hl hcx (Int.toNat (((a0.length : Nat) : Int) - 0) + 1) (a0.getD (Int.toNat 0) default) (a0.getD (Int.toNat 0) default) 0 (by (try simp only [List.length_append, List.length_cons, List.length_nil, Int.toNat_zero]); omega) (by (try simp only [List.length_append, List.length_cons, List.length_nil, Int.toNat_zero]); omega)

/-- facet/facetref03.gap at ('L', 'L') -/
def F234_L_L (a0 : List (Int)) (a1 : List (Int)) : Int :=
  (W ((if ((if (0 : Int) < (W ((F244_L a0).1 - (F244_L a1).2)) then (W ((F244_L a0).1 - (F244_L a1).2)) else 0) : Int) < (W ((F244_L a1).1 - (F244_L a0).2)) then (W ((F244_L a1).1 - (F244_L a0).2)) else (if (0 : Int) < (W ((F244_L a0).1 - (F244_L a1).2)) then (W ((F244_L a0).1 - (F244_L a1).2)) else 0)) * (if ((if (0 : Int) < (W ((F244_L a0).1 - (F244_L a1).2)) then (W ((F244_L a0).1 - (F244_L a1).2)) else 0) : Int) < (W ((F244_L a1).1 - (F244_L a0).2)) then (W ((F244_L a1).1 - (F244_L a0).2)) else (if (0 : Int) < (W ((F244_L a0).1 - (F244_L a1).2)) then (W ((F244_L a0).1 - (F244_L a1).2)) else 0))))

theorem C234_L_L (a0 : List (Int)) (a1 : List (Int)) (l0 : a0.length ≤ 9223372036854775807) (l1 : a1.length ≤ 9223372036854775807) (h1 : 0 < a0.length) (h2 : 0 < a1.length) : Con Tryz.prog 234 [(.s 0 0 a0.length 1), (.s 1 0 a1.length 1)] [(.live false true (flat c3 a0)), (.live false true (flat c3 a1))] (iv (F234_L_L a0 a1)) [] := by
  have e : (F234_L_L a0 a1) = (W ((if ((if (0 : Int) < (W ((F244_L a0).1 - (F244_L a1).2)) then (W ((F244_L a0).1 - (F244_L a1).2)) else 0) : Int) < (W ((F244_L a1).1 - (F244_L a0).2)) then (W ((F244_L a1).1 - (F244_L a0).2)) else (if (0 : Int) < (W ((F244_L a0).1 - (F244_L a1).2)) then (W ((F244_L a0).1 - (F244_L a1).2)) else 0)) * (if ((if (0 : Int) < (W ((F244_L a0).1 - (F244_L a1).2)) then (W ((F244_L a0).1 - (F244_L a1).2)) else 0) : Int) < (W ((F244_L a1).1 - (F244_L a0).2)) then (W ((F244_L a1).1 - (F244_L a0).2)) else (if (0 : Int) < (W ((F244_L a0).1 - (F244_L a1).2)) then (W ((F244_L a0).1 - (F244_L a1).2)) else 0)))) := by simp only [F234_L_L]
  rw [e]
  refine con_of (n := 9) Tryz.func234 rfl (ent Tryz.func234 (by kernel_rfl) rfl) (by show 2 ≤ Tryz.f234.ntmps; decide) (by kernel_rfl) ⟨rfl, rfl, trivial⟩ (fun cx hcx => ?_)
  exact ret_of (T := T0) hT hm (f := 5000) (orc := [.call [0] (.t (k2 (F244_L a0))) [], .call [1] (.t (k2 (F244_L a1))) []]) [] [] [] hcx
    (obs := [.call 244 [(.s 0 0 a0.length 1)] [(.live false true (flat c3 a0))] (.t (k2 (F244_L a0))) [], .call 244 [(.s 0 0 a1.length 1)] [(.live false true (flat c3 a1))] (.t (k2 (F244_L a1))) []]) (by kernel_rfl) ⟨(C244_L a0 (by (try simp only [List.length_append, List.length_cons, List.length_nil, Int.toNat_zero, axis3, axis1]); omega) (by (try simp only [List.length_append, List.length_cons, List.length_nil, Int.toNat_zero, axis3, axis1]); omega)), (C244_L a1 (by (try simp only [List.length_append, List.length_cons, List.length_nil, Int.toNat_zero, axis3, axis1]); omega) (by (try simp only [List.length_append, List.length_cons, List.length_nil, Int.toNat_zero, axis3, axis1]); omega)), trivial⟩

/-- facet/facetref03.close at (1,) -/
def F201_1 (a0 : (Int × Int × Int) × (Int × Int × Int) × Int × Int × Int) (a1 : Int × Int × Int) : Int :=
  (W ((W ((F234_L_L (F235_3 a0 0) (F235_1 a1 0)) + (F234_L_L (F235_3 a0 1) (F235_1 a1 1)))) + (F234_L_L (F235_3 a0 2) (F235_1 a1 2))))

theorem C201_1 (a0 : (Int × Int × Int) × (Int × Int × Int) × Int × Int × Int) (a1 : Int × Int × Int) : Con Tryz.prog 201 [(.a (k9 a0)), (.s 0 0 1 3)] [(.live false false (k3 a1))] (iv (F201_1 a0 a1)) [] := by
  have e : (F201_1 a0 a1) = (W ((W ((F234_L_L (F235_3 a0 0) (F235_1 a1 0)) + (F234_L_L (F235_3 a0 1) (F235_1 a1 1)))) + (F234_L_L (F235_3 a0 2) (F235_1 a1 2)))) := by simp only [F201_1]
  rw [e]
  refine con_of (n := 9) Tryz.func201 rfl (ent Tryz.func201 (by kernel_rfl) rfl) (by show 2 ≤ Tryz.f201.ntmps; decide) (by kernel_rfl) ⟨rfl, trivial⟩ (fun cx hcx => ?_)
  exact ret_of (T := T0) hT hm (f := 5000) (orc := [.call [2] (.s 1 0 (F235_3 a0 0).length 1) [(.live true true (flat c3 (F235_3 a0 0)))], .call [0] (.s 1 0 (F235_1 a1 0).length 1) [(.live true true (flat c3 (F235_1 a1 0)))], .call [3, 4] (iv (F234_L_L (F235_3 a0 0) (F235_1 a1 0))) [], .call [2] (.s 1 0 (F235_3 a0 1).length 1) [(.live true true (flat c3 (F235_3 a0 1)))], .call [0] (.s 1 0 (F235_1 a1 1).length 1) [(.live true true (flat c3 (F235_1 a1 1)))], .call [5, 6] (iv (F234_L_L (F235_3 a0 1) (F235_1 a1 1))) [], .call [2] (.s 1 0 (F235_3 a0 2).length 1) [(.live true true (flat c3 (F235_3 a0 2)))], .call [0] (.s 1 0 (F235_1 a1 2).length 1) [(.live true true (flat c3 (F235_1 a1 2)))], .call [7, 8] (iv (F234_L_L (F235_3 a0 2) (F235_1 a1 2))) []]) [] [] [] hcx
    (obs := [.call 235 [(.s 0 0 3 3), (iv 0)] [(.live false false (k9 a0))] (.s 1 0 (F235_3 a0 0).length 1) [(.live true true (flat c3 (F235_3 a0 0)))], .call 235 [(.s 0 0 1 3), (iv 0)] [(.live false false (k3 a1))] (.s 1 0 (F235_1 a1 0).length 1) [(.live true true (flat c3 (F235_1 a1 0)))], .call 234 [(.s 0 0 (F235_3 a0 0).length 1), (.s 1 0 (F235_1 a1 0).length 1)] [(.live false true (flat c3 (F235_3 a0 0))), (.live false true (flat c3 (F235_1 a1 0)))] (iv (F234_L_L (F235_3 a0 0) (F235_1 a1 0))) [], .call 235 [(.s 0 0 3 3), (iv 1)] [(.live false false (k9 a0))] (.s 1 0 (F235_3 a0 1).length 1) [(.live true true (flat c3 (F235_3 a0 1)))], .call 235 [(.s 0 0 1 3), (iv 1)] [(.live false false (k3 a1))] (.s 1 0 (F235_1 a1 1).length 1) [(.live true true (flat c3 (F235_1 a1 1)))], .call 234 [(.s 0 0 (F235_3 a0 1).length 1), (.s 1 0 (F235_1 a1 1).length 1)] [(.live false true (flat c3 (F235_3 a0 1))), (.live false true (flat c3 (F235_1 a1 1)))] (iv (F234_L_L (F235_3 a0 1) (F235_1 a1 1))) [], .call 235 [(.s 0 0 3 3), (iv 2)] [(.live false false (k9 a0))] (.s 1 0 (F235_3 a0 2).length 1) [(.live true true (flat c3 (F235_3 a0 2)))], .call 235 [(.s 0 0 1 3), (iv 2)] [(.live false false (k3 a1))] (.s 1 0 (F235_1 a1 2).length 1) [(.live true true (flat c3 (F235_1 a1 2)))], .call 234 [(.s 0 0 (F235_3 a0 2).length 1), (.s 1 0 (F235_1 a1 2).length 1)] [(.live false true (flat c3 (F235_3 a0 2))), (.live false true (flat c3 (F235_1 a1 2)))] (iv (F234_L_L (F235_3 a0 2) (F235_1 a1 2))) []]) (by kernel_rfl) ⟨(C235_3 a0 0), (C235_1 a1 0), (C234_L_L (F235_3 a0 0) (F235_1 a1 0) (by (try simp only [List.length_append, List.length_cons, List.length_nil, Int.toNat_zero, axis3, axis1]); omega) (by (try simp only [List.length_append, List.length_cons, List.length_nil, Int.toNat_zero, axis3, axis1]); omega) (by (try simp only [List.length_append, List.length_cons, List.length_nil, Int.toNat_zero, axis3, axis1]); omega) (by (try simp only [List.length_append, List.length_cons, List.length_nil, Int.toNat_zero, axis3, axis1]); omega)), (C235_3 a0 1), (C235_1 a1 1), (C234_L_L (F235_3 a0 1) (F235_1 a1 1) (by (try simp only [List.length_append, List.length_cons, List.length_nil, Int.toNat_zero, axis3, axis1]); omega) (by (try simp only [List.length_append, List.length_cons, List.length_nil, Int.toNat_zero, axis3, axis1]); omega) (by (try simp only [List.length_append, List.length_cons, List.length_nil, Int.toNat_zero, axis3, axis1]); omega) (by (try simp only [List.length_append, List.length_cons, List.length_nil, Int.toNat_zero, axis3, axis1]); omega)), (C235_3 a0 2), (C235_1 a1 2), (C234_L_L (F235_3 a0 2) (F235_1 a1 2) (by (try simp only [List.length_append, List.length_cons, List.length_nil, Int.toNat_zero, axis3, axis1]); omega) (by (try simp only [List.length_append, List.length_cons, List.length_nil, Int.toNat_zero, axis3, axis1]); omega) (by (try simp only [List.length_append, List.length_cons, List.length_nil, Int.toNat_zero, axis3, axis1]); omega) (by (try simp only [List.length_append, List.length_cons, List.length_nil, Int.toNat_zero, axis3, axis1]); omega)), trivial⟩

end Go.Proofs.YtnkeljlllagddaaGreat

namespace Go.Proofs.YtnkeljlllagddaaGreat
open Go.Proofs Go.Aw Go.RowKit
set_option maxRecDepth 100000
set_option linter.unusedVariables false
set_option linter.unusedSimpArgs false

/-! ### Roots -/
theorem sq_unique {n a b : Int} (ha : 0 ≤ a) (hb : 0 ≤ b) (h1 : a * a ≤ n) (h2 : n < (a + 1) * (a + 1)) (h3 : b * b ≤ n) (h4 : n < (b + 1) * (b + 1)) : a = b := by
  rcases Int.lt_trichotomy a b with h | h | h
  · have : (a + 1) * (a + 1) ≤ b * b := Int.mul_le_mul (by omega) (by omega) (by omega) hb
    omega
  · exact h
  · have : (b + 1) * (b + 1) ≤ a * a := Int.mul_le_mul (by omega) (by omega) (by omega) ha
    omega
/-- r is the root of n, rounded down -/
def IsRt (n r : Int) : Prop := 0 ≤ r ∧ r * r ≤ n ∧ n < (r + 1) * (r + 1)
theorem IsRt.eq {n a b : Int} (h : IsRt n a) (h' : IsRt n b) : a = b := sq_unique h.1 h'.1 h.2.1 h.2.2 h'.2.1 h'.2.2
theorem IsRt.le {n r m : Int} (h : IsRt n r) (hm : 0 ≤ m) (hn : n < (m + 1) * (m + 1)) : r ≤ m := by
  rcases Int.lt_or_le m r with hlt | hle
  · have : (m + 1) * (m + 1) ≤ r * r := Int.mul_le_mul (by omega) (by omega) (by omega) h.1
    have := h.2.1; omega
  · exact hle
theorem IsRt.ge {n r m : Int} (h : IsRt n r) (hm : 0 ≤ m) (hn : m * m ≤ n) : m ≤ r := by
  rcases Int.lt_or_le r m with hlt | hle
  · have : (r + 1) * (r + 1) ≤ m * m := Int.mul_le_mul (by omega) (by omega) (by have := h.1; omega) hm
    have := h.2.2; omega
  · exact hle
theorem IsRt.mono {n m a b : Int} (h : IsRt n a) (h' : IsRt m b) (hnm : n ≤ m) : a ≤ b := h'.ge h.1 (Int.le_trans h.2.1 hnm)

theorem bits_spec {n : Int} {S : Int × Int → (Int × Int) ⊕ Int} (hS : ∀ k b, 0 ≤ k → 0 < b → k + b ≤ 2147483648 → S (k, b) = if (k + b) * (k + b) ≤ n then .inl (k + b, b / 2) else .inl (k, b / 2)) (h0 : ∀ k, S (k, 0) = .inr k) :
    ∀ (j f : Nat) (k : Int), j + 2 ≤ f → 0 ≤ k → k + 2 * 2 ^ j ≤ 2147483648 → k * k ≤ n → n < (k + 2 * 2 ^ j) * (k + 2 * 2 ^ j) → IsRt n (loopF S f (k, 2 ^ j)) := by
  intro j
  induction j with
  | zero =>
    intro f k hf hk hb h1 h2
    obtain ⟨f, rfl⟩ : ∃ g, f = g + 2 := ⟨f - 2, by omega⟩
    simp only [Int.pow_zero] at h2 hb ⊢
    have hs := hS k 1 hk (by omega) (by omega)
    by_cases hc : (k + 1) * (k + 1) ≤ n
    · rw [if_pos hc] at hs
      rw [loopF_inl hs, show ((1 : Int) / 2) = 0 by omega, loopF_inr (h0 _)]
      refine ⟨by omega, hc, ?_⟩
      rw [show k + 1 + 1 = k + 2 * 1 by omega]; exact h2
    · rw [if_neg hc] at hs
      rw [loopF_inl hs, show ((1 : Int) / 2) = 0 by omega, loopF_inr (h0 _)]
      exact ⟨hk, h1, by omega⟩
  | succ j ih =>
    intro f k hf hk hb h1 h2
    obtain ⟨f, rfl⟩ : ∃ g, f = g + 1 := ⟨f - 1, by omega⟩
    have hp : (0 : Int) < 2 ^ j := Int.pow_pos (by omega)
    rw [Int.pow_succ] at h2 hb ⊢
    have hs := hS k (2 ^ j * 2) hk (by omega) (by omega)
    have hd : (2 : Int) ^ j * 2 / 2 = 2 ^ j := Int.mul_ediv_cancel _ (by omega)
    rw [hd] at hs
    by_cases hc : (k + 2 ^ j * 2) * (k + 2 ^ j * 2) ≤ n
    · rw [if_pos hc] at hs
      rw [loopF_inl hs]
      refine ih f _ (by omega) (by omega) (by omega) hc ?_
      rw [show k + 2 ^ j * 2 + 2 * 2 ^ j = k + 2 * ((2 : Int) ^ j * 2) by omega]; exact h2
    · rw [if_neg hc] at hs
      rw [loopF_inl hs]
      refine ih f _ (by omega) hk (by omega) h1 ?_
      rw [show k + 2 * (2 : Int) ^ j = k + 2 ^ j * 2 by omega]; omega

theorem bins_spec {n : Int} {S : Int × Int → (Int × Int) ⊕ Int} (hS : ∀ a b, 0 ≤ a → a < b → b ≤ 2147483648 → S (a, b) = if ((a + b + 1) / 2) * ((a + b + 1) / 2) ≤ n then .inl ((a + b + 1) / 2, b) else .inl (a, (a + b + 1) / 2 - 1)) (h0 : ∀ a, S (a, a) = .inr a) :
    ∀ (f : Nat) (a b : Int), 0 ≤ a → a ≤ b → b ≤ 2147483648 → b - a < f → a * a ≤ n → n < (b + 1) * (b + 1) → IsRt n (loopF S f (a, b)) := by
  intro f
  induction f with
  | zero => intro a b _ h _ hf; omega
  | succ f ih =>
    intro a b ha hab hb hf h1 h2
    by_cases he : a = b
    · subst he
      rw [loopF_inr (h0 a)]; exact ⟨ha, h1, h2⟩
    · have hs := hS a b ha (by omega) hb
      by_cases hc : ((a + b + 1) / 2) * ((a + b + 1) / 2) ≤ n
      · rw [if_pos hc] at hs
        rw [loopF_inl hs]
        exact ih _ _ (by omega) (by omega) hb (by omega) hc h2
      · rw [if_neg hc] at hs
        rw [loopF_inl hs]
        refine ih _ _ ha (by omega) (by omega) (by omega) h1 ?_
        rw [show (a + b + 1) / 2 - 1 + 1 = (a + b + 1) / 2 by omega]; omega

theorem sq_bd {a : Int} (h : 0 ≤ a) (h' : a ≤ 2147483648) : 0 ≤ a * a ∧ a * a ≤ 4611686018427387904 := ⟨Int.mul_nonneg h h, Int.le_trans (Int.mul_le_mul h' h' h (by omega)) (by omega)⟩

theorem rtSpan {n : Int} (h0 : 0 ≤ n) (h : n < 4611686018427387904) : IsRt n (F159 n) := by
  unfold F159
  rw [show decide ((4611686018427387904 : Int) ≤ n) = false by simpa using h]
  simp only [cond_false]
  refine bits_spec (n := n) (fun k b hk hb hkb => ?_) (fun k => ?_) 30 _ 0 (by decide) (by omega) (by decide) (by omega) (by simpa using h)
  · have h2 : ((b : Int) == 0) = false := by rw [beq_eq_false_iff_ne]; omega
    have hw : W (k + b) = k + b := W_eq (by omega) (by omega)
    have hq := sq_bd (a := k + b) (by omega) hkb
    have hw2 : W ((k + b) * (k + b)) = (k + b) * (k + b) := W_eq (by omega) (by omega)
    simp only [S159_0, h2, cond_false, hw, hw2]
    by_cases hc : (k + b) * (k + b) ≤ n <;> simp [hc]
  · simp [S159_0]

theorem rtRef {n : Int} (h0 : 0 ≤ n) (h : n < 4611686018427387904) : IsRt n (F245 n) := by
  unfold F245
  refine bins_spec (n := n) (fun a b ha hab hb => ?_) (fun a => ?_) _ 0 2147483648 (by omega) (by omega) (by omega) (by decide) (by omega) (by omega)
  · have h2 : decide (a < b) = true := by simpa using hab
    have hw := mid1_eq (a := a) (b := b) (by omega)
    have hw3 := mid2_eq (a := a) (b := b) (by omega)
    have hq := sq_bd (a := (a + b + 1) / 2) (by omega) (by omega)
    have hw2 : W ((a + b + 1) / 2 * ((a + b + 1) / 2)) = (a + b + 1) / 2 * ((a + b + 1) / 2) := W_eq (by omega) (by omega)
    have hw4 : W ((a + b + 1) / 2 - 1) = (a + b + 1) / 2 - 1 := W_eq (by omega) (by omega)
    simp only [S245_0, h2, cond_true, hw, hw2, hw4]
    by_cases hc : (a + b + 1) / 2 * ((a + b + 1) / 2) ≤ n <;> simp [hc]
  · simp [S245_0]

/-! ### Points, in whole numbers -/
abbrev P3 := Int × Int × Int
abbrev PN := P3 × P3 × P3
def bd (m : Int) (p : P3) : Prop := (-m ≤ p.1 ∧ p.1 ≤ m) ∧ (-m ≤ p.2.1 ∧ p.2.1 ≤ m) ∧ (-m ≤ p.2.2 ∧ p.2.2 ≤ m)
def bdP (m : Int) (p : PN) : Prop := bd m p.1 ∧ bd m p.2.1 ∧ bd m p.2.2
def sb (p q : P3) : P3 := (p.1 - q.1, p.2.1 - q.2.1, p.2.2 - q.2.2)
def dt (p q : P3) : Int := p.1 * q.1 + p.2.1 * q.2.1 + p.2.2 * q.2.2
def cr (p q : P3) : P3 := (p.2.1 * q.2.2 - p.2.2 * q.2.1, p.2.2 * q.1 - p.1 * q.2.2, p.1 * q.2.1 - p.2.1 * q.1)
def nrm (p : PN) : P3 := cr (sb p.2.1 p.1) (sb p.2.2 p.1)

theorem mul_bd {a b x y : Int} (hx : -a ≤ x ∧ x ≤ a) (hy : -b ≤ y ∧ y ≤ b) : -(a * b) ≤ x * y ∧ x * y ≤ a * b := by
  have h1 := Int.mul_nonneg (show 0 ≤ a - x by omega) (show 0 ≤ b - y by omega)
  have h2 := Int.mul_nonneg (show 0 ≤ a + x by omega) (show 0 ≤ b + y by omega)
  have h3 := Int.mul_nonneg (show 0 ≤ a - x by omega) (show 0 ≤ b + y by omega)
  have h4 := Int.mul_nonneg (show 0 ≤ a + x by omega) (show 0 ≤ b - y by omega)
  rw [Int.sub_mul, Int.mul_sub, Int.mul_sub] at h1
  rw [Int.add_mul, Int.mul_add, Int.mul_add] at h2
  rw [Int.sub_mul, Int.mul_add, Int.mul_add] at h3
  rw [Int.add_mul, Int.mul_sub, Int.mul_sub] at h4
  omega

theorem bd_sb {a b : Int} {p q : P3} (hp : bd a p) (hq : bd b q) : bd (a + b) (sb p q) := by
  unfold bd at *; simp only [sb]; omega
theorem sq_nn (x : Int) : 0 ≤ x * x := by
  rcases Int.le_total 0 x with h | h
  · exact Int.mul_nonneg h h
  · exact Int.mul_nonneg_of_nonpos_of_nonpos h h
theorem dt_self (p : P3) : 0 ≤ dt p p := by
  have := sq_nn p.1; have := sq_nn p.2.1; have := sq_nn p.2.2
  simp only [dt]; omega
theorem dt_pos {p : P3} (h : ¬ (p.1 = 0 ∧ p.2.1 = 0 ∧ p.2.2 = 0)) : 1 ≤ dt p p := by
  have := sq_nn p.1; have := sq_nn p.2.1; have := sq_nn p.2.2
  have key : ∀ x : Int, x ≠ 0 → 1 ≤ x * x := fun x hx => by
    have h0 := sq_nn x
    have : x * x ≠ 0 := Int.mul_ne_zero hx hx
    omega
  simp only [dt]
  by_cases h1 : p.1 = 0
  · by_cases h2 : p.2.1 = 0
    · have := key p.2.2 (fun h3 => h ⟨h1, h2, h3⟩); omega
    · have := key _ h2; omega
  · have := key _ h1; omega
theorem dt_bd {a : Int} {p q : P3} (hp : bd a p) (hq : bd a q) : -(3 * (a * a)) ≤ dt p q ∧ dt p q ≤ 3 * (a * a) := by
  have := mul_bd hp.1 hq.1; have := mul_bd hp.2.1 hq.2.1; have := mul_bd hp.2.2 hq.2.2
  simp only [dt]; omega
theorem W0 {n : Int} (h : -9223372036854775808 ≤ n ∧ n < 9223372036854775808) : W n = n := W_eq h.1 h.2
theorem fsb {p q : P3} (hp : bd 100000 p) (hq : bd 100000 q) : F144 p q = sb p q := by
  unfold bd at *; simp only [F144, sb]
  rw [W_eq (by omega) (by omega), W_eq (by omega) (by omega), W_eq (by omega) (by omega)]
theorem fdt {p q : P3} (hp : bd 1000000000 p) (hq : bd 1000000000 q) : F143 p q = dt p q := by
  have h1 := mul_bd hp.1 hq.1; have h2 := mul_bd hp.2.1 hq.2.1; have h3 := mul_bd hp.2.2 hq.2.2
  simp only [F143, F210_3, dt]
  rw [W_eq (n := p.1 * q.1) (by omega) (by omega), W_eq (n := p.2.1 * q.2.1) (by omega) (by omega), W_eq (n := p.2.2 * q.2.2) (by omega) (by omega), Int.zero_add, W_eq (n := p.1 * q.1) (by omega) (by omega), W_eq (n := p.1 * q.1 + p.2.1 * q.2.1) (by omega) (by omega), W_eq (by omega) (by omega)]
theorem rdt {p q : P3} (hp : bd 1000000000 p) (hq : bd 1000000000 q) : F213 p q = dt p q := by
  have h1 := mul_bd hp.1 hq.1; have h2 := mul_bd hp.2.1 hq.2.1; have h3 := mul_bd hp.2.2 hq.2.2
  simp only [F213, dt]
  rw [W_eq (n := p.1 * q.1) (by omega) (by omega), W_eq (n := p.2.1 * q.2.1) (by omega) (by omega), W_eq (n := p.2.2 * q.2.2) (by omega) (by omega), W_eq (n := p.1 * q.1 + p.2.1 * q.2.1) (by omega) (by omega), W_eq (by omega) (by omega)]
theorem rsb {p q : P3} (hp : bd 100000 p) (hq : bd 100000 q) : F214 p q = sb p q := by
  unfold bd at *; simp only [F214, sb]
  rw [W_eq (by omega) (by omega), W_eq (by omega) (by omega), W_eq (by omega) (by omega)]
theorem cr_W {p q : P3} (hp : bd 1000000000 p) (hq : bd 1000000000 q) :
    ((W ((W (p.2.1 * q.2.2)) - (W (p.2.2 * q.2.1)))), (W ((W (p.2.2 * q.1)) - (W (p.1 * q.2.2)))), (W ((W (p.1 * q.2.1)) - (W (p.2.1 * q.1))))) = cr p q := by
  have h1 := mul_bd hp.2.1 hq.2.2; have h2 := mul_bd hp.2.2 hq.2.1; have h3 := mul_bd hp.2.2 hq.1; have h4 := mul_bd hp.1 hq.2.2; have h5 := mul_bd hp.1 hq.2.1; have h6 := mul_bd hp.2.1 hq.1
  simp only [cr]
  rw [W_eq (n := p.2.1 * q.2.2) (by omega) (by omega), W_eq (n := p.2.2 * q.2.1) (by omega) (by omega), W_eq (n := p.2.2 * q.1) (by omega) (by omega), W_eq (n := p.1 * q.2.2) (by omega) (by omega), W_eq (n := p.1 * q.2.1) (by omega) (by omega), W_eq (n := p.2.1 * q.1) (by omega) (by omega),
    W_eq (by omega) (by omega), W_eq (by omega) (by omega), W_eq (by omega) (by omega)]
theorem scr {p q : P3} (hp : bd 1000000000 p) (hq : bd 1000000000 q) : F237 p q = cr p q := cr_W hp hq
theorem rcr {p q : P3} (hp : bd 1000000000 p) (hq : bd 1000000000 q) : F215 p q = cr p q := cr_W hp hq
theorem ssb {p q : P3} (hp : bd 100000 p) (hq : bd 100000 q) : F238 p q = sb p q := by
  unfold bd at *; simp only [F238, F246, sb]
  rw [W_eq (n := -1 * q.1) (by omega) (by omega), W_eq (n := -1 * q.2.1) (by omega) (by omega), W_eq (n := -1 * q.2.2) (by omega) (by omega), W_eq (by omega) (by omega), W_eq (by omega) (by omega), W_eq (by omega) (by omega)]
  refine Prod.ext (by simp only; omega) (Prod.ext (by simp only; omega) (by simp only; omega))
theorem bd.mono {a b : Int} {p : P3} (h : bd a p) (hab : a ≤ b) : bd b p := by unfold bd at *; omega
theorem bdP.mono {a b : Int} {p : PN} (h : bdP a p) (hab : a ≤ b) : bdP b p := ⟨h.1.mono hab, h.2.1.mono hab, h.2.2.mono hab⟩

/-! ### Valid panels -/
theorem within_eq (n a b : Int) : F71 n a b = decide (a ≤ n ∧ n ≤ b) := by
  unfold F71
  by_cases h1 : n ≥ a <;> by_cases h2 : n ≤ b <;> simp [h1, h2] <;> omega
theorem within_eq3 (n a b : Int) : F76 n a b = decide (a ≤ n ∧ n ≤ b) := by
  unfold F76
  by_cases h1 : n ≥ a <;> by_cases h2 : n ≤ b <;> simp [h1, h2] <;> omega
theorem within_eq1 (n a b : Int) : F137 n a b = decide (a ≤ n ∧ n ≤ b) := by
  unfold F137
  by_cases h1 : n ≥ a <;> by_cases h2 : n ≤ b <;> simp [h1, h2] <;> omega
theorem within_eq2 (n a b : Int) : F160 n a b = decide (a ≤ n ∧ n ≤ b) := by
  unfold F160
  by_cases h1 : n ≥ a <;> by_cases h2 : n ≤ b <;> simp [h1, h2] <;> omega
theorem from_eq (n a b : Int) : F152 n a b = decide (a ≤ n ∧ n ≤ b) := by
  unfold F152
  by_cases h1 : a ≤ n <;> by_cases h2 : n ≤ b <;> simp [h1, h2]
theorem and3 {a b c d : Prop} [Decidable a] [Decidable b] [Decidable c] [Decidable d] (h : (a ∧ b ∧ c) ↔ d) : (bif decide a then (bif decide b then decide c else false) else false) = decide d := by
  by_cases h1 : a
  · by_cases h2 : b
    · rw [decide_eq_true h1, decide_eq_true h2, cond_true, cond_true]
      by_cases h3 : c
      · rw [decide_eq_true h3, decide_eq_true (h.1 ⟨h1, h2, h3⟩)]
      · rw [decide_eq_false h3, decide_eq_false (fun hd => h3 (h.2 hd).2.2)]
    · rw [decide_eq_true h1, decide_eq_false h2, cond_true, cond_false, decide_eq_false (fun hd => h2 (h.2 hd).2.1)]
  · rw [decide_eq_false h1, cond_false, decide_eq_false (fun hd => h1 (h.2 hd).1)]
theorem eq3 (x y z a b : Int) : (bif (((x : Int) == 0) && (((y : Int) == 0) && (((z : Int) == 0) && true))) then a else b) = if x = 0 ∧ y = 0 ∧ z = 0 then a else b := by
  have key : ∀ t : Int, (t == 0) = decide (t = 0) := fun t => by
    by_cases h : t = 0
    · rw [decide_eq_true h]; simpa using h
    · rw [decide_eq_false h]; simpa using h
  rw [key, key, key, Bool.and_true, ← Bool.decide_and, ← Bool.decide_and]
  by_cases h : x = 0 ∧ y = 0 ∧ z = 0
  · rw [if_pos h, decide_eq_true h, cond_true]
  · rw [if_neg h, decide_eq_false h, cond_false]
open Classical in
theorem inRange_eq (p : P3) : F216 p 64 = decide (bd 64 p) := by
  unfold F216
  rw [from_eq, from_eq, from_eq, W_eq (by omega) (by omega)]
  exact and3 (by unfold bd; omega)
open Classical in
theorem near02_eq (p : P3) : F161 p 64 = decide (bd 64 p) := by
  unfold F161
  rw [within_eq2, within_eq2, within_eq2, W_eq (by omega) (by omega)]
  exact and3 (by unfold bd; omega)
open Classical in
noncomputable def vp (p : PN) : Int := if bdP 64 p then (if (nrm p).1 = 0 ∧ (nrm p).2.1 = 0 ∧ (nrm p).2.2 = 0 then 6 else 0) else 1
theorem nrm_s {p : PN} (h : bdP 64 p) : F217 p = nrm p := by
  have h1 := h.1.mono (show (64 : Int) ≤ 100000 by omega); have h2 := h.2.1.mono (show (64 : Int) ≤ 100000 by omega); have h3 := h.2.2.mono (show (64 : Int) ≤ 100000 by omega)
  unfold F217 nrm
  rw [ssb h2 h1, ssb h3 h1]
  exact scr ((bd_sb h.2.1 h.1).mono (by omega)) ((bd_sb h.2.2 h.1).mono (by omega))
theorem nrm_r {p : PN} (h : bdP 64 p) : F162 p = nrm p := by
  have h1 := h.1.mono (show (64 : Int) ≤ 100000 by omega); have h2 := h.2.1.mono (show (64 : Int) ≤ 100000 by omega); have h3 := h.2.2.mono (show (64 : Int) ≤ 100000 by omega)
  unfold F162 nrm
  rw [rsb h2 h1, rsb h3 h1]
  exact rcr ((bd_sb h.2.1 h.1).mono (by omega)) ((bd_sb h.2.2 h.1).mono (by omega))
theorem vp_s (p : PN) : F194 p = vp p := by
  unfold F194 vp
  rw [inRange_eq, inRange_eq, inRange_eq]
  by_cases h1 : bd 64 p.1
  · by_cases h2 : bd 64 p.2.1
    · by_cases h3 : bd 64 p.2.2
      · have hb : bdP 64 p := ⟨h1, h2, h3⟩
        rw [nrm_s hb, if_pos hb]
        rw [eq3]; simp [h1, h2, h3]
      · simp [h1, h2, h3, bdP]
    · simp [h1, h2, bdP]
  · simp [h1, bdP]
theorem vp_r (p : PN) : F195 p = vp p := by
  unfold F195 vp
  rw [near02_eq, near02_eq, near02_eq]
  by_cases h1 : bd 64 p.1
  · by_cases h2 : bd 64 p.2.1
    · by_cases h3 : bd 64 p.2.2
      · have hb : bdP 64 p := ⟨h1, h2, h3⟩
        rw [nrm_r hb, if_pos hb]
        rw [eq3]; simp [h1, h2, h3]
      · simp [h1, h2, h3, bdP]
    · simp [h1, h2, bdP]
  · simp [h1, bdP]
/-- a valid panel -/
theorem vp_ok {p : PN} (h : vp p = 0) : bdP 64 p ∧ 1 ≤ dt (nrm p) (nrm p) := by
  unfold vp at h
  split at h
  · rename_i hb
    split at h
    · cases h
    · rename_i hn; exact ⟨hb, dt_pos hn⟩
  · cases h
end Go.Proofs.YtnkeljlllagddaaGreat

namespace Go.Proofs.YtnkeljlllagddaaGreat
open Go.Proofs Go.Aw Go.RowKit
set_option maxRecDepth 100000
set_option linter.unusedVariables false
set_option linter.unusedSimpArgs false

/-! ### The reference's list of parts -/
def quadR (x : PN) : List PN :=
  [(F175 x.1 2, F224 (F175 x.1 2) (F175 x.2.1 2), F224 (F175 x.2.2 2) (F175 x.1 2)),
   (F224 (F175 x.1 2) (F175 x.2.1 2), F175 x.2.1 2, F224 (F175 x.2.1 2) (F175 x.2.2 2)),
   (F224 (F175 x.2.2 2) (F175 x.1 2), F224 (F175 x.2.1 2) (F175 x.2.2 2), F175 x.2.2 2),
   (F224 (F175 x.1 2) (F175 x.2.1 2), F224 (F175 x.2.1 2) (F175 x.2.2 2), F224 (F175 x.2.2 2) (F175 x.1 2))]
def refL : Nat → List PN → List PN
  | 0, l => l
  | n + 1, l => refL n (l.flatMap quadR)
theorem refL_length : ∀ (n : Nat) (l : List PN), (refL n l).length = 4 ^ n * l.length
  | 0, l => by simp [refL]
  | n + 1, l => by
    have : (l.flatMap quadR).length = 4 * l.length := by
      induction l with
      | nil => rfl
      | cons x l ih => rw [List.flatMap_cons, List.length_append, ih]; simp only [quadR, List.length_cons, List.length_nil]; omega
    rw [refL, refL_length n, this, Nat.pow_succ]
    rw [← Nat.mul_assoc, Nat.mul_comm (4 ^ n) 4, Nat.mul_comm 4 (4 ^ n)]
theorem cut_in (a0 : PN) (a1 : Int) (l : List PN) : ∀ (f i : Nat) (nx : List PN) (d : Int), l.length - i < f → i ≤ l.length →
    loopF (S178_1 a0 a1) f (l, nx, d, (i : Int)) = .inl (nx ++ (l.drop i).flatMap quadR, d + 1) := by
  intro f
  induction f with
  | zero => intro i nx d h; omega
  | succ f ih =>
    intro i nx d h hi
    by_cases hlt : i < l.length
    · have hs : S178_1 a0 a1 (l, nx, d, (i : Int)) = .inl (l, nx ++ quadR (l.getD i default), d, ((i + 1 : Nat) : Int)) := by
        have : decide ((i : Int) < (l.length : Int)) = true := by simpa using hlt
        simp only [S178_1, this, cond_true, Int.toNat_natCast, quadR]
        rfl
      rw [loopF_inl hs, ih _ _ _ (by omega) (by omega)]
      have hd : l.drop i = l.getD i default :: l.drop (i + 1) := by
        rw [List.drop_eq_getElem_cons hlt]; simp [List.getD_eq_getElem?_getD, hlt]
      rw [hd, List.flatMap_cons, List.append_assoc]
    · have : decide ((i : Int) < (l.length : Int)) = false := by simpa using hlt
      have hs : S178_1 a0 a1 (l, nx, d, (i : Int)) = .inr (.inl (nx, d + 1)) := by
        simp only [S178_1, this, cond_false]
      rw [loopF_inr hs, List.drop_of_length_le (by omega)]; simp
theorem cut_out (a0 : PN) (a1 : Int) : ∀ (f n : Nat) (l : List PN), n < f → loopF (S178_0 a0 a1) f (l, a1 - n) = refL n l := by
  intro f
  induction f with
  | zero => intro n l h; omega
  | succ f ih =>
    intro n l h
    cases n with
    | zero =>
      have hs : S178_0 a0 a1 (l, a1 - (0 : Nat)) = .inr l := by
        have : decide (a1 - ((0 : Nat) : Int) < a1) = false := by simp
        simp only [S178_0, this, cond_false]
      rw [loopF_inr hs]; rfl
    | succ n =>
      have hs : S178_0 a0 a1 (l, a1 - ((n + 1 : Nat) : Int)) = .inl (l.flatMap quadR, a1 - (n : Nat)) := by
        have : decide (a1 - ((n + 1 : Nat) : Int) < a1) = true := by simp; omega
        simp only [S178_0, this, cond_true]
        have := cut_in a0 a1 l (Int.toNat (((l.length : Nat) : Int) - 0) + 1) 0 [] (a1 - ((n + 1 : Nat) : Int)) (by omega) (by omega)
        simp only [List.drop_zero, List.nil_append] at this
        rw [show ((0 : Nat) : Int) = 0 from rfl] at this
        rw [this, show a1 - ((n + 1 : Nat) : Int) + 1 = a1 - (n : Nat) by omega]
      rw [loopF_inl hs, ih _ _ (by omega)]; rfl
theorem cut_refL (p : PN) {d : Int} (h : 0 ≤ d) : F178 p d = refL d.toNat [p] := by
  unfold F178
  have := cut_out p d (Int.toNat (d - 0) + 1) d.toNat [p] (by omega)
  rw [show d - (d.toNat : Int) = 0 by omega] at this
  exact this
theorem cut_len (p : PN) {d : Int} (h : 0 ≤ d) : (F178 p d).length = 4 ^ d.toNat := by
  rw [cut_refL p h, refL_length]; simp
theorem cut_ne {p : PN} {d : Int} (h : 0 ≤ d) : ((((F178 p d).length : Nat)) : Int) ≠ 0 := by
  rw [cut_len p h]
  have : 0 < 4 ^ d.toNat := Nat.pow_pos (by omega)
  omega
theorem cut_le {p : PN} {d : Int} (h : 0 ≤ d ∧ d ≤ 3) : (F178 p d).length ≤ 64 := by
  rw [cut_len p h.1]
  have : d.toNat ≤ 3 := by omega
  calc 4 ^ d.toNat ≤ 4 ^ 3 := Nat.pow_le_pow_right (by omega) this
    _ = 64 := rfl

/-! ### It is the program's -/
def quad (x : PN) : List PN := [q1 x, q2 x, q3 x, q4 x]
theorem times_f {p : P3} (h : bd 100000 p) : F170 p 2 = (2 * p.1, 2 * p.2.1, 2 * p.2.2) := by
  unfold bd at h; simp only [F170]; rw [W_eq (by omega) (by omega), W_eq (by omega) (by omega), W_eq (by omega) (by omega)]
theorem times_r {p : P3} (h : bd 100000 p) : F175 p 2 = (2 * p.1, 2 * p.2.1, 2 * p.2.2) := by
  unfold bd at h; simp only [F175]; rw [W_eq (by omega) (by omega), W_eq (by omega) (by omega), W_eq (by omega) (by omega)]
theorem mid_f {p q : P3} (hp : bd 100000 p) (hq : bd 100000 q) : F223 p q = (p.1 + q.1, p.2.1 + q.2.1, p.2.2 + q.2.2) := by
  unfold bd at hp hq; simp only [F223]; rw [W_eq (by omega) (by omega), W_eq (by omega) (by omega), W_eq (by omega) (by omega)]
theorem mid_r {p q : P3} (hp : bd 100000 p) (hq : bd 100000 q) : F224 (F175 p 2) (F175 q 2) = (p.1 + q.1, p.2.1 + q.2.1, p.2.2 + q.2.2) := by
  rw [times_r hp, times_r hq]
  have key : ∀ a b : Int, (-100000 ≤ a ∧ a ≤ 100000) → (-100000 ≤ b ∧ b ≤ 100000) → W (Int.tdiv (W (2 * a + 2 * b)) 2) = a + b := fun a b h1 h2 => by
    rw [W_eq (n := 2 * a + 2 * b) (by omega) (by omega), ← Int.mul_add, Int.mul_tdiv_cancel_left _ (by omega), W_eq (by omega) (by omega)]
  simp only [F224]
  rw [key _ _ hp.1 hq.1, key _ _ hp.2.1 hq.2.1, key _ _ hp.2.2 hq.2.2]
theorem quad_eq {x : PN} (h : bdP 100000 x) : quadR x = quad x := by
  unfold quadR quad q1 q2 q3 q4
  rw [mid_r h.1 h.2.1, mid_r h.2.2 h.1, mid_r h.2.1 h.2.2, mid_f h.1 h.2.1, mid_f h.2.2 h.1, mid_f h.2.1 h.2.2, times_r h.1, times_r h.2.1, times_r h.2.2, times_f h.1, times_f h.2.1, times_f h.2.2]
theorem quad_bd {m : Int} {x y : PN} (h : bdP m x) (hm : m ≤ 100000) (hy : y ∈ quad x) : bdP (2 * m) y := by
  have h1 := h.1.mono hm; have h2 := h.2.1.mono hm; have h3 := h.2.2.mono hm
  unfold quad q1 q2 q3 q4 at hy
  rw [mid_f h1 h2, mid_f h3 h1, mid_f h2 h3, times_f h1, times_f h2, times_f h3] at hy
  have ha := h.1; have hb := h.2.1; have hc := h.2.2
  unfold bd at ha hb hc
  simp only [List.mem_cons, List.mem_nil_iff, or_false] at hy
  unfold bdP bd
  rcases hy with rfl | rfl | rfl | rfl <;> simp only <;> omega
theorem cutL_quad : ∀ (d : Nat) (p : PN), cutL (d + 1) p = (cutL d p).flatMap quad
  | 0, p => by simp [cutL, quad]
  | d + 1, p => by
    rw [show cutL (d + 1 + 1) p = cutL (d + 1) (q1 p) ++ (cutL (d + 1) (q2 p) ++ (cutL (d + 1) (q3 p) ++ cutL (d + 1) (q4 p))) from rfl]
    rw [cutL_quad d (q1 p), cutL_quad d (q2 p), cutL_quad d (q3 p), cutL_quad d (q4 p)]
    simp only [cutL, List.flatMap_append]
theorem cutL_bd : ∀ (d : Nat) {m : Int} {p x : PN}, bdP m p → m * 2 ^ d ≤ 100000 → 0 ≤ m → x ∈ cutL d p → bdP (m * 2 ^ d) x
  | 0, m, p, x, h, _, _, hx => by simp [cutL] at hx; subst hx; simpa using h
  | d + 1, m, p, x, h, hm, h0, hx => by
    rw [cutL_quad, List.mem_flatMap] at hx
    obtain ⟨y, hy, hx⟩ := hx
    have hp : (0 : Int) < 2 ^ d := Int.pow_pos (by omega)
    have hle : m * 2 ^ d ≤ m * 2 ^ (d + 1) := Int.mul_le_mul_of_nonneg_left (by rw [Int.pow_succ]; omega) h0
    have := quad_bd (cutL_bd d h (by omega) h0 hy) (by omega) hx
    rw [Int.pow_succ, ← Int.mul_assoc, Int.mul_comm]; exact this
theorem flatMap_eq {α β : Type} {f g : α → List β} : ∀ {l : List α}, (∀ x ∈ l, f x = g x) → l.flatMap f = l.flatMap g
  | [], _ => rfl
  | x :: l, h => by rw [List.flatMap_cons, List.flatMap_cons, h x (by simp), flatMap_eq (fun y hy => h y (by simp [hy]))]
theorem refL_snoc : ∀ (n : Nat) (l : List PN), refL (n + 1) l = (refL n l).flatMap quadR
  | 0, l => rfl
  | n + 1, l => by rw [refL, refL_snoc n]; rfl
theorem cut_eq {p : PN} (hp : bdP 64 p) : ∀ d : Nat, d ≤ 9 → refL d [p] = cutL d p
  | 0, _ => rfl
  | d + 1, h => by
    rw [refL_snoc, cut_eq hp d (by omega), cutL_quad]
    have hle : (64 : Int) * 2 ^ d ≤ 100000 := by
      have h1 : (2 : Nat) ^ d ≤ 2 ^ 9 := Nat.pow_le_pow_right (by omega) (by omega)
      have h2 : (2 : Int) ^ d = ((2 ^ d : Nat) : Int) := by simp
      omega
    exact flatMap_eq (fun x hx => quad_eq ((cutL_bd d hp hle (by omega) hx).mono hle))
theorem cutR {p : PN} (hp : bdP 64 p) {d : Int} (h : 0 ≤ d ∧ d ≤ 3) : F178 p d = cutL d.toNat p := by
  rw [cut_refL p h.1, cut_eq hp _ (by omega)]

end Go.Proofs.YtnkeljlllagddaaGreat

namespace Go.Proofs.YtnkeljlllagddaaGreat
open Go.Proofs Go.Aw Go.RowKit
set_option maxRecDepth 100000
set_option linter.unusedVariables false
set_option linter.unusedSimpArgs false

/-- facet/field.cut -/
theorem C176 (a0 : (Int × Int × Int) × (Int × Int × Int) × Int × Int × Int) (a1 : Int) : Con Tryz.prog 176 [(.a (k9 a0)), (iv a1)] [] (.f 221 [(.p 0 0), (.p 1 0)]) [(.live true false (k9 a0)), (.live true false [(iv a1)])] := by
  refine con_of (n := 9) Tryz.func176 rfl (ent Tryz.func176 (by kernel_rfl) rfl) (by show 2 ≤ Tryz.f176.ntmps; decide) (by kernel_rfl) trivial (fun cx hcx => ?_)
  exact ret_of (T := T0) hT hm (f := 5000) (orc := []) [] [] [0, 1] hcx
    (obs := []) (by kernel_rfl) trivial

noncomputable def RA242_n_c221 : Code := match (codeAtD [1, 0, 1, 0] [] (Tryz.f242.body.getD .skip)).1 with
  | .rangeFunc _ _ a b => a
  | _ => .skip

noncomputable def RB242_n_c221 : Code := match (codeAtD [1, 0, 1, 0] [] (Tryz.f242.body.getD .skip)).1 with
  | .rangeFunc _ _ a b => b
  | _ => .skip

noncomputable def RK242_n_c221 : List K := (codeAtD [1, 0, 1, 0] [] (Tryz.f242.body.getD .skip)).2

/-- between two rounds of the range of slices.AppendSeq[[]facet/api.Panel,facet/api.Panel]; the variables: v1 = h2_0 -/
def st242_n_c221 (a1_0 : (Int × Int × Int) × (Int × Int × Int) × Int × Int × Int) (a1_1 : Int) : List ((Int × Int × Int) × (Int × Int × Int) × Int × Int × Int) → LS
  | v1 => ⟨[.u, .u, (.p 2 0), .u, .u, .u, (.f 221 [(.p 0 0), (.p 1 0)]), .u, .u, .u, .u, .u, .u], [(.live false false (k9 a1_0)), (.live false false [(iv a1_1)]), (.live true false [(.s 3 0 v1.length 9)]), (.live true true (flat c65 v1))]⟩

def sA242_n_c221 (a1_0 : (Int × Int × Int) × (Int × Int × Int) × Int × Int × Int) (a1_1 : Int) : List ((Int × Int × Int) × (Int × Int × Int) × Int × Int × Int) → (Int × Int × Int) × (Int × Int × Int) × Int × Int × Int → LS
  | v1, x => ⟨[.u, .u, (.p 2 0), .u, .u, (.p 3 0), .u, .u, .u, .u, .u, .u, .u], [(.live false false (k9 a1_0)), (.live false false [(iv a1_1)]), (.live true false [(.s 4 0 v1.length 9)]), (.live true false (k9 x)), (.live true true (flat c65 v1))]⟩

def S242_n_c221_r (a1_0 : (Int × Int × Int) × (Int × Int × Int) × Int × Int × Int) (a1_1 : Int) : List ((Int × Int × Int) × (Int × Int × Int) × Int × Int × Int) → (Int × Int × Int) × (Int × Int × Int) × Int × Int × Int → List ((Int × Int × Int) × (Int × Int × Int) × Int × Int × Int)
  | v1, x =>
   (v1 ++ [x])

def G242_n_c221 (a1_0 : (Int × Int × Int) × (Int × Int × Int) × Int × Int × Int) (a1_1 : Int) : List ((Int × Int × Int) × (Int × Int × Int) × Int × Int × Int) → List ((Int × Int × Int) × (Int × Int × Int) × Int × Int × Int)
  | v1 =>
   v1

def inv242_n_c221 (a1_0 : (Int × Int × Int) × (Int × Int × Int) × Int × Int × Int) (a1_1 : Int) : Nat → List ((Int × Int × Int) × (Int × Int × Int) × Int × Int × Int) → Prop
  | i, v1 => (v1.length = i)

/-- slices.AppendSeq[[]facet/api.Panel,facet/api.Panel] at ('n', 'c221') -/
def F242_n_c221 (a1_0 : (Int × Int × Int) × (Int × Int × Int) × Int × Int × Int) (a1_1 : Int) : List ((Int × Int × Int) × (Int × Int × Int) × Int × Int × Int) :=
  (G242_n_c221 a1_0 a1_1 ((cutL (Int.toNat a1_1) a1_0).foldl (S242_n_c221_r a1_0 a1_1) ([] : List ((Int × Int × Int) × (Int × Int × Int) × Int × Int × Int))))

theorem C242_n_c221 (a1_0 : (Int × Int × Int) × (Int × Int × Int) × Int × Int × Int) (a1_1 : Int) (ha : 0 ≤ a1_1 ∧ a1_1 ≤ 3) : Con Tryz.prog 242 [(.v (.slice none 0 0)), (.f 221 [(.p 0 0), (.p 1 0)])] [(.live false false (k9 a1_0)), (.live false false [(iv a1_1)])] (.s 2 0 (F242_n_c221 a1_0 a1_1).length 9) [(.live true true (flat c65 (F242_n_c221 a1_0 a1_1)))] := by
  have e : (F242_n_c221 a1_0 a1_1) = (G242_n_c221 a1_0 a1_1 ((cutL (Int.toNat a1_1) a1_0).foldl (S242_n_c221_r a1_0 a1_1) ([] : List ((Int × Int × Int) × (Int × Int × Int) × Int × Int × Int)))) := by simp only [F242_n_c221]
  rw [e]
  refine con_of_mark (n := 9) Tryz.func242 rfl (ent Tryz.func242 (by kernel_rfl) rfl) (by show 2 ≤ Tryz.f242.ntmps; decide) (by kernel_rfl) ⟨rfl, rfl, trivial⟩ (fun cx hcx => ?_)
  refine at_of (T := T0) hT hm (f := 5000) (orc := []) [.cell 2 0 9] [2, 6] [2, 3] hcx (x := .rangeFunc (.tmp 6) #[7] RA242_n_c221 RB242_n_c221) (k' := RK242_n_c221) (s' := st242_n_c221 a1_0 a1_1 ([] : List ((Int × Int × Int) × (Int × Int × Int) × Int × Int × Int)))
    (obs := []) (by kernel_rfl) trivial ?_
  refine range_of (xs := cutL (Int.toNat a1_1) a1_0) (enc := encP) (V := List ((Int × Int × Int) × (Int × Int × Int) × Int × Int × Int)) (R' := Empty) hcx rfl [0, 1] [(.p 0 0), (.p 1 0)] [(.live false false (k9 a1_0)), (.live false false [(iv a1_1)])] rfl rfl (iter_cutI a1_0 a1_1 (by first | omega | exact pair_le h0)) (fun x => SV.a (cP x)) encP_rel cP_has 3 (Nat.le_of_ble_eq_true rfl) (of_decide_eq_true (by kernel_rfl))
    (st242_n_c221 a1_0 a1_1) ([] : List ((Int × Int × Int) × (Int × Int × Int) × Int × Int × Int)) rfl (fun v1 => (by kernel_rfl)) (by kernel_rfl) (fun v v' => (roSub_ro (roSub_ro (roSub_own (roSub_own roSub_nil))))) (fun v1 => (by kernel_rfl)) (fun v1 => (by kernel_rfl)) (fun v1 => (Nat.le_of_ble_eq_true (by kernel_rfl)))
    (fun v x => .inl (S242_n_c221_r a1_0 a1_1 v x)) (fun r => r.elim) (fun v r => r.elim) (fun r => r.elim)
    (inv242_n_c221 a1_0 a1_1) (by simp [inv242_n_c221]) (sA242_n_c221 a1_0 a1_1) (fun v1 x => (by kernel_rfl)) (fun v1 x => (by kernel_rfl)) (fun v1 x => (Nat.le_of_ble_eq_true (by kernel_rfl)))
    (fun cx' l i v1 x QA hcx' hx hinv hg => norm_of (T := T0) hT hm (f := 5000) (orc := []) [] [2, 5] [4, 3] hcx' (obs := []) (by kernel_rfl) trivial hg)
    (fun cx' l i v1 x QB hcx' hx hinv hb1 hb2 => ?_) (fun cx' d v1 hh hv hinv => ?_) (fun cx' d r hh hv => ?_)
  · show Aw.Good _ _ _ _ _ _ _ (sA242_n_c221 a1_0 a1_1 v1 x)
    simp only [inv242_n_c221] at hinv
    have hlt := cut_lt ha hx
    have e : (Sum.inl (S242_n_c221_r a1_0 a1_1 v1 x) : (List ((Int × Int × Int) × (Int × Int × Int) × Int × Int × Int)) ⊕ Empty) = .inl (v1 ++ [x]) := by simp only [S242_n_c221_r]
    refine norm_of (T := T0) hT hm (f := 5000) (orc := []) [] [] [6] hcx' (s' := ⟨List.replicate 13 .u, [(.live false false (k9 a1_0)), (.live false false [(iv a1_1)]), (.live true false [(.s 3 0 (v1.length + 1) 9)]), (.live true true (flat c65 v1 ++ (k9 x)))]⟩)
      (obs := [.pr ((flat c65 v1).length = v1.length * 9 ∧ v1.length + 1 ≤ 2 ^ 40 ∧ (v1.length + 1) * 72 ≤ 2 ^ 47)]) (by kernel_rfl) ⟨(app_ok c65_len (by omega) (by omega)), trivial⟩ ?_
    have z0 : (flat c65 v1 ++ (k9 x)) = (flat c65 (v1 ++ [x])) := (flat_append (c := c65) (l := v1) (m := [x])).symm
    have z1 : (v1.length + 1) = (v1 ++ [x]).length := len_app v1 [x] rfl
    rw [z0, z1]
    exact hb1 _ e (by simp only [inv242_n_c221, List.length_append, List.length_cons, List.length_nil]; omega)
  · rw [runL_foldl, Sum.inl.injEq] at hv; rw [hv]
    show Aw.Good _ _ _ _ _ _ _ (st242_n_c221 a1_0 a1_1 v1)
    simp only [inv242_n_c221] at hinv
    have e : G242_n_c221 a1_0 a1_1 v1 = v1 := by simp only [G242_n_c221]
    rw [e]
    exact retH_of (T := T0) hT hm (f := 5000) (orc := []) [] [] [3] hh hcx
      (obs := []) (by kernel_rfl) trivial
  · exact r.elim

/-- slices.Collect[facet/api.Panel] at ('c221',) -/
def F226_c221 (a0_0 : (Int × Int × Int) × (Int × Int × Int) × Int × Int × Int) (a0_1 : Int) : List ((Int × Int × Int) × (Int × Int × Int) × Int × Int × Int) :=
  (F242_n_c221 a0_0 a0_1)

theorem C226_c221 (a0_0 : (Int × Int × Int) × (Int × Int × Int) × Int × Int × Int) (a0_1 : Int) (ha : 0 ≤ a0_1 ∧ a0_1 ≤ 3) : Con Tryz.prog 226 [(.f 221 [(.p 0 0), (.p 1 0)])] [(.live false false (k9 a0_0)), (.live false false [(iv a0_1)])] (.s 2 0 (F226_c221 a0_0 a0_1).length 9) [(.live true true (flat c65 (F226_c221 a0_0 a0_1)))] := by
  have e : (F226_c221 a0_0 a0_1) = (F242_n_c221 a0_0 a0_1) := by simp only [F226_c221]
  rw [e]
  refine con_of (n := 9) Tryz.func226 rfl (ent Tryz.func226 (by kernel_rfl) rfl) (by show 1 ≤ Tryz.f226.ntmps; decide) (by kernel_rfl) ⟨rfl, rfl, trivial⟩ (fun cx hcx => ?_)
  exact ret_of (T := T0) hT hm (f := 5000) (orc := [.call [0, 1] (.s 2 0 (F242_n_c221 a0_0 a0_1).length 9) [(.live true true (flat c65 (F242_n_c221 a0_0 a0_1)))]]) [] [] [2] hcx
    (obs := [.call 242 [(.v (.slice none 0 0)), (.f 221 [(.p 0 0), (.p 1 0)])] [(.live false false (k9 a0_0)), (.live false false [(iv a0_1)])] (.s 2 0 (F242_n_c221 a0_0 a0_1).length 9) [(.live true true (flat c65 (F242_n_c221 a0_0 a0_1)))]]) (by kernel_rfl) ⟨(C242_n_c221 a0_0 a0_1  (by (try simp only [List.length_append, List.length_cons, List.length_nil, Int.toNat_zero]); omega)), trivial⟩

/-- facet/field.corners -/
def F196 (a0 : (Int × Int × Int) × (Int × Int × Int) × Int × Int × Int) : (Int × Int × Int) × (Int × Int × Int) × Int × Int × Int :=
  a0

theorem C196 (a0 : (Int × Int × Int) × (Int × Int × Int) × Int × Int × Int) : Con Tryz.prog 196 [(.a (k9 a0))] [] (.a (k9 (F196 a0))) [] := by
  have e : (F196 a0) = a0 := by simp only [F196]
  rw [e]
  refine con_of (n := 9) Tryz.func196 rfl (ent Tryz.func196 (by kernel_rfl) rfl) (by show 1 ≤ Tryz.f196.ntmps; decide) (by kernel_rfl) trivial (fun cx hcx => ?_)
  exact ret_of (T := T0) hT hm (f := 5000) (orc := []) [] [] [] hcx
    (obs := []) (by kernel_rfl) trivial

/-- facet/field.average -/
def F199 (a0 : Int) (a1 : Int) (a2 : Int) : Int × Int :=
  (F146 (a0, a1) a2).1

theorem C199 (a0 : Int) (a1 : Int) (a2 : Int) : Con Tryz.prog 199 [(iv a0), (iv a1), (iv a2)] [] (.a (k2 (F199 a0 a1 a2))) [] := by
  have e : (F199 a0 a1 a2) = (F146 (a0, a1) a2).1 := by simp only [F199]
  rw [e]
  refine con_of (n := 9) Tryz.func199 rfl (ent Tryz.func199 (by kernel_rfl) rfl) (by show 3 ≤ Tryz.f199.ntmps; decide) (by kernel_rfl) trivial (fun cx hcx => ?_)
  exact ret_of (T := T0) hT hm (f := 5000) (orc := [.call [] (.t [(.a (k2 (F146 (a0, a1) a2).1)), (iv (F146 (a0, a1) a2).2)]) []]) [] [] [] hcx
    (obs := [.call 146 [(.a [(iv a0), (iv a1)]), (iv a2)] [] (.t [(.a (k2 (F146 (a0, a1) a2).1)), (iv (F146 (a0, a1) a2).2)]) []]) (by kernel_rfl) ⟨(C146 (a0, a1) a2), trivial⟩

noncomputable def RA129_f130 : Code := match (codeAtD [1, 1, 1, 1, 0, 1, 0] [] (Tryz.f129.body.getD .skip)).1 with
  | .rangeFunc _ _ a b => a
  | _ => .skip

noncomputable def RB129_f130 : Code := match (codeAtD [1, 1, 1, 1, 0, 1, 0] [] (Tryz.f129.body.getD .skip)).1 with
  | .rangeFunc _ _ a b => b
  | _ => .skip

noncomputable def RK129_f130 : List K := (codeAtD [1, 1, 1, 1, 0, 1, 0] [] (Tryz.f129.body.getD .skip)).2

/-- between two rounds of the range of facet/field.mean; the variables: v1 = h5_0, v2 = h6_0 -/
def st129_f130 (a0 : (Int × Int × Int) × (Int × Int × Int) × Int × Int × Int) (a1 : Int × Int × Int) (a2 : Int) : Int × Int → LS
  | (v1, v2) => ⟨[.u, .u, (iv a2), .u, .u, .u, .u, (.p 0 0), (.p 1 0), (.p 2 0), (.p 3 0), (.p 4 0), (.p 5 0), (.p 6 0), .u, .u, .u, .u, .u, .u, .u, .u, .u, .u, .u, .u, .u, .u, .u, (.f 221 [(.p 7 0), (.p 8 0)]), .u, .u, .u, .u, .u, .u, .u, .u, .u, .u, .u, .u, .u, .u, .u, .u, .u, .u, .u, .u, .u, .u, .u, .u, .u, .u, .u, .u, .u, .u, .u, .u, .u, .u, .u, .u, .u, .u, .u], [(.live true false [(.v (.func (.func 130) #[] #[]))]), (.live true false [(iv 0), (iv 0)]), (.live true false [(iv 0)]), (.live true false [(iv (W (1 * 2 ^ (min (Int.toNat a2) 64))))]), (.live true false [(.s 9 0 1 3)]), (.live true false [(iv v1)]), (.live true false [(iv v2)]), (.live true false (k9 a0)), (.live true false [(iv a2)]), (.live true false (k3 (F170 a1 (W (1 * 2 ^ (min (Int.toNat a2) 64))))))]⟩

def sA129_f130 (a0 : (Int × Int × Int) × (Int × Int × Int) × Int × Int × Int) (a1 : Int × Int × Int) (a2 : Int) : Int × Int → (Int × Int × Int) × (Int × Int × Int) × Int × Int × Int → LS
  | (v1, v2), x => ⟨[.u, .u, .u, .u, .u, .u, .u, (.p 0 0), (.p 1 0), (.p 2 0), (.p 3 0), (.p 4 0), (.p 5 0), (.p 6 0), (.p 10 0), .u, .u, .u, .u, .u, .u, .u, .u, .u, .u, .u, .u, .u, .u, .u, .u, .u, .u, .u, .u, .u, .u, .u, .u, .u, .u, .u, .u, .u, .u, .u, .u, .u, .u, .u, .u, .u, .u, .u, .u, .u, .u, .u, .u, .u, .u, .u, .u, .u, .u, .u, .u, .u, .u], [(.live true false [(.v (.func (.func 130) #[] #[]))]), (.live true false [(iv 0), (iv 0)]), (.live true false [(iv 0)]), (.live true false [(iv (W (1 * 2 ^ (min (Int.toNat a2) 64))))]), (.live true false [(.s 9 0 1 3)]), (.live true false [(iv v1)]), (.live true false [(iv v2)]), (.live true false (k9 a0)), (.live true false [(iv a2)]), (.live true false (k3 (F170 a1 (W (1 * 2 ^ (min (Int.toNat a2) 64)))))), (.live true false (k9 x))]⟩

def str129_f130 (a0 : (Int × Int × Int) × (Int × Int × Int) × Int × Int × Int) (a1 : Int × Int × Int) (a2 : Int) (r : (Int × Int) × Int) : LS := ⟨[], [.dead, (.live true false [(iv r.1.1), (iv r.1.2)]), (.live true false [(iv r.2)]), .dead, .dead, .dead, .dead, .dead, .dead, .dead]⟩

def S129_f130_r (a0 : (Int × Int × Int) × (Int × Int × Int) × Int × Int × Int) (a1 : Int × Int × Int) (a2 : Int) : Int × Int → (Int × Int × Int) × (Int × Int × Int) × Int × Int × Int → (Int × Int) ⊕ ((Int × Int) × Int)
  | (v1, v2), x =>
   (bif (((F197_3_1 (F196 x) (F170 a1 (W (1 * 2 ^ (min (Int.toNat a2) 64))))) : Int) == 0) then
    (.inr ((0, 0), 10))
   else
    (.inl ((W (v1 + (F130 (F198_L_L ([(F196 x).1, (F196 x).2.1, (F196 x).2.2] : List (Int × Int × Int)) ([(F170 a1 (W (1 * 2 ^ (min (Int.toNat a2) 64))))] : List (Int × Int × Int))) (W (1 * 2 ^ (min (Int.toNat a2) 64)))).1.1)), (W (v2 + (F130 (F197_3_1 (F196 x) (F170 a1 (W (1 * 2 ^ (min (Int.toNat a2) 64))))) (W (1 * 2 ^ (min (Int.toNat a2) 64)))).1.2)))))

def G129_f130 (a0 : (Int × Int × Int) × (Int × Int × Int) × Int × Int × Int) (a1 : Int × Int × Int) (a2 : Int) : Int × Int → (Int × Int) × Int
  | (v1, v2) =>
   ((F199 v1 v2 (W (1 * 2 ^ (min (Int.toNat (W (2 * a2))) 64)))), 0)

/-- facet/field.mean at ('f130',) -/
def F129_f130 (a0 : (Int × Int × Int) × (Int × Int × Int) × Int × Int × Int) (a1 : Int × Int × Int) (a2 : Int) : (Int × Int) × Int :=
  (thenL (G129_f130 a0 a1 a2) (runL (S129_f130_r a0 a1 a2) (cutL (Int.toNat a2) a0) (0, 0)))

theorem C129_f130 (a0 : (Int × Int × Int) × (Int × Int × Int) × Int × Int × Int) (a1 : Int × Int × Int) (a2 : Int) (ha : 0 ≤ a2 ∧ a2 ≤ 3) : Con Tryz.prog 129 [(.a (k9 a0)), (.a (k3 a1)), (iv a2), (.v (.func (.func 130) #[] #[]))] [] (.t [(.a (k2 (F129_f130 a0 a1 a2).1)), (iv (F129_f130 a0 a1 a2).2)]) [] := by
  have e : (F129_f130 a0 a1 a2) = (thenL (G129_f130 a0 a1 a2) (runL (S129_f130_r a0 a1 a2) (cutL (Int.toNat a2) a0) (0, 0))) := by simp only [F129_f130]
  rw [e]
  refine con_of_mark (n := 9) Tryz.func129 rfl (ent Tryz.func129 (by kernel_rfl) rfl) (by show 4 ≤ Tryz.f129.ntmps; decide) (by kernel_rfl) trivial (fun cx hcx => ?_)
  refine at_of (T := T0) hT hm (f := 5000) (orc := [.call [] (.a (k3 (F170 a1 (W (1 * 2 ^ (min (Int.toNat a2) 64)))))) [], .call [] (.f 221 [(.p 0 0), (.p 1 0)]) [(.live true false (k9 a0)), (.live true false [(iv a2)])]]) [] [2, 7, 8, 9, 10, 11, 12, 13, 29] [2, 3, 4, 5, 7, 8, 9, 10, 11, 6] hcx (x := .rangeFunc (.tmp 29) #[30] RA129_f130 RB129_f130) (k' := RK129_f130) (s' := st129_f130 a0 a1 a2 (0, 0))
    (obs := [.pr (0 ≤ (a2 : Int)), .call 170 [(.a (k3 a1)), (iv (W (1 * 2 ^ (min (Int.toNat a2) 64))))] [] (.a (k3 (F170 a1 (W (1 * 2 ^ (min (Int.toNat a2) 64)))))) [], .call 176 [(.a (k9 a0)), (iv a2)] [] (.f 221 [(.p 0 0), (.p 1 0)]) [(.live true false (k9 a0)), (.live true false [(iv a2)])]]) (by kernel_rfl) ⟨(show 0 ≤ (a2 : Int) from by first | omega | (rw [W_eq] <;> omega) | exact u64_nn _), (C170 a1 (W (1 * 2 ^ (min (Int.toNat a2) 64)))), (C176 a0 a2), trivial⟩ ?_
  refine range_of (xs := cutL (Int.toNat a2) a0) (enc := encP) (V := Int × Int) (R' := ((Int × Int) × Int)) hcx rfl [7, 8] [(.p 0 0), (.p 1 0)] [(.live false false (k9 a0)), (.live false false [(iv a2)])] rfl rfl (iter_cutI a0 a2 (by first | omega | exact pair_le h0)) (fun x => SV.a (cP x)) encP_rel cP_has 10 (Nat.le_of_ble_eq_true rfl) (of_decide_eq_true (by kernel_rfl))
    (st129_f130 a0 a1 a2) (0, 0) rfl (fun ⟨v1, v2⟩ => (by kernel_rfl)) (by kernel_rfl) (fun v v' => (roSub_own (roSub_own (roSub_own (roSub_own (roSub_own (roSub_own (roSub_own (roSub_own (roSub_own (roSub_own roSub_nil))))))))))) (fun ⟨v1, v2⟩ => (by kernel_rfl)) (fun ⟨v1, v2⟩ => (by kernel_rfl)) (fun ⟨v1, v2⟩ => (Nat.le_of_ble_eq_true (by kernel_rfl)))
    (S129_f130_r a0 a1 a2) (str129_f130 a0 a1 a2) (fun v r => (roSub_dead (roSub_own (roSub_own (roSub_dead (roSub_dead (roSub_dead (roSub_dead (roSub_dead (roSub_dead (roSub_dead roSub_nil))))))))))) (fun r => (by kernel_rfl))
    (fun _ _ => True) trivial (sA129_f130 a0 a1 a2) (fun ⟨v1, v2⟩ x => (by kernel_rfl)) (fun ⟨v1, v2⟩ x => (by kernel_rfl)) (fun ⟨v1, v2⟩ x => (Nat.le_of_ble_eq_true (by kernel_rfl)))
    (fun cx' l i ⟨v1, v2⟩ x QA hcx' hx hinv hg => norm_of (T := T0) hT hm (f := 5000) (orc := []) [] [7, 8, 9, 10, 11, 12, 13, 14] [10] hcx' (obs := []) (by kernel_rfl) trivial hg)
    (fun cx' l i ⟨v1, v2⟩ x QB hcx' hx hinv hb1 hb2 => ?_) (fun cx' d ⟨v1, v2⟩ hh hv hinv => ?_) (fun cx' d r hh hv => ?_)
  · show Aw.Good _ _ _ _ _ _ _ (sA129_f130 a0 a1 a2 (v1, v2) x)
    cases h0 : (((F197_3_1 (F196 x) (F170 a1 (W (1 * 2 ^ (min (Int.toNat a2) 64))))) : Int) == 0) with
    | true =>
      have q0 := eq_of_beq h0
      have e : S129_f130_r a0 a1 a2 (v1, v2) x = (.inr ((0, 0), 10)) := by simp only [S129_f130_r, h0, cond_true, cond_false]
      exact rets_of (T := T0) hT hm (f := 5000) (orc := [.call [] (.a (k9 (F196 x))) [], .call [11, 9] (iv (F197_3_1 (F196 x) (F170 a1 (W (1 * 2 ^ (min (Int.toNat a2) 64)))))) [], .d true]) [.kill 0, .kill 3, .kill 4, .kill 5, .kill 6, .kill 7, .kill 8, .kill 9] [] [] hcx' (s' := ⟨List.replicate 69 .u, (str129_f130 a0 a1 a2 ((0, 0), 10)).bk⟩)
        (obs := [.call 196 [(.a (k9 x))] [] (.a (k9 (F196 x))) [], .call 197 [(.s 0 0 3 3), (.s 1 0 1 3)] [(.live false false (k9 (F196 x))), (.live false false (k3 (F170 a1 (W (1 * 2 ^ (min (Int.toNat a2) 64))))))] (iv (F197_3_1 (F196 x) (F170 a1 (W (1 * 2 ^ (min (Int.toNat a2) 64)))))) [], .eq (((F197_3_1 (F196 x) (F170 a1 (W (1 * 2 ^ (min (Int.toNat a2) 64))))) : Int) == 0) true]) (by kernel_rfl) ⟨(C196 x), (C197_3_1 (F196 x) (F170 a1 (W (1 * 2 ^ (min (Int.toNat a2) 64))))), h0, trivial⟩ (hb2 _ e)
    | false =>
      have q0 := ne_of_beq_false h0
      have e : S129_f130_r a0 a1 a2 (v1, v2) x = (.inl ((W (v1 + (F130 (F198_L_L ([(F196 x).1, (F196 x).2.1, (F196 x).2.2] : List (Int × Int × Int)) ([(F170 a1 (W (1 * 2 ^ (min (Int.toNat a2) 64))))] : List (Int × Int × Int))) (W (1 * 2 ^ (min (Int.toNat a2) 64)))).1.1)), (W (v2 + (F130 (F197_3_1 (F196 x) (F170 a1 (W (1 * 2 ^ (min (Int.toNat a2) 64))))) (W (1 * 2 ^ (min (Int.toNat a2) 64)))).1.2)))) := by simp only [S129_f130_r, h0, cond_true, cond_false]
      refine norm_of (T := T0) hT hm (f := 5000) (orc := [.call [] (.a (k9 (F196 x))) [], .call [11, 9] (iv (F197_3_1 (F196 x) (F170 a1 (W (1 * 2 ^ (min (Int.toNat a2) 64)))))) [], .d false, .call [11, 9] (iv (F198_L_L ([(F196 x).1, (F196 x).2.1, (F196 x).2.2] : List (Int × Int × Int)) ([(F170 a1 (W (1 * 2 ^ (min (Int.toNat a2) 64))))] : List (Int × Int × Int)))) [], .call [] (.t [(.a (k2 (F130 (F198_L_L ([(F196 x).1, (F196 x).2.1, (F196 x).2.2] : List (Int × Int × Int)) ([(F170 a1 (W (1 * 2 ^ (min (Int.toNat a2) 64))))] : List (Int × Int × Int))) (W (1 * 2 ^ (min (Int.toNat a2) 64)))).1)), (iv (F130 (F198_L_L ([(F196 x).1, (F196 x).2.1, (F196 x).2.2] : List (Int × Int × Int)) ([(F170 a1 (W (1 * 2 ^ (min (Int.toNat a2) 64))))] : List (Int × Int × Int))) (W (1 * 2 ^ (min (Int.toNat a2) 64)))).2)]) [], .call [] (.t [(.a (k2 (F130 (F197_3_1 (F196 x) (F170 a1 (W (1 * 2 ^ (min (Int.toNat a2) 64))))) (W (1 * 2 ^ (min (Int.toNat a2) 64)))).1)), (iv (F130 (F197_3_1 (F196 x) (F170 a1 (W (1 * 2 ^ (min (Int.toNat a2) 64))))) (W (1 * 2 ^ (min (Int.toNat a2) 64)))).2)]) []]) [] [] [] hcx' (s' := ⟨List.replicate 69 .u, [(.live true false [(.v (.func (.func 130) #[] #[]))]), (.live true false [(iv 0), (iv 0)]), (.live true false [(iv 0)]), (.live true false [(iv (W (1 * 2 ^ (min (Int.toNat a2) 64))))]), (.live true false [(.s 9 0 1 3)]), (.live true false [(iv (W (v1 + (F130 (F198_L_L ([(F196 x).1, (F196 x).2.1, (F196 x).2.2] : List (Int × Int × Int)) ([(F170 a1 (W (1 * 2 ^ (min (Int.toNat a2) 64))))] : List (Int × Int × Int))) (W (1 * 2 ^ (min (Int.toNat a2) 64)))).1.1)))]), (.live true false [(iv (W (v2 + (F130 (F197_3_1 (F196 x) (F170 a1 (W (1 * 2 ^ (min (Int.toNat a2) 64))))) (W (1 * 2 ^ (min (Int.toNat a2) 64)))).1.2)))]), (.live true false (k9 a0)), (.live true false [(iv a2)]), (.live true false (k3 (F170 a1 (W (1 * 2 ^ (min (Int.toNat a2) 64))))))]⟩)
        (obs := [.call 196 [(.a (k9 x))] [] (.a (k9 (F196 x))) [], .call 197 [(.s 0 0 3 3), (.s 1 0 1 3)] [(.live false false (k9 (F196 x))), (.live false false (k3 (F170 a1 (W (1 * 2 ^ (min (Int.toNat a2) 64))))))] (iv (F197_3_1 (F196 x) (F170 a1 (W (1 * 2 ^ (min (Int.toNat a2) 64)))))) [], .eq (((F197_3_1 (F196 x) (F170 a1 (W (1 * 2 ^ (min (Int.toNat a2) 64))))) : Int) == 0) false, .call 198 [(.s 0 0 3 3), (.s 1 0 1 3)] [(.live false false (k9 (F196 x))), (.live false false (k3 (F170 a1 (W (1 * 2 ^ (min (Int.toNat a2) 64))))))] (iv (F198_L_L ([(F196 x).1, (F196 x).2.1, (F196 x).2.2] : List (Int × Int × Int)) ([(F170 a1 (W (1 * 2 ^ (min (Int.toNat a2) 64))))] : List (Int × Int × Int)))) [], .call 130 [(iv (F198_L_L ([(F196 x).1, (F196 x).2.1, (F196 x).2.2] : List (Int × Int × Int)) ([(F170 a1 (W (1 * 2 ^ (min (Int.toNat a2) 64))))] : List (Int × Int × Int)))), (iv (W (1 * 2 ^ (min (Int.toNat a2) 64))))] [] (.t [(.a (k2 (F130 (F198_L_L ([(F196 x).1, (F196 x).2.1, (F196 x).2.2] : List (Int × Int × Int)) ([(F170 a1 (W (1 * 2 ^ (min (Int.toNat a2) 64))))] : List (Int × Int × Int))) (W (1 * 2 ^ (min (Int.toNat a2) 64)))).1)), (iv (F130 (F198_L_L ([(F196 x).1, (F196 x).2.1, (F196 x).2.2] : List (Int × Int × Int)) ([(F170 a1 (W (1 * 2 ^ (min (Int.toNat a2) 64))))] : List (Int × Int × Int))) (W (1 * 2 ^ (min (Int.toNat a2) 64)))).2)]) [], .call 130 [(iv (F197_3_1 (F196 x) (F170 a1 (W (1 * 2 ^ (min (Int.toNat a2) 64)))))), (iv (W (1 * 2 ^ (min (Int.toNat a2) 64))))] [] (.t [(.a (k2 (F130 (F197_3_1 (F196 x) (F170 a1 (W (1 * 2 ^ (min (Int.toNat a2) 64))))) (W (1 * 2 ^ (min (Int.toNat a2) 64)))).1)), (iv (F130 (F197_3_1 (F196 x) (F170 a1 (W (1 * 2 ^ (min (Int.toNat a2) 64))))) (W (1 * 2 ^ (min (Int.toNat a2) 64)))).2)]) []]) (by kernel_rfl) ⟨(C196 x), (C197_3_1 (F196 x) (F170 a1 (W (1 * 2 ^ (min (Int.toNat a2) 64))))), h0, (Con.flags (C198_L_L ([(F196 x).1, (F196 x).2.1, (F196 x).2.2] : List (Int × Int × Int)) ([(F170 a1 (W (1 * 2 ^ (min (Int.toNat a2) 64))))] : List (Int × Int × Int)) (by (try simp only [List.length_append, List.length_cons, List.length_nil, Int.toNat_zero]); omega) (by (try simp only [List.length_append, List.length_cons, List.length_nil, Int.toNat_zero]); omega)) rfl ⟨flat_plain (fun _ => rfl), flat_plain (fun _ => rfl), trivial⟩), (C130 (F198_L_L ([(F196 x).1, (F196 x).2.1, (F196 x).2.2] : List (Int × Int × Int)) ([(F170 a1 (W (1 * 2 ^ (min (Int.toNat a2) 64))))] : List (Int × Int × Int))) (W (1 * 2 ^ (min (Int.toNat a2) 64)))), (C130 (F197_3_1 (F196 x) (F170 a1 (W (1 * 2 ^ (min (Int.toNat a2) 64))))) (W (1 * 2 ^ (min (Int.toNat a2) 64)))), trivial⟩ ?_
      exact hb1 _ e trivial
  · rw [hv]
    show Aw.Good _ _ _ _ _ _ _ (st129_f130 a0 a1 a2 (v1, v2))
    have e : thenL (G129_f130 a0 a1 a2) (Sum.inl (v1, v2)) = ((F199 v1 v2 (W (1 * 2 ^ (min (Int.toNat (W (2 * a2))) 64)))), 0) := by simp only [thenL, G129_f130]
    rw [e]
    exact retH_of (T := T0) hT hm (f := 5000) (orc := [.call [] (.a (k2 (F199 v1 v2 (W (1 * 2 ^ (min (Int.toNat (W (2 * a2))) 64)))))) []]) [] [] [] hh hcx
      (obs := [.pr (0 ≤ ((W (2 * a2)) : Int)), .call 199 [(iv v1), (iv v2), (iv (W (1 * 2 ^ (min (Int.toNat (W (2 * a2))) 64))))] [] (.a (k2 (F199 v1 v2 (W (1 * 2 ^ (min (Int.toNat (W (2 * a2))) 64)))))) []]) (by kernel_rfl) ⟨(show 0 ≤ ((W (2 * a2)) : Int) from by first | omega | (rw [W_eq] <;> omega) | exact u64_nn _), (C199 v1 v2 (W (1 * 2 ^ (min (Int.toNat (W (2 * a2))) 64)))), trivial⟩
  · rw [hv]
    exact finH_of (T := T0) hT [] [] [] (s' := ⟨[.u, .u, (iv a2), .u, .u, .u, .u, (.p 0 0), (.p 1 0), (.p 2 0), (.p 3 0), (.p 4 0), (.p 5 0), (.p 6 0), .u, .u, .u, .u, .u, .u, .u, .u, .u, .u, .u, .u, .u, .u, .u, (.f 221 [(.p 7 0), (.p 8 0)]), .u, .u, .u, .u, .u, .u, .u, .u, .u, .u, .u, .u, .u, .u, .u, .u, .u, .u, .u, .u, .u, .u, .u, .u, .u, .u, .u, .u, .u, .u, .u, .u, .u, .u, .u, .u, .u, .u, .u], (str129_f130 a0 a1 a2 r).bk⟩) rfl hh hcx (by kernel_rfl)

end Go.Proofs.YtnkeljlllagddaaGreat

namespace Go.Proofs.YtnkeljlllagddaaGreat
open Go.Proofs Go.Aw Go.RowKit
set_option maxRecDepth 100000
set_option linter.unusedVariables false
set_option linter.unusedSimpArgs false

/-- facet/facetref01.Cube -/
def F204 (a0 : Int) (a1 : Int) : (Int × Int) × Int :=
  (bif (!(F137 a0 1 1099511627776)) then
   ((0, 0), 1)
  else
   (bif (!(F137 a1 1 8)) then
    ((0, 0), 1)
   else
    (bif (decide ((a0 : Int) > 1048576)) then
     ((F138 0 1).1, (F138 0 1).2)
    else
     ((F236 (W ((W ((W (1048576 * (W ((W (a1 * a1)) * a1)))) * 1048576)) * (W ((W (a1 * a1)) * a1)))) (W ((W (a0 * a0)) * a0))).1, (F236 (W ((W ((W (1048576 * (W ((W (a1 * a1)) * a1)))) * 1048576)) * (W ((W (a1 * a1)) * a1)))) (W ((W (a0 * a0)) * a0))).2))))

noncomputable def oC204_0 (a0 : Int) : Ob := .call 137 [(iv a0), (iv 1), (iv 1099511627776)] [] (.v (.bool (F137 a0 1 1099511627776))) []
theorem C204 (a0 : Int) (a1 : Int) : Con Tryz.prog 204 [(iv a0), (iv a1)] [] (.t [(.a (k2 (F204 a0 a1).1)), (iv (F204 a0 a1).2)]) [] := by
  cases h0 : (!(F137 a0 1 1099511627776)) with
  | true =>
    have e : (F204 a0 a1) = ((0, 0), 1) := by simp only [F204, h0, cond_true, cond_false]
    rw [e]
    refine con_of (n := 9) Tryz.func204 rfl (ent Tryz.func204 (by kernel_rfl) rfl) (by show 2 ≤ Tryz.f204.ntmps; decide) (by kernel_rfl) trivial (fun cx hcx => ?_)
    exact ret_of (T := T0) hT hm (f := 5000) (orc := [.call [] (.v (.bool (F137 a0 1 1099511627776))) [], .d true]) [] [] [] hcx
      (obs := [(oC204_0 a0), .eq (!(F137 a0 1 1099511627776)) true]) (by kernel_rfl) ⟨(C137 a0 1 1099511627776), h0, trivial⟩
  | false =>
    cases h1 : (!(F137 a1 1 8)) with
    | true =>
      have e : (F204 a0 a1) = ((0, 0), 1) := by simp only [F204, h0, h1, cond_true, cond_false]
      rw [e]
      refine con_of (n := 9) Tryz.func204 rfl (ent Tryz.func204 (by kernel_rfl) rfl) (by show 2 ≤ Tryz.f204.ntmps; decide) (by kernel_rfl) trivial (fun cx hcx => ?_)
      exact ret_of (T := T0) hT hm (f := 5000) (orc := [.call [] (.v (.bool (F137 a0 1 1099511627776))) [], .d false, .call [] (.v (.bool (F137 a1 1 8))) [], .d true]) [] [] [] hcx
        (obs := [(oC204_0 a0), .eq (!(F137 a0 1 1099511627776)) false, .call 137 [(iv a1), (iv 1), (iv 8)] [] (.v (.bool (F137 a1 1 8))) [], .eq (!(F137 a1 1 8)) true]) (by kernel_rfl) ⟨(C137 a0 1 1099511627776), h0, (C137 a1 1 8), h1, trivial⟩
    | false =>
      cases h2 : (decide ((a0 : Int) > 1048576)) with
      | true =>
        have q2 := of_decide_eq_true h2
        have e : (F204 a0 a1) = ((F138 0 1).1, (F138 0 1).2) := by simp only [F204, h0, h1, h2, cond_true, cond_false]
        rw [e]
        refine con_of (n := 9) Tryz.func204 rfl (ent Tryz.func204 (by kernel_rfl) rfl) (by show 2 ≤ Tryz.f204.ntmps; decide) (by kernel_rfl) trivial (fun cx hcx => ?_)
        exact ret_of (T := T0) hT hm (f := 5000) (orc := [.call [] (.v (.bool (F137 a0 1 1099511627776))) [], .d false, .call [] (.v (.bool (F137 a1 1 8))) [], .d false, .d true, .call [] (.t [(.a (k2 (F138 0 1).1)), (iv (F138 0 1).2)]) []]) [] [] [] hcx
          (obs := [(oC204_0 a0), .eq (!(F137 a0 1 1099511627776)) false, .call 137 [(iv a1), (iv 1), (iv 8)] [] (.v (.bool (F137 a1 1 8))) [], .eq (!(F137 a1 1 8)) false, .eq (decide ((a0 : Int) > 1048576)) true, .call 138 [(iv 0), (iv 1)] [] (.t [(.a (k2 (F138 0 1).1)), (iv (F138 0 1).2)]) []]) (by kernel_rfl) ⟨(C137 a0 1 1099511627776), h0, (C137 a1 1 8), h1, h2, (C138 0 1), trivial⟩
      | false =>
        have q2 := of_decide_eq_false h2
        have e : (F204 a0 a1) = ((F236 (W ((W ((W (1048576 * (W ((W (a1 * a1)) * a1)))) * 1048576)) * (W ((W (a1 * a1)) * a1)))) (W ((W (a0 * a0)) * a0))).1, (F236 (W ((W ((W (1048576 * (W ((W (a1 * a1)) * a1)))) * 1048576)) * (W ((W (a1 * a1)) * a1)))) (W ((W (a0 * a0)) * a0))).2) := by simp only [F204, h0, h1, h2, cond_true, cond_false]
        rw [e]
        refine con_of (n := 9) Tryz.func204 rfl (ent Tryz.func204 (by kernel_rfl) rfl) (by show 2 ≤ Tryz.f204.ntmps; decide) (by kernel_rfl) trivial (fun cx hcx => ?_)
        exact ret_of (T := T0) hT hm (f := 5000) (orc := [.call [] (.v (.bool (F137 a0 1 1099511627776))) [], .d false, .call [] (.v (.bool (F137 a1 1 8))) [], .d false, .d false, .call [] (.t [(.a (k2 (F236 (W ((W ((W (1048576 * (W ((W (a1 * a1)) * a1)))) * 1048576)) * (W ((W (a1 * a1)) * a1)))) (W ((W (a0 * a0)) * a0))).1)), (iv (F236 (W ((W ((W (1048576 * (W ((W (a1 * a1)) * a1)))) * 1048576)) * (W ((W (a1 * a1)) * a1)))) (W ((W (a0 * a0)) * a0))).2)]) []]) [] [] [] hcx
          (obs := [(oC204_0 a0), .eq (!(F137 a0 1 1099511627776)) false, .call 137 [(iv a1), (iv 1), (iv 8)] [] (.v (.bool (F137 a1 1 8))) [], .eq (!(F137 a1 1 8)) false, .eq (decide ((a0 : Int) > 1048576)) false, .call 236 [(iv (W ((W ((W (1048576 * (W ((W (a1 * a1)) * a1)))) * 1048576)) * (W ((W (a1 * a1)) * a1))))), (iv (W ((W (a0 * a0)) * a0)))] [] (.t [(.a (k2 (F236 (W ((W ((W (1048576 * (W ((W (a1 * a1)) * a1)))) * 1048576)) * (W ((W (a1 * a1)) * a1)))) (W ((W (a0 * a0)) * a0))).1)), (iv (F236 (W ((W ((W (1048576 * (W ((W (a1 * a1)) * a1)))) * 1048576)) * (W ((W (a1 * a1)) * a1)))) (W ((W (a0 * a0)) * a0))).2)]) []]) (by kernel_rfl) ⟨(C137 a0 1 1099511627776), h0, (C137 a1 1 8), h1, h2, (C236 (W ((W ((W (1048576 * (W ((W (a1 * a1)) * a1)))) * 1048576)) * (W ((W (a1 * a1)) * a1)))) (W ((W (a0 * a0)) * a0))  (cube_ne (win_ge h0) (by omega))), trivial⟩

noncomputable def B136_0 : Code := (loopAtD [1, 1, 1, 1, 1, 0, 1] [] (Tryz.f136.body.getD .skip) []).1
noncomputable def K136_0 : List K := (loopAtD [1, 1, 1, 1, 1, 0, 1] [] (Tryz.f136.body.getD .skip) []).2

/-- a round of loop 0 of facet/facetref03.mean; the variables: v1 = s13, v2 = s14, v3 = s15 -/
def S136_0 (a0 : (Int × Int × Int) × (Int × Int × Int) × Int × Int × Int) (a1 : Int × Int × Int) (a2 : Int) (a3 : Bool) : Int × Int × Int → (Int × Int × Int) ⊕ ((Int × Int) × Int)
  | (v1, v2, v3) =>
   (bif (decide ((v3 : Int) < (((F178 a0 a2).length : Nat) : Int))) then
    (bif (((F201_1 ((F178 a0 a2).getD (Int.toNat v3) default) (F175 a1 (W (1 * 2 ^ (min (Int.toNat (IntKind.wrap .u64 a2)) 64))))) : Int) == 0) then
     (.inr ((0, 0), 10))
    else
     (bif a3 then
      (.inl ((W (v1 + (F204 (F203_L ((F178 a0 a2).getD (Int.toNat v3) default) ([(F175 a1 (W (1 * 2 ^ (min (Int.toNat (IntKind.wrap .u64 a2)) 64))))] : List (Int × Int × Int))) (W (1 * 2 ^ (min (Int.toNat (IntKind.wrap .u64 a2)) 64)))).1.1)), (W (v2 + (F204 (F201_1 ((F178 a0 a2).getD (Int.toNat v3) default) (F175 a1 (W (1 * 2 ^ (min (Int.toNat (IntKind.wrap .u64 a2)) 64))))) (W (1 * 2 ^ (min (Int.toNat (IntKind.wrap .u64 a2)) 64)))).1.2)), (v3 + 1)))
     else
      (.inl ((W (v1 + (F202 (F203_L ((F178 a0 a2).getD (Int.toNat v3) default) ([(F175 a1 (W (1 * 2 ^ (min (Int.toNat (IntKind.wrap .u64 a2)) 64))))] : List (Int × Int × Int))) (W (1 * 2 ^ (min (Int.toNat (IntKind.wrap .u64 a2)) 64)))).1.1)), (W (v2 + (F202 (F201_1 ((F178 a0 a2).getD (Int.toNat v3) default) (F175 a1 (W (1 * 2 ^ (min (Int.toNat (IntKind.wrap .u64 a2)) 64))))) (W (1 * 2 ^ (min (Int.toNat (IntKind.wrap .u64 a2)) 64)))).1.2)), (v3 + 1)))))
   else
    (.inr (((F205 v1 (((F178 a0 a2).length : Nat) : Int)), (F206 v2 (((F178 a0 a2).length : Nat) : Int))), 0)))

set_option maxHeartbeats 4000000 in
theorem L136_0 (a0 : (Int × Int × Int) × (Int × Int × Int) × Int × Int × Int) (a1 : Int × Int × Int) (a2 : Int) (a3 : Bool) (ha : 0 ≤ a2 ∧ a2 ≤ 3) {cx : Cx} (hcx : cx.base = 0) : ∀ (n : Nat) (v1 : Int) (v2 : Int) (v3 : Int), 0 ≤ v3 → Int.toNat ((((F178 a0 a2).length : Nat) : Int) - v3) < n → Aw.Good Tryz.prog none 9 (bodyPost Tryz.prog Tryz.f136 (RR cx (.t [(.a (k2 (loopF (S136_0 a0 a1 a2 a3) n (v1, v2, v3)).1)), (iv (loopF (S136_0 a0 a1 a2 a3) n (v1, v2, v3)).2)]) [] [])) cx [] (.l B136_0 n :: K136_0) ⟨[.u, .u, .u, (.v (.bool a3)), .u, .u, .u, .u, (.p 0 0), .u, (iv (W (1 * 2 ^ (min (Int.toNat (IntKind.wrap .u64 a2)) 64)))), (.s 1 0 (F178 a0 a2).length 9), (.s 2 0 1 3), (iv v1), (iv v2), (iv v3), .u, .u, .u, .u, .u, .u, .u, .u, .u, .u, .u, .u, .u, .u, .u, .u, .u, .u, .u, .u, .u, .u, .u, .u, .u, .u, .u, .u, .u, .u, .u, .u, .u, .u, .u, .u, .u, .u, .u, .u, .u, .u, .u, .u, .u, .u, .u, .u, .u, .u, .u, .u, .u, .u, .u, .u, .u, .u, .u, .u, .u, .u, .u, .u, .u, .u, .u, .u, .u, .u, .u, .u, .u, .u, .u, .u, .u, .u, .u, .u, .u, .u], [(.live true false [(iv 0), (iv 0)]), (.live true true (flat c65 (F178 a0 a2))), (.live true false (k3 (F175 a1 (W (1 * 2 ^ (min (Int.toNat (IntKind.wrap .u64 a2)) 64))))))]⟩ := by
  intro n
  induction n with
  | zero => intro v1 v2 v3 hi hn; exact absurd hn (Nat.not_lt_zero _)
  | succ n ih =>
    intro v1 v2 v3 hi hn
    refine good_round ?_
    cases h0 : (decide ((v3 : Int) < (((F178 a0 a2).length : Nat) : Int))) with
    | true =>
      cases h1 : (((F201_1 ((F178 a0 a2).getD (Int.toNat v3) default) (F175 a1 (W (1 * 2 ^ (min (Int.toNat (IntKind.wrap .u64 a2)) 64))))) : Int) == 0) with
      | true =>
        have q0 := of_decide_eq_true h0
        have q1 := eq_of_beq h1
        have hcl := cut_le (p := a0) ha
        have e : S136_0 a0 a1 a2 a3 (v1, v2, v3) = (.inr ((0, 0), 10)) := by simp only [S136_0, h0, h1, cond_true, cond_false]
        rw [show loopF (S136_0 a0 a1 a2 a3) (n + 1) (v1, v2, v3) = thenF (S136_0 a0 a1 a2 a3) n (S136_0 a0 a1 a2 a3 (v1, v2, v3)) from rfl, e]
        exact ret_of (T := T0) hT hm (f := 5000) (orc := [.d true, .ld (k9 ((F178 a0 a2).getD (Int.toNat v3) default)), .call [2] (iv (F201_1 ((F178 a0 a2).getD (Int.toNat v3) default) (F175 a1 (W (1 * 2 ^ (min (Int.toNat (IntKind.wrap .u64 a2)) 64)))))) [], .d true]) [] [] [] hcx
          (obs := [.eq (decide ((v3 : Int) < (((F178 a0 a2).length : Nat) : Int))) true, .pr (0 ≤ (v3 : Int) ∧ (v3 : Int) < (((F178 a0 a2).length : Nat) : Int)), .pr (((((flat c65 (F178 a0 a2))).drop (0 + Int.toNat v3 * 9)).take 9) = (k9 ((F178 a0 a2).getD (Int.toNat v3) default))), .call 201 [(.a (k9 ((F178 a0 a2).getD (Int.toNat v3) default))), (.s 0 0 1 3)] [(.live false false (k3 (F175 a1 (W (1 * 2 ^ (min (Int.toNat (IntKind.wrap .u64 a2)) 64))))))] (iv (F201_1 ((F178 a0 a2).getD (Int.toNat v3) default) (F175 a1 (W (1 * 2 ^ (min (Int.toNat (IntKind.wrap .u64 a2)) 64)))))) [], .eq (((F201_1 ((F178 a0 a2).getD (Int.toNat v3) default) (F175 a1 (W (1 * 2 ^ (min (Int.toNat (IntKind.wrap .u64 a2)) 64))))) : Int) == 0) true]) (by kernel_rfl) ⟨h0, (show 0 ≤ (v3 : Int) ∧ (v3 : Int) < (((F178 a0 a2).length : Nat) : Int) from by first | omega | (rw [W_eq] <;> omega) | exact u64_nn _), (ld_part c65_len default (F178 a0 a2) v3 0 9 (by omega) (by decide) (by omega) rfl), (C201_1 ((F178 a0 a2).getD (Int.toNat v3) default) (F175 a1 (W (1 * 2 ^ (min (Int.toNat (IntKind.wrap .u64 a2)) 64))))), h1, trivial⟩
      | false =>
        rcases bool_tf a3 with h2 | h2
        · skip
          have q0 := of_decide_eq_true h0
          have q1 := ne_of_beq_false h1
          have hcl := cut_le (p := a0) ha
          have e : S136_0 a0 a1 a2 a3 (v1, v2, v3) = (.inl ((W (v1 + (F204 (F203_L ((F178 a0 a2).getD (Int.toNat v3) default) ([(F175 a1 (W (1 * 2 ^ (min (Int.toNat (IntKind.wrap .u64 a2)) 64))))] : List (Int × Int × Int))) (W (1 * 2 ^ (min (Int.toNat (IntKind.wrap .u64 a2)) 64)))).1.1)), (W (v2 + (F204 (F201_1 ((F178 a0 a2).getD (Int.toNat v3) default) (F175 a1 (W (1 * 2 ^ (min (Int.toNat (IntKind.wrap .u64 a2)) 64))))) (W (1 * 2 ^ (min (Int.toNat (IntKind.wrap .u64 a2)) 64)))).1.2)), (v3 + 1))) := by simp only [S136_0, h0, h1, h2, cond_true, cond_false]
          rw [loopF_inl e]
          refine back_of (T := T0) hT hm (f := 5000) (orc := [.d true, .ld (k9 ((F178 a0 a2).getD (Int.toNat v3) default)), .call [2] (iv (F201_1 ((F178 a0 a2).getD (Int.toNat v3) default) (F175 a1 (W (1 * 2 ^ (min (Int.toNat (IntKind.wrap .u64 a2)) 64)))))) [], .d false, .ld (k9 ((F178 a0 a2).getD (Int.toNat v3) default)), .call [2] (iv (F203_L ((F178 a0 a2).getD (Int.toNat v3) default) ([(F175 a1 (W (1 * 2 ^ (min (Int.toNat (IntKind.wrap .u64 a2)) 64))))] : List (Int × Int × Int)))) [], .call [] (.t [(.a (k2 (F202 (F203_L ((F178 a0 a2).getD (Int.toNat v3) default) ([(F175 a1 (W (1 * 2 ^ (min (Int.toNat (IntKind.wrap .u64 a2)) 64))))] : List (Int × Int × Int))) (W (1 * 2 ^ (min (Int.toNat (IntKind.wrap .u64 a2)) 64)))).1)), (iv (F202 (F203_L ((F178 a0 a2).getD (Int.toNat v3) default) ([(F175 a1 (W (1 * 2 ^ (min (Int.toNat (IntKind.wrap .u64 a2)) 64))))] : List (Int × Int × Int))) (W (1 * 2 ^ (min (Int.toNat (IntKind.wrap .u64 a2)) 64)))).2)]) [], .call [] (.t [(.a (k2 (F202 (F201_1 ((F178 a0 a2).getD (Int.toNat v3) default) (F175 a1 (W (1 * 2 ^ (min (Int.toNat (IntKind.wrap .u64 a2)) 64))))) (W (1 * 2 ^ (min (Int.toNat (IntKind.wrap .u64 a2)) 64)))).1)), (iv (F202 (F201_1 ((F178 a0 a2).getD (Int.toNat v3) default) (F175 a1 (W (1 * 2 ^ (min (Int.toNat (IntKind.wrap .u64 a2)) 64))))) (W (1 * 2 ^ (min (Int.toNat (IntKind.wrap .u64 a2)) 64)))).2)]) [], .d true, .ld (k9 ((F178 a0 a2).getD (Int.toNat v3) default)), .call [2] (iv (F203_L ((F178 a0 a2).getD (Int.toNat v3) default) ([(F175 a1 (W (1 * 2 ^ (min (Int.toNat (IntKind.wrap .u64 a2)) 64))))] : List (Int × Int × Int)))) [], .call [] (.t [(.a (k2 (F204 (F203_L ((F178 a0 a2).getD (Int.toNat v3) default) ([(F175 a1 (W (1 * 2 ^ (min (Int.toNat (IntKind.wrap .u64 a2)) 64))))] : List (Int × Int × Int))) (W (1 * 2 ^ (min (Int.toNat (IntKind.wrap .u64 a2)) 64)))).1)), (iv (F204 (F203_L ((F178 a0 a2).getD (Int.toNat v3) default) ([(F175 a1 (W (1 * 2 ^ (min (Int.toNat (IntKind.wrap .u64 a2)) 64))))] : List (Int × Int × Int))) (W (1 * 2 ^ (min (Int.toNat (IntKind.wrap .u64 a2)) 64)))).2)]) [], .call [] (.t [(.a (k2 (F204 (F201_1 ((F178 a0 a2).getD (Int.toNat v3) default) (F175 a1 (W (1 * 2 ^ (min (Int.toNat (IntKind.wrap .u64 a2)) 64))))) (W (1 * 2 ^ (min (Int.toNat (IntKind.wrap .u64 a2)) 64)))).1)), (iv (F204 (F201_1 ((F178 a0 a2).getD (Int.toNat v3) default) (F175 a1 (W (1 * 2 ^ (min (Int.toNat (IntKind.wrap .u64 a2)) 64))))) (W (1 * 2 ^ (min (Int.toNat (IntKind.wrap .u64 a2)) 64)))).2)]) []]) [] [3, 8, 10, 11, 12, 13, 14, 15] [0, 1, 2] hcx (body := B136_0) (m := n) (k' := K136_0) (s' := ⟨[.u, .u, .u, (.v (.bool a3)), .u, .u, .u, .u, (.p 0 0), .u, (iv (W (1 * 2 ^ (min (Int.toNat (IntKind.wrap .u64 a2)) 64)))), (.s 1 0 (F178 a0 a2).length 9), (.s 2 0 1 3), (iv (W (v1 + (F204 (F203_L ((F178 a0 a2).getD (Int.toNat v3) default) ([(F175 a1 (W (1 * 2 ^ (min (Int.toNat (IntKind.wrap .u64 a2)) 64))))] : List (Int × Int × Int))) (W (1 * 2 ^ (min (Int.toNat (IntKind.wrap .u64 a2)) 64)))).1.1))), (iv (W (v2 + (F204 (F201_1 ((F178 a0 a2).getD (Int.toNat v3) default) (F175 a1 (W (1 * 2 ^ (min (Int.toNat (IntKind.wrap .u64 a2)) 64))))) (W (1 * 2 ^ (min (Int.toNat (IntKind.wrap .u64 a2)) 64)))).1.2))), (iv (W (v3 + 1))), .u, .u, .u, .u, .u, .u, .u, .u, .u, .u, .u, .u, .u, .u, .u, .u, .u, .u, .u, .u, .u, .u, .u, .u, .u, .u, .u, .u, .u, .u, .u, .u, .u, .u, .u, .u, .u, .u, .u, .u, .u, .u, .u, .u, .u, .u, .u, .u, .u, .u, .u, .u, .u, .u, .u, .u, .u, .u, .u, .u, .u, .u, .u, .u, .u, .u, .u, .u, .u, .u, .u, .u, .u, .u, .u, .u, .u, .u, .u, .u, .u, .u], [(.live true false [(iv 0), (iv 0)]), (.live true true (flat c65 (F178 a0 a2))), (.live true false (k3 (F175 a1 (W (1 * 2 ^ (min (Int.toNat (IntKind.wrap .u64 a2)) 64))))))]⟩)
            (obs := [.eq (decide ((v3 : Int) < (((F178 a0 a2).length : Nat) : Int))) true, .pr (0 ≤ (v3 : Int) ∧ (v3 : Int) < (((F178 a0 a2).length : Nat) : Int)), .pr (((((flat c65 (F178 a0 a2))).drop (0 + Int.toNat v3 * 9)).take 9) = (k9 ((F178 a0 a2).getD (Int.toNat v3) default))), .call 201 [(.a (k9 ((F178 a0 a2).getD (Int.toNat v3) default))), (.s 0 0 1 3)] [(.live false false (k3 (F175 a1 (W (1 * 2 ^ (min (Int.toNat (IntKind.wrap .u64 a2)) 64))))))] (iv (F201_1 ((F178 a0 a2).getD (Int.toNat v3) default) (F175 a1 (W (1 * 2 ^ (min (Int.toNat (IntKind.wrap .u64 a2)) 64)))))) [], .eq (((F201_1 ((F178 a0 a2).getD (Int.toNat v3) default) (F175 a1 (W (1 * 2 ^ (min (Int.toNat (IntKind.wrap .u64 a2)) 64))))) : Int) == 0) false, .pr (0 ≤ (v3 : Int) ∧ (v3 : Int) < (((F178 a0 a2).length : Nat) : Int)), .pr (((((flat c65 (F178 a0 a2))).drop (0 + Int.toNat v3 * 9)).take 9) = (k9 ((F178 a0 a2).getD (Int.toNat v3) default))), .call 203 [(.a (k9 ((F178 a0 a2).getD (Int.toNat v3) default))), (.s 0 0 1 3)] [(.live false false (k3 (F175 a1 (W (1 * 2 ^ (min (Int.toNat (IntKind.wrap .u64 a2)) 64))))))] (iv (F203_L ((F178 a0 a2).getD (Int.toNat v3) default) ([(F175 a1 (W (1 * 2 ^ (min (Int.toNat (IntKind.wrap .u64 a2)) 64))))] : List (Int × Int × Int)))) [], .call 202 [(iv (F203_L ((F178 a0 a2).getD (Int.toNat v3) default) ([(F175 a1 (W (1 * 2 ^ (min (Int.toNat (IntKind.wrap .u64 a2)) 64))))] : List (Int × Int × Int)))), (iv (W (1 * 2 ^ (min (Int.toNat (IntKind.wrap .u64 a2)) 64))))] [] (.t [(.a (k2 (F202 (F203_L ((F178 a0 a2).getD (Int.toNat v3) default) ([(F175 a1 (W (1 * 2 ^ (min (Int.toNat (IntKind.wrap .u64 a2)) 64))))] : List (Int × Int × Int))) (W (1 * 2 ^ (min (Int.toNat (IntKind.wrap .u64 a2)) 64)))).1)), (iv (F202 (F203_L ((F178 a0 a2).getD (Int.toNat v3) default) ([(F175 a1 (W (1 * 2 ^ (min (Int.toNat (IntKind.wrap .u64 a2)) 64))))] : List (Int × Int × Int))) (W (1 * 2 ^ (min (Int.toNat (IntKind.wrap .u64 a2)) 64)))).2)]) [], .call 202 [(iv (F201_1 ((F178 a0 a2).getD (Int.toNat v3) default) (F175 a1 (W (1 * 2 ^ (min (Int.toNat (IntKind.wrap .u64 a2)) 64)))))), (iv (W (1 * 2 ^ (min (Int.toNat (IntKind.wrap .u64 a2)) 64))))] [] (.t [(.a (k2 (F202 (F201_1 ((F178 a0 a2).getD (Int.toNat v3) default) (F175 a1 (W (1 * 2 ^ (min (Int.toNat (IntKind.wrap .u64 a2)) 64))))) (W (1 * 2 ^ (min (Int.toNat (IntKind.wrap .u64 a2)) 64)))).1)), (iv (F202 (F201_1 ((F178 a0 a2).getD (Int.toNat v3) default) (F175 a1 (W (1 * 2 ^ (min (Int.toNat (IntKind.wrap .u64 a2)) 64))))) (W (1 * 2 ^ (min (Int.toNat (IntKind.wrap .u64 a2)) 64)))).2)]) [], .eq a3 true, .pr (0 ≤ (v3 : Int) ∧ (v3 : Int) < (((F178 a0 a2).length : Nat) : Int)), .pr (((((flat c65 (F178 a0 a2))).drop (0 + Int.toNat v3 * 9)).take 9) = (k9 ((F178 a0 a2).getD (Int.toNat v3) default))), .call 203 [(.a (k9 ((F178 a0 a2).getD (Int.toNat v3) default))), (.s 0 0 1 3)] [(.live false false (k3 (F175 a1 (W (1 * 2 ^ (min (Int.toNat (IntKind.wrap .u64 a2)) 64))))))] (iv (F203_L ((F178 a0 a2).getD (Int.toNat v3) default) ([(F175 a1 (W (1 * 2 ^ (min (Int.toNat (IntKind.wrap .u64 a2)) 64))))] : List (Int × Int × Int)))) [], .call 204 [(iv (F203_L ((F178 a0 a2).getD (Int.toNat v3) default) ([(F175 a1 (W (1 * 2 ^ (min (Int.toNat (IntKind.wrap .u64 a2)) 64))))] : List (Int × Int × Int)))), (iv (W (1 * 2 ^ (min (Int.toNat (IntKind.wrap .u64 a2)) 64))))] [] (.t [(.a (k2 (F204 (F203_L ((F178 a0 a2).getD (Int.toNat v3) default) ([(F175 a1 (W (1 * 2 ^ (min (Int.toNat (IntKind.wrap .u64 a2)) 64))))] : List (Int × Int × Int))) (W (1 * 2 ^ (min (Int.toNat (IntKind.wrap .u64 a2)) 64)))).1)), (iv (F204 (F203_L ((F178 a0 a2).getD (Int.toNat v3) default) ([(F175 a1 (W (1 * 2 ^ (min (Int.toNat (IntKind.wrap .u64 a2)) 64))))] : List (Int × Int × Int))) (W (1 * 2 ^ (min (Int.toNat (IntKind.wrap .u64 a2)) 64)))).2)]) [], .call 204 [(iv (F201_1 ((F178 a0 a2).getD (Int.toNat v3) default) (F175 a1 (W (1 * 2 ^ (min (Int.toNat (IntKind.wrap .u64 a2)) 64)))))), (iv (W (1 * 2 ^ (min (Int.toNat (IntKind.wrap .u64 a2)) 64))))] [] (.t [(.a (k2 (F204 (F201_1 ((F178 a0 a2).getD (Int.toNat v3) default) (F175 a1 (W (1 * 2 ^ (min (Int.toNat (IntKind.wrap .u64 a2)) 64))))) (W (1 * 2 ^ (min (Int.toNat (IntKind.wrap .u64 a2)) 64)))).1)), (iv (F204 (F201_1 ((F178 a0 a2).getD (Int.toNat v3) default) (F175 a1 (W (1 * 2 ^ (min (Int.toNat (IntKind.wrap .u64 a2)) 64))))) (W (1 * 2 ^ (min (Int.toNat (IntKind.wrap .u64 a2)) 64)))).2)]) []]) (by kernel_rfl) ⟨h0, (show 0 ≤ (v3 : Int) ∧ (v3 : Int) < (((F178 a0 a2).length : Nat) : Int) from by first | omega | (rw [W_eq] <;> omega) | exact u64_nn _), (ld_part c65_len default (F178 a0 a2) v3 0 9 (by omega) (by decide) (by omega) rfl), (C201_1 ((F178 a0 a2).getD (Int.toNat v3) default) (F175 a1 (W (1 * 2 ^ (min (Int.toNat (IntKind.wrap .u64 a2)) 64))))), h1, (show 0 ≤ (v3 : Int) ∧ (v3 : Int) < (((F178 a0 a2).length : Nat) : Int) from by first | omega | (rw [W_eq] <;> omega) | exact u64_nn _), (ld_part c65_len default (F178 a0 a2) v3 0 9 (by omega) (by decide) (by omega) rfl), (Con.flags (C203_L ((F178 a0 a2).getD (Int.toNat v3) default) ([(F175 a1 (W (1 * 2 ^ (min (Int.toNat (IntKind.wrap .u64 a2)) 64))))] : List (Int × Int × Int)) (by (try simp only [List.length_append, List.length_cons, List.length_nil, Int.toNat_zero]); omega)) rfl ⟨flat_plain (fun _ => rfl), trivial⟩), (C202 (F203_L ((F178 a0 a2).getD (Int.toNat v3) default) ([(F175 a1 (W (1 * 2 ^ (min (Int.toNat (IntKind.wrap .u64 a2)) 64))))] : List (Int × Int × Int))) (W (1 * 2 ^ (min (Int.toNat (IntKind.wrap .u64 a2)) 64)))), (C202 (F201_1 ((F178 a0 a2).getD (Int.toNat v3) default) (F175 a1 (W (1 * 2 ^ (min (Int.toNat (IntKind.wrap .u64 a2)) 64))))) (W (1 * 2 ^ (min (Int.toNat (IntKind.wrap .u64 a2)) 64)))), h2, (show 0 ≤ (v3 : Int) ∧ (v3 : Int) < (((F178 a0 a2).length : Nat) : Int) from by first | omega | (rw [W_eq] <;> omega) | exact u64_nn _), (ld_part c65_len default (F178 a0 a2) v3 0 9 (by omega) (by decide) (by omega) rfl), (Con.flags (C203_L ((F178 a0 a2).getD (Int.toNat v3) default) ([(F175 a1 (W (1 * 2 ^ (min (Int.toNat (IntKind.wrap .u64 a2)) 64))))] : List (Int × Int × Int)) (by (try simp only [List.length_append, List.length_cons, List.length_nil, Int.toNat_zero]); omega)) rfl ⟨flat_plain (fun _ => rfl), trivial⟩), (C204 (F203_L ((F178 a0 a2).getD (Int.toNat v3) default) ([(F175 a1 (W (1 * 2 ^ (min (Int.toNat (IntKind.wrap .u64 a2)) 64))))] : List (Int × Int × Int))) (W (1 * 2 ^ (min (Int.toNat (IntKind.wrap .u64 a2)) 64)))), (C204 (F201_1 ((F178 a0 a2).getD (Int.toNat v3) default) (F175 a1 (W (1 * 2 ^ (min (Int.toNat (IntKind.wrap .u64 a2)) 64))))) (W (1 * 2 ^ (min (Int.toNat (IntKind.wrap .u64 a2)) 64)))), trivial⟩ ?_
          have z0 : (W (v3 + 1)) = (v3 + 1) := W_eq (by omega) (by omega)
          rw [z0]
          exact ih (W (v1 + (F204 (F203_L ((F178 a0 a2).getD (Int.toNat v3) default) ([(F175 a1 (W (1 * 2 ^ (min (Int.toNat (IntKind.wrap .u64 a2)) 64))))] : List (Int × Int × Int))) (W (1 * 2 ^ (min (Int.toNat (IntKind.wrap .u64 a2)) 64)))).1.1)) (W (v2 + (F204 (F201_1 ((F178 a0 a2).getD (Int.toNat v3) default) (F175 a1 (W (1 * 2 ^ (min (Int.toNat (IntKind.wrap .u64 a2)) 64))))) (W (1 * 2 ^ (min (Int.toNat (IntKind.wrap .u64 a2)) 64)))).1.2)) (v3 + 1) (by (try simp only [List.length_append, List.length_cons, List.length_nil, Int.toNat_zero]); omega) (by (try simp only [List.length_append, List.length_cons, List.length_nil, Int.toNat_zero]); omega)
        · skip
          have q0 := of_decide_eq_true h0
          have q1 := ne_of_beq_false h1
          have hcl := cut_le (p := a0) ha
          have e : S136_0 a0 a1 a2 a3 (v1, v2, v3) = (.inl ((W (v1 + (F202 (F203_L ((F178 a0 a2).getD (Int.toNat v3) default) ([(F175 a1 (W (1 * 2 ^ (min (Int.toNat (IntKind.wrap .u64 a2)) 64))))] : List (Int × Int × Int))) (W (1 * 2 ^ (min (Int.toNat (IntKind.wrap .u64 a2)) 64)))).1.1)), (W (v2 + (F202 (F201_1 ((F178 a0 a2).getD (Int.toNat v3) default) (F175 a1 (W (1 * 2 ^ (min (Int.toNat (IntKind.wrap .u64 a2)) 64))))) (W (1 * 2 ^ (min (Int.toNat (IntKind.wrap .u64 a2)) 64)))).1.2)), (v3 + 1))) := by simp only [S136_0, h0, h1, h2, cond_true, cond_false]
          rw [loopF_inl e]
          refine back_of (T := T0) hT hm (f := 5000) (orc := [.d true, .ld (k9 ((F178 a0 a2).getD (Int.toNat v3) default)), .call [2] (iv (F201_1 ((F178 a0 a2).getD (Int.toNat v3) default) (F175 a1 (W (1 * 2 ^ (min (Int.toNat (IntKind.wrap .u64 a2)) 64)))))) [], .d false, .ld (k9 ((F178 a0 a2).getD (Int.toNat v3) default)), .call [2] (iv (F203_L ((F178 a0 a2).getD (Int.toNat v3) default) ([(F175 a1 (W (1 * 2 ^ (min (Int.toNat (IntKind.wrap .u64 a2)) 64))))] : List (Int × Int × Int)))) [], .call [] (.t [(.a (k2 (F202 (F203_L ((F178 a0 a2).getD (Int.toNat v3) default) ([(F175 a1 (W (1 * 2 ^ (min (Int.toNat (IntKind.wrap .u64 a2)) 64))))] : List (Int × Int × Int))) (W (1 * 2 ^ (min (Int.toNat (IntKind.wrap .u64 a2)) 64)))).1)), (iv (F202 (F203_L ((F178 a0 a2).getD (Int.toNat v3) default) ([(F175 a1 (W (1 * 2 ^ (min (Int.toNat (IntKind.wrap .u64 a2)) 64))))] : List (Int × Int × Int))) (W (1 * 2 ^ (min (Int.toNat (IntKind.wrap .u64 a2)) 64)))).2)]) [], .call [] (.t [(.a (k2 (F202 (F201_1 ((F178 a0 a2).getD (Int.toNat v3) default) (F175 a1 (W (1 * 2 ^ (min (Int.toNat (IntKind.wrap .u64 a2)) 64))))) (W (1 * 2 ^ (min (Int.toNat (IntKind.wrap .u64 a2)) 64)))).1)), (iv (F202 (F201_1 ((F178 a0 a2).getD (Int.toNat v3) default) (F175 a1 (W (1 * 2 ^ (min (Int.toNat (IntKind.wrap .u64 a2)) 64))))) (W (1 * 2 ^ (min (Int.toNat (IntKind.wrap .u64 a2)) 64)))).2)]) [], .d false]) [] [3, 8, 10, 11, 12, 13, 14, 15] [0, 1, 2] hcx (body := B136_0) (m := n) (k' := K136_0) (s' := ⟨[.u, .u, .u, (.v (.bool a3)), .u, .u, .u, .u, (.p 0 0), .u, (iv (W (1 * 2 ^ (min (Int.toNat (IntKind.wrap .u64 a2)) 64)))), (.s 1 0 (F178 a0 a2).length 9), (.s 2 0 1 3), (iv (W (v1 + (F202 (F203_L ((F178 a0 a2).getD (Int.toNat v3) default) ([(F175 a1 (W (1 * 2 ^ (min (Int.toNat (IntKind.wrap .u64 a2)) 64))))] : List (Int × Int × Int))) (W (1 * 2 ^ (min (Int.toNat (IntKind.wrap .u64 a2)) 64)))).1.1))), (iv (W (v2 + (F202 (F201_1 ((F178 a0 a2).getD (Int.toNat v3) default) (F175 a1 (W (1 * 2 ^ (min (Int.toNat (IntKind.wrap .u64 a2)) 64))))) (W (1 * 2 ^ (min (Int.toNat (IntKind.wrap .u64 a2)) 64)))).1.2))), (iv (W (v3 + 1))), .u, .u, .u, .u, .u, .u, .u, .u, .u, .u, .u, .u, .u, .u, .u, .u, .u, .u, .u, .u, .u, .u, .u, .u, .u, .u, .u, .u, .u, .u, .u, .u, .u, .u, .u, .u, .u, .u, .u, .u, .u, .u, .u, .u, .u, .u, .u, .u, .u, .u, .u, .u, .u, .u, .u, .u, .u, .u, .u, .u, .u, .u, .u, .u, .u, .u, .u, .u, .u, .u, .u, .u, .u, .u, .u, .u, .u, .u, .u, .u, .u, .u], [(.live true false [(iv 0), (iv 0)]), (.live true true (flat c65 (F178 a0 a2))), (.live true false (k3 (F175 a1 (W (1 * 2 ^ (min (Int.toNat (IntKind.wrap .u64 a2)) 64))))))]⟩)
            (obs := [.eq (decide ((v3 : Int) < (((F178 a0 a2).length : Nat) : Int))) true, .pr (0 ≤ (v3 : Int) ∧ (v3 : Int) < (((F178 a0 a2).length : Nat) : Int)), .pr (((((flat c65 (F178 a0 a2))).drop (0 + Int.toNat v3 * 9)).take 9) = (k9 ((F178 a0 a2).getD (Int.toNat v3) default))), .call 201 [(.a (k9 ((F178 a0 a2).getD (Int.toNat v3) default))), (.s 0 0 1 3)] [(.live false false (k3 (F175 a1 (W (1 * 2 ^ (min (Int.toNat (IntKind.wrap .u64 a2)) 64))))))] (iv (F201_1 ((F178 a0 a2).getD (Int.toNat v3) default) (F175 a1 (W (1 * 2 ^ (min (Int.toNat (IntKind.wrap .u64 a2)) 64)))))) [], .eq (((F201_1 ((F178 a0 a2).getD (Int.toNat v3) default) (F175 a1 (W (1 * 2 ^ (min (Int.toNat (IntKind.wrap .u64 a2)) 64))))) : Int) == 0) false, .pr (0 ≤ (v3 : Int) ∧ (v3 : Int) < (((F178 a0 a2).length : Nat) : Int)), .pr (((((flat c65 (F178 a0 a2))).drop (0 + Int.toNat v3 * 9)).take 9) = (k9 ((F178 a0 a2).getD (Int.toNat v3) default))), .call 203 [(.a (k9 ((F178 a0 a2).getD (Int.toNat v3) default))), (.s 0 0 1 3)] [(.live false false (k3 (F175 a1 (W (1 * 2 ^ (min (Int.toNat (IntKind.wrap .u64 a2)) 64))))))] (iv (F203_L ((F178 a0 a2).getD (Int.toNat v3) default) ([(F175 a1 (W (1 * 2 ^ (min (Int.toNat (IntKind.wrap .u64 a2)) 64))))] : List (Int × Int × Int)))) [], .call 202 [(iv (F203_L ((F178 a0 a2).getD (Int.toNat v3) default) ([(F175 a1 (W (1 * 2 ^ (min (Int.toNat (IntKind.wrap .u64 a2)) 64))))] : List (Int × Int × Int)))), (iv (W (1 * 2 ^ (min (Int.toNat (IntKind.wrap .u64 a2)) 64))))] [] (.t [(.a (k2 (F202 (F203_L ((F178 a0 a2).getD (Int.toNat v3) default) ([(F175 a1 (W (1 * 2 ^ (min (Int.toNat (IntKind.wrap .u64 a2)) 64))))] : List (Int × Int × Int))) (W (1 * 2 ^ (min (Int.toNat (IntKind.wrap .u64 a2)) 64)))).1)), (iv (F202 (F203_L ((F178 a0 a2).getD (Int.toNat v3) default) ([(F175 a1 (W (1 * 2 ^ (min (Int.toNat (IntKind.wrap .u64 a2)) 64))))] : List (Int × Int × Int))) (W (1 * 2 ^ (min (Int.toNat (IntKind.wrap .u64 a2)) 64)))).2)]) [], .call 202 [(iv (F201_1 ((F178 a0 a2).getD (Int.toNat v3) default) (F175 a1 (W (1 * 2 ^ (min (Int.toNat (IntKind.wrap .u64 a2)) 64)))))), (iv (W (1 * 2 ^ (min (Int.toNat (IntKind.wrap .u64 a2)) 64))))] [] (.t [(.a (k2 (F202 (F201_1 ((F178 a0 a2).getD (Int.toNat v3) default) (F175 a1 (W (1 * 2 ^ (min (Int.toNat (IntKind.wrap .u64 a2)) 64))))) (W (1 * 2 ^ (min (Int.toNat (IntKind.wrap .u64 a2)) 64)))).1)), (iv (F202 (F201_1 ((F178 a0 a2).getD (Int.toNat v3) default) (F175 a1 (W (1 * 2 ^ (min (Int.toNat (IntKind.wrap .u64 a2)) 64))))) (W (1 * 2 ^ (min (Int.toNat (IntKind.wrap .u64 a2)) 64)))).2)]) [], .eq a3 false]) (by kernel_rfl) ⟨h0, (show 0 ≤ (v3 : Int) ∧ (v3 : Int) < (((F178 a0 a2).length : Nat) : Int) from by first | omega | (rw [W_eq] <;> omega) | exact u64_nn _), (ld_part c65_len default (F178 a0 a2) v3 0 9 (by omega) (by decide) (by omega) rfl), (C201_1 ((F178 a0 a2).getD (Int.toNat v3) default) (F175 a1 (W (1 * 2 ^ (min (Int.toNat (IntKind.wrap .u64 a2)) 64))))), h1, (show 0 ≤ (v3 : Int) ∧ (v3 : Int) < (((F178 a0 a2).length : Nat) : Int) from by first | omega | (rw [W_eq] <;> omega) | exact u64_nn _), (ld_part c65_len default (F178 a0 a2) v3 0 9 (by omega) (by decide) (by omega) rfl), (Con.flags (C203_L ((F178 a0 a2).getD (Int.toNat v3) default) ([(F175 a1 (W (1 * 2 ^ (min (Int.toNat (IntKind.wrap .u64 a2)) 64))))] : List (Int × Int × Int)) (by (try simp only [List.length_append, List.length_cons, List.length_nil, Int.toNat_zero]); omega)) rfl ⟨flat_plain (fun _ => rfl), trivial⟩), (C202 (F203_L ((F178 a0 a2).getD (Int.toNat v3) default) ([(F175 a1 (W (1 * 2 ^ (min (Int.toNat (IntKind.wrap .u64 a2)) 64))))] : List (Int × Int × Int))) (W (1 * 2 ^ (min (Int.toNat (IntKind.wrap .u64 a2)) 64)))), (C202 (F201_1 ((F178 a0 a2).getD (Int.toNat v3) default) (F175 a1 (W (1 * 2 ^ (min (Int.toNat (IntKind.wrap .u64 a2)) 64))))) (W (1 * 2 ^ (min (Int.toNat (IntKind.wrap .u64 a2)) 64)))), h2, trivial⟩ ?_
          have z0 : (W (v3 + 1)) = (v3 + 1) := W_eq (by omega) (by omega)
          rw [z0]
          exact ih (W (v1 + (F202 (F203_L ((F178 a0 a2).getD (Int.toNat v3) default) ([(F175 a1 (W (1 * 2 ^ (min (Int.toNat (IntKind.wrap .u64 a2)) 64))))] : List (Int × Int × Int))) (W (1 * 2 ^ (min (Int.toNat (IntKind.wrap .u64 a2)) 64)))).1.1)) (W (v2 + (F202 (F201_1 ((F178 a0 a2).getD (Int.toNat v3) default) (F175 a1 (W (1 * 2 ^ (min (Int.toNat (IntKind.wrap .u64 a2)) 64))))) (W (1 * 2 ^ (min (Int.toNat (IntKind.wrap .u64 a2)) 64)))).1.2)) (v3 + 1) (by (try simp only [List.length_append, List.length_cons, List.length_nil, Int.toNat_zero]); omega) (by (try simp only [List.length_append, List.length_cons, List.length_nil, Int.toNat_zero]); omega)
    | false =>
      have q0 := of_decide_eq_false h0
      have hcl := cut_le (p := a0) ha
      have e : S136_0 a0 a1 a2 a3 (v1, v2, v3) = (.inr (((F205 v1 (((F178 a0 a2).length : Nat) : Int)), (F206 v2 (((F178 a0 a2).length : Nat) : Int))), 0)) := by simp only [S136_0, h0, cond_true, cond_false]
      rw [show loopF (S136_0 a0 a1 a2 a3) (n + 1) (v1, v2, v3) = thenF (S136_0 a0 a1 a2 a3) n (S136_0 a0 a1 a2 a3 (v1, v2, v3)) from rfl, e]
      exact ret_of (T := T0) hT hm (f := 5000) (orc := [.d false, .call [] (iv (F205 v1 (((F178 a0 a2).length : Nat) : Int))) [], .call [] (iv (F206 v2 (((F178 a0 a2).length : Nat) : Int))) []]) [] [] [] hcx
        (obs := [.eq (decide ((v3 : Int) < (((F178 a0 a2).length : Nat) : Int))) false, .call 205 [(iv v1), (iv (((F178 a0 a2).length : Nat) : Int))] [] (iv (F205 v1 (((F178 a0 a2).length : Nat) : Int))) [], .call 206 [(iv v2), (iv (((F178 a0 a2).length : Nat) : Int))] [] (iv (F206 v2 (((F178 a0 a2).length : Nat) : Int))) []]) (by kernel_rfl) ⟨h0, (C205 v1 (((F178 a0 a2).length : Nat) : Int)  (cut_ne (by omega))), (C206 v2 (((F178 a0 a2).length : Nat) : Int)  (cut_ne (by omega))), trivial⟩

/-- facet/facetref03.mean -/
def F136 (a0 : (Int × Int × Int) × (Int × Int × Int) × Int × Int × Int) (a1 : Int × Int × Int) (a2 : Int) (a3 : Bool) : (Int × Int) × Int :=
  (loopF (S136_0 a0 a1 a2 a3) (Int.toNat ((((F178 a0 a2).length : Nat) : Int) - 0) + 1) (0, 0, 0))

theorem C136 (a0 : (Int × Int × Int) × (Int × Int × Int) × Int × Int × Int) (a1 : Int × Int × Int) (a2 : Int) (a3 : Bool) (ha : 0 ≤ a2 ∧ a2 ≤ 3) : Con Tryz.prog 136 [(.a (k9 a0)), (.a (k3 a1)), (iv a2), (.v (.bool a3))] [] (.t [(.a (k2 (F136 a0 a1 a2 a3).1)), (iv (F136 a0 a1 a2 a3).2)]) [] := by
  have e : (F136 a0 a1 a2 a3) = (loopF (S136_0 a0 a1 a2 a3) (Int.toNat ((((F178 a0 a2).length : Nat) : Int) - 0) + 1) (0, 0, 0)) := by simp only [F136]
  rw [e]
  refine con_of (n := 9) Tryz.func136 rfl (ent Tryz.func136 (by kernel_rfl) rfl) (by show 4 ≤ Tryz.f136.ntmps; decide) (by kernel_rfl) trivial (fun cx hcx => ?_)
  refine enter_of (T := T0) hT hm (f := 5000) (orc := [.call [] (.s 0 0 (F178 a0 a2).length 9) [(.live true true (flat c65 (F178 a0 a2)))], .call [] (.a (k3 (F175 a1 (W (1 * 2 ^ (min (Int.toNat (IntKind.wrap .u64 a2)) 64)))))) []]) [] [3, 8, 10, 11, 12, 13, 14, 15] [2, 3, 4] hcx (body := B136_0) (k' := K136_0) (s' := ⟨[.u, .u, .u, (.v (.bool a3)), .u, .u, .u, .u, (.p 0 0), .u, (iv (W (1 * 2 ^ (min (Int.toNat (IntKind.wrap .u64 a2)) 64)))), (.s 1 0 (F178 a0 a2).length 9), (.s 2 0 1 3), (iv 0), (iv 0), (iv 0), .u, .u, .u, .u, .u, .u, .u, .u, .u, .u, .u, .u, .u, .u, .u, .u, .u, .u, .u, .u, .u, .u, .u, .u, .u, .u, .u, .u, .u, .u, .u, .u, .u, .u, .u, .u, .u, .u, .u, .u, .u, .u, .u, .u, .u, .u, .u, .u, .u, .u, .u, .u, .u, .u, .u, .u, .u, .u, .u, .u, .u, .u, .u, .u, .u, .u, .u, .u, .u, .u, .u, .u, .u, .u, .u, .u, .u, .u, .u, .u, .u, .u], [(.live true false [(iv 0), (iv 0)]), (.live true true (flat c65 (F178 a0 a2))), (.live true false (k3 (F175 a1 (W (1 * 2 ^ (min (Int.toNat (IntKind.wrap .u64 a2)) 64))))))]⟩)
    (obs := [.pr (0 ≤ ((IntKind.wrap .u64 a2) : Int)), .call 178 [(.a (k9 a0)), (iv a2)] [] (.s 0 0 (F178 a0 a2).length 9) [(.live true true (flat c65 (F178 a0 a2)))], .call 175 [(.a (k3 a1)), (iv (W (1 * 2 ^ (min (Int.toNat (IntKind.wrap .u64 a2)) 64))))] [] (.a (k3 (F175 a1 (W (1 * 2 ^ (min (Int.toNat (IntKind.wrap .u64 a2)) 64)))))) []]) (by kernel_rfl) ⟨(show 0 ≤ ((IntKind.wrap .u64 a2) : Int) from by first | omega | (rw [W_eq] <;> omega) | exact u64_nn _), (C178 a0 a2  (by (try simp only [List.length_append, List.length_cons, List.length_nil, Int.toNat_zero]); omega)), (C175 a1 (W (1 * 2 ^ (min (Int.toNat (IntKind.wrap .u64 a2)) 64)))), trivial⟩ ⟨Int.toNat ((((F178 a0 a2).length : Nat) : Int) - 0) + 1, ?_⟩
  exact L136_0 a0 a1 a2 a3 ha hcx (Int.toNat ((((F178 a0 a2).length : Nat) : Int) - 0) + 1) 0 0 0 (by (try simp only [List.length_append, List.length_cons, List.length_nil, Int.toNat_zero]); omega) (by (try simp only [List.length_append, List.length_cons, List.length_nil, Int.toNat_zero]); omega)

end Go.Proofs.YtnkeljlllagddaaGreat

namespace Go.Proofs.YtnkeljlllagddaaGreat
open Go.Proofs Go.Aw Go.RowKit
set_option maxRecDepth 100000
set_option linter.unusedVariables false
set_option linter.unusedSimpArgs false

/-! ### How far, how near -/
def mx (a b : Int) : Int := if a < b then b else a
theorem mx_le {a b c : Int} (h : a ≤ c) (h' : b ≤ c) : mx a b ≤ c := by unfold mx; split <;> assumption
theorem le_mx1 (a b : Int) : a ≤ mx a b := by unfold mx; split <;> omega
theorem le_mx2 (a b : Int) : b ≤ mx a b := by unfold mx; split <;> omega
def ds (p q : P3) : Int := dt (sb p q) (sb p q)
def fF (p q : P3) : Int := F143 (F144 p q) (F144 p q)
theorem fF_eq {p q : P3} (hp : bd 5000 p) (hq : bd 5000 q) : fF p q = ds p q := by
  unfold fF ds
  rw [fsb (hp.mono (by omega)) (hq.mono (by omega))]
  exact fdt ((bd_sb hp hq).mono (by omega)) ((bd_sb hp hq).mono (by omega))
def rF (p q : P3) : Int := F213 (F214 p q) (F214 p q)
theorem rF_eq {p q : P3} (hp : bd 5000 p) (hq : bd 5000 q) : rF p q = ds p q := by
  unfold rF ds
  rw [rsb (hp.mono (by omega)) (hq.mono (by omega))]
  exact rdt ((bd_sb hp hq).mono (by omega)) ((bd_sb hp hq).mono (by omega))
theorem farF1 (c : PN) (x : P3) : F198_L_L [c.1, c.2.1, c.2.2] [x] = mx (mx (mx 0 (fF c.1 x)) (fF c.2.1 x)) (fF c.2.2 x) := by
  rfl
theorem farR_step (c : PN) (l : List P3) (v : Int) (i : Nat) (h : i < l.length) :
    S203_L_0 c l (v, (i : Int)) = .inl (mx (mx (mx v (rF c.1 (l.getD i default))) (rF c.2.1 (l.getD i default))) (rF c.2.2 (l.getD i default)), ((i + 1 : Nat) : Int)) := by
  have h0 : decide ((i : Int) < ((l.length : Nat) : Int)) = true := by simpa using h
  simp only [S203_L_0, h0, cond_true, Int.toNat_natCast]
  have key : ∀ q : P3, (bif decide (rF c.1 q > v) then bif decide (rF c.2.1 q > rF c.1 q) then bif decide (rF c.2.2 q > rF c.2.1 q) then Sum.inl (rF c.2.2 q, (i : Int) + 1) else Sum.inl (rF c.2.1 q, (i : Int) + 1) else bif decide (rF c.2.2 q > rF c.1 q) then Sum.inl (rF c.2.2 q, (i : Int) + 1) else Sum.inl (rF c.1 q, (i : Int) + 1)
    else bif decide (rF c.2.1 q > v) then bif decide (rF c.2.2 q > rF c.2.1 q) then Sum.inl (rF c.2.2 q, (i : Int) + 1) else Sum.inl (rF c.2.1 q, (i : Int) + 1) else bif decide (rF c.2.2 q > v) then Sum.inl (rF c.2.2 q, (i : Int) + 1) else Sum.inl (v, (i : Int) + 1))
    = (Sum.inl (mx (mx (mx v (rF c.1 q)) (rF c.2.1 q)) (rF c.2.2 q), ((i : Int) + 1)) : (Int × Int) ⊕ Int) := by
    intro q
    generalize rF c.1 q = a1; generalize rF c.2.1 q = a2; generalize rF c.2.2 q = a3
    unfold mx
    by_cases h1 : a1 > v
    · rw [decide_eq_true h1, cond_true, if_pos h1]
      by_cases h2 : a2 > a1
      · rw [decide_eq_true h2, cond_true, if_pos h2]
        by_cases h3 : a3 > a2
        · rw [decide_eq_true h3, cond_true, if_pos h3]
        · rw [decide_eq_false h3, cond_false, if_neg h3]
      · rw [decide_eq_false h2, cond_false, if_neg h2]
        by_cases h3 : a3 > a1
        · rw [decide_eq_true h3, cond_true, if_pos h3]
        · rw [decide_eq_false h3, cond_false, if_neg h3]
    · rw [decide_eq_false h1, cond_false, if_neg h1]
      by_cases h2 : a2 > v
      · rw [decide_eq_true h2, cond_true, if_pos h2]
        by_cases h3 : a3 > a2
        · rw [decide_eq_true h3, cond_true, if_pos h3]
        · rw [decide_eq_false h3, cond_false, if_neg h3]
      · rw [decide_eq_false h2, cond_false, if_neg h2]
        by_cases h3 : a3 > v
        · rw [decide_eq_true h3, cond_true, if_pos h3]
        · rw [decide_eq_false h3, cond_false, if_neg h3]
  exact key (l.getD i default)
theorem farR_end (c : PN) (l : List P3) (v : Int) : S203_L_0 c l (v, (l.length : Int)) = .inr v := by
  have h0 : decide (((l.length : Nat) : Int) < ((l.length : Nat) : Int)) = false := by simp
  simp only [S203_L_0, h0, cond_false]
theorem farR1 (c : PN) (x : P3) : F203_L c [x] = mx (mx (mx 0 (rF c.1 x)) (rF c.2.1 x)) (rF c.2.2 x) := by
  unfold F203_L
  have e0 := farR_step c [x] 0 0 (by simp)
  have e1 := farR_end c [x] (mx (mx (mx 0 (rF c.1 x)) (rF c.2.1 x)) (rF c.2.2 x))
  rw [show Int.toNat ((([x] : List P3).length : Int) - 0) + 1 = 2 from rfl, show ((0, 0) : Int × Int) = (0, ((0 : Nat) : Int)) from rfl, loopF_inl e0]
  exact loopF_inr e1
/-! boxes -/
def lo3 (a b c : Int) : Int := if c < (if b < (if a < a then a else a) then b else (if a < a then a else a)) then c else (if b < (if a < a then a else a) then b else (if a < a then a else a))
def hi3 (a b c : Int) : Int := if (if (if a < a then a else a) < b then b else (if a < a then a else a)) < c then c else (if (if a < a then a else a) < b then b else (if a < a then a else a))
theorem lo3_le (a b c : Int) : lo3 a b c ≤ a ∧ lo3 a b c ≤ b ∧ lo3 a b c ≤ c := by
  unfold lo3; simp only [Int.lt_irrefl, if_false]; split <;> split at * <;> omega
theorem le_hi3 (a b c : Int) : a ≤ hi3 a b c ∧ b ≤ hi3 a b c ∧ c ≤ hi3 a b c := by
  unfold hi3; simp only [Int.lt_irrefl, if_false]; split <;> split at * <;> omega
theorem lo3_in (a b c : Int) : lo3 a b c = a ∨ lo3 a b c = b ∨ lo3 a b c = c := by
  unfold lo3; simp only [Int.lt_irrefl, if_false]; split <;> split at * <;> omega
theorem hi3_in (a b c : Int) : hi3 a b c = a ∨ hi3 a b c = b ∨ hi3 a b c = c := by
  unfold hi3; simp only [Int.lt_irrefl, if_false]; split <;> split at * <;> omega
/-- the gap between two intervals -/
def gp (a b c d : Int) : Int := mx (mx 0 (c - b)) (a - d)
theorem gp_nn (a b c d : Int) : 0 ≤ gp a b c d := Int.le_trans (le_mx1 0 _) (le_mx1 _ _)
theorem gp_comm (a b c d : Int) : gp c d a b = gp a b c d := by unfold gp mx; repeat' split <;> omega
/-- the squared distance of two boxes -/
def nr (a b c d : P3) : Int := gp a.1 b.1 c.1 d.1 * gp a.1 b.1 c.1 d.1 + gp a.2.1 b.2.1 c.2.1 d.2.1 * gp a.2.1 b.2.1 c.2.1 d.2.1 + gp a.2.2 b.2.2 c.2.2 d.2.2 * gp a.2.2 b.2.2 c.2.2 d.2.2
def blo (c : PN) : P3 := (lo3 c.1.1 c.2.1.1 c.2.2.1, lo3 c.1.2.1 c.2.1.2.1 c.2.2.2.1, lo3 c.1.2.2 c.2.1.2.2 c.2.2.2.2)
def bhi (c : PN) : P3 := (hi3 c.1.1 c.2.1.1 c.2.2.1, hi3 c.1.2.1 c.2.1.2.1 c.2.2.2.1, hi3 c.1.2.2 c.2.1.2.2 c.2.2.2.2)
theorem blo_bd {m : Int} {c : PN} (h : bdP m c) : bd m (blo c) := by
  have h1 := lo3_in c.1.1 c.2.1.1 c.2.2.1; have h2 := lo3_in c.1.2.1 c.2.1.2.1 c.2.2.2.1; have h3 := lo3_in c.1.2.2 c.2.1.2.2 c.2.2.2.2
  have ha := h.1; have hb := h.2.1; have hc := h.2.2
  unfold bd at *; simp only [blo]; omega
theorem bhi_bd {m : Int} {c : PN} (h : bdP m c) : bd m (bhi c) := by
  have h1 := hi3_in c.1.1 c.2.1.1 c.2.2.1; have h2 := hi3_in c.1.2.1 c.2.1.2.1 c.2.2.2.1; have h3 := hi3_in c.1.2.2 c.2.1.2.2 c.2.2.2.2
  have ha := h.1; have hb := h.2.1; have hc := h.2.2
  unfold bd at *; simp only [bhi]; omega
theorem box3 (c : PN) : F232_3 c = (blo c, bhi c) := rfl
theorem box1 (x : P3) : F232_1 x = (x, x) := by
  have key : ∀ a : Int, (if a < a then a else a) = a := fun a => by split <;> rfl
  unfold F232_1
  simp only [key]
theorem gap_f {a b c d : Int} (ha : -5000 ≤ a ∧ a ≤ 5000) (hb : -5000 ≤ b ∧ b ≤ 5000) (hc : -5000 ≤ c ∧ c ≤ 5000) (hd : -5000 ≤ d ∧ d ≤ 5000) : F233 a b c d = gp a b c d := by
  unfold F233
  rw [W_eq (n := c - b) (by omega) (by omega), W_eq (n := a - d) (by omega) (by omega)]; rfl
theorem gp_bd {a b c d : Int} (ha : -5000 ≤ a ∧ a ≤ 5000) (hb : -5000 ≤ b ∧ b ≤ 5000) (hc : -5000 ≤ c ∧ c ≤ 5000) (hd : -5000 ≤ d ∧ d ≤ 5000) : 0 ≤ gp a b c d ∧ gp a b c d ≤ 10000 :=
  ⟨gp_nn _ _ _ _, mx_le (mx_le (by omega) (by omega)) (by omega)⟩
theorem nrF {a b c d : P3} (ha : bd 5000 a) (hb : bd 5000 b) (hc : bd 5000 c) (hd : bd 5000 d) :
    F143 (F233 a.1 b.1 c.1 d.1, F233 a.2.1 b.2.1 c.2.1 d.2.1, F233 a.2.2 b.2.2 c.2.2 d.2.2) (F233 a.1 b.1 c.1 d.1, F233 a.2.1 b.2.1 c.2.1 d.2.1, F233 a.2.2 b.2.2 c.2.2 d.2.2) = nr a b c d := by
  rw [gap_f ha.1 hb.1 hc.1 hd.1, gap_f ha.2.1 hb.2.1 hc.2.1 hd.2.1, gap_f ha.2.2 hb.2.2 hc.2.2 hd.2.2]
  have h1 := gp_bd ha.1 hb.1 hc.1 hd.1; have h2 := gp_bd ha.2.1 hb.2.1 hc.2.1 hd.2.1; have h3 := gp_bd ha.2.2 hb.2.2 hc.2.2 hd.2.2
  have hv : bd 1000000000 (gp a.1 b.1 c.1 d.1, gp a.2.1 b.2.1 c.2.1 d.2.1, gp a.2.2 b.2.2 c.2.2 d.2.2) := by unfold bd; simp only; omega
  rw [fdt hv hv]; rfl
theorem near31 {c : PN} {x : P3} (hc : bdP 5000 c) (hx : bd 5000 x) : F197_3_1 c x = nr (blo c) (bhi c) x x := by
  unfold F197_3_1
  rw [box3, box1]
  exact nrF (blo_bd hc) (bhi_bd hc) hx hx
/-! the reference's -/
theorem bounds3 (a b c : Int) : F244_L [a, b, c] = (lo3 a b c, hi3 a b c) := rfl
theorem bounds1 (a : Int) : F244_L [a] = (a, a) := by
  have key : ∀ a : Int, (if a < a then a else a) = a := fun a => by split <;> rfl
  show ((if a < a then a else a), (if a < a then a else a)) = _
  rw [key]
theorem gap_r {l m : List Int} {a b c d : Int} (hl : F244_L l = (a, b)) (hm : F244_L m = (c, d)) (ha : -5000 ≤ a ∧ a ≤ 5000) (hb : -5000 ≤ b ∧ b ≤ 5000) (hc : -5000 ≤ c ∧ c ≤ 5000) (hd : -5000 ≤ d ∧ d ≤ 5000) :
    F234_L_L l m = gp a b c d * gp a b c d := by
  unfold F234_L_L
  rw [hl, hm]
  simp only
  rw [W_eq (n := a - d) (by omega) (by omega), W_eq (n := c - b) (by omega) (by omega)]
  have e : (if ((if (0 : Int) < a - d then a - d else 0) : Int) < c - b then c - b else (if (0 : Int) < a - d then a - d else 0)) = gp a b c d := gp_comm a b c d
  rw [e]
  have h1 := gp_bd ha hb hc hd
  have h2 := mul_bd (a := 10000) (b := 10000) (x := gp a b c d) (y := gp a b c d) (by omega) (by omega)
  exact W_eq (by omega) (by omega)
theorem sum3 {a b c : Int} (ha : 0 ≤ a ∧ a ≤ 100000000) (hb : 0 ≤ b ∧ b ≤ 100000000) (hc : 0 ≤ c ∧ c ≤ 100000000) : W ((W (a + b)) + c) = a + b + c := by
  rw [W_eq (n := a + b) (by omega) (by omega), W_eq (by omega) (by omega)]
theorem close1 {c : PN} {x : P3} (hc : bdP 5000 c) (hx : bd 5000 x) : F201_1 c x = nr (blo c) (bhi c) x x := by
  unfold F201_1
  have hl := blo_bd hc; have hh := bhi_bd hc
  have g1 := gap_r (l := F235_3 c 0) (m := F235_1 x 0) (bounds3 c.1.1 c.2.1.1 c.2.2.1) (bounds1 x.1) hl.1 hh.1 hx.1 hx.1
  have g2 := gap_r (l := F235_3 c 1) (m := F235_1 x 1) (bounds3 c.1.2.1 c.2.1.2.1 c.2.2.2.1) (bounds1 x.2.1) hl.2.1 hh.2.1 hx.2.1 hx.2.1
  have g3 := gap_r (l := F235_3 c 2) (m := F235_1 x 2) (bounds3 c.1.2.2 c.2.1.2.2 c.2.2.2.2) (bounds1 x.2.2) hl.2.2 hh.2.2 hx.2.2 hx.2.2
  have b1 := gp_bd hl.1 hh.1 hx.1 hx.1; have b2 := gp_bd hl.2.1 hh.2.1 hx.2.1 hx.2.1; have b3 := gp_bd hl.2.2 hh.2.2 hx.2.2 hx.2.2
  have m1 := mul_bd (a := 10000) (b := 10000) (by omega) (by omega) (x := gp (blo c).1 (bhi c).1 x.1 x.1) (y := gp (blo c).1 (bhi c).1 x.1 x.1)
  have m2 := mul_bd (a := 10000) (b := 10000) (by omega) (by omega) (x := gp (blo c).2.1 (bhi c).2.1 x.2.1 x.2.1) (y := gp (blo c).2.1 (bhi c).2.1 x.2.1 x.2.1)
  have m3 := mul_bd (a := 10000) (b := 10000) (by omega) (by omega) (x := gp (blo c).2.2 (bhi c).2.2 x.2.2 x.2.2) (y := gp (blo c).2.2 (bhi c).2.2 x.2.2 x.2.2)
  refine (show _ = _ from ?_)
  rw [show F234_L_L (F235_3 c 0) (F235_1 x 0) = _ from g1, show F234_L_L (F235_3 c 1) (F235_1 x 1) = _ from g2, show F234_L_L (F235_3 c 2) (F235_1 x 2) = _ from g3]
  exact sum3 ⟨sq_nn _, by have := m1.2; exact this⟩ ⟨sq_nn _, by have := m2.2; exact this⟩ ⟨sq_nn _, by have := m3.2; exact this⟩
end Go.Proofs.YtnkeljlllagddaaGreat

namespace Go.Proofs.YtnkeljlllagddaaGreat
open Go.Proofs Go.Aw Go.RowKit
set_option maxRecDepth 100000
set_option linter.unusedVariables false
set_option linter.unusedSimpArgs false

/-! ### What is asked -/
open Classical in
theorem seen_f (x : P3) : F70 x = decide (bd 256 x) := by
  unfold F70
  rw [within_eq, within_eq, within_eq]
  exact and3 (by unfold bd; omega)
open Classical in
theorem seen_r (x : P3) : F75 x = decide (bd 256 x) := by
  unfold F75
  rw [within_eq3, within_eq3, within_eq3]
  exact and3 (by unfold bd; omega)
open Classical in
noncomputable def ck (p : PN) (x : P3) (d : Int) : Int := if vp p = 0 then (if bd 256 x ∧ (0 ≤ d ∧ d ≤ 3) then 0 else 1) else vp p
open Classical in
theorem ck_aux (v : Int) (a b : Prop) [Decidable a] [Decidable b] : (bif (v != 0) then v else (bif (!(decide a)) then 1 else (bif (!(decide b)) then (1 : Int) else 0))) = if v = 0 then (if a ∧ b then 0 else 1) else v := by
  by_cases hv : v = 0
  · subst hv
    by_cases ha : a <;> by_cases hb : b <;> simp [ha, hb]
  · rw [bne_iff_ne.2 hv, cond_true, if_neg hv]
open Classical in
theorem chk_eq (p : PN) (x : P3) (d : Int) : F128 p x d = ck p x d := by
  unfold F128 ck
  rw [vp_s, seen_f, within_eq]
  exact ck_aux _ _ _
open Classical in
theorem ask_eq (p : PN) (x : P3) (d : Int) : F135 p x d = ck p x d := by
  unfold F135 ck
  rw [vp_r, seen_r, within_eq3]
  exact ck_aux _ _ _
theorem ck_ok {p : PN} {x : P3} {d : Int} (h : ck p x d = 0) : vp p = 0 ∧ bd 256 x ∧ 0 ≤ d ∧ d ≤ 3 := by
  unfold ck at h
  split at h
  · rename_i h0
    split at h
    · rename_i h1; exact ⟨h0, h1⟩
    · cases h
  · rename_i h0; exact absurd h h0
theorem chk_ok {p : PN} {x : P3} {d : Int} (h : ((F128 p x d : Int) != 0) = false) : vp p = 0 ∧ bd 256 x ∧ 0 ≤ d ∧ d ≤ 3 :=
  ck_ok (by rw [← chk_eq]; simpa using h)
theorem chk_le {p : PN} {x : P3} {d : Int} (h : ((F128 p x d : Int) != 0) = false) : 0 ≤ d ∧ d ≤ 3 := (chk_ok h).2.2
theorem ask_le {p : PN} {x : P3} {d : Int} (h : ((F135 p x d : Int) != 0) = false) : 0 ≤ d ∧ d ≤ 3 :=
  (ck_ok (p := p) (x := x) (by rw [← ask_eq]; simpa using h)).2.2
open Classical in
noncomputable def pk (p q : PN) (d : Int) : Int := if vp p = 0 then (if vp q = 0 then (if 0 ≤ d ∧ d ≤ 2 then 0 else 1) else vp q) else vp p
theorem pk_aux (v w : Int) (b : Prop) [Decidable b] : (bif (v != 0) then v else (bif (w != 0) then w else (bif (!(decide b)) then (1 : Int) else 0))) = if v = 0 then (if w = 0 then (if b then 0 else 1) else w) else v := by
  by_cases hv : v = 0
  · subst hv
    by_cases hw : w = 0
    · subst hw; by_cases hb : b <;> simp [hb]
    · rw [bne_iff_ne.2 hw, cond_true, if_neg hw]; simp
  · rw [bne_iff_ne.2 hv, cond_true, if_neg hv]
theorem pair_eq (p q : PN) (d : Int) : F168 p q d = pk p q d := by
  unfold F168 pk
  rw [vp_s, vp_s, within_eq, pk_aux]
theorem pk_ok {p q : PN} {d : Int} (h : pk p q d = 0) : vp p = 0 ∧ vp q = 0 ∧ 0 ≤ d ∧ d ≤ 2 := by
  unfold pk at h
  split at h
  · rename_i h0
    split at h
    · rename_i h1
      split at h
      · rename_i h2; exact ⟨h0, h1, h2⟩
      · cases h
    · rename_i h1; exact absurd h h1
  · rename_i h0; exact absurd h h0
theorem pair_ok {p q : PN} {d : Int} (h : ((F168 p q d : Int) != 0) = false) : vp p = 0 ∧ vp q = 0 ∧ 0 ≤ d ∧ d ≤ 2 :=
  pk_ok (by rw [← pair_eq]; simpa using h)
theorem pair_le {p q : PN} {d : Int} (h : ((F168 p q d : Int) != 0) = false) : 0 ≤ d ∧ d ≤ 3 := by have := pair_ok h; omega
/-- facet/field.Parts -/
def F188 (a0 : (Int × Int × Int) × (Int × Int × Int) × Int × Int × Int) (a1 : Int) : (List ((Int × Int × Int) × (Int × Int × Int) × Int × Int × Int)) × Int :=
  (bif (((F128 a0 (0, 0, 0) a1) : Int) != 0) then
   (([] : List ((Int × Int × Int) × (Int × Int × Int) × Int × Int × Int)), (F128 a0 (0, 0, 0) a1))
  else
   ((F226_c221 a0 a1), 0))

theorem C188 (a0 : (Int × Int × Int) × (Int × Int × Int) × Int × Int × Int) (a1 : Int) : Con Tryz.prog 188 [(.a (k9 a0)), (iv a1)] [] (.t [(.s 0 0 (F188 a0 a1).1.length 9), (iv (F188 a0 a1).2)]) [(.live true true (flat c65 (F188 a0 a1).1))] := by
  cases h0 : (((F128 a0 (0, 0, 0) a1) : Int) != 0) with
  | true =>
    have q0 := bne_iff_ne.1 h0
    have e : (F188 a0 a1) = (([] : List ((Int × Int × Int) × (Int × Int × Int) × Int × Int × Int)), (F128 a0 (0, 0, 0) a1)) := by simp only [F188, h0, cond_true, cond_false]
    rw [e]
    refine con_of (n := 9) Tryz.func188 rfl (ent Tryz.func188 (by kernel_rfl) rfl) (by show 2 ≤ Tryz.f188.ntmps; decide) (by kernel_rfl) trivial (fun cx hcx => ?_)
    exact ret_of (T := T0) hT hm (f := 5000) (orc := [.call [] (iv (F128 a0 (0, 0, 0) a1)) [], .d true]) [.slot 4 9] [] [1] hcx
      (obs := [.call 128 [(.a (k9 a0)), (.a [(iv 0), (iv 0), (iv 0)]), (iv a1)] [] (iv (F128 a0 (0, 0, 0) a1)) [], .eq (((F128 a0 (0, 0, 0) a1) : Int) != 0) true]) (by kernel_rfl) ⟨(C128 a0 (0, 0, 0) a1), h0, trivial⟩
  | false =>
    have q0 := bne_eq_false_iff_eq.1 h0
    have e : (F188 a0 a1) = ((F226_c221 a0 a1), 0) := by simp only [F188, h0, cond_true, cond_false]
    rw [e]
    refine con_of (n := 9) Tryz.func188 rfl (ent Tryz.func188 (by kernel_rfl) rfl) (by show 2 ≤ Tryz.f188.ntmps; decide) (by kernel_rfl) trivial (fun cx hcx => ?_)
    exact ret_of (T := T0) hT hm (f := 5000) (orc := [.call [] (iv (F128 a0 (0, 0, 0) a1)) [], .d false, .call [] (.f 221 [(.p 0 0), (.p 1 0)]) [(.live true false (k9 a0)), (.live true false [(iv a1)])], .call [1, 2] (.s 2 0 (F226_c221 a0 a1).length 9) [(.live true true (flat c65 (F226_c221 a0 a1)))]]) [] [] [3] hcx
      (obs := [.call 128 [(.a (k9 a0)), (.a [(iv 0), (iv 0), (iv 0)]), (iv a1)] [] (iv (F128 a0 (0, 0, 0) a1)) [], .eq (((F128 a0 (0, 0, 0) a1) : Int) != 0) false, .call 176 [(.a (k9 a0)), (iv a1)] [] (.f 221 [(.p 0 0), (.p 1 0)]) [(.live true false (k9 a0)), (.live true false [(iv a1)])], .call 226 [(.f 221 [(.p 0 0), (.p 1 0)])] [(.live false false (k9 a0)), (.live false false [(iv a1)])] (.s 2 0 (F226_c221 a0 a1).length 9) [(.live true true (flat c65 (F226_c221 a0 a1)))]]) (by kernel_rfl) ⟨(C128 a0 (0, 0, 0) a1), h0, (C176 a0 a1), (C226_c221 a0 a1  (chk_le h0)), trivial⟩

/-- facet/field.Mean -/
def F64 (a0 : (Int × Int × Int) × (Int × Int × Int) × Int × Int × Int) (a1 : Int × Int × Int) (a2 : Int) : (Int × Int) × Int :=
  (bif (((F128 a0 a1 a2) : Int) != 0) then
   ((0, 0), (F128 a0 a1 a2))
  else
   ((F129_f130 a0 a1 a2).1, (F129_f130 a0 a1 a2).2))

theorem C64 (a0 : (Int × Int × Int) × (Int × Int × Int) × Int × Int × Int) (a1 : Int × Int × Int) (a2 : Int) : Con Tryz.prog 64 [(.a (k9 a0)), (.a (k3 a1)), (iv a2)] [] (.t [(.a (k2 (F64 a0 a1 a2).1)), (iv (F64 a0 a1 a2).2)]) [] := by
  cases h0 : (((F128 a0 a1 a2) : Int) != 0) with
  | true =>
    have q0 := bne_iff_ne.1 h0
    have e : (F64 a0 a1 a2) = ((0, 0), (F128 a0 a1 a2)) := by simp only [F64, h0, cond_true, cond_false]
    rw [e]
    refine con_of (n := 9) Tryz.func64 rfl (ent Tryz.func64 (by kernel_rfl) rfl) (by show 3 ≤ Tryz.f64.ntmps; decide) (by kernel_rfl) trivial (fun cx hcx => ?_)
    exact ret_of (T := T0) hT hm (f := 5000) (orc := [.call [] (iv (F128 a0 a1 a2)) [], .d true]) [] [] [] hcx
      (obs := [.call 128 [(.a (k9 a0)), (.a (k3 a1)), (iv a2)] [] (iv (F128 a0 a1 a2)) [], .eq (((F128 a0 a1 a2) : Int) != 0) true]) (by kernel_rfl) ⟨(C128 a0 a1 a2), h0, trivial⟩
  | false =>
    have q0 := bne_eq_false_iff_eq.1 h0
    have e : (F64 a0 a1 a2) = ((F129_f130 a0 a1 a2).1, (F129_f130 a0 a1 a2).2) := by simp only [F64, h0, cond_true, cond_false]
    rw [e]
    refine con_of (n := 9) Tryz.func64 rfl (ent Tryz.func64 (by kernel_rfl) rfl) (by show 3 ≤ Tryz.f64.ntmps; decide) (by kernel_rfl) trivial (fun cx hcx => ?_)
    exact ret_of (T := T0) hT hm (f := 5000) (orc := [.call [] (iv (F128 a0 a1 a2)) [], .d false, .call [] (.t [(.a (k2 (F129_f130 a0 a1 a2).1)), (iv (F129_f130 a0 a1 a2).2)]) []]) [] [] [] hcx
      (obs := [.call 128 [(.a (k9 a0)), (.a (k3 a1)), (iv a2)] [] (iv (F128 a0 a1 a2)) [], .eq (((F128 a0 a1 a2) : Int) != 0) false, .call 129 [(.a (k9 a0)), (.a (k3 a1)), (iv a2), (.v (.func (.func 130) #[] #[]))] [] (.t [(.a (k2 (F129_f130 a0 a1 a2).1)), (iv (F129_f130 a0 a1 a2).2)]) []]) (by kernel_rfl) ⟨(C128 a0 a1 a2), h0, (C129_f130 a0 a1 a2  (chk_le h0)), trivial⟩

/-- facet/facetref03.Mean -/
def F66 (a0 : (Int × Int × Int) × (Int × Int × Int) × Int × Int × Int) (a1 : Int × Int × Int) (a2 : Int) : (Int × Int) × Int :=
  (bif (((F135 a0 a1 a2) : Int) != 0) then
   ((0, 0), (F135 a0 a1 a2))
  else
   ((F136 a0 a1 a2 false).1, (F136 a0 a1 a2 false).2))

theorem C66 (a0 : (Int × Int × Int) × (Int × Int × Int) × Int × Int × Int) (a1 : Int × Int × Int) (a2 : Int) : Con Tryz.prog 66 [(.a (k9 a0)), (.a (k3 a1)), (iv a2)] [] (.t [(.a (k2 (F66 a0 a1 a2).1)), (iv (F66 a0 a1 a2).2)]) [] := by
  cases h0 : (((F135 a0 a1 a2) : Int) != 0) with
  | true =>
    have q0 := bne_iff_ne.1 h0
    have e : (F66 a0 a1 a2) = ((0, 0), (F135 a0 a1 a2)) := by simp only [F66, h0, cond_true, cond_false]
    rw [e]
    refine con_of (n := 9) Tryz.func66 rfl (ent Tryz.func66 (by kernel_rfl) rfl) (by show 3 ≤ Tryz.f66.ntmps; decide) (by kernel_rfl) trivial (fun cx hcx => ?_)
    exact ret_of (T := T0) hT hm (f := 5000) (orc := [.call [] (iv (F135 a0 a1 a2)) [], .d true]) [] [] [] hcx
      (obs := [.call 135 [(.a (k9 a0)), (.a (k3 a1)), (iv a2)] [] (iv (F135 a0 a1 a2)) [], .eq (((F135 a0 a1 a2) : Int) != 0) true]) (by kernel_rfl) ⟨(C135 a0 a1 a2), h0, trivial⟩
  | false =>
    have q0 := bne_eq_false_iff_eq.1 h0
    have e : (F66 a0 a1 a2) = ((F136 a0 a1 a2 false).1, (F136 a0 a1 a2 false).2) := by simp only [F66, h0, cond_true, cond_false]
    rw [e]
    refine con_of (n := 9) Tryz.func66 rfl (ent Tryz.func66 (by kernel_rfl) rfl) (by show 3 ≤ Tryz.f66.ntmps; decide) (by kernel_rfl) trivial (fun cx hcx => ?_)
    exact ret_of (T := T0) hT hm (f := 5000) (orc := [.call [] (iv (F135 a0 a1 a2)) [], .d false, .call [] (.t [(.a (k2 (F136 a0 a1 a2 false).1)), (iv (F136 a0 a1 a2 false).2)]) []]) [] [] [] hcx
      (obs := [.call 135 [(.a (k9 a0)), (.a (k3 a1)), (iv a2)] [] (iv (F135 a0 a1 a2)) [], .eq (((F135 a0 a1 a2) : Int) != 0) false, .call 136 [(.a (k9 a0)), (.a (k3 a1)), (iv a2), (.v (.bool false))] [] (.t [(.a (k2 (F136 a0 a1 a2 false).1)), (iv (F136 a0 a1 a2 false).2)]) []]) (by kernel_rfl) ⟨(C135 a0 a1 a2), h0, (C136 a0 a1 a2 false  (ask_le h0)), trivial⟩

end Go.Proofs.YtnkeljlllagddaaGreat

namespace Go.Proofs.YtnkeljlllagddaaGreat
open Go.Proofs Go.Aw Go.RowKit
set_option maxRecDepth 100000
set_option linter.unusedVariables false
set_option linter.unusedSimpArgs false

/-! ### The parts -/
theorem foldl_snoc {α : Type} : ∀ (l a : List α), l.foldl (fun v x => v ++ [x]) a = a ++ l
  | [], a => by simp
  | x :: l, a => by rw [List.foldl_cons, foldl_snoc l]; simp
theorem collect_eq (p : PN) (d : Int) : F226_c221 p d = cutL d.toNat p := by
  have h := foldl_snoc (cutL d.toNat p) []
  rw [List.nil_append] at h
  exact h
open Classical in
theorem parts_f (p : PN) (d : Int) : F188 p d = if vp p = 0 then (if 0 ≤ d ∧ d ≤ 3 then (cutL d.toNat p, 0) else ([], 1)) else ([], vp p) := by
  have h0 : bd 256 (0, 0, 0) := by unfold bd; simp only; omega
  unfold F188
  rw [chk_eq, collect_eq]
  unfold ck
  by_cases hv : vp p = 0
  · by_cases hd : 0 ≤ d ∧ d ≤ 3
    · rw [if_pos hv, if_pos ⟨h0, hd⟩, if_pos hv, if_pos hd]; rfl
    · rw [if_pos hv, if_neg (fun h => hd h.2), if_pos hv, if_neg hd]; rfl
  · rw [if_neg hv, if_neg hv, bne_iff_ne.2 hv, cond_true]
theorem cutL_len : ∀ (d : Nat) (p : PN), (cutL d p).length = 4 ^ d
  | 0, p => rfl
  | d + 1, p => by
    rw [cutL_quad]
    have : ∀ l : List PN, (l.flatMap quad).length = 4 * l.length := fun l => by
      induction l with
      | nil => rfl
      | cons x l ih => rw [List.flatMap_cons, List.length_append, ih]; show 4 + _ = _; simp only [List.length_cons]; omega
    rw [this, cutL_len d p, Nat.pow_succ]; omega
end Go.Proofs.YtnkeljlllagddaaGreat
