/-
  A part of the proofs of the Field laws: what functions of the program compute, and that it is what the statements ask. No premise.
-/
import Derived.Test.YtopbnnmkdildgaaMi
namespace Go.Proofs.Ytopbnnmkdildgaa
open Go.Proofs Go.Aw Go.RowKit
set_option maxRecDepth 100000
set_option linter.unusedVariables false
set_option linter.unusedSimpArgs false

theorem v1_ok {a : Int × Int} (h : ((F75_1 a : Int) != 0) = false) : -1099511627776 ≤ a.1 ∧ a.1 ≤ a.2 ∧ a.2 ≤ 1099511627776 := by
  have h : F75_1 a = 0 := by simpa using h
  unfold F75_1 at h
  cases h0 : F102 a with
  | false => rw [h0] at h; cases h
  | true =>
    unfold F102 at h0
    by_cases h1 : a.1 ≥ -1099511627776
    · by_cases h2 : a.1 ≤ a.2
      · rw [decide_eq_true h1, cond_true, decide_eq_true h2, cond_true] at h0
        exact ⟨h1, h2, of_decide_eq_true h0⟩
      · rw [decide_eq_true h1, cond_true, decide_eq_false h2, cond_false] at h0; cases h0
    · rw [decide_eq_false h1, cond_false] at h0; cases h0

/-- facet/span.whole -/
def F76 (a0 : Int) : Bool :=
  (bif (decide ((a0 : Int) ≥ (-1099511627776))) then
   (decide ((a0 : Int) ≤ 1099511627776))
  else
   false)

theorem C76 (a0 : Int) : Con Try.prog 76 [(iv a0)] [] (.v (.bool (F76 a0))) [] := by
  cases h0 : (decide ((a0 : Int) ≥ (-1099511627776))) with
  | true =>
    have q0 := of_decide_eq_true h0
    have e : (F76 a0) = (decide ((a0 : Int) ≤ 1099511627776)) := by simp only [F76, h0, cond_true, cond_false]
    rw [e]
    refine con_of (n := 9) Try.func76 rfl (ent Try.func76 (by kernel_rfl) rfl) (by show 1 ≤ Try.f76.ntmps; decide) (by kernel_rfl) trivial (fun cx hcx => ?_)
    exact ret_of (T := T0) hT hm (f := 5000) (orc := [.d true]) [] [] [] hcx
      (obs := [.eq (decide ((a0 : Int) ≥ (-1099511627776))) true]) (by kernel_rfl) ⟨h0, trivial⟩
  | false =>
    have q0 := of_decide_eq_false h0
    have e : (F76 a0) = false := by simp only [F76, h0, cond_true, cond_false]
    rw [e]
    refine con_of (n := 9) Try.func76 rfl (ent Try.func76 (by kernel_rfl) rfl) (by show 1 ≤ Try.f76.ntmps; decide) (by kernel_rfl) trivial (fun cx hcx => ?_)
    exact ret_of (T := T0) hT hm (f := 5000) (orc := [.d false]) [] [] [] hcx
      (obs := [.eq (decide ((a0 : Int) ≥ (-1099511627776))) false]) (by kernel_rfl) ⟨h0, trivial⟩

/-- facet/span.Scale -/
def F39 (a0 : Int × Int) (a1 : Int) : (Int × Int) × Int :=
  (bif (((F75_1 a0) : Int) != 0) then
   ((0, 0), (F75_1 a0))
  else
   (bif (!(F76 a1)) then
    ((0, 0), 1)
   else
    ((F78 (if ((F77 a0.2 a1) : Int) < (F77 a0.1 a1) then (F77 a0.2 a1) else (F77 a0.1 a1)) (if ((F77 a0.1 a1) : Int) < (F77 a0.2 a1) then (F77 a0.2 a1) else (F77 a0.1 a1))).1, (F78 (if ((F77 a0.2 a1) : Int) < (F77 a0.1 a1) then (F77 a0.2 a1) else (F77 a0.1 a1)) (if ((F77 a0.1 a1) : Int) < (F77 a0.2 a1) then (F77 a0.2 a1) else (F77 a0.1 a1))).2)))

noncomputable def oC39_0 (a0 : Int × Int) : Ob := .call 75 [(.s 0 0 1 2)] [(.live false false [(iv a0.1), (iv a0.2)])] (iv (F75_1 a0)) []
theorem C39 (a0 : Int × Int) (a1 : Int) : Con Try.prog 39 [(.a [(iv a0.1), (iv a0.2)]), (iv a1)] [] (.t [(.a (k2 (F39 a0 a1).1)), (iv (F39 a0 a1).2)]) [] := by
  cases h0 : (((F75_1 a0) : Int) != 0) with
  | true =>
    have q0 := bne_iff_ne.1 h0
    have e : (F39 a0 a1) = ((0, 0), (F75_1 a0)) := by simp only [F39, h0, cond_true, cond_false]
    rw [e]
    refine con_of (n := 9) Try.func39 rfl (ent Try.func39 (by kernel_rfl) rfl) (by show 2 ≤ Try.f39.ntmps; decide) (by kernel_rfl) trivial (fun cx hcx => ?_)
    exact ret_of (T := T0) hT hm (f := 5000) (orc := [.call [2] (iv (F75_1 a0)) [], .d true]) [] [] [] hcx
      (obs := [(oC39_0 a0), .eq (((F75_1 a0) : Int) != 0) true]) (by kernel_rfl) ⟨(C75_1 a0), h0, trivial⟩
  | false =>
    cases h1 : (!(F76 a1)) with
    | true =>
      have q0 := bne_eq_false_iff_eq.1 h0
      have e : (F39 a0 a1) = ((0, 0), 1) := by simp only [F39, h0, h1, cond_true, cond_false]
      rw [e]
      refine con_of (n := 9) Try.func39 rfl (ent Try.func39 (by kernel_rfl) rfl) (by show 2 ≤ Try.f39.ntmps; decide) (by kernel_rfl) trivial (fun cx hcx => ?_)
      exact ret_of (T := T0) hT hm (f := 5000) (orc := [.call [2] (iv (F75_1 a0)) [], .d false, .call [] (.v (.bool (F76 a1))) [], .d true]) [] [] [] hcx
        (obs := [(oC39_0 a0), .eq (((F75_1 a0) : Int) != 0) false, .call 76 [(iv a1)] [] (.v (.bool (F76 a1))) [], .eq (!(F76 a1)) true]) (by kernel_rfl) ⟨(C75_1 a0), h0, (C76 a1), h1, trivial⟩
    | false =>
      have q0 := bne_eq_false_iff_eq.1 h0
      have e : (F39 a0 a1) = ((F78 (if ((F77 a0.2 a1) : Int) < (F77 a0.1 a1) then (F77 a0.2 a1) else (F77 a0.1 a1)) (if ((F77 a0.1 a1) : Int) < (F77 a0.2 a1) then (F77 a0.2 a1) else (F77 a0.1 a1))).1, (F78 (if ((F77 a0.2 a1) : Int) < (F77 a0.1 a1) then (F77 a0.2 a1) else (F77 a0.1 a1)) (if ((F77 a0.1 a1) : Int) < (F77 a0.2 a1) then (F77 a0.2 a1) else (F77 a0.1 a1))).2) := by simp only [F39, h0, h1, cond_true, cond_false]
      rw [e]
      refine con_of (n := 9) Try.func39 rfl (ent Try.func39 (by kernel_rfl) rfl) (by show 2 ≤ Try.f39.ntmps; decide) (by kernel_rfl) trivial (fun cx hcx => ?_)
      exact ret_of (T := T0) hT hm (f := 5000) (orc := [.call [2] (iv (F75_1 a0)) [], .d false, .call [] (.v (.bool (F76 a1))) [], .d false, .call [] (iv (F77 a0.1 a1)) [], .call [] (iv (F77 a0.2 a1)) [], .call [] (.t [(.a (k2 (F78 (if ((F77 a0.2 a1) : Int) < (F77 a0.1 a1) then (F77 a0.2 a1) else (F77 a0.1 a1)) (if ((F77 a0.1 a1) : Int) < (F77 a0.2 a1) then (F77 a0.2 a1) else (F77 a0.1 a1))).1)), (iv (F78 (if ((F77 a0.2 a1) : Int) < (F77 a0.1 a1) then (F77 a0.2 a1) else (F77 a0.1 a1)) (if ((F77 a0.1 a1) : Int) < (F77 a0.2 a1) then (F77 a0.2 a1) else (F77 a0.1 a1))).2)]) []]) [] [] [] hcx
        (obs := [(oC39_0 a0), .eq (((F75_1 a0) : Int) != 0) false, .call 76 [(iv a1)] [] (.v (.bool (F76 a1))) [], .eq (!(F76 a1)) false, .call 77 [(iv a0.1), (iv a1)] [] (iv (F77 a0.1 a1)) [], .call 77 [(iv a0.2), (iv a1)] [] (iv (F77 a0.2 a1)) [], .call 78 [(iv (if ((F77 a0.2 a1) : Int) < (F77 a0.1 a1) then (F77 a0.2 a1) else (F77 a0.1 a1))), (iv (if ((F77 a0.1 a1) : Int) < (F77 a0.2 a1) then (F77 a0.2 a1) else (F77 a0.1 a1)))] [] (.t [(.a (k2 (F78 (if ((F77 a0.2 a1) : Int) < (F77 a0.1 a1) then (F77 a0.2 a1) else (F77 a0.1 a1)) (if ((F77 a0.1 a1) : Int) < (F77 a0.2 a1) then (F77 a0.2 a1) else (F77 a0.1 a1))).1)), (iv (F78 (if ((F77 a0.2 a1) : Int) < (F77 a0.1 a1) then (F77 a0.2 a1) else (F77 a0.1 a1)) (if ((F77 a0.1 a1) : Int) < (F77 a0.2 a1) then (F77 a0.2 a1) else (F77 a0.1 a1))).2)]) []]) (by kernel_rfl) ⟨(C75_1 a0), h0, (C76 a1), h1, (C77 a0.1 a1  (by have := v1_ok h0; omega)), (C77 a0.2 a1  (by have := v1_ok h0; omega)), (C78 (if ((F77 a0.2 a1) : Int) < (F77 a0.1 a1) then (F77 a0.2 a1) else (F77 a0.1 a1)) (if ((F77 a0.1 a1) : Int) < (F77 a0.2 a1) then (F77 a0.2 a1) else (F77 a0.1 a1))), trivial⟩

/-- facet/facetref01.size -/
def F156 (a0 : Int) : Int :=
  (bif (decide ((a0 : Int) < 0)) then
   (IntKind.wrap .u64 (W (0 - a0)))
  else
   (IntKind.wrap .u64 a0))

theorem C156 (a0 : Int) : Con Try.prog 156 [(iv a0)] [] (.v (.int .u64 (F156 a0))) [] := by
  cases h0 : (decide ((a0 : Int) < 0)) with
  | true =>
    have q0 := of_decide_eq_true h0
    have e : (F156 a0) = (IntKind.wrap .u64 (W (0 - a0))) := by simp only [F156, h0, cond_true, cond_false]
    rw [e]
    refine con_of (n := 9) Try.func156 rfl (ent Try.func156 (by kernel_rfl) rfl) (by show 1 ≤ Try.f156.ntmps; decide) (by kernel_rfl) trivial (fun cx hcx => ?_)
    exact ret_of (T := T0) hT hm (f := 5000) (orc := [.d true]) [] [] [] hcx
      (obs := [.eq (decide ((a0 : Int) < 0)) true]) (by kernel_rfl) ⟨h0, trivial⟩
  | false =>
    have q0 := of_decide_eq_false h0
    have e : (F156 a0) = (IntKind.wrap .u64 a0) := by simp only [F156, h0, cond_true, cond_false]
    rw [e]
    refine con_of (n := 9) Try.func156 rfl (ent Try.func156 (by kernel_rfl) rfl) (by show 1 ≤ Try.f156.ntmps; decide) (by kernel_rfl) trivial (fun cx hcx => ?_)
    exact ret_of (T := T0) hT hm (f := 5000) (orc := [.d false]) [] [] [] hcx
      (obs := [.eq (decide ((a0 : Int) < 0)) false]) (by kernel_rfl) ⟨h0, trivial⟩

/-- math/bits.Mul64 -/
def F155 (a0 : Int) (a1 : Int) : Int × Int :=
  ((IntKind.wrap .u64 ((IntKind.wrap .u64 ((IntKind.wrap .u64 ((Int.fdiv a0 (2 ^ (min (Int.toNat 32) 64))) * (Int.fdiv a1 (2 ^ (min (Int.toNat 32) 64))))) + (Int.fdiv (IntKind.wrap .u64 ((IntKind.wrap .u64 ((Int.fdiv a0 (2 ^ (min (Int.toNat 32) 64))) * (IntKind.wrap .u64 ((BitVec.ofInt 64 a1 &&& BitVec.ofInt 64 4294967295).toNat : Int)))) + (Int.fdiv (IntKind.wrap .u64 ((IntKind.wrap .u64 ((BitVec.ofInt 64 a0 &&& BitVec.ofInt 64 4294967295).toNat : Int)) * (IntKind.wrap .u64 ((BitVec.ofInt 64 a1 &&& BitVec.ofInt 64 4294967295).toNat : Int)))) (2 ^ (min (Int.toNat 32) 64))))) (2 ^ (min (Int.toNat 32) 64))))) + (Int.fdiv (IntKind.wrap .u64 ((IntKind.wrap .u64 ((BitVec.ofInt 64 (IntKind.wrap .u64 ((IntKind.wrap .u64 ((Int.fdiv a0 (2 ^ (min (Int.toNat 32) 64))) * (IntKind.wrap .u64 ((BitVec.ofInt 64 a1 &&& BitVec.ofInt 64 4294967295).toNat : Int)))) + (Int.fdiv (IntKind.wrap .u64 ((IntKind.wrap .u64 ((BitVec.ofInt 64 a0 &&& BitVec.ofInt 64 4294967295).toNat : Int)) * (IntKind.wrap .u64 ((BitVec.ofInt 64 a1 &&& BitVec.ofInt 64 4294967295).toNat : Int)))) (2 ^ (min (Int.toNat 32) 64))))) &&& BitVec.ofInt 64 4294967295).toNat : Int)) + (IntKind.wrap .u64 ((IntKind.wrap .u64 ((BitVec.ofInt 64 a0 &&& BitVec.ofInt 64 4294967295).toNat : Int)) * (Int.fdiv a1 (2 ^ (min (Int.toNat 32) 64))))))) (2 ^ (min (Int.toNat 32) 64))))), (IntKind.wrap .u64 (a0 * a1)))

theorem C155 (a0 : Int) (a1 : Int) : Con Try.prog 155 [(.v (.int .u64 a0)), (.v (.int .u64 a1))] [] (.t [(.v (.int .u64 (F155 a0 a1).1)), (.v (.int .u64 (F155 a0 a1).2))]) [] := by
  have e : (F155 a0 a1) = ((IntKind.wrap .u64 ((IntKind.wrap .u64 ((IntKind.wrap .u64 ((Int.fdiv a0 (2 ^ (min (Int.toNat 32) 64))) * (Int.fdiv a1 (2 ^ (min (Int.toNat 32) 64))))) + (Int.fdiv (IntKind.wrap .u64 ((IntKind.wrap .u64 ((Int.fdiv a0 (2 ^ (min (Int.toNat 32) 64))) * (IntKind.wrap .u64 ((BitVec.ofInt 64 a1 &&& BitVec.ofInt 64 4294967295).toNat : Int)))) + (Int.fdiv (IntKind.wrap .u64 ((IntKind.wrap .u64 ((BitVec.ofInt 64 a0 &&& BitVec.ofInt 64 4294967295).toNat : Int)) * (IntKind.wrap .u64 ((BitVec.ofInt 64 a1 &&& BitVec.ofInt 64 4294967295).toNat : Int)))) (2 ^ (min (Int.toNat 32) 64))))) (2 ^ (min (Int.toNat 32) 64))))) + (Int.fdiv (IntKind.wrap .u64 ((IntKind.wrap .u64 ((BitVec.ofInt 64 (IntKind.wrap .u64 ((IntKind.wrap .u64 ((Int.fdiv a0 (2 ^ (min (Int.toNat 32) 64))) * (IntKind.wrap .u64 ((BitVec.ofInt 64 a1 &&& BitVec.ofInt 64 4294967295).toNat : Int)))) + (Int.fdiv (IntKind.wrap .u64 ((IntKind.wrap .u64 ((BitVec.ofInt 64 a0 &&& BitVec.ofInt 64 4294967295).toNat : Int)) * (IntKind.wrap .u64 ((BitVec.ofInt 64 a1 &&& BitVec.ofInt 64 4294967295).toNat : Int)))) (2 ^ (min (Int.toNat 32) 64))))) &&& BitVec.ofInt 64 4294967295).toNat : Int)) + (IntKind.wrap .u64 ((IntKind.wrap .u64 ((BitVec.ofInt 64 a0 &&& BitVec.ofInt 64 4294967295).toNat : Int)) * (Int.fdiv a1 (2 ^ (min (Int.toNat 32) 64))))))) (2 ^ (min (Int.toNat 32) 64))))), (IntKind.wrap .u64 (a0 * a1))) := by simp only [F155]
  rw [e]
  refine con_of (n := 9) Try.func155 rfl (ent Try.func155 (by kernel_rfl) rfl) (by show 2 ≤ Try.f155.ntmps; decide) (by kernel_rfl) trivial (fun cx hcx => ?_)
  exact ret_of (T := T0) hT hm (f := 5000) (orc := []) [] [] [] hcx
    (obs := [.pr (0 ≤ (32 : Int)), .pr (0 ≤ (32 : Int)), .pr (0 ≤ (32 : Int)), .pr (0 ≤ (32 : Int)), .pr (0 ≤ (32 : Int))]) (by kernel_rfl) ⟨(show 0 ≤ (32 : Int) from by decide), (show 0 ≤ (32 : Int) from by decide), (show 0 ≤ (32 : Int) from by decide), (show 0 ≤ (32 : Int) from by decide), (show 0 ≤ (32 : Int) from by decide), trivial⟩

/-- facet/facetref01.product -/
def F126 (a0 : Int) (a1 : Int) : Int :=
  (bif (((F155 (F156 a0) (F156 a1)).1 : Int) == 0) then
   (bif (decide (((F155 (F156 a0) (F156 a1)).2 : Int) ≤ 1099511627776)) then
    (bif (!((decide ((a0 : Int) < 0)) == (decide ((a1 : Int) < 0)))) then
     (W (0 - (W (F155 (F156 a0) (F156 a1)).2)))
    else
     (W (F155 (F156 a0) (F156 a1)).2))
   else
    (bif (!((decide ((a0 : Int) < 0)) == (decide ((a1 : Int) < 0)))) then
     (-1099511627777)
    else
     1099511627777))
  else
   (bif (!((decide ((a0 : Int) < 0)) == (decide ((a1 : Int) < 0)))) then
    (-1099511627777)
   else
    1099511627777))

theorem C126 (a0 : Int) (a1 : Int) : Con Try.prog 126 [(iv a0), (iv a1)] [] (iv (F126 a0 a1)) [] := by
  cases h0 : (((F155 (F156 a0) (F156 a1)).1 : Int) == 0) with
  | true =>
    cases h1 : (decide (((F155 (F156 a0) (F156 a1)).2 : Int) ≤ 1099511627776)) with
    | true =>
      cases h2 : (!((decide ((a0 : Int) < 0)) == (decide ((a1 : Int) < 0)))) with
      | true =>
        have q0 := eq_of_beq h0
        have q1 := of_decide_eq_true h1
        have e : (F126 a0 a1) = (W (0 - (W (F155 (F156 a0) (F156 a1)).2))) := by simp only [F126, h0, h1, h2, cond_true, cond_false]
        rw [e]
        refine con_of (n := 9) Try.func126 rfl (ent Try.func126 (by kernel_rfl) rfl) (by show 2 ≤ Try.f126.ntmps; decide) (by kernel_rfl) trivial (fun cx hcx => ?_)
        exact ret_of (T := T0) hT hm (f := 5000) (orc := [.call [] (.v (.int .u64 (F156 a0))) [], .call [] (.v (.int .u64 (F156 a1))) [], .call [] (.t [(.v (.int .u64 (F155 (F156 a0) (F156 a1)).1)), (.v (.int .u64 (F155 (F156 a0) (F156 a1)).2))]) [], .d true, .d true, .d true]) [] [] [] hcx
          (obs := [.call 156 [(iv a0)] [] (.v (.int .u64 (F156 a0))) [], .call 156 [(iv a1)] [] (.v (.int .u64 (F156 a1))) [], .call 155 [(.v (.int .u64 (F156 a0))), (.v (.int .u64 (F156 a1)))] [] (.t [(.v (.int .u64 (F155 (F156 a0) (F156 a1)).1)), (.v (.int .u64 (F155 (F156 a0) (F156 a1)).2))]) [], .eq (((F155 (F156 a0) (F156 a1)).1 : Int) == 0) true, .eq (decide (((F155 (F156 a0) (F156 a1)).2 : Int) ≤ 1099511627776)) true, .eq (!((decide ((a0 : Int) < 0)) == (decide ((a1 : Int) < 0)))) true]) (by kernel_rfl) ⟨(C156 a0), (C156 a1), (C155 (F156 a0) (F156 a1)), h0, h1, h2, trivial⟩
      | false =>
        have q0 := eq_of_beq h0
        have q1 := of_decide_eq_true h1
        have e : (F126 a0 a1) = (W (F155 (F156 a0) (F156 a1)).2) := by simp only [F126, h0, h1, h2, cond_true, cond_false]
        rw [e]
        refine con_of (n := 9) Try.func126 rfl (ent Try.func126 (by kernel_rfl) rfl) (by show 2 ≤ Try.f126.ntmps; decide) (by kernel_rfl) trivial (fun cx hcx => ?_)
        exact ret_of (T := T0) hT hm (f := 5000) (orc := [.call [] (.v (.int .u64 (F156 a0))) [], .call [] (.v (.int .u64 (F156 a1))) [], .call [] (.t [(.v (.int .u64 (F155 (F156 a0) (F156 a1)).1)), (.v (.int .u64 (F155 (F156 a0) (F156 a1)).2))]) [], .d true, .d true, .d false]) [] [] [] hcx
          (obs := [.call 156 [(iv a0)] [] (.v (.int .u64 (F156 a0))) [], .call 156 [(iv a1)] [] (.v (.int .u64 (F156 a1))) [], .call 155 [(.v (.int .u64 (F156 a0))), (.v (.int .u64 (F156 a1)))] [] (.t [(.v (.int .u64 (F155 (F156 a0) (F156 a1)).1)), (.v (.int .u64 (F155 (F156 a0) (F156 a1)).2))]) [], .eq (((F155 (F156 a0) (F156 a1)).1 : Int) == 0) true, .eq (decide (((F155 (F156 a0) (F156 a1)).2 : Int) ≤ 1099511627776)) true, .eq (!((decide ((a0 : Int) < 0)) == (decide ((a1 : Int) < 0)))) false]) (by kernel_rfl) ⟨(C156 a0), (C156 a1), (C155 (F156 a0) (F156 a1)), h0, h1, h2, trivial⟩
    | false =>
      cases h2 : (!((decide ((a0 : Int) < 0)) == (decide ((a1 : Int) < 0)))) with
      | true =>
        have q0 := eq_of_beq h0
        have q1 := of_decide_eq_false h1
        have e : (F126 a0 a1) = (-1099511627777) := by simp only [F126, h0, h1, h2, cond_true, cond_false]
        rw [e]
        refine con_of (n := 9) Try.func126 rfl (ent Try.func126 (by kernel_rfl) rfl) (by show 2 ≤ Try.f126.ntmps; decide) (by kernel_rfl) trivial (fun cx hcx => ?_)
        exact ret_of (T := T0) hT hm (f := 5000) (orc := [.call [] (.v (.int .u64 (F156 a0))) [], .call [] (.v (.int .u64 (F156 a1))) [], .call [] (.t [(.v (.int .u64 (F155 (F156 a0) (F156 a1)).1)), (.v (.int .u64 (F155 (F156 a0) (F156 a1)).2))]) [], .d true, .d false, .d true]) [] [] [] hcx
          (obs := [.call 156 [(iv a0)] [] (.v (.int .u64 (F156 a0))) [], .call 156 [(iv a1)] [] (.v (.int .u64 (F156 a1))) [], .call 155 [(.v (.int .u64 (F156 a0))), (.v (.int .u64 (F156 a1)))] [] (.t [(.v (.int .u64 (F155 (F156 a0) (F156 a1)).1)), (.v (.int .u64 (F155 (F156 a0) (F156 a1)).2))]) [], .eq (((F155 (F156 a0) (F156 a1)).1 : Int) == 0) true, .eq (decide (((F155 (F156 a0) (F156 a1)).2 : Int) ≤ 1099511627776)) false, .eq (!((decide ((a0 : Int) < 0)) == (decide ((a1 : Int) < 0)))) true]) (by kernel_rfl) ⟨(C156 a0), (C156 a1), (C155 (F156 a0) (F156 a1)), h0, h1, h2, trivial⟩
      | false =>
        have q0 := eq_of_beq h0
        have q1 := of_decide_eq_false h1
        have e : (F126 a0 a1) = 1099511627777 := by simp only [F126, h0, h1, h2, cond_true, cond_false]
        rw [e]
        refine con_of (n := 9) Try.func126 rfl (ent Try.func126 (by kernel_rfl) rfl) (by show 2 ≤ Try.f126.ntmps; decide) (by kernel_rfl) trivial (fun cx hcx => ?_)
        exact ret_of (T := T0) hT hm (f := 5000) (orc := [.call [] (.v (.int .u64 (F156 a0))) [], .call [] (.v (.int .u64 (F156 a1))) [], .call [] (.t [(.v (.int .u64 (F155 (F156 a0) (F156 a1)).1)), (.v (.int .u64 (F155 (F156 a0) (F156 a1)).2))]) [], .d true, .d false, .d false]) [] [] [] hcx
          (obs := [.call 156 [(iv a0)] [] (.v (.int .u64 (F156 a0))) [], .call 156 [(iv a1)] [] (.v (.int .u64 (F156 a1))) [], .call 155 [(.v (.int .u64 (F156 a0))), (.v (.int .u64 (F156 a1)))] [] (.t [(.v (.int .u64 (F155 (F156 a0) (F156 a1)).1)), (.v (.int .u64 (F155 (F156 a0) (F156 a1)).2))]) [], .eq (((F155 (F156 a0) (F156 a1)).1 : Int) == 0) true, .eq (decide (((F155 (F156 a0) (F156 a1)).2 : Int) ≤ 1099511627776)) false, .eq (!((decide ((a0 : Int) < 0)) == (decide ((a1 : Int) < 0)))) false]) (by kernel_rfl) ⟨(C156 a0), (C156 a1), (C155 (F156 a0) (F156 a1)), h0, h1, h2, trivial⟩
  | false =>
    cases h1 : (!((decide ((a0 : Int) < 0)) == (decide ((a1 : Int) < 0)))) with
    | true =>
      have q0 := ne_of_beq_false h0
      have e : (F126 a0 a1) = (-1099511627777) := by simp only [F126, h0, h1, cond_true, cond_false]
      rw [e]
      refine con_of (n := 9) Try.func126 rfl (ent Try.func126 (by kernel_rfl) rfl) (by show 2 ≤ Try.f126.ntmps; decide) (by kernel_rfl) trivial (fun cx hcx => ?_)
      exact ret_of (T := T0) hT hm (f := 5000) (orc := [.call [] (.v (.int .u64 (F156 a0))) [], .call [] (.v (.int .u64 (F156 a1))) [], .call [] (.t [(.v (.int .u64 (F155 (F156 a0) (F156 a1)).1)), (.v (.int .u64 (F155 (F156 a0) (F156 a1)).2))]) [], .d false, .d true]) [] [] [] hcx
        (obs := [.call 156 [(iv a0)] [] (.v (.int .u64 (F156 a0))) [], .call 156 [(iv a1)] [] (.v (.int .u64 (F156 a1))) [], .call 155 [(.v (.int .u64 (F156 a0))), (.v (.int .u64 (F156 a1)))] [] (.t [(.v (.int .u64 (F155 (F156 a0) (F156 a1)).1)), (.v (.int .u64 (F155 (F156 a0) (F156 a1)).2))]) [], .eq (((F155 (F156 a0) (F156 a1)).1 : Int) == 0) false, .eq (!((decide ((a0 : Int) < 0)) == (decide ((a1 : Int) < 0)))) true]) (by kernel_rfl) ⟨(C156 a0), (C156 a1), (C155 (F156 a0) (F156 a1)), h0, h1, trivial⟩
    | false =>
      have q0 := ne_of_beq_false h0
      have e : (F126 a0 a1) = 1099511627777 := by simp only [F126, h0, h1, cond_true, cond_false]
      rw [e]
      refine con_of (n := 9) Try.func126 rfl (ent Try.func126 (by kernel_rfl) rfl) (by show 2 ≤ Try.f126.ntmps; decide) (by kernel_rfl) trivial (fun cx hcx => ?_)
      exact ret_of (T := T0) hT hm (f := 5000) (orc := [.call [] (.v (.int .u64 (F156 a0))) [], .call [] (.v (.int .u64 (F156 a1))) [], .call [] (.t [(.v (.int .u64 (F155 (F156 a0) (F156 a1)).1)), (.v (.int .u64 (F155 (F156 a0) (F156 a1)).2))]) [], .d false, .d false]) [] [] [] hcx
        (obs := [.call 156 [(iv a0)] [] (.v (.int .u64 (F156 a0))) [], .call 156 [(iv a1)] [] (.v (.int .u64 (F156 a1))) [], .call 155 [(.v (.int .u64 (F156 a0))), (.v (.int .u64 (F156 a1)))] [] (.t [(.v (.int .u64 (F155 (F156 a0) (F156 a1)).1)), (.v (.int .u64 (F155 (F156 a0) (F156 a1)).2))]) [], .eq (((F155 (F156 a0) (F156 a1)).1 : Int) == 0) false, .eq (!((decide ((a0 : Int) < 0)) == (decide ((a1 : Int) < 0)))) false]) (by kernel_rfl) ⟨(C156 a0), (C156 a1), (C155 (F156 a0) (F156 a1)), h0, h1, trivial⟩

/-- facet/facetref01.Scale -/
def F94 (a0 : Int × Int) (a1 : Int) : (Int × Int) × Int :=
  (bif (!(F124 a0)) then
   ((0, 0), 1)
  else
   (bif (!(F125 a1 (-1099511627776) 1099511627776)) then
    ((0, 0), 1)
   else
    (bif (decide ((a1 : Int) < 0)) then
     ((F121 (F126 a0.2 a1) (F126 a0.1 a1)).1, (F121 (F126 a0.2 a1) (F126 a0.1 a1)).2)
    else
     ((F121 (F126 a0.1 a1) (F126 a0.2 a1)).1, (F121 (F126 a0.1 a1) (F126 a0.2 a1)).2))))

noncomputable def oC94_0 (a0 : Int × Int) : Ob := .call 124 [(.a [(iv a0.1), (iv a0.2)])] [] (.v (.bool (F124 a0))) []
noncomputable def oC94_1 (a1 : Int) : Ob := .call 125 [(iv a1), (iv (-1099511627776)), (iv 1099511627776)] [] (.v (.bool (F125 a1 (-1099511627776) 1099511627776))) []
theorem C94 (a0 : Int × Int) (a1 : Int) : Con Try.prog 94 [(.a [(iv a0.1), (iv a0.2)]), (iv a1)] [] (.t [(.a (k2 (F94 a0 a1).1)), (iv (F94 a0 a1).2)]) [] := by
  cases h0 : (!(F124 a0)) with
  | true =>
    have e : (F94 a0 a1) = ((0, 0), 1) := by simp only [F94, h0, cond_true, cond_false]
    rw [e]
    refine con_of (n := 9) Try.func94 rfl (ent Try.func94 (by kernel_rfl) rfl) (by show 2 ≤ Try.f94.ntmps; decide) (by kernel_rfl) trivial (fun cx hcx => ?_)
    exact ret_of (T := T0) hT hm (f := 5000) (orc := [.call [] (.v (.bool (F124 a0))) [], .d true]) [] [] [] hcx
      (obs := [(oC94_0 a0), .eq (!(F124 a0)) true]) (by kernel_rfl) ⟨(C124 a0), h0, trivial⟩
  | false =>
    cases h1 : (!(F125 a1 (-1099511627776) 1099511627776)) with
    | true =>
      have e : (F94 a0 a1) = ((0, 0), 1) := by simp only [F94, h0, h1, cond_true, cond_false]
      rw [e]
      refine con_of (n := 9) Try.func94 rfl (ent Try.func94 (by kernel_rfl) rfl) (by show 2 ≤ Try.f94.ntmps; decide) (by kernel_rfl) trivial (fun cx hcx => ?_)
      exact ret_of (T := T0) hT hm (f := 5000) (orc := [.call [] (.v (.bool (F124 a0))) [], .d false, .call [] (.v (.bool (F125 a1 (-1099511627776) 1099511627776))) [], .d true]) [] [] [] hcx
        (obs := [(oC94_0 a0), .eq (!(F124 a0)) false, (oC94_1 a1), .eq (!(F125 a1 (-1099511627776) 1099511627776)) true]) (by kernel_rfl) ⟨(C124 a0), h0, (C125 a1 (-1099511627776) 1099511627776), h1, trivial⟩
    | false =>
      cases h2 : (decide ((a1 : Int) < 0)) with
      | true =>
        have q2 := of_decide_eq_true h2
        have e : (F94 a0 a1) = ((F121 (F126 a0.2 a1) (F126 a0.1 a1)).1, (F121 (F126 a0.2 a1) (F126 a0.1 a1)).2) := by simp only [F94, h0, h1, h2, cond_true, cond_false]
        rw [e]
        refine con_of (n := 9) Try.func94 rfl (ent Try.func94 (by kernel_rfl) rfl) (by show 2 ≤ Try.f94.ntmps; decide) (by kernel_rfl) trivial (fun cx hcx => ?_)
        exact ret_of (T := T0) hT hm (f := 5000) (orc := [.call [] (.v (.bool (F124 a0))) [], .d false, .call [] (.v (.bool (F125 a1 (-1099511627776) 1099511627776))) [], .d false, .d true, .call [] (iv (F126 a0.2 a1)) [], .call [] (iv (F126 a0.1 a1)) [], .call [] (.t [(.a (k2 (F121 (F126 a0.2 a1) (F126 a0.1 a1)).1)), (iv (F121 (F126 a0.2 a1) (F126 a0.1 a1)).2)]) []]) [] [] [] hcx
          (obs := [(oC94_0 a0), .eq (!(F124 a0)) false, (oC94_1 a1), .eq (!(F125 a1 (-1099511627776) 1099511627776)) false, .eq (decide ((a1 : Int) < 0)) true, .call 126 [(iv a0.2), (iv a1)] [] (iv (F126 a0.2 a1)) [], .call 126 [(iv a0.1), (iv a1)] [] (iv (F126 a0.1 a1)) [], .call 121 [(iv (F126 a0.2 a1)), (iv (F126 a0.1 a1))] [] (.t [(.a (k2 (F121 (F126 a0.2 a1) (F126 a0.1 a1)).1)), (iv (F121 (F126 a0.2 a1) (F126 a0.1 a1)).2)]) []]) (by kernel_rfl) ⟨(C124 a0), h0, (C125 a1 (-1099511627776) 1099511627776), h1, h2, (C126 a0.2 a1), (C126 a0.1 a1), (C121 (F126 a0.2 a1) (F126 a0.1 a1)), trivial⟩
      | false =>
        have q2 := of_decide_eq_false h2
        have e : (F94 a0 a1) = ((F121 (F126 a0.1 a1) (F126 a0.2 a1)).1, (F121 (F126 a0.1 a1) (F126 a0.2 a1)).2) := by simp only [F94, h0, h1, h2, cond_true, cond_false]
        rw [e]
        refine con_of (n := 9) Try.func94 rfl (ent Try.func94 (by kernel_rfl) rfl) (by show 2 ≤ Try.f94.ntmps; decide) (by kernel_rfl) trivial (fun cx hcx => ?_)
        exact ret_of (T := T0) hT hm (f := 5000) (orc := [.call [] (.v (.bool (F124 a0))) [], .d false, .call [] (.v (.bool (F125 a1 (-1099511627776) 1099511627776))) [], .d false, .d false, .call [] (iv (F126 a0.1 a1)) [], .call [] (iv (F126 a0.2 a1)) [], .call [] (.t [(.a (k2 (F121 (F126 a0.1 a1) (F126 a0.2 a1)).1)), (iv (F121 (F126 a0.1 a1) (F126 a0.2 a1)).2)]) []]) [] [] [] hcx
          (obs := [(oC94_0 a0), .eq (!(F124 a0)) false, (oC94_1 a1), .eq (!(F125 a1 (-1099511627776) 1099511627776)) false, .eq (decide ((a1 : Int) < 0)) false, .call 126 [(iv a0.1), (iv a1)] [] (iv (F126 a0.1 a1)) [], .call 126 [(iv a0.2), (iv a1)] [] (iv (F126 a0.2 a1)) [], .call 121 [(iv (F126 a0.1 a1)), (iv (F126 a0.2 a1))] [] (.t [(.a (k2 (F121 (F126 a0.1 a1) (F126 a0.2 a1)).1)), (iv (F121 (F126 a0.1 a1) (F126 a0.2 a1)).2)]) []]) (by kernel_rfl) ⟨(C124 a0), h0, (C125 a1 (-1099511627776) 1099511627776), h1, h2, (C126 a0.1 a1), (C126 a0.2 a1), (C121 (F126 a0.1 a1) (F126 a0.2 a1)), trivial⟩

end Go.Proofs.Ytopbnnmkdildgaa
