/-
  A part of the proofs of the Field laws: what functions of the program compute, and that it is what the statements ask. No premise.
-/
import Derived.Test.YtjlekmjnkpcnoaaMi
namespace Go.Proofs.Ytjlekmjnkpcnoaa
open Go.Proofs Go.Aw Go.RowKit
set_option maxRecDepth 100000
set_option linter.unusedVariables false
set_option linter.unusedSimpArgs false

theorem v1_ok {a : Int × Int} (h : ((F76_1 a : Int) != 0) = false) : -1099511627776 ≤ a.1 ∧ a.1 ≤ a.2 ∧ a.2 ≤ 1099511627776 := by
  have h : F76_1 a = 0 := by simpa using h
  unfold F76_1 at h
  cases h0 : F129 a with
  | false => rw [h0] at h; cases h
  | true =>
    unfold F129 at h0
    by_cases h1 : a.1 ≥ -1099511627776
    · by_cases h2 : a.1 ≤ a.2
      · rw [decide_eq_true h1, cond_true, decide_eq_true h2, cond_true] at h0
        exact ⟨h1, h2, of_decide_eq_true h0⟩
      · rw [decide_eq_true h1, cond_true, decide_eq_false h2, cond_false] at h0; cases h0
    · rw [decide_eq_false h1, cond_false] at h0; cases h0

/-- facet/span.whole -/
def F116 (a0 : Int) : Bool :=
  (bif (decide ((a0 : Int) ≥ (-1099511627776))) then
   (decide ((a0 : Int) ≤ 1099511627776))
  else
   false)

theorem C116 (a0 : Int) : Con Try.prog 116 [(iv a0)] [] (.v (.bool (F116 a0))) [] := by
  cases h0 : (decide ((a0 : Int) ≥ (-1099511627776))) with
  | true =>
    have q0 := of_decide_eq_true h0
    have e : (F116 a0) = (decide ((a0 : Int) ≤ 1099511627776)) := by simp only [F116, h0, cond_true, cond_false]
    rw [e]
    refine con_of (n := 9) Try.func116 rfl (ent Try.func116 (by kernel_rfl) rfl) (by show 1 ≤ Try.f116.ntmps; decide) (by kernel_rfl) trivial (fun cx hcx => ?_)
    exact ret_of (T := T0) hT hm (f := 5000) (orc := [.d true]) [] [] [] hcx
      (obs := [.eq (decide ((a0 : Int) ≥ (-1099511627776))) true]) (by kernel_rfl) ⟨h0, trivial⟩
  | false =>
    have q0 := of_decide_eq_false h0
    have e : (F116 a0) = false := by simp only [F116, h0, cond_true, cond_false]
    rw [e]
    refine con_of (n := 9) Try.func116 rfl (ent Try.func116 (by kernel_rfl) rfl) (by show 1 ≤ Try.f116.ntmps; decide) (by kernel_rfl) trivial (fun cx hcx => ?_)
    exact ret_of (T := T0) hT hm (f := 5000) (orc := [.d false]) [] [] [] hcx
      (obs := [.eq (decide ((a0 : Int) ≥ (-1099511627776))) false]) (by kernel_rfl) ⟨h0, trivial⟩

/-- facet/span.Scale -/
def F57 (a0 : Int × Int) (a1 : Int) : (Int × Int) × Int :=
  (bif (((F76_1 a0) : Int) != 0) then
   ((0, 0), (F76_1 a0))
  else
   (bif (!(F116 a1)) then
    ((0, 0), 1)
   else
    ((F118 (if ((F117 a0.2 a1) : Int) < (F117 a0.1 a1) then (F117 a0.2 a1) else (F117 a0.1 a1)) (if ((F117 a0.1 a1) : Int) < (F117 a0.2 a1) then (F117 a0.2 a1) else (F117 a0.1 a1))).1, (F118 (if ((F117 a0.2 a1) : Int) < (F117 a0.1 a1) then (F117 a0.2 a1) else (F117 a0.1 a1)) (if ((F117 a0.1 a1) : Int) < (F117 a0.2 a1) then (F117 a0.2 a1) else (F117 a0.1 a1))).2)))

noncomputable def oC57_0 (a0 : Int × Int) : Ob := .call 76 [(.s 0 0 1 2)] [(.live false false [(iv a0.1), (iv a0.2)])] (iv (F76_1 a0)) []
theorem C57 (a0 : Int × Int) (a1 : Int) : Con Try.prog 57 [(.a [(iv a0.1), (iv a0.2)]), (iv a1)] [] (.t [(.a (k2 (F57 a0 a1).1)), (iv (F57 a0 a1).2)]) [] := by
  cases h0 : (((F76_1 a0) : Int) != 0) with
  | true =>
    have q0 := bne_iff_ne.1 h0
    have e : (F57 a0 a1) = ((0, 0), (F76_1 a0)) := by simp only [F57, h0, cond_true, cond_false]
    rw [e]
    refine con_of (n := 9) Try.func57 rfl (ent Try.func57 (by kernel_rfl) rfl) (by show 2 ≤ Try.f57.ntmps; decide) (by kernel_rfl) trivial (fun cx hcx => ?_)
    exact ret_of (T := T0) hT hm (f := 5000) (orc := [.call [2] (iv (F76_1 a0)) [], .d true]) [] [] [] hcx
      (obs := [(oC57_0 a0), .eq (((F76_1 a0) : Int) != 0) true]) (by kernel_rfl) ⟨(C76_1 a0), h0, trivial⟩
  | false =>
    cases h1 : (!(F116 a1)) with
    | true =>
      have q0 := bne_eq_false_iff_eq.1 h0
      have e : (F57 a0 a1) = ((0, 0), 1) := by simp only [F57, h0, h1, cond_true, cond_false]
      rw [e]
      refine con_of (n := 9) Try.func57 rfl (ent Try.func57 (by kernel_rfl) rfl) (by show 2 ≤ Try.f57.ntmps; decide) (by kernel_rfl) trivial (fun cx hcx => ?_)
      exact ret_of (T := T0) hT hm (f := 5000) (orc := [.call [2] (iv (F76_1 a0)) [], .d false, .call [] (.v (.bool (F116 a1))) [], .d true]) [] [] [] hcx
        (obs := [(oC57_0 a0), .eq (((F76_1 a0) : Int) != 0) false, .call 116 [(iv a1)] [] (.v (.bool (F116 a1))) [], .eq (!(F116 a1)) true]) (by kernel_rfl) ⟨(C76_1 a0), h0, (C116 a1), h1, trivial⟩
    | false =>
      have q0 := bne_eq_false_iff_eq.1 h0
      have e : (F57 a0 a1) = ((F118 (if ((F117 a0.2 a1) : Int) < (F117 a0.1 a1) then (F117 a0.2 a1) else (F117 a0.1 a1)) (if ((F117 a0.1 a1) : Int) < (F117 a0.2 a1) then (F117 a0.2 a1) else (F117 a0.1 a1))).1, (F118 (if ((F117 a0.2 a1) : Int) < (F117 a0.1 a1) then (F117 a0.2 a1) else (F117 a0.1 a1)) (if ((F117 a0.1 a1) : Int) < (F117 a0.2 a1) then (F117 a0.2 a1) else (F117 a0.1 a1))).2) := by simp only [F57, h0, h1, cond_true, cond_false]
      rw [e]
      refine con_of (n := 9) Try.func57 rfl (ent Try.func57 (by kernel_rfl) rfl) (by show 2 ≤ Try.f57.ntmps; decide) (by kernel_rfl) trivial (fun cx hcx => ?_)
      exact ret_of (T := T0) hT hm (f := 5000) (orc := [.call [2] (iv (F76_1 a0)) [], .d false, .call [] (.v (.bool (F116 a1))) [], .d false, .call [] (iv (F117 a0.1 a1)) [], .call [] (iv (F117 a0.2 a1)) [], .call [] (.t [(.a (k2 (F118 (if ((F117 a0.2 a1) : Int) < (F117 a0.1 a1) then (F117 a0.2 a1) else (F117 a0.1 a1)) (if ((F117 a0.1 a1) : Int) < (F117 a0.2 a1) then (F117 a0.2 a1) else (F117 a0.1 a1))).1)), (iv (F118 (if ((F117 a0.2 a1) : Int) < (F117 a0.1 a1) then (F117 a0.2 a1) else (F117 a0.1 a1)) (if ((F117 a0.1 a1) : Int) < (F117 a0.2 a1) then (F117 a0.2 a1) else (F117 a0.1 a1))).2)]) []]) [] [] [] hcx
        (obs := [(oC57_0 a0), .eq (((F76_1 a0) : Int) != 0) false, .call 116 [(iv a1)] [] (.v (.bool (F116 a1))) [], .eq (!(F116 a1)) false, .call 117 [(iv a0.1), (iv a1)] [] (iv (F117 a0.1 a1)) [], .call 117 [(iv a0.2), (iv a1)] [] (iv (F117 a0.2 a1)) [], .call 118 [(iv (if ((F117 a0.2 a1) : Int) < (F117 a0.1 a1) then (F117 a0.2 a1) else (F117 a0.1 a1))), (iv (if ((F117 a0.1 a1) : Int) < (F117 a0.2 a1) then (F117 a0.2 a1) else (F117 a0.1 a1)))] [] (.t [(.a (k2 (F118 (if ((F117 a0.2 a1) : Int) < (F117 a0.1 a1) then (F117 a0.2 a1) else (F117 a0.1 a1)) (if ((F117 a0.1 a1) : Int) < (F117 a0.2 a1) then (F117 a0.2 a1) else (F117 a0.1 a1))).1)), (iv (F118 (if ((F117 a0.2 a1) : Int) < (F117 a0.1 a1) then (F117 a0.2 a1) else (F117 a0.1 a1)) (if ((F117 a0.1 a1) : Int) < (F117 a0.2 a1) then (F117 a0.2 a1) else (F117 a0.1 a1))).2)]) []]) (by kernel_rfl) ⟨(C76_1 a0), h0, (C116 a1), h1, (C117 a0.1 a1  (by have := v1_ok h0; omega)), (C117 a0.2 a1  (by have := v1_ok h0; omega)), (C118 (if ((F117 a0.2 a1) : Int) < (F117 a0.1 a1) then (F117 a0.2 a1) else (F117 a0.1 a1)) (if ((F117 a0.1 a1) : Int) < (F117 a0.2 a1) then (F117 a0.2 a1) else (F117 a0.1 a1))), trivial⟩

/-- facet/facetref01.size -/
def F152 (a0 : Int) : Int :=
  (bif (decide ((a0 : Int) < 0)) then
   (IntKind.wrap .u64 (W (0 - a0)))
  else
   (IntKind.wrap .u64 a0))

theorem C152 (a0 : Int) : Con Try.prog 152 [(iv a0)] [] (.v (.int .u64 (F152 a0))) [] := by
  cases h0 : (decide ((a0 : Int) < 0)) with
  | true =>
    have q0 := of_decide_eq_true h0
    have e : (F152 a0) = (IntKind.wrap .u64 (W (0 - a0))) := by simp only [F152, h0, cond_true, cond_false]
    rw [e]
    refine con_of (n := 9) Try.func152 rfl (ent Try.func152 (by kernel_rfl) rfl) (by show 1 ≤ Try.f152.ntmps; decide) (by kernel_rfl) trivial (fun cx hcx => ?_)
    exact ret_of (T := T0) hT hm (f := 5000) (orc := [.d true]) [] [] [] hcx
      (obs := [.eq (decide ((a0 : Int) < 0)) true]) (by kernel_rfl) ⟨h0, trivial⟩
  | false =>
    have q0 := of_decide_eq_false h0
    have e : (F152 a0) = (IntKind.wrap .u64 a0) := by simp only [F152, h0, cond_true, cond_false]
    rw [e]
    refine con_of (n := 9) Try.func152 rfl (ent Try.func152 (by kernel_rfl) rfl) (by show 1 ≤ Try.f152.ntmps; decide) (by kernel_rfl) trivial (fun cx hcx => ?_)
    exact ret_of (T := T0) hT hm (f := 5000) (orc := [.d false]) [] [] [] hcx
      (obs := [.eq (decide ((a0 : Int) < 0)) false]) (by kernel_rfl) ⟨h0, trivial⟩

/-- math/bits.Mul64 -/
def F151 (a0 : Int) (a1 : Int) : Int × Int :=
  ((IntKind.wrap .u64 ((IntKind.wrap .u64 ((IntKind.wrap .u64 ((Int.fdiv a0 (2 ^ (min (Int.toNat 32) 64))) * (Int.fdiv a1 (2 ^ (min (Int.toNat 32) 64))))) + (Int.fdiv (IntKind.wrap .u64 ((IntKind.wrap .u64 ((Int.fdiv a0 (2 ^ (min (Int.toNat 32) 64))) * (IntKind.wrap .u64 ((BitVec.ofInt 64 a1 &&& BitVec.ofInt 64 4294967295).toNat : Int)))) + (Int.fdiv (IntKind.wrap .u64 ((IntKind.wrap .u64 ((BitVec.ofInt 64 a0 &&& BitVec.ofInt 64 4294967295).toNat : Int)) * (IntKind.wrap .u64 ((BitVec.ofInt 64 a1 &&& BitVec.ofInt 64 4294967295).toNat : Int)))) (2 ^ (min (Int.toNat 32) 64))))) (2 ^ (min (Int.toNat 32) 64))))) + (Int.fdiv (IntKind.wrap .u64 ((IntKind.wrap .u64 ((BitVec.ofInt 64 (IntKind.wrap .u64 ((IntKind.wrap .u64 ((Int.fdiv a0 (2 ^ (min (Int.toNat 32) 64))) * (IntKind.wrap .u64 ((BitVec.ofInt 64 a1 &&& BitVec.ofInt 64 4294967295).toNat : Int)))) + (Int.fdiv (IntKind.wrap .u64 ((IntKind.wrap .u64 ((BitVec.ofInt 64 a0 &&& BitVec.ofInt 64 4294967295).toNat : Int)) * (IntKind.wrap .u64 ((BitVec.ofInt 64 a1 &&& BitVec.ofInt 64 4294967295).toNat : Int)))) (2 ^ (min (Int.toNat 32) 64))))) &&& BitVec.ofInt 64 4294967295).toNat : Int)) + (IntKind.wrap .u64 ((IntKind.wrap .u64 ((BitVec.ofInt 64 a0 &&& BitVec.ofInt 64 4294967295).toNat : Int)) * (Int.fdiv a1 (2 ^ (min (Int.toNat 32) 64))))))) (2 ^ (min (Int.toNat 32) 64))))), (IntKind.wrap .u64 (a0 * a1)))

theorem C151 (a0 : Int) (a1 : Int) : Con Try.prog 151 [(.v (.int .u64 a0)), (.v (.int .u64 a1))] [] (.t [(.v (.int .u64 (F151 a0 a1).1)), (.v (.int .u64 (F151 a0 a1).2))]) [] := by
  have e : (F151 a0 a1) = ((IntKind.wrap .u64 ((IntKind.wrap .u64 ((IntKind.wrap .u64 ((Int.fdiv a0 (2 ^ (min (Int.toNat 32) 64))) * (Int.fdiv a1 (2 ^ (min (Int.toNat 32) 64))))) + (Int.fdiv (IntKind.wrap .u64 ((IntKind.wrap .u64 ((Int.fdiv a0 (2 ^ (min (Int.toNat 32) 64))) * (IntKind.wrap .u64 ((BitVec.ofInt 64 a1 &&& BitVec.ofInt 64 4294967295).toNat : Int)))) + (Int.fdiv (IntKind.wrap .u64 ((IntKind.wrap .u64 ((BitVec.ofInt 64 a0 &&& BitVec.ofInt 64 4294967295).toNat : Int)) * (IntKind.wrap .u64 ((BitVec.ofInt 64 a1 &&& BitVec.ofInt 64 4294967295).toNat : Int)))) (2 ^ (min (Int.toNat 32) 64))))) (2 ^ (min (Int.toNat 32) 64))))) + (Int.fdiv (IntKind.wrap .u64 ((IntKind.wrap .u64 ((BitVec.ofInt 64 (IntKind.wrap .u64 ((IntKind.wrap .u64 ((Int.fdiv a0 (2 ^ (min (Int.toNat 32) 64))) * (IntKind.wrap .u64 ((BitVec.ofInt 64 a1 &&& BitVec.ofInt 64 4294967295).toNat : Int)))) + (Int.fdiv (IntKind.wrap .u64 ((IntKind.wrap .u64 ((BitVec.ofInt 64 a0 &&& BitVec.ofInt 64 4294967295).toNat : Int)) * (IntKind.wrap .u64 ((BitVec.ofInt 64 a1 &&& BitVec.ofInt 64 4294967295).toNat : Int)))) (2 ^ (min (Int.toNat 32) 64))))) &&& BitVec.ofInt 64 4294967295).toNat : Int)) + (IntKind.wrap .u64 ((IntKind.wrap .u64 ((BitVec.ofInt 64 a0 &&& BitVec.ofInt 64 4294967295).toNat : Int)) * (Int.fdiv a1 (2 ^ (min (Int.toNat 32) 64))))))) (2 ^ (min (Int.toNat 32) 64))))), (IntKind.wrap .u64 (a0 * a1))) := by simp only [F151]
  rw [e]
  refine con_of (n := 9) Try.func151 rfl (ent Try.func151 (by kernel_rfl) rfl) (by show 2 ≤ Try.f151.ntmps; decide) (by kernel_rfl) trivial (fun cx hcx => ?_)
  exact ret_of (T := T0) hT hm (f := 5000) (orc := []) [] [] [] hcx
    (obs := [.pr (0 ≤ (32 : Int)), .pr (0 ≤ (32 : Int)), .pr (0 ≤ (32 : Int)), .pr (0 ≤ (32 : Int)), .pr (0 ≤ (32 : Int))]) (by kernel_rfl) ⟨(show 0 ≤ (32 : Int) from by decide), (show 0 ≤ (32 : Int) from by decide), (show 0 ≤ (32 : Int) from by decide), (show 0 ≤ (32 : Int) from by decide), (show 0 ≤ (32 : Int) from by decide), trivial⟩

/-- facet/facetref01.product -/
def F124 (a0 : Int) (a1 : Int) : Int :=
  (bif (((F151 (F152 a0) (F152 a1)).1 : Int) == 0) then
   (bif (decide (((F151 (F152 a0) (F152 a1)).2 : Int) ≤ 1099511627776)) then
    (bif (!((decide ((a0 : Int) < 0)) == (decide ((a1 : Int) < 0)))) then
     (W (0 - (W (F151 (F152 a0) (F152 a1)).2)))
    else
     (W (F151 (F152 a0) (F152 a1)).2))
   else
    (bif (!((decide ((a0 : Int) < 0)) == (decide ((a1 : Int) < 0)))) then
     (-1099511627777)
    else
     1099511627777))
  else
   (bif (!((decide ((a0 : Int) < 0)) == (decide ((a1 : Int) < 0)))) then
    (-1099511627777)
   else
    1099511627777))

theorem C124 (a0 : Int) (a1 : Int) : Con Try.prog 124 [(iv a0), (iv a1)] [] (iv (F124 a0 a1)) [] := by
  cases h0 : (((F151 (F152 a0) (F152 a1)).1 : Int) == 0) with
  | true =>
    cases h1 : (decide (((F151 (F152 a0) (F152 a1)).2 : Int) ≤ 1099511627776)) with
    | true =>
      cases h2 : (!((decide ((a0 : Int) < 0)) == (decide ((a1 : Int) < 0)))) with
      | true =>
        have q0 := eq_of_beq h0
        have q1 := of_decide_eq_true h1
        have e : (F124 a0 a1) = (W (0 - (W (F151 (F152 a0) (F152 a1)).2))) := by simp only [F124, h0, h1, h2, cond_true, cond_false]
        rw [e]
        refine con_of (n := 9) Try.func124 rfl (ent Try.func124 (by kernel_rfl) rfl) (by show 2 ≤ Try.f124.ntmps; decide) (by kernel_rfl) trivial (fun cx hcx => ?_)
        exact ret_of (T := T0) hT hm (f := 5000) (orc := [.call [] (.v (.int .u64 (F152 a0))) [], .call [] (.v (.int .u64 (F152 a1))) [], .call [] (.t [(.v (.int .u64 (F151 (F152 a0) (F152 a1)).1)), (.v (.int .u64 (F151 (F152 a0) (F152 a1)).2))]) [], .d true, .d true, .d true]) [] [] [] hcx
          (obs := [.call 152 [(iv a0)] [] (.v (.int .u64 (F152 a0))) [], .call 152 [(iv a1)] [] (.v (.int .u64 (F152 a1))) [], .call 151 [(.v (.int .u64 (F152 a0))), (.v (.int .u64 (F152 a1)))] [] (.t [(.v (.int .u64 (F151 (F152 a0) (F152 a1)).1)), (.v (.int .u64 (F151 (F152 a0) (F152 a1)).2))]) [], .eq (((F151 (F152 a0) (F152 a1)).1 : Int) == 0) true, .eq (decide (((F151 (F152 a0) (F152 a1)).2 : Int) ≤ 1099511627776)) true, .eq (!((decide ((a0 : Int) < 0)) == (decide ((a1 : Int) < 0)))) true]) (by kernel_rfl) ⟨(C152 a0), (C152 a1), (C151 (F152 a0) (F152 a1)), h0, h1, h2, trivial⟩
      | false =>
        have q0 := eq_of_beq h0
        have q1 := of_decide_eq_true h1
        have e : (F124 a0 a1) = (W (F151 (F152 a0) (F152 a1)).2) := by simp only [F124, h0, h1, h2, cond_true, cond_false]
        rw [e]
        refine con_of (n := 9) Try.func124 rfl (ent Try.func124 (by kernel_rfl) rfl) (by show 2 ≤ Try.f124.ntmps; decide) (by kernel_rfl) trivial (fun cx hcx => ?_)
        exact ret_of (T := T0) hT hm (f := 5000) (orc := [.call [] (.v (.int .u64 (F152 a0))) [], .call [] (.v (.int .u64 (F152 a1))) [], .call [] (.t [(.v (.int .u64 (F151 (F152 a0) (F152 a1)).1)), (.v (.int .u64 (F151 (F152 a0) (F152 a1)).2))]) [], .d true, .d true, .d false]) [] [] [] hcx
          (obs := [.call 152 [(iv a0)] [] (.v (.int .u64 (F152 a0))) [], .call 152 [(iv a1)] [] (.v (.int .u64 (F152 a1))) [], .call 151 [(.v (.int .u64 (F152 a0))), (.v (.int .u64 (F152 a1)))] [] (.t [(.v (.int .u64 (F151 (F152 a0) (F152 a1)).1)), (.v (.int .u64 (F151 (F152 a0) (F152 a1)).2))]) [], .eq (((F151 (F152 a0) (F152 a1)).1 : Int) == 0) true, .eq (decide (((F151 (F152 a0) (F152 a1)).2 : Int) ≤ 1099511627776)) true, .eq (!((decide ((a0 : Int) < 0)) == (decide ((a1 : Int) < 0)))) false]) (by kernel_rfl) ⟨(C152 a0), (C152 a1), (C151 (F152 a0) (F152 a1)), h0, h1, h2, trivial⟩
    | false =>
      cases h2 : (!((decide ((a0 : Int) < 0)) == (decide ((a1 : Int) < 0)))) with
      | true =>
        have q0 := eq_of_beq h0
        have q1 := of_decide_eq_false h1
        have e : (F124 a0 a1) = (-1099511627777) := by simp only [F124, h0, h1, h2, cond_true, cond_false]
        rw [e]
        refine con_of (n := 9) Try.func124 rfl (ent Try.func124 (by kernel_rfl) rfl) (by show 2 ≤ Try.f124.ntmps; decide) (by kernel_rfl) trivial (fun cx hcx => ?_)
        exact ret_of (T := T0) hT hm (f := 5000) (orc := [.call [] (.v (.int .u64 (F152 a0))) [], .call [] (.v (.int .u64 (F152 a1))) [], .call [] (.t [(.v (.int .u64 (F151 (F152 a0) (F152 a1)).1)), (.v (.int .u64 (F151 (F152 a0) (F152 a1)).2))]) [], .d true, .d false, .d true]) [] [] [] hcx
          (obs := [.call 152 [(iv a0)] [] (.v (.int .u64 (F152 a0))) [], .call 152 [(iv a1)] [] (.v (.int .u64 (F152 a1))) [], .call 151 [(.v (.int .u64 (F152 a0))), (.v (.int .u64 (F152 a1)))] [] (.t [(.v (.int .u64 (F151 (F152 a0) (F152 a1)).1)), (.v (.int .u64 (F151 (F152 a0) (F152 a1)).2))]) [], .eq (((F151 (F152 a0) (F152 a1)).1 : Int) == 0) true, .eq (decide (((F151 (F152 a0) (F152 a1)).2 : Int) ≤ 1099511627776)) false, .eq (!((decide ((a0 : Int) < 0)) == (decide ((a1 : Int) < 0)))) true]) (by kernel_rfl) ⟨(C152 a0), (C152 a1), (C151 (F152 a0) (F152 a1)), h0, h1, h2, trivial⟩
      | false =>
        have q0 := eq_of_beq h0
        have q1 := of_decide_eq_false h1
        have e : (F124 a0 a1) = 1099511627777 := by simp only [F124, h0, h1, h2, cond_true, cond_false]
        rw [e]
        refine con_of (n := 9) Try.func124 rfl (ent Try.func124 (by kernel_rfl) rfl) (by show 2 ≤ Try.f124.ntmps; decide) (by kernel_rfl) trivial (fun cx hcx => ?_)
        exact ret_of (T := T0) hT hm (f := 5000) (orc := [.call [] (.v (.int .u64 (F152 a0))) [], .call [] (.v (.int .u64 (F152 a1))) [], .call [] (.t [(.v (.int .u64 (F151 (F152 a0) (F152 a1)).1)), (.v (.int .u64 (F151 (F152 a0) (F152 a1)).2))]) [], .d true, .d false, .d false]) [] [] [] hcx
          (obs := [.call 152 [(iv a0)] [] (.v (.int .u64 (F152 a0))) [], .call 152 [(iv a1)] [] (.v (.int .u64 (F152 a1))) [], .call 151 [(.v (.int .u64 (F152 a0))), (.v (.int .u64 (F152 a1)))] [] (.t [(.v (.int .u64 (F151 (F152 a0) (F152 a1)).1)), (.v (.int .u64 (F151 (F152 a0) (F152 a1)).2))]) [], .eq (((F151 (F152 a0) (F152 a1)).1 : Int) == 0) true, .eq (decide (((F151 (F152 a0) (F152 a1)).2 : Int) ≤ 1099511627776)) false, .eq (!((decide ((a0 : Int) < 0)) == (decide ((a1 : Int) < 0)))) false]) (by kernel_rfl) ⟨(C152 a0), (C152 a1), (C151 (F152 a0) (F152 a1)), h0, h1, h2, trivial⟩
  | false =>
    cases h1 : (!((decide ((a0 : Int) < 0)) == (decide ((a1 : Int) < 0)))) with
    | true =>
      have q0 := ne_of_beq_false h0
      have e : (F124 a0 a1) = (-1099511627777) := by simp only [F124, h0, h1, cond_true, cond_false]
      rw [e]
      refine con_of (n := 9) Try.func124 rfl (ent Try.func124 (by kernel_rfl) rfl) (by show 2 ≤ Try.f124.ntmps; decide) (by kernel_rfl) trivial (fun cx hcx => ?_)
      exact ret_of (T := T0) hT hm (f := 5000) (orc := [.call [] (.v (.int .u64 (F152 a0))) [], .call [] (.v (.int .u64 (F152 a1))) [], .call [] (.t [(.v (.int .u64 (F151 (F152 a0) (F152 a1)).1)), (.v (.int .u64 (F151 (F152 a0) (F152 a1)).2))]) [], .d false, .d true]) [] [] [] hcx
        (obs := [.call 152 [(iv a0)] [] (.v (.int .u64 (F152 a0))) [], .call 152 [(iv a1)] [] (.v (.int .u64 (F152 a1))) [], .call 151 [(.v (.int .u64 (F152 a0))), (.v (.int .u64 (F152 a1)))] [] (.t [(.v (.int .u64 (F151 (F152 a0) (F152 a1)).1)), (.v (.int .u64 (F151 (F152 a0) (F152 a1)).2))]) [], .eq (((F151 (F152 a0) (F152 a1)).1 : Int) == 0) false, .eq (!((decide ((a0 : Int) < 0)) == (decide ((a1 : Int) < 0)))) true]) (by kernel_rfl) ⟨(C152 a0), (C152 a1), (C151 (F152 a0) (F152 a1)), h0, h1, trivial⟩
    | false =>
      have q0 := ne_of_beq_false h0
      have e : (F124 a0 a1) = 1099511627777 := by simp only [F124, h0, h1, cond_true, cond_false]
      rw [e]
      refine con_of (n := 9) Try.func124 rfl (ent Try.func124 (by kernel_rfl) rfl) (by show 2 ≤ Try.f124.ntmps; decide) (by kernel_rfl) trivial (fun cx hcx => ?_)
      exact ret_of (T := T0) hT hm (f := 5000) (orc := [.call [] (.v (.int .u64 (F152 a0))) [], .call [] (.v (.int .u64 (F152 a1))) [], .call [] (.t [(.v (.int .u64 (F151 (F152 a0) (F152 a1)).1)), (.v (.int .u64 (F151 (F152 a0) (F152 a1)).2))]) [], .d false, .d false]) [] [] [] hcx
        (obs := [.call 152 [(iv a0)] [] (.v (.int .u64 (F152 a0))) [], .call 152 [(iv a1)] [] (.v (.int .u64 (F152 a1))) [], .call 151 [(.v (.int .u64 (F152 a0))), (.v (.int .u64 (F152 a1)))] [] (.t [(.v (.int .u64 (F151 (F152 a0) (F152 a1)).1)), (.v (.int .u64 (F151 (F152 a0) (F152 a1)).2))]) [], .eq (((F151 (F152 a0) (F152 a1)).1 : Int) == 0) false, .eq (!((decide ((a0 : Int) < 0)) == (decide ((a1 : Int) < 0)))) false]) (by kernel_rfl) ⟨(C152 a0), (C152 a1), (C151 (F152 a0) (F152 a1)), h0, h1, trivial⟩

/-- facet/facetref01.Scale -/
def F68 (a0 : Int × Int) (a1 : Int) : (Int × Int) × Int :=
  (bif (!(F56 a0)) then
   ((0, 0), 1)
  else
   (bif (!(F122 a1 (-1099511627776) 1099511627776)) then
    ((0, 0), 1)
   else
    (bif (decide ((a1 : Int) < 0)) then
     ((F123 (F124 a0.2 a1) (F124 a0.1 a1)).1, (F123 (F124 a0.2 a1) (F124 a0.1 a1)).2)
    else
     ((F123 (F124 a0.1 a1) (F124 a0.2 a1)).1, (F123 (F124 a0.1 a1) (F124 a0.2 a1)).2))))

noncomputable def oC68_0 (a0 : Int × Int) : Ob := .call 56 [(.a [(iv a0.1), (iv a0.2)])] [] (.v (.bool (F56 a0))) []
noncomputable def oC68_1 (a1 : Int) : Ob := .call 122 [(iv a1), (iv (-1099511627776)), (iv 1099511627776)] [] (.v (.bool (F122 a1 (-1099511627776) 1099511627776))) []
theorem C68 (a0 : Int × Int) (a1 : Int) : Con Try.prog 68 [(.a [(iv a0.1), (iv a0.2)]), (iv a1)] [] (.t [(.a (k2 (F68 a0 a1).1)), (iv (F68 a0 a1).2)]) [] := by
  cases h0 : (!(F56 a0)) with
  | true =>
    have e : (F68 a0 a1) = ((0, 0), 1) := by simp only [F68, h0, cond_true, cond_false]
    rw [e]
    refine con_of (n := 9) Try.func68 rfl (ent Try.func68 (by kernel_rfl) rfl) (by show 2 ≤ Try.f68.ntmps; decide) (by kernel_rfl) trivial (fun cx hcx => ?_)
    exact ret_of (T := T0) hT hm (f := 5000) (orc := [.call [] (.v (.bool (F56 a0))) [], .d true]) [] [] [] hcx
      (obs := [(oC68_0 a0), .eq (!(F56 a0)) true]) (by kernel_rfl) ⟨(C56 a0), h0, trivial⟩
  | false =>
    cases h1 : (!(F122 a1 (-1099511627776) 1099511627776)) with
    | true =>
      have e : (F68 a0 a1) = ((0, 0), 1) := by simp only [F68, h0, h1, cond_true, cond_false]
      rw [e]
      refine con_of (n := 9) Try.func68 rfl (ent Try.func68 (by kernel_rfl) rfl) (by show 2 ≤ Try.f68.ntmps; decide) (by kernel_rfl) trivial (fun cx hcx => ?_)
      exact ret_of (T := T0) hT hm (f := 5000) (orc := [.call [] (.v (.bool (F56 a0))) [], .d false, .call [] (.v (.bool (F122 a1 (-1099511627776) 1099511627776))) [], .d true]) [] [] [] hcx
        (obs := [(oC68_0 a0), .eq (!(F56 a0)) false, (oC68_1 a1), .eq (!(F122 a1 (-1099511627776) 1099511627776)) true]) (by kernel_rfl) ⟨(C56 a0), h0, (C122 a1 (-1099511627776) 1099511627776), h1, trivial⟩
    | false =>
      cases h2 : (decide ((a1 : Int) < 0)) with
      | true =>
        have q2 := of_decide_eq_true h2
        have e : (F68 a0 a1) = ((F123 (F124 a0.2 a1) (F124 a0.1 a1)).1, (F123 (F124 a0.2 a1) (F124 a0.1 a1)).2) := by simp only [F68, h0, h1, h2, cond_true, cond_false]
        rw [e]
        refine con_of (n := 9) Try.func68 rfl (ent Try.func68 (by kernel_rfl) rfl) (by show 2 ≤ Try.f68.ntmps; decide) (by kernel_rfl) trivial (fun cx hcx => ?_)
        exact ret_of (T := T0) hT hm (f := 5000) (orc := [.call [] (.v (.bool (F56 a0))) [], .d false, .call [] (.v (.bool (F122 a1 (-1099511627776) 1099511627776))) [], .d false, .d true, .call [] (iv (F124 a0.2 a1)) [], .call [] (iv (F124 a0.1 a1)) [], .call [] (.t [(.a (k2 (F123 (F124 a0.2 a1) (F124 a0.1 a1)).1)), (iv (F123 (F124 a0.2 a1) (F124 a0.1 a1)).2)]) []]) [] [] [] hcx
          (obs := [(oC68_0 a0), .eq (!(F56 a0)) false, (oC68_1 a1), .eq (!(F122 a1 (-1099511627776) 1099511627776)) false, .eq (decide ((a1 : Int) < 0)) true, .call 124 [(iv a0.2), (iv a1)] [] (iv (F124 a0.2 a1)) [], .call 124 [(iv a0.1), (iv a1)] [] (iv (F124 a0.1 a1)) [], .call 123 [(iv (F124 a0.2 a1)), (iv (F124 a0.1 a1))] [] (.t [(.a (k2 (F123 (F124 a0.2 a1) (F124 a0.1 a1)).1)), (iv (F123 (F124 a0.2 a1) (F124 a0.1 a1)).2)]) []]) (by kernel_rfl) ⟨(C56 a0), h0, (C122 a1 (-1099511627776) 1099511627776), h1, h2, (C124 a0.2 a1), (C124 a0.1 a1), (C123 (F124 a0.2 a1) (F124 a0.1 a1)), trivial⟩
      | false =>
        have q2 := of_decide_eq_false h2
        have e : (F68 a0 a1) = ((F123 (F124 a0.1 a1) (F124 a0.2 a1)).1, (F123 (F124 a0.1 a1) (F124 a0.2 a1)).2) := by simp only [F68, h0, h1, h2, cond_true, cond_false]
        rw [e]
        refine con_of (n := 9) Try.func68 rfl (ent Try.func68 (by kernel_rfl) rfl) (by show 2 ≤ Try.f68.ntmps; decide) (by kernel_rfl) trivial (fun cx hcx => ?_)
        exact ret_of (T := T0) hT hm (f := 5000) (orc := [.call [] (.v (.bool (F56 a0))) [], .d false, .call [] (.v (.bool (F122 a1 (-1099511627776) 1099511627776))) [], .d false, .d false, .call [] (iv (F124 a0.1 a1)) [], .call [] (iv (F124 a0.2 a1)) [], .call [] (.t [(.a (k2 (F123 (F124 a0.1 a1) (F124 a0.2 a1)).1)), (iv (F123 (F124 a0.1 a1) (F124 a0.2 a1)).2)]) []]) [] [] [] hcx
          (obs := [(oC68_0 a0), .eq (!(F56 a0)) false, (oC68_1 a1), .eq (!(F122 a1 (-1099511627776) 1099511627776)) false, .eq (decide ((a1 : Int) < 0)) false, .call 124 [(iv a0.1), (iv a1)] [] (iv (F124 a0.1 a1)) [], .call 124 [(iv a0.2), (iv a1)] [] (iv (F124 a0.2 a1)) [], .call 123 [(iv (F124 a0.1 a1)), (iv (F124 a0.2 a1))] [] (.t [(.a (k2 (F123 (F124 a0.1 a1) (F124 a0.2 a1)).1)), (iv (F123 (F124 a0.1 a1) (F124 a0.2 a1)).2)]) []]) (by kernel_rfl) ⟨(C56 a0), h0, (C122 a1 (-1099511627776) 1099511627776), h1, h2, (C124 a0.1 a1), (C124 a0.2 a1), (C123 (F124 a0.1 a1) (F124 a0.2 a1)), trivial⟩

/-- facet/field.SolidAngle -/
def F26 (a0 : (Int × Int × Int) × (Int × Int × Int) × Int × Int × Int) (a1 : Int × Int × Int) (a2 : Int) : (Int × Int) × Int :=
  (bif (((F21 a0 a1 a2).2 : Int) != 0) then
   ((0, 0), (F21 a0 a1 a2).2)
  else
   (bif (((F57 (F21 a0 a1 a2).1 (F58 (F59 a0.1 a1) (F60 (F59 a0.2.1 a1) (F59 a0.2.2 a1)))).2 : Int) != 0) then
    ((0, 0), (F57 (F21 a0 a1 a2).1 (F58 (F59 a0.1 a1) (F60 (F59 a0.2.1 a1) (F59 a0.2.2 a1)))).2)
   else
    ((F61 (F57 (F21 a0 a1 a2).1 (F58 (F59 a0.1 a1) (F60 (F59 a0.2.1 a1) (F59 a0.2.2 a1)))).1 2).1, (F61 (F57 (F21 a0 a1 a2).1 (F58 (F59 a0.1 a1) (F60 (F59 a0.2.1 a1) (F59 a0.2.2 a1)))).1 2).2)))

noncomputable def oC26_0 (a0 : (Int × Int × Int) × (Int × Int × Int) × Int × Int × Int) (a1 : Int × Int × Int) (a2 : Int) : Ob := .call 21 [(.a (k9 a0)), (.a (k3 a1)), (iv a2)] [] (.t [(.a (k2 (F21 a0 a1 a2).1)), (iv (F21 a0 a1 a2).2)]) []
noncomputable def oC26_1 (a0 : (Int × Int × Int) × (Int × Int × Int) × Int × Int × Int) (a1 : Int × Int × Int) (a2 : Int) : Or := .call [] (.t [(.a (k2 (F57 (F21 a0 a1 a2).1 (F58 (F59 a0.1 a1) (F60 (F59 a0.2.1 a1) (F59 a0.2.2 a1)))).1)), (iv (F57 (F21 a0 a1 a2).1 (F58 (F59 a0.1 a1) (F60 (F59 a0.2.1 a1) (F59 a0.2.2 a1)))).2)]) []
noncomputable def oC26_2 (a0 : (Int × Int × Int) × (Int × Int × Int) × Int × Int × Int) (a1 : Int × Int × Int) (a2 : Int) : Ob := .call 57 [(.a (k2 (F21 a0 a1 a2).1)), (iv (F58 (F59 a0.1 a1) (F60 (F59 a0.2.1 a1) (F59 a0.2.2 a1))))] [] (.t [(.a (k2 (F57 (F21 a0 a1 a2).1 (F58 (F59 a0.1 a1) (F60 (F59 a0.2.1 a1) (F59 a0.2.2 a1)))).1)), (iv (F57 (F21 a0 a1 a2).1 (F58 (F59 a0.1 a1) (F60 (F59 a0.2.1 a1) (F59 a0.2.2 a1)))).2)]) []
theorem C26 (a0 : (Int × Int × Int) × (Int × Int × Int) × Int × Int × Int) (a1 : Int × Int × Int) (a2 : Int) : Con Try.prog 26 [(.a (k9 a0)), (.a (k3 a1)), (iv a2)] [] (.t [(.a (k2 (F26 a0 a1 a2).1)), (iv (F26 a0 a1 a2).2)]) [] := by
  cases h0 : (((F21 a0 a1 a2).2 : Int) != 0) with
  | true =>
    have q0 := bne_iff_ne.1 h0
    have e : (F26 a0 a1 a2) = ((0, 0), (F21 a0 a1 a2).2) := by simp only [F26, h0, cond_true, cond_false]
    rw [e]
    refine con_of (n := 9) Try.func26 rfl (ent Try.func26 (by kernel_rfl) rfl) (by show 3 ≤ Try.f26.ntmps; decide) (by kernel_rfl) trivial (fun cx hcx => ?_)
    exact ret_of (T := T0) hT hm (f := 5000) (orc := [.call [] (.t [(.a (k2 (F21 a0 a1 a2).1)), (iv (F21 a0 a1 a2).2)]) [], .d true]) [] [] [] hcx
      (obs := [(oC26_0 a0 a1 a2), .eq (((F21 a0 a1 a2).2 : Int) != 0) true]) (by kernel_rfl) ⟨(C21 a0 a1 a2), h0, trivial⟩
  | false =>
    cases h1 : (((F57 (F21 a0 a1 a2).1 (F58 (F59 a0.1 a1) (F60 (F59 a0.2.1 a1) (F59 a0.2.2 a1)))).2 : Int) != 0) with
    | true =>
      have q0 := bne_eq_false_iff_eq.1 h0
      have q1 := bne_iff_ne.1 h1
      have e : (F26 a0 a1 a2) = ((0, 0), (F57 (F21 a0 a1 a2).1 (F58 (F59 a0.1 a1) (F60 (F59 a0.2.1 a1) (F59 a0.2.2 a1)))).2) := by simp only [F26, h0, h1, cond_true, cond_false]
      rw [e]
      refine con_of (n := 9) Try.func26 rfl (ent Try.func26 (by kernel_rfl) rfl) (by show 3 ≤ Try.f26.ntmps; decide) (by kernel_rfl) trivial (fun cx hcx => ?_)
      exact ret_of (T := T0) hT hm (f := 5000) (orc := [.call [] (.t [(.a (k2 (F21 a0 a1 a2).1)), (iv (F21 a0 a1 a2).2)]) [], .d false, .call [] (.a (k3 (F59 a0.1 a1))) [], .call [] (.a (k3 (F59 a0.2.1 a1))) [], .call [] (.a (k3 (F59 a0.2.2 a1))) [], .call [] (.a (k3 (F60 (F59 a0.2.1 a1) (F59 a0.2.2 a1)))) [], .call [] (iv (F58 (F59 a0.1 a1) (F60 (F59 a0.2.1 a1) (F59 a0.2.2 a1)))) [], (oC26_1 a0 a1 a2), .d true]) [] [] [] hcx
        (obs := [(oC26_0 a0 a1 a2), .eq (((F21 a0 a1 a2).2 : Int) != 0) false, .call 59 [(.a (k3 a0.1)), (.a (k3 a1))] [] (.a (k3 (F59 a0.1 a1))) [], .call 59 [(.a (k3 a0.2.1)), (.a (k3 a1))] [] (.a (k3 (F59 a0.2.1 a1))) [], .call 59 [(.a (k3 a0.2.2)), (.a (k3 a1))] [] (.a (k3 (F59 a0.2.2 a1))) [], .call 60 [(.a (k3 (F59 a0.2.1 a1))), (.a (k3 (F59 a0.2.2 a1)))] [] (.a (k3 (F60 (F59 a0.2.1 a1) (F59 a0.2.2 a1)))) [], .call 58 [(.a (k3 (F59 a0.1 a1))), (.a (k3 (F60 (F59 a0.2.1 a1) (F59 a0.2.2 a1))))] [] (iv (F58 (F59 a0.1 a1) (F60 (F59 a0.2.1 a1) (F59 a0.2.2 a1)))) [], (oC26_2 a0 a1 a2), .eq (((F57 (F21 a0 a1 a2).1 (F58 (F59 a0.1 a1) (F60 (F59 a0.2.1 a1) (F59 a0.2.2 a1)))).2 : Int) != 0) true]) (by kernel_rfl) ⟨(C21 a0 a1 a2), h0, (C59 a0.1 a1), (C59 a0.2.1 a1), (C59 a0.2.2 a1), (C60 (F59 a0.2.1 a1) (F59 a0.2.2 a1)), (C58 (F59 a0.1 a1) (F60 (F59 a0.2.1 a1) (F59 a0.2.2 a1))), (C57 (F21 a0 a1 a2).1 (F58 (F59 a0.1 a1) (F60 (F59 a0.2.1 a1) (F59 a0.2.2 a1)))), h1, trivial⟩
    | false =>
      have q0 := bne_eq_false_iff_eq.1 h0
      have q1 := bne_eq_false_iff_eq.1 h1
      have e : (F26 a0 a1 a2) = ((F61 (F57 (F21 a0 a1 a2).1 (F58 (F59 a0.1 a1) (F60 (F59 a0.2.1 a1) (F59 a0.2.2 a1)))).1 2).1, (F61 (F57 (F21 a0 a1 a2).1 (F58 (F59 a0.1 a1) (F60 (F59 a0.2.1 a1) (F59 a0.2.2 a1)))).1 2).2) := by simp only [F26, h0, h1, cond_true, cond_false]
      rw [e]
      refine con_of (n := 9) Try.func26 rfl (ent Try.func26 (by kernel_rfl) rfl) (by show 3 ≤ Try.f26.ntmps; decide) (by kernel_rfl) trivial (fun cx hcx => ?_)
      exact ret_of (T := T0) hT hm (f := 5000) (orc := [.call [] (.t [(.a (k2 (F21 a0 a1 a2).1)), (iv (F21 a0 a1 a2).2)]) [], .d false, .call [] (.a (k3 (F59 a0.1 a1))) [], .call [] (.a (k3 (F59 a0.2.1 a1))) [], .call [] (.a (k3 (F59 a0.2.2 a1))) [], .call [] (.a (k3 (F60 (F59 a0.2.1 a1) (F59 a0.2.2 a1)))) [], .call [] (iv (F58 (F59 a0.1 a1) (F60 (F59 a0.2.1 a1) (F59 a0.2.2 a1)))) [], (oC26_1 a0 a1 a2), .d false, .call [] (.t [(.a (k2 (F61 (F57 (F21 a0 a1 a2).1 (F58 (F59 a0.1 a1) (F60 (F59 a0.2.1 a1) (F59 a0.2.2 a1)))).1 2).1)), (iv (F61 (F57 (F21 a0 a1 a2).1 (F58 (F59 a0.1 a1) (F60 (F59 a0.2.1 a1) (F59 a0.2.2 a1)))).1 2).2)]) []]) [] [] [] hcx
        (obs := [(oC26_0 a0 a1 a2), .eq (((F21 a0 a1 a2).2 : Int) != 0) false, .call 59 [(.a (k3 a0.1)), (.a (k3 a1))] [] (.a (k3 (F59 a0.1 a1))) [], .call 59 [(.a (k3 a0.2.1)), (.a (k3 a1))] [] (.a (k3 (F59 a0.2.1 a1))) [], .call 59 [(.a (k3 a0.2.2)), (.a (k3 a1))] [] (.a (k3 (F59 a0.2.2 a1))) [], .call 60 [(.a (k3 (F59 a0.2.1 a1))), (.a (k3 (F59 a0.2.2 a1)))] [] (.a (k3 (F60 (F59 a0.2.1 a1) (F59 a0.2.2 a1)))) [], .call 58 [(.a (k3 (F59 a0.1 a1))), (.a (k3 (F60 (F59 a0.2.1 a1) (F59 a0.2.2 a1))))] [] (iv (F58 (F59 a0.1 a1) (F60 (F59 a0.2.1 a1) (F59 a0.2.2 a1)))) [], (oC26_2 a0 a1 a2), .eq (((F57 (F21 a0 a1 a2).1 (F58 (F59 a0.1 a1) (F60 (F59 a0.2.1 a1) (F59 a0.2.2 a1)))).2 : Int) != 0) false, .call 61 [(.a (k2 (F57 (F21 a0 a1 a2).1 (F58 (F59 a0.1 a1) (F60 (F59 a0.2.1 a1) (F59 a0.2.2 a1)))).1)), (iv 2)] [] (.t [(.a (k2 (F61 (F57 (F21 a0 a1 a2).1 (F58 (F59 a0.1 a1) (F60 (F59 a0.2.1 a1) (F59 a0.2.2 a1)))).1 2).1)), (iv (F61 (F57 (F21 a0 a1 a2).1 (F58 (F59 a0.1 a1) (F60 (F59 a0.2.1 a1) (F59 a0.2.2 a1)))).1 2).2)]) []]) (by kernel_rfl) ⟨(C21 a0 a1 a2), h0, (C59 a0.1 a1), (C59 a0.2.1 a1), (C59 a0.2.2 a1), (C60 (F59 a0.2.1 a1) (F59 a0.2.2 a1)), (C58 (F59 a0.1 a1) (F60 (F59 a0.2.1 a1) (F59 a0.2.2 a1))), (C57 (F21 a0 a1 a2).1 (F58 (F59 a0.1 a1) (F60 (F59 a0.2.1 a1) (F59 a0.2.2 a1)))), h1, (C61 (F57 (F21 a0 a1 a2).1 (F58 (F59 a0.1 a1) (F60 (F59 a0.2.1 a1) (F59 a0.2.2 a1)))).1 2), trivial⟩

/-- facet/facetref03.SolidAngle -/
def F29 (a0 : (Int × Int × Int) × (Int × Int × Int) × Int × Int × Int) (a1 : Int × Int × Int) (a2 : Int) : (Int × Int) × Int :=
  (bif (((F22 a0 a1 a2).2 : Int) != 0) then
   ((0, 0), (F22 a0 a1 a2).2)
  else
   (bif (((F68 (F22 a0 a1 a2).1 (F69 a0 a1)).2 : Int) != 0) then
    ((0, 0), (F68 (F22 a0 a1 a2).1 (F69 a0 a1)).2)
   else
    ((F70 (F68 (F22 a0 a1 a2).1 (F69 a0 a1)).1 2).1, (F70 (F68 (F22 a0 a1 a2).1 (F69 a0 a1)).1 2).2)))

noncomputable def oC29_0 (a0 : (Int × Int × Int) × (Int × Int × Int) × Int × Int × Int) (a1 : Int × Int × Int) (a2 : Int) : Ob := .call 22 [(.a (k9 a0)), (.a (k3 a1)), (iv a2)] [] (.t [(.a (k2 (F22 a0 a1 a2).1)), (iv (F22 a0 a1 a2).2)]) []
theorem C29 (a0 : (Int × Int × Int) × (Int × Int × Int) × Int × Int × Int) (a1 : Int × Int × Int) (a2 : Int) : Con Try.prog 29 [(.a (k9 a0)), (.a (k3 a1)), (iv a2)] [] (.t [(.a (k2 (F29 a0 a1 a2).1)), (iv (F29 a0 a1 a2).2)]) [] := by
  cases h0 : (((F22 a0 a1 a2).2 : Int) != 0) with
  | true =>
    have q0 := bne_iff_ne.1 h0
    have e : (F29 a0 a1 a2) = ((0, 0), (F22 a0 a1 a2).2) := by simp only [F29, h0, cond_true, cond_false]
    rw [e]
    refine con_of (n := 9) Try.func29 rfl (ent Try.func29 (by kernel_rfl) rfl) (by show 3 ≤ Try.f29.ntmps; decide) (by kernel_rfl) trivial (fun cx hcx => ?_)
    exact ret_of (T := T0) hT hm (f := 5000) (orc := [.call [] (.t [(.a (k2 (F22 a0 a1 a2).1)), (iv (F22 a0 a1 a2).2)]) [], .d true]) [] [] [] hcx
      (obs := [(oC29_0 a0 a1 a2), .eq (((F22 a0 a1 a2).2 : Int) != 0) true]) (by kernel_rfl) ⟨(C22 a0 a1 a2), h0, trivial⟩
  | false =>
    cases h1 : (((F68 (F22 a0 a1 a2).1 (F69 a0 a1)).2 : Int) != 0) with
    | true =>
      have q0 := bne_eq_false_iff_eq.1 h0
      have q1 := bne_iff_ne.1 h1
      have e : (F29 a0 a1 a2) = ((0, 0), (F68 (F22 a0 a1 a2).1 (F69 a0 a1)).2) := by simp only [F29, h0, h1, cond_true, cond_false]
      rw [e]
      refine con_of (n := 9) Try.func29 rfl (ent Try.func29 (by kernel_rfl) rfl) (by show 3 ≤ Try.f29.ntmps; decide) (by kernel_rfl) trivial (fun cx hcx => ?_)
      exact ret_of (T := T0) hT hm (f := 5000) (orc := [.call [] (.t [(.a (k2 (F22 a0 a1 a2).1)), (iv (F22 a0 a1 a2).2)]) [], .d false, .call [] (iv (F69 a0 a1)) [], .call [] (.t [(.a (k2 (F68 (F22 a0 a1 a2).1 (F69 a0 a1)).1)), (iv (F68 (F22 a0 a1 a2).1 (F69 a0 a1)).2)]) [], .d true]) [] [] [] hcx
        (obs := [(oC29_0 a0 a1 a2), .eq (((F22 a0 a1 a2).2 : Int) != 0) false, .call 69 [(.a (k9 a0)), (.a (k3 a1))] [] (iv (F69 a0 a1)) [], .call 68 [(.a (k2 (F22 a0 a1 a2).1)), (iv (F69 a0 a1))] [] (.t [(.a (k2 (F68 (F22 a0 a1 a2).1 (F69 a0 a1)).1)), (iv (F68 (F22 a0 a1 a2).1 (F69 a0 a1)).2)]) [], .eq (((F68 (F22 a0 a1 a2).1 (F69 a0 a1)).2 : Int) != 0) true]) (by kernel_rfl) ⟨(C22 a0 a1 a2), h0, (C69 a0 a1), (C68 (F22 a0 a1 a2).1 (F69 a0 a1)), h1, trivial⟩
    | false =>
      have q0 := bne_eq_false_iff_eq.1 h0
      have q1 := bne_eq_false_iff_eq.1 h1
      have e : (F29 a0 a1 a2) = ((F70 (F68 (F22 a0 a1 a2).1 (F69 a0 a1)).1 2).1, (F70 (F68 (F22 a0 a1 a2).1 (F69 a0 a1)).1 2).2) := by simp only [F29, h0, h1, cond_true, cond_false]
      rw [e]
      refine con_of (n := 9) Try.func29 rfl (ent Try.func29 (by kernel_rfl) rfl) (by show 3 ≤ Try.f29.ntmps; decide) (by kernel_rfl) trivial (fun cx hcx => ?_)
      exact ret_of (T := T0) hT hm (f := 5000) (orc := [.call [] (.t [(.a (k2 (F22 a0 a1 a2).1)), (iv (F22 a0 a1 a2).2)]) [], .d false, .call [] (iv (F69 a0 a1)) [], .call [] (.t [(.a (k2 (F68 (F22 a0 a1 a2).1 (F69 a0 a1)).1)), (iv (F68 (F22 a0 a1 a2).1 (F69 a0 a1)).2)]) [], .d false, .call [] (.t [(.a (k2 (F70 (F68 (F22 a0 a1 a2).1 (F69 a0 a1)).1 2).1)), (iv (F70 (F68 (F22 a0 a1 a2).1 (F69 a0 a1)).1 2).2)]) []]) [] [] [] hcx
        (obs := [(oC29_0 a0 a1 a2), .eq (((F22 a0 a1 a2).2 : Int) != 0) false, .call 69 [(.a (k9 a0)), (.a (k3 a1))] [] (iv (F69 a0 a1)) [], .call 68 [(.a (k2 (F22 a0 a1 a2).1)), (iv (F69 a0 a1))] [] (.t [(.a (k2 (F68 (F22 a0 a1 a2).1 (F69 a0 a1)).1)), (iv (F68 (F22 a0 a1 a2).1 (F69 a0 a1)).2)]) [], .eq (((F68 (F22 a0 a1 a2).1 (F69 a0 a1)).2 : Int) != 0) false, .call 70 [(.a (k2 (F68 (F22 a0 a1 a2).1 (F69 a0 a1)).1)), (iv 2)] [] (.t [(.a (k2 (F70 (F68 (F22 a0 a1 a2).1 (F69 a0 a1)).1 2).1)), (iv (F70 (F68 (F22 a0 a1 a2).1 (F69 a0 a1)).1 2).2)]) []]) (by kernel_rfl) ⟨(C22 a0 a1 a2), h0, (C69 a0 a1), (C68 (F22 a0 a1 a2).1 (F69 a0 a1)), h1, (C70 (F68 (F22 a0 a1 a2).1 (F69 a0 a1)).1 2), trivial⟩

end Go.Proofs.Ytjlekmjnkpcnoaa
