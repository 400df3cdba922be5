/-
  Parts of the proofs of the laws: the executor, what functions of the program compute, and that it is what the statements ask. No premise.
-/
import Derived.Test.YtopbnnmkdildgaaU2
import Derived.ProofKit
namespace Go.Proofs.Ytopbnnmkdildgaa
open Go.Proofs Go.Aw Go.RowKit
set_option maxRecDepth 100000
set_option linter.unusedVariables false
set_option linter.unusedSimpArgs false

/-- facet/shape.from -/
def F127 (a0 : Int) (a1 : Int) (a2 : Int) : Bool :=
  (bif (decide ((a1 : Int) ≤ a0)) then
   (decide ((a0 : Int) ≤ a2))
  else
   false)

theorem C127 (a0 : Int) (a1 : Int) (a2 : Int) : Con Try.prog 127 [(iv a0), (iv a1), (iv a2)] [] (.v (.bool (F127 a0 a1 a2))) [] := by
  cases h0 : (decide ((a1 : Int) ≤ a0)) with
  | true =>
    have q0 := of_decide_eq_true h0
    have e : (F127 a0 a1 a2) = (decide ((a0 : Int) ≤ a2)) := by simp only [F127, h0, cond_true, cond_false]
    rw [e]
    refine con_of (n := 9) Try.func127 rfl (ent Try.func127 (by kernel_rfl) rfl) (by show 3 ≤ Try.f127.ntmps; decide) (by kernel_rfl) trivial (fun cx hcx => ?_)
    exact ret_of (T := T0) hT hm (f := 5000) (orc := [.d true]) [] [] [] hcx
      (obs := [.eq (decide ((a1 : Int) ≤ a0)) true]) (by kernel_rfl) ⟨h0, trivial⟩
  | false =>
    have q0 := of_decide_eq_false h0
    have e : (F127 a0 a1 a2) = false := by simp only [F127, h0, cond_true, cond_false]
    rw [e]
    refine con_of (n := 9) Try.func127 rfl (ent Try.func127 (by kernel_rfl) rfl) (by show 3 ≤ Try.f127.ntmps; decide) (by kernel_rfl) trivial (fun cx hcx => ?_)
    exact ret_of (T := T0) hT hm (f := 5000) (orc := [.d false]) [] [] [] hcx
      (obs := [.eq (decide ((a1 : Int) ≤ a0)) false]) (by kernel_rfl) ⟨h0, trivial⟩

/-- facet/shape.inRange -/
def F95 (a0 : Int × Int × Int) (a1 : Int) : Bool :=
  (bif (F127 a0.1 (W (0 - a1)) a1) then
   (bif (F127 a0.2.1 (W (0 - a1)) a1) then
    (F127 a0.2.2 (W (0 - a1)) a1)
   else
    false)
  else
   false)

noncomputable def oC95_0 (a0 : Int × Int × Int) (a1 : Int) : Ob := .call 127 [(iv a0.1), (iv (W (0 - a1))), (iv a1)] [] (.v (.bool (F127 a0.1 (W (0 - a1)) a1))) []
theorem C95 (a0 : Int × Int × Int) (a1 : Int) : Con Try.prog 95 [(.a (k3 a0)), (iv a1)] [] (.v (.bool (F95 a0 a1))) [] := by
  cases h0 : (F127 a0.1 (W (0 - a1)) a1) with
  | true =>
    cases h1 : (F127 a0.2.1 (W (0 - a1)) a1) with
    | true =>
      have e : (F95 a0 a1) = (F127 a0.2.2 (W (0 - a1)) a1) := by simp only [F95, h0, h1, cond_true, cond_false]
      rw [e]
      refine con_of (n := 9) Try.func95 rfl (ent Try.func95 (by kernel_rfl) rfl) (by show 2 ≤ Try.f95.ntmps; decide) (by kernel_rfl) trivial (fun cx hcx => ?_)
      exact ret_of (T := T0) hT hm (f := 5000) (orc := [.call [] (.v (.bool (F127 a0.1 (W (0 - a1)) a1))) [], .d true, .call [] (.v (.bool (F127 a0.2.1 (W (0 - a1)) a1))) [], .d true, .call [] (.v (.bool (F127 a0.2.2 (W (0 - a1)) a1))) []]) [] [] [] hcx
        (obs := [(oC95_0 a0 a1), .eq (F127 a0.1 (W (0 - a1)) a1) true, .call 127 [(iv a0.2.1), (iv (W (0 - a1))), (iv a1)] [] (.v (.bool (F127 a0.2.1 (W (0 - a1)) a1))) [], .eq (F127 a0.2.1 (W (0 - a1)) a1) true, .call 127 [(iv a0.2.2), (iv (W (0 - a1))), (iv a1)] [] (.v (.bool (F127 a0.2.2 (W (0 - a1)) a1))) []]) (by kernel_rfl) ⟨(C127 a0.1 (W (0 - a1)) a1), h0, (C127 a0.2.1 (W (0 - a1)) a1), h1, (C127 a0.2.2 (W (0 - a1)) a1), trivial⟩
    | false =>
      have e : (F95 a0 a1) = false := by simp only [F95, h0, h1, cond_true, cond_false]
      rw [e]
      refine con_of (n := 9) Try.func95 rfl (ent Try.func95 (by kernel_rfl) rfl) (by show 2 ≤ Try.f95.ntmps; decide) (by kernel_rfl) trivial (fun cx hcx => ?_)
      exact ret_of (T := T0) hT hm (f := 5000) (orc := [.call [] (.v (.bool (F127 a0.1 (W (0 - a1)) a1))) [], .d true, .call [] (.v (.bool (F127 a0.2.1 (W (0 - a1)) a1))) [], .d false]) [] [] [] hcx
        (obs := [(oC95_0 a0 a1), .eq (F127 a0.1 (W (0 - a1)) a1) true, .call 127 [(iv a0.2.1), (iv (W (0 - a1))), (iv a1)] [] (.v (.bool (F127 a0.2.1 (W (0 - a1)) a1))) [], .eq (F127 a0.2.1 (W (0 - a1)) a1) false]) (by kernel_rfl) ⟨(C127 a0.1 (W (0 - a1)) a1), h0, (C127 a0.2.1 (W (0 - a1)) a1), h1, trivial⟩
  | false =>
    have e : (F95 a0 a1) = false := by simp only [F95, h0, cond_true, cond_false]
    rw [e]
    refine con_of (n := 9) Try.func95 rfl (ent Try.func95 (by kernel_rfl) rfl) (by show 2 ≤ Try.f95.ntmps; decide) (by kernel_rfl) trivial (fun cx hcx => ?_)
    exact ret_of (T := T0) hT hm (f := 5000) (orc := [.call [] (.v (.bool (F127 a0.1 (W (0 - a1)) a1))) [], .d false]) [] [] [] hcx
      (obs := [(oC95_0 a0 a1), .eq (F127 a0.1 (W (0 - a1)) a1) false]) (by kernel_rfl) ⟨(C127 a0.1 (W (0 - a1)) a1), h0, trivial⟩

/-- facet/shape.plus -/
def F157 (a0 : Int × Int × Int) (a1 : Int) (a2 : Int × Int × Int) : Int × Int × Int :=
  ((W (a0.1 + (W (a1 * a2.1)))), (W (a0.2.1 + (W (a1 * a2.2.1)))), (W (a0.2.2 + (W (a1 * a2.2.2)))))

theorem C157 (a0 : Int × Int × Int) (a1 : Int) (a2 : Int × Int × Int) : Con Try.prog 157 [(.a (k3 a0)), (iv a1), (.a (k3 a2))] [] (.a (k3 (F157 a0 a1 a2))) [] := by
  have e : (F157 a0 a1 a2) = ((W (a0.1 + (W (a1 * a2.1)))), (W (a0.2.1 + (W (a1 * a2.2.1)))), (W (a0.2.2 + (W (a1 * a2.2.2))))) := by simp only [F157]
  rw [e]
  refine con_of (n := 9) Try.func157 rfl (ent Try.func157 (by kernel_rfl) rfl) (by show 3 ≤ Try.f157.ntmps; decide) (by kernel_rfl) trivial (fun cx hcx => ?_)
  exact ret_of (T := T0) hT hm (f := 5000) (orc := []) [] [] [] hcx
    (obs := []) (by kernel_rfl) trivial

/-- facet/shape.minus -/
def F129 (a0 : Int × Int × Int) (a1 : Int × Int × Int) : Int × Int × Int :=
  (F157 a0 (-1) a1)

theorem C129 (a0 : Int × Int × Int) (a1 : Int × Int × Int) : Con Try.prog 129 [(.a (k3 a0)), (.a (k3 a1))] [] (.a (k3 (F129 a0 a1))) [] := by
  have e : (F129 a0 a1) = (F157 a0 (-1) a1) := by simp only [F129]
  rw [e]
  refine con_of (n := 9) Try.func129 rfl (ent Try.func129 (by kernel_rfl) rfl) (by show 2 ≤ Try.f129.ntmps; decide) (by kernel_rfl) trivial (fun cx hcx => ?_)
  exact ret_of (T := T0) hT hm (f := 5000) (orc := [.call [] (.a (k3 (F157 a0 (-1) a1))) []]) [] [] [] hcx
    (obs := [.call 157 [(.a (k3 a0)), (iv (-1)), (.a (k3 a1))] [] (.a (k3 (F157 a0 (-1) a1))) []]) (by kernel_rfl) ⟨(C157 a0 (-1) a1), trivial⟩

/-- facet/shape.cross -/
def F128 (a0 : Int × Int × Int) (a1 : Int × Int × Int) : Int × Int × Int :=
  ((W ((W (a0.2.1 * a1.2.2)) - (W (a0.2.2 * a1.2.1)))), (W ((W (a0.2.2 * a1.1)) - (W (a0.1 * a1.2.2)))), (W ((W (a0.1 * a1.2.1)) - (W (a0.2.1 * a1.1)))))

theorem C128 (a0 : Int × Int × Int) (a1 : Int × Int × Int) : Con Try.prog 128 [(.a (k3 a0)), (.a (k3 a1))] [] (.a (k3 (F128 a0 a1))) [] := by
  have e : (F128 a0 a1) = ((W ((W (a0.2.1 * a1.2.2)) - (W (a0.2.2 * a1.2.1)))), (W ((W (a0.2.2 * a1.1)) - (W (a0.1 * a1.2.2)))), (W ((W (a0.1 * a1.2.1)) - (W (a0.2.1 * a1.1))))) := by simp only [F128]
  rw [e]
  refine con_of (n := 9) Try.func128 rfl (ent Try.func128 (by kernel_rfl) rfl) (by show 2 ≤ Try.f128.ntmps; decide) (by kernel_rfl) trivial (fun cx hcx => ?_)
  exact ret_of (T := T0) hT hm (f := 5000) (orc := []) [] [] [] hcx
    (obs := []) (by kernel_rfl) trivial

/-- facet/shape.normal -/
def F96 (a0 : (Int × Int × Int) × (Int × Int × Int) × Int × Int × Int) : Int × Int × Int :=
  (F128 (F129 a0.2.1 a0.1) (F129 a0.2.2 a0.1))

theorem C96 (a0 : (Int × Int × Int) × (Int × Int × Int) × Int × Int × Int) : Con Try.prog 96 [(.a (k9 a0))] [] (.a (k3 (F96 a0))) [] := by
  have e : (F96 a0) = (F128 (F129 a0.2.1 a0.1) (F129 a0.2.2 a0.1)) := by simp only [F96]
  rw [e]
  refine con_of (n := 9) Try.func96 rfl (ent Try.func96 (by kernel_rfl) rfl) (by show 1 ≤ Try.f96.ntmps; decide) (by kernel_rfl) trivial (fun cx hcx => ?_)
  exact ret_of (T := T0) hT hm (f := 5000) (orc := [.call [] (.a (k3 (F129 a0.2.1 a0.1))) [], .call [] (.a (k3 (F129 a0.2.2 a0.1))) [], .call [] (.a (k3 (F128 (F129 a0.2.1 a0.1) (F129 a0.2.2 a0.1)))) []]) [] [] [] hcx
    (obs := [.call 129 [(.a (k3 a0.2.1)), (.a (k3 a0.1))] [] (.a (k3 (F129 a0.2.1 a0.1))) [], .call 129 [(.a (k3 a0.2.2)), (.a (k3 a0.1))] [] (.a (k3 (F129 a0.2.2 a0.1))) [], .call 128 [(.a (k3 (F129 a0.2.1 a0.1))), (.a (k3 (F129 a0.2.2 a0.1)))] [] (.a (k3 (F128 (F129 a0.2.1 a0.1) (F129 a0.2.2 a0.1)))) []]) (by kernel_rfl) ⟨(C129 a0.2.1 a0.1), (C129 a0.2.2 a0.1), (C128 (F129 a0.2.1 a0.1) (F129 a0.2.2 a0.1)), trivial⟩

/-- facet/shape.ValidatePanel -/
def F66 (a0 : (Int × Int × Int) × (Int × Int × Int) × Int × Int × Int) : Int :=
  (bif (!(F95 a0.1 64)) then
   1
  else
   (bif (!(F95 a0.2.1 64)) then
    1
   else
    (bif (!(F95 a0.2.2 64)) then
     1
    else
     (bif ((((F96 a0).1 : Int) == 0) && ((((F96 a0).2.1 : Int) == 0) && ((((F96 a0).2.2 : Int) == 0) && true))) then
      6
     else
      0))))

noncomputable def oC66_0 (a0 : (Int × Int × Int) × (Int × Int × Int) × Int × Int × Int) : Ob := .call 95 [(.a (k3 a0.1)), (iv 64)] [] (.v (.bool (F95 a0.1 64))) []
noncomputable def oC66_1 (a0 : (Int × Int × Int) × (Int × Int × Int) × Int × Int × Int) : Ob := .call 95 [(.a (k3 a0.2.1)), (iv 64)] [] (.v (.bool (F95 a0.2.1 64))) []
theorem C66 (a0 : (Int × Int × Int) × (Int × Int × Int) × Int × Int × Int) : Con Try.prog 66 [(.a (k9 a0))] [] (iv (F66 a0)) [] := by
  cases h0 : (!(F95 a0.1 64)) with
  | true =>
    have e : (F66 a0) = 1 := by simp only [F66, h0, cond_true, cond_false]
    rw [e]
    refine con_of (n := 9) Try.func66 rfl (ent Try.func66 (by kernel_rfl) rfl) (by show 1 ≤ Try.f66.ntmps; decide) (by kernel_rfl) trivial (fun cx hcx => ?_)
    exact ret_of (T := T0) hT hm (f := 5000) (orc := [.call [] (.v (.bool (F95 a0.1 64))) [], .d true]) [] [] [] hcx
      (obs := [(oC66_0 a0), .eq (!(F95 a0.1 64)) true]) (by kernel_rfl) ⟨(C95 a0.1 64), h0, trivial⟩
  | false =>
    cases h1 : (!(F95 a0.2.1 64)) with
    | true =>
      have e : (F66 a0) = 1 := by simp only [F66, h0, h1, cond_true, cond_false]
      rw [e]
      refine con_of (n := 9) Try.func66 rfl (ent Try.func66 (by kernel_rfl) rfl) (by show 1 ≤ Try.f66.ntmps; decide) (by kernel_rfl) trivial (fun cx hcx => ?_)
      exact ret_of (T := T0) hT hm (f := 5000) (orc := [.call [] (.v (.bool (F95 a0.1 64))) [], .d false, .call [] (.v (.bool (F95 a0.2.1 64))) [], .d true]) [] [] [] hcx
        (obs := [(oC66_0 a0), .eq (!(F95 a0.1 64)) false, (oC66_1 a0), .eq (!(F95 a0.2.1 64)) true]) (by kernel_rfl) ⟨(C95 a0.1 64), h0, (C95 a0.2.1 64), h1, trivial⟩
    | false =>
      cases h2 : (!(F95 a0.2.2 64)) with
      | true =>
        have e : (F66 a0) = 1 := by simp only [F66, h0, h1, h2, cond_true, cond_false]
        rw [e]
        refine con_of (n := 9) Try.func66 rfl (ent Try.func66 (by kernel_rfl) rfl) (by show 1 ≤ Try.f66.ntmps; decide) (by kernel_rfl) trivial (fun cx hcx => ?_)
        exact ret_of (T := T0) hT hm (f := 5000) (orc := [.call [] (.v (.bool (F95 a0.1 64))) [], .d false, .call [] (.v (.bool (F95 a0.2.1 64))) [], .d false, .call [] (.v (.bool (F95 a0.2.2 64))) [], .d true]) [] [] [] hcx
          (obs := [(oC66_0 a0), .eq (!(F95 a0.1 64)) false, (oC66_1 a0), .eq (!(F95 a0.2.1 64)) false, .call 95 [(.a (k3 a0.2.2)), (iv 64)] [] (.v (.bool (F95 a0.2.2 64))) [], .eq (!(F95 a0.2.2 64)) true]) (by kernel_rfl) ⟨(C95 a0.1 64), h0, (C95 a0.2.1 64), h1, (C95 a0.2.2 64), h2, trivial⟩
      | false =>
        cases h3 : ((((F96 a0).1 : Int) == 0) && ((((F96 a0).2.1 : Int) == 0) && ((((F96 a0).2.2 : Int) == 0) && true))) with
        | true =>
          have e : (F66 a0) = 6 := by simp only [F66, h0, h1, h2, h3, cond_true, cond_false]
          rw [e]
          refine con_of (n := 9) Try.func66 rfl (ent Try.func66 (by kernel_rfl) rfl) (by show 1 ≤ Try.f66.ntmps; decide) (by kernel_rfl) trivial (fun cx hcx => ?_)
          exact ret_of (T := T0) hT hm (f := 5000) (orc := [.call [] (.v (.bool (F95 a0.1 64))) [], .d false, .call [] (.v (.bool (F95 a0.2.1 64))) [], .d false, .call [] (.v (.bool (F95 a0.2.2 64))) [], .d false, .call [] (.a (k3 (F96 a0))) [], .d true]) [] [] [] hcx
            (obs := [(oC66_0 a0), .eq (!(F95 a0.1 64)) false, (oC66_1 a0), .eq (!(F95 a0.2.1 64)) false, .call 95 [(.a (k3 a0.2.2)), (iv 64)] [] (.v (.bool (F95 a0.2.2 64))) [], .eq (!(F95 a0.2.2 64)) false, .call 96 [(.a (k9 a0))] [] (.a (k3 (F96 a0))) [], .eq ((((F96 a0).1 : Int) == 0) && ((((F96 a0).2.1 : Int) == 0) && ((((F96 a0).2.2 : Int) == 0) && true))) true]) (by kernel_rfl) ⟨(C95 a0.1 64), h0, (C95 a0.2.1 64), h1, (C95 a0.2.2 64), h2, (C96 a0), h3, trivial⟩
        | false =>
          have e : (F66 a0) = 0 := by simp only [F66, h0, h1, h2, h3, cond_true, cond_false]
          rw [e]
          refine con_of (n := 9) Try.func66 rfl (ent Try.func66 (by kernel_rfl) rfl) (by show 1 ≤ Try.f66.ntmps; decide) (by kernel_rfl) trivial (fun cx hcx => ?_)
          exact ret_of (T := T0) hT hm (f := 5000) (orc := [.call [] (.v (.bool (F95 a0.1 64))) [], .d false, .call [] (.v (.bool (F95 a0.2.1 64))) [], .d false, .call [] (.v (.bool (F95 a0.2.2 64))) [], .d false, .call [] (.a (k3 (F96 a0))) [], .d false]) [] [] [] hcx
            (obs := [(oC66_0 a0), .eq (!(F95 a0.1 64)) false, (oC66_1 a0), .eq (!(F95 a0.2.1 64)) false, .call 95 [(.a (k3 a0.2.2)), (iv 64)] [] (.v (.bool (F95 a0.2.2 64))) [], .eq (!(F95 a0.2.2 64)) false, .call 96 [(.a (k9 a0))] [] (.a (k3 (F96 a0))) [], .eq ((((F96 a0).1 : Int) == 0) && ((((F96 a0).2.1 : Int) == 0) && ((((F96 a0).2.2 : Int) == 0) && true))) false]) (by kernel_rfl) ⟨(C95 a0.1 64), h0, (C95 a0.2.1 64), h1, (C95 a0.2.2 64), h2, (C96 a0), h3, trivial⟩

/-- facet/field.within -/
def F43 (a0 : Int) (a1 : Int) (a2 : Int) : Bool :=
  (bif (decide ((a0 : Int) ≥ a1)) then
   (decide ((a0 : Int) ≤ a2))
  else
   false)

theorem C43 (a0 : Int) (a1 : Int) (a2 : Int) : Con Try.prog 43 [(iv a0), (iv a1), (iv a2)] [] (.v (.bool (F43 a0 a1 a2))) [] := by
  cases h0 : (decide ((a0 : Int) ≥ a1)) with
  | true =>
    have q0 := of_decide_eq_true h0
    have e : (F43 a0 a1 a2) = (decide ((a0 : Int) ≤ a2)) := by simp only [F43, h0, cond_true, cond_false]
    rw [e]
    refine con_of (n := 9) Try.func43 rfl (ent Try.func43 (by kernel_rfl) rfl) (by show 3 ≤ Try.f43.ntmps; decide) (by kernel_rfl) trivial (fun cx hcx => ?_)
    exact ret_of (T := T0) hT hm (f := 5000) (orc := [.d true]) [] [] [] hcx
      (obs := [.eq (decide ((a0 : Int) ≥ a1)) true]) (by kernel_rfl) ⟨h0, trivial⟩
  | false =>
    have q0 := of_decide_eq_false h0
    have e : (F43 a0 a1 a2) = false := by simp only [F43, h0, cond_true, cond_false]
    rw [e]
    refine con_of (n := 9) Try.func43 rfl (ent Try.func43 (by kernel_rfl) rfl) (by show 3 ≤ Try.f43.ntmps; decide) (by kernel_rfl) trivial (fun cx hcx => ?_)
    exact ret_of (T := T0) hT hm (f := 5000) (orc := [.d false]) [] [] [] hcx
      (obs := [.eq (decide ((a0 : Int) ≥ a1)) false]) (by kernel_rfl) ⟨h0, trivial⟩

/-- facet/field.seen -/
def F42 (a0 : Int × Int × Int) : Bool :=
  (bif (F43 a0.1 (-256) 256) then
   (bif (F43 a0.2.1 (-256) 256) then
    (F43 a0.2.2 (-256) 256)
   else
    false)
  else
   false)

noncomputable def oC42_0 (a0 : Int × Int × Int) : Ob := .call 43 [(iv a0.1), (iv (-256)), (iv 256)] [] (.v (.bool (F43 a0.1 (-256) 256))) []
theorem C42 (a0 : Int × Int × Int) : Con Try.prog 42 [(.a (k3 a0))] [] (.v (.bool (F42 a0))) [] := by
  cases h0 : (F43 a0.1 (-256) 256) with
  | true =>
    cases h1 : (F43 a0.2.1 (-256) 256) with
    | true =>
      have e : (F42 a0) = (F43 a0.2.2 (-256) 256) := by simp only [F42, h0, h1, cond_true, cond_false]
      rw [e]
      refine con_of (n := 9) Try.func42 rfl (ent Try.func42 (by kernel_rfl) rfl) (by show 1 ≤ Try.f42.ntmps; decide) (by kernel_rfl) trivial (fun cx hcx => ?_)
      exact ret_of (T := T0) hT hm (f := 5000) (orc := [.call [] (.v (.bool (F43 a0.1 (-256) 256))) [], .d true, .call [] (.v (.bool (F43 a0.2.1 (-256) 256))) [], .d true, .call [] (.v (.bool (F43 a0.2.2 (-256) 256))) []]) [] [] [] hcx
        (obs := [(oC42_0 a0), .eq (F43 a0.1 (-256) 256) true, .call 43 [(iv a0.2.1), (iv (-256)), (iv 256)] [] (.v (.bool (F43 a0.2.1 (-256) 256))) [], .eq (F43 a0.2.1 (-256) 256) true, .call 43 [(iv a0.2.2), (iv (-256)), (iv 256)] [] (.v (.bool (F43 a0.2.2 (-256) 256))) []]) (by kernel_rfl) ⟨(C43 a0.1 (-256) 256), h0, (C43 a0.2.1 (-256) 256), h1, (C43 a0.2.2 (-256) 256), trivial⟩
    | false =>
      have e : (F42 a0) = false := by simp only [F42, h0, h1, cond_true, cond_false]
      rw [e]
      refine con_of (n := 9) Try.func42 rfl (ent Try.func42 (by kernel_rfl) rfl) (by show 1 ≤ Try.f42.ntmps; decide) (by kernel_rfl) trivial (fun cx hcx => ?_)
      exact ret_of (T := T0) hT hm (f := 5000) (orc := [.call [] (.v (.bool (F43 a0.1 (-256) 256))) [], .d true, .call [] (.v (.bool (F43 a0.2.1 (-256) 256))) [], .d false]) [] [] [] hcx
        (obs := [(oC42_0 a0), .eq (F43 a0.1 (-256) 256) true, .call 43 [(iv a0.2.1), (iv (-256)), (iv 256)] [] (.v (.bool (F43 a0.2.1 (-256) 256))) [], .eq (F43 a0.2.1 (-256) 256) false]) (by kernel_rfl) ⟨(C43 a0.1 (-256) 256), h0, (C43 a0.2.1 (-256) 256), h1, trivial⟩
  | false =>
    have e : (F42 a0) = false := by simp only [F42, h0, cond_true, cond_false]
    rw [e]
    refine con_of (n := 9) Try.func42 rfl (ent Try.func42 (by kernel_rfl) rfl) (by show 1 ≤ Try.f42.ntmps; decide) (by kernel_rfl) trivial (fun cx hcx => ?_)
    exact ret_of (T := T0) hT hm (f := 5000) (orc := [.call [] (.v (.bool (F43 a0.1 (-256) 256))) [], .d false]) [] [] [] hcx
      (obs := [(oC42_0 a0), .eq (F43 a0.1 (-256) 256) false]) (by kernel_rfl) ⟨(C43 a0.1 (-256) 256), h0, trivial⟩

/-- facet/field.check -/
def F79 (a0 : (Int × Int × Int) × (Int × Int × Int) × Int × Int × Int) (a1 : Int × Int × Int) (a2 : Int) : Int :=
  (bif (((F66 a0) : Int) != 0) then
   (F66 a0)
  else
   (bif (!(F42 a1)) then
    1
   else
    (bif (!(F43 a2 0 3)) then
     1
    else
     0)))

theorem C79 (a0 : (Int × Int × Int) × (Int × Int × Int) × Int × Int × Int) (a1 : Int × Int × Int) (a2 : Int) : Con Try.prog 79 [(.a (k9 a0)), (.a (k3 a1)), (iv a2)] [] (iv (F79 a0 a1 a2)) [] := by
  cases h0 : (((F66 a0) : Int) != 0) with
  | true =>
    have q0 := bne_iff_ne.1 h0
    have e : (F79 a0 a1 a2) = (F66 a0) := by simp only [F79, h0, cond_true, cond_false]
    rw [e]
    refine con_of (n := 9) Try.func79 rfl (ent Try.func79 (by kernel_rfl) rfl) (by show 3 ≤ Try.f79.ntmps; decide) (by kernel_rfl) trivial (fun cx hcx => ?_)
    exact ret_of (T := T0) hT hm (f := 5000) (orc := [.call [] (iv (F66 a0)) [], .d true]) [] [] [] hcx
      (obs := [.call 66 [(.a (k9 a0))] [] (iv (F66 a0)) [], .eq (((F66 a0) : Int) != 0) true]) (by kernel_rfl) ⟨(C66 a0), h0, trivial⟩
  | false =>
    cases h1 : (!(F42 a1)) with
    | true =>
      have q0 := bne_eq_false_iff_eq.1 h0
      have e : (F79 a0 a1 a2) = 1 := by simp only [F79, h0, h1, cond_true, cond_false]
      rw [e]
      refine con_of (n := 9) Try.func79 rfl (ent Try.func79 (by kernel_rfl) rfl) (by show 3 ≤ Try.f79.ntmps; decide) (by kernel_rfl) trivial (fun cx hcx => ?_)
      exact ret_of (T := T0) hT hm (f := 5000) (orc := [.call [] (iv (F66 a0)) [], .d false, .call [] (.v (.bool (F42 a1))) [], .d true]) [] [] [] hcx
        (obs := [.call 66 [(.a (k9 a0))] [] (iv (F66 a0)) [], .eq (((F66 a0) : Int) != 0) false, .call 42 [(.a (k3 a1))] [] (.v (.bool (F42 a1))) [], .eq (!(F42 a1)) true]) (by kernel_rfl) ⟨(C66 a0), h0, (C42 a1), h1, trivial⟩
    | false =>
      cases h2 : (!(F43 a2 0 3)) with
      | true =>
        have q0 := bne_eq_false_iff_eq.1 h0
        have e : (F79 a0 a1 a2) = 1 := by simp only [F79, h0, h1, h2, cond_true, cond_false]
        rw [e]
        refine con_of (n := 9) Try.func79 rfl (ent Try.func79 (by kernel_rfl) rfl) (by show 3 ≤ Try.f79.ntmps; decide) (by kernel_rfl) trivial (fun cx hcx => ?_)
        exact ret_of (T := T0) hT hm (f := 5000) (orc := [.call [] (iv (F66 a0)) [], .d false, .call [] (.v (.bool (F42 a1))) [], .d false, .call [] (.v (.bool (F43 a2 0 3))) [], .d true]) [] [] [] hcx
          (obs := [.call 66 [(.a (k9 a0))] [] (iv (F66 a0)) [], .eq (((F66 a0) : Int) != 0) false, .call 42 [(.a (k3 a1))] [] (.v (.bool (F42 a1))) [], .eq (!(F42 a1)) false, .call 43 [(iv a2), (iv 0), (iv 3)] [] (.v (.bool (F43 a2 0 3))) [], .eq (!(F43 a2 0 3)) true]) (by kernel_rfl) ⟨(C66 a0), h0, (C42 a1), h1, (C43 a2 0 3), h2, trivial⟩
      | false =>
        have q0 := bne_eq_false_iff_eq.1 h0
        have e : (F79 a0 a1 a2) = 0 := by simp only [F79, h0, h1, h2, cond_true, cond_false]
        rw [e]
        refine con_of (n := 9) Try.func79 rfl (ent Try.func79 (by kernel_rfl) rfl) (by show 3 ≤ Try.f79.ntmps; decide) (by kernel_rfl) trivial (fun cx hcx => ?_)
        exact ret_of (T := T0) hT hm (f := 5000) (orc := [.call [] (iv (F66 a0)) [], .d false, .call [] (.v (.bool (F42 a1))) [], .d false, .call [] (.v (.bool (F43 a2 0 3))) [], .d false]) [] [] [] hcx
          (obs := [.call 66 [(.a (k9 a0))] [] (iv (F66 a0)) [], .eq (((F66 a0) : Int) != 0) false, .call 42 [(.a (k3 a1))] [] (.v (.bool (F42 a1))) [], .eq (!(F42 a1)) false, .call 43 [(iv a2), (iv 0), (iv 3)] [] (.v (.bool (F43 a2 0 3))) [], .eq (!(F43 a2 0 3)) false]) (by kernel_rfl) ⟨(C66 a0), h0, (C42 a1), h1, (C43 a2 0 3), h2, trivial⟩

/-- facet/field.sum[int] at (3,) -/
def F158_3 (a0 : (Int) × (Int) × (Int)) : Int :=
  (W ((W ((W (0 + a0.1)) + a0.2.1)) + a0.2.2))

theorem C158_3 (a0 : (Int) × (Int) × (Int)) : Con Try.prog 158 [(.s 0 0 3 1)] [(.live false false (k3 a0))] (iv (F158_3 a0)) [] := by
  have e : (F158_3 a0) = (W ((W ((W (0 + a0.1)) + a0.2.1)) + a0.2.2)) := by simp only [F158_3]
  rw [e]
  refine con_of (n := 9) Try.func158 rfl (ent Try.func158 (by kernel_rfl) rfl) (by show 1 ≤ Try.f158.ntmps; decide) (by kernel_rfl) ⟨rfl, trivial⟩ (fun cx hcx => ?_)
  exact ret_of (T := T0) hT hm (f := 5000) (orc := [.un 200, .d true, .un 0, .d true, .un 0, .d true, .un 0, .d false]) [] [] [] hcx
    (obs := [.eq true true, .pr (0 ≤ (0 : Int) ∧ (0 : Int) < ((3 : Nat) : Int)), .eq true true, .pr (0 ≤ (1 : Int) ∧ (1 : Int) < ((3 : Nat) : Int)), .eq true true, .pr (0 ≤ (2 : Int) ∧ (2 : Int) < ((3 : Nat) : Int)), .eq false false]) (by kernel_rfl) ⟨rfl, (show 0 ≤ (0 : Int) ∧ (0 : Int) < ((3 : Nat) : Int) from by decide), rfl, (show 0 ≤ (1 : Int) ∧ (1 : Int) < ((3 : Nat) : Int) from by decide), rfl, (show 0 ≤ (2 : Int) ∧ (2 : Int) < ((3 : Nat) : Int) from by decide), rfl, trivial⟩

/-- facet/field.dot -/
def F146 (a0 : Int × Int × Int) (a1 : Int × Int × Int) : Int :=
  (F158_3 ((W (a0.1 * a1.1)), (W (a0.2.1 * a1.2.1)), (W (a0.2.2 * a1.2.2))))

theorem C146 (a0 : Int × Int × Int) (a1 : Int × Int × Int) : Con Try.prog 146 [(.a (k3 a0)), (.a (k3 a1))] [] (iv (F146 a0 a1)) [] := by
  have e : (F146 a0 a1) = (F158_3 ((W (a0.1 * a1.1)), (W (a0.2.1 * a1.2.1)), (W (a0.2.2 * a1.2.2)))) := by simp only [F146]
  rw [e]
  refine con_of (n := 9) Try.func146 rfl (ent Try.func146 (by kernel_rfl) rfl) (by show 2 ≤ Try.f146.ntmps; decide) (by kernel_rfl) trivial (fun cx hcx => ?_)
  exact ret_of (T := T0) hT hm (f := 5000) (orc := [.call [2] (iv (F158_3 ((W (a0.1 * a1.1)), (W (a0.2.1 * a1.2.1)), (W (a0.2.2 * a1.2.2))))) []]) [] [] [] hcx
    (obs := [.call 158 [(.s 0 0 3 1)] [(.live false false [(iv (W (a0.1 * a1.1))), (iv (W (a0.2.1 * a1.2.1))), (iv (W (a0.2.2 * a1.2.2)))])] (iv (F158_3 ((W (a0.1 * a1.1)), (W (a0.2.1 * a1.2.1)), (W (a0.2.2 * a1.2.2))))) []]) (by kernel_rfl) ⟨(C158_3 ((W (a0.1 * a1.1)), (W (a0.2.1 * a1.2.1)), (W (a0.2.2 * a1.2.2)))), trivial⟩

/-- facet/field.vector -/
def F147 (a0 : Int × Int × Int) (a1 : Int × Int × Int) : Int × Int × Int :=
  ((W (a0.1 - a1.1)), (W (a0.2.1 - a1.2.1)), (W (a0.2.2 - a1.2.2)))

theorem C147 (a0 : Int × Int × Int) (a1 : Int × Int × Int) : Con Try.prog 147 [(.a (k3 a0)), (.a (k3 a1))] [] (.a (k3 (F147 a0 a1))) [] := by
  have e : (F147 a0 a1) = ((W (a0.1 - a1.1)), (W (a0.2.1 - a1.2.1)), (W (a0.2.2 - a1.2.2))) := by simp only [F147]
  rw [e]
  refine con_of (n := 9) Try.func147 rfl (ent Try.func147 (by kernel_rfl) rfl) (by show 2 ≤ Try.f147.ntmps; decide) (by kernel_rfl) trivial (fun cx hcx => ?_)
  exact ret_of (T := T0) hT hm (f := 5000) (orc := []) [] [] [] hcx
    (obs := []) (by kernel_rfl) trivial

/-- facet/field.box at (3,) -/
def F144_3 (a0 : (Int × Int × Int) × (Int × Int × Int) × (Int × Int × Int)) : (Int × Int × Int) × Int × Int × Int :=
  (((if (a0.2.2.1 : Int) < (if (a0.2.1.1 : Int) < (if (a0.1.1 : Int) < a0.1.1 then a0.1.1 else a0.1.1) then a0.2.1.1 else (if (a0.1.1 : Int) < a0.1.1 then a0.1.1 else a0.1.1)) then a0.2.2.1 else (if (a0.2.1.1 : Int) < (if (a0.1.1 : Int) < a0.1.1 then a0.1.1 else a0.1.1) then a0.2.1.1 else (if (a0.1.1 : Int) < a0.1.1 then a0.1.1 else a0.1.1))), (if (a0.2.2.2.1 : Int) < (if (a0.2.1.2.1 : Int) < (if (a0.1.2.1 : Int) < a0.1.2.1 then a0.1.2.1 else a0.1.2.1) then a0.2.1.2.1 else (if (a0.1.2.1 : Int) < a0.1.2.1 then a0.1.2.1 else a0.1.2.1)) then a0.2.2.2.1 else (if (a0.2.1.2.1 : Int) < (if (a0.1.2.1 : Int) < a0.1.2.1 then a0.1.2.1 else a0.1.2.1) then a0.2.1.2.1 else (if (a0.1.2.1 : Int) < a0.1.2.1 then a0.1.2.1 else a0.1.2.1))), (if (a0.2.2.2.2 : Int) < (if (a0.2.1.2.2 : Int) < (if (a0.1.2.2 : Int) < a0.1.2.2 then a0.1.2.2 else a0.1.2.2) then a0.2.1.2.2 else (if (a0.1.2.2 : Int) < a0.1.2.2 then a0.1.2.2 else a0.1.2.2)) then a0.2.2.2.2 else (if (a0.2.1.2.2 : Int) < (if (a0.1.2.2 : Int) < a0.1.2.2 then a0.1.2.2 else a0.1.2.2) then a0.2.1.2.2 else (if (a0.1.2.2 : Int) < a0.1.2.2 then a0.1.2.2 else a0.1.2.2)))), ((if ((if ((if (a0.1.1 : Int) < a0.1.1 then a0.1.1 else a0.1.1) : Int) < a0.2.1.1 then a0.2.1.1 else (if (a0.1.1 : Int) < a0.1.1 then a0.1.1 else a0.1.1)) : Int) < a0.2.2.1 then a0.2.2.1 else (if ((if (a0.1.1 : Int) < a0.1.1 then a0.1.1 else a0.1.1) : Int) < a0.2.1.1 then a0.2.1.1 else (if (a0.1.1 : Int) < a0.1.1 then a0.1.1 else a0.1.1))), (if ((if ((if (a0.1.2.1 : Int) < a0.1.2.1 then a0.1.2.1 else a0.1.2.1) : Int) < a0.2.1.2.1 then a0.2.1.2.1 else (if (a0.1.2.1 : Int) < a0.1.2.1 then a0.1.2.1 else a0.1.2.1)) : Int) < a0.2.2.2.1 then a0.2.2.2.1 else (if ((if (a0.1.2.1 : Int) < a0.1.2.1 then a0.1.2.1 else a0.1.2.1) : Int) < a0.2.1.2.1 then a0.2.1.2.1 else (if (a0.1.2.1 : Int) < a0.1.2.1 then a0.1.2.1 else a0.1.2.1))), (if ((if ((if (a0.1.2.2 : Int) < a0.1.2.2 then a0.1.2.2 else a0.1.2.2) : Int) < a0.2.1.2.2 then a0.2.1.2.2 else (if (a0.1.2.2 : Int) < a0.1.2.2 then a0.1.2.2 else a0.1.2.2)) : Int) < a0.2.2.2.2 then a0.2.2.2.2 else (if ((if (a0.1.2.2 : Int) < a0.1.2.2 then a0.1.2.2 else a0.1.2.2) : Int) < a0.2.1.2.2 then a0.2.1.2.2 else (if (a0.1.2.2 : Int) < a0.1.2.2 then a0.1.2.2 else a0.1.2.2)))))

theorem C144_3 (a0 : (Int × Int × Int) × (Int × Int × Int) × (Int × Int × Int)) : Con Try.prog 144 [(.s 0 0 3 3)] [(.live false false (k9 a0))] (.t [(.a (k3 (F144_3 a0).1)), (.a (k3 (F144_3 a0).2))]) [] := by
  have e : (F144_3 a0) = (((if (a0.2.2.1 : Int) < (if (a0.2.1.1 : Int) < (if (a0.1.1 : Int) < a0.1.1 then a0.1.1 else a0.1.1) then a0.2.1.1 else (if (a0.1.1 : Int) < a0.1.1 then a0.1.1 else a0.1.1)) then a0.2.2.1 else (if (a0.2.1.1 : Int) < (if (a0.1.1 : Int) < a0.1.1 then a0.1.1 else a0.1.1) then a0.2.1.1 else (if (a0.1.1 : Int) < a0.1.1 then a0.1.1 else a0.1.1))), (if (a0.2.2.2.1 : Int) < (if (a0.2.1.2.1 : Int) < (if (a0.1.2.1 : Int) < a0.1.2.1 then a0.1.2.1 else a0.1.2.1) then a0.2.1.2.1 else (if (a0.1.2.1 : Int) < a0.1.2.1 then a0.1.2.1 else a0.1.2.1)) then a0.2.2.2.1 else (if (a0.2.1.2.1 : Int) < (if (a0.1.2.1 : Int) < a0.1.2.1 then a0.1.2.1 else a0.1.2.1) then a0.2.1.2.1 else (if (a0.1.2.1 : Int) < a0.1.2.1 then a0.1.2.1 else a0.1.2.1))), (if (a0.2.2.2.2 : Int) < (if (a0.2.1.2.2 : Int) < (if (a0.1.2.2 : Int) < a0.1.2.2 then a0.1.2.2 else a0.1.2.2) then a0.2.1.2.2 else (if (a0.1.2.2 : Int) < a0.1.2.2 then a0.1.2.2 else a0.1.2.2)) then a0.2.2.2.2 else (if (a0.2.1.2.2 : Int) < (if (a0.1.2.2 : Int) < a0.1.2.2 then a0.1.2.2 else a0.1.2.2) then a0.2.1.2.2 else (if (a0.1.2.2 : Int) < a0.1.2.2 then a0.1.2.2 else a0.1.2.2)))), ((if ((if ((if (a0.1.1 : Int) < a0.1.1 then a0.1.1 else a0.1.1) : Int) < a0.2.1.1 then a0.2.1.1 else (if (a0.1.1 : Int) < a0.1.1 then a0.1.1 else a0.1.1)) : Int) < a0.2.2.1 then a0.2.2.1 else (if ((if (a0.1.1 : Int) < a0.1.1 then a0.1.1 else a0.1.1) : Int) < a0.2.1.1 then a0.2.1.1 else (if (a0.1.1 : Int) < a0.1.1 then a0.1.1 else a0.1.1))), (if ((if ((if (a0.1.2.1 : Int) < a0.1.2.1 then a0.1.2.1 else a0.1.2.1) : Int) < a0.2.1.2.1 then a0.2.1.2.1 else (if (a0.1.2.1 : Int) < a0.1.2.1 then a0.1.2.1 else a0.1.2.1)) : Int) < a0.2.2.2.1 then a0.2.2.2.1 else (if ((if (a0.1.2.1 : Int) < a0.1.2.1 then a0.1.2.1 else a0.1.2.1) : Int) < a0.2.1.2.1 then a0.2.1.2.1 else (if (a0.1.2.1 : Int) < a0.1.2.1 then a0.1.2.1 else a0.1.2.1))), (if ((if ((if (a0.1.2.2 : Int) < a0.1.2.2 then a0.1.2.2 else a0.1.2.2) : Int) < a0.2.1.2.2 then a0.2.1.2.2 else (if (a0.1.2.2 : Int) < a0.1.2.2 then a0.1.2.2 else a0.1.2.2)) : Int) < a0.2.2.2.2 then a0.2.2.2.2 else (if ((if (a0.1.2.2 : Int) < a0.1.2.2 then a0.1.2.2 else a0.1.2.2) : Int) < a0.2.1.2.2 then a0.2.1.2.2 else (if (a0.1.2.2 : Int) < a0.1.2.2 then a0.1.2.2 else a0.1.2.2))))) := by simp only [F144_3]
  rw [e]
  refine con_of (n := 9) Try.func144 rfl (ent Try.func144 (by kernel_rfl) rfl) (by show 1 ≤ Try.f144.ntmps; decide) (by kernel_rfl) ⟨rfl, trivial⟩ (fun cx hcx => ?_)
  exact ret_of (T := T0) hT hm (f := 5000) (orc := [.un 200, .d true, .un 0, .d true, .un 0, .d true, .un 0, .d false]) [] [] [] hcx
    (obs := [.pr (0 ≤ (0 : Int) ∧ (0 : Int) < ((3 : Nat) : Int)), .pr (0 ≤ (0 : Int) ∧ (0 : Int) < ((3 : Nat) : Int)), .eq true true, .pr (0 ≤ (0 : Int) ∧ (0 : Int) < ((3 : Nat) : Int)), .eq true true, .pr (0 ≤ (1 : Int) ∧ (1 : Int) < ((3 : Nat) : Int)), .eq true true, .pr (0 ≤ (2 : Int) ∧ (2 : Int) < ((3 : Nat) : Int)), .eq false false]) (by kernel_rfl) ⟨(show 0 ≤ (0 : Int) ∧ (0 : Int) < ((3 : Nat) : Int) from by decide), (show 0 ≤ (0 : Int) ∧ (0 : Int) < ((3 : Nat) : Int) from by decide), rfl, (show 0 ≤ (0 : Int) ∧ (0 : Int) < ((3 : Nat) : Int) from by decide), rfl, (show 0 ≤ (1 : Int) ∧ (1 : Int) < ((3 : Nat) : Int) from by decide), rfl, (show 0 ≤ (2 : Int) ∧ (2 : Int) < ((3 : Nat) : Int) from by decide), rfl, trivial⟩

/-- facet/field.box at (1,) -/
def F144_1 (a0 : Int × Int × Int) : (Int × Int × Int) × Int × Int × Int :=
  (((if (a0.1 : Int) < a0.1 then a0.1 else a0.1), (if (a0.2.1 : Int) < a0.2.1 then a0.2.1 else a0.2.1), (if (a0.2.2 : Int) < a0.2.2 then a0.2.2 else a0.2.2)), ((if (a0.1 : Int) < a0.1 then a0.1 else a0.1), (if (a0.2.1 : Int) < a0.2.1 then a0.2.1 else a0.2.1), (if (a0.2.2 : Int) < a0.2.2 then a0.2.2 else a0.2.2)))

theorem C144_1 (a0 : Int × Int × Int) : Con Try.prog 144 [(.s 0 0 1 3)] [(.live false false (k3 a0))] (.t [(.a (k3 (F144_1 a0).1)), (.a (k3 (F144_1 a0).2))]) [] := by
  have e : (F144_1 a0) = (((if (a0.1 : Int) < a0.1 then a0.1 else a0.1), (if (a0.2.1 : Int) < a0.2.1 then a0.2.1 else a0.2.1), (if (a0.2.2 : Int) < a0.2.2 then a0.2.2 else a0.2.2)), ((if (a0.1 : Int) < a0.1 then a0.1 else a0.1), (if (a0.2.1 : Int) < a0.2.1 then a0.2.1 else a0.2.1), (if (a0.2.2 : Int) < a0.2.2 then a0.2.2 else a0.2.2))) := by simp only [F144_1]
  rw [e]
  refine con_of (n := 9) Try.func144 rfl (ent Try.func144 (by kernel_rfl) rfl) (by show 1 ≤ Try.f144.ntmps; decide) (by kernel_rfl) ⟨rfl, trivial⟩ (fun cx hcx => ?_)
  exact ret_of (T := T0) hT hm (f := 5000) (orc := [.un 200, .d true, .un 0, .d false]) [] [] [] hcx
    (obs := [.pr (0 ≤ (0 : Int) ∧ (0 : Int) < ((1 : Nat) : Int)), .pr (0 ≤ (0 : Int) ∧ (0 : Int) < ((1 : Nat) : Int)), .eq true true, .pr (0 ≤ (0 : Int) ∧ (0 : Int) < ((1 : Nat) : Int)), .eq false false]) (by kernel_rfl) ⟨(show 0 ≤ (0 : Int) ∧ (0 : Int) < ((1 : Nat) : Int) from by decide), (show 0 ≤ (0 : Int) ∧ (0 : Int) < ((1 : Nat) : Int) from by decide), rfl, (show 0 ≤ (0 : Int) ∧ (0 : Int) < ((1 : Nat) : Int) from by decide), rfl, trivial⟩

/-- facet/field.gap -/
def F145 (a0 : Int) (a1 : Int) (a2 : Int) (a3 : Int) : Int :=
  (if ((if (0 : Int) < (W (a2 - a1)) then (W (a2 - a1)) else 0) : Int) < (W (a0 - a3)) then (W (a0 - a3)) else (if (0 : Int) < (W (a2 - a1)) then (W (a2 - a1)) else 0))

theorem C145 (a0 : Int) (a1 : Int) (a2 : Int) (a3 : Int) : Con Try.prog 145 [(iv a0), (iv a1), (iv a2), (iv a3)] [] (iv (F145 a0 a1 a2 a3)) [] := by
  have e : (F145 a0 a1 a2 a3) = (if ((if (0 : Int) < (W (a2 - a1)) then (W (a2 - a1)) else 0) : Int) < (W (a0 - a3)) then (W (a0 - a3)) else (if (0 : Int) < (W (a2 - a1)) then (W (a2 - a1)) else 0)) := by simp only [F145]
  rw [e]
  refine con_of (n := 9) Try.func145 rfl (ent Try.func145 (by kernel_rfl) rfl) (by show 4 ≤ Try.f145.ntmps; decide) (by kernel_rfl) trivial (fun cx hcx => ?_)
  exact ret_of (T := T0) hT hm (f := 5000) (orc := []) [] [] [] hcx
    (obs := []) (by kernel_rfl) trivial

/-- facet/field.near at (3, 1) -/
def F106_3_1 (a0 : (Int × Int × Int) × (Int × Int × Int) × (Int × Int × Int)) (a1 : Int × Int × Int) : Int :=
  (F146 ((F145 (F144_3 a0).1.1 (F144_3 a0).2.1 (F144_1 a1).1.1 (F144_1 a1).2.1), (F145 (F144_3 a0).1.2.1 (F144_3 a0).2.2.1 (F144_1 a1).1.2.1 (F144_1 a1).2.2.1), (F145 (F144_3 a0).1.2.2 (F144_3 a0).2.2.2 (F144_1 a1).1.2.2 (F144_1 a1).2.2.2)) ((F145 (F144_3 a0).1.1 (F144_3 a0).2.1 (F144_1 a1).1.1 (F144_1 a1).2.1), (F145 (F144_3 a0).1.2.1 (F144_3 a0).2.2.1 (F144_1 a1).1.2.1 (F144_1 a1).2.2.1), (F145 (F144_3 a0).1.2.2 (F144_3 a0).2.2.2 (F144_1 a1).1.2.2 (F144_1 a1).2.2.2)))

theorem C106_3_1 (a0 : (Int × Int × Int) × (Int × Int × Int) × (Int × Int × Int)) (a1 : Int × Int × Int) : Con Try.prog 106 [(.s 0 0 3 3), (.s 1 0 1 3)] [(.live false false (k9 a0)), (.live false false (k3 a1))] (iv (F106_3_1 a0 a1)) [] := by
  have e : (F106_3_1 a0 a1) = (F146 ((F145 (F144_3 a0).1.1 (F144_3 a0).2.1 (F144_1 a1).1.1 (F144_1 a1).2.1), (F145 (F144_3 a0).1.2.1 (F144_3 a0).2.2.1 (F144_1 a1).1.2.1 (F144_1 a1).2.2.1), (F145 (F144_3 a0).1.2.2 (F144_3 a0).2.2.2 (F144_1 a1).1.2.2 (F144_1 a1).2.2.2)) ((F145 (F144_3 a0).1.1 (F144_3 a0).2.1 (F144_1 a1).1.1 (F144_1 a1).2.1), (F145 (F144_3 a0).1.2.1 (F144_3 a0).2.2.1 (F144_1 a1).1.2.1 (F144_1 a1).2.2.1), (F145 (F144_3 a0).1.2.2 (F144_3 a0).2.2.2 (F144_1 a1).1.2.2 (F144_1 a1).2.2.2))) := by simp only [F106_3_1]
  rw [e]
  refine con_of (n := 9) Try.func106 rfl (ent Try.func106 (by kernel_rfl) rfl) (by show 2 ≤ Try.f106.ntmps; decide) (by kernel_rfl) ⟨rfl, rfl, trivial⟩ (fun cx hcx => ?_)
  exact ret_of (T := T0) hT hm (f := 5000) (orc := [.call [0] (.t [(.a (k3 (F144_3 a0).1)), (.a (k3 (F144_3 a0).2))]) [], .call [1] (.t [(.a (k3 (F144_1 a1).1)), (.a (k3 (F144_1 a1).2))]) [], .call [] (iv (F145 (F144_3 a0).1.1 (F144_3 a0).2.1 (F144_1 a1).1.1 (F144_1 a1).2.1)) [], .call [] (iv (F145 (F144_3 a0).1.2.1 (F144_3 a0).2.2.1 (F144_1 a1).1.2.1 (F144_1 a1).2.2.1)) [], .call [] (iv (F145 (F144_3 a0).1.2.2 (F144_3 a0).2.2.2 (F144_1 a1).1.2.2 (F144_1 a1).2.2.2)) [], .call [] (iv (F146 ((F145 (F144_3 a0).1.1 (F144_3 a0).2.1 (F144_1 a1).1.1 (F144_1 a1).2.1), (F145 (F144_3 a0).1.2.1 (F144_3 a0).2.2.1 (F144_1 a1).1.2.1 (F144_1 a1).2.2.1), (F145 (F144_3 a0).1.2.2 (F144_3 a0).2.2.2 (F144_1 a1).1.2.2 (F144_1 a1).2.2.2)) ((F145 (F144_3 a0).1.1 (F144_3 a0).2.1 (F144_1 a1).1.1 (F144_1 a1).2.1), (F145 (F144_3 a0).1.2.1 (F144_3 a0).2.2.1 (F144_1 a1).1.2.1 (F144_1 a1).2.2.1), (F145 (F144_3 a0).1.2.2 (F144_3 a0).2.2.2 (F144_1 a1).1.2.2 (F144_1 a1).2.2.2)))) []]) [] [] [] hcx
    (obs := [.call 144 [(.s 0 0 3 3)] [(.live false false (k9 a0))] (.t [(.a (k3 (F144_3 a0).1)), (.a (k3 (F144_3 a0).2))]) [], .call 144 [(.s 0 0 1 3)] [(.live false false (k3 a1))] (.t [(.a (k3 (F144_1 a1).1)), (.a (k3 (F144_1 a1).2))]) [], .call 145 [(iv (F144_3 a0).1.1), (iv (F144_3 a0).2.1), (iv (F144_1 a1).1.1), (iv (F144_1 a1).2.1)] [] (iv (F145 (F144_3 a0).1.1 (F144_3 a0).2.1 (F144_1 a1).1.1 (F144_1 a1).2.1)) [], .call 145 [(iv (F144_3 a0).1.2.1), (iv (F144_3 a0).2.2.1), (iv (F144_1 a1).1.2.1), (iv (F144_1 a1).2.2.1)] [] (iv (F145 (F144_3 a0).1.2.1 (F144_3 a0).2.2.1 (F144_1 a1).1.2.1 (F144_1 a1).2.2.1)) [], .call 145 [(iv (F144_3 a0).1.2.2), (iv (F144_3 a0).2.2.2), (iv (F144_1 a1).1.2.2), (iv (F144_1 a1).2.2.2)] [] (iv (F145 (F144_3 a0).1.2.2 (F144_3 a0).2.2.2 (F144_1 a1).1.2.2 (F144_1 a1).2.2.2)) [], .call 146 [(.a [(iv (F145 (F144_3 a0).1.1 (F144_3 a0).2.1 (F144_1 a1).1.1 (F144_1 a1).2.1)), (iv (F145 (F144_3 a0).1.2.1 (F144_3 a0).2.2.1 (F144_1 a1).1.2.1 (F144_1 a1).2.2.1)), (iv (F145 (F144_3 a0).1.2.2 (F144_3 a0).2.2.2 (F144_1 a1).1.2.2 (F144_1 a1).2.2.2))]), (.a [(iv (F145 (F144_3 a0).1.1 (F144_3 a0).2.1 (F144_1 a1).1.1 (F144_1 a1).2.1)), (iv (F145 (F144_3 a0).1.2.1 (F144_3 a0).2.2.1 (F144_1 a1).1.2.1 (F144_1 a1).2.2.1)), (iv (F145 (F144_3 a0).1.2.2 (F144_3 a0).2.2.2 (F144_1 a1).1.2.2 (F144_1 a1).2.2.2))])] [] (iv (F146 ((F145 (F144_3 a0).1.1 (F144_3 a0).2.1 (F144_1 a1).1.1 (F144_1 a1).2.1), (F145 (F144_3 a0).1.2.1 (F144_3 a0).2.2.1 (F144_1 a1).1.2.1 (F144_1 a1).2.2.1), (F145 (F144_3 a0).1.2.2 (F144_3 a0).2.2.2 (F144_1 a1).1.2.2 (F144_1 a1).2.2.2)) ((F145 (F144_3 a0).1.1 (F144_3 a0).2.1 (F144_1 a1).1.1 (F144_1 a1).2.1), (F145 (F144_3 a0).1.2.1 (F144_3 a0).2.2.1 (F144_1 a1).1.2.1 (F144_1 a1).2.2.1), (F145 (F144_3 a0).1.2.2 (F144_3 a0).2.2.2 (F144_1 a1).1.2.2 (F144_1 a1).2.2.2)))) []]) (by kernel_rfl) ⟨(C144_3 a0), (C144_1 a1), (C145 (F144_3 a0).1.1 (F144_3 a0).2.1 (F144_1 a1).1.1 (F144_1 a1).2.1), (C145 (F144_3 a0).1.2.1 (F144_3 a0).2.2.1 (F144_1 a1).1.2.1 (F144_1 a1).2.2.1), (C145 (F144_3 a0).1.2.2 (F144_3 a0).2.2.2 (F144_1 a1).1.2.2 (F144_1 a1).2.2.2), (C146 ((F145 (F144_3 a0).1.1 (F144_3 a0).2.1 (F144_1 a1).1.1 (F144_1 a1).2.1), (F145 (F144_3 a0).1.2.1 (F144_3 a0).2.2.1 (F144_1 a1).1.2.1 (F144_1 a1).2.2.1), (F145 (F144_3 a0).1.2.2 (F144_3 a0).2.2.2 (F144_1 a1).1.2.2 (F144_1 a1).2.2.2)) ((F145 (F144_3 a0).1.1 (F144_3 a0).2.1 (F144_1 a1).1.1 (F144_1 a1).2.1), (F145 (F144_3 a0).1.2.1 (F144_3 a0).2.2.1 (F144_1 a1).1.2.1 (F144_1 a1).2.2.1), (F145 (F144_3 a0).1.2.2 (F144_3 a0).2.2.2 (F144_1 a1).1.2.2 (F144_1 a1).2.2.2))), trivial⟩

/-- facet/field.near at (3, 3) -/
def F106_3_3 (a0 : (Int × Int × Int) × (Int × Int × Int) × (Int × Int × Int)) (a1 : (Int × Int × Int) × (Int × Int × Int) × (Int × Int × Int)) : Int :=
  (F146 ((F145 (F144_3 a0).1.1 (F144_3 a0).2.1 (F144_3 a1).1.1 (F144_3 a1).2.1), (F145 (F144_3 a0).1.2.1 (F144_3 a0).2.2.1 (F144_3 a1).1.2.1 (F144_3 a1).2.2.1), (F145 (F144_3 a0).1.2.2 (F144_3 a0).2.2.2 (F144_3 a1).1.2.2 (F144_3 a1).2.2.2)) ((F145 (F144_3 a0).1.1 (F144_3 a0).2.1 (F144_3 a1).1.1 (F144_3 a1).2.1), (F145 (F144_3 a0).1.2.1 (F144_3 a0).2.2.1 (F144_3 a1).1.2.1 (F144_3 a1).2.2.1), (F145 (F144_3 a0).1.2.2 (F144_3 a0).2.2.2 (F144_3 a1).1.2.2 (F144_3 a1).2.2.2)))

theorem C106_3_3 (a0 : (Int × Int × Int) × (Int × Int × Int) × (Int × Int × Int)) (a1 : (Int × Int × Int) × (Int × Int × Int) × (Int × Int × Int)) : Con Try.prog 106 [(.s 0 0 3 3), (.s 1 0 3 3)] [(.live false false (k9 a0)), (.live false false (k9 a1))] (iv (F106_3_3 a0 a1)) [] := by
  have e : (F106_3_3 a0 a1) = (F146 ((F145 (F144_3 a0).1.1 (F144_3 a0).2.1 (F144_3 a1).1.1 (F144_3 a1).2.1), (F145 (F144_3 a0).1.2.1 (F144_3 a0).2.2.1 (F144_3 a1).1.2.1 (F144_3 a1).2.2.1), (F145 (F144_3 a0).1.2.2 (F144_3 a0).2.2.2 (F144_3 a1).1.2.2 (F144_3 a1).2.2.2)) ((F145 (F144_3 a0).1.1 (F144_3 a0).2.1 (F144_3 a1).1.1 (F144_3 a1).2.1), (F145 (F144_3 a0).1.2.1 (F144_3 a0).2.2.1 (F144_3 a1).1.2.1 (F144_3 a1).2.2.1), (F145 (F144_3 a0).1.2.2 (F144_3 a0).2.2.2 (F144_3 a1).1.2.2 (F144_3 a1).2.2.2))) := by simp only [F106_3_3]
  rw [e]
  refine con_of (n := 9) Try.func106 rfl (ent Try.func106 (by kernel_rfl) rfl) (by show 2 ≤ Try.f106.ntmps; decide) (by kernel_rfl) ⟨rfl, rfl, trivial⟩ (fun cx hcx => ?_)
  exact ret_of (T := T0) hT hm (f := 5000) (orc := [.call [0] (.t [(.a (k3 (F144_3 a0).1)), (.a (k3 (F144_3 a0).2))]) [], .call [1] (.t [(.a (k3 (F144_3 a1).1)), (.a (k3 (F144_3 a1).2))]) [], .call [] (iv (F145 (F144_3 a0).1.1 (F144_3 a0).2.1 (F144_3 a1).1.1 (F144_3 a1).2.1)) [], .call [] (iv (F145 (F144_3 a0).1.2.1 (F144_3 a0).2.2.1 (F144_3 a1).1.2.1 (F144_3 a1).2.2.1)) [], .call [] (iv (F145 (F144_3 a0).1.2.2 (F144_3 a0).2.2.2 (F144_3 a1).1.2.2 (F144_3 a1).2.2.2)) [], .call [] (iv (F146 ((F145 (F144_3 a0).1.1 (F144_3 a0).2.1 (F144_3 a1).1.1 (F144_3 a1).2.1), (F145 (F144_3 a0).1.2.1 (F144_3 a0).2.2.1 (F144_3 a1).1.2.1 (F144_3 a1).2.2.1), (F145 (F144_3 a0).1.2.2 (F144_3 a0).2.2.2 (F144_3 a1).1.2.2 (F144_3 a1).2.2.2)) ((F145 (F144_3 a0).1.1 (F144_3 a0).2.1 (F144_3 a1).1.1 (F144_3 a1).2.1), (F145 (F144_3 a0).1.2.1 (F144_3 a0).2.2.1 (F144_3 a1).1.2.1 (F144_3 a1).2.2.1), (F145 (F144_3 a0).1.2.2 (F144_3 a0).2.2.2 (F144_3 a1).1.2.2 (F144_3 a1).2.2.2)))) []]) [] [] [] hcx
    (obs := [.call 144 [(.s 0 0 3 3)] [(.live false false (k9 a0))] (.t [(.a (k3 (F144_3 a0).1)), (.a (k3 (F144_3 a0).2))]) [], .call 144 [(.s 0 0 3 3)] [(.live false false (k9 a1))] (.t [(.a (k3 (F144_3 a1).1)), (.a (k3 (F144_3 a1).2))]) [], .call 145 [(iv (F144_3 a0).1.1), (iv (F144_3 a0).2.1), (iv (F144_3 a1).1.1), (iv (F144_3 a1).2.1)] [] (iv (F145 (F144_3 a0).1.1 (F144_3 a0).2.1 (F144_3 a1).1.1 (F144_3 a1).2.1)) [], .call 145 [(iv (F144_3 a0).1.2.1), (iv (F144_3 a0).2.2.1), (iv (F144_3 a1).1.2.1), (iv (F144_3 a1).2.2.1)] [] (iv (F145 (F144_3 a0).1.2.1 (F144_3 a0).2.2.1 (F144_3 a1).1.2.1 (F144_3 a1).2.2.1)) [], .call 145 [(iv (F144_3 a0).1.2.2), (iv (F144_3 a0).2.2.2), (iv (F144_3 a1).1.2.2), (iv (F144_3 a1).2.2.2)] [] (iv (F145 (F144_3 a0).1.2.2 (F144_3 a0).2.2.2 (F144_3 a1).1.2.2 (F144_3 a1).2.2.2)) [], .call 146 [(.a [(iv (F145 (F144_3 a0).1.1 (F144_3 a0).2.1 (F144_3 a1).1.1 (F144_3 a1).2.1)), (iv (F145 (F144_3 a0).1.2.1 (F144_3 a0).2.2.1 (F144_3 a1).1.2.1 (F144_3 a1).2.2.1)), (iv (F145 (F144_3 a0).1.2.2 (F144_3 a0).2.2.2 (F144_3 a1).1.2.2 (F144_3 a1).2.2.2))]), (.a [(iv (F145 (F144_3 a0).1.1 (F144_3 a0).2.1 (F144_3 a1).1.1 (F144_3 a1).2.1)), (iv (F145 (F144_3 a0).1.2.1 (F144_3 a0).2.2.1 (F144_3 a1).1.2.1 (F144_3 a1).2.2.1)), (iv (F145 (F144_3 a0).1.2.2 (F144_3 a0).2.2.2 (F144_3 a1).1.2.2 (F144_3 a1).2.2.2))])] [] (iv (F146 ((F145 (F144_3 a0).1.1 (F144_3 a0).2.1 (F144_3 a1).1.1 (F144_3 a1).2.1), (F145 (F144_3 a0).1.2.1 (F144_3 a0).2.2.1 (F144_3 a1).1.2.1 (F144_3 a1).2.2.1), (F145 (F144_3 a0).1.2.2 (F144_3 a0).2.2.2 (F144_3 a1).1.2.2 (F144_3 a1).2.2.2)) ((F145 (F144_3 a0).1.1 (F144_3 a0).2.1 (F144_3 a1).1.1 (F144_3 a1).2.1), (F145 (F144_3 a0).1.2.1 (F144_3 a0).2.2.1 (F144_3 a1).1.2.1 (F144_3 a1).2.2.1), (F145 (F144_3 a0).1.2.2 (F144_3 a0).2.2.2 (F144_3 a1).1.2.2 (F144_3 a1).2.2.2)))) []]) (by kernel_rfl) ⟨(C144_3 a0), (C144_3 a1), (C145 (F144_3 a0).1.1 (F144_3 a0).2.1 (F144_3 a1).1.1 (F144_3 a1).2.1), (C145 (F144_3 a0).1.2.1 (F144_3 a0).2.2.1 (F144_3 a1).1.2.1 (F144_3 a1).2.2.1), (C145 (F144_3 a0).1.2.2 (F144_3 a0).2.2.2 (F144_3 a1).1.2.2 (F144_3 a1).2.2.2), (C146 ((F145 (F144_3 a0).1.1 (F144_3 a0).2.1 (F144_3 a1).1.1 (F144_3 a1).2.1), (F145 (F144_3 a0).1.2.1 (F144_3 a0).2.2.1 (F144_3 a1).1.2.1 (F144_3 a1).2.2.1), (F145 (F144_3 a0).1.2.2 (F144_3 a0).2.2.2 (F144_3 a1).1.2.2 (F144_3 a1).2.2.2)) ((F145 (F144_3 a0).1.1 (F144_3 a0).2.1 (F144_3 a1).1.1 (F144_3 a1).2.1), (F145 (F144_3 a0).1.2.1 (F144_3 a0).2.2.1 (F144_3 a1).1.2.1 (F144_3 a1).2.2.1), (F145 (F144_3 a0).1.2.2 (F144_3 a0).2.2.2 (F144_3 a1).1.2.2 (F144_3 a1).2.2.2))), trivial⟩

/-- api.Point, as cells -/
def c24 (x : Int × Int × Int) : List SV := [(iv x.1), (iv x.2.1), (iv x.2.2)]
theorem c24_len (x : Int × Int × Int) : (c24 x).length = 3 := rfl

noncomputable def B107_L_L_1 : Code := (loopAtD [1, 1, 0, 1, 0, 1, 1, 0, 1, 1] [0] (Try.f107.body.getD .skip) []).1
noncomputable def K107_L_L_1 (m0 : Nat) : List K := (loopAtD [1, 1, 0, 1, 0, 1, 1, 0, 1, 1] [m0] (Try.f107.body.getD .skip) []).2

/-- a round of loop 1 of facet/field.far; the variables: v10 = s5, v11 = s13, v12 = s19, v13 = s7_0, v14 = s7_1, v15 = s7_2 -/
def S107_L_L_1 (a0 : List (Int × Int × Int)) (a1 : List (Int × Int × Int)) : Int × Int × Int × Int × Int × Int → (Int × Int × Int × Int × Int × Int) ⊕ ((Int × Int) ⊕ (Int))
  | (v10, v11, v12, v13, v14, v15) =>
   (bif (decide ((v12 : Int) < ((a1.length : Nat) : Int))) then
    (.inl ((if (v10 : Int) < (F146 (F147 (v13, v14, v15) (a1.getD (Int.toNat v12) default)) (F147 (v13, v14, v15) (a1.getD (Int.toNat v12) default))) then (F146 (F147 (v13, v14, v15) (a1.getD (Int.toNat v12) default)) (F147 (v13, v14, v15) (a1.getD (Int.toNat v12) default))) else v10), v11, (v12 + 1), v13, v14, v15))
   else
    (.inr (.inl (v10, (v11 + 1)))))

noncomputable def B107_L_L_0 : Code := (loopAtD [1, 1, 0, 1] [] (Try.f107.body.getD .skip) []).1
noncomputable def K107_L_L_0 : List K := (loopAtD [1, 1, 0, 1] [] (Try.f107.body.getD .skip) []).2

/-- a round of loop 0 of facet/field.far; the variables: v3 = s5, v4 = s13 -/
def S107_L_L_0 (a0 : List (Int × Int × Int)) (a1 : List (Int × Int × Int)) : Int × Int → (Int × Int) ⊕ (Int)
  | (v3, v4) =>
   (bif (decide ((v4 : Int) < ((a0.length : Nat) : Int))) then
    (loopF (S107_L_L_1 a0 a1) (Int.toNat (((a1.length : Nat) : Int) - 0) + 1) (v3, v4, 0, (a0.getD (Int.toNat v4) default).1, (a0.getD (Int.toNat v4) default).2.1, (a0.getD (Int.toNat v4) default).2.2))
   else
    (.inr v3))

set_option maxHeartbeats 4000000 in
theorem L107_L_L_1 (a0 : List (Int × Int × Int)) (a1 : List (Int × Int × Int)) (l0 : a0.length ≤ 9223372036854775807) (l1 : a1.length ≤ 9223372036854775807) {cx : Cx} (hcx : cx.base = 2)
    (n0 : Nat) (g0 : ∀ (v3 : Int) (v4 : Int), 0 ≤ v4 → Int.toNat (((a0.length : Nat) : Int) - v4) < n0 → Aw.Good Try.prog none 9 (bodyPost Try.prog Try.f107 (RR cx (iv (loopF (S107_L_L_0 a0 a1) n0 (v3, v4))) [] [])) cx [] (.l B107_L_L_0 n0 :: K107_L_L_0) ⟨[.u, (.s 1 0 a1.length 3), .u, .u, .u, (iv v3), .u, .u, .u, .u, .u, (.s 0 0 a0.length 3), (iv ((a0.length : Nat) : Int)), (iv v4), .u, .u, .u, .u, .u, .u, .u, .u, .u, .u, .u, .u, .u, .u, .u, .u, .u, .u, .u, .u], [(.live false true (flat c24 a0)), (.live false true (flat c24 a1))]⟩) : ∀ (n : Nat) (v10 : Int) (v11 : Int) (v12 : Int) (v13 : Int) (v14 : Int) (v15 : Int), (0 ≤ v12) ∧ ((0 ≤ v11)) ∧ (v11 < ((a0.length : Nat) : Int)) ∧ (Int.toNat (((a0.length : Nat) : Int) - v11) < n0 + 1) → Int.toNat (((a1.length : Nat) : Int) - v12) < n → Aw.Good Try.prog none 9 (bodyPost Try.prog Try.f107 (RR cx (iv (thenF (S107_L_L_0 a0 a1) n0 (loopF (S107_L_L_1 a0 a1) n (v10, v11, v12, v13, v14, v15)))) [] [])) cx [] (.l B107_L_L_1 n :: K107_L_L_1 n0) ⟨[.u, (.s 1 0 a1.length 3), .u, .u, .u, (iv v10), .u, (.p 2 0), .u, .u, .u, (.s 0 0 a0.length 3), (iv ((a0.length : Nat) : Int)), (iv v11), .u, .u, .u, (.s 1 0 a1.length 3), (iv ((a1.length : Nat) : Int)), (iv v12), .u, .u, .u, .u, .u, .u, .u, .u, .u, .u, .u, .u, .u, .u], [(.live false true (flat c24 a0)), (.live false true (flat c24 a1)), (.live true false [(iv v13), (iv v14), (iv v15)])]⟩ := by
  intro n
  induction n with
  | zero => intro v10 v11 v12 v13 v14 v15 hi hn; exact absurd hn (Nat.not_lt_zero _)
  | succ n ih =>
    intro v10 v11 v12 v13 v14 v15 hi hn
    refine good_round ?_
    cases h0 : (decide ((v12 : Int) < ((a1.length : Nat) : Int))) with
    | true =>
      have q0 := of_decide_eq_true h0
      have e : S107_L_L_1 a0 a1 (v10, v11, v12, v13, v14, v15) = (.inl ((if (v10 : Int) < (F146 (F147 (v13, v14, v15) (a1.getD (Int.toNat v12) default)) (F147 (v13, v14, v15) (a1.getD (Int.toNat v12) default))) then (F146 (F147 (v13, v14, v15) (a1.getD (Int.toNat v12) default)) (F147 (v13, v14, v15) (a1.getD (Int.toNat v12) default))) else v10), v11, (v12 + 1), v13, v14, v15)) := by simp only [S107_L_L_1, h0, cond_true, cond_false]
      rw [loopF_inl e]
      refine back_of (T := T0) hT hm (f := 5000) (orc := [.d true, .ld (k3 (a1.getD (Int.toNat v12) default)), .call [] (.a (k3 (F147 (v13, v14, v15) (a1.getD (Int.toNat v12) default)))) [], .call [] (iv (F146 (F147 (v13, v14, v15) (a1.getD (Int.toNat v12) default)) (F147 (v13, v14, v15) (a1.getD (Int.toNat v12) default)))) []]) [] [1, 5, 7, 11, 12, 13, 17, 18, 19] [2] hcx (body := B107_L_L_1) (m := n) (k' := K107_L_L_1 n0) (s' := ⟨[.u, (.s 1 0 a1.length 3), .u, .u, .u, (iv (if (v10 : Int) < (F146 (F147 (v13, v14, v15) (a1.getD (Int.toNat v12) default)) (F147 (v13, v14, v15) (a1.getD (Int.toNat v12) default))) then (F146 (F147 (v13, v14, v15) (a1.getD (Int.toNat v12) default)) (F147 (v13, v14, v15) (a1.getD (Int.toNat v12) default))) else v10)), .u, (.p 2 0), .u, .u, .u, (.s 0 0 a0.length 3), (iv ((a0.length : Nat) : Int)), (iv v11), .u, .u, .u, (.s 1 0 a1.length 3), (iv ((a1.length : Nat) : Int)), (iv (W (v12 + 1))), .u, .u, .u, .u, .u, .u, .u, .u, .u, .u, .u, .u, .u, .u], [(.live false true (flat c24 a0)), (.live false true (flat c24 a1)), (.live true false [(iv v13), (iv v14), (iv v15)])]⟩)
        (obs := [.eq (decide ((v12 : Int) < ((a1.length : Nat) : Int))) true, .pr (0 ≤ (v12 : Int) ∧ (v12 : Int) < ((a1.length : Nat) : Int)), .pr (((((flat c24 a1)).drop (0 + Int.toNat v12 * 3)).take 3) = (k3 (a1.getD (Int.toNat v12) default))), .call 147 [(.a [(iv v13), (iv v14), (iv v15)]), (.a (k3 (a1.getD (Int.toNat v12) default)))] [] (.a (k3 (F147 (v13, v14, v15) (a1.getD (Int.toNat v12) default)))) [], .call 146 [(.a (k3 (F147 (v13, v14, v15) (a1.getD (Int.toNat v12) default)))), (.a (k3 (F147 (v13, v14, v15) (a1.getD (Int.toNat v12) default))))] [] (iv (F146 (F147 (v13, v14, v15) (a1.getD (Int.toNat v12) default)) (F147 (v13, v14, v15) (a1.getD (Int.toNat v12) default)))) []]) (by kernel_rfl) ⟨h0, (show 0 ≤ (v12 : Int) ∧ (v12 : Int) < ((a1.length : Nat) : Int) from by first | omega | (rw [W_eq] <;> omega) | exact u64_nn _), (ld_part c24_len default a1 v12 0 3 (by omega) (by decide) (by omega) rfl), (C147 (v13, v14, v15) (a1.getD (Int.toNat v12) default)), (C146 (F147 (v13, v14, v15) (a1.getD (Int.toNat v12) default)) (F147 (v13, v14, v15) (a1.getD (Int.toNat v12) default))), trivial⟩ ?_
      have z0 : (W (v12 + 1)) = (v12 + 1) := W_eq (by omega) (by omega)
      rw [z0]
      exact ih (if (v10 : Int) < (F146 (F147 (v13, v14, v15) (a1.getD (Int.toNat v12) default)) (F147 (v13, v14, v15) (a1.getD (Int.toNat v12) default))) then (F146 (F147 (v13, v14, v15) (a1.getD (Int.toNat v12) default)) (F147 (v13, v14, v15) (a1.getD (Int.toNat v12) default))) else v10) v11 (v12 + 1) v13 v14 v15 (by refine ⟨?_, ?_, ?_, ?_⟩ <;> (try simp only [List.length_append, List.length_cons, List.length_nil, Int.toNat_zero]) <;> first | omega | simp) (by (try simp only [List.length_append, List.length_cons, List.length_nil, Int.toNat_zero]); omega)
    | false =>
      have q0 := of_decide_eq_false h0
      have e : S107_L_L_1 a0 a1 (v10, v11, v12, v13, v14, v15) = (.inr (.inl (v10, (v11 + 1)))) := by simp only [S107_L_L_1, h0, cond_true, cond_false]
      rw [show loopF (S107_L_L_1 a0 a1) (n + 1) (v10, v11, v12, v13, v14, v15) = thenF (S107_L_L_1 a0 a1) n (S107_L_L_1 a0 a1 (v10, v11, v12, v13, v14, v15)) from rfl, e]
      refine back_of (T := T0) hT hm (f := 5000) (orc := [.d false]) [] [1, 5, 11, 12, 13] [] hcx (body := B107_L_L_0) (m := n0) (k' := K107_L_L_0) (s' := ⟨[.u, (.s 1 0 a1.length 3), .u, .u, .u, (iv v10), .u, .u, .u, .u, .u, (.s 0 0 a0.length 3), (iv ((a0.length : Nat) : Int)), (iv (W (v11 + 1))), .u, .u, .u, .u, .u, .u, .u, .u, .u, .u, .u, .u, .u, .u, .u, .u, .u, .u, .u, .u], [(.live false true (flat c24 a0)), (.live false true (flat c24 a1))]⟩)
        (obs := [.eq (decide ((v12 : Int) < ((a1.length : Nat) : Int))) false]) (by kernel_rfl) ⟨h0, trivial⟩ ?_
      have z0 : (W (v11 + 1)) = (v11 + 1) := W_eq (by omega) (by omega)
      rw [z0]
      exact g0 v10 (v11 + 1) (by (try simp only [List.length_append, List.length_cons, List.length_nil, Int.toNat_zero]); omega) (by (try simp only [List.length_append, List.length_cons, List.length_nil, Int.toNat_zero]); omega)

set_option maxHeartbeats 4000000 in
theorem L107_L_L_0 (a0 : List (Int × Int × Int)) (a1 : List (Int × Int × Int)) (l0 : a0.length ≤ 9223372036854775807) (l1 : a1.length ≤ 9223372036854775807) {cx : Cx} (hcx : cx.base = 2) : ∀ (n : Nat) (v3 : Int) (v4 : Int), 0 ≤ v4 → Int.toNat (((a0.length : Nat) : Int) - v4) < n → Aw.Good Try.prog none 9 (bodyPost Try.prog Try.f107 (RR cx (iv (loopF (S107_L_L_0 a0 a1) n (v3, v4))) [] [])) cx [] (.l B107_L_L_0 n :: K107_L_L_0) ⟨[.u, (.s 1 0 a1.length 3), .u, .u, .u, (iv v3), .u, .u, .u, .u, .u, (.s 0 0 a0.length 3), (iv ((a0.length : Nat) : Int)), (iv v4), .u, .u, .u, .u, .u, .u, .u, .u, .u, .u, .u, .u, .u, .u, .u, .u, .u, .u, .u, .u], [(.live false true (flat c24 a0)), (.live false true (flat c24 a1))]⟩ := by
  intro n
  induction n with
  | zero => intro v3 v4 hi hn; exact absurd hn (Nat.not_lt_zero _)
  | succ n ih =>
    intro v3 v4 hi hn
    refine good_round ?_
    cases h0 : (decide ((v4 : Int) < ((a0.length : Nat) : Int))) with
    | true =>
      have q0 := of_decide_eq_true h0
      have e : S107_L_L_0 a0 a1 (v3, v4) = (loopF (S107_L_L_1 a0 a1) (Int.toNat (((a1.length : Nat) : Int) - 0) + 1) (v3, v4, 0, (a0.getD (Int.toNat v4) default).1, (a0.getD (Int.toNat v4) default).2.1, (a0.getD (Int.toNat v4) default).2.2)) := by simp only [S107_L_L_0, h0, cond_true, cond_false]
      rw [show loopF (S107_L_L_0 a0 a1) (n + 1) (v3, v4) = thenF (S107_L_L_0 a0 a1) n (S107_L_L_0 a0 a1 (v3, v4)) from rfl, e]
      refine enter_of (T := T0) hT hm (f := 5000) (orc := [.d true, .ld (k3 (a0.getD (Int.toNat v4) default))]) [] [1, 5, 7, 11, 12, 13, 17, 18, 19] [2] hcx (body := B107_L_L_1) (k' := K107_L_L_1 n) (s' := ⟨[.u, (.s 1 0 a1.length 3), .u, .u, .u, (iv v3), .u, (.p 2 0), .u, .u, .u, (.s 0 0 a0.length 3), (iv ((a0.length : Nat) : Int)), (iv v4), .u, .u, .u, (.s 1 0 a1.length 3), (iv ((a1.length : Nat) : Int)), (iv 0), .u, .u, .u, .u, .u, .u, .u, .u, .u, .u, .u, .u, .u, .u], [(.live false true (flat c24 a0)), (.live false true (flat c24 a1)), (.live true false (k3 (a0.getD (Int.toNat v4) default)))]⟩)
        (obs := [.eq (decide ((v4 : Int) < ((a0.length : Nat) : Int))) true, .pr (0 ≤ (v4 : Int) ∧ (v4 : Int) < ((a0.length : Nat) : Int)), .pr (((((flat c24 a0)).drop (0 + Int.toNat v4 * 3)).take 3) = (k3 (a0.getD (Int.toNat v4) default)))]) (by kernel_rfl) ⟨h0, (show 0 ≤ (v4 : Int) ∧ (v4 : Int) < ((a0.length : Nat) : Int) from by first | omega | (rw [W_eq] <;> omega) | exact u64_nn _), (ld_part c24_len default a0 v4 0 3 (by omega) (by decide) (by omega) rfl), trivial⟩ ⟨Int.toNat (((a1.length : Nat) : Int) - 0) + 1, ?_⟩
      exact L107_L_L_1 a0 a1 l0 l1 hcx n ih (Int.toNat (((a1.length : Nat) : Int) - 0) + 1) v3 v4 0 ((a0.getD (Int.toNat v4) default).1) ((a0.getD (Int.toNat v4) default).2.1) ((a0.getD (Int.toNat v4) default).2.2) (by refine ⟨?_, ?_, ?_, ?_⟩ <;> (try simp only [List.length_append, List.length_cons, List.length_nil, Int.toNat_zero]) <;> first | omega | simp) (by (try simp only [List.length_append, List.length_cons, List.length_nil, Int.toNat_zero]); omega)
    | false =>
      have q0 := of_decide_eq_false h0
      have e : S107_L_L_0 a0 a1 (v3, v4) = (.inr v3) := by simp only [S107_L_L_0, h0, cond_true, cond_false]
      rw [show loopF (S107_L_L_0 a0 a1) (n + 1) (v3, v4) = thenF (S107_L_L_0 a0 a1) n (S107_L_L_0 a0 a1 (v3, v4)) from rfl, e]
      exact ret_of (T := T0) hT hm (f := 5000) (orc := [.d false]) [] [] [] hcx
        (obs := [.eq (decide ((v4 : Int) < ((a0.length : Nat) : Int))) false]) (by kernel_rfl) ⟨h0, trivial⟩

/-- facet/field.far at ('L', 'L') -/
def F107_L_L (a0 : List (Int × Int × Int)) (a1 : List (Int × Int × Int)) : Int :=
  (loopF (S107_L_L_0 a0 a1) (Int.toNat (((a0.length : Nat) : Int) - 0) + 1) (0, 0))

theorem C107_L_L (a0 : List (Int × Int × Int)) (a1 : List (Int × Int × Int)) (l0 : a0.length ≤ 9223372036854775807) (l1 : a1.length ≤ 9223372036854775807) : Con Try.prog 107 [(.s 0 0 a0.length 3), (.s 1 0 a1.length 3)] [(.live false true (flat c24 a0)), (.live false true (flat c24 a1))] (iv (F107_L_L a0 a1)) [] := by
  have e : (F107_L_L a0 a1) = (loopF (S107_L_L_0 a0 a1) (Int.toNat (((a0.length : Nat) : Int) - 0) + 1) (0, 0)) := by simp only [F107_L_L]
  rw [e]
  refine con_of (n := 9) Try.func107 rfl (ent Try.func107 (by kernel_rfl) rfl) (by show 2 ≤ Try.f107.ntmps; decide) (by kernel_rfl) ⟨rfl, rfl, trivial⟩ (fun cx hcx => ?_)
  refine enter_of (T := T0) hT hm (f := 5000) (orc := []) [] [1, 5, 11, 12, 13] [] hcx (body := B107_L_L_0) (k' := K107_L_L_0) (s' := ⟨[.u, (.s 1 0 a1.length 3), .u, .u, .u, (iv 0), .u, .u, .u, .u, .u, (.s 0 0 a0.length 3), (iv ((a0.length : Nat) : Int)), (iv 0), .u, .u, .u, .u, .u, .u, .u, .u, .u, .u, .u, .u, .u, .u, .u, .u, .u, .u, .u, .u], [(.live false true (flat c24 a0)), (.live false true (flat c24 a1))]⟩)
    (obs := []) (by kernel_rfl) trivial ⟨Int.toNat (((a0.length : Nat) : Int) - 0) + 1, ?_⟩
  exact L107_L_L_0 a0 a1 l0 l1 hcx (Int.toNat (((a0.length : Nat) : Int) - 0) + 1) 0 0 (by (try simp only [List.length_append, List.length_cons, List.length_nil, Int.toNat_zero]); omega) (by (try simp only [List.length_append, List.length_cons, List.length_nil, Int.toNat_zero]); omega)

noncomputable def B149_0 : Code := match (codeAtD [1] [] (Try.f149.body.getD .skip)).1 with
  | .scope c => c
  | _ => .skip
noncomputable def K149_0 : List K := (codeAtD [1] [] (Try.f149.body.getD .skip)).2
noncomputable def R149_0 : Code := (findLabel B149_0 0).getD .skip

/-- a round of loop 0 of facet/span.root; the variables: v1 = s3, v2 = s4 -/
def S149_0 (a0 : Int) : Int × Int → (Int × Int) ⊕ (Int)
  | (v1, v2) =>
   (bif ((v2 : Int) == 0) then
    (.inr v1)
   else
    (bif (decide (((W ((W (v1 + v2)) * (W (v1 + v2)))) : Int) ≤ a0)) then
     (.inl ((W (v1 + v2)), (v2 / 2)))
    else
     (.inl (v1, (v2 / 2)))))

set_option maxHeartbeats 4000000 in
theorem L149_0 (a0 : Int) {cx : Cx} (hcx : cx.base = 0) : ∀ (n : Nat) (v1 : Int) (v2 : Int), 0 ≤ v2 → Int.toNat v2 < n → Aw.Good Try.prog none 9 (bodyPost Try.prog Try.f149 (RR cx (iv (loopF (S149_0 a0) n (v1, v2))) [] [])) cx [] (.c (.goto 0) :: .s B149_0 n :: K149_0) ⟨[(iv a0), .u, .u, (iv v1), (iv v2), .u, .u, .u, .u, .u, .u, .u, .u, .u, .u, .u, .u, .u, .u, .u, .u, .u], []⟩ := by
  intro n
  induction n with
  | zero => intro v1 v2 hi hn; exact absurd hn (Nat.not_lt_zero _)
  | succ n ih =>
    intro v1 v2 hi hn
    refine good_jump (rest := R149_0) (by kernel_rfl) ?_
    cases h0 : ((v2 : Int) == 0) with
    | true =>
      have q0 := eq_of_beq h0
      have e : S149_0 a0 (v1, v2) = (.inr v1) := by simp only [S149_0, h0, cond_true, cond_false]
      rw [show loopF (S149_0 a0) (n + 1) (v1, v2) = thenF (S149_0 a0) n (S149_0 a0 (v1, v2)) from rfl, e]
      exact ret_of (T := T0) hT hm (f := 5000) (orc := [.d true]) [] [] [] hcx
        (obs := [.eq ((v2 : Int) == 0) true]) (by kernel_rfl) ⟨h0, trivial⟩
    | false =>
      cases h1 : (decide (((W ((W (v1 + v2)) * (W (v1 + v2)))) : Int) ≤ a0)) with
      | true =>
        have q0 := ne_of_beq_false h0
        have q1 := of_decide_eq_true h1
        have e : S149_0 a0 (v1, v2) = (.inl ((W (v1 + v2)), (v2 / 2))) := by simp only [S149_0, h0, h1, cond_true, cond_false]
        rw [loopF_inl e]
        refine at_of (T := T0) hT hm (f := 5000) (orc := [.d false, .d true]) [] [0, 3, 4] [] hcx (x := .goto 0) (k' := .s B149_0 n :: K149_0) (s' := ⟨[(iv a0), .u, .u, (iv (W (v1 + v2))), (iv (Int.fdiv v2 (2 ^ (min (Int.toNat 1) 64)))), .u, .u, .u, .u, .u, .u, .u, .u, .u, .u, .u, .u, .u, .u, .u, .u, .u], []⟩)
          (obs := [.eq ((v2 : Int) == 0) false, .eq (decide (((W ((W (v1 + v2)) * (W (v1 + v2)))) : Int) ≤ a0)) true, .pr (0 ≤ (1 : Int))]) (by kernel_rfl) ⟨h0, h1, (show 0 ≤ (1 : Int) from by decide), trivial⟩ ?_
        have z0 : (Int.fdiv v2 (2 ^ (min (Int.toNat 1) 64))) = (v2 / 2) := shr_eq _ 1 (by decide)
        rw [z0]
        exact ih (W (v1 + v2)) (v2 / 2) (by (try simp only [List.length_append, List.length_cons, List.length_nil, Int.toNat_zero]); omega) (by omega)
      | false =>
        have q0 := ne_of_beq_false h0
        have q1 := of_decide_eq_false h1
        have e : S149_0 a0 (v1, v2) = (.inl (v1, (v2 / 2))) := by simp only [S149_0, h0, h1, cond_true, cond_false]
        rw [loopF_inl e]
        refine at_of (T := T0) hT hm (f := 5000) (orc := [.d false, .d false]) [] [0, 3, 4] [] hcx (x := .goto 0) (k' := .s B149_0 n :: K149_0) (s' := ⟨[(iv a0), .u, .u, (iv v1), (iv (Int.fdiv v2 (2 ^ (min (Int.toNat 1) 64)))), .u, .u, .u, .u, .u, .u, .u, .u, .u, .u, .u, .u, .u, .u, .u, .u, .u], []⟩)
          (obs := [.eq ((v2 : Int) == 0) false, .eq (decide (((W ((W (v1 + v2)) * (W (v1 + v2)))) : Int) ≤ a0)) false, .pr (0 ≤ (1 : Int))]) (by kernel_rfl) ⟨h0, h1, (show 0 ≤ (1 : Int) from by decide), trivial⟩ ?_
        have z0 : (Int.fdiv v2 (2 ^ (min (Int.toNat 1) 64))) = (v2 / 2) := shr_eq _ 1 (by decide)
        rw [z0]
        exact ih v1 (v2 / 2) (by (try simp only [List.length_append, List.length_cons, List.length_nil, Int.toNat_zero]); omega) (by omega)

/-- facet/span.root -/
def F149 (a0 : Int) : Int :=
  (bif (decide ((4611686018427387904 : Int) ≤ a0)) then
   (loopF (S149_0 a0) (Int.toNat 1073741824 + 1) (2147483648, 1073741824))
  else
   (loopF (S149_0 a0) (Int.toNat 1073741824 + 1) (0, 1073741824)))

theorem C149 (a0 : Int) : Con Try.prog 149 [(iv a0)] [] (iv (F149 a0)) [] := by
  cases h0 : (decide ((4611686018427387904 : Int) ≤ a0)) with
  | true =>
    have q0 := of_decide_eq_true h0
    have e : (F149 a0) = (loopF (S149_0 a0) (Int.toNat 1073741824 + 1) (2147483648, 1073741824)) := by simp only [F149, h0, cond_true, cond_false]
    rw [e]
    refine con_of (n := 9) Try.func149 rfl (ent Try.func149 (by kernel_rfl) rfl) (by show 1 ≤ Try.f149.ntmps; decide) (by kernel_rfl) trivial (fun cx hcx => ?_)
    refine at_of (T := T0) hT hm (f := 5000) (orc := [.un (Int.toNat 1073741824 + 1), .d false, .d true]) [] [0, 3, 4] [] hcx (x := .goto 0) (k' := .s B149_0 (Int.toNat 1073741824 + 1) :: K149_0) (s' := ⟨[(iv a0), .u, .u, (iv 2147483648), (iv 1073741824), .u, .u, .u, .u, .u, .u, .u, .u, .u, .u, .u, .u, .u, .u, .u, .u, .u], []⟩)
      (obs := [.eq false false, .eq (decide ((4611686018427387904 : Int) ≤ a0)) true, .pr (0 ≤ (1 : Int))]) (by kernel_rfl) ⟨rfl, h0, (show 0 ≤ (1 : Int) from by decide), trivial⟩ ?_
    exact L149_0 a0 hcx (Int.toNat 1073741824 + 1) 2147483648 1073741824 (by (try simp only [List.length_append, List.length_cons, List.length_nil, Int.toNat_zero]); omega) (by omega)
  | false =>
    have q0 := of_decide_eq_false h0
    have e : (F149 a0) = (loopF (S149_0 a0) (Int.toNat 1073741824 + 1) (0, 1073741824)) := by simp only [F149, h0, cond_true, cond_false]
    rw [e]
    refine con_of (n := 9) Try.func149 rfl (ent Try.func149 (by kernel_rfl) rfl) (by show 1 ≤ Try.f149.ntmps; decide) (by kernel_rfl) trivial (fun cx hcx => ?_)
    refine at_of (T := T0) hT hm (f := 5000) (orc := [.un (Int.toNat 1073741824 + 1), .d false, .d false]) [] [0, 3, 4] [] hcx (x := .goto 0) (k' := .s B149_0 (Int.toNat 1073741824 + 1) :: K149_0) (s' := ⟨[(iv a0), .u, .u, (iv 0), (iv 1073741824), .u, .u, .u, .u, .u, .u, .u, .u, .u, .u, .u, .u, .u, .u, .u, .u, .u], []⟩)
      (obs := [.eq false false, .eq (decide ((4611686018427387904 : Int) ≤ a0)) false, .pr (0 ≤ (1 : Int))]) (by kernel_rfl) ⟨rfl, h0, (show 0 ≤ (1 : Int) from by decide), trivial⟩ ?_
    exact L149_0 a0 hcx (Int.toNat 1073741824 + 1) 0 1073741824 (by (try simp only [List.length_append, List.length_cons, List.length_nil, Int.toNat_zero]); omega) (by omega)

/-- facet/span.Valid -/
def F102 (a0 : Int × Int) : Bool :=
  (bif (decide ((a0.1 : Int) ≥ (-1099511627776))) then
   (bif (decide ((a0.1 : Int) ≤ a0.2)) then
    (decide ((a0.2 : Int) ≤ 1099511627776))
   else
    false)
  else
   false)

theorem C102 (a0 : Int × Int) : Con Try.prog 102 [(.a [(iv a0.1), (iv a0.2)])] [] (.v (.bool (F102 a0))) [] := by
  cases h0 : (decide ((a0.1 : Int) ≥ (-1099511627776))) with
  | true =>
    cases h1 : (decide ((a0.1 : Int) ≤ a0.2)) with
    | true =>
      have q0 := of_decide_eq_true h0
      have q1 := of_decide_eq_true h1
      have e : (F102 a0) = (decide ((a0.2 : Int) ≤ 1099511627776)) := by simp only [F102, h0, h1, cond_true, cond_false]
      rw [e]
      refine con_of (n := 9) Try.func102 rfl (ent Try.func102 (by kernel_rfl) rfl) (by show 1 ≤ Try.f102.ntmps; decide) (by kernel_rfl) trivial (fun cx hcx => ?_)
      exact ret_of (T := T0) hT hm (f := 5000) (orc := [.d true, .d true]) [] [] [] hcx
        (obs := [.eq (decide ((a0.1 : Int) ≥ (-1099511627776))) true, .eq (decide ((a0.1 : Int) ≤ a0.2)) true]) (by kernel_rfl) ⟨h0, h1, trivial⟩
    | false =>
      have q0 := of_decide_eq_true h0
      have q1 := of_decide_eq_false h1
      have e : (F102 a0) = false := by simp only [F102, h0, h1, cond_true, cond_false]
      rw [e]
      refine con_of (n := 9) Try.func102 rfl (ent Try.func102 (by kernel_rfl) rfl) (by show 1 ≤ Try.f102.ntmps; decide) (by kernel_rfl) trivial (fun cx hcx => ?_)
      exact ret_of (T := T0) hT hm (f := 5000) (orc := [.d true, .d false]) [] [] [] hcx
        (obs := [.eq (decide ((a0.1 : Int) ≥ (-1099511627776))) true, .eq (decide ((a0.1 : Int) ≤ a0.2)) false]) (by kernel_rfl) ⟨h0, h1, trivial⟩
  | false =>
    have q0 := of_decide_eq_false h0
    have e : (F102 a0) = false := by simp only [F102, h0, cond_true, cond_false]
    rw [e]
    refine con_of (n := 9) Try.func102 rfl (ent Try.func102 (by kernel_rfl) rfl) (by show 1 ≤ Try.f102.ntmps; decide) (by kernel_rfl) trivial (fun cx hcx => ?_)
    exact ret_of (T := T0) hT hm (f := 5000) (orc := [.d false]) [] [] [] hcx
      (obs := [.eq (decide ((a0.1 : Int) ≥ (-1099511627776))) false]) (by kernel_rfl) ⟨h0, trivial⟩

/-- facet/span.result -/
def F78 (a0 : Int) (a1 : Int) : (Int × Int) × Int :=
  (bif (!(F102 (a0, a1))) then
   ((0, 0), 4)
  else
   ((a0, a1), 0))

theorem C78 (a0 : Int) (a1 : Int) : Con Try.prog 78 [(iv a0), (iv a1)] [] (.t [(.a (k2 (F78 a0 a1).1)), (iv (F78 a0 a1).2)]) [] := by
  cases h0 : (!(F102 (a0, a1))) with
  | true =>
    have e : (F78 a0 a1) = ((0, 0), 4) := by simp only [F78, h0, cond_true, cond_false]
    rw [e]
    refine con_of (n := 9) Try.func78 rfl (ent Try.func78 (by kernel_rfl) rfl) (by show 2 ≤ Try.f78.ntmps; decide) (by kernel_rfl) trivial (fun cx hcx => ?_)
    exact ret_of (T := T0) hT hm (f := 5000) (orc := [.call [] (.v (.bool (F102 (a0, a1)))) [], .d true]) [] [] [] hcx
      (obs := [.call 102 [(.a [(iv a0), (iv a1)])] [] (.v (.bool (F102 (a0, a1)))) [], .eq (!(F102 (a0, a1))) true]) (by kernel_rfl) ⟨(C102 (a0, a1)), h0, trivial⟩
  | false =>
    have e : (F78 a0 a1) = ((a0, a1), 0) := by simp only [F78, h0, cond_true, cond_false]
    rw [e]
    refine con_of (n := 9) Try.func78 rfl (ent Try.func78 (by kernel_rfl) rfl) (by show 2 ≤ Try.f78.ntmps; decide) (by kernel_rfl) trivial (fun cx hcx => ?_)
    exact ret_of (T := T0) hT hm (f := 5000) (orc := [.call [] (.v (.bool (F102 (a0, a1)))) [], .d false]) [] [] [] hcx
      (obs := [.call 102 [(.a [(iv a0), (iv a1)])] [] (.v (.bool (F102 (a0, a1)))) [], .eq (!(F102 (a0, a1))) false]) (by kernel_rfl) ⟨(C102 (a0, a1)), h0, trivial⟩

/-- facet/span.inverse -/
def F109 (a0 : Int) (a1 : Int) : (Int × Int) × Int :=
  (bif (((W ((W ((F149 (W (Int.tdiv a0 a1))) * (F149 (W (Int.tdiv a0 a1))))) * a1)) : Int) == a0) then
   ((F78 (F149 (W (Int.tdiv a0 a1))) (F149 (W (Int.tdiv a0 a1)))).1, (F78 (F149 (W (Int.tdiv a0 a1))) (F149 (W (Int.tdiv a0 a1)))).2)
  else
   ((F78 (F149 (W (Int.tdiv a0 a1))) (W ((F149 (W (Int.tdiv a0 a1))) + 1))).1, (F78 (F149 (W (Int.tdiv a0 a1))) (W ((F149 (W (Int.tdiv a0 a1))) + 1))).2))

theorem C109 (a0 : Int) (a1 : Int) (ha : a1 ≠ 0) : Con Try.prog 109 [(iv a0), (iv a1)] [] (.t [(.a (k2 (F109 a0 a1).1)), (iv (F109 a0 a1).2)]) [] := by
  cases h0 : (((W ((W ((F149 (W (Int.tdiv a0 a1))) * (F149 (W (Int.tdiv a0 a1))))) * a1)) : Int) == a0) with
  | true =>
    have q0 := eq_of_beq h0
    have e : (F109 a0 a1) = ((F78 (F149 (W (Int.tdiv a0 a1))) (F149 (W (Int.tdiv a0 a1)))).1, (F78 (F149 (W (Int.tdiv a0 a1))) (F149 (W (Int.tdiv a0 a1)))).2) := by simp only [F109, h0, cond_true, cond_false]
    rw [e]
    refine con_of (n := 9) Try.func109 rfl (ent Try.func109 (by kernel_rfl) rfl) (by show 2 ≤ Try.f109.ntmps; decide) (by kernel_rfl) trivial (fun cx hcx => ?_)
    exact ret_of (T := T0) hT hm (f := 5000) (orc := [.call [] (iv (F149 (W (Int.tdiv a0 a1)))) [], .d true, .call [] (.t [(.a (k2 (F78 (F149 (W (Int.tdiv a0 a1))) (F149 (W (Int.tdiv a0 a1)))).1)), (iv (F78 (F149 (W (Int.tdiv a0 a1))) (F149 (W (Int.tdiv a0 a1)))).2)]) []]) [] [] [] hcx
      (obs := [.pr ((a1 : Int) ≠ 0), .call 149 [(iv (W (Int.tdiv a0 a1)))] [] (iv (F149 (W (Int.tdiv a0 a1)))) [], .eq (((W ((W ((F149 (W (Int.tdiv a0 a1))) * (F149 (W (Int.tdiv a0 a1))))) * a1)) : Int) == a0) true, .call 78 [(iv (F149 (W (Int.tdiv a0 a1)))), (iv (F149 (W (Int.tdiv a0 a1))))] [] (.t [(.a (k2 (F78 (F149 (W (Int.tdiv a0 a1))) (F149 (W (Int.tdiv a0 a1)))).1)), (iv (F78 (F149 (W (Int.tdiv a0 a1))) (F149 (W (Int.tdiv a0 a1)))).2)]) []]) (by kernel_rfl) ⟨(show (a1 : Int) ≠ 0 from by first | omega | (rw [W_eq] <;> omega) | exact u64_nn _), (C149 (W (Int.tdiv a0 a1))), h0, (C78 (F149 (W (Int.tdiv a0 a1))) (F149 (W (Int.tdiv a0 a1)))), trivial⟩
  | false =>
    have q0 := ne_of_beq_false h0
    have e : (F109 a0 a1) = ((F78 (F149 (W (Int.tdiv a0 a1))) (W ((F149 (W (Int.tdiv a0 a1))) + 1))).1, (F78 (F149 (W (Int.tdiv a0 a1))) (W ((F149 (W (Int.tdiv a0 a1))) + 1))).2) := by simp only [F109, h0, cond_true, cond_false]
    rw [e]
    refine con_of (n := 9) Try.func109 rfl (ent Try.func109 (by kernel_rfl) rfl) (by show 2 ≤ Try.f109.ntmps; decide) (by kernel_rfl) trivial (fun cx hcx => ?_)
    exact ret_of (T := T0) hT hm (f := 5000) (orc := [.call [] (iv (F149 (W (Int.tdiv a0 a1)))) [], .d false, .call [] (.t [(.a (k2 (F78 (F149 (W (Int.tdiv a0 a1))) (W ((F149 (W (Int.tdiv a0 a1))) + 1))).1)), (iv (F78 (F149 (W (Int.tdiv a0 a1))) (W ((F149 (W (Int.tdiv a0 a1))) + 1))).2)]) []]) [] [] [] hcx
      (obs := [.pr ((a1 : Int) ≠ 0), .call 149 [(iv (W (Int.tdiv a0 a1)))] [] (iv (F149 (W (Int.tdiv a0 a1)))) [], .eq (((W ((W ((F149 (W (Int.tdiv a0 a1))) * (F149 (W (Int.tdiv a0 a1))))) * a1)) : Int) == a0) false, .call 78 [(iv (F149 (W (Int.tdiv a0 a1)))), (iv (W ((F149 (W (Int.tdiv a0 a1))) + 1)))] [] (.t [(.a (k2 (F78 (F149 (W (Int.tdiv a0 a1))) (W ((F149 (W (Int.tdiv a0 a1))) + 1))).1)), (iv (F78 (F149 (W (Int.tdiv a0 a1))) (W ((F149 (W (Int.tdiv a0 a1))) + 1))).2)]) []]) (by kernel_rfl) ⟨(show (a1 : Int) ≠ 0 from by first | omega | (rw [W_eq] <;> omega) | exact u64_nn _), (C149 (W (Int.tdiv a0 a1))), h0, (C78 (F149 (W (Int.tdiv a0 a1))) (W ((F149 (W (Int.tdiv a0 a1))) + 1))), trivial⟩

/-- facet/span.Inverse -/
def F81 (a0 : Int) (a1 : Int) : (Int × Int) × Int :=
  (bif (decide ((a0 : Int) < 1)) then
   ((0, 0), 1)
  else
   (bif (decide ((a0 : Int) > 1099511627776)) then
    ((0, 0), 1)
   else
    (bif (decide ((a1 : Int) < 1)) then
     ((0, 0), 1)
    else
     (bif (decide ((a1 : Int) > 8)) then
      ((0, 0), 1)
     else
      ((F109 (W ((W (a1 * a1)) * 2 ^ (min (Int.toNat 40) 64))) a0).1, (F109 (W ((W (a1 * a1)) * 2 ^ (min (Int.toNat 40) 64))) a0).2)))))

theorem C81 (a0 : Int) (a1 : Int) : Con Try.prog 81 [(iv a0), (iv a1)] [] (.t [(.a (k2 (F81 a0 a1).1)), (iv (F81 a0 a1).2)]) [] := by
  cases h0 : (decide ((a0 : Int) < 1)) with
  | true =>
    have q0 := of_decide_eq_true h0
    have e : (F81 a0 a1) = ((0, 0), 1) := by simp only [F81, h0, cond_true, cond_false]
    rw [e]
    refine con_of (n := 9) Try.func81 rfl (ent Try.func81 (by kernel_rfl) rfl) (by show 2 ≤ Try.f81.ntmps; decide) (by kernel_rfl) trivial (fun cx hcx => ?_)
    exact ret_of (T := T0) hT hm (f := 5000) (orc := [.d true]) [] [] [] hcx
      (obs := [.eq (decide ((a0 : Int) < 1)) true]) (by kernel_rfl) ⟨h0, trivial⟩
  | false =>
    cases h1 : (decide ((a0 : Int) > 1099511627776)) with
    | true =>
      have q0 := of_decide_eq_false h0
      have q1 := of_decide_eq_true h1
      have e : (F81 a0 a1) = ((0, 0), 1) := by simp only [F81, h0, h1, cond_true, cond_false]
      rw [e]
      refine con_of (n := 9) Try.func81 rfl (ent Try.func81 (by kernel_rfl) rfl) (by show 2 ≤ Try.f81.ntmps; decide) (by kernel_rfl) trivial (fun cx hcx => ?_)
      exact ret_of (T := T0) hT hm (f := 5000) (orc := [.d false, .d true]) [] [] [] hcx
        (obs := [.eq (decide ((a0 : Int) < 1)) false, .eq (decide ((a0 : Int) > 1099511627776)) true]) (by kernel_rfl) ⟨h0, h1, trivial⟩
    | false =>
      cases h2 : (decide ((a1 : Int) < 1)) with
      | true =>
        have q0 := of_decide_eq_false h0
        have q1 := of_decide_eq_false h1
        have q2 := of_decide_eq_true h2
        have e : (F81 a0 a1) = ((0, 0), 1) := by simp only [F81, h0, h1, h2, cond_true, cond_false]
        rw [e]
        refine con_of (n := 9) Try.func81 rfl (ent Try.func81 (by kernel_rfl) rfl) (by show 2 ≤ Try.f81.ntmps; decide) (by kernel_rfl) trivial (fun cx hcx => ?_)
        exact ret_of (T := T0) hT hm (f := 5000) (orc := [.d false, .d false, .d true]) [] [] [] hcx
          (obs := [.eq (decide ((a0 : Int) < 1)) false, .eq (decide ((a0 : Int) > 1099511627776)) false, .eq (decide ((a1 : Int) < 1)) true]) (by kernel_rfl) ⟨h0, h1, h2, trivial⟩
      | false =>
        cases h3 : (decide ((a1 : Int) > 8)) with
        | true =>
          have q0 := of_decide_eq_false h0
          have q1 := of_decide_eq_false h1
          have q2 := of_decide_eq_false h2
          have q3 := of_decide_eq_true h3
          have e : (F81 a0 a1) = ((0, 0), 1) := by simp only [F81, h0, h1, h2, h3, cond_true, cond_false]
          rw [e]
          refine con_of (n := 9) Try.func81 rfl (ent Try.func81 (by kernel_rfl) rfl) (by show 2 ≤ Try.f81.ntmps; decide) (by kernel_rfl) trivial (fun cx hcx => ?_)
          exact ret_of (T := T0) hT hm (f := 5000) (orc := [.d false, .d false, .d false, .d true]) [] [] [] hcx
            (obs := [.eq (decide ((a0 : Int) < 1)) false, .eq (decide ((a0 : Int) > 1099511627776)) false, .eq (decide ((a1 : Int) < 1)) false, .eq (decide ((a1 : Int) > 8)) true]) (by kernel_rfl) ⟨h0, h1, h2, h3, trivial⟩
        | false =>
          have q0 := of_decide_eq_false h0
          have q1 := of_decide_eq_false h1
          have q2 := of_decide_eq_false h2
          have q3 := of_decide_eq_false h3
          have e : (F81 a0 a1) = ((F109 (W ((W (a1 * a1)) * 2 ^ (min (Int.toNat 40) 64))) a0).1, (F109 (W ((W (a1 * a1)) * 2 ^ (min (Int.toNat 40) 64))) a0).2) := by simp only [F81, h0, h1, h2, h3, cond_true, cond_false]
          rw [e]
          refine con_of (n := 9) Try.func81 rfl (ent Try.func81 (by kernel_rfl) rfl) (by show 2 ≤ Try.f81.ntmps; decide) (by kernel_rfl) trivial (fun cx hcx => ?_)
          exact ret_of (T := T0) hT hm (f := 5000) (orc := [.d false, .d false, .d false, .d false, .call [] (.t [(.a (k2 (F109 (W ((W (a1 * a1)) * 2 ^ (min (Int.toNat 40) 64))) a0).1)), (iv (F109 (W ((W (a1 * a1)) * 2 ^ (min (Int.toNat 40) 64))) a0).2)]) []]) [] [] [] hcx
            (obs := [.eq (decide ((a0 : Int) < 1)) false, .eq (decide ((a0 : Int) > 1099511627776)) false, .eq (decide ((a1 : Int) < 1)) false, .eq (decide ((a1 : Int) > 8)) false, .pr (0 ≤ (40 : Int)), .call 109 [(iv (W ((W (a1 * a1)) * 2 ^ (min (Int.toNat 40) 64)))), (iv a0)] [] (.t [(.a (k2 (F109 (W ((W (a1 * a1)) * 2 ^ (min (Int.toNat 40) 64))) a0).1)), (iv (F109 (W ((W (a1 * a1)) * 2 ^ (min (Int.toNat 40) 64))) a0).2)]) []]) (by kernel_rfl) ⟨h0, h1, h2, h3, (show 0 ≤ (40 : Int) from by decide), (C109 (W ((W (a1 * a1)) * 2 ^ (min (Int.toNat 40) 64))) a0  (by (try simp only [List.length_append, List.length_cons, List.length_nil, Int.toNat_zero]); omega)), trivial⟩

/-- facet/span.check at (1,) -/
def F75_1 (a0 : Int × Int) : Int :=
  (bif (!(F102 a0)) then
   1
  else
   0)

theorem C75_1 (a0 : Int × Int) : Con Try.prog 75 [(.s 0 0 1 2)] [(.live false false [(iv a0.1), (iv a0.2)])] (iv (F75_1 a0)) [] := by
  cases h0 : (!(F102 a0)) with
  | true =>
    have e : (F75_1 a0) = 1 := by simp only [F75_1, h0, cond_true, cond_false]
    rw [e]
    refine con_of (n := 9) Try.func75 rfl (ent Try.func75 (by kernel_rfl) rfl) (by show 1 ≤ Try.f75.ntmps; decide) (by kernel_rfl) ⟨rfl, trivial⟩ (fun cx hcx => ?_)
    exact ret_of (T := T0) hT hm (f := 5000) (orc := [.un 200, .d true, .call [] (.v (.bool (F102 a0))) [], .d true]) [] [] [] hcx
      (obs := [.eq true true, .pr (0 ≤ (0 : Int) ∧ (0 : Int) < ((1 : Nat) : Int)), .call 102 [(.a [(iv a0.1), (iv a0.2)])] [] (.v (.bool (F102 a0))) [], .eq (!(F102 a0)) true]) (by kernel_rfl) ⟨rfl, (show 0 ≤ (0 : Int) ∧ (0 : Int) < ((1 : Nat) : Int) from by decide), (C102 a0), h0, trivial⟩
  | false =>
    have e : (F75_1 a0) = 0 := by simp only [F75_1, h0, cond_true, cond_false]
    rw [e]
    refine con_of (n := 9) Try.func75 rfl (ent Try.func75 (by kernel_rfl) rfl) (by show 1 ≤ Try.f75.ntmps; decide) (by kernel_rfl) ⟨rfl, trivial⟩ (fun cx hcx => ?_)
    exact ret_of (T := T0) hT hm (f := 5000) (orc := [.un 200, .d true, .call [] (.v (.bool (F102 a0))) [], .d false, .un 0, .d false]) [] [] [] hcx
      (obs := [.eq true true, .pr (0 ≤ (0 : Int) ∧ (0 : Int) < ((1 : Nat) : Int)), .call 102 [(.a [(iv a0.1), (iv a0.2)])] [] (.v (.bool (F102 a0))) [], .eq (!(F102 a0)) false, .eq false false]) (by kernel_rfl) ⟨rfl, (show 0 ≤ (0 : Int) ∧ (0 : Int) < ((1 : Nat) : Int) from by decide), (C102 a0), h0, rfl, trivial⟩

/-- facet/span.down -/
def F115 (a0 : Int) (a1 : Int) : Int :=
  (bif (((Int.tmod a0 a1) : Int) != 0) then
   (bif (!((decide ((a0 : Int) < 0)) == (decide ((a1 : Int) < 0)))) then
    (W ((W (Int.tdiv a0 a1)) - 1))
   else
    (W (Int.tdiv a0 a1)))
  else
   (W (Int.tdiv a0 a1)))

theorem C115 (a0 : Int) (a1 : Int) (ha : a1 ≠ 0) : Con Try.prog 115 [(iv a0), (iv a1)] [] (iv (F115 a0 a1)) [] := by
  cases h0 : (((Int.tmod a0 a1) : Int) != 0) with
  | true =>
    cases h1 : (!((decide ((a0 : Int) < 0)) == (decide ((a1 : Int) < 0)))) with
    | true =>
      have q0 := bne_iff_ne.1 h0
      have e : (F115 a0 a1) = (W ((W (Int.tdiv a0 a1)) - 1)) := by simp only [F115, h0, h1, cond_true, cond_false]
      rw [e]
      refine con_of (n := 9) Try.func115 rfl (ent Try.func115 (by kernel_rfl) rfl) (by show 2 ≤ Try.f115.ntmps; decide) (by kernel_rfl) trivial (fun cx hcx => ?_)
      exact ret_of (T := T0) hT hm (f := 5000) (orc := [.d true, .d true]) [] [] [] hcx
        (obs := [.pr ((a1 : Int) ≠ 0), .pr ((a1 : Int) ≠ 0), .eq (((Int.tmod a0 a1) : Int) != 0) true, .eq (!((decide ((a0 : Int) < 0)) == (decide ((a1 : Int) < 0)))) true]) (by kernel_rfl) ⟨(show (a1 : Int) ≠ 0 from by first | omega | (rw [W_eq] <;> omega) | exact u64_nn _), (show (a1 : Int) ≠ 0 from by first | omega | (rw [W_eq] <;> omega) | exact u64_nn _), h0, h1, trivial⟩
    | false =>
      have q0 := bne_iff_ne.1 h0
      have e : (F115 a0 a1) = (W (Int.tdiv a0 a1)) := by simp only [F115, h0, h1, cond_true, cond_false]
      rw [e]
      refine con_of (n := 9) Try.func115 rfl (ent Try.func115 (by kernel_rfl) rfl) (by show 2 ≤ Try.f115.ntmps; decide) (by kernel_rfl) trivial (fun cx hcx => ?_)
      exact ret_of (T := T0) hT hm (f := 5000) (orc := [.d true, .d false]) [] [] [] hcx
        (obs := [.pr ((a1 : Int) ≠ 0), .pr ((a1 : Int) ≠ 0), .eq (((Int.tmod a0 a1) : Int) != 0) true, .eq (!((decide ((a0 : Int) < 0)) == (decide ((a1 : Int) < 0)))) false]) (by kernel_rfl) ⟨(show (a1 : Int) ≠ 0 from by first | omega | (rw [W_eq] <;> omega) | exact u64_nn _), (show (a1 : Int) ≠ 0 from by first | omega | (rw [W_eq] <;> omega) | exact u64_nn _), h0, h1, trivial⟩
  | false =>
    have q0 := bne_eq_false_iff_eq.1 h0
    have e : (F115 a0 a1) = (W (Int.tdiv a0 a1)) := by simp only [F115, h0, cond_true, cond_false]
    rw [e]
    refine con_of (n := 9) Try.func115 rfl (ent Try.func115 (by kernel_rfl) rfl) (by show 2 ≤ Try.f115.ntmps; decide) (by kernel_rfl) trivial (fun cx hcx => ?_)
    exact ret_of (T := T0) hT hm (f := 5000) (orc := [.d false]) [] [] [] hcx
      (obs := [.pr ((a1 : Int) ≠ 0), .pr ((a1 : Int) ≠ 0), .eq (((Int.tmod a0 a1) : Int) != 0) false]) (by kernel_rfl) ⟨(show (a1 : Int) ≠ 0 from by first | omega | (rw [W_eq] <;> omega) | exact u64_nn _), (show (a1 : Int) ≠ 0 from by first | omega | (rw [W_eq] <;> omega) | exact u64_nn _), h0, trivial⟩

/-- facet/span.up -/
def F116 (a0 : Int) (a1 : Int) : Int :=
  (W (0 - (F115 (W (0 - a0)) a1)))

theorem C116 (a0 : Int) (a1 : Int) (ha : a1 ≠ 0) : Con Try.prog 116 [(iv a0), (iv a1)] [] (iv (F116 a0 a1)) [] := by
  have e : (F116 a0 a1) = (W (0 - (F115 (W (0 - a0)) a1))) := by simp only [F116]
  rw [e]
  refine con_of (n := 9) Try.func116 rfl (ent Try.func116 (by kernel_rfl) rfl) (by show 2 ≤ Try.f116.ntmps; decide) (by kernel_rfl) trivial (fun cx hcx => ?_)
  exact ret_of (T := T0) hT hm (f := 5000) (orc := [.call [] (iv (F115 (W (0 - a0)) a1)) []]) [] [] [] hcx
    (obs := [.call 115 [(iv (W (0 - a0))), (iv a1)] [] (iv (F115 (W (0 - a0)) a1)) []]) (by kernel_rfl) ⟨(C115 (W (0 - a0)) a1  (by (try simp only [List.length_append, List.length_cons, List.length_nil, Int.toNat_zero]); omega)), trivial⟩

/-- facet/span.Part -/
def F148 (a0 : Int × Int) (a1 : Int) : (Int × Int) × Int :=
  (bif (((F75_1 a0) : Int) != 0) then
   ((0, 0), (F75_1 a0))
  else
   (bif (decide ((a1 : Int) < 1)) then
    ((0, 0), 1)
   else
    (bif (decide ((a1 : Int) > 1099511627776)) then
     ((0, 0), 1)
    else
     ((F78 (F115 a0.1 a1) (F116 a0.2 a1)).1, (F78 (F115 a0.1 a1) (F116 a0.2 a1)).2))))

noncomputable def oC148_0 (a0 : Int × Int) : Ob := .call 75 [(.s 0 0 1 2)] [(.live false false [(iv a0.1), (iv a0.2)])] (iv (F75_1 a0)) []
theorem C148 (a0 : Int × Int) (a1 : Int) : Con Try.prog 148 [(.a [(iv a0.1), (iv a0.2)]), (iv a1)] [] (.t [(.a (k2 (F148 a0 a1).1)), (iv (F148 a0 a1).2)]) [] := by
  cases h0 : (((F75_1 a0) : Int) != 0) with
  | true =>
    have q0 := bne_iff_ne.1 h0
    have e : (F148 a0 a1) = ((0, 0), (F75_1 a0)) := by simp only [F148, h0, cond_true, cond_false]
    rw [e]
    refine con_of (n := 9) Try.func148 rfl (ent Try.func148 (by kernel_rfl) rfl) (by show 2 ≤ Try.f148.ntmps; decide) (by kernel_rfl) trivial (fun cx hcx => ?_)
    exact ret_of (T := T0) hT hm (f := 5000) (orc := [.call [2] (iv (F75_1 a0)) [], .d true]) [] [] [] hcx
      (obs := [(oC148_0 a0), .eq (((F75_1 a0) : Int) != 0) true]) (by kernel_rfl) ⟨(C75_1 a0), h0, trivial⟩
  | false =>
    cases h1 : (decide ((a1 : Int) < 1)) with
    | true =>
      have q0 := bne_eq_false_iff_eq.1 h0
      have q1 := of_decide_eq_true h1
      have e : (F148 a0 a1) = ((0, 0), 1) := by simp only [F148, h0, h1, cond_true, cond_false]
      rw [e]
      refine con_of (n := 9) Try.func148 rfl (ent Try.func148 (by kernel_rfl) rfl) (by show 2 ≤ Try.f148.ntmps; decide) (by kernel_rfl) trivial (fun cx hcx => ?_)
      exact ret_of (T := T0) hT hm (f := 5000) (orc := [.call [2] (iv (F75_1 a0)) [], .d false, .d true]) [] [] [] hcx
        (obs := [(oC148_0 a0), .eq (((F75_1 a0) : Int) != 0) false, .eq (decide ((a1 : Int) < 1)) true]) (by kernel_rfl) ⟨(C75_1 a0), h0, h1, trivial⟩
    | false =>
      cases h2 : (decide ((a1 : Int) > 1099511627776)) with
      | true =>
        have q0 := bne_eq_false_iff_eq.1 h0
        have q1 := of_decide_eq_false h1
        have q2 := of_decide_eq_true h2
        have e : (F148 a0 a1) = ((0, 0), 1) := by simp only [F148, h0, h1, h2, cond_true, cond_false]
        rw [e]
        refine con_of (n := 9) Try.func148 rfl (ent Try.func148 (by kernel_rfl) rfl) (by show 2 ≤ Try.f148.ntmps; decide) (by kernel_rfl) trivial (fun cx hcx => ?_)
        exact ret_of (T := T0) hT hm (f := 5000) (orc := [.call [2] (iv (F75_1 a0)) [], .d false, .d false, .d true]) [] [] [] hcx
          (obs := [(oC148_0 a0), .eq (((F75_1 a0) : Int) != 0) false, .eq (decide ((a1 : Int) < 1)) false, .eq (decide ((a1 : Int) > 1099511627776)) true]) (by kernel_rfl) ⟨(C75_1 a0), h0, h1, h2, trivial⟩
      | false =>
        have q0 := bne_eq_false_iff_eq.1 h0
        have q1 := of_decide_eq_false h1
        have q2 := of_decide_eq_false h2
        have e : (F148 a0 a1) = ((F78 (F115 a0.1 a1) (F116 a0.2 a1)).1, (F78 (F115 a0.1 a1) (F116 a0.2 a1)).2) := by simp only [F148, h0, h1, h2, cond_true, cond_false]
        rw [e]
        refine con_of (n := 9) Try.func148 rfl (ent Try.func148 (by kernel_rfl) rfl) (by show 2 ≤ Try.f148.ntmps; decide) (by kernel_rfl) trivial (fun cx hcx => ?_)
        exact ret_of (T := T0) hT hm (f := 5000) (orc := [.call [2] (iv (F75_1 a0)) [], .d false, .d false, .d false, .call [] (iv (F115 a0.1 a1)) [], .call [] (iv (F116 a0.2 a1)) [], .call [] (.t [(.a (k2 (F78 (F115 a0.1 a1) (F116 a0.2 a1)).1)), (iv (F78 (F115 a0.1 a1) (F116 a0.2 a1)).2)]) []]) [] [] [] hcx
          (obs := [(oC148_0 a0), .eq (((F75_1 a0) : Int) != 0) false, .eq (decide ((a1 : Int) < 1)) false, .eq (decide ((a1 : Int) > 1099511627776)) false, .call 115 [(iv a0.1), (iv a1)] [] (iv (F115 a0.1 a1)) [], .call 116 [(iv a0.2), (iv a1)] [] (iv (F116 a0.2 a1)) [], .call 78 [(iv (F115 a0.1 a1)), (iv (F116 a0.2 a1))] [] (.t [(.a (k2 (F78 (F115 a0.1 a1) (F116 a0.2 a1)).1)), (iv (F78 (F115 a0.1 a1) (F116 a0.2 a1)).2)]) []]) (by kernel_rfl) ⟨(C75_1 a0), h0, h1, h2, (C115 a0.1 a1  (by (try simp only [List.length_append, List.length_cons, List.length_nil, Int.toNat_zero]); omega)), (C116 a0.2 a1  (by (try simp only [List.length_append, List.length_cons, List.length_nil, Int.toNat_zero]); omega)), (C78 (F115 a0.1 a1) (F116 a0.2 a1)), trivial⟩

/-- api.Span, as cells -/
def c32 (x : Int × Int) : List SV := [(iv x.1), (iv x.2)]
theorem c32_len (x : Int × Int) : (c32 x).length = 2 := rfl

noncomputable def B75_L_0 : Code := (loopAtD [1, 0, 1] [] (Try.f75.body.getD .skip) []).1
noncomputable def K75_L_0 : List K := (loopAtD [1, 0, 1] [] (Try.f75.body.getD .skip) []).2

/-- a round of loop 0 of facet/span.check; the variables: v1 = s7 -/
def S75_L_0 (a0 : List (Int × Int)) : Int → (Int) ⊕ (Int)
  | v1 =>
   (bif (decide ((v1 : Int) < ((a0.length : Nat) : Int))) then
    (bif (!(F102 (a0.getD (Int.toNat v1) default))) then
     (.inr 1)
    else
     (.inl (v1 + 1)))
   else
    (.inr 0))

set_option maxHeartbeats 4000000 in
theorem L75_L_0 (a0 : List (Int × Int)) (l0 : a0.length ≤ 9223372036854775807) {cx : Cx} (hcx : cx.base = 1) : ∀ (n : Nat) (v1 : Int), 0 ≤ v1 → Int.toNat (((a0.length : Nat) : Int) - v1) < n → Aw.Good Try.prog none 9 (bodyPost Try.prog Try.f75 (RR cx (iv (loopF (S75_L_0 a0) n v1)) [] [])) cx [] (.l B75_L_0 n :: K75_L_0) ⟨[.u, .u, .u, .u, .u, (.s 0 0 a0.length 2), (iv ((a0.length : Nat) : Int)), (iv v1), .u, .u, .u, .u, .u, .u, .u], [(.live false true (flat c32 a0))]⟩ := by
  intro n
  induction n with
  | zero => intro v1 hi hn; exact absurd hn (Nat.not_lt_zero _)
  | succ n ih =>
    intro v1 hi hn
    refine good_round ?_
    cases h0 : (decide ((v1 : Int) < ((a0.length : Nat) : Int))) with
    | true =>
      cases h1 : (!(F102 (a0.getD (Int.toNat v1) default))) with
      | true =>
        have q0 := of_decide_eq_true h0
        have e : S75_L_0 a0 v1 = (.inr 1) := by simp only [S75_L_0, h0, h1, cond_true, cond_false]
        rw [show loopF (S75_L_0 a0) (n + 1) v1 = thenF (S75_L_0 a0) n (S75_L_0 a0 v1) from rfl, e]
        exact ret_of (T := T0) hT hm (f := 5000) (orc := [.d true, .ld (k2 (a0.getD (Int.toNat v1) default)), .call [] (.v (.bool (F102 (a0.getD (Int.toNat v1) default)))) [], .d true]) [] [] [] hcx
          (obs := [.eq (decide ((v1 : Int) < ((a0.length : Nat) : Int))) true, .pr (0 ≤ (v1 : Int) ∧ (v1 : Int) < ((a0.length : Nat) : Int)), .pr (((((flat c32 a0)).drop (0 + Int.toNat v1 * 2)).take 2) = (k2 (a0.getD (Int.toNat v1) default))), .call 102 [(.a (k2 (a0.getD (Int.toNat v1) default)))] [] (.v (.bool (F102 (a0.getD (Int.toNat v1) default)))) [], .eq (!(F102 (a0.getD (Int.toNat v1) default))) true]) (by kernel_rfl) ⟨h0, (show 0 ≤ (v1 : Int) ∧ (v1 : Int) < ((a0.length : Nat) : Int) from by first | omega | (rw [W_eq] <;> omega) | exact u64_nn _), (ld_part c32_len default a0 v1 0 2 (by omega) (by decide) (by omega) rfl), (C102 (a0.getD (Int.toNat v1) default)), h1, trivial⟩
      | false =>
        have q0 := of_decide_eq_true h0
        have e : S75_L_0 a0 v1 = (.inl (v1 + 1)) := by simp only [S75_L_0, h0, h1, cond_true, cond_false]
        rw [loopF_inl e]
        refine back_of (T := T0) hT hm (f := 5000) (orc := [.d true, .ld (k2 (a0.getD (Int.toNat v1) default)), .call [] (.v (.bool (F102 (a0.getD (Int.toNat v1) default)))) [], .d false]) [] [5, 6, 7] [] hcx (body := B75_L_0) (m := n) (k' := K75_L_0) (s' := ⟨[.u, .u, .u, .u, .u, (.s 0 0 a0.length 2), (iv ((a0.length : Nat) : Int)), (iv (W (v1 + 1))), .u, .u, .u, .u, .u, .u, .u], [(.live false true (flat c32 a0))]⟩)
          (obs := [.eq (decide ((v1 : Int) < ((a0.length : Nat) : Int))) true, .pr (0 ≤ (v1 : Int) ∧ (v1 : Int) < ((a0.length : Nat) : Int)), .pr (((((flat c32 a0)).drop (0 + Int.toNat v1 * 2)).take 2) = (k2 (a0.getD (Int.toNat v1) default))), .call 102 [(.a (k2 (a0.getD (Int.toNat v1) default)))] [] (.v (.bool (F102 (a0.getD (Int.toNat v1) default)))) [], .eq (!(F102 (a0.getD (Int.toNat v1) default))) false]) (by kernel_rfl) ⟨h0, (show 0 ≤ (v1 : Int) ∧ (v1 : Int) < ((a0.length : Nat) : Int) from by first | omega | (rw [W_eq] <;> omega) | exact u64_nn _), (ld_part c32_len default a0 v1 0 2 (by omega) (by decide) (by omega) rfl), (C102 (a0.getD (Int.toNat v1) default)), h1, trivial⟩ ?_
        have z0 : (W (v1 + 1)) = (v1 + 1) := W_eq (by omega) (by omega)
        rw [z0]
        exact ih (v1 + 1) (by (try simp only [List.length_append, List.length_cons, List.length_nil, Int.toNat_zero]); omega) (by (try simp only [List.length_append, List.length_cons, List.length_nil, Int.toNat_zero]); omega)
    | false =>
      have q0 := of_decide_eq_false h0
      have e : S75_L_0 a0 v1 = (.inr 0) := by simp only [S75_L_0, h0, cond_true, cond_false]
      rw [show loopF (S75_L_0 a0) (n + 1) v1 = thenF (S75_L_0 a0) n (S75_L_0 a0 v1) from rfl, e]
      exact ret_of (T := T0) hT hm (f := 5000) (orc := [.d false]) [] [] [] hcx
        (obs := [.eq (decide ((v1 : Int) < ((a0.length : Nat) : Int))) false]) (by kernel_rfl) ⟨h0, trivial⟩

/-- facet/span.check at ('L',) -/
def F75_L (a0 : List (Int × Int)) : Int :=
  (loopF (S75_L_0 a0) (Int.toNat (((a0.length : Nat) : Int) - 0) + 1) 0)

theorem C75_L (a0 : List (Int × Int)) (l0 : a0.length ≤ 9223372036854775807) : Con Try.prog 75 [(.s 0 0 a0.length 2)] [(.live false true (flat c32 a0))] (iv (F75_L a0)) [] := by
  have e : (F75_L a0) = (loopF (S75_L_0 a0) (Int.toNat (((a0.length : Nat) : Int) - 0) + 1) 0) := by simp only [F75_L]
  rw [e]
  refine con_of (n := 9) Try.func75 rfl (ent Try.func75 (by kernel_rfl) rfl) (by show 1 ≤ Try.f75.ntmps; decide) (by kernel_rfl) ⟨rfl, trivial⟩ (fun cx hcx => ?_)
  refine enter_of (T := T0) hT hm (f := 5000) (orc := []) [] [5, 6, 7] [] hcx (body := B75_L_0) (k' := K75_L_0) (s' := ⟨[.u, .u, .u, .u, .u, (.s 0 0 a0.length 2), (iv ((a0.length : Nat) : Int)), (iv 0), .u, .u, .u, .u, .u, .u, .u], [(.live false true (flat c32 a0))]⟩)
    (obs := []) (by kernel_rfl) trivial ⟨Int.toNat (((a0.length : Nat) : Int) - 0) + 1, ?_⟩
  exact L75_L_0 a0 l0 hcx (Int.toNat (((a0.length : Nat) : Int) - 0) + 1) 0 (by (try simp only [List.length_append, List.length_cons, List.length_nil, Int.toNat_zero]); omega) (by (try simp only [List.length_append, List.length_cons, List.length_nil, Int.toNat_zero]); omega)

noncomputable def B82_L_0 : Code := (loopAtD [1, 1, 1, 0, 1] [] (Try.f82.body.getD .skip) []).1
noncomputable def K82_L_0 : List K := (loopAtD [1, 1, 1, 0, 1] [] (Try.f82.body.getD .skip) []).2

/-- a round of loop 0 of facet/span.total; the variables: v1 = s2, v2 = s3, v3 = s18 -/
def S82_L_0 (a0 : List (Int × Int)) : Int × Int × Int → (Int × Int × Int) ⊕ (Int × Int × Int)
  | (v1, v2, v3) =>
   (bif (decide ((v3 : Int) < ((a0.length : Nat) : Int))) then
    (.inl ((W (v1 + (a0.getD (Int.toNat v3) default).1)), (W (v2 + (a0.getD (Int.toNat v3) default).2)), (v3 + 1)))
   else
    (.inr (v1, v2, 0)))

set_option maxHeartbeats 4000000 in
theorem L82_L_0 (a0 : List (Int × Int)) (l0 : a0.length ≤ 9223372036854775807) {cx : Cx} (hcx : cx.base = 1) : ∀ (n : Nat) (v1 : Int) (v2 : Int) (v3 : Int), 0 ≤ v3 → Int.toNat (((a0.length : Nat) : Int) - v3) < n → Aw.Good Try.prog none 9 (bodyPost Try.prog Try.f82 (RR cx (.t (k3 (loopF (S82_L_0 a0) n (v1, v2, v3)))) [] [])) cx [] (.l B82_L_0 n :: K82_L_0) ⟨[.u, .u, (iv v1), (iv v2), .u, .u, .u, .u, .u, .u, .u, .u, .u, .u, .u, .u, (.s 0 0 a0.length 2), (iv ((a0.length : Nat) : Int)), (iv v3), .u, .u, .u, .u, .u, .u, .u, .u, .u, .u, .u, .u, .u, .u], [(.live false true (flat c32 a0))]⟩ := by
  intro n
  induction n with
  | zero => intro v1 v2 v3 hi hn; exact absurd hn (Nat.not_lt_zero _)
  | succ n ih =>
    intro v1 v2 v3 hi hn
    refine good_round ?_
    cases h0 : (decide ((v3 : Int) < ((a0.length : Nat) : Int))) with
    | true =>
      have q0 := of_decide_eq_true h0
      have e : S82_L_0 a0 (v1, v2, v3) = (.inl ((W (v1 + (a0.getD (Int.toNat v3) default).1)), (W (v2 + (a0.getD (Int.toNat v3) default).2)), (v3 + 1))) := by simp only [S82_L_0, h0, cond_true, cond_false]
      rw [loopF_inl e]
      refine back_of (T := T0) hT hm (f := 5000) (orc := [.d true, .ld (k2 (a0.getD (Int.toNat v3) default))]) [] [2, 3, 16, 17, 18] [] hcx (body := B82_L_0) (m := n) (k' := K82_L_0) (s' := ⟨[.u, .u, (iv (W (v1 + (a0.getD (Int.toNat v3) default).1))), (iv (W (v2 + (a0.getD (Int.toNat v3) default).2))), .u, .u, .u, .u, .u, .u, .u, .u, .u, .u, .u, .u, (.s 0 0 a0.length 2), (iv ((a0.length : Nat) : Int)), (iv (W (v3 + 1))), .u, .u, .u, .u, .u, .u, .u, .u, .u, .u, .u, .u, .u, .u], [(.live false true (flat c32 a0))]⟩)
        (obs := [.eq (decide ((v3 : Int) < ((a0.length : Nat) : Int))) true, .pr (0 ≤ (v3 : Int) ∧ (v3 : Int) < ((a0.length : Nat) : Int)), .pr (((((flat c32 a0)).drop (0 + Int.toNat v3 * 2)).take 2) = (k2 (a0.getD (Int.toNat v3) default)))]) (by kernel_rfl) ⟨h0, (show 0 ≤ (v3 : Int) ∧ (v3 : Int) < ((a0.length : Nat) : Int) from by first | omega | (rw [W_eq] <;> omega) | exact u64_nn _), (ld_part c32_len default a0 v3 0 2 (by omega) (by decide) (by omega) rfl), trivial⟩ ?_
      have z0 : (W (v3 + 1)) = (v3 + 1) := W_eq (by omega) (by omega)
      rw [z0]
      exact ih (W (v1 + (a0.getD (Int.toNat v3) default).1)) (W (v2 + (a0.getD (Int.toNat v3) default).2)) (v3 + 1) (by (try simp only [List.length_append, List.length_cons, List.length_nil, Int.toNat_zero]); omega) (by (try simp only [List.length_append, List.length_cons, List.length_nil, Int.toNat_zero]); omega)
    | false =>
      have q0 := of_decide_eq_false h0
      have e : S82_L_0 a0 (v1, v2, v3) = (.inr (v1, v2, 0)) := by simp only [S82_L_0, h0, cond_true, cond_false]
      rw [show loopF (S82_L_0 a0) (n + 1) (v1, v2, v3) = thenF (S82_L_0 a0) n (S82_L_0 a0 (v1, v2, v3)) from rfl, e]
      exact ret_of (T := T0) hT hm (f := 5000) (orc := [.d false]) [] [] [] hcx
        (obs := [.eq (decide ((v3 : Int) < ((a0.length : Nat) : Int))) false]) (by kernel_rfl) ⟨h0, trivial⟩

/-- facet/span.total at ('L',) -/
def F82_L (a0 : List (Int × Int)) : Int × Int × Int :=
  (bif (decide ((((a0.length : Nat) : Int) : Int) > 10000)) then
   (0, 0, 4)
  else
   (bif (((F75_L a0) : Int) != 0) then
    (0, 0, (F75_L a0))
   else
    (loopF (S82_L_0 a0) (Int.toNat (((a0.length : Nat) : Int) - 0) + 1) (0, 0, 0))))

theorem C82_L (a0 : List (Int × Int)) (l0 : a0.length ≤ 9223372036854775807) : Con Try.prog 82 [(.s 0 0 a0.length 2)] [(.live false true (flat c32 a0))] (.t (k3 (F82_L a0))) [] := by
  cases h0 : (decide ((((a0.length : Nat) : Int) : Int) > 10000)) with
  | true =>
    have q0 := of_decide_eq_true h0
    have e : (F82_L a0) = (0, 0, 4) := by simp only [F82_L, h0, cond_true, cond_false]
    rw [e]
    refine con_of (n := 9) Try.func82 rfl (ent Try.func82 (by kernel_rfl) rfl) (by show 1 ≤ Try.f82.ntmps; decide) (by kernel_rfl) ⟨rfl, trivial⟩ (fun cx hcx => ?_)
    exact ret_of (T := T0) hT hm (f := 5000) (orc := [.d true]) [] [] [] hcx
      (obs := [.eq (decide ((((a0.length : Nat) : Int) : Int) > 10000)) true]) (by kernel_rfl) ⟨h0, trivial⟩
  | false =>
    cases h1 : (((F75_L a0) : Int) != 0) with
    | true =>
      have q0 := of_decide_eq_false h0
      have q1 := bne_iff_ne.1 h1
      have e : (F82_L a0) = (0, 0, (F75_L a0)) := by simp only [F82_L, h0, h1, cond_true, cond_false]
      rw [e]
      refine con_of (n := 9) Try.func82 rfl (ent Try.func82 (by kernel_rfl) rfl) (by show 1 ≤ Try.f82.ntmps; decide) (by kernel_rfl) ⟨rfl, trivial⟩ (fun cx hcx => ?_)
      exact ret_of (T := T0) hT hm (f := 5000) (orc := [.d false, .call [0] (iv (F75_L a0)) [], .d true]) [] [] [] hcx
        (obs := [.eq (decide ((((a0.length : Nat) : Int) : Int) > 10000)) false, .call 75 [(.s 0 0 a0.length 2)] [(.live false true (flat c32 a0))] (iv (F75_L a0)) [], .eq (((F75_L a0) : Int) != 0) true]) (by kernel_rfl) ⟨h0, (C75_L a0 (by (try simp only [List.length_append, List.length_cons, List.length_nil, Int.toNat_zero]); omega)), h1, trivial⟩
    | false =>
      have q0 := of_decide_eq_false h0
      have q1 := bne_eq_false_iff_eq.1 h1
      have e : (F82_L a0) = (loopF (S82_L_0 a0) (Int.toNat (((a0.length : Nat) : Int) - 0) + 1) (0, 0, 0)) := by simp only [F82_L, h0, h1, cond_true, cond_false]
      rw [e]
      refine con_of (n := 9) Try.func82 rfl (ent Try.func82 (by kernel_rfl) rfl) (by show 1 ≤ Try.f82.ntmps; decide) (by kernel_rfl) ⟨rfl, trivial⟩ (fun cx hcx => ?_)
      refine enter_of (T := T0) hT hm (f := 5000) (orc := [.d false, .call [0] (iv (F75_L a0)) [], .d false]) [] [2, 3, 16, 17, 18] [] hcx (body := B82_L_0) (k' := K82_L_0) (s' := ⟨[.u, .u, (iv 0), (iv 0), .u, .u, .u, .u, .u, .u, .u, .u, .u, .u, .u, .u, (.s 0 0 a0.length 2), (iv ((a0.length : Nat) : Int)), (iv 0), .u, .u, .u, .u, .u, .u, .u, .u, .u, .u, .u, .u, .u, .u], [(.live false true (flat c32 a0))]⟩)
        (obs := [.eq (decide ((((a0.length : Nat) : Int) : Int) > 10000)) false, .call 75 [(.s 0 0 a0.length 2)] [(.live false true (flat c32 a0))] (iv (F75_L a0)) [], .eq (((F75_L a0) : Int) != 0) false]) (by kernel_rfl) ⟨h0, (C75_L a0 (by (try simp only [List.length_append, List.length_cons, List.length_nil, Int.toNat_zero]); omega)), h1, trivial⟩ ⟨Int.toNat (((a0.length : Nat) : Int) - 0) + 1, ?_⟩
      exact L82_L_0 a0 l0 hcx (Int.toNat (((a0.length : Nat) : Int) - 0) + 1) 0 0 0 (by (try simp only [List.length_append, List.length_cons, List.length_nil, Int.toNat_zero]); omega) (by (try simp only [List.length_append, List.length_cons, List.length_nil, Int.toNat_zero]); omega)

/-- facet/span.Sum at ('L',) -/
def F44_L (a0 : List (Int × Int)) : (Int × Int) × Int :=
  (bif (((F82_L a0).2.2 : Int) != 0) then
   ((0, 0), (F82_L a0).2.2)
  else
   ((F78 (F82_L a0).1 (F82_L a0).2.1).1, (F78 (F82_L a0).1 (F82_L a0).2.1).2))

theorem C44_L (a0 : List (Int × Int)) (l0 : a0.length ≤ 9223372036854775807) : Con Try.prog 44 [(.s 0 0 a0.length 2)] [(.live false true (flat c32 a0))] (.t [(.a (k2 (F44_L a0).1)), (iv (F44_L a0).2)]) [] := by
  cases h0 : (((F82_L a0).2.2 : Int) != 0) with
  | true =>
    have q0 := bne_iff_ne.1 h0
    have e : (F44_L a0) = ((0, 0), (F82_L a0).2.2) := by simp only [F44_L, h0, cond_true, cond_false]
    rw [e]
    refine con_of (n := 9) Try.func44 rfl (ent Try.func44 (by kernel_rfl) rfl) (by show 1 ≤ Try.f44.ntmps; decide) (by kernel_rfl) ⟨rfl, trivial⟩ (fun cx hcx => ?_)
    exact ret_of (T := T0) hT hm (f := 5000) (orc := [.call [0] (.t (k3 (F82_L a0))) [], .d true]) [] [] [] hcx
      (obs := [.call 82 [(.s 0 0 a0.length 2)] [(.live false true (flat c32 a0))] (.t (k3 (F82_L a0))) [], .eq (((F82_L a0).2.2 : Int) != 0) true]) (by kernel_rfl) ⟨(C82_L a0 (by (try simp only [List.length_append, List.length_cons, List.length_nil, Int.toNat_zero]); omega)), h0, trivial⟩
  | false =>
    have q0 := bne_eq_false_iff_eq.1 h0
    have e : (F44_L a0) = ((F78 (F82_L a0).1 (F82_L a0).2.1).1, (F78 (F82_L a0).1 (F82_L a0).2.1).2) := by simp only [F44_L, h0, cond_true, cond_false]
    rw [e]
    refine con_of (n := 9) Try.func44 rfl (ent Try.func44 (by kernel_rfl) rfl) (by show 1 ≤ Try.f44.ntmps; decide) (by kernel_rfl) ⟨rfl, trivial⟩ (fun cx hcx => ?_)
    exact ret_of (T := T0) hT hm (f := 5000) (orc := [.call [0] (.t (k3 (F82_L a0))) [], .d false, .call [] (.t [(.a (k2 (F78 (F82_L a0).1 (F82_L a0).2.1).1)), (iv (F78 (F82_L a0).1 (F82_L a0).2.1).2)]) []]) [] [] [] hcx
      (obs := [.call 82 [(.s 0 0 a0.length 2)] [(.live false true (flat c32 a0))] (.t (k3 (F82_L a0))) [], .eq (((F82_L a0).2.2 : Int) != 0) false, .call 78 [(iv (F82_L a0).1), (iv (F82_L a0).2.1)] [] (.t [(.a (k2 (F78 (F82_L a0).1 (F82_L a0).2.1).1)), (iv (F78 (F82_L a0).1 (F82_L a0).2.1).2)]) []]) (by kernel_rfl) ⟨(C82_L a0 (by (try simp only [List.length_append, List.length_cons, List.length_nil, Int.toNat_zero]); omega)), h0, (C78 (F82_L a0).1 (F82_L a0).2.1), trivial⟩

/-- facet/span.Mean at ('L',) -/
def F90_L (a0 : List (Int × Int)) : (Int × Int) × Int :=
  (bif (((F82_L a0).2.2 : Int) != 0) then
   ((0, 0), (F82_L a0).2.2)
  else
   (bif ((((a0.length : Nat) : Int) : Int) == 0) then
    ((0, 0), 1)
   else
    ((F78 (F115 (F82_L a0).1 ((a0.length : Nat) : Int)) (F116 (F82_L a0).2.1 ((a0.length : Nat) : Int))).1, (F78 (F115 (F82_L a0).1 ((a0.length : Nat) : Int)) (F116 (F82_L a0).2.1 ((a0.length : Nat) : Int))).2)))

noncomputable def oC90_L_0 (a0 : List (Int × Int)) : Ob := .call 82 [(.s 0 0 a0.length 2)] [(.live false true (flat c32 a0))] (.t (k3 (F82_L a0))) []
theorem C90_L (a0 : List (Int × Int)) (l0 : a0.length ≤ 9223372036854775807) : Con Try.prog 90 [(.s 0 0 a0.length 2)] [(.live false true (flat c32 a0))] (.t [(.a (k2 (F90_L a0).1)), (iv (F90_L a0).2)]) [] := by
  cases h0 : (((F82_L a0).2.2 : Int) != 0) with
  | true =>
    have q0 := bne_iff_ne.1 h0
    have e : (F90_L a0) = ((0, 0), (F82_L a0).2.2) := by simp only [F90_L, h0, cond_true, cond_false]
    rw [e]
    refine con_of (n := 9) Try.func90 rfl (ent Try.func90 (by kernel_rfl) rfl) (by show 1 ≤ Try.f90.ntmps; decide) (by kernel_rfl) ⟨rfl, trivial⟩ (fun cx hcx => ?_)
    exact ret_of (T := T0) hT hm (f := 5000) (orc := [.call [0] (.t (k3 (F82_L a0))) [], .d true]) [] [] [] hcx
      (obs := [(oC90_L_0 a0), .eq (((F82_L a0).2.2 : Int) != 0) true]) (by kernel_rfl) ⟨(C82_L a0 (by (try simp only [List.length_append, List.length_cons, List.length_nil, Int.toNat_zero]); omega)), h0, trivial⟩
  | false =>
    cases h1 : ((((a0.length : Nat) : Int) : Int) == 0) with
    | true =>
      have q0 := bne_eq_false_iff_eq.1 h0
      have q1 := eq_of_beq h1
      have e : (F90_L a0) = ((0, 0), 1) := by simp only [F90_L, h0, h1, cond_true, cond_false]
      rw [e]
      refine con_of (n := 9) Try.func90 rfl (ent Try.func90 (by kernel_rfl) rfl) (by show 1 ≤ Try.f90.ntmps; decide) (by kernel_rfl) ⟨rfl, trivial⟩ (fun cx hcx => ?_)
      exact ret_of (T := T0) hT hm (f := 5000) (orc := [.call [0] (.t (k3 (F82_L a0))) [], .d false, .d true]) [] [] [] hcx
        (obs := [(oC90_L_0 a0), .eq (((F82_L a0).2.2 : Int) != 0) false, .eq ((((a0.length : Nat) : Int) : Int) == 0) true]) (by kernel_rfl) ⟨(C82_L a0 (by (try simp only [List.length_append, List.length_cons, List.length_nil, Int.toNat_zero]); omega)), h0, h1, trivial⟩
    | false =>
      have q0 := bne_eq_false_iff_eq.1 h0
      have q1 := ne_of_beq_false h1
      have e : (F90_L a0) = ((F78 (F115 (F82_L a0).1 ((a0.length : Nat) : Int)) (F116 (F82_L a0).2.1 ((a0.length : Nat) : Int))).1, (F78 (F115 (F82_L a0).1 ((a0.length : Nat) : Int)) (F116 (F82_L a0).2.1 ((a0.length : Nat) : Int))).2) := by simp only [F90_L, h0, h1, cond_true, cond_false]
      rw [e]
      refine con_of (n := 9) Try.func90 rfl (ent Try.func90 (by kernel_rfl) rfl) (by show 1 ≤ Try.f90.ntmps; decide) (by kernel_rfl) ⟨rfl, trivial⟩ (fun cx hcx => ?_)
      exact ret_of (T := T0) hT hm (f := 5000) (orc := [.call [0] (.t (k3 (F82_L a0))) [], .d false, .d false, .call [] (iv (F115 (F82_L a0).1 ((a0.length : Nat) : Int))) [], .call [] (iv (F116 (F82_L a0).2.1 ((a0.length : Nat) : Int))) [], .call [] (.t [(.a (k2 (F78 (F115 (F82_L a0).1 ((a0.length : Nat) : Int)) (F116 (F82_L a0).2.1 ((a0.length : Nat) : Int))).1)), (iv (F78 (F115 (F82_L a0).1 ((a0.length : Nat) : Int)) (F116 (F82_L a0).2.1 ((a0.length : Nat) : Int))).2)]) []]) [] [] [] hcx
        (obs := [(oC90_L_0 a0), .eq (((F82_L a0).2.2 : Int) != 0) false, .eq ((((a0.length : Nat) : Int) : Int) == 0) false, .call 115 [(iv (F82_L a0).1), (iv ((a0.length : Nat) : Int))] [] (iv (F115 (F82_L a0).1 ((a0.length : Nat) : Int))) [], .call 116 [(iv (F82_L a0).2.1), (iv ((a0.length : Nat) : Int))] [] (iv (F116 (F82_L a0).2.1 ((a0.length : Nat) : Int))) [], .call 78 [(iv (F115 (F82_L a0).1 ((a0.length : Nat) : Int))), (iv (F116 (F82_L a0).2.1 ((a0.length : Nat) : Int)))] [] (.t [(.a (k2 (F78 (F115 (F82_L a0).1 ((a0.length : Nat) : Int)) (F116 (F82_L a0).2.1 ((a0.length : Nat) : Int))).1)), (iv (F78 (F115 (F82_L a0).1 ((a0.length : Nat) : Int)) (F116 (F82_L a0).2.1 ((a0.length : Nat) : Int))).2)]) []]) (by kernel_rfl) ⟨(C82_L a0 (by (try simp only [List.length_append, List.length_cons, List.length_nil, Int.toNat_zero]); omega)), h0, h1, (C115 (F82_L a0).1 ((a0.length : Nat) : Int)  (by (try simp only [List.length_append, List.length_cons, List.length_nil, Int.toNat_zero]); omega)), (C116 (F82_L a0).2.1 ((a0.length : Nat) : Int)  (by (try simp only [List.length_append, List.length_cons, List.length_nil, Int.toNat_zero]); omega)), (C78 (F115 (F82_L a0).1 ((a0.length : Nat) : Int)) (F116 (F82_L a0).2.1 ((a0.length : Nat) : Int))), trivial⟩

/-- facet/span.product -/
def F77 (a0 : Int) (a1 : Int) : Int :=
  (bif ((a0 : Int) != 0) then
   (bif ((a1 : Int) != 0) then
    (bif (decide (((if (a1 : Int) < (W (0 - a1)) then (W (0 - a1)) else a1) : Int) > (W (Int.tdiv 1099511627776 (if (a0 : Int) < (W (0 - a0)) then (W (0 - a0)) else a0))))) then
     (bif (!((decide ((a0 : Int) < 0)) == (decide ((a1 : Int) < 0)))) then
      (-1099511627777)
     else
      1099511627777)
    else
     (W (a0 * a1)))
   else
    (W (a0 * a1)))
  else
   (W (a0 * a1)))

noncomputable def oC77_0 (a0 : Int) (a1 : Int) : Ob := .eq (decide (((if (a1 : Int) < (W (0 - a1)) then (W (0 - a1)) else a1) : Int) > (W (Int.tdiv 1099511627776 (if (a0 : Int) < (W (0 - a0)) then (W (0 - a0)) else a0))))) true
theorem C77 (a0 : Int) (a1 : Int) (ha : -1099511627776 ≤ a0 ∧ a0 ≤ 1099511627776) : Con Try.prog 77 [(iv a0), (iv a1)] [] (iv (F77 a0 a1)) [] := by
  cases h0 : ((a0 : Int) != 0) with
  | true =>
    cases h1 : ((a1 : Int) != 0) with
    | true =>
      cases h2 : (decide (((if (a1 : Int) < (W (0 - a1)) then (W (0 - a1)) else a1) : Int) > (W (Int.tdiv 1099511627776 (if (a0 : Int) < (W (0 - a0)) then (W (0 - a0)) else a0))))) with
      | true =>
        cases h3 : (!((decide ((a0 : Int) < 0)) == (decide ((a1 : Int) < 0)))) with
        | true =>
          have q0 := bne_iff_ne.1 h0
          have q1 := bne_iff_ne.1 h1
          have q2 := of_decide_eq_true h2
          have e : (F77 a0 a1) = (-1099511627777) := by simp only [F77, h0, h1, h2, h3, cond_true, cond_false]
          rw [e]
          refine con_of (n := 9) Try.func77 rfl (ent Try.func77 (by kernel_rfl) rfl) (by show 2 ≤ Try.f77.ntmps; decide) (by kernel_rfl) trivial (fun cx hcx => ?_)
          exact ret_of (T := T0) hT hm (f := 5000) (orc := [.d true, .d true, .d true, .d true]) [] [] [] hcx
            (obs := [.eq ((a0 : Int) != 0) true, .eq ((a1 : Int) != 0) true, .pr (((if (a0 : Int) < (W (0 - a0)) then (W (0 - a0)) else a0) : Int) ≠ 0), (oC77_0 a0 a1), .eq (!((decide ((a0 : Int) < 0)) == (decide ((a1 : Int) < 0)))) true]) (by kernel_rfl) ⟨h0, h1, (show ((if (a0 : Int) < (W (0 - a0)) then (W (0 - a0)) else a0) : Int) ≠ 0 from by (have hw := W_eq (n := 0 - a0) (by omega) (by omega); rw [hw]; split <;> omega)), h2, h3, trivial⟩
        | false =>
          have q0 := bne_iff_ne.1 h0
          have q1 := bne_iff_ne.1 h1
          have q2 := of_decide_eq_true h2
          have e : (F77 a0 a1) = 1099511627777 := by simp only [F77, h0, h1, h2, h3, cond_true, cond_false]
          rw [e]
          refine con_of (n := 9) Try.func77 rfl (ent Try.func77 (by kernel_rfl) rfl) (by show 2 ≤ Try.f77.ntmps; decide) (by kernel_rfl) trivial (fun cx hcx => ?_)
          exact ret_of (T := T0) hT hm (f := 5000) (orc := [.d true, .d true, .d true, .d false]) [] [] [] hcx
            (obs := [.eq ((a0 : Int) != 0) true, .eq ((a1 : Int) != 0) true, .pr (((if (a0 : Int) < (W (0 - a0)) then (W (0 - a0)) else a0) : Int) ≠ 0), (oC77_0 a0 a1), .eq (!((decide ((a0 : Int) < 0)) == (decide ((a1 : Int) < 0)))) false]) (by kernel_rfl) ⟨h0, h1, (show ((if (a0 : Int) < (W (0 - a0)) then (W (0 - a0)) else a0) : Int) ≠ 0 from by (have hw := W_eq (n := 0 - a0) (by omega) (by omega); rw [hw]; split <;> omega)), h2, h3, trivial⟩
      | false =>
        have q0 := bne_iff_ne.1 h0
        have q1 := bne_iff_ne.1 h1
        have q2 := of_decide_eq_false h2
        have e : (F77 a0 a1) = (W (a0 * a1)) := by simp only [F77, h0, h1, h2, cond_true, cond_false]
        rw [e]
        refine con_of (n := 9) Try.func77 rfl (ent Try.func77 (by kernel_rfl) rfl) (by show 2 ≤ Try.f77.ntmps; decide) (by kernel_rfl) trivial (fun cx hcx => ?_)
        exact ret_of (T := T0) hT hm (f := 5000) (orc := [.d true, .d true, .d false]) [] [] [] hcx
          (obs := [.eq ((a0 : Int) != 0) true, .eq ((a1 : Int) != 0) true, .pr (((if (a0 : Int) < (W (0 - a0)) then (W (0 - a0)) else a0) : Int) ≠ 0), .eq (decide (((if (a1 : Int) < (W (0 - a1)) then (W (0 - a1)) else a1) : Int) > (W (Int.tdiv 1099511627776 (if (a0 : Int) < (W (0 - a0)) then (W (0 - a0)) else a0))))) false]) (by kernel_rfl) ⟨h0, h1, (show ((if (a0 : Int) < (W (0 - a0)) then (W (0 - a0)) else a0) : Int) ≠ 0 from by (have hw := W_eq (n := 0 - a0) (by omega) (by omega); rw [hw]; split <;> omega)), h2, trivial⟩
    | false =>
      have q0 := bne_iff_ne.1 h0
      have q1 := bne_eq_false_iff_eq.1 h1
      have e : (F77 a0 a1) = (W (a0 * a1)) := by simp only [F77, h0, h1, cond_true, cond_false]
      rw [e]
      refine con_of (n := 9) Try.func77 rfl (ent Try.func77 (by kernel_rfl) rfl) (by show 2 ≤ Try.f77.ntmps; decide) (by kernel_rfl) trivial (fun cx hcx => ?_)
      exact ret_of (T := T0) hT hm (f := 5000) (orc := [.d true, .d false]) [] [] [] hcx
        (obs := [.eq ((a0 : Int) != 0) true, .eq ((a1 : Int) != 0) false]) (by kernel_rfl) ⟨h0, h1, trivial⟩
  | false =>
    have q0 := bne_eq_false_iff_eq.1 h0
    have e : (F77 a0 a1) = (W (a0 * a1)) := by simp only [F77, h0, cond_true, cond_false]
    rw [e]
    refine con_of (n := 9) Try.func77 rfl (ent Try.func77 (by kernel_rfl) rfl) (by show 2 ≤ Try.f77.ntmps; decide) (by kernel_rfl) trivial (fun cx hcx => ?_)
    exact ret_of (T := T0) hT hm (f := 5000) (orc := [.d false]) [] [] [] hcx
      (obs := [.eq ((a0 : Int) != 0) false]) (by kernel_rfl) ⟨h0, trivial⟩

/-- api.Charged, as cells -/
def c76 (x : ((Int × Int × Int) × (Int × Int × Int) × Int × Int × Int) × Int) : List SV := [(iv x.1.1.1), (iv x.1.1.2.1), (iv x.1.1.2.2), (iv x.1.2.1.1), (iv x.1.2.1.2.1), (iv x.1.2.1.2.2), (iv x.1.2.2.1), (iv x.1.2.2.2.1), (iv x.1.2.2.2.2), (iv x.2)]
theorem c76_len (x : ((Int × Int × Int) × (Int × Int × Int) × Int × Int × Int) × Int) : (c76 x).length = 10 := rfl

noncomputable def B41_L_0 : Code := (loopAtD [1, 1, 0, 1] [] (Try.f41.body.getD .skip) []).1
noncomputable def K41_L_0 : List K := (loopAtD [1, 1, 0, 1] [] (Try.f41.body.getD .skip) []).2

/-- a round of loop 0 of facet/field.ValidateCharged; the variables: v1 = s11 -/
def S41_L_0 (a0 : List (((Int × Int × Int) × (Int × Int × Int) × Int × Int × Int) × Int)) : Int → (Int) ⊕ (Int)
  | v1 =>
   (bif (decide ((v1 : Int) < ((a0.length : Nat) : Int))) then
    (bif (((F66 (a0.getD (Int.toNat v1) default).1) : Int) != 0) then
     (.inr (F66 (a0.getD (Int.toNat v1) default).1))
    else
     (bif (!(F43 (a0.getD (Int.toNat v1) default).2 (-100) 100)) then
      (.inr 1)
     else
      (.inl (v1 + 1))))
   else
    (.inr 0))

set_option maxHeartbeats 4000000 in
theorem L41_L_0 (a0 : List (((Int × Int × Int) × (Int × Int × Int) × Int × Int × Int) × Int)) (l0 : a0.length ≤ 9223372036854775807) {cx : Cx} (hcx : cx.base = 1) : ∀ (n : Nat) (v1 : Int), 0 ≤ v1 → Int.toNat (((a0.length : Nat) : Int) - v1) < n → Aw.Good Try.prog none 9 (bodyPost Try.prog Try.f41 (RR cx (iv (loopF (S41_L_0 a0) n v1)) [] [])) cx [] (.l B41_L_0 n :: K41_L_0) ⟨[.u, .u, .u, .u, .u, .u, .u, .u, .u, (.s 0 0 a0.length 10), (iv ((a0.length : Nat) : Int)), (iv v1), .u, .u, .u, .u, .u, .u, .u, .u, .u, .u, .u, .u, .u, .u], [(.live false true (flat c76 a0))]⟩ := by
  intro n
  induction n with
  | zero => intro v1 hi hn; exact absurd hn (Nat.not_lt_zero _)
  | succ n ih =>
    intro v1 hi hn
    refine good_round ?_
    cases h0 : (decide ((v1 : Int) < ((a0.length : Nat) : Int))) with
    | true =>
      cases h1 : (((F66 (a0.getD (Int.toNat v1) default).1) : Int) != 0) with
      | true =>
        have q0 := of_decide_eq_true h0
        have q1 := bne_iff_ne.1 h1
        have e : S41_L_0 a0 v1 = (.inr (F66 (a0.getD (Int.toNat v1) default).1)) := by simp only [S41_L_0, h0, h1, cond_true, cond_false]
        rw [show loopF (S41_L_0 a0) (n + 1) v1 = thenF (S41_L_0 a0) n (S41_L_0 a0 v1) from rfl, e]
        exact ret_of (T := T0) hT hm (f := 5000) (orc := [.d true, .ld [(iv (a0.getD (Int.toNat v1) default).1.1.1), (iv (a0.getD (Int.toNat v1) default).1.1.2.1), (iv (a0.getD (Int.toNat v1) default).1.1.2.2), (iv (a0.getD (Int.toNat v1) default).1.2.1.1), (iv (a0.getD (Int.toNat v1) default).1.2.1.2.1), (iv (a0.getD (Int.toNat v1) default).1.2.1.2.2), (iv (a0.getD (Int.toNat v1) default).1.2.2.1), (iv (a0.getD (Int.toNat v1) default).1.2.2.2.1), (iv (a0.getD (Int.toNat v1) default).1.2.2.2.2), (iv (a0.getD (Int.toNat v1) default).2)], .call [] (iv (F66 (a0.getD (Int.toNat v1) default).1)) [], .d true]) [] [] [] hcx
          (obs := [.eq (decide ((v1 : Int) < ((a0.length : Nat) : Int))) true, .pr (0 ≤ (v1 : Int) ∧ (v1 : Int) < ((a0.length : Nat) : Int)), .pr (((((flat c76 a0)).drop (0 + Int.toNat v1 * 10)).take 10) = [(iv (a0.getD (Int.toNat v1) default).1.1.1), (iv (a0.getD (Int.toNat v1) default).1.1.2.1), (iv (a0.getD (Int.toNat v1) default).1.1.2.2), (iv (a0.getD (Int.toNat v1) default).1.2.1.1), (iv (a0.getD (Int.toNat v1) default).1.2.1.2.1), (iv (a0.getD (Int.toNat v1) default).1.2.1.2.2), (iv (a0.getD (Int.toNat v1) default).1.2.2.1), (iv (a0.getD (Int.toNat v1) default).1.2.2.2.1), (iv (a0.getD (Int.toNat v1) default).1.2.2.2.2), (iv (a0.getD (Int.toNat v1) default).2)]), .call 66 [(.a (k9 (a0.getD (Int.toNat v1) default).1))] [] (iv (F66 (a0.getD (Int.toNat v1) default).1)) [], .eq (((F66 (a0.getD (Int.toNat v1) default).1) : Int) != 0) true]) (by kernel_rfl) ⟨h0, (show 0 ≤ (v1 : Int) ∧ (v1 : Int) < ((a0.length : Nat) : Int) from by first | omega | (rw [W_eq] <;> omega) | exact u64_nn _), (ld_part c76_len default a0 v1 0 10 (by omega) (by decide) (by omega) rfl), (C66 (a0.getD (Int.toNat v1) default).1), h1, trivial⟩
      | false =>
        cases h2 : (!(F43 (a0.getD (Int.toNat v1) default).2 (-100) 100)) with
        | true =>
          have q0 := of_decide_eq_true h0
          have q1 := bne_eq_false_iff_eq.1 h1
          have e : S41_L_0 a0 v1 = (.inr 1) := by simp only [S41_L_0, h0, h1, h2, cond_true, cond_false]
          rw [show loopF (S41_L_0 a0) (n + 1) v1 = thenF (S41_L_0 a0) n (S41_L_0 a0 v1) from rfl, e]
          exact ret_of (T := T0) hT hm (f := 5000) (orc := [.d true, .ld [(iv (a0.getD (Int.toNat v1) default).1.1.1), (iv (a0.getD (Int.toNat v1) default).1.1.2.1), (iv (a0.getD (Int.toNat v1) default).1.1.2.2), (iv (a0.getD (Int.toNat v1) default).1.2.1.1), (iv (a0.getD (Int.toNat v1) default).1.2.1.2.1), (iv (a0.getD (Int.toNat v1) default).1.2.1.2.2), (iv (a0.getD (Int.toNat v1) default).1.2.2.1), (iv (a0.getD (Int.toNat v1) default).1.2.2.2.1), (iv (a0.getD (Int.toNat v1) default).1.2.2.2.2), (iv (a0.getD (Int.toNat v1) default).2)], .call [] (iv (F66 (a0.getD (Int.toNat v1) default).1)) [], .d false, .call [] (.v (.bool (F43 (a0.getD (Int.toNat v1) default).2 (-100) 100))) [], .d true]) [] [] [] hcx
            (obs := [.eq (decide ((v1 : Int) < ((a0.length : Nat) : Int))) true, .pr (0 ≤ (v1 : Int) ∧ (v1 : Int) < ((a0.length : Nat) : Int)), .pr (((((flat c76 a0)).drop (0 + Int.toNat v1 * 10)).take 10) = [(iv (a0.getD (Int.toNat v1) default).1.1.1), (iv (a0.getD (Int.toNat v1) default).1.1.2.1), (iv (a0.getD (Int.toNat v1) default).1.1.2.2), (iv (a0.getD (Int.toNat v1) default).1.2.1.1), (iv (a0.getD (Int.toNat v1) default).1.2.1.2.1), (iv (a0.getD (Int.toNat v1) default).1.2.1.2.2), (iv (a0.getD (Int.toNat v1) default).1.2.2.1), (iv (a0.getD (Int.toNat v1) default).1.2.2.2.1), (iv (a0.getD (Int.toNat v1) default).1.2.2.2.2), (iv (a0.getD (Int.toNat v1) default).2)]), .call 66 [(.a (k9 (a0.getD (Int.toNat v1) default).1))] [] (iv (F66 (a0.getD (Int.toNat v1) default).1)) [], .eq (((F66 (a0.getD (Int.toNat v1) default).1) : Int) != 0) false, .call 43 [(iv (a0.getD (Int.toNat v1) default).2), (iv (-100)), (iv 100)] [] (.v (.bool (F43 (a0.getD (Int.toNat v1) default).2 (-100) 100))) [], .eq (!(F43 (a0.getD (Int.toNat v1) default).2 (-100) 100)) true]) (by kernel_rfl) ⟨h0, (show 0 ≤ (v1 : Int) ∧ (v1 : Int) < ((a0.length : Nat) : Int) from by first | omega | (rw [W_eq] <;> omega) | exact u64_nn _), (ld_part c76_len default a0 v1 0 10 (by omega) (by decide) (by omega) rfl), (C66 (a0.getD (Int.toNat v1) default).1), h1, (C43 (a0.getD (Int.toNat v1) default).2 (-100) 100), h2, trivial⟩
        | false =>
          have q0 := of_decide_eq_true h0
          have q1 := bne_eq_false_iff_eq.1 h1
          have e : S41_L_0 a0 v1 = (.inl (v1 + 1)) := by simp only [S41_L_0, h0, h1, h2, cond_true, cond_false]
          rw [loopF_inl e]
          refine back_of (T := T0) hT hm (f := 5000) (orc := [.d true, .ld [(iv (a0.getD (Int.toNat v1) default).1.1.1), (iv (a0.getD (Int.toNat v1) default).1.1.2.1), (iv (a0.getD (Int.toNat v1) default).1.1.2.2), (iv (a0.getD (Int.toNat v1) default).1.2.1.1), (iv (a0.getD (Int.toNat v1) default).1.2.1.2.1), (iv (a0.getD (Int.toNat v1) default).1.2.1.2.2), (iv (a0.getD (Int.toNat v1) default).1.2.2.1), (iv (a0.getD (Int.toNat v1) default).1.2.2.2.1), (iv (a0.getD (Int.toNat v1) default).1.2.2.2.2), (iv (a0.getD (Int.toNat v1) default).2)], .call [] (iv (F66 (a0.getD (Int.toNat v1) default).1)) [], .d false, .call [] (.v (.bool (F43 (a0.getD (Int.toNat v1) default).2 (-100) 100))) [], .d false]) [] [9, 10, 11] [] hcx (body := B41_L_0) (m := n) (k' := K41_L_0) (s' := ⟨[.u, .u, .u, .u, .u, .u, .u, .u, .u, (.s 0 0 a0.length 10), (iv ((a0.length : Nat) : Int)), (iv (W (v1 + 1))), .u, .u, .u, .u, .u, .u, .u, .u, .u, .u, .u, .u, .u, .u], [(.live false true (flat c76 a0))]⟩)
            (obs := [.eq (decide ((v1 : Int) < ((a0.length : Nat) : Int))) true, .pr (0 ≤ (v1 : Int) ∧ (v1 : Int) < ((a0.length : Nat) : Int)), .pr (((((flat c76 a0)).drop (0 + Int.toNat v1 * 10)).take 10) = [(iv (a0.getD (Int.toNat v1) default).1.1.1), (iv (a0.getD (Int.toNat v1) default).1.1.2.1), (iv (a0.getD (Int.toNat v1) default).1.1.2.2), (iv (a0.getD (Int.toNat v1) default).1.2.1.1), (iv (a0.getD (Int.toNat v1) default).1.2.1.2.1), (iv (a0.getD (Int.toNat v1) default).1.2.1.2.2), (iv (a0.getD (Int.toNat v1) default).1.2.2.1), (iv (a0.getD (Int.toNat v1) default).1.2.2.2.1), (iv (a0.getD (Int.toNat v1) default).1.2.2.2.2), (iv (a0.getD (Int.toNat v1) default).2)]), .call 66 [(.a (k9 (a0.getD (Int.toNat v1) default).1))] [] (iv (F66 (a0.getD (Int.toNat v1) default).1)) [], .eq (((F66 (a0.getD (Int.toNat v1) default).1) : Int) != 0) false, .call 43 [(iv (a0.getD (Int.toNat v1) default).2), (iv (-100)), (iv 100)] [] (.v (.bool (F43 (a0.getD (Int.toNat v1) default).2 (-100) 100))) [], .eq (!(F43 (a0.getD (Int.toNat v1) default).2 (-100) 100)) false]) (by kernel_rfl) ⟨h0, (show 0 ≤ (v1 : Int) ∧ (v1 : Int) < ((a0.length : Nat) : Int) from by first | omega | (rw [W_eq] <;> omega) | exact u64_nn _), (ld_part c76_len default a0 v1 0 10 (by omega) (by decide) (by omega) rfl), (C66 (a0.getD (Int.toNat v1) default).1), h1, (C43 (a0.getD (Int.toNat v1) default).2 (-100) 100), h2, trivial⟩ ?_
          have z0 : (W (v1 + 1)) = (v1 + 1) := W_eq (by omega) (by omega)
          rw [z0]
          exact ih (v1 + 1) (by (try simp only [List.length_append, List.length_cons, List.length_nil, Int.toNat_zero]); omega) (by (try simp only [List.length_append, List.length_cons, List.length_nil, Int.toNat_zero]); omega)
    | false =>
      have q0 := of_decide_eq_false h0
      have e : S41_L_0 a0 v1 = (.inr 0) := by simp only [S41_L_0, h0, cond_true, cond_false]
      rw [show loopF (S41_L_0 a0) (n + 1) v1 = thenF (S41_L_0 a0) n (S41_L_0 a0 v1) from rfl, e]
      exact ret_of (T := T0) hT hm (f := 5000) (orc := [.d false]) [] [] [] hcx
        (obs := [.eq (decide ((v1 : Int) < ((a0.length : Nat) : Int))) false]) (by kernel_rfl) ⟨h0, trivial⟩

/-- facet/field.ValidateCharged at ('L',) -/
def F41_L (a0 : List (((Int × Int × Int) × (Int × Int × Int) × Int × Int × Int) × Int)) : Int :=
  (bif (decide ((((a0.length : Nat) : Int) : Int) > 96)) then
   4
  else
   (loopF (S41_L_0 a0) (Int.toNat (((a0.length : Nat) : Int) - 0) + 1) 0))

theorem C41_L (a0 : List (((Int × Int × Int) × (Int × Int × Int) × Int × Int × Int) × Int)) (l0 : a0.length ≤ 9223372036854775807) : Con Try.prog 41 [(.s 0 0 a0.length 10)] [(.live false true (flat c76 a0))] (iv (F41_L a0)) [] := by
  cases h0 : (decide ((((a0.length : Nat) : Int) : Int) > 96)) with
  | true =>
    have q0 := of_decide_eq_true h0
    have e : (F41_L a0) = 4 := by simp only [F41_L, h0, cond_true, cond_false]
    rw [e]
    refine con_of (n := 9) Try.func41 rfl (ent Try.func41 (by kernel_rfl) rfl) (by show 1 ≤ Try.f41.ntmps; decide) (by kernel_rfl) ⟨rfl, trivial⟩ (fun cx hcx => ?_)
    exact ret_of (T := T0) hT hm (f := 5000) (orc := [.d true]) [] [] [] hcx
      (obs := [.eq (decide ((((a0.length : Nat) : Int) : Int) > 96)) true]) (by kernel_rfl) ⟨h0, trivial⟩
  | false =>
    have q0 := of_decide_eq_false h0
    have e : (F41_L a0) = (loopF (S41_L_0 a0) (Int.toNat (((a0.length : Nat) : Int) - 0) + 1) 0) := by simp only [F41_L, h0, cond_true, cond_false]
    rw [e]
    refine con_of (n := 9) Try.func41 rfl (ent Try.func41 (by kernel_rfl) rfl) (by show 1 ≤ Try.f41.ntmps; decide) (by kernel_rfl) ⟨rfl, trivial⟩ (fun cx hcx => ?_)
    refine enter_of (T := T0) hT hm (f := 5000) (orc := [.d false]) [] [9, 10, 11] [] hcx (body := B41_L_0) (k' := K41_L_0) (s' := ⟨[.u, .u, .u, .u, .u, .u, .u, .u, .u, (.s 0 0 a0.length 10), (iv ((a0.length : Nat) : Int)), (iv 0), .u, .u, .u, .u, .u, .u, .u, .u, .u, .u, .u, .u, .u, .u], [(.live false true (flat c76 a0))]⟩)
      (obs := [.eq (decide ((((a0.length : Nat) : Int) : Int) > 96)) false]) (by kernel_rfl) ⟨h0, trivial⟩ ⟨Int.toNat (((a0.length : Nat) : Int) - 0) + 1, ?_⟩
    exact L41_L_0 a0 l0 hcx (Int.toNat (((a0.length : Nat) : Int) - 0) + 1) 0 (by (try simp only [List.length_append, List.length_cons, List.length_nil, Int.toNat_zero]); omega) (by (try simp only [List.length_append, List.length_cons, List.length_nil, Int.toNat_zero]); omega)

end Go.Proofs.Ytopbnnmkdildgaa

namespace Go.Proofs.Ytopbnnmkdildgaa
open Go.Proofs Go.Aw Go.RowKit
set_option maxRecDepth 100000
set_option linter.unusedVariables false
set_option linter.unusedSimpArgs false

/-- facet/facetref01.within -/
def F125 (a0 : Int) (a1 : Int) (a2 : Int) : Bool :=
  (bif (decide ((a0 : Int) ≥ a1)) then
   (decide ((a0 : Int) ≤ a2))
  else
   false)

theorem C125 (a0 : Int) (a1 : Int) (a2 : Int) : Con Try.prog 125 [(iv a0), (iv a1), (iv a2)] [] (.v (.bool (F125 a0 a1 a2))) [] := by
  cases h0 : (decide ((a0 : Int) ≥ a1)) with
  | true =>
    have q0 := of_decide_eq_true h0
    have e : (F125 a0 a1 a2) = (decide ((a0 : Int) ≤ a2)) := by simp only [F125, h0, cond_true, cond_false]
    rw [e]
    refine con_of (n := 9) Try.func125 rfl (ent Try.func125 (by kernel_rfl) rfl) (by show 3 ≤ Try.f125.ntmps; decide) (by kernel_rfl) trivial (fun cx hcx => ?_)
    exact ret_of (T := T0) hT hm (f := 5000) (orc := [.d true]) [] [] [] hcx
      (obs := [.eq (decide ((a0 : Int) ≥ a1)) true]) (by kernel_rfl) ⟨h0, trivial⟩
  | false =>
    have q0 := of_decide_eq_false h0
    have e : (F125 a0 a1 a2) = false := by simp only [F125, h0, cond_true, cond_false]
    rw [e]
    refine con_of (n := 9) Try.func125 rfl (ent Try.func125 (by kernel_rfl) rfl) (by show 3 ≤ Try.f125.ntmps; decide) (by kernel_rfl) trivial (fun cx hcx => ?_)
    exact ret_of (T := T0) hT hm (f := 5000) (orc := [.d false]) [] [] [] hcx
      (obs := [.eq (decide ((a0 : Int) ≥ a1)) false]) (by kernel_rfl) ⟨h0, trivial⟩

/-- facet/facetref01.Valid -/
def F124 (a0 : Int × Int) : Bool :=
  (bif (decide ((a0.1 : Int) ≥ (-1099511627776))) then
   (bif (decide ((a0.1 : Int) ≤ a0.2)) then
    (decide ((a0.2 : Int) ≤ 1099511627776))
   else
    false)
  else
   false)

theorem C124 (a0 : Int × Int) : Con Try.prog 124 [(.a [(iv a0.1), (iv a0.2)])] [] (.v (.bool (F124 a0))) [] := by
  cases h0 : (decide ((a0.1 : Int) ≥ (-1099511627776))) with
  | true =>
    cases h1 : (decide ((a0.1 : Int) ≤ a0.2)) with
    | true =>
      have q0 := of_decide_eq_true h0
      have q1 := of_decide_eq_true h1
      have e : (F124 a0) = (decide ((a0.2 : Int) ≤ 1099511627776)) := by simp only [F124, h0, h1, cond_true, cond_false]
      rw [e]
      refine con_of (n := 9) Try.func124 rfl (ent Try.func124 (by kernel_rfl) rfl) (by show 1 ≤ Try.f124.ntmps; decide) (by kernel_rfl) trivial (fun cx hcx => ?_)
      exact ret_of (T := T0) hT hm (f := 5000) (orc := [.d true, .d true]) [] [] [] hcx
        (obs := [.eq (decide ((a0.1 : Int) ≥ (-1099511627776))) true, .eq (decide ((a0.1 : Int) ≤ a0.2)) true]) (by kernel_rfl) ⟨h0, h1, trivial⟩
    | false =>
      have q0 := of_decide_eq_true h0
      have q1 := of_decide_eq_false h1
      have e : (F124 a0) = false := by simp only [F124, h0, h1, cond_true, cond_false]
      rw [e]
      refine con_of (n := 9) Try.func124 rfl (ent Try.func124 (by kernel_rfl) rfl) (by show 1 ≤ Try.f124.ntmps; decide) (by kernel_rfl) trivial (fun cx hcx => ?_)
      exact ret_of (T := T0) hT hm (f := 5000) (orc := [.d true, .d false]) [] [] [] hcx
        (obs := [.eq (decide ((a0.1 : Int) ≥ (-1099511627776))) true, .eq (decide ((a0.1 : Int) ≤ a0.2)) false]) (by kernel_rfl) ⟨h0, h1, trivial⟩
  | false =>
    have q0 := of_decide_eq_false h0
    have e : (F124 a0) = false := by simp only [F124, h0, cond_true, cond_false]
    rw [e]
    refine con_of (n := 9) Try.func124 rfl (ent Try.func124 (by kernel_rfl) rfl) (by show 1 ≤ Try.f124.ntmps; decide) (by kernel_rfl) trivial (fun cx hcx => ?_)
    exact ret_of (T := T0) hT hm (f := 5000) (orc := [.d false]) [] [] [] hcx
      (obs := [.eq (decide ((a0.1 : Int) ≥ (-1099511627776))) false]) (by kernel_rfl) ⟨h0, trivial⟩

theorem win_ne {a b c : Int} (h : (!(F125 a b c)) = false) (hb : 1 ≤ b := by omega) : a ≠ 0 := by
  unfold F125 at h
  cases h1 : decide ((a : Int) ≥ b) with
  | true => have := of_decide_eq_true h1; omega
  | false => simp [h1] at h
theorem cube_ne {n : Int} (h1 : 1 ≤ n) (h2 : n ≤ 1048576) : W ((W (n * n)) * n) ≠ 0 := by
  have a1 : 1 * 1 ≤ n * n := Int.mul_le_mul h1 h1 (by omega) (by omega)
  have a2 : n * n ≤ 1048576 * 1048576 := Int.mul_le_mul h2 h2 (by omega) (by omega)
  have b1 : 1 * 1 ≤ n * n * n := Int.mul_le_mul (by omega) h1 (by omega) (by omega)
  have b2 : n * n * n ≤ 1048576 * 1048576 * 1048576 := Int.mul_le_mul a2 h2 (by omega) (by omega)
  rw [W_eq (n := n * n) (by omega) (by omega), W_eq (by omega) (by omega)]
  omega
theorem win_ge {a b c : Int} (h : (!(F125 a b c)) = false) : b ≤ a := by
  unfold F125 at h
  cases h1 : decide ((a : Int) ≥ b) with
  | true => have := of_decide_eq_true h1; omega
  | false => simp [h1] at h
noncomputable def B159_0 : Code := (loopAtD [1, 1, 0] [] (Try.f159.body.getD .skip) []).1
noncomputable def K159_0 : List K := (loopAtD [1, 1, 0] [] (Try.f159.body.getD .skip) []).2

/-- a round of loop 0 of facet/facetref01.floor; the variables: v2 = s3, v3 = s4 -/
def S159_0 (a0 : Int) : Int × Int → (Int × Int) ⊕ (Int)
  | (v2, v3) =>
   (bif (decide ((v2 : Int) < v3)) then
    (bif (decide (((W ((W (Int.tdiv (W ((W (v2 + v3)) + 1)) 2)) * (W (Int.tdiv (W ((W (v2 + v3)) + 1)) 2)))) : Int) ≤ a0)) then
     (.inl ((W (Int.tdiv (W ((W (v2 + v3)) + 1)) 2)), v3))
    else
     (.inl (v2, (W ((W (Int.tdiv (W ((W (v2 + v3)) + 1)) 2)) - 1)))))
   else
    (.inr v2))

set_option maxHeartbeats 4000000 in
theorem L159_0 (a0 : Int) {cx : Cx} (hcx : cx.base = 0) : ∀ (n : Nat) (v2 : Int) (v3 : Int), (0 ≤ v2) ∧ (0 ≤ v2) ∧ (v2 ≤ v3) ∧ (v3 ≤ 2147483648) → Int.toNat (v3 - v2) < n → Aw.Good Try.prog none 9 (bodyPost Try.prog Try.f159 (RR cx (iv (loopF (S159_0 a0) n (v2, v3))) [] [])) cx [] (.l B159_0 n :: K159_0) ⟨[(iv a0), .u, .u, (iv v2), (iv v3), .u, .u, .u, .u, .u, .u, .u, .u, .u, .u, .u, .u, .u, .u, .u, .u, .u, .u], []⟩ := by
  intro n
  induction n with
  | zero => intro v2 v3 hi hn; exact absurd hn (Nat.not_lt_zero _)
  | succ n ih =>
    intro v2 v3 hi hn
    refine good_round ?_
    cases h0 : (decide ((v2 : Int) < v3)) with
    | true =>
      cases h1 : (decide (((W ((W (Int.tdiv (W ((W (v2 + v3)) + 1)) 2)) * (W (Int.tdiv (W ((W (v2 + v3)) + 1)) 2)))) : Int) ≤ a0)) with
      | true =>
        have q0 := of_decide_eq_true h0
        have q1 := of_decide_eq_true h1
        have hw := mid1_eq (a := v2) (b := v3) (by omega)
        have hw2 := mid2_eq (a := v2) (b := v3) (by omega)
        have e : S159_0 a0 (v2, v3) = (.inl ((W (Int.tdiv (W ((W (v2 + v3)) + 1)) 2)), v3)) := by simp only [S159_0, h0, h1, cond_true, cond_false]
        rw [loopF_inl e]
        refine back_of (T := T0) hT hm (f := 5000) (orc := [.d true, .d true]) [] [0, 3, 4] [] hcx (body := B159_0) (m := n) (k' := K159_0) (s' := ⟨[(iv a0), .u, .u, (iv (W (Int.tdiv (W ((W (v2 + v3)) + 1)) 2))), (iv v3), .u, .u, .u, .u, .u, .u, .u, .u, .u, .u, .u, .u, .u, .u, .u, .u, .u, .u], []⟩)
          (obs := [.eq (decide ((v2 : Int) < v3)) true, .pr ((2 : Int) ≠ 0), .eq (decide (((W ((W (Int.tdiv (W ((W (v2 + v3)) + 1)) 2)) * (W (Int.tdiv (W ((W (v2 + v3)) + 1)) 2)))) : Int) ≤ a0)) true]) (by kernel_rfl) ⟨h0, (show (2 : Int) ≠ 0 from by decide), h1, trivial⟩ ?_
        exact ih (W (Int.tdiv (W ((W (v2 + v3)) + 1)) 2)) v3 (by refine ⟨?_, ?_, ?_, ?_⟩ <;> (try simp only [List.length_append, List.length_cons, List.length_nil, Int.toNat_zero]) <;> first | omega | simp) (by (try simp only [List.length_append, List.length_cons, List.length_nil, Int.toNat_zero]); omega)
      | false =>
        have q0 := of_decide_eq_true h0
        have q1 := of_decide_eq_false h1
        have hw := mid1_eq (a := v2) (b := v3) (by omega)
        have hw2 := mid2_eq (a := v2) (b := v3) (by omega)
        have e : S159_0 a0 (v2, v3) = (.inl (v2, (W ((W (Int.tdiv (W ((W (v2 + v3)) + 1)) 2)) - 1)))) := by simp only [S159_0, h0, h1, cond_true, cond_false]
        rw [loopF_inl e]
        refine back_of (T := T0) hT hm (f := 5000) (orc := [.d true, .d false]) [] [0, 3, 4] [] hcx (body := B159_0) (m := n) (k' := K159_0) (s' := ⟨[(iv a0), .u, .u, (iv v2), (iv (W ((W (Int.tdiv (W ((W (v2 + v3)) + 1)) 2)) - 1))), .u, .u, .u, .u, .u, .u, .u, .u, .u, .u, .u, .u, .u, .u, .u, .u, .u, .u], []⟩)
          (obs := [.eq (decide ((v2 : Int) < v3)) true, .pr ((2 : Int) ≠ 0), .eq (decide (((W ((W (Int.tdiv (W ((W (v2 + v3)) + 1)) 2)) * (W (Int.tdiv (W ((W (v2 + v3)) + 1)) 2)))) : Int) ≤ a0)) false]) (by kernel_rfl) ⟨h0, (show (2 : Int) ≠ 0 from by decide), h1, trivial⟩ ?_
        exact ih v2 (W ((W (Int.tdiv (W ((W (v2 + v3)) + 1)) 2)) - 1)) (by refine ⟨?_, ?_, ?_, ?_⟩ <;> (try simp only [List.length_append, List.length_cons, List.length_nil, Int.toNat_zero]) <;> first | omega | simp) (by (try simp only [List.length_append, List.length_cons, List.length_nil, Int.toNat_zero]); omega)
    | false =>
      have q0 := of_decide_eq_false h0
      have hw := mid1_eq (a := v2) (b := v3) (by omega)
      have hw2 := mid2_eq (a := v2) (b := v3) (by omega)
      have e : S159_0 a0 (v2, v3) = (.inr v2) := by simp only [S159_0, h0, cond_true, cond_false]
      rw [show loopF (S159_0 a0) (n + 1) (v2, v3) = thenF (S159_0 a0) n (S159_0 a0 (v2, v3)) from rfl, e]
      exact ret_of (T := T0) hT hm (f := 5000) (orc := [.d false]) [] [] [] hcx
        (obs := [.eq (decide ((v2 : Int) < v3)) false]) (by kernel_rfl) ⟨h0, trivial⟩

/-- facet/facetref01.floor -/
def F159 (a0 : Int) : Int :=
  (loopF (S159_0 a0) (Int.toNat (2147483648 - 0) + 1) (0, 2147483648))

theorem C159 (a0 : Int) : Con Try.prog 159 [(iv a0)] [] (iv (F159 a0)) [] := by
  have e : (F159 a0) = (loopF (S159_0 a0) (Int.toNat (2147483648 - 0) + 1) (0, 2147483648)) := by simp only [F159]
  rw [e]
  refine con_of (n := 9) Try.func159 rfl (ent Try.func159 (by kernel_rfl) rfl) (by show 1 ≤ Try.f159.ntmps; decide) (by kernel_rfl) trivial (fun cx hcx => ?_)
  refine enter_of (T := T0) hT hm (f := 5000) (orc := []) [] [0, 3, 4] [] hcx (body := B159_0) (k' := K159_0) (s' := ⟨[(iv a0), .u, .u, (iv 0), (iv 2147483648), .u, .u, .u, .u, .u, .u, .u, .u, .u, .u, .u, .u, .u, .u, .u, .u, .u, .u], []⟩)
    (obs := []) (by kernel_rfl) trivial ⟨Int.toNat (2147483648 - 0) + 1, ?_⟩
  exact L159_0 a0 hcx (Int.toNat (2147483648 - 0) + 1) 0 2147483648 (by refine ⟨?_, ?_, ?_, ?_⟩ <;> (try simp only [List.length_append, List.length_cons, List.length_nil, Int.toNat_zero]) <;> first | omega | simp) (by (try simp only [List.length_append, List.length_cons, List.length_nil, Int.toNat_zero]); omega)

/-- facet/facetref01.told -/
def F121 (a0 : Int) (a1 : Int) : (Int × Int) × Int :=
  (bif (!(F124 (a0, a1))) then
   ((0, 0), 4)
  else
   ((a0, a1), 0))

theorem C121 (a0 : Int) (a1 : Int) : Con Try.prog 121 [(iv a0), (iv a1)] [] (.t [(.a (k2 (F121 a0 a1).1)), (iv (F121 a0 a1).2)]) [] := by
  cases h0 : (!(F124 (a0, a1))) with
  | true =>
    have e : (F121 a0 a1) = ((0, 0), 4) := by simp only [F121, h0, cond_true, cond_false]
    rw [e]
    refine con_of (n := 9) Try.func121 rfl (ent Try.func121 (by kernel_rfl) rfl) (by show 2 ≤ Try.f121.ntmps; decide) (by kernel_rfl) trivial (fun cx hcx => ?_)
    exact ret_of (T := T0) hT hm (f := 5000) (orc := [.call [] (.v (.bool (F124 (a0, a1)))) [], .d true]) [] [] [] hcx
      (obs := [.call 124 [(.a [(iv a0), (iv a1)])] [] (.v (.bool (F124 (a0, a1)))) [], .eq (!(F124 (a0, a1))) true]) (by kernel_rfl) ⟨(C124 (a0, a1)), h0, trivial⟩
  | false =>
    have e : (F121 a0 a1) = ((a0, a1), 0) := by simp only [F121, h0, cond_true, cond_false]
    rw [e]
    refine con_of (n := 9) Try.func121 rfl (ent Try.func121 (by kernel_rfl) rfl) (by show 2 ≤ Try.f121.ntmps; decide) (by kernel_rfl) trivial (fun cx hcx => ?_)
    exact ret_of (T := T0) hT hm (f := 5000) (orc := [.call [] (.v (.bool (F124 (a0, a1)))) [], .d false]) [] [] [] hcx
      (obs := [.call 124 [(.a [(iv a0), (iv a1)])] [] (.v (.bool (F124 (a0, a1)))) [], .eq (!(F124 (a0, a1))) false]) (by kernel_rfl) ⟨(C124 (a0, a1)), h0, trivial⟩

/-- facet/facetref01.below -/
def F154 (a0 : Int) (a1 : Int) : (Int × Int) × Int :=
  (bif (((Int.tmod a0 a1) : Int) == 0) then
   (bif (((W ((F159 (W (Int.tdiv a0 a1))) * (F159 (W (Int.tdiv a0 a1))))) : Int) == (W (Int.tdiv a0 a1))) then
    ((F121 (F159 (W (Int.tdiv a0 a1))) (F159 (W (Int.tdiv a0 a1)))).1, (F121 (F159 (W (Int.tdiv a0 a1))) (F159 (W (Int.tdiv a0 a1)))).2)
   else
    ((F121 (F159 (W (Int.tdiv a0 a1))) (W ((F159 (W (Int.tdiv a0 a1))) + 1))).1, (F121 (F159 (W (Int.tdiv a0 a1))) (W ((F159 (W (Int.tdiv a0 a1))) + 1))).2))
  else
   ((F121 (F159 (W (Int.tdiv a0 a1))) (W ((F159 (W (Int.tdiv a0 a1))) + 1))).1, (F121 (F159 (W (Int.tdiv a0 a1))) (W ((F159 (W (Int.tdiv a0 a1))) + 1))).2))

noncomputable def oC154_0 (a0 : Int) (a1 : Int) : Or := .call [] (.t [(.a (k2 (F121 (F159 (W (Int.tdiv a0 a1))) (W ((F159 (W (Int.tdiv a0 a1))) + 1))).1)), (iv (F121 (F159 (W (Int.tdiv a0 a1))) (W ((F159 (W (Int.tdiv a0 a1))) + 1))).2)]) []
noncomputable def oC154_1 (a0 : Int) (a1 : Int) : Ob := .call 121 [(iv (F159 (W (Int.tdiv a0 a1)))), (iv (W ((F159 (W (Int.tdiv a0 a1))) + 1)))] [] (.t [(.a (k2 (F121 (F159 (W (Int.tdiv a0 a1))) (W ((F159 (W (Int.tdiv a0 a1))) + 1))).1)), (iv (F121 (F159 (W (Int.tdiv a0 a1))) (W ((F159 (W (Int.tdiv a0 a1))) + 1))).2)]) []
theorem C154 (a0 : Int) (a1 : Int) (ha : a1 ≠ 0) : Con Try.prog 154 [(iv a0), (iv a1)] [] (.t [(.a (k2 (F154 a0 a1).1)), (iv (F154 a0 a1).2)]) [] := by
  cases h0 : (((Int.tmod a0 a1) : Int) == 0) with
  | true =>
    cases h1 : (((W ((F159 (W (Int.tdiv a0 a1))) * (F159 (W (Int.tdiv a0 a1))))) : Int) == (W (Int.tdiv a0 a1))) with
    | true =>
      have q0 := eq_of_beq h0
      have q1 := eq_of_beq h1
      have e : (F154 a0 a1) = ((F121 (F159 (W (Int.tdiv a0 a1))) (F159 (W (Int.tdiv a0 a1)))).1, (F121 (F159 (W (Int.tdiv a0 a1))) (F159 (W (Int.tdiv a0 a1)))).2) := by simp only [F154, h0, h1, cond_true, cond_false]
      rw [e]
      refine con_of (n := 9) Try.func154 rfl (ent Try.func154 (by kernel_rfl) rfl) (by show 2 ≤ Try.f154.ntmps; decide) (by kernel_rfl) trivial (fun cx hcx => ?_)
      exact ret_of (T := T0) hT hm (f := 5000) (orc := [.call [] (iv (F159 (W (Int.tdiv a0 a1)))) [], .d true, .d true, .call [] (.t [(.a (k2 (F121 (F159 (W (Int.tdiv a0 a1))) (F159 (W (Int.tdiv a0 a1)))).1)), (iv (F121 (F159 (W (Int.tdiv a0 a1))) (F159 (W (Int.tdiv a0 a1)))).2)]) []]) [] [] [] hcx
        (obs := [.pr ((a1 : Int) ≠ 0), .call 159 [(iv (W (Int.tdiv a0 a1)))] [] (iv (F159 (W (Int.tdiv a0 a1)))) [], .pr ((a1 : Int) ≠ 0), .eq (((Int.tmod a0 a1) : Int) == 0) true, .pr ((a1 : Int) ≠ 0), .eq (((W ((F159 (W (Int.tdiv a0 a1))) * (F159 (W (Int.tdiv a0 a1))))) : Int) == (W (Int.tdiv a0 a1))) true, .call 121 [(iv (F159 (W (Int.tdiv a0 a1)))), (iv (F159 (W (Int.tdiv a0 a1))))] [] (.t [(.a (k2 (F121 (F159 (W (Int.tdiv a0 a1))) (F159 (W (Int.tdiv a0 a1)))).1)), (iv (F121 (F159 (W (Int.tdiv a0 a1))) (F159 (W (Int.tdiv a0 a1)))).2)]) []]) (by kernel_rfl) ⟨(show (a1 : Int) ≠ 0 from by first | omega | (rw [W_eq] <;> omega) | exact u64_nn _), (C159 (W (Int.tdiv a0 a1))), (show (a1 : Int) ≠ 0 from by first | omega | (rw [W_eq] <;> omega) | exact u64_nn _), h0, (show (a1 : Int) ≠ 0 from by first | omega | (rw [W_eq] <;> omega) | exact u64_nn _), h1, (C121 (F159 (W (Int.tdiv a0 a1))) (F159 (W (Int.tdiv a0 a1)))), trivial⟩
    | false =>
      have q0 := eq_of_beq h0
      have q1 := ne_of_beq_false h1
      have e : (F154 a0 a1) = ((F121 (F159 (W (Int.tdiv a0 a1))) (W ((F159 (W (Int.tdiv a0 a1))) + 1))).1, (F121 (F159 (W (Int.tdiv a0 a1))) (W ((F159 (W (Int.tdiv a0 a1))) + 1))).2) := by simp only [F154, h0, h1, cond_true, cond_false]
      rw [e]
      refine con_of (n := 9) Try.func154 rfl (ent Try.func154 (by kernel_rfl) rfl) (by show 2 ≤ Try.f154.ntmps; decide) (by kernel_rfl) trivial (fun cx hcx => ?_)
      exact ret_of (T := T0) hT hm (f := 5000) (orc := [.call [] (iv (F159 (W (Int.tdiv a0 a1)))) [], .d true, .d false, (oC154_0 a0 a1)]) [] [] [] hcx
        (obs := [.pr ((a1 : Int) ≠ 0), .call 159 [(iv (W (Int.tdiv a0 a1)))] [] (iv (F159 (W (Int.tdiv a0 a1)))) [], .pr ((a1 : Int) ≠ 0), .eq (((Int.tmod a0 a1) : Int) == 0) true, .pr ((a1 : Int) ≠ 0), .eq (((W ((F159 (W (Int.tdiv a0 a1))) * (F159 (W (Int.tdiv a0 a1))))) : Int) == (W (Int.tdiv a0 a1))) false, (oC154_1 a0 a1)]) (by kernel_rfl) ⟨(show (a1 : Int) ≠ 0 from by first | omega | (rw [W_eq] <;> omega) | exact u64_nn _), (C159 (W (Int.tdiv a0 a1))), (show (a1 : Int) ≠ 0 from by first | omega | (rw [W_eq] <;> omega) | exact u64_nn _), h0, (show (a1 : Int) ≠ 0 from by first | omega | (rw [W_eq] <;> omega) | exact u64_nn _), h1, (C121 (F159 (W (Int.tdiv a0 a1))) (W ((F159 (W (Int.tdiv a0 a1))) + 1))), trivial⟩
  | false =>
    have q0 := ne_of_beq_false h0
    have e : (F154 a0 a1) = ((F121 (F159 (W (Int.tdiv a0 a1))) (W ((F159 (W (Int.tdiv a0 a1))) + 1))).1, (F121 (F159 (W (Int.tdiv a0 a1))) (W ((F159 (W (Int.tdiv a0 a1))) + 1))).2) := by simp only [F154, h0, cond_true, cond_false]
    rw [e]
    refine con_of (n := 9) Try.func154 rfl (ent Try.func154 (by kernel_rfl) rfl) (by show 2 ≤ Try.f154.ntmps; decide) (by kernel_rfl) trivial (fun cx hcx => ?_)
    exact ret_of (T := T0) hT hm (f := 5000) (orc := [.call [] (iv (F159 (W (Int.tdiv a0 a1)))) [], .d false, (oC154_0 a0 a1)]) [] [] [] hcx
      (obs := [.pr ((a1 : Int) ≠ 0), .call 159 [(iv (W (Int.tdiv a0 a1)))] [] (iv (F159 (W (Int.tdiv a0 a1)))) [], .pr ((a1 : Int) ≠ 0), .eq (((Int.tmod a0 a1) : Int) == 0) false, (oC154_1 a0 a1)]) (by kernel_rfl) ⟨(show (a1 : Int) ≠ 0 from by first | omega | (rw [W_eq] <;> omega) | exact u64_nn _), (C159 (W (Int.tdiv a0 a1))), (show (a1 : Int) ≠ 0 from by first | omega | (rw [W_eq] <;> omega) | exact u64_nn _), h0, (C121 (F159 (W (Int.tdiv a0 a1))) (W ((F159 (W (Int.tdiv a0 a1))) + 1))), trivial⟩

/-- facet/facetref01.Inverse -/
def F119 (a0 : Int) (a1 : Int) : (Int × Int) × Int :=
  (bif (!(F125 a0 1 1099511627776)) then
   ((0, 0), 1)
  else
   (bif (!(F125 a1 1 8)) then
    ((0, 0), 1)
   else
    ((F154 (W ((W ((W (1048576 * a1)) * 1048576)) * a1)) a0).1, (F154 (W ((W ((W (1048576 * a1)) * 1048576)) * a1)) a0).2)))

noncomputable def oC119_0 (a0 : Int) : Ob := .call 125 [(iv a0), (iv 1), (iv 1099511627776)] [] (.v (.bool (F125 a0 1 1099511627776))) []
theorem C119 (a0 : Int) (a1 : Int) : Con Try.prog 119 [(iv a0), (iv a1)] [] (.t [(.a (k2 (F119 a0 a1).1)), (iv (F119 a0 a1).2)]) [] := by
  cases h0 : (!(F125 a0 1 1099511627776)) with
  | true =>
    have e : (F119 a0 a1) = ((0, 0), 1) := by simp only [F119, h0, cond_true, cond_false]
    rw [e]
    refine con_of (n := 9) Try.func119 rfl (ent Try.func119 (by kernel_rfl) rfl) (by show 2 ≤ Try.f119.ntmps; decide) (by kernel_rfl) trivial (fun cx hcx => ?_)
    exact ret_of (T := T0) hT hm (f := 5000) (orc := [.call [] (.v (.bool (F125 a0 1 1099511627776))) [], .d true]) [] [] [] hcx
      (obs := [(oC119_0 a0), .eq (!(F125 a0 1 1099511627776)) true]) (by kernel_rfl) ⟨(C125 a0 1 1099511627776), h0, trivial⟩
  | false =>
    cases h1 : (!(F125 a1 1 8)) with
    | true =>
      have e : (F119 a0 a1) = ((0, 0), 1) := by simp only [F119, h0, h1, cond_true, cond_false]
      rw [e]
      refine con_of (n := 9) Try.func119 rfl (ent Try.func119 (by kernel_rfl) rfl) (by show 2 ≤ Try.f119.ntmps; decide) (by kernel_rfl) trivial (fun cx hcx => ?_)
      exact ret_of (T := T0) hT hm (f := 5000) (orc := [.call [] (.v (.bool (F125 a0 1 1099511627776))) [], .d false, .call [] (.v (.bool (F125 a1 1 8))) [], .d true]) [] [] [] hcx
        (obs := [(oC119_0 a0), .eq (!(F125 a0 1 1099511627776)) false, .call 125 [(iv a1), (iv 1), (iv 8)] [] (.v (.bool (F125 a1 1 8))) [], .eq (!(F125 a1 1 8)) true]) (by kernel_rfl) ⟨(C125 a0 1 1099511627776), h0, (C125 a1 1 8), h1, trivial⟩
    | false =>
      have e : (F119 a0 a1) = ((F154 (W ((W ((W (1048576 * a1)) * 1048576)) * a1)) a0).1, (F154 (W ((W ((W (1048576 * a1)) * 1048576)) * a1)) a0).2) := by simp only [F119, h0, h1, cond_true, cond_false]
      rw [e]
      refine con_of (n := 9) Try.func119 rfl (ent Try.func119 (by kernel_rfl) rfl) (by show 2 ≤ Try.f119.ntmps; decide) (by kernel_rfl) trivial (fun cx hcx => ?_)
      exact ret_of (T := T0) hT hm (f := 5000) (orc := [.call [] (.v (.bool (F125 a0 1 1099511627776))) [], .d false, .call [] (.v (.bool (F125 a1 1 8))) [], .d false, .call [] (.t [(.a (k2 (F154 (W ((W ((W (1048576 * a1)) * 1048576)) * a1)) a0).1)), (iv (F154 (W ((W ((W (1048576 * a1)) * 1048576)) * a1)) a0).2)]) []]) [] [] [] hcx
        (obs := [(oC119_0 a0), .eq (!(F125 a0 1 1099511627776)) false, .call 125 [(iv a1), (iv 1), (iv 8)] [] (.v (.bool (F125 a1 1 8))) [], .eq (!(F125 a1 1 8)) false, .call 154 [(iv (W ((W ((W (1048576 * a1)) * 1048576)) * a1))), (iv a0)] [] (.t [(.a (k2 (F154 (W ((W ((W (1048576 * a1)) * 1048576)) * a1)) a0).1)), (iv (F154 (W ((W ((W (1048576 * a1)) * 1048576)) * a1)) a0).2)]) []]) (by kernel_rfl) ⟨(C125 a0 1 1099511627776), h0, (C125 a1 1 8), h1, (C154 (W ((W ((W (1048576 * a1)) * 1048576)) * a1)) a0  (win_ne h0)), trivial⟩

/-- facet/facetref02.Minus -/
def F152 (a0 : Int × Int × Int) (a1 : Int × Int × Int) : Int × Int × Int :=
  ((W (a0.1 - a1.1)), (W (a0.2.1 - a1.2.1)), (W (a0.2.2 - a1.2.2)))

theorem C152 (a0 : Int × Int × Int) (a1 : Int × Int × Int) : Con Try.prog 152 [(.a (k3 a0)), (.a (k3 a1))] [] (.a (k3 (F152 a0 a1))) [] := by
  have e : (F152 a0 a1) = ((W (a0.1 - a1.1)), (W (a0.2.1 - a1.2.1)), (W (a0.2.2 - a1.2.2))) := by simp only [F152]
  rw [e]
  refine con_of (n := 9) Try.func152 rfl (ent Try.func152 (by kernel_rfl) rfl) (by show 2 ≤ Try.f152.ntmps; decide) (by kernel_rfl) trivial (fun cx hcx => ?_)
  exact ret_of (T := T0) hT hm (f := 5000) (orc := []) [] [] [] hcx
    (obs := []) (by kernel_rfl) trivial

/-- facet/facetref02.Cross -/
def F151 (a0 : Int × Int × Int) (a1 : Int × Int × Int) : Int × Int × Int :=
  ((W ((W (a0.2.1 * a1.2.2)) - (W (a0.2.2 * a1.2.1)))), (W ((W (a0.2.2 * a1.1)) - (W (a0.1 * a1.2.2)))), (W ((W (a0.1 * a1.2.1)) - (W (a0.2.1 * a1.1)))))

theorem C151 (a0 : Int × Int × Int) (a1 : Int × Int × Int) : Con Try.prog 151 [(.a (k3 a0)), (.a (k3 a1))] [] (.a (k3 (F151 a0 a1))) [] := by
  have e : (F151 a0 a1) = ((W ((W (a0.2.1 * a1.2.2)) - (W (a0.2.2 * a1.2.1)))), (W ((W (a0.2.2 * a1.1)) - (W (a0.1 * a1.2.2)))), (W ((W (a0.1 * a1.2.1)) - (W (a0.2.1 * a1.1))))) := by simp only [F151]
  rw [e]
  refine con_of (n := 9) Try.func151 rfl (ent Try.func151 (by kernel_rfl) rfl) (by show 2 ≤ Try.f151.ntmps; decide) (by kernel_rfl) trivial (fun cx hcx => ?_)
  exact ret_of (T := T0) hT hm (f := 5000) (orc := []) [] [] [] hcx
    (obs := []) (by kernel_rfl) trivial

/-- facet/facetref02.Across -/
def F112 (a0 : (Int × Int × Int) × (Int × Int × Int) × Int × Int × Int) : Int × Int × Int :=
  (F151 (F152 a0.2.1 a0.1) (F152 a0.2.2 a0.1))

theorem C112 (a0 : (Int × Int × Int) × (Int × Int × Int) × Int × Int × Int) : Con Try.prog 112 [(.a (k9 a0))] [] (.a (k3 (F112 a0))) [] := by
  have e : (F112 a0) = (F151 (F152 a0.2.1 a0.1) (F152 a0.2.2 a0.1)) := by simp only [F112]
  rw [e]
  refine con_of (n := 9) Try.func112 rfl (ent Try.func112 (by kernel_rfl) rfl) (by show 1 ≤ Try.f112.ntmps; decide) (by kernel_rfl) trivial (fun cx hcx => ?_)
  exact ret_of (T := T0) hT hm (f := 5000) (orc := [.call [] (.a (k3 (F152 a0.2.1 a0.1))) [], .call [] (.a (k3 (F152 a0.2.2 a0.1))) [], .call [] (.a (k3 (F151 (F152 a0.2.1 a0.1) (F152 a0.2.2 a0.1)))) []]) [] [] [] hcx
    (obs := [.call 152 [(.a (k3 a0.2.1)), (.a (k3 a0.1))] [] (.a (k3 (F152 a0.2.1 a0.1))) [], .call 152 [(.a (k3 a0.2.2)), (.a (k3 a0.1))] [] (.a (k3 (F152 a0.2.2 a0.1))) [], .call 151 [(.a (k3 (F152 a0.2.1 a0.1))), (.a (k3 (F152 a0.2.2 a0.1)))] [] (.a (k3 (F151 (F152 a0.2.1 a0.1) (F152 a0.2.2 a0.1)))) []]) (by kernel_rfl) ⟨(C152 a0.2.1 a0.1), (C152 a0.2.2 a0.1), (C151 (F152 a0.2.1 a0.1) (F152 a0.2.2 a0.1)), trivial⟩

/-- facet/facetref02.within -/
def F150 (a0 : Int) (a1 : Int) (a2 : Int) : Bool :=
  (bif (decide ((a0 : Int) ≥ a1)) then
   (decide ((a0 : Int) ≤ a2))
  else
   false)

theorem C150 (a0 : Int) (a1 : Int) (a2 : Int) : Con Try.prog 150 [(iv a0), (iv a1), (iv a2)] [] (.v (.bool (F150 a0 a1 a2))) [] := by
  cases h0 : (decide ((a0 : Int) ≥ a1)) with
  | true =>
    have q0 := of_decide_eq_true h0
    have e : (F150 a0 a1 a2) = (decide ((a0 : Int) ≤ a2)) := by simp only [F150, h0, cond_true, cond_false]
    rw [e]
    refine con_of (n := 9) Try.func150 rfl (ent Try.func150 (by kernel_rfl) rfl) (by show 3 ≤ Try.f150.ntmps; decide) (by kernel_rfl) trivial (fun cx hcx => ?_)
    exact ret_of (T := T0) hT hm (f := 5000) (orc := [.d true]) [] [] [] hcx
      (obs := [.eq (decide ((a0 : Int) ≥ a1)) true]) (by kernel_rfl) ⟨h0, trivial⟩
  | false =>
    have q0 := of_decide_eq_false h0
    have e : (F150 a0 a1 a2) = false := by simp only [F150, h0, cond_true, cond_false]
    rw [e]
    refine con_of (n := 9) Try.func150 rfl (ent Try.func150 (by kernel_rfl) rfl) (by show 3 ≤ Try.f150.ntmps; decide) (by kernel_rfl) trivial (fun cx hcx => ?_)
    exact ret_of (T := T0) hT hm (f := 5000) (orc := [.d false]) [] [] [] hcx
      (obs := [.eq (decide ((a0 : Int) ≥ a1)) false]) (by kernel_rfl) ⟨h0, trivial⟩

/-- facet/facetref02.near -/
def F111 (a0 : Int × Int × Int) (a1 : Int) : Bool :=
  (bif (F150 a0.1 (W (0 - a1)) a1) then
   (bif (F150 a0.2.1 (W (0 - a1)) a1) then
    (F150 a0.2.2 (W (0 - a1)) a1)
   else
    false)
  else
   false)

noncomputable def oC111_0 (a0 : Int × Int × Int) (a1 : Int) : Ob := .call 150 [(iv a0.1), (iv (W (0 - a1))), (iv a1)] [] (.v (.bool (F150 a0.1 (W (0 - a1)) a1))) []
theorem C111 (a0 : Int × Int × Int) (a1 : Int) : Con Try.prog 111 [(.a (k3 a0)), (iv a1)] [] (.v (.bool (F111 a0 a1))) [] := by
  cases h0 : (F150 a0.1 (W (0 - a1)) a1) with
  | true =>
    cases h1 : (F150 a0.2.1 (W (0 - a1)) a1) with
    | true =>
      have e : (F111 a0 a1) = (F150 a0.2.2 (W (0 - a1)) a1) := by simp only [F111, h0, h1, cond_true, cond_false]
      rw [e]
      refine con_of (n := 9) Try.func111 rfl (ent Try.func111 (by kernel_rfl) rfl) (by show 2 ≤ Try.f111.ntmps; decide) (by kernel_rfl) trivial (fun cx hcx => ?_)
      exact ret_of (T := T0) hT hm (f := 5000) (orc := [.call [] (.v (.bool (F150 a0.1 (W (0 - a1)) a1))) [], .d true, .call [] (.v (.bool (F150 a0.2.1 (W (0 - a1)) a1))) [], .d true, .call [] (.v (.bool (F150 a0.2.2 (W (0 - a1)) a1))) []]) [] [] [] hcx
        (obs := [(oC111_0 a0 a1), .eq (F150 a0.1 (W (0 - a1)) a1) true, .call 150 [(iv a0.2.1), (iv (W (0 - a1))), (iv a1)] [] (.v (.bool (F150 a0.2.1 (W (0 - a1)) a1))) [], .eq (F150 a0.2.1 (W (0 - a1)) a1) true, .call 150 [(iv a0.2.2), (iv (W (0 - a1))), (iv a1)] [] (.v (.bool (F150 a0.2.2 (W (0 - a1)) a1))) []]) (by kernel_rfl) ⟨(C150 a0.1 (W (0 - a1)) a1), h0, (C150 a0.2.1 (W (0 - a1)) a1), h1, (C150 a0.2.2 (W (0 - a1)) a1), trivial⟩
    | false =>
      have e : (F111 a0 a1) = false := by simp only [F111, h0, h1, cond_true, cond_false]
      rw [e]
      refine con_of (n := 9) Try.func111 rfl (ent Try.func111 (by kernel_rfl) rfl) (by show 2 ≤ Try.f111.ntmps; decide) (by kernel_rfl) trivial (fun cx hcx => ?_)
      exact ret_of (T := T0) hT hm (f := 5000) (orc := [.call [] (.v (.bool (F150 a0.1 (W (0 - a1)) a1))) [], .d true, .call [] (.v (.bool (F150 a0.2.1 (W (0 - a1)) a1))) [], .d false]) [] [] [] hcx
        (obs := [(oC111_0 a0 a1), .eq (F150 a0.1 (W (0 - a1)) a1) true, .call 150 [(iv a0.2.1), (iv (W (0 - a1))), (iv a1)] [] (.v (.bool (F150 a0.2.1 (W (0 - a1)) a1))) [], .eq (F150 a0.2.1 (W (0 - a1)) a1) false]) (by kernel_rfl) ⟨(C150 a0.1 (W (0 - a1)) a1), h0, (C150 a0.2.1 (W (0 - a1)) a1), h1, trivial⟩
  | false =>
    have e : (F111 a0 a1) = false := by simp only [F111, h0, cond_true, cond_false]
    rw [e]
    refine con_of (n := 9) Try.func111 rfl (ent Try.func111 (by kernel_rfl) rfl) (by show 2 ≤ Try.f111.ntmps; decide) (by kernel_rfl) trivial (fun cx hcx => ?_)
    exact ret_of (T := T0) hT hm (f := 5000) (orc := [.call [] (.v (.bool (F150 a0.1 (W (0 - a1)) a1))) [], .d false]) [] [] [] hcx
      (obs := [(oC111_0 a0 a1), .eq (F150 a0.1 (W (0 - a1)) a1) false]) (by kernel_rfl) ⟨(C150 a0.1 (W (0 - a1)) a1), h0, trivial⟩

/-- facet/facetref02.ValidatePanel -/
def F85 (a0 : (Int × Int × Int) × (Int × Int × Int) × Int × Int × Int) : Int :=
  (bif (!(F111 a0.1 64)) then
   1
  else
   (bif (!(F111 a0.2.1 64)) then
    1
   else
    (bif (!(F111 a0.2.2 64)) then
     1
    else
     (bif ((((F112 a0).1 : Int) == 0) && ((((F112 a0).2.1 : Int) == 0) && ((((F112 a0).2.2 : Int) == 0) && true))) then
      6
     else
      0))))

noncomputable def oC85_0 (a0 : (Int × Int × Int) × (Int × Int × Int) × Int × Int × Int) : Ob := .call 111 [(.a (k3 a0.1)), (iv 64)] [] (.v (.bool (F111 a0.1 64))) []
noncomputable def oC85_1 (a0 : (Int × Int × Int) × (Int × Int × Int) × Int × Int × Int) : Ob := .call 111 [(.a (k3 a0.2.1)), (iv 64)] [] (.v (.bool (F111 a0.2.1 64))) []
theorem C85 (a0 : (Int × Int × Int) × (Int × Int × Int) × Int × Int × Int) : Con Try.prog 85 [(.a (k9 a0))] [] (iv (F85 a0)) [] := by
  cases h0 : (!(F111 a0.1 64)) with
  | true =>
    have e : (F85 a0) = 1 := by simp only [F85, h0, cond_true, cond_false]
    rw [e]
    refine con_of (n := 9) Try.func85 rfl (ent Try.func85 (by kernel_rfl) rfl) (by show 1 ≤ Try.f85.ntmps; decide) (by kernel_rfl) trivial (fun cx hcx => ?_)
    exact ret_of (T := T0) hT hm (f := 5000) (orc := [.call [] (.v (.bool (F111 a0.1 64))) [], .d true]) [] [] [] hcx
      (obs := [(oC85_0 a0), .eq (!(F111 a0.1 64)) true]) (by kernel_rfl) ⟨(C111 a0.1 64), h0, trivial⟩
  | false =>
    cases h1 : (!(F111 a0.2.1 64)) with
    | true =>
      have e : (F85 a0) = 1 := by simp only [F85, h0, h1, cond_true, cond_false]
      rw [e]
      refine con_of (n := 9) Try.func85 rfl (ent Try.func85 (by kernel_rfl) rfl) (by show 1 ≤ Try.f85.ntmps; decide) (by kernel_rfl) trivial (fun cx hcx => ?_)
      exact ret_of (T := T0) hT hm (f := 5000) (orc := [.call [] (.v (.bool (F111 a0.1 64))) [], .d false, .call [] (.v (.bool (F111 a0.2.1 64))) [], .d true]) [] [] [] hcx
        (obs := [(oC85_0 a0), .eq (!(F111 a0.1 64)) false, (oC85_1 a0), .eq (!(F111 a0.2.1 64)) true]) (by kernel_rfl) ⟨(C111 a0.1 64), h0, (C111 a0.2.1 64), h1, trivial⟩
    | false =>
      cases h2 : (!(F111 a0.2.2 64)) with
      | true =>
        have e : (F85 a0) = 1 := by simp only [F85, h0, h1, h2, cond_true, cond_false]
        rw [e]
        refine con_of (n := 9) Try.func85 rfl (ent Try.func85 (by kernel_rfl) rfl) (by show 1 ≤ Try.f85.ntmps; decide) (by kernel_rfl) trivial (fun cx hcx => ?_)
        exact ret_of (T := T0) hT hm (f := 5000) (orc := [.call [] (.v (.bool (F111 a0.1 64))) [], .d false, .call [] (.v (.bool (F111 a0.2.1 64))) [], .d false, .call [] (.v (.bool (F111 a0.2.2 64))) [], .d true]) [] [] [] hcx
          (obs := [(oC85_0 a0), .eq (!(F111 a0.1 64)) false, (oC85_1 a0), .eq (!(F111 a0.2.1 64)) false, .call 111 [(.a (k3 a0.2.2)), (iv 64)] [] (.v (.bool (F111 a0.2.2 64))) [], .eq (!(F111 a0.2.2 64)) true]) (by kernel_rfl) ⟨(C111 a0.1 64), h0, (C111 a0.2.1 64), h1, (C111 a0.2.2 64), h2, trivial⟩
      | false =>
        cases h3 : ((((F112 a0).1 : Int) == 0) && ((((F112 a0).2.1 : Int) == 0) && ((((F112 a0).2.2 : Int) == 0) && true))) with
        | true =>
          have e : (F85 a0) = 6 := by simp only [F85, h0, h1, h2, h3, cond_true, cond_false]
          rw [e]
          refine con_of (n := 9) Try.func85 rfl (ent Try.func85 (by kernel_rfl) rfl) (by show 1 ≤ Try.f85.ntmps; decide) (by kernel_rfl) trivial (fun cx hcx => ?_)
          exact ret_of (T := T0) hT hm (f := 5000) (orc := [.call [] (.v (.bool (F111 a0.1 64))) [], .d false, .call [] (.v (.bool (F111 a0.2.1 64))) [], .d false, .call [] (.v (.bool (F111 a0.2.2 64))) [], .d false, .call [] (.a (k3 (F112 a0))) [], .d true]) [] [] [] hcx
            (obs := [(oC85_0 a0), .eq (!(F111 a0.1 64)) false, (oC85_1 a0), .eq (!(F111 a0.2.1 64)) false, .call 111 [(.a (k3 a0.2.2)), (iv 64)] [] (.v (.bool (F111 a0.2.2 64))) [], .eq (!(F111 a0.2.2 64)) false, .call 112 [(.a (k9 a0))] [] (.a (k3 (F112 a0))) [], .eq ((((F112 a0).1 : Int) == 0) && ((((F112 a0).2.1 : Int) == 0) && ((((F112 a0).2.2 : Int) == 0) && true))) true]) (by kernel_rfl) ⟨(C111 a0.1 64), h0, (C111 a0.2.1 64), h1, (C111 a0.2.2 64), h2, (C112 a0), h3, trivial⟩
        | false =>
          have e : (F85 a0) = 0 := by simp only [F85, h0, h1, h2, h3, cond_true, cond_false]
          rw [e]
          refine con_of (n := 9) Try.func85 rfl (ent Try.func85 (by kernel_rfl) rfl) (by show 1 ≤ Try.f85.ntmps; decide) (by kernel_rfl) trivial (fun cx hcx => ?_)
          exact ret_of (T := T0) hT hm (f := 5000) (orc := [.call [] (.v (.bool (F111 a0.1 64))) [], .d false, .call [] (.v (.bool (F111 a0.2.1 64))) [], .d false, .call [] (.v (.bool (F111 a0.2.2 64))) [], .d false, .call [] (.a (k3 (F112 a0))) [], .d false]) [] [] [] hcx
            (obs := [(oC85_0 a0), .eq (!(F111 a0.1 64)) false, (oC85_1 a0), .eq (!(F111 a0.2.1 64)) false, .call 111 [(.a (k3 a0.2.2)), (iv 64)] [] (.v (.bool (F111 a0.2.2 64))) [], .eq (!(F111 a0.2.2 64)) false, .call 112 [(.a (k9 a0))] [] (.a (k3 (F112 a0))) [], .eq ((((F112 a0).1 : Int) == 0) && ((((F112 a0).2.1 : Int) == 0) && ((((F112 a0).2.2 : Int) == 0) && true))) false]) (by kernel_rfl) ⟨(C111 a0.1 64), h0, (C111 a0.2.1 64), h1, (C111 a0.2.2 64), h2, (C112 a0), h3, trivial⟩

noncomputable def B120_L_0 : Code := (loopAtD [1, 1, 1, 0, 1] [] (Try.f120.body.getD .skip) []).1
noncomputable def K120_L_0 : List K := (loopAtD [1, 1, 1, 0, 1] [] (Try.f120.body.getD .skip) []).2

/-- a round of loop 0 of facet/facetref01.total; the variables: v1 = s5, v2 = s6, v3 = s7 -/
def S120_L_0 (a0 : List (Int × Int)) : Int × Int × Int → (Int × Int × Int) ⊕ (Int × Int × Int)
  | (v1, v2, v3) =>
   (bif (decide ((v3 : Int) < ((a0.length : Nat) : Int))) then
    (bif (!(F124 (a0.getD (Int.toNat v3) default))) then
     (.inr (0, 0, 1))
    else
     (.inl ((W (v1 + (a0.getD (Int.toNat v3) default).1)), (W (v2 + (a0.getD (Int.toNat v3) default).2)), (v3 + 1))))
   else
    (.inr (v1, v2, 0)))

set_option maxHeartbeats 4000000 in
theorem L120_L_0 (a0 : List (Int × Int)) (l0 : a0.length ≤ 9223372036854775807) {cx : Cx} (hcx : cx.base = 1) : ∀ (n : Nat) (v1 : Int) (v2 : Int) (v3 : Int), 0 ≤ v3 → Int.toNat (((a0.length : Nat) : Int) - v3) < n → Aw.Good Try.prog none 9 (bodyPost Try.prog Try.f120 (RR cx (.t (k3 (loopF (S120_L_0 a0) n (v1, v2, v3)))) [] [])) cx [] (.l B120_L_0 n :: K120_L_0) ⟨[(.s 0 0 a0.length 2), .u, .u, .u, .u, (iv v1), (iv v2), (iv v3), .u, .u, .u, .u, .u, .u, .u, .u, .u, .u, .u, .u, .u, .u, .u, .u, .u, .u, .u, .u, .u, .u, .u, .u, .u, .u, .u, .u, .u, .u, .u], [(.live false true (flat c32 a0))]⟩ := by
  intro n
  induction n with
  | zero => intro v1 v2 v3 hi hn; exact absurd hn (Nat.not_lt_zero _)
  | succ n ih =>
    intro v1 v2 v3 hi hn
    refine good_round ?_
    cases h0 : (decide ((v3 : Int) < ((a0.length : Nat) : Int))) with
    | true =>
      cases h1 : (!(F124 (a0.getD (Int.toNat v3) default))) with
      | true =>
        have q0 := of_decide_eq_true h0
        have e : S120_L_0 a0 (v1, v2, v3) = (.inr (0, 0, 1)) := by simp only [S120_L_0, h0, h1, cond_true, cond_false]
        rw [show loopF (S120_L_0 a0) (n + 1) (v1, v2, v3) = thenF (S120_L_0 a0) n (S120_L_0 a0 (v1, v2, v3)) from rfl, e]
        exact ret_of (T := T0) hT hm (f := 5000) (orc := [.d true, .ld (k2 (a0.getD (Int.toNat v3) default)), .call [] (.v (.bool (F124 (a0.getD (Int.toNat v3) default)))) [], .d true]) [] [] [] hcx
          (obs := [.eq (decide ((v3 : Int) < ((a0.length : Nat) : Int))) true, .pr (0 ≤ (v3 : Int) ∧ (v3 : Int) < ((a0.length : Nat) : Int)), .pr (((((flat c32 a0)).drop (0 + Int.toNat v3 * 2)).take 2) = (k2 (a0.getD (Int.toNat v3) default))), .call 124 [(.a (k2 (a0.getD (Int.toNat v3) default)))] [] (.v (.bool (F124 (a0.getD (Int.toNat v3) default)))) [], .eq (!(F124 (a0.getD (Int.toNat v3) default))) true]) (by kernel_rfl) ⟨h0, (show 0 ≤ (v3 : Int) ∧ (v3 : Int) < ((a0.length : Nat) : Int) from by first | omega | (rw [W_eq] <;> omega) | exact u64_nn _), (ld_part c32_len default a0 v3 0 2 (by omega) (by decide) (by omega) rfl), (C124 (a0.getD (Int.toNat v3) default)), h1, trivial⟩
      | false =>
        have q0 := of_decide_eq_true h0
        have e : S120_L_0 a0 (v1, v2, v3) = (.inl ((W (v1 + (a0.getD (Int.toNat v3) default).1)), (W (v2 + (a0.getD (Int.toNat v3) default).2)), (v3 + 1))) := by simp only [S120_L_0, h0, h1, cond_true, cond_false]
        rw [loopF_inl e]
        refine back_of (T := T0) hT hm (f := 5000) (orc := [.d true, .ld (k2 (a0.getD (Int.toNat v3) default)), .call [] (.v (.bool (F124 (a0.getD (Int.toNat v3) default)))) [], .d false, .ld [(iv (a0.getD (Int.toNat v3) default).1)], .ld [(iv (a0.getD (Int.toNat v3) default).2)]]) [] [0, 5, 6, 7] [] hcx (body := B120_L_0) (m := n) (k' := K120_L_0) (s' := ⟨[(.s 0 0 a0.length 2), .u, .u, .u, .u, (iv (W (v1 + (a0.getD (Int.toNat v3) default).1))), (iv (W (v2 + (a0.getD (Int.toNat v3) default).2))), (iv (W (v3 + 1))), .u, .u, .u, .u, .u, .u, .u, .u, .u, .u, .u, .u, .u, .u, .u, .u, .u, .u, .u, .u, .u, .u, .u, .u, .u, .u, .u, .u, .u, .u, .u], [(.live false true (flat c32 a0))]⟩)
          (obs := [.eq (decide ((v3 : Int) < ((a0.length : Nat) : Int))) true, .pr (0 ≤ (v3 : Int) ∧ (v3 : Int) < ((a0.length : Nat) : Int)), .pr (((((flat c32 a0)).drop (0 + Int.toNat v3 * 2)).take 2) = (k2 (a0.getD (Int.toNat v3) default))), .call 124 [(.a (k2 (a0.getD (Int.toNat v3) default)))] [] (.v (.bool (F124 (a0.getD (Int.toNat v3) default)))) [], .eq (!(F124 (a0.getD (Int.toNat v3) default))) false, .pr (0 ≤ (v3 : Int) ∧ (v3 : Int) < ((a0.length : Nat) : Int)), .pr (((((flat c32 a0)).drop (0 + Int.toNat v3 * 2 + 0)).take 1) = [(iv (a0.getD (Int.toNat v3) default).1)]), .pr (0 ≤ (v3 : Int) ∧ (v3 : Int) < ((a0.length : Nat) : Int)), .pr (((((flat c32 a0)).drop (0 + Int.toNat v3 * 2 + 1)).take 1) = [(iv (a0.getD (Int.toNat v3) default).2)])]) (by kernel_rfl) ⟨h0, (show 0 ≤ (v3 : Int) ∧ (v3 : Int) < ((a0.length : Nat) : Int) from by first | omega | (rw [W_eq] <;> omega) | exact u64_nn _), (ld_part c32_len default a0 v3 0 2 (by omega) (by decide) (by omega) rfl), (C124 (a0.getD (Int.toNat v3) default)), h1, (show 0 ≤ (v3 : Int) ∧ (v3 : Int) < ((a0.length : Nat) : Int) from by first | omega | (rw [W_eq] <;> omega) | exact u64_nn _), (ld_part c32_len default a0 v3 0 1 (by omega) (by decide) (by omega) rfl), (show 0 ≤ (v3 : Int) ∧ (v3 : Int) < ((a0.length : Nat) : Int) from by first | omega | (rw [W_eq] <;> omega) | exact u64_nn _), (ld_part c32_len default a0 v3 1 1 (by omega) (by decide) (by omega) rfl), trivial⟩ ?_
        have z0 : (W (v3 + 1)) = (v3 + 1) := W_eq (by omega) (by omega)
        rw [z0]
        exact ih (W (v1 + (a0.getD (Int.toNat v3) default).1)) (W (v2 + (a0.getD (Int.toNat v3) default).2)) (v3 + 1) (by (try simp only [List.length_append, List.length_cons, List.length_nil, Int.toNat_zero]); omega) (by (try simp only [List.length_append, List.length_cons, List.length_nil, Int.toNat_zero]); omega)
    | false =>
      have q0 := of_decide_eq_false h0
      have e : S120_L_0 a0 (v1, v2, v3) = (.inr (v1, v2, 0)) := by simp only [S120_L_0, h0, cond_true, cond_false]
      rw [show loopF (S120_L_0 a0) (n + 1) (v1, v2, v3) = thenF (S120_L_0 a0) n (S120_L_0 a0 (v1, v2, v3)) from rfl, e]
      exact ret_of (T := T0) hT hm (f := 5000) (orc := [.d false]) [] [] [] hcx
        (obs := [.eq (decide ((v3 : Int) < ((a0.length : Nat) : Int))) false]) (by kernel_rfl) ⟨h0, trivial⟩

/-- facet/facetref01.total at ('L',) -/
def F120_L (a0 : List (Int × Int)) : Int × Int × Int :=
  (bif (decide ((((a0.length : Nat) : Int) : Int) > 10000)) then
   (0, 0, 4)
  else
   (loopF (S120_L_0 a0) (Int.toNat (((a0.length : Nat) : Int) - 0) + 1) (0, 0, 0)))

theorem C120_L (a0 : List (Int × Int)) (l0 : a0.length ≤ 9223372036854775807) : Con Try.prog 120 [(.s 0 0 a0.length 2)] [(.live false true (flat c32 a0))] (.t (k3 (F120_L a0))) [] := by
  cases h0 : (decide ((((a0.length : Nat) : Int) : Int) > 10000)) with
  | true =>
    have q0 := of_decide_eq_true h0
    have e : (F120_L a0) = (0, 0, 4) := by simp only [F120_L, h0, cond_true, cond_false]
    rw [e]
    refine con_of (n := 9) Try.func120 rfl (ent Try.func120 (by kernel_rfl) rfl) (by show 1 ≤ Try.f120.ntmps; decide) (by kernel_rfl) ⟨rfl, trivial⟩ (fun cx hcx => ?_)
    exact ret_of (T := T0) hT hm (f := 5000) (orc := [.d true]) [] [] [] hcx
      (obs := [.eq (decide ((((a0.length : Nat) : Int) : Int) > 10000)) true]) (by kernel_rfl) ⟨h0, trivial⟩
  | false =>
    have q0 := of_decide_eq_false h0
    have e : (F120_L a0) = (loopF (S120_L_0 a0) (Int.toNat (((a0.length : Nat) : Int) - 0) + 1) (0, 0, 0)) := by simp only [F120_L, h0, cond_true, cond_false]
    rw [e]
    refine con_of (n := 9) Try.func120 rfl (ent Try.func120 (by kernel_rfl) rfl) (by show 1 ≤ Try.f120.ntmps; decide) (by kernel_rfl) ⟨rfl, trivial⟩ (fun cx hcx => ?_)
    refine enter_of (T := T0) hT hm (f := 5000) (orc := [.d false]) [] [0, 5, 6, 7] [] hcx (body := B120_L_0) (k' := K120_L_0) (s' := ⟨[(.s 0 0 a0.length 2), .u, .u, .u, .u, (iv 0), (iv 0), (iv 0), .u, .u, .u, .u, .u, .u, .u, .u, .u, .u, .u, .u, .u, .u, .u, .u, .u, .u, .u, .u, .u, .u, .u, .u, .u, .u, .u, .u, .u, .u, .u], [(.live false true (flat c32 a0))]⟩)
      (obs := [.eq (decide ((((a0.length : Nat) : Int) : Int) > 10000)) false]) (by kernel_rfl) ⟨h0, trivial⟩ ⟨Int.toNat (((a0.length : Nat) : Int) - 0) + 1, ?_⟩
    exact L120_L_0 a0 l0 hcx (Int.toNat (((a0.length : Nat) : Int) - 0) + 1) 0 0 0 (by (try simp only [List.length_append, List.length_cons, List.length_nil, Int.toNat_zero]); omega) (by (try simp only [List.length_append, List.length_cons, List.length_nil, Int.toNat_zero]); omega)

/-- facet/facetref01.Sum at ('L',) -/
def F100_L (a0 : List (Int × Int)) : (Int × Int) × Int :=
  (bif (((F120_L a0).2.2 : Int) != 0) then
   ((0, 0), (F120_L a0).2.2)
  else
   ((F121 (F120_L a0).1 (F120_L a0).2.1).1, (F121 (F120_L a0).1 (F120_L a0).2.1).2))

theorem C100_L (a0 : List (Int × Int)) (l0 : a0.length ≤ 9223372036854775807) : Con Try.prog 100 [(.s 0 0 a0.length 2)] [(.live false true (flat c32 a0))] (.t [(.a (k2 (F100_L a0).1)), (iv (F100_L a0).2)]) [] := by
  cases h0 : (((F120_L a0).2.2 : Int) != 0) with
  | true =>
    have q0 := bne_iff_ne.1 h0
    have e : (F100_L a0) = ((0, 0), (F120_L a0).2.2) := by simp only [F100_L, h0, cond_true, cond_false]
    rw [e]
    refine con_of (n := 9) Try.func100 rfl (ent Try.func100 (by kernel_rfl) rfl) (by show 1 ≤ Try.f100.ntmps; decide) (by kernel_rfl) ⟨rfl, trivial⟩ (fun cx hcx => ?_)
    exact ret_of (T := T0) hT hm (f := 5000) (orc := [.call [0] (.t (k3 (F120_L a0))) [], .d true]) [] [] [] hcx
      (obs := [.call 120 [(.s 0 0 a0.length 2)] [(.live false true (flat c32 a0))] (.t (k3 (F120_L a0))) [], .eq (((F120_L a0).2.2 : Int) != 0) true]) (by kernel_rfl) ⟨(C120_L a0 (by (try simp only [List.length_append, List.length_cons, List.length_nil, Int.toNat_zero, axis3, axis1]); omega)), h0, trivial⟩
  | false =>
    have q0 := bne_eq_false_iff_eq.1 h0
    have e : (F100_L a0) = ((F121 (F120_L a0).1 (F120_L a0).2.1).1, (F121 (F120_L a0).1 (F120_L a0).2.1).2) := by simp only [F100_L, h0, cond_true, cond_false]
    rw [e]
    refine con_of (n := 9) Try.func100 rfl (ent Try.func100 (by kernel_rfl) rfl) (by show 1 ≤ Try.f100.ntmps; decide) (by kernel_rfl) ⟨rfl, trivial⟩ (fun cx hcx => ?_)
    exact ret_of (T := T0) hT hm (f := 5000) (orc := [.call [0] (.t (k3 (F120_L a0))) [], .d false, .call [] (.t [(.a (k2 (F121 (F120_L a0).1 (F120_L a0).2.1).1)), (iv (F121 (F120_L a0).1 (F120_L a0).2.1).2)]) []]) [] [] [] hcx
      (obs := [.call 120 [(.s 0 0 a0.length 2)] [(.live false true (flat c32 a0))] (.t (k3 (F120_L a0))) [], .eq (((F120_L a0).2.2 : Int) != 0) false, .call 121 [(iv (F120_L a0).1), (iv (F120_L a0).2.1)] [] (.t [(.a (k2 (F121 (F120_L a0).1 (F120_L a0).2.1).1)), (iv (F121 (F120_L a0).1 (F120_L a0).2.1).2)]) []]) (by kernel_rfl) ⟨(C120_L a0 (by (try simp only [List.length_append, List.length_cons, List.length_nil, Int.toNat_zero, axis3, axis1]); omega)), h0, (C121 (F120_L a0).1 (F120_L a0).2.1), trivial⟩

/-- facet/facetref01.Down -/
def F122 (a0 : Int) (a1 : Int) : Int :=
  (bif (decide (((Int.tmod a0 a1) : Int) < 0)) then
   (W ((W (Int.tdiv a0 a1)) - 1))
  else
   (W (Int.tdiv a0 a1)))

theorem C122 (a0 : Int) (a1 : Int) (ha : a1 ≠ 0) : Con Try.prog 122 [(iv a0), (iv a1)] [] (iv (F122 a0 a1)) [] := by
  cases h0 : (decide (((Int.tmod a0 a1) : Int) < 0)) with
  | true =>
    have q0 := of_decide_eq_true h0
    have e : (F122 a0 a1) = (W ((W (Int.tdiv a0 a1)) - 1)) := by simp only [F122, h0, cond_true, cond_false]
    rw [e]
    refine con_of (n := 9) Try.func122 rfl (ent Try.func122 (by kernel_rfl) rfl) (by show 2 ≤ Try.f122.ntmps; decide) (by kernel_rfl) trivial (fun cx hcx => ?_)
    exact ret_of (T := T0) hT hm (f := 5000) (orc := [.d true]) [] [] [] hcx
      (obs := [.pr ((a1 : Int) ≠ 0), .pr ((a1 : Int) ≠ 0), .eq (decide (((Int.tmod a0 a1) : Int) < 0)) true]) (by kernel_rfl) ⟨(show (a1 : Int) ≠ 0 from by first | omega | (rw [W_eq] <;> omega) | exact u64_nn _), (show (a1 : Int) ≠ 0 from by first | omega | (rw [W_eq] <;> omega) | exact u64_nn _), h0, trivial⟩
  | false =>
    have q0 := of_decide_eq_false h0
    have e : (F122 a0 a1) = (W (Int.tdiv a0 a1)) := by simp only [F122, h0, cond_true, cond_false]
    rw [e]
    refine con_of (n := 9) Try.func122 rfl (ent Try.func122 (by kernel_rfl) rfl) (by show 2 ≤ Try.f122.ntmps; decide) (by kernel_rfl) trivial (fun cx hcx => ?_)
    exact ret_of (T := T0) hT hm (f := 5000) (orc := [.d false]) [] [] [] hcx
      (obs := [.pr ((a1 : Int) ≠ 0), .pr ((a1 : Int) ≠ 0), .eq (decide (((Int.tmod a0 a1) : Int) < 0)) false]) (by kernel_rfl) ⟨(show (a1 : Int) ≠ 0 from by first | omega | (rw [W_eq] <;> omega) | exact u64_nn _), (show (a1 : Int) ≠ 0 from by first | omega | (rw [W_eq] <;> omega) | exact u64_nn _), h0, trivial⟩

/-- facet/facetref01.Up -/
def F123 (a0 : Int) (a1 : Int) : Int :=
  (W (0 - (F122 (W (0 - a0)) a1)))

theorem C123 (a0 : Int) (a1 : Int) (ha : a1 ≠ 0) : Con Try.prog 123 [(iv a0), (iv a1)] [] (iv (F123 a0 a1)) [] := by
  have e : (F123 a0 a1) = (W (0 - (F122 (W (0 - a0)) a1))) := by simp only [F123]
  rw [e]
  refine con_of (n := 9) Try.func123 rfl (ent Try.func123 (by kernel_rfl) rfl) (by show 2 ≤ Try.f123.ntmps; decide) (by kernel_rfl) trivial (fun cx hcx => ?_)
  exact ret_of (T := T0) hT hm (f := 5000) (orc := [.call [] (iv (F122 (W (0 - a0)) a1)) []]) [] [] [] hcx
    (obs := [.call 122 [(iv (W (0 - a0))), (iv a1)] [] (iv (F122 (W (0 - a0)) a1)) []]) (by kernel_rfl) ⟨(C122 (W (0 - a0)) a1  (by (try simp only [List.length_append, List.length_cons, List.length_nil, Int.toNat_zero, axis3, axis1]); omega)), trivial⟩

/-- facet/facetref01.Mean at ('L',) -/
def F93_L (a0 : List (Int × Int)) : (Int × Int) × Int :=
  (bif (((F120_L a0).2.2 : Int) != 0) then
   ((0, 0), (F120_L a0).2.2)
  else
   (bif ((((a0.length : Nat) : Int) : Int) == 0) then
    ((0, 0), 1)
   else
    ((F121 (F122 (F120_L a0).1 ((a0.length : Nat) : Int)) (F123 (F120_L a0).2.1 ((a0.length : Nat) : Int))).1, (F121 (F122 (F120_L a0).1 ((a0.length : Nat) : Int)) (F123 (F120_L a0).2.1 ((a0.length : Nat) : Int))).2)))

noncomputable def oC93_L_0 (a0 : List (Int × Int)) : Ob := .call 120 [(.s 0 0 a0.length 2)] [(.live false true (flat c32 a0))] (.t (k3 (F120_L a0))) []
theorem C93_L (a0 : List (Int × Int)) (l0 : a0.length ≤ 9223372036854775807) : Con Try.prog 93 [(.s 0 0 a0.length 2)] [(.live false true (flat c32 a0))] (.t [(.a (k2 (F93_L a0).1)), (iv (F93_L a0).2)]) [] := by
  cases h0 : (((F120_L a0).2.2 : Int) != 0) with
  | true =>
    have q0 := bne_iff_ne.1 h0
    have e : (F93_L a0) = ((0, 0), (F120_L a0).2.2) := by simp only [F93_L, h0, cond_true, cond_false]
    rw [e]
    refine con_of (n := 9) Try.func93 rfl (ent Try.func93 (by kernel_rfl) rfl) (by show 1 ≤ Try.f93.ntmps; decide) (by kernel_rfl) ⟨rfl, trivial⟩ (fun cx hcx => ?_)
    exact ret_of (T := T0) hT hm (f := 5000) (orc := [.call [0] (.t (k3 (F120_L a0))) [], .d true]) [] [] [] hcx
      (obs := [(oC93_L_0 a0), .eq (((F120_L a0).2.2 : Int) != 0) true]) (by kernel_rfl) ⟨(C120_L a0 (by (try simp only [List.length_append, List.length_cons, List.length_nil, Int.toNat_zero, axis3, axis1]); omega)), h0, trivial⟩
  | false =>
    cases h1 : ((((a0.length : Nat) : Int) : Int) == 0) with
    | true =>
      have q0 := bne_eq_false_iff_eq.1 h0
      have q1 := eq_of_beq h1
      have e : (F93_L a0) = ((0, 0), 1) := by simp only [F93_L, h0, h1, cond_true, cond_false]
      rw [e]
      refine con_of (n := 9) Try.func93 rfl (ent Try.func93 (by kernel_rfl) rfl) (by show 1 ≤ Try.f93.ntmps; decide) (by kernel_rfl) ⟨rfl, trivial⟩ (fun cx hcx => ?_)
      exact ret_of (T := T0) hT hm (f := 5000) (orc := [.call [0] (.t (k3 (F120_L a0))) [], .d false, .d true]) [] [] [] hcx
        (obs := [(oC93_L_0 a0), .eq (((F120_L a0).2.2 : Int) != 0) false, .eq ((((a0.length : Nat) : Int) : Int) == 0) true]) (by kernel_rfl) ⟨(C120_L a0 (by (try simp only [List.length_append, List.length_cons, List.length_nil, Int.toNat_zero, axis3, axis1]); omega)), h0, h1, trivial⟩
    | false =>
      have q0 := bne_eq_false_iff_eq.1 h0
      have q1 := ne_of_beq_false h1
      have e : (F93_L a0) = ((F121 (F122 (F120_L a0).1 ((a0.length : Nat) : Int)) (F123 (F120_L a0).2.1 ((a0.length : Nat) : Int))).1, (F121 (F122 (F120_L a0).1 ((a0.length : Nat) : Int)) (F123 (F120_L a0).2.1 ((a0.length : Nat) : Int))).2) := by simp only [F93_L, h0, h1, cond_true, cond_false]
      rw [e]
      refine con_of (n := 9) Try.func93 rfl (ent Try.func93 (by kernel_rfl) rfl) (by show 1 ≤ Try.f93.ntmps; decide) (by kernel_rfl) ⟨rfl, trivial⟩ (fun cx hcx => ?_)
      exact ret_of (T := T0) hT hm (f := 5000) (orc := [.call [0] (.t (k3 (F120_L a0))) [], .d false, .d false, .call [] (iv (F122 (F120_L a0).1 ((a0.length : Nat) : Int))) [], .call [] (iv (F123 (F120_L a0).2.1 ((a0.length : Nat) : Int))) [], .call [] (.t [(.a (k2 (F121 (F122 (F120_L a0).1 ((a0.length : Nat) : Int)) (F123 (F120_L a0).2.1 ((a0.length : Nat) : Int))).1)), (iv (F121 (F122 (F120_L a0).1 ((a0.length : Nat) : Int)) (F123 (F120_L a0).2.1 ((a0.length : Nat) : Int))).2)]) []]) [] [] [] hcx
        (obs := [(oC93_L_0 a0), .eq (((F120_L a0).2.2 : Int) != 0) false, .eq ((((a0.length : Nat) : Int) : Int) == 0) false, .call 122 [(iv (F120_L a0).1), (iv ((a0.length : Nat) : Int))] [] (iv (F122 (F120_L a0).1 ((a0.length : Nat) : Int))) [], .call 123 [(iv (F120_L a0).2.1), (iv ((a0.length : Nat) : Int))] [] (iv (F123 (F120_L a0).2.1 ((a0.length : Nat) : Int))) [], .call 121 [(iv (F122 (F120_L a0).1 ((a0.length : Nat) : Int))), (iv (F123 (F120_L a0).2.1 ((a0.length : Nat) : Int)))] [] (.t [(.a (k2 (F121 (F122 (F120_L a0).1 ((a0.length : Nat) : Int)) (F123 (F120_L a0).2.1 ((a0.length : Nat) : Int))).1)), (iv (F121 (F122 (F120_L a0).1 ((a0.length : Nat) : Int)) (F123 (F120_L a0).2.1 ((a0.length : Nat) : Int))).2)]) []]) (by kernel_rfl) ⟨(C120_L a0 (by (try simp only [List.length_append, List.length_cons, List.length_nil, Int.toNat_zero, axis3, axis1]); omega)), h0, h1, (C122 (F120_L a0).1 ((a0.length : Nat) : Int)  (by (try simp only [List.length_append, List.length_cons, List.length_nil, Int.toNat_zero, axis3, axis1]); omega)), (C123 (F120_L a0).2.1 ((a0.length : Nat) : Int)  (by (try simp only [List.length_append, List.length_cons, List.length_nil, Int.toNat_zero, axis3, axis1]); omega)), (C121 (F122 (F120_L a0).1 ((a0.length : Nat) : Int)) (F123 (F120_L a0).2.1 ((a0.length : Nat) : Int))), trivial⟩

end Go.Proofs.Ytopbnnmkdildgaa

namespace Go.Proofs.Ytopbnnmkdildgaa
open Go.Proofs Go.Aw Go.RowKit
set_option maxRecDepth 100000
set_option linter.unusedVariables false
set_option linter.unusedSimpArgs false

/-! ### Roots -/
theorem sq_unique {n a b : Int} (ha : 0 ≤ a) (hb : 0 ≤ b) (h1 : a * a ≤ n) (h2 : n < (a + 1) * (a + 1)) (h3 : b * b ≤ n) (h4 : n < (b + 1) * (b + 1)) : a = b := by
  rcases Int.lt_trichotomy a b with h | h | h
  · have : (a + 1) * (a + 1) ≤ b * b := Int.mul_le_mul (by omega) (by omega) (by omega) hb
    omega
  · exact h
  · have : (b + 1) * (b + 1) ≤ a * a := Int.mul_le_mul (by omega) (by omega) (by omega) ha
    omega
/-- r is the root of n, rounded down -/
def IsRt (n r : Int) : Prop := 0 ≤ r ∧ r * r ≤ n ∧ n < (r + 1) * (r + 1)
theorem IsRt.eq {n a b : Int} (h : IsRt n a) (h' : IsRt n b) : a = b := sq_unique h.1 h'.1 h.2.1 h.2.2 h'.2.1 h'.2.2
theorem IsRt.le {n r m : Int} (h : IsRt n r) (hm : 0 ≤ m) (hn : n < (m + 1) * (m + 1)) : r ≤ m := by
  rcases Int.lt_or_le m r with hlt | hle
  · have : (m + 1) * (m + 1) ≤ r * r := Int.mul_le_mul (by omega) (by omega) (by omega) h.1
    have := h.2.1; omega
  · exact hle
theorem IsRt.ge {n r m : Int} (h : IsRt n r) (hm : 0 ≤ m) (hn : m * m ≤ n) : m ≤ r := by
  rcases Int.lt_or_le r m with hlt | hle
  · have : (r + 1) * (r + 1) ≤ m * m := Int.mul_le_mul (by omega) (by omega) (by have := h.1; omega) hm
    have := h.2.2; omega
  · exact hle
theorem IsRt.mono {n m a b : Int} (h : IsRt n a) (h' : IsRt m b) (hnm : n ≤ m) : a ≤ b := h'.ge h.1 (Int.le_trans h.2.1 hnm)

theorem bits_spec {n : Int} {S : Int × Int → (Int × Int) ⊕ Int} (hS : ∀ k b, 0 ≤ k → 0 < b → k + b ≤ 2147483648 → S (k, b) = if (k + b) * (k + b) ≤ n then .inl (k + b, b / 2) else .inl (k, b / 2)) (h0 : ∀ k, S (k, 0) = .inr k) :
    ∀ (j f : Nat) (k : Int), j + 2 ≤ f → 0 ≤ k → k + 2 * 2 ^ j ≤ 2147483648 → k * k ≤ n → n < (k + 2 * 2 ^ j) * (k + 2 * 2 ^ j) → IsRt n (loopF S f (k, 2 ^ j)) := by
  intro j
  induction j with
  | zero =>
    intro f k hf hk hb h1 h2
    obtain ⟨f, rfl⟩ : ∃ g, f = g + 2 := ⟨f - 2, by omega⟩
    simp only [Int.pow_zero] at h2 hb ⊢
    have hs := hS k 1 hk (by omega) (by omega)
    by_cases hc : (k + 1) * (k + 1) ≤ n
    · rw [if_pos hc] at hs
      rw [loopF_inl hs, show ((1 : Int) / 2) = 0 by omega, loopF_inr (h0 _)]
      refine ⟨by omega, hc, ?_⟩
      rw [show k + 1 + 1 = k + 2 * 1 by omega]; exact h2
    · rw [if_neg hc] at hs
      rw [loopF_inl hs, show ((1 : Int) / 2) = 0 by omega, loopF_inr (h0 _)]
      exact ⟨hk, h1, by omega⟩
  | succ j ih =>
    intro f k hf hk hb h1 h2
    obtain ⟨f, rfl⟩ : ∃ g, f = g + 1 := ⟨f - 1, by omega⟩
    have hp : (0 : Int) < 2 ^ j := Int.pow_pos (by omega)
    rw [Int.pow_succ] at h2 hb ⊢
    have hs := hS k (2 ^ j * 2) hk (by omega) (by omega)
    have hd : (2 : Int) ^ j * 2 / 2 = 2 ^ j := Int.mul_ediv_cancel _ (by omega)
    rw [hd] at hs
    by_cases hc : (k + 2 ^ j * 2) * (k + 2 ^ j * 2) ≤ n
    · rw [if_pos hc] at hs
      rw [loopF_inl hs]
      refine ih f _ (by omega) (by omega) (by omega) hc ?_
      rw [show k + 2 ^ j * 2 + 2 * 2 ^ j = k + 2 * ((2 : Int) ^ j * 2) by omega]; exact h2
    · rw [if_neg hc] at hs
      rw [loopF_inl hs]
      refine ih f _ (by omega) hk (by omega) h1 ?_
      rw [show k + 2 * (2 : Int) ^ j = k + 2 ^ j * 2 by omega]; omega

theorem bins_spec {n : Int} {S : Int × Int → (Int × Int) ⊕ Int} (hS : ∀ a b, 0 ≤ a → a < b → b ≤ 2147483648 → S (a, b) = if ((a + b + 1) / 2) * ((a + b + 1) / 2) ≤ n then .inl ((a + b + 1) / 2, b) else .inl (a, (a + b + 1) / 2 - 1)) (h0 : ∀ a, S (a, a) = .inr a) :
    ∀ (f : Nat) (a b : Int), 0 ≤ a → a ≤ b → b ≤ 2147483648 → b - a < f → a * a ≤ n → n < (b + 1) * (b + 1) → IsRt n (loopF S f (a, b)) := by
  intro f
  induction f with
  | zero => intro a b _ h _ hf; omega
  | succ f ih =>
    intro a b ha hab hb hf h1 h2
    by_cases he : a = b
    · subst he
      rw [loopF_inr (h0 a)]; exact ⟨ha, h1, h2⟩
    · have hs := hS a b ha (by omega) hb
      by_cases hc : ((a + b + 1) / 2) * ((a + b + 1) / 2) ≤ n
      · rw [if_pos hc] at hs
        rw [loopF_inl hs]
        exact ih _ _ (by omega) (by omega) hb (by omega) hc h2
      · rw [if_neg hc] at hs
        rw [loopF_inl hs]
        refine ih _ _ ha (by omega) (by omega) (by omega) h1 ?_
        rw [show (a + b + 1) / 2 - 1 + 1 = (a + b + 1) / 2 by omega]; omega

theorem sq_bd {a : Int} (h : 0 ≤ a) (h' : a ≤ 2147483648) : 0 ≤ a * a ∧ a * a ≤ 4611686018427387904 := ⟨Int.mul_nonneg h h, Int.le_trans (Int.mul_le_mul h' h' h (by omega)) (by omega)⟩

theorem rtSpan {n : Int} (h0 : 0 ≤ n) (h : n < 4611686018427387904) : IsRt n (F149 n) := by
  unfold F149
  rw [show decide ((4611686018427387904 : Int) ≤ n) = false by simpa using h]
  simp only [cond_false]
  refine bits_spec (n := n) (fun k b hk hb hkb => ?_) (fun k => ?_) 30 _ 0 (by decide) (by omega) (by decide) (by omega) (by simpa using h)
  · have h2 : ((b : Int) == 0) = false := by rw [beq_eq_false_iff_ne]; omega
    have hw : W (k + b) = k + b := W_eq (by omega) (by omega)
    have hq := sq_bd (a := k + b) (by omega) hkb
    have hw2 : W ((k + b) * (k + b)) = (k + b) * (k + b) := W_eq (by omega) (by omega)
    simp only [S149_0, h2, cond_false, hw, hw2]
    by_cases hc : (k + b) * (k + b) ≤ n <;> simp [hc]
  · simp [S149_0]

theorem rtRef {n : Int} (h0 : 0 ≤ n) (h : n < 4611686018427387904) : IsRt n (F159 n) := by
  unfold F159
  refine bins_spec (n := n) (fun a b ha hab hb => ?_) (fun a => ?_) _ 0 2147483648 (by omega) (by omega) (by omega) (by decide) (by omega) (by omega)
  · have h2 : decide (a < b) = true := by simpa using hab
    have hw := mid1_eq (a := a) (b := b) (by omega)
    have hw3 := mid2_eq (a := a) (b := b) (by omega)
    have hq := sq_bd (a := (a + b + 1) / 2) (by omega) (by omega)
    have hw2 : W ((a + b + 1) / 2 * ((a + b + 1) / 2)) = (a + b + 1) / 2 * ((a + b + 1) / 2) := W_eq (by omega) (by omega)
    have hw4 : W ((a + b + 1) / 2 - 1) = (a + b + 1) / 2 - 1 := W_eq (by omega) (by omega)
    simp only [S159_0, h2, cond_true, hw, hw2, hw4]
    by_cases hc : (a + b + 1) / 2 * ((a + b + 1) / 2) ≤ n <;> simp [hc]
  · simp [S159_0]

/-! ### Points, in whole numbers -/
abbrev P3 := Int × Int × Int
abbrev PN := P3 × P3 × P3
def bd (m : Int) (p : P3) : Prop := (-m ≤ p.1 ∧ p.1 ≤ m) ∧ (-m ≤ p.2.1 ∧ p.2.1 ≤ m) ∧ (-m ≤ p.2.2 ∧ p.2.2 ≤ m)
def bdP (m : Int) (p : PN) : Prop := bd m p.1 ∧ bd m p.2.1 ∧ bd m p.2.2
def sb (p q : P3) : P3 := (p.1 - q.1, p.2.1 - q.2.1, p.2.2 - q.2.2)
def dt (p q : P3) : Int := p.1 * q.1 + p.2.1 * q.2.1 + p.2.2 * q.2.2
def cr (p q : P3) : P3 := (p.2.1 * q.2.2 - p.2.2 * q.2.1, p.2.2 * q.1 - p.1 * q.2.2, p.1 * q.2.1 - p.2.1 * q.1)
def nrm (p : PN) : P3 := cr (sb p.2.1 p.1) (sb p.2.2 p.1)

theorem mul_bd {a b x y : Int} (hx : -a ≤ x ∧ x ≤ a) (hy : -b ≤ y ∧ y ≤ b) : -(a * b) ≤ x * y ∧ x * y ≤ a * b := by
  have h1 := Int.mul_nonneg (show 0 ≤ a - x by omega) (show 0 ≤ b - y by omega)
  have h2 := Int.mul_nonneg (show 0 ≤ a + x by omega) (show 0 ≤ b + y by omega)
  have h3 := Int.mul_nonneg (show 0 ≤ a - x by omega) (show 0 ≤ b + y by omega)
  have h4 := Int.mul_nonneg (show 0 ≤ a + x by omega) (show 0 ≤ b - y by omega)
  rw [Int.sub_mul, Int.mul_sub, Int.mul_sub] at h1
  rw [Int.add_mul, Int.mul_add, Int.mul_add] at h2
  rw [Int.sub_mul, Int.mul_add, Int.mul_add] at h3
  rw [Int.add_mul, Int.mul_sub, Int.mul_sub] at h4
  omega

theorem bd_sb {a b : Int} {p q : P3} (hp : bd a p) (hq : bd b q) : bd (a + b) (sb p q) := by
  unfold bd at *; simp only [sb]; omega
theorem sq_nn (x : Int) : 0 ≤ x * x := by
  rcases Int.le_total 0 x with h | h
  · exact Int.mul_nonneg h h
  · exact Int.mul_nonneg_of_nonpos_of_nonpos h h
theorem dt_self (p : P3) : 0 ≤ dt p p := by
  have := sq_nn p.1; have := sq_nn p.2.1; have := sq_nn p.2.2
  simp only [dt]; omega
theorem dt_pos {p : P3} (h : ¬ (p.1 = 0 ∧ p.2.1 = 0 ∧ p.2.2 = 0)) : 1 ≤ dt p p := by
  have := sq_nn p.1; have := sq_nn p.2.1; have := sq_nn p.2.2
  have key : ∀ x : Int, x ≠ 0 → 1 ≤ x * x := fun x hx => by
    have h0 := sq_nn x
    have : x * x ≠ 0 := Int.mul_ne_zero hx hx
    omega
  simp only [dt]
  by_cases h1 : p.1 = 0
  · by_cases h2 : p.2.1 = 0
    · have := key p.2.2 (fun h3 => h ⟨h1, h2, h3⟩); omega
    · have := key _ h2; omega
  · have := key _ h1; omega
theorem dt_bd {a : Int} {p q : P3} (hp : bd a p) (hq : bd a q) : -(3 * (a * a)) ≤ dt p q ∧ dt p q ≤ 3 * (a * a) := by
  have := mul_bd hp.1 hq.1; have := mul_bd hp.2.1 hq.2.1; have := mul_bd hp.2.2 hq.2.2
  simp only [dt]; omega
theorem cr_bd {a : Int} {p q : P3} (hp : bd a p) (hq : bd a q) : bd (2 * (a * a)) (cr p q) := by
  have := mul_bd hp.2.1 hq.2.2; have := mul_bd hp.2.2 hq.2.1; have := mul_bd hp.2.2 hq.1; have := mul_bd hp.1 hq.2.2; have := mul_bd hp.1 hq.2.1; have := mul_bd hp.2.1 hq.1
  unfold bd; simp only [cr]; omega

theorem W0 {n : Int} (h : -9223372036854775808 ≤ n ∧ n < 9223372036854775808) : W n = n := W_eq h.1 h.2
theorem fsb {p q : P3} (hp : bd 100000 p) (hq : bd 100000 q) : F147 p q = sb p q := by
  unfold bd at *; simp only [F147, sb]
  rw [W_eq (by omega) (by omega), W_eq (by omega) (by omega), W_eq (by omega) (by omega)]
theorem fdt {p q : P3} (hp : bd 1000000000 p) (hq : bd 1000000000 q) : F146 p q = dt p q := by
  have h1 := mul_bd hp.1 hq.1; have h2 := mul_bd hp.2.1 hq.2.1; have h3 := mul_bd hp.2.2 hq.2.2
  simp only [F146, F158_3, dt]
  rw [W_eq (n := p.1 * q.1) (by omega) (by omega), W_eq (n := p.2.1 * q.2.1) (by omega) (by omega), W_eq (n := p.2.2 * q.2.2) (by omega) (by omega), Int.zero_add, W_eq (n := p.1 * q.1) (by omega) (by omega), W_eq (n := p.1 * q.1 + p.2.1 * q.2.1) (by omega) (by omega), W_eq (by omega) (by omega)]
theorem rsb {p q : P3} (hp : bd 100000 p) (hq : bd 100000 q) : F152 p q = sb p q := by
  unfold bd at *; simp only [F152, sb]
  rw [W_eq (by omega) (by omega), W_eq (by omega) (by omega), W_eq (by omega) (by omega)]
theorem cr_W {p q : P3} (hp : bd 1000000000 p) (hq : bd 1000000000 q) :
    ((W ((W (p.2.1 * q.2.2)) - (W (p.2.2 * q.2.1)))), (W ((W (p.2.2 * q.1)) - (W (p.1 * q.2.2)))), (W ((W (p.1 * q.2.1)) - (W (p.2.1 * q.1))))) = cr p q := by
  have h1 := mul_bd hp.2.1 hq.2.2; have h2 := mul_bd hp.2.2 hq.2.1; have h3 := mul_bd hp.2.2 hq.1; have h4 := mul_bd hp.1 hq.2.2; have h5 := mul_bd hp.1 hq.2.1; have h6 := mul_bd hp.2.1 hq.1
  simp only [cr]
  rw [W_eq (n := p.2.1 * q.2.2) (by omega) (by omega), W_eq (n := p.2.2 * q.2.1) (by omega) (by omega), W_eq (n := p.2.2 * q.1) (by omega) (by omega), W_eq (n := p.1 * q.2.2) (by omega) (by omega), W_eq (n := p.1 * q.2.1) (by omega) (by omega), W_eq (n := p.2.1 * q.1) (by omega) (by omega),
    W_eq (by omega) (by omega), W_eq (by omega) (by omega), W_eq (by omega) (by omega)]
theorem scr {p q : P3} (hp : bd 1000000000 p) (hq : bd 1000000000 q) : F128 p q = cr p q := cr_W hp hq
theorem rcr {p q : P3} (hp : bd 1000000000 p) (hq : bd 1000000000 q) : F151 p q = cr p q := cr_W hp hq
theorem ssb {p q : P3} (hp : bd 100000 p) (hq : bd 100000 q) : F129 p q = sb p q := by
  unfold bd at *; simp only [F129, F157, sb]
  rw [W_eq (n := -1 * q.1) (by omega) (by omega), W_eq (n := -1 * q.2.1) (by omega) (by omega), W_eq (n := -1 * q.2.2) (by omega) (by omega), W_eq (by omega) (by omega), W_eq (by omega) (by omega), W_eq (by omega) (by omega)]
  refine Prod.ext (by simp only; omega) (Prod.ext (by simp only; omega) (by simp only; omega))
theorem bd.mono {a b : Int} {p : P3} (h : bd a p) (hab : a ≤ b) : bd b p := by unfold bd at *; omega
theorem bdP.mono {a b : Int} {p : PN} (h : bdP a p) (hab : a ≤ b) : bdP b p := ⟨h.1.mono hab, h.2.1.mono hab, h.2.2.mono hab⟩

/-! ### Valid panels -/
theorem within_eq (n a b : Int) : F43 n a b = decide (a ≤ n ∧ n ≤ b) := by
  unfold F43
  by_cases h1 : n ≥ a <;> by_cases h2 : n ≤ b <;> simp [h1, h2] <;> omega
theorem within_eq1 (n a b : Int) : F125 n a b = decide (a ≤ n ∧ n ≤ b) := by
  unfold F125
  by_cases h1 : n ≥ a <;> by_cases h2 : n ≤ b <;> simp [h1, h2] <;> omega
theorem within_eq2 (n a b : Int) : F150 n a b = decide (a ≤ n ∧ n ≤ b) := by
  unfold F150
  by_cases h1 : n ≥ a <;> by_cases h2 : n ≤ b <;> simp [h1, h2] <;> omega
theorem from_eq (n a b : Int) : F127 n a b = decide (a ≤ n ∧ n ≤ b) := by
  unfold F127
  by_cases h1 : a ≤ n <;> by_cases h2 : n ≤ b <;> simp [h1, h2]
theorem and3 {a b c d : Prop} [Decidable a] [Decidable b] [Decidable c] [Decidable d] (h : (a ∧ b ∧ c) ↔ d) : (bif decide a then (bif decide b then decide c else false) else false) = decide d := by
  by_cases h1 : a
  · by_cases h2 : b
    · rw [decide_eq_true h1, decide_eq_true h2, cond_true, cond_true]
      by_cases h3 : c
      · rw [decide_eq_true h3, decide_eq_true (h.1 ⟨h1, h2, h3⟩)]
      · rw [decide_eq_false h3, decide_eq_false (fun hd => h3 (h.2 hd).2.2)]
    · rw [decide_eq_true h1, decide_eq_false h2, cond_true, cond_false, decide_eq_false (fun hd => h2 (h.2 hd).2.1)]
  · rw [decide_eq_false h1, cond_false, decide_eq_false (fun hd => h1 (h.2 hd).1)]
theorem eq3 (x y z a b : Int) : (bif (((x : Int) == 0) && (((y : Int) == 0) && (((z : Int) == 0) && true))) then a else b) = if x = 0 ∧ y = 0 ∧ z = 0 then a else b := by
  have key : ∀ t : Int, (t == 0) = decide (t = 0) := fun t => by
    by_cases h : t = 0
    · rw [decide_eq_true h]; simpa using h
    · rw [decide_eq_false h]; simpa using h
  rw [key, key, key, Bool.and_true, ← Bool.decide_and, ← Bool.decide_and]
  by_cases h : x = 0 ∧ y = 0 ∧ z = 0
  · rw [if_pos h, decide_eq_true h, cond_true]
  · rw [if_neg h, decide_eq_false h, cond_false]
open Classical in
theorem inRange_eq (p : P3) : F95 p 64 = decide (bd 64 p) := by
  unfold F95
  rw [from_eq, from_eq, from_eq, W_eq (by omega) (by omega)]
  exact and3 (by unfold bd; omega)
open Classical in
theorem near02_eq (p : P3) : F111 p 64 = decide (bd 64 p) := by
  unfold F111
  rw [within_eq2, within_eq2, within_eq2, W_eq (by omega) (by omega)]
  exact and3 (by unfold bd; omega)
open Classical in
noncomputable def vp (p : PN) : Int := if bdP 64 p then (if (nrm p).1 = 0 ∧ (nrm p).2.1 = 0 ∧ (nrm p).2.2 = 0 then 6 else 0) else 1
theorem nrm_s {p : PN} (h : bdP 64 p) : F96 p = nrm p := by
  have h1 := h.1.mono (show (64 : Int) ≤ 100000 by omega); have h2 := h.2.1.mono (show (64 : Int) ≤ 100000 by omega); have h3 := h.2.2.mono (show (64 : Int) ≤ 100000 by omega)
  unfold F96 nrm
  rw [ssb h2 h1, ssb h3 h1]
  exact scr ((bd_sb h.2.1 h.1).mono (by omega)) ((bd_sb h.2.2 h.1).mono (by omega))
theorem nrm_r {p : PN} (h : bdP 64 p) : F112 p = nrm p := by
  have h1 := h.1.mono (show (64 : Int) ≤ 100000 by omega); have h2 := h.2.1.mono (show (64 : Int) ≤ 100000 by omega); have h3 := h.2.2.mono (show (64 : Int) ≤ 100000 by omega)
  unfold F112 nrm
  rw [rsb h2 h1, rsb h3 h1]
  exact rcr ((bd_sb h.2.1 h.1).mono (by omega)) ((bd_sb h.2.2 h.1).mono (by omega))
theorem vp_s (p : PN) : F66 p = vp p := by
  unfold F66 vp
  rw [inRange_eq, inRange_eq, inRange_eq]
  by_cases h1 : bd 64 p.1
  · by_cases h2 : bd 64 p.2.1
    · by_cases h3 : bd 64 p.2.2
      · have hb : bdP 64 p := ⟨h1, h2, h3⟩
        rw [nrm_s hb, if_pos hb]
        rw [eq3]; simp [h1, h2, h3]
      · simp [h1, h2, h3, bdP]
    · simp [h1, h2, bdP]
  · simp [h1, bdP]
theorem vp_r (p : PN) : F85 p = vp p := by
  unfold F85 vp
  rw [near02_eq, near02_eq, near02_eq]
  by_cases h1 : bd 64 p.1
  · by_cases h2 : bd 64 p.2.1
    · by_cases h3 : bd 64 p.2.2
      · have hb : bdP 64 p := ⟨h1, h2, h3⟩
        rw [nrm_r hb, if_pos hb]
        rw [eq3]; simp [h1, h2, h3]
      · simp [h1, h2, h3, bdP]
    · simp [h1, h2, bdP]
  · simp [h1, bdP]
/-- a valid panel -/
theorem vp_ok {p : PN} (h : vp p = 0) : bdP 64 p ∧ 1 ≤ dt (nrm p) (nrm p) := by
  unfold vp at h
  split at h
  · rename_i hb
    split at h
    · cases h
    · rename_i hn; exact ⟨hb, dt_pos hn⟩
  · cases h
theorem nn_bd {p : PN} (h : bdP 64 p) : bd 32768 (nrm p) ∧ dt (nrm p) (nrm p) ≤ 3221225472 := by
  have hb : bd (2 * (128 * 128)) (nrm p) := cr_bd (bd_sb h.2.1 h.1) (bd_sb h.2.2 h.1)
  exact ⟨hb.mono (by omega), by have := (dt_bd hb hb).2; omega⟩
end Go.Proofs.Ytopbnnmkdildgaa

namespace Go.Proofs.Ytopbnnmkdildgaa
open Go.Proofs Go.Aw Go.RowKit
set_option maxRecDepth 100000
set_option linter.unusedVariables false
set_option linter.unusedSimpArgs false

/-! ### The reference's list of parts -/
/-! ### It is the program's -/
def quad (x : PN) : List PN := [q1 x, q2 x, q3 x, q4 x]
theorem times_f {p : P3} (h : bd 100000 p) : F103 p 2 = (2 * p.1, 2 * p.2.1, 2 * p.2.2) := by
  unfold bd at h; simp only [F103]; rw [W_eq (by omega) (by omega), W_eq (by omega) (by omega), W_eq (by omega) (by omega)]
theorem mid_f {p q : P3} (hp : bd 100000 p) (hq : bd 100000 q) : F143 p q = (p.1 + q.1, p.2.1 + q.2.1, p.2.2 + q.2.2) := by
  unfold bd at hp hq; simp only [F143]; rw [W_eq (by omega) (by omega), W_eq (by omega) (by omega), W_eq (by omega) (by omega)]
theorem quad_bd {m : Int} {x y : PN} (h : bdP m x) (hm : m ≤ 100000) (hy : y ∈ quad x) : bdP (2 * m) y := by
  have h1 := h.1.mono hm; have h2 := h.2.1.mono hm; have h3 := h.2.2.mono hm
  unfold quad q1 q2 q3 q4 at hy
  rw [mid_f h1 h2, mid_f h3 h1, mid_f h2 h3, times_f h1, times_f h2, times_f h3] at hy
  have ha := h.1; have hb := h.2.1; have hc := h.2.2
  unfold bd at ha hb hc
  simp only [List.mem_cons, List.mem_nil_iff, or_false] at hy
  unfold bdP bd
  rcases hy with rfl | rfl | rfl | rfl <;> simp only <;> omega
theorem cutL_quad : ∀ (d : Nat) (p : PN), cutL (d + 1) p = (cutL d p).flatMap quad
  | 0, p => by simp [cutL, quad]
  | d + 1, p => by
    rw [show cutL (d + 1 + 1) p = cutL (d + 1) (q1 p) ++ (cutL (d + 1) (q2 p) ++ (cutL (d + 1) (q3 p) ++ cutL (d + 1) (q4 p))) from rfl]
    rw [cutL_quad d (q1 p), cutL_quad d (q2 p), cutL_quad d (q3 p), cutL_quad d (q4 p)]
    simp only [cutL, List.flatMap_append]
theorem cutL_bd : ∀ (d : Nat) {m : Int} {p x : PN}, bdP m p → m * 2 ^ d ≤ 100000 → 0 ≤ m → x ∈ cutL d p → bdP (m * 2 ^ d) x
  | 0, m, p, x, h, _, _, hx => by simp [cutL] at hx; subst hx; simpa using h
  | d + 1, m, p, x, h, hm, h0, hx => by
    rw [cutL_quad, List.mem_flatMap] at hx
    obtain ⟨y, hy, hx⟩ := hx
    have hp : (0 : Int) < 2 ^ d := Int.pow_pos (by omega)
    have hle : m * 2 ^ d ≤ m * 2 ^ (d + 1) := Int.mul_le_mul_of_nonneg_left (by rw [Int.pow_succ]; omega) h0
    have := quad_bd (cutL_bd d h (by omega) h0 hy) (by omega) hx
    rw [Int.pow_succ, ← Int.mul_assoc, Int.mul_comm]; exact this
theorem flatMap_eq {α β : Type} {f g : α → List β} : ∀ {l : List α}, (∀ x ∈ l, f x = g x) → l.flatMap f = l.flatMap g
  | [], _ => rfl
  | x :: l, h => by rw [List.flatMap_cons, List.flatMap_cons, h x (by simp), flatMap_eq (fun y hy => h y (by simp [hy]))]
end Go.Proofs.Ytopbnnmkdildgaa

namespace Go.Proofs.Ytopbnnmkdildgaa
open Go.Proofs Go.Aw Go.RowKit
set_option maxRecDepth 100000
set_option linter.unusedVariables false
set_option linter.unusedSimpArgs false

/-- facet/field.cut -/
theorem C104 (a0 : (Int × Int × Int) × (Int × Int × Int) × Int × Int × Int) (a1 : Int) : Con Try.prog 104 [(.a (k9 a0)), (iv a1)] [] (.f 141 [(.p 0 0), (.p 1 0)]) [(.live true false (k9 a0)), (.live true false [(iv a1)])] := by
  refine con_of (n := 9) Try.func104 rfl (ent Try.func104 (by kernel_rfl) rfl) (by show 2 ≤ Try.f104.ntmps; decide) (by kernel_rfl) trivial (fun cx hcx => ?_)
  exact ret_of (T := T0) hT hm (f := 5000) (orc := []) [] [] [0, 1] hcx
    (obs := []) (by kernel_rfl) trivial

/-- api.Panel, as cells -/
def c26 (x : (Int × Int × Int) × (Int × Int × Int) × Int × Int × Int) : List SV := [(iv x.1.1), (iv x.1.2.1), (iv x.1.2.2), (iv x.2.1.1), (iv x.2.1.2.1), (iv x.2.1.2.2), (iv x.2.2.1), (iv x.2.2.2.1), (iv x.2.2.2.2)]
theorem c26_len (x : (Int × Int × Int) × (Int × Int × Int) × Int × Int × Int) : (c26 x).length = 9 := rfl

noncomputable def RA153_n_c141 : Code := match (codeAtD [1, 0, 1, 0] [] (Try.f153.body.getD .skip)).1 with
  | .rangeFunc _ _ a b => a
  | _ => .skip

noncomputable def RB153_n_c141 : Code := match (codeAtD [1, 0, 1, 0] [] (Try.f153.body.getD .skip)).1 with
  | .rangeFunc _ _ a b => b
  | _ => .skip

noncomputable def RK153_n_c141 : List K := (codeAtD [1, 0, 1, 0] [] (Try.f153.body.getD .skip)).2

/-- between two rounds of the range of slices.AppendSeq[[]facet/api.Panel,facet/api.Panel]; the variables: v1 = h2_0 -/
def st153_n_c141 (a1_0 : (Int × Int × Int) × (Int × Int × Int) × Int × Int × Int) (a1_1 : Int) : List ((Int × Int × Int) × (Int × Int × Int) × Int × Int × Int) → LS
  | v1 => ⟨[.u, .u, (.p 2 0), .u, .u, .u, (.f 141 [(.p 0 0), (.p 1 0)]), .u, .u, .u, .u, .u, .u], [(.live false false (k9 a1_0)), (.live false false [(iv a1_1)]), (.live true false [(.s 3 0 v1.length 9)]), (.live true true (flat c26 v1))]⟩

def sA153_n_c141 (a1_0 : (Int × Int × Int) × (Int × Int × Int) × Int × Int × Int) (a1_1 : Int) : List ((Int × Int × Int) × (Int × Int × Int) × Int × Int × Int) → (Int × Int × Int) × (Int × Int × Int) × Int × Int × Int → LS
  | v1, x => ⟨[.u, .u, (.p 2 0), .u, .u, (.p 3 0), .u, .u, .u, .u, .u, .u, .u], [(.live false false (k9 a1_0)), (.live false false [(iv a1_1)]), (.live true false [(.s 4 0 v1.length 9)]), (.live true false (k9 x)), (.live true true (flat c26 v1))]⟩

def S153_n_c141_r (a1_0 : (Int × Int × Int) × (Int × Int × Int) × Int × Int × Int) (a1_1 : Int) : List ((Int × Int × Int) × (Int × Int × Int) × Int × Int × Int) → (Int × Int × Int) × (Int × Int × Int) × Int × Int × Int → List ((Int × Int × Int) × (Int × Int × Int) × Int × Int × Int)
  | v1, x =>
   (v1 ++ [x])

def G153_n_c141 (a1_0 : (Int × Int × Int) × (Int × Int × Int) × Int × Int × Int) (a1_1 : Int) : List ((Int × Int × Int) × (Int × Int × Int) × Int × Int × Int) → List ((Int × Int × Int) × (Int × Int × Int) × Int × Int × Int)
  | v1 =>
   v1

def inv153_n_c141 (a1_0 : (Int × Int × Int) × (Int × Int × Int) × Int × Int × Int) (a1_1 : Int) : Nat → List ((Int × Int × Int) × (Int × Int × Int) × Int × Int × Int) → Prop
  | i, v1 => (v1.length = i)

/-- slices.AppendSeq[[]facet/api.Panel,facet/api.Panel] at ('n', 'c141') -/
def F153_n_c141 (a1_0 : (Int × Int × Int) × (Int × Int × Int) × Int × Int × Int) (a1_1 : Int) : List ((Int × Int × Int) × (Int × Int × Int) × Int × Int × Int) :=
  (G153_n_c141 a1_0 a1_1 ((cutL (Int.toNat a1_1) a1_0).foldl (S153_n_c141_r a1_0 a1_1) ([] : List ((Int × Int × Int) × (Int × Int × Int) × Int × Int × Int))))

theorem C153_n_c141 (a1_0 : (Int × Int × Int) × (Int × Int × Int) × Int × Int × Int) (a1_1 : Int) (ha : 0 ≤ a1_1 ∧ a1_1 ≤ 3) : Con Try.prog 153 [(.v (.slice none 0 0)), (.f 141 [(.p 0 0), (.p 1 0)])] [(.live false false (k9 a1_0)), (.live false false [(iv a1_1)])] (.s 2 0 (F153_n_c141 a1_0 a1_1).length 9) [(.live true true (flat c26 (F153_n_c141 a1_0 a1_1)))] := by
  have e : (F153_n_c141 a1_0 a1_1) = (G153_n_c141 a1_0 a1_1 ((cutL (Int.toNat a1_1) a1_0).foldl (S153_n_c141_r a1_0 a1_1) ([] : List ((Int × Int × Int) × (Int × Int × Int) × Int × Int × Int)))) := by simp only [F153_n_c141]
  rw [e]
  refine con_of_mark (n := 9) Try.func153 rfl (ent Try.func153 (by kernel_rfl) rfl) (by show 2 ≤ Try.f153.ntmps; decide) (by kernel_rfl) ⟨rfl, rfl, trivial⟩ (fun cx hcx => ?_)
  refine at_of (T := T0) hT hm (f := 5000) (orc := []) [.cell 2 0 9] [2, 6] [2, 3] hcx (x := .rangeFunc (.tmp 6) #[7] RA153_n_c141 RB153_n_c141) (k' := RK153_n_c141) (s' := st153_n_c141 a1_0 a1_1 ([] : List ((Int × Int × Int) × (Int × Int × Int) × Int × Int × Int)))
    (obs := []) (by kernel_rfl) trivial ?_
  refine range_of (xs := cutL (Int.toNat a1_1) a1_0) (enc := encP) (V := List ((Int × Int × Int) × (Int × Int × Int) × Int × Int × Int)) (R' := Empty) hcx rfl [0, 1] [(.p 0 0), (.p 1 0)] [(.live false false (k9 a1_0)), (.live false false [(iv a1_1)])] rfl rfl (iter_cutI a1_0 a1_1 (by first | omega | exact pair_le h0)) (fun x => SV.a (cP x)) encP_rel cP_has 3 (Nat.le_of_ble_eq_true rfl) (of_decide_eq_true (by kernel_rfl))
    (st153_n_c141 a1_0 a1_1) ([] : List ((Int × Int × Int) × (Int × Int × Int) × Int × Int × Int)) rfl (fun v1 => (by kernel_rfl)) (by kernel_rfl) (fun v v' => (roSub_ro (roSub_ro (roSub_own (roSub_own roSub_nil))))) (fun v1 => (by kernel_rfl)) (fun v1 => (by kernel_rfl)) (fun v1 => (Nat.le_of_ble_eq_true (by kernel_rfl)))
    (fun v x => .inl (S153_n_c141_r a1_0 a1_1 v x)) (fun r => r.elim) (fun v r => r.elim) (fun r => r.elim)
    (inv153_n_c141 a1_0 a1_1) (by simp [inv153_n_c141]) (sA153_n_c141 a1_0 a1_1) (fun v1 x => (by kernel_rfl)) (fun v1 x => (by kernel_rfl)) (fun v1 x => (Nat.le_of_ble_eq_true (by kernel_rfl)))
    (fun cx' l i v1 x QA hcx' hx hinv hg => norm_of (T := T0) hT hm (f := 5000) (orc := []) [] [2, 5] [4, 3] hcx' (obs := []) (by kernel_rfl) trivial hg)
    (fun cx' l i v1 x QB hcx' hx hinv hb1 hb2 => ?_) (fun cx' d v1 hh hv hinv => ?_) (fun cx' d r hh hv => ?_)
  · show Aw.Good _ _ _ _ _ _ _ (sA153_n_c141 a1_0 a1_1 v1 x)
    simp only [inv153_n_c141] at hinv
    have hlt := cut_lt ha hx
    have e : (Sum.inl (S153_n_c141_r a1_0 a1_1 v1 x) : (List ((Int × Int × Int) × (Int × Int × Int) × Int × Int × Int)) ⊕ Empty) = .inl (v1 ++ [x]) := by simp only [S153_n_c141_r]
    refine norm_of (T := T0) hT hm (f := 5000) (orc := []) [] [] [6] hcx' (s' := ⟨List.replicate 13 .u, [(.live false false (k9 a1_0)), (.live false false [(iv a1_1)]), (.live true false [(.s 3 0 (v1.length + 1) 9)]), (.live true true (flat c26 v1 ++ (k9 x)))]⟩)
      (obs := [.pr ((flat c26 v1).length = v1.length * 9 ∧ v1.length + 1 ≤ 2 ^ 40 ∧ (v1.length + 1) * 72 ≤ 2 ^ 47)]) (by kernel_rfl) ⟨(app_ok c26_len (by omega) (by omega)), trivial⟩ ?_
    have z0 : (flat c26 v1 ++ (k9 x)) = (flat c26 (v1 ++ [x])) := (flat_append (c := c26) (l := v1) (m := [x])).symm
    have z1 : (v1.length + 1) = (v1 ++ [x]).length := len_app v1 [x] rfl
    rw [z0, z1]
    exact hb1 _ e (by simp only [inv153_n_c141, List.length_append, List.length_cons, List.length_nil]; omega)
  · rw [runL_foldl, Sum.inl.injEq] at hv; rw [hv]
    show Aw.Good _ _ _ _ _ _ _ (st153_n_c141 a1_0 a1_1 v1)
    simp only [inv153_n_c141] at hinv
    have e : G153_n_c141 a1_0 a1_1 v1 = v1 := by simp only [G153_n_c141]
    rw [e]
    exact retH_of (T := T0) hT hm (f := 5000) (orc := []) [] [] [3] hh hcx
      (obs := []) (by kernel_rfl) trivial
  · exact r.elim

/-- slices.Collect[facet/api.Panel] at ('c141',) -/
def F114_c141 (a0_0 : (Int × Int × Int) × (Int × Int × Int) × Int × Int × Int) (a0_1 : Int) : List ((Int × Int × Int) × (Int × Int × Int) × Int × Int × Int) :=
  (F153_n_c141 a0_0 a0_1)

theorem C114_c141 (a0_0 : (Int × Int × Int) × (Int × Int × Int) × Int × Int × Int) (a0_1 : Int) (ha : 0 ≤ a0_1 ∧ a0_1 ≤ 3) : Con Try.prog 114 [(.f 141 [(.p 0 0), (.p 1 0)])] [(.live false false (k9 a0_0)), (.live false false [(iv a0_1)])] (.s 2 0 (F114_c141 a0_0 a0_1).length 9) [(.live true true (flat c26 (F114_c141 a0_0 a0_1)))] := by
  have e : (F114_c141 a0_0 a0_1) = (F153_n_c141 a0_0 a0_1) := by simp only [F114_c141]
  rw [e]
  refine con_of (n := 9) Try.func114 rfl (ent Try.func114 (by kernel_rfl) rfl) (by show 1 ≤ Try.f114.ntmps; decide) (by kernel_rfl) ⟨rfl, rfl, trivial⟩ (fun cx hcx => ?_)
  exact ret_of (T := T0) hT hm (f := 5000) (orc := [.call [0, 1] (.s 2 0 (F153_n_c141 a0_0 a0_1).length 9) [(.live true true (flat c26 (F153_n_c141 a0_0 a0_1)))]]) [] [] [2] hcx
    (obs := [.call 153 [(.v (.slice none 0 0)), (.f 141 [(.p 0 0), (.p 1 0)])] [(.live false false (k9 a0_0)), (.live false false [(iv a0_1)])] (.s 2 0 (F153_n_c141 a0_0 a0_1).length 9) [(.live true true (flat c26 (F153_n_c141 a0_0 a0_1)))]]) (by kernel_rfl) ⟨(C153_n_c141 a0_0 a0_1  (by (try simp only [List.length_append, List.length_cons, List.length_nil, Int.toNat_zero]); omega)), trivial⟩

/-- facet/field.corners -/
def F105 (a0 : (Int × Int × Int) × (Int × Int × Int) × Int × Int × Int) : (Int × Int × Int) × (Int × Int × Int) × Int × Int × Int :=
  a0

theorem C105 (a0 : (Int × Int × Int) × (Int × Int × Int) × Int × Int × Int) : Con Try.prog 105 [(.a (k9 a0))] [] (.a (k9 (F105 a0))) [] := by
  have e : (F105 a0) = a0 := by simp only [F105]
  rw [e]
  refine con_of (n := 9) Try.func105 rfl (ent Try.func105 (by kernel_rfl) rfl) (by show 1 ≤ Try.f105.ntmps; decide) (by kernel_rfl) trivial (fun cx hcx => ?_)
  exact ret_of (T := T0) hT hm (f := 5000) (orc := []) [] [] [] hcx
    (obs := []) (by kernel_rfl) trivial

/-- facet/field.average -/
def F108 (a0 : Int) (a1 : Int) (a2 : Int) : Int × Int :=
  (F148 (a0, a1) a2).1

theorem C108 (a0 : Int) (a1 : Int) (a2 : Int) : Con Try.prog 108 [(iv a0), (iv a1), (iv a2)] [] (.a (k2 (F108 a0 a1 a2))) [] := by
  have e : (F108 a0 a1 a2) = (F148 (a0, a1) a2).1 := by simp only [F108]
  rw [e]
  refine con_of (n := 9) Try.func108 rfl (ent Try.func108 (by kernel_rfl) rfl) (by show 3 ≤ Try.f108.ntmps; decide) (by kernel_rfl) trivial (fun cx hcx => ?_)
  exact ret_of (T := T0) hT hm (f := 5000) (orc := [.call [] (.t [(.a (k2 (F148 (a0, a1) a2).1)), (iv (F148 (a0, a1) a2).2)]) []]) [] [] [] hcx
    (obs := [.call 148 [(.a [(iv a0), (iv a1)]), (iv a2)] [] (.t [(.a (k2 (F148 (a0, a1) a2).1)), (iv (F148 (a0, a1) a2).2)]) []]) (by kernel_rfl) ⟨(C148 (a0, a1) a2), trivial⟩

noncomputable def RA80_f81 : Code := match (codeAtD [1, 1, 1, 1, 0, 1, 0] [] (Try.f80.body.getD .skip)).1 with
  | .rangeFunc _ _ a b => a
  | _ => .skip

noncomputable def RB80_f81 : Code := match (codeAtD [1, 1, 1, 1, 0, 1, 0] [] (Try.f80.body.getD .skip)).1 with
  | .rangeFunc _ _ a b => b
  | _ => .skip

noncomputable def RK80_f81 : List K := (codeAtD [1, 1, 1, 1, 0, 1, 0] [] (Try.f80.body.getD .skip)).2

/-- between two rounds of the range of facet/field.mean; the variables: v1 = h5_0, v2 = h6_0 -/
def st80_f81 (a0 : (Int × Int × Int) × (Int × Int × Int) × Int × Int × Int) (a1 : Int × Int × Int) (a2 : Int) : Int × Int → LS
  | (v1, v2) => ⟨[.u, .u, (iv a2), .u, .u, .u, .u, (.p 0 0), (.p 1 0), (.p 2 0), (.p 3 0), (.p 4 0), (.p 5 0), (.p 6 0), .u, .u, .u, .u, .u, .u, .u, .u, .u, .u, .u, .u, .u, .u, .u, (.f 141 [(.p 7 0), (.p 8 0)]), .u, .u, .u, .u, .u, .u, .u, .u, .u, .u, .u, .u, .u, .u, .u, .u, .u, .u, .u, .u, .u, .u, .u, .u, .u, .u, .u, .u, .u, .u, .u, .u, .u, .u, .u, .u, .u, .u, .u], [(.live true false [(.v (.func (.func 81) #[] #[]))]), (.live true false [(iv 0), (iv 0)]), (.live true false [(iv 0)]), (.live true false [(iv (W (1 * 2 ^ (min (Int.toNat a2) 64))))]), (.live true false [(.s 9 0 1 3)]), (.live true false [(iv v1)]), (.live true false [(iv v2)]), (.live true false (k9 a0)), (.live true false [(iv a2)]), (.live true false (k3 (F103 a1 (W (1 * 2 ^ (min (Int.toNat a2) 64))))))]⟩

def sA80_f81 (a0 : (Int × Int × Int) × (Int × Int × Int) × Int × Int × Int) (a1 : Int × Int × Int) (a2 : Int) : Int × Int → (Int × Int × Int) × (Int × Int × Int) × Int × Int × Int → LS
  | (v1, v2), x => ⟨[.u, .u, .u, .u, .u, .u, .u, (.p 0 0), (.p 1 0), (.p 2 0), (.p 3 0), (.p 4 0), (.p 5 0), (.p 6 0), (.p 10 0), .u, .u, .u, .u, .u, .u, .u, .u, .u, .u, .u, .u, .u, .u, .u, .u, .u, .u, .u, .u, .u, .u, .u, .u, .u, .u, .u, .u, .u, .u, .u, .u, .u, .u, .u, .u, .u, .u, .u, .u, .u, .u, .u, .u, .u, .u, .u, .u, .u, .u, .u, .u, .u, .u], [(.live true false [(.v (.func (.func 81) #[] #[]))]), (.live true false [(iv 0), (iv 0)]), (.live true false [(iv 0)]), (.live true false [(iv (W (1 * 2 ^ (min (Int.toNat a2) 64))))]), (.live true false [(.s 9 0 1 3)]), (.live true false [(iv v1)]), (.live true false [(iv v2)]), (.live true false (k9 a0)), (.live true false [(iv a2)]), (.live true false (k3 (F103 a1 (W (1 * 2 ^ (min (Int.toNat a2) 64)))))), (.live true false (k9 x))]⟩

def str80_f81 (a0 : (Int × Int × Int) × (Int × Int × Int) × Int × Int × Int) (a1 : Int × Int × Int) (a2 : Int) (r : (Int × Int) × Int) : LS := ⟨[], [.dead, (.live true false [(iv r.1.1), (iv r.1.2)]), (.live true false [(iv r.2)]), .dead, .dead, .dead, .dead, .dead, .dead, .dead]⟩

def S80_f81_r (a0 : (Int × Int × Int) × (Int × Int × Int) × Int × Int × Int) (a1 : Int × Int × Int) (a2 : Int) : Int × Int → (Int × Int × Int) × (Int × Int × Int) × Int × Int × Int → (Int × Int) ⊕ ((Int × Int) × Int)
  | (v1, v2), x =>
   (bif (((F106_3_1 (F105 x) (F103 a1 (W (1 * 2 ^ (min (Int.toNat a2) 64))))) : Int) == 0) then
    (.inr ((0, 0), 10))
   else
    (.inl ((W (v1 + (F81 (F107_L_L ([(F105 x).1, (F105 x).2.1, (F105 x).2.2] : List (Int × Int × Int)) ([(F103 a1 (W (1 * 2 ^ (min (Int.toNat a2) 64))))] : List (Int × Int × Int))) (W (1 * 2 ^ (min (Int.toNat a2) 64)))).1.1)), (W (v2 + (F81 (F106_3_1 (F105 x) (F103 a1 (W (1 * 2 ^ (min (Int.toNat a2) 64))))) (W (1 * 2 ^ (min (Int.toNat a2) 64)))).1.2)))))

def G80_f81 (a0 : (Int × Int × Int) × (Int × Int × Int) × Int × Int × Int) (a1 : Int × Int × Int) (a2 : Int) : Int × Int → (Int × Int) × Int
  | (v1, v2) =>
   ((F108 v1 v2 (W (1 * 2 ^ (min (Int.toNat (W (2 * a2))) 64)))), 0)

/-- facet/field.mean at ('f81',) -/
def F80_f81 (a0 : (Int × Int × Int) × (Int × Int × Int) × Int × Int × Int) (a1 : Int × Int × Int) (a2 : Int) : (Int × Int) × Int :=
  (thenL (G80_f81 a0 a1 a2) (runL (S80_f81_r a0 a1 a2) (cutL (Int.toNat a2) a0) (0, 0)))

theorem C80_f81 (a0 : (Int × Int × Int) × (Int × Int × Int) × Int × Int × Int) (a1 : Int × Int × Int) (a2 : Int) (ha : 0 ≤ a2 ∧ a2 ≤ 3) : Con Try.prog 80 [(.a (k9 a0)), (.a (k3 a1)), (iv a2), (.v (.func (.func 81) #[] #[]))] [] (.t [(.a (k2 (F80_f81 a0 a1 a2).1)), (iv (F80_f81 a0 a1 a2).2)]) [] := by
  have e : (F80_f81 a0 a1 a2) = (thenL (G80_f81 a0 a1 a2) (runL (S80_f81_r a0 a1 a2) (cutL (Int.toNat a2) a0) (0, 0))) := by simp only [F80_f81]
  rw [e]
  refine con_of_mark (n := 9) Try.func80 rfl (ent Try.func80 (by kernel_rfl) rfl) (by show 4 ≤ Try.f80.ntmps; decide) (by kernel_rfl) trivial (fun cx hcx => ?_)
  refine at_of (T := T0) hT hm (f := 5000) (orc := [.call [] (.a (k3 (F103 a1 (W (1 * 2 ^ (min (Int.toNat a2) 64)))))) [], .call [] (.f 141 [(.p 0 0), (.p 1 0)]) [(.live true false (k9 a0)), (.live true false [(iv a2)])]]) [] [2, 7, 8, 9, 10, 11, 12, 13, 29] [2, 3, 4, 5, 7, 8, 9, 10, 11, 6] hcx (x := .rangeFunc (.tmp 29) #[30] RA80_f81 RB80_f81) (k' := RK80_f81) (s' := st80_f81 a0 a1 a2 (0, 0))
    (obs := [.pr (0 ≤ (a2 : Int)), .call 103 [(.a (k3 a1)), (iv (W (1 * 2 ^ (min (Int.toNat a2) 64))))] [] (.a (k3 (F103 a1 (W (1 * 2 ^ (min (Int.toNat a2) 64)))))) [], .call 104 [(.a (k9 a0)), (iv a2)] [] (.f 141 [(.p 0 0), (.p 1 0)]) [(.live true false (k9 a0)), (.live true false [(iv a2)])]]) (by kernel_rfl) ⟨(show 0 ≤ (a2 : Int) from by first | omega | (rw [W_eq] <;> omega) | exact u64_nn _), (C103 a1 (W (1 * 2 ^ (min (Int.toNat a2) 64)))), (C104 a0 a2), trivial⟩ ?_
  refine range_of (xs := cutL (Int.toNat a2) a0) (enc := encP) (V := Int × Int) (R' := ((Int × Int) × Int)) hcx rfl [7, 8] [(.p 0 0), (.p 1 0)] [(.live false false (k9 a0)), (.live false false [(iv a2)])] rfl rfl (iter_cutI a0 a2 (by first | omega | exact pair_le h0)) (fun x => SV.a (cP x)) encP_rel cP_has 10 (Nat.le_of_ble_eq_true rfl) (of_decide_eq_true (by kernel_rfl))
    (st80_f81 a0 a1 a2) (0, 0) rfl (fun ⟨v1, v2⟩ => (by kernel_rfl)) (by kernel_rfl) (fun v v' => (roSub_own (roSub_own (roSub_own (roSub_own (roSub_own (roSub_own (roSub_own (roSub_own (roSub_own (roSub_own roSub_nil))))))))))) (fun ⟨v1, v2⟩ => (by kernel_rfl)) (fun ⟨v1, v2⟩ => (by kernel_rfl)) (fun ⟨v1, v2⟩ => (Nat.le_of_ble_eq_true (by kernel_rfl)))
    (S80_f81_r a0 a1 a2) (str80_f81 a0 a1 a2) (fun v r => (roSub_dead (roSub_own (roSub_own (roSub_dead (roSub_dead (roSub_dead (roSub_dead (roSub_dead (roSub_dead (roSub_dead roSub_nil))))))))))) (fun r => (by kernel_rfl))
    (fun _ _ => True) trivial (sA80_f81 a0 a1 a2) (fun ⟨v1, v2⟩ x => (by kernel_rfl)) (fun ⟨v1, v2⟩ x => (by kernel_rfl)) (fun ⟨v1, v2⟩ x => (Nat.le_of_ble_eq_true (by kernel_rfl)))
    (fun cx' l i ⟨v1, v2⟩ x QA hcx' hx hinv hg => norm_of (T := T0) hT hm (f := 5000) (orc := []) [] [7, 8, 9, 10, 11, 12, 13, 14] [10] hcx' (obs := []) (by kernel_rfl) trivial hg)
    (fun cx' l i ⟨v1, v2⟩ x QB hcx' hx hinv hb1 hb2 => ?_) (fun cx' d ⟨v1, v2⟩ hh hv hinv => ?_) (fun cx' d r hh hv => ?_)
  · show Aw.Good _ _ _ _ _ _ _ (sA80_f81 a0 a1 a2 (v1, v2) x)
    cases h0 : (((F106_3_1 (F105 x) (F103 a1 (W (1 * 2 ^ (min (Int.toNat a2) 64))))) : Int) == 0) with
    | true =>
      have q0 := eq_of_beq h0
      have e : S80_f81_r a0 a1 a2 (v1, v2) x = (.inr ((0, 0), 10)) := by simp only [S80_f81_r, h0, cond_true, cond_false]
      exact rets_of (T := T0) hT hm (f := 5000) (orc := [.call [] (.a (k9 (F105 x))) [], .call [11, 9] (iv (F106_3_1 (F105 x) (F103 a1 (W (1 * 2 ^ (min (Int.toNat a2) 64)))))) [], .d true]) [.kill 0, .kill 3, .kill 4, .kill 5, .kill 6, .kill 7, .kill 8, .kill 9] [] [] hcx' (s' := ⟨List.replicate 69 .u, (str80_f81 a0 a1 a2 ((0, 0), 10)).bk⟩)
        (obs := [.call 105 [(.a (k9 x))] [] (.a (k9 (F105 x))) [], .call 106 [(.s 0 0 3 3), (.s 1 0 1 3)] [(.live false false (k9 (F105 x))), (.live false false (k3 (F103 a1 (W (1 * 2 ^ (min (Int.toNat a2) 64))))))] (iv (F106_3_1 (F105 x) (F103 a1 (W (1 * 2 ^ (min (Int.toNat a2) 64)))))) [], .eq (((F106_3_1 (F105 x) (F103 a1 (W (1 * 2 ^ (min (Int.toNat a2) 64))))) : Int) == 0) true]) (by kernel_rfl) ⟨(C105 x), (C106_3_1 (F105 x) (F103 a1 (W (1 * 2 ^ (min (Int.toNat a2) 64))))), h0, trivial⟩ (hb2 _ e)
    | false =>
      have q0 := ne_of_beq_false h0
      have e : S80_f81_r a0 a1 a2 (v1, v2) x = (.inl ((W (v1 + (F81 (F107_L_L ([(F105 x).1, (F105 x).2.1, (F105 x).2.2] : List (Int × Int × Int)) ([(F103 a1 (W (1 * 2 ^ (min (Int.toNat a2) 64))))] : List (Int × Int × Int))) (W (1 * 2 ^ (min (Int.toNat a2) 64)))).1.1)), (W (v2 + (F81 (F106_3_1 (F105 x) (F103 a1 (W (1 * 2 ^ (min (Int.toNat a2) 64))))) (W (1 * 2 ^ (min (Int.toNat a2) 64)))).1.2)))) := by simp only [S80_f81_r, h0, cond_true, cond_false]
      refine norm_of (T := T0) hT hm (f := 5000) (orc := [.call [] (.a (k9 (F105 x))) [], .call [11, 9] (iv (F106_3_1 (F105 x) (F103 a1 (W (1 * 2 ^ (min (Int.toNat a2) 64)))))) [], .d false, .call [11, 9] (iv (F107_L_L ([(F105 x).1, (F105 x).2.1, (F105 x).2.2] : List (Int × Int × Int)) ([(F103 a1 (W (1 * 2 ^ (min (Int.toNat a2) 64))))] : List (Int × Int × Int)))) [], .call [] (.t [(.a (k2 (F81 (F107_L_L ([(F105 x).1, (F105 x).2.1, (F105 x).2.2] : List (Int × Int × Int)) ([(F103 a1 (W (1 * 2 ^ (min (Int.toNat a2) 64))))] : List (Int × Int × Int))) (W (1 * 2 ^ (min (Int.toNat a2) 64)))).1)), (iv (F81 (F107_L_L ([(F105 x).1, (F105 x).2.1, (F105 x).2.2] : List (Int × Int × Int)) ([(F103 a1 (W (1 * 2 ^ (min (Int.toNat a2) 64))))] : List (Int × Int × Int))) (W (1 * 2 ^ (min (Int.toNat a2) 64)))).2)]) [], .call [] (.t [(.a (k2 (F81 (F106_3_1 (F105 x) (F103 a1 (W (1 * 2 ^ (min (Int.toNat a2) 64))))) (W (1 * 2 ^ (min (Int.toNat a2) 64)))).1)), (iv (F81 (F106_3_1 (F105 x) (F103 a1 (W (1 * 2 ^ (min (Int.toNat a2) 64))))) (W (1 * 2 ^ (min (Int.toNat a2) 64)))).2)]) []]) [] [] [] hcx' (s' := ⟨List.replicate 69 .u, [(.live true false [(.v (.func (.func 81) #[] #[]))]), (.live true false [(iv 0), (iv 0)]), (.live true false [(iv 0)]), (.live true false [(iv (W (1 * 2 ^ (min (Int.toNat a2) 64))))]), (.live true false [(.s 9 0 1 3)]), (.live true false [(iv (W (v1 + (F81 (F107_L_L ([(F105 x).1, (F105 x).2.1, (F105 x).2.2] : List (Int × Int × Int)) ([(F103 a1 (W (1 * 2 ^ (min (Int.toNat a2) 64))))] : List (Int × Int × Int))) (W (1 * 2 ^ (min (Int.toNat a2) 64)))).1.1)))]), (.live true false [(iv (W (v2 + (F81 (F106_3_1 (F105 x) (F103 a1 (W (1 * 2 ^ (min (Int.toNat a2) 64))))) (W (1 * 2 ^ (min (Int.toNat a2) 64)))).1.2)))]), (.live true false (k9 a0)), (.live true false [(iv a2)]), (.live true false (k3 (F103 a1 (W (1 * 2 ^ (min (Int.toNat a2) 64))))))]⟩)
        (obs := [.call 105 [(.a (k9 x))] [] (.a (k9 (F105 x))) [], .call 106 [(.s 0 0 3 3), (.s 1 0 1 3)] [(.live false false (k9 (F105 x))), (.live false false (k3 (F103 a1 (W (1 * 2 ^ (min (Int.toNat a2) 64))))))] (iv (F106_3_1 (F105 x) (F103 a1 (W (1 * 2 ^ (min (Int.toNat a2) 64)))))) [], .eq (((F106_3_1 (F105 x) (F103 a1 (W (1 * 2 ^ (min (Int.toNat a2) 64))))) : Int) == 0) false, .call 107 [(.s 0 0 3 3), (.s 1 0 1 3)] [(.live false false (k9 (F105 x))), (.live false false (k3 (F103 a1 (W (1 * 2 ^ (min (Int.toNat a2) 64))))))] (iv (F107_L_L ([(F105 x).1, (F105 x).2.1, (F105 x).2.2] : List (Int × Int × Int)) ([(F103 a1 (W (1 * 2 ^ (min (Int.toNat a2) 64))))] : List (Int × Int × Int)))) [], .call 81 [(iv (F107_L_L ([(F105 x).1, (F105 x).2.1, (F105 x).2.2] : List (Int × Int × Int)) ([(F103 a1 (W (1 * 2 ^ (min (Int.toNat a2) 64))))] : List (Int × Int × Int)))), (iv (W (1 * 2 ^ (min (Int.toNat a2) 64))))] [] (.t [(.a (k2 (F81 (F107_L_L ([(F105 x).1, (F105 x).2.1, (F105 x).2.2] : List (Int × Int × Int)) ([(F103 a1 (W (1 * 2 ^ (min (Int.toNat a2) 64))))] : List (Int × Int × Int))) (W (1 * 2 ^ (min (Int.toNat a2) 64)))).1)), (iv (F81 (F107_L_L ([(F105 x).1, (F105 x).2.1, (F105 x).2.2] : List (Int × Int × Int)) ([(F103 a1 (W (1 * 2 ^ (min (Int.toNat a2) 64))))] : List (Int × Int × Int))) (W (1 * 2 ^ (min (Int.toNat a2) 64)))).2)]) [], .call 81 [(iv (F106_3_1 (F105 x) (F103 a1 (W (1 * 2 ^ (min (Int.toNat a2) 64)))))), (iv (W (1 * 2 ^ (min (Int.toNat a2) 64))))] [] (.t [(.a (k2 (F81 (F106_3_1 (F105 x) (F103 a1 (W (1 * 2 ^ (min (Int.toNat a2) 64))))) (W (1 * 2 ^ (min (Int.toNat a2) 64)))).1)), (iv (F81 (F106_3_1 (F105 x) (F103 a1 (W (1 * 2 ^ (min (Int.toNat a2) 64))))) (W (1 * 2 ^ (min (Int.toNat a2) 64)))).2)]) []]) (by kernel_rfl) ⟨(C105 x), (C106_3_1 (F105 x) (F103 a1 (W (1 * 2 ^ (min (Int.toNat a2) 64))))), h0, (Con.flags (C107_L_L ([(F105 x).1, (F105 x).2.1, (F105 x).2.2] : List (Int × Int × Int)) ([(F103 a1 (W (1 * 2 ^ (min (Int.toNat a2) 64))))] : List (Int × Int × Int)) (by (try simp only [List.length_append, List.length_cons, List.length_nil, Int.toNat_zero]); omega) (by (try simp only [List.length_append, List.length_cons, List.length_nil, Int.toNat_zero]); omega)) rfl ⟨flat_plain (fun _ => rfl), flat_plain (fun _ => rfl), trivial⟩), (C81 (F107_L_L ([(F105 x).1, (F105 x).2.1, (F105 x).2.2] : List (Int × Int × Int)) ([(F103 a1 (W (1 * 2 ^ (min (Int.toNat a2) 64))))] : List (Int × Int × Int))) (W (1 * 2 ^ (min (Int.toNat a2) 64)))), (C81 (F106_3_1 (F105 x) (F103 a1 (W (1 * 2 ^ (min (Int.toNat a2) 64))))) (W (1 * 2 ^ (min (Int.toNat a2) 64)))), trivial⟩ ?_
      exact hb1 _ e trivial
  · rw [hv]
    show Aw.Good _ _ _ _ _ _ _ (st80_f81 a0 a1 a2 (v1, v2))
    have e : thenL (G80_f81 a0 a1 a2) (Sum.inl (v1, v2)) = ((F108 v1 v2 (W (1 * 2 ^ (min (Int.toNat (W (2 * a2))) 64)))), 0) := by simp only [thenL, G80_f81]
    rw [e]
    exact retH_of (T := T0) hT hm (f := 5000) (orc := [.call [] (.a (k2 (F108 v1 v2 (W (1 * 2 ^ (min (Int.toNat (W (2 * a2))) 64)))))) []]) [] [] [] hh hcx
      (obs := [.pr (0 ≤ ((W (2 * a2)) : Int)), .call 108 [(iv v1), (iv v2), (iv (W (1 * 2 ^ (min (Int.toNat (W (2 * a2))) 64))))] [] (.a (k2 (F108 v1 v2 (W (1 * 2 ^ (min (Int.toNat (W (2 * a2))) 64)))))) []]) (by kernel_rfl) ⟨(show 0 ≤ ((W (2 * a2)) : Int) from by first | omega | (rw [W_eq] <;> omega) | exact u64_nn _), (C108 v1 v2 (W (1 * 2 ^ (min (Int.toNat (W (2 * a2))) 64)))), trivial⟩
  · rw [hv]
    exact finH_of (T := T0) hT [] [] [] (s' := ⟨[.u, .u, (iv a2), .u, .u, .u, .u, (.p 0 0), (.p 1 0), (.p 2 0), (.p 3 0), (.p 4 0), (.p 5 0), (.p 6 0), .u, .u, .u, .u, .u, .u, .u, .u, .u, .u, .u, .u, .u, .u, .u, (.f 141 [(.p 7 0), (.p 8 0)]), .u, .u, .u, .u, .u, .u, .u, .u, .u, .u, .u, .u, .u, .u, .u, .u, .u, .u, .u, .u, .u, .u, .u, .u, .u, .u, .u, .u, .u, .u, .u, .u, .u, .u, .u, .u, .u, .u, .u], (str80_f81 a0 a1 a2 r).bk⟩) rfl hh hcx (by kernel_rfl)

end Go.Proofs.Ytopbnnmkdildgaa

namespace Go.Proofs.Ytopbnnmkdildgaa
open Go.Proofs Go.Aw Go.RowKit
set_option maxRecDepth 100000
set_option linter.unusedVariables false
set_option linter.unusedSimpArgs false



end Go.Proofs.Ytopbnnmkdildgaa

namespace Go.Proofs.Ytopbnnmkdildgaa
open Go.Proofs Go.Aw Go.RowKit
set_option maxRecDepth 100000
set_option linter.unusedVariables false
set_option linter.unusedSimpArgs false

/-! ### How far, how near -/
def mx (a b : Int) : Int := if a < b then b else a
theorem mx_le {a b c : Int} (h : a ≤ c) (h' : b ≤ c) : mx a b ≤ c := by unfold mx; split <;> assumption
theorem le_mx1 (a b : Int) : a ≤ mx a b := by unfold mx; split <;> omega
theorem le_mx2 (a b : Int) : b ≤ mx a b := by unfold mx; split <;> omega
def ds (p q : P3) : Int := dt (sb p q) (sb p q)
/-- the greatest squared distance of a panel's corners and points -/
def farL (c : PN) : List P3 → Int
  | [] => 0
  | x :: l => mx (mx (mx (farL c l) (ds c.1 x)) (ds c.2.1 x)) (ds c.2.2 x)
def fF (p q : P3) : Int := F146 (F147 p q) (F147 p q)
theorem fF_eq {p q : P3} (hp : bd 5000 p) (hq : bd 5000 q) : fF p q = ds p q := by
  unfold fF ds
  rw [fsb (hp.mono (by omega)) (hq.mono (by omega))]
  exact fdt ((bd_sb hp hq).mono (by omega)) ((bd_sb hp hq).mono (by omega))
theorem farF1 (c : PN) (x : P3) : F107_L_L [c.1, c.2.1, c.2.2] [x] = mx (mx (mx 0 (fF c.1 x)) (fF c.2.1 x)) (fF c.2.2 x) := by
  rfl
theorem farF3 (c : PN) (x y z : P3) : F107_L_L [c.1, c.2.1, c.2.2] [x, y, z] =
    mx (mx (mx (mx (mx (mx (mx (mx (mx 0 (fF c.1 x)) (fF c.1 y)) (fF c.1 z)) (fF c.2.1 x)) (fF c.2.1 y)) (fF c.2.1 z)) (fF c.2.2 x)) (fF c.2.2 y)) (fF c.2.2 z) := by
  rfl
theorem mx_comm9 (a b c d e f g h i : Int) : mx (mx (mx (mx (mx (mx (mx (mx (mx 0 a) b) c) d) e) f) g) h) i = mx (mx (mx (mx (mx (mx (mx (mx (mx 0 a) d) g) b) e) h) c) f) i := by
  have key : ∀ a b c : Int, mx (mx a b) c = mx (mx a c) b := fun a b c => by unfold mx; repeat' split <;> omega
  rw [key _ c d, key _ b d, key _ f g, key _ e g, key _ c g, key _ b g]
  rw [key _ c e, key _ f h, key _ c h]

/-! boxes -/
def lo3 (a b c : Int) : Int := if c < (if b < (if a < a then a else a) then b else (if a < a then a else a)) then c else (if b < (if a < a then a else a) then b else (if a < a then a else a))
def hi3 (a b c : Int) : Int := if (if (if a < a then a else a) < b then b else (if a < a then a else a)) < c then c else (if (if a < a then a else a) < b then b else (if a < a then a else a))
theorem lo3_le (a b c : Int) : lo3 a b c ≤ a ∧ lo3 a b c ≤ b ∧ lo3 a b c ≤ c := by
  unfold lo3; simp only [Int.lt_irrefl, if_false]; split <;> split at * <;> omega
theorem le_hi3 (a b c : Int) : a ≤ hi3 a b c ∧ b ≤ hi3 a b c ∧ c ≤ hi3 a b c := by
  unfold hi3; simp only [Int.lt_irrefl, if_false]; split <;> split at * <;> omega
theorem lo3_in (a b c : Int) : lo3 a b c = a ∨ lo3 a b c = b ∨ lo3 a b c = c := by
  unfold lo3; simp only [Int.lt_irrefl, if_false]; split <;> split at * <;> omega
theorem hi3_in (a b c : Int) : hi3 a b c = a ∨ hi3 a b c = b ∨ hi3 a b c = c := by
  unfold hi3; simp only [Int.lt_irrefl, if_false]; split <;> split at * <;> omega
/-- the gap between two intervals -/
def gp (a b c d : Int) : Int := mx (mx 0 (c - b)) (a - d)
theorem gp_nn (a b c d : Int) : 0 ≤ gp a b c d := Int.le_trans (le_mx1 0 _) (le_mx1 _ _)
theorem gp_comm (a b c d : Int) : gp c d a b = gp a b c d := by unfold gp mx; repeat' split <;> omega
/-- the squared distance of two boxes -/
def nr (a b c d : P3) : Int := gp a.1 b.1 c.1 d.1 * gp a.1 b.1 c.1 d.1 + gp a.2.1 b.2.1 c.2.1 d.2.1 * gp a.2.1 b.2.1 c.2.1 d.2.1 + gp a.2.2 b.2.2 c.2.2 d.2.2 * gp a.2.2 b.2.2 c.2.2 d.2.2
def blo (c : PN) : P3 := (lo3 c.1.1 c.2.1.1 c.2.2.1, lo3 c.1.2.1 c.2.1.2.1 c.2.2.2.1, lo3 c.1.2.2 c.2.1.2.2 c.2.2.2.2)
def bhi (c : PN) : P3 := (hi3 c.1.1 c.2.1.1 c.2.2.1, hi3 c.1.2.1 c.2.1.2.1 c.2.2.2.1, hi3 c.1.2.2 c.2.1.2.2 c.2.2.2.2)
theorem blo_bd {m : Int} {c : PN} (h : bdP m c) : bd m (blo c) := by
  have h1 := lo3_in c.1.1 c.2.1.1 c.2.2.1; have h2 := lo3_in c.1.2.1 c.2.1.2.1 c.2.2.2.1; have h3 := lo3_in c.1.2.2 c.2.1.2.2 c.2.2.2.2
  have ha := h.1; have hb := h.2.1; have hc := h.2.2
  unfold bd at *; simp only [blo]; omega
theorem bhi_bd {m : Int} {c : PN} (h : bdP m c) : bd m (bhi c) := by
  have h1 := hi3_in c.1.1 c.2.1.1 c.2.2.1; have h2 := hi3_in c.1.2.1 c.2.1.2.1 c.2.2.2.1; have h3 := hi3_in c.1.2.2 c.2.1.2.2 c.2.2.2.2
  have ha := h.1; have hb := h.2.1; have hc := h.2.2
  unfold bd at *; simp only [bhi]; omega
theorem box3 (c : PN) : F144_3 c = (blo c, bhi c) := rfl
theorem box1 (x : P3) : F144_1 x = (x, x) := by
  have key : ∀ a : Int, (if a < a then a else a) = a := fun a => by split <;> rfl
  unfold F144_1
  simp only [key]
theorem gap_f {a b c d : Int} (ha : -5000 ≤ a ∧ a ≤ 5000) (hb : -5000 ≤ b ∧ b ≤ 5000) (hc : -5000 ≤ c ∧ c ≤ 5000) (hd : -5000 ≤ d ∧ d ≤ 5000) : F145 a b c d = gp a b c d := by
  unfold F145
  rw [W_eq (n := c - b) (by omega) (by omega), W_eq (n := a - d) (by omega) (by omega)]; rfl
theorem gp_bd {a b c d : Int} (ha : -5000 ≤ a ∧ a ≤ 5000) (hb : -5000 ≤ b ∧ b ≤ 5000) (hc : -5000 ≤ c ∧ c ≤ 5000) (hd : -5000 ≤ d ∧ d ≤ 5000) : 0 ≤ gp a b c d ∧ gp a b c d ≤ 10000 :=
  ⟨gp_nn _ _ _ _, mx_le (mx_le (by omega) (by omega)) (by omega)⟩
theorem nrF {a b c d : P3} (ha : bd 5000 a) (hb : bd 5000 b) (hc : bd 5000 c) (hd : bd 5000 d) :
    F146 (F145 a.1 b.1 c.1 d.1, F145 a.2.1 b.2.1 c.2.1 d.2.1, F145 a.2.2 b.2.2 c.2.2 d.2.2) (F145 a.1 b.1 c.1 d.1, F145 a.2.1 b.2.1 c.2.1 d.2.1, F145 a.2.2 b.2.2 c.2.2 d.2.2) = nr a b c d := by
  rw [gap_f ha.1 hb.1 hc.1 hd.1, gap_f ha.2.1 hb.2.1 hc.2.1 hd.2.1, gap_f ha.2.2 hb.2.2 hc.2.2 hd.2.2]
  have h1 := gp_bd ha.1 hb.1 hc.1 hd.1; have h2 := gp_bd ha.2.1 hb.2.1 hc.2.1 hd.2.1; have h3 := gp_bd ha.2.2 hb.2.2 hc.2.2 hd.2.2
  have hv : bd 1000000000 (gp a.1 b.1 c.1 d.1, gp a.2.1 b.2.1 c.2.1 d.2.1, gp a.2.2 b.2.2 c.2.2 d.2.2) := by unfold bd; simp only; omega
  rw [fdt hv hv]; rfl
theorem near31 {c : PN} {x : P3} (hc : bdP 5000 c) (hx : bd 5000 x) : F106_3_1 c x = nr (blo c) (bhi c) x x := by
  unfold F106_3_1
  rw [box3, box1]
  exact nrF (blo_bd hc) (bhi_bd hc) hx hx
theorem near33 {c q : PN} (hc : bdP 5000 c) (hq : bdP 5000 q) : F106_3_3 c q = nr (blo c) (bhi c) (blo q) (bhi q) := by
  unfold F106_3_3
  rw [box3, box3]
  exact nrF (blo_bd hc) (bhi_bd hc) (blo_bd hq) (bhi_bd hq)
/-! the reference's -/
theorem sum3 {a b c : Int} (ha : 0 ≤ a ∧ a ≤ 100000000) (hb : 0 ≤ b ∧ b ≤ 100000000) (hc : 0 ≤ c ∧ c ≤ 100000000) : W ((W (a + b)) + c) = a + b + c := by
  rw [W_eq (n := a + b) (by omega) (by omega), W_eq (by omega) (by omega)]
end Go.Proofs.Ytopbnnmkdildgaa

namespace Go.Proofs.Ytopbnnmkdildgaa
open Go.Proofs Go.Aw Go.RowKit
set_option maxRecDepth 100000
set_option linter.unusedVariables false
set_option linter.unusedSimpArgs false

/-! ### What is asked -/
open Classical in
theorem seen_f (x : P3) : F42 x = decide (bd 256 x) := by
  unfold F42
  rw [within_eq, within_eq, within_eq]
  exact and3 (by unfold bd; omega)
open Classical in
noncomputable def ck (p : PN) (x : P3) (d : Int) : Int := if vp p = 0 then (if bd 256 x ∧ (0 ≤ d ∧ d ≤ 3) then 0 else 1) else vp p
open Classical in
theorem ck_aux (v : Int) (a b : Prop) [Decidable a] [Decidable b] : (bif (v != 0) then v else (bif (!(decide a)) then 1 else (bif (!(decide b)) then (1 : Int) else 0))) = if v = 0 then (if a ∧ b then 0 else 1) else v := by
  by_cases hv : v = 0
  · subst hv
    by_cases ha : a <;> by_cases hb : b <;> simp [ha, hb]
  · rw [bne_iff_ne.2 hv, cond_true, if_neg hv]
open Classical in
theorem chk_eq (p : PN) (x : P3) (d : Int) : F79 p x d = ck p x d := by
  unfold F79 ck
  rw [vp_s, seen_f, within_eq]
  exact ck_aux _ _ _
theorem ck_ok {p : PN} {x : P3} {d : Int} (h : ck p x d = 0) : vp p = 0 ∧ bd 256 x ∧ 0 ≤ d ∧ d ≤ 3 := by
  unfold ck at h
  split at h
  · rename_i h0
    split at h
    · rename_i h1; exact ⟨h0, h1⟩
    · cases h
  · rename_i h0; exact absurd h h0
theorem chk_ok {p : PN} {x : P3} {d : Int} (h : ((F79 p x d : Int) != 0) = false) : vp p = 0 ∧ bd 256 x ∧ 0 ≤ d ∧ d ≤ 3 :=
  ck_ok (by rw [← chk_eq]; simpa using h)
theorem chk_le {p : PN} {x : P3} {d : Int} (h : ((F79 p x d : Int) != 0) = false) : 0 ≤ d ∧ d ≤ 3 := (chk_ok h).2.2
theorem chk_vp {p : PN} {x : P3} {d : Int} (h : ((F79 p x d : Int) != 0) = false) : F66 p = 0 := by
  rw [vp_s]; exact (chk_ok h).1
open Classical in
noncomputable def pk (p q : PN) (d : Int) : Int := if vp p = 0 then (if vp q = 0 then (if 0 ≤ d ∧ d ≤ 2 then 0 else 1) else vp q) else vp p
theorem pk_aux (v w : Int) (b : Prop) [Decidable b] : (bif (v != 0) then v else (bif (w != 0) then w else (bif (!(decide b)) then (1 : Int) else 0))) = if v = 0 then (if w = 0 then (if b then 0 else 1) else w) else v := by
  by_cases hv : v = 0
  · subst hv
    by_cases hw : w = 0
    · subst hw; by_cases hb : b <;> simp [hb]
    · rw [bne_iff_ne.2 hw, cond_true, if_neg hw]; simp
  · rw [bne_iff_ne.2 hv, cond_true, if_neg hv]
theorem pk_ok {p q : PN} {d : Int} (h : pk p q d = 0) : vp p = 0 ∧ vp q = 0 ∧ 0 ≤ d ∧ d ≤ 2 := by
  unfold pk at h
  split at h
  · rename_i h0
    split at h
    · rename_i h1
      split at h
      · rename_i h2; exact ⟨h0, h1, h2⟩
      · cases h
    · rename_i h1; exact absurd h h1
  · rename_i h0; exact absurd h h0
/-- facet/field.Parts -/
def F88 (a0 : (Int × Int × Int) × (Int × Int × Int) × Int × Int × Int) (a1 : Int) : (List ((Int × Int × Int) × (Int × Int × Int) × Int × Int × Int)) × Int :=
  (bif (((F79 a0 (0, 0, 0) a1) : Int) != 0) then
   (([] : List ((Int × Int × Int) × (Int × Int × Int) × Int × Int × Int)), (F79 a0 (0, 0, 0) a1))
  else
   ((F114_c141 a0 a1), 0))

theorem C88 (a0 : (Int × Int × Int) × (Int × Int × Int) × Int × Int × Int) (a1 : Int) : Con Try.prog 88 [(.a (k9 a0)), (iv a1)] [] (.t [(.s 0 0 (F88 a0 a1).1.length 9), (iv (F88 a0 a1).2)]) [(.live true true (flat c26 (F88 a0 a1).1))] := by
  cases h0 : (((F79 a0 (0, 0, 0) a1) : Int) != 0) with
  | true =>
    have q0 := bne_iff_ne.1 h0
    have e : (F88 a0 a1) = (([] : List ((Int × Int × Int) × (Int × Int × Int) × Int × Int × Int)), (F79 a0 (0, 0, 0) a1)) := by simp only [F88, h0, cond_true, cond_false]
    rw [e]
    refine con_of (n := 9) Try.func88 rfl (ent Try.func88 (by kernel_rfl) rfl) (by show 2 ≤ Try.f88.ntmps; decide) (by kernel_rfl) trivial (fun cx hcx => ?_)
    exact ret_of (T := T0) hT hm (f := 5000) (orc := [.call [] (iv (F79 a0 (0, 0, 0) a1)) [], .d true]) [.slot 4 9] [] [1] hcx
      (obs := [.call 79 [(.a (k9 a0)), (.a [(iv 0), (iv 0), (iv 0)]), (iv a1)] [] (iv (F79 a0 (0, 0, 0) a1)) [], .eq (((F79 a0 (0, 0, 0) a1) : Int) != 0) true]) (by kernel_rfl) ⟨(C79 a0 (0, 0, 0) a1), h0, trivial⟩
  | false =>
    have q0 := bne_eq_false_iff_eq.1 h0
    have e : (F88 a0 a1) = ((F114_c141 a0 a1), 0) := by simp only [F88, h0, cond_true, cond_false]
    rw [e]
    refine con_of (n := 9) Try.func88 rfl (ent Try.func88 (by kernel_rfl) rfl) (by show 2 ≤ Try.f88.ntmps; decide) (by kernel_rfl) trivial (fun cx hcx => ?_)
    exact ret_of (T := T0) hT hm (f := 5000) (orc := [.call [] (iv (F79 a0 (0, 0, 0) a1)) [], .d false, .call [] (.f 141 [(.p 0 0), (.p 1 0)]) [(.live true false (k9 a0)), (.live true false [(iv a1)])], .call [1, 2] (.s 2 0 (F114_c141 a0 a1).length 9) [(.live true true (flat c26 (F114_c141 a0 a1)))]]) [] [] [3] hcx
      (obs := [.call 79 [(.a (k9 a0)), (.a [(iv 0), (iv 0), (iv 0)]), (iv a1)] [] (iv (F79 a0 (0, 0, 0) a1)) [], .eq (((F79 a0 (0, 0, 0) a1) : Int) != 0) false, .call 104 [(.a (k9 a0)), (iv a1)] [] (.f 141 [(.p 0 0), (.p 1 0)]) [(.live true false (k9 a0)), (.live true false [(iv a1)])], .call 114 [(.f 141 [(.p 0 0), (.p 1 0)])] [(.live false false (k9 a0)), (.live false false [(iv a1)])] (.s 2 0 (F114_c141 a0 a1).length 9) [(.live true true (flat c26 (F114_c141 a0 a1)))]]) (by kernel_rfl) ⟨(C79 a0 (0, 0, 0) a1), h0, (C104 a0 a1), (C114_c141 a0 a1  (chk_le h0)), trivial⟩

/-- facet/field.Mean -/
def F40 (a0 : (Int × Int × Int) × (Int × Int × Int) × Int × Int × Int) (a1 : Int × Int × Int) (a2 : Int) : (Int × Int) × Int :=
  (bif (((F79 a0 a1 a2) : Int) != 0) then
   ((0, 0), (F79 a0 a1 a2))
  else
   ((F80_f81 a0 a1 a2).1, (F80_f81 a0 a1 a2).2))

theorem C40 (a0 : (Int × Int × Int) × (Int × Int × Int) × Int × Int × Int) (a1 : Int × Int × Int) (a2 : Int) : Con Try.prog 40 [(.a (k9 a0)), (.a (k3 a1)), (iv a2)] [] (.t [(.a (k2 (F40 a0 a1 a2).1)), (iv (F40 a0 a1 a2).2)]) [] := by
  cases h0 : (((F79 a0 a1 a2) : Int) != 0) with
  | true =>
    have q0 := bne_iff_ne.1 h0
    have e : (F40 a0 a1 a2) = ((0, 0), (F79 a0 a1 a2)) := by simp only [F40, h0, cond_true, cond_false]
    rw [e]
    refine con_of (n := 9) Try.func40 rfl (ent Try.func40 (by kernel_rfl) rfl) (by show 3 ≤ Try.f40.ntmps; decide) (by kernel_rfl) trivial (fun cx hcx => ?_)
    exact ret_of (T := T0) hT hm (f := 5000) (orc := [.call [] (iv (F79 a0 a1 a2)) [], .d true]) [] [] [] hcx
      (obs := [.call 79 [(.a (k9 a0)), (.a (k3 a1)), (iv a2)] [] (iv (F79 a0 a1 a2)) [], .eq (((F79 a0 a1 a2) : Int) != 0) true]) (by kernel_rfl) ⟨(C79 a0 a1 a2), h0, trivial⟩
  | false =>
    have q0 := bne_eq_false_iff_eq.1 h0
    have e : (F40 a0 a1 a2) = ((F80_f81 a0 a1 a2).1, (F80_f81 a0 a1 a2).2) := by simp only [F40, h0, cond_true, cond_false]
    rw [e]
    refine con_of (n := 9) Try.func40 rfl (ent Try.func40 (by kernel_rfl) rfl) (by show 3 ≤ Try.f40.ntmps; decide) (by kernel_rfl) trivial (fun cx hcx => ?_)
    exact ret_of (T := T0) hT hm (f := 5000) (orc := [.call [] (iv (F79 a0 a1 a2)) [], .d false, .call [] (.t [(.a (k2 (F80_f81 a0 a1 a2).1)), (iv (F80_f81 a0 a1 a2).2)]) []]) [] [] [] hcx
      (obs := [.call 79 [(.a (k9 a0)), (.a (k3 a1)), (iv a2)] [] (iv (F79 a0 a1 a2)) [], .eq (((F79 a0 a1 a2) : Int) != 0) false, .call 80 [(.a (k9 a0)), (.a (k3 a1)), (iv a2), (.v (.func (.func 81) #[] #[]))] [] (.t [(.a (k2 (F80_f81 a0 a1 a2).1)), (iv (F80_f81 a0 a1 a2).2)]) []]) (by kernel_rfl) ⟨(C79 a0 a1 a2), h0, (C80_f81 a0 a1 a2  (chk_le h0)), trivial⟩

/-- facet/facetlaw03.known -/
def F14 : Bool :=
  (bif (((F40 ((0, 0, 0), (2, 0, 0), (0, 2, 0)) (1, 1, 8) 0).2 : Int) == 0) then
   ((((F40 ((0, 0, 0), (2, 0, 0), (0, 2, 0)) (1, 1, 8) 0).1.1 : Int) == 129070) && ((((F40 ((0, 0, 0), (2, 0, 0), (0, 2, 0)) (1, 1, 8) 0).1.2 : Int) == 131072) && true))
  else
   false)

noncomputable def oC14_0 : Ob := .call 40 [(.a [(iv 0), (iv 0), (iv 0), (iv 2), (iv 0), (iv 0), (iv 0), (iv 2), (iv 0)]), (.a [(iv 1), (iv 1), (iv 8)]), (iv 0)] [] (.t [(.a (k2 (F40 ((0, 0, 0), (2, 0, 0), (0, 2, 0)) (1, 1, 8) 0).1)), (iv (F40 ((0, 0, 0), (2, 0, 0), (0, 2, 0)) (1, 1, 8) 0).2)]) []
theorem C14 : Con Try.prog 14 [] [] (.v (.bool F14)) [] := by
  cases h0 : (((F40 ((0, 0, 0), (2, 0, 0), (0, 2, 0)) (1, 1, 8) 0).2 : Int) == 0) with
  | true =>
    have q0 := eq_of_beq h0
    have e : F14 = ((((F40 ((0, 0, 0), (2, 0, 0), (0, 2, 0)) (1, 1, 8) 0).1.1 : Int) == 129070) && ((((F40 ((0, 0, 0), (2, 0, 0), (0, 2, 0)) (1, 1, 8) 0).1.2 : Int) == 131072) && true)) := by simp only [F14, h0, cond_true, cond_false]
    rw [e]
    refine con_of (n := 9) Try.func14 rfl (ent Try.func14 (by kernel_rfl) rfl) (by show 0 ≤ Try.f14.ntmps; decide) (by kernel_rfl) trivial (fun cx hcx => ?_)
    exact ret_of (T := T0) hT hm (f := 5000) (orc := [.call [] (.t [(.a (k2 (F40 ((0, 0, 0), (2, 0, 0), (0, 2, 0)) (1, 1, 8) 0).1)), (iv (F40 ((0, 0, 0), (2, 0, 0), (0, 2, 0)) (1, 1, 8) 0).2)]) [], .d true]) [] [] [] hcx
      (obs := [oC14_0, .eq (((F40 ((0, 0, 0), (2, 0, 0), (0, 2, 0)) (1, 1, 8) 0).2 : Int) == 0) true]) (by kernel_rfl) ⟨(C40 ((0, 0, 0), (2, 0, 0), (0, 2, 0)) (1, 1, 8) 0), h0, trivial⟩
  | false =>
    have q0 := ne_of_beq_false h0
    have e : F14 = false := by simp only [F14, h0, cond_true, cond_false]
    rw [e]
    refine con_of (n := 9) Try.func14 rfl (ent Try.func14 (by kernel_rfl) rfl) (by show 0 ≤ Try.f14.ntmps; decide) (by kernel_rfl) trivial (fun cx hcx => ?_)
    exact ret_of (T := T0) hT hm (f := 5000) (orc := [.call [] (.t [(.a (k2 (F40 ((0, 0, 0), (2, 0, 0), (0, 2, 0)) (1, 1, 8) 0).1)), (iv (F40 ((0, 0, 0), (2, 0, 0), (0, 2, 0)) (1, 1, 8) 0).2)]) [], .d false]) [] [] [] hcx
      (obs := [oC14_0, .eq (((F40 ((0, 0, 0), (2, 0, 0), (0, 2, 0)) (1, 1, 8) 0).2 : Int) == 0) false]) (by kernel_rfl) ⟨(C40 ((0, 0, 0), (2, 0, 0), (0, 2, 0)) (1, 1, 8) 0), h0, trivial⟩

end Go.Proofs.Ytopbnnmkdildgaa

namespace Go.Proofs.Ytopbnnmkdildgaa
open Go.Proofs Go.Aw Go.RowKit
set_option maxRecDepth 100000
set_option linter.unusedVariables false
set_option linter.unusedSimpArgs false

/-! ### The parts -/
theorem known_t : F14 = true := by kernel_rfl
theorem foldl_snoc {α : Type} : ∀ (l a : List α), l.foldl (fun v x => v ++ [x]) a = a ++ l
  | [], a => by simp
  | x :: l, a => by rw [List.foldl_cons, foldl_snoc l]; simp
theorem collect_eq (p : PN) (d : Int) : F114_c141 p d = cutL d.toNat p := by
  have h := foldl_snoc (cutL d.toNat p) []
  rw [List.nil_append] at h
  exact h
open Classical in
theorem parts_f (p : PN) (d : Int) : F88 p d = if vp p = 0 then (if 0 ≤ d ∧ d ≤ 3 then (cutL d.toNat p, 0) else ([], 1)) else ([], vp p) := by
  have h0 : bd 256 (0, 0, 0) := by unfold bd; simp only; omega
  unfold F88
  rw [chk_eq, collect_eq]
  unfold ck
  by_cases hv : vp p = 0
  · by_cases hd : 0 ≤ d ∧ d ≤ 3
    · rw [if_pos hv, if_pos ⟨h0, hd⟩, if_pos hv, if_pos hd]; rfl
    · rw [if_pos hv, if_neg (fun h => hd h.2), if_pos hv, if_neg hd]; rfl
  · rw [if_neg hv, if_neg hv, bne_iff_ne.2 hv, cond_true]
theorem cutL_len : ∀ (d : Nat) (p : PN), (cutL d p).length = 4 ^ d
  | 0, p => rfl
  | d + 1, p => by
    rw [cutL_quad]
    have : ∀ l : List PN, (l.flatMap quad).length = 4 * l.length := fun l => by
      induction l with
      | nil => rfl
      | cons x l ih => rw [List.flatMap_cons, List.length_append, ih]; show 4 + _ = _; simp only [List.length_cons]; omega
    rw [this, cutL_len d p, Nat.pow_succ]; omega
end Go.Proofs.Ytopbnnmkdildgaa

namespace Go.Proofs.Ytopbnnmkdildgaa
open Go.Proofs Go.Aw Go.RowKit
set_option maxRecDepth 100000
set_option linter.unusedVariables false
set_option linter.unusedSimpArgs false

/-! ### From the contract to the row -/
open Go.ChangeShapes Go.WideShapes Go.ChangeAt
/-- the fields lie behind one another, up to place n -/
def contB (P : Program) (ok : TypeId → Bool) (n : Nat) : List Field → Nat → Bool
  | [], o => o == n
  | f :: l, o => f.offset == o && ok f.type && contB P ok n l (o + P.cellsOf f.type)
/-- a type of numbers alone (int, and structs of these) -/
def flatB (P : Program) : Nat → TypeId → Bool
  | 0, _ => false
  | k + 1, t => match P.underlying t with
    | some (.int .i64) => true
    | some (.struct fs) => contB P (flatB P k) (P.cellsOf t) fs.toList 0
    | _ => false
section
variable {H : Type} {enc : TypeId × Value → H} {P : Program} {w : World} {base : Nat} {spare : Nat → Bool} {held : Bool}
theorem cont_trod {ok : TypeId → Bool} {n fuel : Nat} {cs : List Value}
    (hok : ∀ t cs x, ok t = true → DataW.trod enc P w base spare held fuel t cs = some x → x.2 = [] ∧ ∃ ns : List Int, cs = ns.map (Value.int .i64)) (hn : cs.length = n) :
    ∀ (l : List Field) (o : Nat) (ys : List (DataW H × List MemPlace)), contB P ok n l o = true → ys.length = l.length →
      (∀ (j : Nat) (f : Field), l[j]? = some f → DataW.trod enc P w base spare held fuel f.type ((cs.drop f.offset).take (P.cellsOf f.type)) = ys[j]?) →
      (∀ y ∈ ys, y.2 = []) ∧ ∃ ns : List Int, cs.drop o = ns.map (Value.int .i64)
  | [], o, ys, hc, hl, _ => by
    have : ys = [] := List.length_eq_zero_iff.1 hl
    subst this
    simp only [contB, beq_iff_eq] at hc
    exact ⟨fun y hy => by simp at hy, [], by rw [hc, ← hn, List.drop_length]; rfl⟩
  | f :: l, o, ys, hc, hl, hf => by
    cases ys with
    | nil => simp at hl
    | cons y ys =>
      simp only [contB, Bool.and_eq_true, beq_iff_eq] at hc
      obtain ⟨⟨h1, h2⟩, h3⟩ := hc
      have g0 := hf 0 f rfl
      rw [h1] at g0
      obtain ⟨e1, n1, e2⟩ := hok f.type _ y h2 g0
      obtain ⟨e3, n2, e4⟩ := cont_trod hok hn l _ ys h3 (by simpa using hl) (fun j g hg => hf (j + 1) g hg)
      refine ⟨fun z hz => ?_, n1 ++ n2, ?_⟩
      · rcases List.mem_cons.1 hz with rfl | hz
        · exact e1
        · exact e3 z hz
      · rw [List.map_append, ← e2, ← e4, ← List.drop_drop, List.take_append_drop]
theorem flat_trod : ∀ (k : Nat) (t : TypeId) (fuel : Nat) (cs : List Value) (x : DataW H × List MemPlace), flatB P k t = true → DataW.trod enc P w base spare held fuel t cs = some x →
    x.2 = [] ∧ ∃ ns : List Int, cs = ns.map (Value.int .i64)
  | 0, _, _, _, _, h, _ => by simp [flatB] at h
  | k + 1, t, fuel, cs, x, h, hx => by
    unfold flatB at h
    split at h
    · rename_i ht
      obtain ⟨n, rfl, rfl, _⟩ := DataW.trod_int ht hx
      exact ⟨rfl, [n], rfl⟩
    · rename_i fs ht
      obtain ⟨xs, m, rfl, rfl, hl, hlen, hf⟩ := DataW.trod_struct ht hx
      obtain ⟨e1, ns, e2⟩ := cont_trod (fun t cs x h hx => flat_trod k t m cs x h hx) hl fs.toList 0 xs h (by simpa using hlen) (fun j f hj => hf j f (by simpa using hj))
      refine ⟨?_, ns, by simpa using e2⟩
      simp only
      induction xs with
      | nil => rfl
      | cons y l _ => rw [List.flatMap_eq_nil_iff]; exact e1
    · cases h
theorem open_flat {r : Reach} {b0 : Nat} {t : TypeId} {fs : Array Field} {v : Value} {d : DataW H} {ps : List MemPlace} (ht : P.underlying t = some (.struct fs)) (hf : flatB P 6 t = true)
    (hval : Value.okWide P w r b0 t v) (hd : DataW.Trod enc P w base spare held t v d ps) :
    ps = [] ∧ ∃ ns : List Int, v = .agg (ns.map (Value.int .i64)).toArray ∧ ns.length = P.cellsOf t := by
  obtain ⟨cs, rfl, hs⟩ := okWide_struct ht hval
  obtain ⟨fuel, hx⟩ := hd
  obtain ⟨e1, ns, e2⟩ := flat_trod 6 t fuel _ _ hf hx
  have e3 : cs = (ns.map (Value.int .i64)).toArray := by
    have : cs.toList = ns.map (Value.int .i64) := by simpa [Value.cells] using e2
    rw [← this]
  refine ⟨e1, ns, by rw [e3], ?_⟩
  rw [← hs, e3]; simp
end
theorem rels_iv {ρ : Env} : ∀ ns : List Int, Rels ρ (ns.map iv) (ns.map (Value.int .i64))
  | [] => trivial
  | n :: l => ⟨rfl, rels_iv l⟩
theorem rel_agg {ρ : Env} (ns : List Int) : Rel ρ (.a (ns.map iv)) (.agg (ns.map (Value.int .i64)).toArray) := ⟨_, rfl, rels_iv ns⟩
/-- A contract that hands over no blocks, called. -/
theorem law_calls {P : Program} {f : Nat} {args : List SV} {vs : List Value} {x : Value} (hc : Con P f args [] (.v x) []) (hr : Rels (fun _ => none) args vs) (W : World) :
    Calls P f vs.toArray W fun e W' => e = .returned x ∧ Below W.heap.size W W' := by
  refine (hc.2 (fun _ => none) W vs hr (fun i => by simp [BRep]) (fun i => by simp [BK.pl]) (fun i j b n b' n' _ h => by simp [BK.own] at h)).mono fun e W' h => ?_
  obtain ⟨ρ', v, rfl, _, hv, hk, _⟩ := h
  refine ⟨by rw [show v = x from hv], hk.os, hk.tape, hk.output, hk.size, fun k hk' => hk.block k hk' ?_⟩
  rintro ⟨i, n, hi, _⟩
  simp [BK.own] at hi
theorem post_below {H : Type} {enc : TypeId × Value → H} {P : Program} {f : Func} {s : ChangeSpec} {apart fresh handsOn : Bool} {W W' : World} {args : Array Value} {v : Value} {ds gs : List (DataW H)} {before : List MemPlace}
    (hW : DataW.Whole enc P f.params.toList s.vars apart W args.toList ds gs before) (hb : Below W.heap.size W W')
    (hres : ∀ (b : Nat) (sp : Nat → Bool) (hd : Bool), DataW.TrodAll enc P W' b sp hd f.resultTypes.toList (v.resultList f.resultTypes.size) (s.fn H (ds ++ gs)).results [])
    (hargs : DataW.TrodAll enc P W' 0 (fun b => decide (b < W.heap.size)) true f.params.toList args.toList (s.fn H (ds ++ gs)).args before)
    (hvars : DataW.TrodVars enc P W' (fun b => decide (b < W.heap.size)) s.vars (s.fn H (ds ++ gs)).vars []) :
    s.post enc P f apart fresh handsOn false W args v W' :=
  ⟨ds, gs, before, [], before, [], hW, hres _ _ _, hargs, hvars, hb.frame _, fun h => by cases h⟩
theorem all_mk {H : Type} {enc : TypeId × Value → H} {P : Program} {w : World} {base : Nat} {spare : Nat → Bool} {held : Bool} {t : TypeId} {ts : List TypeId} {v : Value} {vs : List Value} {d : DataW H} {ds : List (DataW H)} {p p' : List MemPlace}
    (h : DataW.Trod enc P w base spare held t v d p) (h' : DataW.TrodAll enc P w base spare held ts vs ds p') : DataW.TrodAll enc P w base spare held (t :: ts) (v :: vs) (d :: ds) (p ++ p') := ⟨p, p', h, h', rfl⟩
theorem own : ownKnob Try.prog.godebug = none := by kernel_rfl
theorem laidOut : laidOutB Try.prog = true := by kernel_rfl

end Go.Proofs.Ytopbnnmkdildgaa

namespace Go.Proofs.Ytopbnnmkdildgaa
open Go.Proofs Go.Aw Go.RowKit
set_option maxRecDepth 100000
set_option linter.unusedVariables false
set_option linter.unusedSimpArgs false

/-! ### Scales -/
def sc (d : Int) : Int := if d = 0 then 1 else if d = 1 then 2 else if d = 2 then 4 else 8
theorem d4 {d : Int} (h : 0 ≤ d ∧ d ≤ 3) : d = 0 ∨ d = 1 ∨ d = 2 ∨ d = 3 := by omega
theorem sc_f {d : Int} (h : 0 ≤ d ∧ d ≤ 3) : W (1 * 2 ^ (min (Int.toNat d) 64)) = sc d := by
  rcases d4 h with rfl | rfl | rfl | rfl <;> kernel_rfl
theorem sc_r {d : Int} (h : 0 ≤ d ∧ d ≤ 3) : W (1 * 2 ^ (min (Int.toNat (IntKind.wrap .u64 d)) 64)) = sc d := by
  rcases d4 h with rfl | rfl | rfl | rfl <;> kernel_rfl
theorem cnt_f {d : Int} (h : 0 ≤ d ∧ d ≤ 3) : W (1 * 2 ^ (min (Int.toNat (W (2 * d))) 64)) = sc d * sc d := by
  rcases d4 h with rfl | rfl | rfl | rfl <;> kernel_rfl
theorem cnt_len {d : Int} (h : 0 ≤ d ∧ d ≤ 3) (p : PN) : (((cutL d.toNat p).length : Nat) : Int) = sc d * sc d := by
  rw [cutL_len]; rcases d4 h with rfl | rfl | rfl | rfl <;> kernel_rfl
theorem sc_in (d : Int) : sc d = 1 ∨ sc d = 2 ∨ sc d = 4 ∨ sc d = 8 := by unfold sc; (repeat' split) <;> simp
theorem sc_bd (d : Int) : 1 ≤ sc d ∧ sc d ≤ 8 := by have := sc_in d; omega
def tm (s : Int) (p : P3) : P3 := (s * p.1, s * p.2.1, s * p.2.2)
theorem bd_tm {s m : Int} {p : P3} (hs : 1 ≤ s ∧ s ≤ 8) (hm : 0 ≤ m) (hp : bd m p) : bd (8 * m) (tm s p) := by
  have h1 := mul_bd (a := 8) (b := m) (x := s) (y := p.1) (by omega) hp.1
  have h2 := mul_bd (a := 8) (b := m) (x := s) (y := p.2.1) (by omega) hp.2.1
  have h3 := mul_bd (a := 8) (b := m) (x := s) (y := p.2.2) (by omega) hp.2.2
  exact ⟨h1, h2, h3⟩
theorem tm_W {s : Int} {p : P3} (hs : 1 ≤ s ∧ s ≤ 8) (hp : bd 4096 p) : ((W (s * p.1)), (W (s * p.2.1)), (W (s * p.2.2))) = tm s p := by
  have h := bd_tm hs (by omega) hp
  have h1 := h.1; have h2 := h.2.1; have h3 := h.2.2
  simp only [tm] at h1 h2 h3
  unfold tm
  rw [W_eq (n := s * p.1) (by omega) (by omega), W_eq (n := s * p.2.1) (by omega) (by omega), W_eq (n := s * p.2.2) (by omega) (by omega)]
theorem tm_f {s : Int} {p : P3} (hs : 1 ≤ s ∧ s ≤ 8) (hp : bd 4096 p) : F103 p s = tm s p := tm_W hs hp
/-! ### Spans of numbers that are small -/
theorem res_f {a b : Int} (h1 : -1099511627776 ≤ a) (h2 : a ≤ b) (h3 : b ≤ 1099511627776) : F78 a b = ((a, b), 0) := by
  unfold F78 F102
  rw [decide_eq_true (show (a, b).1 ≥ -1099511627776 from h1), decide_eq_true (show (a, b).1 ≤ (a, b).2 from h2), decide_eq_true (show (a, b).2 ≤ 1099511627776 from h3)]; rfl
theorem res_r {a b : Int} (h1 : -1099511627776 ≤ a) (h2 : a ≤ b) (h3 : b ≤ 1099511627776) : F121 a b = ((a, b), 0) := by
  unfold F121 F124
  rw [decide_eq_true (show (a, b).1 ≥ -1099511627776 from h1), decide_eq_true (show (a, b).1 ≤ (a, b).2 from h2), decide_eq_true (show (a, b).2 ≤ 1099511627776 from h3)]; rfl
/-! ### Roots of quotients -/
theorem rt_eq {n : Int} (h0 : 0 ≤ n) (h : n < 4611686018427387904) : F159 n = F149 n := (rtRef h0 h).eq (rtSpan h0 h)
noncomputable def inv (N n : Int) : Int × Int :=
  (F149 (N / n), if F149 (N / n) * F149 (N / n) * n = N then F149 (N / n) else F149 (N / n) + 1)
theorem quo_bd {N n : Int} (hN : 0 ≤ N) (hn : 1 ≤ n) : 0 ≤ N / n ∧ N / n ≤ N ∧ (N / n) * n ≤ N := by
  have h1 : 0 ≤ N / n := Int.ediv_nonneg hN (by omega)
  have h2 : (N / n) * n ≤ N := Int.ediv_mul_le N (by omega)
  have h3 : (N / n) * 1 ≤ (N / n) * n := Int.mul_le_mul_of_nonneg_left hn h1
  omega
theorem inv_facts {N n : Int} (hN : 0 ≤ N ∧ N ≤ 288230376151711744) (hn : 1 ≤ n) :
    ∃ k, F149 (N / n) = k ∧ IsRt (N / n) k ∧ 0 ≤ k ∧ k ≤ 536870912 ∧ 0 ≤ k * k ∧ k * k ≤ N / n ∧ 0 ≤ k * k * n ∧ k * k * n ≤ N := by
  obtain ⟨h1, h2, h3⟩ := quo_bd hN.1 hn
  have h := rtSpan (n := N / n) h1 (by omega)
  have h4 := h.le (m := 536870912) (by omega) (by omega)
  have h5 : 0 ≤ F149 (N / n) * F149 (N / n) := Int.mul_nonneg h.1 h.1
  exact ⟨_, rfl, h, h.1, h4, h5, h.2.1, Int.mul_nonneg h5 (by omega), Int.le_trans (Int.mul_le_mul_of_nonneg_right h.2.1 (by omega)) h3⟩
theorem inv_f {N n : Int} (hN : 0 ≤ N ∧ N ≤ 288230376151711744) (hn : 1 ≤ n) : F109 N n = (inv N n, 0) := by
  obtain ⟨k, hk, _, k0, k1, k2, k3, k4, k5⟩ := inv_facts hN hn
  obtain ⟨h1, h2, h3⟩ := quo_bd hN.1 hn
  unfold F109 inv
  rw [Int.tdiv_eq_ediv_of_nonneg hN.1, W_eq (n := N / n) (by omega) (by omega), hk, W_eq (n := k * k) (by omega) (by omega), W_eq (n := k * k * n) (by omega) (by omega), W_eq (n := k + 1) (by omega) (by omega),
    res_f (by omega) (Int.le_refl k) (by omega), res_f (by omega) (by omega) (by omega)]
  by_cases h : k * k * n = N
  · rw [if_pos h, beq_iff_eq.2 h]; rfl
  · rw [if_neg h, beq_eq_false_iff_ne.2 h]; rfl
theorem inv_r {N n : Int} (hN : 0 ≤ N ∧ N ≤ 288230376151711744) (hn : 1 ≤ n) : F154 N n = (inv N n, 0) := by
  obtain ⟨k, hk, _, k0, k1, k2, k3, k4, k5⟩ := inv_facts hN hn
  obtain ⟨h1, h2, h3⟩ := quo_bd hN.1 hn
  unfold F154 inv
  rw [Int.tdiv_eq_ediv_of_nonneg hN.1, W_eq (n := N / n) (by omega) (by omega), rt_eq h1 (by omega), hk, W_eq (n := k * k) (by omega) (by omega), W_eq (n := k + 1) (by omega) (by omega),
    res_r (by omega) (Int.le_refl k) (by omega), res_r (by omega) (by omega) (by omega), Int.tmod_eq_emod_of_nonneg hN.1]
  have hdm : n * (N / n) + N % n = N := Int.mul_ediv_add_emod N n
  by_cases h0 : N % n = 0
  · rw [beq_iff_eq.2 h0, cond_true]
    by_cases h : k * k = N / n
    · rw [beq_iff_eq.2 h, cond_true, if_pos (by rw [h, Int.mul_comm]; omega)]
    · rw [beq_eq_false_iff_ne.2 h, cond_false, if_neg]
      intro h'
      rw [h0, Int.add_zero, Int.mul_comm] at hdm
      exact h (Int.eq_of_mul_eq_mul_right (by omega) (h'.trans hdm.symm))
  · rw [beq_eq_false_iff_ne.2 h0, cond_false, if_neg]
    intro h'
    rw [← h'] at h0
    exact h0 (Int.mul_emod_left _ _)
theorem inv_bd {N n : Int} (hN : 0 ≤ N ∧ N ≤ 288230376151711744) (hn : 1 ≤ n) : 0 ≤ (inv N n).1 ∧ (inv N n).1 ≤ (inv N n).2 ∧ (inv N n).2 ≤ 536870913 := by
  obtain ⟨k, hk, _, k0, k1, _⟩ := inv_facts hN hn
  unfold inv
  rw [hk]
  simp only
  split <;> omega
theorem inv_mono {N n m : Int} (hN : 0 ≤ N ∧ N ≤ 288230376151711744) (hn : 1 ≤ n) (hm : n ≤ m) : (inv N m).1 ≤ (inv N n).1 := by
  obtain ⟨h1, h2, h3⟩ := quo_bd hN.1 hn
  obtain ⟨g1, g2, g3⟩ := quo_bd (n := m) hN.1 (by omega)
  have h : N / m ≤ N / n := by
    refine Int.le_ediv_of_mul_le (by omega) (Int.le_trans (Int.mul_le_mul_of_nonneg_left hm g1) g3)
  exact (rtSpan g1 (by omega)).mono (rtSpan h1 (by omega)) h
def NN (s : Int) : Int := s * s * 1099511627776
def NC (s : Int) : Int := s * s * s * s * s * s * 1099511627776
theorem NN_bd {s : Int} (h : s = 1 ∨ s = 2 ∨ s = 4 ∨ s = 8) : 0 ≤ NN s ∧ NN s ≤ 288230376151711744 := by rcases h with rfl | rfl | rfl | rfl <;> decide
theorem NC_bd {s : Int} (h : s = 1 ∨ s = 2 ∨ s = 4 ∨ s = 8) : 0 ≤ NC s ∧ NC s ≤ 288230376151711744 := by rcases h with rfl | rfl | rfl | rfl <;> decide
noncomputable def of1 (s n : Int) : Int × Int := if n < 1 then (0, 0) else inv (NN s) n
noncomputable def of3 (s n : Int) : Int × Int := if n < 1 then (0, 0) else if 1048576 < n then (0, 1) else inv (NC s) (n * n * n)
theorem lt8 {s : Int} (h : s = 1 ∨ s = 2 ∨ s = 4 ∨ s = 8) : decide (s < 1) = false ∧ decide (s > 8) = false ∧ F125 s 1 8 = true := by
  rcases h with rfl | rfl | rfl | rfl <;> decide
theorem one_f {s n : Int} (hs : s = 1 ∨ s = 2 ∨ s = 4 ∨ s = 8) (hn : n ≤ 1000000000) : (F81 n s).1 = of1 s n := by
  obtain ⟨e1, e2, _⟩ := lt8 hs
  unfold F81 of1
  by_cases h : n < 1
  · rw [decide_eq_true h, cond_true, if_pos h]
  · have e : W ((W (s * s)) * 2 ^ (min (Int.toNat 40) 64)) = NN s := by rcases hs with rfl | rfl | rfl | rfl <;> kernel_rfl
    rw [decide_eq_false h, cond_false, decide_eq_false (show ¬ n > 1099511627776 by omega), cond_false, e1, cond_false, e2, cond_false, if_neg h, e, inv_f (NN_bd hs) (by omega)]
theorem one_r {s n : Int} (hs : s = 1 ∨ s = 2 ∨ s = 4 ∨ s = 8) (hn : n ≤ 1000000000) : (F119 n s).1 = of1 s n := by
  obtain ⟨_, _, e3⟩ := lt8 hs
  unfold F119 of1
  by_cases h : n < 1
  · rw [within_eq1, decide_eq_false (show ¬ (1 ≤ n ∧ n ≤ 1099511627776) by omega), if_pos h]; rfl
  · have e : W ((W ((W (1048576 * s)) * 1048576)) * s) = NN s := by rcases hs with rfl | rfl | rfl | rfl <;> kernel_rfl
    rw [e3, within_eq1, decide_eq_true (show (1 ≤ n ∧ n ≤ 1099511627776) by omega), if_neg h, e, inv_r (NN_bd hs) (by omega)]; rfl
theorem cub_W {n : Int} (h1 : 1 ≤ n) (h2 : n ≤ 1048576) : W ((W (n * n)) * n) = n * n * n ∧ 1 ≤ n * n * n := by
  have a1 : 1 * 1 ≤ n * n := Int.mul_le_mul h1 h1 (by omega) (by omega)
  have a2 : n * n ≤ 1048576 * 1048576 := Int.mul_le_mul h2 h2 (by omega) (by omega)
  have b1 : 1 * 1 ≤ n * n * n := Int.mul_le_mul (by omega) h1 (by omega) (by omega)
  have b2 : n * n * n ≤ 1048576 * 1048576 * 1048576 := Int.mul_le_mul a2 h2 (by omega) (by omega)
  rw [W_eq (n := n * n) (by omega) (by omega), W_eq (by omega) (by omega)]
  exact ⟨rfl, by omega⟩
/-- what a function of the distance must be -/
structure OfOk (of : Int → Int × Int) : Prop where
  lo : ∀ n, 0 ≤ (of n).1
  le : ∀ n, (of n).1 ≤ (of n).2
  hi : ∀ n, (of n).2 ≤ 536870913
  mono : ∀ n m, 1 ≤ n → n ≤ m → (of m).1 ≤ (of n).1
theorem of1_ok {s : Int} (hs : s = 1 ∨ s = 2 ∨ s = 4 ∨ s = 8) : OfOk (of1 s) := by
  have hb : ∀ n, 0 ≤ (of1 s n).1 ∧ (of1 s n).1 ≤ (of1 s n).2 ∧ (of1 s n).2 ≤ 536870913 := by
    intro n
    unfold of1
    split
    · simp
    · exact inv_bd (NN_bd hs) (by omega)
  refine ⟨fun n => (hb n).1, fun n => (hb n).2.1, fun n => (hb n).2.2, fun n m h1 h2 => ?_⟩
  unfold of1
  rw [if_neg (by omega), if_neg (by omega)]
  exact inv_mono (NN_bd hs) h1 h2
theorem cub_mono {n m : Int} (h1 : 1 ≤ n) (h2 : n ≤ m) : n * n * n ≤ m * m * m :=
  Int.mul_le_mul (Int.mul_le_mul h2 h2 (by omega) (by omega)) h2 (by omega) (Int.mul_nonneg (by omega) (by omega))
theorem of3_ok {s : Int} (hs : s = 1 ∨ s = 2 ∨ s = 4 ∨ s = 8) : OfOk (of3 s) := by
  have hb : ∀ n, 0 ≤ (of3 s n).1 ∧ (of3 s n).1 ≤ (of3 s n).2 ∧ (of3 s n).2 ≤ 536870913 := by
    intro n
    unfold of3
    split
    · simp
    · split
      · simp
      · exact inv_bd (NC_bd hs) (cub_W (by omega) (by omega)).2
  refine ⟨fun n => (hb n).1, fun n => (hb n).2.1, fun n => (hb n).2.2, fun n m h1 h2 => ?_⟩
  by_cases hm : 1048576 < m
  · have : (of3 s m).1 = 0 := by unfold of3; rw [if_neg (by omega), if_pos hm]
    rw [this]; exact (hb n).1
  · unfold of3
    rw [if_neg (by omega), if_neg hm, if_neg (by omega), if_neg (by omega)]
    exact inv_mono (NC_bd hs) (cub_W (by omega) (by omega)).2 (cub_mono h1 h2)

end Go.Proofs.Ytopbnnmkdildgaa

namespace Go.Proofs.Ytopbnnmkdildgaa
open Go.Proofs Go.Aw Go.RowKit
set_option maxRecDepth 100000
set_option linter.unusedVariables false
set_option linter.unusedSimpArgs false

/-! ### The mean -/
def fa (c : PN) (x : P3) : Int := mx (mx (mx 0 (ds c.1 x)) (ds c.2.1 x)) (ds c.2.2 x)
def ne (c : PN) (x : P3) : Int := nr (blo c) (bhi c) x x
theorem fa_f {c : PN} {x : P3} (hc : bdP 5000 c) (hx : bd 5000 x) : F107_L_L [(F105 c).1, (F105 c).2.1, (F105 c).2.2] [x] = fa c x := by
  refine (farF1 c x).trans ?_
  rw [fF_eq hc.1 hx, fF_eq hc.2.1 hx, fF_eq hc.2.2 hx]; rfl
theorem ne_f {c : PN} {x : P3} (hc : bdP 5000 c) (hx : bd 5000 x) : F106_3_1 (F105 c) x = ne c x := near31 hc hx
theorem ds_bd {p q : P3} (hp : bd 5000 p) (hq : bd 5000 q) : 0 ≤ ds p q ∧ ds p q ≤ 300000000 := by
  have h := bd_sb hp hq
  have := dt_bd h h
  exact ⟨dt_self _, by unfold ds; omega⟩
theorem fa_bd {c : PN} {x : P3} (hc : bdP 5000 c) (hx : bd 5000 x) : 0 ≤ fa c x ∧ fa c x ≤ 300000000 :=
  ⟨Int.le_trans (le_mx1 0 _) (Int.le_trans (le_mx1 _ _) (le_mx1 _ _)), mx_le (mx_le (mx_le (by omega) (ds_bd hc.1 hx).2) (ds_bd hc.2.1 hx).2) (ds_bd hc.2.2 hx).2⟩
theorem sq_le {a b : Int} (ha : 0 ≤ a) (h : a ≤ b ∨ a ≤ -b) : a * a ≤ b * b := by
  rcases h with h | h
  · exact Int.mul_le_mul h h ha (by omega)
  · have := Int.mul_le_mul h h ha (by omega)
    rwa [Int.neg_mul_neg] at this
theorem gp_le {a b c x : Int} (h1 : a ≤ c) (h2 : c ≤ b) : gp a b x x * gp a b x x ≤ (c - x) * (c - x) := by
  refine sq_le (gp_nn _ _ _ _) ?_
  unfold gp mx
  (repeat' split) <;> omega
theorem nr_nn (a b c d : P3) : 0 ≤ nr a b c d := by
  have h1 := sq_nn (gp a.1 b.1 c.1 d.1); have h2 := sq_nn (gp a.2.1 b.2.1 c.2.1 d.2.1); have h3 := sq_nn (gp a.2.2 b.2.2 c.2.2 d.2.2)
  unfold nr; omega
theorem ne_le (c : PN) (x : P3) : 0 ≤ ne c x ∧ ne c x ≤ fa c x := by
  refine ⟨nr_nn _ _ _ _, Int.le_trans ?_ (Int.le_trans (le_mx2 _ _) (Int.le_trans (le_mx1 _ (ds c.2.1 x)) (le_mx1 _ (ds c.2.2 x))))⟩
  have h1 := gp_le (x := x.1) (lo3_le c.1.1 c.2.1.1 c.2.2.1).1 (le_hi3 c.1.1 c.2.1.1 c.2.2.1).1
  have h2 := gp_le (x := x.2.1) (lo3_le c.1.2.1 c.2.1.2.1 c.2.2.2.1).1 (le_hi3 c.1.2.1 c.2.1.2.1 c.2.2.2.1).1
  have h3 := gp_le (x := x.2.2) (lo3_le c.1.2.2 c.2.1.2.2 c.2.2.2.2).1 (le_hi3 c.1.2.2 c.2.1.2.2 c.2.2.2.2).1
  unfold ne nr ds dt sb
  simp only [blo, bhi]
  omega
/-- the sums over parts -/
noncomputable def acc (of : Int → Int × Int) (x : P3) : List PN → Int × Int → (Int × Int) ⊕ ((Int × Int) × Int)
  | [], v => .inl v
  | c :: l, v => if ne c x = 0 then .inr ((0, 0), 10) else acc of x l (v.1 + (of (fa c x)).1, v.2 + (of (ne c x)).2)
/-- sums that are not out of range -/
def okv (v : Int × Int) (n : Nat) : Prop := 0 ≤ v.1 ∧ v.1 ≤ v.2 ∧ v.2 + 536870913 * n ≤ 34359738432
theorem okv_next {of : Int → Int × Int} (ho : OfOk of) {c : PN} {x : P3} {v : Int × Int} {n : Nat} (h : okv v (n + 1)) (hn : ne c x ≠ 0) :
    okv (v.1 + (of (fa c x)).1, v.2 + (of (ne c x)).2) n := by
  have h0 := ne_le c x
  have h1 := ho.lo (fa c x); have h2 := ho.mono (ne c x) (fa c x) (by omega) h0.2; have h3 := ho.le (ne c x); have h4 := ho.hi (ne c x)
  unfold okv at *; simp only; omega
theorem acc_ok {of : Int → Int × Int} (ho : OfOk of) {x : P3} : ∀ {l : List PN} {v w : Int × Int}, okv v l.length → acc of x l v = .inl w → okv w 0
  | [], v, w, h, e => by cases e; exact h
  | c :: l, v, w, h, e => by
    unfold acc at e
    split at e
    · cases e
    · rename_i hn; exact acc_ok ho (okv_next ho h hn) e
theorem acc_runL {of : Int → Int × Int} (ho : OfOk of) {x : P3} {S : Int × Int → PN → (Int × Int) ⊕ ((Int × Int) × Int)} :
    ∀ {l : List PN} {v : Int × Int}, (∀ c ∈ l, ∀ v : Int × Int, S v c = if ne c x = 0 then .inr ((0, 0), 10) else .inl (W (v.1 + (of (fa c x)).1), W (v.2 + (of (ne c x)).2))) → okv v l.length → runL S l v = acc of x l v
  | [], v, _, _ => rfl
  | c :: l, v, hS, h => by
    have h0 := hS c (List.mem_cons_self) v
    unfold runL acc
    rw [h0]
    by_cases hn : ne c x = 0
    · rw [if_pos hn, if_pos hn]
    · rw [if_neg hn, if_neg hn]
      have h1 := okv_next ho h hn
      have h2 := h1
      unfold okv at h2; simp only at h2
      simp only
      rw [W_eq (by omega) (by omega), W_eq (by omega) (by omega)]
      exact acc_runL ho (fun c hc => hS c (List.mem_cons_of_mem _ hc)) h1
theorem acc_loopF {of : Int → Int × Int} (ho : OfOk of) {x : P3} {S : Int × Int × Int → (Int × Int × Int) ⊕ ((Int × Int) × Int)} {G : Int × Int → (Int × Int) × Int} {L : List PN}
    (hS : ∀ (i : Nat) (c : PN), L[i]? = some c → ∀ v1 v2 : Int, S (v1, v2, (i : Int)) = if ne c x = 0 then .inr ((0, 0), 10) else .inl (W (v1 + (of (fa c x)).1), W (v2 + (of (ne c x)).2), ((i + 1 : Nat) : Int)))
    (hE : ∀ v1 v2 : Int, S (v1, v2, (L.length : Int)) = .inr (G (v1, v2))) :
    ∀ (l : List PN) (i n : Nat) (v : Int × Int), L.drop i = l → i ≤ L.length → l.length < n → okv v l.length → loopF S n (v.1, v.2, (i : Int)) = thenL G (acc of x l v)
  | [], i, n, v, hd, hi, hn, h => by
    have : i = L.length := by have := List.drop_eq_nil_iff.1 hd; omega
    obtain ⟨n, rfl⟩ : ∃ m, n = m + 1 := ⟨n - 1, by simp only [List.length_nil] at hn; omega⟩
    subst this
    rw [loopF_inr (hE _ _)]; rfl
  | c :: l, i, n, v, hd, hi, hn, h => by
    have hc : L[i]? = some c := by
      have : (L.drop i)[0]? = some c := by rw [hd]; rfl
      simpa using this
    have hlt : i < L.length := by
      obtain ⟨hlt, _⟩ := List.getElem?_eq_some_iff.1 hc; exact hlt
    obtain ⟨n, rfl⟩ : ∃ m, n = m + 1 := ⟨n - 1, by omega⟩
    have h0 := hS i c hc v.1 v.2
    unfold acc
    by_cases hz : ne c x = 0
    · rw [if_pos hz] at h0
      rw [if_pos hz, loopF_inr h0]; rfl
    · rw [if_neg hz] at h0
      rw [if_neg hz, loopF_inl h0]
      have h1 := okv_next ho h hz
      have h2 := h1
      unfold okv at h2; simp only at h2
      rw [W_eq (by omega) (by omega), W_eq (by omega) (by omega)]
      exact acc_loopF ho hS hE l (i + 1) n _ (by rw [← List.drop_drop, hd]; rfl) (by omega) (by simp only [List.length_cons] at hn; omega) h1
/-! division by small numbers -/
theorem dn_f {a n : Int} (hn : n = 1 ∨ n = 4 ∨ n = 16 ∨ n = 64) (ha : -1099511627776 ≤ a ∧ a ≤ 1099511627776) : F115 a n = a / n := by
  unfold F115
  have h0 : ∀ b : Int, decide (n < 0) = false := fun _ => decide_eq_false (by omega)
  rw [h0 0]
  have key : (bif ((Int.tmod a n : Int) != 0) then (bif (!(decide (a < 0) == false)) then W (W (Int.tdiv a n) - 1) else W (Int.tdiv a n)) else W (Int.tdiv a n)) = if Int.tmod a n ≠ 0 ∧ a < 0 then W (W (Int.tdiv a n) - 1) else W (Int.tdiv a n) := by
    by_cases h1 : Int.tmod a n = 0
    · rw [h1]; simp
    · by_cases h2 : a < 0
      · rw [bne_iff_ne.2 h1, decide_eq_true h2, if_pos ⟨h1, h2⟩]; rfl
      · rw [bne_iff_ne.2 h1, decide_eq_false h2, if_neg (fun h => h2 h.2)]; rfl
  rw [key]
  rcases Int.lt_or_le a 0 with h | h
  · obtain ⟨b, rfl⟩ : ∃ b : Int, a = -b := ⟨-a, by omega⟩
    have hb : 0 ≤ b := by omega
    rw [Int.neg_tdiv, Int.neg_tmod, Int.tdiv_eq_ediv_of_nonneg hb, Int.tmod_eq_emod_of_nonneg hb]
    rcases hn with rfl | rfl | rfl | rfl <;>
    · rw [W_eq (n := -(b / _)) (by omega) (by omega)]
      split
      · rw [W_eq (by omega) (by omega)]; omega
      · omega
  · rw [if_neg (by omega), Int.tdiv_eq_ediv_of_nonneg h]
    rcases hn with rfl | rfl | rfl | rfl <;> exact W_eq (by omega) (by omega)
theorem dn_r {a n : Int} (hn : n = 1 ∨ n = 4 ∨ n = 16 ∨ n = 64) (ha : -1099511627776 ≤ a ∧ a ≤ 1099511627776) : F122 a n = a / n := by
  unfold F122
  rcases Int.lt_or_le a 0 with h | h
  · obtain ⟨b, rfl⟩ : ∃ b : Int, a = -b := ⟨-a, by omega⟩
    have hb : 0 ≤ b := by omega
    rw [Int.neg_tdiv, Int.neg_tmod, Int.tdiv_eq_ediv_of_nonneg hb, Int.tmod_eq_emod_of_nonneg hb]
    by_cases h1 : -(b % n) < (0 : Int)
    · rw [decide_eq_true h1, cond_true]
      rcases hn with rfl | rfl | rfl | rfl <;>
      · rw [W_eq (n := -(b / _)) (by omega) (by omega), W_eq (by omega) (by omega)]; omega
    · rw [decide_eq_false h1, cond_false]
      rcases hn with rfl | rfl | rfl | rfl <;>
      · rw [W_eq (n := -(b / _)) (by omega) (by omega)]; omega
  · rw [Int.tdiv_eq_ediv_of_nonneg h, Int.tmod_eq_emod_of_nonneg h]
    have : ¬ a % n < 0 := by have := Int.emod_nonneg a (show n ≠ 0 by omega); omega
    rw [decide_eq_false this, cond_false]
    rcases hn with rfl | rfl | rfl | rfl <;> exact W_eq (by omega) (by omega)
theorem up_f {a n : Int} (hn : n = 1 ∨ n = 4 ∨ n = 16 ∨ n = 64) (ha : -1099511627776 ≤ a ∧ a ≤ 1099511627776) : F116 a n = -(-a / n) := by
  unfold F116
  rw [W_eq (n := 0 - a) (by omega) (by omega), dn_f hn (by omega), Int.zero_sub]
  rcases hn with rfl | rfl | rfl | rfl <;> exact (W_eq (by omega) (by omega)).trans (by omega)
theorem up_r {a n : Int} (hn : n = 1 ∨ n = 4 ∨ n = 16 ∨ n = 64) (ha : -1099511627776 ≤ a ∧ a ≤ 1099511627776) : F123 a n = -(-a / n) := by
  unfold F123
  rw [W_eq (n := 0 - a) (by omega) (by omega), dn_r hn (by omega), Int.zero_sub]
  rcases hn with rfl | rfl | rfl | rfl <;> exact (W_eq (by omega) (by omega)).trans (by omega)
/-- the mean of so many spans -/
def avg (v : Int × Int) (n : Int) : Int × Int := (v.1 / n, -(-v.2 / n))
theorem val_f {a b : Int} (h1 : -1099511627776 ≤ a) (h2 : a ≤ b) (h3 : b ≤ 1099511627776) : F102 (a, b) = true := by
  unfold F102
  rw [decide_eq_true (show (a, b).1 ≥ -1099511627776 from h1), decide_eq_true (show (a, b).1 ≤ (a, b).2 from h2), decide_eq_true (show (a, b).2 ≤ 1099511627776 from h3)]; rfl
theorem avg_f {v : Int × Int} {n : Int} (hn : n = 1 ∨ n = 4 ∨ n = 16 ∨ n = 64) (h : okv v 0) : F108 v.1 v.2 n = avg v n := by
  unfold okv at h
  unfold F108 F148 F75_1
  rw [val_f (by omega) (by omega) (by omega)]
  simp only [Bool.not_true, cond_false, bne_self_eq_false]
  rw [decide_eq_false (show ¬ n < 1 by omega), decide_eq_false (show ¬ n > 1099511627776 by omega), cond_false, cond_false, dn_f hn (by omega), up_f hn (by omega)]
  have : v.1 / n ≤ -(-v.2 / n) ∧ -1099511627776 ≤ v.1 / n ∧ -(-v.2 / n) ≤ 1099511627776 := by
    rcases hn with rfl | rfl | rfl | rfl <;> omega
  rw [res_f this.2.1 this.1 this.2.2]; rfl
theorem cnt_in (d : Int) : sc d * sc d = 1 ∨ sc d * sc d = 4 ∨ sc d * sc d = 16 ∨ sc d * sc d = 64 := by
  rcases sc_in d with h | h | h | h <;> rw [h] <;> decide

end Go.Proofs.Ytopbnnmkdildgaa

namespace Go.Proofs.Ytopbnnmkdildgaa
open Go.Proofs Go.Aw Go.RowKit
set_option maxRecDepth 100000
set_option linter.unusedVariables false
set_option linter.unusedSimpArgs false

/-! ### The program's mean is the reference's -/
theorem thenL_ok {of : Int → Int × Int} (ho : OfOk of) {x : P3} {l : List PN} {R : Type} {G G' : Int × Int → R} {v : Int × Int} {w : (Int × Int) ⊕ R}
    (hv : okv v l.length) (hw : ∀ u, w = .inl u → acc of x l v = .inl u) (h : ∀ u, okv u 0 → G u = G' u) : thenL G w = thenL G' w := by
  cases w with
  | inl u => exact h u (acc_ok ho hv (hw u rfl))
  | inr r => rfl
theorem cutL_in {p c : PN} {d : Int} (hp : bdP 64 p) (hd : 0 ≤ d ∧ d ≤ 3) (hc : c ∈ cutL d.toNat p) : bdP 512 c := by
  have key : ∀ k : Nat, k ≤ 3 → c ∈ cutL k p → bdP 512 c := by
    intro k hk hc
    have : k = 0 ∨ k = 1 ∨ k = 2 ∨ k = 3 := by omega
    rcases this with rfl | rfl | rfl | rfl <;> exact (cutL_bd (m := 64) _ hp (by decide) (by decide) hc).mono (by decide)
  exact key _ (by omega) hc
theorem okv_0 {p : PN} {d : Int} (hd : 0 ≤ d ∧ d ≤ 3) : okv (0, 0) (cutL d.toNat p).length := by
  have h := cnt_len hd p
  have h1 := cnt_in d
  unfold okv; simp only; omega
noncomputable def meanS (of : Int → Int × Int) (p : PN) (x : P3) (d : Int) : (Int × Int) × Int :=
  thenL (fun v => (avg v (sc d * sc d), 0)) (acc of (tm (sc d) x) (cutL d.toNat p) (0, 0))
section
variable {p : PN} {x : P3} {d : Int}
theorem mean1_f (hp : bdP 64 p) (hx : bd 256 x) (hd : 0 ≤ d ∧ d ≤ 3) : F80_f81 p x d = meanS (of1 (sc d)) p x d := by
  have hs := sc_bd d
  have hx' : bd 5000 (tm (sc d) x) := (bd_tm hs (by omega) hx).mono (by omega)
  have ho := of1_ok (sc_in d)
  have hk := okv_0 (p := p) hd
  unfold F80_f81 meanS
  rw [acc_runL ho (x := tm (sc d) x) (S := S80_f81_r p x d) (fun c hc v => ?_) hk]
  · refine thenL_ok ho hk (fun u h => h) (fun u hu => ?_)
    show (F108 u.1 u.2 _, (0 : Int)) = _
    rw [cnt_f hd, avg_f (cnt_in d) hu]
  · have hb := (cutL_in hp hd hc).mono (show (512 : Int) ≤ 5000 by omega)
    obtain ⟨v1, v2⟩ := v
    simp only [S80_f81_r]
    rw [sc_f hd, tm_f hs (hx.mono (by omega)), ne_f hb hx', fa_f hb hx']
    have h1 := fa_bd hb hx'; have h2 := ne_le c (tm (sc d) x)
    rw [one_f (sc_in d) (by omega), one_f (sc_in d) (by omega)]
    by_cases h : ne c (tm (sc d) x) = 0
    · rw [if_pos h, beq_iff_eq.2 h, cond_true]
    · rw [if_neg h, beq_eq_false_iff_ne.2 h, cond_false]
end
/-- Mean and MeanCube -/
noncomputable def meanV (of : Int → Int → Int × Int) (p : PN) (x : P3) (d : Int) : (Int × Int) × Int := if ck p x d = 0 then meanS (of (sc d)) p x d else ((0, 0), ck p x d)
theorem Mean_f (p : PN) (x : P3) (d : Int) : F40 p x d = meanV of1 p x d := by
  unfold F40 meanV
  rw [chk_eq]
  by_cases h : ck p x d = 0
  · obtain ⟨h1, h2, h3⟩ := ck_ok h
    rw [h, mean1_f (vp_ok h1).1 h2 h3]; rfl
  · rw [bne_iff_ne.2 h, if_neg h, cond_true]
end Go.Proofs.Ytopbnnmkdildgaa

namespace Go.Proofs.Ytopbnnmkdildgaa
open Go.Proofs Go.Aw Go.RowKit
set_option maxRecDepth 100000
set_option linter.unusedVariables false
set_option linter.unusedSimpArgs false

/-! ### The rim -/
def IsUp (T r : Int) : Prop := 0 ≤ r ∧ T ≤ r * r ∧ (r = 0 ∨ (r - 1) * (r - 1) < T)
theorem IsUp.le {T r m : Int} (h : IsUp T r) (hm : 0 ≤ m) (h' : T ≤ m * m) : r ≤ m := by
  rcases Int.lt_or_le m r with hlt | hle
  · rcases h.2.2 with h0 | h0
    · omega
    · have := Int.mul_le_mul (show m ≤ r - 1 by omega) (show m ≤ r - 1 by omega) hm (by omega)
      omega
  · exact hle
theorem IsUp.eq {T a b : Int} (h : IsUp T a) (h' : IsUp T b) : a = b := Int.le_antisymm (h.le h'.1 h'.2.1) (h'.le h.1 h.2.1)
theorem least_spec {T : Int} {S : Int × Int → (Int × Int) ⊕ Int} (hS : ∀ a b, 0 ≤ a → a < b → b ≤ 268435456 → S (a, b) = if T ≤ ((a + b) / 2) * ((a + b) / 2) then .inl (a, (a + b) / 2) else .inl ((a + b) / 2 + 1, b)) (h0 : ∀ a, S (a, a) = .inr a) :
    ∀ (f : Nat) (a b : Int), 0 ≤ a → a ≤ b → b ≤ 268435456 → b - a < f → T ≤ b * b → (a = 0 ∨ (a - 1) * (a - 1) < T) → IsUp T (loopF S f (a, b)) := by
  intro f
  induction f with
  | zero => intro a b _ h _ hf; omega
  | succ f ih =>
    intro a b ha hab hb hf h1 h2
    by_cases he : a = b
    · subst he
      rw [loopF_inr (h0 a)]; exact ⟨ha, h1, h2⟩
    · have hs := hS a b ha (by omega) hb
      by_cases hc : T ≤ ((a + b) / 2) * ((a + b) / 2)
      · rw [if_pos hc] at hs
        rw [loopF_inl hs]
        exact ih _ _ ha (by omega) (by omega) (by omega) hc h2
      · rw [if_neg hc] at hs
        rw [loopF_inl hs]
        refine ih _ _ (by omega) (by omega) hb (by omega) h1 (Or.inr ?_)
        rw [show (a + b) / 2 + 1 - 1 = (a + b) / 2 by omega]; omega
def top (d : Int) : Int := 3537128906555392 * (sc d * sc d)
theorem top_f {d : Int} (h : 0 ≤ d ∧ d ≤ 3) : W (3537128906555392 * 2 ^ (min (Int.toNat (W (2 * d))) 64)) = top d := by
  rcases d4 h with rfl | rfl | rfl | rfl <;> kernel_rfl
theorem top_r {d : Int} (h : 0 ≤ d ∧ d ≤ 3) : W ((W ((W (1099511627776 * (W (1 * 2 ^ (min (Int.toNat (IntKind.wrap .u64 d)) 64))))) * (W (1 * 2 ^ (min (Int.toNat (IntKind.wrap .u64 d)) 64))))) * 3217) = top d := by
  rcases d4 h with rfl | rfl | rfl | rfl <;> kernel_rfl
theorem top_bd (d : Int) : 3537128906555392 ≤ top d ∧ top d ≤ 226376250019545088 := by
  unfold top; have := cnt_in d; omega
/-- the quotient, rounded up -/
def cq (t b : Int) : Int := -(-t / b)
theorem cq_facts {t b : Int} (hb : 1 ≤ b) : t ≤ cq t b * b ∧ (cq t b - 1) * b < t := by
  have h1 := Int.mul_ediv_add_emod (-t) b
  have h2 := Int.emod_nonneg (-t) (show b ≠ 0 by omega)
  have h3 := Int.emod_lt_of_pos (-t) (show 0 < b by omega)
  unfold cq
  have e : -(-t / b) * b = -(b * (-t / b)) := by rw [Int.neg_mul, Int.mul_comm]
  have e2 : (-(-t / b) - 1) * b = -(b * (-t / b)) - b := by rw [Int.sub_mul, e, Int.one_mul]
  omega
theorem dn_any {a n : Int} (hn : 1 ≤ n) (ha : -1152921504606846976 ≤ a ∧ a ≤ 1152921504606846976) : F122 a n = a / n := by
  unfold F122
  rcases Int.lt_or_le a 0 with h | h
  · obtain ⟨b, rfl⟩ : ∃ b : Int, a = -b := ⟨-a, by omega⟩
    have hb : 0 ≤ b := by omega
    obtain ⟨h1, h2, _⟩ := quo_bd hb hn
    have hd := Int.mul_ediv_add_emod b n
    have hm0 := Int.emod_nonneg b (show n ≠ 0 by omega)
    have hm1 := Int.emod_lt_of_pos b (show 0 < n by omega)
    rw [Int.neg_tdiv, Int.neg_tmod, Int.tdiv_eq_ediv_of_nonneg hb, Int.tmod_eq_emod_of_nonneg hb, W_eq (n := -(b / n)) (by omega) (by omega)]
    by_cases h3 : -(b % n) < (0 : Int)
    · rw [decide_eq_true h3, cond_true, W_eq (by omega) (by omega)]
      refine (((Int.ediv_emod_unique (a := -b) (b := n) (q := -(b / n) - 1) (r := n - b % n) (by omega)).2 ⟨?_, by omega, by omega⟩).1).symm
      rw [Int.mul_sub, Int.mul_neg, Int.mul_one]; omega
    · rw [decide_eq_false h3, cond_false]
      refine (((Int.ediv_emod_unique (a := -b) (b := n) (q := -(b / n)) (r := 0) (by omega)).2 ⟨?_, by omega, by omega⟩).1).symm
      rw [Int.mul_neg]; omega
  · rw [Int.tdiv_eq_ediv_of_nonneg h, Int.tmod_eq_emod_of_nonneg h]
    have := Int.emod_nonneg a (show n ≠ 0 by omega)
    rw [decide_eq_false (by omega), cond_false]
    obtain ⟨h1, h2, _⟩ := quo_bd h hn
    exact W_eq (by omega) (by omega)
theorem up_any {a n : Int} (hn : 1 ≤ n) (ha : 0 ≤ a ∧ a ≤ 1152921504606846976) : F123 a n = cq a n := by
  unfold F123 cq
  have h1 := cq_facts (t := a) hn
  rw [W_eq (n := 0 - a) (by omega) (by omega), dn_any hn (by omega), Int.zero_sub, Int.zero_sub]
  have h2 : 0 ≤ cq a n := by
    rcases Int.lt_or_le (cq a n) 0 with h | h
    · have := Int.mul_le_mul_of_nonneg_right (show cq a n ≤ -1 by omega) (show 0 ≤ n by omega); omega
    · exact h
  have h3 : cq a n ≤ a + 1 := by
    rcases Int.lt_or_le (a + 1) (cq a n) with h | h
    · have := Int.mul_le_mul_of_nonneg_left hn (show 0 ≤ cq a n - 1 by omega); omega
    · exact h
  unfold cq at h2 h3
  exact W_eq (by omega) (by omega)
end Go.Proofs.Ytopbnnmkdildgaa
