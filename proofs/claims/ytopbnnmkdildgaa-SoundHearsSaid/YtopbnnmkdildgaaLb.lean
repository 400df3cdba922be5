/-
  A part of the proofs of the Field laws: what functions of the program compute, and that it is what the statements ask. No premise.
-/
import Derived.Test.YtopbnnmkdildgaaLa
namespace Go.Proofs.Ytopbnnmkdildgaa
open Go.Proofs Go.Aw Go.RowKit
set_option maxRecDepth 100000
set_option linter.unusedVariables false
set_option linter.unusedSimpArgs false

/-- facet/shape.from -/
def F127 (a0 : Int) (a1 : Int) (a2 : Int) : Bool :=
  (bif (decide ((a1 : Int) ≤ a0)) then
   (decide ((a0 : Int) ≤ a2))
  else
   false)

theorem C127 (a0 : Int) (a1 : Int) (a2 : Int) : Con Try.prog 127 [(iv a0), (iv a1), (iv a2)] [] (.v (.bool (F127 a0 a1 a2))) [] := by
  cases h0 : (decide ((a1 : Int) ≤ a0)) with
  | true =>
    have q0 := of_decide_eq_true h0
    have e : (F127 a0 a1 a2) = (decide ((a0 : Int) ≤ a2)) := by simp only [F127, h0, cond_true, cond_false]
    rw [e]
    refine con_of (n := 9) Try.func127 rfl (ent Try.func127 (by kernel_rfl) rfl) (by show 3 ≤ Try.f127.ntmps; decide) (by kernel_rfl) trivial (fun cx hcx => ?_)
    exact ret_of (T := T0) hT hm (f := 5000) (orc := [.d true]) [] [] [] hcx
      (obs := [.eq (decide ((a1 : Int) ≤ a0)) true]) (by kernel_rfl) ⟨h0, trivial⟩
  | false =>
    have q0 := of_decide_eq_false h0
    have e : (F127 a0 a1 a2) = false := by simp only [F127, h0, cond_true, cond_false]
    rw [e]
    refine con_of (n := 9) Try.func127 rfl (ent Try.func127 (by kernel_rfl) rfl) (by show 3 ≤ Try.f127.ntmps; decide) (by kernel_rfl) trivial (fun cx hcx => ?_)
    exact ret_of (T := T0) hT hm (f := 5000) (orc := [.d false]) [] [] [] hcx
      (obs := [.eq (decide ((a1 : Int) ≤ a0)) false]) (by kernel_rfl) ⟨h0, trivial⟩

/-- facet/shape.inRange -/
def F95 (a0 : Int × Int × Int) (a1 : Int) : Bool :=
  (bif (F127 a0.1 (W (0 - a1)) a1) then
   (bif (F127 a0.2.1 (W (0 - a1)) a1) then
    (F127 a0.2.2 (W (0 - a1)) a1)
   else
    false)
  else
   false)

noncomputable def oC95_0 (a0 : Int × Int × Int) (a1 : Int) : Ob := .call 127 [(iv a0.1), (iv (W (0 - a1))), (iv a1)] [] (.v (.bool (F127 a0.1 (W (0 - a1)) a1))) []
theorem C95 (a0 : Int × Int × Int) (a1 : Int) : Con Try.prog 95 [(.a (k3 a0)), (iv a1)] [] (.v (.bool (F95 a0 a1))) [] := by
  cases h0 : (F127 a0.1 (W (0 - a1)) a1) with
  | true =>
    cases h1 : (F127 a0.2.1 (W (0 - a1)) a1) with
    | true =>
      have e : (F95 a0 a1) = (F127 a0.2.2 (W (0 - a1)) a1) := by simp only [F95, h0, h1, cond_true, cond_false]
      rw [e]
      refine con_of (n := 9) Try.func95 rfl (ent Try.func95 (by kernel_rfl) rfl) (by show 2 ≤ Try.f95.ntmps; decide) (by kernel_rfl) trivial (fun cx hcx => ?_)
      exact ret_of (T := T0) hT hm (f := 5000) (orc := [.call [] (.v (.bool (F127 a0.1 (W (0 - a1)) a1))) [], .d true, .call [] (.v (.bool (F127 a0.2.1 (W (0 - a1)) a1))) [], .d true, .call [] (.v (.bool (F127 a0.2.2 (W (0 - a1)) a1))) []]) [] [] [] hcx
        (obs := [(oC95_0 a0 a1), .eq (F127 a0.1 (W (0 - a1)) a1) true, .call 127 [(iv a0.2.1), (iv (W (0 - a1))), (iv a1)] [] (.v (.bool (F127 a0.2.1 (W (0 - a1)) a1))) [], .eq (F127 a0.2.1 (W (0 - a1)) a1) true, .call 127 [(iv a0.2.2), (iv (W (0 - a1))), (iv a1)] [] (.v (.bool (F127 a0.2.2 (W (0 - a1)) a1))) []]) (by kernel_rfl) ⟨(C127 a0.1 (W (0 - a1)) a1), h0, (C127 a0.2.1 (W (0 - a1)) a1), h1, (C127 a0.2.2 (W (0 - a1)) a1), trivial⟩
    | false =>
      have e : (F95 a0 a1) = false := by simp only [F95, h0, h1, cond_true, cond_false]
      rw [e]
      refine con_of (n := 9) Try.func95 rfl (ent Try.func95 (by kernel_rfl) rfl) (by show 2 ≤ Try.f95.ntmps; decide) (by kernel_rfl) trivial (fun cx hcx => ?_)
      exact ret_of (T := T0) hT hm (f := 5000) (orc := [.call [] (.v (.bool (F127 a0.1 (W (0 - a1)) a1))) [], .d true, .call [] (.v (.bool (F127 a0.2.1 (W (0 - a1)) a1))) [], .d false]) [] [] [] hcx
        (obs := [(oC95_0 a0 a1), .eq (F127 a0.1 (W (0 - a1)) a1) true, .call 127 [(iv a0.2.1), (iv (W (0 - a1))), (iv a1)] [] (.v (.bool (F127 a0.2.1 (W (0 - a1)) a1))) [], .eq (F127 a0.2.1 (W (0 - a1)) a1) false]) (by kernel_rfl) ⟨(C127 a0.1 (W (0 - a1)) a1), h0, (C127 a0.2.1 (W (0 - a1)) a1), h1, trivial⟩
  | false =>
    have e : (F95 a0 a1) = false := by simp only [F95, h0, cond_true, cond_false]
    rw [e]
    refine con_of (n := 9) Try.func95 rfl (ent Try.func95 (by kernel_rfl) rfl) (by show 2 ≤ Try.f95.ntmps; decide) (by kernel_rfl) trivial (fun cx hcx => ?_)
    exact ret_of (T := T0) hT hm (f := 5000) (orc := [.call [] (.v (.bool (F127 a0.1 (W (0 - a1)) a1))) [], .d false]) [] [] [] hcx
      (obs := [(oC95_0 a0 a1), .eq (F127 a0.1 (W (0 - a1)) a1) false]) (by kernel_rfl) ⟨(C127 a0.1 (W (0 - a1)) a1), h0, trivial⟩

/-- facet/shape.plus -/
def F157 (a0 : Int × Int × Int) (a1 : Int) (a2 : Int × Int × Int) : Int × Int × Int :=
  ((W (a0.1 + (W (a1 * a2.1)))), (W (a0.2.1 + (W (a1 * a2.2.1)))), (W (a0.2.2 + (W (a1 * a2.2.2)))))

theorem C157 (a0 : Int × Int × Int) (a1 : Int) (a2 : Int × Int × Int) : Con Try.prog 157 [(.a (k3 a0)), (iv a1), (.a (k3 a2))] [] (.a (k3 (F157 a0 a1 a2))) [] := by
  have e : (F157 a0 a1 a2) = ((W (a0.1 + (W (a1 * a2.1)))), (W (a0.2.1 + (W (a1 * a2.2.1)))), (W (a0.2.2 + (W (a1 * a2.2.2))))) := by simp only [F157]
  rw [e]
  refine con_of (n := 9) Try.func157 rfl (ent Try.func157 (by kernel_rfl) rfl) (by show 3 ≤ Try.f157.ntmps; decide) (by kernel_rfl) trivial (fun cx hcx => ?_)
  exact ret_of (T := T0) hT hm (f := 5000) (orc := []) [] [] [] hcx
    (obs := []) (by kernel_rfl) trivial

/-- facet/shape.minus -/
def F129 (a0 : Int × Int × Int) (a1 : Int × Int × Int) : Int × Int × Int :=
  (F157 a0 (-1) a1)

theorem C129 (a0 : Int × Int × Int) (a1 : Int × Int × Int) : Con Try.prog 129 [(.a (k3 a0)), (.a (k3 a1))] [] (.a (k3 (F129 a0 a1))) [] := by
  have e : (F129 a0 a1) = (F157 a0 (-1) a1) := by simp only [F129]
  rw [e]
  refine con_of (n := 9) Try.func129 rfl (ent Try.func129 (by kernel_rfl) rfl) (by show 2 ≤ Try.f129.ntmps; decide) (by kernel_rfl) trivial (fun cx hcx => ?_)
  exact ret_of (T := T0) hT hm (f := 5000) (orc := [.call [] (.a (k3 (F157 a0 (-1) a1))) []]) [] [] [] hcx
    (obs := [.call 157 [(.a (k3 a0)), (iv (-1)), (.a (k3 a1))] [] (.a (k3 (F157 a0 (-1) a1))) []]) (by kernel_rfl) ⟨(C157 a0 (-1) a1), trivial⟩

/-- facet/shape.cross -/
def F128 (a0 : Int × Int × Int) (a1 : Int × Int × Int) : Int × Int × Int :=
  ((W ((W (a0.2.1 * a1.2.2)) - (W (a0.2.2 * a1.2.1)))), (W ((W (a0.2.2 * a1.1)) - (W (a0.1 * a1.2.2)))), (W ((W (a0.1 * a1.2.1)) - (W (a0.2.1 * a1.1)))))

theorem C128 (a0 : Int × Int × Int) (a1 : Int × Int × Int) : Con Try.prog 128 [(.a (k3 a0)), (.a (k3 a1))] [] (.a (k3 (F128 a0 a1))) [] := by
  have e : (F128 a0 a1) = ((W ((W (a0.2.1 * a1.2.2)) - (W (a0.2.2 * a1.2.1)))), (W ((W (a0.2.2 * a1.1)) - (W (a0.1 * a1.2.2)))), (W ((W (a0.1 * a1.2.1)) - (W (a0.2.1 * a1.1))))) := by simp only [F128]
  rw [e]
  refine con_of (n := 9) Try.func128 rfl (ent Try.func128 (by kernel_rfl) rfl) (by show 2 ≤ Try.f128.ntmps; decide) (by kernel_rfl) trivial (fun cx hcx => ?_)
  exact ret_of (T := T0) hT hm (f := 5000) (orc := []) [] [] [] hcx
    (obs := []) (by kernel_rfl) trivial

/-- facet/shape.normal -/
def F96 (a0 : (Int × Int × Int) × (Int × Int × Int) × Int × Int × Int) : Int × Int × Int :=
  (F128 (F129 a0.2.1 a0.1) (F129 a0.2.2 a0.1))

theorem C96 (a0 : (Int × Int × Int) × (Int × Int × Int) × Int × Int × Int) : Con Try.prog 96 [(.a (k9 a0))] [] (.a (k3 (F96 a0))) [] := by
  have e : (F96 a0) = (F128 (F129 a0.2.1 a0.1) (F129 a0.2.2 a0.1)) := by simp only [F96]
  rw [e]
  refine con_of (n := 9) Try.func96 rfl (ent Try.func96 (by kernel_rfl) rfl) (by show 1 ≤ Try.f96.ntmps; decide) (by kernel_rfl) trivial (fun cx hcx => ?_)
  exact ret_of (T := T0) hT hm (f := 5000) (orc := [.call [] (.a (k3 (F129 a0.2.1 a0.1))) [], .call [] (.a (k3 (F129 a0.2.2 a0.1))) [], .call [] (.a (k3 (F128 (F129 a0.2.1 a0.1) (F129 a0.2.2 a0.1)))) []]) [] [] [] hcx
    (obs := [.call 129 [(.a (k3 a0.2.1)), (.a (k3 a0.1))] [] (.a (k3 (F129 a0.2.1 a0.1))) [], .call 129 [(.a (k3 a0.2.2)), (.a (k3 a0.1))] [] (.a (k3 (F129 a0.2.2 a0.1))) [], .call 128 [(.a (k3 (F129 a0.2.1 a0.1))), (.a (k3 (F129 a0.2.2 a0.1)))] [] (.a (k3 (F128 (F129 a0.2.1 a0.1) (F129 a0.2.2 a0.1)))) []]) (by kernel_rfl) ⟨(C129 a0.2.1 a0.1), (C129 a0.2.2 a0.1), (C128 (F129 a0.2.1 a0.1) (F129 a0.2.2 a0.1)), trivial⟩

/-- facet/shape.ValidatePanel -/
def F66 (a0 : (Int × Int × Int) × (Int × Int × Int) × Int × Int × Int) : Int :=
  (bif (!(F95 a0.1 64)) then
   1
  else
   (bif (!(F95 a0.2.1 64)) then
    1
   else
    (bif (!(F95 a0.2.2 64)) then
     1
    else
     (bif ((((F96 a0).1 : Int) == 0) && ((((F96 a0).2.1 : Int) == 0) && ((((F96 a0).2.2 : Int) == 0) && true))) then
      6
     else
      0))))

noncomputable def oC66_0 (a0 : (Int × Int × Int) × (Int × Int × Int) × Int × Int × Int) : Ob := .call 95 [(.a (k3 a0.1)), (iv 64)] [] (.v (.bool (F95 a0.1 64))) []
noncomputable def oC66_1 (a0 : (Int × Int × Int) × (Int × Int × Int) × Int × Int × Int) : Ob := .call 95 [(.a (k3 a0.2.1)), (iv 64)] [] (.v (.bool (F95 a0.2.1 64))) []
theorem C66 (a0 : (Int × Int × Int) × (Int × Int × Int) × Int × Int × Int) : Con Try.prog 66 [(.a (k9 a0))] [] (iv (F66 a0)) [] := by
  cases h0 : (!(F95 a0.1 64)) with
  | true =>
    have e : (F66 a0) = 1 := by simp only [F66, h0, cond_true, cond_false]
    rw [e]
    refine con_of (n := 9) Try.func66 rfl (ent Try.func66 (by kernel_rfl) rfl) (by show 1 ≤ Try.f66.ntmps; decide) (by kernel_rfl) trivial (fun cx hcx => ?_)
    exact ret_of (T := T0) hT hm (f := 5000) (orc := [.call [] (.v (.bool (F95 a0.1 64))) [], .d true]) [] [] [] hcx
      (obs := [(oC66_0 a0), .eq (!(F95 a0.1 64)) true]) (by kernel_rfl) ⟨(C95 a0.1 64), h0, trivial⟩
  | false =>
    cases h1 : (!(F95 a0.2.1 64)) with
    | true =>
      have e : (F66 a0) = 1 := by simp only [F66, h0, h1, cond_true, cond_false]
      rw [e]
      refine con_of (n := 9) Try.func66 rfl (ent Try.func66 (by kernel_rfl) rfl) (by show 1 ≤ Try.f66.ntmps; decide) (by kernel_rfl) trivial (fun cx hcx => ?_)
      exact ret_of (T := T0) hT hm (f := 5000) (orc := [.call [] (.v (.bool (F95 a0.1 64))) [], .d false, .call [] (.v (.bool (F95 a0.2.1 64))) [], .d true]) [] [] [] hcx
        (obs := [(oC66_0 a0), .eq (!(F95 a0.1 64)) false, (oC66_1 a0), .eq (!(F95 a0.2.1 64)) true]) (by kernel_rfl) ⟨(C95 a0.1 64), h0, (C95 a0.2.1 64), h1, trivial⟩
    | false =>
      cases h2 : (!(F95 a0.2.2 64)) with
      | true =>
        have e : (F66 a0) = 1 := by simp only [F66, h0, h1, h2, cond_true, cond_false]
        rw [e]
        refine con_of (n := 9) Try.func66 rfl (ent Try.func66 (by kernel_rfl) rfl) (by show 1 ≤ Try.f66.ntmps; decide) (by kernel_rfl) trivial (fun cx hcx => ?_)
        exact ret_of (T := T0) hT hm (f := 5000) (orc := [.call [] (.v (.bool (F95 a0.1 64))) [], .d false, .call [] (.v (.bool (F95 a0.2.1 64))) [], .d false, .call [] (.v (.bool (F95 a0.2.2 64))) [], .d true]) [] [] [] hcx
          (obs := [(oC66_0 a0), .eq (!(F95 a0.1 64)) false, (oC66_1 a0), .eq (!(F95 a0.2.1 64)) false, .call 95 [(.a (k3 a0.2.2)), (iv 64)] [] (.v (.bool (F95 a0.2.2 64))) [], .eq (!(F95 a0.2.2 64)) true]) (by kernel_rfl) ⟨(C95 a0.1 64), h0, (C95 a0.2.1 64), h1, (C95 a0.2.2 64), h2, trivial⟩
      | false =>
        cases h3 : ((((F96 a0).1 : Int) == 0) && ((((F96 a0).2.1 : Int) == 0) && ((((F96 a0).2.2 : Int) == 0) && true))) with
        | true =>
          have e : (F66 a0) = 6 := by simp only [F66, h0, h1, h2, h3, cond_true, cond_false]
          rw [e]
          refine con_of (n := 9) Try.func66 rfl (ent Try.func66 (by kernel_rfl) rfl) (by show 1 ≤ Try.f66.ntmps; decide) (by kernel_rfl) trivial (fun cx hcx => ?_)
          exact ret_of (T := T0) hT hm (f := 5000) (orc := [.call [] (.v (.bool (F95 a0.1 64))) [], .d false, .call [] (.v (.bool (F95 a0.2.1 64))) [], .d false, .call [] (.v (.bool (F95 a0.2.2 64))) [], .d false, .call [] (.a (k3 (F96 a0))) [], .d true]) [] [] [] hcx
            (obs := [(oC66_0 a0), .eq (!(F95 a0.1 64)) false, (oC66_1 a0), .eq (!(F95 a0.2.1 64)) false, .call 95 [(.a (k3 a0.2.2)), (iv 64)] [] (.v (.bool (F95 a0.2.2 64))) [], .eq (!(F95 a0.2.2 64)) false, .call 96 [(.a (k9 a0))] [] (.a (k3 (F96 a0))) [], .eq ((((F96 a0).1 : Int) == 0) && ((((F96 a0).2.1 : Int) == 0) && ((((F96 a0).2.2 : Int) == 0) && true))) true]) (by kernel_rfl) ⟨(C95 a0.1 64), h0, (C95 a0.2.1 64), h1, (C95 a0.2.2 64), h2, (C96 a0), h3, trivial⟩
        | false =>
          have e : (F66 a0) = 0 := by simp only [F66, h0, h1, h2, h3, cond_true, cond_false]
          rw [e]
          refine con_of (n := 9) Try.func66 rfl (ent Try.func66 (by kernel_rfl) rfl) (by show 1 ≤ Try.f66.ntmps; decide) (by kernel_rfl) trivial (fun cx hcx => ?_)
          exact ret_of (T := T0) hT hm (f := 5000) (orc := [.call [] (.v (.bool (F95 a0.1 64))) [], .d false, .call [] (.v (.bool (F95 a0.2.1 64))) [], .d false, .call [] (.v (.bool (F95 a0.2.2 64))) [], .d false, .call [] (.a (k3 (F96 a0))) [], .d false]) [] [] [] hcx
            (obs := [(oC66_0 a0), .eq (!(F95 a0.1 64)) false, (oC66_1 a0), .eq (!(F95 a0.2.1 64)) false, .call 95 [(.a (k3 a0.2.2)), (iv 64)] [] (.v (.bool (F95 a0.2.2 64))) [], .eq (!(F95 a0.2.2 64)) false, .call 96 [(.a (k9 a0))] [] (.a (k3 (F96 a0))) [], .eq ((((F96 a0).1 : Int) == 0) && ((((F96 a0).2.1 : Int) == 0) && ((((F96 a0).2.2 : Int) == 0) && true))) false]) (by kernel_rfl) ⟨(C95 a0.1 64), h0, (C95 a0.2.1 64), h1, (C95 a0.2.2 64), h2, (C96 a0), h3, trivial⟩

/-- facet/field.within -/
def F43 (a0 : Int) (a1 : Int) (a2 : Int) : Bool :=
  (bif (decide ((a0 : Int) ≥ a1)) then
   (decide ((a0 : Int) ≤ a2))
  else
   false)

theorem C43 (a0 : Int) (a1 : Int) (a2 : Int) : Con Try.prog 43 [(iv a0), (iv a1), (iv a2)] [] (.v (.bool (F43 a0 a1 a2))) [] := by
  cases h0 : (decide ((a0 : Int) ≥ a1)) with
  | true =>
    have q0 := of_decide_eq_true h0
    have e : (F43 a0 a1 a2) = (decide ((a0 : Int) ≤ a2)) := by simp only [F43, h0, cond_true, cond_false]
    rw [e]
    refine con_of (n := 9) Try.func43 rfl (ent Try.func43 (by kernel_rfl) rfl) (by show 3 ≤ Try.f43.ntmps; decide) (by kernel_rfl) trivial (fun cx hcx => ?_)
    exact ret_of (T := T0) hT hm (f := 5000) (orc := [.d true]) [] [] [] hcx
      (obs := [.eq (decide ((a0 : Int) ≥ a1)) true]) (by kernel_rfl) ⟨h0, trivial⟩
  | false =>
    have q0 := of_decide_eq_false h0
    have e : (F43 a0 a1 a2) = false := by simp only [F43, h0, cond_true, cond_false]
    rw [e]
    refine con_of (n := 9) Try.func43 rfl (ent Try.func43 (by kernel_rfl) rfl) (by show 3 ≤ Try.f43.ntmps; decide) (by kernel_rfl) trivial (fun cx hcx => ?_)
    exact ret_of (T := T0) hT hm (f := 5000) (orc := [.d false]) [] [] [] hcx
      (obs := [.eq (decide ((a0 : Int) ≥ a1)) false]) (by kernel_rfl) ⟨h0, trivial⟩

/-- facet/field.seen -/
def F42 (a0 : Int × Int × Int) : Bool :=
  (bif (F43 a0.1 (-256) 256) then
   (bif (F43 a0.2.1 (-256) 256) then
    (F43 a0.2.2 (-256) 256)
   else
    false)
  else
   false)

noncomputable def oC42_0 (a0 : Int × Int × Int) : Ob := .call 43 [(iv a0.1), (iv (-256)), (iv 256)] [] (.v (.bool (F43 a0.1 (-256) 256))) []
theorem C42 (a0 : Int × Int × Int) : Con Try.prog 42 [(.a (k3 a0))] [] (.v (.bool (F42 a0))) [] := by
  cases h0 : (F43 a0.1 (-256) 256) with
  | true =>
    cases h1 : (F43 a0.2.1 (-256) 256) with
    | true =>
      have e : (F42 a0) = (F43 a0.2.2 (-256) 256) := by simp only [F42, h0, h1, cond_true, cond_false]
      rw [e]
      refine con_of (n := 9) Try.func42 rfl (ent Try.func42 (by kernel_rfl) rfl) (by show 1 ≤ Try.f42.ntmps; decide) (by kernel_rfl) trivial (fun cx hcx => ?_)
      exact ret_of (T := T0) hT hm (f := 5000) (orc := [.call [] (.v (.bool (F43 a0.1 (-256) 256))) [], .d true, .call [] (.v (.bool (F43 a0.2.1 (-256) 256))) [], .d true, .call [] (.v (.bool (F43 a0.2.2 (-256) 256))) []]) [] [] [] hcx
        (obs := [(oC42_0 a0), .eq (F43 a0.1 (-256) 256) true, .call 43 [(iv a0.2.1), (iv (-256)), (iv 256)] [] (.v (.bool (F43 a0.2.1 (-256) 256))) [], .eq (F43 a0.2.1 (-256) 256) true, .call 43 [(iv a0.2.2), (iv (-256)), (iv 256)] [] (.v (.bool (F43 a0.2.2 (-256) 256))) []]) (by kernel_rfl) ⟨(C43 a0.1 (-256) 256), h0, (C43 a0.2.1 (-256) 256), h1, (C43 a0.2.2 (-256) 256), trivial⟩
    | false =>
      have e : (F42 a0) = false := by simp only [F42, h0, h1, cond_true, cond_false]
      rw [e]
      refine con_of (n := 9) Try.func42 rfl (ent Try.func42 (by kernel_rfl) rfl) (by show 1 ≤ Try.f42.ntmps; decide) (by kernel_rfl) trivial (fun cx hcx => ?_)
      exact ret_of (T := T0) hT hm (f := 5000) (orc := [.call [] (.v (.bool (F43 a0.1 (-256) 256))) [], .d true, .call [] (.v (.bool (F43 a0.2.1 (-256) 256))) [], .d false]) [] [] [] hcx
        (obs := [(oC42_0 a0), .eq (F43 a0.1 (-256) 256) true, .call 43 [(iv a0.2.1), (iv (-256)), (iv 256)] [] (.v (.bool (F43 a0.2.1 (-256) 256))) [], .eq (F43 a0.2.1 (-256) 256) false]) (by kernel_rfl) ⟨(C43 a0.1 (-256) 256), h0, (C43 a0.2.1 (-256) 256), h1, trivial⟩
  | false =>
    have e : (F42 a0) = false := by simp only [F42, h0, cond_true, cond_false]
    rw [e]
    refine con_of (n := 9) Try.func42 rfl (ent Try.func42 (by kernel_rfl) rfl) (by show 1 ≤ Try.f42.ntmps; decide) (by kernel_rfl) trivial (fun cx hcx => ?_)
    exact ret_of (T := T0) hT hm (f := 5000) (orc := [.call [] (.v (.bool (F43 a0.1 (-256) 256))) [], .d false]) [] [] [] hcx
      (obs := [(oC42_0 a0), .eq (F43 a0.1 (-256) 256) false]) (by kernel_rfl) ⟨(C43 a0.1 (-256) 256), h0, trivial⟩

/-- facet/field.check -/
def F79 (a0 : (Int × Int × Int) × (Int × Int × Int) × Int × Int × Int) (a1 : Int × Int × Int) (a2 : Int) : Int :=
  (bif (((F66 a0) : Int) != 0) then
   (F66 a0)
  else
   (bif (!(F42 a1)) then
    1
   else
    (bif (!(F43 a2 0 3)) then
     1
    else
     0)))

theorem C79 (a0 : (Int × Int × Int) × (Int × Int × Int) × Int × Int × Int) (a1 : Int × Int × Int) (a2 : Int) : Con Try.prog 79 [(.a (k9 a0)), (.a (k3 a1)), (iv a2)] [] (iv (F79 a0 a1 a2)) [] := by
  cases h0 : (((F66 a0) : Int) != 0) with
  | true =>
    have q0 := bne_iff_ne.1 h0
    have e : (F79 a0 a1 a2) = (F66 a0) := by simp only [F79, h0, cond_true, cond_false]
    rw [e]
    refine con_of (n := 9) Try.func79 rfl (ent Try.func79 (by kernel_rfl) rfl) (by show 3 ≤ Try.f79.ntmps; decide) (by kernel_rfl) trivial (fun cx hcx => ?_)
    exact ret_of (T := T0) hT hm (f := 5000) (orc := [.call [] (iv (F66 a0)) [], .d true]) [] [] [] hcx
      (obs := [.call 66 [(.a (k9 a0))] [] (iv (F66 a0)) [], .eq (((F66 a0) : Int) != 0) true]) (by kernel_rfl) ⟨(C66 a0), h0, trivial⟩
  | false =>
    cases h1 : (!(F42 a1)) with
    | true =>
      have q0 := bne_eq_false_iff_eq.1 h0
      have e : (F79 a0 a1 a2) = 1 := by simp only [F79, h0, h1, cond_true, cond_false]
      rw [e]
      refine con_of (n := 9) Try.func79 rfl (ent Try.func79 (by kernel_rfl) rfl) (by show 3 ≤ Try.f79.ntmps; decide) (by kernel_rfl) trivial (fun cx hcx => ?_)
      exact ret_of (T := T0) hT hm (f := 5000) (orc := [.call [] (iv (F66 a0)) [], .d false, .call [] (.v (.bool (F42 a1))) [], .d true]) [] [] [] hcx
        (obs := [.call 66 [(.a (k9 a0))] [] (iv (F66 a0)) [], .eq (((F66 a0) : Int) != 0) false, .call 42 [(.a (k3 a1))] [] (.v (.bool (F42 a1))) [], .eq (!(F42 a1)) true]) (by kernel_rfl) ⟨(C66 a0), h0, (C42 a1), h1, trivial⟩
    | false =>
      cases h2 : (!(F43 a2 0 3)) with
      | true =>
        have q0 := bne_eq_false_iff_eq.1 h0
        have e : (F79 a0 a1 a2) = 1 := by simp only [F79, h0, h1, h2, cond_true, cond_false]
        rw [e]
        refine con_of (n := 9) Try.func79 rfl (ent Try.func79 (by kernel_rfl) rfl) (by show 3 ≤ Try.f79.ntmps; decide) (by kernel_rfl) trivial (fun cx hcx => ?_)
        exact ret_of (T := T0) hT hm (f := 5000) (orc := [.call [] (iv (F66 a0)) [], .d false, .call [] (.v (.bool (F42 a1))) [], .d false, .call [] (.v (.bool (F43 a2 0 3))) [], .d true]) [] [] [] hcx
          (obs := [.call 66 [(.a (k9 a0))] [] (iv (F66 a0)) [], .eq (((F66 a0) : Int) != 0) false, .call 42 [(.a (k3 a1))] [] (.v (.bool (F42 a1))) [], .eq (!(F42 a1)) false, .call 43 [(iv a2), (iv 0), (iv 3)] [] (.v (.bool (F43 a2 0 3))) [], .eq (!(F43 a2 0 3)) true]) (by kernel_rfl) ⟨(C66 a0), h0, (C42 a1), h1, (C43 a2 0 3), h2, trivial⟩
      | false =>
        have q0 := bne_eq_false_iff_eq.1 h0
        have e : (F79 a0 a1 a2) = 0 := by simp only [F79, h0, h1, h2, cond_true, cond_false]
        rw [e]
        refine con_of (n := 9) Try.func79 rfl (ent Try.func79 (by kernel_rfl) rfl) (by show 3 ≤ Try.f79.ntmps; decide) (by kernel_rfl) trivial (fun cx hcx => ?_)
        exact ret_of (T := T0) hT hm (f := 5000) (orc := [.call [] (iv (F66 a0)) [], .d false, .call [] (.v (.bool (F42 a1))) [], .d false, .call [] (.v (.bool (F43 a2 0 3))) [], .d false]) [] [] [] hcx
          (obs := [.call 66 [(.a (k9 a0))] [] (iv (F66 a0)) [], .eq (((F66 a0) : Int) != 0) false, .call 42 [(.a (k3 a1))] [] (.v (.bool (F42 a1))) [], .eq (!(F42 a1)) false, .call 43 [(iv a2), (iv 0), (iv 3)] [] (.v (.bool (F43 a2 0 3))) [], .eq (!(F43 a2 0 3)) false]) (by kernel_rfl) ⟨(C66 a0), h0, (C42 a1), h1, (C43 a2 0 3), h2, trivial⟩

/-- facet/field.sum[int] at (3,) -/
def F158_3 (a0 : (Int) × (Int) × (Int)) : Int :=
  (W ((W ((W (0 + a0.1)) + a0.2.1)) + a0.2.2))

theorem C158_3 (a0 : (Int) × (Int) × (Int)) : Con Try.prog 158 [(.s 0 0 3 1)] [(.live false false (k3 a0))] (iv (F158_3 a0)) [] := by
  have e : (F158_3 a0) = (W ((W ((W (0 + a0.1)) + a0.2.1)) + a0.2.2)) := by simp only [F158_3]
  rw [e]
  refine con_of (n := 9) Try.func158 rfl (ent Try.func158 (by kernel_rfl) rfl) (by show 1 ≤ Try.f158.ntmps; decide) (by kernel_rfl) ⟨rfl, trivial⟩ (fun cx hcx => ?_)
  exact ret_of (T := T0) hT hm (f := 5000) (orc := [.un 200, .d true, .un 0, .d true, .un 0, .d true, .un 0, .d false]) [] [] [] hcx
    (obs := [.eq true true, .pr (0 ≤ (0 : Int) ∧ (0 : Int) < ((3 : Nat) : Int)), .eq true true, .pr (0 ≤ (1 : Int) ∧ (1 : Int) < ((3 : Nat) : Int)), .eq true true, .pr (0 ≤ (2 : Int) ∧ (2 : Int) < ((3 : Nat) : Int)), .eq false false]) (by kernel_rfl) ⟨rfl, (show 0 ≤ (0 : Int) ∧ (0 : Int) < ((3 : Nat) : Int) from by decide), rfl, (show 0 ≤ (1 : Int) ∧ (1 : Int) < ((3 : Nat) : Int) from by decide), rfl, (show 0 ≤ (2 : Int) ∧ (2 : Int) < ((3 : Nat) : Int) from by decide), rfl, trivial⟩

/-- facet/field.dot -/
def F146 (a0 : Int × Int × Int) (a1 : Int × Int × Int) : Int :=
  (F158_3 ((W (a0.1 * a1.1)), (W (a0.2.1 * a1.2.1)), (W (a0.2.2 * a1.2.2))))

theorem C146 (a0 : Int × Int × Int) (a1 : Int × Int × Int) : Con Try.prog 146 [(.a (k3 a0)), (.a (k3 a1))] [] (iv (F146 a0 a1)) [] := by
  have e : (F146 a0 a1) = (F158_3 ((W (a0.1 * a1.1)), (W (a0.2.1 * a1.2.1)), (W (a0.2.2 * a1.2.2)))) := by simp only [F146]
  rw [e]
  refine con_of (n := 9) Try.func146 rfl (ent Try.func146 (by kernel_rfl) rfl) (by show 2 ≤ Try.f146.ntmps; decide) (by kernel_rfl) trivial (fun cx hcx => ?_)
  exact ret_of (T := T0) hT hm (f := 5000) (orc := [.call [2] (iv (F158_3 ((W (a0.1 * a1.1)), (W (a0.2.1 * a1.2.1)), (W (a0.2.2 * a1.2.2))))) []]) [] [] [] hcx
    (obs := [.call 158 [(.s 0 0 3 1)] [(.live false false [(iv (W (a0.1 * a1.1))), (iv (W (a0.2.1 * a1.2.1))), (iv (W (a0.2.2 * a1.2.2)))])] (iv (F158_3 ((W (a0.1 * a1.1)), (W (a0.2.1 * a1.2.1)), (W (a0.2.2 * a1.2.2))))) []]) (by kernel_rfl) ⟨(C158_3 ((W (a0.1 * a1.1)), (W (a0.2.1 * a1.2.1)), (W (a0.2.2 * a1.2.2)))), trivial⟩

/-- facet/field.vector -/
def F147 (a0 : Int × Int × Int) (a1 : Int × Int × Int) : Int × Int × Int :=
  ((W (a0.1 - a1.1)), (W (a0.2.1 - a1.2.1)), (W (a0.2.2 - a1.2.2)))

theorem C147 (a0 : Int × Int × Int) (a1 : Int × Int × Int) : Con Try.prog 147 [(.a (k3 a0)), (.a (k3 a1))] [] (.a (k3 (F147 a0 a1))) [] := by
  have e : (F147 a0 a1) = ((W (a0.1 - a1.1)), (W (a0.2.1 - a1.2.1)), (W (a0.2.2 - a1.2.2))) := by simp only [F147]
  rw [e]
  refine con_of (n := 9) Try.func147 rfl (ent Try.func147 (by kernel_rfl) rfl) (by show 2 ≤ Try.f147.ntmps; decide) (by kernel_rfl) trivial (fun cx hcx => ?_)
  exact ret_of (T := T0) hT hm (f := 5000) (orc := []) [] [] [] hcx
    (obs := []) (by kernel_rfl) trivial

/-- facet/field.box at (3,) -/
def F144_3 (a0 : (Int × Int × Int) × (Int × Int × Int) × (Int × Int × Int)) : (Int × Int × Int) × Int × Int × Int :=
  (((if (a0.2.2.1 : Int) < (if (a0.2.1.1 : Int) < (if (a0.1.1 : Int) < a0.1.1 then a0.1.1 else a0.1.1) then a0.2.1.1 else (if (a0.1.1 : Int) < a0.1.1 then a0.1.1 else a0.1.1)) then a0.2.2.1 else (if (a0.2.1.1 : Int) < (if (a0.1.1 : Int) < a0.1.1 then a0.1.1 else a0.1.1) then a0.2.1.1 else (if (a0.1.1 : Int) < a0.1.1 then a0.1.1 else a0.1.1))), (if (a0.2.2.2.1 : Int) < (if (a0.2.1.2.1 : Int) < (if (a0.1.2.1 : Int) < a0.1.2.1 then a0.1.2.1 else a0.1.2.1) then a0.2.1.2.1 else (if (a0.1.2.1 : Int) < a0.1.2.1 then a0.1.2.1 else a0.1.2.1)) then a0.2.2.2.1 else (if (a0.2.1.2.1 : Int) < (if (a0.1.2.1 : Int) < a0.1.2.1 then a0.1.2.1 else a0.1.2.1) then a0.2.1.2.1 else (if (a0.1.2.1 : Int) < a0.1.2.1 then a0.1.2.1 else a0.1.2.1))), (if (a0.2.2.2.2 : Int) < (if (a0.2.1.2.2 : Int) < (if (a0.1.2.2 : Int) < a0.1.2.2 then a0.1.2.2 else a0.1.2.2) then a0.2.1.2.2 else (if (a0.1.2.2 : Int) < a0.1.2.2 then a0.1.2.2 else a0.1.2.2)) then a0.2.2.2.2 else (if (a0.2.1.2.2 : Int) < (if (a0.1.2.2 : Int) < a0.1.2.2 then a0.1.2.2 else a0.1.2.2) then a0.2.1.2.2 else (if (a0.1.2.2 : Int) < a0.1.2.2 then a0.1.2.2 else a0.1.2.2)))), ((if ((if ((if (a0.1.1 : Int) < a0.1.1 then a0.1.1 else a0.1.1) : Int) < a0.2.1.1 then a0.2.1.1 else (if (a0.1.1 : Int) < a0.1.1 then a0.1.1 else a0.1.1)) : Int) < a0.2.2.1 then a0.2.2.1 else (if ((if (a0.1.1 : Int) < a0.1.1 then a0.1.1 else a0.1.1) : Int) < a0.2.1.1 then a0.2.1.1 else (if (a0.1.1 : Int) < a0.1.1 then a0.1.1 else a0.1.1))), (if ((if ((if (a0.1.2.1 : Int) < a0.1.2.1 then a0.1.2.1 else a0.1.2.1) : Int) < a0.2.1.2.1 then a0.2.1.2.1 else (if (a0.1.2.1 : Int) < a0.1.2.1 then a0.1.2.1 else a0.1.2.1)) : Int) < a0.2.2.2.1 then a0.2.2.2.1 else (if ((if (a0.1.2.1 : Int) < a0.1.2.1 then a0.1.2.1 else a0.1.2.1) : Int) < a0.2.1.2.1 then a0.2.1.2.1 else (if (a0.1.2.1 : Int) < a0.1.2.1 then a0.1.2.1 else a0.1.2.1))), (if ((if ((if (a0.1.2.2 : Int) < a0.1.2.2 then a0.1.2.2 else a0.1.2.2) : Int) < a0.2.1.2.2 then a0.2.1.2.2 else (if (a0.1.2.2 : Int) < a0.1.2.2 then a0.1.2.2 else a0.1.2.2)) : Int) < a0.2.2.2.2 then a0.2.2.2.2 else (if ((if (a0.1.2.2 : Int) < a0.1.2.2 then a0.1.2.2 else a0.1.2.2) : Int) < a0.2.1.2.2 then a0.2.1.2.2 else (if (a0.1.2.2 : Int) < a0.1.2.2 then a0.1.2.2 else a0.1.2.2)))))

theorem C144_3 (a0 : (Int × Int × Int) × (Int × Int × Int) × (Int × Int × Int)) : Con Try.prog 144 [(.s 0 0 3 3)] [(.live false false (k9 a0))] (.t [(.a (k3 (F144_3 a0).1)), (.a (k3 (F144_3 a0).2))]) [] := by
  have e : (F144_3 a0) = (((if (a0.2.2.1 : Int) < (if (a0.2.1.1 : Int) < (if (a0.1.1 : Int) < a0.1.1 then a0.1.1 else a0.1.1) then a0.2.1.1 else (if (a0.1.1 : Int) < a0.1.1 then a0.1.1 else a0.1.1)) then a0.2.2.1 else (if (a0.2.1.1 : Int) < (if (a0.1.1 : Int) < a0.1.1 then a0.1.1 else a0.1.1) then a0.2.1.1 else (if (a0.1.1 : Int) < a0.1.1 then a0.1.1 else a0.1.1))), (if (a0.2.2.2.1 : Int) < (if (a0.2.1.2.1 : Int) < (if (a0.1.2.1 : Int) < a0.1.2.1 then a0.1.2.1 else a0.1.2.1) then a0.2.1.2.1 else (if (a0.1.2.1 : Int) < a0.1.2.1 then a0.1.2.1 else a0.1.2.1)) then a0.2.2.2.1 else (if (a0.2.1.2.1 : Int) < (if (a0.1.2.1 : Int) < a0.1.2.1 then a0.1.2.1 else a0.1.2.1) then a0.2.1.2.1 else (if (a0.1.2.1 : Int) < a0.1.2.1 then a0.1.2.1 else a0.1.2.1))), (if (a0.2.2.2.2 : Int) < (if (a0.2.1.2.2 : Int) < (if (a0.1.2.2 : Int) < a0.1.2.2 then a0.1.2.2 else a0.1.2.2) then a0.2.1.2.2 else (if (a0.1.2.2 : Int) < a0.1.2.2 then a0.1.2.2 else a0.1.2.2)) then a0.2.2.2.2 else (if (a0.2.1.2.2 : Int) < (if (a0.1.2.2 : Int) < a0.1.2.2 then a0.1.2.2 else a0.1.2.2) then a0.2.1.2.2 else (if (a0.1.2.2 : Int) < a0.1.2.2 then a0.1.2.2 else a0.1.2.2)))), ((if ((if ((if (a0.1.1 : Int) < a0.1.1 then a0.1.1 else a0.1.1) : Int) < a0.2.1.1 then a0.2.1.1 else (if (a0.1.1 : Int) < a0.1.1 then a0.1.1 else a0.1.1)) : Int) < a0.2.2.1 then a0.2.2.1 else (if ((if (a0.1.1 : Int) < a0.1.1 then a0.1.1 else a0.1.1) : Int) < a0.2.1.1 then a0.2.1.1 else (if (a0.1.1 : Int) < a0.1.1 then a0.1.1 else a0.1.1))), (if ((if ((if (a0.1.2.1 : Int) < a0.1.2.1 then a0.1.2.1 else a0.1.2.1) : Int) < a0.2.1.2.1 then a0.2.1.2.1 else (if (a0.1.2.1 : Int) < a0.1.2.1 then a0.1.2.1 else a0.1.2.1)) : Int) < a0.2.2.2.1 then a0.2.2.2.1 else (if ((if (a0.1.2.1 : Int) < a0.1.2.1 then a0.1.2.1 else a0.1.2.1) : Int) < a0.2.1.2.1 then a0.2.1.2.1 else (if (a0.1.2.1 : Int) < a0.1.2.1 then a0.1.2.1 else a0.1.2.1))), (if ((if ((if (a0.1.2.2 : Int) < a0.1.2.2 then a0.1.2.2 else a0.1.2.2) : Int) < a0.2.1.2.2 then a0.2.1.2.2 else (if (a0.1.2.2 : Int) < a0.1.2.2 then a0.1.2.2 else a0.1.2.2)) : Int) < a0.2.2.2.2 then a0.2.2.2.2 else (if ((if (a0.1.2.2 : Int) < a0.1.2.2 then a0.1.2.2 else a0.1.2.2) : Int) < a0.2.1.2.2 then a0.2.1.2.2 else (if (a0.1.2.2 : Int) < a0.1.2.2 then a0.1.2.2 else a0.1.2.2))))) := by simp only [F144_3]
  rw [e]
  refine con_of (n := 9) Try.func144 rfl (ent Try.func144 (by kernel_rfl) rfl) (by show 1 ≤ Try.f144.ntmps; decide) (by kernel_rfl) ⟨rfl, trivial⟩ (fun cx hcx => ?_)
  exact ret_of (T := T0) hT hm (f := 5000) (orc := [.un 200, .d true, .un 0, .d true, .un 0, .d true, .un 0, .d false]) [] [] [] hcx
    (obs := [.pr (0 ≤ (0 : Int) ∧ (0 : Int) < ((3 : Nat) : Int)), .pr (0 ≤ (0 : Int) ∧ (0 : Int) < ((3 : Nat) : Int)), .eq true true, .pr (0 ≤ (0 : Int) ∧ (0 : Int) < ((3 : Nat) : Int)), .eq true true, .pr (0 ≤ (1 : Int) ∧ (1 : Int) < ((3 : Nat) : Int)), .eq true true, .pr (0 ≤ (2 : Int) ∧ (2 : Int) < ((3 : Nat) : Int)), .eq false false]) (by kernel_rfl) ⟨(show 0 ≤ (0 : Int) ∧ (0 : Int) < ((3 : Nat) : Int) from by decide), (show 0 ≤ (0 : Int) ∧ (0 : Int) < ((3 : Nat) : Int) from by decide), rfl, (show 0 ≤ (0 : Int) ∧ (0 : Int) < ((3 : Nat) : Int) from by decide), rfl, (show 0 ≤ (1 : Int) ∧ (1 : Int) < ((3 : Nat) : Int) from by decide), rfl, (show 0 ≤ (2 : Int) ∧ (2 : Int) < ((3 : Nat) : Int) from by decide), rfl, trivial⟩

/-- facet/field.box at (1,) -/
def F144_1 (a0 : Int × Int × Int) : (Int × Int × Int) × Int × Int × Int :=
  (((if (a0.1 : Int) < a0.1 then a0.1 else a0.1), (if (a0.2.1 : Int) < a0.2.1 then a0.2.1 else a0.2.1), (if (a0.2.2 : Int) < a0.2.2 then a0.2.2 else a0.2.2)), ((if (a0.1 : Int) < a0.1 then a0.1 else a0.1), (if (a0.2.1 : Int) < a0.2.1 then a0.2.1 else a0.2.1), (if (a0.2.2 : Int) < a0.2.2 then a0.2.2 else a0.2.2)))

theorem C144_1 (a0 : Int × Int × Int) : Con Try.prog 144 [(.s 0 0 1 3)] [(.live false false (k3 a0))] (.t [(.a (k3 (F144_1 a0).1)), (.a (k3 (F144_1 a0).2))]) [] := by
  have e : (F144_1 a0) = (((if (a0.1 : Int) < a0.1 then a0.1 else a0.1), (if (a0.2.1 : Int) < a0.2.1 then a0.2.1 else a0.2.1), (if (a0.2.2 : Int) < a0.2.2 then a0.2.2 else a0.2.2)), ((if (a0.1 : Int) < a0.1 then a0.1 else a0.1), (if (a0.2.1 : Int) < a0.2.1 then a0.2.1 else a0.2.1), (if (a0.2.2 : Int) < a0.2.2 then a0.2.2 else a0.2.2))) := by simp only [F144_1]
  rw [e]
  refine con_of (n := 9) Try.func144 rfl (ent Try.func144 (by kernel_rfl) rfl) (by show 1 ≤ Try.f144.ntmps; decide) (by kernel_rfl) ⟨rfl, trivial⟩ (fun cx hcx => ?_)
  exact ret_of (T := T0) hT hm (f := 5000) (orc := [.un 200, .d true, .un 0, .d false]) [] [] [] hcx
    (obs := [.pr (0 ≤ (0 : Int) ∧ (0 : Int) < ((1 : Nat) : Int)), .pr (0 ≤ (0 : Int) ∧ (0 : Int) < ((1 : Nat) : Int)), .eq true true, .pr (0 ≤ (0 : Int) ∧ (0 : Int) < ((1 : Nat) : Int)), .eq false false]) (by kernel_rfl) ⟨(show 0 ≤ (0 : Int) ∧ (0 : Int) < ((1 : Nat) : Int) from by decide), (show 0 ≤ (0 : Int) ∧ (0 : Int) < ((1 : Nat) : Int) from by decide), rfl, (show 0 ≤ (0 : Int) ∧ (0 : Int) < ((1 : Nat) : Int) from by decide), rfl, trivial⟩

/-- facet/field.gap -/
def F145 (a0 : Int) (a1 : Int) (a2 : Int) (a3 : Int) : Int :=
  (if ((if (0 : Int) < (W (a2 - a1)) then (W (a2 - a1)) else 0) : Int) < (W (a0 - a3)) then (W (a0 - a3)) else (if (0 : Int) < (W (a2 - a1)) then (W (a2 - a1)) else 0))

theorem C145 (a0 : Int) (a1 : Int) (a2 : Int) (a3 : Int) : Con Try.prog 145 [(iv a0), (iv a1), (iv a2), (iv a3)] [] (iv (F145 a0 a1 a2 a3)) [] := by
  have e : (F145 a0 a1 a2 a3) = (if ((if (0 : Int) < (W (a2 - a1)) then (W (a2 - a1)) else 0) : Int) < (W (a0 - a3)) then (W (a0 - a3)) else (if (0 : Int) < (W (a2 - a1)) then (W (a2 - a1)) else 0)) := by simp only [F145]
  rw [e]
  refine con_of (n := 9) Try.func145 rfl (ent Try.func145 (by kernel_rfl) rfl) (by show 4 ≤ Try.f145.ntmps; decide) (by kernel_rfl) trivial (fun cx hcx => ?_)
  exact ret_of (T := T0) hT hm (f := 5000) (orc := []) [] [] [] hcx
    (obs := []) (by kernel_rfl) trivial

/-- facet/field.near at (3, 1) -/
def F106_3_1 (a0 : (Int × Int × Int) × (Int × Int × Int) × (Int × Int × Int)) (a1 : Int × Int × Int) : Int :=
  (F146 ((F145 (F144_3 a0).1.1 (F144_3 a0).2.1 (F144_1 a1).1.1 (F144_1 a1).2.1), (F145 (F144_3 a0).1.2.1 (F144_3 a0).2.2.1 (F144_1 a1).1.2.1 (F144_1 a1).2.2.1), (F145 (F144_3 a0).1.2.2 (F144_3 a0).2.2.2 (F144_1 a1).1.2.2 (F144_1 a1).2.2.2)) ((F145 (F144_3 a0).1.1 (F144_3 a0).2.1 (F144_1 a1).1.1 (F144_1 a1).2.1), (F145 (F144_3 a0).1.2.1 (F144_3 a0).2.2.1 (F144_1 a1).1.2.1 (F144_1 a1).2.2.1), (F145 (F144_3 a0).1.2.2 (F144_3 a0).2.2.2 (F144_1 a1).1.2.2 (F144_1 a1).2.2.2)))

theorem C106_3_1 (a0 : (Int × Int × Int) × (Int × Int × Int) × (Int × Int × Int)) (a1 : Int × Int × Int) : Con Try.prog 106 [(.s 0 0 3 3), (.s 1 0 1 3)] [(.live false false (k9 a0)), (.live false false (k3 a1))] (iv (F106_3_1 a0 a1)) [] := by
  have e : (F106_3_1 a0 a1) = (F146 ((F145 (F144_3 a0).1.1 (F144_3 a0).2.1 (F144_1 a1).1.1 (F144_1 a1).2.1), (F145 (F144_3 a0).1.2.1 (F144_3 a0).2.2.1 (F144_1 a1).1.2.1 (F144_1 a1).2.2.1), (F145 (F144_3 a0).1.2.2 (F144_3 a0).2.2.2 (F144_1 a1).1.2.2 (F144_1 a1).2.2.2)) ((F145 (F144_3 a0).1.1 (F144_3 a0).2.1 (F144_1 a1).1.1 (F144_1 a1).2.1), (F145 (F144_3 a0).1.2.1 (F144_3 a0).2.2.1 (F144_1 a1).1.2.1 (F144_1 a1).2.2.1), (F145 (F144_3 a0).1.2.2 (F144_3 a0).2.2.2 (F144_1 a1).1.2.2 (F144_1 a1).2.2.2))) := by simp only [F106_3_1]
  rw [e]
  refine con_of (n := 9) Try.func106 rfl (ent Try.func106 (by kernel_rfl) rfl) (by show 2 ≤ Try.f106.ntmps; decide) (by kernel_rfl) ⟨rfl, rfl, trivial⟩ (fun cx hcx => ?_)
  exact ret_of (T := T0) hT hm (f := 5000) (orc := [.call [0] (.t [(.a (k3 (F144_3 a0).1)), (.a (k3 (F144_3 a0).2))]) [], .call [1] (.t [(.a (k3 (F144_1 a1).1)), (.a (k3 (F144_1 a1).2))]) [], .call [] (iv (F145 (F144_3 a0).1.1 (F144_3 a0).2.1 (F144_1 a1).1.1 (F144_1 a1).2.1)) [], .call [] (iv (F145 (F144_3 a0).1.2.1 (F144_3 a0).2.2.1 (F144_1 a1).1.2.1 (F144_1 a1).2.2.1)) [], .call [] (iv (F145 (F144_3 a0).1.2.2 (F144_3 a0).2.2.2 (F144_1 a1).1.2.2 (F144_1 a1).2.2.2)) [], .call [] (iv (F146 ((F145 (F144_3 a0).1.1 (F144_3 a0).2.1 (F144_1 a1).1.1 (F144_1 a1).2.1), (F145 (F144_3 a0).1.2.1 (F144_3 a0).2.2.1 (F144_1 a1).1.2.1 (F144_1 a1).2.2.1), (F145 (F144_3 a0).1.2.2 (F144_3 a0).2.2.2 (F144_1 a1).1.2.2 (F144_1 a1).2.2.2)) ((F145 (F144_3 a0).1.1 (F144_3 a0).2.1 (F144_1 a1).1.1 (F144_1 a1).2.1), (F145 (F144_3 a0).1.2.1 (F144_3 a0).2.2.1 (F144_1 a1).1.2.1 (F144_1 a1).2.2.1), (F145 (F144_3 a0).1.2.2 (F144_3 a0).2.2.2 (F144_1 a1).1.2.2 (F144_1 a1).2.2.2)))) []]) [] [] [] hcx
    (obs := [.call 144 [(.s 0 0 3 3)] [(.live false false (k9 a0))] (.t [(.a (k3 (F144_3 a0).1)), (.a (k3 (F144_3 a0).2))]) [], .call 144 [(.s 0 0 1 3)] [(.live false false (k3 a1))] (.t [(.a (k3 (F144_1 a1).1)), (.a (k3 (F144_1 a1).2))]) [], .call 145 [(iv (F144_3 a0).1.1), (iv (F144_3 a0).2.1), (iv (F144_1 a1).1.1), (iv (F144_1 a1).2.1)] [] (iv (F145 (F144_3 a0).1.1 (F144_3 a0).2.1 (F144_1 a1).1.1 (F144_1 a1).2.1)) [], .call 145 [(iv (F144_3 a0).1.2.1), (iv (F144_3 a0).2.2.1), (iv (F144_1 a1).1.2.1), (iv (F144_1 a1).2.2.1)] [] (iv (F145 (F144_3 a0).1.2.1 (F144_3 a0).2.2.1 (F144_1 a1).1.2.1 (F144_1 a1).2.2.1)) [], .call 145 [(iv (F144_3 a0).1.2.2), (iv (F144_3 a0).2.2.2), (iv (F144_1 a1).1.2.2), (iv (F144_1 a1).2.2.2)] [] (iv (F145 (F144_3 a0).1.2.2 (F144_3 a0).2.2.2 (F144_1 a1).1.2.2 (F144_1 a1).2.2.2)) [], .call 146 [(.a [(iv (F145 (F144_3 a0).1.1 (F144_3 a0).2.1 (F144_1 a1).1.1 (F144_1 a1).2.1)), (iv (F145 (F144_3 a0).1.2.1 (F144_3 a0).2.2.1 (F144_1 a1).1.2.1 (F144_1 a1).2.2.1)), (iv (F145 (F144_3 a0).1.2.2 (F144_3 a0).2.2.2 (F144_1 a1).1.2.2 (F144_1 a1).2.2.2))]), (.a [(iv (F145 (F144_3 a0).1.1 (F144_3 a0).2.1 (F144_1 a1).1.1 (F144_1 a1).2.1)), (iv (F145 (F144_3 a0).1.2.1 (F144_3 a0).2.2.1 (F144_1 a1).1.2.1 (F144_1 a1).2.2.1)), (iv (F145 (F144_3 a0).1.2.2 (F144_3 a0).2.2.2 (F144_1 a1).1.2.2 (F144_1 a1).2.2.2))])] [] (iv (F146 ((F145 (F144_3 a0).1.1 (F144_3 a0).2.1 (F144_1 a1).1.1 (F144_1 a1).2.1), (F145 (F144_3 a0).1.2.1 (F144_3 a0).2.2.1 (F144_1 a1).1.2.1 (F144_1 a1).2.2.1), (F145 (F144_3 a0).1.2.2 (F144_3 a0).2.2.2 (F144_1 a1).1.2.2 (F144_1 a1).2.2.2)) ((F145 (F144_3 a0).1.1 (F144_3 a0).2.1 (F144_1 a1).1.1 (F144_1 a1).2.1), (F145 (F144_3 a0).1.2.1 (F144_3 a0).2.2.1 (F144_1 a1).1.2.1 (F144_1 a1).2.2.1), (F145 (F144_3 a0).1.2.2 (F144_3 a0).2.2.2 (F144_1 a1).1.2.2 (F144_1 a1).2.2.2)))) []]) (by kernel_rfl) ⟨(C144_3 a0), (C144_1 a1), (C145 (F144_3 a0).1.1 (F144_3 a0).2.1 (F144_1 a1).1.1 (F144_1 a1).2.1), (C145 (F144_3 a0).1.2.1 (F144_3 a0).2.2.1 (F144_1 a1).1.2.1 (F144_1 a1).2.2.1), (C145 (F144_3 a0).1.2.2 (F144_3 a0).2.2.2 (F144_1 a1).1.2.2 (F144_1 a1).2.2.2), (C146 ((F145 (F144_3 a0).1.1 (F144_3 a0).2.1 (F144_1 a1).1.1 (F144_1 a1).2.1), (F145 (F144_3 a0).1.2.1 (F144_3 a0).2.2.1 (F144_1 a1).1.2.1 (F144_1 a1).2.2.1), (F145 (F144_3 a0).1.2.2 (F144_3 a0).2.2.2 (F144_1 a1).1.2.2 (F144_1 a1).2.2.2)) ((F145 (F144_3 a0).1.1 (F144_3 a0).2.1 (F144_1 a1).1.1 (F144_1 a1).2.1), (F145 (F144_3 a0).1.2.1 (F144_3 a0).2.2.1 (F144_1 a1).1.2.1 (F144_1 a1).2.2.1), (F145 (F144_3 a0).1.2.2 (F144_3 a0).2.2.2 (F144_1 a1).1.2.2 (F144_1 a1).2.2.2))), trivial⟩

/-- facet/field.near at (3, 3) -/
def F106_3_3 (a0 : (Int × Int × Int) × (Int × Int × Int) × (Int × Int × Int)) (a1 : (Int × Int × Int) × (Int × Int × Int) × (Int × Int × Int)) : Int :=
  (F146 ((F145 (F144_3 a0).1.1 (F144_3 a0).2.1 (F144_3 a1).1.1 (F144_3 a1).2.1), (F145 (F144_3 a0).1.2.1 (F144_3 a0).2.2.1 (F144_3 a1).1.2.1 (F144_3 a1).2.2.1), (F145 (F144_3 a0).1.2.2 (F144_3 a0).2.2.2 (F144_3 a1).1.2.2 (F144_3 a1).2.2.2)) ((F145 (F144_3 a0).1.1 (F144_3 a0).2.1 (F144_3 a1).1.1 (F144_3 a1).2.1), (F145 (F144_3 a0).1.2.1 (F144_3 a0).2.2.1 (F144_3 a1).1.2.1 (F144_3 a1).2.2.1), (F145 (F144_3 a0).1.2.2 (F144_3 a0).2.2.2 (F144_3 a1).1.2.2 (F144_3 a1).2.2.2)))

theorem C106_3_3 (a0 : (Int × Int × Int) × (Int × Int × Int) × (Int × Int × Int)) (a1 : (Int × Int × Int) × (Int × Int × Int) × (Int × Int × Int)) : Con Try.prog 106 [(.s 0 0 3 3), (.s 1 0 3 3)] [(.live false false (k9 a0)), (.live false false (k9 a1))] (iv (F106_3_3 a0 a1)) [] := by
  have e : (F106_3_3 a0 a1) = (F146 ((F145 (F144_3 a0).1.1 (F144_3 a0).2.1 (F144_3 a1).1.1 (F144_3 a1).2.1), (F145 (F144_3 a0).1.2.1 (F144_3 a0).2.2.1 (F144_3 a1).1.2.1 (F144_3 a1).2.2.1), (F145 (F144_3 a0).1.2.2 (F144_3 a0).2.2.2 (F144_3 a1).1.2.2 (F144_3 a1).2.2.2)) ((F145 (F144_3 a0).1.1 (F144_3 a0).2.1 (F144_3 a1).1.1 (F144_3 a1).2.1), (F145 (F144_3 a0).1.2.1 (F144_3 a0).2.2.1 (F144_3 a1).1.2.1 (F144_3 a1).2.2.1), (F145 (F144_3 a0).1.2.2 (F144_3 a0).2.2.2 (F144_3 a1).1.2.2 (F144_3 a1).2.2.2))) := by simp only [F106_3_3]
  rw [e]
  refine con_of (n := 9) Try.func106 rfl (ent Try.func106 (by kernel_rfl) rfl) (by show 2 ≤ Try.f106.ntmps; decide) (by kernel_rfl) ⟨rfl, rfl, trivial⟩ (fun cx hcx => ?_)
  exact ret_of (T := T0) hT hm (f := 5000) (orc := [.call [0] (.t [(.a (k3 (F144_3 a0).1)), (.a (k3 (F144_3 a0).2))]) [], .call [1] (.t [(.a (k3 (F144_3 a1).1)), (.a (k3 (F144_3 a1).2))]) [], .call [] (iv (F145 (F144_3 a0).1.1 (F144_3 a0).2.1 (F144_3 a1).1.1 (F144_3 a1).2.1)) [], .call [] (iv (F145 (F144_3 a0).1.2.1 (F144_3 a0).2.2.1 (F144_3 a1).1.2.1 (F144_3 a1).2.2.1)) [], .call [] (iv (F145 (F144_3 a0).1.2.2 (F144_3 a0).2.2.2 (F144_3 a1).1.2.2 (F144_3 a1).2.2.2)) [], .call [] (iv (F146 ((F145 (F144_3 a0).1.1 (F144_3 a0).2.1 (F144_3 a1).1.1 (F144_3 a1).2.1), (F145 (F144_3 a0).1.2.1 (F144_3 a0).2.2.1 (F144_3 a1).1.2.1 (F144_3 a1).2.2.1), (F145 (F144_3 a0).1.2.2 (F144_3 a0).2.2.2 (F144_3 a1).1.2.2 (F144_3 a1).2.2.2)) ((F145 (F144_3 a0).1.1 (F144_3 a0).2.1 (F144_3 a1).1.1 (F144_3 a1).2.1), (F145 (F144_3 a0).1.2.1 (F144_3 a0).2.2.1 (F144_3 a1).1.2.1 (F144_3 a1).2.2.1), (F145 (F144_3 a0).1.2.2 (F144_3 a0).2.2.2 (F144_3 a1).1.2.2 (F144_3 a1).2.2.2)))) []]) [] [] [] hcx
    (obs := [.call 144 [(.s 0 0 3 3)] [(.live false false (k9 a0))] (.t [(.a (k3 (F144_3 a0).1)), (.a (k3 (F144_3 a0).2))]) [], .call 144 [(.s 0 0 3 3)] [(.live false false (k9 a1))] (.t [(.a (k3 (F144_3 a1).1)), (.a (k3 (F144_3 a1).2))]) [], .call 145 [(iv (F144_3 a0).1.1), (iv (F144_3 a0).2.1), (iv (F144_3 a1).1.1), (iv (F144_3 a1).2.1)] [] (iv (F145 (F144_3 a0).1.1 (F144_3 a0).2.1 (F144_3 a1).1.1 (F144_3 a1).2.1)) [], .call 145 [(iv (F144_3 a0).1.2.1), (iv (F144_3 a0).2.2.1), (iv (F144_3 a1).1.2.1), (iv (F144_3 a1).2.2.1)] [] (iv (F145 (F144_3 a0).1.2.1 (F144_3 a0).2.2.1 (F144_3 a1).1.2.1 (F144_3 a1).2.2.1)) [], .call 145 [(iv (F144_3 a0).1.2.2), (iv (F144_3 a0).2.2.2), (iv (F144_3 a1).1.2.2), (iv (F144_3 a1).2.2.2)] [] (iv (F145 (F144_3 a0).1.2.2 (F144_3 a0).2.2.2 (F144_3 a1).1.2.2 (F144_3 a1).2.2.2)) [], .call 146 [(.a [(iv (F145 (F144_3 a0).1.1 (F144_3 a0).2.1 (F144_3 a1).1.1 (F144_3 a1).2.1)), (iv (F145 (F144_3 a0).1.2.1 (F144_3 a0).2.2.1 (F144_3 a1).1.2.1 (F144_3 a1).2.2.1)), (iv (F145 (F144_3 a0).1.2.2 (F144_3 a0).2.2.2 (F144_3 a1).1.2.2 (F144_3 a1).2.2.2))]), (.a [(iv (F145 (F144_3 a0).1.1 (F144_3 a0).2.1 (F144_3 a1).1.1 (F144_3 a1).2.1)), (iv (F145 (F144_3 a0).1.2.1 (F144_3 a0).2.2.1 (F144_3 a1).1.2.1 (F144_3 a1).2.2.1)), (iv (F145 (F144_3 a0).1.2.2 (F144_3 a0).2.2.2 (F144_3 a1).1.2.2 (F144_3 a1).2.2.2))])] [] (iv (F146 ((F145 (F144_3 a0).1.1 (F144_3 a0).2.1 (F144_3 a1).1.1 (F144_3 a1).2.1), (F145 (F144_3 a0).1.2.1 (F144_3 a0).2.2.1 (F144_3 a1).1.2.1 (F144_3 a1).2.2.1), (F145 (F144_3 a0).1.2.2 (F144_3 a0).2.2.2 (F144_3 a1).1.2.2 (F144_3 a1).2.2.2)) ((F145 (F144_3 a0).1.1 (F144_3 a0).2.1 (F144_3 a1).1.1 (F144_3 a1).2.1), (F145 (F144_3 a0).1.2.1 (F144_3 a0).2.2.1 (F144_3 a1).1.2.1 (F144_3 a1).2.2.1), (F145 (F144_3 a0).1.2.2 (F144_3 a0).2.2.2 (F144_3 a1).1.2.2 (F144_3 a1).2.2.2)))) []]) (by kernel_rfl) ⟨(C144_3 a0), (C144_3 a1), (C145 (F144_3 a0).1.1 (F144_3 a0).2.1 (F144_3 a1).1.1 (F144_3 a1).2.1), (C145 (F144_3 a0).1.2.1 (F144_3 a0).2.2.1 (F144_3 a1).1.2.1 (F144_3 a1).2.2.1), (C145 (F144_3 a0).1.2.2 (F144_3 a0).2.2.2 (F144_3 a1).1.2.2 (F144_3 a1).2.2.2), (C146 ((F145 (F144_3 a0).1.1 (F144_3 a0).2.1 (F144_3 a1).1.1 (F144_3 a1).2.1), (F145 (F144_3 a0).1.2.1 (F144_3 a0).2.2.1 (F144_3 a1).1.2.1 (F144_3 a1).2.2.1), (F145 (F144_3 a0).1.2.2 (F144_3 a0).2.2.2 (F144_3 a1).1.2.2 (F144_3 a1).2.2.2)) ((F145 (F144_3 a0).1.1 (F144_3 a0).2.1 (F144_3 a1).1.1 (F144_3 a1).2.1), (F145 (F144_3 a0).1.2.1 (F144_3 a0).2.2.1 (F144_3 a1).1.2.1 (F144_3 a1).2.2.1), (F145 (F144_3 a0).1.2.2 (F144_3 a0).2.2.2 (F144_3 a1).1.2.2 (F144_3 a1).2.2.2))), trivial⟩

/-- api.Point, as cells -/
def c24 (x : Int × Int × Int) : List SV := [(iv x.1), (iv x.2.1), (iv x.2.2)]
theorem c24_len (x : Int × Int × Int) : (c24 x).length = 3 := rfl

noncomputable def B107_L_L_1 : Code := (loopAtD [1, 1, 0, 1, 0, 1, 1, 0, 1, 1] [0] (Try.f107.body.getD .skip) []).1
noncomputable def K107_L_L_1 (m0 : Nat) : List K := (loopAtD [1, 1, 0, 1, 0, 1, 1, 0, 1, 1] [m0] (Try.f107.body.getD .skip) []).2

/-- a round of loop 1 of facet/field.far; the variables: v10 = s5, v11 = s13, v12 = s19, v13 = s7_0, v14 = s7_1, v15 = s7_2 -/
def S107_L_L_1 (a0 : List (Int × Int × Int)) (a1 : List (Int × Int × Int)) : Int × Int × Int × Int × Int × Int → (Int × Int × Int × Int × Int × Int) ⊕ ((Int × Int) ⊕ (Int))
  | (v10, v11, v12, v13, v14, v15) =>
   (bif (decide ((v12 : Int) < ((a1.length : Nat) : Int))) then
    (.inl ((if (v10 : Int) < (F146 (F147 (v13, v14, v15) (a1.getD (Int.toNat v12) default)) (F147 (v13, v14, v15) (a1.getD (Int.toNat v12) default))) then (F146 (F147 (v13, v14, v15) (a1.getD (Int.toNat v12) default)) (F147 (v13, v14, v15) (a1.getD (Int.toNat v12) default))) else v10), v11, (v12 + 1), v13, v14, v15))
   else
    (.inr (.inl (v10, (v11 + 1)))))

noncomputable def B107_L_L_0 : Code := (loopAtD [1, 1, 0, 1] [] (Try.f107.body.getD .skip) []).1
noncomputable def K107_L_L_0 : List K := (loopAtD [1, 1, 0, 1] [] (Try.f107.body.getD .skip) []).2

/-- a round of loop 0 of facet/field.far; the variables: v3 = s5, v4 = s13 -/
def S107_L_L_0 (a0 : List (Int × Int × Int)) (a1 : List (Int × Int × Int)) : Int × Int → (Int × Int) ⊕ (Int)
  | (v3, v4) =>
   (bif (decide ((v4 : Int) < ((a0.length : Nat) : Int))) then
    (loopF (S107_L_L_1 a0 a1) (Int.toNat (((a1.length : Nat) : Int) - 0) + 1) (v3, v4, 0, (a0.getD (Int.toNat v4) default).1, (a0.getD (Int.toNat v4) default).2.1, (a0.getD (Int.toNat v4) default).2.2))
   else
    (.inr v3))

set_option maxHeartbeats 4000000 in
theorem L107_L_L_1 (a0 : List (Int × Int × Int)) (a1 : List (Int × Int × Int)) (l0 : a0.length ≤ 2 ^ 40) (l1 : a1.length ≤ 2 ^ 40) {cx : Cx} (hcx : cx.base = 2)
    (n0 : Nat) (g0 : ∀ (v3 : Int) (v4 : Int), 0 ≤ v4 → Int.toNat (((a0.length : Nat) : Int) - v4) < n0 → Aw.Good Try.prog none 9 (bodyPost Try.prog Try.f107 (RR cx (iv (loopF (S107_L_L_0 a0 a1) n0 (v3, v4))) [] [])) cx [] (.l B107_L_L_0 n0 :: K107_L_L_0) ⟨[.u, (.s 1 0 a1.length 3), .u, .u, .u, (iv v3), .u, .u, .u, .u, .u, (.s 0 0 a0.length 3), (iv ((a0.length : Nat) : Int)), (iv v4), .u, .u, .u, .u, .u, .u, .u, .u, .u, .u, .u, .u, .u, .u, .u, .u, .u, .u, .u, .u], [(.live false true (flat c24 a0)), (.live false true (flat c24 a1))]⟩) : ∀ (n : Nat) (v10 : Int) (v11 : Int) (v12 : Int) (v13 : Int) (v14 : Int) (v15 : Int), (0 ≤ v12) ∧ ((0 ≤ v11)) ∧ (v11 < ((a0.length : Nat) : Int)) ∧ (Int.toNat (((a0.length : Nat) : Int) - v11) < n0 + 1) → Int.toNat (((a1.length : Nat) : Int) - v12) < n → Aw.Good Try.prog none 9 (bodyPost Try.prog Try.f107 (RR cx (iv (thenF (S107_L_L_0 a0 a1) n0 (loopF (S107_L_L_1 a0 a1) n (v10, v11, v12, v13, v14, v15)))) [] [])) cx [] (.l B107_L_L_1 n :: K107_L_L_1 n0) ⟨[.u, (.s 1 0 a1.length 3), .u, .u, .u, (iv v10), .u, (.p 2 0), .u, .u, .u, (.s 0 0 a0.length 3), (iv ((a0.length : Nat) : Int)), (iv v11), .u, .u, .u, (.s 1 0 a1.length 3), (iv ((a1.length : Nat) : Int)), (iv v12), .u, .u, .u, .u, .u, .u, .u, .u, .u, .u, .u, .u, .u, .u], [(.live false true (flat c24 a0)), (.live false true (flat c24 a1)), (.live true false [(iv v13), (iv v14), (iv v15)])]⟩ := by
  intro n
  induction n with
  | zero => intro v10 v11 v12 v13 v14 v15 hi hn; exact absurd hn (Nat.not_lt_zero _)
  | succ n ih =>
    intro v10 v11 v12 v13 v14 v15 hi hn
    refine good_round ?_
    cases h0 : (decide ((v12 : Int) < ((a1.length : Nat) : Int))) with
    | true =>
      have q0 := of_decide_eq_true h0
      have e : S107_L_L_1 a0 a1 (v10, v11, v12, v13, v14, v15) = (.inl ((if (v10 : Int) < (F146 (F147 (v13, v14, v15) (a1.getD (Int.toNat v12) default)) (F147 (v13, v14, v15) (a1.getD (Int.toNat v12) default))) then (F146 (F147 (v13, v14, v15) (a1.getD (Int.toNat v12) default)) (F147 (v13, v14, v15) (a1.getD (Int.toNat v12) default))) else v10), v11, (v12 + 1), v13, v14, v15)) := by simp only [S107_L_L_1, h0, cond_true, cond_false]
      rw [loopF_inl e]
      refine back_of (T := T0) hT hm (f := 5000) (orc := [.d true, .ld (k3 (a1.getD (Int.toNat v12) default)), .call [] (.a (k3 (F147 (v13, v14, v15) (a1.getD (Int.toNat v12) default)))) [], .call [] (iv (F146 (F147 (v13, v14, v15) (a1.getD (Int.toNat v12) default)) (F147 (v13, v14, v15) (a1.getD (Int.toNat v12) default)))) []]) [] [1, 5, 7, 11, 12, 13, 17, 18, 19] [2] hcx (body := B107_L_L_1) (m := n) (k' := K107_L_L_1 n0) (s' := ⟨[.u, (.s 1 0 a1.length 3), .u, .u, .u, (iv (if (v10 : Int) < (F146 (F147 (v13, v14, v15) (a1.getD (Int.toNat v12) default)) (F147 (v13, v14, v15) (a1.getD (Int.toNat v12) default))) then (F146 (F147 (v13, v14, v15) (a1.getD (Int.toNat v12) default)) (F147 (v13, v14, v15) (a1.getD (Int.toNat v12) default))) else v10)), .u, (.p 2 0), .u, .u, .u, (.s 0 0 a0.length 3), (iv ((a0.length : Nat) : Int)), (iv v11), .u, .u, .u, (.s 1 0 a1.length 3), (iv ((a1.length : Nat) : Int)), (iv (W (v12 + 1))), .u, .u, .u, .u, .u, .u, .u, .u, .u, .u, .u, .u, .u, .u], [(.live false true (flat c24 a0)), (.live false true (flat c24 a1)), (.live true false [(iv v13), (iv v14), (iv v15)])]⟩)
        (obs := [.eq (decide ((v12 : Int) < ((a1.length : Nat) : Int))) true, .pr (0 ≤ (v12 : Int) ∧ (v12 : Int) < ((a1.length : Nat) : Int)), .pr (((((flat c24 a1)).drop (0 + Int.toNat v12 * 3)).take 3) = (k3 (a1.getD (Int.toNat v12) default))), .call 147 [(.a [(iv v13), (iv v14), (iv v15)]), (.a (k3 (a1.getD (Int.toNat v12) default)))] [] (.a (k3 (F147 (v13, v14, v15) (a1.getD (Int.toNat v12) default)))) [], .call 146 [(.a (k3 (F147 (v13, v14, v15) (a1.getD (Int.toNat v12) default)))), (.a (k3 (F147 (v13, v14, v15) (a1.getD (Int.toNat v12) default))))] [] (iv (F146 (F147 (v13, v14, v15) (a1.getD (Int.toNat v12) default)) (F147 (v13, v14, v15) (a1.getD (Int.toNat v12) default)))) []]) (by kernel_rfl) ⟨h0, (show 0 ≤ (v12 : Int) ∧ (v12 : Int) < ((a1.length : Nat) : Int) from by first | omega | (rw [W_eq] <;> omega) | exact u64_nn _), (ld_part c24_len default a1 v12 0 3 (by omega) (by decide) (by omega) rfl), (C147 (v13, v14, v15) (a1.getD (Int.toNat v12) default)), (C146 (F147 (v13, v14, v15) (a1.getD (Int.toNat v12) default)) (F147 (v13, v14, v15) (a1.getD (Int.toNat v12) default))), trivial⟩ ?_
      have z0 : (W (v12 + 1)) = (v12 + 1) := W_eq (by omega) (by omega)
      rw [z0]
      exact ih (if (v10 : Int) < (F146 (F147 (v13, v14, v15) (a1.getD (Int.toNat v12) default)) (F147 (v13, v14, v15) (a1.getD (Int.toNat v12) default))) then (F146 (F147 (v13, v14, v15) (a1.getD (Int.toNat v12) default)) (F147 (v13, v14, v15) (a1.getD (Int.toNat v12) default))) else v10) v11 (v12 + 1) v13 v14 v15 (by refine ⟨?_, ?_, ?_, ?_⟩ <;> (try simp only [List.length_append, List.length_cons, List.length_nil, Int.toNat_zero]) <;> first | omega | simp) (by (try simp only [List.length_append, List.length_cons, List.length_nil, Int.toNat_zero]); omega)
    | false =>
      have q0 := of_decide_eq_false h0
      have e : S107_L_L_1 a0 a1 (v10, v11, v12, v13, v14, v15) = (.inr (.inl (v10, (v11 + 1)))) := by simp only [S107_L_L_1, h0, cond_true, cond_false]
      rw [show loopF (S107_L_L_1 a0 a1) (n + 1) (v10, v11, v12, v13, v14, v15) = thenF (S107_L_L_1 a0 a1) n (S107_L_L_1 a0 a1 (v10, v11, v12, v13, v14, v15)) from rfl, e]
      refine back_of (T := T0) hT hm (f := 5000) (orc := [.d false]) [] [1, 5, 11, 12, 13] [] hcx (body := B107_L_L_0) (m := n0) (k' := K107_L_L_0) (s' := ⟨[.u, (.s 1 0 a1.length 3), .u, .u, .u, (iv v10), .u, .u, .u, .u, .u, (.s 0 0 a0.length 3), (iv ((a0.length : Nat) : Int)), (iv (W (v11 + 1))), .u, .u, .u, .u, .u, .u, .u, .u, .u, .u, .u, .u, .u, .u, .u, .u, .u, .u, .u, .u], [(.live false true (flat c24 a0)), (.live false true (flat c24 a1))]⟩)
        (obs := [.eq (decide ((v12 : Int) < ((a1.length : Nat) : Int))) false]) (by kernel_rfl) ⟨h0, trivial⟩ ?_
      have z0 : (W (v11 + 1)) = (v11 + 1) := W_eq (by omega) (by omega)
      rw [z0]
      exact g0 v10 (v11 + 1) (by (try simp only [List.length_append, List.length_cons, List.length_nil, Int.toNat_zero]); omega) (by (try simp only [List.length_append, List.length_cons, List.length_nil, Int.toNat_zero]); omega)

set_option maxHeartbeats 4000000 in
theorem L107_L_L_0 (a0 : List (Int × Int × Int)) (a1 : List (Int × Int × Int)) (l0 : a0.length ≤ 2 ^ 40) (l1 : a1.length ≤ 2 ^ 40) {cx : Cx} (hcx : cx.base = 2) : ∀ (n : Nat) (v3 : Int) (v4 : Int), 0 ≤ v4 → Int.toNat (((a0.length : Nat) : Int) - v4) < n → Aw.Good Try.prog none 9 (bodyPost Try.prog Try.f107 (RR cx (iv (loopF (S107_L_L_0 a0 a1) n (v3, v4))) [] [])) cx [] (.l B107_L_L_0 n :: K107_L_L_0) ⟨[.u, (.s 1 0 a1.length 3), .u, .u, .u, (iv v3), .u, .u, .u, .u, .u, (.s 0 0 a0.length 3), (iv ((a0.length : Nat) : Int)), (iv v4), .u, .u, .u, .u, .u, .u, .u, .u, .u, .u, .u, .u, .u, .u, .u, .u, .u, .u, .u, .u], [(.live false true (flat c24 a0)), (.live false true (flat c24 a1))]⟩ := by
  intro n
  induction n with
  | zero => intro v3 v4 hi hn; exact absurd hn (Nat.not_lt_zero _)
  | succ n ih =>
    intro v3 v4 hi hn
    refine good_round ?_
    cases h0 : (decide ((v4 : Int) < ((a0.length : Nat) : Int))) with
    | true =>
      have q0 := of_decide_eq_true h0
      have e : S107_L_L_0 a0 a1 (v3, v4) = (loopF (S107_L_L_1 a0 a1) (Int.toNat (((a1.length : Nat) : Int) - 0) + 1) (v3, v4, 0, (a0.getD (Int.toNat v4) default).1, (a0.getD (Int.toNat v4) default).2.1, (a0.getD (Int.toNat v4) default).2.2)) := by simp only [S107_L_L_0, h0, cond_true, cond_false]
      rw [show loopF (S107_L_L_0 a0 a1) (n + 1) (v3, v4) = thenF (S107_L_L_0 a0 a1) n (S107_L_L_0 a0 a1 (v3, v4)) from rfl, e]
      refine enter_of (T := T0) hT hm (f := 5000) (orc := [.d true, .ld (k3 (a0.getD (Int.toNat v4) default))]) [] [1, 5, 7, 11, 12, 13, 17, 18, 19] [2] hcx (body := B107_L_L_1) (k' := K107_L_L_1 n) (s' := ⟨[.u, (.s 1 0 a1.length 3), .u, .u, .u, (iv v3), .u, (.p 2 0), .u, .u, .u, (.s 0 0 a0.length 3), (iv ((a0.length : Nat) : Int)), (iv v4), .u, .u, .u, (.s 1 0 a1.length 3), (iv ((a1.length : Nat) : Int)), (iv 0), .u, .u, .u, .u, .u, .u, .u, .u, .u, .u, .u, .u, .u, .u], [(.live false true (flat c24 a0)), (.live false true (flat c24 a1)), (.live true false (k3 (a0.getD (Int.toNat v4) default)))]⟩)
        (obs := [.eq (decide ((v4 : Int) < ((a0.length : Nat) : Int))) true, .pr (0 ≤ (v4 : Int) ∧ (v4 : Int) < ((a0.length : Nat) : Int)), .pr (((((flat c24 a0)).drop (0 + Int.toNat v4 * 3)).take 3) = (k3 (a0.getD (Int.toNat v4) default)))]) (by kernel_rfl) ⟨h0, (show 0 ≤ (v4 : Int) ∧ (v4 : Int) < ((a0.length : Nat) : Int) from by first | omega | (rw [W_eq] <;> omega) | exact u64_nn _), (ld_part c24_len default a0 v4 0 3 (by omega) (by decide) (by omega) rfl), trivial⟩ ⟨Int.toNat (((a1.length : Nat) : Int) - 0) + 1, ?_⟩
      exact L107_L_L_1 a0 a1 l0 l1 hcx n ih (Int.toNat (((a1.length : Nat) : Int) - 0) + 1) v3 v4 0 ((a0.getD (Int.toNat v4) default).1) ((a0.getD (Int.toNat v4) default).2.1) ((a0.getD (Int.toNat v4) default).2.2) (by refine ⟨?_, ?_, ?_, ?_⟩ <;> (try simp only [List.length_append, List.length_cons, List.length_nil, Int.toNat_zero]) <;> first | omega | simp) (by (try simp only [List.length_append, List.length_cons, List.length_nil, Int.toNat_zero]); omega)
    | false =>
      have q0 := of_decide_eq_false h0
      have e : S107_L_L_0 a0 a1 (v3, v4) = (.inr v3) := by simp only [S107_L_L_0, h0, cond_true, cond_false]
      rw [show loopF (S107_L_L_0 a0 a1) (n + 1) (v3, v4) = thenF (S107_L_L_0 a0 a1) n (S107_L_L_0 a0 a1 (v3, v4)) from rfl, e]
      exact ret_of (T := T0) hT hm (f := 5000) (orc := [.d false]) [] [] [] hcx
        (obs := [.eq (decide ((v4 : Int) < ((a0.length : Nat) : Int))) false]) (by kernel_rfl) ⟨h0, trivial⟩

/-- facet/field.far at ('L', 'L') -/
def F107_L_L (a0 : List (Int × Int × Int)) (a1 : List (Int × Int × Int)) : Int :=
  (loopF (S107_L_L_0 a0 a1) (Int.toNat (((a0.length : Nat) : Int) - 0) + 1) (0, 0))

theorem C107_L_L (a0 : List (Int × Int × Int)) (a1 : List (Int × Int × Int)) (l0 : a0.length ≤ 2 ^ 40) (l1 : a1.length ≤ 2 ^ 40) : Con Try.prog 107 [(.s 0 0 a0.length 3), (.s 1 0 a1.length 3)] [(.live false true (flat c24 a0)), (.live false true (flat c24 a1))] (iv (F107_L_L a0 a1)) [] := by
  have e : (F107_L_L a0 a1) = (loopF (S107_L_L_0 a0 a1) (Int.toNat (((a0.length : Nat) : Int) - 0) + 1) (0, 0)) := by simp only [F107_L_L]
  rw [e]
  refine con_of (n := 9) Try.func107 rfl (ent Try.func107 (by kernel_rfl) rfl) (by show 2 ≤ Try.f107.ntmps; decide) (by kernel_rfl) ⟨rfl, rfl, trivial⟩ (fun cx hcx => ?_)
  refine enter_of (T := T0) hT hm (f := 5000) (orc := []) [] [1, 5, 11, 12, 13] [] hcx (body := B107_L_L_0) (k' := K107_L_L_0) (s' := ⟨[.u, (.s 1 0 a1.length 3), .u, .u, .u, (iv 0), .u, .u, .u, .u, .u, (.s 0 0 a0.length 3), (iv ((a0.length : Nat) : Int)), (iv 0), .u, .u, .u, .u, .u, .u, .u, .u, .u, .u, .u, .u, .u, .u, .u, .u, .u, .u, .u, .u], [(.live false true (flat c24 a0)), (.live false true (flat c24 a1))]⟩)
    (obs := []) (by kernel_rfl) trivial ⟨Int.toNat (((a0.length : Nat) : Int) - 0) + 1, ?_⟩
  exact L107_L_L_0 a0 a1 l0 l1 hcx (Int.toNat (((a0.length : Nat) : Int) - 0) + 1) 0 0 (by (try simp only [List.length_append, List.length_cons, List.length_nil, Int.toNat_zero]); omega) (by (try simp only [List.length_append, List.length_cons, List.length_nil, Int.toNat_zero]); omega)

noncomputable def B149_0 : Code := match (codeAtD [1] [] (Try.f149.body.getD .skip)).1 with
  | .scope c => c
  | _ => .skip
noncomputable def K149_0 : List K := (codeAtD [1] [] (Try.f149.body.getD .skip)).2
noncomputable def R149_0 : Code := (findLabel B149_0 0).getD .skip

/-- a round of loop 0 of facet/span.root; the variables: v1 = s3, v2 = s4 -/
def S149_0 (a0 : Int) : Int × Int → (Int × Int) ⊕ (Int)
  | (v1, v2) =>
   (bif ((v2 : Int) == 0) then
    (.inr v1)
   else
    (bif (decide (((W ((W (v1 + v2)) * (W (v1 + v2)))) : Int) ≤ a0)) then
     (.inl ((W (v1 + v2)), (v2 / 2)))
    else
     (.inl (v1, (v2 / 2)))))

set_option maxHeartbeats 4000000 in
theorem L149_0 (a0 : Int) {cx : Cx} (hcx : cx.base = 0) : ∀ (n : Nat) (v1 : Int) (v2 : Int), 0 ≤ v2 → Int.toNat v2 < n → Aw.Good Try.prog none 9 (bodyPost Try.prog Try.f149 (RR cx (iv (loopF (S149_0 a0) n (v1, v2))) [] [])) cx [] (.c (.goto 0) :: .s B149_0 n :: K149_0) ⟨[(iv a0), .u, .u, (iv v1), (iv v2), .u, .u, .u, .u, .u, .u, .u, .u, .u, .u, .u, .u, .u, .u, .u, .u, .u], []⟩ := by
  intro n
  induction n with
  | zero => intro v1 v2 hi hn; exact absurd hn (Nat.not_lt_zero _)
  | succ n ih =>
    intro v1 v2 hi hn
    refine good_jump (rest := R149_0) (by kernel_rfl) ?_
    cases h0 : ((v2 : Int) == 0) with
    | true =>
      have q0 := eq_of_beq h0
      have e : S149_0 a0 (v1, v2) = (.inr v1) := by simp only [S149_0, h0, cond_true, cond_false]
      rw [show loopF (S149_0 a0) (n + 1) (v1, v2) = thenF (S149_0 a0) n (S149_0 a0 (v1, v2)) from rfl, e]
      exact ret_of (T := T0) hT hm (f := 5000) (orc := [.d true]) [] [] [] hcx
        (obs := [.eq ((v2 : Int) == 0) true]) (by kernel_rfl) ⟨h0, trivial⟩
    | false =>
      cases h1 : (decide (((W ((W (v1 + v2)) * (W (v1 + v2)))) : Int) ≤ a0)) with
      | true =>
        have q0 := ne_of_beq_false h0
        have q1 := of_decide_eq_true h1
        have e : S149_0 a0 (v1, v2) = (.inl ((W (v1 + v2)), (v2 / 2))) := by simp only [S149_0, h0, h1, cond_true, cond_false]
        rw [loopF_inl e]
        refine at_of (T := T0) hT hm (f := 5000) (orc := [.d false, .d true]) [] [0, 3, 4] [] hcx (x := .goto 0) (k' := .s B149_0 n :: K149_0) (s' := ⟨[(iv a0), .u, .u, (iv (W (v1 + v2))), (iv (Int.fdiv v2 (2 ^ (min (Int.toNat 1) 64)))), .u, .u, .u, .u, .u, .u, .u, .u, .u, .u, .u, .u, .u, .u, .u, .u, .u], []⟩)
          (obs := [.eq ((v2 : Int) == 0) false, .eq (decide (((W ((W (v1 + v2)) * (W (v1 + v2)))) : Int) ≤ a0)) true, .pr (0 ≤ (1 : Int))]) (by kernel_rfl) ⟨h0, h1, (show 0 ≤ (1 : Int) from by decide), trivial⟩ ?_
        have z0 : (Int.fdiv v2 (2 ^ (min (Int.toNat 1) 64))) = (v2 / 2) := shr_eq _ 1 (by decide)
        rw [z0]
        exact ih (W (v1 + v2)) (v2 / 2) (by (try simp only [List.length_append, List.length_cons, List.length_nil, Int.toNat_zero]); omega) (by omega)
      | false =>
        have q0 := ne_of_beq_false h0
        have q1 := of_decide_eq_false h1
        have e : S149_0 a0 (v1, v2) = (.inl (v1, (v2 / 2))) := by simp only [S149_0, h0, h1, cond_true, cond_false]
        rw [loopF_inl e]
        refine at_of (T := T0) hT hm (f := 5000) (orc := [.d false, .d false]) [] [0, 3, 4] [] hcx (x := .goto 0) (k' := .s B149_0 n :: K149_0) (s' := ⟨[(iv a0), .u, .u, (iv v1), (iv (Int.fdiv v2 (2 ^ (min (Int.toNat 1) 64)))), .u, .u, .u, .u, .u, .u, .u, .u, .u, .u, .u, .u, .u, .u, .u, .u, .u], []⟩)
          (obs := [.eq ((v2 : Int) == 0) false, .eq (decide (((W ((W (v1 + v2)) * (W (v1 + v2)))) : Int) ≤ a0)) false, .pr (0 ≤ (1 : Int))]) (by kernel_rfl) ⟨h0, h1, (show 0 ≤ (1 : Int) from by decide), trivial⟩ ?_
        have z0 : (Int.fdiv v2 (2 ^ (min (Int.toNat 1) 64))) = (v2 / 2) := shr_eq _ 1 (by decide)
        rw [z0]
        exact ih v1 (v2 / 2) (by (try simp only [List.length_append, List.length_cons, List.length_nil, Int.toNat_zero]); omega) (by omega)

/-- facet/span.root -/
def F149 (a0 : Int) : Int :=
  (bif (decide ((4611686018427387904 : Int) ≤ a0)) then
   (loopF (S149_0 a0) (Int.toNat 1073741824 + 1) (2147483648, 1073741824))
  else
   (loopF (S149_0 a0) (Int.toNat 1073741824 + 1) (0, 1073741824)))

theorem C149 (a0 : Int) : Con Try.prog 149 [(iv a0)] [] (iv (F149 a0)) [] := by
  cases h0 : (decide ((4611686018427387904 : Int) ≤ a0)) with
  | true =>
    have q0 := of_decide_eq_true h0
    have e : (F149 a0) = (loopF (S149_0 a0) (Int.toNat 1073741824 + 1) (2147483648, 1073741824)) := by simp only [F149, h0, cond_true, cond_false]
    rw [e]
    refine con_of (n := 9) Try.func149 rfl (ent Try.func149 (by kernel_rfl) rfl) (by show 1 ≤ Try.f149.ntmps; decide) (by kernel_rfl) trivial (fun cx hcx => ?_)
    refine at_of (T := T0) hT hm (f := 5000) (orc := [.un (Int.toNat 1073741824 + 1), .d false, .d true]) [] [0, 3, 4] [] hcx (x := .goto 0) (k' := .s B149_0 (Int.toNat 1073741824 + 1) :: K149_0) (s' := ⟨[(iv a0), .u, .u, (iv 2147483648), (iv 1073741824), .u, .u, .u, .u, .u, .u, .u, .u, .u, .u, .u, .u, .u, .u, .u, .u, .u], []⟩)
      (obs := [.eq false false, .eq (decide ((4611686018427387904 : Int) ≤ a0)) true, .pr (0 ≤ (1 : Int))]) (by kernel_rfl) ⟨rfl, h0, (show 0 ≤ (1 : Int) from by decide), trivial⟩ ?_
    exact L149_0 a0 hcx (Int.toNat 1073741824 + 1) 2147483648 1073741824 (by (try simp only [List.length_append, List.length_cons, List.length_nil, Int.toNat_zero]); omega) (by omega)
  | false =>
    have q0 := of_decide_eq_false h0
    have e : (F149 a0) = (loopF (S149_0 a0) (Int.toNat 1073741824 + 1) (0, 1073741824)) := by simp only [F149, h0, cond_true, cond_false]
    rw [e]
    refine con_of (n := 9) Try.func149 rfl (ent Try.func149 (by kernel_rfl) rfl) (by show 1 ≤ Try.f149.ntmps; decide) (by kernel_rfl) trivial (fun cx hcx => ?_)
    refine at_of (T := T0) hT hm (f := 5000) (orc := [.un (Int.toNat 1073741824 + 1), .d false, .d false]) [] [0, 3, 4] [] hcx (x := .goto 0) (k' := .s B149_0 (Int.toNat 1073741824 + 1) :: K149_0) (s' := ⟨[(iv a0), .u, .u, (iv 0), (iv 1073741824), .u, .u, .u, .u, .u, .u, .u, .u, .u, .u, .u, .u, .u, .u, .u, .u, .u], []⟩)
      (obs := [.eq false false, .eq (decide ((4611686018427387904 : Int) ≤ a0)) false, .pr (0 ≤ (1 : Int))]) (by kernel_rfl) ⟨rfl, h0, (show 0 ≤ (1 : Int) from by decide), trivial⟩ ?_
    exact L149_0 a0 hcx (Int.toNat 1073741824 + 1) 0 1073741824 (by (try simp only [List.length_append, List.length_cons, List.length_nil, Int.toNat_zero]); omega) (by omega)

/-- facet/span.Valid -/
def F102 (a0 : Int × Int) : Bool :=
  (bif (decide ((a0.1 : Int) ≥ (-1099511627776))) then
   (bif (decide ((a0.1 : Int) ≤ a0.2)) then
    (decide ((a0.2 : Int) ≤ 1099511627776))
   else
    false)
  else
   false)

theorem C102 (a0 : Int × Int) : Con Try.prog 102 [(.a [(iv a0.1), (iv a0.2)])] [] (.v (.bool (F102 a0))) [] := by
  cases h0 : (decide ((a0.1 : Int) ≥ (-1099511627776))) with
  | true =>
    cases h1 : (decide ((a0.1 : Int) ≤ a0.2)) with
    | true =>
      have q0 := of_decide_eq_true h0
      have q1 := of_decide_eq_true h1
      have e : (F102 a0) = (decide ((a0.2 : Int) ≤ 1099511627776)) := by simp only [F102, h0, h1, cond_true, cond_false]
      rw [e]
      refine con_of (n := 9) Try.func102 rfl (ent Try.func102 (by kernel_rfl) rfl) (by show 1 ≤ Try.f102.ntmps; decide) (by kernel_rfl) trivial (fun cx hcx => ?_)
      exact ret_of (T := T0) hT hm (f := 5000) (orc := [.d true, .d true]) [] [] [] hcx
        (obs := [.eq (decide ((a0.1 : Int) ≥ (-1099511627776))) true, .eq (decide ((a0.1 : Int) ≤ a0.2)) true]) (by kernel_rfl) ⟨h0, h1, trivial⟩
    | false =>
      have q0 := of_decide_eq_true h0
      have q1 := of_decide_eq_false h1
      have e : (F102 a0) = false := by simp only [F102, h0, h1, cond_true, cond_false]
      rw [e]
      refine con_of (n := 9) Try.func102 rfl (ent Try.func102 (by kernel_rfl) rfl) (by show 1 ≤ Try.f102.ntmps; decide) (by kernel_rfl) trivial (fun cx hcx => ?_)
      exact ret_of (T := T0) hT hm (f := 5000) (orc := [.d true, .d false]) [] [] [] hcx
        (obs := [.eq (decide ((a0.1 : Int) ≥ (-1099511627776))) true, .eq (decide ((a0.1 : Int) ≤ a0.2)) false]) (by kernel_rfl) ⟨h0, h1, trivial⟩
  | false =>
    have q0 := of_decide_eq_false h0
    have e : (F102 a0) = false := by simp only [F102, h0, cond_true, cond_false]
    rw [e]
    refine con_of (n := 9) Try.func102 rfl (ent Try.func102 (by kernel_rfl) rfl) (by show 1 ≤ Try.f102.ntmps; decide) (by kernel_rfl) trivial (fun cx hcx => ?_)
    exact ret_of (T := T0) hT hm (f := 5000) (orc := [.d false]) [] [] [] hcx
      (obs := [.eq (decide ((a0.1 : Int) ≥ (-1099511627776))) false]) (by kernel_rfl) ⟨h0, trivial⟩

/-- facet/span.result -/
def F78 (a0 : Int) (a1 : Int) : (Int × Int) × Int :=
  (bif (!(F102 (a0, a1))) then
   ((0, 0), 4)
  else
   ((a0, a1), 0))

theorem C78 (a0 : Int) (a1 : Int) : Con Try.prog 78 [(iv a0), (iv a1)] [] (.t [(.a (k2 (F78 a0 a1).1)), (iv (F78 a0 a1).2)]) [] := by
  cases h0 : (!(F102 (a0, a1))) with
  | true =>
    have e : (F78 a0 a1) = ((0, 0), 4) := by simp only [F78, h0, cond_true, cond_false]
    rw [e]
    refine con_of (n := 9) Try.func78 rfl (ent Try.func78 (by kernel_rfl) rfl) (by show 2 ≤ Try.f78.ntmps; decide) (by kernel_rfl) trivial (fun cx hcx => ?_)
    exact ret_of (T := T0) hT hm (f := 5000) (orc := [.call [] (.v (.bool (F102 (a0, a1)))) [], .d true]) [] [] [] hcx
      (obs := [.call 102 [(.a [(iv a0), (iv a1)])] [] (.v (.bool (F102 (a0, a1)))) [], .eq (!(F102 (a0, a1))) true]) (by kernel_rfl) ⟨(C102 (a0, a1)), h0, trivial⟩
  | false =>
    have e : (F78 a0 a1) = ((a0, a1), 0) := by simp only [F78, h0, cond_true, cond_false]
    rw [e]
    refine con_of (n := 9) Try.func78 rfl (ent Try.func78 (by kernel_rfl) rfl) (by show 2 ≤ Try.f78.ntmps; decide) (by kernel_rfl) trivial (fun cx hcx => ?_)
    exact ret_of (T := T0) hT hm (f := 5000) (orc := [.call [] (.v (.bool (F102 (a0, a1)))) [], .d false]) [] [] [] hcx
      (obs := [.call 102 [(.a [(iv a0), (iv a1)])] [] (.v (.bool (F102 (a0, a1)))) [], .eq (!(F102 (a0, a1))) false]) (by kernel_rfl) ⟨(C102 (a0, a1)), h0, trivial⟩

/-- facet/span.inverse -/
def F109 (a0 : Int) (a1 : Int) : (Int × Int) × Int :=
  (bif (((W ((W ((F149 (W (Int.tdiv a0 a1))) * (F149 (W (Int.tdiv a0 a1))))) * a1)) : Int) == a0) then
   ((F78 (F149 (W (Int.tdiv a0 a1))) (F149 (W (Int.tdiv a0 a1)))).1, (F78 (F149 (W (Int.tdiv a0 a1))) (F149 (W (Int.tdiv a0 a1)))).2)
  else
   ((F78 (F149 (W (Int.tdiv a0 a1))) (W ((F149 (W (Int.tdiv a0 a1))) + 1))).1, (F78 (F149 (W (Int.tdiv a0 a1))) (W ((F149 (W (Int.tdiv a0 a1))) + 1))).2))

theorem C109 (a0 : Int) (a1 : Int) (ha : a1 ≠ 0) : Con Try.prog 109 [(iv a0), (iv a1)] [] (.t [(.a (k2 (F109 a0 a1).1)), (iv (F109 a0 a1).2)]) [] := by
  cases h0 : (((W ((W ((F149 (W (Int.tdiv a0 a1))) * (F149 (W (Int.tdiv a0 a1))))) * a1)) : Int) == a0) with
  | true =>
    have q0 := eq_of_beq h0
    have e : (F109 a0 a1) = ((F78 (F149 (W (Int.tdiv a0 a1))) (F149 (W (Int.tdiv a0 a1)))).1, (F78 (F149 (W (Int.tdiv a0 a1))) (F149 (W (Int.tdiv a0 a1)))).2) := by simp only [F109, h0, cond_true, cond_false]
    rw [e]
    refine con_of (n := 9) Try.func109 rfl (ent Try.func109 (by kernel_rfl) rfl) (by show 2 ≤ Try.f109.ntmps; decide) (by kernel_rfl) trivial (fun cx hcx => ?_)
    exact ret_of (T := T0) hT hm (f := 5000) (orc := [.call [] (iv (F149 (W (Int.tdiv a0 a1)))) [], .d true, .call [] (.t [(.a (k2 (F78 (F149 (W (Int.tdiv a0 a1))) (F149 (W (Int.tdiv a0 a1)))).1)), (iv (F78 (F149 (W (Int.tdiv a0 a1))) (F149 (W (Int.tdiv a0 a1)))).2)]) []]) [] [] [] hcx
      (obs := [.pr ((a1 : Int) ≠ 0), .call 149 [(iv (W (Int.tdiv a0 a1)))] [] (iv (F149 (W (Int.tdiv a0 a1)))) [], .eq (((W ((W ((F149 (W (Int.tdiv a0 a1))) * (F149 (W (Int.tdiv a0 a1))))) * a1)) : Int) == a0) true, .call 78 [(iv (F149 (W (Int.tdiv a0 a1)))), (iv (F149 (W (Int.tdiv a0 a1))))] [] (.t [(.a (k2 (F78 (F149 (W (Int.tdiv a0 a1))) (F149 (W (Int.tdiv a0 a1)))).1)), (iv (F78 (F149 (W (Int.tdiv a0 a1))) (F149 (W (Int.tdiv a0 a1)))).2)]) []]) (by kernel_rfl) ⟨(show (a1 : Int) ≠ 0 from by first | omega | (rw [W_eq] <;> omega) | exact u64_nn _), (C149 (W (Int.tdiv a0 a1))), h0, (C78 (F149 (W (Int.tdiv a0 a1))) (F149 (W (Int.tdiv a0 a1)))), trivial⟩
  | false =>
    have q0 := ne_of_beq_false h0
    have e : (F109 a0 a1) = ((F78 (F149 (W (Int.tdiv a0 a1))) (W ((F149 (W (Int.tdiv a0 a1))) + 1))).1, (F78 (F149 (W (Int.tdiv a0 a1))) (W ((F149 (W (Int.tdiv a0 a1))) + 1))).2) := by simp only [F109, h0, cond_true, cond_false]
    rw [e]
    refine con_of (n := 9) Try.func109 rfl (ent Try.func109 (by kernel_rfl) rfl) (by show 2 ≤ Try.f109.ntmps; decide) (by kernel_rfl) trivial (fun cx hcx => ?_)
    exact ret_of (T := T0) hT hm (f := 5000) (orc := [.call [] (iv (F149 (W (Int.tdiv a0 a1)))) [], .d false, .call [] (.t [(.a (k2 (F78 (F149 (W (Int.tdiv a0 a1))) (W ((F149 (W (Int.tdiv a0 a1))) + 1))).1)), (iv (F78 (F149 (W (Int.tdiv a0 a1))) (W ((F149 (W (Int.tdiv a0 a1))) + 1))).2)]) []]) [] [] [] hcx
      (obs := [.pr ((a1 : Int) ≠ 0), .call 149 [(iv (W (Int.tdiv a0 a1)))] [] (iv (F149 (W (Int.tdiv a0 a1)))) [], .eq (((W ((W ((F149 (W (Int.tdiv a0 a1))) * (F149 (W (Int.tdiv a0 a1))))) * a1)) : Int) == a0) false, .call 78 [(iv (F149 (W (Int.tdiv a0 a1)))), (iv (W ((F149 (W (Int.tdiv a0 a1))) + 1)))] [] (.t [(.a (k2 (F78 (F149 (W (Int.tdiv a0 a1))) (W ((F149 (W (Int.tdiv a0 a1))) + 1))).1)), (iv (F78 (F149 (W (Int.tdiv a0 a1))) (W ((F149 (W (Int.tdiv a0 a1))) + 1))).2)]) []]) (by kernel_rfl) ⟨(show (a1 : Int) ≠ 0 from by first | omega | (rw [W_eq] <;> omega) | exact u64_nn _), (C149 (W (Int.tdiv a0 a1))), h0, (C78 (F149 (W (Int.tdiv a0 a1))) (W ((F149 (W (Int.tdiv a0 a1))) + 1))), trivial⟩

/-- facet/span.Inverse -/
def F81 (a0 : Int) (a1 : Int) : (Int × Int) × Int :=
  (bif (decide ((a0 : Int) < 1)) then
   ((0, 0), 1)
  else
   (bif (decide ((a0 : Int) > 1099511627776)) then
    ((0, 0), 1)
   else
    (bif (decide ((a1 : Int) < 1)) then
     ((0, 0), 1)
    else
     (bif (decide ((a1 : Int) > 8)) then
      ((0, 0), 1)
     else
      ((F109 (W ((W (a1 * a1)) * 2 ^ (min (Int.toNat 40) 64))) a0).1, (F109 (W ((W (a1 * a1)) * 2 ^ (min (Int.toNat 40) 64))) a0).2)))))

theorem C81 (a0 : Int) (a1 : Int) : Con Try.prog 81 [(iv a0), (iv a1)] [] (.t [(.a (k2 (F81 a0 a1).1)), (iv (F81 a0 a1).2)]) [] := by
  cases h0 : (decide ((a0 : Int) < 1)) with
  | true =>
    have q0 := of_decide_eq_true h0
    have e : (F81 a0 a1) = ((0, 0), 1) := by simp only [F81, h0, cond_true, cond_false]
    rw [e]
    refine con_of (n := 9) Try.func81 rfl (ent Try.func81 (by kernel_rfl) rfl) (by show 2 ≤ Try.f81.ntmps; decide) (by kernel_rfl) trivial (fun cx hcx => ?_)
    exact ret_of (T := T0) hT hm (f := 5000) (orc := [.d true]) [] [] [] hcx
      (obs := [.eq (decide ((a0 : Int) < 1)) true]) (by kernel_rfl) ⟨h0, trivial⟩
  | false =>
    cases h1 : (decide ((a0 : Int) > 1099511627776)) with
    | true =>
      have q0 := of_decide_eq_false h0
      have q1 := of_decide_eq_true h1
      have e : (F81 a0 a1) = ((0, 0), 1) := by simp only [F81, h0, h1, cond_true, cond_false]
      rw [e]
      refine con_of (n := 9) Try.func81 rfl (ent Try.func81 (by kernel_rfl) rfl) (by show 2 ≤ Try.f81.ntmps; decide) (by kernel_rfl) trivial (fun cx hcx => ?_)
      exact ret_of (T := T0) hT hm (f := 5000) (orc := [.d false, .d true]) [] [] [] hcx
        (obs := [.eq (decide ((a0 : Int) < 1)) false, .eq (decide ((a0 : Int) > 1099511627776)) true]) (by kernel_rfl) ⟨h0, h1, trivial⟩
    | false =>
      cases h2 : (decide ((a1 : Int) < 1)) with
      | true =>
        have q0 := of_decide_eq_false h0
        have q1 := of_decide_eq_false h1
        have q2 := of_decide_eq_true h2
        have e : (F81 a0 a1) = ((0, 0), 1) := by simp only [F81, h0, h1, h2, cond_true, cond_false]
        rw [e]
        refine con_of (n := 9) Try.func81 rfl (ent Try.func81 (by kernel_rfl) rfl) (by show 2 ≤ Try.f81.ntmps; decide) (by kernel_rfl) trivial (fun cx hcx => ?_)
        exact ret_of (T := T0) hT hm (f := 5000) (orc := [.d false, .d false, .d true]) [] [] [] hcx
          (obs := [.eq (decide ((a0 : Int) < 1)) false, .eq (decide ((a0 : Int) > 1099511627776)) false, .eq (decide ((a1 : Int) < 1)) true]) (by kernel_rfl) ⟨h0, h1, h2, trivial⟩
      | false =>
        cases h3 : (decide ((a1 : Int) > 8)) with
        | true =>
          have q0 := of_decide_eq_false h0
          have q1 := of_decide_eq_false h1
          have q2 := of_decide_eq_false h2
          have q3 := of_decide_eq_true h3
          have e : (F81 a0 a1) = ((0, 0), 1) := by simp only [F81, h0, h1, h2, h3, cond_true, cond_false]
          rw [e]
          refine con_of (n := 9) Try.func81 rfl (ent Try.func81 (by kernel_rfl) rfl) (by show 2 ≤ Try.f81.ntmps; decide) (by kernel_rfl) trivial (fun cx hcx => ?_)
          exact ret_of (T := T0) hT hm (f := 5000) (orc := [.d false, .d false, .d false, .d true]) [] [] [] hcx
            (obs := [.eq (decide ((a0 : Int) < 1)) false, .eq (decide ((a0 : Int) > 1099511627776)) false, .eq (decide ((a1 : Int) < 1)) false, .eq (decide ((a1 : Int) > 8)) true]) (by kernel_rfl) ⟨h0, h1, h2, h3, trivial⟩
        | false =>
          have q0 := of_decide_eq_false h0
          have q1 := of_decide_eq_false h1
          have q2 := of_decide_eq_false h2
          have q3 := of_decide_eq_false h3
          have e : (F81 a0 a1) = ((F109 (W ((W (a1 * a1)) * 2 ^ (min (Int.toNat 40) 64))) a0).1, (F109 (W ((W (a1 * a1)) * 2 ^ (min (Int.toNat 40) 64))) a0).2) := by simp only [F81, h0, h1, h2, h3, cond_true, cond_false]
          rw [e]
          refine con_of (n := 9) Try.func81 rfl (ent Try.func81 (by kernel_rfl) rfl) (by show 2 ≤ Try.f81.ntmps; decide) (by kernel_rfl) trivial (fun cx hcx => ?_)
          exact ret_of (T := T0) hT hm (f := 5000) (orc := [.d false, .d false, .d false, .d false, .call [] (.t [(.a (k2 (F109 (W ((W (a1 * a1)) * 2 ^ (min (Int.toNat 40) 64))) a0).1)), (iv (F109 (W ((W (a1 * a1)) * 2 ^ (min (Int.toNat 40) 64))) a0).2)]) []]) [] [] [] hcx
            (obs := [.eq (decide ((a0 : Int) < 1)) false, .eq (decide ((a0 : Int) > 1099511627776)) false, .eq (decide ((a1 : Int) < 1)) false, .eq (decide ((a1 : Int) > 8)) false, .pr (0 ≤ (40 : Int)), .call 109 [(iv (W ((W (a1 * a1)) * 2 ^ (min (Int.toNat 40) 64)))), (iv a0)] [] (.t [(.a (k2 (F109 (W ((W (a1 * a1)) * 2 ^ (min (Int.toNat 40) 64))) a0).1)), (iv (F109 (W ((W (a1 * a1)) * 2 ^ (min (Int.toNat 40) 64))) a0).2)]) []]) (by kernel_rfl) ⟨h0, h1, h2, h3, (show 0 ≤ (40 : Int) from by decide), (C109 (W ((W (a1 * a1)) * 2 ^ (min (Int.toNat 40) 64))) a0  (by (try simp only [List.length_append, List.length_cons, List.length_nil, Int.toNat_zero]); omega)), trivial⟩

/-- facet/span.check at (1,) -/
def F75_1 (a0 : Int × Int) : Int :=
  (bif (!(F102 a0)) then
   1
  else
   0)

theorem C75_1 (a0 : Int × Int) : Con Try.prog 75 [(.s 0 0 1 2)] [(.live false false [(iv a0.1), (iv a0.2)])] (iv (F75_1 a0)) [] := by
  cases h0 : (!(F102 a0)) with
  | true =>
    have e : (F75_1 a0) = 1 := by simp only [F75_1, h0, cond_true, cond_false]
    rw [e]
    refine con_of (n := 9) Try.func75 rfl (ent Try.func75 (by kernel_rfl) rfl) (by show 1 ≤ Try.f75.ntmps; decide) (by kernel_rfl) ⟨rfl, trivial⟩ (fun cx hcx => ?_)
    exact ret_of (T := T0) hT hm (f := 5000) (orc := [.un 200, .d true, .call [] (.v (.bool (F102 a0))) [], .d true]) [] [] [] hcx
      (obs := [.eq true true, .pr (0 ≤ (0 : Int) ∧ (0 : Int) < ((1 : Nat) : Int)), .call 102 [(.a [(iv a0.1), (iv a0.2)])] [] (.v (.bool (F102 a0))) [], .eq (!(F102 a0)) true]) (by kernel_rfl) ⟨rfl, (show 0 ≤ (0 : Int) ∧ (0 : Int) < ((1 : Nat) : Int) from by decide), (C102 a0), h0, trivial⟩
  | false =>
    have e : (F75_1 a0) = 0 := by simp only [F75_1, h0, cond_true, cond_false]
    rw [e]
    refine con_of (n := 9) Try.func75 rfl (ent Try.func75 (by kernel_rfl) rfl) (by show 1 ≤ Try.f75.ntmps; decide) (by kernel_rfl) ⟨rfl, trivial⟩ (fun cx hcx => ?_)
    exact ret_of (T := T0) hT hm (f := 5000) (orc := [.un 200, .d true, .call [] (.v (.bool (F102 a0))) [], .d false, .un 0, .d false]) [] [] [] hcx
      (obs := [.eq true true, .pr (0 ≤ (0 : Int) ∧ (0 : Int) < ((1 : Nat) : Int)), .call 102 [(.a [(iv a0.1), (iv a0.2)])] [] (.v (.bool (F102 a0))) [], .eq (!(F102 a0)) false, .eq false false]) (by kernel_rfl) ⟨rfl, (show 0 ≤ (0 : Int) ∧ (0 : Int) < ((1 : Nat) : Int) from by decide), (C102 a0), h0, rfl, trivial⟩

/-- facet/span.down -/
def F115 (a0 : Int) (a1 : Int) : Int :=
  (bif (((Int.tmod a0 a1) : Int) != 0) then
   (bif (!((decide ((a0 : Int) < 0)) == (decide ((a1 : Int) < 0)))) then
    (W ((W (Int.tdiv a0 a1)) - 1))
   else
    (W (Int.tdiv a0 a1)))
  else
   (W (Int.tdiv a0 a1)))

theorem C115 (a0 : Int) (a1 : Int) (ha : a1 ≠ 0) : Con Try.prog 115 [(iv a0), (iv a1)] [] (iv (F115 a0 a1)) [] := by
  cases h0 : (((Int.tmod a0 a1) : Int) != 0) with
  | true =>
    cases h1 : (!((decide ((a0 : Int) < 0)) == (decide ((a1 : Int) < 0)))) with
    | true =>
      have q0 := bne_iff_ne.1 h0
      have e : (F115 a0 a1) = (W ((W (Int.tdiv a0 a1)) - 1)) := by simp only [F115, h0, h1, cond_true, cond_false]
      rw [e]
      refine con_of (n := 9) Try.func115 rfl (ent Try.func115 (by kernel_rfl) rfl) (by show 2 ≤ Try.f115.ntmps; decide) (by kernel_rfl) trivial (fun cx hcx => ?_)
      exact ret_of (T := T0) hT hm (f := 5000) (orc := [.d true, .d true]) [] [] [] hcx
        (obs := [.pr ((a1 : Int) ≠ 0), .pr ((a1 : Int) ≠ 0), .eq (((Int.tmod a0 a1) : Int) != 0) true, .eq (!((decide ((a0 : Int) < 0)) == (decide ((a1 : Int) < 0)))) true]) (by kernel_rfl) ⟨(show (a1 : Int) ≠ 0 from by first | omega | (rw [W_eq] <;> omega) | exact u64_nn _), (show (a1 : Int) ≠ 0 from by first | omega | (rw [W_eq] <;> omega) | exact u64_nn _), h0, h1, trivial⟩
    | false =>
      have q0 := bne_iff_ne.1 h0
      have e : (F115 a0 a1) = (W (Int.tdiv a0 a1)) := by simp only [F115, h0, h1, cond_true, cond_false]
      rw [e]
      refine con_of (n := 9) Try.func115 rfl (ent Try.func115 (by kernel_rfl) rfl) (by show 2 ≤ Try.f115.ntmps; decide) (by kernel_rfl) trivial (fun cx hcx => ?_)
      exact ret_of (T := T0) hT hm (f := 5000) (orc := [.d true, .d false]) [] [] [] hcx
        (obs := [.pr ((a1 : Int) ≠ 0), .pr ((a1 : Int) ≠ 0), .eq (((Int.tmod a0 a1) : Int) != 0) true, .eq (!((decide ((a0 : Int) < 0)) == (decide ((a1 : Int) < 0)))) false]) (by kernel_rfl) ⟨(show (a1 : Int) ≠ 0 from by first | omega | (rw [W_eq] <;> omega) | exact u64_nn _), (show (a1 : Int) ≠ 0 from by first | omega | (rw [W_eq] <;> omega) | exact u64_nn _), h0, h1, trivial⟩
  | false =>
    have q0 := bne_eq_false_iff_eq.1 h0
    have e : (F115 a0 a1) = (W (Int.tdiv a0 a1)) := by simp only [F115, h0, cond_true, cond_false]
    rw [e]
    refine con_of (n := 9) Try.func115 rfl (ent Try.func115 (by kernel_rfl) rfl) (by show 2 ≤ Try.f115.ntmps; decide) (by kernel_rfl) trivial (fun cx hcx => ?_)
    exact ret_of (T := T0) hT hm (f := 5000) (orc := [.d false]) [] [] [] hcx
      (obs := [.pr ((a1 : Int) ≠ 0), .pr ((a1 : Int) ≠ 0), .eq (((Int.tmod a0 a1) : Int) != 0) false]) (by kernel_rfl) ⟨(show (a1 : Int) ≠ 0 from by first | omega | (rw [W_eq] <;> omega) | exact u64_nn _), (show (a1 : Int) ≠ 0 from by first | omega | (rw [W_eq] <;> omega) | exact u64_nn _), h0, trivial⟩

/-- facet/span.up -/
def F116 (a0 : Int) (a1 : Int) : Int :=
  (W (0 - (F115 (W (0 - a0)) a1)))

theorem C116 (a0 : Int) (a1 : Int) (ha : a1 ≠ 0) : Con Try.prog 116 [(iv a0), (iv a1)] [] (iv (F116 a0 a1)) [] := by
  have e : (F116 a0 a1) = (W (0 - (F115 (W (0 - a0)) a1))) := by simp only [F116]
  rw [e]
  refine con_of (n := 9) Try.func116 rfl (ent Try.func116 (by kernel_rfl) rfl) (by show 2 ≤ Try.f116.ntmps; decide) (by kernel_rfl) trivial (fun cx hcx => ?_)
  exact ret_of (T := T0) hT hm (f := 5000) (orc := [.call [] (iv (F115 (W (0 - a0)) a1)) []]) [] [] [] hcx
    (obs := [.call 115 [(iv (W (0 - a0))), (iv a1)] [] (iv (F115 (W (0 - a0)) a1)) []]) (by kernel_rfl) ⟨(C115 (W (0 - a0)) a1  (by (try simp only [List.length_append, List.length_cons, List.length_nil, Int.toNat_zero]); omega)), trivial⟩

/-- facet/span.Part -/
def F148 (a0 : Int × Int) (a1 : Int) : (Int × Int) × Int :=
  (bif (((F75_1 a0) : Int) != 0) then
   ((0, 0), (F75_1 a0))
  else
   (bif (decide ((a1 : Int) < 1)) then
    ((0, 0), 1)
   else
    (bif (decide ((a1 : Int) > 1099511627776)) then
     ((0, 0), 1)
    else
     ((F78 (F115 a0.1 a1) (F116 a0.2 a1)).1, (F78 (F115 a0.1 a1) (F116 a0.2 a1)).2))))

noncomputable def oC148_0 (a0 : Int × Int) : Ob := .call 75 [(.s 0 0 1 2)] [(.live false false [(iv a0.1), (iv a0.2)])] (iv (F75_1 a0)) []
theorem C148 (a0 : Int × Int) (a1 : Int) : Con Try.prog 148 [(.a [(iv a0.1), (iv a0.2)]), (iv a1)] [] (.t [(.a (k2 (F148 a0 a1).1)), (iv (F148 a0 a1).2)]) [] := by
  cases h0 : (((F75_1 a0) : Int) != 0) with
  | true =>
    have q0 := bne_iff_ne.1 h0
    have e : (F148 a0 a1) = ((0, 0), (F75_1 a0)) := by simp only [F148, h0, cond_true, cond_false]
    rw [e]
    refine con_of (n := 9) Try.func148 rfl (ent Try.func148 (by kernel_rfl) rfl) (by show 2 ≤ Try.f148.ntmps; decide) (by kernel_rfl) trivial (fun cx hcx => ?_)
    exact ret_of (T := T0) hT hm (f := 5000) (orc := [.call [2] (iv (F75_1 a0)) [], .d true]) [] [] [] hcx
      (obs := [(oC148_0 a0), .eq (((F75_1 a0) : Int) != 0) true]) (by kernel_rfl) ⟨(C75_1 a0), h0, trivial⟩
  | false =>
    cases h1 : (decide ((a1 : Int) < 1)) with
    | true =>
      have q0 := bne_eq_false_iff_eq.1 h0
      have q1 := of_decide_eq_true h1
      have e : (F148 a0 a1) = ((0, 0), 1) := by simp only [F148, h0, h1, cond_true, cond_false]
      rw [e]
      refine con_of (n := 9) Try.func148 rfl (ent Try.func148 (by kernel_rfl) rfl) (by show 2 ≤ Try.f148.ntmps; decide) (by kernel_rfl) trivial (fun cx hcx => ?_)
      exact ret_of (T := T0) hT hm (f := 5000) (orc := [.call [2] (iv (F75_1 a0)) [], .d false, .d true]) [] [] [] hcx
        (obs := [(oC148_0 a0), .eq (((F75_1 a0) : Int) != 0) false, .eq (decide ((a1 : Int) < 1)) true]) (by kernel_rfl) ⟨(C75_1 a0), h0, h1, trivial⟩
    | false =>
      cases h2 : (decide ((a1 : Int) > 1099511627776)) with
      | true =>
        have q0 := bne_eq_false_iff_eq.1 h0
        have q1 := of_decide_eq_false h1
        have q2 := of_decide_eq_true h2
        have e : (F148 a0 a1) = ((0, 0), 1) := by simp only [F148, h0, h1, h2, cond_true, cond_false]
        rw [e]
        refine con_of (n := 9) Try.func148 rfl (ent Try.func148 (by kernel_rfl) rfl) (by show 2 ≤ Try.f148.ntmps; decide) (by kernel_rfl) trivial (fun cx hcx => ?_)
        exact ret_of (T := T0) hT hm (f := 5000) (orc := [.call [2] (iv (F75_1 a0)) [], .d false, .d false, .d true]) [] [] [] hcx
          (obs := [(oC148_0 a0), .eq (((F75_1 a0) : Int) != 0) false, .eq (decide ((a1 : Int) < 1)) false, .eq (decide ((a1 : Int) > 1099511627776)) true]) (by kernel_rfl) ⟨(C75_1 a0), h0, h1, h2, trivial⟩
      | false =>
        have q0 := bne_eq_false_iff_eq.1 h0
        have q1 := of_decide_eq_false h1
        have q2 := of_decide_eq_false h2
        have e : (F148 a0 a1) = ((F78 (F115 a0.1 a1) (F116 a0.2 a1)).1, (F78 (F115 a0.1 a1) (F116 a0.2 a1)).2) := by simp only [F148, h0, h1, h2, cond_true, cond_false]
        rw [e]
        refine con_of (n := 9) Try.func148 rfl (ent Try.func148 (by kernel_rfl) rfl) (by show 2 ≤ Try.f148.ntmps; decide) (by kernel_rfl) trivial (fun cx hcx => ?_)
        exact ret_of (T := T0) hT hm (f := 5000) (orc := [.call [2] (iv (F75_1 a0)) [], .d false, .d false, .d false, .call [] (iv (F115 a0.1 a1)) [], .call [] (iv (F116 a0.2 a1)) [], .call [] (.t [(.a (k2 (F78 (F115 a0.1 a1) (F116 a0.2 a1)).1)), (iv (F78 (F115 a0.1 a1) (F116 a0.2 a1)).2)]) []]) [] [] [] hcx
          (obs := [(oC148_0 a0), .eq (((F75_1 a0) : Int) != 0) false, .eq (decide ((a1 : Int) < 1)) false, .eq (decide ((a1 : Int) > 1099511627776)) false, .call 115 [(iv a0.1), (iv a1)] [] (iv (F115 a0.1 a1)) [], .call 116 [(iv a0.2), (iv a1)] [] (iv (F116 a0.2 a1)) [], .call 78 [(iv (F115 a0.1 a1)), (iv (F116 a0.2 a1))] [] (.t [(.a (k2 (F78 (F115 a0.1 a1) (F116 a0.2 a1)).1)), (iv (F78 (F115 a0.1 a1) (F116 a0.2 a1)).2)]) []]) (by kernel_rfl) ⟨(C75_1 a0), h0, h1, h2, (C115 a0.1 a1  (by (try simp only [List.length_append, List.length_cons, List.length_nil, Int.toNat_zero]); omega)), (C116 a0.2 a1  (by (try simp only [List.length_append, List.length_cons, List.length_nil, Int.toNat_zero]); omega)), (C78 (F115 a0.1 a1) (F116 a0.2 a1)), trivial⟩

/-- api.Span, as cells -/
def c32 (x : Int × Int) : List SV := [(iv x.1), (iv x.2)]
theorem c32_len (x : Int × Int) : (c32 x).length = 2 := rfl

noncomputable def B75_L_0 : Code := (loopAtD [1, 0, 1] [] (Try.f75.body.getD .skip) []).1
noncomputable def K75_L_0 : List K := (loopAtD [1, 0, 1] [] (Try.f75.body.getD .skip) []).2

/-- a round of loop 0 of facet/span.check; the variables: v1 = s7 -/
def S75_L_0 (a0 : List (Int × Int)) : Int → (Int) ⊕ (Int)
  | v1 =>
   (bif (decide ((v1 : Int) < ((a0.length : Nat) : Int))) then
    (bif (!(F102 (a0.getD (Int.toNat v1) default))) then
     (.inr 1)
    else
     (.inl (v1 + 1)))
   else
    (.inr 0))

set_option maxHeartbeats 4000000 in
theorem L75_L_0 (a0 : List (Int × Int)) (l0 : a0.length ≤ 2 ^ 40) {cx : Cx} (hcx : cx.base = 1) : ∀ (n : Nat) (v1 : Int), 0 ≤ v1 → Int.toNat (((a0.length : Nat) : Int) - v1) < n → Aw.Good Try.prog none 9 (bodyPost Try.prog Try.f75 (RR cx (iv (loopF (S75_L_0 a0) n v1)) [] [])) cx [] (.l B75_L_0 n :: K75_L_0) ⟨[.u, .u, .u, .u, .u, (.s 0 0 a0.length 2), (iv ((a0.length : Nat) : Int)), (iv v1), .u, .u, .u, .u, .u, .u, .u], [(.live false true (flat c32 a0))]⟩ := by
  intro n
  induction n with
  | zero => intro v1 hi hn; exact absurd hn (Nat.not_lt_zero _)
  | succ n ih =>
    intro v1 hi hn
    refine good_round ?_
    cases h0 : (decide ((v1 : Int) < ((a0.length : Nat) : Int))) with
    | true =>
      cases h1 : (!(F102 (a0.getD (Int.toNat v1) default))) with
      | true =>
        have q0 := of_decide_eq_true h0
        have e : S75_L_0 a0 v1 = (.inr 1) := by simp only [S75_L_0, h0, h1, cond_true, cond_false]
        rw [show loopF (S75_L_0 a0) (n + 1) v1 = thenF (S75_L_0 a0) n (S75_L_0 a0 v1) from rfl, e]
        exact ret_of (T := T0) hT hm (f := 5000) (orc := [.d true, .ld (k2 (a0.getD (Int.toNat v1) default)), .call [] (.v (.bool (F102 (a0.getD (Int.toNat v1) default)))) [], .d true]) [] [] [] hcx
          (obs := [.eq (decide ((v1 : Int) < ((a0.length : Nat) : Int))) true, .pr (0 ≤ (v1 : Int) ∧ (v1 : Int) < ((a0.length : Nat) : Int)), .pr (((((flat c32 a0)).drop (0 + Int.toNat v1 * 2)).take 2) = (k2 (a0.getD (Int.toNat v1) default))), .call 102 [(.a (k2 (a0.getD (Int.toNat v1) default)))] [] (.v (.bool (F102 (a0.getD (Int.toNat v1) default)))) [], .eq (!(F102 (a0.getD (Int.toNat v1) default))) true]) (by kernel_rfl) ⟨h0, (show 0 ≤ (v1 : Int) ∧ (v1 : Int) < ((a0.length : Nat) : Int) from by first | omega | (rw [W_eq] <;> omega) | exact u64_nn _), (ld_part c32_len default a0 v1 0 2 (by omega) (by decide) (by omega) rfl), (C102 (a0.getD (Int.toNat v1) default)), h1, trivial⟩
      | false =>
        have q0 := of_decide_eq_true h0
        have e : S75_L_0 a0 v1 = (.inl (v1 + 1)) := by simp only [S75_L_0, h0, h1, cond_true, cond_false]
        rw [loopF_inl e]
        refine back_of (T := T0) hT hm (f := 5000) (orc := [.d true, .ld (k2 (a0.getD (Int.toNat v1) default)), .call [] (.v (.bool (F102 (a0.getD (Int.toNat v1) default)))) [], .d false]) [] [5, 6, 7] [] hcx (body := B75_L_0) (m := n) (k' := K75_L_0) (s' := ⟨[.u, .u, .u, .u, .u, (.s 0 0 a0.length 2), (iv ((a0.length : Nat) : Int)), (iv (W (v1 + 1))), .u, .u, .u, .u, .u, .u, .u], [(.live false true (flat c32 a0))]⟩)
          (obs := [.eq (decide ((v1 : Int) < ((a0.length : Nat) : Int))) true, .pr (0 ≤ (v1 : Int) ∧ (v1 : Int) < ((a0.length : Nat) : Int)), .pr (((((flat c32 a0)).drop (0 + Int.toNat v1 * 2)).take 2) = (k2 (a0.getD (Int.toNat v1) default))), .call 102 [(.a (k2 (a0.getD (Int.toNat v1) default)))] [] (.v (.bool (F102 (a0.getD (Int.toNat v1) default)))) [], .eq (!(F102 (a0.getD (Int.toNat v1) default))) false]) (by kernel_rfl) ⟨h0, (show 0 ≤ (v1 : Int) ∧ (v1 : Int) < ((a0.length : Nat) : Int) from by first | omega | (rw [W_eq] <;> omega) | exact u64_nn _), (ld_part c32_len default a0 v1 0 2 (by omega) (by decide) (by omega) rfl), (C102 (a0.getD (Int.toNat v1) default)), h1, trivial⟩ ?_
        have z0 : (W (v1 + 1)) = (v1 + 1) := W_eq (by omega) (by omega)
        rw [z0]
        exact ih (v1 + 1) (by (try simp only [List.length_append, List.length_cons, List.length_nil, Int.toNat_zero]); omega) (by (try simp only [List.length_append, List.length_cons, List.length_nil, Int.toNat_zero]); omega)
    | false =>
      have q0 := of_decide_eq_false h0
      have e : S75_L_0 a0 v1 = (.inr 0) := by simp only [S75_L_0, h0, cond_true, cond_false]
      rw [show loopF (S75_L_0 a0) (n + 1) v1 = thenF (S75_L_0 a0) n (S75_L_0 a0 v1) from rfl, e]
      exact ret_of (T := T0) hT hm (f := 5000) (orc := [.d false]) [] [] [] hcx
        (obs := [.eq (decide ((v1 : Int) < ((a0.length : Nat) : Int))) false]) (by kernel_rfl) ⟨h0, trivial⟩

/-- facet/span.check at ('L',) -/
def F75_L (a0 : List (Int × Int)) : Int :=
  (loopF (S75_L_0 a0) (Int.toNat (((a0.length : Nat) : Int) - 0) + 1) 0)

theorem C75_L (a0 : List (Int × Int)) (l0 : a0.length ≤ 2 ^ 40) : Con Try.prog 75 [(.s 0 0 a0.length 2)] [(.live false true (flat c32 a0))] (iv (F75_L a0)) [] := by
  have e : (F75_L a0) = (loopF (S75_L_0 a0) (Int.toNat (((a0.length : Nat) : Int) - 0) + 1) 0) := by simp only [F75_L]
  rw [e]
  refine con_of (n := 9) Try.func75 rfl (ent Try.func75 (by kernel_rfl) rfl) (by show 1 ≤ Try.f75.ntmps; decide) (by kernel_rfl) ⟨rfl, trivial⟩ (fun cx hcx => ?_)
  refine enter_of (T := T0) hT hm (f := 5000) (orc := []) [] [5, 6, 7] [] hcx (body := B75_L_0) (k' := K75_L_0) (s' := ⟨[.u, .u, .u, .u, .u, (.s 0 0 a0.length 2), (iv ((a0.length : Nat) : Int)), (iv 0), .u, .u, .u, .u, .u, .u, .u], [(.live false true (flat c32 a0))]⟩)
    (obs := []) (by kernel_rfl) trivial ⟨Int.toNat (((a0.length : Nat) : Int) - 0) + 1, ?_⟩
  exact L75_L_0 a0 l0 hcx (Int.toNat (((a0.length : Nat) : Int) - 0) + 1) 0 (by (try simp only [List.length_append, List.length_cons, List.length_nil, Int.toNat_zero]); omega) (by (try simp only [List.length_append, List.length_cons, List.length_nil, Int.toNat_zero]); omega)

noncomputable def B82_L_0 : Code := (loopAtD [1, 1, 1, 0, 1] [] (Try.f82.body.getD .skip) []).1
noncomputable def K82_L_0 : List K := (loopAtD [1, 1, 1, 0, 1] [] (Try.f82.body.getD .skip) []).2

/-- a round of loop 0 of facet/span.total; the variables: v1 = s2, v2 = s3, v3 = s18 -/
def S82_L_0 (a0 : List (Int × Int)) : Int × Int × Int → (Int × Int × Int) ⊕ (Int × Int × Int)
  | (v1, v2, v3) =>
   (bif (decide ((v3 : Int) < ((a0.length : Nat) : Int))) then
    (.inl ((W (v1 + (a0.getD (Int.toNat v3) default).1)), (W (v2 + (a0.getD (Int.toNat v3) default).2)), (v3 + 1)))
   else
    (.inr (v1, v2, 0)))

set_option maxHeartbeats 4000000 in
theorem L82_L_0 (a0 : List (Int × Int)) (l0 : a0.length ≤ 2 ^ 40) {cx : Cx} (hcx : cx.base = 1) : ∀ (n : Nat) (v1 : Int) (v2 : Int) (v3 : Int), 0 ≤ v3 → Int.toNat (((a0.length : Nat) : Int) - v3) < n → Aw.Good Try.prog none 9 (bodyPost Try.prog Try.f82 (RR cx (.t (k3 (loopF (S82_L_0 a0) n (v1, v2, v3)))) [] [])) cx [] (.l B82_L_0 n :: K82_L_0) ⟨[.u, .u, (iv v1), (iv v2), .u, .u, .u, .u, .u, .u, .u, .u, .u, .u, .u, .u, (.s 0 0 a0.length 2), (iv ((a0.length : Nat) : Int)), (iv v3), .u, .u, .u, .u, .u, .u, .u, .u, .u, .u, .u, .u, .u, .u], [(.live false true (flat c32 a0))]⟩ := by
  intro n
  induction n with
  | zero => intro v1 v2 v3 hi hn; exact absurd hn (Nat.not_lt_zero _)
  | succ n ih =>
    intro v1 v2 v3 hi hn
    refine good_round ?_
    cases h0 : (decide ((v3 : Int) < ((a0.length : Nat) : Int))) with
    | true =>
      have q0 := of_decide_eq_true h0
      have e : S82_L_0 a0 (v1, v2, v3) = (.inl ((W (v1 + (a0.getD (Int.toNat v3) default).1)), (W (v2 + (a0.getD (Int.toNat v3) default).2)), (v3 + 1))) := by simp only [S82_L_0, h0, cond_true, cond_false]
      rw [loopF_inl e]
      refine back_of (T := T0) hT hm (f := 5000) (orc := [.d true, .ld (k2 (a0.getD (Int.toNat v3) default))]) [] [2, 3, 16, 17, 18] [] hcx (body := B82_L_0) (m := n) (k' := K82_L_0) (s' := ⟨[.u, .u, (iv (W (v1 + (a0.getD (Int.toNat v3) default).1))), (iv (W (v2 + (a0.getD (Int.toNat v3) default).2))), .u, .u, .u, .u, .u, .u, .u, .u, .u, .u, .u, .u, (.s 0 0 a0.length 2), (iv ((a0.length : Nat) : Int)), (iv (W (v3 + 1))), .u, .u, .u, .u, .u, .u, .u, .u, .u, .u, .u, .u, .u, .u], [(.live false true (flat c32 a0))]⟩)
        (obs := [.eq (decide ((v3 : Int) < ((a0.length : Nat) : Int))) true, .pr (0 ≤ (v3 : Int) ∧ (v3 : Int) < ((a0.length : Nat) : Int)), .pr (((((flat c32 a0)).drop (0 + Int.toNat v3 * 2)).take 2) = (k2 (a0.getD (Int.toNat v3) default)))]) (by kernel_rfl) ⟨h0, (show 0 ≤ (v3 : Int) ∧ (v3 : Int) < ((a0.length : Nat) : Int) from by first | omega | (rw [W_eq] <;> omega) | exact u64_nn _), (ld_part c32_len default a0 v3 0 2 (by omega) (by decide) (by omega) rfl), trivial⟩ ?_
      have z0 : (W (v3 + 1)) = (v3 + 1) := W_eq (by omega) (by omega)
      rw [z0]
      exact ih (W (v1 + (a0.getD (Int.toNat v3) default).1)) (W (v2 + (a0.getD (Int.toNat v3) default).2)) (v3 + 1) (by (try simp only [List.length_append, List.length_cons, List.length_nil, Int.toNat_zero]); omega) (by (try simp only [List.length_append, List.length_cons, List.length_nil, Int.toNat_zero]); omega)
    | false =>
      have q0 := of_decide_eq_false h0
      have e : S82_L_0 a0 (v1, v2, v3) = (.inr (v1, v2, 0)) := by simp only [S82_L_0, h0, cond_true, cond_false]
      rw [show loopF (S82_L_0 a0) (n + 1) (v1, v2, v3) = thenF (S82_L_0 a0) n (S82_L_0 a0 (v1, v2, v3)) from rfl, e]
      exact ret_of (T := T0) hT hm (f := 5000) (orc := [.d false]) [] [] [] hcx
        (obs := [.eq (decide ((v3 : Int) < ((a0.length : Nat) : Int))) false]) (by kernel_rfl) ⟨h0, trivial⟩

/-- facet/span.total at ('L',) -/
def F82_L (a0 : List (Int × Int)) : Int × Int × Int :=
  (bif (decide ((((a0.length : Nat) : Int) : Int) > 10000)) then
   (0, 0, 4)
  else
   (bif (((F75_L a0) : Int) != 0) then
    (0, 0, (F75_L a0))
   else
    (loopF (S82_L_0 a0) (Int.toNat (((a0.length : Nat) : Int) - 0) + 1) (0, 0, 0))))

theorem C82_L (a0 : List (Int × Int)) (l0 : a0.length ≤ 2 ^ 40) : Con Try.prog 82 [(.s 0 0 a0.length 2)] [(.live false true (flat c32 a0))] (.t (k3 (F82_L a0))) [] := by
  cases h0 : (decide ((((a0.length : Nat) : Int) : Int) > 10000)) with
  | true =>
    have q0 := of_decide_eq_true h0
    have e : (F82_L a0) = (0, 0, 4) := by simp only [F82_L, h0, cond_true, cond_false]
    rw [e]
    refine con_of (n := 9) Try.func82 rfl (ent Try.func82 (by kernel_rfl) rfl) (by show 1 ≤ Try.f82.ntmps; decide) (by kernel_rfl) ⟨rfl, trivial⟩ (fun cx hcx => ?_)
    exact ret_of (T := T0) hT hm (f := 5000) (orc := [.d true]) [] [] [] hcx
      (obs := [.eq (decide ((((a0.length : Nat) : Int) : Int) > 10000)) true]) (by kernel_rfl) ⟨h0, trivial⟩
  | false =>
    cases h1 : (((F75_L a0) : Int) != 0) with
    | true =>
      have q0 := of_decide_eq_false h0
      have q1 := bne_iff_ne.1 h1
      have e : (F82_L a0) = (0, 0, (F75_L a0)) := by simp only [F82_L, h0, h1, cond_true, cond_false]
      rw [e]
      refine con_of (n := 9) Try.func82 rfl (ent Try.func82 (by kernel_rfl) rfl) (by show 1 ≤ Try.f82.ntmps; decide) (by kernel_rfl) ⟨rfl, trivial⟩ (fun cx hcx => ?_)
      exact ret_of (T := T0) hT hm (f := 5000) (orc := [.d false, .call [0] (iv (F75_L a0)) [], .d true]) [] [] [] hcx
        (obs := [.eq (decide ((((a0.length : Nat) : Int) : Int) > 10000)) false, .call 75 [(.s 0 0 a0.length 2)] [(.live false true (flat c32 a0))] (iv (F75_L a0)) [], .eq (((F75_L a0) : Int) != 0) true]) (by kernel_rfl) ⟨h0, (C75_L a0 (by (try simp only [List.length_append, List.length_cons, List.length_nil, Int.toNat_zero]); omega)), h1, trivial⟩
    | false =>
      have q0 := of_decide_eq_false h0
      have q1 := bne_eq_false_iff_eq.1 h1
      have e : (F82_L a0) = (loopF (S82_L_0 a0) (Int.toNat (((a0.length : Nat) : Int) - 0) + 1) (0, 0, 0)) := by simp only [F82_L, h0, h1, cond_true, cond_false]
      rw [e]
      refine con_of (n := 9) Try.func82 rfl (ent Try.func82 (by kernel_rfl) rfl) (by show 1 ≤ Try.f82.ntmps; decide) (by kernel_rfl) ⟨rfl, trivial⟩ (fun cx hcx => ?_)
      refine enter_of (T := T0) hT hm (f := 5000) (orc := [.d false, .call [0] (iv (F75_L a0)) [], .d false]) [] [2, 3, 16, 17, 18] [] hcx (body := B82_L_0) (k' := K82_L_0) (s' := ⟨[.u, .u, (iv 0), (iv 0), .u, .u, .u, .u, .u, .u, .u, .u, .u, .u, .u, .u, (.s 0 0 a0.length 2), (iv ((a0.length : Nat) : Int)), (iv 0), .u, .u, .u, .u, .u, .u, .u, .u, .u, .u, .u, .u, .u, .u], [(.live false true (flat c32 a0))]⟩)
        (obs := [.eq (decide ((((a0.length : Nat) : Int) : Int) > 10000)) false, .call 75 [(.s 0 0 a0.length 2)] [(.live false true (flat c32 a0))] (iv (F75_L a0)) [], .eq (((F75_L a0) : Int) != 0) false]) (by kernel_rfl) ⟨h0, (C75_L a0 (by (try simp only [List.length_append, List.length_cons, List.length_nil, Int.toNat_zero]); omega)), h1, trivial⟩ ⟨Int.toNat (((a0.length : Nat) : Int) - 0) + 1, ?_⟩
      exact L82_L_0 a0 l0 hcx (Int.toNat (((a0.length : Nat) : Int) - 0) + 1) 0 0 0 (by (try simp only [List.length_append, List.length_cons, List.length_nil, Int.toNat_zero]); omega) (by (try simp only [List.length_append, List.length_cons, List.length_nil, Int.toNat_zero]); omega)

/-- facet/span.Sum at ('L',) -/
def F44_L (a0 : List (Int × Int)) : (Int × Int) × Int :=
  (bif (((F82_L a0).2.2 : Int) != 0) then
   ((0, 0), (F82_L a0).2.2)
  else
   ((F78 (F82_L a0).1 (F82_L a0).2.1).1, (F78 (F82_L a0).1 (F82_L a0).2.1).2))

theorem C44_L (a0 : List (Int × Int)) (l0 : a0.length ≤ 2 ^ 40) : Con Try.prog 44 [(.s 0 0 a0.length 2)] [(.live false true (flat c32 a0))] (.t [(.a (k2 (F44_L a0).1)), (iv (F44_L a0).2)]) [] := by
  cases h0 : (((F82_L a0).2.2 : Int) != 0) with
  | true =>
    have q0 := bne_iff_ne.1 h0
    have e : (F44_L a0) = ((0, 0), (F82_L a0).2.2) := by simp only [F44_L, h0, cond_true, cond_false]
    rw [e]
    refine con_of (n := 9) Try.func44 rfl (ent Try.func44 (by kernel_rfl) rfl) (by show 1 ≤ Try.f44.ntmps; decide) (by kernel_rfl) ⟨rfl, trivial⟩ (fun cx hcx => ?_)
    exact ret_of (T := T0) hT hm (f := 5000) (orc := [.call [0] (.t (k3 (F82_L a0))) [], .d true]) [] [] [] hcx
      (obs := [.call 82 [(.s 0 0 a0.length 2)] [(.live false true (flat c32 a0))] (.t (k3 (F82_L a0))) [], .eq (((F82_L a0).2.2 : Int) != 0) true]) (by kernel_rfl) ⟨(C82_L a0 (by (try simp only [List.length_append, List.length_cons, List.length_nil, Int.toNat_zero]); omega)), h0, trivial⟩
  | false =>
    have q0 := bne_eq_false_iff_eq.1 h0
    have e : (F44_L a0) = ((F78 (F82_L a0).1 (F82_L a0).2.1).1, (F78 (F82_L a0).1 (F82_L a0).2.1).2) := by simp only [F44_L, h0, cond_true, cond_false]
    rw [e]
    refine con_of (n := 9) Try.func44 rfl (ent Try.func44 (by kernel_rfl) rfl) (by show 1 ≤ Try.f44.ntmps; decide) (by kernel_rfl) ⟨rfl, trivial⟩ (fun cx hcx => ?_)
    exact ret_of (T := T0) hT hm (f := 5000) (orc := [.call [0] (.t (k3 (F82_L a0))) [], .d false, .call [] (.t [(.a (k2 (F78 (F82_L a0).1 (F82_L a0).2.1).1)), (iv (F78 (F82_L a0).1 (F82_L a0).2.1).2)]) []]) [] [] [] hcx
      (obs := [.call 82 [(.s 0 0 a0.length 2)] [(.live false true (flat c32 a0))] (.t (k3 (F82_L a0))) [], .eq (((F82_L a0).2.2 : Int) != 0) false, .call 78 [(iv (F82_L a0).1), (iv (F82_L a0).2.1)] [] (.t [(.a (k2 (F78 (F82_L a0).1 (F82_L a0).2.1).1)), (iv (F78 (F82_L a0).1 (F82_L a0).2.1).2)]) []]) (by kernel_rfl) ⟨(C82_L a0 (by (try simp only [List.length_append, List.length_cons, List.length_nil, Int.toNat_zero]); omega)), h0, (C78 (F82_L a0).1 (F82_L a0).2.1), trivial⟩

/-- facet/span.Mean at ('L',) -/
def F90_L (a0 : List (Int × Int)) : (Int × Int) × Int :=
  (bif (((F82_L a0).2.2 : Int) != 0) then
   ((0, 0), (F82_L a0).2.2)
  else
   (bif ((((a0.length : Nat) : Int) : Int) == 0) then
    ((0, 0), 1)
   else
    ((F78 (F115 (F82_L a0).1 ((a0.length : Nat) : Int)) (F116 (F82_L a0).2.1 ((a0.length : Nat) : Int))).1, (F78 (F115 (F82_L a0).1 ((a0.length : Nat) : Int)) (F116 (F82_L a0).2.1 ((a0.length : Nat) : Int))).2)))

noncomputable def oC90_L_0 (a0 : List (Int × Int)) : Ob := .call 82 [(.s 0 0 a0.length 2)] [(.live false true (flat c32 a0))] (.t (k3 (F82_L a0))) []
theorem C90_L (a0 : List (Int × Int)) (l0 : a0.length ≤ 2 ^ 40) : Con Try.prog 90 [(.s 0 0 a0.length 2)] [(.live false true (flat c32 a0))] (.t [(.a (k2 (F90_L a0).1)), (iv (F90_L a0).2)]) [] := by
  cases h0 : (((F82_L a0).2.2 : Int) != 0) with
  | true =>
    have q0 := bne_iff_ne.1 h0
    have e : (F90_L a0) = ((0, 0), (F82_L a0).2.2) := by simp only [F90_L, h0, cond_true, cond_false]
    rw [e]
    refine con_of (n := 9) Try.func90 rfl (ent Try.func90 (by kernel_rfl) rfl) (by show 1 ≤ Try.f90.ntmps; decide) (by kernel_rfl) ⟨rfl, trivial⟩ (fun cx hcx => ?_)
    exact ret_of (T := T0) hT hm (f := 5000) (orc := [.call [0] (.t (k3 (F82_L a0))) [], .d true]) [] [] [] hcx
      (obs := [(oC90_L_0 a0), .eq (((F82_L a0).2.2 : Int) != 0) true]) (by kernel_rfl) ⟨(C82_L a0 (by (try simp only [List.length_append, List.length_cons, List.length_nil, Int.toNat_zero]); omega)), h0, trivial⟩
  | false =>
    cases h1 : ((((a0.length : Nat) : Int) : Int) == 0) with
    | true =>
      have q0 := bne_eq_false_iff_eq.1 h0
      have q1 := eq_of_beq h1
      have e : (F90_L a0) = ((0, 0), 1) := by simp only [F90_L, h0, h1, cond_true, cond_false]
      rw [e]
      refine con_of (n := 9) Try.func90 rfl (ent Try.func90 (by kernel_rfl) rfl) (by show 1 ≤ Try.f90.ntmps; decide) (by kernel_rfl) ⟨rfl, trivial⟩ (fun cx hcx => ?_)
      exact ret_of (T := T0) hT hm (f := 5000) (orc := [.call [0] (.t (k3 (F82_L a0))) [], .d false, .d true]) [] [] [] hcx
        (obs := [(oC90_L_0 a0), .eq (((F82_L a0).2.2 : Int) != 0) false, .eq ((((a0.length : Nat) : Int) : Int) == 0) true]) (by kernel_rfl) ⟨(C82_L a0 (by (try simp only [List.length_append, List.length_cons, List.length_nil, Int.toNat_zero]); omega)), h0, h1, trivial⟩
    | false =>
      have q0 := bne_eq_false_iff_eq.1 h0
      have q1 := ne_of_beq_false h1
      have e : (F90_L a0) = ((F78 (F115 (F82_L a0).1 ((a0.length : Nat) : Int)) (F116 (F82_L a0).2.1 ((a0.length : Nat) : Int))).1, (F78 (F115 (F82_L a0).1 ((a0.length : Nat) : Int)) (F116 (F82_L a0).2.1 ((a0.length : Nat) : Int))).2) := by simp only [F90_L, h0, h1, cond_true, cond_false]
      rw [e]
      refine con_of (n := 9) Try.func90 rfl (ent Try.func90 (by kernel_rfl) rfl) (by show 1 ≤ Try.f90.ntmps; decide) (by kernel_rfl) ⟨rfl, trivial⟩ (fun cx hcx => ?_)
      exact ret_of (T := T0) hT hm (f := 5000) (orc := [.call [0] (.t (k3 (F82_L a0))) [], .d false, .d false, .call [] (iv (F115 (F82_L a0).1 ((a0.length : Nat) : Int))) [], .call [] (iv (F116 (F82_L a0).2.1 ((a0.length : Nat) : Int))) [], .call [] (.t [(.a (k2 (F78 (F115 (F82_L a0).1 ((a0.length : Nat) : Int)) (F116 (F82_L a0).2.1 ((a0.length : Nat) : Int))).1)), (iv (F78 (F115 (F82_L a0).1 ((a0.length : Nat) : Int)) (F116 (F82_L a0).2.1 ((a0.length : Nat) : Int))).2)]) []]) [] [] [] hcx
        (obs := [(oC90_L_0 a0), .eq (((F82_L a0).2.2 : Int) != 0) false, .eq ((((a0.length : Nat) : Int) : Int) == 0) false, .call 115 [(iv (F82_L a0).1), (iv ((a0.length : Nat) : Int))] [] (iv (F115 (F82_L a0).1 ((a0.length : Nat) : Int))) [], .call 116 [(iv (F82_L a0).2.1), (iv ((a0.length : Nat) : Int))] [] (iv (F116 (F82_L a0).2.1 ((a0.length : Nat) : Int))) [], .call 78 [(iv (F115 (F82_L a0).1 ((a0.length : Nat) : Int))), (iv (F116 (F82_L a0).2.1 ((a0.length : Nat) : Int)))] [] (.t [(.a (k2 (F78 (F115 (F82_L a0).1 ((a0.length : Nat) : Int)) (F116 (F82_L a0).2.1 ((a0.length : Nat) : Int))).1)), (iv (F78 (F115 (F82_L a0).1 ((a0.length : Nat) : Int)) (F116 (F82_L a0).2.1 ((a0.length : Nat) : Int))).2)]) []]) (by kernel_rfl) ⟨(C82_L a0 (by (try simp only [List.length_append, List.length_cons, List.length_nil, Int.toNat_zero]); omega)), h0, h1, (C115 (F82_L a0).1 ((a0.length : Nat) : Int)  (by (try simp only [List.length_append, List.length_cons, List.length_nil, Int.toNat_zero]); omega)), (C116 (F82_L a0).2.1 ((a0.length : Nat) : Int)  (by (try simp only [List.length_append, List.length_cons, List.length_nil, Int.toNat_zero]); omega)), (C78 (F115 (F82_L a0).1 ((a0.length : Nat) : Int)) (F116 (F82_L a0).2.1 ((a0.length : Nat) : Int))), trivial⟩

/-- facet/span.product -/
def F77 (a0 : Int) (a1 : Int) : Int :=
  (bif ((a0 : Int) != 0) then
   (bif ((a1 : Int) != 0) then
    (bif (decide (((if (a1 : Int) < (W (0 - a1)) then (W (0 - a1)) else a1) : Int) > (W (Int.tdiv 1099511627776 (if (a0 : Int) < (W (0 - a0)) then (W (0 - a0)) else a0))))) then
     (bif (!((decide ((a0 : Int) < 0)) == (decide ((a1 : Int) < 0)))) then
      (-1099511627777)
     else
      1099511627777)
    else
     (W (a0 * a1)))
   else
    (W (a0 * a1)))
  else
   (W (a0 * a1)))

noncomputable def oC77_0 (a0 : Int) (a1 : Int) : Ob := .eq (decide (((if (a1 : Int) < (W (0 - a1)) then (W (0 - a1)) else a1) : Int) > (W (Int.tdiv 1099511627776 (if (a0 : Int) < (W (0 - a0)) then (W (0 - a0)) else a0))))) true
theorem C77 (a0 : Int) (a1 : Int) (ha : -1099511627776 ≤ a0 ∧ a0 ≤ 1099511627776) : Con Try.prog 77 [(iv a0), (iv a1)] [] (iv (F77 a0 a1)) [] := by
  cases h0 : ((a0 : Int) != 0) with
  | true =>
    cases h1 : ((a1 : Int) != 0) with
    | true =>
      cases h2 : (decide (((if (a1 : Int) < (W (0 - a1)) then (W (0 - a1)) else a1) : Int) > (W (Int.tdiv 1099511627776 (if (a0 : Int) < (W (0 - a0)) then (W (0 - a0)) else a0))))) with
      | true =>
        cases h3 : (!((decide ((a0 : Int) < 0)) == (decide ((a1 : Int) < 0)))) with
        | true =>
          have q0 := bne_iff_ne.1 h0
          have q1 := bne_iff_ne.1 h1
          have q2 := of_decide_eq_true h2
          have e : (F77 a0 a1) = (-1099511627777) := by simp only [F77, h0, h1, h2, h3, cond_true, cond_false]
          rw [e]
          refine con_of (n := 9) Try.func77 rfl (ent Try.func77 (by kernel_rfl) rfl) (by show 2 ≤ Try.f77.ntmps; decide) (by kernel_rfl) trivial (fun cx hcx => ?_)
          exact ret_of (T := T0) hT hm (f := 5000) (orc := [.d true, .d true, .d true, .d true]) [] [] [] hcx
            (obs := [.eq ((a0 : Int) != 0) true, .eq ((a1 : Int) != 0) true, .pr (((if (a0 : Int) < (W (0 - a0)) then (W (0 - a0)) else a0) : Int) ≠ 0), (oC77_0 a0 a1), .eq (!((decide ((a0 : Int) < 0)) == (decide ((a1 : Int) < 0)))) true]) (by kernel_rfl) ⟨h0, h1, (show ((if (a0 : Int) < (W (0 - a0)) then (W (0 - a0)) else a0) : Int) ≠ 0 from by (have hw := W_eq (n := 0 - a0) (by omega) (by omega); rw [hw]; split <;> omega)), h2, h3, trivial⟩
        | false =>
          have q0 := bne_iff_ne.1 h0
          have q1 := bne_iff_ne.1 h1
          have q2 := of_decide_eq_true h2
          have e : (F77 a0 a1) = 1099511627777 := by simp only [F77, h0, h1, h2, h3, cond_true, cond_false]
          rw [e]
          refine con_of (n := 9) Try.func77 rfl (ent Try.func77 (by kernel_rfl) rfl) (by show 2 ≤ Try.f77.ntmps; decide) (by kernel_rfl) trivial (fun cx hcx => ?_)
          exact ret_of (T := T0) hT hm (f := 5000) (orc := [.d true, .d true, .d true, .d false]) [] [] [] hcx
            (obs := [.eq ((a0 : Int) != 0) true, .eq ((a1 : Int) != 0) true, .pr (((if (a0 : Int) < (W (0 - a0)) then (W (0 - a0)) else a0) : Int) ≠ 0), (oC77_0 a0 a1), .eq (!((decide ((a0 : Int) < 0)) == (decide ((a1 : Int) < 0)))) false]) (by kernel_rfl) ⟨h0, h1, (show ((if (a0 : Int) < (W (0 - a0)) then (W (0 - a0)) else a0) : Int) ≠ 0 from by (have hw := W_eq (n := 0 - a0) (by omega) (by omega); rw [hw]; split <;> omega)), h2, h3, trivial⟩
      | false =>
        have q0 := bne_iff_ne.1 h0
        have q1 := bne_iff_ne.1 h1
        have q2 := of_decide_eq_false h2
        have e : (F77 a0 a1) = (W (a0 * a1)) := by simp only [F77, h0, h1, h2, cond_true, cond_false]
        rw [e]
        refine con_of (n := 9) Try.func77 rfl (ent Try.func77 (by kernel_rfl) rfl) (by show 2 ≤ Try.f77.ntmps; decide) (by kernel_rfl) trivial (fun cx hcx => ?_)
        exact ret_of (T := T0) hT hm (f := 5000) (orc := [.d true, .d true, .d false]) [] [] [] hcx
          (obs := [.eq ((a0 : Int) != 0) true, .eq ((a1 : Int) != 0) true, .pr (((if (a0 : Int) < (W (0 - a0)) then (W (0 - a0)) else a0) : Int) ≠ 0), .eq (decide (((if (a1 : Int) < (W (0 - a1)) then (W (0 - a1)) else a1) : Int) > (W (Int.tdiv 1099511627776 (if (a0 : Int) < (W (0 - a0)) then (W (0 - a0)) else a0))))) false]) (by kernel_rfl) ⟨h0, h1, (show ((if (a0 : Int) < (W (0 - a0)) then (W (0 - a0)) else a0) : Int) ≠ 0 from by (have hw := W_eq (n := 0 - a0) (by omega) (by omega); rw [hw]; split <;> omega)), h2, trivial⟩
    | false =>
      have q0 := bne_iff_ne.1 h0
      have q1 := bne_eq_false_iff_eq.1 h1
      have e : (F77 a0 a1) = (W (a0 * a1)) := by simp only [F77, h0, h1, cond_true, cond_false]
      rw [e]
      refine con_of (n := 9) Try.func77 rfl (ent Try.func77 (by kernel_rfl) rfl) (by show 2 ≤ Try.f77.ntmps; decide) (by kernel_rfl) trivial (fun cx hcx => ?_)
      exact ret_of (T := T0) hT hm (f := 5000) (orc := [.d true, .d false]) [] [] [] hcx
        (obs := [.eq ((a0 : Int) != 0) true, .eq ((a1 : Int) != 0) false]) (by kernel_rfl) ⟨h0, h1, trivial⟩
  | false =>
    have q0 := bne_eq_false_iff_eq.1 h0
    have e : (F77 a0 a1) = (W (a0 * a1)) := by simp only [F77, h0, cond_true, cond_false]
    rw [e]
    refine con_of (n := 9) Try.func77 rfl (ent Try.func77 (by kernel_rfl) rfl) (by show 2 ≤ Try.f77.ntmps; decide) (by kernel_rfl) trivial (fun cx hcx => ?_)
    exact ret_of (T := T0) hT hm (f := 5000) (orc := [.d false]) [] [] [] hcx
      (obs := [.eq ((a0 : Int) != 0) false]) (by kernel_rfl) ⟨h0, trivial⟩

/-- api.Charged, as cells -/
def c76 (x : ((Int × Int × Int) × (Int × Int × Int) × Int × Int × Int) × Int) : List SV := [(iv x.1.1.1), (iv x.1.1.2.1), (iv x.1.1.2.2), (iv x.1.2.1.1), (iv x.1.2.1.2.1), (iv x.1.2.1.2.2), (iv x.1.2.2.1), (iv x.1.2.2.2.1), (iv x.1.2.2.2.2), (iv x.2)]
theorem c76_len (x : ((Int × Int × Int) × (Int × Int × Int) × Int × Int × Int) × Int) : (c76 x).length = 10 := rfl

noncomputable def B41_L_0 : Code := (loopAtD [1, 1, 0, 1] [] (Try.f41.body.getD .skip) []).1
noncomputable def K41_L_0 : List K := (loopAtD [1, 1, 0, 1] [] (Try.f41.body.getD .skip) []).2

/-- a round of loop 0 of facet/field.ValidateCharged; the variables: v1 = s11 -/
def S41_L_0 (a0 : List (((Int × Int × Int) × (Int × Int × Int) × Int × Int × Int) × Int)) : Int → (Int) ⊕ (Int)
  | v1 =>
   (bif (decide ((v1 : Int) < ((a0.length : Nat) : Int))) then
    (bif (((F66 (a0.getD (Int.toNat v1) default).1) : Int) != 0) then
     (.inr (F66 (a0.getD (Int.toNat v1) default).1))
    else
     (bif (!(F43 (a0.getD (Int.toNat v1) default).2 (-100) 100)) then
      (.inr 1)
     else
      (.inl (v1 + 1))))
   else
    (.inr 0))

set_option maxHeartbeats 4000000 in
theorem L41_L_0 (a0 : List (((Int × Int × Int) × (Int × Int × Int) × Int × Int × Int) × Int)) (l0 : a0.length ≤ 2 ^ 40) {cx : Cx} (hcx : cx.base = 1) : ∀ (n : Nat) (v1 : Int), 0 ≤ v1 → Int.toNat (((a0.length : Nat) : Int) - v1) < n → Aw.Good Try.prog none 9 (bodyPost Try.prog Try.f41 (RR cx (iv (loopF (S41_L_0 a0) n v1)) [] [])) cx [] (.l B41_L_0 n :: K41_L_0) ⟨[.u, .u, .u, .u, .u, .u, .u, .u, .u, (.s 0 0 a0.length 10), (iv ((a0.length : Nat) : Int)), (iv v1), .u, .u, .u, .u, .u, .u, .u, .u, .u, .u, .u, .u, .u, .u], [(.live false true (flat c76 a0))]⟩ := by
  intro n
  induction n with
  | zero => intro v1 hi hn; exact absurd hn (Nat.not_lt_zero _)
  | succ n ih =>
    intro v1 hi hn
    refine good_round ?_
    cases h0 : (decide ((v1 : Int) < ((a0.length : Nat) : Int))) with
    | true =>
      cases h1 : (((F66 (a0.getD (Int.toNat v1) default).1) : Int) != 0) with
      | true =>
        have q0 := of_decide_eq_true h0
        have q1 := bne_iff_ne.1 h1
        have e : S41_L_0 a0 v1 = (.inr (F66 (a0.getD (Int.toNat v1) default).1)) := by simp only [S41_L_0, h0, h1, cond_true, cond_false]
        rw [show loopF (S41_L_0 a0) (n + 1) v1 = thenF (S41_L_0 a0) n (S41_L_0 a0 v1) from rfl, e]
        exact ret_of (T := T0) hT hm (f := 5000) (orc := [.d true, .ld [(iv (a0.getD (Int.toNat v1) default).1.1.1), (iv (a0.getD (Int.toNat v1) default).1.1.2.1), (iv (a0.getD (Int.toNat v1) default).1.1.2.2), (iv (a0.getD (Int.toNat v1) default).1.2.1.1), (iv (a0.getD (Int.toNat v1) default).1.2.1.2.1), (iv (a0.getD (Int.toNat v1) default).1.2.1.2.2), (iv (a0.getD (Int.toNat v1) default).1.2.2.1), (iv (a0.getD (Int.toNat v1) default).1.2.2.2.1), (iv (a0.getD (Int.toNat v1) default).1.2.2.2.2), (iv (a0.getD (Int.toNat v1) default).2)], .call [] (iv (F66 (a0.getD (Int.toNat v1) default).1)) [], .d true]) [] [] [] hcx
          (obs := [.eq (decide ((v1 : Int) < ((a0.length : Nat) : Int))) true, .pr (0 ≤ (v1 : Int) ∧ (v1 : Int) < ((a0.length : Nat) : Int)), .pr (((((flat c76 a0)).drop (0 + Int.toNat v1 * 10)).take 10) = [(iv (a0.getD (Int.toNat v1) default).1.1.1), (iv (a0.getD (Int.toNat v1) default).1.1.2.1), (iv (a0.getD (Int.toNat v1) default).1.1.2.2), (iv (a0.getD (Int.toNat v1) default).1.2.1.1), (iv (a0.getD (Int.toNat v1) default).1.2.1.2.1), (iv (a0.getD (Int.toNat v1) default).1.2.1.2.2), (iv (a0.getD (Int.toNat v1) default).1.2.2.1), (iv (a0.getD (Int.toNat v1) default).1.2.2.2.1), (iv (a0.getD (Int.toNat v1) default).1.2.2.2.2), (iv (a0.getD (Int.toNat v1) default).2)]), .call 66 [(.a (k9 (a0.getD (Int.toNat v1) default).1))] [] (iv (F66 (a0.getD (Int.toNat v1) default).1)) [], .eq (((F66 (a0.getD (Int.toNat v1) default).1) : Int) != 0) true]) (by kernel_rfl) ⟨h0, (show 0 ≤ (v1 : Int) ∧ (v1 : Int) < ((a0.length : Nat) : Int) from by first | omega | (rw [W_eq] <;> omega) | exact u64_nn _), (ld_part c76_len default a0 v1 0 10 (by omega) (by decide) (by omega) rfl), (C66 (a0.getD (Int.toNat v1) default).1), h1, trivial⟩
      | false =>
        cases h2 : (!(F43 (a0.getD (Int.toNat v1) default).2 (-100) 100)) with
        | true =>
          have q0 := of_decide_eq_true h0
          have q1 := bne_eq_false_iff_eq.1 h1
          have e : S41_L_0 a0 v1 = (.inr 1) := by simp only [S41_L_0, h0, h1, h2, cond_true, cond_false]
          rw [show loopF (S41_L_0 a0) (n + 1) v1 = thenF (S41_L_0 a0) n (S41_L_0 a0 v1) from rfl, e]
          exact ret_of (T := T0) hT hm (f := 5000) (orc := [.d true, .ld [(iv (a0.getD (Int.toNat v1) default).1.1.1), (iv (a0.getD (Int.toNat v1) default).1.1.2.1), (iv (a0.getD (Int.toNat v1) default).1.1.2.2), (iv (a0.getD (Int.toNat v1) default).1.2.1.1), (iv (a0.getD (Int.toNat v1) default).1.2.1.2.1), (iv (a0.getD (Int.toNat v1) default).1.2.1.2.2), (iv (a0.getD (Int.toNat v1) default).1.2.2.1), (iv (a0.getD (Int.toNat v1) default).1.2.2.2.1), (iv (a0.getD (Int.toNat v1) default).1.2.2.2.2), (iv (a0.getD (Int.toNat v1) default).2)], .call [] (iv (F66 (a0.getD (Int.toNat v1) default).1)) [], .d false, .call [] (.v (.bool (F43 (a0.getD (Int.toNat v1) default).2 (-100) 100))) [], .d true]) [] [] [] hcx
            (obs := [.eq (decide ((v1 : Int) < ((a0.length : Nat) : Int))) true, .pr (0 ≤ (v1 : Int) ∧ (v1 : Int) < ((a0.length : Nat) : Int)), .pr (((((flat c76 a0)).drop (0 + Int.toNat v1 * 10)).take 10) = [(iv (a0.getD (Int.toNat v1) default).1.1.1), (iv (a0.getD (Int.toNat v1) default).1.1.2.1), (iv (a0.getD (Int.toNat v1) default).1.1.2.2), (iv (a0.getD (Int.toNat v1) default).1.2.1.1), (iv (a0.getD (Int.toNat v1) default).1.2.1.2.1), (iv (a0.getD (Int.toNat v1) default).1.2.1.2.2), (iv (a0.getD (Int.toNat v1) default).1.2.2.1), (iv (a0.getD (Int.toNat v1) default).1.2.2.2.1), (iv (a0.getD (Int.toNat v1) default).1.2.2.2.2), (iv (a0.getD (Int.toNat v1) default).2)]), .call 66 [(.a (k9 (a0.getD (Int.toNat v1) default).1))] [] (iv (F66 (a0.getD (Int.toNat v1) default).1)) [], .eq (((F66 (a0.getD (Int.toNat v1) default).1) : Int) != 0) false, .call 43 [(iv (a0.getD (Int.toNat v1) default).2), (iv (-100)), (iv 100)] [] (.v (.bool (F43 (a0.getD (Int.toNat v1) default).2 (-100) 100))) [], .eq (!(F43 (a0.getD (Int.toNat v1) default).2 (-100) 100)) true]) (by kernel_rfl) ⟨h0, (show 0 ≤ (v1 : Int) ∧ (v1 : Int) < ((a0.length : Nat) : Int) from by first | omega | (rw [W_eq] <;> omega) | exact u64_nn _), (ld_part c76_len default a0 v1 0 10 (by omega) (by decide) (by omega) rfl), (C66 (a0.getD (Int.toNat v1) default).1), h1, (C43 (a0.getD (Int.toNat v1) default).2 (-100) 100), h2, trivial⟩
        | false =>
          have q0 := of_decide_eq_true h0
          have q1 := bne_eq_false_iff_eq.1 h1
          have e : S41_L_0 a0 v1 = (.inl (v1 + 1)) := by simp only [S41_L_0, h0, h1, h2, cond_true, cond_false]
          rw [loopF_inl e]
          refine back_of (T := T0) hT hm (f := 5000) (orc := [.d true, .ld [(iv (a0.getD (Int.toNat v1) default).1.1.1), (iv (a0.getD (Int.toNat v1) default).1.1.2.1), (iv (a0.getD (Int.toNat v1) default).1.1.2.2), (iv (a0.getD (Int.toNat v1) default).1.2.1.1), (iv (a0.getD (Int.toNat v1) default).1.2.1.2.1), (iv (a0.getD (Int.toNat v1) default).1.2.1.2.2), (iv (a0.getD (Int.toNat v1) default).1.2.2.1), (iv (a0.getD (Int.toNat v1) default).1.2.2.2.1), (iv (a0.getD (Int.toNat v1) default).1.2.2.2.2), (iv (a0.getD (Int.toNat v1) default).2)], .call [] (iv (F66 (a0.getD (Int.toNat v1) default).1)) [], .d false, .call [] (.v (.bool (F43 (a0.getD (Int.toNat v1) default).2 (-100) 100))) [], .d false]) [] [9, 10, 11] [] hcx (body := B41_L_0) (m := n) (k' := K41_L_0) (s' := ⟨[.u, .u, .u, .u, .u, .u, .u, .u, .u, (.s 0 0 a0.length 10), (iv ((a0.length : Nat) : Int)), (iv (W (v1 + 1))), .u, .u, .u, .u, .u, .u, .u, .u, .u, .u, .u, .u, .u, .u], [(.live false true (flat c76 a0))]⟩)
            (obs := [.eq (decide ((v1 : Int) < ((a0.length : Nat) : Int))) true, .pr (0 ≤ (v1 : Int) ∧ (v1 : Int) < ((a0.length : Nat) : Int)), .pr (((((flat c76 a0)).drop (0 + Int.toNat v1 * 10)).take 10) = [(iv (a0.getD (Int.toNat v1) default).1.1.1), (iv (a0.getD (Int.toNat v1) default).1.1.2.1), (iv (a0.getD (Int.toNat v1) default).1.1.2.2), (iv (a0.getD (Int.toNat v1) default).1.2.1.1), (iv (a0.getD (Int.toNat v1) default).1.2.1.2.1), (iv (a0.getD (Int.toNat v1) default).1.2.1.2.2), (iv (a0.getD (Int.toNat v1) default).1.2.2.1), (iv (a0.getD (Int.toNat v1) default).1.2.2.2.1), (iv (a0.getD (Int.toNat v1) default).1.2.2.2.2), (iv (a0.getD (Int.toNat v1) default).2)]), .call 66 [(.a (k9 (a0.getD (Int.toNat v1) default).1))] [] (iv (F66 (a0.getD (Int.toNat v1) default).1)) [], .eq (((F66 (a0.getD (Int.toNat v1) default).1) : Int) != 0) false, .call 43 [(iv (a0.getD (Int.toNat v1) default).2), (iv (-100)), (iv 100)] [] (.v (.bool (F43 (a0.getD (Int.toNat v1) default).2 (-100) 100))) [], .eq (!(F43 (a0.getD (Int.toNat v1) default).2 (-100) 100)) false]) (by kernel_rfl) ⟨h0, (show 0 ≤ (v1 : Int) ∧ (v1 : Int) < ((a0.length : Nat) : Int) from by first | omega | (rw [W_eq] <;> omega) | exact u64_nn _), (ld_part c76_len default a0 v1 0 10 (by omega) (by decide) (by omega) rfl), (C66 (a0.getD (Int.toNat v1) default).1), h1, (C43 (a0.getD (Int.toNat v1) default).2 (-100) 100), h2, trivial⟩ ?_
          have z0 : (W (v1 + 1)) = (v1 + 1) := W_eq (by omega) (by omega)
          rw [z0]
          exact ih (v1 + 1) (by (try simp only [List.length_append, List.length_cons, List.length_nil, Int.toNat_zero]); omega) (by (try simp only [List.length_append, List.length_cons, List.length_nil, Int.toNat_zero]); omega)
    | false =>
      have q0 := of_decide_eq_false h0
      have e : S41_L_0 a0 v1 = (.inr 0) := by simp only [S41_L_0, h0, cond_true, cond_false]
      rw [show loopF (S41_L_0 a0) (n + 1) v1 = thenF (S41_L_0 a0) n (S41_L_0 a0 v1) from rfl, e]
      exact ret_of (T := T0) hT hm (f := 5000) (orc := [.d false]) [] [] [] hcx
        (obs := [.eq (decide ((v1 : Int) < ((a0.length : Nat) : Int))) false]) (by kernel_rfl) ⟨h0, trivial⟩

/-- facet/field.ValidateCharged at ('L',) -/
def F41_L (a0 : List (((Int × Int × Int) × (Int × Int × Int) × Int × Int × Int) × Int)) : Int :=
  (bif (decide ((((a0.length : Nat) : Int) : Int) > 96)) then
   4
  else
   (loopF (S41_L_0 a0) (Int.toNat (((a0.length : Nat) : Int) - 0) + 1) 0))

theorem C41_L (a0 : List (((Int × Int × Int) × (Int × Int × Int) × Int × Int × Int) × Int)) (l0 : a0.length ≤ 2 ^ 40) : Con Try.prog 41 [(.s 0 0 a0.length 10)] [(.live false true (flat c76 a0))] (iv (F41_L a0)) [] := by
  cases h0 : (decide ((((a0.length : Nat) : Int) : Int) > 96)) with
  | true =>
    have q0 := of_decide_eq_true h0
    have e : (F41_L a0) = 4 := by simp only [F41_L, h0, cond_true, cond_false]
    rw [e]
    refine con_of (n := 9) Try.func41 rfl (ent Try.func41 (by kernel_rfl) rfl) (by show 1 ≤ Try.f41.ntmps; decide) (by kernel_rfl) ⟨rfl, trivial⟩ (fun cx hcx => ?_)
    exact ret_of (T := T0) hT hm (f := 5000) (orc := [.d true]) [] [] [] hcx
      (obs := [.eq (decide ((((a0.length : Nat) : Int) : Int) > 96)) true]) (by kernel_rfl) ⟨h0, trivial⟩
  | false =>
    have q0 := of_decide_eq_false h0
    have e : (F41_L a0) = (loopF (S41_L_0 a0) (Int.toNat (((a0.length : Nat) : Int) - 0) + 1) 0) := by simp only [F41_L, h0, cond_true, cond_false]
    rw [e]
    refine con_of (n := 9) Try.func41 rfl (ent Try.func41 (by kernel_rfl) rfl) (by show 1 ≤ Try.f41.ntmps; decide) (by kernel_rfl) ⟨rfl, trivial⟩ (fun cx hcx => ?_)
    refine enter_of (T := T0) hT hm (f := 5000) (orc := [.d false]) [] [9, 10, 11] [] hcx (body := B41_L_0) (k' := K41_L_0) (s' := ⟨[.u, .u, .u, .u, .u, .u, .u, .u, .u, (.s 0 0 a0.length 10), (iv ((a0.length : Nat) : Int)), (iv 0), .u, .u, .u, .u, .u, .u, .u, .u, .u, .u, .u, .u, .u, .u], [(.live false true (flat c76 a0))]⟩)
      (obs := [.eq (decide ((((a0.length : Nat) : Int) : Int) > 96)) false]) (by kernel_rfl) ⟨h0, trivial⟩ ⟨Int.toNat (((a0.length : Nat) : Int) - 0) + 1, ?_⟩
    exact L41_L_0 a0 l0 hcx (Int.toNat (((a0.length : Nat) : Int) - 0) + 1) 0 (by (try simp only [List.length_append, List.length_cons, List.length_nil, Int.toNat_zero]); omega) (by (try simp only [List.length_append, List.length_cons, List.length_nil, Int.toNat_zero]); omega)

end Go.Proofs.Ytopbnnmkdildgaa
