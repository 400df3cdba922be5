/-
  A part of the proofs of the Field laws: what functions of the program compute, and that it is what the statements ask. No premise.
-/
import Derived.Test.YtopbnnmkdildgaaMs0
namespace Go.Proofs.Ytopbnnmkdildgaa
open Go.Proofs Go.Aw Go.RowKit
set_option maxRecDepth 100000
set_option linter.unusedVariables false
set_option linter.unusedSimpArgs false

noncomputable def B47_0 : Code := (loopAtD [1, 1, 0] [] (Try.f47.body.getD .skip) []).1
noncomputable def K47_0 : List K := (loopAtD [1, 1, 0] [] (Try.f47.body.getD .skip) []).2

/-- a round of loop 0 of facet/sound.travel; the variables: v1 = s5 -/
def S47_0 (a0 : Int) (a1 : Int) : Int → (Int) ⊕ (Int)
  | v1 =>
   (bif (decide (((F83 (W (a1 * v1))) : Int) < a0)) then
    (.inl (W (v1 + 1)))
   else
    (.inr v1))

set_option maxHeartbeats 4000000 in
theorem L47_0 (a0 : Int) (a1 : Int) (hq : a0 ≤ 1000000) (hs : 1 ≤ a1 ∧ a1 ≤ 1000) {cx : Cx} (hcx : cx.base = 0) : ∀ (n : Nat) (v1 : Int), (0 ≤ v1) ∧ (v1 ≤ 1000) → Int.toNat (1000 - v1) < n → Aw.Good Try.prog none 9 (bodyPost Try.prog Try.f47 (RR cx (iv (loopF (S47_0 a0 a1) n v1)) [] [])) cx [] (.l B47_0 n :: K47_0) ⟨[(iv a0), (iv a1), .u, .u, .u, (iv v1), .u, .u, .u, .u, .u, .u, .u, .u, .u], []⟩ := by
  intro n
  induction n with
  | zero => intro v1 hi hn; exact absurd hn (Nat.not_lt_zero _)
  | succ n ih =>
    intro v1 hi hn
    refine good_round ?_
    cases h0 : (decide (((F83 (W (a1 * v1))) : Int) < a0)) with
    | true =>
      have q0 := of_decide_eq_true h0
      have hf := trav_f (t := v1) hs (by omega) hq
      have hw := W_eq (n := v1 + 1) (by omega) (by omega)
      have e : S47_0 a0 a1 v1 = (.inl (W (v1 + 1))) := by simp only [S47_0, h0, cond_true, cond_false]
      rw [loopF_inl e]
      refine back_of (T := T0) hT hm (f := 5000) (orc := [.call [] (iv (F83 (W (a1 * v1)))) [], .d true]) [] [0, 1, 5] [] hcx (body := B47_0) (m := n) (k' := K47_0) (s' := ⟨[(iv a0), (iv a1), .u, .u, .u, (iv (W (v1 + 1))), .u, .u, .u, .u, .u, .u, .u, .u, .u], []⟩)
        (obs := [.call 83 [(iv (W (a1 * v1)))] [] (iv (F83 (W (a1 * v1)))) [], .eq (decide (((F83 (W (a1 * v1))) : Int) < a0)) true]) (by kernel_rfl) ⟨(C83 (W (a1 * v1))), h0, trivial⟩ ?_
      exact ih (W (v1 + 1)) (by refine ⟨?_, ?_⟩ <;> (try simp only [List.length_append, List.length_cons, List.length_nil, Int.toNat_zero]) <;> first | omega | simp) (by (try simp only [List.length_append, List.length_cons, List.length_nil, Int.toNat_zero]); omega)
    | false =>
      have q0 := of_decide_eq_false h0
      have hf := trav_f (t := v1) hs (by omega) hq
      have hw := W_eq (n := v1 + 1) (by omega) (by omega)
      have e : S47_0 a0 a1 v1 = (.inr v1) := by simp only [S47_0, h0, cond_true, cond_false]
      rw [show loopF (S47_0 a0 a1) (n + 1) v1 = thenF (S47_0 a0 a1) n (S47_0 a0 a1 v1) from rfl, e]
      exact ret_of (T := T0) hT hm (f := 5000) (orc := [.call [] (iv (F83 (W (a1 * v1)))) [], .d false]) [] [] [] hcx
        (obs := [.call 83 [(iv (W (a1 * v1)))] [] (iv (F83 (W (a1 * v1)))) [], .eq (decide (((F83 (W (a1 * v1))) : Int) < a0)) false]) (by kernel_rfl) ⟨(C83 (W (a1 * v1))), h0, trivial⟩

/-- facet/sound.travel -/
def F47 (a0 : Int) (a1 : Int) : Int :=
  (loopF (S47_0 a0 a1) (Int.toNat (1000 - 0) + 1) 0)

theorem C47 (a0 : Int) (a1 : Int) (hq : a0 ≤ 1000000) (hs : 1 ≤ a1 ∧ a1 ≤ 1000) : Con Try.prog 47 [(iv a0), (iv a1)] [] (iv (F47 a0 a1)) [] := by
  have e : (F47 a0 a1) = (loopF (S47_0 a0 a1) (Int.toNat (1000 - 0) + 1) 0) := by simp only [F47]
  rw [e]
  refine con_of (n := 9) Try.func47 rfl (ent Try.func47 (by kernel_rfl) rfl) (by show 2 ≤ Try.f47.ntmps; decide) (by kernel_rfl) trivial (fun cx hcx => ?_)
  refine enter_of (T := T0) hT hm (f := 5000) (orc := []) [] [0, 1, 5] [] hcx (body := B47_0) (k' := K47_0) (s' := ⟨[(iv a0), (iv a1), .u, .u, .u, (iv 0), .u, .u, .u, .u, .u, .u, .u, .u, .u], []⟩)
    (obs := []) (by kernel_rfl) trivial ⟨Int.toNat (1000 - 0) + 1, ?_⟩
  exact L47_0 a0 a1 hq hs hcx (Int.toNat (1000 - 0) + 1) 0 (by refine ⟨?_, ?_⟩ <;> (try simp only [List.length_append, List.length_cons, List.length_nil, Int.toNat_zero]) <;> first | omega | simp) (by (try simp only [List.length_append, List.length_cons, List.length_nil, Int.toNat_zero]); omega)

noncomputable def B50_0 : Code := (loopAtD [1, 1, 0] [] (Try.f50.body.getD .skip) []).1
noncomputable def K50_0 : List K := (loopAtD [1, 1, 0] [] (Try.f50.body.getD .skip) []).2

/-- a round of loop 0 of facet/facetref08.travel; the variables: v1 = s5 -/
def S50_0 (a0 : Int) (a1 : Int) : Int → (Int) ⊕ (Int)
  | v1 =>
   (bif (decide (((W ((W ((W (a1 * a1)) * v1)) * v1)) : Int) < a0)) then
    (.inl (W (v1 + 1)))
   else
    (.inr v1))

set_option maxHeartbeats 4000000 in
theorem L50_0 (a0 : Int) (a1 : Int) (hq : a0 ≤ 1000000) (hs : 1 ≤ a1 ∧ a1 ≤ 1000) {cx : Cx} (hcx : cx.base = 0) : ∀ (n : Nat) (v1 : Int), (0 ≤ v1) ∧ (v1 ≤ 1000) → Int.toNat (1000 - v1) < n → Aw.Good Try.prog none 9 (bodyPost Try.prog Try.f50 (RR cx (iv (loopF (S50_0 a0 a1) n v1)) [] [])) cx [] (.l B50_0 n :: K50_0) ⟨[(iv a0), (iv a1), .u, .u, .u, (iv v1), .u, .u, .u, .u, .u, .u, .u, .u, .u, .u, .u, .u], []⟩ := by
  intro n
  induction n with
  | zero => intro v1 hi hn; exact absurd hn (Nat.not_lt_zero _)
  | succ n ih =>
    intro v1 hi hn
    refine good_round ?_
    cases h0 : (decide (((W ((W ((W (a1 * a1)) * v1)) * v1)) : Int) < a0)) with
    | true =>
      have q0 := of_decide_eq_true h0
      have hf := trav_r (t := v1) hs (by omega) hq
      have hw := W_eq (n := v1 + 1) (by omega) (by omega)
      have e : S50_0 a0 a1 v1 = (.inl (W (v1 + 1))) := by simp only [S50_0, h0, cond_true, cond_false]
      rw [loopF_inl e]
      refine back_of (T := T0) hT hm (f := 5000) (orc := [.d true]) [] [0, 1, 5] [] hcx (body := B50_0) (m := n) (k' := K50_0) (s' := ⟨[(iv a0), (iv a1), .u, .u, .u, (iv (W (v1 + 1))), .u, .u, .u, .u, .u, .u, .u, .u, .u, .u, .u, .u], []⟩)
        (obs := [.eq (decide (((W ((W ((W (a1 * a1)) * v1)) * v1)) : Int) < a0)) true]) (by kernel_rfl) ⟨h0, trivial⟩ ?_
      exact ih (W (v1 + 1)) (by refine ⟨?_, ?_⟩ <;> (try simp only [List.length_append, List.length_cons, List.length_nil, Int.toNat_zero]) <;> first | omega | simp) (by (try simp only [List.length_append, List.length_cons, List.length_nil, Int.toNat_zero]); omega)
    | false =>
      have q0 := of_decide_eq_false h0
      have hf := trav_r (t := v1) hs (by omega) hq
      have hw := W_eq (n := v1 + 1) (by omega) (by omega)
      have e : S50_0 a0 a1 v1 = (.inr v1) := by simp only [S50_0, h0, cond_true, cond_false]
      rw [show loopF (S50_0 a0 a1) (n + 1) v1 = thenF (S50_0 a0 a1) n (S50_0 a0 a1 v1) from rfl, e]
      exact ret_of (T := T0) hT hm (f := 5000) (orc := [.d false]) [] [] [] hcx
        (obs := [.eq (decide (((W ((W ((W (a1 * a1)) * v1)) * v1)) : Int) < a0)) false]) (by kernel_rfl) ⟨h0, trivial⟩

/-- facet/facetref08.travel -/
def F50 (a0 : Int) (a1 : Int) : Int :=
  (loopF (S50_0 a0 a1) (Int.toNat (1000 - 0) + 1) 0)

theorem C50 (a0 : Int) (a1 : Int) (hq : a0 ≤ 1000000) (hs : 1 ≤ a1 ∧ a1 ≤ 1000) : Con Try.prog 50 [(iv a0), (iv a1)] [] (iv (F50 a0 a1)) [] := by
  have e : (F50 a0 a1) = (loopF (S50_0 a0 a1) (Int.toNat (1000 - 0) + 1) 0) := by simp only [F50]
  rw [e]
  refine con_of (n := 9) Try.func50 rfl (ent Try.func50 (by kernel_rfl) rfl) (by show 2 ≤ Try.f50.ntmps; decide) (by kernel_rfl) trivial (fun cx hcx => ?_)
  refine enter_of (T := T0) hT hm (f := 5000) (orc := []) [] [0, 1, 5] [] hcx (body := B50_0) (k' := K50_0) (s' := ⟨[(iv a0), (iv a1), .u, .u, .u, (iv 0), .u, .u, .u, .u, .u, .u, .u, .u, .u, .u, .u, .u], []⟩)
    (obs := []) (by kernel_rfl) trivial ⟨Int.toNat (1000 - 0) + 1, ?_⟩
  exact L50_0 a0 a1 hq hs hcx (Int.toNat (1000 - 0) + 1) 0 (by refine ⟨?_, ?_⟩ <;> (try simp only [List.length_append, List.length_cons, List.length_nil, Int.toNat_zero]) <;> first | omega | simp) (by (try simp only [List.length_append, List.length_cons, List.length_nil, Int.toNat_zero]); omega)

/-- facet/sound.Travel -/
def F16 (a0 : Int × Int × Int) (a1 : Int × Int × Int) (a2 : Int) : Int × Int :=
  (bif (!(F45 a0)) then
   (0, 1)
  else
   (bif (!(F45 a1)) then
    (0, 1)
   else
    (bif (!(F46 a2)) then
     (0, 1)
    else
     ((F47 (F48 a0 a1) a2), 0))))

theorem C16 (a0 : Int × Int × Int) (a1 : Int × Int × Int) (a2 : Int) : Con Try.prog 16 [(.a (k3 a0)), (.a (k3 a1)), (iv a2)] [] (.t (k2 (F16 a0 a1 a2))) [] := by
  cases h0 : (!(F45 a0)) with
  | true =>
    have e : (F16 a0 a1 a2) = (0, 1) := by simp only [F16, h0, cond_true, cond_false]
    rw [e]
    refine con_of (n := 9) Try.func16 rfl (ent Try.func16 (by kernel_rfl) rfl) (by show 3 ≤ Try.f16.ntmps; decide) (by kernel_rfl) trivial (fun cx hcx => ?_)
    exact ret_of (T := T0) hT hm (f := 5000) (orc := [.call [] (.v (.bool (F45 a0))) [], .d true]) [] [] [] hcx
      (obs := [.call 45 [(.a (k3 a0))] [] (.v (.bool (F45 a0))) [], .eq (!(F45 a0)) true]) (by kernel_rfl) ⟨(C45 a0), h0, trivial⟩
  | false =>
    cases h1 : (!(F45 a1)) with
    | true =>
      have e : (F16 a0 a1 a2) = (0, 1) := by simp only [F16, h0, h1, cond_true, cond_false]
      rw [e]
      refine con_of (n := 9) Try.func16 rfl (ent Try.func16 (by kernel_rfl) rfl) (by show 3 ≤ Try.f16.ntmps; decide) (by kernel_rfl) trivial (fun cx hcx => ?_)
      exact ret_of (T := T0) hT hm (f := 5000) (orc := [.call [] (.v (.bool (F45 a0))) [], .d false, .call [] (.v (.bool (F45 a1))) [], .d true]) [] [] [] hcx
        (obs := [.call 45 [(.a (k3 a0))] [] (.v (.bool (F45 a0))) [], .eq (!(F45 a0)) false, .call 45 [(.a (k3 a1))] [] (.v (.bool (F45 a1))) [], .eq (!(F45 a1)) true]) (by kernel_rfl) ⟨(C45 a0), h0, (C45 a1), h1, trivial⟩
    | false =>
      cases h2 : (!(F46 a2)) with
      | true =>
        have e : (F16 a0 a1 a2) = (0, 1) := by simp only [F16, h0, h1, h2, cond_true, cond_false]
        rw [e]
        refine con_of (n := 9) Try.func16 rfl (ent Try.func16 (by kernel_rfl) rfl) (by show 3 ≤ Try.f16.ntmps; decide) (by kernel_rfl) trivial (fun cx hcx => ?_)
        exact ret_of (T := T0) hT hm (f := 5000) (orc := [.call [] (.v (.bool (F45 a0))) [], .d false, .call [] (.v (.bool (F45 a1))) [], .d false, .call [] (.v (.bool (F46 a2))) [], .d true]) [] [] [] hcx
          (obs := [.call 45 [(.a (k3 a0))] [] (.v (.bool (F45 a0))) [], .eq (!(F45 a0)) false, .call 45 [(.a (k3 a1))] [] (.v (.bool (F45 a1))) [], .eq (!(F45 a1)) false, .call 46 [(iv a2)] [] (.v (.bool (F46 a2))) [], .eq (!(F46 a2)) true]) (by kernel_rfl) ⟨(C45 a0), h0, (C45 a1), h1, (C46 a2), h2, trivial⟩
      | false =>
        have e : (F16 a0 a1 a2) = ((F47 (F48 a0 a1) a2), 0) := by simp only [F16, h0, h1, h2, cond_true, cond_false]
        rw [e]
        refine con_of (n := 9) Try.func16 rfl (ent Try.func16 (by kernel_rfl) rfl) (by show 3 ≤ Try.f16.ntmps; decide) (by kernel_rfl) trivial (fun cx hcx => ?_)
        exact ret_of (T := T0) hT hm (f := 5000) (orc := [.call [] (.v (.bool (F45 a0))) [], .d false, .call [] (.v (.bool (F45 a1))) [], .d false, .call [] (.v (.bool (F46 a2))) [], .d false, .call [] (iv (F48 a0 a1)) [], .call [] (iv (F47 (F48 a0 a1) a2)) []]) [] [] [] hcx
          (obs := [.call 45 [(.a (k3 a0))] [] (.v (.bool (F45 a0))) [], .eq (!(F45 a0)) false, .call 45 [(.a (k3 a1))] [] (.v (.bool (F45 a1))) [], .eq (!(F45 a1)) false, .call 46 [(iv a2)] [] (.v (.bool (F46 a2))) [], .eq (!(F46 a2)) false, .call 48 [(.a (k3 a0)), (.a (k3 a1))] [] (iv (F48 a0 a1)) [], .call 47 [(iv (F48 a0 a1)), (iv a2)] [] (iv (F47 (F48 a0 a1) a2)) []]) (by kernel_rfl) ⟨(C45 a0), h0, (C45 a1), h1, (C46 a2), h2, (C48 a0 a1), (C47 (F48 a0 a1) a2  (tra_f (isp_n h0) (isp_n h1)) (by have := iss_n h2; omega)), trivial⟩

/-- facet/facetref08.Travel -/
def F17 (a0 : Int × Int × Int) (a1 : Int × Int × Int) (a2 : Int) : Int × Int :=
  (bif (!(F36 a1 256)) then
   (0, 1)
  else
   (bif (((F49 a0 a2 0 0) : Int) != 0) then
    (0, (F49 a0 a2 0 0))
   else
    ((F50 (F51 (F52 a0 a1)) a2), 0)))

theorem C17 (a0 : Int × Int × Int) (a1 : Int × Int × Int) (a2 : Int) : Con Try.prog 17 [(.a (k3 a0)), (.a (k3 a1)), (iv a2)] [] (.t (k2 (F17 a0 a1 a2))) [] := by
  cases h0 : (!(F36 a1 256)) with
  | true =>
    have e : (F17 a0 a1 a2) = (0, 1) := by simp only [F17, h0, cond_true, cond_false]
    rw [e]
    refine con_of (n := 9) Try.func17 rfl (ent Try.func17 (by kernel_rfl) rfl) (by show 3 ≤ Try.f17.ntmps; decide) (by kernel_rfl) trivial (fun cx hcx => ?_)
    exact ret_of (T := T0) hT hm (f := 5000) (orc := [.call [] (.v (.bool (F36 a1 256))) [], .d true]) [] [] [] hcx
      (obs := [.call 36 [(.a (k3 a1)), (iv 256)] [] (.v (.bool (F36 a1 256))) [], .eq (!(F36 a1 256)) true]) (by kernel_rfl) ⟨(C36 a1 256), h0, trivial⟩
  | false =>
    cases h1 : (((F49 a0 a2 0 0) : Int) != 0) with
    | true =>
      have q1 := bne_iff_ne.1 h1
      have e : (F17 a0 a1 a2) = (0, (F49 a0 a2 0 0)) := by simp only [F17, h0, h1, cond_true, cond_false]
      rw [e]
      refine con_of (n := 9) Try.func17 rfl (ent Try.func17 (by kernel_rfl) rfl) (by show 3 ≤ Try.f17.ntmps; decide) (by kernel_rfl) trivial (fun cx hcx => ?_)
      exact ret_of (T := T0) hT hm (f := 5000) (orc := [.call [] (.v (.bool (F36 a1 256))) [], .d false, .call [] (iv (F49 a0 a2 0 0)) [], .d true]) [] [] [] hcx
        (obs := [.call 36 [(.a (k3 a1)), (iv 256)] [] (.v (.bool (F36 a1 256))) [], .eq (!(F36 a1 256)) false, .call 49 [(.a (k3 a0)), (iv a2), (iv 0), (iv 0)] [] (iv (F49 a0 a2 0 0)) [], .eq (((F49 a0 a2 0 0) : Int) != 0) true]) (by kernel_rfl) ⟨(C36 a1 256), h0, (C49 a0 a2 0 0), h1, trivial⟩
    | false =>
      have q1 := bne_eq_false_iff_eq.1 h1
      have e : (F17 a0 a1 a2) = ((F50 (F51 (F52 a0 a1)) a2), 0) := by simp only [F17, h0, h1, cond_true, cond_false]
      rw [e]
      refine con_of (n := 9) Try.func17 rfl (ent Try.func17 (by kernel_rfl) rfl) (by show 3 ≤ Try.f17.ntmps; decide) (by kernel_rfl) trivial (fun cx hcx => ?_)
      exact ret_of (T := T0) hT hm (f := 5000) (orc := [.call [] (.v (.bool (F36 a1 256))) [], .d false, .call [] (iv (F49 a0 a2 0 0)) [], .d false, .call [] (.a (k3 (F52 a0 a1))) [], .call [] (iv (F51 (F52 a0 a1))) [], .call [] (iv (F50 (F51 (F52 a0 a1)) a2)) []]) [] [] [] hcx
        (obs := [.call 36 [(.a (k3 a1)), (iv 256)] [] (.v (.bool (F36 a1 256))) [], .eq (!(F36 a1 256)) false, .call 49 [(.a (k3 a0)), (iv a2), (iv 0), (iv 0)] [] (iv (F49 a0 a2 0 0)) [], .eq (((F49 a0 a2 0 0) : Int) != 0) false, .call 52 [(.a (k3 a0)), (.a (k3 a1))] [] (.a (k3 (F52 a0 a1))) [], .call 51 [(.a (k3 (F52 a0 a1)))] [] (iv (F51 (F52 a0 a1))) [], .call 50 [(iv (F51 (F52 a0 a1))), (iv a2)] [] (iv (F50 (F51 (F52 a0 a1)) a2)) []]) (by kernel_rfl) ⟨(C36 a1 256), h0, (C49 a0 a2 0 0), h1, (C52 a0 a1), (C51 (F52 a0 a1)), (C50 (F51 (F52 a0 a1)) a2  (tra_r (ask_p h1).1 (sml_n h0)) (by have := (ask_p h1).2.1; omega)), trivial⟩

/-- facet/sound.first -/
def F54 (a0 : ((Int × Int × Int) × (Int × Int × Int) × Int × Int × Int) × Int × Int) (a1 : Int × Int × Int) (a2 : Int) : Int :=
  (W (a0.2.1 + (F47 (F84 a0.1 a1) a2)))

theorem C54 (a0 : ((Int × Int × Int) × (Int × Int × Int) × Int × Int × Int) × Int × Int) (a1 : Int × Int × Int) (a2 : Int) (hp : POK a0) (hx : bd 256 a1) (hs : 1 ≤ a2 ∧ a2 ≤ 16) : Con Try.prog 54 [(.a [(iv a0.1.1.1), (iv a0.1.1.2.1), (iv a0.1.1.2.2), (iv a0.1.2.1.1), (iv a0.1.2.1.2.1), (iv a0.1.2.1.2.2), (iv a0.1.2.2.1), (iv a0.1.2.2.2.1), (iv a0.1.2.2.2.2), (iv a0.2.1), (iv a0.2.2)]), (.a (k3 a1)), (iv a2)] [] (iv (F54 a0 a1 a2)) [] := by
  have e : (F54 a0 a1 a2) = (W (a0.2.1 + (F47 (F84 a0.1 a1) a2))) := by simp only [F54]
  rw [e]
  refine con_of (n := 9) Try.func54 rfl (ent Try.func54 (by kernel_rfl) rfl) (by show 3 ≤ Try.f54.ntmps; decide) (by kernel_rfl) trivial (fun cx hcx => ?_)
  exact ret_of (T := T0) hT hm (f := 5000) (orc := [.call [] (iv (F84 a0.1 a1)) [], .call [] (iv (F47 (F84 a0.1 a1) a2)) []]) [] [] [] hcx
    (obs := [.call 84 [(.a (k9 a0.1)), (.a (k3 a1))] [] (iv (F84 a0.1 a1)) [], .call 47 [(iv (F84 a0.1 a1)), (iv a2)] [] (iv (F47 (F84 a0.1 a1) a2)) []]) (by kernel_rfl) ⟨(C84 a0.1 a1), (C47 (F84 a0.1 a1) a2  (nef6 hp hx) (by omega)), trivial⟩

/-- facet/sound.First -/
def F19 (a0 : ((Int × Int × Int) × (Int × Int × Int) × Int × Int × Int) × Int × Int) (a1 : Int × Int × Int) (a2 : Int) : Int × Int :=
  (bif (F45 a1) then
   (bif (((F53_1 a0 (F46 a2)) : Int) != 0) then
    (0, (F53_1 a0 (F46 a2)))
   else
    ((F54 a0 a1 a2), 0))
  else
   (bif (((F53_1 a0 false) : Int) != 0) then
    (0, (F53_1 a0 false))
   else
    ((F54 a0 a1 a2), 0)))

noncomputable def oC19_0 (a0 : ((Int × Int × Int) × (Int × Int × Int) × Int × Int × Int) × Int × Int) (a2 : Int) : Ob := .call 53 [(.s 0 0 1 11), (.v (.bool (F46 a2)))] [(.live false false [(iv a0.1.1.1), (iv a0.1.1.2.1), (iv a0.1.1.2.2), (iv a0.1.2.1.1), (iv a0.1.2.1.2.1), (iv a0.1.2.1.2.2), (iv a0.1.2.2.1), (iv a0.1.2.2.2.1), (iv a0.1.2.2.2.2), (iv a0.2.1), (iv a0.2.2)])] (iv (F53_1 a0 (F46 a2))) []
noncomputable def oC19_1 (a0 : ((Int × Int × Int) × (Int × Int × Int) × Int × Int × Int) × Int × Int) (a1 : Int × Int × Int) (a2 : Int) : Ob := .call 54 [(.a [(iv a0.1.1.1), (iv a0.1.1.2.1), (iv a0.1.1.2.2), (iv a0.1.2.1.1), (iv a0.1.2.1.2.1), (iv a0.1.2.1.2.2), (iv a0.1.2.2.1), (iv a0.1.2.2.2.1), (iv a0.1.2.2.2.2), (iv a0.2.1), (iv a0.2.2)]), (.a (k3 a1)), (iv a2)] [] (iv (F54 a0 a1 a2)) []
noncomputable def oC19_2 (a0 : ((Int × Int × Int) × (Int × Int × Int) × Int × Int × Int) × Int × Int) : Ob := .call 53 [(.s 0 0 1 11), (.v (.bool false))] [(.live false false [(iv a0.1.1.1), (iv a0.1.1.2.1), (iv a0.1.1.2.2), (iv a0.1.2.1.1), (iv a0.1.2.1.2.1), (iv a0.1.2.1.2.2), (iv a0.1.2.2.1), (iv a0.1.2.2.2.1), (iv a0.1.2.2.2.2), (iv a0.2.1), (iv a0.2.2)])] (iv (F53_1 a0 false)) []
theorem C19 (a0 : ((Int × Int × Int) × (Int × Int × Int) × Int × Int × Int) × Int × Int) (a1 : Int × Int × Int) (a2 : Int) : Con Try.prog 19 [(.a [(iv a0.1.1.1), (iv a0.1.1.2.1), (iv a0.1.1.2.2), (iv a0.1.2.1.1), (iv a0.1.2.1.2.1), (iv a0.1.2.1.2.2), (iv a0.1.2.2.1), (iv a0.1.2.2.2.1), (iv a0.1.2.2.2.2), (iv a0.2.1), (iv a0.2.2)]), (.a (k3 a1)), (iv a2)] [] (.t (k2 (F19 a0 a1 a2))) [] := by
  cases h0 : (F45 a1) with
  | true =>
    cases h1 : (((F53_1 a0 (F46 a2)) : Int) != 0) with
    | true =>
      have q1 := bne_iff_ne.1 h1
      have e : (F19 a0 a1 a2) = (0, (F53_1 a0 (F46 a2))) := by simp only [F19, h0, h1, cond_true, cond_false]
      rw [e]
      refine con_of (n := 9) Try.func19 rfl (ent Try.func19 (by kernel_rfl) rfl) (by show 3 ≤ Try.f19.ntmps; decide) (by kernel_rfl) trivial (fun cx hcx => ?_)
      exact ret_of (T := T0) hT hm (f := 5000) (orc := [.call [] (.v (.bool (F45 a1))) [], .d true, .call [] (.v (.bool (F46 a2))) [], .call [2] (iv (F53_1 a0 (F46 a2))) [], .d true]) [] [] [] hcx
        (obs := [.call 45 [(.a (k3 a1))] [] (.v (.bool (F45 a1))) [], .eq (F45 a1) true, .call 46 [(iv a2)] [] (.v (.bool (F46 a2))) [], (oC19_0 a0 a2), .eq (((F53_1 a0 (F46 a2)) : Int) != 0) true]) (by kernel_rfl) ⟨(C45 a1), h0, (C46 a2), (C53_1 a0 (F46 a2)), h1, trivial⟩
    | false =>
      have q1 := bne_eq_false_iff_eq.1 h1
      have e : (F19 a0 a1 a2) = ((F54 a0 a1 a2), 0) := by simp only [F19, h0, h1, cond_true, cond_false]
      rw [e]
      refine con_of (n := 9) Try.func19 rfl (ent Try.func19 (by kernel_rfl) rfl) (by show 3 ≤ Try.f19.ntmps; decide) (by kernel_rfl) trivial (fun cx hcx => ?_)
      exact ret_of (T := T0) hT hm (f := 5000) (orc := [.call [] (.v (.bool (F45 a1))) [], .d true, .call [] (.v (.bool (F46 a2))) [], .call [2] (iv (F53_1 a0 (F46 a2))) [], .d false, .call [] (iv (F54 a0 a1 a2)) []]) [] [] [] hcx
        (obs := [.call 45 [(.a (k3 a1))] [] (.v (.bool (F45 a1))) [], .eq (F45 a1) true, .call 46 [(iv a2)] [] (.v (.bool (F46 a2))) [], (oC19_0 a0 a2), .eq (((F53_1 a0 (F46 a2)) : Int) != 0) false, (oC19_1 a0 a1 a2)]) (by kernel_rfl) ⟨(C45 a1), h0, (C46 a2), (C53_1 a0 (F46 a2)), h1, (C54 a0 a1 a2  (ckb_p h1) (by first | exact isp_p h0 | exact absurd (ckb_b h1) (by decide)) (by first | exact iss_p (ckb_b h1) | exact absurd (ckb_b h1) (by decide))), trivial⟩
  | false =>
    cases h1 : (((F53_1 a0 false) : Int) != 0) with
    | true =>
      have q1 := bne_iff_ne.1 h1
      have e : (F19 a0 a1 a2) = (0, (F53_1 a0 false)) := by simp only [F19, h0, h1, cond_true, cond_false]
      rw [e]
      refine con_of (n := 9) Try.func19 rfl (ent Try.func19 (by kernel_rfl) rfl) (by show 3 ≤ Try.f19.ntmps; decide) (by kernel_rfl) trivial (fun cx hcx => ?_)
      exact ret_of (T := T0) hT hm (f := 5000) (orc := [.call [] (.v (.bool (F45 a1))) [], .d false, .call [2] (iv (F53_1 a0 false)) [], .d true]) [] [] [] hcx
        (obs := [.call 45 [(.a (k3 a1))] [] (.v (.bool (F45 a1))) [], .eq (F45 a1) false, (oC19_2 a0), .eq (((F53_1 a0 false) : Int) != 0) true]) (by kernel_rfl) ⟨(C45 a1), h0, (C53_1 a0 false), h1, trivial⟩
    | false =>
      have q1 := bne_eq_false_iff_eq.1 h1
      have e : (F19 a0 a1 a2) = ((F54 a0 a1 a2), 0) := by simp only [F19, h0, h1, cond_true, cond_false]
      rw [e]
      refine con_of (n := 9) Try.func19 rfl (ent Try.func19 (by kernel_rfl) rfl) (by show 3 ≤ Try.f19.ntmps; decide) (by kernel_rfl) trivial (fun cx hcx => ?_)
      exact ret_of (T := T0) hT hm (f := 5000) (orc := [.call [] (.v (.bool (F45 a1))) [], .d false, .call [2] (iv (F53_1 a0 false)) [], .d false, .call [] (iv (F54 a0 a1 a2)) []]) [] [] [] hcx
        (obs := [.call 45 [(.a (k3 a1))] [] (.v (.bool (F45 a1))) [], .eq (F45 a1) false, (oC19_2 a0), .eq (((F53_1 a0 false) : Int) != 0) false, (oC19_1 a0 a1 a2)]) (by kernel_rfl) ⟨(C45 a1), h0, (C53_1 a0 false), h1, (C54 a0 a1 a2  (ckb_p h1) (by first | exact isp_p h0 | exact absurd (ckb_b h1) (by decide)) (by first | exact iss_p (ckb_b h1) | exact absurd (ckb_b h1) (by decide))), trivial⟩

/-- facet/sound.last -/
def F57 (a0 : ((Int × Int × Int) × (Int × Int × Int) × Int × Int × Int) × Int × Int) (a1 : Int × Int × Int) (a2 : Int) : Int :=
  (W (a0.2.1 + (F47 (F87 a0.1 a1) a2)))

theorem C57 (a0 : ((Int × Int × Int) × (Int × Int × Int) × Int × Int × Int) × Int × Int) (a1 : Int × Int × Int) (a2 : Int) (hp : POK a0) (hx : bd 256 a1) (hs : 1 ≤ a2 ∧ a2 ≤ 16) : Con Try.prog 57 [(.a [(iv a0.1.1.1), (iv a0.1.1.2.1), (iv a0.1.1.2.2), (iv a0.1.2.1.1), (iv a0.1.2.1.2.1), (iv a0.1.2.1.2.2), (iv a0.1.2.2.1), (iv a0.1.2.2.2.1), (iv a0.1.2.2.2.2), (iv a0.2.1), (iv a0.2.2)]), (.a (k3 a1)), (iv a2)] [] (iv (F57 a0 a1 a2)) [] := by
  have e : (F57 a0 a1 a2) = (W (a0.2.1 + (F47 (F87 a0.1 a1) a2))) := by simp only [F57]
  rw [e]
  refine con_of (n := 9) Try.func57 rfl (ent Try.func57 (by kernel_rfl) rfl) (by show 3 ≤ Try.f57.ntmps; decide) (by kernel_rfl) trivial (fun cx hcx => ?_)
  exact ret_of (T := T0) hT hm (f := 5000) (orc := [.call [] (iv (F87 a0.1 a1)) [], .call [] (iv (F47 (F87 a0.1 a1) a2)) []]) [] [] [] hcx
    (obs := [.call 87 [(.a (k9 a0.1)), (.a (k3 a1))] [] (iv (F87 a0.1 a1)) [], .call 47 [(iv (F87 a0.1 a1)), (iv a2)] [] (iv (F47 (F87 a0.1 a1) a2)) []]) (by kernel_rfl) ⟨(C87 a0.1 a1), (C47 (F87 a0.1 a1) a2  (faf6 hp hx) (by omega)), trivial⟩

/-- facet/sound.Last -/
def F21 (a0 : ((Int × Int × Int) × (Int × Int × Int) × Int × Int × Int) × Int × Int) (a1 : Int × Int × Int) (a2 : Int) : Int × Int :=
  (bif (F45 a1) then
   (bif (((F53_1 a0 (F46 a2)) : Int) != 0) then
    (0, (F53_1 a0 (F46 a2)))
   else
    ((F57 a0 a1 a2), 0))
  else
   (bif (((F53_1 a0 false) : Int) != 0) then
    (0, (F53_1 a0 false))
   else
    ((F57 a0 a1 a2), 0)))

noncomputable def oC21_0 (a0 : ((Int × Int × Int) × (Int × Int × Int) × Int × Int × Int) × Int × Int) (a2 : Int) : Ob := .call 53 [(.s 0 0 1 11), (.v (.bool (F46 a2)))] [(.live false false [(iv a0.1.1.1), (iv a0.1.1.2.1), (iv a0.1.1.2.2), (iv a0.1.2.1.1), (iv a0.1.2.1.2.1), (iv a0.1.2.1.2.2), (iv a0.1.2.2.1), (iv a0.1.2.2.2.1), (iv a0.1.2.2.2.2), (iv a0.2.1), (iv a0.2.2)])] (iv (F53_1 a0 (F46 a2))) []
noncomputable def oC21_1 (a0 : ((Int × Int × Int) × (Int × Int × Int) × Int × Int × Int) × Int × Int) (a1 : Int × Int × Int) (a2 : Int) : Ob := .call 57 [(.a [(iv a0.1.1.1), (iv a0.1.1.2.1), (iv a0.1.1.2.2), (iv a0.1.2.1.1), (iv a0.1.2.1.2.1), (iv a0.1.2.1.2.2), (iv a0.1.2.2.1), (iv a0.1.2.2.2.1), (iv a0.1.2.2.2.2), (iv a0.2.1), (iv a0.2.2)]), (.a (k3 a1)), (iv a2)] [] (iv (F57 a0 a1 a2)) []
noncomputable def oC21_2 (a0 : ((Int × Int × Int) × (Int × Int × Int) × Int × Int × Int) × Int × Int) : Ob := .call 53 [(.s 0 0 1 11), (.v (.bool false))] [(.live false false [(iv a0.1.1.1), (iv a0.1.1.2.1), (iv a0.1.1.2.2), (iv a0.1.2.1.1), (iv a0.1.2.1.2.1), (iv a0.1.2.1.2.2), (iv a0.1.2.2.1), (iv a0.1.2.2.2.1), (iv a0.1.2.2.2.2), (iv a0.2.1), (iv a0.2.2)])] (iv (F53_1 a0 false)) []
theorem C21 (a0 : ((Int × Int × Int) × (Int × Int × Int) × Int × Int × Int) × Int × Int) (a1 : Int × Int × Int) (a2 : Int) : Con Try.prog 21 [(.a [(iv a0.1.1.1), (iv a0.1.1.2.1), (iv a0.1.1.2.2), (iv a0.1.2.1.1), (iv a0.1.2.1.2.1), (iv a0.1.2.1.2.2), (iv a0.1.2.2.1), (iv a0.1.2.2.2.1), (iv a0.1.2.2.2.2), (iv a0.2.1), (iv a0.2.2)]), (.a (k3 a1)), (iv a2)] [] (.t (k2 (F21 a0 a1 a2))) [] := by
  cases h0 : (F45 a1) with
  | true =>
    cases h1 : (((F53_1 a0 (F46 a2)) : Int) != 0) with
    | true =>
      have q1 := bne_iff_ne.1 h1
      have e : (F21 a0 a1 a2) = (0, (F53_1 a0 (F46 a2))) := by simp only [F21, h0, h1, cond_true, cond_false]
      rw [e]
      refine con_of (n := 9) Try.func21 rfl (ent Try.func21 (by kernel_rfl) rfl) (by show 3 ≤ Try.f21.ntmps; decide) (by kernel_rfl) trivial (fun cx hcx => ?_)
      exact ret_of (T := T0) hT hm (f := 5000) (orc := [.call [] (.v (.bool (F45 a1))) [], .d true, .call [] (.v (.bool (F46 a2))) [], .call [2] (iv (F53_1 a0 (F46 a2))) [], .d true]) [] [] [] hcx
        (obs := [.call 45 [(.a (k3 a1))] [] (.v (.bool (F45 a1))) [], .eq (F45 a1) true, .call 46 [(iv a2)] [] (.v (.bool (F46 a2))) [], (oC21_0 a0 a2), .eq (((F53_1 a0 (F46 a2)) : Int) != 0) true]) (by kernel_rfl) ⟨(C45 a1), h0, (C46 a2), (C53_1 a0 (F46 a2)), h1, trivial⟩
    | false =>
      have q1 := bne_eq_false_iff_eq.1 h1
      have e : (F21 a0 a1 a2) = ((F57 a0 a1 a2), 0) := by simp only [F21, h0, h1, cond_true, cond_false]
      rw [e]
      refine con_of (n := 9) Try.func21 rfl (ent Try.func21 (by kernel_rfl) rfl) (by show 3 ≤ Try.f21.ntmps; decide) (by kernel_rfl) trivial (fun cx hcx => ?_)
      exact ret_of (T := T0) hT hm (f := 5000) (orc := [.call [] (.v (.bool (F45 a1))) [], .d true, .call [] (.v (.bool (F46 a2))) [], .call [2] (iv (F53_1 a0 (F46 a2))) [], .d false, .call [] (iv (F57 a0 a1 a2)) []]) [] [] [] hcx
        (obs := [.call 45 [(.a (k3 a1))] [] (.v (.bool (F45 a1))) [], .eq (F45 a1) true, .call 46 [(iv a2)] [] (.v (.bool (F46 a2))) [], (oC21_0 a0 a2), .eq (((F53_1 a0 (F46 a2)) : Int) != 0) false, (oC21_1 a0 a1 a2)]) (by kernel_rfl) ⟨(C45 a1), h0, (C46 a2), (C53_1 a0 (F46 a2)), h1, (C57 a0 a1 a2  (ckb_p h1) (by first | exact isp_p h0 | exact absurd (ckb_b h1) (by decide)) (by first | exact iss_p (ckb_b h1) | exact absurd (ckb_b h1) (by decide))), trivial⟩
  | false =>
    cases h1 : (((F53_1 a0 false) : Int) != 0) with
    | true =>
      have q1 := bne_iff_ne.1 h1
      have e : (F21 a0 a1 a2) = (0, (F53_1 a0 false)) := by simp only [F21, h0, h1, cond_true, cond_false]
      rw [e]
      refine con_of (n := 9) Try.func21 rfl (ent Try.func21 (by kernel_rfl) rfl) (by show 3 ≤ Try.f21.ntmps; decide) (by kernel_rfl) trivial (fun cx hcx => ?_)
      exact ret_of (T := T0) hT hm (f := 5000) (orc := [.call [] (.v (.bool (F45 a1))) [], .d false, .call [2] (iv (F53_1 a0 false)) [], .d true]) [] [] [] hcx
        (obs := [.call 45 [(.a (k3 a1))] [] (.v (.bool (F45 a1))) [], .eq (F45 a1) false, (oC21_2 a0), .eq (((F53_1 a0 false) : Int) != 0) true]) (by kernel_rfl) ⟨(C45 a1), h0, (C53_1 a0 false), h1, trivial⟩
    | false =>
      have q1 := bne_eq_false_iff_eq.1 h1
      have e : (F21 a0 a1 a2) = ((F57 a0 a1 a2), 0) := by simp only [F21, h0, h1, cond_true, cond_false]
      rw [e]
      refine con_of (n := 9) Try.func21 rfl (ent Try.func21 (by kernel_rfl) rfl) (by show 3 ≤ Try.f21.ntmps; decide) (by kernel_rfl) trivial (fun cx hcx => ?_)
      exact ret_of (T := T0) hT hm (f := 5000) (orc := [.call [] (.v (.bool (F45 a1))) [], .d false, .call [2] (iv (F53_1 a0 false)) [], .d false, .call [] (iv (F57 a0 a1 a2)) []]) [] [] [] hcx
        (obs := [.call 45 [(.a (k3 a1))] [] (.v (.bool (F45 a1))) [], .eq (F45 a1) false, (oC21_2 a0), .eq (((F53_1 a0 false) : Int) != 0) false, (oC21_1 a0 a1 a2)]) (by kernel_rfl) ⟨(C45 a1), h0, (C53_1 a0 false), h1, (C57 a0 a1 a2  (ckb_p h1) (by first | exact isp_p h0 | exact absurd (ckb_b h1) (by decide)) (by first | exact iss_p (ckb_b h1) | exact absurd (ckb_b h1) (by decide))), trivial⟩

/-- facet/facetref08.First -/
def F20 (a0 : ((Int × Int × Int) × (Int × Int × Int) × Int × Int × Int) × Int × Int) (a1 : Int × Int × Int) (a2 : Int) : Int × Int :=
  (bif (((F55 a0) : Int) != 0) then
   (0, (F55 a0))
  else
   (bif (((F49 a1 a2 0 0) : Int) != 0) then
    (0, (F49 a1 a2 0 0))
   else
    ((W (a0.2.1 + (F50 (F56 a0.1 a1) a2))), 0)))

noncomputable def oC20_0 (a0 : ((Int × Int × Int) × (Int × Int × Int) × Int × Int × Int) × Int × Int) : Ob := .call 55 [(.a [(iv a0.1.1.1), (iv a0.1.1.2.1), (iv a0.1.1.2.2), (iv a0.1.2.1.1), (iv a0.1.2.1.2.1), (iv a0.1.2.1.2.2), (iv a0.1.2.2.1), (iv a0.1.2.2.2.1), (iv a0.1.2.2.2.2), (iv a0.2.1), (iv a0.2.2)])] [] (iv (F55 a0)) []
theorem C20 (a0 : ((Int × Int × Int) × (Int × Int × Int) × Int × Int × Int) × Int × Int) (a1 : Int × Int × Int) (a2 : Int) : Con Try.prog 20 [(.a [(iv a0.1.1.1), (iv a0.1.1.2.1), (iv a0.1.1.2.2), (iv a0.1.2.1.1), (iv a0.1.2.1.2.1), (iv a0.1.2.1.2.2), (iv a0.1.2.2.1), (iv a0.1.2.2.2.1), (iv a0.1.2.2.2.2), (iv a0.2.1), (iv a0.2.2)]), (.a (k3 a1)), (iv a2)] [] (.t (k2 (F20 a0 a1 a2))) [] := by
  cases h0 : (((F55 a0) : Int) != 0) with
  | true =>
    have q0 := bne_iff_ne.1 h0
    have e : (F20 a0 a1 a2) = (0, (F55 a0)) := by simp only [F20, h0, cond_true, cond_false]
    rw [e]
    refine con_of (n := 9) Try.func20 rfl (ent Try.func20 (by kernel_rfl) rfl) (by show 3 ≤ Try.f20.ntmps; decide) (by kernel_rfl) trivial (fun cx hcx => ?_)
    exact ret_of (T := T0) hT hm (f := 5000) (orc := [.call [] (iv (F55 a0)) [], .d true]) [] [] [] hcx
      (obs := [(oC20_0 a0), .eq (((F55 a0) : Int) != 0) true]) (by kernel_rfl) ⟨(C55 a0), h0, trivial⟩
  | false =>
    cases h1 : (((F49 a1 a2 0 0) : Int) != 0) with
    | true =>
      have q0 := bne_eq_false_iff_eq.1 h0
      have q1 := bne_iff_ne.1 h1
      have e : (F20 a0 a1 a2) = (0, (F49 a1 a2 0 0)) := by simp only [F20, h0, h1, cond_true, cond_false]
      rw [e]
      refine con_of (n := 9) Try.func20 rfl (ent Try.func20 (by kernel_rfl) rfl) (by show 3 ≤ Try.f20.ntmps; decide) (by kernel_rfl) trivial (fun cx hcx => ?_)
      exact ret_of (T := T0) hT hm (f := 5000) (orc := [.call [] (iv (F55 a0)) [], .d false, .call [] (iv (F49 a1 a2 0 0)) [], .d true]) [] [] [] hcx
        (obs := [(oC20_0 a0), .eq (((F55 a0) : Int) != 0) false, .call 49 [(.a (k3 a1)), (iv a2), (iv 0), (iv 0)] [] (iv (F49 a1 a2 0 0)) [], .eq (((F49 a1 a2 0 0) : Int) != 0) true]) (by kernel_rfl) ⟨(C55 a0), h0, (C49 a1 a2 0 0), h1, trivial⟩
    | false =>
      have q0 := bne_eq_false_iff_eq.1 h0
      have q1 := bne_eq_false_iff_eq.1 h1
      have e : (F20 a0 a1 a2) = ((W (a0.2.1 + (F50 (F56 a0.1 a1) a2))), 0) := by simp only [F20, h0, h1, cond_true, cond_false]
      rw [e]
      refine con_of (n := 9) Try.func20 rfl (ent Try.func20 (by kernel_rfl) rfl) (by show 3 ≤ Try.f20.ntmps; decide) (by kernel_rfl) trivial (fun cx hcx => ?_)
      exact ret_of (T := T0) hT hm (f := 5000) (orc := [.call [] (iv (F55 a0)) [], .d false, .call [] (iv (F49 a1 a2 0 0)) [], .d false, .call [] (iv (F56 a0.1 a1)) [], .call [] (iv (F50 (F56 a0.1 a1) a2)) []]) [] [] [] hcx
        (obs := [(oC20_0 a0), .eq (((F55 a0) : Int) != 0) false, .call 49 [(.a (k3 a1)), (iv a2), (iv 0), (iv 0)] [] (iv (F49 a1 a2 0 0)) [], .eq (((F49 a1 a2 0 0) : Int) != 0) false, .call 56 [(.a (k9 a0.1)), (.a (k3 a1))] [] (iv (F56 a0.1 a1)) [], .call 50 [(iv (F56 a0.1 a1)), (iv a2)] [] (iv (F50 (F56 a0.1 a1) a2)) []]) (by kernel_rfl) ⟨(C55 a0), h0, (C49 a1 a2 0 0), h1, (C56 a0.1 a1), (C50 (F56 a0.1 a1) a2  (ner6 (one_p h0) (ask_p h1).1) (by have := (ask_p h1).2.1; omega)), trivial⟩

/-- facet/facetref08.Last -/
def F22 (a0 : ((Int × Int × Int) × (Int × Int × Int) × Int × Int × Int) × Int × Int) (a1 : Int × Int × Int) (a2 : Int) : Int × Int :=
  (bif (((F55 a0) : Int) != 0) then
   (0, (F55 a0))
  else
   (bif (((F49 a1 a2 0 0) : Int) != 0) then
    (0, (F49 a1 a2 0 0))
   else
    ((W (a0.2.1 + (F50 (F58 a0.1 a1) a2))), 0)))

noncomputable def oC22_0 (a0 : ((Int × Int × Int) × (Int × Int × Int) × Int × Int × Int) × Int × Int) : Ob := .call 55 [(.a [(iv a0.1.1.1), (iv a0.1.1.2.1), (iv a0.1.1.2.2), (iv a0.1.2.1.1), (iv a0.1.2.1.2.1), (iv a0.1.2.1.2.2), (iv a0.1.2.2.1), (iv a0.1.2.2.2.1), (iv a0.1.2.2.2.2), (iv a0.2.1), (iv a0.2.2)])] [] (iv (F55 a0)) []
theorem C22 (a0 : ((Int × Int × Int) × (Int × Int × Int) × Int × Int × Int) × Int × Int) (a1 : Int × Int × Int) (a2 : Int) : Con Try.prog 22 [(.a [(iv a0.1.1.1), (iv a0.1.1.2.1), (iv a0.1.1.2.2), (iv a0.1.2.1.1), (iv a0.1.2.1.2.1), (iv a0.1.2.1.2.2), (iv a0.1.2.2.1), (iv a0.1.2.2.2.1), (iv a0.1.2.2.2.2), (iv a0.2.1), (iv a0.2.2)]), (.a (k3 a1)), (iv a2)] [] (.t (k2 (F22 a0 a1 a2))) [] := by
  cases h0 : (((F55 a0) : Int) != 0) with
  | true =>
    have q0 := bne_iff_ne.1 h0
    have e : (F22 a0 a1 a2) = (0, (F55 a0)) := by simp only [F22, h0, cond_true, cond_false]
    rw [e]
    refine con_of (n := 9) Try.func22 rfl (ent Try.func22 (by kernel_rfl) rfl) (by show 3 ≤ Try.f22.ntmps; decide) (by kernel_rfl) trivial (fun cx hcx => ?_)
    exact ret_of (T := T0) hT hm (f := 5000) (orc := [.call [] (iv (F55 a0)) [], .d true]) [] [] [] hcx
      (obs := [(oC22_0 a0), .eq (((F55 a0) : Int) != 0) true]) (by kernel_rfl) ⟨(C55 a0), h0, trivial⟩
  | false =>
    cases h1 : (((F49 a1 a2 0 0) : Int) != 0) with
    | true =>
      have q0 := bne_eq_false_iff_eq.1 h0
      have q1 := bne_iff_ne.1 h1
      have e : (F22 a0 a1 a2) = (0, (F49 a1 a2 0 0)) := by simp only [F22, h0, h1, cond_true, cond_false]
      rw [e]
      refine con_of (n := 9) Try.func22 rfl (ent Try.func22 (by kernel_rfl) rfl) (by show 3 ≤ Try.f22.ntmps; decide) (by kernel_rfl) trivial (fun cx hcx => ?_)
      exact ret_of (T := T0) hT hm (f := 5000) (orc := [.call [] (iv (F55 a0)) [], .d false, .call [] (iv (F49 a1 a2 0 0)) [], .d true]) [] [] [] hcx
        (obs := [(oC22_0 a0), .eq (((F55 a0) : Int) != 0) false, .call 49 [(.a (k3 a1)), (iv a2), (iv 0), (iv 0)] [] (iv (F49 a1 a2 0 0)) [], .eq (((F49 a1 a2 0 0) : Int) != 0) true]) (by kernel_rfl) ⟨(C55 a0), h0, (C49 a1 a2 0 0), h1, trivial⟩
    | false =>
      have q0 := bne_eq_false_iff_eq.1 h0
      have q1 := bne_eq_false_iff_eq.1 h1
      have e : (F22 a0 a1 a2) = ((W (a0.2.1 + (F50 (F58 a0.1 a1) a2))), 0) := by simp only [F22, h0, h1, cond_true, cond_false]
      rw [e]
      refine con_of (n := 9) Try.func22 rfl (ent Try.func22 (by kernel_rfl) rfl) (by show 3 ≤ Try.f22.ntmps; decide) (by kernel_rfl) trivial (fun cx hcx => ?_)
      exact ret_of (T := T0) hT hm (f := 5000) (orc := [.call [] (iv (F55 a0)) [], .d false, .call [] (iv (F49 a1 a2 0 0)) [], .d false, .call [] (iv (F58 a0.1 a1)) [], .call [] (iv (F50 (F58 a0.1 a1) a2)) []]) [] [] [] hcx
        (obs := [(oC22_0 a0), .eq (((F55 a0) : Int) != 0) false, .call 49 [(.a (k3 a1)), (iv a2), (iv 0), (iv 0)] [] (iv (F49 a1 a2 0 0)) [], .eq (((F49 a1 a2 0 0) : Int) != 0) false, .call 58 [(.a (k9 a0.1)), (.a (k3 a1))] [] (iv (F58 a0.1 a1)) [], .call 50 [(iv (F58 a0.1 a1)), (iv a2)] [] (iv (F50 (F58 a0.1 a1) a2)) []]) (by kernel_rfl) ⟨(C55 a0), h0, (C49 a1 a2 0 0), h1, (C58 a0.1 a1), (C50 (F58 a0.1 a1) a2  (far6 (one_p h0) (ask_p h1).1) (by have := (ask_p h1).2.1; omega)), trivial⟩

/-- facet/facetref08.double -/
def F118 (a0 : Int × Int × Int) : Int × Int × Int :=
  (F117 a0 a0)

theorem C118 (a0 : Int × Int × Int) : Con Try.prog 118 [(.a (k3 a0))] [] (.a (k3 (F118 a0))) [] := by
  have e : (F118 a0) = (F117 a0 a0) := by simp only [F118]
  rw [e]
  refine con_of (n := 9) Try.func118 rfl (ent Try.func118 (by kernel_rfl) rfl) (by show 1 ≤ Try.f118.ntmps; decide) (by kernel_rfl) trivial (fun cx hcx => ?_)
  exact ret_of (T := T0) hT hm (f := 5000) (orc := [.call [] (.a (k3 (F117 a0 a0))) []]) [] [] [] hcx
    (obs := [.call 117 [(.a (k3 a0)), (.a (k3 a0))] [] (.a (k3 (F117 a0 a0))) []]) (by kernel_rfl) ⟨(C117 a0 a0), trivial⟩

noncomputable def B91_0 : Code := (loopAtD [1, 1, 1, 1, 0, 1] [] (Try.f91.body.getD .skip) []).1
noncomputable def K91_0 : List K := (loopAtD [1, 1, 1, 1, 0, 1] [] (Try.f91.body.getD .skip) []).2

/-- a round of loop 0 of facet/facetref08.parts; the variables: v4 = s5, v5 = s6, v6 = s7 -/
def S91_0 (nr : Nat) (a0 : (Int × Int × Int) × (Int × Int × Int) × Int × Int × Int) (a1 : Int) : (List ((Int × Int × Int) × (Int × Int × Int) × Int × Int × Int)) × (List ((Int × Int × Int) × (Int × Int × Int) × Int × Int × Int)) × Int → ((List ((Int × Int × Int) × (Int × Int × Int) × Int × Int × Int)) × (List ((Int × Int × Int) × (Int × Int × Int) × Int × Int × Int)) × Int) ⊕ (List ((Int × Int × Int) × (Int × Int × Int) × Int × Int × Int))
  | (v4, v5, v6) =>
   (bif (decide ((v6 : Int) < ((v5.length : Nat) : Int))) then
    (.inl ((v4 ++ [((F118 (v5.getD (Int.toNat v6) default).1), (F117 (v5.getD (Int.toNat v6) default).1 (v5.getD (Int.toNat v6) default).2.1), (F117 (v5.getD (Int.toNat v6) default).2.2 (v5.getD (Int.toNat v6) default).1)), ((F117 (v5.getD (Int.toNat v6) default).1 (v5.getD (Int.toNat v6) default).2.1), (F118 (v5.getD (Int.toNat v6) default).2.1), (F117 (v5.getD (Int.toNat v6) default).2.1 (v5.getD (Int.toNat v6) default).2.2)), ((F117 (v5.getD (Int.toNat v6) default).2.2 (v5.getD (Int.toNat v6) default).1), (F117 (v5.getD (Int.toNat v6) default).2.1 (v5.getD (Int.toNat v6) default).2.2), (F118 (v5.getD (Int.toNat v6) default).2.2)), ((F117 (v5.getD (Int.toNat v6) default).1 (v5.getD (Int.toNat v6) default).2.1), (F117 (v5.getD (Int.toNat v6) default).2.1 (v5.getD (Int.toNat v6) default).2.2), (F117 (v5.getD (Int.toNat v6) default).2.2 (v5.getD (Int.toNat v6) default).1))]), v5, (v6 + 1)))
   else
    (.inr v4))

/-- facet/facetref08.parts -/
def R91 : Nat → ((Int × Int × Int) × (Int × Int × Int) × Int × Int × Int) → (Int) → List ((Int × Int × Int) × (Int × Int × Int) × Int × Int × Int)
  | 0, _, _ => default
  | nr + 1, a0, a1 =>
  (bif ((a1 : Int) == 0) then
   ([a0] : List ((Int × Int × Int) × (Int × Int × Int) × Int × Int × Int))
  else
   (loopF (S91_0 nr a0 a1) (Int.toNat ((((R91 nr a0 (W (a1 - 1))).length : Nat) : Int) - 0) + 1) (([] : List ((Int × Int × Int) × (Int × Int × Int) × Int × Int × Int)), (R91 nr a0 (W (a1 - 1))), 0)))

def F91 (a0 : (Int × Int × Int) × (Int × Int × Int) × Int × Int × Int) (a1 : Int) : List ((Int × Int × Int) × (Int × Int × Int) × Int × Int × Int) := R91 (Int.toNat a1 + 1) a0 a1

/-! ### The reference's parts: a recursion -/
def quad8 (x : PN) : List PN :=
  [(F118 x.1, F117 x.1 x.2.1, F117 x.2.2 x.1), (F117 x.1 x.2.1, F118 x.2.1, F117 x.2.1 x.2.2),
   (F117 x.2.2 x.1, F117 x.2.1 x.2.2, F118 x.2.2), (F117 x.1 x.2.1, F117 x.2.1 x.2.2, F117 x.2.2 x.1)]
theorem pa_in (nr : Nat) (a0 : PN) (a1 : Int) (l : List PN) : ∀ (f i : Nat) (nx : List PN), l.length - i < f → i ≤ l.length →
    loopF (S91_0 nr a0 a1) f (nx, l, (i : Int)) = nx ++ (l.drop i).flatMap quad8 := by
  intro f
  induction f with
  | zero => intro i nx h; omega
  | succ f ih =>
    intro i nx h hi
    by_cases hlt : i < l.length
    · have hs : S91_0 nr a0 a1 (nx, l, (i : Int)) = .inl (nx ++ quad8 (l.getD i default), l, ((i + 1 : Nat) : Int)) := by
        have : decide ((i : Int) < (l.length : Int)) = true := by simpa using hlt
        simp only [S91_0, this, cond_true, Int.toNat_natCast, quad8]
        rfl
      rw [loopF_inl hs, ih _ _ (by omega) (by omega)]
      have hd : l.drop i = l.getD i default :: l.drop (i + 1) := by
        rw [List.drop_eq_getElem_cons hlt]; simp [List.getD_eq_getElem?_getD, hlt]
      rw [hd, List.flatMap_cons, List.append_assoc]
    · have : decide ((i : Int) < (l.length : Int)) = false := by simpa using hlt
      have hs : S91_0 nr a0 a1 (nx, l, (i : Int)) = .inr nx := by
        simp only [S91_0, this, cond_false]
      rw [loopF_inr hs, List.drop_of_length_le (by omega)]; simp
theorem R8_eq (nr : Nat) (p : PN) (d : Int) : R91 (nr + 1) p d = if d = 0 then [p] else (R91 nr p (W (d - 1))).flatMap quad8 := by
  have := pa_in nr p d (R91 nr p (W (d - 1))) (Int.toNat ((((R91 nr p (W (d - 1))).length : Nat) : Int) - 0) + 1) 0 [] (by omega) (by omega)
  simp only [R91]
  by_cases h : d = 0
  · subst h; rfl
  · rw [if_neg h, show (d == 0) = false from by simpa using h, cond_false]
    simpa using this
theorem quad8_len (l : List PN) : (l.flatMap quad8).length = 4 * l.length := by
  induction l with
  | nil => rfl
  | cons x l ih => rw [List.flatMap_cons, List.length_append, ih]; simp only [quad8, List.length_cons, List.length_nil]; omega
theorem R8_len : ∀ (nr : Nat) (p : PN) (d : Int), 0 ≤ d ∧ d ≤ 3 → Int.toNat d < nr → (R91 nr p d).length = 4 ^ (Int.toNat d)
  | 0, p, d, _, h => by omega
  | nr + 1, p, d, hd, h => by
    rw [R8_eq]
    by_cases h0 : d = 0
    · subst h0; rfl
    · have h1 := pa_d h0 hd
      rw [if_neg h0, quad8_len, R8_len nr p _ h1.1 (by omega), ← h1.2, Nat.pow_succ, Nat.mul_comm]
theorem R8_le (nr : Nat) (p : PN) (d : Int) (hd : 0 ≤ d ∧ d ≤ 3) (h : Int.toNat d < nr) : (R91 nr p d).length ≤ 64 := by
  rw [R8_len nr p d hd h]
  have : Int.toNat d = 0 ∨ Int.toNat d = 1 ∨ Int.toNat d = 2 ∨ Int.toNat d = 3 := by omega
  rcases this with e | e | e | e <;> rw [e] <;> decide


set_option maxHeartbeats 4000000 in
theorem L91_0 (nr : Nat) (a0 : (Int × Int × Int) × (Int × Int × Int) × Int × Int × Int) (a1 : Int) (ha : 0 ≤ a1 ∧ a1 ≤ 3) (hlt : Int.toNat a1 < nr + 1) (ihr : ∀ (a0 : (Int × Int × Int) × (Int × Int × Int) × Int × Int × Int) (a1 : Int) (ha : 0 ≤ a1 ∧ a1 ≤ 3), Int.toNat a1 < nr → Con Try.prog 91 [(.a (k9 a0)), (iv a1)] [] (.s 0 0 (R91 nr a0 a1).length 9) [(.live true true (flat c26 (R91 nr a0 a1)))]) {cx : Cx} (hcx : cx.base = 0) : ∀ (n : Nat) (v4 : List ((Int × Int × Int) × (Int × Int × Int) × Int × Int × Int)) (v5 : List ((Int × Int × Int) × (Int × Int × Int) × Int × Int × Int)) (v6 : Int), (0 ≤ v6) ∧ (v4.length = 4 * Int.toNat v6) ∧ (v6 ≤ v5.length) ∧ (v5.length ≤ 64) → Int.toNat (((v5.length : Nat) : Int) - v6) < n → Aw.Good Try.prog none 9 (bodyPost Try.prog Try.f91 (RR cx (.s 0 0 (loopF (S91_0 nr a0 a1) n (v4, v5, v6)).length 9) [(.live true true (flat c26 (loopF (S91_0 nr a0 a1) n (v4, v5, v6))))] [])) cx [] (.l B91_0 n :: K91_0) ⟨[.u, .u, .u, .u, .u, (.s 0 0 v4.length 9), (.s 1 0 v5.length 9), (iv v6), .u, .u, .u, .u, .u, .u, .u, .u, .u, .u, .u, .u, .u, .u, .u, .u, .u, .u, .u, .u, .u, .u, .u, .u, .u, .u, .u, .u, .u, .u, .u, .u, .u, .u, .u, .u, .u, .u, .u, .u, .u, .u, .u, .u, .u, .u, .u, .u, .u, .u, .u, .u, .u, .u, .u, .u, .u, .u, .u, .u, .u, .u, .u, .u, .u, .u, .u], [(.live true true (flat c26 v4)), (.live true true (flat c26 v5))]⟩ := by
  intro n
  induction n with
  | zero => intro v4 v5 v6 hi hn; exact absurd hn (Nat.not_lt_zero _)
  | succ n ih =>
    intro v4 v5 v6 hi hn
    refine good_round ?_
    cases h0 : (decide ((v6 : Int) < ((v5.length : Nat) : Int))) with
    | true =>
      have q0 := of_decide_eq_true h0
      have e : S91_0 nr a0 a1 (v4, v5, v6) = (.inl ((v4 ++ [((F118 (v5.getD (Int.toNat v6) default).1), (F117 (v5.getD (Int.toNat v6) default).1 (v5.getD (Int.toNat v6) default).2.1), (F117 (v5.getD (Int.toNat v6) default).2.2 (v5.getD (Int.toNat v6) default).1)), ((F117 (v5.getD (Int.toNat v6) default).1 (v5.getD (Int.toNat v6) default).2.1), (F118 (v5.getD (Int.toNat v6) default).2.1), (F117 (v5.getD (Int.toNat v6) default).2.1 (v5.getD (Int.toNat v6) default).2.2)), ((F117 (v5.getD (Int.toNat v6) default).2.2 (v5.getD (Int.toNat v6) default).1), (F117 (v5.getD (Int.toNat v6) default).2.1 (v5.getD (Int.toNat v6) default).2.2), (F118 (v5.getD (Int.toNat v6) default).2.2)), ((F117 (v5.getD (Int.toNat v6) default).1 (v5.getD (Int.toNat v6) default).2.1), (F117 (v5.getD (Int.toNat v6) default).2.1 (v5.getD (Int.toNat v6) default).2.2), (F117 (v5.getD (Int.toNat v6) default).2.2 (v5.getD (Int.toNat v6) default).1))]), v5, (v6 + 1))) := by simp only [S91_0, h0, cond_true, cond_false]
      rw [loopF_inl e]
      refine back_of (T := T0) hT hm (f := 5000) (orc := [.d true, .ld (k3 (v5.getD (Int.toNat v6) default).1), .ld (k3 (v5.getD (Int.toNat v6) default).2.1), .ld (k3 (v5.getD (Int.toNat v6) default).2.2), .call [] (.a (k3 (F117 (v5.getD (Int.toNat v6) default).1 (v5.getD (Int.toNat v6) default).2.1))) [], .call [] (.a (k3 (F117 (v5.getD (Int.toNat v6) default).2.1 (v5.getD (Int.toNat v6) default).2.2))) [], .call [] (.a (k3 (F117 (v5.getD (Int.toNat v6) default).2.2 (v5.getD (Int.toNat v6) default).1))) [], .call [] (.a (k3 (F118 (v5.getD (Int.toNat v6) default).1))) [], .call [] (.a (k3 (F118 (v5.getD (Int.toNat v6) default).2.1))) [], .call [] (.a (k3 (F118 (v5.getD (Int.toNat v6) default).2.2))) []]) [] [5, 6, 7] [9, 1] hcx (body := B91_0) (m := n) (k' := K91_0) (s' := ⟨[.u, .u, .u, .u, .u, (.s 0 0 (v4.length + 4) 9), (.s 1 0 v5.length 9), (iv (W (v6 + 1))), .u, .u, .u, .u, .u, .u, .u, .u, .u, .u, .u, .u, .u, .u, .u, .u, .u, .u, .u, .u, .u, .u, .u, .u, .u, .u, .u, .u, .u, .u, .u, .u, .u, .u, .u, .u, .u, .u, .u, .u, .u, .u, .u, .u, .u, .u, .u, .u, .u, .u, .u, .u, .u, .u, .u, .u, .u, .u, .u, .u, .u, .u, .u, .u, .u, .u, .u], [(.live true true (flat c26 v4 ++ [(iv (F118 (v5.getD (Int.toNat v6) default).1).1), (iv (F118 (v5.getD (Int.toNat v6) default).1).2.1), (iv (F118 (v5.getD (Int.toNat v6) default).1).2.2), (iv (F117 (v5.getD (Int.toNat v6) default).1 (v5.getD (Int.toNat v6) default).2.1).1), (iv (F117 (v5.getD (Int.toNat v6) default).1 (v5.getD (Int.toNat v6) default).2.1).2.1), (iv (F117 (v5.getD (Int.toNat v6) default).1 (v5.getD (Int.toNat v6) default).2.1).2.2), (iv (F117 (v5.getD (Int.toNat v6) default).2.2 (v5.getD (Int.toNat v6) default).1).1), (iv (F117 (v5.getD (Int.toNat v6) default).2.2 (v5.getD (Int.toNat v6) default).1).2.1), (iv (F117 (v5.getD (Int.toNat v6) default).2.2 (v5.getD (Int.toNat v6) default).1).2.2), (iv (F117 (v5.getD (Int.toNat v6) default).1 (v5.getD (Int.toNat v6) default).2.1).1), (iv (F117 (v5.getD (Int.toNat v6) default).1 (v5.getD (Int.toNat v6) default).2.1).2.1), (iv (F117 (v5.getD (Int.toNat v6) default).1 (v5.getD (Int.toNat v6) default).2.1).2.2), (iv (F118 (v5.getD (Int.toNat v6) default).2.1).1), (iv (F118 (v5.getD (Int.toNat v6) default).2.1).2.1), (iv (F118 (v5.getD (Int.toNat v6) default).2.1).2.2), (iv (F117 (v5.getD (Int.toNat v6) default).2.1 (v5.getD (Int.toNat v6) default).2.2).1), (iv (F117 (v5.getD (Int.toNat v6) default).2.1 (v5.getD (Int.toNat v6) default).2.2).2.1), (iv (F117 (v5.getD (Int.toNat v6) default).2.1 (v5.getD (Int.toNat v6) default).2.2).2.2), (iv (F117 (v5.getD (Int.toNat v6) default).2.2 (v5.getD (Int.toNat v6) default).1).1), (iv (F117 (v5.getD (Int.toNat v6) default).2.2 (v5.getD (Int.toNat v6) default).1).2.1), (iv (F117 (v5.getD (Int.toNat v6) default).2.2 (v5.getD (Int.toNat v6) default).1).2.2), (iv (F117 (v5.getD (Int.toNat v6) default).2.1 (v5.getD (Int.toNat v6) default).2.2).1), (iv (F117 (v5.getD (Int.toNat v6) default).2.1 (v5.getD (Int.toNat v6) default).2.2).2.1), (iv (F117 (v5.getD (Int.toNat v6) default).2.1 (v5.getD (Int.toNat v6) default).2.2).2.2), (iv (F118 (v5.getD (Int.toNat v6) default).2.2).1), (iv (F118 (v5.getD (Int.toNat v6) default).2.2).2.1), (iv (F118 (v5.getD (Int.toNat v6) default).2.2).2.2), (iv (F117 (v5.getD (Int.toNat v6) default).1 (v5.getD (Int.toNat v6) default).2.1).1), (iv (F117 (v5.getD (Int.toNat v6) default).1 (v5.getD (Int.toNat v6) default).2.1).2.1), (iv (F117 (v5.getD (Int.toNat v6) default).1 (v5.getD (Int.toNat v6) default).2.1).2.2), (iv (F117 (v5.getD (Int.toNat v6) default).2.1 (v5.getD (Int.toNat v6) default).2.2).1), (iv (F117 (v5.getD (Int.toNat v6) default).2.1 (v5.getD (Int.toNat v6) default).2.2).2.1), (iv (F117 (v5.getD (Int.toNat v6) default).2.1 (v5.getD (Int.toNat v6) default).2.2).2.2), (iv (F117 (v5.getD (Int.toNat v6) default).2.2 (v5.getD (Int.toNat v6) default).1).1), (iv (F117 (v5.getD (Int.toNat v6) default).2.2 (v5.getD (Int.toNat v6) default).1).2.1), (iv (F117 (v5.getD (Int.toNat v6) default).2.2 (v5.getD (Int.toNat v6) default).1).2.2)])), (.live true true (flat c26 v5))]⟩)
        (obs := [.eq (decide ((v6 : Int) < ((v5.length : Nat) : Int))) true, .pr (0 ≤ (v6 : Int) ∧ (v6 : Int) < ((v5.length : Nat) : Int)), .pr (((((flat c26 v5)).drop (0 + Int.toNat v6 * 9 + 0)).take 3) = (k3 (v5.getD (Int.toNat v6) default).1)), .pr (0 ≤ (v6 : Int) ∧ (v6 : Int) < ((v5.length : Nat) : Int)), .pr (((((flat c26 v5)).drop (0 + Int.toNat v6 * 9 + 3)).take 3) = (k3 (v5.getD (Int.toNat v6) default).2.1)), .pr (0 ≤ (v6 : Int) ∧ (v6 : Int) < ((v5.length : Nat) : Int)), .pr (((((flat c26 v5)).drop (0 + Int.toNat v6 * 9 + 6)).take 3) = (k3 (v5.getD (Int.toNat v6) default).2.2)), .call 117 [(.a (k3 (v5.getD (Int.toNat v6) default).1)), (.a (k3 (v5.getD (Int.toNat v6) default).2.1))] [] (.a (k3 (F117 (v5.getD (Int.toNat v6) default).1 (v5.getD (Int.toNat v6) default).2.1))) [], .call 117 [(.a (k3 (v5.getD (Int.toNat v6) default).2.1)), (.a (k3 (v5.getD (Int.toNat v6) default).2.2))] [] (.a (k3 (F117 (v5.getD (Int.toNat v6) default).2.1 (v5.getD (Int.toNat v6) default).2.2))) [], .call 117 [(.a (k3 (v5.getD (Int.toNat v6) default).2.2)), (.a (k3 (v5.getD (Int.toNat v6) default).1))] [] (.a (k3 (F117 (v5.getD (Int.toNat v6) default).2.2 (v5.getD (Int.toNat v6) default).1))) [], .call 118 [(.a (k3 (v5.getD (Int.toNat v6) default).1))] [] (.a (k3 (F118 (v5.getD (Int.toNat v6) default).1))) [], .call 118 [(.a (k3 (v5.getD (Int.toNat v6) default).2.1))] [] (.a (k3 (F118 (v5.getD (Int.toNat v6) default).2.1))) [], .call 118 [(.a (k3 (v5.getD (Int.toNat v6) default).2.2))] [] (.a (k3 (F118 (v5.getD (Int.toNat v6) default).2.2))) [], .pr ((flat c26 v4).length = v4.length * 9 ∧ v4.length + 4 ≤ 2 ^ 40 ∧ (v4.length + 4) * 72 ≤ 2 ^ 47)]) (by kernel_rfl) ⟨h0, (show 0 ≤ (v6 : Int) ∧ (v6 : Int) < ((v5.length : Nat) : Int) from by first | omega | (rw [W_eq] <;> omega) | exact u64_nn _), (ld_part c26_len default v5 v6 0 3 (by omega) (by decide) (by omega) rfl), (show 0 ≤ (v6 : Int) ∧ (v6 : Int) < ((v5.length : Nat) : Int) from by first | omega | (rw [W_eq] <;> omega) | exact u64_nn _), (ld_part c26_len default v5 v6 3 3 (by omega) (by decide) (by omega) rfl), (show 0 ≤ (v6 : Int) ∧ (v6 : Int) < ((v5.length : Nat) : Int) from by first | omega | (rw [W_eq] <;> omega) | exact u64_nn _), (ld_part c26_len default v5 v6 6 3 (by omega) (by decide) (by omega) rfl), (C117 (v5.getD (Int.toNat v6) default).1 (v5.getD (Int.toNat v6) default).2.1), (C117 (v5.getD (Int.toNat v6) default).2.1 (v5.getD (Int.toNat v6) default).2.2), (C117 (v5.getD (Int.toNat v6) default).2.2 (v5.getD (Int.toNat v6) default).1), (C118 (v5.getD (Int.toNat v6) default).1), (C118 (v5.getD (Int.toNat v6) default).2.1), (C118 (v5.getD (Int.toNat v6) default).2.2), (app_ok c26_len (by omega) (by omega)), trivial⟩ ?_
      have z0 : (W (v6 + 1)) = (v6 + 1) := W_eq (by omega) (by omega)
      have z1 : (flat c26 v4 ++ [(iv (F118 (v5.getD (Int.toNat v6) default).1).1), (iv (F118 (v5.getD (Int.toNat v6) default).1).2.1), (iv (F118 (v5.getD (Int.toNat v6) default).1).2.2), (iv (F117 (v5.getD (Int.toNat v6) default).1 (v5.getD (Int.toNat v6) default).2.1).1), (iv (F117 (v5.getD (Int.toNat v6) default).1 (v5.getD (Int.toNat v6) default).2.1).2.1), (iv (F117 (v5.getD (Int.toNat v6) default).1 (v5.getD (Int.toNat v6) default).2.1).2.2), (iv (F117 (v5.getD (Int.toNat v6) default).2.2 (v5.getD (Int.toNat v6) default).1).1), (iv (F117 (v5.getD (Int.toNat v6) default).2.2 (v5.getD (Int.toNat v6) default).1).2.1), (iv (F117 (v5.getD (Int.toNat v6) default).2.2 (v5.getD (Int.toNat v6) default).1).2.2), (iv (F117 (v5.getD (Int.toNat v6) default).1 (v5.getD (Int.toNat v6) default).2.1).1), (iv (F117 (v5.getD (Int.toNat v6) default).1 (v5.getD (Int.toNat v6) default).2.1).2.1), (iv (F117 (v5.getD (Int.toNat v6) default).1 (v5.getD (Int.toNat v6) default).2.1).2.2), (iv (F118 (v5.getD (Int.toNat v6) default).2.1).1), (iv (F118 (v5.getD (Int.toNat v6) default).2.1).2.1), (iv (F118 (v5.getD (Int.toNat v6) default).2.1).2.2), (iv (F117 (v5.getD (Int.toNat v6) default).2.1 (v5.getD (Int.toNat v6) default).2.2).1), (iv (F117 (v5.getD (Int.toNat v6) default).2.1 (v5.getD (Int.toNat v6) default).2.2).2.1), (iv (F117 (v5.getD (Int.toNat v6) default).2.1 (v5.getD (Int.toNat v6) default).2.2).2.2), (iv (F117 (v5.getD (Int.toNat v6) default).2.2 (v5.getD (Int.toNat v6) default).1).1), (iv (F117 (v5.getD (Int.toNat v6) default).2.2 (v5.getD (Int.toNat v6) default).1).2.1), (iv (F117 (v5.getD (Int.toNat v6) default).2.2 (v5.getD (Int.toNat v6) default).1).2.2), (iv (F117 (v5.getD (Int.toNat v6) default).2.1 (v5.getD (Int.toNat v6) default).2.2).1), (iv (F117 (v5.getD (Int.toNat v6) default).2.1 (v5.getD (Int.toNat v6) default).2.2).2.1), (iv (F117 (v5.getD (Int.toNat v6) default).2.1 (v5.getD (Int.toNat v6) default).2.2).2.2), (iv (F118 (v5.getD (Int.toNat v6) default).2.2).1), (iv (F118 (v5.getD (Int.toNat v6) default).2.2).2.1), (iv (F118 (v5.getD (Int.toNat v6) default).2.2).2.2), (iv (F117 (v5.getD (Int.toNat v6) default).1 (v5.getD (Int.toNat v6) default).2.1).1), (iv (F117 (v5.getD (Int.toNat v6) default).1 (v5.getD (Int.toNat v6) default).2.1).2.1), (iv (F117 (v5.getD (Int.toNat v6) default).1 (v5.getD (Int.toNat v6) default).2.1).2.2), (iv (F117 (v5.getD (Int.toNat v6) default).2.1 (v5.getD (Int.toNat v6) default).2.2).1), (iv (F117 (v5.getD (Int.toNat v6) default).2.1 (v5.getD (Int.toNat v6) default).2.2).2.1), (iv (F117 (v5.getD (Int.toNat v6) default).2.1 (v5.getD (Int.toNat v6) default).2.2).2.2), (iv (F117 (v5.getD (Int.toNat v6) default).2.2 (v5.getD (Int.toNat v6) default).1).1), (iv (F117 (v5.getD (Int.toNat v6) default).2.2 (v5.getD (Int.toNat v6) default).1).2.1), (iv (F117 (v5.getD (Int.toNat v6) default).2.2 (v5.getD (Int.toNat v6) default).1).2.2)]) = (flat c26 (v4 ++ [((F118 (v5.getD (Int.toNat v6) default).1), (F117 (v5.getD (Int.toNat v6) default).1 (v5.getD (Int.toNat v6) default).2.1), (F117 (v5.getD (Int.toNat v6) default).2.2 (v5.getD (Int.toNat v6) default).1)), ((F117 (v5.getD (Int.toNat v6) default).1 (v5.getD (Int.toNat v6) default).2.1), (F118 (v5.getD (Int.toNat v6) default).2.1), (F117 (v5.getD (Int.toNat v6) default).2.1 (v5.getD (Int.toNat v6) default).2.2)), ((F117 (v5.getD (Int.toNat v6) default).2.2 (v5.getD (Int.toNat v6) default).1), (F117 (v5.getD (Int.toNat v6) default).2.1 (v5.getD (Int.toNat v6) default).2.2), (F118 (v5.getD (Int.toNat v6) default).2.2)), ((F117 (v5.getD (Int.toNat v6) default).1 (v5.getD (Int.toNat v6) default).2.1), (F117 (v5.getD (Int.toNat v6) default).2.1 (v5.getD (Int.toNat v6) default).2.2), (F117 (v5.getD (Int.toNat v6) default).2.2 (v5.getD (Int.toNat v6) default).1))])) := (flat_append (c := c26) (l := v4) (m := [((F118 (v5.getD (Int.toNat v6) default).1), (F117 (v5.getD (Int.toNat v6) default).1 (v5.getD (Int.toNat v6) default).2.1), (F117 (v5.getD (Int.toNat v6) default).2.2 (v5.getD (Int.toNat v6) default).1)), ((F117 (v5.getD (Int.toNat v6) default).1 (v5.getD (Int.toNat v6) default).2.1), (F118 (v5.getD (Int.toNat v6) default).2.1), (F117 (v5.getD (Int.toNat v6) default).2.1 (v5.getD (Int.toNat v6) default).2.2)), ((F117 (v5.getD (Int.toNat v6) default).2.2 (v5.getD (Int.toNat v6) default).1), (F117 (v5.getD (Int.toNat v6) default).2.1 (v5.getD (Int.toNat v6) default).2.2), (F118 (v5.getD (Int.toNat v6) default).2.2)), ((F117 (v5.getD (Int.toNat v6) default).1 (v5.getD (Int.toNat v6) default).2.1), (F117 (v5.getD (Int.toNat v6) default).2.1 (v5.getD (Int.toNat v6) default).2.2), (F117 (v5.getD (Int.toNat v6) default).2.2 (v5.getD (Int.toNat v6) default).1))])).symm
      have z2 : (v4.length + 4) = (v4 ++ [((F118 (v5.getD (Int.toNat v6) default).1), (F117 (v5.getD (Int.toNat v6) default).1 (v5.getD (Int.toNat v6) default).2.1), (F117 (v5.getD (Int.toNat v6) default).2.2 (v5.getD (Int.toNat v6) default).1)), ((F117 (v5.getD (Int.toNat v6) default).1 (v5.getD (Int.toNat v6) default).2.1), (F118 (v5.getD (Int.toNat v6) default).2.1), (F117 (v5.getD (Int.toNat v6) default).2.1 (v5.getD (Int.toNat v6) default).2.2)), ((F117 (v5.getD (Int.toNat v6) default).2.2 (v5.getD (Int.toNat v6) default).1), (F117 (v5.getD (Int.toNat v6) default).2.1 (v5.getD (Int.toNat v6) default).2.2), (F118 (v5.getD (Int.toNat v6) default).2.2)), ((F117 (v5.getD (Int.toNat v6) default).1 (v5.getD (Int.toNat v6) default).2.1), (F117 (v5.getD (Int.toNat v6) default).2.1 (v5.getD (Int.toNat v6) default).2.2), (F117 (v5.getD (Int.toNat v6) default).2.2 (v5.getD (Int.toNat v6) default).1))]).length := len_app v4 [((F118 (v5.getD (Int.toNat v6) default).1), (F117 (v5.getD (Int.toNat v6) default).1 (v5.getD (Int.toNat v6) default).2.1), (F117 (v5.getD (Int.toNat v6) default).2.2 (v5.getD (Int.toNat v6) default).1)), ((F117 (v5.getD (Int.toNat v6) default).1 (v5.getD (Int.toNat v6) default).2.1), (F118 (v5.getD (Int.toNat v6) default).2.1), (F117 (v5.getD (Int.toNat v6) default).2.1 (v5.getD (Int.toNat v6) default).2.2)), ((F117 (v5.getD (Int.toNat v6) default).2.2 (v5.getD (Int.toNat v6) default).1), (F117 (v5.getD (Int.toNat v6) default).2.1 (v5.getD (Int.toNat v6) default).2.2), (F118 (v5.getD (Int.toNat v6) default).2.2)), ((F117 (v5.getD (Int.toNat v6) default).1 (v5.getD (Int.toNat v6) default).2.1), (F117 (v5.getD (Int.toNat v6) default).2.1 (v5.getD (Int.toNat v6) default).2.2), (F117 (v5.getD (Int.toNat v6) default).2.2 (v5.getD (Int.toNat v6) default).1))] rfl
      rw [z0, z1, z2]
      exact ih (v4 ++ [((F118 (v5.getD (Int.toNat v6) default).1), (F117 (v5.getD (Int.toNat v6) default).1 (v5.getD (Int.toNat v6) default).2.1), (F117 (v5.getD (Int.toNat v6) default).2.2 (v5.getD (Int.toNat v6) default).1)), ((F117 (v5.getD (Int.toNat v6) default).1 (v5.getD (Int.toNat v6) default).2.1), (F118 (v5.getD (Int.toNat v6) default).2.1), (F117 (v5.getD (Int.toNat v6) default).2.1 (v5.getD (Int.toNat v6) default).2.2)), ((F117 (v5.getD (Int.toNat v6) default).2.2 (v5.getD (Int.toNat v6) default).1), (F117 (v5.getD (Int.toNat v6) default).2.1 (v5.getD (Int.toNat v6) default).2.2), (F118 (v5.getD (Int.toNat v6) default).2.2)), ((F117 (v5.getD (Int.toNat v6) default).1 (v5.getD (Int.toNat v6) default).2.1), (F117 (v5.getD (Int.toNat v6) default).2.1 (v5.getD (Int.toNat v6) default).2.2), (F117 (v5.getD (Int.toNat v6) default).2.2 (v5.getD (Int.toNat v6) default).1))]) v5 (v6 + 1) (by refine ⟨?_, ?_, ?_, ?_⟩ <;> (try simp only [List.length_append, List.length_cons, List.length_nil, Int.toNat_zero]) <;> first | omega | simp) (by (try simp only [List.length_append, List.length_cons, List.length_nil, Int.toNat_zero]); omega)
    | false =>
      have q0 := of_decide_eq_false h0
      have e : S91_0 nr a0 a1 (v4, v5, v6) = (.inr v4) := by simp only [S91_0, h0, cond_true, cond_false]
      rw [show loopF (S91_0 nr a0 a1) (n + 1) (v4, v5, v6) = thenF (S91_0 nr a0 a1) n (S91_0 nr a0 a1 (v4, v5, v6)) from rfl, e]
      exact ret_of (T := T0) hT hm (f := 5000) (orc := [.d false]) [] [] [0] hcx
        (obs := [.eq (decide ((v6 : Int) < ((v5.length : Nat) : Int))) false]) (by kernel_rfl) ⟨h0, trivial⟩

theorem Cr91 : ∀ (nr : Nat) (a0 : (Int × Int × Int) × (Int × Int × Int) × Int × Int × Int) (a1 : Int) (ha : 0 ≤ a1 ∧ a1 ≤ 3), Int.toNat a1 < nr → Con Try.prog 91 [(.a (k9 a0)), (iv a1)] [] (.s 0 0 (R91 nr a0 a1).length 9) [(.live true true (flat c26 (R91 nr a0 a1)))] := by
  intro nr
  induction nr with
  | zero => intro a0 a1 ha hlt; exact absurd hlt (Nat.not_lt_zero _)
  | succ nr ihr =>
  intro a0 a1 ha hlt
  cases h0 : ((a1 : Int) == 0) with
  | true =>
    have q0 := eq_of_beq h0
    have hpl : a1 ≠ 0 → (R91 nr a0 (W (a1 - 1))).length ≤ 64 := fun h => R8_le nr a0 _ (pa_d h ha).1 (by have := (pa_d h ha).2; omega)
    have e : (R91 (nr + 1) a0 a1) = ([a0] : List ((Int × Int × Int) × (Int × Int × Int) × Int × Int × Int)) := by simp only [R91, h0, cond_true, cond_false]
    rw [e]
    refine con_of (n := 9) Try.func91 rfl (ent Try.func91 (by kernel_rfl) rfl) (by show 2 ≤ Try.f91.ntmps; decide) (by kernel_rfl) trivial (fun cx hcx => ?_)
    exact ret_of (T := T0) hT hm (f := 5000) (orc := [.d true]) [.sym 1 true] [] [1] hcx
      (obs := [.eq ((a1 : Int) == 0) true]) (by kernel_rfl) ⟨h0, trivial⟩
  | false =>
    have q0 := ne_of_beq_false h0
    have hpl : a1 ≠ 0 → (R91 nr a0 (W (a1 - 1))).length ≤ 64 := fun h => R8_le nr a0 _ (pa_d h ha).1 (by have := (pa_d h ha).2; omega)
    have e : (R91 (nr + 1) a0 a1) = (loopF (S91_0 nr a0 a1) (Int.toNat ((((R91 nr a0 (W (a1 - 1))).length : Nat) : Int) - 0) + 1) (([] : List ((Int × Int × Int) × (Int × Int × Int) × Int × Int × Int)), (R91 nr a0 (W (a1 - 1))), 0)) := by simp only [R91, h0, cond_true, cond_false]
    rw [e]
    refine con_of (n := 9) Try.func91 rfl (ent Try.func91 (by kernel_rfl) rfl) (by show 2 ≤ Try.f91.ntmps; decide) (by kernel_rfl) trivial (fun cx hcx => ?_)
    refine enter_of (T := T0) hT hm (f := 5000) (orc := [.d false, .call [] (.s 0 0 (R91 nr a0 (W (a1 - 1))).length 9) [(.live true true (flat c26 (R91 nr a0 (W (a1 - 1)))))]]) [.slot 5 9] [5, 6, 7] [2, 1] hcx (body := B91_0) (k' := K91_0) (s' := ⟨[.u, .u, .u, .u, .u, (.s 0 0 0 9), (.s 1 0 (R91 nr a0 (W (a1 - 1))).length 9), (iv 0), .u, .u, .u, .u, .u, .u, .u, .u, .u, .u, .u, .u, .u, .u, .u, .u, .u, .u, .u, .u, .u, .u, .u, .u, .u, .u, .u, .u, .u, .u, .u, .u, .u, .u, .u, .u, .u, .u, .u, .u, .u, .u, .u, .u, .u, .u, .u, .u, .u, .u, .u, .u, .u, .u, .u, .u, .u, .u, .u, .u, .u, .u, .u, .u, .u, .u, .u], [(.live true true (flat c26 ([] : List ((Int × Int × Int) × (Int × Int × Int) × Int × Int × Int)))), (.live true true (flat c26 (R91 nr a0 (W (a1 - 1)))))]⟩)
      (obs := [.eq ((a1 : Int) == 0) false, .call 91 [(.a (k9 a0)), (iv (W (a1 - 1)))] [] (.s 0 0 (R91 nr a0 (W (a1 - 1))).length 9) [(.live true true (flat c26 (R91 nr a0 (W (a1 - 1)))))]]) (by kernel_rfl) ⟨h0, (ihr a0 (W (a1 - 1))  (pa_d (ne_of_beq_false h0) ha).1 (by have := (pa_d (ne_of_beq_false h0) ha).2; omega)), trivial⟩ ⟨Int.toNat ((((R91 nr a0 (W (a1 - 1))).length : Nat) : Int) - 0) + 1, ?_⟩
    exact L91_0 nr a0 a1 ha hlt ihr hcx (Int.toNat ((((R91 nr a0 (W (a1 - 1))).length : Nat) : Int) - 0) + 1) ([] : List ((Int × Int × Int) × (Int × Int × Int) × Int × Int × Int)) (R91 nr a0 (W (a1 - 1))) 0 (by refine ⟨?_, ?_, ?_, ?_⟩ <;> (try simp only [List.length_append, List.length_cons, List.length_nil, Int.toNat_zero]) <;> first | omega | simp) (by (try simp only [List.length_append, List.length_cons, List.length_nil, Int.toNat_zero]); omega)

theorem C91 (a0 : (Int × Int × Int) × (Int × Int × Int) × Int × Int × Int) (a1 : Int) (ha : 0 ≤ a1 ∧ a1 ≤ 3) : Con Try.prog 91 [(.a (k9 a0)), (iv a1)] [] (.s 0 0 (F91 a0 a1).length 9) [(.live true true (flat c26 (F91 a0 a1)))] := Cr91 (Int.toNat a1 + 1) a0 a1 ha (Nat.lt_succ_self _)

end Go.Proofs.Ytopbnnmkdildgaa
