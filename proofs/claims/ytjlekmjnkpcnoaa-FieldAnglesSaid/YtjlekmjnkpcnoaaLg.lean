/-
  A part of the proofs of the Field laws: what functions of the program compute, and that it is what the statements ask. No premise.
-/
import Derived.Test.YtjlekmjnkpcnoaaMd
namespace Go.Proofs.Ytjlekmjnkpcnoaa
open Go.Proofs Go.Aw Go.RowKit
set_option maxRecDepth 100000
set_option linter.unusedVariables false
set_option linter.unusedSimpArgs false

noncomputable def B4_0 : Code := (loopAtD [1, 1, 1, 1, 0, 1] [] (Try.f4.body.getD .skip) []).1
noncomputable def K4_0 : List K := (loopAtD [1, 1, 1, 1, 0, 1] [] (Try.f4.body.getD .skip) []).2

/-- a round of loop 0 of facet/facetlaw03.FieldParts; the variables: v1 = s9 -/
def S4_0 (a0 : (Int × Int × Int) × (Int × Int × Int) × Int × Int × Int) (a1 : Int) : Int → (Int) ⊕ (Bool)
  | v1 =>
   (bif (decide ((v1 : Int) < (((F17 a0 a1).1.length : Nat) : Int))) then
    (bif (!((((((F17 a0 a1).1.getD (Int.toNat v1) default).1.1 : Int) == ((F18 a0 a1).1.getD (Int.toNat v1) default).1.1) && (((((F17 a0 a1).1.getD (Int.toNat v1) default).1.2.1 : Int) == ((F18 a0 a1).1.getD (Int.toNat v1) default).1.2.1) && (((((F17 a0 a1).1.getD (Int.toNat v1) default).1.2.2 : Int) == ((F18 a0 a1).1.getD (Int.toNat v1) default).1.2.2) && true))) && ((((((F17 a0 a1).1.getD (Int.toNat v1) default).2.1.1 : Int) == ((F18 a0 a1).1.getD (Int.toNat v1) default).2.1.1) && (((((F17 a0 a1).1.getD (Int.toNat v1) default).2.1.2.1 : Int) == ((F18 a0 a1).1.getD (Int.toNat v1) default).2.1.2.1) && (((((F17 a0 a1).1.getD (Int.toNat v1) default).2.1.2.2 : Int) == ((F18 a0 a1).1.getD (Int.toNat v1) default).2.1.2.2) && true))) && ((((((F17 a0 a1).1.getD (Int.toNat v1) default).2.2.1 : Int) == ((F18 a0 a1).1.getD (Int.toNat v1) default).2.2.1) && (((((F17 a0 a1).1.getD (Int.toNat v1) default).2.2.2.1 : Int) == ((F18 a0 a1).1.getD (Int.toNat v1) default).2.2.2.1) && (((((F17 a0 a1).1.getD (Int.toNat v1) default).2.2.2.2 : Int) == ((F18 a0 a1).1.getD (Int.toNat v1) default).2.2.2.2) && true))) && true)))) then
     (.inr false)
    else
     (.inl (v1 + 1)))
   else
    (.inr F16))

set_option maxHeartbeats 4000000 in
theorem L4_0 (a0 : (Int × Int × Int) × (Int × Int × Int) × Int × Int × Int) (a1 : Int) {cx : Cx} (hcx : cx.base = 0) : ∀ (n : Nat) (v1 : Int), 0 ≤ v1 → Int.toNat ((((F17 a0 a1).1.length : Nat) : Int) - v1) < n → Aw.Good Try.prog none 9 (bodyPost Try.prog Try.f4 (RR cx (.v (.bool (loopF (S4_0 a0 a1) n v1))) [] [])) cx [] (.l B4_0 n :: K4_0) ⟨[.u, .u, .u, .u, .u, (.s 0 0 (F17 a0 a1).1.length 9), .u, (.s 1 0 (F18 a0 a1).1.length 9), .u, (iv v1), .u, .u, .u, .u, .u, .u, .u, .u, .u, .u, .u, .u, .u, .u, .u, .u, .u, .u, .u, .u, .u, .u, .u, .u, .u, .u, .u, .u, .u, .u, .u, .u, .u, .u, .u, .u, .u, .u], [(.live true true (flat c25 (F17 a0 a1).1)), (.live true true (flat c25 (F18 a0 a1).1))]⟩ := by
  intro n
  induction n with
  | zero => intro v1 hi hn; exact absurd hn (Nat.not_lt_zero _)
  | succ n ih =>
    intro v1 hi hn
    refine good_round ?_
    cases h0 : (decide ((v1 : Int) < (((F17 a0 a1).1.length : Nat) : Int))) with
    | true =>
      cases h1 : (!((((((F17 a0 a1).1.getD (Int.toNat v1) default).1.1 : Int) == ((F18 a0 a1).1.getD (Int.toNat v1) default).1.1) && (((((F17 a0 a1).1.getD (Int.toNat v1) default).1.2.1 : Int) == ((F18 a0 a1).1.getD (Int.toNat v1) default).1.2.1) && (((((F17 a0 a1).1.getD (Int.toNat v1) default).1.2.2 : Int) == ((F18 a0 a1).1.getD (Int.toNat v1) default).1.2.2) && true))) && ((((((F17 a0 a1).1.getD (Int.toNat v1) default).2.1.1 : Int) == ((F18 a0 a1).1.getD (Int.toNat v1) default).2.1.1) && (((((F17 a0 a1).1.getD (Int.toNat v1) default).2.1.2.1 : Int) == ((F18 a0 a1).1.getD (Int.toNat v1) default).2.1.2.1) && (((((F17 a0 a1).1.getD (Int.toNat v1) default).2.1.2.2 : Int) == ((F18 a0 a1).1.getD (Int.toNat v1) default).2.1.2.2) && true))) && ((((((F17 a0 a1).1.getD (Int.toNat v1) default).2.2.1 : Int) == ((F18 a0 a1).1.getD (Int.toNat v1) default).2.2.1) && (((((F17 a0 a1).1.getD (Int.toNat v1) default).2.2.2.1 : Int) == ((F18 a0 a1).1.getD (Int.toNat v1) default).2.2.2.1) && (((((F17 a0 a1).1.getD (Int.toNat v1) default).2.2.2.2 : Int) == ((F18 a0 a1).1.getD (Int.toNat v1) default).2.2.2.2) && true))) && true)))) with
      | true =>
        have q0 := of_decide_eq_true h0
        have hpl := parts_len a0 a1
        have e : S4_0 a0 a1 v1 = (.inr false) := by simp only [S4_0, h0, h1, cond_true, cond_false]
        rw [show loopF (S4_0 a0 a1) (n + 1) v1 = thenF (S4_0 a0 a1) n (S4_0 a0 a1 v1) from rfl, e]
        exact ret_of (T := T0) hT hm (f := 5000) (orc := [.d true, .ld (k9 ((F17 a0 a1).1.getD (Int.toNat v1) default)), .ld (k9 ((F18 a0 a1).1.getD (Int.toNat v1) default)), .d true]) [] [] [] hcx
          (obs := [.eq (decide ((v1 : Int) < (((F17 a0 a1).1.length : Nat) : Int))) true, .pr (0 ≤ (v1 : Int) ∧ (v1 : Int) < (((F17 a0 a1).1.length : Nat) : Int)), .pr (((((flat c25 (F17 a0 a1).1)).drop (0 + Int.toNat v1 * 9)).take 9) = (k9 ((F17 a0 a1).1.getD (Int.toNat v1) default))), .pr (0 ≤ (v1 : Int) ∧ (v1 : Int) < (((F18 a0 a1).1.length : Nat) : Int)), .pr (((((flat c25 (F18 a0 a1).1)).drop (0 + Int.toNat v1 * 9)).take 9) = (k9 ((F18 a0 a1).1.getD (Int.toNat v1) default))), .eq (!((((((F17 a0 a1).1.getD (Int.toNat v1) default).1.1 : Int) == ((F18 a0 a1).1.getD (Int.toNat v1) default).1.1) && (((((F17 a0 a1).1.getD (Int.toNat v1) default).1.2.1 : Int) == ((F18 a0 a1).1.getD (Int.toNat v1) default).1.2.1) && (((((F17 a0 a1).1.getD (Int.toNat v1) default).1.2.2 : Int) == ((F18 a0 a1).1.getD (Int.toNat v1) default).1.2.2) && true))) && ((((((F17 a0 a1).1.getD (Int.toNat v1) default).2.1.1 : Int) == ((F18 a0 a1).1.getD (Int.toNat v1) default).2.1.1) && (((((F17 a0 a1).1.getD (Int.toNat v1) default).2.1.2.1 : Int) == ((F18 a0 a1).1.getD (Int.toNat v1) default).2.1.2.1) && (((((F17 a0 a1).1.getD (Int.toNat v1) default).2.1.2.2 : Int) == ((F18 a0 a1).1.getD (Int.toNat v1) default).2.1.2.2) && true))) && ((((((F17 a0 a1).1.getD (Int.toNat v1) default).2.2.1 : Int) == ((F18 a0 a1).1.getD (Int.toNat v1) default).2.2.1) && (((((F17 a0 a1).1.getD (Int.toNat v1) default).2.2.2.1 : Int) == ((F18 a0 a1).1.getD (Int.toNat v1) default).2.2.2.1) && (((((F17 a0 a1).1.getD (Int.toNat v1) default).2.2.2.2 : Int) == ((F18 a0 a1).1.getD (Int.toNat v1) default).2.2.2.2) && true))) && true)))) true]) (by kernel_rfl) ⟨h0, (show 0 ≤ (v1 : Int) ∧ (v1 : Int) < (((F17 a0 a1).1.length : Nat) : Int) from by first | omega | (rw [W_eq] <;> omega) | exact u64_nn _), (ld_part c25_len default (F17 a0 a1).1 v1 0 9 (by omega) (by decide) (by omega) rfl), (show 0 ≤ (v1 : Int) ∧ (v1 : Int) < (((F18 a0 a1).1.length : Nat) : Int) from by first | omega | (rw [W_eq] <;> omega) | exact u64_nn _), (ld_part c25_len default (F18 a0 a1).1 v1 0 9 (by omega) (by decide) (by omega) rfl), h1, trivial⟩
      | false =>
        have q0 := of_decide_eq_true h0
        have hpl := parts_len a0 a1
        have e : S4_0 a0 a1 v1 = (.inl (v1 + 1)) := by simp only [S4_0, h0, h1, cond_true, cond_false]
        rw [loopF_inl e]
        refine back_of (T := T0) hT hm (f := 5000) (orc := [.d true, .ld (k9 ((F17 a0 a1).1.getD (Int.toNat v1) default)), .ld (k9 ((F18 a0 a1).1.getD (Int.toNat v1) default)), .d false]) [] [5, 7, 9] [0, 1] hcx (body := B4_0) (m := n) (k' := K4_0) (s' := ⟨[.u, .u, .u, .u, .u, (.s 0 0 (F17 a0 a1).1.length 9), .u, (.s 1 0 (F18 a0 a1).1.length 9), .u, (iv (W (v1 + 1))), .u, .u, .u, .u, .u, .u, .u, .u, .u, .u, .u, .u, .u, .u, .u, .u, .u, .u, .u, .u, .u, .u, .u, .u, .u, .u, .u, .u, .u, .u, .u, .u, .u, .u, .u, .u, .u, .u], [(.live true true (flat c25 (F17 a0 a1).1)), (.live true true (flat c25 (F18 a0 a1).1))]⟩)
          (obs := [.eq (decide ((v1 : Int) < (((F17 a0 a1).1.length : Nat) : Int))) true, .pr (0 ≤ (v1 : Int) ∧ (v1 : Int) < (((F17 a0 a1).1.length : Nat) : Int)), .pr (((((flat c25 (F17 a0 a1).1)).drop (0 + Int.toNat v1 * 9)).take 9) = (k9 ((F17 a0 a1).1.getD (Int.toNat v1) default))), .pr (0 ≤ (v1 : Int) ∧ (v1 : Int) < (((F18 a0 a1).1.length : Nat) : Int)), .pr (((((flat c25 (F18 a0 a1).1)).drop (0 + Int.toNat v1 * 9)).take 9) = (k9 ((F18 a0 a1).1.getD (Int.toNat v1) default))), .eq (!((((((F17 a0 a1).1.getD (Int.toNat v1) default).1.1 : Int) == ((F18 a0 a1).1.getD (Int.toNat v1) default).1.1) && (((((F17 a0 a1).1.getD (Int.toNat v1) default).1.2.1 : Int) == ((F18 a0 a1).1.getD (Int.toNat v1) default).1.2.1) && (((((F17 a0 a1).1.getD (Int.toNat v1) default).1.2.2 : Int) == ((F18 a0 a1).1.getD (Int.toNat v1) default).1.2.2) && true))) && ((((((F17 a0 a1).1.getD (Int.toNat v1) default).2.1.1 : Int) == ((F18 a0 a1).1.getD (Int.toNat v1) default).2.1.1) && (((((F17 a0 a1).1.getD (Int.toNat v1) default).2.1.2.1 : Int) == ((F18 a0 a1).1.getD (Int.toNat v1) default).2.1.2.1) && (((((F17 a0 a1).1.getD (Int.toNat v1) default).2.1.2.2 : Int) == ((F18 a0 a1).1.getD (Int.toNat v1) default).2.1.2.2) && true))) && ((((((F17 a0 a1).1.getD (Int.toNat v1) default).2.2.1 : Int) == ((F18 a0 a1).1.getD (Int.toNat v1) default).2.2.1) && (((((F17 a0 a1).1.getD (Int.toNat v1) default).2.2.2.1 : Int) == ((F18 a0 a1).1.getD (Int.toNat v1) default).2.2.2.1) && (((((F17 a0 a1).1.getD (Int.toNat v1) default).2.2.2.2 : Int) == ((F18 a0 a1).1.getD (Int.toNat v1) default).2.2.2.2) && true))) && true)))) false]) (by kernel_rfl) ⟨h0, (show 0 ≤ (v1 : Int) ∧ (v1 : Int) < (((F17 a0 a1).1.length : Nat) : Int) from by first | omega | (rw [W_eq] <;> omega) | exact u64_nn _), (ld_part c25_len default (F17 a0 a1).1 v1 0 9 (by omega) (by decide) (by omega) rfl), (show 0 ≤ (v1 : Int) ∧ (v1 : Int) < (((F18 a0 a1).1.length : Nat) : Int) from by first | omega | (rw [W_eq] <;> omega) | exact u64_nn _), (ld_part c25_len default (F18 a0 a1).1 v1 0 9 (by omega) (by decide) (by omega) rfl), h1, trivial⟩ ?_
        have z0 : (W (v1 + 1)) = (v1 + 1) := W_eq (by omega) (by omega)
        rw [z0]
        exact ih (v1 + 1) (by (try simp only [List.length_append, List.length_cons, List.length_nil, Int.toNat_zero]); omega) (by (try simp only [List.length_append, List.length_cons, List.length_nil, Int.toNat_zero]); omega)
    | false =>
      have q0 := of_decide_eq_false h0
      have hpl := parts_len a0 a1
      have e : S4_0 a0 a1 v1 = (.inr F16) := by simp only [S4_0, h0, cond_true, cond_false]
      rw [show loopF (S4_0 a0 a1) (n + 1) v1 = thenF (S4_0 a0 a1) n (S4_0 a0 a1 v1) from rfl, e]
      exact ret_of (T := T0) hT hm (f := 5000) (orc := [.d false, .call [] (.v (.bool F16)) []]) [] [] [] hcx
        (obs := [.eq (decide ((v1 : Int) < (((F17 a0 a1).1.length : Nat) : Int))) false, .call 16 [] [] (.v (.bool F16)) []]) (by kernel_rfl) ⟨h0, (C16), trivial⟩

/-- facet/facetlaw03.FieldParts -/
def F4 (a0 : (Int × Int × Int) × (Int × Int × Int) × Int × Int × Int) (a1 : Int) : Bool :=
  (bif (((F17 a0 a1).2 : Int) != (F18 a0 a1).2) then
   false
  else
   (bif (((((F17 a0 a1).1.length : Nat) : Int) : Int) != (((F18 a0 a1).1.length : Nat) : Int)) then
    false
   else
    (loopF (S4_0 a0 a1) (Int.toNat ((((F17 a0 a1).1.length : Nat) : Int) - 0) + 1) 0)))

theorem C4 (a0 : (Int × Int × Int) × (Int × Int × Int) × Int × Int × Int) (a1 : Int) : Con Try.prog 4 [(.a (k9 a0)), (iv a1)] [] (.v (.bool (F4 a0 a1))) [] := by
  cases h0 : (((F17 a0 a1).2 : Int) != (F18 a0 a1).2) with
  | true =>
    have q0 := bne_iff_ne.1 h0
    have e : (F4 a0 a1) = false := by simp only [F4, h0, cond_true, cond_false]
    rw [e]
    refine con_of (n := 9) Try.func4 rfl (ent Try.func4 (by kernel_rfl) rfl) (by show 2 ≤ Try.f4.ntmps; decide) (by kernel_rfl) trivial (fun cx hcx => ?_)
    exact ret_of (T := T0) hT hm (f := 5000) (orc := [.call [] (.t [(.s 0 0 (F17 a0 a1).1.length 9), (iv (F17 a0 a1).2)]) [(.live true true (flat c25 (F17 a0 a1).1))], .call [] (.t [(.s 0 0 (F18 a0 a1).1.length 9), (iv (F18 a0 a1).2)]) [(.live true true (flat c25 (F18 a0 a1).1))], .d true]) [] [] [] hcx
      (obs := [.call 17 [(.a (k9 a0)), (iv a1)] [] (.t [(.s 0 0 (F17 a0 a1).1.length 9), (iv (F17 a0 a1).2)]) [(.live true true (flat c25 (F17 a0 a1).1))], .call 18 [(.a (k9 a0)), (iv a1)] [] (.t [(.s 0 0 (F18 a0 a1).1.length 9), (iv (F18 a0 a1).2)]) [(.live true true (flat c25 (F18 a0 a1).1))], .eq (((F17 a0 a1).2 : Int) != (F18 a0 a1).2) true]) (by kernel_rfl) ⟨(C17 a0 a1), (C18 a0 a1), h0, trivial⟩
  | false =>
    cases h1 : (((((F17 a0 a1).1.length : Nat) : Int) : Int) != (((F18 a0 a1).1.length : Nat) : Int)) with
    | true =>
      have q0 := bne_eq_false_iff_eq.1 h0
      have q1 := bne_iff_ne.1 h1
      have e : (F4 a0 a1) = false := by simp only [F4, h0, h1, cond_true, cond_false]
      rw [e]
      refine con_of (n := 9) Try.func4 rfl (ent Try.func4 (by kernel_rfl) rfl) (by show 2 ≤ Try.f4.ntmps; decide) (by kernel_rfl) trivial (fun cx hcx => ?_)
      exact ret_of (T := T0) hT hm (f := 5000) (orc := [.call [] (.t [(.s 0 0 (F17 a0 a1).1.length 9), (iv (F17 a0 a1).2)]) [(.live true true (flat c25 (F17 a0 a1).1))], .call [] (.t [(.s 0 0 (F18 a0 a1).1.length 9), (iv (F18 a0 a1).2)]) [(.live true true (flat c25 (F18 a0 a1).1))], .d false, .d true]) [] [] [] hcx
        (obs := [.call 17 [(.a (k9 a0)), (iv a1)] [] (.t [(.s 0 0 (F17 a0 a1).1.length 9), (iv (F17 a0 a1).2)]) [(.live true true (flat c25 (F17 a0 a1).1))], .call 18 [(.a (k9 a0)), (iv a1)] [] (.t [(.s 0 0 (F18 a0 a1).1.length 9), (iv (F18 a0 a1).2)]) [(.live true true (flat c25 (F18 a0 a1).1))], .eq (((F17 a0 a1).2 : Int) != (F18 a0 a1).2) false, .eq (((((F17 a0 a1).1.length : Nat) : Int) : Int) != (((F18 a0 a1).1.length : Nat) : Int)) true]) (by kernel_rfl) ⟨(C17 a0 a1), (C18 a0 a1), h0, h1, trivial⟩
    | false =>
      have q0 := bne_eq_false_iff_eq.1 h0
      have q1 := bne_eq_false_iff_eq.1 h1
      have e : (F4 a0 a1) = (loopF (S4_0 a0 a1) (Int.toNat ((((F17 a0 a1).1.length : Nat) : Int) - 0) + 1) 0) := by simp only [F4, h0, h1, cond_true, cond_false]
      rw [e]
      refine con_of (n := 9) Try.func4 rfl (ent Try.func4 (by kernel_rfl) rfl) (by show 2 ≤ Try.f4.ntmps; decide) (by kernel_rfl) trivial (fun cx hcx => ?_)
      refine enter_of (T := T0) hT hm (f := 5000) (orc := [.call [] (.t [(.s 0 0 (F17 a0 a1).1.length 9), (iv (F17 a0 a1).2)]) [(.live true true (flat c25 (F17 a0 a1).1))], .call [] (.t [(.s 0 0 (F18 a0 a1).1.length 9), (iv (F18 a0 a1).2)]) [(.live true true (flat c25 (F18 a0 a1).1))], .d false, .d false]) [] [5, 7, 9] [1, 2] hcx (body := B4_0) (k' := K4_0) (s' := ⟨[.u, .u, .u, .u, .u, (.s 0 0 (F17 a0 a1).1.length 9), .u, (.s 1 0 (F18 a0 a1).1.length 9), .u, (iv 0), .u, .u, .u, .u, .u, .u, .u, .u, .u, .u, .u, .u, .u, .u, .u, .u, .u, .u, .u, .u, .u, .u, .u, .u, .u, .u, .u, .u, .u, .u, .u, .u, .u, .u, .u, .u, .u, .u], [(.live true true (flat c25 (F17 a0 a1).1)), (.live true true (flat c25 (F18 a0 a1).1))]⟩)
        (obs := [.call 17 [(.a (k9 a0)), (iv a1)] [] (.t [(.s 0 0 (F17 a0 a1).1.length 9), (iv (F17 a0 a1).2)]) [(.live true true (flat c25 (F17 a0 a1).1))], .call 18 [(.a (k9 a0)), (iv a1)] [] (.t [(.s 0 0 (F18 a0 a1).1.length 9), (iv (F18 a0 a1).2)]) [(.live true true (flat c25 (F18 a0 a1).1))], .eq (((F17 a0 a1).2 : Int) != (F18 a0 a1).2) false, .eq (((((F17 a0 a1).1.length : Nat) : Int) : Int) != (((F18 a0 a1).1.length : Nat) : Int)) false]) (by kernel_rfl) ⟨(C17 a0 a1), (C18 a0 a1), h0, h1, trivial⟩ ⟨Int.toNat ((((F17 a0 a1).1.length : Nat) : Int) - 0) + 1, ?_⟩
      exact L4_0 a0 a1 hcx (Int.toNat ((((F17 a0 a1).1.length : Nat) : Int) - 0) + 1) 0 (by (try simp only [List.length_append, List.length_cons, List.length_nil, Int.toNat_zero]); omega) (by (try simp only [List.length_append, List.length_cons, List.length_nil, Int.toNat_zero]); omega)

/-- facet/facetlaw03.FieldMeans -/
def F5 (a0 : ((Int × Int × Int) × (Int × Int × Int) × Int × Int × Int) × (Int × Int × Int) × Int) : Bool :=
  (bif ((((F19 a0.1 a0.2.1 a0.2.2).1.1 : Int) == (F20 a0.1 a0.2.1 a0.2.2).1.1) && ((((F19 a0.1 a0.2.1 a0.2.2).1.2 : Int) == (F20 a0.1 a0.2.1 a0.2.2).1.2) && true)) then
   (bif (((F19 a0.1 a0.2.1 a0.2.2).2 : Int) == (F20 a0.1 a0.2.1 a0.2.2).2) then
    (bif ((((F21 a0.1 a0.2.1 a0.2.2).1.1 : Int) == (F22 a0.1 a0.2.1 a0.2.2).1.1) && ((((F21 a0.1 a0.2.1 a0.2.2).1.2 : Int) == (F22 a0.1 a0.2.1 a0.2.2).1.2) && true)) then
     (bif (((F21 a0.1 a0.2.1 a0.2.2).2 : Int) == (F22 a0.1 a0.2.1 a0.2.2).2) then
      F16
     else
      false)
    else
     false)
   else
    false)
  else
   false)

theorem C5 (a0 : ((Int × Int × Int) × (Int × Int × Int) × Int × Int × Int) × (Int × Int × Int) × Int) : Con Try.prog 5 [(.a [(iv a0.1.1.1), (iv a0.1.1.2.1), (iv a0.1.1.2.2), (iv a0.1.2.1.1), (iv a0.1.2.1.2.1), (iv a0.1.2.1.2.2), (iv a0.1.2.2.1), (iv a0.1.2.2.2.1), (iv a0.1.2.2.2.2), (iv a0.2.1.1), (iv a0.2.1.2.1), (iv a0.2.1.2.2), (iv a0.2.2)])] [] (.v (.bool (F5 a0))) [] := by
  cases h0 : ((((F19 a0.1 a0.2.1 a0.2.2).1.1 : Int) == (F20 a0.1 a0.2.1 a0.2.2).1.1) && ((((F19 a0.1 a0.2.1 a0.2.2).1.2 : Int) == (F20 a0.1 a0.2.1 a0.2.2).1.2) && true)) with
  | true =>
    cases h1 : (((F19 a0.1 a0.2.1 a0.2.2).2 : Int) == (F20 a0.1 a0.2.1 a0.2.2).2) with
    | true =>
      cases h2 : ((((F21 a0.1 a0.2.1 a0.2.2).1.1 : Int) == (F22 a0.1 a0.2.1 a0.2.2).1.1) && ((((F21 a0.1 a0.2.1 a0.2.2).1.2 : Int) == (F22 a0.1 a0.2.1 a0.2.2).1.2) && true)) with
      | true =>
        cases h3 : (((F21 a0.1 a0.2.1 a0.2.2).2 : Int) == (F22 a0.1 a0.2.1 a0.2.2).2) with
        | true =>
          have q1 := eq_of_beq h1
          have q3 := eq_of_beq h3
          have e : (F5 a0) = F16 := by simp only [F5, h0, h1, h2, h3, cond_true, cond_false]
          rw [e]
          refine con_of (n := 9) Try.func5 rfl (ent Try.func5 (by kernel_rfl) rfl) (by show 1 ≤ Try.f5.ntmps; decide) (by kernel_rfl) trivial (fun cx hcx => ?_)
          exact ret_of (T := T0) hT hm (f := 5000) (orc := [.call [] (.t [(.a (k2 (F19 a0.1 a0.2.1 a0.2.2).1)), (iv (F19 a0.1 a0.2.1 a0.2.2).2)]) [], .call [] (.t [(.a (k2 (F20 a0.1 a0.2.1 a0.2.2).1)), (iv (F20 a0.1 a0.2.1 a0.2.2).2)]) [], .call [] (.t [(.a (k2 (F21 a0.1 a0.2.1 a0.2.2).1)), (iv (F21 a0.1 a0.2.1 a0.2.2).2)]) [], .call [] (.t [(.a (k2 (F22 a0.1 a0.2.1 a0.2.2).1)), (iv (F22 a0.1 a0.2.1 a0.2.2).2)]) [], .d true, .d true, .d true, .d true, .call [] (.v (.bool F16)) []]) [] [] [] hcx
            (obs := [.call 19 [(.a (k9 a0.1)), (.a (k3 a0.2.1)), (iv a0.2.2)] [] (.t [(.a (k2 (F19 a0.1 a0.2.1 a0.2.2).1)), (iv (F19 a0.1 a0.2.1 a0.2.2).2)]) [], .call 20 [(.a (k9 a0.1)), (.a (k3 a0.2.1)), (iv a0.2.2)] [] (.t [(.a (k2 (F20 a0.1 a0.2.1 a0.2.2).1)), (iv (F20 a0.1 a0.2.1 a0.2.2).2)]) [], .call 21 [(.a (k9 a0.1)), (.a (k3 a0.2.1)), (iv a0.2.2)] [] (.t [(.a (k2 (F21 a0.1 a0.2.1 a0.2.2).1)), (iv (F21 a0.1 a0.2.1 a0.2.2).2)]) [], .call 22 [(.a (k9 a0.1)), (.a (k3 a0.2.1)), (iv a0.2.2)] [] (.t [(.a (k2 (F22 a0.1 a0.2.1 a0.2.2).1)), (iv (F22 a0.1 a0.2.1 a0.2.2).2)]) [], .eq ((((F19 a0.1 a0.2.1 a0.2.2).1.1 : Int) == (F20 a0.1 a0.2.1 a0.2.2).1.1) && ((((F19 a0.1 a0.2.1 a0.2.2).1.2 : Int) == (F20 a0.1 a0.2.1 a0.2.2).1.2) && true)) true, .eq (((F19 a0.1 a0.2.1 a0.2.2).2 : Int) == (F20 a0.1 a0.2.1 a0.2.2).2) true, .eq ((((F21 a0.1 a0.2.1 a0.2.2).1.1 : Int) == (F22 a0.1 a0.2.1 a0.2.2).1.1) && ((((F21 a0.1 a0.2.1 a0.2.2).1.2 : Int) == (F22 a0.1 a0.2.1 a0.2.2).1.2) && true)) true, .eq (((F21 a0.1 a0.2.1 a0.2.2).2 : Int) == (F22 a0.1 a0.2.1 a0.2.2).2) true, .call 16 [] [] (.v (.bool F16)) []]) (by kernel_rfl) ⟨(C19 a0.1 a0.2.1 a0.2.2), (C20 a0.1 a0.2.1 a0.2.2), (C21 a0.1 a0.2.1 a0.2.2), (C22 a0.1 a0.2.1 a0.2.2), h0, h1, h2, h3, (C16), trivial⟩
        | false =>
          have q1 := eq_of_beq h1
          have q3 := ne_of_beq_false h3
          have e : (F5 a0) = false := by simp only [F5, h0, h1, h2, h3, cond_true, cond_false]
          rw [e]
          refine con_of (n := 9) Try.func5 rfl (ent Try.func5 (by kernel_rfl) rfl) (by show 1 ≤ Try.f5.ntmps; decide) (by kernel_rfl) trivial (fun cx hcx => ?_)
          exact ret_of (T := T0) hT hm (f := 5000) (orc := [.call [] (.t [(.a (k2 (F19 a0.1 a0.2.1 a0.2.2).1)), (iv (F19 a0.1 a0.2.1 a0.2.2).2)]) [], .call [] (.t [(.a (k2 (F20 a0.1 a0.2.1 a0.2.2).1)), (iv (F20 a0.1 a0.2.1 a0.2.2).2)]) [], .call [] (.t [(.a (k2 (F21 a0.1 a0.2.1 a0.2.2).1)), (iv (F21 a0.1 a0.2.1 a0.2.2).2)]) [], .call [] (.t [(.a (k2 (F22 a0.1 a0.2.1 a0.2.2).1)), (iv (F22 a0.1 a0.2.1 a0.2.2).2)]) [], .d true, .d true, .d true, .d false]) [] [] [] hcx
            (obs := [.call 19 [(.a (k9 a0.1)), (.a (k3 a0.2.1)), (iv a0.2.2)] [] (.t [(.a (k2 (F19 a0.1 a0.2.1 a0.2.2).1)), (iv (F19 a0.1 a0.2.1 a0.2.2).2)]) [], .call 20 [(.a (k9 a0.1)), (.a (k3 a0.2.1)), (iv a0.2.2)] [] (.t [(.a (k2 (F20 a0.1 a0.2.1 a0.2.2).1)), (iv (F20 a0.1 a0.2.1 a0.2.2).2)]) [], .call 21 [(.a (k9 a0.1)), (.a (k3 a0.2.1)), (iv a0.2.2)] [] (.t [(.a (k2 (F21 a0.1 a0.2.1 a0.2.2).1)), (iv (F21 a0.1 a0.2.1 a0.2.2).2)]) [], .call 22 [(.a (k9 a0.1)), (.a (k3 a0.2.1)), (iv a0.2.2)] [] (.t [(.a (k2 (F22 a0.1 a0.2.1 a0.2.2).1)), (iv (F22 a0.1 a0.2.1 a0.2.2).2)]) [], .eq ((((F19 a0.1 a0.2.1 a0.2.2).1.1 : Int) == (F20 a0.1 a0.2.1 a0.2.2).1.1) && ((((F19 a0.1 a0.2.1 a0.2.2).1.2 : Int) == (F20 a0.1 a0.2.1 a0.2.2).1.2) && true)) true, .eq (((F19 a0.1 a0.2.1 a0.2.2).2 : Int) == (F20 a0.1 a0.2.1 a0.2.2).2) true, .eq ((((F21 a0.1 a0.2.1 a0.2.2).1.1 : Int) == (F22 a0.1 a0.2.1 a0.2.2).1.1) && ((((F21 a0.1 a0.2.1 a0.2.2).1.2 : Int) == (F22 a0.1 a0.2.1 a0.2.2).1.2) && true)) true, .eq (((F21 a0.1 a0.2.1 a0.2.2).2 : Int) == (F22 a0.1 a0.2.1 a0.2.2).2) false]) (by kernel_rfl) ⟨(C19 a0.1 a0.2.1 a0.2.2), (C20 a0.1 a0.2.1 a0.2.2), (C21 a0.1 a0.2.1 a0.2.2), (C22 a0.1 a0.2.1 a0.2.2), h0, h1, h2, h3, trivial⟩
      | false =>
        have q1 := eq_of_beq h1
        have e : (F5 a0) = false := by simp only [F5, h0, h1, h2, cond_true, cond_false]
        rw [e]
        refine con_of (n := 9) Try.func5 rfl (ent Try.func5 (by kernel_rfl) rfl) (by show 1 ≤ Try.f5.ntmps; decide) (by kernel_rfl) trivial (fun cx hcx => ?_)
        exact ret_of (T := T0) hT hm (f := 5000) (orc := [.call [] (.t [(.a (k2 (F19 a0.1 a0.2.1 a0.2.2).1)), (iv (F19 a0.1 a0.2.1 a0.2.2).2)]) [], .call [] (.t [(.a (k2 (F20 a0.1 a0.2.1 a0.2.2).1)), (iv (F20 a0.1 a0.2.1 a0.2.2).2)]) [], .call [] (.t [(.a (k2 (F21 a0.1 a0.2.1 a0.2.2).1)), (iv (F21 a0.1 a0.2.1 a0.2.2).2)]) [], .call [] (.t [(.a (k2 (F22 a0.1 a0.2.1 a0.2.2).1)), (iv (F22 a0.1 a0.2.1 a0.2.2).2)]) [], .d true, .d true, .d false]) [] [] [] hcx
          (obs := [.call 19 [(.a (k9 a0.1)), (.a (k3 a0.2.1)), (iv a0.2.2)] [] (.t [(.a (k2 (F19 a0.1 a0.2.1 a0.2.2).1)), (iv (F19 a0.1 a0.2.1 a0.2.2).2)]) [], .call 20 [(.a (k9 a0.1)), (.a (k3 a0.2.1)), (iv a0.2.2)] [] (.t [(.a (k2 (F20 a0.1 a0.2.1 a0.2.2).1)), (iv (F20 a0.1 a0.2.1 a0.2.2).2)]) [], .call 21 [(.a (k9 a0.1)), (.a (k3 a0.2.1)), (iv a0.2.2)] [] (.t [(.a (k2 (F21 a0.1 a0.2.1 a0.2.2).1)), (iv (F21 a0.1 a0.2.1 a0.2.2).2)]) [], .call 22 [(.a (k9 a0.1)), (.a (k3 a0.2.1)), (iv a0.2.2)] [] (.t [(.a (k2 (F22 a0.1 a0.2.1 a0.2.2).1)), (iv (F22 a0.1 a0.2.1 a0.2.2).2)]) [], .eq ((((F19 a0.1 a0.2.1 a0.2.2).1.1 : Int) == (F20 a0.1 a0.2.1 a0.2.2).1.1) && ((((F19 a0.1 a0.2.1 a0.2.2).1.2 : Int) == (F20 a0.1 a0.2.1 a0.2.2).1.2) && true)) true, .eq (((F19 a0.1 a0.2.1 a0.2.2).2 : Int) == (F20 a0.1 a0.2.1 a0.2.2).2) true, .eq ((((F21 a0.1 a0.2.1 a0.2.2).1.1 : Int) == (F22 a0.1 a0.2.1 a0.2.2).1.1) && ((((F21 a0.1 a0.2.1 a0.2.2).1.2 : Int) == (F22 a0.1 a0.2.1 a0.2.2).1.2) && true)) false]) (by kernel_rfl) ⟨(C19 a0.1 a0.2.1 a0.2.2), (C20 a0.1 a0.2.1 a0.2.2), (C21 a0.1 a0.2.1 a0.2.2), (C22 a0.1 a0.2.1 a0.2.2), h0, h1, h2, trivial⟩
    | false =>
      have q1 := ne_of_beq_false h1
      have e : (F5 a0) = false := by simp only [F5, h0, h1, cond_true, cond_false]
      rw [e]
      refine con_of (n := 9) Try.func5 rfl (ent Try.func5 (by kernel_rfl) rfl) (by show 1 ≤ Try.f5.ntmps; decide) (by kernel_rfl) trivial (fun cx hcx => ?_)
      exact ret_of (T := T0) hT hm (f := 5000) (orc := [.call [] (.t [(.a (k2 (F19 a0.1 a0.2.1 a0.2.2).1)), (iv (F19 a0.1 a0.2.1 a0.2.2).2)]) [], .call [] (.t [(.a (k2 (F20 a0.1 a0.2.1 a0.2.2).1)), (iv (F20 a0.1 a0.2.1 a0.2.2).2)]) [], .call [] (.t [(.a (k2 (F21 a0.1 a0.2.1 a0.2.2).1)), (iv (F21 a0.1 a0.2.1 a0.2.2).2)]) [], .call [] (.t [(.a (k2 (F22 a0.1 a0.2.1 a0.2.2).1)), (iv (F22 a0.1 a0.2.1 a0.2.2).2)]) [], .d true, .d false]) [] [] [] hcx
        (obs := [.call 19 [(.a (k9 a0.1)), (.a (k3 a0.2.1)), (iv a0.2.2)] [] (.t [(.a (k2 (F19 a0.1 a0.2.1 a0.2.2).1)), (iv (F19 a0.1 a0.2.1 a0.2.2).2)]) [], .call 20 [(.a (k9 a0.1)), (.a (k3 a0.2.1)), (iv a0.2.2)] [] (.t [(.a (k2 (F20 a0.1 a0.2.1 a0.2.2).1)), (iv (F20 a0.1 a0.2.1 a0.2.2).2)]) [], .call 21 [(.a (k9 a0.1)), (.a (k3 a0.2.1)), (iv a0.2.2)] [] (.t [(.a (k2 (F21 a0.1 a0.2.1 a0.2.2).1)), (iv (F21 a0.1 a0.2.1 a0.2.2).2)]) [], .call 22 [(.a (k9 a0.1)), (.a (k3 a0.2.1)), (iv a0.2.2)] [] (.t [(.a (k2 (F22 a0.1 a0.2.1 a0.2.2).1)), (iv (F22 a0.1 a0.2.1 a0.2.2).2)]) [], .eq ((((F19 a0.1 a0.2.1 a0.2.2).1.1 : Int) == (F20 a0.1 a0.2.1 a0.2.2).1.1) && ((((F19 a0.1 a0.2.1 a0.2.2).1.2 : Int) == (F20 a0.1 a0.2.1 a0.2.2).1.2) && true)) true, .eq (((F19 a0.1 a0.2.1 a0.2.2).2 : Int) == (F20 a0.1 a0.2.1 a0.2.2).2) false]) (by kernel_rfl) ⟨(C19 a0.1 a0.2.1 a0.2.2), (C20 a0.1 a0.2.1 a0.2.2), (C21 a0.1 a0.2.1 a0.2.2), (C22 a0.1 a0.2.1 a0.2.2), h0, h1, trivial⟩
  | false =>
    have e : (F5 a0) = false := by simp only [F5, h0, cond_true, cond_false]
    rw [e]
    refine con_of (n := 9) Try.func5 rfl (ent Try.func5 (by kernel_rfl) rfl) (by show 1 ≤ Try.f5.ntmps; decide) (by kernel_rfl) trivial (fun cx hcx => ?_)
    exact ret_of (T := T0) hT hm (f := 5000) (orc := [.call [] (.t [(.a (k2 (F19 a0.1 a0.2.1 a0.2.2).1)), (iv (F19 a0.1 a0.2.1 a0.2.2).2)]) [], .call [] (.t [(.a (k2 (F20 a0.1 a0.2.1 a0.2.2).1)), (iv (F20 a0.1 a0.2.1 a0.2.2).2)]) [], .call [] (.t [(.a (k2 (F21 a0.1 a0.2.1 a0.2.2).1)), (iv (F21 a0.1 a0.2.1 a0.2.2).2)]) [], .call [] (.t [(.a (k2 (F22 a0.1 a0.2.1 a0.2.2).1)), (iv (F22 a0.1 a0.2.1 a0.2.2).2)]) [], .d false]) [] [] [] hcx
      (obs := [.call 19 [(.a (k9 a0.1)), (.a (k3 a0.2.1)), (iv a0.2.2)] [] (.t [(.a (k2 (F19 a0.1 a0.2.1 a0.2.2).1)), (iv (F19 a0.1 a0.2.1 a0.2.2).2)]) [], .call 20 [(.a (k9 a0.1)), (.a (k3 a0.2.1)), (iv a0.2.2)] [] (.t [(.a (k2 (F20 a0.1 a0.2.1 a0.2.2).1)), (iv (F20 a0.1 a0.2.1 a0.2.2).2)]) [], .call 21 [(.a (k9 a0.1)), (.a (k3 a0.2.1)), (iv a0.2.2)] [] (.t [(.a (k2 (F21 a0.1 a0.2.1 a0.2.2).1)), (iv (F21 a0.1 a0.2.1 a0.2.2).2)]) [], .call 22 [(.a (k9 a0.1)), (.a (k3 a0.2.1)), (iv a0.2.2)] [] (.t [(.a (k2 (F22 a0.1 a0.2.1 a0.2.2).1)), (iv (F22 a0.1 a0.2.1 a0.2.2).2)]) [], .eq ((((F19 a0.1 a0.2.1 a0.2.2).1.1 : Int) == (F20 a0.1 a0.2.1 a0.2.2).1.1) && ((((F19 a0.1 a0.2.1 a0.2.2).1.2 : Int) == (F20 a0.1 a0.2.1 a0.2.2).1.2) && true)) false]) (by kernel_rfl) ⟨(C19 a0.1 a0.2.1 a0.2.2), (C20 a0.1 a0.2.1 a0.2.2), (C21 a0.1 a0.2.1 a0.2.2), (C22 a0.1 a0.2.1 a0.2.2), h0, trivial⟩

/-- facet/facetlaw03.FieldLeasts -/
def F3 (a0 : (Int × Int × Int) × (Int × Int × Int) × Int × Int × Int) (a1 : Int × Int × Int) (a2 : Int) : Bool :=
  (bif (((F14 a0 a1 a2).1 : Int) == (F15 a0 a1 a2).1) then
   (bif ((((F14 a0 a1 a2).2.1.1 : Int) == (F15 a0 a1 a2).2.1.1) && ((((F14 a0 a1 a2).2.1.2 : Int) == (F15 a0 a1 a2).2.1.2) && true)) then
    (bif ((F14 a0 a1 a2).2.2.1 == (F15 a0 a1 a2).2.2.1) then
     (bif (((F14 a0 a1 a2).2.2.2 : Int) == (F15 a0 a1 a2).2.2.2) then
      F16
     else
      false)
    else
     false)
   else
    false)
  else
   false)

theorem C3 (a0 : (Int × Int × Int) × (Int × Int × Int) × Int × Int × Int) (a1 : Int × Int × Int) (a2 : Int) : Con Try.prog 3 [(.a (k9 a0)), (.a (k3 a1)), (iv a2)] [] (.v (.bool (F3 a0 a1 a2))) [] := by
  cases h0 : (((F14 a0 a1 a2).1 : Int) == (F15 a0 a1 a2).1) with
  | true =>
    cases h1 : ((((F14 a0 a1 a2).2.1.1 : Int) == (F15 a0 a1 a2).2.1.1) && ((((F14 a0 a1 a2).2.1.2 : Int) == (F15 a0 a1 a2).2.1.2) && true)) with
    | true =>
      cases h2 : ((F14 a0 a1 a2).2.2.1 == (F15 a0 a1 a2).2.2.1) with
      | true =>
        cases h3 : (((F14 a0 a1 a2).2.2.2 : Int) == (F15 a0 a1 a2).2.2.2) with
        | true =>
          have q0 := eq_of_beq h0
          have q3 := eq_of_beq h3
          have e : (F3 a0 a1 a2) = F16 := by simp only [F3, h0, h1, h2, h3, cond_true, cond_false]
          rw [e]
          refine con_of (n := 9) Try.func3 rfl (ent Try.func3 (by kernel_rfl) rfl) (by show 3 ≤ Try.f3.ntmps; decide) (by kernel_rfl) trivial (fun cx hcx => ?_)
          exact ret_of (T := T0) hT hm (f := 5000) (orc := [.call [] (.t [(iv (F14 a0 a1 a2).1), (.a (k2 (F14 a0 a1 a2).2.1)), (.v (.bool (F14 a0 a1 a2).2.2.1)), (iv (F14 a0 a1 a2).2.2.2)]) [], .call [] (.t [(iv (F15 a0 a1 a2).1), (.a (k2 (F15 a0 a1 a2).2.1)), (.v (.bool (F15 a0 a1 a2).2.2.1)), (iv (F15 a0 a1 a2).2.2.2)]) [], .d true, .d true, .d true, .d true, .call [] (.v (.bool F16)) []]) [] [] [] hcx
            (obs := [.call 14 [(.a (k9 a0)), (.a (k3 a1)), (iv a2)] [] (.t [(iv (F14 a0 a1 a2).1), (.a (k2 (F14 a0 a1 a2).2.1)), (.v (.bool (F14 a0 a1 a2).2.2.1)), (iv (F14 a0 a1 a2).2.2.2)]) [], .call 15 [(.a (k9 a0)), (.a (k3 a1)), (iv a2)] [] (.t [(iv (F15 a0 a1 a2).1), (.a (k2 (F15 a0 a1 a2).2.1)), (.v (.bool (F15 a0 a1 a2).2.2.1)), (iv (F15 a0 a1 a2).2.2.2)]) [], .eq (((F14 a0 a1 a2).1 : Int) == (F15 a0 a1 a2).1) true, .eq ((((F14 a0 a1 a2).2.1.1 : Int) == (F15 a0 a1 a2).2.1.1) && ((((F14 a0 a1 a2).2.1.2 : Int) == (F15 a0 a1 a2).2.1.2) && true)) true, .eq ((F14 a0 a1 a2).2.2.1 == (F15 a0 a1 a2).2.2.1) true, .eq (((F14 a0 a1 a2).2.2.2 : Int) == (F15 a0 a1 a2).2.2.2) true, .call 16 [] [] (.v (.bool F16)) []]) (by kernel_rfl) ⟨(C14 a0 a1 a2), (C15 a0 a1 a2), h0, h1, h2, h3, (C16), trivial⟩
        | false =>
          have q0 := eq_of_beq h0
          have q3 := ne_of_beq_false h3
          have e : (F3 a0 a1 a2) = false := by simp only [F3, h0, h1, h2, h3, cond_true, cond_false]
          rw [e]
          refine con_of (n := 9) Try.func3 rfl (ent Try.func3 (by kernel_rfl) rfl) (by show 3 ≤ Try.f3.ntmps; decide) (by kernel_rfl) trivial (fun cx hcx => ?_)
          exact ret_of (T := T0) hT hm (f := 5000) (orc := [.call [] (.t [(iv (F14 a0 a1 a2).1), (.a (k2 (F14 a0 a1 a2).2.1)), (.v (.bool (F14 a0 a1 a2).2.2.1)), (iv (F14 a0 a1 a2).2.2.2)]) [], .call [] (.t [(iv (F15 a0 a1 a2).1), (.a (k2 (F15 a0 a1 a2).2.1)), (.v (.bool (F15 a0 a1 a2).2.2.1)), (iv (F15 a0 a1 a2).2.2.2)]) [], .d true, .d true, .d true, .d false]) [] [] [] hcx
            (obs := [.call 14 [(.a (k9 a0)), (.a (k3 a1)), (iv a2)] [] (.t [(iv (F14 a0 a1 a2).1), (.a (k2 (F14 a0 a1 a2).2.1)), (.v (.bool (F14 a0 a1 a2).2.2.1)), (iv (F14 a0 a1 a2).2.2.2)]) [], .call 15 [(.a (k9 a0)), (.a (k3 a1)), (iv a2)] [] (.t [(iv (F15 a0 a1 a2).1), (.a (k2 (F15 a0 a1 a2).2.1)), (.v (.bool (F15 a0 a1 a2).2.2.1)), (iv (F15 a0 a1 a2).2.2.2)]) [], .eq (((F14 a0 a1 a2).1 : Int) == (F15 a0 a1 a2).1) true, .eq ((((F14 a0 a1 a2).2.1.1 : Int) == (F15 a0 a1 a2).2.1.1) && ((((F14 a0 a1 a2).2.1.2 : Int) == (F15 a0 a1 a2).2.1.2) && true)) true, .eq ((F14 a0 a1 a2).2.2.1 == (F15 a0 a1 a2).2.2.1) true, .eq (((F14 a0 a1 a2).2.2.2 : Int) == (F15 a0 a1 a2).2.2.2) false]) (by kernel_rfl) ⟨(C14 a0 a1 a2), (C15 a0 a1 a2), h0, h1, h2, h3, trivial⟩
      | false =>
        have q0 := eq_of_beq h0
        have e : (F3 a0 a1 a2) = false := by simp only [F3, h0, h1, h2, cond_true, cond_false]
        rw [e]
        refine con_of (n := 9) Try.func3 rfl (ent Try.func3 (by kernel_rfl) rfl) (by show 3 ≤ Try.f3.ntmps; decide) (by kernel_rfl) trivial (fun cx hcx => ?_)
        exact ret_of (T := T0) hT hm (f := 5000) (orc := [.call [] (.t [(iv (F14 a0 a1 a2).1), (.a (k2 (F14 a0 a1 a2).2.1)), (.v (.bool (F14 a0 a1 a2).2.2.1)), (iv (F14 a0 a1 a2).2.2.2)]) [], .call [] (.t [(iv (F15 a0 a1 a2).1), (.a (k2 (F15 a0 a1 a2).2.1)), (.v (.bool (F15 a0 a1 a2).2.2.1)), (iv (F15 a0 a1 a2).2.2.2)]) [], .d true, .d true, .d false]) [] [] [] hcx
          (obs := [.call 14 [(.a (k9 a0)), (.a (k3 a1)), (iv a2)] [] (.t [(iv (F14 a0 a1 a2).1), (.a (k2 (F14 a0 a1 a2).2.1)), (.v (.bool (F14 a0 a1 a2).2.2.1)), (iv (F14 a0 a1 a2).2.2.2)]) [], .call 15 [(.a (k9 a0)), (.a (k3 a1)), (iv a2)] [] (.t [(iv (F15 a0 a1 a2).1), (.a (k2 (F15 a0 a1 a2).2.1)), (.v (.bool (F15 a0 a1 a2).2.2.1)), (iv (F15 a0 a1 a2).2.2.2)]) [], .eq (((F14 a0 a1 a2).1 : Int) == (F15 a0 a1 a2).1) true, .eq ((((F14 a0 a1 a2).2.1.1 : Int) == (F15 a0 a1 a2).2.1.1) && ((((F14 a0 a1 a2).2.1.2 : Int) == (F15 a0 a1 a2).2.1.2) && true)) true, .eq ((F14 a0 a1 a2).2.2.1 == (F15 a0 a1 a2).2.2.1) false]) (by kernel_rfl) ⟨(C14 a0 a1 a2), (C15 a0 a1 a2), h0, h1, h2, trivial⟩
    | false =>
      have q0 := eq_of_beq h0
      have e : (F3 a0 a1 a2) = false := by simp only [F3, h0, h1, cond_true, cond_false]
      rw [e]
      refine con_of (n := 9) Try.func3 rfl (ent Try.func3 (by kernel_rfl) rfl) (by show 3 ≤ Try.f3.ntmps; decide) (by kernel_rfl) trivial (fun cx hcx => ?_)
      exact ret_of (T := T0) hT hm (f := 5000) (orc := [.call [] (.t [(iv (F14 a0 a1 a2).1), (.a (k2 (F14 a0 a1 a2).2.1)), (.v (.bool (F14 a0 a1 a2).2.2.1)), (iv (F14 a0 a1 a2).2.2.2)]) [], .call [] (.t [(iv (F15 a0 a1 a2).1), (.a (k2 (F15 a0 a1 a2).2.1)), (.v (.bool (F15 a0 a1 a2).2.2.1)), (iv (F15 a0 a1 a2).2.2.2)]) [], .d true, .d false]) [] [] [] hcx
        (obs := [.call 14 [(.a (k9 a0)), (.a (k3 a1)), (iv a2)] [] (.t [(iv (F14 a0 a1 a2).1), (.a (k2 (F14 a0 a1 a2).2.1)), (.v (.bool (F14 a0 a1 a2).2.2.1)), (iv (F14 a0 a1 a2).2.2.2)]) [], .call 15 [(.a (k9 a0)), (.a (k3 a1)), (iv a2)] [] (.t [(iv (F15 a0 a1 a2).1), (.a (k2 (F15 a0 a1 a2).2.1)), (.v (.bool (F15 a0 a1 a2).2.2.1)), (iv (F15 a0 a1 a2).2.2.2)]) [], .eq (((F14 a0 a1 a2).1 : Int) == (F15 a0 a1 a2).1) true, .eq ((((F14 a0 a1 a2).2.1.1 : Int) == (F15 a0 a1 a2).2.1.1) && ((((F14 a0 a1 a2).2.1.2 : Int) == (F15 a0 a1 a2).2.1.2) && true)) false]) (by kernel_rfl) ⟨(C14 a0 a1 a2), (C15 a0 a1 a2), h0, h1, trivial⟩
  | false =>
    have q0 := ne_of_beq_false h0
    have e : (F3 a0 a1 a2) = false := by simp only [F3, h0, cond_true, cond_false]
    rw [e]
    refine con_of (n := 9) Try.func3 rfl (ent Try.func3 (by kernel_rfl) rfl) (by show 3 ≤ Try.f3.ntmps; decide) (by kernel_rfl) trivial (fun cx hcx => ?_)
    exact ret_of (T := T0) hT hm (f := 5000) (orc := [.call [] (.t [(iv (F14 a0 a1 a2).1), (.a (k2 (F14 a0 a1 a2).2.1)), (.v (.bool (F14 a0 a1 a2).2.2.1)), (iv (F14 a0 a1 a2).2.2.2)]) [], .call [] (.t [(iv (F15 a0 a1 a2).1), (.a (k2 (F15 a0 a1 a2).2.1)), (.v (.bool (F15 a0 a1 a2).2.2.1)), (iv (F15 a0 a1 a2).2.2.2)]) [], .d false]) [] [] [] hcx
      (obs := [.call 14 [(.a (k9 a0)), (.a (k3 a1)), (iv a2)] [] (.t [(iv (F14 a0 a1 a2).1), (.a (k2 (F14 a0 a1 a2).2.1)), (.v (.bool (F14 a0 a1 a2).2.2.1)), (iv (F14 a0 a1 a2).2.2.2)]) [], .call 15 [(.a (k9 a0)), (.a (k3 a1)), (iv a2)] [] (.t [(iv (F15 a0 a1 a2).1), (.a (k2 (F15 a0 a1 a2).2.1)), (.v (.bool (F15 a0 a1 a2).2.2.1)), (iv (F15 a0 a1 a2).2.2.2)]) [], .eq (((F14 a0 a1 a2).1 : Int) == (F15 a0 a1 a2).1) false]) (by kernel_rfl) ⟨(C14 a0 a1 a2), (C15 a0 a1 a2), h0, trivial⟩

/-- facet/facetlaw03.FieldBetweens -/
def F8 (a0 : (Int × Int × Int) × (Int × Int × Int) × Int × Int × Int) (a1 : (Int × Int × Int) × (Int × Int × Int) × Int × Int × Int) (a2 : Int) : Bool :=
  (bif ((((F27 a0 a1 a2).1.1 : Int) == (F28 a0 a1 a2).1.1) && ((((F27 a0 a1 a2).1.2 : Int) == (F28 a0 a1 a2).1.2) && true)) then
   (bif (((F27 a0 a1 a2).2 : Int) == (F28 a0 a1 a2).2) then
    F16
   else
    false)
  else
   false)

theorem C8 (a0 : (Int × Int × Int) × (Int × Int × Int) × Int × Int × Int) (a1 : (Int × Int × Int) × (Int × Int × Int) × Int × Int × Int) (a2 : Int) : Con Try.prog 8 [(.a (k9 a0)), (.a (k9 a1)), (iv a2)] [] (.v (.bool (F8 a0 a1 a2))) [] := by
  cases h0 : ((((F27 a0 a1 a2).1.1 : Int) == (F28 a0 a1 a2).1.1) && ((((F27 a0 a1 a2).1.2 : Int) == (F28 a0 a1 a2).1.2) && true)) with
  | true =>
    cases h1 : (((F27 a0 a1 a2).2 : Int) == (F28 a0 a1 a2).2) with
    | true =>
      have q1 := eq_of_beq h1
      have e : (F8 a0 a1 a2) = F16 := by simp only [F8, h0, h1, cond_true, cond_false]
      rw [e]
      refine con_of (n := 9) Try.func8 rfl (ent Try.func8 (by kernel_rfl) rfl) (by show 3 ≤ Try.f8.ntmps; decide) (by kernel_rfl) trivial (fun cx hcx => ?_)
      exact ret_of (T := T0) hT hm (f := 5000) (orc := [.call [] (.t [(.a (k2 (F27 a0 a1 a2).1)), (iv (F27 a0 a1 a2).2)]) [], .call [] (.t [(.a (k2 (F28 a0 a1 a2).1)), (iv (F28 a0 a1 a2).2)]) [], .d true, .d true, .call [] (.v (.bool F16)) []]) [] [] [] hcx
        (obs := [.call 27 [(.a (k9 a0)), (.a (k9 a1)), (iv a2)] [] (.t [(.a (k2 (F27 a0 a1 a2).1)), (iv (F27 a0 a1 a2).2)]) [], .call 28 [(.a (k9 a0)), (.a (k9 a1)), (iv a2)] [] (.t [(.a (k2 (F28 a0 a1 a2).1)), (iv (F28 a0 a1 a2).2)]) [], .eq ((((F27 a0 a1 a2).1.1 : Int) == (F28 a0 a1 a2).1.1) && ((((F27 a0 a1 a2).1.2 : Int) == (F28 a0 a1 a2).1.2) && true)) true, .eq (((F27 a0 a1 a2).2 : Int) == (F28 a0 a1 a2).2) true, .call 16 [] [] (.v (.bool F16)) []]) (by kernel_rfl) ⟨(C27 a0 a1 a2), (C28 a0 a1 a2), h0, h1, (C16), trivial⟩
    | false =>
      have q1 := ne_of_beq_false h1
      have e : (F8 a0 a1 a2) = false := by simp only [F8, h0, h1, cond_true, cond_false]
      rw [e]
      refine con_of (n := 9) Try.func8 rfl (ent Try.func8 (by kernel_rfl) rfl) (by show 3 ≤ Try.f8.ntmps; decide) (by kernel_rfl) trivial (fun cx hcx => ?_)
      exact ret_of (T := T0) hT hm (f := 5000) (orc := [.call [] (.t [(.a (k2 (F27 a0 a1 a2).1)), (iv (F27 a0 a1 a2).2)]) [], .call [] (.t [(.a (k2 (F28 a0 a1 a2).1)), (iv (F28 a0 a1 a2).2)]) [], .d true, .d false]) [] [] [] hcx
        (obs := [.call 27 [(.a (k9 a0)), (.a (k9 a1)), (iv a2)] [] (.t [(.a (k2 (F27 a0 a1 a2).1)), (iv (F27 a0 a1 a2).2)]) [], .call 28 [(.a (k9 a0)), (.a (k9 a1)), (iv a2)] [] (.t [(.a (k2 (F28 a0 a1 a2).1)), (iv (F28 a0 a1 a2).2)]) [], .eq ((((F27 a0 a1 a2).1.1 : Int) == (F28 a0 a1 a2).1.1) && ((((F27 a0 a1 a2).1.2 : Int) == (F28 a0 a1 a2).1.2) && true)) true, .eq (((F27 a0 a1 a2).2 : Int) == (F28 a0 a1 a2).2) false]) (by kernel_rfl) ⟨(C27 a0 a1 a2), (C28 a0 a1 a2), h0, h1, trivial⟩
  | false =>
    have e : (F8 a0 a1 a2) = false := by simp only [F8, h0, cond_true, cond_false]
    rw [e]
    refine con_of (n := 9) Try.func8 rfl (ent Try.func8 (by kernel_rfl) rfl) (by show 3 ≤ Try.f8.ntmps; decide) (by kernel_rfl) trivial (fun cx hcx => ?_)
    exact ret_of (T := T0) hT hm (f := 5000) (orc := [.call [] (.t [(.a (k2 (F27 a0 a1 a2).1)), (iv (F27 a0 a1 a2).2)]) [], .call [] (.t [(.a (k2 (F28 a0 a1 a2).1)), (iv (F28 a0 a1 a2).2)]) [], .d false]) [] [] [] hcx
      (obs := [.call 27 [(.a (k9 a0)), (.a (k9 a1)), (iv a2)] [] (.t [(.a (k2 (F27 a0 a1 a2).1)), (iv (F27 a0 a1 a2).2)]) [], .call 28 [(.a (k9 a0)), (.a (k9 a1)), (iv a2)] [] (.t [(.a (k2 (F28 a0 a1 a2).1)), (iv (F28 a0 a1 a2).2)]) [], .eq ((((F27 a0 a1 a2).1.1 : Int) == (F28 a0 a1 a2).1.1) && ((((F27 a0 a1 a2).1.2 : Int) == (F28 a0 a1 a2).1.2) && true)) false]) (by kernel_rfl) ⟨(C27 a0 a1 a2), (C28 a0 a1 a2), h0, trivial⟩

/-- facet/facetlaw03.FieldRims -/
def F6 (a0 : ((Int × Int × Int) × (Int × Int × Int) × Int × Int × Int) × (Int × Int × Int) × Int) : Bool :=
  (bif (((F23 a0.1 a0.2.2).1 : Int) != (F24 a0.1 a0.2.2).1) then
   false
  else
   (bif (((F23 a0.1 a0.2.2).2 : Int) != (F24 a0.1 a0.2.2).2) then
    false
   else
    (bif (((F23 a0.1 0).2 : Int) != 0) then
     F16
    else
     (bif (((F19 a0.1 a0.2.1 a0.2.2).2 : Int) != 0) then
      F16
     else
      (bif (decide (((F19 a0.1 a0.2.1 a0.2.2).1.1 : Int) ≤ (F23 a0.1 0).1)) then
       F16
      else
       false)))))

theorem C6 (a0 : ((Int × Int × Int) × (Int × Int × Int) × Int × Int × Int) × (Int × Int × Int) × Int) : Con Try.prog 6 [(.a [(iv a0.1.1.1), (iv a0.1.1.2.1), (iv a0.1.1.2.2), (iv a0.1.2.1.1), (iv a0.1.2.1.2.1), (iv a0.1.2.1.2.2), (iv a0.1.2.2.1), (iv a0.1.2.2.2.1), (iv a0.1.2.2.2.2), (iv a0.2.1.1), (iv a0.2.1.2.1), (iv a0.2.1.2.2), (iv a0.2.2)])] [] (.v (.bool (F6 a0))) [] := by
  cases h0 : (((F23 a0.1 a0.2.2).1 : Int) != (F24 a0.1 a0.2.2).1) with
  | true =>
    have q0 := bne_iff_ne.1 h0
    have e : (F6 a0) = false := by simp only [F6, h0, cond_true, cond_false]
    rw [e]
    refine con_of (n := 9) Try.func6 rfl (ent Try.func6 (by kernel_rfl) rfl) (by show 1 ≤ Try.f6.ntmps; decide) (by kernel_rfl) trivial (fun cx hcx => ?_)
    exact ret_of (T := T0) hT hm (f := 5000) (orc := [.call [] (.t (k2 (F23 a0.1 a0.2.2))) [], .call [] (.t (k2 (F24 a0.1 a0.2.2))) [], .d true]) [] [] [] hcx
      (obs := [.call 23 [(.a (k9 a0.1)), (iv a0.2.2)] [] (.t (k2 (F23 a0.1 a0.2.2))) [], .call 24 [(.a (k9 a0.1)), (iv a0.2.2)] [] (.t (k2 (F24 a0.1 a0.2.2))) [], .eq (((F23 a0.1 a0.2.2).1 : Int) != (F24 a0.1 a0.2.2).1) true]) (by kernel_rfl) ⟨(C23 a0.1 a0.2.2), (C24 a0.1 a0.2.2), h0, trivial⟩
  | false =>
    cases h1 : (((F23 a0.1 a0.2.2).2 : Int) != (F24 a0.1 a0.2.2).2) with
    | true =>
      have q0 := bne_eq_false_iff_eq.1 h0
      have q1 := bne_iff_ne.1 h1
      have e : (F6 a0) = false := by simp only [F6, h0, h1, cond_true, cond_false]
      rw [e]
      refine con_of (n := 9) Try.func6 rfl (ent Try.func6 (by kernel_rfl) rfl) (by show 1 ≤ Try.f6.ntmps; decide) (by kernel_rfl) trivial (fun cx hcx => ?_)
      exact ret_of (T := T0) hT hm (f := 5000) (orc := [.call [] (.t (k2 (F23 a0.1 a0.2.2))) [], .call [] (.t (k2 (F24 a0.1 a0.2.2))) [], .d false, .d true]) [] [] [] hcx
        (obs := [.call 23 [(.a (k9 a0.1)), (iv a0.2.2)] [] (.t (k2 (F23 a0.1 a0.2.2))) [], .call 24 [(.a (k9 a0.1)), (iv a0.2.2)] [] (.t (k2 (F24 a0.1 a0.2.2))) [], .eq (((F23 a0.1 a0.2.2).1 : Int) != (F24 a0.1 a0.2.2).1) false, .eq (((F23 a0.1 a0.2.2).2 : Int) != (F24 a0.1 a0.2.2).2) true]) (by kernel_rfl) ⟨(C23 a0.1 a0.2.2), (C24 a0.1 a0.2.2), h0, h1, trivial⟩
    | false =>
      cases h2 : (((F23 a0.1 0).2 : Int) != 0) with
      | true =>
        have q0 := bne_eq_false_iff_eq.1 h0
        have q1 := bne_eq_false_iff_eq.1 h1
        have q2 := bne_iff_ne.1 h2
        have e : (F6 a0) = F16 := by simp only [F6, h0, h1, h2, cond_true, cond_false]
        rw [e]
        refine con_of (n := 9) Try.func6 rfl (ent Try.func6 (by kernel_rfl) rfl) (by show 1 ≤ Try.f6.ntmps; decide) (by kernel_rfl) trivial (fun cx hcx => ?_)
        exact ret_of (T := T0) hT hm (f := 5000) (orc := [.call [] (.t (k2 (F23 a0.1 a0.2.2))) [], .call [] (.t (k2 (F24 a0.1 a0.2.2))) [], .d false, .d false, .call [] (.t (k2 (F23 a0.1 0))) [], .call [] (.t [(.a (k2 (F19 a0.1 a0.2.1 a0.2.2).1)), (iv (F19 a0.1 a0.2.1 a0.2.2).2)]) [], .d true, .call [] (.v (.bool F16)) []]) [] [] [] hcx
          (obs := [.call 23 [(.a (k9 a0.1)), (iv a0.2.2)] [] (.t (k2 (F23 a0.1 a0.2.2))) [], .call 24 [(.a (k9 a0.1)), (iv a0.2.2)] [] (.t (k2 (F24 a0.1 a0.2.2))) [], .eq (((F23 a0.1 a0.2.2).1 : Int) != (F24 a0.1 a0.2.2).1) false, .eq (((F23 a0.1 a0.2.2).2 : Int) != (F24 a0.1 a0.2.2).2) false, .call 23 [(.a (k9 a0.1)), (iv 0)] [] (.t (k2 (F23 a0.1 0))) [], .call 19 [(.a (k9 a0.1)), (.a (k3 a0.2.1)), (iv a0.2.2)] [] (.t [(.a (k2 (F19 a0.1 a0.2.1 a0.2.2).1)), (iv (F19 a0.1 a0.2.1 a0.2.2).2)]) [], .eq (((F23 a0.1 0).2 : Int) != 0) true, .call 16 [] [] (.v (.bool F16)) []]) (by kernel_rfl) ⟨(C23 a0.1 a0.2.2), (C24 a0.1 a0.2.2), h0, h1, (C23 a0.1 0), (C19 a0.1 a0.2.1 a0.2.2), h2, (C16), trivial⟩
      | false =>
        cases h3 : (((F19 a0.1 a0.2.1 a0.2.2).2 : Int) != 0) with
        | true =>
          have q0 := bne_eq_false_iff_eq.1 h0
          have q1 := bne_eq_false_iff_eq.1 h1
          have q2 := bne_eq_false_iff_eq.1 h2
          have q3 := bne_iff_ne.1 h3
          have e : (F6 a0) = F16 := by simp only [F6, h0, h1, h2, h3, cond_true, cond_false]
          rw [e]
          refine con_of (n := 9) Try.func6 rfl (ent Try.func6 (by kernel_rfl) rfl) (by show 1 ≤ Try.f6.ntmps; decide) (by kernel_rfl) trivial (fun cx hcx => ?_)
          exact ret_of (T := T0) hT hm (f := 5000) (orc := [.call [] (.t (k2 (F23 a0.1 a0.2.2))) [], .call [] (.t (k2 (F24 a0.1 a0.2.2))) [], .d false, .d false, .call [] (.t (k2 (F23 a0.1 0))) [], .call [] (.t [(.a (k2 (F19 a0.1 a0.2.1 a0.2.2).1)), (iv (F19 a0.1 a0.2.1 a0.2.2).2)]) [], .d false, .d true, .call [] (.v (.bool F16)) []]) [] [] [] hcx
            (obs := [.call 23 [(.a (k9 a0.1)), (iv a0.2.2)] [] (.t (k2 (F23 a0.1 a0.2.2))) [], .call 24 [(.a (k9 a0.1)), (iv a0.2.2)] [] (.t (k2 (F24 a0.1 a0.2.2))) [], .eq (((F23 a0.1 a0.2.2).1 : Int) != (F24 a0.1 a0.2.2).1) false, .eq (((F23 a0.1 a0.2.2).2 : Int) != (F24 a0.1 a0.2.2).2) false, .call 23 [(.a (k9 a0.1)), (iv 0)] [] (.t (k2 (F23 a0.1 0))) [], .call 19 [(.a (k9 a0.1)), (.a (k3 a0.2.1)), (iv a0.2.2)] [] (.t [(.a (k2 (F19 a0.1 a0.2.1 a0.2.2).1)), (iv (F19 a0.1 a0.2.1 a0.2.2).2)]) [], .eq (((F23 a0.1 0).2 : Int) != 0) false, .eq (((F19 a0.1 a0.2.1 a0.2.2).2 : Int) != 0) true, .call 16 [] [] (.v (.bool F16)) []]) (by kernel_rfl) ⟨(C23 a0.1 a0.2.2), (C24 a0.1 a0.2.2), h0, h1, (C23 a0.1 0), (C19 a0.1 a0.2.1 a0.2.2), h2, h3, (C16), trivial⟩
        | false =>
          cases h4 : (decide (((F19 a0.1 a0.2.1 a0.2.2).1.1 : Int) ≤ (F23 a0.1 0).1)) with
          | true =>
            have q0 := bne_eq_false_iff_eq.1 h0
            have q1 := bne_eq_false_iff_eq.1 h1
            have q2 := bne_eq_false_iff_eq.1 h2
            have q3 := bne_eq_false_iff_eq.1 h3
            have q4 := of_decide_eq_true h4
            have e : (F6 a0) = F16 := by simp only [F6, h0, h1, h2, h3, h4, cond_true, cond_false]
            rw [e]
            refine con_of (n := 9) Try.func6 rfl (ent Try.func6 (by kernel_rfl) rfl) (by show 1 ≤ Try.f6.ntmps; decide) (by kernel_rfl) trivial (fun cx hcx => ?_)
            exact ret_of (T := T0) hT hm (f := 5000) (orc := [.call [] (.t (k2 (F23 a0.1 a0.2.2))) [], .call [] (.t (k2 (F24 a0.1 a0.2.2))) [], .d false, .d false, .call [] (.t (k2 (F23 a0.1 0))) [], .call [] (.t [(.a (k2 (F19 a0.1 a0.2.1 a0.2.2).1)), (iv (F19 a0.1 a0.2.1 a0.2.2).2)]) [], .d false, .d false, .d true, .call [] (.v (.bool F16)) []]) [] [] [] hcx
              (obs := [.call 23 [(.a (k9 a0.1)), (iv a0.2.2)] [] (.t (k2 (F23 a0.1 a0.2.2))) [], .call 24 [(.a (k9 a0.1)), (iv a0.2.2)] [] (.t (k2 (F24 a0.1 a0.2.2))) [], .eq (((F23 a0.1 a0.2.2).1 : Int) != (F24 a0.1 a0.2.2).1) false, .eq (((F23 a0.1 a0.2.2).2 : Int) != (F24 a0.1 a0.2.2).2) false, .call 23 [(.a (k9 a0.1)), (iv 0)] [] (.t (k2 (F23 a0.1 0))) [], .call 19 [(.a (k9 a0.1)), (.a (k3 a0.2.1)), (iv a0.2.2)] [] (.t [(.a (k2 (F19 a0.1 a0.2.1 a0.2.2).1)), (iv (F19 a0.1 a0.2.1 a0.2.2).2)]) [], .eq (((F23 a0.1 0).2 : Int) != 0) false, .eq (((F19 a0.1 a0.2.1 a0.2.2).2 : Int) != 0) false, .eq (decide (((F19 a0.1 a0.2.1 a0.2.2).1.1 : Int) ≤ (F23 a0.1 0).1)) true, .call 16 [] [] (.v (.bool F16)) []]) (by kernel_rfl) ⟨(C23 a0.1 a0.2.2), (C24 a0.1 a0.2.2), h0, h1, (C23 a0.1 0), (C19 a0.1 a0.2.1 a0.2.2), h2, h3, h4, (C16), trivial⟩
          | false =>
            have q0 := bne_eq_false_iff_eq.1 h0
            have q1 := bne_eq_false_iff_eq.1 h1
            have q2 := bne_eq_false_iff_eq.1 h2
            have q3 := bne_eq_false_iff_eq.1 h3
            have q4 := of_decide_eq_false h4
            have e : (F6 a0) = false := by simp only [F6, h0, h1, h2, h3, h4, cond_true, cond_false]
            rw [e]
            refine con_of (n := 9) Try.func6 rfl (ent Try.func6 (by kernel_rfl) rfl) (by show 1 ≤ Try.f6.ntmps; decide) (by kernel_rfl) trivial (fun cx hcx => ?_)
            exact ret_of (T := T0) hT hm (f := 5000) (orc := [.call [] (.t (k2 (F23 a0.1 a0.2.2))) [], .call [] (.t (k2 (F24 a0.1 a0.2.2))) [], .d false, .d false, .call [] (.t (k2 (F23 a0.1 0))) [], .call [] (.t [(.a (k2 (F19 a0.1 a0.2.1 a0.2.2).1)), (iv (F19 a0.1 a0.2.1 a0.2.2).2)]) [], .d false, .d false, .d false]) [] [] [] hcx
              (obs := [.call 23 [(.a (k9 a0.1)), (iv a0.2.2)] [] (.t (k2 (F23 a0.1 a0.2.2))) [], .call 24 [(.a (k9 a0.1)), (iv a0.2.2)] [] (.t (k2 (F24 a0.1 a0.2.2))) [], .eq (((F23 a0.1 a0.2.2).1 : Int) != (F24 a0.1 a0.2.2).1) false, .eq (((F23 a0.1 a0.2.2).2 : Int) != (F24 a0.1 a0.2.2).2) false, .call 23 [(.a (k9 a0.1)), (iv 0)] [] (.t (k2 (F23 a0.1 0))) [], .call 19 [(.a (k9 a0.1)), (.a (k3 a0.2.1)), (iv a0.2.2)] [] (.t [(.a (k2 (F19 a0.1 a0.2.1 a0.2.2).1)), (iv (F19 a0.1 a0.2.1 a0.2.2).2)]) [], .eq (((F23 a0.1 0).2 : Int) != 0) false, .eq (((F19 a0.1 a0.2.1 a0.2.2).2 : Int) != 0) false, .eq (decide (((F19 a0.1 a0.2.1 a0.2.2).1.1 : Int) ≤ (F23 a0.1 0).1)) false]) (by kernel_rfl) ⟨(C23 a0.1 a0.2.2), (C24 a0.1 a0.2.2), h0, h1, (C23 a0.1 0), (C19 a0.1 a0.2.1 a0.2.2), h2, h3, h4, trivial⟩

end Go.Proofs.Ytjlekmjnkpcnoaa
