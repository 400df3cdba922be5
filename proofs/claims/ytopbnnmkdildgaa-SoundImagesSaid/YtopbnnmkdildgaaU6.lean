/-
  Parts of the proofs of the laws: the executor, what functions of the program compute, and that it is what the statements ask. No premise.
-/
import Derived.Test.YtopbnnmkdildgaaU5
namespace Go.Proofs.Ytopbnnmkdildgaa
open Go.Proofs Go.Aw Go.RowKit
set_option maxRecDepth 100000
set_option linter.unusedVariables false
set_option linter.unusedSimpArgs false

/-- facet/sound.Images$1 -/
def F68 (a0 : ((Int × Int × Int) × (Int × Int × Int) × Int × Int × Int) × Int × Int) : Bool :=
  (decide (((if (a0.1.2.2.2.2 : Int) < (if (a0.1.2.1.2.2 : Int) < a0.1.1.2.2 then a0.1.2.1.2.2 else a0.1.1.2.2) then a0.1.2.2.2.2 else (if (a0.1.2.1.2.2 : Int) < a0.1.1.2.2 then a0.1.2.1.2.2 else a0.1.1.2.2)) : Int) < 0))

theorem C68 (a0 : ((Int × Int × Int) × (Int × Int × Int) × Int × Int × Int) × Int × Int) : Con Try.prog 68 [(.a [(iv a0.1.1.1), (iv a0.1.1.2.1), (iv a0.1.1.2.2), (iv a0.1.2.1.1), (iv a0.1.2.1.2.1), (iv a0.1.2.1.2.2), (iv a0.1.2.2.1), (iv a0.1.2.2.2.1), (iv a0.1.2.2.2.2), (iv a0.2.1), (iv a0.2.2)])] [] (.v (.bool (F68 a0))) [] := by
  have e : (F68 a0) = (decide (((if (a0.1.2.2.2.2 : Int) < (if (a0.1.2.1.2.2 : Int) < a0.1.1.2.2 then a0.1.2.1.2.2 else a0.1.1.2.2) then a0.1.2.2.2.2 else (if (a0.1.2.1.2.2 : Int) < a0.1.1.2.2 then a0.1.2.1.2.2 else a0.1.1.2.2)) : Int) < 0)) := by simp only [F68]
  rw [e]
  refine con_of (n := 9) Try.func68 rfl (ent Try.func68 (by kernel_rfl) rfl) (by show 1 ≤ Try.f68.ntmps; decide) (by kernel_rfl) trivial (fun cx hcx => ?_)
  exact ret_of (T := T0) hT hm (f := 5000) (orc := []) [] [] [] hcx
    (obs := []) (by kernel_rfl) trivial

noncomputable def B97_L_f68_0 : Code := (loopAtD [1, 0, 1] [] (Try.f97.body.getD .skip) []).1
noncomputable def K97_L_f68_0 : List K := (loopAtD [1, 0, 1] [] (Try.f97.body.getD .skip) []).2

/-- a round of loop 0 of slices.IndexFunc[[]facet/api.Pulse,facet/api.Pulse]; the variables: v1 = s8 -/
def S97_L_f68_0 (a0 : List (((Int × Int × Int) × (Int × Int × Int) × Int × Int × Int) × Int × Int)) : Int → (Int) ⊕ (Int)
  | v1 =>
   (bif (decide ((v1 : Int) < ((a0.length : Nat) : Int))) then
    (bif (F68 (a0.getD (Int.toNat v1) default)) then
     (.inr v1)
    else
     (.inl (v1 + 1)))
   else
    (.inr (-1)))

set_option maxHeartbeats 4000000 in
theorem L97_L_f68_0 (a0 : List (((Int × Int × Int) × (Int × Int × Int) × Int × Int × Int) × Int × Int)) (l0 : a0.length ≤ 9223372036854775807) {cx : Cx} (hcx : cx.base = 1) : ∀ (n : Nat) (v1 : Int), 0 ≤ v1 → Int.toNat (((a0.length : Nat) : Int) - v1) < n → Aw.Good Try.prog none 9 (bodyPost Try.prog Try.f97 (RR cx (iv (loopF (S97_L_f68_0 a0) n v1)) [] [])) cx [] (.l B97_L_f68_0 n :: K97_L_f68_0) ⟨[(.s 0 0 a0.length 11), (.v (.func (.func 68) #[] #[])), .u, .u, .u, .u, .u, (iv ((a0.length : Nat) : Int)), (iv v1), .u, .u, .u, .u, .u, .u, .u, .u, .u, .u], [(.live false true (flat c41 a0))]⟩ := by
  intro n
  induction n with
  | zero => intro v1 hi hn; exact absurd hn (Nat.not_lt_zero _)
  | succ n ih =>
    intro v1 hi hn
    refine good_round ?_
    cases h0 : (decide ((v1 : Int) < ((a0.length : Nat) : Int))) with
    | true =>
      cases h1 : (F68 (a0.getD (Int.toNat v1) default)) with
      | true =>
        have q0 := of_decide_eq_true h0
        have e : S97_L_f68_0 a0 v1 = (.inr v1) := by simp only [S97_L_f68_0, h0, h1, cond_true, cond_false]
        rw [show loopF (S97_L_f68_0 a0) (n + 1) v1 = thenF (S97_L_f68_0 a0) n (S97_L_f68_0 a0 v1) from rfl, e]
        exact ret_of (T := T0) hT hm (f := 5000) (orc := [.d true, .ld [(iv (a0.getD (Int.toNat v1) default).1.1.1), (iv (a0.getD (Int.toNat v1) default).1.1.2.1), (iv (a0.getD (Int.toNat v1) default).1.1.2.2), (iv (a0.getD (Int.toNat v1) default).1.2.1.1), (iv (a0.getD (Int.toNat v1) default).1.2.1.2.1), (iv (a0.getD (Int.toNat v1) default).1.2.1.2.2), (iv (a0.getD (Int.toNat v1) default).1.2.2.1), (iv (a0.getD (Int.toNat v1) default).1.2.2.2.1), (iv (a0.getD (Int.toNat v1) default).1.2.2.2.2), (iv (a0.getD (Int.toNat v1) default).2.1), (iv (a0.getD (Int.toNat v1) default).2.2)], .call [] (.v (.bool (F68 (a0.getD (Int.toNat v1) default)))) [], .d true]) [] [] [] hcx
          (obs := [.eq (decide ((v1 : Int) < ((a0.length : Nat) : Int))) true, .pr (0 ≤ (v1 : Int) ∧ (v1 : Int) < ((a0.length : Nat) : Int)), .pr (((((flat c41 a0)).drop (0 + Int.toNat v1 * 11)).take 11) = [(iv (a0.getD (Int.toNat v1) default).1.1.1), (iv (a0.getD (Int.toNat v1) default).1.1.2.1), (iv (a0.getD (Int.toNat v1) default).1.1.2.2), (iv (a0.getD (Int.toNat v1) default).1.2.1.1), (iv (a0.getD (Int.toNat v1) default).1.2.1.2.1), (iv (a0.getD (Int.toNat v1) default).1.2.1.2.2), (iv (a0.getD (Int.toNat v1) default).1.2.2.1), (iv (a0.getD (Int.toNat v1) default).1.2.2.2.1), (iv (a0.getD (Int.toNat v1) default).1.2.2.2.2), (iv (a0.getD (Int.toNat v1) default).2.1), (iv (a0.getD (Int.toNat v1) default).2.2)]), .call 68 [(.a [(iv (a0.getD (Int.toNat v1) default).1.1.1), (iv (a0.getD (Int.toNat v1) default).1.1.2.1), (iv (a0.getD (Int.toNat v1) default).1.1.2.2), (iv (a0.getD (Int.toNat v1) default).1.2.1.1), (iv (a0.getD (Int.toNat v1) default).1.2.1.2.1), (iv (a0.getD (Int.toNat v1) default).1.2.1.2.2), (iv (a0.getD (Int.toNat v1) default).1.2.2.1), (iv (a0.getD (Int.toNat v1) default).1.2.2.2.1), (iv (a0.getD (Int.toNat v1) default).1.2.2.2.2), (iv (a0.getD (Int.toNat v1) default).2.1), (iv (a0.getD (Int.toNat v1) default).2.2)])] [] (.v (.bool (F68 (a0.getD (Int.toNat v1) default)))) [], .eq (F68 (a0.getD (Int.toNat v1) default)) true]) (by kernel_rfl) ⟨h0, (show 0 ≤ (v1 : Int) ∧ (v1 : Int) < ((a0.length : Nat) : Int) from by first | omega | (rw [W_eq] <;> omega) | exact u64_nn _), (ld_part c41_len default a0 v1 0 11 (by omega) (by decide) (by omega) rfl), (C68 (a0.getD (Int.toNat v1) default)), h1, trivial⟩
      | false =>
        have q0 := of_decide_eq_true h0
        have e : S97_L_f68_0 a0 v1 = (.inl (v1 + 1)) := by simp only [S97_L_f68_0, h0, h1, cond_true, cond_false]
        rw [loopF_inl e]
        refine back_of (T := T0) hT hm (f := 5000) (orc := [.d true, .ld [(iv (a0.getD (Int.toNat v1) default).1.1.1), (iv (a0.getD (Int.toNat v1) default).1.1.2.1), (iv (a0.getD (Int.toNat v1) default).1.1.2.2), (iv (a0.getD (Int.toNat v1) default).1.2.1.1), (iv (a0.getD (Int.toNat v1) default).1.2.1.2.1), (iv (a0.getD (Int.toNat v1) default).1.2.1.2.2), (iv (a0.getD (Int.toNat v1) default).1.2.2.1), (iv (a0.getD (Int.toNat v1) default).1.2.2.2.1), (iv (a0.getD (Int.toNat v1) default).1.2.2.2.2), (iv (a0.getD (Int.toNat v1) default).2.1), (iv (a0.getD (Int.toNat v1) default).2.2)], .call [] (.v (.bool (F68 (a0.getD (Int.toNat v1) default)))) [], .d false]) [] [0, 1, 7, 8] [] hcx (body := B97_L_f68_0) (m := n) (k' := K97_L_f68_0) (s' := ⟨[(.s 0 0 a0.length 11), (.v (.func (.func 68) #[] #[])), .u, .u, .u, .u, .u, (iv ((a0.length : Nat) : Int)), (iv (W (v1 + 1))), .u, .u, .u, .u, .u, .u, .u, .u, .u, .u], [(.live false true (flat c41 a0))]⟩)
          (obs := [.eq (decide ((v1 : Int) < ((a0.length : Nat) : Int))) true, .pr (0 ≤ (v1 : Int) ∧ (v1 : Int) < ((a0.length : Nat) : Int)), .pr (((((flat c41 a0)).drop (0 + Int.toNat v1 * 11)).take 11) = [(iv (a0.getD (Int.toNat v1) default).1.1.1), (iv (a0.getD (Int.toNat v1) default).1.1.2.1), (iv (a0.getD (Int.toNat v1) default).1.1.2.2), (iv (a0.getD (Int.toNat v1) default).1.2.1.1), (iv (a0.getD (Int.toNat v1) default).1.2.1.2.1), (iv (a0.getD (Int.toNat v1) default).1.2.1.2.2), (iv (a0.getD (Int.toNat v1) default).1.2.2.1), (iv (a0.getD (Int.toNat v1) default).1.2.2.2.1), (iv (a0.getD (Int.toNat v1) default).1.2.2.2.2), (iv (a0.getD (Int.toNat v1) default).2.1), (iv (a0.getD (Int.toNat v1) default).2.2)]), .call 68 [(.a [(iv (a0.getD (Int.toNat v1) default).1.1.1), (iv (a0.getD (Int.toNat v1) default).1.1.2.1), (iv (a0.getD (Int.toNat v1) default).1.1.2.2), (iv (a0.getD (Int.toNat v1) default).1.2.1.1), (iv (a0.getD (Int.toNat v1) default).1.2.1.2.1), (iv (a0.getD (Int.toNat v1) default).1.2.1.2.2), (iv (a0.getD (Int.toNat v1) default).1.2.2.1), (iv (a0.getD (Int.toNat v1) default).1.2.2.2.1), (iv (a0.getD (Int.toNat v1) default).1.2.2.2.2), (iv (a0.getD (Int.toNat v1) default).2.1), (iv (a0.getD (Int.toNat v1) default).2.2)])] [] (.v (.bool (F68 (a0.getD (Int.toNat v1) default)))) [], .eq (F68 (a0.getD (Int.toNat v1) default)) false]) (by kernel_rfl) ⟨h0, (show 0 ≤ (v1 : Int) ∧ (v1 : Int) < ((a0.length : Nat) : Int) from by first | omega | (rw [W_eq] <;> omega) | exact u64_nn _), (ld_part c41_len default a0 v1 0 11 (by omega) (by decide) (by omega) rfl), (C68 (a0.getD (Int.toNat v1) default)), h1, trivial⟩ ?_
        have z0 : (W (v1 + 1)) = (v1 + 1) := W_eq (by omega) (by omega)
        rw [z0]
        exact ih (v1 + 1) (by (try simp only [List.length_append, List.length_cons, List.length_nil, Int.toNat_zero]); omega) (by (try simp only [List.length_append, List.length_cons, List.length_nil, Int.toNat_zero]); omega)
    | false =>
      have q0 := of_decide_eq_false h0
      have e : S97_L_f68_0 a0 v1 = (.inr (-1)) := by simp only [S97_L_f68_0, h0, cond_true, cond_false]
      rw [show loopF (S97_L_f68_0 a0) (n + 1) v1 = thenF (S97_L_f68_0 a0) n (S97_L_f68_0 a0 v1) from rfl, e]
      exact ret_of (T := T0) hT hm (f := 5000) (orc := [.d false]) [] [] [] hcx
        (obs := [.eq (decide ((v1 : Int) < ((a0.length : Nat) : Int))) false]) (by kernel_rfl) ⟨h0, trivial⟩

/-- slices.IndexFunc[[]facet/api.Pulse,facet/api.Pulse] at ('L', 'f68') -/
def F97_L_f68 (a0 : List (((Int × Int × Int) × (Int × Int × Int) × Int × Int × Int) × Int × Int)) : Int :=
  (loopF (S97_L_f68_0 a0) (Int.toNat (((a0.length : Nat) : Int) - 0) + 1) 0)

theorem C97_L_f68 (a0 : List (((Int × Int × Int) × (Int × Int × Int) × Int × Int × Int) × Int × Int)) (l0 : a0.length ≤ 9223372036854775807) : Con Try.prog 97 [(.s 0 0 a0.length 11), (.v (.func (.func 68) #[] #[]))] [(.live false true (flat c41 a0))] (iv (F97_L_f68 a0)) [] := by
  have e : (F97_L_f68 a0) = (loopF (S97_L_f68_0 a0) (Int.toNat (((a0.length : Nat) : Int) - 0) + 1) 0) := by simp only [F97_L_f68]
  rw [e]
  refine con_of (n := 9) Try.func97 rfl (ent Try.func97 (by kernel_rfl) rfl) (by show 2 ≤ Try.f97.ntmps; decide) (by kernel_rfl) ⟨rfl, trivial⟩ (fun cx hcx => ?_)
  refine enter_of (T := T0) hT hm (f := 5000) (orc := []) [] [0, 1, 7, 8] [] hcx (body := B97_L_f68_0) (k' := K97_L_f68_0) (s' := ⟨[(.s 0 0 a0.length 11), (.v (.func (.func 68) #[] #[])), .u, .u, .u, .u, .u, (iv ((a0.length : Nat) : Int)), (iv 0), .u, .u, .u, .u, .u, .u, .u, .u, .u, .u], [(.live false true (flat c41 a0))]⟩)
    (obs := []) (by kernel_rfl) trivial ⟨Int.toNat (((a0.length : Nat) : Int) - 0) + 1, ?_⟩
  exact L97_L_f68_0 a0 l0 hcx (Int.toNat (((a0.length : Nat) : Int) - 0) + 1) 0 (by (try simp only [List.length_append, List.length_cons, List.length_nil, Int.toNat_zero]); omega) (by (try simp only [List.length_append, List.length_cons, List.length_nil, Int.toNat_zero]); omega)

/-- slices.ContainsFunc[[]facet/api.Pulse,facet/api.Pulse] at ('L', 'f68') -/
def F67_L_f68 (a0 : List (((Int × Int × Int) × (Int × Int × Int) × Int × Int × Int) × Int × Int)) : Bool :=
  (decide (((F97_L_f68 a0) : Int) ≥ 0))

theorem C67_L_f68 (a0 : List (((Int × Int × Int) × (Int × Int × Int) × Int × Int × Int) × Int × Int)) (l0 : a0.length ≤ 9223372036854775807) : Con Try.prog 67 [(.s 0 0 a0.length 11), (.v (.func (.func 68) #[] #[]))] [(.live false true (flat c41 a0))] (.v (.bool (F67_L_f68 a0))) [] := by
  have e : (F67_L_f68 a0) = (decide (((F97_L_f68 a0) : Int) ≥ 0)) := by simp only [F67_L_f68]
  rw [e]
  refine con_of (n := 9) Try.func67 rfl (ent Try.func67 (by kernel_rfl) rfl) (by show 2 ≤ Try.f67.ntmps; decide) (by kernel_rfl) ⟨rfl, trivial⟩ (fun cx hcx => ?_)
  exact ret_of (T := T0) hT hm (f := 5000) (orc := [.call [0] (iv (F97_L_f68 a0)) []]) [] [] [] hcx
    (obs := [.call 97 [(.s 0 0 a0.length 11), (.v (.func (.func 68) #[] #[]))] [(.live false true (flat c41 a0))] (iv (F97_L_f68 a0)) []]) (by kernel_rfl) ⟨(C97_L_f68 a0 (by (try simp only [List.length_append, List.length_cons, List.length_nil, Int.toNat_zero]); omega)), trivial⟩

/-- facet/sound.mirrored -/
def F69 (a0 : Int × Int × Int) : Int × Int × Int :=
  (a0.1, a0.2.1, (W (0 - a0.2.2)))

theorem C69 (a0 : Int × Int × Int) : Con Try.prog 69 [(.a (k3 a0))] [] (.a (k3 (F69 a0))) [] := by
  have e : (F69 a0) = (a0.1, a0.2.1, (W (0 - a0.2.2))) := by simp only [F69]
  rw [e]
  refine con_of (n := 9) Try.func69 rfl (ent Try.func69 (by kernel_rfl) rfl) (by show 1 ≤ Try.f69.ntmps; decide) (by kernel_rfl) trivial (fun cx hcx => ?_)
  exact ret_of (T := T0) hT hm (f := 5000) (orc := []) [] [] [] hcx
    (obs := []) (by kernel_rfl) trivial

noncomputable def B30_L_0 : Code := (loopAtD [1, 1, 1, 1, 1, 0, 1] [] (Try.f30.body.getD .skip) []).1
noncomputable def K30_L_0 : List K := (loopAtD [1, 1, 1, 1, 1, 0, 1] [] (Try.f30.body.getD .skip) []).2

/-- a round of loop 0 of facet/sound.Images; the variables: v1 = s8, v2 = s28 -/
def S30_L_0 (a0 : List (((Int × Int × Int) × (Int × Int × Int) × Int × Int × Int) × Int × Int)) (a1 : Bool) : (List (((Int × Int × Int) × (Int × Int × Int) × Int × Int × Int) × Int × Int)) × Int → ((List (((Int × Int × Int) × (Int × Int × Int) × Int × Int × Int) × Int × Int)) × Int) ⊕ ((List (((Int × Int × Int) × (Int × Int × Int) × Int × Int × Int) × Int × Int)) × Int)
  | (v1, v2) =>
   (bif (decide ((v2 : Int) < ((a0.length : Nat) : Int))) then
    (bif a1 then
     (.inl ((v1 ++ [(((F69 (a0.getD (Int.toNat v2) default).1.1), (F69 (a0.getD (Int.toNat v2) default).1.2.1), (F69 (a0.getD (Int.toNat v2) default).1.2.2)), (a0.getD (Int.toNat v2) default).2.1, (W (0 - (a0.getD (Int.toNat v2) default).2.2)))]), (v2 + 1)))
    else
     (.inl ((v1 ++ [(((F69 (a0.getD (Int.toNat v2) default).1.1), (F69 (a0.getD (Int.toNat v2) default).1.2.1), (F69 (a0.getD (Int.toNat v2) default).1.2.2)), (a0.getD (Int.toNat v2) default).2.1, (a0.getD (Int.toNat v2) default).2.2)]), (v2 + 1))))
   else
    (.inr (v1, 0)))

set_option maxHeartbeats 4000000 in
theorem L30_L_0 (a0 : List (((Int × Int × Int) × (Int × Int × Int) × Int × Int × Int) × Int × Int)) (a1 : Bool) (l0 : a0.length ≤ 9223372036854775807) {cx : Cx} (hcx : cx.base = 1) : ∀ (n : Nat) (v1 : List (((Int × Int × Int) × (Int × Int × Int) × Int × Int × Int) × Int × Int)) (v2 : Int), (0 ≤ v2) ∧ (v1.length = (F64_L a0).length + Int.toNat v2) ∧ (v2 ≤ a0.length) ∧ (a0.length ≤ 16) → Int.toNat (((a0.length : Nat) : Int) - v2) < n → Aw.Good Try.prog none 9 (bodyPost Try.prog Try.f30 (RR cx (.t [(.s 1 0 (loopF (S30_L_0 a0 a1) n (v1, v2)).1.length 11), (iv (loopF (S30_L_0 a0 a1) n (v1, v2)).2)]) [(.live true true (flat c41 (loopF (S30_L_0 a0 a1) n (v1, v2)).1))] [])) cx [] (.l B30_L_0 n :: K30_L_0) ⟨[.u, (.v (.bool a1)), .u, .u, .u, .u, .u, .u, (.s 1 0 v1.length 11), .u, .u, .u, .u, .u, .u, .u, .u, .u, .u, .u, .u, .u, .u, .u, .u, .u, (.s 0 0 a0.length 11), (iv ((a0.length : Nat) : Int)), (iv v2), .u, .u, .u, .u, .u, .u, .u, .u, .u, .u, .u, .u, .u, .u, .u, .u, .u, .u, .u, .u, .u, .u, .u, .u, .u, .u, .u, .u], [(.live false true (flat c41 a0)), (.live true true (flat c41 v1))]⟩ := by
  intro n
  induction n with
  | zero => intro v1 v2 hi hn; exact absurd hn (Nat.not_lt_zero _)
  | succ n ih =>
    intro v1 v2 hi hn
    refine good_round ?_
    cases h0 : (decide ((v2 : Int) < ((a0.length : Nat) : Int))) with
    | true =>
      rcases bool_tf a1 with h1 | h1
      · skip
        have q0 := of_decide_eq_true h0
        have hcl := clone_len a0
        have e : S30_L_0 a0 a1 (v1, v2) = (.inl ((v1 ++ [(((F69 (a0.getD (Int.toNat v2) default).1.1), (F69 (a0.getD (Int.toNat v2) default).1.2.1), (F69 (a0.getD (Int.toNat v2) default).1.2.2)), (a0.getD (Int.toNat v2) default).2.1, (W (0 - (a0.getD (Int.toNat v2) default).2.2)))]), (v2 + 1))) := by simp only [S30_L_0, h0, h1, cond_true, cond_false]
        rw [loopF_inl e]
        refine back_of (T := T0) hT hm (f := 5000) (orc := [.d true, .ld [(iv (a0.getD (Int.toNat v2) default).1.1.1), (iv (a0.getD (Int.toNat v2) default).1.1.2.1), (iv (a0.getD (Int.toNat v2) default).1.1.2.2), (iv (a0.getD (Int.toNat v2) default).1.2.1.1), (iv (a0.getD (Int.toNat v2) default).1.2.1.2.1), (iv (a0.getD (Int.toNat v2) default).1.2.1.2.2), (iv (a0.getD (Int.toNat v2) default).1.2.2.1), (iv (a0.getD (Int.toNat v2) default).1.2.2.2.1), (iv (a0.getD (Int.toNat v2) default).1.2.2.2.2), (iv (a0.getD (Int.toNat v2) default).2.1), (iv (a0.getD (Int.toNat v2) default).2.2)], .call [] (.a (k3 (F69 (a0.getD (Int.toNat v2) default).1.1))) [], .call [] (.a (k3 (F69 (a0.getD (Int.toNat v2) default).1.2.1))) [], .call [] (.a (k3 (F69 (a0.getD (Int.toNat v2) default).1.2.2))) [], .d true]) [] [1, 8, 26, 27, 28] [4] hcx (body := B30_L_0) (m := n) (k' := K30_L_0) (s' := ⟨[.u, (.v (.bool a1)), .u, .u, .u, .u, .u, .u, (.s 1 0 (v1.length + 1) 11), .u, .u, .u, .u, .u, .u, .u, .u, .u, .u, .u, .u, .u, .u, .u, .u, .u, (.s 0 0 a0.length 11), (iv ((a0.length : Nat) : Int)), (iv (W (v2 + 1))), .u, .u, .u, .u, .u, .u, .u, .u, .u, .u, .u, .u, .u, .u, .u, .u, .u, .u, .u, .u, .u, .u, .u, .u, .u, .u, .u, .u], [(.live false true (flat c41 a0)), (.live true true (flat c41 v1 ++ [(iv (F69 (a0.getD (Int.toNat v2) default).1.1).1), (iv (F69 (a0.getD (Int.toNat v2) default).1.1).2.1), (iv (F69 (a0.getD (Int.toNat v2) default).1.1).2.2), (iv (F69 (a0.getD (Int.toNat v2) default).1.2.1).1), (iv (F69 (a0.getD (Int.toNat v2) default).1.2.1).2.1), (iv (F69 (a0.getD (Int.toNat v2) default).1.2.1).2.2), (iv (F69 (a0.getD (Int.toNat v2) default).1.2.2).1), (iv (F69 (a0.getD (Int.toNat v2) default).1.2.2).2.1), (iv (F69 (a0.getD (Int.toNat v2) default).1.2.2).2.2), (iv (a0.getD (Int.toNat v2) default).2.1), (iv (W (0 - (a0.getD (Int.toNat v2) default).2.2)))]))]⟩)
          (obs := [.eq (decide ((v2 : Int) < ((a0.length : Nat) : Int))) true, .pr (0 ≤ (v2 : Int) ∧ (v2 : Int) < ((a0.length : Nat) : Int)), .pr (((((flat c41 a0)).drop (0 + Int.toNat v2 * 11)).take 11) = [(iv (a0.getD (Int.toNat v2) default).1.1.1), (iv (a0.getD (Int.toNat v2) default).1.1.2.1), (iv (a0.getD (Int.toNat v2) default).1.1.2.2), (iv (a0.getD (Int.toNat v2) default).1.2.1.1), (iv (a0.getD (Int.toNat v2) default).1.2.1.2.1), (iv (a0.getD (Int.toNat v2) default).1.2.1.2.2), (iv (a0.getD (Int.toNat v2) default).1.2.2.1), (iv (a0.getD (Int.toNat v2) default).1.2.2.2.1), (iv (a0.getD (Int.toNat v2) default).1.2.2.2.2), (iv (a0.getD (Int.toNat v2) default).2.1), (iv (a0.getD (Int.toNat v2) default).2.2)]), .call 69 [(.a (k3 (a0.getD (Int.toNat v2) default).1.1))] [] (.a (k3 (F69 (a0.getD (Int.toNat v2) default).1.1))) [], .call 69 [(.a (k3 (a0.getD (Int.toNat v2) default).1.2.1))] [] (.a (k3 (F69 (a0.getD (Int.toNat v2) default).1.2.1))) [], .call 69 [(.a (k3 (a0.getD (Int.toNat v2) default).1.2.2))] [] (.a (k3 (F69 (a0.getD (Int.toNat v2) default).1.2.2))) [], .eq a1 true, .pr ((flat c41 v1).length = v1.length * 11 ∧ v1.length + 1 ≤ 2 ^ 40 ∧ (v1.length + 1) * 88 ≤ 2 ^ 47)]) (by kernel_rfl) ⟨h0, (show 0 ≤ (v2 : Int) ∧ (v2 : Int) < ((a0.length : Nat) : Int) from by first | omega | (rw [W_eq] <;> omega) | exact u64_nn _), (ld_part c41_len default a0 v2 0 11 (by omega) (by decide) (by omega) rfl), (C69 (a0.getD (Int.toNat v2) default).1.1), (C69 (a0.getD (Int.toNat v2) default).1.2.1), (C69 (a0.getD (Int.toNat v2) default).1.2.2), h1, (app_ok c41_len (by omega) (by omega)), trivial⟩ ?_
        have z0 : (W (v2 + 1)) = (v2 + 1) := W_eq (by omega) (by omega)
        have z1 : (flat c41 v1 ++ [(iv (F69 (a0.getD (Int.toNat v2) default).1.1).1), (iv (F69 (a0.getD (Int.toNat v2) default).1.1).2.1), (iv (F69 (a0.getD (Int.toNat v2) default).1.1).2.2), (iv (F69 (a0.getD (Int.toNat v2) default).1.2.1).1), (iv (F69 (a0.getD (Int.toNat v2) default).1.2.1).2.1), (iv (F69 (a0.getD (Int.toNat v2) default).1.2.1).2.2), (iv (F69 (a0.getD (Int.toNat v2) default).1.2.2).1), (iv (F69 (a0.getD (Int.toNat v2) default).1.2.2).2.1), (iv (F69 (a0.getD (Int.toNat v2) default).1.2.2).2.2), (iv (a0.getD (Int.toNat v2) default).2.1), (iv (W (0 - (a0.getD (Int.toNat v2) default).2.2)))]) = (flat c41 (v1 ++ [(((F69 (a0.getD (Int.toNat v2) default).1.1), (F69 (a0.getD (Int.toNat v2) default).1.2.1), (F69 (a0.getD (Int.toNat v2) default).1.2.2)), (a0.getD (Int.toNat v2) default).2.1, (W (0 - (a0.getD (Int.toNat v2) default).2.2)))])) := (flat_append (c := c41) (l := v1) (m := [(((F69 (a0.getD (Int.toNat v2) default).1.1), (F69 (a0.getD (Int.toNat v2) default).1.2.1), (F69 (a0.getD (Int.toNat v2) default).1.2.2)), (a0.getD (Int.toNat v2) default).2.1, (W (0 - (a0.getD (Int.toNat v2) default).2.2)))])).symm
        have z2 : (v1.length + 1) = (v1 ++ [(((F69 (a0.getD (Int.toNat v2) default).1.1), (F69 (a0.getD (Int.toNat v2) default).1.2.1), (F69 (a0.getD (Int.toNat v2) default).1.2.2)), (a0.getD (Int.toNat v2) default).2.1, (W (0 - (a0.getD (Int.toNat v2) default).2.2)))]).length := len_app v1 [(((F69 (a0.getD (Int.toNat v2) default).1.1), (F69 (a0.getD (Int.toNat v2) default).1.2.1), (F69 (a0.getD (Int.toNat v2) default).1.2.2)), (a0.getD (Int.toNat v2) default).2.1, (W (0 - (a0.getD (Int.toNat v2) default).2.2)))] rfl
        rw [z0, z1, z2]
        exact ih (v1 ++ [(((F69 (a0.getD (Int.toNat v2) default).1.1), (F69 (a0.getD (Int.toNat v2) default).1.2.1), (F69 (a0.getD (Int.toNat v2) default).1.2.2)), (a0.getD (Int.toNat v2) default).2.1, (W (0 - (a0.getD (Int.toNat v2) default).2.2)))]) (v2 + 1) (by refine ⟨?_, ?_, ?_, ?_⟩ <;> (try simp only [List.length_append, List.length_cons, List.length_nil, Int.toNat_zero]) <;> first | omega | simp) (by (try simp only [List.length_append, List.length_cons, List.length_nil, Int.toNat_zero]); omega)
      · skip
        have q0 := of_decide_eq_true h0
        have hcl := clone_len a0
        have e : S30_L_0 a0 a1 (v1, v2) = (.inl ((v1 ++ [(((F69 (a0.getD (Int.toNat v2) default).1.1), (F69 (a0.getD (Int.toNat v2) default).1.2.1), (F69 (a0.getD (Int.toNat v2) default).1.2.2)), (a0.getD (Int.toNat v2) default).2.1, (a0.getD (Int.toNat v2) default).2.2)]), (v2 + 1))) := by simp only [S30_L_0, h0, h1, cond_true, cond_false]
        rw [loopF_inl e]
        refine back_of (T := T0) hT hm (f := 5000) (orc := [.d true, .ld [(iv (a0.getD (Int.toNat v2) default).1.1.1), (iv (a0.getD (Int.toNat v2) default).1.1.2.1), (iv (a0.getD (Int.toNat v2) default).1.1.2.2), (iv (a0.getD (Int.toNat v2) default).1.2.1.1), (iv (a0.getD (Int.toNat v2) default).1.2.1.2.1), (iv (a0.getD (Int.toNat v2) default).1.2.1.2.2), (iv (a0.getD (Int.toNat v2) default).1.2.2.1), (iv (a0.getD (Int.toNat v2) default).1.2.2.2.1), (iv (a0.getD (Int.toNat v2) default).1.2.2.2.2), (iv (a0.getD (Int.toNat v2) default).2.1), (iv (a0.getD (Int.toNat v2) default).2.2)], .call [] (.a (k3 (F69 (a0.getD (Int.toNat v2) default).1.1))) [], .call [] (.a (k3 (F69 (a0.getD (Int.toNat v2) default).1.2.1))) [], .call [] (.a (k3 (F69 (a0.getD (Int.toNat v2) default).1.2.2))) [], .d false]) [] [1, 8, 26, 27, 28] [4] hcx (body := B30_L_0) (m := n) (k' := K30_L_0) (s' := ⟨[.u, (.v (.bool a1)), .u, .u, .u, .u, .u, .u, (.s 1 0 (v1.length + 1) 11), .u, .u, .u, .u, .u, .u, .u, .u, .u, .u, .u, .u, .u, .u, .u, .u, .u, (.s 0 0 a0.length 11), (iv ((a0.length : Nat) : Int)), (iv (W (v2 + 1))), .u, .u, .u, .u, .u, .u, .u, .u, .u, .u, .u, .u, .u, .u, .u, .u, .u, .u, .u, .u, .u, .u, .u, .u, .u, .u, .u, .u], [(.live false true (flat c41 a0)), (.live true true (flat c41 v1 ++ [(iv (F69 (a0.getD (Int.toNat v2) default).1.1).1), (iv (F69 (a0.getD (Int.toNat v2) default).1.1).2.1), (iv (F69 (a0.getD (Int.toNat v2) default).1.1).2.2), (iv (F69 (a0.getD (Int.toNat v2) default).1.2.1).1), (iv (F69 (a0.getD (Int.toNat v2) default).1.2.1).2.1), (iv (F69 (a0.getD (Int.toNat v2) default).1.2.1).2.2), (iv (F69 (a0.getD (Int.toNat v2) default).1.2.2).1), (iv (F69 (a0.getD (Int.toNat v2) default).1.2.2).2.1), (iv (F69 (a0.getD (Int.toNat v2) default).1.2.2).2.2), (iv (a0.getD (Int.toNat v2) default).2.1), (iv (a0.getD (Int.toNat v2) default).2.2)]))]⟩)
          (obs := [.eq (decide ((v2 : Int) < ((a0.length : Nat) : Int))) true, .pr (0 ≤ (v2 : Int) ∧ (v2 : Int) < ((a0.length : Nat) : Int)), .pr (((((flat c41 a0)).drop (0 + Int.toNat v2 * 11)).take 11) = [(iv (a0.getD (Int.toNat v2) default).1.1.1), (iv (a0.getD (Int.toNat v2) default).1.1.2.1), (iv (a0.getD (Int.toNat v2) default).1.1.2.2), (iv (a0.getD (Int.toNat v2) default).1.2.1.1), (iv (a0.getD (Int.toNat v2) default).1.2.1.2.1), (iv (a0.getD (Int.toNat v2) default).1.2.1.2.2), (iv (a0.getD (Int.toNat v2) default).1.2.2.1), (iv (a0.getD (Int.toNat v2) default).1.2.2.2.1), (iv (a0.getD (Int.toNat v2) default).1.2.2.2.2), (iv (a0.getD (Int.toNat v2) default).2.1), (iv (a0.getD (Int.toNat v2) default).2.2)]), .call 69 [(.a (k3 (a0.getD (Int.toNat v2) default).1.1))] [] (.a (k3 (F69 (a0.getD (Int.toNat v2) default).1.1))) [], .call 69 [(.a (k3 (a0.getD (Int.toNat v2) default).1.2.1))] [] (.a (k3 (F69 (a0.getD (Int.toNat v2) default).1.2.1))) [], .call 69 [(.a (k3 (a0.getD (Int.toNat v2) default).1.2.2))] [] (.a (k3 (F69 (a0.getD (Int.toNat v2) default).1.2.2))) [], .eq a1 false, .pr ((flat c41 v1).length = v1.length * 11 ∧ v1.length + 1 ≤ 2 ^ 40 ∧ (v1.length + 1) * 88 ≤ 2 ^ 47)]) (by kernel_rfl) ⟨h0, (show 0 ≤ (v2 : Int) ∧ (v2 : Int) < ((a0.length : Nat) : Int) from by first | omega | (rw [W_eq] <;> omega) | exact u64_nn _), (ld_part c41_len default a0 v2 0 11 (by omega) (by decide) (by omega) rfl), (C69 (a0.getD (Int.toNat v2) default).1.1), (C69 (a0.getD (Int.toNat v2) default).1.2.1), (C69 (a0.getD (Int.toNat v2) default).1.2.2), h1, (app_ok c41_len (by omega) (by omega)), trivial⟩ ?_
        have z0 : (W (v2 + 1)) = (v2 + 1) := W_eq (by omega) (by omega)
        have z1 : (flat c41 v1 ++ [(iv (F69 (a0.getD (Int.toNat v2) default).1.1).1), (iv (F69 (a0.getD (Int.toNat v2) default).1.1).2.1), (iv (F69 (a0.getD (Int.toNat v2) default).1.1).2.2), (iv (F69 (a0.getD (Int.toNat v2) default).1.2.1).1), (iv (F69 (a0.getD (Int.toNat v2) default).1.2.1).2.1), (iv (F69 (a0.getD (Int.toNat v2) default).1.2.1).2.2), (iv (F69 (a0.getD (Int.toNat v2) default).1.2.2).1), (iv (F69 (a0.getD (Int.toNat v2) default).1.2.2).2.1), (iv (F69 (a0.getD (Int.toNat v2) default).1.2.2).2.2), (iv (a0.getD (Int.toNat v2) default).2.1), (iv (a0.getD (Int.toNat v2) default).2.2)]) = (flat c41 (v1 ++ [(((F69 (a0.getD (Int.toNat v2) default).1.1), (F69 (a0.getD (Int.toNat v2) default).1.2.1), (F69 (a0.getD (Int.toNat v2) default).1.2.2)), (a0.getD (Int.toNat v2) default).2.1, (a0.getD (Int.toNat v2) default).2.2)])) := (flat_append (c := c41) (l := v1) (m := [(((F69 (a0.getD (Int.toNat v2) default).1.1), (F69 (a0.getD (Int.toNat v2) default).1.2.1), (F69 (a0.getD (Int.toNat v2) default).1.2.2)), (a0.getD (Int.toNat v2) default).2.1, (a0.getD (Int.toNat v2) default).2.2)])).symm
        have z2 : (v1.length + 1) = (v1 ++ [(((F69 (a0.getD (Int.toNat v2) default).1.1), (F69 (a0.getD (Int.toNat v2) default).1.2.1), (F69 (a0.getD (Int.toNat v2) default).1.2.2)), (a0.getD (Int.toNat v2) default).2.1, (a0.getD (Int.toNat v2) default).2.2)]).length := len_app v1 [(((F69 (a0.getD (Int.toNat v2) default).1.1), (F69 (a0.getD (Int.toNat v2) default).1.2.1), (F69 (a0.getD (Int.toNat v2) default).1.2.2)), (a0.getD (Int.toNat v2) default).2.1, (a0.getD (Int.toNat v2) default).2.2)] rfl
        rw [z0, z1, z2]
        exact ih (v1 ++ [(((F69 (a0.getD (Int.toNat v2) default).1.1), (F69 (a0.getD (Int.toNat v2) default).1.2.1), (F69 (a0.getD (Int.toNat v2) default).1.2.2)), (a0.getD (Int.toNat v2) default).2.1, (a0.getD (Int.toNat v2) default).2.2)]) (v2 + 1) (by refine ⟨?_, ?_, ?_, ?_⟩ <;> (try simp only [List.length_append, List.length_cons, List.length_nil, Int.toNat_zero]) <;> first | omega | simp) (by (try simp only [List.length_append, List.length_cons, List.length_nil, Int.toNat_zero]); omega)
    | false =>
      have q0 := of_decide_eq_false h0
      have hcl := clone_len a0
      have e : S30_L_0 a0 a1 (v1, v2) = (.inr (v1, 0)) := by simp only [S30_L_0, h0, cond_true, cond_false]
      rw [show loopF (S30_L_0 a0 a1) (n + 1) (v1, v2) = thenF (S30_L_0 a0 a1) n (S30_L_0 a0 a1 (v1, v2)) from rfl, e]
      exact ret_of (T := T0) hT hm (f := 5000) (orc := [.d false]) [] [] [1] hcx
        (obs := [.eq (decide ((v2 : Int) < ((a0.length : Nat) : Int))) false]) (by kernel_rfl) ⟨h0, trivial⟩

/-- facet/sound.Images at ('L',) -/
def F30_L (a0 : List (((Int × Int × Int) × (Int × Int × Int) × Int × Int × Int) × Int × Int)) (a1 : Bool) : (List (((Int × Int × Int) × (Int × Int × Int) × Int × Int × Int) × Int × Int)) × Int :=
  (bif (((F53_L a0 (!(F67_L_f68 a0))) : Int) != 0) then
   (([] : List (((Int × Int × Int) × (Int × Int × Int) × Int × Int × Int) × Int × Int)), (F53_L a0 (!(F67_L_f68 a0))))
  else
   (bif (decide (((W (2 * ((a0.length : Nat) : Int))) : Int) > 16)) then
    (([] : List (((Int × Int × Int) × (Int × Int × Int) × Int × Int × Int) × Int × Int)), 4)
   else
    (loopF (S30_L_0 a0 a1) (Int.toNat (((a0.length : Nat) : Int) - 0) + 1) ((F64_L a0), 0))))

noncomputable def oC30_L_0 (a0 : List (((Int × Int × Int) × (Int × Int × Int) × Int × Int × Int) × Int × Int)) : Ob := .call 67 [(.s 0 0 a0.length 11), (.v (.func (.func 68) #[] #[]))] [(.live false true (flat c41 a0))] (.v (.bool (F67_L_f68 a0))) []
noncomputable def oC30_L_1 (a0 : List (((Int × Int × Int) × (Int × Int × Int) × Int × Int × Int) × Int × Int)) : Ob := .call 53 [(.s 0 0 a0.length 11), (.v (.bool (!(F67_L_f68 a0))))] [(.live false true (flat c41 a0))] (iv (F53_L a0 (!(F67_L_f68 a0)))) []
theorem C30_L (a0 : List (((Int × Int × Int) × (Int × Int × Int) × Int × Int × Int) × Int × Int)) (a1 : Bool) (l0 : a0.length ≤ 9223372036854775807) : Con Try.prog 30 [(.s 0 0 a0.length 11), (.v (.bool a1))] [(.live false true (flat c41 a0))] (.t [(.s 1 0 (F30_L a0 a1).1.length 11), (iv (F30_L a0 a1).2)]) [(.live true true (flat c41 (F30_L a0 a1).1))] := by
  cases h0 : (((F53_L a0 (!(F67_L_f68 a0))) : Int) != 0) with
  | true =>
    have q0 := bne_iff_ne.1 h0
    try have hl16 := chkL_len h0
    have hcl := clone_len a0
    have e : (F30_L a0 a1) = (([] : List (((Int × Int × Int) × (Int × Int × Int) × Int × Int × Int) × Int × Int)), (F53_L a0 (!(F67_L_f68 a0)))) := by simp only [F30_L, h0, cond_true, cond_false]
    rw [e]
    refine con_of (n := 9) Try.func30 rfl (ent Try.func30 (by kernel_rfl) rfl) (by show 2 ≤ Try.f30.ntmps; decide) (by kernel_rfl) ⟨rfl, trivial⟩ (fun cx hcx => ?_)
    exact ret_of (T := T0) hT hm (f := 5000) (orc := [.call [0] (.v (.bool (F67_L_f68 a0))) [], .call [0] (iv (F53_L a0 (!(F67_L_f68 a0)))) [], .d true]) [.slot 4 11] [] [1] hcx
      (obs := [(oC30_L_0 a0), (oC30_L_1 a0), .eq (((F53_L a0 (!(F67_L_f68 a0))) : Int) != 0) true]) (by kernel_rfl) ⟨(C67_L_f68 a0 (by (try simp only [List.length_append, List.length_cons, List.length_nil, Int.toNat_zero]); omega)), (C53_L a0 (!(F67_L_f68 a0)) (by (try simp only [List.length_append, List.length_cons, List.length_nil, Int.toNat_zero]); omega)), h0, trivial⟩
  | false =>
    cases h1 : (decide (((W (2 * ((a0.length : Nat) : Int))) : Int) > 16)) with
    | true =>
      have q0 := bne_eq_false_iff_eq.1 h0
      have q1 := of_decide_eq_true h1
      try have hl16 := chkL_len h0
      have hcl := clone_len a0
      have e : (F30_L a0 a1) = (([] : List (((Int × Int × Int) × (Int × Int × Int) × Int × Int × Int) × Int × Int)), 4) := by simp only [F30_L, h0, h1, cond_true, cond_false]
      rw [e]
      refine con_of (n := 9) Try.func30 rfl (ent Try.func30 (by kernel_rfl) rfl) (by show 2 ≤ Try.f30.ntmps; decide) (by kernel_rfl) ⟨rfl, trivial⟩ (fun cx hcx => ?_)
      exact ret_of (T := T0) hT hm (f := 5000) (orc := [.call [0] (.v (.bool (F67_L_f68 a0))) [], .call [0] (iv (F53_L a0 (!(F67_L_f68 a0)))) [], .d false, .d true]) [.slot 4 11] [] [1] hcx
        (obs := [(oC30_L_0 a0), (oC30_L_1 a0), .eq (((F53_L a0 (!(F67_L_f68 a0))) : Int) != 0) false, .eq (decide (((W (2 * ((a0.length : Nat) : Int))) : Int) > 16)) true]) (by kernel_rfl) ⟨(C67_L_f68 a0 (by (try simp only [List.length_append, List.length_cons, List.length_nil, Int.toNat_zero]); omega)), (C53_L a0 (!(F67_L_f68 a0)) (by (try simp only [List.length_append, List.length_cons, List.length_nil, Int.toNat_zero]); omega)), h0, h1, trivial⟩
    | false =>
      have q0 := bne_eq_false_iff_eq.1 h0
      have q1 := of_decide_eq_false h1
      try have hl16 := chkL_len h0
      have hcl := clone_len a0
      have e : (F30_L a0 a1) = (loopF (S30_L_0 a0 a1) (Int.toNat (((a0.length : Nat) : Int) - 0) + 1) ((F64_L a0), 0)) := by simp only [F30_L, h0, h1, cond_true, cond_false]
      rw [e]
      refine con_of (n := 9) Try.func30 rfl (ent Try.func30 (by kernel_rfl) rfl) (by show 2 ≤ Try.f30.ntmps; decide) (by kernel_rfl) ⟨rfl, trivial⟩ (fun cx hcx => ?_)
      refine enter_of (T := T0) hT hm (f := 5000) (orc := [.call [0] (.v (.bool (F67_L_f68 a0))) [], .call [0] (iv (F53_L a0 (!(F67_L_f68 a0)))) [], .d false, .d false, .call [0] (.s 1 0 (F64_L a0).length 11) [(.live true true (flat c41 (F64_L a0)))]]) [] [1, 8, 26, 27, 28] [1] hcx (body := B30_L_0) (k' := K30_L_0) (s' := ⟨[.u, (.v (.bool a1)), .u, .u, .u, .u, .u, .u, (.s 1 0 (F64_L a0).length 11), .u, .u, .u, .u, .u, .u, .u, .u, .u, .u, .u, .u, .u, .u, .u, .u, .u, (.s 0 0 a0.length 11), (iv ((a0.length : Nat) : Int)), (iv 0), .u, .u, .u, .u, .u, .u, .u, .u, .u, .u, .u, .u, .u, .u, .u, .u, .u, .u, .u, .u, .u, .u, .u, .u, .u, .u, .u, .u], [(.live false true (flat c41 a0)), (.live true true (flat c41 (F64_L a0)))]⟩)
        (obs := [(oC30_L_0 a0), (oC30_L_1 a0), .eq (((F53_L a0 (!(F67_L_f68 a0))) : Int) != 0) false, .eq (decide (((W (2 * ((a0.length : Nat) : Int))) : Int) > 16)) false, .call 64 [(.s 0 0 a0.length 11)] [(.live false true (flat c41 a0))] (.s 1 0 (F64_L a0).length 11) [(.live true true (flat c41 (F64_L a0)))]]) (by kernel_rfl) ⟨(C67_L_f68 a0 (by (try simp only [List.length_append, List.length_cons, List.length_nil, Int.toNat_zero]); omega)), (C53_L a0 (!(F67_L_f68 a0)) (by (try simp only [List.length_append, List.length_cons, List.length_nil, Int.toNat_zero]); omega)), h0, h1, (clone_con a0 (by (try simp only [List.length_append, List.length_cons, List.length_nil, Int.toNat_zero]); omega) (by omega)), trivial⟩ ⟨Int.toNat (((a0.length : Nat) : Int) - 0) + 1, ?_⟩
      exact L30_L_0 a0 a1 l0 hcx (Int.toNat (((a0.length : Nat) : Int) - 0) + 1) (F64_L a0) 0 (by refine ⟨?_, ?_, ?_, ?_⟩ <;> (try simp only [List.length_append, List.length_cons, List.length_nil, Int.toNat_zero]) <;> first | omega | simp) (by (try simp only [List.length_append, List.length_cons, List.length_nil, Int.toNat_zero]); omega)

/-- facet/facetref08.image -/
def F70 (a0 : Int × Int × Int) : Int × Int × Int :=
  (a0.1, a0.2.1, (W (0 - a0.2.2)))

theorem C70 (a0 : Int × Int × Int) : Con Try.prog 70 [(.a (k3 a0))] [] (.a (k3 (F70 a0))) [] := by
  have e : (F70 a0) = (a0.1, a0.2.1, (W (0 - a0.2.2))) := by simp only [F70]
  rw [e]
  refine con_of (n := 9) Try.func70 rfl (ent Try.func70 (by kernel_rfl) rfl) (by show 1 ≤ Try.f70.ntmps; decide) (by kernel_rfl) trivial (fun cx hcx => ?_)
  exact ret_of (T := T0) hT hm (f := 5000) (orc := []) [] [] [] hcx
    (obs := []) (by kernel_rfl) trivial

noncomputable def B31_L_1 : Code := (loopAtD [1, 1, 1, 1, 1, 1, 0, 1] [] (Try.f31.body.getD .skip) []).1
noncomputable def K31_L_1 : List K := (loopAtD [1, 1, 1, 1, 1, 1, 0, 1] [] (Try.f31.body.getD .skip) []).2

/-- a round of loop 1 of facet/facetref08.Images; the variables: v2 = s9, v3 = s10 -/
def S31_L_1 (a0 : List (((Int × Int × Int) × (Int × Int × Int) × Int × Int × Int) × Int × Int)) (a1 : Bool) : (List (((Int × Int × Int) × (Int × Int × Int) × Int × Int × Int) × Int × Int)) × Int → ((List (((Int × Int × Int) × (Int × Int × Int) × Int × Int × Int) × Int × Int)) × Int) ⊕ ((List (((Int × Int × Int) × (Int × Int × Int) × Int × Int × Int) × Int × Int)) × Int)
  | (v2, v3) =>
   (bif (decide ((v3 : Int) < ((a0.length : Nat) : Int))) then
    (bif a1 then
     (.inl ((v2 ++ [(((F70 (a0.getD (Int.toNat v3) default).1.1), (F70 (a0.getD (Int.toNat v3) default).1.2.1), (F70 (a0.getD (Int.toNat v3) default).1.2.2)), (a0.getD (Int.toNat v3) default).2.1, (W (0 - (a0.getD (Int.toNat v3) default).2.2)))]), (v3 + 1)))
    else
     (.inl ((v2 ++ [(((F70 (a0.getD (Int.toNat v3) default).1.1), (F70 (a0.getD (Int.toNat v3) default).1.2.1), (F70 (a0.getD (Int.toNat v3) default).1.2.2)), (a0.getD (Int.toNat v3) default).2.1, (a0.getD (Int.toNat v3) default).2.2)]), (v3 + 1))))
   else
    (.inr (v2, 0)))

noncomputable def B31_L_0 : Code := (loopAtD [1, 1, 1, 0, 1] [] (Try.f31.body.getD .skip) []).1
noncomputable def K31_L_0 : List K := (loopAtD [1, 1, 1, 0, 1] [] (Try.f31.body.getD .skip) []).2

/-- a round of loop 0 of facet/facetref08.Images; the variables: v1 = s7 -/
def S31_L_0 (a0 : List (((Int × Int × Int) × (Int × Int × Int) × Int × Int × Int) × Int × Int)) (a1 : Bool) : Int → (Int) ⊕ ((List (((Int × Int × Int) × (Int × Int × Int) × Int × Int × Int) × Int × Int)) × Int)
  | v1 =>
   (bif (decide ((v1 : Int) < ((a0.length : Nat) : Int))) then
    (bif (decide (((a0.getD (Int.toNat v1) default).1.1.2.2 : Int) < 0)) then
     (.inr (([] : List (((Int × Int × Int) × (Int × Int × Int) × Int × Int × Int) × Int × Int)), 1))
    else
     (bif (decide (((a0.getD (Int.toNat v1) default).1.2.1.2.2 : Int) < 0)) then
      (.inr (([] : List (((Int × Int × Int) × (Int × Int × Int) × Int × Int × Int) × Int × Int)), 1))
     else
      (bif (decide (((a0.getD (Int.toNat v1) default).1.2.2.2.2 : Int) < 0)) then
       (.inr (([] : List (((Int × Int × Int) × (Int × Int × Int) × Int × Int × Int) × Int × Int)), 1))
      else
       (.inl (v1 + 1)))))
   else
    (bif (decide (((W (2 * ((a0.length : Nat) : Int))) : Int) > 16)) then
     (.inr (([] : List (((Int × Int × Int) × (Int × Int × Int) × Int × Int × Int) × Int × Int)), 4))
    else
     (.inr (loopF (S31_L_1 a0 a1) (Int.toNat (((a0.length : Nat) : Int) - 0) + 1) ((([] : List (((Int × Int × Int) × (Int × Int × Int) × Int × Int × Int) × Int × Int)) ++ a0), 0)))))

set_option maxHeartbeats 4000000 in
theorem L31_L_1 (a0 : List (((Int × Int × Int) × (Int × Int × Int) × Int × Int × Int) × Int × Int)) (a1 : Bool) (l0 : a0.length ≤ 9223372036854775807) {cx : Cx} (hcx : cx.base = 1) : ∀ (n : Nat) (v2 : List (((Int × Int × Int) × (Int × Int × Int) × Int × Int × Int) × Int × Int)) (v3 : Int), (0 ≤ v3) ∧ (v2.length = a0.length + Int.toNat v3) ∧ (v3 ≤ a0.length) ∧ (a0.length ≤ 16) → Int.toNat (((a0.length : Nat) : Int) - v3) < n → Aw.Good Try.prog none 9 (bodyPost Try.prog Try.f31 (RR cx (.t [(.s 1 0 (loopF (S31_L_1 a0 a1) n (v2, v3)).1.length 11), (iv (loopF (S31_L_1 a0 a1) n (v2, v3)).2)]) [(.live true true (flat c41 (loopF (S31_L_1 a0 a1) n (v2, v3)).1))] [])) cx [] (.l B31_L_1 n :: K31_L_1) ⟨[(.s 0 0 a0.length 11), (.v (.bool a1)), .u, .u, .u, .u, .u, .u, .u, (.s 1 0 v2.length 11), (iv v3), .u, .u, .u, .u, .u, .u, .u, .u, .u, .u, .u, .u, .u, .u, .u, .u, .u, .u, .u, .u, .u, .u, .u, .u, .u, .u, .u, .u, .u, .u, .u, .u, .u, .u, .u, .u, .u, .u, .u, .u, .u, .u, .u, .u, .u, .u, .u, .u, .u, .u, .u, .u, .u, .u, .u, .u, .u, .u, .u, .u, .u, .u, .u, .u, .u, .u, .u, .u, .u, .u, .u, .u, .u, .u], [(.live false true (flat c41 a0)), (.live true true (flat c41 v2))]⟩ := by
  intro n
  induction n with
  | zero => intro v2 v3 hi hn; exact absurd hn (Nat.not_lt_zero _)
  | succ n ih =>
    intro v2 v3 hi hn
    refine good_round ?_
    cases h0 : (decide ((v3 : Int) < ((a0.length : Nat) : Int))) with
    | true =>
      rcases bool_tf a1 with h1 | h1
      · skip
        have q0 := of_decide_eq_true h0
        have e : S31_L_1 a0 a1 (v2, v3) = (.inl ((v2 ++ [(((F70 (a0.getD (Int.toNat v3) default).1.1), (F70 (a0.getD (Int.toNat v3) default).1.2.1), (F70 (a0.getD (Int.toNat v3) default).1.2.2)), (a0.getD (Int.toNat v3) default).2.1, (W (0 - (a0.getD (Int.toNat v3) default).2.2)))]), (v3 + 1))) := by simp only [S31_L_1, h0, h1, cond_true, cond_false]
        rw [loopF_inl e]
        refine back_of (T := T0) hT hm (f := 5000) (orc := [.d true, .ld [(iv (a0.getD (Int.toNat v3) default).1.1.1), (iv (a0.getD (Int.toNat v3) default).1.1.2.1), (iv (a0.getD (Int.toNat v3) default).1.1.2.2), (iv (a0.getD (Int.toNat v3) default).1.2.1.1), (iv (a0.getD (Int.toNat v3) default).1.2.1.2.1), (iv (a0.getD (Int.toNat v3) default).1.2.1.2.2), (iv (a0.getD (Int.toNat v3) default).1.2.2.1), (iv (a0.getD (Int.toNat v3) default).1.2.2.2.1), (iv (a0.getD (Int.toNat v3) default).1.2.2.2.2), (iv (a0.getD (Int.toNat v3) default).2.1), (iv (a0.getD (Int.toNat v3) default).2.2)], .call [] (.a (k3 (F70 (a0.getD (Int.toNat v3) default).1.1))) [], .call [] (.a (k3 (F70 (a0.getD (Int.toNat v3) default).1.2.1))) [], .call [] (.a (k3 (F70 (a0.getD (Int.toNat v3) default).1.2.2))) [], .d true]) [] [0, 1, 9, 10] [4] hcx (body := B31_L_1) (m := n) (k' := K31_L_1) (s' := ⟨[(.s 0 0 a0.length 11), (.v (.bool a1)), .u, .u, .u, .u, .u, .u, .u, (.s 1 0 (v2.length + 1) 11), (iv (W (v3 + 1))), .u, .u, .u, .u, .u, .u, .u, .u, .u, .u, .u, .u, .u, .u, .u, .u, .u, .u, .u, .u, .u, .u, .u, .u, .u, .u, .u, .u, .u, .u, .u, .u, .u, .u, .u, .u, .u, .u, .u, .u, .u, .u, .u, .u, .u, .u, .u, .u, .u, .u, .u, .u, .u, .u, .u, .u, .u, .u, .u, .u, .u, .u, .u, .u, .u, .u, .u, .u, .u, .u, .u, .u, .u, .u], [(.live false true (flat c41 a0)), (.live true true (flat c41 v2 ++ [(iv (F70 (a0.getD (Int.toNat v3) default).1.1).1), (iv (F70 (a0.getD (Int.toNat v3) default).1.1).2.1), (iv (F70 (a0.getD (Int.toNat v3) default).1.1).2.2), (iv (F70 (a0.getD (Int.toNat v3) default).1.2.1).1), (iv (F70 (a0.getD (Int.toNat v3) default).1.2.1).2.1), (iv (F70 (a0.getD (Int.toNat v3) default).1.2.1).2.2), (iv (F70 (a0.getD (Int.toNat v3) default).1.2.2).1), (iv (F70 (a0.getD (Int.toNat v3) default).1.2.2).2.1), (iv (F70 (a0.getD (Int.toNat v3) default).1.2.2).2.2), (iv (a0.getD (Int.toNat v3) default).2.1), (iv (W (0 - (a0.getD (Int.toNat v3) default).2.2)))]))]⟩)
          (obs := [.eq (decide ((v3 : Int) < ((a0.length : Nat) : Int))) true, .pr (0 ≤ (v3 : Int) ∧ (v3 : Int) < ((a0.length : Nat) : Int)), .pr (((((flat c41 a0)).drop (0 + Int.toNat v3 * 11)).take 11) = [(iv (a0.getD (Int.toNat v3) default).1.1.1), (iv (a0.getD (Int.toNat v3) default).1.1.2.1), (iv (a0.getD (Int.toNat v3) default).1.1.2.2), (iv (a0.getD (Int.toNat v3) default).1.2.1.1), (iv (a0.getD (Int.toNat v3) default).1.2.1.2.1), (iv (a0.getD (Int.toNat v3) default).1.2.1.2.2), (iv (a0.getD (Int.toNat v3) default).1.2.2.1), (iv (a0.getD (Int.toNat v3) default).1.2.2.2.1), (iv (a0.getD (Int.toNat v3) default).1.2.2.2.2), (iv (a0.getD (Int.toNat v3) default).2.1), (iv (a0.getD (Int.toNat v3) default).2.2)]), .call 70 [(.a (k3 (a0.getD (Int.toNat v3) default).1.1))] [] (.a (k3 (F70 (a0.getD (Int.toNat v3) default).1.1))) [], .call 70 [(.a (k3 (a0.getD (Int.toNat v3) default).1.2.1))] [] (.a (k3 (F70 (a0.getD (Int.toNat v3) default).1.2.1))) [], .call 70 [(.a (k3 (a0.getD (Int.toNat v3) default).1.2.2))] [] (.a (k3 (F70 (a0.getD (Int.toNat v3) default).1.2.2))) [], .eq a1 true, .pr ((flat c41 v2).length = v2.length * 11 ∧ v2.length + 1 ≤ 2 ^ 40 ∧ (v2.length + 1) * 88 ≤ 2 ^ 47)]) (by kernel_rfl) ⟨h0, (show 0 ≤ (v3 : Int) ∧ (v3 : Int) < ((a0.length : Nat) : Int) from by first | omega | (rw [W_eq] <;> omega) | exact u64_nn _), (ld_part c41_len default a0 v3 0 11 (by omega) (by decide) (by omega) rfl), (C70 (a0.getD (Int.toNat v3) default).1.1), (C70 (a0.getD (Int.toNat v3) default).1.2.1), (C70 (a0.getD (Int.toNat v3) default).1.2.2), h1, (app_ok c41_len (by omega) (by omega)), trivial⟩ ?_
        have z0 : (W (v3 + 1)) = (v3 + 1) := W_eq (by omega) (by omega)
        have z1 : (flat c41 v2 ++ [(iv (F70 (a0.getD (Int.toNat v3) default).1.1).1), (iv (F70 (a0.getD (Int.toNat v3) default).1.1).2.1), (iv (F70 (a0.getD (Int.toNat v3) default).1.1).2.2), (iv (F70 (a0.getD (Int.toNat v3) default).1.2.1).1), (iv (F70 (a0.getD (Int.toNat v3) default).1.2.1).2.1), (iv (F70 (a0.getD (Int.toNat v3) default).1.2.1).2.2), (iv (F70 (a0.getD (Int.toNat v3) default).1.2.2).1), (iv (F70 (a0.getD (Int.toNat v3) default).1.2.2).2.1), (iv (F70 (a0.getD (Int.toNat v3) default).1.2.2).2.2), (iv (a0.getD (Int.toNat v3) default).2.1), (iv (W (0 - (a0.getD (Int.toNat v3) default).2.2)))]) = (flat c41 (v2 ++ [(((F70 (a0.getD (Int.toNat v3) default).1.1), (F70 (a0.getD (Int.toNat v3) default).1.2.1), (F70 (a0.getD (Int.toNat v3) default).1.2.2)), (a0.getD (Int.toNat v3) default).2.1, (W (0 - (a0.getD (Int.toNat v3) default).2.2)))])) := (flat_append (c := c41) (l := v2) (m := [(((F70 (a0.getD (Int.toNat v3) default).1.1), (F70 (a0.getD (Int.toNat v3) default).1.2.1), (F70 (a0.getD (Int.toNat v3) default).1.2.2)), (a0.getD (Int.toNat v3) default).2.1, (W (0 - (a0.getD (Int.toNat v3) default).2.2)))])).symm
        have z2 : (v2.length + 1) = (v2 ++ [(((F70 (a0.getD (Int.toNat v3) default).1.1), (F70 (a0.getD (Int.toNat v3) default).1.2.1), (F70 (a0.getD (Int.toNat v3) default).1.2.2)), (a0.getD (Int.toNat v3) default).2.1, (W (0 - (a0.getD (Int.toNat v3) default).2.2)))]).length := len_app v2 [(((F70 (a0.getD (Int.toNat v3) default).1.1), (F70 (a0.getD (Int.toNat v3) default).1.2.1), (F70 (a0.getD (Int.toNat v3) default).1.2.2)), (a0.getD (Int.toNat v3) default).2.1, (W (0 - (a0.getD (Int.toNat v3) default).2.2)))] rfl
        rw [z0, z1, z2]
        exact ih (v2 ++ [(((F70 (a0.getD (Int.toNat v3) default).1.1), (F70 (a0.getD (Int.toNat v3) default).1.2.1), (F70 (a0.getD (Int.toNat v3) default).1.2.2)), (a0.getD (Int.toNat v3) default).2.1, (W (0 - (a0.getD (Int.toNat v3) default).2.2)))]) (v3 + 1) (by refine ⟨?_, ?_, ?_, ?_⟩ <;> (try simp only [List.length_append, List.length_cons, List.length_nil, Int.toNat_zero]) <;> first | omega | simp) (by (try simp only [List.length_append, List.length_cons, List.length_nil, Int.toNat_zero]); omega)
      · skip
        have q0 := of_decide_eq_true h0
        have e : S31_L_1 a0 a1 (v2, v3) = (.inl ((v2 ++ [(((F70 (a0.getD (Int.toNat v3) default).1.1), (F70 (a0.getD (Int.toNat v3) default).1.2.1), (F70 (a0.getD (Int.toNat v3) default).1.2.2)), (a0.getD (Int.toNat v3) default).2.1, (a0.getD (Int.toNat v3) default).2.2)]), (v3 + 1))) := by simp only [S31_L_1, h0, h1, cond_true, cond_false]
        rw [loopF_inl e]
        refine back_of (T := T0) hT hm (f := 5000) (orc := [.d true, .ld [(iv (a0.getD (Int.toNat v3) default).1.1.1), (iv (a0.getD (Int.toNat v3) default).1.1.2.1), (iv (a0.getD (Int.toNat v3) default).1.1.2.2), (iv (a0.getD (Int.toNat v3) default).1.2.1.1), (iv (a0.getD (Int.toNat v3) default).1.2.1.2.1), (iv (a0.getD (Int.toNat v3) default).1.2.1.2.2), (iv (a0.getD (Int.toNat v3) default).1.2.2.1), (iv (a0.getD (Int.toNat v3) default).1.2.2.2.1), (iv (a0.getD (Int.toNat v3) default).1.2.2.2.2), (iv (a0.getD (Int.toNat v3) default).2.1), (iv (a0.getD (Int.toNat v3) default).2.2)], .call [] (.a (k3 (F70 (a0.getD (Int.toNat v3) default).1.1))) [], .call [] (.a (k3 (F70 (a0.getD (Int.toNat v3) default).1.2.1))) [], .call [] (.a (k3 (F70 (a0.getD (Int.toNat v3) default).1.2.2))) [], .d false]) [] [0, 1, 9, 10] [4] hcx (body := B31_L_1) (m := n) (k' := K31_L_1) (s' := ⟨[(.s 0 0 a0.length 11), (.v (.bool a1)), .u, .u, .u, .u, .u, .u, .u, (.s 1 0 (v2.length + 1) 11), (iv (W (v3 + 1))), .u, .u, .u, .u, .u, .u, .u, .u, .u, .u, .u, .u, .u, .u, .u, .u, .u, .u, .u, .u, .u, .u, .u, .u, .u, .u, .u, .u, .u, .u, .u, .u, .u, .u, .u, .u, .u, .u, .u, .u, .u, .u, .u, .u, .u, .u, .u, .u, .u, .u, .u, .u, .u, .u, .u, .u, .u, .u, .u, .u, .u, .u, .u, .u, .u, .u, .u, .u, .u, .u, .u, .u, .u, .u], [(.live false true (flat c41 a0)), (.live true true (flat c41 v2 ++ [(iv (F70 (a0.getD (Int.toNat v3) default).1.1).1), (iv (F70 (a0.getD (Int.toNat v3) default).1.1).2.1), (iv (F70 (a0.getD (Int.toNat v3) default).1.1).2.2), (iv (F70 (a0.getD (Int.toNat v3) default).1.2.1).1), (iv (F70 (a0.getD (Int.toNat v3) default).1.2.1).2.1), (iv (F70 (a0.getD (Int.toNat v3) default).1.2.1).2.2), (iv (F70 (a0.getD (Int.toNat v3) default).1.2.2).1), (iv (F70 (a0.getD (Int.toNat v3) default).1.2.2).2.1), (iv (F70 (a0.getD (Int.toNat v3) default).1.2.2).2.2), (iv (a0.getD (Int.toNat v3) default).2.1), (iv (a0.getD (Int.toNat v3) default).2.2)]))]⟩)
          (obs := [.eq (decide ((v3 : Int) < ((a0.length : Nat) : Int))) true, .pr (0 ≤ (v3 : Int) ∧ (v3 : Int) < ((a0.length : Nat) : Int)), .pr (((((flat c41 a0)).drop (0 + Int.toNat v3 * 11)).take 11) = [(iv (a0.getD (Int.toNat v3) default).1.1.1), (iv (a0.getD (Int.toNat v3) default).1.1.2.1), (iv (a0.getD (Int.toNat v3) default).1.1.2.2), (iv (a0.getD (Int.toNat v3) default).1.2.1.1), (iv (a0.getD (Int.toNat v3) default).1.2.1.2.1), (iv (a0.getD (Int.toNat v3) default).1.2.1.2.2), (iv (a0.getD (Int.toNat v3) default).1.2.2.1), (iv (a0.getD (Int.toNat v3) default).1.2.2.2.1), (iv (a0.getD (Int.toNat v3) default).1.2.2.2.2), (iv (a0.getD (Int.toNat v3) default).2.1), (iv (a0.getD (Int.toNat v3) default).2.2)]), .call 70 [(.a (k3 (a0.getD (Int.toNat v3) default).1.1))] [] (.a (k3 (F70 (a0.getD (Int.toNat v3) default).1.1))) [], .call 70 [(.a (k3 (a0.getD (Int.toNat v3) default).1.2.1))] [] (.a (k3 (F70 (a0.getD (Int.toNat v3) default).1.2.1))) [], .call 70 [(.a (k3 (a0.getD (Int.toNat v3) default).1.2.2))] [] (.a (k3 (F70 (a0.getD (Int.toNat v3) default).1.2.2))) [], .eq a1 false, .pr ((flat c41 v2).length = v2.length * 11 ∧ v2.length + 1 ≤ 2 ^ 40 ∧ (v2.length + 1) * 88 ≤ 2 ^ 47)]) (by kernel_rfl) ⟨h0, (show 0 ≤ (v3 : Int) ∧ (v3 : Int) < ((a0.length : Nat) : Int) from by first | omega | (rw [W_eq] <;> omega) | exact u64_nn _), (ld_part c41_len default a0 v3 0 11 (by omega) (by decide) (by omega) rfl), (C70 (a0.getD (Int.toNat v3) default).1.1), (C70 (a0.getD (Int.toNat v3) default).1.2.1), (C70 (a0.getD (Int.toNat v3) default).1.2.2), h1, (app_ok c41_len (by omega) (by omega)), trivial⟩ ?_
        have z0 : (W (v3 + 1)) = (v3 + 1) := W_eq (by omega) (by omega)
        have z1 : (flat c41 v2 ++ [(iv (F70 (a0.getD (Int.toNat v3) default).1.1).1), (iv (F70 (a0.getD (Int.toNat v3) default).1.1).2.1), (iv (F70 (a0.getD (Int.toNat v3) default).1.1).2.2), (iv (F70 (a0.getD (Int.toNat v3) default).1.2.1).1), (iv (F70 (a0.getD (Int.toNat v3) default).1.2.1).2.1), (iv (F70 (a0.getD (Int.toNat v3) default).1.2.1).2.2), (iv (F70 (a0.getD (Int.toNat v3) default).1.2.2).1), (iv (F70 (a0.getD (Int.toNat v3) default).1.2.2).2.1), (iv (F70 (a0.getD (Int.toNat v3) default).1.2.2).2.2), (iv (a0.getD (Int.toNat v3) default).2.1), (iv (a0.getD (Int.toNat v3) default).2.2)]) = (flat c41 (v2 ++ [(((F70 (a0.getD (Int.toNat v3) default).1.1), (F70 (a0.getD (Int.toNat v3) default).1.2.1), (F70 (a0.getD (Int.toNat v3) default).1.2.2)), (a0.getD (Int.toNat v3) default).2.1, (a0.getD (Int.toNat v3) default).2.2)])) := (flat_append (c := c41) (l := v2) (m := [(((F70 (a0.getD (Int.toNat v3) default).1.1), (F70 (a0.getD (Int.toNat v3) default).1.2.1), (F70 (a0.getD (Int.toNat v3) default).1.2.2)), (a0.getD (Int.toNat v3) default).2.1, (a0.getD (Int.toNat v3) default).2.2)])).symm
        have z2 : (v2.length + 1) = (v2 ++ [(((F70 (a0.getD (Int.toNat v3) default).1.1), (F70 (a0.getD (Int.toNat v3) default).1.2.1), (F70 (a0.getD (Int.toNat v3) default).1.2.2)), (a0.getD (Int.toNat v3) default).2.1, (a0.getD (Int.toNat v3) default).2.2)]).length := len_app v2 [(((F70 (a0.getD (Int.toNat v3) default).1.1), (F70 (a0.getD (Int.toNat v3) default).1.2.1), (F70 (a0.getD (Int.toNat v3) default).1.2.2)), (a0.getD (Int.toNat v3) default).2.1, (a0.getD (Int.toNat v3) default).2.2)] rfl
        rw [z0, z1, z2]
        exact ih (v2 ++ [(((F70 (a0.getD (Int.toNat v3) default).1.1), (F70 (a0.getD (Int.toNat v3) default).1.2.1), (F70 (a0.getD (Int.toNat v3) default).1.2.2)), (a0.getD (Int.toNat v3) default).2.1, (a0.getD (Int.toNat v3) default).2.2)]) (v3 + 1) (by refine ⟨?_, ?_, ?_, ?_⟩ <;> (try simp only [List.length_append, List.length_cons, List.length_nil, Int.toNat_zero]) <;> first | omega | simp) (by (try simp only [List.length_append, List.length_cons, List.length_nil, Int.toNat_zero]); omega)
    | false =>
      have q0 := of_decide_eq_false h0
      have e : S31_L_1 a0 a1 (v2, v3) = (.inr (v2, 0)) := by simp only [S31_L_1, h0, cond_true, cond_false]
      rw [show loopF (S31_L_1 a0 a1) (n + 1) (v2, v3) = thenF (S31_L_1 a0 a1) n (S31_L_1 a0 a1 (v2, v3)) from rfl, e]
      exact ret_of (T := T0) hT hm (f := 5000) (orc := [.d false]) [] [] [1] hcx
        (obs := [.eq (decide ((v3 : Int) < ((a0.length : Nat) : Int))) false]) (by kernel_rfl) ⟨h0, trivial⟩

set_option maxHeartbeats 4000000 in
theorem L31_L_0 (a0 : List (((Int × Int × Int) × (Int × Int × Int) × Int × Int × Int) × Int × Int)) (a1 : Bool) (l0 : a0.length ≤ 9223372036854775807) {cx : Cx} (hcx : cx.base = 1) : ∀ (n : Nat) (v1 : Int), (0 ≤ v1) ∧ (a0.length ≤ 16) → Int.toNat (((a0.length : Nat) : Int) - v1) < n → Aw.Good Try.prog none 9 (bodyPost Try.prog Try.f31 (RR cx (.t [(.s 1 0 (loopF (S31_L_0 a0 a1) n v1).1.length 11), (iv (loopF (S31_L_0 a0 a1) n v1).2)]) [(.live true true (flat c41 (loopF (S31_L_0 a0 a1) n v1).1))] [])) cx [] (.l B31_L_0 n :: K31_L_0) ⟨[(.s 0 0 a0.length 11), (.v (.bool a1)), .u, .u, .u, .u, .u, (iv v1), .u, .u, .u, .u, .u, .u, .u, .u, .u, .u, .u, .u, .u, .u, .u, .u, .u, .u, .u, .u, .u, .u, .u, .u, .u, .u, .u, .u, .u, .u, .u, .u, .u, .u, .u, .u, .u, .u, .u, .u, .u, .u, .u, .u, .u, .u, .u, .u, .u, .u, .u, .u, .u, .u, .u, .u, .u, .u, .u, .u, .u, .u, .u, .u, .u, .u, .u, .u, .u, .u, .u, .u, .u, .u, .u, .u, .u], [(.live false true (flat c41 a0))]⟩ := by
  intro n
  induction n with
  | zero => intro v1 hi hn; exact absurd hn (Nat.not_lt_zero _)
  | succ n ih =>
    intro v1 hi hn
    refine good_round ?_
    cases h0 : (decide ((v1 : Int) < ((a0.length : Nat) : Int))) with
    | true =>
      cases h1 : (decide (((a0.getD (Int.toNat v1) default).1.1.2.2 : Int) < 0)) with
      | true =>
        have q0 := of_decide_eq_true h0
        have q1 := of_decide_eq_true h1
        have e : S31_L_0 a0 a1 v1 = (.inr (([] : List (((Int × Int × Int) × (Int × Int × Int) × Int × Int × Int) × Int × Int)), 1)) := by simp only [S31_L_0, h0, h1, cond_true, cond_false]
        rw [show loopF (S31_L_0 a0 a1) (n + 1) v1 = thenF (S31_L_0 a0 a1) n (S31_L_0 a0 a1 v1) from rfl, e]
        exact ret_of (T := T0) hT hm (f := 5000) (orc := [.d true, .ld (k9 (a0.getD (Int.toNat v1) default).1), .d true]) [.slot 4 11] [] [2] hcx
          (obs := [.eq (decide ((v1 : Int) < ((a0.length : Nat) : Int))) true, .pr (0 ≤ (v1 : Int) ∧ (v1 : Int) < ((a0.length : Nat) : Int)), .pr (((((flat c41 a0)).drop (0 + Int.toNat v1 * 11 + 0)).take 9) = (k9 (a0.getD (Int.toNat v1) default).1)), .eq (decide (((a0.getD (Int.toNat v1) default).1.1.2.2 : Int) < 0)) true]) (by kernel_rfl) ⟨h0, (show 0 ≤ (v1 : Int) ∧ (v1 : Int) < ((a0.length : Nat) : Int) from by first | omega | (rw [W_eq] <;> omega) | exact u64_nn _), (ld_part c41_len default a0 v1 0 9 (by omega) (by decide) (by omega) rfl), h1, trivial⟩
      | false =>
        cases h2 : (decide (((a0.getD (Int.toNat v1) default).1.2.1.2.2 : Int) < 0)) with
        | true =>
          have q0 := of_decide_eq_true h0
          have q1 := of_decide_eq_false h1
          have q2 := of_decide_eq_true h2
          have e : S31_L_0 a0 a1 v1 = (.inr (([] : List (((Int × Int × Int) × (Int × Int × Int) × Int × Int × Int) × Int × Int)), 1)) := by simp only [S31_L_0, h0, h1, h2, cond_true, cond_false]
          rw [show loopF (S31_L_0 a0 a1) (n + 1) v1 = thenF (S31_L_0 a0 a1) n (S31_L_0 a0 a1 v1) from rfl, e]
          exact ret_of (T := T0) hT hm (f := 5000) (orc := [.d true, .ld (k9 (a0.getD (Int.toNat v1) default).1), .d false, .d true]) [.slot 4 11] [] [2] hcx
            (obs := [.eq (decide ((v1 : Int) < ((a0.length : Nat) : Int))) true, .pr (0 ≤ (v1 : Int) ∧ (v1 : Int) < ((a0.length : Nat) : Int)), .pr (((((flat c41 a0)).drop (0 + Int.toNat v1 * 11 + 0)).take 9) = (k9 (a0.getD (Int.toNat v1) default).1)), .eq (decide (((a0.getD (Int.toNat v1) default).1.1.2.2 : Int) < 0)) false, .eq (decide (((a0.getD (Int.toNat v1) default).1.2.1.2.2 : Int) < 0)) true]) (by kernel_rfl) ⟨h0, (show 0 ≤ (v1 : Int) ∧ (v1 : Int) < ((a0.length : Nat) : Int) from by first | omega | (rw [W_eq] <;> omega) | exact u64_nn _), (ld_part c41_len default a0 v1 0 9 (by omega) (by decide) (by omega) rfl), h1, h2, trivial⟩
        | false =>
          cases h3 : (decide (((a0.getD (Int.toNat v1) default).1.2.2.2.2 : Int) < 0)) with
          | true =>
            have q0 := of_decide_eq_true h0
            have q1 := of_decide_eq_false h1
            have q2 := of_decide_eq_false h2
            have q3 := of_decide_eq_true h3
            have e : S31_L_0 a0 a1 v1 = (.inr (([] : List (((Int × Int × Int) × (Int × Int × Int) × Int × Int × Int) × Int × Int)), 1)) := by simp only [S31_L_0, h0, h1, h2, h3, cond_true, cond_false]
            rw [show loopF (S31_L_0 a0 a1) (n + 1) v1 = thenF (S31_L_0 a0 a1) n (S31_L_0 a0 a1 v1) from rfl, e]
            exact ret_of (T := T0) hT hm (f := 5000) (orc := [.d true, .ld (k9 (a0.getD (Int.toNat v1) default).1), .d false, .d false, .d true]) [.slot 4 11] [] [2] hcx
              (obs := [.eq (decide ((v1 : Int) < ((a0.length : Nat) : Int))) true, .pr (0 ≤ (v1 : Int) ∧ (v1 : Int) < ((a0.length : Nat) : Int)), .pr (((((flat c41 a0)).drop (0 + Int.toNat v1 * 11 + 0)).take 9) = (k9 (a0.getD (Int.toNat v1) default).1)), .eq (decide (((a0.getD (Int.toNat v1) default).1.1.2.2 : Int) < 0)) false, .eq (decide (((a0.getD (Int.toNat v1) default).1.2.1.2.2 : Int) < 0)) false, .eq (decide (((a0.getD (Int.toNat v1) default).1.2.2.2.2 : Int) < 0)) true]) (by kernel_rfl) ⟨h0, (show 0 ≤ (v1 : Int) ∧ (v1 : Int) < ((a0.length : Nat) : Int) from by first | omega | (rw [W_eq] <;> omega) | exact u64_nn _), (ld_part c41_len default a0 v1 0 9 (by omega) (by decide) (by omega) rfl), h1, h2, h3, trivial⟩
          | false =>
            have q0 := of_decide_eq_true h0
            have q1 := of_decide_eq_false h1
            have q2 := of_decide_eq_false h2
            have q3 := of_decide_eq_false h3
            have e : S31_L_0 a0 a1 v1 = (.inl (v1 + 1)) := by simp only [S31_L_0, h0, h1, h2, h3, cond_true, cond_false]
            rw [loopF_inl e]
            refine back_of (T := T0) hT hm (f := 5000) (orc := [.d true, .ld (k9 (a0.getD (Int.toNat v1) default).1), .d false, .d false, .d false]) [] [0, 1, 7] [] hcx (body := B31_L_0) (m := n) (k' := K31_L_0) (s' := ⟨[(.s 0 0 a0.length 11), (.v (.bool a1)), .u, .u, .u, .u, .u, (iv (W (v1 + 1))), .u, .u, .u, .u, .u, .u, .u, .u, .u, .u, .u, .u, .u, .u, .u, .u, .u, .u, .u, .u, .u, .u, .u, .u, .u, .u, .u, .u, .u, .u, .u, .u, .u, .u, .u, .u, .u, .u, .u, .u, .u, .u, .u, .u, .u, .u, .u, .u, .u, .u, .u, .u, .u, .u, .u, .u, .u, .u, .u, .u, .u, .u, .u, .u, .u, .u, .u, .u, .u, .u, .u, .u, .u, .u, .u, .u, .u], [(.live false true (flat c41 a0))]⟩)
              (obs := [.eq (decide ((v1 : Int) < ((a0.length : Nat) : Int))) true, .pr (0 ≤ (v1 : Int) ∧ (v1 : Int) < ((a0.length : Nat) : Int)), .pr (((((flat c41 a0)).drop (0 + Int.toNat v1 * 11 + 0)).take 9) = (k9 (a0.getD (Int.toNat v1) default).1)), .eq (decide (((a0.getD (Int.toNat v1) default).1.1.2.2 : Int) < 0)) false, .eq (decide (((a0.getD (Int.toNat v1) default).1.2.1.2.2 : Int) < 0)) false, .eq (decide (((a0.getD (Int.toNat v1) default).1.2.2.2.2 : Int) < 0)) false]) (by kernel_rfl) ⟨h0, (show 0 ≤ (v1 : Int) ∧ (v1 : Int) < ((a0.length : Nat) : Int) from by first | omega | (rw [W_eq] <;> omega) | exact u64_nn _), (ld_part c41_len default a0 v1 0 9 (by omega) (by decide) (by omega) rfl), h1, h2, h3, trivial⟩ ?_
            have z0 : (W (v1 + 1)) = (v1 + 1) := W_eq (by omega) (by omega)
            rw [z0]
            exact ih (v1 + 1) (by refine ⟨?_, ?_⟩ <;> (try simp only [List.length_append, List.length_cons, List.length_nil, Int.toNat_zero]) <;> first | omega | simp) (by (try simp only [List.length_append, List.length_cons, List.length_nil, Int.toNat_zero]); omega)
    | false =>
      cases h1 : (decide (((W (2 * ((a0.length : Nat) : Int))) : Int) > 16)) with
      | true =>
        have q0 := of_decide_eq_false h0
        have q1 := of_decide_eq_true h1
        have e : S31_L_0 a0 a1 v1 = (.inr (([] : List (((Int × Int × Int) × (Int × Int × Int) × Int × Int × Int) × Int × Int)), 4)) := by simp only [S31_L_0, h0, h1, cond_true, cond_false]
        rw [show loopF (S31_L_0 a0 a1) (n + 1) v1 = thenF (S31_L_0 a0 a1) n (S31_L_0 a0 a1 v1) from rfl, e]
        exact ret_of (T := T0) hT hm (f := 5000) (orc := [.d false, .d true]) [.slot 4 11] [] [1] hcx
          (obs := [.eq (decide ((v1 : Int) < ((a0.length : Nat) : Int))) false, .eq (decide (((W (2 * ((a0.length : Nat) : Int))) : Int) > 16)) true]) (by kernel_rfl) ⟨h0, h1, trivial⟩
      | false =>
        have q0 := of_decide_eq_false h0
        have q1 := of_decide_eq_false h1
        have e : S31_L_0 a0 a1 v1 = (.inr (loopF (S31_L_1 a0 a1) (Int.toNat (((a0.length : Nat) : Int) - 0) + 1) ((([] : List (((Int × Int × Int) × (Int × Int × Int) × Int × Int × Int) × Int × Int)) ++ a0), 0))) := by simp only [S31_L_0, h0, h1, cond_true, cond_false]
        rw [show loopF (S31_L_0 a0 a1) (n + 1) v1 = thenF (S31_L_0 a0 a1) n (S31_L_0 a0 a1 v1) from rfl, e]
        refine enter_of (T := T0) hT hm (f := 5000) (orc := [.d false, .d false]) [] [0, 1, 9, 10] [2] hcx (body := B31_L_1) (k' := K31_L_1) (s' := ⟨[(.s 0 0 a0.length 11), (.v (.bool a1)), .u, .u, .u, .u, .u, .u, .u, (.s 1 0 (0 + a0.length) 11), (iv 0), .u, .u, .u, .u, .u, .u, .u, .u, .u, .u, .u, .u, .u, .u, .u, .u, .u, .u, .u, .u, .u, .u, .u, .u, .u, .u, .u, .u, .u, .u, .u, .u, .u, .u, .u, .u, .u, .u, .u, .u, .u, .u, .u, .u, .u, .u, .u, .u, .u, .u, .u, .u, .u, .u, .u, .u, .u, .u, .u, .u, .u, .u, .u, .u, .u, .u, .u, .u, .u, .u, .u, .u, .u, .u], [(.live false true (flat c41 a0)), (.live true true (([] : List SV) ++ (flat c41 a0)))]⟩)
          (obs := [.eq (decide ((v1 : Int) < ((a0.length : Nat) : Int))) false, .eq (decide (((W (2 * ((a0.length : Nat) : Int))) : Int) > 16)) false, .pr (([] : List SV).length = 0 * 11 ∧ (flat c41 a0).length = a0.length * 11 ∧ (flat c41 a0).all SV.one = true ∧ 0 + a0.length ≤ 2 ^ 40 ∧ (0 + a0.length) * 88 ≤ 2 ^ 47)]) (by kernel_rfl) ⟨h0, h1, (show (([] : List SV).length = 0 * 11 ∧ (flat c41 a0).length = a0.length * 11 ∧ (flat c41 a0).all SV.one = true ∧ 0 + a0.length ≤ 2 ^ 40 ∧ (0 + a0.length) * 88 ≤ 2 ^ 47) from by refine ⟨?_, ?_, ?_, ?_, ?_⟩ <;> first | omega | exact flat_one (fun _ => rfl) | (simp [flat_lenc c41_len]; done) | (simp [flat_lenc c41_len]; omega)), trivial⟩ ⟨Int.toNat (((a0.length : Nat) : Int) - 0) + 1, ?_⟩
        have z0 : (([] : List SV) ++ (flat c41 a0)) = flat c41 (([] : List (((Int × Int × Int) × (Int × Int × Int) × Int × Int × Int) × Int × Int)) ++ a0) := (by simp [flat])
        have z1 : (0 + a0.length) = (([] : List (((Int × Int × Int) × (Int × Int × Int) × Int × Int × Int) × Int × Int)) ++ a0).length := by simp
        rw [z0, z1]
        exact L31_L_1 a0 a1 l0 hcx (Int.toNat (((a0.length : Nat) : Int) - 0) + 1) (([] : List (((Int × Int × Int) × (Int × Int × Int) × Int × Int × Int) × Int × Int)) ++ a0) 0 (by refine ⟨?_, ?_, ?_, ?_⟩ <;> (try simp only [List.length_append, List.length_cons, List.length_nil, Int.toNat_zero]) <;> first | omega | simp) (by (try simp only [List.length_append, List.length_cons, List.length_nil, Int.toNat_zero]); omega)

/-- facet/facetref08.Images at ('L',) -/
def F31_L (a0 : List (((Int × Int × Int) × (Int × Int × Int) × Int × Int × Int) × Int × Int)) (a1 : Bool) : (List (((Int × Int × Int) × (Int × Int × Int) × Int × Int × Int) × Int × Int)) × Int :=
  (bif (((F28_L a0) : Int) != 0) then
   (([] : List (((Int × Int × Int) × (Int × Int × Int) × Int × Int × Int) × Int × Int)), (F28_L a0))
  else
   (loopF (S31_L_0 a0 a1) (Int.toNat (((a0.length : Nat) : Int) - 0) + 1) 0))

theorem C31_L (a0 : List (((Int × Int × Int) × (Int × Int × Int) × Int × Int × Int) × Int × Int)) (a1 : Bool) (l0 : a0.length ≤ 9223372036854775807) : Con Try.prog 31 [(.s 0 0 a0.length 11), (.v (.bool a1))] [(.live false true (flat c41 a0))] (.t [(.s 1 0 (F31_L a0 a1).1.length 11), (iv (F31_L a0 a1).2)]) [(.live true true (flat c41 (F31_L a0 a1).1))] := by
  cases h0 : (((F28_L a0) : Int) != 0) with
  | true =>
    have q0 := bne_iff_ne.1 h0
    try have hl16 := vprL_len h0
    have e : (F31_L a0 a1) = (([] : List (((Int × Int × Int) × (Int × Int × Int) × Int × Int × Int) × Int × Int)), (F28_L a0)) := by simp only [F31_L, h0, cond_true, cond_false]
    rw [e]
    refine con_of (n := 9) Try.func31 rfl (ent Try.func31 (by kernel_rfl) rfl) (by show 2 ≤ Try.f31.ntmps; decide) (by kernel_rfl) ⟨rfl, trivial⟩ (fun cx hcx => ?_)
    exact ret_of (T := T0) hT hm (f := 5000) (orc := [.call [0] (iv (F28_L a0)) [], .d true]) [.slot 4 11] [] [1] hcx
      (obs := [.call 28 [(.s 0 0 a0.length 11)] [(.live false true (flat c41 a0))] (iv (F28_L a0)) [], .eq (((F28_L a0) : Int) != 0) true]) (by kernel_rfl) ⟨(C28_L a0 (by (try simp only [List.length_append, List.length_cons, List.length_nil, Int.toNat_zero]); omega)), h0, trivial⟩
  | false =>
    have q0 := bne_eq_false_iff_eq.1 h0
    try have hl16 := vprL_len h0
    have e : (F31_L a0 a1) = (loopF (S31_L_0 a0 a1) (Int.toNat (((a0.length : Nat) : Int) - 0) + 1) 0) := by simp only [F31_L, h0, cond_true, cond_false]
    rw [e]
    refine con_of (n := 9) Try.func31 rfl (ent Try.func31 (by kernel_rfl) rfl) (by show 2 ≤ Try.f31.ntmps; decide) (by kernel_rfl) ⟨rfl, trivial⟩ (fun cx hcx => ?_)
    refine enter_of (T := T0) hT hm (f := 5000) (orc := [.call [0] (iv (F28_L a0)) [], .d false]) [] [0, 1, 7] [] hcx (body := B31_L_0) (k' := K31_L_0) (s' := ⟨[(.s 0 0 a0.length 11), (.v (.bool a1)), .u, .u, .u, .u, .u, (iv 0), .u, .u, .u, .u, .u, .u, .u, .u, .u, .u, .u, .u, .u, .u, .u, .u, .u, .u, .u, .u, .u, .u, .u, .u, .u, .u, .u, .u, .u, .u, .u, .u, .u, .u, .u, .u, .u, .u, .u, .u, .u, .u, .u, .u, .u, .u, .u, .u, .u, .u, .u, .u, .u, .u, .u, .u, .u, .u, .u, .u, .u, .u, .u, .u, .u, .u, .u, .u, .u, .u, .u, .u, .u, .u, .u, .u, .u], [(.live false true (flat c41 a0))]⟩)
      (obs := [.call 28 [(.s 0 0 a0.length 11)] [(.live false true (flat c41 a0))] (iv (F28_L a0)) [], .eq (((F28_L a0) : Int) != 0) false]) (by kernel_rfl) ⟨(C28_L a0 (by (try simp only [List.length_append, List.length_cons, List.length_nil, Int.toNat_zero]); omega)), h0, trivial⟩ ⟨Int.toNat (((a0.length : Nat) : Int) - 0) + 1, ?_⟩
    exact L31_L_0 a0 a1 l0 hcx (Int.toNat (((a0.length : Nat) : Int) - 0) + 1) 0 (by refine ⟨?_, ?_⟩ <;> (try simp only [List.length_append, List.length_cons, List.length_nil, Int.toNat_zero]) <;> first | omega | simp) (by (try simp only [List.length_append, List.length_cons, List.length_nil, Int.toNat_zero]); omega)

end Go.Proofs.Ytopbnnmkdildgaa

namespace Go.Proofs.Ytopbnnmkdildgaa
open Go.Proofs Go.Aw Go.RowKit
set_option maxRecDepth 100000
set_option linter.unusedVariables false
set_option linter.unusedSimpArgs false

/-! ### Images behind a wall -/
def bz (p : PU) : Prop := p.1.1.2.2 < 0 ∨ p.1.2.1.2.2 < 0 ∨ p.1.2.2.2.2 < 0
instance (p : PU) : Decidable (bz p) := by unfold bz; exact inferInstance
def gz (p : PU) : Int := if bz p then 1 else 0
theorem neg_f (p : PU) : F68 p = decide (bz p) := by
  unfold F68 bz
  apply decide_eq_decide.2
  (repeat' split) <;> omega
theorem idx_f (l : List PU) : ∀ (k : List PU) (i n : Nat), l.drop i = k → i ≤ l.length → k.length < n → (0 ≤ loopF (S97_L_f68_0 l) n (i : Int) ↔ fe gz k ≠ 0)
  | [], i, n, hd, hi', hn => by
    have : i = l.length := by have := List.drop_eq_nil_iff.1 hd; omega
    obtain ⟨n, rfl⟩ : ∃ m, n = m + 1 := ⟨n - 1, by simp only [List.length_nil] at hn; omega⟩
    subst this
    have e : S97_L_f68_0 l (l.length : Int) = .inr (-1) := by
      simp only [S97_L_f68_0]
      rw [decide_eq_false (Int.lt_irrefl _), cond_false]
    rw [loopF_inr e]; simp [fe]
  | c :: k, i, n, hd, hi', hn => by
    have hc : l[i]? = some c := by
      have : (l.drop i)[0]? = some c := by rw [hd]; rfl
      simpa using this
    obtain ⟨hg, hlt⟩ := getD_some hc
    obtain ⟨n, rfl⟩ : ∃ m, n = m + 1 := ⟨n - 1, by omega⟩
    have e : S97_L_f68_0 l (i : Int) = if bz c then .inr (i : Int) else .inl ((i + 1 : Nat) : Int) := by
      simp only [S97_L_f68_0]
      rw [decide_eq_true (show ((i : Nat) : Int) < (l.length : Nat) by omega), cond_true, Int.toNat_natCast, hg, neg_f]
      by_cases h : bz c <;> simp [h]
    unfold fe gz
    by_cases h : bz c
    · rw [if_pos h] at e
      rw [loopF_inr e, if_pos h]; simp
    · rw [if_neg h] at e
      rw [loopF_inl e, if_neg h, if_pos rfl]
      exact idx_f l k (i + 1) n (by rw [← List.drop_drop, hd]; rfl) (by omega) (by simp only [List.length_cons] at hn; omega)
theorem con_f (l : List PU) : F67_L_f68 l = decide (fe gz l ≠ 0) := by
  unfold F67_L_f68 F97_L_f68
  exact decide_eq_decide.2 (idx_f l l 0 _ rfl (Nat.zero_le _) (by omega))
def im (soft : Bool) (p : PU) : PU := ((F69 p.1.1, F69 p.1.2.1, F69 p.1.2.2), p.2.1, bif soft then W (0 - p.2.2) else p.2.2)
noncomputable def imV (l : List PU) (soft : Bool) : List PU × Int :=
  if vpL l = 0 then (if fe gz l = 0 then (if 16 < 2 * l.length then ([], 4) else (l ++ l.map (im soft), 0)) else ([], 1)) else ([], vpL l)
theorem shs_all {α β : Type} {f : α → β} : ∀ (k : List α) (l : List β), shs (fun c => (f c, 0)) k l = .inl (l ++ k.map f)
  | [], l => by simp [shs]
  | c :: k, l => by
    unfold shs
    rw [if_pos rfl, shs_all k]; simp
theorem Images_f (l : List PU) (soft : Bool) : F30_L l soft = imV l soft := by
  unfold F30_L imV
  rw [chkL_f, con_f]
  by_cases h : vpL l = 0
  · have h16 := (vpL_ok h).1
    rw [if_pos h, if_pos h, W_eq (n := 2 * ((l.length : Nat) : Int)) (by omega) (by omega)]
    by_cases h1 : fe gz l = 0
    · rw [if_pos h1, decide_eq_false (show ¬ fe gz l ≠ 0 from fun h => h h1), if_pos (show (!false) = true from rfl)]
      by_cases h2 : 16 < 2 * l.length
      · rw [if_pos h2, decide_eq_true (show 2 * ((l.length : Nat) : Int) > 16 by omega)]; rfl
      · rw [if_neg h2, decide_eq_false (show ¬ 2 * ((l.length : Nat) : Int) > 16 by omega)]
        have key := shs_loopF (g := fun p => (im soft p, 0)) (S := S30_L_0 l soft) (L := l) (G := fun m => (m, (0 : Int))) (E := fun e => (([] : List PU), e)) (fun i c hi m => ?_) (fun m => ?_) l 0 (Int.toNat (((l.length : Nat) : Int) - 0) + 1) l rfl (Nat.zero_le _) (by omega)
        · rw [shs_all] at key
          exact key
        · obtain ⟨hg, hlt⟩ := getD_some hi
          simp only [S30_L_0]
          rw [decide_eq_true (show ((i : Nat) : Int) < (l.length : Nat) by omega), cond_true, Int.toNat_natCast, hg]
          cases soft <;> rfl
        · simp only [S30_L_0]
          rw [decide_eq_false (Int.lt_irrefl _), cond_false]
    · rw [if_neg h1, decide_eq_true (show fe gz l ≠ 0 from h1)]; rfl
  · rw [if_neg h, if_neg h, bne_iff_ne.2 h]; rfl
theorem Images_r (l : List PU) (soft : Bool) : F31_L l soft = imV l soft := by
  unfold F31_L imV
  rw [vpl_r]
  by_cases h : vpL l = 0
  · have h16 := (vpL_ok h).1
    rw [if_pos h, h]
    have key := fe_loopF (g := gz) (S := S31_L_0 l soft) (L := l) (E := fun _ => (([] : List PU), (1 : Int)))
      (G := bif (decide (((W (2 * ((l.length : Nat) : Int))) : Int) > 16)) then ([], 4) else loopF (S31_L_1 l soft) (Int.toNat (((l.length : Nat) : Int) - 0) + 1) (([] : List PU) ++ l, 0))
      (fun i c hi => ?_) ?_ l 0 (Int.toNat (((l.length : Nat) : Int) - 0) + 1) rfl (Nat.zero_le _) (by omega)
    · refine Eq.trans key ?_
      by_cases h1 : fe gz l = 0
      · rw [if_pos h1, if_pos h1, W_eq (n := 2 * ((l.length : Nat) : Int)) (by omega) (by omega)]
        by_cases h2 : 16 < 2 * l.length
        · rw [if_pos h2, decide_eq_true (show 2 * ((l.length : Nat) : Int) > 16 by omega)]; rfl
        · rw [if_neg h2, decide_eq_false (show ¬ 2 * ((l.length : Nat) : Int) > 16 by omega), cond_false]
          have key := shs_loopF (g := fun p => (im soft p, 0)) (S := S31_L_1 l soft) (L := l) (G := fun m => (m, (0 : Int))) (E := fun e => (([] : List PU), e)) (fun i c hi m => ?_) (fun m => ?_) l 0 (Int.toNat (((l.length : Nat) : Int) - 0) + 1) ([] ++ l) rfl (Nat.zero_le _) (by omega)
          · rw [shs_all] at key
            exact key
          · obtain ⟨hg, hlt⟩ := getD_some hi
            simp only [S31_L_1]
            rw [decide_eq_true (show ((i : Nat) : Int) < (l.length : Nat) by omega), cond_true, Int.toNat_natCast, hg]
            cases soft <;> rfl
          · simp only [S31_L_1]
            rw [decide_eq_false (Int.lt_irrefl _), cond_false]
      · rw [if_neg h1, if_neg h1]
    · obtain ⟨hg, hlt⟩ := getD_some hi
      simp only [S31_L_0]
      rw [decide_eq_true (show ((i : Nat) : Int) < (l.length : Nat) by omega), cond_true, Int.toNat_natCast, hg]
      unfold gz bz
      by_cases h1 : c.1.1.2.2 < 0
      · simp [h1]
      · by_cases h2 : c.1.2.1.2.2 < 0
        · simp [h1, h2]
        · by_cases h3 : c.1.2.2.2.2 < 0 <;> simp [h1, h2, h3]
    · simp only [S31_L_0]
      rw [decide_eq_false (Int.lt_irrefl _), cond_false]
      cases decide (((W (2 * ((l.length : Nat) : Int))) : Int) > 16) <;> rfl
  · rw [if_neg h, bne_iff_ne.2 h]; rfl
theorem imV_len (l : List PU) (soft : Bool) : (imV l soft).1.length ≤ 32 := by
  unfold imV
  split
  · split
    · split
      · simp
      · simp only [List.length_append, List.length_map]; omega
    · simp
  · simp
theorem imf_len (l : List PU) (soft : Bool) : (F30_L l soft).1.length ≤ 32 := by rw [Images_f]; exact imV_len l soft
theorem imr_len (l : List PU) (soft : Bool) : (F31_L l soft).1.length ≤ 32 := by rw [Images_r]; exact imV_len l soft

end Go.Proofs.Ytopbnnmkdildgaa
