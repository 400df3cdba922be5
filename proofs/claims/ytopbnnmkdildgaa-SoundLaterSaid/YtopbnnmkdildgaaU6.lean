/-
  Parts of the proofs of the laws: the executor, what functions of the program compute, and that it is what the statements ask. No premise.
-/
import Derived.Test.YtopbnnmkdildgaaU5
namespace Go.Proofs.Ytopbnnmkdildgaa
open Go.Proofs Go.Aw Go.RowKit
set_option maxRecDepth 100000
set_option linter.unusedVariables false
set_option linter.unusedSimpArgs false

/-- facet/sound.Images$1 -/
def F68 (a0 : ((Int × Int × Int) × (Int × Int × Int) × Int × Int × Int) × Int × Int) : Bool :=
  (decide (((if (a0.1.2.2.2.2 : Int) < (if (a0.1.2.1.2.2 : Int) < a0.1.1.2.2 then a0.1.2.1.2.2 else a0.1.1.2.2) then a0.1.2.2.2.2 else (if (a0.1.2.1.2.2 : Int) < a0.1.1.2.2 then a0.1.2.1.2.2 else a0.1.1.2.2)) : Int) < 0))

theorem C68 (a0 : ((Int × Int × Int) × (Int × Int × Int) × Int × Int × Int) × Int × Int) : Con Try.prog 68 [(.a [(iv a0.1.1.1), (iv a0.1.1.2.1), (iv a0.1.1.2.2), (iv a0.1.2.1.1), (iv a0.1.2.1.2.1), (iv a0.1.2.1.2.2), (iv a0.1.2.2.1), (iv a0.1.2.2.2.1), (iv a0.1.2.2.2.2), (iv a0.2.1), (iv a0.2.2)])] [] (.v (.bool (F68 a0))) [] := by
  have e : (F68 a0) = (decide (((if (a0.1.2.2.2.2 : Int) < (if (a0.1.2.1.2.2 : Int) < a0.1.1.2.2 then a0.1.2.1.2.2 else a0.1.1.2.2) then a0.1.2.2.2.2 else (if (a0.1.2.1.2.2 : Int) < a0.1.1.2.2 then a0.1.2.1.2.2 else a0.1.1.2.2)) : Int) < 0)) := by simp only [F68]
  rw [e]
  refine con_of (n := 9) Try.func68 rfl (ent Try.func68 (by kernel_rfl) rfl) (by show 1 ≤ Try.f68.ntmps; decide) (by kernel_rfl) trivial (fun cx hcx => ?_)
  exact ret_of (T := T0) hT hm (f := 5000) (orc := []) [] [] [] hcx
    (obs := []) (by kernel_rfl) trivial

noncomputable def B97_L_f68_0 : Code := (loopAtD [1, 0, 1] [] (Try.f97.body.getD .skip) []).1
noncomputable def K97_L_f68_0 : List K := (loopAtD [1, 0, 1] [] (Try.f97.body.getD .skip) []).2

/-- a round of loop 0 of slices.IndexFunc[[]facet/api.Pulse,facet/api.Pulse]; the variables: v1 = s8 -/
def S97_L_f68_0 (a0 : List (((Int × Int × Int) × (Int × Int × Int) × Int × Int × Int) × Int × Int)) : Int → (Int) ⊕ (Int)
  | v1 =>
   (bif (decide ((v1 : Int) < ((a0.length : Nat) : Int))) then
    (bif (F68 (a0.getD (Int.toNat v1) default)) then
     (.inr v1)
    else
     (.inl (v1 + 1)))
   else
    (.inr (-1)))

set_option maxHeartbeats 4000000 in
theorem L97_L_f68_0 (a0 : List (((Int × Int × Int) × (Int × Int × Int) × Int × Int × Int) × Int × Int)) (l0 : a0.length ≤ 9223372036854775807) {cx : Cx} (hcx : cx.base = 1) : ∀ (n : Nat) (v1 : Int), 0 ≤ v1 → Int.toNat (((a0.length : Nat) : Int) - v1) < n → Aw.Good Try.prog none 9 (bodyPost Try.prog Try.f97 (RR cx (iv (loopF (S97_L_f68_0 a0) n v1)) [] [])) cx [] (.l B97_L_f68_0 n :: K97_L_f68_0) ⟨[(.s 0 0 a0.length 11), (.v (.func (.func 68) #[] #[])), .u, .u, .u, .u, .u, (iv ((a0.length : Nat) : Int)), (iv v1), .u, .u, .u, .u, .u, .u, .u, .u, .u, .u], [(.live false true (flat c41 a0))]⟩ := by
  intro n
  induction n with
  | zero => intro v1 hi hn; exact absurd hn (Nat.not_lt_zero _)
  | succ n ih =>
    intro v1 hi hn
    refine good_round ?_
    cases h0 : (decide ((v1 : Int) < ((a0.length : Nat) : Int))) with
    | true =>
      cases h1 : (F68 (a0.getD (Int.toNat v1) default)) with
      | true =>
        have q0 := of_decide_eq_true h0
        have e : S97_L_f68_0 a0 v1 = (.inr v1) := by simp only [S97_L_f68_0, h0, h1, cond_true, cond_false]
        rw [show loopF (S97_L_f68_0 a0) (n + 1) v1 = thenF (S97_L_f68_0 a0) n (S97_L_f68_0 a0 v1) from rfl, e]
        exact ret_of (T := T0) hT hm (f := 5000) (orc := [.d true, .ld [(iv (a0.getD (Int.toNat v1) default).1.1.1), (iv (a0.getD (Int.toNat v1) default).1.1.2.1), (iv (a0.getD (Int.toNat v1) default).1.1.2.2), (iv (a0.getD (Int.toNat v1) default).1.2.1.1), (iv (a0.getD (Int.toNat v1) default).1.2.1.2.1), (iv (a0.getD (Int.toNat v1) default).1.2.1.2.2), (iv (a0.getD (Int.toNat v1) default).1.2.2.1), (iv (a0.getD (Int.toNat v1) default).1.2.2.2.1), (iv (a0.getD (Int.toNat v1) default).1.2.2.2.2), (iv (a0.getD (Int.toNat v1) default).2.1), (iv (a0.getD (Int.toNat v1) default).2.2)], .call [] (.v (.bool (F68 (a0.getD (Int.toNat v1) default)))) [], .d true]) [] [] [] hcx
          (obs := [.eq (decide ((v1 : Int) < ((a0.length : Nat) : Int))) true, .pr (0 ≤ (v1 : Int) ∧ (v1 : Int) < ((a0.length : Nat) : Int)), .pr (((((flat c41 a0)).drop (0 + Int.toNat v1 * 11)).take 11) = [(iv (a0.getD (Int.toNat v1) default).1.1.1), (iv (a0.getD (Int.toNat v1) default).1.1.2.1), (iv (a0.getD (Int.toNat v1) default).1.1.2.2), (iv (a0.getD (Int.toNat v1) default).1.2.1.1), (iv (a0.getD (Int.toNat v1) default).1.2.1.2.1), (iv (a0.getD (Int.toNat v1) default).1.2.1.2.2), (iv (a0.getD (Int.toNat v1) default).1.2.2.1), (iv (a0.getD (Int.toNat v1) default).1.2.2.2.1), (iv (a0.getD (Int.toNat v1) default).1.2.2.2.2), (iv (a0.getD (Int.toNat v1) default).2.1), (iv (a0.getD (Int.toNat v1) default).2.2)]), .call 68 [(.a [(iv (a0.getD (Int.toNat v1) default).1.1.1), (iv (a0.getD (Int.toNat v1) default).1.1.2.1), (iv (a0.getD (Int.toNat v1) default).1.1.2.2), (iv (a0.getD (Int.toNat v1) default).1.2.1.1), (iv (a0.getD (Int.toNat v1) default).1.2.1.2.1), (iv (a0.getD (Int.toNat v1) default).1.2.1.2.2), (iv (a0.getD (Int.toNat v1) default).1.2.2.1), (iv (a0.getD (Int.toNat v1) default).1.2.2.2.1), (iv (a0.getD (Int.toNat v1) default).1.2.2.2.2), (iv (a0.getD (Int.toNat v1) default).2.1), (iv (a0.getD (Int.toNat v1) default).2.2)])] [] (.v (.bool (F68 (a0.getD (Int.toNat v1) default)))) [], .eq (F68 (a0.getD (Int.toNat v1) default)) true]) (by kernel_rfl) ⟨h0, (show 0 ≤ (v1 : Int) ∧ (v1 : Int) < ((a0.length : Nat) : Int) from by first | omega | (rw [W_eq] <;> omega) | exact u64_nn _), (ld_part c41_len default a0 v1 0 11 (by omega) (by decide) (by omega) rfl), (C68 (a0.getD (Int.toNat v1) default)), h1, trivial⟩
      | false =>
        have q0 := of_decide_eq_true h0
        have e : S97_L_f68_0 a0 v1 = (.inl (v1 + 1)) := by simp only [S97_L_f68_0, h0, h1, cond_true, cond_false]
        rw [loopF_inl e]
        refine back_of (T := T0) hT hm (f := 5000) (orc := [.d true, .ld [(iv (a0.getD (Int.toNat v1) default).1.1.1), (iv (a0.getD (Int.toNat v1) default).1.1.2.1), (iv (a0.getD (Int.toNat v1) default).1.1.2.2), (iv (a0.getD (Int.toNat v1) default).1.2.1.1), (iv (a0.getD (Int.toNat v1) default).1.2.1.2.1), (iv (a0.getD (Int.toNat v1) default).1.2.1.2.2), (iv (a0.getD (Int.toNat v1) default).1.2.2.1), (iv (a0.getD (Int.toNat v1) default).1.2.2.2.1), (iv (a0.getD (Int.toNat v1) default).1.2.2.2.2), (iv (a0.getD (Int.toNat v1) default).2.1), (iv (a0.getD (Int.toNat v1) default).2.2)], .call [] (.v (.bool (F68 (a0.getD (Int.toNat v1) default)))) [], .d false]) [] [0, 1, 7, 8] [] hcx (body := B97_L_f68_0) (m := n) (k' := K97_L_f68_0) (s' := ⟨[(.s 0 0 a0.length 11), (.v (.func (.func 68) #[] #[])), .u, .u, .u, .u, .u, (iv ((a0.length : Nat) : Int)), (iv (W (v1 + 1))), .u, .u, .u, .u, .u, .u, .u, .u, .u, .u], [(.live false true (flat c41 a0))]⟩)
          (obs := [.eq (decide ((v1 : Int) < ((a0.length : Nat) : Int))) true, .pr (0 ≤ (v1 : Int) ∧ (v1 : Int) < ((a0.length : Nat) : Int)), .pr (((((flat c41 a0)).drop (0 + Int.toNat v1 * 11)).take 11) = [(iv (a0.getD (Int.toNat v1) default).1.1.1), (iv (a0.getD (Int.toNat v1) default).1.1.2.1), (iv (a0.getD (Int.toNat v1) default).1.1.2.2), (iv (a0.getD (Int.toNat v1) default).1.2.1.1), (iv (a0.getD (Int.toNat v1) default).1.2.1.2.1), (iv (a0.getD (Int.toNat v1) default).1.2.1.2.2), (iv (a0.getD (Int.toNat v1) default).1.2.2.1), (iv (a0.getD (Int.toNat v1) default).1.2.2.2.1), (iv (a0.getD (Int.toNat v1) default).1.2.2.2.2), (iv (a0.getD (Int.toNat v1) default).2.1), (iv (a0.getD (Int.toNat v1) default).2.2)]), .call 68 [(.a [(iv (a0.getD (Int.toNat v1) default).1.1.1), (iv (a0.getD (Int.toNat v1) default).1.1.2.1), (iv (a0.getD (Int.toNat v1) default).1.1.2.2), (iv (a0.getD (Int.toNat v1) default).1.2.1.1), (iv (a0.getD (Int.toNat v1) default).1.2.1.2.1), (iv (a0.getD (Int.toNat v1) default).1.2.1.2.2), (iv (a0.getD (Int.toNat v1) default).1.2.2.1), (iv (a0.getD (Int.toNat v1) default).1.2.2.2.1), (iv (a0.getD (Int.toNat v1) default).1.2.2.2.2), (iv (a0.getD (Int.toNat v1) default).2.1), (iv (a0.getD (Int.toNat v1) default).2.2)])] [] (.v (.bool (F68 (a0.getD (Int.toNat v1) default)))) [], .eq (F68 (a0.getD (Int.toNat v1) default)) false]) (by kernel_rfl) ⟨h0, (show 0 ≤ (v1 : Int) ∧ (v1 : Int) < ((a0.length : Nat) : Int) from by first | omega | (rw [W_eq] <;> omega) | exact u64_nn _), (ld_part c41_len default a0 v1 0 11 (by omega) (by decide) (by omega) rfl), (C68 (a0.getD (Int.toNat v1) default)), h1, trivial⟩ ?_
        have z0 : (W (v1 + 1)) = (v1 + 1) := W_eq (by omega) (by omega)
        rw [z0]
        exact ih (v1 + 1) (by (try simp only [List.length_append, List.length_cons, List.length_nil, Int.toNat_zero]); omega) (by (try simp only [List.length_append, List.length_cons, List.length_nil, Int.toNat_zero]); omega)
    | false =>
      have q0 := of_decide_eq_false h0
      have e : S97_L_f68_0 a0 v1 = (.inr (-1)) := by simp only [S97_L_f68_0, h0, cond_true, cond_false]
      rw [show loopF (S97_L_f68_0 a0) (n + 1) v1 = thenF (S97_L_f68_0 a0) n (S97_L_f68_0 a0 v1) from rfl, e]
      exact ret_of (T := T0) hT hm (f := 5000) (orc := [.d false]) [] [] [] hcx
        (obs := [.eq (decide ((v1 : Int) < ((a0.length : Nat) : Int))) false]) (by kernel_rfl) ⟨h0, trivial⟩

/-- slices.IndexFunc[[]facet/api.Pulse,facet/api.Pulse] at ('L', 'f68') -/
def F97_L_f68 (a0 : List (((Int × Int × Int) × (Int × Int × Int) × Int × Int × Int) × Int × Int)) : Int :=
  (loopF (S97_L_f68_0 a0) (Int.toNat (((a0.length : Nat) : Int) - 0) + 1) 0)

theorem C97_L_f68 (a0 : List (((Int × Int × Int) × (Int × Int × Int) × Int × Int × Int) × Int × Int)) (l0 : a0.length ≤ 9223372036854775807) : Con Try.prog 97 [(.s 0 0 a0.length 11), (.v (.func (.func 68) #[] #[]))] [(.live false true (flat c41 a0))] (iv (F97_L_f68 a0)) [] := by
  have e : (F97_L_f68 a0) = (loopF (S97_L_f68_0 a0) (Int.toNat (((a0.length : Nat) : Int) - 0) + 1) 0) := by simp only [F97_L_f68]
  rw [e]
  refine con_of (n := 9) Try.func97 rfl (ent Try.func97 (by kernel_rfl) rfl) (by show 2 ≤ Try.f97.ntmps; decide) (by kernel_rfl) ⟨rfl, trivial⟩ (fun cx hcx => ?_)
  refine enter_of (T := T0) hT hm (f := 5000) (orc := []) [] [0, 1, 7, 8] [] hcx (body := B97_L_f68_0) (k' := K97_L_f68_0) (s' := ⟨[(.s 0 0 a0.length 11), (.v (.func (.func 68) #[] #[])), .u, .u, .u, .u, .u, (iv ((a0.length : Nat) : Int)), (iv 0), .u, .u, .u, .u, .u, .u, .u, .u, .u, .u], [(.live false true (flat c41 a0))]⟩)
    (obs := []) (by kernel_rfl) trivial ⟨Int.toNat (((a0.length : Nat) : Int) - 0) + 1, ?_⟩
  exact L97_L_f68_0 a0 l0 hcx (Int.toNat (((a0.length : Nat) : Int) - 0) + 1) 0 (by (try simp only [List.length_append, List.length_cons, List.length_nil, Int.toNat_zero]); omega) (by (try simp only [List.length_append, List.length_cons, List.length_nil, Int.toNat_zero]); omega)

/-- slices.ContainsFunc[[]facet/api.Pulse,facet/api.Pulse] at ('L', 'f68') -/
def F67_L_f68 (a0 : List (((Int × Int × Int) × (Int × Int × Int) × Int × Int × Int) × Int × Int)) : Bool :=
  (decide (((F97_L_f68 a0) : Int) ≥ 0))

theorem C67_L_f68 (a0 : List (((Int × Int × Int) × (Int × Int × Int) × Int × Int × Int) × Int × Int)) (l0 : a0.length ≤ 9223372036854775807) : Con Try.prog 67 [(.s 0 0 a0.length 11), (.v (.func (.func 68) #[] #[]))] [(.live false true (flat c41 a0))] (.v (.bool (F67_L_f68 a0))) [] := by
  have e : (F67_L_f68 a0) = (decide (((F97_L_f68 a0) : Int) ≥ 0)) := by simp only [F67_L_f68]
  rw [e]
  refine con_of (n := 9) Try.func67 rfl (ent Try.func67 (by kernel_rfl) rfl) (by show 2 ≤ Try.f67.ntmps; decide) (by kernel_rfl) ⟨rfl, trivial⟩ (fun cx hcx => ?_)
  exact ret_of (T := T0) hT hm (f := 5000) (orc := [.call [0] (iv (F97_L_f68 a0)) []]) [] [] [] hcx
    (obs := [.call 97 [(.s 0 0 a0.length 11), (.v (.func (.func 68) #[] #[]))] [(.live false true (flat c41 a0))] (iv (F97_L_f68 a0)) []]) (by kernel_rfl) ⟨(C97_L_f68 a0 (by (try simp only [List.length_append, List.length_cons, List.length_nil, Int.toNat_zero]); omega)), trivial⟩

/-- facet/sound.mirrored -/
def F69 (a0 : Int × Int × Int) : Int × Int × Int :=
  (a0.1, a0.2.1, (W (0 - a0.2.2)))

theorem C69 (a0 : Int × Int × Int) : Con Try.prog 69 [(.a (k3 a0))] [] (.a (k3 (F69 a0))) [] := by
  have e : (F69 a0) = (a0.1, a0.2.1, (W (0 - a0.2.2))) := by simp only [F69]
  rw [e]
  refine con_of (n := 9) Try.func69 rfl (ent Try.func69 (by kernel_rfl) rfl) (by show 1 ≤ Try.f69.ntmps; decide) (by kernel_rfl) trivial (fun cx hcx => ?_)
  exact ret_of (T := T0) hT hm (f := 5000) (orc := []) [] [] [] hcx
    (obs := []) (by kernel_rfl) trivial

noncomputable def B30_L_0 : Code := (loopAtD [1, 1, 1, 1, 1, 0, 1] [] (Try.f30.body.getD .skip) []).1
noncomputable def K30_L_0 : List K := (loopAtD [1, 1, 1, 1, 1, 0, 1] [] (Try.f30.body.getD .skip) []).2

/-- a round of loop 0 of facet/sound.Images; the variables: v1 = s8, v2 = s28 -/
def S30_L_0 (a0 : List (((Int × Int × Int) × (Int × Int × Int) × Int × Int × Int) × Int × Int)) (a1 : Bool) : (List (((Int × Int × Int) × (Int × Int × Int) × Int × Int × Int) × Int × Int)) × Int → ((List (((Int × Int × Int) × (Int × Int × Int) × Int × Int × Int) × Int × Int)) × Int) ⊕ ((List (((Int × Int × Int) × (Int × Int × Int) × Int × Int × Int) × Int × Int)) × Int)
  | (v1, v2) =>
   (bif (decide ((v2 : Int) < ((a0.length : Nat) : Int))) then
    (bif a1 then
     (.inl ((v1 ++ [(((F69 (a0.getD (Int.toNat v2) default).1.1), (F69 (a0.getD (Int.toNat v2) default).1.2.1), (F69 (a0.getD (Int.toNat v2) default).1.2.2)), (a0.getD (Int.toNat v2) default).2.1, (W (0 - (a0.getD (Int.toNat v2) default).2.2)))]), (v2 + 1)))
    else
     (.inl ((v1 ++ [(((F69 (a0.getD (Int.toNat v2) default).1.1), (F69 (a0.getD (Int.toNat v2) default).1.2.1), (F69 (a0.getD (Int.toNat v2) default).1.2.2)), (a0.getD (Int.toNat v2) default).2.1, (a0.getD (Int.toNat v2) default).2.2)]), (v2 + 1))))
   else
    (.inr (v1, 0)))

set_option maxHeartbeats 4000000 in
theorem L30_L_0 (a0 : List (((Int × Int × Int) × (Int × Int × Int) × Int × Int × Int) × Int × Int)) (a1 : Bool) (l0 : a0.length ≤ 9223372036854775807) {cx : Cx} (hcx : cx.base = 1) : ∀ (n : Nat) (v1 : List (((Int × Int × Int) × (Int × Int × Int) × Int × Int × Int) × Int × Int)) (v2 : Int), (0 ≤ v2) ∧ (v1.length = (F64_L a0).length + Int.toNat v2) ∧ (v2 ≤ a0.length) ∧ (a0.length ≤ 16) → Int.toNat (((a0.length : Nat) : Int) - v2) < n → Aw.Good Try.prog none 9 (bodyPost Try.prog Try.f30 (RR cx (.t [(.s 1 0 (loopF (S30_L_0 a0 a1) n (v1, v2)).1.length 11), (iv (loopF (S30_L_0 a0 a1) n (v1, v2)).2)]) [(.live true true (flat c41 (loopF (S30_L_0 a0 a1) n (v1, v2)).1))] [])) cx [] (.l B30_L_0 n :: K30_L_0) ⟨[.u, (.v (.bool a1)), .u, .u, .u, .u, .u, .u, (.s 1 0 v1.length 11), .u, .u, .u, .u, .u, .u, .u, .u, .u, .u, .u, .u, .u, .u, .u, .u, .u, (.s 0 0 a0.length 11), (iv ((a0.length : Nat) : Int)), (iv v2), .u, .u, .u, .u, .u, .u, .u, .u, .u, .u, .u, .u, .u, .u, .u, .u, .u, .u, .u, .u, .u, .u, .u, .u, .u, .u, .u, .u], [(.live false true (flat c41 a0)), (.live true true (flat c41 v1))]⟩ := by
  intro n
  induction n with
  | zero => intro v1 v2 hi hn; exact absurd hn (Nat.not_lt_zero _)
  | succ n ih =>
    intro v1 v2 hi hn
    refine good_round ?_
    cases h0 : (decide ((v2 : Int) < ((a0.length : Nat) : Int))) with
    | true =>
      rcases bool_tf a1 with h1 | h1
      · skip
        have q0 := of_decide_eq_true h0
        have hcl := clone_len a0
        have e : S30_L_0 a0 a1 (v1, v2) = (.inl ((v1 ++ [(((F69 (a0.getD (Int.toNat v2) default).1.1), (F69 (a0.getD (Int.toNat v2) default).1.2.1), (F69 (a0.getD (Int.toNat v2) default).1.2.2)), (a0.getD (Int.toNat v2) default).2.1, (W (0 - (a0.getD (Int.toNat v2) default).2.2)))]), (v2 + 1))) := by simp only [S30_L_0, h0, h1, cond_true, cond_false]
        rw [loopF_inl e]
        refine back_of (T := T0) hT hm (f := 5000) (orc := [.d true, .ld [(iv (a0.getD (Int.toNat v2) default).1.1.1), (iv (a0.getD (Int.toNat v2) default).1.1.2.1), (iv (a0.getD (Int.toNat v2) default).1.1.2.2), (iv (a0.getD (Int.toNat v2) default).1.2.1.1), (iv (a0.getD (Int.toNat v2) default).1.2.1.2.1), (iv (a0.getD (Int.toNat v2) default).1.2.1.2.2), (iv (a0.getD (Int.toNat v2) default).1.2.2.1), (iv (a0.getD (Int.toNat v2) default).1.2.2.2.1), (iv (a0.getD (Int.toNat v2) default).1.2.2.2.2), (iv (a0.getD (Int.toNat v2) default).2.1), (iv (a0.getD (Int.toNat v2) default).2.2)], .call [] (.a (k3 (F69 (a0.getD (Int.toNat v2) default).1.1))) [], .call [] (.a (k3 (F69 (a0.getD (Int.toNat v2) default).1.2.1))) [], .call [] (.a (k3 (F69 (a0.getD (Int.toNat v2) default).1.2.2))) [], .d true]) [] [1, 8, 26, 27, 28] [4] hcx (body := B30_L_0) (m := n) (k' := K30_L_0) (s' := ⟨[.u, (.v (.bool a1)), .u, .u, .u, .u, .u, .u, (.s 1 0 (v1.length + 1) 11), .u, .u, .u, .u, .u, .u, .u, .u, .u, .u, .u, .u, .u, .u, .u, .u, .u, (.s 0 0 a0.length 11), (iv ((a0.length : Nat) : Int)), (iv (W (v2 + 1))), .u, .u, .u, .u, .u, .u, .u, .u, .u, .u, .u, .u, .u, .u, .u, .u, .u, .u, .u, .u, .u, .u, .u, .u, .u, .u, .u, .u], [(.live false true (flat c41 a0)), (.live true true (flat c41 v1 ++ [(iv (F69 (a0.getD (Int.toNat v2) default).1.1).1), (iv (F69 (a0.getD (Int.toNat v2) default).1.1).2.1), (iv (F69 (a0.getD (Int.toNat v2) default).1.1).2.2), (iv (F69 (a0.getD (Int.toNat v2) default).1.2.1).1), (iv (F69 (a0.getD (Int.toNat v2) default).1.2.1).2.1), (iv (F69 (a0.getD (Int.toNat v2) default).1.2.1).2.2), (iv (F69 (a0.getD (Int.toNat v2) default).1.2.2).1), (iv (F69 (a0.getD (Int.toNat v2) default).1.2.2).2.1), (iv (F69 (a0.getD (Int.toNat v2) default).1.2.2).2.2), (iv (a0.getD (Int.toNat v2) default).2.1), (iv (W (0 - (a0.getD (Int.toNat v2) default).2.2)))]))]⟩)
          (obs := [.eq (decide ((v2 : Int) < ((a0.length : Nat) : Int))) true, .pr (0 ≤ (v2 : Int) ∧ (v2 : Int) < ((a0.length : Nat) : Int)), .pr (((((flat c41 a0)).drop (0 + Int.toNat v2 * 11)).take 11) = [(iv (a0.getD (Int.toNat v2) default).1.1.1), (iv (a0.getD (Int.toNat v2) default).1.1.2.1), (iv (a0.getD (Int.toNat v2) default).1.1.2.2), (iv (a0.getD (Int.toNat v2) default).1.2.1.1), (iv (a0.getD (Int.toNat v2) default).1.2.1.2.1), (iv (a0.getD (Int.toNat v2) default).1.2.1.2.2), (iv (a0.getD (Int.toNat v2) default).1.2.2.1), (iv (a0.getD (Int.toNat v2) default).1.2.2.2.1), (iv (a0.getD (Int.toNat v2) default).1.2.2.2.2), (iv (a0.getD (Int.toNat v2) default).2.1), (iv (a0.getD (Int.toNat v2) default).2.2)]), .call 69 [(.a (k3 (a0.getD (Int.toNat v2) default).1.1))] [] (.a (k3 (F69 (a0.getD (Int.toNat v2) default).1.1))) [], .call 69 [(.a (k3 (a0.getD (Int.toNat v2) default).1.2.1))] [] (.a (k3 (F69 (a0.getD (Int.toNat v2) default).1.2.1))) [], .call 69 [(.a (k3 (a0.getD (Int.toNat v2) default).1.2.2))] [] (.a (k3 (F69 (a0.getD (Int.toNat v2) default).1.2.2))) [], .eq a1 true, .pr ((flat c41 v1).length = v1.length * 11 ∧ v1.length + 1 ≤ 2 ^ 40 ∧ (v1.length + 1) * 88 ≤ 2 ^ 47)]) (by kernel_rfl) ⟨h0, (show 0 ≤ (v2 : Int) ∧ (v2 : Int) < ((a0.length : Nat) : Int) from by first | omega | (rw [W_eq] <;> omega) | exact u64_nn _), (ld_part c41_len default a0 v2 0 11 (by omega) (by decide) (by omega) rfl), (C69 (a0.getD (Int.toNat v2) default).1.1), (C69 (a0.getD (Int.toNat v2) default).1.2.1), (C69 (a0.getD (Int.toNat v2) default).1.2.2), h1, (app_ok c41_len (by omega) (by omega)), trivial⟩ ?_
        have z0 : (W (v2 + 1)) = (v2 + 1) := W_eq (by omega) (by omega)
        have z1 : (flat c41 v1 ++ [(iv (F69 (a0.getD (Int.toNat v2) default).1.1).1), (iv (F69 (a0.getD (Int.toNat v2) default).1.1).2.1), (iv (F69 (a0.getD (Int.toNat v2) default).1.1).2.2), (iv (F69 (a0.getD (Int.toNat v2) default).1.2.1).1), (iv (F69 (a0.getD (Int.toNat v2) default).1.2.1).2.1), (iv (F69 (a0.getD (Int.toNat v2) default).1.2.1).2.2), (iv (F69 (a0.getD (Int.toNat v2) default).1.2.2).1), (iv (F69 (a0.getD (Int.toNat v2) default).1.2.2).2.1), (iv (F69 (a0.getD (Int.toNat v2) default).1.2.2).2.2), (iv (a0.getD (Int.toNat v2) default).2.1), (iv (W (0 - (a0.getD (Int.toNat v2) default).2.2)))]) = (flat c41 (v1 ++ [(((F69 (a0.getD (Int.toNat v2) default).1.1), (F69 (a0.getD (Int.toNat v2) default).1.2.1), (F69 (a0.getD (Int.toNat v2) default).1.2.2)), (a0.getD (Int.toNat v2) default).2.1, (W (0 - (a0.getD (Int.toNat v2) default).2.2)))])) := (flat_append (c := c41) (l := v1) (m := [(((F69 (a0.getD (Int.toNat v2) default).1.1), (F69 (a0.getD (Int.toNat v2) default).1.2.1), (F69 (a0.getD (Int.toNat v2) default).1.2.2)), (a0.getD (Int.toNat v2) default).2.1, (W (0 - (a0.getD (Int.toNat v2) default).2.2)))])).symm
        have z2 : (v1.length + 1) = (v1 ++ [(((F69 (a0.getD (Int.toNat v2) default).1.1), (F69 (a0.getD (Int.toNat v2) default).1.2.1), (F69 (a0.getD (Int.toNat v2) default).1.2.2)), (a0.getD (Int.toNat v2) default).2.1, (W (0 - (a0.getD (Int.toNat v2) default).2.2)))]).length := len_app v1 [(((F69 (a0.getD (Int.toNat v2) default).1.1), (F69 (a0.getD (Int.toNat v2) default).1.2.1), (F69 (a0.getD (Int.toNat v2) default).1.2.2)), (a0.getD (Int.toNat v2) default).2.1, (W (0 - (a0.getD (Int.toNat v2) default).2.2)))] rfl
        rw [z0, z1, z2]
        exact ih (v1 ++ [(((F69 (a0.getD (Int.toNat v2) default).1.1), (F69 (a0.getD (Int.toNat v2) default).1.2.1), (F69 (a0.getD (Int.toNat v2) default).1.2.2)), (a0.getD (Int.toNat v2) default).2.1, (W (0 - (a0.getD (Int.toNat v2) default).2.2)))]) (v2 + 1) (by refine ⟨?_, ?_, ?_, ?_⟩ <;> (try simp only [List.length_append, List.length_cons, List.length_nil, Int.toNat_zero]) <;> first | omega | simp) (by (try simp only [List.length_append, List.length_cons, List.length_nil, Int.toNat_zero]); omega)
      · skip
        have q0 := of_decide_eq_true h0
        have hcl := clone_len a0
        have e : S30_L_0 a0 a1 (v1, v2) = (.inl ((v1 ++ [(((F69 (a0.getD (Int.toNat v2) default).1.1), (F69 (a0.getD (Int.toNat v2) default).1.2.1), (F69 (a0.getD (Int.toNat v2) default).1.2.2)), (a0.getD (Int.toNat v2) default).2.1, (a0.getD (Int.toNat v2) default).2.2)]), (v2 + 1))) := by simp only [S30_L_0, h0, h1, cond_true, cond_false]
        rw [loopF_inl e]
        refine back_of (T := T0) hT hm (f := 5000) (orc := [.d true, .ld [(iv (a0.getD (Int.toNat v2) default).1.1.1), (iv (a0.getD (Int.toNat v2) default).1.1.2.1), (iv (a0.getD (Int.toNat v2) default).1.1.2.2), (iv (a0.getD (Int.toNat v2) default).1.2.1.1), (iv (a0.getD (Int.toNat v2) default).1.2.1.2.1), (iv (a0.getD (Int.toNat v2) default).1.2.1.2.2), (iv (a0.getD (Int.toNat v2) default).1.2.2.1), (iv (a0.getD (Int.toNat v2) default).1.2.2.2.1), (iv (a0.getD (Int.toNat v2) default).1.2.2.2.2), (iv (a0.getD (Int.toNat v2) default).2.1), (iv (a0.getD (Int.toNat v2) default).2.2)], .call [] (.a (k3 (F69 (a0.getD (Int.toNat v2) default).1.1))) [], .call [] (.a (k3 (F69 (a0.getD (Int.toNat v2) default).1.2.1))) [], .call [] (.a (k3 (F69 (a0.getD (Int.toNat v2) default).1.2.2))) [], .d false]) [] [1, 8, 26, 27, 28] [4] hcx (body := B30_L_0) (m := n) (k' := K30_L_0) (s' := ⟨[.u, (.v (.bool a1)), .u, .u, .u, .u, .u, .u, (.s 1 0 (v1.length + 1) 11), .u, .u, .u, .u, .u, .u, .u, .u, .u, .u, .u, .u, .u, .u, .u, .u, .u, (.s 0 0 a0.length 11), (iv ((a0.length : Nat) : Int)), (iv (W (v2 + 1))), .u, .u, .u, .u, .u, .u, .u, .u, .u, .u, .u, .u, .u, .u, .u, .u, .u, .u, .u, .u, .u, .u, .u, .u, .u, .u, .u, .u], [(.live false true (flat c41 a0)), (.live true true (flat c41 v1 ++ [(iv (F69 (a0.getD (Int.toNat v2) default).1.1).1), (iv (F69 (a0.getD (Int.toNat v2) default).1.1).2.1), (iv (F69 (a0.getD (Int.toNat v2) default).1.1).2.2), (iv (F69 (a0.getD (Int.toNat v2) default).1.2.1).1), (iv (F69 (a0.getD (Int.toNat v2) default).1.2.1).2.1), (iv (F69 (a0.getD (Int.toNat v2) default).1.2.1).2.2), (iv (F69 (a0.getD (Int.toNat v2) default).1.2.2).1), (iv (F69 (a0.getD (Int.toNat v2) default).1.2.2).2.1), (iv (F69 (a0.getD (Int.toNat v2) default).1.2.2).2.2), (iv (a0.getD (Int.toNat v2) default).2.1), (iv (a0.getD (Int.toNat v2) default).2.2)]))]⟩)
          (obs := [.eq (decide ((v2 : Int) < ((a0.length : Nat) : Int))) true, .pr (0 ≤ (v2 : Int) ∧ (v2 : Int) < ((a0.length : Nat) : Int)), .pr (((((flat c41 a0)).drop (0 + Int.toNat v2 * 11)).take 11) = [(iv (a0.getD (Int.toNat v2) default).1.1.1), (iv (a0.getD (Int.toNat v2) default).1.1.2.1), (iv (a0.getD (Int.toNat v2) default).1.1.2.2), (iv (a0.getD (Int.toNat v2) default).1.2.1.1), (iv (a0.getD (Int.toNat v2) default).1.2.1.2.1), (iv (a0.getD (Int.toNat v2) default).1.2.1.2.2), (iv (a0.getD (Int.toNat v2) default).1.2.2.1), (iv (a0.getD (Int.toNat v2) default).1.2.2.2.1), (iv (a0.getD (Int.toNat v2) default).1.2.2.2.2), (iv (a0.getD (Int.toNat v2) default).2.1), (iv (a0.getD (Int.toNat v2) default).2.2)]), .call 69 [(.a (k3 (a0.getD (Int.toNat v2) default).1.1))] [] (.a (k3 (F69 (a0.getD (Int.toNat v2) default).1.1))) [], .call 69 [(.a (k3 (a0.getD (Int.toNat v2) default).1.2.1))] [] (.a (k3 (F69 (a0.getD (Int.toNat v2) default).1.2.1))) [], .call 69 [(.a (k3 (a0.getD (Int.toNat v2) default).1.2.2))] [] (.a (k3 (F69 (a0.getD (Int.toNat v2) default).1.2.2))) [], .eq a1 false, .pr ((flat c41 v1).length = v1.length * 11 ∧ v1.length + 1 ≤ 2 ^ 40 ∧ (v1.length + 1) * 88 ≤ 2 ^ 47)]) (by kernel_rfl) ⟨h0, (show 0 ≤ (v2 : Int) ∧ (v2 : Int) < ((a0.length : Nat) : Int) from by first | omega | (rw [W_eq] <;> omega) | exact u64_nn _), (ld_part c41_len default a0 v2 0 11 (by omega) (by decide) (by omega) rfl), (C69 (a0.getD (Int.toNat v2) default).1.1), (C69 (a0.getD (Int.toNat v2) default).1.2.1), (C69 (a0.getD (Int.toNat v2) default).1.2.2), h1, (app_ok c41_len (by omega) (by omega)), trivial⟩ ?_
        have z0 : (W (v2 + 1)) = (v2 + 1) := W_eq (by omega) (by omega)
        have z1 : (flat c41 v1 ++ [(iv (F69 (a0.getD (Int.toNat v2) default).1.1).1), (iv (F69 (a0.getD (Int.toNat v2) default).1.1).2.1), (iv (F69 (a0.getD (Int.toNat v2) default).1.1).2.2), (iv (F69 (a0.getD (Int.toNat v2) default).1.2.1).1), (iv (F69 (a0.getD (Int.toNat v2) default).1.2.1).2.1), (iv (F69 (a0.getD (Int.toNat v2) default).1.2.1).2.2), (iv (F69 (a0.getD (Int.toNat v2) default).1.2.2).1), (iv (F69 (a0.getD (Int.toNat v2) default).1.2.2).2.1), (iv (F69 (a0.getD (Int.toNat v2) default).1.2.2).2.2), (iv (a0.getD (Int.toNat v2) default).2.1), (iv (a0.getD (Int.toNat v2) default).2.2)]) = (flat c41 (v1 ++ [(((F69 (a0.getD (Int.toNat v2) default).1.1), (F69 (a0.getD (Int.toNat v2) default).1.2.1), (F69 (a0.getD (Int.toNat v2) default).1.2.2)), (a0.getD (Int.toNat v2) default).2.1, (a0.getD (Int.toNat v2) default).2.2)])) := (flat_append (c := c41) (l := v1) (m := [(((F69 (a0.getD (Int.toNat v2) default).1.1), (F69 (a0.getD (Int.toNat v2) default).1.2.1), (F69 (a0.getD (Int.toNat v2) default).1.2.2)), (a0.getD (Int.toNat v2) default).2.1, (a0.getD (Int.toNat v2) default).2.2)])).symm
        have z2 : (v1.length + 1) = (v1 ++ [(((F69 (a0.getD (Int.toNat v2) default).1.1), (F69 (a0.getD (Int.toNat v2) default).1.2.1), (F69 (a0.getD (Int.toNat v2) default).1.2.2)), (a0.getD (Int.toNat v2) default).2.1, (a0.getD (Int.toNat v2) default).2.2)]).length := len_app v1 [(((F69 (a0.getD (Int.toNat v2) default).1.1), (F69 (a0.getD (Int.toNat v2) default).1.2.1), (F69 (a0.getD (Int.toNat v2) default).1.2.2)), (a0.getD (Int.toNat v2) default).2.1, (a0.getD (Int.toNat v2) default).2.2)] rfl
        rw [z0, z1, z2]
        exact ih (v1 ++ [(((F69 (a0.getD (Int.toNat v2) default).1.1), (F69 (a0.getD (Int.toNat v2) default).1.2.1), (F69 (a0.getD (Int.toNat v2) default).1.2.2)), (a0.getD (Int.toNat v2) default).2.1, (a0.getD (Int.toNat v2) default).2.2)]) (v2 + 1) (by refine ⟨?_, ?_, ?_, ?_⟩ <;> (try simp only [List.length_append, List.length_cons, List.length_nil, Int.toNat_zero]) <;> first | omega | simp) (by (try simp only [List.length_append, List.length_cons, List.length_nil, Int.toNat_zero]); omega)
    | false =>
      have q0 := of_decide_eq_false h0
      have hcl := clone_len a0
      have e : S30_L_0 a0 a1 (v1, v2) = (.inr (v1, 0)) := by simp only [S30_L_0, h0, cond_true, cond_false]
      rw [show loopF (S30_L_0 a0 a1) (n + 1) (v1, v2) = thenF (S30_L_0 a0 a1) n (S30_L_0 a0 a1 (v1, v2)) from rfl, e]
      exact ret_of (T := T0) hT hm (f := 5000) (orc := [.d false]) [] [] [1] hcx
        (obs := [.eq (decide ((v2 : Int) < ((a0.length : Nat) : Int))) false]) (by kernel_rfl) ⟨h0, trivial⟩

/-- facet/sound.Images at ('L',) -/
def F30_L (a0 : List (((Int × Int × Int) × (Int × Int × Int) × Int × Int × Int) × Int × Int)) (a1 : Bool) : (List (((Int × Int × Int) × (Int × Int × Int) × Int × Int × Int) × Int × Int)) × Int :=
  (bif (((F53_L a0 (!(F67_L_f68 a0))) : Int) != 0) then
   (([] : List (((Int × Int × Int) × (Int × Int × Int) × Int × Int × Int) × Int × Int)), (F53_L a0 (!(F67_L_f68 a0))))
  else
   (bif (decide (((W (2 * ((a0.length : Nat) : Int))) : Int) > 16)) then
    (([] : List (((Int × Int × Int) × (Int × Int × Int) × Int × Int × Int) × Int × Int)), 4)
   else
    (loopF (S30_L_0 a0 a1) (Int.toNat (((a0.length : Nat) : Int) - 0) + 1) ((F64_L a0), 0))))

noncomputable def oC30_L_0 (a0 : List (((Int × Int × Int) × (Int × Int × Int) × Int × Int × Int) × Int × Int)) : Ob := .call 67 [(.s 0 0 a0.length 11), (.v (.func (.func 68) #[] #[]))] [(.live false true (flat c41 a0))] (.v (.bool (F67_L_f68 a0))) []
noncomputable def oC30_L_1 (a0 : List (((Int × Int × Int) × (Int × Int × Int) × Int × Int × Int) × Int × Int)) : Ob := .call 53 [(.s 0 0 a0.length 11), (.v (.bool (!(F67_L_f68 a0))))] [(.live false true (flat c41 a0))] (iv (F53_L a0 (!(F67_L_f68 a0)))) []
theorem C30_L (a0 : List (((Int × Int × Int) × (Int × Int × Int) × Int × Int × Int) × Int × Int)) (a1 : Bool) (l0 : a0.length ≤ 9223372036854775807) : Con Try.prog 30 [(.s 0 0 a0.length 11), (.v (.bool a1))] [(.live false true (flat c41 a0))] (.t [(.s 1 0 (F30_L a0 a1).1.length 11), (iv (F30_L a0 a1).2)]) [(.live true true (flat c41 (F30_L a0 a1).1))] := by
  cases h0 : (((F53_L a0 (!(F67_L_f68 a0))) : Int) != 0) with
  | true =>
    have q0 := bne_iff_ne.1 h0
    try have hl16 := chkL_len h0
    have hcl := clone_len a0
    have e : (F30_L a0 a1) = (([] : List (((Int × Int × Int) × (Int × Int × Int) × Int × Int × Int) × Int × Int)), (F53_L a0 (!(F67_L_f68 a0)))) := by simp only [F30_L, h0, cond_true, cond_false]
    rw [e]
    refine con_of (n := 9) Try.func30 rfl (ent Try.func30 (by kernel_rfl) rfl) (by show 2 ≤ Try.f30.ntmps; decide) (by kernel_rfl) ⟨rfl, trivial⟩ (fun cx hcx => ?_)
    exact ret_of (T := T0) hT hm (f := 5000) (orc := [.call [0] (.v (.bool (F67_L_f68 a0))) [], .call [0] (iv (F53_L a0 (!(F67_L_f68 a0)))) [], .d true]) [.slot 4 11] [] [1] hcx
      (obs := [(oC30_L_0 a0), (oC30_L_1 a0), .eq (((F53_L a0 (!(F67_L_f68 a0))) : Int) != 0) true]) (by kernel_rfl) ⟨(C67_L_f68 a0 (by (try simp only [List.length_append, List.length_cons, List.length_nil, Int.toNat_zero]); omega)), (C53_L a0 (!(F67_L_f68 a0)) (by (try simp only [List.length_append, List.length_cons, List.length_nil, Int.toNat_zero]); omega)), h0, trivial⟩
  | false =>
    cases h1 : (decide (((W (2 * ((a0.length : Nat) : Int))) : Int) > 16)) with
    | true =>
      have q0 := bne_eq_false_iff_eq.1 h0
      have q1 := of_decide_eq_true h1
      try have hl16 := chkL_len h0
      have hcl := clone_len a0
      have e : (F30_L a0 a1) = (([] : List (((Int × Int × Int) × (Int × Int × Int) × Int × Int × Int) × Int × Int)), 4) := by simp only [F30_L, h0, h1, cond_true, cond_false]
      rw [e]
      refine con_of (n := 9) Try.func30 rfl (ent Try.func30 (by kernel_rfl) rfl) (by show 2 ≤ Try.f30.ntmps; decide) (by kernel_rfl) ⟨rfl, trivial⟩ (fun cx hcx => ?_)
      exact ret_of (T := T0) hT hm (f := 5000) (orc := [.call [0] (.v (.bool (F67_L_f68 a0))) [], .call [0] (iv (F53_L a0 (!(F67_L_f68 a0)))) [], .d false, .d true]) [.slot 4 11] [] [1] hcx
        (obs := [(oC30_L_0 a0), (oC30_L_1 a0), .eq (((F53_L a0 (!(F67_L_f68 a0))) : Int) != 0) false, .eq (decide (((W (2 * ((a0.length : Nat) : Int))) : Int) > 16)) true]) (by kernel_rfl) ⟨(C67_L_f68 a0 (by (try simp only [List.length_append, List.length_cons, List.length_nil, Int.toNat_zero]); omega)), (C53_L a0 (!(F67_L_f68 a0)) (by (try simp only [List.length_append, List.length_cons, List.length_nil, Int.toNat_zero]); omega)), h0, h1, trivial⟩
    | false =>
      have q0 := bne_eq_false_iff_eq.1 h0
      have q1 := of_decide_eq_false h1
      try have hl16 := chkL_len h0
      have hcl := clone_len a0
      have e : (F30_L a0 a1) = (loopF (S30_L_0 a0 a1) (Int.toNat (((a0.length : Nat) : Int) - 0) + 1) ((F64_L a0), 0)) := by simp only [F30_L, h0, h1, cond_true, cond_false]
      rw [e]
      refine con_of (n := 9) Try.func30 rfl (ent Try.func30 (by kernel_rfl) rfl) (by show 2 ≤ Try.f30.ntmps; decide) (by kernel_rfl) ⟨rfl, trivial⟩ (fun cx hcx => ?_)
      refine enter_of (T := T0) hT hm (f := 5000) (orc := [.call [0] (.v (.bool (F67_L_f68 a0))) [], .call [0] (iv (F53_L a0 (!(F67_L_f68 a0)))) [], .d false, .d false, .call [0] (.s 1 0 (F64_L a0).length 11) [(.live true true (flat c41 (F64_L a0)))]]) [] [1, 8, 26, 27, 28] [1] hcx (body := B30_L_0) (k' := K30_L_0) (s' := ⟨[.u, (.v (.bool a1)), .u, .u, .u, .u, .u, .u, (.s 1 0 (F64_L a0).length 11), .u, .u, .u, .u, .u, .u, .u, .u, .u, .u, .u, .u, .u, .u, .u, .u, .u, (.s 0 0 a0.length 11), (iv ((a0.length : Nat) : Int)), (iv 0), .u, .u, .u, .u, .u, .u, .u, .u, .u, .u, .u, .u, .u, .u, .u, .u, .u, .u, .u, .u, .u, .u, .u, .u, .u, .u, .u, .u], [(.live false true (flat c41 a0)), (.live true true (flat c41 (F64_L a0)))]⟩)
        (obs := [(oC30_L_0 a0), (oC30_L_1 a0), .eq (((F53_L a0 (!(F67_L_f68 a0))) : Int) != 0) false, .eq (decide (((W (2 * ((a0.length : Nat) : Int))) : Int) > 16)) false, .call 64 [(.s 0 0 a0.length 11)] [(.live false true (flat c41 a0))] (.s 1 0 (F64_L a0).length 11) [(.live true true (flat c41 (F64_L a0)))]]) (by kernel_rfl) ⟨(C67_L_f68 a0 (by (try simp only [List.length_append, List.length_cons, List.length_nil, Int.toNat_zero]); omega)), (C53_L a0 (!(F67_L_f68 a0)) (by (try simp only [List.length_append, List.length_cons, List.length_nil, Int.toNat_zero]); omega)), h0, h1, (clone_con a0 (by (try simp only [List.length_append, List.length_cons, List.length_nil, Int.toNat_zero]); omega) (by omega)), trivial⟩ ⟨Int.toNat (((a0.length : Nat) : Int) - 0) + 1, ?_⟩
      exact L30_L_0 a0 a1 l0 hcx (Int.toNat (((a0.length : Nat) : Int) - 0) + 1) (F64_L a0) 0 (by refine ⟨?_, ?_, ?_, ?_⟩ <;> (try simp only [List.length_append, List.length_cons, List.length_nil, Int.toNat_zero]) <;> first | omega | simp) (by (try simp only [List.length_append, List.length_cons, List.length_nil, Int.toNat_zero]); omega)

/-- facet/facetref08.image -/
def F70 (a0 : Int × Int × Int) : Int × Int × Int :=
  (a0.1, a0.2.1, (W (0 - a0.2.2)))

theorem C70 (a0 : Int × Int × Int) : Con Try.prog 70 [(.a (k3 a0))] [] (.a (k3 (F70 a0))) [] := by
  have e : (F70 a0) = (a0.1, a0.2.1, (W (0 - a0.2.2))) := by simp only [F70]
  rw [e]
  refine con_of (n := 9) Try.func70 rfl (ent Try.func70 (by kernel_rfl) rfl) (by show 1 ≤ Try.f70.ntmps; decide) (by kernel_rfl) trivial (fun cx hcx => ?_)
  exact ret_of (T := T0) hT hm (f := 5000) (orc := []) [] [] [] hcx
    (obs := []) (by kernel_rfl) trivial

noncomputable def B31_L_1 : Code := (loopAtD [1, 1, 1, 1, 1, 1, 0, 1] [] (Try.f31.body.getD .skip) []).1
noncomputable def K31_L_1 : List K := (loopAtD [1, 1, 1, 1, 1, 1, 0, 1] [] (Try.f31.body.getD .skip) []).2

/-- a round of loop 1 of facet/facetref08.Images; the variables: v2 = s9, v3 = s10 -/
def S31_L_1 (a0 : List (((Int × Int × Int) × (Int × Int × Int) × Int × Int × Int) × Int × Int)) (a1 : Bool) : (List (((Int × Int × Int) × (Int × Int × Int) × Int × Int × Int) × Int × Int)) × Int → ((List (((Int × Int × Int) × (Int × Int × Int) × Int × Int × Int) × Int × Int)) × Int) ⊕ ((List (((Int × Int × Int) × (Int × Int × Int) × Int × Int × Int) × Int × Int)) × Int)
  | (v2, v3) =>
   (bif (decide ((v3 : Int) < ((a0.length : Nat) : Int))) then
    (bif a1 then
     (.inl ((v2 ++ [(((F70 (a0.getD (Int.toNat v3) default).1.1), (F70 (a0.getD (Int.toNat v3) default).1.2.1), (F70 (a0.getD (Int.toNat v3) default).1.2.2)), (a0.getD (Int.toNat v3) default).2.1, (W (0 - (a0.getD (Int.toNat v3) default).2.2)))]), (v3 + 1)))
    else
     (.inl ((v2 ++ [(((F70 (a0.getD (Int.toNat v3) default).1.1), (F70 (a0.getD (Int.toNat v3) default).1.2.1), (F70 (a0.getD (Int.toNat v3) default).1.2.2)), (a0.getD (Int.toNat v3) default).2.1, (a0.getD (Int.toNat v3) default).2.2)]), (v3 + 1))))
   else
    (.inr (v2, 0)))

noncomputable def B31_L_0 : Code := (loopAtD [1, 1, 1, 0, 1] [] (Try.f31.body.getD .skip) []).1
noncomputable def K31_L_0 : List K := (loopAtD [1, 1, 1, 0, 1] [] (Try.f31.body.getD .skip) []).2

/-- a round of loop 0 of facet/facetref08.Images; the variables: v1 = s7 -/
def S31_L_0 (a0 : List (((Int × Int × Int) × (Int × Int × Int) × Int × Int × Int) × Int × Int)) (a1 : Bool) : Int → (Int) ⊕ ((List (((Int × Int × Int) × (Int × Int × Int) × Int × Int × Int) × Int × Int)) × Int)
  | v1 =>
   (bif (decide ((v1 : Int) < ((a0.length : Nat) : Int))) then
    (bif (decide (((a0.getD (Int.toNat v1) default).1.1.2.2 : Int) < 0)) then
     (.inr (([] : List (((Int × Int × Int) × (Int × Int × Int) × Int × Int × Int) × Int × Int)), 1))
    else
     (bif (decide (((a0.getD (Int.toNat v1) default).1.2.1.2.2 : Int) < 0)) then
      (.inr (([] : List (((Int × Int × Int) × (Int × Int × Int) × Int × Int × Int) × Int × Int)), 1))
     else
      (bif (decide (((a0.getD (Int.toNat v1) default).1.2.2.2.2 : Int) < 0)) then
       (.inr (([] : List (((Int × Int × Int) × (Int × Int × Int) × Int × Int × Int) × Int × Int)), 1))
      else
       (.inl (v1 + 1)))))
   else
    (bif (decide (((W (2 * ((a0.length : Nat) : Int))) : Int) > 16)) then
     (.inr (([] : List (((Int × Int × Int) × (Int × Int × Int) × Int × Int × Int) × Int × Int)), 4))
    else
     (.inr (loopF (S31_L_1 a0 a1) (Int.toNat (((a0.length : Nat) : Int) - 0) + 1) ((([] : List (((Int × Int × Int) × (Int × Int × Int) × Int × Int × Int) × Int × Int)) ++ a0), 0)))))

set_option maxHeartbeats 4000000 in
theorem L31_L_1 (a0 : List (((Int × Int × Int) × (Int × Int × Int) × Int × Int × Int) × Int × Int)) (a1 : Bool) (l0 : a0.length ≤ 9223372036854775807) {cx : Cx} (hcx : cx.base = 1) : ∀ (n : Nat) (v2 : List (((Int × Int × Int) × (Int × Int × Int) × Int × Int × Int) × Int × Int)) (v3 : Int), (0 ≤ v3) ∧ (v2.length = a0.length + Int.toNat v3) ∧ (v3 ≤ a0.length) ∧ (a0.length ≤ 16) → Int.toNat (((a0.length : Nat) : Int) - v3) < n → Aw.Good Try.prog none 9 (bodyPost Try.prog Try.f31 (RR cx (.t [(.s 1 0 (loopF (S31_L_1 a0 a1) n (v2, v3)).1.length 11), (iv (loopF (S31_L_1 a0 a1) n (v2, v3)).2)]) [(.live true true (flat c41 (loopF (S31_L_1 a0 a1) n (v2, v3)).1))] [])) cx [] (.l B31_L_1 n :: K31_L_1) ⟨[(.s 0 0 a0.length 11), (.v (.bool a1)), .u, .u, .u, .u, .u, .u, .u, (.s 1 0 v2.length 11), (iv v3), .u, .u, .u, .u, .u, .u, .u, .u, .u, .u, .u, .u, .u, .u, .u, .u, .u, .u, .u, .u, .u, .u, .u, .u, .u, .u, .u, .u, .u, .u, .u, .u, .u, .u, .u, .u, .u, .u, .u, .u, .u, .u, .u, .u, .u, .u, .u, .u, .u, .u, .u, .u, .u, .u, .u, .u, .u, .u, .u, .u, .u, .u, .u, .u, .u, .u, .u, .u, .u, .u, .u, .u, .u, .u], [(.live false true (flat c41 a0)), (.live true true (flat c41 v2))]⟩ := by
  intro n
  induction n with
  | zero => intro v2 v3 hi hn; exact absurd hn (Nat.not_lt_zero _)
  | succ n ih =>
    intro v2 v3 hi hn
    refine good_round ?_
    cases h0 : (decide ((v3 : Int) < ((a0.length : Nat) : Int))) with
    | true =>
      rcases bool_tf a1 with h1 | h1
      · skip
        have q0 := of_decide_eq_true h0
        have e : S31_L_1 a0 a1 (v2, v3) = (.inl ((v2 ++ [(((F70 (a0.getD (Int.toNat v3) default).1.1), (F70 (a0.getD (Int.toNat v3) default).1.2.1), (F70 (a0.getD (Int.toNat v3) default).1.2.2)), (a0.getD (Int.toNat v3) default).2.1, (W (0 - (a0.getD (Int.toNat v3) default).2.2)))]), (v3 + 1))) := by simp only [S31_L_1, h0, h1, cond_true, cond_false]
        rw [loopF_inl e]
        refine back_of (T := T0) hT hm (f := 5000) (orc := [.d true, .ld [(iv (a0.getD (Int.toNat v3) default).1.1.1), (iv (a0.getD (Int.toNat v3) default).1.1.2.1), (iv (a0.getD (Int.toNat v3) default).1.1.2.2), (iv (a0.getD (Int.toNat v3) default).1.2.1.1), (iv (a0.getD (Int.toNat v3) default).1.2.1.2.1), (iv (a0.getD (Int.toNat v3) default).1.2.1.2.2), (iv (a0.getD (Int.toNat v3) default).1.2.2.1), (iv (a0.getD (Int.toNat v3) default).1.2.2.2.1), (iv (a0.getD (Int.toNat v3) default).1.2.2.2.2), (iv (a0.getD (Int.toNat v3) default).2.1), (iv (a0.getD (Int.toNat v3) default).2.2)], .call [] (.a (k3 (F70 (a0.getD (Int.toNat v3) default).1.1))) [], .call [] (.a (k3 (F70 (a0.getD (Int.toNat v3) default).1.2.1))) [], .call [] (.a (k3 (F70 (a0.getD (Int.toNat v3) default).1.2.2))) [], .d true]) [] [0, 1, 9, 10] [4] hcx (body := B31_L_1) (m := n) (k' := K31_L_1) (s' := ⟨[(.s 0 0 a0.length 11), (.v (.bool a1)), .u, .u, .u, .u, .u, .u, .u, (.s 1 0 (v2.length + 1) 11), (iv (W (v3 + 1))), .u, .u, .u, .u, .u, .u, .u, .u, .u, .u, .u, .u, .u, .u, .u, .u, .u, .u, .u, .u, .u, .u, .u, .u, .u, .u, .u, .u, .u, .u, .u, .u, .u, .u, .u, .u, .u, .u, .u, .u, .u, .u, .u, .u, .u, .u, .u, .u, .u, .u, .u, .u, .u, .u, .u, .u, .u, .u, .u, .u, .u, .u, .u, .u, .u, .u, .u, .u, .u, .u, .u, .u, .u, .u], [(.live false true (flat c41 a0)), (.live true true (flat c41 v2 ++ [(iv (F70 (a0.getD (Int.toNat v3) default).1.1).1), (iv (F70 (a0.getD (Int.toNat v3) default).1.1).2.1), (iv (F70 (a0.getD (Int.toNat v3) default).1.1).2.2), (iv (F70 (a0.getD (Int.toNat v3) default).1.2.1).1), (iv (F70 (a0.getD (Int.toNat v3) default).1.2.1).2.1), (iv (F70 (a0.getD (Int.toNat v3) default).1.2.1).2.2), (iv (F70 (a0.getD (Int.toNat v3) default).1.2.2).1), (iv (F70 (a0.getD (Int.toNat v3) default).1.2.2).2.1), (iv (F70 (a0.getD (Int.toNat v3) default).1.2.2).2.2), (iv (a0.getD (Int.toNat v3) default).2.1), (iv (W (0 - (a0.getD (Int.toNat v3) default).2.2)))]))]⟩)
          (obs := [.eq (decide ((v3 : Int) < ((a0.length : Nat) : Int))) true, .pr (0 ≤ (v3 : Int) ∧ (v3 : Int) < ((a0.length : Nat) : Int)), .pr (((((flat c41 a0)).drop (0 + Int.toNat v3 * 11)).take 11) = [(iv (a0.getD (Int.toNat v3) default).1.1.1), (iv (a0.getD (Int.toNat v3) default).1.1.2.1), (iv (a0.getD (Int.toNat v3) default).1.1.2.2), (iv (a0.getD (Int.toNat v3) default).1.2.1.1), (iv (a0.getD (Int.toNat v3) default).1.2.1.2.1), (iv (a0.getD (Int.toNat v3) default).1.2.1.2.2), (iv (a0.getD (Int.toNat v3) default).1.2.2.1), (iv (a0.getD (Int.toNat v3) default).1.2.2.2.1), (iv (a0.getD (Int.toNat v3) default).1.2.2.2.2), (iv (a0.getD (Int.toNat v3) default).2.1), (iv (a0.getD (Int.toNat v3) default).2.2)]), .call 70 [(.a (k3 (a0.getD (Int.toNat v3) default).1.1))] [] (.a (k3 (F70 (a0.getD (Int.toNat v3) default).1.1))) [], .call 70 [(.a (k3 (a0.getD (Int.toNat v3) default).1.2.1))] [] (.a (k3 (F70 (a0.getD (Int.toNat v3) default).1.2.1))) [], .call 70 [(.a (k3 (a0.getD (Int.toNat v3) default).1.2.2))] [] (.a (k3 (F70 (a0.getD (Int.toNat v3) default).1.2.2))) [], .eq a1 true, .pr ((flat c41 v2).length = v2.length * 11 ∧ v2.length + 1 ≤ 2 ^ 40 ∧ (v2.length + 1) * 88 ≤ 2 ^ 47)]) (by kernel_rfl) ⟨h0, (show 0 ≤ (v3 : Int) ∧ (v3 : Int) < ((a0.length : Nat) : Int) from by first | omega | (rw [W_eq] <;> omega) | exact u64_nn _), (ld_part c41_len default a0 v3 0 11 (by omega) (by decide) (by omega) rfl), (C70 (a0.getD (Int.toNat v3) default).1.1), (C70 (a0.getD (Int.toNat v3) default).1.2.1), (C70 (a0.getD (Int.toNat v3) default).1.2.2), h1, (app_ok c41_len (by omega) (by omega)), trivial⟩ ?_
        have z0 : (W (v3 + 1)) = (v3 + 1) := W_eq (by omega) (by omega)
        have z1 : (flat c41 v2 ++ [(iv (F70 (a0.getD (Int.toNat v3) default).1.1).1), (iv (F70 (a0.getD (Int.toNat v3) default).1.1).2.1), (iv (F70 (a0.getD (Int.toNat v3) default).1.1).2.2), (iv (F70 (a0.getD (Int.toNat v3) default).1.2.1).1), (iv (F70 (a0.getD (Int.toNat v3) default).1.2.1).2.1), (iv (F70 (a0.getD (Int.toNat v3) default).1.2.1).2.2), (iv (F70 (a0.getD (Int.toNat v3) default).1.2.2).1), (iv (F70 (a0.getD (Int.toNat v3) default).1.2.2).2.1), (iv (F70 (a0.getD (Int.toNat v3) default).1.2.2).2.2), (iv (a0.getD (Int.toNat v3) default).2.1), (iv (W (0 - (a0.getD (Int.toNat v3) default).2.2)))]) = (flat c41 (v2 ++ [(((F70 (a0.getD (Int.toNat v3) default).1.1), (F70 (a0.getD (Int.toNat v3) default).1.2.1), (F70 (a0.getD (Int.toNat v3) default).1.2.2)), (a0.getD (Int.toNat v3) default).2.1, (W (0 - (a0.getD (Int.toNat v3) default).2.2)))])) := (flat_append (c := c41) (l := v2) (m := [(((F70 (a0.getD (Int.toNat v3) default).1.1), (F70 (a0.getD (Int.toNat v3) default).1.2.1), (F70 (a0.getD (Int.toNat v3) default).1.2.2)), (a0.getD (Int.toNat v3) default).2.1, (W (0 - (a0.getD (Int.toNat v3) default).2.2)))])).symm
        have z2 : (v2.length + 1) = (v2 ++ [(((F70 (a0.getD (Int.toNat v3) default).1.1), (F70 (a0.getD (Int.toNat v3) default).1.2.1), (F70 (a0.getD (Int.toNat v3) default).1.2.2)), (a0.getD (Int.toNat v3) default).2.1, (W (0 - (a0.getD (Int.toNat v3) default).2.2)))]).length := len_app v2 [(((F70 (a0.getD (Int.toNat v3) default).1.1), (F70 (a0.getD (Int.toNat v3) default).1.2.1), (F70 (a0.getD (Int.toNat v3) default).1.2.2)), (a0.getD (Int.toNat v3) default).2.1, (W (0 - (a0.getD (Int.toNat v3) default).2.2)))] rfl
        rw [z0, z1, z2]
        exact ih (v2 ++ [(((F70 (a0.getD (Int.toNat v3) default).1.1), (F70 (a0.getD (Int.toNat v3) default).1.2.1), (F70 (a0.getD (Int.toNat v3) default).1.2.2)), (a0.getD (Int.toNat v3) default).2.1, (W (0 - (a0.getD (Int.toNat v3) default).2.2)))]) (v3 + 1) (by refine ⟨?_, ?_, ?_, ?_⟩ <;> (try simp only [List.length_append, List.length_cons, List.length_nil, Int.toNat_zero]) <;> first | omega | simp) (by (try simp only [List.length_append, List.length_cons, List.length_nil, Int.toNat_zero]); omega)
      · skip
        have q0 := of_decide_eq_true h0
        have e : S31_L_1 a0 a1 (v2, v3) = (.inl ((v2 ++ [(((F70 (a0.getD (Int.toNat v3) default).1.1), (F70 (a0.getD (Int.toNat v3) default).1.2.1), (F70 (a0.getD (Int.toNat v3) default).1.2.2)), (a0.getD (Int.toNat v3) default).2.1, (a0.getD (Int.toNat v3) default).2.2)]), (v3 + 1))) := by simp only [S31_L_1, h0, h1, cond_true, cond_false]
        rw [loopF_inl e]
        refine back_of (T := T0) hT hm (f := 5000) (orc := [.d true, .ld [(iv (a0.getD (Int.toNat v3) default).1.1.1), (iv (a0.getD (Int.toNat v3) default).1.1.2.1), (iv (a0.getD (Int.toNat v3) default).1.1.2.2), (iv (a0.getD (Int.toNat v3) default).1.2.1.1), (iv (a0.getD (Int.toNat v3) default).1.2.1.2.1), (iv (a0.getD (Int.toNat v3) default).1.2.1.2.2), (iv (a0.getD (Int.toNat v3) default).1.2.2.1), (iv (a0.getD (Int.toNat v3) default).1.2.2.2.1), (iv (a0.getD (Int.toNat v3) default).1.2.2.2.2), (iv (a0.getD (Int.toNat v3) default).2.1), (iv (a0.getD (Int.toNat v3) default).2.2)], .call [] (.a (k3 (F70 (a0.getD (Int.toNat v3) default).1.1))) [], .call [] (.a (k3 (F70 (a0.getD (Int.toNat v3) default).1.2.1))) [], .call [] (.a (k3 (F70 (a0.getD (Int.toNat v3) default).1.2.2))) [], .d false]) [] [0, 1, 9, 10] [4] hcx (body := B31_L_1) (m := n) (k' := K31_L_1) (s' := ⟨[(.s 0 0 a0.length 11), (.v (.bool a1)), .u, .u, .u, .u, .u, .u, .u, (.s 1 0 (v2.length + 1) 11), (iv (W (v3 + 1))), .u, .u, .u, .u, .u, .u, .u, .u, .u, .u, .u, .u, .u, .u, .u, .u, .u, .u, .u, .u, .u, .u, .u, .u, .u, .u, .u, .u, .u, .u, .u, .u, .u, .u, .u, .u, .u, .u, .u, .u, .u, .u, .u, .u, .u, .u, .u, .u, .u, .u, .u, .u, .u, .u, .u, .u, .u, .u, .u, .u, .u, .u, .u, .u, .u, .u, .u, .u, .u, .u, .u, .u, .u, .u], [(.live false true (flat c41 a0)), (.live true true (flat c41 v2 ++ [(iv (F70 (a0.getD (Int.toNat v3) default).1.1).1), (iv (F70 (a0.getD (Int.toNat v3) default).1.1).2.1), (iv (F70 (a0.getD (Int.toNat v3) default).1.1).2.2), (iv (F70 (a0.getD (Int.toNat v3) default).1.2.1).1), (iv (F70 (a0.getD (Int.toNat v3) default).1.2.1).2.1), (iv (F70 (a0.getD (Int.toNat v3) default).1.2.1).2.2), (iv (F70 (a0.getD (Int.toNat v3) default).1.2.2).1), (iv (F70 (a0.getD (Int.toNat v3) default).1.2.2).2.1), (iv (F70 (a0.getD (Int.toNat v3) default).1.2.2).2.2), (iv (a0.getD (Int.toNat v3) default).2.1), (iv (a0.getD (Int.toNat v3) default).2.2)]))]⟩)
          (obs := [.eq (decide ((v3 : Int) < ((a0.length : Nat) : Int))) true, .pr (0 ≤ (v3 : Int) ∧ (v3 : Int) < ((a0.length : Nat) : Int)), .pr (((((flat c41 a0)).drop (0 + Int.toNat v3 * 11)).take 11) = [(iv (a0.getD (Int.toNat v3) default).1.1.1), (iv (a0.getD (Int.toNat v3) default).1.1.2.1), (iv (a0.getD (Int.toNat v3) default).1.1.2.2), (iv (a0.getD (Int.toNat v3) default).1.2.1.1), (iv (a0.getD (Int.toNat v3) default).1.2.1.2.1), (iv (a0.getD (Int.toNat v3) default).1.2.1.2.2), (iv (a0.getD (Int.toNat v3) default).1.2.2.1), (iv (a0.getD (Int.toNat v3) default).1.2.2.2.1), (iv (a0.getD (Int.toNat v3) default).1.2.2.2.2), (iv (a0.getD (Int.toNat v3) default).2.1), (iv (a0.getD (Int.toNat v3) default).2.2)]), .call 70 [(.a (k3 (a0.getD (Int.toNat v3) default).1.1))] [] (.a (k3 (F70 (a0.getD (Int.toNat v3) default).1.1))) [], .call 70 [(.a (k3 (a0.getD (Int.toNat v3) default).1.2.1))] [] (.a (k3 (F70 (a0.getD (Int.toNat v3) default).1.2.1))) [], .call 70 [(.a (k3 (a0.getD (Int.toNat v3) default).1.2.2))] [] (.a (k3 (F70 (a0.getD (Int.toNat v3) default).1.2.2))) [], .eq a1 false, .pr ((flat c41 v2).length = v2.length * 11 ∧ v2.length + 1 ≤ 2 ^ 40 ∧ (v2.length + 1) * 88 ≤ 2 ^ 47)]) (by kernel_rfl) ⟨h0, (show 0 ≤ (v3 : Int) ∧ (v3 : Int) < ((a0.length : Nat) : Int) from by first | omega | (rw [W_eq] <;> omega) | exact u64_nn _), (ld_part c41_len default a0 v3 0 11 (by omega) (by decide) (by omega) rfl), (C70 (a0.getD (Int.toNat v3) default).1.1), (C70 (a0.getD (Int.toNat v3) default).1.2.1), (C70 (a0.getD (Int.toNat v3) default).1.2.2), h1, (app_ok c41_len (by omega) (by omega)), trivial⟩ ?_
        have z0 : (W (v3 + 1)) = (v3 + 1) := W_eq (by omega) (by omega)
        have z1 : (flat c41 v2 ++ [(iv (F70 (a0.getD (Int.toNat v3) default).1.1).1), (iv (F70 (a0.getD (Int.toNat v3) default).1.1).2.1), (iv (F70 (a0.getD (Int.toNat v3) default).1.1).2.2), (iv (F70 (a0.getD (Int.toNat v3) default).1.2.1).1), (iv (F70 (a0.getD (Int.toNat v3) default).1.2.1).2.1), (iv (F70 (a0.getD (Int.toNat v3) default).1.2.1).2.2), (iv (F70 (a0.getD (Int.toNat v3) default).1.2.2).1), (iv (F70 (a0.getD (Int.toNat v3) default).1.2.2).2.1), (iv (F70 (a0.getD (Int.toNat v3) default).1.2.2).2.2), (iv (a0.getD (Int.toNat v3) default).2.1), (iv (a0.getD (Int.toNat v3) default).2.2)]) = (flat c41 (v2 ++ [(((F70 (a0.getD (Int.toNat v3) default).1.1), (F70 (a0.getD (Int.toNat v3) default).1.2.1), (F70 (a0.getD (Int.toNat v3) default).1.2.2)), (a0.getD (Int.toNat v3) default).2.1, (a0.getD (Int.toNat v3) default).2.2)])) := (flat_append (c := c41) (l := v2) (m := [(((F70 (a0.getD (Int.toNat v3) default).1.1), (F70 (a0.getD (Int.toNat v3) default).1.2.1), (F70 (a0.getD (Int.toNat v3) default).1.2.2)), (a0.getD (Int.toNat v3) default).2.1, (a0.getD (Int.toNat v3) default).2.2)])).symm
        have z2 : (v2.length + 1) = (v2 ++ [(((F70 (a0.getD (Int.toNat v3) default).1.1), (F70 (a0.getD (Int.toNat v3) default).1.2.1), (F70 (a0.getD (Int.toNat v3) default).1.2.2)), (a0.getD (Int.toNat v3) default).2.1, (a0.getD (Int.toNat v3) default).2.2)]).length := len_app v2 [(((F70 (a0.getD (Int.toNat v3) default).1.1), (F70 (a0.getD (Int.toNat v3) default).1.2.1), (F70 (a0.getD (Int.toNat v3) default).1.2.2)), (a0.getD (Int.toNat v3) default).2.1, (a0.getD (Int.toNat v3) default).2.2)] rfl
        rw [z0, z1, z2]
        exact ih (v2 ++ [(((F70 (a0.getD (Int.toNat v3) default).1.1), (F70 (a0.getD (Int.toNat v3) default).1.2.1), (F70 (a0.getD (Int.toNat v3) default).1.2.2)), (a0.getD (Int.toNat v3) default).2.1, (a0.getD (Int.toNat v3) default).2.2)]) (v3 + 1) (by refine ⟨?_, ?_, ?_, ?_⟩ <;> (try simp only [List.length_append, List.length_cons, List.length_nil, Int.toNat_zero]) <;> first | omega | simp) (by (try simp only [List.length_append, List.length_cons, List.length_nil, Int.toNat_zero]); omega)
    | false =>
      have q0 := of_decide_eq_false h0
      have e : S31_L_1 a0 a1 (v2, v3) = (.inr (v2, 0)) := by simp only [S31_L_1, h0, cond_true, cond_false]
      rw [show loopF (S31_L_1 a0 a1) (n + 1) (v2, v3) = thenF (S31_L_1 a0 a1) n (S31_L_1 a0 a1 (v2, v3)) from rfl, e]
      exact ret_of (T := T0) hT hm (f := 5000) (orc := [.d false]) [] [] [1] hcx
        (obs := [.eq (decide ((v3 : Int) < ((a0.length : Nat) : Int))) false]) (by kernel_rfl) ⟨h0, trivial⟩

set_option maxHeartbeats 4000000 in
theorem L31_L_0 (a0 : List (((Int × Int × Int) × (Int × Int × Int) × Int × Int × Int) × Int × Int)) (a1 : Bool) (l0 : a0.length ≤ 9223372036854775807) {cx : Cx} (hcx : cx.base = 1) : ∀ (n : Nat) (v1 : Int), (0 ≤ v1) ∧ (a0.length ≤ 16) → Int.toNat (((a0.length : Nat) : Int) - v1) < n → Aw.Good Try.prog none 9 (bodyPost Try.prog Try.f31 (RR cx (.t [(.s 1 0 (loopF (S31_L_0 a0 a1) n v1).1.length 11), (iv (loopF (S31_L_0 a0 a1) n v1).2)]) [(.live true true (flat c41 (loopF (S31_L_0 a0 a1) n v1).1))] [])) cx [] (.l B31_L_0 n :: K31_L_0) ⟨[(.s 0 0 a0.length 11), (.v (.bool a1)), .u, .u, .u, .u, .u, (iv v1), .u, .u, .u, .u, .u, .u, .u, .u, .u, .u, .u, .u, .u, .u, .u, .u, .u, .u, .u, .u, .u, .u, .u, .u, .u, .u, .u, .u, .u, .u, .u, .u, .u, .u, .u, .u, .u, .u, .u, .u, .u, .u, .u, .u, .u, .u, .u, .u, .u, .u, .u, .u, .u, .u, .u, .u, .u, .u, .u, .u, .u, .u, .u, .u, .u, .u, .u, .u, .u, .u, .u, .u, .u, .u, .u, .u, .u], [(.live false true (flat c41 a0))]⟩ := by
  intro n
  induction n with
  | zero => intro v1 hi hn; exact absurd hn (Nat.not_lt_zero _)
  | succ n ih =>
    intro v1 hi hn
    refine good_round ?_
    cases h0 : (decide ((v1 : Int) < ((a0.length : Nat) : Int))) with
    | true =>
      cases h1 : (decide (((a0.getD (Int.toNat v1) default).1.1.2.2 : Int) < 0)) with
      | true =>
        have q0 := of_decide_eq_true h0
        have q1 := of_decide_eq_true h1
        have e : S31_L_0 a0 a1 v1 = (.inr (([] : List (((Int × Int × Int) × (Int × Int × Int) × Int × Int × Int) × Int × Int)), 1)) := by simp only [S31_L_0, h0, h1, cond_true, cond_false]
        rw [show loopF (S31_L_0 a0 a1) (n + 1) v1 = thenF (S31_L_0 a0 a1) n (S31_L_0 a0 a1 v1) from rfl, e]
        exact ret_of (T := T0) hT hm (f := 5000) (orc := [.d true, .ld (k9 (a0.getD (Int.toNat v1) default).1), .d true]) [.slot 4 11] [] [2] hcx
          (obs := [.eq (decide ((v1 : Int) < ((a0.length : Nat) : Int))) true, .pr (0 ≤ (v1 : Int) ∧ (v1 : Int) < ((a0.length : Nat) : Int)), .pr (((((flat c41 a0)).drop (0 + Int.toNat v1 * 11 + 0)).take 9) = (k9 (a0.getD (Int.toNat v1) default).1)), .eq (decide (((a0.getD (Int.toNat v1) default).1.1.2.2 : Int) < 0)) true]) (by kernel_rfl) ⟨h0, (show 0 ≤ (v1 : Int) ∧ (v1 : Int) < ((a0.length : Nat) : Int) from by first | omega | (rw [W_eq] <;> omega) | exact u64_nn _), (ld_part c41_len default a0 v1 0 9 (by omega) (by decide) (by omega) rfl), h1, trivial⟩
      | false =>
        cases h2 : (decide (((a0.getD (Int.toNat v1) default).1.2.1.2.2 : Int) < 0)) with
        | true =>
          have q0 := of_decide_eq_true h0
          have q1 := of_decide_eq_false h1
          have q2 := of_decide_eq_true h2
          have e : S31_L_0 a0 a1 v1 = (.inr (([] : List (((Int × Int × Int) × (Int × Int × Int) × Int × Int × Int) × Int × Int)), 1)) := by simp only [S31_L_0, h0, h1, h2, cond_true, cond_false]
          rw [show loopF (S31_L_0 a0 a1) (n + 1) v1 = thenF (S31_L_0 a0 a1) n (S31_L_0 a0 a1 v1) from rfl, e]
          exact ret_of (T := T0) hT hm (f := 5000) (orc := [.d true, .ld (k9 (a0.getD (Int.toNat v1) default).1), .d false, .d true]) [.slot 4 11] [] [2] hcx
            (obs := [.eq (decide ((v1 : Int) < ((a0.length : Nat) : Int))) true, .pr (0 ≤ (v1 : Int) ∧ (v1 : Int) < ((a0.length : Nat) : Int)), .pr (((((flat c41 a0)).drop (0 + Int.toNat v1 * 11 + 0)).take 9) = (k9 (a0.getD (Int.toNat v1) default).1)), .eq (decide (((a0.getD (Int.toNat v1) default).1.1.2.2 : Int) < 0)) false, .eq (decide (((a0.getD (Int.toNat v1) default).1.2.1.2.2 : Int) < 0)) true]) (by kernel_rfl) ⟨h0, (show 0 ≤ (v1 : Int) ∧ (v1 : Int) < ((a0.length : Nat) : Int) from by first | omega | (rw [W_eq] <;> omega) | exact u64_nn _), (ld_part c41_len default a0 v1 0 9 (by omega) (by decide) (by omega) rfl), h1, h2, trivial⟩
        | false =>
          cases h3 : (decide (((a0.getD (Int.toNat v1) default).1.2.2.2.2 : Int) < 0)) with
          | true =>
            have q0 := of_decide_eq_true h0
            have q1 := of_decide_eq_false h1
            have q2 := of_decide_eq_false h2
            have q3 := of_decide_eq_true h3
            have e : S31_L_0 a0 a1 v1 = (.inr (([] : List (((Int × Int × Int) × (Int × Int × Int) × Int × Int × Int) × Int × Int)), 1)) := by simp only [S31_L_0, h0, h1, h2, h3, cond_true, cond_false]
            rw [show loopF (S31_L_0 a0 a1) (n + 1) v1 = thenF (S31_L_0 a0 a1) n (S31_L_0 a0 a1 v1) from rfl, e]
            exact ret_of (T := T0) hT hm (f := 5000) (orc := [.d true, .ld (k9 (a0.getD (Int.toNat v1) default).1), .d false, .d false, .d true]) [.slot 4 11] [] [2] hcx
              (obs := [.eq (decide ((v1 : Int) < ((a0.length : Nat) : Int))) true, .pr (0 ≤ (v1 : Int) ∧ (v1 : Int) < ((a0.length : Nat) : Int)), .pr (((((flat c41 a0)).drop (0 + Int.toNat v1 * 11 + 0)).take 9) = (k9 (a0.getD (Int.toNat v1) default).1)), .eq (decide (((a0.getD (Int.toNat v1) default).1.1.2.2 : Int) < 0)) false, .eq (decide (((a0.getD (Int.toNat v1) default).1.2.1.2.2 : Int) < 0)) false, .eq (decide (((a0.getD (Int.toNat v1) default).1.2.2.2.2 : Int) < 0)) true]) (by kernel_rfl) ⟨h0, (show 0 ≤ (v1 : Int) ∧ (v1 : Int) < ((a0.length : Nat) : Int) from by first | omega | (rw [W_eq] <;> omega) | exact u64_nn _), (ld_part c41_len default a0 v1 0 9 (by omega) (by decide) (by omega) rfl), h1, h2, h3, trivial⟩
          | false =>
            have q0 := of_decide_eq_true h0
            have q1 := of_decide_eq_false h1
            have q2 := of_decide_eq_false h2
            have q3 := of_decide_eq_false h3
            have e : S31_L_0 a0 a1 v1 = (.inl (v1 + 1)) := by simp only [S31_L_0, h0, h1, h2, h3, cond_true, cond_false]
            rw [loopF_inl e]
            refine back_of (T := T0) hT hm (f := 5000) (orc := [.d true, .ld (k9 (a0.getD (Int.toNat v1) default).1), .d false, .d false, .d false]) [] [0, 1, 7] [] hcx (body := B31_L_0) (m := n) (k' := K31_L_0) (s' := ⟨[(.s 0 0 a0.length 11), (.v (.bool a1)), .u, .u, .u, .u, .u, (iv (W (v1 + 1))), .u, .u, .u, .u, .u, .u, .u, .u, .u, .u, .u, .u, .u, .u, .u, .u, .u, .u, .u, .u, .u, .u, .u, .u, .u, .u, .u, .u, .u, .u, .u, .u, .u, .u, .u, .u, .u, .u, .u, .u, .u, .u, .u, .u, .u, .u, .u, .u, .u, .u, .u, .u, .u, .u, .u, .u, .u, .u, .u, .u, .u, .u, .u, .u, .u, .u, .u, .u, .u, .u, .u, .u, .u, .u, .u, .u, .u], [(.live false true (flat c41 a0))]⟩)
              (obs := [.eq (decide ((v1 : Int) < ((a0.length : Nat) : Int))) true, .pr (0 ≤ (v1 : Int) ∧ (v1 : Int) < ((a0.length : Nat) : Int)), .pr (((((flat c41 a0)).drop (0 + Int.toNat v1 * 11 + 0)).take 9) = (k9 (a0.getD (Int.toNat v1) default).1)), .eq (decide (((a0.getD (Int.toNat v1) default).1.1.2.2 : Int) < 0)) false, .eq (decide (((a0.getD (Int.toNat v1) default).1.2.1.2.2 : Int) < 0)) false, .eq (decide (((a0.getD (Int.toNat v1) default).1.2.2.2.2 : Int) < 0)) false]) (by kernel_rfl) ⟨h0, (show 0 ≤ (v1 : Int) ∧ (v1 : Int) < ((a0.length : Nat) : Int) from by first | omega | (rw [W_eq] <;> omega) | exact u64_nn _), (ld_part c41_len default a0 v1 0 9 (by omega) (by decide) (by omega) rfl), h1, h2, h3, trivial⟩ ?_
            have z0 : (W (v1 + 1)) = (v1 + 1) := W_eq (by omega) (by omega)
            rw [z0]
            exact ih (v1 + 1) (by refine ⟨?_, ?_⟩ <;> (try simp only [List.length_append, List.length_cons, List.length_nil, Int.toNat_zero]) <;> first | omega | simp) (by (try simp only [List.length_append, List.length_cons, List.length_nil, Int.toNat_zero]); omega)
    | false =>
      cases h1 : (decide (((W (2 * ((a0.length : Nat) : Int))) : Int) > 16)) with
      | true =>
        have q0 := of_decide_eq_false h0
        have q1 := of_decide_eq_true h1
        have e : S31_L_0 a0 a1 v1 = (.inr (([] : List (((Int × Int × Int) × (Int × Int × Int) × Int × Int × Int) × Int × Int)), 4)) := by simp only [S31_L_0, h0, h1, cond_true, cond_false]
        rw [show loopF (S31_L_0 a0 a1) (n + 1) v1 = thenF (S31_L_0 a0 a1) n (S31_L_0 a0 a1 v1) from rfl, e]
        exact ret_of (T := T0) hT hm (f := 5000) (orc := [.d false, .d true]) [.slot 4 11] [] [1] hcx
          (obs := [.eq (decide ((v1 : Int) < ((a0.length : Nat) : Int))) false, .eq (decide (((W (2 * ((a0.length : Nat) : Int))) : Int) > 16)) true]) (by kernel_rfl) ⟨h0, h1, trivial⟩
      | false =>
        have q0 := of_decide_eq_false h0
        have q1 := of_decide_eq_false h1
        have e : S31_L_0 a0 a1 v1 = (.inr (loopF (S31_L_1 a0 a1) (Int.toNat (((a0.length : Nat) : Int) - 0) + 1) ((([] : List (((Int × Int × Int) × (Int × Int × Int) × Int × Int × Int) × Int × Int)) ++ a0), 0))) := by simp only [S31_L_0, h0, h1, cond_true, cond_false]
        rw [show loopF (S31_L_0 a0 a1) (n + 1) v1 = thenF (S31_L_0 a0 a1) n (S31_L_0 a0 a1 v1) from rfl, e]
        refine enter_of (T := T0) hT hm (f := 5000) (orc := [.d false, .d false]) [] [0, 1, 9, 10] [2] hcx (body := B31_L_1) (k' := K31_L_1) (s' := ⟨[(.s 0 0 a0.length 11), (.v (.bool a1)), .u, .u, .u, .u, .u, .u, .u, (.s 1 0 (0 + a0.length) 11), (iv 0), .u, .u, .u, .u, .u, .u, .u, .u, .u, .u, .u, .u, .u, .u, .u, .u, .u, .u, .u, .u, .u, .u, .u, .u, .u, .u, .u, .u, .u, .u, .u, .u, .u, .u, .u, .u, .u, .u, .u, .u, .u, .u, .u, .u, .u, .u, .u, .u, .u, .u, .u, .u, .u, .u, .u, .u, .u, .u, .u, .u, .u, .u, .u, .u, .u, .u, .u, .u, .u, .u, .u, .u, .u, .u], [(.live false true (flat c41 a0)), (.live true true (([] : List SV) ++ (flat c41 a0)))]⟩)
          (obs := [.eq (decide ((v1 : Int) < ((a0.length : Nat) : Int))) false, .eq (decide (((W (2 * ((a0.length : Nat) : Int))) : Int) > 16)) false, .pr (([] : List SV).length = 0 * 11 ∧ (flat c41 a0).length = a0.length * 11 ∧ (flat c41 a0).all SV.one = true ∧ 0 + a0.length ≤ 2 ^ 40 ∧ (0 + a0.length) * 88 ≤ 2 ^ 47)]) (by kernel_rfl) ⟨h0, h1, (show (([] : List SV).length = 0 * 11 ∧ (flat c41 a0).length = a0.length * 11 ∧ (flat c41 a0).all SV.one = true ∧ 0 + a0.length ≤ 2 ^ 40 ∧ (0 + a0.length) * 88 ≤ 2 ^ 47) from by refine ⟨?_, ?_, ?_, ?_, ?_⟩ <;> first | omega | exact flat_one (fun _ => rfl) | (simp [flat_lenc c41_len]; done) | (simp [flat_lenc c41_len]; omega)), trivial⟩ ⟨Int.toNat (((a0.length : Nat) : Int) - 0) + 1, ?_⟩
        have z0 : (([] : List SV) ++ (flat c41 a0)) = flat c41 (([] : List (((Int × Int × Int) × (Int × Int × Int) × Int × Int × Int) × Int × Int)) ++ a0) := (by simp [flat])
        have z1 : (0 + a0.length) = (([] : List (((Int × Int × Int) × (Int × Int × Int) × Int × Int × Int) × Int × Int)) ++ a0).length := by simp
        rw [z0, z1]
        exact L31_L_1 a0 a1 l0 hcx (Int.toNat (((a0.length : Nat) : Int) - 0) + 1) (([] : List (((Int × Int × Int) × (Int × Int × Int) × Int × Int × Int) × Int × Int)) ++ a0) 0 (by refine ⟨?_, ?_, ?_, ?_⟩ <;> (try simp only [List.length_append, List.length_cons, List.length_nil, Int.toNat_zero]) <;> first | omega | simp) (by (try simp only [List.length_append, List.length_cons, List.length_nil, Int.toNat_zero]); omega)

/-- facet/facetref08.Images at ('L',) -/
def F31_L (a0 : List (((Int × Int × Int) × (Int × Int × Int) × Int × Int × Int) × Int × Int)) (a1 : Bool) : (List (((Int × Int × Int) × (Int × Int × Int) × Int × Int × Int) × Int × Int)) × Int :=
  (bif (((F28_L a0) : Int) != 0) then
   (([] : List (((Int × Int × Int) × (Int × Int × Int) × Int × Int × Int) × Int × Int)), (F28_L a0))
  else
   (loopF (S31_L_0 a0 a1) (Int.toNat (((a0.length : Nat) : Int) - 0) + 1) 0))

theorem C31_L (a0 : List (((Int × Int × Int) × (Int × Int × Int) × Int × Int × Int) × Int × Int)) (a1 : Bool) (l0 : a0.length ≤ 9223372036854775807) : Con Try.prog 31 [(.s 0 0 a0.length 11), (.v (.bool a1))] [(.live false true (flat c41 a0))] (.t [(.s 1 0 (F31_L a0 a1).1.length 11), (iv (F31_L a0 a1).2)]) [(.live true true (flat c41 (F31_L a0 a1).1))] := by
  cases h0 : (((F28_L a0) : Int) != 0) with
  | true =>
    have q0 := bne_iff_ne.1 h0
    try have hl16 := vprL_len h0
    have e : (F31_L a0 a1) = (([] : List (((Int × Int × Int) × (Int × Int × Int) × Int × Int × Int) × Int × Int)), (F28_L a0)) := by simp only [F31_L, h0, cond_true, cond_false]
    rw [e]
    refine con_of (n := 9) Try.func31 rfl (ent Try.func31 (by kernel_rfl) rfl) (by show 2 ≤ Try.f31.ntmps; decide) (by kernel_rfl) ⟨rfl, trivial⟩ (fun cx hcx => ?_)
    exact ret_of (T := T0) hT hm (f := 5000) (orc := [.call [0] (iv (F28_L a0)) [], .d true]) [.slot 4 11] [] [1] hcx
      (obs := [.call 28 [(.s 0 0 a0.length 11)] [(.live false true (flat c41 a0))] (iv (F28_L a0)) [], .eq (((F28_L a0) : Int) != 0) true]) (by kernel_rfl) ⟨(C28_L a0 (by (try simp only [List.length_append, List.length_cons, List.length_nil, Int.toNat_zero]); omega)), h0, trivial⟩
  | false =>
    have q0 := bne_eq_false_iff_eq.1 h0
    try have hl16 := vprL_len h0
    have e : (F31_L a0 a1) = (loopF (S31_L_0 a0 a1) (Int.toNat (((a0.length : Nat) : Int) - 0) + 1) 0) := by simp only [F31_L, h0, cond_true, cond_false]
    rw [e]
    refine con_of (n := 9) Try.func31 rfl (ent Try.func31 (by kernel_rfl) rfl) (by show 2 ≤ Try.f31.ntmps; decide) (by kernel_rfl) ⟨rfl, trivial⟩ (fun cx hcx => ?_)
    refine enter_of (T := T0) hT hm (f := 5000) (orc := [.call [0] (iv (F28_L a0)) [], .d false]) [] [0, 1, 7] [] hcx (body := B31_L_0) (k' := K31_L_0) (s' := ⟨[(.s 0 0 a0.length 11), (.v (.bool a1)), .u, .u, .u, .u, .u, (iv 0), .u, .u, .u, .u, .u, .u, .u, .u, .u, .u, .u, .u, .u, .u, .u, .u, .u, .u, .u, .u, .u, .u, .u, .u, .u, .u, .u, .u, .u, .u, .u, .u, .u, .u, .u, .u, .u, .u, .u, .u, .u, .u, .u, .u, .u, .u, .u, .u, .u, .u, .u, .u, .u, .u, .u, .u, .u, .u, .u, .u, .u, .u, .u, .u, .u, .u, .u, .u, .u, .u, .u, .u, .u, .u, .u, .u, .u], [(.live false true (flat c41 a0))]⟩)
      (obs := [.call 28 [(.s 0 0 a0.length 11)] [(.live false true (flat c41 a0))] (iv (F28_L a0)) [], .eq (((F28_L a0) : Int) != 0) false]) (by kernel_rfl) ⟨(C28_L a0 (by (try simp only [List.length_append, List.length_cons, List.length_nil, Int.toNat_zero]); omega)), h0, trivial⟩ ⟨Int.toNat (((a0.length : Nat) : Int) - 0) + 1, ?_⟩
    exact L31_L_0 a0 a1 l0 hcx (Int.toNat (((a0.length : Nat) : Int) - 0) + 1) 0 (by refine ⟨?_, ?_⟩ <;> (try simp only [List.length_append, List.length_cons, List.length_nil, Int.toNat_zero]) <;> first | omega | simp) (by (try simp only [List.length_append, List.length_cons, List.length_nil, Int.toNat_zero]); omega)

end Go.Proofs.Ytopbnnmkdildgaa

namespace Go.Proofs.Ytopbnnmkdildgaa
open Go.Proofs Go.Aw Go.RowKit
set_option maxRecDepth 100000
set_option linter.unusedVariables false
set_option linter.unusedSimpArgs false

/-! ### Images behind a wall -/
def bz (p : PU) : Prop := p.1.1.2.2 < 0 ∨ p.1.2.1.2.2 < 0 ∨ p.1.2.2.2.2 < 0
instance (p : PU) : Decidable (bz p) := by unfold bz; exact inferInstance
def gz (p : PU) : Int := if bz p then 1 else 0
theorem neg_f (p : PU) : F68 p = decide (bz p) := by
  unfold F68 bz
  apply decide_eq_decide.2
  (repeat' split) <;> omega
theorem idx_f (l : List PU) : ∀ (k : List PU) (i n : Nat), l.drop i = k → i ≤ l.length → k.length < n → (0 ≤ loopF (S97_L_f68_0 l) n (i : Int) ↔ fe gz k ≠ 0)
  | [], i, n, hd, hi', hn => by
    have : i = l.length := by have := List.drop_eq_nil_iff.1 hd; omega
    obtain ⟨n, rfl⟩ : ∃ m, n = m + 1 := ⟨n - 1, by simp only [List.length_nil] at hn; omega⟩
    subst this
    have e : S97_L_f68_0 l (l.length : Int) = .inr (-1) := by
      simp only [S97_L_f68_0]
      rw [decide_eq_false (Int.lt_irrefl _), cond_false]
    rw [loopF_inr e]; simp [fe]
  | c :: k, i, n, hd, hi', hn => by
    have hc : l[i]? = some c := by
      have : (l.drop i)[0]? = some c := by rw [hd]; rfl
      simpa using this
    obtain ⟨hg, hlt⟩ := getD_some hc
    obtain ⟨n, rfl⟩ : ∃ m, n = m + 1 := ⟨n - 1, by omega⟩
    have e : S97_L_f68_0 l (i : Int) = if bz c then .inr (i : Int) else .inl ((i + 1 : Nat) : Int) := by
      simp only [S97_L_f68_0]
      rw [decide_eq_true (show ((i : Nat) : Int) < (l.length : Nat) by omega), cond_true, Int.toNat_natCast, hg, neg_f]
      by_cases h : bz c <;> simp [h]
    unfold fe gz
    by_cases h : bz c
    · rw [if_pos h] at e
      rw [loopF_inr e, if_pos h]; simp
    · rw [if_neg h] at e
      rw [loopF_inl e, if_neg h, if_pos rfl]
      exact idx_f l k (i + 1) n (by rw [← List.drop_drop, hd]; rfl) (by omega) (by simp only [List.length_cons] at hn; omega)
theorem con_f (l : List PU) : F67_L_f68 l = decide (fe gz l ≠ 0) := by
  unfold F67_L_f68 F97_L_f68
  exact decide_eq_decide.2 (idx_f l l 0 _ rfl (Nat.zero_le _) (by omega))
def im (soft : Bool) (p : PU) : PU := ((F69 p.1.1, F69 p.1.2.1, F69 p.1.2.2), p.2.1, bif soft then W (0 - p.2.2) else p.2.2)
noncomputable def imV (l : List PU) (soft : Bool) : List PU × Int :=
  if vpL l = 0 then (if fe gz l = 0 then (if 16 < 2 * l.length then ([], 4) else (l ++ l.map (im soft), 0)) else ([], 1)) else ([], vpL l)
theorem shs_all {α β : Type} {f : α → β} : ∀ (k : List α) (l : List β), shs (fun c => (f c, 0)) k l = .inl (l ++ k.map f)
  | [], l => by simp [shs]
  | c :: k, l => by
    unfold shs
    rw [if_pos rfl, shs_all k]; simp
theorem Images_f (l : List PU) (soft : Bool) : F30_L l soft = imV l soft := by
  unfold F30_L imV
  rw [chkL_f, con_f]
  by_cases h : vpL l = 0
  · have h16 := (vpL_ok h).1
    rw [if_pos h, if_pos h, W_eq (n := 2 * ((l.length : Nat) : Int)) (by omega) (by omega)]
    by_cases h1 : fe gz l = 0
    · rw [if_pos h1, decide_eq_false (show ¬ fe gz l ≠ 0 from fun h => h h1), if_pos (show (!false) = true from rfl)]
      by_cases h2 : 16 < 2 * l.length
      · rw [if_pos h2, decide_eq_true (show 2 * ((l.length : Nat) : Int) > 16 by omega)]; rfl
      · rw [if_neg h2, decide_eq_false (show ¬ 2 * ((l.length : Nat) : Int) > 16 by omega)]
        have key := shs_loopF (g := fun p => (im soft p, 0)) (S := S30_L_0 l soft) (L := l) (G := fun m => (m, (0 : Int))) (E := fun e => (([] : List PU), e)) (fun i c hi m => ?_) (fun m => ?_) l 0 (Int.toNat (((l.length : Nat) : Int) - 0) + 1) l rfl (Nat.zero_le _) (by omega)
        · rw [shs_all] at key
          exact key
        · obtain ⟨hg, hlt⟩ := getD_some hi
          simp only [S30_L_0]
          rw [decide_eq_true (show ((i : Nat) : Int) < (l.length : Nat) by omega), cond_true, Int.toNat_natCast, hg]
          cases soft <;> rfl
        · simp only [S30_L_0]
          rw [decide_eq_false (Int.lt_irrefl _), cond_false]
    · rw [if_neg h1, decide_eq_true (show fe gz l ≠ 0 from h1)]; rfl
  · rw [if_neg h, if_neg h, bne_iff_ne.2 h]; rfl
theorem Images_r (l : List PU) (soft : Bool) : F31_L l soft = imV l soft := by
  unfold F31_L imV
  rw [vpl_r]
  by_cases h : vpL l = 0
  · have h16 := (vpL_ok h).1
    rw [if_pos h, h]
    have key := fe_loopF (g := gz) (S := S31_L_0 l soft) (L := l) (E := fun _ => (([] : List PU), (1 : Int)))
      (G := bif (decide (((W (2 * ((l.length : Nat) : Int))) : Int) > 16)) then ([], 4) else loopF (S31_L_1 l soft) (Int.toNat (((l.length : Nat) : Int) - 0) + 1) (([] : List PU) ++ l, 0))
      (fun i c hi => ?_) ?_ l 0 (Int.toNat (((l.length : Nat) : Int) - 0) + 1) rfl (Nat.zero_le _) (by omega)
    · refine Eq.trans key ?_
      by_cases h1 : fe gz l = 0
      · rw [if_pos h1, if_pos h1, W_eq (n := 2 * ((l.length : Nat) : Int)) (by omega) (by omega)]
        by_cases h2 : 16 < 2 * l.length
        · rw [if_pos h2, decide_eq_true (show 2 * ((l.length : Nat) : Int) > 16 by omega)]; rfl
        · rw [if_neg h2, decide_eq_false (show ¬ 2 * ((l.length : Nat) : Int) > 16 by omega), cond_false]
          have key := shs_loopF (g := fun p => (im soft p, 0)) (S := S31_L_1 l soft) (L := l) (G := fun m => (m, (0 : Int))) (E := fun e => (([] : List PU), e)) (fun i c hi m => ?_) (fun m => ?_) l 0 (Int.toNat (((l.length : Nat) : Int) - 0) + 1) ([] ++ l) rfl (Nat.zero_le _) (by omega)
          · rw [shs_all] at key
            exact key
          · obtain ⟨hg, hlt⟩ := getD_some hi
            simp only [S31_L_1]
            rw [decide_eq_true (show ((i : Nat) : Int) < (l.length : Nat) by omega), cond_true, Int.toNat_natCast, hg]
            cases soft <;> rfl
          · simp only [S31_L_1]
            rw [decide_eq_false (Int.lt_irrefl _), cond_false]
      · rw [if_neg h1, if_neg h1]
    · obtain ⟨hg, hlt⟩ := getD_some hi
      simp only [S31_L_0]
      rw [decide_eq_true (show ((i : Nat) : Int) < (l.length : Nat) by omega), cond_true, Int.toNat_natCast, hg]
      unfold gz bz
      by_cases h1 : c.1.1.2.2 < 0
      · simp [h1]
      · by_cases h2 : c.1.2.1.2.2 < 0
        · simp [h1, h2]
        · by_cases h3 : c.1.2.2.2.2 < 0 <;> simp [h1, h2, h3]
    · simp only [S31_L_0]
      rw [decide_eq_false (Int.lt_irrefl _), cond_false]
      cases decide (((W (2 * ((l.length : Nat) : Int))) : Int) > 16) <;> rfl
  · rw [if_neg h, bne_iff_ne.2 h]; rfl
theorem imV_len (l : List PU) (soft : Bool) : (imV l soft).1.length ≤ 32 := by
  unfold imV
  split
  · split
    · split
      · simp
      · simp only [List.length_append, List.length_map]; omega
    · simp
  · simp
theorem imf_len (l : List PU) (soft : Bool) : (F30_L l soft).1.length ≤ 32 := by rw [Images_f]; exact imV_len l soft
theorem imr_len (l : List PU) (soft : Bool) : (F31_L l soft).1.length ≤ 32 := by rw [Images_r]; exact imV_len l soft

end Go.Proofs.Ytopbnnmkdildgaa

namespace Go.Proofs.Ytopbnnmkdildgaa
open Go.Proofs Go.Aw Go.RowKit
set_option maxRecDepth 100000
set_option linter.unusedVariables false
set_option linter.unusedSimpArgs false

theorem vpL_get {l : List PU} (h : vpL l = 0) {i : Nat} (hi : i < l.length) : POK (l.getD i default) := by
  have : l.getD i default = l[i] := by rw [List.getD_eq_getElem?_getD, List.getElem?_eq_getElem hi]; rfl
  rw [this]
  exact (vpL_ok h).2 _ (List.getElem_mem hi)
theorem ckL_v {l : List PU} {b : Bool} (h : ((F53_L l b : Int) != 0) = false) : vpL l = 0 := by
  have := (chkL_0 h).1
  rw [vpl_f] at this; exact this
theorem ckL_b {l : List PU} {b : Bool} (h : ((F53_L l b : Int) != 0) = false) : b = true := (chkL_0 h).2

/-- facet/sound.scene$1 -/
def F99 (a0 : ((Int × Int × Int) × (Int × Int × Int) × Int × Int × Int) × Int × Int) (a1 : Int × Int × Int) (a2 : Int) (a3 : Int) (a4 : Int) : (Int × Int) × Int :=
  ((F61 a0 a1 a2 a3 a4).1, (F61 a0 a1 a2 a3 a4).2)

theorem C99 (a0 : ((Int × Int × Int) × (Int × Int × Int) × Int × Int × Int) × Int × Int) (a1 : Int × Int × Int) (a2 : Int) (a3 : Int) (a4 : Int) (hp : POK a0) (hx : bd 256 a1) (hs : 1 ≤ a2 ∧ a2 ≤ 16) (ht : 0 ≤ a3 ∧ a3 ≤ 2000) (hd : 0 ≤ a4 ∧ a4 ≤ 3) : Con Try.prog 99 [(.a [(iv a0.1.1.1), (iv a0.1.1.2.1), (iv a0.1.1.2.2), (iv a0.1.2.1.1), (iv a0.1.2.1.2.1), (iv a0.1.2.1.2.2), (iv a0.1.2.2.1), (iv a0.1.2.2.2.1), (iv a0.1.2.2.2.2), (iv a0.2.1), (iv a0.2.2)]), (.p 0 0), (.p 1 0), (.p 2 0), (.p 3 0)] [(.live false false (k3 a1)), (.live false false [(iv a2)]), (.live false false [(iv a3)]), (.live false false [(iv a4)])] (.t [(.a (k2 (F99 a0 a1 a2 a3 a4).1)), (iv (F99 a0 a1 a2 a3 a4).2)]) [] := by
  have e : (F99 a0 a1 a2 a3 a4) = ((F61 a0 a1 a2 a3 a4).1, (F61 a0 a1 a2 a3 a4).2) := by simp only [F99]
  rw [e]
  refine con_of (n := 9) Try.func99 rfl (ent Try.func99 (by kernel_rfl) rfl) (by show 5 ≤ Try.f99.ntmps; decide) (by kernel_rfl) ⟨rfl, rfl, rfl, rfl, trivial⟩ (fun cx hcx => ?_)
  exact ret_of (T := T0) hT hm (f := 5000) (orc := [.call [] (.t [(.a (k2 (F61 a0 a1 a2 a3 a4).1)), (iv (F61 a0 a1 a2 a3 a4).2)]) []]) [] [] [] hcx
    (obs := [.call 61 [(.a [(iv a0.1.1.1), (iv a0.1.1.2.1), (iv a0.1.1.2.2), (iv a0.1.2.1.1), (iv a0.1.2.1.2.1), (iv a0.1.2.1.2.2), (iv a0.1.2.2.1), (iv a0.1.2.2.2.1), (iv a0.1.2.2.2.2), (iv a0.2.1), (iv a0.2.2)]), (.a (k3 a1)), (iv a2), (iv a3), (iv a4)] [] (.t [(.a (k2 (F61 a0 a1 a2 a3 a4).1)), (iv (F61 a0 a1 a2 a3 a4).2)]) []]) (by kernel_rfl) ⟨(C61 a0 a1 a2 a3 a4  hp hx hs ht hd), trivial⟩

noncomputable def B98_L_c99_0 : Code := (loopAtD [1, 1, 0, 1] [] (Try.f98.body.getD .skip) []).1
noncomputable def K98_L_c99_0 : List K := (loopAtD [1, 1, 0, 1] [] (Try.f98.body.getD .skip) []).2

/-- a round of loop 0 of facet/sound.sum; the variables: v2 = s6, v3 = s13 -/
def S98_L_c99_0 (a0 : List (((Int × Int × Int) × (Int × Int × Int) × Int × Int × Int) × Int × Int)) (a1_0 : Int × Int × Int) (a1_1 : Int) (a1_2 : Int) (a1_3 : Int) : (List (Int × Int)) × Int → ((List (Int × Int)) × Int) ⊕ ((Int × Int) × Int)
  | (v2, v3) =>
   (bif (decide ((v3 : Int) < ((a0.length : Nat) : Int))) then
    (bif (((F99 (a0.getD (Int.toNat v3) default) a1_0 a1_1 a1_2 a1_3).2 : Int) != 0) then
     (.inr ((0, 0), (F99 (a0.getD (Int.toNat v3) default) a1_0 a1_1 a1_2 a1_3).2))
    else
     (.inl ((v2 ++ [(F99 (a0.getD (Int.toNat v3) default) a1_0 a1_1 a1_2 a1_3).1]), (v3 + 1))))
   else
    (.inr ((F44_L v2).1, (F44_L v2).2)))

set_option maxHeartbeats 4000000 in
theorem L98_L_c99_0 (a0 : List (((Int × Int × Int) × (Int × Int × Int) × Int × Int × Int) × Int × Int)) (a1_0 : Int × Int × Int) (a1_1 : Int) (a1_2 : Int) (a1_3 : Int) (l0 : a0.length ≤ 9223372036854775807) (hv : vpL a0 = 0) (hx : bd 256 a1_0) (hs : 1 ≤ a1_1 ∧ a1_1 ≤ 16) (ht : 0 ≤ a1_2 ∧ a1_2 ≤ 2000) (hd : 0 ≤ a1_3 ∧ a1_3 ≤ 3) {cx : Cx} (hcx : cx.base = 5) : ∀ (n : Nat) (v2 : List (Int × Int)) (v3 : Int), (0 ≤ v3) ∧ (v2.length = Int.toNat v3) ∧ (v3 ≤ a0.length) → Int.toNat (((a0.length : Nat) : Int) - v3) < n → Aw.Good Try.prog none 9 (bodyPost Try.prog Try.f98 (RR cx (.t [(.a (k2 (loopF (S98_L_c99_0 a0 a1_0 a1_1 a1_2 a1_3) n (v2, v3)).1)), (iv (loopF (S98_L_c99_0 a0 a1_0 a1_1 a1_2 a1_3) n (v2, v3)).2)]) [] [])) cx [] (.l B98_L_c99_0 n :: K98_L_c99_0) ⟨[.u, (.f 99 [(.p 1 0), (.p 2 0), (.p 3 0), (.p 4 0)]), .u, .u, (.p 5 0), .u, (.s 6 0 v2.length 2), .u, .u, .u, .u, (.s 0 0 a0.length 11), (iv ((a0.length : Nat) : Int)), (iv v3), .u, .u, .u, .u, .u, .u, .u, .u, .u, .u, .u, .u, .u, .u, .u, .u, .u, .u, .u, .u, .u, .u], [(.live false true (flat c41 a0)), (.live false false (k3 a1_0)), (.live false false [(iv a1_1)]), (.live false false [(iv a1_2)]), (.live false false [(iv a1_3)]), (.live true false [(iv 0), (iv 0)]), (.live true true (flat c32 v2))]⟩ := by
  intro n
  induction n with
  | zero => intro v2 v3 hi hn; exact absurd hn (Nat.not_lt_zero _)
  | succ n ih =>
    intro v2 v3 hi hn
    refine good_round ?_
    cases h0 : (decide ((v3 : Int) < ((a0.length : Nat) : Int))) with
    | true =>
      cases h1 : (((F99 (a0.getD (Int.toNat v3) default) a1_0 a1_1 a1_2 a1_3).2 : Int) != 0) with
      | true =>
        have q0 := of_decide_eq_true h0
        have q1 := bne_iff_ne.1 h1
        have hl16 := (vpL_ok hv).1
        have e : S98_L_c99_0 a0 a1_0 a1_1 a1_2 a1_3 (v2, v3) = (.inr ((0, 0), (F99 (a0.getD (Int.toNat v3) default) a1_0 a1_1 a1_2 a1_3).2)) := by simp only [S98_L_c99_0, h0, h1, cond_true, cond_false]
        rw [show loopF (S98_L_c99_0 a0 a1_0 a1_1 a1_2 a1_3) (n + 1) (v2, v3) = thenF (S98_L_c99_0 a0 a1_0 a1_1 a1_2 a1_3) n (S98_L_c99_0 a0 a1_0 a1_1 a1_2 a1_3 (v2, v3)) from rfl, e]
        exact ret_of (T := T0) hT hm (f := 5000) (orc := [.d true, .ld [(iv (a0.getD (Int.toNat v3) default).1.1.1), (iv (a0.getD (Int.toNat v3) default).1.1.2.1), (iv (a0.getD (Int.toNat v3) default).1.1.2.2), (iv (a0.getD (Int.toNat v3) default).1.2.1.1), (iv (a0.getD (Int.toNat v3) default).1.2.1.2.1), (iv (a0.getD (Int.toNat v3) default).1.2.1.2.2), (iv (a0.getD (Int.toNat v3) default).1.2.2.1), (iv (a0.getD (Int.toNat v3) default).1.2.2.2.1), (iv (a0.getD (Int.toNat v3) default).1.2.2.2.2), (iv (a0.getD (Int.toNat v3) default).2.1), (iv (a0.getD (Int.toNat v3) default).2.2)], .call [1, 2, 3, 4] (.t [(.a (k2 (F99 (a0.getD (Int.toNat v3) default) a1_0 a1_1 a1_2 a1_3).1)), (iv (F99 (a0.getD (Int.toNat v3) default) a1_0 a1_1 a1_2 a1_3).2)]) [], .d true]) [] [] [] hcx
          (obs := [.eq (decide ((v3 : Int) < ((a0.length : Nat) : Int))) true, .pr (0 ≤ (v3 : Int) ∧ (v3 : Int) < ((a0.length : Nat) : Int)), .pr (((((flat c41 a0)).drop (0 + Int.toNat v3 * 11)).take 11) = [(iv (a0.getD (Int.toNat v3) default).1.1.1), (iv (a0.getD (Int.toNat v3) default).1.1.2.1), (iv (a0.getD (Int.toNat v3) default).1.1.2.2), (iv (a0.getD (Int.toNat v3) default).1.2.1.1), (iv (a0.getD (Int.toNat v3) default).1.2.1.2.1), (iv (a0.getD (Int.toNat v3) default).1.2.1.2.2), (iv (a0.getD (Int.toNat v3) default).1.2.2.1), (iv (a0.getD (Int.toNat v3) default).1.2.2.2.1), (iv (a0.getD (Int.toNat v3) default).1.2.2.2.2), (iv (a0.getD (Int.toNat v3) default).2.1), (iv (a0.getD (Int.toNat v3) default).2.2)]), .call 99 [(.a [(iv (a0.getD (Int.toNat v3) default).1.1.1), (iv (a0.getD (Int.toNat v3) default).1.1.2.1), (iv (a0.getD (Int.toNat v3) default).1.1.2.2), (iv (a0.getD (Int.toNat v3) default).1.2.1.1), (iv (a0.getD (Int.toNat v3) default).1.2.1.2.1), (iv (a0.getD (Int.toNat v3) default).1.2.1.2.2), (iv (a0.getD (Int.toNat v3) default).1.2.2.1), (iv (a0.getD (Int.toNat v3) default).1.2.2.2.1), (iv (a0.getD (Int.toNat v3) default).1.2.2.2.2), (iv (a0.getD (Int.toNat v3) default).2.1), (iv (a0.getD (Int.toNat v3) default).2.2)]), (.p 0 0), (.p 1 0), (.p 2 0), (.p 3 0)] [(.live false false (k3 a1_0)), (.live false false [(iv a1_1)]), (.live false false [(iv a1_2)]), (.live false false [(iv a1_3)])] (.t [(.a (k2 (F99 (a0.getD (Int.toNat v3) default) a1_0 a1_1 a1_2 a1_3).1)), (iv (F99 (a0.getD (Int.toNat v3) default) a1_0 a1_1 a1_2 a1_3).2)]) [], .eq (((F99 (a0.getD (Int.toNat v3) default) a1_0 a1_1 a1_2 a1_3).2 : Int) != 0) true]) (by kernel_rfl) ⟨h0, (show 0 ≤ (v3 : Int) ∧ (v3 : Int) < ((a0.length : Nat) : Int) from by first | omega | (rw [W_eq] <;> omega) | exact u64_nn _), (ld_part c41_len default a0 v3 0 11 (by omega) (by decide) (by omega) rfl), (C99 (a0.getD (Int.toNat v3) default) a1_0 a1_1 a1_2 a1_3  (vpL_get hv (by omega)) hx hs ht hd), h1, trivial⟩
      | false =>
        have q0 := of_decide_eq_true h0
        have q1 := bne_eq_false_iff_eq.1 h1
        have hl16 := (vpL_ok hv).1
        have e : S98_L_c99_0 a0 a1_0 a1_1 a1_2 a1_3 (v2, v3) = (.inl ((v2 ++ [(F99 (a0.getD (Int.toNat v3) default) a1_0 a1_1 a1_2 a1_3).1]), (v3 + 1))) := by simp only [S98_L_c99_0, h0, h1, cond_true, cond_false]
        rw [loopF_inl e]
        refine back_of (T := T0) hT hm (f := 5000) (orc := [.d true, .ld [(iv (a0.getD (Int.toNat v3) default).1.1.1), (iv (a0.getD (Int.toNat v3) default).1.1.2.1), (iv (a0.getD (Int.toNat v3) default).1.1.2.2), (iv (a0.getD (Int.toNat v3) default).1.2.1.1), (iv (a0.getD (Int.toNat v3) default).1.2.1.2.1), (iv (a0.getD (Int.toNat v3) default).1.2.1.2.2), (iv (a0.getD (Int.toNat v3) default).1.2.2.1), (iv (a0.getD (Int.toNat v3) default).1.2.2.2.1), (iv (a0.getD (Int.toNat v3) default).1.2.2.2.2), (iv (a0.getD (Int.toNat v3) default).2.1), (iv (a0.getD (Int.toNat v3) default).2.2)], .call [1, 2, 3, 4] (.t [(.a (k2 (F99 (a0.getD (Int.toNat v3) default) a1_0 a1_1 a1_2 a1_3).1)), (iv (F99 (a0.getD (Int.toNat v3) default) a1_0 a1_1 a1_2 a1_3).2)]) [], .d false]) [] [1, 4, 6, 11, 12, 13] [5, 10] hcx (body := B98_L_c99_0) (m := n) (k' := K98_L_c99_0) (s' := ⟨[.u, (.f 99 [(.p 1 0), (.p 2 0), (.p 3 0), (.p 4 0)]), .u, .u, (.p 5 0), .u, (.s 6 0 (v2.length + 1) 2), .u, .u, .u, .u, (.s 0 0 a0.length 11), (iv ((a0.length : Nat) : Int)), (iv (W (v3 + 1))), .u, .u, .u, .u, .u, .u, .u, .u, .u, .u, .u, .u, .u, .u, .u, .u, .u, .u, .u, .u, .u, .u], [(.live false true (flat c41 a0)), (.live false false (k3 a1_0)), (.live false false [(iv a1_1)]), (.live false false [(iv a1_2)]), (.live false false [(iv a1_3)]), (.live true false [(iv 0), (iv 0)]), (.live true true (flat c32 v2 ++ (k2 (F99 (a0.getD (Int.toNat v3) default) a1_0 a1_1 a1_2 a1_3).1)))]⟩)
          (obs := [.eq (decide ((v3 : Int) < ((a0.length : Nat) : Int))) true, .pr (0 ≤ (v3 : Int) ∧ (v3 : Int) < ((a0.length : Nat) : Int)), .pr (((((flat c41 a0)).drop (0 + Int.toNat v3 * 11)).take 11) = [(iv (a0.getD (Int.toNat v3) default).1.1.1), (iv (a0.getD (Int.toNat v3) default).1.1.2.1), (iv (a0.getD (Int.toNat v3) default).1.1.2.2), (iv (a0.getD (Int.toNat v3) default).1.2.1.1), (iv (a0.getD (Int.toNat v3) default).1.2.1.2.1), (iv (a0.getD (Int.toNat v3) default).1.2.1.2.2), (iv (a0.getD (Int.toNat v3) default).1.2.2.1), (iv (a0.getD (Int.toNat v3) default).1.2.2.2.1), (iv (a0.getD (Int.toNat v3) default).1.2.2.2.2), (iv (a0.getD (Int.toNat v3) default).2.1), (iv (a0.getD (Int.toNat v3) default).2.2)]), .call 99 [(.a [(iv (a0.getD (Int.toNat v3) default).1.1.1), (iv (a0.getD (Int.toNat v3) default).1.1.2.1), (iv (a0.getD (Int.toNat v3) default).1.1.2.2), (iv (a0.getD (Int.toNat v3) default).1.2.1.1), (iv (a0.getD (Int.toNat v3) default).1.2.1.2.1), (iv (a0.getD (Int.toNat v3) default).1.2.1.2.2), (iv (a0.getD (Int.toNat v3) default).1.2.2.1), (iv (a0.getD (Int.toNat v3) default).1.2.2.2.1), (iv (a0.getD (Int.toNat v3) default).1.2.2.2.2), (iv (a0.getD (Int.toNat v3) default).2.1), (iv (a0.getD (Int.toNat v3) default).2.2)]), (.p 0 0), (.p 1 0), (.p 2 0), (.p 3 0)] [(.live false false (k3 a1_0)), (.live false false [(iv a1_1)]), (.live false false [(iv a1_2)]), (.live false false [(iv a1_3)])] (.t [(.a (k2 (F99 (a0.getD (Int.toNat v3) default) a1_0 a1_1 a1_2 a1_3).1)), (iv (F99 (a0.getD (Int.toNat v3) default) a1_0 a1_1 a1_2 a1_3).2)]) [], .eq (((F99 (a0.getD (Int.toNat v3) default) a1_0 a1_1 a1_2 a1_3).2 : Int) != 0) false, .pr ((flat c32 v2).length = v2.length * 2 ∧ v2.length + 1 ≤ 2 ^ 40 ∧ (v2.length + 1) * 16 ≤ 2 ^ 47)]) (by kernel_rfl) ⟨h0, (show 0 ≤ (v3 : Int) ∧ (v3 : Int) < ((a0.length : Nat) : Int) from by first | omega | (rw [W_eq] <;> omega) | exact u64_nn _), (ld_part c41_len default a0 v3 0 11 (by omega) (by decide) (by omega) rfl), (C99 (a0.getD (Int.toNat v3) default) a1_0 a1_1 a1_2 a1_3  (vpL_get hv (by omega)) hx hs ht hd), h1, (app_ok c32_len (by omega) (by omega)), trivial⟩ ?_
        have z0 : (W (v3 + 1)) = (v3 + 1) := W_eq (by omega) (by omega)
        have z1 : (flat c32 v2 ++ (k2 (F99 (a0.getD (Int.toNat v3) default) a1_0 a1_1 a1_2 a1_3).1)) = (flat c32 (v2 ++ [(F99 (a0.getD (Int.toNat v3) default) a1_0 a1_1 a1_2 a1_3).1])) := (flat_append (c := c32) (l := v2) (m := [(F99 (a0.getD (Int.toNat v3) default) a1_0 a1_1 a1_2 a1_3).1])).symm
        have z2 : (v2.length + 1) = (v2 ++ [(F99 (a0.getD (Int.toNat v3) default) a1_0 a1_1 a1_2 a1_3).1]).length := len_app v2 [(F99 (a0.getD (Int.toNat v3) default) a1_0 a1_1 a1_2 a1_3).1] rfl
        rw [z0, z1, z2]
        exact ih (v2 ++ [(F99 (a0.getD (Int.toNat v3) default) a1_0 a1_1 a1_2 a1_3).1]) (v3 + 1) (by refine ⟨?_, ?_, ?_⟩ <;> (try simp only [List.length_append, List.length_cons, List.length_nil, Int.toNat_zero]) <;> first | omega | simp) (by (try simp only [List.length_append, List.length_cons, List.length_nil, Int.toNat_zero]); omega)
    | false =>
      have q0 := of_decide_eq_false h0
      have hl16 := (vpL_ok hv).1
      have e : S98_L_c99_0 a0 a1_0 a1_1 a1_2 a1_3 (v2, v3) = (.inr ((F44_L v2).1, (F44_L v2).2)) := by simp only [S98_L_c99_0, h0, cond_true, cond_false]
      rw [show loopF (S98_L_c99_0 a0 a1_0 a1_1 a1_2 a1_3) (n + 1) (v2, v3) = thenF (S98_L_c99_0 a0 a1_0 a1_1 a1_2 a1_3) n (S98_L_c99_0 a0 a1_0 a1_1 a1_2 a1_3 (v2, v3)) from rfl, e]
      exact ret_of (T := T0) hT hm (f := 5000) (orc := [.d false, .call [6] (.t [(.a (k2 (F44_L v2).1)), (iv (F44_L v2).2)]) []]) [] [] [] hcx
        (obs := [.eq (decide ((v3 : Int) < ((a0.length : Nat) : Int))) false, .call 44 [(.s 0 0 v2.length 2)] [(.live false true (flat c32 v2))] (.t [(.a (k2 (F44_L v2).1)), (iv (F44_L v2).2)]) []]) (by kernel_rfl) ⟨h0, (C44_L v2 (by (try simp only [List.length_append, List.length_cons, List.length_nil, Int.toNat_zero]); omega)), trivial⟩

/-- facet/sound.sum at ('L', 'c99') -/
def F98_L_c99 (a0 : List (((Int × Int × Int) × (Int × Int × Int) × Int × Int × Int) × Int × Int)) (a1_0 : Int × Int × Int) (a1_1 : Int) (a1_2 : Int) (a1_3 : Int) : (Int × Int) × Int :=
  (loopF (S98_L_c99_0 a0 a1_0 a1_1 a1_2 a1_3) (Int.toNat (((a0.length : Nat) : Int) - 0) + 1) (([] : List (Int × Int)), 0))

theorem C98_L_c99 (a0 : List (((Int × Int × Int) × (Int × Int × Int) × Int × Int × Int) × Int × Int)) (a1_0 : Int × Int × Int) (a1_1 : Int) (a1_2 : Int) (a1_3 : Int) (l0 : a0.length ≤ 9223372036854775807) (hv : vpL a0 = 0) (hx : bd 256 a1_0) (hs : 1 ≤ a1_1 ∧ a1_1 ≤ 16) (ht : 0 ≤ a1_2 ∧ a1_2 ≤ 2000) (hd : 0 ≤ a1_3 ∧ a1_3 ≤ 3) : Con Try.prog 98 [(.s 0 0 a0.length 11), (.f 99 [(.p 1 0), (.p 2 0), (.p 3 0), (.p 4 0)])] [(.live false true (flat c41 a0)), (.live false false (k3 a1_0)), (.live false false [(iv a1_1)]), (.live false false [(iv a1_2)]), (.live false false [(iv a1_3)])] (.t [(.a (k2 (F98_L_c99 a0 a1_0 a1_1 a1_2 a1_3).1)), (iv (F98_L_c99 a0 a1_0 a1_1 a1_2 a1_3).2)]) [] := by
  have e : (F98_L_c99 a0 a1_0 a1_1 a1_2 a1_3) = (loopF (S98_L_c99_0 a0 a1_0 a1_1 a1_2 a1_3) (Int.toNat (((a0.length : Nat) : Int) - 0) + 1) (([] : List (Int × Int)), 0)) := by simp only [F98_L_c99]
  rw [e]
  refine con_of (n := 9) Try.func98 rfl (ent Try.func98 (by kernel_rfl) rfl) (by show 2 ≤ Try.f98.ntmps; decide) (by kernel_rfl) ⟨rfl, rfl, rfl, rfl, rfl, trivial⟩ (fun cx hcx => ?_)
  refine enter_of (T := T0) hT hm (f := 5000) (orc := []) [.slot 6 2] [1, 4, 6, 11, 12, 13] [5, 6] hcx (body := B98_L_c99_0) (k' := K98_L_c99_0) (s' := ⟨[.u, (.f 99 [(.p 1 0), (.p 2 0), (.p 3 0), (.p 4 0)]), .u, .u, (.p 5 0), .u, (.s 6 0 0 2), .u, .u, .u, .u, (.s 0 0 a0.length 11), (iv ((a0.length : Nat) : Int)), (iv 0), .u, .u, .u, .u, .u, .u, .u, .u, .u, .u, .u, .u, .u, .u, .u, .u, .u, .u, .u, .u, .u, .u], [(.live false true (flat c41 a0)), (.live false false (k3 a1_0)), (.live false false [(iv a1_1)]), (.live false false [(iv a1_2)]), (.live false false [(iv a1_3)]), (.live true false [(iv 0), (iv 0)]), (.live true true (flat c32 ([] : List (Int × Int))))]⟩)
    (obs := []) (by kernel_rfl) trivial ⟨Int.toNat (((a0.length : Nat) : Int) - 0) + 1, ?_⟩
  exact L98_L_c99_0 a0 a1_0 a1_1 a1_2 a1_3 l0 hv hx hs ht hd hcx (Int.toNat (((a0.length : Nat) : Int) - 0) + 1) ([] : List (Int × Int)) 0 (by refine ⟨?_, ?_, ?_⟩ <;> (try simp only [List.length_append, List.length_cons, List.length_nil, Int.toNat_zero]) <;> first | omega | simp) (by (try simp only [List.length_append, List.length_cons, List.length_nil, Int.toNat_zero]); omega)

/-- facet/sound.scene at ('L',) -/
def F71_L (a0 : List (((Int × Int × Int) × (Int × Int × Int) × Int × Int × Int) × Int × Int)) (a1 : Int × Int × Int) (a2 : Int) (a3 : Int) (a4 : Int) : (Int × Int) × Int :=
  ((F98_L_c99 a0 a1 a2 a3 a4).1, (F98_L_c99 a0 a1 a2 a3 a4).2)

theorem C71_L (a0 : List (((Int × Int × Int) × (Int × Int × Int) × Int × Int × Int) × Int × Int)) (a1 : Int × Int × Int) (a2 : Int) (a3 : Int) (a4 : Int) (l0 : a0.length ≤ 9223372036854775807) (hv : vpL a0 = 0) (hx : bd 256 a1) (hs : 1 ≤ a2 ∧ a2 ≤ 16) (ht : 0 ≤ a3 ∧ a3 ≤ 2000) (hd : 0 ≤ a4 ∧ a4 ≤ 3) : Con Try.prog 71 [(.s 0 0 a0.length 11), (.a (k3 a1)), (iv a2), (iv a3), (iv a4)] [(.live false true (flat c41 a0))] (.t [(.a (k2 (F71_L a0 a1 a2 a3 a4).1)), (iv (F71_L a0 a1 a2 a3 a4).2)]) [] := by
  have e : (F71_L a0 a1 a2 a3 a4) = ((F98_L_c99 a0 a1 a2 a3 a4).1, (F98_L_c99 a0 a1 a2 a3 a4).2) := by simp only [F71_L]
  rw [e]
  refine con_of (n := 9) Try.func71 rfl (ent Try.func71 (by kernel_rfl) rfl) (by show 5 ≤ Try.f71.ntmps; decide) (by kernel_rfl) ⟨rfl, trivial⟩ (fun cx hcx => ?_)
  exact ret_of (T := T0) hT hm (f := 5000) (orc := [.call [0, 1, 2, 3, 4] (.t [(.a (k2 (F98_L_c99 a0 a1 a2 a3 a4).1)), (iv (F98_L_c99 a0 a1 a2 a3 a4).2)]) []]) [] [] [] hcx
    (obs := [.call 98 [(.s 0 0 a0.length 11), (.f 99 [(.p 1 0), (.p 2 0), (.p 3 0), (.p 4 0)])] [(.live false true (flat c41 a0)), (.live false false (k3 a1)), (.live false false [(iv a2)]), (.live false false [(iv a3)]), (.live false false [(iv a4)])] (.t [(.a (k2 (F98_L_c99 a0 a1 a2 a3 a4).1)), (iv (F98_L_c99 a0 a1 a2 a3 a4).2)]) []]) (by kernel_rfl) ⟨(C98_L_c99 a0 a1 a2 a3 a4 (by (try simp only [List.length_append, List.length_cons, List.length_nil, Int.toNat_zero]); omega) hv hx hs ht hd), trivial⟩

/-- facet/facetref01.Sum at ('n',) -/
def F100_n : (Int × Int) × Int :=
  (bif ((F120_n.2.2 : Int) != 0) then
   ((0, 0), F120_n.2.2)
  else
   ((F121 F120_n.1 F120_n.2.1).1, (F121 F120_n.1 F120_n.2.1).2))

theorem C100_n : Con Try.prog 100 [(.v (.slice none 0 0))] [] (.t [(.a (k2 F100_n.1)), (iv F100_n.2)]) [] := by
  cases h0 : ((F120_n.2.2 : Int) != 0) with
  | true =>
    have q0 := bne_iff_ne.1 h0
    have e : F100_n = ((0, 0), F120_n.2.2) := by simp only [F100_n, h0, cond_true, cond_false]
    rw [e]
    refine con_of (n := 9) Try.func100 rfl (ent Try.func100 (by kernel_rfl) rfl) (by show 1 ≤ Try.f100.ntmps; decide) (by kernel_rfl) trivial (fun cx hcx => ?_)
    exact ret_of (T := T0) hT hm (f := 5000) (orc := [.call [] (.t (k3 F120_n)) [], .d true]) [] [] [] hcx
      (obs := [.call 120 [(.v (.slice none 0 0))] [] (.t (k3 F120_n)) [], .eq ((F120_n.2.2 : Int) != 0) true]) (by kernel_rfl) ⟨(C120_n), h0, trivial⟩
  | false =>
    have q0 := bne_eq_false_iff_eq.1 h0
    have e : F100_n = ((F121 F120_n.1 F120_n.2.1).1, (F121 F120_n.1 F120_n.2.1).2) := by simp only [F100_n, h0, cond_true, cond_false]
    rw [e]
    refine con_of (n := 9) Try.func100 rfl (ent Try.func100 (by kernel_rfl) rfl) (by show 1 ≤ Try.f100.ntmps; decide) (by kernel_rfl) trivial (fun cx hcx => ?_)
    exact ret_of (T := T0) hT hm (f := 5000) (orc := [.call [] (.t (k3 F120_n)) [], .d false, .call [] (.t [(.a (k2 (F121 F120_n.1 F120_n.2.1).1)), (iv (F121 F120_n.1 F120_n.2.1).2)]) []]) [] [] [] hcx
      (obs := [.call 120 [(.v (.slice none 0 0))] [] (.t (k3 F120_n)) [], .eq ((F120_n.2.2 : Int) != 0) false, .call 121 [(iv F120_n.1), (iv F120_n.2.1)] [] (.t [(.a (k2 (F121 F120_n.1 F120_n.2.1).1)), (iv (F121 F120_n.1 F120_n.2.1).2)]) []]) (by kernel_rfl) ⟨(C120_n), h0, (C121 F120_n.1 F120_n.2.1), trivial⟩

noncomputable def B72_L_0 : Code := (loopAtD [1, 1, 0, 1] [] (Try.f72.body.getD .skip) []).1
noncomputable def K72_L_0 : List K := (loopAtD [1, 1, 0, 1] [] (Try.f72.body.getD .skip) []).2

/-- a round of loop 0 of facet/facetref08.scene; the variables: v2 = s12, v3 = s13 -/
def S72_L_0 (a0 : List (((Int × Int × Int) × (Int × Int × Int) × Int × Int × Int) × Int × Int)) (a1 : Int × Int × Int) (a2 : Int) (a3 : Int) (a4 : Int) : (List (Int × Int)) × Int → ((List (Int × Int)) × Int) ⊕ ((Int × Int) × Int)
  | (v2, v3) =>
   (bif (decide ((v3 : Int) < ((a0.length : Nat) : Int))) then
    (bif (((F62 (a0.getD (Int.toNat v3) default) a1 a2 a3 a4).2 : Int) != 0) then
     (.inr ((0, 0), (F62 (a0.getD (Int.toNat v3) default) a1 a2 a3 a4).2))
    else
     (.inl ((v2 ++ [(F62 (a0.getD (Int.toNat v3) default) a1 a2 a3 a4).1]), (v3 + 1))))
   else
    (.inr ((F100_L v2).1, (F100_L v2).2)))

set_option maxHeartbeats 4000000 in
theorem L72_L_0 (a0 : List (((Int × Int × Int) × (Int × Int × Int) × Int × Int × Int) × Int × Int)) (a1 : Int × Int × Int) (a2 : Int) (a3 : Int) (a4 : Int) (l0 : a0.length ≤ 9223372036854775807) (hv : vpL a0 = 0) (hx : bd 256 a1) (hs : 1 ≤ a2 ∧ a2 ≤ 16) (ht : 0 ≤ a3 ∧ a3 ≤ 2000) (hd : 0 ≤ a4 ∧ a4 ≤ 3) {cx : Cx} (hcx : cx.base = 1) : ∀ (n : Nat) (v2 : List (Int × Int)) (v3 : Int), (0 ≤ v3) ∧ (v2.length = Int.toNat v3) ∧ (v3 ≤ a0.length) → Int.toNat (((a0.length : Nat) : Int) - v3) < n → Aw.Good Try.prog none 9 (bodyPost Try.prog Try.f72 (RR cx (.t [(.a (k2 (loopF (S72_L_0 a0 a1 a2 a3 a4) n (v2, v3)).1)), (iv (loopF (S72_L_0 a0 a1 a2 a3 a4) n (v2, v3)).2)]) [] [])) cx [] (.l B72_L_0 n :: K72_L_0) ⟨[(.s 0 0 a0.length 11), .u, (iv a2), (iv a3), (iv a4), .u, (.p 1 0), .u, .u, .u, (.p 2 0), .u, (.s 3 0 v2.length 2), (iv v3), .u, .u, .u, .u, .u, .u, .u, .u, .u, .u, .u, .u, .u, .u, .u, .u, .u, .u, .u, .u, .u, .u, .u, .u, .u, .u, .u, .u, .u, .u, .u, .u], [(.live false true (flat c41 a0)), (.live true false (k3 a1)), (.live true false [(iv 0), (iv 0)]), (.live true true (flat c32 v2))]⟩ := by
  intro n
  induction n with
  | zero => intro v2 v3 hi hn; exact absurd hn (Nat.not_lt_zero _)
  | succ n ih =>
    intro v2 v3 hi hn
    refine good_round ?_
    cases h0 : (decide ((v3 : Int) < ((a0.length : Nat) : Int))) with
    | true =>
      cases h1 : (((F62 (a0.getD (Int.toNat v3) default) a1 a2 a3 a4).2 : Int) != 0) with
      | true =>
        have q0 := of_decide_eq_true h0
        have q1 := bne_iff_ne.1 h1
        have hl16 := (vpL_ok hv).1
        have e : S72_L_0 a0 a1 a2 a3 a4 (v2, v3) = (.inr ((0, 0), (F62 (a0.getD (Int.toNat v3) default) a1 a2 a3 a4).2)) := by simp only [S72_L_0, h0, h1, cond_true, cond_false]
        rw [show loopF (S72_L_0 a0 a1 a2 a3 a4) (n + 1) (v2, v3) = thenF (S72_L_0 a0 a1 a2 a3 a4) n (S72_L_0 a0 a1 a2 a3 a4 (v2, v3)) from rfl, e]
        exact ret_of (T := T0) hT hm (f := 5000) (orc := [.d true, .ld [(iv (a0.getD (Int.toNat v3) default).1.1.1), (iv (a0.getD (Int.toNat v3) default).1.1.2.1), (iv (a0.getD (Int.toNat v3) default).1.1.2.2), (iv (a0.getD (Int.toNat v3) default).1.2.1.1), (iv (a0.getD (Int.toNat v3) default).1.2.1.2.1), (iv (a0.getD (Int.toNat v3) default).1.2.1.2.2), (iv (a0.getD (Int.toNat v3) default).1.2.2.1), (iv (a0.getD (Int.toNat v3) default).1.2.2.2.1), (iv (a0.getD (Int.toNat v3) default).1.2.2.2.2), (iv (a0.getD (Int.toNat v3) default).2.1), (iv (a0.getD (Int.toNat v3) default).2.2)], .call [] (.t [(.a (k2 (F62 (a0.getD (Int.toNat v3) default) a1 a2 a3 a4).1)), (iv (F62 (a0.getD (Int.toNat v3) default) a1 a2 a3 a4).2)]) [], .d true]) [] [] [] hcx
          (obs := [.eq (decide ((v3 : Int) < ((a0.length : Nat) : Int))) true, .pr (0 ≤ (v3 : Int) ∧ (v3 : Int) < ((a0.length : Nat) : Int)), .pr (((((flat c41 a0)).drop (0 + Int.toNat v3 * 11)).take 11) = [(iv (a0.getD (Int.toNat v3) default).1.1.1), (iv (a0.getD (Int.toNat v3) default).1.1.2.1), (iv (a0.getD (Int.toNat v3) default).1.1.2.2), (iv (a0.getD (Int.toNat v3) default).1.2.1.1), (iv (a0.getD (Int.toNat v3) default).1.2.1.2.1), (iv (a0.getD (Int.toNat v3) default).1.2.1.2.2), (iv (a0.getD (Int.toNat v3) default).1.2.2.1), (iv (a0.getD (Int.toNat v3) default).1.2.2.2.1), (iv (a0.getD (Int.toNat v3) default).1.2.2.2.2), (iv (a0.getD (Int.toNat v3) default).2.1), (iv (a0.getD (Int.toNat v3) default).2.2)]), .call 62 [(.a [(iv (a0.getD (Int.toNat v3) default).1.1.1), (iv (a0.getD (Int.toNat v3) default).1.1.2.1), (iv (a0.getD (Int.toNat v3) default).1.1.2.2), (iv (a0.getD (Int.toNat v3) default).1.2.1.1), (iv (a0.getD (Int.toNat v3) default).1.2.1.2.1), (iv (a0.getD (Int.toNat v3) default).1.2.1.2.2), (iv (a0.getD (Int.toNat v3) default).1.2.2.1), (iv (a0.getD (Int.toNat v3) default).1.2.2.2.1), (iv (a0.getD (Int.toNat v3) default).1.2.2.2.2), (iv (a0.getD (Int.toNat v3) default).2.1), (iv (a0.getD (Int.toNat v3) default).2.2)]), (.a (k3 a1)), (iv a2), (iv a3), (iv a4)] [] (.t [(.a (k2 (F62 (a0.getD (Int.toNat v3) default) a1 a2 a3 a4).1)), (iv (F62 (a0.getD (Int.toNat v3) default) a1 a2 a3 a4).2)]) [], .eq (((F62 (a0.getD (Int.toNat v3) default) a1 a2 a3 a4).2 : Int) != 0) true]) (by kernel_rfl) ⟨h0, (show 0 ≤ (v3 : Int) ∧ (v3 : Int) < ((a0.length : Nat) : Int) from by first | omega | (rw [W_eq] <;> omega) | exact u64_nn _), (ld_part c41_len default a0 v3 0 11 (by omega) (by decide) (by omega) rfl), (C62 (a0.getD (Int.toNat v3) default) a1 a2 a3 a4  (vpL_get hv (by omega)) hx hs ht hd), h1, trivial⟩
      | false =>
        have q0 := of_decide_eq_true h0
        have q1 := bne_eq_false_iff_eq.1 h1
        have hl16 := (vpL_ok hv).1
        have e : S72_L_0 a0 a1 a2 a3 a4 (v2, v3) = (.inl ((v2 ++ [(F62 (a0.getD (Int.toNat v3) default) a1 a2 a3 a4).1]), (v3 + 1))) := by simp only [S72_L_0, h0, h1, cond_true, cond_false]
        rw [loopF_inl e]
        refine back_of (T := T0) hT hm (f := 5000) (orc := [.d true, .ld [(iv (a0.getD (Int.toNat v3) default).1.1.1), (iv (a0.getD (Int.toNat v3) default).1.1.2.1), (iv (a0.getD (Int.toNat v3) default).1.1.2.2), (iv (a0.getD (Int.toNat v3) default).1.2.1.1), (iv (a0.getD (Int.toNat v3) default).1.2.1.2.1), (iv (a0.getD (Int.toNat v3) default).1.2.1.2.2), (iv (a0.getD (Int.toNat v3) default).1.2.2.1), (iv (a0.getD (Int.toNat v3) default).1.2.2.2.1), (iv (a0.getD (Int.toNat v3) default).1.2.2.2.2), (iv (a0.getD (Int.toNat v3) default).2.1), (iv (a0.getD (Int.toNat v3) default).2.2)], .call [] (.t [(.a (k2 (F62 (a0.getD (Int.toNat v3) default) a1 a2 a3 a4).1)), (iv (F62 (a0.getD (Int.toNat v3) default) a1 a2 a3 a4).2)]) [], .d false]) [] [0, 2, 3, 4, 6, 10, 12, 13] [1, 2, 6] hcx (body := B72_L_0) (m := n) (k' := K72_L_0) (s' := ⟨[(.s 0 0 a0.length 11), .u, (iv a2), (iv a3), (iv a4), .u, (.p 1 0), .u, .u, .u, (.p 2 0), .u, (.s 3 0 (v2.length + 1) 2), (iv (W (v3 + 1))), .u, .u, .u, .u, .u, .u, .u, .u, .u, .u, .u, .u, .u, .u, .u, .u, .u, .u, .u, .u, .u, .u, .u, .u, .u, .u, .u, .u, .u, .u, .u, .u], [(.live false true (flat c41 a0)), (.live true false (k3 a1)), (.live true false [(iv 0), (iv 0)]), (.live true true (flat c32 v2 ++ (k2 (F62 (a0.getD (Int.toNat v3) default) a1 a2 a3 a4).1)))]⟩)
          (obs := [.eq (decide ((v3 : Int) < ((a0.length : Nat) : Int))) true, .pr (0 ≤ (v3 : Int) ∧ (v3 : Int) < ((a0.length : Nat) : Int)), .pr (((((flat c41 a0)).drop (0 + Int.toNat v3 * 11)).take 11) = [(iv (a0.getD (Int.toNat v3) default).1.1.1), (iv (a0.getD (Int.toNat v3) default).1.1.2.1), (iv (a0.getD (Int.toNat v3) default).1.1.2.2), (iv (a0.getD (Int.toNat v3) default).1.2.1.1), (iv (a0.getD (Int.toNat v3) default).1.2.1.2.1), (iv (a0.getD (Int.toNat v3) default).1.2.1.2.2), (iv (a0.getD (Int.toNat v3) default).1.2.2.1), (iv (a0.getD (Int.toNat v3) default).1.2.2.2.1), (iv (a0.getD (Int.toNat v3) default).1.2.2.2.2), (iv (a0.getD (Int.toNat v3) default).2.1), (iv (a0.getD (Int.toNat v3) default).2.2)]), .call 62 [(.a [(iv (a0.getD (Int.toNat v3) default).1.1.1), (iv (a0.getD (Int.toNat v3) default).1.1.2.1), (iv (a0.getD (Int.toNat v3) default).1.1.2.2), (iv (a0.getD (Int.toNat v3) default).1.2.1.1), (iv (a0.getD (Int.toNat v3) default).1.2.1.2.1), (iv (a0.getD (Int.toNat v3) default).1.2.1.2.2), (iv (a0.getD (Int.toNat v3) default).1.2.2.1), (iv (a0.getD (Int.toNat v3) default).1.2.2.2.1), (iv (a0.getD (Int.toNat v3) default).1.2.2.2.2), (iv (a0.getD (Int.toNat v3) default).2.1), (iv (a0.getD (Int.toNat v3) default).2.2)]), (.a (k3 a1)), (iv a2), (iv a3), (iv a4)] [] (.t [(.a (k2 (F62 (a0.getD (Int.toNat v3) default) a1 a2 a3 a4).1)), (iv (F62 (a0.getD (Int.toNat v3) default) a1 a2 a3 a4).2)]) [], .eq (((F62 (a0.getD (Int.toNat v3) default) a1 a2 a3 a4).2 : Int) != 0) false, .pr ((flat c32 v2).length = v2.length * 2 ∧ v2.length + 1 ≤ 2 ^ 40 ∧ (v2.length + 1) * 16 ≤ 2 ^ 47)]) (by kernel_rfl) ⟨h0, (show 0 ≤ (v3 : Int) ∧ (v3 : Int) < ((a0.length : Nat) : Int) from by first | omega | (rw [W_eq] <;> omega) | exact u64_nn _), (ld_part c41_len default a0 v3 0 11 (by omega) (by decide) (by omega) rfl), (C62 (a0.getD (Int.toNat v3) default) a1 a2 a3 a4  (vpL_get hv (by omega)) hx hs ht hd), h1, (app_ok c32_len (by omega) (by omega)), trivial⟩ ?_
        have z0 : (W (v3 + 1)) = (v3 + 1) := W_eq (by omega) (by omega)
        have z1 : (flat c32 v2 ++ (k2 (F62 (a0.getD (Int.toNat v3) default) a1 a2 a3 a4).1)) = (flat c32 (v2 ++ [(F62 (a0.getD (Int.toNat v3) default) a1 a2 a3 a4).1])) := (flat_append (c := c32) (l := v2) (m := [(F62 (a0.getD (Int.toNat v3) default) a1 a2 a3 a4).1])).symm
        have z2 : (v2.length + 1) = (v2 ++ [(F62 (a0.getD (Int.toNat v3) default) a1 a2 a3 a4).1]).length := len_app v2 [(F62 (a0.getD (Int.toNat v3) default) a1 a2 a3 a4).1] rfl
        rw [z0, z1, z2]
        exact ih (v2 ++ [(F62 (a0.getD (Int.toNat v3) default) a1 a2 a3 a4).1]) (v3 + 1) (by refine ⟨?_, ?_, ?_⟩ <;> (try simp only [List.length_append, List.length_cons, List.length_nil, Int.toNat_zero]) <;> first | omega | simp) (by (try simp only [List.length_append, List.length_cons, List.length_nil, Int.toNat_zero]); omega)
    | false =>
      have q0 := of_decide_eq_false h0
      have hl16 := (vpL_ok hv).1
      have e : S72_L_0 a0 a1 a2 a3 a4 (v2, v3) = (.inr ((F100_L v2).1, (F100_L v2).2)) := by simp only [S72_L_0, h0, cond_true, cond_false]
      rw [show loopF (S72_L_0 a0 a1 a2 a3 a4) (n + 1) (v2, v3) = thenF (S72_L_0 a0 a1 a2 a3 a4) n (S72_L_0 a0 a1 a2 a3 a4 (v2, v3)) from rfl, e]
      exact ret_of (T := T0) hT hm (f := 5000) (orc := [.d false, .call [3] (.t [(.a (k2 (F100_L v2).1)), (iv (F100_L v2).2)]) []]) [] [] [] hcx
        (obs := [.eq (decide ((v3 : Int) < ((a0.length : Nat) : Int))) false, .call 100 [(.s 0 0 v2.length 2)] [(.live false true (flat c32 v2))] (.t [(.a (k2 (F100_L v2).1)), (iv (F100_L v2).2)]) []]) (by kernel_rfl) ⟨h0, (C100_L v2 (by (try simp only [List.length_append, List.length_cons, List.length_nil, Int.toNat_zero]); omega)), trivial⟩

/-- facet/facetref08.scene at ('L',) -/
def F72_L (a0 : List (((Int × Int × Int) × (Int × Int × Int) × Int × Int × Int) × Int × Int)) (a1 : Int × Int × Int) (a2 : Int) (a3 : Int) (a4 : Int) : (Int × Int) × Int :=
  (loopF (S72_L_0 a0 a1 a2 a3 a4) (Int.toNat (((a0.length : Nat) : Int) - 0) + 1) (([] : List (Int × Int)), 0))

theorem C72_L (a0 : List (((Int × Int × Int) × (Int × Int × Int) × Int × Int × Int) × Int × Int)) (a1 : Int × Int × Int) (a2 : Int) (a3 : Int) (a4 : Int) (l0 : a0.length ≤ 9223372036854775807) (hv : vpL a0 = 0) (hx : bd 256 a1) (hs : 1 ≤ a2 ∧ a2 ≤ 16) (ht : 0 ≤ a3 ∧ a3 ≤ 2000) (hd : 0 ≤ a4 ∧ a4 ≤ 3) : Con Try.prog 72 [(.s 0 0 a0.length 11), (.a (k3 a1)), (iv a2), (iv a3), (iv a4)] [(.live false true (flat c41 a0))] (.t [(.a (k2 (F72_L a0 a1 a2 a3 a4).1)), (iv (F72_L a0 a1 a2 a3 a4).2)]) [] := by
  have e : (F72_L a0 a1 a2 a3 a4) = (loopF (S72_L_0 a0 a1 a2 a3 a4) (Int.toNat (((a0.length : Nat) : Int) - 0) + 1) (([] : List (Int × Int)), 0)) := by simp only [F72_L]
  rw [e]
  refine con_of (n := 9) Try.func72 rfl (ent Try.func72 (by kernel_rfl) rfl) (by show 5 ≤ Try.f72.ntmps; decide) (by kernel_rfl) ⟨rfl, trivial⟩ (fun cx hcx => ?_)
  refine enter_of (T := T0) hT hm (f := 5000) (orc := []) [.slot 12 2] [0, 2, 3, 4, 6, 10, 12, 13] [1, 2, 3] hcx (body := B72_L_0) (k' := K72_L_0) (s' := ⟨[(.s 0 0 a0.length 11), .u, (iv a2), (iv a3), (iv a4), .u, (.p 1 0), .u, .u, .u, (.p 2 0), .u, (.s 3 0 0 2), (iv 0), .u, .u, .u, .u, .u, .u, .u, .u, .u, .u, .u, .u, .u, .u, .u, .u, .u, .u, .u, .u, .u, .u, .u, .u, .u, .u, .u, .u, .u, .u, .u, .u], [(.live false true (flat c41 a0)), (.live true false (k3 a1)), (.live true false [(iv 0), (iv 0)]), (.live true true (flat c32 ([] : List (Int × Int))))]⟩)
    (obs := []) (by kernel_rfl) trivial ⟨Int.toNat (((a0.length : Nat) : Int) - 0) + 1, ?_⟩
  exact L72_L_0 a0 a1 a2 a3 a4 l0 hv hx hs ht hd hcx (Int.toNat (((a0.length : Nat) : Int) - 0) + 1) ([] : List (Int × Int)) 0 (by refine ⟨?_, ?_, ?_⟩ <;> (try simp only [List.length_append, List.length_cons, List.length_nil, Int.toNat_zero]) <;> first | omega | simp) (by (try simp only [List.length_append, List.length_cons, List.length_nil, Int.toNat_zero]); omega)

/-- facet/sound.Scene at ('L',) -/
def F32_L (a0 : List (((Int × Int × Int) × (Int × Int × Int) × Int × Int × Int) × Int × Int)) (a1 : Int × Int × Int) (a2 : Int) (a3 : Int) (a4 : Int) : (Int × Int) × Int :=
  (bif (F45 a1) then
   (bif (F46 a2) then
    (bif (F59 a3) then
     (bif (((F53_L a0 (F60 a4)) : Int) != 0) then
      ((0, 0), (F53_L a0 (F60 a4)))
     else
      ((F71_L a0 a1 a2 a3 a4).1, (F71_L a0 a1 a2 a3 a4).2))
    else
     (bif (((F53_L a0 false) : Int) != 0) then
      ((0, 0), (F53_L a0 false))
     else
      ((F71_L a0 a1 a2 a3 a4).1, (F71_L a0 a1 a2 a3 a4).2)))
   else
    (bif (((F53_L a0 false) : Int) != 0) then
     ((0, 0), (F53_L a0 false))
    else
     ((F71_L a0 a1 a2 a3 a4).1, (F71_L a0 a1 a2 a3 a4).2)))
  else
   (bif (((F53_L a0 false) : Int) != 0) then
    ((0, 0), (F53_L a0 false))
   else
    ((F71_L a0 a1 a2 a3 a4).1, (F71_L a0 a1 a2 a3 a4).2)))

noncomputable def oC32_L_0 (a0 : List (((Int × Int × Int) × (Int × Int × Int) × Int × Int × Int) × Int × Int)) (a1 : Int × Int × Int) (a2 : Int) (a3 : Int) (a4 : Int) : Or := .call [0] (.t [(.a (k2 (F71_L a0 a1 a2 a3 a4).1)), (iv (F71_L a0 a1 a2 a3 a4).2)]) []
noncomputable def oC32_L_1 (a0 : List (((Int × Int × Int) × (Int × Int × Int) × Int × Int × Int) × Int × Int)) (a1 : Int × Int × Int) (a2 : Int) (a3 : Int) (a4 : Int) : Ob := .call 71 [(.s 0 0 a0.length 11), (.a (k3 a1)), (iv a2), (iv a3), (iv a4)] [(.live false true (flat c41 a0))] (.t [(.a (k2 (F71_L a0 a1 a2 a3 a4).1)), (iv (F71_L a0 a1 a2 a3 a4).2)]) []
noncomputable def oC32_L_2 (a0 : List (((Int × Int × Int) × (Int × Int × Int) × Int × Int × Int) × Int × Int)) : Ob := .call 53 [(.s 0 0 a0.length 11), (.v (.bool false))] [(.live false true (flat c41 a0))] (iv (F53_L a0 false)) []
theorem C32_L (a0 : List (((Int × Int × Int) × (Int × Int × Int) × Int × Int × Int) × Int × Int)) (a1 : Int × Int × Int) (a2 : Int) (a3 : Int) (a4 : Int) (l0 : a0.length ≤ 9223372036854775807) : Con Try.prog 32 [(.s 0 0 a0.length 11), (.a (k3 a1)), (iv a2), (iv a3), (iv a4)] [(.live false true (flat c41 a0))] (.t [(.a (k2 (F32_L a0 a1 a2 a3 a4).1)), (iv (F32_L a0 a1 a2 a3 a4).2)]) [] := by
  cases h0 : (F45 a1) with
  | true =>
    cases h1 : (F46 a2) with
    | true =>
      cases h2 : (F59 a3) with
      | true =>
        cases h3 : (((F53_L a0 (F60 a4)) : Int) != 0) with
        | true =>
          have q3 := bne_iff_ne.1 h3
          have e : (F32_L a0 a1 a2 a3 a4) = ((0, 0), (F53_L a0 (F60 a4))) := by simp only [F32_L, h0, h1, h2, h3, cond_true, cond_false]
          rw [e]
          refine con_of (n := 9) Try.func32 rfl (ent Try.func32 (by kernel_rfl) rfl) (by show 5 ≤ Try.f32.ntmps; decide) (by kernel_rfl) ⟨rfl, trivial⟩ (fun cx hcx => ?_)
          exact ret_of (T := T0) hT hm (f := 5000) (orc := [.call [] (.v (.bool (F45 a1))) [], .d true, .call [] (.v (.bool (F46 a2))) [], .d true, .call [] (.v (.bool (F59 a3))) [], .d true, .call [] (.v (.bool (F60 a4))) [], .call [0] (iv (F53_L a0 (F60 a4))) [], .d true]) [] [] [] hcx
            (obs := [.call 45 [(.a (k3 a1))] [] (.v (.bool (F45 a1))) [], .eq (F45 a1) true, .call 46 [(iv a2)] [] (.v (.bool (F46 a2))) [], .eq (F46 a2) true, .call 59 [(iv a3)] [] (.v (.bool (F59 a3))) [], .eq (F59 a3) true, .call 60 [(iv a4)] [] (.v (.bool (F60 a4))) [], .call 53 [(.s 0 0 a0.length 11), (.v (.bool (F60 a4)))] [(.live false true (flat c41 a0))] (iv (F53_L a0 (F60 a4))) [], .eq (((F53_L a0 (F60 a4)) : Int) != 0) true]) (by kernel_rfl) ⟨(C45 a1), h0, (C46 a2), h1, (C59 a3), h2, (C60 a4), (C53_L a0 (F60 a4) (by (try simp only [List.length_append, List.length_cons, List.length_nil, Int.toNat_zero]); omega)), h3, trivial⟩
        | false =>
          have q3 := bne_eq_false_iff_eq.1 h3
          have e : (F32_L a0 a1 a2 a3 a4) = ((F71_L a0 a1 a2 a3 a4).1, (F71_L a0 a1 a2 a3 a4).2) := by simp only [F32_L, h0, h1, h2, h3, cond_true, cond_false]
          rw [e]
          refine con_of (n := 9) Try.func32 rfl (ent Try.func32 (by kernel_rfl) rfl) (by show 5 ≤ Try.f32.ntmps; decide) (by kernel_rfl) ⟨rfl, trivial⟩ (fun cx hcx => ?_)
          exact ret_of (T := T0) hT hm (f := 5000) (orc := [.call [] (.v (.bool (F45 a1))) [], .d true, .call [] (.v (.bool (F46 a2))) [], .d true, .call [] (.v (.bool (F59 a3))) [], .d true, .call [] (.v (.bool (F60 a4))) [], .call [0] (iv (F53_L a0 (F60 a4))) [], .d false, (oC32_L_0 a0 a1 a2 a3 a4)]) [] [] [] hcx
            (obs := [.call 45 [(.a (k3 a1))] [] (.v (.bool (F45 a1))) [], .eq (F45 a1) true, .call 46 [(iv a2)] [] (.v (.bool (F46 a2))) [], .eq (F46 a2) true, .call 59 [(iv a3)] [] (.v (.bool (F59 a3))) [], .eq (F59 a3) true, .call 60 [(iv a4)] [] (.v (.bool (F60 a4))) [], .call 53 [(.s 0 0 a0.length 11), (.v (.bool (F60 a4)))] [(.live false true (flat c41 a0))] (iv (F53_L a0 (F60 a4))) [], .eq (((F53_L a0 (F60 a4)) : Int) != 0) false, (oC32_L_1 a0 a1 a2 a3 a4)]) (by kernel_rfl) ⟨(C45 a1), h0, (C46 a2), h1, (C59 a3), h2, (C60 a4), (C53_L a0 (F60 a4) (by (try simp only [List.length_append, List.length_cons, List.length_nil, Int.toNat_zero]); omega)), h3, (C71_L a0 a1 a2 a3 a4 (by (try simp only [List.length_append, List.length_cons, List.length_nil, Int.toNat_zero]); omega) (by first | exact ckL_v h1 | exact ckL_v h2 | exact ckL_v h3) (by first | exact isp_p h0 | exact absurd (ckL_b h1) (by decide) | exact absurd (ckL_b h2) (by decide) | exact absurd (ckL_b h3) (by decide)) (by first | exact iss_p h1 | exact absurd (ckL_b h1) (by decide) | exact absurd (ckL_b h2) (by decide) | exact absurd (ckL_b h3) (by decide)) (by first | exact ist_p h2 | exact absurd (ckL_b h1) (by decide) | exact absurd (ckL_b h2) (by decide) | exact absurd (ckL_b h3) (by decide)) (by first | exact isd_p (ckL_b h3) | exact absurd (ckL_b h1) (by decide) | exact absurd (ckL_b h2) (by decide) | exact absurd (ckL_b h3) (by decide))), trivial⟩
      | false =>
        cases h3 : (((F53_L a0 false) : Int) != 0) with
        | true =>
          have q3 := bne_iff_ne.1 h3
          have e : (F32_L a0 a1 a2 a3 a4) = ((0, 0), (F53_L a0 false)) := by simp only [F32_L, h0, h1, h2, h3, cond_true, cond_false]
          rw [e]
          refine con_of (n := 9) Try.func32 rfl (ent Try.func32 (by kernel_rfl) rfl) (by show 5 ≤ Try.f32.ntmps; decide) (by kernel_rfl) ⟨rfl, trivial⟩ (fun cx hcx => ?_)
          exact ret_of (T := T0) hT hm (f := 5000) (orc := [.call [] (.v (.bool (F45 a1))) [], .d true, .call [] (.v (.bool (F46 a2))) [], .d true, .call [] (.v (.bool (F59 a3))) [], .d false, .call [0] (iv (F53_L a0 false)) [], .d true]) [] [] [] hcx
            (obs := [.call 45 [(.a (k3 a1))] [] (.v (.bool (F45 a1))) [], .eq (F45 a1) true, .call 46 [(iv a2)] [] (.v (.bool (F46 a2))) [], .eq (F46 a2) true, .call 59 [(iv a3)] [] (.v (.bool (F59 a3))) [], .eq (F59 a3) false, (oC32_L_2 a0), .eq (((F53_L a0 false) : Int) != 0) true]) (by kernel_rfl) ⟨(C45 a1), h0, (C46 a2), h1, (C59 a3), h2, (C53_L a0 false (by (try simp only [List.length_append, List.length_cons, List.length_nil, Int.toNat_zero]); omega)), h3, trivial⟩
        | false =>
          have q3 := bne_eq_false_iff_eq.1 h3
          have e : (F32_L a0 a1 a2 a3 a4) = ((F71_L a0 a1 a2 a3 a4).1, (F71_L a0 a1 a2 a3 a4).2) := by simp only [F32_L, h0, h1, h2, h3, cond_true, cond_false]
          rw [e]
          refine con_of (n := 9) Try.func32 rfl (ent Try.func32 (by kernel_rfl) rfl) (by show 5 ≤ Try.f32.ntmps; decide) (by kernel_rfl) ⟨rfl, trivial⟩ (fun cx hcx => ?_)
          exact ret_of (T := T0) hT hm (f := 5000) (orc := [.call [] (.v (.bool (F45 a1))) [], .d true, .call [] (.v (.bool (F46 a2))) [], .d true, .call [] (.v (.bool (F59 a3))) [], .d false, .call [0] (iv (F53_L a0 false)) [], .d false, (oC32_L_0 a0 a1 a2 a3 a4)]) [] [] [] hcx
            (obs := [.call 45 [(.a (k3 a1))] [] (.v (.bool (F45 a1))) [], .eq (F45 a1) true, .call 46 [(iv a2)] [] (.v (.bool (F46 a2))) [], .eq (F46 a2) true, .call 59 [(iv a3)] [] (.v (.bool (F59 a3))) [], .eq (F59 a3) false, (oC32_L_2 a0), .eq (((F53_L a0 false) : Int) != 0) false, (oC32_L_1 a0 a1 a2 a3 a4)]) (by kernel_rfl) ⟨(C45 a1), h0, (C46 a2), h1, (C59 a3), h2, (C53_L a0 false (by (try simp only [List.length_append, List.length_cons, List.length_nil, Int.toNat_zero]); omega)), h3, (C71_L a0 a1 a2 a3 a4 (by (try simp only [List.length_append, List.length_cons, List.length_nil, Int.toNat_zero]); omega) (by first | exact ckL_v h1 | exact ckL_v h2 | exact ckL_v h3) (by first | exact isp_p h0 | exact absurd (ckL_b h1) (by decide) | exact absurd (ckL_b h2) (by decide) | exact absurd (ckL_b h3) (by decide)) (by first | exact iss_p h1 | exact absurd (ckL_b h1) (by decide) | exact absurd (ckL_b h2) (by decide) | exact absurd (ckL_b h3) (by decide)) (by first | exact ist_p h2 | exact absurd (ckL_b h1) (by decide) | exact absurd (ckL_b h2) (by decide) | exact absurd (ckL_b h3) (by decide)) (by first | exact isd_p (ckL_b h3) | exact absurd (ckL_b h1) (by decide) | exact absurd (ckL_b h2) (by decide) | exact absurd (ckL_b h3) (by decide))), trivial⟩
    | false =>
      cases h2 : (((F53_L a0 false) : Int) != 0) with
      | true =>
        have q2 := bne_iff_ne.1 h2
        have e : (F32_L a0 a1 a2 a3 a4) = ((0, 0), (F53_L a0 false)) := by simp only [F32_L, h0, h1, h2, cond_true, cond_false]
        rw [e]
        refine con_of (n := 9) Try.func32 rfl (ent Try.func32 (by kernel_rfl) rfl) (by show 5 ≤ Try.f32.ntmps; decide) (by kernel_rfl) ⟨rfl, trivial⟩ (fun cx hcx => ?_)
        exact ret_of (T := T0) hT hm (f := 5000) (orc := [.call [] (.v (.bool (F45 a1))) [], .d true, .call [] (.v (.bool (F46 a2))) [], .d false, .call [0] (iv (F53_L a0 false)) [], .d true]) [] [] [] hcx
          (obs := [.call 45 [(.a (k3 a1))] [] (.v (.bool (F45 a1))) [], .eq (F45 a1) true, .call 46 [(iv a2)] [] (.v (.bool (F46 a2))) [], .eq (F46 a2) false, (oC32_L_2 a0), .eq (((F53_L a0 false) : Int) != 0) true]) (by kernel_rfl) ⟨(C45 a1), h0, (C46 a2), h1, (C53_L a0 false (by (try simp only [List.length_append, List.length_cons, List.length_nil, Int.toNat_zero]); omega)), h2, trivial⟩
      | false =>
        have q2 := bne_eq_false_iff_eq.1 h2
        have e : (F32_L a0 a1 a2 a3 a4) = ((F71_L a0 a1 a2 a3 a4).1, (F71_L a0 a1 a2 a3 a4).2) := by simp only [F32_L, h0, h1, h2, cond_true, cond_false]
        rw [e]
        refine con_of (n := 9) Try.func32 rfl (ent Try.func32 (by kernel_rfl) rfl) (by show 5 ≤ Try.f32.ntmps; decide) (by kernel_rfl) ⟨rfl, trivial⟩ (fun cx hcx => ?_)
        exact ret_of (T := T0) hT hm (f := 5000) (orc := [.call [] (.v (.bool (F45 a1))) [], .d true, .call [] (.v (.bool (F46 a2))) [], .d false, .call [0] (iv (F53_L a0 false)) [], .d false, (oC32_L_0 a0 a1 a2 a3 a4)]) [] [] [] hcx
          (obs := [.call 45 [(.a (k3 a1))] [] (.v (.bool (F45 a1))) [], .eq (F45 a1) true, .call 46 [(iv a2)] [] (.v (.bool (F46 a2))) [], .eq (F46 a2) false, (oC32_L_2 a0), .eq (((F53_L a0 false) : Int) != 0) false, (oC32_L_1 a0 a1 a2 a3 a4)]) (by kernel_rfl) ⟨(C45 a1), h0, (C46 a2), h1, (C53_L a0 false (by (try simp only [List.length_append, List.length_cons, List.length_nil, Int.toNat_zero]); omega)), h2, (C71_L a0 a1 a2 a3 a4 (by (try simp only [List.length_append, List.length_cons, List.length_nil, Int.toNat_zero]); omega) (by first | exact ckL_v h1 | exact ckL_v h2 | exact ckL_v h3) (by first | exact isp_p h0 | exact absurd (ckL_b h1) (by decide) | exact absurd (ckL_b h2) (by decide) | exact absurd (ckL_b h3) (by decide)) (by first | exact iss_p h1 | exact absurd (ckL_b h1) (by decide) | exact absurd (ckL_b h2) (by decide) | exact absurd (ckL_b h3) (by decide)) (by first | exact ist_p h2 | exact absurd (ckL_b h1) (by decide) | exact absurd (ckL_b h2) (by decide) | exact absurd (ckL_b h3) (by decide)) (by first | exact isd_p (ckL_b h3) | exact absurd (ckL_b h1) (by decide) | exact absurd (ckL_b h2) (by decide) | exact absurd (ckL_b h3) (by decide))), trivial⟩
  | false =>
    cases h1 : (((F53_L a0 false) : Int) != 0) with
    | true =>
      have q1 := bne_iff_ne.1 h1
      have e : (F32_L a0 a1 a2 a3 a4) = ((0, 0), (F53_L a0 false)) := by simp only [F32_L, h0, h1, cond_true, cond_false]
      rw [e]
      refine con_of (n := 9) Try.func32 rfl (ent Try.func32 (by kernel_rfl) rfl) (by show 5 ≤ Try.f32.ntmps; decide) (by kernel_rfl) ⟨rfl, trivial⟩ (fun cx hcx => ?_)
      exact ret_of (T := T0) hT hm (f := 5000) (orc := [.call [] (.v (.bool (F45 a1))) [], .d false, .call [0] (iv (F53_L a0 false)) [], .d true]) [] [] [] hcx
        (obs := [.call 45 [(.a (k3 a1))] [] (.v (.bool (F45 a1))) [], .eq (F45 a1) false, (oC32_L_2 a0), .eq (((F53_L a0 false) : Int) != 0) true]) (by kernel_rfl) ⟨(C45 a1), h0, (C53_L a0 false (by (try simp only [List.length_append, List.length_cons, List.length_nil, Int.toNat_zero]); omega)), h1, trivial⟩
    | false =>
      have q1 := bne_eq_false_iff_eq.1 h1
      have e : (F32_L a0 a1 a2 a3 a4) = ((F71_L a0 a1 a2 a3 a4).1, (F71_L a0 a1 a2 a3 a4).2) := by simp only [F32_L, h0, h1, cond_true, cond_false]
      rw [e]
      refine con_of (n := 9) Try.func32 rfl (ent Try.func32 (by kernel_rfl) rfl) (by show 5 ≤ Try.f32.ntmps; decide) (by kernel_rfl) ⟨rfl, trivial⟩ (fun cx hcx => ?_)
      exact ret_of (T := T0) hT hm (f := 5000) (orc := [.call [] (.v (.bool (F45 a1))) [], .d false, .call [0] (iv (F53_L a0 false)) [], .d false, (oC32_L_0 a0 a1 a2 a3 a4)]) [] [] [] hcx
        (obs := [.call 45 [(.a (k3 a1))] [] (.v (.bool (F45 a1))) [], .eq (F45 a1) false, (oC32_L_2 a0), .eq (((F53_L a0 false) : Int) != 0) false, (oC32_L_1 a0 a1 a2 a3 a4)]) (by kernel_rfl) ⟨(C45 a1), h0, (C53_L a0 false (by (try simp only [List.length_append, List.length_cons, List.length_nil, Int.toNat_zero]); omega)), h1, (C71_L a0 a1 a2 a3 a4 (by (try simp only [List.length_append, List.length_cons, List.length_nil, Int.toNat_zero]); omega) (by first | exact ckL_v h1 | exact ckL_v h2 | exact ckL_v h3) (by first | exact isp_p h0 | exact absurd (ckL_b h1) (by decide) | exact absurd (ckL_b h2) (by decide) | exact absurd (ckL_b h3) (by decide)) (by first | exact iss_p h1 | exact absurd (ckL_b h1) (by decide) | exact absurd (ckL_b h2) (by decide) | exact absurd (ckL_b h3) (by decide)) (by first | exact ist_p h2 | exact absurd (ckL_b h1) (by decide) | exact absurd (ckL_b h2) (by decide) | exact absurd (ckL_b h3) (by decide)) (by first | exact isd_p (ckL_b h3) | exact absurd (ckL_b h1) (by decide) | exact absurd (ckL_b h2) (by decide) | exact absurd (ckL_b h3) (by decide))), trivial⟩

end Go.Proofs.Ytopbnnmkdildgaa

namespace Go.Proofs.Ytopbnnmkdildgaa
open Go.Proofs Go.Aw Go.RowKit
set_option maxRecDepth 100000
set_option linter.unusedVariables false
set_option linter.unusedSimpArgs false

/-! ### What is heard of all pulses -/
/-- a sum of pulses that are heard stays small -/
def bw (a : Int × Int) : Prop := -53687091300 ≤ a.1 ∧ a.1 ≤ a.2 ∧ a.2 ≤ 53687091300
theorem bw_vs {a : Int × Int} (h : bw a) : vs a := by unfold bw vs at *; omega
theorem sums_le : ∀ {l : List (Int × Int)} {v : Int × Int}, (∀ a ∈ l, okE a) → v.1 ≤ (sums l v).1 ∧ v.2 ≤ (sums l v).2 ∧ (sums l v).2 ≤ v.2 + 536870913 * l.length ∧ (v.1 ≤ v.2 → (sums l v).1 ≤ (sums l v).2)
  | [], v, _ => by simp only [sums, List.length_nil]; omega
  | a :: l, v, h => by
    have ha := h a List.mem_cons_self
    unfold okE at ha
    have ih := sums_le (l := l) (v := (v.1 + a.1, v.2 + a.2)) (fun b hb => h b (List.mem_cons_of_mem _ hb))
    simp only [sums, List.length_cons] at ih ⊢
    omega
theorem div_ge {a n : Int} (hn : 1 ≤ n) (h : 0 ≤ a) : 0 ≤ a / n := Int.ediv_nonneg h (by omega)
theorem avg_small {l : List (Int × Int)} {n : Int} (hn : n = 1 ∨ n = 4 ∨ n = 16 ∨ n = 64) (hl : ∀ a ∈ l, okE a) (hk : ((l.length : Nat) : Int) = n) : okE (avg (sums l (0, 0)) n) := by
  have h := sums_le (v := (0, 0)) hl
  simp only at h
  unfold okE avg
  simp only
  rcases hn with rfl | rfl | rfl | rfl <;> omega
theorem sat_small {x n : Int} (hx : 0 ≤ x ∧ x ≤ 536870913) (hn : -100 ≤ n ∧ n ≤ 100) : sat x n = x * n ∧ -53687091300 ≤ x * n ∧ x * n ≤ 53687091300 := by
  have h := mul_bd (a := 536870913) (b := 100) (x := x) (y := n) ⟨by omega, hx.2⟩ hn
  unfold sat
  refine ⟨?_, by omega, by omega⟩
  rw [if_neg (by omega), if_neg (by omega)]
theorem scl_small {a : Int × Int} {n : Int} (ha : okE a) (hn : -100 ≤ n ∧ n ≤ 100) : bw (scl a n) := by
  unfold okE at ha
  have h1 := sat_small (x := a.1) ⟨ha.1, by omega⟩ hn
  have h2 := sat_small (x := a.2) ⟨by omega, ha.2.2⟩ hn
  unfold bw scl
  by_cases h : n < 0
  · have := sat_anti (n := n) ha.2.1 (by omega)
    rw [if_pos h]; simp only; omega
  · have := sat_mono (n := n) ha.2.1 (by omega)
    rw [if_neg h]; simp only; omega
theorem shG_map (p : PU) (x : P3) (s t d : Int) (k : List PN) : ∀ a ∈ k.map (fun c => (shG p x s t d c).1), okE a := by
  intro a ha
  obtain ⟨c, _, rfl⟩ := List.mem_map.1 ha
  exact shG_ok _ _ _ _ _ _
/-- what is heard of a pulse, without the span's limits -/
noncomputable def hrT (p : PU) (x : P3) (s t d : Int) : (Int × Int) × Int :=
  if t - p.2.1 < 1 then ((0, 0), 0) else out8 (fun l => (scl (avg (sums l (0, 0)) (sc d * sc d)) p.2.2, 0)) (fun e => ((0, 0), e)) (shs (shG p x s t d) (cutL d.toNat p.1) [])
theorem hrS_T {p : PU} {x : P3} {s t d : Int} (hp : POK p) (hd : 0 ≤ d ∧ d ≤ 3) : hrS p x s t d = hrT p x s t d := by
  unfold hrS hrT
  split
  · rfl
  · refine out8_ok (fun _ => ?_)
    have hb := scl_small (avg_small (cnt_in d) (shG_map p x s t d (cutL d.toNat p.1)) (by rw [List.length_map]; exact cnt_len hd p.1)) hp.2.2
    unfold bw at hb
    unfold hrE
    rw [res_f (by omega) (by omega) (by omega)]
theorem hrT_bw {p : PU} {x : P3} {s t d : Int} (hp : POK p) (hd : 0 ≤ d ∧ d ≤ 3) : bw (hrT p x s t d).1 := by
  unfold hrT
  split
  · unfold bw; simp
  · cases e : shs (shG p x s t d) (cutL d.toNat p.1) [] with
    | inr r => unfold bw out8; simp
    | inl m =>
      obtain ⟨h1, _⟩ := shs_inl e
      rw [List.nil_append] at h1
      subst h1
      exact scl_small (avg_small (cnt_in d) (shG_map p x s t d (cutL d.toNat p.1)) (by rw [List.length_map]; exact cnt_len hd p.1)) hp.2.2
theorem sums_bw : ∀ {l : List (Int × Int)} {v : Int × Int}, (∀ a ∈ l, bw a) → v.1 ≤ v.2 → v.1 - 53687091300 * l.length ≤ (sums l v).1 ∧ (sums l v).1 ≤ (sums l v).2 ∧ (sums l v).2 ≤ v.2 + 53687091300 * l.length
  | [], v, _, h => by simp only [sums, List.length_nil]; omega
  | a :: l, v, h, hv => by
    have ha := h a List.mem_cons_self
    unfold bw at ha
    have ih := sums_bw (l := l) (v := (v.1 + a.1, v.2 + a.2)) (fun b hb => h b (List.mem_cons_of_mem _ hb)) (by simp only; omega)
    simp only [sums, List.length_cons] at ih ⊢
    omega
theorem sumV_bw {l : List (Int × Int)} (h : ∀ a ∈ l, bw a) (hl : l.length ≤ 16) : sumV l = (sums l (0, 0), 0) ∧ vs (sums l (0, 0)) := by
  have hb := sums_bw (v := (0, 0)) h (by simp)
  simp only at hb
  have hv : vs (sums l (0, 0)) := by unfold vs; omega
  refine ⟨?_, hv⟩
  unfold sumV
  rw [res_f hv.1 hv.2.1 hv.2.2]
/-- what is heard of all pulses -/
noncomputable def scS (l : List PU) (x : P3) (s t d : Int) : (Int × Int) × Int := out8 (fun m => (sums m (0, 0), 0)) (fun e => ((0, 0), e)) (shs (fun p => hrT p x s t d) l [])
theorem scS_vs {l : List PU} {x : P3} {s t d : Int} (hl : l.length ≤ 16) (hp : ∀ p ∈ l, POK p) (hd : 0 ≤ d ∧ d ≤ 3) : vs (scS l x s t d).1 := by
  unfold scS
  cases e : shs (fun p => hrT p x s t d) l [] with
  | inr r => unfold vs out8; simp
  | inl m =>
    obtain ⟨h1, _⟩ := shs_inl e
    rw [List.nil_append] at h1
    subst h1
    refine (sumV_bw (fun a ha => ?_) (by rw [List.length_map]; exact hl)).2
    obtain ⟨c, hc, rfl⟩ := List.mem_map.1 ha
    exact hrT_bw (hp c hc) hd
theorem mem_some {α : Type} {l : List α} {i : Nat} {c : α} (h : l[i]? = some c) : c ∈ l := by
  obtain ⟨hlt, hce⟩ := List.getElem?_eq_some_iff.1 h
  exact hce ▸ List.getElem_mem hlt
section
variable {l : List PU} {x : P3} {s t d : Int}
theorem scene_f (hv : vpL l = 0) (hx : bd 256 x) (hs : 1 ≤ s ∧ s ≤ 16) (ht : 0 ≤ t ∧ t ≤ 2000) (hd : 0 ≤ d ∧ d ≤ 3) : F71_L l x s t d = scS l x s t d := by
  obtain ⟨hl, hp⟩ := vpL_ok hv
  unfold F71_L F98_L_c99 scS
  have key := shs_loopF (g := fun p => hrT p x s t d) (S := S98_L_c99_0 l x s t d) (E := fun e => (((0, 0) : Int × Int), e)) (L := l)
    (G := fun m => ((F44_L m).1, (F44_L m).2)) (fun i c hi m => ?_) (fun m => ?_) l 0 (Int.toNat (((l.length : Nat) : Int) - 0) + 1) [] rfl (Nat.zero_le _) (by omega)
  · show (loopF (S98_L_c99_0 l x s t d) (Int.toNat (((l.length : Nat) : Int) - 0) + 1) ([], ((0 : Nat) : Int))) = _
    rw [key]
    refine out8_ok (fun _ => ?_)
    have hb : ∀ a ∈ l.map (fun c => (hrT c x s t d).1), bw a := fun a ha => by
      obtain ⟨c, hc, rfl⟩ := List.mem_map.1 ha
      exact hrT_bw (hp c hc) hd
    rw [Sum_f (fun a ha => bw_vs (hb a ha)) (by rw [List.length_map]; omega)]
    exact (sumV_bw hb (by rw [List.length_map]; exact hl)).1
  · obtain ⟨hg, hlt⟩ := getD_some hi
    have e : F99 c x s t d = hrT c x s t d := by
      unfold F99
      rw [heard_f (hp c (mem_some hi)) hx hs ht hd, hrS_T (hp c (mem_some hi)) hd]
    simp only [S98_L_c99_0]
    rw [decide_eq_true (show ((i : Nat) : Int) < (l.length : Nat) by omega), cond_true, Int.toNat_natCast, hg, e]; rfl
  · simp only [S98_L_c99_0]
    rw [decide_eq_false (Int.lt_irrefl _), cond_false]
theorem scene_r (hv : vpL l = 0) (hx : bd 256 x) (hs : 1 ≤ s ∧ s ≤ 16) (ht : 0 ≤ t ∧ t ≤ 2000) (hd : 0 ≤ d ∧ d ≤ 3) : F72_L l x s t d = scS l x s t d := by
  obtain ⟨hl, hp⟩ := vpL_ok hv
  unfold F72_L scS
  have key := shs_loopF (g := fun p => hrT p x s t d) (S := S72_L_0 l x s t d) (E := fun e => (((0, 0) : Int × Int), e)) (L := l)
    (G := fun m => ((F100_L m).1, (F100_L m).2)) (fun i c hi m => ?_) (fun m => ?_) l 0 (Int.toNat (((l.length : Nat) : Int) - 0) + 1) [] rfl (Nat.zero_le _) (by omega)
  · show (loopF (S72_L_0 l x s t d) (Int.toNat (((l.length : Nat) : Int) - 0) + 1) ([], ((0 : Nat) : Int))) = _
    rw [key]
    refine out8_ok (fun _ => ?_)
    have hb : ∀ a ∈ l.map (fun c => (hrT c x s t d).1), bw a := fun a ha => by
      obtain ⟨c, hc, rfl⟩ := List.mem_map.1 ha
      exact hrT_bw (hp c hc) hd
    rw [Sum_r (fun a ha => bw_vs (hb a ha)) (by rw [List.length_map]; omega)]
    exact (sumV_bw hb (by rw [List.length_map]; exact hl)).1
  · obtain ⟨hg, hlt⟩ := getD_some hi
    simp only [S72_L_0]
    rw [decide_eq_true (show ((i : Nat) : Int) < (l.length : Nat) by omega), cond_true, Int.toNat_natCast, hg, heard_r (hp c (mem_some hi)) hx hs ht hd, hrS_T (hp c (mem_some hi)) hd]; rfl
  · simp only [S72_L_0]
    rw [decide_eq_false (Int.lt_irrefl _), cond_false]
end
/-- what is asked of a point, a speed, a tick and a depth -/
def askd (x : P3) (s t d : Int) : Prop := bd 256 x ∧ (1 ≤ s ∧ s ≤ 16) ∧ (0 ≤ t ∧ t ≤ 2000) ∧ (0 ≤ d ∧ d ≤ 3)
noncomputable def scV (l : List PU) (x : P3) (s t d : Int) : (Int × Int) × Int :=
  open Classical in if vpL l = 0 then (if askd x s t d then scS l x s t d else ((0, 0), 1)) else ((0, 0), vpL l)
open Classical in
theorem Scene_f (l : List PU) (x : P3) (s t d : Int) : F32_L l x s t d = scV l x s t d := by
  unfold F32_L scV askd
  rw [isP_f, isS_f, isT_f, isD_f]
  simp only [chkL_f]
  by_cases h : vpL l = 0
  · by_cases h1 : bd 256 x
    · by_cases h2 : 1 ≤ s ∧ s ≤ 16
      · by_cases h3 : 0 ≤ t ∧ t ≤ 2000
        · by_cases h4 : 0 ≤ d ∧ d ≤ 3
          · rw [scene_f h h1 h2 h3 h4]; simp [h, h1, h2, h3, h4]
          · simp [h, h1, h2, h3, h4]
        · simp [h, h1, h2, h3]
      · simp [h, h1, h2]
    · simp [h, h1]
  · simp only [if_neg h, bne_iff_ne.2 h, cond_true]
    cases decide (bd 256 x) <;> cases decide (1 ≤ s ∧ s ≤ 16) <;> cases decide (0 ≤ t ∧ t ≤ 2000) <;> rfl
theorem chkL_r {l : List PU} : ((vpL l : Int) != 0) = decide (vpL l ≠ 0) := by
  by_cases h : vpL l = 0
  · rw [h]; rfl
  · rw [bne_iff_ne.2 h, decide_eq_true h]

end Go.Proofs.Ytopbnnmkdildgaa
