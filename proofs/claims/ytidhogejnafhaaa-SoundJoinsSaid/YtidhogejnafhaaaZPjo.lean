/-
  SoundJoins: for every two lists of pulses, point, speed, tick and depth the law returns true, and its arguments read behind the call as they read before. No condition.
-/
import Derived.Test.YtidhogejnafhaaaVPjo4
import Derived.ProofKit
namespace Go.Proofs.Ytidhogejnafhaaa
open Go.Proofs Go.Aw Go.RowKit
set_option maxRecDepth 100000
set_option linter.unusedVariables false
set_option linter.unusedSimpArgs false

theorem scV_0 {l : List PU} {x : P3} {s t d : Int} (h : (scV l x s t d).2 = 0) : vpL l = 0 ∧ askd x s t d ∧ scV l x s t d = scS l x s t d := by
  unfold scV at *
  by_cases h1 : vpL l = 0
  · rw [if_pos h1] at h ⊢
    by_cases h2 : askd x s t d
    · rw [if_pos h2] at h ⊢; exact ⟨h1, h2, rfl⟩
    · rw [if_neg h2] at h; exact absurd h (by simp)
  · rw [if_neg h1] at h; exact absurd h h1
theorem scn_len {l : List PU} {x : P3} {s t d : Int} (h : (((F21_L l x s t d).2 : Int) != 0) = false) : l.length ≤ 16 := by
  have := bne_eq_false_iff_eq.1 h
  rw [Scene_f] at this
  exact (vpL_ok (scV_0 this).1).1
theorem scV_w {l : List PU} {x : P3} {s t d : Int} (hv : vpL l = 0) (ha : askd x s t d) : scV l x s t d = scS l x s t d := by
  unfold scV; rw [if_pos hv, if_pos ha]

def kc5 (n : Int) : SV := .v (.int .u8 n)
theorem K5 : KeyOK T0 5 kc5 := intKey (fun _ => by kernel_rfl) (fun _ _ => by kernel_rfl)

/-- facet/span.operations -/
theorem C52 : Con Try.prog 52 [] [] (.m 0) [(.map (mapE kc5 (fun x => x) [(43, (.a [(.v (.func (.func 64) #[] #[])), (.v (.func (.func 65) #[] #[]))])), (45, (.a [(.v (.func (.func 64) #[] #[])), (.v (.func (.func 66) #[] #[]))])), (42, (.a [(.v (.func (.func 64) #[] #[])), (.v (.func (.func 67) #[] #[]))])), (47, (.a [(.v (.func (.func 69) #[] #[])), (.v (.func (.func 70) #[] #[]))]))]))] := by
  refine con_s Try.func52 (by kernel_rfl) fun cx hcx => ?_
  exact rt [.mPl K5 [] 43 (.a [(.v (.func (.func 64) #[] #[])), (.v (.func (.func 65) #[] #[]))]), .mPl K5 [(43, (.a [(.v (.func (.func 64) #[] #[])), (.v (.func (.func 65) #[] #[]))]))] 45 (.a [(.v (.func (.func 64) #[] #[])), (.v (.func (.func 66) #[] #[]))]), .mPl K5 [(43, (.a [(.v (.func (.func 64) #[] #[])), (.v (.func (.func 65) #[] #[]))])), (45, (.a [(.v (.func (.func 64) #[] #[])), (.v (.func (.func 66) #[] #[]))]))] 42 (.a [(.v (.func (.func 64) #[] #[])), (.v (.func (.func 67) #[] #[]))]), .mPl K5 [(43, (.a [(.v (.func (.func 64) #[] #[])), (.v (.func (.func 65) #[] #[]))])), (45, (.a [(.v (.func (.func 64) #[] #[])), (.v (.func (.func 66) #[] #[]))])), (42, (.a [(.v (.func (.func 64) #[] #[])), (.v (.func (.func 67) #[] #[]))]))] 47 (.a [(.v (.func (.func 69) #[] #[])), (.v (.func (.func 70) #[] #[]))])] [] [0] hcx (by kernel_rfl)

/-- facet/span.allowed -/
def F64 (a0 : Int × Int) : Int :=
  0

theorem C64 (a0 : Int × Int) : Con Try.prog 64 [(.a [(iv a0.1), (iv a0.2)])] [] (iv (F64 a0)) [] := by
  refine con_s Try.func64 (by kernel_rfl) fun cx hcx => ?_
  have e := Eq.refl (F64 a0); conv at e => rhs; simp only [F64]
  rw [e]
  exact rt [] [] [] hcx (by kernel_rfl)

/-- facet/span.operations$1 -/
def F65 (a0 : Int × Int) (a1 : Int × Int) : Int × Int :=
  ((W (a0.1 + a1.1)), (W (a0.2 + a1.2)))

theorem C65 (a0 : Int × Int) (a1 : Int × Int) : Con Try.prog 65 [(.a [(iv a0.1), (iv a0.2)]), (.a [(iv a1.1), (iv a1.2)])] [] (.t (k2 (F65 a0 a1))) [] := by
  refine con_s Try.func65 (by kernel_rfl) fun cx hcx => ?_
  have e := Eq.refl (F65 a0 a1); conv at e => rhs; simp only [F65]
  rw [e]
  exact rt [] [] [] hcx (by kernel_rfl)

/-- facet/span.apply at ('k43',) -/
def F29_k43 (a1 : Int × Int) (a2 : Int × Int) : (Int × Int) × Int :=
  (bif (((F30_2 (a1, a2)) : Int) != 0) then
   ((0, 0), (F30_2 (a1, a2)))
  else
   (bif (((F64 a2) : Int) != 0) then
    ((0, 0), (F64 a2))
   else
    ((F26 (F65 a1 a2).1 (F65 a1 a2).2).1, (F26 (F65 a1 a2).1 (F65 a1 a2).2).2)))

theorem C29_k43 (a1 : Int × Int) (a2 : Int × Int) : Con Try.prog 29 [(.v (.int .u8 43)), (.a [(iv a1.1), (iv a1.2)]), (.a [(iv a2.1), (iv a2.2)])] [] (.t [(.a (k2 (F29_k43 a1 a2).1)), (iv (F29_k43 a1 a2).2)]) [] := by
  refine con_s Try.func29 (by kernel_rfl) fun cx hcx => ?_
  let t0 : List (St Try.prog) := [.c [3] (C30_2 (a1, a2))]
  cases h0 : (((F30_2 (a1, a2)) : Int) != 0) with
  | true =>
   have q0 := bne_iff_ne.1 h0
   have e := Eq.refl (F29_k43 a1 a2); conv at e => rhs; simp only [F29_k43, h0, cond_true, cond_false]
   rw [e]
   exact rt (t0 ++ [.d h0]) [] [] hcx (by kernel_rfl)
  | false =>
   have q0 := bne_eq_false_iff_eq.1 h0
   let t1 : List (St Try.prog) := (t0 ++ [.d h0, .c [] (C52), .mG K5 (fun x => x) [(43, (.a [(.v (.func (.func 64) #[] #[])), (.v (.func (.func 65) #[] #[]))])), (45, (.a [(.v (.func (.func 64) #[] #[])), (.v (.func (.func 66) #[] #[]))])), (42, (.a [(.v (.func (.func 64) #[] #[])), (.v (.func (.func 67) #[] #[]))])), (47, (.a [(.v (.func (.func 69) #[] #[])), (.v (.func (.func 70) #[] #[]))]))] 43 (.a [(.v .nilFunc), (.v .nilFunc)]), .c [] (C64 a2)])
   cases h1 : (((F64 a2) : Int) != 0) with
   | true =>
    have q1 := bne_iff_ne.1 h1
    have e := Eq.refl (F29_k43 a1 a2); conv at e => rhs; simp only [F29_k43, h0, h1, cond_true, cond_false]
    rw [e]
    exact rt (t1 ++ [.d h1]) [] [] hcx (by kernel_rfl)
   | false =>
    have q1 := bne_eq_false_iff_eq.1 h1
    have e := Eq.refl (F29_k43 a1 a2); conv at e => rhs; simp only [F29_k43, h0, h1, cond_true, cond_false]
    rw [e]
    exact rt (t1 ++ [.d h1, .c [] (C65 a1 a2), .c [] (C26 (F65 a1 a2).1 (F65 a1 a2).2)]) [] [] hcx (by kernel_rfl)

/-- facet/span.Add -/
def F7 (a0 : Int × Int) (a1 : Int × Int) : (Int × Int) × Int :=
  ((F29_k43 a0 a1).1, (F29_k43 a0 a1).2)

theorem C7 (a0 : Int × Int) (a1 : Int × Int) : Con Try.prog 7 [(.a [(iv a0.1), (iv a0.2)]), (.a [(iv a1.1), (iv a1.2)])] [] (.t [(.a (k2 (F7 a0 a1).1)), (iv (F7 a0 a1).2)]) [] := by
  refine con_s Try.func7 (by kernel_rfl) fun cx hcx => ?_
  have e := Eq.refl (F7 a0 a1); conv at e => rhs; simp only [F7]
  rw [e]
  exact rt [.c [] (C29_k43 a0 a1)] [] [] hcx (by kernel_rfl)

noncomputable def B4_L_L_0 : Code := (loopAtD [1, 1, 1, 1, 1, 1, 1, 1, 1, 0, 1] [] (bodyOf Try.f4) []).1
noncomputable def K4_L_L_0 : List K := (loopAtD [1, 1, 1, 1, 1, 1, 1, 1, 1, 0, 1] [] (bodyOf Try.f4) []).2

def st4_L_L_0 (a0 : List (((Int × Int × Int) × (Int × Int × Int) × Int × Int × Int) × Int × Int)) (a1 : List (((Int × Int × Int) × (Int × Int × Int) × Int × Int × Int) × Int × Int)) (a2 : (Int × Int × Int) × Int × Int × Int) (v2c : List SV) (v2n : Nat) (v3 : Int) : LS := ⟨slN 147 [(0, (.s 0 0 a0.length 11)), (5, (.p 2 0)), (7, (.p 3 0)), (15, (.s 4 0 v2n 11)), (16, (iv v3))], [(.live false true (flat c47 a0)), (.live false true (flat c47 a1)), (.live true false [(iv a2.1.1), (iv a2.1.2.1), (iv a2.1.2.2), (iv a2.2.1), (iv a2.2.2.1), (iv a2.2.2.2)]), (.live true false (k2 (F21_L a0 a2.1 a2.2.1 a2.2.2.1 a2.2.2.2).1)), (.live true true v2c)]⟩

/-- a round of loop 0 of facet/facetlaw08.SoundJoins; the variables: v2 = s15, v3 = s16 -/
def S4_L_L_0 (a0 : List (((Int × Int × Int) × (Int × Int × Int) × Int × Int × Int) × Int × Int)) (a1 : List (((Int × Int × Int) × (Int × Int × Int) × Int × Int × Int) × Int × Int)) (a2 : (Int × Int × Int) × Int × Int × Int) : (List (((Int × Int × Int) × (Int × Int × Int) × Int × Int × Int) × Int × Int)) × Int → ((List (((Int × Int × Int) × (Int × Int × Int) × Int × Int × Int) × Int × Int)) × Int) ⊕ (Bool)
  | (v2, v3) =>
   (bif (decide ((v3 : Int) < ((a0.length : Nat) : Int))) then
    (.inl ((v2 ++ [((a0.getD (Int.toNat v3) default).1, (a0.getD (Int.toNat v3) default).2.1, (W (0 - (a0.getD (Int.toNat v3) default).2.2)))]), (v3 + 1)))
   else
    (bif (((F21_L v2 a2.1 a2.2.1 a2.2.2.1 a2.2.2.2).2 : Int) == 0) then
     (bif ((((F21_L v2 a2.1 a2.2.1 a2.2.2.1 a2.2.2.2).1.1 : Int) == (W (0 - (F21_L a0 a2.1 a2.2.1 a2.2.2.1 a2.2.2.2).1.2))) && ((((F21_L v2 a2.1 a2.2.1 a2.2.2.1 a2.2.2.2).1.2 : Int) == (W (0 - (F21_L a0 a2.1 a2.2.1 a2.2.2.1 a2.2.2.2).1.1))) && true)) then
      (.inr F20)
     else
      (.inr false))
    else
     (.inr false)))

set_option maxHeartbeats 4000000 in
theorem L4_L_L_0 (a0 : List (((Int × Int × Int) × (Int × Int × Int) × Int × Int × Int) × Int × Int)) (a1 : List (((Int × Int × Int) × (Int × Int × Int) × Int × Int × Int) × Int × Int)) (a2 : (Int × Int × Int) × Int × Int × Int) (l0 : a0.length ≤ 9223372036854775807) (l1 : a1.length ≤ 9223372036854775807) {cx : Cx} (hcx : cx.base = 2) : ∀ (n : Nat) (v2 : List (((Int × Int × Int) × (Int × Int × Int) × Int × Int × Int) × Int × Int)) (v3 : Int), (0 ≤ v3) ∧ (v2.length = Int.toNat v3) ∧ (v3 ≤ a0.length) ∧ (a0.length ≤ 16) → Int.toNat (((a0.length : Nat) : Int) - v3) < n → Aw.Good Try.prog none 9 (bodyPost Try.prog Try.f4 (RR cx (.v (.bool (loopF (S4_L_L_0 a0 a1 a2) n (v2, v3)))) [] [])) cx [] (.l B4_L_L_0 n :: K4_L_L_0) (st4_L_L_0 a0 a1 a2 (flat c47 v2) v2.length v3) := by
  intro n
  induction n with
  | zero => intro v2 v3 hi hn; exact absurd hn (Nat.not_lt_zero _)
  | succ n ih =>
    intro v2 v3 hi hn
    refine good_round ?_
    cases h0 : (decide ((v3 : Int) < ((a0.length : Nat) : Int))) with
    | true =>
     have q0 := of_decide_eq_true h0
     have e := Eq.refl (S4_L_L_0 a0 a1 a2 (v2, v3)); conv at e => rhs; simp only [S4_L_L_0, h0, cond_true, cond_false]
     rw [loopF_inl e]
     refine ba [.d h0, .i v3 (a0.length), .L c47_len a0 v3 0 11, .p (show ((flat c47 v2).length = v2.length * 11 ∧ v2.length + 1 ≤ 2 ^ 40 ∧ (v2.length + 1) * 88 ≤ 2 ^ 47) from app_ok c47_len (by omega) (by omega))] [] [0, 5, 7, 15, 16] [2, 3, 7] hcx (m := n) B4_L_L_0 (K4_L_L_0) (st4_L_L_0 a0 a1 a2 (flat c47 v2 ++ [(iv (a0.getD (Int.toNat v3) default).1.1.1), (iv (a0.getD (Int.toNat v3) default).1.1.2.1), (iv (a0.getD (Int.toNat v3) default).1.1.2.2), (iv (a0.getD (Int.toNat v3) default).1.2.1.1), (iv (a0.getD (Int.toNat v3) default).1.2.1.2.1), (iv (a0.getD (Int.toNat v3) default).1.2.1.2.2), (iv (a0.getD (Int.toNat v3) default).1.2.2.1), (iv (a0.getD (Int.toNat v3) default).1.2.2.2.1), (iv (a0.getD (Int.toNat v3) default).1.2.2.2.2), (iv (a0.getD (Int.toNat v3) default).2.1), (iv (W (0 - (a0.getD (Int.toNat v3) default).2.2)))]) (v2.length + 1) (W (v3 + 1))) (by kernel_rfl) ?_
     have z0 : (W (v3 + 1)) = (v3 + 1) := W_eq (by omega) (by omega)
     have z1 : (flat c47 v2 ++ [(iv (a0.getD (Int.toNat v3) default).1.1.1), (iv (a0.getD (Int.toNat v3) default).1.1.2.1), (iv (a0.getD (Int.toNat v3) default).1.1.2.2), (iv (a0.getD (Int.toNat v3) default).1.2.1.1), (iv (a0.getD (Int.toNat v3) default).1.2.1.2.1), (iv (a0.getD (Int.toNat v3) default).1.2.1.2.2), (iv (a0.getD (Int.toNat v3) default).1.2.2.1), (iv (a0.getD (Int.toNat v3) default).1.2.2.2.1), (iv (a0.getD (Int.toNat v3) default).1.2.2.2.2), (iv (a0.getD (Int.toNat v3) default).2.1), (iv (W (0 - (a0.getD (Int.toNat v3) default).2.2)))]) = (flat c47 (v2 ++ [((a0.getD (Int.toNat v3) default).1, (a0.getD (Int.toNat v3) default).2.1, (W (0 - (a0.getD (Int.toNat v3) default).2.2)))])) := (flat_append (c := c47) (l := v2) (m := [((a0.getD (Int.toNat v3) default).1, (a0.getD (Int.toNat v3) default).2.1, (W (0 - (a0.getD (Int.toNat v3) default).2.2)))])).symm
     have z2 : (v2.length + 1) = (v2 ++ [((a0.getD (Int.toNat v3) default).1, (a0.getD (Int.toNat v3) default).2.1, (W (0 - (a0.getD (Int.toNat v3) default).2.2)))]).length := len_app v2 [((a0.getD (Int.toNat v3) default).1, (a0.getD (Int.toNat v3) default).2.1, (W (0 - (a0.getD (Int.toNat v3) default).2.2)))] rfl
     rw [z0, z1, z2]
     exact ih (v2 ++ [((a0.getD (Int.toNat v3) default).1, (a0.getD (Int.toNat v3) default).2.1, (W (0 - (a0.getD (Int.toNat v3) default).2.2)))]) (v3 + 1) (by refine ⟨?_, ?_, ?_, ?_⟩ <;> (try simp only [List.length_append, List.length_cons, List.length_nil, Int.toNat_zero]) <;> first | omega | assumption | simp) (by (try simp only [List.length_append, List.length_cons, List.length_nil, Int.toNat_zero]); omega)
    | false =>
     have q0 := of_decide_eq_false h0
     let t1 : List (St Try.prog) := [.d h0, .c [4] (C21_L v2 a2.1 a2.2.1 a2.2.2.1 a2.2.2.2 (by (try simp only [List.length_append, List.length_cons, List.length_nil, Int.toNat_zero]); omega))]
     cases h1 : (((F21_L v2 a2.1 a2.2.1 a2.2.2.1 a2.2.2.2).2 : Int) == 0) with
     | true =>
      have q1 := eq_of_beq h1
      let t2 : List (St Try.prog) := (t1 ++ [.d h1])
      cases h2 : ((((F21_L v2 a2.1 a2.2.1 a2.2.2.1 a2.2.2.2).1.1 : Int) == (W (0 - (F21_L a0 a2.1 a2.2.1 a2.2.2.1 a2.2.2.2).1.2))) && ((((F21_L v2 a2.1 a2.2.1 a2.2.2.1 a2.2.2.2).1.2 : Int) == (W (0 - (F21_L a0 a2.1 a2.2.1 a2.2.2.1 a2.2.2.2).1.1))) && true)) with
      | true =>
       have e := Eq.refl (S4_L_L_0 a0 a1 a2 (v2, v3)); conv at e => rhs; simp only [S4_L_L_0, h0, h1, h2, cond_true, cond_false]
       rw [loopF_s, e]
       exact rt (t2 ++ [.d h2, .c [] (C20)]) [] [] hcx (by kernel_rfl)
      | false =>
       have e := Eq.refl (S4_L_L_0 a0 a1 a2 (v2, v3)); conv at e => rhs; simp only [S4_L_L_0, h0, h1, h2, cond_true, cond_false]
       rw [loopF_s, e]
       exact rt (t2 ++ [.d h2]) [] [] hcx (by kernel_rfl)
     | false =>
      have q1 := ne_of_beq_false h1
      have e := Eq.refl (S4_L_L_0 a0 a1 a2 (v2, v3)); conv at e => rhs; simp only [S4_L_L_0, h0, h1, cond_true, cond_false]
      rw [loopF_s, e]
      exact rt (t1 ++ [.d h1]) [] [] hcx (by kernel_rfl)

/-- facet/facetlaw08.SoundJoins at ('L', 'L') -/
def F4_L_L (a0 : List (((Int × Int × Int) × (Int × Int × Int) × Int × Int × Int) × Int × Int)) (a1 : List (((Int × Int × Int) × (Int × Int × Int) × Int × Int × Int) × Int × Int)) (a2 : (Int × Int × Int) × Int × Int × Int) : Bool :=
  (bif (decide (((W (((a0.length : Nat) : Int) + ((a1.length : Nat) : Int))) : Int) > 16)) then
   F20
  else
   (bif (!(F19 a2.1 256)) then
    F20
   else
    (bif (((F21_L a0 a2.1 a2.2.1 a2.2.2.1 a2.2.2.2).2 : Int) != 0) then
     F20
    else
     (bif (((F21_L a1 a2.1 a2.2.1 a2.2.2.1 a2.2.2.2).2 : Int) != 0) then
      F20
     else
      (bif (((F21_L ((([] : List (((Int × Int × Int) × (Int × Int × Int) × Int × Int × Int) × Int × Int)) ++ a0) ++ a1) a2.1 a2.2.1 a2.2.2.1 a2.2.2.2).2 : Int) != 0) then
       false
      else
       (bif (((F7 (F21_L a0 a2.1 a2.2.1 a2.2.2.1 a2.2.2.2).1 (F21_L a1 a2.1 a2.2.1 a2.2.2.1 a2.2.2.2).1).2 : Int) != 0) then
        false
       else
        (bif (!((((F21_L ((([] : List (((Int × Int × Int) × (Int × Int × Int) × Int × Int × Int) × Int × Int)) ++ a0) ++ a1) a2.1 a2.2.1 a2.2.2.1 a2.2.2.2).1.1 : Int) == (F7 (F21_L a0 a2.1 a2.2.1 a2.2.2.1 a2.2.2.2).1 (F21_L a1 a2.1 a2.2.1 a2.2.2.1 a2.2.2.2).1).1.1) && ((((F21_L ((([] : List (((Int × Int × Int) × (Int × Int × Int) × Int × Int × Int) × Int × Int)) ++ a0) ++ a1) a2.1 a2.2.1 a2.2.2.1 a2.2.2.2).1.2 : Int) == (F7 (F21_L a0 a2.1 a2.2.1 a2.2.2.1 a2.2.2.2).1 (F21_L a1 a2.1 a2.2.1 a2.2.2.1 a2.2.2.2).1).1.2) && true))) then
         false
        else
         (loopF (S4_L_L_0 a0 a1 a2) (Int.toNat (((a0.length : Nat) : Int) - 0) + 1) (([] : List (((Int × Int × Int) × (Int × Int × Int) × Int × Int × Int) × Int × Int)), 0)))))))))

theorem C4_L_L (a0 : List (((Int × Int × Int) × (Int × Int × Int) × Int × Int × Int) × Int × Int)) (a1 : List (((Int × Int × Int) × (Int × Int × Int) × Int × Int × Int) × Int × Int)) (a2 : (Int × Int × Int) × Int × Int × Int) (l0 : a0.length ≤ 9223372036854775807) (l1 : a1.length ≤ 9223372036854775807) : Con Try.prog 4 [(.s 0 0 a0.length 11), (.s 1 0 a1.length 11), (.a [(iv a2.1.1), (iv a2.1.2.1), (iv a2.1.2.2), (iv a2.2.1), (iv a2.2.2.1), (iv a2.2.2.2)])] [(.live false true (flat c47 a0)), (.live false true (flat c47 a1))] (.v (.bool (F4_L_L a0 a1 a2))) [] := by
  refine con_s Try.func4 (by kernel_rfl) fun cx hcx => ?_
  try have hl0 := scn_len h2
  try have hl1 := scn_len h3
  cases h0 : (decide (((W (((a0.length : Nat) : Int) + ((a1.length : Nat) : Int))) : Int) > 16)) with
  | true =>
   have q0 := of_decide_eq_true h0
   try have hl0 := scn_len h2
   try have hl1 := scn_len h3
   have e := Eq.refl (F4_L_L a0 a1 a2); conv at e => rhs; simp only [F4_L_L, h0, cond_true, cond_false]
   rw [e]
   exact rt [.d h0, .c [] (C20)] [] [] hcx (by kernel_rfl)
  | false =>
   have q0 := of_decide_eq_false h0
   try have hl0 := scn_len h2
   try have hl1 := scn_len h3
   let t1 : List (St Try.prog) := [.d h0, .c [] (C19 a2.1 256)]
   cases h1 : (!(F19 a2.1 256)) with
   | true =>
    try have hl0 := scn_len h2
    try have hl1 := scn_len h3
    have e := Eq.refl (F4_L_L a0 a1 a2); conv at e => rhs; simp only [F4_L_L, h0, h1, cond_true, cond_false]
    rw [e]
    exact rt (t1 ++ [.d h1, .c [] (C20)]) [] [] hcx (by kernel_rfl)
   | false =>
    try have hl0 := scn_len h2
    try have hl1 := scn_len h3
    let t2 : List (St Try.prog) := (t1 ++ [.d h1, .c [0] (C21_L a0 a2.1 a2.2.1 a2.2.2.1 a2.2.2.2 (by (try simp only [List.length_append, List.length_cons, List.length_nil, Int.toNat_zero]); omega)), .c [1] (C21_L a1 a2.1 a2.2.1 a2.2.2.1 a2.2.2.2 (by (try simp only [List.length_append, List.length_cons, List.length_nil, Int.toNat_zero]); omega))])
    cases h2 : (((F21_L a0 a2.1 a2.2.1 a2.2.2.1 a2.2.2.2).2 : Int) != 0) with
    | true =>
     have q2 := bne_iff_ne.1 h2
     try have hl0 := scn_len h2
     try have hl1 := scn_len h3
     have e := Eq.refl (F4_L_L a0 a1 a2); conv at e => rhs; simp only [F4_L_L, h0, h1, h2, cond_true, cond_false]
     rw [e]
     exact rt (t2 ++ [.d h2, .c [] (C20)]) [] [] hcx (by kernel_rfl)
    | false =>
     have q2 := bne_eq_false_iff_eq.1 h2
     try have hl0 := scn_len h2
     try have hl1 := scn_len h3
     let t3 : List (St Try.prog) := (t2 ++ [.d h2])
     cases h3 : (((F21_L a1 a2.1 a2.2.1 a2.2.2.1 a2.2.2.2).2 : Int) != 0) with
     | true =>
      have q3 := bne_iff_ne.1 h3
      try have hl0 := scn_len h2
      try have hl1 := scn_len h3
      have e := Eq.refl (F4_L_L a0 a1 a2); conv at e => rhs; simp only [F4_L_L, h0, h1, h2, h3, cond_true, cond_false]
      rw [e]
      exact rt (t3 ++ [.d h3, .c [] (C20)]) [] [] hcx (by kernel_rfl)
     | false =>
      have q3 := bne_eq_false_iff_eq.1 h3
      try have hl0 := scn_len h2
      try have hl1 := scn_len h3
      let t4 : List (St Try.prog) := (t3 ++ [.d h3, .p (show (([] : List SV).length = 0 * 11 ∧ (flat c47 a0).length = a0.length * 11 ∧ (flat c47 a0).all SV.one = true ∧ 0 + a0.length ≤ 2 ^ 40 ∧ (0 + a0.length) * 88 ≤ 2 ^ 47) from by refine ⟨?_, ?_, ?_, ?_, ?_⟩ <;> first | omega | exact flat_one (fun _ => rfl) | (simp [flat_lenc c47_len]; done) | (simp [flat_lenc c47_len]; omega)), .p (show ((([] : List SV) ++ (flat c47 a0)).length = (0 + a0.length) * 11 ∧ (flat c47 a1).length = a1.length * 11 ∧ (flat c47 a1).all SV.one = true ∧ (0 + a0.length) + a1.length ≤ 2 ^ 40 ∧ ((0 + a0.length) + a1.length) * 88 ≤ 2 ^ 47) from by refine ⟨?_, ?_, ?_, ?_, ?_⟩ <;> first | omega | exact flat_one (fun _ => rfl) | (simp [flat_lenc c47_len]; done) | (simp [flat_lenc c47_len]; omega)), .c [7] (by have q := (C21_L ((([] : List (((Int × Int × Int) × (Int × Int × Int) × Int × Int × Int) × Int × Int)) ++ a0) ++ a1) a2.1 a2.2.1 a2.2.2.1 a2.2.2.2 (by (try simp only [List.length_append, List.length_cons, List.length_nil, Int.toNat_zero]); omega)); rw [show flat c47 ((([] : List (((Int × Int × Int) × (Int × Int × Int) × Int × Int × Int) × Int × Int)) ++ a0) ++ a1) = ((([] : List SV) ++ (flat c47 a0)) ++ (flat c47 a1)) from Eq.symm (by simp [flat]), show ((([] : List (((Int × Int × Int) × (Int × Int × Int) × Int × Int × Int) × Int × Int)) ++ a0) ++ a1).length = ((0 + a0.length) + a1.length) from by simp] at q; exact q), .c [] (C7 (F21_L a0 a2.1 a2.2.1 a2.2.2.1 a2.2.2.2).1 (F21_L a1 a2.1 a2.2.1 a2.2.2.1 a2.2.2.2).1)])
      cases h4 : (((F21_L ((([] : List (((Int × Int × Int) × (Int × Int × Int) × Int × Int × Int) × Int × Int)) ++ a0) ++ a1) a2.1 a2.2.1 a2.2.2.1 a2.2.2.2).2 : Int) != 0) with
      | true =>
       have q4 := bne_iff_ne.1 h4
       try have hl0 := scn_len h2
       try have hl1 := scn_len h3
       have e := Eq.refl (F4_L_L a0 a1 a2); conv at e => rhs; simp only [F4_L_L, h0, h1, h2, h3, h4, cond_true, cond_false]
       rw [e]
       exact rt (t4 ++ [.d h4]) [] [] hcx (by kernel_rfl)
      | false =>
       have q4 := bne_eq_false_iff_eq.1 h4
       try have hl0 := scn_len h2
       try have hl1 := scn_len h3
       let t5 : List (St Try.prog) := (t4 ++ [.d h4])
       cases h5 : (((F7 (F21_L a0 a2.1 a2.2.1 a2.2.2.1 a2.2.2.2).1 (F21_L a1 a2.1 a2.2.1 a2.2.2.1 a2.2.2.2).1).2 : Int) != 0) with
       | true =>
        have q5 := bne_iff_ne.1 h5
        try have hl0 := scn_len h2
        try have hl1 := scn_len h3
        have e := Eq.refl (F4_L_L a0 a1 a2); conv at e => rhs; simp only [F4_L_L, h0, h1, h2, h3, h4, h5, cond_true, cond_false]
        rw [e]
        exact rt (t5 ++ [.d h5]) [] [] hcx (by kernel_rfl)
       | false =>
        have q5 := bne_eq_false_iff_eq.1 h5
        try have hl0 := scn_len h2
        try have hl1 := scn_len h3
        let t6 : List (St Try.prog) := (t5 ++ [.d h5])
        cases h6 : (!((((F21_L ((([] : List (((Int × Int × Int) × (Int × Int × Int) × Int × Int × Int) × Int × Int)) ++ a0) ++ a1) a2.1 a2.2.1 a2.2.2.1 a2.2.2.2).1.1 : Int) == (F7 (F21_L a0 a2.1 a2.2.1 a2.2.2.1 a2.2.2.2).1 (F21_L a1 a2.1 a2.2.1 a2.2.2.1 a2.2.2.2).1).1.1) && ((((F21_L ((([] : List (((Int × Int × Int) × (Int × Int × Int) × Int × Int × Int) × Int × Int)) ++ a0) ++ a1) a2.1 a2.2.1 a2.2.2.1 a2.2.2.2).1.2 : Int) == (F7 (F21_L a0 a2.1 a2.2.1 a2.2.2.1 a2.2.2.2).1 (F21_L a1 a2.1 a2.2.1 a2.2.2.1 a2.2.2.2).1).1.2) && true))) with
        | true =>
         try have hl0 := scn_len h2
         try have hl1 := scn_len h3
         have e := Eq.refl (F4_L_L a0 a1 a2); conv at e => rhs; simp only [F4_L_L, h0, h1, h2, h3, h4, h5, h6, cond_true, cond_false]
         rw [e]
         exact rt (t6 ++ [.d h6]) [] [] hcx (by kernel_rfl)
        | false =>
         try have hl0 := scn_len h2
         try have hl1 := scn_len h3
         have e := Eq.refl (F4_L_L a0 a1 a2); conv at e => rhs; simp only [F4_L_L, h0, h1, h2, h3, h4, h5, h6, cond_true, cond_false]
         rw [e]
         refine en (t6 ++ [.d h6]) [.slot 15 11] [0, 5, 7, 15, 16] [2, 3, 10] hcx B4_L_L_0 (K4_L_L_0) (st4_L_L_0 a0 a1 a2 (flat c47 ([] : List (((Int × Int × Int) × (Int × Int × Int) × Int × Int × Int) × Int × Int))) 0 0) (Int.toNat (((a0.length : Nat) : Int) - 0) + 1) (by kernel_rfl) ?_
         exact L4_L_L_0 a0 a1 a2 l0 l1 hcx (Int.toNat (((a0.length : Nat) : Int) - 0) + 1) ([] : List (((Int × Int × Int) × (Int × Int × Int) × Int × Int × Int) × Int × Int)) 0 (by refine ⟨?_, ?_, ?_, ?_⟩ <;> (try simp only [List.length_append, List.length_cons, List.length_nil, Int.toNat_zero]) <;> first | omega | assumption | simp) (by (try simp only [List.length_append, List.length_cons, List.length_nil, Int.toNat_zero]); omega)

theorem map_loopF {α β R : Type} [Inhabited R] {g : α → β} {S : List β × Int → (List β × Int) ⊕ R} {G : List β → R} {L : List α}
    (hS : ∀ (i : Nat) (c : α), L[i]? = some c → ∀ l : List β, S (l, (i : Int)) = .inl (l ++ [g c], ((i + 1 : Nat) : Int)))
    (hE : ∀ l : List β, S (l, (L.length : Int)) = .inr (G l)) : loopF S (Int.toNat (((L.length : Nat) : Int) - 0) + 1) ([], 0) = G (L.map g) := by
  have := shs_loopF (g := fun c => (g c, 0)) (S := S) (G := G) (E := fun _ => default) (L := L) (fun i c hc l => by rw [hS i c hc l]; rfl) hE L 0 (Int.toNat (((L.length : Nat) : Int) - 0) + 1) [] rfl (Nat.zero_le _) (by omega)
  rw [shs_pre (fun _ _ => rfl)] at this
  exact this
theorem add_fs {a b : Int × Int} (ha : vs a) (hb : vs b) (h1 : -1099511627776 ≤ a.1 + b.1) (h2 : a.2 + b.2 ≤ 1099511627776) : F7 a b = ((a.1 + b.1, a.2 + b.2), 0) := by
  obtain ⟨a1, a2, a3⟩ := ha
  obtain ⟨b1, b2, b3⟩ := hb
  have hc : F30_2 (a, b) = 0 := by
    unfold F30_2
    rw [val_f a1 a2 a3, val_f b1 b2 b3]; rfl
  show ((F29_k43 a b).1, (F29_k43 a b).2) = _
  unfold F29_k43
  rw [hc]
  show ((F26 (W (a.1 + b.1)) (W (a.2 + b.2))).1, (F26 (W (a.1 + b.1)) (W (a.2 + b.2))).2) = _
  rw [W_eq (n := a.1 + b.1) (by omega) (by omega), W_eq (n := a.2 + b.2) (by omega) (by omega), res_f h1 (by omega) h2]
def ng (p : PU) : PU := (p.1, p.2.1, W (0 - p.2.2))
theorem ng_w {p : PU} (hp : POK p) : ng p = (p.1, p.2.1, -p.2.2) := by
  have := hp.2.2
  unfold ng
  rw [W_eq (by omega) (by omega), Int.zero_sub]
theorem ng_ok {p : PU} (hp : POK p) : POK (ng p) := by
  rw [ng_w hp]
  obtain ⟨h1, h2, h3⟩ := hp
  exact ⟨h1, h2, by simp only; omega⟩
theorem hrT_ng {p : PU} {x : P3} {s t d : Int} (hp : POK p) (hd : 0 ≤ d ∧ d ≤ 3) : hrT (ng p) x s t d = ngp (hrT p x s t d) := by
  rw [ng_w hp]
  unfold hrT
  show (if t - p.2.1 < 1 then _ else out8 _ _ (shs (shG p x s t d) (cutL d.toNat p.1) [])) = _
  split
  · simp [ngp]
  · cases e : shs (shG p x s t d) (cutL d.toNat p.1) [] with
    | inr r => simp [out8, ngp]
    | inl m =>
      obtain ⟨e1, _⟩ := shs_inl e
      rw [List.nil_append] at e1
      have hok := avg_small (cnt_in d) (shG_map p x s t d (cutL d.toNat p.1)) (by rw [List.length_map]; exact cnt_len hd p.1)
      rw [← e1] at hok
      simp only [out8, ngp]
      rw [scl_neg hok.2.1]
theorem scS_inl {l : List PU} {x : P3} {s t d : Int} (h : (scS l x s t d).2 = 0) : ∃ m, shs (fun p => hrT p x s t d) l [] = .inl m ∧ m = l.map (fun c => (hrT c x s t d).1) ∧ (∀ c ∈ l, (hrT c x s t d).2 = 0) ∧ scS l x s t d = (sums m (0, 0), 0) := by
  unfold scS at *
  cases e : shs (fun p => hrT p x s t d) l [] with
  | inr r => rw [e] at h; exact absurd h (shs_inr e)
  | inl m =>
    obtain ⟨e1, e2⟩ := shs_inl e
    rw [List.nil_append] at e1
    exact ⟨m, rfl, e1, e2, rfl⟩
theorem scS_16 {l : List PU} {x : P3} {s t d : Int} (hl : l.length ≤ 16) (hp : ∀ p ∈ l, POK p) (hd : 0 ≤ d ∧ d ≤ 3) : -858993460800 ≤ (sums (l.map fun c => (hrT c x s t d).1) (0, 0)).1 ∧ (sums (l.map fun c => (hrT c x s t d).1) (0, 0)).1 ≤ (sums (l.map fun c => (hrT c x s t d).1) (0, 0)).2 ∧ (sums (l.map fun c => (hrT c x s t d).1) (0, 0)).2 ≤ 858993460800 := by
  have := sums_bw (l := l.map fun c => (hrT c x s t d).1) (v := (0, 0)) (fun a ha => by
    obtain ⟨c, hc, rfl⟩ := List.mem_map.1 ha
    exact hrT_bw (hp c hc) hd) (by simp)
  rw [List.length_map] at this
  simp only at this ⊢
  omega
theorem vpL_of {l : List PU} (hl : l.length ≤ 16) (h : ∀ p ∈ l, POK p) : vpL l = 0 := by
  unfold vpL
  rw [if_neg (by omega)]
  exact fe_0.2 (fun p hp => pv_ok.2 (h p hp))
set_option maxHeartbeats 2000000 in
theorem law_joins (l more : List PU) (x : P3 × Int × Int × Int) : F4_L_L l more x = true := by
  unfold F4_L_L
  rw [sane_t]
  cases h0 : decide (W (((l.length : Nat) : Int) + ((more.length : Nat) : Int)) > 16) with
  | true => rfl
  | false =>
  rw [cond_false]
  cases h1 : (!(F19 x.1 256)) with
  | true => rfl
  | false =>
  rw [cond_false]
  cases h2 : ((F21_L l x.1 x.2.1 x.2.2.1 x.2.2.2).2 != 0) with
  | true => rfl
  | false =>
  rw [cond_false]
  cases h3 : ((F21_L more x.1 x.2.1 x.2.2.1 x.2.2.2).2 != 0) with
  | true => rfl
  | false =>
  rw [cond_false]
  have e2 := bne_eq_false_iff_eq.1 h2
  have e3 := bne_eq_false_iff_eq.1 h3
  simp only [Scene_f] at *
  obtain ⟨v2, a2, s2⟩ := scV_0 e2
  obtain ⟨v3, _, s3⟩ := scV_0 e3
  obtain ⟨k2, p2⟩ := vpL_ok v2
  obtain ⟨k3, p3⟩ := vpL_ok v3
  have h0' := of_decide_eq_false h0
  rw [W_eq (by omega) (by omega)] at h0'
  have p23 : ∀ p ∈ l ++ more, POK p := fun p hp => (List.mem_append.1 hp).elim (p2 p) (p3 p)
  have v23 : vpL (l ++ more) = 0 := vpL_of (by rw [List.length_append]; omega) p23
  rw [s2] at e2
  rw [s3] at e3
  obtain ⟨m2, f2, g2, z2, w2⟩ := scS_inl e2
  obtain ⟨m3, f3, g3, z3, w3⟩ := scS_inl e3
  have hboth : scV (l ++ more) x.1 x.2.1 x.2.2.1 x.2.2.2 = (sums (m2 ++ m3) (0, 0), 0) := by
    rw [scV_w v23 a2]
    unfold scS
    rw [shs_append, f2]
    simp only
    rw [shs_pre z3, ← g3]; rfl
  have b2 := scS_16 (x := x.1) (s := x.2.1) (t := x.2.2.1) k2 p2 a2.2.2.2
  have b3 := scS_16 (x := x.1) (s := x.2.1) (t := x.2.2.1) k3 p3 a2.2.2.2
  have b23 := scS_16 (x := x.1) (s := x.2.1) (t := x.2.2.1) (l := l ++ more) (by rw [List.length_append]; omega) p23 a2.2.2.2
  rw [List.map_append, ← g2, ← g3, sums_app] at b23
  rw [← g2] at b2
  rw [← g3] at b3
  simp only at b23
  have hadd : F7 (sums m2 (0, 0)) (sums m3 (0, 0)) = (((sums m2 (0, 0)).1 + (sums m3 (0, 0)).1, (sums m2 (0, 0)).2 + (sums m3 (0, 0)).2), 0) :=
    add_fs (by unfold vs; omega) (by unfold vs; omega) (by omega) (by omega)
  rw [List.nil_append, hboth, s2, s3, w2, w3, hadd, sums_app]
  simp only [bne_self_eq_false, cond_false, beq_self_eq_true, Bool.and_self, Bool.not_true]
  refine (map_loopF (g := ng) (G := fun m => bif ((F21_L m x.1 x.2.1 x.2.2.1 x.2.2.2).2 == 0) then (bif ((((F21_L m x.1 x.2.1 x.2.2.1 x.2.2.2).1.1 : Int) == W (0 - (sums m2 (0, 0)).2)) && ((((F21_L m x.1 x.2.1 x.2.2.1 x.2.2.2).1.2 : Int) == W (0 - (sums m2 (0, 0)).1)) && true)) then true else false) else false) (L := l) (fun i c hc m => ?_) (fun m => ?_)).trans ?_
  · obtain ⟨hg, hlt⟩ := getD_some hc
    simp only [S4_L_L_0]
    rw [decide_eq_true (show ((i : Nat) : Int) < (l.length : Nat) by omega), cond_true, Int.toNat_natCast, hg]; rfl
  · simp only [S4_L_L_0]
    rw [decide_eq_false (Int.lt_irrefl _), cond_false, sane_t, Scene_f, Scene_f, s2, w2]
    cases hq : ((scV m x.1 x.2.1 x.2.2.1 x.2.2.2).2 == 0) with
    | false => rfl
    | true =>
      rw [cond_true, cond_true]
      cases hr : ((((scV m x.1 x.2.1 x.2.2.1 x.2.2.2).1.1 : Int) == W (0 - (sums m2 (0, 0)).2)) && ((((scV m x.1 x.2.1 x.2.2.1 x.2.2.2).1.2 : Int) == W (0 - (sums m2 (0, 0)).1)) && true)) with
      | false => rfl
      | true => rfl
  · have pn : ∀ p ∈ l.map ng, POK p := fun p hp => by
      obtain ⟨q, hq, rfl⟩ := List.mem_map.1 hp
      exact ng_ok (p2 q hq)
    have vn : vpL (l.map ng) = 0 := vpL_of (by rw [List.length_map]; exact k2) pn
    have hback : scV (l.map ng) x.1 x.2.1 x.2.2.1 x.2.2.2 = ((-(sums m2 (0, 0)).2, -(sums m2 (0, 0)).1), 0) := by
      rw [scV_w vn a2]
      unfold scS
      rw [shs_map (g' := fun p => ngp (hrT p x.1 x.2.1 x.2.2.1 x.2.2.2)) (fun p hp => hrT_ng (p2 p hp) a2.2.2.2), shs_pre (g := fun p => ngp (hrT p x.1 x.2.1 x.2.2.1 x.2.2.2)) (fun c hc => z2 c hc)]
      have hm : (l.map fun c => (ngp (hrT c x.1 x.2.1 x.2.2.1 x.2.2.2)).1) = m2.map fun a => (-a.2, -a.1) := by rw [g2, List.map_map]; rfl
      simp only [out8, List.nil_append]
      rw [hm, sums_neg]
    rw [Scene_f, hback, W_eq (by omega) (by omega), W_eq (by omega) (by omega)]
    simp

open Go.ChangeShapes Go.WideShapes Go.ChangeAt
theorem soundJoins_len6 {l : List Int} (h : l.length = 6) : ∃ a0 a1 a2 a3 a4 a5, l = [a0, a1, a2, a3, a4, a5] := by
  match l, h with
  | [a0, a1, a2, a3, a4, a5], _ => exact ⟨a0, a1, a2, a3, a4, a5, rfl⟩
theorem soundJoins_len11 {l : List Int} (h : l.length = 11) : ∃ a0 a1 a2 a3 a4 a5 a6 a7 a8 a9 a10, l = [a0, a1, a2, a3, a4, a5, a6, a7, a8, a9, a10] := by
  match l, h with
  | [a0, a1, a2, a3, a4, a5, a6, a7, a8, a9, a10], _ => exact ⟨a0, a1, a2, a3, a4, a5, a6, a7, a8, a9, a10, rfl⟩
def soundJoins_mk47 (ns : List Int) : ((Int × Int × Int) × (Int × Int × Int) × Int × Int × Int) × Int × Int := ((((ns.getD 0 0), (ns.getD 1 0), (ns.getD 2 0)), ((ns.getD 3 0), (ns.getD 4 0), (ns.getD 5 0)), ((ns.getD 6 0), (ns.getD 7 0), (ns.getD 8 0))), (ns.getD 9 0), (ns.getD 10 0))
theorem soundJoins_mkc47 (ns : List Int) (h : ns.length = 11) : c47 (soundJoins_mk47 ns) = ns.map iv := by
  obtain ⟨a0, a1, a2, a3, a4, a5, a6, a7, a8, a9, a10, rfl⟩ := soundJoins_len11 h
  rfl
set_option maxRecDepth 100000 in
theorem soundJoins_lifted (os : Os) (started : os.Started) (H : Type) (enc : TypeId × Value → H) :
    ReturnsInHanded {} Try.checked os 4 .any (Rows.soundJoinsSpec.pre6 enc Try.prog Try.f4 Rows.soundJoinsRow.domain false) (Rows.soundJoinsSpec.post enc Try.prog Try.f4 false true false false) := by
  refine returnsInHanded_of_change (C := Try.checked) own started (by kernel_rfl) Try.func4
    (ChangeSpec.witness6 (enc := enc) (C := Try.checked) false ⟨#[], #[.slice none 0 0, .slice none 0 0, .agg #[.int .i64 0, .int .i64 0, .int .i64 0, .int .i64 0, .int .i64 0, .int .i64 0]], []⟩ 8 (by kernel_rfl) (by kernel_rfl) (by kernel_rfl) (by kernel_rfl)) ?_
  intro W base args ds gs before hval0 hW hcnd _
  have hval : ∀ (j : Nat) t v, Try.f4.params[j]? = some t → args[j]? = some v → Value.okWide Try.prog W .any base t v := hval0
  have hW' := hW
  obtain ⟨p, q, hA0, hV, rfl, hfz, hnd⟩ := hW
  have hA : DataW.TrodAll enc Try.prog W 0 (fun _ => true) true Try.f4.params.toList args.toList ds p := hA0
  rw [Try.params4] at hA hval
  obtain ⟨v0, vs0, d0, ds0, p0, q0, hargs, rfl, rfl, h0, r0⟩ := trodAll_cons hA
  obtain ⟨v1, vs1, d1, ds1, p1, q1, rfl, rfl, rfl, h1, r1⟩ := trodAll_cons r0
  obtain ⟨v2, vs2, d2, ds2, p2, q2, rfl, rfl, rfl, h2, r2⟩ := trodAll_cons r1
  obtain ⟨rfl, rfl, rfl⟩ := trodAll_nil r2
  obtain rfl : args = #[v0, v1, v2] := by cases args; simp_all
  obtain ⟨rfl, rfl⟩ := trodVars_none hV
  obtain ⟨⟨nss0, s0⟩, b0⟩ := open_list Try.underlying36 (by kernel_rfl) (show Try.prog.cellsOf 47 = 11 from by kernel_rfl) (hval 0 36 v0 rfl rfl) h0
  obtain ⟨⟨nss1, s1⟩, b1⟩ := open_list Try.underlying36 (by kernel_rfl) (show Try.prog.cellsOf 47 = 11 from by kernel_rfl) (hval 1 36 v1 rfl rfl) h1
  obtain ⟨rfl, ns2, rfl, l2⟩ := open_flat Try.underlying40 (by kernel_rfl) (hval 2 40 v2 rfl rfl) h2
  rw [show Try.prog.cellsOf 40 = 6 from by kernel_rfl] at l2
  obtain ⟨x2_0, x2_1, x2_2, x2_3, x2_4, x2_5, rfl⟩ := soundJoins_len6 l2
  clear hA0 hval0 hval hA
  simp only [List.append_nil, List.nil_append] at hW'
  have hC : Con Try.prog 4 [.s 0 0 nss0.length 11, .s 1 0 nss1.length 11, .a ([x2_0, x2_1, x2_2, x2_3, x2_4, x2_5].map iv)] [.live false true ((nss0.flatten).map iv), .live false true ((nss1.flatten).map iv)] (.v (.bool true)) [] := by
    have h := C4_L_L (nss0.map soundJoins_mk47) (nss1.map soundJoins_mk47) ((x2_0, x2_1, x2_2), x2_3, x2_4, x2_5) (by rw [List.length_map]; exact s0.2.1) (by rw [List.length_map]; exact s1.2.1)
    rw [law_joins, flat_mk soundJoins_mkc47 s0.1, flat_mk soundJoins_mkc47 s1.1] at h
    simp only [List.length_map] at h
    exact h
  refine (law_calls2 (vs := [v0, v1, .agg ([x2_0, x2_1, x2_2, x2_3, x2_4, x2_5].map (Value.int .i64)).toArray]) hC s0 s1 ⟨slice_rel s0 rfl, slice_rel s1 rfl, rel_agg [x2_0, x2_1, x2_2, x2_3, x2_4, x2_5], trivial⟩).mono fun e W' ⟨he, hb⟩ => ?_
  subst he
  have hargs2 := (all_mk (Below.trod laidOut (by kernel_rfl) (of_decide_eq_true (by kernel_rfl)) h0 hb b0) (all_mk (Below.trod laidOut (by kernel_rfl) (of_decide_eq_true (by kernel_rfl)) h1 hb b1) (all_mk (Below.trod laidOut (by kernel_rfl) (of_decide_eq_true (by kernel_rfl)) h2 hb (fun x hx => by cases hx)) trodAll_mk0)))
  simp only [List.append_nil, List.nil_append] at hargs2
  exact ⟨_, rfl, post_below hW' hb (fun _ _ _ => (all_mk (shut_bool Try.underlying4 _) trodAll_mk0)) hargs2 rfl⟩
theorem soundJoins_over : Rows.soundJoinsRow.holds Try.pinned (OpenSpec.ofChange Rows.soundJoinsSpec) :=
  OpenClaim.holds_of_wide 4 Try.f4 rfl rfl rfl rfl rfl rfl rfl ⟨rfl, rfl, rfl, rfl, rfl⟩ rfl rfl rfl rfl rfl (by kernel_rfl) Try.func4 (by kernel_rfl)
    (of_decide_eq_true (by kernel_rfl)) (by unfold Func.isWrapper; first | (rw [if_pos (by decide +kernel)]; kernel_rfl) | (rw [if_neg (by decide +kernel)]; exact ⟨rfl, rfl⟩))
    (fun os started H enc _ => soundJoins_lifted os started H enc)
/-- THE STATEMENT -/
theorem soundJoins_proved : Rows.SoundJoinsSaid :=
  soundJoins_over

end Go.Proofs.Ytidhogejnafhaaa
