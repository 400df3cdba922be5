/-
  Parts of the proofs of the laws: the executor, what functions of the program compute, and that it is what the statements ask. No premise.
-/
import Derived.Test.YtnbpiejjeeomkaaVPsv4
open Int (toNat)
namespace Go.Proofs.Ytnbpiejjeeomkaa
open Go.Proofs Go.Aw Go.RowKit
set_option maxRecDepth 100000
set_option linter.unusedVariables false
set_option linter.unusedSimpArgs false

noncomputable def B76_L_1 : Code := (loopAtD [1, 1, 0, 1, 0, 1, 1, 0, 1, 1, 0, 1] [0] (bodyOf Try.f76) []).1
noncomputable def K76_L_1 (m0 : Nat) : List K := (loopAtD [1, 1, 0, 1, 0, 1, 1, 0, 1, 1, 0, 1] [m0] (bodyOf Try.f76) []).2

def st76_L_1 (a0 : TyL × Int × List (Int) × TyN) (a1 : List (Int)) (v15 : Int) (v16 : Int) (v17 : Int) (v18 : Int) (v19 : Int) (v20 : Int) (v21 : Int) : LS := ⟨slN 59 [(0, (.p 0 0)), (1, (.s 4 0 a1.length 1)), (4, (.p 5 0)), (5, (iv v15)), (6, (iv v16)), (7, (iv v17)), (8, (iv v18)), (9, (iv v19)), (12, (iv v20)), (27, (.s 4 0 a1.length 1)), (28, (iv ((a1.length : Nat) : Int))), (29, (iv v21))], [(.live false false [(.s 1 0 a0.1.length 10), (iv a0.2.1), (.s 2 0 a0.2.2.1.length 1), (.s 3 0 a0.2.2.2.length 8)]), (.live false true (flat c81 a0.1)), (.live false true (flat c3 a0.2.2.1)), (.live false true (flat c40 a0.2.2.2)), (.live false true (flat c3 a1)), (.live true false [(.v (.pointer none)), (iv 0)])]⟩

def S76_L_1 (a0 : TyL × Int × List (Int) × TyN) (a1 : List (Int)) : Int × Int × Int × Int × Int × Int × Int → (Int × Int × Int × Int × Int × Int × Int) ⊕ ((Int × Int × Int) ⊕ TyS)
  | (v15, v16, v17, v18, v19, v20, v21) =>
   (bif (decide ((v21 : Int) < ((a1.length : Nat) : Int))) then
    (.inl (v15, v16, v17, (if ((F95 (a0.1, a0.2.1, (a0.2.2.1, a0.2.2.2)) (a1.getD (toNat v21) default) v17) : Int) < v18 then (F95 (a0.1, a0.2.1, (a0.2.2.1, a0.2.2.2)) (a1.getD (toNat v21) default) v17) else v18), (if (v19 : Int) < (F95 (a0.1, a0.2.1, (a0.2.2.1, a0.2.2.2)) (a1.getD (toNat v21) default) v17) then (F95 (a0.1, a0.2.1, (a0.2.2.1, a0.2.2.2)) (a1.getD (toNat v21) default) v17) else v19), v20, (v21 + 1)))
   else
    (bif (decide (((W (v19 - v18)) : Int) > v16)) then
     (.inr (.inl (v17, (W (v19 - v18)), (v20 + 1))))
    else
     (.inr (.inl (v15, v16, (v20 + 1))))))

noncomputable def B76_L_0 : Code := (loopAtD [1, 1, 0, 1] [] (bodyOf Try.f76) []).1
noncomputable def K76_L_0 : List K := (loopAtD [1, 1, 0, 1] [] (bodyOf Try.f76) []).2

def st76_L_0 (a0 : TyL × Int × List (Int) × TyN) (a1 : List (Int)) (v12 : Int) (v13 : Int) (v14 : Int) : LS := ⟨slN 59 [(0, (.p 0 0)), (1, (.s 4 0 a1.length 1)), (4, (.p 5 0)), (5, (iv v12)), (6, (iv v13)), (12, (iv v14))], [(.live false false [(.s 1 0 a0.1.length 10), (iv a0.2.1), (.s 2 0 a0.2.2.1.length 1), (.s 3 0 a0.2.2.2.length 8)]), (.live false true (flat c81 a0.1)), (.live false true (flat c3 a0.2.2.1)), (.live false true (flat c40 a0.2.2.2)), (.live false true (flat c3 a1)), (.live true false [(.v (.pointer none)), (iv 0)])]⟩

def S76_L_0 (a0 : TyL × Int × List (Int) × TyN) (a1 : List (Int)) : Int × Int × Int → (Int × Int × Int) ⊕ TyS
  | (v12, v13, v14) =>
   (bif (decide ((v14 : Int) < 3)) then
    (loopF (S76_L_1 a0 a1) (toNat (((a1.length : Nat) : Int) - 0) + 1) (v12, v13, v14, (F95 (a0.1, a0.2.1, (a0.2.2.1, a0.2.2.2)) (a1.getD (toNat 0) default) v14), (F95 (a0.1, a0.2.1, (a0.2.2.1, a0.2.2.2)) (a1.getD (toNat 0) default) v14), v14, 0))
   else
    (.inr ((a0.1, a0.2.1, (a0.2.2.1, a0.2.2.2)), v12)))

set_option maxHeartbeats 4000000 in
theorem L76_L_1 (a0 : TyL × Int × List (Int) × TyN) (a1 : List (Int)) (l0_1 : a0.1.length ≤ 9223372036854775807) (l0_2_2_1 : a0.2.2.1.length ≤ 9223372036854775807) (l0_2_2_2 : a0.2.2.2.length ≤ 9223372036854775807) (l1 : a1.length ≤ 9223372036854775807) (hir : InR a0.1.length a1) (hl : 1 ≤ a1.length ∧ a1.length ≤ 1048576) {cx : Cx} (hcx : cx.base = 5)
    (n0 : Nat) (g0 : ∀ (v12 : Int) (v13 : Int) (v14 : Int), (0 ≤ v14) ∧ (v14 ≤ 3) → toNat (3 - v14) < n0 → Aw.Good Try.prog none 9 (bodyPost Try.prog Try.f76 (RR cx (.a [(.p 0 0), (iv (loopF (S76_L_0 a0 a1) n0 (v12, v13, v14)).2)]) [] [])) cx [] (.l B76_L_0 n0 :: K76_L_0) (st76_L_0 a0 a1 v12 v13 v14)) : ∀ (n : Nat) (v15 : Int) (v16 : Int) (v17 : Int) (v18 : Int) (v19 : Int) (v20 : Int) (v21 : Int), (0 ≤ v21) ∧ (v21 ≤ a1.length) ∧ ((0 ≤ v20)) ∧ ((v20 ≤ 3)) ∧ (v20 < 3) ∧ (toNat (3 - v20) < n0 + 1) → toNat (((a1.length : Nat) : Int) - v21) < n → Aw.Good Try.prog none 9 (bodyPost Try.prog Try.f76 (RR cx (.a [(.p 0 0), (iv (thenF (S76_L_0 a0 a1) n0 (loopF (S76_L_1 a0 a1) n (v15, v16, v17, v18, v19, v20, v21))).2)]) [] [])) cx [] (.l B76_L_1 n :: K76_L_1 n0) (st76_L_1 a0 a1 v15 v16 v17 v18 v19 v20 v21) := by
  intro n
  induction n with
  | zero => intro v15 v16 v17 v18 v19 v20 v21 hi hn; exact absurd hn (Nat.not_lt_zero _)
  | succ n ih =>
    intro v15 v16 v17 v18 v19 v20 v21 hi hn
    refine good_round ?_
    try have hr1 := hir.at (i := toNat v21) (by have _ := h0; omega)
    cases h0 : (decide ((v21 : Int) < ((a1.length : Nat) : Int))) with
    | true =>
     have q0 := of_decide_eq_true h0
     try have hr1 := hir.at (i := toNat v21) (by have _ := h0; omega)
     have e := Eq.refl (S76_L_1 a0 a1 (v15, v16, v17, v18, v19, v20, v21)); conv at e => rhs; simp only [S76_L_1, h0, cond_true, cond_false]
     rw [loopF_inl e]
     refine ba [.d h0, .i v21 (a1.length), .L c3_len a1 v21 0 1, .c [0, 1, 2, 3] (C95 (a0.1, a0.2.1, (a0.2.2.1, a0.2.2.2)) (a1.getD (toNat v21) default) v17 (by (try simp only [Lt]); omega) (by (try simp only [Lt]); omega) (by (try simp only [Lt]); omega) (by (try simp only [Lt]); omega)), .c [0, 1, 2, 3] (C95 (a0.1, a0.2.1, (a0.2.2.1, a0.2.2.2)) (a1.getD (toNat v21) default) v17 (by (try simp only [Lt]); omega) (by (try simp only [Lt]); omega) (by (try simp only [Lt]); omega) (by (try simp only [Lt]); omega))] [] [0, 1, 4, 5, 6, 7, 8, 9, 12, 27, 28, 29] [5] hcx (m := n) B76_L_1 (K76_L_1 n0) (st76_L_1 a0 a1 v15 v16 v17 (if ((F95 (a0.1, a0.2.1, (a0.2.2.1, a0.2.2.2)) (a1.getD (toNat v21) default) v17) : Int) < v18 then (F95 (a0.1, a0.2.1, (a0.2.2.1, a0.2.2.2)) (a1.getD (toNat v21) default) v17) else v18) (if (v19 : Int) < (F95 (a0.1, a0.2.1, (a0.2.2.1, a0.2.2.2)) (a1.getD (toNat v21) default) v17) then (F95 (a0.1, a0.2.1, (a0.2.2.1, a0.2.2.2)) (a1.getD (toNat v21) default) v17) else v19) v20 (W (v21 + 1))) (by kernel_rfl) ?_
     have z0 : (W (v21 + 1)) = (v21 + 1) := W_eq (by omega) (by omega)
     rw [z0]
     exact ih v15 v16 v17 (if ((F95 (a0.1, a0.2.1, (a0.2.2.1, a0.2.2.2)) (a1.getD (toNat v21) default) v17) : Int) < v18 then (F95 (a0.1, a0.2.1, (a0.2.2.1, a0.2.2.2)) (a1.getD (toNat v21) default) v17) else v18) (if (v19 : Int) < (F95 (a0.1, a0.2.1, (a0.2.2.1, a0.2.2.2)) (a1.getD (toNat v21) default) v17) then (F95 (a0.1, a0.2.1, (a0.2.2.1, a0.2.2.2)) (a1.getD (toNat v21) default) v17) else v19) v20 (v21 + 1) (by refine ⟨?_, ?_, ?_, ?_, ?_, ?_⟩ <;> (try simp only [Ls]) <;> first | omega | assumption | exact hi.2.1 | exact hi.2.2.1 | exact hi.2.2.2.1 | exact hi.2.2.2.2.1 | exact hi.2.2.2.2.2.1 | simp) (by (try simp only [Ls]); omega)
    | false =>
     have q0 := of_decide_eq_false h0
     try have hr1 := hir.at (i := toNat v21) (by have _ := h0; omega)
     let t1 : List (St Try.prog) := [.d h0]
     cases h1 : (decide (((W (v19 - v18)) : Int) > v16)) with
     | true =>
      have q1 := of_decide_eq_true h1
      try have hr1 := hir.at (i := toNat v21) (by have _ := h0; omega)
      have e := Eq.refl (S76_L_1 a0 a1 (v15, v16, v17, v18, v19, v20, v21)); conv at e => rhs; simp only [S76_L_1, h0, h1, cond_true, cond_false]
      rw [loopF_s, e]
      refine ba (t1 ++ [.d h1]) [] [0, 1, 4, 5, 6, 12] [5] hcx (m := n0) B76_L_0 (K76_L_0) (st76_L_0 a0 a1 v17 (W (v19 - v18)) (W (v20 + 1))) (by kernel_rfl) ?_
      have z0 : (W (v20 + 1)) = (v20 + 1) := W_eq (by omega) (by omega)
      rw [z0]
      exact g0 v17 (W (v19 - v18)) (v20 + 1) (by refine ⟨?_, ?_⟩ <;> (try simp only [Ls]) <;> first | omega | assumption | simp) (by (try simp only [Ls]); omega)
     | false =>
      have q1 := of_decide_eq_false h1
      try have hr1 := hir.at (i := toNat v21) (by have _ := h0; omega)
      have e := Eq.refl (S76_L_1 a0 a1 (v15, v16, v17, v18, v19, v20, v21)); conv at e => rhs; simp only [S76_L_1, h0, h1, cond_true, cond_false]
      rw [loopF_s, e]
      refine ba (t1 ++ [.d h1]) [] [0, 1, 4, 5, 6, 12] [5] hcx (m := n0) B76_L_0 (K76_L_0) (st76_L_0 a0 a1 v15 v16 (W (v20 + 1))) (by kernel_rfl) ?_
      have z0 : (W (v20 + 1)) = (v20 + 1) := W_eq (by omega) (by omega)
      rw [z0]
      exact g0 v15 v16 (v20 + 1) (by refine ⟨?_, ?_⟩ <;> (try simp only [Ls]) <;> first | omega | assumption | simp) (by (try simp only [Ls]); omega)

set_option maxHeartbeats 4000000 in
theorem L76_L_0 (a0 : TyL × Int × List (Int) × TyN) (a1 : List (Int)) (l0_1 : a0.1.length ≤ 9223372036854775807) (l0_2_2_1 : a0.2.2.1.length ≤ 9223372036854775807) (l0_2_2_2 : a0.2.2.2.length ≤ 9223372036854775807) (l1 : a1.length ≤ 9223372036854775807) (hir : InR a0.1.length a1) (hl : 1 ≤ a1.length ∧ a1.length ≤ 1048576) {cx : Cx} (hcx : cx.base = 5) : ∀ (n : Nat) (v12 : Int) (v13 : Int) (v14 : Int), (0 ≤ v14) ∧ (v14 ≤ 3) → toNat (3 - v14) < n → Aw.Good Try.prog none 9 (bodyPost Try.prog Try.f76 (RR cx (.a [(.p 0 0), (iv (loopF (S76_L_0 a0 a1) n (v12, v13, v14)).2)]) [] [])) cx [] (.l B76_L_0 n :: K76_L_0) (st76_L_0 a0 a1 v12 v13 v14) := by
  intro n
  induction n with
  | zero => intro v12 v13 v14 hi hn; exact absurd hn (Nat.not_lt_zero _)
  | succ n ih =>
    intro v12 v13 v14 hi hn
    refine good_round ?_
    have hr0 := hir.at (i := 0) (by omega)
    cases h0 : (decide ((v14 : Int) < 3)) with
    | true =>
     have q0 := of_decide_eq_true h0
     have e := Eq.refl (S76_L_0 a0 a1 (v12, v13, v14)); conv at e => rhs; simp only [S76_L_0, h0, cond_true, cond_false]
     rw [loopF_s, e]
     refine en [.d h0, .i 0 (a1.length), .L c3_len a1 0 0 1, .c [0, 1, 2, 3] (C95 (a0.1, a0.2.1, (a0.2.2.1, a0.2.2.2)) (a1.getD (toNat 0) default) v14 (by (try simp only [Lt]); omega) (by (try simp only [Lt]); omega) (by (try simp only [Lt]); omega) (by (try simp only [Lt]); omega)), .i 0 (a1.length), .L c3_len a1 0 0 1, .c [0, 1, 2, 3] (C95 (a0.1, a0.2.1, (a0.2.2.1, a0.2.2.2)) (a1.getD (toNat 0) default) v14 (by (try simp only [Lt]); omega) (by (try simp only [Lt]); omega) (by (try simp only [Lt]); omega) (by (try simp only [Lt]); omega))] [] [0, 1, 4, 5, 6, 7, 8, 9, 12, 27, 28, 29] [5] hcx B76_L_1 (K76_L_1 n) (st76_L_1 a0 a1 v12 v13 v14 (F95 (a0.1, a0.2.1, (a0.2.2.1, a0.2.2.2)) (a1.getD (toNat 0) default) v14) (F95 (a0.1, a0.2.1, (a0.2.2.1, a0.2.2.2)) (a1.getD (toNat 0) default) v14) v14 0) (toNat (((a1.length : Nat) : Int) - 0) + 1) (by kernel_rfl) ?_
     exact L76_L_1 a0 a1 l0_1 l0_2_2_1 l0_2_2_2 l1 hir hl hcx n ih (toNat (((a1.length : Nat) : Int) - 0) + 1) v12 v13 v14 (F95 (a0.1, a0.2.1, (a0.2.2.1, a0.2.2.2)) (a1.getD (toNat 0) default) v14) (F95 (a0.1, a0.2.1, (a0.2.2.1, a0.2.2.2)) (a1.getD (toNat 0) default) v14) v14 0 (by refine ⟨?_, ?_, ?_, ?_, ?_, ?_⟩ <;> (try simp only [Ls]) <;> first | omega | assumption | exact hi.2.1 | exact hi.2.2.1 | exact hi.2.2.2.1 | exact hi.2.2.2.2.1 | exact hi.2.2.2.2.2.1 | simp) (by (try simp only [Ls]); omega)
    | false =>
     have q0 := of_decide_eq_false h0
     have e := Eq.refl (S76_L_0 a0 a1 (v12, v13, v14)); conv at e => rhs; simp only [S76_L_0, h0, cond_true, cond_false]
     rw [loopF_s, e]
     exact rt [.d h0] [] [] hcx (by kernel_rfl)

def F76_L (a0 : TyL × Int × List (Int) × TyN) (a1 : List (Int)) : TyB × Int :=
  (loopF (S76_L_0 a0 a1) (toNat (3 - 0) + 1) (0, (-1), 0))

theorem C76_L (a0 : TyL × Int × List (Int) × TyN) (a1 : List (Int)) (l0_1 : a0.1.length ≤ 9223372036854775807) (l0_2_2_1 : a0.2.2.1.length ≤ 9223372036854775807) (l0_2_2_2 : a0.2.2.2.length ≤ 9223372036854775807) (l1 : a1.length ≤ 9223372036854775807) (hir : InR a0.1.length a1) (hl : 1 ≤ a1.length ∧ a1.length ≤ 1048576) : Con Try.prog 76 [(.p 0 0), (.s 4 0 a1.length 1)] [(.live false false [(.s 1 0 a0.1.length 10), (iv a0.2.1), (.s 2 0 a0.2.2.1.length 1), (.s 3 0 a0.2.2.2.length 8)]), (.live false true (flat c81 a0.1)), (.live false true (flat c3 a0.2.2.1)), (.live false true (flat c40 a0.2.2.2)), (.live false true (flat c3 a1))] (.a [(.p 0 0), (iv (F76_L a0 a1).2)]) [] := by
  refine con_s Try.func76 (by kernel_rfl) fun cx hcx => ?_
  have e := Eq.refl (F76_L a0 a1); conv at e => rhs; simp only [F76_L]
  rw [e]
  refine en [] [] [0, 1, 4, 5, 6, 12] [5] hcx B76_L_0 (K76_L_0) (st76_L_0 a0 a1 0 (-1) 0) (toNat (3 - 0) + 1) (by kernel_rfl) ?_
  exact L76_L_0 a0 a1 l0_1 l0_2_2_1 l0_2_2_2 l1 hir hl hcx (toNat (3 - 0) + 1) 0 (-1) 0 (by refine ⟨?_, ?_⟩ <;> (try simp only [Ls]) <;> first | omega | assumption | simp) (by (try simp only [Ls]); omega)


abbrev BU := (List ((((Int × Int × Int) × (Int × Int × Int) × Int × Int × Int) × Int))) × Int × List Int × TyN
structure PADD (b : BU) (i k : Int) : Prop where
  inr : InR b.1.length b.2.2.1
  rng : 0 ≤ i ∧ i < k ∧ k ≤ b.2.2.1.length ∧ b.2.2.1.length ≤ 1048576
  nds : b.2.2.2.length + 2 * (k - i) ≤ 4194304
  lf : 1 ≤ b.2.1
theorem InR.part {n : Nat} {l : List Int} (h : InR n l) (a b : Int) : InR n (Aw.part l a b) := fun x hx => h x (List.mem_of_mem_drop (List.mem_of_mem_take hx))
theorem mem_loop {a0 : TyL} {a1 : List Int} : ∀ (d i n : Nat) (m : TyL), d = a1.length - i → i ≤ a1.length → d < n →
    loopF (S72_L_L_0 a0 a1) n (m, (i : Int)) = m ++ (a1.drop i).map (fun a => a0.getD (toNat a) default)
  | 0, i, n, m, hd, hi, hn => by
    obtain ⟨n, rfl⟩ : ∃ m, n = m + 1 := ⟨n - 1, by omega⟩
    have : i = a1.length := by omega
    subst this
    have e : S72_L_L_0 a0 a1 (m, ((a1.length : Nat) : Int)) = .inr m := by
      simp only [S72_L_L_0]; rw [decide_eq_false (Int.lt_irrefl _), cond_false]
    rw [loopF_inr e]; simp
  | d + 1, i, n, m, hd, hi, hn => by
    obtain ⟨n, rfl⟩ : ∃ m, n = m + 1 := ⟨n - 1, by omega⟩
    have e : S72_L_L_0 a0 a1 (m, (i : Int)) = .inl (m ++ [a0.getD (toNat (a1.getD i default)) default], ((i + 1 : Nat) : Int)) := by
      simp only [S72_L_L_0]
      rw [decide_eq_true (show ((i : Nat) : Int) < (a1.length : Nat) by omega), cond_true, Int.toNat_natCast]; rfl
    rw [loopF_inl e, mem_loop d (i + 1) n _ (by omega) (by omega) (by omega), List.drop_eq_getElem_cons (show i < a1.length by omega), List.map_cons]
    simp [List.getD_eq_getElem?_getD, List.getElem?_eq_getElem (show i < a1.length by omega)]
theorem mem_eq (a0 : TyL) (a1 : List Int) : F72_L_L a0 a1 = a1.map (fun a => a0.getD (toNat a) default) := by
  have := mem_loop (a0 := a0) (a1 := a1) a1.length 0 (toNat (((a1.length : Nat) : Int) - 0) + 1) [] (by omega) (by omega) (by omega)
  exact this
theorem mem_len (a0 : TyL) (a1 : List Int) : (F72_L_L a0 a1).length = a1.length := by rw [mem_eq]; simp
theorem srt_in {N : Nat} {l : List Int} {o m : Nat} {c : BU × Int} (hw : o + m ≤ l.length ∧ l.length ≤ 1048576) (hi : InR N l) : (F75_W_b77 l o m c).length = l.length ∧ InR N (F75_W_b77 l o m c) :=
  pdq_inv _ hw hi (by omega) (by omega)
theorem mid_eq {i k : Int} (h : 0 ≤ i ∧ i < k ∧ k ≤ 1048576) : (W (i + (W (Int.tdiv (W ((W (k - i)) + 1)) 2)))) = i + (k - i + 1) / 2 := by
  rw [W_eq (n := k - i) (by omega) (by omega), W_eq (n := k - i + 1) (by omega) (by omega), Int.tdiv_eq_ediv_of_nonneg (by omega), W_eq (n := (k - i + 1) / 2) (by omega) (by omega), W_eq (by omega) (by omega)]

def A57_1 (a0 : TyL × Int × List (Int) × TyN) (a1 : Int) (a2 : Int) := (F72_L_L a0.1 (Aw.part (a0.2.2.1) a1 a2))

def A57_2 (a0 : TyL × Int × List (Int) × TyN) (a1 : Int) (a2 : Int) := (F74_L (A57_1 a0 a1 a2) (F73_L (A57_1 a0 a1 a2)))

def A57_3 (a0 : TyL × Int × List (Int) × TyN) (a1 : Int) (a2 : Int) := (F76_L (a0.1, a0.2.1, (a0.2.2.1, (a0.2.2.2 ++ [(a1, a2, (-1), (-1), (F73_L (A57_1 a0 a1 a2)), (A57_2 a0 a1 a2).1)]))) (Aw.part (a0.2.2.1) a1 a2))

def A57_4 (a0 : TyL × Int × List (Int) × TyN) (a1 : Int) (a2 : Int) := (F75_W_b77 (a0.2.2.1) (toNat a1) (toNat a2 - toNat a1) ((a0.1, a0.2.1, (a0.2.2.1, (a0.2.2.2 ++ [(a1, a2, (-1), (-1), (F73_L (A57_1 a0 a1 a2)), (A57_2 a0 a1 a2).1)]))), (A57_3 a0 a1 a2).2))

def A57_5 (rr : TyB → (Int) → (Int) → Int × TyL × Int × List (Int) × TyN) (a0 : TyL × Int × List (Int) × TyN) (a1 : Int) (a2 : Int) := (rr (a0.1, a0.2.1, ((A57_4 a0 a1 a2), (a0.2.2.2 ++ [(a1, a2, (-1), (-1), (F73_L (A57_1 a0 a1 a2)), (A57_2 a0 a1 a2).1)]))) a1 (W (a1 + (W (Int.tdiv (W ((W (a2 - a1)) + 1)) 2)))))

def A57_6 (rr : TyB → (Int) → (Int) → Int × TyL × Int × List (Int) × TyN) (a0 : TyL × Int × List (Int) × TyN) (a1 : Int) (a2 : Int) := (rr (a0.1, (A57_5 (rr) a0 a1 a2).2.2.1, ((A57_5 (rr) a0 a1 a2).2.2.2.1, (A57_5 (rr) a0 a1 a2).2.2.2.2)) (W (a1 + (W (Int.tdiv (W ((W (a2 - a1)) + 1)) 2)))) a2)

def R57 : Nat → TyB → (Int) → (Int) → Int × TyL × Int × List (Int) × TyN
  | 0, _, _, _ => default
  | nr + 1, a0, a1, a2 =>
  (bif (decide (((W (a2 - a1)) : Int) > a0.2.1)) then
   (((a0.2.2.2.length : Nat) : Int), (a0.1, (A57_6 (R57 nr) a0 a1 a2).2.2.1, ((A57_6 (R57 nr) a0 a1 a2).2.2.2.1, (((A57_6 (R57 nr) a0 a1 a2).2.2.2.2.set (toNat ((a0.2.2.2.length : Nat) : Int)) (((A57_6 (R57 nr) a0 a1 a2).2.2.2.2.getD (toNat ((a0.2.2.2.length : Nat) : Int)) default).1, ((A57_6 (R57 nr) a0 a1 a2).2.2.2.2.getD (toNat ((a0.2.2.2.length : Nat) : Int)) default).2.1, (A57_5 (R57 nr) a0 a1 a2).1, ((A57_6 (R57 nr) a0 a1 a2).2.2.2.2.getD (toNat ((a0.2.2.2.length : Nat) : Int)) default).2.2.2.1, ((A57_6 (R57 nr) a0 a1 a2).2.2.2.2.getD (toNat ((a0.2.2.2.length : Nat) : Int)) default).2.2.2.2.1, ((A57_6 (R57 nr) a0 a1 a2).2.2.2.2.getD (toNat ((a0.2.2.2.length : Nat) : Int)) default).2.2.2.2.2)).set (toNat ((a0.2.2.2.length : Nat) : Int)) ((((A57_6 (R57 nr) a0 a1 a2).2.2.2.2.set (toNat ((a0.2.2.2.length : Nat) : Int)) (((A57_6 (R57 nr) a0 a1 a2).2.2.2.2.getD (toNat ((a0.2.2.2.length : Nat) : Int)) default).1, ((A57_6 (R57 nr) a0 a1 a2).2.2.2.2.getD (toNat ((a0.2.2.2.length : Nat) : Int)) default).2.1, (A57_5 (R57 nr) a0 a1 a2).1, ((A57_6 (R57 nr) a0 a1 a2).2.2.2.2.getD (toNat ((a0.2.2.2.length : Nat) : Int)) default).2.2.2.1, ((A57_6 (R57 nr) a0 a1 a2).2.2.2.2.getD (toNat ((a0.2.2.2.length : Nat) : Int)) default).2.2.2.2.1, ((A57_6 (R57 nr) a0 a1 a2).2.2.2.2.getD (toNat ((a0.2.2.2.length : Nat) : Int)) default).2.2.2.2.2)).getD (toNat ((a0.2.2.2.length : Nat) : Int)) default).1, (((A57_6 (R57 nr) a0 a1 a2).2.2.2.2.set (toNat ((a0.2.2.2.length : Nat) : Int)) (((A57_6 (R57 nr) a0 a1 a2).2.2.2.2.getD (toNat ((a0.2.2.2.length : Nat) : Int)) default).1, ((A57_6 (R57 nr) a0 a1 a2).2.2.2.2.getD (toNat ((a0.2.2.2.length : Nat) : Int)) default).2.1, (A57_5 (R57 nr) a0 a1 a2).1, ((A57_6 (R57 nr) a0 a1 a2).2.2.2.2.getD (toNat ((a0.2.2.2.length : Nat) : Int)) default).2.2.2.1, ((A57_6 (R57 nr) a0 a1 a2).2.2.2.2.getD (toNat ((a0.2.2.2.length : Nat) : Int)) default).2.2.2.2.1, ((A57_6 (R57 nr) a0 a1 a2).2.2.2.2.getD (toNat ((a0.2.2.2.length : Nat) : Int)) default).2.2.2.2.2)).getD (toNat ((a0.2.2.2.length : Nat) : Int)) default).2.1, (((A57_6 (R57 nr) a0 a1 a2).2.2.2.2.set (toNat ((a0.2.2.2.length : Nat) : Int)) (((A57_6 (R57 nr) a0 a1 a2).2.2.2.2.getD (toNat ((a0.2.2.2.length : Nat) : Int)) default).1, ((A57_6 (R57 nr) a0 a1 a2).2.2.2.2.getD (toNat ((a0.2.2.2.length : Nat) : Int)) default).2.1, (A57_5 (R57 nr) a0 a1 a2).1, ((A57_6 (R57 nr) a0 a1 a2).2.2.2.2.getD (toNat ((a0.2.2.2.length : Nat) : Int)) default).2.2.2.1, ((A57_6 (R57 nr) a0 a1 a2).2.2.2.2.getD (toNat ((a0.2.2.2.length : Nat) : Int)) default).2.2.2.2.1, ((A57_6 (R57 nr) a0 a1 a2).2.2.2.2.getD (toNat ((a0.2.2.2.length : Nat) : Int)) default).2.2.2.2.2)).getD (toNat ((a0.2.2.2.length : Nat) : Int)) default).2.2.1, (A57_6 (R57 nr) a0 a1 a2).1, (((A57_6 (R57 nr) a0 a1 a2).2.2.2.2.set (toNat ((a0.2.2.2.length : Nat) : Int)) (((A57_6 (R57 nr) a0 a1 a2).2.2.2.2.getD (toNat ((a0.2.2.2.length : Nat) : Int)) default).1, ((A57_6 (R57 nr) a0 a1 a2).2.2.2.2.getD (toNat ((a0.2.2.2.length : Nat) : Int)) default).2.1, (A57_5 (R57 nr) a0 a1 a2).1, ((A57_6 (R57 nr) a0 a1 a2).2.2.2.2.getD (toNat ((a0.2.2.2.length : Nat) : Int)) default).2.2.2.1, ((A57_6 (R57 nr) a0 a1 a2).2.2.2.2.getD (toNat ((a0.2.2.2.length : Nat) : Int)) default).2.2.2.2.1, ((A57_6 (R57 nr) a0 a1 a2).2.2.2.2.getD (toNat ((a0.2.2.2.length : Nat) : Int)) default).2.2.2.2.2)).getD (toNat ((a0.2.2.2.length : Nat) : Int)) default).2.2.2.2.1, (((A57_6 (R57 nr) a0 a1 a2).2.2.2.2.set (toNat ((a0.2.2.2.length : Nat) : Int)) (((A57_6 (R57 nr) a0 a1 a2).2.2.2.2.getD (toNat ((a0.2.2.2.length : Nat) : Int)) default).1, ((A57_6 (R57 nr) a0 a1 a2).2.2.2.2.getD (toNat ((a0.2.2.2.length : Nat) : Int)) default).2.1, (A57_5 (R57 nr) a0 a1 a2).1, ((A57_6 (R57 nr) a0 a1 a2).2.2.2.2.getD (toNat ((a0.2.2.2.length : Nat) : Int)) default).2.2.2.1, ((A57_6 (R57 nr) a0 a1 a2).2.2.2.2.getD (toNat ((a0.2.2.2.length : Nat) : Int)) default).2.2.2.2.1, ((A57_6 (R57 nr) a0 a1 a2).2.2.2.2.getD (toNat ((a0.2.2.2.length : Nat) : Int)) default).2.2.2.2.2)).getD (toNat ((a0.2.2.2.length : Nat) : Int)) default).2.2.2.2.2)))))
  else
   (((a0.2.2.2.length : Nat) : Int), (a0.1, a0.2.1, (a0.2.2.1, (a0.2.2.2 ++ [(a1, a2, (-1), (-1), (F73_L (A57_1 a0 a1 a2)), (A57_2 a0 a1 a2).1)])))))

def F57 (a0 : TyL × Int × List (Int) × TyN) (a1 : Int) (a2 : Int) : Int × TyL × Int × List (Int) × TyN := R57 (toNat (a2 - a1) + 1) a0 a1 a2

structure ADDR (b r : BU) (i k : Int) : Prop where
  pan : r.1 = b.1
  leaf : r.2.1 = b.2.1
  ol : r.2.2.1.length = b.2.2.1.length
  oi : InR b.1.length r.2.2.1
  lo : b.2.2.2.length < r.2.2.2.length
  hi : r.2.2.2.length ≤ b.2.2.2.length + 2 * (k - i) - 1
theorem PADD.pos {b : BU} {i k : Int} (hp : PADD b i k) : 0 < b.1.length := by
  have h := hp.inr.at (i := 0) (by have := hp.rng; omega)
  omega
section
variable {nr : Nat} {b : BU} {i k : Int} (hp : PADD b i k)
include hp
theorem add_4 : (A57_4 b i k).length = b.2.2.1.length ∧ InR b.1.length (A57_4 b i k) :=
  srt_in (by have := hp.rng; omega) hp.inr
theorem pad1 {x : Int × Int × Int × Int × (Int × Int × Int) × Int} (h2 : 2 ≤ k - i) : PADD (b.1, b.2.1, (A57_4 b i k), b.2.2.2 ++ [x]) i (W (i + (W (Int.tdiv (W ((W (k - i)) + 1)) 2)))) := by
  have h := hp.rng; have hn := hp.nds
  rw [mid_eq ⟨h.1, h.2.1, by omega⟩]
  have h4 := add_4 hp
  exact ⟨h4.2, ⟨h.1, by omega, by rw [h4.1]; omega, by rw [h4.1]; omega⟩, by simp only [List.length_append, List.length_cons, List.length_nil]; omega, hp.lf⟩
end
theorem pad2 {b r : BU} {i k : Int} {o : List Int} {x : Int × Int × Int × Int × (Int × Int × Int) × Int} (hp : PADD b i k) (ho : o.length = b.2.2.1.length) (h2 : 2 ≤ k - i) (hr : ADDR (b.1, b.2.1, o, b.2.2.2 ++ [x]) r i (W (i + (W (Int.tdiv (W ((W (k - i)) + 1)) 2))))) :
    PADD (b.1, r.2.1, r.2.2.1, r.2.2.2) (W (i + (W (Int.tdiv (W ((W (k - i)) + 1)) 2)))) k := by
  have h := hp.rng; have hn := hp.nds
  obtain ⟨g1, g2, g3, g4, g5, g6⟩ := hr
  rw [mid_eq ⟨h.1, h.2.1, by omega⟩] at g6 ⊢
  simp only [List.length_append, List.length_cons, List.length_nil] at g3 g5 g6 g2
  exact ⟨g4, ⟨by omega, by omega, by rw [g3]; omega, by rw [g3]; omega⟩, by simp only; omega, by rw [g2]; exact hp.lf⟩
theorem add_inv : ∀ (nr : Nat) (b : BU) (i k : Int), PADD b i k → toNat (k - i) < nr → ADDR b (R57 nr b i k).2 i k
  | 0, b, i, k, _, hn => absurd hn (Nat.not_lt_zero _)
  | nr + 1, b, i, k, hp, hn => by
    have h := hp.rng; have hn2 := hp.nds; have hl := hp.lf
    have hW : W (k - i) = k - i := W_eq (by omega) (by omega)
    simp only [R57]
    by_cases h0 : W (k - i) > b.2.1
    · rw [decide_eq_true h0, cond_true]
      have h2 : 2 ≤ k - i := by omega
      have hm := mid_eq ⟨h.1, h.2.1, by omega⟩
      have h5 : ADDR _ (A57_5 (R57 nr) b i k).2 i _ := add_inv nr _ _ _ (pad1 hp h2) (by rw [hm]; omega)
      have h6 : ADDR _ (A57_6 (R57 nr) b i k).2 _ k := add_inv nr _ _ _ (pad2 hp (add_4 hp).1 h2 h5) (by rw [hm]; omega)
      have g3 := h5.ol; have g5 := h5.lo; have g6 := h5.hi; have f3 := h6.ol; have f5 := h6.lo; have f6 := h6.hi
      rw [hm] at g6 f6
      simp only [List.length_append, List.length_cons, List.length_nil] at g3 g5 g6 f3 f5 f6
      refine ⟨rfl, h6.leaf.trans h5.leaf, ?_, h6.oi, ?_, ?_⟩
      · show (A57_6 (R57 nr) b i k).2.2.2.1.length = _
        rw [f3, g3]; exact (add_4 hp).1
      · simp only [List.length_set]; omega
      · simp only [List.length_set]; omega
    · rw [decide_eq_false h0, cond_false]
      exact ⟨rfl, rfl, rfl, hp.inr, by simp, by simp; omega⟩

theorem Cr57 : ∀ (nr : Nat) (a0 : TyL × Int × List (Int) × TyN) (a1 : Int) (a2 : Int) (l0_1 : a0.1.length ≤ 9223372036854775807) (l0_2_2_1 : a0.2.2.1.length ≤ 9223372036854775807) (l0_2_2_2 : a0.2.2.2.length ≤ 9223372036854775807) (hp : PADD a0 a1 a2), toNat (a2 - a1) < nr → Con Try.prog 57 [(.p 0 0), (iv a1), (iv a2)] [(.live true false [(.s 1 0 a0.1.length 10), (iv a0.2.1), (.s 2 0 a0.2.2.1.length 1), (.s 3 0 a0.2.2.2.length 8)]), (.live false true (flat c81 a0.1)), (.live true true (flat c3 a0.2.2.1)), (.live true true (flat c40 a0.2.2.2))] (iv (R57 nr a0 a1 a2).1) [(.live true true (flat c40 (R57 nr a0 a1 a2).2.2.2.2))] [(.live true false [(.s 1 0 a0.1.length 10), (iv (R57 nr a0 a1 a2).2.2.1), (.s 2 0 (R57 nr a0 a1 a2).2.2.2.1.length 1), (.s 4 0 (R57 nr a0 a1 a2).2.2.2.2.length 8)]), .un, (.live true true (flat c3 (R57 nr a0 a1 a2).2.2.2.1)), .dead] := by
  intro nr
  induction nr with
  | zero => intro a0 a1 a2 l0_1 l0_2_2_1 l0_2_2_2 hp hlt; exact absurd hlt (Nat.not_lt_zero _)
  | succ nr ihr =>
  intro a0 a1 a2 l0_1 l0_2_2_1 l0_2_2_2 hp hlt
  refine con_s Try.func57 (by kernel_rfl) fun cx hcx => ?_
  have hpr := hp.rng
  have hpn := hp.nds
  have hpl := hp.lf
  have hpt := part_len (l := a0.2.2.1) (a := a1) (b := a2) (by omega)
  have hm1 : (A57_1 a0 a1 a2).length = _ := mem_len a0.1 (Aw.part a0.2.2.1 a1 a2)
  have hW : W (a2 - a1) = a2 - a1 := W_eq (by omega) (by omega)
  have hmid := mid_eq (i := a1) (k := a2) (by omega)
  have h4 := add_4 hp
  try have h2 : 2 ≤ a2 - a1 := (fun _ => by omega) h0
  try have h5 : ADDR _ (A57_5 (R57 nr) a0 a1 a2).2 a1 _ := (fun _ => add_inv nr _ _ _ (pad1 hp h2) (by rw [hmid]; omega)) h0
  try have h6 : ADDR _ (A57_6 (R57 nr) a0 a1 a2).2 _ a2 := (fun _ => add_inv nr _ _ _ (pad2 hp (add_4 hp).1 h2 h5) (by rw [hmid]; omega)) h0
  try have g5 := (fun _ => h5.lo) h0
  try have g6 := (fun _ => h5.hi) h0
  try have g3 := (fun _ => h5.ol) h0
  try have f5 := (fun _ => h6.lo) h0
  try have f6 := (fun _ => h6.hi) h0
  try have f3 := (fun _ => h6.ol) h0
  try (have _ := h0; rw [hmid] at g6 f6; simp only [List.length_append, List.length_cons, List.length_nil] at g3 g5 g6 f3 f5 f6)
  let t0 : List (St Try.prog) := [.sub a1 a2 (a0.2.2.1.length), .c [1, 2] (show Con Try.prog 72 [(.s 0 0 a0.1.length 10), (.s 1 (0 + toNat a1 * 1) (toNat a2 - toNat a1) 1)] [(.live false true (flat c81 a0.1)), (.live false true (flat c3 a0.2.2.1))] (.s 2 0 (A57_1 a0 a1 a2).length 10) [(.live true true (flat c81 (A57_1 a0 a1 a2)))] from Con.part (l := a0.2.2.1) (a := a1) (b := a2) (c := c3) (pre := [(.s 0 0 a0.1.length 10)]) (post := []) (bs1 := [(.live false true (flat c81 a0.1))]) (bs2 := []) 1 c3_len (by omega) rfl (by rfl) (C72_L_L a0.1 (Aw.part (a0.2.2.1) a1 a2) (by (try simp only [Lt]); omega) (by (try simp only [Lt]); omega) (hp.inr.part a1 a2) (by omega))), .c [4] (C73_L (A57_1 a0 a1 a2) (by (try simp only [Lt]); omega) (by omega)), .c [4] (C74_L (A57_1 a0 a1 a2) (F73_L (A57_1 a0 a1 a2)) (by (try simp only [Lt]); omega) (by omega)), .p (show ((flat c40 a0.2.2.2).length = a0.2.2.2.length * 8 ∧ a0.2.2.2.length + 1 ≤ 2 ^ 40 ∧ (a0.2.2.2.length + 1) * 64 ≤ 2 ^ 47) from app_ok c40_len (by omega) (by omega))]
  cases h0 : (decide (((W (a2 - a1)) : Int) > a0.2.1)) with
  | true =>
   have q0 := of_decide_eq_true h0
   have h4 := add_4 hp
   try have h2 : 2 ≤ a2 - a1 := (fun _ => by omega) h0
   try have h5 : ADDR _ (A57_5 (R57 nr) a0 a1 a2).2 a1 _ := (fun _ => add_inv nr _ _ _ (pad1 hp h2) (by rw [hmid]; omega)) h0
   try have h6 : ADDR _ (A57_6 (R57 nr) a0 a1 a2).2 _ a2 := (fun _ => add_inv nr _ _ _ (pad2 hp (add_4 hp).1 h2 h5) (by rw [hmid]; omega)) h0
   try have g5 := (fun _ => h5.lo) h0
   try have g6 := (fun _ => h5.hi) h0
   try have g3 := (fun _ => h5.ol) h0
   try have f5 := (fun _ => h6.lo) h0
   try have f6 := (fun _ => h6.hi) h0
   try have f3 := (fun _ => h6.ol) h0
   try (have _ := h0; rw [hmid] at g6 f6; simp only [List.length_append, List.length_cons, List.length_nil] at g3 g5 g6 f3 f5 f6)
   have e := Eq.refl (R57 (nr + 1) a0 a1 a2); conv at e => rhs; simp only [R57, h0, cond_true, cond_false]
   rw [e]
   try dsimp only [thenF]
   try dsimp only
   rw [show flat c40 (((A57_6 (R57 nr) a0 a1 a2).2.2.2.2.set (toNat ((a0.2.2.2.length : Nat) : Int)) (((A57_6 (R57 nr) a0 a1 a2).2.2.2.2.getD (toNat ((a0.2.2.2.length : Nat) : Int)) default).1, ((A57_6 (R57 nr) a0 a1 a2).2.2.2.2.getD (toNat ((a0.2.2.2.length : Nat) : Int)) default).2.1, (A57_5 (R57 nr) a0 a1 a2).1, ((A57_6 (R57 nr) a0 a1 a2).2.2.2.2.getD (toNat ((a0.2.2.2.length : Nat) : Int)) default).2.2.2.1, ((A57_6 (R57 nr) a0 a1 a2).2.2.2.2.getD (toNat ((a0.2.2.2.length : Nat) : Int)) default).2.2.2.2.1, ((A57_6 (R57 nr) a0 a1 a2).2.2.2.2.getD (toNat ((a0.2.2.2.length : Nat) : Int)) default).2.2.2.2.2)).set (toNat ((a0.2.2.2.length : Nat) : Int)) ((((A57_6 (R57 nr) a0 a1 a2).2.2.2.2.set (toNat ((a0.2.2.2.length : Nat) : Int)) (((A57_6 (R57 nr) a0 a1 a2).2.2.2.2.getD (toNat ((a0.2.2.2.length : Nat) : Int)) default).1, ((A57_6 (R57 nr) a0 a1 a2).2.2.2.2.getD (toNat ((a0.2.2.2.length : Nat) : Int)) default).2.1, (A57_5 (R57 nr) a0 a1 a2).1, ((A57_6 (R57 nr) a0 a1 a2).2.2.2.2.getD (toNat ((a0.2.2.2.length : Nat) : Int)) default).2.2.2.1, ((A57_6 (R57 nr) a0 a1 a2).2.2.2.2.getD (toNat ((a0.2.2.2.length : Nat) : Int)) default).2.2.2.2.1, ((A57_6 (R57 nr) a0 a1 a2).2.2.2.2.getD (toNat ((a0.2.2.2.length : Nat) : Int)) default).2.2.2.2.2)).getD (toNat ((a0.2.2.2.length : Nat) : Int)) default).1, (((A57_6 (R57 nr) a0 a1 a2).2.2.2.2.set (toNat ((a0.2.2.2.length : Nat) : Int)) (((A57_6 (R57 nr) a0 a1 a2).2.2.2.2.getD (toNat ((a0.2.2.2.length : Nat) : Int)) default).1, ((A57_6 (R57 nr) a0 a1 a2).2.2.2.2.getD (toNat ((a0.2.2.2.length : Nat) : Int)) default).2.1, (A57_5 (R57 nr) a0 a1 a2).1, ((A57_6 (R57 nr) a0 a1 a2).2.2.2.2.getD (toNat ((a0.2.2.2.length : Nat) : Int)) default).2.2.2.1, ((A57_6 (R57 nr) a0 a1 a2).2.2.2.2.getD (toNat ((a0.2.2.2.length : Nat) : Int)) default).2.2.2.2.1, ((A57_6 (R57 nr) a0 a1 a2).2.2.2.2.getD (toNat ((a0.2.2.2.length : Nat) : Int)) default).2.2.2.2.2)).getD (toNat ((a0.2.2.2.length : Nat) : Int)) default).2.1, (((A57_6 (R57 nr) a0 a1 a2).2.2.2.2.set (toNat ((a0.2.2.2.length : Nat) : Int)) (((A57_6 (R57 nr) a0 a1 a2).2.2.2.2.getD (toNat ((a0.2.2.2.length : Nat) : Int)) default).1, ((A57_6 (R57 nr) a0 a1 a2).2.2.2.2.getD (toNat ((a0.2.2.2.length : Nat) : Int)) default).2.1, (A57_5 (R57 nr) a0 a1 a2).1, ((A57_6 (R57 nr) a0 a1 a2).2.2.2.2.getD (toNat ((a0.2.2.2.length : Nat) : Int)) default).2.2.2.1, ((A57_6 (R57 nr) a0 a1 a2).2.2.2.2.getD (toNat ((a0.2.2.2.length : Nat) : Int)) default).2.2.2.2.1, ((A57_6 (R57 nr) a0 a1 a2).2.2.2.2.getD (toNat ((a0.2.2.2.length : Nat) : Int)) default).2.2.2.2.2)).getD (toNat ((a0.2.2.2.length : Nat) : Int)) default).2.2.1, (A57_6 (R57 nr) a0 a1 a2).1, (((A57_6 (R57 nr) a0 a1 a2).2.2.2.2.set (toNat ((a0.2.2.2.length : Nat) : Int)) (((A57_6 (R57 nr) a0 a1 a2).2.2.2.2.getD (toNat ((a0.2.2.2.length : Nat) : Int)) default).1, ((A57_6 (R57 nr) a0 a1 a2).2.2.2.2.getD (toNat ((a0.2.2.2.length : Nat) : Int)) default).2.1, (A57_5 (R57 nr) a0 a1 a2).1, ((A57_6 (R57 nr) a0 a1 a2).2.2.2.2.getD (toNat ((a0.2.2.2.length : Nat) : Int)) default).2.2.2.1, ((A57_6 (R57 nr) a0 a1 a2).2.2.2.2.getD (toNat ((a0.2.2.2.length : Nat) : Int)) default).2.2.2.2.1, ((A57_6 (R57 nr) a0 a1 a2).2.2.2.2.getD (toNat ((a0.2.2.2.length : Nat) : Int)) default).2.2.2.2.2)).getD (toNat ((a0.2.2.2.length : Nat) : Int)) default).2.2.2.2.1, (((A57_6 (R57 nr) a0 a1 a2).2.2.2.2.set (toNat ((a0.2.2.2.length : Nat) : Int)) (((A57_6 (R57 nr) a0 a1 a2).2.2.2.2.getD (toNat ((a0.2.2.2.length : Nat) : Int)) default).1, ((A57_6 (R57 nr) a0 a1 a2).2.2.2.2.getD (toNat ((a0.2.2.2.length : Nat) : Int)) default).2.1, (A57_5 (R57 nr) a0 a1 a2).1, ((A57_6 (R57 nr) a0 a1 a2).2.2.2.2.getD (toNat ((a0.2.2.2.length : Nat) : Int)) default).2.2.2.1, ((A57_6 (R57 nr) a0 a1 a2).2.2.2.2.getD (toNat ((a0.2.2.2.length : Nat) : Int)) default).2.2.2.2.1, ((A57_6 (R57 nr) a0 a1 a2).2.2.2.2.getD (toNat ((a0.2.2.2.length : Nat) : Int)) default).2.2.2.2.2)).getD (toNat ((a0.2.2.2.length : Nat) : Int)) default).2.2.2.2.2)) = (splice (splice (flat c40 (A57_6 (R57 nr) a0 a1 a2).2.2.2.2) (0 + toNat ((a0.2.2.2.length : Nat) : Int) * 8 + 2) [(iv (A57_5 (R57 nr) a0 a1 a2).1)]) (0 + toNat ((a0.2.2.2.length : Nat) : Int) * 8 + 3) [(iv (A57_6 (R57 nr) a0 a1 a2).1)]) from Eq.symm (by rw [show (splice (flat c40 (A57_6 (R57 nr) a0 a1 a2).2.2.2.2) (0 + toNat ((a0.2.2.2.length : Nat) : Int) * 8 + 2) [(iv (A57_5 (R57 nr) a0 a1 a2).1)]) = flat c40 ((A57_6 (R57 nr) a0 a1 a2).2.2.2.2.set (toNat ((a0.2.2.2.length : Nat) : Int)) (((A57_6 (R57 nr) a0 a1 a2).2.2.2.2.getD (toNat ((a0.2.2.2.length : Nat) : Int)) default).1, ((A57_6 (R57 nr) a0 a1 a2).2.2.2.2.getD (toNat ((a0.2.2.2.length : Nat) : Int)) default).2.1, (A57_5 (R57 nr) a0 a1 a2).1, ((A57_6 (R57 nr) a0 a1 a2).2.2.2.2.getD (toNat ((a0.2.2.2.length : Nat) : Int)) default).2.2.2.1, ((A57_6 (R57 nr) a0 a1 a2).2.2.2.2.getD (toNat ((a0.2.2.2.length : Nat) : Int)) default).2.2.2.2.1, ((A57_6 (R57 nr) a0 a1 a2).2.2.2.2.getD (toNat ((a0.2.2.2.length : Nat) : Int)) default).2.2.2.2.2)) from (flat_set c40_len (by first | omega | (simp only [Lt]; omega)) (i := toNat ((a0.2.2.2.length : Nat) : Int)) (o := 2) (d := default) (y := (((A57_6 (R57 nr) a0 a1 a2).2.2.2.2.getD (toNat ((a0.2.2.2.length : Nat) : Int)) default).1, ((A57_6 (R57 nr) a0 a1 a2).2.2.2.2.getD (toNat ((a0.2.2.2.length : Nat) : Int)) default).2.1, (A57_5 (R57 nr) a0 a1 a2).1, ((A57_6 (R57 nr) a0 a1 a2).2.2.2.2.getD (toNat ((a0.2.2.2.length : Nat) : Int)) default).2.2.2.1, ((A57_6 (R57 nr) a0 a1 a2).2.2.2.2.getD (toNat ((a0.2.2.2.length : Nat) : Int)) default).2.2.2.2.1, ((A57_6 (R57 nr) a0 a1 a2).2.2.2.2.getD (toNat ((a0.2.2.2.length : Nat) : Int)) default).2.2.2.2.2)) (xs := [(iv (A57_5 (R57 nr) a0 a1 a2).1)]) (Nb rfl) rfl)]; exact flat_set c40_len (by first | omega | (simp only [Lt]; omega)) (i := toNat ((a0.2.2.2.length : Nat) : Int)) (o := 3) (d := default) (y := ((((A57_6 (R57 nr) a0 a1 a2).2.2.2.2.set (toNat ((a0.2.2.2.length : Nat) : Int)) (((A57_6 (R57 nr) a0 a1 a2).2.2.2.2.getD (toNat ((a0.2.2.2.length : Nat) : Int)) default).1, ((A57_6 (R57 nr) a0 a1 a2).2.2.2.2.getD (toNat ((a0.2.2.2.length : Nat) : Int)) default).2.1, (A57_5 (R57 nr) a0 a1 a2).1, ((A57_6 (R57 nr) a0 a1 a2).2.2.2.2.getD (toNat ((a0.2.2.2.length : Nat) : Int)) default).2.2.2.1, ((A57_6 (R57 nr) a0 a1 a2).2.2.2.2.getD (toNat ((a0.2.2.2.length : Nat) : Int)) default).2.2.2.2.1, ((A57_6 (R57 nr) a0 a1 a2).2.2.2.2.getD (toNat ((a0.2.2.2.length : Nat) : Int)) default).2.2.2.2.2)).getD (toNat ((a0.2.2.2.length : Nat) : Int)) default).1, (((A57_6 (R57 nr) a0 a1 a2).2.2.2.2.set (toNat ((a0.2.2.2.length : Nat) : Int)) (((A57_6 (R57 nr) a0 a1 a2).2.2.2.2.getD (toNat ((a0.2.2.2.length : Nat) : Int)) default).1, ((A57_6 (R57 nr) a0 a1 a2).2.2.2.2.getD (toNat ((a0.2.2.2.length : Nat) : Int)) default).2.1, (A57_5 (R57 nr) a0 a1 a2).1, ((A57_6 (R57 nr) a0 a1 a2).2.2.2.2.getD (toNat ((a0.2.2.2.length : Nat) : Int)) default).2.2.2.1, ((A57_6 (R57 nr) a0 a1 a2).2.2.2.2.getD (toNat ((a0.2.2.2.length : Nat) : Int)) default).2.2.2.2.1, ((A57_6 (R57 nr) a0 a1 a2).2.2.2.2.getD (toNat ((a0.2.2.2.length : Nat) : Int)) default).2.2.2.2.2)).getD (toNat ((a0.2.2.2.length : Nat) : Int)) default).2.1, (((A57_6 (R57 nr) a0 a1 a2).2.2.2.2.set (toNat ((a0.2.2.2.length : Nat) : Int)) (((A57_6 (R57 nr) a0 a1 a2).2.2.2.2.getD (toNat ((a0.2.2.2.length : Nat) : Int)) default).1, ((A57_6 (R57 nr) a0 a1 a2).2.2.2.2.getD (toNat ((a0.2.2.2.length : Nat) : Int)) default).2.1, (A57_5 (R57 nr) a0 a1 a2).1, ((A57_6 (R57 nr) a0 a1 a2).2.2.2.2.getD (toNat ((a0.2.2.2.length : Nat) : Int)) default).2.2.2.1, ((A57_6 (R57 nr) a0 a1 a2).2.2.2.2.getD (toNat ((a0.2.2.2.length : Nat) : Int)) default).2.2.2.2.1, ((A57_6 (R57 nr) a0 a1 a2).2.2.2.2.getD (toNat ((a0.2.2.2.length : Nat) : Int)) default).2.2.2.2.2)).getD (toNat ((a0.2.2.2.length : Nat) : Int)) default).2.2.1, (A57_6 (R57 nr) a0 a1 a2).1, (((A57_6 (R57 nr) a0 a1 a2).2.2.2.2.set (toNat ((a0.2.2.2.length : Nat) : Int)) (((A57_6 (R57 nr) a0 a1 a2).2.2.2.2.getD (toNat ((a0.2.2.2.length : Nat) : Int)) default).1, ((A57_6 (R57 nr) a0 a1 a2).2.2.2.2.getD (toNat ((a0.2.2.2.length : Nat) : Int)) default).2.1, (A57_5 (R57 nr) a0 a1 a2).1, ((A57_6 (R57 nr) a0 a1 a2).2.2.2.2.getD (toNat ((a0.2.2.2.length : Nat) : Int)) default).2.2.2.1, ((A57_6 (R57 nr) a0 a1 a2).2.2.2.2.getD (toNat ((a0.2.2.2.length : Nat) : Int)) default).2.2.2.2.1, ((A57_6 (R57 nr) a0 a1 a2).2.2.2.2.getD (toNat ((a0.2.2.2.length : Nat) : Int)) default).2.2.2.2.2)).getD (toNat ((a0.2.2.2.length : Nat) : Int)) default).2.2.2.2.1, (((A57_6 (R57 nr) a0 a1 a2).2.2.2.2.set (toNat ((a0.2.2.2.length : Nat) : Int)) (((A57_6 (R57 nr) a0 a1 a2).2.2.2.2.getD (toNat ((a0.2.2.2.length : Nat) : Int)) default).1, ((A57_6 (R57 nr) a0 a1 a2).2.2.2.2.getD (toNat ((a0.2.2.2.length : Nat) : Int)) default).2.1, (A57_5 (R57 nr) a0 a1 a2).1, ((A57_6 (R57 nr) a0 a1 a2).2.2.2.2.getD (toNat ((a0.2.2.2.length : Nat) : Int)) default).2.2.2.1, ((A57_6 (R57 nr) a0 a1 a2).2.2.2.2.getD (toNat ((a0.2.2.2.length : Nat) : Int)) default).2.2.2.2.1, ((A57_6 (R57 nr) a0 a1 a2).2.2.2.2.getD (toNat ((a0.2.2.2.length : Nat) : Int)) default).2.2.2.2.2)).getD (toNat ((a0.2.2.2.length : Nat) : Int)) default).2.2.2.2.2)) (xs := [(iv (A57_6 (R57 nr) a0 a1 a2).1)]) (Nb rfl) rfl)]
   try rw [show List.length (α := Int × Int × Int × Int × (Int × Int × Int) × Int) (((A57_6 (R57 nr) a0 a1 a2).2.2.2.2.set (toNat ((a0.2.2.2.length : Nat) : Int)) (((A57_6 (R57 nr) a0 a1 a2).2.2.2.2.getD (toNat ((a0.2.2.2.length : Nat) : Int)) default).1, ((A57_6 (R57 nr) a0 a1 a2).2.2.2.2.getD (toNat ((a0.2.2.2.length : Nat) : Int)) default).2.1, (A57_5 (R57 nr) a0 a1 a2).1, ((A57_6 (R57 nr) a0 a1 a2).2.2.2.2.getD (toNat ((a0.2.2.2.length : Nat) : Int)) default).2.2.2.1, ((A57_6 (R57 nr) a0 a1 a2).2.2.2.2.getD (toNat ((a0.2.2.2.length : Nat) : Int)) default).2.2.2.2.1, ((A57_6 (R57 nr) a0 a1 a2).2.2.2.2.getD (toNat ((a0.2.2.2.length : Nat) : Int)) default).2.2.2.2.2)).set (toNat ((a0.2.2.2.length : Nat) : Int)) ((((A57_6 (R57 nr) a0 a1 a2).2.2.2.2.set (toNat ((a0.2.2.2.length : Nat) : Int)) (((A57_6 (R57 nr) a0 a1 a2).2.2.2.2.getD (toNat ((a0.2.2.2.length : Nat) : Int)) default).1, ((A57_6 (R57 nr) a0 a1 a2).2.2.2.2.getD (toNat ((a0.2.2.2.length : Nat) : Int)) default).2.1, (A57_5 (R57 nr) a0 a1 a2).1, ((A57_6 (R57 nr) a0 a1 a2).2.2.2.2.getD (toNat ((a0.2.2.2.length : Nat) : Int)) default).2.2.2.1, ((A57_6 (R57 nr) a0 a1 a2).2.2.2.2.getD (toNat ((a0.2.2.2.length : Nat) : Int)) default).2.2.2.2.1, ((A57_6 (R57 nr) a0 a1 a2).2.2.2.2.getD (toNat ((a0.2.2.2.length : Nat) : Int)) default).2.2.2.2.2)).getD (toNat ((a0.2.2.2.length : Nat) : Int)) default).1, (((A57_6 (R57 nr) a0 a1 a2).2.2.2.2.set (toNat ((a0.2.2.2.length : Nat) : Int)) (((A57_6 (R57 nr) a0 a1 a2).2.2.2.2.getD (toNat ((a0.2.2.2.length : Nat) : Int)) default).1, ((A57_6 (R57 nr) a0 a1 a2).2.2.2.2.getD (toNat ((a0.2.2.2.length : Nat) : Int)) default).2.1, (A57_5 (R57 nr) a0 a1 a2).1, ((A57_6 (R57 nr) a0 a1 a2).2.2.2.2.getD (toNat ((a0.2.2.2.length : Nat) : Int)) default).2.2.2.1, ((A57_6 (R57 nr) a0 a1 a2).2.2.2.2.getD (toNat ((a0.2.2.2.length : Nat) : Int)) default).2.2.2.2.1, ((A57_6 (R57 nr) a0 a1 a2).2.2.2.2.getD (toNat ((a0.2.2.2.length : Nat) : Int)) default).2.2.2.2.2)).getD (toNat ((a0.2.2.2.length : Nat) : Int)) default).2.1, (((A57_6 (R57 nr) a0 a1 a2).2.2.2.2.set (toNat ((a0.2.2.2.length : Nat) : Int)) (((A57_6 (R57 nr) a0 a1 a2).2.2.2.2.getD (toNat ((a0.2.2.2.length : Nat) : Int)) default).1, ((A57_6 (R57 nr) a0 a1 a2).2.2.2.2.getD (toNat ((a0.2.2.2.length : Nat) : Int)) default).2.1, (A57_5 (R57 nr) a0 a1 a2).1, ((A57_6 (R57 nr) a0 a1 a2).2.2.2.2.getD (toNat ((a0.2.2.2.length : Nat) : Int)) default).2.2.2.1, ((A57_6 (R57 nr) a0 a1 a2).2.2.2.2.getD (toNat ((a0.2.2.2.length : Nat) : Int)) default).2.2.2.2.1, ((A57_6 (R57 nr) a0 a1 a2).2.2.2.2.getD (toNat ((a0.2.2.2.length : Nat) : Int)) default).2.2.2.2.2)).getD (toNat ((a0.2.2.2.length : Nat) : Int)) default).2.2.1, (A57_6 (R57 nr) a0 a1 a2).1, (((A57_6 (R57 nr) a0 a1 a2).2.2.2.2.set (toNat ((a0.2.2.2.length : Nat) : Int)) (((A57_6 (R57 nr) a0 a1 a2).2.2.2.2.getD (toNat ((a0.2.2.2.length : Nat) : Int)) default).1, ((A57_6 (R57 nr) a0 a1 a2).2.2.2.2.getD (toNat ((a0.2.2.2.length : Nat) : Int)) default).2.1, (A57_5 (R57 nr) a0 a1 a2).1, ((A57_6 (R57 nr) a0 a1 a2).2.2.2.2.getD (toNat ((a0.2.2.2.length : Nat) : Int)) default).2.2.2.1, ((A57_6 (R57 nr) a0 a1 a2).2.2.2.2.getD (toNat ((a0.2.2.2.length : Nat) : Int)) default).2.2.2.2.1, ((A57_6 (R57 nr) a0 a1 a2).2.2.2.2.getD (toNat ((a0.2.2.2.length : Nat) : Int)) default).2.2.2.2.2)).getD (toNat ((a0.2.2.2.length : Nat) : Int)) default).2.2.2.2.1, (((A57_6 (R57 nr) a0 a1 a2).2.2.2.2.set (toNat ((a0.2.2.2.length : Nat) : Int)) (((A57_6 (R57 nr) a0 a1 a2).2.2.2.2.getD (toNat ((a0.2.2.2.length : Nat) : Int)) default).1, ((A57_6 (R57 nr) a0 a1 a2).2.2.2.2.getD (toNat ((a0.2.2.2.length : Nat) : Int)) default).2.1, (A57_5 (R57 nr) a0 a1 a2).1, ((A57_6 (R57 nr) a0 a1 a2).2.2.2.2.getD (toNat ((a0.2.2.2.length : Nat) : Int)) default).2.2.2.1, ((A57_6 (R57 nr) a0 a1 a2).2.2.2.2.getD (toNat ((a0.2.2.2.length : Nat) : Int)) default).2.2.2.2.1, ((A57_6 (R57 nr) a0 a1 a2).2.2.2.2.getD (toNat ((a0.2.2.2.length : Nat) : Int)) default).2.2.2.2.2)).getD (toNat ((a0.2.2.2.length : Nat) : Int)) default).2.2.2.2.2)) = (A57_6 (R57 nr) a0 a1 a2).2.2.2.2.length from by first | simp; done | omega]
   exact rtm (t0 ++ [.d h0, .sub a1 a2 (a0.2.2.1.length), .sub a1 a2 (a0.2.2.1.length), .c [0, 1, 2, 7] (show Con Try.prog 76 [(.p 0 0), (.s 2 (0 + toNat a1 * 1) (toNat a2 - toNat a1) 1)] [(.live false false [(.s 1 0 a0.1.length 10), (iv a0.2.1), (.s 2 0 a0.2.2.1.length 1), (.s 3 0 (a0.2.2.2.length + 1) 8)]), (.live false true (flat c81 a0.1)), (.live false true (flat c3 a0.2.2.1)), (.live false true (flat c40 a0.2.2.2 ++ [(iv a1), (iv a2), (iv (-1)), (iv (-1)), (iv (F73_L (A57_1 a0 a1 a2)).1), (iv (F73_L (A57_1 a0 a1 a2)).2.1), (iv (F73_L (A57_1 a0 a1 a2)).2.2), (iv (A57_2 a0 a1 a2).1)]))] (.a [(.p 0 0), (iv (A57_3 a0 a1 a2).2)]) [] from Con.alias (l := a0.2.2.1) (a := a1) (b := a2) (c := c3) (pre := [(.p 0 0)]) (post := []) (bs := [(.live false false [(.s 1 0 a0.1.length 10), (iv a0.2.1), (.s 2 0 a0.2.2.1.length 1), (.s 3 0 (a0.2.2.2.length + 1) 8)]), (.live false true (flat c81 a0.1)), (.live false true (flat c3 a0.2.2.1)), (.live false true (flat c40 a0.2.2.2 ++ [(iv a1), (iv a2), (iv (-1)), (iv (-1)), (iv (F73_L (A57_1 a0 a1 a2)).1), (iv (F73_L (A57_1 a0 a1 a2)).2.1), (iv (F73_L (A57_1 a0 a1 a2)).2.2), (iv (A57_2 a0 a1 a2).1)]))]) 2 c3_len (by omega) rfl (by rfl) (by have q := (C76_L (a0.1, a0.2.1, (a0.2.2.1, (a0.2.2.2 ++ [(a1, a2, (-1), (-1), (F73_L (A57_1 a0 a1 a2)), (A57_2 a0 a1 a2).1)]))) (Aw.part (a0.2.2.1) a1 a2) (by (try simp only [Lt]); omega) (by (try simp only [Lt]); omega) (by (try simp only [Lt]); omega) (by (try simp only [Lt]); omega) (hp.inr.part a1 a2) (by omega)); (try dsimp only at q); rw [show flat c40 (a0.2.2.2 ++ [(a1, a2, (-1), (-1), (F73_L (A57_1 a0 a1 a2)), (A57_2 a0 a1 a2).1)]) = (flat c40 a0.2.2.2 ++ [(iv a1), (iv a2), (iv (-1)), (iv (-1)), (iv (F73_L (A57_1 a0 a1 a2)).1), (iv (F73_L (A57_1 a0 a1 a2)).2.1), (iv (F73_L (A57_1 a0 a1 a2)).2.2), (iv (A57_2 a0 a1 a2).1)]) from flat_append] at q; (try rw [show List.length (α := Int × Int × Int × Int × (Int × Int × Int) × Int) (a0.2.2.2 ++ [(a1, a2, (-1), (-1), (F73_L (A57_1 a0 a1 a2)), (A57_2 a0 a1 a2).1)]) = (a0.2.2.2.length + 1) from by first | simp; done | omega] at q); exact q)), .c [2, 0, 1, 7] (by have q := (C75_W_b77 (a0.2.2.1) (toNat a1) (toNat a2 - toNat a1) ((a0.1, a0.2.1, (a0.2.2.1, (a0.2.2.2 ++ [(a1, a2, (-1), (-1), (F73_L (A57_1 a0 a1 a2)), (A57_2 a0 a1 a2).1)]))), (A57_3 a0 a1 a2).2) (by (try simp only [Lt]); omega) (by (try simp only [Lt]); omega) (by (try simp only [Lt]); omega) (by (try simp only [Lt]); omega) (by omega) hp.inr); (try dsimp only at q); rw [show flat c40 (a0.2.2.2 ++ [(a1, a2, (-1), (-1), (F73_L (A57_1 a0 a1 a2)), (A57_2 a0 a1 a2).1)]) = (flat c40 a0.2.2.2 ++ [(iv a1), (iv a2), (iv (-1)), (iv (-1)), (iv (F73_L (A57_1 a0 a1 a2)).1), (iv (F73_L (A57_1 a0 a1 a2)).2.1), (iv (F73_L (A57_1 a0 a1 a2)).2.2), (iv (A57_2 a0 a1 a2).1)]) from flat_append] at q; (try rw [show List.length (α := Int × Int × Int × Int × (Int × Int × Int) × Int) (a0.2.2.2 ++ [(a1, a2, (-1), (-1), (F73_L (A57_1 a0 a1 a2)), (A57_2 a0 a1 a2).1)]) = (a0.2.2.2.length + 1) from by first | simp; done | omega] at q); exact q), .p (show (2 : Int) ≠ 0 from by decide), .c [0, 1, 2, 7] (by have q := (ihr (a0.1, a0.2.1, ((A57_4 a0 a1 a2), (a0.2.2.2 ++ [(a1, a2, (-1), (-1), (F73_L (A57_1 a0 a1 a2)), (A57_2 a0 a1 a2).1)]))) a1 (W (a1 + (W (Int.tdiv (W ((W (a2 - a1)) + 1)) 2)))) (by (try simp only [Lt]); omega) (by (try simp only [Lt]); omega) (by (try simp only [Lt]); omega) (by first | exact pad1 hp h2 | exact pad2 hp (add_4 hp).1 h2 h5) (by rw [hmid]; omega)); (try dsimp only at q); rw [show flat c40 (a0.2.2.2 ++ [(a1, a2, (-1), (-1), (F73_L (A57_1 a0 a1 a2)), (A57_2 a0 a1 a2).1)]) = (flat c40 a0.2.2.2 ++ [(iv a1), (iv a2), (iv (-1)), (iv (-1)), (iv (F73_L (A57_1 a0 a1 a2)).1), (iv (F73_L (A57_1 a0 a1 a2)).2.1), (iv (F73_L (A57_1 a0 a1 a2)).2.2), (iv (A57_2 a0 a1 a2).1)]) from flat_append] at q; (try rw [show List.length (α := Int) (A57_4 a0 a1 a2) = a0.2.2.1.length from by first | simp; done | omega] at q); (try rw [show List.length (α := Int × Int × Int × Int × (Int × Int × Int) × Int) (a0.2.2.2 ++ [(a1, a2, (-1), (-1), (F73_L (A57_1 a0 a1 a2)), (A57_2 a0 a1 a2).1)]) = (a0.2.2.2.length + 1) from by first | simp; done | omega] at q); exact q), .c [0, 1, 2, 8] (ihr (a0.1, (A57_5 (R57 nr) a0 a1 a2).2.2.1, ((A57_5 (R57 nr) a0 a1 a2).2.2.2.1, (A57_5 (R57 nr) a0 a1 a2).2.2.2.2)) (W (a1 + (W (Int.tdiv (W ((W (a2 - a1)) + 1)) 2)))) a2 (by (try simp only [Lt]); omega) (by (try simp only [Lt]); omega) (by (try simp only [Lt]); omega) (by first | exact pad1 hp h2 | exact pad2 hp (add_4 hp).1 h2 h5) (by rw [hmid]; omega)), .i ((a0.2.2.2.length : Nat) : Int) ((A57_6 (R57 nr) a0 a1 a2).2.2.2.2.length), .p (show ((0 + toNat ((a0.2.2.2.length : Nat) : Int) * 8 + 2) + 1 ≤ (flat c40 (A57_6 (R57 nr) a0 a1 a2).2.2.2.2).length) from (flat_setl c40_len (by first | omega | (simp only [Lt]; omega)) (i := toNat ((a0.2.2.2.length : Nat) : Int)) (o := 2) (n := 1) (Nb rfl))), .i ((a0.2.2.2.length : Nat) : Int) ((A57_6 (R57 nr) a0 a1 a2).2.2.2.2.length), .p (show ((0 + toNat ((a0.2.2.2.length : Nat) : Int) * 8 + 3) + 1 ≤ (splice (flat c40 (A57_6 (R57 nr) a0 a1 a2).2.2.2.2) (0 + toNat ((a0.2.2.2.length : Nat) : Int) * 8 + 2) [(iv (A57_5 (R57 nr) a0 a1 a2).1)]).length) from (by rw [show (splice (flat c40 (A57_6 (R57 nr) a0 a1 a2).2.2.2.2) (0 + toNat ((a0.2.2.2.length : Nat) : Int) * 8 + 2) [(iv (A57_5 (R57 nr) a0 a1 a2).1)]) = flat c40 ((A57_6 (R57 nr) a0 a1 a2).2.2.2.2.set (toNat ((a0.2.2.2.length : Nat) : Int)) (((A57_6 (R57 nr) a0 a1 a2).2.2.2.2.getD (toNat ((a0.2.2.2.length : Nat) : Int)) default).1, ((A57_6 (R57 nr) a0 a1 a2).2.2.2.2.getD (toNat ((a0.2.2.2.length : Nat) : Int)) default).2.1, (A57_5 (R57 nr) a0 a1 a2).1, ((A57_6 (R57 nr) a0 a1 a2).2.2.2.2.getD (toNat ((a0.2.2.2.length : Nat) : Int)) default).2.2.2.1, ((A57_6 (R57 nr) a0 a1 a2).2.2.2.2.getD (toNat ((a0.2.2.2.length : Nat) : Int)) default).2.2.2.2.1, ((A57_6 (R57 nr) a0 a1 a2).2.2.2.2.getD (toNat ((a0.2.2.2.length : Nat) : Int)) default).2.2.2.2.2)) from (flat_set c40_len (by first | omega | (simp only [Lt]; omega)) (i := toNat ((a0.2.2.2.length : Nat) : Int)) (o := 2) (d := default) (y := (((A57_6 (R57 nr) a0 a1 a2).2.2.2.2.getD (toNat ((a0.2.2.2.length : Nat) : Int)) default).1, ((A57_6 (R57 nr) a0 a1 a2).2.2.2.2.getD (toNat ((a0.2.2.2.length : Nat) : Int)) default).2.1, (A57_5 (R57 nr) a0 a1 a2).1, ((A57_6 (R57 nr) a0 a1 a2).2.2.2.2.getD (toNat ((a0.2.2.2.length : Nat) : Int)) default).2.2.2.1, ((A57_6 (R57 nr) a0 a1 a2).2.2.2.2.getD (toNat ((a0.2.2.2.length : Nat) : Int)) default).2.2.2.2.1, ((A57_6 (R57 nr) a0 a1 a2).2.2.2.2.getD (toNat ((a0.2.2.2.length : Nat) : Int)) default).2.2.2.2.2)) (xs := [(iv (A57_5 (R57 nr) a0 a1 a2).1)]) (Nb rfl) rfl)]; exact flat_setl c40_len (by first | omega | (simp only [Lt]; omega)) (i := toNat ((a0.2.2.2.length : Nat) : Int)) (o := 3) (n := 1) (Nb rfl)))]) [] [0, 2, 3] [9] hcx (by kernel_rfl)
  | false =>
   have q0 := of_decide_eq_false h0
   have h4 := add_4 hp
   try have h2 : 2 ≤ a2 - a1 := (fun _ => by omega) h0
   try have h5 : ADDR _ (A57_5 (R57 nr) a0 a1 a2).2 a1 _ := (fun _ => add_inv nr _ _ _ (pad1 hp h2) (by rw [hmid]; omega)) h0
   try have h6 : ADDR _ (A57_6 (R57 nr) a0 a1 a2).2 _ a2 := (fun _ => add_inv nr _ _ _ (pad2 hp (add_4 hp).1 h2 h5) (by rw [hmid]; omega)) h0
   try have g5 := (fun _ => h5.lo) h0
   try have g6 := (fun _ => h5.hi) h0
   try have g3 := (fun _ => h5.ol) h0
   try have f5 := (fun _ => h6.lo) h0
   try have f6 := (fun _ => h6.hi) h0
   try have f3 := (fun _ => h6.ol) h0
   try (have _ := h0; rw [hmid] at g6 f6; simp only [List.length_append, List.length_cons, List.length_nil] at g3 g5 g6 f3 f5 f6)
   have e := Eq.refl (R57 (nr + 1) a0 a1 a2); conv at e => rhs; simp only [R57, h0, cond_true, cond_false]
   rw [e]
   try dsimp only [thenF]
   try dsimp only
   rw [show flat c40 (a0.2.2.2 ++ [(a1, a2, (-1), (-1), (F73_L (A57_1 a0 a1 a2)), (A57_2 a0 a1 a2).1)]) = (flat c40 a0.2.2.2 ++ [(iv a1), (iv a2), (iv (-1)), (iv (-1)), (iv (F73_L (A57_1 a0 a1 a2)).1), (iv (F73_L (A57_1 a0 a1 a2)).2.1), (iv (F73_L (A57_1 a0 a1 a2)).2.2), (iv (A57_2 a0 a1 a2).1)]) from flat_append]
   try rw [show List.length (α := Int × Int × Int × Int × (Int × Int × Int) × Int) (a0.2.2.2 ++ [(a1, a2, (-1), (-1), (F73_L (A57_1 a0 a1 a2)), (A57_2 a0 a1 a2).1)]) = (a0.2.2.2.length + 1) from by first | simp; done | omega]
   exact rtm (t0 ++ [.d h0]) [] [0, 2, 3] [7] hcx (by kernel_rfl)

theorem C57 (a0 : TyL × Int × List (Int) × TyN) (a1 : Int) (a2 : Int) (l0_1 : a0.1.length ≤ 9223372036854775807) (l0_2_2_1 : a0.2.2.1.length ≤ 9223372036854775807) (l0_2_2_2 : a0.2.2.2.length ≤ 9223372036854775807) (hp : PADD a0 a1 a2) : Con Try.prog 57 [(.p 0 0), (iv a1), (iv a2)] [(.live true false [(.s 1 0 a0.1.length 10), (iv a0.2.1), (.s 2 0 a0.2.2.1.length 1), (.s 3 0 a0.2.2.2.length 8)]), (.live false true (flat c81 a0.1)), (.live true true (flat c3 a0.2.2.1)), (.live true true (flat c40 a0.2.2.2))] (iv (F57 a0 a1 a2).1) [(.live true true (flat c40 (F57 a0 a1 a2).2.2.2.2))] [(.live true false [(.s 1 0 a0.1.length 10), (iv (F57 a0 a1 a2).2.2.1), (.s 2 0 (F57 a0 a1 a2).2.2.2.1.length 1), (.s 4 0 (F57 a0 a1 a2).2.2.2.2.length 8)]), .un, (.live true true (flat c3 (F57 a0 a1 a2).2.2.2.1)), .dead] := Cr57 (toNat (a2 - a1) + 1) a0 a1 a2 l0_1 l0_2_2_1 l0_2_2_2 hp (Nat.lt_succ_self _)

end Go.Proofs.Ytnbpiejjeeomkaa

namespace Go.Proofs.Ytnbpiejjeeomkaa
open Go.Proofs Go.Aw Go.RowKit
set_option maxRecDepth 100000
set_option linter.unusedVariables false
set_option linter.unusedSimpArgs false

theorem InR.add {n : Nat} {l : List Int} (h : InR n l) {x : Int} (hx : 0 ≤ x ∧ x < (n : Int)) : InR n (l ++ [x]) := fun y hy => by
  rcases List.mem_append.1 hy with hy | hy
  · exact h y hy
  · rw [List.mem_singleton.1 hy]; exact hx
theorem InR.nil (n : Nat) : InR n [] := fun y hy => by simp at hy

noncomputable def B34_L_0 : Code := (loopAtD [1, 1, 0, 1] [] (bodyOf Try.f34) []).1
noncomputable def K34_L_0 : List K := (loopAtD [1, 1, 0, 1] [] (bodyOf Try.f34) []).2

def st34_L_0 (a0 : TyL) (a1 : Int) (v3c : List SV) (v3n : Nat) (v4c : List SV) (v4n : Nat) (v5 : Int) : LS := ⟨slN 40 [(0, (.s 0 0 a0.length 10)), (4, (.p 1 0)), (5, (.p 2 0)), (12, (iv ((a0.length : Nat) : Int))), (13, (iv v5))], [(.live false true (flat c81 a0)), (.live true false [(.v (.slice none 0 0)), (.v (.slice none 0 0))]), (.live true false [(.s 0 0 a0.length 10), (iv a1), (.s 3 0 v3n 1), (.s 4 0 v4n 8)]), (.live true true v3c), (.live true true v4c)]⟩

def S34_L_0 (a0 : TyL) (a1 : Int) : List (Int) × TyN × Int → (List (Int) × TyN × Int) ⊕ (List (Int) × TyN)
  | (v3, v4, v5) =>
   (bif (decide ((v5 : Int) < ((a0.length : Nat) : Int))) then
    (.inl ((v3 ++ [v5]), v4, (v5 + 1)))
   else
    (bif (decide ((((a0.length : Nat) : Int) : Int) > 0)) then
     (.inr ((F57 (a0, a1, (v3, v4)) 0 ((a0.length : Nat) : Int)).2.2.2.1, (F57 (a0, a1, (v3, v4)) 0 ((a0.length : Nat) : Int)).2.2.2.2))
    else
     (.inr (v3, v4))))

set_option maxHeartbeats 4000000 in
theorem L34_L_0 (a0 : TyL) (a1 : Int) (l0 : a0.length ≤ 9223372036854775807) (hl : a0.length ≤ 96) (hf : 1 ≤ a1) {cx : Cx} (hcx : cx.base = 1) : ∀ (n : Nat) (v3 : List (Int)) (v4 : TyN) (v5 : Int), (0 ≤ v5) ∧ (v3.length = toNat v5) ∧ (InR a0.length v3) ∧ (v4.length = 0) ∧ (v5 ≤ a0.length) ∧ (a0.length ≤ 96) ∧ (1 ≤ a1) → toNat (((a0.length : Nat) : Int) - v5) < n → Aw.Good Try.prog none 9 (bodyPost Try.prog Try.f34 (RR cx (.a [(.s 1 0 (loopF (S34_L_0 a0 a1) n (v3, v4, v5)).1.length 1), (.s 2 0 (loopF (S34_L_0 a0 a1) n (v3, v4, v5)).2.length 8)]) [(.live true true (flat c3 (loopF (S34_L_0 a0 a1) n (v3, v4, v5)).1)), (.live true true (flat c40 (loopF (S34_L_0 a0 a1) n (v3, v4, v5)).2))] [])) cx [] (.l B34_L_0 n :: K34_L_0) (st34_L_0 a0 a1 (flat c3 v3) v3.length (flat c40 v4) v4.length v5) := by
  intro n
  induction n with
  | zero => intro v3 v4 v5 hi hn; exact absurd hn (Nat.not_lt_zero _)
  | succ n ih =>
    intro v3 v4 v5 hi hn
    refine good_round ?_
    cases h0 : (decide ((v5 : Int) < ((a0.length : Nat) : Int))) with
    | true =>
     have q0 := of_decide_eq_true h0
     have e := Eq.refl (S34_L_0 a0 a1 (v3, v4, v5)); conv at e => rhs; simp only [S34_L_0, h0, cond_true, cond_false]
     rw [loopF_inl e]
     refine ba [.d h0, .p (show ((flat c3 v3).length = v3.length * 1 ∧ v3.length + 1 ≤ 2 ^ 40 ∧ (v3.length + 1) * 8 ≤ 2 ^ 47) from app_ok c3_len (by omega) (by omega))] [] [0, 4, 5, 12, 13] [1, 2, 6, 4] hcx (m := n) B34_L_0 (K34_L_0) (st34_L_0 a0 a1 (flat c3 v3 ++ [(iv v5)]) (v3.length + 1) (flat c40 v4) (v4.length) (W (v5 + 1))) (by kernel_rfl) ?_
     have z0 : (W (v5 + 1)) = (v5 + 1) := W_eq (by omega) (by omega)
     have z1 : (flat c3 v3 ++ [(iv v5)]) = (flat c3 (v3 ++ [v5])) := (flat_append (c := c3) (l := v3) (m := [v5])).symm
     have z2 : (v3.length + 1) = (v3 ++ [v5]).length := len_app v3 [v5] rfl
     rw [z0, z1, z2]
     exact ih (v3 ++ [v5]) v4 (v5 + 1) (by refine ⟨?_, ?_, ?_, ?_, ?_, ?_, ?_⟩ <;> first | omega | assumption | exact InR.nil _ | exact hi.2.2.1 | exact hi.2.2.1.add (by omega) | (simp only [Ls]; omega) | simp) (by (try simp only [Ls]); omega)
    | false =>
     have q0 := of_decide_eq_false h0
     let t1 : List (St Try.prog) := [.d h0]
     cases h1 : (decide ((((a0.length : Nat) : Int) : Int) > 0)) with
     | true =>
      have q1 := of_decide_eq_true h1
      have e := Eq.refl (S34_L_0 a0 a1 (v3, v4, v5)); conv at e => rhs; simp only [S34_L_0, h0, h1, cond_true, cond_false]
      rw [loopF_s, e]
      exact rt (t1 ++ [.d h1, .c [2, 0, 3, 4] (C57 (a0, a1, (v3, v4)) 0 ((a0.length : Nat) : Int) (by (try simp only [Lt]); omega) (by (try simp only [Lt]); omega) (by (try simp only [Lt]); omega) (by refine ⟨?_, ?_, ?_, ?_⟩ <;> first | exact hi.2.2.1 | (simp only []; omega) | omega))]) [] [3, 5] hcx (by kernel_rfl)
     | false =>
      have q1 := of_decide_eq_false h1
      have e := Eq.refl (S34_L_0 a0 a1 (v3, v4, v5)); conv at e => rhs; simp only [S34_L_0, h0, h1, cond_true, cond_false]
      rw [loopF_s, e]
      exact rt (t1 ++ [.d h1]) [] [3, 4] hcx (by kernel_rfl)

def F34_L (a0 : TyL) (a1 : Int) : List (Int) × TyN :=
  (loopF (S34_L_0 a0 a1) (toNat (((a0.length : Nat) : Int) - 0) + 1) (([] : List (Int)), ([] : TyN), 0))

theorem C34_L (a0 : TyL) (a1 : Int) (l0 : a0.length ≤ 9223372036854775807) (hl : a0.length ≤ 96) (hf : 1 ≤ a1) : Con Try.prog 34 [(.s 0 0 a0.length 10), (iv a1)] [(.live false true (flat c81 a0))] (.a [(.s 1 0 (F34_L a0 a1).1.length 1), (.s 2 0 (F34_L a0 a1).2.length 8)]) [(.live true true (flat c3 (F34_L a0 a1).1)), (.live true true (flat c40 (F34_L a0 a1).2))] := by
  refine con_s Try.func34 (by kernel_rfl) fun cx hcx => ?_
  have e := Eq.refl (F34_L a0 a1); conv at e => rhs; simp only [F34_L]
  rw [e]
  refine en [] [.cell 2 2 1, .cell 2 3 8] [0, 4, 5, 12, 13] [1, 2, 3, 4] hcx B34_L_0 (K34_L_0) (st34_L_0 a0 a1 (flat c3 ([] : List (Int))) 0 (flat c40 ([] : TyN)) 0 0) (toNat (((a0.length : Nat) : Int) - 0) + 1) (by kernel_rfl) ?_
  exact L34_L_0 a0 a1 l0 hl hf hcx (toNat (((a0.length : Nat) : Int) - 0) + 1) ([] : List (Int)) ([] : TyN) 0 (by refine ⟨?_, ?_, ?_, ?_, ?_, ?_, ?_⟩ <;> first | omega | assumption | exact InR.nil _ | exact hi.2.2.1 | exact hi.2.2.1.add (by omega) | (simp only [Ls]; omega) | simp) (by (try simp only [Ls]); omega)


noncomputable def B17_0 : Code := (loopAtD [1, 1, 0, 1] [] (bodyOf Try.f17) []).1
noncomputable def K17_0 : List K := (loopAtD [1, 1, 0, 1] [] (bodyOf Try.f17) []).2

def st17_0 (a0 : List (Int) × TyN) (v1 : Int) (v2 : Int) : LS := ⟨slN 20 [(3, (iv v1)), (7, (.s 1 0 a0.2.length 8)), (8, (iv ((a0.2.length : Nat) : Int))), (9, (iv v2))], [(.live false true (flat c3 a0.1)), (.live false true (flat c40 a0.2))]⟩

def S17_0 (a0 : List (Int) × TyN) : Int × Int → (Int × Int) ⊕ (Int)
  | (v1, v2) =>
   (bif (decide ((v2 : Int) < ((a0.2.length : Nat) : Int))) then
    (bif (decide (((a0.2.getD (toNat v2) default).2.2.1 : Int) < 0)) then
     (.inl ((W (v1 + 1)), (v2 + 1)))
    else
     (.inl (v1, (v2 + 1))))
   else
    (.inr v1))

set_option maxHeartbeats 4000000 in
theorem L17_0 (a0 : List (Int) × TyN) (l0_1 : a0.1.length ≤ 9223372036854775807) (l0_2 : a0.2.length ≤ 9223372036854775807) (hl : a0.2.length ≤ 1048576) {cx : Cx} (hcx : cx.base = 2) : ∀ (n : Nat) (v1 : Int) (v2 : Int), 0 ≤ v2 → toNat (((a0.2.length : Nat) : Int) - v2) < n → Aw.Good Try.prog none 9 (bodyPost Try.prog Try.f17 (RR cx (iv (loopF (S17_0 a0) n (v1, v2))) [] [])) cx [] (.l B17_0 n :: K17_0) (st17_0 a0 v1 v2) := by
  intro n
  induction n with
  | zero => intro v1 v2 hi hn; exact absurd hn (Nat.not_lt_zero _)
  | succ n ih =>
    intro v1 v2 hi hn
    refine good_round ?_
    cases h0 : (decide ((v2 : Int) < ((a0.2.length : Nat) : Int))) with
    | true =>
     have q0 := of_decide_eq_true h0
     let t1 : List (St Try.prog) := [.d h0, .i v2 (a0.2.length), .L c40_len a0.2 v2 0 8]
     cases h1 : (decide (((a0.2.getD (toNat v2) default).2.2.1 : Int) < 0)) with
     | true =>
      have q1 := of_decide_eq_true h1
      have e := Eq.refl (S17_0 a0 (v1, v2)); conv at e => rhs; simp only [S17_0, h0, h1, cond_true, cond_false]
      rw [loopF_inl e]
      refine ba (t1 ++ [.d h1]) [] [3, 7, 8, 9] [] hcx (m := n) B17_0 (K17_0) (st17_0 a0 (W (v1 + 1)) (W (v2 + 1))) (by kernel_rfl) ?_
      have z0 : (W (v2 + 1)) = (v2 + 1) := W_eq (by omega) (by omega)
      rw [z0]
      exact ih (W (v1 + 1)) (v2 + 1) (by (try simp only [Ls]); omega) (by (try simp only [Ls]); omega)
     | false =>
      have q1 := of_decide_eq_false h1
      have e := Eq.refl (S17_0 a0 (v1, v2)); conv at e => rhs; simp only [S17_0, h0, h1, cond_true, cond_false]
      rw [loopF_inl e]
      refine ba (t1 ++ [.d h1]) [] [3, 7, 8, 9] [] hcx (m := n) B17_0 (K17_0) (st17_0 a0 v1 (W (v2 + 1))) (by kernel_rfl) ?_
      have z0 : (W (v2 + 1)) = (v2 + 1) := W_eq (by omega) (by omega)
      rw [z0]
      exact ih v1 (v2 + 1) (by (try simp only [Ls]); omega) (by (try simp only [Ls]); omega)
    | false =>
     have q0 := of_decide_eq_false h0
     have e := Eq.refl (S17_0 a0 (v1, v2)); conv at e => rhs; simp only [S17_0, h0, cond_true, cond_false]
     rw [loopF_s, e]
     exact rt [.d h0] [] [] hcx (by kernel_rfl)

def F17 (a0 : List (Int) × TyN) : Int :=
  (loopF (S17_0 a0) (toNat (((a0.2.length : Nat) : Int) - 0) + 1) (0, 0))

theorem C17 (a0 : List (Int) × TyN) (l0_1 : a0.1.length ≤ 9223372036854775807) (l0_2 : a0.2.length ≤ 9223372036854775807) (hl : a0.2.length ≤ 1048576) : Con Try.prog 17 [(.a [(.s 0 0 a0.1.length 1), (.s 1 0 a0.2.length 8)])] [(.live false true (flat c3 a0.1)), (.live false true (flat c40 a0.2))] (iv (F17 a0)) [] := by
  refine con_s Try.func17 (by kernel_rfl) fun cx hcx => ?_
  have e := Eq.refl (F17 a0); conv at e => rhs; simp only [F17]
  rw [e]
  refine en [] [] [3, 7, 8, 9] [] hcx B17_0 (K17_0) (st17_0 a0 0 0) (toNat (((a0.2.length : Nat) : Int) - 0) + 1) (by kernel_rfl) ?_
  exact L17_0 a0 l0_1 l0_2 hl hcx (toNat (((a0.2.length : Nat) : Int) - 0) + 1) 0 0 (by (try simp only [Ls]); omega) (by (try simp only [Ls]); omega)

noncomputable def B31_0 : Code := (loopAtD [1, 1, 0, 1] [] (bodyOf Try.f31) []).1
noncomputable def K31_0 : List K := (loopAtD [1, 1, 0, 1] [] (bodyOf Try.f31) []).2

def st31_0 (v2c : List SV) (v2n : Nat) (v3 : Int) : LS := ⟨slN 23 [(1, (.s 0 0 v2n 10)), (2, (iv v3))], [(.live true true v2c)]⟩

def S31_0 : TyL × Int → (TyL × Int) ⊕ TyL
  | (v2, v3) =>
   (bif (decide ((v3 : Int) < 4)) then
    (.inl ((v2 ++ [((((W (9 * v3)), 0, 0), ((W ((W (9 * v3)) + 1)), 0, 0), ((W (9 * v3)), 1, 0)), 1)]), (v3 + 1)))
   else
    (.inr v2))

set_option maxHeartbeats 4000000 in
theorem L31_0 {cx : Cx} (hcx : cx.base = 0) : ∀ (n : Nat) (v2 : TyL) (v3 : Int), (0 ≤ v3) ∧ (v2.length = toNat v3) ∧ (v3 ≤ 4) → toNat (4 - v3) < n → Aw.Good Try.prog none 9 (bodyPost Try.prog Try.f31 (RR cx (.s 0 0 (loopF (S31_0) n (v2, v3)).length 10) [(.live true true (flat c81 (loopF (S31_0) n (v2, v3))))] [])) cx [] (.l B31_0 n :: K31_0) (st31_0 (flat c81 v2) v2.length v3) := by
  intro n
  induction n with
  | zero => intro v2 v3 hi hn; exact absurd hn (Nat.not_lt_zero _)
  | succ n ih =>
    intro v2 v3 hi hn
    refine good_round ?_
    cases h0 : (decide ((v3 : Int) < 4)) with
    | true =>
     have q0 := of_decide_eq_true h0
     have e := Eq.refl (S31_0 (v2, v3)); conv at e => rhs; simp only [S31_0, h0, cond_true, cond_false]
     rw [loopF_inl e]
     refine ba [.d h0, .p (show ((flat c81 v2).length = v2.length * 10 ∧ v2.length + 1 ≤ 2 ^ 40 ∧ (v2.length + 1) * 80 ≤ 2 ^ 47) from app_ok c81_len (by omega) (by omega))] [] [1, 2] [2] hcx (m := n) B31_0 (K31_0) (st31_0 (flat c81 v2 ++ [(iv (W (9 * v3))), (iv 0), (iv 0), (iv (W ((W (9 * v3)) + 1))), (iv 0), (iv 0), (iv (W (9 * v3))), (iv 1), (iv 0), (iv 1)]) (v2.length + 1) (W (v3 + 1))) (by kernel_rfl) ?_
     have z0 : (W (v3 + 1)) = (v3 + 1) := W_eq (by omega) (by omega)
     have z1 : (flat c81 v2 ++ [(iv (W (9 * v3))), (iv 0), (iv 0), (iv (W ((W (9 * v3)) + 1))), (iv 0), (iv 0), (iv (W (9 * v3))), (iv 1), (iv 0), (iv 1)]) = (flat c81 (v2 ++ [((((W (9 * v3)), 0, 0), ((W ((W (9 * v3)) + 1)), 0, 0), ((W (9 * v3)), 1, 0)), 1)])) := (flat_append (c := c81) (l := v2) (m := [((((W (9 * v3)), 0, 0), ((W ((W (9 * v3)) + 1)), 0, 0), ((W (9 * v3)), 1, 0)), 1)])).symm
     have z2 : (v2.length + 1) = (v2 ++ [((((W (9 * v3)), 0, 0), ((W ((W (9 * v3)) + 1)), 0, 0), ((W (9 * v3)), 1, 0)), 1)]).length := len_app v2 [((((W (9 * v3)), 0, 0), ((W ((W (9 * v3)) + 1)), 0, 0), ((W (9 * v3)), 1, 0)), 1)] rfl
     rw [z0, z1, z2]
     exact ih (v2 ++ [((((W (9 * v3)), 0, 0), ((W ((W (9 * v3)) + 1)), 0, 0), ((W (9 * v3)), 1, 0)), 1)]) (v3 + 1) (by refine ⟨?_, ?_, ?_⟩ <;> (try simp only [Ls]) <;> first | omega | assumption | simp) (by (try simp only [Ls]); omega)
    | false =>
     have q0 := of_decide_eq_false h0
     have e := Eq.refl (S31_0 (v2, v3)); conv at e => rhs; simp only [S31_0, h0, cond_true, cond_false]
     rw [loopF_s, e]
     exact rt [.d h0] [] [0] hcx (by kernel_rfl)

def F31 : TyL :=
  (loopF (S31_0) (toNat (4 - 0) + 1) (([] : TyL), 0))

theorem C31 : Con Try.prog 31 [] [] (.s 0 0 F31.length 10) [(.live true true (flat c81 F31))] := by
  refine con_s Try.func31 (by kernel_rfl) fun cx hcx => ?_
  have e := Eq.refl F31; conv at e => rhs; simp only [F31]
  rw [e]
  refine en [] [.slot 1 10] [1, 2] [0] hcx B31_0 (K31_0) (st31_0 (flat c81 ([] : TyL)) 0 0) (toNat (4 - 0) + 1) (by kernel_rfl) ?_
  exact L31_0 hcx (toNat (4 - 0) + 1) ([] : TyL) 0 (by refine ⟨?_, ?_, ?_⟩ <;> (try simp only [Ls]) <;> first | omega | assumption | simp) (by (try simp only [Ls]); omega)

def F33 (a0 : Int) (a1 : Int) (a2 : Int) : Bool :=
  (bif (decide ((a0 : Int) ≥ a1)) then
   (decide ((a0 : Int) ≤ a2))
  else
   false)

theorem C33 (a0 : Int) (a1 : Int) (a2 : Int) : Con Try.prog 33 [(iv a0), (iv a1), (iv a2)] [] (.v (.bool (F33 a0 a1 a2))) [] := by
  refine con_s Try.func33 (by kernel_rfl) fun cx hcx => ?_
  cases h0 : (decide ((a0 : Int) ≥ a1)) with
  | true =>
   have q0 := of_decide_eq_true h0
   have e := Eq.refl (F33 a0 a1 a2); conv at e => rhs; simp only [F33, h0, cond_true, cond_false]
   rw [e]
   exact rt [.d h0] [] [] hcx (by kernel_rfl)
  | false =>
   have q0 := of_decide_eq_false h0
   have e := Eq.refl (F33 a0 a1 a2); conv at e => rhs; simp only [F33, h0, cond_true, cond_false]
   rw [e]
   exact rt [.d h0] [] [] hcx (by kernel_rfl)

theorem wit_1 {n m k : Int} (h : (!(F33 n k m)) = false) : k ≤ n := by
  simp only [F33] at h
  by_cases h1 : n ≥ k
  · exact h1
  · rw [decide_eq_false h1] at h; simp at h

def F11_L (a0 : TyL) (a1 : Int) : (List (Int) × TyN) × Int :=
  (bif (((F32_L a0) : Int) != 0) then
   ((([] : List (Int)), ([] : TyN)), (F32_L a0))
  else
   (bif (!(F33 a1 1 16)) then
    ((([] : List (Int)), ([] : TyN)), 1)
   else
    (((F34_L a0 a1).1, (F34_L a0 a1).2), 0)))

theorem C11_L (a0 : TyL) (a1 : Int) (l0 : a0.length ≤ 9223372036854775807) : Con Try.prog 11 [(.s 0 0 a0.length 10), (iv a1)] [(.live false true (flat c81 a0))] (.t [(.a [(.s 1 0 (F11_L a0 a1).1.1.length 1), (.s 2 0 (F11_L a0 a1).1.2.length 8)]), (iv (F11_L a0 a1).2)]) [(.live true true (flat c3 (F11_L a0 a1).1.1)), (.live true true (flat c40 (F11_L a0 a1).1.2))] := by
  refine con_s Try.func11 (by kernel_rfl) fun cx hcx => ?_
  let t0 : List (St Try.prog) := [.c [0] (C32_L a0 (by (try simp only [Lt]); omega))]
  cases h0 : (((F32_L a0) : Int) != 0) with
  | true =>
   have q0 := bne_iff_ne.1 h0
   have e := Eq.refl (F11_L a0 a1); conv at e => rhs; simp only [F11_L, h0, cond_true, cond_false]
   rw [e]
   exact rt (t0 ++ [.d h0]) [.cell 1 0 1, .cell 1 1 8] [2, 3] hcx (by kernel_rfl)
  | false =>
   have q0 := bne_eq_false_iff_eq.1 h0
   let t1 : List (St Try.prog) := (t0 ++ [.d h0, .c [] (C33 a1 1 16)])
   cases h1 : (!(F33 a1 1 16)) with
   | true =>
    have e := Eq.refl (F11_L a0 a1); conv at e => rhs; simp only [F11_L, h0, h1, cond_true, cond_false]
    rw [e]
    exact rt (t1 ++ [.d h1]) [.cell 1 0 1, .cell 1 1 8] [2, 3] hcx (by kernel_rfl)
   | false =>
    have e := Eq.refl (F11_L a0 a1); conv at e => rhs; simp only [F11_L, h0, h1, cond_true, cond_false]
    rw [e]
    exact rt (t1 ++ [.d h1, .c [0] (C34_L a0 a1 (by (try simp only [Lt]); omega) (vch_len (l := a0) (bne_eq_false_iff_eq.1 h0)) (wit_1 h1))]) [] [2, 3] hcx (by kernel_rfl)


noncomputable def B18_0 : Code := (loopAtD [1, 1, 0, 1] [] (bodyOf Try.f18) []).1
noncomputable def K18_0 : List K := (loopAtD [1, 1, 0, 1] [] (bodyOf Try.f18) []).2

def st18_0 (a0 : List (Int) × TyN) (v1c : List SV) (v1n : Nat) (v2 : Int) : LS := ⟨slN 69 [(1, (.p 2 0)), (3, (.s 3 0 v1n 1)), (4, (iv v2))], [(.live false true (flat c3 a0.1)), (.live false true (flat c40 a0.2)), (.live true false [(.s 0 0 a0.1.length 1), (.s 1 0 a0.2.length 8)]), (.live true true v1c)]⟩

def S18_0 (a0 : List (Int) × TyN) : List (Int) × Int → (List (Int) × Int) ⊕ (Int)
  | (v1, v2) =>
   (bif (decide ((v2 : Int) ≥ 0)) then
    (bif (decide (((a0.2.getD (toNat v2) default).2.2.1 : Int) > v2)) then
     (bif (decide (((a0.2.getD (toNat v2) default).2.2.1 : Int) < ((v1.length : Nat) : Int))) then
      (bif (decide (((a0.2.getD (toNat v2) default).2.2.2.1 : Int) > v2)) then
       (bif (decide (((a0.2.getD (toNat v2) default).2.2.2.1 : Int) < ((v1.length : Nat) : Int))) then
        (.inl ((((v1.set (toNat v2) 1).set (toNat v2) (imx ((v1.set (toNat v2) 1).getD (toNat v2) default) (W (((v1.set (toNat v2) 1).getD (toNat (a0.2.getD (toNat v2) default).2.2.1) default) + 1)))).set (toNat v2) (imx (((v1.set (toNat v2) 1).set (toNat v2) (imx ((v1.set (toNat v2) 1).getD (toNat v2) default) (W (((v1.set (toNat v2) 1).getD (toNat (a0.2.getD (toNat v2) default).2.2.1) default) + 1)))).getD (toNat v2) default) (W ((((v1.set (toNat v2) 1).set (toNat v2) (imx ((v1.set (toNat v2) 1).getD (toNat v2) default) (W (((v1.set (toNat v2) 1).getD (toNat (a0.2.getD (toNat v2) default).2.2.1) default) + 1)))).getD (toNat (a0.2.getD (toNat v2) default).2.2.2.1) default) + 1)))), (W (v2 - 1))))
       else
        (.inl (((v1.set (toNat v2) 1).set (toNat v2) (imx ((v1.set (toNat v2) 1).getD (toNat v2) default) (W (((v1.set (toNat v2) 1).getD (toNat (a0.2.getD (toNat v2) default).2.2.1) default) + 1)))), (W (v2 - 1)))))
      else
       (.inl (((v1.set (toNat v2) 1).set (toNat v2) (imx ((v1.set (toNat v2) 1).getD (toNat v2) default) (W (((v1.set (toNat v2) 1).getD (toNat (a0.2.getD (toNat v2) default).2.2.1) default) + 1)))), (W (v2 - 1)))))
     else
      (bif (decide (((a0.2.getD (toNat v2) default).2.2.2.1 : Int) > v2)) then
       (bif (decide (((a0.2.getD (toNat v2) default).2.2.2.1 : Int) < ((v1.length : Nat) : Int))) then
        (.inl (((v1.set (toNat v2) 1).set (toNat v2) (imx ((v1.set (toNat v2) 1).getD (toNat v2) default) (W (((v1.set (toNat v2) 1).getD (toNat (a0.2.getD (toNat v2) default).2.2.2.1) default) + 1)))), (W (v2 - 1))))
       else
        (.inl ((v1.set (toNat v2) 1), (W (v2 - 1)))))
      else
       (.inl ((v1.set (toNat v2) 1), (W (v2 - 1))))))
    else
     (bif (decide (((a0.2.getD (toNat v2) default).2.2.2.1 : Int) > v2)) then
      (bif (decide (((a0.2.getD (toNat v2) default).2.2.2.1 : Int) < ((v1.length : Nat) : Int))) then
       (.inl (((v1.set (toNat v2) 1).set (toNat v2) (imx ((v1.set (toNat v2) 1).getD (toNat v2) default) (W (((v1.set (toNat v2) 1).getD (toNat (a0.2.getD (toNat v2) default).2.2.2.1) default) + 1)))), (W (v2 - 1))))
      else
       (.inl ((v1.set (toNat v2) 1), (W (v2 - 1)))))
     else
      (.inl ((v1.set (toNat v2) 1), (W (v2 - 1))))))
   else
    (bif ((((v1.length : Nat) : Int) : Int) == 0) then
     (.inr 0)
    else
     (.inr (v1.getD (toNat 0) default))))

set_option maxHeartbeats 4000000 in
theorem L18_0 (a0 : List (Int) × TyN) (l0_1 : a0.1.length ≤ 9223372036854775807) (l0_2 : a0.2.length ≤ 9223372036854775807) (hl : a0.2.length ≤ 1048576) {cx : Cx} (hcx : cx.base = 2) : ∀ (n : Nat) (v1 : List (Int)) (v2 : Int), (v1.length = a0.2.length) ∧ (-1 ≤ v2) ∧ (v2 < a0.2.length) → toNat (v2 + 1) < n → Aw.Good Try.prog none 9 (bodyPost Try.prog Try.f18 (RR cx (iv (loopF (S18_0 a0) n (v1, v2))) [] [])) cx [] (.l B18_0 n :: K18_0) (st18_0 a0 (flat c3 v1) v1.length v2) := by
  intro n
  induction n with
  | zero => intro v1 v2 hi hn; exact absurd hn (Nat.not_lt_zero _)
  | succ n ih =>
    intro v1 v2 hi hn
    refine good_round ?_
    have hw_i := W_eq (n := v2 - 1) (by omega) (by omega)
    cases h0 : (decide ((v2 : Int) ≥ 0)) with
    | true =>
     have q0 := of_decide_eq_true h0
     let t1 : List (St Try.prog) := [.d h0, .i v2 (v1.length), .p (show ((0 + toNat v2 * 1) + 1 ≤ (flat c3 v1).length) from (flat_setl c3_len (by first | omega | (simp only [Lt]; omega)) (i := toNat v2) (o := 0) (n := 1) (Nb rfl))), .i v2 (a0.2.length), .L c40_len a0.2 v2 2 1, .i v2 (a0.2.length), .L c40_len a0.2 v2 3 1, .u 200, .T, .i 0 2 (by decide)]
     cases h1 : (decide (((a0.2.getD (toNat v2) default).2.2.1 : Int) > v2)) with
     | true =>
      have q1 := of_decide_eq_true h1
      let t2 : List (St Try.prog) := (t1 ++ [.d h1])
      cases h2 : (decide (((a0.2.getD (toNat v2) default).2.2.1 : Int) < ((v1.length : Nat) : Int))) with
      | true =>
       have q2 := of_decide_eq_true h2
       let t3 : List (St Try.prog) := (t2 ++ [.d h2, .i v2 (v1.length), .R c3_len (v1.set (toNat v2) 1) v2 0 1 (show (splice (flat c3 v1) (0 + toNat v2 * 1) [(iv 1)]) = flat c3 (v1.set (toNat v2) 1) from (flat_set c3_len (by first | omega | (simp only [Lt]; omega)) (i := toNat v2) (o := 0) (d := default) (y := 1) (xs := [(iv 1)]) (Nb rfl) rfl)), .i ((a0.2.getD (toNat v2) default).2.2.1) (v1.length), .R c3_len (v1.set (toNat v2) 1) (a0.2.getD (toNat v2) default).2.2.1 0 1 (show (splice (flat c3 v1) (0 + toNat v2 * 1) [(iv 1)]) = flat c3 (v1.set (toNat v2) 1) from (flat_set c3_len (by first | omega | (simp only [Lt]; omega)) (i := toNat v2) (o := 0) (d := default) (y := 1) (xs := [(iv 1)]) (Nb rfl) rfl)), .i v2 (v1.length), .p (show ((0 + toNat v2 * 1) + 1 ≤ (splice (flat c3 v1) (0 + toNat v2 * 1) [(iv 1)]).length) from (by rw [show (splice (flat c3 v1) (0 + toNat v2 * 1) [(iv 1)]) = flat c3 (v1.set (toNat v2) 1) from (flat_set c3_len (by first | omega | (simp only [Lt]; omega)) (i := toNat v2) (o := 0) (d := default) (y := 1) (xs := [(iv 1)]) (Nb rfl) rfl)]; exact flat_setl c3_len (by first | omega | (simp only [Lt]; omega)) (i := toNat v2) (o := 0) (n := 1) (Nb rfl))), .u 0, .T, .i 1 2 (by decide)])
       cases h3 : (decide (((a0.2.getD (toNat v2) default).2.2.2.1 : Int) > v2)) with
       | true =>
        have q3 := of_decide_eq_true h3
        let t4 : List (St Try.prog) := (t3 ++ [.d h3])
        cases h4 : (decide (((a0.2.getD (toNat v2) default).2.2.2.1 : Int) < ((v1.length : Nat) : Int))) with
        | true =>
         have q4 := of_decide_eq_true h4
         have e := Eq.refl (S18_0 a0 (v1, v2)); conv at e => rhs; simp only [S18_0, h0, h1, h2, h3, h4, cond_true, cond_false]
         rw [loopF_inl e]
         refine ba (t4 ++ [.d h4, .i v2 (v1.length), .R c3_len ((v1.set (toNat v2) 1).set (toNat v2) (imx ((v1.set (toNat v2) 1).getD (toNat v2) default) (W (((v1.set (toNat v2) 1).getD (toNat (a0.2.getD (toNat v2) default).2.2.1) default) + 1)))) v2 0 1 (show (splice (splice (flat c3 v1) (0 + toNat v2 * 1) [(iv 1)]) (0 + toNat v2 * 1) [(iv (imx ((v1.set (toNat v2) 1).getD (toNat v2) default) (W (((v1.set (toNat v2) 1).getD (toNat (a0.2.getD (toNat v2) default).2.2.1) default) + 1))))]) = flat c3 ((v1.set (toNat v2) 1).set (toNat v2) (imx ((v1.set (toNat v2) 1).getD (toNat v2) default) (W (((v1.set (toNat v2) 1).getD (toNat (a0.2.getD (toNat v2) default).2.2.1) default) + 1)))) from (by rw [show (splice (flat c3 v1) (0 + toNat v2 * 1) [(iv 1)]) = flat c3 (v1.set (toNat v2) 1) from (flat_set c3_len (by first | omega | (simp only [Lt]; omega)) (i := toNat v2) (o := 0) (d := default) (y := 1) (xs := [(iv 1)]) (Nb rfl) rfl)]; exact flat_set c3_len (by first | omega | (simp only [Lt]; omega)) (i := toNat v2) (o := 0) (d := default) (y := (imx ((v1.set (toNat v2) 1).getD (toNat v2) default) (W (((v1.set (toNat v2) 1).getD (toNat (a0.2.getD (toNat v2) default).2.2.1) default) + 1)))) (xs := [(iv (imx ((v1.set (toNat v2) 1).getD (toNat v2) default) (W (((v1.set (toNat v2) 1).getD (toNat (a0.2.getD (toNat v2) default).2.2.1) default) + 1))))]) (Nb rfl) rfl)), .i ((a0.2.getD (toNat v2) default).2.2.2.1) (v1.length), .R c3_len ((v1.set (toNat v2) 1).set (toNat v2) (imx ((v1.set (toNat v2) 1).getD (toNat v2) default) (W (((v1.set (toNat v2) 1).getD (toNat (a0.2.getD (toNat v2) default).2.2.1) default) + 1)))) (a0.2.getD (toNat v2) default).2.2.2.1 0 1 (show (splice (splice (flat c3 v1) (0 + toNat v2 * 1) [(iv 1)]) (0 + toNat v2 * 1) [(iv (imx ((v1.set (toNat v2) 1).getD (toNat v2) default) (W (((v1.set (toNat v2) 1).getD (toNat (a0.2.getD (toNat v2) default).2.2.1) default) + 1))))]) = flat c3 ((v1.set (toNat v2) 1).set (toNat v2) (imx ((v1.set (toNat v2) 1).getD (toNat v2) default) (W (((v1.set (toNat v2) 1).getD (toNat (a0.2.getD (toNat v2) default).2.2.1) default) + 1)))) from (by rw [show (splice (flat c3 v1) (0 + toNat v2 * 1) [(iv 1)]) = flat c3 (v1.set (toNat v2) 1) from (flat_set c3_len (by first | omega | (simp only [Lt]; omega)) (i := toNat v2) (o := 0) (d := default) (y := 1) (xs := [(iv 1)]) (Nb rfl) rfl)]; exact flat_set c3_len (by first | omega | (simp only [Lt]; omega)) (i := toNat v2) (o := 0) (d := default) (y := (imx ((v1.set (toNat v2) 1).getD (toNat v2) default) (W (((v1.set (toNat v2) 1).getD (toNat (a0.2.getD (toNat v2) default).2.2.1) default) + 1)))) (xs := [(iv (imx ((v1.set (toNat v2) 1).getD (toNat v2) default) (W (((v1.set (toNat v2) 1).getD (toNat (a0.2.getD (toNat v2) default).2.2.1) default) + 1))))]) (Nb rfl) rfl)), .i v2 (v1.length), .p (show ((0 + toNat v2 * 1) + 1 ≤ (splice (splice (flat c3 v1) (0 + toNat v2 * 1) [(iv 1)]) (0 + toNat v2 * 1) [(iv (imx ((v1.set (toNat v2) 1).getD (toNat v2) default) (W (((v1.set (toNat v2) 1).getD (toNat (a0.2.getD (toNat v2) default).2.2.1) default) + 1))))]).length) from (by rw [show (splice (splice (flat c3 v1) (0 + toNat v2 * 1) [(iv 1)]) (0 + toNat v2 * 1) [(iv (imx ((v1.set (toNat v2) 1).getD (toNat v2) default) (W (((v1.set (toNat v2) 1).getD (toNat (a0.2.getD (toNat v2) default).2.2.1) default) + 1))))]) = flat c3 ((v1.set (toNat v2) 1).set (toNat v2) (imx ((v1.set (toNat v2) 1).getD (toNat v2) default) (W (((v1.set (toNat v2) 1).getD (toNat (a0.2.getD (toNat v2) default).2.2.1) default) + 1)))) from (by rw [show (splice (flat c3 v1) (0 + toNat v2 * 1) [(iv 1)]) = flat c3 (v1.set (toNat v2) 1) from (flat_set c3_len (by first | omega | (simp only [Lt]; omega)) (i := toNat v2) (o := 0) (d := default) (y := 1) (xs := [(iv 1)]) (Nb rfl) rfl)]; exact flat_set c3_len (by first | omega | (simp only [Lt]; omega)) (i := toNat v2) (o := 0) (d := default) (y := (imx ((v1.set (toNat v2) 1).getD (toNat v2) default) (W (((v1.set (toNat v2) 1).getD (toNat (a0.2.getD (toNat v2) default).2.2.1) default) + 1)))) (xs := [(iv (imx ((v1.set (toNat v2) 1).getD (toNat v2) default) (W (((v1.set (toNat v2) 1).getD (toNat (a0.2.getD (toNat v2) default).2.2.1) default) + 1))))]) (Nb rfl) rfl)]; exact flat_setl c3_len (by first | omega | (simp only [Lt]; omega)) (i := toNat v2) (o := 0) (n := 1) (Nb rfl))), .u 0, .F]) [] [1, 3, 4] [2, 3] hcx (m := n) B18_0 (K18_0) (st18_0 a0 (splice (splice (splice (flat c3 v1) (0 + toNat v2 * 1) [(iv 1)]) (0 + toNat v2 * 1) [(iv (imx ((v1.set (toNat v2) 1).getD (toNat v2) default) (W (((v1.set (toNat v2) 1).getD (toNat (a0.2.getD (toNat v2) default).2.2.1) default) + 1))))]) (0 + toNat v2 * 1) [(iv (imx (((v1.set (toNat v2) 1).set (toNat v2) (imx ((v1.set (toNat v2) 1).getD (toNat v2) default) (W (((v1.set (toNat v2) 1).getD (toNat (a0.2.getD (toNat v2) default).2.2.1) default) + 1)))).getD (toNat v2) default) (W ((((v1.set (toNat v2) 1).set (toNat v2) (imx ((v1.set (toNat v2) 1).getD (toNat v2) default) (W (((v1.set (toNat v2) 1).getD (toNat (a0.2.getD (toNat v2) default).2.2.1) default) + 1)))).getD (toNat (a0.2.getD (toNat v2) default).2.2.2.1) default) + 1))))]) (v1.length) (W (v2 - 1))) (by kernel_rfl) ?_
         have z0 : (splice (splice (splice (flat c3 v1) (0 + toNat v2 * 1) [(iv 1)]) (0 + toNat v2 * 1) [(iv (imx ((v1.set (toNat v2) 1).getD (toNat v2) default) (W (((v1.set (toNat v2) 1).getD (toNat (a0.2.getD (toNat v2) default).2.2.1) default) + 1))))]) (0 + toNat v2 * 1) [(iv (imx (((v1.set (toNat v2) 1).set (toNat v2) (imx ((v1.set (toNat v2) 1).getD (toNat v2) default) (W (((v1.set (toNat v2) 1).getD (toNat (a0.2.getD (toNat v2) default).2.2.1) default) + 1)))).getD (toNat v2) default) (W ((((v1.set (toNat v2) 1).set (toNat v2) (imx ((v1.set (toNat v2) 1).getD (toNat v2) default) (W (((v1.set (toNat v2) 1).getD (toNat (a0.2.getD (toNat v2) default).2.2.1) default) + 1)))).getD (toNat (a0.2.getD (toNat v2) default).2.2.2.1) default) + 1))))]) = flat c3 (((v1.set (toNat v2) 1).set (toNat v2) (imx ((v1.set (toNat v2) 1).getD (toNat v2) default) (W (((v1.set (toNat v2) 1).getD (toNat (a0.2.getD (toNat v2) default).2.2.1) default) + 1)))).set (toNat v2) (imx (((v1.set (toNat v2) 1).set (toNat v2) (imx ((v1.set (toNat v2) 1).getD (toNat v2) default) (W (((v1.set (toNat v2) 1).getD (toNat (a0.2.getD (toNat v2) default).2.2.1) default) + 1)))).getD (toNat v2) default) (W ((((v1.set (toNat v2) 1).set (toNat v2) (imx ((v1.set (toNat v2) 1).getD (toNat v2) default) (W (((v1.set (toNat v2) 1).getD (toNat (a0.2.getD (toNat v2) default).2.2.1) default) + 1)))).getD (toNat (a0.2.getD (toNat v2) default).2.2.2.1) default) + 1)))) := (by rw [show (splice (splice (flat c3 v1) (0 + toNat v2 * 1) [(iv 1)]) (0 + toNat v2 * 1) [(iv (imx ((v1.set (toNat v2) 1).getD (toNat v2) default) (W (((v1.set (toNat v2) 1).getD (toNat (a0.2.getD (toNat v2) default).2.2.1) default) + 1))))]) = flat c3 ((v1.set (toNat v2) 1).set (toNat v2) (imx ((v1.set (toNat v2) 1).getD (toNat v2) default) (W (((v1.set (toNat v2) 1).getD (toNat (a0.2.getD (toNat v2) default).2.2.1) default) + 1)))) from (by rw [show (splice (flat c3 v1) (0 + toNat v2 * 1) [(iv 1)]) = flat c3 (v1.set (toNat v2) 1) from (flat_set c3_len (by first | omega | (simp only [Lt]; omega)) (i := toNat v2) (o := 0) (d := default) (y := 1) (xs := [(iv 1)]) (Nb rfl) rfl)]; exact flat_set c3_len (by first | omega | (simp only [Lt]; omega)) (i := toNat v2) (o := 0) (d := default) (y := (imx ((v1.set (toNat v2) 1).getD (toNat v2) default) (W (((v1.set (toNat v2) 1).getD (toNat (a0.2.getD (toNat v2) default).2.2.1) default) + 1)))) (xs := [(iv (imx ((v1.set (toNat v2) 1).getD (toNat v2) default) (W (((v1.set (toNat v2) 1).getD (toNat (a0.2.getD (toNat v2) default).2.2.1) default) + 1))))]) (Nb rfl) rfl)]; exact flat_set c3_len (by first | omega | (simp only [Lt]; omega)) (i := toNat v2) (o := 0) (d := default) (y := (imx (((v1.set (toNat v2) 1).set (toNat v2) (imx ((v1.set (toNat v2) 1).getD (toNat v2) default) (W (((v1.set (toNat v2) 1).getD (toNat (a0.2.getD (toNat v2) default).2.2.1) default) + 1)))).getD (toNat v2) default) (W ((((v1.set (toNat v2) 1).set (toNat v2) (imx ((v1.set (toNat v2) 1).getD (toNat v2) default) (W (((v1.set (toNat v2) 1).getD (toNat (a0.2.getD (toNat v2) default).2.2.1) default) + 1)))).getD (toNat (a0.2.getD (toNat v2) default).2.2.2.1) default) + 1)))) (xs := [(iv (imx (((v1.set (toNat v2) 1).set (toNat v2) (imx ((v1.set (toNat v2) 1).getD (toNat v2) default) (W (((v1.set (toNat v2) 1).getD (toNat (a0.2.getD (toNat v2) default).2.2.1) default) + 1)))).getD (toNat v2) default) (W ((((v1.set (toNat v2) 1).set (toNat v2) (imx ((v1.set (toNat v2) 1).getD (toNat v2) default) (W (((v1.set (toNat v2) 1).getD (toNat (a0.2.getD (toNat v2) default).2.2.1) default) + 1)))).getD (toNat (a0.2.getD (toNat v2) default).2.2.2.1) default) + 1))))]) (Nb rfl) rfl)
         have z1 : v1.length = (((v1.set (toNat v2) 1).set (toNat v2) (imx ((v1.set (toNat v2) 1).getD (toNat v2) default) (W (((v1.set (toNat v2) 1).getD (toNat (a0.2.getD (toNat v2) default).2.2.1) default) + 1)))).set (toNat v2) (imx (((v1.set (toNat v2) 1).set (toNat v2) (imx ((v1.set (toNat v2) 1).getD (toNat v2) default) (W (((v1.set (toNat v2) 1).getD (toNat (a0.2.getD (toNat v2) default).2.2.1) default) + 1)))).getD (toNat v2) default) (W ((((v1.set (toNat v2) 1).set (toNat v2) (imx ((v1.set (toNat v2) 1).getD (toNat v2) default) (W (((v1.set (toNat v2) 1).getD (toNat (a0.2.getD (toNat v2) default).2.2.1) default) + 1)))).getD (toNat (a0.2.getD (toNat v2) default).2.2.2.1) default) + 1)))).length := by simp
         rw [z0, z1]
         exact ih (((v1.set (toNat v2) 1).set (toNat v2) (imx ((v1.set (toNat v2) 1).getD (toNat v2) default) (W (((v1.set (toNat v2) 1).getD (toNat (a0.2.getD (toNat v2) default).2.2.1) default) + 1)))).set (toNat v2) (imx (((v1.set (toNat v2) 1).set (toNat v2) (imx ((v1.set (toNat v2) 1).getD (toNat v2) default) (W (((v1.set (toNat v2) 1).getD (toNat (a0.2.getD (toNat v2) default).2.2.1) default) + 1)))).getD (toNat v2) default) (W ((((v1.set (toNat v2) 1).set (toNat v2) (imx ((v1.set (toNat v2) 1).getD (toNat v2) default) (W (((v1.set (toNat v2) 1).getD (toNat (a0.2.getD (toNat v2) default).2.2.1) default) + 1)))).getD (toNat (a0.2.getD (toNat v2) default).2.2.2.1) default) + 1)))) (W (v2 - 1)) (by refine ⟨?_, ?_, ?_⟩ <;> (try simp only [Ls]) <;> first | omega | assumption | simp) (by (try simp only [Ls]); omega)
        | false =>
         have q4 := of_decide_eq_false h4
         have e := Eq.refl (S18_0 a0 (v1, v2)); conv at e => rhs; simp only [S18_0, h0, h1, h2, h3, h4, cond_true, cond_false]
         rw [loopF_inl e]
         refine ba (t4 ++ [.d h4, .u 0, .F]) [] [1, 3, 4] [2, 3] hcx (m := n) B18_0 (K18_0) (st18_0 a0 (splice (splice (flat c3 v1) (0 + toNat v2 * 1) [(iv 1)]) (0 + toNat v2 * 1) [(iv (imx ((v1.set (toNat v2) 1).getD (toNat v2) default) (W (((v1.set (toNat v2) 1).getD (toNat (a0.2.getD (toNat v2) default).2.2.1) default) + 1))))]) (v1.length) (W (v2 - 1))) (by kernel_rfl) ?_
         have z0 : (splice (splice (flat c3 v1) (0 + toNat v2 * 1) [(iv 1)]) (0 + toNat v2 * 1) [(iv (imx ((v1.set (toNat v2) 1).getD (toNat v2) default) (W (((v1.set (toNat v2) 1).getD (toNat (a0.2.getD (toNat v2) default).2.2.1) default) + 1))))]) = flat c3 ((v1.set (toNat v2) 1).set (toNat v2) (imx ((v1.set (toNat v2) 1).getD (toNat v2) default) (W (((v1.set (toNat v2) 1).getD (toNat (a0.2.getD (toNat v2) default).2.2.1) default) + 1)))) := (by rw [show (splice (flat c3 v1) (0 + toNat v2 * 1) [(iv 1)]) = flat c3 (v1.set (toNat v2) 1) from (flat_set c3_len (by first | omega | (simp only [Lt]; omega)) (i := toNat v2) (o := 0) (d := default) (y := 1) (xs := [(iv 1)]) (Nb rfl) rfl)]; exact flat_set c3_len (by first | omega | (simp only [Lt]; omega)) (i := toNat v2) (o := 0) (d := default) (y := (imx ((v1.set (toNat v2) 1).getD (toNat v2) default) (W (((v1.set (toNat v2) 1).getD (toNat (a0.2.getD (toNat v2) default).2.2.1) default) + 1)))) (xs := [(iv (imx ((v1.set (toNat v2) 1).getD (toNat v2) default) (W (((v1.set (toNat v2) 1).getD (toNat (a0.2.getD (toNat v2) default).2.2.1) default) + 1))))]) (Nb rfl) rfl)
         have z1 : v1.length = ((v1.set (toNat v2) 1).set (toNat v2) (imx ((v1.set (toNat v2) 1).getD (toNat v2) default) (W (((v1.set (toNat v2) 1).getD (toNat (a0.2.getD (toNat v2) default).2.2.1) default) + 1)))).length := by simp
         rw [z0, z1]
         exact ih ((v1.set (toNat v2) 1).set (toNat v2) (imx ((v1.set (toNat v2) 1).getD (toNat v2) default) (W (((v1.set (toNat v2) 1).getD (toNat (a0.2.getD (toNat v2) default).2.2.1) default) + 1)))) (W (v2 - 1)) (by refine ⟨?_, ?_, ?_⟩ <;> (try simp only [Ls]) <;> first | omega | assumption | simp) (by (try simp only [Ls]); omega)
       | false =>
        have q3 := of_decide_eq_false h3
        have e := Eq.refl (S18_0 a0 (v1, v2)); conv at e => rhs; simp only [S18_0, h0, h1, h2, h3, cond_true, cond_false]
        rw [loopF_inl e]
        refine ba (t3 ++ [.d h3, .u 0, .F]) [] [1, 3, 4] [2, 3] hcx (m := n) B18_0 (K18_0) (st18_0 a0 (splice (splice (flat c3 v1) (0 + toNat v2 * 1) [(iv 1)]) (0 + toNat v2 * 1) [(iv (imx ((v1.set (toNat v2) 1).getD (toNat v2) default) (W (((v1.set (toNat v2) 1).getD (toNat (a0.2.getD (toNat v2) default).2.2.1) default) + 1))))]) (v1.length) (W (v2 - 1))) (by kernel_rfl) ?_
        have z0 : (splice (splice (flat c3 v1) (0 + toNat v2 * 1) [(iv 1)]) (0 + toNat v2 * 1) [(iv (imx ((v1.set (toNat v2) 1).getD (toNat v2) default) (W (((v1.set (toNat v2) 1).getD (toNat (a0.2.getD (toNat v2) default).2.2.1) default) + 1))))]) = flat c3 ((v1.set (toNat v2) 1).set (toNat v2) (imx ((v1.set (toNat v2) 1).getD (toNat v2) default) (W (((v1.set (toNat v2) 1).getD (toNat (a0.2.getD (toNat v2) default).2.2.1) default) + 1)))) := (by rw [show (splice (flat c3 v1) (0 + toNat v2 * 1) [(iv 1)]) = flat c3 (v1.set (toNat v2) 1) from (flat_set c3_len (by first | omega | (simp only [Lt]; omega)) (i := toNat v2) (o := 0) (d := default) (y := 1) (xs := [(iv 1)]) (Nb rfl) rfl)]; exact flat_set c3_len (by first | omega | (simp only [Lt]; omega)) (i := toNat v2) (o := 0) (d := default) (y := (imx ((v1.set (toNat v2) 1).getD (toNat v2) default) (W (((v1.set (toNat v2) 1).getD (toNat (a0.2.getD (toNat v2) default).2.2.1) default) + 1)))) (xs := [(iv (imx ((v1.set (toNat v2) 1).getD (toNat v2) default) (W (((v1.set (toNat v2) 1).getD (toNat (a0.2.getD (toNat v2) default).2.2.1) default) + 1))))]) (Nb rfl) rfl)
        have z1 : v1.length = ((v1.set (toNat v2) 1).set (toNat v2) (imx ((v1.set (toNat v2) 1).getD (toNat v2) default) (W (((v1.set (toNat v2) 1).getD (toNat (a0.2.getD (toNat v2) default).2.2.1) default) + 1)))).length := by simp
        rw [z0, z1]
        exact ih ((v1.set (toNat v2) 1).set (toNat v2) (imx ((v1.set (toNat v2) 1).getD (toNat v2) default) (W (((v1.set (toNat v2) 1).getD (toNat (a0.2.getD (toNat v2) default).2.2.1) default) + 1)))) (W (v2 - 1)) (by refine ⟨?_, ?_, ?_⟩ <;> (try simp only [Ls]) <;> first | omega | assumption | simp) (by (try simp only [Ls]); omega)
      | false =>
       have q2 := of_decide_eq_false h2
       let t3 : List (St Try.prog) := (t2 ++ [.d h2, .u 0, .T, .i 1 2 (by decide)])
       cases h3 : (decide (((a0.2.getD (toNat v2) default).2.2.2.1 : Int) > v2)) with
       | true =>
        have q3 := of_decide_eq_true h3
        let t4 : List (St Try.prog) := (t3 ++ [.d h3])
        cases h4 : (decide (((a0.2.getD (toNat v2) default).2.2.2.1 : Int) < ((v1.length : Nat) : Int))) with
        | true =>
         have q4 := of_decide_eq_true h4
         have e := Eq.refl (S18_0 a0 (v1, v2)); conv at e => rhs; simp only [S18_0, h0, h1, h2, h3, h4, cond_true, cond_false]
         rw [loopF_inl e]
         refine ba (t4 ++ [.d h4, .i v2 (v1.length), .R c3_len (v1.set (toNat v2) 1) v2 0 1 (show (splice (flat c3 v1) (0 + toNat v2 * 1) [(iv 1)]) = flat c3 (v1.set (toNat v2) 1) from (flat_set c3_len (by first | omega | (simp only [Lt]; omega)) (i := toNat v2) (o := 0) (d := default) (y := 1) (xs := [(iv 1)]) (Nb rfl) rfl)), .i ((a0.2.getD (toNat v2) default).2.2.2.1) (v1.length), .R c3_len (v1.set (toNat v2) 1) (a0.2.getD (toNat v2) default).2.2.2.1 0 1 (show (splice (flat c3 v1) (0 + toNat v2 * 1) [(iv 1)]) = flat c3 (v1.set (toNat v2) 1) from (flat_set c3_len (by first | omega | (simp only [Lt]; omega)) (i := toNat v2) (o := 0) (d := default) (y := 1) (xs := [(iv 1)]) (Nb rfl) rfl)), .i v2 (v1.length), .p (show ((0 + toNat v2 * 1) + 1 ≤ (splice (flat c3 v1) (0 + toNat v2 * 1) [(iv 1)]).length) from (by rw [show (splice (flat c3 v1) (0 + toNat v2 * 1) [(iv 1)]) = flat c3 (v1.set (toNat v2) 1) from (flat_set c3_len (by first | omega | (simp only [Lt]; omega)) (i := toNat v2) (o := 0) (d := default) (y := 1) (xs := [(iv 1)]) (Nb rfl) rfl)]; exact flat_setl c3_len (by first | omega | (simp only [Lt]; omega)) (i := toNat v2) (o := 0) (n := 1) (Nb rfl))), .u 0, .F]) [] [1, 3, 4] [2, 3] hcx (m := n) B18_0 (K18_0) (st18_0 a0 (splice (splice (flat c3 v1) (0 + toNat v2 * 1) [(iv 1)]) (0 + toNat v2 * 1) [(iv (imx ((v1.set (toNat v2) 1).getD (toNat v2) default) (W (((v1.set (toNat v2) 1).getD (toNat (a0.2.getD (toNat v2) default).2.2.2.1) default) + 1))))]) (v1.length) (W (v2 - 1))) (by kernel_rfl) ?_
         have z0 : (splice (splice (flat c3 v1) (0 + toNat v2 * 1) [(iv 1)]) (0 + toNat v2 * 1) [(iv (imx ((v1.set (toNat v2) 1).getD (toNat v2) default) (W (((v1.set (toNat v2) 1).getD (toNat (a0.2.getD (toNat v2) default).2.2.2.1) default) + 1))))]) = flat c3 ((v1.set (toNat v2) 1).set (toNat v2) (imx ((v1.set (toNat v2) 1).getD (toNat v2) default) (W (((v1.set (toNat v2) 1).getD (toNat (a0.2.getD (toNat v2) default).2.2.2.1) default) + 1)))) := (by rw [show (splice (flat c3 v1) (0 + toNat v2 * 1) [(iv 1)]) = flat c3 (v1.set (toNat v2) 1) from (flat_set c3_len (by first | omega | (simp only [Lt]; omega)) (i := toNat v2) (o := 0) (d := default) (y := 1) (xs := [(iv 1)]) (Nb rfl) rfl)]; exact flat_set c3_len (by first | omega | (simp only [Lt]; omega)) (i := toNat v2) (o := 0) (d := default) (y := (imx ((v1.set (toNat v2) 1).getD (toNat v2) default) (W (((v1.set (toNat v2) 1).getD (toNat (a0.2.getD (toNat v2) default).2.2.2.1) default) + 1)))) (xs := [(iv (imx ((v1.set (toNat v2) 1).getD (toNat v2) default) (W (((v1.set (toNat v2) 1).getD (toNat (a0.2.getD (toNat v2) default).2.2.2.1) default) + 1))))]) (Nb rfl) rfl)
         have z1 : v1.length = ((v1.set (toNat v2) 1).set (toNat v2) (imx ((v1.set (toNat v2) 1).getD (toNat v2) default) (W (((v1.set (toNat v2) 1).getD (toNat (a0.2.getD (toNat v2) default).2.2.2.1) default) + 1)))).length := by simp
         rw [z0, z1]
         exact ih ((v1.set (toNat v2) 1).set (toNat v2) (imx ((v1.set (toNat v2) 1).getD (toNat v2) default) (W (((v1.set (toNat v2) 1).getD (toNat (a0.2.getD (toNat v2) default).2.2.2.1) default) + 1)))) (W (v2 - 1)) (by refine ⟨?_, ?_, ?_⟩ <;> (try simp only [Ls]) <;> first | omega | assumption | simp) (by (try simp only [Ls]); omega)
        | false =>
         have q4 := of_decide_eq_false h4
         have e := Eq.refl (S18_0 a0 (v1, v2)); conv at e => rhs; simp only [S18_0, h0, h1, h2, h3, h4, cond_true, cond_false]
         rw [loopF_inl e]
         refine ba (t4 ++ [.d h4, .u 0, .F]) [] [1, 3, 4] [2, 3] hcx (m := n) B18_0 (K18_0) (st18_0 a0 (splice (flat c3 v1) (0 + toNat v2 * 1) [(iv 1)]) (v1.length) (W (v2 - 1))) (by kernel_rfl) ?_
         have z0 : (splice (flat c3 v1) (0 + toNat v2 * 1) [(iv 1)]) = flat c3 (v1.set (toNat v2) 1) := (flat_set c3_len (by first | omega | (simp only [Lt]; omega)) (i := toNat v2) (o := 0) (d := default) (y := 1) (xs := [(iv 1)]) (Nb rfl) rfl)
         have z1 : v1.length = (v1.set (toNat v2) 1).length := by simp
         rw [z0, z1]
         exact ih (v1.set (toNat v2) 1) (W (v2 - 1)) (by refine ⟨?_, ?_, ?_⟩ <;> (try simp only [Ls]) <;> first | omega | assumption | simp) (by (try simp only [Ls]); omega)
       | false =>
        have q3 := of_decide_eq_false h3
        have e := Eq.refl (S18_0 a0 (v1, v2)); conv at e => rhs; simp only [S18_0, h0, h1, h2, h3, cond_true, cond_false]
        rw [loopF_inl e]
        refine ba (t3 ++ [.d h3, .u 0, .F]) [] [1, 3, 4] [2, 3] hcx (m := n) B18_0 (K18_0) (st18_0 a0 (splice (flat c3 v1) (0 + toNat v2 * 1) [(iv 1)]) (v1.length) (W (v2 - 1))) (by kernel_rfl) ?_
        have z0 : (splice (flat c3 v1) (0 + toNat v2 * 1) [(iv 1)]) = flat c3 (v1.set (toNat v2) 1) := (flat_set c3_len (by first | omega | (simp only [Lt]; omega)) (i := toNat v2) (o := 0) (d := default) (y := 1) (xs := [(iv 1)]) (Nb rfl) rfl)
        have z1 : v1.length = (v1.set (toNat v2) 1).length := by simp
        rw [z0, z1]
        exact ih (v1.set (toNat v2) 1) (W (v2 - 1)) (by refine ⟨?_, ?_, ?_⟩ <;> (try simp only [Ls]) <;> first | omega | assumption | simp) (by (try simp only [Ls]); omega)
     | false =>
      have q1 := of_decide_eq_false h1
      let t2 : List (St Try.prog) := (t1 ++ [.d h1, .u 0, .T, .i 1 2 (by decide)])
      cases h2 : (decide (((a0.2.getD (toNat v2) default).2.2.2.1 : Int) > v2)) with
      | true =>
       have q2 := of_decide_eq_true h2
       let t3 : List (St Try.prog) := (t2 ++ [.d h2])
       cases h3 : (decide (((a0.2.getD (toNat v2) default).2.2.2.1 : Int) < ((v1.length : Nat) : Int))) with
       | true =>
        have q3 := of_decide_eq_true h3
        have e := Eq.refl (S18_0 a0 (v1, v2)); conv at e => rhs; simp only [S18_0, h0, h1, h2, h3, cond_true, cond_false]
        rw [loopF_inl e]
        refine ba (t3 ++ [.d h3, .i v2 (v1.length), .R c3_len (v1.set (toNat v2) 1) v2 0 1 (show (splice (flat c3 v1) (0 + toNat v2 * 1) [(iv 1)]) = flat c3 (v1.set (toNat v2) 1) from (flat_set c3_len (by first | omega | (simp only [Lt]; omega)) (i := toNat v2) (o := 0) (d := default) (y := 1) (xs := [(iv 1)]) (Nb rfl) rfl)), .i ((a0.2.getD (toNat v2) default).2.2.2.1) (v1.length), .R c3_len (v1.set (toNat v2) 1) (a0.2.getD (toNat v2) default).2.2.2.1 0 1 (show (splice (flat c3 v1) (0 + toNat v2 * 1) [(iv 1)]) = flat c3 (v1.set (toNat v2) 1) from (flat_set c3_len (by first | omega | (simp only [Lt]; omega)) (i := toNat v2) (o := 0) (d := default) (y := 1) (xs := [(iv 1)]) (Nb rfl) rfl)), .i v2 (v1.length), .p (show ((0 + toNat v2 * 1) + 1 ≤ (splice (flat c3 v1) (0 + toNat v2 * 1) [(iv 1)]).length) from (by rw [show (splice (flat c3 v1) (0 + toNat v2 * 1) [(iv 1)]) = flat c3 (v1.set (toNat v2) 1) from (flat_set c3_len (by first | omega | (simp only [Lt]; omega)) (i := toNat v2) (o := 0) (d := default) (y := 1) (xs := [(iv 1)]) (Nb rfl) rfl)]; exact flat_setl c3_len (by first | omega | (simp only [Lt]; omega)) (i := toNat v2) (o := 0) (n := 1) (Nb rfl))), .u 0, .F]) [] [1, 3, 4] [2, 3] hcx (m := n) B18_0 (K18_0) (st18_0 a0 (splice (splice (flat c3 v1) (0 + toNat v2 * 1) [(iv 1)]) (0 + toNat v2 * 1) [(iv (imx ((v1.set (toNat v2) 1).getD (toNat v2) default) (W (((v1.set (toNat v2) 1).getD (toNat (a0.2.getD (toNat v2) default).2.2.2.1) default) + 1))))]) (v1.length) (W (v2 - 1))) (by kernel_rfl) ?_
        have z0 : (splice (splice (flat c3 v1) (0 + toNat v2 * 1) [(iv 1)]) (0 + toNat v2 * 1) [(iv (imx ((v1.set (toNat v2) 1).getD (toNat v2) default) (W (((v1.set (toNat v2) 1).getD (toNat (a0.2.getD (toNat v2) default).2.2.2.1) default) + 1))))]) = flat c3 ((v1.set (toNat v2) 1).set (toNat v2) (imx ((v1.set (toNat v2) 1).getD (toNat v2) default) (W (((v1.set (toNat v2) 1).getD (toNat (a0.2.getD (toNat v2) default).2.2.2.1) default) + 1)))) := (by rw [show (splice (flat c3 v1) (0 + toNat v2 * 1) [(iv 1)]) = flat c3 (v1.set (toNat v2) 1) from (flat_set c3_len (by first | omega | (simp only [Lt]; omega)) (i := toNat v2) (o := 0) (d := default) (y := 1) (xs := [(iv 1)]) (Nb rfl) rfl)]; exact flat_set c3_len (by first | omega | (simp only [Lt]; omega)) (i := toNat v2) (o := 0) (d := default) (y := (imx ((v1.set (toNat v2) 1).getD (toNat v2) default) (W (((v1.set (toNat v2) 1).getD (toNat (a0.2.getD (toNat v2) default).2.2.2.1) default) + 1)))) (xs := [(iv (imx ((v1.set (toNat v2) 1).getD (toNat v2) default) (W (((v1.set (toNat v2) 1).getD (toNat (a0.2.getD (toNat v2) default).2.2.2.1) default) + 1))))]) (Nb rfl) rfl)
        have z1 : v1.length = ((v1.set (toNat v2) 1).set (toNat v2) (imx ((v1.set (toNat v2) 1).getD (toNat v2) default) (W (((v1.set (toNat v2) 1).getD (toNat (a0.2.getD (toNat v2) default).2.2.2.1) default) + 1)))).length := by simp
        rw [z0, z1]
        exact ih ((v1.set (toNat v2) 1).set (toNat v2) (imx ((v1.set (toNat v2) 1).getD (toNat v2) default) (W (((v1.set (toNat v2) 1).getD (toNat (a0.2.getD (toNat v2) default).2.2.2.1) default) + 1)))) (W (v2 - 1)) (by refine ⟨?_, ?_, ?_⟩ <;> (try simp only [Ls]) <;> first | omega | assumption | simp) (by (try simp only [Ls]); omega)
       | false =>
        have q3 := of_decide_eq_false h3
        have e := Eq.refl (S18_0 a0 (v1, v2)); conv at e => rhs; simp only [S18_0, h0, h1, h2, h3, cond_true, cond_false]
        rw [loopF_inl e]
        refine ba (t3 ++ [.d h3, .u 0, .F]) [] [1, 3, 4] [2, 3] hcx (m := n) B18_0 (K18_0) (st18_0 a0 (splice (flat c3 v1) (0 + toNat v2 * 1) [(iv 1)]) (v1.length) (W (v2 - 1))) (by kernel_rfl) ?_
        have z0 : (splice (flat c3 v1) (0 + toNat v2 * 1) [(iv 1)]) = flat c3 (v1.set (toNat v2) 1) := (flat_set c3_len (by first | omega | (simp only [Lt]; omega)) (i := toNat v2) (o := 0) (d := default) (y := 1) (xs := [(iv 1)]) (Nb rfl) rfl)
        have z1 : v1.length = (v1.set (toNat v2) 1).length := by simp
        rw [z0, z1]
        exact ih (v1.set (toNat v2) 1) (W (v2 - 1)) (by refine ⟨?_, ?_, ?_⟩ <;> (try simp only [Ls]) <;> first | omega | assumption | simp) (by (try simp only [Ls]); omega)
      | false =>
       have q2 := of_decide_eq_false h2
       have e := Eq.refl (S18_0 a0 (v1, v2)); conv at e => rhs; simp only [S18_0, h0, h1, h2, cond_true, cond_false]
       rw [loopF_inl e]
       refine ba (t2 ++ [.d h2, .u 0, .F]) [] [1, 3, 4] [2, 3] hcx (m := n) B18_0 (K18_0) (st18_0 a0 (splice (flat c3 v1) (0 + toNat v2 * 1) [(iv 1)]) (v1.length) (W (v2 - 1))) (by kernel_rfl) ?_
       have z0 : (splice (flat c3 v1) (0 + toNat v2 * 1) [(iv 1)]) = flat c3 (v1.set (toNat v2) 1) := (flat_set c3_len (by first | omega | (simp only [Lt]; omega)) (i := toNat v2) (o := 0) (d := default) (y := 1) (xs := [(iv 1)]) (Nb rfl) rfl)
       have z1 : v1.length = (v1.set (toNat v2) 1).length := by simp
       rw [z0, z1]
       exact ih (v1.set (toNat v2) 1) (W (v2 - 1)) (by refine ⟨?_, ?_, ?_⟩ <;> (try simp only [Ls]) <;> first | omega | assumption | simp) (by (try simp only [Ls]); omega)
    | false =>
     have q0 := of_decide_eq_false h0
     let t1 : List (St Try.prog) := [.d h0]
     cases h1 : ((((v1.length : Nat) : Int) : Int) == 0) with
     | true =>
      have q1 := eq_of_beq h1
      have e := Eq.refl (S18_0 a0 (v1, v2)); conv at e => rhs; simp only [S18_0, h0, h1, cond_true, cond_false]
      rw [loopF_s, e]
      exact rt (t1 ++ [.d h1]) [] [] hcx (by kernel_rfl)
     | false =>
      have q1 := ne_of_beq_false h1
      have e := Eq.refl (S18_0 a0 (v1, v2)); conv at e => rhs; simp only [S18_0, h0, h1, cond_true, cond_false]
      rw [loopF_s, e]
      exact rt (t1 ++ [.d h1, .i 0 (v1.length), .L c3_len v1 0 0 1]) [] [] hcx (by kernel_rfl)

def F18 (a0 : List (Int) × TyN) : Int :=
  (loopF (S18_0 a0) (toNat ((W (((a0.2.length : Nat) : Int) - 1)) + 1) + 1) ((List.replicate (toNat ((a0.2.length : Nat) : Int)) 0), (W (((a0.2.length : Nat) : Int) - 1))))

theorem C18 (a0 : List (Int) × TyN) (l0_1 : a0.1.length ≤ 9223372036854775807) (l0_2 : a0.2.length ≤ 9223372036854775807) (hl : a0.2.length ≤ 1048576) : Con Try.prog 18 [(.a [(.s 0 0 a0.1.length 1), (.s 1 0 a0.2.length 8)])] [(.live false true (flat c3 a0.1)), (.live false true (flat c40 a0.2))] (iv (F18 a0)) [] := by
  refine con_s Try.func18 (by kernel_rfl) fun cx hcx => ?_
  have hw_i := W_eq (n := ((a0.2.length : Nat) : Int) - 1) (by omega) (by omega)
  have e := Eq.refl (F18 a0); conv at e => rhs; simp only [F18]
  rw [e]
  refine en [.Z c3 0 [(iv 0)] ((a0.2.length : Nat) : Int) 8] [] [1, 3, 4] [2, 3] hcx B18_0 (K18_0) (st18_0 a0 (flat c3 (List.replicate (toNat ((a0.2.length : Nat) : Int)) 0)) (toNat ((a0.2.length : Nat) : Int)) (W (((a0.2.length : Nat) : Int) - 1))) (toNat ((W (((a0.2.length : Nat) : Int) - 1)) + 1) + 1) (by kernel_rfl) ?_
  have q := L18_0 a0 l0_1 l0_2 hl hcx (toNat ((W (((a0.2.length : Nat) : Int) - 1)) + 1) + 1) (List.replicate (toNat ((a0.2.length : Nat) : Int)) 0) (W (((a0.2.length : Nat) : Int) - 1)) (by refine ⟨?_, ?_, ?_⟩ <;> (try simp only [Ls]) <;> first | omega | assumption | simp) (by (try simp only [Ls]); omega)
  simp only [List.length_replicate] at q
  exact q


def F10 : Bool :=
  (bif (((F11_L F31 1).2 : Int) == 0) then
   (bif (((((F11_L F31 1).1.2.length : Nat) : Int) : Int) == 7) then
    (bif (((F18 ((F11_L F31 1).1.1, (F11_L F31 1).1.2)) : Int) == 3) then
     (bif (((F17 ((F11_L F31 1).1.1, (F11_L F31 1).1.2)) : Int) == 4) then
      (bif ((((F11_L F31 1).1.2.getD (toNat 0) default).2.2.1 : Int) == 1) then
       ((((F11_L F31 1).1.2.getD (toNat 0) default).2.2.2.1 : Int) == 4)
      else
       false)
     else
      false)
    else
     false)
   else
    false)
  else
   false)

theorem C10 : Con Try.prog 10 [] [] (.v (.bool F10)) [] := by
  refine con_s Try.func10 (by kernel_rfl) fun cx hcx => ?_
  have hrl : F31.length = 4 := by kernel_rfl
  have hbl : (F11_L F31 1).1.2.length = 7 := by kernel_rfl
  have hbo : (F11_L F31 1).1.1.length = 4 := by kernel_rfl
  let t0 : List (St Try.prog) := [.c [] (C31), .c [0] (C11_L F31 1 (by (try simp only [Lt]); omega))]
  cases h0 : (((F11_L F31 1).2 : Int) == 0) with
  | true =>
   have q0 := eq_of_beq h0
   let t1 : List (St Try.prog) := (t0 ++ [.d h0])
   cases h1 : (((((F11_L F31 1).1.2.length : Nat) : Int) : Int) == 7) with
   | true =>
    have q1 := eq_of_beq h1
    let t2 : List (St Try.prog) := (t1 ++ [.d h1, .c [1, 2] (C18 ((F11_L F31 1).1.1, (F11_L F31 1).1.2) (by (try simp only [Lt]); omega) (by (try simp only [Lt]); omega) (by (try simp only [Lt]); omega))])
    cases h2 : (((F18 ((F11_L F31 1).1.1, (F11_L F31 1).1.2)) : Int) == 3) with
    | true =>
     have q2 := eq_of_beq h2
     let t3 : List (St Try.prog) := (t2 ++ [.d h2, .c [1, 2] (C17 ((F11_L F31 1).1.1, (F11_L F31 1).1.2) (by (try simp only [Lt]); omega) (by (try simp only [Lt]); omega) (by (try simp only [Lt]); omega))])
     cases h3 : (((F17 ((F11_L F31 1).1.1, (F11_L F31 1).1.2)) : Int) == 4) with
     | true =>
      have q3 := eq_of_beq h3
      let t4 : List (St Try.prog) := (t3 ++ [.d h3, .i 0 ((F11_L F31 1).1.2.length), .L c40_len (F11_L F31 1).1.2 0 2 1])
      cases h4 : ((((F11_L F31 1).1.2.getD (toNat 0) default).2.2.1 : Int) == 1) with
      | true =>
       have q4 := eq_of_beq h4
       have e := Eq.refl F10; conv at e => rhs; simp only [F10, h0, h1, h2, h3, h4, cond_true, cond_false]
       rw [e]
       exact rt (t4 ++ [.d h4, .i 0 ((F11_L F31 1).1.2.length), .L c40_len (F11_L F31 1).1.2 0 3 1]) [] [] hcx (by kernel_rfl)
      | false =>
       have q4 := ne_of_beq_false h4
       have e := Eq.refl F10; conv at e => rhs; simp only [F10, h0, h1, h2, h3, h4, cond_true, cond_false]
       rw [e]
       exact rt (t4 ++ [.d h4]) [] [] hcx (by kernel_rfl)
     | false =>
      have q3 := ne_of_beq_false h3
      have e := Eq.refl F10; conv at e => rhs; simp only [F10, h0, h1, h2, h3, cond_true, cond_false]
      rw [e]
      exact rt (t3 ++ [.d h3]) [] [] hcx (by kernel_rfl)
    | false =>
     have q2 := ne_of_beq_false h2
     have e := Eq.refl F10; conv at e => rhs; simp only [F10, h0, h1, h2, cond_true, cond_false]
     rw [e]
     exact rt (t2 ++ [.d h2]) [] [] hcx (by kernel_rfl)
   | false =>
    have q1 := ne_of_beq_false h1
    have e := Eq.refl F10; conv at e => rhs; simp only [F10, h0, h1, cond_true, cond_false]
    rw [e]
    exact rt (t1 ++ [.d h1]) [] [] hcx (by kernel_rfl)
  | false =>
   have q0 := ne_of_beq_false h0
   have e := Eq.refl F10; conv at e => rhs; simp only [F10, h0, cond_true, cond_false]
   rw [e]
   exact rt (t0 ++ [.d h0]) [] [] hcx (by kernel_rfl)

theorem sane_5 : F10 = true := by kernel_rfl


theorem win3_eq (n lo hi : Int) : F56 n lo hi = F59 n lo hi := by
  unfold F56 F59
  by_cases h1 : lo ≤ n <;> by_cases h2 : n ≤ hi <;> simp [h1, h2]
theorem vch_eq (l : List (PN × Int)) : F32_L l = F35_L l := by
  have e : S32_L_0 l = S35_L_0 l := by
    funext v
    simp only [S32_L_0, S35_L_0, vp_s, vp_r, win3_eq]
  unfold F32_L F35_L
  rw [e]
theorem vch_lenr {l : List (PN × Int)} (h : F35_L l = 0) : l.length ≤ 96 := vch_len (by rw [vch_eq]; exact h)


def F101 (a0 : Int × Int × Int) (a1 : Int) : Int :=
  (bif ((a1 : Int) == 0) then
   a0.1
  else
   (bif ((a1 : Int) == 1) then
    a0.2.1
   else
    a0.2.2))

def F104 (a0 : ((Int × Int × Int) × (Int × Int × Int) × Int × Int × Int) × Int) (a1 : Int) : Int :=
  (W ((W ((F101 a0.1.1 a1) + (F101 a0.1.2.1 a1))) + (F101 a0.1.2.2 a1)))

def F102 (a0 : Int) (a1 : Int) : Int :=
  (Int.fdiv (W (a0 + a1)) (2 ^ (min (toNat 1) 64)))

def S80_L_L_0 (a0 : TyL) (a1 : List (Int)) (a2 : Int) : Int × Int × Int → (Int × Int × Int) ⊕ (Int)
  | (v1, v2, v3) =>
   (bif (decide ((v3 : Int) < ((a1.length : Nat) : Int))) then
    (.inl ((imn (imn (imn v1 (F101 (a0.getD (toNat (a1.getD (toNat v3) default)) default).1.1 a2)) (F101 (a0.getD (toNat (a1.getD (toNat v3) default)) default).1.2.1 a2)) (F101 (a0.getD (toNat (a1.getD (toNat v3) default)) default).1.2.2 a2)), (imx (imx (imx v2 (F101 (a0.getD (toNat (a1.getD (toNat v3) default)) default).1.1 a2)) (F101 (a0.getD (toNat (a1.getD (toNat v3) default)) default).1.2.1 a2)) (F101 (a0.getD (toNat (a1.getD (toNat v3) default)) default).1.2.2 a2)), (v3 + 1)))
   else
    (.inr (F102 v1 v2)))

def F80_L_L (a0 : TyL) (a1 : List (Int)) (a2 : Int) : Int :=
  (loopF (S80_L_L_0 a0 a1 a2) (toNat (((a1.length : Nat) : Int) - 0) + 1) (64, (-64), 0))

def S82_L_L_0 (a0 : TyL) (a1 : List (Int)) : TyL × Int → (TyL × Int) ⊕ TyL
  | (v2, v3) =>
   (bif (decide ((v3 : Int) < ((a1.length : Nat) : Int))) then
    (.inl ((v2 ++ [(a0.getD (toNat (a1.getD (toNat v3) default)) default)]), (v3 + 1)))
   else
    (.inr v2))

def F82_L_L (a0 : TyL) (a1 : List (Int)) : TyL :=
  (loopF (S82_L_L_0 a0 a1) (toNat (((a1.length : Nat) : Int) - 0) + 1) (([] : TyL), 0))

def S84_L_L_1 (a0 : TyL) (a1 : List (Int)) : Int × Int × Int × Int × Int × Int → (Int × Int × Int × Int × Int × Int) ⊕ ((Int × Int × Int) ⊕ (Int))
  | (v14, v15, v16, v17, v18, v19) =>
   (bif (decide ((v19 : Int) < ((a1.length : Nat) : Int))) then
    (.inl (v14, v15, v16, (imn v17 (F104 (a0.getD (toNat (a1.getD (toNat v19) default)) default) v16)), (imx v18 (F104 (a0.getD (toNat (a1.getD (toNat v19) default)) default) v16)), (v19 + 1)))
   else
    (bif (decide (((W (v18 - v17)) : Int) > v15)) then
     (.inr (.inl (v16, (W (v18 - v17)), (v16 + 1))))
    else
     (.inr (.inl (v14, v15, (v16 + 1))))))

def S84_L_L_0 (a0 : TyL) (a1 : List (Int)) : Int × Int × Int → (Int × Int × Int) ⊕ (Int)
  | (v11, v12, v13) =>
   (bif (decide ((v13 : Int) < 3)) then
    (loopF (S84_L_L_1 a0 a1) (toNat (((a1.length : Nat) : Int) - 1) + 1) (v11, v12, v13, (F104 (a0.getD (toNat (a1.getD (toNat 0) default)) default) v13), (F104 (a0.getD (toNat (a1.getD (toNat 0) default)) default) v13), 1))
   else
    (.inr v11))

def F84_L_L (a0 : TyL) (a1 : List (Int)) : Int :=
  (loopF (S84_L_L_0 a0 a1) (toNat (3 - 0) + 1) (0, (-1), 0))

def F103_L (a0 : TyL) (a1 : Int × Int × Int) : Int :=
  (bif (((F35_L a0) : Int) != 0) then
   (F35_L a0)
  else
   (bif (!(F44 a1 64)) then
    1
   else
    0))

def S81_L_0 (a0 : TyL) (a1 : Int × Int × Int) : Int × Int → (Int × Int) ⊕ (Int × Int)
  | (v1, v2) =>
   (bif (decide ((v2 : Int) < ((a0.length : Nat) : Int))) then
    (.inl ((if ((if ((if (v1 : Int) < (F64 (F65 (a0.getD (toNat v2) default).1.1 a1)) then (F64 (F65 (a0.getD (toNat v2) default).1.1 a1)) else v1) : Int) < (F64 (F65 (a0.getD (toNat v2) default).1.2.1 a1)) then (F64 (F65 (a0.getD (toNat v2) default).1.2.1 a1)) else (if (v1 : Int) < (F64 (F65 (a0.getD (toNat v2) default).1.1 a1)) then (F64 (F65 (a0.getD (toNat v2) default).1.1 a1)) else v1)) : Int) < (F64 (F65 (a0.getD (toNat v2) default).1.2.2 a1)) then (F64 (F65 (a0.getD (toNat v2) default).1.2.2 a1)) else (if ((if (v1 : Int) < (F64 (F65 (a0.getD (toNat v2) default).1.1 a1)) then (F64 (F65 (a0.getD (toNat v2) default).1.1 a1)) else v1) : Int) < (F64 (F65 (a0.getD (toNat v2) default).1.2.1 a1)) then (F64 (F65 (a0.getD (toNat v2) default).1.2.1 a1)) else (if (v1 : Int) < (F64 (F65 (a0.getD (toNat v2) default).1.1 a1)) then (F64 (F65 (a0.getD (toNat v2) default).1.1 a1)) else v1))), (v2 + 1)))
   else
    (.inr (v1, 0)))

def F81_L (a0 : TyL) (a1 : Int × Int × Int) : Int × Int :=
  (bif (((F103_L a0 a1) : Int) != 0) then
   (0, (F103_L a0 a1))
  else
   (loopF (S81_L_0 a0 a1) (toNat (((a0.length : Nat) : Int) - 0) + 1) (0, 0)))

def S83_L_L_1 (a0 : TyL) (a1 : List (Int)) (a2 : Int) : List (Int) × Int × Int → (List (Int) × Int × Int) ⊕ ((List (Int) × Int) ⊕ (List (Int)))
  | (v5, v6, v7) =>
   (bif (decide ((v7 : Int) > 0)) then
    (bif (decide (((F104 (a0.getD (toNat (v5.getD (toNat v7) default)) default) a2) : Int) < (F104 (a0.getD (toNat (v5.getD (toNat (W (v7 - 1))) default)) default) a2))) then
     (.inl (((v5.set (toNat v7) (v5.getD (toNat (W (v7 - 1))) default)).set (toNat (W (v7 - 1))) (v5.getD (toNat v7) default)), v6, (W (v7 - 1))))
    else
     (bif (((F104 (a0.getD (toNat (v5.getD (toNat v7) default)) default) a2) : Int) == (F104 (a0.getD (toNat (v5.getD (toNat (W (v7 - 1))) default)) default) a2)) then
      (bif (decide (((v5.getD (toNat v7) default) : Int) < (v5.getD (toNat (W (v7 - 1))) default))) then
       (.inl (((v5.set (toNat v7) (v5.getD (toNat (W (v7 - 1))) default)).set (toNat (W (v7 - 1))) (v5.getD (toNat v7) default)), v6, (W (v7 - 1))))
      else
       (.inr (.inl (v5, (v6 + 1)))))
     else
      (.inr (.inl (v5, (v6 + 1))))))
   else
    (.inr (.inl (v5, (v6 + 1)))))

def S83_L_L_0 (a0 : TyL) (a1 : List (Int)) (a2 : Int) : List (Int) × Int → (List (Int) × Int) ⊕ (List (Int))
  | (v3, v4) =>
   (bif (decide ((v4 : Int) < ((v3.length : Nat) : Int))) then
    (loopF (S83_L_L_1 a0 a1 a2) (toNat v4 + 1) (v3, v4, v4))
   else
    (.inr v3))

def F83_L_L (a0 : TyL) (a1 : List (Int)) (a2 : Int) : List (Int) :=
  (loopF (S83_L_L_0 a0 a1 a2) (toNat ((((([] : List (Int)) ++ a1).length : Nat) : Int) - 1) + 1) ((([] : List (Int)) ++ a1), 1))


abbrev TR := List Int × TyN
abbrev LCH := TyL
structure PGRW (l : LCH) (t : TR) (ns : List Int) (leaf : Int) : Prop where
  inr : InR l.length ns
  rng : 1 ≤ ns.length ∧ t.1.length + ns.length ≤ 1048576
  nds : t.2.length + 2 * ns.length ≤ 4194304
  lf : 1 ≤ leaf
def cOf (l : LCH) (k : Int) : SBC := ((l, 0, [], []), k)
theorem key_eq (l : LCH) (k : Int) (x : Int) : F104 (l.getD (toNat x) default) k = kk (cOf l k) x := by
  unfold kk cOf F104 F95 F101
  cases h0 : (k == 0) with
  | true => rfl
  | false =>
    cases h1 : (k == 1) with
    | true => rfl
    | false => rfl
theorem rso_less (l : LCH) (k x y : Int) : (decide (F104 (l.getD (toNat x) default) k < F104 (l.getD (toNat y) default) k) || ((F104 (l.getD (toNat x) default) k == F104 (l.getD (toNat y) default) k) && decide (x < y))) = ltc (cOf l k) x y := by
  rw [key_eq, key_eq]
  cases h : ltc (cOf l k) x y with
  | true => rw [ltc_iff] at h; simp; exact h
  | false => rw [ltc_f] at h; simp; omega
section
open Go.Sort
variable {l : LCH} {ns : List Int} {k : Int}
theorem rso1_eq {n : Nat} (hn : n ≤ 1048576) (hns : ns.length = n) : ∀ (m : Nat) (d : Array Int) (j : Nat) (w : Int), d.size = n → j < n → j < m →
    loopF (S83_L_L_1 l ns k) m (wp ns 0 d, w, (j : Int)) = .inl (wp ns 0 (insInner (ltc (cOf l k)) 0 j d), w + 1)
  | 0, _, _, _, _, _, h => absurd h (Nat.not_lt_zero _)
  | m + 1, d, 0, w, hd, hj, hm => by
    refine loopF_inr ?_
    simp only [S83_L_L_1]
    rw [decide_eq_false (by omega), cond_false]; rfl
  | m + 1, d, j + 1, w, hd, hj, hm => by
    have hl' : 0 + d.size ≤ ns.length := by omega
    have e1 : W (((j + 1 : Nat) : Int) - 1) = ((j : Nat) : Int) := wN (by omega) (by omega)
    have g1 := wp_get hl' (i := j + 1) (by omega)
    have g0 := wp_get hl' (i := j) (by omega)
    have gs := wp_swp hl' (i := j + 1) (j := j) (by omega) (by omega)
    rw [Nat.zero_add] at g1 g0
    rw [Nat.zero_add, Nat.zero_add] at gs
    rw [insInner, decide_eq_true (show j + 1 > 0 by omega), Bool.true_and]
    have e : S83_L_L_1 l ns k (wp ns 0 d, w, ((j + 1 : Nat) : Int)) = bif ltc (cOf l k) d[j + 1]! d[j]! then .inl (wp ns 0 (swp d (j + 1) j), w, (j : Int)) else .inr (.inl (wp ns 0 d, w + 1)) := by
      rw [← rso_less]
      simp only [S83_L_L_1, e1, Int.toNat_natCast]
      rw [decide_eq_true (show ((j + 1 : Nat) : Int) > 0 by omega), cond_true, gs, g1, g0]
      cases decide (F104 (l.getD (toNat d[j + 1]!) default) k < F104 (l.getD (toNat d[j]!) default) k) with
      | true => rfl
      | false =>
        cases (F104 (l.getD (toNat d[j + 1]!) default) k == F104 (l.getD (toNat d[j]!) default) k) with
        | false => rfl
        | true => cases decide (d[j + 1]! < d[j]!) <;> rfl
    cases q : ltc (cOf l k) d[j + 1]! d[j]! with
    | true =>
      rw [q, cond_true] at e
      rw [loopF_inl e]
      exact rso1_eq hn hns m _ j w (by rw [Go.Sort.size_swp]; exact hd) (by omega) (by omega)
    | false => rw [q, cond_false] at e; exact loopF_inr e
theorem rso0_eq {n : Nat} (hn : n ≤ 1048576) (hns : ns.length = n) : ∀ (m : Nat) (d : Array Int) (i : Nat), d.size = n → n - i < m →
    loopF (S83_L_L_0 l ns k) m (wp ns 0 d, (i : Int)) = wp ns 0 (insOuter (ltc (cOf l k)) 0 n i d)
  | 0, _, _, _, h => absurd h (Nat.not_lt_zero _)
  | m + 1, d, i, hd, hm => by
    rw [insOuter]
    have hlen : (wp ns 0 d).length = n := by rw [wp_len (by omega), hns]
    by_cases h1 : i < n
    · rw [if_pos h1]
      have e : S83_L_L_0 l ns k (wp ns 0 d, (i : Int)) = loopF (S83_L_L_1 l ns k) (toNat (i : Int) + 1) (wp ns 0 d, (i : Int), (i : Int)) := by
        simp only [S83_L_L_0]; rw [decide_eq_true (by omega), cond_true]
      rw [loopF_inl (e.trans (rso1_eq hn hns _ d i _ hd (by omega) (by omega)))]
      exact rso0_eq hn hns m _ (i + 1) (by rw [insInner_size]; exact hd) (by omega)
    · rw [if_neg h1]
      refine loopF_inr ?_
      simp only [S83_L_L_0]; rw [decide_eq_false (by omega), cond_false]
def srt (l : LCH) (k : Int) (ns : List Int) : List Int := ns.mergeSort (fun x y => !ltc (cOf l k) y x)
theorem srt_len (l : LCH) (k : Int) (ns : List Int) : (srt l k ns).length = ns.length := (List.mergeSort_perm ns _).length_eq
theorem srt_inr {N : Nat} (h : InR N ns) : InR N (srt l k ns) := fun x hx => h x ((List.mergeSort_perm ns _).mem_iff.1 hx)
theorem wp_all {n : Nat} (h : ns.length = n) {d : Array Int} (hd : d.size = n) : wp ns 0 d = d.toList := by unfold wp; rw [Nat.zero_add, hd, ← h, List.drop_length]; simp
theorem ltc_cOf (c : SBC) : ltc c = ltc (cOf c.1.1 c.2) := rfl
theorem perm_srt {c : SBC} {d d' : Array Int} (h1 : PermIn 0 d.size d d') (h2 : SortedIn (ltc c) 0 d.size d') : d'.toList = srt c.1.1 c.2 d.toList := by
  unfold srt
  rw [← ltc_cOf]
  exact sorted_unique_holds (lt := ltc c) (ltc_swo c) (ltc_tot c) d d' h1 h2
theorem rso_eq (h : ns.length ≤ 1048576) : F83_L_L l ns k = srt l k ns := by
  unfold F83_L_L
  have hz : (ns.toArray).size = ns.length := by simp
  have hw : wp ns 0 ns.toArray = ns := by rw [wp_all rfl hz]
  have h1 := insertionSort_holds (lt := ltc (cOf l k)) (ltc_swo _) ns.toArray 0 ns.length (Nat.zero_le _) (by rw [hz]; exact Nat.le_refl _)
  have h0 := rso0_eq (l := l) (k := k) h rfl (toNat ((((([] : List (Int)) ++ ns).length : Nat) : Int) - 1) + 1) ns.toArray 1 hz (by rw [List.nil_append]; omega)
  have e : insOuter (ltc (cOf l k)) 0 ns.length 1 ns.toArray = insertionSort (ltc (cOf l k)) ns.toArray 0 ns.length := rfl
  rw [hw, e, wp_all (n := ns.length) (d := insertionSort (ltc (cOf l k)) ns.toArray 0 ns.length) rfl (by rw [h1.1.1]; exact hz), perm_srt (c := cOf l k) (by rw [hz]; exact h1.1) (by rw [hz]; exact h1.2)] at h0
  exact h0
theorem sf_srt {v : List Int} {o n : Nat} {c : SBC} (hw : o + n ≤ v.length ∧ v.length ≤ 1048576) :
    F75_W_b77 v o n c = v.take o ++ srt c.1.1 c.2 ((v.drop o).take n) ++ v.drop (o + n) := by
  have hz := wArr_size hw.1
  have hb : bitsLen n ≤ 1048576 := Nat.le_trans ((bitsLen_le_iff n 62).2 (by omega)) (by omega)
  have h := pdq_eq (l := v) hw.1 (by omega) (toNat (((n : Nat) : Int) - 0) + 1) ((c.1.1, c.1.2.1, (v, c.1.2.2.2)), c.2) (wArr v o n) 0 n (bitsLen n) hz (Nat.zero_le _) (Nat.le_refl _) hb (by omega)
  have hs := pdq_sorts (ltc ((c.1.1, c.1.2.1, (v, c.1.2.2.2)), c.2)) (ltc_swo _) (wArr v o n) 0 n (bitsLen n) true true (Nat.zero_le _) (by rw [hz]; exact Nat.le_refl _) (Or.inl rfl)
  rw [wp_win hw.1] at h
  have e : F75_W_b77 v o n c = R93_W_b77 (toNat (((n : Nat) : Int) - 0) + 1) v o n ((0 : Nat) : Int) ((n : Nat) : Int) ((bitsLen n : Nat) : Int) ((c.1.1, c.1.2.1, (v, c.1.2.2.2)), c.2) := by
    unfold F75_W_b77 F93_W_b77 F94
    rw [show IntKind.wrap .u64 ((n : Nat) : Int) = n by rw [IntKind.wrap_u64]; omega, Int.toNat_natCast, bitLen_eq _ (by omega)]
    rfl
  rw [e, h.1]
  unfold wp
  rw [h.2, perm_srt (c := ((c.1.1, c.1.2.1, (v, c.1.2.2.2)), c.2)) (d := wArr v o n) (by rw [hz]; exact hs.1) (by rw [hz]; exact hs.2)]
  rfl
end
theorem hf_eq {n : Nat} (h : n ≤ 1048576) : W (Int.tdiv (W (((n : Nat) : Int) + 1)) 2) = (((n + 1) / 2 : Nat) : Int) := by
  rw [wN (x := ((n : Nat) : Int) + 1) (n := n + 1) (by omega) (by omega), Int.tdiv_eq_ediv_of_nonneg (by omega)]; exact wN (by omega) (by omega)

end Go.Proofs.Ytnbpiejjeeomkaa

namespace Go.Proofs.Ytnbpiejjeeomkaa
open Go.Proofs Go.Aw Go.RowKit
set_option maxRecDepth 100000
set_option linter.unusedVariables false
set_option linter.unusedSimpArgs false

structure GRR (t r : TR) (ns : List Int) : Prop where
  ol : r.1.length = t.1.length + ns.length
  lo : t.2.length < r.2.length
  hi : r.2.length ≤ t.2.length + 2 * ns.length - 1
section
variable {l : LCH} {t : TR} {ns : List Int} {leaf : Int} {x : Int × Int × Int × Int × (Int × Int × Int) × Int}
theorem grw_s (hp : PGRW l t ns leaf) (k : Int) : (F83_L_L l ns k).length = ns.length ∧ InR l.length (F83_L_L l ns k) := by
  rw [rso_eq (by have := hp.rng; omega)]
  exact ⟨srt_len _ _ _, srt_inr hp.inr⟩
theorem pgrw1 (hp : PGRW l t ns leaf) (k : Int) (h2 : 2 ≤ ns.length) : PGRW l (t.1, t.2 ++ [x]) (Aw.part (F83_L_L l ns k) 0 (W (Int.tdiv (W ((((F83_L_L l ns k).length : Nat) : Int) + 1)) 2))) leaf := by
  have hs := grw_s hp k
  have h := hp.rng; have hn := hp.nds
  rw [hf_eq (by omega), hs.1]
  have hpt := part_len (l := F83_L_L l ns k) (a := 0) (b := (((ns.length + 1) / 2 : Nat) : Int)) (by omega)
  refine ⟨hs.2.part _ _, ⟨by rw [hpt]; omega, ?_⟩, ?_, hp.lf⟩
  · rw [hpt]; dsimp only; omega
  · rw [hpt]; simp only [List.length_append, List.length_cons, List.length_nil]; omega
theorem pgrw2 {r : TR} (hp : PGRW l t ns leaf) (k : Int) (h2 : 2 ≤ ns.length) (hr : GRR (t.1, t.2 ++ [x]) r (Aw.part (F83_L_L l ns k) 0 (W (Int.tdiv (W ((((F83_L_L l ns k).length : Nat) : Int) + 1)) 2)))) :
    PGRW l (r.1, r.2) (Aw.part (F83_L_L l ns k) (W (Int.tdiv (W ((((F83_L_L l ns k).length : Nat) : Int) + 1)) 2)) (((F83_L_L l ns k).length : Nat) : Int)) leaf := by
  have hs := grw_s hp k
  have h := hp.rng; have hn := hp.nds
  obtain ⟨g1, g2, g3⟩ := hr
  rw [hf_eq (by omega), hs.1] at g1 g3 ⊢
  have hpt1 := part_len (l := F83_L_L l ns k) (a := 0) (b := (((ns.length + 1) / 2 : Nat) : Int)) (by omega)
  have hpt2 := part_len (l := F83_L_L l ns k) (a := (((ns.length + 1) / 2 : Nat) : Int)) (b := ((ns.length : Nat) : Int)) (by omega)
  rw [hpt1] at g1 g3
  simp only [List.length_append, List.length_cons, List.length_nil] at g1 g2 g3
  refine ⟨hs.2.part _ _, ⟨by rw [hpt2]; omega, ?_⟩, ?_, hp.lf⟩
  · rw [hpt2]; dsimp only; omega
  · rw [hpt2]; dsimp only; omega
end

def A60_L_z00_L_1 (a0 : TyL) (a1 : List (Int) × TyN) (a2 : List (Int)) (a3 : Int) := (F81_L (F82_L_L a0 a2) ((F80_L_L a0 a2 0), (F80_L_L a0 a2 1), (F80_L_L a0 a2 2)))

def A60_L_z00_L_2 (rr : TyL → (List (Int) × TyN) → (List (Int)) → (Int) → List (Int) × TyN) (a0 : TyL) (a1 : List (Int) × TyN) (a2 : List (Int)) (a3 : Int) := (rr a0 (a1.1, (a1.2 ++ [(((a1.1.length : Nat) : Int), (W (((a1.1.length : Nat) : Int) + ((a2.length : Nat) : Int))), (-1), (-1), ((F80_L_L a0 a2 0), (F80_L_L a0 a2 1), (F80_L_L a0 a2 2)), (A60_L_z00_L_1 a0 a1 a2 a3).1)])) (Aw.part (F83_L_L a0 a2 (F84_L_L a0 a2)) 0 (W (Int.tdiv (W ((((F83_L_L a0 a2 (F84_L_L a0 a2)).length : Nat) : Int) + 1)) 2))) a3)

def A60_L_z00_L_3 (rr : TyL → (List (Int) × TyN) → (List (Int)) → (Int) → List (Int) × TyN) (a0 : TyL) (a1 : List (Int) × TyN) (a2 : List (Int)) (a3 : Int) := (rr a0 ((A60_L_z00_L_2 (rr) a0 a1 a2 a3).1, (A60_L_z00_L_2 (rr) a0 a1 a2 a3).2) (Aw.part (F83_L_L a0 a2 (F84_L_L a0 a2)) (W (Int.tdiv (W ((((F83_L_L a0 a2 (F84_L_L a0 a2)).length : Nat) : Int) + 1)) 2)) (((F83_L_L a0 a2 (F84_L_L a0 a2)).length : Nat) : Int)) a3)

def R60_L_z00_L : Nat → TyL → (List (Int) × TyN) → (List (Int)) → (Int) → List (Int) × TyN
  | 0, _, _, _, _ => default
  | nr + 1, a0, a1, a2, a3 =>
  (bif (decide ((((a2.length : Nat) : Int) : Int) ≤ a3)) then
   ((a1.1 ++ a2), (a1.2 ++ [(((a1.1.length : Nat) : Int), (W (((a1.1.length : Nat) : Int) + ((a2.length : Nat) : Int))), (-1), (-1), ((F80_L_L a0 a2 0), (F80_L_L a0 a2 1), (F80_L_L a0 a2 2)), (A60_L_z00_L_1 a0 a1 a2 a3).1)]))
  else
   ((A60_L_z00_L_3 (R60_L_z00_L nr) a0 a1 a2 a3).1, (((A60_L_z00_L_3 (R60_L_z00_L nr) a0 a1 a2 a3).2.set (toNat ((a1.2.length : Nat) : Int)) (((A60_L_z00_L_3 (R60_L_z00_L nr) a0 a1 a2 a3).2.getD (toNat ((a1.2.length : Nat) : Int)) default).1, ((A60_L_z00_L_3 (R60_L_z00_L nr) a0 a1 a2 a3).2.getD (toNat ((a1.2.length : Nat) : Int)) default).2.1, (((a1.2.length + 1) : Nat) : Int), ((A60_L_z00_L_3 (R60_L_z00_L nr) a0 a1 a2 a3).2.getD (toNat ((a1.2.length : Nat) : Int)) default).2.2.2.1, ((A60_L_z00_L_3 (R60_L_z00_L nr) a0 a1 a2 a3).2.getD (toNat ((a1.2.length : Nat) : Int)) default).2.2.2.2.1, ((A60_L_z00_L_3 (R60_L_z00_L nr) a0 a1 a2 a3).2.getD (toNat ((a1.2.length : Nat) : Int)) default).2.2.2.2.2)).set (toNat ((a1.2.length : Nat) : Int)) ((((A60_L_z00_L_3 (R60_L_z00_L nr) a0 a1 a2 a3).2.set (toNat ((a1.2.length : Nat) : Int)) (((A60_L_z00_L_3 (R60_L_z00_L nr) a0 a1 a2 a3).2.getD (toNat ((a1.2.length : Nat) : Int)) default).1, ((A60_L_z00_L_3 (R60_L_z00_L nr) a0 a1 a2 a3).2.getD (toNat ((a1.2.length : Nat) : Int)) default).2.1, (((a1.2.length + 1) : Nat) : Int), ((A60_L_z00_L_3 (R60_L_z00_L nr) a0 a1 a2 a3).2.getD (toNat ((a1.2.length : Nat) : Int)) default).2.2.2.1, ((A60_L_z00_L_3 (R60_L_z00_L nr) a0 a1 a2 a3).2.getD (toNat ((a1.2.length : Nat) : Int)) default).2.2.2.2.1, ((A60_L_z00_L_3 (R60_L_z00_L nr) a0 a1 a2 a3).2.getD (toNat ((a1.2.length : Nat) : Int)) default).2.2.2.2.2)).getD (toNat ((a1.2.length : Nat) : Int)) default).1, (((A60_L_z00_L_3 (R60_L_z00_L nr) a0 a1 a2 a3).2.set (toNat ((a1.2.length : Nat) : Int)) (((A60_L_z00_L_3 (R60_L_z00_L nr) a0 a1 a2 a3).2.getD (toNat ((a1.2.length : Nat) : Int)) default).1, ((A60_L_z00_L_3 (R60_L_z00_L nr) a0 a1 a2 a3).2.getD (toNat ((a1.2.length : Nat) : Int)) default).2.1, (((a1.2.length + 1) : Nat) : Int), ((A60_L_z00_L_3 (R60_L_z00_L nr) a0 a1 a2 a3).2.getD (toNat ((a1.2.length : Nat) : Int)) default).2.2.2.1, ((A60_L_z00_L_3 (R60_L_z00_L nr) a0 a1 a2 a3).2.getD (toNat ((a1.2.length : Nat) : Int)) default).2.2.2.2.1, ((A60_L_z00_L_3 (R60_L_z00_L nr) a0 a1 a2 a3).2.getD (toNat ((a1.2.length : Nat) : Int)) default).2.2.2.2.2)).getD (toNat ((a1.2.length : Nat) : Int)) default).2.1, (((A60_L_z00_L_3 (R60_L_z00_L nr) a0 a1 a2 a3).2.set (toNat ((a1.2.length : Nat) : Int)) (((A60_L_z00_L_3 (R60_L_z00_L nr) a0 a1 a2 a3).2.getD (toNat ((a1.2.length : Nat) : Int)) default).1, ((A60_L_z00_L_3 (R60_L_z00_L nr) a0 a1 a2 a3).2.getD (toNat ((a1.2.length : Nat) : Int)) default).2.1, (((a1.2.length + 1) : Nat) : Int), ((A60_L_z00_L_3 (R60_L_z00_L nr) a0 a1 a2 a3).2.getD (toNat ((a1.2.length : Nat) : Int)) default).2.2.2.1, ((A60_L_z00_L_3 (R60_L_z00_L nr) a0 a1 a2 a3).2.getD (toNat ((a1.2.length : Nat) : Int)) default).2.2.2.2.1, ((A60_L_z00_L_3 (R60_L_z00_L nr) a0 a1 a2 a3).2.getD (toNat ((a1.2.length : Nat) : Int)) default).2.2.2.2.2)).getD (toNat ((a1.2.length : Nat) : Int)) default).2.2.1, (((A60_L_z00_L_2 (R60_L_z00_L nr) a0 a1 a2 a3).2.length : Nat) : Int), (((A60_L_z00_L_3 (R60_L_z00_L nr) a0 a1 a2 a3).2.set (toNat ((a1.2.length : Nat) : Int)) (((A60_L_z00_L_3 (R60_L_z00_L nr) a0 a1 a2 a3).2.getD (toNat ((a1.2.length : Nat) : Int)) default).1, ((A60_L_z00_L_3 (R60_L_z00_L nr) a0 a1 a2 a3).2.getD (toNat ((a1.2.length : Nat) : Int)) default).2.1, (((a1.2.length + 1) : Nat) : Int), ((A60_L_z00_L_3 (R60_L_z00_L nr) a0 a1 a2 a3).2.getD (toNat ((a1.2.length : Nat) : Int)) default).2.2.2.1, ((A60_L_z00_L_3 (R60_L_z00_L nr) a0 a1 a2 a3).2.getD (toNat ((a1.2.length : Nat) : Int)) default).2.2.2.2.1, ((A60_L_z00_L_3 (R60_L_z00_L nr) a0 a1 a2 a3).2.getD (toNat ((a1.2.length : Nat) : Int)) default).2.2.2.2.2)).getD (toNat ((a1.2.length : Nat) : Int)) default).2.2.2.2.1, (((A60_L_z00_L_3 (R60_L_z00_L nr) a0 a1 a2 a3).2.set (toNat ((a1.2.length : Nat) : Int)) (((A60_L_z00_L_3 (R60_L_z00_L nr) a0 a1 a2 a3).2.getD (toNat ((a1.2.length : Nat) : Int)) default).1, ((A60_L_z00_L_3 (R60_L_z00_L nr) a0 a1 a2 a3).2.getD (toNat ((a1.2.length : Nat) : Int)) default).2.1, (((a1.2.length + 1) : Nat) : Int), ((A60_L_z00_L_3 (R60_L_z00_L nr) a0 a1 a2 a3).2.getD (toNat ((a1.2.length : Nat) : Int)) default).2.2.2.1, ((A60_L_z00_L_3 (R60_L_z00_L nr) a0 a1 a2 a3).2.getD (toNat ((a1.2.length : Nat) : Int)) default).2.2.2.2.1, ((A60_L_z00_L_3 (R60_L_z00_L nr) a0 a1 a2 a3).2.getD (toNat ((a1.2.length : Nat) : Int)) default).2.2.2.2.2)).getD (toNat ((a1.2.length : Nat) : Int)) default).2.2.2.2.2))))

def F60_L_z00_L (a0 : TyL) (a1 : List (Int) × TyN) (a2 : List (Int)) (a3 : Int) : List (Int) × TyN := R60_L_z00_L (a2.length + 1) a0 a1 a2 a3

theorem grw_inv : ∀ (nr : Nat) (l : LCH) (t : TR) (ns : List Int) (leaf : Int), PGRW l t ns leaf → ns.length < nr → GRR t (R60_L_z00_L nr l t ns leaf) ns
  | 0, _, _, _, _, _, h => absurd h (Nat.not_lt_zero _)
  | nr + 1, l, t, ns, leaf, hp, hn => by
    have h := hp.rng; have hl := hp.lf
    simp only [R60_L_z00_L]
    by_cases h0 : ((ns.length : Nat) : Int) ≤ leaf
    · rw [decide_eq_true h0, cond_true]
      exact ⟨by simp, by simp, by simp; omega⟩
    · rw [decide_eq_false h0, cond_false]
      have h2 : 2 ≤ ns.length := by omega
      have hs := grw_s hp (F84_L_L l ns)
      have hf := hf_eq (n := ns.length) (by omega)
      have hpt1 := part_len (l := F83_L_L l ns (F84_L_L l ns)) (a := 0) (b := (((ns.length + 1) / 2 : Nat) : Int)) (by omega)
      have hpt2 := part_len (l := F83_L_L l ns (F84_L_L l ns)) (a := (((ns.length + 1) / 2 : Nat) : Int)) (b := ((ns.length : Nat) : Int)) (by omega)
      have h5 : GRR _ (A60_L_z00_L_2 (R60_L_z00_L nr) l t ns leaf) _ := grw_inv nr _ _ _ _ (pgrw1 hp _ h2) (by rw [hs.1, hf, hpt1]; omega)
      have h6 : GRR _ (A60_L_z00_L_3 (R60_L_z00_L nr) l t ns leaf) _ := grw_inv nr _ _ _ _ (pgrw2 hp _ h2 h5) (by rw [hs.1, hf, hpt2]; omega)
      obtain ⟨g1, g2, g3⟩ := h5
      obtain ⟨f1, f2, f3⟩ := h6
      rw [hs.1, hf, hpt1] at g1 g3
      rw [hs.1, hf, hpt2] at f1 f3
      dsimp only at g1 g2 g3 f1 f2 f3
      simp only [List.length_append, List.length_cons, List.length_nil] at g1 g2 g3
      exact ⟨by dsimp only; omega, by simp only [List.length_set]; omega, by simp only [List.length_set]; omega⟩

end Go.Proofs.Ytnbpiejjeeomkaa

namespace Go.Proofs.Ytnbpiejjeeomkaa
open Go.Proofs Go.Aw Go.RowKit
set_option maxRecDepth 100000
set_option linter.unusedVariables false
set_option linter.unusedSimpArgs false

theorem grw_fuel : ∀ (n1 n2 : Nat) (l : LCH) (t : TR) (ns : List Int) (leaf : Int), PGRW l t ns leaf → ns.length < n1 → ns.length < n2 → R60_L_z00_L n1 l t ns leaf = R60_L_z00_L n2 l t ns leaf
  | 0, _, _, _, _, _, _, h, _ => absurd h (Nat.not_lt_zero _)
  | _ + 1, 0, _, _, _, _, _, _, h => absurd h (Nat.not_lt_zero _)
  | n1 + 1, n2 + 1, l, t, ns, leaf, hp, h1, h2 => by
    have h := hp.rng; have hl := hp.lf
    simp only [R60_L_z00_L]
    by_cases h0 : ((ns.length : Nat) : Int) ≤ leaf
    · rw [decide_eq_true h0]; rfl
    · rw [decide_eq_false h0, cond_false, cond_false]
      have g2 : 2 ≤ ns.length := by omega
      have hs := grw_s hp (F84_L_L l ns)
      have hf := hf_eq (n := ns.length) (by omega)
      have hpt1 := part_len (l := F83_L_L l ns (F84_L_L l ns)) (a := 0) (b := (((ns.length + 1) / 2 : Nat) : Int)) (by omega)
      have hpt2 := part_len (l := F83_L_L l ns (F84_L_L l ns)) (a := (((ns.length + 1) / 2 : Nat) : Int)) (b := ((ns.length : Nat) : Int)) (by omega)
      have h5 : GRR _ (A60_L_z00_L_2 (R60_L_z00_L n1) l t ns leaf) _ := grw_inv n1 _ _ _ _ (pgrw1 hp _ g2) (by rw [hs.1, hf, hpt1]; omega)
      have e2 : A60_L_z00_L_2 (R60_L_z00_L n1) l t ns leaf = A60_L_z00_L_2 (R60_L_z00_L n2) l t ns leaf := grw_fuel n1 n2 _ _ _ _ (pgrw1 hp _ g2) (by rw [hs.1, hf, hpt1]; omega) (by rw [hs.1, hf, hpt1]; omega)
      have e3 : A60_L_z00_L_3 (R60_L_z00_L n1) l t ns leaf = A60_L_z00_L_3 (R60_L_z00_L n2) l t ns leaf := by
        have := grw_fuel n1 n2 _ _ _ _ (pgrw2 hp _ g2 h5) (by rw [hs.1, hf, hpt2]; omega) (by rw [hs.1, hf, hpt2]; omega)
        unfold A60_L_z00_L_3
        rw [← e2]
        exact this
      rw [e3, e2]

def A60_L_z10_L_1 (a0 : TyL) (a1 : List (Int) × TyN) (a2 : List (Int)) (a3 : Int) := (F81_L (F82_L_L a0 a2) ((F80_L_L a0 a2 0), (F80_L_L a0 a2 1), (F80_L_L a0 a2 2)))

def A60_L_z10_L_2 (rr : TyL → (List (Int) × TyN) → (List (Int)) → (Int) → List (Int) × TyN) (a0 : TyL) (a1 : List (Int) × TyN) (a2 : List (Int)) (a3 : Int) := (rr a0 (([] : List (Int)), (a1.2 ++ [(0, (W (0 + ((a2.length : Nat) : Int))), (-1), (-1), ((F80_L_L a0 a2 0), (F80_L_L a0 a2 1), (F80_L_L a0 a2 2)), (A60_L_z10_L_1 a0 a1 a2 a3).1)])) (Aw.part (F83_L_L a0 a2 (F84_L_L a0 a2)) 0 (W (Int.tdiv (W ((((F83_L_L a0 a2 (F84_L_L a0 a2)).length : Nat) : Int) + 1)) 2))) a3)

def A60_L_z10_L_3 (rr : TyL → (List (Int) × TyN) → (List (Int)) → (Int) → List (Int) × TyN) (a0 : TyL) (a1 : List (Int) × TyN) (a2 : List (Int)) (a3 : Int) := (F60_L_z00_L a0 ((A60_L_z10_L_2 (rr) a0 a1 a2 a3).1, (A60_L_z10_L_2 (rr) a0 a1 a2 a3).2) (Aw.part (F83_L_L a0 a2 (F84_L_L a0 a2)) (W (Int.tdiv (W ((((F83_L_L a0 a2 (F84_L_L a0 a2)).length : Nat) : Int) + 1)) 2)) (((F83_L_L a0 a2 (F84_L_L a0 a2)).length : Nat) : Int)) a3)

def R60_L_z10_L : Nat → TyL → (List (Int) × TyN) → (List (Int)) → (Int) → List (Int) × TyN
  | 0, _, _, _, _ => default
  | nr + 1, a0, a1, a2, a3 =>
  (bif (decide ((((a2.length : Nat) : Int) : Int) ≤ a3)) then
   (a2, (a1.2 ++ [(0, (W (0 + ((a2.length : Nat) : Int))), (-1), (-1), ((F80_L_L a0 a2 0), (F80_L_L a0 a2 1), (F80_L_L a0 a2 2)), (A60_L_z10_L_1 a0 a1 a2 a3).1)]))
  else
   ((A60_L_z10_L_3 (R60_L_z10_L nr) a0 a1 a2 a3).1, (((A60_L_z10_L_3 (R60_L_z10_L nr) a0 a1 a2 a3).2.set (toNat ((a1.2.length : Nat) : Int)) (((A60_L_z10_L_3 (R60_L_z10_L nr) a0 a1 a2 a3).2.getD (toNat ((a1.2.length : Nat) : Int)) default).1, ((A60_L_z10_L_3 (R60_L_z10_L nr) a0 a1 a2 a3).2.getD (toNat ((a1.2.length : Nat) : Int)) default).2.1, (((a1.2.length + 1) : Nat) : Int), ((A60_L_z10_L_3 (R60_L_z10_L nr) a0 a1 a2 a3).2.getD (toNat ((a1.2.length : Nat) : Int)) default).2.2.2.1, ((A60_L_z10_L_3 (R60_L_z10_L nr) a0 a1 a2 a3).2.getD (toNat ((a1.2.length : Nat) : Int)) default).2.2.2.2.1, ((A60_L_z10_L_3 (R60_L_z10_L nr) a0 a1 a2 a3).2.getD (toNat ((a1.2.length : Nat) : Int)) default).2.2.2.2.2)).set (toNat ((a1.2.length : Nat) : Int)) ((((A60_L_z10_L_3 (R60_L_z10_L nr) a0 a1 a2 a3).2.set (toNat ((a1.2.length : Nat) : Int)) (((A60_L_z10_L_3 (R60_L_z10_L nr) a0 a1 a2 a3).2.getD (toNat ((a1.2.length : Nat) : Int)) default).1, ((A60_L_z10_L_3 (R60_L_z10_L nr) a0 a1 a2 a3).2.getD (toNat ((a1.2.length : Nat) : Int)) default).2.1, (((a1.2.length + 1) : Nat) : Int), ((A60_L_z10_L_3 (R60_L_z10_L nr) a0 a1 a2 a3).2.getD (toNat ((a1.2.length : Nat) : Int)) default).2.2.2.1, ((A60_L_z10_L_3 (R60_L_z10_L nr) a0 a1 a2 a3).2.getD (toNat ((a1.2.length : Nat) : Int)) default).2.2.2.2.1, ((A60_L_z10_L_3 (R60_L_z10_L nr) a0 a1 a2 a3).2.getD (toNat ((a1.2.length : Nat) : Int)) default).2.2.2.2.2)).getD (toNat ((a1.2.length : Nat) : Int)) default).1, (((A60_L_z10_L_3 (R60_L_z10_L nr) a0 a1 a2 a3).2.set (toNat ((a1.2.length : Nat) : Int)) (((A60_L_z10_L_3 (R60_L_z10_L nr) a0 a1 a2 a3).2.getD (toNat ((a1.2.length : Nat) : Int)) default).1, ((A60_L_z10_L_3 (R60_L_z10_L nr) a0 a1 a2 a3).2.getD (toNat ((a1.2.length : Nat) : Int)) default).2.1, (((a1.2.length + 1) : Nat) : Int), ((A60_L_z10_L_3 (R60_L_z10_L nr) a0 a1 a2 a3).2.getD (toNat ((a1.2.length : Nat) : Int)) default).2.2.2.1, ((A60_L_z10_L_3 (R60_L_z10_L nr) a0 a1 a2 a3).2.getD (toNat ((a1.2.length : Nat) : Int)) default).2.2.2.2.1, ((A60_L_z10_L_3 (R60_L_z10_L nr) a0 a1 a2 a3).2.getD (toNat ((a1.2.length : Nat) : Int)) default).2.2.2.2.2)).getD (toNat ((a1.2.length : Nat) : Int)) default).2.1, (((A60_L_z10_L_3 (R60_L_z10_L nr) a0 a1 a2 a3).2.set (toNat ((a1.2.length : Nat) : Int)) (((A60_L_z10_L_3 (R60_L_z10_L nr) a0 a1 a2 a3).2.getD (toNat ((a1.2.length : Nat) : Int)) default).1, ((A60_L_z10_L_3 (R60_L_z10_L nr) a0 a1 a2 a3).2.getD (toNat ((a1.2.length : Nat) : Int)) default).2.1, (((a1.2.length + 1) : Nat) : Int), ((A60_L_z10_L_3 (R60_L_z10_L nr) a0 a1 a2 a3).2.getD (toNat ((a1.2.length : Nat) : Int)) default).2.2.2.1, ((A60_L_z10_L_3 (R60_L_z10_L nr) a0 a1 a2 a3).2.getD (toNat ((a1.2.length : Nat) : Int)) default).2.2.2.2.1, ((A60_L_z10_L_3 (R60_L_z10_L nr) a0 a1 a2 a3).2.getD (toNat ((a1.2.length : Nat) : Int)) default).2.2.2.2.2)).getD (toNat ((a1.2.length : Nat) : Int)) default).2.2.1, (((A60_L_z10_L_2 (R60_L_z10_L nr) a0 a1 a2 a3).2.length : Nat) : Int), (((A60_L_z10_L_3 (R60_L_z10_L nr) a0 a1 a2 a3).2.set (toNat ((a1.2.length : Nat) : Int)) (((A60_L_z10_L_3 (R60_L_z10_L nr) a0 a1 a2 a3).2.getD (toNat ((a1.2.length : Nat) : Int)) default).1, ((A60_L_z10_L_3 (R60_L_z10_L nr) a0 a1 a2 a3).2.getD (toNat ((a1.2.length : Nat) : Int)) default).2.1, (((a1.2.length + 1) : Nat) : Int), ((A60_L_z10_L_3 (R60_L_z10_L nr) a0 a1 a2 a3).2.getD (toNat ((a1.2.length : Nat) : Int)) default).2.2.2.1, ((A60_L_z10_L_3 (R60_L_z10_L nr) a0 a1 a2 a3).2.getD (toNat ((a1.2.length : Nat) : Int)) default).2.2.2.2.1, ((A60_L_z10_L_3 (R60_L_z10_L nr) a0 a1 a2 a3).2.getD (toNat ((a1.2.length : Nat) : Int)) default).2.2.2.2.2)).getD (toNat ((a1.2.length : Nat) : Int)) default).2.2.2.2.1, (((A60_L_z10_L_3 (R60_L_z10_L nr) a0 a1 a2 a3).2.set (toNat ((a1.2.length : Nat) : Int)) (((A60_L_z10_L_3 (R60_L_z10_L nr) a0 a1 a2 a3).2.getD (toNat ((a1.2.length : Nat) : Int)) default).1, ((A60_L_z10_L_3 (R60_L_z10_L nr) a0 a1 a2 a3).2.getD (toNat ((a1.2.length : Nat) : Int)) default).2.1, (((a1.2.length + 1) : Nat) : Int), ((A60_L_z10_L_3 (R60_L_z10_L nr) a0 a1 a2 a3).2.getD (toNat ((a1.2.length : Nat) : Int)) default).2.2.2.1, ((A60_L_z10_L_3 (R60_L_z10_L nr) a0 a1 a2 a3).2.getD (toNat ((a1.2.length : Nat) : Int)) default).2.2.2.2.1, ((A60_L_z10_L_3 (R60_L_z10_L nr) a0 a1 a2 a3).2.getD (toNat ((a1.2.length : Nat) : Int)) default).2.2.2.2.2)).getD (toNat ((a1.2.length : Nat) : Int)) default).2.2.2.2.2))))

def F60_L_z10_L (a0 : TyL) (a1 : List (Int) × TyN) (a2 : List (Int)) (a3 : Int) : List (Int) × TyN := R60_L_z10_L (a2.length + 1) a0 a1 a2 a3

theorem grw10 : ∀ (nr : Nat) (l : LCH) (t : TR) (ns : List Int) (leaf : Int), PGRW l ([], t.2) ns leaf → ns.length < nr → R60_L_z10_L nr l t ns leaf = R60_L_z00_L nr l ([], t.2) ns leaf
  | 0, _, _, _, _, _, h => absurd h (Nat.not_lt_zero _)
  | nr + 1, l, t, ns, leaf, hp, hn => by
    have h := hp.rng; have hl := hp.lf
    simp only [R60_L_z10_L, R60_L_z00_L]
    by_cases h0 : ((ns.length : Nat) : Int) ≤ leaf
    · rw [decide_eq_true h0, cond_true, cond_true]
      rfl
    · rw [decide_eq_false h0, cond_false, cond_false]
      have g2 : 2 ≤ ns.length := by omega
      have hs := grw_s hp (F84_L_L l ns)
      have hf := hf_eq (n := ns.length) (by omega)
      have hpt1 := part_len (l := F83_L_L l ns (F84_L_L l ns)) (a := 0) (b := (((ns.length + 1) / 2 : Nat) : Int)) (by omega)
      have hpt2 := part_len (l := F83_L_L l ns (F84_L_L l ns)) (a := (((ns.length + 1) / 2 : Nat) : Int)) (b := ((ns.length : Nat) : Int)) (by omega)
      have e2 : A60_L_z10_L_2 (R60_L_z10_L nr) l t ns leaf = A60_L_z00_L_2 (R60_L_z00_L nr) l ([], t.2) ns leaf := grw10 nr _ ([], _) _ _ (pgrw1 hp _ g2) (by rw [hs.1, hf, hpt1]; omega)
      have h5 : GRR _ (A60_L_z00_L_2 (R60_L_z00_L nr) l ([], t.2) ns leaf) _ := grw_inv nr _ _ _ _ (pgrw1 hp _ g2) (by rw [hs.1, hf, hpt1]; omega)
      have e3 : A60_L_z10_L_3 (R60_L_z10_L nr) l t ns leaf = A60_L_z00_L_3 (R60_L_z00_L nr) l ([], t.2) ns leaf := by
        unfold A60_L_z10_L_3 A60_L_z00_L_3 F60_L_z00_L
        rw [e2]
        exact grw_fuel _ _ _ _ _ _ (pgrw2 hp _ g2 h5) (Nat.lt_succ_self _) (by rw [hs.1, hf, hpt2]; omega)
      rw [e3, e2]

def A60_L_z11_L_1 (a0 : TyL) (a1 : List (Int) × TyN) (a2 : List (Int)) (a3 : Int) := (F81_L (F82_L_L a0 a2) ((F80_L_L a0 a2 0), (F80_L_L a0 a2 1), (F80_L_L a0 a2 2)))

def A60_L_z11_L_2 (a0 : TyL) (a1 : List (Int) × TyN) (a2 : List (Int)) (a3 : Int) := (F60_L_z10_L a0 (([] : List (Int)), ([(0, (W (0 + ((a2.length : Nat) : Int))), (-1), (-1), ((F80_L_L a0 a2 0), (F80_L_L a0 a2 1), (F80_L_L a0 a2 2)), (A60_L_z11_L_1 a0 a1 a2 a3).1)] : TyN)) (Aw.part (F83_L_L a0 a2 (F84_L_L a0 a2)) 0 (W (Int.tdiv (W ((((F83_L_L a0 a2 (F84_L_L a0 a2)).length : Nat) : Int) + 1)) 2))) a3)

def A60_L_z11_L_3 (a0 : TyL) (a1 : List (Int) × TyN) (a2 : List (Int)) (a3 : Int) := (F60_L_z00_L a0 ((A60_L_z11_L_2 a0 a1 a2 a3).1, (A60_L_z11_L_2 a0 a1 a2 a3).2) (Aw.part (F83_L_L a0 a2 (F84_L_L a0 a2)) (W (Int.tdiv (W ((((F83_L_L a0 a2 (F84_L_L a0 a2)).length : Nat) : Int) + 1)) 2)) (((F83_L_L a0 a2 (F84_L_L a0 a2)).length : Nat) : Int)) a3)

def R60_L_z11_L : Nat → TyL → (List (Int) × TyN) → (List (Int)) → (Int) → List (Int) × TyN
  | 0, _, _, _, _ => default
  | nr + 1, a0, a1, a2, a3 =>
  (bif (decide ((((a2.length : Nat) : Int) : Int) ≤ a3)) then
   (a2, ([(0, (W (0 + ((a2.length : Nat) : Int))), (-1), (-1), ((F80_L_L a0 a2 0), (F80_L_L a0 a2 1), (F80_L_L a0 a2 2)), (A60_L_z11_L_1 a0 a1 a2 a3).1)] : TyN))
  else
   ((A60_L_z11_L_3 a0 a1 a2 a3).1, (((A60_L_z11_L_3 a0 a1 a2 a3).2.set (toNat 0) (((A60_L_z11_L_3 a0 a1 a2 a3).2.getD (toNat 0) default).1, ((A60_L_z11_L_3 a0 a1 a2 a3).2.getD (toNat 0) default).2.1, 1, ((A60_L_z11_L_3 a0 a1 a2 a3).2.getD (toNat 0) default).2.2.2.1, ((A60_L_z11_L_3 a0 a1 a2 a3).2.getD (toNat 0) default).2.2.2.2.1, ((A60_L_z11_L_3 a0 a1 a2 a3).2.getD (toNat 0) default).2.2.2.2.2)).set (toNat 0) ((((A60_L_z11_L_3 a0 a1 a2 a3).2.set (toNat 0) (((A60_L_z11_L_3 a0 a1 a2 a3).2.getD (toNat 0) default).1, ((A60_L_z11_L_3 a0 a1 a2 a3).2.getD (toNat 0) default).2.1, 1, ((A60_L_z11_L_3 a0 a1 a2 a3).2.getD (toNat 0) default).2.2.2.1, ((A60_L_z11_L_3 a0 a1 a2 a3).2.getD (toNat 0) default).2.2.2.2.1, ((A60_L_z11_L_3 a0 a1 a2 a3).2.getD (toNat 0) default).2.2.2.2.2)).getD (toNat 0) default).1, (((A60_L_z11_L_3 a0 a1 a2 a3).2.set (toNat 0) (((A60_L_z11_L_3 a0 a1 a2 a3).2.getD (toNat 0) default).1, ((A60_L_z11_L_3 a0 a1 a2 a3).2.getD (toNat 0) default).2.1, 1, ((A60_L_z11_L_3 a0 a1 a2 a3).2.getD (toNat 0) default).2.2.2.1, ((A60_L_z11_L_3 a0 a1 a2 a3).2.getD (toNat 0) default).2.2.2.2.1, ((A60_L_z11_L_3 a0 a1 a2 a3).2.getD (toNat 0) default).2.2.2.2.2)).getD (toNat 0) default).2.1, (((A60_L_z11_L_3 a0 a1 a2 a3).2.set (toNat 0) (((A60_L_z11_L_3 a0 a1 a2 a3).2.getD (toNat 0) default).1, ((A60_L_z11_L_3 a0 a1 a2 a3).2.getD (toNat 0) default).2.1, 1, ((A60_L_z11_L_3 a0 a1 a2 a3).2.getD (toNat 0) default).2.2.2.1, ((A60_L_z11_L_3 a0 a1 a2 a3).2.getD (toNat 0) default).2.2.2.2.1, ((A60_L_z11_L_3 a0 a1 a2 a3).2.getD (toNat 0) default).2.2.2.2.2)).getD (toNat 0) default).2.2.1, (((A60_L_z11_L_2 a0 a1 a2 a3).2.length : Nat) : Int), (((A60_L_z11_L_3 a0 a1 a2 a3).2.set (toNat 0) (((A60_L_z11_L_3 a0 a1 a2 a3).2.getD (toNat 0) default).1, ((A60_L_z11_L_3 a0 a1 a2 a3).2.getD (toNat 0) default).2.1, 1, ((A60_L_z11_L_3 a0 a1 a2 a3).2.getD (toNat 0) default).2.2.2.1, ((A60_L_z11_L_3 a0 a1 a2 a3).2.getD (toNat 0) default).2.2.2.2.1, ((A60_L_z11_L_3 a0 a1 a2 a3).2.getD (toNat 0) default).2.2.2.2.2)).getD (toNat 0) default).2.2.2.2.1, (((A60_L_z11_L_3 a0 a1 a2 a3).2.set (toNat 0) (((A60_L_z11_L_3 a0 a1 a2 a3).2.getD (toNat 0) default).1, ((A60_L_z11_L_3 a0 a1 a2 a3).2.getD (toNat 0) default).2.1, 1, ((A60_L_z11_L_3 a0 a1 a2 a3).2.getD (toNat 0) default).2.2.2.1, ((A60_L_z11_L_3 a0 a1 a2 a3).2.getD (toNat 0) default).2.2.2.2.1, ((A60_L_z11_L_3 a0 a1 a2 a3).2.getD (toNat 0) default).2.2.2.2.2)).getD (toNat 0) default).2.2.2.2.2))))

def F60_L_z11_L (a0 : TyL) (a1 : List (Int) × TyN) (a2 : List (Int)) (a3 : Int) : List (Int) × TyN := R60_L_z11_L (a2.length + 1) a0 a1 a2 a3


def S36_L_0 (a0 : TyL) (a1 : Int) : List (Int) × Int → (List (Int) × Int) ⊕ (List (Int) × TyN)
  | (v2, v3) =>
   (bif (decide ((v3 : Int) < ((a0.length : Nat) : Int))) then
    (.inl ((v2 ++ [v3]), (v3 + 1)))
   else
    (bif ((((a0.length : Nat) : Int) : Int) == 0) then
     (.inr (([] : List (Int)), ([] : TyN)))
    else
     (.inr ((F60_L_z11_L a0 (([] : List (Int)), ([] : TyN)) v2 a1).1, (F60_L_z11_L a0 (([] : List (Int)), ([] : TyN)) v2 a1).2))))

def F36_L (a0 : TyL) (a1 : Int) : List (Int) × TyN :=
  (loopF (S36_L_0 a0 a1) (toNat (((a0.length : Nat) : Int) - 0) + 1) (([] : List (Int)), 0))

def F12_L (a0 : TyL) (a1 : Int) : (List (Int) × TyN) × Int :=
  (bif (((F35_L a0) : Int) != 0) then
   ((([] : List (Int)), ([] : TyN)), (F35_L a0))
  else
   (bif (decide ((a1 : Int) < 1)) then
    ((([] : List (Int)), ([] : TyN)), 1)
   else
    (bif (decide ((a1 : Int) > 16)) then
     ((([] : List (Int)), ([] : TyN)), 1)
    else
     (((F36_L a0 a1).1, (F36_L a0 a1).2), 0))))

def S27_L_L_0 (a0 : List (Int)) (a1 : List (Int)) : Int → (Int) ⊕ (Bool)
  | v1 =>
   (bif (decide ((v1 : Int) < ((a0.length : Nat) : Int))) then
    (bif (((a0.getD (toNat v1) default) : Int) != (a1.getD (toNat v1) default)) then
     (.inr false)
    else
     (.inl (v1 + 1)))
   else
    (.inr true))

def F27_L_L (a0 : List (Int)) (a1 : List (Int)) : Bool :=
  (bif ((((a0.length : Nat) : Int) : Int) != ((a1.length : Nat) : Int)) then
   false
  else
   (loopF (S27_L_L_0 a0 a1) (toNat (((a0.length : Nat) : Int) - 0) + 1) 0))

def S13_0 (a0 : List (Int) × TyN) (a1 : List (Int) × TyN) : Int → (Int) ⊕ (Bool)
  | v1 =>
   (bif (decide ((v1 : Int) < ((a0.2.length : Nat) : Int))) then
    (bif (!((((a0.2.getD (toNat v1) default).1 : Int) == (a1.2.getD (toNat v1) default).1) && ((((a0.2.getD (toNat v1) default).2.1 : Int) == (a1.2.getD (toNat v1) default).2.1) && ((((a0.2.getD (toNat v1) default).2.2.1 : Int) == (a1.2.getD (toNat v1) default).2.2.1) && ((((a0.2.getD (toNat v1) default).2.2.2.1 : Int) == (a1.2.getD (toNat v1) default).2.2.2.1) && (((((a0.2.getD (toNat v1) default).2.2.2.2.1.1 : Int) == (a1.2.getD (toNat v1) default).2.2.2.2.1.1) && ((((a0.2.getD (toNat v1) default).2.2.2.2.1.2.1 : Int) == (a1.2.getD (toNat v1) default).2.2.2.2.1.2.1) && ((((a0.2.getD (toNat v1) default).2.2.2.2.1.2.2 : Int) == (a1.2.getD (toNat v1) default).2.2.2.2.1.2.2) && true))) && ((((a0.2.getD (toNat v1) default).2.2.2.2.2 : Int) == (a1.2.getD (toNat v1) default).2.2.2.2.2) && true))))))) then
     (.inr false)
    else
     (.inl (v1 + 1)))
   else
    (.inr true))

def F13 (a0 : List (Int) × TyN) (a1 : List (Int) × TyN) : Bool :=
  (bif (!(F27_L_L a0.1 a1.1)) then
   false
  else
   (bif ((((a0.2.length : Nat) : Int) : Int) != ((a1.2.length : Nat) : Int)) then
    false
   else
    (loopF (S13_0 a0 a1) (toNat (((a0.2.length : Nat) : Int) - 0) + 1) 0)))


def VCH (l : LCH) : Prop := l.length ≤ 96 ∧ ∀ i, i < l.length → vp (l.getD i default).1 = 0 ∧ (-100 ≤ (l.getD i default).2 ∧ (l.getD i default).2 ≤ 100)
theorem vch_loop {l : LCH} : ∀ (d i n : Nat), d = l.length - i → i ≤ l.length → d < n → loopF (S32_L_0 l) n (i : Int) = 0 → ∀ j, i ≤ j → j < l.length → vp (l.getD j default).1 = 0 ∧ (-100 ≤ (l.getD j default).2 ∧ (l.getD j default).2 ≤ 100)
  | 0, i, n, hd, hi, hn, _, j, h1, h2 => absurd h2 (by omega)
  | d + 1, i, n, hd, hi, hn, h, j, h1, h2 => by
    obtain ⟨n, rfl⟩ : ∃ m, n = m + 1 := ⟨n - 1, by omega⟩
    have e : S32_L_0 l (i : Int) = bif (((F55 (l.getD i default).1) : Int) != 0) then .inr (F55 (l.getD i default).1) else bif (!(F56 (l.getD i default).2 (-100) 100)) then .inr 1 else .inl ((i + 1 : Nat) : Int) := by
      simp only [S32_L_0, Int.toNat_natCast]
      rw [decide_eq_true (show ((i : Nat) : Int) < ((l.length : Nat) : Int) by omega), cond_true]; rfl
    cases hv : (((F55 (l.getD i default).1) : Int) != 0) with
    | true =>
      rw [hv, cond_true] at e
      rw [loopF_inr e] at h
      rw [h] at hv; exact absurd hv (by decide)
    | false =>
      rw [hv, cond_false] at e
      cases hw : (!(F56 (l.getD i default).2 (-100) 100)) with
      | true =>
        rw [hw, cond_true] at e
        rw [loopF_inr e] at h
        exact absurd h (by decide)
      | false =>
        rw [hw, cond_false] at e
        rw [loopF_inl e] at h
        by_cases hj : j = i
        · subst hj
          refine ⟨?_, ?_⟩
          · rw [← vp_s]; exact bne_eq_false_iff_eq.1 hv
          · simp only [F56, Bool.not_eq_false'] at hw
            by_cases h3 : (l.getD j default).2 ≥ -100
            · rw [decide_eq_true h3, cond_true] at hw; exact ⟨h3, of_decide_eq_true hw⟩
            · rw [decide_eq_false h3, cond_false] at hw; cases hw
        · exact vch_loop d (i + 1) n (by omega) (by omega) (by omega) h j (by omega) h2
theorem vch_ok {l : LCH} (h : F32_L l = 0) : VCH l := by
  refine ⟨vch_len h, fun i hi => ?_⟩
  have hl := vch_len h
  unfold F32_L at h
  rw [decide_eq_false (show ¬ ((l.length : Nat) : Int) > 96 by omega), cond_false] at h
  exact vch_loop l.length 0 _ (by omega) (by omega) (by omega) h i (Nat.zero_le _) hi
theorem vch_bd {l : LCH} (h : VCH l) {i : Nat} (hi : i < l.length) : bdP 64 (l.getD i default).1 := (vp_ok (h.2 i hi).1).1
section
variable {l : LCH} {ns : List Int}
theorem mem_getD {i : Nat} (hi : i < ns.length) : (F72_L_L l ns).getD i default = l.getD (toNat (ns.getD i default)) default := by
  rw [mem_eq]; simp [List.getD_eq_getElem?_getD, hi]
theorem cen_loop (hl : ns.length ≤ 1048576) : ∀ (n i : Nat) (a1 a2 a3 b1 b2 b3 : Int), ns.length - i < n →
    loopF (S73_L_0 (F72_L_L l ns)) n ((i : Int), a1, a2, a3, b1, b2, b3) =
      (loopF (S80_L_L_0 l ns 0) n (a1, b1, (i : Int)), loopF (S80_L_L_0 l ns 1) n (a2, b2, (i : Int)), loopF (S80_L_L_0 l ns 2) n (a3, b3, (i : Int)))
  | 0, _, _, _, _, _, _, _, h => absurd h (Nat.not_lt_zero _)
  | n + 1, i, a1, a2, a3, b1, b2, b3, h => by
    have hm : (F72_L_L l ns).length = ns.length := mem_len l ns
    by_cases h1 : i < ns.length
    · have hg := mem_getD (l := l) h1
      have e : S73_L_0 (F72_L_L l ns) ((i : Int), a1, a2, a3, b1, b2, b3) = .inl (((i + 1 : Nat) : Int), imn (imn (imn a1 (l.getD (toNat (ns.getD i default)) default).1.1.1) (l.getD (toNat (ns.getD i default)) default).1.2.1.1) (l.getD (toNat (ns.getD i default)) default).1.2.2.1, imn (imn (imn a2 (l.getD (toNat (ns.getD i default)) default).1.1.2.1) (l.getD (toNat (ns.getD i default)) default).1.2.1.2.1) (l.getD (toNat (ns.getD i default)) default).1.2.2.2.1, imn (imn (imn a3 (l.getD (toNat (ns.getD i default)) default).1.1.2.2) (l.getD (toNat (ns.getD i default)) default).1.2.1.2.2) (l.getD (toNat (ns.getD i default)) default).1.2.2.2.2,
          imx (imx (imx b1 (l.getD (toNat (ns.getD i default)) default).1.1.1) (l.getD (toNat (ns.getD i default)) default).1.2.1.1) (l.getD (toNat (ns.getD i default)) default).1.2.2.1, imx (imx (imx b2 (l.getD (toNat (ns.getD i default)) default).1.1.2.1) (l.getD (toNat (ns.getD i default)) default).1.2.1.2.1) (l.getD (toNat (ns.getD i default)) default).1.2.2.2.1, imx (imx (imx b3 (l.getD (toNat (ns.getD i default)) default).1.1.2.2) (l.getD (toNat (ns.getD i default)) default).1.2.1.2.2) (l.getD (toNat (ns.getD i default)) default).1.2.2.2.2) := by
        simp only [S73_L_0, Int.toNat_natCast, hg, hm]
        rw [decide_eq_true (by omega), cond_true]; rfl
      have r : ∀ k a b, S80_L_L_0 l ns k (a, b, (i : Int)) = .inl (imn (imn (imn a (F101 (l.getD (toNat (ns.getD i default)) default).1.1 k)) (F101 (l.getD (toNat (ns.getD i default)) default).1.2.1 k)) (F101 (l.getD (toNat (ns.getD i default)) default).1.2.2 k),
          imx (imx (imx b (F101 (l.getD (toNat (ns.getD i default)) default).1.1 k)) (F101 (l.getD (toNat (ns.getD i default)) default).1.2.1 k)) (F101 (l.getD (toNat (ns.getD i default)) default).1.2.2 k), ((i + 1 : Nat) : Int)) := fun k a b => by
        simp only [S80_L_L_0, Int.toNat_natCast]
        rw [decide_eq_true (by omega), cond_true]; rfl
      rw [loopF_inl e, loopF_inl (r 0 a1 b1), loopF_inl (r 1 a2 b2), loopF_inl (r 2 a3 b3)]
      exact cen_loop hl n (i + 1) _ _ _ _ _ _ (by omega)
    · have e : S73_L_0 (F72_L_L l ns) ((i : Int), a1, a2, a3, b1, b2, b3) = .inr (F102 a1 b1, F102 a2 b2, F102 a3 b3) := by
        simp only [S73_L_0, hm]
        rw [decide_eq_false (by omega), cond_false]; rfl
      have r : ∀ k a b, S80_L_L_0 l ns k (a, b, (i : Int)) = .inr (F102 a b) := fun k a b => by
        simp only [S80_L_L_0]
        rw [decide_eq_false (by omega), cond_false]
      rw [loopF_inr e, loopF_inr (r 0 a1 b1), loopF_inr (r 1 a2 b2), loopF_inr (r 2 a3 b3)]
theorem cen_eq (hv : VCH l) (hi : InR l.length ns) (h1 : 1 ≤ ns.length) (hl : ns.length ≤ 1048576) : F73_L (F72_L_L l ns) = (F80_L_L l ns 0, F80_L_L l ns 1, F80_L_L l ns 2) := by
  have hm : (F72_L_L l ns).length = ns.length := mem_len l ns
  have hg := mem_getD (l := l) (ns := ns) (i := 0) (by omega)
  have h0 := hi.at (i := 0) (by omega)
  have hb := vch_bd hv (i := toNat (ns.getD 0 default)) (by omega)
  unfold F73_L F80_L_L
  rw [hm, show (toNat 0) = 0 from rfl, hg]
  obtain ⟨n, hn⟩ : ∃ n, toNat (((ns.length : Nat) : Int) - 0) + 1 = n + 1 := ⟨_, rfl⟩
  rw [hn]
  have hnn : ns.length ≤ n := by omega
  generalize hp : l.getD (toNat (ns.getD 0 default)) default = p at hb hg ⊢
  -- the first round
  have e : S73_L_0 (F72_L_L l ns) (0, p.1.1.1, p.1.1.2.1, p.1.1.2.2, p.1.1.1, p.1.1.2.1, p.1.1.2.2) = .inl (((1 : Nat) : Int), imn (imn (imn p.1.1.1 p.1.1.1) p.1.2.1.1) p.1.2.2.1, imn (imn (imn p.1.1.2.1 p.1.1.2.1) p.1.2.1.2.1) p.1.2.2.2.1, imn (imn (imn p.1.1.2.2 p.1.1.2.2) p.1.2.1.2.2) p.1.2.2.2.2,
      imx (imx (imx p.1.1.1 p.1.1.1) p.1.2.1.1) p.1.2.2.1, imx (imx (imx p.1.1.2.1 p.1.1.2.1) p.1.2.1.2.1) p.1.2.2.2.1, imx (imx (imx p.1.1.2.2 p.1.1.2.2) p.1.2.1.2.2) p.1.2.2.2.2) := by
    simp only [S73_L_0, show (toNat 0) = 0 from rfl, hg, hm]
    rw [decide_eq_true (by omega), cond_true]; rfl
  have r : ∀ k, S80_L_L_0 l ns k (64, (-64), 0) = .inl (imn (imn (imn 64 (F101 p.1.1 k)) (F101 p.1.2.1 k)) (F101 p.1.2.2 k),
      imx (imx (imx (-64) (F101 p.1.1 k)) (F101 p.1.2.1 k)) (F101 p.1.2.2 k), ((1 : Nat) : Int)) := fun k => by
    simp only [S80_L_L_0, show (toNat 0) = 0 from rfl, hp]
    rw [decide_eq_true (by omega), cond_true]; rfl
  have m1 : ∀ x y z : Int, (-64 ≤ x ∧ x ≤ 64) → imn (imn (imn 64 x) y) z = imn (imn (imn x x) y) z := fun x y z hx => by
    congr 2; unfold imn; split <;> split <;> omega
  have m2 : ∀ x y z : Int, (-64 ≤ x ∧ x ≤ 64) → imx (imx (imx (-64) x) y) z = imx (imx (imx x x) y) z := fun x y z hx => by
    congr 2; unfold imx; split <;> split <;> omega
  obtain ⟨⟨hx, hy, hz⟩, _⟩ := hb
  rw [loopF_inl e, loopF_inl (r 0), loopF_inl (r 1), loopF_inl (r 2), cen_loop hl n 1 _ _ _ _ _ _ (by omega)]
  rw [m1 _ _ _ (show -64 ≤ F101 p.1.1 0 ∧ F101 p.1.1 0 ≤ 64 from hx), m2 _ _ _ (show -64 ≤ F101 p.1.1 0 ∧ F101 p.1.1 0 ≤ 64 from hx),
    m1 _ _ _ (show -64 ≤ F101 p.1.1 1 ∧ F101 p.1.1 1 ≤ 64 from hy), m2 _ _ _ (show -64 ≤ F101 p.1.1 1 ∧ F101 p.1.1 1 ≤ 64 from hy),
    m1 _ _ _ (show -64 ≤ F101 p.1.1 2 ∧ F101 p.1.1 2 ≤ 64 from hz), m2 _ _ _ (show -64 ≤ F101 p.1.1 2 ∧ F101 p.1.1 2 ≤ 64 from hz)]
  rfl
theorem cen_rng (hv : VCH l) (hi : InR l.length ns) (k : Int) : ∀ (n i : Nat) (a b : Int), ns.length - i < n → (-64 ≤ a ∧ a ≤ 64) → (-64 ≤ b ∧ b ≤ 64) → -64 ≤ loopF (S80_L_L_0 l ns k) n (a, b, (i : Int)) ∧ loopF (S80_L_L_0 l ns k) n (a, b, (i : Int)) ≤ 64
  | 0, _, _, _, h, _, _ => absurd h (Nat.not_lt_zero _)
  | n + 1, i, a, b, h, ha, hb => by
    by_cases h1 : i < ns.length
    · have h0 := hi.at h1
      have hp := vch_bd hv (i := toNat (ns.getD i default)) (by omega)
      have r : S80_L_L_0 l ns k (a, b, (i : Int)) = .inl (imn (imn (imn a (F101 (l.getD (toNat (ns.getD i default)) default).1.1 k)) (F101 (l.getD (toNat (ns.getD i default)) default).1.2.1 k)) (F101 (l.getD (toNat (ns.getD i default)) default).1.2.2 k),
          imx (imx (imx b (F101 (l.getD (toNat (ns.getD i default)) default).1.1 k)) (F101 (l.getD (toNat (ns.getD i default)) default).1.2.1 k)) (F101 (l.getD (toNat (ns.getD i default)) default).1.2.2 k), ((i + 1 : Nat) : Int)) := by
        simp only [S80_L_L_0, Int.toNat_natCast]
        rw [decide_eq_true (by omega), cond_true]; rfl
      rw [loopF_inl r]
      have ax : ∀ p : Int × Int × Int, bd 64 p → -64 ≤ F101 p k ∧ F101 p k ≤ 64 := fun p hp => by
        unfold F101
        rw [Bool.cond_eq_ite]
        split
        · exact hp.1
        · rw [Bool.cond_eq_ite]
          split
          · exact hp.2.1
          · exact hp.2.2
      have qa1 := ax _ hp.1; have qa2 := ax _ hp.2.1; have qa3 := ax _ hp.2.2
      have mn : ∀ x y : Int, (-64 ≤ x ∧ x ≤ 64) → (-64 ≤ y ∧ y ≤ 64) → -64 ≤ imn x y ∧ imn x y ≤ 64 := fun x y hx hy => by unfold imn; split <;> assumption
      have mx : ∀ x y : Int, (-64 ≤ x ∧ x ≤ 64) → (-64 ≤ y ∧ y ≤ 64) → -64 ≤ imx x y ∧ imx x y ≤ 64 := fun x y hx hy => by unfold imx; split <;> assumption
      exact cen_rng hv hi k n (i + 1) _ _ (by omega) (mn _ _ (mn _ _ (mn _ _ ha qa1) qa2) qa3) (mx _ _ (mx _ _ (mx _ _ hb qa1) qa2) qa3)
    · have r : S80_L_L_0 l ns k (a, b, (i : Int)) = .inr (F102 a b) := by
        simp only [S80_L_L_0]
        rw [decide_eq_false (by omega), cond_false]
      rw [loopF_inr r]
      unfold F102
      rw [W_eq (by omega) (by omega), show (2 : Int) ^ (min (toNat 1) 64) = 2 from by decide, Int.fdiv_eq_ediv_of_nonneg _ (by decide)]
      omega
theorem cen_bd (hv : VCH l) (hi : InR l.length ns) (k : Int) : -64 ≤ F80_L_L l ns k ∧ F80_L_L l ns k ≤ 64 :=
  cen_rng hv hi k _ 0 64 (-64) (by omega) (by omega) (by omega)
theorem rad_eq (m : LCH) {c : Int × Int × Int} (hc : bd 64 c) : F74_L m c = F81_L m c := by
  obtain ⟨h1, h2, h3⟩ := hc
  have hW : W (0 - 64) = -64 := by decide
  have e1 : F106 c 64 = true := by
    unfold F106 F118
    rw [hW, decide_eq_true h1.1, decide_eq_true h1.2, decide_eq_true h2.1, decide_eq_true h2.2, decide_eq_true h3.1, decide_eq_true h3.2]; rfl
  have sz : ∀ x : Int, (-64 ≤ x ∧ x ≤ 64) → F63 x ≤ 64 := fun x hx => by
    unfold F63
    rw [W_eq (n := 0 - x) (by omega) (by omega)]
    split <;> omega
  have e2 : F44 c 64 = true := by
    unfold F44
    rw [hW, decide_eq_true (sz _ h1), decide_eq_true (sz _ h2), decide_eq_true (sz _ h3), decide_eq_true (show c.1 ≥ -64 from h1.1), decide_eq_true (show c.2.1 ≥ -64 from h2.1), decide_eq_true (show c.2.2 ≥ -64 from h3.1)]; rfl
  have e3 : F90_L m c = F103_L m c := by
    unfold F90_L F103_L
    rw [vch_eq, e1, e2]
  have e4 : S74_L_0 m c = S81_L_0 m c := by
    funext ⟨v1, v2⟩
    rfl
  unfold F74_L F81_L
  rw [e3, e4]
def inrB (b : BU) : (Int × Int × Int) ⊕ Int → (Int × Int × Int) ⊕ (BU × Int)
  | .inl s => .inl s
  | .inr x => .inr (b, x)
theorem wid1_eq {b : BU} (hb : b.1 = l) {k : Int} : ∀ (n i : Nat) (v15 v16 lo hi : Int), ns.length - i < n →
    loopF (S76_L_1 b ns) n (v15, v16, k, lo, hi, k, (i : Int)) = inrB b (loopF (S84_L_L_1 l ns) n (v15, v16, k, lo, hi, (i : Int)))
  | 0, _, _, _, _, _, h => absurd h (Nat.not_lt_zero _)
  | n + 1, i, v15, v16, lo, hi, h => by
    have hk : ∀ x : Int, F95 (b.1, b.2.1, (b.2.2.1, b.2.2.2)) x k = F104 (l.getD (toNat x) default) k := fun x => by
      rw [key_eq, ← hb]; rfl
    by_cases h1 : i < ns.length
    · have e : S76_L_1 b ns (v15, v16, k, lo, hi, k, (i : Int)) = .inl (v15, v16, k, imn lo (F104 (l.getD (toNat (ns.getD i default)) default) k), imx hi (F104 (l.getD (toNat (ns.getD i default)) default) k), k, ((i + 1 : Nat) : Int)) := by
        simp only [S76_L_1, hk, Int.toNat_natCast]
        rw [decide_eq_true (by omega), cond_true]; rfl
      have r : S84_L_L_1 l ns (v15, v16, k, lo, hi, (i : Int)) = .inl (v15, v16, k, imn lo (F104 (l.getD (toNat (ns.getD i default)) default) k), imx hi (F104 (l.getD (toNat (ns.getD i default)) default) k), ((i + 1 : Nat) : Int)) := by
        simp only [S84_L_L_1, Int.toNat_natCast]
        rw [decide_eq_true (by omega), cond_true]; rfl
      rw [loopF_inl e, loopF_inl r]
      exact wid1_eq hb n (i + 1) _ _ _ _ (by omega)
    · have e : S76_L_1 b ns (v15, v16, k, lo, hi, k, (i : Int)) = .inr (inrB b (bif (decide (((W (hi - lo)) : Int) > v16)) then .inl (k, (W (hi - lo)), k + 1) else .inl (v15, v16, k + 1))) := by
        simp only [S76_L_1]
        rw [decide_eq_false (by omega), cond_false]
        cases decide (((W (hi - lo)) : Int) > v16) <;> rfl
      have r : S84_L_L_1 l ns (v15, v16, k, lo, hi, (i : Int)) = .inr (bif (decide (((W (hi - lo)) : Int) > v16)) then .inl (k, (W (hi - lo)), k + 1) else .inl (v15, v16, k + 1)) := by
        simp only [S84_L_L_1]
        rw [decide_eq_false (by omega), cond_false]
        cases decide (((W (hi - lo)) : Int) > v16) <;> rfl
      rw [loopF_inr e, loopF_inr r]
theorem wid0_eq {b : BU} (hb : b.1 = l) (h1 : 1 ≤ ns.length) : ∀ (n : Nat) (v12 v13 k : Int), toNat (3 - k) < n →
    loopF (S76_L_0 b ns) n (v12, v13, k) = (b, loopF (S84_L_L_0 l ns) n (v12, v13, k))
  | 0, _, _, _, h => absurd h (Nat.not_lt_zero _)
  | n + 1, v12, v13, k, h => by
    have hk : ∀ x : Int, F95 (b.1, b.2.1, (b.2.2.1, b.2.2.2)) x k = F104 (l.getD (toNat x) default) k := fun x => by
      rw [key_eq, ← hb]; rfl
    by_cases h3 : k < 3
    · generalize hK : F104 (l.getD (toNat (ns.getD (toNat 0) default)) default) k = K
      have e0 : S76_L_0 b ns (v12, v13, k) = loopF (S76_L_1 b ns) (toNat (((ns.length : Nat) : Int) - 0) + 1) (v12, v13, k, K, K, k, ((0 : Nat) : Int)) := by
        simp only [S76_L_0, hk, hK]
        rw [decide_eq_true h3, cond_true]; rfl
      have r0 : S84_L_L_0 l ns (v12, v13, k) = loopF (S84_L_L_1 l ns) (toNat (((ns.length : Nat) : Int) - 1) + 1) (v12, v13, k, K, K, ((1 : Nat) : Int)) := by
        simp only [S84_L_L_0, hK]
        rw [decide_eq_true h3, cond_true]; rfl
      have f0 : toNat (((ns.length : Nat) : Int) - 0) + 1 = (toNat (((ns.length : Nat) : Int) - 1) + 1) + 1 := by omega
      have e1 : S76_L_1 b ns (v12, v13, k, K, K, k, ((0 : Nat) : Int)) = .inl (v12, v13, k, K, K, k, ((1 : Nat) : Int)) := by
        simp only [S76_L_1, hk, Int.toNat_natCast]
        rw [show (toNat 0) = 0 from rfl] at hK
        rw [decide_eq_true (by omega), cond_true, hK, if_neg (by omega)]; rfl
      rw [f0, loopF_inl e1, wid1_eq hb _ 1 _ _ _ _ (by omega), ← r0] at e0
      -- what a round brings
      have hr : ∃ x y, S84_L_L_0 l ns (v12, v13, k) = .inl (x, y, k + 1) := by
        rw [r0]
        have gen : ∀ (m i : Nat) (lo hi : Int), ns.length - i < m → ∃ x y, loopF (S84_L_L_1 l ns) m (v12, v13, k, lo, hi, (i : Int)) = .inl (x, y, k + 1) := by
          intro m
          induction m with
          | zero => intro _ _ _ h; exact absurd h (Nat.not_lt_zero _)
          | succ m ih =>
            intro i lo hi hm
            by_cases hi1 : i < ns.length
            · have r : S84_L_L_1 l ns (v12, v13, k, lo, hi, (i : Int)) = .inl (v12, v13, k, imn lo (F104 (l.getD (toNat (ns.getD i default)) default) k), imx hi (F104 (l.getD (toNat (ns.getD i default)) default) k), ((i + 1 : Nat) : Int)) := by
                simp only [S84_L_L_1, Int.toNat_natCast]
                rw [decide_eq_true (by omega), cond_true]; rfl
              rw [loopF_inl r]
              exact ih (i + 1) _ _ (by omega)
            · have r : S84_L_L_1 l ns (v12, v13, k, lo, hi, (i : Int)) = .inr (bif (decide (((W (hi - lo)) : Int) > v13)) then .inl (k, (W (hi - lo)), k + 1) else .inl (v12, v13, k + 1)) := by
                simp only [S84_L_L_1]
                rw [decide_eq_false (by omega), cond_false]
                cases decide (((W (hi - lo)) : Int) > v13) <;> rfl
              rw [loopF_inr r]
              cases decide (((W (hi - lo)) : Int) > v13)
              · exact ⟨_, _, rfl⟩
              · exact ⟨_, _, rfl⟩
        exact gen _ 1 K K (by omega)
      obtain ⟨x, y, hr⟩ := hr
      rw [hr] at e0
      rw [loopF_inl (show _ = Sum.inl (x, y, k + 1) from e0), loopF_inl hr]
      exact wid0_eq hb h1 n _ _ (k + 1) (by omega)
    · have e : S76_L_0 b ns (v12, v13, k) = .inr (b, v12) := by
        simp only [S76_L_0]
        rw [decide_eq_false h3, cond_false]
      have r : S84_L_L_0 l ns (v12, v13, k) = .inr v12 := by
        simp only [S84_L_L_0]
        rw [decide_eq_false h3, cond_false]
      rw [loopF_inr e, loopF_inr r]
theorem wid_eq {b : BU} (hb : b.1 = l) (h1 : 1 ≤ ns.length) : F76_L b ns = (b, F84_L_L l ns) :=
  wid0_eq hb h1 _ _ _ _ (by omega)
end

end Go.Proofs.Ytnbpiejjeeomkaa

namespace Go.Proofs.Ytnbpiejjeeomkaa
open Go.Proofs Go.Aw Go.RowKit
set_option maxRecDepth 100000
set_option linter.unusedVariables false
set_option linter.unusedSimpArgs false

abbrev NDE := Int × Int × Int × Int × (Int × Int × Int) × Int
def cenR (l : LCH) (ns : List Int) : Int × Int × Int := (F80_L_L l ns 0, F80_L_L l ns 1, F80_L_L l ns 2)
def ndR (l : LCH) (ns : List Int) (fr lt rt : Int) : NDE := (fr, fr + ns.length, lt, rt, cenR l ns, (F81_L (F82_L_L l ns) (cenR l ns)).1)
def GT (l : LCH) (leaf : Int) : Nat → List Int → Int → Int → List Int × List NDE
  | 0, _, _, _ => ([], [])
  | n + 1, ns, fr, at_ =>
    if (ns.length : Int) ≤ leaf then (ns, [ndR l ns fr (-1) (-1)]) else
      let s := srt l (F84_L_L l ns) ns
      let h := (ns.length + 1) / 2
      let a := GT l leaf n (s.take h) fr (at_ + 1)
      let b := GT l leaf n (s.drop h) (fr + h) (at_ + 1 + a.2.length)
      (a.1 ++ b.1, ndR l ns fr (at_ + 1) (at_ + 1 + a.2.length) :: (a.2 ++ b.2))
theorem GT_leaf {l : LCH} {leaf : Int} {n : Nat} {ns : List Int} {fr a : Int} (h : (ns.length : Int) ≤ leaf) : GT l leaf (n + 1) ns fr a = (ns, [ndR l ns fr (-1) (-1)]) := by
  rw [GT, if_pos h]
theorem GT_node {l : LCH} {leaf : Int} {n : Nat} {ns : List Int} {fr a : Int} (h : ¬ (ns.length : Int) ≤ leaf) : GT l leaf (n + 1) ns fr a =
    ((GT l leaf n ((srt l (F84_L_L l ns) ns).take ((ns.length + 1) / 2)) fr (a + 1)).1 ++ (GT l leaf n ((srt l (F84_L_L l ns) ns).drop ((ns.length + 1) / 2)) (fr + ((ns.length + 1) / 2 : Nat)) (a + 1 + (GT l leaf n ((srt l (F84_L_L l ns) ns).take ((ns.length + 1) / 2)) fr (a + 1)).2.length)).1,
      ndR l ns fr (a + 1) (a + 1 + (GT l leaf n ((srt l (F84_L_L l ns) ns).take ((ns.length + 1) / 2)) fr (a + 1)).2.length) :: ((GT l leaf n ((srt l (F84_L_L l ns) ns).take ((ns.length + 1) / 2)) fr (a + 1)).2 ++ (GT l leaf n ((srt l (F84_L_L l ns) ns).drop ((ns.length + 1) / 2)) (fr + ((ns.length + 1) / 2 : Nat)) (a + 1 + (GT l leaf n ((srt l (F84_L_L l ns) ns).take ((ns.length + 1) / 2)) fr (a + 1)).2.length)).2)) := by
  rw [GT, if_neg h]
theorem set_md {α : Type} (pre post : List α) (x y : α) : (pre ++ x :: post).set pre.length y = pre ++ y :: post := by
  rw [List.set_append_right _ _ (Nat.le_refl _), Nat.sub_self]; rfl
theorem getD_md {α : Type} [Inhabited α] (pre post : List α) (x : α) : (pre ++ x :: post).getD pre.length default = x := by
  rw [List.getD_eq_getElem?_getD, List.getElem?_append_right (Nat.le_refl _), Nat.sub_self]; rfl
theorem part0 {s : List Int} {h : Nat} : Aw.part s 0 (h : Int) = s.take h := by unfold Aw.part; simp
theorem part1 {s : List Int} {h : Nat} : Aw.part s (h : Int) ((s.length : Nat) : Int) = s.drop h := by
  unfold Aw.part
  rw [Int.toNat_natCast, Int.toNat_natCast]
  exact List.take_of_length_le (by rw [List.length_drop]; exact Nat.le_refl _)
theorem grow_GT : ∀ (nr : Nat) (l : LCH) (t : TR) (ns : List Int) (leaf : Int), PGRW l t ns leaf → ns.length < nr →
    R60_L_z00_L nr l t ns leaf = (t.1 ++ (GT l leaf nr ns t.1.length t.2.length).1, t.2 ++ (GT l leaf nr ns t.1.length t.2.length).2)
  | 0, _, _, _, _, _, h => absurd h (Nat.not_lt_zero _)
  | nr + 1, l, t, ns, leaf, hp, hn => by
    have h := hp.rng; have hl := hp.lf; have hnd := hp.nds
    simp only [R60_L_z00_L]
    have hW : W (((t.1.length : Nat) : Int) + ((ns.length : Nat) : Int)) = (t.1.length : Int) + ns.length := W_eq (by omega) (by omega)
    by_cases h0 : ((ns.length : Nat) : Int) ≤ leaf
    · rw [decide_eq_true h0, cond_true, GT_leaf h0, hW]
      rfl
    · rw [decide_eq_false h0, cond_false, GT_node h0]
      have g2 : 2 ≤ ns.length := by omega
      have hs := grw_s hp (F84_L_L l ns)
      have hf := hf_eq (n := ns.length) (by omega)
      have hso := rso_eq (l := l) (k := F84_L_L l ns) (ns := ns) (by omega)
      have hsl := srt_len l (F84_L_L l ns) ns
      have hpt1 := part_len (l := F83_L_L l ns (F84_L_L l ns)) (a := 0) (b := (((ns.length + 1) / 2 : Nat) : Int)) (by omega)
      have hpt2 := part_len (l := F83_L_L l ns (F84_L_L l ns)) (a := (((ns.length + 1) / 2 : Nat) : Int)) (b := ((ns.length : Nat) : Int)) (by omega)
      have h5 : GRR _ (A60_L_z00_L_2 (R60_L_z00_L nr) l t ns leaf) _ := grw_inv nr _ _ _ _ (pgrw1 hp _ g2) (by rw [hs.1, hf, hpt1]; omega)
      have h5o := h5.ol
      rw [hs.1, hf, hpt1] at h5o
      dsimp only at h5o
      have e2 : A60_L_z00_L_2 (R60_L_z00_L nr) l t ns leaf = _ := grow_GT nr _ _ _ _ (pgrw1 hp _ g2) (by rw [hs.1, hf, hpt1]; omega)
      have e3 : A60_L_z00_L_3 (R60_L_z00_L nr) l t ns leaf = _ := grow_GT nr _ _ _ _ (pgrw2 hp _ g2 h5) (by rw [hs.1, hf, hpt2]; omega)
      have hf' : W (Int.tdiv (W ((((srt l (F84_L_L l ns) ns).length : Nat) : Int) + 1)) 2) = (((ns.length + 1) / 2 : Nat) : Int) := by rw [hsl]; exact hf
      rw [hso, hf', part0] at e2
      rw [hso, hf', part1] at e3
      rw [e2] at h5o e3
      simp only [List.length_append, List.length_cons, List.length_nil, Nat.zero_add, Int.natCast_add, Int.natCast_one] at e2 e3 h5o
      have ho1 : (GT l leaf nr ((srt l (F84_L_L l ns) ns).take ((ns.length + 1) / 2)) t.1.length (t.2.length + 1)).1.length = (ns.length + 1) / 2 := by omega
      rw [ho1] at e3
      rw [e3, e2]
      simp only [Int.toNat_natCast, List.append_assoc, List.cons_append, List.nil_append, set_md, getD_md, hW, List.length_append, List.length_cons, Int.natCast_add, Int.natCast_one]
      rw [show (t.2.length : Int) + ((GT l leaf nr ((srt l (F84_L_L l ns) ns).take ((ns.length + 1) / 2)) t.1.length (t.2.length + 1)).2.length + 1) = t.2.length + 1 + (GT l leaf nr ((srt l (F84_L_L l ns) ns).take ((ns.length + 1) / 2)) t.1.length (t.2.length + 1)).2.length by omega]
      rfl


theorem GT_len (l : LCH) {leaf : Int} (hl : 1 ≤ leaf) : ∀ (n : Nat) (ns : List Int) (fr a : Int), ns.length < n → (GT l leaf n ns fr a).1.length = ns.length
  | 0, _, _, _, h => absurd h (Nat.not_lt_zero _)
  | n + 1, ns, fr, a, h => by
    by_cases h0 : (ns.length : Int) ≤ leaf
    · rw [GT_leaf h0]
    · rw [GT_node h0]
      have hsl := srt_len l (F84_L_L l ns) ns
      simp only [List.length_append]
      rw [GT_len l hl n _ _ _ (by rw [List.length_take, hsl]; omega), GT_len l hl n _ _ _ (by rw [List.length_drop, hsl]; omega), List.length_take, List.length_drop, hsl]
      omega
theorem part_at (pre s post : List Int) {i k : Int} (h : Nat) (hi : i = pre.length) (hk : k = i + h) (hh : h ≤ s.length) : Aw.part (pre ++ (s ++ post)) i k = s.take h := by
  unfold Aw.part
  rw [hk, hi, show ((pre.length : Int) + (h : Int)).toNat = pre.length + h by omega, Int.toNat_natCast, List.drop_append_of_le_length (Nat.le_refl _), List.drop_length, List.nil_append, show pre.length + h - pre.length = h by omega, List.take_append_of_le_length hh]
theorem add_GT : ∀ (nr : Nat) (b : BU) (i k : Int), PADD b i k → VCH b.1 → toNat (k - i) < nr →
    R57 nr b i k = ((b.2.2.2.length : Int), b.1, b.2.1, b.2.2.1.take i.toNat ++ ((GT b.1 b.2.1 nr (Aw.part b.2.2.1 i k) i b.2.2.2.length).1 ++ b.2.2.1.drop k.toNat), b.2.2.2 ++ (GT b.1 b.2.1 nr (Aw.part b.2.2.1 i k) i b.2.2.2.length).2)
  | 0, _, _, _, _, _, h => absurd h (Nat.not_lt_zero _)
  | nr + 1, b, i, k, hp, hv, hn => by
    have h := hp.rng; have hn2 := hp.nds; have hl := hp.lf
    have hW : W (k - i) = k - i := W_eq (by omega) (by omega)
    have hpl := part_len (l := b.2.2.1) (a := i) (b := k) (by omega)
    have hir := hp.inr.part i k
    have hcen : F73_L (A57_1 b i k) = cenR b.1 (Aw.part b.2.2.1 i k) := cen_eq hv hir (by rw [hpl]; omega) (by rw [hpl]; omega)
    have hrad : (A57_2 b i k).1 = (F81_L (F82_L_L b.1 (Aw.part b.2.2.1 i k)) (cenR b.1 (Aw.part b.2.2.1 i k))).1 := by
      unfold A57_2
      rw [hcen, rad_eq _ ⟨cen_bd hv hir 0, cen_bd hv hir 1, cen_bd hv hir 2⟩]
      rfl
    have hnd : ∀ x y, ((i, k, x, y, F73_L (A57_1 b i k), (A57_2 b i k).1) : NDE) = ndR b.1 (Aw.part b.2.2.1 i k) i x y := fun x y => by
      unfold ndR
      rw [hcen, hrad, hpl, show i + ((toNat k - toNat i : Nat) : Int) = k by omega]
    simp only [R57]
    by_cases h0 : W (k - i) > b.2.1
    · rw [decide_eq_true h0, cond_true, GT_node (by rw [hpl]; omega)]
      have h2 : 2 ≤ k - i := by omega
      have hm := mid_eq ⟨h.1, h.2.1, by omega⟩
      have hax : (A57_3 b i k).2 = F84_L_L b.1 (Aw.part b.2.2.1 i k) := by
        unfold A57_3
        exact congrArg Prod.snd (wid_eq (l := b.1) (b := (b.1, b.2.1, b.2.2.1, b.2.2.2 ++ [(i, k, (-1), (-1), (F73_L (A57_1 b i k)), (A57_2 b i k).1)])) rfl (by rw [hpl]; omega))
      have hor : A57_4 b i k = b.2.2.1.take i.toNat ++ (srt b.1 (F84_L_L b.1 (Aw.part b.2.2.1 i k)) (Aw.part b.2.2.1 i k) ++ b.2.2.1.drop k.toNat) := by
        unfold A57_4
        rw [sf_srt (by omega), hax, List.append_assoc, show i.toNat + (k.toNat - i.toNat) = k.toNat by omega]
        rfl
      have h5 : ADDR _ (A57_5 (R57 nr) b i k).2 i _ := add_inv nr _ _ _ (pad1 hp h2) (by rw [hm]; omega)
      have e5 : A57_5 (R57 nr) b i k = _ := add_GT nr _ _ _ (pad1 hp h2) hv (by rw [hm]; omega)
      have e6 : A57_6 (R57 nr) b i k = _ := add_GT nr _ _ _ (pad2 hp (add_4 hp).1 h2 h5) hv (by rw [hm]; omega)
      have hsl := srt_len b.1 (F84_L_L b.1 (Aw.part b.2.2.1 i k)) (Aw.part b.2.2.1 i k)
      rw [hm, hnd] at e5
      generalize hs : srt b.1 (F84_L_L b.1 (Aw.part b.2.2.1 i k)) (Aw.part b.2.2.1 i k) = s at hor hsl e5 e6 ⊢
      generalize hh : ((Aw.part b.2.2.1 i k).length + 1) / 2 = hf at e5 e6 ⊢
      have hfe : (i + (k - i + 1) / 2) = i + (hf : Int) := by rw [← hh, hpl]; omega
      have hsn : s.length = (k - i).toNat := by rw [hsl, hpl]; omega
      have hfs : hf ≤ s.length := by rw [← hh, hpl, hsn]; omega
      have htk : (b.2.2.1.take i.toNat).length = i.toNat := by rw [List.length_take]; omega
      dsimp only at e5
      have d1 : (b.2.2.1.take i.toNat ++ (s ++ b.2.2.1.drop k.toNat)).take i.toNat = b.2.2.1.take i.toNat := by
        rw [List.take_append_of_le_length (by rw [htk]; exact Nat.le_refl _), List.take_of_length_le (by rw [htk]; exact Nat.le_refl _)]
      have d2 : (b.2.2.1.take i.toNat ++ (s ++ b.2.2.1.drop k.toNat)).drop (i + (hf : Int)).toNat = s.drop hf ++ b.2.2.1.drop k.toNat := by
        rw [List.drop_append, List.drop_of_length_le (by rw [htk]; omega), List.nil_append, htk, show (i + (hf : Int)).toNat - i.toNat = hf by omega, List.drop_append_of_le_length hfs]
      have g1 := GT_len b.1 hl nr (s.take hf) i (((b.2.2.2 ++ [ndR b.1 (Aw.part b.2.2.1 i k) i (-1) (-1)]).length : Nat) : Int) (by rw [List.length_take, hsn]; have := hn; rw [← hh, hpl]; omega)
      have g2 := GT_len b.1 hl nr (s.drop hf) (i + (hf : Int)) ((((b.2.2.2 ++ [ndR b.1 (Aw.part b.2.2.1 i k) i (-1) (-1)]) ++ (GT b.1 b.2.1 nr (s.take hf) i (((b.2.2.2 ++ [ndR b.1 (Aw.part b.2.2.1 i k) i (-1) (-1)]).length : Nat) : Int)).2).length : Nat) : Int) (by rw [List.length_drop, hsn]; have := hn; rw [← hh, hpl]; omega)
      rw [hor, hfe, part_at (b.2.2.1.take i.toNat) s (b.2.2.1.drop k.toNat) hf (by rw [htk]; omega) rfl hfs, d1, d2] at e5
      rw [e5, hm, hfe] at e6
      dsimp only at e6
      rw [← List.append_assoc (List.take i.toNat b.2.2.1)] at e6
      have hl1 : (b.2.2.1.take i.toNat ++ (GT b.1 b.2.1 nr (s.take hf) i (((b.2.2.2 ++ [ndR b.1 (Aw.part b.2.2.1 i k) i (-1) (-1)]).length : Nat) : Int)).1).length = i.toNat + hf := by
        rw [List.length_append, htk, g1, List.length_take]; omega
      rw [part_at _ (s.drop hf) (b.2.2.1.drop k.toNat) (s.drop hf).length (by rw [hl1]; omega) (by rw [List.length_drop, hsn]; omega) (Nat.le_refl _), List.take_length] at e6
      have d3 : ∀ x y z : List Int, x.length = i.toNat + hf → (x ++ (y ++ z)).take (i + (hf : Int)).toNat = x := fun x y z hx => by
        rw [show (i + (hf : Int)).toNat = x.length by omega, List.take_append_of_le_length (Nat.le_refl _), List.take_length]
      have d4 : ∀ x y z : List Int, x.length = i.toNat + hf → y.length = s.length - hf → (x ++ (y ++ z)).drop k.toNat = z := fun x y z hx hy => by
        rw [← List.append_assoc, show k.toNat = (x ++ y).length by rw [List.length_append, hx, hy, hsn]; omega, List.drop_append_of_le_length (Nat.le_refl _), List.drop_length, List.nil_append]
      rw [d3 _ _ _ hl1, d4 _ _ _ hl1 (by rw [List.length_drop])] at e6
      rw [e6, e5]
      simp only [Int.toNat_natCast, List.append_assoc, List.cons_append, List.nil_append, set_md, getD_md, List.length_append, List.length_cons, List.length_nil, Nat.zero_add, Int.natCast_add, Int.natCast_one]
      rw [show (b.2.2.2.length : Int) + ((GT b.1 b.2.1 nr (s.take hf) i ((b.2.2.2.length : Int) + 1)).2.length + 1) = b.2.2.2.length + 1 + (GT b.1 b.2.1 nr (s.take hf) i ((b.2.2.2.length : Int) + 1)).2.length by omega]
      rfl
    · rw [decide_eq_false h0, cond_false, GT_leaf (by rw [hpl]; omega), hnd]
      dsimp only
      rw [← List.append_assoc, List.append_assoc]
      have : b.2.2.1.take i.toNat ++ (Aw.part b.2.2.1 i k ++ b.2.2.1.drop k.toNat) = b.2.2.1 := by
        unfold Aw.part
        have e : b.2.2.1.drop k.toNat = (b.2.2.1.drop i.toNat).drop (k.toNat - i.toNat) := by rw [List.drop_drop, show i.toNat + (k.toNat - i.toNat) = k.toNat by omega]
        rw [e, List.take_append_drop, List.take_append_drop]
      rw [this]


theorem grw11 (l : LCH) (t : TR) (ns : List Int) (leaf : Int) (hp : PGRW l ([], []) ns leaf) : F60_L_z11_L l t ns leaf = F60_L_z00_L l ([], []) ns leaf := by
  have h := hp.rng; have hl := hp.lf
  unfold F60_L_z11_L F60_L_z00_L
  simp only [R60_L_z11_L, R60_L_z00_L]
  by_cases h0 : ((ns.length : Nat) : Int) ≤ leaf
  · rw [decide_eq_true h0, cond_true, cond_true]
    rfl
  · rw [decide_eq_false h0, cond_false, cond_false]
    have g2 : 2 ≤ ns.length := by omega
    have hs := grw_s hp (F84_L_L l ns)
    have hf := hf_eq (n := ns.length) (by omega)
    have hpt1 := part_len (l := F83_L_L l ns (F84_L_L l ns)) (a := 0) (b := (((ns.length + 1) / 2 : Nat) : Int)) (by omega)
    have hpt2 := part_len (l := F83_L_L l ns (F84_L_L l ns)) (a := (((ns.length + 1) / 2 : Nat) : Int)) (b := ((ns.length : Nat) : Int)) (by omega)
    have e2 : A60_L_z11_L_2 l t ns leaf = A60_L_z00_L_2 (R60_L_z00_L ns.length) l ([], []) ns leaf := by
      unfold A60_L_z11_L_2 A60_L_z00_L_2 F60_L_z10_L
      refine (grw10 _ l ([], _) _ leaf (pgrw1 (t := ([], [])) hp _ g2) (Nat.lt_succ_self _)).trans ?_
      exact grw_fuel _ _ _ _ _ _ (pgrw1 hp _ g2) (Nat.lt_succ_self _) (by rw [hs.1, hf, hpt1]; omega)
    have h5 : GRR _ (A60_L_z00_L_2 (R60_L_z00_L ns.length) l ([], []) ns leaf) _ := grw_inv _ _ _ _ _ (pgrw1 hp _ g2) (by rw [hs.1, hf, hpt1]; omega)
    have e3 : A60_L_z11_L_3 l t ns leaf = A60_L_z00_L_3 (R60_L_z00_L ns.length) l ([], []) ns leaf := by
      unfold A60_L_z11_L_3 A60_L_z00_L_3 F60_L_z00_L
      rw [e2]
      exact grw_fuel _ _ _ _ _ _ (pgrw2 hp _ g2 h5) (Nat.lt_succ_self _) (by rw [hs.1, hf, hpt2]; omega)
    rw [e3, e2]
    rfl
def nums (n : Nat) : List Int := (List.range n).map (fun i : Nat => (i : Int))
theorem nums_len (n : Nat) : (nums n).length = n := by simp [nums]
theorem nums_succ (n : Nat) : nums (n + 1) = nums n ++ [(n : Int)] := by simp [nums, List.range_succ]
theorem nums_inr (n : Nat) : InR n (nums n) := fun x hx => by
  simp only [nums, List.mem_map, List.mem_range] at hx
  obtain ⟨i, hi, rfl⟩ := hx
  omega
def BT (l : LCH) (leaf : Int) : List Int × List NDE := if l.length = 0 then ([], []) else GT l leaf (l.length + 1) (nums l.length) 0 0
theorem nums_padd {l : LCH} (h : 1 ≤ l.length) (hl : l.length ≤ 96) {leaf : Int} (hf : 1 ≤ leaf) : PGRW l ([], []) (nums l.length) leaf :=
  ⟨nums_inr _, by rw [nums_len]; simp only [List.length_nil]; omega, by rw [nums_len]; simp only [List.length_nil]; omega, hf⟩
theorem rbl_eq (l : LCH) (hl : l.length ≤ 96) {leaf : Int} (hf : 1 ≤ leaf) : F36_L l leaf = BT l leaf := by
  have lp : ∀ (n i : Nat), l.length - i < n → i ≤ l.length → loopF (S36_L_0 l leaf) n (nums i, (i : Int)) = BT l leaf := by
    intro n
    induction n with
    | zero => intro i h; exact absurd h (Nat.not_lt_zero _)
    | succ n ih =>
      intro i h hi
      by_cases h1 : i < l.length
      · have e : S36_L_0 l leaf (nums i, (i : Int)) = .inl (nums (i + 1), ((i + 1 : Nat) : Int)) := by
          simp only [S36_L_0]
          rw [decide_eq_true (by omega), cond_true, nums_succ]; rfl
        rw [loopF_inl e]
        exact ih (i + 1) (by omega) (by omega)
      · obtain rfl : i = l.length := by omega
        refine loopF_inr ?_
        simp only [S36_L_0]
        rw [decide_eq_false (by omega), cond_false]
        unfold BT
        by_cases h0 : l.length = 0
        · rw [if_pos h0, show ((((l.length : Nat) : Int) : Int) == 0) = true by simp [h0], cond_true]
        · have hp := nums_padd (l := l) (by omega) hl hf
          rw [if_neg h0, show ((((l.length : Nat) : Int) : Int) == 0) = false by rw [beq_eq_false_iff_ne]; omega, cond_false, grw11 _ _ _ _ hp]
          unfold F60_L_z00_L
          rw [grow_GT _ _ _ _ _ hp (Nat.lt_succ_self _), nums_len]
          rfl
  exact lp (toNat (((l.length : Nat) : Int) - 0) + 1) 0 (by omega) (Nat.zero_le _)
theorem bld_eq (l : LCH) (hv : VCH l) {leaf : Int} (hf : 1 ≤ leaf) : F34_L l leaf = BT l leaf := by
  have hl := hv.1
  have lp : ∀ (n i : Nat), l.length - i < n → i ≤ l.length → loopF (S34_L_0 l leaf) n (nums i, ([] : List NDE), (i : Int)) = BT l leaf := by
    intro n
    induction n with
    | zero => intro i h; exact absurd h (Nat.not_lt_zero _)
    | succ n ih =>
      intro i h hi
      by_cases h1 : i < l.length
      · have e : S34_L_0 l leaf (nums i, ([] : List NDE), (i : Int)) = .inl (nums (i + 1), ([] : List NDE), ((i + 1 : Nat) : Int)) := by
          simp only [S34_L_0]
          rw [decide_eq_true (by omega), cond_true, nums_succ]; rfl
        rw [loopF_inl e]
        exact ih (i + 1) (by omega) (by omega)
      · obtain rfl : i = l.length := by omega
        refine loopF_inr ?_
        simp only [S34_L_0]
        rw [decide_eq_false (by omega), cond_false]
        unfold BT
        by_cases h0 : l.length = 0
        · rw [if_pos h0, decide_eq_false (by omega), cond_false]
          have : nums l.length = [] := by rw [h0]; simp [nums]
          rw [this]
        · have hp : PADD (l, leaf, (nums l.length, ([] : List NDE))) 0 ((l.length : Nat) : Int) := ⟨nums_inr _, by dsimp only; rw [nums_len]; omega, by dsimp only; simp only [List.length_nil]; omega, hf⟩
          rw [if_neg h0, decide_eq_true (by omega), cond_true]
          unfold F57
          rw [add_GT _ _ _ _ hp hv (Nat.lt_succ_self _)]
          dsimp only
          have hpt : Aw.part (nums l.length) 0 ((l.length : Nat) : Int) = nums l.length := by rw [part0, List.take_of_length_le (by rw [nums_len]; exact Nat.le_refl _)]
          have hsub : toNat (((l.length : Nat) : Int) - 0) = l.length := by omega
          rw [hpt, hsub, Int.toNat_natCast, List.drop_of_length_le (by rw [nums_len]; exact Nat.le_refl _), List.append_nil]
          rfl
  exact lp (toNat (((l.length : Nat) : Int) - 0) + 1) 0 (by omega) (Nat.zero_le _)
theorem Build_eq (l : LCH) (leaf : Int) : F11_L l leaf = F12_L l leaf := by
  unfold F11_L F12_L
  rw [vch_eq]
  cases h : ((F35_L l : Int) != 0) with
  | true => rfl
  | false =>
    have h0 : F32_L l = 0 := by rw [vch_eq]; exact bne_eq_false_iff_eq.1 h
    have hv := vch_ok h0
    rw [cond_false, cond_false]
    by_cases h1 : leaf < 1
    · rw [decide_eq_true h1, cond_true, show F33 leaf 1 16 = false by unfold F33; rw [decide_eq_false (show ¬ leaf ≥ 1 by omega)]; rfl]; rfl
    · rw [decide_eq_false h1, cond_false]
      by_cases h2 : leaf > 16
      · rw [decide_eq_true h2, cond_true, show F33 leaf 1 16 = false by unfold F33; rw [decide_eq_true (show leaf ≥ 1 by omega), decide_eq_false (show ¬ leaf ≤ 16 by omega)]; rfl]; rfl
      · rw [decide_eq_false h2, cond_false, show F33 leaf 1 16 = true by unfold F33; rw [decide_eq_true (show leaf ≥ 1 by omega), decide_eq_true (show leaf ≤ 16 by omega)]; rfl]
        rw [bld_eq l hv (by omega), rbl_eq l hv.1 (by omega)]
        rfl


theorem GT_nds (l : LCH) {leaf : Int} (hl : 1 ≤ leaf) : ∀ (n : Nat) (ns : List Int) (fr a : Int), ns.length < n → 1 ≤ ns.length → (GT l leaf n ns fr a).2.length + 1 ≤ 2 * ns.length
  | 0, _, _, _, h, _ => absurd h (Nat.not_lt_zero _)
  | n + 1, ns, fr, a, h, h1 => by
    by_cases h0 : (ns.length : Int) ≤ leaf
    · rw [GT_leaf h0]; simp only [List.length_cons, List.length_nil]; omega
    · rw [GT_node h0]
      have hsl := srt_len l (F84_L_L l ns) ns
      have g1 := GT_nds l hl n ((srt l (F84_L_L l ns) ns).take ((ns.length + 1) / 2)) fr (a + 1) (by rw [List.length_take, hsl]; omega) (by rw [List.length_take, hsl]; omega)
      have g2 := GT_nds l hl n ((srt l (F84_L_L l ns) ns).drop ((ns.length + 1) / 2)) (fr + ((ns.length + 1) / 2 : Nat)) (a + 1 + (GT l leaf n ((srt l (F84_L_L l ns) ns).take ((ns.length + 1) / 2)) fr (a + 1)).2.length) (by rw [List.length_drop, hsl]; omega) (by rw [List.length_drop, hsl]; omega)
      rw [List.length_take, hsl] at g1
      rw [List.length_drop, hsl] at g2
      simp only [List.length_cons, List.length_append]
      omega
theorem BT_len (l : LCH) (hl : l.length ≤ 96) {leaf : Int} (hf : 1 ≤ leaf) : (BT l leaf).1.length = l.length ∧ (BT l leaf).2.length ≤ 192 := by
  unfold BT
  by_cases h0 : l.length = 0
  · rw [if_pos h0, h0]; exact ⟨rfl, Nat.zero_le _⟩
  · rw [if_neg h0]
    have g1 := GT_len l hf (l.length + 1) (nums l.length) 0 0 (by rw [nums_len]; omega)
    have g2 := GT_nds l hf (l.length + 1) (nums l.length) 0 0 (by rw [nums_len]; omega) (by rw [nums_len]; omega)
    rw [nums_len] at g1 g2
    exact ⟨g1, by omega⟩
theorem rBuild_len (l : LCH) (leaf : Int) : (F12_L l leaf).1.1.length ≤ 96 ∧ (F12_L l leaf).1.2.length ≤ 192 := by
  unfold F12_L
  cases h : ((F35_L l : Int) != 0) with
  | true => exact ⟨Nat.zero_le _, Nat.zero_le _⟩
  | false =>
    have hl := vch_lenr (l := l) (bne_eq_false_iff_eq.1 h)
    rw [cond_false]
    by_cases h1 : leaf < 1
    · rw [decide_eq_true h1]; exact ⟨Nat.zero_le _, Nat.zero_le _⟩
    · rw [decide_eq_false h1, cond_false]
      by_cases h2 : leaf > 16
      · rw [decide_eq_true h2]; exact ⟨Nat.zero_le _, Nat.zero_le _⟩
      · rw [decide_eq_false h2, cond_false, rbl_eq l hl (by omega)]
        have := BT_len l hl (leaf := leaf) (by omega)
        exact ⟨by dsimp only; omega, this.2⟩
theorem Build_len (l : LCH) (leaf : Int) : (F11_L l leaf).1.1.length ≤ 96 ∧ (F11_L l leaf).1.2.length ≤ 192 := by rw [Build_eq]; exact rBuild_len l leaf

theorem bld_len {l : LCH} {leaf : Int} (h : F32_L l = 0) (hf : 1 ≤ leaf) : (F34_L l leaf).1.length ≤ 96 ∧ (F34_L l leaf).2.length ≤ 192 := by
  have hv := vch_ok h
  rw [bld_eq l hv hf]
  have := BT_len l hv.1 hf
  have := hv.1
  omega
noncomputable def B61_L_L_0 : Code := (loopAtD [1, 1, 0, 1] [] (bodyOf Try.f61) []).1
noncomputable def K61_L_L_0 : List K := (loopAtD [1, 1, 0, 1] [] (bodyOf Try.f61) []).2

def st61_L_L_0 (a0 : List (Int)) (a1 : List (Int)) (v1 : Int) : LS := ⟨slN 26 [(0, (.s 0 0 a0.length 1)), (1, (.s 1 0 a1.length 1)), (12, (iv ((a0.length : Nat) : Int))), (13, (iv v1))], [(.live false true (flat c3 a0)), (.live false true (flat c3 a1))]⟩

def S61_L_L_0 (a0 : List (Int)) (a1 : List (Int)) : Int → (Int) ⊕ (Bool)
  | v1 =>
   (bif (decide ((v1 : Int) < ((a0.length : Nat) : Int))) then
    (bif (((a0.getD (toNat v1) default) : Int) != (a1.getD (toNat v1) default)) then
     (.inr false)
    else
     (.inl (v1 + 1)))
   else
    (.inr true))

set_option maxHeartbeats 4000000 in
theorem L61_L_L_0 (a0 : List (Int)) (a1 : List (Int)) (l0 : a0.length ≤ 9223372036854775807) (l1 : a1.length ≤ 9223372036854775807) {cx : Cx} (hcx : cx.base = 2) : ∀ (n : Nat) (v1 : Int), (0 ≤ v1) ∧ (a0.length = a1.length) → toNat (((a0.length : Nat) : Int) - v1) < n → Aw.Good Try.prog none 9 (bodyPost Try.prog Try.f61 (RR cx (.v (.bool (loopF (S61_L_L_0 a0 a1) n v1))) [] [])) cx [] (.l B61_L_L_0 n :: K61_L_L_0) (st61_L_L_0 a0 a1 v1) := by
  intro n
  induction n with
  | zero => intro v1 hi hn; exact absurd hn (Nat.not_lt_zero _)
  | succ n ih =>
    intro v1 hi hn
    refine good_round ?_
    cases h0 : (decide ((v1 : Int) < ((a0.length : Nat) : Int))) with
    | true =>
     have q0 := of_decide_eq_true h0
     let t1 : List (St Try.prog) := [.d h0, .i v1 (a0.length), .L c3_len a0 v1 0 1, .i v1 (a1.length), .L c3_len a1 v1 0 1]
     cases h1 : (((a0.getD (toNat v1) default) : Int) != (a1.getD (toNat v1) default)) with
     | true =>
      have q1 := bne_iff_ne.1 h1
      have e := Eq.refl (S61_L_L_0 a0 a1 v1); conv at e => rhs; simp only [S61_L_L_0, h0, h1, cond_true, cond_false]
      rw [loopF_s, e]
      exact rt (t1 ++ [.d h1]) [] [] hcx (by kernel_rfl)
     | false =>
      have q1 := bne_eq_false_iff_eq.1 h1
      have e := Eq.refl (S61_L_L_0 a0 a1 v1); conv at e => rhs; simp only [S61_L_L_0, h0, h1, cond_true, cond_false]
      rw [loopF_inl e]
      refine ba (t1 ++ [.d h1]) [] [0, 1, 12, 13] [] hcx (m := n) B61_L_L_0 (K61_L_L_0) (st61_L_L_0 a0 a1 (W (v1 + 1))) (by kernel_rfl) ?_
      have z0 : (W (v1 + 1)) = (v1 + 1) := W_eq (by omega) (by omega)
      rw [z0]
      exact ih (v1 + 1) (by refine ⟨?_, ?_⟩ <;> (try simp only [Ls]) <;> first | omega | assumption | simp) (by (try simp only [Ls]); omega)
    | false =>
     have q0 := of_decide_eq_false h0
     have e := Eq.refl (S61_L_L_0 a0 a1 v1); conv at e => rhs; simp only [S61_L_L_0, h0, cond_true, cond_false]
     rw [loopF_s, e]
     exact rt [.d h0] [] [] hcx (by kernel_rfl)

def F61_L_L (a0 : List (Int)) (a1 : List (Int)) : Bool :=
  (bif ((((a0.length : Nat) : Int) : Int) != ((a1.length : Nat) : Int)) then
   false
  else
   (loopF (S61_L_L_0 a0 a1) (toNat (((a0.length : Nat) : Int) - 0) + 1) 0))

theorem C61_L_L (a0 : List (Int)) (a1 : List (Int)) (l0 : a0.length ≤ 9223372036854775807) (l1 : a1.length ≤ 9223372036854775807) : Con Try.prog 61 [(.s 0 0 a0.length 1), (.s 1 0 a1.length 1)] [(.live false true (flat c3 a0)), (.live false true (flat c3 a1))] (.v (.bool (F61_L_L a0 a1))) [] := by
  refine con_s Try.func61 (by kernel_rfl) fun cx hcx => ?_
  cases h0 : ((((a0.length : Nat) : Int) : Int) != ((a1.length : Nat) : Int)) with
  | true =>
   have q0 := bne_iff_ne.1 h0
   have e := Eq.refl (F61_L_L a0 a1); conv at e => rhs; simp only [F61_L_L, h0, cond_true, cond_false]
   rw [e]
   exact rt [.d h0] [] [] hcx (by kernel_rfl)
  | false =>
   have q0 := bne_eq_false_iff_eq.1 h0
   have e := Eq.refl (F61_L_L a0 a1); conv at e => rhs; simp only [F61_L_L, h0, cond_true, cond_false]
   rw [e]
   refine en [.d h0] [] [0, 1, 12, 13] [] hcx B61_L_L_0 (K61_L_L_0) (st61_L_L_0 a0 a1 0) (toNat (((a0.length : Nat) : Int) - 0) + 1) (by kernel_rfl) ?_
   exact L61_L_L_0 a0 a1 l0 l1 hcx (toNat (((a0.length : Nat) : Int) - 0) + 1) 0 (by refine ⟨?_, ?_⟩ <;> (try simp only [Ls]) <;> first | omega | assumption | simp) (by (try simp only [Ls]); omega)

noncomputable def B62_L_L_0 : Code := (loopAtD [1, 1, 0, 1] [] (bodyOf Try.f62) []).1
noncomputable def K62_L_L_0 : List K := (loopAtD [1, 1, 0, 1] [] (bodyOf Try.f62) []).2

def st62_L_L_0 (a0 : TyN) (a1 : TyN) (v1 : Int) : LS := ⟨slN 26 [(0, (.s 0 0 a0.length 8)), (1, (.s 1 0 a1.length 8)), (12, (iv ((a0.length : Nat) : Int))), (13, (iv v1))], [(.live false true (flat c40 a0)), (.live false true (flat c40 a1))]⟩

def S62_L_L_0 (a0 : TyN) (a1 : TyN) : Int → (Int) ⊕ (Bool)
  | v1 =>
   (bif (decide ((v1 : Int) < ((a0.length : Nat) : Int))) then
    (bif (!((((a0.getD (toNat v1) default).1 : Int) == (a1.getD (toNat v1) default).1) && ((((a0.getD (toNat v1) default).2.1 : Int) == (a1.getD (toNat v1) default).2.1) && ((((a0.getD (toNat v1) default).2.2.1 : Int) == (a1.getD (toNat v1) default).2.2.1) && ((((a0.getD (toNat v1) default).2.2.2.1 : Int) == (a1.getD (toNat v1) default).2.2.2.1) && (((((a0.getD (toNat v1) default).2.2.2.2.1.1 : Int) == (a1.getD (toNat v1) default).2.2.2.2.1.1) && ((((a0.getD (toNat v1) default).2.2.2.2.1.2.1 : Int) == (a1.getD (toNat v1) default).2.2.2.2.1.2.1) && ((((a0.getD (toNat v1) default).2.2.2.2.1.2.2 : Int) == (a1.getD (toNat v1) default).2.2.2.2.1.2.2) && true))) && ((((a0.getD (toNat v1) default).2.2.2.2.2 : Int) == (a1.getD (toNat v1) default).2.2.2.2.2) && true))))))) then
     (.inr false)
    else
     (.inl (v1 + 1)))
   else
    (.inr true))

set_option maxHeartbeats 4000000 in
theorem L62_L_L_0 (a0 : TyN) (a1 : TyN) (l0 : a0.length ≤ 9223372036854775807) (l1 : a1.length ≤ 9223372036854775807) {cx : Cx} (hcx : cx.base = 2) : ∀ (n : Nat) (v1 : Int), (0 ≤ v1) ∧ (a0.length = a1.length) → toNat (((a0.length : Nat) : Int) - v1) < n → Aw.Good Try.prog none 9 (bodyPost Try.prog Try.f62 (RR cx (.v (.bool (loopF (S62_L_L_0 a0 a1) n v1))) [] [])) cx [] (.l B62_L_L_0 n :: K62_L_L_0) (st62_L_L_0 a0 a1 v1) := by
  intro n
  induction n with
  | zero => intro v1 hi hn; exact absurd hn (Nat.not_lt_zero _)
  | succ n ih =>
    intro v1 hi hn
    refine good_round ?_
    cases h0 : (decide ((v1 : Int) < ((a0.length : Nat) : Int))) with
    | true =>
     have q0 := of_decide_eq_true h0
     let t1 : List (St Try.prog) := [.d h0, .i v1 (a0.length), .L c40_len a0 v1 0 8, .i v1 (a1.length), .L c40_len a1 v1 0 8]
     cases h1 : (!((((a0.getD (toNat v1) default).1 : Int) == (a1.getD (toNat v1) default).1) && ((((a0.getD (toNat v1) default).2.1 : Int) == (a1.getD (toNat v1) default).2.1) && ((((a0.getD (toNat v1) default).2.2.1 : Int) == (a1.getD (toNat v1) default).2.2.1) && ((((a0.getD (toNat v1) default).2.2.2.1 : Int) == (a1.getD (toNat v1) default).2.2.2.1) && (((((a0.getD (toNat v1) default).2.2.2.2.1.1 : Int) == (a1.getD (toNat v1) default).2.2.2.2.1.1) && ((((a0.getD (toNat v1) default).2.2.2.2.1.2.1 : Int) == (a1.getD (toNat v1) default).2.2.2.2.1.2.1) && ((((a0.getD (toNat v1) default).2.2.2.2.1.2.2 : Int) == (a1.getD (toNat v1) default).2.2.2.2.1.2.2) && true))) && ((((a0.getD (toNat v1) default).2.2.2.2.2 : Int) == (a1.getD (toNat v1) default).2.2.2.2.2) && true))))))) with
     | true =>
      have e := Eq.refl (S62_L_L_0 a0 a1 v1); conv at e => rhs; simp only [S62_L_L_0, h0, h1, cond_true, cond_false]
      rw [loopF_s, e]
      exact rt (t1 ++ [.d h1]) [] [] hcx (by kernel_rfl)
     | false =>
      have e := Eq.refl (S62_L_L_0 a0 a1 v1); conv at e => rhs; simp only [S62_L_L_0, h0, h1, cond_true, cond_false]
      rw [loopF_inl e]
      refine ba (t1 ++ [.d h1]) [] [0, 1, 12, 13] [] hcx (m := n) B62_L_L_0 (K62_L_L_0) (st62_L_L_0 a0 a1 (W (v1 + 1))) (by kernel_rfl) ?_
      have z0 : (W (v1 + 1)) = (v1 + 1) := W_eq (by omega) (by omega)
      rw [z0]
      exact ih (v1 + 1) (by refine ⟨?_, ?_⟩ <;> (try simp only [Ls]) <;> first | omega | assumption | simp) (by (try simp only [Ls]); omega)
    | false =>
     have q0 := of_decide_eq_false h0
     have e := Eq.refl (S62_L_L_0 a0 a1 v1); conv at e => rhs; simp only [S62_L_L_0, h0, cond_true, cond_false]
     rw [loopF_s, e]
     exact rt [.d h0] [] [] hcx (by kernel_rfl)

def F62_L_L (a0 : TyN) (a1 : TyN) : Bool :=
  (bif ((((a0.length : Nat) : Int) : Int) != ((a1.length : Nat) : Int)) then
   false
  else
   (loopF (S62_L_L_0 a0 a1) (toNat (((a0.length : Nat) : Int) - 0) + 1) 0))

theorem C62_L_L (a0 : TyN) (a1 : TyN) (l0 : a0.length ≤ 9223372036854775807) (l1 : a1.length ≤ 9223372036854775807) : Con Try.prog 62 [(.s 0 0 a0.length 8), (.s 1 0 a1.length 8)] [(.live false true (flat c40 a0)), (.live false true (flat c40 a1))] (.v (.bool (F62_L_L a0 a1))) [] := by
  refine con_s Try.func62 (by kernel_rfl) fun cx hcx => ?_
  cases h0 : ((((a0.length : Nat) : Int) : Int) != ((a1.length : Nat) : Int)) with
  | true =>
   have q0 := bne_iff_ne.1 h0
   have e := Eq.refl (F62_L_L a0 a1); conv at e => rhs; simp only [F62_L_L, h0, cond_true, cond_false]
   rw [e]
   exact rt [.d h0] [] [] hcx (by kernel_rfl)
  | false =>
   have q0 := bne_eq_false_iff_eq.1 h0
   have e := Eq.refl (F62_L_L a0 a1); conv at e => rhs; simp only [F62_L_L, h0, cond_true, cond_false]
   rw [e]
   refine en [.d h0] [] [0, 1, 12, 13] [] hcx B62_L_L_0 (K62_L_L_0) (st62_L_L_0 a0 a1 0) (toNat (((a0.length : Nat) : Int) - 0) + 1) (by kernel_rfl) ?_
   exact L62_L_L_0 a0 a1 l0 l1 hcx (toNat (((a0.length : Nat) : Int) - 0) + 1) 0 (by refine ⟨?_, ?_⟩ <;> (try simp only [Ls]) <;> first | omega | assumption | simp) (by (try simp only [Ls]); omega)

def F37 (a0 : List (Int) × TyN) (a1 : List (Int) × TyN) : Bool :=
  (bif (F61_L_L a0.1 a1.1) then
   (F62_L_L a0.2 a1.2)
  else
   false)

theorem C37 (a0 : List (Int) × TyN) (a1 : List (Int) × TyN) (l0_1 : a0.1.length ≤ 9223372036854775807) (l0_2 : a0.2.length ≤ 9223372036854775807) (l1_1 : a1.1.length ≤ 9223372036854775807) (l1_2 : a1.2.length ≤ 9223372036854775807) : Con Try.prog 37 [(.a [(.s 0 0 a0.1.length 1), (.s 1 0 a0.2.length 8)]), (.a [(.s 2 0 a1.1.length 1), (.s 3 0 a1.2.length 8)])] [(.live false true (flat c3 a0.1)), (.live false true (flat c40 a0.2)), (.live false true (flat c3 a1.1)), (.live false true (flat c40 a1.2))] (.v (.bool (F37 a0 a1))) [] := by
  refine con_s Try.func37 (by kernel_rfl) fun cx hcx => ?_
  let t0 : List (St Try.prog) := [.c [0, 2] (C61_L_L a0.1 a1.1 (by omega) (by omega))]
  cases h0 : (F61_L_L a0.1 a1.1) with
  | true =>
   have e := Eq.refl (F37 a0 a1); conv at e => rhs; simp only [F37, h0, cond_true, cond_false]
   rw [e]
   exact rt (t0 ++ [.d h0, .c [1, 3] (C62_L_L a0.2 a1.2 (by omega) (by omega))]) [] [] hcx (by kernel_rfl)
  | false =>
   have e := Eq.refl (F37 a0 a1); conv at e => rhs; simp only [F37, h0, cond_true, cond_false]
   rw [e]
   exact rt (t0 ++ [.d h0]) [] [] hcx (by kernel_rfl)

noncomputable def B16_L_0 : Code := (loopAtD [1, 1, 0, 1] [] (bodyOf Try.f16) []).1
noncomputable def K16_L_0 : List K := (loopAtD [1, 1, 0, 1] [] (bodyOf Try.f16) []).2

def st16_L_0 (a0 : TyL) (a1 : List (Int) × TyN) (v1 : Int) : LS := ⟨slN 21 [(0, (.s 0 0 a0.length 10)), (3, (.p 3 0)), (6, (iv v1))], [(.live false true (flat c81 a0)), (.live false true (flat c3 a1.1)), (.live false true (flat c40 a1.2)), (.live true false [(.s 1 0 a1.1.length 1), (.s 2 0 a1.2.length 8)])]⟩

def S16_L_0 (a0 : TyL) (a1 : List (Int) × TyN) : Int → (Int) ⊕ (Int)
  | v1 =>
   (bif (decide ((v1 : Int) ≤ 16)) then
    (bif (F37 (a1.1, a1.2) ((F34_L a0 v1).1, (F34_L a0 v1).2)) then
     (.inr 0)
    else
     (.inl (v1 + 1)))
   else
    (.inr 1))

set_option maxHeartbeats 4000000 in
theorem L16_L_0 (a0 : TyL) (a1 : List (Int) × TyN) (l0 : a0.length ≤ 9223372036854775807) (l1_1 : a1.1.length ≤ 9223372036854775807) (l1_2 : a1.2.length ≤ 9223372036854775807) {cx : Cx} (hcx : cx.base = 3) : ∀ (n : Nat) (v1 : Int), (0 ≤ v1) ∧ (F32_L a0 = 0) ∧ (1 ≤ v1) → toNat (16 - v1 + 1) < n → Aw.Good Try.prog none 9 (bodyPost Try.prog Try.f16 (RR cx (iv (loopF (S16_L_0 a0 a1) n v1)) [] [])) cx [] (.l B16_L_0 n :: K16_L_0) (st16_L_0 a0 a1 v1) := by
  intro n
  induction n with
  | zero => intro v1 hi hn; exact absurd hn (Nat.not_lt_zero _)
  | succ n ih =>
    intro v1 hi hn
    refine good_round ?_
    have hbl := bld_len (l := a0) (leaf := v1) hi.2.1 (by omega)
    cases h0 : (decide ((v1 : Int) ≤ 16)) with
    | true =>
     have q0 := of_decide_eq_true h0
     let t1 : List (St Try.prog) := [.d h0, .c [0] (C34_L a0 v1 (by omega) (vch_len (l := a0) hi.2.1) (by omega)), .c [1, 2, 4, 5] (C37 (a1.1, a1.2) ((F34_L a0 v1).1, (F34_L a0 v1).2) (by omega) (by omega) (by (try simp only [Lt]); omega) (by (try simp only [Lt]); omega))]
     cases h1 : (F37 (a1.1, a1.2) ((F34_L a0 v1).1, (F34_L a0 v1).2)) with
     | true =>
      have e := Eq.refl (S16_L_0 a0 a1 v1); conv at e => rhs; simp only [S16_L_0, h0, h1, cond_true, cond_false]
      rw [loopF_s, e]
      exact rt (t1 ++ [.d h1]) [] [] hcx (by kernel_rfl)
     | false =>
      have e := Eq.refl (S16_L_0 a0 a1 v1); conv at e => rhs; simp only [S16_L_0, h0, h1, cond_true, cond_false]
      rw [loopF_inl e]
      refine ba (t1 ++ [.d h1]) [] [0, 3, 6] [3] hcx (m := n) B16_L_0 (K16_L_0) (st16_L_0 a0 a1 (W (v1 + 1))) (by kernel_rfl) ?_
      have z0 : (W (v1 + 1)) = (v1 + 1) := W_eq (by omega) (by omega)
      rw [z0]
      exact ih (v1 + 1) (by refine ⟨?_, ?_, ?_⟩ <;> (try simp only [Ls]) <;> first | omega | assumption | simp) (by (try simp only [Ls]); omega)
    | false =>
     have q0 := of_decide_eq_false h0
     have e := Eq.refl (S16_L_0 a0 a1 v1); conv at e => rhs; simp only [S16_L_0, h0, cond_true, cond_false]
     rw [loopF_s, e]
     exact rt [.d h0] [] [] hcx (by kernel_rfl)

def F16_L (a0 : TyL) (a1 : List (Int) × TyN) : Int :=
  (bif (((F32_L a0) : Int) != 0) then
   (F32_L a0)
  else
   (loopF (S16_L_0 a0 a1) (toNat (16 - 1 + 1) + 1) 1))

theorem C16_L (a0 : TyL) (a1 : List (Int) × TyN) (l0 : a0.length ≤ 9223372036854775807) (l1_1 : a1.1.length ≤ 9223372036854775807) (l1_2 : a1.2.length ≤ 9223372036854775807) : Con Try.prog 16 [(.s 0 0 a0.length 10), (.a [(.s 1 0 a1.1.length 1), (.s 2 0 a1.2.length 8)])] [(.live false true (flat c81 a0)), (.live false true (flat c3 a1.1)), (.live false true (flat c40 a1.2))] (iv (F16_L a0 a1)) [] := by
  refine con_s Try.func16 (by kernel_rfl) fun cx hcx => ?_
  let t0 : List (St Try.prog) := [.c [0] (C32_L a0 (by omega))]
  cases h0 : (((F32_L a0) : Int) != 0) with
  | true =>
   have q0 := bne_iff_ne.1 h0
   have e := Eq.refl (F16_L a0 a1); conv at e => rhs; simp only [F16_L, h0, cond_true, cond_false]
   rw [e]
   exact rt (t0 ++ [.d h0]) [] [] hcx (by kernel_rfl)
  | false =>
   have q0 := bne_eq_false_iff_eq.1 h0
   have e := Eq.refl (F16_L a0 a1); conv at e => rhs; simp only [F16_L, h0, cond_true, cond_false]
   rw [e]
   refine en (t0 ++ [.d h0]) [] [0, 3, 6] [3] hcx B16_L_0 (K16_L_0) (st16_L_0 a0 a1 1) (toNat (16 - 1 + 1) + 1) (by kernel_rfl) ?_
   exact L16_L_0 a0 a1 l0 l1_1 l1_2 hcx (toNat (16 - 1 + 1) + 1) 1 (by refine ⟨?_, ?_, ?_⟩ <;> (try simp only [Ls]) <;> first | omega | assumption | simp) (by (try simp only [Ls]); omega)

def S15_L_0 (a0 : TyL) (a1 : List (Int) × TyN) : Int → (Int) ⊕ (Int)
  | v1 =>
   (bif (decide ((v1 : Int) ≤ 16)) then
    (bif (F13 (a1.1, a1.2) ((F36_L a0 v1).1, (F36_L a0 v1).2)) then
     (.inr 0)
    else
     (.inl (v1 + 1)))
   else
    (.inr 1))

def F15_L (a0 : TyL) (a1 : List (Int) × TyN) : Int :=
  (bif (((F35_L a0) : Int) != 0) then
   (F35_L a0)
  else
   (loopF (S15_L_0 a0 a1) (toNat (16 - 1 + 1) + 1) 1))


theorem same_eq (a b : TR) : F37 a b = F13 a b := by
  have e1 : F61_L_L a.1 b.1 = F27_L_L a.1 b.1 := rfl
  unfold F37 F13
  rw [e1]
  cases F27_L_L a.1 b.1 <;> rfl
theorem all_inv {S : Int → Int ⊕ Bool} {N : Nat} {p : Nat → Prop} (h1 : ∀ i : Nat, i < N → (S (i : Int) = .inl ((i + 1 : Nat) : Int) ∧ p i) ∨ S (i : Int) = .inr false) : ∀ (d i n : Nat), d = N - i → i ≤ N → d < n → loopF S n (i : Int) = true → ∀ j, i ≤ j → j < N → p j
  | 0, i, n, hd, hi, hn, _, j, h1, h2 => absurd h2 (by omega)
  | d + 1, i, n, hd, hi, hn, h, j, g1, g2 => by
    obtain ⟨n, rfl⟩ : ∃ m, n = m + 1 := ⟨n - 1, by omega⟩
    rcases h1 i (by omega) with ⟨e, hp⟩ | e
    · rw [loopF_inl e] at h
      by_cases hj : j = i
      · rw [hj]; exact hp
      · exact all_inv h1 d (i + 1) n (by omega) (by omega) (by omega) h j (by omega) g2
    · rw [loopF_inr e] at h; cases h
theorem getD_ext {α : Type} [Inhabited α] {a b : List α} (h : a.length = b.length) (h2 : ∀ j, j < a.length → a.getD j default = b.getD j default) : a = b := by
  refine List.ext_getElem h fun i h3 h4 => ?_
  have := h2 i h3
  rw [List.getD_eq_getElem?_getD, List.getD_eq_getElem?_getD, List.getElem?_eq_getElem h3, List.getElem?_eq_getElem h4] at this
  exact this
theorem ints_eq {a b : List Int} (h : F27_L_L a b = true) : a = b := by
  unfold F27_L_L at h
  by_cases hl : a.length = b.length
  · rw [show ((((a.length : Nat) : Int) : Int) != ((b.length : Nat) : Int)) = false by rw [hl]; simp, cond_false] at h
    refine getD_ext hl (all_inv (N := a.length) (p := fun j => a.getD j default = b.getD j default) (fun i hi => ?_) a.length 0 _ (by omega) (by omega) (by omega) h · (Nat.zero_le _) ·)
    simp only [S27_L_L_0, Int.toNat_natCast]
    rw [decide_eq_true (show ((i : Nat) : Int) < (a.length : Nat) by omega), cond_true]
    cases e : ((a.getD i default : Int) != b.getD i default) with
    | true => exact .inr rfl
    | false => exact .inl ⟨rfl, bne_eq_false_iff_eq.1 e⟩
  · rw [show ((((a.length : Nat) : Int) : Int) != ((b.length : Nat) : Int)) = true by rw [bne_iff_ne]; omega, cond_true] at h
    cases h
theorem trees_eq {a b : TR} (h : F13 a b = true) : a = b := by
  unfold F13 at h
  cases h1 : F27_L_L a.1 b.1 with
  | false => rw [h1] at h; cases h
  | true =>
    rw [h1, Bool.not_true, cond_false] at h
    by_cases hl : a.2.length = b.2.length
    · rw [show ((((a.2.length : Nat) : Int) : Int) != ((b.2.length : Nat) : Int)) = false by rw [hl]; simp, cond_false] at h
      refine Prod.ext (ints_eq h1) (getD_ext hl (all_inv (N := a.2.length) (p := fun j => a.2.getD j default = b.2.getD j default) (fun i hi => ?_) a.2.length 0 _ (by omega) (by omega) (by omega) h · (Nat.zero_le _) ·))
      simp only [S13_0, Int.toNat_natCast]
      rw [decide_eq_true (show ((i : Nat) : Int) < (a.2.length : Nat) by omega), cond_true]
      generalize a.2.getD i default = x
      generalize b.2.getD i default = y
      obtain ⟨x1, x2, x3, x4, ⟨x5, x6, x7⟩, x8⟩ := x
      obtain ⟨y1, y2, y3, y4, ⟨y5, y6, y7⟩, y8⟩ := y
      dsimp only
      rw [Bool.cond_eq_ite]
      split
      · exact .inr rfl
      · rename_i hq
        refine .inl ⟨rfl, ?_⟩
        simp at hq ⊢
        omega
    · rw [show ((((a.2.length : Nat) : Int) : Int) != ((b.2.length : Nat) : Int)) = true by rw [bne_iff_ne]; omega, cond_true] at h
      cases h
theorem rck_loop {l : LCH} {t : TR} (hv : VCH l) : ∀ (n : Nat) (v : Int), 1 ≤ v → loopF (S16_L_0 l t) n v = loopF (S15_L_0 l t) n v
  | 0, _, _ => rfl
  | n + 1, v, h => by
    have e : S16_L_0 l t v = S15_L_0 l t v := by
      simp only [S16_L_0, S15_L_0, same_eq, bld_eq l hv h, rbl_eq l hv.1 h]
    have h2 : (S15_L_0 l t v = .inl (v + 1)) ∨ (∃ r, S15_L_0 l t v = .inr r) := by
      simp only [S15_L_0]
      rw [Bool.cond_eq_ite]
      split
      · rw [Bool.cond_eq_ite]
        split
        · exact .inr ⟨_, rfl⟩
        · exact .inl rfl
      · exact .inr ⟨_, rfl⟩
    rcases h2 with h2 | ⟨r, h2⟩
    · rw [loopF_inl (e.trans h2), loopF_inl h2]; exact rck_loop hv n (v + 1) (by omega)
    · rw [loopF_inr (e.trans h2), loopF_inr h2]
theorem Check_eq (l : LCH) (t : TR) : F16_L l t = F15_L l t := by
  unfold F16_L F15_L
  rw [vch_eq]
  cases h : ((F35_L l : Int) != 0) with
  | true => rfl
  | false => exact rck_loop (vch_ok (by rw [vch_eq]; exact bne_eq_false_iff_eq.1 h)) _ 1 (Int.le_refl _)
theorem rck_ok {l : LCH} {t : TR} (h : F15_L l t = 0) : VCH l ∧ ∃ leaf : Int, 1 ≤ leaf ∧ leaf ≤ 16 ∧ t = BT l leaf := by
  unfold F15_L at h
  cases h0 : ((F35_L l : Int) != 0) with
  | true => rw [h0, cond_true] at h; rw [h] at h0; cases h0
  | false =>
    rw [h0, cond_false] at h
    have hv := vch_ok (l := l) (by rw [vch_eq]; exact bne_eq_false_iff_eq.1 h0)
    refine ⟨hv, ?_⟩
    have lp : ∀ (n : Nat) (v : Int), 1 ≤ v → toNat (17 - v) < n → loopF (S15_L_0 l t) n v = 0 → ∃ leaf : Int, 1 ≤ leaf ∧ leaf ≤ 16 ∧ t = BT l leaf := by
      intro n
      induction n with
      | zero => intro _ _ h; exact absurd h (Nat.not_lt_zero _)
      | succ n ih =>
        intro v h1 h2 h3
        by_cases hv16 : v ≤ 16
        · cases hs : F13 (t.1, t.2) ((F36_L l v).1, (F36_L l v).2) with
          | true =>
            have := trees_eq hs
            exact ⟨v, h1, hv16, by rw [← rbl_eq l hv.1 h1]; exact this⟩
          | false =>
            have e : S15_L_0 l t v = .inl (v + 1) := by
              simp only [S15_L_0]
              rw [decide_eq_true hv16, cond_true, hs, cond_false]
            rw [loopF_inl e] at h3
            exact ih (v + 1) (by omega) (by omega) h3
        · have e : S15_L_0 l t v = .inr 1 := by
            simp only [S15_L_0]
            rw [decide_eq_false hv16, cond_false]
          rw [loopF_inr e] at h3
          exact absurd h3 (by decide)
    exact lp _ 1 (Int.le_refl _) (by omega) h
structure NOK (fr m a k : Int) (x : NDE) : Prop where
  c1 : fr ≤ x.1
  c2 : x.1 < x.2.1
  c3 : x.2.1 ≤ fr + m
  c4 : (x.2.2.1 = -1 ∧ x.2.2.2.1 = -1) ∨ (a < x.2.2.1 ∧ x.2.2.1 < a + k ∧ a < x.2.2.2.1 ∧ x.2.2.2.1 < a + k)
theorem GT_ne (l : LCH) (leaf : Int) (n : Nat) (ns : List Int) (fr a : Int) : 1 ≤ (GT l leaf (n + 1) ns fr a).2.length := by
  by_cases h0 : (ns.length : Int) ≤ leaf
  · rw [GT_leaf h0]; simp
  · rw [GT_node h0]; simp
theorem GT_ok (l : LCH) {leaf : Int} (hl : 1 ≤ leaf) : ∀ (n : Nat) (ns : List Int) (fr a : Int), ns.length < n → 1 ≤ ns.length → ∀ x ∈ (GT l leaf n ns fr a).2, NOK fr ns.length a (GT l leaf n ns fr a).2.length x
  | 0, _, _, _, h, _ => absurd h (Nat.not_lt_zero _)
  | n + 1, ns, fr, a, h, h1 => by
    by_cases h0 : (ns.length : Int) ≤ leaf
    · rw [GT_leaf h0]
      intro x hx
      rw [List.mem_singleton.1 hx]
      exact ⟨Int.le_refl _, by unfold ndR; dsimp only; omega, by unfold ndR; exact Int.le_refl _, .inl ⟨rfl, rfl⟩⟩
    · rw [GT_node h0]
      have hsl := srt_len l (F84_L_L l ns) ns
      obtain ⟨n, rfl⟩ : ∃ k, n = k + 1 := ⟨n - 1, by omega⟩
      have g1 := GT_ok l hl (n + 1) ((srt l (F84_L_L l ns) ns).take ((ns.length + 1) / 2)) fr (a + 1) (by rw [List.length_take, hsl]; omega) (by rw [List.length_take, hsl]; omega)
      have g2 := GT_ok l hl (n + 1) ((srt l (F84_L_L l ns) ns).drop ((ns.length + 1) / 2)) (fr + ((ns.length + 1) / 2 : Nat)) (a + 1 + (GT l leaf (n + 1) ((srt l (F84_L_L l ns) ns).take ((ns.length + 1) / 2)) fr (a + 1)).2.length) (by rw [List.length_drop, hsl]; omega) (by rw [List.length_drop, hsl]; omega)
      have k1 := GT_ne l leaf n ((srt l (F84_L_L l ns) ns).take ((ns.length + 1) / 2)) fr (a + 1)
      have k2 := GT_ne l leaf n ((srt l (F84_L_L l ns) ns).drop ((ns.length + 1) / 2)) (fr + ((ns.length + 1) / 2 : Nat)) (a + 1 + (GT l leaf (n + 1) ((srt l (F84_L_L l ns) ns).take ((ns.length + 1) / 2)) fr (a + 1)).2.length)
      rw [List.length_take, hsl] at g1
      rw [List.length_drop, hsl] at g2
      generalize GT l leaf (n + 1) ((srt l (F84_L_L l ns) ns).take ((ns.length + 1) / 2)) fr (a + 1) = A at g1 g2 k1 k2 ⊢
      generalize GT l leaf (n + 1) ((srt l (F84_L_L l ns) ns).drop ((ns.length + 1) / 2)) (fr + ((ns.length + 1) / 2 : Nat)) (a + 1 + A.2.length) = B at g2 k2 ⊢
      intro x hx
      simp only [List.length_cons, List.length_append, Int.natCast_add, Int.natCast_one]
      rcases List.mem_cons.1 hx with rfl | hx
      · exact ⟨Int.le_refl _, by unfold ndR; dsimp only; omega, by unfold ndR; exact Int.le_refl _, .inr ⟨by unfold ndR; dsimp only; omega, by unfold ndR; dsimp only; omega, by unfold ndR; dsimp only; omega, by unfold ndR; dsimp only; omega⟩⟩
      · rcases List.mem_append.1 hx with hx | hx
        · obtain ⟨c1, c2, c3, c4⟩ := g1 x hx
          exact ⟨c1, c2, by omega, by rcases c4 with c4 | c4; exact .inl c4; exact .inr (by omega)⟩
        · obtain ⟨c1, c2, c3, c4⟩ := g2 x hx
          exact ⟨by omega, c2, by omega, by rcases c4 with c4 | c4; exact .inl c4; exact .inr (by omega)⟩
theorem BT_ok (l : LCH) {leaf : Int} (hl : 1 ≤ leaf) : ∀ x ∈ (BT l leaf).2, NOK 0 l.length 0 (BT l leaf).2.length x := by
  unfold BT
  by_cases h0 : l.length = 0
  · rw [if_pos h0]; intro x hx; cases hx
  · rw [if_neg h0]
    have := GT_ok l hl (l.length + 1) (nums l.length) 0 0 (by rw [nums_len]; omega) (by rw [nums_len]; omega)
    rw [nums_len] at this
    exact this



inductive TRE (N : List NDE) : Nat → Nat → Int → Int → Int → Prop where
  | leaf {a : Nat} {f t : Int} : a < N.length → f < t → (N.getD a default).1 = f → (N.getD a default).2.1 = t → (N.getD a default).2.2.1 = -1 → (N.getD a default).2.2.2.1 = -1 → TRE N a 1 f t 1
  | node {a m1 m2 : Nat} {f c t h1 h2 : Int} : a < N.length → (N.getD a default).1 = f → (N.getD a default).2.1 = t → (N.getD a default).2.2.1 = ((a + 1 : Nat) : Int) → (N.getD a default).2.2.2.1 = ((a + 1 + m1 : Nat) : Int) → TRE N (a + 1) m1 f c h1 → TRE N (a + 1 + m1) m2 c t h2 → TRE N a (m1 + m2 + 1) f t (1 + imx h1 h2)
theorem imxb (a b : Int) : a ≤ imx a b ∧ b ≤ imx a b ∧ (imx a b = a ∨ imx a b = b) := by unfold imx; split <;> omega
theorem tre_le {N : List NDE} {a m : Nat} {f t h : Int} (H : TRE N a m f t h) : a + m ≤ N.length ∧ 1 ≤ m ∧ f < t ∧ 1 ≤ h ∧ h ≤ m ∧ (N.getD a default).1 = f ∧ (N.getD a default).2.1 = t := by
  induction H with
  | leaf h1 h2 h3 h4 _ _ => exact ⟨by omega, Nat.le_refl _, h2, Int.le_refl _, Int.le_refl _, h3, h4⟩
  | node g1 g2 g3 g4 g5 _ _ i1 i2 =>
    rename_i h1 h2 _ _
    have := imxb h1 h2
    exact ⟨by omega, by omega, by omega, by omega, by omega, g2, g3⟩
theorem getD_app1 {α : Type} [Inhabited α] {x y : List α} {j : Nat} (h : j < x.length) : (x ++ y).getD j default = x.getD j default := by
  rw [List.getD_eq_getElem?_getD, List.getD_eq_getElem?_getD, List.getElem?_append_left h]
theorem getD_app2 {α : Type} [Inhabited α] {x y : List α} {j : Nat} : (x ++ y).getD (x.length + j) default = y.getD j default := by
  rw [List.getD_eq_getElem?_getD, List.getD_eq_getElem?_getD, List.getElem?_append_right (by omega), Nat.add_sub_cancel_left]
theorem GT_tre (l : LCH) {leaf : Int} (hl : 1 ≤ leaf) : ∀ (n : Nat) (ns : List Int) (fr : Int) (a : Nat) (N : List NDE), ns.length < n → 1 ≤ ns.length → a + (GT l leaf n ns fr a).2.length ≤ N.length →
    (∀ j, j < (GT l leaf n ns fr a).2.length → N.getD (a + j) default = (GT l leaf n ns fr a).2.getD j default) → ∃ h, TRE N a (GT l leaf n ns fr a).2.length fr (fr + ns.length) h
  | 0, _, _, _, _, h, _ => absurd h (Nat.not_lt_zero _)
  | n + 1, ns, fr, a, N, h, h1 => by
    by_cases h0 : (ns.length : Int) ≤ leaf
    · rw [GT_leaf h0]
      intro g1 g2
      have e := g2 0 (by simp)
      rw [Nat.add_zero] at e
      have e' : N.getD a default = ndR l ns fr (-1) (-1) := e
      exact ⟨1, TRE.leaf (by simp only [List.length_singleton] at g1; omega) (by omega) (by rw [e']; rfl) (by rw [e']; rfl) (by rw [e']; rfl) (by rw [e']; rfl)⟩
    · rw [GT_node h0]
      have hsl := srt_len l (F84_L_L l ns) ns
      have ea : ((a : Nat) : Int) + 1 = ((a + 1 : Nat) : Int) := by omega
      rw [ea]
      have c1 := GT_tre l hl n ((srt l (F84_L_L l ns) ns).take ((ns.length + 1) / 2)) fr (a + 1) N (by rw [List.length_take, hsl]; omega) (by rw [List.length_take, hsl]; omega)
      have c2 := GT_tre l hl n ((srt l (F84_L_L l ns) ns).drop ((ns.length + 1) / 2)) (fr + ((ns.length + 1) / 2 : Nat)) (a + 1 + (GT l leaf n ((srt l (F84_L_L l ns) ns).take ((ns.length + 1) / 2)) fr ((a + 1 : Nat) : Int)).2.length) N (by rw [List.length_drop, hsl]; omega) (by rw [List.length_drop, hsl]; omega)
      rw [List.length_take, hsl] at c1
      rw [List.length_drop, hsl] at c2
      rw [show (((a + 1 : Nat) : Int) + (((GT l leaf n ((srt l (F84_L_L l ns) ns).take ((ns.length + 1) / 2)) fr ((a + 1 : Nat) : Int)).2.length : Nat) : Int)) = ((a + 1 + (GT l leaf n ((srt l (F84_L_L l ns) ns).take ((ns.length + 1) / 2)) fr ((a + 1 : Nat) : Int)).2.length : Nat) : Int) by omega]
      generalize GT l leaf n ((srt l (F84_L_L l ns) ns).take ((ns.length + 1) / 2)) fr ((a + 1 : Nat) : Int) = A at c1 c2 ⊢
      generalize GT l leaf n ((srt l (F84_L_L l ns) ns).drop ((ns.length + 1) / 2)) (fr + ((ns.length + 1) / 2 : Nat)) ((a + 1 + A.2.length : Nat) : Int) = B at c2 ⊢
      intro g1 g2
      simp only [List.length_cons, List.length_append] at g1 g2 ⊢
      have e' : N.getD a default = ndR l ns fr ((a + 1 : Nat) : Int) ((a + 1 + A.2.length : Nat) : Int) := g2 0 (by omega)
      obtain ⟨x1, d1⟩ := c1 (by omega) (fun j hj => by
        have := g2 (j + 1) (by omega)
        rw [List.getD_cons_succ, getD_app1 hj] at this
        rw [← this]; congr 1; omega)
      obtain ⟨x2, d2⟩ := c2 (by omega) (fun j hj => by
        have := g2 (A.2.length + j + 1) (by omega)
        rw [List.getD_cons_succ, getD_app2] at this
        rw [← this]; congr 1; omega)
      rw [show fr + ((min ((ns.length + 1) / 2) ns.length : Nat) : Int) = fr + (((ns.length + 1) / 2 : Nat) : Int) by omega] at d1
      rw [show fr + (((ns.length + 1) / 2 : Nat) : Int) + ((ns.length - (ns.length + 1) / 2 : Nat) : Int) = fr + (ns.length : Int) by omega] at d2
      exact ⟨_, TRE.node (by omega) (by rw [e']; rfl) (by rw [e']; rfl) (by rw [e']; rfl) (by rw [e']; rfl) d1 d2⟩
theorem BT_tre (l : LCH) {leaf : Int} (hl : 1 ≤ leaf) : (l.length = 0 ∧ BT l leaf = ([], [])) ∨ ∃ h, TRE (BT l leaf).2 0 (BT l leaf).2.length 0 l.length h := by
  unfold BT
  by_cases h0 : l.length = 0
  · rw [if_pos h0]; exact .inl ⟨h0, rfl⟩
  · rw [if_neg h0]
    have := GT_tre l hl (l.length + 1) (nums l.length) 0 0 (GT l leaf (l.length + 1) (nums l.length) 0 ((0 : Nat) : Int)).2 (by rw [nums_len]; omega) (by rw [nums_len]; omega) (by omega) (fun j _ => by rw [Nat.zero_add])
    rw [nums_len, Int.zero_add] at this
    exact .inr this
theorem gset {α : Type} [Inhabited α] {D : List α} {i : Nat} {x : α} (h : i < D.length) : (D.set i x).getD i default = x := by
  rw [List.getD_eq_getElem?_getD, List.getElem?_set_self h]; rfl
theorem gsne {α : Type} [Inhabited α] {D : List α} {i j : Nat} {x : α} (h : i ≠ j) : (D.set i x).getD j default = D.getD j default := by
  rw [List.getD_eq_getElem?_getD, List.getD_eq_getElem?_getD, List.getElem?_set_ne h]

structure PVIS (i : Int) (t : TR) (far pan : List Int) : Prop where
  e0 : 0 ≤ i
  e1 : t.1.length ≤ 1048576
  e2 : t.2.length ≤ 1048576
  e3 : ∃ (m : Nat) (f u h : Int), TRE t.2 (toNat i) m f u h ∧ 0 ≤ f ∧ u ≤ t.1.length ∧ far.length ≤ f ∧ pan.length ≤ f
theorem pvis_bd {i : Int} {t : TR} {far pan : List Int} (h : PVIS i t far pan) : i < t.2.length ∧ far.length ≤ t.1.length ∧ pan.length ≤ t.1.length ∧ 0 ≤ (t.2.getD (toNat i) default).1 ∧ (t.2.getD (toNat i) default).1 < (t.2.getD (toNat i) default).2.1 ∧ (t.2.getD (toNat i) default).2.1 ≤ t.1.length := by
  obtain ⟨e0, e1, e2, m, f, u, hh, e3, e4, e5, e6, e7⟩ := h
  have := tre_le e3
  omega
theorem tre_kids {N : List NDE} {a m : Nat} {f u h : Int} (H : TRE N a m f u h) : (m = 1 ∧ h = 1 ∧ (N.getD a default).2.2.1 = -1 ∧ (N.getD a default).2.2.2.1 = -1) ∨
    ∃ (m1 m2 : Nat) (c h1 h2 : Int), m = m1 + m2 + 1 ∧ (N.getD a default).2.2.1 = ((a + 1 : Nat) : Int) ∧ (N.getD a default).2.2.2.1 = ((a + 1 + m1 : Nat) : Int) ∧ TRE N (a + 1) m1 f c h1 ∧ TRE N (a + 1 + m1) m2 c u h2 ∧ h = 1 + imx h1 h2 := by
  cases H with
  | leaf h1 h2 h3 h4 h5 h6 => exact .inl ⟨rfl, rfl, h5, h6⟩
  | node g1 g2 g3 g4 g5 b1 b2 => exact .inr ⟨_, _, _, _, _, rfl, g4, g5, b1, b2, rfl⟩
theorem pvis_l {i : Int} {t : TR} {far pan : List Int} (h : PVIS i t far pan) (hk : ¬ (t.2.getD (toNat i) default).2.2.1 < 0) : PVIS (t.2.getD (toNat i) default).2.2.1 t far pan ∧ t.2.length - toNat (t.2.getD (toNat i) default).2.2.1 < t.2.length - toNat i ∧ t.2.length - toNat (t.2.getD (toNat i) default).2.2.2.1 < t.2.length - toNat i := by
  obtain ⟨e0, e1, e2, m, f, u, hh, e3, e4, e5, e6, e7⟩ := h
  have hb := tre_le e3
  rcases tre_kids e3 with ⟨_, _, h5, _⟩ | ⟨m1, m2, c, h1, h2, e8, g4, g5, b1, b2, e9⟩
  · omega
  · have l1 := tre_le b1
    have l2 := tre_le b2
    refine ⟨⟨by omega, e1, e2, m1, f, c, h1, ?_, e4, by omega, e6, e7⟩, by omega, by omega⟩
    rw [g4, Int.toNat_natCast]; exact b1

def F50 (a0 : Int × Int × Int) : Bool :=
  (bif (F33 a0.1 (-256) 256) then
   (bif (F33 a0.2.1 (-256) 256) then
    (F33 a0.2.2 (-256) 256)
   else
    false)
  else
   false)

theorem C50 (a0 : Int × Int × Int) : Con Try.prog 50 [(.a (k3 a0))] [] (.v (.bool (F50 a0))) [] := by
  refine con_s Try.func50 (by kernel_rfl) fun cx hcx => ?_
  let t0 : List (St Try.prog) := [.c [] (C33 a0.1 (-256) 256)]
  cases h0 : (F33 a0.1 (-256) 256) with
  | true =>
   let t1 : List (St Try.prog) := (t0 ++ [.d h0, .c [] (C33 a0.2.1 (-256) 256)])
   cases h1 : (F33 a0.2.1 (-256) 256) with
   | true =>
    have e := Eq.refl (F50 a0); conv at e => rhs; simp only [F50, h0, h1, cond_true, cond_false]
    rw [e]
    exact rt (t1 ++ [.d h1, .c [] (C33 a0.2.2 (-256) 256)]) [] [] hcx (by kernel_rfl)
   | false =>
    have e := Eq.refl (F50 a0); conv at e => rhs; simp only [F50, h0, h1, cond_true, cond_false]
    rw [e]
    exact rt (t1 ++ [.d h1]) [] [] hcx (by kernel_rfl)
  | false =>
   have e := Eq.refl (F50 a0); conv at e => rhs; simp only [F50, h0, cond_true, cond_false]
   rw [e]
   exact rt (t0 ++ [.d h0]) [] [] hcx (by kernel_rfl)

def F40 (a0 : Int × Int × Int) (a1 : Int × Int × Int) : Int × Int × Int :=
  ((W (a0.1 - a1.1)), (W (a0.2.1 - a1.2.1)), (W (a0.2.2 - a1.2.2)))

theorem C40 (a0 : Int × Int × Int) (a1 : Int × Int × Int) : Con Try.prog 40 [(.a (k3 a0)), (.a (k3 a1))] [] (.a (k3 (F40 a0 a1))) [] := by
  refine con_s Try.func40 (by kernel_rfl) fun cx hcx => ?_
  have e := Eq.refl (F40 a0 a1); conv at e => rhs; simp only [F40]
  rw [e]
  exact rt [] [] [] hcx (by kernel_rfl)

def F39 (a0 : Int × Int × Int) : Int :=
  (W ((W ((W (a0.1 * a0.1)) + (W (a0.2.1 * a0.2.1)))) + (W (a0.2.2 * a0.2.2))))

theorem C39 (a0 : Int × Int × Int) : Con Try.prog 39 [(.a (k3 a0))] [] (iv (F39 a0)) [] := by
  refine con_s Try.func39 (by kernel_rfl) fun cx hcx => ?_
  have e := Eq.refl (F39 a0); conv at e => rhs; simp only [F39]
  rw [e]
  exact rt [] [] [] hcx (by kernel_rfl)

def A67_1 (a0 : Int) (a1 : List (Int) × TyN) (a2 : Int × Int × Int) (a3 : Int) (a4 : List (Int)) (a5 : List (Int)) := (F40 a2 (a1.2.getD (toNat a0) default).2.2.2.2.1)

def A67_2 (rr : (Int) → (List (Int) × TyN) → (Int × Int × Int) → (Int) → (List (Int)) → (List (Int)) → List (Int) × List (Int)) (a0 : Int) (a1 : List (Int) × TyN) (a2 : Int × Int × Int) (a3 : Int) (a4 : List (Int)) (a5 : List (Int)) := (rr (a1.2.getD (toNat a0) default).2.2.1 (a1.1, a1.2) a2 a3 a4 a5)

def A67_3 (rr : (Int) → (List (Int) × TyN) → (Int × Int × Int) → (Int) → (List (Int)) → (List (Int)) → List (Int) × List (Int)) (a0 : Int) (a1 : List (Int) × TyN) (a2 : Int × Int × Int) (a3 : Int) (a4 : List (Int)) (a5 : List (Int)) := (rr (a1.2.getD (toNat a0) default).2.2.2.1 (a1.1, a1.2) a2 a3 (A67_2 (rr) a0 a1 a2 a3 a4 a5).1 (A67_2 (rr) a0 a1 a2 a3 a4 a5).2)

def R67 : Nat → (Int) → (List (Int) × TyN) → (Int × Int × Int) → (Int) → (List (Int)) → (List (Int)) → List (Int) × List (Int)
  | 0, _, _, _, _, _, _ => default
  | nr + 1, a0, a1, a2, a3, a4, a5 =>
  (bif (decide (((W ((W ((a1.2.getD (toNat a0) default).2.2.2.2.2 * a3)) * a3)) : Int) ≤ (F39 (A67_1 a0 a1 a2 a3 a4 a5)))) then
   (bif (decide (((a1.2.getD (toNat a0) default).2.2.2.2.2 : Int) < (F39 (A67_1 a0 a1 a2 a3 a4 a5)))) then
    ((a4 ++ [a0]), a5)
   else
    (bif (decide (((a1.2.getD (toNat a0) default).2.2.1 : Int) < 0)) then
     (a4, (a5 ++ (Aw.part (a1.1) ((a1.2.getD (toNat a0) default).1) ((a1.2.getD (toNat a0) default).2.1))))
    else
     ((A67_3 (R67 nr) a0 a1 a2 a3 a4 a5).1, (A67_3 (R67 nr) a0 a1 a2 a3 a4 a5).2)))
  else
   (bif (decide (((a1.2.getD (toNat a0) default).2.2.1 : Int) < 0)) then
    (a4, (a5 ++ (Aw.part (a1.1) ((a1.2.getD (toNat a0) default).1) ((a1.2.getD (toNat a0) default).2.1))))
   else
    ((A67_3 (R67 nr) a0 a1 a2 a3 a4 a5).1, (A67_3 (R67 nr) a0 a1 a2 a3 a4 a5).2)))

def F67 (a0 : Int) (a1 : List (Int) × TyN) (a2 : Int × Int × Int) (a3 : Int) (a4 : List (Int)) (a5 : List (Int)) : List (Int) × List (Int) := R67 ((a1.2.length - toNat a0) + 1) a0 a1 a2 a3 a4 a5

theorem vis_len : ∀ (nr : Nat) (i : Int) (t : TR) (x : Int × Int × Int) (sep : Int) (far pan : List Int) (m : Nat) (f u h : Int), TRE t.2 (toNat i) m f u h → 0 ≤ i → 0 ≤ f → u ≤ t.1.length → far.length ≤ f → pan.length ≤ f → t.2.length - toNat i < nr →
    (R67 nr i t x sep far pan).1.length ≤ u ∧ (R67 nr i t x sep far pan).2.length ≤ u
  | 0, _, _, _, _, _, _, _, _, _, _, _, _, _, _, _, _, h => absurd h (Nat.not_lt_zero _)
  | nr + 1, i, t, x, sep, far, pan, m, f, u, h, H, h0, hf, hu, g1, g2, hn => by
    have hb := tre_le H
    simp only [R67]
    have hfar : (far ++ [i]).length ≤ u ∧ (pan.length : Int) ≤ u := by rw [List.length_append, List.length_singleton]; omega
    have hpan : ((far.length : Int) ≤ u) ∧ ((pan ++ Aw.part t.1 (t.2.getD (toNat i) default).1 (t.2.getD (toNat i) default).2.1).length : Int) ≤ u := by
      rw [List.length_append, part_len (by omega)]; omega
    have hrec : ¬ (t.2.getD (toNat i) default).2.2.1 < 0 → ((A67_3 (R67 nr) i t x sep far pan).1.length : Int) ≤ u ∧ ((A67_3 (R67 nr) i t x sep far pan).2.length : Int) ≤ u := by
      intro hk
      rcases tre_kids H with ⟨_, _, h5, _⟩ | ⟨m1, m2, c, h1, h2, e8, g4, g5, b1, b2, e9⟩
      · omega
      · have l1 := tre_le b1
        have l2 := tre_le b2
        have c1 := vis_len nr (t.2.getD (toNat i) default).2.2.1 t x sep far pan m1 f c h1 (by rw [g4, Int.toNat_natCast]; exact b1) (by omega) hf (by omega) g1 g2 (by omega)
        exact vis_len nr (t.2.getD (toNat i) default).2.2.2.1 t x sep (A67_2 (R67 nr) i t x sep far pan).1 (A67_2 (R67 nr) i t x sep far pan).2 m2 c u h2 (by rw [g5, Int.toNat_natCast]; exact b2) (by omega) (by omega) hu c1.1 c1.2 (by omega)
    repeat' (rw [Bool.cond_eq_ite]; split)
    all_goals first | exact hfar | exact hpan | (refine hrec ?_; rename_i hq; exact of_decide_eq_false (eq_false_of_ne_true hq))
theorem pvis_r {nr : Nat} {i : Int} {t : TR} {x : Int × Int × Int} {sep : Int} {far pan : List Int} (h : PVIS i t far pan) (hlt : t.2.length - toNat i < nr + 1) (hk : ¬ (t.2.getD (toNat i) default).2.2.1 < 0) :
    PVIS (t.2.getD (toNat i) default).2.2.2.1 t (A67_2 (R67 nr) i t x sep far pan).1 (A67_2 (R67 nr) i t x sep far pan).2 := by
  obtain ⟨e0, e1, e2, m, f, u, hh, e3, e4, e5, e6, e7⟩ := h
  have hb := tre_le e3
  rcases tre_kids e3 with ⟨_, _, h5, _⟩ | ⟨m1, m2, c, h1, h2, e8, g4, g5, b1, b2, e9⟩
  · omega
  · have l1 := tre_le b1
    have l2 := tre_le b2
    have c1 := vis_len nr (t.2.getD (toNat i) default).2.2.1 t x sep far pan m1 f c h1 (by rw [g4, Int.toNat_natCast]; exact b1) (by omega) e4 (by omega) e6 e7 (by omega)
    exact ⟨by omega, e1, e2, m2, c, u, h2, by rw [g5, Int.toNat_natCast]; exact b2, by omega, e5, c1.1, c1.2⟩
theorem vis_fact {nr : Nat} {i : Int} {t : TR} {far pan : List Int} (x : Int × Int × Int) (sep : Int) (h : PVIS i t far pan) (hlt : t.2.length - toNat i < nr + 1) (hk : ¬ (t.2.getD (toNat i) default).2.2.1 < 0) :
    (t.2.length - toNat (t.2.getD (toNat i) default).2.2.1 < nr ∧ t.2.length - toNat (t.2.getD (toNat i) default).2.2.2.1 < nr) ∧ ((A67_2 (R67 nr) i t x sep far pan).1.length ≤ 1048576 ∧ (A67_2 (R67 nr) i t x sep far pan).2.length ≤ 1048576) := by
  have h1 := pvis_l h hk
  have h2 := pvis_r (x := x) (sep := sep) h hlt hk
  have h3 := pvis_bd h2
  have h4 := h2.e1
  omega

theorem Cr67 : ∀ (nr : Nat) (a0 : Int) (a1 : List (Int) × TyN) (a2 : Int × Int × Int) (a3 : Int) (a4 : List (Int)) (a5 : List (Int)) (l1_1 : a1.1.length ≤ 9223372036854775807) (l1_2 : a1.2.length ≤ 9223372036854775807) (l4 : a4.length ≤ 9223372036854775807) (l5 : a5.length ≤ 9223372036854775807) (hp : PVIS a0 a1 a4 a5), (a1.2.length - toNat a0) < nr → Con Try.prog 67 [(iv a0), (.p 0 0), (.p 3 0), (.p 4 0), (.p 5 0), (.p 7 0), (.p 9 0)] [(.live false false [(.s 1 0 a1.1.length 1), (.s 2 0 a1.2.length 8)]), (.live false true (flat c3 a1.1)), (.live false true (flat c40 a1.2)), (.live false false (k3 a2)), (.live false false [(iv a3)]), (.live true false [(.s 6 0 a4.length 1)]), (.live true true (flat c3 a4)), (.live true false [(.s 8 0 a5.length 1)]), (.live true true (flat c3 a5)), (.live false false [(.f 67 [(.p 0 0), (.p 3 0), (.p 4 0), (.p 5 0), (.p 7 0), (.p 9 0)])])] (.t []) [(.live true true (flat c3 (R67 nr a0 a1 a2 a3 a4 a5).1)), (.live true true (flat c3 (R67 nr a0 a1 a2 a3 a4 a5).2))] [.un, .un, .un, .un, .un, (.live true false [(.s 10 0 (R67 nr a0 a1 a2 a3 a4 a5).1.length 1)]), .dead, (.live true false [(.s 11 0 (R67 nr a0 a1 a2 a3 a4 a5).2.length 1)]), .dead, .un] := by
  intro nr
  induction nr with
  | zero => intro a0 a1 a2 a3 a4 a5 l1_1 l1_2 l4 l5 hp hlt; exact absurd hlt (Nat.not_lt_zero _)
  | succ nr ihr =>
  intro a0 a1 a2 a3 a4 a5 l1_1 l1_2 l4 l5 hp hlt
  refine con_s Try.func67 (by kernel_rfl) fun cx hcx => ?_
  have hpb := pvis_bd hp
  have hp1 := hp.e0
  have hp2 := hp.e1
  have hp3 := hp.e2
  have hL := fun q => (pvis_l hp q).1
  have hM := fun q => pvis_r (x := a2) (sep := a3) hp hlt q
  have hN := vis_fact a2 a3 hp hlt
  let t0 : List (St Try.prog) := [.i a0 (a1.2.length), .L c40_len a1.2 a0 0 8, .c [] (C40 a2 (a1.2.getD (toNat a0) default).2.2.2.2.1), .c [] (C39 (A67_1 a0 a1 a2 a3 a4 a5))]
  cases h0 : (decide (((W ((W ((a1.2.getD (toNat a0) default).2.2.2.2.2 * a3)) * a3)) : Int) ≤ (F39 (A67_1 a0 a1 a2 a3 a4 a5)))) with
  | true =>
   have q0 := of_decide_eq_true h0
   let t1 : List (St Try.prog) := (t0 ++ [.d h0])
   cases h1 : (decide (((a1.2.getD (toNat a0) default).2.2.2.2.2 : Int) < (F39 (A67_1 a0 a1 a2 a3 a4 a5)))) with
   | true =>
    have q1 := of_decide_eq_true h1
    have e := Eq.refl (R67 (nr + 1) a0 a1 a2 a3 a4 a5); conv at e => rhs; simp only [R67, h0, h1, cond_true, cond_false]
    rw [e]
    try dsimp only [thenF]
    try dsimp only
    rw [show flat c3 (a4 ++ [a0]) = (flat c3 a4 ++ [(iv a0)]) from flat_append]
    try rw [show List.length (α := Int) (a4 ++ [a0]) = (a4.length + 1) from by first | simp; done | omega]
    exact rtn (t1 ++ [.d h1, .p (show ((flat c3 a4).length = a4.length * 1 ∧ a4.length + 1 ≤ 2 ^ 40 ∧ (a4.length + 1) * 8 ≤ 2 ^ 47) from app_ok c3_len (by omega) (by omega))]) [.mv 7 0] [5, 6, 7, 8] [12, 13] hcx (by kernel_rfl)
   | false =>
    have q1 := of_decide_eq_false h1
    let t2 : List (St Try.prog) := (t1 ++ [.d h1])
    cases h2 : (decide (((a1.2.getD (toNat a0) default).2.2.1 : Int) < 0)) with
    | true =>
     have q2 := of_decide_eq_true h2
     have e := Eq.refl (R67 (nr + 1) a0 a1 a2 a3 a4 a5); conv at e => rhs; simp only [R67, h0, h1, h2, cond_true, cond_false]
     rw [e]
     try dsimp only [thenF]
     try dsimp only
     rw [show flat c3 (a5 ++ (Aw.part (a1.1) ((a1.2.getD (toNat a0) default).1) ((a1.2.getD (toNat a0) default).2.1))) = ((flat c3 a5) ++ (flat c3 (Aw.part (a1.1) ((a1.2.getD (toNat a0) default).1) ((a1.2.getD (toNat a0) default).2.1)))) from Eq.symm (by simp [flat])]
     try rw [show List.length (α := Int) (a5 ++ (Aw.part (a1.1) ((a1.2.getD (toNat a0) default).1) ((a1.2.getD (toNat a0) default).2.1))) = (a5.length + (toNat (a1.2.getD (toNat a0) default).2.1 - toNat (a1.2.getD (toNat a0) default).1)) from by first | simp; done | omega | (rw [List.length_append, part_len (by omega)]; done)]
     exact rtn (t2 ++ [.d h2, .S c3_len (a1.1) ((a1.2.getD (toNat a0) default).1) ((a1.2.getD (toNat a0) default).2.1) (a1.1.length), .p (show ((flat c3 a5).length = a5.length * 1 ∧ (flat c3 (Aw.part (a1.1) ((a1.2.getD (toNat a0) default).1) ((a1.2.getD (toNat a0) default).2.1))).length = (toNat (a1.2.getD (toNat a0) default).2.1 - toNat (a1.2.getD (toNat a0) default).1) * 1 ∧ (flat c3 (Aw.part (a1.1) ((a1.2.getD (toNat a0) default).1) ((a1.2.getD (toNat a0) default).2.1))).all SV.one = true ∧ a5.length + (toNat (a1.2.getD (toNat a0) default).2.1 - toNat (a1.2.getD (toNat a0) default).1) ≤ 2 ^ 40 ∧ (a5.length + (toNat (a1.2.getD (toNat a0) default).2.1 - toNat (a1.2.getD (toNat a0) default).1)) * 8 ≤ 2 ^ 47) from by refine ⟨?_, ?_, ?_, ?_, ?_⟩ <;> first | omega | exact flat_one (fun _ => rfl) | (simp [flat_lenc c3_len]; done) | (simp [flat_lenc c3_len]; omega) | (rw [flat_lenc c3_len, part_len (by omega)]; first | done | omega))]) [.mv 5 0] [5, 6, 7, 8] [13, 12] hcx (by kernel_rfl)
    | false =>
     have q2 := of_decide_eq_false h2
     have e := Eq.refl (R67 (nr + 1) a0 a1 a2 a3 a4 a5); conv at e => rhs; simp only [R67, h0, h1, h2, cond_true, cond_false]
     rw [e]
     try dsimp only [thenF]
     try dsimp only
     exact rtn (t2 ++ [.d h2, .c [0, 1, 2, 3, 4, 5, 6, 7, 8, 9] (ihr (a1.2.getD (toNat a0) default).2.2.1 (a1.1, a1.2) a2 a3 a4 a5 (by omega) (by omega) (by omega) (by omega) (by first | exact hL (by assumption) | exact hM (by assumption)) (by first | exact (hN (by assumption)).1.1 | exact (hN (by assumption)).1.2)), .c [0, 1, 2, 3, 4, 5, 11, 7, 12, 9] (ihr (a1.2.getD (toNat a0) default).2.2.2.1 (a1.1, a1.2) a2 a3 (A67_2 (R67 nr) a0 a1 a2 a3 a4 a5).1 (A67_2 (R67 nr) a0 a1 a2 a3 a4 a5).2 (by omega) (by omega) (by (try simp only [Lt]); omega) (by (try simp only [Lt]); omega) (by first | exact hL (by assumption) | exact hM (by assumption)) (by first | exact (hN (by assumption)).1.1 | exact (hN (by assumption)).1.2))]) [] [5, 6, 7, 8] [13, 14] hcx (by kernel_rfl)
  | false =>
   have q0 := of_decide_eq_false h0
   let t1 : List (St Try.prog) := (t0 ++ [.d h0])
   cases h1 : (decide (((a1.2.getD (toNat a0) default).2.2.1 : Int) < 0)) with
   | true =>
    have q1 := of_decide_eq_true h1
    have e := Eq.refl (R67 (nr + 1) a0 a1 a2 a3 a4 a5); conv at e => rhs; simp only [R67, h0, h1, cond_true, cond_false]
    rw [e]
    try dsimp only [thenF]
    try dsimp only
    rw [show flat c3 (a5 ++ (Aw.part (a1.1) ((a1.2.getD (toNat a0) default).1) ((a1.2.getD (toNat a0) default).2.1))) = ((flat c3 a5) ++ (flat c3 (Aw.part (a1.1) ((a1.2.getD (toNat a0) default).1) ((a1.2.getD (toNat a0) default).2.1)))) from Eq.symm (by simp [flat])]
    try rw [show List.length (α := Int) (a5 ++ (Aw.part (a1.1) ((a1.2.getD (toNat a0) default).1) ((a1.2.getD (toNat a0) default).2.1))) = (a5.length + (toNat (a1.2.getD (toNat a0) default).2.1 - toNat (a1.2.getD (toNat a0) default).1)) from by first | simp; done | omega | (rw [List.length_append, part_len (by omega)]; done)]
    exact rtn (t1 ++ [.d h1, .S c3_len (a1.1) ((a1.2.getD (toNat a0) default).1) ((a1.2.getD (toNat a0) default).2.1) (a1.1.length), .p (show ((flat c3 a5).length = a5.length * 1 ∧ (flat c3 (Aw.part (a1.1) ((a1.2.getD (toNat a0) default).1) ((a1.2.getD (toNat a0) default).2.1))).length = (toNat (a1.2.getD (toNat a0) default).2.1 - toNat (a1.2.getD (toNat a0) default).1) * 1 ∧ (flat c3 (Aw.part (a1.1) ((a1.2.getD (toNat a0) default).1) ((a1.2.getD (toNat a0) default).2.1))).all SV.one = true ∧ a5.length + (toNat (a1.2.getD (toNat a0) default).2.1 - toNat (a1.2.getD (toNat a0) default).1) ≤ 2 ^ 40 ∧ (a5.length + (toNat (a1.2.getD (toNat a0) default).2.1 - toNat (a1.2.getD (toNat a0) default).1)) * 8 ≤ 2 ^ 47) from by refine ⟨?_, ?_, ?_, ?_, ?_⟩ <;> first | omega | exact flat_one (fun _ => rfl) | (simp [flat_lenc c3_len]; done) | (simp [flat_lenc c3_len]; omega) | (rw [flat_lenc c3_len, part_len (by omega)]; first | done | omega))]) [.mv 5 0] [5, 6, 7, 8] [13, 12] hcx (by kernel_rfl)
   | false =>
    have q1 := of_decide_eq_false h1
    have e := Eq.refl (R67 (nr + 1) a0 a1 a2 a3 a4 a5); conv at e => rhs; simp only [R67, h0, h1, cond_true, cond_false]
    rw [e]
    try dsimp only [thenF]
    try dsimp only
    exact rtn (t1 ++ [.d h1, .c [0, 1, 2, 3, 4, 5, 6, 7, 8, 9] (ihr (a1.2.getD (toNat a0) default).2.2.1 (a1.1, a1.2) a2 a3 a4 a5 (by omega) (by omega) (by omega) (by omega) (by first | exact hL (by assumption) | exact hM (by assumption)) (by first | exact (hN (by assumption)).1.1 | exact (hN (by assumption)).1.2)), .c [0, 1, 2, 3, 4, 5, 11, 7, 12, 9] (ihr (a1.2.getD (toNat a0) default).2.2.2.1 (a1.1, a1.2) a2 a3 (A67_2 (R67 nr) a0 a1 a2 a3 a4 a5).1 (A67_2 (R67 nr) a0 a1 a2 a3 a4 a5).2 (by omega) (by omega) (by (try simp only [Lt]); omega) (by (try simp only [Lt]); omega) (by first | exact hL (by assumption) | exact hM (by assumption)) (by first | exact (hN (by assumption)).1.1 | exact (hN (by assumption)).1.2))]) [] [5, 6, 7, 8] [13, 14] hcx (by kernel_rfl)

theorem C67 (a0 : Int) (a1 : List (Int) × TyN) (a2 : Int × Int × Int) (a3 : Int) (a4 : List (Int)) (a5 : List (Int)) (l1_1 : a1.1.length ≤ 9223372036854775807) (l1_2 : a1.2.length ≤ 9223372036854775807) (l4 : a4.length ≤ 9223372036854775807) (l5 : a5.length ≤ 9223372036854775807) (hp : PVIS a0 a1 a4 a5) : Con Try.prog 67 [(iv a0), (.p 0 0), (.p 3 0), (.p 4 0), (.p 5 0), (.p 7 0), (.p 9 0)] [(.live false false [(.s 1 0 a1.1.length 1), (.s 2 0 a1.2.length 8)]), (.live false true (flat c3 a1.1)), (.live false true (flat c40 a1.2)), (.live false false (k3 a2)), (.live false false [(iv a3)]), (.live true false [(.s 6 0 a4.length 1)]), (.live true true (flat c3 a4)), (.live true false [(.s 8 0 a5.length 1)]), (.live true true (flat c3 a5)), (.live false false [(.f 67 [(.p 0 0), (.p 3 0), (.p 4 0), (.p 5 0), (.p 7 0), (.p 9 0)])])] (.t []) [(.live true true (flat c3 (F67 a0 a1 a2 a3 a4 a5).1)), (.live true true (flat c3 (F67 a0 a1 a2 a3 a4 a5).2))] [.un, .un, .un, .un, .un, (.live true false [(.s 10 0 (F67 a0 a1 a2 a3 a4 a5).1.length 1)]), .dead, (.live true false [(.s 11 0 (F67 a0 a1 a2 a3 a4 a5).2.length 1)]), .dead, .un] := Cr67 ((a1.2.length - toNat a0) + 1) a0 a1 a2 a3 a4 a5 l1_1 l1_2 l4 l5 hp (Nat.lt_succ_self _)


noncomputable def B51_j4 : Code := (codeAtD [1, 1, 1, 0, 1, 0] [] (bodyOf Try.f51)).1
noncomputable def K51_j4 : List K := (codeAtD [1, 1, 1, 0, 1, 0] [] (bodyOf Try.f51)).2

def st51_j4 (a0 : List (Int) × TyN) (a1 : Int × Int × Int) (a2 : Int) (v1c : List SV) (v1n : Nat) (v2c : List SV) (v2n : Nat) : LS := ⟨slN 18 [(6, (.p 2 0)), (7, (.p 3 0)), (8, (.p 4 0))], [(.live false true (flat c3 a0.1)), (.live false true (flat c40 a0.2)), (.live true false [(.s 5 0 v1n 1)]), (.live true false [(.s 6 0 v2n 1)]), (.live true false [(.f 67 [(.p 7 0), (.p 8 0), (.p 9 0), (.p 2 0), (.p 3 0), (.p 4 0)])]), (.live true true v1c), (.live true true v2c), (.live true false [(.s 0 0 a0.1.length 1), (.s 1 0 a0.2.length 8)]), (.live true false (k3 a1)), (.live true false [(iv a2)])]⟩

def S51_j4 (a0 : List (Int) × TyN) (a1 : Int × Int × Int) (a2 : Int) : List (Int) × List (Int) → List (Int) × List (Int)
  | (v1, v2) =>
   ((F67 0 (a0.1, a0.2) a1 a2 v1 v2).1, (F67 0 (a0.1, a0.2) a1 a2 v1 v2).2)

set_option maxHeartbeats 4000000 in
theorem L51_j4 (a0 : List (Int) × TyN) (a1 : Int × Int × Int) (a2 : Int) (l0_1 : a0.1.length ≤ 9223372036854775807) (l0_2 : a0.2.length ≤ 9223372036854775807) (hp : 0 < a0.2.length → PVIS 0 a0 [] []) {cx : Cx} (hcx : cx.base = 2) (v1 : List (Int)) (v2 : List (Int)) : PVIS 0 a0 v1 v2 → Aw.Good Try.prog none 9 (bodyPost Try.prog Try.f51 (RR cx (.t [(.s 2 0 (S51_j4 a0 a1 a2 (v1, v2)).1.length 1), (.s 3 0 (S51_j4 a0 a1 a2 (v1, v2)).2.length 1)]) [(.live true true (flat c3 (S51_j4 a0 a1 a2 (v1, v2)).1)), (.live true true (flat c3 (S51_j4 a0 a1 a2 (v1, v2)).2))] [])) cx [] (.c B51_j4 :: K51_j4) (st51_j4 a0 a1 a2 (flat c3 v1) v1.length (flat c3 v2) v2.length) := by
  intro hi
  have hb := pvis_bd hi
  have hb2 := hi.e1
  have e := Eq.refl (S51_j4 a0 a1 a2 (v1, v2)); conv at e => rhs; simp only [S51_j4]
  rw [e]
  exact rt [.c [7, 0, 1, 8, 9, 2, 5, 3, 6, 4] (C67 0 (a0.1, a0.2) a1 a2 v1 v2 (by omega) (by omega) (by omega) (by omega) hi)] [] [10, 11] hcx (by kernel_rfl)

def F51 (a0 : List (Int) × TyN) (a1 : Int × Int × Int) (a2 : Int) : List (Int) × List (Int) :=
  (bif (decide ((((a0.2.length : Nat) : Int) : Int) > 0)) then
   (S51_j4 a0 a1 a2 (([] : List (Int)), ([] : List (Int))))
  else
   (([] : List (Int)), ([] : List (Int))))

theorem C51 (a0 : List (Int) × TyN) (a1 : Int × Int × Int) (a2 : Int) (l0_1 : a0.1.length ≤ 9223372036854775807) (l0_2 : a0.2.length ≤ 9223372036854775807) (hp : 0 < a0.2.length → PVIS 0 a0 [] []) : Con Try.prog 51 [(.a [(.s 0 0 a0.1.length 1), (.s 1 0 a0.2.length 8)]), (.a (k3 a1)), (iv a2)] [(.live false true (flat c3 a0.1)), (.live false true (flat c40 a0.2))] (.t [(.s 2 0 (F51 a0 a1 a2).1.length 1), (.s 3 0 (F51 a0 a1 a2).2.length 1)]) [(.live true true (flat c3 (F51 a0 a1 a2).1)), (.live true true (flat c3 (F51 a0 a1 a2).2))] := by
  refine con_s Try.func51 (by kernel_rfl) fun cx hcx => ?_
  cases h0 : (decide ((((a0.2.length : Nat) : Int) : Int) > 0)) with
  | true =>
   have q0 := of_decide_eq_true h0
   have e := Eq.refl (F51 a0 a1 a2); conv at e => rhs; simp only [F51, h0, cond_true, cond_false]
   rw [e]
   refine ga [.d h0, .z 4] [.cell 5 0 1, .cell 6 0 1] [6, 7, 8] [5, 6, 7, 8, 9, 2, 3, 4] hcx B51_j4 (K51_j4) (st51_j4 a0 a1 a2 (flat c3 ([] : List (Int))) 0 (flat c3 ([] : List (Int))) 0) (by kernel_rfl) ?_
   exact L51_j4 a0 a1 a2 l0_1 l0_2 hp hcx ([] : List (Int)) ([] : List (Int)) (hp (by omega))
  | false =>
   have q0 := of_decide_eq_false h0
   have e := Eq.refl (F51 a0 a1 a2); conv at e => rhs; simp only [F51, h0, cond_true, cond_false]
   rw [e]
   exact rt [.d h0] [.cell 5 0 1, .cell 6 0 1] [8, 9] hcx (by kernel_rfl)

def F49_L (a0 : TyL) (a1 : List (Int) × TyN) (a2 : Int) : Int :=
  (bif (((F16_L a0 (a1.1, a1.2)) : Int) != 0) then
   (F16_L a0 (a1.1, a1.2))
  else
   (bif (!(F33 a2 1 16)) then
    1
   else
    0))

theorem C49_L (a0 : TyL) (a1 : List (Int) × TyN) (a2 : Int) (l0 : a0.length ≤ 9223372036854775807) (l1_1 : a1.1.length ≤ 9223372036854775807) (l1_2 : a1.2.length ≤ 9223372036854775807) : Con Try.prog 49 [(.s 0 0 a0.length 10), (.a [(.s 1 0 a1.1.length 1), (.s 2 0 a1.2.length 8)]), (iv a2)] [(.live false true (flat c81 a0)), (.live false true (flat c3 a1.1)), (.live false true (flat c40 a1.2))] (iv (F49_L a0 a1 a2)) [] := by
  refine con_s Try.func49 (by kernel_rfl) fun cx hcx => ?_
  let t0 : List (St Try.prog) := [.c [0, 1, 2] (C16_L a0 (a1.1, a1.2) (by omega) (by omega) (by omega))]
  cases h0 : (((F16_L a0 (a1.1, a1.2)) : Int) != 0) with
  | true =>
   have q0 := bne_iff_ne.1 h0
   have e := Eq.refl (F49_L a0 a1 a2); conv at e => rhs; simp only [F49_L, h0, cond_true, cond_false]
   rw [e]
   exact rt (t0 ++ [.d h0]) [] [] hcx (by kernel_rfl)
  | false =>
   have q0 := bne_eq_false_iff_eq.1 h0
   let t1 : List (St Try.prog) := (t0 ++ [.d h0, .c [] (C33 a2 1 16)])
   cases h1 : (!(F33 a2 1 16)) with
   | true =>
    have e := Eq.refl (F49_L a0 a1 a2); conv at e => rhs; simp only [F49_L, h0, h1, cond_true, cond_false]
    rw [e]
    exact rt (t1 ++ [.d h1]) [] [] hcx (by kernel_rfl)
   | false =>
    have e := Eq.refl (F49_L a0 a1 a2); conv at e => rhs; simp only [F49_L, h0, h1, cond_true, cond_false]
    rw [e]
    exact rt (t1 ++ [.d h1]) [] [] hcx (by kernel_rfl)


def NODS (t : TR) : Prop := t.1.length ≤ 1048576 ∧ t.2.length ≤ 1048576 ∧ ∀ i : Nat, i < t.2.length → 0 ≤ (t.2.getD i default).1 ∧ (t.2.getD i default).1 < (t.2.getD i default).2.1 ∧ (t.2.getD i default).2.1 ≤ t.1.length
theorem BT_nods (l : LCH) (hl : l.length ≤ 96) {leaf : Int} (h1 : 1 ≤ leaf) : NODS (BT l leaf) := by
  have hb := BT_len l hl h1
  refine ⟨by omega, by omega, fun i hi => ?_⟩
  have := BT_ok l h1 _ (List.getElem_mem hi)
  rw [List.getD_eq_getElem?_getD, List.getElem?_eq_getElem hi]
  simp only [Option.getD_some]
  obtain ⟨c1, c2, c3, _⟩ := this
  omega
theorem rck_pvis {l : LCH} {t : TR} (h : F15_L l t = 0) (h0 : 0 < t.2.length) : PVIS 0 t [] [] := by
  obtain ⟨hv, leaf, h1, _, rfl⟩ := rck_ok h
  have hb := BT_len l hv.1 h1
  have hl := hv.1
  rcases BT_tre l h1 with ⟨_, e⟩ | ⟨hh, H⟩
  · rw [e] at h0; exact absurd h0 (Nat.lt_irrefl _)
  · exact ⟨Int.le_refl _, by omega, by omega, _, _, _, _, H, Int.le_refl _, by omega, by simp, by simp⟩



def FARQ (t : TR) (x : Int × Int × Int) (sep : Int) (a : Nat) : Prop :=
  W (W ((t.2.getD a default).2.2.2.2.2 * sep) * sep) ≤ F39 (F40 x (t.2.getD a default).2.2.2.2.1) ∧ (t.2.getD a default).2.2.2.2.2 < F39 (F40 x (t.2.getD a default).2.2.2.2.1)
section
variable {t : TR} {x : Int × Int × Int} {sep : Int} {a : Nat} {far pan : List Int} {d : Int}
theorem vis_far {n : Nat} (h : FARQ t x sep a) : R67 (n + 1) (a : Int) t x sep far pan = (far ++ [(a : Int)], pan) := by
  simp only [R67, Int.toNat_natCast]
  rw [decide_eq_true (show W (W ((t.2.getD a default).2.2.2.2.2 * sep) * sep) ≤ F39 (A67_1 (a : Int) t x sep far pan) from h.1), decide_eq_true (show (t.2.getD a default).2.2.2.2.2 < F39 (A67_1 (a : Int) t x sep far pan) from h.2)]
  rfl
theorem vis_leaf {n : Nat} (h : ¬ FARQ t x sep a) (hl : (t.2.getD a default).2.2.1 < 0) : R67 (n + 1) (a : Int) t x sep far pan = (far, pan ++ Aw.part t.1 (t.2.getD a default).1 (t.2.getD a default).2.1) := by
  simp only [R67, Int.toNat_natCast]
  rw [decide_eq_true hl]
  unfold FARQ at h
  by_cases h1 : W (W ((t.2.getD a default).2.2.2.2.2 * sep) * sep) ≤ F39 (A67_1 (a : Int) t x sep far pan)
  · rw [decide_eq_true h1, decide_eq_false (show ¬ ((t.2.getD a default).2.2.2.2.2 < F39 (A67_1 (a : Int) t x sep far pan)) from fun h2 => h ⟨h1, h2⟩)]; rfl
  · rw [decide_eq_false h1]; rfl
theorem vis_node {n : Nat} (h : ¬ FARQ t x sep a) (hl : ¬ (t.2.getD a default).2.2.1 < 0) : R67 (n + 1) (a : Int) t x sep far pan =
    R67 n (t.2.getD a default).2.2.2.1 t x sep (R67 n (t.2.getD a default).2.2.1 t x sep far pan).1 (R67 n (t.2.getD a default).2.2.1 t x sep far pan).2 := by
  simp only [R67, A67_2, A67_3, Int.toNat_natCast]
  rw [decide_eq_false hl]
  unfold FARQ at h
  by_cases h1 : W (W ((t.2.getD a default).2.2.2.2.2 * sep) * sep) ≤ F39 (A67_1 (a : Int) t x sep far pan)
  · rw [decide_eq_true h1, decide_eq_false (show ¬ ((t.2.getD a default).2.2.2.2.2 < F39 (A67_1 (a : Int) t x sep far pan)) from fun h2 => h ⟨h1, h2⟩)]; rfl
  · rw [decide_eq_false h1]; rfl
end
end Go.Proofs.Ytnbpiejjeeomkaa
