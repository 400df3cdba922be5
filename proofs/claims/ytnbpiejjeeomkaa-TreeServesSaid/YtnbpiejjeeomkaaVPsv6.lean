/-
  Parts of the proofs of the laws: the executor, what functions of the program compute, and that it is what the statements ask. No premise.
-/
import Derived.Test.YtnbpiejjeeomkaaVPsv5
open Int (toNat)
namespace Go.Proofs.Ytnbpiejjeeomkaa
open Go.Proofs Go.Aw Go.RowKit
set_option maxRecDepth 100000
set_option linter.unusedVariables false
set_option linter.unusedSimpArgs false

theorem tck_0 {l : LCH} {t : TR} {sep : Int} (h : ((F49_L l t sep : Int) != 0) = false) : F15_L l t = 0 := by
  have h := bne_eq_false_iff_eq.1 h
  unfold F49_L at h
  rw [← Check_eq]
  cases h0 : ((F16_L l (t.1, t.2) : Int) != 0) with
  | true => rw [h0, cond_true] at h; exact h
  | false => exact bne_eq_false_iff_eq.1 h0

def F25_L (a0 : TyL) (a1 : List (Int) × TyN) (a2 : Int × Int × Int) (a3 : Int) : List (Int) × List (Int) × Int :=
  (bif (((F49_L a0 (a1.1, a1.2) a3) : Int) != 0) then
   (([] : List (Int)), ([] : List (Int)), (F49_L a0 (a1.1, a1.2) a3))
  else
   (bif (!(F50 a2)) then
    (([] : List (Int)), ([] : List (Int)), 1)
   else
    ((F51 (a1.1, a1.2) a2 a3).1, (F51 (a1.1, a1.2) a2 a3).2, 0)))

theorem C25_L (a0 : TyL) (a1 : List (Int) × TyN) (a2 : Int × Int × Int) (a3 : Int) (l0 : a0.length ≤ 9223372036854775807) (l1_1 : a1.1.length ≤ 9223372036854775807) (l1_2 : a1.2.length ≤ 9223372036854775807) : Con Try.prog 25 [(.s 0 0 a0.length 10), (.a [(.s 1 0 a1.1.length 1), (.s 2 0 a1.2.length 8)]), (.a (k3 a2)), (iv a3)] [(.live false true (flat c81 a0)), (.live false true (flat c3 a1.1)), (.live false true (flat c40 a1.2))] (.t [(.s 3 0 (F25_L a0 a1 a2 a3).1.length 1), (.s 4 0 (F25_L a0 a1 a2 a3).2.1.length 1), (iv (F25_L a0 a1 a2 a3).2.2)]) [(.live true true (flat c3 (F25_L a0 a1 a2 a3).1)), (.live true true (flat c3 (F25_L a0 a1 a2 a3).2.1))] := by
  refine con_s Try.func25 (by kernel_rfl) fun cx hcx => ?_
  let t0 : List (St Try.prog) := [.c [0, 1, 2] (C49_L a0 (a1.1, a1.2) a3 (by omega) (by omega) (by omega))]
  cases h0 : (((F49_L a0 (a1.1, a1.2) a3) : Int) != 0) with
  | true =>
   have q0 := bne_iff_ne.1 h0
   have e := Eq.refl (F25_L a0 a1 a2 a3); conv at e => rhs; simp only [F25_L, h0, cond_true, cond_false]
   rw [e]
   exact rt (t0 ++ [.d h0]) [.slot 8 1, .slot 9 1] [5, 6] hcx (by kernel_rfl)
  | false =>
   have q0 := bne_eq_false_iff_eq.1 h0
   let t1 : List (St Try.prog) := (t0 ++ [.d h0, .c [] (C50 a2)])
   cases h1 : (!(F50 a2)) with
   | true =>
    have e := Eq.refl (F25_L a0 a1 a2 a3); conv at e => rhs; simp only [F25_L, h0, h1, cond_true, cond_false]
    rw [e]
    exact rt (t1 ++ [.d h1]) [.slot 8 1, .slot 9 1] [5, 6] hcx (by kernel_rfl)
   | false =>
    have e := Eq.refl (F25_L a0 a1 a2 a3); conv at e => rhs; simp only [F25_L, h0, h1, cond_true, cond_false]
    rw [e]
    exact rt (t1 ++ [.d h1, .c [1, 2] (C51 (a1.1, a1.2) a2 a3 (by omega) (by omega) (fun q => rck_pvis (tck_0 (by assumption)) q))]) [] [5, 6] hcx (by kernel_rfl)


theorem cho_bd {l : LCH} {t : TR} (x : Int × Int × Int) (sep : Int) (h : F15_L l t = 0) : (F51 t x sep).1.length ≤ 96 ∧ (F51 t x sep).2.length ≤ 96 := by
  obtain ⟨hv, leaf, h1, _, rfl⟩ := rck_ok h
  have hl := hv.1
  have hb := BT_len l hv.1 h1
  rcases BT_tre l h1 with ⟨_, e⟩ | ⟨hh, H⟩
  · rw [e]; exact ⟨Nat.zero_le _, Nat.zero_le _⟩
  · have hw := tre_le H
    unfold F51
    rw [decide_eq_true (show (((BT l leaf).2.length : Nat) : Int) > 0 by omega), cond_true]
    simp only [S51_j4, F67]
    have := vis_len ((BT l leaf).2.length - toNat 0 + 1) 0 (BT l leaf) x sep [] [] _ _ _ _ H (Int.le_refl _) (Int.le_refl _) (by omega) (Int.le_refl _) (Int.le_refl _) (by omega)
    exact ⟨Int.ofNat_le.1 (Int.le_trans this.1 (by omega)), Int.ofNat_le.1 (Int.le_trans this.2 (by omega))⟩
theorem Cho_bd (l : LCH) (t : TR) (x : Int × Int × Int) (sep : Int) : (F25_L l t x sep).1.length ≤ 96 ∧ (F25_L l t x sep).2.1.length ≤ 96 := by
  unfold F25_L
  cases h0 : ((F49_L l (t.1, t.2) sep : Int) != 0) with
  | true => exact ⟨Nat.zero_le _, Nat.zero_le _⟩
  | false =>
    have hc := cho_bd x sep (tck_0 h0)
    rw [cond_false]
    cases F50 x with
    | true => exact hc
    | false => exact ⟨Nat.zero_le _, Nat.zero_le _⟩
def F14_L (a0 : TyL) : Bool :=
  (bif (decide ((((a0.length : Nat) : Int) : Int) > 40)) then
   (bif (decide ((((a0.length : Nat) : Int) : Int) ≤ 96)) then
    true
   else
    (decide ((((a0.length : Nat) : Int) : Int) > 200)))
  else
   (decide ((((a0.length : Nat) : Int) : Int) > 200)))

theorem C14_L (a0 : TyL) (l0 : a0.length ≤ 9223372036854775807) : Con Try.prog 14 [(.s 0 0 a0.length 10)] [(.live false true (flat c81 a0))] (.v (.bool (F14_L a0))) [] := by
  refine con_s Try.func14 (by kernel_rfl) fun cx hcx => ?_
  cases h0 : (decide ((((a0.length : Nat) : Int) : Int) > 40)) with
  | true =>
   have q0 := of_decide_eq_true h0
   let t1 : List (St Try.prog) := [.d h0]
   cases h1 : (decide ((((a0.length : Nat) : Int) : Int) ≤ 96)) with
   | true =>
    have q1 := of_decide_eq_true h1
    have e := Eq.refl (F14_L a0); conv at e => rhs; simp only [F14_L, h0, h1, cond_true, cond_false]
    rw [e]
    exact rt (t1 ++ [.d h1]) [] [] hcx (by kernel_rfl)
   | false =>
    have q1 := of_decide_eq_false h1
    have e := Eq.refl (F14_L a0); conv at e => rhs; simp only [F14_L, h0, h1, cond_true, cond_false]
    rw [e]
    exact rt (t1 ++ [.d h1]) [] [] hcx (by kernel_rfl)
  | false =>
   have q0 := of_decide_eq_false h0
   have e := Eq.refl (F14_L a0); conv at e => rhs; simp only [F14_L, h0, cond_true, cond_false]
   rw [e]
   exact rt [.d h0] [] [] hcx (by kernel_rfl)


theorem GT_perm (l : LCH) {leaf : Int} (hl : 1 ≤ leaf) : ∀ (n : Nat) (ns : List Int) (fr a : Int), ns.length < n → (GT l leaf n ns fr a).1.Perm ns
  | 0, _, _, _, h => absurd h (Nat.not_lt_zero _)
  | n + 1, ns, fr, a, h => by
    by_cases h0 : (ns.length : Int) ≤ leaf
    · rw [GT_leaf h0]
    · rw [GT_node h0]
      have hsl := srt_len l (F84_L_L l ns) ns
      refine ((GT_perm l hl n _ _ _ (by rw [List.length_take, hsl]; omega)).append (GT_perm l hl n _ _ _ (by rw [List.length_drop, hsl]; omega))).trans ?_
      rw [List.take_append_drop]
      exact List.mergeSort_perm ns _
theorem BT_perm (l : LCH) {leaf : Int} (hl : 1 ≤ leaf) : (BT l leaf).1.Perm (nums l.length) := by
  unfold BT
  by_cases h0 : l.length = 0
  · rw [if_pos h0, h0]; exact List.Perm.refl _
  · rw [if_neg h0]; exact GT_perm l hl _ _ _ _ (by rw [nums_len]; omega)
theorem tbu_ok {l : LCH} {leaf : Int} (h : (F11_L l leaf).2 = 0) : VCH l ∧ 1 ≤ leaf ∧ leaf ≤ 16 ∧ (F11_L l leaf).1 = BT l leaf := by
  rw [Build_eq] at h ⊢
  unfold F12_L at h ⊢
  cases h0 : ((F35_L l : Int) != 0) with
  | true => rw [h0, cond_true] at h; dsimp only at h; rw [h] at h0; cases h0
  | false =>
    have hv := vch_ok (l := l) (by rw [vch_eq]; exact bne_eq_false_iff_eq.1 h0)
    rw [h0, cond_false] at h
    rw [cond_false]
    by_cases h1 : leaf < 1
    · rw [decide_eq_true h1, cond_true] at h; exact absurd h (by decide)
    · by_cases h2 : leaf > 16
      · rw [decide_eq_false h1, cond_false, decide_eq_true h2, cond_true] at h; exact absurd h (by decide)
      · rw [decide_eq_false h1, cond_false, decide_eq_false h2, cond_false]
        exact ⟨hv, by omega, by omega, rbl_eq l hv.1 (by omega)⟩
theorem tbu_nods {l : LCH} {leaf : Int} (h : (F11_L l leaf).2 = 0) : NODS ((F11_L l leaf).1.1, (F11_L l leaf).1.2) ∧ (∀ j, j < l.length → 0 ≤ (F11_L l leaf).1.1.getD j default ∧ (F11_L l leaf).1.1.getD j default < l.length) ∧ (F11_L l leaf).1.1.length = l.length := by
  obtain ⟨hv, h1, _, e⟩ := tbu_ok h
  have hb := BT_len l hv.1 h1
  refine ⟨?_, fun j hj => ?_, by rw [e]; exact hb.1⟩
  · rw [e]; exact BT_nods l hv.1 h1
  · rw [e]
    have hj2 : j < (BT l leaf).1.length := by omega
    have := nums_inr l.length _ ((BT_perm l h1).mem_iff.1 (List.getElem_mem hj2))
    rw [List.getD_eq_getElem?_getD, List.getElem?_eq_getElem hj2]
    exact this

noncomputable def B8_L_1 : Code := (loopAtD [1, 1, 1, 1, 1, 1, 0, 1, 0, 1, 0, 1, 1, 1] [0] (bodyOf Try.f8) []).1
noncomputable def K8_L_1 (m0 : Nat) : List K := (loopAtD [1, 1, 1, 1, 1, 1, 0, 1, 0, 1, 0, 1, 1, 1] [m0] (bodyOf Try.f8) []).2

def st8_L_1 (a0 : TyL) (a1 : Int × (Int × Int × Int) × Int × Int × Int) (v5c : List SV) (v5n : Nat) (v6 : Int) (v7 : Int) (v8 : Int) (v9 : Int) (v10 : Int) (v11 : Int) (v12 : Int) (v13 : Int) (v14 : Int) (v15 : Int) : LS := ⟨slN 145 [(0, (.s 0 0 a0.length 10)), (5, (.p 1 0)), (7, (.s 2 0 (F25_L a0 ((F11_L a0 a1.1).1.1, (F11_L a0 a1.1).1.2) a1.2.1 a1.2.2.1).1.length 1)), (8, (.s 3 0 (F25_L a0 ((F11_L a0 a1.1).1.1, (F11_L a0 a1.1).1.2) a1.2.1 a1.2.2.1).2.1.length 1)), (10, (.s 4 0 v5n 1)), (11, (iv v6)), (12, (.p 5 0)), (13, (iv v7))], [(.live false true (flat c81 a0)), (.live true false [(.s 6 0 (F11_L a0 a1.1).1.1.length 1), (.s 7 0 (F11_L a0 a1.1).1.2.length 8)]), (.live true true (flat c3 (F25_L a0 ((F11_L a0 a1.1).1.1, (F11_L a0 a1.1).1.2) a1.2.1 a1.2.2.1).1)), (.live true true (flat c3 (F25_L a0 ((F11_L a0 a1.1).1.1, (F11_L a0 a1.1).1.2) a1.2.1 a1.2.2.1).2.1)), (.live true true v5c), (.live true false [(iv v8), (iv v9), (iv v10), (iv v11), (iv v12), (iv v13), (iv v14), (iv v15)]), (.live true true (flat c3 (F11_L a0 a1.1).1.1)), (.live true true (flat c40 (F11_L a0 a1.1).1.2))]⟩

def S8_L_1 (a0 : TyL) (a1 : Int × (Int × Int × Int) × Int × Int × Int) : List (Int) × Int × Int × Int × Int × Int × Int × Int × Int × Int × Int → (List (Int) × Int × Int × Int × Int × Int × Int × Int × Int × Int × Int) ⊕ ((List (Int) × Int) ⊕ (Bool))
  | (v5, v6, v7, v8, v9, v10, v11, v12, v13, v14, v15) =>
   (bif (decide ((v7 : Int) < v9)) then
    (.inl ((v5.set (toNat ((F11_L a0 a1.1).1.1.getD (toNat v7) default)) (W ((v5.getD (toNat ((F11_L a0 a1.1).1.1.getD (toNat v7) default)) default) + 1))), v6, (v7 + 1), v8, v9, v10, v11, v12, v13, v14, v15))
   else
    (.inr (.inl (v5, (v6 + 1)))))

noncomputable def B8_L_3 : Code := (loopAtD [1, 1, 1, 1, 1, 1, 1, 1, 0, 1] [] (bodyOf Try.f8) []).1
noncomputable def K8_L_3 : List K := (loopAtD [1, 1, 1, 1, 1, 1, 1, 1, 0, 1] [] (bodyOf Try.f8) []).2

def st8_L_3 (a0 : TyL) (a1 : Int × (Int × Int × Int) × Int × Int × Int) (v20c : List SV) (v20n : Nat) (v21 : Int) : LS := ⟨slN 145 [(10, (.s 1 0 v20n 1)), (15, (iv v21))], [(.live false true (flat c81 a0)), (.live true true v20c)]⟩

def S8_L_3 (a0 : TyL) (a1 : Int × (Int × Int × Int) × Int × Int × Int) : List (Int) × Int → (List (Int) × Int) ⊕ (Bool)
  | (v20, v21) =>
   (bif (decide ((v21 : Int) < ((v20.length : Nat) : Int))) then
    (bif (((v20.getD (toNat v21) default) : Int) != 1) then
     (.inr false)
    else
     (.inl (v20, (v21 + 1))))
   else
    (.inr F10))

noncomputable def B8_L_2 : Code := (loopAtD [1, 1, 1, 1, 1, 1, 1, 0, 1] [] (bodyOf Try.f8) []).1
noncomputable def K8_L_2 : List K := (loopAtD [1, 1, 1, 1, 1, 1, 1, 0, 1] [] (bodyOf Try.f8) []).2

def st8_L_2 (a0 : TyL) (a1 : Int × (Int × Int × Int) × Int × Int × Int) (v17c : List SV) (v17n : Nat) (v18 : Int) : LS := ⟨slN 145 [(0, (.s 0 0 a0.length 10)), (8, (.s 1 0 (F25_L a0 ((F11_L a0 a1.1).1.1, (F11_L a0 a1.1).1.2) a1.2.1 a1.2.2.1).2.1.length 1)), (10, (.s 2 0 v17n 1)), (14, (iv v18))], [(.live false true (flat c81 a0)), (.live true true (flat c3 (F25_L a0 ((F11_L a0 a1.1).1.1, (F11_L a0 a1.1).1.2) a1.2.1 a1.2.2.1).2.1)), (.live true true v17c)]⟩

def S8_L_2 (a0 : TyL) (a1 : Int × (Int × Int × Int) × Int × Int × Int) : List (Int) × Int → (List (Int) × Int) ⊕ (Bool)
  | (v17, v18) =>
   (bif (decide ((v18 : Int) < (((F25_L a0 ((F11_L a0 a1.1).1.1, (F11_L a0 a1.1).1.2) a1.2.1 a1.2.2.1).2.1.length : Nat) : Int))) then
    (bif (decide ((((F25_L a0 ((F11_L a0 a1.1).1.1, (F11_L a0 a1.1).1.2) a1.2.1 a1.2.2.1).2.1.getD (toNat v18) default) : Int) < 0)) then
     (.inr false)
    else
     (bif (decide ((((F25_L a0 ((F11_L a0 a1.1).1.1, (F11_L a0 a1.1).1.2) a1.2.1 a1.2.2.1).2.1.getD (toNat v18) default) : Int) ≥ ((a0.length : Nat) : Int))) then
      (.inr false)
     else
      (.inl ((v17.set (toNat ((F25_L a0 ((F11_L a0 a1.1).1.1, (F11_L a0 a1.1).1.2) a1.2.1 a1.2.2.1).2.1.getD (toNat v18) default)) (W ((v17.getD (toNat ((F25_L a0 ((F11_L a0 a1.1).1.1, (F11_L a0 a1.1).1.2) a1.2.1 a1.2.2.1).2.1.getD (toNat v18) default)) default) + 1))), (v18 + 1)))))
   else
    (.inr (loopF (S8_L_3 a0 a1) (toNat (((v17.length : Nat) : Int) - 0) + 1) (v17, 0))))

noncomputable def B8_L_0 : Code := (loopAtD [1, 1, 1, 1, 1, 1, 0, 1] [] (bodyOf Try.f8) []).1
noncomputable def K8_L_0 : List K := (loopAtD [1, 1, 1, 1, 1, 1, 0, 1] [] (bodyOf Try.f8) []).2

def st8_L_0 (a0 : TyL) (a1 : Int × (Int × Int × Int) × Int × Int × Int) (v3c : List SV) (v3n : Nat) (v4 : Int) : LS := ⟨slN 145 [(0, (.s 0 0 a0.length 10)), (5, (.p 1 0)), (7, (.s 2 0 (F25_L a0 ((F11_L a0 a1.1).1.1, (F11_L a0 a1.1).1.2) a1.2.1 a1.2.2.1).1.length 1)), (8, (.s 3 0 (F25_L a0 ((F11_L a0 a1.1).1.1, (F11_L a0 a1.1).1.2) a1.2.1 a1.2.2.1).2.1.length 1)), (10, (.s 4 0 v3n 1)), (11, (iv v4))], [(.live false true (flat c81 a0)), (.live true false [(.s 5 0 (F11_L a0 a1.1).1.1.length 1), (.s 6 0 (F11_L a0 a1.1).1.2.length 8)]), (.live true true (flat c3 (F25_L a0 ((F11_L a0 a1.1).1.1, (F11_L a0 a1.1).1.2) a1.2.1 a1.2.2.1).1)), (.live true true (flat c3 (F25_L a0 ((F11_L a0 a1.1).1.1, (F11_L a0 a1.1).1.2) a1.2.1 a1.2.2.1).2.1)), (.live true true v3c), (.live true true (flat c3 (F11_L a0 a1.1).1.1)), (.live true true (flat c40 (F11_L a0 a1.1).1.2))]⟩

def S8_L_0 (a0 : TyL) (a1 : Int × (Int × Int × Int) × Int × Int × Int) : List (Int) × Int → (List (Int) × Int) ⊕ (Bool)
  | (v3, v4) =>
   (bif (decide ((v4 : Int) < (((F25_L a0 ((F11_L a0 a1.1).1.1, (F11_L a0 a1.1).1.2) a1.2.1 a1.2.2.1).1.length : Nat) : Int))) then
    (bif (decide ((((F25_L a0 ((F11_L a0 a1.1).1.1, (F11_L a0 a1.1).1.2) a1.2.1 a1.2.2.1).1.getD (toNat v4) default) : Int) < 0)) then
     (.inr false)
    else
     (bif (decide ((((F25_L a0 ((F11_L a0 a1.1).1.1, (F11_L a0 a1.1).1.2) a1.2.1 a1.2.2.1).1.getD (toNat v4) default) : Int) ≥ (((F11_L a0 a1.1).1.2.length : Nat) : Int))) then
      (.inr false)
     else
      (loopF (S8_L_1 a0 a1) (toNat (((F11_L a0 a1.1).1.2.getD (toNat ((F25_L a0 ((F11_L a0 a1.1).1.1, (F11_L a0 a1.1).1.2) a1.2.1 a1.2.2.1).1.getD (toNat v4) default)) default).2.1 - ((F11_L a0 a1.1).1.2.getD (toNat ((F25_L a0 ((F11_L a0 a1.1).1.1, (F11_L a0 a1.1).1.2) a1.2.1 a1.2.2.1).1.getD (toNat v4) default)) default).1) + 1) (v3, v4, ((F11_L a0 a1.1).1.2.getD (toNat ((F25_L a0 ((F11_L a0 a1.1).1.1, (F11_L a0 a1.1).1.2) a1.2.1 a1.2.2.1).1.getD (toNat v4) default)) default).1, ((F11_L a0 a1.1).1.2.getD (toNat ((F25_L a0 ((F11_L a0 a1.1).1.1, (F11_L a0 a1.1).1.2) a1.2.1 a1.2.2.1).1.getD (toNat v4) default)) default).1, ((F11_L a0 a1.1).1.2.getD (toNat ((F25_L a0 ((F11_L a0 a1.1).1.1, (F11_L a0 a1.1).1.2) a1.2.1 a1.2.2.1).1.getD (toNat v4) default)) default).2.1, ((F11_L a0 a1.1).1.2.getD (toNat ((F25_L a0 ((F11_L a0 a1.1).1.1, (F11_L a0 a1.1).1.2) a1.2.1 a1.2.2.1).1.getD (toNat v4) default)) default).2.2.1, ((F11_L a0 a1.1).1.2.getD (toNat ((F25_L a0 ((F11_L a0 a1.1).1.1, (F11_L a0 a1.1).1.2) a1.2.1 a1.2.2.1).1.getD (toNat v4) default)) default).2.2.2.1, ((F11_L a0 a1.1).1.2.getD (toNat ((F25_L a0 ((F11_L a0 a1.1).1.1, (F11_L a0 a1.1).1.2) a1.2.1 a1.2.2.1).1.getD (toNat v4) default)) default).2.2.2.2.1.1, ((F11_L a0 a1.1).1.2.getD (toNat ((F25_L a0 ((F11_L a0 a1.1).1.1, (F11_L a0 a1.1).1.2) a1.2.1 a1.2.2.1).1.getD (toNat v4) default)) default).2.2.2.2.1.2.1, ((F11_L a0 a1.1).1.2.getD (toNat ((F25_L a0 ((F11_L a0 a1.1).1.1, (F11_L a0 a1.1).1.2) a1.2.1 a1.2.2.1).1.getD (toNat v4) default)) default).2.2.2.2.1.2.2, ((F11_L a0 a1.1).1.2.getD (toNat ((F25_L a0 ((F11_L a0 a1.1).1.1, (F11_L a0 a1.1).1.2) a1.2.1 a1.2.2.1).1.getD (toNat v4) default)) default).2.2.2.2.2))))
   else
    (.inr (loopF (S8_L_2 a0 a1) (toNat ((((F25_L a0 ((F11_L a0 a1.1).1.1, (F11_L a0 a1.1).1.2) a1.2.1 a1.2.2.1).2.1.length : Nat) : Int) - 0) + 1) (v3, 0))))

set_option maxHeartbeats 4000000 in
theorem L8_L_1 (a0 : TyL) (a1 : Int × (Int × Int × Int) × Int × Int × Int) (l0 : a0.length ≤ 9223372036854775807) {cx : Cx} (hcx : cx.base = 1)
    (n0 : Nat) (g0 : ∀ (v3 : List (Int)) (v4 : Int), (0 ≤ v4) ∧ (v3.length = a0.length) ∧ ((F11_L a0 a1.1).2 = 0) → toNat ((((F25_L a0 ((F11_L a0 a1.1).1.1, (F11_L a0 a1.1).1.2) a1.2.1 a1.2.2.1).1.length : Nat) : Int) - v4) < n0 → Aw.Good Try.prog none 9 (bodyPost Try.prog Try.f8 (RR cx (.v (.bool (loopF (S8_L_0 a0 a1) n0 (v3, v4)))) [] [])) cx [] (.l B8_L_0 n0 :: K8_L_0) (st8_L_0 a0 a1 (flat c3 v3) v3.length v4)) : ∀ (n : Nat) (v5 : List (Int)) (v6 : Int) (v7 : Int) (v8 : Int) (v9 : Int) (v10 : Int) (v11 : Int) (v12 : Int) (v13 : Int) (v14 : Int) (v15 : Int), (0 ≤ v7) ∧ (v5.length = a0.length) ∧ ((F11_L a0 a1.1).2 = 0) ∧ (0 ≤ v7) ∧ (0 ≤ v6) ∧ (v9 ≤ a0.length) ∧ ((0 ≤ v6)) ∧ ((v5.length = a0.length)) ∧ (((F11_L a0 a1.1).2 = 0)) ∧ (v6 < (((F25_L a0 ((F11_L a0 a1.1).1.1, (F11_L a0 a1.1).1.2) a1.2.1 a1.2.2.1).1.length : Nat) : Int)) ∧ (toNat ((((F25_L a0 ((F11_L a0 a1.1).1.1, (F11_L a0 a1.1).1.2) a1.2.1 a1.2.2.1).1.length : Nat) : Int) - v6) < n0 + 1) → toNat (v9 - v7) < n → Aw.Good Try.prog none 9 (bodyPost Try.prog Try.f8 (RR cx (.v (.bool (thenF (S8_L_0 a0 a1) n0 (loopF (S8_L_1 a0 a1) n (v5, v6, v7, v8, v9, v10, v11, v12, v13, v14, v15))))) [] [])) cx [] (.l B8_L_1 n :: K8_L_1 n0) (st8_L_1 a0 a1 (flat c3 v5) v5.length v6 v7 v8 v9 v10 v11 v12 v13 v14 v15) := by
  intro n
  induction n with
  | zero => intro v5 v6 v7 v8 v9 v10 v11 v12 v13 v14 v15 hi hn; exact absurd hn (Nat.not_lt_zero _)
  | succ n ih =>
    intro v5 v6 v7 v8 v9 v10 v11 v12 v13 v14 v15 hi hn
    refine good_round ?_
    have hb1 := Build_len a0 a1.1
    have hb3 := Cho_bd a0 ((F11_L a0 a1.1).1.1, (F11_L a0 a1.1).1.2) a1.2.1 a1.2.2.1
    have hok := tbu_nods (l := a0) (leaf := a1.1) (by omega)
    have hk1 := hok.2.2
    have hk2 := hok.1.1
    try have hor := hok.2.1 (toNat v7) (by have _ := h0; omega)
    cases h0 : (decide ((v7 : Int) < v9)) with
    | true =>
     have q0 := of_decide_eq_true h0
     try have hor := hok.2.1 (toNat v7) (by have _ := h0; omega)
     have e := Eq.refl (S8_L_1 a0 a1 (v5, v6, v7, v8, v9, v10, v11, v12, v13, v14, v15)); conv at e => rhs; simp only [S8_L_1, h0, cond_true, cond_false]
     rw [loopF_inl e]
     refine ba [.d h0, .i v7 ((F11_L a0 a1.1).1.1.length), .L c3_len (F11_L a0 a1.1).1.1 v7 0 1, .i ((F11_L a0 a1.1).1.1.getD (toNat v7) default) (v5.length), .L c3_len v5 ((F11_L a0 a1.1).1.1.getD (toNat v7) default) 0 1, .i ((F11_L a0 a1.1).1.1.getD (toNat v7) default) (v5.length), .p (show ((0 + toNat ((F11_L a0 a1.1).1.1.getD (toNat v7) default) * 1) + 1 ≤ (flat c3 v5).length) from (flat_setl c3_len (by first | omega | (simp only [Lt]; omega)) (i := toNat ((F11_L a0 a1.1).1.1.getD (toNat v7) default)) (o := 0) (n := 1) (Nb rfl)))] [] [0, 5, 7, 8, 10, 11, 12, 13] [1, 2, 3, 4, 5, 6, 7] hcx (m := n) B8_L_1 (K8_L_1 n0) (st8_L_1 a0 a1 (splice (flat c3 v5) (0 + toNat ((F11_L a0 a1.1).1.1.getD (toNat v7) default) * 1) [(iv (W ((v5.getD (toNat ((F11_L a0 a1.1).1.1.getD (toNat v7) default)) default) + 1)))]) (v5.length) v6 (W (v7 + 1)) v8 v9 v10 v11 v12 v13 v14 v15) (by kernel_rfl) ?_
     have z0 : (W (v7 + 1)) = (v7 + 1) := W_eq (by omega) (by omega)
     have z1 : (splice (flat c3 v5) (0 + toNat ((F11_L a0 a1.1).1.1.getD (toNat v7) default) * 1) [(iv (W ((v5.getD (toNat ((F11_L a0 a1.1).1.1.getD (toNat v7) default)) default) + 1)))]) = flat c3 (v5.set (toNat ((F11_L a0 a1.1).1.1.getD (toNat v7) default)) (W ((v5.getD (toNat ((F11_L a0 a1.1).1.1.getD (toNat v7) default)) default) + 1))) := (flat_set c3_len (by first | omega | (simp only [Lt]; omega)) (i := toNat ((F11_L a0 a1.1).1.1.getD (toNat v7) default)) (o := 0) (d := default) (y := (W ((v5.getD (toNat ((F11_L a0 a1.1).1.1.getD (toNat v7) default)) default) + 1))) (xs := [(iv (W ((v5.getD (toNat ((F11_L a0 a1.1).1.1.getD (toNat v7) default)) default) + 1)))]) (Nb rfl) rfl)
     have z2 : v5.length = (v5.set (toNat ((F11_L a0 a1.1).1.1.getD (toNat v7) default)) (W ((v5.getD (toNat ((F11_L a0 a1.1).1.1.getD (toNat v7) default)) default) + 1))).length := by simp
     rw [z0, z1, z2]
     exact ih (v5.set (toNat ((F11_L a0 a1.1).1.1.getD (toNat v7) default)) (W ((v5.getD (toNat ((F11_L a0 a1.1).1.1.getD (toNat v7) default)) default) + 1))) v6 (v7 + 1) v8 v9 v10 v11 v12 v13 v14 v15 (by refine ⟨?_, ?_, ?_, ?_, ?_, ?_, ?_, ?_, ?_, ?_, ?_⟩ <;> (try simp only [Ls]) <;> first | omega | assumption | exact hi.2.1 | exact hi.2.2.1 | exact hi.2.2.2.1 | exact hi.2.2.2.2.1 | exact hi.2.2.2.2.2.1 | exact hi.2.2.2.2.2.2.1 | exact hi.2.2.2.2.2.2.2.1 | exact hi.2.2.2.2.2.2.2.2.1 | exact hi.2.2.2.2.2.2.2.2.2.1 | exact hi.2.2.2.2.2.2.2.2.2.2.1 | simp) (by (try simp only [Ls]); omega)
    | false =>
     have q0 := of_decide_eq_false h0
     try have hor := hok.2.1 (toNat v7) (by have _ := h0; omega)
     have e := Eq.refl (S8_L_1 a0 a1 (v5, v6, v7, v8, v9, v10, v11, v12, v13, v14, v15)); conv at e => rhs; simp only [S8_L_1, h0, cond_true, cond_false]
     rw [loopF_s, e]
     refine ba [.d h0] [] [0, 5, 7, 8, 10, 11] [1, 2, 3, 4, 6, 7] hcx (m := n0) B8_L_0 (K8_L_0) (st8_L_0 a0 a1 (flat c3 v5) (v5.length) (W (v6 + 1))) (by kernel_rfl) ?_
     have z0 : (W (v6 + 1)) = (v6 + 1) := W_eq (by omega) (by omega)
     rw [z0]
     exact g0 v5 (v6 + 1) (by refine ⟨?_, ?_, ?_⟩ <;> (try simp only [Ls]) <;> first | omega | assumption | simp) (by (try simp only [Ls]); omega)

set_option maxHeartbeats 4000000 in
theorem L8_L_3 (a0 : TyL) (a1 : Int × (Int × Int × Int) × Int × Int × Int) (l0 : a0.length ≤ 9223372036854775807) {cx : Cx} (hcx : cx.base = 1) : ∀ (n : Nat) (v20 : List (Int)) (v21 : Int), (0 ≤ v21) ∧ (v20.length = a0.length) → toNat (((v20.length : Nat) : Int) - v21) < n → Aw.Good Try.prog none 9 (bodyPost Try.prog Try.f8 (RR cx (.v (.bool (loopF (S8_L_3 a0 a1) n (v20, v21)))) [] [])) cx [] (.l B8_L_3 n :: K8_L_3) (st8_L_3 a0 a1 (flat c3 v20) v20.length v21) := by
  intro n
  induction n with
  | zero => intro v20 v21 hi hn; exact absurd hn (Nat.not_lt_zero _)
  | succ n ih =>
    intro v20 v21 hi hn
    refine good_round ?_
    have hb1 := Build_len a0 a1.1
    have hb3 := Cho_bd a0 ((F11_L a0 a1.1).1.1, (F11_L a0 a1.1).1.2) a1.2.1 a1.2.2.1
    cases h0 : (decide ((v21 : Int) < ((v20.length : Nat) : Int))) with
    | true =>
     have q0 := of_decide_eq_true h0
     let t1 : List (St Try.prog) := [.d h0, .i v21 (v20.length), .L c3_len v20 v21 0 1]
     cases h1 : (((v20.getD (toNat v21) default) : Int) != 1) with
     | true =>
      have q1 := bne_iff_ne.1 h1
      have e := Eq.refl (S8_L_3 a0 a1 (v20, v21)); conv at e => rhs; simp only [S8_L_3, h0, h1, cond_true, cond_false]
      rw [loopF_s, e]
      exact rt (t1 ++ [.d h1]) [] [] hcx (by kernel_rfl)
     | false =>
      have q1 := bne_eq_false_iff_eq.1 h1
      have e := Eq.refl (S8_L_3 a0 a1 (v20, v21)); conv at e => rhs; simp only [S8_L_3, h0, h1, cond_true, cond_false]
      rw [loopF_inl e]
      refine ba (t1 ++ [.d h1]) [] [10, 15] [1] hcx (m := n) B8_L_3 (K8_L_3) (st8_L_3 a0 a1 (flat c3 v20) (v20.length) (W (v21 + 1))) (by kernel_rfl) ?_
      have z0 : (W (v21 + 1)) = (v21 + 1) := W_eq (by omega) (by omega)
      rw [z0]
      exact ih v20 (v21 + 1) (by refine ⟨?_, ?_⟩ <;> (try simp only [Ls]) <;> first | omega | assumption | simp) (by (try simp only [Ls]); omega)
    | false =>
     have q0 := of_decide_eq_false h0
     have e := Eq.refl (S8_L_3 a0 a1 (v20, v21)); conv at e => rhs; simp only [S8_L_3, h0, cond_true, cond_false]
     rw [loopF_s, e]
     exact rt [.d h0, .c [] (C10)] [] [] hcx (by kernel_rfl)

set_option maxHeartbeats 4000000 in
theorem L8_L_2 (a0 : TyL) (a1 : Int × (Int × Int × Int) × Int × Int × Int) (l0 : a0.length ≤ 9223372036854775807) {cx : Cx} (hcx : cx.base = 1) : ∀ (n : Nat) (v17 : List (Int)) (v18 : Int), (0 ≤ v18) ∧ (v17.length = a0.length) → toNat ((((F25_L a0 ((F11_L a0 a1.1).1.1, (F11_L a0 a1.1).1.2) a1.2.1 a1.2.2.1).2.1.length : Nat) : Int) - v18) < n → Aw.Good Try.prog none 9 (bodyPost Try.prog Try.f8 (RR cx (.v (.bool (loopF (S8_L_2 a0 a1) n (v17, v18)))) [] [])) cx [] (.l B8_L_2 n :: K8_L_2) (st8_L_2 a0 a1 (flat c3 v17) v17.length v18) := by
  intro n
  induction n with
  | zero => intro v17 v18 hi hn; exact absurd hn (Nat.not_lt_zero _)
  | succ n ih =>
    intro v17 v18 hi hn
    refine good_round ?_
    have hb1 := Build_len a0 a1.1
    have hb3 := Cho_bd a0 ((F11_L a0 a1.1).1.1, (F11_L a0 a1.1).1.2) a1.2.1 a1.2.2.1
    cases h0 : (decide ((v18 : Int) < (((F25_L a0 ((F11_L a0 a1.1).1.1, (F11_L a0 a1.1).1.2) a1.2.1 a1.2.2.1).2.1.length : Nat) : Int))) with
    | true =>
     have q0 := of_decide_eq_true h0
     let t1 : List (St Try.prog) := [.d h0, .i v18 ((F25_L a0 ((F11_L a0 a1.1).1.1, (F11_L a0 a1.1).1.2) a1.2.1 a1.2.2.1).2.1.length), .L c3_len (F25_L a0 ((F11_L a0 a1.1).1.1, (F11_L a0 a1.1).1.2) a1.2.1 a1.2.2.1).2.1 v18 0 1]
     cases h1 : (decide ((((F25_L a0 ((F11_L a0 a1.1).1.1, (F11_L a0 a1.1).1.2) a1.2.1 a1.2.2.1).2.1.getD (toNat v18) default) : Int) < 0)) with
     | true =>
      have q1 := of_decide_eq_true h1
      have e := Eq.refl (S8_L_2 a0 a1 (v17, v18)); conv at e => rhs; simp only [S8_L_2, h0, h1, cond_true, cond_false]
      rw [loopF_s, e]
      exact rt (t1 ++ [.d h1]) [] [] hcx (by kernel_rfl)
     | false =>
      have q1 := of_decide_eq_false h1
      let t2 : List (St Try.prog) := (t1 ++ [.d h1, .i v18 ((F25_L a0 ((F11_L a0 a1.1).1.1, (F11_L a0 a1.1).1.2) a1.2.1 a1.2.2.1).2.1.length), .L c3_len (F25_L a0 ((F11_L a0 a1.1).1.1, (F11_L a0 a1.1).1.2) a1.2.1 a1.2.2.1).2.1 v18 0 1])
      cases h2 : (decide ((((F25_L a0 ((F11_L a0 a1.1).1.1, (F11_L a0 a1.1).1.2) a1.2.1 a1.2.2.1).2.1.getD (toNat v18) default) : Int) ≥ ((a0.length : Nat) : Int))) with
      | true =>
       have q2 := of_decide_eq_true h2
       have e := Eq.refl (S8_L_2 a0 a1 (v17, v18)); conv at e => rhs; simp only [S8_L_2, h0, h1, h2, cond_true, cond_false]
       rw [loopF_s, e]
       exact rt (t2 ++ [.d h2]) [] [] hcx (by kernel_rfl)
      | false =>
       have q2 := of_decide_eq_false h2
       have e := Eq.refl (S8_L_2 a0 a1 (v17, v18)); conv at e => rhs; simp only [S8_L_2, h0, h1, h2, cond_true, cond_false]
       rw [loopF_inl e]
       refine ba (t2 ++ [.d h2, .i v18 ((F25_L a0 ((F11_L a0 a1.1).1.1, (F11_L a0 a1.1).1.2) a1.2.1 a1.2.2.1).2.1.length), .L c3_len (F25_L a0 ((F11_L a0 a1.1).1.1, (F11_L a0 a1.1).1.2) a1.2.1 a1.2.2.1).2.1 v18 0 1, .i ((F25_L a0 ((F11_L a0 a1.1).1.1, (F11_L a0 a1.1).1.2) a1.2.1 a1.2.2.1).2.1.getD (toNat v18) default) (v17.length), .L c3_len v17 ((F25_L a0 ((F11_L a0 a1.1).1.1, (F11_L a0 a1.1).1.2) a1.2.1 a1.2.2.1).2.1.getD (toNat v18) default) 0 1, .i ((F25_L a0 ((F11_L a0 a1.1).1.1, (F11_L a0 a1.1).1.2) a1.2.1 a1.2.2.1).2.1.getD (toNat v18) default) (v17.length), .p (show ((0 + toNat ((F25_L a0 ((F11_L a0 a1.1).1.1, (F11_L a0 a1.1).1.2) a1.2.1 a1.2.2.1).2.1.getD (toNat v18) default) * 1) + 1 ≤ (flat c3 v17).length) from (flat_setl c3_len (by first | omega | (simp only [Lt]; omega)) (i := toNat ((F25_L a0 ((F11_L a0 a1.1).1.1, (F11_L a0 a1.1).1.2) a1.2.1 a1.2.2.1).2.1.getD (toNat v18) default)) (o := 0) (n := 1) (Nb rfl)))]) [] [0, 8, 10, 14] [1, 2] hcx (m := n) B8_L_2 (K8_L_2) (st8_L_2 a0 a1 (splice (flat c3 v17) (0 + toNat ((F25_L a0 ((F11_L a0 a1.1).1.1, (F11_L a0 a1.1).1.2) a1.2.1 a1.2.2.1).2.1.getD (toNat v18) default) * 1) [(iv (W ((v17.getD (toNat ((F25_L a0 ((F11_L a0 a1.1).1.1, (F11_L a0 a1.1).1.2) a1.2.1 a1.2.2.1).2.1.getD (toNat v18) default)) default) + 1)))]) (v17.length) (W (v18 + 1))) (by kernel_rfl) ?_
       have z0 : (W (v18 + 1)) = (v18 + 1) := W_eq (by omega) (by omega)
       have z1 : (splice (flat c3 v17) (0 + toNat ((F25_L a0 ((F11_L a0 a1.1).1.1, (F11_L a0 a1.1).1.2) a1.2.1 a1.2.2.1).2.1.getD (toNat v18) default) * 1) [(iv (W ((v17.getD (toNat ((F25_L a0 ((F11_L a0 a1.1).1.1, (F11_L a0 a1.1).1.2) a1.2.1 a1.2.2.1).2.1.getD (toNat v18) default)) default) + 1)))]) = flat c3 (v17.set (toNat ((F25_L a0 ((F11_L a0 a1.1).1.1, (F11_L a0 a1.1).1.2) a1.2.1 a1.2.2.1).2.1.getD (toNat v18) default)) (W ((v17.getD (toNat ((F25_L a0 ((F11_L a0 a1.1).1.1, (F11_L a0 a1.1).1.2) a1.2.1 a1.2.2.1).2.1.getD (toNat v18) default)) default) + 1))) := (flat_set c3_len (by first | omega | (simp only [Lt]; omega)) (i := toNat ((F25_L a0 ((F11_L a0 a1.1).1.1, (F11_L a0 a1.1).1.2) a1.2.1 a1.2.2.1).2.1.getD (toNat v18) default)) (o := 0) (d := default) (y := (W ((v17.getD (toNat ((F25_L a0 ((F11_L a0 a1.1).1.1, (F11_L a0 a1.1).1.2) a1.2.1 a1.2.2.1).2.1.getD (toNat v18) default)) default) + 1))) (xs := [(iv (W ((v17.getD (toNat ((F25_L a0 ((F11_L a0 a1.1).1.1, (F11_L a0 a1.1).1.2) a1.2.1 a1.2.2.1).2.1.getD (toNat v18) default)) default) + 1)))]) (Nb rfl) rfl)
       have z2 : v17.length = (v17.set (toNat ((F25_L a0 ((F11_L a0 a1.1).1.1, (F11_L a0 a1.1).1.2) a1.2.1 a1.2.2.1).2.1.getD (toNat v18) default)) (W ((v17.getD (toNat ((F25_L a0 ((F11_L a0 a1.1).1.1, (F11_L a0 a1.1).1.2) a1.2.1 a1.2.2.1).2.1.getD (toNat v18) default)) default) + 1))).length := by simp
       rw [z0, z1, z2]
       exact ih (v17.set (toNat ((F25_L a0 ((F11_L a0 a1.1).1.1, (F11_L a0 a1.1).1.2) a1.2.1 a1.2.2.1).2.1.getD (toNat v18) default)) (W ((v17.getD (toNat ((F25_L a0 ((F11_L a0 a1.1).1.1, (F11_L a0 a1.1).1.2) a1.2.1 a1.2.2.1).2.1.getD (toNat v18) default)) default) + 1))) (v18 + 1) (by refine ⟨?_, ?_⟩ <;> (try simp only [Ls]) <;> first | omega | assumption | simp) (by (try simp only [Ls]); omega)
    | false =>
     have q0 := of_decide_eq_false h0
     have e := Eq.refl (S8_L_2 a0 a1 (v17, v18)); conv at e => rhs; simp only [S8_L_2, h0, cond_true, cond_false]
     rw [loopF_s, e]
     refine en [.d h0] [] [10, 15] [2] hcx B8_L_3 (K8_L_3) (st8_L_3 a0 a1 (flat c3 v17) (v17.length) 0) (toNat (((v17.length : Nat) : Int) - 0) + 1) (by kernel_rfl) ?_
     exact L8_L_3 a0 a1 l0 hcx (toNat (((v17.length : Nat) : Int) - 0) + 1) v17 0 (by refine ⟨?_, ?_⟩ <;> (try simp only [Ls]) <;> first | omega | assumption | simp) (by (try simp only [Ls]); omega)

set_option maxHeartbeats 4000000 in
theorem L8_L_0 (a0 : TyL) (a1 : Int × (Int × Int × Int) × Int × Int × Int) (l0 : a0.length ≤ 9223372036854775807) {cx : Cx} (hcx : cx.base = 1) : ∀ (n : Nat) (v3 : List (Int)) (v4 : Int), (0 ≤ v4) ∧ (v3.length = a0.length) ∧ ((F11_L a0 a1.1).2 = 0) → toNat ((((F25_L a0 ((F11_L a0 a1.1).1.1, (F11_L a0 a1.1).1.2) a1.2.1 a1.2.2.1).1.length : Nat) : Int) - v4) < n → Aw.Good Try.prog none 9 (bodyPost Try.prog Try.f8 (RR cx (.v (.bool (loopF (S8_L_0 a0 a1) n (v3, v4)))) [] [])) cx [] (.l B8_L_0 n :: K8_L_0) (st8_L_0 a0 a1 (flat c3 v3) v3.length v4) := by
  intro n
  induction n with
  | zero => intro v3 v4 hi hn; exact absurd hn (Nat.not_lt_zero _)
  | succ n ih =>
    intro v3 v4 hi hn
    refine good_round ?_
    have hb1 := Build_len a0 a1.1
    have hb3 := Cho_bd a0 ((F11_L a0 a1.1).1.1, (F11_L a0 a1.1).1.2) a1.2.1 a1.2.2.1
    have hok := tbu_nods (l := a0) (leaf := a1.1) (by omega)
    have hk1 := hok.2.2
    have hk2 := hok.1.1
    try have hnd := hok.1.2.2 (toNat ((F25_L a0 ((F11_L a0 a1.1).1.1, (F11_L a0 a1.1).1.2) a1.2.1 a1.2.2.1).1.getD (toNat v4) default)) (show toNat ((F25_L a0 ((F11_L a0 a1.1).1.1, (F11_L a0 a1.1).1.2) a1.2.1 a1.2.2.1).1.getD (toNat v4) default) < (F11_L a0 a1.1).1.2.length by have _ := h2; omega)
    try (have _ := h2; dsimp only at hnd)
    cases h0 : (decide ((v4 : Int) < (((F25_L a0 ((F11_L a0 a1.1).1.1, (F11_L a0 a1.1).1.2) a1.2.1 a1.2.2.1).1.length : Nat) : Int))) with
    | true =>
     have q0 := of_decide_eq_true h0
     try have hnd := hok.1.2.2 (toNat ((F25_L a0 ((F11_L a0 a1.1).1.1, (F11_L a0 a1.1).1.2) a1.2.1 a1.2.2.1).1.getD (toNat v4) default)) (show toNat ((F25_L a0 ((F11_L a0 a1.1).1.1, (F11_L a0 a1.1).1.2) a1.2.1 a1.2.2.1).1.getD (toNat v4) default) < (F11_L a0 a1.1).1.2.length by have _ := h2; omega)
     try (have _ := h2; dsimp only at hnd)
     let t1 : List (St Try.prog) := [.d h0, .i v4 ((F25_L a0 ((F11_L a0 a1.1).1.1, (F11_L a0 a1.1).1.2) a1.2.1 a1.2.2.1).1.length), .L c3_len (F25_L a0 ((F11_L a0 a1.1).1.1, (F11_L a0 a1.1).1.2) a1.2.1 a1.2.2.1).1 v4 0 1]
     cases h1 : (decide ((((F25_L a0 ((F11_L a0 a1.1).1.1, (F11_L a0 a1.1).1.2) a1.2.1 a1.2.2.1).1.getD (toNat v4) default) : Int) < 0)) with
     | true =>
      have q1 := of_decide_eq_true h1
      try have hnd := hok.1.2.2 (toNat ((F25_L a0 ((F11_L a0 a1.1).1.1, (F11_L a0 a1.1).1.2) a1.2.1 a1.2.2.1).1.getD (toNat v4) default)) (show toNat ((F25_L a0 ((F11_L a0 a1.1).1.1, (F11_L a0 a1.1).1.2) a1.2.1 a1.2.2.1).1.getD (toNat v4) default) < (F11_L a0 a1.1).1.2.length by have _ := h2; omega)
      try (have _ := h2; dsimp only at hnd)
      have e := Eq.refl (S8_L_0 a0 a1 (v3, v4)); conv at e => rhs; simp only [S8_L_0, h0, h1, cond_true, cond_false]
      rw [loopF_s, e]
      exact rt (t1 ++ [.d h1]) [] [] hcx (by kernel_rfl)
     | false =>
      have q1 := of_decide_eq_false h1
      try have hnd := hok.1.2.2 (toNat ((F25_L a0 ((F11_L a0 a1.1).1.1, (F11_L a0 a1.1).1.2) a1.2.1 a1.2.2.1).1.getD (toNat v4) default)) (show toNat ((F25_L a0 ((F11_L a0 a1.1).1.1, (F11_L a0 a1.1).1.2) a1.2.1 a1.2.2.1).1.getD (toNat v4) default) < (F11_L a0 a1.1).1.2.length by have _ := h2; omega)
      try (have _ := h2; dsimp only at hnd)
      let t2 : List (St Try.prog) := (t1 ++ [.d h1, .i v4 ((F25_L a0 ((F11_L a0 a1.1).1.1, (F11_L a0 a1.1).1.2) a1.2.1 a1.2.2.1).1.length), .L c3_len (F25_L a0 ((F11_L a0 a1.1).1.1, (F11_L a0 a1.1).1.2) a1.2.1 a1.2.2.1).1 v4 0 1])
      cases h2 : (decide ((((F25_L a0 ((F11_L a0 a1.1).1.1, (F11_L a0 a1.1).1.2) a1.2.1 a1.2.2.1).1.getD (toNat v4) default) : Int) ≥ (((F11_L a0 a1.1).1.2.length : Nat) : Int))) with
      | true =>
       have q2 := of_decide_eq_true h2
       try have hnd := hok.1.2.2 (toNat ((F25_L a0 ((F11_L a0 a1.1).1.1, (F11_L a0 a1.1).1.2) a1.2.1 a1.2.2.1).1.getD (toNat v4) default)) (show toNat ((F25_L a0 ((F11_L a0 a1.1).1.1, (F11_L a0 a1.1).1.2) a1.2.1 a1.2.2.1).1.getD (toNat v4) default) < (F11_L a0 a1.1).1.2.length by have _ := h2; omega)
       try (have _ := h2; dsimp only at hnd)
       have e := Eq.refl (S8_L_0 a0 a1 (v3, v4)); conv at e => rhs; simp only [S8_L_0, h0, h1, h2, cond_true, cond_false]
       rw [loopF_s, e]
       exact rt (t2 ++ [.d h2]) [] [] hcx (by kernel_rfl)
      | false =>
       have q2 := of_decide_eq_false h2
       try have hnd := hok.1.2.2 (toNat ((F25_L a0 ((F11_L a0 a1.1).1.1, (F11_L a0 a1.1).1.2) a1.2.1 a1.2.2.1).1.getD (toNat v4) default)) (show toNat ((F25_L a0 ((F11_L a0 a1.1).1.1, (F11_L a0 a1.1).1.2) a1.2.1 a1.2.2.1).1.getD (toNat v4) default) < (F11_L a0 a1.1).1.2.length by have _ := h2; omega)
       try (have _ := h2; dsimp only at hnd)
       have e := Eq.refl (S8_L_0 a0 a1 (v3, v4)); conv at e => rhs; simp only [S8_L_0, h0, h1, h2, cond_true, cond_false]
       rw [loopF_s, e]
       refine en (t2 ++ [.d h2, .i v4 ((F25_L a0 ((F11_L a0 a1.1).1.1, (F11_L a0 a1.1).1.2) a1.2.1 a1.2.2.1).1.length), .L c3_len (F25_L a0 ((F11_L a0 a1.1).1.1, (F11_L a0 a1.1).1.2) a1.2.1 a1.2.2.1).1 v4 0 1, .i ((F25_L a0 ((F11_L a0 a1.1).1.1, (F11_L a0 a1.1).1.2) a1.2.1 a1.2.2.1).1.getD (toNat v4) default) ((F11_L a0 a1.1).1.2.length), .L c40_len (F11_L a0 a1.1).1.2 ((F25_L a0 ((F11_L a0 a1.1).1.1, (F11_L a0 a1.1).1.2) a1.2.1 a1.2.2.1).1.getD (toNat v4) default) 0 8]) [] [0, 5, 7, 8, 10, 11, 12, 13] [1, 2, 3, 4, 7, 5, 6] hcx B8_L_1 (K8_L_1 n) (st8_L_1 a0 a1 (flat c3 v3) (v3.length) v4 (((F11_L a0 a1.1).1.2.getD (toNat ((F25_L a0 ((F11_L a0 a1.1).1.1, (F11_L a0 a1.1).1.2) a1.2.1 a1.2.2.1).1.getD (toNat v4) default)) default).1) (((F11_L a0 a1.1).1.2.getD (toNat ((F25_L a0 ((F11_L a0 a1.1).1.1, (F11_L a0 a1.1).1.2) a1.2.1 a1.2.2.1).1.getD (toNat v4) default)) default).1) (((F11_L a0 a1.1).1.2.getD (toNat ((F25_L a0 ((F11_L a0 a1.1).1.1, (F11_L a0 a1.1).1.2) a1.2.1 a1.2.2.1).1.getD (toNat v4) default)) default).2.1) (((F11_L a0 a1.1).1.2.getD (toNat ((F25_L a0 ((F11_L a0 a1.1).1.1, (F11_L a0 a1.1).1.2) a1.2.1 a1.2.2.1).1.getD (toNat v4) default)) default).2.2.1) (((F11_L a0 a1.1).1.2.getD (toNat ((F25_L a0 ((F11_L a0 a1.1).1.1, (F11_L a0 a1.1).1.2) a1.2.1 a1.2.2.1).1.getD (toNat v4) default)) default).2.2.2.1) (((F11_L a0 a1.1).1.2.getD (toNat ((F25_L a0 ((F11_L a0 a1.1).1.1, (F11_L a0 a1.1).1.2) a1.2.1 a1.2.2.1).1.getD (toNat v4) default)) default).2.2.2.2.1.1) (((F11_L a0 a1.1).1.2.getD (toNat ((F25_L a0 ((F11_L a0 a1.1).1.1, (F11_L a0 a1.1).1.2) a1.2.1 a1.2.2.1).1.getD (toNat v4) default)) default).2.2.2.2.1.2.1) (((F11_L a0 a1.1).1.2.getD (toNat ((F25_L a0 ((F11_L a0 a1.1).1.1, (F11_L a0 a1.1).1.2) a1.2.1 a1.2.2.1).1.getD (toNat v4) default)) default).2.2.2.2.1.2.2) (((F11_L a0 a1.1).1.2.getD (toNat ((F25_L a0 ((F11_L a0 a1.1).1.1, (F11_L a0 a1.1).1.2) a1.2.1 a1.2.2.1).1.getD (toNat v4) default)) default).2.2.2.2.2)) (toNat (((F11_L a0 a1.1).1.2.getD (toNat ((F25_L a0 ((F11_L a0 a1.1).1.1, (F11_L a0 a1.1).1.2) a1.2.1 a1.2.2.1).1.getD (toNat v4) default)) default).2.1 - ((F11_L a0 a1.1).1.2.getD (toNat ((F25_L a0 ((F11_L a0 a1.1).1.1, (F11_L a0 a1.1).1.2) a1.2.1 a1.2.2.1).1.getD (toNat v4) default)) default).1) + 1) (by kernel_rfl) ?_
       exact L8_L_1 a0 a1 l0 hcx n ih (toNat (((F11_L a0 a1.1).1.2.getD (toNat ((F25_L a0 ((F11_L a0 a1.1).1.1, (F11_L a0 a1.1).1.2) a1.2.1 a1.2.2.1).1.getD (toNat v4) default)) default).2.1 - ((F11_L a0 a1.1).1.2.getD (toNat ((F25_L a0 ((F11_L a0 a1.1).1.1, (F11_L a0 a1.1).1.2) a1.2.1 a1.2.2.1).1.getD (toNat v4) default)) default).1) + 1) v3 v4 (((F11_L a0 a1.1).1.2.getD (toNat ((F25_L a0 ((F11_L a0 a1.1).1.1, (F11_L a0 a1.1).1.2) a1.2.1 a1.2.2.1).1.getD (toNat v4) default)) default).1) (((F11_L a0 a1.1).1.2.getD (toNat ((F25_L a0 ((F11_L a0 a1.1).1.1, (F11_L a0 a1.1).1.2) a1.2.1 a1.2.2.1).1.getD (toNat v4) default)) default).1) (((F11_L a0 a1.1).1.2.getD (toNat ((F25_L a0 ((F11_L a0 a1.1).1.1, (F11_L a0 a1.1).1.2) a1.2.1 a1.2.2.1).1.getD (toNat v4) default)) default).2.1) (((F11_L a0 a1.1).1.2.getD (toNat ((F25_L a0 ((F11_L a0 a1.1).1.1, (F11_L a0 a1.1).1.2) a1.2.1 a1.2.2.1).1.getD (toNat v4) default)) default).2.2.1) (((F11_L a0 a1.1).1.2.getD (toNat ((F25_L a0 ((F11_L a0 a1.1).1.1, (F11_L a0 a1.1).1.2) a1.2.1 a1.2.2.1).1.getD (toNat v4) default)) default).2.2.2.1) (((F11_L a0 a1.1).1.2.getD (toNat ((F25_L a0 ((F11_L a0 a1.1).1.1, (F11_L a0 a1.1).1.2) a1.2.1 a1.2.2.1).1.getD (toNat v4) default)) default).2.2.2.2.1.1) (((F11_L a0 a1.1).1.2.getD (toNat ((F25_L a0 ((F11_L a0 a1.1).1.1, (F11_L a0 a1.1).1.2) a1.2.1 a1.2.2.1).1.getD (toNat v4) default)) default).2.2.2.2.1.2.1) (((F11_L a0 a1.1).1.2.getD (toNat ((F25_L a0 ((F11_L a0 a1.1).1.1, (F11_L a0 a1.1).1.2) a1.2.1 a1.2.2.1).1.getD (toNat v4) default)) default).2.2.2.2.1.2.2) (((F11_L a0 a1.1).1.2.getD (toNat ((F25_L a0 ((F11_L a0 a1.1).1.1, (F11_L a0 a1.1).1.2) a1.2.1 a1.2.2.1).1.getD (toNat v4) default)) default).2.2.2.2.2) (by refine ⟨?_, ?_, ?_, ?_, ?_, ?_, ?_, ?_, ?_, ?_, ?_⟩ <;> (try simp only [Ls]) <;> first | omega | assumption | exact hi.2.1 | exact hi.2.2.1 | exact hi.2.2.2.1 | exact hi.2.2.2.2.1 | exact hi.2.2.2.2.2.1 | exact hi.2.2.2.2.2.2.1 | exact hi.2.2.2.2.2.2.2.1 | exact hi.2.2.2.2.2.2.2.2.1 | exact hi.2.2.2.2.2.2.2.2.2.1 | exact hi.2.2.2.2.2.2.2.2.2.2.1 | simp) (by (try simp only [Ls]); omega)
    | false =>
     have q0 := of_decide_eq_false h0
     try have hnd := hok.1.2.2 (toNat ((F25_L a0 ((F11_L a0 a1.1).1.1, (F11_L a0 a1.1).1.2) a1.2.1 a1.2.2.1).1.getD (toNat v4) default)) (show toNat ((F25_L a0 ((F11_L a0 a1.1).1.1, (F11_L a0 a1.1).1.2) a1.2.1 a1.2.2.1).1.getD (toNat v4) default) < (F11_L a0 a1.1).1.2.length by have _ := h2; omega)
     try (have _ := h2; dsimp only at hnd)
     have e := Eq.refl (S8_L_0 a0 a1 (v3, v4)); conv at e => rhs; simp only [S8_L_0, h0, cond_true, cond_false]
     rw [loopF_s, e]
     refine en [.d h0] [] [0, 8, 10, 14] [3, 4] hcx B8_L_2 (K8_L_2) (st8_L_2 a0 a1 (flat c3 v3) (v3.length) 0) (toNat ((((F25_L a0 ((F11_L a0 a1.1).1.1, (F11_L a0 a1.1).1.2) a1.2.1 a1.2.2.1).2.1.length : Nat) : Int) - 0) + 1) (by kernel_rfl) ?_
     exact L8_L_2 a0 a1 l0 hcx (toNat ((((F25_L a0 ((F11_L a0 a1.1).1.1, (F11_L a0 a1.1).1.2) a1.2.1 a1.2.2.1).2.1.length : Nat) : Int) - 0) + 1) v3 0 (by refine ⟨?_, ?_⟩ <;> (try simp only [Ls]) <;> first | omega | assumption | simp) (by (try simp only [Ls]); omega)

def F8_L (a0 : TyL) (a1 : Int × (Int × Int × Int) × Int × Int × Int) : Bool :=
  (bif (F14_L a0) then
   F10
  else
   (bif (((F11_L a0 a1.1).2 : Int) != 0) then
    (bif (((((F25_L a0 ((F11_L a0 a1.1).1.1, (F11_L a0 a1.1).1.2) a1.2.1 a1.2.2.1).1.length : Nat) : Int) : Int) == 0) then
     (bif (((((F25_L a0 ((F11_L a0 a1.1).1.1, (F11_L a0 a1.1).1.2) a1.2.1 a1.2.2.1).2.1.length : Nat) : Int) : Int) == 0) then
      F10
     else
      false)
    else
     false)
   else
    (bif (((F25_L a0 ((F11_L a0 a1.1).1.1, (F11_L a0 a1.1).1.2) a1.2.1 a1.2.2.1).2.2 : Int) != 0) then
     (bif (((((F25_L a0 ((F11_L a0 a1.1).1.1, (F11_L a0 a1.1).1.2) a1.2.1 a1.2.2.1).1.length : Nat) : Int) : Int) == 0) then
      (bif (((((F25_L a0 ((F11_L a0 a1.1).1.1, (F11_L a0 a1.1).1.2) a1.2.1 a1.2.2.1).2.1.length : Nat) : Int) : Int) == 0) then
       F10
      else
       false)
     else
      false)
    else
     (loopF (S8_L_0 a0 a1) (toNat ((((F25_L a0 ((F11_L a0 a1.1).1.1, (F11_L a0 a1.1).1.2) a1.2.1 a1.2.2.1).1.length : Nat) : Int) - 0) + 1) ((List.replicate (toNat ((a0.length : Nat) : Int)) 0), 0)))))

theorem C8_L (a0 : TyL) (a1 : Int × (Int × Int × Int) × Int × Int × Int) (l0 : a0.length ≤ 9223372036854775807) : Con Try.prog 8 [(.s 0 0 a0.length 10), (.a [(iv a1.1), (iv a1.2.1.1), (iv a1.2.1.2.1), (iv a1.2.1.2.2), (iv a1.2.2.1), (iv a1.2.2.2.1), (iv a1.2.2.2.2)])] [(.live false true (flat c81 a0))] (.v (.bool (F8_L a0 a1))) [] := by
  refine con_s Try.func8 (by kernel_rfl) fun cx hcx => ?_
  have hb1 := Build_len a0 a1.1
  have hb3 := Cho_bd a0 ((F11_L a0 a1.1).1.1, (F11_L a0 a1.1).1.2) a1.2.1 a1.2.2.1
  try have hok := tbu_nods (l := a0) (leaf := a1.1) (by have _ := h1; omega)
  try have hk1 := (fun _ => hok.2.2) h1
  let t0 : List (St Try.prog) := [.c [0] (C14_L a0 (by omega))]
  cases h0 : (F14_L a0) with
  | true =>
   try have hok := tbu_nods (l := a0) (leaf := a1.1) (by have _ := h1; omega)
   try have hk1 := (fun _ => hok.2.2) h1
   have e := Eq.refl (F8_L a0 a1); conv at e => rhs; simp only [F8_L, h0, cond_true, cond_false]
   rw [e]
   exact rt (t0 ++ [.d h0, .c [] (C10)]) [] [] hcx (by kernel_rfl)
  | false =>
   try have hok := tbu_nods (l := a0) (leaf := a1.1) (by have _ := h1; omega)
   try have hk1 := (fun _ => hok.2.2) h1
   let t1 : List (St Try.prog) := (t0 ++ [.d h0, .c [0] (C11_L a0 a1.1 (by omega)), .c [0, 2, 3] (C25_L a0 ((F11_L a0 a1.1).1.1, (F11_L a0 a1.1).1.2) a1.2.1 a1.2.2.1 (by omega) (by (try simp only [Lt]); omega) (by (try simp only [Lt]); omega))])
   cases h1 : (((F11_L a0 a1.1).2 : Int) != 0) with
   | true =>
    have q1 := bne_iff_ne.1 h1
    try have hok := tbu_nods (l := a0) (leaf := a1.1) (by have _ := h1; omega)
    try have hk1 := (fun _ => hok.2.2) h1
    let t2 : List (St Try.prog) := (t1 ++ [.d h1])
    cases h2 : (((((F25_L a0 ((F11_L a0 a1.1).1.1, (F11_L a0 a1.1).1.2) a1.2.1 a1.2.2.1).1.length : Nat) : Int) : Int) == 0) with
    | true =>
     have q2 := eq_of_beq h2
     try have hok := tbu_nods (l := a0) (leaf := a1.1) (by have _ := h1; omega)
     try have hk1 := (fun _ => hok.2.2) h1
     let t3 : List (St Try.prog) := (t2 ++ [.d h2])
     cases h3 : (((((F25_L a0 ((F11_L a0 a1.1).1.1, (F11_L a0 a1.1).1.2) a1.2.1 a1.2.2.1).2.1.length : Nat) : Int) : Int) == 0) with
     | true =>
      have q3 := eq_of_beq h3
      try have hok := tbu_nods (l := a0) (leaf := a1.1) (by have _ := h1; omega)
      try have hk1 := (fun _ => hok.2.2) h1
      have e := Eq.refl (F8_L a0 a1); conv at e => rhs; simp only [F8_L, h0, h1, h2, h3, cond_true, cond_false]
      rw [e]
      exact rt (t3 ++ [.d h3, .c [] (C10)]) [] [] hcx (by kernel_rfl)
     | false =>
      have q3 := ne_of_beq_false h3
      try have hok := tbu_nods (l := a0) (leaf := a1.1) (by have _ := h1; omega)
      try have hk1 := (fun _ => hok.2.2) h1
      have e := Eq.refl (F8_L a0 a1); conv at e => rhs; simp only [F8_L, h0, h1, h2, h3, cond_true, cond_false]
      rw [e]
      exact rt (t3 ++ [.d h3]) [] [] hcx (by kernel_rfl)
    | false =>
     have q2 := ne_of_beq_false h2
     try have hok := tbu_nods (l := a0) (leaf := a1.1) (by have _ := h1; omega)
     try have hk1 := (fun _ => hok.2.2) h1
     have e := Eq.refl (F8_L a0 a1); conv at e => rhs; simp only [F8_L, h0, h1, h2, cond_true, cond_false]
     rw [e]
     exact rt (t2 ++ [.d h2]) [] [] hcx (by kernel_rfl)
   | false =>
    have q1 := bne_eq_false_iff_eq.1 h1
    try have hok := tbu_nods (l := a0) (leaf := a1.1) (by have _ := h1; omega)
    try have hk1 := (fun _ => hok.2.2) h1
    let t2 : List (St Try.prog) := (t1 ++ [.d h1])
    cases h2 : (((F25_L a0 ((F11_L a0 a1.1).1.1, (F11_L a0 a1.1).1.2) a1.2.1 a1.2.2.1).2.2 : Int) != 0) with
    | true =>
     have q2 := bne_iff_ne.1 h2
     try have hok := tbu_nods (l := a0) (leaf := a1.1) (by have _ := h1; omega)
     try have hk1 := (fun _ => hok.2.2) h1
     let t3 : List (St Try.prog) := (t2 ++ [.d h2])
     cases h3 : (((((F25_L a0 ((F11_L a0 a1.1).1.1, (F11_L a0 a1.1).1.2) a1.2.1 a1.2.2.1).1.length : Nat) : Int) : Int) == 0) with
     | true =>
      have q3 := eq_of_beq h3
      try have hok := tbu_nods (l := a0) (leaf := a1.1) (by have _ := h1; omega)
      try have hk1 := (fun _ => hok.2.2) h1
      let t4 : List (St Try.prog) := (t3 ++ [.d h3])
      cases h4 : (((((F25_L a0 ((F11_L a0 a1.1).1.1, (F11_L a0 a1.1).1.2) a1.2.1 a1.2.2.1).2.1.length : Nat) : Int) : Int) == 0) with
      | true =>
       have q4 := eq_of_beq h4
       try have hok := tbu_nods (l := a0) (leaf := a1.1) (by have _ := h1; omega)
       try have hk1 := (fun _ => hok.2.2) h1
       have e := Eq.refl (F8_L a0 a1); conv at e => rhs; simp only [F8_L, h0, h1, h2, h3, h4, cond_true, cond_false]
       rw [e]
       exact rt (t4 ++ [.d h4, .c [] (C10)]) [] [] hcx (by kernel_rfl)
      | false =>
       have q4 := ne_of_beq_false h4
       try have hok := tbu_nods (l := a0) (leaf := a1.1) (by have _ := h1; omega)
       try have hk1 := (fun _ => hok.2.2) h1
       have e := Eq.refl (F8_L a0 a1); conv at e => rhs; simp only [F8_L, h0, h1, h2, h3, h4, cond_true, cond_false]
       rw [e]
       exact rt (t4 ++ [.d h4]) [] [] hcx (by kernel_rfl)
     | false =>
      have q3 := ne_of_beq_false h3
      try have hok := tbu_nods (l := a0) (leaf := a1.1) (by have _ := h1; omega)
      try have hk1 := (fun _ => hok.2.2) h1
      have e := Eq.refl (F8_L a0 a1); conv at e => rhs; simp only [F8_L, h0, h1, h2, h3, cond_true, cond_false]
      rw [e]
      exact rt (t3 ++ [.d h3]) [] [] hcx (by kernel_rfl)
    | false =>
     have q2 := bne_eq_false_iff_eq.1 h2
     try have hok := tbu_nods (l := a0) (leaf := a1.1) (by have _ := h1; omega)
     try have hk1 := (fun _ => hok.2.2) h1
     have e := Eq.refl (F8_L a0 a1); conv at e => rhs; simp only [F8_L, h0, h1, h2, cond_true, cond_false]
     rw [e]
     refine en (t2 ++ [.d h2, .Z c3 0 [(iv 0)] ((a0.length : Nat) : Int) 8]) [] [0, 5, 7, 8, 10, 11] [4, 5, 6, 7, 2, 3] hcx B8_L_0 (K8_L_0) (st8_L_0 a0 a1 (flat c3 (List.replicate (toNat ((a0.length : Nat) : Int)) 0)) (toNat ((a0.length : Nat) : Int)) 0) (toNat ((((F25_L a0 ((F11_L a0 a1.1).1.1, (F11_L a0 a1.1).1.2) a1.2.1 a1.2.2.1).1.length : Nat) : Int) - 0) + 1) (by kernel_rfl) ?_
     have q := L8_L_0 a0 a1 l0 hcx (toNat ((((F25_L a0 ((F11_L a0 a1.1).1.1, (F11_L a0 a1.1).1.2) a1.2.1 a1.2.2.1).1.length : Nat) : Int) - 0) + 1) (List.replicate (toNat ((a0.length : Nat) : Int)) 0) 0 (by refine ⟨?_, ?_, ?_⟩ <;> (try simp only [Ls]) <;> first | omega | assumption | simp) (by (try simp only [Ls]); omega)
     simp only [List.length_replicate] at q
     exact q


def inc (D : List Int) (j : Int) : List Int := D.set (toNat j) (W (D.getD (toNat j) default + 1))
def prt (t : TR) (i : Int) : List Int := Aw.part t.1 (t.2.getD (toNat i) default).1 (t.2.getD (toNat i) default).2.1
def occ (t : TR) (far pan : List Int) : List Int := far.flatMap (prt t) ++ pan
theorem part_app {l : List Int} {f c u : Int} (h : 0 ≤ f ∧ f ≤ c ∧ c ≤ u) : Aw.part l f c ++ Aw.part l c u = Aw.part l f u := by
  unfold Aw.part
  rw [show toNat u - toNat f = (toNat c - toNat f) + (toNat u - toNat c) by omega, List.take_add, List.drop_drop, show toNat f + (toNat c - toNat f) = toNat c by omega]
theorem part_one {l : List Int} {k u : Int} (h : 0 ≤ k ∧ k < u ∧ u ≤ l.length) : Aw.part l k u = l.getD (toNat k) default :: Aw.part l (k + 1) u := by
  unfold Aw.part
  have h1 : toNat k < l.length := by omega
  rw [List.drop_eq_getElem_cons h1, show toNat u - toNat k = (toNat u - toNat (k + 1)) + 1 by omega, List.take_succ_cons, List.getD_eq_getElem?_getD, List.getElem?_eq_getElem h1, show toNat (k + 1) = toNat k + 1 by omega]
  rfl
theorem part_all {l : List Int} : Aw.part l 0 (l.length : Int) = l := by unfold Aw.part; simp
theorem vis_occ {t : TR} {x : Int × Int × Int} {sep : Int} {a m : Nat} {f u h : Int} (H : TRE t.2 a m f u h) : ∀ (n : Nat) (far pan : List Int), 0 ≤ f → t.2.length - a < n →
    (∀ i ∈ (R67 n (a : Int) t x sep far pan).1, i ∈ far ∨ (0 ≤ i ∧ i < t.2.length)) ∧ (occ t (R67 n (a : Int) t x sep far pan).1 (R67 n (a : Int) t x sep far pan).2).Perm (occ t far pan ++ Aw.part t.1 f u) := by
  have hfar : ∀ (a : Nat) (f u : Int) (far pan : List Int), a < t.2.length → (t.2.getD a default).1 = f → (t.2.getD a default).2.1 = u → (∀ i ∈ far ++ [(a : Int)], i ∈ far ∨ (0 ≤ i ∧ i < t.2.length)) ∧ (occ t (far ++ [(a : Int)]) pan).Perm (occ t far pan ++ Aw.part t.1 f u) := by
    intro a f u far pan h1 h2 h3
    refine ⟨fun i hi => ?_, ?_⟩
    · rcases List.mem_append.1 hi with hi | hi
      · exact .inl hi
      · rw [List.mem_singleton.1 hi]; exact .inr ⟨by omega, by omega⟩
    · have e : prt t (a : Int) = Aw.part t.1 f u := by unfold prt; rw [Int.toNat_natCast, h2, h3]
      unfold occ
      rw [List.flatMap_append, List.flatMap_singleton, e, List.append_assoc, List.append_assoc]
      exact List.Perm.append_left _ List.perm_append_comm
  induction H with
  | @leaf a f u h1 h2 h3 h4 h5 h6 =>
    intro n far pan h0 hn
    obtain ⟨n, rfl⟩ : ∃ q, n = q + 1 := ⟨n - 1, by omega⟩
    by_cases hq : FARQ t x sep a
    · rw [vis_far hq]; exact hfar a f u far pan h1 h3 h4
    · rw [vis_leaf hq (by omega), h3, h4]
      exact ⟨fun i hi => .inl hi, by unfold occ; rw [List.append_assoc]⟩
  | @node a m1 m2 f c u h1 h2 g1 g2 g3 g4 g5 b1 b2 i1 i2 =>
    intro n far pan h0 hn
    obtain ⟨n, rfl⟩ : ∃ q, n = q + 1 := ⟨n - 1, by omega⟩
    have l1 := tre_le b1
    have l2 := tre_le b2
    by_cases hq : FARQ t x sep a
    · rw [vis_far hq]; exact hfar a f u far pan g1 g2 g3
    · rw [vis_node hq (by omega), g4, g5]
      obtain ⟨j1, j2⟩ := i1 n far pan h0 (by omega)
      obtain ⟨k1, k2⟩ := i2 n (R67 n ((a + 1 : Nat) : Int) t x sep far pan).1 (R67 n ((a + 1 : Nat) : Int) t x sep far pan).2 (by omega) (by omega)
      refine ⟨fun i hi => ?_, ?_⟩
      · rcases k1 i hi with k1 | k1
        · exact j1 i k1
        · exact .inr k1
      · refine k2.trans ((j2.append_right _).trans ?_)
        rw [List.append_assoc, part_app (by omega)]
theorem cho_occ {l : LCH} {leaf : Int} (hv : VCH l) (h1 : 1 ≤ leaf) (x : Int × Int × Int) (sep : Int) :
    (∀ i ∈ (F51 (BT l leaf) x sep).1, 0 ≤ i ∧ i < (BT l leaf).2.length) ∧ (occ (BT l leaf) (F51 (BT l leaf) x sep).1 (F51 (BT l leaf) x sep).2).Perm (nums l.length) := by
  have hb := BT_len l hv.1 h1
  have hp := BT_perm l h1
  rcases BT_tre l h1 with ⟨h0, e⟩ | ⟨hh, H⟩
  · rw [e, h0]; exact ⟨fun i hi => (by cases hi), List.Perm.refl _⟩
  · have hw := tre_le H
    unfold F51
    rw [decide_eq_true (show (((BT l leaf).2.length : Nat) : Int) > 0 by omega), cond_true]
    simp only [S51_j4, F67]
    obtain ⟨k1, k2⟩ := vis_occ (x := x) (sep := sep) H ((BT l leaf).2.length - toNat 0 + 1) [] [] (Int.le_refl _) (by simp)
    refine ⟨fun i hi => ?_, ?_⟩
    · rcases k1 i hi with k | k
      · cases k
      · exact k
    · have e : Aw.part (BT l leaf).1 0 (l.length : Int) = (BT l leaf).1 := by rw [← hb.1]; exact part_all
      rw [e] at k2
      exact k2.trans hp
theorem inc_len (D : List Int) (j : Int) : (inc D j).length = D.length := List.length_set
theorem incs_len : ∀ (L D : List Int), (L.foldl inc D).length = D.length
  | [], _ => rfl
  | j :: L, D => by rw [List.foldl_cons, incs_len L, inc_len]
theorem incs_cnt : ∀ (L D : List Int) (i : Nat), (∀ j ∈ L, 0 ≤ j ∧ j < D.length) → i < D.length → 0 ≤ D.getD i default → D.getD i default + L.length ≤ 1048576 → (L.foldl inc D).getD i default = D.getD i default + (L.count (i : Int) : Nat)
  | [], _, _, _, _, _, _ => by simp
  | j :: L, D, i, h, hi, h0, h1 => by
    have hj := h j (List.mem_cons_self)
    simp only [List.length_cons] at h1
    rw [List.foldl_cons, List.count_cons]
    by_cases e : j = (i : Int)
    · have e2 : (inc D j).getD i default = D.getD i default + 1 := by
        unfold inc
        rw [e, Int.toNat_natCast, gset hi, W_eq (by omega) (by omega)]
      rw [incs_cnt L (inc D j) i (fun k hk => by rw [inc_len]; exact h k (List.mem_cons_of_mem _ hk)) (by rw [inc_len]; exact hi) (by omega) (by omega), e2, if_pos (by rw [e]; exact beq_self_eq_true _)]
      omega
    · have e2 : (inc D j).getD i default = D.getD i default := by
        unfold inc
        rw [gsne (by omega)]
      rw [incs_cnt L (inc D j) i (fun k hk => by rw [inc_len]; exact h k (List.mem_cons_of_mem _ hk)) (by rw [inc_len]; exact hi) (by omega) (by omega), e2, if_neg (by rw [beq_iff_eq]; exact e)]
      omega
theorem nums_cnt (n i : Nat) (h : i < n) : (nums n).count (i : Int) = 1 := by
  induction n with
  | zero => omega
  | succ n ih =>
    rw [nums_succ, List.count_append]
    by_cases e : i = n
    · subst e
      rw [List.count_eq_zero.2 (fun hm => by have := nums_inr i _ hm; omega)]
      simp
    · rw [ih (by omega), List.count_eq_zero.2 (fun hm => by have := List.mem_singleton.1 hm; omega)]
theorem incs_one {n : Nat} (hn : n ≤ 96) {L : List Int} (h : L.Perm (nums n)) : ∀ i, i < n → (L.foldl inc (List.replicate n 0)).getD i default = 1 := by
  intro i hi
  have hl := h.length_eq
  rw [nums_len] at hl
  have hz : (List.replicate n (0 : Int)).getD i default = 0 := by
    rw [List.getD_eq_getElem?_getD, List.getElem?_replicate]; split <;> rfl
  rw [incs_cnt L (List.replicate n 0) i (fun j hj => by rw [List.length_replicate]; exact nums_inr n j (h.mem_iff.1 hj)) (by rw [List.length_replicate]; exact hi) (by omega) (by omega), hz, h.count_eq, nums_cnt n i hi]
  rfl

end Go.Proofs.Ytnbpiejjeeomkaa
