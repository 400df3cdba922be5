/-
  Parts of the proofs of the laws: the executor, what functions of the program compute, and that it is what the statements ask. No premise.
-/
import Derived.Test.YtidhogejnafhaaaGreatVPfl4
namespace Go.Proofs.YtidhogejnafhaaaGreat
open Go.Proofs Go.Aw Go.RowKit
set_option maxRecDepth 100000
set_option linter.unusedVariables false
set_option linter.unusedSimpArgs false

/-! ### A valid mesh -/
theorem okl (m : ME) (h64 : m.1.length ≤ 64) : ∀ (n : Nat) (v : List Bool) (i : Int), 0 ≤ i → Int.toNat (((m.2.length : Nat) : Int) - i) < n → loopF (S60_0 m) n (v, i) = 0 → ∀ j : Int, i ≤ j → j < ((m.2.length : Nat) : Int) → F106 m (m.2.getD (Int.toNat j) default) = 0 := by
  intro n
  induction n with
  | zero => intro v i _ h; omega
  | succ n ih =>
    intro v i hi hn h j h1 h2
    have hlt : i < ((m.2.length : Nat) : Int) := by omega
    cases hf : ((F106 (m.1, m.2) (m.2.getD (Int.toNat i) default) : Int) != 0) with
    | true =>
      have e : S60_0 m (v, i) = .inr (F106 (m.1, m.2) (m.2.getD (Int.toNat i) default)) := by
        simp only [S60_0]; rw [decide_eq_true hlt, cond_true, hf, cond_true]
      rw [loopF_inr e] at h
      exact absurd h (bne_iff_ne.1 hf)
    | false =>
      by_cases hj : j = i
      · subst hj; exact bne_eq_false_iff_eq.1 hf
      · have e : S60_0 m (v, i) = .inl ((((v.set (Int.toNat (m.2.getD (Int.toNat i) default).1) true).set (Int.toNat (m.2.getD (Int.toNat i) default).2.1) true).set (Int.toNat (m.2.getD (Int.toNat i) default).2.2) true), (i + 1)) := by
          simp only [S60_0]; rw [decide_eq_true hlt, cond_true, hf, cond_false]
        rw [loopF_inl e] at h
        exact ih _ (i + 1) (by omega) (by omega) h j (by omega) h2
theorem val_parts {m : ME} (h : F60 m = 0) : m.1.length ≤ 64 ∧ 1 ≤ m.2.length ∧ m.2.length ≤ 96 ∧ F105 m = 0 ∧ ∀ j : Int, 0 ≤ j → j < ((m.2.length : Nat) : Int) → F106 m (m.2.getD (Int.toNat j) default) = 0 := by
  unfold F60 at h
  by_cases h1 : ((m.1.length : Nat) : Int) > 64
  · rw [decide_eq_true h1, cond_true] at h; exact absurd h (by decide)
  · rw [decide_eq_false h1, cond_false] at h
    cases h2 : (!F104 ((m.2.length : Nat) : Int) 1 96) with
    | true => rw [h2, cond_true] at h; exact absurd h (by decide)
    | false =>
      have g := from_p h2
      rw [h2, cond_false] at h
      cases h3 : ((F105 (m.1, m.2) : Int) != 0) with
      | true => rw [h3, cond_true] at h; exact absurd h (bne_iff_ne.1 h3)
      | false =>
        rw [h3, cond_false] at h
        exact ⟨by omega, by omega, by omega, bne_eq_false_iff_eq.1 h3, fun j h1 h2 => okl m (by omega) _ _ 0 (Int.le_refl 0) (by omega) h j h1 h2⟩
theorem val_ok {m : ME} (h : ((F60 m : Int) != 0) = false) : okTo m m.2.length ∧ m.2.length ≤ 96 := by
  obtain ⟨h1, _, h3, _, h4⟩ := val_parts (bne_eq_false_iff_eq.1 h)
  exact ⟨fun i g1 g2 => face_in (m := m) (by rw [h4 i g1 g2]; rfl) h1, h3⟩
theorem valr_ok {m : ME} (h : ((F67 m : Int) != 0) = false) : okTo m m.2.length ∧ m.2.length ≤ 96 := by
  rw [← val_eq] at h; exact val_ok h

/-- facet/shape.Panels -/
def F24 (a0 : (List (Int × Int × Int)) × List (Int × Int × Int)) : (List ((Int × Int × Int) × (Int × Int × Int) × Int × Int × Int)) × Int :=
  (bif (((F60 (a0.1, a0.2)) : Int) != 0) then
   (([] : List ((Int × Int × Int) × (Int × Int × Int) × Int × Int × Int)), (F60 (a0.1, a0.2)))
  else
   ((F61 (a0.1, a0.2)), 0))

theorem C24 (a0 : (List (Int × Int × Int)) × List (Int × Int × Int)) (l0_1 : a0.1.length ≤ 9223372036854775807) (l0_2 : a0.2.length ≤ 9223372036854775807) : Con Tryz.prog 24 [(.a [(.s 0 0 a0.1.length 3), (.s 1 0 a0.2.length 3)])] [(.live false true (flat c27 a0.1)), (.live false true (flat c119 a0.2))] (.t [(.s 2 0 (F24 a0).1.length 9), (iv (F24 a0).2)]) [(.live true true (flat c57 (F24 a0).1))] := by
  refine con_s Tryz.func24 (by kernel_rfl) fun cx hcx => ?_
  let t0 : List (St Tryz.prog) := [.c [0, 1] (C60 (a0.1, a0.2) (by (try simp only [List.length_append, List.length_cons, List.length_nil, Int.toNat_zero]); omega) (by (try simp only [List.length_append, List.length_cons, List.length_nil, Int.toNat_zero]); omega))]
  cases h0 : (((F60 (a0.1, a0.2)) : Int) != 0) with
  | true =>
   have q0 := bne_iff_ne.1 h0
   have e := Eq.refl (F24 a0); conv at e => rhs; simp only [F24, h0, cond_true, cond_false]
   rw [e]
   exact rt (t0 ++ [.d h0]) [.slot 2 9] [3] hcx (by kernel_rfl)
  | false =>
   have q0 := bne_eq_false_iff_eq.1 h0
   have e := Eq.refl (F24 a0); conv at e => rhs; simp only [F24, h0, cond_true, cond_false]
   rw [e]
   exact rt (t0 ++ [.d h0, .c [0, 1] (C61 (a0.1, a0.2) (by (try simp only [List.length_append, List.length_cons, List.length_nil, Int.toNat_zero]); omega) (by (try simp only [List.length_append, List.length_cons, List.length_nil, Int.toNat_zero]); omega) (val_ok h0).1 (val_ok h0).2)]) [] [3] hcx (by kernel_rfl)

noncomputable def B28_0 : Code := (loopAtD [1, 1, 1, 0, 1] [] (bodyOf Tryz.f28) []).1
noncomputable def K28_0 : List K := (loopAtD [1, 1, 1, 0, 1] [] (bodyOf Tryz.f28) []).2

def st28_0 (a0 : (List (Int × Int × Int)) × List (Int × Int × Int)) (v2c : List SV) (v2n : Nat) (v3 : Int) : LS := ⟨slN 26 [(1, (.p 2 0)), (5, (.s 3 0 v2n 9)), (6, (iv v3))], [(.live false true (flat c27 a0.1)), (.live false true (flat c119 a0.2)), (.live true false [(.s 0 0 a0.1.length 3), (.s 1 0 a0.2.length 3)]), (.live true true v2c)]⟩

/-- a round of loop 0 of facet/facetref02.Panels; the variables: v2 = s5, v3 = s6 -/
def S28_0 (a0 : (List (Int × Int × Int)) × List (Int × Int × Int)) : (List ((Int × Int × Int) × (Int × Int × Int) × Int × Int × Int)) × Int → ((List ((Int × Int × Int) × (Int × Int × Int) × Int × Int × Int)) × Int) ⊕ ((List ((Int × Int × Int) × (Int × Int × Int) × Int × Int × Int)) × Int)
  | (v2, v3) =>
   (bif (decide ((v3 : Int) < ((a0.2.length : Nat) : Int))) then
    (.inl ((v2 ++ [(F68 (a0.1, a0.2) v3)]), (v3 + 1)))
   else
    (.inr (v2, 0)))

set_option maxHeartbeats 4000000 in
theorem L28_0 (a0 : (List (Int × Int × Int)) × List (Int × Int × Int)) (l0_1 : a0.1.length ≤ 9223372036854775807) (l0_2 : a0.2.length ≤ 9223372036854775807) {cx : Cx} (hcx : cx.base = 2) : ∀ (n : Nat) (v2 : List ((Int × Int × Int) × (Int × Int × Int) × Int × Int × Int)) (v3 : Int), (0 ≤ v3) ∧ (okTo a0 a0.2.length) ∧ (a0.2.length ≤ 96) ∧ (v2.length = Int.toNat v3) ∧ (v3 ≤ a0.2.length) → Int.toNat (((a0.2.length : Nat) : Int) - v3) < n → Aw.Good Tryz.prog none 9 (bodyPost Tryz.prog Tryz.f28 (RR cx (.t [(.s 2 0 (loopF (S28_0 a0) n (v2, v3)).1.length 9), (iv (loopF (S28_0 a0) n (v2, v3)).2)]) [(.live true true (flat c57 (loopF (S28_0 a0) n (v2, v3)).1))] [])) cx [] (.l B28_0 n :: K28_0) (st28_0 a0 (flat c57 v2) v2.length v3) := by
  intro n
  induction n with
  | zero => intro v2 v3 hi hn; exact absurd hn (Nat.not_lt_zero _)
  | succ n ih =>
    intro v2 v3 hi hn
    refine good_round ?_
    cases h0 : (decide ((v3 : Int) < ((a0.2.length : Nat) : Int))) with
    | true =>
     have q0 := of_decide_eq_true h0
     have e := Eq.refl (S28_0 a0 (v2, v3)); conv at e => rhs; simp only [S28_0, h0, cond_true, cond_false]
     rw [loopF_inl e]
     refine ba [.d h0, .c [0, 1] (C68 (a0.1, a0.2) v3 (by (try simp only [List.length_append, List.length_cons, List.length_nil, Int.toNat_zero]); omega) (by (try simp only [List.length_append, List.length_cons, List.length_nil, Int.toNat_zero]); omega) (by show 0 ≤ _ ∧ _ < ((a0.2.length : Nat) : Int); omega) (okTo_get hi.2.1 (by omega) (by omega))), .p (show ((flat c57 v2).length = v2.length * 9 ∧ v2.length + 1 ≤ 2 ^ 40 ∧ (v2.length + 1) * 72 ≤ 2 ^ 47) from app_ok c57_len (by omega) (by omega))] [] [1, 5, 6] [2, 5] hcx (m := n) B28_0 (K28_0) (st28_0 a0 (flat c57 v2 ++ (k9 (F68 (a0.1, a0.2) v3))) (v2.length + 1) (W (v3 + 1))) (by kernel_rfl) ?_
     have z0 : (W (v3 + 1)) = (v3 + 1) := W_eq (by omega) (by omega)
     have z1 : (flat c57 v2 ++ (k9 (F68 (a0.1, a0.2) v3))) = (flat c57 (v2 ++ [(F68 (a0.1, a0.2) v3)])) := (flat_append (c := c57) (l := v2) (m := [(F68 (a0.1, a0.2) v3)])).symm
     have z2 : (v2.length + 1) = (v2 ++ [(F68 (a0.1, a0.2) v3)]).length := len_app v2 [(F68 (a0.1, a0.2) v3)] rfl
     rw [z0, z1, z2]
     exact ih (v2 ++ [(F68 (a0.1, a0.2) v3)]) (v3 + 1) (by refine ⟨?_, ?_, ?_, ?_, ?_⟩ <;> first | omega | assumption | exact hi.2.1 | (simp only [List.length_append, List.length_cons, List.length_nil, Int.toNat_zero] <;> omega)) (by (try simp only [List.length_append, List.length_cons, List.length_nil, Int.toNat_zero]); omega)
    | false =>
     have q0 := of_decide_eq_false h0
     have e := Eq.refl (S28_0 a0 (v2, v3)); conv at e => rhs; simp only [S28_0, h0, cond_true, cond_false]
     rw [loopF_s, e]
     exact rt [.d h0] [] [3] hcx (by kernel_rfl)

/-- facet/facetref02.Panels -/
def F28 (a0 : (List (Int × Int × Int)) × List (Int × Int × Int)) : (List ((Int × Int × Int) × (Int × Int × Int) × Int × Int × Int)) × Int :=
  (bif (((F67 (a0.1, a0.2)) : Int) != 0) then
   (([] : List ((Int × Int × Int) × (Int × Int × Int) × Int × Int × Int)), (F67 (a0.1, a0.2)))
  else
   (loopF (S28_0 a0) (Int.toNat (((a0.2.length : Nat) : Int) - 0) + 1) (([] : List ((Int × Int × Int) × (Int × Int × Int) × Int × Int × Int)), 0)))

theorem C28 (a0 : (List (Int × Int × Int)) × List (Int × Int × Int)) (l0_1 : a0.1.length ≤ 9223372036854775807) (l0_2 : a0.2.length ≤ 9223372036854775807) : Con Tryz.prog 28 [(.a [(.s 0 0 a0.1.length 3), (.s 1 0 a0.2.length 3)])] [(.live false true (flat c27 a0.1)), (.live false true (flat c119 a0.2))] (.t [(.s 2 0 (F28 a0).1.length 9), (iv (F28 a0).2)]) [(.live true true (flat c57 (F28 a0).1))] := by
  refine con_s Tryz.func28 (by kernel_rfl) fun cx hcx => ?_
  try have hv0 : okTo a0 a0.2.length := (valr_ok h0).1
  try have hn0 : a0.2.length ≤ 96 := (valr_ok h0).2
  let t0 : List (St Tryz.prog) := [.c [0, 1] (C67 (a0.1, a0.2) (by (try simp only [List.length_append, List.length_cons, List.length_nil, Int.toNat_zero]); omega) (by (try simp only [List.length_append, List.length_cons, List.length_nil, Int.toNat_zero]); omega))]
  cases h0 : (((F67 (a0.1, a0.2)) : Int) != 0) with
  | true =>
   have q0 := bne_iff_ne.1 h0
   try have hv0 : okTo a0 a0.2.length := (valr_ok h0).1
   try have hn0 : a0.2.length ≤ 96 := (valr_ok h0).2
   have e := Eq.refl (F28 a0); conv at e => rhs; simp only [F28, h0, cond_true, cond_false]
   rw [e]
   exact rt (t0 ++ [.d h0]) [.slot 2 9] [3] hcx (by kernel_rfl)
  | false =>
   have q0 := bne_eq_false_iff_eq.1 h0
   try have hv0 : okTo a0 a0.2.length := (valr_ok h0).1
   try have hn0 : a0.2.length ≤ 96 := (valr_ok h0).2
   have e := Eq.refl (F28 a0); conv at e => rhs; simp only [F28, h0, cond_true, cond_false]
   rw [e]
   refine en (t0 ++ [.d h0]) [.slot 5 9] [1, 5, 6] [2, 3] hcx B28_0 (K28_0) (st28_0 a0 (flat c57 ([] : List ((Int × Int × Int) × (Int × Int × Int) × Int × Int × Int))) 0 0) (Int.toNat (((a0.2.length : Nat) : Int) - 0) + 1) (by kernel_rfl) ?_
   exact L28_0 a0 l0_1 l0_2 hcx (Int.toNat (((a0.2.length : Nat) : Int) - 0) + 1) ([] : List ((Int × Int × Int) × (Int × Int × Int) × Int × Int × Int)) 0 (by refine ⟨?_, ?_, ?_, ?_, ?_⟩ <;> first | omega | assumption | exact hi.2.1 | (simp only [List.length_append, List.length_cons, List.length_nil, Int.toNat_zero] <;> omega)) (by (try simp only [List.length_append, List.length_cons, List.length_nil, Int.toNat_zero]); omega)

theorem pan_f (m : ME) : F24 m = bif ((F60 m : Int) != 0) then ([], F60 m) else (m.2.map (F111 m), 0) := by
  unfold F24
  rw [show F61 (m.1, m.2) = m.2.map (F111 m) from pnl_map m]
theorem pan_r (m : ME) : F28 m = F24 m := by
  rw [pan_f]
  unfold F28
  rw [← val_eq]
  cases h : ((F60 m : Int) != 0) with
  | true => rfl
  | false =>
    rw [cond_false, cond_false]
    have e : loopF (S28_0 m) (Int.toNat (((m.2.length : Nat) : Int) - 0) + 1) (([] : List PN), 0) = (m.2.map (F111 m), 0) := by
      rw [each_loop (fun v i => (v, i)) (fun v c => .inl (v ++ [F111 m c])) (fun v => (v, 0)) (L := m.2) (fun _ _ => True) ?_ (fun _ _ _ _ _ _ _ => trivial) ?_ (by omega) trivial]
      · rw [foldE_inl]
        have key : ∀ (l : List P3) (v : List PN), l.foldl (fun v c => v ++ [F111 m c]) v = v ++ l.map (F111 m) := by
          intro l
          induction l with
          | nil => intro v; simp
          | cons c l ih => intro v; rw [List.foldl_cons, ih]; simp
        rw [key]; rfl
      · intro i c hc v _
        obtain ⟨hlt, hce⟩ := List.getElem?_eq_some_iff.1 hc
        have hp : F68 (m.1, m.2) (i : Int) = F111 m c := by
          unfold F68
          simp only [getD_of hc]; rfl
        simp only [S28_0]
        rw [decide_eq_true (by omega), cond_true, hp]
        rfl
      · intro v _
        simp only [S28_0]
        rw [decide_eq_false (by omega), cond_false]
    exact e
theorem pan_len (m : ME) : (F24 m).1.length ≤ 96 := by
  rw [pan_f]
  cases h : ((F60 m : Int) != 0) with
  | true => exact Nat.zero_le _
  | false => rw [cond_false]; show (m.2.map _).length ≤ 96; rw [List.length_map]; exact (val_ok h).2
theorem panr_len (m : ME) : (F28 m).1.length ≤ 96 := by rw [pan_r]; exact pan_len m

noncomputable def B8_0 : Code := (loopAtD [1, 1, 1, 1, 1, 0, 1] [] (bodyOf Tryz.f8) []).1
noncomputable def K8_0 : List K := (loopAtD [1, 1, 1, 1, 1, 0, 1] [] (bodyOf Tryz.f8) []).2

def st8_0 (a0 : (List (Int × Int × Int)) × List (Int × Int × Int)) (a1 : Int × Int × Int) (a2 : Int) (v2c : List SV) (v2n : Nat) (v3 : Int) : LS := ⟨slN 59 [(2, (iv a2)), (4, (.p 2 0)), (6, (.p 3 0)), (10, (.s 4 0 v2n 2)), (33, (.s 5 0 (F24 (a0.1, a0.2)).1.length 9)), (34, (iv (((F24 (a0.1, a0.2)).1.length : Nat) : Int))), (35, (iv v3))], [(.live false true (flat c27 a0.1)), (.live false true (flat c119 a0.2)), (.live true false (k3 a1)), (.live true false [(iv 0), (iv 0)]), (.live true true v2c), (.live true true (flat c57 (F24 (a0.1, a0.2)).1))]⟩

/-- a round of loop 0 of facet/field.Flux; the variables: v2 = s10, v3 = s35 -/
def S8_0 (a0 : (List (Int × Int × Int)) × List (Int × Int × Int)) (a1 : Int × Int × Int) (a2 : Int) : (List (Int × Int)) × Int → ((List (Int × Int)) × Int) ⊕ ((Int × Int) × Int)
  | (v2, v3) =>
   (bif (decide ((v3 : Int) < (((F24 (a0.1, a0.2)).1.length : Nat) : Int))) then
    (bif (((F27 ((F24 (a0.1, a0.2)).1.getD (Int.toNat v3) default) a1 a2).2 : Int) != 0) then
     (.inr ((0, 0), (F27 ((F24 (a0.1, a0.2)).1.getD (Int.toNat v3) default) a1 a2).2))
    else
     (.inl ((v2 ++ [(F27 ((F24 (a0.1, a0.2)).1.getD (Int.toNat v3) default) a1 a2).1]), (v3 + 1))))
   else
    (.inr ((F15_L v2).1, (F15_L v2).2)))

set_option maxHeartbeats 4000000 in
theorem L8_0 (a0 : (List (Int × Int × Int)) × List (Int × Int × Int)) (a1 : Int × Int × Int) (a2 : Int) (l0_1 : a0.1.length ≤ 9223372036854775807) (l0_2 : a0.2.length ≤ 9223372036854775807) {cx : Cx} (hcx : cx.base = 2) : ∀ (n : Nat) (v2 : List (Int × Int)) (v3 : Int), (0 ≤ v3) ∧ (v2.length = Int.toNat v3) ∧ (v3 ≤ (F24 (a0.1, a0.2)).1.length) → Int.toNat ((((F24 (a0.1, a0.2)).1.length : Nat) : Int) - v3) < n → Aw.Good Tryz.prog none 9 (bodyPost Tryz.prog Tryz.f8 (RR cx (.t [(.a (k2 (loopF (S8_0 a0 a1 a2) n (v2, v3)).1)), (iv (loopF (S8_0 a0 a1 a2) n (v2, v3)).2)]) [] [])) cx [] (.l B8_0 n :: K8_0) (st8_0 a0 a1 a2 (flat c31 v2) v2.length v3) := by
  intro n
  induction n with
  | zero => intro v2 v3 hi hn; exact absurd hn (Nat.not_lt_zero _)
  | succ n ih =>
    intro v2 v3 hi hn
    refine good_round ?_
    have hpl := pan_len (a0.1, a0.2)
    cases h0 : (decide ((v3 : Int) < (((F24 (a0.1, a0.2)).1.length : Nat) : Int))) with
    | true =>
     have q0 := of_decide_eq_true h0
     let t1 : List (St Tryz.prog) := [.d h0, .i v3 ((F24 (a0.1, a0.2)).1.length), .L c57_len (F24 (a0.1, a0.2)).1 v3 0 9, .c [] (C27 ((F24 (a0.1, a0.2)).1.getD (Int.toNat v3) default) a1 a2)]
     cases h1 : (((F27 ((F24 (a0.1, a0.2)).1.getD (Int.toNat v3) default) a1 a2).2 : Int) != 0) with
     | true =>
      have q1 := bne_iff_ne.1 h1
      have e := Eq.refl (S8_0 a0 a1 a2 (v2, v3)); conv at e => rhs; simp only [S8_0, h0, h1, cond_true, cond_false]
      rw [loopF_s, e]
      exact rt (t1 ++ [.d h1]) [] [] hcx (by kernel_rfl)
     | false =>
      have q1 := bne_eq_false_iff_eq.1 h1
      have e := Eq.refl (S8_0 a0 a1 a2 (v2, v3)); conv at e => rhs; simp only [S8_0, h0, h1, cond_true, cond_false]
      rw [loopF_inl e]
      refine ba (t1 ++ [.d h1, .p (show ((flat c31 v2).length = v2.length * 2 ∧ v2.length + 1 ≤ 2 ^ 40 ∧ (v2.length + 1) * 16 ≤ 2 ^ 47) from app_ok c31_len (by omega) (by omega))]) [] [2, 4, 6, 10, 33, 34, 35] [2, 3, 9, 5] hcx (m := n) B8_0 (K8_0) (st8_0 a0 a1 a2 (flat c31 v2 ++ (k2 (F27 ((F24 (a0.1, a0.2)).1.getD (Int.toNat v3) default) a1 a2).1)) (v2.length + 1) (W (v3 + 1))) (by kernel_rfl) ?_
      have z0 : (W (v3 + 1)) = (v3 + 1) := W_eq (by omega) (by omega)
      have z1 : (flat c31 v2 ++ (k2 (F27 ((F24 (a0.1, a0.2)).1.getD (Int.toNat v3) default) a1 a2).1)) = (flat c31 (v2 ++ [(F27 ((F24 (a0.1, a0.2)).1.getD (Int.toNat v3) default) a1 a2).1])) := (flat_append (c := c31) (l := v2) (m := [(F27 ((F24 (a0.1, a0.2)).1.getD (Int.toNat v3) default) a1 a2).1])).symm
      have z2 : (v2.length + 1) = (v2 ++ [(F27 ((F24 (a0.1, a0.2)).1.getD (Int.toNat v3) default) a1 a2).1]).length := len_app v2 [(F27 ((F24 (a0.1, a0.2)).1.getD (Int.toNat v3) default) a1 a2).1] rfl
      rw [z0, z1, z2]
      exact ih (v2 ++ [(F27 ((F24 (a0.1, a0.2)).1.getD (Int.toNat v3) default) a1 a2).1]) (v3 + 1) (by refine ⟨?_, ?_, ?_⟩ <;> (try simp only [List.length_append, List.length_cons, List.length_nil, Int.toNat_zero]) <;> first | omega | assumption | simp) (by (try simp only [List.length_append, List.length_cons, List.length_nil, Int.toNat_zero]); omega)
    | false =>
     have q0 := of_decide_eq_false h0
     have e := Eq.refl (S8_0 a0 a1 a2 (v2, v3)); conv at e => rhs; simp only [S8_0, h0, cond_true, cond_false]
     rw [loopF_s, e]
     exact rt [.d h0, .c [4] (C15_L v2 (by (try simp only [List.length_append, List.length_cons, List.length_nil, Int.toNat_zero]); omega))] [] [] hcx (by kernel_rfl)

/-- facet/field.Flux -/
def F8 (a0 : (List (Int × Int × Int)) × List (Int × Int × Int)) (a1 : Int × Int × Int) (a2 : Int) : (Int × Int) × Int :=
  (bif (((F24 (a0.1, a0.2)).2 : Int) != 0) then
   ((0, 0), (F24 (a0.1, a0.2)).2)
  else
   (bif (!(F25 a1)) then
    ((0, 0), 1)
   else
    (bif (!(F26 a2 0 3)) then
     ((0, 0), 1)
    else
     (loopF (S8_0 a0 a1 a2) (Int.toNat ((((F24 (a0.1, a0.2)).1.length : Nat) : Int) - 0) + 1) (([] : List (Int × Int)), 0)))))

theorem C8 (a0 : (List (Int × Int × Int)) × List (Int × Int × Int)) (a1 : Int × Int × Int) (a2 : Int) (l0_1 : a0.1.length ≤ 9223372036854775807) (l0_2 : a0.2.length ≤ 9223372036854775807) : Con Tryz.prog 8 [(.a [(.s 0 0 a0.1.length 3), (.s 1 0 a0.2.length 3)]), (.a (k3 a1)), (iv a2)] [(.live false true (flat c27 a0.1)), (.live false true (flat c119 a0.2))] (.t [(.a (k2 (F8 a0 a1 a2).1)), (iv (F8 a0 a1 a2).2)]) [] := by
  refine con_s Tryz.func8 (by kernel_rfl) fun cx hcx => ?_
  have hpl := pan_len (a0.1, a0.2)
  let t0 : List (St Tryz.prog) := [.c [0, 1] (C24 (a0.1, a0.2) (by (try simp only [List.length_append, List.length_cons, List.length_nil, Int.toNat_zero]); omega) (by (try simp only [List.length_append, List.length_cons, List.length_nil, Int.toNat_zero]); omega))]
  cases h0 : (((F24 (a0.1, a0.2)).2 : Int) != 0) with
  | true =>
   have q0 := bne_iff_ne.1 h0
   have e := Eq.refl (F8 a0 a1 a2); conv at e => rhs; simp only [F8, h0, cond_true, cond_false]
   rw [e]
   exact rt (t0 ++ [.d h0]) [] [] hcx (by kernel_rfl)
  | false =>
   have q0 := bne_eq_false_iff_eq.1 h0
   let t1 : List (St Tryz.prog) := (t0 ++ [.d h0, .c [] (C25 a1)])
   cases h1 : (!(F25 a1)) with
   | true =>
    have e := Eq.refl (F8 a0 a1 a2); conv at e => rhs; simp only [F8, h0, h1, cond_true, cond_false]
    rw [e]
    exact rt (t1 ++ [.d h1]) [] [] hcx (by kernel_rfl)
   | false =>
    let t2 : List (St Tryz.prog) := (t1 ++ [.d h1, .c [] (C26 a2 0 3)])
    cases h2 : (!(F26 a2 0 3)) with
    | true =>
     have e := Eq.refl (F8 a0 a1 a2); conv at e => rhs; simp only [F8, h0, h1, h2, cond_true, cond_false]
     rw [e]
     exact rt (t2 ++ [.d h2]) [] [] hcx (by kernel_rfl)
    | false =>
     have e := Eq.refl (F8 a0 a1 a2); conv at e => rhs; simp only [F8, h0, h1, h2, cond_true, cond_false]
     rw [e]
     refine en (t2 ++ [.d h2]) [.slot 10 2] [2, 4, 6, 10, 33, 34, 35] [3, 4, 6, 5] hcx B8_0 (K8_0) (st8_0 a0 a1 a2 (flat c31 ([] : List (Int × Int))) 0 0) (Int.toNat ((((F24 (a0.1, a0.2)).1.length : Nat) : Int) - 0) + 1) (by kernel_rfl) ?_
     exact L8_0 a0 a1 a2 l0_1 l0_2 hcx (Int.toNat ((((F24 (a0.1, a0.2)).1.length : Nat) : Int) - 0) + 1) ([] : List (Int × Int)) 0 (by refine ⟨?_, ?_, ?_⟩ <;> (try simp only [List.length_append, List.length_cons, List.length_nil, Int.toNat_zero]) <;> first | omega | assumption | simp) (by (try simp only [List.length_append, List.length_cons, List.length_nil, Int.toNat_zero]); omega)

noncomputable def B9_0 : Code := (loopAtD [1, 1, 1, 1, 1, 0, 1] [] (bodyOf Tryz.f9) []).1
noncomputable def K9_0 : List K := (loopAtD [1, 1, 1, 1, 1, 0, 1] [] (bodyOf Tryz.f9) []).2

def st9_0 (a0 : (List (Int × Int × Int)) × List (Int × Int × Int)) (a1 : Int × Int × Int) (a2 : Int) (v2c : List SV) (v2n : Nat) (v3 : Int) : LS := ⟨slN 60 [(2, (iv a2)), (4, (.p 2 0)), (6, (.p 3 0)), (8, (.s 4 0 (F28 (a0.1, a0.2)).1.length 9)), (10, (.s 5 0 v2n 2)), (11, (iv v3))], [(.live false true (flat c27 a0.1)), (.live false true (flat c119 a0.2)), (.live true false (k3 a1)), (.live true false [(iv 0), (iv 0)]), (.live true true (flat c57 (F28 (a0.1, a0.2)).1)), (.live true true v2c)]⟩

/-- a round of loop 0 of facet/facetref03.Flux; the variables: v2 = s10, v3 = s11 -/
def S9_0 (a0 : (List (Int × Int × Int)) × List (Int × Int × Int)) (a1 : Int × Int × Int) (a2 : Int) : (List (Int × Int)) × Int → ((List (Int × Int)) × Int) ⊕ ((Int × Int) × Int)
  | (v2, v3) =>
   (bif (decide ((v3 : Int) < (((F28 (a0.1, a0.2)).1.length : Nat) : Int))) then
    (bif (((F31 ((F28 (a0.1, a0.2)).1.getD (Int.toNat v3) default) a1 a2).2 : Int) != 0) then
     (.inr ((0, 0), (F31 ((F28 (a0.1, a0.2)).1.getD (Int.toNat v3) default) a1 a2).2))
    else
     (.inl ((v2 ++ [(F31 ((F28 (a0.1, a0.2)).1.getD (Int.toNat v3) default) a1 a2).1]), (v3 + 1))))
   else
    (.inr ((F32_L v2).1, (F32_L v2).2)))

set_option maxHeartbeats 4000000 in
theorem L9_0 (a0 : (List (Int × Int × Int)) × List (Int × Int × Int)) (a1 : Int × Int × Int) (a2 : Int) (l0_1 : a0.1.length ≤ 9223372036854775807) (l0_2 : a0.2.length ≤ 9223372036854775807) {cx : Cx} (hcx : cx.base = 2) : ∀ (n : Nat) (v2 : List (Int × Int)) (v3 : Int), (0 ≤ v3) ∧ (v2.length = Int.toNat v3) ∧ (v3 ≤ (F28 (a0.1, a0.2)).1.length) → Int.toNat ((((F28 (a0.1, a0.2)).1.length : Nat) : Int) - v3) < n → Aw.Good Tryz.prog none 9 (bodyPost Tryz.prog Tryz.f9 (RR cx (.t [(.a (k2 (loopF (S9_0 a0 a1 a2) n (v2, v3)).1)), (iv (loopF (S9_0 a0 a1 a2) n (v2, v3)).2)]) [] [])) cx [] (.l B9_0 n :: K9_0) (st9_0 a0 a1 a2 (flat c31 v2) v2.length v3) := by
  intro n
  induction n with
  | zero => intro v2 v3 hi hn; exact absurd hn (Nat.not_lt_zero _)
  | succ n ih =>
    intro v2 v3 hi hn
    refine good_round ?_
    have hpl := panr_len (a0.1, a0.2)
    cases h0 : (decide ((v3 : Int) < (((F28 (a0.1, a0.2)).1.length : Nat) : Int))) with
    | true =>
     have q0 := of_decide_eq_true h0
     let t1 : List (St Tryz.prog) := [.d h0, .i v3 ((F28 (a0.1, a0.2)).1.length), .L c57_len (F28 (a0.1, a0.2)).1 v3 0 9, .c [] (C31 ((F28 (a0.1, a0.2)).1.getD (Int.toNat v3) default) a1 a2)]
     cases h1 : (((F31 ((F28 (a0.1, a0.2)).1.getD (Int.toNat v3) default) a1 a2).2 : Int) != 0) with
     | true =>
      have q1 := bne_iff_ne.1 h1
      have e := Eq.refl (S9_0 a0 a1 a2 (v2, v3)); conv at e => rhs; simp only [S9_0, h0, h1, cond_true, cond_false]
      rw [loopF_s, e]
      exact rt (t1 ++ [.d h1]) [] [] hcx (by kernel_rfl)
     | false =>
      have q1 := bne_eq_false_iff_eq.1 h1
      have e := Eq.refl (S9_0 a0 a1 a2 (v2, v3)); conv at e => rhs; simp only [S9_0, h0, h1, cond_true, cond_false]
      rw [loopF_inl e]
      refine ba (t1 ++ [.d h1, .p (show ((flat c31 v2).length = v2.length * 2 ∧ v2.length + 1 ≤ 2 ^ 40 ∧ (v2.length + 1) * 16 ≤ 2 ^ 47) from app_ok c31_len (by omega) (by omega))]) [] [2, 4, 6, 8, 10, 11] [2, 3, 4, 8] hcx (m := n) B9_0 (K9_0) (st9_0 a0 a1 a2 (flat c31 v2 ++ (k2 (F31 ((F28 (a0.1, a0.2)).1.getD (Int.toNat v3) default) a1 a2).1)) (v2.length + 1) (W (v3 + 1))) (by kernel_rfl) ?_
      have z0 : (W (v3 + 1)) = (v3 + 1) := W_eq (by omega) (by omega)
      have z1 : (flat c31 v2 ++ (k2 (F31 ((F28 (a0.1, a0.2)).1.getD (Int.toNat v3) default) a1 a2).1)) = (flat c31 (v2 ++ [(F31 ((F28 (a0.1, a0.2)).1.getD (Int.toNat v3) default) a1 a2).1])) := (flat_append (c := c31) (l := v2) (m := [(F31 ((F28 (a0.1, a0.2)).1.getD (Int.toNat v3) default) a1 a2).1])).symm
      have z2 : (v2.length + 1) = (v2 ++ [(F31 ((F28 (a0.1, a0.2)).1.getD (Int.toNat v3) default) a1 a2).1]).length := len_app v2 [(F31 ((F28 (a0.1, a0.2)).1.getD (Int.toNat v3) default) a1 a2).1] rfl
      rw [z0, z1, z2]
      exact ih (v2 ++ [(F31 ((F28 (a0.1, a0.2)).1.getD (Int.toNat v3) default) a1 a2).1]) (v3 + 1) (by refine ⟨?_, ?_, ?_⟩ <;> (try simp only [List.length_append, List.length_cons, List.length_nil, Int.toNat_zero]) <;> first | omega | assumption | simp) (by (try simp only [List.length_append, List.length_cons, List.length_nil, Int.toNat_zero]); omega)
    | false =>
     have q0 := of_decide_eq_false h0
     have e := Eq.refl (S9_0 a0 a1 a2 (v2, v3)); conv at e => rhs; simp only [S9_0, h0, cond_true, cond_false]
     rw [loopF_s, e]
     exact rt [.d h0, .c [5] (C32_L v2 (by (try simp only [List.length_append, List.length_cons, List.length_nil, Int.toNat_zero]); omega))] [] [] hcx (by kernel_rfl)

/-- facet/facetref03.Flux -/
def F9 (a0 : (List (Int × Int × Int)) × List (Int × Int × Int)) (a1 : Int × Int × Int) (a2 : Int) : (Int × Int) × Int :=
  (bif (((F28 (a0.1, a0.2)).2 : Int) != 0) then
   ((0, 0), (F28 (a0.1, a0.2)).2)
  else
   (bif (!(F29 a1)) then
    ((0, 0), 1)
   else
    (bif (!(F30 a2 0 3)) then
     ((0, 0), 1)
    else
     (loopF (S9_0 a0 a1 a2) (Int.toNat ((((F28 (a0.1, a0.2)).1.length : Nat) : Int) - 0) + 1) (([] : List (Int × Int)), 0)))))

theorem C9 (a0 : (List (Int × Int × Int)) × List (Int × Int × Int)) (a1 : Int × Int × Int) (a2 : Int) (l0_1 : a0.1.length ≤ 9223372036854775807) (l0_2 : a0.2.length ≤ 9223372036854775807) : Con Tryz.prog 9 [(.a [(.s 0 0 a0.1.length 3), (.s 1 0 a0.2.length 3)]), (.a (k3 a1)), (iv a2)] [(.live false true (flat c27 a0.1)), (.live false true (flat c119 a0.2))] (.t [(.a (k2 (F9 a0 a1 a2).1)), (iv (F9 a0 a1 a2).2)]) [] := by
  refine con_s Tryz.func9 (by kernel_rfl) fun cx hcx => ?_
  have hpl := panr_len (a0.1, a0.2)
  let t0 : List (St Tryz.prog) := [.c [0, 1] (C28 (a0.1, a0.2) (by (try simp only [List.length_append, List.length_cons, List.length_nil, Int.toNat_zero]); omega) (by (try simp only [List.length_append, List.length_cons, List.length_nil, Int.toNat_zero]); omega))]
  cases h0 : (((F28 (a0.1, a0.2)).2 : Int) != 0) with
  | true =>
   have q0 := bne_iff_ne.1 h0
   have e := Eq.refl (F9 a0 a1 a2); conv at e => rhs; simp only [F9, h0, cond_true, cond_false]
   rw [e]
   exact rt (t0 ++ [.d h0]) [] [] hcx (by kernel_rfl)
  | false =>
   have q0 := bne_eq_false_iff_eq.1 h0
   let t1 : List (St Tryz.prog) := (t0 ++ [.d h0, .c [] (C29 a1)])
   cases h1 : (!(F29 a1)) with
   | true =>
    have e := Eq.refl (F9 a0 a1 a2); conv at e => rhs; simp only [F9, h0, h1, cond_true, cond_false]
    rw [e]
    exact rt (t1 ++ [.d h1]) [] [] hcx (by kernel_rfl)
   | false =>
    let t2 : List (St Tryz.prog) := (t1 ++ [.d h1, .c [] (C30 a2 0 3)])
    cases h2 : (!(F30 a2 0 3)) with
    | true =>
     have e := Eq.refl (F9 a0 a1 a2); conv at e => rhs; simp only [F9, h0, h1, h2, cond_true, cond_false]
     rw [e]
     exact rt (t2 ++ [.d h2]) [] [] hcx (by kernel_rfl)
    | false =>
     have e := Eq.refl (F9 a0 a1 a2); conv at e => rhs; simp only [F9, h0, h1, h2, cond_true, cond_false]
     rw [e]
     refine en (t2 ++ [.d h2]) [.slot 10 2] [2, 4, 6, 8, 10, 11] [3, 4, 5, 6] hcx B9_0 (K9_0) (st9_0 a0 a1 a2 (flat c31 ([] : List (Int × Int))) 0 0) (Int.toNat ((((F28 (a0.1, a0.2)).1.length : Nat) : Int) - 0) + 1) (by kernel_rfl) ?_
     exact L9_0 a0 a1 a2 l0_1 l0_2 hcx (Int.toNat ((((F28 (a0.1, a0.2)).1.length : Nat) : Int) - 0) + 1) ([] : List (Int × Int)) 0 (by refine ⟨?_, ?_, ?_⟩ <;> (try simp only [List.length_append, List.length_cons, List.length_nil, Int.toNat_zero]) <;> first | omega | assumption | simp) (by (try simp only [List.length_append, List.length_cons, List.length_nil, Int.toNat_zero]); omega)

/-- facet/facetlaw02.Long -/
def F6 (a0 : (List (Int × Int × Int)) × List (Int × Int × Int)) : Bool :=
  (bif (decide ((((a0.1.length : Nat) : Int) : Int) > 200)) then
   true
  else
   (decide ((((a0.2.length : Nat) : Int) : Int) > 300)))

theorem C6 (a0 : (List (Int × Int × Int)) × List (Int × Int × Int)) (l0_1 : a0.1.length ≤ 9223372036854775807) (l0_2 : a0.2.length ≤ 9223372036854775807) : Con Tryz.prog 6 [(.a [(.s 0 0 a0.1.length 3), (.s 1 0 a0.2.length 3)])] [(.live false true (flat c27 a0.1)), (.live false true (flat c119 a0.2))] (.v (.bool (F6 a0))) [] := by
  refine con_s Tryz.func6 (by kernel_rfl) fun cx hcx => ?_
  cases h0 : (decide ((((a0.1.length : Nat) : Int) : Int) > 200)) with
  | true =>
   have q0 := of_decide_eq_true h0
   have e := Eq.refl (F6 a0); conv at e => rhs; simp only [F6, h0, cond_true, cond_false]
   rw [e]
   exact rt [.d h0] [] [] hcx (by kernel_rfl)
  | false =>
   have q0 := of_decide_eq_false h0
   have e := Eq.refl (F6 a0); conv at e => rhs; simp only [F6, h0, cond_true, cond_false]
   rw [e]
   exact rt [.d h0] [] [] hcx (by kernel_rfl)

end Go.Proofs.YtidhogejnafhaaaGreat
