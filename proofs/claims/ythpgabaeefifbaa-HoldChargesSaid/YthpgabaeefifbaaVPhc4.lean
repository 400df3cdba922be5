/-
  Parts of the proofs of the laws: the executor, what functions of the program compute, and that it is what the statements ask. No premise.
-/
import Derived.Test.YthpgabaeefifbaaVPhc3
namespace Go.Proofs.Ythpgabaeefifbaa
open Go.Proofs Go.Aw Go.RowKit
set_option maxRecDepth 100000
set_option linter.unusedVariables false
set_option linter.unusedSimpArgs false

theorem from_p {a b c : Int} (h : (!F21 a b c) = false) : b ≤ a ∧ a ≤ c := by
  unfold F21 at h
  by_cases h1 : b ≤ a
  · by_cases h2 : a ≤ c
    · exact ⟨h1, h2⟩
    · rw [decide_eq_true h1, decide_eq_false h2] at h; simp at h
  · rw [decide_eq_false h1] at h; simp at h
theorem win_p2 {a b c : Int} (h : (!F28 a b c) = false) : b ≤ a ∧ a ≤ c := by
  unfold F28 at h
  by_cases h1 : b ≤ a
  · by_cases h2 : a ≤ c
    · exact ⟨h1, h2⟩
    · rw [decide_eq_true (show a ≥ b from h1), decide_eq_false h2] at h; simp at h
  · rw [decide_eq_false (show ¬ a ≥ b from h1)] at h; simp at h
theorem face_pre {n : Nat} {f : Int × Int × Int} (hn : n ≤ 64) (h0 : (!F21 f.1 0 (W ((n : Int) - 1))) = false) (h1 : (!F21 f.2.1 0 (W ((n : Int) - 1))) = false) (h2 : (!F21 f.2.2 0 (W ((n : Int) - 1))) = false) : inF n f := by
  have hw : W ((n : Int) - 1) = (n : Int) - 1 := W_eq (by omega) (by omega)
  have g0 := from_p h0; have g1 := from_p h1; have g2 := from_p h2
  rw [hw] at g0 g1 g2
  exact ⟨⟨g0.1, by omega⟩, ⟨g1.1, by omega⟩, g2.1, by omega⟩

/-- [3]int, as cells -/
def c46 (x : Int × Int × Int) : List SV := [(iv x.1), (iv x.2.1), (iv x.2.2)]
theorem c46_len (x : Int × Int × Int) : (c46 x).length = 3 := rfl

/-- facet/shape.panel -/
def F41 (a0 : (List (Int × Int × Int)) × List (Int × Int × Int)) (a1 : Int × Int × Int) : (Int × Int × Int) × (Int × Int × Int) × Int × Int × Int :=
  ((a0.1.getD (Int.toNat a1.1) default), (a0.1.getD (Int.toNat a1.2.1) default), (a0.1.getD (Int.toNat a1.2.2) default))

theorem C41 (a0 : (List (Int × Int × Int)) × List (Int × Int × Int)) (a1 : Int × Int × Int) (l0_1 : a0.1.length ≤ 9223372036854775807) (l0_2 : a0.2.length ≤ 9223372036854775807) (hf : inF a0.1.length a1) : Con Try.prog 41 [(.a [(.s 0 0 a0.1.length 3), (.s 1 0 a0.2.length 3)]), (.a (k3 a1))] [(.live false true (flat c37 a0.1)), (.live false true (flat c46 a0.2))] (.a (k9 (F41 a0 a1))) [] := by
  refine con_s Try.func41 (by kernel_rfl) fun cx hcx => ?_
  have e := Eq.refl (F41 a0 a1); conv at e => rhs; simp only [F41]
  rw [e]
  exact rt [.i 0 3 (by decide), .i (a1.1) (a0.1.length), .L c37_len a0.1 a1.1 0 3, .i 1 3 (by decide), .i (a1.2.1) (a0.1.length), .L c37_len a0.1 a1.2.1 0 3, .i 2 3 (by decide), .i (a1.2.2) (a0.1.length), .L c37_len a0.1 a1.2.2 0 3] [] [] hcx (by kernel_rfl)

/-- facet/shape.face -/
def F23 (a0 : (List (Int × Int × Int)) × List (Int × Int × Int)) (a1 : Int × Int × Int) : Int :=
  (bif (!(F21 a1.1 0 (W (((a0.1.length : Nat) : Int) - 1)))) then
   5
  else
   (bif (!(F21 a1.2.1 0 (W (((a0.1.length : Nat) : Int) - 1)))) then
    5
   else
    (bif (!(F21 a1.2.2 0 (W (((a0.1.length : Nat) : Int) - 1)))) then
     5
    else
     (bif ((((F40 (F41 (a0.1, a0.2) a1)).1 : Int) == 0) && ((((F40 (F41 (a0.1, a0.2) a1)).2.1 : Int) == 0) && ((((F40 (F41 (a0.1, a0.2) a1)).2.2 : Int) == 0) && true))) then
      6
     else
      0))))

theorem C23 (a0 : (List (Int × Int × Int)) × List (Int × Int × Int)) (a1 : Int × Int × Int) (l0_1 : a0.1.length ≤ 9223372036854775807) (l0_2 : a0.2.length ≤ 9223372036854775807) (hn : a0.1.length ≤ 64) : Con Try.prog 23 [(.a [(.s 0 0 a0.1.length 3), (.s 1 0 a0.2.length 3)]), (.a (k3 a1))] [(.live false true (flat c37 a0.1)), (.live false true (flat c46 a0.2))] (iv (F23 a0 a1)) [] := by
  refine con_s Try.func23 (by kernel_rfl) fun cx hcx => ?_
  try have hfi := face_pre hn h0 h1 h2
  let t0 : List (St Try.prog) := [.u 200, .T, .i 0 3 (by decide), .c [] (C21 a1.1 0 (W (((a0.1.length : Nat) : Int) - 1)))]
  cases h0 : (!(F21 a1.1 0 (W (((a0.1.length : Nat) : Int) - 1)))) with
  | true =>
   try have hfi := face_pre hn h0 h1 h2
   have e := Eq.refl (F23 a0 a1); conv at e => rhs; simp only [F23, h0, cond_true, cond_false]
   rw [e]
   exact rt (t0 ++ [.d h0]) [] [] hcx (by kernel_rfl)
  | false =>
   try have hfi := face_pre hn h0 h1 h2
   let t1 : List (St Try.prog) := (t0 ++ [.d h0, .u 0, .T, .i 1 3 (by decide), .c [] (C21 a1.2.1 0 (W (((a0.1.length : Nat) : Int) - 1)))])
   cases h1 : (!(F21 a1.2.1 0 (W (((a0.1.length : Nat) : Int) - 1)))) with
   | true =>
    try have hfi := face_pre hn h0 h1 h2
    have e := Eq.refl (F23 a0 a1); conv at e => rhs; simp only [F23, h0, h1, cond_true, cond_false]
    rw [e]
    exact rt (t1 ++ [.d h1]) [] [] hcx (by kernel_rfl)
   | false =>
    try have hfi := face_pre hn h0 h1 h2
    let t2 : List (St Try.prog) := (t1 ++ [.d h1, .u 0, .T, .i 2 3 (by decide), .c [] (C21 a1.2.2 0 (W (((a0.1.length : Nat) : Int) - 1)))])
    cases h2 : (!(F21 a1.2.2 0 (W (((a0.1.length : Nat) : Int) - 1)))) with
    | true =>
     try have hfi := face_pre hn h0 h1 h2
     have e := Eq.refl (F23 a0 a1); conv at e => rhs; simp only [F23, h0, h1, h2, cond_true, cond_false]
     rw [e]
     exact rt (t2 ++ [.d h2]) [] [] hcx (by kernel_rfl)
    | false =>
     try have hfi := face_pre hn h0 h1 h2
     let t3 : List (St Try.prog) := (t2 ++ [.d h2, .u 0, .F, .c [0, 1] (C41 (a0.1, a0.2) a1 (by (try simp only [List.length_append, List.length_cons, List.length_nil, Int.toNat_zero]); omega) (by (try simp only [List.length_append, List.length_cons, List.length_nil, Int.toNat_zero]); omega) hfi), .c [] (C40 (F41 (a0.1, a0.2) a1))])
     cases h3 : ((((F40 (F41 (a0.1, a0.2) a1)).1 : Int) == 0) && ((((F40 (F41 (a0.1, a0.2) a1)).2.1 : Int) == 0) && ((((F40 (F41 (a0.1, a0.2) a1)).2.2 : Int) == 0) && true))) with
     | true =>
      try have hfi := face_pre hn h0 h1 h2
      have e := Eq.refl (F23 a0 a1); conv at e => rhs; simp only [F23, h0, h1, h2, h3, cond_true, cond_false]
      rw [e]
      exact rt (t3 ++ [.d h3]) [] [] hcx (by kernel_rfl)
     | false =>
      try have hfi := face_pre hn h0 h1 h2
      have e := Eq.refl (F23 a0 a1); conv at e => rhs; simp only [F23, h0, h1, h2, h3, cond_true, cond_false]
      rw [e]
      exact rt (t3 ++ [.d h3]) [] [] hcx (by kernel_rfl)

theorem face_in {m : List (Int × Int × Int) × List (Int × Int × Int)} {f : Int × Int × Int} (h : (F23 m f != 0) = false) (hl : m.1.length ≤ 64) : inF m.1.length f := by
  have hw : W (((m.1.length : Nat) : Int) - 1) = (m.1.length : Int) - 1 := W_eq (by omega) (by omega)
  unfold F23 at h
  cases h0 : (!F21 f.1 0 (W (((m.1.length : Nat) : Int) - 1))) with
  | true => rw [h0, cond_true] at h; exact absurd h (by decide)
  | false =>
    cases h1 : (!F21 f.2.1 0 (W (((m.1.length : Nat) : Int) - 1))) with
    | true => rw [h0, h1, cond_false, cond_true] at h; exact absurd h (by decide)
    | false =>
      cases h2 : (!F21 f.2.2 0 (W (((m.1.length : Nat) : Int) - 1))) with
      | true => rw [h0, h1, h2, cond_false, cond_false, cond_true] at h; exact absurd h (by decide)
      | false =>
        have g0 := from_p h0; have g1 := from_p h1; have g2 := from_p h2
        rw [hw] at g0 g1 g2
        exact ⟨⟨g0.1, by omega⟩, ⟨g1.1, by omega⟩, g2.1, by omega⟩

def kc37 (x : Int × Int × Int) : SV := .a (c37 x)
theorem K37 : KeyOK T0 37 kc37 :=
  ⟨fun x => by kernel_rfl, fun x y => ⟨(((x.1 : Int) == y.1) && (((x.2.1 : Int) == y.2.1) && (((x.2.2 : Int) == y.2.2) && true))), by kernel_rfl, by
      simp only [kc37, c37, iv, SV.a.injEq, List.cons.injEq, SV.v.injEq, Value.int.injEq, Bool.and_eq_true, beq_iff_eq, true_and, and_true]
      constructor <;> intro h <;> omega⟩, fun x y h => by
      simp only [kc37, c37, iv, SV.a.injEq, List.cons.injEq, SV.v.injEq, Value.int.injEq, true_and, and_true] at h
      simp only [Prod.ext_iff]; omega, fun x => rfl⟩

noncomputable def B22_0 : Code := (loopAtD [1, 1, 0, 1] [] (bodyOf Try.f22) []).1
noncomputable def K22_0 : List K := (loopAtD [1, 1, 0, 1] [] (bodyOf Try.f22) []).2

def st22_0 (a0 : (List (Int × Int × Int)) × List (Int × Int × Int)) (v1 : List ((Int × Int × Int) × Bool)) (v2 : Int) : LS := ⟨slN 25 [(3, (.m 2)), (8, (.s 0 0 a0.1.length 3)), (9, (iv ((a0.1.length : Nat) : Int))), (10, (iv v2))], [(.live false true (flat c37 a0.1)), (.live false true (flat c46 a0.2)), (.map (mapE kc37 vB v1))]⟩

/-- a round of loop 0 of facet/shape.points; the variables: v1 = s3, v2 = s10 -/
def S22_0 (a0 : (List (Int × Int × Int)) × List (Int × Int × Int)) : (List ((Int × Int × Int) × Bool)) × Int → ((List ((Int × Int × Int) × Bool)) × Int) ⊕ (Int)
  | (v1, v2) =>
   (bif (decide ((v2 : Int) < ((a0.1.length : Nat) : Int))) then
    (bif (!(F39 (a0.1.getD (Int.toNat v2) default) 64)) then
     (.inr 1)
    else
     (bif (mget v1 (a0.1.getD (Int.toNat v2) default) false) then
      (.inr 1)
     else
      (.inl ((mput v1 (a0.1.getD (Int.toNat v2) default) true), (v2 + 1)))))
   else
    (.inr 0))

set_option maxHeartbeats 4000000 in
theorem L22_0 (a0 : (List (Int × Int × Int)) × List (Int × Int × Int)) (l0_1 : a0.1.length ≤ 9223372036854775807) (l0_2 : a0.2.length ≤ 9223372036854775807) {cx : Cx} (hcx : cx.base = 2) : ∀ (n : Nat) (v1 : List ((Int × Int × Int) × Bool)) (v2 : Int), 0 ≤ v2 → Int.toNat (((a0.1.length : Nat) : Int) - v2) < n → Aw.Good Try.prog none 9 (bodyPost Try.prog Try.f22 (RR cx (iv (loopF (S22_0 a0) n (v1, v2))) [] [])) cx [] (.l B22_0 n :: K22_0) (st22_0 a0 v1 v2) := by
  intro n
  induction n with
  | zero => intro v1 v2 hi hn; exact absurd hn (Nat.not_lt_zero _)
  | succ n ih =>
    intro v1 v2 hi hn
    refine good_round ?_
    cases h0 : (decide ((v2 : Int) < ((a0.1.length : Nat) : Int))) with
    | true =>
     have q0 := of_decide_eq_true h0
     let t1 : List (St Try.prog) := [.d h0, .i v2 (a0.1.length), .L c37_len a0.1 v2 0 3, .c [] (C39 (a0.1.getD (Int.toNat v2) default) 64)]
     cases h1 : (!(F39 (a0.1.getD (Int.toNat v2) default) 64)) with
     | true =>
      have e := Eq.refl (S22_0 a0 (v1, v2)); conv at e => rhs; simp only [S22_0, h0, h1, cond_true, cond_false]
      rw [loopF_s, e]
      exact rt (t1 ++ [.d h1]) [] [] hcx (by kernel_rfl)
     | false =>
      let t2 : List (St Try.prog) := (t1 ++ [.d h1, .mG K37 vB v1 (a0.1.getD (Int.toNat v2) default) false])
      cases h2 : (mget v1 (a0.1.getD (Int.toNat v2) default) false) with
      | true =>
       have e := Eq.refl (S22_0 a0 (v1, v2)); conv at e => rhs; simp only [S22_0, h0, h1, h2, cond_true, cond_false]
       rw [loopF_s, e]
       exact rt (t2 ++ [.d h2]) [] [] hcx (by kernel_rfl)
      | false =>
       have e := Eq.refl (S22_0 a0 (v1, v2)); conv at e => rhs; simp only [S22_0, h0, h1, h2, cond_true, cond_false]
       rw [loopF_inl e]
       refine ba (t2 ++ [.d h2, .mP K37 vB v1 (a0.1.getD (Int.toNat v2) default) true]) [] [3, 8, 9, 10] [2] hcx (m := n) B22_0 (K22_0) (st22_0 a0 (mput v1 (a0.1.getD (Int.toNat v2) default) true) (W (v2 + 1))) (by kernel_rfl) ?_
       have z0 : (W (v2 + 1)) = (v2 + 1) := W_eq (by omega) (by omega)
       rw [z0]
       exact ih (mput v1 (a0.1.getD (Int.toNat v2) default) true) (v2 + 1) (by (try simp only [List.length_append, List.length_cons, List.length_nil, Int.toNat_zero]); omega) (by (try simp only [List.length_append, List.length_cons, List.length_nil, Int.toNat_zero]); omega)
    | false =>
     have q0 := of_decide_eq_false h0
     have e := Eq.refl (S22_0 a0 (v1, v2)); conv at e => rhs; simp only [S22_0, h0, cond_true, cond_false]
     rw [loopF_s, e]
     exact rt [.d h0] [] [] hcx (by kernel_rfl)

/-- facet/shape.points -/
def F22 (a0 : (List (Int × Int × Int)) × List (Int × Int × Int)) : Int :=
  (loopF (S22_0 a0) (Int.toNat (((a0.1.length : Nat) : Int) - 0) + 1) (([] : List ((Int × Int × Int) × Bool)), 0))

theorem C22 (a0 : (List (Int × Int × Int)) × List (Int × Int × Int)) (l0_1 : a0.1.length ≤ 9223372036854775807) (l0_2 : a0.2.length ≤ 9223372036854775807) : Con Try.prog 22 [(.a [(.s 0 0 a0.1.length 3), (.s 1 0 a0.2.length 3)])] [(.live false true (flat c37 a0.1)), (.live false true (flat c46 a0.2))] (iv (F22 a0)) [] := by
  refine con_s Try.func22 (by kernel_rfl) fun cx hcx => ?_
  have e := Eq.refl (F22 a0); conv at e => rhs; simp only [F22]
  rw [e]
  refine en [] [] [3, 8, 9, 10] [3] hcx B22_0 (K22_0) (st22_0 a0 ([] : List ((Int × Int × Int) × Bool)) 0) (Int.toNat (((a0.1.length : Nat) : Int) - 0) + 1) (by kernel_rfl) ?_
  exact L22_0 a0 l0_1 l0_2 hcx (Int.toNat (((a0.1.length : Nat) : Int) - 0) + 1) ([] : List ((Int × Int × Int) × Bool)) 0 (by (try simp only [List.length_append, List.length_cons, List.length_nil, Int.toNat_zero]); omega) (by (try simp only [List.length_append, List.length_cons, List.length_nil, Int.toNat_zero]); omega)

/-- facet/shape.sides -/
def F25 (a0 : Int × Int × Int) : (Int × Int) × (Int × Int) × Int × Int :=
  ((a0.1, a0.2.1), a0.2, (a0.2.2, a0.1))

theorem C25 (a0 : Int × Int × Int) : Con Try.prog 25 [(.a (k3 a0))] [] (.a [(iv (F25 a0).1.1), (iv (F25 a0).1.2), (iv (F25 a0).2.1.1), (iv (F25 a0).2.1.2), (iv (F25 a0).2.2.1), (iv (F25 a0).2.2.2)]) [] := by
  refine con_s Try.func25 (by kernel_rfl) fun cx hcx => ?_
  have e := Eq.refl (F25 a0); conv at e => rhs; simp only [F25]
  rw [e]
  exact rt [.i 0 3 (by decide), .i 1 3 (by decide), .i 1 3 (by decide), .i 2 3 (by decide), .i 2 3 (by decide), .i 0 3 (by decide)] [] [] hcx (by kernel_rfl)

/-- shape.side, as cells -/
def c54 (x : Int × Int) : List SV := [(iv x.1), (iv x.2)]
def kc54 (x : Int × Int) : SV := .a (c54 x)
theorem K54 : KeyOK T0 54 kc54 :=
  ⟨fun x => by kernel_rfl, fun x y => ⟨(((x.1 : Int) == y.1) && (((x.2 : Int) == y.2) && true)), by kernel_rfl, by
      simp only [kc54, c54, iv, SV.a.injEq, List.cons.injEq, SV.v.injEq, Value.int.injEq, Bool.and_eq_true, beq_iff_eq, true_and, and_true]
      constructor <;> intro h <;> omega⟩, fun x y h => by
      simp only [kc54, c54, iv, SV.a.injEq, List.cons.injEq, SV.v.injEq, Value.int.injEq, true_and, and_true] at h
      simp only [Prod.ext_iff]; omega, fun x => rfl⟩

noncomputable def B24_0 : Code := (loopAtD [1, 1, 0, 1] [] (bodyOf Try.f24) []).1
noncomputable def K24_0 : List K := (loopAtD [1, 1, 0, 1] [] (bodyOf Try.f24) []).2

def st24_0 (a0 : (List (Int × Int × Int)) × List (Int × Int × Int)) (v1 : List ((Int × Int) × Int)) (v2 : Int) : LS := ⟨slN 30 [(3, (.m 2)), (10, (.s 1 0 a0.2.length 3)), (11, (iv ((a0.2.length : Nat) : Int))), (12, (iv v2))], [(.live false true (flat c37 a0.1)), (.live false true (flat c46 a0.2)), (.map (mapE kc54 iv v1))]⟩

/-- a round of loop 0 of facet/shape.counted; the variables: v1 = s3, v2 = s12 -/
def S24_0 (a0 : (List (Int × Int × Int)) × List (Int × Int × Int)) : (List ((Int × Int) × Int)) × Int → ((List ((Int × Int) × Int)) × Int) ⊕ (List ((Int × Int) × Int))
  | (v1, v2) =>
   (bif (decide ((v2 : Int) < ((a0.2.length : Nat) : Int))) then
    (.inl ((mput (mput (mput v1 ((F25 (a0.2.getD (Int.toNat v2) default)).1) (W ((mget v1 ((F25 (a0.2.getD (Int.toNat v2) default)).1) 0) + 1))) ((F25 (a0.2.getD (Int.toNat v2) default)).2.1) (W ((mget (mput v1 ((F25 (a0.2.getD (Int.toNat v2) default)).1) (W ((mget v1 ((F25 (a0.2.getD (Int.toNat v2) default)).1) 0) + 1))) ((F25 (a0.2.getD (Int.toNat v2) default)).2.1) 0) + 1))) ((F25 (a0.2.getD (Int.toNat v2) default)).2.2) (W ((mget (mput (mput v1 ((F25 (a0.2.getD (Int.toNat v2) default)).1) (W ((mget v1 ((F25 (a0.2.getD (Int.toNat v2) default)).1) 0) + 1))) ((F25 (a0.2.getD (Int.toNat v2) default)).2.1) (W ((mget (mput v1 ((F25 (a0.2.getD (Int.toNat v2) default)).1) (W ((mget v1 ((F25 (a0.2.getD (Int.toNat v2) default)).1) 0) + 1))) ((F25 (a0.2.getD (Int.toNat v2) default)).2.1) 0) + 1))) ((F25 (a0.2.getD (Int.toNat v2) default)).2.2) 0) + 1))), (v2 + 1)))
   else
    (.inr v1))

set_option maxHeartbeats 4000000 in
theorem L24_0 (a0 : (List (Int × Int × Int)) × List (Int × Int × Int)) (l0_1 : a0.1.length ≤ 9223372036854775807) (l0_2 : a0.2.length ≤ 9223372036854775807) {cx : Cx} (hcx : cx.base = 2) : ∀ (n : Nat) (v1 : List ((Int × Int) × Int)) (v2 : Int), 0 ≤ v2 → Int.toNat (((a0.2.length : Nat) : Int) - v2) < n → Aw.Good Try.prog none 9 (bodyPost Try.prog Try.f24 (RR cx (.m 2) [(.map (mapE kc54 iv (loopF (S24_0 a0) n (v1, v2))))] [])) cx [] (.l B24_0 n :: K24_0) (st24_0 a0 v1 v2) := by
  intro n
  induction n with
  | zero => intro v1 v2 hi hn; exact absurd hn (Nat.not_lt_zero _)
  | succ n ih =>
    intro v1 v2 hi hn
    refine good_round ?_
    cases h0 : (decide ((v2 : Int) < ((a0.2.length : Nat) : Int))) with
    | true =>
     have q0 := of_decide_eq_true h0
     have e := Eq.refl (S24_0 a0 (v1, v2)); conv at e => rhs; simp only [S24_0, h0, cond_true, cond_false]
     rw [loopF_inl e]
     refine ba [.d h0, .i v2 (a0.2.length), .L c46_len a0.2 v2 0 3, .c [] (C25 (a0.2.getD (Int.toNat v2) default)), .u 200, .T, .i 0 3 (by decide), .mGa K54 iv v1 ((F25 (a0.2.getD (Int.toNat v2) default)).1) 0 2, .mE K54 iv v1 ((F25 (a0.2.getD (Int.toNat v2) default)).1) 0, .mS K54 iv v1 ((F25 (a0.2.getD (Int.toNat v2) default)).1) 0 (W ((mget v1 ((F25 (a0.2.getD (Int.toNat v2) default)).1) 0) + 1)), .mR kc54 iv v1 ((F25 (a0.2.getD (Int.toNat v2) default)).1) 0, .u 0, .T, .i 1 3 (by decide), .mGa K54 iv (mput v1 ((F25 (a0.2.getD (Int.toNat v2) default)).1) (W ((mget v1 ((F25 (a0.2.getD (Int.toNat v2) default)).1) 0) + 1))) ((F25 (a0.2.getD (Int.toNat v2) default)).2.1) 0 2, .mE K54 iv (mput v1 ((F25 (a0.2.getD (Int.toNat v2) default)).1) (W ((mget v1 ((F25 (a0.2.getD (Int.toNat v2) default)).1) 0) + 1))) ((F25 (a0.2.getD (Int.toNat v2) default)).2.1) 0, .mS K54 iv (mput v1 ((F25 (a0.2.getD (Int.toNat v2) default)).1) (W ((mget v1 ((F25 (a0.2.getD (Int.toNat v2) default)).1) 0) + 1))) ((F25 (a0.2.getD (Int.toNat v2) default)).2.1) 0 (W ((mget (mput v1 ((F25 (a0.2.getD (Int.toNat v2) default)).1) (W ((mget v1 ((F25 (a0.2.getD (Int.toNat v2) default)).1) 0) + 1))) ((F25 (a0.2.getD (Int.toNat v2) default)).2.1) 0) + 1)), .mR kc54 iv (mput v1 ((F25 (a0.2.getD (Int.toNat v2) default)).1) (W ((mget v1 ((F25 (a0.2.getD (Int.toNat v2) default)).1) 0) + 1))) ((F25 (a0.2.getD (Int.toNat v2) default)).2.1) 0, .u 0, .T, .i 2 3 (by decide), .mGa K54 iv (mput (mput v1 ((F25 (a0.2.getD (Int.toNat v2) default)).1) (W ((mget v1 ((F25 (a0.2.getD (Int.toNat v2) default)).1) 0) + 1))) ((F25 (a0.2.getD (Int.toNat v2) default)).2.1) (W ((mget (mput v1 ((F25 (a0.2.getD (Int.toNat v2) default)).1) (W ((mget v1 ((F25 (a0.2.getD (Int.toNat v2) default)).1) 0) + 1))) ((F25 (a0.2.getD (Int.toNat v2) default)).2.1) 0) + 1))) ((F25 (a0.2.getD (Int.toNat v2) default)).2.2) 0 2, .mE K54 iv (mput (mput v1 ((F25 (a0.2.getD (Int.toNat v2) default)).1) (W ((mget v1 ((F25 (a0.2.getD (Int.toNat v2) default)).1) 0) + 1))) ((F25 (a0.2.getD (Int.toNat v2) default)).2.1) (W ((mget (mput v1 ((F25 (a0.2.getD (Int.toNat v2) default)).1) (W ((mget v1 ((F25 (a0.2.getD (Int.toNat v2) default)).1) 0) + 1))) ((F25 (a0.2.getD (Int.toNat v2) default)).2.1) 0) + 1))) ((F25 (a0.2.getD (Int.toNat v2) default)).2.2) 0, .mS K54 iv (mput (mput v1 ((F25 (a0.2.getD (Int.toNat v2) default)).1) (W ((mget v1 ((F25 (a0.2.getD (Int.toNat v2) default)).1) 0) + 1))) ((F25 (a0.2.getD (Int.toNat v2) default)).2.1) (W ((mget (mput v1 ((F25 (a0.2.getD (Int.toNat v2) default)).1) (W ((mget v1 ((F25 (a0.2.getD (Int.toNat v2) default)).1) 0) + 1))) ((F25 (a0.2.getD (Int.toNat v2) default)).2.1) 0) + 1))) ((F25 (a0.2.getD (Int.toNat v2) default)).2.2) 0 (W ((mget (mput (mput v1 ((F25 (a0.2.getD (Int.toNat v2) default)).1) (W ((mget v1 ((F25 (a0.2.getD (Int.toNat v2) default)).1) 0) + 1))) ((F25 (a0.2.getD (Int.toNat v2) default)).2.1) (W ((mget (mput v1 ((F25 (a0.2.getD (Int.toNat v2) default)).1) (W ((mget v1 ((F25 (a0.2.getD (Int.toNat v2) default)).1) 0) + 1))) ((F25 (a0.2.getD (Int.toNat v2) default)).2.1) 0) + 1))) ((F25 (a0.2.getD (Int.toNat v2) default)).2.2) 0) + 1)), .mR kc54 iv (mput (mput v1 ((F25 (a0.2.getD (Int.toNat v2) default)).1) (W ((mget v1 ((F25 (a0.2.getD (Int.toNat v2) default)).1) 0) + 1))) ((F25 (a0.2.getD (Int.toNat v2) default)).2.1) (W ((mget (mput v1 ((F25 (a0.2.getD (Int.toNat v2) default)).1) (W ((mget v1 ((F25 (a0.2.getD (Int.toNat v2) default)).1) 0) + 1))) ((F25 (a0.2.getD (Int.toNat v2) default)).2.1) 0) + 1))) ((F25 (a0.2.getD (Int.toNat v2) default)).2.2) 0, .u 0, .F] [] [3, 10, 11, 12] [2] hcx (m := n) B24_0 (K24_0) (st24_0 a0 (mput (mput (mput v1 ((F25 (a0.2.getD (Int.toNat v2) default)).1) (W ((mget v1 ((F25 (a0.2.getD (Int.toNat v2) default)).1) 0) + 1))) ((F25 (a0.2.getD (Int.toNat v2) default)).2.1) (W ((mget (mput v1 ((F25 (a0.2.getD (Int.toNat v2) default)).1) (W ((mget v1 ((F25 (a0.2.getD (Int.toNat v2) default)).1) 0) + 1))) ((F25 (a0.2.getD (Int.toNat v2) default)).2.1) 0) + 1))) ((F25 (a0.2.getD (Int.toNat v2) default)).2.2) (W ((mget (mput (mput v1 ((F25 (a0.2.getD (Int.toNat v2) default)).1) (W ((mget v1 ((F25 (a0.2.getD (Int.toNat v2) default)).1) 0) + 1))) ((F25 (a0.2.getD (Int.toNat v2) default)).2.1) (W ((mget (mput v1 ((F25 (a0.2.getD (Int.toNat v2) default)).1) (W ((mget v1 ((F25 (a0.2.getD (Int.toNat v2) default)).1) 0) + 1))) ((F25 (a0.2.getD (Int.toNat v2) default)).2.1) 0) + 1))) ((F25 (a0.2.getD (Int.toNat v2) default)).2.2) 0) + 1))) (W (v2 + 1))) (by kernel_rfl) ?_
     have z0 : (W (v2 + 1)) = (v2 + 1) := W_eq (by omega) (by omega)
     rw [z0]
     exact ih (mput (mput (mput v1 ((F25 (a0.2.getD (Int.toNat v2) default)).1) (W ((mget v1 ((F25 (a0.2.getD (Int.toNat v2) default)).1) 0) + 1))) ((F25 (a0.2.getD (Int.toNat v2) default)).2.1) (W ((mget (mput v1 ((F25 (a0.2.getD (Int.toNat v2) default)).1) (W ((mget v1 ((F25 (a0.2.getD (Int.toNat v2) default)).1) 0) + 1))) ((F25 (a0.2.getD (Int.toNat v2) default)).2.1) 0) + 1))) ((F25 (a0.2.getD (Int.toNat v2) default)).2.2) (W ((mget (mput (mput v1 ((F25 (a0.2.getD (Int.toNat v2) default)).1) (W ((mget v1 ((F25 (a0.2.getD (Int.toNat v2) default)).1) 0) + 1))) ((F25 (a0.2.getD (Int.toNat v2) default)).2.1) (W ((mget (mput v1 ((F25 (a0.2.getD (Int.toNat v2) default)).1) (W ((mget v1 ((F25 (a0.2.getD (Int.toNat v2) default)).1) 0) + 1))) ((F25 (a0.2.getD (Int.toNat v2) default)).2.1) 0) + 1))) ((F25 (a0.2.getD (Int.toNat v2) default)).2.2) 0) + 1))) (v2 + 1) (by (try simp only [List.length_append, List.length_cons, List.length_nil, Int.toNat_zero]); omega) (by (try simp only [List.length_append, List.length_cons, List.length_nil, Int.toNat_zero]); omega)
    | false =>
     have q0 := of_decide_eq_false h0
     have e := Eq.refl (S24_0 a0 (v1, v2)); conv at e => rhs; simp only [S24_0, h0, cond_true, cond_false]
     rw [loopF_s, e]
     exact rt [.d h0] [] [2] hcx (by kernel_rfl)

/-- facet/shape.counted -/
def F24 (a0 : (List (Int × Int × Int)) × List (Int × Int × Int)) : List ((Int × Int) × Int) :=
  (loopF (S24_0 a0) (Int.toNat (((a0.2.length : Nat) : Int) - 0) + 1) (([] : List ((Int × Int) × Int)), 0))

theorem C24 (a0 : (List (Int × Int × Int)) × List (Int × Int × Int)) (l0_1 : a0.1.length ≤ 9223372036854775807) (l0_2 : a0.2.length ≤ 9223372036854775807) : Con Try.prog 24 [(.a [(.s 0 0 a0.1.length 3), (.s 1 0 a0.2.length 3)])] [(.live false true (flat c37 a0.1)), (.live false true (flat c46 a0.2))] (.m 2) [(.map (mapE kc54 iv (F24 a0)))] := by
  refine con_s Try.func24 (by kernel_rfl) fun cx hcx => ?_
  have e := Eq.refl (F24 a0); conv at e => rhs; simp only [F24]
  rw [e]
  refine en [] [] [3, 10, 11, 12] [3] hcx B24_0 (K24_0) (st24_0 a0 ([] : List ((Int × Int) × Int)) 0) (Int.toNat (((a0.2.length : Nat) : Int) - 0) + 1) (by kernel_rfl) ?_
  exact L24_0 a0 l0_1 l0_2 hcx (Int.toNat (((a0.2.length : Nat) : Int) - 0) + 1) ([] : List ((Int × Int) × Int)) 0 (by (try simp only [List.length_append, List.length_cons, List.length_nil, Int.toNat_zero]); omega) (by (try simp only [List.length_append, List.length_cons, List.length_nil, Int.toNat_zero]); omega)

/-- api.Panel, as cells -/
def c62 (x : (Int × Int × Int) × (Int × Int × Int) × Int × Int × Int) : List SV := [(iv x.1.1), (iv x.1.2.1), (iv x.1.2.2), (iv x.2.1.1), (iv x.2.1.2.1), (iv x.2.1.2.2), (iv x.2.2.1), (iv x.2.2.2.1), (iv x.2.2.2.2)]
theorem c62_len (x : (Int × Int × Int) × (Int × Int × Int) × Int × Int × Int) : (c62 x).length = 9 := rfl

noncomputable def B42_0 : Code := (loopAtD [1, 1, 0, 1] [] (bodyOf Try.f42) []).1
noncomputable def K42_0 : List K := (loopAtD [1, 1, 0, 1] [] (bodyOf Try.f42) []).2

def st42_0 (a0 : (List (Int × Int × Int)) × List (Int × Int × Int)) (v2c : List SV) (v2n : Nat) (v3 : Int) : LS := ⟨slN 21 [(1, (.p 2 0)), (3, (.s 3 0 v2n 9)), (7, (.s 1 0 a0.2.length 3)), (8, (iv ((a0.2.length : Nat) : Int))), (9, (iv v3))], [(.live false true (flat c37 a0.1)), (.live false true (flat c46 a0.2)), (.live true false [(.s 0 0 a0.1.length 3), (.s 1 0 a0.2.length 3)]), (.live true true v2c)]⟩

/-- a round of loop 0 of facet/shape.panels; the variables: v2 = s3, v3 = s9 -/
def S42_0 (a0 : (List (Int × Int × Int)) × List (Int × Int × Int)) : (List ((Int × Int × Int) × (Int × Int × Int) × Int × Int × Int)) × Int → ((List ((Int × Int × Int) × (Int × Int × Int) × Int × Int × Int)) × Int) ⊕ (List ((Int × Int × Int) × (Int × Int × Int) × Int × Int × Int))
  | (v2, v3) =>
   (bif (decide ((v3 : Int) < ((a0.2.length : Nat) : Int))) then
    (.inl ((v2 ++ [(F41 (a0.1, a0.2) (a0.2.getD (Int.toNat v3) default))]), (v3 + 1)))
   else
    (.inr v2))

set_option maxHeartbeats 4000000 in
theorem L42_0 (a0 : (List (Int × Int × Int)) × List (Int × Int × Int)) (l0_1 : a0.1.length ≤ 9223372036854775807) (l0_2 : a0.2.length ≤ 9223372036854775807) (hv : okTo a0 a0.2.length) (hn : a0.2.length ≤ 96) {cx : Cx} (hcx : cx.base = 2) : ∀ (n : Nat) (v2 : List ((Int × Int × Int) × (Int × Int × Int) × Int × Int × Int)) (v3 : Int), (0 ≤ v3) ∧ (v2.length = Int.toNat v3) ∧ (v3 ≤ a0.2.length) → Int.toNat (((a0.2.length : Nat) : Int) - v3) < n → Aw.Good Try.prog none 9 (bodyPost Try.prog Try.f42 (RR cx (.s 2 0 (loopF (S42_0 a0) n (v2, v3)).length 9) [(.live true true (flat c62 (loopF (S42_0 a0) n (v2, v3))))] [])) cx [] (.l B42_0 n :: K42_0) (st42_0 a0 (flat c62 v2) v2.length v3) := by
  intro n
  induction n with
  | zero => intro v2 v3 hi hn; exact absurd hn (Nat.not_lt_zero _)
  | succ n ih =>
    intro v2 v3 hi hn
    refine good_round ?_
    cases h0 : (decide ((v3 : Int) < ((a0.2.length : Nat) : Int))) with
    | true =>
     have q0 := of_decide_eq_true h0
     have e := Eq.refl (S42_0 a0 (v2, v3)); conv at e => rhs; simp only [S42_0, h0, cond_true, cond_false]
     rw [loopF_inl e]
     refine ba [.d h0, .i v3 (a0.2.length), .L c46_len a0.2 v3 0 3, .c [0, 1] (C41 (a0.1, a0.2) (a0.2.getD (Int.toNat v3) default) (by (try simp only [List.length_append, List.length_cons, List.length_nil, Int.toNat_zero]); omega) (by (try simp only [List.length_append, List.length_cons, List.length_nil, Int.toNat_zero]); omega) (okTo_get hv (by omega) (by omega))), .p (show ((flat c62 v2).length = v2.length * 9 ∧ v2.length + 1 ≤ 2 ^ 40 ∧ (v2.length + 1) * 72 ≤ 2 ^ 47) from app_ok c62_len (by omega) (by omega))] [] [1, 3, 7, 8, 9] [2, 6] hcx (m := n) B42_0 (K42_0) (st42_0 a0 (flat c62 v2 ++ (k9 (F41 (a0.1, a0.2) (a0.2.getD (Int.toNat v3) default)))) (v2.length + 1) (W (v3 + 1))) (by kernel_rfl) ?_
     have z0 : (W (v3 + 1)) = (v3 + 1) := W_eq (by omega) (by omega)
     have z1 : (flat c62 v2 ++ (k9 (F41 (a0.1, a0.2) (a0.2.getD (Int.toNat v3) default)))) = (flat c62 (v2 ++ [(F41 (a0.1, a0.2) (a0.2.getD (Int.toNat v3) default))])) := (flat_append (c := c62) (l := v2) (m := [(F41 (a0.1, a0.2) (a0.2.getD (Int.toNat v3) default))])).symm
     have z2 : (v2.length + 1) = (v2 ++ [(F41 (a0.1, a0.2) (a0.2.getD (Int.toNat v3) default))]).length := len_app v2 [(F41 (a0.1, a0.2) (a0.2.getD (Int.toNat v3) default))] rfl
     rw [z0, z1, z2]
     exact ih (v2 ++ [(F41 (a0.1, a0.2) (a0.2.getD (Int.toNat v3) default))]) (v3 + 1) (by refine ⟨?_, ?_, ?_⟩ <;> (try simp only [List.length_append, List.length_cons, List.length_nil, Int.toNat_zero]) <;> first | omega | assumption | simp) (by (try simp only [List.length_append, List.length_cons, List.length_nil, Int.toNat_zero]); omega)
    | false =>
     have q0 := of_decide_eq_false h0
     have e := Eq.refl (S42_0 a0 (v2, v3)); conv at e => rhs; simp only [S42_0, h0, cond_true, cond_false]
     rw [loopF_s, e]
     exact rt [.d h0] [] [3] hcx (by kernel_rfl)

/-- facet/shape.panels -/
def F42 (a0 : (List (Int × Int × Int)) × List (Int × Int × Int)) : List ((Int × Int × Int) × (Int × Int × Int) × Int × Int × Int) :=
  (loopF (S42_0 a0) (Int.toNat (((a0.2.length : Nat) : Int) - 0) + 1) (([] : List ((Int × Int × Int) × (Int × Int × Int) × Int × Int × Int)), 0))

theorem C42 (a0 : (List (Int × Int × Int)) × List (Int × Int × Int)) (l0_1 : a0.1.length ≤ 9223372036854775807) (l0_2 : a0.2.length ≤ 9223372036854775807) (hv : okTo a0 a0.2.length) (hn : a0.2.length ≤ 96) : Con Try.prog 42 [(.a [(.s 0 0 a0.1.length 3), (.s 1 0 a0.2.length 3)])] [(.live false true (flat c37 a0.1)), (.live false true (flat c46 a0.2))] (.s 2 0 (F42 a0).length 9) [(.live true true (flat c62 (F42 a0)))] := by
  refine con_s Try.func42 (by kernel_rfl) fun cx hcx => ?_
  have e := Eq.refl (F42 a0); conv at e => rhs; simp only [F42]
  rw [e]
  refine en [] [.slot 3 9] [1, 3, 7, 8, 9] [2, 3] hcx B42_0 (K42_0) (st42_0 a0 (flat c62 ([] : List ((Int × Int × Int) × (Int × Int × Int) × Int × Int × Int))) 0 0) (Int.toNat (((a0.2.length : Nat) : Int) - 0) + 1) (by kernel_rfl) ?_
  exact L42_0 a0 l0_1 l0_2 hv hn hcx (Int.toNat (((a0.2.length : Nat) : Int) - 0) + 1) ([] : List ((Int × Int × Int) × (Int × Int × Int) × Int × Int × Int)) 0 (by refine ⟨?_, ?_, ?_⟩ <;> (try simp only [List.length_append, List.length_cons, List.length_nil, Int.toNat_zero]) <;> first | omega | assumption | simp) (by (try simp only [List.length_append, List.length_cons, List.length_nil, Int.toNat_zero]); omega)

/-- the panels are those of the faces -/
theorem pnl_map (m : List (Int × Int × Int) × List (Int × Int × Int)) : F42 m = m.2.map (F41 m) := by
  unfold F42
  rw [show (Int.toNat (((m.2.length : Nat) : Int) - 0) + 1) = m.2.length + 1 by omega]
  rw [each_loop (fun v i => (v, i)) (fun v c => .inl (v ++ [F41 m c])) (fun v => v) (L := m.2) (fun _ _ => True) ?_ (fun _ _ _ _ _ _ _ => trivial) ?_ (by omega) trivial]
  · have key : ∀ (l : List (Int × Int × Int)) (v : List ((Int × Int × Int) × (Int × Int × Int) × Int × Int × Int)), foldE (σ := List ((Int × Int × Int) × (Int × Int × Int) × Int × Int × Int)) (R := List ((Int × Int × Int) × (Int × Int × Int) × Int × Int × Int)) (fun v c => .inl (v ++ [F41 m c])) l v = .inl (v ++ l.map (F41 m)) := by
      intro l
      induction l with
      | nil => intro v; simp [foldE]
      | cons c l ih => intro v; simp only [foldE]; rw [ih]; simp
    rw [key]; simp [outE]
  · intro i c hc v _
    obtain ⟨hlt, hce⟩ := List.getElem?_eq_some_iff.1 hc
    simp only [S42_0]
    rw [decide_eq_true (by omega), cond_true, Int.toNat_natCast, List.getD_eq_getElem?_getD, hc]
    rfl
  · intro v _
    simp only [S42_0]
    rw [decide_eq_false (by omega), cond_false]
theorem pnl_len (m : List (Int × Int × Int) × List (Int × Int × Int)) : (F42 m).length = m.2.length := by rw [pnl_map, List.length_map]

/-- facet/shape.dot -/
def F59 (a0 : Int × Int × Int) (a1 : Int × Int × Int) : Int :=
  (W ((W ((W (a0.1 * a1.1)) + (W (a0.2.1 * a1.2.1)))) + (W (a0.2.2 * a1.2.2))))

theorem C59 (a0 : Int × Int × Int) (a1 : Int × Int × Int) : Con Try.prog 59 [(.a (k3 a0)), (.a (k3 a1))] [] (iv (F59 a0 a1)) [] := by
  refine con_s Try.func59 (by kernel_rfl) fun cx hcx => ?_
  have e := Eq.refl (F59 a0 a1); conv at e => rhs; simp only [F59]
  rw [e]
  exact rt [] [] [] hcx (by kernel_rfl)

/-- facet/shape.product -/
def F43 (a0 : (Int × Int × Int) × (Int × Int × Int) × Int × Int × Int) : Int :=
  (F59 a0.1 (F57 a0.2.1 a0.2.2))

theorem C43 (a0 : (Int × Int × Int) × (Int × Int × Int) × Int × Int × Int) : Con Try.prog 43 [(.a (k9 a0))] [] (iv (F43 a0)) [] := by
  refine con_s Try.func43 (by kernel_rfl) fun cx hcx => ?_
  have e := Eq.refl (F43 a0); conv at e => rhs; simp only [F43]
  rw [e]
  exact rt [.c [] (C57 a0.2.1 a0.2.2), .c [] (C59 a0.1 (F57 a0.2.1 a0.2.2))] [] [] hcx (by kernel_rfl)

noncomputable def B27_0 : Code := (loopAtD [1, 1, 0, 1] [] (bodyOf Try.f27) []).1
noncomputable def K27_0 : List K := (loopAtD [1, 1, 0, 1] [] (bodyOf Try.f27) []).2

def st27_0 (a0 : (List (Int × Int × Int)) × List (Int × Int × Int)) (v1 : Int) (v2 : Int) : LS := ⟨slN 19 [(3, (iv v1)), (7, (.s 2 0 (F42 (a0.1, a0.2)).length 9)), (8, (iv (((F42 (a0.1, a0.2)).length : Nat) : Int))), (9, (iv v2))], [(.live false true (flat c37 a0.1)), (.live false true (flat c46 a0.2)), (.live true true (flat c62 (F42 (a0.1, a0.2))))]⟩

/-- a round of loop 0 of facet/shape.volume6; the variables: v1 = s3, v2 = s9 -/
def S27_0 (a0 : (List (Int × Int × Int)) × List (Int × Int × Int)) : Int × Int → (Int × Int) ⊕ (Int)
  | (v1, v2) =>
   (bif (decide ((v2 : Int) < (((F42 (a0.1, a0.2)).length : Nat) : Int))) then
    (.inl ((W (v1 + (F43 ((F42 (a0.1, a0.2)).getD (Int.toNat v2) default)))), (v2 + 1)))
   else
    (.inr v1))

set_option maxHeartbeats 4000000 in
theorem L27_0 (a0 : (List (Int × Int × Int)) × List (Int × Int × Int)) (l0_1 : a0.1.length ≤ 9223372036854775807) (l0_2 : a0.2.length ≤ 9223372036854775807) (hv : okTo a0 a0.2.length) (hn : a0.2.length ≤ 96) {cx : Cx} (hcx : cx.base = 2) : ∀ (n : Nat) (v1 : Int) (v2 : Int), 0 ≤ v2 → Int.toNat ((((F42 (a0.1, a0.2)).length : Nat) : Int) - v2) < n → Aw.Good Try.prog none 9 (bodyPost Try.prog Try.f27 (RR cx (iv (loopF (S27_0 a0) n (v1, v2))) [] [])) cx [] (.l B27_0 n :: K27_0) (st27_0 a0 v1 v2) := by
  intro n
  induction n with
  | zero => intro v1 v2 hi hn; exact absurd hn (Nat.not_lt_zero _)
  | succ n ih =>
    intro v1 v2 hi hn
    refine good_round ?_
    have hpl : (F42 (a0.1, a0.2)).length = a0.2.length := pnl_len a0
    cases h0 : (decide ((v2 : Int) < (((F42 (a0.1, a0.2)).length : Nat) : Int))) with
    | true =>
     have q0 := of_decide_eq_true h0
     have e := Eq.refl (S27_0 a0 (v1, v2)); conv at e => rhs; simp only [S27_0, h0, cond_true, cond_false]
     rw [loopF_inl e]
     refine ba [.d h0, .i v2 ((F42 (a0.1, a0.2)).length), .L c62_len (F42 (a0.1, a0.2)) v2 0 9, .c [] (C43 ((F42 (a0.1, a0.2)).getD (Int.toNat v2) default))] [] [3, 7, 8, 9] [2] hcx (m := n) B27_0 (K27_0) (st27_0 a0 (W (v1 + (F43 ((F42 (a0.1, a0.2)).getD (Int.toNat v2) default)))) (W (v2 + 1))) (by kernel_rfl) ?_
     have z0 : (W (v2 + 1)) = (v2 + 1) := W_eq (by omega) (by omega)
     rw [z0]
     exact ih (W (v1 + (F43 ((F42 (a0.1, a0.2)).getD (Int.toNat v2) default)))) (v2 + 1) (by (try simp only [List.length_append, List.length_cons, List.length_nil, Int.toNat_zero]); omega) (by (try simp only [List.length_append, List.length_cons, List.length_nil, Int.toNat_zero]); omega)
    | false =>
     have q0 := of_decide_eq_false h0
     have e := Eq.refl (S27_0 a0 (v1, v2)); conv at e => rhs; simp only [S27_0, h0, cond_true, cond_false]
     rw [loopF_s, e]
     exact rt [.d h0] [] [] hcx (by kernel_rfl)

/-- facet/shape.volume6 -/
def F27 (a0 : (List (Int × Int × Int)) × List (Int × Int × Int)) : Int :=
  (loopF (S27_0 a0) (Int.toNat ((((F42 (a0.1, a0.2)).length : Nat) : Int) - 0) + 1) (0, 0))

theorem C27 (a0 : (List (Int × Int × Int)) × List (Int × Int × Int)) (l0_1 : a0.1.length ≤ 9223372036854775807) (l0_2 : a0.2.length ≤ 9223372036854775807) (hv : okTo a0 a0.2.length) (hn : a0.2.length ≤ 96) : Con Try.prog 27 [(.a [(.s 0 0 a0.1.length 3), (.s 1 0 a0.2.length 3)])] [(.live false true (flat c37 a0.1)), (.live false true (flat c46 a0.2))] (iv (F27 a0)) [] := by
  refine con_s Try.func27 (by kernel_rfl) fun cx hcx => ?_
  have e := Eq.refl (F27 a0); conv at e => rhs; simp only [F27]
  rw [e]
  refine en [.c [0, 1] (C42 (a0.1, a0.2) (by (try simp only [List.length_append, List.length_cons, List.length_nil, Int.toNat_zero]); omega) (by (try simp only [List.length_append, List.length_cons, List.length_nil, Int.toNat_zero]); omega) hv hn)] [] [3, 7, 8, 9] [3] hcx B27_0 (K27_0) (st27_0 a0 0 0) (Int.toNat ((((F42 (a0.1, a0.2)).length : Nat) : Int) - 0) + 1) (by kernel_rfl) ?_
  exact L27_0 a0 l0_1 l0_2 hv hn hcx (Int.toNat ((((F42 (a0.1, a0.2)).length : Nat) : Int) - 0) + 1) 0 0 (by (try simp only [List.length_append, List.length_cons, List.length_nil, Int.toNat_zero]); omega) (by (try simp only [List.length_append, List.length_cons, List.length_nil, Int.toNat_zero]); omega)

/-- bool, as cells -/
def c4 (x : Bool) : List SV := [(.v (.bool x))]
theorem c4_len (x : Bool) : (c4 x).length = 1 := rfl

/-- (facet/shape.side).back -/
def F26 (a0 : Int × Int) : Int × Int :=
  (a0.2, a0.1)

theorem C26 (a0 : Int × Int) : Con Try.prog 26 [(.a [(iv a0.1), (iv a0.2)])] [] (.a (k2 (F26 a0))) [] := by
  refine con_s Try.func26 (by kernel_rfl) fun cx hcx => ?_
  have e := Eq.refl (F26 a0); conv at e => rhs; simp only [F26]
  rw [e]
  exact rt [.i 1 2 (by decide), .i 0 2 (by decide)] [] [] hcx (by kernel_rfl)

noncomputable def B13_4 : Code := (loopAtD [1, 1, 1, 1, 1, 1, 1, 0, 1] [] (bodyOf Try.f13) []).1
noncomputable def K13_4 : List K := (loopAtD [1, 1, 1, 1, 1, 1, 1, 0, 1] [] (bodyOf Try.f13) []).2

def st13_4 (a0 : (List (Int × Int × Int)) × List (Int × Int × Int)) (v8c : List SV) (v8n : Nat) (v9 : Int) (v10 : Int) : LS := ⟨slN 98 [(1, (.p 2 0)), (86, (.s 3 0 v8n 1)), (87, (iv v9)), (88, (iv v10))], [(.live false true (flat c37 a0.1)), (.live false true (flat c46 a0.2)), (.live true false [(.s 0 0 a0.1.length 3), (.s 1 0 a0.2.length 3)]), (.live true true v8c)]⟩

/-- a round of loop 4 of facet/shape.Validate; the variables: v8 = s86, v9 = s87, v10 = s88 -/
def S13_4 (a0 : (List (Int × Int × Int)) × List (Int × Int × Int)) : List (Bool) × Int × Int → (List (Bool) × Int × Int) ⊕ (Int)
  | (v8, v9, v10) =>
   (bif (decide ((v10 : Int) < v9)) then
    (bif (!(v8.getD (Int.toNat v10) default)) then
     (.inr 5)
    else
     (.inl (v8, v9, (v10 + 1))))
   else
    (bif (decide (((F27 (a0.1, a0.2)) : Int) ≤ 0)) then
     (.inr 8)
    else
     (.inr 0)))

noncomputable def B13_2 : Code := (loopAtD [1, 1, 1, 1, 1, 1, 0, 1] [] (bodyOf Try.f13) []).1
noncomputable def K13_2 : List K := (loopAtD [1, 1, 1, 1, 1, 1, 0, 1] [] (bodyOf Try.f13) []).2

def st13_2 (a0 : (List (Int × Int × Int)) × List (Int × Int × Int)) (v4c : List SV) (v4n : Nat) (v5 : Int) : LS := ⟨slN 98 [(1, (.p 2 0)), (4, (.s 3 0 v4n 1)), (10, (.m 4)), (62, (.s 1 0 a0.2.length 3)), (63, (iv ((a0.2.length : Nat) : Int))), (64, (iv v5))], [(.live false true (flat c37 a0.1)), (.live false true (flat c46 a0.2)), (.live true false [(.s 0 0 a0.1.length 3), (.s 1 0 a0.2.length 3)]), (.live true true v4c), (.map (mapE kc54 iv (F24 (a0.1, a0.2))))]⟩

/-- a round of loop 2 of facet/shape.Validate; the variables: v4 = s4, v5 = s64 -/
def S13_2 (a0 : (List (Int × Int × Int)) × List (Int × Int × Int)) : List (Bool) × Int → (List (Bool) × Int) ⊕ (Int)
  | (v4, v5) =>
   (bif (decide ((v5 : Int) < ((a0.2.length : Nat) : Int))) then
    (bif (((mget (F24 (a0.1, a0.2)) ((F25 (a0.2.getD (Int.toNat v5) default)).1) 0) : Int) != 1) then
     (.inr 7)
    else
     (bif (((mget (F24 (a0.1, a0.2)) (F26 (F25 (a0.2.getD (Int.toNat v5) default)).1) 0) : Int) != 1) then
      (.inr 7)
     else
      (bif (((mget (F24 (a0.1, a0.2)) ((F25 (a0.2.getD (Int.toNat v5) default)).2.1) 0) : Int) != 1) then
       (.inr 7)
      else
       (bif (((mget (F24 (a0.1, a0.2)) (F26 (F25 (a0.2.getD (Int.toNat v5) default)).2.1) 0) : Int) != 1) then
        (.inr 7)
       else
        (bif (((mget (F24 (a0.1, a0.2)) ((F25 (a0.2.getD (Int.toNat v5) default)).2.2) 0) : Int) != 1) then
         (.inr 7)
        else
         (bif (((mget (F24 (a0.1, a0.2)) (F26 (F25 (a0.2.getD (Int.toNat v5) default)).2.2) 0) : Int) != 1) then
          (.inr 7)
         else
          (.inl (v4, (v5 + 1)))))))))
   else
    (.inr (loopF (S13_4 a0) (Int.toNat (((v4.length : Nat) : Int) - 0) + 1) (v4, ((v4.length : Nat) : Int), 0))))

noncomputable def B13_0 : Code := (loopAtD [1, 1, 1, 1, 0, 1] [] (bodyOf Try.f13) []).1
noncomputable def K13_0 : List K := (loopAtD [1, 1, 1, 1, 0, 1] [] (bodyOf Try.f13) []).2

def st13_0 (a0 : (List (Int × Int × Int)) × List (Int × Int × Int)) (v1c : List SV) (v1n : Nat) (v2 : Int) : LS := ⟨slN 98 [(1, (.p 2 0)), (4, (.s 3 0 v1n 1)), (38, (.s 1 0 a0.2.length 3)), (39, (iv ((a0.2.length : Nat) : Int))), (40, (iv v2))], [(.live false true (flat c37 a0.1)), (.live false true (flat c46 a0.2)), (.live true false [(.s 0 0 a0.1.length 3), (.s 1 0 a0.2.length 3)]), (.live true true v1c)]⟩

/-- a round of loop 0 of facet/shape.Validate; the variables: v1 = s4, v2 = s40 -/
def S13_0 (a0 : (List (Int × Int × Int)) × List (Int × Int × Int)) : List (Bool) × Int → (List (Bool) × Int) ⊕ (Int)
  | (v1, v2) =>
   (bif (decide ((v2 : Int) < ((a0.2.length : Nat) : Int))) then
    (bif (((F23 (a0.1, a0.2) (a0.2.getD (Int.toNat v2) default)) : Int) != 0) then
     (.inr (F23 (a0.1, a0.2) (a0.2.getD (Int.toNat v2) default)))
    else
     (.inl ((((v1.set (Int.toNat (a0.2.getD (Int.toNat v2) default).1) true).set (Int.toNat (a0.2.getD (Int.toNat v2) default).2.1) true).set (Int.toNat (a0.2.getD (Int.toNat v2) default).2.2) true), (v2 + 1))))
   else
    (.inr (loopF (S13_2 a0) (Int.toNat (((a0.2.length : Nat) : Int) - 0) + 1) (v1, 0))))

set_option maxHeartbeats 4000000 in
theorem L13_4 (a0 : (List (Int × Int × Int)) × List (Int × Int × Int)) (l0_1 : a0.1.length ≤ 9223372036854775807) (l0_2 : a0.2.length ≤ 9223372036854775807) {cx : Cx} (hcx : cx.base = 2) : ∀ (n : Nat) (v8 : List (Bool)) (v9 : Int) (v10 : Int), (0 ≤ v10) ∧ (okTo a0 a0.2.length) ∧ (a0.1.length ≤ 64) ∧ (a0.2.length ≤ 96) ∧ (v9 = ((v8.length : Nat) : Int)) ∧ (v8.length = a0.1.length) → Int.toNat (v9 - v10) < n → Aw.Good Try.prog none 9 (bodyPost Try.prog Try.f13 (RR cx (iv (loopF (S13_4 a0) n (v8, v9, v10))) [] [])) cx [] (.l B13_4 n :: K13_4) (st13_4 a0 (flat c4 v8) v8.length v9 v10) := by
  intro n
  induction n with
  | zero => intro v8 v9 v10 hi hn; exact absurd hn (Nat.not_lt_zero _)
  | succ n ih =>
    intro v8 v9 v10 hi hn
    refine good_round ?_
    cases h0 : (decide ((v10 : Int) < v9)) with
    | true =>
     have q0 := of_decide_eq_true h0
     let t1 : List (St Try.prog) := [.d h0, .i v10 (v8.length), .L c4_len v8 v10 0 1]
     cases h1 : (!(v8.getD (Int.toNat v10) default)) with
     | true =>
      have e := Eq.refl (S13_4 a0 (v8, v9, v10)); conv at e => rhs; simp only [S13_4, h0, h1, cond_true, cond_false]
      rw [loopF_s, e]
      exact rt (t1 ++ [.d h1]) [] [] hcx (by kernel_rfl)
     | false =>
      have e := Eq.refl (S13_4 a0 (v8, v9, v10)); conv at e => rhs; simp only [S13_4, h0, h1, cond_true, cond_false]
      rw [loopF_inl e]
      refine ba (t1 ++ [.d h1]) [] [1, 86, 87, 88] [2, 3] hcx (m := n) B13_4 (K13_4) (st13_4 a0 (flat c4 v8) (v8.length) v9 (W (v10 + 1))) (by kernel_rfl) ?_
      have z0 : (W (v10 + 1)) = (v10 + 1) := W_eq (by omega) (by omega)
      rw [z0]
      exact ih v8 v9 (v10 + 1) (by refine ⟨?_, ?_, ?_, ?_, ?_, ?_⟩ <;> first | omega | assumption | exact okTo_0 | exact hi.2.1 | exact hi.2.2.1 | exact okTo_le hi.2.2.1 (by omega) | exact okTo_s hi.2.2.1 hfo | exact okTo_s hi.2.2.1 (by refine ⟨⟨?_, ?_⟩, ⟨?_, ?_⟩, ?_, ?_⟩ <;> omega) | (simp only [List.length_replicate, List.length_set]; omega)) (by (try simp only [List.length_append, List.length_cons, List.length_nil, Int.toNat_zero]); omega)
    | false =>
     have q0 := of_decide_eq_false h0
     let t1 : List (St Try.prog) := [.d h0, .c [0, 1] (C27 (a0.1, a0.2) (by (try simp only [List.length_append, List.length_cons, List.length_nil, Int.toNat_zero]); omega) (by (try simp only [List.length_append, List.length_cons, List.length_nil, Int.toNat_zero]); omega) hi.2.1 (by show a0.2.length ≤ 96; omega))]
     cases h1 : (decide (((F27 (a0.1, a0.2)) : Int) ≤ 0)) with
     | true =>
      have q1 := of_decide_eq_true h1
      have e := Eq.refl (S13_4 a0 (v8, v9, v10)); conv at e => rhs; simp only [S13_4, h0, h1, cond_true, cond_false]
      rw [loopF_s, e]
      exact rt (t1 ++ [.d h1]) [] [] hcx (by kernel_rfl)
     | false =>
      have q1 := of_decide_eq_false h1
      have e := Eq.refl (S13_4 a0 (v8, v9, v10)); conv at e => rhs; simp only [S13_4, h0, h1, cond_true, cond_false]
      rw [loopF_s, e]
      exact rt (t1 ++ [.d h1]) [] [] hcx (by kernel_rfl)

set_option maxHeartbeats 4000000 in
theorem L13_2 (a0 : (List (Int × Int × Int)) × List (Int × Int × Int)) (l0_1 : a0.1.length ≤ 9223372036854775807) (l0_2 : a0.2.length ≤ 9223372036854775807) {cx : Cx} (hcx : cx.base = 2) : ∀ (n : Nat) (v4 : List (Bool)) (v5 : Int), (0 ≤ v5) ∧ (okTo a0 a0.2.length) ∧ (a0.1.length ≤ 64) ∧ (a0.2.length ≤ 96) ∧ (v4.length = a0.1.length) → Int.toNat (((a0.2.length : Nat) : Int) - v5) < n → Aw.Good Try.prog none 9 (bodyPost Try.prog Try.f13 (RR cx (iv (loopF (S13_2 a0) n (v4, v5))) [] [])) cx [] (.l B13_2 n :: K13_2) (st13_2 a0 (flat c4 v4) v4.length v5) := by
  intro n
  induction n with
  | zero => intro v4 v5 hi hn; exact absurd hn (Nat.not_lt_zero _)
  | succ n ih =>
    intro v4 v5 hi hn
    refine good_round ?_
    cases h0 : (decide ((v5 : Int) < ((a0.2.length : Nat) : Int))) with
    | true =>
     have q0 := of_decide_eq_true h0
     let t1 : List (St Try.prog) := [.d h0, .i v5 (a0.2.length), .L c46_len a0.2 v5 0 3, .c [] (C25 (a0.2.getD (Int.toNat v5) default)), .u 200, .T, .i 0 3 (by decide), .mG K54 iv (F24 (a0.1, a0.2)) ((F25 (a0.2.getD (Int.toNat v5) default)).1) 0]
     cases h1 : (((mget (F24 (a0.1, a0.2)) ((F25 (a0.2.getD (Int.toNat v5) default)).1) 0) : Int) != 1) with
     | true =>
      have q1 := bne_iff_ne.1 h1
      have e := Eq.refl (S13_2 a0 (v4, v5)); conv at e => rhs; simp only [S13_2, h0, h1, cond_true, cond_false]
      rw [loopF_s, e]
      exact rt (t1 ++ [.d h1]) [] [] hcx (by kernel_rfl)
     | false =>
      have q1 := bne_eq_false_iff_eq.1 h1
      let t2 : List (St Try.prog) := (t1 ++ [.d h1, .c [] (C26 (F25 (a0.2.getD (Int.toNat v5) default)).1), .mG K54 iv (F24 (a0.1, a0.2)) (F26 (F25 (a0.2.getD (Int.toNat v5) default)).1) 0])
      cases h2 : (((mget (F24 (a0.1, a0.2)) (F26 (F25 (a0.2.getD (Int.toNat v5) default)).1) 0) : Int) != 1) with
      | true =>
       have q2 := bne_iff_ne.1 h2
       have e := Eq.refl (S13_2 a0 (v4, v5)); conv at e => rhs; simp only [S13_2, h0, h1, h2, cond_true, cond_false]
       rw [loopF_s, e]
       exact rt (t2 ++ [.d h2]) [] [] hcx (by kernel_rfl)
      | false =>
       have q2 := bne_eq_false_iff_eq.1 h2
       let t3 : List (St Try.prog) := (t2 ++ [.d h2, .u 0, .T, .i 1 3 (by decide), .mG K54 iv (F24 (a0.1, a0.2)) ((F25 (a0.2.getD (Int.toNat v5) default)).2.1) 0])
       cases h3 : (((mget (F24 (a0.1, a0.2)) ((F25 (a0.2.getD (Int.toNat v5) default)).2.1) 0) : Int) != 1) with
       | true =>
        have q3 := bne_iff_ne.1 h3
        have e := Eq.refl (S13_2 a0 (v4, v5)); conv at e => rhs; simp only [S13_2, h0, h1, h2, h3, cond_true, cond_false]
        rw [loopF_s, e]
        exact rt (t3 ++ [.d h3]) [] [] hcx (by kernel_rfl)
       | false =>
        have q3 := bne_eq_false_iff_eq.1 h3
        let t4 : List (St Try.prog) := (t3 ++ [.d h3, .c [] (C26 (F25 (a0.2.getD (Int.toNat v5) default)).2.1), .mG K54 iv (F24 (a0.1, a0.2)) (F26 (F25 (a0.2.getD (Int.toNat v5) default)).2.1) 0])
        cases h4 : (((mget (F24 (a0.1, a0.2)) (F26 (F25 (a0.2.getD (Int.toNat v5) default)).2.1) 0) : Int) != 1) with
        | true =>
         have q4 := bne_iff_ne.1 h4
         have e := Eq.refl (S13_2 a0 (v4, v5)); conv at e => rhs; simp only [S13_2, h0, h1, h2, h3, h4, cond_true, cond_false]
         rw [loopF_s, e]
         exact rt (t4 ++ [.d h4]) [] [] hcx (by kernel_rfl)
        | false =>
         have q4 := bne_eq_false_iff_eq.1 h4
         let t5 : List (St Try.prog) := (t4 ++ [.d h4, .u 0, .T, .i 2 3 (by decide), .mG K54 iv (F24 (a0.1, a0.2)) ((F25 (a0.2.getD (Int.toNat v5) default)).2.2) 0])
         cases h5 : (((mget (F24 (a0.1, a0.2)) ((F25 (a0.2.getD (Int.toNat v5) default)).2.2) 0) : Int) != 1) with
         | true =>
          have q5 := bne_iff_ne.1 h5
          have e := Eq.refl (S13_2 a0 (v4, v5)); conv at e => rhs; simp only [S13_2, h0, h1, h2, h3, h4, h5, cond_true, cond_false]
          rw [loopF_s, e]
          exact rt (t5 ++ [.d h5]) [] [] hcx (by kernel_rfl)
         | false =>
          have q5 := bne_eq_false_iff_eq.1 h5
          let t6 : List (St Try.prog) := (t5 ++ [.d h5, .c [] (C26 (F25 (a0.2.getD (Int.toNat v5) default)).2.2), .mG K54 iv (F24 (a0.1, a0.2)) (F26 (F25 (a0.2.getD (Int.toNat v5) default)).2.2) 0])
          cases h6 : (((mget (F24 (a0.1, a0.2)) (F26 (F25 (a0.2.getD (Int.toNat v5) default)).2.2) 0) : Int) != 1) with
          | true =>
           have q6 := bne_iff_ne.1 h6
           have e := Eq.refl (S13_2 a0 (v4, v5)); conv at e => rhs; simp only [S13_2, h0, h1, h2, h3, h4, h5, h6, cond_true, cond_false]
           rw [loopF_s, e]
           exact rt (t6 ++ [.d h6]) [] [] hcx (by kernel_rfl)
          | false =>
           have q6 := bne_eq_false_iff_eq.1 h6
           have e := Eq.refl (S13_2 a0 (v4, v5)); conv at e => rhs; simp only [S13_2, h0, h1, h2, h3, h4, h5, h6, cond_true, cond_false]
           rw [loopF_inl e]
           refine ba (t6 ++ [.d h6, .u 0, .F]) [] [1, 4, 10, 62, 63, 64] [2, 3, 4] hcx (m := n) B13_2 (K13_2) (st13_2 a0 (flat c4 v4) (v4.length) (W (v5 + 1))) (by kernel_rfl) ?_
           have z0 : (W (v5 + 1)) = (v5 + 1) := W_eq (by omega) (by omega)
           rw [z0]
           exact ih v4 (v5 + 1) (by refine ⟨?_, ?_, ?_, ?_, ?_⟩ <;> first | omega | assumption | exact okTo_0 | exact hi.2.1 | exact hi.2.2.1 | exact okTo_le hi.2.2.1 (by omega) | exact okTo_s hi.2.2.1 hfo | exact okTo_s hi.2.2.1 (by refine ⟨⟨?_, ?_⟩, ⟨?_, ?_⟩, ?_, ?_⟩ <;> omega) | (simp only [List.length_replicate, List.length_set]; omega)) (by (try simp only [List.length_append, List.length_cons, List.length_nil, Int.toNat_zero]); omega)
    | false =>
     have q0 := of_decide_eq_false h0
     have e := Eq.refl (S13_2 a0 (v4, v5)); conv at e => rhs; simp only [S13_2, h0, cond_true, cond_false]
     rw [loopF_s, e]
     refine en [.d h0] [] [1, 86, 87, 88] [2, 3] hcx B13_4 (K13_4) (st13_4 a0 (flat c4 v4) (v4.length) ((v4.length : Nat) : Int) 0) (Int.toNat (((v4.length : Nat) : Int) - 0) + 1) (by kernel_rfl) ?_
     exact L13_4 a0 l0_1 l0_2 hcx (Int.toNat (((v4.length : Nat) : Int) - 0) + 1) v4 ((v4.length : Nat) : Int) 0 (by refine ⟨?_, ?_, ?_, ?_, ?_, ?_⟩ <;> first | omega | assumption | exact okTo_0 | exact hi.2.1 | exact hi.2.2.1 | exact okTo_le hi.2.2.1 (by omega) | exact okTo_s hi.2.2.1 hfo | exact okTo_s hi.2.2.1 (by refine ⟨⟨?_, ?_⟩, ⟨?_, ?_⟩, ?_, ?_⟩ <;> omega) | (simp only [List.length_replicate, List.length_set]; omega)) (by (try simp only [List.length_append, List.length_cons, List.length_nil, Int.toNat_zero]); omega)

set_option maxHeartbeats 4000000 in
theorem L13_0 (a0 : (List (Int × Int × Int)) × List (Int × Int × Int)) (l0_1 : a0.1.length ≤ 9223372036854775807) (l0_2 : a0.2.length ≤ 9223372036854775807) {cx : Cx} (hcx : cx.base = 2) : ∀ (n : Nat) (v1 : List (Bool)) (v2 : Int), (0 ≤ v2) ∧ (v1.length = a0.1.length) ∧ (okTo a0 v2) ∧ (v2 ≤ a0.2.length) ∧ (a0.1.length ≤ 64) ∧ (a0.2.length ≤ 96) → Int.toNat (((a0.2.length : Nat) : Int) - v2) < n → Aw.Good Try.prog none 9 (bodyPost Try.prog Try.f13 (RR cx (iv (loopF (S13_0 a0) n (v1, v2))) [] [])) cx [] (.l B13_0 n :: K13_0) (st13_0 a0 (flat c4 v1) v1.length v2) := by
  intro n
  induction n with
  | zero => intro v1 v2 hi hn; exact absurd hn (Nat.not_lt_zero _)
  | succ n ih =>
    intro v1 v2 hi hn
    refine good_round ?_
    try have hfo : inF a0.1.length (a0.2.getD (Int.toNat v2) default) := face_in (m := a0) h1 (by omega)
    try have hfo2 := hfo
    try obtain ⟨⟨hf1, hf2⟩, ⟨hf3, hf4⟩, hf5, hf6⟩ := hfo2
    cases h0 : (decide ((v2 : Int) < ((a0.2.length : Nat) : Int))) with
    | true =>
     have q0 := of_decide_eq_true h0
     try have hfo : inF a0.1.length (a0.2.getD (Int.toNat v2) default) := face_in (m := a0) h1 (by omega)
     let t1 : List (St Try.prog) := [.d h0, .i v2 (a0.2.length), .L c46_len a0.2 v2 0 3, .c [0, 1] (C23 (a0.1, a0.2) (a0.2.getD (Int.toNat v2) default) (by (try simp only [List.length_append, List.length_cons, List.length_nil, Int.toNat_zero]); omega) (by (try simp only [List.length_append, List.length_cons, List.length_nil, Int.toNat_zero]); omega) (by (try simp only [List.length_append, List.length_cons, List.length_nil, Int.toNat_zero]); omega))]
     cases h1 : (((F23 (a0.1, a0.2) (a0.2.getD (Int.toNat v2) default)) : Int) != 0) with
     | true =>
      have q1 := bne_iff_ne.1 h1
      try have hfo : inF a0.1.length (a0.2.getD (Int.toNat v2) default) := face_in (m := a0) h1 (by omega)
      have e := Eq.refl (S13_0 a0 (v1, v2)); conv at e => rhs; simp only [S13_0, h0, h1, cond_true, cond_false]
      rw [loopF_s, e]
      exact rt (t1 ++ [.d h1]) [] [] hcx (by kernel_rfl)
     | false =>
      have q1 := bne_eq_false_iff_eq.1 h1
      try have hfo : inF a0.1.length (a0.2.getD (Int.toNat v2) default) := face_in (m := a0) h1 (by omega)
      have e := Eq.refl (S13_0 a0 (v1, v2)); conv at e => rhs; simp only [S13_0, h0, h1, cond_true, cond_false]
      rw [loopF_inl e]
      refine ba (t1 ++ [.d h1, .u 200, .T, .i 0 3 (by decide), .i ((a0.2.getD (Int.toNat v2) default).1) (v1.length), .p (show ((0 + Int.toNat (a0.2.getD (Int.toNat v2) default).1 * 1) + 1 ≤ (flat c4 v1).length) from (flat_setl c4_len (by first | omega | (simp only [List.length_set]; omega)) (i := Int.toNat (a0.2.getD (Int.toNat v2) default).1) (o := 0) (n := 1) (Nat.le_of_ble_eq_true rfl))), .u 0, .T, .i 1 3 (by decide), .i ((a0.2.getD (Int.toNat v2) default).2.1) (v1.length), .p (show ((0 + Int.toNat (a0.2.getD (Int.toNat v2) default).2.1 * 1) + 1 ≤ (splice (flat c4 v1) (0 + Int.toNat (a0.2.getD (Int.toNat v2) default).1 * 1) [(.v (.bool true))]).length) from (by rw [show (splice (flat c4 v1) (0 + Int.toNat (a0.2.getD (Int.toNat v2) default).1 * 1) [(.v (.bool true))]) = flat c4 (v1.set (Int.toNat (a0.2.getD (Int.toNat v2) default).1) true) from (flat_set c4_len (by first | omega | (simp only [List.length_set]; omega)) (i := Int.toNat (a0.2.getD (Int.toNat v2) default).1) (o := 0) (d := default) (y := true) (Nat.le_of_ble_eq_true rfl) rfl)]; exact flat_setl c4_len (by first | omega | (simp only [List.length_set]; omega)) (i := Int.toNat (a0.2.getD (Int.toNat v2) default).2.1) (o := 0) (n := 1) (Nat.le_of_ble_eq_true rfl))), .u 0, .T, .i 2 3 (by decide), .i ((a0.2.getD (Int.toNat v2) default).2.2) (v1.length), .p (show ((0 + Int.toNat (a0.2.getD (Int.toNat v2) default).2.2 * 1) + 1 ≤ (splice (splice (flat c4 v1) (0 + Int.toNat (a0.2.getD (Int.toNat v2) default).1 * 1) [(.v (.bool true))]) (0 + Int.toNat (a0.2.getD (Int.toNat v2) default).2.1 * 1) [(.v (.bool true))]).length) from (by rw [show (splice (splice (flat c4 v1) (0 + Int.toNat (a0.2.getD (Int.toNat v2) default).1 * 1) [(.v (.bool true))]) (0 + Int.toNat (a0.2.getD (Int.toNat v2) default).2.1 * 1) [(.v (.bool true))]) = flat c4 ((v1.set (Int.toNat (a0.2.getD (Int.toNat v2) default).1) true).set (Int.toNat (a0.2.getD (Int.toNat v2) default).2.1) true) from (by rw [show (splice (flat c4 v1) (0 + Int.toNat (a0.2.getD (Int.toNat v2) default).1 * 1) [(.v (.bool true))]) = flat c4 (v1.set (Int.toNat (a0.2.getD (Int.toNat v2) default).1) true) from (flat_set c4_len (by first | omega | (simp only [List.length_set]; omega)) (i := Int.toNat (a0.2.getD (Int.toNat v2) default).1) (o := 0) (d := default) (y := true) (Nat.le_of_ble_eq_true rfl) rfl)]; exact flat_set c4_len (by first | omega | (simp only [List.length_set]; omega)) (i := Int.toNat (a0.2.getD (Int.toNat v2) default).2.1) (o := 0) (d := default) (y := true) (Nat.le_of_ble_eq_true rfl) rfl)]; exact flat_setl c4_len (by first | omega | (simp only [List.length_set]; omega)) (i := Int.toNat (a0.2.getD (Int.toNat v2) default).2.2) (o := 0) (n := 1) (Nat.le_of_ble_eq_true rfl))), .u 0, .F]) [] [1, 4, 38, 39, 40] [2, 3] hcx (m := n) B13_0 (K13_0) (st13_0 a0 (splice (splice (splice (flat c4 v1) (0 + Int.toNat (a0.2.getD (Int.toNat v2) default).1 * 1) [(.v (.bool true))]) (0 + Int.toNat (a0.2.getD (Int.toNat v2) default).2.1 * 1) [(.v (.bool true))]) (0 + Int.toNat (a0.2.getD (Int.toNat v2) default).2.2 * 1) [(.v (.bool true))]) (v1.length) (W (v2 + 1))) (by kernel_rfl) ?_
      have z0 : (W (v2 + 1)) = (v2 + 1) := W_eq (by omega) (by omega)
      have z1 : (splice (splice (splice (flat c4 v1) (0 + Int.toNat (a0.2.getD (Int.toNat v2) default).1 * 1) [(.v (.bool true))]) (0 + Int.toNat (a0.2.getD (Int.toNat v2) default).2.1 * 1) [(.v (.bool true))]) (0 + Int.toNat (a0.2.getD (Int.toNat v2) default).2.2 * 1) [(.v (.bool true))]) = flat c4 (((v1.set (Int.toNat (a0.2.getD (Int.toNat v2) default).1) true).set (Int.toNat (a0.2.getD (Int.toNat v2) default).2.1) true).set (Int.toNat (a0.2.getD (Int.toNat v2) default).2.2) true) := (by rw [show (splice (splice (flat c4 v1) (0 + Int.toNat (a0.2.getD (Int.toNat v2) default).1 * 1) [(.v (.bool true))]) (0 + Int.toNat (a0.2.getD (Int.toNat v2) default).2.1 * 1) [(.v (.bool true))]) = flat c4 ((v1.set (Int.toNat (a0.2.getD (Int.toNat v2) default).1) true).set (Int.toNat (a0.2.getD (Int.toNat v2) default).2.1) true) from (by rw [show (splice (flat c4 v1) (0 + Int.toNat (a0.2.getD (Int.toNat v2) default).1 * 1) [(.v (.bool true))]) = flat c4 (v1.set (Int.toNat (a0.2.getD (Int.toNat v2) default).1) true) from (flat_set c4_len (by first | omega | (simp only [List.length_set]; omega)) (i := Int.toNat (a0.2.getD (Int.toNat v2) default).1) (o := 0) (d := default) (y := true) (Nat.le_of_ble_eq_true rfl) rfl)]; exact flat_set c4_len (by first | omega | (simp only [List.length_set]; omega)) (i := Int.toNat (a0.2.getD (Int.toNat v2) default).2.1) (o := 0) (d := default) (y := true) (Nat.le_of_ble_eq_true rfl) rfl)]; exact flat_set c4_len (by first | omega | (simp only [List.length_set]; omega)) (i := Int.toNat (a0.2.getD (Int.toNat v2) default).2.2) (o := 0) (d := default) (y := true) (Nat.le_of_ble_eq_true rfl) rfl)
      have z2 : v1.length = (((v1.set (Int.toNat (a0.2.getD (Int.toNat v2) default).1) true).set (Int.toNat (a0.2.getD (Int.toNat v2) default).2.1) true).set (Int.toNat (a0.2.getD (Int.toNat v2) default).2.2) true).length := by simp
      rw [z0, z1, z2]
      exact ih (((v1.set (Int.toNat (a0.2.getD (Int.toNat v2) default).1) true).set (Int.toNat (a0.2.getD (Int.toNat v2) default).2.1) true).set (Int.toNat (a0.2.getD (Int.toNat v2) default).2.2) true) (v2 + 1) (by refine ⟨?_, ?_, ?_, ?_, ?_, ?_⟩ <;> first | omega | assumption | exact okTo_0 | exact hi.2.1 | exact hi.2.2.1 | exact okTo_le hi.2.2.1 (by omega) | exact okTo_s hi.2.2.1 hfo | exact okTo_s hi.2.2.1 (by refine ⟨⟨?_, ?_⟩, ⟨?_, ?_⟩, ?_, ?_⟩ <;> omega) | (simp only [List.length_replicate, List.length_set]; omega)) (by (try simp only [List.length_append, List.length_cons, List.length_nil, Int.toNat_zero]); omega)
    | false =>
     have q0 := of_decide_eq_false h0
     try have hfo : inF a0.1.length (a0.2.getD (Int.toNat v2) default) := face_in (m := a0) h1 (by omega)
     have e := Eq.refl (S13_0 a0 (v1, v2)); conv at e => rhs; simp only [S13_0, h0, cond_true, cond_false]
     rw [loopF_s, e]
     refine en [.d h0, .c [0, 1] (C24 (a0.1, a0.2) (by (try simp only [List.length_append, List.length_cons, List.length_nil, Int.toNat_zero]); omega) (by (try simp only [List.length_append, List.length_cons, List.length_nil, Int.toNat_zero]); omega))] [] [1, 4, 10, 62, 63, 64] [2, 3, 4] hcx B13_2 (K13_2) (st13_2 a0 (flat c4 v1) (v1.length) 0) (Int.toNat (((a0.2.length : Nat) : Int) - 0) + 1) (by kernel_rfl) ?_
     exact L13_2 a0 l0_1 l0_2 hcx (Int.toNat (((a0.2.length : Nat) : Int) - 0) + 1) v1 0 (by refine ⟨?_, ?_, ?_, ?_, ?_⟩ <;> first | omega | assumption | exact okTo_0 | exact hi.2.1 | exact hi.2.2.1 | exact okTo_le hi.2.2.1 (by omega) | exact okTo_s hi.2.2.1 hfo | exact okTo_s hi.2.2.1 (by refine ⟨⟨?_, ?_⟩, ⟨?_, ?_⟩, ?_, ?_⟩ <;> omega) | (simp only [List.length_replicate, List.length_set]; omega)) (by (try simp only [List.length_append, List.length_cons, List.length_nil, Int.toNat_zero]); omega)

/-- facet/shape.Validate -/
def F13 (a0 : (List (Int × Int × Int)) × List (Int × Int × Int)) : Int :=
  (bif (decide ((((a0.1.length : Nat) : Int) : Int) > 64)) then
   4
  else
   (bif (!(F21 ((a0.2.length : Nat) : Int) 1 96)) then
    4
   else
    (bif (((F22 (a0.1, a0.2)) : Int) != 0) then
     (F22 (a0.1, a0.2))
    else
     (loopF (S13_0 a0) (Int.toNat (((a0.2.length : Nat) : Int) - 0) + 1) ((List.replicate (Int.toNat ((a0.1.length : Nat) : Int)) false), 0)))))

theorem C13 (a0 : (List (Int × Int × Int)) × List (Int × Int × Int)) (l0_1 : a0.1.length ≤ 9223372036854775807) (l0_2 : a0.2.length ≤ 9223372036854775807) : Con Try.prog 13 [(.a [(.s 0 0 a0.1.length 3), (.s 1 0 a0.2.length 3)])] [(.live false true (flat c37 a0.1)), (.live false true (flat c46 a0.2))] (iv (F13 a0)) [] := by
  refine con_s Try.func13 (by kernel_rfl) fun cx hcx => ?_
  try have hl96 := from_p h1
  cases h0 : (decide ((((a0.1.length : Nat) : Int) : Int) > 64)) with
  | true =>
   have q0 := of_decide_eq_true h0
   try have hl96 := from_p h1
   have e := Eq.refl (F13 a0); conv at e => rhs; simp only [F13, h0, cond_true, cond_false]
   rw [e]
   exact rt [.d h0] [] [] hcx (by kernel_rfl)
  | false =>
   have q0 := of_decide_eq_false h0
   try have hl96 := from_p h1
   let t1 : List (St Try.prog) := [.d h0, .c [] (C21 ((a0.2.length : Nat) : Int) 1 96)]
   cases h1 : (!(F21 ((a0.2.length : Nat) : Int) 1 96)) with
   | true =>
    try have hl96 := from_p h1
    have e := Eq.refl (F13 a0); conv at e => rhs; simp only [F13, h0, h1, cond_true, cond_false]
    rw [e]
    exact rt (t1 ++ [.d h1]) [] [] hcx (by kernel_rfl)
   | false =>
    try have hl96 := from_p h1
    let t2 : List (St Try.prog) := (t1 ++ [.d h1, .c [0, 1] (C22 (a0.1, a0.2) (by (try simp only [List.length_append, List.length_cons, List.length_nil, Int.toNat_zero]); omega) (by (try simp only [List.length_append, List.length_cons, List.length_nil, Int.toNat_zero]); omega))])
    cases h2 : (((F22 (a0.1, a0.2)) : Int) != 0) with
    | true =>
     have q2 := bne_iff_ne.1 h2
     try have hl96 := from_p h1
     have e := Eq.refl (F13 a0); conv at e => rhs; simp only [F13, h0, h1, h2, cond_true, cond_false]
     rw [e]
     exact rt (t2 ++ [.d h2]) [] [] hcx (by kernel_rfl)
    | false =>
     have q2 := bne_eq_false_iff_eq.1 h2
     try have hl96 := from_p h1
     have e := Eq.refl (F13 a0); conv at e => rhs; simp only [F13, h0, h1, h2, cond_true, cond_false]
     rw [e]
     refine en (t2 ++ [.d h2, .Z c4 false [(.v (.bool false))] ((a0.1.length : Nat) : Int) 1]) [] [1, 4, 38, 39, 40] [2, 3] hcx B13_0 (K13_0) (st13_0 a0 (flat c4 (List.replicate (Int.toNat ((a0.1.length : Nat) : Int)) false)) (Int.toNat ((a0.1.length : Nat) : Int)) 0) (Int.toNat (((a0.2.length : Nat) : Int) - 0) + 1) (by kernel_rfl) ?_
     have q := L13_0 a0 l0_1 l0_2 hcx (Int.toNat (((a0.2.length : Nat) : Int) - 0) + 1) (List.replicate (Int.toNat ((a0.1.length : Nat) : Int)) false) 0 (by refine ⟨?_, ?_, ?_, ?_, ?_, ?_⟩ <;> first | omega | assumption | exact okTo_0 | exact hi.2.1 | exact hi.2.2.1 | exact okTo_le hi.2.2.1 (by omega) | exact okTo_s hi.2.2.1 hfo | exact okTo_s hi.2.2.1 (by refine ⟨⟨?_, ?_⟩, ⟨?_, ?_⟩, ?_, ?_⟩ <;> omega) | (simp only [List.length_replicate, List.length_set]; omega)) (by (try simp only [List.length_append, List.length_cons, List.length_nil, Int.toNat_zero]); omega)
     simp only [List.length_replicate] at q
     exact q

/-- facet/facetref02.corners -/
def F31 (a0 : (List (Int × Int × Int)) × List (Int × Int × Int)) (a1 : Int) : (Int × Int × Int) × (Int × Int × Int) × Int × Int × Int :=
  ((a0.1.getD (Int.toNat (a0.2.getD (Int.toNat a1) default).1) default), (a0.1.getD (Int.toNat (a0.2.getD (Int.toNat a1) default).2.1) default), (a0.1.getD (Int.toNat (a0.2.getD (Int.toNat a1) default).2.2) default))

theorem C31 (a0 : (List (Int × Int × Int)) × List (Int × Int × Int)) (a1 : Int) (l0_1 : a0.1.length ≤ 9223372036854775807) (l0_2 : a0.2.length ≤ 9223372036854775807) (hi : 0 ≤ a1 ∧ a1 < (a0.2.length : Int)) (hf : inF a0.1.length (a0.2.getD (Int.toNat a1) default)) : Con Try.prog 31 [(.a [(.s 0 0 a0.1.length 3), (.s 1 0 a0.2.length 3)]), (iv a1)] [(.live false true (flat c37 a0.1)), (.live false true (flat c46 a0.2))] (.a (k9 (F31 a0 a1))) [] := by
  refine con_s Try.func31 (by kernel_rfl) fun cx hcx => ?_
  have e := Eq.refl (F31 a0 a1); conv at e => rhs; simp only [F31]
  rw [e]
  exact rt [.i a1 (a0.2.length), .L c46_len a0.2 a1 0 3, .i 0 3 (by decide), .i ((a0.2.getD (Int.toNat a1) default).1) (a0.1.length), .L c37_len a0.1 (a0.2.getD (Int.toNat a1) default).1 0 3, .i 1 3 (by decide), .i ((a0.2.getD (Int.toNat a1) default).2.1) (a0.1.length), .L c37_len a0.1 (a0.2.getD (Int.toNat a1) default).2.1 0 3, .i 2 3 (by decide), .i ((a0.2.getD (Int.toNat a1) default).2.2) (a0.1.length), .L c37_len a0.1 (a0.2.getD (Int.toNat a1) default).2.2 0 3] [] [] hcx (by kernel_rfl)

noncomputable def B32_0 : Code := (loopAtD [1, 1, 0, 1] [] (bodyOf Try.f32) []).1
noncomputable def K32_0 : List K := (loopAtD [1, 1, 0, 1] [] (bodyOf Try.f32) []).2

def st32_0 (a0 : (List (Int × Int × Int)) × List (Int × Int × Int)) (a1 : Int) (a2 : Int) (v1 : Int) (v2 : Int) : LS := ⟨slN 46 [(1, (iv a1)), (2, (iv a2)), (3, (.p 2 0)), (7, (iv v1)), (8, (iv v2))], [(.live false true (flat c37 a0.1)), (.live false true (flat c46 a0.2)), (.live true false [(.s 0 0 a0.1.length 3), (.s 1 0 a0.2.length 3)])]⟩

/-- a round of loop 0 of facet/facetref02.edges; the variables: v1 = s7, v2 = s8 -/
def S32_0 (a0 : (List (Int × Int × Int)) × List (Int × Int × Int)) (a1 : Int) (a2 : Int) : Int × Int → (Int × Int) ⊕ (Int)
  | (v1, v2) =>
   (bif (decide ((v2 : Int) < ((a0.2.length : Nat) : Int))) then
    (bif (((a0.2.getD (Int.toNat v2) default).1 : Int) == a1) then
     (bif (((a0.2.getD (Int.toNat v2) default).2.1 : Int) == a2) then
      (bif (((a0.2.getD (Int.toNat v2) default).2.1 : Int) == a1) then
       (bif (((a0.2.getD (Int.toNat v2) default).2.2 : Int) == a2) then
        (bif (((a0.2.getD (Int.toNat v2) default).2.2 : Int) == a1) then
         (bif (((a0.2.getD (Int.toNat v2) default).1 : Int) == a2) then
          (.inl ((W ((W ((W (v1 + 1)) + 1)) + 1)), (v2 + 1)))
         else
          (.inl ((W ((W (v1 + 1)) + 1)), (v2 + 1))))
        else
         (.inl ((W ((W (v1 + 1)) + 1)), (v2 + 1))))
       else
        (bif (((a0.2.getD (Int.toNat v2) default).2.2 : Int) == a1) then
         (bif (((a0.2.getD (Int.toNat v2) default).1 : Int) == a2) then
          (.inl ((W ((W (v1 + 1)) + 1)), (v2 + 1)))
         else
          (.inl ((W (v1 + 1)), (v2 + 1))))
        else
         (.inl ((W (v1 + 1)), (v2 + 1)))))
      else
       (bif (((a0.2.getD (Int.toNat v2) default).2.2 : Int) == a1) then
        (bif (((a0.2.getD (Int.toNat v2) default).1 : Int) == a2) then
         (.inl ((W ((W (v1 + 1)) + 1)), (v2 + 1)))
        else
         (.inl ((W (v1 + 1)), (v2 + 1))))
       else
        (.inl ((W (v1 + 1)), (v2 + 1)))))
     else
      (bif (((a0.2.getD (Int.toNat v2) default).2.1 : Int) == a1) then
       (bif (((a0.2.getD (Int.toNat v2) default).2.2 : Int) == a2) then
        (bif (((a0.2.getD (Int.toNat v2) default).2.2 : Int) == a1) then
         (bif (((a0.2.getD (Int.toNat v2) default).1 : Int) == a2) then
          (.inl ((W ((W (v1 + 1)) + 1)), (v2 + 1)))
         else
          (.inl ((W (v1 + 1)), (v2 + 1))))
        else
         (.inl ((W (v1 + 1)), (v2 + 1))))
       else
        (bif (((a0.2.getD (Int.toNat v2) default).2.2 : Int) == a1) then
         (bif (((a0.2.getD (Int.toNat v2) default).1 : Int) == a2) then
          (.inl ((W (v1 + 1)), (v2 + 1)))
         else
          (.inl (v1, (v2 + 1))))
        else
         (.inl (v1, (v2 + 1)))))
      else
       (bif (((a0.2.getD (Int.toNat v2) default).2.2 : Int) == a1) then
        (bif (((a0.2.getD (Int.toNat v2) default).1 : Int) == a2) then
         (.inl ((W (v1 + 1)), (v2 + 1)))
        else
         (.inl (v1, (v2 + 1))))
       else
        (.inl (v1, (v2 + 1))))))
    else
     (bif (((a0.2.getD (Int.toNat v2) default).2.1 : Int) == a1) then
      (bif (((a0.2.getD (Int.toNat v2) default).2.2 : Int) == a2) then
       (bif (((a0.2.getD (Int.toNat v2) default).2.2 : Int) == a1) then
        (bif (((a0.2.getD (Int.toNat v2) default).1 : Int) == a2) then
         (.inl ((W ((W (v1 + 1)) + 1)), (v2 + 1)))
        else
         (.inl ((W (v1 + 1)), (v2 + 1))))
       else
        (.inl ((W (v1 + 1)), (v2 + 1))))
      else
       (bif (((a0.2.getD (Int.toNat v2) default).2.2 : Int) == a1) then
        (bif (((a0.2.getD (Int.toNat v2) default).1 : Int) == a2) then
         (.inl ((W (v1 + 1)), (v2 + 1)))
        else
         (.inl (v1, (v2 + 1))))
       else
        (.inl (v1, (v2 + 1)))))
     else
      (bif (((a0.2.getD (Int.toNat v2) default).2.2 : Int) == a1) then
       (bif (((a0.2.getD (Int.toNat v2) default).1 : Int) == a2) then
        (.inl ((W (v1 + 1)), (v2 + 1)))
       else
        (.inl (v1, (v2 + 1))))
      else
       (.inl (v1, (v2 + 1))))))
   else
    (.inr v1))

set_option maxHeartbeats 4000000 in
theorem L32_0 (a0 : (List (Int × Int × Int)) × List (Int × Int × Int)) (a1 : Int) (a2 : Int) (l0_1 : a0.1.length ≤ 9223372036854775807) (l0_2 : a0.2.length ≤ 9223372036854775807) {cx : Cx} (hcx : cx.base = 2) : ∀ (n : Nat) (v1 : Int) (v2 : Int), 0 ≤ v2 → Int.toNat (((a0.2.length : Nat) : Int) - v2) < n → Aw.Good Try.prog none 9 (bodyPost Try.prog Try.f32 (RR cx (iv (loopF (S32_0 a0 a1 a2) n (v1, v2))) [] [])) cx [] (.l B32_0 n :: K32_0) (st32_0 a0 a1 a2 v1 v2) := by
  intro n
  induction n with
  | zero => intro v1 v2 hi hn; exact absurd hn (Nat.not_lt_zero _)
  | succ n ih =>
    intro v1 v2 hi hn
    refine good_round ?_
    cases h0 : (decide ((v2 : Int) < ((a0.2.length : Nat) : Int))) with
    | true =>
     have q0 := of_decide_eq_true h0
     let t1 : List (St Try.prog) := [.d h0, .u 200, .T, .i v2 (a0.2.length), .i 0 3 (by decide), .L c46_len a0.2 v2 0 1]
     cases h1 : (((a0.2.getD (Int.toNat v2) default).1 : Int) == a1) with
     | true =>
      have q1 := eq_of_beq h1
      let t2 : List (St Try.prog) := (t1 ++ [.d h1, .p (show (3 : Int) ≠ 0 from by decide), .i v2 (a0.2.length), .i 1 3 (by decide), .L c46_len a0.2 v2 1 1])
      cases h2 : (((a0.2.getD (Int.toNat v2) default).2.1 : Int) == a2) with
      | true =>
       have q2 := eq_of_beq h2
       let t3 : List (St Try.prog) := (t2 ++ [.d h2, .u 0, .T, .i v2 (a0.2.length), .i 1 3 (by decide), .L c46_len a0.2 v2 1 1])
       cases h3 : (((a0.2.getD (Int.toNat v2) default).2.1 : Int) == a1) with
       | true =>
        have q3 := eq_of_beq h3
        let t4 : List (St Try.prog) := (t3 ++ [.d h3, .p (show (3 : Int) ≠ 0 from by decide), .i v2 (a0.2.length), .i 2 3 (by decide), .L c46_len a0.2 v2 2 1])
        cases h4 : (((a0.2.getD (Int.toNat v2) default).2.2 : Int) == a2) with
        | true =>
         have q4 := eq_of_beq h4
         let t5 : List (St Try.prog) := (t4 ++ [.d h4, .u 0, .T, .i v2 (a0.2.length), .i 2 3 (by decide), .L c46_len a0.2 v2 2 1])
         cases h5 : (((a0.2.getD (Int.toNat v2) default).2.2 : Int) == a1) with
         | true =>
          have q5 := eq_of_beq h5
          let t6 : List (St Try.prog) := (t5 ++ [.d h5, .p (show (3 : Int) ≠ 0 from by decide), .i v2 (a0.2.length), .i 0 3 (by decide), .L c46_len a0.2 v2 0 1])
          cases h6 : (((a0.2.getD (Int.toNat v2) default).1 : Int) == a2) with
          | true =>
           have q6 := eq_of_beq h6
           have e := Eq.refl (S32_0 a0 a1 a2 (v1, v2)); conv at e => rhs; simp only [S32_0, h0, h1, h2, h3, h4, h5, h6, cond_true, cond_false]
           rw [loopF_inl e]
           refine ba (t6 ++ [.d h6, .u 0, .F]) [] [1, 2, 3, 7, 8] [2] hcx (m := n) B32_0 (K32_0) (st32_0 a0 a1 a2 (W ((W ((W (v1 + 1)) + 1)) + 1)) (W (v2 + 1))) (by kernel_rfl) ?_
           have z0 : (W (v2 + 1)) = (v2 + 1) := W_eq (by omega) (by omega)
           rw [z0]
           exact ih (W ((W ((W (v1 + 1)) + 1)) + 1)) (v2 + 1) (by (try simp only [List.length_append, List.length_cons, List.length_nil, Int.toNat_zero]); omega) (by (try simp only [List.length_append, List.length_cons, List.length_nil, Int.toNat_zero]); omega)
          | false =>
           have q6 := ne_of_beq_false h6
           have e := Eq.refl (S32_0 a0 a1 a2 (v1, v2)); conv at e => rhs; simp only [S32_0, h0, h1, h2, h3, h4, h5, h6, cond_true, cond_false]
           rw [loopF_inl e]
           refine ba (t6 ++ [.d h6, .u 0, .F]) [] [1, 2, 3, 7, 8] [2] hcx (m := n) B32_0 (K32_0) (st32_0 a0 a1 a2 (W ((W (v1 + 1)) + 1)) (W (v2 + 1))) (by kernel_rfl) ?_
           have z0 : (W (v2 + 1)) = (v2 + 1) := W_eq (by omega) (by omega)
           rw [z0]
           exact ih (W ((W (v1 + 1)) + 1)) (v2 + 1) (by (try simp only [List.length_append, List.length_cons, List.length_nil, Int.toNat_zero]); omega) (by (try simp only [List.length_append, List.length_cons, List.length_nil, Int.toNat_zero]); omega)
         | false =>
          have q5 := ne_of_beq_false h5
          have e := Eq.refl (S32_0 a0 a1 a2 (v1, v2)); conv at e => rhs; simp only [S32_0, h0, h1, h2, h3, h4, h5, cond_true, cond_false]
          rw [loopF_inl e]
          refine ba (t5 ++ [.d h5, .u 0, .F]) [] [1, 2, 3, 7, 8] [2] hcx (m := n) B32_0 (K32_0) (st32_0 a0 a1 a2 (W ((W (v1 + 1)) + 1)) (W (v2 + 1))) (by kernel_rfl) ?_
          have z0 : (W (v2 + 1)) = (v2 + 1) := W_eq (by omega) (by omega)
          rw [z0]
          exact ih (W ((W (v1 + 1)) + 1)) (v2 + 1) (by (try simp only [List.length_append, List.length_cons, List.length_nil, Int.toNat_zero]); omega) (by (try simp only [List.length_append, List.length_cons, List.length_nil, Int.toNat_zero]); omega)
        | false =>
         have q4 := ne_of_beq_false h4
         let t5 : List (St Try.prog) := (t4 ++ [.d h4, .u 0, .T, .i v2 (a0.2.length), .i 2 3 (by decide), .L c46_len a0.2 v2 2 1])
         cases h5 : (((a0.2.getD (Int.toNat v2) default).2.2 : Int) == a1) with
         | true =>
          have q5 := eq_of_beq h5
          let t6 : List (St Try.prog) := (t5 ++ [.d h5, .p (show (3 : Int) ≠ 0 from by decide), .i v2 (a0.2.length), .i 0 3 (by decide), .L c46_len a0.2 v2 0 1])
          cases h6 : (((a0.2.getD (Int.toNat v2) default).1 : Int) == a2) with
          | true =>
           have q6 := eq_of_beq h6
           have e := Eq.refl (S32_0 a0 a1 a2 (v1, v2)); conv at e => rhs; simp only [S32_0, h0, h1, h2, h3, h4, h5, h6, cond_true, cond_false]
           rw [loopF_inl e]
           refine ba (t6 ++ [.d h6, .u 0, .F]) [] [1, 2, 3, 7, 8] [2] hcx (m := n) B32_0 (K32_0) (st32_0 a0 a1 a2 (W ((W (v1 + 1)) + 1)) (W (v2 + 1))) (by kernel_rfl) ?_
           have z0 : (W (v2 + 1)) = (v2 + 1) := W_eq (by omega) (by omega)
           rw [z0]
           exact ih (W ((W (v1 + 1)) + 1)) (v2 + 1) (by (try simp only [List.length_append, List.length_cons, List.length_nil, Int.toNat_zero]); omega) (by (try simp only [List.length_append, List.length_cons, List.length_nil, Int.toNat_zero]); omega)
          | false =>
           have q6 := ne_of_beq_false h6
           have e := Eq.refl (S32_0 a0 a1 a2 (v1, v2)); conv at e => rhs; simp only [S32_0, h0, h1, h2, h3, h4, h5, h6, cond_true, cond_false]
           rw [loopF_inl e]
           refine ba (t6 ++ [.d h6, .u 0, .F]) [] [1, 2, 3, 7, 8] [2] hcx (m := n) B32_0 (K32_0) (st32_0 a0 a1 a2 (W (v1 + 1)) (W (v2 + 1))) (by kernel_rfl) ?_
           have z0 : (W (v2 + 1)) = (v2 + 1) := W_eq (by omega) (by omega)
           rw [z0]
           exact ih (W (v1 + 1)) (v2 + 1) (by (try simp only [List.length_append, List.length_cons, List.length_nil, Int.toNat_zero]); omega) (by (try simp only [List.length_append, List.length_cons, List.length_nil, Int.toNat_zero]); omega)
         | false =>
          have q5 := ne_of_beq_false h5
          have e := Eq.refl (S32_0 a0 a1 a2 (v1, v2)); conv at e => rhs; simp only [S32_0, h0, h1, h2, h3, h4, h5, cond_true, cond_false]
          rw [loopF_inl e]
          refine ba (t5 ++ [.d h5, .u 0, .F]) [] [1, 2, 3, 7, 8] [2] hcx (m := n) B32_0 (K32_0) (st32_0 a0 a1 a2 (W (v1 + 1)) (W (v2 + 1))) (by kernel_rfl) ?_
          have z0 : (W (v2 + 1)) = (v2 + 1) := W_eq (by omega) (by omega)
          rw [z0]
          exact ih (W (v1 + 1)) (v2 + 1) (by (try simp only [List.length_append, List.length_cons, List.length_nil, Int.toNat_zero]); omega) (by (try simp only [List.length_append, List.length_cons, List.length_nil, Int.toNat_zero]); omega)
       | false =>
        have q3 := ne_of_beq_false h3
        let t4 : List (St Try.prog) := (t3 ++ [.d h3, .u 0, .T, .i v2 (a0.2.length), .i 2 3 (by decide), .L c46_len a0.2 v2 2 1])
        cases h4 : (((a0.2.getD (Int.toNat v2) default).2.2 : Int) == a1) with
        | true =>
         have q4 := eq_of_beq h4
         let t5 : List (St Try.prog) := (t4 ++ [.d h4, .p (show (3 : Int) ≠ 0 from by decide), .i v2 (a0.2.length), .i 0 3 (by decide), .L c46_len a0.2 v2 0 1])
         cases h5 : (((a0.2.getD (Int.toNat v2) default).1 : Int) == a2) with
         | true =>
          have q5 := eq_of_beq h5
          have e := Eq.refl (S32_0 a0 a1 a2 (v1, v2)); conv at e => rhs; simp only [S32_0, h0, h1, h2, h3, h4, h5, cond_true, cond_false]
          rw [loopF_inl e]
          refine ba (t5 ++ [.d h5, .u 0, .F]) [] [1, 2, 3, 7, 8] [2] hcx (m := n) B32_0 (K32_0) (st32_0 a0 a1 a2 (W ((W (v1 + 1)) + 1)) (W (v2 + 1))) (by kernel_rfl) ?_
          have z0 : (W (v2 + 1)) = (v2 + 1) := W_eq (by omega) (by omega)
          rw [z0]
          exact ih (W ((W (v1 + 1)) + 1)) (v2 + 1) (by (try simp only [List.length_append, List.length_cons, List.length_nil, Int.toNat_zero]); omega) (by (try simp only [List.length_append, List.length_cons, List.length_nil, Int.toNat_zero]); omega)
         | false =>
          have q5 := ne_of_beq_false h5
          have e := Eq.refl (S32_0 a0 a1 a2 (v1, v2)); conv at e => rhs; simp only [S32_0, h0, h1, h2, h3, h4, h5, cond_true, cond_false]
          rw [loopF_inl e]
          refine ba (t5 ++ [.d h5, .u 0, .F]) [] [1, 2, 3, 7, 8] [2] hcx (m := n) B32_0 (K32_0) (st32_0 a0 a1 a2 (W (v1 + 1)) (W (v2 + 1))) (by kernel_rfl) ?_
          have z0 : (W (v2 + 1)) = (v2 + 1) := W_eq (by omega) (by omega)
          rw [z0]
          exact ih (W (v1 + 1)) (v2 + 1) (by (try simp only [List.length_append, List.length_cons, List.length_nil, Int.toNat_zero]); omega) (by (try simp only [List.length_append, List.length_cons, List.length_nil, Int.toNat_zero]); omega)
        | false =>
         have q4 := ne_of_beq_false h4
         have e := Eq.refl (S32_0 a0 a1 a2 (v1, v2)); conv at e => rhs; simp only [S32_0, h0, h1, h2, h3, h4, cond_true, cond_false]
         rw [loopF_inl e]
         refine ba (t4 ++ [.d h4, .u 0, .F]) [] [1, 2, 3, 7, 8] [2] hcx (m := n) B32_0 (K32_0) (st32_0 a0 a1 a2 (W (v1 + 1)) (W (v2 + 1))) (by kernel_rfl) ?_
         have z0 : (W (v2 + 1)) = (v2 + 1) := W_eq (by omega) (by omega)
         rw [z0]
         exact ih (W (v1 + 1)) (v2 + 1) (by (try simp only [List.length_append, List.length_cons, List.length_nil, Int.toNat_zero]); omega) (by (try simp only [List.length_append, List.length_cons, List.length_nil, Int.toNat_zero]); omega)
      | false =>
       have q2 := ne_of_beq_false h2
       let t3 : List (St Try.prog) := (t2 ++ [.d h2, .u 0, .T, .i v2 (a0.2.length), .i 1 3 (by decide), .L c46_len a0.2 v2 1 1])
       cases h3 : (((a0.2.getD (Int.toNat v2) default).2.1 : Int) == a1) with
       | true =>
        have q3 := eq_of_beq h3
        let t4 : List (St Try.prog) := (t3 ++ [.d h3, .p (show (3 : Int) ≠ 0 from by decide), .i v2 (a0.2.length), .i 2 3 (by decide), .L c46_len a0.2 v2 2 1])
        cases h4 : (((a0.2.getD (Int.toNat v2) default).2.2 : Int) == a2) with
        | true =>
         have q4 := eq_of_beq h4
         let t5 : List (St Try.prog) := (t4 ++ [.d h4, .u 0, .T, .i v2 (a0.2.length), .i 2 3 (by decide), .L c46_len a0.2 v2 2 1])
         cases h5 : (((a0.2.getD (Int.toNat v2) default).2.2 : Int) == a1) with
         | true =>
          have q5 := eq_of_beq h5
          let t6 : List (St Try.prog) := (t5 ++ [.d h5, .p (show (3 : Int) ≠ 0 from by decide), .i v2 (a0.2.length), .i 0 3 (by decide), .L c46_len a0.2 v2 0 1])
          cases h6 : (((a0.2.getD (Int.toNat v2) default).1 : Int) == a2) with
          | true =>
           have q6 := eq_of_beq h6
           have e := Eq.refl (S32_0 a0 a1 a2 (v1, v2)); conv at e => rhs; simp only [S32_0, h0, h1, h2, h3, h4, h5, h6, cond_true, cond_false]
           rw [loopF_inl e]
           refine ba (t6 ++ [.d h6, .u 0, .F]) [] [1, 2, 3, 7, 8] [2] hcx (m := n) B32_0 (K32_0) (st32_0 a0 a1 a2 (W ((W (v1 + 1)) + 1)) (W (v2 + 1))) (by kernel_rfl) ?_
           have z0 : (W (v2 + 1)) = (v2 + 1) := W_eq (by omega) (by omega)
           rw [z0]
           exact ih (W ((W (v1 + 1)) + 1)) (v2 + 1) (by (try simp only [List.length_append, List.length_cons, List.length_nil, Int.toNat_zero]); omega) (by (try simp only [List.length_append, List.length_cons, List.length_nil, Int.toNat_zero]); omega)
          | false =>
           have q6 := ne_of_beq_false h6
           have e := Eq.refl (S32_0 a0 a1 a2 (v1, v2)); conv at e => rhs; simp only [S32_0, h0, h1, h2, h3, h4, h5, h6, cond_true, cond_false]
           rw [loopF_inl e]
           refine ba (t6 ++ [.d h6, .u 0, .F]) [] [1, 2, 3, 7, 8] [2] hcx (m := n) B32_0 (K32_0) (st32_0 a0 a1 a2 (W (v1 + 1)) (W (v2 + 1))) (by kernel_rfl) ?_
           have z0 : (W (v2 + 1)) = (v2 + 1) := W_eq (by omega) (by omega)
           rw [z0]
           exact ih (W (v1 + 1)) (v2 + 1) (by (try simp only [List.length_append, List.length_cons, List.length_nil, Int.toNat_zero]); omega) (by (try simp only [List.length_append, List.length_cons, List.length_nil, Int.toNat_zero]); omega)
         | false =>
          have q5 := ne_of_beq_false h5
          have e := Eq.refl (S32_0 a0 a1 a2 (v1, v2)); conv at e => rhs; simp only [S32_0, h0, h1, h2, h3, h4, h5, cond_true, cond_false]
          rw [loopF_inl e]
          refine ba (t5 ++ [.d h5, .u 0, .F]) [] [1, 2, 3, 7, 8] [2] hcx (m := n) B32_0 (K32_0) (st32_0 a0 a1 a2 (W (v1 + 1)) (W (v2 + 1))) (by kernel_rfl) ?_
          have z0 : (W (v2 + 1)) = (v2 + 1) := W_eq (by omega) (by omega)
          rw [z0]
          exact ih (W (v1 + 1)) (v2 + 1) (by (try simp only [List.length_append, List.length_cons, List.length_nil, Int.toNat_zero]); omega) (by (try simp only [List.length_append, List.length_cons, List.length_nil, Int.toNat_zero]); omega)
        | false =>
         have q4 := ne_of_beq_false h4
         let t5 : List (St Try.prog) := (t4 ++ [.d h4, .u 0, .T, .i v2 (a0.2.length), .i 2 3 (by decide), .L c46_len a0.2 v2 2 1])
         cases h5 : (((a0.2.getD (Int.toNat v2) default).2.2 : Int) == a1) with
         | true =>
          have q5 := eq_of_beq h5
          let t6 : List (St Try.prog) := (t5 ++ [.d h5, .p (show (3 : Int) ≠ 0 from by decide), .i v2 (a0.2.length), .i 0 3 (by decide), .L c46_len a0.2 v2 0 1])
          cases h6 : (((a0.2.getD (Int.toNat v2) default).1 : Int) == a2) with
          | true =>
           have q6 := eq_of_beq h6
           have e := Eq.refl (S32_0 a0 a1 a2 (v1, v2)); conv at e => rhs; simp only [S32_0, h0, h1, h2, h3, h4, h5, h6, cond_true, cond_false]
           rw [loopF_inl e]
           refine ba (t6 ++ [.d h6, .u 0, .F]) [] [1, 2, 3, 7, 8] [2] hcx (m := n) B32_0 (K32_0) (st32_0 a0 a1 a2 (W (v1 + 1)) (W (v2 + 1))) (by kernel_rfl) ?_
           have z0 : (W (v2 + 1)) = (v2 + 1) := W_eq (by omega) (by omega)
           rw [z0]
           exact ih (W (v1 + 1)) (v2 + 1) (by (try simp only [List.length_append, List.length_cons, List.length_nil, Int.toNat_zero]); omega) (by (try simp only [List.length_append, List.length_cons, List.length_nil, Int.toNat_zero]); omega)
          | false =>
           have q6 := ne_of_beq_false h6
           have e := Eq.refl (S32_0 a0 a1 a2 (v1, v2)); conv at e => rhs; simp only [S32_0, h0, h1, h2, h3, h4, h5, h6, cond_true, cond_false]
           rw [loopF_inl e]
           refine ba (t6 ++ [.d h6, .u 0, .F]) [] [1, 2, 3, 7, 8] [2] hcx (m := n) B32_0 (K32_0) (st32_0 a0 a1 a2 v1 (W (v2 + 1))) (by kernel_rfl) ?_
           have z0 : (W (v2 + 1)) = (v2 + 1) := W_eq (by omega) (by omega)
           rw [z0]
           exact ih v1 (v2 + 1) (by (try simp only [List.length_append, List.length_cons, List.length_nil, Int.toNat_zero]); omega) (by (try simp only [List.length_append, List.length_cons, List.length_nil, Int.toNat_zero]); omega)
         | false =>
          have q5 := ne_of_beq_false h5
          have e := Eq.refl (S32_0 a0 a1 a2 (v1, v2)); conv at e => rhs; simp only [S32_0, h0, h1, h2, h3, h4, h5, cond_true, cond_false]
          rw [loopF_inl e]
          refine ba (t5 ++ [.d h5, .u 0, .F]) [] [1, 2, 3, 7, 8] [2] hcx (m := n) B32_0 (K32_0) (st32_0 a0 a1 a2 v1 (W (v2 + 1))) (by kernel_rfl) ?_
          have z0 : (W (v2 + 1)) = (v2 + 1) := W_eq (by omega) (by omega)
          rw [z0]
          exact ih v1 (v2 + 1) (by (try simp only [List.length_append, List.length_cons, List.length_nil, Int.toNat_zero]); omega) (by (try simp only [List.length_append, List.length_cons, List.length_nil, Int.toNat_zero]); omega)
       | false =>
        have q3 := ne_of_beq_false h3
        let t4 : List (St Try.prog) := (t3 ++ [.d h3, .u 0, .T, .i v2 (a0.2.length), .i 2 3 (by decide), .L c46_len a0.2 v2 2 1])
        cases h4 : (((a0.2.getD (Int.toNat v2) default).2.2 : Int) == a1) with
        | true =>
         have q4 := eq_of_beq h4
         let t5 : List (St Try.prog) := (t4 ++ [.d h4, .p (show (3 : Int) ≠ 0 from by decide), .i v2 (a0.2.length), .i 0 3 (by decide), .L c46_len a0.2 v2 0 1])
         cases h5 : (((a0.2.getD (Int.toNat v2) default).1 : Int) == a2) with
         | true =>
          have q5 := eq_of_beq h5
          have e := Eq.refl (S32_0 a0 a1 a2 (v1, v2)); conv at e => rhs; simp only [S32_0, h0, h1, h2, h3, h4, h5, cond_true, cond_false]
          rw [loopF_inl e]
          refine ba (t5 ++ [.d h5, .u 0, .F]) [] [1, 2, 3, 7, 8] [2] hcx (m := n) B32_0 (K32_0) (st32_0 a0 a1 a2 (W (v1 + 1)) (W (v2 + 1))) (by kernel_rfl) ?_
          have z0 : (W (v2 + 1)) = (v2 + 1) := W_eq (by omega) (by omega)
          rw [z0]
          exact ih (W (v1 + 1)) (v2 + 1) (by (try simp only [List.length_append, List.length_cons, List.length_nil, Int.toNat_zero]); omega) (by (try simp only [List.length_append, List.length_cons, List.length_nil, Int.toNat_zero]); omega)
         | false =>
          have q5 := ne_of_beq_false h5
          have e := Eq.refl (S32_0 a0 a1 a2 (v1, v2)); conv at e => rhs; simp only [S32_0, h0, h1, h2, h3, h4, h5, cond_true, cond_false]
          rw [loopF_inl e]
          refine ba (t5 ++ [.d h5, .u 0, .F]) [] [1, 2, 3, 7, 8] [2] hcx (m := n) B32_0 (K32_0) (st32_0 a0 a1 a2 v1 (W (v2 + 1))) (by kernel_rfl) ?_
          have z0 : (W (v2 + 1)) = (v2 + 1) := W_eq (by omega) (by omega)
          rw [z0]
          exact ih v1 (v2 + 1) (by (try simp only [List.length_append, List.length_cons, List.length_nil, Int.toNat_zero]); omega) (by (try simp only [List.length_append, List.length_cons, List.length_nil, Int.toNat_zero]); omega)
        | false =>
         have q4 := ne_of_beq_false h4
         have e := Eq.refl (S32_0 a0 a1 a2 (v1, v2)); conv at e => rhs; simp only [S32_0, h0, h1, h2, h3, h4, cond_true, cond_false]
         rw [loopF_inl e]
         refine ba (t4 ++ [.d h4, .u 0, .F]) [] [1, 2, 3, 7, 8] [2] hcx (m := n) B32_0 (K32_0) (st32_0 a0 a1 a2 v1 (W (v2 + 1))) (by kernel_rfl) ?_
         have z0 : (W (v2 + 1)) = (v2 + 1) := W_eq (by omega) (by omega)
         rw [z0]
         exact ih v1 (v2 + 1) (by (try simp only [List.length_append, List.length_cons, List.length_nil, Int.toNat_zero]); omega) (by (try simp only [List.length_append, List.length_cons, List.length_nil, Int.toNat_zero]); omega)
     | false =>
      have q1 := ne_of_beq_false h1
      let t2 : List (St Try.prog) := (t1 ++ [.d h1, .u 0, .T, .i v2 (a0.2.length), .i 1 3 (by decide), .L c46_len a0.2 v2 1 1])
      cases h2 : (((a0.2.getD (Int.toNat v2) default).2.1 : Int) == a1) with
      | true =>
       have q2 := eq_of_beq h2
       let t3 : List (St Try.prog) := (t2 ++ [.d h2, .p (show (3 : Int) ≠ 0 from by decide), .i v2 (a0.2.length), .i 2 3 (by decide), .L c46_len a0.2 v2 2 1])
       cases h3 : (((a0.2.getD (Int.toNat v2) default).2.2 : Int) == a2) with
       | true =>
        have q3 := eq_of_beq h3
        let t4 : List (St Try.prog) := (t3 ++ [.d h3, .u 0, .T, .i v2 (a0.2.length), .i 2 3 (by decide), .L c46_len a0.2 v2 2 1])
        cases h4 : (((a0.2.getD (Int.toNat v2) default).2.2 : Int) == a1) with
        | true =>
         have q4 := eq_of_beq h4
         let t5 : List (St Try.prog) := (t4 ++ [.d h4, .p (show (3 : Int) ≠ 0 from by decide), .i v2 (a0.2.length), .i 0 3 (by decide), .L c46_len a0.2 v2 0 1])
         cases h5 : (((a0.2.getD (Int.toNat v2) default).1 : Int) == a2) with
         | true =>
          have q5 := eq_of_beq h5
          have e := Eq.refl (S32_0 a0 a1 a2 (v1, v2)); conv at e => rhs; simp only [S32_0, h0, h1, h2, h3, h4, h5, cond_true, cond_false]
          rw [loopF_inl e]
          refine ba (t5 ++ [.d h5, .u 0, .F]) [] [1, 2, 3, 7, 8] [2] hcx (m := n) B32_0 (K32_0) (st32_0 a0 a1 a2 (W ((W (v1 + 1)) + 1)) (W (v2 + 1))) (by kernel_rfl) ?_
          have z0 : (W (v2 + 1)) = (v2 + 1) := W_eq (by omega) (by omega)
          rw [z0]
          exact ih (W ((W (v1 + 1)) + 1)) (v2 + 1) (by (try simp only [List.length_append, List.length_cons, List.length_nil, Int.toNat_zero]); omega) (by (try simp only [List.length_append, List.length_cons, List.length_nil, Int.toNat_zero]); omega)
         | false =>
          have q5 := ne_of_beq_false h5
          have e := Eq.refl (S32_0 a0 a1 a2 (v1, v2)); conv at e => rhs; simp only [S32_0, h0, h1, h2, h3, h4, h5, cond_true, cond_false]
          rw [loopF_inl e]
          refine ba (t5 ++ [.d h5, .u 0, .F]) [] [1, 2, 3, 7, 8] [2] hcx (m := n) B32_0 (K32_0) (st32_0 a0 a1 a2 (W (v1 + 1)) (W (v2 + 1))) (by kernel_rfl) ?_
          have z0 : (W (v2 + 1)) = (v2 + 1) := W_eq (by omega) (by omega)
          rw [z0]
          exact ih (W (v1 + 1)) (v2 + 1) (by (try simp only [List.length_append, List.length_cons, List.length_nil, Int.toNat_zero]); omega) (by (try simp only [List.length_append, List.length_cons, List.length_nil, Int.toNat_zero]); omega)
        | false =>
         have q4 := ne_of_beq_false h4
         have e := Eq.refl (S32_0 a0 a1 a2 (v1, v2)); conv at e => rhs; simp only [S32_0, h0, h1, h2, h3, h4, cond_true, cond_false]
         rw [loopF_inl e]
         refine ba (t4 ++ [.d h4, .u 0, .F]) [] [1, 2, 3, 7, 8] [2] hcx (m := n) B32_0 (K32_0) (st32_0 a0 a1 a2 (W (v1 + 1)) (W (v2 + 1))) (by kernel_rfl) ?_
         have z0 : (W (v2 + 1)) = (v2 + 1) := W_eq (by omega) (by omega)
         rw [z0]
         exact ih (W (v1 + 1)) (v2 + 1) (by (try simp only [List.length_append, List.length_cons, List.length_nil, Int.toNat_zero]); omega) (by (try simp only [List.length_append, List.length_cons, List.length_nil, Int.toNat_zero]); omega)
       | false =>
        have q3 := ne_of_beq_false h3
        let t4 : List (St Try.prog) := (t3 ++ [.d h3, .u 0, .T, .i v2 (a0.2.length), .i 2 3 (by decide), .L c46_len a0.2 v2 2 1])
        cases h4 : (((a0.2.getD (Int.toNat v2) default).2.2 : Int) == a1) with
        | true =>
         have q4 := eq_of_beq h4
         let t5 : List (St Try.prog) := (t4 ++ [.d h4, .p (show (3 : Int) ≠ 0 from by decide), .i v2 (a0.2.length), .i 0 3 (by decide), .L c46_len a0.2 v2 0 1])
         cases h5 : (((a0.2.getD (Int.toNat v2) default).1 : Int) == a2) with
         | true =>
          have q5 := eq_of_beq h5
          have e := Eq.refl (S32_0 a0 a1 a2 (v1, v2)); conv at e => rhs; simp only [S32_0, h0, h1, h2, h3, h4, h5, cond_true, cond_false]
          rw [loopF_inl e]
          refine ba (t5 ++ [.d h5, .u 0, .F]) [] [1, 2, 3, 7, 8] [2] hcx (m := n) B32_0 (K32_0) (st32_0 a0 a1 a2 (W (v1 + 1)) (W (v2 + 1))) (by kernel_rfl) ?_
          have z0 : (W (v2 + 1)) = (v2 + 1) := W_eq (by omega) (by omega)
          rw [z0]
          exact ih (W (v1 + 1)) (v2 + 1) (by (try simp only [List.length_append, List.length_cons, List.length_nil, Int.toNat_zero]); omega) (by (try simp only [List.length_append, List.length_cons, List.length_nil, Int.toNat_zero]); omega)
         | false =>
          have q5 := ne_of_beq_false h5
          have e := Eq.refl (S32_0 a0 a1 a2 (v1, v2)); conv at e => rhs; simp only [S32_0, h0, h1, h2, h3, h4, h5, cond_true, cond_false]
          rw [loopF_inl e]
          refine ba (t5 ++ [.d h5, .u 0, .F]) [] [1, 2, 3, 7, 8] [2] hcx (m := n) B32_0 (K32_0) (st32_0 a0 a1 a2 v1 (W (v2 + 1))) (by kernel_rfl) ?_
          have z0 : (W (v2 + 1)) = (v2 + 1) := W_eq (by omega) (by omega)
          rw [z0]
          exact ih v1 (v2 + 1) (by (try simp only [List.length_append, List.length_cons, List.length_nil, Int.toNat_zero]); omega) (by (try simp only [List.length_append, List.length_cons, List.length_nil, Int.toNat_zero]); omega)
        | false =>
         have q4 := ne_of_beq_false h4
         have e := Eq.refl (S32_0 a0 a1 a2 (v1, v2)); conv at e => rhs; simp only [S32_0, h0, h1, h2, h3, h4, cond_true, cond_false]
         rw [loopF_inl e]
         refine ba (t4 ++ [.d h4, .u 0, .F]) [] [1, 2, 3, 7, 8] [2] hcx (m := n) B32_0 (K32_0) (st32_0 a0 a1 a2 v1 (W (v2 + 1))) (by kernel_rfl) ?_
         have z0 : (W (v2 + 1)) = (v2 + 1) := W_eq (by omega) (by omega)
         rw [z0]
         exact ih v1 (v2 + 1) (by (try simp only [List.length_append, List.length_cons, List.length_nil, Int.toNat_zero]); omega) (by (try simp only [List.length_append, List.length_cons, List.length_nil, Int.toNat_zero]); omega)
      | false =>
       have q2 := ne_of_beq_false h2
       let t3 : List (St Try.prog) := (t2 ++ [.d h2, .u 0, .T, .i v2 (a0.2.length), .i 2 3 (by decide), .L c46_len a0.2 v2 2 1])
       cases h3 : (((a0.2.getD (Int.toNat v2) default).2.2 : Int) == a1) with
       | true =>
        have q3 := eq_of_beq h3
        let t4 : List (St Try.prog) := (t3 ++ [.d h3, .p (show (3 : Int) ≠ 0 from by decide), .i v2 (a0.2.length), .i 0 3 (by decide), .L c46_len a0.2 v2 0 1])
        cases h4 : (((a0.2.getD (Int.toNat v2) default).1 : Int) == a2) with
        | true =>
         have q4 := eq_of_beq h4
         have e := Eq.refl (S32_0 a0 a1 a2 (v1, v2)); conv at e => rhs; simp only [S32_0, h0, h1, h2, h3, h4, cond_true, cond_false]
         rw [loopF_inl e]
         refine ba (t4 ++ [.d h4, .u 0, .F]) [] [1, 2, 3, 7, 8] [2] hcx (m := n) B32_0 (K32_0) (st32_0 a0 a1 a2 (W (v1 + 1)) (W (v2 + 1))) (by kernel_rfl) ?_
         have z0 : (W (v2 + 1)) = (v2 + 1) := W_eq (by omega) (by omega)
         rw [z0]
         exact ih (W (v1 + 1)) (v2 + 1) (by (try simp only [List.length_append, List.length_cons, List.length_nil, Int.toNat_zero]); omega) (by (try simp only [List.length_append, List.length_cons, List.length_nil, Int.toNat_zero]); omega)
        | false =>
         have q4 := ne_of_beq_false h4
         have e := Eq.refl (S32_0 a0 a1 a2 (v1, v2)); conv at e => rhs; simp only [S32_0, h0, h1, h2, h3, h4, cond_true, cond_false]
         rw [loopF_inl e]
         refine ba (t4 ++ [.d h4, .u 0, .F]) [] [1, 2, 3, 7, 8] [2] hcx (m := n) B32_0 (K32_0) (st32_0 a0 a1 a2 v1 (W (v2 + 1))) (by kernel_rfl) ?_
         have z0 : (W (v2 + 1)) = (v2 + 1) := W_eq (by omega) (by omega)
         rw [z0]
         exact ih v1 (v2 + 1) (by (try simp only [List.length_append, List.length_cons, List.length_nil, Int.toNat_zero]); omega) (by (try simp only [List.length_append, List.length_cons, List.length_nil, Int.toNat_zero]); omega)
       | false =>
        have q3 := ne_of_beq_false h3
        have e := Eq.refl (S32_0 a0 a1 a2 (v1, v2)); conv at e => rhs; simp only [S32_0, h0, h1, h2, h3, cond_true, cond_false]
        rw [loopF_inl e]
        refine ba (t3 ++ [.d h3, .u 0, .F]) [] [1, 2, 3, 7, 8] [2] hcx (m := n) B32_0 (K32_0) (st32_0 a0 a1 a2 v1 (W (v2 + 1))) (by kernel_rfl) ?_
        have z0 : (W (v2 + 1)) = (v2 + 1) := W_eq (by omega) (by omega)
        rw [z0]
        exact ih v1 (v2 + 1) (by (try simp only [List.length_append, List.length_cons, List.length_nil, Int.toNat_zero]); omega) (by (try simp only [List.length_append, List.length_cons, List.length_nil, Int.toNat_zero]); omega)
    | false =>
     have q0 := of_decide_eq_false h0
     have e := Eq.refl (S32_0 a0 a1 a2 (v1, v2)); conv at e => rhs; simp only [S32_0, h0, cond_true, cond_false]
     rw [loopF_s, e]
     exact rt [.d h0] [] [] hcx (by kernel_rfl)

/-- facet/facetref02.edges -/
def F32 (a0 : (List (Int × Int × Int)) × List (Int × Int × Int)) (a1 : Int) (a2 : Int) : Int :=
  (loopF (S32_0 a0 a1 a2) (Int.toNat (((a0.2.length : Nat) : Int) - 0) + 1) (0, 0))

theorem C32 (a0 : (List (Int × Int × Int)) × List (Int × Int × Int)) (a1 : Int) (a2 : Int) (l0_1 : a0.1.length ≤ 9223372036854775807) (l0_2 : a0.2.length ≤ 9223372036854775807) : Con Try.prog 32 [(.a [(.s 0 0 a0.1.length 3), (.s 1 0 a0.2.length 3)]), (iv a1), (iv a2)] [(.live false true (flat c37 a0.1)), (.live false true (flat c46 a0.2))] (iv (F32 a0 a1 a2)) [] := by
  refine con_s Try.func32 (by kernel_rfl) fun cx hcx => ?_
  have e := Eq.refl (F32 a0 a1 a2); conv at e => rhs; simp only [F32]
  rw [e]
  refine en [] [] [1, 2, 3, 7, 8] [2] hcx B32_0 (K32_0) (st32_0 a0 a1 a2 0 0) (Int.toNat (((a0.2.length : Nat) : Int) - 0) + 1) (by kernel_rfl) ?_
  exact L32_0 a0 a1 a2 l0_1 l0_2 hcx (Int.toNat (((a0.2.length : Nat) : Int) - 0) + 1) 0 0 (by (try simp only [List.length_append, List.length_cons, List.length_nil, Int.toNat_zero]); omega) (by (try simp only [List.length_append, List.length_cons, List.length_nil, Int.toNat_zero]); omega)

noncomputable def B33_0 : Code := (loopAtD [1, 1, 0, 1] [] (bodyOf Try.f33) []).1
noncomputable def K33_0 : List K := (loopAtD [1, 1, 0, 1] [] (bodyOf Try.f33) []).2

def st33_0 (a0 : (List (Int × Int × Int)) × List (Int × Int × Int)) (v1 : Int) (v2 : Int) : LS := ⟨slN 27 [(1, (.p 2 0)), (3, (iv v1)), (4, (iv v2))], [(.live false true (flat c37 a0.1)), (.live false true (flat c46 a0.2)), (.live true false [(.s 0 0 a0.1.length 3), (.s 1 0 a0.2.length 3)])]⟩

/-- a round of loop 0 of facet/facetref02.volume; the variables: v1 = s3, v2 = s4 -/
def S33_0 (a0 : (List (Int × Int × Int)) × List (Int × Int × Int)) : Int × Int → (Int × Int) ⊕ (Int)
  | (v1, v2) =>
   (bif (decide ((v2 : Int) < ((a0.2.length : Nat) : Int))) then
    (.inl ((W (v1 + (F46 (F31 (a0.1, a0.2) v2).1 (F44 (F31 (a0.1, a0.2) v2).2.1 (F31 (a0.1, a0.2) v2).2.2)))), (v2 + 1)))
   else
    (.inr v1))

set_option maxHeartbeats 4000000 in
theorem L33_0 (a0 : (List (Int × Int × Int)) × List (Int × Int × Int)) (l0_1 : a0.1.length ≤ 9223372036854775807) (l0_2 : a0.2.length ≤ 9223372036854775807) (hv : okTo a0 a0.2.length) (hn : a0.2.length ≤ 96) {cx : Cx} (hcx : cx.base = 2) : ∀ (n : Nat) (v1 : Int) (v2 : Int), 0 ≤ v2 → Int.toNat (((a0.2.length : Nat) : Int) - v2) < n → Aw.Good Try.prog none 9 (bodyPost Try.prog Try.f33 (RR cx (iv (loopF (S33_0 a0) n (v1, v2))) [] [])) cx [] (.l B33_0 n :: K33_0) (st33_0 a0 v1 v2) := by
  intro n
  induction n with
  | zero => intro v1 v2 hi hn; exact absurd hn (Nat.not_lt_zero _)
  | succ n ih =>
    intro v1 v2 hi hn
    refine good_round ?_
    cases h0 : (decide ((v2 : Int) < ((a0.2.length : Nat) : Int))) with
    | true =>
     have q0 := of_decide_eq_true h0
     have e := Eq.refl (S33_0 a0 (v1, v2)); conv at e => rhs; simp only [S33_0, h0, cond_true, cond_false]
     rw [loopF_inl e]
     refine ba [.d h0, .c [0, 1] (C31 (a0.1, a0.2) v2 (by (try simp only [List.length_append, List.length_cons, List.length_nil, Int.toNat_zero]); omega) (by (try simp only [List.length_append, List.length_cons, List.length_nil, Int.toNat_zero]); omega) (by show 0 ≤ _ ∧ _ < ((a0.2.length : Nat) : Int); omega) (okTo_get hv (by omega) (by omega))), .c [] (C44 (F31 (a0.1, a0.2) v2).2.1 (F31 (a0.1, a0.2) v2).2.2), .c [] (C46 (F31 (a0.1, a0.2) v2).1 (F44 (F31 (a0.1, a0.2) v2).2.1 (F31 (a0.1, a0.2) v2).2.2))] [] [1, 3, 4] [2] hcx (m := n) B33_0 (K33_0) (st33_0 a0 (W (v1 + (F46 (F31 (a0.1, a0.2) v2).1 (F44 (F31 (a0.1, a0.2) v2).2.1 (F31 (a0.1, a0.2) v2).2.2)))) (W (v2 + 1))) (by kernel_rfl) ?_
     have z0 : (W (v2 + 1)) = (v2 + 1) := W_eq (by omega) (by omega)
     rw [z0]
     exact ih (W (v1 + (F46 (F31 (a0.1, a0.2) v2).1 (F44 (F31 (a0.1, a0.2) v2).2.1 (F31 (a0.1, a0.2) v2).2.2)))) (v2 + 1) (by (try simp only [List.length_append, List.length_cons, List.length_nil, Int.toNat_zero]); omega) (by (try simp only [List.length_append, List.length_cons, List.length_nil, Int.toNat_zero]); omega)
    | false =>
     have q0 := of_decide_eq_false h0
     have e := Eq.refl (S33_0 a0 (v1, v2)); conv at e => rhs; simp only [S33_0, h0, cond_true, cond_false]
     rw [loopF_s, e]
     exact rt [.d h0] [] [] hcx (by kernel_rfl)

/-- facet/facetref02.volume -/
def F33 (a0 : (List (Int × Int × Int)) × List (Int × Int × Int)) : Int :=
  (loopF (S33_0 a0) (Int.toNat (((a0.2.length : Nat) : Int) - 0) + 1) (0, 0))

theorem C33 (a0 : (List (Int × Int × Int)) × List (Int × Int × Int)) (l0_1 : a0.1.length ≤ 9223372036854775807) (l0_2 : a0.2.length ≤ 9223372036854775807) (hv : okTo a0 a0.2.length) (hn : a0.2.length ≤ 96) : Con Try.prog 33 [(.a [(.s 0 0 a0.1.length 3), (.s 1 0 a0.2.length 3)])] [(.live false true (flat c37 a0.1)), (.live false true (flat c46 a0.2))] (iv (F33 a0)) [] := by
  refine con_s Try.func33 (by kernel_rfl) fun cx hcx => ?_
  have e := Eq.refl (F33 a0); conv at e => rhs; simp only [F33]
  rw [e]
  refine en [] [] [1, 3, 4] [2] hcx B33_0 (K33_0) (st33_0 a0 0 0) (Int.toNat (((a0.2.length : Nat) : Int) - 0) + 1) (by kernel_rfl) ?_
  exact L33_0 a0 l0_1 l0_2 hv hn hcx (Int.toNat (((a0.2.length : Nat) : Int) - 0) + 1) 0 0 (by (try simp only [List.length_append, List.length_cons, List.length_nil, Int.toNat_zero]); omega) (by (try simp only [List.length_append, List.length_cons, List.length_nil, Int.toNat_zero]); omega)

noncomputable def B15_1 : Code := (loopAtD [1, 1, 0, 1, 0, 1, 0, 1, 1] [0] (bodyOf Try.f15) []).1
noncomputable def K15_1 (m0 : Nat) : List K := (loopAtD [1, 1, 0, 1, 0, 1, 0, 1, 1] [m0] (bodyOf Try.f15) []).2

def st15_1 (a0 : (List (Int × Int × Int)) × List (Int × Int × Int)) (v3 : Int) (v4 : Int) : LS := ⟨slN 148 [(1, (.p 2 0)), (3, (iv v3)), (4, (iv v4))], [(.live false true (flat c37 a0.1)), (.live false true (flat c46 a0.2)), (.live true false [(.s 0 0 a0.1.length 3), (.s 1 0 a0.2.length 3)])]⟩

/-- a round of loop 1 of facet/facetref02.Validate; the variables: v3 = s3, v4 = s4 -/
def S15_1 (a0 : (List (Int × Int × Int)) × List (Int × Int × Int)) : Int × Int → (Int × Int) ⊕ ((Int) ⊕ (Int))
  | (v3, v4) =>
   (bif (decide ((v4 : Int) < v3)) then
    (bif ((((a0.1.getD (Int.toNat v3) default).1 : Int) == (a0.1.getD (Int.toNat v4) default).1) && ((((a0.1.getD (Int.toNat v3) default).2.1 : Int) == (a0.1.getD (Int.toNat v4) default).2.1) && ((((a0.1.getD (Int.toNat v3) default).2.2 : Int) == (a0.1.getD (Int.toNat v4) default).2.2) && true))) then
     (.inr (.inr 1))
    else
     (.inl (v3, (v4 + 1))))
   else
    (.inr (.inl (v3 + 1))))

noncomputable def B15_6 : Code := (loopAtD [1, 1, 1, 1, 1, 1, 0, 1] [] (bodyOf Try.f15) []).1
noncomputable def K15_6 : List K := (loopAtD [1, 1, 1, 1, 1, 1, 0, 1] [] (bodyOf Try.f15) []).2

def st15_6 (a0 : (List (Int × Int × Int)) × List (Int × Int × Int)) (v11c : List SV) (v11n : Nat) (v12 : Int) : LS := ⟨slN 148 [(1, (.p 2 0)), (5, (.s 3 0 v11n 1)), (13, (iv v12))], [(.live false true (flat c37 a0.1)), (.live false true (flat c46 a0.2)), (.live true false [(.s 0 0 a0.1.length 3), (.s 1 0 a0.2.length 3)]), (.live true true v11c)]⟩

/-- a round of loop 6 of facet/facetref02.Validate; the variables: v11 = s5, v12 = s13 -/
def S15_6 (a0 : (List (Int × Int × Int)) × List (Int × Int × Int)) : List (Bool) × Int → (List (Bool) × Int) ⊕ (Int)
  | (v11, v12) =>
   (bif (decide ((v12 : Int) < ((v11.length : Nat) : Int))) then
    (bif (!(v11.getD (Int.toNat v12) default)) then
     (.inr 5)
    else
     (.inl (v11, (v12 + 1))))
   else
    (bif (decide (((F33 (a0.1, a0.2)) : Int) ≤ 0)) then
     (.inr 8)
    else
     (.inr 0)))

noncomputable def B15_4 : Code := (loopAtD [1, 1, 1, 1, 1, 0, 1] [] (bodyOf Try.f15) []).1
noncomputable def K15_4 : List K := (loopAtD [1, 1, 1, 1, 1, 0, 1] [] (bodyOf Try.f15) []).2

def st15_4 (a0 : (List (Int × Int × Int)) × List (Int × Int × Int)) (v8c : List SV) (v8n : Nat) (v9 : Int) : LS := ⟨slN 148 [(1, (.p 2 0)), (5, (.s 3 0 v8n 1)), (9, (iv v9))], [(.live false true (flat c37 a0.1)), (.live false true (flat c46 a0.2)), (.live true false [(.s 0 0 a0.1.length 3), (.s 1 0 a0.2.length 3)]), (.live true true v8c)]⟩

/-- a round of loop 4 of facet/facetref02.Validate; the variables: v8 = s5, v9 = s9 -/
def S15_4 (a0 : (List (Int × Int × Int)) × List (Int × Int × Int)) : List (Bool) × Int → (List (Bool) × Int) ⊕ (Int)
  | (v8, v9) =>
   (bif (decide ((v9 : Int) < ((a0.2.length : Nat) : Int))) then
    (bif (((F32 (a0.1, a0.2) (a0.2.getD (Int.toNat v9) default).1 (a0.2.getD (Int.toNat v9) default).2.1) : Int) != 1) then
     (.inr 7)
    else
     (bif (((F32 (a0.1, a0.2) (a0.2.getD (Int.toNat v9) default).2.1 (a0.2.getD (Int.toNat v9) default).1) : Int) != 1) then
      (.inr 7)
     else
      (bif (((F32 (a0.1, a0.2) (a0.2.getD (Int.toNat v9) default).2.1 (a0.2.getD (Int.toNat v9) default).2.2) : Int) != 1) then
       (.inr 7)
      else
       (bif (((F32 (a0.1, a0.2) (a0.2.getD (Int.toNat v9) default).2.2 (a0.2.getD (Int.toNat v9) default).2.1) : Int) != 1) then
        (.inr 7)
       else
        (bif (((F32 (a0.1, a0.2) (a0.2.getD (Int.toNat v9) default).2.2 (a0.2.getD (Int.toNat v9) default).1) : Int) != 1) then
         (.inr 7)
        else
         (bif (((F32 (a0.1, a0.2) (a0.2.getD (Int.toNat v9) default).1 (a0.2.getD (Int.toNat v9) default).2.2) : Int) != 1) then
          (.inr 7)
         else
          (.inl (v8, (v9 + 1)))))))))
   else
    (.inr (loopF (S15_6 a0) (Int.toNat (((v8.length : Nat) : Int) - 0) + 1) (v8, 0))))

noncomputable def B15_2 : Code := (loopAtD [1, 1, 1, 1, 0, 1] [] (bodyOf Try.f15) []).1
noncomputable def K15_2 : List K := (loopAtD [1, 1, 1, 1, 0, 1] [] (bodyOf Try.f15) []).2

def st15_2 (a0 : (List (Int × Int × Int)) × List (Int × Int × Int)) (v5c : List SV) (v5n : Nat) (v6 : Int) : LS := ⟨slN 148 [(1, (.p 2 0)), (5, (.s 3 0 v5n 1)), (6, (iv v6))], [(.live false true (flat c37 a0.1)), (.live false true (flat c46 a0.2)), (.live true false [(.s 0 0 a0.1.length 3), (.s 1 0 a0.2.length 3)]), (.live true true v5c)]⟩

/-- a round of loop 2 of facet/facetref02.Validate; the variables: v5 = s5, v6 = s6 -/
def S15_2 (a0 : (List (Int × Int × Int)) × List (Int × Int × Int)) : List (Bool) × Int → (List (Bool) × Int) ⊕ (Int)
  | (v5, v6) =>
   (bif (decide ((v6 : Int) < ((a0.2.length : Nat) : Int))) then
    (bif (decide (((a0.2.getD (Int.toNat v6) default).1 : Int) < 0)) then
     (.inr 5)
    else
     (bif (decide (((a0.2.getD (Int.toNat v6) default).1 : Int) ≥ ((a0.1.length : Nat) : Int))) then
      (.inr 5)
     else
      (bif (decide (((a0.2.getD (Int.toNat v6) default).2.1 : Int) < 0)) then
       (.inr 5)
      else
       (bif (decide (((a0.2.getD (Int.toNat v6) default).2.1 : Int) ≥ ((a0.1.length : Nat) : Int))) then
        (.inr 5)
       else
        (bif (decide (((a0.2.getD (Int.toNat v6) default).2.2 : Int) < 0)) then
         (.inr 5)
        else
         (bif (decide (((a0.2.getD (Int.toNat v6) default).2.2 : Int) ≥ ((a0.1.length : Nat) : Int))) then
          (.inr 5)
         else
          (bif ((((F30 (F31 (a0.1, a0.2) v6)).1 : Int) == 0) && ((((F30 (F31 (a0.1, a0.2) v6)).2.1 : Int) == 0) && ((((F30 (F31 (a0.1, a0.2) v6)).2.2 : Int) == 0) && true))) then
           (.inr 6)
          else
           (.inl ((((v5.set (Int.toNat (a0.2.getD (Int.toNat v6) default).1) true).set (Int.toNat (a0.2.getD (Int.toNat v6) default).2.1) true).set (Int.toNat (a0.2.getD (Int.toNat v6) default).2.2) true), (v6 + 1))))))))))
   else
    (.inr (loopF (S15_4 a0) (Int.toNat (((a0.2.length : Nat) : Int) - 0) + 1) (v5, 0))))

noncomputable def B15_0 : Code := (loopAtD [1, 1, 0, 1] [] (bodyOf Try.f15) []).1
noncomputable def K15_0 : List K := (loopAtD [1, 1, 0, 1] [] (bodyOf Try.f15) []).2

def st15_0 (a0 : (List (Int × Int × Int)) × List (Int × Int × Int)) (v1 : Int) : LS := ⟨slN 148 [(1, (.p 2 0)), (3, (iv v1))], [(.live false true (flat c37 a0.1)), (.live false true (flat c46 a0.2)), (.live true false [(.s 0 0 a0.1.length 3), (.s 1 0 a0.2.length 3)])]⟩

/-- a round of loop 0 of facet/facetref02.Validate; the variables: v1 = s3 -/
def S15_0 (a0 : (List (Int × Int × Int)) × List (Int × Int × Int)) : Int → (Int) ⊕ (Int)
  | v1 =>
   (bif (decide ((v1 : Int) < ((a0.1.length : Nat) : Int))) then
    (bif (!(F29 (a0.1.getD (Int.toNat v1) default) 64)) then
     (.inr 1)
    else
     (loopF (S15_1 a0) (Int.toNat (v1 - 0) + 1) (v1, 0)))
   else
    (.inr (loopF (S15_2 a0) (Int.toNat (((a0.2.length : Nat) : Int) - 0) + 1) ((List.replicate (Int.toNat ((a0.1.length : Nat) : Int)) false), 0))))

set_option maxHeartbeats 4000000 in
theorem L15_1 (a0 : (List (Int × Int × Int)) × List (Int × Int × Int)) (l0_1 : a0.1.length ≤ 9223372036854775807) (l0_2 : a0.2.length ≤ 9223372036854775807) {cx : Cx} (hcx : cx.base = 2)
    (n0 : Nat) (g0 : ∀ (v1 : Int), (0 ≤ v1) ∧ (a0.1.length ≤ 64) ∧ (a0.2.length ≤ 96) → Int.toNat (((a0.1.length : Nat) : Int) - v1) < n0 → Aw.Good Try.prog none 9 (bodyPost Try.prog Try.f15 (RR cx (iv (loopF (S15_0 a0) n0 v1)) [] [])) cx [] (.l B15_0 n0 :: K15_0) (st15_0 a0 v1)) : ∀ (n : Nat) (v3 : Int) (v4 : Int), (0 ≤ v4) ∧ ((0 ≤ v3)) ∧ ((a0.1.length ≤ 64)) ∧ ((a0.2.length ≤ 96)) ∧ (v3 < ((a0.1.length : Nat) : Int)) ∧ (Int.toNat (((a0.1.length : Nat) : Int) - v3) < n0 + 1) → Int.toNat (v3 - v4) < n → Aw.Good Try.prog none 9 (bodyPost Try.prog Try.f15 (RR cx (iv (thenF (S15_0 a0) n0 (loopF (S15_1 a0) n (v3, v4)))) [] [])) cx [] (.l B15_1 n :: K15_1 n0) (st15_1 a0 v3 v4) := by
  intro n
  induction n with
  | zero => intro v3 v4 hi hn; exact absurd hn (Nat.not_lt_zero _)
  | succ n ih =>
    intro v3 v4 hi hn
    refine good_round ?_
    cases h0 : (decide ((v4 : Int) < v3)) with
    | true =>
     have q0 := of_decide_eq_true h0
     let t1 : List (St Try.prog) := [.d h0, .i v3 (a0.1.length), .L c37_len a0.1 v3 0 3, .i v4 (a0.1.length), .L c37_len a0.1 v4 0 3]
     cases h1 : ((((a0.1.getD (Int.toNat v3) default).1 : Int) == (a0.1.getD (Int.toNat v4) default).1) && ((((a0.1.getD (Int.toNat v3) default).2.1 : Int) == (a0.1.getD (Int.toNat v4) default).2.1) && ((((a0.1.getD (Int.toNat v3) default).2.2 : Int) == (a0.1.getD (Int.toNat v4) default).2.2) && true))) with
     | true =>
      have e := Eq.refl (S15_1 a0 (v3, v4)); conv at e => rhs; simp only [S15_1, h0, h1, cond_true, cond_false]
      rw [loopF_s, e]
      exact rt (t1 ++ [.d h1]) [] [] hcx (by kernel_rfl)
     | false =>
      have e := Eq.refl (S15_1 a0 (v3, v4)); conv at e => rhs; simp only [S15_1, h0, h1, cond_true, cond_false]
      rw [loopF_inl e]
      refine ba (t1 ++ [.d h1]) [] [1, 3, 4] [2] hcx (m := n) B15_1 (K15_1 n0) (st15_1 a0 v3 (W (v4 + 1))) (by kernel_rfl) ?_
      have z0 : (W (v4 + 1)) = (v4 + 1) := W_eq (by omega) (by omega)
      rw [z0]
      exact ih v3 (v4 + 1) (by refine ⟨?_, ?_, ?_, ?_, ?_, ?_⟩ <;> (try simp only [List.length_append, List.length_cons, List.length_nil, Int.toNat_zero]) <;> first | omega | assumption | exact hi.2.1 | exact hi.2.2.1 | exact hi.2.2.2.1 | exact hi.2.2.2.2.1 | exact hi.2.2.2.2.2.1 | simp) (by (try simp only [List.length_append, List.length_cons, List.length_nil, Int.toNat_zero]); omega)
    | false =>
     have q0 := of_decide_eq_false h0
     have e := Eq.refl (S15_1 a0 (v3, v4)); conv at e => rhs; simp only [S15_1, h0, cond_true, cond_false]
     rw [loopF_s, e]
     refine ba [.d h0] [] [1, 3] [2] hcx (m := n0) B15_0 (K15_0) (st15_0 a0 (W (v3 + 1))) (by kernel_rfl) ?_
     have z0 : (W (v3 + 1)) = (v3 + 1) := W_eq (by omega) (by omega)
     rw [z0]
     exact g0 (v3 + 1) (by refine ⟨?_, ?_, ?_⟩ <;> (try simp only [List.length_append, List.length_cons, List.length_nil, Int.toNat_zero]) <;> first | omega | assumption | simp) (by (try simp only [List.length_append, List.length_cons, List.length_nil, Int.toNat_zero]); omega)

set_option maxHeartbeats 4000000 in
theorem L15_6 (a0 : (List (Int × Int × Int)) × List (Int × Int × Int)) (l0_1 : a0.1.length ≤ 9223372036854775807) (l0_2 : a0.2.length ≤ 9223372036854775807) {cx : Cx} (hcx : cx.base = 2) : ∀ (n : Nat) (v11 : List (Bool)) (v12 : Int), (0 ≤ v12) ∧ (okTo a0 a0.2.length) ∧ (a0.1.length ≤ 64) ∧ (a0.2.length ≤ 96) ∧ (v11.length = a0.1.length) → Int.toNat (((v11.length : Nat) : Int) - v12) < n → Aw.Good Try.prog none 9 (bodyPost Try.prog Try.f15 (RR cx (iv (loopF (S15_6 a0) n (v11, v12))) [] [])) cx [] (.l B15_6 n :: K15_6) (st15_6 a0 (flat c4 v11) v11.length v12) := by
  intro n
  induction n with
  | zero => intro v11 v12 hi hn; exact absurd hn (Nat.not_lt_zero _)
  | succ n ih =>
    intro v11 v12 hi hn
    refine good_round ?_
    cases h0 : (decide ((v12 : Int) < ((v11.length : Nat) : Int))) with
    | true =>
     have q0 := of_decide_eq_true h0
     let t1 : List (St Try.prog) := [.d h0, .i v12 (v11.length), .L c4_len v11 v12 0 1]
     cases h1 : (!(v11.getD (Int.toNat v12) default)) with
     | true =>
      have e := Eq.refl (S15_6 a0 (v11, v12)); conv at e => rhs; simp only [S15_6, h0, h1, cond_true, cond_false]
      rw [loopF_s, e]
      exact rt (t1 ++ [.d h1]) [] [] hcx (by kernel_rfl)
     | false =>
      have e := Eq.refl (S15_6 a0 (v11, v12)); conv at e => rhs; simp only [S15_6, h0, h1, cond_true, cond_false]
      rw [loopF_inl e]
      refine ba (t1 ++ [.d h1]) [] [1, 5, 13] [2, 3] hcx (m := n) B15_6 (K15_6) (st15_6 a0 (flat c4 v11) (v11.length) (W (v12 + 1))) (by kernel_rfl) ?_
      have z0 : (W (v12 + 1)) = (v12 + 1) := W_eq (by omega) (by omega)
      rw [z0]
      exact ih v11 (v12 + 1) (by refine ⟨?_, ?_, ?_, ?_, ?_⟩ <;> first | omega | assumption | exact okTo_0 | exact hi.2.1 | exact hi.2.2.1 | exact okTo_le hi.2.2.1 (by omega) | exact okTo_s hi.2.2.1 hfo | exact okTo_s hi.2.2.1 (by refine ⟨⟨?_, ?_⟩, ⟨?_, ?_⟩, ?_, ?_⟩ <;> omega) | (simp only [List.length_replicate, List.length_set]; omega)) (by (try simp only [List.length_append, List.length_cons, List.length_nil, Int.toNat_zero]); omega)
    | false =>
     have q0 := of_decide_eq_false h0
     let t1 : List (St Try.prog) := [.d h0, .c [0, 1] (C33 (a0.1, a0.2) (by (try simp only [List.length_append, List.length_cons, List.length_nil, Int.toNat_zero]); omega) (by (try simp only [List.length_append, List.length_cons, List.length_nil, Int.toNat_zero]); omega) hi.2.1 (by show a0.2.length ≤ 96; omega))]
     cases h1 : (decide (((F33 (a0.1, a0.2)) : Int) ≤ 0)) with
     | true =>
      have q1 := of_decide_eq_true h1
      have e := Eq.refl (S15_6 a0 (v11, v12)); conv at e => rhs; simp only [S15_6, h0, h1, cond_true, cond_false]
      rw [loopF_s, e]
      exact rt (t1 ++ [.d h1]) [] [] hcx (by kernel_rfl)
     | false =>
      have q1 := of_decide_eq_false h1
      have e := Eq.refl (S15_6 a0 (v11, v12)); conv at e => rhs; simp only [S15_6, h0, h1, cond_true, cond_false]
      rw [loopF_s, e]
      exact rt (t1 ++ [.d h1]) [] [] hcx (by kernel_rfl)

set_option maxHeartbeats 4000000 in
theorem L15_4 (a0 : (List (Int × Int × Int)) × List (Int × Int × Int)) (l0_1 : a0.1.length ≤ 9223372036854775807) (l0_2 : a0.2.length ≤ 9223372036854775807) {cx : Cx} (hcx : cx.base = 2) : ∀ (n : Nat) (v8 : List (Bool)) (v9 : Int), (0 ≤ v9) ∧ (okTo a0 a0.2.length) ∧ (a0.1.length ≤ 64) ∧ (a0.2.length ≤ 96) ∧ (v8.length = a0.1.length) → Int.toNat (((a0.2.length : Nat) : Int) - v9) < n → Aw.Good Try.prog none 9 (bodyPost Try.prog Try.f15 (RR cx (iv (loopF (S15_4 a0) n (v8, v9))) [] [])) cx [] (.l B15_4 n :: K15_4) (st15_4 a0 (flat c4 v8) v8.length v9) := by
  intro n
  induction n with
  | zero => intro v8 v9 hi hn; exact absurd hn (Nat.not_lt_zero _)
  | succ n ih =>
    intro v8 v9 hi hn
    refine good_round ?_
    cases h0 : (decide ((v9 : Int) < ((a0.2.length : Nat) : Int))) with
    | true =>
     have q0 := of_decide_eq_true h0
     let t1 : List (St Try.prog) := [.d h0, .u 200, .T, .i v9 (a0.2.length), .i 0 3 (by decide), .L c46_len a0.2 v9 0 1, .p (show (3 : Int) ≠ 0 from by decide), .i v9 (a0.2.length), .i 1 3 (by decide), .L c46_len a0.2 v9 1 1, .c [0, 1] (C32 (a0.1, a0.2) (a0.2.getD (Int.toNat v9) default).1 (a0.2.getD (Int.toNat v9) default).2.1 (by (try simp only [List.length_append, List.length_cons, List.length_nil, Int.toNat_zero]); omega) (by (try simp only [List.length_append, List.length_cons, List.length_nil, Int.toNat_zero]); omega))]
     cases h1 : (((F32 (a0.1, a0.2) (a0.2.getD (Int.toNat v9) default).1 (a0.2.getD (Int.toNat v9) default).2.1) : Int) != 1) with
     | true =>
      have q1 := bne_iff_ne.1 h1
      have e := Eq.refl (S15_4 a0 (v8, v9)); conv at e => rhs; simp only [S15_4, h0, h1, cond_true, cond_false]
      rw [loopF_s, e]
      exact rt (t1 ++ [.d h1]) [] [] hcx (by kernel_rfl)
     | false =>
      have q1 := bne_eq_false_iff_eq.1 h1
      let t2 : List (St Try.prog) := (t1 ++ [.d h1, .c [0, 1] (C32 (a0.1, a0.2) (a0.2.getD (Int.toNat v9) default).2.1 (a0.2.getD (Int.toNat v9) default).1 (by (try simp only [List.length_append, List.length_cons, List.length_nil, Int.toNat_zero]); omega) (by (try simp only [List.length_append, List.length_cons, List.length_nil, Int.toNat_zero]); omega))])
      cases h2 : (((F32 (a0.1, a0.2) (a0.2.getD (Int.toNat v9) default).2.1 (a0.2.getD (Int.toNat v9) default).1) : Int) != 1) with
      | true =>
       have q2 := bne_iff_ne.1 h2
       have e := Eq.refl (S15_4 a0 (v8, v9)); conv at e => rhs; simp only [S15_4, h0, h1, h2, cond_true, cond_false]
       rw [loopF_s, e]
       exact rt (t2 ++ [.d h2]) [] [] hcx (by kernel_rfl)
      | false =>
       have q2 := bne_eq_false_iff_eq.1 h2
       let t3 : List (St Try.prog) := (t2 ++ [.d h2, .u 0, .T, .i v9 (a0.2.length), .i 1 3 (by decide), .L c46_len a0.2 v9 1 1, .p (show (3 : Int) ≠ 0 from by decide), .i v9 (a0.2.length), .i 2 3 (by decide), .L c46_len a0.2 v9 2 1, .c [0, 1] (C32 (a0.1, a0.2) (a0.2.getD (Int.toNat v9) default).2.1 (a0.2.getD (Int.toNat v9) default).2.2 (by (try simp only [List.length_append, List.length_cons, List.length_nil, Int.toNat_zero]); omega) (by (try simp only [List.length_append, List.length_cons, List.length_nil, Int.toNat_zero]); omega))])
       cases h3 : (((F32 (a0.1, a0.2) (a0.2.getD (Int.toNat v9) default).2.1 (a0.2.getD (Int.toNat v9) default).2.2) : Int) != 1) with
       | true =>
        have q3 := bne_iff_ne.1 h3
        have e := Eq.refl (S15_4 a0 (v8, v9)); conv at e => rhs; simp only [S15_4, h0, h1, h2, h3, cond_true, cond_false]
        rw [loopF_s, e]
        exact rt (t3 ++ [.d h3]) [] [] hcx (by kernel_rfl)
       | false =>
        have q3 := bne_eq_false_iff_eq.1 h3
        let t4 : List (St Try.prog) := (t3 ++ [.d h3, .c [0, 1] (C32 (a0.1, a0.2) (a0.2.getD (Int.toNat v9) default).2.2 (a0.2.getD (Int.toNat v9) default).2.1 (by (try simp only [List.length_append, List.length_cons, List.length_nil, Int.toNat_zero]); omega) (by (try simp only [List.length_append, List.length_cons, List.length_nil, Int.toNat_zero]); omega))])
        cases h4 : (((F32 (a0.1, a0.2) (a0.2.getD (Int.toNat v9) default).2.2 (a0.2.getD (Int.toNat v9) default).2.1) : Int) != 1) with
        | true =>
         have q4 := bne_iff_ne.1 h4
         have e := Eq.refl (S15_4 a0 (v8, v9)); conv at e => rhs; simp only [S15_4, h0, h1, h2, h3, h4, cond_true, cond_false]
         rw [loopF_s, e]
         exact rt (t4 ++ [.d h4]) [] [] hcx (by kernel_rfl)
        | false =>
         have q4 := bne_eq_false_iff_eq.1 h4
         let t5 : List (St Try.prog) := (t4 ++ [.d h4, .u 0, .T, .i v9 (a0.2.length), .i 2 3 (by decide), .L c46_len a0.2 v9 2 1, .p (show (3 : Int) ≠ 0 from by decide), .i v9 (a0.2.length), .i 0 3 (by decide), .L c46_len a0.2 v9 0 1, .c [0, 1] (C32 (a0.1, a0.2) (a0.2.getD (Int.toNat v9) default).2.2 (a0.2.getD (Int.toNat v9) default).1 (by (try simp only [List.length_append, List.length_cons, List.length_nil, Int.toNat_zero]); omega) (by (try simp only [List.length_append, List.length_cons, List.length_nil, Int.toNat_zero]); omega))])
         cases h5 : (((F32 (a0.1, a0.2) (a0.2.getD (Int.toNat v9) default).2.2 (a0.2.getD (Int.toNat v9) default).1) : Int) != 1) with
         | true =>
          have q5 := bne_iff_ne.1 h5
          have e := Eq.refl (S15_4 a0 (v8, v9)); conv at e => rhs; simp only [S15_4, h0, h1, h2, h3, h4, h5, cond_true, cond_false]
          rw [loopF_s, e]
          exact rt (t5 ++ [.d h5]) [] [] hcx (by kernel_rfl)
         | false =>
          have q5 := bne_eq_false_iff_eq.1 h5
          let t6 : List (St Try.prog) := (t5 ++ [.d h5, .c [0, 1] (C32 (a0.1, a0.2) (a0.2.getD (Int.toNat v9) default).1 (a0.2.getD (Int.toNat v9) default).2.2 (by (try simp only [List.length_append, List.length_cons, List.length_nil, Int.toNat_zero]); omega) (by (try simp only [List.length_append, List.length_cons, List.length_nil, Int.toNat_zero]); omega))])
          cases h6 : (((F32 (a0.1, a0.2) (a0.2.getD (Int.toNat v9) default).1 (a0.2.getD (Int.toNat v9) default).2.2) : Int) != 1) with
          | true =>
           have q6 := bne_iff_ne.1 h6
           have e := Eq.refl (S15_4 a0 (v8, v9)); conv at e => rhs; simp only [S15_4, h0, h1, h2, h3, h4, h5, h6, cond_true, cond_false]
           rw [loopF_s, e]
           exact rt (t6 ++ [.d h6]) [] [] hcx (by kernel_rfl)
          | false =>
           have q6 := bne_eq_false_iff_eq.1 h6
           have e := Eq.refl (S15_4 a0 (v8, v9)); conv at e => rhs; simp only [S15_4, h0, h1, h2, h3, h4, h5, h6, cond_true, cond_false]
           rw [loopF_inl e]
           refine ba (t6 ++ [.d h6, .u 0, .F]) [] [1, 5, 9] [2, 3] hcx (m := n) B15_4 (K15_4) (st15_4 a0 (flat c4 v8) (v8.length) (W (v9 + 1))) (by kernel_rfl) ?_
           have z0 : (W (v9 + 1)) = (v9 + 1) := W_eq (by omega) (by omega)
           rw [z0]
           exact ih v8 (v9 + 1) (by refine ⟨?_, ?_, ?_, ?_, ?_⟩ <;> first | omega | assumption | exact okTo_0 | exact hi.2.1 | exact hi.2.2.1 | exact okTo_le hi.2.2.1 (by omega) | exact okTo_s hi.2.2.1 hfo | exact okTo_s hi.2.2.1 (by refine ⟨⟨?_, ?_⟩, ⟨?_, ?_⟩, ?_, ?_⟩ <;> omega) | (simp only [List.length_replicate, List.length_set]; omega)) (by (try simp only [List.length_append, List.length_cons, List.length_nil, Int.toNat_zero]); omega)
    | false =>
     have q0 := of_decide_eq_false h0
     have e := Eq.refl (S15_4 a0 (v8, v9)); conv at e => rhs; simp only [S15_4, h0, cond_true, cond_false]
     rw [loopF_s, e]
     refine en [.d h0] [] [1, 5, 13] [2, 3] hcx B15_6 (K15_6) (st15_6 a0 (flat c4 v8) (v8.length) 0) (Int.toNat (((v8.length : Nat) : Int) - 0) + 1) (by kernel_rfl) ?_
     exact L15_6 a0 l0_1 l0_2 hcx (Int.toNat (((v8.length : Nat) : Int) - 0) + 1) v8 0 (by refine ⟨?_, ?_, ?_, ?_, ?_⟩ <;> first | omega | assumption | exact okTo_0 | exact hi.2.1 | exact hi.2.2.1 | exact okTo_le hi.2.2.1 (by omega) | exact okTo_s hi.2.2.1 hfo | exact okTo_s hi.2.2.1 (by refine ⟨⟨?_, ?_⟩, ⟨?_, ?_⟩, ?_, ?_⟩ <;> omega) | (simp only [List.length_replicate, List.length_set]; omega)) (by (try simp only [List.length_append, List.length_cons, List.length_nil, Int.toNat_zero]); omega)

set_option maxHeartbeats 4000000 in
theorem L15_2 (a0 : (List (Int × Int × Int)) × List (Int × Int × Int)) (l0_1 : a0.1.length ≤ 9223372036854775807) (l0_2 : a0.2.length ≤ 9223372036854775807) {cx : Cx} (hcx : cx.base = 2) : ∀ (n : Nat) (v5 : List (Bool)) (v6 : Int), (0 ≤ v6) ∧ (v5.length = a0.1.length) ∧ (okTo a0 v6) ∧ (v6 ≤ a0.2.length) ∧ (a0.1.length ≤ 64) ∧ (a0.2.length ≤ 96) → Int.toNat (((a0.2.length : Nat) : Int) - v6) < n → Aw.Good Try.prog none 9 (bodyPost Try.prog Try.f15 (RR cx (iv (loopF (S15_2 a0) n (v5, v6))) [] [])) cx [] (.l B15_2 n :: K15_2) (st15_2 a0 (flat c4 v5) v5.length v6) := by
  intro n
  induction n with
  | zero => intro v5 v6 hi hn; exact absurd hn (Nat.not_lt_zero _)
  | succ n ih =>
    intro v5 v6 hi hn
    refine good_round ?_
    cases h0 : (decide ((v6 : Int) < ((a0.2.length : Nat) : Int))) with
    | true =>
     have q0 := of_decide_eq_true h0
     let t1 : List (St Try.prog) := [.d h0, .u 200, .T, .i v6 (a0.2.length), .i 0 3 (by decide), .L c46_len a0.2 v6 0 1]
     cases h1 : (decide (((a0.2.getD (Int.toNat v6) default).1 : Int) < 0)) with
     | true =>
      have q1 := of_decide_eq_true h1
      have e := Eq.refl (S15_2 a0 (v5, v6)); conv at e => rhs; simp only [S15_2, h0, h1, cond_true, cond_false]
      rw [loopF_s, e]
      exact rt (t1 ++ [.d h1]) [] [] hcx (by kernel_rfl)
     | false =>
      have q1 := of_decide_eq_false h1
      let t2 : List (St Try.prog) := (t1 ++ [.d h1])
      cases h2 : (decide (((a0.2.getD (Int.toNat v6) default).1 : Int) ≥ ((a0.1.length : Nat) : Int))) with
      | true =>
       have q2 := of_decide_eq_true h2
       have e := Eq.refl (S15_2 a0 (v5, v6)); conv at e => rhs; simp only [S15_2, h0, h1, h2, cond_true, cond_false]
       rw [loopF_s, e]
       exact rt (t2 ++ [.d h2]) [] [] hcx (by kernel_rfl)
      | false =>
       have q2 := of_decide_eq_false h2
       let t3 : List (St Try.prog) := (t2 ++ [.d h2, .i ((a0.2.getD (Int.toNat v6) default).1) (v5.length), .p (show ((0 + Int.toNat (a0.2.getD (Int.toNat v6) default).1 * 1) + 1 ≤ (flat c4 v5).length) from (flat_setl c4_len (by first | omega | (simp only [List.length_set]; omega)) (i := Int.toNat (a0.2.getD (Int.toNat v6) default).1) (o := 0) (n := 1) (Nat.le_of_ble_eq_true rfl))), .u 0, .T, .i v6 (a0.2.length), .i 1 3 (by decide), .L c46_len a0.2 v6 1 1])
       cases h3 : (decide (((a0.2.getD (Int.toNat v6) default).2.1 : Int) < 0)) with
       | true =>
        have q3 := of_decide_eq_true h3
        have e := Eq.refl (S15_2 a0 (v5, v6)); conv at e => rhs; simp only [S15_2, h0, h1, h2, h3, cond_true, cond_false]
        rw [loopF_s, e]
        exact rt (t3 ++ [.d h3]) [] [] hcx (by kernel_rfl)
       | false =>
        have q3 := of_decide_eq_false h3
        let t4 : List (St Try.prog) := (t3 ++ [.d h3])
        cases h4 : (decide (((a0.2.getD (Int.toNat v6) default).2.1 : Int) ≥ ((a0.1.length : Nat) : Int))) with
        | true =>
         have q4 := of_decide_eq_true h4
         have e := Eq.refl (S15_2 a0 (v5, v6)); conv at e => rhs; simp only [S15_2, h0, h1, h2, h3, h4, cond_true, cond_false]
         rw [loopF_s, e]
         exact rt (t4 ++ [.d h4]) [] [] hcx (by kernel_rfl)
        | false =>
         have q4 := of_decide_eq_false h4
         let t5 : List (St Try.prog) := (t4 ++ [.d h4, .i ((a0.2.getD (Int.toNat v6) default).2.1) (v5.length), .p (show ((0 + Int.toNat (a0.2.getD (Int.toNat v6) default).2.1 * 1) + 1 ≤ (splice (flat c4 v5) (0 + Int.toNat (a0.2.getD (Int.toNat v6) default).1 * 1) [(.v (.bool true))]).length) from (by rw [show (splice (flat c4 v5) (0 + Int.toNat (a0.2.getD (Int.toNat v6) default).1 * 1) [(.v (.bool true))]) = flat c4 (v5.set (Int.toNat (a0.2.getD (Int.toNat v6) default).1) true) from (flat_set c4_len (by first | omega | (simp only [List.length_set]; omega)) (i := Int.toNat (a0.2.getD (Int.toNat v6) default).1) (o := 0) (d := default) (y := true) (Nat.le_of_ble_eq_true rfl) rfl)]; exact flat_setl c4_len (by first | omega | (simp only [List.length_set]; omega)) (i := Int.toNat (a0.2.getD (Int.toNat v6) default).2.1) (o := 0) (n := 1) (Nat.le_of_ble_eq_true rfl))), .u 0, .T, .i v6 (a0.2.length), .i 2 3 (by decide), .L c46_len a0.2 v6 2 1])
         cases h5 : (decide (((a0.2.getD (Int.toNat v6) default).2.2 : Int) < 0)) with
         | true =>
          have q5 := of_decide_eq_true h5
          have e := Eq.refl (S15_2 a0 (v5, v6)); conv at e => rhs; simp only [S15_2, h0, h1, h2, h3, h4, h5, cond_true, cond_false]
          rw [loopF_s, e]
          exact rt (t5 ++ [.d h5]) [] [] hcx (by kernel_rfl)
         | false =>
          have q5 := of_decide_eq_false h5
          let t6 : List (St Try.prog) := (t5 ++ [.d h5])
          cases h6 : (decide (((a0.2.getD (Int.toNat v6) default).2.2 : Int) ≥ ((a0.1.length : Nat) : Int))) with
          | true =>
           have q6 := of_decide_eq_true h6
           have e := Eq.refl (S15_2 a0 (v5, v6)); conv at e => rhs; simp only [S15_2, h0, h1, h2, h3, h4, h5, h6, cond_true, cond_false]
           rw [loopF_s, e]
           exact rt (t6 ++ [.d h6]) [] [] hcx (by kernel_rfl)
          | false =>
           have q6 := of_decide_eq_false h6
           let t7 : List (St Try.prog) := (t6 ++ [.d h6, .i ((a0.2.getD (Int.toNat v6) default).2.2) (v5.length), .p (show ((0 + Int.toNat (a0.2.getD (Int.toNat v6) default).2.2 * 1) + 1 ≤ (splice (splice (flat c4 v5) (0 + Int.toNat (a0.2.getD (Int.toNat v6) default).1 * 1) [(.v (.bool true))]) (0 + Int.toNat (a0.2.getD (Int.toNat v6) default).2.1 * 1) [(.v (.bool true))]).length) from (by rw [show (splice (splice (flat c4 v5) (0 + Int.toNat (a0.2.getD (Int.toNat v6) default).1 * 1) [(.v (.bool true))]) (0 + Int.toNat (a0.2.getD (Int.toNat v6) default).2.1 * 1) [(.v (.bool true))]) = flat c4 ((v5.set (Int.toNat (a0.2.getD (Int.toNat v6) default).1) true).set (Int.toNat (a0.2.getD (Int.toNat v6) default).2.1) true) from (by rw [show (splice (flat c4 v5) (0 + Int.toNat (a0.2.getD (Int.toNat v6) default).1 * 1) [(.v (.bool true))]) = flat c4 (v5.set (Int.toNat (a0.2.getD (Int.toNat v6) default).1) true) from (flat_set c4_len (by first | omega | (simp only [List.length_set]; omega)) (i := Int.toNat (a0.2.getD (Int.toNat v6) default).1) (o := 0) (d := default) (y := true) (Nat.le_of_ble_eq_true rfl) rfl)]; exact flat_set c4_len (by first | omega | (simp only [List.length_set]; omega)) (i := Int.toNat (a0.2.getD (Int.toNat v6) default).2.1) (o := 0) (d := default) (y := true) (Nat.le_of_ble_eq_true rfl) rfl)]; exact flat_setl c4_len (by first | omega | (simp only [List.length_set]; omega)) (i := Int.toNat (a0.2.getD (Int.toNat v6) default).2.2) (o := 0) (n := 1) (Nat.le_of_ble_eq_true rfl))), .u 0, .F, .c [0, 1] (C31 (a0.1, a0.2) v6 (by (try simp only [List.length_append, List.length_cons, List.length_nil, Int.toNat_zero]); omega) (by (try simp only [List.length_append, List.length_cons, List.length_nil, Int.toNat_zero]); omega) (by show 0 ≤ _ ∧ _ < ((a0.2.length : Nat) : Int); omega) (by show inF a0.1.length (a0.2.getD _ default); refine ⟨⟨?_, ?_⟩, ⟨?_, ?_⟩, ?_, ?_⟩ <;> omega)), .c [] (C30 (F31 (a0.1, a0.2) v6))])
           cases h7 : ((((F30 (F31 (a0.1, a0.2) v6)).1 : Int) == 0) && ((((F30 (F31 (a0.1, a0.2) v6)).2.1 : Int) == 0) && ((((F30 (F31 (a0.1, a0.2) v6)).2.2 : Int) == 0) && true))) with
           | true =>
            have e := Eq.refl (S15_2 a0 (v5, v6)); conv at e => rhs; simp only [S15_2, h0, h1, h2, h3, h4, h5, h6, h7, cond_true, cond_false]
            rw [loopF_s, e]
            exact rt (t7 ++ [.d h7]) [] [] hcx (by kernel_rfl)
           | false =>
            have e := Eq.refl (S15_2 a0 (v5, v6)); conv at e => rhs; simp only [S15_2, h0, h1, h2, h3, h4, h5, h6, h7, cond_true, cond_false]
            rw [loopF_inl e]
            refine ba (t7 ++ [.d h7]) [] [1, 5, 6] [2, 3] hcx (m := n) B15_2 (K15_2) (st15_2 a0 (splice (splice (splice (flat c4 v5) (0 + Int.toNat (a0.2.getD (Int.toNat v6) default).1 * 1) [(.v (.bool true))]) (0 + Int.toNat (a0.2.getD (Int.toNat v6) default).2.1 * 1) [(.v (.bool true))]) (0 + Int.toNat (a0.2.getD (Int.toNat v6) default).2.2 * 1) [(.v (.bool true))]) (v5.length) (W (v6 + 1))) (by kernel_rfl) ?_
            have z0 : (W (v6 + 1)) = (v6 + 1) := W_eq (by omega) (by omega)
            have z1 : (splice (splice (splice (flat c4 v5) (0 + Int.toNat (a0.2.getD (Int.toNat v6) default).1 * 1) [(.v (.bool true))]) (0 + Int.toNat (a0.2.getD (Int.toNat v6) default).2.1 * 1) [(.v (.bool true))]) (0 + Int.toNat (a0.2.getD (Int.toNat v6) default).2.2 * 1) [(.v (.bool true))]) = flat c4 (((v5.set (Int.toNat (a0.2.getD (Int.toNat v6) default).1) true).set (Int.toNat (a0.2.getD (Int.toNat v6) default).2.1) true).set (Int.toNat (a0.2.getD (Int.toNat v6) default).2.2) true) := (by rw [show (splice (splice (flat c4 v5) (0 + Int.toNat (a0.2.getD (Int.toNat v6) default).1 * 1) [(.v (.bool true))]) (0 + Int.toNat (a0.2.getD (Int.toNat v6) default).2.1 * 1) [(.v (.bool true))]) = flat c4 ((v5.set (Int.toNat (a0.2.getD (Int.toNat v6) default).1) true).set (Int.toNat (a0.2.getD (Int.toNat v6) default).2.1) true) from (by rw [show (splice (flat c4 v5) (0 + Int.toNat (a0.2.getD (Int.toNat v6) default).1 * 1) [(.v (.bool true))]) = flat c4 (v5.set (Int.toNat (a0.2.getD (Int.toNat v6) default).1) true) from (flat_set c4_len (by first | omega | (simp only [List.length_set]; omega)) (i := Int.toNat (a0.2.getD (Int.toNat v6) default).1) (o := 0) (d := default) (y := true) (Nat.le_of_ble_eq_true rfl) rfl)]; exact flat_set c4_len (by first | omega | (simp only [List.length_set]; omega)) (i := Int.toNat (a0.2.getD (Int.toNat v6) default).2.1) (o := 0) (d := default) (y := true) (Nat.le_of_ble_eq_true rfl) rfl)]; exact flat_set c4_len (by first | omega | (simp only [List.length_set]; omega)) (i := Int.toNat (a0.2.getD (Int.toNat v6) default).2.2) (o := 0) (d := default) (y := true) (Nat.le_of_ble_eq_true rfl) rfl)
            have z2 : v5.length = (((v5.set (Int.toNat (a0.2.getD (Int.toNat v6) default).1) true).set (Int.toNat (a0.2.getD (Int.toNat v6) default).2.1) true).set (Int.toNat (a0.2.getD (Int.toNat v6) default).2.2) true).length := by simp
            rw [z0, z1, z2]
            exact ih (((v5.set (Int.toNat (a0.2.getD (Int.toNat v6) default).1) true).set (Int.toNat (a0.2.getD (Int.toNat v6) default).2.1) true).set (Int.toNat (a0.2.getD (Int.toNat v6) default).2.2) true) (v6 + 1) (by refine ⟨?_, ?_, ?_, ?_, ?_, ?_⟩ <;> first | omega | assumption | exact okTo_0 | exact hi.2.1 | exact hi.2.2.1 | exact okTo_le hi.2.2.1 (by omega) | exact okTo_s hi.2.2.1 hfo | exact okTo_s hi.2.2.1 (by refine ⟨⟨?_, ?_⟩, ⟨?_, ?_⟩, ?_, ?_⟩ <;> omega) | (simp only [List.length_replicate, List.length_set]; omega)) (by (try simp only [List.length_append, List.length_cons, List.length_nil, Int.toNat_zero]); omega)
    | false =>
     have q0 := of_decide_eq_false h0
     have e := Eq.refl (S15_2 a0 (v5, v6)); conv at e => rhs; simp only [S15_2, h0, cond_true, cond_false]
     rw [loopF_s, e]
     refine en [.d h0] [] [1, 5, 9] [2, 3] hcx B15_4 (K15_4) (st15_4 a0 (flat c4 v5) (v5.length) 0) (Int.toNat (((a0.2.length : Nat) : Int) - 0) + 1) (by kernel_rfl) ?_
     exact L15_4 a0 l0_1 l0_2 hcx (Int.toNat (((a0.2.length : Nat) : Int) - 0) + 1) v5 0 (by refine ⟨?_, ?_, ?_, ?_, ?_⟩ <;> first | omega | assumption | exact okTo_0 | exact hi.2.1 | exact hi.2.2.1 | exact okTo_le hi.2.2.1 (by omega) | exact okTo_s hi.2.2.1 hfo | exact okTo_s hi.2.2.1 (by refine ⟨⟨?_, ?_⟩, ⟨?_, ?_⟩, ?_, ?_⟩ <;> omega) | (simp only [List.length_replicate, List.length_set]; omega)) (by (try simp only [List.length_append, List.length_cons, List.length_nil, Int.toNat_zero]); omega)

set_option maxHeartbeats 4000000 in
theorem L15_0 (a0 : (List (Int × Int × Int)) × List (Int × Int × Int)) (l0_1 : a0.1.length ≤ 9223372036854775807) (l0_2 : a0.2.length ≤ 9223372036854775807) {cx : Cx} (hcx : cx.base = 2) : ∀ (n : Nat) (v1 : Int), (0 ≤ v1) ∧ (a0.1.length ≤ 64) ∧ (a0.2.length ≤ 96) → Int.toNat (((a0.1.length : Nat) : Int) - v1) < n → Aw.Good Try.prog none 9 (bodyPost Try.prog Try.f15 (RR cx (iv (loopF (S15_0 a0) n v1)) [] [])) cx [] (.l B15_0 n :: K15_0) (st15_0 a0 v1) := by
  intro n
  induction n with
  | zero => intro v1 hi hn; exact absurd hn (Nat.not_lt_zero _)
  | succ n ih =>
    intro v1 hi hn
    refine good_round ?_
    cases h0 : (decide ((v1 : Int) < ((a0.1.length : Nat) : Int))) with
    | true =>
     have q0 := of_decide_eq_true h0
     let t1 : List (St Try.prog) := [.d h0, .i v1 (a0.1.length), .L c37_len a0.1 v1 0 3, .c [] (C29 (a0.1.getD (Int.toNat v1) default) 64)]
     cases h1 : (!(F29 (a0.1.getD (Int.toNat v1) default) 64)) with
     | true =>
      have e := Eq.refl (S15_0 a0 v1); conv at e => rhs; simp only [S15_0, h0, h1, cond_true, cond_false]
      rw [loopF_s, e]
      exact rt (t1 ++ [.d h1]) [] [] hcx (by kernel_rfl)
     | false =>
      have e := Eq.refl (S15_0 a0 v1); conv at e => rhs; simp only [S15_0, h0, h1, cond_true, cond_false]
      rw [loopF_s, e]
      refine en (t1 ++ [.d h1]) [] [1, 3, 4] [2] hcx B15_1 (K15_1 n) (st15_1 a0 v1 0) (Int.toNat (v1 - 0) + 1) (by kernel_rfl) ?_
      exact L15_1 a0 l0_1 l0_2 hcx n ih (Int.toNat (v1 - 0) + 1) v1 0 (by refine ⟨?_, ?_, ?_, ?_, ?_, ?_⟩ <;> (try simp only [List.length_append, List.length_cons, List.length_nil, Int.toNat_zero]) <;> first | omega | assumption | exact hi.2.1 | exact hi.2.2.1 | exact hi.2.2.2.1 | exact hi.2.2.2.2.1 | exact hi.2.2.2.2.2.1 | simp) (by (try simp only [List.length_append, List.length_cons, List.length_nil, Int.toNat_zero]); omega)
    | false =>
     have q0 := of_decide_eq_false h0
     have e := Eq.refl (S15_0 a0 v1); conv at e => rhs; simp only [S15_0, h0, cond_true, cond_false]
     rw [loopF_s, e]
     refine en [.d h0, .Z c4 false [(.v (.bool false))] ((a0.1.length : Nat) : Int) 1] [] [1, 5, 6] [2, 3] hcx B15_2 (K15_2) (st15_2 a0 (flat c4 (List.replicate (Int.toNat ((a0.1.length : Nat) : Int)) false)) (Int.toNat ((a0.1.length : Nat) : Int)) 0) (Int.toNat (((a0.2.length : Nat) : Int) - 0) + 1) (by kernel_rfl) ?_
     have q := L15_2 a0 l0_1 l0_2 hcx (Int.toNat (((a0.2.length : Nat) : Int) - 0) + 1) (List.replicate (Int.toNat ((a0.1.length : Nat) : Int)) false) 0 (by refine ⟨?_, ?_, ?_, ?_, ?_, ?_⟩ <;> first | omega | assumption | exact okTo_0 | exact hi.2.1 | exact hi.2.2.1 | exact okTo_le hi.2.2.1 (by omega) | exact okTo_s hi.2.2.1 hfo | exact okTo_s hi.2.2.1 (by refine ⟨⟨?_, ?_⟩, ⟨?_, ?_⟩, ?_, ?_⟩ <;> omega) | (simp only [List.length_replicate, List.length_set]; omega)) (by (try simp only [List.length_append, List.length_cons, List.length_nil, Int.toNat_zero]); omega)
     simp only [List.length_replicate] at q
     exact q

/-- facet/facetref02.Validate -/
def F15 (a0 : (List (Int × Int × Int)) × List (Int × Int × Int)) : Int :=
  (bif (decide ((((a0.1.length : Nat) : Int) : Int) > 64)) then
   4
  else
   (bif (!(F28 ((a0.2.length : Nat) : Int) 1 96)) then
    4
   else
    (loopF (S15_0 a0) (Int.toNat (((a0.1.length : Nat) : Int) - 0) + 1) 0)))

theorem C15 (a0 : (List (Int × Int × Int)) × List (Int × Int × Int)) (l0_1 : a0.1.length ≤ 9223372036854775807) (l0_2 : a0.2.length ≤ 9223372036854775807) : Con Try.prog 15 [(.a [(.s 0 0 a0.1.length 3), (.s 1 0 a0.2.length 3)])] [(.live false true (flat c37 a0.1)), (.live false true (flat c46 a0.2))] (iv (F15 a0)) [] := by
  refine con_s Try.func15 (by kernel_rfl) fun cx hcx => ?_
  try have hl96 := win_p2 h1
  cases h0 : (decide ((((a0.1.length : Nat) : Int) : Int) > 64)) with
  | true =>
   have q0 := of_decide_eq_true h0
   try have hl96 := win_p2 h1
   have e := Eq.refl (F15 a0); conv at e => rhs; simp only [F15, h0, cond_true, cond_false]
   rw [e]
   exact rt [.d h0] [] [] hcx (by kernel_rfl)
  | false =>
   have q0 := of_decide_eq_false h0
   try have hl96 := win_p2 h1
   let t1 : List (St Try.prog) := [.d h0, .c [] (C28 ((a0.2.length : Nat) : Int) 1 96)]
   cases h1 : (!(F28 ((a0.2.length : Nat) : Int) 1 96)) with
   | true =>
    try have hl96 := win_p2 h1
    have e := Eq.refl (F15 a0); conv at e => rhs; simp only [F15, h0, h1, cond_true, cond_false]
    rw [e]
    exact rt (t1 ++ [.d h1]) [] [] hcx (by kernel_rfl)
   | false =>
    try have hl96 := win_p2 h1
    have e := Eq.refl (F15 a0); conv at e => rhs; simp only [F15, h0, h1, cond_true, cond_false]
    rw [e]
    refine en (t1 ++ [.d h1]) [] [1, 3] [2] hcx B15_0 (K15_0) (st15_0 a0 0) (Int.toNat (((a0.1.length : Nat) : Int) - 0) + 1) (by kernel_rfl) ?_
    exact L15_0 a0 l0_1 l0_2 hcx (Int.toNat (((a0.1.length : Nat) : Int) - 0) + 1) 0 (by refine ⟨?_, ?_, ?_⟩ <;> (try simp only [List.length_append, List.length_cons, List.length_nil, Int.toNat_zero]) <;> first | omega | assumption | simp) (by (try simp only [List.length_append, List.length_cons, List.length_nil, Int.toNat_zero]); omega)

end Go.Proofs.Ythpgabaeefifbaa

namespace Go.Proofs.Ythpgabaeefifbaa
open Go.Proofs Go.Aw Go.RowKit
set_option maxRecDepth 100000
set_option linter.unusedVariables false
set_option linter.unusedSimpArgs false

/-! ### Maps: what is put is got -/
section
variable {α β : Type} [DecidableEq α]
theorem mget_cons (e : α × β) (l : List (α × β)) (k : α) (d : β) : mget (e :: l) k d = if e.1 = k then e.2 else mget l k d := by
  unfold mget
  simp only [mfind]
  by_cases h : e.1 = k
  · rw [if_pos h, if_pos h]
  · rw [if_neg h, if_neg h]
    cases mfind k l <;> rfl
theorem mput_cons (e : α × β) (l : List (α × β)) (k : α) (v : β) : mput (e :: l) k v = if e.1 = k then (k, v) :: l else e :: mput l k v := by
  unfold mput
  simp only [mfind]
  by_cases h : e.1 = k
  · rw [if_pos h, if_pos h]; rfl
  · rw [if_neg h, if_neg h]
    cases mfind k l <;> rfl
theorem mget_put : ∀ (l : List (α × β)) (k k' : α) (v d : β), mget (mput l k v) k' d = if k = k' then v else mget l k' d
  | [], k, k', v, d => by
    show mget [(k, v)] k' d = _
    rw [mget_cons]
  | e :: l, k, k', v, d => by
    rw [mput_cons]
    by_cases h : e.1 = k
    · rw [if_pos h, mget_cons, mget_cons]
      by_cases h' : k = k'
      · rw [if_pos h', if_pos h']
      · rw [if_neg h', if_neg h', if_neg (fun x => h' (h ▸ x))]
    · rw [if_neg h, mget_cons, mget_cons, mget_put l k k' v d]
      by_cases h' : k = k'
      · rw [if_neg (fun x => h (x.trans h'.symm)), if_pos h', if_pos h']
      · rw [if_neg h', if_neg h']
theorem mget_nil (k : α) (d : β) : mget ([] : List (α × β)) k d = d := rfl
end
/-! ### Two loops that are one -/
theorem loopF_eq {S R : Type} [Inhabited R] {f g : S → S ⊕ R} (I : S → Prop) (hI : ∀ s, I s → f s = g s) (hp : ∀ s s', I s → f s = .inl s' → I s') : ∀ (n : Nat) (s : S), I s → loopF f n s = loopF g n s := by
  intro n
  induction n with
  | zero => intro s _; rfl
  | succ n ih =>
    intro s hs
    have e := hI s hs
    cases h : f s with
    | inl s' => rw [loopF_inl h, loopF_inl (e ▸ h)]; exact ih s' (hp s s' hs h)
    | inr r => rw [loopF_inr h, loopF_inr (e ▸ h)]
theorem foldE_inl {α σ R : Type} (g : σ → α → σ) : ∀ (l : List α) (v : σ), foldE (R := R) (fun v c => .inl (g v c)) l v = .inl (l.foldl g v)
  | [], _ => rfl
  | c :: l, v => by simp only [foldE, List.foldl_cons]; exact foldE_inl g l (g v c)
theorem getD_of {α : Type} [Inhabited α] {L : List α} {i : Nat} {c : α} (h : L[i]? = some c) : L.getD (Int.toNat (i : Int)) default = c := by
  rw [Int.toNat_natCast, List.getD_eq_getElem?_getD, h]; rfl
/-! ### How often a side is in the faces -/
abbrev ME := List P3 × List P3
def tri (f : P3) (p q : Int) : Int := (if f.1 = p ∧ f.2.1 = q then 1 else 0) + (if f.2.1 = p ∧ f.2.2 = q then 1 else 0) + (if f.2.2 = p ∧ f.1 = q then 1 else 0)
def cnt : List P3 → Int → Int → Int
  | [], _, _ => 0
  | f :: l, p, q => tri f p q + cnt l p q
theorem tri_bd (f : P3) (p q : Int) : 0 ≤ tri f p q ∧ tri f p q ≤ 3 := by unfold tri; split <;> split <;> split <;> omega
theorem ite_b (a b c d : Int) : (if a = b ∧ c = d then (1 : Int) else 0) = bif (a == b) && (c == d) then 1 else 0 := by
  rcases Decidable.em (a = b) with h1 | h1 <;> rcases Decidable.em (c = d) with h2 | h2
  · rw [if_pos ⟨h1, h2⟩, beq_iff_eq.2 h1, beq_iff_eq.2 h2]; rfl
  · rw [if_neg (fun h => h2 h.2), beq_eq_false_iff_ne.2 h2, Bool.and_false]; rfl
  · rw [if_neg (fun h => h1 h.1), beq_eq_false_iff_ne.2 h1]; rfl
  · rw [if_neg (fun h => h1 h.1), beq_eq_false_iff_ne.2 h1]; rfl
theorem edg_f (m : ME) (h : m.2.length ≤ 96) (p q : Int) : F32 m p q = cnt m.2 p q := by
  unfold F32
  rw [each_loop (fun v i => (v, i)) (fun v c => .inl (v + tri c p q)) (fun v => v) (L := m.2) (fun i v => 0 ≤ v ∧ v ≤ 3 * (i : Int)) ?_ ?_ ?_ (by omega) ⟨by omega, by omega⟩]
  · have key : ∀ (l : List P3) (v : Int), l.foldl (fun v c => v + tri c p q) v = v + cnt l p q := by
      intro l
      induction l with
      | nil => intro v; simp [cnt]
      | cons c l ih => intro v; rw [List.foldl_cons, ih]; simp only [cnt]; omega
    rw [foldE_inl, key]; simp [outE]
  · intro i c hc v hv
    obtain ⟨hlt, hce⟩ := List.getElem?_eq_some_iff.1 hc
    have w1 : W (v + 1) = v + 1 := W_eq (by omega) (by omega)
    have w2 : W (v + 1 + 1) = v + 1 + 1 := W_eq (by omega) (by omega)
    have w3 : W (v + 1 + 1 + 1) = v + 1 + 1 + 1 := W_eq (by omega) (by omega)
    simp only [S32_0]
    rw [decide_eq_true (by omega), cond_true, getD_of hc]
    unfold tri
    rw [ite_b, ite_b, ite_b]
    generalize (c.1 == p) = b1, (c.2.1 == q) = b2, (c.2.1 == p) = b3, (c.2.2 == q) = b4, (c.2.2 == p) = b5, (c.1 == q) = b6
    have fin : ∀ {a b : Int}, a = b → (Sum.inl (a, (i : Int) + 1) : (Int × Int) ⊕ Int) = Sum.inl (b, ((i + 1 : Nat) : Int)) := fun h => by rw [h]; rfl
    cases b1 <;> cases b2 <;> cases b3 <;> cases b4 <;> cases b5 <;> cases b6 <;> simp only [Bool.and_true, Bool.and_false, Bool.and_self, cond_true, cond_false, w1, w2, w3] <;> exact fin (by omega)
  · intro i c hc v v' hv e
    have := tri_bd c p q
    obtain rfl := Sum.inl.inj e
    omega
  · intro v _
    simp only [S32_0]
    rw [decide_eq_false (by omega), cond_false]
def incM (v : List ((Int × Int) × Int)) (s : Int × Int) : List ((Int × Int) × Int) := mput v s (W (mget v s 0 + 1))
def put3 (v : List ((Int × Int) × Int)) (f : P3) : List ((Int × Int) × Int) := incM (incM (incM v (F25 f).1) (F25 f).2.1) (F25 f).2.2
theorem inc_get {v : List ((Int × Int) × Int)} {s : Int × Int} (t : Int × Int) (h : 0 ≤ mget v s 0 ∧ mget v s 0 ≤ 1000) : mget (incM v s) t 0 = mget v t 0 + (if s = t then 1 else 0) := by
  unfold incM
  rw [mget_put, W_eq (by omega) (by omega)]
  by_cases e : s = t
  · subst e; rw [if_pos rfl, if_pos rfl]
  · rw [if_neg e, if_neg e]; omega
theorem put3_get {v : List ((Int × Int) × Int)} {B : Int} (hB : ∀ t, 0 ≤ mget v t 0 ∧ mget v t 0 ≤ B) (hb : B ≤ 900) (f : P3) (t : Int × Int) : mget (put3 v f) t 0 = mget v t 0 + tri f t.1 t.2 := by
  have g1 : ∀ t, mget (incM v (F25 f).1) t 0 = mget v t 0 + (if (F25 f).1 = t then 1 else 0) := fun t => inc_get t (by have := hB (F25 f).1; omega)
  have b1 : ∀ t, 0 ≤ mget (incM v (F25 f).1) t 0 ∧ mget (incM v (F25 f).1) t 0 ≤ B + 1 := fun t => by rw [g1]; have := hB t; split <;> omega
  have g2 : ∀ t, mget (incM (incM v (F25 f).1) (F25 f).2.1) t 0 = mget (incM v (F25 f).1) t 0 + (if (F25 f).2.1 = t then 1 else 0) := fun t => inc_get t (by have := b1 (F25 f).2.1; omega)
  have b2 : ∀ t, 0 ≤ mget (incM (incM v (F25 f).1) (F25 f).2.1) t 0 ∧ mget (incM (incM v (F25 f).1) (F25 f).2.1) t 0 ≤ B + 2 := fun t => by rw [g2]; have := b1 t; split <;> omega
  unfold put3
  rw [inc_get t (by have := b2 (F25 f).2.2; omega), g2, g1]
  unfold tri F25
  simp only [Prod.ext_iff]
  omega
theorem cnt_get : ∀ (l : List P3) (v : List ((Int × Int) × Int)) (B : Int), (∀ t, 0 ≤ mget v t 0 ∧ mget v t 0 ≤ B) → B + 3 * l.length ≤ 900 → ∀ t : Int × Int, mget (l.foldl put3 v) t 0 = mget v t 0 + cnt l t.1 t.2
  | [], v, B, _, _, t => by simp [cnt]
  | f :: l, v, B, hB, hb, t => by
    simp only [List.length_cons] at hb
    have g := put3_get hB (by omega) f
    rw [List.foldl_cons, cnt_get l (put3 v f) (B + 3) (fun t => by rw [g]; have := hB t; have := tri_bd f t.1 t.2; omega) (by omega) t, g]
    simp only [cnt]; omega
theorem ctd_f (m : ME) : F24 m = m.2.foldl put3 [] := by
  unfold F24
  rw [each_loop (fun v i => (v, i)) (fun v c => .inl (put3 v c)) (fun v => v) (L := m.2) (fun _ _ => True) ?_ (fun _ _ _ _ _ _ _ => trivial) ?_ (by omega) trivial]
  · rw [foldE_inl]; rfl
  · intro i c hc v _
    obtain ⟨hlt, hce⟩ := List.getElem?_eq_some_iff.1 hc
    simp only [S24_0]
    rw [decide_eq_true (by omega), cond_true, getD_of hc]
    rfl
  · intro v _
    simp only [S24_0]
    rw [decide_eq_false (by omega), cond_false]
theorem cget (m : ME) (h : m.2.length ≤ 96) (t : Int × Int) : mget (F24 m) t 0 = cnt m.2 t.1 t.2 := by
  rw [ctd_f, cnt_get m.2 [] 0 (fun t => by rw [mget_nil]; omega) (by omega) t, mget_nil]; omega
/-! ### Normals, volumes -/
theorem W_neg (x y : Int) : W (x + W (-1 * y)) = W (x - y) := by
  rw [W_def (-1 * y)]
  split <;> rw [W_def, W_def] <;> split <;> split <;> omega
theorem min_eq (a b : P3) : F58 a b = F45 a b := by
  unfold F58 F70 F45
  simp only [W_neg]
theorem nrm_eq (p : PN) : F40 p = F30 p := by
  unfold F40 F30
  rw [min_eq, min_eq]; rfl
theorem vol_a (m : ME) : F27 m = m.2.foldl (fun v c => W (v + F43 (F41 m c))) 0 := by
  unfold F27
  rw [each_loop (fun v i => (v, i)) (fun v c => .inl (W (v + F43 c))) (fun v => v) (L := F42 m) (fun _ _ => True) ?_ (fun _ _ _ _ _ _ _ => trivial) ?_ (by show _ < Int.toNat ((((F42 m).length : Nat) : Int) - 0) + 1; omega) trivial]
  · rw [foldE_inl, pnl_map, List.foldl_map]; rfl
  · intro i c hc v _
    obtain ⟨hlt, hce⟩ := List.getElem?_eq_some_iff.1 hc
    simp only [S27_0]
    rw [decide_eq_true (show ((i : Nat) : Int) < (((F42 (m.1, m.2)).length : Nat) : Int) from by show ((i : Nat) : Int) < (((F42 m).length : Nat) : Int); omega), cond_true, show (F42 (m.1, m.2)).getD (Int.toNat (i : Int)) default = c from getD_of hc]
    rfl
  · intro v _
    simp only [S27_0]
    rw [decide_eq_false (show ¬ (((F42 m).length : Nat) : Int) < (((F42 (m.1, m.2)).length : Nat) : Int) from by show ¬ (((F42 m).length : Nat) : Int) < (((F42 m).length : Nat) : Int); omega), cond_false]
theorem vol_b (m : ME) : F33 m = m.2.foldl (fun v c => W (v + F43 (F41 m c))) 0 := by
  unfold F33
  rw [each_loop (fun v i => (v, i)) (fun v c => .inl (W (v + F43 (F41 m c)))) (fun v => v) (L := m.2) (fun _ _ => True) ?_ (fun _ _ _ _ _ _ _ => trivial) ?_ (by omega) trivial]
  · rw [foldE_inl]; rfl
  · intro i c hc v _
    obtain ⟨hlt, hce⟩ := List.getElem?_eq_some_iff.1 hc
    simp only [S33_0]
    have hp : F31 (m.1, m.2) (i : Int) = F41 m c := by
      unfold F31
      simp only [getD_of hc]; rfl
    rw [decide_eq_true (by omega), cond_true, hp]
    rfl
  · intro v _
    simp only [S33_0]
    rw [decide_eq_false (by omega), cond_false]
theorem vol_eq (m : ME) : F27 m = F33 m := by rw [vol_a, vol_b]
/-! ### The same errors -/
theorem usd_eq (m : ME) : ∀ (n : Nat) (v : List Bool) (i : Int), 0 ≤ i → loopF (S13_4 m) n (v, ((v.length : Nat) : Int), i) = loopF (S15_6 m) n (v, i) := by
  intro n
  induction n with
  | zero => intro v i _; rfl
  | succ n ih =>
    intro v i hi
    by_cases h : i < ((v.length : Nat) : Int)
    · cases hb : v.getD (Int.toNat i) default with
      | true =>
        have e1 : S13_4 m (v, ((v.length : Nat) : Int), i) = .inl (v, ((v.length : Nat) : Int), i + 1) := by
          simp only [S13_4]; rw [decide_eq_true h, cond_true, hb]; rfl
        have e2 : S15_6 m (v, i) = .inl (v, i + 1) := by
          simp only [S15_6]; rw [decide_eq_true h, cond_true, hb]; rfl
        rw [loopF_inl e1, loopF_inl e2]; exact ih v (i + 1) (by omega)
      | false =>
        have e1 : S13_4 m (v, ((v.length : Nat) : Int), i) = .inr 5 := by
          simp only [S13_4]; rw [decide_eq_true h, cond_true, hb]; rfl
        have e2 : S15_6 m (v, i) = .inr 5 := by
          simp only [S15_6]; rw [decide_eq_true h, cond_true, hb]; rfl
        rw [loopF_inr e1, loopF_inr e2]
    · have e1 : S13_4 m (v, ((v.length : Nat) : Int), i) = .inr (bif decide (F33 m ≤ 0) then 8 else 0) := by
        simp only [S13_4]; rw [decide_eq_false h, cond_false, show F27 (m.1, m.2) = F33 m from vol_eq m]
        cases decide (F33 m ≤ 0) <;> rfl
      have e2 : S15_6 m (v, i) = .inr (bif decide (F33 m ≤ 0) then 8 else 0) := by
        simp only [S15_6]; rw [decide_eq_false h, cond_false, show F33 (m.1, m.2) = F33 m from rfl]
        cases decide (F33 m ≤ 0) <;> rfl
      rw [loopF_inr e1, loopF_inr e2]
theorem opn_eq (m : ME) (h : m.2.length ≤ 96) (n : Nat) (v : List Bool) : loopF (S13_2 m) n (v, 0) = loopF (S15_4 m) n (v, 0) := by
  refine loopF_eq (fun s => 0 ≤ s.2) (fun s hs => ?_) (fun s s' hs e => ?_) n (v, 0) (Int.le_refl 0)
  · obtain ⟨v, i⟩ := s
    simp only at hs
    simp only [S13_2, S15_4]
    rw [usd_eq m _ v 0 (Int.le_refl 0)]
    have hc : ∀ t, mget (F24 (m.1, m.2)) t 0 = cnt m.2 t.1 t.2 := cget m h
    have he : ∀ p q, F32 (m.1, m.2) p q = cnt m.2 p q := edg_f m h
    simp only [hc, he, F25, F26]
  · obtain ⟨v, i⟩ := s
    simp only [S13_2] at e
    by_cases hlt : i < ((m.2.length : Nat) : Int)
    · rw [decide_eq_true hlt, cond_true] at e
      simp only at hs
      have step : ∀ (b : Bool) (x y : (List Bool × Int) ⊕ Int), (bif b then x else y) = .inl s' → (∀ r, x ≠ .inl r) → y = .inl s' := fun b x y h hx => by
        cases b
        · exact h
        · exact absurd h (hx s')
      have e := step _ _ _ e (fun r h => by cases h)
      have e := step _ _ _ e (fun r h => by cases h)
      have e := step _ _ _ e (fun r h => by cases h)
      have e := step _ _ _ e (fun r h => by cases h)
      have e := step _ _ _ e (fun r h => by cases h)
      have e := step _ _ _ e (fun r h => by cases h)
      obtain rfl := Sum.inl.inj e
      show 0 ≤ i + 1
      omega
    · rw [decide_eq_false hlt, cond_false] at e; cases e
theorem from_in {n : Nat} (x : Int) (h : n ≤ 64) : (!F21 x 0 (W (((n : Nat) : Int) - 1))) = (decide (x < 0) || decide (x ≥ ((n : Nat) : Int))) := by
  rw [W_eq (by omega) (by omega)]
  unfold F21
  by_cases h1 : x < 0
  · rw [decide_eq_true h1, decide_eq_false (by omega)]; rfl
  · rw [decide_eq_false h1, decide_eq_true (by omega), cond_true]
    by_cases h2 : x ≥ ((n : Nat) : Int)
    · rw [decide_eq_true h2, decide_eq_false (by omega)]; rfl
    · rw [decide_eq_false h2, decide_eq_true (by omega)]; rfl
theorem fac_eq (m : ME) (h64 : m.1.length ≤ 64) (h : m.2.length ≤ 96) (n : Nat) (v : List Bool) : loopF (S13_0 m) n (v, 0) = loopF (S15_2 m) n (v, 0) := by
  have main : ∀ s : List Bool × Int, 0 ≤ s.2 → S13_0 m s = S15_2 m s ∧ ∀ s', S13_0 m s = .inl s' → 0 ≤ s'.2 := by
    rintro ⟨v, i⟩ hs
    simp only at hs
    simp only [S13_0, S15_2]
    rw [opn_eq m h _ v]
    have hp : F31 (m.1, m.2) i = F41 (m.1, m.2) (m.2.getD (Int.toNat i) default) := rfl
    rw [hp]
    unfold F23
    simp only [from_in _ h64, nrm_eq]
    generalize m.2.getD (Int.toNat i) default = c
    generalize F30 (F41 (m.1, m.2) c) = q
    generalize ((q.1 == 0) && ((q.2.1 == 0) && ((q.2.2 == 0) && true))) = b7
    generalize decide (c.1 < 0) = b1, decide (c.1 ≥ ((m.1.length : Nat) : Int)) = b2, decide (c.2.1 < 0) = b3, decide (c.2.1 ≥ ((m.1.length : Nat) : Int)) = b4, decide (c.2.2 < 0) = b5, decide (c.2.2 ≥ ((m.1.length : Nat) : Int)) = b6, decide (i < ((m.2.length : Nat) : Int)) = b0
    cases b0
    case false => exact ⟨rfl, fun s' e => by cases e⟩
    cases b1
    case true => exact ⟨rfl, fun s' e => by cases e⟩
    cases b2
    case true => exact ⟨rfl, fun s' e => by cases e⟩
    cases b3
    case true => exact ⟨rfl, fun s' e => by cases e⟩
    cases b4
    case true => exact ⟨rfl, fun s' e => by cases e⟩
    cases b5
    case true => exact ⟨rfl, fun s' e => by cases e⟩
    cases b6
    case true => exact ⟨rfl, fun s' e => by cases e⟩
    cases b7
    case true => exact ⟨rfl, fun s' e => by cases e⟩
    exact ⟨rfl, fun s' e => by obtain rfl := Sum.inl.inj e; show 0 ≤ i + 1; omega⟩
  exact loopF_eq (fun s => 0 ≤ s.2) (fun s hs => (main s hs).1) (fun s s' hs e => (main s hs).2 s' e) n (v, 0) (Int.le_refl 0)
theorem eq_b (a b : P3) : (((a.1 : Int) == b.1) && (((a.2.1 : Int) == b.2.1) && (((a.2.2 : Int) == b.2.2) && true))) = decide (a = b) := by
  rw [Bool.eq_iff_iff]
  simp only [Bool.and_eq_true, beq_iff_eq, and_true, decide_eq_true_eq, Prod.ext_iff]
theorem inn_t (m : ME) (i : Nat) : ∀ (n k : Nat), i - k < n → (∃ j, k ≤ j ∧ j < i ∧ m.1.getD j default = m.1.getD i default) → loopF (S15_1 m) n ((i : Int), (k : Int)) = .inr 1 := by
  intro n
  induction n with
  | zero => intro k hk; omega
  | succ n ih =>
    intro k hk ⟨j, h1, h2, h3⟩
    by_cases e : m.1.getD i default = m.1.getD k default
    · refine loopF_inr ?_
      simp only [S15_1]
      rw [decide_eq_true (by omega), cond_true, Int.toNat_natCast, Int.toNat_natCast, eq_b, decide_eq_true e]; rfl
    · have h : S15_1 m ((i : Int), (k : Int)) = .inl ((i : Int), ((k + 1 : Nat) : Int)) := by
        simp only [S15_1]
        rw [decide_eq_true (by omega), cond_true, Int.toNat_natCast, Int.toNat_natCast, eq_b, decide_eq_false e]; rfl
      rw [loopF_inl h]
      have : j ≠ k := fun x => e (x ▸ h3.symm)
      exact ih (k + 1) (by omega) ⟨j, by omega, h2, h3⟩
theorem inn_f (m : ME) (i : Nat) : ∀ (n k : Nat), k ≤ i → i - k < n → (∀ j, k ≤ j → j < i → m.1.getD j default ≠ m.1.getD i default) → loopF (S15_1 m) n ((i : Int), (k : Int)) = .inl ((i : Int) + 1) := by
  intro n
  induction n with
  | zero => intro k _ hk; omega
  | succ n ih =>
    intro k hki hk hj
    by_cases hlt : k < i
    · have h : S15_1 m ((i : Int), (k : Int)) = .inl ((i : Int), ((k + 1 : Nat) : Int)) := by
        simp only [S15_1]
        rw [decide_eq_true (by omega), cond_true, Int.toNat_natCast, Int.toNat_natCast, eq_b, decide_eq_false (fun e => hj k (Nat.le_refl k) hlt e.symm)]; rfl
      rw [loopF_inl h]
      exact ih (k + 1) (by omega) (by omega) (fun j h1 h2 => hj j (by omega) h2)
    · refine loopF_inr ?_
      simp only [S15_1]
      rw [decide_eq_false (by omega), cond_false]
open Classical in
theorem rng_eq (p : P3) : F39 p 64 = F29 p 64 := by rw [inRange_eq, near02_eq]
theorem pts_eq (m : ME) : ∀ (n i : Nat) (v : List (P3 × Bool)), i ≤ m.1.length → m.1.length - i < n → (∀ q, mget v q false = true ↔ ∃ j, j < i ∧ m.1.getD j default = q) →
    loopF (S15_0 m) n (i : Int) = bif (loopF (S22_0 m) n (v, (i : Int)) != 0) then loopF (S22_0 m) n (v, (i : Int)) else loopF (S15_2 m) (Int.toNat (((m.2.length : Nat) : Int) - 0) + 1) ((List.replicate (Int.toNat ((m.1.length : Nat) : Int)) false), 0) := by
  intro n
  induction n with
  | zero => intro i v _ h; omega
  | succ n ih =>
    intro i v hi hn hv
    by_cases hlt : i < m.1.length
    · have hw : ((i : Nat) : Int) < ((m.1.length : Nat) : Int) := by omega
      cases hr : F39 (m.1.getD i default) 64 with
      | false =>
        have e1 : S22_0 m (v, (i : Int)) = .inr 1 := by
          simp only [S22_0]; rw [decide_eq_true hw, cond_true, Int.toNat_natCast, hr]; rfl
        have e2 : S15_0 m (i : Int) = .inr 1 := by
          simp only [S15_0]; rw [decide_eq_true hw, cond_true, Int.toNat_natCast, ← rng_eq, hr]; rfl
        rw [loopF_inr e1, loopF_inr e2]; rfl
      | true =>
        cases hg : mget v (m.1.getD i default) false with
        | true =>
          have e1 : S22_0 m (v, (i : Int)) = .inr 1 := by
            simp only [S22_0]; rw [decide_eq_true hw, cond_true, Int.toNat_natCast, hr, hg]; rfl
          obtain ⟨j, h1, h2⟩ := (hv _).1 hg
          have e2 : S15_0 m (i : Int) = .inr 1 := by
            simp only [S15_0]; rw [decide_eq_true hw, cond_true, Int.toNat_natCast, ← rng_eq, hr]
            exact inn_t m i _ 0 (by omega) ⟨j, by omega, h1, h2⟩
          rw [loopF_inr e1, loopF_inr e2]; rfl
        | false =>
          have e1 : S22_0 m (v, (i : Int)) = .inl (mput v (m.1.getD i default) true, ((i + 1 : Nat) : Int)) := by
            simp only [S22_0]; rw [decide_eq_true hw, cond_true, Int.toNat_natCast, hr, hg]; rfl
          have e2 : S15_0 m (i : Int) = .inl ((i + 1 : Nat) : Int) := by
            simp only [S15_0]; rw [decide_eq_true hw, cond_true, Int.toNat_natCast, ← rng_eq, hr]
            exact inn_f m i _ 0 (by omega) (by omega) (fun j _ h2 h3 => by
              have := (hv _).2 ⟨j, h2, h3⟩
              rw [hg] at this; cases this)
          rw [loopF_inl e1, loopF_inl e2]
          refine ih (i + 1) _ (by omega) (by omega) (fun q => ?_)
          rw [mget_put]
          by_cases e : m.1.getD i default = q
          · rw [if_pos e]; exact ⟨fun _ => ⟨i, by omega, e⟩, fun _ => rfl⟩
          · rw [if_neg e, hv]
            constructor
            · rintro ⟨j, h1, h2⟩; exact ⟨j, by omega, h2⟩
            · rintro ⟨j, h1, h2⟩
              refine ⟨j, ?_, h2⟩
              rcases Nat.lt_or_ge j i with h | h
              · exact h
              · have : j = i := by omega
                exact absurd (this ▸ h2) e
    · have hw : ¬ ((i : Nat) : Int) < ((m.1.length : Nat) : Int) := by omega
      have e1 : S22_0 m (v, (i : Int)) = .inr 0 := by
        simp only [S22_0]; rw [decide_eq_false hw, cond_false]
      have e2 : S15_0 m (i : Int) = .inr (loopF (S15_2 m) (Int.toNat (((m.2.length : Nat) : Int) - 0) + 1) ((List.replicate (Int.toNat ((m.1.length : Nat) : Int)) false), 0)) := by
        simp only [S15_0]; rw [decide_eq_false hw, cond_false]
      rw [loopF_inr e1, loopF_inr e2]; rfl
/-- **A mesh has the same first error in the program and in the document.** -/
theorem val_eq (m : ME) : F13 m = F15 m := by
  unfold F13 F15
  by_cases h1 : ((m.1.length : Nat) : Int) > 64
  · rw [decide_eq_true h1]; rfl
  · rw [decide_eq_false h1, cond_false, cond_false, show F28 ((m.2.length : Nat) : Int) 1 96 = F21 ((m.2.length : Nat) : Int) 1 96 from rfl]
    cases h2 : (!F21 ((m.2.length : Nat) : Int) 1 96) with
    | true => rfl
    | false =>
      rw [cond_false, cond_false]
      have g := from_p h2
      rw [fac_eq m (by omega) (by omega)]
      have hp := pts_eq m (Int.toNat (((m.1.length : Nat) : Int) - 0) + 1) 0 [] (by omega) (by omega) (fun q => by
        rw [mget_nil]
        constructor
        · intro h; cases h
        · rintro ⟨j, h, _⟩; omega)
      exact hp.symm

end Go.Proofs.Ythpgabaeefifbaa

namespace Go.Proofs.Ythpgabaeefifbaa
open Go.Proofs Go.Aw Go.RowKit
set_option maxRecDepth 100000
set_option linter.unusedVariables false
set_option linter.unusedSimpArgs false

/-! ### A valid mesh -/
theorem okl (m : ME) (h64 : m.1.length ≤ 64) : ∀ (n : Nat) (v : List Bool) (i : Int), 0 ≤ i → Int.toNat (((m.2.length : Nat) : Int) - i) < n → loopF (S13_0 m) n (v, i) = 0 → ∀ j : Int, i ≤ j → j < ((m.2.length : Nat) : Int) → F23 m (m.2.getD (Int.toNat j) default) = 0 := by
  intro n
  induction n with
  | zero => intro v i _ h; omega
  | succ n ih =>
    intro v i hi hn h j h1 h2
    have hlt : i < ((m.2.length : Nat) : Int) := by omega
    cases hf : ((F23 (m.1, m.2) (m.2.getD (Int.toNat i) default) : Int) != 0) with
    | true =>
      have e : S13_0 m (v, i) = .inr (F23 (m.1, m.2) (m.2.getD (Int.toNat i) default)) := by
        simp only [S13_0]; rw [decide_eq_true hlt, cond_true, hf, cond_true]
      rw [loopF_inr e] at h
      exact absurd h (bne_iff_ne.1 hf)
    | false =>
      by_cases hj : j = i
      · subst hj; exact bne_eq_false_iff_eq.1 hf
      · have e : S13_0 m (v, i) = .inl ((((v.set (Int.toNat (m.2.getD (Int.toNat i) default).1) true).set (Int.toNat (m.2.getD (Int.toNat i) default).2.1) true).set (Int.toNat (m.2.getD (Int.toNat i) default).2.2) true), (i + 1)) := by
          simp only [S13_0]; rw [decide_eq_true hlt, cond_true, hf, cond_false]
        rw [loopF_inl e] at h
        exact ih _ (i + 1) (by omega) (by omega) h j (by omega) h2
theorem val_parts {m : ME} (h : F13 m = 0) : m.1.length ≤ 64 ∧ 1 ≤ m.2.length ∧ m.2.length ≤ 96 ∧ F22 m = 0 ∧ ∀ j : Int, 0 ≤ j → j < ((m.2.length : Nat) : Int) → F23 m (m.2.getD (Int.toNat j) default) = 0 := by
  unfold F13 at h
  by_cases h1 : ((m.1.length : Nat) : Int) > 64
  · rw [decide_eq_true h1, cond_true] at h; exact absurd h (by decide)
  · rw [decide_eq_false h1, cond_false] at h
    cases h2 : (!F21 ((m.2.length : Nat) : Int) 1 96) with
    | true => rw [h2, cond_true] at h; exact absurd h (by decide)
    | false =>
      have g := from_p h2
      rw [h2, cond_false] at h
      cases h3 : ((F22 (m.1, m.2) : Int) != 0) with
      | true => rw [h3, cond_true] at h; exact absurd h (bne_iff_ne.1 h3)
      | false =>
        rw [h3, cond_false] at h
        exact ⟨by omega, by omega, by omega, bne_eq_false_iff_eq.1 h3, fun j h1 h2 => okl m (by omega) _ _ 0 (Int.le_refl 0) (by omega) h j h1 h2⟩
theorem val_ok {m : ME} (h : ((F13 m : Int) != 0) = false) : okTo m m.2.length ∧ m.2.length ≤ 96 := by
  obtain ⟨h1, _, h3, _, h4⟩ := val_parts (bne_eq_false_iff_eq.1 h)
  exact ⟨fun i g1 g2 => face_in (m := m) (by rw [h4 i g1 g2]; rfl) h1, h3⟩
/-- facet/shape.Panels -/
def F60 (a0 : (List (Int × Int × Int)) × List (Int × Int × Int)) : (List ((Int × Int × Int) × (Int × Int × Int) × Int × Int × Int)) × Int :=
  (bif (((F13 (a0.1, a0.2)) : Int) != 0) then
   (([] : List ((Int × Int × Int) × (Int × Int × Int) × Int × Int × Int)), (F13 (a0.1, a0.2)))
  else
   ((F42 (a0.1, a0.2)), 0))

theorem C60 (a0 : (List (Int × Int × Int)) × List (Int × Int × Int)) (l0_1 : a0.1.length ≤ 9223372036854775807) (l0_2 : a0.2.length ≤ 9223372036854775807) : Con Try.prog 60 [(.a [(.s 0 0 a0.1.length 3), (.s 1 0 a0.2.length 3)])] [(.live false true (flat c37 a0.1)), (.live false true (flat c46 a0.2))] (.t [(.s 2 0 (F60 a0).1.length 9), (iv (F60 a0).2)]) [(.live true true (flat c62 (F60 a0).1))] := by
  refine con_s Try.func60 (by kernel_rfl) fun cx hcx => ?_
  let t0 : List (St Try.prog) := [.c [0, 1] (C13 (a0.1, a0.2) (by (try simp only [List.length_append, List.length_cons, List.length_nil, Int.toNat_zero]); omega) (by (try simp only [List.length_append, List.length_cons, List.length_nil, Int.toNat_zero]); omega))]
  cases h0 : (((F13 (a0.1, a0.2)) : Int) != 0) with
  | true =>
   have q0 := bne_iff_ne.1 h0
   have e := Eq.refl (F60 a0); conv at e => rhs; simp only [F60, h0, cond_true, cond_false]
   rw [e]
   exact rt (t0 ++ [.d h0]) [.slot 2 9] [3] hcx (by kernel_rfl)
  | false =>
   have q0 := bne_eq_false_iff_eq.1 h0
   have e := Eq.refl (F60 a0); conv at e => rhs; simp only [F60, h0, cond_true, cond_false]
   rw [e]
   exact rt (t0 ++ [.d h0, .c [0, 1] (C42 (a0.1, a0.2) (by (try simp only [List.length_append, List.length_cons, List.length_nil, Int.toNat_zero]); omega) (by (try simp only [List.length_append, List.length_cons, List.length_nil, Int.toNat_zero]); omega) (val_ok h0).1 (val_ok h0).2)]) [] [3] hcx (by kernel_rfl)

theorem pan_f (m : ME) : F60 m = bif ((F13 m : Int) != 0) then ([], F13 m) else (m.2.map (F41 m), 0) := by
  unfold F60
  rw [show F42 (m.1, m.2) = m.2.map (F41 m) from pnl_map m]
theorem pan_len (m : ME) : (F60 m).1.length ≤ 96 := by
  rw [pan_f]
  cases h : ((F13 m : Int) != 0) with
  | true => exact Nat.zero_le _
  | false => rw [cond_false]; show (m.2.map _).length ≤ 96; rw [List.length_map]; exact (val_ok h).2

end Go.Proofs.Ythpgabaeefifbaa

namespace Go.Proofs.Ythpgabaeefifbaa
open Go.Proofs Go.Aw Go.RowKit
set_option maxRecDepth 100000
set_option linter.unusedVariables false
set_option linter.unusedSimpArgs false

/-! ### Searches by bits and by halves, for whatever is to hold -/
theorem gbits {R : Type} [Inhabited R] {p : Int → Prop} [DecidablePred p] {G : Int → R} {M : Int} {S : Int × Int → (Int × Int) ⊕ R} (hS : ∀ k b, 0 ≤ k → 0 < b → k + b ≤ M → S (k, b) = if p (k + b) then .inl (k + b, b / 2) else .inl (k, b / 2)) (h0 : ∀ k, 0 ≤ k → k ≤ M → S (k, 0) = .inr (G k)) :
    ∀ (j f : Nat) (k : Int), j + 2 ≤ f → 0 ≤ k → k + 2 * 2 ^ j ≤ M → p k → ¬ p (k + 2 * 2 ^ j) → ∃ r, 0 ≤ r ∧ r ≤ M ∧ p r ∧ ¬ p (r + 1) ∧ loopF S f (k, 2 ^ j) = G r := by
  intro j
  induction j with
  | zero =>
    intro f k hf hk hb h1 h2
    obtain ⟨f, rfl⟩ : ∃ g, f = g + 2 := ⟨f - 2, by omega⟩
    simp only [Int.pow_zero] at h2 hb ⊢
    have hs := hS k 1 hk (by omega) (by omega)
    by_cases hc : p (k + 1)
    · rw [if_pos hc] at hs
      rw [loopF_inl hs, show ((1 : Int) / 2) = 0 by omega, loopF_inr (h0 _ (by omega) (by omega))]
      exact ⟨k + 1, by omega, by omega, hc, by rw [show k + 1 + 1 = k + 2 * 1 by omega]; exact h2, rfl⟩
    · rw [if_neg hc] at hs
      rw [loopF_inl hs, show ((1 : Int) / 2) = 0 by omega, loopF_inr (h0 _ hk (by omega))]
      exact ⟨k, hk, by omega, h1, hc, rfl⟩
  | succ j ih =>
    intro f k hf hk hb h1 h2
    obtain ⟨f, rfl⟩ : ∃ g, f = g + 1 := ⟨f - 1, by omega⟩
    have hp : (0 : Int) < 2 ^ j := Int.pow_pos (by omega)
    rw [Int.pow_succ] at h2 hb ⊢
    have hs := hS k (2 ^ j * 2) hk (by omega) (by omega)
    have hd : (2 : Int) ^ j * 2 / 2 = 2 ^ j := Int.mul_ediv_cancel _ (by omega)
    rw [hd] at hs
    by_cases hc : p (k + 2 ^ j * 2)
    · rw [if_pos hc] at hs
      rw [loopF_inl hs]
      refine ih f _ (by omega) (by omega) (by omega) hc ?_
      rw [show k + 2 ^ j * 2 + 2 * 2 ^ j = k + 2 * ((2 : Int) ^ j * 2) by omega]; exact h2
    · rw [if_neg hc] at hs
      rw [loopF_inl hs]
      refine ih f _ (by omega) hk (by omega) h1 ?_
      rw [show k + 2 * (2 : Int) ^ j = k + 2 ^ j * 2 by omega]; exact hc
theorem half_eq {b : Int} (h : 0 ≤ b ∧ b ≤ 1099511627776) : W (Int.tdiv b 2) = b / 2 := by rw [Int.tdiv_eq_ediv_of_nonneg (by omega), W_eq (by omega) (by omega)]

noncomputable def B18_0 : Code := (loopAtD [1, 1, 1, 1, 1, 0, 1] [] (bodyOf Try.f18) []).1
noncomputable def K18_0 : List K := (loopAtD [1, 1, 1, 1, 1, 0, 1] [] (bodyOf Try.f18) []).2

def st18_0 (a0 : Int) (v1 : Int) (v2 : Int) : LS := ⟨slN 70 [(2, (.p 0 0)), (4, (iv (F34 a0))), (5, (iv (W ((W (a0 - (W ((F34 a0) * (F34 a0))))) * 2 ^ (min (Int.toNat 40) 64))))), (6, (iv v1)), (7, (iv v2))], [(.live true false [(iv 0), (iv 0)])]⟩

/-- a round of loop 0 of facet/span.Length; the variables: v1 = s6, v2 = s7 -/
def S18_0 (a0 : Int) : Int × Int → (Int × Int) ⊕ ((Int × Int) × Int)
  | (v1, v2) =>
   (bif (decide ((v2 : Int) > 0)) then
    (bif (decide (((W ((W ((W ((W (2 * (F34 a0))) * (W (v1 + v2)))) * 2 ^ (min (Int.toNat 20) 64))) + (W ((W (v1 + v2)) * (W (v1 + v2)))))) : Int) ≤ (W ((W (a0 - (W ((F34 a0) * (F34 a0))))) * 2 ^ (min (Int.toNat 40) 64))))) then
     (.inl ((W (v1 + v2)), (W (Int.tdiv v2 2))))
    else
     (.inl (v1, (W (Int.tdiv v2 2)))))
   else
    (bif (((W ((W ((W ((W (2 * (F34 a0))) * v1)) * 2 ^ (min (Int.toNat 20) 64))) + (W (v1 * v1)))) : Int) == (W ((W (a0 - (W ((F34 a0) * (F34 a0))))) * 2 ^ (min (Int.toNat 40) 64)))) then
     (.inr ((F35 (W ((W ((F34 a0) * 2 ^ (min (Int.toNat 20) 64))) + v1)) (W ((W ((F34 a0) * 2 ^ (min (Int.toNat 20) 64))) + v1))).1, (F35 (W ((W ((F34 a0) * 2 ^ (min (Int.toNat 20) 64))) + v1)) (W ((W ((F34 a0) * 2 ^ (min (Int.toNat 20) 64))) + v1))).2))
    else
     (.inr ((F35 (W ((W ((F34 a0) * 2 ^ (min (Int.toNat 20) 64))) + v1)) (W ((W ((W ((F34 a0) * 2 ^ (min (Int.toNat 20) 64))) + v1)) + 1))).1, (F35 (W ((W ((F34 a0) * 2 ^ (min (Int.toNat 20) 64))) + v1)) (W ((W ((W ((F34 a0) * 2 ^ (min (Int.toNat 20) 64))) + v1)) + 1))).2))))

set_option maxHeartbeats 4000000 in
theorem L18_0 (a0 : Int) {cx : Cx} (hcx : cx.base = 0) : ∀ (n : Nat) (v1 : Int) (v2 : Int), (0 ≤ v2) ∧ (v2 ≤ 1099511627776) → Int.toNat v2 < n → Aw.Good Try.prog none 9 (bodyPost Try.prog Try.f18 (RR cx (.t [(.a (k2 (loopF (S18_0 a0) n (v1, v2)).1)), (iv (loopF (S18_0 a0) n (v1, v2)).2)]) [] [])) cx [] (.l B18_0 n :: K18_0) (st18_0 a0 v1 v2) := by
  intro n
  induction n with
  | zero => intro v1 v2 hi hn; exact absurd hn (Nat.not_lt_zero _)
  | succ n ih =>
    intro v1 v2 hi hn
    refine good_round ?_
    have hw1 := half_eq (b := v2) (by omega)
    cases h0 : (decide ((v2 : Int) > 0)) with
    | true =>
     have q0 := of_decide_eq_true h0
     let t1 : List (St Try.prog) := [.d h0, .p (show 0 ≤ (20 : Int) from by decide)]
     cases h1 : (decide (((W ((W ((W ((W (2 * (F34 a0))) * (W (v1 + v2)))) * 2 ^ (min (Int.toNat 20) 64))) + (W ((W (v1 + v2)) * (W (v1 + v2)))))) : Int) ≤ (W ((W (a0 - (W ((F34 a0) * (F34 a0))))) * 2 ^ (min (Int.toNat 40) 64))))) with
     | true =>
      have q1 := of_decide_eq_true h1
      have e := Eq.refl (S18_0 a0 (v1, v2)); conv at e => rhs; simp only [S18_0, h0, h1, cond_true, cond_false]
      rw [loopF_inl e]
      refine ba (t1 ++ [.d h1, .p (show (2 : Int) ≠ 0 from by decide)]) [] [2, 4, 5, 6, 7] [0] hcx (m := n) B18_0 (K18_0) (st18_0 a0 (W (v1 + v2)) (W (Int.tdiv v2 2))) (by kernel_rfl) ?_
      exact ih (W (v1 + v2)) (W (Int.tdiv v2 2)) (by refine ⟨?_, ?_⟩ <;> (try simp only [List.length_append, List.length_cons, List.length_nil, Int.toNat_zero]) <;> first | omega | assumption | simp) (by (try simp only [List.length_append, List.length_cons, List.length_nil, Int.toNat_zero]); omega)
     | false =>
      have q1 := of_decide_eq_false h1
      have e := Eq.refl (S18_0 a0 (v1, v2)); conv at e => rhs; simp only [S18_0, h0, h1, cond_true, cond_false]
      rw [loopF_inl e]
      refine ba (t1 ++ [.d h1, .p (show (2 : Int) ≠ 0 from by decide)]) [] [2, 4, 5, 6, 7] [0] hcx (m := n) B18_0 (K18_0) (st18_0 a0 v1 (W (Int.tdiv v2 2))) (by kernel_rfl) ?_
      exact ih v1 (W (Int.tdiv v2 2)) (by refine ⟨?_, ?_⟩ <;> (try simp only [List.length_append, List.length_cons, List.length_nil, Int.toNat_zero]) <;> first | omega | assumption | simp) (by (try simp only [List.length_append, List.length_cons, List.length_nil, Int.toNat_zero]); omega)
    | false =>
     have q0 := of_decide_eq_false h0
     let t1 : List (St Try.prog) := [.d h0, .p (show 0 ≤ (20 : Int) from by decide), .p (show 0 ≤ (20 : Int) from by decide)]
     cases h1 : (((W ((W ((W ((W (2 * (F34 a0))) * v1)) * 2 ^ (min (Int.toNat 20) 64))) + (W (v1 * v1)))) : Int) == (W ((W (a0 - (W ((F34 a0) * (F34 a0))))) * 2 ^ (min (Int.toNat 40) 64)))) with
     | true =>
      have q1 := eq_of_beq h1
      have e := Eq.refl (S18_0 a0 (v1, v2)); conv at e => rhs; simp only [S18_0, h0, h1, cond_true, cond_false]
      rw [loopF_s, e]
      exact rt (t1 ++ [.d h1, .c [] (C35 (W ((W ((F34 a0) * 2 ^ (min (Int.toNat 20) 64))) + v1)) (W ((W ((F34 a0) * 2 ^ (min (Int.toNat 20) 64))) + v1)))]) [] [] hcx (by kernel_rfl)
     | false =>
      have q1 := ne_of_beq_false h1
      have e := Eq.refl (S18_0 a0 (v1, v2)); conv at e => rhs; simp only [S18_0, h0, h1, cond_true, cond_false]
      rw [loopF_s, e]
      exact rt (t1 ++ [.d h1, .c [] (C35 (W ((W ((F34 a0) * 2 ^ (min (Int.toNat 20) 64))) + v1)) (W ((W ((W ((F34 a0) * 2 ^ (min (Int.toNat 20) 64))) + v1)) + 1)))]) [] [] hcx (by kernel_rfl)

/-- facet/span.Length -/
def F18 (a0 : Int) : (Int × Int) × Int :=
  (bif (decide ((a0 : Int) < 0)) then
   ((0, 0), 1)
  else
   (bif (decide ((a0 : Int) > 1099511627776)) then
    ((0, 0), 1)
   else
    (loopF (S18_0 a0) (Int.toNat 524288 + 1) (0, 524288))))

theorem C18 (a0 : Int) : Con Try.prog 18 [(iv a0)] [] (.t [(.a (k2 (F18 a0).1)), (iv (F18 a0).2)]) [] := by
  refine con_s Try.func18 (by kernel_rfl) fun cx hcx => ?_
  cases h0 : (decide ((a0 : Int) < 0)) with
  | true =>
   have q0 := of_decide_eq_true h0
   have e := Eq.refl (F18 a0); conv at e => rhs; simp only [F18, h0, cond_true, cond_false]
   rw [e]
   exact rt [.d h0] [] [] hcx (by kernel_rfl)
  | false =>
   have q0 := of_decide_eq_false h0
   let t1 : List (St Try.prog) := [.d h0]
   cases h1 : (decide ((a0 : Int) > 1099511627776)) with
   | true =>
    have q1 := of_decide_eq_true h1
    have e := Eq.refl (F18 a0); conv at e => rhs; simp only [F18, h0, h1, cond_true, cond_false]
    rw [e]
    exact rt (t1 ++ [.d h1]) [] [] hcx (by kernel_rfl)
   | false =>
    have q1 := of_decide_eq_false h1
    have e := Eq.refl (F18 a0); conv at e => rhs; simp only [F18, h0, h1, cond_true, cond_false]
    rw [e]
    refine en (t1 ++ [.d h1, .c [] (C34 a0), .p (show 0 ≤ (40 : Int) from by decide)]) [] [2, 4, 5, 6, 7] [0] hcx B18_0 (K18_0) (st18_0 a0 0 524288) (Int.toNat 524288 + 1) (by kernel_rfl) ?_
    exact L18_0 a0 hcx (Int.toNat 524288 + 1) 0 524288 (by refine ⟨?_, ?_⟩ <;> (try simp only [List.length_append, List.length_cons, List.length_nil, Int.toNat_zero]) <;> first | omega | assumption | simp) (by (try simp only [List.length_append, List.length_cons, List.length_nil, Int.toNat_zero]); omega)

/-! ### Lengths -/
def lenV (n r : Int) : (Int × Int) × Int := F35 r (if r * r = n * 1099511627776 then r else r + 1)
theorem Len_f {n : Int} (h : 0 ≤ n ∧ n ≤ 400000) : ∃ r, IsRt (n * 1099511627776) r ∧ F18 n = lenV n r := by
  have ha := rtSpan (n := n) h.1 (by omega)
  unfold F18
  rw [decide_eq_false (by omega), decide_eq_false (by omega), cond_false, cond_false]
  have hle : F34 n ≤ 1000 := ha.le (by omega) (by omega)
  have h0 := ha.1
  have h1 := ha.2.1
  have h2 := ha.2.2
  have p20 : (2 : Int) ^ (min (Int.toNat 20) 64) = 1048576 := by decide
  have p40 : (2 : Int) ^ (min (Int.toNat 40) 64) = 1099511627776 := by decide
  generalize ea : F34 n = a at *
  have haa : 0 ≤ a * a := Int.mul_nonneg h0 h0
  have ex : (a + 1) * (a + 1) = a * a + 2 * a + 1 := by grind
  have key : ∀ f : Int, 0 ≤ f → f ≤ 1048576 → W ((W ((W ((W (2 * a)) * (W f))) * 2 ^ (min (Int.toNat 20) 64))) + (W ((W f) * (W f)))) = (a * 1048576 + f) * (a * 1048576 + f) - a * a * 1099511627776 := by
    intro f f0 f1
    have m1 := mul_bd (a := 1000) (b := 1048576) (x := a) (y := f) ⟨by omega, by omega⟩ ⟨by omega, by omega⟩
    have m2 := mul_bd (a := 1048576) (b := 1048576) (x := f) (y := f) ⟨by omega, by omega⟩ ⟨by omega, by omega⟩
    have e1 : 2 * a * f = 2 * (a * f) := by grind
    rw [p20, W_eq (n := f) (by omega) (by omega), W_eq (n := 2 * a) (by omega) (by omega), e1, W_eq (n := 2 * (a * f)) (by omega) (by omega), W_eq (n := 2 * (a * f) * 1048576) (by omega) (by omega), W_eq (n := f * f) (by omega) (by omega), W_eq (by omega) (by omega)]
    grind
  have rest : W ((W (n - (W (a * a)))) * 2 ^ (min (Int.toNat 40) 64)) = n * 1099511627776 - a * a * 1099511627776 := by
    rw [p40, W_eq (n := a * a) (by omega) (by omega), W_eq (n := n - a * a) (by omega) (by omega), W_eq (by omega) (by omega)]
    omega
  have key0 : ∀ f : Int, 0 ≤ f → f ≤ 1048576 → W ((W ((W ((W (2 * a)) * f)) * 2 ^ (min (Int.toNat 20) 64))) + (W (f * f))) = (a * 1048576 + f) * (a * 1048576 + f) - a * a * 1099511627776 := by
    intro f f0 f1
    have := key f f0 f1
    rwa [W_eq (n := f) (by omega) (by omega)] at this
  have A20 : W (a * 2 ^ (min (Int.toNat 20) 64)) = a * 1048576 := by rw [p20, W_eq (by omega) (by omega)]
  obtain ⟨f, f0, f1, g1, g2, e⟩ := gbits (p := fun f => (a * 1048576 + f) * (a * 1048576 + f) ≤ n * 1099511627776) (G := fun f => lenV n (a * 1048576 + f)) (M := 1048576) (S := S18_0 n) (fun k b hk hb hkb => by
      simp only [S18_0, ea]
      rw [decide_eq_true (show b > 0 from hb), cond_true, key (k + b) (by omega) (by omega), rest, W_eq (n := k + b) (by omega) (by omega), Int.tdiv_eq_ediv_of_nonneg (by omega), W_eq (n := b / 2) (by omega) (by omega)]
      by_cases hc : (a * 1048576 + (k + b)) * (a * 1048576 + (k + b)) ≤ n * 1099511627776
      · rw [if_pos hc, decide_eq_true (by omega), cond_true]
      · rw [if_neg hc, decide_eq_false (by omega), cond_false])
    (fun k hk hk2 => by
      simp only [S18_0, ea]
      rw [decide_eq_false (by omega), cond_false, key0 k hk hk2, rest, A20, W_eq (n := a * 1048576 + k) (by omega) (by omega), W_eq (n := a * 1048576 + k + 1) (by omega) (by omega)]
      unfold lenV
      by_cases hc : (a * 1048576 + k) * (a * 1048576 + k) = n * 1099511627776
      · rw [if_pos hc, hc, beq_self_eq_true, cond_true]
      · rw [if_neg hc, beq_eq_false_iff_ne.2 (by omega), cond_false])
    19 (Int.toNat 524288 + 1) 0 (by decide) (by omega) (by decide) (by
      have : (a * 1048576 + 0) * (a * 1048576 + 0) = a * a * 1099511627776 := by grind
      omega) (by
      have : (a * 1048576 + (0 + 2 * 2 ^ 19)) * (a * 1048576 + (0 + 2 * 2 ^ 19)) = (a + 1) * (a + 1) * 1099511627776 := by grind
      rw [this]; omega)
  refine ⟨a * 1048576 + f, ⟨by omega, g1, ?_⟩, e⟩
  rw [show a * 1048576 + f + 1 = a * 1048576 + (f + 1) by omega]
  omega
end Go.Proofs.Ythpgabaeefifbaa

namespace Go.Proofs.Ythpgabaeefifbaa
open Go.Proofs Go.Aw Go.RowKit
set_option maxRecDepth 100000
set_option linter.unusedVariables false
set_option linter.unusedSimpArgs false

theorem pts_one {m : ME} (h : ((F13 m : Int) != 0) = false) : 1 ≤ m.1.length ∧ m.1.length ≤ 64 := by
  obtain ⟨h1, h2, h3, _, h4⟩ := val_parts (bne_eq_false_iff_eq.1 h)
  have := (val_ok h).1 0 (Int.le_refl 0) (by omega)
  exact ⟨by omega, h1⟩
/-- facet/hold.within -/
def F14 (a0 : Int) (a1 : Int) (a2 : Int) : Bool :=
  (bif (decide ((a0 : Int) ≥ a1)) then
   (decide ((a0 : Int) ≤ a2))
  else
   false)

theorem C14 (a0 : Int) (a1 : Int) (a2 : Int) : Con Try.prog 14 [(iv a0), (iv a1), (iv a2)] [] (.v (.bool (F14 a0 a1 a2))) [] := by
  refine con_s Try.func14 (by kernel_rfl) fun cx hcx => ?_
  cases h0 : (decide ((a0 : Int) ≥ a1)) with
  | true =>
   have q0 := of_decide_eq_true h0
   have e := Eq.refl (F14 a0 a1 a2); conv at e => rhs; simp only [F14, h0, cond_true, cond_false]
   rw [e]
   exact rt [.d h0] [] [] hcx (by kernel_rfl)
  | false =>
   have q0 := of_decide_eq_false h0
   have e := Eq.refl (F14 a0 a1 a2); conv at e => rhs; simp only [F14, h0, cond_true, cond_false]
   rw [e]
   exact rt [.d h0] [] [] hcx (by kernel_rfl)

/-- facet/facetref07.within -/
def F16 (a0 : Int) (a1 : Int) (a2 : Int) : Bool :=
  (bif (decide ((a0 : Int) ≥ a1)) then
   (decide ((a0 : Int) ≤ a2))
  else
   false)

theorem C16 (a0 : Int) (a1 : Int) (a2 : Int) : Con Try.prog 16 [(iv a0), (iv a1), (iv a2)] [] (.v (.bool (F16 a0 a1 a2))) [] := by
  refine con_s Try.func16 (by kernel_rfl) fun cx hcx => ?_
  cases h0 : (decide ((a0 : Int) ≥ a1)) with
  | true =>
   have q0 := of_decide_eq_true h0
   have e := Eq.refl (F16 a0 a1 a2); conv at e => rhs; simp only [F16, h0, cond_true, cond_false]
   rw [e]
   exact rt [.d h0] [] [] hcx (by kernel_rfl)
  | false =>
   have q0 := of_decide_eq_false h0
   have e := Eq.refl (F16 a0 a1 a2); conv at e => rhs; simp only [F16, h0, cond_true, cond_false]
   rw [e]
   exact rt [.d h0] [] [] hcx (by kernel_rfl)

theorem hwin_f {d : Int} {a b : Int} (h : (!F14 d a b) = false) : a ≤ d ∧ d ≤ b := by
  unfold F14 at h
  by_cases h1 : d ≥ a
  · by_cases h2 : d ≤ b
    · exact ⟨h1, h2⟩
    · rw [decide_eq_true h1, decide_eq_false h2] at h; simp at h
  · rw [decide_eq_false h1] at h; simp at h
theorem hwin_r {d : Int} {a b : Int} (h : (!F16 d a b) = false) : a ≤ d ∧ d ≤ b := hwin_f h

/-- int, as cells -/
def c3 (x : Int) : List SV := [(iv x)]
theorem c3_len (x : Int) : (c3 x).length = 1 := rfl

noncomputable def B8_L_0 : Code := (loopAtD [1, 1, 1, 1, 0, 1] [] (bodyOf Try.f8) []).1
noncomputable def K8_L_0 : List K := (loopAtD [1, 1, 1, 1, 0, 1] [] (bodyOf Try.f8) []).2

def st8_L_0 (a0 : (List (Int × Int × Int)) × List (Int × Int × Int)) (a1 : List (Int)) (v1 : Int) (v2 : Int) : LS := ⟨slN 35 [(6, (iv v1)), (20, (.s 2 0 a1.length 1)), (21, (iv ((a1.length : Nat) : Int))), (22, (iv v2))], [(.live false true (flat c37 a0.1)), (.live false true (flat c46 a0.2)), (.live false true (flat c3 a1))]⟩

/-- a round of loop 0 of facet/hold.ValidateCharges; the variables: v1 = s6, v2 = s22 -/
def S8_L_0 (a0 : (List (Int × Int × Int)) × List (Int × Int × Int)) (a1 : List (Int)) : Int × Int → (Int × Int) ⊕ (Int)
  | (v1, v2) =>
   (bif (decide ((v2 : Int) < ((a1.length : Nat) : Int))) then
    (bif (!(F14 (a1.getD (Int.toNat v2) default) 0 100)) then
     (.inr 1)
    else
     (.inl ((W (v1 + (a1.getD (Int.toNat v2) default))), (v2 + 1))))
   else
    (bif ((v1 : Int) == 0) then
     (.inr 11)
    else
     (.inr 0)))

set_option maxHeartbeats 4000000 in
theorem L8_L_0 (a0 : (List (Int × Int × Int)) × List (Int × Int × Int)) (a1 : List (Int)) (l0_1 : a0.1.length ≤ 9223372036854775807) (l0_2 : a0.2.length ≤ 9223372036854775807) (l1 : a1.length ≤ 9223372036854775807) {cx : Cx} (hcx : cx.base = 3) : ∀ (n : Nat) (v1 : Int) (v2 : Int), 0 ≤ v2 → Int.toNat (((a1.length : Nat) : Int) - v2) < n → Aw.Good Try.prog none 9 (bodyPost Try.prog Try.f8 (RR cx (iv (loopF (S8_L_0 a0 a1) n (v1, v2))) [] [])) cx [] (.l B8_L_0 n :: K8_L_0) (st8_L_0 a0 a1 v1 v2) := by
  intro n
  induction n with
  | zero => intro v1 v2 hi hn; exact absurd hn (Nat.not_lt_zero _)
  | succ n ih =>
    intro v1 v2 hi hn
    refine good_round ?_
    cases h0 : (decide ((v2 : Int) < ((a1.length : Nat) : Int))) with
    | true =>
     have q0 := of_decide_eq_true h0
     let t1 : List (St Try.prog) := [.d h0, .i v2 (a1.length), .L c3_len a1 v2 0 1, .c [] (C14 (a1.getD (Int.toNat v2) default) 0 100)]
     cases h1 : (!(F14 (a1.getD (Int.toNat v2) default) 0 100)) with
     | true =>
      have e := Eq.refl (S8_L_0 a0 a1 (v1, v2)); conv at e => rhs; simp only [S8_L_0, h0, h1, cond_true, cond_false]
      rw [loopF_s, e]
      exact rt (t1 ++ [.d h1]) [] [] hcx (by kernel_rfl)
     | false =>
      have e := Eq.refl (S8_L_0 a0 a1 (v1, v2)); conv at e => rhs; simp only [S8_L_0, h0, h1, cond_true, cond_false]
      rw [loopF_inl e]
      refine ba (t1 ++ [.d h1]) [] [6, 20, 21, 22] [] hcx (m := n) B8_L_0 (K8_L_0) (st8_L_0 a0 a1 (W (v1 + (a1.getD (Int.toNat v2) default))) (W (v2 + 1))) (by kernel_rfl) ?_
      have z0 : (W (v2 + 1)) = (v2 + 1) := W_eq (by omega) (by omega)
      rw [z0]
      exact ih (W (v1 + (a1.getD (Int.toNat v2) default))) (v2 + 1) (by (try simp only [List.length_append, List.length_cons, List.length_nil, Int.toNat_zero]); omega) (by (try simp only [List.length_append, List.length_cons, List.length_nil, Int.toNat_zero]); omega)
    | false =>
     have q0 := of_decide_eq_false h0
     let t1 : List (St Try.prog) := [.d h0]
     cases h1 : ((v1 : Int) == 0) with
     | true =>
      have q1 := eq_of_beq h1
      have e := Eq.refl (S8_L_0 a0 a1 (v1, v2)); conv at e => rhs; simp only [S8_L_0, h0, h1, cond_true, cond_false]
      rw [loopF_s, e]
      exact rt (t1 ++ [.d h1]) [] [] hcx (by kernel_rfl)
     | false =>
      have q1 := ne_of_beq_false h1
      have e := Eq.refl (S8_L_0 a0 a1 (v1, v2)); conv at e => rhs; simp only [S8_L_0, h0, h1, cond_true, cond_false]
      rw [loopF_s, e]
      exact rt (t1 ++ [.d h1]) [] [] hcx (by kernel_rfl)

/-- facet/hold.ValidateCharges at ('L',) -/
def F8_L (a0 : (List (Int × Int × Int)) × List (Int × Int × Int)) (a1 : List (Int)) : Int :=
  (bif (((F13 (a0.1, a0.2)) : Int) != 0) then
   (F13 (a0.1, a0.2))
  else
   (bif ((((a1.length : Nat) : Int) : Int) != ((a0.2.length : Nat) : Int)) then
    1
   else
    (loopF (S8_L_0 a0 a1) (Int.toNat (((a1.length : Nat) : Int) - 0) + 1) (0, 0))))

theorem C8_L (a0 : (List (Int × Int × Int)) × List (Int × Int × Int)) (a1 : List (Int)) (l0_1 : a0.1.length ≤ 9223372036854775807) (l0_2 : a0.2.length ≤ 9223372036854775807) (l1 : a1.length ≤ 9223372036854775807) : Con Try.prog 8 [(.a [(.s 0 0 a0.1.length 3), (.s 1 0 a0.2.length 3)]), (.s 2 0 a1.length 1)] [(.live false true (flat c37 a0.1)), (.live false true (flat c46 a0.2)), (.live false true (flat c3 a1))] (iv (F8_L a0 a1)) [] := by
  refine con_s Try.func8 (by kernel_rfl) fun cx hcx => ?_
  let t0 : List (St Try.prog) := [.c [0, 1] (C13 (a0.1, a0.2) (by (try simp only [List.length_append, List.length_cons, List.length_nil, Int.toNat_zero]); omega) (by (try simp only [List.length_append, List.length_cons, List.length_nil, Int.toNat_zero]); omega))]
  cases h0 : (((F13 (a0.1, a0.2)) : Int) != 0) with
  | true =>
   have q0 := bne_iff_ne.1 h0
   have e := Eq.refl (F8_L a0 a1); conv at e => rhs; simp only [F8_L, h0, cond_true, cond_false]
   rw [e]
   exact rt (t0 ++ [.d h0]) [] [] hcx (by kernel_rfl)
  | false =>
   have q0 := bne_eq_false_iff_eq.1 h0
   let t1 : List (St Try.prog) := (t0 ++ [.d h0])
   cases h1 : ((((a1.length : Nat) : Int) : Int) != ((a0.2.length : Nat) : Int)) with
   | true =>
    have q1 := bne_iff_ne.1 h1
    have e := Eq.refl (F8_L a0 a1); conv at e => rhs; simp only [F8_L, h0, h1, cond_true, cond_false]
    rw [e]
    exact rt (t1 ++ [.d h1]) [] [] hcx (by kernel_rfl)
   | false =>
    have q1 := bne_eq_false_iff_eq.1 h1
    have e := Eq.refl (F8_L a0 a1); conv at e => rhs; simp only [F8_L, h0, h1, cond_true, cond_false]
    rw [e]
    refine en (t1 ++ [.d h1]) [] [6, 20, 21, 22] [] hcx B8_L_0 (K8_L_0) (st8_L_0 a0 a1 0 0) (Int.toNat (((a1.length : Nat) : Int) - 0) + 1) (by kernel_rfl) ?_
    exact L8_L_0 a0 a1 l0_1 l0_2 l1 hcx (Int.toNat (((a1.length : Nat) : Int) - 0) + 1) 0 0 (by (try simp only [List.length_append, List.length_cons, List.length_nil, Int.toNat_zero]); omega) (by (try simp only [List.length_append, List.length_cons, List.length_nil, Int.toNat_zero]); omega)

/-- facet/hold.check at ('L',) -/
def F36_L (a0 : (List (Int × Int × Int)) × List (Int × Int × Int)) (a1 : List (Int)) (a2 : Int) : Int :=
  (bif (((F8_L (a0.1, a0.2) a1) : Int) != 0) then
   (F8_L (a0.1, a0.2) a1)
  else
   (bif (!(F14 a2 0 2)) then
    1
   else
    0))

theorem C36_L (a0 : (List (Int × Int × Int)) × List (Int × Int × Int)) (a1 : List (Int)) (a2 : Int) (l0_1 : a0.1.length ≤ 9223372036854775807) (l0_2 : a0.2.length ≤ 9223372036854775807) (l1 : a1.length ≤ 9223372036854775807) : Con Try.prog 36 [(.a [(.s 0 0 a0.1.length 3), (.s 1 0 a0.2.length 3)]), (.s 2 0 a1.length 1), (iv a2)] [(.live false true (flat c37 a0.1)), (.live false true (flat c46 a0.2)), (.live false true (flat c3 a1))] (iv (F36_L a0 a1 a2)) [] := by
  refine con_s Try.func36 (by kernel_rfl) fun cx hcx => ?_
  let t0 : List (St Try.prog) := [.c [0, 1, 2] (C8_L (a0.1, a0.2) a1 (by (try simp only [List.length_append, List.length_cons, List.length_nil, Int.toNat_zero]); omega) (by (try simp only [List.length_append, List.length_cons, List.length_nil, Int.toNat_zero]); omega) (by (try simp only [List.length_append, List.length_cons, List.length_nil, Int.toNat_zero]); omega))]
  cases h0 : (((F8_L (a0.1, a0.2) a1) : Int) != 0) with
  | true =>
   have q0 := bne_iff_ne.1 h0
   have e := Eq.refl (F36_L a0 a1 a2); conv at e => rhs; simp only [F36_L, h0, cond_true, cond_false]
   rw [e]
   exact rt (t0 ++ [.d h0]) [] [] hcx (by kernel_rfl)
  | false =>
   have q0 := bne_eq_false_iff_eq.1 h0
   let t1 : List (St Try.prog) := (t0 ++ [.d h0, .c [] (C14 a2 0 2)])
   cases h1 : (!(F14 a2 0 2)) with
   | true =>
    have e := Eq.refl (F36_L a0 a1 a2); conv at e => rhs; simp only [F36_L, h0, h1, cond_true, cond_false]
    rw [e]
    exact rt (t1 ++ [.d h1]) [] [] hcx (by kernel_rfl)
   | false =>
    have e := Eq.refl (F36_L a0 a1 a2); conv at e => rhs; simp only [F36_L, h0, h1, cond_true, cond_false]
    rw [e]
    exact rt (t1 ++ [.d h1]) [] [] hcx (by kernel_rfl)

/-- facet/hold.limited -/
def F67 (a0 : Int) : Int × Int :=
  (bif (decide ((a0 : Int) > 1099511627776)) then
   (0, 4)
  else
   (a0, 0))

theorem C67 (a0 : Int) : Con Try.prog 67 [(iv a0)] [] (.t (k2 (F67 a0))) [] := by
  refine con_s Try.func67 (by kernel_rfl) fun cx hcx => ?_
  cases h0 : (decide ((a0 : Int) > 1099511627776)) with
  | true =>
   have q0 := of_decide_eq_true h0
   have e := Eq.refl (F67 a0); conv at e => rhs; simp only [F67, h0, cond_true, cond_false]
   rw [e]
   exact rt [.d h0] [] [] hcx (by kernel_rfl)
  | false =>
   have q0 := of_decide_eq_false h0
   have e := Eq.refl (F67 a0); conv at e => rhs; simp only [F67, h0, cond_true, cond_false]
   rw [e]
   exact rt [.d h0] [] [] hcx (by kernel_rfl)

noncomputable def B68_L_0 : Code := (loopAtD [1, 1, 0, 1] [] (bodyOf Try.f68) []).1
noncomputable def K68_L_0 : List K := (loopAtD [1, 1, 0, 1] [] (bodyOf Try.f68) []).2

def st68_L_0 (a0 : List (Int)) (v1 : Int) (v2 : Int) : LS := ⟨slN 19 [(3, (iv v1)), (6, (.s 0 0 a0.length 1)), (7, (iv ((a0.length : Nat) : Int))), (8, (iv v2))], [(.live false true (flat c3 a0))]⟩

/-- a round of loop 0 of facet/hold.total; the variables: v1 = s3, v2 = s8 -/
def S68_L_0 (a0 : List (Int)) : Int × Int → (Int × Int) ⊕ (Int)
  | (v1, v2) =>
   (bif (decide ((v2 : Int) < ((a0.length : Nat) : Int))) then
    (.inl ((W (v1 + (a0.getD (Int.toNat v2) default))), (v2 + 1)))
   else
    (.inr (W ((W (v1 * 1048576)) * 1048576))))

set_option maxHeartbeats 4000000 in
theorem L68_L_0 (a0 : List (Int)) (l0 : a0.length ≤ 9223372036854775807) {cx : Cx} (hcx : cx.base = 1) : ∀ (n : Nat) (v1 : Int) (v2 : Int), 0 ≤ v2 → Int.toNat (((a0.length : Nat) : Int) - v2) < n → Aw.Good Try.prog none 9 (bodyPost Try.prog Try.f68 (RR cx (iv (loopF (S68_L_0 a0) n (v1, v2))) [] [])) cx [] (.l B68_L_0 n :: K68_L_0) (st68_L_0 a0 v1 v2) := by
  intro n
  induction n with
  | zero => intro v1 v2 hi hn; exact absurd hn (Nat.not_lt_zero _)
  | succ n ih =>
    intro v1 v2 hi hn
    refine good_round ?_
    cases h0 : (decide ((v2 : Int) < ((a0.length : Nat) : Int))) with
    | true =>
     have q0 := of_decide_eq_true h0
     have e := Eq.refl (S68_L_0 a0 (v1, v2)); conv at e => rhs; simp only [S68_L_0, h0, cond_true, cond_false]
     rw [loopF_inl e]
     refine ba [.d h0, .i v2 (a0.length), .L c3_len a0 v2 0 1] [] [3, 6, 7, 8] [] hcx (m := n) B68_L_0 (K68_L_0) (st68_L_0 a0 (W (v1 + (a0.getD (Int.toNat v2) default))) (W (v2 + 1))) (by kernel_rfl) ?_
     have z0 : (W (v2 + 1)) = (v2 + 1) := W_eq (by omega) (by omega)
     rw [z0]
     exact ih (W (v1 + (a0.getD (Int.toNat v2) default))) (v2 + 1) (by (try simp only [List.length_append, List.length_cons, List.length_nil, Int.toNat_zero]); omega) (by (try simp only [List.length_append, List.length_cons, List.length_nil, Int.toNat_zero]); omega)
    | false =>
     have q0 := of_decide_eq_false h0
     have e := Eq.refl (S68_L_0 a0 (v1, v2)); conv at e => rhs; simp only [S68_L_0, h0, cond_true, cond_false]
     rw [loopF_s, e]
     exact rt [.d h0] [] [] hcx (by kernel_rfl)

/-- facet/hold.total at ('L',) -/
def F68_L (a0 : List (Int)) : Int :=
  (loopF (S68_L_0 a0) (Int.toNat (((a0.length : Nat) : Int) - 0) + 1) (0, 0))

theorem C68_L (a0 : List (Int)) (l0 : a0.length ≤ 9223372036854775807) : Con Try.prog 68 [(.s 0 0 a0.length 1)] [(.live false true (flat c3 a0))] (iv (F68_L a0)) [] := by
  refine con_s Try.func68 (by kernel_rfl) fun cx hcx => ?_
  have e := Eq.refl (F68_L a0); conv at e => rhs; simp only [F68_L]
  rw [e]
  refine en [] [] [3, 6, 7, 8] [] hcx B68_L_0 (K68_L_0) (st68_L_0 a0 0 0) (Int.toNat (((a0.length : Nat) : Int) - 0) + 1) (by kernel_rfl) ?_
  exact L68_L_0 a0 l0 hcx (Int.toNat (((a0.length : Nat) : Int) - 0) + 1) 0 0 (by (try simp only [List.length_append, List.length_cons, List.length_nil, Int.toNat_zero]); omega) (by (try simp only [List.length_append, List.length_cons, List.length_nil, Int.toNat_zero]); omega)

noncomputable def B10_1 : Code := (loopAtD [1, 1, 1, 1, 0, 1] [] (bodyOf Try.f10) []).1
noncomputable def K10_1 : List K := (loopAtD [1, 1, 1, 1, 0, 1] [] (bodyOf Try.f10) []).2

def st10_1 (a0 : (List (Int × Int × Int)) × List (Int × Int × Int)) (a1 : Int × Int × Int) (v1 : Int) (v2 : Int) : LS := ⟨slN 82 [(3, (.p 2 0)), (9, (iv v1)), (39, (.s 0 0 a0.1.length 3)), (40, (iv ((a0.1.length : Nat) : Int))), (41, (iv v2))], [(.live false true (flat c37 a0.1)), (.live false true (flat c46 a0.2)), (.live true false (k3 a1))]⟩

/-- a round of loop 1 of facet/hold.Ball; the variables: v1 = s9, v2 = s41 -/
def S10_1 (a0 : (List (Int × Int × Int)) × List (Int × Int × Int)) (a1 : Int × Int × Int) : Int × Int → (Int × Int) ⊕ (Int × Int)
  | (v1, v2) =>
   (bif (decide ((v2 : Int) < ((a0.1.length : Nat) : Int))) then
    (.inl ((imx v1 (W ((W ((W ((W ((a0.1.getD (Int.toNat v2) default).1 - a1.1)) * (W ((a0.1.getD (Int.toNat v2) default).1 - a1.1)))) + (W ((W ((a0.1.getD (Int.toNat v2) default).2.1 - a1.2.1)) * (W ((a0.1.getD (Int.toNat v2) default).2.1 - a1.2.1)))))) + (W ((W ((a0.1.getD (Int.toNat v2) default).2.2 - a1.2.2)) * (W ((a0.1.getD (Int.toNat v2) default).2.2 - a1.2.2))))))), (v2 + 1)))
   else
    (.inr ((F18 v1).1.2, (F18 v1).2)))

set_option maxHeartbeats 4000000 in
theorem L10_1 (a0 : (List (Int × Int × Int)) × List (Int × Int × Int)) (a1 : Int × Int × Int) (l0_1 : a0.1.length ≤ 9223372036854775807) (l0_2 : a0.2.length ≤ 9223372036854775807) {cx : Cx} (hcx : cx.base = 2) : ∀ (n : Nat) (v1 : Int) (v2 : Int), 0 ≤ v2 → Int.toNat (((a0.1.length : Nat) : Int) - v2) < n → Aw.Good Try.prog none 9 (bodyPost Try.prog Try.f10 (RR cx (.t (k2 (loopF (S10_1 a0 a1) n (v1, v2)))) [] [])) cx [] (.l B10_1 n :: K10_1) (st10_1 a0 a1 v1 v2) := by
  intro n
  induction n with
  | zero => intro v1 v2 hi hn; exact absurd hn (Nat.not_lt_zero _)
  | succ n ih =>
    intro v1 v2 hi hn
    refine good_round ?_
    cases h0 : (decide ((v2 : Int) < ((a0.1.length : Nat) : Int))) with
    | true =>
     have q0 := of_decide_eq_true h0
     have e := Eq.refl (S10_1 a0 a1 (v1, v2)); conv at e => rhs; simp only [S10_1, h0, cond_true, cond_false]
     rw [loopF_inl e]
     refine ba [.d h0, .i v2 (a0.1.length), .L c37_len a0.1 v2 0 3] [] [3, 9, 39, 40, 41] [2] hcx (m := n) B10_1 (K10_1) (st10_1 a0 a1 (imx v1 (W ((W ((W ((W ((a0.1.getD (Int.toNat v2) default).1 - a1.1)) * (W ((a0.1.getD (Int.toNat v2) default).1 - a1.1)))) + (W ((W ((a0.1.getD (Int.toNat v2) default).2.1 - a1.2.1)) * (W ((a0.1.getD (Int.toNat v2) default).2.1 - a1.2.1)))))) + (W ((W ((a0.1.getD (Int.toNat v2) default).2.2 - a1.2.2)) * (W ((a0.1.getD (Int.toNat v2) default).2.2 - a1.2.2))))))) (W (v2 + 1))) (by kernel_rfl) ?_
     have z0 : (W (v2 + 1)) = (v2 + 1) := W_eq (by omega) (by omega)
     rw [z0]
     exact ih (imx v1 (W ((W ((W ((W ((a0.1.getD (Int.toNat v2) default).1 - a1.1)) * (W ((a0.1.getD (Int.toNat v2) default).1 - a1.1)))) + (W ((W ((a0.1.getD (Int.toNat v2) default).2.1 - a1.2.1)) * (W ((a0.1.getD (Int.toNat v2) default).2.1 - a1.2.1)))))) + (W ((W ((a0.1.getD (Int.toNat v2) default).2.2 - a1.2.2)) * (W ((a0.1.getD (Int.toNat v2) default).2.2 - a1.2.2))))))) (v2 + 1) (by (try simp only [List.length_append, List.length_cons, List.length_nil, Int.toNat_zero]); omega) (by (try simp only [List.length_append, List.length_cons, List.length_nil, Int.toNat_zero]); omega)
    | false =>
     have q0 := of_decide_eq_false h0
     have e := Eq.refl (S10_1 a0 a1 (v1, v2)); conv at e => rhs; simp only [S10_1, h0, cond_true, cond_false]
     rw [loopF_s, e]
     exact rt [.d h0, .c [] (C18 v1)] [] [] hcx (by kernel_rfl)

/-- facet/hold.Ball -/
def F10 (a0 : (List (Int × Int × Int)) × List (Int × Int × Int)) (a1 : Int × Int × Int) : Int × Int :=
  (bif (((F13 (a0.1, a0.2)) : Int) != 0) then
   (0, (F13 (a0.1, a0.2)))
  else
   (bif (!(F14 a1.1 (-256) 256)) then
    (0, 1)
   else
    (bif (!(F14 a1.2.1 (-256) 256)) then
     (0, 1)
    else
     (bif (!(F14 a1.2.2 (-256) 256)) then
      (0, 1)
     else
      (loopF (S10_1 a0 a1) (Int.toNat (((a0.1.length : Nat) : Int) - 0) + 1) (0, 0))))))

theorem C10 (a0 : (List (Int × Int × Int)) × List (Int × Int × Int)) (a1 : Int × Int × Int) (l0_1 : a0.1.length ≤ 9223372036854775807) (l0_2 : a0.2.length ≤ 9223372036854775807) : Con Try.prog 10 [(.a [(.s 0 0 a0.1.length 3), (.s 1 0 a0.2.length 3)]), (.a (k3 a1))] [(.live false true (flat c37 a0.1)), (.live false true (flat c46 a0.2))] (.t (k2 (F10 a0 a1))) [] := by
  refine con_s Try.func10 (by kernel_rfl) fun cx hcx => ?_
  let t0 : List (St Try.prog) := [.c [0, 1] (C13 (a0.1, a0.2) (by (try simp only [List.length_append, List.length_cons, List.length_nil, Int.toNat_zero]); omega) (by (try simp only [List.length_append, List.length_cons, List.length_nil, Int.toNat_zero]); omega))]
  cases h0 : (((F13 (a0.1, a0.2)) : Int) != 0) with
  | true =>
   have q0 := bne_iff_ne.1 h0
   have e := Eq.refl (F10 a0 a1); conv at e => rhs; simp only [F10, h0, cond_true, cond_false]
   rw [e]
   exact rt (t0 ++ [.d h0]) [] [] hcx (by kernel_rfl)
  | false =>
   have q0 := bne_eq_false_iff_eq.1 h0
   let t1 : List (St Try.prog) := (t0 ++ [.d h0, .u 200, .T, .i 0 3 (by decide), .c [] (C14 a1.1 (-256) 256)])
   cases h1 : (!(F14 a1.1 (-256) 256)) with
   | true =>
    have e := Eq.refl (F10 a0 a1); conv at e => rhs; simp only [F10, h0, h1, cond_true, cond_false]
    rw [e]
    exact rt (t1 ++ [.d h1]) [] [] hcx (by kernel_rfl)
   | false =>
    let t2 : List (St Try.prog) := (t1 ++ [.d h1, .u 0, .T, .i 1 3 (by decide), .c [] (C14 a1.2.1 (-256) 256)])
    cases h2 : (!(F14 a1.2.1 (-256) 256)) with
    | true =>
     have e := Eq.refl (F10 a0 a1); conv at e => rhs; simp only [F10, h0, h1, h2, cond_true, cond_false]
     rw [e]
     exact rt (t2 ++ [.d h2]) [] [] hcx (by kernel_rfl)
    | false =>
     let t3 : List (St Try.prog) := (t2 ++ [.d h2, .u 0, .T, .i 2 3 (by decide), .c [] (C14 a1.2.2 (-256) 256)])
     cases h3 : (!(F14 a1.2.2 (-256) 256)) with
     | true =>
      have e := Eq.refl (F10 a0 a1); conv at e => rhs; simp only [F10, h0, h1, h2, h3, cond_true, cond_false]
      rw [e]
      exact rt (t3 ++ [.d h3]) [] [] hcx (by kernel_rfl)
     | false =>
      have e := Eq.refl (F10 a0 a1); conv at e => rhs; simp only [F10, h0, h1, h2, h3, cond_true, cond_false]
      rw [e]
      refine en (t3 ++ [.d h3, .u 0, .F]) [] [3, 9, 39, 40, 41] [3] hcx B10_1 (K10_1) (st10_1 a0 a1 0 0) (Int.toNat (((a0.1.length : Nat) : Int) - 0) + 1) (by kernel_rfl) ?_
      exact L10_1 a0 a1 l0_1 l0_2 hcx (Int.toNat (((a0.1.length : Nat) : Int) - 0) + 1) 0 0 (by (try simp only [List.length_append, List.length_cons, List.length_nil, Int.toNat_zero]); omega) (by (try simp only [List.length_append, List.length_cons, List.length_nil, Int.toNat_zero]); omega)

noncomputable def B51_0 : Code := (loopAtD [1, 1, 1, 0, 1] [] (bodyOf Try.f51) []).1
noncomputable def K51_0 : List K := (loopAtD [1, 1, 1, 0, 1] [] (bodyOf Try.f51) []).2

def st51_0 (a0 : (List (Int × Int × Int)) × List (Int × Int × Int)) (v1 : Int) (v2 : Int) (v3 : Int) (v4 : Int) (v5 : Int) (v6 : Int) (v7 : Int) : LS := ⟨slN 65 [(2, (.p 2 0)), (3, (.p 3 0)), (24, (.s 0 0 a0.1.length 3)), (25, (iv ((a0.1.length : Nat) : Int))), (26, (iv v1))], [(.live false true (flat c37 a0.1)), (.live false true (flat c46 a0.2)), (.live true false [(iv v2), (iv v3), (iv v4)]), (.live true false [(iv v5), (iv v6), (iv v7)])]⟩

/-- a round of loop 0 of facet/shape.Box; the variables: v1 = s26, v2 = s2_0, v3 = s2_1, v4 = s2_2, v5 = s3_0, v6 = s3_1, v7 = s3_2 -/
def S51_0 (a0 : (List (Int × Int × Int)) × List (Int × Int × Int)) : Int × Int × Int × Int × Int × Int × Int → (Int × Int × Int × Int × Int × Int × Int) ⊕ ((Int × Int × Int) × (Int × Int × Int) × Int)
  | (v1, v2, v3, v4, v5, v6, v7) =>
   (bif (decide ((v1 : Int) < ((a0.1.length : Nat) : Int))) then
    (.inl ((v1 + 1), (if ((a0.1.getD (Int.toNat v1) default).1 : Int) < v2 then (a0.1.getD (Int.toNat v1) default).1 else v2), (if ((a0.1.getD (Int.toNat v1) default).2.1 : Int) < v3 then (a0.1.getD (Int.toNat v1) default).2.1 else v3), (if ((a0.1.getD (Int.toNat v1) default).2.2 : Int) < v4 then (a0.1.getD (Int.toNat v1) default).2.2 else v4), (if (v5 : Int) < (a0.1.getD (Int.toNat v1) default).1 then (a0.1.getD (Int.toNat v1) default).1 else v5), (if (v6 : Int) < (a0.1.getD (Int.toNat v1) default).2.1 then (a0.1.getD (Int.toNat v1) default).2.1 else v6), (if (v7 : Int) < (a0.1.getD (Int.toNat v1) default).2.2 then (a0.1.getD (Int.toNat v1) default).2.2 else v7)))
   else
    (.inr ((v2, v3, v4), (v5, v6, v7), 0)))

set_option maxHeartbeats 4000000 in
theorem L51_0 (a0 : (List (Int × Int × Int)) × List (Int × Int × Int)) (l0_1 : a0.1.length ≤ 9223372036854775807) (l0_2 : a0.2.length ≤ 9223372036854775807) {cx : Cx} (hcx : cx.base = 2) : ∀ (n : Nat) (v1 : Int) (v2 : Int) (v3 : Int) (v4 : Int) (v5 : Int) (v6 : Int) (v7 : Int), 0 ≤ v1 → Int.toNat (((a0.1.length : Nat) : Int) - v1) < n → Aw.Good Try.prog none 9 (bodyPost Try.prog Try.f51 (RR cx (.t [(.a (k3 (loopF (S51_0 a0) n (v1, v2, v3, v4, v5, v6, v7)).1)), (.a (k3 (loopF (S51_0 a0) n (v1, v2, v3, v4, v5, v6, v7)).2.1)), (iv (loopF (S51_0 a0) n (v1, v2, v3, v4, v5, v6, v7)).2.2)]) [] [])) cx [] (.l B51_0 n :: K51_0) (st51_0 a0 v1 v2 v3 v4 v5 v6 v7) := by
  intro n
  induction n with
  | zero => intro v1 v2 v3 v4 v5 v6 v7 hi hn; exact absurd hn (Nat.not_lt_zero _)
  | succ n ih =>
    intro v1 v2 v3 v4 v5 v6 v7 hi hn
    refine good_round ?_
    cases h0 : (decide ((v1 : Int) < ((a0.1.length : Nat) : Int))) with
    | true =>
     have q0 := of_decide_eq_true h0
     have e := Eq.refl (S51_0 a0 (v1, v2, v3, v4, v5, v6, v7)); conv at e => rhs; simp only [S51_0, h0, cond_true, cond_false]
     rw [loopF_inl e]
     refine ba [.d h0, .i v1 (a0.1.length), .L c37_len a0.1 v1 0 3] [] [2, 3, 24, 25, 26] [2, 3] hcx (m := n) B51_0 (K51_0) (st51_0 a0 (W (v1 + 1)) (if ((a0.1.getD (Int.toNat v1) default).1 : Int) < v2 then (a0.1.getD (Int.toNat v1) default).1 else v2) (if ((a0.1.getD (Int.toNat v1) default).2.1 : Int) < v3 then (a0.1.getD (Int.toNat v1) default).2.1 else v3) (if ((a0.1.getD (Int.toNat v1) default).2.2 : Int) < v4 then (a0.1.getD (Int.toNat v1) default).2.2 else v4) (if (v5 : Int) < (a0.1.getD (Int.toNat v1) default).1 then (a0.1.getD (Int.toNat v1) default).1 else v5) (if (v6 : Int) < (a0.1.getD (Int.toNat v1) default).2.1 then (a0.1.getD (Int.toNat v1) default).2.1 else v6) (if (v7 : Int) < (a0.1.getD (Int.toNat v1) default).2.2 then (a0.1.getD (Int.toNat v1) default).2.2 else v7)) (by kernel_rfl) ?_
     have z0 : (W (v1 + 1)) = (v1 + 1) := W_eq (by omega) (by omega)
     rw [z0]
     exact ih (v1 + 1) (if ((a0.1.getD (Int.toNat v1) default).1 : Int) < v2 then (a0.1.getD (Int.toNat v1) default).1 else v2) (if ((a0.1.getD (Int.toNat v1) default).2.1 : Int) < v3 then (a0.1.getD (Int.toNat v1) default).2.1 else v3) (if ((a0.1.getD (Int.toNat v1) default).2.2 : Int) < v4 then (a0.1.getD (Int.toNat v1) default).2.2 else v4) (if (v5 : Int) < (a0.1.getD (Int.toNat v1) default).1 then (a0.1.getD (Int.toNat v1) default).1 else v5) (if (v6 : Int) < (a0.1.getD (Int.toNat v1) default).2.1 then (a0.1.getD (Int.toNat v1) default).2.1 else v6) (if (v7 : Int) < (a0.1.getD (Int.toNat v1) default).2.2 then (a0.1.getD (Int.toNat v1) default).2.2 else v7) (by (try simp only [List.length_append, List.length_cons, List.length_nil, Int.toNat_zero]); omega) (by (try simp only [List.length_append, List.length_cons, List.length_nil, Int.toNat_zero]); omega)
    | false =>
     have q0 := of_decide_eq_false h0
     have e := Eq.refl (S51_0 a0 (v1, v2, v3, v4, v5, v6, v7)); conv at e => rhs; simp only [S51_0, h0, cond_true, cond_false]
     rw [loopF_s, e]
     exact rt [.d h0] [] [] hcx (by kernel_rfl)

/-- facet/shape.Box -/
def F51 (a0 : (List (Int × Int × Int)) × List (Int × Int × Int)) : (Int × Int × Int) × (Int × Int × Int) × Int :=
  (bif (((F13 (a0.1, a0.2)) : Int) != 0) then
   ((0, 0, 0), (0, 0, 0), (F13 (a0.1, a0.2)))
  else
   (loopF (S51_0 a0) (Int.toNat (((a0.1.length : Nat) : Int) - 0) + 1) (0, (a0.1.getD (Int.toNat 0) default).1, (a0.1.getD (Int.toNat 0) default).2.1, (a0.1.getD (Int.toNat 0) default).2.2, (a0.1.getD (Int.toNat 0) default).1, (a0.1.getD (Int.toNat 0) default).2.1, (a0.1.getD (Int.toNat 0) default).2.2)))

theorem C51 (a0 : (List (Int × Int × Int)) × List (Int × Int × Int)) (l0_1 : a0.1.length ≤ 9223372036854775807) (l0_2 : a0.2.length ≤ 9223372036854775807) : Con Try.prog 51 [(.a [(.s 0 0 a0.1.length 3), (.s 1 0 a0.2.length 3)])] [(.live false true (flat c37 a0.1)), (.live false true (flat c46 a0.2))] (.t [(.a (k3 (F51 a0).1)), (.a (k3 (F51 a0).2.1)), (iv (F51 a0).2.2)]) [] := by
  refine con_s Try.func51 (by kernel_rfl) fun cx hcx => ?_
  try have hp1 : 1 ≤ a0.1.length := (pts_one h0).1
  let t0 : List (St Try.prog) := [.c [0, 1] (C13 (a0.1, a0.2) (by (try simp only [List.length_append, List.length_cons, List.length_nil, Int.toNat_zero]); omega) (by (try simp only [List.length_append, List.length_cons, List.length_nil, Int.toNat_zero]); omega))]
  cases h0 : (((F13 (a0.1, a0.2)) : Int) != 0) with
  | true =>
   have q0 := bne_iff_ne.1 h0
   try have hp1 : 1 ≤ a0.1.length := (pts_one h0).1
   have e := Eq.refl (F51 a0); conv at e => rhs; simp only [F51, h0, cond_true, cond_false]
   rw [e]
   exact rt (t0 ++ [.d h0]) [] [] hcx (by kernel_rfl)
  | false =>
   have q0 := bne_eq_false_iff_eq.1 h0
   try have hp1 : 1 ≤ a0.1.length := (pts_one h0).1
   have e := Eq.refl (F51 a0); conv at e => rhs; simp only [F51, h0, cond_true, cond_false]
   rw [e]
   refine en (t0 ++ [.d h0, .i 0 (a0.1.length), .L c37_len a0.1 0 0 3, .i 0 (a0.1.length), .L c37_len a0.1 0 0 3]) [] [2, 3, 24, 25, 26] [3, 4] hcx B51_0 (K51_0) (st51_0 a0 0 ((a0.1.getD (Int.toNat 0) default).1) ((a0.1.getD (Int.toNat 0) default).2.1) ((a0.1.getD (Int.toNat 0) default).2.2) ((a0.1.getD (Int.toNat 0) default).1) ((a0.1.getD (Int.toNat 0) default).2.1) ((a0.1.getD (Int.toNat 0) default).2.2)) (Int.toNat (((a0.1.length : Nat) : Int) - 0) + 1) (by kernel_rfl) ?_
   exact L51_0 a0 l0_1 l0_2 hcx (Int.toNat (((a0.1.length : Nat) : Int) - 0) + 1) 0 ((a0.1.getD (Int.toNat 0) default).1) ((a0.1.getD (Int.toNat 0) default).2.1) ((a0.1.getD (Int.toNat 0) default).2.2) ((a0.1.getD (Int.toNat 0) default).1) ((a0.1.getD (Int.toNat 0) default).2.1) ((a0.1.getD (Int.toNat 0) default).2.2) (by (try simp only [List.length_append, List.length_cons, List.length_nil, Int.toNat_zero]); omega) (by (try simp only [List.length_append, List.length_cons, List.length_nil, Int.toNat_zero]); omega)

noncomputable def B20_0 : Code := (loopAtD [1, 1, 0, 1] [] (bodyOf Try.f20) []).1
noncomputable def K20_0 : List K := (loopAtD [1, 1, 0, 1] [] (bodyOf Try.f20) []).2

def st20_0 (a0 : (List (Int × Int × Int)) × List (Int × Int × Int)) (v1c : List SV) (v1n : Nat) (v2 : Int) : LS := ⟨slN 19 [(3, (.s 2 0 v1n 1)), (10, (iv (((Int.toNat ((a0.2.length : Nat) : Int)) : Nat) : Int))), (11, (iv v2))], [(.live false true (flat c37 a0.1)), (.live false true (flat c46 a0.2)), (.live true true v1c)]⟩

/-- a round of loop 0 of facet/hold.ones; the variables: v1 = s3, v2 = s11 -/
def S20_0 (a0 : (List (Int × Int × Int)) × List (Int × Int × Int)) : List (Int) × Int → (List (Int) × Int) ⊕ (List (Int))
  | (v1, v2) =>
   (bif (decide ((v2 : Int) < (((Int.toNat ((a0.2.length : Nat) : Int)) : Nat) : Int))) then
    (.inl ((v1.set (Int.toNat v2) 1), (v2 + 1)))
   else
    (.inr v1))

set_option maxHeartbeats 4000000 in
theorem L20_0 (a0 : (List (Int × Int × Int)) × List (Int × Int × Int)) (l0_1 : a0.1.length ≤ 9223372036854775807) (l0_2 : a0.2.length ≤ 9223372036854775807) (hn : a0.2.length ≤ 96) {cx : Cx} (hcx : cx.base = 2) : ∀ (n : Nat) (v1 : List (Int)) (v2 : Int), (0 ≤ v2) ∧ (v1.length = a0.2.length) → Int.toNat ((((Int.toNat ((a0.2.length : Nat) : Int)) : Nat) : Int) - v2) < n → Aw.Good Try.prog none 9 (bodyPost Try.prog Try.f20 (RR cx (.s 2 0 (loopF (S20_0 a0) n (v1, v2)).length 1) [(.live true true (flat c3 (loopF (S20_0 a0) n (v1, v2))))] [])) cx [] (.l B20_0 n :: K20_0) (st20_0 a0 (flat c3 v1) v1.length v2) := by
  intro n
  induction n with
  | zero => intro v1 v2 hi hn; exact absurd hn (Nat.not_lt_zero _)
  | succ n ih =>
    intro v1 v2 hi hn
    refine good_round ?_
    cases h0 : (decide ((v2 : Int) < (((Int.toNat ((a0.2.length : Nat) : Int)) : Nat) : Int))) with
    | true =>
     have q0 := of_decide_eq_true h0
     have e := Eq.refl (S20_0 a0 (v1, v2)); conv at e => rhs; simp only [S20_0, h0, cond_true, cond_false]
     rw [loopF_inl e]
     refine ba [.d h0, .i v2 (v1.length), .p (show ((0 + Int.toNat v2 * 1) + 1 ≤ (flat c3 v1).length) from (flat_setl c3_len (by first | omega | (simp only [List.length_set]; omega)) (i := Int.toNat v2) (o := 0) (n := 1) (Nat.le_of_ble_eq_true rfl)))] [] [3, 10, 11] [2] hcx (m := n) B20_0 (K20_0) (st20_0 a0 (splice (flat c3 v1) (0 + Int.toNat v2 * 1) [(iv 1)]) (v1.length) (W (v2 + 1))) (by kernel_rfl) ?_
     have z0 : (W (v2 + 1)) = (v2 + 1) := W_eq (by omega) (by omega)
     have z1 : (splice (flat c3 v1) (0 + Int.toNat v2 * 1) [(iv 1)]) = flat c3 (v1.set (Int.toNat v2) 1) := (flat_set c3_len (by first | omega | (simp only [List.length_set]; omega)) (i := Int.toNat v2) (o := 0) (d := default) (y := 1) (Nat.le_of_ble_eq_true rfl) rfl)
     have z2 : v1.length = (v1.set (Int.toNat v2) 1).length := by simp
     rw [z0, z1, z2]
     exact ih (v1.set (Int.toNat v2) 1) (v2 + 1) (by refine ⟨?_, ?_⟩ <;> (try simp only [List.length_append, List.length_cons, List.length_nil, Int.toNat_zero]) <;> first | omega | assumption | simp) (by (try simp only [List.length_append, List.length_cons, List.length_nil, Int.toNat_zero]); omega)
    | false =>
     have q0 := of_decide_eq_false h0
     have e := Eq.refl (S20_0 a0 (v1, v2)); conv at e => rhs; simp only [S20_0, h0, cond_true, cond_false]
     rw [loopF_s, e]
     exact rt [.d h0] [] [2] hcx (by kernel_rfl)

/-- facet/hold.ones -/
def F20 (a0 : (List (Int × Int × Int)) × List (Int × Int × Int)) : List (Int) :=
  (loopF (S20_0 a0) (Int.toNat ((((Int.toNat ((a0.2.length : Nat) : Int)) : Nat) : Int) - 0) + 1) ((List.replicate (Int.toNat ((a0.2.length : Nat) : Int)) 0), 0))

theorem C20 (a0 : (List (Int × Int × Int)) × List (Int × Int × Int)) (l0_1 : a0.1.length ≤ 9223372036854775807) (l0_2 : a0.2.length ≤ 9223372036854775807) (hn : a0.2.length ≤ 96) : Con Try.prog 20 [(.a [(.s 0 0 a0.1.length 3), (.s 1 0 a0.2.length 3)])] [(.live false true (flat c37 a0.1)), (.live false true (flat c46 a0.2))] (.s 2 0 (F20 a0).length 1) [(.live true true (flat c3 (F20 a0)))] := by
  refine con_s Try.func20 (by kernel_rfl) fun cx hcx => ?_
  have e := Eq.refl (F20 a0); conv at e => rhs; simp only [F20]
  rw [e]
  refine en [.Z c3 0 [(iv 0)] ((a0.2.length : Nat) : Int) 8] [] [3, 10, 11] [3] hcx B20_0 (K20_0) (st20_0 a0 (flat c3 (List.replicate (Int.toNat ((a0.2.length : Nat) : Int)) 0)) (Int.toNat ((a0.2.length : Nat) : Int)) 0) (Int.toNat ((((Int.toNat ((a0.2.length : Nat) : Int)) : Nat) : Int) - 0) + 1) (by kernel_rfl) ?_
  have q := L20_0 a0 l0_1 l0_2 hn hcx (Int.toNat ((((Int.toNat ((a0.2.length : Nat) : Int)) : Nat) : Int) - 0) + 1) (List.replicate (Int.toNat ((a0.2.length : Nat) : Int)) 0) 0 (by refine ⟨?_, ?_⟩ <;> (try simp only [List.length_append, List.length_cons, List.length_nil, Int.toNat_zero]) <;> first | omega | assumption | simp) (by (try simp only [List.length_append, List.length_cons, List.length_nil, Int.toNat_zero]); omega)
  simp only [List.length_replicate] at q
  exact q

/-- facet/hold.Work -/
def F6 (a0 : (List (Int × Int × Int)) × List (Int × Int × Int)) (a1 : Int) : Int × Int :=
  (bif (((F13 (a0.1, a0.2)) : Int) != 0) then
   (0, (F13 (a0.1, a0.2)))
  else
   (bif (!(F14 a1 0 2)) then
    (0, 1)
   else
    ((W ((W (((a0.2.length : Nat) : Int) * ((a0.2.length : Nat) : Int))) * (W ((W (1 * 2 ^ (min (Int.toNat (W (2 * a1))) 64))) + (W ((W (1 * 2 ^ (min (Int.toNat (W (2 * a1))) 64))) * (W (1 * 2 ^ (min (Int.toNat (W (2 * a1))) 64))))))))), 0)))

theorem C6 (a0 : (List (Int × Int × Int)) × List (Int × Int × Int)) (a1 : Int) (l0_1 : a0.1.length ≤ 9223372036854775807) (l0_2 : a0.2.length ≤ 9223372036854775807) : Con Try.prog 6 [(.a [(.s 0 0 a0.1.length 3), (.s 1 0 a0.2.length 3)]), (iv a1)] [(.live false true (flat c37 a0.1)), (.live false true (flat c46 a0.2))] (.t (k2 (F6 a0 a1))) [] := by
  refine con_s Try.func6 (by kernel_rfl) fun cx hcx => ?_
  try have hw1 := hwin_f h1
  let t0 : List (St Try.prog) := [.c [0, 1] (C13 (a0.1, a0.2) (by (try simp only [List.length_append, List.length_cons, List.length_nil, Int.toNat_zero]); omega) (by (try simp only [List.length_append, List.length_cons, List.length_nil, Int.toNat_zero]); omega))]
  cases h0 : (((F13 (a0.1, a0.2)) : Int) != 0) with
  | true =>
   have q0 := bne_iff_ne.1 h0
   try have hw1 := hwin_f h1
   have e := Eq.refl (F6 a0 a1); conv at e => rhs; simp only [F6, h0, cond_true, cond_false]
   rw [e]
   exact rt (t0 ++ [.d h0]) [] [] hcx (by kernel_rfl)
  | false =>
   have q0 := bne_eq_false_iff_eq.1 h0
   try have hw1 := hwin_f h1
   let t1 : List (St Try.prog) := (t0 ++ [.d h0, .c [] (C14 a1 0 2)])
   cases h1 : (!(F14 a1 0 2)) with
   | true =>
    try have hw1 := hwin_f h1
    have e := Eq.refl (F6 a0 a1); conv at e => rhs; simp only [F6, h0, h1, cond_true, cond_false]
    rw [e]
    exact rt (t1 ++ [.d h1]) [] [] hcx (by kernel_rfl)
   | false =>
    try have hw1 := hwin_f h1
    have e := Eq.refl (F6 a0 a1); conv at e => rhs; simp only [F6, h0, h1, cond_true, cond_false]
    rw [e]
    exact rt (t1 ++ [.d h1, .p (show 0 ≤ ((W (2 * a1)) : Int) from by first | omega | (rw [W_eq] <;> omega) | exact u64_nn _)]) [] [] hcx (by kernel_rfl)

noncomputable def B17_L_0 : Code := (loopAtD [1, 1, 0, 1] [] (bodyOf Try.f17) []).1
noncomputable def K17_L_0 : List K := (loopAtD [1, 1, 0, 1] [] (bodyOf Try.f17) []).2

def st17_L_0 (a0 : List (Int)) (v1 : Int) (v2 : Int) : LS := ⟨slN 18 [(0, (.s 0 0 a0.length 1)), (3, (iv v1)), (4, (iv v2))], [(.live false true (flat c3 a0))]⟩

/-- a round of loop 0 of facet/facetref07.sum; the variables: v1 = s3, v2 = s4 -/
def S17_L_0 (a0 : List (Int)) : Int × Int → (Int × Int) ⊕ (Int)
  | (v1, v2) =>
   (bif (decide ((v2 : Int) < ((a0.length : Nat) : Int))) then
    (.inl ((W (v1 + (a0.getD (Int.toNat v2) default))), (v2 + 1)))
   else
    (.inr v1))

set_option maxHeartbeats 4000000 in
theorem L17_L_0 (a0 : List (Int)) (l0 : a0.length ≤ 9223372036854775807) {cx : Cx} (hcx : cx.base = 1) : ∀ (n : Nat) (v1 : Int) (v2 : Int), 0 ≤ v2 → Int.toNat (((a0.length : Nat) : Int) - v2) < n → Aw.Good Try.prog none 9 (bodyPost Try.prog Try.f17 (RR cx (iv (loopF (S17_L_0 a0) n (v1, v2))) [] [])) cx [] (.l B17_L_0 n :: K17_L_0) (st17_L_0 a0 v1 v2) := by
  intro n
  induction n with
  | zero => intro v1 v2 hi hn; exact absurd hn (Nat.not_lt_zero _)
  | succ n ih =>
    intro v1 v2 hi hn
    refine good_round ?_
    cases h0 : (decide ((v2 : Int) < ((a0.length : Nat) : Int))) with
    | true =>
     have q0 := of_decide_eq_true h0
     have e := Eq.refl (S17_L_0 a0 (v1, v2)); conv at e => rhs; simp only [S17_L_0, h0, cond_true, cond_false]
     rw [loopF_inl e]
     refine ba [.d h0, .i v2 (a0.length), .L c3_len a0 v2 0 1] [] [0, 3, 4] [] hcx (m := n) B17_L_0 (K17_L_0) (st17_L_0 a0 (W (v1 + (a0.getD (Int.toNat v2) default))) (W (v2 + 1))) (by kernel_rfl) ?_
     have z0 : (W (v2 + 1)) = (v2 + 1) := W_eq (by omega) (by omega)
     rw [z0]
     exact ih (W (v1 + (a0.getD (Int.toNat v2) default))) (v2 + 1) (by (try simp only [List.length_append, List.length_cons, List.length_nil, Int.toNat_zero]); omega) (by (try simp only [List.length_append, List.length_cons, List.length_nil, Int.toNat_zero]); omega)
    | false =>
     have q0 := of_decide_eq_false h0
     have e := Eq.refl (S17_L_0 a0 (v1, v2)); conv at e => rhs; simp only [S17_L_0, h0, cond_true, cond_false]
     rw [loopF_s, e]
     exact rt [.d h0] [] [] hcx (by kernel_rfl)

/-- facet/facetref07.sum at ('L',) -/
def F17_L (a0 : List (Int)) : Int :=
  (loopF (S17_L_0 a0) (Int.toNat (((a0.length : Nat) : Int) - 0) + 1) (0, 0))

theorem C17_L (a0 : List (Int)) (l0 : a0.length ≤ 9223372036854775807) : Con Try.prog 17 [(.s 0 0 a0.length 1)] [(.live false true (flat c3 a0))] (iv (F17_L a0)) [] := by
  refine con_s Try.func17 (by kernel_rfl) fun cx hcx => ?_
  have e := Eq.refl (F17_L a0); conv at e => rhs; simp only [F17_L]
  rw [e]
  refine en [] [] [0, 3, 4] [] hcx B17_L_0 (K17_L_0) (st17_L_0 a0 0 0) (Int.toNat (((a0.length : Nat) : Int) - 0) + 1) (by kernel_rfl) ?_
  exact L17_L_0 a0 l0 hcx (Int.toNat (((a0.length : Nat) : Int) - 0) + 1) 0 0 (by (try simp only [List.length_append, List.length_cons, List.length_nil, Int.toNat_zero]); omega) (by (try simp only [List.length_append, List.length_cons, List.length_nil, Int.toNat_zero]); omega)

noncomputable def B9_L_0 : Code := (loopAtD [1, 1, 1, 1, 0, 1] [] (bodyOf Try.f9) []).1
noncomputable def K9_L_0 : List K := (loopAtD [1, 1, 1, 1, 0, 1] [] (bodyOf Try.f9) []).2

def st9_L_0 (a0 : (List (Int × Int × Int)) × List (Int × Int × Int)) (a1 : List (Int)) (v1 : Int) : LS := ⟨slN 33 [(1, (.s 2 0 a1.length 1)), (6, (iv v1))], [(.live false true (flat c37 a0.1)), (.live false true (flat c46 a0.2)), (.live false true (flat c3 a1))]⟩

/-- a round of loop 0 of facet/facetref07.ValidateCharges; the variables: v1 = s6 -/
def S9_L_0 (a0 : (List (Int × Int × Int)) × List (Int × Int × Int)) (a1 : List (Int)) : Int → (Int) ⊕ (Int)
  | v1 =>
   (bif (decide ((v1 : Int) < ((a1.length : Nat) : Int))) then
    (bif (!(F16 (a1.getD (Int.toNat v1) default) 0 100)) then
     (.inr 1)
    else
     (.inl (v1 + 1)))
   else
    (bif (((F17_L a1) : Int) == 0) then
     (.inr 11)
    else
     (.inr 0)))

set_option maxHeartbeats 4000000 in
theorem L9_L_0 (a0 : (List (Int × Int × Int)) × List (Int × Int × Int)) (a1 : List (Int)) (l0_1 : a0.1.length ≤ 9223372036854775807) (l0_2 : a0.2.length ≤ 9223372036854775807) (l1 : a1.length ≤ 9223372036854775807) {cx : Cx} (hcx : cx.base = 3) : ∀ (n : Nat) (v1 : Int), 0 ≤ v1 → Int.toNat (((a1.length : Nat) : Int) - v1) < n → Aw.Good Try.prog none 9 (bodyPost Try.prog Try.f9 (RR cx (iv (loopF (S9_L_0 a0 a1) n v1)) [] [])) cx [] (.l B9_L_0 n :: K9_L_0) (st9_L_0 a0 a1 v1) := by
  intro n
  induction n with
  | zero => intro v1 hi hn; exact absurd hn (Nat.not_lt_zero _)
  | succ n ih =>
    intro v1 hi hn
    refine good_round ?_
    cases h0 : (decide ((v1 : Int) < ((a1.length : Nat) : Int))) with
    | true =>
     have q0 := of_decide_eq_true h0
     let t1 : List (St Try.prog) := [.d h0, .i v1 (a1.length), .L c3_len a1 v1 0 1, .c [] (C16 (a1.getD (Int.toNat v1) default) 0 100)]
     cases h1 : (!(F16 (a1.getD (Int.toNat v1) default) 0 100)) with
     | true =>
      have e := Eq.refl (S9_L_0 a0 a1 v1); conv at e => rhs; simp only [S9_L_0, h0, h1, cond_true, cond_false]
      rw [loopF_s, e]
      exact rt (t1 ++ [.d h1]) [] [] hcx (by kernel_rfl)
     | false =>
      have e := Eq.refl (S9_L_0 a0 a1 v1); conv at e => rhs; simp only [S9_L_0, h0, h1, cond_true, cond_false]
      rw [loopF_inl e]
      refine ba (t1 ++ [.d h1]) [] [1, 6] [] hcx (m := n) B9_L_0 (K9_L_0) (st9_L_0 a0 a1 (W (v1 + 1))) (by kernel_rfl) ?_
      have z0 : (W (v1 + 1)) = (v1 + 1) := W_eq (by omega) (by omega)
      rw [z0]
      exact ih (v1 + 1) (by (try simp only [List.length_append, List.length_cons, List.length_nil, Int.toNat_zero]); omega) (by (try simp only [List.length_append, List.length_cons, List.length_nil, Int.toNat_zero]); omega)
    | false =>
     have q0 := of_decide_eq_false h0
     let t1 : List (St Try.prog) := [.d h0, .c [2] (C17_L a1 (by (try simp only [List.length_append, List.length_cons, List.length_nil, Int.toNat_zero]); omega))]
     cases h1 : (((F17_L a1) : Int) == 0) with
     | true =>
      have q1 := eq_of_beq h1
      have e := Eq.refl (S9_L_0 a0 a1 v1); conv at e => rhs; simp only [S9_L_0, h0, h1, cond_true, cond_false]
      rw [loopF_s, e]
      exact rt (t1 ++ [.d h1]) [] [] hcx (by kernel_rfl)
     | false =>
      have q1 := ne_of_beq_false h1
      have e := Eq.refl (S9_L_0 a0 a1 v1); conv at e => rhs; simp only [S9_L_0, h0, h1, cond_true, cond_false]
      rw [loopF_s, e]
      exact rt (t1 ++ [.d h1]) [] [] hcx (by kernel_rfl)

/-- facet/facetref07.ValidateCharges at ('L',) -/
def F9_L (a0 : (List (Int × Int × Int)) × List (Int × Int × Int)) (a1 : List (Int)) : Int :=
  (bif (((F15 (a0.1, a0.2)) : Int) != 0) then
   (F15 (a0.1, a0.2))
  else
   (bif ((((a1.length : Nat) : Int) : Int) != ((a0.2.length : Nat) : Int)) then
    1
   else
    (loopF (S9_L_0 a0 a1) (Int.toNat (((a1.length : Nat) : Int) - 0) + 1) 0)))

theorem C9_L (a0 : (List (Int × Int × Int)) × List (Int × Int × Int)) (a1 : List (Int)) (l0_1 : a0.1.length ≤ 9223372036854775807) (l0_2 : a0.2.length ≤ 9223372036854775807) (l1 : a1.length ≤ 9223372036854775807) : Con Try.prog 9 [(.a [(.s 0 0 a0.1.length 3), (.s 1 0 a0.2.length 3)]), (.s 2 0 a1.length 1)] [(.live false true (flat c37 a0.1)), (.live false true (flat c46 a0.2)), (.live false true (flat c3 a1))] (iv (F9_L a0 a1)) [] := by
  refine con_s Try.func9 (by kernel_rfl) fun cx hcx => ?_
  let t0 : List (St Try.prog) := [.c [0, 1] (C15 (a0.1, a0.2) (by (try simp only [List.length_append, List.length_cons, List.length_nil, Int.toNat_zero]); omega) (by (try simp only [List.length_append, List.length_cons, List.length_nil, Int.toNat_zero]); omega))]
  cases h0 : (((F15 (a0.1, a0.2)) : Int) != 0) with
  | true =>
   have q0 := bne_iff_ne.1 h0
   have e := Eq.refl (F9_L a0 a1); conv at e => rhs; simp only [F9_L, h0, cond_true, cond_false]
   rw [e]
   exact rt (t0 ++ [.d h0]) [] [] hcx (by kernel_rfl)
  | false =>
   have q0 := bne_eq_false_iff_eq.1 h0
   let t1 : List (St Try.prog) := (t0 ++ [.d h0])
   cases h1 : ((((a1.length : Nat) : Int) : Int) != ((a0.2.length : Nat) : Int)) with
   | true =>
    have q1 := bne_iff_ne.1 h1
    have e := Eq.refl (F9_L a0 a1); conv at e => rhs; simp only [F9_L, h0, h1, cond_true, cond_false]
    rw [e]
    exact rt (t1 ++ [.d h1]) [] [] hcx (by kernel_rfl)
   | false =>
    have q1 := bne_eq_false_iff_eq.1 h1
    have e := Eq.refl (F9_L a0 a1); conv at e => rhs; simp only [F9_L, h0, h1, cond_true, cond_false]
    rw [e]
    refine en (t1 ++ [.d h1]) [] [1, 6] [] hcx B9_L_0 (K9_L_0) (st9_L_0 a0 a1 0) (Int.toNat (((a1.length : Nat) : Int) - 0) + 1) (by kernel_rfl) ?_
    exact L9_L_0 a0 a1 l0_1 l0_2 l1 hcx (Int.toNat (((a1.length : Nat) : Int) - 0) + 1) 0 (by (try simp only [List.length_append, List.length_cons, List.length_nil, Int.toNat_zero]); omega) (by (try simp only [List.length_append, List.length_cons, List.length_nil, Int.toNat_zero]); omega)

noncomputable def B7_0 : Code := (loopAtD [1, 1, 1, 1, 1, 0, 1] [] (bodyOf Try.f7) []).1
noncomputable def K7_0 : List K := (loopAtD [1, 1, 1, 1, 1, 0, 1] [] (bodyOf Try.f7) []).2

def st7_0 (a0 : (List (Int × Int × Int)) × List (Int × Int × Int)) (a1 : Int) (v1 : Int) (v2 : Int) (v3 : Int) : LS := ⟨slN 38 [(1, (iv a1)), (2, (.p 2 0)), (7, (iv v1)), (8, (iv v2)), (9, (iv v3))], [(.live false true (flat c37 a0.1)), (.live false true (flat c46 a0.2)), (.live true false [(.s 0 0 a0.1.length 3), (.s 1 0 a0.2.length 3)])]⟩

/-- a round of loop 0 of facet/facetref07.Work; the variables: v1 = s7, v2 = s8, v3 = s9 -/
def S7_0 (a0 : (List (Int × Int × Int)) × List (Int × Int × Int)) (a1 : Int) : Int × Int × Int → (Int × Int × Int) ⊕ (Int × Int)
  | (v1, v2, v3) =>
   (bif (decide ((v3 : Int) < a1)) then
    (.inl ((W (v1 * 4)), (W (v2 * 16)), (v3 + 1)))
   else
    (.inr ((W ((W (((a0.2.length : Nat) : Int) * ((a0.2.length : Nat) : Int))) * (W (v1 + v2)))), 0)))

set_option maxHeartbeats 4000000 in
theorem L7_0 (a0 : (List (Int × Int × Int)) × List (Int × Int × Int)) (a1 : Int) (l0_1 : a0.1.length ≤ 9223372036854775807) (l0_2 : a0.2.length ≤ 9223372036854775807) {cx : Cx} (hcx : cx.base = 2) : ∀ (n : Nat) (v1 : Int) (v2 : Int) (v3 : Int), (0 ≤ v3) ∧ (a1 ≤ 2) → Int.toNat (a1 - v3) < n → Aw.Good Try.prog none 9 (bodyPost Try.prog Try.f7 (RR cx (.t (k2 (loopF (S7_0 a0 a1) n (v1, v2, v3)))) [] [])) cx [] (.l B7_0 n :: K7_0) (st7_0 a0 a1 v1 v2 v3) := by
  intro n
  induction n with
  | zero => intro v1 v2 v3 hi hn; exact absurd hn (Nat.not_lt_zero _)
  | succ n ih =>
    intro v1 v2 v3 hi hn
    refine good_round ?_
    cases h0 : (decide ((v3 : Int) < a1)) with
    | true =>
     have q0 := of_decide_eq_true h0
     have e := Eq.refl (S7_0 a0 a1 (v1, v2, v3)); conv at e => rhs; simp only [S7_0, h0, cond_true, cond_false]
     rw [loopF_inl e]
     refine ba [.d h0] [] [1, 2, 7, 8, 9] [2] hcx (m := n) B7_0 (K7_0) (st7_0 a0 a1 (W (v1 * 4)) (W (v2 * 16)) (W (v3 + 1))) (by kernel_rfl) ?_
     have z0 : (W (v3 + 1)) = (v3 + 1) := W_eq (by omega) (by omega)
     rw [z0]
     exact ih (W (v1 * 4)) (W (v2 * 16)) (v3 + 1) (by refine ⟨?_, ?_⟩ <;> (try simp only [List.length_append, List.length_cons, List.length_nil, Int.toNat_zero]) <;> first | omega | assumption | simp) (by (try simp only [List.length_append, List.length_cons, List.length_nil, Int.toNat_zero]); omega)
    | false =>
     have q0 := of_decide_eq_false h0
     have e := Eq.refl (S7_0 a0 a1 (v1, v2, v3)); conv at e => rhs; simp only [S7_0, h0, cond_true, cond_false]
     rw [loopF_s, e]
     exact rt [.d h0] [] [] hcx (by kernel_rfl)

/-- facet/facetref07.Work -/
def F7 (a0 : (List (Int × Int × Int)) × List (Int × Int × Int)) (a1 : Int) : Int × Int :=
  (bif (((F15 (a0.1, a0.2)) : Int) != 0) then
   (0, (F15 (a0.1, a0.2)))
  else
   (bif (!(F16 a1 0 2)) then
    (0, 1)
   else
    (loopF (S7_0 a0 a1) (Int.toNat (a1 - 0) + 1) (1, 1, 0))))

theorem C7 (a0 : (List (Int × Int × Int)) × List (Int × Int × Int)) (a1 : Int) (l0_1 : a0.1.length ≤ 9223372036854775807) (l0_2 : a0.2.length ≤ 9223372036854775807) : Con Try.prog 7 [(.a [(.s 0 0 a0.1.length 3), (.s 1 0 a0.2.length 3)]), (iv a1)] [(.live false true (flat c37 a0.1)), (.live false true (flat c46 a0.2))] (.t (k2 (F7 a0 a1))) [] := by
  refine con_s Try.func7 (by kernel_rfl) fun cx hcx => ?_
  try have hw1 := hwin_r h1
  let t0 : List (St Try.prog) := [.c [0, 1] (C15 (a0.1, a0.2) (by (try simp only [List.length_append, List.length_cons, List.length_nil, Int.toNat_zero]); omega) (by (try simp only [List.length_append, List.length_cons, List.length_nil, Int.toNat_zero]); omega))]
  cases h0 : (((F15 (a0.1, a0.2)) : Int) != 0) with
  | true =>
   have q0 := bne_iff_ne.1 h0
   try have hw1 := hwin_r h1
   have e := Eq.refl (F7 a0 a1); conv at e => rhs; simp only [F7, h0, cond_true, cond_false]
   rw [e]
   exact rt (t0 ++ [.d h0]) [] [] hcx (by kernel_rfl)
  | false =>
   have q0 := bne_eq_false_iff_eq.1 h0
   try have hw1 := hwin_r h1
   let t1 : List (St Try.prog) := (t0 ++ [.d h0, .c [] (C16 a1 0 2)])
   cases h1 : (!(F16 a1 0 2)) with
   | true =>
    try have hw1 := hwin_r h1
    have e := Eq.refl (F7 a0 a1); conv at e => rhs; simp only [F7, h0, h1, cond_true, cond_false]
    rw [e]
    exact rt (t1 ++ [.d h1]) [] [] hcx (by kernel_rfl)
   | false =>
    try have hw1 := hwin_r h1
    have e := Eq.refl (F7 a0 a1); conv at e => rhs; simp only [F7, h0, h1, cond_true, cond_false]
    rw [e]
    refine en (t1 ++ [.d h1]) [] [1, 2, 7, 8, 9] [2] hcx B7_0 (K7_0) (st7_0 a0 a1 1 1 0) (Int.toNat (a1 - 0) + 1) (by kernel_rfl) ?_
    exact L7_0 a0 a1 l0_1 l0_2 hcx (Int.toNat (a1 - 0) + 1) 1 1 0 (by refine ⟨?_, ?_⟩ <;> (try simp only [List.length_append, List.length_cons, List.length_nil, Int.toNat_zero]) <;> first | omega | assumption | simp) (by (try simp only [List.length_append, List.length_cons, List.length_nil, Int.toNat_zero]); omega)

/-- facet/facetlaw07.octa -/
def F11 : (List (Int × Int × Int)) × List (Int × Int × Int) :=
  (([(1, 0, 0), ((-1), 0, 0), (0, 1, 0), (0, (-1), 0), (0, 0, 1), (0, 0, (-1))] : List (Int × Int × Int)), ([(0, 2, 4), (2, 1, 4), (1, 3, 4), (3, 0, 4), (2, 0, 5), (1, 2, 5), (3, 1, 5), (0, 3, 5)] : List (Int × Int × Int)))

theorem C11 : Con Try.prog 11 [] [] (.a [(.s 0 0 F11.1.length 3), (.s 1 0 F11.2.length 3)]) [(.live true true (flat c37 F11.1)), (.live true true (flat c46 F11.2))] := by
  refine con_s Try.func11 (by kernel_rfl) fun cx hcx => ?_
  have e := Eq.refl F11; conv at e => rhs; simp only [F11]
  rw [e]
  exact rt [] [.sym 1 true, .sym 2 true] [1, 2] hcx (by kernel_rfl)

/-- facet/facetlaw07.Heavy -/
def F4 (a0 : (List (Int × Int × Int)) × List (Int × Int × Int)) (a1 : Int) : Bool :=
  (bif (decide ((((a0.1.length : Nat) : Int) : Int) > 200)) then
   true
  else
   (bif (decide ((((a0.2.length : Nat) : Int) : Int) > 200)) then
    true
   else
    (bif (((F7 (a0.1, a0.2) a1).2 : Int) == 0) then
     (decide (((F7 (a0.1, a0.2) a1).1 : Int) > 20000))
    else
     false)))

theorem C4 (a0 : (List (Int × Int × Int)) × List (Int × Int × Int)) (a1 : Int) (l0_1 : a0.1.length ≤ 9223372036854775807) (l0_2 : a0.2.length ≤ 9223372036854775807) : Con Try.prog 4 [(.a [(.s 0 0 a0.1.length 3), (.s 1 0 a0.2.length 3)]), (iv a1)] [(.live false true (flat c37 a0.1)), (.live false true (flat c46 a0.2))] (.v (.bool (F4 a0 a1))) [] := by
  refine con_s Try.func4 (by kernel_rfl) fun cx hcx => ?_
  cases h0 : (decide ((((a0.1.length : Nat) : Int) : Int) > 200)) with
  | true =>
   have q0 := of_decide_eq_true h0
   have e := Eq.refl (F4 a0 a1); conv at e => rhs; simp only [F4, h0, cond_true, cond_false]
   rw [e]
   exact rt [.d h0] [] [] hcx (by kernel_rfl)
  | false =>
   have q0 := of_decide_eq_false h0
   let t1 : List (St Try.prog) := [.d h0]
   cases h1 : (decide ((((a0.2.length : Nat) : Int) : Int) > 200)) with
   | true =>
    have q1 := of_decide_eq_true h1
    have e := Eq.refl (F4 a0 a1); conv at e => rhs; simp only [F4, h0, h1, cond_true, cond_false]
    rw [e]
    exact rt (t1 ++ [.d h1]) [] [] hcx (by kernel_rfl)
   | false =>
    have q1 := of_decide_eq_false h1
    let t2 : List (St Try.prog) := (t1 ++ [.d h1, .c [0, 1] (C7 (a0.1, a0.2) a1 (by (try simp only [List.length_append, List.length_cons, List.length_nil, Int.toNat_zero]); omega) (by (try simp only [List.length_append, List.length_cons, List.length_nil, Int.toNat_zero]); omega))])
    cases h2 : (((F7 (a0.1, a0.2) a1).2 : Int) == 0) with
    | true =>
     have q2 := eq_of_beq h2
     have e := Eq.refl (F4 a0 a1); conv at e => rhs; simp only [F4, h0, h1, h2, cond_true, cond_false]
     rw [e]
     exact rt (t2 ++ [.d h2]) [] [] hcx (by kernel_rfl)
    | false =>
     have q2 := ne_of_beq_false h2
     have e := Eq.refl (F4 a0 a1); conv at e => rhs; simp only [F4, h0, h1, h2, cond_true, cond_false]
     rw [e]
     exact rt (t2 ++ [.d h2]) [] [] hcx (by kernel_rfl)

end Go.Proofs.Ythpgabaeefifbaa

namespace Go.Proofs.Ythpgabaeefifbaa
open Go.Proofs Go.Aw Go.RowKit
set_option maxRecDepth 100000
set_option linter.unusedVariables false
set_option linter.unusedSimpArgs false

/-! ### Panels see each other: the spans are above 0 -/
theorem of1_ge {s n : Int} (hs : s = 1 ∨ s = 2 ∨ s = 4 ∨ s = 8) (h1 : 1 ≤ n) (h2 : n ≤ 1099511627776) : 1 ≤ (of1 s n).1 := by
  unfold of1
  rw [if_neg (by omega)]
  unfold inv
  have hN : 1099511627776 ≤ NN s := by rcases hs with rfl | rfl | rfl | rfl <;> decide
  have hb := NN_bd hs
  obtain ⟨q1, q2, q3⟩ := quo_bd hb.1 h1
  have hq : 1 ≤ NN s / n := Int.le_ediv_of_mul_le (by omega) (by omega)
  have hr := rtSpan (n := NN s / n) q1 (by omega)
  exact hr.ge (by omega) (by omega)
theorem fa3_pos {p c q : PN} {d : Int} (hp : vp p = 0) (hd : 0 ≤ d ∧ d ≤ 3) (hc : c ∈ cutL d.toNat p) : 1 ≤ fa3 c q := by
  obtain ⟨g1, g2, g3⟩ := fa3_ge c q
  obtain ⟨hb, hn⟩ := vp_ok hp
  have h := nn_far c q.1 g1 g2 g3
  rw [nrm_in hb hd hc] at h
  rcases Int.lt_or_le (fa3 c q) 1 with h' | h'
  · have h0 : 0 ≤ fa3 c q := Int.le_trans (dt_self _) g1
    have : fa3 c q = 0 := by omega
    rw [this] at h; omega
  · exact h'
theorem sum_ge {α : Type} {g : α → Int} : ∀ (l : List α), (∀ c ∈ l, 1 ≤ g c) → ((l.length : Nat) : Int) ≤ (l.map g).sum
  | [], _ => by simp
  | c :: l, h => by
    have h1 := h c List.mem_cons_self
    have h2 := sum_ge l (fun c hc => h c (List.mem_cons_of_mem _ hc))
    simp only [List.map_cons, List.sum_cons, List.length_cons]; omega
theorem div_ge {v n : Int} (hn : 1 ≤ n) (h : n ≤ v) : 1 ≤ v / n := Int.le_ediv_of_mul_le (by omega) (by omega)
theorem bet_pos {p q : PN} {d : Int} (hp : vp p = 0) (hq : bdP 5000 q) (hd : 0 ≤ d ∧ d ≤ 3) : 1 ≤ (betS p q d).1 := by
  have hlen := cnt_len hd p
  have hc := cnt_in d
  unfold betS avg
  rw [accS_eq]
  simp only [Int.zero_add]
  refine div_ge (by omega) ?_
  rw [← hlen]
  refine sum_ge _ (fun c hcm => ?_)
  have hcb := (cutL_in (vp_ok hp).1 hd hcm).mono (show (512 : Int) ≤ 5000 by omega)
  have := fa3_bd hcb hq
  exact of1_ge (sc_in d) (fa3_pos hp hd hcm) (by omega)
/-- what is known of a span of 1/r -/
def okP (a : Int × Int) : Prop := 1 ≤ a.1 ∧ a.1 ≤ a.2 ∧ a.2 ≤ 536870913
theorem bet_okP {p q : PN} {d : Int} (hp : vp p = 0) (hq : bdP 5000 q) (hd : 0 ≤ d ∧ d ≤ 3) : okP (betS p q d) := by
  have h1 := bet_pos hp hq hd
  have h2 := bet_ok (q := q) hp hd
  unfold okE at h2
  exact ⟨h1, h2.2.1, h2.2.2⟩
theorem Between_f {p q : PN} {d : Int} (h : pk p q d = 0) : F49 p q d = (betS p (tmP (sc d) q) d, 0) := by
  unfold F49
  rw [pair_eq, h]
  obtain ⟨h1, h2, h3⟩ := pk_ok h
  have hs := sc_bd d
  have hq := (vp_ok h2).1
  have hq' := hq.mono (show (64 : Int) ≤ 4096 by omega)
  have hd : 0 ≤ d ∧ d ≤ 3 := by omega
  have e1 := bet_f h1 (tmP_bd hs hq) hd
  unfold tmP at e1 ⊢
  rw [sc_f hd, tm_f hs hq'.1, tm_f hs hq'.2.1, tm_f hs hq'.2.2, e1]; rfl
theorem Between_okP {p q : PN} {d : Int} (h : pk p q d = 0) : (F49 p q d).2 = 0 ∧ okP (F49 p q d).1 := by
  rw [Between_f h]
  obtain ⟨h1, h2, h3⟩ := pk_ok h
  exact ⟨rfl, bet_okP h1 (tmP_bd (sc_bd d) (vp_ok h2).1) (by omega)⟩
theorem Mutual_okP {p q : PN} {d : Int} (h : pk p q d = 0) : (F50 p q d).2 = 0 ∧ okP (F50 p q d).1 := by
  rw [Mutual_f]
  obtain ⟨h1, h2, h3⟩ := pk_ok h
  have hd : 0 ≤ d ∧ d ≤ 3 := by omega
  unfold mutV
  rw [if_pos h]
  refine ⟨rfl, ?_⟩
  have hl := mutL_len (p := p) (q := q) hd
  have hc := cnt_in d
  have hpos : ∀ a ∈ mutL p q d, okP a := by
    intro a ha
    obtain ⟨b, hb, rfl⟩ := List.mem_map.1 ha
    exact bet_okP h1 ((cutL_in (vp_ok h2).1 hd hb).mono (by omega)) hd
  have hs1 : sc d * sc d ≤ ((mutL p q d).map (·.1)).sum := by rw [← hl]; exact sum_ge _ (fun a ha => (hpos a ha).1)
  have key : ∀ l : List (Int × Int), (∀ a ∈ l, okP a) → (l.map (·.1)).sum ≤ (l.map (·.2)).sum ∧ (l.map (·.2)).sum ≤ 536870913 * (l.length : Nat) := by
    intro l
    induction l with
    | nil => intro _; simp
    | cons c l ih =>
      intro h
      obtain ⟨a1, a2, a3⟩ := h c List.mem_cons_self
      have h2 := ih (fun c hc => h c (List.mem_cons_of_mem _ hc))
      simp only [List.map_cons, List.sum_cons, List.length_cons]; omega
  have hk := key _ hpos
  rw [hl] at hk
  rw [sums_eq]
  unfold avg okP
  simp only [Int.zero_add]
  generalize ((mutL p q d).map (·.1)).sum = x at *
  generalize ((mutL p q d).map (·.2)).sum = y at *
  rcases hc with e | e | e | e <;> rw [e] at hs1 hk ⊢ <;> omega
/-! ### The panels of a valid mesh are valid -/
theorem pts_bd (m : ME) : ∀ (n i : Nat) (v : List (P3 × Bool)), m.1.length - i < n → loopF (S22_0 m) n (v, (i : Int)) = 0 → ∀ j, i ≤ j → j < m.1.length → bd 64 (m.1.getD j default) := by
  intro n
  induction n with
  | zero => intro i v h; omega
  | succ n ih =>
    intro i v hn h j h1 h2
    have hw : ((i : Nat) : Int) < ((m.1.length : Nat) : Int) := by omega
    cases hr : F39 (m.1.getD i default) 64 with
    | false =>
      have e1 : S22_0 m (v, (i : Int)) = .inr 1 := by
        simp only [S22_0]; rw [decide_eq_true hw, cond_true, Int.toNat_natCast, hr]; rfl
      rw [loopF_inr e1] at h; exact absurd h (by decide)
    | true =>
      cases hg : mget v (m.1.getD i default) false with
      | true =>
        have e1 : S22_0 m (v, (i : Int)) = .inr 1 := by
          simp only [S22_0]; rw [decide_eq_true hw, cond_true, Int.toNat_natCast, hr, hg]; rfl
        rw [loopF_inr e1] at h; exact absurd h (by decide)
      | false =>
        have e1 : S22_0 m (v, (i : Int)) = .inl (mput v (m.1.getD i default) true, ((i + 1 : Nat) : Int)) := by
          simp only [S22_0]; rw [decide_eq_true hw, cond_true, Int.toNat_natCast, hr, hg]; rfl
        rw [loopF_inl e1] at h
        by_cases hj : j = i
        · subst hj
          classical
          rw [inRange_eq] at hr
          exact of_decide_eq_true hr
        · exact ih (i + 1) _ (by omega) h j (by omega) h2
theorem vld_pts {m : ME} (h : F13 m = 0) : ∀ j, j < m.1.length → bd 64 (m.1.getD j default) := by
  obtain ⟨_, _, _, h4, _⟩ := val_parts h
  exact fun j hj => pts_bd m _ 0 [] (by omega) h4 j (Nat.zero_le _) hj
theorem vld_pan {m : ME} (h : F13 m = 0) : ∀ c ∈ m.2, vp (F41 m c) = 0 := by
  intro c hc
  obtain ⟨i, hi⟩ := List.getElem?_of_mem hc
  obtain ⟨hlt, _⟩ := List.getElem?_eq_some_iff.1 hi
  have hpt := vld_pts h
  obtain ⟨h64, _, _, _, hf⟩ := val_parts h
  have hfc := hf (i : Int) (by omega) (by omega)
  rw [getD_of hi] at hfc
  have hin : inF m.1.length c := face_in (m := m) (by rw [hfc]; rfl) h64
  have hb : bdP 64 (F41 m c) := ⟨hpt _ (by have := hin.1; omega), hpt _ (by have := hin.2.1; omega), hpt _ (by have := hin.2.2; omega)⟩
  unfold F23 at hfc
  have hw : W (((m.1.length : Nat) : Int) - 1) = (m.1.length : Int) - 1 := W_eq (by omega) (by omega)
  have fr : ∀ x : Int, 0 ≤ x ∧ x < (m.1.length : Int) → (!F21 x 0 (W (((m.1.length : Nat) : Int) - 1))) = false := by
    intro x hx
    unfold F21
    rw [hw, decide_eq_true hx.1, decide_eq_true (show x ≤ (m.1.length : Int) - 1 by omega)]; rfl
  rw [fr _ hin.1, fr _ hin.2.1, fr _ hin.2.2, cond_false, cond_false, cond_false, show F40 (F41 (m.1, m.2) c) = nrm (F41 m c) from nrm_s hb] at hfc
  unfold vp
  rw [if_pos hb]
  generalize nrm (F41 m c) = q at hfc ⊢
  by_cases hz : q.1 = 0 ∧ q.2.1 = 0 ∧ q.2.2 = 0
  · rw [hz.1, hz.2.1, hz.2.2] at hfc; exact absurd hfc (by decide)
  · rw [if_neg hz]
theorem vld_pk {m : ME} (h : F13 m = 0) {d : Int} (hd : 0 ≤ d ∧ d ≤ 2) {p q : PN} (hp : p ∈ m.2.map (F41 m)) (hq : q ∈ m.2.map (F41 m)) : pk p q d = 0 := by
  obtain ⟨a, ha, rfl⟩ := List.mem_map.1 hp
  obtain ⟨b, hb, rfl⟩ := List.mem_map.1 hq
  unfold pk
  rw [if_pos (vld_pan h a ha), if_pos (vld_pan h b hb), if_pos hd]

end Go.Proofs.Ythpgabaeefifbaa
