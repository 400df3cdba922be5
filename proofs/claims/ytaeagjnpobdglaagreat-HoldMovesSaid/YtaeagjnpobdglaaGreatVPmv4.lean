/-
  Parts of the proofs of the laws: the executor, what functions of the program compute, and that it is what the statements ask. No premise.
-/
import Derived.Test.YtaeagjnpobdglaaGreatVPmv3
set_option linter.unusedVariables false
set_option linter.unusedSimpArgs false
set_option maxHeartbeats 4000000
open Int (toNat)
namespace Go.Proofs.YtaeagjnpobdglaaGreat
open Go.Proofs Go.Aw Go.RowKit
set_option maxRecDepth 100000

theorem from_p {a b c : Int} (h : (!F43 a b c) = false) : b ≤ a ∧ a ≤ c := by
 unfold F43 at h
 by_cases h1 : b ≤ a
 · by_cases h2 : a ≤ c
   · exact ⟨h1, h2⟩
   · rw [dqt h1, dqf h2] at h; simp at h
 · rw [dqf h1] at h; simp at h
theorem win_p2 {a b c : Int} (h : (!F78 a b c) = false) : b ≤ a ∧ a ≤ c := by
 unfold F78 at h
 by_cases h1 : b ≤ a
 · by_cases h2 : a ≤ c
   · exact ⟨h1, h2⟩
   · rw [dqt (show a ≥ b from h1), dqf h2] at h; simp at h
 · rw [dqf (show ¬ a ≥ b from h1)] at h; simp at h
theorem face_pre {n : Nat} {f : Zt} (hn : n ≤ 64) (h0 : (!F43 f.1 0 (W ((n : Int) - 1))) = false) (h1 : (!F43 f.2.1 0 (W ((n : Int) - 1))) = false) (h2 : (!F43 f.2.2 0 (W ((n : Int) - 1))) = false) : inF n f := by
 have hw : W ((n : Int) - 1) = (n : Int) - 1 := W_eq (by omega) (by omega)
 have g0 := from_p h0; have g1 := from_p h1; have g2 := from_p h2
 rw [hw] at g0 g1 g2
 exact ⟨⟨g0.1, by omega⟩, ⟨g1.1, by omega⟩, g2.1, by omega⟩

def c94 (x : Zt) : List SV := [(iv x.1), (iv x.2.1), (iv x.2.2)]
theorem c94_len (x : Zt) : (c94 x).length = 3 := rfl

def F101 (a0 : Zm) (a1 : Zt) : Zt × Zt × Zt :=
 ((a0.1.getD (toNat a1.1) default), (a0.1.getD (toNat a1.2.1) default), (a0.1.getD (toNat a1.2.2) default))

theorem C101 (a0 : Zm) (a1 : Zt) (l0_1 : a0.1.length ≤ 9223372036854775807) (l0_2 : a0.2.length ≤ 9223372036854775807) (hf : inF a0.1.length a1) : Con Tryz.prog 101 [(.a [(.s 0 0 a0.1.length 3), (.s 1 0 a0.2.length 3)]), (.a (k3 a1))] [(.live false true (flat c30 a0.1)), (.live false true (flat c94 a0.2))] (.a (k9 (F101 a0 a1))) [] := by
 refine con_s Tryz.func101 (by kernel_rfl) fun cx hcx => ?_
 have e := Eq.refl (F101 a0 a1); conv at e => rhs; simp only [F101]
 rw [e]
 exact rt [.i 0 3 (by decide), .i (a1.1) (a0.1.length), .L c30_len a0.1 a1.1 0 3, .i 1 3 (by decide), .i (a1.2.1) (a0.1.length), .L c30_len a0.1 a1.2.1 0 3, .i 2 3 (by decide), .i (a1.2.2) (a0.1.length), .L c30_len a0.1 a1.2.2 0 3] [] [] hcx (by kernel_rfl)

def F69 (a0 : Zm) (a1 : Zt) : Int :=
 (bif (!(F43 a1.1 0 (W ((a0.1.length : Int) - 1)))) then
  5
 else
  (bif (!(F43 a1.2.1 0 (W ((a0.1.length : Int) - 1)))) then
   5
  else
   (bif (!(F43 a1.2.2 0 (W ((a0.1.length : Int) - 1)))) then
    5
   else
    (bif ((((F100 (F101 (a0.1, a0.2) a1)).1 : Int) == 0) && ((((F100 (F101 (a0.1, a0.2) a1)).2.1 : Int) == 0) && ((((F100 (F101 (a0.1, a0.2) a1)).2.2 : Int) == 0) && true))) then
     6
    else
     0))))

theorem C69 (a0 : Zm) (a1 : Zt) (l0_1 : a0.1.length ≤ 9223372036854775807) (l0_2 : a0.2.length ≤ 9223372036854775807) (hn : a0.1.length ≤ 64) : Con Tryz.prog 69 [(.a [(.s 0 0 a0.1.length 3), (.s 1 0 a0.2.length 3)]), (.a (k3 a1))] [(.live false true (flat c30 a0.1)), (.live false true (flat c94 a0.2))] (iv (F69 a0 a1)) [] := by
 refine con_s Tryz.func69 (by kernel_rfl) fun cx hcx => ?_
 try have hfi := face_pre hn h0 h1 h2
 let t0 : List (St Tryz.prog) := [.u 200, .T, .i 0 3 (by decide), .c [] (C43 a1.1 0 (W ((a0.1.length : Int) - 1)))]
 cases h0 : (!(F43 a1.1 0 (W ((a0.1.length : Int) - 1)))) with
 | true =>
  try have hfi := face_pre hn h0 h1 h2
  have e := Eq.refl (F69 a0 a1); conv at e => rhs; simp only [F69, h0, cdb]
  rw [e]
  exact rt (t0 ++ [.d h0]) [] [] hcx (by kernel_rfl)
 | false =>
  try have hfi := face_pre hn h0 h1 h2
  let t1 : List (St Tryz.prog) := (t0 ++ [.d h0, .u 0, .T, .i 1 3 (by decide), .c [] (C43 a1.2.1 0 (W ((a0.1.length : Int) - 1)))])
  cases h1 : (!(F43 a1.2.1 0 (W ((a0.1.length : Int) - 1)))) with
  | true =>
   try have hfi := face_pre hn h0 h1 h2
   have e := Eq.refl (F69 a0 a1); conv at e => rhs; simp only [F69, h0, h1, cdb]
   rw [e]
   exact rt (t1 ++ [.d h1]) [] [] hcx (by kernel_rfl)
  | false =>
   try have hfi := face_pre hn h0 h1 h2
   let t2 : List (St Tryz.prog) := (t1 ++ [.d h1, .u 0, .T, .i 2 3 (by decide), .c [] (C43 a1.2.2 0 (W ((a0.1.length : Int) - 1)))])
   cases h2 : (!(F43 a1.2.2 0 (W ((a0.1.length : Int) - 1)))) with
   | true =>
    try have hfi := face_pre hn h0 h1 h2
    have e := Eq.refl (F69 a0 a1); conv at e => rhs; simp only [F69, h0, h1, h2, cdb]
    rw [e]
    exact rt (t2 ++ [.d h2]) [] [] hcx (by kernel_rfl)
   | false =>
    try have hfi := face_pre hn h0 h1 h2
    let t3 : List (St Tryz.prog) := (t2 ++ [.d h2, .u 0, .F, .c [0, 1] (C101 (a0.1, a0.2) a1 (by (try simp only [Lt]); omega) (by (try simp only [Lt]); omega) hfi), .c [] (C100 (F101 (a0.1, a0.2) a1))])
    cases h3 : ((((F100 (F101 (a0.1, a0.2) a1)).1 : Int) == 0) && ((((F100 (F101 (a0.1, a0.2) a1)).2.1 : Int) == 0) && ((((F100 (F101 (a0.1, a0.2) a1)).2.2 : Int) == 0) && true))) with
    | true =>
     try have hfi := face_pre hn h0 h1 h2
     have e := Eq.refl (F69 a0 a1); conv at e => rhs; simp only [F69, h0, h1, h2, h3, cdb]
     rw [e]
     exact rt (t3 ++ [.d h3]) [] [] hcx (by kernel_rfl)
    | false =>
     try have hfi := face_pre hn h0 h1 h2
     have e := Eq.refl (F69 a0 a1); conv at e => rhs; simp only [F69, h0, h1, h2, h3, cdb]
     rw [e]
     exact rt (t3 ++ [.d h3]) [] [] hcx (by kernel_rfl)

theorem face_in {m : List Zt × List Zt} {f : Zt} (h : (F69 m f != 0) = false) (hl : m.1.length ≤ 64) : inF m.1.length f := by
 have hw : W ((m.1.length : Int) - 1) = (m.1.length : Int) - 1 := W_eq (by omega) (by omega)
 unfold F69 at h
 cases h0 : (!F43 f.1 0 (W ((m.1.length : Int) - 1))) with
 | true => rw [h0, cond_true] at h; exact absurd h (by decide)
 | false =>
   cases h1 : (!F43 f.2.1 0 (W ((m.1.length : Int) - 1))) with
   | true => rw [h0, h1, cond_false, cond_true] at h; exact absurd h (by decide)
   | false =>
     cases h2 : (!F43 f.2.2 0 (W ((m.1.length : Int) - 1))) with
     | true => rw [h0, h1, h2, cond_false, cond_false, cond_true] at h; exact absurd h (by decide)
     | false =>
       have g0 := from_p h0; have g1 := from_p h1; have g2 := from_p h2
       rw [hw] at g0 g1 g2
       exact ⟨⟨g0.1, by omega⟩, ⟨g1.1, by omega⟩, g2.1, by omega⟩

def kc30 (x : Zt) : SV := .a (c30 x)
theorem K30 : KeyOK T0 30 kc30 :=
 ⟨fun x => by kernel_rfl, fun x y => ⟨(((x.1 : Int) == y.1) && (((x.2.1 : Int) == y.2.1) && (((x.2.2 : Int) == y.2.2) && true))), by kernel_rfl, by
     simp only [kc30, c30, iv, SV.a.injEq, List.cons.injEq, SV.v.injEq, Value.int.injEq, Bool.and_eq_true, beq_iff_eq, true_and, and_true]
     constructor <;> intro h <;> omega⟩, fun x y h => by
     simp only [kc30, c30, iv, SV.a.injEq, List.cons.injEq, SV.v.injEq, Value.int.injEq, true_and, and_true] at h
     simp only [Prod.ext_iff]; omega, fun x => rfl⟩

noncomputable def B68_0 : Code := (loopAtD [1, 1, 0, 1] [] (bodyOf Tryz.f68) []).1
noncomputable def K68_0 : List K := (loopAtD [1, 1, 0, 1] [] (bodyOf Tryz.f68) []).2

def st68_0 (a0 : Zm) (v1 : List (Zt × Bool)) (v2 : Int) : LS := ⟨slN 25 [(3, (.m 2)), (8, (.s 0 0 a0.1.length 3)), (9, (iv (a0.1.length : Int))), (10, (iv v2))], [(.live false true (flat c30 a0.1)), (.live false true (flat c94 a0.2)), (.map (mapE kc30 vB v1))]⟩

def S68_0 (a0 : Zm) : (List (Zt × Bool)) × Int → ((List (Zt × Bool)) × Int) ⊕ (Int)
 | (v1, v2) =>
  (bif (decide ((v2 : Int) < (a0.1.length : Int))) then
   (bif (!(F36 (a0.1.getD (toNat v2) default) 64)) then
    (.inr 1)
   else
    (bif (mget v1 (a0.1.getD (toNat v2) default) false) then
     (.inr 1)
    else
     (.inl ((mput v1 (a0.1.getD (toNat v2) default) true), (v2 + 1)))))
  else
   (.inr 0))

theorem L68_0 (a0 : Zm) (l0_1 : a0.1.length ≤ 9223372036854775807) (l0_2 : a0.2.length ≤ 9223372036854775807) {cx : Cx} (hcx : cx.base = 2) : ∀ (n : Nat) (v1 : List (Zt × Bool)) (v2 : Int), 0 ≤ v2 → toNat ((a0.1.length : Int) - v2) < n → Aw.Good Tryz.prog none 9 (bodyPost Tryz.prog Tryz.f68 (RR cx (iv (loopF (S68_0 a0) n (v1, v2))) [] [])) cx [] (.l B68_0 n :: K68_0) (st68_0 a0 v1 v2) := by
 intro n
 induction n with
 | zero => intro v1 v2 hi hn; exact absurd hn (nlz _)
 | succ n ih =>
   intro v1 v2 hi hn
   refine good_round ?_
   cases h0 : (decide ((v2 : Int) < (a0.1.length : Int))) with
   | true =>
    have q0 := odt h0
    let t1 : List (St Tryz.prog) := [.d h0, .i v2 (a0.1.length), .L c30_len a0.1 v2 0 3, .c [] (C36 (a0.1.getD (toNat v2) default) 64)]
    cases h1 : (!(F36 (a0.1.getD (toNat v2) default) 64)) with
    | true =>
     have e := Eq.refl (S68_0 a0 (v1, v2)); conv at e => rhs; simp only [S68_0, h0, h1, cdb]
     rw [loopF_s, e]
     exact rt (t1 ++ [.d h1]) [] [] hcx (by kernel_rfl)
    | false =>
     let t2 : List (St Tryz.prog) := (t1 ++ [.d h1, .mG K30 vB v1 (a0.1.getD (toNat v2) default) false])
     cases h2 : (mget v1 (a0.1.getD (toNat v2) default) false) with
     | true =>
      have e := Eq.refl (S68_0 a0 (v1, v2)); conv at e => rhs; simp only [S68_0, h0, h1, h2, cdb]
      rw [loopF_s, e]
      exact rt (t2 ++ [.d h2]) [] [] hcx (by kernel_rfl)
     | false =>
      have e := Eq.refl (S68_0 a0 (v1, v2)); conv at e => rhs; simp only [S68_0, h0, h1, h2, cdb]
      rw [loopF_inl e]
      refine ba (t2 ++ [.d h2, .mP K30 vB v1 (a0.1.getD (toNat v2) default) true]) [] [3, 8, 9, 10] [2] hcx (m := n) B68_0 (K68_0) (st68_0 a0 (mput v1 (a0.1.getD (toNat v2) default) true) (W (v2 + 1))) (by kernel_rfl) ?_
      have z0 : (W (v2 + 1)) = (v2 + 1) := W_eq (by omega) (by omega)
      rw [z0]
      exact ih (mput v1 (a0.1.getD (toNat v2) default) true) (v2 + 1) (by (try simp only [Ls]); omega) (by (try simp only [Ls]); omega)
   | false =>
    have q0 := odf h0
    have e := Eq.refl (S68_0 a0 (v1, v2)); conv at e => rhs; simp only [S68_0, h0, cdb]
    rw [loopF_s, e]
    exact rt [.d h0] [] [] hcx (by kernel_rfl)

def F68 (a0 : Zm) : Int :=
 (loopF (S68_0 a0) (toNat ((a0.1.length : Int) - 0) + 1) (([] : List (Zt × Bool)), 0))

theorem C68 (a0 : Zm) (l0_1 : a0.1.length ≤ 9223372036854775807) (l0_2 : a0.2.length ≤ 9223372036854775807) : Con Tryz.prog 68 [(.a [(.s 0 0 a0.1.length 3), (.s 1 0 a0.2.length 3)])] [(.live false true (flat c30 a0.1)), (.live false true (flat c94 a0.2))] (iv (F68 a0)) [] := by
 refine con_s Tryz.func68 (by kernel_rfl) fun cx hcx => ?_
 have e := Eq.refl (F68 a0); conv at e => rhs; simp only [F68]
 rw [e]
 refine en [] [] [3, 8, 9, 10] [3] hcx B68_0 (K68_0) (st68_0 a0 ([] : List (Zt × Bool)) 0) (toNat ((a0.1.length : Int) - 0) + 1) (by kernel_rfl) ?_
 exact L68_0 a0 l0_1 l0_2 hcx (toNat ((a0.1.length : Int) - 0) + 1) ([] : List (Zt × Bool)) 0 (by (try simp only [Ls]); omega) (by (try simp only [Ls]); omega)

def F71 (a0 : Zt) : (Int × Int) × (Int × Int) × Int × Int :=
 ((a0.1, a0.2.1), a0.2, (a0.2.2, a0.1))

theorem C71 (a0 : Zt) : Con Tryz.prog 71 [(.a (k3 a0))] [] (.a [(iv (F71 a0).1.1), (iv (F71 a0).1.2), (iv (F71 a0).2.1.1), (iv (F71 a0).2.1.2), (iv (F71 a0).2.2.1), (iv (F71 a0).2.2.2)]) [] := by
 refine con_s Tryz.func71 (by kernel_rfl) fun cx hcx => ?_
 have e := Eq.refl (F71 a0); conv at e => rhs; simp only [F71]
 rw [e]
 exact rt [.i 0 3 (by decide), .i 1 3 (by decide), .i 1 3 (by decide), .i 2 3 (by decide), .i 2 3 (by decide), .i 0 3 (by decide)] [] [] hcx (by kernel_rfl)

def c114 (x : Int × Int) : List SV := [(iv x.1), (iv x.2)]
def kc114 (x : Int × Int) : SV := .a (c114 x)
theorem K114 : KeyOK T0 114 kc114 :=
 ⟨fun x => by kernel_rfl, fun x y => ⟨(((x.1 : Int) == y.1) && (((x.2 : Int) == y.2) && true)), by kernel_rfl, by
     simp only [kc114, c114, iv, SV.a.injEq, List.cons.injEq, SV.v.injEq, Value.int.injEq, Bool.and_eq_true, beq_iff_eq, true_and, and_true]
     constructor <;> intro h <;> omega⟩, fun x y h => by
     simp only [kc114, c114, iv, SV.a.injEq, List.cons.injEq, SV.v.injEq, Value.int.injEq, true_and, and_true] at h
     simp only [Prod.ext_iff]; omega, fun x => rfl⟩

noncomputable def B70_0 : Code := (loopAtD [1, 1, 0, 1] [] (bodyOf Tryz.f70) []).1
noncomputable def K70_0 : List K := (loopAtD [1, 1, 0, 1] [] (bodyOf Tryz.f70) []).2

def st70_0 (a0 : Zm) (v1 : List ((Int × Int) × Int)) (v2 : Int) : LS := ⟨slN 30 [(3, (.m 2)), (10, (.s 1 0 a0.2.length 3)), (11, (iv (a0.2.length : Int))), (12, (iv v2))], [(.live false true (flat c30 a0.1)), (.live false true (flat c94 a0.2)), (.map (mapE kc114 iv v1))]⟩

def S70_0 (a0 : Zm) : (List ((Int × Int) × Int)) × Int → ((List ((Int × Int) × Int)) × Int) ⊕ (List ((Int × Int) × Int))
 | (v1, v2) =>
  (bif (decide ((v2 : Int) < (a0.2.length : Int))) then
   (.inl ((mput (mput (mput v1 ((F71 (a0.2.getD (toNat v2) default)).1) (W ((mget v1 ((F71 (a0.2.getD (toNat v2) default)).1) 0) + 1))) ((F71 (a0.2.getD (toNat v2) default)).2.1) (W ((mget (mput v1 ((F71 (a0.2.getD (toNat v2) default)).1) (W ((mget v1 ((F71 (a0.2.getD (toNat v2) default)).1) 0) + 1))) ((F71 (a0.2.getD (toNat v2) default)).2.1) 0) + 1))) ((F71 (a0.2.getD (toNat v2) default)).2.2) (W ((mget (mput (mput v1 ((F71 (a0.2.getD (toNat v2) default)).1) (W ((mget v1 ((F71 (a0.2.getD (toNat v2) default)).1) 0) + 1))) ((F71 (a0.2.getD (toNat v2) default)).2.1) (W ((mget (mput v1 ((F71 (a0.2.getD (toNat v2) default)).1) (W ((mget v1 ((F71 (a0.2.getD (toNat v2) default)).1) 0) + 1))) ((F71 (a0.2.getD (toNat v2) default)).2.1) 0) + 1))) ((F71 (a0.2.getD (toNat v2) default)).2.2) 0) + 1))), (v2 + 1)))
  else
   (.inr v1))

theorem L70_0 (a0 : Zm) (l0_1 : a0.1.length ≤ 9223372036854775807) (l0_2 : a0.2.length ≤ 9223372036854775807) {cx : Cx} (hcx : cx.base = 2) : ∀ (n : Nat) (v1 : List ((Int × Int) × Int)) (v2 : Int), 0 ≤ v2 → toNat ((a0.2.length : Int) - v2) < n → Aw.Good Tryz.prog none 9 (bodyPost Tryz.prog Tryz.f70 (RR cx (.m 2) [(.map (mapE kc114 iv (loopF (S70_0 a0) n (v1, v2))))] [])) cx [] (.l B70_0 n :: K70_0) (st70_0 a0 v1 v2) := by
 intro n
 induction n with
 | zero => intro v1 v2 hi hn; exact absurd hn (nlz _)
 | succ n ih =>
   intro v1 v2 hi hn
   refine good_round ?_
   cases h0 : (decide ((v2 : Int) < (a0.2.length : Int))) with
   | true =>
    have q0 := odt h0
    have e := Eq.refl (S70_0 a0 (v1, v2)); conv at e => rhs; simp only [S70_0, h0, cdb]
    rw [loopF_inl e]
    refine ba [.d h0, .i v2 (a0.2.length), .L c94_len a0.2 v2 0 3, .c [] (C71 (a0.2.getD (toNat v2) default)), .u 200, .T, .i 0 3 (by decide), .mGa K114 iv v1 ((F71 (a0.2.getD (toNat v2) default)).1) 0 2, .mE K114 iv v1 ((F71 (a0.2.getD (toNat v2) default)).1) 0, .mS K114 iv v1 ((F71 (a0.2.getD (toNat v2) default)).1) 0 (W ((mget v1 ((F71 (a0.2.getD (toNat v2) default)).1) 0) + 1)), .mR kc114 iv v1 ((F71 (a0.2.getD (toNat v2) default)).1) 0, .u 0, .T, .i 1 3 (by decide), .mGa K114 iv (mput v1 ((F71 (a0.2.getD (toNat v2) default)).1) (W ((mget v1 ((F71 (a0.2.getD (toNat v2) default)).1) 0) + 1))) ((F71 (a0.2.getD (toNat v2) default)).2.1) 0 2, .mE K114 iv (mput v1 ((F71 (a0.2.getD (toNat v2) default)).1) (W ((mget v1 ((F71 (a0.2.getD (toNat v2) default)).1) 0) + 1))) ((F71 (a0.2.getD (toNat v2) default)).2.1) 0, .mS K114 iv (mput v1 ((F71 (a0.2.getD (toNat v2) default)).1) (W ((mget v1 ((F71 (a0.2.getD (toNat v2) default)).1) 0) + 1))) ((F71 (a0.2.getD (toNat v2) default)).2.1) 0 (W ((mget (mput v1 ((F71 (a0.2.getD (toNat v2) default)).1) (W ((mget v1 ((F71 (a0.2.getD (toNat v2) default)).1) 0) + 1))) ((F71 (a0.2.getD (toNat v2) default)).2.1) 0) + 1)), .mR kc114 iv (mput v1 ((F71 (a0.2.getD (toNat v2) default)).1) (W ((mget v1 ((F71 (a0.2.getD (toNat v2) default)).1) 0) + 1))) ((F71 (a0.2.getD (toNat v2) default)).2.1) 0, .u 0, .T, .i 2 3 (by decide), .mGa K114 iv (mput (mput v1 ((F71 (a0.2.getD (toNat v2) default)).1) (W ((mget v1 ((F71 (a0.2.getD (toNat v2) default)).1) 0) + 1))) ((F71 (a0.2.getD (toNat v2) default)).2.1) (W ((mget (mput v1 ((F71 (a0.2.getD (toNat v2) default)).1) (W ((mget v1 ((F71 (a0.2.getD (toNat v2) default)).1) 0) + 1))) ((F71 (a0.2.getD (toNat v2) default)).2.1) 0) + 1))) ((F71 (a0.2.getD (toNat v2) default)).2.2) 0 2, .mE K114 iv (mput (mput v1 ((F71 (a0.2.getD (toNat v2) default)).1) (W ((mget v1 ((F71 (a0.2.getD (toNat v2) default)).1) 0) + 1))) ((F71 (a0.2.getD (toNat v2) default)).2.1) (W ((mget (mput v1 ((F71 (a0.2.getD (toNat v2) default)).1) (W ((mget v1 ((F71 (a0.2.getD (toNat v2) default)).1) 0) + 1))) ((F71 (a0.2.getD (toNat v2) default)).2.1) 0) + 1))) ((F71 (a0.2.getD (toNat v2) default)).2.2) 0, .mS K114 iv (mput (mput v1 ((F71 (a0.2.getD (toNat v2) default)).1) (W ((mget v1 ((F71 (a0.2.getD (toNat v2) default)).1) 0) + 1))) ((F71 (a0.2.getD (toNat v2) default)).2.1) (W ((mget (mput v1 ((F71 (a0.2.getD (toNat v2) default)).1) (W ((mget v1 ((F71 (a0.2.getD (toNat v2) default)).1) 0) + 1))) ((F71 (a0.2.getD (toNat v2) default)).2.1) 0) + 1))) ((F71 (a0.2.getD (toNat v2) default)).2.2) 0 (W ((mget (mput (mput v1 ((F71 (a0.2.getD (toNat v2) default)).1) (W ((mget v1 ((F71 (a0.2.getD (toNat v2) default)).1) 0) + 1))) ((F71 (a0.2.getD (toNat v2) default)).2.1) (W ((mget (mput v1 ((F71 (a0.2.getD (toNat v2) default)).1) (W ((mget v1 ((F71 (a0.2.getD (toNat v2) default)).1) 0) + 1))) ((F71 (a0.2.getD (toNat v2) default)).2.1) 0) + 1))) ((F71 (a0.2.getD (toNat v2) default)).2.2) 0) + 1)), .mR kc114 iv (mput (mput v1 ((F71 (a0.2.getD (toNat v2) default)).1) (W ((mget v1 ((F71 (a0.2.getD (toNat v2) default)).1) 0) + 1))) ((F71 (a0.2.getD (toNat v2) default)).2.1) (W ((mget (mput v1 ((F71 (a0.2.getD (toNat v2) default)).1) (W ((mget v1 ((F71 (a0.2.getD (toNat v2) default)).1) 0) + 1))) ((F71 (a0.2.getD (toNat v2) default)).2.1) 0) + 1))) ((F71 (a0.2.getD (toNat v2) default)).2.2) 0, .u 0, .F] [] [3, 10, 11, 12] [2] hcx (m := n) B70_0 (K70_0) (st70_0 a0 (mput (mput (mput v1 ((F71 (a0.2.getD (toNat v2) default)).1) (W ((mget v1 ((F71 (a0.2.getD (toNat v2) default)).1) 0) + 1))) ((F71 (a0.2.getD (toNat v2) default)).2.1) (W ((mget (mput v1 ((F71 (a0.2.getD (toNat v2) default)).1) (W ((mget v1 ((F71 (a0.2.getD (toNat v2) default)).1) 0) + 1))) ((F71 (a0.2.getD (toNat v2) default)).2.1) 0) + 1))) ((F71 (a0.2.getD (toNat v2) default)).2.2) (W ((mget (mput (mput v1 ((F71 (a0.2.getD (toNat v2) default)).1) (W ((mget v1 ((F71 (a0.2.getD (toNat v2) default)).1) 0) + 1))) ((F71 (a0.2.getD (toNat v2) default)).2.1) (W ((mget (mput v1 ((F71 (a0.2.getD (toNat v2) default)).1) (W ((mget v1 ((F71 (a0.2.getD (toNat v2) default)).1) 0) + 1))) ((F71 (a0.2.getD (toNat v2) default)).2.1) 0) + 1))) ((F71 (a0.2.getD (toNat v2) default)).2.2) 0) + 1))) (W (v2 + 1))) (by kernel_rfl) ?_
    have z0 : (W (v2 + 1)) = (v2 + 1) := W_eq (by omega) (by omega)
    rw [z0]
    exact ih (mput (mput (mput v1 ((F71 (a0.2.getD (toNat v2) default)).1) (W ((mget v1 ((F71 (a0.2.getD (toNat v2) default)).1) 0) + 1))) ((F71 (a0.2.getD (toNat v2) default)).2.1) (W ((mget (mput v1 ((F71 (a0.2.getD (toNat v2) default)).1) (W ((mget v1 ((F71 (a0.2.getD (toNat v2) default)).1) 0) + 1))) ((F71 (a0.2.getD (toNat v2) default)).2.1) 0) + 1))) ((F71 (a0.2.getD (toNat v2) default)).2.2) (W ((mget (mput (mput v1 ((F71 (a0.2.getD (toNat v2) default)).1) (W ((mget v1 ((F71 (a0.2.getD (toNat v2) default)).1) 0) + 1))) ((F71 (a0.2.getD (toNat v2) default)).2.1) (W ((mget (mput v1 ((F71 (a0.2.getD (toNat v2) default)).1) (W ((mget v1 ((F71 (a0.2.getD (toNat v2) default)).1) 0) + 1))) ((F71 (a0.2.getD (toNat v2) default)).2.1) 0) + 1))) ((F71 (a0.2.getD (toNat v2) default)).2.2) 0) + 1))) (v2 + 1) (by (try simp only [Ls]); omega) (by (try simp only [Ls]); omega)
   | false =>
    have q0 := odf h0
    have e := Eq.refl (S70_0 a0 (v1, v2)); conv at e => rhs; simp only [S70_0, h0, cdb]
    rw [loopF_s, e]
    exact rt [.d h0] [] [2] hcx (by kernel_rfl)

def F70 (a0 : Zm) : List ((Int × Int) × Int) :=
 (loopF (S70_0 a0) (toNat ((a0.2.length : Int) - 0) + 1) (([] : List ((Int × Int) × Int)), 0))

theorem C70 (a0 : Zm) (l0_1 : a0.1.length ≤ 9223372036854775807) (l0_2 : a0.2.length ≤ 9223372036854775807) : Con Tryz.prog 70 [(.a [(.s 0 0 a0.1.length 3), (.s 1 0 a0.2.length 3)])] [(.live false true (flat c30 a0.1)), (.live false true (flat c94 a0.2))] (.m 2) [(.map (mapE kc114 iv (F70 a0)))] := by
 refine con_s Tryz.func70 (by kernel_rfl) fun cx hcx => ?_
 have e := Eq.refl (F70 a0); conv at e => rhs; simp only [F70]
 rw [e]
 refine en [] [] [3, 10, 11, 12] [3] hcx B70_0 (K70_0) (st70_0 a0 ([] : List ((Int × Int) × Int)) 0) (toNat ((a0.2.length : Int) - 0) + 1) (by kernel_rfl) ?_
 exact L70_0 a0 l0_1 l0_2 hcx (toNat ((a0.2.length : Int) - 0) + 1) ([] : List ((Int × Int) × Int)) 0 (by (try simp only [Ls]); omega) (by (try simp only [Ls]); omega)

noncomputable def B102_0 : Code := (loopAtD [1, 1, 0, 1] [] (bodyOf Tryz.f102) []).1
noncomputable def K102_0 : List K := (loopAtD [1, 1, 0, 1] [] (bodyOf Tryz.f102) []).2

def st102_0 (a0 : Zm) (v2c : List SV) (v2n : Nat) (v3 : Int) : LS := ⟨slN 21 [(1, (.p 2 0)), (3, (.s 3 0 v2n 9)), (7, (.s 1 0 a0.2.length 3)), (8, (iv (a0.2.length : Int))), (9, (iv v3))], [(.live false true (flat c30 a0.1)), (.live false true (flat c94 a0.2)), (.live true false [(.s 0 0 a0.1.length 3), (.s 1 0 a0.2.length 3)]), (.live true true v2c)]⟩

def S102_0 (a0 : Zm) : (List (Zt × Zt × Zt)) × Int → ((List (Zt × Zt × Zt)) × Int) ⊕ (List (Zt × Zt × Zt))
 | (v2, v3) =>
  (bif (decide ((v3 : Int) < (a0.2.length : Int))) then
   (.inl ((v2 ++ [(F101 (a0.1, a0.2) (a0.2.getD (toNat v3) default))]), (v3 + 1)))
  else
   (.inr v2))

theorem L102_0 (a0 : Zm) (l0_1 : a0.1.length ≤ 9223372036854775807) (l0_2 : a0.2.length ≤ 9223372036854775807) (hv : okTo a0 a0.2.length) (hn : a0.2.length ≤ 96) {cx : Cx} (hcx : cx.base = 2) : ∀ (n : Nat) (v2 : List (Zt × Zt × Zt)) (v3 : Int), (0 ≤ v3) ∧ (v2.length = toNat v3) ∧ (v3 ≤ a0.2.length) → toNat ((a0.2.length : Int) - v3) < n → Aw.Good Tryz.prog none 9 (bodyPost Tryz.prog Tryz.f102 (RR cx (.s 2 0 (loopF (S102_0 a0) n (v2, v3)).length 9) [(.live true true (flat c124 (loopF (S102_0 a0) n (v2, v3))))] [])) cx [] (.l B102_0 n :: K102_0) (st102_0 a0 (flat c124 v2) v2.length v3) := by
 intro n
 induction n with
 | zero => intro v2 v3 hi hn; exact absurd hn (nlz _)
 | succ n ih =>
   intro v2 v3 hi hn
   refine good_round ?_
   cases h0 : (decide ((v3 : Int) < (a0.2.length : Int))) with
   | true =>
    have q0 := odt h0
    have e := Eq.refl (S102_0 a0 (v2, v3)); conv at e => rhs; simp only [S102_0, h0, cdb]
    rw [loopF_inl e]
    refine ba [.d h0, .i v3 (a0.2.length), .L c94_len a0.2 v3 0 3, .c [0, 1] (C101 (a0.1, a0.2) (a0.2.getD (toNat v3) default) (by (try simp only [Lt]); omega) (by (try simp only [Lt]); omega) (okTo_get hv (by omega) (by omega))), .p (show ((flat c124 v2).length = v2.length * 9 ∧ v2.length + 1 ≤ 2 ^ 40 ∧ (v2.length + 1) * 72 ≤ 2 ^ 47) from app_ok c124_len (by omega) (by omega))] [] [1, 3, 7, 8, 9] [2, 6] hcx (m := n) B102_0 (K102_0) (st102_0 a0 (flat c124 v2 ++ (k9 (F101 (a0.1, a0.2) (a0.2.getD (toNat v3) default)))) (v2.length + 1) (W (v3 + 1))) (by kernel_rfl) ?_
    have z0 : (W (v3 + 1)) = (v3 + 1) := W_eq (by omega) (by omega)
    have z1 : (flat c124 v2 ++ (k9 (F101 (a0.1, a0.2) (a0.2.getD (toNat v3) default)))) = (flat c124 (v2 ++ [(F101 (a0.1, a0.2) (a0.2.getD (toNat v3) default))])) := (flat_append (c := c124) (l := v2) (m := [(F101 (a0.1, a0.2) (a0.2.getD (toNat v3) default))])).symm
    have z2 : (v2.length + 1) = (v2 ++ [(F101 (a0.1, a0.2) (a0.2.getD (toNat v3) default))]).length := len_app v2 [(F101 (a0.1, a0.2) (a0.2.getD (toNat v3) default))] rfl
    rw [z0, z1, z2]
    exact ih (v2 ++ [(F101 (a0.1, a0.2) (a0.2.getD (toNat v3) default))]) (v3 + 1) (by refine ⟨?_, ?_, ?_⟩ <;> (try simp only [Ls]) <;> first | omega | assumption | simp) (by (try simp only [Ls]); omega)
   | false =>
    have q0 := odf h0
    have e := Eq.refl (S102_0 a0 (v2, v3)); conv at e => rhs; simp only [S102_0, h0, cdb]
    rw [loopF_s, e]
    exact rt [.d h0] [] [3] hcx (by kernel_rfl)

def F102 (a0 : Zm) : List (Zt × Zt × Zt) :=
 (loopF (S102_0 a0) (toNat ((a0.2.length : Int) - 0) + 1) (([] : List (Zt × Zt × Zt)), 0))

theorem C102 (a0 : Zm) (l0_1 : a0.1.length ≤ 9223372036854775807) (l0_2 : a0.2.length ≤ 9223372036854775807) (hv : okTo a0 a0.2.length) (hn : a0.2.length ≤ 96) : Con Tryz.prog 102 [(.a [(.s 0 0 a0.1.length 3), (.s 1 0 a0.2.length 3)])] [(.live false true (flat c30 a0.1)), (.live false true (flat c94 a0.2))] (.s 2 0 (F102 a0).length 9) [(.live true true (flat c124 (F102 a0)))] := by
 refine con_s Tryz.func102 (by kernel_rfl) fun cx hcx => ?_
 have e := Eq.refl (F102 a0); conv at e => rhs; simp only [F102]
 rw [e]
 refine en [] [.slot 3 9] [1, 3, 7, 8, 9] [2, 3] hcx B102_0 (K102_0) (st102_0 a0 (flat c124 ([] : List (Zt × Zt × Zt))) 0 0) (toNat ((a0.2.length : Int) - 0) + 1) (by kernel_rfl) ?_
 exact L102_0 a0 l0_1 l0_2 hv hn hcx (toNat ((a0.2.length : Int) - 0) + 1) ([] : List (Zt × Zt × Zt)) 0 (by refine ⟨?_, ?_, ?_⟩ <;> (try simp only [Ls]) <;> first | omega | assumption | simp) (by (try simp only [Ls]); omega)

theorem pnl_map (m : List Zt × List Zt) : F102 m = m.2.map (F101 m) := by
 unfold F102
 rw [show (toNat ((m.2.length : Int) - 0) + 1) = m.2.length + 1 by omega]
 rw [each_loop (fun v i => (v, i)) (fun v c => .inl (v ++ [F101 m c])) (fun v => v) (L := m.2) (fun _ _ => True) ?_ (fun _ _ _ _ _ _ _ => trivial) ?_ (by omega) trivial]
 · have key : ∀ (l : List Zt) (v : List (Zt × Zt × Zt)), foldE (σ := List (Zt × Zt × Zt)) (R := List (Zt × Zt × Zt)) (fun v c => .inl (v ++ [F101 m c])) l v = .inl (v ++ l.map (F101 m)) := by
     intro l
     induction l with
     | nil => intro v; simp [foldE]
     | cons c l ih => intro v; simp only [foldE]; rw [ih]; simp
   rw [key]; simp [outE]
 · intro i c hc v _
   obtain ⟨hlt, hce⟩ := List.getElem?_eq_some_iff.1 hc
   simp only [S102_0]
   rw [dqt (by omega), cond_true, itn, gdq, hc]
   rfl
 · intro v _
   simp only [S102_0]
   rw [dqf (by omega), cond_false]
theorem pnl_len (m : List Zt × List Zt) : (F102 m).length = m.2.length := by rw [pnl_map, List.length_map]

def F132 (a0 : Zt) (a1 : Zt) : Int :=
 (W ((W ((W (a0.1 * a1.1)) + (W (a0.2.1 * a1.2.1)))) + (W (a0.2.2 * a1.2.2))))

theorem C132 (a0 : Zt) (a1 : Zt) : Con Tryz.prog 132 [(.a (k3 a0)), (.a (k3 a1))] [] (iv (F132 a0 a1)) [] := by
 refine con_s Tryz.func132 (by kernel_rfl) fun cx hcx => ?_
 have e := Eq.refl (F132 a0 a1); conv at e => rhs; simp only [F132]
 rw [e]
 exact rt [] [] [] hcx (by kernel_rfl)

def F103 (a0 : Zt × Zt × Zt) : Int :=
 (F132 a0.1 (F130 a0.2.1 a0.2.2))

theorem C103 (a0 : Zt × Zt × Zt) : Con Tryz.prog 103 [(.a (k9 a0))] [] (iv (F103 a0)) [] := by
 refine con_s Tryz.func103 (by kernel_rfl) fun cx hcx => ?_
 have e := Eq.refl (F103 a0); conv at e => rhs; simp only [F103]
 rw [e]
 exact rt [.c [] (C130 a0.2.1 a0.2.2), .c [] (C132 a0.1 (F130 a0.2.1 a0.2.2))] [] [] hcx (by kernel_rfl)

noncomputable def B73_0 : Code := (loopAtD [1, 1, 0, 1] [] (bodyOf Tryz.f73) []).1
noncomputable def K73_0 : List K := (loopAtD [1, 1, 0, 1] [] (bodyOf Tryz.f73) []).2

def st73_0 (a0 : Zm) (v1 v2 : Int) : LS := ⟨slN 19 [(3, (iv v1)), (7, (.s 2 0 (F102 (a0.1, a0.2)).length 9)), (8, (iv (((F102 (a0.1, a0.2)).length : Nat) : Int))), (9, (iv v2))], [(.live false true (flat c30 a0.1)), (.live false true (flat c94 a0.2)), (.live true true (flat c124 (F102 (a0.1, a0.2))))]⟩

def S73_0 (a0 : Zm) : Int × Int → (Int × Int) ⊕ (Int)
 | (v1, v2) =>
  (bif (decide ((v2 : Int) < (((F102 (a0.1, a0.2)).length : Nat) : Int))) then
   (.inl ((W (v1 + (F103 ((F102 (a0.1, a0.2)).getD (toNat v2) default)))), (v2 + 1)))
  else
   (.inr v1))

theorem L73_0 (a0 : Zm) (l0_1 : a0.1.length ≤ 9223372036854775807) (l0_2 : a0.2.length ≤ 9223372036854775807) (hv : okTo a0 a0.2.length) (hn : a0.2.length ≤ 96) {cx : Cx} (hcx : cx.base = 2) : ∀ (n : Nat) (v1 v2 : Int), 0 ≤ v2 → toNat ((((F102 (a0.1, a0.2)).length : Nat) : Int) - v2) < n → Aw.Good Tryz.prog none 9 (bodyPost Tryz.prog Tryz.f73 (RR cx (iv (loopF (S73_0 a0) n (v1, v2))) [] [])) cx [] (.l B73_0 n :: K73_0) (st73_0 a0 v1 v2) := by
 intro n
 induction n with
 | zero => intro v1 v2 hi hn; exact absurd hn (nlz _)
 | succ n ih =>
   intro v1 v2 hi hn
   refine good_round ?_
   have hpl : (F102 (a0.1, a0.2)).length = a0.2.length := pnl_len a0
   cases h0 : (decide ((v2 : Int) < (((F102 (a0.1, a0.2)).length : Nat) : Int))) with
   | true =>
    have q0 := odt h0
    have e := Eq.refl (S73_0 a0 (v1, v2)); conv at e => rhs; simp only [S73_0, h0, cdb]
    rw [loopF_inl e]
    refine ba [.d h0, .i v2 ((F102 (a0.1, a0.2)).length), .L c124_len (F102 (a0.1, a0.2)) v2 0 9, .c [] (C103 ((F102 (a0.1, a0.2)).getD (toNat v2) default))] [] [3, 7, 8, 9] [2] hcx (m := n) B73_0 (K73_0) (st73_0 a0 (W (v1 + (F103 ((F102 (a0.1, a0.2)).getD (toNat v2) default)))) (W (v2 + 1))) (by kernel_rfl) ?_
    have z0 : (W (v2 + 1)) = (v2 + 1) := W_eq (by omega) (by omega)
    rw [z0]
    exact ih (W (v1 + (F103 ((F102 (a0.1, a0.2)).getD (toNat v2) default)))) (v2 + 1) (by (try simp only [Ls]); omega) (by (try simp only [Ls]); omega)
   | false =>
    have q0 := odf h0
    have e := Eq.refl (S73_0 a0 (v1, v2)); conv at e => rhs; simp only [S73_0, h0, cdb]
    rw [loopF_s, e]
    exact rt [.d h0] [] [] hcx (by kernel_rfl)

def F73 (a0 : Zm) : Int :=
 (loopF (S73_0 a0) (toNat ((((F102 (a0.1, a0.2)).length : Nat) : Int) - 0) + 1) (0, 0))

theorem C73 (a0 : Zm) (l0_1 : a0.1.length ≤ 9223372036854775807) (l0_2 : a0.2.length ≤ 9223372036854775807) (hv : okTo a0 a0.2.length) (hn : a0.2.length ≤ 96) : Con Tryz.prog 73 [(.a [(.s 0 0 a0.1.length 3), (.s 1 0 a0.2.length 3)])] [(.live false true (flat c30 a0.1)), (.live false true (flat c94 a0.2))] (iv (F73 a0)) [] := by
 refine con_s Tryz.func73 (by kernel_rfl) fun cx hcx => ?_
 have e := Eq.refl (F73 a0); conv at e => rhs; simp only [F73]
 rw [e]
 refine en [.c [0, 1] (C102 (a0.1, a0.2) (by (try simp only [Lt]); omega) (by (try simp only [Lt]); omega) hv hn)] [] [3, 7, 8, 9] [3] hcx B73_0 (K73_0) (st73_0 a0 0 0) (toNat ((((F102 (a0.1, a0.2)).length : Nat) : Int) - 0) + 1) (by kernel_rfl) ?_
 exact L73_0 a0 l0_1 l0_2 hv hn hcx (toNat ((((F102 (a0.1, a0.2)).length : Nat) : Int) - 0) + 1) 0 0 (by (try simp only [Ls]); omega) (by (try simp only [Ls]); omega)

def c4 (x : Bool) : List SV := [(.v (.bool x))]
theorem c4_len (x : Bool) : (c4 x).length = 1 := rfl

def F72 (a0 : Int × Int) : Int × Int :=
 (a0.2, a0.1)

theorem C72 (a0 : Int × Int) : Con Tryz.prog 72 [(.a [(iv a0.1), (iv a0.2)])] [] (.a (k2 (F72 a0))) [] := by
 refine con_s Tryz.func72 (by kernel_rfl) fun cx hcx => ?_
 have e := Eq.refl (F72 a0); conv at e => rhs; simp only [F72]
 rw [e]
 exact rt [.i 1 2 (by decide), .i 0 2 (by decide)] [] [] hcx (by kernel_rfl)

noncomputable def B35_4 : Code := (loopAtD [1, 1, 1, 1, 1, 1, 1, 0, 1] [] (bodyOf Tryz.f35) []).1
noncomputable def K35_4 : List K := (loopAtD [1, 1, 1, 1, 1, 1, 1, 0, 1] [] (bodyOf Tryz.f35) []).2

def st35_4 (a0 : Zm) (v8c : List SV) (v8n : Nat) (v9 v10 : Int) : LS := ⟨slN 98 [(1, (.p 2 0)), (86, (.s 3 0 v8n 1)), (87, (iv v9)), (88, (iv v10))], [(.live false true (flat c30 a0.1)), (.live false true (flat c94 a0.2)), (.live true false [(.s 0 0 a0.1.length 3), (.s 1 0 a0.2.length 3)]), (.live true true v8c)]⟩

def S35_4 (a0 : Zm) : List (Bool) × Int × Int → (List (Bool) × Int × Int) ⊕ (Int)
 | (v8, v9, v10) =>
  (bif (decide ((v10 : Int) < v9)) then
   (bif (!(v8.getD (toNat v10) default)) then
    (.inr 5)
   else
    (.inl (v8, v9, (v10 + 1))))
  else
   (bif (decide (((F73 (a0.1, a0.2)) : Int) ≤ 0)) then
    (.inr 8)
   else
    (.inr 0)))

noncomputable def B35_2 : Code := (loopAtD [1, 1, 1, 1, 1, 1, 0, 1] [] (bodyOf Tryz.f35) []).1
noncomputable def K35_2 : List K := (loopAtD [1, 1, 1, 1, 1, 1, 0, 1] [] (bodyOf Tryz.f35) []).2

def st35_2 (a0 : Zm) (v4c : List SV) (v4n : Nat) (v5 : Int) : LS := ⟨slN 98 [(1, (.p 2 0)), (4, (.s 3 0 v4n 1)), (10, (.m 4)), (62, (.s 1 0 a0.2.length 3)), (63, (iv (a0.2.length : Int))), (64, (iv v5))], [(.live false true (flat c30 a0.1)), (.live false true (flat c94 a0.2)), (.live true false [(.s 0 0 a0.1.length 3), (.s 1 0 a0.2.length 3)]), (.live true true v4c), (.map (mapE kc114 iv (F70 (a0.1, a0.2))))]⟩

def S35_2 (a0 : Zm) : List (Bool) × Int → (List (Bool) × Int) ⊕ (Int)
 | (v4, v5) =>
  (bif (decide ((v5 : Int) < (a0.2.length : Int))) then
   (bif (((mget (F70 (a0.1, a0.2)) ((F71 (a0.2.getD (toNat v5) default)).1) 0) : Int) != 1) then
    (.inr 7)
   else
    (bif (((mget (F70 (a0.1, a0.2)) (F72 (F71 (a0.2.getD (toNat v5) default)).1) 0) : Int) != 1) then
     (.inr 7)
    else
     (bif (((mget (F70 (a0.1, a0.2)) ((F71 (a0.2.getD (toNat v5) default)).2.1) 0) : Int) != 1) then
      (.inr 7)
     else
      (bif (((mget (F70 (a0.1, a0.2)) (F72 (F71 (a0.2.getD (toNat v5) default)).2.1) 0) : Int) != 1) then
       (.inr 7)
      else
       (bif (((mget (F70 (a0.1, a0.2)) ((F71 (a0.2.getD (toNat v5) default)).2.2) 0) : Int) != 1) then
        (.inr 7)
       else
        (bif (((mget (F70 (a0.1, a0.2)) (F72 (F71 (a0.2.getD (toNat v5) default)).2.2) 0) : Int) != 1) then
         (.inr 7)
        else
         (.inl (v4, (v5 + 1)))))))))
  else
   (.inr (loopF (S35_4 a0) (toNat ((v4.length : Int) - 0) + 1) (v4, (v4.length : Int), 0))))

noncomputable def B35_0 : Code := (loopAtD [1, 1, 1, 1, 0, 1] [] (bodyOf Tryz.f35) []).1
noncomputable def K35_0 : List K := (loopAtD [1, 1, 1, 1, 0, 1] [] (bodyOf Tryz.f35) []).2

def st35_0 (a0 : Zm) (v1c : List SV) (v1n : Nat) (v2 : Int) : LS := ⟨slN 98 [(1, (.p 2 0)), (4, (.s 3 0 v1n 1)), (38, (.s 1 0 a0.2.length 3)), (39, (iv (a0.2.length : Int))), (40, (iv v2))], [(.live false true (flat c30 a0.1)), (.live false true (flat c94 a0.2)), (.live true false [(.s 0 0 a0.1.length 3), (.s 1 0 a0.2.length 3)]), (.live true true v1c)]⟩

def S35_0 (a0 : Zm) : List (Bool) × Int → (List (Bool) × Int) ⊕ (Int)
 | (v1, v2) =>
  (bif (decide ((v2 : Int) < (a0.2.length : Int))) then
   (bif (((F69 (a0.1, a0.2) (a0.2.getD (toNat v2) default)) : Int) != 0) then
    (.inr (F69 (a0.1, a0.2) (a0.2.getD (toNat v2) default)))
   else
    (.inl ((((v1.set (toNat (a0.2.getD (toNat v2) default).1) true).set (toNat (a0.2.getD (toNat v2) default).2.1) true).set (toNat (a0.2.getD (toNat v2) default).2.2) true), (v2 + 1))))
  else
   (.inr (loopF (S35_2 a0) (toNat ((a0.2.length : Int) - 0) + 1) (v1, 0))))

theorem L35_4 (a0 : Zm) (l0_1 : a0.1.length ≤ 9223372036854775807) (l0_2 : a0.2.length ≤ 9223372036854775807) {cx : Cx} (hcx : cx.base = 2) : ∀ (n : Nat) (v8 : List (Bool)) (v9 v10 : Int), (0 ≤ v10) ∧ (okTo a0 a0.2.length) ∧ (a0.1.length ≤ 64) ∧ (a0.2.length ≤ 96) ∧ (v9 = (v8.length : Int)) ∧ (v8.length = a0.1.length) → toNat (v9 - v10) < n → Aw.Good Tryz.prog none 9 (bodyPost Tryz.prog Tryz.f35 (RR cx (iv (loopF (S35_4 a0) n (v8, v9, v10))) [] [])) cx [] (.l B35_4 n :: K35_4) (st35_4 a0 (flat c4 v8) v8.length v9 v10) := by
 intro n
 induction n with
 | zero => intro v8 v9 v10 hi hn; exact absurd hn (nlz _)
 | succ n ih =>
   intro v8 v9 v10 hi hn
   refine good_round ?_
   cases h0 : (decide ((v10 : Int) < v9)) with
   | true =>
    have q0 := odt h0
    let t1 : List (St Tryz.prog) := [.d h0, .i v10 (v8.length), .L c4_len v8 v10 0 1]
    cases h1 : (!(v8.getD (toNat v10) default)) with
    | true =>
     have e := Eq.refl (S35_4 a0 (v8, v9, v10)); conv at e => rhs; simp only [S35_4, h0, h1, cdb]
     rw [loopF_s, e]
     exact rt (t1 ++ [.d h1]) [] [] hcx (by kernel_rfl)
    | false =>
     have e := Eq.refl (S35_4 a0 (v8, v9, v10)); conv at e => rhs; simp only [S35_4, h0, h1, cdb]
     rw [loopF_inl e]
     refine ba (t1 ++ [.d h1]) [] [1, 86, 87, 88] [2, 3] hcx (m := n) B35_4 (K35_4) (st35_4 a0 (flat c4 v8) (v8.length) v9 (W (v10 + 1))) (by kernel_rfl) ?_
     have z0 : (W (v10 + 1)) = (v10 + 1) := W_eq (by omega) (by omega)
     rw [z0]
     exact ih v8 v9 (v10 + 1) (by refine ⟨?_, ?_, ?_, ?_, ?_, ?_⟩ <;> first | omega | assumption | exact okTo_0 | exact hi.2.1 | exact hi.2.2.1 | exact okTo_le hi.2.2.1 (by omega) | exact okTo_s hi.2.2.1 hfo | exact okTo_s hi.2.2.1 (by refine ⟨⟨?_, ?_⟩, ⟨?_, ?_⟩, ?_, ?_⟩ <;> omega) | (simp only [List.length_replicate, List.length_set]; omega)) (by (try simp only [Ls]); omega)
   | false =>
    have q0 := odf h0
    let t1 : List (St Tryz.prog) := [.d h0, .c [0, 1] (C73 (a0.1, a0.2) (by (try simp only [Lt]); omega) (by (try simp only [Lt]); omega) hi.2.1 (by show a0.2.length ≤ 96; omega))]
    cases h1 : (decide (((F73 (a0.1, a0.2)) : Int) ≤ 0)) with
    | true =>
     have q1 := odt h1
     have e := Eq.refl (S35_4 a0 (v8, v9, v10)); conv at e => rhs; simp only [S35_4, h0, h1, cdb]
     rw [loopF_s, e]
     exact rt (t1 ++ [.d h1]) [] [] hcx (by kernel_rfl)
    | false =>
     have q1 := odf h1
     have e := Eq.refl (S35_4 a0 (v8, v9, v10)); conv at e => rhs; simp only [S35_4, h0, h1, cdb]
     rw [loopF_s, e]
     exact rt (t1 ++ [.d h1]) [] [] hcx (by kernel_rfl)

theorem L35_2 (a0 : Zm) (l0_1 : a0.1.length ≤ 9223372036854775807) (l0_2 : a0.2.length ≤ 9223372036854775807) {cx : Cx} (hcx : cx.base = 2) : ∀ (n : Nat) (v4 : List (Bool)) (v5 : Int), (0 ≤ v5) ∧ (okTo a0 a0.2.length) ∧ (a0.1.length ≤ 64) ∧ (a0.2.length ≤ 96) ∧ (v4.length = a0.1.length) → toNat ((a0.2.length : Int) - v5) < n → Aw.Good Tryz.prog none 9 (bodyPost Tryz.prog Tryz.f35 (RR cx (iv (loopF (S35_2 a0) n (v4, v5))) [] [])) cx [] (.l B35_2 n :: K35_2) (st35_2 a0 (flat c4 v4) v4.length v5) := by
 intro n
 induction n with
 | zero => intro v4 v5 hi hn; exact absurd hn (nlz _)
 | succ n ih =>
   intro v4 v5 hi hn
   refine good_round ?_
   cases h0 : (decide ((v5 : Int) < (a0.2.length : Int))) with
   | true =>
    have q0 := odt h0
    let t1 : List (St Tryz.prog) := [.d h0, .i v5 (a0.2.length), .L c94_len a0.2 v5 0 3, .c [] (C71 (a0.2.getD (toNat v5) default)), .u 200, .T, .i 0 3 (by decide), .mG K114 iv (F70 (a0.1, a0.2)) ((F71 (a0.2.getD (toNat v5) default)).1) 0]
    cases h1 : (((mget (F70 (a0.1, a0.2)) ((F71 (a0.2.getD (toNat v5) default)).1) 0) : Int) != 1) with
    | true =>
     have q1 := bne_iff_ne.1 h1
     have e := Eq.refl (S35_2 a0 (v4, v5)); conv at e => rhs; simp only [S35_2, h0, h1, cdb]
     rw [loopF_s, e]
     exact rt (t1 ++ [.d h1]) [] [] hcx (by kernel_rfl)
    | false =>
     have q1 := bne_eq_false_iff_eq.1 h1
     let t2 : List (St Tryz.prog) := (t1 ++ [.d h1, .c [] (C72 (F71 (a0.2.getD (toNat v5) default)).1), .mG K114 iv (F70 (a0.1, a0.2)) (F72 (F71 (a0.2.getD (toNat v5) default)).1) 0])
     cases h2 : (((mget (F70 (a0.1, a0.2)) (F72 (F71 (a0.2.getD (toNat v5) default)).1) 0) : Int) != 1) with
     | true =>
      have q2 := bne_iff_ne.1 h2
      have e := Eq.refl (S35_2 a0 (v4, v5)); conv at e => rhs; simp only [S35_2, h0, h1, h2, cdb]
      rw [loopF_s, e]
      exact rt (t2 ++ [.d h2]) [] [] hcx (by kernel_rfl)
     | false =>
      have q2 := bne_eq_false_iff_eq.1 h2
      let t3 : List (St Tryz.prog) := (t2 ++ [.d h2, .u 0, .T, .i 1 3 (by decide), .mG K114 iv (F70 (a0.1, a0.2)) ((F71 (a0.2.getD (toNat v5) default)).2.1) 0])
      cases h3 : (((mget (F70 (a0.1, a0.2)) ((F71 (a0.2.getD (toNat v5) default)).2.1) 0) : Int) != 1) with
      | true =>
       have q3 := bne_iff_ne.1 h3
       have e := Eq.refl (S35_2 a0 (v4, v5)); conv at e => rhs; simp only [S35_2, h0, h1, h2, h3, cdb]
       rw [loopF_s, e]
       exact rt (t3 ++ [.d h3]) [] [] hcx (by kernel_rfl)
      | false =>
       have q3 := bne_eq_false_iff_eq.1 h3
       let t4 : List (St Tryz.prog) := (t3 ++ [.d h3, .c [] (C72 (F71 (a0.2.getD (toNat v5) default)).2.1), .mG K114 iv (F70 (a0.1, a0.2)) (F72 (F71 (a0.2.getD (toNat v5) default)).2.1) 0])
       cases h4 : (((mget (F70 (a0.1, a0.2)) (F72 (F71 (a0.2.getD (toNat v5) default)).2.1) 0) : Int) != 1) with
       | true =>
        have q4 := bne_iff_ne.1 h4
        have e := Eq.refl (S35_2 a0 (v4, v5)); conv at e => rhs; simp only [S35_2, h0, h1, h2, h3, h4, cdb]
        rw [loopF_s, e]
        exact rt (t4 ++ [.d h4]) [] [] hcx (by kernel_rfl)
       | false =>
        have q4 := bne_eq_false_iff_eq.1 h4
        let t5 : List (St Tryz.prog) := (t4 ++ [.d h4, .u 0, .T, .i 2 3 (by decide), .mG K114 iv (F70 (a0.1, a0.2)) ((F71 (a0.2.getD (toNat v5) default)).2.2) 0])
        cases h5 : (((mget (F70 (a0.1, a0.2)) ((F71 (a0.2.getD (toNat v5) default)).2.2) 0) : Int) != 1) with
        | true =>
         have q5 := bne_iff_ne.1 h5
         have e := Eq.refl (S35_2 a0 (v4, v5)); conv at e => rhs; simp only [S35_2, h0, h1, h2, h3, h4, h5, cdb]
         rw [loopF_s, e]
         exact rt (t5 ++ [.d h5]) [] [] hcx (by kernel_rfl)
        | false =>
         have q5 := bne_eq_false_iff_eq.1 h5
         let t6 : List (St Tryz.prog) := (t5 ++ [.d h5, .c [] (C72 (F71 (a0.2.getD (toNat v5) default)).2.2), .mG K114 iv (F70 (a0.1, a0.2)) (F72 (F71 (a0.2.getD (toNat v5) default)).2.2) 0])
         cases h6 : (((mget (F70 (a0.1, a0.2)) (F72 (F71 (a0.2.getD (toNat v5) default)).2.2) 0) : Int) != 1) with
         | true =>
          have q6 := bne_iff_ne.1 h6
          have e := Eq.refl (S35_2 a0 (v4, v5)); conv at e => rhs; simp only [S35_2, h0, h1, h2, h3, h4, h5, h6, cdb]
          rw [loopF_s, e]
          exact rt (t6 ++ [.d h6]) [] [] hcx (by kernel_rfl)
         | false =>
          have q6 := bne_eq_false_iff_eq.1 h6
          have e := Eq.refl (S35_2 a0 (v4, v5)); conv at e => rhs; simp only [S35_2, h0, h1, h2, h3, h4, h5, h6, cdb]
          rw [loopF_inl e]
          refine ba (t6 ++ [.d h6, .u 0, .F]) [] [1, 4, 10, 62, 63, 64] [2, 3, 4] hcx (m := n) B35_2 (K35_2) (st35_2 a0 (flat c4 v4) (v4.length) (W (v5 + 1))) (by kernel_rfl) ?_
          have z0 : (W (v5 + 1)) = (v5 + 1) := W_eq (by omega) (by omega)
          rw [z0]
          exact ih v4 (v5 + 1) (by refine ⟨?_, ?_, ?_, ?_, ?_⟩ <;> first | omega | assumption | exact okTo_0 | exact hi.2.1 | exact hi.2.2.1 | exact okTo_le hi.2.2.1 (by omega) | exact okTo_s hi.2.2.1 hfo | exact okTo_s hi.2.2.1 (by refine ⟨⟨?_, ?_⟩, ⟨?_, ?_⟩, ?_, ?_⟩ <;> omega) | (simp only [List.length_replicate, List.length_set]; omega)) (by (try simp only [Ls]); omega)
   | false =>
    have q0 := odf h0
    have e := Eq.refl (S35_2 a0 (v4, v5)); conv at e => rhs; simp only [S35_2, h0, cdb]
    rw [loopF_s, e]
    refine en [.d h0] [] [1, 86, 87, 88] [2, 3] hcx B35_4 (K35_4) (st35_4 a0 (flat c4 v4) (v4.length) (v4.length : Int) 0) (toNat ((v4.length : Int) - 0) + 1) (by kernel_rfl) ?_
    exact L35_4 a0 l0_1 l0_2 hcx (toNat ((v4.length : Int) - 0) + 1) v4 (v4.length : Int) 0 (by refine ⟨?_, ?_, ?_, ?_, ?_, ?_⟩ <;> first | omega | assumption | exact okTo_0 | exact hi.2.1 | exact hi.2.2.1 | exact okTo_le hi.2.2.1 (by omega) | exact okTo_s hi.2.2.1 hfo | exact okTo_s hi.2.2.1 (by refine ⟨⟨?_, ?_⟩, ⟨?_, ?_⟩, ?_, ?_⟩ <;> omega) | (simp only [List.length_replicate, List.length_set]; omega)) (by (try simp only [Ls]); omega)

theorem L35_0 (a0 : Zm) (l0_1 : a0.1.length ≤ 9223372036854775807) (l0_2 : a0.2.length ≤ 9223372036854775807) {cx : Cx} (hcx : cx.base = 2) : ∀ (n : Nat) (v1 : List (Bool)) (v2 : Int), (0 ≤ v2) ∧ (v1.length = a0.1.length) ∧ (okTo a0 v2) ∧ (v2 ≤ a0.2.length) ∧ (a0.1.length ≤ 64) ∧ (a0.2.length ≤ 96) → toNat ((a0.2.length : Int) - v2) < n → Aw.Good Tryz.prog none 9 (bodyPost Tryz.prog Tryz.f35 (RR cx (iv (loopF (S35_0 a0) n (v1, v2))) [] [])) cx [] (.l B35_0 n :: K35_0) (st35_0 a0 (flat c4 v1) v1.length v2) := by
 intro n
 induction n with
 | zero => intro v1 v2 hi hn; exact absurd hn (nlz _)
 | succ n ih =>
   intro v1 v2 hi hn
   refine good_round ?_
   try have hfo : inF a0.1.length (a0.2.getD (toNat v2) default) := face_in (m := a0) h1 (by omega)
   try have hfo2 := hfo
   try obtain ⟨⟨hf1, hf2⟩, ⟨hf3, hf4⟩, hf5, hf6⟩ := hfo2
   cases h0 : (decide ((v2 : Int) < (a0.2.length : Int))) with
   | true =>
    have q0 := odt h0
    try have hfo : inF a0.1.length (a0.2.getD (toNat v2) default) := face_in (m := a0) h1 (by omega)
    let t1 : List (St Tryz.prog) := [.d h0, .i v2 (a0.2.length), .L c94_len a0.2 v2 0 3, .c [0, 1] (C69 (a0.1, a0.2) (a0.2.getD (toNat v2) default) (by (try simp only [Lt]); omega) (by (try simp only [Lt]); omega) (by (try simp only [Lt]); omega))]
    cases h1 : (((F69 (a0.1, a0.2) (a0.2.getD (toNat v2) default)) : Int) != 0) with
    | true =>
     have q1 := bne_iff_ne.1 h1
     try have hfo : inF a0.1.length (a0.2.getD (toNat v2) default) := face_in (m := a0) h1 (by omega)
     have e := Eq.refl (S35_0 a0 (v1, v2)); conv at e => rhs; simp only [S35_0, h0, h1, cdb]
     rw [loopF_s, e]
     exact rt (t1 ++ [.d h1]) [] [] hcx (by kernel_rfl)
    | false =>
     have q1 := bne_eq_false_iff_eq.1 h1
     try have hfo : inF a0.1.length (a0.2.getD (toNat v2) default) := face_in (m := a0) h1 (by omega)
     have e := Eq.refl (S35_0 a0 (v1, v2)); conv at e => rhs; simp only [S35_0, h0, h1, cdb]
     rw [loopF_inl e]
     refine ba (t1 ++ [.d h1, .u 200, .T, .i 0 3 (by decide), .i ((a0.2.getD (toNat v2) default).1) (v1.length), .p (show ((0 + toNat (a0.2.getD (toNat v2) default).1 * 1) + 1 ≤ (flat c4 v1).length) from (flat_setl c4_len (by first | omega | (simp only [Lt]; omega)) (o := 0) (Nb rfl))), .u 0, .T, .i 1 3 (by decide), .i ((a0.2.getD (toNat v2) default).2.1) (v1.length), .p (show ((0 + toNat (a0.2.getD (toNat v2) default).2.1 * 1) + 1 ≤ (splice (flat c4 v1) (0 + toNat (a0.2.getD (toNat v2) default).1 * 1) [(.v (.bool true))]).length) from (by rw [show (splice (flat c4 v1) (0 + toNat (a0.2.getD (toNat v2) default).1 * 1) [(.v (.bool true))]) = flat c4 (v1.set (toNat (a0.2.getD (toNat v2) default).1) true) from (flat_set c4_len (by first | omega | (simp only [Lt]; omega)) (o := 0) (d := default) (Nb rfl) rfl)]; exact flat_setl c4_len (by first | omega | (simp only [Lt]; omega)) (o := 0) (Nb rfl))), .u 0, .T, .i 2 3 (by decide), .i ((a0.2.getD (toNat v2) default).2.2) (v1.length), .p (show ((0 + toNat (a0.2.getD (toNat v2) default).2.2 * 1) + 1 ≤ (splice (splice (flat c4 v1) (0 + toNat (a0.2.getD (toNat v2) default).1 * 1) [(.v (.bool true))]) (0 + toNat (a0.2.getD (toNat v2) default).2.1 * 1) [(.v (.bool true))]).length) from (by rw [show (splice (splice (flat c4 v1) (0 + toNat (a0.2.getD (toNat v2) default).1 * 1) [(.v (.bool true))]) (0 + toNat (a0.2.getD (toNat v2) default).2.1 * 1) [(.v (.bool true))]) = flat c4 ((v1.set (toNat (a0.2.getD (toNat v2) default).1) true).set (toNat (a0.2.getD (toNat v2) default).2.1) true) from (by rw [show (splice (flat c4 v1) (0 + toNat (a0.2.getD (toNat v2) default).1 * 1) [(.v (.bool true))]) = flat c4 (v1.set (toNat (a0.2.getD (toNat v2) default).1) true) from (flat_set c4_len (by first | omega | (simp only [Lt]; omega)) (o := 0) (d := default) (Nb rfl) rfl)]; exact flat_set c4_len (by first | omega | (simp only [Lt]; omega)) (o := 0) (d := default) (Nb rfl) rfl)]; exact flat_setl c4_len (by first | omega | (simp only [Lt]; omega)) (o := 0) (Nb rfl))), .u 0, .F]) [] [1, 4, 38, 39, 40] [2, 3] hcx (m := n) B35_0 (K35_0) (st35_0 a0 (splice (splice (splice (flat c4 v1) (0 + toNat (a0.2.getD (toNat v2) default).1 * 1) [(.v (.bool true))]) (0 + toNat (a0.2.getD (toNat v2) default).2.1 * 1) [(.v (.bool true))]) (0 + toNat (a0.2.getD (toNat v2) default).2.2 * 1) [(.v (.bool true))]) (v1.length) (W (v2 + 1))) (by kernel_rfl) ?_
     have z0 : (W (v2 + 1)) = (v2 + 1) := W_eq (by omega) (by omega)
     have z1 : (splice (splice (splice (flat c4 v1) (0 + toNat (a0.2.getD (toNat v2) default).1 * 1) [(.v (.bool true))]) (0 + toNat (a0.2.getD (toNat v2) default).2.1 * 1) [(.v (.bool true))]) (0 + toNat (a0.2.getD (toNat v2) default).2.2 * 1) [(.v (.bool true))]) = flat c4 (((v1.set (toNat (a0.2.getD (toNat v2) default).1) true).set (toNat (a0.2.getD (toNat v2) default).2.1) true).set (toNat (a0.2.getD (toNat v2) default).2.2) true) := (by rw [show (splice (splice (flat c4 v1) (0 + toNat (a0.2.getD (toNat v2) default).1 * 1) [(.v (.bool true))]) (0 + toNat (a0.2.getD (toNat v2) default).2.1 * 1) [(.v (.bool true))]) = flat c4 ((v1.set (toNat (a0.2.getD (toNat v2) default).1) true).set (toNat (a0.2.getD (toNat v2) default).2.1) true) from (by rw [show (splice (flat c4 v1) (0 + toNat (a0.2.getD (toNat v2) default).1 * 1) [(.v (.bool true))]) = flat c4 (v1.set (toNat (a0.2.getD (toNat v2) default).1) true) from (flat_set c4_len (by first | omega | (simp only [Lt]; omega)) (o := 0) (d := default) (Nb rfl) rfl)]; exact flat_set c4_len (by first | omega | (simp only [Lt]; omega)) (o := 0) (d := default) (Nb rfl) rfl)]; exact flat_set c4_len (by first | omega | (simp only [Lt]; omega)) (o := 0) (d := default) (Nb rfl) rfl)
     have z2 : v1.length = (((v1.set (toNat (a0.2.getD (toNat v2) default).1) true).set (toNat (a0.2.getD (toNat v2) default).2.1) true).set (toNat (a0.2.getD (toNat v2) default).2.2) true).length := by simp
     rw [z0, z1, z2]
     exact ih (((v1.set (toNat (a0.2.getD (toNat v2) default).1) true).set (toNat (a0.2.getD (toNat v2) default).2.1) true).set (toNat (a0.2.getD (toNat v2) default).2.2) true) (v2 + 1) (by refine ⟨?_, ?_, ?_, ?_, ?_, ?_⟩ <;> first | omega | assumption | exact okTo_0 | exact hi.2.1 | exact hi.2.2.1 | exact okTo_le hi.2.2.1 (by omega) | exact okTo_s hi.2.2.1 hfo | exact okTo_s hi.2.2.1 (by refine ⟨⟨?_, ?_⟩, ⟨?_, ?_⟩, ?_, ?_⟩ <;> omega) | (simp only [List.length_replicate, List.length_set]; omega)) (by (try simp only [Ls]); omega)
   | false =>
    have q0 := odf h0
    try have hfo : inF a0.1.length (a0.2.getD (toNat v2) default) := face_in (m := a0) h1 (by omega)
    have e := Eq.refl (S35_0 a0 (v1, v2)); conv at e => rhs; simp only [S35_0, h0, cdb]
    rw [loopF_s, e]
    refine en [.d h0, .c [0, 1] (C70 (a0.1, a0.2) (by (try simp only [Lt]); omega) (by (try simp only [Lt]); omega))] [] [1, 4, 10, 62, 63, 64] [2, 3, 4] hcx B35_2 (K35_2) (st35_2 a0 (flat c4 v1) (v1.length) 0) (toNat ((a0.2.length : Int) - 0) + 1) (by kernel_rfl) ?_
    exact L35_2 a0 l0_1 l0_2 hcx (toNat ((a0.2.length : Int) - 0) + 1) v1 0 (by refine ⟨?_, ?_, ?_, ?_, ?_⟩ <;> first | omega | assumption | exact okTo_0 | exact hi.2.1 | exact hi.2.2.1 | exact okTo_le hi.2.2.1 (by omega) | exact okTo_s hi.2.2.1 hfo | exact okTo_s hi.2.2.1 (by refine ⟨⟨?_, ?_⟩, ⟨?_, ?_⟩, ?_, ?_⟩ <;> omega) | (simp only [List.length_replicate, List.length_set]; omega)) (by (try simp only [Ls]); omega)

def F35 (a0 : Zm) : Int :=
 (bif (decide (((a0.1.length : Int) : Int) > 64)) then
  4
 else
  (bif (!(F43 (a0.2.length : Int) 1 96)) then
   4
  else
   (bif (((F68 (a0.1, a0.2)) : Int) != 0) then
    (F68 (a0.1, a0.2))
   else
    (loopF (S35_0 a0) (toNat ((a0.2.length : Int) - 0) + 1) ((List.replicate (toNat (a0.1.length : Int)) false), 0)))))

theorem C35 (a0 : Zm) (l0_1 : a0.1.length ≤ 9223372036854775807) (l0_2 : a0.2.length ≤ 9223372036854775807) : Con Tryz.prog 35 [(.a [(.s 0 0 a0.1.length 3), (.s 1 0 a0.2.length 3)])] [(.live false true (flat c30 a0.1)), (.live false true (flat c94 a0.2))] (iv (F35 a0)) [] := by
 refine con_s Tryz.func35 (by kernel_rfl) fun cx hcx => ?_
 try have hl96 := from_p h1
 cases h0 : (decide (((a0.1.length : Int) : Int) > 64)) with
 | true =>
  have q0 := odt h0
  try have hl96 := from_p h1
  have e := Eq.refl (F35 a0); conv at e => rhs; simp only [F35, h0, cdb]
  rw [e]
  exact rt [.d h0] [] [] hcx (by kernel_rfl)
 | false =>
  have q0 := odf h0
  try have hl96 := from_p h1
  let t1 : List (St Tryz.prog) := [.d h0, .c [] (C43 (a0.2.length : Int) 1 96)]
  cases h1 : (!(F43 (a0.2.length : Int) 1 96)) with
  | true =>
   try have hl96 := from_p h1
   have e := Eq.refl (F35 a0); conv at e => rhs; simp only [F35, h0, h1, cdb]
   rw [e]
   exact rt (t1 ++ [.d h1]) [] [] hcx (by kernel_rfl)
  | false =>
   try have hl96 := from_p h1
   let t2 : List (St Tryz.prog) := (t1 ++ [.d h1, .c [0, 1] (C68 (a0.1, a0.2) (by (try simp only [Lt]); omega) (by (try simp only [Lt]); omega))])
   cases h2 : (((F68 (a0.1, a0.2)) : Int) != 0) with
   | true =>
    have q2 := bne_iff_ne.1 h2
    try have hl96 := from_p h1
    have e := Eq.refl (F35 a0); conv at e => rhs; simp only [F35, h0, h1, h2, cdb]
    rw [e]
    exact rt (t2 ++ [.d h2]) [] [] hcx (by kernel_rfl)
   | false =>
    have q2 := bne_eq_false_iff_eq.1 h2
    try have hl96 := from_p h1
    have e := Eq.refl (F35 a0); conv at e => rhs; simp only [F35, h0, h1, h2, cdb]
    rw [e]
    refine en (t2 ++ [.d h2, .Z c4 false [(.v (.bool false))] (a0.1.length : Int) 1]) [] [1, 4, 38, 39, 40] [2, 3] hcx B35_0 (K35_0) (st35_0 a0 (flat c4 (List.replicate (toNat (a0.1.length : Int)) false)) (toNat (a0.1.length : Int)) 0) (toNat ((a0.2.length : Int) - 0) + 1) (by kernel_rfl) ?_
    have q := L35_0 a0 l0_1 l0_2 hcx (toNat ((a0.2.length : Int) - 0) + 1) (List.replicate (toNat (a0.1.length : Int)) false) 0 (by refine ⟨?_, ?_, ?_, ?_, ?_, ?_⟩ <;> first | omega | assumption | exact okTo_0 | exact hi.2.1 | exact hi.2.2.1 | exact okTo_le hi.2.2.1 (by omega) | exact okTo_s hi.2.2.1 hfo | exact okTo_s hi.2.2.1 (by refine ⟨⟨?_, ?_⟩, ⟨?_, ?_⟩, ?_, ?_⟩ <;> omega) | (simp only [List.length_replicate, List.length_set]; omega)) (by (try simp only [Ls]); omega)
    simp only [List.length_replicate] at q
    exact q

def F81 (a0 : Zm) (a1 : Int) : Zt × Zt × Zt :=
 ((a0.1.getD (toNat (a0.2.getD (toNat a1) default).1) default), (a0.1.getD (toNat (a0.2.getD (toNat a1) default).2.1) default), (a0.1.getD (toNat (a0.2.getD (toNat a1) default).2.2) default))

theorem C81 (a0 : Zm) (a1 : Int) (l0_1 : a0.1.length ≤ 9223372036854775807) (l0_2 : a0.2.length ≤ 9223372036854775807) (hi : 0 ≤ a1 ∧ a1 < (a0.2.length : Int)) (hf : inF a0.1.length (a0.2.getD (toNat a1) default)) : Con Tryz.prog 81 [(.a [(.s 0 0 a0.1.length 3), (.s 1 0 a0.2.length 3)]), (iv a1)] [(.live false true (flat c30 a0.1)), (.live false true (flat c94 a0.2))] (.a (k9 (F81 a0 a1))) [] := by
 refine con_s Tryz.func81 (by kernel_rfl) fun cx hcx => ?_
 have e := Eq.refl (F81 a0 a1); conv at e => rhs; simp only [F81]
 rw [e]
 exact rt [.i a1 (a0.2.length), .L c94_len a0.2 a1 0 3, .i 0 3 (by decide), .i ((a0.2.getD (toNat a1) default).1) (a0.1.length), .L c30_len a0.1 (a0.2.getD (toNat a1) default).1 0 3, .i 1 3 (by decide), .i ((a0.2.getD (toNat a1) default).2.1) (a0.1.length), .L c30_len a0.1 (a0.2.getD (toNat a1) default).2.1 0 3, .i 2 3 (by decide), .i ((a0.2.getD (toNat a1) default).2.2) (a0.1.length), .L c30_len a0.1 (a0.2.getD (toNat a1) default).2.2 0 3] [] [] hcx (by kernel_rfl)

noncomputable def B82_0 : Code := (loopAtD [1, 1, 0, 1] [] (bodyOf Tryz.f82) []).1
noncomputable def K82_0 : List K := (loopAtD [1, 1, 0, 1] [] (bodyOf Tryz.f82) []).2

def st82_0 (a0 : Zm) (a1 : Int) (a2 : Int) (v1 v2 : Int) : LS := ⟨slN 46 [(1, (iv a1)), (2, (iv a2)), (3, (.p 2 0)), (7, (iv v1)), (8, (iv v2))], [(.live false true (flat c30 a0.1)), (.live false true (flat c94 a0.2)), (.live true false [(.s 0 0 a0.1.length 3), (.s 1 0 a0.2.length 3)])]⟩

def S82_0 (a0 : Zm) (a1 : Int) (a2 : Int) : Int × Int → (Int × Int) ⊕ (Int)
 | (v1, v2) =>
  (bif (decide ((v2 : Int) < (a0.2.length : Int))) then
   (bif (((a0.2.getD (toNat v2) default).1 : Int) == a1) then
    (bif (((a0.2.getD (toNat v2) default).2.1 : Int) == a2) then
     (bif (((a0.2.getD (toNat v2) default).2.1 : Int) == a1) then
      (bif (((a0.2.getD (toNat v2) default).2.2 : Int) == a2) then
       (bif (((a0.2.getD (toNat v2) default).2.2 : Int) == a1) then
        (bif (((a0.2.getD (toNat v2) default).1 : Int) == a2) then
         (.inl ((W ((W ((W (v1 + 1)) + 1)) + 1)), (v2 + 1)))
        else
         (.inl ((W ((W (v1 + 1)) + 1)), (v2 + 1))))
       else
        (.inl ((W ((W (v1 + 1)) + 1)), (v2 + 1))))
      else
       (bif (((a0.2.getD (toNat v2) default).2.2 : Int) == a1) then
        (bif (((a0.2.getD (toNat v2) default).1 : Int) == a2) then
         (.inl ((W ((W (v1 + 1)) + 1)), (v2 + 1)))
        else
         (.inl ((W (v1 + 1)), (v2 + 1))))
       else
        (.inl ((W (v1 + 1)), (v2 + 1)))))
     else
      (bif (((a0.2.getD (toNat v2) default).2.2 : Int) == a1) then
       (bif (((a0.2.getD (toNat v2) default).1 : Int) == a2) then
        (.inl ((W ((W (v1 + 1)) + 1)), (v2 + 1)))
       else
        (.inl ((W (v1 + 1)), (v2 + 1))))
      else
       (.inl ((W (v1 + 1)), (v2 + 1)))))
    else
     (bif (((a0.2.getD (toNat v2) default).2.1 : Int) == a1) then
      (bif (((a0.2.getD (toNat v2) default).2.2 : Int) == a2) then
       (bif (((a0.2.getD (toNat v2) default).2.2 : Int) == a1) then
        (bif (((a0.2.getD (toNat v2) default).1 : Int) == a2) then
         (.inl ((W ((W (v1 + 1)) + 1)), (v2 + 1)))
        else
         (.inl ((W (v1 + 1)), (v2 + 1))))
       else
        (.inl ((W (v1 + 1)), (v2 + 1))))
      else
       (bif (((a0.2.getD (toNat v2) default).2.2 : Int) == a1) then
        (bif (((a0.2.getD (toNat v2) default).1 : Int) == a2) then
         (.inl ((W (v1 + 1)), (v2 + 1)))
        else
         (.inl (v1, (v2 + 1))))
       else
        (.inl (v1, (v2 + 1)))))
     else
      (bif (((a0.2.getD (toNat v2) default).2.2 : Int) == a1) then
       (bif (((a0.2.getD (toNat v2) default).1 : Int) == a2) then
        (.inl ((W (v1 + 1)), (v2 + 1)))
       else
        (.inl (v1, (v2 + 1))))
      else
       (.inl (v1, (v2 + 1))))))
   else
    (bif (((a0.2.getD (toNat v2) default).2.1 : Int) == a1) then
     (bif (((a0.2.getD (toNat v2) default).2.2 : Int) == a2) then
      (bif (((a0.2.getD (toNat v2) default).2.2 : Int) == a1) then
       (bif (((a0.2.getD (toNat v2) default).1 : Int) == a2) then
        (.inl ((W ((W (v1 + 1)) + 1)), (v2 + 1)))
       else
        (.inl ((W (v1 + 1)), (v2 + 1))))
      else
       (.inl ((W (v1 + 1)), (v2 + 1))))
     else
      (bif (((a0.2.getD (toNat v2) default).2.2 : Int) == a1) then
       (bif (((a0.2.getD (toNat v2) default).1 : Int) == a2) then
        (.inl ((W (v1 + 1)), (v2 + 1)))
       else
        (.inl (v1, (v2 + 1))))
      else
       (.inl (v1, (v2 + 1)))))
    else
     (bif (((a0.2.getD (toNat v2) default).2.2 : Int) == a1) then
      (bif (((a0.2.getD (toNat v2) default).1 : Int) == a2) then
       (.inl ((W (v1 + 1)), (v2 + 1)))
      else
       (.inl (v1, (v2 + 1))))
     else
      (.inl (v1, (v2 + 1))))))
  else
   (.inr v1))

theorem L82_0 (a0 : Zm) (a1 : Int) (a2 : Int) (l0_1 : a0.1.length ≤ 9223372036854775807) (l0_2 : a0.2.length ≤ 9223372036854775807) {cx : Cx} (hcx : cx.base = 2) : ∀ (n : Nat) (v1 v2 : Int), 0 ≤ v2 → toNat ((a0.2.length : Int) - v2) < n → Aw.Good Tryz.prog none 9 (bodyPost Tryz.prog Tryz.f82 (RR cx (iv (loopF (S82_0 a0 a1 a2) n (v1, v2))) [] [])) cx [] (.l B82_0 n :: K82_0) (st82_0 a0 a1 a2 v1 v2) := by
 intro n
 induction n with
 | zero => intro v1 v2 hi hn; exact absurd hn (nlz _)
 | succ n ih =>
   intro v1 v2 hi hn
   refine good_round ?_
   cases h0 : (decide ((v2 : Int) < (a0.2.length : Int))) with
   | true =>
    have q0 := odt h0
    let t1 : List (St Tryz.prog) := [.d h0, .u 200, .T, .i v2 (a0.2.length), .i 0 3 (by decide), .L c94_len a0.2 v2 0 1]
    cases h1 : (((a0.2.getD (toNat v2) default).1 : Int) == a1) with
    | true =>
     have q1 := eq_of_beq h1
     let t2 : List (St Tryz.prog) := (t1 ++ [.d h1, .p (show (3 : Int) ≠ 0 from by decide), .i v2 (a0.2.length), .i 1 3 (by decide), .L c94_len a0.2 v2 1 1])
     cases h2 : (((a0.2.getD (toNat v2) default).2.1 : Int) == a2) with
     | true =>
      have q2 := eq_of_beq h2
      let t3 : List (St Tryz.prog) := (t2 ++ [.d h2, .u 0, .T, .i v2 (a0.2.length), .i 1 3 (by decide), .L c94_len a0.2 v2 1 1])
      cases h3 : (((a0.2.getD (toNat v2) default).2.1 : Int) == a1) with
      | true =>
       have q3 := eq_of_beq h3
       let t4 : List (St Tryz.prog) := (t3 ++ [.d h3, .p (show (3 : Int) ≠ 0 from by decide), .i v2 (a0.2.length), .i 2 3 (by decide), .L c94_len a0.2 v2 2 1])
       cases h4 : (((a0.2.getD (toNat v2) default).2.2 : Int) == a2) with
       | true =>
        have q4 := eq_of_beq h4
        let t5 : List (St Tryz.prog) := (t4 ++ [.d h4, .u 0, .T, .i v2 (a0.2.length), .i 2 3 (by decide), .L c94_len a0.2 v2 2 1])
        cases h5 : (((a0.2.getD (toNat v2) default).2.2 : Int) == a1) with
        | true =>
         have q5 := eq_of_beq h5
         let t6 : List (St Tryz.prog) := (t5 ++ [.d h5, .p (show (3 : Int) ≠ 0 from by decide), .i v2 (a0.2.length), .i 0 3 (by decide), .L c94_len a0.2 v2 0 1])
         cases h6 : (((a0.2.getD (toNat v2) default).1 : Int) == a2) with
         | true =>
          have q6 := eq_of_beq h6
          have e := Eq.refl (S82_0 a0 a1 a2 (v1, v2)); conv at e => rhs; simp only [S82_0, h0, h1, h2, h3, h4, h5, h6, cdb]
          rw [loopF_inl e]
          refine ba (t6 ++ [.d h6, .u 0, .F]) [] [1, 2, 3, 7, 8] [2] hcx (m := n) B82_0 (K82_0) (st82_0 a0 a1 a2 (W ((W ((W (v1 + 1)) + 1)) + 1)) (W (v2 + 1))) (by kernel_rfl) ?_
          have z0 : (W (v2 + 1)) = (v2 + 1) := W_eq (by omega) (by omega)
          rw [z0]
          exact ih (W ((W ((W (v1 + 1)) + 1)) + 1)) (v2 + 1) (by (try simp only [Ls]); omega) (by (try simp only [Ls]); omega)
         | false =>
          have q6 := ne_of_beq_false h6
          have e := Eq.refl (S82_0 a0 a1 a2 (v1, v2)); conv at e => rhs; simp only [S82_0, h0, h1, h2, h3, h4, h5, h6, cdb]
          rw [loopF_inl e]
          refine ba (t6 ++ [.d h6, .u 0, .F]) [] [1, 2, 3, 7, 8] [2] hcx (m := n) B82_0 (K82_0) (st82_0 a0 a1 a2 (W ((W (v1 + 1)) + 1)) (W (v2 + 1))) (by kernel_rfl) ?_
          have z0 : (W (v2 + 1)) = (v2 + 1) := W_eq (by omega) (by omega)
          rw [z0]
          exact ih (W ((W (v1 + 1)) + 1)) (v2 + 1) (by (try simp only [Ls]); omega) (by (try simp only [Ls]); omega)
        | false =>
         have q5 := ne_of_beq_false h5
         have e := Eq.refl (S82_0 a0 a1 a2 (v1, v2)); conv at e => rhs; simp only [S82_0, h0, h1, h2, h3, h4, h5, cdb]
         rw [loopF_inl e]
         refine ba (t5 ++ [.d h5, .u 0, .F]) [] [1, 2, 3, 7, 8] [2] hcx (m := n) B82_0 (K82_0) (st82_0 a0 a1 a2 (W ((W (v1 + 1)) + 1)) (W (v2 + 1))) (by kernel_rfl) ?_
         have z0 : (W (v2 + 1)) = (v2 + 1) := W_eq (by omega) (by omega)
         rw [z0]
         exact ih (W ((W (v1 + 1)) + 1)) (v2 + 1) (by (try simp only [Ls]); omega) (by (try simp only [Ls]); omega)
       | false =>
        have q4 := ne_of_beq_false h4
        let t5 : List (St Tryz.prog) := (t4 ++ [.d h4, .u 0, .T, .i v2 (a0.2.length), .i 2 3 (by decide), .L c94_len a0.2 v2 2 1])
        cases h5 : (((a0.2.getD (toNat v2) default).2.2 : Int) == a1) with
        | true =>
         have q5 := eq_of_beq h5
         let t6 : List (St Tryz.prog) := (t5 ++ [.d h5, .p (show (3 : Int) ≠ 0 from by decide), .i v2 (a0.2.length), .i 0 3 (by decide), .L c94_len a0.2 v2 0 1])
         cases h6 : (((a0.2.getD (toNat v2) default).1 : Int) == a2) with
         | true =>
          have q6 := eq_of_beq h6
          have e := Eq.refl (S82_0 a0 a1 a2 (v1, v2)); conv at e => rhs; simp only [S82_0, h0, h1, h2, h3, h4, h5, h6, cdb]
          rw [loopF_inl e]
          refine ba (t6 ++ [.d h6, .u 0, .F]) [] [1, 2, 3, 7, 8] [2] hcx (m := n) B82_0 (K82_0) (st82_0 a0 a1 a2 (W ((W (v1 + 1)) + 1)) (W (v2 + 1))) (by kernel_rfl) ?_
          have z0 : (W (v2 + 1)) = (v2 + 1) := W_eq (by omega) (by omega)
          rw [z0]
          exact ih (W ((W (v1 + 1)) + 1)) (v2 + 1) (by (try simp only [Ls]); omega) (by (try simp only [Ls]); omega)
         | false =>
          have q6 := ne_of_beq_false h6
          have e := Eq.refl (S82_0 a0 a1 a2 (v1, v2)); conv at e => rhs; simp only [S82_0, h0, h1, h2, h3, h4, h5, h6, cdb]
          rw [loopF_inl e]
          refine ba (t6 ++ [.d h6, .u 0, .F]) [] [1, 2, 3, 7, 8] [2] hcx (m := n) B82_0 (K82_0) (st82_0 a0 a1 a2 (W (v1 + 1)) (W (v2 + 1))) (by kernel_rfl) ?_
          have z0 : (W (v2 + 1)) = (v2 + 1) := W_eq (by omega) (by omega)
          rw [z0]
          exact ih (W (v1 + 1)) (v2 + 1) (by (try simp only [Ls]); omega) (by (try simp only [Ls]); omega)
        | false =>
         have q5 := ne_of_beq_false h5
         have e := Eq.refl (S82_0 a0 a1 a2 (v1, v2)); conv at e => rhs; simp only [S82_0, h0, h1, h2, h3, h4, h5, cdb]
         rw [loopF_inl e]
         refine ba (t5 ++ [.d h5, .u 0, .F]) [] [1, 2, 3, 7, 8] [2] hcx (m := n) B82_0 (K82_0) (st82_0 a0 a1 a2 (W (v1 + 1)) (W (v2 + 1))) (by kernel_rfl) ?_
         have z0 : (W (v2 + 1)) = (v2 + 1) := W_eq (by omega) (by omega)
         rw [z0]
         exact ih (W (v1 + 1)) (v2 + 1) (by (try simp only [Ls]); omega) (by (try simp only [Ls]); omega)
      | false =>
       have q3 := ne_of_beq_false h3
       let t4 : List (St Tryz.prog) := (t3 ++ [.d h3, .u 0, .T, .i v2 (a0.2.length), .i 2 3 (by decide), .L c94_len a0.2 v2 2 1])
       cases h4 : (((a0.2.getD (toNat v2) default).2.2 : Int) == a1) with
       | true =>
        have q4 := eq_of_beq h4
        let t5 : List (St Tryz.prog) := (t4 ++ [.d h4, .p (show (3 : Int) ≠ 0 from by decide), .i v2 (a0.2.length), .i 0 3 (by decide), .L c94_len a0.2 v2 0 1])
        cases h5 : (((a0.2.getD (toNat v2) default).1 : Int) == a2) with
        | true =>
         have q5 := eq_of_beq h5
         have e := Eq.refl (S82_0 a0 a1 a2 (v1, v2)); conv at e => rhs; simp only [S82_0, h0, h1, h2, h3, h4, h5, cdb]
         rw [loopF_inl e]
         refine ba (t5 ++ [.d h5, .u 0, .F]) [] [1, 2, 3, 7, 8] [2] hcx (m := n) B82_0 (K82_0) (st82_0 a0 a1 a2 (W ((W (v1 + 1)) + 1)) (W (v2 + 1))) (by kernel_rfl) ?_
         have z0 : (W (v2 + 1)) = (v2 + 1) := W_eq (by omega) (by omega)
         rw [z0]
         exact ih (W ((W (v1 + 1)) + 1)) (v2 + 1) (by (try simp only [Ls]); omega) (by (try simp only [Ls]); omega)
        | false =>
         have q5 := ne_of_beq_false h5
         have e := Eq.refl (S82_0 a0 a1 a2 (v1, v2)); conv at e => rhs; simp only [S82_0, h0, h1, h2, h3, h4, h5, cdb]
         rw [loopF_inl e]
         refine ba (t5 ++ [.d h5, .u 0, .F]) [] [1, 2, 3, 7, 8] [2] hcx (m := n) B82_0 (K82_0) (st82_0 a0 a1 a2 (W (v1 + 1)) (W (v2 + 1))) (by kernel_rfl) ?_
         have z0 : (W (v2 + 1)) = (v2 + 1) := W_eq (by omega) (by omega)
         rw [z0]
         exact ih (W (v1 + 1)) (v2 + 1) (by (try simp only [Ls]); omega) (by (try simp only [Ls]); omega)
       | false =>
        have q4 := ne_of_beq_false h4
        have e := Eq.refl (S82_0 a0 a1 a2 (v1, v2)); conv at e => rhs; simp only [S82_0, h0, h1, h2, h3, h4, cdb]
        rw [loopF_inl e]
        refine ba (t4 ++ [.d h4, .u 0, .F]) [] [1, 2, 3, 7, 8] [2] hcx (m := n) B82_0 (K82_0) (st82_0 a0 a1 a2 (W (v1 + 1)) (W (v2 + 1))) (by kernel_rfl) ?_
        have z0 : (W (v2 + 1)) = (v2 + 1) := W_eq (by omega) (by omega)
        rw [z0]
        exact ih (W (v1 + 1)) (v2 + 1) (by (try simp only [Ls]); omega) (by (try simp only [Ls]); omega)
     | false =>
      have q2 := ne_of_beq_false h2
      let t3 : List (St Tryz.prog) := (t2 ++ [.d h2, .u 0, .T, .i v2 (a0.2.length), .i 1 3 (by decide), .L c94_len a0.2 v2 1 1])
      cases h3 : (((a0.2.getD (toNat v2) default).2.1 : Int) == a1) with
      | true =>
       have q3 := eq_of_beq h3
       let t4 : List (St Tryz.prog) := (t3 ++ [.d h3, .p (show (3 : Int) ≠ 0 from by decide), .i v2 (a0.2.length), .i 2 3 (by decide), .L c94_len a0.2 v2 2 1])
       cases h4 : (((a0.2.getD (toNat v2) default).2.2 : Int) == a2) with
       | true =>
        have q4 := eq_of_beq h4
        let t5 : List (St Tryz.prog) := (t4 ++ [.d h4, .u 0, .T, .i v2 (a0.2.length), .i 2 3 (by decide), .L c94_len a0.2 v2 2 1])
        cases h5 : (((a0.2.getD (toNat v2) default).2.2 : Int) == a1) with
        | true =>
         have q5 := eq_of_beq h5
         let t6 : List (St Tryz.prog) := (t5 ++ [.d h5, .p (show (3 : Int) ≠ 0 from by decide), .i v2 (a0.2.length), .i 0 3 (by decide), .L c94_len a0.2 v2 0 1])
         cases h6 : (((a0.2.getD (toNat v2) default).1 : Int) == a2) with
         | true =>
          have q6 := eq_of_beq h6
          have e := Eq.refl (S82_0 a0 a1 a2 (v1, v2)); conv at e => rhs; simp only [S82_0, h0, h1, h2, h3, h4, h5, h6, cdb]
          rw [loopF_inl e]
          refine ba (t6 ++ [.d h6, .u 0, .F]) [] [1, 2, 3, 7, 8] [2] hcx (m := n) B82_0 (K82_0) (st82_0 a0 a1 a2 (W ((W (v1 + 1)) + 1)) (W (v2 + 1))) (by kernel_rfl) ?_
          have z0 : (W (v2 + 1)) = (v2 + 1) := W_eq (by omega) (by omega)
          rw [z0]
          exact ih (W ((W (v1 + 1)) + 1)) (v2 + 1) (by (try simp only [Ls]); omega) (by (try simp only [Ls]); omega)
         | false =>
          have q6 := ne_of_beq_false h6
          have e := Eq.refl (S82_0 a0 a1 a2 (v1, v2)); conv at e => rhs; simp only [S82_0, h0, h1, h2, h3, h4, h5, h6, cdb]
          rw [loopF_inl e]
          refine ba (t6 ++ [.d h6, .u 0, .F]) [] [1, 2, 3, 7, 8] [2] hcx (m := n) B82_0 (K82_0) (st82_0 a0 a1 a2 (W (v1 + 1)) (W (v2 + 1))) (by kernel_rfl) ?_
          have z0 : (W (v2 + 1)) = (v2 + 1) := W_eq (by omega) (by omega)
          rw [z0]
          exact ih (W (v1 + 1)) (v2 + 1) (by (try simp only [Ls]); omega) (by (try simp only [Ls]); omega)
        | false =>
         have q5 := ne_of_beq_false h5
         have e := Eq.refl (S82_0 a0 a1 a2 (v1, v2)); conv at e => rhs; simp only [S82_0, h0, h1, h2, h3, h4, h5, cdb]
         rw [loopF_inl e]
         refine ba (t5 ++ [.d h5, .u 0, .F]) [] [1, 2, 3, 7, 8] [2] hcx (m := n) B82_0 (K82_0) (st82_0 a0 a1 a2 (W (v1 + 1)) (W (v2 + 1))) (by kernel_rfl) ?_
         have z0 : (W (v2 + 1)) = (v2 + 1) := W_eq (by omega) (by omega)
         rw [z0]
         exact ih (W (v1 + 1)) (v2 + 1) (by (try simp only [Ls]); omega) (by (try simp only [Ls]); omega)
       | false =>
        have q4 := ne_of_beq_false h4
        let t5 : List (St Tryz.prog) := (t4 ++ [.d h4, .u 0, .T, .i v2 (a0.2.length), .i 2 3 (by decide), .L c94_len a0.2 v2 2 1])
        cases h5 : (((a0.2.getD (toNat v2) default).2.2 : Int) == a1) with
        | true =>
         have q5 := eq_of_beq h5
         let t6 : List (St Tryz.prog) := (t5 ++ [.d h5, .p (show (3 : Int) ≠ 0 from by decide), .i v2 (a0.2.length), .i 0 3 (by decide), .L c94_len a0.2 v2 0 1])
         cases h6 : (((a0.2.getD (toNat v2) default).1 : Int) == a2) with
         | true =>
          have q6 := eq_of_beq h6
          have e := Eq.refl (S82_0 a0 a1 a2 (v1, v2)); conv at e => rhs; simp only [S82_0, h0, h1, h2, h3, h4, h5, h6, cdb]
          rw [loopF_inl e]
          refine ba (t6 ++ [.d h6, .u 0, .F]) [] [1, 2, 3, 7, 8] [2] hcx (m := n) B82_0 (K82_0) (st82_0 a0 a1 a2 (W (v1 + 1)) (W (v2 + 1))) (by kernel_rfl) ?_
          have z0 : (W (v2 + 1)) = (v2 + 1) := W_eq (by omega) (by omega)
          rw [z0]
          exact ih (W (v1 + 1)) (v2 + 1) (by (try simp only [Ls]); omega) (by (try simp only [Ls]); omega)
         | false =>
          have q6 := ne_of_beq_false h6
          have e := Eq.refl (S82_0 a0 a1 a2 (v1, v2)); conv at e => rhs; simp only [S82_0, h0, h1, h2, h3, h4, h5, h6, cdb]
          rw [loopF_inl e]
          refine ba (t6 ++ [.d h6, .u 0, .F]) [] [1, 2, 3, 7, 8] [2] hcx (m := n) B82_0 (K82_0) (st82_0 a0 a1 a2 v1 (W (v2 + 1))) (by kernel_rfl) ?_
          have z0 : (W (v2 + 1)) = (v2 + 1) := W_eq (by omega) (by omega)
          rw [z0]
          exact ih v1 (v2 + 1) (by (try simp only [Ls]); omega) (by (try simp only [Ls]); omega)
        | false =>
         have q5 := ne_of_beq_false h5
         have e := Eq.refl (S82_0 a0 a1 a2 (v1, v2)); conv at e => rhs; simp only [S82_0, h0, h1, h2, h3, h4, h5, cdb]
         rw [loopF_inl e]
         refine ba (t5 ++ [.d h5, .u 0, .F]) [] [1, 2, 3, 7, 8] [2] hcx (m := n) B82_0 (K82_0) (st82_0 a0 a1 a2 v1 (W (v2 + 1))) (by kernel_rfl) ?_
         have z0 : (W (v2 + 1)) = (v2 + 1) := W_eq (by omega) (by omega)
         rw [z0]
         exact ih v1 (v2 + 1) (by (try simp only [Ls]); omega) (by (try simp only [Ls]); omega)
      | false =>
       have q3 := ne_of_beq_false h3
       let t4 : List (St Tryz.prog) := (t3 ++ [.d h3, .u 0, .T, .i v2 (a0.2.length), .i 2 3 (by decide), .L c94_len a0.2 v2 2 1])
       cases h4 : (((a0.2.getD (toNat v2) default).2.2 : Int) == a1) with
       | true =>
        have q4 := eq_of_beq h4
        let t5 : List (St Tryz.prog) := (t4 ++ [.d h4, .p (show (3 : Int) ≠ 0 from by decide), .i v2 (a0.2.length), .i 0 3 (by decide), .L c94_len a0.2 v2 0 1])
        cases h5 : (((a0.2.getD (toNat v2) default).1 : Int) == a2) with
        | true =>
         have q5 := eq_of_beq h5
         have e := Eq.refl (S82_0 a0 a1 a2 (v1, v2)); conv at e => rhs; simp only [S82_0, h0, h1, h2, h3, h4, h5, cdb]
         rw [loopF_inl e]
         refine ba (t5 ++ [.d h5, .u 0, .F]) [] [1, 2, 3, 7, 8] [2] hcx (m := n) B82_0 (K82_0) (st82_0 a0 a1 a2 (W (v1 + 1)) (W (v2 + 1))) (by kernel_rfl) ?_
         have z0 : (W (v2 + 1)) = (v2 + 1) := W_eq (by omega) (by omega)
         rw [z0]
         exact ih (W (v1 + 1)) (v2 + 1) (by (try simp only [Ls]); omega) (by (try simp only [Ls]); omega)
        | false =>
         have q5 := ne_of_beq_false h5
         have e := Eq.refl (S82_0 a0 a1 a2 (v1, v2)); conv at e => rhs; simp only [S82_0, h0, h1, h2, h3, h4, h5, cdb]
         rw [loopF_inl e]
         refine ba (t5 ++ [.d h5, .u 0, .F]) [] [1, 2, 3, 7, 8] [2] hcx (m := n) B82_0 (K82_0) (st82_0 a0 a1 a2 v1 (W (v2 + 1))) (by kernel_rfl) ?_
         have z0 : (W (v2 + 1)) = (v2 + 1) := W_eq (by omega) (by omega)
         rw [z0]
         exact ih v1 (v2 + 1) (by (try simp only [Ls]); omega) (by (try simp only [Ls]); omega)
       | false =>
        have q4 := ne_of_beq_false h4
        have e := Eq.refl (S82_0 a0 a1 a2 (v1, v2)); conv at e => rhs; simp only [S82_0, h0, h1, h2, h3, h4, cdb]
        rw [loopF_inl e]
        refine ba (t4 ++ [.d h4, .u 0, .F]) [] [1, 2, 3, 7, 8] [2] hcx (m := n) B82_0 (K82_0) (st82_0 a0 a1 a2 v1 (W (v2 + 1))) (by kernel_rfl) ?_
        have z0 : (W (v2 + 1)) = (v2 + 1) := W_eq (by omega) (by omega)
        rw [z0]
        exact ih v1 (v2 + 1) (by (try simp only [Ls]); omega) (by (try simp only [Ls]); omega)
    | false =>
     have q1 := ne_of_beq_false h1
     let t2 : List (St Tryz.prog) := (t1 ++ [.d h1, .u 0, .T, .i v2 (a0.2.length), .i 1 3 (by decide), .L c94_len a0.2 v2 1 1])
     cases h2 : (((a0.2.getD (toNat v2) default).2.1 : Int) == a1) with
     | true =>
      have q2 := eq_of_beq h2
      let t3 : List (St Tryz.prog) := (t2 ++ [.d h2, .p (show (3 : Int) ≠ 0 from by decide), .i v2 (a0.2.length), .i 2 3 (by decide), .L c94_len a0.2 v2 2 1])
      cases h3 : (((a0.2.getD (toNat v2) default).2.2 : Int) == a2) with
      | true =>
       have q3 := eq_of_beq h3
       let t4 : List (St Tryz.prog) := (t3 ++ [.d h3, .u 0, .T, .i v2 (a0.2.length), .i 2 3 (by decide), .L c94_len a0.2 v2 2 1])
       cases h4 : (((a0.2.getD (toNat v2) default).2.2 : Int) == a1) with
       | true =>
        have q4 := eq_of_beq h4
        let t5 : List (St Tryz.prog) := (t4 ++ [.d h4, .p (show (3 : Int) ≠ 0 from by decide), .i v2 (a0.2.length), .i 0 3 (by decide), .L c94_len a0.2 v2 0 1])
        cases h5 : (((a0.2.getD (toNat v2) default).1 : Int) == a2) with
        | true =>
         have q5 := eq_of_beq h5
         have e := Eq.refl (S82_0 a0 a1 a2 (v1, v2)); conv at e => rhs; simp only [S82_0, h0, h1, h2, h3, h4, h5, cdb]
         rw [loopF_inl e]
         refine ba (t5 ++ [.d h5, .u 0, .F]) [] [1, 2, 3, 7, 8] [2] hcx (m := n) B82_0 (K82_0) (st82_0 a0 a1 a2 (W ((W (v1 + 1)) + 1)) (W (v2 + 1))) (by kernel_rfl) ?_
         have z0 : (W (v2 + 1)) = (v2 + 1) := W_eq (by omega) (by omega)
         rw [z0]
         exact ih (W ((W (v1 + 1)) + 1)) (v2 + 1) (by (try simp only [Ls]); omega) (by (try simp only [Ls]); omega)
        | false =>
         have q5 := ne_of_beq_false h5
         have e := Eq.refl (S82_0 a0 a1 a2 (v1, v2)); conv at e => rhs; simp only [S82_0, h0, h1, h2, h3, h4, h5, cdb]
         rw [loopF_inl e]
         refine ba (t5 ++ [.d h5, .u 0, .F]) [] [1, 2, 3, 7, 8] [2] hcx (m := n) B82_0 (K82_0) (st82_0 a0 a1 a2 (W (v1 + 1)) (W (v2 + 1))) (by kernel_rfl) ?_
         have z0 : (W (v2 + 1)) = (v2 + 1) := W_eq (by omega) (by omega)
         rw [z0]
         exact ih (W (v1 + 1)) (v2 + 1) (by (try simp only [Ls]); omega) (by (try simp only [Ls]); omega)
       | false =>
        have q4 := ne_of_beq_false h4
        have e := Eq.refl (S82_0 a0 a1 a2 (v1, v2)); conv at e => rhs; simp only [S82_0, h0, h1, h2, h3, h4, cdb]
        rw [loopF_inl e]
        refine ba (t4 ++ [.d h4, .u 0, .F]) [] [1, 2, 3, 7, 8] [2] hcx (m := n) B82_0 (K82_0) (st82_0 a0 a1 a2 (W (v1 + 1)) (W (v2 + 1))) (by kernel_rfl) ?_
        have z0 : (W (v2 + 1)) = (v2 + 1) := W_eq (by omega) (by omega)
        rw [z0]
        exact ih (W (v1 + 1)) (v2 + 1) (by (try simp only [Ls]); omega) (by (try simp only [Ls]); omega)
      | false =>
       have q3 := ne_of_beq_false h3
       let t4 : List (St Tryz.prog) := (t3 ++ [.d h3, .u 0, .T, .i v2 (a0.2.length), .i 2 3 (by decide), .L c94_len a0.2 v2 2 1])
       cases h4 : (((a0.2.getD (toNat v2) default).2.2 : Int) == a1) with
       | true =>
        have q4 := eq_of_beq h4
        let t5 : List (St Tryz.prog) := (t4 ++ [.d h4, .p (show (3 : Int) ≠ 0 from by decide), .i v2 (a0.2.length), .i 0 3 (by decide), .L c94_len a0.2 v2 0 1])
        cases h5 : (((a0.2.getD (toNat v2) default).1 : Int) == a2) with
        | true =>
         have q5 := eq_of_beq h5
         have e := Eq.refl (S82_0 a0 a1 a2 (v1, v2)); conv at e => rhs; simp only [S82_0, h0, h1, h2, h3, h4, h5, cdb]
         rw [loopF_inl e]
         refine ba (t5 ++ [.d h5, .u 0, .F]) [] [1, 2, 3, 7, 8] [2] hcx (m := n) B82_0 (K82_0) (st82_0 a0 a1 a2 (W (v1 + 1)) (W (v2 + 1))) (by kernel_rfl) ?_
         have z0 : (W (v2 + 1)) = (v2 + 1) := W_eq (by omega) (by omega)
         rw [z0]
         exact ih (W (v1 + 1)) (v2 + 1) (by (try simp only [Ls]); omega) (by (try simp only [Ls]); omega)
        | false =>
         have q5 := ne_of_beq_false h5
         have e := Eq.refl (S82_0 a0 a1 a2 (v1, v2)); conv at e => rhs; simp only [S82_0, h0, h1, h2, h3, h4, h5, cdb]
         rw [loopF_inl e]
         refine ba (t5 ++ [.d h5, .u 0, .F]) [] [1, 2, 3, 7, 8] [2] hcx (m := n) B82_0 (K82_0) (st82_0 a0 a1 a2 v1 (W (v2 + 1))) (by kernel_rfl) ?_
         have z0 : (W (v2 + 1)) = (v2 + 1) := W_eq (by omega) (by omega)
         rw [z0]
         exact ih v1 (v2 + 1) (by (try simp only [Ls]); omega) (by (try simp only [Ls]); omega)
       | false =>
        have q4 := ne_of_beq_false h4
        have e := Eq.refl (S82_0 a0 a1 a2 (v1, v2)); conv at e => rhs; simp only [S82_0, h0, h1, h2, h3, h4, cdb]
        rw [loopF_inl e]
        refine ba (t4 ++ [.d h4, .u 0, .F]) [] [1, 2, 3, 7, 8] [2] hcx (m := n) B82_0 (K82_0) (st82_0 a0 a1 a2 v1 (W (v2 + 1))) (by kernel_rfl) ?_
        have z0 : (W (v2 + 1)) = (v2 + 1) := W_eq (by omega) (by omega)
        rw [z0]
        exact ih v1 (v2 + 1) (by (try simp only [Ls]); omega) (by (try simp only [Ls]); omega)
     | false =>
      have q2 := ne_of_beq_false h2
      let t3 : List (St Tryz.prog) := (t2 ++ [.d h2, .u 0, .T, .i v2 (a0.2.length), .i 2 3 (by decide), .L c94_len a0.2 v2 2 1])
      cases h3 : (((a0.2.getD (toNat v2) default).2.2 : Int) == a1) with
      | true =>
       have q3 := eq_of_beq h3
       let t4 : List (St Tryz.prog) := (t3 ++ [.d h3, .p (show (3 : Int) ≠ 0 from by decide), .i v2 (a0.2.length), .i 0 3 (by decide), .L c94_len a0.2 v2 0 1])
       cases h4 : (((a0.2.getD (toNat v2) default).1 : Int) == a2) with
       | true =>
        have q4 := eq_of_beq h4
        have e := Eq.refl (S82_0 a0 a1 a2 (v1, v2)); conv at e => rhs; simp only [S82_0, h0, h1, h2, h3, h4, cdb]
        rw [loopF_inl e]
        refine ba (t4 ++ [.d h4, .u 0, .F]) [] [1, 2, 3, 7, 8] [2] hcx (m := n) B82_0 (K82_0) (st82_0 a0 a1 a2 (W (v1 + 1)) (W (v2 + 1))) (by kernel_rfl) ?_
        have z0 : (W (v2 + 1)) = (v2 + 1) := W_eq (by omega) (by omega)
        rw [z0]
        exact ih (W (v1 + 1)) (v2 + 1) (by (try simp only [Ls]); omega) (by (try simp only [Ls]); omega)
       | false =>
        have q4 := ne_of_beq_false h4
        have e := Eq.refl (S82_0 a0 a1 a2 (v1, v2)); conv at e => rhs; simp only [S82_0, h0, h1, h2, h3, h4, cdb]
        rw [loopF_inl e]
        refine ba (t4 ++ [.d h4, .u 0, .F]) [] [1, 2, 3, 7, 8] [2] hcx (m := n) B82_0 (K82_0) (st82_0 a0 a1 a2 v1 (W (v2 + 1))) (by kernel_rfl) ?_
        have z0 : (W (v2 + 1)) = (v2 + 1) := W_eq (by omega) (by omega)
        rw [z0]
        exact ih v1 (v2 + 1) (by (try simp only [Ls]); omega) (by (try simp only [Ls]); omega)
      | false =>
       have q3 := ne_of_beq_false h3
       have e := Eq.refl (S82_0 a0 a1 a2 (v1, v2)); conv at e => rhs; simp only [S82_0, h0, h1, h2, h3, cdb]
       rw [loopF_inl e]
       refine ba (t3 ++ [.d h3, .u 0, .F]) [] [1, 2, 3, 7, 8] [2] hcx (m := n) B82_0 (K82_0) (st82_0 a0 a1 a2 v1 (W (v2 + 1))) (by kernel_rfl) ?_
       have z0 : (W (v2 + 1)) = (v2 + 1) := W_eq (by omega) (by omega)
       rw [z0]
       exact ih v1 (v2 + 1) (by (try simp only [Ls]); omega) (by (try simp only [Ls]); omega)
   | false =>
    have q0 := odf h0
    have e := Eq.refl (S82_0 a0 a1 a2 (v1, v2)); conv at e => rhs; simp only [S82_0, h0, cdb]
    rw [loopF_s, e]
    exact rt [.d h0] [] [] hcx (by kernel_rfl)

def F82 (a0 : Zm) (a1 : Int) (a2 : Int) : Int :=
 (loopF (S82_0 a0 a1 a2) (toNat ((a0.2.length : Int) - 0) + 1) (0, 0))

theorem C82 (a0 : Zm) (a1 : Int) (a2 : Int) (l0_1 : a0.1.length ≤ 9223372036854775807) (l0_2 : a0.2.length ≤ 9223372036854775807) : Con Tryz.prog 82 [(.a [(.s 0 0 a0.1.length 3), (.s 1 0 a0.2.length 3)]), (iv a1), (iv a2)] [(.live false true (flat c30 a0.1)), (.live false true (flat c94 a0.2))] (iv (F82 a0 a1 a2)) [] := by
 refine con_s Tryz.func82 (by kernel_rfl) fun cx hcx => ?_
 have e := Eq.refl (F82 a0 a1 a2); conv at e => rhs; simp only [F82]
 rw [e]
 refine en [] [] [1, 2, 3, 7, 8] [2] hcx B82_0 (K82_0) (st82_0 a0 a1 a2 0 0) (toNat ((a0.2.length : Int) - 0) + 1) (by kernel_rfl) ?_
 exact L82_0 a0 a1 a2 l0_1 l0_2 hcx (toNat ((a0.2.length : Int) - 0) + 1) 0 0 (by (try simp only [Ls]); omega) (by (try simp only [Ls]); omega)

noncomputable def B83_0 : Code := (loopAtD [1, 1, 0, 1] [] (bodyOf Tryz.f83) []).1
noncomputable def K83_0 : List K := (loopAtD [1, 1, 0, 1] [] (bodyOf Tryz.f83) []).2

def st83_0 (a0 : Zm) (v1 v2 : Int) : LS := ⟨slN 27 [(1, (.p 2 0)), (3, (iv v1)), (4, (iv v2))], [(.live false true (flat c30 a0.1)), (.live false true (flat c94 a0.2)), (.live true false [(.s 0 0 a0.1.length 3), (.s 1 0 a0.2.length 3)])]⟩

def S83_0 (a0 : Zm) : Int × Int → (Int × Int) ⊕ (Int)
 | (v1, v2) =>
  (bif (decide ((v2 : Int) < (a0.2.length : Int))) then
   (.inl ((W (v1 + (F106 (F81 (a0.1, a0.2) v2).1 (F104 (F81 (a0.1, a0.2) v2).2.1 (F81 (a0.1, a0.2) v2).2.2)))), (v2 + 1)))
  else
   (.inr v1))

theorem L83_0 (a0 : Zm) (l0_1 : a0.1.length ≤ 9223372036854775807) (l0_2 : a0.2.length ≤ 9223372036854775807) (hv : okTo a0 a0.2.length) (hn : a0.2.length ≤ 96) {cx : Cx} (hcx : cx.base = 2) : ∀ (n : Nat) (v1 v2 : Int), 0 ≤ v2 → toNat ((a0.2.length : Int) - v2) < n → Aw.Good Tryz.prog none 9 (bodyPost Tryz.prog Tryz.f83 (RR cx (iv (loopF (S83_0 a0) n (v1, v2))) [] [])) cx [] (.l B83_0 n :: K83_0) (st83_0 a0 v1 v2) := by
 intro n
 induction n with
 | zero => intro v1 v2 hi hn; exact absurd hn (nlz _)
 | succ n ih =>
   intro v1 v2 hi hn
   refine good_round ?_
   cases h0 : (decide ((v2 : Int) < (a0.2.length : Int))) with
   | true =>
    have q0 := odt h0
    have e := Eq.refl (S83_0 a0 (v1, v2)); conv at e => rhs; simp only [S83_0, h0, cdb]
    rw [loopF_inl e]
    refine ba [.d h0, .c [0, 1] (C81 (a0.1, a0.2) v2 (by (try simp only [Lt]); omega) (by (try simp only [Lt]); omega) (by show 0 ≤ _ ∧ _ < (a0.2.length : Int); omega) (okTo_get hv (by omega) (by omega))), .c [] (C104 (F81 (a0.1, a0.2) v2).2.1 (F81 (a0.1, a0.2) v2).2.2), .c [] (C106 (F81 (a0.1, a0.2) v2).1 (F104 (F81 (a0.1, a0.2) v2).2.1 (F81 (a0.1, a0.2) v2).2.2))] [] [1, 3, 4] [2] hcx (m := n) B83_0 (K83_0) (st83_0 a0 (W (v1 + (F106 (F81 (a0.1, a0.2) v2).1 (F104 (F81 (a0.1, a0.2) v2).2.1 (F81 (a0.1, a0.2) v2).2.2)))) (W (v2 + 1))) (by kernel_rfl) ?_
    have z0 : (W (v2 + 1)) = (v2 + 1) := W_eq (by omega) (by omega)
    rw [z0]
    exact ih (W (v1 + (F106 (F81 (a0.1, a0.2) v2).1 (F104 (F81 (a0.1, a0.2) v2).2.1 (F81 (a0.1, a0.2) v2).2.2)))) (v2 + 1) (by (try simp only [Ls]); omega) (by (try simp only [Ls]); omega)
   | false =>
    have q0 := odf h0
    have e := Eq.refl (S83_0 a0 (v1, v2)); conv at e => rhs; simp only [S83_0, h0, cdb]
    rw [loopF_s, e]
    exact rt [.d h0] [] [] hcx (by kernel_rfl)

def F83 (a0 : Zm) : Int :=
 (loopF (S83_0 a0) (toNat ((a0.2.length : Int) - 0) + 1) (0, 0))

theorem C83 (a0 : Zm) (l0_1 : a0.1.length ≤ 9223372036854775807) (l0_2 : a0.2.length ≤ 9223372036854775807) (hv : okTo a0 a0.2.length) (hn : a0.2.length ≤ 96) : Con Tryz.prog 83 [(.a [(.s 0 0 a0.1.length 3), (.s 1 0 a0.2.length 3)])] [(.live false true (flat c30 a0.1)), (.live false true (flat c94 a0.2))] (iv (F83 a0)) [] := by
 refine con_s Tryz.func83 (by kernel_rfl) fun cx hcx => ?_
 have e := Eq.refl (F83 a0); conv at e => rhs; simp only [F83]
 rw [e]
 refine en [] [] [1, 3, 4] [2] hcx B83_0 (K83_0) (st83_0 a0 0 0) (toNat ((a0.2.length : Int) - 0) + 1) (by kernel_rfl) ?_
 exact L83_0 a0 l0_1 l0_2 hv hn hcx (toNat ((a0.2.length : Int) - 0) + 1) 0 0 (by (try simp only [Ls]); omega) (by (try simp only [Ls]); omega)

noncomputable def B50_1 : Code := (loopAtD [1, 1, 0, 1, 0, 1, 0, 1, 1] [0] (bodyOf Tryz.f50) []).1
noncomputable def K50_1 (m0 : Nat) : List K := (loopAtD [1, 1, 0, 1, 0, 1, 0, 1, 1] [m0] (bodyOf Tryz.f50) []).2

def st50_1 (a0 : Zm) (v3 v4 : Int) : LS := ⟨slN 148 [(1, (.p 2 0)), (3, (iv v3)), (4, (iv v4))], [(.live false true (flat c30 a0.1)), (.live false true (flat c94 a0.2)), (.live true false [(.s 0 0 a0.1.length 3), (.s 1 0 a0.2.length 3)])]⟩

def S50_1 (a0 : Zm) : Int × Int → (Int × Int) ⊕ ((Int) ⊕ (Int))
 | (v3, v4) =>
  (bif (decide ((v4 : Int) < v3)) then
   (bif ((((a0.1.getD (toNat v3) default).1 : Int) == (a0.1.getD (toNat v4) default).1) && ((((a0.1.getD (toNat v3) default).2.1 : Int) == (a0.1.getD (toNat v4) default).2.1) && ((((a0.1.getD (toNat v3) default).2.2 : Int) == (a0.1.getD (toNat v4) default).2.2) && true))) then
    (.inr (.inr 1))
   else
    (.inl (v3, (v4 + 1))))
  else
   (.inr (.inl (v3 + 1))))

noncomputable def B50_6 : Code := (loopAtD [1, 1, 1, 1, 1, 1, 0, 1] [] (bodyOf Tryz.f50) []).1
noncomputable def K50_6 : List K := (loopAtD [1, 1, 1, 1, 1, 1, 0, 1] [] (bodyOf Tryz.f50) []).2

def st50_6 (a0 : Zm) (v11c : List SV) (v11n : Nat) (v12 : Int) : LS := ⟨slN 148 [(1, (.p 2 0)), (5, (.s 3 0 v11n 1)), (13, (iv v12))], [(.live false true (flat c30 a0.1)), (.live false true (flat c94 a0.2)), (.live true false [(.s 0 0 a0.1.length 3), (.s 1 0 a0.2.length 3)]), (.live true true v11c)]⟩

def S50_6 (a0 : Zm) : List (Bool) × Int → (List (Bool) × Int) ⊕ (Int)
 | (v11, v12) =>
  (bif (decide ((v12 : Int) < (v11.length : Int))) then
   (bif (!(v11.getD (toNat v12) default)) then
    (.inr 5)
   else
    (.inl (v11, (v12 + 1))))
  else
   (bif (decide (((F83 (a0.1, a0.2)) : Int) ≤ 0)) then
    (.inr 8)
   else
    (.inr 0)))

noncomputable def B50_4 : Code := (loopAtD [1, 1, 1, 1, 1, 0, 1] [] (bodyOf Tryz.f50) []).1
noncomputable def K50_4 : List K := (loopAtD [1, 1, 1, 1, 1, 0, 1] [] (bodyOf Tryz.f50) []).2

def st50_4 (a0 : Zm) (v8c : List SV) (v8n : Nat) (v9 : Int) : LS := ⟨slN 148 [(1, (.p 2 0)), (5, (.s 3 0 v8n 1)), (9, (iv v9))], [(.live false true (flat c30 a0.1)), (.live false true (flat c94 a0.2)), (.live true false [(.s 0 0 a0.1.length 3), (.s 1 0 a0.2.length 3)]), (.live true true v8c)]⟩

def S50_4 (a0 : Zm) : List (Bool) × Int → (List (Bool) × Int) ⊕ (Int)
 | (v8, v9) =>
  (bif (decide ((v9 : Int) < (a0.2.length : Int))) then
   (bif (((F82 (a0.1, a0.2) (a0.2.getD (toNat v9) default).1 (a0.2.getD (toNat v9) default).2.1) : Int) != 1) then
    (.inr 7)
   else
    (bif (((F82 (a0.1, a0.2) (a0.2.getD (toNat v9) default).2.1 (a0.2.getD (toNat v9) default).1) : Int) != 1) then
     (.inr 7)
    else
     (bif (((F82 (a0.1, a0.2) (a0.2.getD (toNat v9) default).2.1 (a0.2.getD (toNat v9) default).2.2) : Int) != 1) then
      (.inr 7)
     else
      (bif (((F82 (a0.1, a0.2) (a0.2.getD (toNat v9) default).2.2 (a0.2.getD (toNat v9) default).2.1) : Int) != 1) then
       (.inr 7)
      else
       (bif (((F82 (a0.1, a0.2) (a0.2.getD (toNat v9) default).2.2 (a0.2.getD (toNat v9) default).1) : Int) != 1) then
        (.inr 7)
       else
        (bif (((F82 (a0.1, a0.2) (a0.2.getD (toNat v9) default).1 (a0.2.getD (toNat v9) default).2.2) : Int) != 1) then
         (.inr 7)
        else
         (.inl (v8, (v9 + 1)))))))))
  else
   (.inr (loopF (S50_6 a0) (toNat ((v8.length : Int) - 0) + 1) (v8, 0))))

noncomputable def B50_2 : Code := (loopAtD [1, 1, 1, 1, 0, 1] [] (bodyOf Tryz.f50) []).1
noncomputable def K50_2 : List K := (loopAtD [1, 1, 1, 1, 0, 1] [] (bodyOf Tryz.f50) []).2

def st50_2 (a0 : Zm) (v5c : List SV) (v5n : Nat) (v6 : Int) : LS := ⟨slN 148 [(1, (.p 2 0)), (5, (.s 3 0 v5n 1)), (6, (iv v6))], [(.live false true (flat c30 a0.1)), (.live false true (flat c94 a0.2)), (.live true false [(.s 0 0 a0.1.length 3), (.s 1 0 a0.2.length 3)]), (.live true true v5c)]⟩

def S50_2 (a0 : Zm) : List (Bool) × Int → (List (Bool) × Int) ⊕ (Int)
 | (v5, v6) =>
  (bif (decide ((v6 : Int) < (a0.2.length : Int))) then
   (bif (decide (((a0.2.getD (toNat v6) default).1 : Int) < 0)) then
    (.inr 5)
   else
    (bif (decide (((a0.2.getD (toNat v6) default).1 : Int) ≥ (a0.1.length : Int))) then
     (.inr 5)
    else
     (bif (decide (((a0.2.getD (toNat v6) default).2.1 : Int) < 0)) then
      (.inr 5)
     else
      (bif (decide (((a0.2.getD (toNat v6) default).2.1 : Int) ≥ (a0.1.length : Int))) then
       (.inr 5)
      else
       (bif (decide (((a0.2.getD (toNat v6) default).2.2 : Int) < 0)) then
        (.inr 5)
       else
        (bif (decide (((a0.2.getD (toNat v6) default).2.2 : Int) ≥ (a0.1.length : Int))) then
         (.inr 5)
        else
         (bif ((((F80 (F81 (a0.1, a0.2) v6)).1 : Int) == 0) && ((((F80 (F81 (a0.1, a0.2) v6)).2.1 : Int) == 0) && ((((F80 (F81 (a0.1, a0.2) v6)).2.2 : Int) == 0) && true))) then
          (.inr 6)
         else
          (.inl ((((v5.set (toNat (a0.2.getD (toNat v6) default).1) true).set (toNat (a0.2.getD (toNat v6) default).2.1) true).set (toNat (a0.2.getD (toNat v6) default).2.2) true), (v6 + 1))))))))))
  else
   (.inr (loopF (S50_4 a0) (toNat ((a0.2.length : Int) - 0) + 1) (v5, 0))))

noncomputable def B50_0 : Code := (loopAtD [1, 1, 0, 1] [] (bodyOf Tryz.f50) []).1
noncomputable def K50_0 : List K := (loopAtD [1, 1, 0, 1] [] (bodyOf Tryz.f50) []).2

def st50_0 (a0 : Zm) (v1 : Int) : LS := ⟨slN 148 [(1, (.p 2 0)), (3, (iv v1))], [(.live false true (flat c30 a0.1)), (.live false true (flat c94 a0.2)), (.live true false [(.s 0 0 a0.1.length 3), (.s 1 0 a0.2.length 3)])]⟩

def S50_0 (a0 : Zm) : Int → (Int) ⊕ (Int)
 | v1 =>
  (bif (decide ((v1 : Int) < (a0.1.length : Int))) then
   (bif (!(F79 (a0.1.getD (toNat v1) default) 64)) then
    (.inr 1)
   else
    (loopF (S50_1 a0) (toNat (v1 - 0) + 1) (v1, 0)))
  else
   (.inr (loopF (S50_2 a0) (toNat ((a0.2.length : Int) - 0) + 1) ((List.replicate (toNat (a0.1.length : Int)) false), 0))))

theorem L50_1 (a0 : Zm) (l0_1 : a0.1.length ≤ 9223372036854775807) (l0_2 : a0.2.length ≤ 9223372036854775807) {cx : Cx} (hcx : cx.base = 2)
   (n0 : Nat) (g0 : ∀ (v1 : Int), (0 ≤ v1) ∧ (a0.1.length ≤ 64) ∧ (a0.2.length ≤ 96) → toNat ((a0.1.length : Int) - v1) < n0 → Aw.Good Tryz.prog none 9 (bodyPost Tryz.prog Tryz.f50 (RR cx (iv (loopF (S50_0 a0) n0 v1)) [] [])) cx [] (.l B50_0 n0 :: K50_0) (st50_0 a0 v1)) : ∀ (n : Nat) (v3 v4 : Int), (0 ≤ v4) ∧ ((0 ≤ v3)) ∧ ((a0.1.length ≤ 64)) ∧ ((a0.2.length ≤ 96)) ∧ (v3 < (a0.1.length : Int)) ∧ (toNat ((a0.1.length : Int) - v3) < n0 + 1) → toNat (v3 - v4) < n → Aw.Good Tryz.prog none 9 (bodyPost Tryz.prog Tryz.f50 (RR cx (iv (thenF (S50_0 a0) n0 (loopF (S50_1 a0) n (v3, v4)))) [] [])) cx [] (.l B50_1 n :: K50_1 n0) (st50_1 a0 v3 v4) := by
 intro n
 induction n with
 | zero => intro v3 v4 hi hn; exact absurd hn (nlz _)
 | succ n ih =>
   intro v3 v4 hi hn
   refine good_round ?_
   cases h0 : (decide ((v4 : Int) < v3)) with
   | true =>
    have q0 := odt h0
    let t1 : List (St Tryz.prog) := [.d h0, .i v3 (a0.1.length), .L c30_len a0.1 v3 0 3, .i v4 (a0.1.length), .L c30_len a0.1 v4 0 3]
    cases h1 : ((((a0.1.getD (toNat v3) default).1 : Int) == (a0.1.getD (toNat v4) default).1) && ((((a0.1.getD (toNat v3) default).2.1 : Int) == (a0.1.getD (toNat v4) default).2.1) && ((((a0.1.getD (toNat v3) default).2.2 : Int) == (a0.1.getD (toNat v4) default).2.2) && true))) with
    | true =>
     have e := Eq.refl (S50_1 a0 (v3, v4)); conv at e => rhs; simp only [S50_1, h0, h1, cdb]
     rw [loopF_s, e]
     exact rt (t1 ++ [.d h1]) [] [] hcx (by kernel_rfl)
    | false =>
     have e := Eq.refl (S50_1 a0 (v3, v4)); conv at e => rhs; simp only [S50_1, h0, h1, cdb]
     rw [loopF_inl e]
     refine ba (t1 ++ [.d h1]) [] [1, 3, 4] [2] hcx (m := n) B50_1 (K50_1 n0) (st50_1 a0 v3 (W (v4 + 1))) (by kernel_rfl) ?_
     have z0 : (W (v4 + 1)) = (v4 + 1) := W_eq (by omega) (by omega)
     rw [z0]
     exact ih v3 (v4 + 1) (by refine ⟨?_, ?_, ?_, ?_, ?_, ?_⟩ <;> (try simp only [Ls]) <;> first | omega | assumption | exact hi.2.1 | exact hi.2.2.1 | exact hi.2.2.2.1 | exact hi.2.2.2.2.1 | exact hi.2.2.2.2.2.1 | simp) (by (try simp only [Ls]); omega)
   | false =>
    have q0 := odf h0
    have e := Eq.refl (S50_1 a0 (v3, v4)); conv at e => rhs; simp only [S50_1, h0, cdb]
    rw [loopF_s, e]
    refine ba [.d h0] [] [1, 3] [2] hcx (m := n0) B50_0 (K50_0) (st50_0 a0 (W (v3 + 1))) (by kernel_rfl) ?_
    have z0 : (W (v3 + 1)) = (v3 + 1) := W_eq (by omega) (by omega)
    rw [z0]
    exact g0 (v3 + 1) (by refine ⟨?_, ?_, ?_⟩ <;> (try simp only [Ls]) <;> first | omega | assumption | simp) (by (try simp only [Ls]); omega)

theorem L50_6 (a0 : Zm) (l0_1 : a0.1.length ≤ 9223372036854775807) (l0_2 : a0.2.length ≤ 9223372036854775807) {cx : Cx} (hcx : cx.base = 2) : ∀ (n : Nat) (v11 : List (Bool)) (v12 : Int), (0 ≤ v12) ∧ (okTo a0 a0.2.length) ∧ (a0.1.length ≤ 64) ∧ (a0.2.length ≤ 96) ∧ (v11.length = a0.1.length) → toNat ((v11.length : Int) - v12) < n → Aw.Good Tryz.prog none 9 (bodyPost Tryz.prog Tryz.f50 (RR cx (iv (loopF (S50_6 a0) n (v11, v12))) [] [])) cx [] (.l B50_6 n :: K50_6) (st50_6 a0 (flat c4 v11) v11.length v12) := by
 intro n
 induction n with
 | zero => intro v11 v12 hi hn; exact absurd hn (nlz _)
 | succ n ih =>
   intro v11 v12 hi hn
   refine good_round ?_
   cases h0 : (decide ((v12 : Int) < (v11.length : Int))) with
   | true =>
    have q0 := odt h0
    let t1 : List (St Tryz.prog) := [.d h0, .i v12 (v11.length), .L c4_len v11 v12 0 1]
    cases h1 : (!(v11.getD (toNat v12) default)) with
    | true =>
     have e := Eq.refl (S50_6 a0 (v11, v12)); conv at e => rhs; simp only [S50_6, h0, h1, cdb]
     rw [loopF_s, e]
     exact rt (t1 ++ [.d h1]) [] [] hcx (by kernel_rfl)
    | false =>
     have e := Eq.refl (S50_6 a0 (v11, v12)); conv at e => rhs; simp only [S50_6, h0, h1, cdb]
     rw [loopF_inl e]
     refine ba (t1 ++ [.d h1]) [] [1, 5, 13] [2, 3] hcx (m := n) B50_6 (K50_6) (st50_6 a0 (flat c4 v11) (v11.length) (W (v12 + 1))) (by kernel_rfl) ?_
     have z0 : (W (v12 + 1)) = (v12 + 1) := W_eq (by omega) (by omega)
     rw [z0]
     exact ih v11 (v12 + 1) (by refine ⟨?_, ?_, ?_, ?_, ?_⟩ <;> first | omega | assumption | exact okTo_0 | exact hi.2.1 | exact hi.2.2.1 | exact okTo_le hi.2.2.1 (by omega) | exact okTo_s hi.2.2.1 hfo | exact okTo_s hi.2.2.1 (by refine ⟨⟨?_, ?_⟩, ⟨?_, ?_⟩, ?_, ?_⟩ <;> omega) | (simp only [List.length_replicate, List.length_set]; omega)) (by (try simp only [Ls]); omega)
   | false =>
    have q0 := odf h0
    let t1 : List (St Tryz.prog) := [.d h0, .c [0, 1] (C83 (a0.1, a0.2) (by (try simp only [Lt]); omega) (by (try simp only [Lt]); omega) hi.2.1 (by show a0.2.length ≤ 96; omega))]
    cases h1 : (decide (((F83 (a0.1, a0.2)) : Int) ≤ 0)) with
    | true =>
     have q1 := odt h1
     have e := Eq.refl (S50_6 a0 (v11, v12)); conv at e => rhs; simp only [S50_6, h0, h1, cdb]
     rw [loopF_s, e]
     exact rt (t1 ++ [.d h1]) [] [] hcx (by kernel_rfl)
    | false =>
     have q1 := odf h1
     have e := Eq.refl (S50_6 a0 (v11, v12)); conv at e => rhs; simp only [S50_6, h0, h1, cdb]
     rw [loopF_s, e]
     exact rt (t1 ++ [.d h1]) [] [] hcx (by kernel_rfl)

theorem L50_4 (a0 : Zm) (l0_1 : a0.1.length ≤ 9223372036854775807) (l0_2 : a0.2.length ≤ 9223372036854775807) {cx : Cx} (hcx : cx.base = 2) : ∀ (n : Nat) (v8 : List (Bool)) (v9 : Int), (0 ≤ v9) ∧ (okTo a0 a0.2.length) ∧ (a0.1.length ≤ 64) ∧ (a0.2.length ≤ 96) ∧ (v8.length = a0.1.length) → toNat ((a0.2.length : Int) - v9) < n → Aw.Good Tryz.prog none 9 (bodyPost Tryz.prog Tryz.f50 (RR cx (iv (loopF (S50_4 a0) n (v8, v9))) [] [])) cx [] (.l B50_4 n :: K50_4) (st50_4 a0 (flat c4 v8) v8.length v9) := by
 intro n
 induction n with
 | zero => intro v8 v9 hi hn; exact absurd hn (nlz _)
 | succ n ih =>
   intro v8 v9 hi hn
   refine good_round ?_
   cases h0 : (decide ((v9 : Int) < (a0.2.length : Int))) with
   | true =>
    have q0 := odt h0
    let t1 : List (St Tryz.prog) := [.d h0, .u 200, .T, .i v9 (a0.2.length), .i 0 3 (by decide), .L c94_len a0.2 v9 0 1, .p (show (3 : Int) ≠ 0 from by decide), .i v9 (a0.2.length), .i 1 3 (by decide), .L c94_len a0.2 v9 1 1, .c [0, 1] (C82 (a0.1, a0.2) (a0.2.getD (toNat v9) default).1 (a0.2.getD (toNat v9) default).2.1 (by (try simp only [Lt]); omega) (by (try simp only [Lt]); omega))]
    cases h1 : (((F82 (a0.1, a0.2) (a0.2.getD (toNat v9) default).1 (a0.2.getD (toNat v9) default).2.1) : Int) != 1) with
    | true =>
     have q1 := bne_iff_ne.1 h1
     have e := Eq.refl (S50_4 a0 (v8, v9)); conv at e => rhs; simp only [S50_4, h0, h1, cdb]
     rw [loopF_s, e]
     exact rt (t1 ++ [.d h1]) [] [] hcx (by kernel_rfl)
    | false =>
     have q1 := bne_eq_false_iff_eq.1 h1
     let t2 : List (St Tryz.prog) := (t1 ++ [.d h1, .c [0, 1] (C82 (a0.1, a0.2) (a0.2.getD (toNat v9) default).2.1 (a0.2.getD (toNat v9) default).1 (by (try simp only [Lt]); omega) (by (try simp only [Lt]); omega))])
     cases h2 : (((F82 (a0.1, a0.2) (a0.2.getD (toNat v9) default).2.1 (a0.2.getD (toNat v9) default).1) : Int) != 1) with
     | true =>
      have q2 := bne_iff_ne.1 h2
      have e := Eq.refl (S50_4 a0 (v8, v9)); conv at e => rhs; simp only [S50_4, h0, h1, h2, cdb]
      rw [loopF_s, e]
      exact rt (t2 ++ [.d h2]) [] [] hcx (by kernel_rfl)
     | false =>
      have q2 := bne_eq_false_iff_eq.1 h2
      let t3 : List (St Tryz.prog) := (t2 ++ [.d h2, .u 0, .T, .i v9 (a0.2.length), .i 1 3 (by decide), .L c94_len a0.2 v9 1 1, .p (show (3 : Int) ≠ 0 from by decide), .i v9 (a0.2.length), .i 2 3 (by decide), .L c94_len a0.2 v9 2 1, .c [0, 1] (C82 (a0.1, a0.2) (a0.2.getD (toNat v9) default).2.1 (a0.2.getD (toNat v9) default).2.2 (by (try simp only [Lt]); omega) (by (try simp only [Lt]); omega))])
      cases h3 : (((F82 (a0.1, a0.2) (a0.2.getD (toNat v9) default).2.1 (a0.2.getD (toNat v9) default).2.2) : Int) != 1) with
      | true =>
       have q3 := bne_iff_ne.1 h3
       have e := Eq.refl (S50_4 a0 (v8, v9)); conv at e => rhs; simp only [S50_4, h0, h1, h2, h3, cdb]
       rw [loopF_s, e]
       exact rt (t3 ++ [.d h3]) [] [] hcx (by kernel_rfl)
      | false =>
       have q3 := bne_eq_false_iff_eq.1 h3
       let t4 : List (St Tryz.prog) := (t3 ++ [.d h3, .c [0, 1] (C82 (a0.1, a0.2) (a0.2.getD (toNat v9) default).2.2 (a0.2.getD (toNat v9) default).2.1 (by (try simp only [Lt]); omega) (by (try simp only [Lt]); omega))])
       cases h4 : (((F82 (a0.1, a0.2) (a0.2.getD (toNat v9) default).2.2 (a0.2.getD (toNat v9) default).2.1) : Int) != 1) with
       | true =>
        have q4 := bne_iff_ne.1 h4
        have e := Eq.refl (S50_4 a0 (v8, v9)); conv at e => rhs; simp only [S50_4, h0, h1, h2, h3, h4, cdb]
        rw [loopF_s, e]
        exact rt (t4 ++ [.d h4]) [] [] hcx (by kernel_rfl)
       | false =>
        have q4 := bne_eq_false_iff_eq.1 h4
        let t5 : List (St Tryz.prog) := (t4 ++ [.d h4, .u 0, .T, .i v9 (a0.2.length), .i 2 3 (by decide), .L c94_len a0.2 v9 2 1, .p (show (3 : Int) ≠ 0 from by decide), .i v9 (a0.2.length), .i 0 3 (by decide), .L c94_len a0.2 v9 0 1, .c [0, 1] (C82 (a0.1, a0.2) (a0.2.getD (toNat v9) default).2.2 (a0.2.getD (toNat v9) default).1 (by (try simp only [Lt]); omega) (by (try simp only [Lt]); omega))])
        cases h5 : (((F82 (a0.1, a0.2) (a0.2.getD (toNat v9) default).2.2 (a0.2.getD (toNat v9) default).1) : Int) != 1) with
        | true =>
         have q5 := bne_iff_ne.1 h5
         have e := Eq.refl (S50_4 a0 (v8, v9)); conv at e => rhs; simp only [S50_4, h0, h1, h2, h3, h4, h5, cdb]
         rw [loopF_s, e]
         exact rt (t5 ++ [.d h5]) [] [] hcx (by kernel_rfl)
        | false =>
         have q5 := bne_eq_false_iff_eq.1 h5
         let t6 : List (St Tryz.prog) := (t5 ++ [.d h5, .c [0, 1] (C82 (a0.1, a0.2) (a0.2.getD (toNat v9) default).1 (a0.2.getD (toNat v9) default).2.2 (by (try simp only [Lt]); omega) (by (try simp only [Lt]); omega))])
         cases h6 : (((F82 (a0.1, a0.2) (a0.2.getD (toNat v9) default).1 (a0.2.getD (toNat v9) default).2.2) : Int) != 1) with
         | true =>
          have q6 := bne_iff_ne.1 h6
          have e := Eq.refl (S50_4 a0 (v8, v9)); conv at e => rhs; simp only [S50_4, h0, h1, h2, h3, h4, h5, h6, cdb]
          rw [loopF_s, e]
          exact rt (t6 ++ [.d h6]) [] [] hcx (by kernel_rfl)
         | false =>
          have q6 := bne_eq_false_iff_eq.1 h6
          have e := Eq.refl (S50_4 a0 (v8, v9)); conv at e => rhs; simp only [S50_4, h0, h1, h2, h3, h4, h5, h6, cdb]
          rw [loopF_inl e]
          refine ba (t6 ++ [.d h6, .u 0, .F]) [] [1, 5, 9] [2, 3] hcx (m := n) B50_4 (K50_4) (st50_4 a0 (flat c4 v8) (v8.length) (W (v9 + 1))) (by kernel_rfl) ?_
          have z0 : (W (v9 + 1)) = (v9 + 1) := W_eq (by omega) (by omega)
          rw [z0]
          exact ih v8 (v9 + 1) (by refine ⟨?_, ?_, ?_, ?_, ?_⟩ <;> first | omega | assumption | exact okTo_0 | exact hi.2.1 | exact hi.2.2.1 | exact okTo_le hi.2.2.1 (by omega) | exact okTo_s hi.2.2.1 hfo | exact okTo_s hi.2.2.1 (by refine ⟨⟨?_, ?_⟩, ⟨?_, ?_⟩, ?_, ?_⟩ <;> omega) | (simp only [List.length_replicate, List.length_set]; omega)) (by (try simp only [Ls]); omega)
   | false =>
    have q0 := odf h0
    have e := Eq.refl (S50_4 a0 (v8, v9)); conv at e => rhs; simp only [S50_4, h0, cdb]
    rw [loopF_s, e]
    refine en [.d h0] [] [1, 5, 13] [2, 3] hcx B50_6 (K50_6) (st50_6 a0 (flat c4 v8) (v8.length) 0) (toNat ((v8.length : Int) - 0) + 1) (by kernel_rfl) ?_
    exact L50_6 a0 l0_1 l0_2 hcx (toNat ((v8.length : Int) - 0) + 1) v8 0 (by refine ⟨?_, ?_, ?_, ?_, ?_⟩ <;> first | omega | assumption | exact okTo_0 | exact hi.2.1 | exact hi.2.2.1 | exact okTo_le hi.2.2.1 (by omega) | exact okTo_s hi.2.2.1 hfo | exact okTo_s hi.2.2.1 (by refine ⟨⟨?_, ?_⟩, ⟨?_, ?_⟩, ?_, ?_⟩ <;> omega) | (simp only [List.length_replicate, List.length_set]; omega)) (by (try simp only [Ls]); omega)

theorem L50_2 (a0 : Zm) (l0_1 : a0.1.length ≤ 9223372036854775807) (l0_2 : a0.2.length ≤ 9223372036854775807) {cx : Cx} (hcx : cx.base = 2) : ∀ (n : Nat) (v5 : List (Bool)) (v6 : Int), (0 ≤ v6) ∧ (v5.length = a0.1.length) ∧ (okTo a0 v6) ∧ (v6 ≤ a0.2.length) ∧ (a0.1.length ≤ 64) ∧ (a0.2.length ≤ 96) → toNat ((a0.2.length : Int) - v6) < n → Aw.Good Tryz.prog none 9 (bodyPost Tryz.prog Tryz.f50 (RR cx (iv (loopF (S50_2 a0) n (v5, v6))) [] [])) cx [] (.l B50_2 n :: K50_2) (st50_2 a0 (flat c4 v5) v5.length v6) := by
 intro n
 induction n with
 | zero => intro v5 v6 hi hn; exact absurd hn (nlz _)
 | succ n ih =>
   intro v5 v6 hi hn
   refine good_round ?_
   cases h0 : (decide ((v6 : Int) < (a0.2.length : Int))) with
   | true =>
    have q0 := odt h0
    let t1 : List (St Tryz.prog) := [.d h0, .u 200, .T, .i v6 (a0.2.length), .i 0 3 (by decide), .L c94_len a0.2 v6 0 1]
    cases h1 : (decide (((a0.2.getD (toNat v6) default).1 : Int) < 0)) with
    | true =>
     have q1 := odt h1
     have e := Eq.refl (S50_2 a0 (v5, v6)); conv at e => rhs; simp only [S50_2, h0, h1, cdb]
     rw [loopF_s, e]
     exact rt (t1 ++ [.d h1]) [] [] hcx (by kernel_rfl)
    | false =>
     have q1 := odf h1
     let t2 : List (St Tryz.prog) := (t1 ++ [.d h1])
     cases h2 : (decide (((a0.2.getD (toNat v6) default).1 : Int) ≥ (a0.1.length : Int))) with
     | true =>
      have q2 := odt h2
      have e := Eq.refl (S50_2 a0 (v5, v6)); conv at e => rhs; simp only [S50_2, h0, h1, h2, cdb]
      rw [loopF_s, e]
      exact rt (t2 ++ [.d h2]) [] [] hcx (by kernel_rfl)
     | false =>
      have q2 := odf h2
      let t3 : List (St Tryz.prog) := (t2 ++ [.d h2, .i ((a0.2.getD (toNat v6) default).1) (v5.length), .p (show ((0 + toNat (a0.2.getD (toNat v6) default).1 * 1) + 1 ≤ (flat c4 v5).length) from (flat_setl c4_len (by first | omega | (simp only [Lt]; omega)) (o := 0) (Nb rfl))), .u 0, .T, .i v6 (a0.2.length), .i 1 3 (by decide), .L c94_len a0.2 v6 1 1])
      cases h3 : (decide (((a0.2.getD (toNat v6) default).2.1 : Int) < 0)) with
      | true =>
       have q3 := odt h3
       have e := Eq.refl (S50_2 a0 (v5, v6)); conv at e => rhs; simp only [S50_2, h0, h1, h2, h3, cdb]
       rw [loopF_s, e]
       exact rt (t3 ++ [.d h3]) [] [] hcx (by kernel_rfl)
      | false =>
       have q3 := odf h3
       let t4 : List (St Tryz.prog) := (t3 ++ [.d h3])
       cases h4 : (decide (((a0.2.getD (toNat v6) default).2.1 : Int) ≥ (a0.1.length : Int))) with
       | true =>
        have q4 := odt h4
        have e := Eq.refl (S50_2 a0 (v5, v6)); conv at e => rhs; simp only [S50_2, h0, h1, h2, h3, h4, cdb]
        rw [loopF_s, e]
        exact rt (t4 ++ [.d h4]) [] [] hcx (by kernel_rfl)
       | false =>
        have q4 := odf h4
        let t5 : List (St Tryz.prog) := (t4 ++ [.d h4, .i ((a0.2.getD (toNat v6) default).2.1) (v5.length), .p (show ((0 + toNat (a0.2.getD (toNat v6) default).2.1 * 1) + 1 ≤ (splice (flat c4 v5) (0 + toNat (a0.2.getD (toNat v6) default).1 * 1) [(.v (.bool true))]).length) from (by rw [show (splice (flat c4 v5) (0 + toNat (a0.2.getD (toNat v6) default).1 * 1) [(.v (.bool true))]) = flat c4 (v5.set (toNat (a0.2.getD (toNat v6) default).1) true) from (flat_set c4_len (by first | omega | (simp only [Lt]; omega)) (o := 0) (d := default) (Nb rfl) rfl)]; exact flat_setl c4_len (by first | omega | (simp only [Lt]; omega)) (o := 0) (Nb rfl))), .u 0, .T, .i v6 (a0.2.length), .i 2 3 (by decide), .L c94_len a0.2 v6 2 1])
        cases h5 : (decide (((a0.2.getD (toNat v6) default).2.2 : Int) < 0)) with
        | true =>
         have q5 := odt h5
         have e := Eq.refl (S50_2 a0 (v5, v6)); conv at e => rhs; simp only [S50_2, h0, h1, h2, h3, h4, h5, cdb]
         rw [loopF_s, e]
         exact rt (t5 ++ [.d h5]) [] [] hcx (by kernel_rfl)
        | false =>
         have q5 := odf h5
         let t6 : List (St Tryz.prog) := (t5 ++ [.d h5])
         cases h6 : (decide (((a0.2.getD (toNat v6) default).2.2 : Int) ≥ (a0.1.length : Int))) with
         | true =>
          have q6 := odt h6
          have e := Eq.refl (S50_2 a0 (v5, v6)); conv at e => rhs; simp only [S50_2, h0, h1, h2, h3, h4, h5, h6, cdb]
          rw [loopF_s, e]
          exact rt (t6 ++ [.d h6]) [] [] hcx (by kernel_rfl)
         | false =>
          have q6 := odf h6
          let t7 : List (St Tryz.prog) := (t6 ++ [.d h6, .i ((a0.2.getD (toNat v6) default).2.2) (v5.length), .p (show ((0 + toNat (a0.2.getD (toNat v6) default).2.2 * 1) + 1 ≤ (splice (splice (flat c4 v5) (0 + toNat (a0.2.getD (toNat v6) default).1 * 1) [(.v (.bool true))]) (0 + toNat (a0.2.getD (toNat v6) default).2.1 * 1) [(.v (.bool true))]).length) from (by rw [show (splice (splice (flat c4 v5) (0 + toNat (a0.2.getD (toNat v6) default).1 * 1) [(.v (.bool true))]) (0 + toNat (a0.2.getD (toNat v6) default).2.1 * 1) [(.v (.bool true))]) = flat c4 ((v5.set (toNat (a0.2.getD (toNat v6) default).1) true).set (toNat (a0.2.getD (toNat v6) default).2.1) true) from (by rw [show (splice (flat c4 v5) (0 + toNat (a0.2.getD (toNat v6) default).1 * 1) [(.v (.bool true))]) = flat c4 (v5.set (toNat (a0.2.getD (toNat v6) default).1) true) from (flat_set c4_len (by first | omega | (simp only [Lt]; omega)) (o := 0) (d := default) (Nb rfl) rfl)]; exact flat_set c4_len (by first | omega | (simp only [Lt]; omega)) (o := 0) (d := default) (Nb rfl) rfl)]; exact flat_setl c4_len (by first | omega | (simp only [Lt]; omega)) (o := 0) (Nb rfl))), .u 0, .F, .c [0, 1] (C81 (a0.1, a0.2) v6 (by (try simp only [Lt]); omega) (by (try simp only [Lt]); omega) (by show 0 ≤ _ ∧ _ < (a0.2.length : Int); omega) (by show inF a0.1.length (a0.2.getD _ default); refine ⟨⟨?_, ?_⟩, ⟨?_, ?_⟩, ?_, ?_⟩ <;> omega)), .c [] (C80 (F81 (a0.1, a0.2) v6))])
          cases h7 : ((((F80 (F81 (a0.1, a0.2) v6)).1 : Int) == 0) && ((((F80 (F81 (a0.1, a0.2) v6)).2.1 : Int) == 0) && ((((F80 (F81 (a0.1, a0.2) v6)).2.2 : Int) == 0) && true))) with
          | true =>
           have e := Eq.refl (S50_2 a0 (v5, v6)); conv at e => rhs; simp only [S50_2, h0, h1, h2, h3, h4, h5, h6, h7, cdb]
           rw [loopF_s, e]
           exact rt (t7 ++ [.d h7]) [] [] hcx (by kernel_rfl)
          | false =>
           have e := Eq.refl (S50_2 a0 (v5, v6)); conv at e => rhs; simp only [S50_2, h0, h1, h2, h3, h4, h5, h6, h7, cdb]
           rw [loopF_inl e]
           refine ba (t7 ++ [.d h7]) [] [1, 5, 6] [2, 3] hcx (m := n) B50_2 (K50_2) (st50_2 a0 (splice (splice (splice (flat c4 v5) (0 + toNat (a0.2.getD (toNat v6) default).1 * 1) [(.v (.bool true))]) (0 + toNat (a0.2.getD (toNat v6) default).2.1 * 1) [(.v (.bool true))]) (0 + toNat (a0.2.getD (toNat v6) default).2.2 * 1) [(.v (.bool true))]) (v5.length) (W (v6 + 1))) (by kernel_rfl) ?_
           have z0 : (W (v6 + 1)) = (v6 + 1) := W_eq (by omega) (by omega)
           have z1 : (splice (splice (splice (flat c4 v5) (0 + toNat (a0.2.getD (toNat v6) default).1 * 1) [(.v (.bool true))]) (0 + toNat (a0.2.getD (toNat v6) default).2.1 * 1) [(.v (.bool true))]) (0 + toNat (a0.2.getD (toNat v6) default).2.2 * 1) [(.v (.bool true))]) = flat c4 (((v5.set (toNat (a0.2.getD (toNat v6) default).1) true).set (toNat (a0.2.getD (toNat v6) default).2.1) true).set (toNat (a0.2.getD (toNat v6) default).2.2) true) := (by rw [show (splice (splice (flat c4 v5) (0 + toNat (a0.2.getD (toNat v6) default).1 * 1) [(.v (.bool true))]) (0 + toNat (a0.2.getD (toNat v6) default).2.1 * 1) [(.v (.bool true))]) = flat c4 ((v5.set (toNat (a0.2.getD (toNat v6) default).1) true).set (toNat (a0.2.getD (toNat v6) default).2.1) true) from (by rw [show (splice (flat c4 v5) (0 + toNat (a0.2.getD (toNat v6) default).1 * 1) [(.v (.bool true))]) = flat c4 (v5.set (toNat (a0.2.getD (toNat v6) default).1) true) from (flat_set c4_len (by first | omega | (simp only [Lt]; omega)) (o := 0) (d := default) (Nb rfl) rfl)]; exact flat_set c4_len (by first | omega | (simp only [Lt]; omega)) (o := 0) (d := default) (Nb rfl) rfl)]; exact flat_set c4_len (by first | omega | (simp only [Lt]; omega)) (o := 0) (d := default) (Nb rfl) rfl)
           have z2 : v5.length = (((v5.set (toNat (a0.2.getD (toNat v6) default).1) true).set (toNat (a0.2.getD (toNat v6) default).2.1) true).set (toNat (a0.2.getD (toNat v6) default).2.2) true).length := by simp
           rw [z0, z1, z2]
           exact ih (((v5.set (toNat (a0.2.getD (toNat v6) default).1) true).set (toNat (a0.2.getD (toNat v6) default).2.1) true).set (toNat (a0.2.getD (toNat v6) default).2.2) true) (v6 + 1) (by refine ⟨?_, ?_, ?_, ?_, ?_, ?_⟩ <;> first | omega | assumption | exact okTo_0 | exact hi.2.1 | exact hi.2.2.1 | exact okTo_le hi.2.2.1 (by omega) | exact okTo_s hi.2.2.1 hfo | exact okTo_s hi.2.2.1 (by refine ⟨⟨?_, ?_⟩, ⟨?_, ?_⟩, ?_, ?_⟩ <;> omega) | (simp only [List.length_replicate, List.length_set]; omega)) (by (try simp only [Ls]); omega)
   | false =>
    have q0 := odf h0
    have e := Eq.refl (S50_2 a0 (v5, v6)); conv at e => rhs; simp only [S50_2, h0, cdb]
    rw [loopF_s, e]
    refine en [.d h0] [] [1, 5, 9] [2, 3] hcx B50_4 (K50_4) (st50_4 a0 (flat c4 v5) (v5.length) 0) (toNat ((a0.2.length : Int) - 0) + 1) (by kernel_rfl) ?_
    exact L50_4 a0 l0_1 l0_2 hcx (toNat ((a0.2.length : Int) - 0) + 1) v5 0 (by refine ⟨?_, ?_, ?_, ?_, ?_⟩ <;> first | omega | assumption | exact okTo_0 | exact hi.2.1 | exact hi.2.2.1 | exact okTo_le hi.2.2.1 (by omega) | exact okTo_s hi.2.2.1 hfo | exact okTo_s hi.2.2.1 (by refine ⟨⟨?_, ?_⟩, ⟨?_, ?_⟩, ?_, ?_⟩ <;> omega) | (simp only [List.length_replicate, List.length_set]; omega)) (by (try simp only [Ls]); omega)

theorem L50_0 (a0 : Zm) (l0_1 : a0.1.length ≤ 9223372036854775807) (l0_2 : a0.2.length ≤ 9223372036854775807) {cx : Cx} (hcx : cx.base = 2) : ∀ (n : Nat) (v1 : Int), (0 ≤ v1) ∧ (a0.1.length ≤ 64) ∧ (a0.2.length ≤ 96) → toNat ((a0.1.length : Int) - v1) < n → Aw.Good Tryz.prog none 9 (bodyPost Tryz.prog Tryz.f50 (RR cx (iv (loopF (S50_0 a0) n v1)) [] [])) cx [] (.l B50_0 n :: K50_0) (st50_0 a0 v1) := by
 intro n
 induction n with
 | zero => intro v1 hi hn; exact absurd hn (nlz _)
 | succ n ih =>
   intro v1 hi hn
   refine good_round ?_
   cases h0 : (decide ((v1 : Int) < (a0.1.length : Int))) with
   | true =>
    have q0 := odt h0
    let t1 : List (St Tryz.prog) := [.d h0, .i v1 (a0.1.length), .L c30_len a0.1 v1 0 3, .c [] (C79 (a0.1.getD (toNat v1) default) 64)]
    cases h1 : (!(F79 (a0.1.getD (toNat v1) default) 64)) with
    | true =>
     have e := Eq.refl (S50_0 a0 v1); conv at e => rhs; simp only [S50_0, h0, h1, cdb]
     rw [loopF_s, e]
     exact rt (t1 ++ [.d h1]) [] [] hcx (by kernel_rfl)
    | false =>
     have e := Eq.refl (S50_0 a0 v1); conv at e => rhs; simp only [S50_0, h0, h1, cdb]
     rw [loopF_s, e]
     refine en (t1 ++ [.d h1]) [] [1, 3, 4] [2] hcx B50_1 (K50_1 n) (st50_1 a0 v1 0) (toNat (v1 - 0) + 1) (by kernel_rfl) ?_
     exact L50_1 a0 l0_1 l0_2 hcx n ih (toNat (v1 - 0) + 1) v1 0 (by refine ⟨?_, ?_, ?_, ?_, ?_, ?_⟩ <;> (try simp only [Ls]) <;> first | omega | assumption | exact hi.2.1 | exact hi.2.2.1 | exact hi.2.2.2.1 | exact hi.2.2.2.2.1 | exact hi.2.2.2.2.2.1 | simp) (by (try simp only [Ls]); omega)
   | false =>
    have q0 := odf h0
    have e := Eq.refl (S50_0 a0 v1); conv at e => rhs; simp only [S50_0, h0, cdb]
    rw [loopF_s, e]
    refine en [.d h0, .Z c4 false [(.v (.bool false))] (a0.1.length : Int) 1] [] [1, 5, 6] [2, 3] hcx B50_2 (K50_2) (st50_2 a0 (flat c4 (List.replicate (toNat (a0.1.length : Int)) false)) (toNat (a0.1.length : Int)) 0) (toNat ((a0.2.length : Int) - 0) + 1) (by kernel_rfl) ?_
    have q := L50_2 a0 l0_1 l0_2 hcx (toNat ((a0.2.length : Int) - 0) + 1) (List.replicate (toNat (a0.1.length : Int)) false) 0 (by refine ⟨?_, ?_, ?_, ?_, ?_, ?_⟩ <;> first | omega | assumption | exact okTo_0 | exact hi.2.1 | exact hi.2.2.1 | exact okTo_le hi.2.2.1 (by omega) | exact okTo_s hi.2.2.1 hfo | exact okTo_s hi.2.2.1 (by refine ⟨⟨?_, ?_⟩, ⟨?_, ?_⟩, ?_, ?_⟩ <;> omega) | (simp only [List.length_replicate, List.length_set]; omega)) (by (try simp only [Ls]); omega)
    simp only [List.length_replicate] at q
    exact q

def F50 (a0 : Zm) : Int :=
 (bif (decide (((a0.1.length : Int) : Int) > 64)) then
  4
 else
  (bif (!(F78 (a0.2.length : Int) 1 96)) then
   4
  else
   (loopF (S50_0 a0) (toNat ((a0.1.length : Int) - 0) + 1) 0)))

theorem C50 (a0 : Zm) (l0_1 : a0.1.length ≤ 9223372036854775807) (l0_2 : a0.2.length ≤ 9223372036854775807) : Con Tryz.prog 50 [(.a [(.s 0 0 a0.1.length 3), (.s 1 0 a0.2.length 3)])] [(.live false true (flat c30 a0.1)), (.live false true (flat c94 a0.2))] (iv (F50 a0)) [] := by
 refine con_s Tryz.func50 (by kernel_rfl) fun cx hcx => ?_
 try have hl96 := win_p2 h1
 cases h0 : (decide (((a0.1.length : Int) : Int) > 64)) with
 | true =>
  have q0 := odt h0
  try have hl96 := win_p2 h1
  have e := Eq.refl (F50 a0); conv at e => rhs; simp only [F50, h0, cdb]
  rw [e]
  exact rt [.d h0] [] [] hcx (by kernel_rfl)
 | false =>
  have q0 := odf h0
  try have hl96 := win_p2 h1
  let t1 : List (St Tryz.prog) := [.d h0, .c [] (C78 (a0.2.length : Int) 1 96)]
  cases h1 : (!(F78 (a0.2.length : Int) 1 96)) with
  | true =>
   try have hl96 := win_p2 h1
   have e := Eq.refl (F50 a0); conv at e => rhs; simp only [F50, h0, h1, cdb]
   rw [e]
   exact rt (t1 ++ [.d h1]) [] [] hcx (by kernel_rfl)
  | false =>
   try have hl96 := win_p2 h1
   have e := Eq.refl (F50 a0); conv at e => rhs; simp only [F50, h0, h1, cdb]
   rw [e]
   refine en (t1 ++ [.d h1]) [] [1, 3] [2] hcx B50_0 (K50_0) (st50_0 a0 0) (toNat ((a0.1.length : Int) - 0) + 1) (by kernel_rfl) ?_
   exact L50_0 a0 l0_1 l0_2 hcx (toNat ((a0.1.length : Int) - 0) + 1) 0 (by refine ⟨?_, ?_, ?_⟩ <;> (try simp only [Ls]) <;> first | omega | assumption | simp) (by (try simp only [Ls]); omega)


section
variable {α β : Type} [DecidableEq α]
theorem mget_cons (e : α × β) (l : List (α × β)) (k : α) (d : β) : mget (e :: l) k d = if e.1 = k then e.2 else mget l k d := by
 unfold mget
 simp only [mfind]
 by_cases h : e.1 = k
 · rw [if_pos h, if_pos h]
 · rw [if_neg h, if_neg h]
   cases mfind k l <;> rfl
theorem mput_cons (e : α × β) (l : List (α × β)) (k : α) (v : β) : mput (e :: l) k v = if e.1 = k then (k, v) :: l else e :: mput l k v := by
 unfold mput
 simp only [mfind]
 by_cases h : e.1 = k
 · rw [if_pos h, if_pos h]; rfl
 · rw [if_neg h, if_neg h]
   cases mfind k l <;> rfl
theorem mget_put : ∀ (l : List (α × β)) (k k' : α) (v d : β), mget (mput l k v) k' d = if k = k' then v else mget l k' d
 | [], k, k', v, d => by
   show mget [(k, v)] k' d = _
   rw [mget_cons]
 | e :: l, k, k', v, d => by
   rw [mput_cons]
   by_cases h : e.1 = k
   · rw [if_pos h, mget_cons, mget_cons]
     by_cases h' : k = k'
     · rw [if_pos h', if_pos h']
     · rw [if_neg h', if_neg h', if_neg (fun x => h' (h ▸ x))]
   · rw [if_neg h, mget_cons, mget_cons, mget_put l k k' v d]
     by_cases h' : k = k'
     · rw [if_neg (fun x => h (x.trans h'.symm)), if_pos h', if_pos h']
     · rw [if_neg h', if_neg h']
theorem mget_nil (k : α) (d : β) : mget ([] : List (α × β)) k d = d := rfl
end
theorem loopF_eq {S R : Type} [Inhabited R] {f g : S → S ⊕ R} (I : S → Prop) (hI : ∀ s, I s → f s = g s) (hp : ∀ s s', I s → f s = .inl s' → I s') : ∀ (n : Nat) (s : S), I s → loopF f n s = loopF g n s := by
 intro n
 induction n with
 | zero => intro s _; rfl
 | succ n ih =>
   intro s hs
   have e := hI s hs
   cases h : f s with
   | inl s' => rw [loopF_inl h, loopF_inl (e ▸ h)]; exact ih s' (hp s s' hs h)
   | inr r => rw [loopF_inr h, loopF_inr (e ▸ h)]
theorem foldE_inl {α σ R : Type} (g : σ → α → σ) : ∀ (l : List α) (v : σ), foldE (R := R) (fun v c => .inl (g v c)) l v = .inl (l.foldl g v)
 | [], _ => rfl
 | c :: l, v => by simp only [foldE, List.foldl_cons]; exact foldE_inl g l (g v c)
theorem getD_of {α : Type} [Inhabited α] {L : List α} {i : Nat} {c : α} (h : L[i]? = some c) : L.getD (toNat (i : Int)) default = c := by
 rw [itn, gdq, h]; rfl
abbrev ME := List P3 × List P3
def tri (f : P3) (p q : Int) : Int := (if f.1 = p ∧ f.2.1 = q then 1 else 0) + (if f.2.1 = p ∧ f.2.2 = q then 1 else 0) + (if f.2.2 = p ∧ f.1 = q then 1 else 0)
def cnt : List P3 → Int → Int → Int
 | [], _, _ => 0
 | f :: l, p, q => tri f p q + cnt l p q
theorem tri_bd (f : P3) (p q : Int) : 0 ≤ tri f p q ∧ tri f p q ≤ 3 := by unfold tri; split <;> split <;> split <;> omega
theorem ite_b (a b c d : Int) : (if a = b ∧ c = d then (1 : Int) else 0) = bif (a == b) && (c == d) then 1 else 0 := by
 rcases Decidable.em (a = b) with h1 | h1 <;> rcases Decidable.em (c = d) with h2 | h2
 · rw [if_pos ⟨h1, h2⟩, beq_iff_eq.2 h1, beq_iff_eq.2 h2]; rfl
 · rw [if_neg (fun h => h2 h.2), beq_eq_false_iff_ne.2 h2, Bool.and_false]; rfl
 · rw [if_neg (fun h => h1 h.1), beq_eq_false_iff_ne.2 h1]; rfl
 · rw [if_neg (fun h => h1 h.1), beq_eq_false_iff_ne.2 h1]; rfl
theorem edg_f (m : ME) (h : m.2.length ≤ 96) (p q : Int) : F82 m p q = cnt m.2 p q := by
 unfold F82
 rw [each_loop (fun v i => (v, i)) (fun v c => .inl (v + tri c p q)) (fun v => v) (L := m.2) (fun i v => 0 ≤ v ∧ v ≤ 3 * (i : Int)) ?_ ?_ ?_ (by omega) ⟨by omega, by omega⟩]
 · have key : ∀ (l : List P3) (v : Int), l.foldl (fun v c => v + tri c p q) v = v + cnt l p q := by
     intro l
     induction l with
     | nil => intro v; simp [cnt]
     | cons c l ih => intro v; rw [List.foldl_cons, ih]; simp only [cnt]; omega
   rw [foldE_inl, key]; simp [outE]
 · intro i c hc v hv
   obtain ⟨hlt, hce⟩ := List.getElem?_eq_some_iff.1 hc
   have w1 : W (v + 1) = v + 1 := W_eq (by omega) (by omega)
   have w2 : W (v + 1 + 1) = v + 1 + 1 := W_eq (by omega) (by omega)
   have w3 : W (v + 1 + 1 + 1) = v + 1 + 1 + 1 := W_eq (by omega) (by omega)
   simp only [S82_0]
   rw [dqt (by omega), cond_true, getD_of hc]
   unfold tri
   rw [ite_b, ite_b, ite_b]
   generalize (c.1 == p) = b1, (c.2.1 == q) = b2, (c.2.1 == p) = b3, (c.2.2 == q) = b4, (c.2.2 == p) = b5, (c.1 == q) = b6
   have fin : ∀ {a b : Int}, a = b → (Sum.inl (a, (i : Int) + 1) : (Int × Int) ⊕ Int) = Sum.inl (b, ((i + 1 : Nat) : Int)) := fun h => by rw [h]; rfl
   cases b1 <;> cases b2 <;> cases b3 <;> cases b4 <;> cases b5 <;> cases b6 <;> simp only [Bool.and_true, Bool.and_false, Bool.and_self, cond_true, cond_false, w1, w2, w3] <;> exact fin (by omega)
 · intro i c hc v v' hv e
   have := tri_bd c p q
   obtain rfl := Sum.inl.inj e
   omega
 · intro v _
   simp only [S82_0]
   rw [dqf (by omega), cond_false]
def incM (v : List ((Int × Int) × Int)) (s : Int × Int) : List ((Int × Int) × Int) := mput v s (W (mget v s 0 + 1))
def put3 (v : List ((Int × Int) × Int)) (f : P3) : List ((Int × Int) × Int) := incM (incM (incM v (F71 f).1) (F71 f).2.1) (F71 f).2.2
theorem inc_get {v : List ((Int × Int) × Int)} {s : Int × Int} (t : Int × Int) (h : 0 ≤ mget v s 0 ∧ mget v s 0 ≤ 1000) : mget (incM v s) t 0 = mget v t 0 + (if s = t then 1 else 0) := by
 unfold incM
 rw [mget_put, W_eq (by omega) (by omega)]
 by_cases e : s = t
 · subst e; rw [if_pos rfl, if_pos rfl]
 · rw [if_neg e, if_neg e]; omega
theorem put3_get {v : List ((Int × Int) × Int)} {B : Int} (hB : ∀ t, 0 ≤ mget v t 0 ∧ mget v t 0 ≤ B) (hb : B ≤ 900) (f : P3) (t : Int × Int) : mget (put3 v f) t 0 = mget v t 0 + tri f t.1 t.2 := by
 have g1 : ∀ t, mget (incM v (F71 f).1) t 0 = mget v t 0 + (if (F71 f).1 = t then 1 else 0) := fun t => inc_get t (by have := hB (F71 f).1; omega)
 have b1 : ∀ t, 0 ≤ mget (incM v (F71 f).1) t 0 ∧ mget (incM v (F71 f).1) t 0 ≤ B + 1 := fun t => by rw [g1]; have := hB t; split <;> omega
 have g2 : ∀ t, mget (incM (incM v (F71 f).1) (F71 f).2.1) t 0 = mget (incM v (F71 f).1) t 0 + (if (F71 f).2.1 = t then 1 else 0) := fun t => inc_get t (by have := b1 (F71 f).2.1; omega)
 have b2 : ∀ t, 0 ≤ mget (incM (incM v (F71 f).1) (F71 f).2.1) t 0 ∧ mget (incM (incM v (F71 f).1) (F71 f).2.1) t 0 ≤ B + 2 := fun t => by rw [g2]; have := b1 t; split <;> omega
 unfold put3
 rw [inc_get t (by have := b2 (F71 f).2.2; omega), g2, g1]
 unfold tri F71
 simp only [Prod.ext_iff]
 omega
theorem cnt_get : ∀ (l : List P3) (v : List ((Int × Int) × Int)) (B : Int), (∀ t, 0 ≤ mget v t 0 ∧ mget v t 0 ≤ B) → B + 3 * l.length ≤ 900 → ∀ t : Int × Int, mget (l.foldl put3 v) t 0 = mget v t 0 + cnt l t.1 t.2
 | [], v, B, _, _, t => by simp [cnt]
 | f :: l, v, B, hB, hb, t => by
   simp only [List.length_cons] at hb
   have g := put3_get hB (by omega) f
   rw [List.foldl_cons, cnt_get l (put3 v f) (B + 3) (fun t => by rw [g]; have := hB t; have := tri_bd f t.1 t.2; omega) (by omega) t, g]
   simp only [cnt]; omega
theorem ctd_f (m : ME) : F70 m = m.2.foldl put3 [] := by
 unfold F70
 rw [each_loop (fun v i => (v, i)) (fun v c => .inl (put3 v c)) (fun v => v) (L := m.2) (fun _ _ => True) ?_ (fun _ _ _ _ _ _ _ => trivial) ?_ (by omega) trivial]
 · rw [foldE_inl]; rfl
 · intro i c hc v _
   obtain ⟨hlt, hce⟩ := List.getElem?_eq_some_iff.1 hc
   simp only [S70_0]
   rw [dqt (by omega), cond_true, getD_of hc]
   rfl
 · intro v _
   simp only [S70_0]
   rw [dqf (by omega), cond_false]
theorem cget (m : ME) (h : m.2.length ≤ 96) (t : Int × Int) : mget (F70 m) t 0 = cnt m.2 t.1 t.2 := by
 rw [ctd_f, cnt_get m.2 [] 0 (fun t => by rw [mget_nil]; omega) (by omega) t, mget_nil]; omega
theorem W_neg (x y : Int) : W (x + W (-1 * y)) = W (x - y) := by
 rw [W_def (-1 * y)]
 split <;> rw [W_def, W_def] <;> split <;> split <;> omega
theorem min_eq (a b : P3) : F131 a b = F105 a b := by
 unfold F131 F39 F105
 simp only [W_neg]
theorem nrm_eq (p : PN) : F100 p = F80 p := by
 unfold F100 F80
 rw [min_eq, min_eq]; rfl
theorem vol_a (m : ME) : F73 m = m.2.foldl (fun v c => W (v + F103 (F101 m c))) 0 := by
 unfold F73
 rw [each_loop (fun v i => (v, i)) (fun v c => .inl (W (v + F103 c))) (fun v => v) (L := F102 m) (fun _ _ => True) ?_ (fun _ _ _ _ _ _ _ => trivial) ?_ (by show _ < toNat ((((F102 m).length : Nat) : Int) - 0) + 1; omega) trivial]
 · rw [foldE_inl, pnl_map, List.foldl_map]; rfl
 · intro i c hc v _
   obtain ⟨hlt, hce⟩ := List.getElem?_eq_some_iff.1 hc
   simp only [S73_0]
   rw [dqt (show ((i : Nat) : Int) < (((F102 (m.1, m.2)).length : Nat) : Int) from by show ((i : Nat) : Int) < (((F102 m).length : Nat) : Int); omega), cond_true, show (F102 (m.1, m.2)).getD (toNat (i : Int)) default = c from getD_of hc]
   rfl
 · intro v _
   simp only [S73_0]
   rw [dqf (show ¬ (((F102 m).length : Nat) : Int) < (((F102 (m.1, m.2)).length : Nat) : Int) from by show ¬ (((F102 m).length : Nat) : Int) < (((F102 m).length : Nat) : Int); omega), cond_false]
theorem vol_b (m : ME) : F83 m = m.2.foldl (fun v c => W (v + F103 (F101 m c))) 0 := by
 unfold F83
 rw [each_loop (fun v i => (v, i)) (fun v c => .inl (W (v + F103 (F101 m c)))) (fun v => v) (L := m.2) (fun _ _ => True) ?_ (fun _ _ _ _ _ _ _ => trivial) ?_ (by omega) trivial]
 · rw [foldE_inl]; rfl
 · intro i c hc v _
   obtain ⟨hlt, hce⟩ := List.getElem?_eq_some_iff.1 hc
   simp only [S83_0]
   have hp : F81 (m.1, m.2) (i : Int) = F101 m c := by
     unfold F81
     simp only [getD_of hc]; rfl
   rw [dqt (by omega), cond_true, hp]
   rfl
 · intro v _
   simp only [S83_0]
   rw [dqf (by omega), cond_false]
theorem vol_eq (m : ME) : F73 m = F83 m := by rw [vol_a, vol_b]
theorem usd_eq (m : ME) : ∀ (n : Nat) (v : List Bool) (i : Int), 0 ≤ i → loopF (S35_4 m) n (v, (v.length : Int), i) = loopF (S50_6 m) n (v, i) := by
 intro n
 induction n with
 | zero => intro v i _; rfl
 | succ n ih =>
   intro v i hi
   by_cases h : i < (v.length : Int)
   · cases hb : v.getD (toNat i) default with
     | true =>
       have e1 : S35_4 m (v, (v.length : Int), i) = .inl (v, (v.length : Int), i + 1) := by
         simp only [S35_4]; rw [dqt h, cond_true, hb]; rfl
       have e2 : S50_6 m (v, i) = .inl (v, i + 1) := by
         simp only [S50_6]; rw [dqt h, cond_true, hb]; rfl
       rw [loopF_inl e1, loopF_inl e2]; exact ih v (i + 1) (by omega)
     | false =>
       have e1 : S35_4 m (v, (v.length : Int), i) = .inr 5 := by
         simp only [S35_4]; rw [dqt h, cond_true, hb]; rfl
       have e2 : S50_6 m (v, i) = .inr 5 := by
         simp only [S50_6]; rw [dqt h, cond_true, hb]; rfl
       rw [loopF_inr e1, loopF_inr e2]
   · have e1 : S35_4 m (v, (v.length : Int), i) = .inr (bif decide (F83 m ≤ 0) then 8 else 0) := by
       simp only [S35_4]; rw [dqf h, cond_false, show F73 (m.1, m.2) = F83 m from vol_eq m]
       cases decide (F83 m ≤ 0) <;> rfl
     have e2 : S50_6 m (v, i) = .inr (bif decide (F83 m ≤ 0) then 8 else 0) := by
       simp only [S50_6]; rw [dqf h, cond_false, show F83 (m.1, m.2) = F83 m from rfl]
       cases decide (F83 m ≤ 0) <;> rfl
     rw [loopF_inr e1, loopF_inr e2]
theorem opn_eq (m : ME) (h : m.2.length ≤ 96) (n : Nat) (v : List Bool) : loopF (S35_2 m) n (v, 0) = loopF (S50_4 m) n (v, 0) := by
 refine loopF_eq (fun s => 0 ≤ s.2) (fun s hs => ?_) (fun s s' hs e => ?_) n (v, 0) (Int.le_refl 0)
 · obtain ⟨v, i⟩ := s
   simp only at hs
   simp only [S35_2, S50_4]
   rw [usd_eq m _ v 0 (Int.le_refl 0)]
   have hc : ∀ t, mget (F70 (m.1, m.2)) t 0 = cnt m.2 t.1 t.2 := cget m h
   have he : ∀ p q, F82 (m.1, m.2) p q = cnt m.2 p q := edg_f m h
   simp only [hc, he, F71, F72]
 · obtain ⟨v, i⟩ := s
   simp only [S35_2] at e
   by_cases hlt : i < (m.2.length : Int)
   · rw [dqt hlt, cond_true] at e
     simp only at hs
     have step : ∀ (b : Bool) (x y : (List Bool × Int) ⊕ Int), (bif b then x else y) = .inl s' → (∀ r, x ≠ .inl r) → y = .inl s' := fun b x y h hx => by
       cases b
       · exact h
       · exact absurd h (hx s')
     have e := step _ _ _ e (fun r h => by cases h)
     have e := step _ _ _ e (fun r h => by cases h)
     have e := step _ _ _ e (fun r h => by cases h)
     have e := step _ _ _ e (fun r h => by cases h)
     have e := step _ _ _ e (fun r h => by cases h)
     have e := step _ _ _ e (fun r h => by cases h)
     obtain rfl := Sum.inl.inj e
     show 0 ≤ i + 1
     omega
   · rw [dqf hlt, cond_false] at e; cases e
theorem from_in {n : Nat} (x : Int) (h : n ≤ 64) : (!F43 x 0 (W (((n : Nat) : Int) - 1))) = (decide (x < 0) || decide (x ≥ ((n : Nat) : Int))) := by
 rw [W_eq (by omega) (by omega)]
 unfold F43
 by_cases h1 : x < 0
 · rw [dqt h1, dqf (by omega)]; rfl
 · rw [dqf h1, dqt (by omega), cond_true]
   by_cases h2 : x ≥ ((n : Nat) : Int)
   · rw [dqt h2, dqf (by omega)]; rfl
   · rw [dqf h2, dqt (by omega)]; rfl
theorem fac_eq (m : ME) (h64 : m.1.length ≤ 64) (h : m.2.length ≤ 96) (n : Nat) (v : List Bool) : loopF (S35_0 m) n (v, 0) = loopF (S50_2 m) n (v, 0) := by
 have main : ∀ s : List Bool × Int, 0 ≤ s.2 → S35_0 m s = S50_2 m s ∧ ∀ s', S35_0 m s = .inl s' → 0 ≤ s'.2 := by
   rintro ⟨v, i⟩ hs
   simp only at hs
   simp only [S35_0, S50_2]
   rw [opn_eq m h _ v]
   have hp : F81 (m.1, m.2) i = F101 (m.1, m.2) (m.2.getD (toNat i) default) := rfl
   rw [hp]
   unfold F69
   simp only [from_in _ h64, nrm_eq]
   generalize m.2.getD (toNat i) default = c
   generalize F80 (F101 (m.1, m.2) c) = q
   generalize ((q.1 == 0) && ((q.2.1 == 0) && ((q.2.2 == 0) && true))) = b7
   generalize decide (c.1 < 0) = b1, decide (c.1 ≥ (m.1.length : Int)) = b2, decide (c.2.1 < 0) = b3, decide (c.2.1 ≥ (m.1.length : Int)) = b4, decide (c.2.2 < 0) = b5, decide (c.2.2 ≥ (m.1.length : Int)) = b6, decide (i < (m.2.length : Int)) = b0
   cases b0
   case false => exact ⟨rfl, fun s' e => by cases e⟩
   cases b1
   case true => exact ⟨rfl, fun s' e => by cases e⟩
   cases b2
   case true => exact ⟨rfl, fun s' e => by cases e⟩
   cases b3
   case true => exact ⟨rfl, fun s' e => by cases e⟩
   cases b4
   case true => exact ⟨rfl, fun s' e => by cases e⟩
   cases b5
   case true => exact ⟨rfl, fun s' e => by cases e⟩
   cases b6
   case true => exact ⟨rfl, fun s' e => by cases e⟩
   cases b7
   case true => exact ⟨rfl, fun s' e => by cases e⟩
   exact ⟨rfl, fun s' e => by obtain rfl := Sum.inl.inj e; show 0 ≤ i + 1; omega⟩
 exact loopF_eq (fun s => 0 ≤ s.2) (fun s hs => (main s hs).1) (fun s s' hs e => (main s hs).2 s' e) n (v, 0) (Int.le_refl 0)
theorem eq_b (a b : P3) : (((a.1 : Int) == b.1) && (((a.2.1 : Int) == b.2.1) && (((a.2.2 : Int) == b.2.2) && true))) = decide (a = b) := by
 rw [Bool.eq_iff_iff]
 simp only [Bool.and_eq_true, beq_iff_eq, and_true, decide_eq_true_eq, Prod.ext_iff]
theorem inn_t (m : ME) (i : Nat) : ∀ (n k : Nat), i - k < n → (∃ j, k ≤ j ∧ j < i ∧ m.1.getD j default = m.1.getD i default) → loopF (S50_1 m) n ((i : Int), (k : Int)) = .inr 1 := by
 intro n
 induction n with
 | zero => intro k hk; omega
 | succ n ih =>
   intro k hk ⟨j, h1, h2, h3⟩
   by_cases e : m.1.getD i default = m.1.getD k default
   · refine loopF_inr ?_
     simp only [S50_1]
     rw [dqt (by omega), cond_true, itn, itn, eq_b, dqt e]; rfl
   · have h : S50_1 m ((i : Int), (k : Int)) = .inl ((i : Int), ((k + 1 : Nat) : Int)) := by
       simp only [S50_1]
       rw [dqt (by omega), cond_true, itn, itn, eq_b, dqf e]; rfl
     rw [loopF_inl h]
     have : j ≠ k := fun x => e (x ▸ h3.symm)
     exact ih (k + 1) (by omega) ⟨j, by omega, h2, h3⟩
theorem inn_f (m : ME) (i : Nat) : ∀ (n k : Nat), k ≤ i → i - k < n → (∀ j, k ≤ j → j < i → m.1.getD j default ≠ m.1.getD i default) → loopF (S50_1 m) n ((i : Int), (k : Int)) = .inl ((i : Int) + 1) := by
 intro n
 induction n with
 | zero => intro k _ hk; omega
 | succ n ih =>
   intro k hki hk hj
   by_cases hlt : k < i
   · have h : S50_1 m ((i : Int), (k : Int)) = .inl ((i : Int), ((k + 1 : Nat) : Int)) := by
       simp only [S50_1]
       rw [dqt (by omega), cond_true, itn, itn, eq_b, dqf (fun e => hj k (Nat.le_refl k) hlt e.symm)]; rfl
     rw [loopF_inl h]
     exact ih (k + 1) (by omega) (by omega) (fun j h1 h2 => hj j (by omega) h2)
   · refine loopF_inr ?_
     simp only [S50_1]
     rw [dqf (by omega), cond_false]
open Classical in
theorem rng_eq (p : P3) : F36 p 64 = F79 p 64 := by rw [inRange_eq, near02_eq]
theorem pts_eq (m : ME) : ∀ (n i : Nat) (v : List (P3 × Bool)), i ≤ m.1.length → m.1.length - i < n → (∀ q, mget v q false = true ↔ ∃ j, j < i ∧ m.1.getD j default = q) →
   loopF (S50_0 m) n (i : Int) = bif (loopF (S68_0 m) n (v, (i : Int)) != 0) then loopF (S68_0 m) n (v, (i : Int)) else loopF (S50_2 m) (toNat ((m.2.length : Int) - 0) + 1) ((List.replicate (toNat (m.1.length : Int)) false), 0) := by
 intro n
 induction n with
 | zero => intro i v _ h; omega
 | succ n ih =>
   intro i v hi hn hv
   by_cases hlt : i < m.1.length
   · have hw : ((i : Nat) : Int) < (m.1.length : Int) := by omega
     cases hr : F36 (m.1.getD i default) 64 with
     | false =>
       have e1 : S68_0 m (v, (i : Int)) = .inr 1 := by
         simp only [S68_0]; rw [dqt hw, cond_true, itn, hr]; rfl
       have e2 : S50_0 m (i : Int) = .inr 1 := by
         simp only [S50_0]; rw [dqt hw, cond_true, itn, ← rng_eq, hr]; rfl
       rw [loopF_inr e1, loopF_inr e2]; rfl
     | true =>
       cases hg : mget v (m.1.getD i default) false with
       | true =>
         have e1 : S68_0 m (v, (i : Int)) = .inr 1 := by
           simp only [S68_0]; rw [dqt hw, cond_true, itn, hr, hg]; rfl
         obtain ⟨j, h1, h2⟩ := (hv _).1 hg
         have e2 : S50_0 m (i : Int) = .inr 1 := by
           simp only [S50_0]; rw [dqt hw, cond_true, itn, ← rng_eq, hr]
           exact inn_t m i _ 0 (by omega) ⟨j, by omega, h1, h2⟩
         rw [loopF_inr e1, loopF_inr e2]; rfl
       | false =>
         have e1 : S68_0 m (v, (i : Int)) = .inl (mput v (m.1.getD i default) true, ((i + 1 : Nat) : Int)) := by
           simp only [S68_0]; rw [dqt hw, cond_true, itn, hr, hg]; rfl
         have e2 : S50_0 m (i : Int) = .inl ((i + 1 : Nat) : Int) := by
           simp only [S50_0]; rw [dqt hw, cond_true, itn, ← rng_eq, hr]
           exact inn_f m i _ 0 (by omega) (by omega) (fun j _ h2 h3 => by
             have := (hv _).2 ⟨j, h2, h3⟩
             rw [hg] at this; cases this)
         rw [loopF_inl e1, loopF_inl e2]
         refine ih (i + 1) _ (by omega) (by omega) (fun q => ?_)
         rw [mget_put]
         by_cases e : m.1.getD i default = q
         · rw [if_pos e]; exact ⟨fun _ => ⟨i, by omega, e⟩, fun _ => rfl⟩
         · rw [if_neg e, hv]
           constructor
           · rintro ⟨j, h1, h2⟩; exact ⟨j, by omega, h2⟩
           · rintro ⟨j, h1, h2⟩
             refine ⟨j, ?_, h2⟩
             rcases Nat.lt_or_ge j i with h | h
             · exact h
             · have : j = i := by omega
               exact absurd (this ▸ h2) e
   · have hw : ¬ ((i : Nat) : Int) < (m.1.length : Int) := by omega
     have e1 : S68_0 m (v, (i : Int)) = .inr 0 := by
       simp only [S68_0]; rw [dqf hw, cond_false]
     have e2 : S50_0 m (i : Int) = .inr (loopF (S50_2 m) (toNat ((m.2.length : Int) - 0) + 1) ((List.replicate (toNat (m.1.length : Int)) false), 0)) := by
       simp only [S50_0]; rw [dqf hw, cond_false]
     rw [loopF_inr e1, loopF_inr e2]; rfl
theorem val_eq (m : ME) : F35 m = F50 m := by
 unfold F35 F50
 by_cases h1 : (m.1.length : Int) > 64
 · rw [dqt h1]; rfl
 · rw [dqf h1, cond_false, cond_false, show F78 (m.2.length : Int) 1 96 = F43 (m.2.length : Int) 1 96 from rfl]
   cases h2 : (!F43 (m.2.length : Int) 1 96) with
   | true => rfl
   | false =>
     rw [cond_false, cond_false]
     have g := from_p h2
     rw [fac_eq m (by omega) (by omega)]
     have hp := pts_eq m (toNat ((m.1.length : Int) - 0) + 1) 0 [] (by omega) (by omega) (fun q => by
       rw [mget_nil]
       constructor
       · intro h; cases h
       · rintro ⟨j, h, _⟩; omega)
     exact hp.symm

end Go.Proofs.YtaeagjnpobdglaaGreat

namespace Go.Proofs.YtaeagjnpobdglaaGreat
open Go.Proofs Go.Aw Go.RowKit
set_option maxRecDepth 100000

theorem okl (m : ME) (h64 : m.1.length ≤ 64) : ∀ (n : Nat) (v : List Bool) (i : Int), 0 ≤ i → toNat ((m.2.length : Int) - i) < n → loopF (S35_0 m) n (v, i) = 0 → ∀ j : Int, i ≤ j → j < (m.2.length : Int) → F69 m (m.2.getD (toNat j) default) = 0 := by
 intro n
 induction n with
 | zero => intro v i _ h; omega
 | succ n ih =>
   intro v i hi hn h j h1 h2
   have hlt : i < (m.2.length : Int) := by omega
   cases hf : ((F69 (m.1, m.2) (m.2.getD (toNat i) default) : Int) != 0) with
   | true =>
     have e : S35_0 m (v, i) = .inr (F69 (m.1, m.2) (m.2.getD (toNat i) default)) := by
       simp only [S35_0]; rw [dqt hlt, cond_true, hf, cond_true]
     rw [loopF_inr e] at h
     exact absurd h (bne_iff_ne.1 hf)
   | false =>
     by_cases hj : j = i
     · subst hj; exact bne_eq_false_iff_eq.1 hf
     · have e : S35_0 m (v, i) = .inl ((((v.set (toNat (m.2.getD (toNat i) default).1) true).set (toNat (m.2.getD (toNat i) default).2.1) true).set (toNat (m.2.getD (toNat i) default).2.2) true), (i + 1)) := by
         simp only [S35_0]; rw [dqt hlt, cond_true, hf, cond_false]
       rw [loopF_inl e] at h
       exact ih _ (i + 1) (by omega) (by omega) h j (by omega) h2
theorem val_parts {m : ME} (h : F35 m = 0) : m.1.length ≤ 64 ∧ 1 ≤ m.2.length ∧ m.2.length ≤ 96 ∧ F68 m = 0 ∧ ∀ j : Int, 0 ≤ j → j < (m.2.length : Int) → F69 m (m.2.getD (toNat j) default) = 0 := by
 unfold F35 at h
 by_cases h1 : (m.1.length : Int) > 64
 · rw [dqt h1, cond_true] at h; exact absurd h (by decide)
 · rw [dqf h1, cond_false] at h
   cases h2 : (!F43 (m.2.length : Int) 1 96) with
   | true => rw [h2, cond_true] at h; exact absurd h (by decide)
   | false =>
     have g := from_p h2
     rw [h2, cond_false] at h
     cases h3 : ((F68 (m.1, m.2) : Int) != 0) with
     | true => rw [h3, cond_true] at h; exact absurd h (bne_iff_ne.1 h3)
     | false =>
       rw [h3, cond_false] at h
       exact ⟨by omega, by omega, by omega, bne_eq_false_iff_eq.1 h3, fun j h1 h2 => okl m (by omega) _ _ 0 (Int.le_refl 0) (by omega) h j h1 h2⟩
theorem val_ok {m : ME} (h : ((F35 m : Int) != 0) = false) : okTo m m.2.length ∧ m.2.length ≤ 96 := by
 obtain ⟨h1, _, h3, _, h4⟩ := val_parts (bne_eq_false_iff_eq.1 h)
 exact ⟨fun i g1 g2 => face_in (m := m) (by rw [h4 i g1 g2]; rfl) h1, h3⟩
def F90 (a0 : Zm) : (List (Zt × Zt × Zt)) × Int :=
 (bif (((F35 (a0.1, a0.2)) : Int) != 0) then
  (([] : List (Zt × Zt × Zt)), (F35 (a0.1, a0.2)))
 else
  ((F102 (a0.1, a0.2)), 0))

theorem C90 (a0 : Zm) (l0_1 : a0.1.length ≤ 9223372036854775807) (l0_2 : a0.2.length ≤ 9223372036854775807) : Con Tryz.prog 90 [(.a [(.s 0 0 a0.1.length 3), (.s 1 0 a0.2.length 3)])] [(.live false true (flat c30 a0.1)), (.live false true (flat c94 a0.2))] (.t [(.s 2 0 (F90 a0).1.length 9), (iv (F90 a0).2)]) [(.live true true (flat c124 (F90 a0).1))] := by
 refine con_s Tryz.func90 (by kernel_rfl) fun cx hcx => ?_
 let t0 : List (St Tryz.prog) := [.c [0, 1] (C35 (a0.1, a0.2) (by (try simp only [Lt]); omega) (by (try simp only [Lt]); omega))]
 cases h0 : (((F35 (a0.1, a0.2)) : Int) != 0) with
 | true =>
  have q0 := bne_iff_ne.1 h0
  have e := Eq.refl (F90 a0); conv at e => rhs; simp only [F90, h0, cdb]
  rw [e]
  exact rt (t0 ++ [.d h0]) [.slot 2 9] [3] hcx (by kernel_rfl)
 | false =>
  have q0 := bne_eq_false_iff_eq.1 h0
  have e := Eq.refl (F90 a0); conv at e => rhs; simp only [F90, h0, cdb]
  rw [e]
  exact rt (t0 ++ [.d h0, .c [0, 1] (C102 (a0.1, a0.2) (by (try simp only [Lt]); omega) (by (try simp only [Lt]); omega) (val_ok h0).1 (val_ok h0).2)]) [] [3] hcx (by kernel_rfl)

theorem pan_f (m : ME) : F90 m = bif ((F35 m : Int) != 0) then ([], F35 m) else (m.2.map (F101 m), 0) := by
 unfold F90
 rw [show F102 (m.1, m.2) = m.2.map (F101 m) from pnl_map m]
theorem pan_len (m : ME) : (F90 m).1.length ≤ 96 := by
 rw [pan_f]
 cases h : ((F35 m : Int) != 0) with
 | true => exact Nat.zero_le _
 | false => rw [cond_false]; show (m.2.map _).length ≤ 96; rw [List.length_map]; exact (val_ok h).2


theorem gbits {R : Type} [Inhabited R] {p : Int → Prop} [DecidablePred p] {G : Int → R} {M : Int} {S : Int × Int → (Int × Int) ⊕ R} (hS : ∀ k b, 0 ≤ k → 0 < b → k + b ≤ M → S (k, b) = if p (k + b) then .inl (k + b, b / 2) else .inl (k, b / 2)) (h0 : ∀ k, 0 ≤ k → k ≤ M → S (k, 0) = .inr (G k)) :
   ∀ (j f : Nat) (k : Int), j + 2 ≤ f → 0 ≤ k → k + 2 * 2 ^ j ≤ M → p k → ¬ p (k + 2 * 2 ^ j) → ∃ r, 0 ≤ r ∧ r ≤ M ∧ p r ∧ ¬ p (r + 1) ∧ loopF S f (k, 2 ^ j) = G r := by
 intro j
 induction j with
 | zero =>
   intro f k hf hk hb h1 h2
   obtain ⟨f, rfl⟩ : ∃ g, f = g + 2 := ⟨f - 2, by omega⟩
   simp only [Int.pow_zero] at h2 hb ⊢
   have hs := hS k 1 hk (by omega) (by omega)
   by_cases hc : p (k + 1)
   · rw [if_pos hc] at hs
     rw [loopF_inl hs, show ((1 : Int) / 2) = 0 by omega, loopF_inr (h0 _ (by omega) (by omega))]
     exact ⟨k + 1, by omega, by omega, hc, by rw [show k + 1 + 1 = k + 2 * 1 by omega]; exact h2, rfl⟩
   · rw [if_neg hc] at hs
     rw [loopF_inl hs, show ((1 : Int) / 2) = 0 by omega, loopF_inr (h0 _ hk (by omega))]
     exact ⟨k, hk, by omega, h1, hc, rfl⟩
 | succ j ih =>
   intro f k hf hk hb h1 h2
   obtain ⟨f, rfl⟩ : ∃ g, f = g + 1 := ⟨f - 1, by omega⟩
   have hp : (0 : Int) < 2 ^ j := Int.pow_pos (by omega)
   rw [Int.pow_succ] at h2 hb ⊢
   have hs := hS k (2 ^ j * 2) hk (by omega) (by omega)
   have hd : (2 : Int) ^ j * 2 / 2 = 2 ^ j := Int.mul_ediv_cancel _ (by omega)
   rw [hd] at hs
   by_cases hc : p (k + 2 ^ j * 2)
   · rw [if_pos hc] at hs
     rw [loopF_inl hs]
     refine ih f _ (by omega) (by omega) (by omega) hc ?_
     rw [show k + 2 ^ j * 2 + 2 * 2 ^ j = k + 2 * ((2 : Int) ^ j * 2) by omega]; exact h2
   · rw [if_neg hc] at hs
     rw [loopF_inl hs]
     refine ih f _ (by omega) hk (by omega) h1 ?_
     rw [show k + 2 * (2 : Int) ^ j = k + 2 ^ j * 2 by omega]; exact hc
theorem half_eq {b : Int} (h : 0 ≤ b ∧ b ≤ 1099511627776) : W (Int.tdiv b 2) = b / 2 := by rw [Int.tdiv_eq_ediv_of_nonneg (by omega), W_eq (by omega) (by omega)]

noncomputable def B56_0 : Code := (loopAtD [1, 1, 1, 1, 1, 0, 1] [] (bodyOf Tryz.f56) []).1
noncomputable def K56_0 : List K := (loopAtD [1, 1, 1, 1, 1, 0, 1] [] (bodyOf Tryz.f56) []).2

def st56_0 (a0 : Int) (v1 v2 : Int) : LS := ⟨slN 70 [(2, (.p 0 0)), (4, (iv (F89 a0))), (5, (iv (W ((W (a0 - (W ((F89 a0) * (F89 a0))))) * 2 ^ (min (toNat 40) 64))))), (6, (iv v1)), (7, (iv v2))], [(.live true false [(iv 0), (iv 0)])]⟩

def S56_0 (a0 : Int) : Int × Int → (Int × Int) ⊕ ((Int × Int) × Int)
 | (v1, v2) =>
  (bif (decide ((v2 : Int) > 0)) then
   (bif (decide (((W ((W ((W ((W (2 * (F89 a0))) * (W (v1 + v2)))) * 2 ^ (min (toNat 20) 64))) + (W ((W (v1 + v2)) * (W (v1 + v2)))))) : Int) ≤ (W ((W (a0 - (W ((F89 a0) * (F89 a0))))) * 2 ^ (min (toNat 40) 64))))) then
    (.inl ((W (v1 + v2)), (W (Int.tdiv v2 2))))
   else
    (.inl (v1, (W (Int.tdiv v2 2)))))
  else
   (bif (((W ((W ((W ((W (2 * (F89 a0))) * v1)) * 2 ^ (min (toNat 20) 64))) + (W (v1 * v1)))) : Int) == (W ((W (a0 - (W ((F89 a0) * (F89 a0))))) * 2 ^ (min (toNat 40) 64)))) then
    (.inr ((F48 (W ((W ((F89 a0) * 2 ^ (min (toNat 20) 64))) + v1)) (W ((W ((F89 a0) * 2 ^ (min (toNat 20) 64))) + v1))).1, (F48 (W ((W ((F89 a0) * 2 ^ (min (toNat 20) 64))) + v1)) (W ((W ((F89 a0) * 2 ^ (min (toNat 20) 64))) + v1))).2))
   else
    (.inr ((F48 (W ((W ((F89 a0) * 2 ^ (min (toNat 20) 64))) + v1)) (W ((W ((W ((F89 a0) * 2 ^ (min (toNat 20) 64))) + v1)) + 1))).1, (F48 (W ((W ((F89 a0) * 2 ^ (min (toNat 20) 64))) + v1)) (W ((W ((W ((F89 a0) * 2 ^ (min (toNat 20) 64))) + v1)) + 1))).2))))

theorem L56_0 (a0 : Int) {cx : Cx} (hcx : cx.base = 0) : ∀ (n : Nat) (v1 v2 : Int), (0 ≤ v2) ∧ (v2 ≤ 1099511627776) → toNat v2 < n → Aw.Good Tryz.prog none 9 (bodyPost Tryz.prog Tryz.f56 (RR cx (.t [(.a (k2 (loopF (S56_0 a0) n (v1, v2)).1)), (iv (loopF (S56_0 a0) n (v1, v2)).2)]) [] [])) cx [] (.l B56_0 n :: K56_0) (st56_0 a0 v1 v2) := by
 intro n
 induction n with
 | zero => intro v1 v2 hi hn; exact absurd hn (nlz _)
 | succ n ih =>
   intro v1 v2 hi hn
   refine good_round ?_
   have hw1 := half_eq (b := v2) (by omega)
   cases h0 : (decide ((v2 : Int) > 0)) with
   | true =>
    have q0 := odt h0
    let t1 : List (St Tryz.prog) := [.d h0, .p (show 0 ≤ (20 : Int) from by decide)]
    cases h1 : (decide (((W ((W ((W ((W (2 * (F89 a0))) * (W (v1 + v2)))) * 2 ^ (min (toNat 20) 64))) + (W ((W (v1 + v2)) * (W (v1 + v2)))))) : Int) ≤ (W ((W (a0 - (W ((F89 a0) * (F89 a0))))) * 2 ^ (min (toNat 40) 64))))) with
    | true =>
     have q1 := odt h1
     have e := Eq.refl (S56_0 a0 (v1, v2)); conv at e => rhs; simp only [S56_0, h0, h1, cdb]
     rw [loopF_inl e]
     refine ba (t1 ++ [.d h1, .p (show (2 : Int) ≠ 0 from by decide)]) [] [2, 4, 5, 6, 7] [0] hcx (m := n) B56_0 (K56_0) (st56_0 a0 (W (v1 + v2)) (W (Int.tdiv v2 2))) (by kernel_rfl) ?_
     exact ih (W (v1 + v2)) (W (Int.tdiv v2 2)) (by refine ⟨?_, ?_⟩ <;> (try simp only [Ls]) <;> first | omega | assumption | simp) (by (try simp only [Ls]); omega)
    | false =>
     have q1 := odf h1
     have e := Eq.refl (S56_0 a0 (v1, v2)); conv at e => rhs; simp only [S56_0, h0, h1, cdb]
     rw [loopF_inl e]
     refine ba (t1 ++ [.d h1, .p (show (2 : Int) ≠ 0 from by decide)]) [] [2, 4, 5, 6, 7] [0] hcx (m := n) B56_0 (K56_0) (st56_0 a0 v1 (W (Int.tdiv v2 2))) (by kernel_rfl) ?_
     exact ih v1 (W (Int.tdiv v2 2)) (by refine ⟨?_, ?_⟩ <;> (try simp only [Ls]) <;> first | omega | assumption | simp) (by (try simp only [Ls]); omega)
   | false =>
    have q0 := odf h0
    let t1 : List (St Tryz.prog) := [.d h0, .p (show 0 ≤ (20 : Int) from by decide), .p (show 0 ≤ (20 : Int) from by decide)]
    cases h1 : (((W ((W ((W ((W (2 * (F89 a0))) * v1)) * 2 ^ (min (toNat 20) 64))) + (W (v1 * v1)))) : Int) == (W ((W (a0 - (W ((F89 a0) * (F89 a0))))) * 2 ^ (min (toNat 40) 64)))) with
    | true =>
     have q1 := eq_of_beq h1
     have e := Eq.refl (S56_0 a0 (v1, v2)); conv at e => rhs; simp only [S56_0, h0, h1, cdb]
     rw [loopF_s, e]
     exact rt (t1 ++ [.d h1, .c [] (C48 (W ((W ((F89 a0) * 2 ^ (min (toNat 20) 64))) + v1)) (W ((W ((F89 a0) * 2 ^ (min (toNat 20) 64))) + v1)))]) [] [] hcx (by kernel_rfl)
    | false =>
     have q1 := ne_of_beq_false h1
     have e := Eq.refl (S56_0 a0 (v1, v2)); conv at e => rhs; simp only [S56_0, h0, h1, cdb]
     rw [loopF_s, e]
     exact rt (t1 ++ [.d h1, .c [] (C48 (W ((W ((F89 a0) * 2 ^ (min (toNat 20) 64))) + v1)) (W ((W ((W ((F89 a0) * 2 ^ (min (toNat 20) 64))) + v1)) + 1)))]) [] [] hcx (by kernel_rfl)

def F56 (a0 : Int) : (Int × Int) × Int :=
 (bif (decide ((a0 : Int) < 0)) then
  ((0, 0), 1)
 else
  (bif (decide ((a0 : Int) > 1099511627776)) then
   ((0, 0), 1)
  else
   (loopF (S56_0 a0) (toNat 524288 + 1) (0, 524288))))

theorem C56 (a0 : Int) : Con Tryz.prog 56 [(iv a0)] [] (.t [(.a (k2 (F56 a0).1)), (iv (F56 a0).2)]) [] := by
 refine con_s Tryz.func56 (by kernel_rfl) fun cx hcx => ?_
 cases h0 : (decide ((a0 : Int) < 0)) with
 | true =>
  have q0 := odt h0
  have e := Eq.refl (F56 a0); conv at e => rhs; simp only [F56, h0, cdb]
  rw [e]
  exact rt [.d h0] [] [] hcx (by kernel_rfl)
 | false =>
  have q0 := odf h0
  let t1 : List (St Tryz.prog) := [.d h0]
  cases h1 : (decide ((a0 : Int) > 1099511627776)) with
  | true =>
   have q1 := odt h1
   have e := Eq.refl (F56 a0); conv at e => rhs; simp only [F56, h0, h1, cdb]
   rw [e]
   exact rt (t1 ++ [.d h1]) [] [] hcx (by kernel_rfl)
  | false =>
   have q1 := odf h1
   have e := Eq.refl (F56 a0); conv at e => rhs; simp only [F56, h0, h1, cdb]
   rw [e]
   refine en (t1 ++ [.d h1, .c [] (C89 a0), .p (show 0 ≤ (40 : Int) from by decide)]) [] [2, 4, 5, 6, 7] [0] hcx B56_0 (K56_0) (st56_0 a0 0 524288) (toNat 524288 + 1) (by kernel_rfl) ?_
   exact L56_0 a0 hcx (toNat 524288 + 1) 0 524288 (by refine ⟨?_, ?_⟩ <;> (try simp only [Ls]) <;> first | omega | assumption | simp) (by (try simp only [Ls]); omega)

def lenV (n r : Int) : (Int × Int) × Int := F48 r (if r * r = n * 1099511627776 then r else r + 1)
theorem Len_f {n : Int} (h : 0 ≤ n ∧ n ≤ 400000) : ∃ r, IsRt (n * 1099511627776) r ∧ F56 n = lenV n r := by
 have ha := rtSpan (n := n) h.1 (by omega)
 unfold F56
 rw [dqf (by omega), dqf (by omega), cond_false, cond_false]
 have hle : F89 n ≤ 1000 := ha.le (by omega) (by omega)
 have h0 := ha.1
 have h1 := ha.2.1
 have h2 := ha.2.2
 have p20 : (2 : Int) ^ (min (toNat 20) 64) = 1048576 := by decide
 have p40 : (2 : Int) ^ (min (toNat 40) 64) = 1099511627776 := by decide
 generalize ea : F89 n = a at *
 have haa : 0 ≤ a * a := Int.mul_nonneg h0 h0
 have ex : (a + 1) * (a + 1) = a * a + 2 * a + 1 := by grind
 have key : ∀ f : Int, 0 ≤ f → f ≤ 1048576 → W ((W ((W ((W (2 * a)) * (W f))) * 2 ^ (min (toNat 20) 64))) + (W ((W f) * (W f)))) = (a * 1048576 + f) * (a * 1048576 + f) - a * a * 1099511627776 := by
   intro f f0 f1
   have m1 := mul_bd (a := 1000) (b := 1048576) (x := a) (y := f) ⟨by omega, by omega⟩ ⟨by omega, by omega⟩
   have m2 := mul_bd (a := 1048576) (b := 1048576) (x := f) (y := f) ⟨by omega, by omega⟩ ⟨by omega, by omega⟩
   have e1 : 2 * a * f = 2 * (a * f) := by grind
   rw [p20, W_eq (n := f) (by omega) (by omega), W_eq (n := 2 * a) (by omega) (by omega), e1, W_eq (n := 2 * (a * f)) (by omega) (by omega), W_eq (n := 2 * (a * f) * 1048576) (by omega) (by omega), W_eq (n := f * f) (by omega) (by omega), W_eq (by omega) (by omega)]
   grind
 have rest : W ((W (n - (W (a * a)))) * 2 ^ (min (toNat 40) 64)) = n * 1099511627776 - a * a * 1099511627776 := by
   rw [p40, W_eq (n := a * a) (by omega) (by omega), W_eq (n := n - a * a) (by omega) (by omega), W_eq (by omega) (by omega)]
   omega
 have key0 : ∀ f : Int, 0 ≤ f → f ≤ 1048576 → W ((W ((W ((W (2 * a)) * f)) * 2 ^ (min (toNat 20) 64))) + (W (f * f))) = (a * 1048576 + f) * (a * 1048576 + f) - a * a * 1099511627776 := by
   intro f f0 f1
   have := key f f0 f1
   rwa [W_eq (n := f) (by omega) (by omega)] at this
 have A20 : W (a * 2 ^ (min (toNat 20) 64)) = a * 1048576 := by rw [p20, W_eq (by omega) (by omega)]
 obtain ⟨f, f0, f1, g1, g2, e⟩ := gbits (p := fun f => (a * 1048576 + f) * (a * 1048576 + f) ≤ n * 1099511627776) (G := fun f => lenV n (a * 1048576 + f)) (M := 1048576) (S := S56_0 n) (fun k b hk hb hkb => by
     simp only [S56_0, ea]
     rw [dqt (show b > 0 from hb), cond_true, key (k + b) (by omega) (by omega), rest, W_eq (n := k + b) (by omega) (by omega), Int.tdiv_eq_ediv_of_nonneg (by omega), W_eq (n := b / 2) (by omega) (by omega)]
     by_cases hc : (a * 1048576 + (k + b)) * (a * 1048576 + (k + b)) ≤ n * 1099511627776
     · rw [if_pos hc, dqt (by omega), cond_true]
     · rw [if_neg hc, dqf (by omega), cond_false])
   (fun k hk hk2 => by
     simp only [S56_0, ea]
     rw [dqf (by omega), cond_false, key0 k hk hk2, rest, A20, W_eq (n := a * 1048576 + k) (by omega) (by omega), W_eq (n := a * 1048576 + k + 1) (by omega) (by omega)]
     unfold lenV
     by_cases hc : (a * 1048576 + k) * (a * 1048576 + k) = n * 1099511627776
     · rw [if_pos hc, hc, beq_self_eq_true, cond_true]
     · rw [if_neg hc, beq_eq_false_iff_ne.2 (by omega), cond_false])
   19 (toNat 524288 + 1) 0 (by decide) (by omega) (by decide) (by
     have : (a * 1048576 + 0) * (a * 1048576 + 0) = a * a * 1099511627776 := by grind
     omega) (by
     have : (a * 1048576 + (0 + 2 * 2 ^ 19)) * (a * 1048576 + (0 + 2 * 2 ^ 19)) = (a + 1) * (a + 1) * 1099511627776 := by grind
     rw [this]; omega)
 refine ⟨a * 1048576 + f, ⟨by omega, g1, ?_⟩, e⟩
 rw [show a * 1048576 + f + 1 = a * 1048576 + (f + 1) by omega]
 omega

theorem pts_one {m : ME} (h : ((F35 m : Int) != 0) = false) : 1 ≤ m.1.length ∧ m.1.length ≤ 64 := by
 obtain ⟨h1, h2, h3, _, h4⟩ := val_parts (bne_eq_false_iff_eq.1 h)
 have := (val_ok h).1 0 (Int.le_refl 0) (by omega)
 exact ⟨by omega, h1⟩
def F55 (a0 : Int) (a1 : Int) (a2 : Int) : Bool :=
 (bif (decide ((a0 : Int) ≥ a1)) then
  (decide ((a0 : Int) ≤ a2))
 else
  false)

theorem C55 (a0 : Int) (a1 : Int) (a2 : Int) : Con Tryz.prog 55 [(iv a0), (iv a1), (iv a2)] [] (.v (.bool (F55 a0 a1 a2))) [] := by
 refine con_s Tryz.func55 (by kernel_rfl) fun cx hcx => ?_
 cases h0 : (decide ((a0 : Int) ≥ a1)) with
 | true =>
  have q0 := odt h0
  have e := Eq.refl (F55 a0 a1 a2); conv at e => rhs; simp only [F55, h0, cdb]
  rw [e]
  exact rt [.d h0] [] [] hcx (by kernel_rfl)
 | false =>
  have q0 := odf h0
  have e := Eq.refl (F55 a0 a1 a2); conv at e => rhs; simp only [F55, h0, cdb]
  rw [e]
  exact rt [.d h0] [] [] hcx (by kernel_rfl)

def F52 (a0 : Int) (a1 : Int) (a2 : Int) : Bool :=
 (bif (decide ((a0 : Int) ≥ a1)) then
  (decide ((a0 : Int) ≤ a2))
 else
  false)

theorem C52 (a0 : Int) (a1 : Int) (a2 : Int) : Con Tryz.prog 52 [(iv a0), (iv a1), (iv a2)] [] (.v (.bool (F52 a0 a1 a2))) [] := by
 refine con_s Tryz.func52 (by kernel_rfl) fun cx hcx => ?_
 cases h0 : (decide ((a0 : Int) ≥ a1)) with
 | true =>
  have q0 := odt h0
  have e := Eq.refl (F52 a0 a1 a2); conv at e => rhs; simp only [F52, h0, cdb]
  rw [e]
  exact rt [.d h0] [] [] hcx (by kernel_rfl)
 | false =>
  have q0 := odf h0
  have e := Eq.refl (F52 a0 a1 a2); conv at e => rhs; simp only [F52, h0, cdb]
  rw [e]
  exact rt [.d h0] [] [] hcx (by kernel_rfl)

theorem hwin_f {d : Int} {a b : Int} (h : (!F55 d a b) = false) : a ≤ d ∧ d ≤ b := by
 unfold F55 at h
 by_cases h1 : d ≥ a
 · by_cases h2 : d ≤ b
   · exact ⟨h1, h2⟩
   · rw [dqt h1, dqf h2] at h; simp at h
 · rw [dqf h1] at h; simp at h
theorem hwin_r {d : Int} {a b : Int} (h : (!F52 d a b) = false) : a ≤ d ∧ d ≤ b := hwin_f h

noncomputable def B58_L_0 : Code := (loopAtD [1, 1, 1, 1, 0, 1] [] (bodyOf Tryz.f58) []).1
noncomputable def K58_L_0 : List K := (loopAtD [1, 1, 1, 1, 0, 1] [] (bodyOf Tryz.f58) []).2

def st58_L_0 (a0 : Zm) (a1 : List (Int)) (v1 v2 : Int) : LS := ⟨slN 35 [(6, (iv v1)), (20, (.s 2 0 a1.length 1)), (21, (iv (a1.length : Int))), (22, (iv v2))], [(.live false true (flat c30 a0.1)), (.live false true (flat c94 a0.2)), (.live false true (flat c3 a1))]⟩

def S58_L_0 (a0 : Zm) (a1 : List (Int)) : Int × Int → (Int × Int) ⊕ (Int)
 | (v1, v2) =>
  (bif (decide ((v2 : Int) < (a1.length : Int))) then
   (bif (!(F55 (a1.getD (toNat v2) default) 0 100)) then
    (.inr 1)
   else
    (.inl ((W (v1 + (a1.getD (toNat v2) default))), (v2 + 1))))
  else
   (bif ((v1 : Int) == 0) then
    (.inr 11)
   else
    (.inr 0)))

theorem L58_L_0 (a0 : Zm) (a1 : List (Int)) (l0_1 : a0.1.length ≤ 9223372036854775807) (l0_2 : a0.2.length ≤ 9223372036854775807) (l1 : a1.length ≤ 9223372036854775807) {cx : Cx} (hcx : cx.base = 3) : ∀ (n : Nat) (v1 v2 : Int), 0 ≤ v2 → toNat ((a1.length : Int) - v2) < n → Aw.Good Tryz.prog none 9 (bodyPost Tryz.prog Tryz.f58 (RR cx (iv (loopF (S58_L_0 a0 a1) n (v1, v2))) [] [])) cx [] (.l B58_L_0 n :: K58_L_0) (st58_L_0 a0 a1 v1 v2) := by
 intro n
 induction n with
 | zero => intro v1 v2 hi hn; exact absurd hn (nlz _)
 | succ n ih =>
   intro v1 v2 hi hn
   refine good_round ?_
   cases h0 : (decide ((v2 : Int) < (a1.length : Int))) with
   | true =>
    have q0 := odt h0
    let t1 : List (St Tryz.prog) := [.d h0, .i v2 (a1.length), .L c3_len a1 v2 0 1, .c [] (C55 (a1.getD (toNat v2) default) 0 100)]
    cases h1 : (!(F55 (a1.getD (toNat v2) default) 0 100)) with
    | true =>
     have e := Eq.refl (S58_L_0 a0 a1 (v1, v2)); conv at e => rhs; simp only [S58_L_0, h0, h1, cdb]
     rw [loopF_s, e]
     exact rt (t1 ++ [.d h1]) [] [] hcx (by kernel_rfl)
    | false =>
     have e := Eq.refl (S58_L_0 a0 a1 (v1, v2)); conv at e => rhs; simp only [S58_L_0, h0, h1, cdb]
     rw [loopF_inl e]
     refine ba (t1 ++ [.d h1]) [] [6, 20, 21, 22] [] hcx (m := n) B58_L_0 (K58_L_0) (st58_L_0 a0 a1 (W (v1 + (a1.getD (toNat v2) default))) (W (v2 + 1))) (by kernel_rfl) ?_
     have z0 : (W (v2 + 1)) = (v2 + 1) := W_eq (by omega) (by omega)
     rw [z0]
     exact ih (W (v1 + (a1.getD (toNat v2) default))) (v2 + 1) (by (try simp only [Ls]); omega) (by (try simp only [Ls]); omega)
   | false =>
    have q0 := odf h0
    let t1 : List (St Tryz.prog) := [.d h0]
    cases h1 : ((v1 : Int) == 0) with
    | true =>
     have q1 := eq_of_beq h1
     have e := Eq.refl (S58_L_0 a0 a1 (v1, v2)); conv at e => rhs; simp only [S58_L_0, h0, h1, cdb]
     rw [loopF_s, e]
     exact rt (t1 ++ [.d h1]) [] [] hcx (by kernel_rfl)
    | false =>
     have q1 := ne_of_beq_false h1
     have e := Eq.refl (S58_L_0 a0 a1 (v1, v2)); conv at e => rhs; simp only [S58_L_0, h0, h1, cdb]
     rw [loopF_s, e]
     exact rt (t1 ++ [.d h1]) [] [] hcx (by kernel_rfl)

def F58_L (a0 : Zm) (a1 : List (Int)) : Int :=
 (bif (((F35 (a0.1, a0.2)) : Int) != 0) then
  (F35 (a0.1, a0.2))
 else
  (bif (((a1.length : Int) : Int) != (a0.2.length : Int)) then
   1
  else
   (loopF (S58_L_0 a0 a1) (toNat ((a1.length : Int) - 0) + 1) (0, 0))))

theorem C58_L (a0 : Zm) (a1 : List (Int)) (l0_1 : a0.1.length ≤ 9223372036854775807) (l0_2 : a0.2.length ≤ 9223372036854775807) (l1 : a1.length ≤ 9223372036854775807) : Con Tryz.prog 58 [(.a [(.s 0 0 a0.1.length 3), (.s 1 0 a0.2.length 3)]), (.s 2 0 a1.length 1)] [(.live false true (flat c30 a0.1)), (.live false true (flat c94 a0.2)), (.live false true (flat c3 a1))] (iv (F58_L a0 a1)) [] := by
 refine con_s Tryz.func58 (by kernel_rfl) fun cx hcx => ?_
 let t0 : List (St Tryz.prog) := [.c [0, 1] (C35 (a0.1, a0.2) (by (try simp only [Lt]); omega) (by (try simp only [Lt]); omega))]
 cases h0 : (((F35 (a0.1, a0.2)) : Int) != 0) with
 | true =>
  have q0 := bne_iff_ne.1 h0
  have e := Eq.refl (F58_L a0 a1); conv at e => rhs; simp only [F58_L, h0, cdb]
  rw [e]
  exact rt (t0 ++ [.d h0]) [] [] hcx (by kernel_rfl)
 | false =>
  have q0 := bne_eq_false_iff_eq.1 h0
  let t1 : List (St Tryz.prog) := (t0 ++ [.d h0])
  cases h1 : (((a1.length : Int) : Int) != (a0.2.length : Int)) with
  | true =>
   have q1 := bne_iff_ne.1 h1
   have e := Eq.refl (F58_L a0 a1); conv at e => rhs; simp only [F58_L, h0, h1, cdb]
   rw [e]
   exact rt (t1 ++ [.d h1]) [] [] hcx (by kernel_rfl)
  | false =>
   have q1 := bne_eq_false_iff_eq.1 h1
   have e := Eq.refl (F58_L a0 a1); conv at e => rhs; simp only [F58_L, h0, h1, cdb]
   rw [e]
   refine en (t1 ++ [.d h1]) [] [6, 20, 21, 22] [] hcx B58_L_0 (K58_L_0) (st58_L_0 a0 a1 0 0) (toNat ((a1.length : Int) - 0) + 1) (by kernel_rfl) ?_
   exact L58_L_0 a0 a1 l0_1 l0_2 l1 hcx (toNat ((a1.length : Int) - 0) + 1) 0 0 (by (try simp only [Ls]); omega) (by (try simp only [Ls]); omega)

def F32_L (a0 : Zm) (a1 : List (Int)) (a2 : Int) : Int :=
 (bif (((F58_L (a0.1, a0.2) a1) : Int) != 0) then
  (F58_L (a0.1, a0.2) a1)
 else
  (bif (!(F55 a2 0 2)) then
   1
  else
   0))

theorem C32_L (a0 : Zm) (a1 : List (Int)) (a2 : Int) (l0_1 : a0.1.length ≤ 9223372036854775807) (l0_2 : a0.2.length ≤ 9223372036854775807) (l1 : a1.length ≤ 9223372036854775807) : Con Tryz.prog 32 [(.a [(.s 0 0 a0.1.length 3), (.s 1 0 a0.2.length 3)]), (.s 2 0 a1.length 1), (iv a2)] [(.live false true (flat c30 a0.1)), (.live false true (flat c94 a0.2)), (.live false true (flat c3 a1))] (iv (F32_L a0 a1 a2)) [] := by
 refine con_s Tryz.func32 (by kernel_rfl) fun cx hcx => ?_
 let t0 : List (St Tryz.prog) := [.c [0, 1, 2] (C58_L (a0.1, a0.2) a1 (by (try simp only [Lt]); omega) (by (try simp only [Lt]); omega) (by omega))]
 cases h0 : (((F58_L (a0.1, a0.2) a1) : Int) != 0) with
 | true =>
  have q0 := bne_iff_ne.1 h0
  have e := Eq.refl (F32_L a0 a1 a2); conv at e => rhs; simp only [F32_L, h0, cdb]
  rw [e]
  exact rt (t0 ++ [.d h0]) [] [] hcx (by kernel_rfl)
 | false =>
  have q0 := bne_eq_false_iff_eq.1 h0
  let t1 : List (St Tryz.prog) := (t0 ++ [.d h0, .c [] (C55 a2 0 2)])
  cases h1 : (!(F55 a2 0 2)) with
  | true =>
   have e := Eq.refl (F32_L a0 a1 a2); conv at e => rhs; simp only [F32_L, h0, h1, cdb]
   rw [e]
   exact rt (t1 ++ [.d h1]) [] [] hcx (by kernel_rfl)
  | false =>
   have e := Eq.refl (F32_L a0 a1 a2); conv at e => rhs; simp only [F32_L, h0, h1, cdb]
   rw [e]
   exact rt (t1 ++ [.d h1]) [] [] hcx (by kernel_rfl)

def F97 (a0 : Int) : Int × Int :=
 (bif (decide ((a0 : Int) > 1099511627776)) then
  (0, 4)
 else
  (a0, 0))

theorem C97 (a0 : Int) : Con Tryz.prog 97 [(iv a0)] [] (.t (k2 (F97 a0))) [] := by
 refine con_s Tryz.func97 (by kernel_rfl) fun cx hcx => ?_
 cases h0 : (decide ((a0 : Int) > 1099511627776)) with
 | true =>
  have q0 := odt h0
  have e := Eq.refl (F97 a0); conv at e => rhs; simp only [F97, h0, cdb]
  rw [e]
  exact rt [.d h0] [] [] hcx (by kernel_rfl)
 | false =>
  have q0 := odf h0
  have e := Eq.refl (F97 a0); conv at e => rhs; simp only [F97, h0, cdb]
  rw [e]
  exact rt [.d h0] [] [] hcx (by kernel_rfl)

noncomputable def B98_L_0 : Code := (loopAtD [1, 1, 0, 1] [] (bodyOf Tryz.f98) []).1
noncomputable def K98_L_0 : List K := (loopAtD [1, 1, 0, 1] [] (bodyOf Tryz.f98) []).2

def st98_L_0 (a0 : List (Int)) (v1 v2 : Int) : LS := ⟨slN 19 [(3, (iv v1)), (6, (.s 0 0 a0.length 1)), (7, (iv (a0.length : Int))), (8, (iv v2))], [(.live false true (flat c3 a0))]⟩

def S98_L_0 (a0 : List (Int)) : Int × Int → (Int × Int) ⊕ (Int)
 | (v1, v2) =>
  (bif (decide ((v2 : Int) < (a0.length : Int))) then
   (.inl ((W (v1 + (a0.getD (toNat v2) default))), (v2 + 1)))
  else
   (.inr (W ((W (v1 * 1048576)) * 1048576))))

theorem L98_L_0 (a0 : List (Int)) (l0 : a0.length ≤ 9223372036854775807) {cx : Cx} (hcx : cx.base = 1) : ∀ (n : Nat) (v1 v2 : Int), 0 ≤ v2 → toNat ((a0.length : Int) - v2) < n → Aw.Good Tryz.prog none 9 (bodyPost Tryz.prog Tryz.f98 (RR cx (iv (loopF (S98_L_0 a0) n (v1, v2))) [] [])) cx [] (.l B98_L_0 n :: K98_L_0) (st98_L_0 a0 v1 v2) := by
 intro n
 induction n with
 | zero => intro v1 v2 hi hn; exact absurd hn (nlz _)
 | succ n ih =>
   intro v1 v2 hi hn
   refine good_round ?_
   cases h0 : (decide ((v2 : Int) < (a0.length : Int))) with
   | true =>
    have q0 := odt h0
    have e := Eq.refl (S98_L_0 a0 (v1, v2)); conv at e => rhs; simp only [S98_L_0, h0, cdb]
    rw [loopF_inl e]
    refine ba [.d h0, .i v2 (a0.length), .L c3_len a0 v2 0 1] [] [3, 6, 7, 8] [] hcx (m := n) B98_L_0 (K98_L_0) (st98_L_0 a0 (W (v1 + (a0.getD (toNat v2) default))) (W (v2 + 1))) (by kernel_rfl) ?_
    have z0 : (W (v2 + 1)) = (v2 + 1) := W_eq (by omega) (by omega)
    rw [z0]
    exact ih (W (v1 + (a0.getD (toNat v2) default))) (v2 + 1) (by (try simp only [Ls]); omega) (by (try simp only [Ls]); omega)
   | false =>
    have q0 := odf h0
    have e := Eq.refl (S98_L_0 a0 (v1, v2)); conv at e => rhs; simp only [S98_L_0, h0, cdb]
    rw [loopF_s, e]
    exact rt [.d h0] [] [] hcx (by kernel_rfl)

def F98_L (a0 : List (Int)) : Int :=
 (loopF (S98_L_0 a0) (toNat ((a0.length : Int) - 0) + 1) (0, 0))

theorem C98_L (a0 : List (Int)) (l0 : a0.length ≤ 9223372036854775807) : Con Tryz.prog 98 [(.s 0 0 a0.length 1)] [(.live false true (flat c3 a0))] (iv (F98_L a0)) [] := by
 refine con_s Tryz.func98 (by kernel_rfl) fun cx hcx => ?_
 have e := Eq.refl (F98_L a0); conv at e => rhs; simp only [F98_L]
 rw [e]
 refine en [] [] [3, 6, 7, 8] [] hcx B98_L_0 (K98_L_0) (st98_L_0 a0 0 0) (toNat ((a0.length : Int) - 0) + 1) (by kernel_rfl) ?_
 exact L98_L_0 a0 l0 hcx (toNat ((a0.length : Int) - 0) + 1) 0 0 (by (try simp only [Ls]); omega) (by (try simp only [Ls]); omega)

noncomputable def B28_1 : Code := (loopAtD [1, 1, 1, 1, 0, 1] [] (bodyOf Tryz.f28) []).1
noncomputable def K28_1 : List K := (loopAtD [1, 1, 1, 1, 0, 1] [] (bodyOf Tryz.f28) []).2

def st28_1 (a0 : Zm) (a1 : Zt) (v1 v2 : Int) : LS := ⟨slN 82 [(3, (.p 2 0)), (9, (iv v1)), (39, (.s 0 0 a0.1.length 3)), (40, (iv (a0.1.length : Int))), (41, (iv v2))], [(.live false true (flat c30 a0.1)), (.live false true (flat c94 a0.2)), (.live true false (k3 a1))]⟩

def S28_1 (a0 : Zm) (a1 : Zt) : Int × Int → (Int × Int) ⊕ (Int × Int)
 | (v1, v2) =>
  (bif (decide ((v2 : Int) < (a0.1.length : Int))) then
   (.inl ((imx v1 (W ((W ((W ((W ((a0.1.getD (toNat v2) default).1 - a1.1)) * (W ((a0.1.getD (toNat v2) default).1 - a1.1)))) + (W ((W ((a0.1.getD (toNat v2) default).2.1 - a1.2.1)) * (W ((a0.1.getD (toNat v2) default).2.1 - a1.2.1)))))) + (W ((W ((a0.1.getD (toNat v2) default).2.2 - a1.2.2)) * (W ((a0.1.getD (toNat v2) default).2.2 - a1.2.2))))))), (v2 + 1)))
  else
   (.inr ((F56 v1).1.2, (F56 v1).2)))

theorem L28_1 (a0 : Zm) (a1 : Zt) (l0_1 : a0.1.length ≤ 9223372036854775807) (l0_2 : a0.2.length ≤ 9223372036854775807) {cx : Cx} (hcx : cx.base = 2) : ∀ (n : Nat) (v1 v2 : Int), 0 ≤ v2 → toNat ((a0.1.length : Int) - v2) < n → Aw.Good Tryz.prog none 9 (bodyPost Tryz.prog Tryz.f28 (RR cx (.t (k2 (loopF (S28_1 a0 a1) n (v1, v2)))) [] [])) cx [] (.l B28_1 n :: K28_1) (st28_1 a0 a1 v1 v2) := by
 intro n
 induction n with
 | zero => intro v1 v2 hi hn; exact absurd hn (nlz _)
 | succ n ih =>
   intro v1 v2 hi hn
   refine good_round ?_
   cases h0 : (decide ((v2 : Int) < (a0.1.length : Int))) with
   | true =>
    have q0 := odt h0
    have e := Eq.refl (S28_1 a0 a1 (v1, v2)); conv at e => rhs; simp only [S28_1, h0, cdb]
    rw [loopF_inl e]
    refine ba [.d h0, .i v2 (a0.1.length), .L c30_len a0.1 v2 0 3] [] [3, 9, 39, 40, 41] [2] hcx (m := n) B28_1 (K28_1) (st28_1 a0 a1 (imx v1 (W ((W ((W ((W ((a0.1.getD (toNat v2) default).1 - a1.1)) * (W ((a0.1.getD (toNat v2) default).1 - a1.1)))) + (W ((W ((a0.1.getD (toNat v2) default).2.1 - a1.2.1)) * (W ((a0.1.getD (toNat v2) default).2.1 - a1.2.1)))))) + (W ((W ((a0.1.getD (toNat v2) default).2.2 - a1.2.2)) * (W ((a0.1.getD (toNat v2) default).2.2 - a1.2.2))))))) (W (v2 + 1))) (by kernel_rfl) ?_
    have z0 : (W (v2 + 1)) = (v2 + 1) := W_eq (by omega) (by omega)
    rw [z0]
    exact ih (imx v1 (W ((W ((W ((W ((a0.1.getD (toNat v2) default).1 - a1.1)) * (W ((a0.1.getD (toNat v2) default).1 - a1.1)))) + (W ((W ((a0.1.getD (toNat v2) default).2.1 - a1.2.1)) * (W ((a0.1.getD (toNat v2) default).2.1 - a1.2.1)))))) + (W ((W ((a0.1.getD (toNat v2) default).2.2 - a1.2.2)) * (W ((a0.1.getD (toNat v2) default).2.2 - a1.2.2))))))) (v2 + 1) (by (try simp only [Ls]); omega) (by (try simp only [Ls]); omega)
   | false =>
    have q0 := odf h0
    have e := Eq.refl (S28_1 a0 a1 (v1, v2)); conv at e => rhs; simp only [S28_1, h0, cdb]
    rw [loopF_s, e]
    exact rt [.d h0, .c [] (C56 v1)] [] [] hcx (by kernel_rfl)

def F28 (a0 : Zm) (a1 : Zt) : Int × Int :=
 (bif (((F35 (a0.1, a0.2)) : Int) != 0) then
  (0, (F35 (a0.1, a0.2)))
 else
  (bif (!(F55 a1.1 (-256) 256)) then
   (0, 1)
  else
   (bif (!(F55 a1.2.1 (-256) 256)) then
    (0, 1)
   else
    (bif (!(F55 a1.2.2 (-256) 256)) then
     (0, 1)
    else
     (loopF (S28_1 a0 a1) (toNat ((a0.1.length : Int) - 0) + 1) (0, 0))))))

theorem C28 (a0 : Zm) (a1 : Zt) (l0_1 : a0.1.length ≤ 9223372036854775807) (l0_2 : a0.2.length ≤ 9223372036854775807) : Con Tryz.prog 28 [(.a [(.s 0 0 a0.1.length 3), (.s 1 0 a0.2.length 3)]), (.a (k3 a1))] [(.live false true (flat c30 a0.1)), (.live false true (flat c94 a0.2))] (.t (k2 (F28 a0 a1))) [] := by
 refine con_s Tryz.func28 (by kernel_rfl) fun cx hcx => ?_
 let t0 : List (St Tryz.prog) := [.c [0, 1] (C35 (a0.1, a0.2) (by (try simp only [Lt]); omega) (by (try simp only [Lt]); omega))]
 cases h0 : (((F35 (a0.1, a0.2)) : Int) != 0) with
 | true =>
  have q0 := bne_iff_ne.1 h0
  have e := Eq.refl (F28 a0 a1); conv at e => rhs; simp only [F28, h0, cdb]
  rw [e]
  exact rt (t0 ++ [.d h0]) [] [] hcx (by kernel_rfl)
 | false =>
  have q0 := bne_eq_false_iff_eq.1 h0
  let t1 : List (St Tryz.prog) := (t0 ++ [.d h0, .u 200, .T, .i 0 3 (by decide), .c [] (C55 a1.1 (-256) 256)])
  cases h1 : (!(F55 a1.1 (-256) 256)) with
  | true =>
   have e := Eq.refl (F28 a0 a1); conv at e => rhs; simp only [F28, h0, h1, cdb]
   rw [e]
   exact rt (t1 ++ [.d h1]) [] [] hcx (by kernel_rfl)
  | false =>
   let t2 : List (St Tryz.prog) := (t1 ++ [.d h1, .u 0, .T, .i 1 3 (by decide), .c [] (C55 a1.2.1 (-256) 256)])
   cases h2 : (!(F55 a1.2.1 (-256) 256)) with
   | true =>
    have e := Eq.refl (F28 a0 a1); conv at e => rhs; simp only [F28, h0, h1, h2, cdb]
    rw [e]
    exact rt (t2 ++ [.d h2]) [] [] hcx (by kernel_rfl)
   | false =>
    let t3 : List (St Tryz.prog) := (t2 ++ [.d h2, .u 0, .T, .i 2 3 (by decide), .c [] (C55 a1.2.2 (-256) 256)])
    cases h3 : (!(F55 a1.2.2 (-256) 256)) with
    | true =>
     have e := Eq.refl (F28 a0 a1); conv at e => rhs; simp only [F28, h0, h1, h2, h3, cdb]
     rw [e]
     exact rt (t3 ++ [.d h3]) [] [] hcx (by kernel_rfl)
    | false =>
     have e := Eq.refl (F28 a0 a1); conv at e => rhs; simp only [F28, h0, h1, h2, h3, cdb]
     rw [e]
     refine en (t3 ++ [.d h3, .u 0, .F]) [] [3, 9, 39, 40, 41] [3] hcx B28_1 (K28_1) (st28_1 a0 a1 0 0) (toNat ((a0.1.length : Int) - 0) + 1) (by kernel_rfl) ?_
     exact L28_1 a0 a1 l0_1 l0_2 hcx (toNat ((a0.1.length : Int) - 0) + 1) 0 0 (by (try simp only [Ls]); omega) (by (try simp only [Ls]); omega)

noncomputable def B62_0 : Code := (loopAtD [1, 1, 1, 0, 1] [] (bodyOf Tryz.f62) []).1
noncomputable def K62_0 : List K := (loopAtD [1, 1, 1, 0, 1] [] (bodyOf Tryz.f62) []).2

def st62_0 (a0 : Zm) (v1 v2 v3 v4 v5 v6 v7 : Int) : LS := ⟨slN 65 [(2, (.p 2 0)), (3, (.p 3 0)), (24, (.s 0 0 a0.1.length 3)), (25, (iv (a0.1.length : Int))), (26, (iv v1))], [(.live false true (flat c30 a0.1)), (.live false true (flat c94 a0.2)), (.live true false [(iv v2), (iv v3), (iv v4)]), (.live true false [(iv v5), (iv v6), (iv v7)])]⟩

def S62_0 (a0 : Zm) : Int × Int × Int × Int × Zt → (Int × Int × Int × Int × Zt) ⊕ (Zt × Zt × Int)
 | (v1, v2, v3, v4, v5, v6, v7) =>
  (bif (decide ((v1 : Int) < (a0.1.length : Int))) then
   (.inl ((v1 + 1), (if ((a0.1.getD (toNat v1) default).1 : Int) < v2 then (a0.1.getD (toNat v1) default).1 else v2), (if ((a0.1.getD (toNat v1) default).2.1 : Int) < v3 then (a0.1.getD (toNat v1) default).2.1 else v3), (if ((a0.1.getD (toNat v1) default).2.2 : Int) < v4 then (a0.1.getD (toNat v1) default).2.2 else v4), (if (v5 : Int) < (a0.1.getD (toNat v1) default).1 then (a0.1.getD (toNat v1) default).1 else v5), (if (v6 : Int) < (a0.1.getD (toNat v1) default).2.1 then (a0.1.getD (toNat v1) default).2.1 else v6), (if (v7 : Int) < (a0.1.getD (toNat v1) default).2.2 then (a0.1.getD (toNat v1) default).2.2 else v7)))
  else
   (.inr ((v2, v3, v4), (v5, v6, v7), 0)))

theorem L62_0 (a0 : Zm) (l0_1 : a0.1.length ≤ 9223372036854775807) (l0_2 : a0.2.length ≤ 9223372036854775807) {cx : Cx} (hcx : cx.base = 2) : ∀ (n : Nat) (v1 v2 v3 v4 v5 v6 v7 : Int), 0 ≤ v1 → toNat ((a0.1.length : Int) - v1) < n → Aw.Good Tryz.prog none 9 (bodyPost Tryz.prog Tryz.f62 (RR cx (.t [(.a (k3 (loopF (S62_0 a0) n (v1, v2, v3, v4, v5, v6, v7)).1)), (.a (k3 (loopF (S62_0 a0) n (v1, v2, v3, v4, v5, v6, v7)).2.1)), (iv (loopF (S62_0 a0) n (v1, v2, v3, v4, v5, v6, v7)).2.2)]) [] [])) cx [] (.l B62_0 n :: K62_0) (st62_0 a0 v1 v2 v3 v4 v5 v6 v7) := by
 intro n
 induction n with
 | zero => intro v1 v2 v3 v4 v5 v6 v7 hi hn; exact absurd hn (nlz _)
 | succ n ih =>
   intro v1 v2 v3 v4 v5 v6 v7 hi hn
   refine good_round ?_
   cases h0 : (decide ((v1 : Int) < (a0.1.length : Int))) with
   | true =>
    have q0 := odt h0
    have e := Eq.refl (S62_0 a0 (v1, v2, v3, v4, v5, v6, v7)); conv at e => rhs; simp only [S62_0, h0, cdb]
    rw [loopF_inl e]
    refine ba [.d h0, .i v1 (a0.1.length), .L c30_len a0.1 v1 0 3] [] [2, 3, 24, 25, 26] [2, 3] hcx (m := n) B62_0 (K62_0) (st62_0 a0 (W (v1 + 1)) (if ((a0.1.getD (toNat v1) default).1 : Int) < v2 then (a0.1.getD (toNat v1) default).1 else v2) (if ((a0.1.getD (toNat v1) default).2.1 : Int) < v3 then (a0.1.getD (toNat v1) default).2.1 else v3) (if ((a0.1.getD (toNat v1) default).2.2 : Int) < v4 then (a0.1.getD (toNat v1) default).2.2 else v4) (if (v5 : Int) < (a0.1.getD (toNat v1) default).1 then (a0.1.getD (toNat v1) default).1 else v5) (if (v6 : Int) < (a0.1.getD (toNat v1) default).2.1 then (a0.1.getD (toNat v1) default).2.1 else v6) (if (v7 : Int) < (a0.1.getD (toNat v1) default).2.2 then (a0.1.getD (toNat v1) default).2.2 else v7)) (by kernel_rfl) ?_
    have z0 : (W (v1 + 1)) = (v1 + 1) := W_eq (by omega) (by omega)
    rw [z0]
    exact ih (v1 + 1) (if ((a0.1.getD (toNat v1) default).1 : Int) < v2 then (a0.1.getD (toNat v1) default).1 else v2) (if ((a0.1.getD (toNat v1) default).2.1 : Int) < v3 then (a0.1.getD (toNat v1) default).2.1 else v3) (if ((a0.1.getD (toNat v1) default).2.2 : Int) < v4 then (a0.1.getD (toNat v1) default).2.2 else v4) (if (v5 : Int) < (a0.1.getD (toNat v1) default).1 then (a0.1.getD (toNat v1) default).1 else v5) (if (v6 : Int) < (a0.1.getD (toNat v1) default).2.1 then (a0.1.getD (toNat v1) default).2.1 else v6) (if (v7 : Int) < (a0.1.getD (toNat v1) default).2.2 then (a0.1.getD (toNat v1) default).2.2 else v7) (by (try simp only [Ls]); omega) (by (try simp only [Ls]); omega)
   | false =>
    have q0 := odf h0
    have e := Eq.refl (S62_0 a0 (v1, v2, v3, v4, v5, v6, v7)); conv at e => rhs; simp only [S62_0, h0, cdb]
    rw [loopF_s, e]
    exact rt [.d h0] [] [] hcx (by kernel_rfl)

def F62 (a0 : Zm) : Zt × Zt × Int :=
 (bif (((F35 (a0.1, a0.2)) : Int) != 0) then
  ((0, 0, 0), (0, 0, 0), (F35 (a0.1, a0.2)))
 else
  (loopF (S62_0 a0) (toNat ((a0.1.length : Int) - 0) + 1) (0, (a0.1.getD (toNat 0) default).1, (a0.1.getD (toNat 0) default).2.1, (a0.1.getD (toNat 0) default).2.2, (a0.1.getD (toNat 0) default).1, (a0.1.getD (toNat 0) default).2.1, (a0.1.getD (toNat 0) default).2.2)))

theorem C62 (a0 : Zm) (l0_1 : a0.1.length ≤ 9223372036854775807) (l0_2 : a0.2.length ≤ 9223372036854775807) : Con Tryz.prog 62 [(.a [(.s 0 0 a0.1.length 3), (.s 1 0 a0.2.length 3)])] [(.live false true (flat c30 a0.1)), (.live false true (flat c94 a0.2))] (.t [(.a (k3 (F62 a0).1)), (.a (k3 (F62 a0).2.1)), (iv (F62 a0).2.2)]) [] := by
 refine con_s Tryz.func62 (by kernel_rfl) fun cx hcx => ?_
 try have hp1 : 1 ≤ a0.1.length := (pts_one h0).1
 let t0 : List (St Tryz.prog) := [.c [0, 1] (C35 (a0.1, a0.2) (by (try simp only [Lt]); omega) (by (try simp only [Lt]); omega))]
 cases h0 : (((F35 (a0.1, a0.2)) : Int) != 0) with
 | true =>
  have q0 := bne_iff_ne.1 h0
  try have hp1 : 1 ≤ a0.1.length := (pts_one h0).1
  have e := Eq.refl (F62 a0); conv at e => rhs; simp only [F62, h0, cdb]
  rw [e]
  exact rt (t0 ++ [.d h0]) [] [] hcx (by kernel_rfl)
 | false =>
  have q0 := bne_eq_false_iff_eq.1 h0
  try have hp1 : 1 ≤ a0.1.length := (pts_one h0).1
  have e := Eq.refl (F62 a0); conv at e => rhs; simp only [F62, h0, cdb]
  rw [e]
  refine en (t0 ++ [.d h0, .i 0 (a0.1.length), .L c30_len a0.1 0 0 3, .i 0 (a0.1.length), .L c30_len a0.1 0 0 3]) [] [2, 3, 24, 25, 26] [3, 4] hcx B62_0 (K62_0) (st62_0 a0 0 ((a0.1.getD (toNat 0) default).1) ((a0.1.getD (toNat 0) default).2.1) ((a0.1.getD (toNat 0) default).2.2) ((a0.1.getD (toNat 0) default).1) ((a0.1.getD (toNat 0) default).2.1) ((a0.1.getD (toNat 0) default).2.2)) (toNat ((a0.1.length : Int) - 0) + 1) (by kernel_rfl) ?_
  exact L62_0 a0 l0_1 l0_2 hcx (toNat ((a0.1.length : Int) - 0) + 1) 0 ((a0.1.getD (toNat 0) default).1) ((a0.1.getD (toNat 0) default).2.1) ((a0.1.getD (toNat 0) default).2.2) ((a0.1.getD (toNat 0) default).1) ((a0.1.getD (toNat 0) default).2.1) ((a0.1.getD (toNat 0) default).2.2) (by (try simp only [Ls]); omega) (by (try simp only [Ls]); omega)

noncomputable def B57_0 : Code := (loopAtD [1, 1, 0, 1] [] (bodyOf Tryz.f57) []).1
noncomputable def K57_0 : List K := (loopAtD [1, 1, 0, 1] [] (bodyOf Tryz.f57) []).2

def st57_0 (a0 : Zm) (v1c : List SV) (v1n : Nat) (v2 : Int) : LS := ⟨slN 19 [(3, (.s 2 0 v1n 1)), (10, (iv (((toNat (a0.2.length : Int)) : Nat) : Int))), (11, (iv v2))], [(.live false true (flat c30 a0.1)), (.live false true (flat c94 a0.2)), (.live true true v1c)]⟩

def S57_0 (a0 : Zm) : List (Int) × Int → (List (Int) × Int) ⊕ (List (Int))
 | (v1, v2) =>
  (bif (decide ((v2 : Int) < (((toNat (a0.2.length : Int)) : Nat) : Int))) then
   (.inl ((v1.set (toNat v2) 1), (v2 + 1)))
  else
   (.inr v1))

theorem L57_0 (a0 : Zm) (l0_1 : a0.1.length ≤ 9223372036854775807) (l0_2 : a0.2.length ≤ 9223372036854775807) (hn : a0.2.length ≤ 96) {cx : Cx} (hcx : cx.base = 2) : ∀ (n : Nat) (v1 : List (Int)) (v2 : Int), (0 ≤ v2) ∧ (v1.length = a0.2.length) → toNat ((((toNat (a0.2.length : Int)) : Nat) : Int) - v2) < n → Aw.Good Tryz.prog none 9 (bodyPost Tryz.prog Tryz.f57 (RR cx (.s 2 0 (loopF (S57_0 a0) n (v1, v2)).length 1) [(.live true true (flat c3 (loopF (S57_0 a0) n (v1, v2))))] [])) cx [] (.l B57_0 n :: K57_0) (st57_0 a0 (flat c3 v1) v1.length v2) := by
 intro n
 induction n with
 | zero => intro v1 v2 hi hn; exact absurd hn (nlz _)
 | succ n ih =>
   intro v1 v2 hi hn
   refine good_round ?_
   cases h0 : (decide ((v2 : Int) < (((toNat (a0.2.length : Int)) : Nat) : Int))) with
   | true =>
    have q0 := odt h0
    have e := Eq.refl (S57_0 a0 (v1, v2)); conv at e => rhs; simp only [S57_0, h0, cdb]
    rw [loopF_inl e]
    refine ba [.d h0, .i v2 (v1.length), .p (show ((0 + toNat v2 * 1) + 1 ≤ (flat c3 v1).length) from (flat_setl c3_len (by first | omega | (simp only [Lt]; omega)) (o := 0) (Nb rfl)))] [] [3, 10, 11] [2] hcx (m := n) B57_0 (K57_0) (st57_0 a0 (splice (flat c3 v1) (0 + toNat v2 * 1) [(iv 1)]) (v1.length) (W (v2 + 1))) (by kernel_rfl) ?_
    have z0 : (W (v2 + 1)) = (v2 + 1) := W_eq (by omega) (by omega)
    have z1 : (splice (flat c3 v1) (0 + toNat v2 * 1) [(iv 1)]) = flat c3 (v1.set (toNat v2) 1) := (flat_set c3_len (by first | omega | (simp only [Lt]; omega)) (o := 0) (d := default) (Nb rfl) rfl)
    have z2 : v1.length = (v1.set (toNat v2) 1).length := by simp
    rw [z0, z1, z2]
    exact ih (v1.set (toNat v2) 1) (v2 + 1) (by refine ⟨?_, ?_⟩ <;> (try simp only [Ls]) <;> first | omega | assumption | simp) (by (try simp only [Ls]); omega)
   | false =>
    have q0 := odf h0
    have e := Eq.refl (S57_0 a0 (v1, v2)); conv at e => rhs; simp only [S57_0, h0, cdb]
    rw [loopF_s, e]
    exact rt [.d h0] [] [2] hcx (by kernel_rfl)

def F57 (a0 : Zm) : List (Int) :=
 (loopF (S57_0 a0) (toNat ((((toNat (a0.2.length : Int)) : Nat) : Int) - 0) + 1) ((List.replicate (toNat (a0.2.length : Int)) 0), 0))

theorem C57 (a0 : Zm) (l0_1 : a0.1.length ≤ 9223372036854775807) (l0_2 : a0.2.length ≤ 9223372036854775807) (hn : a0.2.length ≤ 96) : Con Tryz.prog 57 [(.a [(.s 0 0 a0.1.length 3), (.s 1 0 a0.2.length 3)])] [(.live false true (flat c30 a0.1)), (.live false true (flat c94 a0.2))] (.s 2 0 (F57 a0).length 1) [(.live true true (flat c3 (F57 a0)))] := by
 refine con_s Tryz.func57 (by kernel_rfl) fun cx hcx => ?_
 have e := Eq.refl (F57 a0); conv at e => rhs; simp only [F57]
 rw [e]
 refine en [.Z c3 0 [(iv 0)] (a0.2.length : Int) 8] [] [3, 10, 11] [3] hcx B57_0 (K57_0) (st57_0 a0 (flat c3 (List.replicate (toNat (a0.2.length : Int)) 0)) (toNat (a0.2.length : Int)) 0) (toNat ((((toNat (a0.2.length : Int)) : Nat) : Int) - 0) + 1) (by kernel_rfl) ?_
 have q := L57_0 a0 l0_1 l0_2 hn hcx (toNat ((((toNat (a0.2.length : Int)) : Nat) : Int) - 0) + 1) (List.replicate (toNat (a0.2.length : Int)) 0) 0 (by refine ⟨?_, ?_⟩ <;> (try simp only [Ls]) <;> first | omega | assumption | simp) (by (try simp only [Ls]); omega)
 simp only [List.length_replicate] at q
 exact q

def F30 (a0 : Zm) (a1 : Int) : Int × Int :=
 (bif (((F35 (a0.1, a0.2)) : Int) != 0) then
  (0, (F35 (a0.1, a0.2)))
 else
  (bif (!(F55 a1 0 2)) then
   (0, 1)
  else
   ((W ((W ((a0.2.length : Int) * (a0.2.length : Int))) * (W ((W (1 * 2 ^ (min (toNat (W (2 * a1))) 64))) + (W ((W (1 * 2 ^ (min (toNat (W (2 * a1))) 64))) * (W (1 * 2 ^ (min (toNat (W (2 * a1))) 64))))))))), 0)))

theorem C30 (a0 : Zm) (a1 : Int) (l0_1 : a0.1.length ≤ 9223372036854775807) (l0_2 : a0.2.length ≤ 9223372036854775807) : Con Tryz.prog 30 [(.a [(.s 0 0 a0.1.length 3), (.s 1 0 a0.2.length 3)]), (iv a1)] [(.live false true (flat c30 a0.1)), (.live false true (flat c94 a0.2))] (.t (k2 (F30 a0 a1))) [] := by
 refine con_s Tryz.func30 (by kernel_rfl) fun cx hcx => ?_
 try have hw1 := hwin_f h1
 let t0 : List (St Tryz.prog) := [.c [0, 1] (C35 (a0.1, a0.2) (by (try simp only [Lt]); omega) (by (try simp only [Lt]); omega))]
 cases h0 : (((F35 (a0.1, a0.2)) : Int) != 0) with
 | true =>
  have q0 := bne_iff_ne.1 h0
  try have hw1 := hwin_f h1
  have e := Eq.refl (F30 a0 a1); conv at e => rhs; simp only [F30, h0, cdb]
  rw [e]
  exact rt (t0 ++ [.d h0]) [] [] hcx (by kernel_rfl)
 | false =>
  have q0 := bne_eq_false_iff_eq.1 h0
  try have hw1 := hwin_f h1
  let t1 : List (St Tryz.prog) := (t0 ++ [.d h0, .c [] (C55 a1 0 2)])
  cases h1 : (!(F55 a1 0 2)) with
  | true =>
   try have hw1 := hwin_f h1
   have e := Eq.refl (F30 a0 a1); conv at e => rhs; simp only [F30, h0, h1, cdb]
   rw [e]
   exact rt (t1 ++ [.d h1]) [] [] hcx (by kernel_rfl)
  | false =>
   try have hw1 := hwin_f h1
   have e := Eq.refl (F30 a0 a1); conv at e => rhs; simp only [F30, h0, h1, cdb]
   rw [e]
   exact rt (t1 ++ [.d h1, .p (show 0 ≤ ((W (2 * a1)) : Int) from by first | omega | (rw [W_eq] <;> omega) | exact u64_nn _)]) [] [] hcx (by kernel_rfl)

noncomputable def B27_0 : Code := (loopAtD [1, 1, 1, 1, 1, 0, 1] [] (bodyOf Tryz.f27) []).1
noncomputable def K27_0 : List K := (loopAtD [1, 1, 1, 1, 1, 0, 1] [] (bodyOf Tryz.f27) []).2

def st27_0 (a0 : Zm) (a1 : Int) (v1 v2 v3 : Int) : LS := ⟨slN 38 [(1, (iv a1)), (2, (.p 2 0)), (7, (iv v1)), (8, (iv v2)), (9, (iv v3))], [(.live false true (flat c30 a0.1)), (.live false true (flat c94 a0.2)), (.live true false [(.s 0 0 a0.1.length 3), (.s 1 0 a0.2.length 3)])]⟩

def S27_0 (a0 : Zm) (a1 : Int) : Zt → Zt ⊕ (Int × Int)
 | (v1, v2, v3) =>
  (bif (decide ((v3 : Int) < a1)) then
   (.inl ((W (v1 * 4)), (W (v2 * 16)), (v3 + 1)))
  else
   (.inr ((W ((W ((a0.2.length : Int) * (a0.2.length : Int))) * (W (v1 + v2)))), 0)))

theorem L27_0 (a0 : Zm) (a1 : Int) (l0_1 : a0.1.length ≤ 9223372036854775807) (l0_2 : a0.2.length ≤ 9223372036854775807) {cx : Cx} (hcx : cx.base = 2) : ∀ (n : Nat) (v1 v2 v3 : Int), (0 ≤ v3) ∧ (a1 ≤ 2) → toNat (a1 - v3) < n → Aw.Good Tryz.prog none 9 (bodyPost Tryz.prog Tryz.f27 (RR cx (.t (k2 (loopF (S27_0 a0 a1) n (v1, v2, v3)))) [] [])) cx [] (.l B27_0 n :: K27_0) (st27_0 a0 a1 v1 v2 v3) := by
 intro n
 induction n with
 | zero => intro v1 v2 v3 hi hn; exact absurd hn (nlz _)
 | succ n ih =>
   intro v1 v2 v3 hi hn
   refine good_round ?_
   cases h0 : (decide ((v3 : Int) < a1)) with
   | true =>
    have q0 := odt h0
    have e := Eq.refl (S27_0 a0 a1 (v1, v2, v3)); conv at e => rhs; simp only [S27_0, h0, cdb]
    rw [loopF_inl e]
    refine ba [.d h0] [] [1, 2, 7, 8, 9] [2] hcx (m := n) B27_0 (K27_0) (st27_0 a0 a1 (W (v1 * 4)) (W (v2 * 16)) (W (v3 + 1))) (by kernel_rfl) ?_
    have z0 : (W (v3 + 1)) = (v3 + 1) := W_eq (by omega) (by omega)
    rw [z0]
    exact ih (W (v1 * 4)) (W (v2 * 16)) (v3 + 1) (by refine ⟨?_, ?_⟩ <;> (try simp only [Ls]) <;> first | omega | assumption | simp) (by (try simp only [Ls]); omega)
   | false =>
    have q0 := odf h0
    have e := Eq.refl (S27_0 a0 a1 (v1, v2, v3)); conv at e => rhs; simp only [S27_0, h0, cdb]
    rw [loopF_s, e]
    exact rt [.d h0] [] [] hcx (by kernel_rfl)

def F27 (a0 : Zm) (a1 : Int) : Int × Int :=
 (bif (((F50 (a0.1, a0.2)) : Int) != 0) then
  (0, (F50 (a0.1, a0.2)))
 else
  (bif (!(F52 a1 0 2)) then
   (0, 1)
  else
   (loopF (S27_0 a0 a1) (toNat (a1 - 0) + 1) (1, 1, 0))))

theorem C27 (a0 : Zm) (a1 : Int) (l0_1 : a0.1.length ≤ 9223372036854775807) (l0_2 : a0.2.length ≤ 9223372036854775807) : Con Tryz.prog 27 [(.a [(.s 0 0 a0.1.length 3), (.s 1 0 a0.2.length 3)]), (iv a1)] [(.live false true (flat c30 a0.1)), (.live false true (flat c94 a0.2))] (.t (k2 (F27 a0 a1))) [] := by
 refine con_s Tryz.func27 (by kernel_rfl) fun cx hcx => ?_
 try have hw1 := hwin_r h1
 let t0 : List (St Tryz.prog) := [.c [0, 1] (C50 (a0.1, a0.2) (by (try simp only [Lt]); omega) (by (try simp only [Lt]); omega))]
 cases h0 : (((F50 (a0.1, a0.2)) : Int) != 0) with
 | true =>
  have q0 := bne_iff_ne.1 h0
  try have hw1 := hwin_r h1
  have e := Eq.refl (F27 a0 a1); conv at e => rhs; simp only [F27, h0, cdb]
  rw [e]
  exact rt (t0 ++ [.d h0]) [] [] hcx (by kernel_rfl)
 | false =>
  have q0 := bne_eq_false_iff_eq.1 h0
  try have hw1 := hwin_r h1
  let t1 : List (St Tryz.prog) := (t0 ++ [.d h0, .c [] (C52 a1 0 2)])
  cases h1 : (!(F52 a1 0 2)) with
  | true =>
   try have hw1 := hwin_r h1
   have e := Eq.refl (F27 a0 a1); conv at e => rhs; simp only [F27, h0, h1, cdb]
   rw [e]
   exact rt (t1 ++ [.d h1]) [] [] hcx (by kernel_rfl)
  | false =>
   try have hw1 := hwin_r h1
   have e := Eq.refl (F27 a0 a1); conv at e => rhs; simp only [F27, h0, h1, cdb]
   rw [e]
   refine en (t1 ++ [.d h1]) [] [1, 2, 7, 8, 9] [2] hcx B27_0 (K27_0) (st27_0 a0 a1 1 1 0) (toNat (a1 - 0) + 1) (by kernel_rfl) ?_
   exact L27_0 a0 a1 l0_1 l0_2 hcx (toNat (a1 - 0) + 1) 1 1 0 (by refine ⟨?_, ?_⟩ <;> (try simp only [Ls]) <;> first | omega | assumption | simp) (by (try simp only [Ls]); omega)

def F29 : Zm :=
 (([(1, 0, 0), ((-1), 0, 0), (0, 1, 0), (0, (-1), 0), (0, 0, 1), (0, 0, (-1))] : List Zt), ([(0, 2, 4), (2, 1, 4), (1, 3, 4), (3, 0, 4), (2, 0, 5), (1, 2, 5), (3, 1, 5), (0, 3, 5)] : List Zt))

theorem C29 : Con Tryz.prog 29 [] [] (.a [(.s 0 0 F29.1.length 3), (.s 1 0 F29.2.length 3)]) [(.live true true (flat c30 F29.1)), (.live true true (flat c94 F29.2))] := by
 refine con_s Tryz.func29 (by kernel_rfl) fun cx hcx => ?_
 have e := Eq.refl F29; conv at e => rhs; simp only [F29]
 rw [e]
 exact rt [] [.sym 1 true, .sym 2 true] [1, 2] hcx (by kernel_rfl)

def F9 (a0 : Zm) (a1 : Int) : Bool :=
 (bif (decide (((a0.1.length : Int) : Int) > 200)) then
  true
 else
  (bif (decide (((a0.2.length : Int) : Int) > 200)) then
   true
  else
   (bif (((F27 (a0.1, a0.2) a1).2 : Int) == 0) then
    (decide (((F27 (a0.1, a0.2) a1).1 : Int) > 20000))
   else
    false)))

theorem C9 (a0 : Zm) (a1 : Int) (l0_1 : a0.1.length ≤ 9223372036854775807) (l0_2 : a0.2.length ≤ 9223372036854775807) : Con Tryz.prog 9 [(.a [(.s 0 0 a0.1.length 3), (.s 1 0 a0.2.length 3)]), (iv a1)] [(.live false true (flat c30 a0.1)), (.live false true (flat c94 a0.2))] (.v (.bool (F9 a0 a1))) [] := by
 refine con_s Tryz.func9 (by kernel_rfl) fun cx hcx => ?_
 cases h0 : (decide (((a0.1.length : Int) : Int) > 200)) with
 | true =>
  have q0 := odt h0
  have e := Eq.refl (F9 a0 a1); conv at e => rhs; simp only [F9, h0, cdb]
  rw [e]
  exact rt [.d h0] [] [] hcx (by kernel_rfl)
 | false =>
  have q0 := odf h0
  let t1 : List (St Tryz.prog) := [.d h0]
  cases h1 : (decide (((a0.2.length : Int) : Int) > 200)) with
  | true =>
   have q1 := odt h1
   have e := Eq.refl (F9 a0 a1); conv at e => rhs; simp only [F9, h0, h1, cdb]
   rw [e]
   exact rt (t1 ++ [.d h1]) [] [] hcx (by kernel_rfl)
  | false =>
   have q1 := odf h1
   let t2 : List (St Tryz.prog) := (t1 ++ [.d h1, .c [0, 1] (C27 (a0.1, a0.2) a1 (by (try simp only [Lt]); omega) (by (try simp only [Lt]); omega))])
   cases h2 : (((F27 (a0.1, a0.2) a1).2 : Int) == 0) with
   | true =>
    have q2 := eq_of_beq h2
    have e := Eq.refl (F9 a0 a1); conv at e => rhs; simp only [F9, h0, h1, h2, cdb]
    rw [e]
    exact rt (t2 ++ [.d h2]) [] [] hcx (by kernel_rfl)
   | false =>
    have q2 := ne_of_beq_false h2
    have e := Eq.refl (F9 a0 a1); conv at e => rhs; simp only [F9, h0, h1, h2, cdb]
    rw [e]
    exact rt (t2 ++ [.d h2]) [] [] hcx (by kernel_rfl)


theorem of1_ge {s n : Int} (hs : s = 1 ∨ s = 2 ∨ s = 4 ∨ s = 8) (h1 : 1 ≤ n) (h2 : n ≤ 1099511627776) : 1 ≤ (of1 s n).1 := by
 unfold of1
 rw [if_neg (by omega)]
 unfold inv
 have hN : 1099511627776 ≤ NN s := by rcases hs with rfl | rfl | rfl | rfl <;> decide
 have hb := NN_bd hs
 obtain ⟨q1, q2, q3⟩ := quo_bd hb.1 h1
 have hq : 1 ≤ NN s / n := Int.le_ediv_of_mul_le (by omega) (by omega)
 have hr := rtSpan (n := NN s / n) q1 (by omega)
 exact hr.ge (by omega) (by omega)
theorem fa3_pos {p c q : PN} {d : Int} (hp : vp p = 0) (hd : 0 ≤ d ∧ d ≤ 3) (hc : c ∈ cutL d.toNat p) : 1 ≤ fa3 c q := by
 obtain ⟨g1, g2, g3⟩ := fa3_ge c q
 obtain ⟨hb, hn⟩ := vp_ok hp
 have h := nn_far c q.1 g1 g2 g3
 rw [nrm_in hb hd hc] at h
 rcases Int.lt_or_le (fa3 c q) 1 with h' | h'
 · have h0 : 0 ≤ fa3 c q := Int.le_trans (dt_self _) g1
   have : fa3 c q = 0 := by omega
   rw [this] at h; omega
 · exact h'
theorem sum_ge {α : Type} {g : α → Int} : ∀ (l : List α), (∀ c ∈ l, 1 ≤ g c) → (l.length : Int) ≤ (l.map g).sum
 | [], _ => by simp
 | c :: l, h => by
   have h1 := h c List.mem_cons_self
   have h2 := sum_ge l (fun c hc => h c (List.mem_cons_of_mem _ hc))
   simp only [List.map_cons, List.sum_cons, List.length_cons]; omega
theorem div_ge {v n : Int} (hn : 1 ≤ n) (h : n ≤ v) : 1 ≤ v / n := Int.le_ediv_of_mul_le (by omega) (by omega)
theorem bet_pos {p q : PN} {d : Int} (hp : vp p = 0) (hq : bdP 5000 q) (hd : 0 ≤ d ∧ d ≤ 3) : 1 ≤ (betS p q d).1 := by
 have hlen := cnt_len hd p
 have hc := cnt_in d
 unfold betS avg
 rw [accS_eq]
 simp only [Int.zero_add]
 refine div_ge (by omega) ?_
 rw [← hlen]
 refine sum_ge _ (fun c hcm => ?_)
 have hcb := (cutL_in (vp_ok hp).1 hd hcm).mono (show (512 : Int) ≤ 5000 by omega)
 have := fa3_bd hcb hq
 exact of1_ge (sc_in d) (fa3_pos hp hd hcm) (by omega)
def okP (a : Int × Int) : Prop := 1 ≤ a.1 ∧ a.1 ≤ a.2 ∧ a.2 ≤ 536870913
theorem bet_okP {p q : PN} {d : Int} (hp : vp p = 0) (hq : bdP 5000 q) (hd : 0 ≤ d ∧ d ≤ 3) : okP (betS p q d) := by
 have h1 := bet_pos hp hq hd
 have h2 := bet_ok (q := q) hp hd
 unfold okE at h2
 exact ⟨h1, h2.2.1, h2.2.2⟩
theorem Between_f {p q : PN} {d : Int} (h : pk p q d = 0) : F60 p q d = (betS p (tmP (sc d) q) d, 0) := by
 unfold F60
 rw [pair_eq, h]
 obtain ⟨h1, h2, h3⟩ := pk_ok h
 have hs := sc_bd d
 have hq := (vp_ok h2).1
 have hq' := hq.mono (show (64 : Int) ≤ 4096 by omega)
 have hd : 0 ≤ d ∧ d ≤ 3 := by omega
 have e1 := bet_f h1 (tmP_bd hs hq) hd
 unfold tmP at e1 ⊢
 rw [sc_f hd, tm_f hs hq'.1, tm_f hs hq'.2.1, tm_f hs hq'.2.2, e1]; rfl
theorem Between_okP {p q : PN} {d : Int} (h : pk p q d = 0) : (F60 p q d).2 = 0 ∧ okP (F60 p q d).1 := by
 rw [Between_f h]
 obtain ⟨h1, h2, h3⟩ := pk_ok h
 exact ⟨rfl, bet_okP h1 (tmP_bd (sc_bd d) (vp_ok h2).1) (by omega)⟩
theorem Mutual_okP {p q : PN} {d : Int} (h : pk p q d = 0) : (F61 p q d).2 = 0 ∧ okP (F61 p q d).1 := by
 rw [Mutual_f]
 obtain ⟨h1, h2, h3⟩ := pk_ok h
 have hd : 0 ≤ d ∧ d ≤ 3 := by omega
 unfold mutV
 rw [if_pos h]
 refine ⟨rfl, ?_⟩
 have hl := mutL_len (p := p) (q := q) hd
 have hc := cnt_in d
 have hpos : ∀ a ∈ mutL p q d, okP a := by
   intro a ha
   obtain ⟨b, hb, rfl⟩ := List.mem_map.1 ha
   exact bet_okP h1 ((cutL_in (vp_ok h2).1 hd hb).mono (by omega)) hd
 have hs1 : sc d * sc d ≤ ((mutL p q d).map (·.1)).sum := by rw [← hl]; exact sum_ge _ (fun a ha => (hpos a ha).1)
 have key : ∀ l : List (Int × Int), (∀ a ∈ l, okP a) → (l.map (·.1)).sum ≤ (l.map (·.2)).sum ∧ (l.map (·.2)).sum ≤ 536870913 * (l.length : Nat) := by
   intro l
   induction l with
   | nil => intro _; simp
   | cons c l ih =>
     intro h
     obtain ⟨a1, a2, a3⟩ := h c List.mem_cons_self
     have h2 := ih (fun c hc => h c (List.mem_cons_of_mem _ hc))
     simp only [List.map_cons, List.sum_cons, List.length_cons]; omega
 have hk := key _ hpos
 rw [hl] at hk
 rw [sums_eq]
 unfold avg okP
 simp only [Int.zero_add]
 generalize ((mutL p q d).map (·.1)).sum = x at *
 generalize ((mutL p q d).map (·.2)).sum = y at *
 rcases hc with e | e | e | e <;> rw [e] at hs1 hk ⊢ <;> omega
theorem pts_bd (m : ME) : ∀ (n i : Nat) (v : List (P3 × Bool)), m.1.length - i < n → loopF (S68_0 m) n (v, (i : Int)) = 0 → ∀ j, i ≤ j → j < m.1.length → bd 64 (m.1.getD j default) := by
 intro n
 induction n with
 | zero => intro i v h; omega
 | succ n ih =>
   intro i v hn h j h1 h2
   have hw : ((i : Nat) : Int) < (m.1.length : Int) := by omega
   cases hr : F36 (m.1.getD i default) 64 with
   | false =>
     have e1 : S68_0 m (v, (i : Int)) = .inr 1 := by
       simp only [S68_0]; rw [dqt hw, cond_true, itn, hr]; rfl
     rw [loopF_inr e1] at h; exact absurd h (by decide)
   | true =>
     cases hg : mget v (m.1.getD i default) false with
     | true =>
       have e1 : S68_0 m (v, (i : Int)) = .inr 1 := by
         simp only [S68_0]; rw [dqt hw, cond_true, itn, hr, hg]; rfl
       rw [loopF_inr e1] at h; exact absurd h (by decide)
     | false =>
       have e1 : S68_0 m (v, (i : Int)) = .inl (mput v (m.1.getD i default) true, ((i + 1 : Nat) : Int)) := by
         simp only [S68_0]; rw [dqt hw, cond_true, itn, hr, hg]; rfl
       rw [loopF_inl e1] at h
       by_cases hj : j = i
       · subst hj
         classical
         rw [inRange_eq] at hr
         exact odt hr
       · exact ih (i + 1) _ (by omega) h j (by omega) h2
theorem vld_pts {m : ME} (h : F35 m = 0) : ∀ j, j < m.1.length → bd 64 (m.1.getD j default) := by
 obtain ⟨_, _, _, h4, _⟩ := val_parts h
 exact fun j hj => pts_bd m _ 0 [] (by omega) h4 j (Nat.zero_le _) hj
theorem vld_pan {m : ME} (h : F35 m = 0) : ∀ c ∈ m.2, vp (F101 m c) = 0 := by
 intro c hc
 obtain ⟨i, hi⟩ := List.getElem?_of_mem hc
 obtain ⟨hlt, _⟩ := List.getElem?_eq_some_iff.1 hi
 have hpt := vld_pts h
 obtain ⟨h64, _, _, _, hf⟩ := val_parts h
 have hfc := hf (i : Int) (by omega) (by omega)
 rw [getD_of hi] at hfc
 have hin : inF m.1.length c := face_in (m := m) (by rw [hfc]; rfl) h64
 have hb : bdP 64 (F101 m c) := ⟨hpt _ (by have := hin.1; omega), hpt _ (by have := hin.2.1; omega), hpt _ (by have := hin.2.2; omega)⟩
 unfold F69 at hfc
 have hw : W ((m.1.length : Int) - 1) = (m.1.length : Int) - 1 := W_eq (by omega) (by omega)
 have fr : ∀ x : Int, 0 ≤ x ∧ x < (m.1.length : Int) → (!F43 x 0 (W ((m.1.length : Int) - 1))) = false := by
   intro x hx
   unfold F43
   rw [hw, dqt hx.1, dqt (show x ≤ (m.1.length : Int) - 1 by omega)]; rfl
 rw [fr _ hin.1, fr _ hin.2.1, fr _ hin.2.2, cond_false, cond_false, cond_false, show F100 (F101 (m.1, m.2) c) = nrm (F101 m c) from nrm_s hb] at hfc
 unfold vp
 rw [if_pos hb]
 generalize nrm (F101 m c) = q at hfc ⊢
 by_cases hz : q.1 = 0 ∧ q.2.1 = 0 ∧ q.2.2 = 0
 · rw [hz.1, hz.2.1, hz.2.2] at hfc; exact absurd hfc (by decide)
 · rw [if_neg hz]
theorem vld_pk {m : ME} (h : F35 m = 0) {d : Int} (hd : 0 ≤ d ∧ d ≤ 2) {p q : PN} (hp : p ∈ m.2.map (F101 m)) (hq : q ∈ m.2.map (F101 m)) : pk p q d = 0 := by
 obtain ⟨a, ha, rfl⟩ := List.mem_map.1 hp
 obtain ⟨b, hb, rfl⟩ := List.mem_map.1 hq
 unfold pk
 rw [if_pos (vld_pan h a ha), if_pos (vld_pan h b hb), if_pos hd]

end Go.Proofs.YtaeagjnpobdglaaGreat
