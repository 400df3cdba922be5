/-
  Parts of the proofs of the laws: the executor, what functions of the program compute, and that it is what the statements ask. No premise.
-/
import Derived.Test.YthpgabaeefifbaaGreatVPhx5
namespace Go.Proofs.YthpgabaeefifbaaGreat
open Go.Proofs Go.Aw Go.RowKit
set_option maxRecDepth 100000
set_option linter.unusedVariables false
set_option linter.unusedSimpArgs false

/-! ### Entries of lists of spans -/
theorem at_snd {l : List (Int × Int)} (h : ∀ s ∈ l, 1 ≤ s.2) (j : Int) : (0 ≤ j ∧ j < ((l.length : Nat) : Int)) → 1 ≤ (l.getD (Int.toNat j) default).2 := fun g => by
  have hlt : Int.toNat j < l.length := by omega
  rw [List.getD_eq_getElem?_getD, List.getElem?_eq_getElem hlt, Option.getD_some]
  exact h _ (List.getElem_mem hlt)
theorem at_fst {l : List (Int × Int)} (h : ∀ s ∈ l, 1 ≤ s.1) (j : Int) : (0 ≤ j ∧ j < ((l.length : Nat) : Int)) → 1 ≤ (l.getD (Int.toNat j) default).1 := fun g => by
  have hlt : Int.toNat j < l.length := by omega
  rw [List.getD_eq_getElem?_getD, List.getElem?_eq_getElem hlt, Option.getD_some]
  exact h _ (List.getElem_mem hlt)
theorem at0_snd {l : List (Int × Int)} (h : ∀ s ∈ l, 1 ≤ s.2) (hl : 1 ≤ l.length) : 1 ≤ (l.getD 0 default).2 := at_snd h 0 (by omega)
theorem at0_fst {l : List (Int × Int)} (h : ∀ s ∈ l, 1 ≤ s.1) (hl : 1 ≤ l.length) : 1 ≤ (l.getD 0 default).1 := at_fst h 0 (by omega)
theorem imx_bd (a b : Int) : a ≤ imx a b ∧ b ≤ imx a b ∧ (imx a b = a ∨ imx a b = b) := by unfold imx; split <;> omega
theorem imn_bd (a b : Int) : imn a b ≤ a ∧ imn a b ≤ b ∧ (imn a b = a ∨ imn a b = b) := by unfold imn; split <;> omega

def F104 (a0 : Int) (a1 : Int) : Int :=
  (W (Int.tdiv (W ((W (a0 + a1)) - 1)) a1))

theorem C104 (a0 : Int) (a1 : Int) (hd : a1 ≠ 0) : Con Tryz.prog 104 [(iv a0), (iv a1)] [] (iv (F104 a0 a1)) [] := by
  refine con_s Tryz.func104 (by kernel_rfl) fun cx hcx => ?_
  have e := Eq.refl (F104 a0 a1); conv at e => rhs; simp only [F104]
  rw [e]
  exact rt [.p (show (a1 : Int) ≠ 0 from by first | omega | (rw [W_eq] <;> omega) | exact u64_nn _)] [] [] hcx (by kernel_rfl)

noncomputable def B52_L_L_0 : Code := (loopAtD [1, 1, 0, 1] [] (bodyOf Tryz.f52) []).1
noncomputable def K52_L_L_0 : List K := (loopAtD [1, 1, 0, 1] [] (bodyOf Tryz.f52) []).2

def st52_L_L_0 (a0 : List (Int × Int)) (a1 : List (Int)) (v1 : Int) (v2 : Int) : LS := ⟨slN 31 [(1, (.s 1 0 a1.length 1)), (6, (iv v1)), (13, (.s 0 0 a0.length 2)), (14, (iv ((a0.length : Nat) : Int))), (15, (iv v2))], [(.live false true (flat c41 a0)), (.live false true (flat c3 a1))]⟩

def S52_L_L_0 (a0 : List (Int × Int)) (a1 : List (Int)) : Int × Int → (Int × Int) ⊕ (Int × Int)
  | (v1, v2) =>
   (bif (decide ((v2 : Int) < ((a0.length : Nat) : Int))) then
    (.inl ((imx v1 (a0.getD (Int.toNat v2) default).2), (v2 + 1)))
   else
    (.inr ((F102 (W (Int.tdiv (F103_L a1) v1))).1, (F102 (W (Int.tdiv (F103_L a1) v1))).2)))

set_option maxHeartbeats 4000000 in
theorem L52_L_L_0 (a0 : List (Int × Int)) (a1 : List (Int)) (l0 : a0.length ≤ 9223372036854775807) (l1 : a1.length ≤ 9223372036854775807) (hl : 1 ≤ a0.length) (hp : ∀ s ∈ a0, 1 ≤ s.2) {cx : Cx} (hcx : cx.base = 2) : ∀ (n : Nat) (v1 : Int) (v2 : Int), (0 ≤ v2) ∧ (1 ≤ v1) → Int.toNat (((a0.length : Nat) : Int) - v2) < n → Aw.Good Tryz.prog none 9 (bodyPost Tryz.prog Tryz.f52 (RR cx (.t (k2 (loopF (S52_L_L_0 a0 a1) n (v1, v2)))) [] [])) cx [] (.l B52_L_L_0 n :: K52_L_L_0) (st52_L_L_0 a0 a1 v1 v2) := by
  intro n
  induction n with
  | zero => intro v1 v2 hi hn; exact absurd hn (Nat.not_lt_zero _)
  | succ n ih =>
    intro v1 v2 hi hn
    refine good_round ?_
    have hps := at_snd hp v2
    have hmx := imx_bd v1 (a0.getD (Int.toNat v2) default).2
    cases h0 : (decide ((v2 : Int) < ((a0.length : Nat) : Int))) with
    | true =>
     have q0 := of_decide_eq_true h0
     have e := Eq.refl (S52_L_L_0 a0 a1 (v1, v2)); conv at e => rhs; simp only [S52_L_L_0, h0, cond_true, cond_false]
     rw [loopF_inl e]
     refine ba [.d h0, .i v2 (a0.length), .L c41_len a0 v2 0 2] [] [1, 6, 13, 14, 15] [] hcx (m := n) B52_L_L_0 (K52_L_L_0) (st52_L_L_0 a0 a1 (imx v1 (a0.getD (Int.toNat v2) default).2) (W (v2 + 1))) (by kernel_rfl) ?_
     have z0 : (W (v2 + 1)) = (v2 + 1) := W_eq (by omega) (by omega)
     rw [z0]
     exact ih (imx v1 (a0.getD (Int.toNat v2) default).2) (v2 + 1) (by refine ⟨?_, ?_⟩ <;> (try simp only [List.length_append, List.length_cons, List.length_nil, Int.toNat_zero]) <;> first | omega | assumption | simp) (by (try simp only [List.length_append, List.length_cons, List.length_nil, Int.toNat_zero]); omega)
    | false =>
     have q0 := of_decide_eq_false h0
     have e := Eq.refl (S52_L_L_0 a0 a1 (v1, v2)); conv at e => rhs; simp only [S52_L_L_0, h0, cond_true, cond_false]
     rw [loopF_s, e]
     exact rt [.d h0, .c [1] (C103_L a1 (by (try simp only [List.length_append, List.length_cons, List.length_nil, Int.toNat_zero]); omega)), .p (show (v1 : Int) ≠ 0 from by first | omega | (rw [W_eq] <;> omega) | exact u64_nn _), .c [] (C102 (W (Int.tdiv (F103_L a1) v1)))] [] [] hcx (by kernel_rfl)

def F52_L_L (a0 : List (Int × Int)) (a1 : List (Int)) : Int × Int :=
  (loopF (S52_L_L_0 a0 a1) (Int.toNat (((a0.length : Nat) : Int) - 0) + 1) ((a0.getD (Int.toNat 0) default).2, 0))

theorem C52_L_L (a0 : List (Int × Int)) (a1 : List (Int)) (l0 : a0.length ≤ 9223372036854775807) (l1 : a1.length ≤ 9223372036854775807) (hl : 1 ≤ a0.length) (hp : ∀ s ∈ a0, 1 ≤ s.2) : Con Tryz.prog 52 [(.s 0 0 a0.length 2), (.s 1 0 a1.length 1)] [(.live false true (flat c41 a0)), (.live false true (flat c3 a1))] (.t (k2 (F52_L_L a0 a1))) [] := by
  refine con_s Tryz.func52 (by kernel_rfl) fun cx hcx => ?_
  have hp0 := at0_snd hp hl
  have e := Eq.refl (F52_L_L a0 a1); conv at e => rhs; simp only [F52_L_L]
  rw [e]
  refine en [.i 0 (a0.length), .L c41_len a0 0 1 1] [] [1, 6, 13, 14, 15] [] hcx B52_L_L_0 (K52_L_L_0) (st52_L_L_0 a0 a1 ((a0.getD (Int.toNat 0) default).2) 0) (Int.toNat (((a0.length : Nat) : Int) - 0) + 1) (by kernel_rfl) ?_
  exact L52_L_L_0 a0 a1 l0 l1 hl hp hcx (Int.toNat (((a0.length : Nat) : Int) - 0) + 1) ((a0.getD (Int.toNat 0) default).2) 0 (by refine ⟨?_, ?_⟩ <;> (try simp only [List.length_append, List.length_cons, List.length_nil, Int.toNat_zero]) <;> first | omega | assumption | simp) (by (try simp only [List.length_append, List.length_cons, List.length_nil, Int.toNat_zero]); omega)

noncomputable def B55_L_L_0 : Code := (loopAtD [1, 1, 0, 1] [] (bodyOf Tryz.f55) []).1
noncomputable def K55_L_L_0 : List K := (loopAtD [1, 1, 0, 1] [] (bodyOf Tryz.f55) []).2

def st55_L_L_0 (a0 : List (Int × Int)) (a1 : List (Int)) (v1 : Int) (v2 : Int) : LS := ⟨slN 31 [(1, (.s 1 0 a1.length 1)), (6, (iv v1)), (13, (.s 0 0 a0.length 2)), (14, (iv ((a0.length : Nat) : Int))), (15, (iv v2))], [(.live false true (flat c41 a0)), (.live false true (flat c3 a1))]⟩

def S55_L_L_0 (a0 : List (Int × Int)) (a1 : List (Int)) : Int × Int → (Int × Int) ⊕ (Int × Int)
  | (v1, v2) =>
   (bif (decide ((v2 : Int) < ((a0.length : Nat) : Int))) then
    (.inl ((imn v1 (a0.getD (Int.toNat v2) default).1), (v2 + 1)))
   else
    (.inr ((F102 (F104 (F103_L a1) v1)).1, (F102 (F104 (F103_L a1) v1)).2)))

set_option maxHeartbeats 4000000 in
theorem L55_L_L_0 (a0 : List (Int × Int)) (a1 : List (Int)) (l0 : a0.length ≤ 9223372036854775807) (l1 : a1.length ≤ 9223372036854775807) (hl : 1 ≤ a0.length) (hp : ∀ s ∈ a0, 1 ≤ s.1) {cx : Cx} (hcx : cx.base = 2) : ∀ (n : Nat) (v1 : Int) (v2 : Int), (0 ≤ v2) ∧ (1 ≤ v1) → Int.toNat (((a0.length : Nat) : Int) - v2) < n → Aw.Good Tryz.prog none 9 (bodyPost Tryz.prog Tryz.f55 (RR cx (.t (k2 (loopF (S55_L_L_0 a0 a1) n (v1, v2)))) [] [])) cx [] (.l B55_L_L_0 n :: K55_L_L_0) (st55_L_L_0 a0 a1 v1 v2) := by
  intro n
  induction n with
  | zero => intro v1 v2 hi hn; exact absurd hn (Nat.not_lt_zero _)
  | succ n ih =>
    intro v1 v2 hi hn
    refine good_round ?_
    have hps := at_fst hp v2
    have hmx := imn_bd v1 (a0.getD (Int.toNat v2) default).1
    cases h0 : (decide ((v2 : Int) < ((a0.length : Nat) : Int))) with
    | true =>
     have q0 := of_decide_eq_true h0
     have e := Eq.refl (S55_L_L_0 a0 a1 (v1, v2)); conv at e => rhs; simp only [S55_L_L_0, h0, cond_true, cond_false]
     rw [loopF_inl e]
     refine ba [.d h0, .i v2 (a0.length), .L c41_len a0 v2 0 2] [] [1, 6, 13, 14, 15] [] hcx (m := n) B55_L_L_0 (K55_L_L_0) (st55_L_L_0 a0 a1 (imn v1 (a0.getD (Int.toNat v2) default).1) (W (v2 + 1))) (by kernel_rfl) ?_
     have z0 : (W (v2 + 1)) = (v2 + 1) := W_eq (by omega) (by omega)
     rw [z0]
     exact ih (imn v1 (a0.getD (Int.toNat v2) default).1) (v2 + 1) (by refine ⟨?_, ?_⟩ <;> (try simp only [List.length_append, List.length_cons, List.length_nil, Int.toNat_zero]) <;> first | omega | assumption | simp) (by (try simp only [List.length_append, List.length_cons, List.length_nil, Int.toNat_zero]); omega)
    | false =>
     have q0 := of_decide_eq_false h0
     have e := Eq.refl (S55_L_L_0 a0 a1 (v1, v2)); conv at e => rhs; simp only [S55_L_L_0, h0, cond_true, cond_false]
     rw [loopF_s, e]
     exact rt [.d h0, .c [1] (C103_L a1 (by (try simp only [List.length_append, List.length_cons, List.length_nil, Int.toNat_zero]); omega)), .c [] (C104 (F103_L a1) v1  (by omega)), .c [] (C102 (F104 (F103_L a1) v1))] [] [] hcx (by kernel_rfl)

def F55_L_L (a0 : List (Int × Int)) (a1 : List (Int)) : Int × Int :=
  (loopF (S55_L_L_0 a0 a1) (Int.toNat (((a0.length : Nat) : Int) - 0) + 1) ((a0.getD (Int.toNat 0) default).1, 0))

theorem C55_L_L (a0 : List (Int × Int)) (a1 : List (Int)) (l0 : a0.length ≤ 9223372036854775807) (l1 : a1.length ≤ 9223372036854775807) (hl : 1 ≤ a0.length) (hp : ∀ s ∈ a0, 1 ≤ s.1) : Con Tryz.prog 55 [(.s 0 0 a0.length 2), (.s 1 0 a1.length 1)] [(.live false true (flat c41 a0)), (.live false true (flat c3 a1))] (.t (k2 (F55_L_L a0 a1))) [] := by
  refine con_s Tryz.func55 (by kernel_rfl) fun cx hcx => ?_
  have hp0 := at0_fst hp hl
  have e := Eq.refl (F55_L_L a0 a1); conv at e => rhs; simp only [F55_L_L]
  rw [e]
  refine en [.i 0 (a0.length), .L c41_len a0 0 0 1] [] [1, 6, 13, 14, 15] [] hcx B55_L_L_0 (K55_L_L_0) (st55_L_L_0 a0 a1 ((a0.getD (Int.toNat 0) default).1) 0) (Int.toNat (((a0.length : Nat) : Int) - 0) + 1) (by kernel_rfl) ?_
  exact L55_L_L_0 a0 a1 l0 l1 hl hp hcx (Int.toNat (((a0.length : Nat) : Int) - 0) + 1) ((a0.getD (Int.toNat 0) default).1) 0 (by refine ⟨?_, ?_⟩ <;> (try simp only [List.length_append, List.length_cons, List.length_nil, Int.toNat_zero]) <;> first | omega | assumption | simp) (by (try simp only [List.length_append, List.length_cons, List.length_nil, Int.toNat_zero]); omega)

end Go.Proofs.YthpgabaeefifbaaGreat

namespace Go.Proofs.YthpgabaeefifbaaGreat
open Go.Proofs Go.Aw Go.RowKit
set_option maxRecDepth 100000
set_option linter.unusedVariables false
set_option linter.unusedSimpArgs false

def F56_L (a0 : Int × Int) (a1 : List (Int)) : Int × Int :=
  ((F102 (W (Int.tdiv (F103_L a1) (F104 a0.2 (W (Int.tdiv (W (Int.tdiv (F103_L a1) 1048576)) 1048576)))))).1, (F102 (W (Int.tdiv (F103_L a1) (F104 a0.2 (W (Int.tdiv (W (Int.tdiv (F103_L a1) 1048576)) 1048576)))))).2)

theorem C56_L (a0 : Int × Int) (a1 : List (Int)) (l1 : a1.length ≤ 9223372036854775807) (hq : W (Int.tdiv (W (Int.tdiv (F103_L a1) 1048576)) 1048576) ≠ 0) (hw : F104 a0.2 (W (Int.tdiv (W (Int.tdiv (F103_L a1) 1048576)) 1048576)) ≠ 0) : Con Tryz.prog 56 [(.a [(iv a0.1), (iv a0.2)]), (.s 0 0 a1.length 1)] [(.live false true (flat c3 a1))] (.t (k2 (F56_L a0 a1))) [] := by
  refine con_s Tryz.func56 (by kernel_rfl) fun cx hcx => ?_
  have e := Eq.refl (F56_L a0 a1); conv at e => rhs; simp only [F56_L]
  rw [e]
  exact rt [.c [0] (C103_L a1 (by (try simp only [List.length_append, List.length_cons, List.length_nil, Int.toNat_zero]); omega)), .p (show (1048576 : Int) ≠ 0 from by decide), .p (show (1048576 : Int) ≠ 0 from by decide), .c [] (C104 a0.2 (W (Int.tdiv (W (Int.tdiv (F103_L a1) 1048576)) 1048576))  hq), .p (show ((F104 a0.2 (W (Int.tdiv (W (Int.tdiv (F103_L a1) 1048576)) 1048576))) : Int) ≠ 0 from by first | omega | (rw [W_eq] <;> omega) | exact u64_nn _), .c [] (C102 (W (Int.tdiv (F103_L a1) (F104 a0.2 (W (Int.tdiv (W (Int.tdiv (F103_L a1) 1048576)) 1048576))))))] [] [] hcx (by kernel_rfl)

end Go.Proofs.YthpgabaeefifbaaGreat

namespace Go.Proofs.YthpgabaeefifbaaGreat
open Go.Proofs Go.Aw Go.RowKit
set_option maxRecDepth 100000
set_option linter.unusedVariables false
set_option linter.unusedSimpArgs false

/-! ### What is divided by is not 0 -/
theorem pot_fine {m : ME} {q : List Int} {d : Int} (h : (((F13_L m q d).2 : Int) != 0) = false) : 1 ≤ (F13_L m q d).1.length ∧ (∀ s ∈ (F13_L m q d).1, 1 ≤ s.1) ∧ (∀ s ∈ (F13_L m q d).1, 1 ≤ s.2) := by
  rw [Pot_f] at h ⊢
  unfold PotV at h ⊢
  cases hc : (chD m q d != 0) with
  | true => rw [hc, cond_true] at h; rw [hc] at h; exact absurd h (by decide)
  | false =>
    rw [hc, cond_false] at h
    rw [cond_false]
    obtain ⟨hC, hd⟩ := chD_ok (bne_eq_false_iff_eq.1 hc)
    have hn := hC.n; have hl := hC.len; have hs := hC.pos
    have hpl : (pans m).length = m.2.length := List.length_map _
    have hp := pot_pos (T := (pans m).map (rowB m d)) (q := q) (fun r hr => by
      obtain ⟨p, hp, rfl⟩ := List.mem_map.1 hr
      unfold rowB
      refine ⟨by rw [List.length_map]; omega, fun s hsm => ?_⟩
      obtain ⟨p', hp', rfl⟩ := List.mem_map.1 hsm
      exact (Between_okP (vld_pk hC.v hd hp' hp)).2) hC.ok (bne_eq_false_iff_eq.1 h)
    refine ⟨by rw [hp.1, List.length_map]; omega, fun s hs' => ?_, fun s hs' => ?_⟩
    · have := hp.2 s hs'; omega
    · have := hp.2 s hs'; omega
theorem sum_sc {a : Int} (ha : 0 ≤ a ∧ a ≤ 100) : ∀ L : List (PN × Int), (∀ e ∈ L, 0 ≤ e.2 ∧ e.2 ≤ 100) → (L.map fun e => W (a * e.2)).sum = a * (L.map (·.2)).sum
  | [], _ => by simp
  | e :: L, h => by
    have he := h e List.mem_cons_self
    have ih := sum_sc ha L (fun x hx => h x (List.mem_cons_of_mem _ hx))
    have p0 : 0 ≤ a * e.2 := Int.mul_nonneg ha.1 he.1
    have p1 : a * e.2 ≤ 100 * 100 := Int.mul_le_mul ha.2 he.2 he.1 (by omega)
    simp only [List.map_cons, List.sum_cons]
    rw [ih, W_eq (by omega) (by omega), Int.mul_add]
theorem sum_fl {m : ME} {q : List Int} {d : Int} (hq : ∀ e ∈ (pans m).zip q, 0 ≤ e.2 ∧ e.2 ≤ 100) : ∀ L : List (PN × Int), (∀ e ∈ L, 0 ≤ e.2 ∧ e.2 ≤ 100) → ((L.flatMap (eC m q d)).map (·.2)).sum = (L.map (·.2)).sum * (((pans m).zip q).map (·.2)).sum
  | [], _ => by simp
  | c :: L, h => by
    have ih := sum_fl (d := d) hq L (fun x hx => h x (List.mem_cons_of_mem _ hx))
    have e : ((eC m q d c).map (·.2)).sum = c.2 * (((pans m).zip q).map (·.2)).sum := by
      rw [← sum_sc (h c List.mem_cons_self) _ hq]
      unfold eC
      rw [List.map_map]; rfl
    rw [List.flatMap_cons, List.map_append, List.sum_append, ih, e]
    simp only [List.map_cons, List.sum_cons]
    rw [Int.add_mul]
theorem en_pos {m : ME} {q : List Int} {d : Int} (hC : ChOK m q) (hd : 0 ≤ d ∧ d ≤ 2) (h : (addV (((pans m).zip q).flatMap (eC m q d))).2 = 0) : 1 ≤ (addV (((pans m).zip q).flatMap (eC m q d))).1.2 ∧ vs (addV (((pans m).zip q).flatMap (eC m q d))).1 := by
  have hn := hC.n; have hl := hC.len; have hs := hC.pos
  have hpl : (pans m).length = m.2.length := List.length_map _
  have hz : ∀ e ∈ (pans m).zip q, 0 ≤ e.2 ∧ e.2 ≤ 100 := fun e he => hC.ok _ (List.of_mem_zip he).2
  have hm : ((pans m).zip q).map (·.2) = q := List.map_snd_zip (by omega)
  have hp := add_pos (l := ((pans m).zip q).flatMap (eC m q d)) (fun c hc => by
    obtain ⟨b, hb, hcb⟩ := List.mem_flatMap.1 hc
    unfold eC at hcb
    obtain ⟨e, he, rfl⟩ := List.mem_map.1 hcb
    have h1 := hz b hb; have h2 := hz e he
    have p0 : 0 ≤ b.2 * e.2 := Int.mul_nonneg h1.1 h2.1
    have p1 : b.2 * e.2 ≤ 100 * 100 := Int.mul_le_mul h1.2 h2.2 h2.1 (by omega)
    refine ⟨(Mutual_okP (vld_pk hC.v hd (List.of_mem_zip hb).1 (List.of_mem_zip he).1)).2, ?_⟩
    simp only
    rw [W_eq (by omega) (by omega)]; omega) h
  rw [sum_fl hz _ hz, hm] at hp
  have : 1 * 1 ≤ q.sum * q.sum := Int.mul_le_mul hs hs (by omega) (by omega)
  exact ⟨by omega, hp.2.2⟩
theorem tot_eq {q : List Int} (hq : okC q) (h1 : 1 ≤ q.sum) (hl : q.length ≤ 96) : F103_L q = q.sum * 1099511627776 ∧ q.sum ≤ 9600 := by
  obtain ⟨e, h2, h3⟩ := totW_eq q 0 hq (by omega) (by omega)
  rw [tot_h, e]
  refine ⟨?_, by omega⟩
  rw [W_eq (by rw [W_eq (by omega) (by omega)]; omega) (by rw [W_eq (by omega) (by omega)]; omega), W_eq (by omega) (by omega)]
  omega
theorem one_eq {q : List Int} (hq : okC q) (h1 : 1 ≤ q.sum) (hl : q.length ≤ 96) : W (Int.tdiv (W (Int.tdiv (F103_L q) 1048576)) 1048576) = q.sum := by
  obtain ⟨e, h2⟩ := tot_eq hq h1 hl
  have e1 : Int.tdiv (q.sum * 1099511627776) 1048576 = q.sum * 1048576 := by
    rw [show q.sum * 1099511627776 = (q.sum * 1048576) * 1048576 from by omega, Int.mul_tdiv_cancel _ (by decide)]
  rw [e, e1, W_eq (n := q.sum * 1048576) (by omega) (by omega), Int.mul_tdiv_cancel _ (by decide), W_eq (by omega) (by omega)]
theorem up_pos {a n : Int} (ha : 1 ≤ a ∧ a ≤ 2305843009213693951) (hn : 1 ≤ n ∧ n ≤ 2305843009213693951) : 1 ≤ F104 a n ∧ F104 a n = (a + n - 1).tdiv n := by
  unfold F104
  rw [W_eq (n := a + n) (by omega) (by omega), W_eq (n := a + n - 1) (by omega) (by omega)]
  have h0 : 0 ≤ a + n - 1 := by omega
  have e : (a + n - 1).tdiv n = (a + n - 1) / n := Int.tdiv_eq_ediv_of_nonneg h0
  have h1 : 1 ≤ (a + n - 1) / n := by
    refine (Int.le_ediv_iff_mul_le (by omega)).2 ?_
    omega
  have h2 : (a + n - 1) / n ≤ a + n - 1 := Int.ediv_le_self _ h0
  rw [e, W_eq (by omega) (by omega)]
  exact ⟨h1, rfl⟩
theorem en_fine {m : ME} {q : List Int} {d : Int} (h : (((F16_L m q d).2 : Int) != 0) = false) : W (Int.tdiv (W (Int.tdiv (F103_L q) 1048576)) 1048576) ≠ 0 ∧ F104 (F16_L m q d).1.2 (W (Int.tdiv (W (Int.tdiv (F103_L q) 1048576)) 1048576)) ≠ 0 := by
  rw [En_f] at h ⊢
  unfold EnV at h ⊢
  cases hc : (chD m q d != 0) with
  | true => rw [hc, cond_true] at h; rw [hc] at h; exact absurd h (by decide)
  | false =>
    rw [hc, cond_false] at h
    rw [cond_false]
    obtain ⟨hC, hd⟩ := chD_ok (bne_eq_false_iff_eq.1 hc)
    have hn := hC.n; have hl := hC.len; have hs := hC.pos; have hle := hC.le
    obtain ⟨hp, hv⟩ := en_pos hC hd (bne_eq_false_iff_eq.1 h)
    rw [one_eq hC.ok hC.pos (by omega)]
    unfold vs at hv
    have := (up_pos (a := (addV (((pans m).zip q).flatMap (eC m q d))).1.2) (n := q.sum) (by omega) (by omega)).1
    exact ⟨by omega, by omega⟩
theorem pot_le (m : ME) (q : List Int) (d : Int) : (F13_L m q d).1.length ≤ 96 := by
  rw [Pot_f]
  unfold PotV
  cases hc : (chD m q d != 0) with
  | true => simp
  | false =>
    rw [cond_false]
    obtain ⟨hC, hd⟩ := chD_ok (bne_eq_false_iff_eq.1 hc)
    have hn := hC.n
    have hpl : (pans m).length = m.2.length := List.length_map _
    unfold potV
    cases hs : shs (fun r : List (Int × Int) => addV (r.zip q)) ((pans m).map (rowB m d)) [] with
    | inr r => simp [out8]
    | inl l =>
      obtain ⟨e, _⟩ := shs_inl hs
      simp only [out8]
      rw [e, List.nil_append, List.length_map, List.length_map]; omega

end Go.Proofs.YthpgabaeefifbaaGreat

namespace Go.Proofs.YthpgabaeefifbaaGreat
open Go.Proofs Go.Aw Go.RowKit
set_option maxRecDepth 100000
set_option linter.unusedVariables false
set_option linter.unusedSimpArgs false

def F18_L (a0 : (List (Int × Int × Int)) × List (Int × Int × Int)) (a1 : List (Int)) (a2 : Int) : Int × Int :=
  (bif (((F13_L (a0.1, a0.2) a1 a2).2 : Int) != 0) then
   (0, (F13_L (a0.1, a0.2) a1 a2).2)
  else
   ((F52_L_L (F13_L (a0.1, a0.2) a1 a2).1 a1).1, (F52_L_L (F13_L (a0.1, a0.2) a1 a2).1 a1).2))

def F20_L (a0 : (List (Int × Int × Int)) × List (Int × Int × Int)) (a1 : List (Int)) (a2 : Int) : Int × Int :=
  (bif (((F13_L (a0.1, a0.2) a1 a2).2 : Int) != 0) then
   (0, (F13_L (a0.1, a0.2) a1 a2).2)
  else
   ((F55_L_L (F13_L (a0.1, a0.2) a1 a2).1 a1).1, (F55_L_L (F13_L (a0.1, a0.2) a1 a2).1 a1).2))

def F22_L (a0 : (List (Int × Int × Int)) × List (Int × Int × Int)) (a1 : List (Int)) (a2 : Int) : Int × Int :=
  (bif (((F16_L (a0.1, a0.2) a1 a2).2 : Int) != 0) then
   (0, (F16_L (a0.1, a0.2) a1 a2).2)
  else
   ((F56_L (F16_L (a0.1, a0.2) a1 a2).1 a1).1, (F56_L (F16_L (a0.1, a0.2) a1 a2).1 a1).2))

end Go.Proofs.YthpgabaeefifbaaGreat

namespace Go.Proofs.YthpgabaeefifbaaGreat
open Go.Proofs Go.Aw Go.RowKit
set_option maxRecDepth 100000
set_option linter.unusedVariables false
set_option linter.unusedSimpArgs false

theorem pot_fine_r {m : ME} {q : List Int} {d : Int} (h : (((F14_L m q d).2 : Int) != 0) = false) : 1 ≤ (F14_L m q d).1.length ∧ (∀ s ∈ (F14_L m q d).1, 1 ≤ s.1) ∧ (∀ s ∈ (F14_L m q d).1, 1 ≤ s.2) := by
  rw [← Pot_eq] at h ⊢
  exact pot_fine h
theorem pot_le_r (m : ME) (q : List Int) (d : Int) : (F14_L m q d).1.length ≤ 96 := by
  rw [← Pot_eq]; exact pot_le m q d
theorem rsum_eq {q : List Int} (hq : okC q) (hl : q.length ≤ 96) : F54_L q = q.sum := by
  obtain ⟨e, h2, h3⟩ := totW_eq q 0 hq (by omega) (by omega)
  rw [sum_r, e]; omega
theorem en_fine_r {m : ME} {q : List Int} {d : Int} (h : (((F17_L m q d).2 : Int) != 0) = false) : F54_L q ≠ 0 ∧ W (Int.tdiv (W ((W ((F17_L m q d).1.2 + (F54_L q))) - 1)) (F54_L q)) ≠ 0 := by
  rw [← En_eq] at h ⊢
  have h' := h
  rw [En_f] at h'
  unfold EnV at h'
  cases hc : (chD m q d != 0) with
  | true => rw [hc, cond_true] at h'; rw [hc] at h'; exact absurd h' (by decide)
  | false =>
    obtain ⟨hC, hd⟩ := chD_ok (bne_eq_false_iff_eq.1 hc)
    have hn := hC.n; have hl := hC.len; have hs := hC.pos
    have hf := en_fine h
    rw [one_eq hC.ok hC.pos (by omega)] at hf
    rw [rsum_eq hC.ok (by omega)]
    exact hf
theorem pot_all_r (m : ME) (q : List Int) (d : Int) : (∀ s ∈ (F14_L m q d).1, 1 ≤ s.1) ∧ (∀ s ∈ (F14_L m q d).1, 1 ≤ s.2) := by
  cases h : (((F14_L m q d).2 : Int) != 0) with
  | false => exact (pot_fine_r h).2
  | true =>
    rw [Pot_r] at h ⊢
    unfold PotV at h ⊢
    cases hc : (chD m q d != 0) with
    | true => simp
    | false =>
      rw [hc, cond_false] at h
      rw [cond_false]
      unfold potV at h ⊢
      cases hs : shs (fun r : List (Int × Int) => addV (r.zip q)) ((pans m).map (rowB m d)) [] with
      | inr r => simp [out8]
      | inl l => rw [hs] at h; simp [out8] at h

noncomputable def B19_L_0 : Code := (loopAtD [1, 1, 1, 1, 0, 1] [] (bodyOf Tryz.f19) []).1
noncomputable def K19_L_0 : List K := (loopAtD [1, 1, 1, 1, 0, 1] [] (bodyOf Tryz.f19) []).2

def st19_L_0 (a0 : (List (Int × Int × Int)) × List (Int × Int × Int)) (a1 : List (Int)) (a2 : Int) (v1 : Int) (v2 : Int) : LS := ⟨slN 44 [(1, (.s 2 0 a1.length 1)), (8, (.s 3 0 (F14_L (a0.1, a0.2) a1 a2).1.length 2)), (10, (iv v1)), (11, (iv v2))], [(.live false true (flat c27 a0.1)), (.live false true (flat c85 a0.2)), (.live false true (flat c3 a1)), (.live true true (flat c41 (F14_L (a0.1, a0.2) a1 a2).1))]⟩

def S19_L_0 (a0 : (List (Int × Int × Int)) × List (Int × Int × Int)) (a1 : List (Int)) (a2 : Int) : Int × Int → (Int × Int) ⊕ (Int × Int)
  | (v1, v2) =>
   (bif (decide ((v2 : Int) < (((F14_L (a0.1, a0.2) a1 a2).1.length : Nat) : Int))) then
    (.inl ((imx v1 ((F14_L (a0.1, a0.2) a1 a2).1.getD (Int.toNat v2) default).2), (v2 + 1)))
   else
    (.inr ((F53 (W (Int.tdiv (W ((W ((F54_L a1) * 1048576)) * 1048576)) v1))).1, (F53 (W (Int.tdiv (W ((W ((F54_L a1) * 1048576)) * 1048576)) v1))).2)))

set_option maxHeartbeats 4000000 in
theorem L19_L_0 (a0 : (List (Int × Int × Int)) × List (Int × Int × Int)) (a1 : List (Int)) (a2 : Int) (l0_1 : a0.1.length ≤ 9223372036854775807) (l0_2 : a0.2.length ≤ 9223372036854775807) (l1 : a1.length ≤ 9223372036854775807) {cx : Cx} (hcx : cx.base = 3) : ∀ (n : Nat) (v1 : Int) (v2 : Int), (0 ≤ v2) ∧ (0 ≤ v1) ∧ (v2 = 0 ∨ 1 ≤ v1) ∧ (1 ≤ (F14_L (a0.1, a0.2) a1 a2).1.length) → Int.toNat ((((F14_L (a0.1, a0.2) a1 a2).1.length : Nat) : Int) - v2) < n → Aw.Good Tryz.prog none 9 (bodyPost Tryz.prog Tryz.f19 (RR cx (.t (k2 (loopF (S19_L_0 a0 a1 a2) n (v1, v2)))) [] [])) cx [] (.l B19_L_0 n :: K19_L_0) (st19_L_0 a0 a1 a2 v1 v2) := by
  intro n
  induction n with
  | zero => intro v1 v2 hi hn; exact absurd hn (Nat.not_lt_zero _)
  | succ n ih =>
    intro v1 v2 hi hn
    refine good_round ?_
    have hx1 := pot_le_r (a0.1, a0.2) a1 a2
    have hps := at_snd (pot_all_r (a0.1, a0.2) a1 a2).2 v2
    have hmx := imx_bd v1 ((F14_L (a0.1, a0.2) a1 a2).1.getD (Int.toNat v2) default).2
    cases h0 : (decide ((v2 : Int) < (((F14_L (a0.1, a0.2) a1 a2).1.length : Nat) : Int))) with
    | true =>
     have q0 := of_decide_eq_true h0
     have e := Eq.refl (S19_L_0 a0 a1 a2 (v1, v2)); conv at e => rhs; simp only [S19_L_0, h0, cond_true, cond_false]
     rw [loopF_inl e]
     refine ba [.d h0, .i v2 ((F14_L (a0.1, a0.2) a1 a2).1.length), .L c41_len (F14_L (a0.1, a0.2) a1 a2).1 v2 1 1] [] [1, 8, 10, 11] [3] hcx (m := n) B19_L_0 (K19_L_0) (st19_L_0 a0 a1 a2 (imx v1 ((F14_L (a0.1, a0.2) a1 a2).1.getD (Int.toNat v2) default).2) (W (v2 + 1))) (by kernel_rfl) ?_
     have z0 : (W (v2 + 1)) = (v2 + 1) := W_eq (by omega) (by omega)
     rw [z0]
     exact ih (imx v1 ((F14_L (a0.1, a0.2) a1 a2).1.getD (Int.toNat v2) default).2) (v2 + 1) (by refine ⟨?_, ?_, ?_, ?_⟩ <;> (try simp only [List.length_append, List.length_cons, List.length_nil, Int.toNat_zero]) <;> first | omega | assumption | simp) (by (try simp only [List.length_append, List.length_cons, List.length_nil, Int.toNat_zero]); omega)
    | false =>
     have q0 := of_decide_eq_false h0
     have e := Eq.refl (S19_L_0 a0 a1 a2 (v1, v2)); conv at e => rhs; simp only [S19_L_0, h0, cond_true, cond_false]
     rw [loopF_s, e]
     exact rt [.d h0, .c [2] (C54_L a1 (by (try simp only [List.length_append, List.length_cons, List.length_nil, Int.toNat_zero]); omega)), .p (show (v1 : Int) ≠ 0 from by first | omega | (rw [W_eq] <;> omega) | exact u64_nn _), .c [] (C53 (W (Int.tdiv (W ((W ((F54_L a1) * 1048576)) * 1048576)) v1)))] [] [] hcx (by kernel_rfl)

def F19_L (a0 : (List (Int × Int × Int)) × List (Int × Int × Int)) (a1 : List (Int)) (a2 : Int) : Int × Int :=
  (bif (((F14_L (a0.1, a0.2) a1 a2).2 : Int) != 0) then
   (0, (F14_L (a0.1, a0.2) a1 a2).2)
  else
   (loopF (S19_L_0 a0 a1 a2) (Int.toNat ((((F14_L (a0.1, a0.2) a1 a2).1.length : Nat) : Int) - 0) + 1) (0, 0)))

theorem C19_L (a0 : (List (Int × Int × Int)) × List (Int × Int × Int)) (a1 : List (Int)) (a2 : Int) (l0_1 : a0.1.length ≤ 9223372036854775807) (l0_2 : a0.2.length ≤ 9223372036854775807) (l1 : a1.length ≤ 9223372036854775807) : Con Tryz.prog 19 [(.a [(.s 0 0 a0.1.length 3), (.s 1 0 a0.2.length 3)]), (.s 2 0 a1.length 1), (iv a2)] [(.live false true (flat c27 a0.1)), (.live false true (flat c85 a0.2)), (.live false true (flat c3 a1))] (.t (k2 (F19_L a0 a1 a2))) [] := by
  refine con_s Tryz.func19 (by kernel_rfl) fun cx hcx => ?_
  have hx1 := pot_le_r (a0.1, a0.2) a1 a2
  try have hx2 := pot_fine_r h0
  try have hx3 := at0_fst (pot_fine_r h0).2.1 (pot_fine_r h0).1
  try have hx4 := (pot_fine_r h0).1
  let t0 : List (St Tryz.prog) := [.c [0, 1, 2] (C14_L (a0.1, a0.2) a1 a2 (by (try simp only [List.length_append, List.length_cons, List.length_nil, Int.toNat_zero]); omega) (by (try simp only [List.length_append, List.length_cons, List.length_nil, Int.toNat_zero]); omega) (by (try simp only [List.length_append, List.length_cons, List.length_nil, Int.toNat_zero]); omega))]
  cases h0 : (((F14_L (a0.1, a0.2) a1 a2).2 : Int) != 0) with
  | true =>
   have q0 := bne_iff_ne.1 h0
   try have hx2 := pot_fine_r h0
   try have hx3 := at0_fst (pot_fine_r h0).2.1 (pot_fine_r h0).1
   try have hx4 := (pot_fine_r h0).1
   have e := Eq.refl (F19_L a0 a1 a2); conv at e => rhs; simp only [F19_L, h0, cond_true, cond_false]
   rw [e]
   exact rt (t0 ++ [.d h0]) [] [] hcx (by kernel_rfl)
  | false =>
   have q0 := bne_eq_false_iff_eq.1 h0
   try have hx2 := pot_fine_r h0
   try have hx3 := at0_fst (pot_fine_r h0).2.1 (pot_fine_r h0).1
   try have hx4 := (pot_fine_r h0).1
   have e := Eq.refl (F19_L a0 a1 a2); conv at e => rhs; simp only [F19_L, h0, cond_true, cond_false]
   rw [e]
   refine en (t0 ++ [.d h0]) [] [1, 8, 10, 11] [4] hcx B19_L_0 (K19_L_0) (st19_L_0 a0 a1 a2 0 0) (Int.toNat ((((F14_L (a0.1, a0.2) a1 a2).1.length : Nat) : Int) - 0) + 1) (by kernel_rfl) ?_
   exact L19_L_0 a0 a1 a2 l0_1 l0_2 l1 hcx (Int.toNat ((((F14_L (a0.1, a0.2) a1 a2).1.length : Nat) : Int) - 0) + 1) 0 0 (by refine ⟨?_, ?_, ?_, ?_⟩ <;> (try simp only [List.length_append, List.length_cons, List.length_nil, Int.toNat_zero]) <;> first | omega | assumption | simp) (by (try simp only [List.length_append, List.length_cons, List.length_nil, Int.toNat_zero]); omega)

noncomputable def B21_L_0 : Code := (loopAtD [1, 1, 1, 1, 0, 1] [] (bodyOf Tryz.f21) []).1
noncomputable def K21_L_0 : List K := (loopAtD [1, 1, 1, 1, 0, 1] [] (bodyOf Tryz.f21) []).2

def st21_L_0 (a0 : (List (Int × Int × Int)) × List (Int × Int × Int)) (a1 : List (Int)) (a2 : Int) (v1 : Int) (v2 : Int) : LS := ⟨slN 51 [(1, (.s 2 0 a1.length 1)), (8, (.s 3 0 (F14_L (a0.1, a0.2) a1 a2).1.length 2)), (10, (iv v1)), (11, (iv v2))], [(.live false true (flat c27 a0.1)), (.live false true (flat c85 a0.2)), (.live false true (flat c3 a1)), (.live true true (flat c41 (F14_L (a0.1, a0.2) a1 a2).1))]⟩

def S21_L_0 (a0 : (List (Int × Int × Int)) × List (Int × Int × Int)) (a1 : List (Int)) (a2 : Int) : Int × Int → (Int × Int) ⊕ (Int × Int)
  | (v1, v2) =>
   (bif (decide ((v2 : Int) < (((F14_L (a0.1, a0.2) a1 a2).1.length : Nat) : Int))) then
    (.inl ((imn v1 ((F14_L (a0.1, a0.2) a1 a2).1.getD (Int.toNat v2) default).1), (v2 + 1)))
   else
    (.inr ((F53 (W (Int.tdiv (W ((W ((W ((W ((F54_L a1) * 1048576)) * 1048576)) + v1)) - 1)) v1))).1, (F53 (W (Int.tdiv (W ((W ((W ((W ((F54_L a1) * 1048576)) * 1048576)) + v1)) - 1)) v1))).2)))

set_option maxHeartbeats 4000000 in
theorem L21_L_0 (a0 : (List (Int × Int × Int)) × List (Int × Int × Int)) (a1 : List (Int)) (a2 : Int) (l0_1 : a0.1.length ≤ 9223372036854775807) (l0_2 : a0.2.length ≤ 9223372036854775807) (l1 : a1.length ≤ 9223372036854775807) {cx : Cx} (hcx : cx.base = 3) : ∀ (n : Nat) (v1 : Int) (v2 : Int), (0 ≤ v2) ∧ (1 ≤ v1) → Int.toNat ((((F14_L (a0.1, a0.2) a1 a2).1.length : Nat) : Int) - v2) < n → Aw.Good Tryz.prog none 9 (bodyPost Tryz.prog Tryz.f21 (RR cx (.t (k2 (loopF (S21_L_0 a0 a1 a2) n (v1, v2)))) [] [])) cx [] (.l B21_L_0 n :: K21_L_0) (st21_L_0 a0 a1 a2 v1 v2) := by
  intro n
  induction n with
  | zero => intro v1 v2 hi hn; exact absurd hn (Nat.not_lt_zero _)
  | succ n ih =>
    intro v1 v2 hi hn
    refine good_round ?_
    have hx1 := pot_le_r (a0.1, a0.2) a1 a2
    have hps := at_fst (pot_all_r (a0.1, a0.2) a1 a2).1 v2
    have hmx := imn_bd v1 ((F14_L (a0.1, a0.2) a1 a2).1.getD (Int.toNat v2) default).1
    cases h0 : (decide ((v2 : Int) < (((F14_L (a0.1, a0.2) a1 a2).1.length : Nat) : Int))) with
    | true =>
     have q0 := of_decide_eq_true h0
     have e := Eq.refl (S21_L_0 a0 a1 a2 (v1, v2)); conv at e => rhs; simp only [S21_L_0, h0, cond_true, cond_false]
     rw [loopF_inl e]
     refine ba [.d h0, .i v2 ((F14_L (a0.1, a0.2) a1 a2).1.length), .L c41_len (F14_L (a0.1, a0.2) a1 a2).1 v2 0 1] [] [1, 8, 10, 11] [3] hcx (m := n) B21_L_0 (K21_L_0) (st21_L_0 a0 a1 a2 (imn v1 ((F14_L (a0.1, a0.2) a1 a2).1.getD (Int.toNat v2) default).1) (W (v2 + 1))) (by kernel_rfl) ?_
     have z0 : (W (v2 + 1)) = (v2 + 1) := W_eq (by omega) (by omega)
     rw [z0]
     exact ih (imn v1 ((F14_L (a0.1, a0.2) a1 a2).1.getD (Int.toNat v2) default).1) (v2 + 1) (by refine ⟨?_, ?_⟩ <;> (try simp only [List.length_append, List.length_cons, List.length_nil, Int.toNat_zero]) <;> first | omega | assumption | simp) (by (try simp only [List.length_append, List.length_cons, List.length_nil, Int.toNat_zero]); omega)
    | false =>
     have q0 := of_decide_eq_false h0
     have e := Eq.refl (S21_L_0 a0 a1 a2 (v1, v2)); conv at e => rhs; simp only [S21_L_0, h0, cond_true, cond_false]
     rw [loopF_s, e]
     exact rt [.d h0, .c [2] (C54_L a1 (by (try simp only [List.length_append, List.length_cons, List.length_nil, Int.toNat_zero]); omega)), .p (show (v1 : Int) ≠ 0 from by first | omega | (rw [W_eq] <;> omega) | exact u64_nn _), .c [] (C53 (W (Int.tdiv (W ((W ((W ((W ((F54_L a1) * 1048576)) * 1048576)) + v1)) - 1)) v1)))] [] [] hcx (by kernel_rfl)

def F21_L (a0 : (List (Int × Int × Int)) × List (Int × Int × Int)) (a1 : List (Int)) (a2 : Int) : Int × Int :=
  (bif (((F14_L (a0.1, a0.2) a1 a2).2 : Int) != 0) then
   (0, (F14_L (a0.1, a0.2) a1 a2).2)
  else
   (loopF (S21_L_0 a0 a1 a2) (Int.toNat ((((F14_L (a0.1, a0.2) a1 a2).1.length : Nat) : Int) - 0) + 1) (((F14_L (a0.1, a0.2) a1 a2).1.getD (Int.toNat 0) default).1, 0)))

theorem C21_L (a0 : (List (Int × Int × Int)) × List (Int × Int × Int)) (a1 : List (Int)) (a2 : Int) (l0_1 : a0.1.length ≤ 9223372036854775807) (l0_2 : a0.2.length ≤ 9223372036854775807) (l1 : a1.length ≤ 9223372036854775807) : Con Tryz.prog 21 [(.a [(.s 0 0 a0.1.length 3), (.s 1 0 a0.2.length 3)]), (.s 2 0 a1.length 1), (iv a2)] [(.live false true (flat c27 a0.1)), (.live false true (flat c85 a0.2)), (.live false true (flat c3 a1))] (.t (k2 (F21_L a0 a1 a2))) [] := by
  refine con_s Tryz.func21 (by kernel_rfl) fun cx hcx => ?_
  have hx1 := pot_le_r (a0.1, a0.2) a1 a2
  try have hx2 := pot_fine_r h0
  try have hx3 := at0_fst (pot_fine_r h0).2.1 (pot_fine_r h0).1
  try have hx4 := (pot_fine_r h0).1
  let t0 : List (St Tryz.prog) := [.c [0, 1, 2] (C14_L (a0.1, a0.2) a1 a2 (by (try simp only [List.length_append, List.length_cons, List.length_nil, Int.toNat_zero]); omega) (by (try simp only [List.length_append, List.length_cons, List.length_nil, Int.toNat_zero]); omega) (by (try simp only [List.length_append, List.length_cons, List.length_nil, Int.toNat_zero]); omega))]
  cases h0 : (((F14_L (a0.1, a0.2) a1 a2).2 : Int) != 0) with
  | true =>
   have q0 := bne_iff_ne.1 h0
   try have hx2 := pot_fine_r h0
   try have hx3 := at0_fst (pot_fine_r h0).2.1 (pot_fine_r h0).1
   try have hx4 := (pot_fine_r h0).1
   have e := Eq.refl (F21_L a0 a1 a2); conv at e => rhs; simp only [F21_L, h0, cond_true, cond_false]
   rw [e]
   exact rt (t0 ++ [.d h0]) [] [] hcx (by kernel_rfl)
  | false =>
   have q0 := bne_eq_false_iff_eq.1 h0
   try have hx2 := pot_fine_r h0
   try have hx3 := at0_fst (pot_fine_r h0).2.1 (pot_fine_r h0).1
   try have hx4 := (pot_fine_r h0).1
   have e := Eq.refl (F21_L a0 a1 a2); conv at e => rhs; simp only [F21_L, h0, cond_true, cond_false]
   rw [e]
   refine en (t0 ++ [.d h0, .i 0 ((F14_L (a0.1, a0.2) a1 a2).1.length), .L c41_len (F14_L (a0.1, a0.2) a1 a2).1 0 0 1]) [] [1, 8, 10, 11] [4] hcx B21_L_0 (K21_L_0) (st21_L_0 a0 a1 a2 (((F14_L (a0.1, a0.2) a1 a2).1.getD (Int.toNat 0) default).1) 0) (Int.toNat ((((F14_L (a0.1, a0.2) a1 a2).1.length : Nat) : Int) - 0) + 1) (by kernel_rfl) ?_
   exact L21_L_0 a0 a1 a2 l0_1 l0_2 l1 hcx (Int.toNat ((((F14_L (a0.1, a0.2) a1 a2).1.length : Nat) : Int) - 0) + 1) (((F14_L (a0.1, a0.2) a1 a2).1.getD (Int.toNat 0) default).1) 0 (by refine ⟨?_, ?_⟩ <;> (try simp only [List.length_append, List.length_cons, List.length_nil, Int.toNat_zero]) <;> first | omega | assumption | simp) (by (try simp only [List.length_append, List.length_cons, List.length_nil, Int.toNat_zero]); omega)

def F23_L (a0 : (List (Int × Int × Int)) × List (Int × Int × Int)) (a1 : List (Int)) (a2 : Int) : Int × Int :=
  (bif (((F17_L (a0.1, a0.2) a1 a2).2 : Int) != 0) then
   (0, (F17_L (a0.1, a0.2) a1 a2).2)
  else
   ((F53 (W (Int.tdiv (W ((W ((F54_L a1) * 1048576)) * 1048576)) (W (Int.tdiv (W ((W ((F17_L (a0.1, a0.2) a1 a2).1.2 + (F54_L a1))) - 1)) (F54_L a1)))))).1, (F53 (W (Int.tdiv (W ((W ((F54_L a1) * 1048576)) * 1048576)) (W (Int.tdiv (W ((W ((F17_L (a0.1, a0.2) a1 a2).1.2 + (F54_L a1))) - 1)) (F54_L a1)))))).2))

theorem C23_L (a0 : (List (Int × Int × Int)) × List (Int × Int × Int)) (a1 : List (Int)) (a2 : Int) (l0_1 : a0.1.length ≤ 9223372036854775807) (l0_2 : a0.2.length ≤ 9223372036854775807) (l1 : a1.length ≤ 9223372036854775807) : Con Tryz.prog 23 [(.a [(.s 0 0 a0.1.length 3), (.s 1 0 a0.2.length 3)]), (.s 2 0 a1.length 1), (iv a2)] [(.live false true (flat c27 a0.1)), (.live false true (flat c85 a0.2)), (.live false true (flat c3 a1))] (.t (k2 (F23_L a0 a1 a2))) [] := by
  refine con_s Tryz.func23 (by kernel_rfl) fun cx hcx => ?_
  try have hx1 := (en_fine_r h0).1
  try have hx2 := (en_fine_r h0).2
  let t0 : List (St Tryz.prog) := [.c [0, 1, 2] (C17_L (a0.1, a0.2) a1 a2 (by (try simp only [List.length_append, List.length_cons, List.length_nil, Int.toNat_zero]); omega) (by (try simp only [List.length_append, List.length_cons, List.length_nil, Int.toNat_zero]); omega) (by (try simp only [List.length_append, List.length_cons, List.length_nil, Int.toNat_zero]); omega))]
  cases h0 : (((F17_L (a0.1, a0.2) a1 a2).2 : Int) != 0) with
  | true =>
   have q0 := bne_iff_ne.1 h0
   try have hx1 := (en_fine_r h0).1
   try have hx2 := (en_fine_r h0).2
   have e := Eq.refl (F23_L a0 a1 a2); conv at e => rhs; simp only [F23_L, h0, cond_true, cond_false]
   rw [e]
   exact rt (t0 ++ [.d h0]) [] [] hcx (by kernel_rfl)
  | false =>
   have q0 := bne_eq_false_iff_eq.1 h0
   try have hx1 := (en_fine_r h0).1
   try have hx2 := (en_fine_r h0).2
   have e := Eq.refl (F23_L a0 a1 a2); conv at e => rhs; simp only [F23_L, h0, cond_true, cond_false]
   rw [e]
   exact rt (t0 ++ [.d h0, .c [2] (C54_L a1 (by (try simp only [List.length_append, List.length_cons, List.length_nil, Int.toNat_zero]); omega)), .p (show ((F54_L a1) : Int) ≠ 0 from by first | omega | (rw [W_eq] <;> omega) | exact u64_nn _), .p (show ((W (Int.tdiv (W ((W ((F17_L (a0.1, a0.2) a1 a2).1.2 + (F54_L a1))) - 1)) (F54_L a1))) : Int) ≠ 0 from by first | omega | (rw [W_eq] <;> omega) | exact u64_nn _), .c [] (C53 (W (Int.tdiv (W ((W ((F54_L a1) * 1048576)) * 1048576)) (W (Int.tdiv (W ((W ((F17_L (a0.1, a0.2) a1 a2).1.2 + (F54_L a1))) - 1)) (F54_L a1))))))]) [] [] hcx (by kernel_rfl)

end Go.Proofs.YthpgabaeefifbaaGreat

namespace Go.Proofs.YthpgabaeefifbaaGreat
open Go.Proofs Go.Aw Go.RowKit
set_option maxRecDepth 100000
set_option linter.unusedVariables false
set_option linter.unusedSimpArgs false

theorem below_fine_r {m : ME} {q : List Int} {d : Int} (h : (((F19_L m q d).2 : Int) != 0) = false) : 1 ≤ m.1.length := by
  cases hp : (((F14_L (m.1, m.2) q d).2 : Int) != 0) with
  | true =>
    unfold F19_L at h
    rw [hp, cond_true] at h
    rw [hp] at h
    exact absurd h (by decide)
  | false =>
    rw [Pot_r] at hp
    unfold PotV at hp
    cases hc : (chD (m.1, m.2) q d != 0) with
    | true => rw [hc, cond_true] at hp; rw [hc] at hp; exact absurd hp (by decide)
    | false =>
      obtain ⟨hC, hd⟩ := chD_ok (bne_eq_false_iff_eq.1 hc)
      exact (pts_one (m := m) (by rw [show F32 m = 0 from hC.v]; rfl)).1

def F25_L (a0 : (List (Int × Int × Int)) × List (Int × Int × Int)) (a1 : List (Int)) (a2 : Int) : (Int × Int) × Int :=
  (bif (((F19_L (a0.1, a0.2) a1 a2).2 : Int) != 0) then
   ((0, 0), (F19_L (a0.1, a0.2) a1 a2).2)
  else
   (bif (((F23_L (a0.1, a0.2) a1 a2).2 : Int) != 0) then
    ((0, 0), (F23_L (a0.1, a0.2) a1 a2).2)
   else
    (bif (((F21_L (a0.1, a0.2) a1 a2).2 : Int) != 0) then
     ((0, 0), (F21_L (a0.1, a0.2) a1 a2).2)
    else
     (bif (((F12 (a0.1, a0.2) (F59 (a0.1, a0.2))).2 : Int) != 0) then
      ((0, 0), (F12 (a0.1, a0.2) (F59 (a0.1, a0.2))).2)
     else
      (((imx (F19_L (a0.1, a0.2) a1 a2).1 (F23_L (a0.1, a0.2) a1 a2).1), (imn (F21_L (a0.1, a0.2) a1 a2).1 (F12 (a0.1, a0.2) (F59 (a0.1, a0.2))).1)), 0)))))

theorem C25_L (a0 : (List (Int × Int × Int)) × List (Int × Int × Int)) (a1 : List (Int)) (a2 : Int) (l0_1 : a0.1.length ≤ 9223372036854775807) (l0_2 : a0.2.length ≤ 9223372036854775807) (l1 : a1.length ≤ 9223372036854775807) : Con Tryz.prog 25 [(.a [(.s 0 0 a0.1.length 3), (.s 1 0 a0.2.length 3)]), (.s 2 0 a1.length 1), (iv a2)] [(.live false true (flat c27 a0.1)), (.live false true (flat c85 a0.2)), (.live false true (flat c3 a1))] (.t [(.a (k2 (F25_L a0 a1 a2).1)), (iv (F25_L a0 a1 a2).2)]) [] := by
  refine con_s Tryz.func25 (by kernel_rfl) fun cx hcx => ?_
  let t0 : List (St Tryz.prog) := [.c [0, 1, 2] (C19_L (a0.1, a0.2) a1 a2 (by (try simp only [List.length_append, List.length_cons, List.length_nil, Int.toNat_zero]); omega) (by (try simp only [List.length_append, List.length_cons, List.length_nil, Int.toNat_zero]); omega) (by (try simp only [List.length_append, List.length_cons, List.length_nil, Int.toNat_zero]); omega))]
  cases h0 : (((F19_L (a0.1, a0.2) a1 a2).2 : Int) != 0) with
  | true =>
   have q0 := bne_iff_ne.1 h0
   have e := Eq.refl (F25_L a0 a1 a2); conv at e => rhs; simp only [F25_L, h0, cond_true, cond_false]
   rw [e]
   exact rt (t0 ++ [.d h0]) [] [] hcx (by kernel_rfl)
  | false =>
   have q0 := bne_eq_false_iff_eq.1 h0
   let t1 : List (St Tryz.prog) := (t0 ++ [.d h0, .c [0, 1, 2] (C23_L (a0.1, a0.2) a1 a2 (by (try simp only [List.length_append, List.length_cons, List.length_nil, Int.toNat_zero]); omega) (by (try simp only [List.length_append, List.length_cons, List.length_nil, Int.toNat_zero]); omega) (by (try simp only [List.length_append, List.length_cons, List.length_nil, Int.toNat_zero]); omega))])
   cases h1 : (((F23_L (a0.1, a0.2) a1 a2).2 : Int) != 0) with
   | true =>
    have q1 := bne_iff_ne.1 h1
    have e := Eq.refl (F25_L a0 a1 a2); conv at e => rhs; simp only [F25_L, h0, h1, cond_true, cond_false]
    rw [e]
    exact rt (t1 ++ [.d h1]) [] [] hcx (by kernel_rfl)
   | false =>
    have q1 := bne_eq_false_iff_eq.1 h1
    let t2 : List (St Tryz.prog) := (t1 ++ [.d h1, .c [0, 1, 2] (C21_L (a0.1, a0.2) a1 a2 (by (try simp only [List.length_append, List.length_cons, List.length_nil, Int.toNat_zero]); omega) (by (try simp only [List.length_append, List.length_cons, List.length_nil, Int.toNat_zero]); omega) (by (try simp only [List.length_append, List.length_cons, List.length_nil, Int.toNat_zero]); omega))])
    cases h2 : (((F21_L (a0.1, a0.2) a1 a2).2 : Int) != 0) with
    | true =>
     have q2 := bne_iff_ne.1 h2
     have e := Eq.refl (F25_L a0 a1 a2); conv at e => rhs; simp only [F25_L, h0, h1, h2, cond_true, cond_false]
     rw [e]
     exact rt (t2 ++ [.d h2]) [] [] hcx (by kernel_rfl)
    | false =>
     have q2 := bne_eq_false_iff_eq.1 h2
     let t3 : List (St Tryz.prog) := (t2 ++ [.d h2, .c [0, 1] (C59 (a0.1, a0.2) (by (try simp only [List.length_append, List.length_cons, List.length_nil, Int.toNat_zero]); omega) (by (try simp only [List.length_append, List.length_cons, List.length_nil, Int.toNat_zero]); omega) (below_fine_r h0)), .c [0, 1] (C12 (a0.1, a0.2) (F59 (a0.1, a0.2)) (by (try simp only [List.length_append, List.length_cons, List.length_nil, Int.toNat_zero]); omega) (by (try simp only [List.length_append, List.length_cons, List.length_nil, Int.toNat_zero]); omega))])
     cases h3 : (((F12 (a0.1, a0.2) (F59 (a0.1, a0.2))).2 : Int) != 0) with
     | true =>
      have q3 := bne_iff_ne.1 h3
      have e := Eq.refl (F25_L a0 a1 a2); conv at e => rhs; simp only [F25_L, h0, h1, h2, h3, cond_true, cond_false]
      rw [e]
      exact rt (t3 ++ [.d h3]) [] [] hcx (by kernel_rfl)
     | false =>
      have q3 := bne_eq_false_iff_eq.1 h3
      have e := Eq.refl (F25_L a0 a1 a2); conv at e => rhs; simp only [F25_L, h0, h1, h2, h3, cond_true, cond_false]
      rw [e]
      exact rt (t3 ++ [.d h3]) [] [] hcx (by kernel_rfl)

end Go.Proofs.YthpgabaeefifbaaGreat

namespace Go.Proofs.YthpgabaeefifbaaGreat
open Go.Proofs Go.Aw Go.RowKit
set_option maxRecDepth 100000
set_option linter.unusedVariables false
set_option linter.unusedSimpArgs false

theorem ones_r (m : ME) : F61 m = m.2.map fun _ => 1 := by
  unfold F61
  rw [each_loop (fun v i => (v, i)) (fun v _ => .inl (v ++ [1])) (fun v => v) (L := m.2) (fun _ _ => True) ?_ (fun _ _ _ _ _ _ _ => trivial) ?_ (by omega) trivial]
  · rw [foldE_inl, snocs (fun _ => 1)]; rfl
  · intro i c hc v _
    obtain ⟨hlt, hce⟩ := List.getElem?_eq_some_iff.1 hc
    simp only [S61_0]
    rw [decide_eq_true (by omega), cond_true]
    rfl
  · intro v _
    simp only [S61_0]
    rw [decide_eq_false (by omega), cond_false]
theorem ones_len_r (m : ME) : (F61 m).length = m.2.length := by rw [ones_r, List.length_map]

def F27 (a0 : (List (Int × Int × Int)) × List (Int × Int × Int)) (a1 : Int) : (Int × Int) × Int :=
  (bif (((F35 (a0.1, a0.2)) : Int) != 0) then
   ((0, 0), (F35 (a0.1, a0.2)))
  else
   ((F25_L (a0.1, a0.2) (F61 (a0.1, a0.2)) a1).1, (F25_L (a0.1, a0.2) (F61 (a0.1, a0.2)) a1).2))

theorem C27 (a0 : (List (Int × Int × Int)) × List (Int × Int × Int)) (a1 : Int) (l0_1 : a0.1.length ≤ 9223372036854775807) (l0_2 : a0.2.length ≤ 9223372036854775807) : Con Tryz.prog 27 [(.a [(.s 0 0 a0.1.length 3), (.s 1 0 a0.2.length 3)]), (iv a1)] [(.live false true (flat c27 a0.1)), (.live false true (flat c85 a0.2))] (.t [(.a (k2 (F27 a0 a1).1)), (iv (F27 a0 a1).2)]) [] := by
  refine con_s Tryz.func27 (by kernel_rfl) fun cx hcx => ?_
  try have hg := (valr_ok h0).2
  have ho := ones_len_r (a0.1, a0.2)
  let t0 : List (St Tryz.prog) := [.c [0, 1] (C35 (a0.1, a0.2) (by (try simp only [List.length_append, List.length_cons, List.length_nil, Int.toNat_zero]); omega) (by (try simp only [List.length_append, List.length_cons, List.length_nil, Int.toNat_zero]); omega))]
  cases h0 : (((F35 (a0.1, a0.2)) : Int) != 0) with
  | true =>
   have q0 := bne_iff_ne.1 h0
   try have hg := (valr_ok h0).2
   have e := Eq.refl (F27 a0 a1); conv at e => rhs; simp only [F27, h0, cond_true, cond_false]
   rw [e]
   exact rt (t0 ++ [.d h0]) [] [] hcx (by kernel_rfl)
  | false =>
   have q0 := bne_eq_false_iff_eq.1 h0
   try have hg := (valr_ok h0).2
   have e := Eq.refl (F27 a0 a1); conv at e => rhs; simp only [F27, h0, cond_true, cond_false]
   rw [e]
   exact rt (t0 ++ [.d h0, .c [0, 1] (C61 (a0.1, a0.2) (by (try simp only [List.length_append, List.length_cons, List.length_nil, Int.toNat_zero]); omega) (by (try simp only [List.length_append, List.length_cons, List.length_nil, Int.toNat_zero]); omega) (by (try simp only [List.length_append, List.length_cons, List.length_nil, Int.toNat_zero]); omega)), .c [0, 1, 4] (C25_L (a0.1, a0.2) (F61 (a0.1, a0.2)) a1 (by (try simp only [List.length_append, List.length_cons, List.length_nil, Int.toNat_zero]); omega) (by (try simp only [List.length_append, List.length_cons, List.length_nil, Int.toNat_zero]); omega) (by (try simp only [List.length_append, List.length_cons, List.length_nil, Int.toNat_zero]); omega))]) [] [] hcx (by kernel_rfl)

end Go.Proofs.YthpgabaeefifbaaGreat

namespace Go.Proofs.YthpgabaeefifbaaGreat
open Go.Proofs Go.Aw Go.RowKit
set_option maxRecDepth 100000
set_option linter.unusedVariables false
set_option linter.unusedSimpArgs false

theorem potl_le {T : TB} {q : List Int} (hr : ∀ r ∈ T, r.length ≤ q.length) (hm : q.length ≤ 96) : (F43_L_L T q).1.length ≤ T.length := by
  rw [pot_h hr hm]
  unfold potV
  cases hs : shs (fun r : List (Int × Int) => addV (r.zip q)) T [] with
  | inr r => simp [out8]
  | inl l =>
    obtain ⟨e, _⟩ := shs_inl hs
    simp only [out8]
    rw [e, List.nil_append, List.length_map]; exact Nat.le_refl _

def F58_L (a0 : ((List (Int × Int × Int)) × List (Int × Int × Int)) × (List (List (Int × Int))) × (List (List (Int × Int))) × Int) (a1 : List (Int)) : (Int × Int) × Int :=
  (bif (((F43_L_L a0.2.1 a1).2 : Int) != 0) then
   ((0, 0), (F43_L_L a0.2.1 a1).2)
  else
   (bif (((F52_L_L (F43_L_L a0.2.1 a1).1 a1).2 : Int) != 0) then
    ((0, 0), (F52_L_L (F43_L_L a0.2.1 a1).1 a1).2)
   else
    (bif (((F50_L_L a0.2.2.1 a1).2 : Int) != 0) then
     ((0, 0), (F50_L_L a0.2.2.1 a1).2)
    else
     (bif (((F56_L (F50_L_L a0.2.2.1 a1).1 a1).2 : Int) != 0) then
      ((0, 0), (F56_L (F50_L_L a0.2.2.1 a1).1 a1).2)
     else
      (bif (((F55_L_L (F43_L_L a0.2.1 a1).1 a1).2 : Int) != 0) then
       ((0, 0), (F55_L_L (F43_L_L a0.2.1 a1).1 a1).2)
      else
       (((imx (F52_L_L (F43_L_L a0.2.1 a1).1 a1).1 (F56_L (F50_L_L a0.2.2.1 a1).1 a1).1), (imn (F55_L_L (F43_L_L a0.2.1 a1).1 a1).1 a0.2.2.2)), 0))))))

theorem C58_L (a0 : ((List (Int × Int × Int)) × List (Int × Int × Int)) × (List (List (Int × Int))) × (List (List (Int × Int))) × Int) (a1 : List (Int)) (l0_1_1 : a0.1.1.length ≤ 9223372036854775807) (l0_1_2 : a0.1.2.length ≤ 9223372036854775807) (l0_2_1 : a0.2.1.length ≤ 9223372036854775807) (l0_2_2_1 : a0.2.2.1.length ≤ 9223372036854775807) (l1 : a1.length ≤ 9223372036854775807) (hr : ∀ r ∈ a0.2.1, r.length ≤ a1.length) (hn : a0.2.1.length ≤ 96) (hm : a1.length ≤ 96) (hl : a0.2.2.1.length = a1.length) (hs : ∀ r ∈ a0.2.2.1, r.length = a1.length) (hp : (((F43_L_L a0.2.1 a1).2 : Int) != 0) = false → 1 ≤ (F43_L_L a0.2.1 a1).1.length ∧ (∀ s ∈ (F43_L_L a0.2.1 a1).1, 1 ≤ s.1) ∧ (∀ s ∈ (F43_L_L a0.2.1 a1).1, 1 ≤ s.2)) (he : (((F50_L_L a0.2.2.1 a1).2 : Int) != 0) = false → W (Int.tdiv (W (Int.tdiv (F103_L a1) 1048576)) 1048576) ≠ 0 ∧ F104 (F50_L_L a0.2.2.1 a1).1.2 (W (Int.tdiv (W (Int.tdiv (F103_L a1) 1048576)) 1048576)) ≠ 0) : Con Tryz.prog 58 [(.a [(.s 0 0 a0.1.1.length 3), (.s 1 0 a0.1.2.length 3), (.s 2 0 a0.2.1.length 1), (.s 3 0 a0.2.2.1.length 1), (iv a0.2.2.2)]), (.s 4 0 a1.length 1)] [(.live false true (flat c27 a0.1.1)), (.live false true (flat c85 a0.1.2)), (.live false true (flat c35 a0.2.1)), (.live false true (flat c35 a0.2.2.1)), (.live false true (flat c3 a1))] (.t [(.a (k2 (F58_L a0 a1).1)), (iv (F58_L a0 a1).2)]) [] := by
  refine con_s Tryz.func58 (by kernel_rfl) fun cx hcx => ?_
  have hx1 := potl_le hr hm
  let t0 : List (St Tryz.prog) := [.c [2, 4] (C43_L_L a0.2.1 a1 (by (try simp only [List.length_append, List.length_cons, List.length_nil, Int.toNat_zero]); omega) (by (try simp only [List.length_append, List.length_cons, List.length_nil, Int.toNat_zero]); omega) hr hn hm)]
  cases h0 : (((F43_L_L a0.2.1 a1).2 : Int) != 0) with
  | true =>
   have q0 := bne_iff_ne.1 h0
   have e := Eq.refl (F58_L a0 a1); conv at e => rhs; simp only [F58_L, h0, cond_true, cond_false]
   rw [e]
   exact rt (t0 ++ [.d h0]) [] [] hcx (by kernel_rfl)
  | false =>
   have q0 := bne_eq_false_iff_eq.1 h0
   let t1 : List (St Tryz.prog) := (t0 ++ [.d h0, .c [7, 4] (C52_L_L (F43_L_L a0.2.1 a1).1 a1 (by (try simp only [List.length_append, List.length_cons, List.length_nil, Int.toNat_zero]); omega) (by (try simp only [List.length_append, List.length_cons, List.length_nil, Int.toNat_zero]); omega) (hp h0).1 (hp h0).2.2)])
   cases h1 : (((F52_L_L (F43_L_L a0.2.1 a1).1 a1).2 : Int) != 0) with
   | true =>
    have q1 := bne_iff_ne.1 h1
    have e := Eq.refl (F58_L a0 a1); conv at e => rhs; simp only [F58_L, h0, h1, cond_true, cond_false]
    rw [e]
    exact rt (t1 ++ [.d h1]) [] [] hcx (by kernel_rfl)
   | false =>
    have q1 := bne_eq_false_iff_eq.1 h1
    let t2 : List (St Tryz.prog) := (t1 ++ [.d h1, .c [3, 4] (C50_L_L a0.2.2.1 a1 (by (try simp only [List.length_append, List.length_cons, List.length_nil, Int.toNat_zero]); omega) (by (try simp only [List.length_append, List.length_cons, List.length_nil, Int.toNat_zero]); omega) hl hs hm)])
    cases h2 : (((F50_L_L a0.2.2.1 a1).2 : Int) != 0) with
    | true =>
     have q2 := bne_iff_ne.1 h2
     have e := Eq.refl (F58_L a0 a1); conv at e => rhs; simp only [F58_L, h0, h1, h2, cond_true, cond_false]
     rw [e]
     exact rt (t2 ++ [.d h2]) [] [] hcx (by kernel_rfl)
    | false =>
     have q2 := bne_eq_false_iff_eq.1 h2
     let t3 : List (St Tryz.prog) := (t2 ++ [.d h2, .c [4] (C56_L (F50_L_L a0.2.2.1 a1).1 a1 (by (try simp only [List.length_append, List.length_cons, List.length_nil, Int.toNat_zero]); omega) (he h2).1 (he h2).2)])
     cases h3 : (((F56_L (F50_L_L a0.2.2.1 a1).1 a1).2 : Int) != 0) with
     | true =>
      have q3 := bne_iff_ne.1 h3
      have e := Eq.refl (F58_L a0 a1); conv at e => rhs; simp only [F58_L, h0, h1, h2, h3, cond_true, cond_false]
      rw [e]
      exact rt (t3 ++ [.d h3]) [] [] hcx (by kernel_rfl)
     | false =>
      have q3 := bne_eq_false_iff_eq.1 h3
      let t4 : List (St Tryz.prog) := (t3 ++ [.d h3, .c [7, 4] (C55_L_L (F43_L_L a0.2.1 a1).1 a1 (by (try simp only [List.length_append, List.length_cons, List.length_nil, Int.toNat_zero]); omega) (by (try simp only [List.length_append, List.length_cons, List.length_nil, Int.toNat_zero]); omega) (hp h0).1 (hp h0).2.1)])
      cases h4 : (((F55_L_L (F43_L_L a0.2.1 a1).1 a1).2 : Int) != 0) with
      | true =>
       have q4 := bne_iff_ne.1 h4
       have e := Eq.refl (F58_L a0 a1); conv at e => rhs; simp only [F58_L, h0, h1, h2, h3, h4, cond_true, cond_false]
       rw [e]
       exact rt (t4 ++ [.d h4]) [] [] hcx (by kernel_rfl)
      | false =>
       have q4 := bne_eq_false_iff_eq.1 h4
       have e := Eq.refl (F58_L a0 a1); conv at e => rhs; simp only [F58_L, h0, h1, h2, h3, h4, cond_true, cond_false]
       rw [e]
       exact rt (t4 ++ [.d h4]) [] [] hcx (by kernel_rfl)

end Go.Proofs.YthpgabaeefifbaaGreat

namespace Go.Proofs.YthpgabaeefifbaaGreat
open Go.Proofs Go.Aw Go.RowKit
set_option maxRecDepth 100000
set_option linter.unusedVariables false
set_option linter.unusedSimpArgs false

/-! ### The ball of the program and of the document -/
theorem hw256 : W (0 - 256) = -256 := rfl
theorem hsize_r {n : Int} (h : F81 n ≤ 256) (h2 : n ≥ -256) : -256 ≤ n ∧ n ≤ 256 := by
  unfold F81 at h
  split at h <;> omega
theorem hsize_l {n : Int} (h : -256 ≤ n ∧ n ≤ 256) : F81 n ≤ 256 := by
  unfold F81
  rw [W_eq (by omega) (by omega)]
  split <;> omega
theorem hsmall_iff (x : P3) : F36 x 256 = true ↔ bd 256 x := by
  unfold F36 bd
  rw [hw256]
  constructor
  · intro h
    by_cases h1 : F81 x.1 ≤ 256 <;> by_cases h2 : F81 x.2.1 ≤ 256 <;> by_cases h3 : F81 x.2.2 ≤ 256 <;> simp [h1, h2, h3] at h
    exact ⟨hsize_r h1 h.1, hsize_r h2 h.2.1, hsize_r h3 h.2.2⟩
  · intro h
    have h1 := hsize_l h.1; have h2 := hsize_l h.2.1; have h3 := hsize_l h.2.2
    simp [h1, h2, h3, h.1.1, h.2.1.1, h.2.2.1]
theorem hwith (n : Int) : F33 n (-256) 256 = decide (-256 ≤ n ∧ n ≤ 256) := by
  unfold F33
  by_cases h1 : -256 ≤ n <;> by_cases h2 : n ≤ 256 <;> simp [h1, h2]
noncomputable def dsW (p x : P3) : Int := F37 (F38 p x)
theorem dsW_bd {p x : P3} (hp : bd 64 p) (hx : bd 256 x) : 0 ≤ dsW p x ∧ dsW p x ≤ 400000 := by
  unfold bd at hp hx
  have e1 : W (p.1 - x.1) = p.1 - x.1 := W_eq (by omega) (by omega)
  have e2 : W (p.2.1 - x.2.1) = p.2.1 - x.2.1 := W_eq (by omega) (by omega)
  have e3 : W (p.2.2 - x.2.2) = p.2.2 - x.2.2 := W_eq (by omega) (by omega)
  have b1 := mul_bd (a := 320) (b := 320) (x := p.1 - x.1) (y := p.1 - x.1) (by omega) (by omega)
  have b2 := mul_bd (a := 320) (b := 320) (x := p.2.1 - x.2.1) (y := p.2.1 - x.2.1) (by omega) (by omega)
  have b3 := mul_bd (a := 320) (b := 320) (x := p.2.2 - x.2.2) (y := p.2.2 - x.2.2) (by omega) (by omega)
  have n1 : 0 ≤ (p.1 - x.1) * (p.1 - x.1) := by rcases Int.le_total 0 (p.1 - x.1) with h | h; exact Int.mul_nonneg h h; exact Int.mul_nonneg_of_nonpos_of_nonpos h h
  have n2 : 0 ≤ (p.2.1 - x.2.1) * (p.2.1 - x.2.1) := by rcases Int.le_total 0 (p.2.1 - x.2.1) with h | h; exact Int.mul_nonneg h h; exact Int.mul_nonneg_of_nonpos_of_nonpos h h
  have n3 : 0 ≤ (p.2.2 - x.2.2) * (p.2.2 - x.2.2) := by rcases Int.le_total 0 (p.2.2 - x.2.2) with h | h; exact Int.mul_nonneg h h; exact Int.mul_nonneg_of_nonpos_of_nonpos h h
  unfold dsW F37 F38
  simp only [e1, e2, e3]
  generalize (p.1 - x.1) * (p.1 - x.1) = a at *
  generalize (p.2.1 - x.2.1) * (p.2.1 - x.2.1) = b at *
  generalize (p.2.2 - x.2.2) * (p.2.2 - x.2.2) = c at *
  rw [W_eq (n := a) (by omega) (by omega), W_eq (n := b) (by omega) (by omega), W_eq (n := c) (by omega) (by omega), W_eq (n := a + b) (by omega) (by omega), W_eq (n := a + b + c) (by omega) (by omega)]
  omega
noncomputable def ballW (m : ME) (x : P3) : Int := m.1.foldl (fun v p => imx v (dsW p x)) 0
theorem ballW_bd {x : P3} (hx : bd 256 x) : ∀ (l : List P3) (v : Int), (∀ p ∈ l, bd 64 p) → 0 ≤ v ∧ v ≤ 400000 → 0 ≤ l.foldl (fun v p => imx v (dsW p x)) v ∧ l.foldl (fun v p => imx v (dsW p x)) v ≤ 400000
  | [], v, _, h => h
  | p :: l, v, hp, h => by
    rw [List.foldl_cons]
    have := dsW_bd (hp p List.mem_cons_self) hx
    have := imx_bd v (dsW p x)
    exact ballW_bd hx l _ (fun y hy => hp y (List.mem_cons_of_mem _ hy)) (by omega)
theorem ball_lf (m : ME) (x : P3) : loopF (S11_1 m x) (Int.toNat (((m.1.length : Nat) : Int) - 0) + 1) (0, 0) = ((F34 (ballW m x)).1.2, (F34 (ballW m x)).2) := by
  have key := each_loop (S := S11_1 m x) (fun v i => (v, i)) (fun v p => .inl (imx v (dsW p x))) (fun v => ((F34 v).1.2, (F34 v).2)) (L := m.1) (v := 0) (n := Int.toNat (((m.1.length : Nat) : Int) - 0) + 1) (fun _ _ => True) ?_ (fun _ _ _ _ _ _ _ => trivial) ?_ (by omega) trivial
  · refine Eq.trans key ?_
    rw [foldE_inl]; rfl
  · intro i c hc v _
    obtain ⟨hlt, hce⟩ := List.getElem?_eq_some_iff.1 hc
    simp only [S11_1]
    rw [decide_eq_true (by omega), cond_true, getD_of hc]; rfl
  · intro v _
    simp only [S11_1]
    rw [decide_eq_false (by omega), cond_false]
theorem ball_lr (m : ME) (x : P3) : loopF (S12_0 m x) (Int.toNat (((m.1.length : Nat) : Int) - 0) + 1) (0, 0) = ((F39 (ballW m x)).1.2, (F39 (ballW m x)).2) := by
  have key := each_loop (S := S12_0 m x) (fun v i => (v, i)) (fun v p => .inl (imx v (dsW p x))) (fun v => ((F39 v).1.2, (F39 v).2)) (L := m.1) (v := 0) (n := Int.toNat (((m.1.length : Nat) : Int) - 0) + 1) (fun _ _ => True) ?_ (fun _ _ _ _ _ _ _ => trivial) ?_ (by omega) trivial
  · refine Eq.trans key ?_
    rw [foldE_inl]; rfl
  · intro i c hc v _
    obtain ⟨hlt, hce⟩ := List.getElem?_eq_some_iff.1 hc
    simp only [S12_0]
    rw [decide_eq_true (by omega), cond_true, getD_of hc]; rfl
  · intro v _
    simp only [S12_0]
    rw [decide_eq_false (by omega), cond_false]
theorem Ball_eq (m : ME) (x : P3) : F11 m x = F12 m x := by
  unfold F11 F12
  rw [show F35 (m.1, m.2) = F32 (m.1, m.2) from (val_eq m).symm, hwith, hwith, hwith]
  cases h : (((F32 (m.1, m.2)) : Int) != 0) with
  | true => rfl
  | false =>
    rw [cond_false, cond_false]
    by_cases hb : bd 256 x
    · rw [(hsmall_iff x).2 hb, decide_eq_true hb.1, decide_eq_true hb.2.1, decide_eq_true hb.2.2]
      simp only [Bool.not_true, cond_false]
      have hv : F32 m = 0 := bne_eq_false_iff_eq.1 h
      obtain ⟨_, _, _, hpt, _⟩ := val_parts hv
      unfold F67 at hpt
      have hpb := pts_bd m _ 0 _ (by omega) hpt
      have hall : ∀ p ∈ m.1, bd 64 p := fun p hp => by
        obtain ⟨j, hj, e⟩ := List.getElem_of_mem hp
        have := hpb j (Nat.zero_le _) hj
        rw [List.getD_eq_getElem?_getD, List.getElem?_eq_getElem hj, Option.getD_some, e] at this
        exact this
      have hB : 0 ≤ ballW m x ∧ ballW m x ≤ 400000 := ballW_bd hb m.1 0 hall (by omega)
      rw [ball_lf, ball_lr, Len_eq hB]
    · have hs : F36 x 256 = false := by
        cases hq : F36 x 256 with
        | true => exact absurd ((hsmall_iff x).1 hq) hb
        | false => rfl
      rw [hs]
      simp only [Bool.not_false, cond_true]
      unfold bd at hb
      by_cases h1 : -256 ≤ x.1 ∧ x.1 ≤ 256
      · rw [decide_eq_true h1]
        by_cases h2 : -256 ≤ x.2.1 ∧ x.2.1 ≤ 256
        · rw [decide_eq_true h2]
          by_cases h3 : -256 ≤ x.2.2 ∧ x.2.2 ≤ 256
          · exact absurd ⟨h1, h2, h3⟩ hb
          · rw [decide_eq_false h3]; rfl
        · rw [decide_eq_false h2]; rfl
      · rw [decide_eq_false h1]; rfl

end Go.Proofs.YthpgabaeefifbaaGreat

namespace Go.Proofs.YthpgabaeefifbaaGreat
open Go.Proofs Go.Aw Go.RowKit
set_option maxRecDepth 100000
set_option linter.unusedVariables false
set_option linter.unusedSimpArgs false

/-! ### Below, above and Thomson's bound -/
noncomputable def mxF (l : List (Int × Int)) (v : Int) : Int := l.foldl (fun v s => imx v s.2) v
noncomputable def mnF (l : List (Int × Int)) (v : Int) : Int := l.foldl (fun v s => imn v s.1) v
theorem totr_eq (q : List Int) : W ((W (F54_L q * 1048576)) * 1048576) = F103_L q := by rw [tot_h, sum_r]
theorem mx_first {l : List (Int × Int)} (hl : 1 ≤ l.length) (hp : ∀ s ∈ l, 1 ≤ s.2) : mxF l (l.getD (Int.toNat 0) default).2 = mxF l 0 := by
  cases l with
  | nil => simp at hl
  | cons s t =>
    have hs := hp s List.mem_cons_self
    show t.foldl (fun v s => imx v s.2) (imx s.2 s.2) = t.foldl (fun v s => imx v s.2) (imx 0 s.2)
    rw [show imx s.2 s.2 = s.2 from by unfold imx; split <;> rfl, show imx 0 s.2 = s.2 from by unfold imx; rw [if_pos (by omega)]]
theorem below_f (l : List (Int × Int)) (q : List Int) : F52_L_L l q = F102 (W (Int.tdiv (F103_L q) (mxF l (l.getD (Int.toNat 0) default).2))) := by
  unfold F52_L_L
  have key := each_loop (S := S52_L_L_0 l q) (fun v i => (v, i)) (fun v s => .inl (imx v s.2)) (fun v => F102 (W (Int.tdiv (F103_L q) v))) (L := l) (v := (l.getD (Int.toNat 0) default).2) (n := Int.toNat (((l.length : Nat) : Int) - 0) + 1) (fun _ _ => True) ?_ (fun _ _ _ _ _ _ _ => trivial) ?_ (by omega) trivial
  · refine Eq.trans key ?_
    rw [foldE_inl]; rfl
  · intro i c hc v _
    obtain ⟨hlt, hce⟩ := List.getElem?_eq_some_iff.1 hc
    simp only [S52_L_L_0]
    rw [decide_eq_true (by omega), cond_true, getD_of hc]; rfl
  · intro v _
    simp only [S52_L_L_0]
    rw [decide_eq_false (by omega), cond_false]
theorem above_f (l : List (Int × Int)) (q : List Int) : F55_L_L l q = F102 (F104 (F103_L q) (mnF l (l.getD (Int.toNat 0) default).1)) := by
  unfold F55_L_L
  have key := each_loop (S := S55_L_L_0 l q) (fun v i => (v, i)) (fun v s => .inl (imn v s.1)) (fun v => F102 (F104 (F103_L q) v)) (L := l) (v := (l.getD (Int.toNat 0) default).1) (n := Int.toNat (((l.length : Nat) : Int) - 0) + 1) (fun _ _ => True) ?_ (fun _ _ _ _ _ _ _ => trivial) ?_ (by omega) trivial
  · refine Eq.trans key ?_
    rw [foldE_inl]; rfl
  · intro i c hc v _
    obtain ⟨hlt, hce⟩ := List.getElem?_eq_some_iff.1 hc
    simp only [S55_L_L_0]
    rw [decide_eq_true (by omega), cond_true, getD_of hc]; rfl
  · intro v _
    simp only [S55_L_L_0]
    rw [decide_eq_false (by omega), cond_false]
theorem Below_eq (m : ME) (q : List Int) (d : Int) : F18_L m q d = F19_L m q d := by
  unfold F18_L F19_L
  rw [← Pot_eq]
  cases h : (((F13_L (m.1, m.2) q d).2 : Int) != 0) with
  | true => rfl
  | false =>
    obtain ⟨h1, h2, h3⟩ := pot_fine h
    rw [cond_false, cond_false, below_f, mx_first h1 h3]
    have key := each_loop (S := S19_L_0 m q d) (fun v i => (v, i)) (fun v s => .inl (imx v s.2)) (fun v => F102 (W (Int.tdiv (F103_L q) v))) (L := (F13_L (m.1, m.2) q d).1) (v := 0) (n := Int.toNat ((((F13_L (m.1, m.2) q d).1.length : Nat) : Int) - 0) + 1) (fun _ _ => True) ?_ (fun _ _ _ _ _ _ _ => trivial) ?_ (by omega) trivial
    · refine Eq.symm (Eq.trans key ?_)
      rw [foldE_inl]; rfl
    · intro i c hc v _
      obtain ⟨hlt, hce⟩ := List.getElem?_eq_some_iff.1 hc
      simp only [S19_L_0]
      rw [← Pot_eq, decide_eq_true (by omega), cond_true, getD_of hc]; rfl
    · intro v _
      simp only [S19_L_0]
      rw [← Pot_eq, decide_eq_false (by omega), cond_false, totr_eq]; rfl
theorem Above_eq (m : ME) (q : List Int) (d : Int) : F20_L m q d = F21_L m q d := by
  unfold F20_L F21_L
  rw [← Pot_eq]
  cases h : (((F13_L (m.1, m.2) q d).2 : Int) != 0) with
  | true => rfl
  | false =>
    rw [cond_false, cond_false, above_f]
    have key := each_loop (S := S21_L_0 m q d) (fun v i => (v, i)) (fun v s => .inl (imn v s.1)) (fun v => F102 (F104 (F103_L q) v)) (L := (F13_L (m.1, m.2) q d).1) (v := ((F13_L (m.1, m.2) q d).1.getD (Int.toNat 0) default).1) (n := Int.toNat ((((F13_L (m.1, m.2) q d).1.length : Nat) : Int) - 0) + 1) (fun _ _ => True) ?_ (fun _ _ _ _ _ _ _ => trivial) ?_ (by omega) trivial
    · refine Eq.symm (Eq.trans key ?_)
      rw [foldE_inl]; rfl
    · intro i c hc v _
      obtain ⟨hlt, hce⟩ := List.getElem?_eq_some_iff.1 hc
      simp only [S21_L_0]
      rw [← Pot_eq, decide_eq_true (by omega), cond_true, getD_of hc]; rfl
    · intro v _
      simp only [S21_L_0]
      rw [← Pot_eq, decide_eq_false (by omega), cond_false, totr_eq]; rfl
theorem Thomson_eq (m : ME) (q : List Int) (d : Int) : F22_L m q d = F23_L m q d := by
  unfold F22_L F23_L
  rw [← En_eq]
  cases h : (((F16_L (m.1, m.2) q d).2 : Int) != 0) with
  | true => rfl
  | false =>
    rw [cond_false, cond_false]
    have h' := h
    rw [En_f] at h'
    unfold EnV at h'
    cases hc : (chD (m.1, m.2) q d != 0) with
    | true => rw [hc, cond_true] at h'; rw [hc] at h'; exact absurd h' (by decide)
    | false =>
      obtain ⟨hC, hd⟩ := chD_ok (bne_eq_false_iff_eq.1 hc)
      have hn := hC.n; have hl := hC.len
      unfold F56_L F104
      rw [one_eq hC.ok hC.pos (by omega), totr_eq, rsum_eq hC.ok (by omega)]
      rfl

end Go.Proofs.YthpgabaeefifbaaGreat

namespace Go.Proofs.YthpgabaeefifbaaGreat
open Go.Proofs Go.Aw Go.RowKit
set_option maxRecDepth 100000
set_option linter.unusedVariables false
set_option linter.unusedSimpArgs false

/-! ### Charges of one each -/
theorem set_fold {α : Type} : ∀ (L : List α) (j : Nat), (L.foldl (fun (p : List Int × Nat) _ => (p.1.set p.2 1, p.2 + 1)) (List.replicate j 1 ++ List.replicate L.length 0, j)).1 = List.replicate (j + L.length) 1
  | [], j => by simp
  | c :: L, j => by
    rw [List.foldl_cons]
    have e : (List.replicate j (1 : Int) ++ List.replicate (L.length + 1) 0).set j 1 = List.replicate (j + 1) 1 ++ List.replicate L.length 0 := by
      rw [List.set_append_right (h := by rw [List.length_replicate]; exact Nat.le_refl _), List.length_replicate, Nat.sub_self, List.replicate_succ, List.set_cons_zero, List.replicate_succ' (n := j), List.append_assoc]; rfl
    simp only [List.length_cons]
    rw [e, set_fold L (j + 1)]
    congr 1; omega
theorem ones_h (m : ME) : F60 m = m.2.map fun _ => 1 := by
  unfold F60
  have key := each_loop (S := S60_0 m) (fun (v : List Int × Nat) i => (v.1, i)) (fun v _ => .inl (v.1.set v.2 1, v.2 + 1)) (fun v => v.1) (L := m.2) (v := (List.replicate (Int.toNat ((m.2.length : Nat) : Int)) 0, 0)) (n := Int.toNat ((((Int.toNat ((m.2.length : Nat) : Int)) : Nat) : Int) - 0) + 1) (fun i v => v.2 = i) ?_ (fun i c hc v v' hv h => by simp only [Sum.inl.injEq] at h; subst h; show v.2 + 1 = i + 1; omega) ?_ (by omega) rfl
  · refine Eq.trans key ?_
    rw [foldE_inl]
    simp only [outE]
    have := set_fold m.2 0
    simp only [List.replicate_zero, List.nil_append, Nat.zero_add] at this
    rw [Int.toNat_natCast, this, List.map_const']
  · intro i c hc v hv
    obtain ⟨hlt, hce⟩ := List.getElem?_eq_some_iff.1 hc
    simp only [S60_0]
    rw [decide_eq_true (by omega), cond_true, Int.toNat_natCast, hv]; rfl
  · intro v _
    simp only [S60_0]
    rw [decide_eq_false (by omega), cond_false]
theorem ones_eq (m : ME) : F60 m = F61 m := by rw [ones_h, ones_r]

end Go.Proofs.YthpgabaeefifbaaGreat

namespace Go.Proofs.YthpgabaeefifbaaGreat
open Go.Proofs Go.Aw Go.RowKit
set_option maxRecDepth 100000
set_option linter.unusedVariables false
set_option linter.unusedSimpArgs false

/-! ### The box and its middle -/
noncomputable def bxS (v : P3 × P3) (p : P3) : P3 × P3 := ((imn v.1.1 p.1, imn v.1.2.1 p.2.1, imn v.1.2.2 p.2.2), (imx v.2.1 p.1, imx v.2.2.1 p.2.1, imx v.2.2.2 p.2.2))
noncomputable def bxV (m : ME) : P3 × P3 := (m.1.drop 1).foldl bxS (m.1.getD (Int.toNat 0) default, m.1.getD (Int.toNat 0) default)
noncomputable def half (n : Int) : Int := Int.fdiv n (2 ^ (min (Int.toNat 1) 64))
noncomputable def midV (v : P3 × P3) : P3 := (half (W (v.1.1 + v.2.1)), half (W (v.1.2.1 + v.2.2.1)), half (W (v.1.2.2 + v.2.2.2)))
theorem middle_r {m : ME} (h : 1 ≤ m.1.length) : F59 m = midV (bxV m) := by
  unfold F59
  have key := each_loopF (S := S59_0 m) (fun (v : P3 × P3) i => (i, v.1.1, v.1.2.1, v.1.2.2, v.2.1, v.2.2.1, v.2.2.2)) (fun v p => .inl (bxS v p)) (fun v => midV v) (L := m.1) (fun _ _ => True) ?_ (fun _ _ _ _ _ _ _ => trivial) ?_ (m.1.drop 1) 1 (Int.toNat (((m.1.length : Nat) : Int) - 1) + 1) (m.1.getD (Int.toNat 0) default, m.1.getD (Int.toNat 0) default) rfl h (by rw [List.length_drop]; omega) trivial
  · refine Eq.trans key ?_
    rw [foldE_inl]; rfl
  · intro i c hc v _
    obtain ⟨hlt, hce⟩ := List.getElem?_eq_some_iff.1 hc
    simp only [S59_0]
    rw [decide_eq_true (by omega), cond_true, getD_of hc]; rfl
  · intro v _
    simp only [S59_0]
    rw [decide_eq_false (by omega), cond_false]; rfl
theorem box_f {m : ME} (h : F32 m = 0) : F105 m = ((bxV m).1, (bxV m).2, 0) := by
  have hp := (pts_one (m := m) (by rw [h]; rfl)).1
  unfold F105
  rw [show F32 (m.1, m.2) = 0 from h, show (((0 : Int)) != 0) = false from rfl, cond_false]
  have key := each_loop (S := S105_0 m) (fun (v : P3 × P3) i => (i, v.1.1, v.1.2.1, v.1.2.2, v.2.1, v.2.2.1, v.2.2.2)) (fun v p => .inl (bxS v p)) (fun v => (v.1, v.2, 0)) (L := m.1) (v := (m.1.getD (Int.toNat 0) default, m.1.getD (Int.toNat 0) default)) (n := Int.toNat (((m.1.length : Nat) : Int) - 0) + 1) (fun _ _ => True) ?_ (fun _ _ _ _ _ _ _ => trivial) ?_ (by omega) trivial
  · refine Eq.trans key ?_
    rw [foldE_inl]
    have e : m.1.foldl bxS (m.1.getD (Int.toNat 0) default, m.1.getD (Int.toNat 0) default) = bxV m := by
      unfold bxV
      generalize m.1 = l at hp ⊢
      cases l with
      | nil => simp at hp
      | cons p t =>
        show t.foldl bxS (bxS (p, p) p) = t.foldl bxS (p, p)
        have n1 : ∀ a : Int, imn a a = a := fun a => by unfold imn; split <;> rfl
        have n2 : ∀ a : Int, imx a a = a := fun a => by unfold imx; split <;> rfl
        rw [show bxS (p, p) p = (p, p) from by unfold bxS; simp only [n1, n2]]
    rw [e]; rfl
  · intro i c hc v _
    obtain ⟨hlt, hce⟩ := List.getElem?_eq_some_iff.1 hc
    simp only [S105_0]
    rw [decide_eq_true (by omega), cond_true, getD_of hc]; rfl
  · intro v _
    simp only [S105_0]
    rw [decide_eq_false (by omega), cond_false]

end Go.Proofs.YthpgabaeefifbaaGreat

namespace Go.Proofs.YthpgabaeefifbaaGreat
open Go.Proofs Go.Aw Go.RowKit
set_option maxRecDepth 100000
set_option linter.unusedVariables false
set_option linter.unusedSimpArgs false

theorem Len_0 {n : Int} (h : 0 ≤ n ∧ n ≤ 400000) : (F34 n).2 = 0 := by
  obtain ⟨r, hr, e⟩ := Len_f h
  obtain ⟨h0, h1, h2⟩ := hr
  rw [e]
  unfold lenV
  have hb : r ≤ 1073741824 := by
    by_cases hc : r ≤ 1073741824
    · exact hc
    · have := Int.mul_le_mul (show (1073741824 : Int) ≤ r by omega) (show (1073741824 : Int) ≤ r by omega) (by omega) (by omega)
      omega
  have hx : (if r * r = n * 1099511627776 then r else r + 1) = r ∨ (if r * r = n * 1099511627776 then r else r + 1) = r + 1 := by split <;> simp
  generalize (if r * r = n * 1099511627776 then r else r + 1) = s at hx ⊢
  rw [res_f (by omega) (by omega) (by omega)]

end Go.Proofs.YthpgabaeefifbaaGreat

namespace Go.Proofs.YthpgabaeefifbaaGreat
open Go.Proofs Go.Aw Go.RowKit
set_option maxRecDepth 100000
set_option linter.unusedVariables false
set_option linter.unusedSimpArgs false

theorem half_bd {n : Int} (h : -128 ≤ n ∧ n ≤ 128) : -64 ≤ half n ∧ half n ≤ 64 := by
  unfold half
  rw [show ((2 : Int) ^ (min (Int.toNat 1) 64)) = 2 from by decide, Int.fdiv_eq_ediv_of_nonneg _ (by decide)]
  omega
theorem bxS_bd : ∀ (l : List P3) (v : P3 × P3), (∀ p ∈ l, bd 64 p) → bd 64 v.1 → bd 64 v.2 → bd 64 (l.foldl bxS v).1 ∧ bd 64 (l.foldl bxS v).2
  | [], v, _, h1, h2 => ⟨h1, h2⟩
  | p :: l, v, hp, h1, h2 => by
    rw [List.foldl_cons]
    have hb := hp p List.mem_cons_self
    unfold bd at h1 h2 hb
    refine bxS_bd l _ (fun y hy => hp y (List.mem_cons_of_mem _ hy)) ?_ ?_
    · have a := imn_bd v.1.1 p.1; have b := imn_bd v.1.2.1 p.2.1; have c := imn_bd v.1.2.2 p.2.2
      unfold bd bxS; simp only; omega
    · have a := imx_bd v.2.1 p.1; have b := imx_bd v.2.2.1 p.2.1; have c := imx_bd v.2.2.2 p.2.2
      unfold bd bxS; simp only; omega
theorem pts_all {m : ME} (hv : F32 m = 0) : ∀ p ∈ m.1, bd 64 p := fun p hp => by
  obtain ⟨_, _, _, hpt, _⟩ := val_parts hv
  unfold F67 at hpt
  have hpb := pts_bd m _ 0 _ (by omega) hpt
  obtain ⟨j, hj, e⟩ := List.getElem_of_mem hp
  have := hpb j (Nat.zero_le _) hj
  rw [List.getD_eq_getElem?_getD, List.getElem?_eq_getElem hj, Option.getD_some, e] at this
  exact this
theorem mid_bd {m : ME} (hv : F32 m = 0) : bd 64 (midV (bxV m)) := by
  have hall := pts_all hv
  have hp := (pts_one (m := m) (by rw [hv]; rfl)).1
  have h0 : bd 64 (m.1.getD (Int.toNat 0) default) := by
    rw [List.getD_eq_getElem?_getD, List.getElem?_eq_getElem (show Int.toNat 0 < m.1.length from hp), Option.getD_some]
    exact hall _ (List.getElem_mem _)
  obtain ⟨a, b⟩ := bxS_bd (m.1.drop 1) (m.1.getD (Int.toNat 0) default, m.1.getD (Int.toNat 0) default) (fun p hp => hall p (List.mem_of_mem_drop hp)) h0 h0
  change bd 64 (bxV m).1 at a
  change bd 64 (bxV m).2 at b
  unfold bd at a b
  unfold bd midV
  rw [W_eq (n := (bxV m).1.1 + (bxV m).2.1) (by omega) (by omega), W_eq (n := (bxV m).1.2.1 + (bxV m).2.2.1) (by omega) (by omega), W_eq (n := (bxV m).1.2.2 + (bxV m).2.2.2) (by omega) (by omega)]
  exact ⟨half_bd (by omega), half_bd (by omega), half_bd (by omega)⟩

end Go.Proofs.YthpgabaeefifbaaGreat

namespace Go.Proofs.YthpgabaeefifbaaGreat
open Go.Proofs Go.Aw Go.RowKit
set_option maxRecDepth 100000
set_option linter.unusedVariables false
set_option linter.unusedSimpArgs false

/-! ### A valid mesh has its tables -/
theorem dead_b {m : ME} {d : Int} (h : F32 m = 0) (hd : 0 ≤ d ∧ d ≤ 2) : ¬ (((F41_f42 (m.1, m.2) d).2 : Int) != 0) = true := by
  rw [show F41_f42 (m.1, m.2) d = _ from tab_b h hd]; show ¬ ((0 : Int) != 0) = true; decide
theorem dead_m {m : ME} {d : Int} (h : F32 m = 0) (hd : 0 ≤ d ∧ d ≤ 2) : ¬ (((F41_f49 (m.1, m.2) d).2 : Int) != 0) = true := by
  rw [show F41_f49 (m.1, m.2) d = _ from tab_m h hd]; show ¬ ((0 : Int) != 0) = true; decide
theorem dead_x {m : ME} (h : F32 m = 0) : ¬ (((F105 (m.1, m.2)).2.2 : Int) != 0) = true := by
  rw [show F105 (m.1, m.2) = _ from box_f h]; show ¬ ((0 : Int) != 0) = true; decide

def F57 (a0 : (List (Int × Int × Int)) × List (Int × Int × Int)) (a1 : Int) : (((List (Int × Int × Int)) × List (Int × Int × Int)) × (List (List (Int × Int))) × (List (List (Int × Int))) × Int) × Int :=
  (bif (((F41_f42 (a0.1, a0.2) a1).2 : Int) != 0) then
   default
  else
   (bif (((F41_f49 (a0.1, a0.2) a1).2 : Int) != 0) then
    default
   else
    (bif (((F105 (a0.1, a0.2)).2.2 : Int) != 0) then
     default
    else
     (((a0.1, a0.2), (F41_f42 (a0.1, a0.2) a1).1, (F41_f49 (a0.1, a0.2) a1).1, (F11 (a0.1, a0.2) ((Int.fdiv (W ((F105 (a0.1, a0.2)).1.1 + (F105 (a0.1, a0.2)).2.1.1)) (2 ^ (min (Int.toNat 1) 64))), (Int.fdiv (W ((F105 (a0.1, a0.2)).1.2.1 + (F105 (a0.1, a0.2)).2.1.2.1)) (2 ^ (min (Int.toNat 1) 64))), (Int.fdiv (W ((F105 (a0.1, a0.2)).1.2.2 + (F105 (a0.1, a0.2)).2.1.2.2)) (2 ^ (min (Int.toNat 1) 64))))).1), (F11 (a0.1, a0.2) ((Int.fdiv (W ((F105 (a0.1, a0.2)).1.1 + (F105 (a0.1, a0.2)).2.1.1)) (2 ^ (min (Int.toNat 1) 64))), (Int.fdiv (W ((F105 (a0.1, a0.2)).1.2.1 + (F105 (a0.1, a0.2)).2.1.2.1)) (2 ^ (min (Int.toNat 1) 64))), (Int.fdiv (W ((F105 (a0.1, a0.2)).1.2.2 + (F105 (a0.1, a0.2)).2.1.2.2)) (2 ^ (min (Int.toNat 1) 64))))).2))))

theorem C57 (a0 : (List (Int × Int × Int)) × List (Int × Int × Int)) (a1 : Int) (l0_1 : a0.1.length ≤ 9223372036854775807) (l0_2 : a0.2.length ≤ 9223372036854775807) (hv : F32 a0 = 0) (hd : 0 ≤ a1 ∧ a1 ≤ 2) : Con Tryz.prog 57 [(.a [(.s 0 0 a0.1.length 3), (.s 1 0 a0.2.length 3)]), (iv a1)] [(.live false true (flat c27 a0.1)), (.live false true (flat c85 a0.2))] (.t [(.a [(.s 0 0 a0.1.length 3), (.s 1 0 a0.2.length 3), (.s 2 0 (F57 a0 a1).1.2.1.length 1), (.s 3 0 (F57 a0 a1).1.2.2.1.length 1), (iv (F57 a0 a1).1.2.2.2)]), (iv (F57 a0 a1).2)]) [(.live true true (flat c35 (F57 a0 a1).1.2.1)), (.live true true (flat c35 (F57 a0 a1).1.2.2.1))] := by
  refine con_s Tryz.func57 (by kernel_rfl) fun cx hcx => ?_
  let t0 : List (St Tryz.prog) := [.c [0, 1] (C41_f42 (a0.1, a0.2) a1 (by (try simp only [List.length_append, List.length_cons, List.length_nil, Int.toNat_zero]); omega) (by (try simp only [List.length_append, List.length_cons, List.length_nil, Int.toNat_zero]); omega))]
  cases h0 : (((F41_f42 (a0.1, a0.2) a1).2 : Int) != 0) with
  | true =>
   have q0 := bne_iff_ne.1 h0
   first | exact absurd h0 (dead_b hv hd) | exact absurd h1 (dead_m hv hd) | exact absurd h2 (dead_x hv)
  | false =>
   have q0 := bne_eq_false_iff_eq.1 h0
   let t1 : List (St Tryz.prog) := (t0 ++ [.d h0, .c [0, 1] (C41_f49 (a0.1, a0.2) a1 (by (try simp only [List.length_append, List.length_cons, List.length_nil, Int.toNat_zero]); omega) (by (try simp only [List.length_append, List.length_cons, List.length_nil, Int.toNat_zero]); omega))])
   cases h1 : (((F41_f49 (a0.1, a0.2) a1).2 : Int) != 0) with
   | true =>
    have q1 := bne_iff_ne.1 h1
    first | exact absurd h0 (dead_b hv hd) | exact absurd h1 (dead_m hv hd) | exact absurd h2 (dead_x hv)
   | false =>
    have q1 := bne_eq_false_iff_eq.1 h1
    let t2 : List (St Tryz.prog) := (t1 ++ [.d h1, .c [0, 1] (C105 (a0.1, a0.2) (by (try simp only [List.length_append, List.length_cons, List.length_nil, Int.toNat_zero]); omega) (by (try simp only [List.length_append, List.length_cons, List.length_nil, Int.toNat_zero]); omega))])
    cases h2 : (((F105 (a0.1, a0.2)).2.2 : Int) != 0) with
    | true =>
     have q2 := bne_iff_ne.1 h2
     first | exact absurd h0 (dead_b hv hd) | exact absurd h1 (dead_m hv hd) | exact absurd h2 (dead_x hv)
    | false =>
     have q2 := bne_eq_false_iff_eq.1 h2
     have e := Eq.refl (F57 a0 a1); conv at e => rhs; simp only [F57, h0, h1, h2, cond_true, cond_false]
     rw [e]
     exact rt (t2 ++ [.d h2, .p (show 0 ≤ (1 : Int) from by decide), .p (show 0 ≤ (1 : Int) from by decide), .p (show 0 ≤ (1 : Int) from by decide), .c [0, 1] (C11 (a0.1, a0.2) ((Int.fdiv (W ((F105 (a0.1, a0.2)).1.1 + (F105 (a0.1, a0.2)).2.1.1)) (2 ^ (min (Int.toNat 1) 64))), (Int.fdiv (W ((F105 (a0.1, a0.2)).1.2.1 + (F105 (a0.1, a0.2)).2.1.2.1)) (2 ^ (min (Int.toNat 1) 64))), (Int.fdiv (W ((F105 (a0.1, a0.2)).1.2.2 + (F105 (a0.1, a0.2)).2.1.2.2)) (2 ^ (min (Int.toNat 1) 64)))) (by (try simp only [List.length_append, List.length_cons, List.length_nil, Int.toNat_zero]); omega) (by (try simp only [List.length_append, List.length_cons, List.length_nil, Int.toNat_zero]); omega))]) [] [4, 5] hcx (by kernel_rfl)

/-! ### What Bounds is made of -/
theorem ball_0 {m : ME} (hv : F32 m = 0) : (F11 m (midV (bxV m))).2 = 0 := by
  have hb := mid_bd hv
  have hb2 : bd 256 (midV (bxV m)) := by unfold bd at hb ⊢; omega
  unfold F11
  rw [show F32 (m.1, m.2) = 0 from hv, hwith, hwith, hwith, decide_eq_true hb2.1, decide_eq_true hb2.2.1, decide_eq_true hb2.2.2]
  show (loopF (S11_1 m (midV (bxV m))) (Int.toNat (((m.1.length : Nat) : Int) - 0) + 1) (0, 0)).2 = 0
  rw [ball_lf]
  exact Len_0 (ballW_bd hb2 m.1 0 (pts_all hv) (by omega))
theorem prep_f {m : ME} {d : Int} (h : F32 m = 0) (hd : 0 ≤ d ∧ d ≤ 2) : F57 m d =
    (((m.1, m.2), (F41_f42 m d).1, (F41_f49 m d).1, (F11 m (midV (bxV m))).1), 0) := by
  have h1 := Bool.eq_false_iff.2 (dead_b h hd)
  have h2 := Bool.eq_false_iff.2 (dead_m h hd)
  have h3 := Bool.eq_false_iff.2 (dead_x h)
  have hB := ball_0 h
  have e : F105 (m.1, m.2) = ((bxV m).1, (bxV m).2, 0) := box_f h
  unfold F57
  rw [h1, cond_false, h2, cond_false, h3, cond_false]
  rw [← hB, e]
  rfl
theorem chk_v {m : ME} {q : List Int} {d : Int} (h : ((F40_L m q d : Int) != 0) = false) : F32 m = 0 ∧ 0 ≤ d ∧ d ≤ 2 := by
  rw [chk_h] at h
  obtain ⟨hc, hd⟩ := chD_ok (bne_eq_false_iff_eq.1 h)
  exact ⟨hc.v, hd⟩
theorem pots_eq {m : ME} {q : List Int} {d : Int} (h : ((F40_L m q d : Int) != 0) = false) : F13_L m q d = F43_L_L (F41_f42 m d).1 q := by
  unfold F13_L
  rw [show ((F40_L (m.1, m.2) q d : Int) != 0) = false from h, cond_false, Bool.eq_false_iff.2 (dead_b (chk_v h).1 (chk_v h).2), cond_false]
theorem ens_eq {m : ME} {q : List Int} {d : Int} (h : ((F40_L m q d : Int) != 0) = false) : F16_L m q d = F50_L_L (F41_f49 m d).1 q := by
  unfold F16_L
  rw [show ((F40_L (m.1, m.2) q d : Int) != 0) = false from h, cond_false, Bool.eq_false_iff.2 (dead_m (chk_v h).1 (chk_v h).2), cond_false]
abbrev TBL := ME × TB × TB × Int
structure BndPre (T : TBL) (q : List Int) : Prop where
  hr : ∀ r ∈ T.2.1, r.length ≤ q.length
  hn : T.2.1.length ≤ 96
  hm : q.length ≤ 96
  hl : T.2.2.1.length = q.length
  hs : ∀ r ∈ T.2.2.1, r.length = q.length
  hp : (((F43_L_L T.2.1 q).2 : Int) != 0) = false → 1 ≤ (F43_L_L T.2.1 q).1.length ∧ (∀ s ∈ (F43_L_L T.2.1 q).1, 1 ≤ s.1) ∧ (∀ s ∈ (F43_L_L T.2.1 q).1, 1 ≤ s.2)
  he : (((F50_L_L T.2.2.1 q).2 : Int) != 0) = false → W (Int.tdiv (W (Int.tdiv (F103_L q) 1048576)) 1048576) ≠ 0 ∧ F104 (F50_L_L T.2.2.1 q).1.2 (W (Int.tdiv (W (Int.tdiv (F103_L q) 1048576)) 1048576)) ≠ 0
theorem bnd_pre {m : ME} {q : List Int} {d : Int} (h : ((F40_L m q d : Int) != 0) = false) : BndPre (F57 m d).1 q := by
  obtain ⟨hv, hd⟩ := chk_v h
  have p1 := pot_pre h
  have p2 := en_pre h
  rw [prep_f hv hd]
  refine ⟨p1.1, p1.2.1, p1.2.2, p2.1, p2.2.1, fun h0 => ?_, fun h0 => ?_⟩
  · have := pot_fine (m := m) (q := q) (d := d) (by rw [pots_eq h]; exact h0)
    rw [pots_eq h] at this; exact this
  · have := en_fine (m := m) (q := q) (d := d) (by rw [ens_eq h]; exact h0)
    rw [ens_eq h] at this; exact this
theorem ones_len_h (m : ME) : (F60 m).length = m.2.length := by rw [ones_h, List.length_map]

end Go.Proofs.YthpgabaeefifbaaGreat

namespace Go.Proofs.YthpgabaeefifbaaGreat
open Go.Proofs Go.Aw Go.RowKit
set_option maxRecDepth 100000
set_option linter.unusedVariables false
set_option linter.unusedSimpArgs false

def F24_L (a0 : (List (Int × Int × Int)) × List (Int × Int × Int)) (a1 : List (Int)) (a2 : Int) : (Int × Int) × Int :=
  (bif (((F40_L (a0.1, a0.2) a1 a2) : Int) != 0) then
   ((0, 0), (F40_L (a0.1, a0.2) a1 a2))
  else
   (bif (((F57 (a0.1, a0.2) a2).2 : Int) != 0) then
    ((0, 0), (F57 (a0.1, a0.2) a2).2)
   else
    ((F58_L ((a0.1, a0.2), (F57 (a0.1, a0.2) a2).1.2.1, (F57 (a0.1, a0.2) a2).1.2.2.1, (F57 (a0.1, a0.2) a2).1.2.2.2) a1).1, (F58_L ((a0.1, a0.2), (F57 (a0.1, a0.2) a2).1.2.1, (F57 (a0.1, a0.2) a2).1.2.2.1, (F57 (a0.1, a0.2) a2).1.2.2.2) a1).2)))

theorem C24_L (a0 : (List (Int × Int × Int)) × List (Int × Int × Int)) (a1 : List (Int)) (a2 : Int) (l0_1 : a0.1.length ≤ 9223372036854775807) (l0_2 : a0.2.length ≤ 9223372036854775807) (l1 : a1.length ≤ 9223372036854775807) : Con Tryz.prog 24 [(.a [(.s 0 0 a0.1.length 3), (.s 1 0 a0.2.length 3)]), (.s 2 0 a1.length 1), (iv a2)] [(.live false true (flat c27 a0.1)), (.live false true (flat c85 a0.2)), (.live false true (flat c3 a1))] (.t [(.a (k2 (F24_L a0 a1 a2).1)), (iv (F24_L a0 a1 a2).2)]) [] := by
  refine con_s Tryz.func24 (by kernel_rfl) fun cx hcx => ?_
  try have hx1 := (bnd_pre h0).hn
  try have hx2 := (bnd_pre h0).hm
  try have hx3 := (bnd_pre h0).hl
  let t0 : List (St Tryz.prog) := [.c [0, 1, 2] (C40_L (a0.1, a0.2) a1 a2 (by (try simp only [List.length_append, List.length_cons, List.length_nil, Int.toNat_zero]); omega) (by (try simp only [List.length_append, List.length_cons, List.length_nil, Int.toNat_zero]); omega) (by (try simp only [List.length_append, List.length_cons, List.length_nil, Int.toNat_zero]); omega))]
  cases h0 : (((F40_L (a0.1, a0.2) a1 a2) : Int) != 0) with
  | true =>
   have q0 := bne_iff_ne.1 h0
   try have hx1 := (bnd_pre h0).hn
   try have hx2 := (bnd_pre h0).hm
   try have hx3 := (bnd_pre h0).hl
   have e := Eq.refl (F24_L a0 a1 a2); conv at e => rhs; simp only [F24_L, h0, cond_true, cond_false]
   rw [e]
   exact rt (t0 ++ [.d h0]) [] [] hcx (by kernel_rfl)
  | false =>
   have q0 := bne_eq_false_iff_eq.1 h0
   try have hx1 := (bnd_pre h0).hn
   try have hx2 := (bnd_pre h0).hm
   try have hx3 := (bnd_pre h0).hl
   let t1 : List (St Tryz.prog) := (t0 ++ [.d h0, .c [0, 1] (C57 (a0.1, a0.2) a2 (by (try simp only [List.length_append, List.length_cons, List.length_nil, Int.toNat_zero]); omega) (by (try simp only [List.length_append, List.length_cons, List.length_nil, Int.toNat_zero]); omega) (chk_v h0).1 (chk_v h0).2)])
   cases h1 : (((F57 (a0.1, a0.2) a2).2 : Int) != 0) with
   | true =>
    have q1 := bne_iff_ne.1 h1
    try have hx1 := (bnd_pre h0).hn
    try have hx2 := (bnd_pre h0).hm
    try have hx3 := (bnd_pre h0).hl
    have e := Eq.refl (F24_L a0 a1 a2); conv at e => rhs; simp only [F24_L, h0, h1, cond_true, cond_false]
    rw [e]
    exact rt (t1 ++ [.d h1]) [] [] hcx (by kernel_rfl)
   | false =>
    have q1 := bne_eq_false_iff_eq.1 h1
    try have hx1 := (bnd_pre h0).hn
    try have hx2 := (bnd_pre h0).hm
    try have hx3 := (bnd_pre h0).hl
    have e := Eq.refl (F24_L a0 a1 a2); conv at e => rhs; simp only [F24_L, h0, h1, cond_true, cond_false]
    rw [e]
    exact rt (t1 ++ [.d h1, .c [0, 1, 5, 6, 2] (C58_L ((a0.1, a0.2), (F57 (a0.1, a0.2) a2).1.2.1, (F57 (a0.1, a0.2) a2).1.2.2.1, (F57 (a0.1, a0.2) a2).1.2.2.2) a1 (by (try simp only [List.length_append, List.length_cons, List.length_nil, Int.toNat_zero]); omega) (by (try simp only [List.length_append, List.length_cons, List.length_nil, Int.toNat_zero]); omega) (by (try simp only [List.length_append, List.length_cons, List.length_nil, Int.toNat_zero]); omega) (by (try simp only [List.length_append, List.length_cons, List.length_nil, Int.toNat_zero]); omega) (by (try simp only [List.length_append, List.length_cons, List.length_nil, Int.toNat_zero]); omega) (bnd_pre h0).hr (bnd_pre h0).hn (bnd_pre h0).hm (bnd_pre h0).hl (bnd_pre h0).hs (bnd_pre h0).hp (bnd_pre h0).he)]) [] [] hcx (by kernel_rfl)

def F26 (a0 : (List (Int × Int × Int)) × List (Int × Int × Int)) (a1 : Int) : (Int × Int) × Int :=
  (bif (((F32 (a0.1, a0.2)) : Int) != 0) then
   ((0, 0), (F32 (a0.1, a0.2)))
  else
   ((F24_L (a0.1, a0.2) (F60 (a0.1, a0.2)) a1).1, (F24_L (a0.1, a0.2) (F60 (a0.1, a0.2)) a1).2))

theorem C26 (a0 : (List (Int × Int × Int)) × List (Int × Int × Int)) (a1 : Int) (l0_1 : a0.1.length ≤ 9223372036854775807) (l0_2 : a0.2.length ≤ 9223372036854775807) : Con Tryz.prog 26 [(.a [(.s 0 0 a0.1.length 3), (.s 1 0 a0.2.length 3)]), (iv a1)] [(.live false true (flat c27 a0.1)), (.live false true (flat c85 a0.2))] (.t [(.a (k2 (F26 a0 a1).1)), (iv (F26 a0 a1).2)]) [] := by
  refine con_s Tryz.func26 (by kernel_rfl) fun cx hcx => ?_
  try have hg := (val_ok h0).2
  have ho := ones_len_h (a0.1, a0.2)
  let t0 : List (St Tryz.prog) := [.c [0, 1] (C32 (a0.1, a0.2) (by (try simp only [List.length_append, List.length_cons, List.length_nil, Int.toNat_zero]); omega) (by (try simp only [List.length_append, List.length_cons, List.length_nil, Int.toNat_zero]); omega))]
  cases h0 : (((F32 (a0.1, a0.2)) : Int) != 0) with
  | true =>
   have q0 := bne_iff_ne.1 h0
   try have hg := (val_ok h0).2
   have e := Eq.refl (F26 a0 a1); conv at e => rhs; simp only [F26, h0, cond_true, cond_false]
   rw [e]
   exact rt (t0 ++ [.d h0]) [] [] hcx (by kernel_rfl)
  | false =>
   have q0 := bne_eq_false_iff_eq.1 h0
   try have hg := (val_ok h0).2
   have e := Eq.refl (F26 a0 a1); conv at e => rhs; simp only [F26, h0, cond_true, cond_false]
   rw [e]
   exact rt (t0 ++ [.d h0, .c [0, 1] (C60 (a0.1, a0.2) (by (try simp only [List.length_append, List.length_cons, List.length_nil, Int.toNat_zero]); omega) (by (try simp only [List.length_append, List.length_cons, List.length_nil, Int.toNat_zero]); omega) (by (try simp only [List.length_append, List.length_cons, List.length_nil, Int.toNat_zero]); omega)), .c [0, 1, 4] (C24_L (a0.1, a0.2) (F60 (a0.1, a0.2)) a1 (by (try simp only [List.length_append, List.length_cons, List.length_nil, Int.toNat_zero]); omega) (by (try simp only [List.length_append, List.length_cons, List.length_nil, Int.toNat_zero]); omega) (by (try simp only [List.length_append, List.length_cons, List.length_nil, Int.toNat_zero]); omega))]) [] [] hcx (by kernel_rfl)

end Go.Proofs.YthpgabaeefifbaaGreat

namespace Go.Proofs.YthpgabaeefifbaaGreat
open Go.Proofs Go.Aw Go.RowKit
set_option maxRecDepth 100000
set_option linter.unusedVariables false
set_option linter.unusedSimpArgs false

/-! ### The bounds of the program and of the document -/
theorem Bounds_eq (m : ME) (q : List Int) (d : Int) : F24_L m q d = F25_L m q d := by
  obtain ⟨m1, m2⟩ := m
  unfold F24_L F25_L
  rw [← Below_eq, ← Thomson_eq, ← Above_eq, ← Ball_eq]
  unfold F18_L F22_L F20_L
  dsimp only
  cases hc : ((F40_L (m1, m2) q d : Int) != 0) with
  | true =>
    have e : F13_L (m1, m2) q d = ([], F40_L (m1, m2) q d) := by
      unfold F13_L
      dsimp only
      rw [hc, cond_true]
    rw [e]
    simp only [hc, cond_true]
  | false =>
    obtain ⟨hv, hd⟩ := chk_v hc
    have hp1 := (pts_one (m := (m1, m2)) (by rw [hv]; rfl)).1
    rw [prep_f hv hd, pots_eq hc, ens_eq hc, middle_r hp1]
    have hB := ball_0 hv
    unfold F58_L
    simp only [cond_false]
    generalize F43_L_L (F41_f42 (m1, m2) d).1 q = P
    generalize F50_L_L (F41_f49 (m1, m2) d).1 q = E
    generalize F52_L_L P.1 q = b
    generalize F55_L_L P.1 q = a
    generalize F56_L E.1 q = t
    generalize F11 (m1, m2) (midV (bxV (m1, m2))) = B at hB
    rw [hB]
    have h0 : (((0 : Int)) != 0) = false := rfl
    cases hP : ((P.2 : Int) != 0) with
    | true => simp only [hP, h0, cond_true, cond_false]
    | false =>
      cases hb : ((b.2 : Int) != 0) with
      | true => simp only [hP, hb, h0, cond_true, cond_false]
      | false =>
        cases hE : ((E.2 : Int) != 0) with
        | true => simp only [hP, hb, hE, h0, cond_true, cond_false]
        | false =>
          cases ht : ((t.2 : Int) != 0) with
          | true => simp only [hP, hb, hE, ht, h0, cond_true, cond_false]
          | false =>
            cases ha : ((a.2 : Int) != 0) with
            | true => simp only [hP, hb, hE, ht, ha, h0, cond_true, cond_false]
            | false => simp only [hP, hb, hE, ht, ha, h0, cond_true, cond_false]
theorem Even_eq (m : ME) (d : Int) : F26 m d = F27 m d := by
  unfold F26 F27
  rw [show F35 (m.1, m.2) = F32 (m.1, m.2) from (val_eq m).symm, ones_eq, Bounds_eq]

end Go.Proofs.YthpgabaeefifbaaGreat

namespace Go.Proofs.YthpgabaeefifbaaGreat
open Go.Proofs Go.Aw Go.RowKit
set_option maxRecDepth 100000
set_option linter.unusedVariables false
set_option linter.unusedSimpArgs false

def F10 : Bool :=
  (bif (((F11 (F30.1, F30.2) (0, 0, 0)).2 : Int) == 0) then
   (bif (((F11 (F30.1, F30.2) (0, 0, 0)).1 : Int) == 1048576) then
    (bif (((F31 (F30.1, F30.2) 1).2 : Int) == 0) then
     (bif (((F31 (F30.1, F30.2) 1).1 : Int) == 1280) then
      (bif (((F26 (F30.1, F30.2) 0).2 : Int) == 0) then
       (bif (decide (((F26 (F30.1, F30.2) 0).1.1 : Int) > 0)) then
        (decide (((F26 (F30.1, F30.2) 0).1.2 : Int) ≤ 1048576))
       else
        false)
      else
       false)
     else
      false)
    else
     false)
   else
    false)
  else
   false)

theorem C10 : Con Tryz.prog 10 [] [] (.v (.bool F10)) [] := by
  refine con_s Tryz.func10 (by kernel_rfl) fun cx hcx => ?_
  have ho1 : F30.1.length = 6 := by kernel_rfl
  have ho2 : F30.2.length = 8 := by kernel_rfl
  let t0 : List (St Tryz.prog) := [.c [] (C30), .c [0, 1] (C11 (F30.1, F30.2) (0, 0, 0) (by (try simp only [List.length_append, List.length_cons, List.length_nil, Int.toNat_zero]); omega) (by (try simp only [List.length_append, List.length_cons, List.length_nil, Int.toNat_zero]); omega)), .c [] (C30), .c [2, 3] (C31 (F30.1, F30.2) 1 (by (try simp only [List.length_append, List.length_cons, List.length_nil, Int.toNat_zero]); omega) (by (try simp only [List.length_append, List.length_cons, List.length_nil, Int.toNat_zero]); omega)), .c [] (C30), .c [4, 5] (C26 (F30.1, F30.2) 0 (by (try simp only [List.length_append, List.length_cons, List.length_nil, Int.toNat_zero]); omega) (by (try simp only [List.length_append, List.length_cons, List.length_nil, Int.toNat_zero]); omega))]
  cases h0 : (((F11 (F30.1, F30.2) (0, 0, 0)).2 : Int) == 0) with
  | true =>
   have q0 := eq_of_beq h0
   let t1 : List (St Tryz.prog) := (t0 ++ [.d h0])
   cases h1 : (((F11 (F30.1, F30.2) (0, 0, 0)).1 : Int) == 1048576) with
   | true =>
    have q1 := eq_of_beq h1
    let t2 : List (St Tryz.prog) := (t1 ++ [.d h1])
    cases h2 : (((F31 (F30.1, F30.2) 1).2 : Int) == 0) with
    | true =>
     have q2 := eq_of_beq h2
     let t3 : List (St Tryz.prog) := (t2 ++ [.d h2])
     cases h3 : (((F31 (F30.1, F30.2) 1).1 : Int) == 1280) with
     | true =>
      have q3 := eq_of_beq h3
      let t4 : List (St Tryz.prog) := (t3 ++ [.d h3])
      cases h4 : (((F26 (F30.1, F30.2) 0).2 : Int) == 0) with
      | true =>
       have q4 := eq_of_beq h4
       let t5 : List (St Tryz.prog) := (t4 ++ [.d h4])
       cases h5 : (decide (((F26 (F30.1, F30.2) 0).1.1 : Int) > 0)) with
       | true =>
        have q5 := of_decide_eq_true h5
        have e := Eq.refl F10; conv at e => rhs; simp only [F10, h0, h1, h2, h3, h4, h5, cond_true, cond_false]
        rw [e]
        exact rt (t5 ++ [.d h5]) [] [] hcx (by kernel_rfl)
       | false =>
        have q5 := of_decide_eq_false h5
        have e := Eq.refl F10; conv at e => rhs; simp only [F10, h0, h1, h2, h3, h4, h5, cond_true, cond_false]
        rw [e]
        exact rt (t5 ++ [.d h5]) [] [] hcx (by kernel_rfl)
      | false =>
       have q4 := ne_of_beq_false h4
       have e := Eq.refl F10; conv at e => rhs; simp only [F10, h0, h1, h2, h3, h4, cond_true, cond_false]
       rw [e]
       exact rt (t4 ++ [.d h4]) [] [] hcx (by kernel_rfl)
     | false =>
      have q3 := ne_of_beq_false h3
      have e := Eq.refl F10; conv at e => rhs; simp only [F10, h0, h1, h2, h3, cond_true, cond_false]
      rw [e]
      exact rt (t3 ++ [.d h3]) [] [] hcx (by kernel_rfl)
    | false =>
     have q2 := ne_of_beq_false h2
     have e := Eq.refl F10; conv at e => rhs; simp only [F10, h0, h1, h2, cond_true, cond_false]
     rw [e]
     exact rt (t2 ++ [.d h2]) [] [] hcx (by kernel_rfl)
   | false =>
    have q1 := ne_of_beq_false h1
    have e := Eq.refl F10; conv at e => rhs; simp only [F10, h0, h1, cond_true, cond_false]
    rw [e]
    exact rt (t1 ++ [.d h1]) [] [] hcx (by kernel_rfl)
  | false =>
   have q0 := ne_of_beq_false h0
   have e := Eq.refl F10; conv at e => rhs; simp only [F10, h0, cond_true, cond_false]
   rw [e]
   exact rt (t0 ++ [.d h0]) [] [] hcx (by kernel_rfl)

end Go.Proofs.YthpgabaeefifbaaGreat

namespace Go.Proofs.YthpgabaeefifbaaGreat
open Go.Proofs Go.Aw Go.RowKit
set_option maxRecDepth 100000
set_option linter.unusedVariables false
set_option linter.unusedSimpArgs false

theorem sane_h : F10 = true := by kernel_rfl

end Go.Proofs.YthpgabaeefifbaaGreat

namespace Go.Proofs.YthpgabaeefifbaaGreat
open Go.Proofs Go.Aw Go.RowKit
set_option maxRecDepth 100000
set_option linter.unusedVariables false
set_option linter.unusedSimpArgs false

def F7_L (a0 : (List (Int × Int × Int)) × List (Int × Int × Int)) (a1 : List (Int)) (a2 : Int) : Bool :=
  (bif (F9 (a0.1, a0.2) a2) then
   F10
  else
   (bif (decide ((((a1.length : Nat) : Int) : Int) > 300)) then
    F10
   else
    (bif ((((F24_L (a0.1, a0.2) a1 a2).1.1 : Int) == (F25_L (a0.1, a0.2) a1 a2).1.1) && ((((F24_L (a0.1, a0.2) a1 a2).1.2 : Int) == (F25_L (a0.1, a0.2) a1 a2).1.2) && true)) then
     (bif (((F24_L (a0.1, a0.2) a1 a2).2 : Int) == (F25_L (a0.1, a0.2) a1 a2).2) then
      (bif ((((F26 (a0.1, a0.2) a2).1.1 : Int) == (F27 (a0.1, a0.2) a2).1.1) && ((((F26 (a0.1, a0.2) a2).1.2 : Int) == (F27 (a0.1, a0.2) a2).1.2) && true)) then
       (bif (((F26 (a0.1, a0.2) a2).2 : Int) == (F27 (a0.1, a0.2) a2).2) then
        F10
       else
        false)
      else
       false)
     else
      false)
    else
     false)))

theorem C7_L (a0 : (List (Int × Int × Int)) × List (Int × Int × Int)) (a1 : List (Int)) (a2 : Int) (l0_1 : a0.1.length ≤ 9223372036854775807) (l0_2 : a0.2.length ≤ 9223372036854775807) (l1 : a1.length ≤ 9223372036854775807) : Con Tryz.prog 7 [(.a [(.s 0 0 a0.1.length 3), (.s 1 0 a0.2.length 3)]), (.s 2 0 a1.length 1), (iv a2)] [(.live false true (flat c27 a0.1)), (.live false true (flat c85 a0.2)), (.live false true (flat c3 a1))] (.v (.bool (F7_L a0 a1 a2))) [] := by
  refine con_s Tryz.func7 (by kernel_rfl) fun cx hcx => ?_
  let t0 : List (St Tryz.prog) := [.c [0, 1] (C9 (a0.1, a0.2) a2 (by (try simp only [List.length_append, List.length_cons, List.length_nil, Int.toNat_zero]); omega) (by (try simp only [List.length_append, List.length_cons, List.length_nil, Int.toNat_zero]); omega))]
  cases h0 : (F9 (a0.1, a0.2) a2) with
  | true =>
   have e := Eq.refl (F7_L a0 a1 a2); conv at e => rhs; simp only [F7_L, h0, cond_true, cond_false]
   rw [e]
   exact rt (t0 ++ [.d h0, .c [] (C10)]) [] [] hcx (by kernel_rfl)
  | false =>
   let t1 : List (St Tryz.prog) := (t0 ++ [.d h0])
   cases h1 : (decide ((((a1.length : Nat) : Int) : Int) > 300)) with
   | true =>
    have q1 := of_decide_eq_true h1
    have e := Eq.refl (F7_L a0 a1 a2); conv at e => rhs; simp only [F7_L, h0, h1, cond_true, cond_false]
    rw [e]
    exact rt (t1 ++ [.d h1, .c [] (C10)]) [] [] hcx (by kernel_rfl)
   | false =>
    have q1 := of_decide_eq_false h1
    let t2 : List (St Tryz.prog) := (t1 ++ [.d h1, .c [0, 1, 2] (C24_L (a0.1, a0.2) a1 a2 (by (try simp only [List.length_append, List.length_cons, List.length_nil, Int.toNat_zero]); omega) (by (try simp only [List.length_append, List.length_cons, List.length_nil, Int.toNat_zero]); omega) (by (try simp only [List.length_append, List.length_cons, List.length_nil, Int.toNat_zero]); omega)), .c [0, 1, 2] (C25_L (a0.1, a0.2) a1 a2 (by (try simp only [List.length_append, List.length_cons, List.length_nil, Int.toNat_zero]); omega) (by (try simp only [List.length_append, List.length_cons, List.length_nil, Int.toNat_zero]); omega) (by (try simp only [List.length_append, List.length_cons, List.length_nil, Int.toNat_zero]); omega)), .c [0, 1] (C26 (a0.1, a0.2) a2 (by (try simp only [List.length_append, List.length_cons, List.length_nil, Int.toNat_zero]); omega) (by (try simp only [List.length_append, List.length_cons, List.length_nil, Int.toNat_zero]); omega)), .c [0, 1] (C27 (a0.1, a0.2) a2 (by (try simp only [List.length_append, List.length_cons, List.length_nil, Int.toNat_zero]); omega) (by (try simp only [List.length_append, List.length_cons, List.length_nil, Int.toNat_zero]); omega))])
    cases h2 : ((((F24_L (a0.1, a0.2) a1 a2).1.1 : Int) == (F25_L (a0.1, a0.2) a1 a2).1.1) && ((((F24_L (a0.1, a0.2) a1 a2).1.2 : Int) == (F25_L (a0.1, a0.2) a1 a2).1.2) && true)) with
    | true =>
     let t3 : List (St Tryz.prog) := (t2 ++ [.d h2])
     cases h3 : (((F24_L (a0.1, a0.2) a1 a2).2 : Int) == (F25_L (a0.1, a0.2) a1 a2).2) with
     | true =>
      have q3 := eq_of_beq h3
      let t4 : List (St Tryz.prog) := (t3 ++ [.d h3])
      cases h4 : ((((F26 (a0.1, a0.2) a2).1.1 : Int) == (F27 (a0.1, a0.2) a2).1.1) && ((((F26 (a0.1, a0.2) a2).1.2 : Int) == (F27 (a0.1, a0.2) a2).1.2) && true)) with
      | true =>
       let t5 : List (St Tryz.prog) := (t4 ++ [.d h4])
       cases h5 : (((F26 (a0.1, a0.2) a2).2 : Int) == (F27 (a0.1, a0.2) a2).2) with
       | true =>
        have q5 := eq_of_beq h5
        have e := Eq.refl (F7_L a0 a1 a2); conv at e => rhs; simp only [F7_L, h0, h1, h2, h3, h4, h5, cond_true, cond_false]
        rw [e]
        exact rt (t5 ++ [.d h5, .c [] (C10)]) [] [] hcx (by kernel_rfl)
       | false =>
        have q5 := ne_of_beq_false h5
        have e := Eq.refl (F7_L a0 a1 a2); conv at e => rhs; simp only [F7_L, h0, h1, h2, h3, h4, h5, cond_true, cond_false]
        rw [e]
        exact rt (t5 ++ [.d h5]) [] [] hcx (by kernel_rfl)
      | false =>
       have e := Eq.refl (F7_L a0 a1 a2); conv at e => rhs; simp only [F7_L, h0, h1, h2, h3, h4, cond_true, cond_false]
       rw [e]
       exact rt (t4 ++ [.d h4]) [] [] hcx (by kernel_rfl)
     | false =>
      have q3 := ne_of_beq_false h3
      have e := Eq.refl (F7_L a0 a1 a2); conv at e => rhs; simp only [F7_L, h0, h1, h2, h3, cond_true, cond_false]
      rw [e]
      exact rt (t3 ++ [.d h3]) [] [] hcx (by kernel_rfl)
    | false =>
     have e := Eq.refl (F7_L a0 a1 a2); conv at e => rhs; simp only [F7_L, h0, h1, h2, cond_true, cond_false]
     rw [e]
     exact rt (t2 ++ [.d h2]) [] [] hcx (by kernel_rfl)

end Go.Proofs.YthpgabaeefifbaaGreat
