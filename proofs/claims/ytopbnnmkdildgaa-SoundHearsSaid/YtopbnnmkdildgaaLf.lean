/-
  A part of the proofs of the Field laws: what functions of the program compute, and that it is what the statements ask. No premise.
-/
import Derived.Test.YtopbnnmkdildgaaMc
namespace Go.Proofs.Ytopbnnmkdildgaa
open Go.Proofs Go.Aw Go.RowKit
set_option maxRecDepth 100000
set_option linter.unusedVariables false
set_option linter.unusedSimpArgs false

/-! ### What is asked -/
open Classical in
theorem seen_f (x : P3) : F42 x = decide (bd 256 x) := by
  unfold F42
  rw [within_eq, within_eq, within_eq]
  exact and3 (by unfold bd; omega)
open Classical in
open Classical in
noncomputable def ck (p : PN) (x : P3) (d : Int) : Int := if vp p = 0 then (if bd 256 x ∧ (0 ≤ d ∧ d ≤ 3) then 0 else 1) else vp p
open Classical in
theorem ck_aux (v : Int) (a b : Prop) [Decidable a] [Decidable b] : (bif (v != 0) then v else (bif (!(decide a)) then 1 else (bif (!(decide b)) then (1 : Int) else 0))) = if v = 0 then (if a ∧ b then 0 else 1) else v := by
  by_cases hv : v = 0
  · subst hv
    by_cases ha : a <;> by_cases hb : b <;> simp [ha, hb]
  · rw [bne_iff_ne.2 hv, cond_true, if_neg hv]
open Classical in
theorem chk_eq (p : PN) (x : P3) (d : Int) : F79 p x d = ck p x d := by
  unfold F79 ck
  rw [vp_s, seen_f, within_eq]
  exact ck_aux _ _ _
open Classical in
theorem ck_ok {p : PN} {x : P3} {d : Int} (h : ck p x d = 0) : vp p = 0 ∧ bd 256 x ∧ 0 ≤ d ∧ d ≤ 3 := by
  unfold ck at h
  split at h
  · rename_i h0
    split at h
    · rename_i h1; exact ⟨h0, h1⟩
    · cases h
  · rename_i h0; exact absurd h h0
theorem chk_ok {p : PN} {x : P3} {d : Int} (h : ((F79 p x d : Int) != 0) = false) : vp p = 0 ∧ bd 256 x ∧ 0 ≤ d ∧ d ≤ 3 :=
  ck_ok (by rw [← chk_eq]; simpa using h)
theorem chk_le {p : PN} {x : P3} {d : Int} (h : ((F79 p x d : Int) != 0) = false) : 0 ≤ d ∧ d ≤ 3 := (chk_ok h).2.2
theorem chk_vp {p : PN} {x : P3} {d : Int} (h : ((F79 p x d : Int) != 0) = false) : F66 p = 0 := by
  rw [vp_s]; exact (chk_ok h).1
open Classical in
noncomputable def pk (p q : PN) (d : Int) : Int := if vp p = 0 then (if vp q = 0 then (if 0 ≤ d ∧ d ≤ 2 then 0 else 1) else vp q) else vp p
theorem pk_aux (v w : Int) (b : Prop) [Decidable b] : (bif (v != 0) then v else (bif (w != 0) then w else (bif (!(decide b)) then (1 : Int) else 0))) = if v = 0 then (if w = 0 then (if b then 0 else 1) else w) else v := by
  by_cases hv : v = 0
  · subst hv
    by_cases hw : w = 0
    · subst hw; by_cases hb : b <;> simp [hb]
    · rw [bne_iff_ne.2 hw, cond_true, if_neg hw]; simp
  · rw [bne_iff_ne.2 hv, cond_true, if_neg hv]
theorem pk_ok {p q : PN} {d : Int} (h : pk p q d = 0) : vp p = 0 ∧ vp q = 0 ∧ 0 ≤ d ∧ d ≤ 2 := by
  unfold pk at h
  split at h
  · rename_i h0
    split at h
    · rename_i h1
      split at h
      · rename_i h2; exact ⟨h0, h1, h2⟩
      · cases h
    · rename_i h1; exact absurd h h1
  · rename_i h0; exact absurd h h0
/-- facet/field.Parts -/
def F88 (a0 : (Int × Int × Int) × (Int × Int × Int) × Int × Int × Int) (a1 : Int) : (List ((Int × Int × Int) × (Int × Int × Int) × Int × Int × Int)) × Int :=
  (bif (((F79 a0 (0, 0, 0) a1) : Int) != 0) then
   (([] : List ((Int × Int × Int) × (Int × Int × Int) × Int × Int × Int)), (F79 a0 (0, 0, 0) a1))
  else
   ((F114_c141 a0 a1), 0))

theorem C88 (a0 : (Int × Int × Int) × (Int × Int × Int) × Int × Int × Int) (a1 : Int) : Con Try.prog 88 [(.a (k9 a0)), (iv a1)] [] (.t [(.s 0 0 (F88 a0 a1).1.length 9), (iv (F88 a0 a1).2)]) [(.live true true (flat c26 (F88 a0 a1).1))] := by
  cases h0 : (((F79 a0 (0, 0, 0) a1) : Int) != 0) with
  | true =>
    have q0 := bne_iff_ne.1 h0
    have e : (F88 a0 a1) = (([] : List ((Int × Int × Int) × (Int × Int × Int) × Int × Int × Int)), (F79 a0 (0, 0, 0) a1)) := by simp only [F88, h0, cond_true, cond_false]
    rw [e]
    refine con_of (n := 9) Try.func88 rfl (ent Try.func88 (by kernel_rfl) rfl) (by show 2 ≤ Try.f88.ntmps; decide) (by kernel_rfl) trivial (fun cx hcx => ?_)
    exact ret_of (T := T0) hT hm (f := 5000) (orc := [.call [] (iv (F79 a0 (0, 0, 0) a1)) [], .d true]) [.slot 4 9] [] [1] hcx
      (obs := [.call 79 [(.a (k9 a0)), (.a [(iv 0), (iv 0), (iv 0)]), (iv a1)] [] (iv (F79 a0 (0, 0, 0) a1)) [], .eq (((F79 a0 (0, 0, 0) a1) : Int) != 0) true]) (by kernel_rfl) ⟨(C79 a0 (0, 0, 0) a1), h0, trivial⟩
  | false =>
    have q0 := bne_eq_false_iff_eq.1 h0
    have e : (F88 a0 a1) = ((F114_c141 a0 a1), 0) := by simp only [F88, h0, cond_true, cond_false]
    rw [e]
    refine con_of (n := 9) Try.func88 rfl (ent Try.func88 (by kernel_rfl) rfl) (by show 2 ≤ Try.f88.ntmps; decide) (by kernel_rfl) trivial (fun cx hcx => ?_)
    exact ret_of (T := T0) hT hm (f := 5000) (orc := [.call [] (iv (F79 a0 (0, 0, 0) a1)) [], .d false, .call [] (.f 141 [(.p 0 0), (.p 1 0)]) [(.live true false (k9 a0)), (.live true false [(iv a1)])], .call [1, 2] (.s 2 0 (F114_c141 a0 a1).length 9) [(.live true true (flat c26 (F114_c141 a0 a1)))]]) [] [] [3] hcx
      (obs := [.call 79 [(.a (k9 a0)), (.a [(iv 0), (iv 0), (iv 0)]), (iv a1)] [] (iv (F79 a0 (0, 0, 0) a1)) [], .eq (((F79 a0 (0, 0, 0) a1) : Int) != 0) false, .call 104 [(.a (k9 a0)), (iv a1)] [] (.f 141 [(.p 0 0), (.p 1 0)]) [(.live true false (k9 a0)), (.live true false [(iv a1)])], .call 114 [(.f 141 [(.p 0 0), (.p 1 0)])] [(.live false false (k9 a0)), (.live false false [(iv a1)])] (.s 2 0 (F114_c141 a0 a1).length 9) [(.live true true (flat c26 (F114_c141 a0 a1)))]]) (by kernel_rfl) ⟨(C79 a0 (0, 0, 0) a1), h0, (C104 a0 a1), (C114_c141 a0 a1  (chk_le h0)), trivial⟩

/-- facet/field.Mean -/
def F40 (a0 : (Int × Int × Int) × (Int × Int × Int) × Int × Int × Int) (a1 : Int × Int × Int) (a2 : Int) : (Int × Int) × Int :=
  (bif (((F79 a0 a1 a2) : Int) != 0) then
   ((0, 0), (F79 a0 a1 a2))
  else
   ((F80_f81 a0 a1 a2).1, (F80_f81 a0 a1 a2).2))

theorem C40 (a0 : (Int × Int × Int) × (Int × Int × Int) × Int × Int × Int) (a1 : Int × Int × Int) (a2 : Int) : Con Try.prog 40 [(.a (k9 a0)), (.a (k3 a1)), (iv a2)] [] (.t [(.a (k2 (F40 a0 a1 a2).1)), (iv (F40 a0 a1 a2).2)]) [] := by
  cases h0 : (((F79 a0 a1 a2) : Int) != 0) with
  | true =>
    have q0 := bne_iff_ne.1 h0
    have e : (F40 a0 a1 a2) = ((0, 0), (F79 a0 a1 a2)) := by simp only [F40, h0, cond_true, cond_false]
    rw [e]
    refine con_of (n := 9) Try.func40 rfl (ent Try.func40 (by kernel_rfl) rfl) (by show 3 ≤ Try.f40.ntmps; decide) (by kernel_rfl) trivial (fun cx hcx => ?_)
    exact ret_of (T := T0) hT hm (f := 5000) (orc := [.call [] (iv (F79 a0 a1 a2)) [], .d true]) [] [] [] hcx
      (obs := [.call 79 [(.a (k9 a0)), (.a (k3 a1)), (iv a2)] [] (iv (F79 a0 a1 a2)) [], .eq (((F79 a0 a1 a2) : Int) != 0) true]) (by kernel_rfl) ⟨(C79 a0 a1 a2), h0, trivial⟩
  | false =>
    have q0 := bne_eq_false_iff_eq.1 h0
    have e : (F40 a0 a1 a2) = ((F80_f81 a0 a1 a2).1, (F80_f81 a0 a1 a2).2) := by simp only [F40, h0, cond_true, cond_false]
    rw [e]
    refine con_of (n := 9) Try.func40 rfl (ent Try.func40 (by kernel_rfl) rfl) (by show 3 ≤ Try.f40.ntmps; decide) (by kernel_rfl) trivial (fun cx hcx => ?_)
    exact ret_of (T := T0) hT hm (f := 5000) (orc := [.call [] (iv (F79 a0 a1 a2)) [], .d false, .call [] (.t [(.a (k2 (F80_f81 a0 a1 a2).1)), (iv (F80_f81 a0 a1 a2).2)]) []]) [] [] [] hcx
      (obs := [.call 79 [(.a (k9 a0)), (.a (k3 a1)), (iv a2)] [] (iv (F79 a0 a1 a2)) [], .eq (((F79 a0 a1 a2) : Int) != 0) false, .call 80 [(.a (k9 a0)), (.a (k3 a1)), (iv a2), (.v (.func (.func 81) #[] #[]))] [] (.t [(.a (k2 (F80_f81 a0 a1 a2).1)), (iv (F80_f81 a0 a1 a2).2)]) []]) (by kernel_rfl) ⟨(C79 a0 a1 a2), h0, (C80_f81 a0 a1 a2  (chk_le h0)), trivial⟩

/-- facet/facetlaw03.known -/
def F14 : Bool :=
  (bif (((F40 ((0, 0, 0), (2, 0, 0), (0, 2, 0)) (1, 1, 8) 0).2 : Int) == 0) then
   ((((F40 ((0, 0, 0), (2, 0, 0), (0, 2, 0)) (1, 1, 8) 0).1.1 : Int) == 129070) && ((((F40 ((0, 0, 0), (2, 0, 0), (0, 2, 0)) (1, 1, 8) 0).1.2 : Int) == 131072) && true))
  else
   false)

noncomputable def oC14_0 : Ob := .call 40 [(.a [(iv 0), (iv 0), (iv 0), (iv 2), (iv 0), (iv 0), (iv 0), (iv 2), (iv 0)]), (.a [(iv 1), (iv 1), (iv 8)]), (iv 0)] [] (.t [(.a (k2 (F40 ((0, 0, 0), (2, 0, 0), (0, 2, 0)) (1, 1, 8) 0).1)), (iv (F40 ((0, 0, 0), (2, 0, 0), (0, 2, 0)) (1, 1, 8) 0).2)]) []
theorem C14 : Con Try.prog 14 [] [] (.v (.bool F14)) [] := by
  cases h0 : (((F40 ((0, 0, 0), (2, 0, 0), (0, 2, 0)) (1, 1, 8) 0).2 : Int) == 0) with
  | true =>
    have q0 := eq_of_beq h0
    have e : F14 = ((((F40 ((0, 0, 0), (2, 0, 0), (0, 2, 0)) (1, 1, 8) 0).1.1 : Int) == 129070) && ((((F40 ((0, 0, 0), (2, 0, 0), (0, 2, 0)) (1, 1, 8) 0).1.2 : Int) == 131072) && true)) := by simp only [F14, h0, cond_true, cond_false]
    rw [e]
    refine con_of (n := 9) Try.func14 rfl (ent Try.func14 (by kernel_rfl) rfl) (by show 0 ≤ Try.f14.ntmps; decide) (by kernel_rfl) trivial (fun cx hcx => ?_)
    exact ret_of (T := T0) hT hm (f := 5000) (orc := [.call [] (.t [(.a (k2 (F40 ((0, 0, 0), (2, 0, 0), (0, 2, 0)) (1, 1, 8) 0).1)), (iv (F40 ((0, 0, 0), (2, 0, 0), (0, 2, 0)) (1, 1, 8) 0).2)]) [], .d true]) [] [] [] hcx
      (obs := [oC14_0, .eq (((F40 ((0, 0, 0), (2, 0, 0), (0, 2, 0)) (1, 1, 8) 0).2 : Int) == 0) true]) (by kernel_rfl) ⟨(C40 ((0, 0, 0), (2, 0, 0), (0, 2, 0)) (1, 1, 8) 0), h0, trivial⟩
  | false =>
    have q0 := ne_of_beq_false h0
    have e : F14 = false := by simp only [F14, h0, cond_true, cond_false]
    rw [e]
    refine con_of (n := 9) Try.func14 rfl (ent Try.func14 (by kernel_rfl) rfl) (by show 0 ≤ Try.f14.ntmps; decide) (by kernel_rfl) trivial (fun cx hcx => ?_)
    exact ret_of (T := T0) hT hm (f := 5000) (orc := [.call [] (.t [(.a (k2 (F40 ((0, 0, 0), (2, 0, 0), (0, 2, 0)) (1, 1, 8) 0).1)), (iv (F40 ((0, 0, 0), (2, 0, 0), (0, 2, 0)) (1, 1, 8) 0).2)]) [], .d false]) [] [] [] hcx
      (obs := [oC14_0, .eq (((F40 ((0, 0, 0), (2, 0, 0), (0, 2, 0)) (1, 1, 8) 0).2 : Int) == 0) false]) (by kernel_rfl) ⟨(C40 ((0, 0, 0), (2, 0, 0), (0, 2, 0)) (1, 1, 8) 0), h0, trivial⟩

end Go.Proofs.Ytopbnnmkdildgaa
