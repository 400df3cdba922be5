/-
  FieldRims: for every panel, point and depth the law returns true, and its argument reads behind the call as it read before. No condition.
-/
import Derived.Test.YtjlekmjnkpcnoaaMs
import Derived.ProofKit
namespace Go.Proofs.Ytjlekmjnkpcnoaa
open Go.Proofs Go.Aw Go.RowKit
set_option maxRecDepth 100000
set_option linter.unusedVariables false
set_option linter.unusedSimpArgs false

/-- facet/facetlaw03.FieldRims -/
def F6 (a0 : ((Int × Int × Int) × (Int × Int × Int) × Int × Int × Int) × (Int × Int × Int) × Int) : Bool :=
  (bif (((F23 a0.1 a0.2.2).1 : Int) != (F24 a0.1 a0.2.2).1) then
   false
  else
   (bif (((F23 a0.1 a0.2.2).2 : Int) != (F24 a0.1 a0.2.2).2) then
    false
   else
    (bif (((F23 a0.1 0).2 : Int) != 0) then
     F16
    else
     (bif (((F19 a0.1 a0.2.1 a0.2.2).2 : Int) != 0) then
      F16
     else
      (bif (decide (((F19 a0.1 a0.2.1 a0.2.2).1.1 : Int) ≤ (F23 a0.1 0).1)) then
       F16
      else
       false)))))

noncomputable def oC6_0 (a0 : ((Int × Int × Int) × (Int × Int × Int) × Int × Int × Int) × (Int × Int × Int) × Int) : Ob := .call 23 [(.a (k9 a0.1)), (iv a0.2.2)] [] (.t (k2 (F23 a0.1 a0.2.2))) []
noncomputable def oC6_1 (a0 : ((Int × Int × Int) × (Int × Int × Int) × Int × Int × Int) × (Int × Int × Int) × Int) : Ob := .call 24 [(.a (k9 a0.1)), (iv a0.2.2)] [] (.t (k2 (F24 a0.1 a0.2.2))) []
noncomputable def oC6_2 (a0 : ((Int × Int × Int) × (Int × Int × Int) × Int × Int × Int) × (Int × Int × Int) × Int) : Ob := .eq (((F23 a0.1 a0.2.2).1 : Int) != (F24 a0.1 a0.2.2).1) false
noncomputable def oC6_3 (a0 : ((Int × Int × Int) × (Int × Int × Int) × Int × Int × Int) × (Int × Int × Int) × Int) : Or := .call [] (.t [(.a (k2 (F19 a0.1 a0.2.1 a0.2.2).1)), (iv (F19 a0.1 a0.2.1 a0.2.2).2)]) []
noncomputable def oC6_4 (a0 : ((Int × Int × Int) × (Int × Int × Int) × Int × Int × Int) × (Int × Int × Int) × Int) : Ob := .eq (((F23 a0.1 a0.2.2).2 : Int) != (F24 a0.1 a0.2.2).2) false
noncomputable def oC6_5 (a0 : ((Int × Int × Int) × (Int × Int × Int) × Int × Int × Int) × (Int × Int × Int) × Int) : Ob := .call 23 [(.a (k9 a0.1)), (iv 0)] [] (.t (k2 (F23 a0.1 0))) []
noncomputable def oC6_6 (a0 : ((Int × Int × Int) × (Int × Int × Int) × Int × Int × Int) × (Int × Int × Int) × Int) : Ob := .call 19 [(.a (k9 a0.1)), (.a (k3 a0.2.1)), (iv a0.2.2)] [] (.t [(.a (k2 (F19 a0.1 a0.2.1 a0.2.2).1)), (iv (F19 a0.1 a0.2.1 a0.2.2).2)]) []
theorem C6 (a0 : ((Int × Int × Int) × (Int × Int × Int) × Int × Int × Int) × (Int × Int × Int) × Int) : Con Try.prog 6 [(.a [(iv a0.1.1.1), (iv a0.1.1.2.1), (iv a0.1.1.2.2), (iv a0.1.2.1.1), (iv a0.1.2.1.2.1), (iv a0.1.2.1.2.2), (iv a0.1.2.2.1), (iv a0.1.2.2.2.1), (iv a0.1.2.2.2.2), (iv a0.2.1.1), (iv a0.2.1.2.1), (iv a0.2.1.2.2), (iv a0.2.2)])] [] (.v (.bool (F6 a0))) [] := by
  cases h0 : (((F23 a0.1 a0.2.2).1 : Int) != (F24 a0.1 a0.2.2).1) with
  | true =>
    have q0 := bne_iff_ne.1 h0
    have e : (F6 a0) = false := by simp only [F6, h0, cond_true, cond_false]
    rw [e]
    refine con_of (n := 9) Try.func6 rfl (ent Try.func6 (by kernel_rfl) rfl) (by show 1 ≤ Try.f6.ntmps; decide) (by kernel_rfl) trivial (fun cx hcx => ?_)
    exact ret_of (T := T0) hT hm (f := 5000) (orc := [.call [] (.t (k2 (F23 a0.1 a0.2.2))) [], .call [] (.t (k2 (F24 a0.1 a0.2.2))) [], .d true]) [] [] [] hcx
      (obs := [(oC6_0 a0), (oC6_1 a0), .eq (((F23 a0.1 a0.2.2).1 : Int) != (F24 a0.1 a0.2.2).1) true]) (by kernel_rfl) ⟨(C23 a0.1 a0.2.2), (C24 a0.1 a0.2.2), h0, trivial⟩
  | false =>
    cases h1 : (((F23 a0.1 a0.2.2).2 : Int) != (F24 a0.1 a0.2.2).2) with
    | true =>
      have q0 := bne_eq_false_iff_eq.1 h0
      have q1 := bne_iff_ne.1 h1
      have e : (F6 a0) = false := by simp only [F6, h0, h1, cond_true, cond_false]
      rw [e]
      refine con_of (n := 9) Try.func6 rfl (ent Try.func6 (by kernel_rfl) rfl) (by show 1 ≤ Try.f6.ntmps; decide) (by kernel_rfl) trivial (fun cx hcx => ?_)
      exact ret_of (T := T0) hT hm (f := 5000) (orc := [.call [] (.t (k2 (F23 a0.1 a0.2.2))) [], .call [] (.t (k2 (F24 a0.1 a0.2.2))) [], .d false, .d true]) [] [] [] hcx
        (obs := [(oC6_0 a0), (oC6_1 a0), (oC6_2 a0), .eq (((F23 a0.1 a0.2.2).2 : Int) != (F24 a0.1 a0.2.2).2) true]) (by kernel_rfl) ⟨(C23 a0.1 a0.2.2), (C24 a0.1 a0.2.2), h0, h1, trivial⟩
    | false =>
      cases h2 : (((F23 a0.1 0).2 : Int) != 0) with
      | true =>
        have q0 := bne_eq_false_iff_eq.1 h0
        have q1 := bne_eq_false_iff_eq.1 h1
        have q2 := bne_iff_ne.1 h2
        have e : (F6 a0) = F16 := by simp only [F6, h0, h1, h2, cond_true, cond_false]
        rw [e]
        refine con_of (n := 9) Try.func6 rfl (ent Try.func6 (by kernel_rfl) rfl) (by show 1 ≤ Try.f6.ntmps; decide) (by kernel_rfl) trivial (fun cx hcx => ?_)
        exact ret_of (T := T0) hT hm (f := 5000) (orc := [.call [] (.t (k2 (F23 a0.1 a0.2.2))) [], .call [] (.t (k2 (F24 a0.1 a0.2.2))) [], .d false, .d false, .call [] (.t (k2 (F23 a0.1 0))) [], (oC6_3 a0), .d true, .call [] (.v (.bool F16)) []]) [] [] [] hcx
          (obs := [(oC6_0 a0), (oC6_1 a0), (oC6_2 a0), (oC6_4 a0), (oC6_5 a0), (oC6_6 a0), .eq (((F23 a0.1 0).2 : Int) != 0) true, .call 16 [] [] (.v (.bool F16)) []]) (by kernel_rfl) ⟨(C23 a0.1 a0.2.2), (C24 a0.1 a0.2.2), h0, h1, (C23 a0.1 0), (C19 a0.1 a0.2.1 a0.2.2), h2, (C16), trivial⟩
      | false =>
        cases h3 : (((F19 a0.1 a0.2.1 a0.2.2).2 : Int) != 0) with
        | true =>
          have q0 := bne_eq_false_iff_eq.1 h0
          have q1 := bne_eq_false_iff_eq.1 h1
          have q2 := bne_eq_false_iff_eq.1 h2
          have q3 := bne_iff_ne.1 h3
          have e : (F6 a0) = F16 := by simp only [F6, h0, h1, h2, h3, cond_true, cond_false]
          rw [e]
          refine con_of (n := 9) Try.func6 rfl (ent Try.func6 (by kernel_rfl) rfl) (by show 1 ≤ Try.f6.ntmps; decide) (by kernel_rfl) trivial (fun cx hcx => ?_)
          exact ret_of (T := T0) hT hm (f := 5000) (orc := [.call [] (.t (k2 (F23 a0.1 a0.2.2))) [], .call [] (.t (k2 (F24 a0.1 a0.2.2))) [], .d false, .d false, .call [] (.t (k2 (F23 a0.1 0))) [], (oC6_3 a0), .d false, .d true, .call [] (.v (.bool F16)) []]) [] [] [] hcx
            (obs := [(oC6_0 a0), (oC6_1 a0), (oC6_2 a0), (oC6_4 a0), (oC6_5 a0), (oC6_6 a0), .eq (((F23 a0.1 0).2 : Int) != 0) false, .eq (((F19 a0.1 a0.2.1 a0.2.2).2 : Int) != 0) true, .call 16 [] [] (.v (.bool F16)) []]) (by kernel_rfl) ⟨(C23 a0.1 a0.2.2), (C24 a0.1 a0.2.2), h0, h1, (C23 a0.1 0), (C19 a0.1 a0.2.1 a0.2.2), h2, h3, (C16), trivial⟩
        | false =>
          cases h4 : (decide (((F19 a0.1 a0.2.1 a0.2.2).1.1 : Int) ≤ (F23 a0.1 0).1)) with
          | true =>
            have q0 := bne_eq_false_iff_eq.1 h0
            have q1 := bne_eq_false_iff_eq.1 h1
            have q2 := bne_eq_false_iff_eq.1 h2
            have q3 := bne_eq_false_iff_eq.1 h3
            have q4 := of_decide_eq_true h4
            have e : (F6 a0) = F16 := by simp only [F6, h0, h1, h2, h3, h4, cond_true, cond_false]
            rw [e]
            refine con_of (n := 9) Try.func6 rfl (ent Try.func6 (by kernel_rfl) rfl) (by show 1 ≤ Try.f6.ntmps; decide) (by kernel_rfl) trivial (fun cx hcx => ?_)
            exact ret_of (T := T0) hT hm (f := 5000) (orc := [.call [] (.t (k2 (F23 a0.1 a0.2.2))) [], .call [] (.t (k2 (F24 a0.1 a0.2.2))) [], .d false, .d false, .call [] (.t (k2 (F23 a0.1 0))) [], (oC6_3 a0), .d false, .d false, .d true, .call [] (.v (.bool F16)) []]) [] [] [] hcx
              (obs := [(oC6_0 a0), (oC6_1 a0), (oC6_2 a0), (oC6_4 a0), (oC6_5 a0), (oC6_6 a0), .eq (((F23 a0.1 0).2 : Int) != 0) false, .eq (((F19 a0.1 a0.2.1 a0.2.2).2 : Int) != 0) false, .eq (decide (((F19 a0.1 a0.2.1 a0.2.2).1.1 : Int) ≤ (F23 a0.1 0).1)) true, .call 16 [] [] (.v (.bool F16)) []]) (by kernel_rfl) ⟨(C23 a0.1 a0.2.2), (C24 a0.1 a0.2.2), h0, h1, (C23 a0.1 0), (C19 a0.1 a0.2.1 a0.2.2), h2, h3, h4, (C16), trivial⟩
          | false =>
            have q0 := bne_eq_false_iff_eq.1 h0
            have q1 := bne_eq_false_iff_eq.1 h1
            have q2 := bne_eq_false_iff_eq.1 h2
            have q3 := bne_eq_false_iff_eq.1 h3
            have q4 := of_decide_eq_false h4
            have e : (F6 a0) = false := by simp only [F6, h0, h1, h2, h3, h4, cond_true, cond_false]
            rw [e]
            refine con_of (n := 9) Try.func6 rfl (ent Try.func6 (by kernel_rfl) rfl) (by show 1 ≤ Try.f6.ntmps; decide) (by kernel_rfl) trivial (fun cx hcx => ?_)
            exact ret_of (T := T0) hT hm (f := 5000) (orc := [.call [] (.t (k2 (F23 a0.1 a0.2.2))) [], .call [] (.t (k2 (F24 a0.1 a0.2.2))) [], .d false, .d false, .call [] (.t (k2 (F23 a0.1 0))) [], (oC6_3 a0), .d false, .d false, .d false]) [] [] [] hcx
              (obs := [(oC6_0 a0), (oC6_1 a0), (oC6_2 a0), (oC6_4 a0), (oC6_5 a0), (oC6_6 a0), .eq (((F23 a0.1 0).2 : Int) != 0) false, .eq (((F19 a0.1 a0.2.1 a0.2.2).2 : Int) != 0) false, .eq (decide (((F19 a0.1 a0.2.1 a0.2.2).1.1 : Int) ≤ (F23 a0.1 0).1)) false]) (by kernel_rfl) ⟨(C23 a0.1 a0.2.2), (C24 a0.1 a0.2.2), h0, h1, (C23 a0.1 0), (C19 a0.1 a0.2.1 a0.2.2), h2, h3, h4, trivial⟩

/-! ### FieldRims -/
theorem cnU_le (U : Int) : ∀ l : List Int, 0 ≤ cnU l U ∧ cnU l U ≤ (l.length : Nat)
  | [] => ⟨Int.le_refl _, Int.le_refl _⟩
  | u :: l => by
    have := cnU_le U l
    unfold cnU at *
    simp only [List.map_cons, List.sum_cons, List.length_cons]
    split <;> omega
theorem KL_len (c : Cd) : ∀ d : Nat, (KL d c).length = 4 ^ d := by
  intro d
  induction d generalizing c with
  | zero => rfl
  | succ d ih => simp only [KL, List.length_append, ih, Nat.pow_succ]; omega
theorem sumA_ok : sumA 1 * 1 ≤ 1000000 ∧ sumA 4 * 2 ≤ 4000000 ∧ sumA 16 * 4 ≤ 16000000 ∧ sumA 64 * 8 ≤ 64000000 := by decide +kernel
theorem low_sum {p : PN} {x : P3} {d : Int} (hp : vp p = 0) (hd : 0 ≤ d ∧ d ≤ 3) : ((cutL d.toNat p).map fun c => (of1 (sc d) (fa c x)).1).sum ≤ sc d * sc d * F54 p 0 := by
  obtain ⟨r, hr, r1, r2, hu, _⟩ := rim_spec hp (d := 0) (by omega)
  obtain ⟨hb, hn⟩ := vp_ok hp
  have hR := hu.1
  have hs := sc_in d
  have ho := of1_ok hs
  obtain ⟨u1, _⟩ := cq_facts (t := top 0) (b := 128 * r) (by omega)
  have hRr : 3217 * 1099511627776 ≤ F54 p 0 * F54 p 0 * (128 * r) := by
    have h1 := Int.mul_le_mul_of_nonneg_right hu.2.1 (show 0 ≤ 128 * r by omega)
    have h2 : top 0 = 3217 * 1099511627776 := by decide
    omega
  generalize F54 p 0 = R at *
  have hsum : ((cutL d.toNat p).map fun c => (of1 (sc d) (fa c x)).1).sum = (((KL d.toNat (0, 0, false)).map fun c => fa (tri p (2 ^ d.toNat) c) x).map fun u => (of1 (sc d) u).1).sum := by
    rw [List.map_map]
    exact sum_parts (g := fun c => (of1 (sc d) (fa c x)).1) (fun q => by rw [(fa_t q x).1]) (fun q => by rw [(fa_t q x).2.1]) (fun q => by rw [(fa_t q x).2.2]) hb (by omega)
  rw [hsum]
  have hlen : ((KL d.toNat (0, 0, false)).map fun c => fa (tri p (2 ^ d.toNat) c) x).length = 4 ^ d.toNat := by rw [List.length_map, KL_len]
  have h64 : 4 ^ d.toNat ≤ 64 := by rcases d4 hd with rfl | rfl | rfl | rfl <;> decide
  have key := sum_lo (s := sc d) (r := r) (R := R) (f := fun u => (of1 (sc d) u).1) (by omega) hR r1 hRr (fun u => ho.lo u) (fun u hu => by
    unfold of1
    rw [if_neg (by omega)]
    obtain ⟨k, hk, _, _, _, _, _, _, k5⟩ := inv_facts (NN_bd hs) hu
    unfold inv
    simp only
    rw [hk]
    rw [NN_sc] at k5; exact k5) (4 ^ d.toNat) _ hlen h64 (fun U hU => by
    obtain ⟨c, _, hc⟩ := List.mem_map.1 hU
    have hU0 : 0 ≤ U := by rw [← hc]; exact Int.le_trans (le_mx1 0 _) (Int.le_trans (le_mx1 _ _) (le_mx1 _ _))
    by_cases hbig : U ≤ 300000000
    · have h := count_bd (p := p) (w := 2 ^ d.toNat) (x := x) hb hr hn ⟨hU0, hbig⟩ (d := d.toNat) (by omega)
      have e : cnU ((KL d.toNat (0, 0, false)).map fun c => fa (tri p (2 ^ d.toNat) c) x) U = ((KL d.toNat (0, 0, false)).map (one (near p (2 ^ d.toNat) x U))).sum := by
        unfold cnU
        rw [List.map_map]
        congr 1
        refine List.map_congr_left (fun c _ => ?_)
        show (if fa (tri p (2 ^ d.toNat) c) x ≤ U then (1 : Int) else 0) = one (near p (2 ^ d.toNat) x U) c
        unfold one near
        by_cases h : fa (tri p (2 ^ d.toNat) c) x ≤ U
        · rw [if_pos h, decide_eq_true h]; rfl
        · rw [if_neg h, decide_eq_false h]; rfl
      rw [e]; exact h
    · have h := cnU_le U ((KL d.toNat (0, 0, false)).map fun c => fa (tri p (2 ^ d.toNat) c) x)
      rw [hlen] at h
      have h2 : (cnU ((KL d.toNat (0, 0, false)).map fun c => fa (tri p (2 ^ d.toNat) c) x) U + 1) / 2 ≤ 32 := by omega
      have := Int.mul_le_mul_of_nonneg_right h2 (show 0 ≤ r by omega)
      omega)
  generalize (((KL d.toNat (0, 0, false)).map fun c => fa (tri p (2 ^ d.toNat) c) x).map fun u => (of1 (sc d) u).1).sum = v at *
  obtain ⟨s0, s1, s2, s3⟩ := sumA_ok
  have fin : sumA (4 ^ d.toNat) * sc d ≤ 1000000 * (sc d * sc d) := by
    rcases d4 hd with rfl | rfl | rfl | rfl
    · exact s0
    · exact s1
    · exact s2
    · exact s3
  have h1 := Int.mul_le_mul_of_nonneg_right fin hR
  have e1 : sumA (4 ^ d.toNat) * sc d * R = sumA (4 ^ d.toNat) * (sc d * R) := Int.mul_assoc _ _ _
  have e2 : 1000000 * (sc d * sc d) * R = 1000000 * (sc d * sc d * R) := Int.mul_assoc _ _ _
  omega
theorem avg_lo1 {v w n : Int} (hn : 1 ≤ n) : (avg (v, w) n).1 * n ≤ v := Int.ediv_mul_le v (show n ≠ 0 by omega)
theorem mean_rim {p : PN} {x : P3} {d : Int} (hp : vp p = 0) (hd : 0 ≤ d ∧ d ≤ 3) (h : (meanS (of1 (sc d)) p x d).2 = 0) : (meanS (of1 (sc d)) p x d).1.1 ≤ F54 p 0 := by
  have hn := cnt_in d
  have hl := low_sum (x := tm (sc d) x) hp hd
  unfold meanS at *
  rw [acc_sum] at *
  split at h
  · cases h
  · rename_i hz
    rw [if_neg hz]
    show (avg _ _).1 ≤ _
    have ha := (avg_lo1 (v := ((0, 0) : Int × Int).1 + ((cutL d.toNat p).map fun c => (of1 (sc d) (fa c (tm (sc d) x))).1).sum) (w := ((0, 0) : Int × Int).2 + ((cutL d.toNat p).map fun c => (of1 (sc d) (ne c (tm (sc d) x))).2).sum) (n := sc d * sc d) (by omega))
    simp only [Int.zero_add] at ha ⊢
    rw [Int.mul_comm (sc d * sc d)] at hl
    exact Int.le_of_mul_le_mul_right (Int.le_trans ha hl) (by omega)
theorem law_rims (a : PN × P3 × Int) : F6 a = true := by
  unfold F6
  rw [Rim_eq a.1 a.2.2, known_t, bne_self_eq_false, cond_false, bne_self_eq_false, cond_false]
  by_cases h1 : (F23 a.1 0).2 = 0
  · rw [h1, bne_self_eq_false, cond_false, Mean_f]
    by_cases h2 : (meanV of1 a.1 a.2.1 a.2.2).2 = 0
    · rw [h2, bne_self_eq_false, cond_false]
      obtain ⟨hc, _⟩ := meanV_vs of1_all h2
      obtain ⟨g1, g2, g3⟩ := ck_ok hc
      have e : meanV of1 a.1 a.2.1 a.2.2 = meanS (of1 (sc a.2.2)) a.1 a.2.1 a.2.2 := by unfold meanV; rw [if_pos hc]
      rw [e] at h2 ⊢
      have er : F23 a.1 0 = (F54 a.1 0, 0) := by
        have h0 : bd 256 (0, 0, 0) := by unfold bd; simp only; omega
        unfold F23
        rw [chk_eq, show ck a.1 (0, 0, 0) 0 = 0 by unfold ck; rw [if_pos g1, if_pos ⟨h0, by omega⟩]]; rfl
      rw [er, decide_eq_true (mean_rim g1 g3 h2)]; rfl
    · rw [bne_iff_ne.2 h2, cond_true]
  · rw [bne_iff_ne.2 h1, cond_true]

open Go.ChangeShapes Go.WideShapes Go.ChangeAt
theorem fieldRims_len13 {l : List Int} (h : l.length = 13) : ∃ a0 a1 a2 a3 a4 a5 a6 a7 a8 a9 a10 a11 a12, l = [a0, a1, a2, a3, a4, a5, a6, a7, a8, a9, a10, a11, a12] := by
  match l, h with
  | [a0, a1, a2, a3, a4, a5, a6, a7, a8, a9, a10, a11, a12], _ => exact ⟨a0, a1, a2, a3, a4, a5, a6, a7, a8, a9, a10, a11, a12, rfl⟩
set_option maxRecDepth 100000 in
theorem fieldRims_lifted (os : Os) (started : os.Started) (H : Type) (enc : TypeId × Value → H) :
    ReturnsInHanded {} Try.checked os 6 .any (Rows.fieldRimsSpec.pre6 enc Try.prog Try.f6 Rows.fieldRimsRow.domain false) (Rows.fieldRimsSpec.post enc Try.prog Try.f6 false true false false) := by
  refine returnsInHanded_of_change (C := Try.checked) own started (by kernel_rfl) Try.func6
    (ChangeSpec.witness6 (enc := enc) (C := Try.checked) false ⟨#[], #[.agg #[.int .i64 0, .int .i64 0, .int .i64 0, .int .i64 0, .int .i64 0, .int .i64 0, .int .i64 0, .int .i64 0, .int .i64 0, .int .i64 0, .int .i64 0, .int .i64 0, .int .i64 0]], []⟩ 8 (by kernel_rfl) (by kernel_rfl) (by kernel_rfl) (by kernel_rfl)) ?_
  intro W base args ds gs before hval0 hW hcnd _
  have hval : ∀ (j : Nat) t v, Try.f6.params[j]? = some t → args[j]? = some v → Value.okWide Try.prog W .any base t v := hval0
  have hW' := hW
  obtain ⟨p, q, hA0, hV, rfl, hfz, hnd⟩ := hW
  have hA : DataW.TrodAll enc Try.prog W 0 (fun _ => true) true Try.f6.params.toList args.toList ds p := hA0
  rw [Try.params6] at hA hval
  obtain ⟨v0, vs0, d0, ds0, p0, q0, hargs, rfl, rfl, h0, r0⟩ := trodAll_cons hA
  obtain ⟨rfl, rfl, rfl⟩ := trodAll_nil r0
  obtain rfl : args = #[v0] := by cases args; simp_all
  obtain ⟨rfl, rfl⟩ := trodVars_none hV
  obtain ⟨rfl, ns0, rfl, l0⟩ := open_flat Try.underlying38 (by kernel_rfl) (hval 0 38 v0 rfl rfl) h0
  rw [show Try.prog.cellsOf 38 = 13 from by kernel_rfl] at l0
  obtain ⟨x0_0, x0_1, x0_2, x0_3, x0_4, x0_5, x0_6, x0_7, x0_8, x0_9, x0_10, x0_11, x0_12, rfl⟩ := fieldRims_len13 l0
  clear hA0 hval0 hval hA
  simp only [List.append_nil] at hW'
  have hC : Con Try.prog 6 [.a ([x0_0, x0_1, x0_2, x0_3, x0_4, x0_5, x0_6, x0_7, x0_8, x0_9, x0_10, x0_11, x0_12].map iv)] [] (.v (.bool true)) [] := by
    have h := C6 (((x0_0, x0_1, x0_2), (x0_3, x0_4, x0_5), (x0_6, x0_7, x0_8)), (x0_9, x0_10, x0_11), x0_12)
    rw [law_rims] at h
    exact h
  refine (law_calls (vs := [.agg ([x0_0, x0_1, x0_2, x0_3, x0_4, x0_5, x0_6, x0_7, x0_8, x0_9, x0_10, x0_11, x0_12].map (Value.int .i64)).toArray]) hC ⟨rel_agg [x0_0, x0_1, x0_2, x0_3, x0_4, x0_5, x0_6, x0_7, x0_8, x0_9, x0_10, x0_11, x0_12], trivial⟩ W).mono fun e W' ⟨he, hb⟩ => ?_
  subst he
  exact ⟨_, rfl, post_below (before := []) hW' hb (fun _ _ _ => (all_mk (shut_bool Try.underlying4 _) trodAll_mk0)) (all_mk (Below.trod laidOut (by kernel_rfl) (of_decide_eq_true (by kernel_rfl)) h0 hb (fun x hx => by cases hx)) trodAll_mk0) rfl⟩
theorem fieldRims_over : Rows.fieldRimsRow.holds Try.pinned (OpenSpec.ofChange Rows.fieldRimsSpec) :=
  OpenClaim.holds_of_wide 6 Try.f6 rfl rfl rfl rfl rfl rfl rfl ⟨rfl, rfl, rfl, rfl, rfl⟩ rfl rfl rfl rfl rfl (by kernel_rfl) Try.func6 (by kernel_rfl)
    (of_decide_eq_true (by kernel_rfl)) (by unfold Func.isWrapper; first | (rw [if_pos (by decide +kernel)]; kernel_rfl) | (rw [if_neg (by decide +kernel)]; exact ⟨rfl, rfl⟩))
    (fun os started H enc _ => fieldRims_lifted os started H enc)
/-- THE STATEMENT -/
theorem fieldRims_proved : Rows.FieldRimsSaid :=
  fieldRims_over

end Go.Proofs.Ytjlekmjnkpcnoaa
