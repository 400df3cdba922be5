/-
  SoundImages: for every list of pulses, behind a hard and behind a soft wall, the law returns true, and its arguments read behind the call as they read before. No condition.
-/
import Derived.Test.YtopbnnmkdildgaaU6
import Derived.ProofKit
namespace Go.Proofs.Ytopbnnmkdildgaa
open Go.Proofs Go.Aw Go.RowKit
set_option maxRecDepth 100000
set_option linter.unusedVariables false
set_option linter.unusedSimpArgs false

/-- facet/facetlaw08.SoundImages at ('L',) -/
def F8_L (a0 : List (((Int × Int × Int) × (Int × Int × Int) × Int × Int × Int) × Int × Int)) (a1 : Bool) : Bool :=
  (bif (decide ((((a0.length : Nat) : Int) : Int) > 60)) then
   F18
  else
   (bif (((F30_L a0 a1).2 : Int) == (F31_L a0 a1).2) then
    (bif (F29_L_L (F30_L a0 a1).1 (F31_L a0 a1).1) then
     F18
    else
     false)
   else
    false))

noncomputable def oC8_L_0 (a0 : List (((Int × Int × Int) × (Int × Int × Int) × Int × Int × Int) × Int × Int)) (a1 : Bool) : Or := .call [0] (.t [(.s 1 0 (F30_L a0 a1).1.length 11), (iv (F30_L a0 a1).2)]) [(.live true true (flat c41 (F30_L a0 a1).1))]
noncomputable def oC8_L_1 (a0 : List (((Int × Int × Int) × (Int × Int × Int) × Int × Int × Int) × Int × Int)) (a1 : Bool) : Or := .call [0] (.t [(.s 1 0 (F31_L a0 a1).1.length 11), (iv (F31_L a0 a1).2)]) [(.live true true (flat c41 (F31_L a0 a1).1))]
noncomputable def oC8_L_2 (a0 : List (((Int × Int × Int) × (Int × Int × Int) × Int × Int × Int) × Int × Int)) (a1 : Bool) : Ob := .call 30 [(.s 0 0 a0.length 11), (.v (.bool a1))] [(.live false true (flat c41 a0))] (.t [(.s 1 0 (F30_L a0 a1).1.length 11), (iv (F30_L a0 a1).2)]) [(.live true true (flat c41 (F30_L a0 a1).1))]
noncomputable def oC8_L_3 (a0 : List (((Int × Int × Int) × (Int × Int × Int) × Int × Int × Int) × Int × Int)) (a1 : Bool) : Ob := .call 31 [(.s 0 0 a0.length 11), (.v (.bool a1))] [(.live false true (flat c41 a0))] (.t [(.s 1 0 (F31_L a0 a1).1.length 11), (iv (F31_L a0 a1).2)]) [(.live true true (flat c41 (F31_L a0 a1).1))]
noncomputable def oC8_L_4 (a0 : List (((Int × Int × Int) × (Int × Int × Int) × Int × Int × Int) × Int × Int)) (a1 : Bool) : Ob := .call 29 [(.s 0 0 (F30_L a0 a1).1.length 11), (.s 1 0 (F31_L a0 a1).1.length 11)] [(.live false true (flat c41 (F30_L a0 a1).1)), (.live false true (flat c41 (F31_L a0 a1).1))] (.v (.bool (F29_L_L (F30_L a0 a1).1 (F31_L a0 a1).1))) []
theorem C8_L (a0 : List (((Int × Int × Int) × (Int × Int × Int) × Int × Int × Int) × Int × Int)) (a1 : Bool) (l0 : a0.length ≤ 9223372036854775807) : Con Try.prog 8 [(.s 0 0 a0.length 11), (.v (.bool a1))] [(.live false true (flat c41 a0))] (.v (.bool (F8_L a0 a1))) [] := by
  cases h0 : (decide ((((a0.length : Nat) : Int) : Int) > 60)) with
  | true =>
    have q0 := of_decide_eq_true h0
    have hd1 := imf_len a0 a1
    have hd2 := imr_len a0 a1
    have e : (F8_L a0 a1) = F18 := by simp only [F8_L, h0, cond_true, cond_false]
    rw [e]
    refine con_of (n := 9) Try.func8 rfl (ent Try.func8 (by kernel_rfl) rfl) (by show 2 ≤ Try.f8.ntmps; decide) (by kernel_rfl) ⟨rfl, trivial⟩ (fun cx hcx => ?_)
    exact ret_of (T := T0) hT hm (f := 5000) (orc := [.d true, .call [] (.v (.bool F18)) []]) [] [] [] hcx
      (obs := [.eq (decide ((((a0.length : Nat) : Int) : Int) > 60)) true, .call 18 [] [] (.v (.bool F18)) []]) (by kernel_rfl) ⟨h0, (C18), trivial⟩
  | false =>
    cases h1 : (((F30_L a0 a1).2 : Int) == (F31_L a0 a1).2) with
    | true =>
      cases h2 : (F29_L_L (F30_L a0 a1).1 (F31_L a0 a1).1) with
      | true =>
        have q0 := of_decide_eq_false h0
        have q1 := eq_of_beq h1
        have hd1 := imf_len a0 a1
        have hd2 := imr_len a0 a1
        have e : (F8_L a0 a1) = F18 := by simp only [F8_L, h0, h1, h2, cond_true, cond_false]
        rw [e]
        refine con_of (n := 9) Try.func8 rfl (ent Try.func8 (by kernel_rfl) rfl) (by show 2 ≤ Try.f8.ntmps; decide) (by kernel_rfl) ⟨rfl, trivial⟩ (fun cx hcx => ?_)
        exact ret_of (T := T0) hT hm (f := 5000) (orc := [.d false, (oC8_L_0 a0 a1), (oC8_L_1 a0 a1), .d true, .call [1, 2] (.v (.bool (F29_L_L (F30_L a0 a1).1 (F31_L a0 a1).1))) [], .d true, .call [] (.v (.bool F18)) []]) [] [] [] hcx
          (obs := [.eq (decide ((((a0.length : Nat) : Int) : Int) > 60)) false, (oC8_L_2 a0 a1), (oC8_L_3 a0 a1), .eq (((F30_L a0 a1).2 : Int) == (F31_L a0 a1).2) true, (oC8_L_4 a0 a1), .eq (F29_L_L (F30_L a0 a1).1 (F31_L a0 a1).1) true, .call 18 [] [] (.v (.bool F18)) []]) (by kernel_rfl) ⟨h0, (C30_L a0 a1 (by (try simp only [List.length_append, List.length_cons, List.length_nil, Int.toNat_zero]); omega)), (C31_L a0 a1 (by (try simp only [List.length_append, List.length_cons, List.length_nil, Int.toNat_zero]); omega)), h1, (C29_L_L (F30_L a0 a1).1 (F31_L a0 a1).1 (by (try simp only [List.length_append, List.length_cons, List.length_nil, Int.toNat_zero]); omega) (by (try simp only [List.length_append, List.length_cons, List.length_nil, Int.toNat_zero]); omega)), h2, (C18), trivial⟩
      | false =>
        have q0 := of_decide_eq_false h0
        have q1 := eq_of_beq h1
        have hd1 := imf_len a0 a1
        have hd2 := imr_len a0 a1
        have e : (F8_L a0 a1) = false := by simp only [F8_L, h0, h1, h2, cond_true, cond_false]
        rw [e]
        refine con_of (n := 9) Try.func8 rfl (ent Try.func8 (by kernel_rfl) rfl) (by show 2 ≤ Try.f8.ntmps; decide) (by kernel_rfl) ⟨rfl, trivial⟩ (fun cx hcx => ?_)
        exact ret_of (T := T0) hT hm (f := 5000) (orc := [.d false, (oC8_L_0 a0 a1), (oC8_L_1 a0 a1), .d true, .call [1, 2] (.v (.bool (F29_L_L (F30_L a0 a1).1 (F31_L a0 a1).1))) [], .d false]) [] [] [] hcx
          (obs := [.eq (decide ((((a0.length : Nat) : Int) : Int) > 60)) false, (oC8_L_2 a0 a1), (oC8_L_3 a0 a1), .eq (((F30_L a0 a1).2 : Int) == (F31_L a0 a1).2) true, (oC8_L_4 a0 a1), .eq (F29_L_L (F30_L a0 a1).1 (F31_L a0 a1).1) false]) (by kernel_rfl) ⟨h0, (C30_L a0 a1 (by (try simp only [List.length_append, List.length_cons, List.length_nil, Int.toNat_zero]); omega)), (C31_L a0 a1 (by (try simp only [List.length_append, List.length_cons, List.length_nil, Int.toNat_zero]); omega)), h1, (C29_L_L (F30_L a0 a1).1 (F31_L a0 a1).1 (by (try simp only [List.length_append, List.length_cons, List.length_nil, Int.toNat_zero]); omega) (by (try simp only [List.length_append, List.length_cons, List.length_nil, Int.toNat_zero]); omega)), h2, trivial⟩
    | false =>
      have q0 := of_decide_eq_false h0
      have q1 := ne_of_beq_false h1
      have hd1 := imf_len a0 a1
      have hd2 := imr_len a0 a1
      have e : (F8_L a0 a1) = false := by simp only [F8_L, h0, h1, cond_true, cond_false]
      rw [e]
      refine con_of (n := 9) Try.func8 rfl (ent Try.func8 (by kernel_rfl) rfl) (by show 2 ≤ Try.f8.ntmps; decide) (by kernel_rfl) ⟨rfl, trivial⟩ (fun cx hcx => ?_)
      exact ret_of (T := T0) hT hm (f := 5000) (orc := [.d false, (oC8_L_0 a0 a1), (oC8_L_1 a0 a1), .d false]) [] [] [] hcx
        (obs := [.eq (decide ((((a0.length : Nat) : Int) : Int) > 60)) false, (oC8_L_2 a0 a1), (oC8_L_3 a0 a1), .eq (((F30_L a0 a1).2 : Int) == (F31_L a0 a1).2) false]) (by kernel_rfl) ⟨h0, (C30_L a0 a1 (by (try simp only [List.length_append, List.length_cons, List.length_nil, Int.toNat_zero]); omega)), (C31_L a0 a1 (by (try simp only [List.length_append, List.length_cons, List.length_nil, Int.toNat_zero]); omega)), h1, trivial⟩

theorem law_images (l : List PU) (soft : Bool) : F8_L l soft = true := by
  unfold F8_L
  rw [sane_t, Images_f, Images_r, same_refl]
  cases decide (((l.length : Nat) : Int) > 60) <;> simp

open Go.ChangeShapes Go.WideShapes Go.ChangeAt
theorem soundImages_len11 {l : List Int} (h : l.length = 11) : ∃ a0 a1 a2 a3 a4 a5 a6 a7 a8 a9 a10, l = [a0, a1, a2, a3, a4, a5, a6, a7, a8, a9, a10] := by
  match l, h with
  | [a0, a1, a2, a3, a4, a5, a6, a7, a8, a9, a10], _ => exact ⟨a0, a1, a2, a3, a4, a5, a6, a7, a8, a9, a10, rfl⟩
def soundImages_mk41 (ns : List Int) : ((Int × Int × Int) × (Int × Int × Int) × Int × Int × Int) × Int × Int := ((((ns.getD 0 0), (ns.getD 1 0), (ns.getD 2 0)), ((ns.getD 3 0), (ns.getD 4 0), (ns.getD 5 0)), ((ns.getD 6 0), (ns.getD 7 0), (ns.getD 8 0))), (ns.getD 9 0), (ns.getD 10 0))
theorem soundImages_mkc41 (ns : List Int) (h : ns.length = 11) : c41 (soundImages_mk41 ns) = ns.map iv := by
  obtain ⟨a0, a1, a2, a3, a4, a5, a6, a7, a8, a9, a10, rfl⟩ := soundImages_len11 h
  rfl
set_option maxRecDepth 100000 in
theorem soundImages_lifted (os : Os) (started : os.Started) (H : Type) (enc : TypeId × Value → H) :
    ReturnsInHanded {} Try.checked os 8 .any (Rows.soundImagesSpec.pre6 enc Try.prog Try.f8 Rows.soundImagesRow.domain false) (Rows.soundImagesSpec.post enc Try.prog Try.f8 false true false false) := by
  refine returnsInHanded_of_change (C := Try.checked) own started (by kernel_rfl) Try.func8
    (ChangeSpec.witness6 (enc := enc) (C := Try.checked) false ⟨#[], #[.slice none 0 0, .bool false], []⟩ 8 (by kernel_rfl) (by kernel_rfl) (by kernel_rfl) (by kernel_rfl)) ?_
  intro W base args ds gs before hval0 hW hcnd _
  have hval : ∀ (j : Nat) t v, Try.f8.params[j]? = some t → args[j]? = some v → Value.okWide Try.prog W .any base t v := hval0
  have hW' := hW
  obtain ⟨p, q, hA0, hV, rfl, hfz, hnd⟩ := hW
  have hA : DataW.TrodAll enc Try.prog W 0 (fun _ => true) true Try.f8.params.toList args.toList ds p := hA0
  rw [Try.params8] at hA hval
  obtain ⟨v0, vs0, d0, ds0, p0, q0, hargs, rfl, rfl, h0, r0⟩ := trodAll_cons hA
  obtain ⟨v1, vs1, d1, ds1, p1, q1, rfl, rfl, rfl, h1, r1⟩ := trodAll_cons r0
  obtain ⟨rfl, rfl, rfl⟩ := trodAll_nil r1
  obtain rfl : args = #[v0, v1] := by cases args; simp_all
  obtain ⟨rfl, rfl⟩ := trodVars_none hV
  obtain ⟨⟨nss0, s0⟩, b0⟩ := open_list Try.underlying48 (by kernel_rfl) (show Try.prog.cellsOf 41 = 11 from by kernel_rfl) (hval 0 48 v0 rfl rfl) h0
  obtain ⟨x1, rfl, rfl, rfl⟩ := Go.RowKit.open_bool Try.underlying4 (hval 1 4 v1 rfl rfl) h1
  clear hA0 hval0 hval hA
  simp only [List.append_nil, List.nil_append] at hW'
  have hC : Con Try.prog 8 [.s 0 0 nss0.length 11, .v (.bool x1)] [.live false true ((nss0.flatten).map iv)] (.v (.bool true)) [] := by
    have h := C8_L (nss0.map soundImages_mk41) x1 (by rw [List.length_map]; exact s0.2.1)
    rw [law_images, flat_mk soundImages_mkc41 s0.1] at h
    simp only [List.length_map] at h
    exact h
  refine (law_calls1 (vs := [v0, .bool x1]) hC s0 ⟨slice_rel s0 rfl, rfl, trivial⟩).mono fun e W' ⟨he, hb⟩ => ?_
  subst he
  have hargs2 := (all_mk (Below.trod laidOut (by kernel_rfl) (of_decide_eq_true (by kernel_rfl)) h0 hb b0) (all_mk (Below.trod laidOut (by kernel_rfl) (of_decide_eq_true (by kernel_rfl)) h1 hb (fun x hx => by cases hx)) trodAll_mk0))
  simp only [List.append_nil, List.nil_append] at hargs2
  exact ⟨_, rfl, post_below hW' hb (fun _ _ _ => (all_mk (shut_bool Try.underlying4 _) trodAll_mk0)) hargs2 rfl⟩
theorem soundImages_over : Rows.soundImagesRow.holds Try.pinned (OpenSpec.ofChange Rows.soundImagesSpec) :=
  OpenClaim.holds_of_wide 8 Try.f8 rfl rfl rfl rfl rfl rfl rfl ⟨rfl, rfl, rfl, rfl, rfl⟩ rfl rfl rfl rfl rfl (by kernel_rfl) Try.func8 (by kernel_rfl)
    (of_decide_eq_true (by kernel_rfl)) (by unfold Func.isWrapper; first | (rw [if_pos (by decide +kernel)]; kernel_rfl) | (rw [if_neg (by decide +kernel)]; exact ⟨rfl, rfl⟩))
    (fun os started H enc _ => soundImages_lifted os started H enc)
/-- THE STATEMENT -/
theorem soundImages_proved : Rows.SoundImagesSaid :=
  soundImages_over

end Go.Proofs.Ytopbnnmkdildgaa
