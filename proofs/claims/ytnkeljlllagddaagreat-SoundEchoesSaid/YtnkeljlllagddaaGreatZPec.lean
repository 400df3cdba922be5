/-
  SoundEchoes: for every list of pulses, behind a hard and behind a soft wall, for every point, speed, tick and depth the law returns true, and its arguments read behind the call as they read before. No condition.
-/
import Derived.Test.YtnkeljlllagddaaGreatVPec5
import Derived.ProofKit
namespace Go.Proofs.YtnkeljlllagddaaGreat
open Go.Proofs Go.Aw Go.RowKit
set_option maxRecDepth 100000
set_option linter.unusedVariables false
set_option linter.unusedSimpArgs false

/-- facet/facetlaw08.SoundEchoes at ('L',) -/
def F3_L (a0 : List (((Int × Int × Int) × (Int × Int × Int) × Int × Int × Int) × Int × Int)) (a1 : Bool) (a2 : (Int × Int × Int) × Int × Int × Int) : Bool :=
  (bif (decide ((((a0.length : Nat) : Int) : Int) > 60)) then
   F13
  else
   (bif ((((F14_L a0 a2.1 a1 a2.2.1 a2.2.2.1 a2.2.2.2).1.1 : Int) == (F15_L a0 a2.1 a1 a2.2.1 a2.2.2.1 a2.2.2.2).1.1) && ((((F14_L a0 a2.1 a1 a2.2.1 a2.2.2.1 a2.2.2.2).1.2 : Int) == (F15_L a0 a2.1 a1 a2.2.1 a2.2.2.1 a2.2.2.2).1.2) && true)) then
    (bif (((F14_L a0 a2.1 a1 a2.2.1 a2.2.2.1 a2.2.2.2).2 : Int) == (F15_L a0 a2.1 a1 a2.2.1 a2.2.2.1 a2.2.2.2).2) then
     F13
    else
     false)
   else
    false))

noncomputable def oC3_L_0 (a0 : List (((Int × Int × Int) × (Int × Int × Int) × Int × Int × Int) × Int × Int)) (a1 : Bool) (a2 : (Int × Int × Int) × Int × Int × Int) : Or := .call [0] (.t [(.a (k2 (F14_L a0 a2.1 a1 a2.2.1 a2.2.2.1 a2.2.2.2).1)), (iv (F14_L a0 a2.1 a1 a2.2.1 a2.2.2.1 a2.2.2.2).2)]) []
noncomputable def oC3_L_1 (a0 : List (((Int × Int × Int) × (Int × Int × Int) × Int × Int × Int) × Int × Int)) (a1 : Bool) (a2 : (Int × Int × Int) × Int × Int × Int) : Or := .call [0] (.t [(.a (k2 (F15_L a0 a2.1 a1 a2.2.1 a2.2.2.1 a2.2.2.2).1)), (iv (F15_L a0 a2.1 a1 a2.2.1 a2.2.2.1 a2.2.2.2).2)]) []
noncomputable def oC3_L_2 (a0 : List (((Int × Int × Int) × (Int × Int × Int) × Int × Int × Int) × Int × Int)) (a1 : Bool) (a2 : (Int × Int × Int) × Int × Int × Int) : Ob := .call 14 [(.s 0 0 a0.length 11), (.a (k3 a2.1)), (.v (.bool a1)), (iv a2.2.1), (iv a2.2.2.1), (iv a2.2.2.2)] [(.live false true (flat c67 a0))] (.t [(.a (k2 (F14_L a0 a2.1 a1 a2.2.1 a2.2.2.1 a2.2.2.2).1)), (iv (F14_L a0 a2.1 a1 a2.2.1 a2.2.2.1 a2.2.2.2).2)]) []
noncomputable def oC3_L_3 (a0 : List (((Int × Int × Int) × (Int × Int × Int) × Int × Int × Int) × Int × Int)) (a1 : Bool) (a2 : (Int × Int × Int) × Int × Int × Int) : Ob := .call 15 [(.s 0 0 a0.length 11), (.a (k3 a2.1)), (.v (.bool a1)), (iv a2.2.1), (iv a2.2.2.1), (iv a2.2.2.2)] [(.live false true (flat c67 a0))] (.t [(.a (k2 (F15_L a0 a2.1 a1 a2.2.1 a2.2.2.1 a2.2.2.2).1)), (iv (F15_L a0 a2.1 a1 a2.2.1 a2.2.2.1 a2.2.2.2).2)]) []
noncomputable def oC3_L_4 (a0 : List (((Int × Int × Int) × (Int × Int × Int) × Int × Int × Int) × Int × Int)) (a1 : Bool) (a2 : (Int × Int × Int) × Int × Int × Int) : Ob := .eq ((((F14_L a0 a2.1 a1 a2.2.1 a2.2.2.1 a2.2.2.2).1.1 : Int) == (F15_L a0 a2.1 a1 a2.2.1 a2.2.2.1 a2.2.2.2).1.1) && ((((F14_L a0 a2.1 a1 a2.2.1 a2.2.2.1 a2.2.2.2).1.2 : Int) == (F15_L a0 a2.1 a1 a2.2.1 a2.2.2.1 a2.2.2.2).1.2) && true)) true
theorem C3_L (a0 : List (((Int × Int × Int) × (Int × Int × Int) × Int × Int × Int) × Int × Int)) (a1 : Bool) (a2 : (Int × Int × Int) × Int × Int × Int) (l0 : a0.length ≤ 9223372036854775807) : Con Tryz.prog 3 [(.s 0 0 a0.length 11), (.v (.bool a1)), (.a [(iv a2.1.1), (iv a2.1.2.1), (iv a2.1.2.2), (iv a2.2.1), (iv a2.2.2.1), (iv a2.2.2.2)])] [(.live false true (flat c67 a0))] (.v (.bool (F3_L a0 a1 a2))) [] := by
  cases h0 : (decide ((((a0.length : Nat) : Int) : Int) > 60)) with
  | true =>
    have q0 := of_decide_eq_true h0
    have e : (F3_L a0 a1 a2) = F13 := by simp only [F3_L, h0, cond_true, cond_false]
    rw [e]
    refine con_of (n := 9) Tryz.func3 rfl (ent Tryz.func3 (by kernel_rfl) rfl) (by show 3 ≤ Tryz.f3.ntmps; decide) (by kernel_rfl) ⟨rfl, trivial⟩ (fun cx hcx => ?_)
    exact ret_of (T := T0) hT hm (f := 5000) (orc := [.d true, .call [] (.v (.bool F13)) []]) [] [] [] hcx
      (obs := [.eq (decide ((((a0.length : Nat) : Int) : Int) > 60)) true, .call 13 [] [] (.v (.bool F13)) []]) (by kernel_rfl) ⟨h0, (C13), trivial⟩
  | false =>
    cases h1 : ((((F14_L a0 a2.1 a1 a2.2.1 a2.2.2.1 a2.2.2.2).1.1 : Int) == (F15_L a0 a2.1 a1 a2.2.1 a2.2.2.1 a2.2.2.2).1.1) && ((((F14_L a0 a2.1 a1 a2.2.1 a2.2.2.1 a2.2.2.2).1.2 : Int) == (F15_L a0 a2.1 a1 a2.2.1 a2.2.2.1 a2.2.2.2).1.2) && true)) with
    | true =>
      cases h2 : (((F14_L a0 a2.1 a1 a2.2.1 a2.2.2.1 a2.2.2.2).2 : Int) == (F15_L a0 a2.1 a1 a2.2.1 a2.2.2.1 a2.2.2.2).2) with
      | true =>
        have q0 := of_decide_eq_false h0
        have q2 := eq_of_beq h2
        have e : (F3_L a0 a1 a2) = F13 := by simp only [F3_L, h0, h1, h2, cond_true, cond_false]
        rw [e]
        refine con_of (n := 9) Tryz.func3 rfl (ent Tryz.func3 (by kernel_rfl) rfl) (by show 3 ≤ Tryz.f3.ntmps; decide) (by kernel_rfl) ⟨rfl, trivial⟩ (fun cx hcx => ?_)
        exact ret_of (T := T0) hT hm (f := 5000) (orc := [.d false, (oC3_L_0 a0 a1 a2), (oC3_L_1 a0 a1 a2), .d true, .d true, .call [] (.v (.bool F13)) []]) [] [] [] hcx
          (obs := [.eq (decide ((((a0.length : Nat) : Int) : Int) > 60)) false, (oC3_L_2 a0 a1 a2), (oC3_L_3 a0 a1 a2), (oC3_L_4 a0 a1 a2), .eq (((F14_L a0 a2.1 a1 a2.2.1 a2.2.2.1 a2.2.2.2).2 : Int) == (F15_L a0 a2.1 a1 a2.2.1 a2.2.2.1 a2.2.2.2).2) true, .call 13 [] [] (.v (.bool F13)) []]) (by kernel_rfl) ⟨h0, (C14_L a0 a2.1 a1 a2.2.1 a2.2.2.1 a2.2.2.2 (by (try simp only [List.length_append, List.length_cons, List.length_nil, Int.toNat_zero]); omega)), (C15_L a0 a2.1 a1 a2.2.1 a2.2.2.1 a2.2.2.2 (by (try simp only [List.length_append, List.length_cons, List.length_nil, Int.toNat_zero]); omega)), h1, h2, (C13), trivial⟩
      | false =>
        have q0 := of_decide_eq_false h0
        have q2 := ne_of_beq_false h2
        have e : (F3_L a0 a1 a2) = false := by simp only [F3_L, h0, h1, h2, cond_true, cond_false]
        rw [e]
        refine con_of (n := 9) Tryz.func3 rfl (ent Tryz.func3 (by kernel_rfl) rfl) (by show 3 ≤ Tryz.f3.ntmps; decide) (by kernel_rfl) ⟨rfl, trivial⟩ (fun cx hcx => ?_)
        exact ret_of (T := T0) hT hm (f := 5000) (orc := [.d false, (oC3_L_0 a0 a1 a2), (oC3_L_1 a0 a1 a2), .d true, .d false]) [] [] [] hcx
          (obs := [.eq (decide ((((a0.length : Nat) : Int) : Int) > 60)) false, (oC3_L_2 a0 a1 a2), (oC3_L_3 a0 a1 a2), (oC3_L_4 a0 a1 a2), .eq (((F14_L a0 a2.1 a1 a2.2.1 a2.2.2.1 a2.2.2.2).2 : Int) == (F15_L a0 a2.1 a1 a2.2.1 a2.2.2.1 a2.2.2.2).2) false]) (by kernel_rfl) ⟨h0, (C14_L a0 a2.1 a1 a2.2.1 a2.2.2.1 a2.2.2.2 (by (try simp only [List.length_append, List.length_cons, List.length_nil, Int.toNat_zero]); omega)), (C15_L a0 a2.1 a1 a2.2.1 a2.2.2.1 a2.2.2.2 (by (try simp only [List.length_append, List.length_cons, List.length_nil, Int.toNat_zero]); omega)), h1, h2, trivial⟩
    | false =>
      have q0 := of_decide_eq_false h0
      have e : (F3_L a0 a1 a2) = false := by simp only [F3_L, h0, h1, cond_true, cond_false]
      rw [e]
      refine con_of (n := 9) Tryz.func3 rfl (ent Tryz.func3 (by kernel_rfl) rfl) (by show 3 ≤ Tryz.f3.ntmps; decide) (by kernel_rfl) ⟨rfl, trivial⟩ (fun cx hcx => ?_)
      exact ret_of (T := T0) hT hm (f := 5000) (orc := [.d false, (oC3_L_0 a0 a1 a2), (oC3_L_1 a0 a1 a2), .d false]) [] [] [] hcx
        (obs := [.eq (decide ((((a0.length : Nat) : Int) : Int) > 60)) false, (oC3_L_2 a0 a1 a2), (oC3_L_3 a0 a1 a2), .eq ((((F14_L a0 a2.1 a1 a2.2.1 a2.2.2.1 a2.2.2.2).1.1 : Int) == (F15_L a0 a2.1 a1 a2.2.1 a2.2.2.1 a2.2.2.2).1.1) && ((((F14_L a0 a2.1 a1 a2.2.1 a2.2.2.1 a2.2.2.2).1.2 : Int) == (F15_L a0 a2.1 a1 a2.2.1 a2.2.2.1 a2.2.2.2).1.2) && true)) false]) (by kernel_rfl) ⟨h0, (C14_L a0 a2.1 a1 a2.2.1 a2.2.2.1 a2.2.2.2 (by (try simp only [List.length_append, List.length_cons, List.length_nil, Int.toNat_zero]); omega)), (C15_L a0 a2.1 a1 a2.2.1 a2.2.2.1 a2.2.2.2 (by (try simp only [List.length_append, List.length_cons, List.length_nil, Int.toNat_zero]); omega)), h1, trivial⟩

theorem law_echoes (l : List PU) (soft : Bool) (x : P3 × Int × Int × Int) : F3_L l soft x = true := by
  unfold F3_L
  simp only [sane_t, Echo_f, Echo_r]
  simp

open Go.ChangeShapes Go.WideShapes Go.ChangeAt
theorem soundEchoes_len6 {l : List Int} (h : l.length = 6) : ∃ a0 a1 a2 a3 a4 a5, l = [a0, a1, a2, a3, a4, a5] := by
  match l, h with
  | [a0, a1, a2, a3, a4, a5], _ => exact ⟨a0, a1, a2, a3, a4, a5, rfl⟩
theorem soundEchoes_len11 {l : List Int} (h : l.length = 11) : ∃ a0 a1 a2 a3 a4 a5 a6 a7 a8 a9 a10, l = [a0, a1, a2, a3, a4, a5, a6, a7, a8, a9, a10] := by
  match l, h with
  | [a0, a1, a2, a3, a4, a5, a6, a7, a8, a9, a10], _ => exact ⟨a0, a1, a2, a3, a4, a5, a6, a7, a8, a9, a10, rfl⟩
def soundEchoes_mk67 (ns : List Int) : ((Int × Int × Int) × (Int × Int × Int) × Int × Int × Int) × Int × Int := ((((ns.getD 0 0), (ns.getD 1 0), (ns.getD 2 0)), ((ns.getD 3 0), (ns.getD 4 0), (ns.getD 5 0)), ((ns.getD 6 0), (ns.getD 7 0), (ns.getD 8 0))), (ns.getD 9 0), (ns.getD 10 0))
theorem soundEchoes_mkc67 (ns : List Int) (h : ns.length = 11) : c67 (soundEchoes_mk67 ns) = ns.map iv := by
  obtain ⟨a0, a1, a2, a3, a4, a5, a6, a7, a8, a9, a10, rfl⟩ := soundEchoes_len11 h
  rfl
set_option maxRecDepth 100000 in
theorem soundEchoes_lifted (os : Os) (started : os.Started) (H : Type) (enc : TypeId × Value → H) :
    ReturnsInHanded {} Tryz.checked os 3 .any (Rows.soundEchoesSpec.pre6 enc Tryz.prog Tryz.f3 Rows.soundEchoesRow.domain false) (Rows.soundEchoesSpec.post enc Tryz.prog Tryz.f3 false true false false) := by
  refine returnsInHanded_of_change (C := Tryz.checked) own started (by kernel_rfl) Tryz.func3
    (ChangeSpec.witness6 (enc := enc) (C := Tryz.checked) false ⟨#[], #[.slice none 0 0, .bool false, .agg #[.int .i64 0, .int .i64 0, .int .i64 0, .int .i64 0, .int .i64 0, .int .i64 0]], []⟩ 8 (by kernel_rfl) (by kernel_rfl) (by kernel_rfl) (by kernel_rfl)) ?_
  intro W base args ds gs before hval0 hW hcnd _
  have hval : ∀ (j : Nat) t v, Tryz.f3.params[j]? = some t → args[j]? = some v → Value.okWide Tryz.prog W .any base t v := hval0
  have hW' := hW
  obtain ⟨p, q, hA0, hV, rfl, hfz, hnd⟩ := hW
  have hA : DataW.TrodAll enc Tryz.prog W 0 (fun _ => true) true Tryz.f3.params.toList args.toList ds p := hA0
  rw [Tryz.params3] at hA hval
  obtain ⟨v0, vs0, d0, ds0, p0, q0, hargs, rfl, rfl, h0, r0⟩ := trodAll_cons hA
  obtain ⟨v1, vs1, d1, ds1, p1, q1, rfl, rfl, rfl, h1, r1⟩ := trodAll_cons r0
  obtain ⟨v2, vs2, d2, ds2, p2, q2, rfl, rfl, rfl, h2, r2⟩ := trodAll_cons r1
  obtain ⟨rfl, rfl, rfl⟩ := trodAll_nil r2
  obtain rfl : args = #[v0, v1, v2] := by cases args; simp_all
  obtain ⟨rfl, rfl⟩ := trodVars_none hV
  obtain ⟨⟨nss0, s0⟩, b0⟩ := open_list Tryz.underlying22 (by kernel_rfl) (show Tryz.prog.cellsOf 67 = 11 from by kernel_rfl) (hval 0 22 v0 rfl rfl) h0
  obtain ⟨x1, rfl, rfl, rfl⟩ := Go.RowKit.open_bool Tryz.underlying4 (hval 1 4 v1 rfl rfl) h1
  obtain ⟨rfl, ns2, rfl, l2⟩ := open_flat Tryz.underlying26 (by kernel_rfl) (hval 2 26 v2 rfl rfl) h2
  rw [show Tryz.prog.cellsOf 26 = 6 from by kernel_rfl] at l2
  obtain ⟨x2_0, x2_1, x2_2, x2_3, x2_4, x2_5, rfl⟩ := soundEchoes_len6 l2
  clear hA0 hval0 hval hA
  simp only [List.append_nil, List.nil_append] at hW'
  have hC : Con Tryz.prog 3 [.s 0 0 nss0.length 11, .v (.bool x1), .a ([x2_0, x2_1, x2_2, x2_3, x2_4, x2_5].map iv)] [.live false true ((nss0.flatten).map iv)] (.v (.bool true)) [] := by
    have h := C3_L (nss0.map soundEchoes_mk67) x1 ((x2_0, x2_1, x2_2), x2_3, x2_4, x2_5) (by rw [List.length_map]; exact s0.2.1)
    rw [law_echoes, flat_mk soundEchoes_mkc67 s0.1] at h
    simp only [List.length_map] at h
    exact h
  refine (law_calls1 (vs := [v0, .bool x1, .agg ([x2_0, x2_1, x2_2, x2_3, x2_4, x2_5].map (Value.int .i64)).toArray]) hC s0 ⟨slice_rel s0 rfl, rfl, rel_agg [x2_0, x2_1, x2_2, x2_3, x2_4, x2_5], trivial⟩).mono fun e W' ⟨he, hb⟩ => ?_
  subst he
  have hargs2 := (all_mk (Below.trod laidOut (by kernel_rfl) (of_decide_eq_true (by kernel_rfl)) h0 hb b0) (all_mk (Below.trod laidOut (by kernel_rfl) (of_decide_eq_true (by kernel_rfl)) h1 hb (fun x hx => by cases hx)) (all_mk (Below.trod laidOut (by kernel_rfl) (of_decide_eq_true (by kernel_rfl)) h2 hb (fun x hx => by cases hx)) trodAll_mk0)))
  simp only [List.append_nil, List.nil_append] at hargs2
  exact ⟨_, rfl, post_below hW' hb (fun _ _ _ => (all_mk (shut_bool Tryz.underlying4 _) trodAll_mk0)) hargs2 rfl⟩
theorem soundEchoes_over : Rows.soundEchoesRow.holds Tryz.pinned (OpenSpec.ofChange Rows.soundEchoesSpec) :=
  OpenClaim.holds_of_wide 3 Tryz.f3 rfl rfl rfl rfl rfl rfl rfl ⟨rfl, rfl, rfl, rfl, rfl⟩ rfl rfl rfl rfl rfl (by kernel_rfl) Tryz.func3 (by kernel_rfl)
    (of_decide_eq_true (by kernel_rfl)) (by unfold Func.isWrapper; first | (rw [if_pos (by decide +kernel)]; kernel_rfl) | (rw [if_neg (by decide +kernel)]; exact ⟨rfl, rfl⟩))
    (fun os started H enc _ => soundEchoes_lifted os started H enc)
/-- THE STATEMENT -/
theorem soundEchoes_proved : Rows.SoundEchoesSaid :=
  soundEchoes_over

end Go.Proofs.YtnkeljlllagddaaGreat
