/-
  HoldScales: for every mesh, list of charges, depth and factor the law returns true, and its arguments read behind the call as they read before. No condition.
-/
import Derived.Test.YtaeagjnpobdglaaGreatVPsc6
import Derived.ProofKit
namespace Go.Proofs.YtaeagjnpobdglaaGreat
open Go.Proofs Go.Aw Go.RowKit
set_option maxRecDepth 100000
set_option linter.unusedVariables false
set_option linter.unusedSimpArgs false

theorem law_scales (m : ME) (t : List Int × Int) (k : Int) : F4 m t k = true := by
  unfold F4
  simp only [sane_h]
  cases h1 : ((F11_L (m.1, m.2) t.1 t.2).2 : Int) != 0 with
  | true => simp
  | false =>
    cases h2 : ((F16 (m.1, m.2) k).2 : Int) != 0 with
    | true => simp
    | false =>
      cases h3 : ((F11_L ((F16 (m.1, m.2) k).1.1, (F16 (m.1, m.2) k).1.2) t.1 t.2).2 : Int) != 0 with
      | true => simp
      | false =>
        have g1 := bne_eq_false_iff_eq.1 h1
        have g2 := bne_eq_false_iff_eq.1 h2
        have g3 := bne_eq_false_iff_eq.1 h3
        obtain ⟨k1, k2, hp⟩ := scale_ok (m := (m.1, m.2)) g2
        obtain ⟨z1, z2⟩ := scl_z (k := k) ⟨k1, k2⟩ g1
        have hm := scl_meet (k := k) (m := (m.1, m.2)) (ml := ((F16 (m.1, m.2) k).1.1, (F16 (m.1, m.2) k).1.2)) ⟨k1, k2⟩ hp g1 g3
        rw [z1, meet_m (bnd_vs g3) z2 hm.1 hm.2]
        simp

open Go.ChangeShapes Go.WideShapes Go.ChangeAt
theorem holdScales_len1 {l : List Int} (h : l.length = 1) : ∃ a0, l = [a0] := by
  match l, h with
  | [a0], _ => exact ⟨a0, rfl⟩
theorem holdScales_len3 {l : List Int} (h : l.length = 3) : ∃ a0 a1 a2, l = [a0, a1, a2] := by
  match l, h with
  | [a0, a1, a2], _ => exact ⟨a0, a1, a2, rfl⟩
def holdScales_mk3 (ns : List Int) : Int := (ns.getD 0 0)
theorem holdScales_mkc3 (ns : List Int) (h : ns.length = 1) : c3 (holdScales_mk3 ns) = ns.map iv := by
  obtain ⟨a0, rfl⟩ := holdScales_len1 h
  rfl
def holdScales_mk30 (ns : List Int) : Int × Int × Int := ((ns.getD 0 0), (ns.getD 1 0), (ns.getD 2 0))
theorem holdScales_mkc30 (ns : List Int) (h : ns.length = 3) : c30 (holdScales_mk30 ns) = ns.map iv := by
  obtain ⟨a0, a1, a2, rfl⟩ := holdScales_len3 h
  rfl
def holdScales_mk94 (ns : List Int) : Int × Int × Int := ((ns.getD 0 0), (ns.getD 1 0), (ns.getD 2 0))
theorem holdScales_mkc94 (ns : List Int) (h : ns.length = 3) : c94 (holdScales_mk94 ns) = ns.map iv := by
  obtain ⟨a0, a1, a2, rfl⟩ := holdScales_len3 h
  rfl
set_option maxRecDepth 100000 in
theorem holdScales_lifted (os : Os) (started : os.Started) (H : Type) (enc : TypeId × Value → H) :
    ReturnsInHanded {} Tryz.checked os 4 .any (Rows.holdScalesSpec.pre6 enc Tryz.prog Tryz.f4 Rows.holdScalesRow.domain false) (Rows.holdScalesSpec.post enc Tryz.prog Tryz.f4 false true false false) := by
  refine returnsInHanded_of_change (C := Tryz.checked) own started (by kernel_rfl) Tryz.func4
    (ChangeSpec.witness6 (enc := enc) (C := Tryz.checked) false ⟨#[], #[.agg #[.slice none 0 0, .slice none 0 0], .agg #[.slice none 0 0, .int .i64 0], .int .i64 0], []⟩ 8 (by kernel_rfl) (by kernel_rfl) (by kernel_rfl) (by kernel_rfl)) ?_
  intro W base args ds gs before hval0 hW hcnd _
  have hval : ∀ (j : Nat) t v, Tryz.f4.params[j]? = some t → args[j]? = some v → Value.okWide Tryz.prog W .any base t v := hval0
  have hW' := hW
  obtain ⟨p, q, hA0, hV, rfl, hfz, hnd⟩ := hW
  have hA : DataW.TrodAll enc Tryz.prog W 0 (fun _ => true) true Tryz.f4.params.toList args.toList ds p := hA0
  rw [Tryz.params4] at hA hval
  obtain ⟨v0, vs0, d0, ds0, p0, q0, hargs, rfl, rfl, h0, r0⟩ := trodAll_cons hA
  obtain ⟨v1, vs1, d1, ds1, p1, q1, rfl, rfl, rfl, h1, r1⟩ := trodAll_cons r0
  obtain ⟨v2, vs2, d2, ds2, p2, q2, rfl, rfl, rfl, h2, r2⟩ := trodAll_cons r1
  obtain ⟨rfl, rfl, rfl⟩ := trodAll_nil r2
  obtain rfl : args = #[v0, v1, v2] := by cases args; simp_all
  obtain ⟨rfl, rfl⟩ := trodVars_none hV
  obtain ⟨⟨cs0, rfl, k0_0⟩, b0⟩ := open_kinds [.s 3, .s 3] Tryz.underlying25 (by kernel_rfl) (hval 0 25 v0 rfl rfl) h0
  obtain ⟨c0_0, cs0, rfl, ⟨nss0_0, s0_0⟩, k0_1⟩ := cells_cons k0_0
  obtain ⟨c0_1, cs0, rfl, ⟨nss0_1, s0_1⟩, k0_2⟩ := cells_cons k0_1
  obtain rfl := cells_nil k0_2
  obtain ⟨⟨cs1, rfl, k1_0⟩, b1⟩ := open_kinds [.s 1, .i] Tryz.underlying28 (by kernel_rfl) (hval 1 28 v1 rfl rfl) h1
  obtain ⟨c1_0, cs1, rfl, ⟨nss1_0, s1_0⟩, k1_1⟩ := cells_cons k1_0
  obtain ⟨c1_1, cs1, rfl, ⟨x1_1, rfl⟩, k1_2⟩ := cells_cons k1_1
  obtain rfl := cells_nil k1_2
  obtain ⟨x2, rfl, rfl, rfl, w2⟩ := open_int Tryz.underlying3 (hval 2 3 v2 rfl rfl) h2
  clear hA0 hval0 hval hA
  simp only [List.append_nil, List.nil_append] at hW'
  have hC : Con Tryz.prog 4 [.a [.s 0 0 nss0_0.length 3, .s 1 0 nss0_1.length 3], .a [.s 2 0 nss1_0.length 1, iv x1_1], iv x2] [.live false true ((nss0_0.flatten).map iv), .live false true ((nss0_1.flatten).map iv), .live false true ((nss1_0.flatten).map iv)] (.v (.bool true)) [] := by
    have h := C4 ((nss0_0.map holdScales_mk30), (nss0_1.map holdScales_mk94)) ((nss1_0.map holdScales_mk3), x1_1) x2 (by rw [List.length_map]; exact s0_0.2.1) (by rw [List.length_map]; exact s0_1.2.1) (by rw [List.length_map]; exact s1_0.2.1)
    dsimp only at h
    rw [law_scales, flat_mk holdScales_mkc30 s0_0.1, flat_mk holdScales_mkc94 s0_1.1, flat_mk holdScales_mkc3 s1_0.1] at h
    simp only [List.length_map] at h
    exact h
  refine (law_callsN (vs := [.agg [c0_0, c0_1].toArray, .agg [c1_0, .int .i64 x1_1].toArray, .int .i64 x2]) [(3, c0_0, nss0_0), (3, c0_1, nss0_1), (1, c1_0, nss1_0)] hC (by simp only [List.mem_cons, List.not_mem_nil, or_false]; rintro y (rfl | rfl | rfl) <;> assumption) ⟨⟨_, rfl, ⟨slice_rel s0_0 rfl, slice_rel s0_1 rfl, trivial⟩⟩, ⟨_, rfl, ⟨slice_rel s1_0 rfl, rfl, trivial⟩⟩, rfl, trivial⟩).mono fun e W' ⟨he, hb⟩ => ?_
  subst he
  have hargs2 := (all_mk (Below.trod laidOut (by kernel_rfl) (of_decide_eq_true (by kernel_rfl)) h0 hb b0) (all_mk (Below.trod laidOut (by kernel_rfl) (of_decide_eq_true (by kernel_rfl)) h1 hb b1) (all_mk (Below.trod laidOut (by kernel_rfl) (of_decide_eq_true (by kernel_rfl)) h2 hb (fun x hx => by cases hx)) trodAll_mk0)))
  simp only [List.append_nil, List.nil_append] at hargs2
  exact ⟨_, rfl, post_below hW' hb (fun _ _ _ => (all_mk (shut_bool Tryz.underlying4 _) trodAll_mk0)) hargs2 rfl⟩
theorem holdScales_over : Rows.holdScalesRow.holds Tryz.pinned (OpenSpec.ofChange Rows.holdScalesSpec) :=
  OpenClaim.holds_of_wide 4 Tryz.f4 rfl rfl rfl rfl rfl rfl rfl ⟨rfl, rfl, rfl, rfl, rfl⟩ rfl rfl rfl rfl rfl (by kernel_rfl) Tryz.func4 (by kernel_rfl)
    (of_decide_eq_true (by kernel_rfl)) (by unfold Func.isWrapper; first | (rw [if_pos (by decide +kernel)]; kernel_rfl) | (rw [if_neg (by decide +kernel)]; exact ⟨rfl, rfl⟩))
    (fun os started H enc _ => holdScales_lifted os started H enc)
/-- THE STATEMENT -/
theorem holdScales_proved : Rows.HoldScalesSaid :=
  holdScales_over

end Go.Proofs.YtaeagjnpobdglaaGreat
