/-
  HoldMeets: for every mesh and every two lists of charges with depths the law returns true, and its arguments read behind the call as they read before. No condition.
-/
import Derived.Test.YtaeagjnpobdglaaVPme6
import Derived.ProofKit
namespace Go.Proofs.Ytaeagjnpobdglaa
open Go.Proofs Go.Aw Go.RowKit
set_option maxRecDepth 100000
set_option linter.unusedVariables false
set_option linter.unusedSimpArgs false

theorem law_meets (m : ME) (a b : List Int × Int) : F3 m a b = true := by
  unfold F3
  simp only [S3_j2, S3_j6, sane_h]
  cases h1 : ((F8_L (m.1, m.2) a.1 a.2).2 : Int) != 0 with
  | true => simp
  | false =>
    cases h2 : ((F8_L (m.1, m.2) b.1 b.2).2 : Int) != 0 with
    | true => simp
    | false =>
      have g1 := bne_eq_false_iff_eq.1 h1
      have g2 := bne_eq_false_iff_eq.1 h2
      have b1 := bnd_ball (c := (3, -2, 0)) g1 (by unfold bd; decide)
      have b2 := bnd_ball (c := (3, -2, 0)) g2 (by unfold bd; decide)
      rw [meet_m (bnd_vs g1) (bnd_vs g2) (bnd_meet g1 g2) (bnd_meet g2 g1), b1.1, decide_eq_true b1.2, decide_eq_true b2.2]
      simp

open Go.ChangeShapes Go.WideShapes Go.ChangeAt
theorem holdMeets_len1 {l : List Int} (h : l.length = 1) : ∃ a0, l = [a0] := by
  match l, h with
  | [a0], _ => exact ⟨a0, rfl⟩
theorem holdMeets_len3 {l : List Int} (h : l.length = 3) : ∃ a0 a1 a2, l = [a0, a1, a2] := by
  match l, h with
  | [a0, a1, a2], _ => exact ⟨a0, a1, a2, rfl⟩
def holdMeets_mk3 (ns : List Int) : Int := (ns.getD 0 0)
theorem holdMeets_mkc3 (ns : List Int) (h : ns.length = 1) : c3 (holdMeets_mk3 ns) = ns.map iv := by
  obtain ⟨a0, rfl⟩ := holdMeets_len1 h
  rfl
def holdMeets_mk39 (ns : List Int) : Int × Int × Int := ((ns.getD 0 0), (ns.getD 1 0), (ns.getD 2 0))
theorem holdMeets_mkc39 (ns : List Int) (h : ns.length = 3) : c39 (holdMeets_mk39 ns) = ns.map iv := by
  obtain ⟨a0, a1, a2, rfl⟩ := holdMeets_len3 h
  rfl
def holdMeets_mk84 (ns : List Int) : Int × Int × Int := ((ns.getD 0 0), (ns.getD 1 0), (ns.getD 2 0))
theorem holdMeets_mkc84 (ns : List Int) (h : ns.length = 3) : c84 (holdMeets_mk84 ns) = ns.map iv := by
  obtain ⟨a0, a1, a2, rfl⟩ := holdMeets_len3 h
  rfl
set_option maxRecDepth 100000 in
theorem holdMeets_lifted (os : Os) (started : os.Started) (H : Type) (enc : TypeId × Value → H) :
    ReturnsInHanded {} Try.checked os 3 .any (Rows.holdMeetsSpec.pre6 enc Try.prog Try.f3 Rows.holdMeetsRow.domain false) (Rows.holdMeetsSpec.post enc Try.prog Try.f3 false true false false) := by
  refine returnsInHanded_of_change (C := Try.checked) own started (by kernel_rfl) Try.func3
    (ChangeSpec.witness6 (enc := enc) (C := Try.checked) false ⟨#[], #[.agg #[.slice none 0 0, .slice none 0 0], .agg #[.slice none 0 0, .int .i64 0], .agg #[.slice none 0 0, .int .i64 0]], []⟩ 8 (by kernel_rfl) (by kernel_rfl) (by kernel_rfl) (by kernel_rfl)) ?_
  intro W base args ds gs before hval0 hW hcnd _
  have hval : ∀ (j : Nat) t v, Try.f3.params[j]? = some t → args[j]? = some v → Value.okWide Try.prog W .any base t v := hval0
  have hW' := hW
  obtain ⟨p, q, hA0, hV, rfl, hfz, hnd⟩ := hW
  have hA : DataW.TrodAll enc Try.prog W 0 (fun _ => true) true Try.f3.params.toList args.toList ds p := hA0
  rw [Try.params3] at hA hval
  obtain ⟨v0, vs0, d0, ds0, p0, q0, hargs, rfl, rfl, h0, r0⟩ := trodAll_cons hA
  obtain ⟨v1, vs1, d1, ds1, p1, q1, rfl, rfl, rfl, h1, r1⟩ := trodAll_cons r0
  obtain ⟨v2, vs2, d2, ds2, p2, q2, rfl, rfl, rfl, h2, r2⟩ := trodAll_cons r1
  obtain ⟨rfl, rfl, rfl⟩ := trodAll_nil r2
  obtain rfl : args = #[v0, v1, v2] := by cases args; simp_all
  obtain ⟨rfl, rfl⟩ := trodVars_none hV
  obtain ⟨⟨cs0, rfl, k0_0⟩, b0⟩ := open_kinds [.s 3, .s 3] Try.underlying25 (by kernel_rfl) (hval 0 25 v0 rfl rfl) h0
  obtain ⟨c0_0, cs0, rfl, ⟨nss0_0, s0_0⟩, k0_1⟩ := cells_cons k0_0
  obtain ⟨c0_1, cs0, rfl, ⟨nss0_1, s0_1⟩, k0_2⟩ := cells_cons k0_1
  obtain rfl := cells_nil k0_2
  obtain ⟨⟨cs1, rfl, k1_0⟩, b1⟩ := open_kinds [.s 1, .i] Try.underlying28 (by kernel_rfl) (hval 1 28 v1 rfl rfl) h1
  obtain ⟨c1_0, cs1, rfl, ⟨nss1_0, s1_0⟩, k1_1⟩ := cells_cons k1_0
  obtain ⟨c1_1, cs1, rfl, ⟨x1_1, rfl⟩, k1_2⟩ := cells_cons k1_1
  obtain rfl := cells_nil k1_2
  obtain ⟨⟨cs2, rfl, k2_0⟩, b2⟩ := open_kinds [.s 1, .i] Try.underlying28 (by kernel_rfl) (hval 2 28 v2 rfl rfl) h2
  obtain ⟨c2_0, cs2, rfl, ⟨nss2_0, s2_0⟩, k2_1⟩ := cells_cons k2_0
  obtain ⟨c2_1, cs2, rfl, ⟨x2_1, rfl⟩, k2_2⟩ := cells_cons k2_1
  obtain rfl := cells_nil k2_2
  clear hA0 hval0 hval hA
  simp only [List.append_nil, List.nil_append] at hW'
  have hC : Con Try.prog 3 [.a [.s 0 0 nss0_0.length 3, .s 1 0 nss0_1.length 3], .a [.s 2 0 nss1_0.length 1, iv x1_1], .a [.s 3 0 nss2_0.length 1, iv x2_1]] [.live false true ((nss0_0.flatten).map iv), .live false true ((nss0_1.flatten).map iv), .live false true ((nss1_0.flatten).map iv), .live false true ((nss2_0.flatten).map iv)] (.v (.bool true)) [] := by
    have h := C3 ((nss0_0.map holdMeets_mk39), (nss0_1.map holdMeets_mk84)) ((nss1_0.map holdMeets_mk3), x1_1) ((nss2_0.map holdMeets_mk3), x2_1) (by rw [List.length_map]; exact s0_0.2.1) (by rw [List.length_map]; exact s0_1.2.1) (by rw [List.length_map]; exact s1_0.2.1) (by rw [List.length_map]; exact s2_0.2.1)
    dsimp only at h
    rw [law_meets, flat_mk holdMeets_mkc39 s0_0.1, flat_mk holdMeets_mkc84 s0_1.1, flat_mk holdMeets_mkc3 s1_0.1, flat_mk holdMeets_mkc3 s2_0.1] at h
    simp only [List.length_map] at h
    exact h
  refine (law_callsN (vs := [.agg [c0_0, c0_1].toArray, .agg [c1_0, .int .i64 x1_1].toArray, .agg [c2_0, .int .i64 x2_1].toArray]) [(3, c0_0, nss0_0), (3, c0_1, nss0_1), (1, c1_0, nss1_0), (1, c2_0, nss2_0)] hC (by simp only [List.mem_cons, List.not_mem_nil, or_false]; rintro y (rfl | rfl | rfl | rfl) <;> assumption) ⟨⟨_, rfl, ⟨slice_rel s0_0 rfl, slice_rel s0_1 rfl, trivial⟩⟩, ⟨_, rfl, ⟨slice_rel s1_0 rfl, rfl, trivial⟩⟩, ⟨_, rfl, ⟨slice_rel s2_0 rfl, rfl, trivial⟩⟩, trivial⟩).mono fun e W' ⟨he, hb⟩ => ?_
  subst he
  have hargs2 := (all_mk (Below.trod laidOut (by kernel_rfl) (of_decide_eq_true (by kernel_rfl)) h0 hb b0) (all_mk (Below.trod laidOut (by kernel_rfl) (of_decide_eq_true (by kernel_rfl)) h1 hb b1) (all_mk (Below.trod laidOut (by kernel_rfl) (of_decide_eq_true (by kernel_rfl)) h2 hb b2) trodAll_mk0)))
  simp only [List.append_nil, List.nil_append] at hargs2
  exact ⟨_, rfl, post_below hW' hb (fun _ _ _ => (all_mk (shut_bool Try.underlying4 _) trodAll_mk0)) hargs2 rfl⟩
theorem holdMeets_over : Rows.holdMeetsRow.holds Try.pinned (OpenSpec.ofChange Rows.holdMeetsSpec) :=
  OpenClaim.holds_of_wide 3 Try.f3 rfl rfl rfl rfl rfl rfl rfl ⟨rfl, rfl, rfl, rfl, rfl⟩ rfl rfl rfl rfl rfl (by kernel_rfl) Try.func3 (by kernel_rfl)
    (of_decide_eq_true (by kernel_rfl)) (by unfold Func.isWrapper; first | (rw [if_pos (by decide +kernel)]; kernel_rfl) | (rw [if_neg (by decide +kernel)]; exact ⟨rfl, rfl⟩))
    (fun os started H enc _ => holdMeets_lifted os started H enc)
/-- THE STATEMENT -/
theorem holdMeets_proved : Rows.HoldMeetsSaid :=
  holdMeets_over

end Go.Proofs.Ytaeagjnpobdglaa
