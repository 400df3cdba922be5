/-
  TopSpans: for every three spans the law returns true, and its arguments read behind the call as they read before. No condition.
-/
import Derived.Test.YtidhogejnafhaaaVPts3
import Derived.ProofKit
namespace Go.Proofs.Ytidhogejnafhaaa
open Go.Proofs Go.Aw Go.RowKit
set_option maxRecDepth 100000
set_option linter.unusedVariables false
set_option linter.unusedSimpArgs false

section
variable (a b c : Int × Int)
theorem ts31 : S3_j31 a b c () = true := by
  simp only [S3_j31]
  cases h1 : ((F17 a b).2 == 0) with
  | false => rfl
  | true =>
  cases h2 : ((F9 (F17 a b).1 c).2 == 0) with
  | false => rfl
  | true =>
  cases h3 : ((F9 a c).2 == 0) with
  | false => rfl
  | true =>
  rw [cond_true, cond_true, cond_true]
  have e1 := bq h1
  have hH : vs a ∧ (F17 a b).1 = (imn a.1 b.1, imx a.2 b.2) := by
    unfold F17 at e1 ⊢
    cases hc : ((F30_2 (a, b) : Int) != 0) with
    | true => rw [hc, cond_true] at e1; exact absurd e1 (bne_iff_ne.1 hc)
    | false => exact ⟨(chk2 (bne_eq_false_iff_eq.1 hc)).1, rfl⟩
  obtain ⟨va, eH⟩ := hH
  obtain ⟨_, vc, eg, vg⟩ := mul_0 (bq h2)
  obtain ⟨_, _, eo, vo⟩ := mul_0 (bq h3)
  have i1 := imn_le a.1 b.1
  have i2 := imx_ge a.2 b.2
  obtain ⟨w1, w2⟩ := way5 (h := (imn a.1 b.1, imx a.2 b.2)) (a := a) (c := c) i1.1 va.2.1 i2.1
  rw [eH] at eg vg
  rw [eo, eH, eg]
  have hw : F18 (mn4 ml a c, mx4 mh a c) (mn4 ml (imn a.1 b.1, imx a.2 b.2) c, mx4 mh (imn a.1 b.1, imx a.2 b.2) c) = (true, 0) := by
    unfold F18
    rw [chk2_ok vo vg, decide_eq_true (show (mn4 ml a c, mx4 mh a c).1 ≥ (mn4 ml (imn a.1 b.1, imx a.2 b.2) c, mx4 mh (imn a.1 b.1, imx a.2 b.2) c).1 from w1), decide_eq_true (show (mn4 ml a c, mx4 mh a c).2 ≤ (mn4 ml (imn a.1 b.1, imx a.2 b.2) c, mx4 mh (imn a.1 b.1, imx a.2 b.2) c).2 from w2)]; rfl
  rw [hw]; rfl
theorem ts25 : S3_j25 a b c () = true := by
  simp only [S3_j25, ts31]
  generalize hL : ([a, b, c, a] : List (Int × Int)) = L
  have hn : ((L.length : Nat) : Int) = 4 := by rw [← hL]; rfl
  cases h1 : ((F11_L L).2 == 0) with
  | false => rfl
  | true =>
  rw [cond_true]
  have e1 := bq h1
  have hT : (F34_L L).2.2 = 0 ∧ vs ((F34_L L).1, (F34_L L).2.1) ∧ (F11_L L).1 = ((F34_L L).1, (F34_L L).2.1) := by
    unfold F11_L at e1 ⊢
    cases hc : (((F34_L L).2.2 : Int) != 0) with
    | true => rw [hc, cond_true] at e1; exact absurd e1 (bne_iff_ne.1 hc)
    | false =>
      rw [hc, cond_false] at e1
      rw [cond_false]
      obtain ⟨e, hv⟩ := res_0 (lo := (F34_L L).1) (hi := (F34_L L).2.1) e1
      refine ⟨bne_eq_false_iff_eq.1 hc, hv, ?_⟩
      show (F26 (F34_L L).1 (F34_L L).2.1).1 = _
      rw [e]
  obtain ⟨hT0, hv, eS⟩ := hT
  have hm : F15_L L = F26 (F27 (F34_L L).1 4) (F28 (F34_L L).2.1 4) := by
    unfold F15_L
    rw [hT0, hn]; rfl
  have hp : F16 (F11_L L).1 4 = F26 (F27 (F34_L L).1 4) (F28 (F34_L L).2.1 4) := by
    rw [eS]
    unfold F16 F30_1
    rw [vs_val hv]; rfl
  have hr : F26 (F27 (F34_L L).1 4) (F28 (F34_L L).2.1 4) = (((F34_L L).1 / 4, -(-(F34_L L).2.1 / 4)), 0) := by
    unfold vs at hv
    simp only at hv
    rw [dn_f (.inr (.inl rfl)) (by omega), up_f (.inr (.inl rfl)) (by omega), res_f (by omega) (by omega) (by omega)]
  rw [hm, hp, hr]
  simp
theorem ts19 : S3_j19 a b c () = true := by
  simp only [S3_j19, ts25]
  cases h1 : ((F14 a).2 == 0) with
  | false => rfl
  | true =>
  cases h2 : ((F14 b).2 == 0) with
  | false => rfl
  | true =>
  cases h3 : ((F9 a b).2 == 0) with
  | false => rfl
  | true =>
  rw [cond_true, cond_true, cond_true, meets_t]
  · rfl
  intro h4 h5
  obtain ⟨va, a0, vr, r0, r1, r2⟩ := root_0 (bq h1)
  obtain ⟨vb, b0, vu, u0, u1, u2⟩ := root_0 (bq h2)
  obtain ⟨_, _, em, vm⟩ := mul_0 (bq h3)
  obtain ⟨_, _, ev, vv⟩ := mul_0 h4
  obtain ⟨_, _, vw, w0, w1, w2⟩ := root_0 h5
  rw [em] at w0 w1 w2 vw ⊢
  generalize (F14 a).1 = r at *
  generalize (F14 b).1 = u at *
  generalize (F14 (mn4 ml a b, mx4 mh a b)).1 = w at *
  rw [ev]
  have m1 := (mn4_le ml a b).1
  have m2 := (mx4_ge mh a b).1
  have m3 := (mn4_le ml r u).1
  have m4 := (mx4_ge mh r u).2.2.2.1
  have f1 := fl_le (a.1 * b.1)
  have f2 := le_ce (a.1 * b.1)
  have f3 := fl_le (r.1 * u.1)
  have f4 := le_ce (r.2 * u.2)
  unfold ml at m1 m3
  unfold mh at m2 m4
  have qa := va.2.1
  have qb := vb.2.1
  have qr := vr.2.1
  have qu := vu.2.1
  have qw := vw.2.1
  refine ⟨vv, vw, ?_, ?_⟩
  · exact way3a (x := a.1) (y := b.1) (m := mx4 mh a b) r0 u0 a0 r1 u1 (by simp only; unfold ml; omega) (by unfold mh; omega) (by omega) w2
  · exact way3b (x := a.1) (y := b.1) (m := mn4 ml a b) (a2 := 0) (b2 := 0) (r := r.2) (u := u.2) (by omega) (by omega) a0 b0 (by omega) (by omega) (by simp only; unfold mh; omega) (by unfold ml; omega) w1
theorem ts13 : S3_j13 a b c () = true := by
  simp only [S3_j13, ts19]
  cases h1 : ((F13 (1048576, 1048576) c).2 == 0) with
  | false => rfl
  | true =>
  rw [cond_true, meets_t]
  · rfl
  intro h2 h3
  obtain ⟨_, vc, n1, _, ei, vi⟩ := div_0 (bq h1)
  obtain ⟨va, _, _, _, ed, vd⟩ := div_0 h2
  obtain ⟨_, _, en, vn⟩ := mul_0 h3
  rw [ei] at en vn
  rw [ed, ei, en]
  refine ⟨vd, vn, ?_⟩
  have va' := va
  unfold vs at va'
  have hb : b60 (a.1 * 1048576) := by unfold b60; omega
  have hk : b60 ((1048576 : Int) * 1048576) := by unfold b60; omega
  have d1 := dn_spec hb n1
  have d2 := up_spec hb n1
  have d3 := dn_spec hk n1
  have d4 := up_spec hk n1
  have m1 := (mn4_le F71 a c).1
  have m2 := (mx4_ge F72 a c).1
  have m3 := (mn4_le F71 (1048576, 1048576) c).1
  have m4 := (mx4_ge F72 (1048576, 1048576) c).1
  have w1 : W (a.1 * 1048576) = a.1 * 1048576 := by unfold b60 at hb; exact W_eq (by omega) (by omega)
  have q1 : mn4 F71 a c ≤ F27 (a.1 * 1048576) c.1 := by rw [← w1]; exact m1
  have q2 : F28 (a.1 * 1048576) c.1 ≤ mx4 F72 a c := by rw [← w1]; exact m2
  have w2 : W ((1048576 : Int) * 1048576) = 1048576 * 1048576 := W_eq (by omega) (by omega)
  have q3 : mn4 F71 (1048576, 1048576) c ≤ F27 (1048576 * 1048576) c.1 := by rw [← w2]; exact m3
  have q4 : F28 (1048576 * 1048576) c.1 ≤ mx4 F72 (1048576, 1048576) c := by rw [← w2]; exact m4
  have hs := sq_pos n1
  have up : ∀ {p q : Int}, p ≤ q → p * c.1 * c.1 ≤ q * c.1 * c.1 := fun {p q} h => by
    have := Int.mul_le_mul_of_nonneg_right h (Int.le_of_lt hs)
    rw [Int.mul_assoc, Int.mul_assoc]; exact this
  have z1 := up q1
  have z2 := up q2
  have z3 := up q3
  have z4 := up q4
  generalize mn4 F71 (1048576, 1048576) c = i1 at *
  generalize mx4 F72 (1048576, 1048576) c = i2 at *
  have k1 := mn4_le ml a (i1, i2)
  have k2 := mx4_ge mh a (i1, i2)
  have f1 := fl_le (a.1 * i1)
  have f2 := fl_le (a.1 * i2)
  have f3 := le_ce (a.1 * i1)
  have f4 := le_ce (a.1 * i2)
  unfold ml at k1
  unfold mh at k2
  have := way2 (x := a.1) (n1 := mn4 ml a (i1, i2)) (n2 := mx4 mh a (i1, i2)) n1 (Int.le_trans z1 d1.1) (Int.le_trans d2.1 z2) (Int.le_trans z3 d3.1) (Int.le_trans d4.1 z4)
    ⟨by unfold ml; simp only at k1; omega, by unfold ml; simp only at k1; omega⟩ ⟨by unfold mh; simp only at k2; omega, by unfold mh; simp only at k2; omega⟩
  exact this
theorem law_spans : F3 a b c = true := by
  unfold F3
  simp only [S3_j3, ts13]
  have e0 : F6 1 3 = ((349525, 349526), 0) := by kernel_rfl
  rw [e0]
  simp only [bne_self_eq_false, cond_false]
  cases h1 : ((F7 a b).2 == 0) with
  | false => rfl
  | true =>
  cases h2 : ((F8 a).2 == 0) with
  | false => rfl
  | true =>
  cases h3 : ((F8 b).2 == 0) with
  | false => rfl
  | true =>
  cases h4 : ((F9 a b).2 == 0) with
  | false => rfl
  | true =>
  cases h5 : ((F10 (F9 a b).1 2).2 == 0) with
  | false => rfl
  | true =>
  rw [cond_true, cond_true, cond_true, cond_true, cond_true, meets_t]
  · rfl
  intro g1 g2
  obtain ⟨va, vb, es, vS⟩ := add_0 (bq h1)
  obtain ⟨_, ep, vp'⟩ := sq_0 (bq h2)
  obtain ⟨_, eq, vq⟩ := sq_0 (bq h3)
  obtain ⟨_, _, em, vm⟩ := mul_0 (bq h4)
  obtain ⟨et, vt'⟩ := two_0 (by rw [em]; exact vm) (bq h5)
  rw [es] at g1 ⊢
  obtain ⟨_, ex, vx⟩ := sq_0 g1
  rw [em] at et vt' g2 ⊢
  rw [ep, eq, et] at g2 ⊢
  have hS := Sum_f (l := [(fl (nearS a * nearS a), ce (farS a * farS a)), ((mn4 ml a b, mx4 mh a b).1 * 2, (mn4 ml a b, mx4 mh a b).2 * 2), (fl (nearS b * nearS b), ce (farS b * farS b))]) (fun y hy => by
    simp only [List.mem_cons, List.not_mem_nil, or_false] at hy
    rcases hy with rfl | rfl | rfl
    · exact vp'
    · exact vt'
    · exact vq) (by simp)
  rw [hS] at g2 ⊢
  obtain ⟨e9, v9⟩ := sumV_0 g2
  rw [e9, ex]
  have w := way1 va.2.1 vb.2.1
  refine ⟨vx, v9, ?_, ?_⟩
  · simp only [sums]; omega
  · simp only [sums]; omega
end

open Go.ChangeShapes Go.WideShapes Go.ChangeAt
theorem topSpans_len2 {l : List Int} (h : l.length = 2) : ∃ a0 a1, l = [a0, a1] := by
  match l, h with
  | [a0, a1], _ => exact ⟨a0, a1, rfl⟩
set_option maxRecDepth 100000 in
theorem topSpans_lifted (os : Os) (started : os.Started) (H : Type) (enc : TypeId × Value → H) :
    ReturnsInHanded {} Try.checked os 3 .any (Rows.topSpansSpec.pre6 enc Try.prog Try.f3 Rows.topSpansRow.domain false) (Rows.topSpansSpec.post enc Try.prog Try.f3 false true false false) := by
  refine returnsInHanded_of_change (C := Try.checked) own started (by kernel_rfl) Try.func3
    (ChangeSpec.witness6 (enc := enc) (C := Try.checked) false ⟨#[], #[.agg #[.int .i64 0, .int .i64 0], .agg #[.int .i64 0, .int .i64 0], .agg #[.int .i64 0, .int .i64 0]], []⟩ 8 (by kernel_rfl) (by kernel_rfl) (by kernel_rfl) (by kernel_rfl)) ?_
  intro W base args ds gs before hval0 hW hcnd _
  have hval : ∀ (j : Nat) t v, Try.f3.params[j]? = some t → args[j]? = some v → Value.okWide Try.prog W .any base t v := hval0
  have hW' := hW
  obtain ⟨p, q, hA0, hV, rfl, hfz, hnd⟩ := hW
  have hA : DataW.TrodAll enc Try.prog W 0 (fun _ => true) true Try.f3.params.toList args.toList ds p := hA0
  rw [Try.params3] at hA hval
  obtain ⟨v0, vs0, d0, ds0, p0, q0, hargs, rfl, rfl, h0, r0⟩ := trodAll_cons hA
  obtain ⟨v1, vs1, d1, ds1, p1, q1, rfl, rfl, rfl, h1, r1⟩ := trodAll_cons r0
  obtain ⟨v2, vs2, d2, ds2, p2, q2, rfl, rfl, rfl, h2, r2⟩ := trodAll_cons r1
  obtain ⟨rfl, rfl, rfl⟩ := trodAll_nil r2
  obtain rfl : args = #[v0, v1, v2] := by cases args; simp_all
  obtain ⟨rfl, rfl⟩ := trodVars_none hV
  obtain ⟨rfl, ns0, rfl, l0⟩ := open_flat Try.underlying23 (by kernel_rfl) (hval 0 23 v0 rfl rfl) h0
  rw [show Try.prog.cellsOf 23 = 2 from by kernel_rfl] at l0
  obtain ⟨x0_0, x0_1, rfl⟩ := topSpans_len2 l0
  obtain ⟨rfl, ns1, rfl, l1⟩ := open_flat Try.underlying23 (by kernel_rfl) (hval 1 23 v1 rfl rfl) h1
  rw [show Try.prog.cellsOf 23 = 2 from by kernel_rfl] at l1
  obtain ⟨x1_0, x1_1, rfl⟩ := topSpans_len2 l1
  obtain ⟨rfl, ns2, rfl, l2⟩ := open_flat Try.underlying23 (by kernel_rfl) (hval 2 23 v2 rfl rfl) h2
  rw [show Try.prog.cellsOf 23 = 2 from by kernel_rfl] at l2
  obtain ⟨x2_0, x2_1, rfl⟩ := topSpans_len2 l2
  clear hA0 hval0 hval hA
  simp only [List.append_nil, List.nil_append] at hW'
  have hC : Con Try.prog 3 [.a ([x0_0, x0_1].map iv), .a ([x1_0, x1_1].map iv), .a ([x2_0, x2_1].map iv)] [] (.v (.bool true)) [] := by
    have h := C3 (x0_0, x0_1) (x1_0, x1_1) (x2_0, x2_1)
    rw [law_spans] at h
    exact h
  refine (law_calls (vs := [.agg ([x0_0, x0_1].map (Value.int .i64)).toArray, .agg ([x1_0, x1_1].map (Value.int .i64)).toArray, .agg ([x2_0, x2_1].map (Value.int .i64)).toArray]) hC ⟨rel_agg [x0_0, x0_1], rel_agg [x1_0, x1_1], rel_agg [x2_0, x2_1], trivial⟩ W).mono fun e W' ⟨he, hb⟩ => ?_
  subst he
  exact ⟨_, rfl, post_below (before := []) hW' hb (fun _ _ _ => (all_mk (shut_bool Try.underlying4 _) trodAll_mk0)) (all_mk (Below.trod laidOut (by kernel_rfl) (of_decide_eq_true (by kernel_rfl)) h0 hb (fun x hx => by cases hx)) (all_mk (Below.trod laidOut (by kernel_rfl) (of_decide_eq_true (by kernel_rfl)) h1 hb (fun x hx => by cases hx)) (all_mk (Below.trod laidOut (by kernel_rfl) (of_decide_eq_true (by kernel_rfl)) h2 hb (fun x hx => by cases hx)) trodAll_mk0))) rfl⟩
theorem topSpans_over : Rows.topSpansRow.holds Try.pinned (OpenSpec.ofChange Rows.topSpansSpec) :=
  OpenClaim.holds_of_wide 3 Try.f3 rfl rfl rfl rfl rfl rfl rfl ⟨rfl, rfl, rfl, rfl, rfl⟩ rfl rfl rfl rfl rfl (by kernel_rfl) Try.func3 (by kernel_rfl)
    (of_decide_eq_true (by kernel_rfl)) (by unfold Func.isWrapper; first | (rw [if_pos (by decide +kernel)]; kernel_rfl) | (rw [if_neg (by decide +kernel)]; exact ⟨rfl, rfl⟩))
    (fun os started H enc _ => topSpans_lifted os started H enc)
/-- THE STATEMENT -/
theorem topSpans_proved : Rows.TopSpansSaid :=
  topSpans_over

end Go.Proofs.Ytidhogejnafhaaa
