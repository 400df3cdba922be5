/-
  HoldMoves: for every mesh, list of charges, depth and vector the law returns true, and its arguments read behind the call as they read before. No condition.
-/
import Derived.Test.YtaeagjnpobdglaaGreatVPmv7
import Derived.ProofKit
namespace Go.Proofs.YtaeagjnpobdglaaGreat
open Go.Proofs Go.Aw Go.RowKit
set_option maxRecDepth 100000
set_option linter.unusedVariables false
set_option linter.unusedSimpArgs false

theorem getD_mapr (f : P3 → P3) (l : List P3) {i : Nat} (h : i < l.length) : (l.map f).getD i default = f (l.getD i default) := by
  rw [List.getD_eq_getElem?_getD, List.getD_eq_getElem?_getD, List.getElem?_map, List.getElem?_eq_getElem h]; rfl
theorem rng_128 {v : P3} (h : (!F36 v 128) = false) : bd 128 v := by
  unfold F36 F43 at h
  rw [show W (0 - 128) = -128 from rfl] at h
  unfold bd
  by_cases a1 : v.1 ≥ -128 <;> by_cases a2 : v.1 ≤ 128 <;> by_cases a3 : v.2.1 ≥ -128 <;> by_cases a4 : v.2.1 ≤ 128 <;> by_cases a5 : v.2.2 ≥ -128 <;> by_cases a6 : v.2.2 ≤ 128 <;> simp [a1, a2, a3, a4, a5, a6] at h
  omega
theorem move_ok {m : ME} {v : P3} (hv : F35 m = 0) (h : (F12 m v).2 = 0) : F35 (F12 m v).1 = 0 ∧ pans (F12 m v).1 = (pans m).map (fP (mvF v) 1) ∧ (F12 m v).1.2.length = m.2.length := by
  unfold F12 at h ⊢
  rw [show ((F35 (m.1, m.2) : Int) != 0) = false from bne_eq_false_iff_eq.2 hv, cond_false] at h ⊢
  cases hr : (!F36 v 128) with
  | true => rw [hr, cond_true] at h; exact absurd h (by decide)
  | false =>
    rw [hr, cond_false] at h
    rw [cond_false]
    have hb := rng_128 hr
    rw [chg_move] at h ⊢
    simp only at h
    obtain ⟨c1, c2⟩ := chgV_ok h
    have e : m.1.map (fun p => F38 p v) = m.1.map (mvF v 1) := List.map_congr_left fun p hp => by
      have := pts_all hv p hp
      unfold bd at this hb
      unfold F38 F39 mvF
      simp only [Int.one_mul]
      rw [W_eq (n := v.1) (by omega) (by omega), W_eq (n := v.2.1) (by omega) (by omega), W_eq (n := v.2.2) (by omega) (by omega), W_eq (n := p.1 + v.1) (by omega) (by omega), W_eq (n := p.2.1 + v.2.1) (by omega) (by omega), W_eq (n := p.2.2 + v.2.2) (by omega) (by omega)]
    have e2 : (((chgV (fun p => F38 p v) (m.1, m.2).2 (m.1, m.2)).1.1, (chgV (fun p => F38 p v) (m.1, m.2).2 (m.1, m.2)).1.2) : ME) = (m.1.map (mvF v 1), m.2) := by
      show (chgV (fun p => F38 p v) (m.1, m.2).2 (m.1, m.2)).1 = _
      rw [c1]
      exact Prod.ext e rfl
    simp only [e2]
    refine ⟨?_, ?_, by rw [c1]⟩
    · rw [← e]; exact c2
    · unfold pans
      rw [List.map_map]
      refine List.map_congr_left fun c hc => ?_
      obtain ⟨i, hi⟩ := List.getElem?_of_mem hc
      have hi : m.2[i]? = some c := hi
      obtain ⟨hlt, _⟩ := List.getElem?_eq_some_iff.1 hi
      obtain ⟨h64, _, _, _, hf⟩ := val_parts hv
      have hfc := hf (i : Int) (by omega) (by omega)
      rw [getD_of hi] at hfc
      obtain ⟨⟨a1, a2⟩, ⟨b1, b2⟩, ⟨d1, d2⟩⟩ : inF m.1.length c := face_in (m := m) (by rw [hfc]; rfl) h64
      unfold F101
      simp only [Function.comp]
      rw [getD_mapr _ _ (by omega), getD_mapr _ _ (by omega), getD_mapr _ _ (by omega)]
      rfl
theorem law_moves (m : ME) (t : List Int × Int) (v : P3) : F3 m t v = true := by
  unfold F3
  simp only [S3_j2, S3_j10, S3_j14, sane_h]
  cases h1 : ((F11_L (m.1, m.2) t.1 t.2).2 : Int) != 0 with
  | true => simp
  | false =>
    have g1 : (F11_L m t.1 t.2).2 = 0 := bne_eq_false_iff_eq.1 h1
    obtain ⟨hC, _⟩ := bnd_facts g1
    have hv := hC.v
    have eT : F13 (m.1, m.2) = ((m.1.map (tnF 1), m.2), 0) := turn_ok hv
    have eR : F14 (m.1, m.2) = ((m.1.map (mrF 1), m.2.map swp), 0) := mirror_ok hv
    have vT := img_val tn_img hv
    have pT := img_pans tn_img m
    rw [List.map_id] at vT pT
    have t1 := chg_meet (m' := (m.1.map (tnF 1), m.2)) (keep_iso tn_iso) pT vT rfl g1
    have t2 := chg_meet (m' := (m.1.map (mrF 1), m.2.map swp)) keep_mr (img_pans mr_img m) (img_val mr_img hv) (List.length_map _) g1
    rw [eT, eR]
    simp only
    rw [t1.1, t2.1, show F15 (F11_L (m.1, m.2) t.1 t.2).1 (F11_L (m.1.map (tnF 1), m.2) t.1 t.2).1 = true from t1.2, show F15 (F11_L (m.1, m.2) t.1 t.2).1 (F11_L (m.1.map (mrF 1), m.2.map swp) t.1 t.2).1 = true from t2.2]
    cases h2 : ((F12 (m.1, m.2) v).2 : Int) != 0 with
    | true => simp
    | false =>
      have g2 : (F12 m v).2 = 0 := bne_eq_false_iff_eq.1 h2
      obtain ⟨v3, p3, l3⟩ := move_ok hv g2
      have t3 := chg_meet (m' := (F12 m v).1) (keep_iso (mv_iso v)) p3 v3 l3 g1
      rw [show (F11_L ((F12 (m.1, m.2) v).1.1, (F12 (m.1, m.2) v).1.2) t.1 t.2).2 = 0 from t3.1, show F15 (F11_L (m.1, m.2) t.1 t.2).1 (F11_L ((F12 (m.1, m.2) v).1.1, (F12 (m.1, m.2) v).1.2) t.1 t.2).1 = true from t3.2]
      simp

open Go.ChangeShapes Go.WideShapes Go.ChangeAt
theorem holdMoves_len1 {l : List Int} (h : l.length = 1) : ∃ a0, l = [a0] := by
  match l, h with
  | [a0], _ => exact ⟨a0, rfl⟩
theorem holdMoves_len3 {l : List Int} (h : l.length = 3) : ∃ a0 a1 a2, l = [a0, a1, a2] := by
  match l, h with
  | [a0, a1, a2], _ => exact ⟨a0, a1, a2, rfl⟩
def holdMoves_mk3 (ns : List Int) : Int := (ns.getD 0 0)
theorem holdMoves_mkc3 (ns : List Int) (h : ns.length = 1) : c3 (holdMoves_mk3 ns) = ns.map iv := by
  obtain ⟨a0, rfl⟩ := holdMoves_len1 h
  rfl
def holdMoves_mk30 (ns : List Int) : Int × Int × Int := ((ns.getD 0 0), (ns.getD 1 0), (ns.getD 2 0))
theorem holdMoves_mkc30 (ns : List Int) (h : ns.length = 3) : c30 (holdMoves_mk30 ns) = ns.map iv := by
  obtain ⟨a0, a1, a2, rfl⟩ := holdMoves_len3 h
  rfl
def holdMoves_mk94 (ns : List Int) : Int × Int × Int := ((ns.getD 0 0), (ns.getD 1 0), (ns.getD 2 0))
theorem holdMoves_mkc94 (ns : List Int) (h : ns.length = 3) : c94 (holdMoves_mk94 ns) = ns.map iv := by
  obtain ⟨a0, a1, a2, rfl⟩ := holdMoves_len3 h
  rfl
set_option maxRecDepth 100000 in
theorem holdMoves_lifted (os : Os) (started : os.Started) (H : Type) (enc : TypeId × Value → H) :
    ReturnsInHanded {} Tryz.checked os 3 .any (Rows.holdMovesSpec.pre6 enc Tryz.prog Tryz.f3 Rows.holdMovesRow.domain false) (Rows.holdMovesSpec.post enc Tryz.prog Tryz.f3 false true false false) := by
  refine returnsInHanded_of_change (C := Tryz.checked) own started (by kernel_rfl) Tryz.func3
    (ChangeSpec.witness6 (enc := enc) (C := Tryz.checked) false ⟨#[], #[.agg #[.slice none 0 0, .slice none 0 0], .agg #[.slice none 0 0, .int .i64 0], .agg #[.int .i64 0, .int .i64 0, .int .i64 0]], []⟩ 8 (by kernel_rfl) (by kernel_rfl) (by kernel_rfl) (by kernel_rfl)) ?_
  intro W base args ds gs before hval0 hW hcnd _
  have hval : ∀ (j : Nat) t v, Tryz.f3.params[j]? = some t → args[j]? = some v → Value.okWide Tryz.prog W .any base t v := hval0
  have hW' := hW
  obtain ⟨p, q, hA0, hV, rfl, hfz, hnd⟩ := hW
  have hA : DataW.TrodAll enc Tryz.prog W 0 (fun _ => true) true Tryz.f3.params.toList args.toList ds p := hA0
  rw [Tryz.params3] at hA hval
  obtain ⟨v0, vs0, d0, ds0, p0, q0, hargs, rfl, rfl, h0, r0⟩ := trodAll_cons hA
  obtain ⟨v1, vs1, d1, ds1, p1, q1, rfl, rfl, rfl, h1, r1⟩ := trodAll_cons r0
  obtain ⟨v2, vs2, d2, ds2, p2, q2, rfl, rfl, rfl, h2, r2⟩ := trodAll_cons r1
  obtain ⟨rfl, rfl, rfl⟩ := trodAll_nil r2
  obtain rfl : args = #[v0, v1, v2] := by cases args; simp_all
  obtain ⟨rfl, rfl⟩ := trodVars_none hV
  obtain ⟨⟨cs0, rfl, k0_0⟩, b0⟩ := open_kinds [.s 3, .s 3] Tryz.underlying25 (by kernel_rfl) (hval 0 25 v0 rfl rfl) h0
  obtain ⟨c0_0, cs0, rfl, ⟨nss0_0, s0_0⟩, k0_1⟩ := cells_cons k0_0
  obtain ⟨c0_1, cs0, rfl, ⟨nss0_1, s0_1⟩, k0_2⟩ := cells_cons k0_1
  obtain rfl := cells_nil k0_2
  obtain ⟨⟨cs1, rfl, k1_0⟩, b1⟩ := open_kinds [.s 1, .i] Tryz.underlying28 (by kernel_rfl) (hval 1 28 v1 rfl rfl) h1
  obtain ⟨c1_0, cs1, rfl, ⟨nss1_0, s1_0⟩, k1_1⟩ := cells_cons k1_0
  obtain ⟨c1_1, cs1, rfl, ⟨x1_1, rfl⟩, k1_2⟩ := cells_cons k1_1
  obtain rfl := cells_nil k1_2
  obtain ⟨rfl, ns2, rfl, l2⟩ := open_flat Tryz.underlying30 (by kernel_rfl) (hval 2 30 v2 rfl rfl) h2
  rw [show Tryz.prog.cellsOf 30 = 3 from by kernel_rfl] at l2
  obtain ⟨x2_0, x2_1, x2_2, rfl⟩ := holdMoves_len3 l2
  clear hA0 hval0 hval hA
  simp only [List.append_nil, List.nil_append] at hW'
  have hC : Con Tryz.prog 3 [.a [.s 0 0 nss0_0.length 3, .s 1 0 nss0_1.length 3], .a [.s 2 0 nss1_0.length 1, iv x1_1], .a ([x2_0, x2_1, x2_2].map iv)] [.live false true ((nss0_0.flatten).map iv), .live false true ((nss0_1.flatten).map iv), .live false true ((nss1_0.flatten).map iv)] (.v (.bool true)) [] := by
    have h := C3 ((nss0_0.map holdMoves_mk30), (nss0_1.map holdMoves_mk94)) ((nss1_0.map holdMoves_mk3), x1_1) (x2_0, x2_1, x2_2) (by rw [List.length_map]; exact s0_0.2.1) (by rw [List.length_map]; exact s0_1.2.1) (by rw [List.length_map]; exact s1_0.2.1)
    dsimp only at h
    rw [law_moves, flat_mk holdMoves_mkc30 s0_0.1, flat_mk holdMoves_mkc94 s0_1.1, flat_mk holdMoves_mkc3 s1_0.1] at h
    simp only [List.length_map] at h
    exact h
  refine (law_callsN (vs := [.agg [c0_0, c0_1].toArray, .agg [c1_0, .int .i64 x1_1].toArray, .agg ([x2_0, x2_1, x2_2].map (Value.int .i64)).toArray]) [(3, c0_0, nss0_0), (3, c0_1, nss0_1), (1, c1_0, nss1_0)] hC (by simp only [List.mem_cons, List.not_mem_nil, or_false]; rintro y (rfl | rfl | rfl) <;> assumption) ⟨⟨_, rfl, ⟨slice_rel s0_0 rfl, slice_rel s0_1 rfl, trivial⟩⟩, ⟨_, rfl, ⟨slice_rel s1_0 rfl, rfl, trivial⟩⟩, rel_agg [x2_0, x2_1, x2_2], trivial⟩).mono fun e W' ⟨he, hb⟩ => ?_
  subst he
  have hargs2 := (all_mk (Below.trod laidOut (by kernel_rfl) (of_decide_eq_true (by kernel_rfl)) h0 hb b0) (all_mk (Below.trod laidOut (by kernel_rfl) (of_decide_eq_true (by kernel_rfl)) h1 hb b1) (all_mk (Below.trod laidOut (by kernel_rfl) (of_decide_eq_true (by kernel_rfl)) h2 hb (fun x hx => by cases hx)) trodAll_mk0)))
  simp only [List.append_nil, List.nil_append] at hargs2
  exact ⟨_, rfl, post_below hW' hb (fun _ _ _ => (all_mk (shut_bool Tryz.underlying4 _) trodAll_mk0)) hargs2 rfl⟩
theorem holdMoves_over : Rows.holdMovesRow.holds Tryz.pinned (OpenSpec.ofChange Rows.holdMovesSpec) :=
  OpenClaim.holds_of_wide 3 Tryz.f3 rfl rfl rfl rfl rfl rfl rfl ⟨rfl, rfl, rfl, rfl, rfl⟩ rfl rfl rfl rfl rfl (by kernel_rfl) Tryz.func3 (by kernel_rfl)
    (of_decide_eq_true (by kernel_rfl)) (by unfold Func.isWrapper; first | (rw [if_pos (by decide +kernel)]; kernel_rfl) | (rw [if_neg (by decide +kernel)]; exact ⟨rfl, rfl⟩))
    (fun os started H enc _ => holdMoves_lifted os started H enc)
/-- THE STATEMENT -/
theorem holdMoves_proved : Rows.HoldMovesSaid :=
  holdMoves_over

end Go.Proofs.YtaeagjnpobdglaaGreat
