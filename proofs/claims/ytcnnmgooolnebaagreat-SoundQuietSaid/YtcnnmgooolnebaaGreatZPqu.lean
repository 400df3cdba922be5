/-
  SoundQuiet: for every list of pulses and ear the law returns true, and its arguments read behind the call as they read before. No condition.
-/
import Derived.Test.YtcnnmgooolnebaaGreatVPqu4
import Derived.ProofKit
namespace Go.Proofs.YtcnnmgooolnebaaGreat
open Go.Proofs Go.Aw Go.RowKit
set_option maxRecDepth 100000
set_option linter.unusedVariables false
set_option linter.unusedSimpArgs false

theorem law_quiet (l : List PU) (x : P3 × Int × Int × Int) : F4_L l x = true := by
  have hq := @quiet l x.1 x.2.1 x.2.2.1 x.2.2.2
  unfold F4_L
  rw [sane_t, ← Ticks_eq, ← Order_eq, same_ints]
  simp only [bne_self_eq_false, cond_false, Bool.not_true]
  by_cases h0 : (F7_L l x.1 x.2.1).2.2 = 0
  · rw [h0]
    simp only [bne_self_eq_false, cond_false]
    by_cases h1 : x.2.2.1 ≥ 0
    · by_cases h2 : x.2.2.1 ≤ 2000
      · by_cases h3 : x.2.2.2 ≥ 0
        · by_cases h4 : x.2.2.2 ≤ 3
          · by_cases h5 : x.2.2.1 < (F7_L l x.1 x.2.1).1
            · rw [hq h0 (.inl h5) ⟨h1, h2⟩ ⟨h3, h4⟩]; simp [h1, h2, h3, h4, h5]
            · by_cases h6 : x.2.2.1 > (F7_L l x.1 x.2.1).2.1
              · rw [hq h0 (.inr h6) ⟨h1, h2⟩ ⟨h3, h4⟩]; simp [h1, h2, h3, h4, h5, h6]
              · simp [h1, h2, h3, h4, h5, h6]
          · by_cases h5 : x.2.2.1 < (F7_L l x.1 x.2.1).1 <;> simp [h1, h2, h3, h4, h5]
        · by_cases h5 : x.2.2.1 < (F7_L l x.1 x.2.1).1 <;> simp [h1, h2, h3, h5]
      · by_cases h5 : x.2.2.1 < (F7_L l x.1 x.2.1).1 <;> simp [h1, h2, h5]
    · by_cases h5 : x.2.2.1 < (F7_L l x.1 x.2.1).1 <;> simp [h1, h5]
  · rw [bne_iff_ne.2 h0]; simp

open Go.ChangeShapes Go.WideShapes Go.ChangeAt
theorem soundQuiet_len6 {l : List Int} (h : l.length = 6) : ∃ a0 a1 a2 a3 a4 a5, l = [a0, a1, a2, a3, a4, a5] := by
  match l, h with
  | [a0, a1, a2, a3, a4, a5], _ => exact ⟨a0, a1, a2, a3, a4, a5, rfl⟩
theorem soundQuiet_len11 {l : List Int} (h : l.length = 11) : ∃ a0 a1 a2 a3 a4 a5 a6 a7 a8 a9 a10, l = [a0, a1, a2, a3, a4, a5, a6, a7, a8, a9, a10] := by
  match l, h with
  | [a0, a1, a2, a3, a4, a5, a6, a7, a8, a9, a10], _ => exact ⟨a0, a1, a2, a3, a4, a5, a6, a7, a8, a9, a10, rfl⟩
def soundQuiet_mk63 (ns : List Int) : ((Int × Int × Int) × (Int × Int × Int) × Int × Int × Int) × Int × Int := ((((ns.getD 0 0), (ns.getD 1 0), (ns.getD 2 0)), ((ns.getD 3 0), (ns.getD 4 0), (ns.getD 5 0)), ((ns.getD 6 0), (ns.getD 7 0), (ns.getD 8 0))), (ns.getD 9 0), (ns.getD 10 0))
theorem soundQuiet_mkc63 (ns : List Int) (h : ns.length = 11) : c63 (soundQuiet_mk63 ns) = ns.map iv := by
  obtain ⟨a0, a1, a2, a3, a4, a5, a6, a7, a8, a9, a10, rfl⟩ := soundQuiet_len11 h
  rfl
set_option maxRecDepth 100000 in
theorem soundQuiet_lifted (os : Os) (started : os.Started) (H : Type) (enc : TypeId × Value → H) :
    ReturnsInHanded {} Tryz.checked os 4 .any (Rows.soundQuietSpec.pre6 enc Tryz.prog Tryz.f4 Rows.soundQuietRow.domain false) (Rows.soundQuietSpec.post enc Tryz.prog Tryz.f4 false true false false) := by
  refine returnsInHanded_of_change (C := Tryz.checked) own started (by kernel_rfl) Tryz.func4
    (ChangeSpec.witness6 (enc := enc) (C := Tryz.checked) false ⟨#[], #[.slice none 0 0, .agg #[.int .i64 0, .int .i64 0, .int .i64 0, .int .i64 0, .int .i64 0, .int .i64 0]], []⟩ 8 (by kernel_rfl) (by kernel_rfl) (by kernel_rfl) (by kernel_rfl)) ?_
  intro W base args ds gs before hval0 hW hcnd _
  have hval : ∀ (j : Nat) t v, Tryz.f4.params[j]? = some t → args[j]? = some v → Value.okWide Tryz.prog W .any base t v := hval0
  have hW' := hW
  obtain ⟨p, q, hA0, hV, rfl, hfz, hnd⟩ := hW
  have hA : DataW.TrodAll enc Tryz.prog W 0 (fun _ => true) true Tryz.f4.params.toList args.toList ds p := hA0
  rw [Tryz.params4] at hA hval
  obtain ⟨v0, vs0, d0, ds0, p0, q0, hargs, rfl, rfl, h0, r0⟩ := trodAll_cons hA
  obtain ⟨v1, vs1, d1, ds1, p1, q1, rfl, rfl, rfl, h1, r1⟩ := trodAll_cons r0
  obtain ⟨rfl, rfl, rfl⟩ := trodAll_nil r1
  obtain rfl : args = #[v0, v1] := by cases args; simp_all
  obtain ⟨rfl, rfl⟩ := trodVars_none hV
  obtain ⟨⟨nss0, s0⟩, b0⟩ := open_list Tryz.underlying22 (by kernel_rfl) (show Tryz.prog.cellsOf 63 = 11 from by kernel_rfl) (hval 0 22 v0 rfl rfl) h0
  obtain ⟨rfl, ns1, rfl, l1⟩ := open_flat Tryz.underlying26 (by kernel_rfl) (hval 1 26 v1 rfl rfl) h1
  rw [show Tryz.prog.cellsOf 26 = 6 from by kernel_rfl] at l1
  obtain ⟨x1_0, x1_1, x1_2, x1_3, x1_4, x1_5, rfl⟩ := soundQuiet_len6 l1
  clear hA0 hval0 hval hA
  simp only [List.append_nil, List.nil_append] at hW'
  have hC : Con Tryz.prog 4 [.s 0 0 nss0.length 11, .a ([x1_0, x1_1, x1_2, x1_3, x1_4, x1_5].map iv)] [.live false true ((nss0.flatten).map iv)] (.v (.bool true)) [] := by
    have h := C4_L (nss0.map soundQuiet_mk63) ((x1_0, x1_1, x1_2), x1_3, x1_4, x1_5) (by rw [List.length_map]; exact s0.2.1)
    rw [law_quiet, flat_mk soundQuiet_mkc63 s0.1] at h
    simp only [List.length_map] at h
    exact h
  refine (law_calls1 (vs := [v0, .agg ([x1_0, x1_1, x1_2, x1_3, x1_4, x1_5].map (Value.int .i64)).toArray]) hC s0 ⟨slice_rel s0 rfl, rel_agg [x1_0, x1_1, x1_2, x1_3, x1_4, x1_5], trivial⟩).mono fun e W' ⟨he, hb⟩ => ?_
  subst he
  have hargs2 := (all_mk (Below.trod laidOut (by kernel_rfl) (of_decide_eq_true (by kernel_rfl)) h0 hb b0) (all_mk (Below.trod laidOut (by kernel_rfl) (of_decide_eq_true (by kernel_rfl)) h1 hb (fun x hx => by cases hx)) trodAll_mk0))
  simp only [List.append_nil, List.nil_append] at hargs2
  exact ⟨_, rfl, post_below hW' hb (fun _ _ _ => (all_mk (shut_bool Tryz.underlying4 _) trodAll_mk0)) hargs2 rfl⟩
theorem soundQuiet_over : Rows.soundQuietRow.holds Tryz.pinned (OpenSpec.ofChange Rows.soundQuietSpec) :=
  OpenClaim.holds_of_wide 4 Tryz.f4 rfl rfl rfl rfl rfl rfl rfl ⟨rfl, rfl, rfl, rfl, rfl⟩ rfl rfl rfl rfl rfl (by kernel_rfl) Tryz.func4 (by kernel_rfl)
    (of_decide_eq_true (by kernel_rfl)) (by unfold Func.isWrapper; first | (rw [if_pos (by decide +kernel)]; kernel_rfl) | (rw [if_neg (by decide +kernel)]; exact ⟨rfl, rfl⟩))
    (fun os started H enc _ => soundQuiet_lifted os started H enc)
/-- THE STATEMENT -/
theorem soundQuiet_proved : Rows.SoundQuietSaid :=
  soundQuiet_over

end Go.Proofs.YtcnnmgooolnebaaGreat
