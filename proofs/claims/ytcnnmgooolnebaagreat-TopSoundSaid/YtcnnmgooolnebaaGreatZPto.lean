/-
  TopSound: for every list of pulses and ear the law returns true, and its arguments read behind the call as they read before. No condition.
-/
import Derived.Test.YtcnnmgooolnebaaGreatVPto5
import Derived.ProofKit
namespace Go.Proofs.YtcnnmgooolnebaaGreat
open Go.Proofs Go.Aw Go.RowKit
set_option maxRecDepth 100000
set_option linter.unusedVariables false
set_option linter.unusedSimpArgs false

theorem shs_okL {α β : Type} {g : α → β × Int} {k : List α} (h : (out8 (fun m => (m, (0 : Int))) (fun r => (([] : List β), r)) (shs g k [])).2 = 0) : (∀ c ∈ k, (g c).2 = 0) ∧ out8 (fun m => (m, (0 : Int))) (fun r => (([] : List β), r)) (shs g k []) = (k.map fun c => (g c).1, 0) := by
  cases e : shs g k [] with
  | inr r => rw [e] at h; have := shs_inr e; exact absurd h this
  | inl m =>
    obtain ⟨h1, h2⟩ := shs_inl e
    rw [List.nil_append] at h1
    subst h1
    exact ⟨h2, rfl⟩
theorem rs_zero' {f : Nat → Int} : ∀ {n : Nat}, (∀ k, k < n → f k = 0) → rs f n = 0 := fun {n} h => by
  rw [rs_congr (g := fun _ => 0) h, rs_zero]
theorem sum_zero' {α : Type} {f : α → Int} : ∀ {l : List α}, (∀ p ∈ l, f p = 0) → (l.map f).sum = 0
  | [], _ => rfl
  | a :: l, h => by
    rw [List.map_cons, List.sum_cons, h a (by simp), sum_zero' fun p hp => h p (by simp [hp])]; rfl
theorem top_sum {l : List PU} {x : P3} {s d : Int} (hd : d = 0 ∨ d = 1)
    (h3 : (F8_L l x d).2 = 0) (h4 : (F7_L l x s).2.2 = 0)
    (h5 : (F9_L l x s (F7_L l x s).1 (F7_L l x s).2.1 d).2 = 0)
    (h6 : (F10_L (F9_L l x s (F7_L l x s).1 (F7_L l x s).2.1 d).1).2 = 0) :
    F11 (F10_L (F9_L l x s (F7_L l x s).1 (F7_L l x s).2.1 d).1).1 (F8_L l x d).1 = true := by
  obtain ⟨hx, hs, hlast⟩ := Ticks_last h4
  obtain ⟨hv, hfirst⟩ := Ticks_first h4
  have hto := Total_f l x d
  rw [hto] at h3
  have hv2 : (0 ≤ d ∧ d ≤ 3) ∧ toV l x d = toS l x d := by
    unfold toV at h3 ⊢
    rw [if_pos hv] at h3 ⊢
    by_cases a2 : bd 256 x ∧ (0 ≤ d ∧ d ≤ 3)
    · rw [if_pos a2]; exact ⟨a2.2, rfl⟩
    · exact absurd ⟨hx, by omega⟩ a2
  obtain ⟨hd3, etV⟩ := hv2
  rw [etV] at h3
  have hpk := (vpL_ok hv).2
  have hl16 := (vpL_ok hv).1
  unfold toS at h3
  obtain ⟨g0, etS⟩ := shs_ok0 (fun _ => rfl) h3
  rw [etS] at h3
  obtain ⟨etS2, hvt⟩ := sumV_0 h3
  have htot : (F8_L l x d).1 = sums (l.map fun c => (toG x d c).1) (0, 0) := by
    rw [hto, etV]; unfold toS; rw [etS, etS2]
  have hnil : l ≠ [] := fun h => by
    subst h
    unfold F7_L at h4
    rw [isP_f, isS_f] at h4
    have e0 : (F25_L [] x s).length = 0 := by rw [arr_len]; rfl
    have e1 : vpL [] = 0 := by unfold vpL; rfl
    rw [chkL_f, chkL_f, e0, if_pos hv, if_pos hv] at h4
    simp [hx, hs] at h4
  generalize hTT : (F7_L l x s).2.1 = TT at hlast h5 h6 ⊢
  generalize hAA : (F7_L l x s).1 = AA at hfirst h5 h6 ⊢
  have hT : ∀ p ∈ l, p.2.1 + F20 (fa p.1 x) s ≤ TT := fun p hp => by
    have h := hlast p hp
    have hb := pok_bd (hpk p hp)
    have hf := fa6 hb hx
    have ht := trav_ge (s := s) (n := fa p.1 x) (by omega) (by omega)
    have hp1 := (hpk p hp).2.1
    unfold F50 at h
    rw [sfa_f (hb.mono (by omega)) (hx.mono (by omega)), W_eq (by omega) (by omega)] at h
    exact h
  rw [Trace_f] at h5 h6 ⊢
  have htr : TRA x s AA TT d ∧ trV l x s AA TT d = trL l x s AA TT d := by
    unfold trV at h5 ⊢
    rw [if_pos hv] at h5 ⊢
    by_cases a : TRA x s AA TT d
    · rw [if_pos a]; exact ⟨a, rfl⟩
    · rw [if_neg a] at h5; exact absurd h5 (by decide)
  obtain ⟨hTR, etr⟩ := htr
  rw [etr] at h5 h6 ⊢
  unfold trL at h5
  obtain ⟨hok, etL⟩ := shs_okL h5
  have etL2 : (trL l x s AA TT d).1 = (ticks AA (Int.toNat (TT - AA + 1))).map fun t => (scS l x s t d).1 := by
    unfold trL; rw [etL]
  rw [etL2] at h6 ⊢
  have hA := hTR.2.2.1
  have hB := hTR.2.2.2.2
  rw [Sum_f (fun a ha => by
    obtain ⟨t, _, rfl⟩ := List.mem_map.1 ha
    exact scS_vs hl16 hpk hd3) (by rw [List.length_map, ticks_len]; omega)] at h6 ⊢
  obtain ⟨e7, v7⟩ := sumV_0 h6
  rw [htot, e7]
  have hall : ∀ t ∈ ticks AA (Int.toNat (TT - AA + 1)), (scS l x s t d).1 = sums (l.map fun p => (hrT p x s t d).1) (0, 0) := fun t ht => by
    have := hok t ht
    unfold scS at this ⊢
    rw [(shs_ok0 (fun _ => rfl) this).2]
  have hin : ∀ i : Nat, i < Int.toNat (TT - AA + 1) → AA + (i : Int) ∈ ticks AA (Int.toNat (TT - AA + 1)) := fun i hi => by
    unfold ticks
    exact List.mem_map.2 ⟨i, List.mem_range.2 hi, rfl⟩
  have es : sums ((ticks AA (Int.toNat (TT - AA + 1))).map fun t => (scS l x s t d).1) (0, 0) = (rs (fun i : Nat => (l.map fun p => (hrT p x s (AA + (i : Int)) d).1.1).sum) (Int.toNat (TT - AA + 1)), rs (fun i : Nat => (l.map fun p => (hrT p x s (AA + (i : Int)) d).1.2).sum) (Int.toNat (TT - AA + 1))) := by
    rw [sums_eq, List.map_map, List.map_map]
    unfold ticks
    rw [List.map_map, List.map_map, rs_range, rs_range]
    show ((0 : Int) + _, (0 : Int) + _) = _
    rw [Int.zero_add, Int.zero_add]
    congr 1
    · exact rs_congr fun i hi => by
        show (scS l x s (AA + (i : Int)) d).1.1 = _
        rw [hall _ (hin i hi), sums_eq]
        show (0 : Int) + _ = _
        rw [Int.zero_add, List.map_map]; rfl
    · exact rs_congr fun i hi => by
        show (scS l x s (AA + (i : Int)) d).1.2 = _
        rw [hall _ (hin i hi), sums_eq]
        show (0 : Int) + _ = _
        rw [Int.zero_add, List.map_map]; rfl
  have et : sums (l.map fun c => (toG x d c).1) (0, 0) = ((l.map fun p => (toG x d p).1.1).sum, (l.map fun p => (toG x d p).1.2).sum) := by
    rw [sums_eq, List.map_map, List.map_map]
    show ((0 : Int) + _, (0 : Int) + _) = _
    rw [Int.zero_add, Int.zero_add]; rfl
  have hzero : ∀ t : Nat, t < AA.toNat → ∀ p ∈ l, hrT p x s (t : Int) d = ((0, 0), 0) := fun t ht p hp => by
    obtain ⟨j, hj, e⟩ := List.mem_iff_getElem.1 hp
    have h := hfirst j hj
    unfold ftv at h
    rw [List.getD_eq_getElem?_getD, List.getElem?_eq_getElem hj, Option.getD_some, e] at h
    exact quiet_lo (hpk p hp) hx hs hd3 (by omega)
  have hT1 : TT.toNat + 1 = AA.toNat + Int.toNat (TT - AA + 1) := by omega
  have hb := both_in (T := TT.toNat) hv hx hs hd g0 (fun p hp => Int.le_trans (hT p hp) (by omega))
  have s1 : rs (fun t : Nat => (l.map fun p => (hrT p x s (t : Int) d).1.1).sum) (TT.toNat + 1) = rs (fun i : Nat => (l.map fun p => (hrT p x s (AA + (i : Int)) d).1.1).sum) (Int.toNat (TT - AA + 1)) := by
    rw [hT1, rs_split, rs_zero' (fun t ht => sum_zero' fun p hp => by rw [hzero t ht p hp]), Int.zero_add]
    refine rs_congr fun i _ => ?_
    rw [show ((AA.toNat + i : Nat) : Int) = AA + (i : Int) by omega]
  have s2 : rs (fun t : Nat => (l.map fun p => (hrT p x s (t : Int) d).1.2).sum) (TT.toNat + 1) = rs (fun i : Nat => (l.map fun p => (hrT p x s (AA + (i : Int)) d).1.2).sum) (Int.toNat (TT - AA + 1)) := by
    rw [hT1, rs_split, rs_zero' (fun t ht => sum_zero' fun p hp => by rw [hzero t ht p hp]), Int.zero_add]
    refine rs_congr fun i _ => ?_
    rw [show ((AA.toNat + i : Nat) : Int) = AA + (i : Int) by omega]
  rw [s1, s2] at hb
  obtain ⟨m1, m2⟩ := meet_s v7 hvt (by rw [es, et]; exact Int.le_trans hb.1 hb.2.2.2) (by rw [es, et]; exact Int.le_trans hb.2.2.1 hb.2.1)
  unfold F11
  rw [m2, m1]; rfl
theorem law_tsound (l : List PU) (x : P3 × Int × Int × Int) : F3_L l x = true := by
  have h5 : F5 (0, 0, 0) (4, 0, 0) 2 = (2, 0) := by kernel_rfl
  unfold F3_L
  rw [h5, law_quiet, law_walls]
  simp only [bne_self_eq_false, cond_false, Bool.not_true]
  by_cases h1 : ((l.length : Nat) : Int) > 16
  · rw [decide_eq_true h1, cond_true]
    show decide _ = true
    exact decide_eq_true h1
  rw [decide_eq_false h1, cond_false]
  by_cases h2 : ((l.length : Nat) : Int) > 3
  · rw [decide_eq_true h2]; rfl
  rw [decide_eq_false h2, cond_false]
  by_cases h3 : x.2.2.2 < 0
  · rw [decide_eq_true h3]; rfl
  rw [decide_eq_false h3, cond_false]
  by_cases h4 : x.2.2.2 > 1
  · rw [decide_eq_true h4]; rfl
  rw [decide_eq_false h4, cond_false]
  cases h6 : ((F7_L l x.1 x.2.1).2.2 != 0) with
  | true => rfl
  | false =>
  cases h7 : ((F8_L l x.1 x.2.2.2).2 != 0) with
  | true => rfl
  | false =>
  cases h8 : decide (W ((F7_L l x.1 x.2.1).2.1 - (F7_L l x.1 x.2.1).1) > 200) with
  | true => rfl
  | false =>
  cases h9 : decide ((F7_L l x.1 x.2.1).2.1 > 2000) with
  | true => rfl
  | false =>
  simp only [cond_false]
  cases h10 : ((F9_L l x.1 x.2.1 (F7_L l x.1 x.2.1).1 (F7_L l x.1 x.2.1).2.1 x.2.2.2).2 != 0) with
  | true => rfl
  | false =>
  rw [cond_false]
  cases h11 : ((F10_L (F9_L l x.1 x.2.1 (F7_L l x.1 x.2.1).1 (F7_L l x.1 x.2.1).2.1 x.2.2.2).1).2 != 0) with
  | true => rfl
  | false =>
  rw [cond_false]
  exact top_sum (by omega) (bne_eq_false_iff_eq.1 h7) (bne_eq_false_iff_eq.1 h6) (bne_eq_false_iff_eq.1 h10) (bne_eq_false_iff_eq.1 h11)

open Go.ChangeShapes Go.WideShapes Go.ChangeAt
theorem topSound_len6 {l : List Int} (h : l.length = 6) : ∃ a0 a1 a2 a3 a4 a5, l = [a0, a1, a2, a3, a4, a5] := by
  match l, h with
  | [a0, a1, a2, a3, a4, a5], _ => exact ⟨a0, a1, a2, a3, a4, a5, rfl⟩
theorem topSound_len11 {l : List Int} (h : l.length = 11) : ∃ a0 a1 a2 a3 a4 a5 a6 a7 a8 a9 a10, l = [a0, a1, a2, a3, a4, a5, a6, a7, a8, a9, a10] := by
  match l, h with
  | [a0, a1, a2, a3, a4, a5, a6, a7, a8, a9, a10], _ => exact ⟨a0, a1, a2, a3, a4, a5, a6, a7, a8, a9, a10, rfl⟩
def topSound_mk63 (ns : List Int) : ((Int × Int × Int) × (Int × Int × Int) × Int × Int × Int) × Int × Int := ((((ns.getD 0 0), (ns.getD 1 0), (ns.getD 2 0)), ((ns.getD 3 0), (ns.getD 4 0), (ns.getD 5 0)), ((ns.getD 6 0), (ns.getD 7 0), (ns.getD 8 0))), (ns.getD 9 0), (ns.getD 10 0))
theorem topSound_mkc63 (ns : List Int) (h : ns.length = 11) : c63 (topSound_mk63 ns) = ns.map iv := by
  obtain ⟨a0, a1, a2, a3, a4, a5, a6, a7, a8, a9, a10, rfl⟩ := topSound_len11 h
  rfl
set_option maxRecDepth 100000 in
theorem topSound_lifted (os : Os) (started : os.Started) (H : Type) (enc : TypeId × Value → H) :
    ReturnsInHanded {} Tryz.checked os 3 .any (Rows.topSoundSpec.pre6 enc Tryz.prog Tryz.f3 Rows.topSoundRow.domain false) (Rows.topSoundSpec.post enc Tryz.prog Tryz.f3 false true false false) := by
  refine returnsInHanded_of_change (C := Tryz.checked) own started (by kernel_rfl) Tryz.func3
    (ChangeSpec.witness6 (enc := enc) (C := Tryz.checked) false ⟨#[], #[.slice none 0 0, .agg #[.int .i64 0, .int .i64 0, .int .i64 0, .int .i64 0, .int .i64 0, .int .i64 0]], []⟩ 8 (by kernel_rfl) (by kernel_rfl) (by kernel_rfl) (by kernel_rfl)) ?_
  intro W base args ds gs before hval0 hW hcnd _
  have hval : ∀ (j : Nat) t v, Tryz.f3.params[j]? = some t → args[j]? = some v → Value.okWide Tryz.prog W .any base t v := hval0
  have hW' := hW
  obtain ⟨p, q, hA0, hV, rfl, hfz, hnd⟩ := hW
  have hA : DataW.TrodAll enc Tryz.prog W 0 (fun _ => true) true Tryz.f3.params.toList args.toList ds p := hA0
  rw [Tryz.params3] at hA hval
  obtain ⟨v0, vs0, d0, ds0, p0, q0, hargs, rfl, rfl, h0, r0⟩ := trodAll_cons hA
  obtain ⟨v1, vs1, d1, ds1, p1, q1, rfl, rfl, rfl, h1, r1⟩ := trodAll_cons r0
  obtain ⟨rfl, rfl, rfl⟩ := trodAll_nil r1
  obtain rfl : args = #[v0, v1] := by cases args; simp_all
  obtain ⟨rfl, rfl⟩ := trodVars_none hV
  obtain ⟨⟨nss0, s0⟩, b0⟩ := open_list Tryz.underlying22 (by kernel_rfl) (show Tryz.prog.cellsOf 63 = 11 from by kernel_rfl) (hval 0 22 v0 rfl rfl) h0
  obtain ⟨rfl, ns1, rfl, l1⟩ := open_flat Tryz.underlying26 (by kernel_rfl) (hval 1 26 v1 rfl rfl) h1
  rw [show Tryz.prog.cellsOf 26 = 6 from by kernel_rfl] at l1
  obtain ⟨x1_0, x1_1, x1_2, x1_3, x1_4, x1_5, rfl⟩ := topSound_len6 l1
  clear hA0 hval0 hval hA
  simp only [List.append_nil, List.nil_append] at hW'
  have hC : Con Tryz.prog 3 [.s 0 0 nss0.length 11, .a ([x1_0, x1_1, x1_2, x1_3, x1_4, x1_5].map iv)] [.live false true ((nss0.flatten).map iv)] (.v (.bool true)) [] := by
    have h := C3_L (nss0.map topSound_mk63) ((x1_0, x1_1, x1_2), x1_3, x1_4, x1_5) (by rw [List.length_map]; exact s0.2.1)
    rw [law_tsound, flat_mk topSound_mkc63 s0.1] at h
    simp only [List.length_map] at h
    exact h
  refine (law_calls1 (vs := [v0, .agg ([x1_0, x1_1, x1_2, x1_3, x1_4, x1_5].map (Value.int .i64)).toArray]) hC s0 ⟨slice_rel s0 rfl, rel_agg [x1_0, x1_1, x1_2, x1_3, x1_4, x1_5], trivial⟩).mono fun e W' ⟨he, hb⟩ => ?_
  subst he
  have hargs2 := (all_mk (Below.trod laidOut (by kernel_rfl) (of_decide_eq_true (by kernel_rfl)) h0 hb b0) (all_mk (Below.trod laidOut (by kernel_rfl) (of_decide_eq_true (by kernel_rfl)) h1 hb (fun x hx => by cases hx)) trodAll_mk0))
  simp only [List.append_nil, List.nil_append] at hargs2
  exact ⟨_, rfl, post_below hW' hb (fun _ _ _ => (all_mk (shut_bool Tryz.underlying4 _) trodAll_mk0)) hargs2 rfl⟩
theorem topSound_over : Rows.topSoundRow.holds Tryz.pinned (OpenSpec.ofChange Rows.topSoundSpec) :=
  OpenClaim.holds_of_wide 3 Tryz.f3 rfl rfl rfl rfl rfl rfl rfl ⟨rfl, rfl, rfl, rfl, rfl⟩ rfl rfl rfl rfl rfl (by kernel_rfl) Tryz.func3 (by kernel_rfl)
    (of_decide_eq_true (by kernel_rfl)) (by unfold Func.isWrapper; first | (rw [if_pos (by decide +kernel)]; kernel_rfl) | (rw [if_neg (by decide +kernel)]; exact ⟨rfl, rfl⟩))
    (fun os started H enc _ => topSound_lifted os started H enc)
/-- THE STATEMENT -/
theorem topSound_proved : Rows.TopSoundSaid :=
  topSound_over

end Go.Proofs.YtcnnmgooolnebaaGreat
