/-
  FieldFluxes: for every mesh, point and depth the law returns true, and its arguments read behind the call as they read before. No condition.
-/
import Derived.Test.YtidhogejnafhaaaGreatVPfl5
import Derived.ProofKit
namespace Go.Proofs.YtidhogejnafhaaaGreat
open Go.Proofs Go.Aw Go.RowKit
set_option maxRecDepth 100000
set_option linter.unusedVariables false
set_option linter.unusedSimpArgs false

/-- facet/facetlaw03.FieldFluxes -/
def F3 (a0 : (List (Int × Int × Int)) × List (Int × Int × Int)) (a1 : Int × Int × Int) (a2 : Int) : Bool :=
  (bif (F6 (a0.1, a0.2)) then
   F7
  else
   (bif ((((F8 (a0.1, a0.2) a1 a2).1.1 : Int) == (F9 (a0.1, a0.2) a1 a2).1.1) && ((((F8 (a0.1, a0.2) a1 a2).1.2 : Int) == (F9 (a0.1, a0.2) a1 a2).1.2) && true)) then
    (bif (((F8 (a0.1, a0.2) a1 a2).2 : Int) == (F9 (a0.1, a0.2) a1 a2).2) then
     F7
    else
     false)
   else
    false))

theorem C3 (a0 : (List (Int × Int × Int)) × List (Int × Int × Int)) (a1 : Int × Int × Int) (a2 : Int) (l0_1 : a0.1.length ≤ 9223372036854775807) (l0_2 : a0.2.length ≤ 9223372036854775807) : Con Tryz.prog 3 [(.a [(.s 0 0 a0.1.length 3), (.s 1 0 a0.2.length 3)]), (.a (k3 a1)), (iv a2)] [(.live false true (flat c27 a0.1)), (.live false true (flat c119 a0.2))] (.v (.bool (F3 a0 a1 a2))) [] := by
  refine con_s Tryz.func3 (by kernel_rfl) fun cx hcx => ?_
  let t0 : List (St Tryz.prog) := [.c [0, 1] (C6 (a0.1, a0.2) (by (try simp only [List.length_append, List.length_cons, List.length_nil, Int.toNat_zero]); omega) (by (try simp only [List.length_append, List.length_cons, List.length_nil, Int.toNat_zero]); omega))]
  cases h0 : (F6 (a0.1, a0.2)) with
  | true =>
   have e := Eq.refl (F3 a0 a1 a2); conv at e => rhs; simp only [F3, h0, cond_true, cond_false]
   rw [e]
   exact rt (t0 ++ [.d h0, .c [] (C7)]) [] [] hcx (by kernel_rfl)
  | false =>
   let t1 : List (St Tryz.prog) := (t0 ++ [.d h0, .c [0, 1] (C8 (a0.1, a0.2) a1 a2 (by (try simp only [List.length_append, List.length_cons, List.length_nil, Int.toNat_zero]); omega) (by (try simp only [List.length_append, List.length_cons, List.length_nil, Int.toNat_zero]); omega)), .c [0, 1] (C9 (a0.1, a0.2) a1 a2 (by (try simp only [List.length_append, List.length_cons, List.length_nil, Int.toNat_zero]); omega) (by (try simp only [List.length_append, List.length_cons, List.length_nil, Int.toNat_zero]); omega))])
   cases h1 : ((((F8 (a0.1, a0.2) a1 a2).1.1 : Int) == (F9 (a0.1, a0.2) a1 a2).1.1) && ((((F8 (a0.1, a0.2) a1 a2).1.2 : Int) == (F9 (a0.1, a0.2) a1 a2).1.2) && true)) with
   | true =>
    let t2 : List (St Tryz.prog) := (t1 ++ [.d h1])
    cases h2 : (((F8 (a0.1, a0.2) a1 a2).2 : Int) == (F9 (a0.1, a0.2) a1 a2).2) with
    | true =>
     have q2 := eq_of_beq h2
     have e := Eq.refl (F3 a0 a1 a2); conv at e => rhs; simp only [F3, h0, h1, h2, cond_true, cond_false]
     rw [e]
     exact rt (t2 ++ [.d h2, .c [] (C7)]) [] [] hcx (by kernel_rfl)
    | false =>
     have q2 := ne_of_beq_false h2
     have e := Eq.refl (F3 a0 a1 a2); conv at e => rhs; simp only [F3, h0, h1, h2, cond_true, cond_false]
     rw [e]
     exact rt (t2 ++ [.d h2]) [] [] hcx (by kernel_rfl)
   | false =>
    have e := Eq.refl (F3 a0 a1 a2); conv at e => rhs; simp only [F3, h0, h1, cond_true, cond_false]
    rw [e]
    exact rt (t1 ++ [.d h1]) [] [] hcx (by kernel_rfl)

/-! ### The flux of a mesh -/
noncomputable def flxV (m : ME) (x : P3) (d : Int) : (Int × Int) × Int :=
  bif (((F24 m).2 : Int) != 0) then ((0, 0), (F24 m).2)
  else bif (!(F25 x)) then ((0, 0), 1) else bif (!(F26 d 0 3)) then ((0, 0), 1)
  else out8 sumV (fun e => ((0, 0), e)) (shs (fun p => angV p x d) (F24 m).1 [])
theorem shs_vs {L : List PN} {x : P3} {d : Int} {l : List (Int × Int)} (h : shs (fun p => angV p x d) L [] = .inl l) (hL : L.length ≤ 96) : (∀ a ∈ l, vs a) ∧ l.length ≤ 10000 := by
  obtain ⟨e, _⟩ := shs_inl h
  rw [List.nil_append] at e
  subst e
  exact ⟨fun a ha => by obtain ⟨c, _, rfl⟩ := List.mem_map.1 ha; exact angV_bd c x d, by rw [List.length_map]; omega⟩
theorem flx_f (m : ME) (x : P3) (d : Int) : F8 m x d = flxV m x d := by
  unfold F8 flxV
  show (bif (((F24 m).2 : Int) != 0) then _ else _) = _
  cases h1 : (((F24 m).2 : Int) != 0) with
  | true => rfl
  | false =>
  rw [cond_false, cond_false]
  cases h2 : (!(F25 x)) with
  | true => rfl
  | false =>
  rw [cond_false, cond_false]
  cases h3 : (!(F26 d 0 3)) with
  | true => rfl
  | false =>
  rw [cond_false, cond_false]
  have key := shs_loopF (g := fun p => angV p x d) (S := S8_0 m x d) (E := fun e => (((0, 0) : Int × Int), e)) (L := (F24 m).1) (G := fun l => ((F15_L l).1, (F15_L l).2))
    (fun i c hi l => ?_) (fun l => ?_) (F24 m).1 0 (Int.toNat ((((F24 m).1.length : Nat) : Int) - 0) + 1) [] rfl (Nat.zero_le _) (by omega)
  · refine Eq.trans key ?_
    cases hs : shs (fun p => angV p x d) (F24 m).1 [] with
    | inr r => rfl
    | inl l =>
      obtain ⟨hv, hl⟩ := shs_vs hs (pan_len m)
      simp only [out8]
      rw [Sum_f hv hl]
  · obtain ⟨hlt, hce⟩ := List.getElem?_eq_some_iff.1 hi
    simp only [S8_0]
    rw [decide_eq_true (show ((i : Nat) : Int) < (((F24 (m.1, m.2)).1.length : Nat) : Int) from by show ((i : Nat) : Int) < (((F24 m).1.length : Nat) : Int); omega), cond_true, show (F24 (m.1, m.2)).1.getD (Int.toNat (i : Int)) default = c from getD_of hi, Angle_f]
    cases h4 : (((angV c x d).2 : Int) != 0) with
    | true => rw [cond_true]; rfl
    | false => rw [cond_false]; rfl
  · simp only [S8_0]
    rw [decide_eq_false (show ¬ (((F24 m).1.length : Nat) : Int) < (((F24 (m.1, m.2)).1.length : Nat) : Int) from by show ¬ (((F24 m).1.length : Nat) : Int) < (((F24 m).1.length : Nat) : Int); omega), cond_false]
theorem flx_r (m : ME) (x : P3) (d : Int) : F9 m x d = flxV m x d := by
  unfold F9 flxV
  show (bif (((F28 m).2 : Int) != 0) then _ else _) = _
  have hr : (F28 (m.1, m.2)) = F24 m := pan_r m
  rw [hr, ← show F25 x = F29 x from by rw [seen_f, seen_r], show F30 d 0 3 = F26 d 0 3 from rfl]
  cases h1 : (((F24 m).2 : Int) != 0) with
  | true => rfl
  | false =>
  rw [cond_false, cond_false]
  cases h2 : (!(F25 x)) with
  | true => rfl
  | false =>
  rw [cond_false, cond_false]
  cases h3 : (!(F26 d 0 3)) with
  | true => rfl
  | false =>
  rw [cond_false, cond_false]
  have key := shs_loopF (g := fun p => angV p x d) (S := S9_0 m x d) (E := fun e => (((0, 0) : Int × Int), e)) (L := (F24 m).1) (G := fun l => ((F32_L l).1, (F32_L l).2))
    (fun i c hi l => ?_) (fun l => ?_) (F24 m).1 0 (Int.toNat ((((F24 m).1.length : Nat) : Int) - 0) + 1) [] rfl (Nat.zero_le _) (by omega)
  · refine Eq.trans key ?_
    cases hs : shs (fun p => angV p x d) (F24 m).1 [] with
    | inr r => rfl
    | inl l =>
      obtain ⟨hv, hl⟩ := shs_vs hs (pan_len m)
      simp only [out8]
      rw [Sum_r hv hl]
  · obtain ⟨hlt, hce⟩ := List.getElem?_eq_some_iff.1 hi
    simp only [S9_0]
    rw [hr, decide_eq_true (show ((i : Nat) : Int) < (((F24 m).1.length : Nat) : Int) from by omega), cond_true, getD_of hi, Angle_r]
    cases h4 : (((angV c x d).2 : Int) != 0) with
    | true => rw [cond_true]; rfl
    | false => rw [cond_false]; rfl
  · simp only [S9_0]
    rw [hr, decide_eq_false (by omega), cond_false]
theorem law_fluxes (m : ME) (x : P3) (d : Int) : F3 m x d = true := by
  unfold F3
  rw [show F8 (m.1, m.2) x d = flxV m x d from flx_f m x d, show F9 (m.1, m.2) x d = flxV m x d from flx_r m x d, known_t]
  cases F6 (m.1, m.2) with
  | true => rfl
  | false => simp

open Go.ChangeShapes Go.WideShapes Go.ChangeAt
theorem fieldFluxes_len3 {l : List Int} (h : l.length = 3) : ∃ a0 a1 a2, l = [a0, a1, a2] := by
  match l, h with
  | [a0, a1, a2], _ => exact ⟨a0, a1, a2, rfl⟩
def fieldFluxes_mk27 (ns : List Int) : Int × Int × Int := ((ns.getD 0 0), (ns.getD 1 0), (ns.getD 2 0))
theorem fieldFluxes_mkc27 (ns : List Int) (h : ns.length = 3) : c27 (fieldFluxes_mk27 ns) = ns.map iv := by
  obtain ⟨a0, a1, a2, rfl⟩ := fieldFluxes_len3 h
  rfl
def fieldFluxes_mk119 (ns : List Int) : Int × Int × Int := ((ns.getD 0 0), (ns.getD 1 0), (ns.getD 2 0))
theorem fieldFluxes_mkc119 (ns : List Int) (h : ns.length = 3) : c119 (fieldFluxes_mk119 ns) = ns.map iv := by
  obtain ⟨a0, a1, a2, rfl⟩ := fieldFluxes_len3 h
  rfl
set_option maxRecDepth 100000 in
theorem fieldFluxes_lifted (os : Os) (started : os.Started) (H : Type) (enc : TypeId × Value → H) :
    ReturnsInHanded {} Tryz.checked os 3 .any (Rows.fieldFluxesSpec.pre6 enc Tryz.prog Tryz.f3 Rows.fieldFluxesRow.domain false) (Rows.fieldFluxesSpec.post enc Tryz.prog Tryz.f3 false true false false) := by
  refine returnsInHanded_of_change (C := Tryz.checked) own started (by kernel_rfl) Tryz.func3
    (ChangeSpec.witness6 (enc := enc) (C := Tryz.checked) false ⟨#[], #[.agg #[.slice none 0 0, .slice none 0 0], .agg #[.int .i64 0, .int .i64 0, .int .i64 0], .int .i64 0], []⟩ 8 (by kernel_rfl) (by kernel_rfl) (by kernel_rfl) (by kernel_rfl)) ?_
  intro W base args ds gs before hval0 hW hcnd _
  have hval : ∀ (j : Nat) t v, Tryz.f3.params[j]? = some t → args[j]? = some v → Value.okWide Tryz.prog W .any base t v := hval0
  have hW' := hW
  obtain ⟨p, q, hA0, hV, rfl, hfz, hnd⟩ := hW
  have hA : DataW.TrodAll enc Tryz.prog W 0 (fun _ => true) true Tryz.f3.params.toList args.toList ds p := hA0
  rw [Tryz.params3] at hA hval
  obtain ⟨v0, vs0, d0, ds0, p0, q0, hargs, rfl, rfl, h0, r0⟩ := trodAll_cons hA
  obtain ⟨v1, vs1, d1, ds1, p1, q1, rfl, rfl, rfl, h1, r1⟩ := trodAll_cons r0
  obtain ⟨v2, vs2, d2, ds2, p2, q2, rfl, rfl, rfl, h2, r2⟩ := trodAll_cons r1
  obtain ⟨rfl, rfl, rfl⟩ := trodAll_nil r2
  obtain rfl : args = #[v0, v1, v2] := by cases args; simp_all
  obtain ⟨rfl, rfl⟩ := trodVars_none hV
  obtain ⟨⟨cs0, rfl, k0⟩, b0⟩ := open_kinds [.s 3, .s 3] Tryz.underlying25 (by kernel_rfl) (hval 0 25 v0 rfl rfl) h0
  obtain ⟨c0_0, cs0, rfl, ⟨nss0_0, s0_0⟩, k0⟩ := cells_cons k0
  obtain ⟨c0_1, cs0, rfl, ⟨nss0_1, s0_1⟩, k0⟩ := cells_cons k0
  obtain rfl := cells_nil k0
  obtain ⟨rfl, ns1, rfl, l1⟩ := open_flat Tryz.underlying27 (by kernel_rfl) (hval 1 27 v1 rfl rfl) h1
  rw [show Tryz.prog.cellsOf 27 = 3 from by kernel_rfl] at l1
  obtain ⟨x1_0, x1_1, x1_2, rfl⟩ := fieldFluxes_len3 l1
  obtain ⟨x2, rfl, rfl, rfl, w2⟩ := open_int Tryz.underlying3 (hval 2 3 v2 rfl rfl) h2
  clear hA0 hval0 hval hA
  simp only [List.append_nil, List.nil_append] at hW'
  have hC : Con Tryz.prog 3 [.a [.s 0 0 nss0_0.length 3, .s 1 0 nss0_1.length 3], .a ([x1_0, x1_1, x1_2].map iv), iv x2] [.live false true ((nss0_0.flatten).map iv), .live false true ((nss0_1.flatten).map iv)] (.v (.bool true)) [] := by
    have h := C3 ((nss0_0.map fieldFluxes_mk27), (nss0_1.map fieldFluxes_mk119)) (x1_0, x1_1, x1_2) x2 (by rw [List.length_map]; exact s0_0.2.1) (by rw [List.length_map]; exact s0_1.2.1)
    dsimp only at h
    rw [law_fluxes, flat_mk fieldFluxes_mkc27 s0_0.1, flat_mk fieldFluxes_mkc119 s0_1.1] at h
    simp only [List.length_map] at h
    exact h
  refine (law_callsN (vs := [.agg [c0_0, c0_1].toArray, .agg ([x1_0, x1_1, x1_2].map (Value.int .i64)).toArray, .int .i64 x2]) [(3, c0_0, nss0_0), (3, c0_1, nss0_1)] hC (by simp only [List.mem_cons, List.not_mem_nil, or_false]; rintro y (rfl | rfl) <;> assumption) ⟨⟨_, rfl, ⟨slice_rel s0_0 rfl, slice_rel s0_1 rfl, trivial⟩⟩, rel_agg [x1_0, x1_1, x1_2], rfl, trivial⟩).mono fun e W' ⟨he, hb⟩ => ?_
  subst he
  have hargs2 := (all_mk (Below.trod laidOut (by kernel_rfl) (of_decide_eq_true (by kernel_rfl)) h0 hb b0) (all_mk (Below.trod laidOut (by kernel_rfl) (of_decide_eq_true (by kernel_rfl)) h1 hb (fun x hx => by cases hx)) (all_mk (Below.trod laidOut (by kernel_rfl) (of_decide_eq_true (by kernel_rfl)) h2 hb (fun x hx => by cases hx)) trodAll_mk0)))
  simp only [List.append_nil, List.nil_append] at hargs2
  exact ⟨_, rfl, post_below hW' hb (fun _ _ _ => (all_mk (shut_bool Tryz.underlying4 _) trodAll_mk0)) hargs2 rfl⟩
theorem fieldFluxes_over : Rows.fieldFluxesRow.holds Tryz.pinned (OpenSpec.ofChange Rows.fieldFluxesSpec) :=
  OpenClaim.holds_of_wide 3 Tryz.f3 rfl rfl rfl rfl rfl rfl rfl ⟨rfl, rfl, rfl, rfl, rfl⟩ rfl rfl rfl rfl rfl (by kernel_rfl) Tryz.func3 (by kernel_rfl)
    (of_decide_eq_true (by kernel_rfl)) (by unfold Func.isWrapper; first | (rw [if_pos (by decide +kernel)]; kernel_rfl) | (rw [if_neg (by decide +kernel)]; exact ⟨rfl, rfl⟩))
    (fun os started H enc _ => fieldFluxes_lifted os started H enc)
/-- THE STATEMENT -/
theorem fieldFluxes_proved : Rows.FieldFluxesSaid :=
  fieldFluxes_over

end Go.Proofs.YtidhogejnafhaaaGreat
