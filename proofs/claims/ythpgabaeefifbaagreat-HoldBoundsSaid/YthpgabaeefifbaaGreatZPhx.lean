/-
  HoldBounds: for every mesh, list of charges and depth the law returns true, and its arguments read behind the call as they read before. No condition.
-/
import Derived.Test.YthpgabaeefifbaaGreatVPhx6
import Derived.ProofKit
namespace Go.Proofs.YthpgabaeefifbaaGreat
open Go.Proofs Go.Aw Go.RowKit
set_option maxRecDepth 100000
set_option linter.unusedVariables false
set_option linter.unusedSimpArgs false

theorem law_hbounds (m : ME) (q : List Int) (d : Int) : F7_L m q d = true := by
  unfold F7_L
  simp only [sane_h, Bounds_eq, Even_eq]
  simp

open Go.ChangeShapes Go.WideShapes Go.ChangeAt
theorem holdBounds_len1 {l : List Int} (h : l.length = 1) : ∃ a0, l = [a0] := by
  match l, h with
  | [a0], _ => exact ⟨a0, rfl⟩
theorem holdBounds_len3 {l : List Int} (h : l.length = 3) : ∃ a0 a1 a2, l = [a0, a1, a2] := by
  match l, h with
  | [a0, a1, a2], _ => exact ⟨a0, a1, a2, rfl⟩
def holdBounds_mk3 (ns : List Int) : Int := (ns.getD 0 0)
theorem holdBounds_mkc3 (ns : List Int) (h : ns.length = 1) : c3 (holdBounds_mk3 ns) = ns.map iv := by
  obtain ⟨a0, rfl⟩ := holdBounds_len1 h
  rfl
def holdBounds_mk27 (ns : List Int) : Int × Int × Int := ((ns.getD 0 0), (ns.getD 1 0), (ns.getD 2 0))
theorem holdBounds_mkc27 (ns : List Int) (h : ns.length = 3) : c27 (holdBounds_mk27 ns) = ns.map iv := by
  obtain ⟨a0, a1, a2, rfl⟩ := holdBounds_len3 h
  rfl
def holdBounds_mk85 (ns : List Int) : Int × Int × Int := ((ns.getD 0 0), (ns.getD 1 0), (ns.getD 2 0))
theorem holdBounds_mkc85 (ns : List Int) (h : ns.length = 3) : c85 (holdBounds_mk85 ns) = ns.map iv := by
  obtain ⟨a0, a1, a2, rfl⟩ := holdBounds_len3 h
  rfl
set_option maxRecDepth 100000 in
theorem holdBounds_lifted (os : Os) (started : os.Started) (H : Type) (enc : TypeId × Value → H) :
    ReturnsInHanded {} Tryz.checked os 7 .any (Rows.holdBoundsSpec.pre6 enc Tryz.prog Tryz.f7 Rows.holdBoundsRow.domain false) (Rows.holdBoundsSpec.post enc Tryz.prog Tryz.f7 false true false false) := by
  refine returnsInHanded_of_change (C := Tryz.checked) own started (by kernel_rfl) Tryz.func7
    (ChangeSpec.witness6 (enc := enc) (C := Tryz.checked) false ⟨#[], #[.agg #[.slice none 0 0, .slice none 0 0], .slice none 0 0, .int .i64 0], []⟩ 8 (by kernel_rfl) (by kernel_rfl) (by kernel_rfl) (by kernel_rfl)) ?_
  intro W base args ds gs before hval0 hW hcnd _
  have hval : ∀ (j : Nat) t v, Tryz.f7.params[j]? = some t → args[j]? = some v → Value.okWide Tryz.prog W .any base t v := hval0
  have hW' := hW
  obtain ⟨p, q, hA0, hV, rfl, hfz, hnd⟩ := hW
  have hA : DataW.TrodAll enc Tryz.prog W 0 (fun _ => true) true Tryz.f7.params.toList args.toList ds p := hA0
  rw [Tryz.params7] at hA hval
  obtain ⟨v0, vs0, d0, ds0, p0, q0, hargs, rfl, rfl, h0, r0⟩ := trodAll_cons hA
  obtain ⟨v1, vs1, d1, ds1, p1, q1, rfl, rfl, rfl, h1, r1⟩ := trodAll_cons r0
  obtain ⟨v2, vs2, d2, ds2, p2, q2, rfl, rfl, rfl, h2, r2⟩ := trodAll_cons r1
  obtain ⟨rfl, rfl, rfl⟩ := trodAll_nil r2
  obtain rfl : args = #[v0, v1, v2] := by cases args; simp_all
  obtain ⟨rfl, rfl⟩ := trodVars_none hV
  obtain ⟨⟨cs0, rfl, k0⟩, b0⟩ := open_kinds [.s 3, .s 3] Tryz.underlying25 (by kernel_rfl) (hval 0 25 v0 rfl rfl) h0
  obtain ⟨c0_0, cs0, rfl, ⟨nss0_0, s0_0⟩, k0⟩ := cells_cons k0
  obtain ⟨c0_1, cs0, rfl, ⟨nss0_1, s0_1⟩, k0⟩ := cells_cons k0
  obtain rfl := cells_nil k0
  obtain ⟨⟨nss1, s1⟩, b1⟩ := open_list Tryz.underlying34 (by kernel_rfl) (show Tryz.prog.cellsOf 3 = 1 from by kernel_rfl) (hval 1 34 v1 rfl rfl) h1
  obtain ⟨x2, rfl, rfl, rfl, w2⟩ := open_int Tryz.underlying3 (hval 2 3 v2 rfl rfl) h2
  clear hA0 hval0 hval hA
  simp only [List.append_nil, List.nil_append] at hW'
  have hC : Con Tryz.prog 7 [.a [.s 0 0 nss0_0.length 3, .s 1 0 nss0_1.length 3], .s 2 0 nss1.length 1, iv x2] [.live false true ((nss0_0.flatten).map iv), .live false true ((nss0_1.flatten).map iv), .live false true ((nss1.flatten).map iv)] (.v (.bool true)) [] := by
    have h := C7_L ((nss0_0.map holdBounds_mk27), (nss0_1.map holdBounds_mk85)) (nss1.map holdBounds_mk3) x2 (by rw [List.length_map]; exact s0_0.2.1) (by rw [List.length_map]; exact s0_1.2.1) (by rw [List.length_map]; exact s1.2.1)
    dsimp only at h
    rw [law_hbounds, flat_mk holdBounds_mkc27 s0_0.1, flat_mk holdBounds_mkc85 s0_1.1, flat_mk holdBounds_mkc3 s1.1] at h
    simp only [List.length_map] at h
    exact h
  refine (law_callsN (vs := [.agg [c0_0, c0_1].toArray, v1, .int .i64 x2]) [(3, c0_0, nss0_0), (3, c0_1, nss0_1), (1, v1, nss1)] hC (by simp only [List.mem_cons, List.not_mem_nil, or_false]; rintro y (rfl | rfl | rfl) <;> assumption) ⟨⟨_, rfl, ⟨slice_rel s0_0 rfl, slice_rel s0_1 rfl, trivial⟩⟩, slice_rel s1 rfl, rfl, trivial⟩).mono fun e W' ⟨he, hb⟩ => ?_
  subst he
  have hargs2 := (all_mk (Below.trod laidOut (by kernel_rfl) (of_decide_eq_true (by kernel_rfl)) h0 hb b0) (all_mk (Below.trod laidOut (by kernel_rfl) (of_decide_eq_true (by kernel_rfl)) h1 hb b1) (all_mk (Below.trod laidOut (by kernel_rfl) (of_decide_eq_true (by kernel_rfl)) h2 hb (fun x hx => by cases hx)) trodAll_mk0)))
  simp only [List.append_nil, List.nil_append] at hargs2
  exact ⟨_, rfl, post_below hW' hb (fun _ _ _ => (all_mk (shut_bool Tryz.underlying4 _) trodAll_mk0)) hargs2 rfl⟩
theorem holdBounds_over : Rows.holdBoundsRow.holds Tryz.pinned (OpenSpec.ofChange Rows.holdBoundsSpec) :=
  OpenClaim.holds_of_wide 7 Tryz.f7 rfl rfl rfl rfl rfl rfl rfl ⟨rfl, rfl, rfl, rfl, rfl⟩ rfl rfl rfl rfl rfl (by kernel_rfl) Tryz.func7 (by kernel_rfl)
    (of_decide_eq_true (by kernel_rfl)) (by unfold Func.isWrapper; first | (rw [if_pos (by decide +kernel)]; kernel_rfl) | (rw [if_neg (by decide +kernel)]; exact ⟨rfl, rfl⟩))
    (fun os started H enc _ => holdBounds_lifted os started H enc)
/-- THE STATEMENT -/
theorem holdBounds_proved : Rows.HoldBoundsSaid :=
  holdBounds_over

end Go.Proofs.YthpgabaeefifbaaGreat
