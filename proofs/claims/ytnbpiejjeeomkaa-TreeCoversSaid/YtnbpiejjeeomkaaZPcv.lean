/-
  TreeCovers: for every list of charged panels, every leaf and every list of blocks the law returns true, and its arguments read behind the call as they read before. No condition.
-/
import Derived.Test.YtnbpiejjeeomkaaVPcv6
import Derived.ProofKit
import Derived.OpenShut
namespace Go.Proofs.Ytnbpiejjeeomkaa
open Go.Proofs Go.Aw Go.RowKit
set_option maxRecDepth 100000
set_option linter.unusedVariables false
set_option linter.unusedSimpArgs false

open Go.ChangeShapes Go.WideShapes Go.ChangeAt
def treeCovers_mk71 (xs : List SV) : Int × Int × Bool := ((svI (xs.getD 0 .u)), (svI (xs.getD 1 .u)), (svB (xs.getD 2 .u)))
theorem treeCovers_mkc71 (xs : List SV) (h : Shs [.i, .i, .b] xs) : c71 (treeCovers_mk71 xs) = xs := by
  obtain ⟨x0, y0, rfl, ⟨n0, rfl⟩, h0⟩ := shs_cons h
  obtain ⟨x1, y1, rfl, ⟨n1, rfl⟩, h1⟩ := shs_cons h0
  obtain ⟨x2, y2, rfl, ⟨n2, rfl⟩, h2⟩ := shs_cons h1
  obtain rfl := shs_nil h2
  rfl
def treeCovers_mk81 (xs : List SV) : ((Int × Int × Int) × (Int × Int × Int) × Int × Int × Int) × Int := ((((svI (xs.getD 0 .u)), (svI (xs.getD 1 .u)), (svI (xs.getD 2 .u))), ((svI (xs.getD 3 .u)), (svI (xs.getD 4 .u)), (svI (xs.getD 5 .u))), ((svI (xs.getD 6 .u)), (svI (xs.getD 7 .u)), (svI (xs.getD 8 .u)))), (svI (xs.getD 9 .u)))
theorem treeCovers_mkc81 (xs : List SV) (h : Shs [.i, .i, .i, .i, .i, .i, .i, .i, .i, .i] xs) : c81 (treeCovers_mk81 xs) = xs := by
  obtain ⟨x0, y0, rfl, ⟨n0, rfl⟩, h0⟩ := shs_cons h
  obtain ⟨x1, y1, rfl, ⟨n1, rfl⟩, h1⟩ := shs_cons h0
  obtain ⟨x2, y2, rfl, ⟨n2, rfl⟩, h2⟩ := shs_cons h1
  obtain ⟨x3, y3, rfl, ⟨n3, rfl⟩, h3⟩ := shs_cons h2
  obtain ⟨x4, y4, rfl, ⟨n4, rfl⟩, h4⟩ := shs_cons h3
  obtain ⟨x5, y5, rfl, ⟨n5, rfl⟩, h5⟩ := shs_cons h4
  obtain ⟨x6, y6, rfl, ⟨n6, rfl⟩, h6⟩ := shs_cons h5
  obtain ⟨x7, y7, rfl, ⟨n7, rfl⟩, h7⟩ := shs_cons h6
  obtain ⟨x8, y8, rfl, ⟨n8, rfl⟩, h8⟩ := shs_cons h7
  obtain ⟨x9, y9, rfl, ⟨n9, rfl⟩, h9⟩ := shs_cons h8
  obtain rfl := shs_nil h9
  rfl
set_option maxRecDepth 100000 in
theorem treeCovers_lifted (os : Os) (started : os.Started) (H : Type) (enc : TypeId × Value → H) :
    ReturnsInHanded {} Try.checked os 6 .any (Rows.treeCoversSpec.pre6 enc Try.prog Try.f6 Rows.treeCoversRow.domain false) (Rows.treeCoversSpec.post enc Try.prog Try.f6 false true false false) := by
  refine returnsInHanded_of_change (C := Try.checked) own started (by kernel_rfl) Try.func6
    (ChangeSpec.witness6 (enc := enc) (C := Try.checked) false ⟨#[], #[.slice none 0 0, .int .i64 0, .slice none 0 0], []⟩ 8 (by kernel_rfl) (by kernel_rfl) (by kernel_rfl) (by kernel_rfl)) ?_
  intro W base args ds gs before hval0 hW hcnd _
  have hval : ∀ (j : Nat) t v, Try.f6.params[j]? = some t → args[j]? = some v → Value.okWide Try.prog W .any base t v := hval0
  have hW' := hW
  obtain ⟨p, q, hA0, hV, rfl, hfz, hnd⟩ := hW
  have hA : DataW.TrodAll enc Try.prog W 0 (fun _ => true) true Try.f6.params.toList args.toList ds p := hA0
  rw [Try.params6] at hA hval
  obtain ⟨v0, vs0, d0, ds0, p0, q0, hargs, rfl, rfl, h0, r0⟩ := trodAll_cons hA
  obtain ⟨v1, vs1, d1, ds1, p1, q1, rfl, rfl, rfl, h1, r1⟩ := trodAll_cons r0
  obtain ⟨v2, vs2, d2, ds2, p2, q2, rfl, rfl, rfl, h2, r2⟩ := trodAll_cons r1
  obtain ⟨rfl, rfl, rfl⟩ := trodAll_nil r2
  obtain rfl : args = #[v0, v1, v2] := by cases args; simp_all
  obtain ⟨rfl, rfl⟩ := trodVars_none hV
  obtain ⟨⟨nss0, s0⟩, b0⟩ := open_listX [.i, .i, .i, .i, .i, .i, .i, .i, .i, .i] Try.underlying22 (by kernel_rfl) (by kernel_rfl) (hval 0 22 v0 rfl rfl) h0
  obtain ⟨x1, rfl, rfl, rfl, w1⟩ := open_int Try.underlying3 (hval 1 3 v1 rfl rfl) h1
  obtain ⟨⟨nss2, s2⟩, b2⟩ := open_listX [.i, .i, .b] Try.underlying46 (by kernel_rfl) (by kernel_rfl) (hval 2 46 v2 rfl rfl) h2
  clear hA0 hval0 hval hA
  simp only [List.append_nil, List.nil_append] at hW'
  have hC : Con Try.prog 6 [.s 0 0 nss0.length 10, iv x1, .s 1 0 nss2.length 3] [.live false true nss0.flatten, .live false true nss2.flatten] (.v (.bool true)) [] := by
    have h := C6_L_L (nss0.map treeCovers_mk81) x1 (nss2.map treeCovers_mk71) (by rw [List.length_map]; exact s0.2.1) (by rw [List.length_map]; exact s2.2.1)
    rw [law_covers, flat_mkX treeCovers_mkc81 s0.1, flat_mkX treeCovers_mkc71 s2.1] at h
    simp only [List.length_map] at h
    exact h
  refine (law_callsX (vs := [v0, .int .i64 x1, v2]) [([.i, .i, .i, .i, .i, .i, .i, .i, .i, .i], 10, v0, nss0), ([.i, .i, .b], 3, v2, nss2)] hC (by simp only [List.mem_cons, List.not_mem_nil, or_false]; rintro y (rfl | rfl) <;> exact ⟨by assumption, rfl⟩) ⟨slice_relX s0 rfl rfl, rfl, slice_relX s2 rfl rfl, trivial⟩).mono fun e W' ⟨he, hb⟩ => ?_
  subst he
  have hargs2 := (all_mk (Below.trod laidOut (by kernel_rfl) (of_decide_eq_true (by kernel_rfl)) h0 hb b0) (all_mk (Below.trod laidOut (by kernel_rfl) (of_decide_eq_true (by kernel_rfl)) h1 hb (fun x hx => by cases hx)) (all_mk (Below.trod laidOut (by kernel_rfl) (of_decide_eq_true (by kernel_rfl)) h2 hb b2) trodAll_mk0)))
  simp only [List.append_nil, List.nil_append] at hargs2
  exact ⟨_, rfl, post_below hW' hb (fun _ _ _ => (all_mk (shut_bool Try.underlying4 _) trodAll_mk0)) hargs2 rfl⟩
theorem treeCovers_over : Rows.treeCoversRow.holds Try.pinned (OpenSpec.ofChange Rows.treeCoversSpec) :=
  OpenClaim.holds_of_wide 6 Try.f6 rfl rfl rfl rfl rfl rfl rfl ⟨rfl, rfl, rfl, rfl, rfl⟩ rfl rfl rfl rfl rfl (by kernel_rfl) Try.func6 (by kernel_rfl)
    (of_decide_eq_true (by kernel_rfl)) (by unfold Func.isWrapper; first | (rw [if_pos (by decide +kernel)]; kernel_rfl) | (rw [if_neg (by decide +kernel)]; exact ⟨rfl, rfl⟩))
    (fun os started H enc _ => treeCovers_lifted os started H enc)
/-- THE STATEMENT -/
theorem treeCovers_proved : Rows.TreeCoversSaid :=
  treeCovers_over

end Go.Proofs.Ytnbpiejjeeomkaa
