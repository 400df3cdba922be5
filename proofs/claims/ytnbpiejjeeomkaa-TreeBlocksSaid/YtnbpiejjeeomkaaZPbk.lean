/-
  TreeBlocks: for every list of charged panels, every leaf and separation the law returns true, and its arguments read behind the call as they read before. No condition.
-/
import Derived.Test.YtnbpiejjeeomkaaVPbk7
import Derived.ProofKit
import Derived.OpenShut
namespace Go.Proofs.Ytnbpiejjeeomkaa
open Go.Proofs Go.Aw Go.RowKit
set_option maxRecDepth 100000
set_option linter.unusedVariables false
set_option linter.unusedSimpArgs false

open Go.ChangeShapes Go.WideShapes Go.ChangeAt
theorem treeBlocks_len10 {l : List Int} (h : l.length = 10) : ∃ a0 a1 a2 a3 a4 a5 a6 a7 a8 a9, l = [a0, a1, a2, a3, a4, a5, a6, a7, a8, a9] := by
  match l, h with
  | [a0, a1, a2, a3, a4, a5, a6, a7, a8, a9], _ => exact ⟨a0, a1, a2, a3, a4, a5, a6, a7, a8, a9, rfl⟩
def treeBlocks_mk81 (ns : List Int) : ((Int × Int × Int) × (Int × Int × Int) × Int × Int × Int) × Int := ((((ns.getD 0 0), (ns.getD 1 0), (ns.getD 2 0)), ((ns.getD 3 0), (ns.getD 4 0), (ns.getD 5 0)), ((ns.getD 6 0), (ns.getD 7 0), (ns.getD 8 0))), (ns.getD 9 0))
theorem treeBlocks_mkc81 (ns : List Int) (h : ns.length = 10) : c81 (treeBlocks_mk81 ns) = ns.map iv := by
  obtain ⟨a0, a1, a2, a3, a4, a5, a6, a7, a8, a9, rfl⟩ := treeBlocks_len10 h
  rfl
set_option maxRecDepth 100000 in
theorem treeBlocks_lifted (os : Os) (started : os.Started) (H : Type) (enc : TypeId × Value → H) :
    ReturnsInHanded {} Try.checked os 9 .any (Rows.treeBlocksSpec.pre6 enc Try.prog Try.f9 Rows.treeBlocksRow.domain false) (Rows.treeBlocksSpec.post enc Try.prog Try.f9 false true false false) := by
  refine returnsInHanded_of_change (C := Try.checked) own started (by kernel_rfl) Try.func9
    (ChangeSpec.witness6 (enc := enc) (C := Try.checked) false ⟨#[], #[.slice none 0 0, .int .i64 0, .int .i64 0], []⟩ 8 (by kernel_rfl) (by kernel_rfl) (by kernel_rfl) (by kernel_rfl)) ?_
  intro W base args ds gs before hval0 hW hcnd _
  have hval : ∀ (j : Nat) t v, Try.f9.params[j]? = some t → args[j]? = some v → Value.okWide Try.prog W .any base t v := hval0
  have hW' := hW
  obtain ⟨p, q, hA0, hV, rfl, hfz, hnd⟩ := hW
  have hA : DataW.TrodAll enc Try.prog W 0 (fun _ => true) true Try.f9.params.toList args.toList ds p := hA0
  rw [Try.params9] at hA hval
  obtain ⟨v0, vs0, d0, ds0, p0, q0, hargs, rfl, rfl, h0, r0⟩ := trodAll_cons hA
  obtain ⟨v1, vs1, d1, ds1, p1, q1, rfl, rfl, rfl, h1, r1⟩ := trodAll_cons r0
  obtain ⟨v2, vs2, d2, ds2, p2, q2, rfl, rfl, rfl, h2, r2⟩ := trodAll_cons r1
  obtain ⟨rfl, rfl, rfl⟩ := trodAll_nil r2
  obtain rfl : args = #[v0, v1, v2] := by cases args; simp_all
  obtain ⟨rfl, rfl⟩ := trodVars_none hV
  obtain ⟨⟨nss0, s0⟩, b0⟩ := open_list Try.underlying22 (by kernel_rfl) (show Try.prog.cellsOf 81 = 10 from by kernel_rfl) (hval 0 22 v0 rfl rfl) h0
  obtain ⟨x1, rfl, rfl, rfl, w1⟩ := open_int Try.underlying3 (hval 1 3 v1 rfl rfl) h1
  obtain ⟨x2, rfl, rfl, rfl, w2⟩ := open_int Try.underlying3 (hval 2 3 v2 rfl rfl) h2
  clear hA0 hval0 hval hA
  simp only [List.append_nil, List.nil_append] at hW'
  have hC : Con Try.prog 9 [.s 0 0 nss0.length 10, iv x1, iv x2] [.live false true ((nss0.flatten).map iv)] (.v (.bool true)) [] := by
    have h := C9_L (nss0.map treeBlocks_mk81) x1 x2 (by rw [List.length_map]; exact s0.2.1)
    rw [law_blocks, flat_mk treeBlocks_mkc81 s0.1] at h
    simp only [List.length_map] at h
    exact h
  refine (law_calls1 (vs := [v0, .int .i64 x1, .int .i64 x2]) hC s0 ⟨slice_rel s0 rfl, rfl, rfl, trivial⟩).mono fun e W' ⟨he, hb⟩ => ?_
  subst he
  have hargs2 := (all_mk (Below.trod laidOut (by kernel_rfl) (of_decide_eq_true (by kernel_rfl)) h0 hb b0) (all_mk (Below.trod laidOut (by kernel_rfl) (of_decide_eq_true (by kernel_rfl)) h1 hb (fun x hx => by cases hx)) (all_mk (Below.trod laidOut (by kernel_rfl) (of_decide_eq_true (by kernel_rfl)) h2 hb (fun x hx => by cases hx)) trodAll_mk0)))
  simp only [List.append_nil, List.nil_append] at hargs2
  exact ⟨_, rfl, post_below hW' hb (fun _ _ _ => (all_mk (shut_bool Try.underlying4 _) trodAll_mk0)) hargs2 rfl⟩
theorem treeBlocks_over : Rows.treeBlocksRow.holds Try.pinned (OpenSpec.ofChange Rows.treeBlocksSpec) :=
  OpenClaim.holds_of_wide 9 Try.f9 rfl rfl rfl rfl rfl rfl rfl ⟨rfl, rfl, rfl, rfl, rfl⟩ rfl rfl rfl rfl rfl (by kernel_rfl) Try.func9 (by kernel_rfl)
    (of_decide_eq_true (by kernel_rfl)) (by unfold Func.isWrapper; first | (rw [if_pos (by decide +kernel)]; kernel_rfl) | (rw [if_neg (by decide +kernel)]; exact ⟨rfl, rfl⟩))
    (fun os started H enc _ => treeBlocks_lifted os started H enc)
/-- THE STATEMENT -/
theorem treeBlocks_proved : Rows.TreeBlocksSaid :=
  treeBlocks_over

end Go.Proofs.Ytnbpiejjeeomkaa
