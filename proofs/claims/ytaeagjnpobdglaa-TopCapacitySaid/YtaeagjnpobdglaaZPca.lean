/-
  TopCapacity: for every mesh and every two lists of charges with depths, vector and factor the law returns true, and its arguments read behind the call as they read before. No condition.
-/
import Derived.Test.YtaeagjnpobdglaaVPca6
import Derived.ProofKit
namespace Go.Proofs.Ytaeagjnpobdglaa
open Go.Proofs Go.Aw Go.RowKit
set_option maxRecDepth 100000
set_option linter.unusedVariables false
set_option linter.unusedSimpArgs false
open Go.ChangeShapes Go.WideShapes Go.ChangeAt
theorem wG {l:List Int} (h:l.length=1):∃a0,l=[a0]:=by
  match l,h with
  | [a0],_=>exact⟨a0,rfl⟩
theorem lV {l:List Int} (h:l.length=3):∃a0 a1 a2,l=[a0,a1,a2]:=by
  match l,h with
  | [a0,a1,a2],_=>exact⟨a0,a1,a2,rfl⟩
def jD (ns:List Int):Int:=(ns.getD 0 0)
theorem lW (ns:List Int)(h:ns.length=1):c3 (jD ns)=ns.map iv:=by
  obtain⟨a0,rfl⟩:=wG h
  rfl
def lX (ns:List Int):Int×Int×Int:=((ns.getD 0 0),(ns.getD 1 0),(ns.getD 2 0))
theorem uB (ns:List Int)(h:ns.length=3):cA (lX ns)=ns.map iv:=by
  obtain⟨a0,a1,a2,rfl⟩:=lV h
  rfl
def lY (ns:List Int):Int×Int×Int:=((ns.getD 0 0),(ns.getD 1 0),(ns.getD 2 0))
theorem uC (ns:List Int)(h:ns.length=3):cN (lY ns)=ns.map iv:=by
  obtain⟨a0,a1,a2,rfl⟩:=lV h
  rfl
set_option maxRecDepth 100000 in
theorem sI (os:Os)(started:os.Started)(H:Type)(enc:TypeId×Value→H) :
    ReturnsInHanded {} Try.checked os 5 .any (Rows.topCapacitySpec.pre6 enc Try.prog Try.f5 Rows.topCapacityRow.domain false) (Rows.topCapacitySpec.post enc Try.prog Try.f5 false true false false):=by
  refine returnsInHanded_of_change (C:=Try.checked) own started (by kernel_rfl) Try.func5
    (ChangeSpec.witness6 (enc:=enc) (C:=Try.checked) false ⟨#[],#[.agg #[.slice none 0 0,.slice none 0 0],.agg #[.slice none 0 0,.slice none 0 0,.int .i64 0,.int .i64 0,.int .i64 0,.int .i64 0,.int .i64 0,.int .i64 0]],[]⟩ 8 (by kernel_rfl) (by kernel_rfl) (by kernel_rfl) (by kernel_rfl)) ?_
  intro W base args ds gs before hval0 hW hcnd _
  have hval:∀(j:Nat) t v,Try.f5.params[j]? = some t→args[j]? = some v→Value.okWide Try.prog W .any base t v:=hval0
  have hW':=hW
  obtain⟨p,q,hA0,hV,rfl,hfz,hnd⟩:=hW
  have hA:DataW.TrodAll enc Try.prog W 0 (fun _=>true) true Try.f5.params.toList args.toList ds p:=hA0
  rw [Try.params5] at hA hval
  obtain⟨v0,vs0,d0,ds0,p0,q0,hargs,rfl,rfl,h0,r0⟩:=trodAll_cons hA
  obtain⟨v1,vs1,d1,ds1,p1,q1,rfl,rfl,rfl,h1,r1⟩:=trodAll_cons r0
  obtain⟨rfl,rfl,rfl⟩:=trodAll_nil r1
  obtain rfl:args=#[v0,v1]:=by cases args;simp_all
  obtain⟨rfl,rfl⟩:=trodVars_none hV
  obtain⟨⟨cs0,rfl,k0_0⟩,b0⟩:=aAk [.s 3,.s 3] Try.underlying25 (by kernel_rfl) (hval 0 25 v0 rfl rfl) h0
  obtain⟨c0_0,cs0,rfl,⟨nss0_0,s0_0⟩,k0_1⟩:=dM k0_0
  obtain⟨c0_1,cs0,rfl,⟨nss0_1,s0_1⟩,k0_2⟩:=dM k0_1
  obtain rfl:=aCj k0_2
  obtain⟨⟨cs1,rfl,k1_0⟩,b1⟩:=aAk [.s 1,.s 1,.i,.i,.i,.i,.i,.i] Try.underlying48 (by kernel_rfl) (hval 1 48 v1 rfl rfl) h1
  obtain⟨c1_0,cs1,rfl,⟨nss1_0,s1_0⟩,k1_1⟩:=dM k1_0
  obtain⟨c1_1,cs1,rfl,⟨nss1_1,s1_1⟩,k1_2⟩:=dM k1_1
  obtain⟨c1_2,cs1,rfl,⟨x1_2,rfl⟩,k1_3⟩:=dM k1_2
  obtain⟨c1_3,cs1,rfl,⟨x1_3,rfl⟩,k1_4⟩:=dM k1_3
  obtain⟨c1_4,cs1,rfl,⟨x1_4,rfl⟩,k1_5⟩:=dM k1_4
  obtain⟨c1_5,cs1,rfl,⟨x1_5,rfl⟩,k1_6⟩:=dM k1_5
  obtain⟨c1_6,cs1,rfl,⟨x1_6,rfl⟩,k1_7⟩:=dM k1_6
  obtain⟨c1_7,cs1,rfl,⟨x1_7,rfl⟩,k1_8⟩:=dM k1_7
  obtain rfl:=aCj k1_8
  clear hA0 hval0 hval hA
  simp only [List.append_nil,List.nil_append] at hW'
  have hC:Con Try.prog 5 [.a [.s 0 0 nss0_0.length 3,.s 1 0 nss0_1.length 3],.a [.s 2 0 nss1_0.length 1,.s 3 0 nss1_1.length 1,iv x1_2,iv x1_3,iv x1_4,iv x1_5,iv x1_6,iv x1_7]] [.live false true ((nss0_0.flatten).map iv),.live false true ((nss0_1.flatten).map iv),.live false true ((nss1_0.flatten).map iv),.live false true ((nss1_1.flatten).map iv)] (.v (.bool true)) []:=by
    have h:=C5 ((nss0_0.map lX),(nss0_1.map lY)) ((nss1_0.map jD),(nss1_1.map jD),x1_2,x1_3,(x1_4,x1_5,x1_6),x1_7) (by rw [List.length_map];exact s0_0.2.1) (by rw [List.length_map];exact s0_1.2.1) (by rw [List.length_map];exact s1_0.2.1) (by rw [List.length_map];exact s1_1.2.1)
    dsimp only at h
    rw [aE3,tK uB s0_0.1,tK uC s0_1.1,tK lW s1_0.1,tK lW s1_1.1] at h
    simp only [List.length_map] at h
    exact h
  refine(aHx (vs:=[.agg [c0_0,c0_1].toArray,.agg [c1_0,c1_1,.int .i64 x1_2,.int .i64 x1_3,.int .i64 x1_4,.int .i64 x1_5,.int .i64 x1_6,.int .i64 x1_7].toArray]) [(3,c0_0,nss0_0),(3,c0_1,nss0_1),(1,c1_0,nss1_0),(1,c1_1,nss1_1)] hC (by simp only [List.mem_cons,List.not_mem_nil,or_false];rintro y (rfl | rfl | rfl | rfl)<;>assumption) ⟨⟨_,rfl,⟨pG s0_0 rfl,pG s0_1 rfl,trivial⟩⟩,⟨_,rfl,⟨pG s1_0 rfl,pG s1_1 rfl,rfl,rfl,rfl,rfl,rfl,rfl,trivial⟩⟩,trivial⟩).mono fun e W' ⟨he,hb⟩=>?_
  subst he
  have hargs2:=(aHo (Below.trod aJm (by kernel_rfl) (of_decide_eq_true (by kernel_rfl)) h0 hb b0) (aHo (Below.trod aJm (by kernel_rfl) (of_decide_eq_true (by kernel_rfl)) h1 hb b1) trodAll_mk0))
  simp only [List.append_nil,List.nil_append] at hargs2
  exact⟨_,rfl,aHn hW' hb (fun _ _ _=>(aHo (shut_bool Try.underlying4 _) trodAll_mk0)) hargs2 rfl⟩
theorem wH:Rows.topCapacityRow.holds Try.pinned (OpenSpec.ofChange Rows.topCapacitySpec) :=
  OpenClaim.holds_of_wide 5 Try.f5 rfl rfl rfl rfl rfl rfl rfl ⟨rfl,rfl,rfl,rfl,rfl⟩ rfl rfl rfl rfl rfl (by kernel_rfl) Try.func5 (by kernel_rfl)
    (of_decide_eq_true (by kernel_rfl)) (by unfold Func.isWrapper;first | (rw [if_pos (by decide +kernel)];kernel_rfl) | (rw [if_neg (by decide +kernel)];exact⟨rfl,rfl⟩))
    (fun os started H enc _=>sI os started H enc)
/-- THE STATEMENT -/
theorem topCapacity_proved:Rows.TopCapacitySaid :=
  wH
end Go.Proofs.Ytaeagjnpobdglaa
