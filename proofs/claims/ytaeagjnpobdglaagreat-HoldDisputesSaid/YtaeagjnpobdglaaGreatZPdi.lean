/-
  HoldDisputes: for every mesh and every two certificates the law returns true, and its arguments read behind the call as they read before. No condition.
-/
import Derived.Test.YtaeagjnpobdglaaGreatVPdi7
import Derived.ProofKit
namespace Go.Proofs.YtaeagjnpobdglaaGreat
open Go.Proofs Go.Aw Go.RowKit
set_option maxRecDepth 100000
set_option linter.unusedVariables false
set_option linter.unusedSimpArgs false
open Go.ChangeShapes Go.WideShapes Go.ChangeAt
theorem wJ {l:List Int} (h:l.length=1):∃a0,l=[a0]:=by
  match l,h with
  | [a0],_=>exact⟨a0,rfl⟩
theorem mU {l:List Int} (h:l.length=3):∃a0 a1 a2,l=[a0,a1,a2]:=by
  match l,h with
  | [a0,a1,a2],_=>exact⟨a0,a1,a2,rfl⟩
def jT (ns:List Int):Int:=(ns.getD 0 0)
theorem mV (ns:List Int)(h:ns.length=1):c3 (jT ns)=ns.map iv:=by
  obtain⟨a0,rfl⟩:=wJ h
  rfl
def mW (ns:List Int):Int×Int×Int:=((ns.getD 0 0),(ns.getD 1 0),(ns.getD 2 0))
theorem uF (ns:List Int)(h:ns.length=3):dT (mW ns)=ns.map iv:=by
  obtain⟨a0,a1,a2,rfl⟩:=mU h
  rfl
def mZ (ns:List Int):Int×Int×Int:=((ns.getD 0 0),(ns.getD 1 0),(ns.getD 2 0))
theorem uG (ns:List Int)(h:ns.length=3):eZ (mZ ns)=ns.map iv:=by
  obtain⟨a0,a1,a2,rfl⟩:=mU h
  rfl
set_option maxRecDepth 100000 in
theorem sH (os:Os)(started:os.Started)(H:Type)(enc:TypeId×Value→H) :
    ReturnsInHanded {} Tryz.checked os 7 .any (Rows.holdDisputesSpec.pre6 enc Tryz.prog Tryz.f7 Rows.holdDisputesRow.domain false) (Rows.holdDisputesSpec.post enc Tryz.prog Tryz.f7 false true false false):=by
  refine returnsInHanded_of_change (C:=Tryz.checked) own started (by kernel_rfl) Tryz.func7
    (ChangeSpec.witness6 (enc:=enc) (C:=Tryz.checked) false ⟨#[],#[.agg #[.slice none 0 0,.slice none 0 0],.agg #[.slice none 0 0,.int .i64 0,.int .i64 0,.int .i64 0],.agg #[.slice none 0 0,.int .i64 0,.int .i64 0,.int .i64 0]],[]⟩ 8 (by kernel_rfl) (by kernel_rfl) (by kernel_rfl) (by kernel_rfl)) ?_
  intro W base args ds gs before hval0 hW hcnd _
  have hval:∀(j:Nat) t v,Tryz.f7.params[j]? = some t→args[j]? = some v→Value.okWide Tryz.prog W .any base t v:=hval0
  have hW':=hW
  obtain⟨p,q,hA0,hV,rfl,hfz,hnd⟩:=hW
  have hA:DataW.TrodAll enc Tryz.prog W 0 (fun _=>true) true Tryz.f7.params.toList args.toList ds p:=hA0
  rw [Tryz.params7] at hA hval
  obtain⟨v0,vs0,d0,ds0,p0,q0,hargs,rfl,rfl,h0,r0⟩:=trodAll_cons hA
  obtain⟨v1,vs1,d1,ds1,p1,q1,rfl,rfl,rfl,h1,r1⟩:=trodAll_cons r0
  obtain⟨v2,vs2,d2,ds2,p2,q2,rfl,rfl,rfl,h2,r2⟩:=trodAll_cons r1
  obtain⟨rfl,rfl,rfl⟩:=trodAll_nil r2
  obtain rfl:args=#[v0,v1,v2]:=by cases args;simp_all
  obtain⟨rfl,rfl⟩:=trodVars_none hV
  obtain⟨⟨cs0,rfl,k0_0⟩,b0⟩:=tO [.s 3,.s 3] Tryz.underlying25 (by kernel_rfl) (hval 0 25 v0 rfl rfl) h0
  obtain⟨c0_0,cs0,rfl,⟨nss0_0,s0_0⟩,k0_1⟩:=eE k0_0
  obtain⟨c0_1,cs0,rfl,⟨nss0_1,s0_1⟩,k0_2⟩:=eE k0_1
  obtain rfl:=xL k0_2
  obtain⟨⟨cs1,rfl,k1_0⟩,b1⟩:=tO [.s 1,.i,.i,.i] Tryz.underlying47 (by kernel_rfl) (hval 1 47 v1 rfl rfl) h1
  obtain⟨c1_0,cs1,rfl,⟨nss1_0,s1_0⟩,k1_1⟩:=eE k1_0
  obtain⟨c1_1,cs1,rfl,⟨x1_1,rfl⟩,k1_2⟩:=eE k1_1
  obtain⟨c1_2,cs1,rfl,⟨x1_2,rfl⟩,k1_3⟩:=eE k1_2
  obtain⟨c1_3,cs1,rfl,⟨x1_3,rfl⟩,k1_4⟩:=eE k1_3
  obtain rfl:=xL k1_4
  obtain⟨⟨cs2,rfl,k2_0⟩,b2⟩:=tO [.s 1,.i,.i,.i] Tryz.underlying47 (by kernel_rfl) (hval 2 47 v2 rfl rfl) h2
  obtain⟨c2_0,cs2,rfl,⟨nss2_0,s2_0⟩,k2_1⟩:=eE k2_0
  obtain⟨c2_1,cs2,rfl,⟨x2_1,rfl⟩,k2_2⟩:=eE k2_1
  obtain⟨c2_2,cs2,rfl,⟨x2_2,rfl⟩,k2_3⟩:=eE k2_2
  obtain⟨c2_3,cs2,rfl,⟨x2_3,rfl⟩,k2_4⟩:=eE k2_3
  obtain rfl:=xL k2_4
  clear hA0 hval0 hval hA
  simp only [List.append_nil,List.nil_append] at hW'
  have hC:Con Tryz.prog 7 [.a [.s 0 0 nss0_0.length 3,.s 1 0 nss0_1.length 3],.a [.s 2 0 nss1_0.length 1,iv x1_1,iv x1_2,iv x1_3],.a [.s 3 0 nss2_0.length 1,iv x2_1,iv x2_2,iv x2_3]] [.live false true ((nss0_0.flatten).map iv),.live false true ((nss0_1.flatten).map iv),.live false true ((nss1_0.flatten).map iv),.live false true ((nss2_0.flatten).map iv)] (.v (.bool true)) []:=by
    have h:=C7 ((nss0_0.map mW),(nss0_1.map mZ)) ((nss1_0.map jT),x1_1,(x1_2,x1_3)) ((nss2_0.map jT),x2_1,(x2_2,x2_3)) (by rw [List.length_map];exact s0_0.2.1) (by rw [List.length_map];exact s0_1.2.1) (by rw [List.length_map];exact s1_0.2.1) (by rw [List.length_map];exact s2_0.2.1)
    dsimp only at h
    rw [aHs,vT uF s0_0.1,vT uG s0_1.1,vT mV s1_0.1,vT mV s2_0.1] at h
    simp only [List.length_map] at h
    exact h
  refine(aKz (vs:=[.agg [c0_0,c0_1].toArray,.agg [c1_0,.int .i64 x1_1,.int .i64 x1_2,.int .i64 x1_3].toArray,.agg [c2_0,.int .i64 x2_1,.int .i64 x2_2,.int .i64 x2_3].toArray]) [(3,c0_0,nss0_0),(3,c0_1,nss0_1),(1,c1_0,nss1_0),(1,c2_0,nss2_0)] hC (by simp only [List.mem_cons,List.not_mem_nil,or_false];rintro y (rfl | rfl | rfl | rfl)<;>assumption) ⟨⟨_,rfl,⟨rJ s0_0 rfl,rJ s0_1 rfl,trivial⟩⟩,⟨_,rfl,⟨rJ s1_0 rfl,rfl,rfl,rfl,trivial⟩⟩,⟨_,rfl,⟨rJ s2_0 rfl,rfl,rfl,rfl,trivial⟩⟩,trivial⟩).mono fun e W' ⟨he,hb⟩=>?_
  subst he
  have hargs2:=(aGb (Below.trod aGc (by kernel_rfl) (of_decide_eq_true (by kernel_rfl)) h0 hb b0) (aGb (Below.trod aGc (by kernel_rfl) (of_decide_eq_true (by kernel_rfl)) h1 hb b1) (aGb (Below.trod aGc (by kernel_rfl) (of_decide_eq_true (by kernel_rfl)) h2 hb b2) trodAll_mk0)))
  simp only [List.append_nil,List.nil_append] at hargs2
  exact⟨_,rfl,aKi hW' hb (fun _ _ _=>(aGb (shut_bool Tryz.underlying4 _) trodAll_mk0)) hargs2 rfl⟩
theorem wK:Rows.holdDisputesRow.holds Tryz.pinned (OpenSpec.ofChange Rows.holdDisputesSpec) :=
  OpenClaim.holds_of_wide 7 Tryz.f7 rfl rfl rfl rfl rfl rfl rfl ⟨rfl,rfl,rfl,rfl,rfl⟩ rfl rfl rfl rfl rfl (by kernel_rfl) Tryz.func7 (by kernel_rfl)
    (of_decide_eq_true (by kernel_rfl)) (by unfold Func.isWrapper;first | (rw [if_pos (by decide +kernel)];kernel_rfl) | (rw [if_neg (by decide +kernel)];exact⟨rfl,rfl⟩))
    (fun os started H enc _=>sH os started H enc)
/-- THE STATEMENT -/
theorem holdDisputes_proved:Rows.HoldDisputesSaid :=
  wK
end Go.Proofs.YtaeagjnpobdglaaGreat
