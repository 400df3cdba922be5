/-
  HoldNarrows: for every mesh and every list of certificates the law returns true, and its arguments read behind the call as they read before. No condition.
-/
import Derived.Test.YtaeagjnpobdglaaGreatVPna7
import Derived.ProofKit
import Derived.OpenShut
namespace Go.Proofs.YtaeagjnpobdglaaGreat
open Go.Proofs Go.Aw Go.RowKit
set_option maxRecDepth 100000
set_option linter.unusedVariables false
set_option linter.unusedSimpArgs false
open Go.ChangeShapes Go.WideShapes Go.ChangeAt
def oG (xs:List SV):Int×Int×Int:=((svI (xs.getD 0 .u)),(svI (xs.getD 1 .u)),(svI (xs.getD 2 .u)))
theorem wN (xs:List SV)(h:Shs [.i,.i,.i] xs):dL (oG xs)=xs:=by
  obtain⟨x0,y0,rfl,⟨n0,rfl⟩,h0⟩:=gY h
  obtain⟨x1,y1,rfl,⟨n1,rfl⟩,h1⟩:=gY h0
  obtain⟨x2,y2,rfl,⟨n2,rfl⟩,h2⟩:=gY h1
  obtain rfl:=aHw h2
  rfl
def jW (xs:List SV):List (Int)×Int×Int×Int:=((svS (xs.getD 0 .u)),(svI (xs.getD 1 .u)),((svI (xs.getD 2 .u)),(svI (xs.getD 3 .u))))
theorem wO (xs:List SV)(h:Shs [.s,.i,.i,.i] xs):c47 (jW xs)=xs:=by
  obtain⟨x0,y0,rfl,⟨n0,rfl⟩,h0⟩:=gY h
  obtain⟨x1,y1,rfl,⟨n1,rfl⟩,h1⟩:=gY h0
  obtain⟨x2,y2,rfl,⟨n2,rfl⟩,h2⟩:=gY h1
  obtain⟨x3,y3,rfl,⟨n3,rfl⟩,h3⟩:=gY h2
  obtain rfl:=aHw h3
  unfold jW c47
  simp only [List.getD_cons_zero,List.getD_cons_succ,bEv,aOf (c:=c3) (fun _=>rfl)]
  rfl
def oH (xs:List SV):Int×Int×Int:=((svI (xs.getD 0 .u)),(svI (xs.getD 1 .u)),(svI (xs.getD 2 .u)))
theorem wP (xs:List SV)(h:Shs [.i,.i,.i] xs):dW (oH xs)=xs:=by
  obtain⟨x0,y0,rfl,⟨n0,rfl⟩,h0⟩:=gY h
  obtain⟨x1,y1,rfl,⟨n1,rfl⟩,h1⟩:=gY h0
  obtain⟨x2,y2,rfl,⟨n2,rfl⟩,h2⟩:=gY h1
  obtain rfl:=aHw h2
  rfl
set_option maxRecDepth 100000 in
theorem uJ (os:Os)(started:os.Started)(H:Type)(enc:TypeId×Value->H) :
    ReturnsInHanded {} Tryz.checked os 8 .any (Rows.holdNarrowsSpec.pre6 enc Tryz.prog Tryz.f8 Rows.holdNarrowsRow.domain false) (Rows.holdNarrowsSpec.post enc Tryz.prog Tryz.f8 false true false false):=by
  refine returnsInHanded_of_change (C:=Tryz.checked) own started (by kernel_rfl) Tryz.func8
    (ChangeSpec.witness6 (enc:=enc) (C:=Tryz.checked) false ⟨#[],#[.agg #[.slice none 0 0,.slice none 0 0],.slice none 0 0],[]⟩ 8 (by kernel_rfl) (by kernel_rfl) (by kernel_rfl) (by kernel_rfl)) ?_
  intro W base args ds gs before hval0 hW hcnd _
  have hval:∀(j:Nat) t v,Tryz.f8.params[j]? = some t->args[j]? = some v->Value.okWide Tryz.prog W .any base t v:=hval0
  have hW':=hW
  obtain⟨p,q,hA0,hV,rfl,hfz,hnd⟩:=hW
  have hA:DataW.TrodAll enc Tryz.prog W 0 (fun _=>true) true Tryz.f8.params.toList args.toList ds p:=hA0
  rw [Tryz.params8] at hA hval
  obtain⟨v0,vs0,d0,ds0,p0,q0,hargs,rfl,rfl,h0,r0⟩:=trodAll_cons hA
  obtain⟨v1,vs1,d1,ds1,p1,q1,rfl,rfl,rfl,h1,r1⟩:=trodAll_cons r0
  obtain⟨rfl,rfl,rfl⟩:=trodAll_nil r1
  obtain rfl:args=#[v0,v1]:=by cases args;simp_all
  obtain⟨rfl,rfl⟩:=trodVars_none hV
  obtain⟨⟨cs0,rfl,k0⟩,b0⟩:=aJr [.s [.i,.i,.i],.s [.i,.i,.i]] Tryz.underlying25 (by kernel_rfl) (hval 0 25 v0 rfl rfl) h0
  obtain⟨c0_0,cs0,rfl,⟨nss0_0,s0_0⟩,k0⟩:=zN k0
  obtain⟨c0_1,cs0,rfl,⟨nss0_1,s0_1⟩,k0⟩:=zN k0
  obtain rfl:=aMc k0
  obtain⟨⟨nss1,s1⟩,b1⟩:=aMa [.s,.i,.i,.i] Tryz.underlying57 (by kernel_rfl) (by kernel_rfl) (hval 1 57 v1 rfl rfl) h1
  clear hA0 hval0 hval hA
  simp only [List.append_nil,List.nil_append] at hW'
  have hC:Con Tryz.prog 8 [.a [.s 0 0 nss0_0.length 3,.s 1 0 nss0_1.length 3],.s 2 0 nss1.length 4] [.live false true nss0_0.flatten,.live false true nss0_1.flatten,.live false true nss1.flatten] (.v (.bool true)) []:=by
    have h:=bF5 ((nss0_0.map oG),(nss0_1.map oH)) (nss1.map jW) (by rw [List.length_map];exact s0_0.2.1) (by rw [List.length_map];exact s0_1.2.1) (by rw [List.length_map];exact s1.2.1)
    dsimp only at h
    rw [aJn,wM wN s0_0.1,wM wP s0_1.1,wM wO s1.1] at h
    simp only [List.length_map] at h
    exact h
  refine(aMd (vs:=[.agg [c0_0,c0_1].toArray,v1]) [([.i,.i,.i],3,c0_0,nss0_0),([.i,.i,.i],3,c0_1,nss0_1),([.s,.i,.i,.i],4,v1,nss1)] hC (by simp only [List.mem_cons,List.not_mem_nil,or_false];rintro y (rfl | rfl | rfl)<;>exact⟨by assumption,rfl⟩) ⟨⟨_,rfl,⟨uI s0_0 rfl rfl,uI s0_1 rfl rfl,trivial⟩⟩,uI s1 rfl rfl,trivial⟩).mono fun e W' ⟨he,hb⟩=>?_
  subst he
  have hargs2:=(aKq (Below.trod aM7 (by kernel_rfl) (of_decide_eq_true (by kernel_rfl)) h0 hb b0) (aKq (Below.trod aM7 (by kernel_rfl) (of_decide_eq_true (by kernel_rfl)) h1 hb b1) trodAll_mk0))
  simp only [List.append_nil,List.nil_append] at hargs2
  exact⟨_,rfl,aKp hW' hb (fun _ _ _=>(aKq (shut_bool Tryz.underlying4 _) trodAll_mk0)) hargs2 rfl⟩
theorem yS:Rows.holdNarrowsRow.holds Tryz.pinned (OpenSpec.ofChange Rows.holdNarrowsSpec) :=
  OpenClaim.holds_of_wide 8 Tryz.f8 rfl rfl rfl rfl rfl rfl rfl ⟨rfl,rfl,rfl,rfl,rfl⟩ rfl rfl rfl rfl rfl (by kernel_rfl) Tryz.func8 (by kernel_rfl)
    (of_decide_eq_true (by kernel_rfl)) (by unfold Func.isWrapper;first | (rw [if_pos (by decide +kernel)];kernel_rfl) | (rw [if_neg (by decide +kernel)];exact⟨rfl,rfl⟩))
    (fun os started H enc _=>uJ os started H enc)
/-- THE STATEMENT -/
theorem holdNarrows_proved:Rows.HoldNarrowsSaid :=
  yS
end Go.Proofs.YtaeagjnpobdglaaGreat
