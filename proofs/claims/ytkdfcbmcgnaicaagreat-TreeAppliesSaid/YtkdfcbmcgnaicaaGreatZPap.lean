/-
  TreeApplies: for every list of charged panels and every operator the law returns true, and its arguments read behind the call as they read before. No condition.
-/
import Derived.Test.YtkdfcbmcgnaicaaGreatVPap8
import Derived.ProofKit
import Derived.OpenShut
namespace Go.Proofs.YtkdfcbmcgnaicaaGreat
open Go.Proofs Go.Aw Go.RowKit
set_option maxRecDepth 100000
set_option linter.unusedVariables false
set_option linter.unusedSimpArgs false
open Go.ChangeShapes Go.WideShapes Go.ChangeAt
def rK (xs:List SV):Int:=(svI (xs.getD 0 .u))
theorem yP (xs:List SV)(h:Shs [.i] xs):c3 (rK xs)=xs:=by
 obtain⟨x0,y0,rfl,⟨n0,rfl⟩,h0⟩:=cZ h
 obtain rfl:=sZ h0
 rfl
def lG (xs:List SV):List (Int×Int):=(svT (xs.getD 0 .u))
theorem wS (xs:List SV)(h:Shs [.t] xs):jM (lG xs)=xs:=by
 obtain⟨x0,y0,rfl,⟨n0,rfl⟩,h0⟩:=cZ h
 obtain rfl:=sZ h0
 unfold lG jM
 simp only [List.getD_cons_zero,List.getD_cons_succ,aTs,aIh (c:=eW) (fun _=>rfl)]
def pW (xs:List SV):Int×Int×Int×Int×(Int×Int×Int)×Int:=((svI (xs.getD 0 .u)),(svI (xs.getD 1 .u)),(svI (xs.getD 2 .u)),(svI (xs.getD 3 .u)),((svI (xs.getD 4 .u)),(svI (xs.getD 5 .u)),(svI (xs.getD 6 .u))),(svI (xs.getD 7 .u)))
theorem wT (xs:List SV)(h:Shs [.i,.i,.i,.i,.i,.i,.i,.i] xs):cB (pW xs)=xs:=by
 obtain⟨x0,y0,rfl,⟨n0,rfl⟩,h0⟩:=cZ h
 obtain⟨x1,y1,rfl,⟨n1,rfl⟩,h1⟩:=cZ h0
 obtain⟨x2,y2,rfl,⟨n2,rfl⟩,h2⟩:=cZ h1
 obtain⟨x3,y3,rfl,⟨n3,rfl⟩,h3⟩:=cZ h2
 obtain⟨x4,y4,rfl,⟨n4,rfl⟩,h4⟩:=cZ h3
 obtain⟨x5,y5,rfl,⟨n5,rfl⟩,h5⟩:=cZ h4
 obtain⟨x6,y6,rfl,⟨n6,rfl⟩,h6⟩:=cZ h5
 obtain⟨x7,y7,rfl,⟨n7,rfl⟩,h7⟩:=cZ h6
 obtain rfl:=sZ h7
 rfl
def pX (xs:List SV):((Int×Int×Int)×(Int×Int×Int)×Int×Int×Int)×Int:=((((svI (xs.getD 0 .u)),(svI (xs.getD 1 .u)),(svI (xs.getD 2 .u))),((svI (xs.getD 3 .u)),(svI (xs.getD 4 .u)),(svI (xs.getD 5 .u))),((svI (xs.getD 6 .u)),(svI (xs.getD 7 .u)),(svI (xs.getD 8 .u)))),(svI (xs.getD 9 .u)))
theorem wU (xs:List SV)(h:Shs [.i,.i,.i,.i,.i,.i,.i,.i,.i,.i] xs):dC (pX xs)=xs:=by
 obtain⟨x0,y0,rfl,⟨n0,rfl⟩,h0⟩:=cZ h
 obtain⟨x1,y1,rfl,⟨n1,rfl⟩,h1⟩:=cZ h0
 obtain⟨x2,y2,rfl,⟨n2,rfl⟩,h2⟩:=cZ h1
 obtain⟨x3,y3,rfl,⟨n3,rfl⟩,h3⟩:=cZ h2
 obtain⟨x4,y4,rfl,⟨n4,rfl⟩,h4⟩:=cZ h3
 obtain⟨x5,y5,rfl,⟨n5,rfl⟩,h5⟩:=cZ h4
 obtain⟨x6,y6,rfl,⟨n6,rfl⟩,h6⟩:=cZ h5
 obtain⟨x7,y7,rfl,⟨n7,rfl⟩,h7⟩:=cZ h6
 obtain⟨x8,y8,rfl,⟨n8,rfl⟩,h8⟩:=cZ h7
 obtain⟨x9,y9,rfl,⟨n9,rfl⟩,h9⟩:=cZ h8
 obtain rfl:=sZ h9
 rfl
def pY (xs:List SV):Int×Int×Bool:=((svI (xs.getD 0 .u)),(svI (xs.getD 1 .u)),(svB (xs.getD 2 .u)))
theorem wV (xs:List SV)(h:Shs [.i,.i,.b] xs):fC (pY xs)=xs:=by
 obtain⟨x0,y0,rfl,⟨n0,rfl⟩,h0⟩:=cZ h
 obtain⟨x1,y1,rfl,⟨n1,rfl⟩,h1⟩:=cZ h0
 obtain⟨x2,y2,rfl,⟨n2,rfl⟩,h2⟩:=cZ h1
 obtain rfl:=sZ h2
 rfl
set_option maxRecDepth 100000 in
theorem vE (os:Os)(started:os.Started)(H:Type)(enc:TypeId×Value->H) :
 ReturnsInHanded {} Tryz.checked os 3 .any (Rows.treeAppliesSpec.pre6 enc Tryz.prog Tryz.f3 Rows.treeAppliesRow.domain false) (Rows.treeAppliesSpec.post enc Tryz.prog Tryz.f3 false true false false):=by
 refine returnsInHanded_of_change (C:=Tryz.checked) own started (by kernel_rfl) Tryz.func3
  (ChangeSpec.witness6 (enc:=enc) (C:=Tryz.checked) false ⟨#[],#[.slice none 0 0,.agg #[.slice none 0 0,.slice none 0 0,.slice none 0 0,.slice none 0 0]],[]⟩ 8 (by kernel_rfl) (by kernel_rfl) (by kernel_rfl) (by kernel_rfl)) ?_
 intro W base args ds gs before hval0 hW hcnd _
 have hval:∀(j:Nat) t v,Tryz.f3.params[j]? = some t->args[j]? = some v->Value.okWide Tryz.prog W .any base t v:=hval0
 have hW':=hW
 obtain⟨p,q,hA0,hV,rfl,hfz,hnd⟩:=hW
 have hA:DataW.TrodAll enc Tryz.prog W 0 (fun _=>true) true Tryz.f3.params.toList args.toList ds p:=hA0
 rw [Tryz.params3] at hA hval
 obtain⟨v0,vs0,d0,ds0,p0,q0,hargs,rfl,rfl,h0,r0⟩:=trodAll_cons hA
 obtain⟨v1,vs1,d1,ds1,p1,q1,rfl,rfl,rfl,h1,r1⟩:=trodAll_cons r0
 obtain⟨rfl,rfl,rfl⟩:=trodAll_nil r1
 obtain rfl:args=#[v0,v1]:=by cases args;simp_all
 obtain⟨rfl,rfl⟩:=trodVars_none hV
 obtain⟨⟨nss0,s0⟩,b0⟩:=aKe [.i,.i,.i,.i,.i,.i,.i,.i,.i,.i] Tryz.underlying22 (by kernel_rfl) (by kernel_rfl) (hval 0 22 v0 rfl rfl) h0
 obtain⟨⟨cs1,rfl,k1⟩,b1⟩:=aIg [.s [.i],.s [.i,.i,.i,.i,.i,.i,.i,.i],.s [.i,.i,.b],.s [.t]] Tryz.underlying30 (by kernel_rfl) (hval 1 30 v1 rfl rfl) h1
 obtain⟨c1_0,cs1,rfl,⟨nss1_0,s1_0⟩,k1⟩:=oJ k1
 obtain⟨c1_1,cs1,rfl,⟨nss1_1,s1_1⟩,k1⟩:=oJ k1
 obtain⟨c1_2,cs1,rfl,⟨nss1_2,s1_2⟩,k1⟩:=oJ k1
 obtain⟨c1_3,cs1,rfl,⟨nss1_3,s1_3⟩,k1⟩:=oJ k1
 obtain rfl:=aKg k1
 clear hA0 hval0 hval hA
 simp only [List.append_nil,List.nil_append] at hW'
 have hC:Con Tryz.prog 3 [.s 0 0 nss0.length 10,.a [.s 1 0 nss1_0.length 1,.s 2 0 nss1_1.length 8,.s 3 0 nss1_2.length 3,.s 4 0 nss1_3.length 1]] [.live false true nss0.flatten,.live false true nss1_0.flatten,.live false true nss1_1.flatten,.live false true nss1_2.flatten,.live false true nss1_3.flatten] (.v (.bool true)) []:=by
  have h:=aXm (nss0.map pX) (((nss1_0.map rK),(nss1_1.map pW)),(nss1_2.map pY),(nss1_3.map lG)) (by rw [List.length_map];exact s0.2.1) (by rw [List.length_map];exact s1_0.2.1) (by rw [List.length_map];exact s1_1.2.1) (by rw [List.length_map];exact s1_2.2.1) (by rw [List.length_map];exact s1_3.2.1)
  dsimp only at h
  rw [aIc,pU wU s0.1,pU yP s1_0.1,pU wT s1_1.1,pU wV s1_2.1,pU wS s1_3.1] at h
  simp only [List.length_map] at h
  exact h
 refine(aKh (vs:=[v0,.agg [c1_0,c1_1,c1_2,c1_3].toArray]) [([.i,.i,.i,.i,.i,.i,.i,.i,.i,.i],10,v0,nss0),([.i],1,c1_0,nss1_0),([.i,.i,.i,.i,.i,.i,.i,.i],8,c1_1,nss1_1),([.i,.i,.b],3,c1_2,nss1_2),([.t],1,c1_3,nss1_3)] hC (by simp only [List.mem_cons,List.not_mem_nil,or_false];rintro y (rfl | rfl | rfl | rfl | rfl)<;>exact⟨by assumption,rfl⟩) ⟨nT s0 rfl rfl,⟨_,rfl,⟨nT s1_0 rfl rfl,nT s1_1 rfl rfl,nT s1_2 rfl rfl,nT s1_3 rfl rfl,trivial⟩⟩,trivial⟩).mono fun e W' ⟨he,hb⟩=>?_
 subst he
 have hargs2:=(aI7 (Below.trod aK3 (by kernel_rfl) (of_decide_eq_true (by kernel_rfl)) h0 hb b0) (aI7 (Below.trod aK3 (by kernel_rfl) (of_decide_eq_true (by kernel_rfl)) h1 hb b1) trodAll_mk0))
 simp only [List.append_nil,List.nil_append] at hargs2
 exact⟨_,rfl,aI6 hW' hb (fun _ _ _=>(aI7 (shut_bool Tryz.underlying4 _) trodAll_mk0)) hargs2 rfl⟩
theorem yQ:Rows.treeAppliesRow.holds Tryz.pinned (OpenSpec.ofChange Rows.treeAppliesSpec) :=
 OpenClaim.holds_of_wide 3 Tryz.f3 rfl rfl rfl rfl rfl rfl rfl ⟨rfl,rfl,rfl,rfl,rfl⟩ rfl rfl rfl rfl rfl (by kernel_rfl) Tryz.func3 (by kernel_rfl)
  (of_decide_eq_true (by kernel_rfl)) (by unfold Func.isWrapper;first | (rw [if_pos (by decide +kernel)];kernel_rfl) | (rw [if_neg (by decide +kernel)];exact⟨rfl,rfl⟩))
  (fun os started H enc _=>vE os started H enc)
/-- THE STATEMENT -/
theorem treeApplies_proved:Rows.TreeAppliesSaid :=
 yQ
end Go.Proofs.YtkdfcbmcgnaicaaGreat
