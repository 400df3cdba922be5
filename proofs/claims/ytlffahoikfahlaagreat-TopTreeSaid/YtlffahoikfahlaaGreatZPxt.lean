/-
  TopTree: for every list of charged panels and both questions the law returns true, and its arguments read behind the call as they read before. No condition.
-/
import Derived.Test.YtlffahoikfahlaaGreatVPxt8
import Derived.ProofKit
import Derived.OpenShut
namespace Go.Proofs.YtlffahoikfahlaaGreat
open Go.Proofs Go.Aw Go.RowKit
set_option maxRecDepth 100000
set_option linter.unusedVariables false
set_option linter.unusedSimpArgs false
/-! ### TopTree -/
theorem aLp {a c:Int×Int} (ha:vs a)(hc:vs c)(h1:a.1<=c.2)(h2:c.1<=a.2):F16 a c=true:=by
 obtain⟨k1,k2⟩:=bBw ha hc h1 h2;unfold F16;rw [k2,k1];rfl
theorem aOc {l:fV} {a:ASK} (h:(eF l a).2=true):MxT.Enc (eF l a).1 (fun η v=>1048576 / 12*pS v a.2.1 l)/\vs (eF l a).1:=by
 unfold eF at h ⊢;cases h1:(((aA l a.1).2:Int) != 0) with
 | true=>rw [h1,cond_true] at h;cases h
 | false =>
 rw [h1,cond_false] at h;rw [cond_false];exact aS9 (eq_of_beq h)
theorem aTe (l:fV)(a b:ASK):zI l a b=true:=by
 unfold zI;rw [show((((mZ 1).2:Int) != 0))=false from rfl,cond_false,show((((((mZ 1).1.2.length:Nat):Int):Int) != 0))=false from rfl,cond_false,aLo l a];cases zH l with
 | true=>rfl
 | false =>
 simp only [cond_false,Bool.not_true];have hx:=aOc (l:=l) (a:=a);have hy:=aOc (l:=l) (a:=(b.1,a.2.1,b.2.2.1,b.2.2.2.1,b.2.2.2.2));have hp:=aN4 (l:=l) (x:=a.2.1) (d:=a.2.2.2.2);simp only [dY,lD,jN];have xy:(eF l a).2=true->(eF l (b.1,a.2.1,b.2.2.1,b.2.2.2.1,b.2.2.2.2)).2=true->F16 (eF l a).1 (eF l (b.1,a.2.1,b.2.2.1,b.2.2.2.1,b.2.2.2.2)).1=true:=fun g1 g2=>by
  obtain⟨e1,v1⟩:=hx g1;obtain⟨e2,v2⟩:=hy g2;exact aLp v1 v2 (e1.meet e2) (e2.meet e1)
 have xp:(eF l a).2=true->(dX l a.2.1 a.2.2.2.2).2=0->F16 (eF l a).1 (dX l a.2.1 a.2.2.2.2).1=true:=fun g1 g2=>by
  obtain⟨e1,v1⟩:=hx g1;obtain⟨e2,v2⟩:=hp g2;exact aLp v1 v2 (e1.meet e2) (e2.meet e1)
 have yp:(eF l (b.1,a.2.1,b.2.2.1,b.2.2.2.1,b.2.2.2.2)).2=true->(dX l a.2.1 a.2.2.2.2).2=0->F16 (eF l (b.1,a.2.1,b.2.2.1,b.2.2.2.1,b.2.2.2.2)).1 (dX l a.2.1 a.2.2.2.2).1=true:=fun g1 g2=>by
  obtain⟨e1,v1⟩:=hy g1;obtain⟨e2,v2⟩:=hp g2;exact aLp v1 v2 (e1.meet e2) (e2.meet e1)
 cases g1:(eF l a).2<;>cases g2:(eF l (b.1,a.2.1,b.2.2.1,b.2.2.2.1,b.2.2.2.2)).2<;>cases g3:(((dX l a.2.1 a.2.2.2.2).2:Int) == 0)<;>simp only [cond_true,cond_false]
 ·rw [yp g2 (eq_of_beq g3)];rfl
 ·rw [xp g1 (eq_of_beq g3)];rfl
 ·rw [xy g1 g2];rfl
 ·rw [xy g1 g2,xp g1 (eq_of_beq g3),yp g2 (eq_of_beq g3)];rfl
open Go.ChangeShapes Go.WideShapes Go.ChangeAt
theorem yD {l:List Int} (h:l.length=7):∃a0 a1 a2 a3 a4 a5 a6,l=[a0,a1,a2,a3,a4,a5,a6]:=by
 match l,h with
 | [a0,a1,a2,a3,a4,a5,a6],_=>exact⟨a0,a1,a2,a3,a4,a5,a6,rfl⟩
theorem aEs {l:List Int} (h:l.length=10):∃a0 a1 a2 a3 a4 a5 a6 a7 a8 a9,l=[a0,a1,a2,a3,a4,a5,a6,a7,a8,a9]:=by
 match l,h with
 | [a0,a1,a2,a3,a4,a5,a6,a7,a8,a9],_=>exact⟨a0,a1,a2,a3,a4,a5,a6,a7,a8,a9,rfl⟩
def yE (ns:List Int):((Int×Int×Int)×(Int×Int×Int)×Int×Int×Int)×Int:=((((ns.getD 0 0),(ns.getD 1 0),(ns.getD 2 0)),((ns.getD 3 0),(ns.getD 4 0),(ns.getD 5 0)),((ns.getD 6 0),(ns.getD 7 0),(ns.getD 8 0))),(ns.getD 9 0))
theorem aEt (ns:List Int)(h:ns.length=10):fJ (yE ns)=ns.map iv:=by
 obtain⟨a0,a1,a2,a3,a4,a5,a6,a7,a8,a9,rfl⟩:=aEs h;rfl
set_option maxRecDepth 100000 in
theorem aDz (os:Os)(started:os.Started)(H:Type)(enc:TypeId×Value->H) :
 ReturnsInHanded {} Tryz.checked os 5 .any (Rows.topTreeSpec.pre6 enc Tryz.prog Tryz.f5 Rows.topTreeRow.domain false) (Rows.topTreeSpec.post enc Tryz.prog Tryz.f5 false true false false):=by
 refine returnsInHanded_of_change (C:=Tryz.checked) own started (by kernel_rfl) Tryz.func5
  (ChangeSpec.witness6 (enc:=enc) (C:=Tryz.checked) false ⟨#[],#[.slice none 0 0,.agg #[.int .i64 0,.int .i64 0,.int .i64 0,.int .i64 0,.int .i64 0,.int .i64 0,.int .i64 0],.agg #[.int .i64 0,.int .i64 0,.int .i64 0,.int .i64 0,.int .i64 0,.int .i64 0,.int .i64 0]],[]⟩ 8 (by kernel_rfl) (by kernel_rfl) (by kernel_rfl) (by kernel_rfl)) ?_
 intro W base args ds gs before hval0 hW hcnd _;have hval:∀(j:Nat) t v,Tryz.f5.params[j]? = some t->args[j]? = some v->Value.okWide Tryz.prog W .any base t v:=hval0;have hW':=hW;obtain⟨p,q,hA0,hV,rfl,hfz,hnd⟩:=hW;have hA:DataW.TrodAll enc Tryz.prog W 0 (fun _=>true) true Tryz.f5.params.toList args.toList ds p:=hA0;rw [Tryz.params5] at hA hval;obtain⟨v0,vs0,d0,ds0,p0,q0,hargs,rfl,rfl,h0,r0⟩:=trodAll_cons hA;obtain⟨v1,vs1,d1,ds1,p1,q1,rfl,rfl,rfl,h1,r1⟩:=trodAll_cons r0;obtain⟨v2,vs2,d2,ds2,p2,q2,rfl,rfl,rfl,h2,r2⟩:=trodAll_cons r1;obtain⟨rfl,rfl,rfl⟩:=trodAll_nil r2;obtain rfl:args=#[v0,v1,v2]:=by cases args;simp_all
 obtain⟨rfl,rfl⟩:=trodVars_none hV;obtain⟨⟨nss0,s0⟩,b0⟩:=aOr Tryz.underlying22 (by kernel_rfl) (show Tryz.prog.cellsOf 70=10 from by kernel_rfl) (hval 0 22 v0 rfl rfl) h0;obtain⟨rfl,ns1,rfl,l1⟩:=aFb Tryz.underlying26 (by kernel_rfl) (hval 1 26 v1 rfl rfl) h1;rw [show Tryz.prog.cellsOf 26=7 from by kernel_rfl] at l1;obtain⟨x1_0,x1_1,x1_2,x1_3,x1_4,x1_5,x1_6,rfl⟩:=yD l1;obtain⟨rfl,ns2,rfl,l2⟩:=aFb Tryz.underlying26 (by kernel_rfl) (hval 2 26 v2 rfl rfl) h2;rw [show Tryz.prog.cellsOf 26=7 from by kernel_rfl] at l2;obtain⟨x2_0,x2_1,x2_2,x2_3,x2_4,x2_5,x2_6,rfl⟩:=yD l2;clear hA0 hval0 hval hA;simp only [List.append_nil,List.nil_append] at hW';have hC:Con Tryz.prog 5 [.s 0 0 nss0.length 10,.a ([x1_0,x1_1,x1_2,x1_3,x1_4,x1_5,x1_6].map iv),.a ([x2_0,x2_1,x2_2,x2_3,x2_4,x2_5,x2_6].map iv)] [.live false true ((nss0.flatten).map iv)] (.v (.bool true)) []:=by
  have h:=bDs (nss0.map yE) (x1_0,(x1_1,x1_2,x1_3),x1_4,x1_5,x1_6) (x2_0,(x2_1,x2_2,x2_3),x2_4,x2_5,x2_6) (by rw [List.length_map];exact s0.2.1);rw [aTe,aMp aEt s0.1] at h;simp only [List.length_map] at h;exact h
 refine(aKy (vs:=[v0,.agg ([x1_0,x1_1,x1_2,x1_3,x1_4,x1_5,x1_6].map (Value.int .i64)).toArray,.agg ([x2_0,x2_1,x2_2,x2_3,x2_4,x2_5,x2_6].map (Value.int .i64)).toArray]) hC s0 ⟨aOs s0 rfl,aMi [x1_0,x1_1,x1_2,x1_3,x1_4,x1_5,x1_6],aMi [x2_0,x2_1,x2_2,x2_3,x2_4,x2_5,x2_6],trivial⟩).mono fun e W' ⟨he,hb⟩=>?_
 subst he;have hargs2:=(aGe (Below.trod aGf (by kernel_rfl) (of_decide_eq_true (by kernel_rfl)) h0 hb b0) (aGe (Below.trod aGf (by kernel_rfl) (of_decide_eq_true (by kernel_rfl)) h1 hb (fun x hx=>by cases hx)) (aGe (Below.trod aGf (by kernel_rfl) (of_decide_eq_true (by kernel_rfl)) h2 hb (fun x hx=>by cases hx)) trodAll_mk0)));simp only [List.append_nil,List.nil_append] at hargs2;exact⟨_,rfl,aKr hW' hb (fun _ _ _=>(aGe (shut_bool Tryz.underlying4 _) trodAll_mk0)) hargs2 rfl⟩
theorem aHn:Rows.topTreeRow.holds Tryz.pinned (OpenSpec.ofChange Rows.topTreeSpec) :=
 OpenClaim.holds_of_wide 5 Tryz.f5 rfl rfl rfl rfl rfl rfl rfl ⟨rfl,rfl,rfl,rfl,rfl⟩ rfl rfl rfl rfl rfl (by kernel_rfl) Tryz.func5 (by kernel_rfl)
  (of_decide_eq_true (by kernel_rfl)) (by unfold Func.isWrapper;first | (rw [if_pos (by decide +kernel)];kernel_rfl) | (rw [if_neg (by decide +kernel)];exact⟨rfl,rfl⟩))
  (fun os started H enc _=>aDz os started H enc)
/-- THE STATEMENT -/
theorem topTree_proved:Rows.TopTreeSaid :=
 aHn
end Go.Proofs.YtlffahoikfahlaaGreat
