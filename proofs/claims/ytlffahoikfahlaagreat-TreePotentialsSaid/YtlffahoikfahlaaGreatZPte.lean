/-
  TreePotentials: for every list of charged panels and every question the law returns true, and its arguments read behind the call as they read before. No condition.
-/
import Derived.Test.YtlffahoikfahlaaGreatVPte8
import Derived.ProofKit
import Derived.OpenShut
namespace Go.Proofs.YtlffahoikfahlaaGreat
open Go.Proofs Go.Aw Go.RowKit
set_option maxRecDepth 100000
set_option linter.unusedVariables false
set_option linter.unusedSimpArgs false
theorem aEy (l:jM)(a:Int×(Int×Int×Int)×Int×Int×Int):aW1 l a=true:=by
 unfold aW1;simp only [aZw,aWz];simp
open Go.ChangeShapes Go.WideShapes Go.ChangeAt
theorem vD {l:List Int} (h:l.length=7):∃a0 a1 a2 a3 a4 a5 a6,l=[a0,a1,a2,a3,a4,a5,a6]:=by
 match l,h with
 | [a0,a1,a2,a3,a4,a5,a6],_=>exact⟨a0,a1,a2,a3,a4,a5,a6,rfl⟩
theorem uB {l:List Int} (h:l.length=10):∃a0 a1 a2 a3 a4 a5 a6 a7 a8 a9,l=[a0,a1,a2,a3,a4,a5,a6,a7,a8,a9]:=by
 match l,h with
 | [a0,a1,a2,a3,a4,a5,a6,a7,a8,a9],_=>exact⟨a0,a1,a2,a3,a4,a5,a6,a7,a8,a9,rfl⟩
def nF (ns:List Int):((Int×Int×Int)×(Int×Int×Int)×Int×Int×Int)×Int:=((((ns.getD 0 0),(ns.getD 1 0),(ns.getD 2 0)),((ns.getD 3 0),(ns.getD 4 0),(ns.getD 5 0)),((ns.getD 6 0),(ns.getD 7 0),(ns.getD 8 0))),(ns.getD 9 0))
theorem uC (ns:List Int)(h:ns.length=10):dI (nF ns)=ns.map iv:=by
 obtain⟨a0,a1,a2,a3,a4,a5,a6,a7,a8,a9,rfl⟩:=uB h;rfl
set_option maxRecDepth 100000 in
theorem sS (os:Os)(started:os.Started)(H:Type)(enc:TypeId×Value->H) :
 ReturnsInHanded {} Tryz.checked os 3 .any (Rows.treePotentialsSpec.pre6 enc Tryz.prog Tryz.f3 Rows.treePotentialsRow.domain false) (Rows.treePotentialsSpec.post enc Tryz.prog Tryz.f3 false true false false):=by
 refine returnsInHanded_of_change (C:=Tryz.checked) own started (by kernel_rfl) Tryz.func3
  (ChangeSpec.witness6 (enc:=enc) (C:=Tryz.checked) false ⟨#[],#[.slice none 0 0,.agg #[.int .i64 0,.int .i64 0,.int .i64 0,.int .i64 0,.int .i64 0,.int .i64 0,.int .i64 0]],[]⟩ 8 (by kernel_rfl) (by kernel_rfl) (by kernel_rfl) (by kernel_rfl)) ?_
 intro W base args ds gs before hval0 hW hcnd _;have hval:∀(j:Nat) t v,Tryz.f3.params[j]? = some t->args[j]? = some v->Value.okWide Tryz.prog W .any base t v:=hval0;have hW':=hW;obtain⟨p,q,hA0,hV,rfl,hfz,hnd⟩:=hW;have hA:DataW.TrodAll enc Tryz.prog W 0 (fun _=>true) true Tryz.f3.params.toList args.toList ds p:=hA0;rw [Tryz.params3] at hA hval;obtain⟨v0,vs0,d0,ds0,p0,q0,hargs,rfl,rfl,h0,r0⟩:=trodAll_cons hA;obtain⟨v1,vs1,d1,ds1,p1,q1,rfl,rfl,rfl,h1,r1⟩:=trodAll_cons r0;obtain⟨rfl,rfl,rfl⟩:=trodAll_nil r1;obtain rfl:args=#[v0,v1]:=by cases args;simp_all
 obtain⟨rfl,rfl⟩:=trodVars_none hV;obtain⟨⟨nss0,s0⟩,b0⟩:=aP3 Tryz.underlying22 (by kernel_rfl) (show Tryz.prog.cellsOf 70=10 from by kernel_rfl) (hval 0 22 v0 rfl rfl) h0;obtain⟨rfl,ns1,rfl,l1⟩:=aP1 Tryz.underlying26 (by kernel_rfl) (hval 1 26 v1 rfl rfl) h1;rw [show Tryz.prog.cellsOf 26=7 from by kernel_rfl] at l1;obtain⟨x1_0,x1_1,x1_2,x1_3,x1_4,x1_5,x1_6,rfl⟩:=vD l1;clear hA0 hval0 hval hA;simp only [List.append_nil,List.nil_append] at hW';have hC:Con Tryz.prog 3 [.s 0 0 nss0.length 10,.a ([x1_0,x1_1,x1_2,x1_3,x1_4,x1_5,x1_6].map iv)] [.live false true ((nss0.flatten).map iv)] (.v (.bool true)) []:=by
  have h:=bF1 (nss0.map nF) (x1_0,(x1_1,x1_2,x1_3),x1_4,x1_5,x1_6) (by rw [List.length_map];exact s0.2.1);rw [aEy,aOa uC s0.1] at h;simp only [List.length_map] at h;exact h
 refine(aMs (vs:=[v0,.agg ([x1_0,x1_1,x1_2,x1_3,x1_4,x1_5,x1_6].map (Value.int .i64)).toArray]) hC s0 ⟨aP4 s0 rfl,aVv [x1_0,x1_1,x1_2,x1_3,x1_4,x1_5,x1_6],trivial⟩).mono fun e W' ⟨he,hb⟩=>?_
 subst he;have hargs2:=(aMn (Below.trod aN3 (by kernel_rfl) (of_decide_eq_true (by kernel_rfl)) h0 hb b0) (aMn (Below.trod aN3 (by kernel_rfl) (of_decide_eq_true (by kernel_rfl)) h1 hb (fun x hx=>by cases hx)) trodAll_mk0));simp only [List.append_nil,List.nil_append] at hargs2;exact⟨_,rfl,aMm hW' hb (fun _ _ _=>(aMn (shut_bool Tryz.underlying4 _) trodAll_mk0)) hargs2 rfl⟩
theorem vE:Rows.treePotentialsRow.holds Tryz.pinned (OpenSpec.ofChange Rows.treePotentialsSpec) :=
 OpenClaim.holds_of_wide 3 Tryz.f3 rfl rfl rfl rfl rfl rfl rfl ⟨rfl,rfl,rfl,rfl,rfl⟩ rfl rfl rfl rfl rfl (by kernel_rfl) Tryz.func3 (by kernel_rfl)
  (of_decide_eq_true (by kernel_rfl)) (by unfold Func.isWrapper;first | (rw [if_pos (by decide +kernel)];kernel_rfl) | (rw [if_neg (by decide +kernel)];exact⟨rfl,rfl⟩))
  (fun os started H enc _=>sS os started H enc)
/-- THE STATEMENT -/
theorem treePotentials_proved:Rows.TreePotentialsSaid :=
 vE
end Go.Proofs.YtlffahoikfahlaaGreat
