/-
  HoldImproves: for every mesh and depth the law returns true, and its arguments read behind the call as they read before. No condition.
-/
import Derived.Test.YtcmdknehplnpfaaGreatVPhi6
import Derived.ProofKit
namespace Go.Proofs.YtcmdknehplnpfaaGreat
open Go.Proofs Go.Aw Go.RowKit
set_option maxRecDepth 100000
set_option linter.unusedVariables false
set_option linter.unusedSimpArgs false
open Go.ChangeShapes Go.WideShapes Go.ChangeAt
theorem lI {l:List Int} (h:l.length=3):∃a0 a1 a2,l=[a0,a1,a2]:=by
 match l,h with
 | [a0,a1,a2],_=>exact⟨a0,a1,a2,rfl⟩
def lJ (ns:List Int):Int×Int×Int:=((ns.getD 0 0),(ns.getD 1 0),(ns.getD 2 0))
theorem sF (ns:List Int)(h:ns.length=3):dQ (lJ ns)=ns.map iv:=by
 obtain⟨a0,a1,a2,rfl⟩:=lI h
 rfl
def lK (ns:List Int):Int×Int×Int:=((ns.getD 0 0),(ns.getD 1 0),(ns.getD 2 0))
theorem sG (ns:List Int)(h:ns.length=3):eE (lK ns)=ns.map iv:=by
 obtain⟨a0,a1,a2,rfl⟩:=lI h
 rfl
set_option maxRecDepth 100000 in
theorem qN (os:Os)(started:os.Started)(H:Type)(enc:TypeId×Value->H) :
 ReturnsInHanded {} Tryz.checked os 3 .any (Rows.holdImprovesSpec.pre6 enc Tryz.prog Tryz.f3 Rows.holdImprovesRow.domain false) (Rows.holdImprovesSpec.post enc Tryz.prog Tryz.f3 false true false false):=by
 refine returnsInHanded_of_change (C:=Tryz.checked) own started (by kernel_rfl) Tryz.func3
  (ChangeSpec.witness6 (enc:=enc) (C:=Tryz.checked) false ⟨#[],#[.agg #[.slice none 0 0,.slice none 0 0],.int .i64 0],[]⟩ 8 (by kernel_rfl) (by kernel_rfl) (by kernel_rfl) (by kernel_rfl)) ?_
 intro W base args ds gs before hval0 hW hcnd _
 have hval:∀(j:Nat) t v,Tryz.f3.params[j]? = some t->args[j]? = some v->Value.okWide Tryz.prog W .any base t v:=hval0
 have hW':=hW
 obtain⟨p,q,hA0,hV,rfl,hfz,hnd⟩:=hW
 have hA:DataW.TrodAll enc Tryz.prog W 0 (fun _=>true) true Tryz.f3.params.toList args.toList ds p:=hA0
 rw [Tryz.params3] at hA hval
 obtain⟨v0,vs0,d0,ds0,p0,q0,hargs,rfl,rfl,h0,r0⟩:=trodAll_cons hA
 obtain⟨v1,vs1,d1,ds1,p1,q1,rfl,rfl,rfl,h1,r1⟩:=trodAll_cons r0
 obtain⟨rfl,rfl,rfl⟩:=trodAll_nil r1
 obtain rfl:args=#[v0,v1]:=by cases args;simp_all
 obtain⟨rfl,rfl⟩:=trodVars_none hV
 obtain⟨⟨cs0,rfl,k0_0⟩,b0⟩:=aH0 [.s 3,.s 3] Tryz.underlying25 (by kernel_rfl) (hval 0 25 v0 rfl rfl) h0
 obtain⟨c0_0,cs0,rfl,⟨nss0_0,s0_0⟩,k0_1⟩:=aAr k0_0
 obtain⟨c0_1,cs0,rfl,⟨nss0_1,s0_1⟩,k0_2⟩:=aAr k0_1
 obtain rfl:=aK6 k0_2
 obtain⟨x1,rfl,rfl,rfl,w1⟩:=open_int Tryz.underlying3 (hval 1 3 v1 rfl rfl) h1
 clear hA0 hval0 hval hA
 simp only [List.append_nil,List.nil_append] at hW'
 have hC:Con Tryz.prog 3 [.a [.s 0 0 nss0_0.length 3,.s 1 0 nss0_1.length 3],iv x1] [.live false true ((nss0_0.flatten).map iv),.live false true ((nss0_1.flatten).map iv)] (.v (.bool true)) []:=by
  have h:=C3 ((nss0_0.map lJ),(nss0_1.map lK)) x1 (by rw [List.length_map];exact s0_0.2.1) (by rw [List.length_map];exact s0_1.2.1)
  dsimp only at h
  rw [aPx,aEh sF s0_0.1,aEh sG s0_1.1] at h
  simp only [List.length_map] at h
  exact h
 refine(aH1 (vs:=[.agg [c0_0,c0_1].toArray,.int .i64 x1]) [(3,c0_0,nss0_0),(3,c0_1,nss0_1)] hC (by simp only [List.mem_cons,List.not_mem_nil,or_false];rintro y (rfl | rfl)<;>assumption) ⟨⟨_,rfl,⟨aCt s0_0 rfl,aCt s0_1 rfl,trivial⟩⟩,rfl,trivial⟩).mono fun e W' ⟨he,hb⟩=>?_
 subst he
 have hargs2:=(aHo (Below.trod aJp (by kernel_rfl) (of_decide_eq_true (by kernel_rfl)) h0 hb b0) (aHo (Below.trod aJp (by kernel_rfl) (of_decide_eq_true (by kernel_rfl)) h1 hb (fun x hx=>by cases hx)) trodAll_mk0))
 simp only [List.append_nil,List.nil_append] at hargs2
 exact⟨_,rfl,aHn hW' hb (fun _ _ _=>(aHo (shut_bool Tryz.underlying4 _) trodAll_mk0)) hargs2 rfl⟩
theorem uD:Rows.holdImprovesRow.holds Tryz.pinned (OpenSpec.ofChange Rows.holdImprovesSpec) :=
 OpenClaim.holds_of_wide 3 Tryz.f3 rfl rfl rfl rfl rfl rfl rfl ⟨rfl,rfl,rfl,rfl,rfl⟩ rfl rfl rfl rfl rfl (by kernel_rfl) Tryz.func3 (by kernel_rfl)
  (of_decide_eq_true (by kernel_rfl)) (by unfold Func.isWrapper;first | (rw [if_pos (by decide +kernel)];kernel_rfl) | (rw [if_neg (by decide +kernel)];exact⟨rfl,rfl⟩))
  (fun os started H enc _=>qN os started H enc)
/-- THE STATEMENT -/
theorem holdImproves_proved:Rows.HoldImprovesSaid :=
 uD
end Go.Proofs.YtcmdknehplnpfaaGreat
