/-
  HoldFiner: for every mesh, list of charges and depth the law returns true, and its arguments read behind the call as they read before. No condition.
-/
import Derived.Test.YtaeagjnpobdglaaVPfi6
import Derived.ProofKit
namespace Go.Proofs.Ytaeagjnpobdglaa
open Go.Proofs Go.Aw Go.RowKit
set_option maxRecDepth 100000
set_option linter.unusedVariables false
set_option linter.unusedSimpArgs false
open Go.ChangeShapes Go.WideShapes Go.ChangeAt
theorem yX {l:List Int} (h:l.length=1):∃a0,l=[a0]:=by
  match l,h with
  | [a0],_=>exact⟨a0,rfl⟩
theorem mZ {l:List Int} (h:l.length=3):∃a0 a1 a2,l=[a0,a1,a2]:=by
  match l,h with
  | [a0,a1,a2],_=>exact⟨a0,a1,a2,rfl⟩
def oU (ns:List Int):Int:=(ns.getD 0 0)
theorem yY (ns:List Int)(h:ns.length=1):c3 (oU ns)=ns.map iv:=by
  obtain⟨a0,rfl⟩:=yX h
  rfl
def nA (ns:List Int):Int×Int×Int:=((ns.getD 0 0),(ns.getD 1 0),(ns.getD 2 0))
theorem uZ (ns:List Int)(h:ns.length=3):dD (nA ns)=ns.map iv:=by
  obtain⟨a0,a1,a2,rfl⟩:=mZ h
  rfl
def nB (ns:List Int):Int×Int×Int:=((ns.getD 0 0),(ns.getD 1 0),(ns.getD 2 0))
theorem vA (ns:List Int)(h:ns.length=3):eE (nB ns)=ns.map iv:=by
  obtain⟨a0,a1,a2,rfl⟩:=mZ h
  rfl
set_option maxRecDepth 100000 in
theorem tW (os:Os)(started:os.Started)(H:Type)(enc:TypeId×Value→H) :
    ReturnsInHanded {} Try.checked os 4 .any (Rows.holdFinerSpec.pre6 enc Try.prog Try.f4 Rows.holdFinerRow.domain false) (Rows.holdFinerSpec.post enc Try.prog Try.f4 false true false false):=by
  refine returnsInHanded_of_change (C:=Try.checked) own started (by kernel_rfl) Try.func4
    (ChangeSpec.witness6 (enc:=enc) (C:=Try.checked) false ⟨#[],#[.agg #[.slice none 0 0,.slice none 0 0],.agg #[.slice none 0 0,.int .i64 0]],[]⟩ 8 (by kernel_rfl) (by kernel_rfl) (by kernel_rfl) (by kernel_rfl)) ?_
  intro W base args ds gs before hval0 hW hcnd _
  have hval:∀(j:Nat) t v,Try.f4.params[j]? = some t→args[j]? = some v→Value.okWide Try.prog W .any base t v:=hval0
  have hW':=hW
  obtain⟨p,q,hA0,hV,rfl,hfz,hnd⟩:=hW
  have hA:DataW.TrodAll enc Try.prog W 0 (fun _=>true) true Try.f4.params.toList args.toList ds p:=hA0
  rw [Try.params4] at hA hval
  obtain⟨v0,vs0,d0,ds0,p0,q0,hargs,rfl,rfl,h0,r0⟩:=trodAll_cons hA
  obtain⟨v1,vs1,d1,ds1,p1,q1,rfl,rfl,rfl,h1,r1⟩:=trodAll_cons r0
  obtain⟨rfl,rfl,rfl⟩:=trodAll_nil r1
  obtain rfl:args=#[v0,v1]:=by cases args;simp_all
  obtain⟨rfl,rfl⟩:=trodVars_none hV
  obtain⟨⟨cs0,rfl,k0_0⟩,b0⟩:=xV [.s 3,.s 3] Try.underlying25 (by kernel_rfl) (hval 0 25 v0 rfl rfl) h0
  obtain⟨c0_0,cs0,rfl,⟨nss0_0,s0_0⟩,k0_1⟩:=lF k0_0
  obtain⟨c0_1,cs0,rfl,⟨nss0_1,s0_1⟩,k0_2⟩:=lF k0_1
  obtain rfl:=aAy k0_2
  obtain⟨⟨cs1,rfl,k1_0⟩,b1⟩:=xV [.s 1,.i] Try.underlying28 (by kernel_rfl) (hval 1 28 v1 rfl rfl) h1
  obtain⟨c1_0,cs1,rfl,⟨nss1_0,s1_0⟩,k1_1⟩:=lF k1_0
  obtain⟨c1_1,cs1,rfl,⟨x1_1,rfl⟩,k1_2⟩:=lF k1_1
  obtain rfl:=aAy k1_2
  clear hA0 hval0 hval hA
  simp only [List.append_nil,List.nil_append] at hW'
  have hC:Con Try.prog 4 [.a [.s 0 0 nss0_0.length 3,.s 1 0 nss0_1.length 3],.a [.s 2 0 nss1_0.length 1,iv x1_1]] [.live false true ((nss0_0.flatten).map iv),.live false true ((nss0_1.flatten).map iv),.live false true ((nss1_0.flatten).map iv)] (.v (.bool true)) []:=by
    have h:=C4 ((nss0_0.map nA),(nss0_1.map nB)) ((nss1_0.map oU),x1_1) (by rw [List.length_map];exact s0_0.2.1) (by rw [List.length_map];exact s0_1.2.1) (by rw [List.length_map];exact s1_0.2.1)
    dsimp only at h
    rw [aJn,vQ uZ s0_0.1,vQ vA s0_1.1,vQ yY s1_0.1] at h
    simp only [List.length_map] at h
    exact h
  refine(aFw (vs:=[.agg [c0_0,c0_1].toArray,.agg [c1_0,.int .i64 x1_1].toArray]) [(3,c0_0,nss0_0),(3,c0_1,nss0_1),(1,c1_0,nss1_0)] hC (by simp only [List.mem_cons,List.not_mem_nil,or_false];rintro y (rfl | rfl | rfl)<;>assumption) ⟨⟨_,rfl,⟨sY s0_0 rfl,sY s0_1 rfl,trivial⟩⟩,⟨_,rfl,⟨sY s1_0 rfl,rfl,trivial⟩⟩,trivial⟩).mono fun e W' ⟨he,hb⟩=>?_
  subst he
  have hargs2:=(aFm (Below.trod aHm (by kernel_rfl) (of_decide_eq_true (by kernel_rfl)) h0 hb b0) (aFm (Below.trod aHm (by kernel_rfl) (of_decide_eq_true (by kernel_rfl)) h1 hb b1) trodAll_mk0))
  simp only [List.append_nil,List.nil_append] at hargs2
  exact⟨_,rfl,aFl hW' hb (fun _ _ _=>(aFm (shut_bool Try.underlying4 _) trodAll_mk0)) hargs2 rfl⟩
theorem yZ:Rows.holdFinerRow.holds Try.pinned (OpenSpec.ofChange Rows.holdFinerSpec) :=
  OpenClaim.holds_of_wide 4 Try.f4 rfl rfl rfl rfl rfl rfl rfl ⟨rfl,rfl,rfl,rfl,rfl⟩ rfl rfl rfl rfl rfl (by kernel_rfl) Try.func4 (by kernel_rfl)
    (of_decide_eq_true (by kernel_rfl)) (by unfold Func.isWrapper;first | (rw [if_pos (by decide +kernel)];kernel_rfl) | (rw [if_neg (by decide +kernel)];exact⟨rfl,rfl⟩))
    (fun os started H enc _=>tW os started H enc)
/-- THE STATEMENT -/
theorem holdFiner_proved:Rows.HoldFinerSaid :=
  yZ
end Go.Proofs.Ytaeagjnpobdglaa
