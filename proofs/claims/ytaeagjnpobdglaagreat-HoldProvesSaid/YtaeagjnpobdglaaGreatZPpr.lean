/-
  HoldProves: for every mesh, list of charges and depth the law returns true, and its arguments read behind the call as they read before. No condition.
-/
import Derived.Test.YtaeagjnpobdglaaGreatVPpr7
import Derived.ProofKit
namespace Go.Proofs.YtaeagjnpobdglaaGreat
open Go.Proofs Go.Aw Go.RowKit
set_option maxRecDepth 100000
set_option linter.unusedVariables false
set_option linter.unusedSimpArgs false
open Go.ChangeShapes Go.WideShapes Go.ChangeAt
theorem zU {l:List Int} (h:l.length=1):∃a0,l=[a0]:=by
  match l,h with
  | [a0],_=>exact⟨a0,rfl⟩
theorem pH {l:List Int} (h:l.length=3):∃a0 a1 a2,l=[a0,a1,a2]:=by
  match l,h with
  | [a0,a1,a2],_=>exact⟨a0,a1,a2,rfl⟩
def qV (ns:List Int):Int:=(ns.getD 0 0)
theorem zV (ns:List Int)(h:ns.length=1):c3 (qV ns)=ns.map iv:=by
  obtain⟨a0,rfl⟩:=zU h
  rfl
def pI (ns:List Int):Int×Int×Int:=((ns.getD 0 0),(ns.getD 1 0),(ns.getD 2 0))
theorem yJ (ns:List Int)(h:ns.length=3):dX (pI ns)=ns.map iv:=by
  obtain⟨a0,a1,a2,rfl⟩:=pH h
  rfl
def pJ (ns:List Int):Int×Int×Int:=((ns.getD 0 0),(ns.getD 1 0),(ns.getD 2 0))
theorem yK (ns:List Int)(h:ns.length=3):fA (pJ ns)=ns.map iv:=by
  obtain⟨a0,a1,a2,rfl⟩:=pH h
  rfl
set_option maxRecDepth 100000 in
theorem wH (os:Os)(started:os.Started)(H:Type)(enc:TypeId×Value→H) :
    ReturnsInHanded {} Tryz.checked os 6 .any (Rows.holdProvesSpec.pre6 enc Tryz.prog Tryz.f6 Rows.holdProvesRow.domain false) (Rows.holdProvesSpec.post enc Tryz.prog Tryz.f6 false true false false):=by
  refine returnsInHanded_of_change (C:=Tryz.checked) own started (by kernel_rfl) Tryz.func6
    (ChangeSpec.witness6 (enc:=enc) (C:=Tryz.checked) false ⟨#[],#[.agg #[.slice none 0 0,.slice none 0 0],.slice none 0 0,.int .i64 0],[]⟩ 8 (by kernel_rfl) (by kernel_rfl) (by kernel_rfl) (by kernel_rfl)) ?_
  intro W base args ds gs before hval0 hW hcnd _
  have hval:∀(j:Nat) t v,Tryz.f6.params[j]? = some t→args[j]? = some v→Value.okWide Tryz.prog W .any base t v:=hval0
  have hW':=hW
  obtain⟨p,q,hA0,hV,rfl,hfz,hnd⟩:=hW
  have hA:DataW.TrodAll enc Tryz.prog W 0 (fun _=>true) true Tryz.f6.params.toList args.toList ds p:=hA0
  rw [Tryz.params6] at hA hval
  obtain⟨v0,vs0,d0,ds0,p0,q0,hargs,rfl,rfl,h0,r0⟩:=trodAll_cons hA
  obtain⟨v1,vs1,d1,ds1,p1,q1,rfl,rfl,rfl,h1,r1⟩:=trodAll_cons r0
  obtain⟨v2,vs2,d2,ds2,p2,q2,rfl,rfl,rfl,h2,r2⟩:=trodAll_cons r1
  obtain⟨rfl,rfl,rfl⟩:=trodAll_nil r2
  obtain rfl:args=#[v0,v1,v2]:=by cases args;simp_all
  obtain⟨rfl,rfl⟩:=trodVars_none hV
  obtain⟨⟨cs0,rfl,k0_0⟩,b0⟩:=aKt [.s 3,.s 3] Tryz.underlying25 (by kernel_rfl) (hval 0 25 v0 rfl rfl) h0
  obtain⟨c0_0,cs0,rfl,⟨nss0_0,s0_0⟩,k0_1⟩:=aCe k0_0
  obtain⟨c0_1,cs0,rfl,⟨nss0_1,s0_1⟩,k0_2⟩:=aCe k0_1
  obtain rfl:=aOh k0_2
  obtain⟨⟨nss1,s1⟩,b1⟩:=aOf Tryz.underlying26 (by kernel_rfl) (show Tryz.prog.cellsOf 3=1 from by kernel_rfl) (hval 1 26 v1 rfl rfl) h1
  obtain⟨x2,rfl,rfl,rfl,w2⟩:=open_int Tryz.underlying3 (hval 2 3 v2 rfl rfl) h2
  clear hA0 hval0 hval hA
  simp only [List.append_nil,List.nil_append] at hW'
  have hC:Con Tryz.prog 6 [.a [.s 0 0 nss0_0.length 3,.s 1 0 nss0_1.length 3],.s 2 0 nss1.length 1,iv x2] [.live false true ((nss0_0.flatten).map iv),.live false true ((nss0_1.flatten).map iv),.live false true ((nss1.flatten).map iv)] (.v (.bool true)) []:=by
    have h:=bFi ((nss0_0.map pI),(nss0_1.map pJ)) (nss1.map qV) x2 (by rw [List.length_map];exact s0_0.2.1) (by rw [List.length_map];exact s0_1.2.1) (by rw [List.length_map];exact s1.2.1)
    dsimp only at h
    rw [aL1,aAm yJ s0_0.1,aAm yK s0_1.1,aAm zV s1.1] at h
    simp only [List.length_map] at h
    exact h
  refine(aKu (vs:=[.agg [c0_0,c0_1].toArray,v1,.int .i64 x2]) [(3,c0_0,nss0_0),(3,c0_1,nss0_1),(1,v1,nss1)] hC (by simp only [List.mem_cons,List.not_mem_nil,or_false];rintro y (rfl | rfl | rfl)<;>assumption) ⟨⟨_,rfl,⟨xG s0_0 rfl,xG s0_1 rfl,trivial⟩⟩,xG s1 rfl,rfl,trivial⟩).mono fun e W' ⟨he,hb⟩=>?_
  subst he
  have hargs2:=(aF8 (Below.trod aF9 (by kernel_rfl) (of_decide_eq_true (by kernel_rfl)) h0 hb b0) (aF8 (Below.trod aF9 (by kernel_rfl) (of_decide_eq_true (by kernel_rfl)) h1 hb b1) (aF8 (Below.trod aF9 (by kernel_rfl) (of_decide_eq_true (by kernel_rfl)) h2 hb (fun x hx=>by cases hx)) trodAll_mk0)))
  simp only [List.append_nil,List.nil_append] at hargs2
  exact⟨_,rfl,aKc hW' hb (fun _ _ _=>(aF8 (shut_bool Tryz.underlying4 _) trodAll_mk0)) hargs2 rfl⟩
theorem zW:Rows.holdProvesRow.holds Tryz.pinned (OpenSpec.ofChange Rows.holdProvesSpec) :=
  OpenClaim.holds_of_wide 6 Tryz.f6 rfl rfl rfl rfl rfl rfl rfl ⟨rfl,rfl,rfl,rfl,rfl⟩ rfl rfl rfl rfl rfl (by kernel_rfl) Tryz.func6 (by kernel_rfl)
    (of_decide_eq_true (by kernel_rfl)) (by unfold Func.isWrapper;first | (rw [if_pos (by decide +kernel)];kernel_rfl) | (rw [if_neg (by decide +kernel)];exact⟨rfl,rfl⟩))
    (fun os started H enc _=>wH os started H enc)
/-- THE STATEMENT -/
theorem holdProves_proved:Rows.HoldProvesSaid :=
  zW
end Go.Proofs.YtaeagjnpobdglaaGreat
