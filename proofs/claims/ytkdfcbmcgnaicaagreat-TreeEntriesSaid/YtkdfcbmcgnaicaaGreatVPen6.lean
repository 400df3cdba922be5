/-
  Parts of the proofs of the laws: the executor, what functions of the program compute, and that it is what the statements ask. No premise.
-/
import Derived.Test.YtkdfcbmcgnaicaaGreatVPen5
set_option linter.unusedVariables false
set_option linter.unusedSimpArgs false
set_option maxHeartbeats 4000000
open Int renaming toNat → tN
open Inhabited renaming default → dF
namespace Go.Proofs.YtkdfcbmcgnaicaaGreat
open Go.Proofs Go.Aw Go.RowKit
set_option maxRecDepth 100000
noncomputable def aEy:Code:=(aN [1,1,0,1] [] (aL Tryz.f62) []).1
noncomputable def aEz:List K:=(aN [1,1,0,1] [] (aL Tryz.f62) []).2
def aBi (a0:bT)(a1:Int)(v2c:List SV)(v2n:Nat)(v3:Int):LS:=⟨gO 26 [(0,(.s 0 0 a0.length 10)),(1,(iv a1)),(4,(.p 1 0)),(5,(.s 2 0 v2n 1)),(6,(iv v3))],[(.live false true (flat dI a0)),(.live true false [(.v (.slice none 0 0)),(.v (.slice none 0 0))]),(.live true true v2c)]⟩
def hU (a0:bT)(a1:Int):List Int×Int->(List Int×Int)⊕(List Int×bE)
 | (v2,v3) =>
  (bif (decide ((v3:Int) < (a0.length:Int))) then
   (.inl ((v2++[v3]),(v3+1)))
  else
   (bif (((a0.length:Int):Int) == 0) then
    (.inr (([]:List Int),([]:bE)))
   else
    (.inr ((gV a0 (([]:List Int),([]:bE)) v2 a1).1,(gV a0 (([]:List Int),([]:bE)) v2 a1).2))))
theorem aQ8 (a0:bT)(a1:Int)(l0:a0.length<=2^63-1)(hl:a0.length<=96)(hf:1<=a1) {cx:Cx} (hcx:cx.base=1):∀(n:Nat) (v2:List Int) (v3:Int),(0<=v3)/\(v2.length=tN v3)/\(InR a0.length v2)/\(v3<=a0.length)/\(a0.length<=96)->tN ((a0.length:Int) - v3) < n->Aw.Good Tryz.prog none 9 (bodyPost Tryz.prog Tryz.f62 (RR cx (.a [(.s 1 0 (aH (hU a0 a1) n (v2,v3)).1.length 1),(.s 2 0 (aH (hU a0 a1) n (v2,v3)).2.length 8)]) [(.live true true (flat c3 (aH (hU a0 a1) n (v2,v3)).1)),(.live true true (flat bZ (aH (hU a0 a1) n (v2,v3)).2))] [])) cx [] (.l aEy n::aEz) (aBi a0 a1 (flat c3 v2) v2.length v3):=by
 intro n
 induction n with
 | zero=>intro v2 v3 hi hn;exact absurd hn (eL _)
 | succ n ih =>
  intro v2 v3 hi hn
  refine aS ?_
  cases h0:(decide ((v3:Int) < (a0.length:Int))) with
  | true =>
   have q0:=cN h0
   have e:=Eq.refl (hU a0 a1 (v2,v3));conv at e=>rhs;simp only [hU,h0,aW]
   rw [aI e]
   refine ba [.d h0,.p (show((flat c3 v2).length=v2.length*1/\v2.length+1<=2 ^ 40/\(v2.length+1)*8<=2 ^ 47) from nX aF (by omega) (by omega))] [] [0,1,4,5,6] [1,4] hcx (m:=n) aEy (aEz) (aBi a0 a1 (flat c3 v2++[(iv v3)]) (v2.length+1) (W (v3+1))) (by kernel_rfl) ?_
   have z0:(W (v3+1))=(v3+1):=aR (by omega) (by omega)
   have z1:(flat c3 v2++[(iv v3)])=(flat c3 (v2++[v3])):=(dP (c:=c3) (l:=v2) (m:=[v3])).symm
   have z2:(v2.length+1)=(v2++[v3]).length:=uZ v2 [v3] rfl
   rw [z0,z1,z2]
   exact ih (v2++[v3]) (v3+1) (by and_intros<;>(try simp only [Lt])<;>first | omega | assumption | exact hi.2.1 | exact hi.2.2.1 | exact InR.swap hi.2.1 (by omega) (by omega) | exact InR.swap hr (by omega) (by omega) | exact InR.nil _ | exact hi.2.2.1.add (by omega)) (by omega)
  | false =>
   have q0:=cY h0
   let t1:List (St Tryz.prog):=[.d h0]
   cases h1:(((a0.length:Int):Int) == 0) with
   | true =>
    have q1:=eq_of_beq h1
    have e:=Eq.refl (hU a0 a1 (v2,v3));conv at e=>rhs;simp only [hU,h0,h1,aW]
    rw [aK,e]
    exact rt (t1++[.d h1]) [.cell 1 0 1,.cell 1 1 8] [3,4] hcx (by kernel_rfl)
   | false =>
    have q1:=ne_of_beq_false h1
    have e:=Eq.refl (hU a0 a1 (v2,v3));conv at e=>rhs;simp only [hU,h0,h1,aW]
    rw [aK,e]
    exact rt (t1++[.d h1,.c [0,2] (aG2 a0 (([]:List Int),([]:bE)) v2 a1 (by omega) (by(try simp only [Lt]);omega) (by(try simp only [Lt]);omega) (by omega) ⟨hi.2.2.1,by simp only [List.length_nil];omega,by simp only [List.length_nil];omega,hf⟩)]) [] [3,4] hcx (by kernel_rfl)
def lR (a0:bT)(a1:Int):List Int×bE :=
 (aH (hU a0 a1) (tN ((a0.length:Int) - 0)+1) (([]:List Int),0))
theorem aVo (a0:bT)(a1:Int)(l0:a0.length<=2^63-1)(hl:a0.length<=96)(hf:1<=a1):Con Tryz.prog 62 [(.s 0 0 a0.length 10),(iv a1)] [(.live false true (flat dI a0))] (.a [(.s 1 0 (lR a0 a1).1.length 1),(.s 2 0 (lR a0 a1).2.length 8)]) [(.live true true (flat c3 (lR a0 a1).1)),(.live true true (flat bZ (lR a0 a1).2))]:=by
 refine bA Tryz.func62 (by kernel_rfl) fun cx hcx=>?_
 have e:=Eq.refl (lR a0 a1);conv at e=>rhs;simp only [lR]
 rw [e]
 refine en [] [.slot 5 1] [0,1,4,5,6] [1,2] hcx aEy (aEz) (aBi a0 a1 (flat c3 ([]:List Int)) 0 0) (tN ((a0.length:Int) - 0)+1) (by kernel_rfl) ?_
 exact aQ8 a0 a1 l0 hl hf hcx (tN ((a0.length:Int) - 0)+1) ([]:List Int) 0 (by and_intros<;>(try simp only [Lt])<;>first | omega | assumption | exact hi.2.1 | exact hi.2.2.1 | exact InR.swap hi.2.1 (by omega) (by omega) | exact InR.swap hr (by omega) (by omega) | exact InR.nil _ | exact hi.2.2.1.add (by omega)) (by omega)
noncomputable def wZ:Code:=(aN [1,1,0,1] [] (aL Tryz.f80) []).1
noncomputable def xA:List K:=(aN [1,1,0,1] [] (aL Tryz.f80) []).2
def uE (a0:List Int)(a1:List Int)(v1:Int):LS:=⟨gO 26 [(0,(.s 0 0 a0.length 1)),(1,(.s 1 0 a1.length 1)),(5,(iv v1))],[(.live false true (flat c3 a0)),(.live false true (flat c3 a1))]⟩
def iU (a0:List Int)(a1:List Int):Int->(Int)⊕(Bool)
 | v1 =>
  (bif (decide ((v1:Int) < (a0.length:Int))) then
   (bif (((a0.getD (tN v1) dF):Int) != (a1.getD (tN v1) dF)) then
    (.inr false)
   else
    (.inl (v1+1)))
  else
   (.inr true))
theorem aMn (a0:List Int)(a1:List Int)(l0:a0.length<=2^63-1)(l1:a1.length<=2^63-1) {cx:Cx} (hcx:cx.base=2):∀(n:Nat) (v1:Int),(0<=v1)/\(a0.length=a1.length)->tN ((a0.length:Int) - v1) < n->Aw.Good Tryz.prog none 9 (bodyPost Tryz.prog Tryz.f80 (RR cx (.v (.bool (aH (iU a0 a1) n v1))) [] [])) cx [] (.l wZ n::xA) (uE a0 a1 v1):=by
 intro n
 induction n with
 | zero=>intro v1 hi hn;exact absurd hn (eL _)
 | succ n ih =>
  intro v1 hi hn
  refine aS ?_
  cases h0:(decide ((v1:Int) < (a0.length:Int))) with
  | true =>
   have q0:=cN h0
   let t1:List (St Tryz.prog):=[.d h0,.i v1 (a0.length),.L aF a0 v1 0 1,.i v1 (a1.length),.L aF a1 v1 0 1]
   cases h1:(((a0.getD (tN v1) dF):Int) != (a1.getD (tN v1) dF)) with
   | true =>
    have q1:=bne_iff_ne.1 h1
    have e:=Eq.refl (iU a0 a1 v1);conv at e=>rhs;simp only [iU,h0,h1,aW]
    rw [aK,e]
    exact rt (t1++[.d h1]) [] [] hcx (by kernel_rfl)
   | false =>
    have q1:=bne_eq_false_iff_eq.1 h1
    have e:=Eq.refl (iU a0 a1 v1);conv at e=>rhs;simp only [iU,h0,h1,aW]
    rw [aI e]
    refine ba (t1++[.d h1]) [] [0,1,5] [] hcx (m:=n) wZ (xA) (uE a0 a1 (W (v1+1))) (by kernel_rfl) ?_
    have z0:(W (v1+1))=(v1+1):=aR (by omega) (by omega)
    rw [z0]
    exact ih (v1+1) (by refine⟨?_,?_⟩<;>(try simp only [Ls])<;>first | omega | assumption | simp) (by omega)
  | false =>
   have q0:=cY h0
   have e:=Eq.refl (iU a0 a1 v1);conv at e=>rhs;simp only [iU,h0,aW]
   rw [aK,e]
   exact rt [.d h0] [] [] hcx (by kernel_rfl)
def jI (a0:List Int)(a1:List Int):Bool :=
 (bif (((a0.length:Int):Int) != (a1.length:Int)) then
  false
 else
  (aH (iU a0 a1) (tN ((a0.length:Int) - 0)+1) 0))
theorem aQ9 (a0:List Int)(a1:List Int)(l0:a0.length<=2^63-1)(l1:a1.length<=2^63-1):Con Tryz.prog 80 [(.s 0 0 a0.length 1),(.s 1 0 a1.length 1)] [(.live false true (flat c3 a0)),(.live false true (flat c3 a1))] (.v (.bool (jI a0 a1))) []:=by
 refine bA Tryz.func80 (by kernel_rfl) fun cx hcx=>?_
 cases h0:(((a0.length:Int):Int) != (a1.length:Int)) with
 | true =>
  have q0:=bne_iff_ne.1 h0
  have e:=Eq.refl (jI a0 a1);conv at e=>rhs;simp only [jI,h0,aW]
  rw [e]
  exact rt [.d h0] [] [] hcx (by kernel_rfl)
 | false =>
  have q0:=bne_eq_false_iff_eq.1 h0
  have e:=Eq.refl (jI a0 a1);conv at e=>rhs;simp only [jI,h0,aW]
  rw [e]
  refine en [.d h0] [] [0,1,5] [] hcx wZ (xA) (uE a0 a1 0) (tN ((a0.length:Int) - 0)+1) (by kernel_rfl) ?_
  exact aMn a0 a1 l0 l1 hcx (tN ((a0.length:Int) - 0)+1) 0 (by refine⟨?_,?_⟩<;>(try simp only [Ls])<;>first | omega | assumption | simp) (by omega)
noncomputable def aOz:Code:=(aN [1,1,0,1] [] (aL Tryz.f61) []).1
noncomputable def aO0:List K:=(aN [1,1,0,1] [] (aL Tryz.f61) []).2
def aI3 (a0:List Int×bE)(a1:List Int×bE)(v1:Int):LS:=⟨gO 39 [(2,(.p 4 0)),(3,(.p 5 0)),(5,(iv v1))],[(.live false true (flat c3 a0.1)),(.live false true (flat bZ a0.2)),(.live false true (flat c3 a1.1)),(.live false true (flat bZ a1.2)),(.live true false [(.s 0 0 a0.1.length 1),(.s 1 0 a0.2.length 8)]),(.live true false [(.s 2 0 a1.1.length 1),(.s 3 0 a1.2.length 8)])]⟩
def vO (a0:List Int×bE)(a1:List Int×bE):Int->(Int)⊕(Bool)
 | v1 =>
  (bif (decide ((v1:Int) < (a0.2.length:Int))) then
   (bif (!((((a0.2.getD (tN v1) dF).1:Int) == (a1.2.getD (tN v1) dF).1)&&((((a0.2.getD (tN v1) dF).2.1:Int) == (a1.2.getD (tN v1) dF).2.1)&&((((a0.2.getD (tN v1) dF).2.2.1:Int) == (a1.2.getD (tN v1) dF).2.2.1)&&((((a0.2.getD (tN v1) dF).2.2.2.1:Int) == (a1.2.getD (tN v1) dF).2.2.2.1)&&(((((a0.2.getD (tN v1) dF).2.2.2.2.1.1:Int) == (a1.2.getD (tN v1) dF).2.2.2.2.1.1)&&((((a0.2.getD (tN v1) dF).2.2.2.2.1.2.1:Int) == (a1.2.getD (tN v1) dF).2.2.2.2.1.2.1)&&((((a0.2.getD (tN v1) dF).2.2.2.2.1.2.2:Int) == (a1.2.getD (tN v1) dF).2.2.2.2.1.2.2)&&true)))&&((((a0.2.getD (tN v1) dF).2.2.2.2.2:Int) == (a1.2.getD (tN v1) dF).2.2.2.2.2)&&true))))))) then
    (.inr false)
   else
    (.inl (v1+1)))
  else
   (.inr true))
theorem aVp (a0:List Int×bE)(a1:List Int×bE)(l0_1:a0.1.length<=2^63-1)(l0_2:a0.2.length<=2^63-1)(l1_1:a1.1.length<=2^63-1)(l1_2:a1.2.length<=2^63-1) {cx:Cx} (hcx:cx.base=4):∀(n:Nat) (v1:Int),(0<=v1)/\(a0.2.length=a1.2.length)->tN ((a0.2.length:Int) - v1) < n->Aw.Good Tryz.prog none 9 (bodyPost Tryz.prog Tryz.f61 (RR cx (.v (.bool (aH (vO a0 a1) n v1))) [] [])) cx [] (.l aOz n::aO0) (aI3 a0 a1 v1):=by
 intro n
 induction n with
 | zero=>intro v1 hi hn;exact absurd hn (eL _)
 | succ n ih =>
  intro v1 hi hn
  refine aS ?_
  cases h0:(decide ((v1:Int) < (a0.2.length:Int))) with
  | true =>
   have q0:=cN h0
   let t1:List (St Tryz.prog):=[.d h0,.i v1 (a0.2.length),.L bU a0.2 v1 0 8,.i v1 (a1.2.length),.L bU a1.2 v1 0 8]
   cases h1:(!((((a0.2.getD (tN v1) dF).1:Int) == (a1.2.getD (tN v1) dF).1)&&((((a0.2.getD (tN v1) dF).2.1:Int) == (a1.2.getD (tN v1) dF).2.1)&&((((a0.2.getD (tN v1) dF).2.2.1:Int) == (a1.2.getD (tN v1) dF).2.2.1)&&((((a0.2.getD (tN v1) dF).2.2.2.1:Int) == (a1.2.getD (tN v1) dF).2.2.2.1)&&(((((a0.2.getD (tN v1) dF).2.2.2.2.1.1:Int) == (a1.2.getD (tN v1) dF).2.2.2.2.1.1)&&((((a0.2.getD (tN v1) dF).2.2.2.2.1.2.1:Int) == (a1.2.getD (tN v1) dF).2.2.2.2.1.2.1)&&((((a0.2.getD (tN v1) dF).2.2.2.2.1.2.2:Int) == (a1.2.getD (tN v1) dF).2.2.2.2.1.2.2)&&true)))&&((((a0.2.getD (tN v1) dF).2.2.2.2.2:Int) == (a1.2.getD (tN v1) dF).2.2.2.2.2)&&true))))))) with
   | true =>
    have e:=Eq.refl (vO a0 a1 v1);conv at e=>rhs;simp only [vO,h0,h1,aW]
    rw [aK,e]
    exact rt (t1++[.d h1]) [] [] hcx (by kernel_rfl)
   | false =>
    have e:=Eq.refl (vO a0 a1 v1);conv at e=>rhs;simp only [vO,h0,h1,aW]
    rw [aI e]
    refine ba (t1++[.d h1]) [] [2,3,5] [4,5] hcx (m:=n) aOz (aO0) (aI3 a0 a1 (W (v1+1))) (by kernel_rfl) ?_
    have z0:(W (v1+1))=(v1+1):=aR (by omega) (by omega)
    rw [z0]
    exact ih (v1+1) (by refine⟨?_,?_⟩<;>(try simp only [Ls])<;>first | omega | assumption | simp) (by omega)
  | false =>
   have q0:=cY h0
   have e:=Eq.refl (vO a0 a1 v1);conv at e=>rhs;simp only [vO,h0,aW]
   rw [aK,e]
   exact rt [.d h0] [] [] hcx (by kernel_rfl)
def F61 (a0:List Int×bE)(a1:List Int×bE):Bool :=
 (bif (!(jI a0.1 a1.1)) then
  false
 else
  (bif (((a0.2.length:Int):Int) != (a1.2.length:Int)) then
   false
  else
   (aH (vO a0 a1) (tN ((a0.2.length:Int) - 0)+1) 0)))
theorem C61 (a0:List Int×bE)(a1:List Int×bE)(l0_1:a0.1.length<=2^63-1)(l0_2:a0.2.length<=2^63-1)(l1_1:a1.1.length<=2^63-1)(l1_2:a1.2.length<=2^63-1):Con Tryz.prog 61 [(.a [(.s 0 0 a0.1.length 1),(.s 1 0 a0.2.length 8)]),(.a [(.s 2 0 a1.1.length 1),(.s 3 0 a1.2.length 8)])] [(.live false true (flat c3 a0.1)),(.live false true (flat bZ a0.2)),(.live false true (flat c3 a1.1)),(.live false true (flat bZ a1.2))] (.v (.bool (F61 a0 a1))) []:=by
 refine bA Tryz.func61 (by kernel_rfl) fun cx hcx=>?_
 let t0:List (St Tryz.prog):=[.c [0,2] (aQ9 a0.1 a1.1 (by omega) (by omega))]
 cases h0:(!(jI a0.1 a1.1)) with
 | true =>
  have e:=Eq.refl (F61 a0 a1);conv at e=>rhs;simp only [F61,h0,aW]
  rw [e]
  exact rt (t0++[.d h0]) [] [] hcx (by kernel_rfl)
 | false =>
  let t1:List (St Tryz.prog):=(t0++[.d h0])
  cases h1:(((a0.2.length:Int):Int) != (a1.2.length:Int)) with
  | true =>
   have q1:=bne_iff_ne.1 h1
   have e:=Eq.refl (F61 a0 a1);conv at e=>rhs;simp only [F61,h0,h1,aW]
   rw [e]
   exact rt (t1++[.d h1]) [] [] hcx (by kernel_rfl)
  | false =>
   have q1:=bne_eq_false_iff_eq.1 h1
   have e:=Eq.refl (F61 a0 a1);conv at e=>rhs;simp only [F61,h0,h1,aW]
   rw [e]
   refine en (t1++[.d h1]) [] [2,3,5] [4,5] hcx aOz (aO0) (aI3 a0 a1 0) (tN ((a0.2.length:Int) - 0)+1) (by kernel_rfl) ?_
   exact aVp a0 a1 l0_1 l0_2 l1_1 l1_2 hcx (tN ((a0.2.length:Int) - 0)+1) 0 (by refine⟨?_,?_⟩<;>(try simp only [Ls])<;>first | omega | assumption | simp) (by omega)
end Go.Proofs.YtkdfcbmcgnaicaaGreat
namespace Go.Proofs.YtkdfcbmcgnaicaaGreat
open Go.Proofs Go.Aw Go.RowKit
set_option maxRecDepth 100000
def VCH (l:gU):Prop:=l.length<=96/\∀i,i < l.length->vp (l.getD i dF).1=0/\(-100<=(l.getD i dF).2/\(l.getD i dF).2<=100)
theorem aG3 {l:gU}:∀(d i n:Nat),d=l.length - i->i<=l.length->d < n->aH (gX l) n (i:Int)=0->∀j,i<=j->j < l.length->vp (l.getD j dF).1=0/\(-100<=(l.getD j dF).2/\(l.getD j dF).2<=100)
 | 0,i,n,hd,hi,hn,_,j,h1,h2=>absurd h2 (by omega)
 | d+1,i,n,hd,hi,hn,h,j,h1,h2=>by
  obtain⟨n,rfl⟩:∃m,n=m+1:=⟨n - 1,by omega⟩
  have e:gX l (i:Int)=bif (((F47 (l.getD i dF).1):Int) != 0) then .inr (F47 (l.getD i dF).1) else bif (!(F48 (l.getD i dF).2 (-100) 100)) then .inr 1 else .inl ((i+1:Nat):Int):=by
   simp only [gX,fT]
   rw [cI (show((i:Nat):Int) < (l.length:Int) by omega),cond_true];rfl
  cases hv:(((F47 (l.getD i dF).1):Int) != 0) with
  | true =>
   rw [hv,cond_true] at e
   rw [aQ e] at h
   rw [h] at hv;exact absurd hv (by decide)
  | false =>
   rw [hv,cond_false] at e
   cases hw:(!(F48 (l.getD i dF).2 (-100) 100)) with
   | true =>
    rw [hw,cond_true] at e
    rw [aQ e] at h
    exact absurd h (by decide)
   | false =>
    rw [hw,cond_false] at e
    rw [aI e] at h
    by_cases hj:j=i
    ·subst hj
     refine⟨?_,?_⟩
     ·rw [←aUs];exact bne_eq_false_iff_eq.1 hv
     ·simp only [F48,Bool.not_eq_false'] at hw
      by_cases h3:(l.getD j dF).2≥-100
      ·rw [cI h3,cond_true] at hw;exact⟨h3,cN hw⟩
      ·rw [dA h3,cond_false] at hw;cases hw
    ·exact aG3 d (i+1) n (by omega) (by omega) (by omega) h j (by omega) h2
theorem aI4 {l:gU} (h:iY l=0):VCH l:=by
 refine⟨vC h,fun i hi=>?_⟩
 have hl:=vC h
 unfold iY at h
 rw [dA (show ¬(l.length:Int) > 96 by omega),cond_false] at h
 exact aG3 l.length 0 _ (by omega) (by omega) (by omega) h i (Nat.zero_le _) hi
theorem aO1 {l:gU} (h:VCH l) {i:Nat} (hi:i < l.length):bdP 64 (l.getD i dF).1:=(aUt (h.2 i hi).1).1
section
variable {l : gU} {ns : List Int}
theorem aG4 {i:Nat} (hi:i < ns.length):(gR l ns).getD i dF=l.getD (tN (ns.getD i dF)) dF:=by
 rw [aOq];simp [fP,hi]
theorem aG5 (hl:ns.length<=1048576):∀(n i:Nat) (a1 a2 a3 b1 b2 b3:Int),ns.length - i < n ->
 aH (iS (gR l ns)) n ((i:Int),a1,a2,a3,b1,b2,b3) =
  (aH (cJ l ns 0) n (a1,b1,(i:Int)),aH (cJ l ns 1) n (a2,b2,(i:Int)),aH (cJ l ns 2) n (a3,b3,(i:Int)))
 | 0,_,_,_,_,_,_,_,h=>absurd h (eL _)
 | n+1,i,a1,a2,a3,b1,b2,b3,h=>by
  have hm:(gR l ns).length=ns.length:=zA l ns
  by_cases h1:i < ns.length
  ·have hg:=aG4 (l:=l) h1
   have e:iS (gR l ns) ((i:Int),a1,a2,a3,b1,b2,b3)=.inl (((i+1:Nat):Int),gW (gW (gW a1 (l.getD (tN (ns.getD i dF)) dF).1.1.1) (l.getD (tN (ns.getD i dF)) dF).1.2.1.1) (l.getD (tN (ns.getD i dF)) dF).1.2.2.1,gW (gW (gW a2 (l.getD (tN (ns.getD i dF)) dF).1.1.2.1) (l.getD (tN (ns.getD i dF)) dF).1.2.1.2.1) (l.getD (tN (ns.getD i dF)) dF).1.2.2.2.1,gW (gW (gW a3 (l.getD (tN (ns.getD i dF)) dF).1.1.2.2) (l.getD (tN (ns.getD i dF)) dF).1.2.1.2.2) (l.getD (tN (ns.getD i dF)) dF).1.2.2.2.2,
    cZ (cZ (cZ b1 (l.getD (tN (ns.getD i dF)) dF).1.1.1) (l.getD (tN (ns.getD i dF)) dF).1.2.1.1) (l.getD (tN (ns.getD i dF)) dF).1.2.2.1,cZ (cZ (cZ b2 (l.getD (tN (ns.getD i dF)) dF).1.1.2.1) (l.getD (tN (ns.getD i dF)) dF).1.2.1.2.1) (l.getD (tN (ns.getD i dF)) dF).1.2.2.2.1,cZ (cZ (cZ b3 (l.getD (tN (ns.getD i dF)) dF).1.1.2.2) (l.getD (tN (ns.getD i dF)) dF).1.2.1.2.2) (l.getD (tN (ns.getD i dF)) dF).1.2.2.2.2):=by
    simp only [iS,fT,hg,hm]
    rw [cI (by omega),cond_true];rfl
   have r:∀k a b,cJ l ns k (a,b,(i:Int))=.inl (gW (gW (gW a (eF (l.getD (tN (ns.getD i dF)) dF).1.1 k)) (eF (l.getD (tN (ns.getD i dF)) dF).1.2.1 k)) (eF (l.getD (tN (ns.getD i dF)) dF).1.2.2 k),
    cZ (cZ (cZ b (eF (l.getD (tN (ns.getD i dF)) dF).1.1 k)) (eF (l.getD (tN (ns.getD i dF)) dF).1.2.1 k)) (eF (l.getD (tN (ns.getD i dF)) dF).1.2.2 k),((i+1:Nat):Int)):=fun k a b=>by
    simp only [cJ,fT]
    rw [cI (by omega),cond_true];rfl
   rw [aI e,aI (r 0 a1 b1),aI (r 1 a2 b2),aI (r 2 a3 b3)]
   exact aG5 hl n (i+1) _ _ _ _ _ _ (by omega)
  ·have e:iS (gR l ns) ((i:Int),a1,a2,a3,b1,b2,b3)=.inr (aCd a1 b1,aCd a2 b2,aCd a3 b3):=by
    simp only [iS,hm]
    rw [dA (by omega),cond_false];rfl
   have r:∀k a b,cJ l ns k (a,b,(i:Int))=.inr (aCd a b):=fun k a b=>by
    simp only [cJ]
    rw [dA (by omega),cond_false]
   rw [aQ e,aQ (r 0 a1 b1),aQ (r 1 a2 b2),aQ (r 2 a3 b3)]
theorem aTv (hv:VCH l)(hi:InR l.length ns)(h1:1<=ns.length)(hl:ns.length<=1048576):dX (gR l ns)=(aO l ns 0,aO l ns 1,aO l ns 2):=by
 have hm:(gR l ns).length=ns.length:=zA l ns
 have hg:=aG4 (l:=l) (ns:=ns) (i:=0) (by omega)
 have h0:=hi.at (i:=0) (by omega)
 have hb:=aO1 hv (i:=tN (ns.getD 0 dF)) (by omega)
 unfold dX aO
 rw [hm,show(tN 0)=0 from rfl,hg]
 obtain⟨n,hn⟩:∃n,tN ((ns.length:Int) - 0)+1=n+1:=⟨_,rfl⟩
 rw [hn]
 have hnn:ns.length<=n:=by omega
 generalize hp:l.getD (tN (ns.getD 0 dF)) dF=p at hb hg ⊢
 -- the first round
 have e:iS (gR l ns) (0,p.1.1.1,p.1.1.2.1,p.1.1.2.2,p.1.1.1,p.1.1.2.1,p.1.1.2.2)=.inl (((1:Nat):Int),gW (gW (gW p.1.1.1 p.1.1.1) p.1.2.1.1) p.1.2.2.1,gW (gW (gW p.1.1.2.1 p.1.1.2.1) p.1.2.1.2.1) p.1.2.2.2.1,gW (gW (gW p.1.1.2.2 p.1.1.2.2) p.1.2.1.2.2) p.1.2.2.2.2,
  cZ (cZ (cZ p.1.1.1 p.1.1.1) p.1.2.1.1) p.1.2.2.1,cZ (cZ (cZ p.1.1.2.1 p.1.1.2.1) p.1.2.1.2.1) p.1.2.2.2.1,cZ (cZ (cZ p.1.1.2.2 p.1.1.2.2) p.1.2.1.2.2) p.1.2.2.2.2):=by
  simp only [iS,show(tN 0)=0 from rfl,hg,hm]
  rw [cI (by omega),cond_true];rfl
 have r:∀k,cJ l ns k (64,(-64),0)=.inl (gW (gW (gW 64 (eF p.1.1 k)) (eF p.1.2.1 k)) (eF p.1.2.2 k),
  cZ (cZ (cZ (-64) (eF p.1.1 k)) (eF p.1.2.1 k)) (eF p.1.2.2 k),((1:Nat):Int)):=fun k=>by
  simp only [cJ,show(tN 0)=0 from rfl,hp]
  rw [cI (by omega),cond_true];rfl
 have m1:∀x y z:Int,(-64<=x/\x<=64)->gW (gW (gW 64 x) y) z=gW (gW (gW x x) y) z:=fun x y z hx=>by
  congr 2;unfold gW;split<;>split<;>omega
 have m2:∀x y z:Int,(-64<=x/\x<=64)->cZ (cZ (cZ (-64) x) y) z=cZ (cZ (cZ x x) y) z:=fun x y z hx=>by
  congr 2;unfold cZ;split<;>split<;>omega
 obtain⟨⟨hx,hy,hz⟩,_⟩:=hb
 rw [aI e,aI (r 0),aI (r 1),aI (r 2),aG5 hl n 1 _ _ _ _ _ _ (by omega)]
 rw [m1 _ _ _ (show -64<=eF p.1.1 0/\eF p.1.1 0<=64 from hx),m2 _ _ _ (show -64<=eF p.1.1 0/\eF p.1.1 0<=64 from hx),
  m1 _ _ _ (show -64<=eF p.1.1 1/\eF p.1.1 1<=64 from hy),m2 _ _ _ (show -64<=eF p.1.1 1/\eF p.1.1 1<=64 from hy),
  m1 _ _ _ (show -64<=eF p.1.1 2/\eF p.1.1 2<=64 from hz),m2 _ _ _ (show -64<=eF p.1.1 2/\eF p.1.1 2<=64 from hz)]
 rfl
theorem aLd (hv:VCH l)(hi:InR l.length ns)(k:Int):∀(n i:Nat) (a b:Int),ns.length - i < n->(-64<=a/\a<=64)->(-64<=b/\b<=64)->-64<=aH (cJ l ns k) n (a,b,(i:Int))/\aH (cJ l ns k) n (a,b,(i:Int))<=64
 | 0,_,_,_,h,_,_=>absurd h (eL _)
 | n+1,i,a,b,h,ha,hb=>by
  by_cases h1:i < ns.length
  ·have h0:=hi.at h1
   have hp:=aO1 hv (i:=tN (ns.getD i dF)) (by omega)
   have r:cJ l ns k (a,b,(i:Int))=.inl (gW (gW (gW a (eF (l.getD (tN (ns.getD i dF)) dF).1.1 k)) (eF (l.getD (tN (ns.getD i dF)) dF).1.2.1 k)) (eF (l.getD (tN (ns.getD i dF)) dF).1.2.2 k),
    cZ (cZ (cZ b (eF (l.getD (tN (ns.getD i dF)) dF).1.1 k)) (eF (l.getD (tN (ns.getD i dF)) dF).1.2.1 k)) (eF (l.getD (tN (ns.getD i dF)) dF).1.2.2 k),((i+1:Nat):Int)):=by
    simp only [cJ,fT]
    rw [cI (by omega),cond_true];rfl
   rw [aI r]
   have ax:∀p:Zt,bd 64 p->-64<=eF p k/\eF p k<=64:=fun p hp=>by
    unfold eF
    rw [Bool.cond_eq_ite]
    split
    ·exact hp.1
    ·rw [Bool.cond_eq_ite]
     split
     ·exact hp.2.1
     ·exact hp.2.2
   have qa1:=ax _ hp.1;have qa2:=ax _ hp.2.1;have qa3:=ax _ hp.2.2
   have mn:∀x y:Int,(-64<=x/\x<=64)->(-64<=y/\y<=64)->-64<=gW x y/\gW x y<=64:=fun x y hx hy=>by unfold gW;split<;>assumption
   have mx:∀x y:Int,(-64<=x/\x<=64)->(-64<=y/\y<=64)->-64<=cZ x y/\cZ x y<=64:=fun x y hx hy=>by unfold cZ;split<;>assumption
   exact aLd hv hi k n (i+1) _ _ (by omega) (mn _ _ (mn _ _ (mn _ _ ha qa1) qa2) qa3) (mx _ _ (mx _ _ (mx _ _ hb qa1) qa2) qa3)
  ·have r:cJ l ns k (a,b,(i:Int))=.inr (aCd a b):=by
    simp only [cJ]
    rw [dA (by omega),cond_false]
   rw [aQ r]
   unfold aCd
   rw [aR (by omega) (by omega),show(2:Int) ^ (min (tN 1) 64)=2 from by decide,Int.fdiv_eq_ediv_of_nonneg _ (by decide)]
   omega
theorem aI5 (hv:VCH l)(hi:InR l.length ns)(k:Int):-64<=aO l ns k/\aO l ns k<=64 :=
 aLd hv hi k _ 0 64 (-64) (by omega) (by omega) (by omega)
theorem aTw (m:gU) {c:Zt} (hc:bd 64 c):yG m c=lW m c:=by
 obtain⟨h1,h2,h3⟩:=hc
 have hW:W (0 - 64)=-64:=by decide
 have e1:aA6 c 64=true:=by
  unfold aA6 aA5
  rw [hW,cI h1.1,cI h1.2,cI h2.1,cI h2.2,cI h3.1,cI h3.2];rfl
 have sz:∀x:Int,(-64<=x/\x<=64)->aAw x<=64:=fun x hx=>by
  unfold aAw
  rw [aR (n:=0 - x) (by omega) (by omega)]
  split<;>omega
 have e2:rJ c 64=true:=by
  unfold rJ
  rw [hW,cI (sz _ h1),cI (sz _ h2),cI (sz _ h3),cI (show c.1≥-64 from h1.1),cI (show c.2.1≥-64 from h2.1),cI (show c.2.2≥-64 from h3.1)];rfl
 have e3:qU m c=lV m c:=by
  unfold qU lV
  rw [aBc,e1,e2]
 have e4:qJ m c=nD m c:=by
  funext ⟨v1,v2⟩
  rfl
 unfold yG lW
 rw [e3,e4]
def aVq (b:BU):Zt⊕Int->Zt⊕(BU×Int)
 | .inl s=>.inl s
 | .inr x=>.inr (b,x)
theorem aLe {b:BU} (hb:b.1=l) {k:Int}:∀(n i:Nat) (v15 v16 lo hi:Int),ns.length - i < n ->
 aH (gS b ns) n (v15,v16,k,lo,hi,k,(i:Int))=aVq b (aH (cV l ns) n (v15,v16,k,lo,hi,(i:Int)))
 | 0,_,_,_,_,_,h=>absurd h (eL _)
 | n+1,i,v15,v16,lo,hi,h=>by
  have hk:∀x:Int,rK (b.1,b.2.1,(b.2.2.1,b.2.2.2)) x k=gN (l.getD (tN x) dF) k:=fun x=>by
   rw [aEu,←hb];rfl
  by_cases h1:i < ns.length
  ·have e:gS b ns (v15,v16,k,lo,hi,k,(i:Int))=.inl (v15,v16,k,gW lo (gN (l.getD (tN (ns.getD i dF)) dF) k),cZ hi (gN (l.getD (tN (ns.getD i dF)) dF) k),k,((i+1:Nat):Int)):=by
    simp only [gS,hk,fT]
    rw [cI (by omega),cond_true];rfl
   have r:cV l ns (v15,v16,k,lo,hi,(i:Int))=.inl (v15,v16,k,gW lo (gN (l.getD (tN (ns.getD i dF)) dF) k),cZ hi (gN (l.getD (tN (ns.getD i dF)) dF) k),((i+1:Nat):Int)):=by
    simp only [cV,fT]
    rw [cI (by omega),cond_true];rfl
   rw [aI e,aI r]
   exact aLe hb n (i+1) _ _ _ _ (by omega)
  ·have e:gS b ns (v15,v16,k,lo,hi,k,(i:Int))=.inr (aVq b (bif (decide (((W (hi - lo)):Int) > v16)) then .inl (k,(W (hi - lo)),k+1) else .inl (v15,v16,k+1))):=by
    simp only [gS]
    rw [dA (by omega),cond_false]
    cases decide (((W (hi - lo)):Int) > v16)<;>rfl
   have r:cV l ns (v15,v16,k,lo,hi,(i:Int))=.inr (bif (decide (((W (hi - lo)):Int) > v16)) then .inl (k,(W (hi - lo)),k+1) else .inl (v15,v16,k+1)):=by
    simp only [cV]
    rw [dA (by omega),cond_false]
    cases decide (((W (hi - lo)):Int) > v16)<;>rfl
   rw [aQ e,aQ r]
theorem aLf {b:BU} (hb:b.1=l)(h1:1<=ns.length):∀(n:Nat) (v12 v13 k:Int),tN (3 - k) < n ->
 aH (iT b ns) n (v12,v13,k)=(b,aH (eR l ns) n (v12,v13,k))
 | 0,_,_,_,h=>absurd h (eL _)
 | n+1,v12,v13,k,h=>by
  have hk:∀x:Int,rK (b.1,b.2.1,(b.2.2.1,b.2.2.2)) x k=gN (l.getD (tN x) dF) k:=fun x=>by
   rw [aEu,←hb];rfl
  by_cases h3:k < 3
  ·generalize hK:gN (l.getD (tN (ns.getD (tN 0) dF)) dF) k=K
   have e0:iT b ns (v12,v13,k)=aH (gS b ns) (tN ((ns.length:Int) - 0)+1) (v12,v13,k,K,K,k,((0:Nat):Int)):=by
    simp only [iT,hk,hK]
    rw [cI h3,cond_true];rfl
   have r0:eR l ns (v12,v13,k)=aH (cV l ns) (tN ((ns.length:Int) - 1)+1) (v12,v13,k,K,K,((1:Nat):Int)):=by
    simp only [eR,hK]
    rw [cI h3,cond_true];rfl
   have f0:tN ((ns.length:Int) - 0)+1=(tN ((ns.length:Int) - 1)+1)+1:=by omega
   have e1:gS b ns (v12,v13,k,K,K,k,((0:Nat):Int))=.inl (v12,v13,k,K,K,k,((1:Nat):Int)):=by
    simp only [gS,hk,fT]
    rw [show(tN 0)=0 from rfl] at hK
    rw [cI (by omega),cond_true,hK,if_neg (by omega)];rfl
   rw [f0,aI e1,aLe hb _ 1 _ _ _ _ (by omega),←r0] at e0
   -- what a round brings
   have hr:∃x y,eR l ns (v12,v13,k)=.inl (x,y,k+1):=by
    rw [r0]
    have gen:∀(m i:Nat) (lo hi:Int),ns.length - i < m->∃x y,aH (cV l ns) m (v12,v13,k,lo,hi,(i:Int))=.inl (x,y,k+1):=by
     intro m
     induction m with
     | zero=>intro _ _ _ h;exact absurd h (eL _)
     | succ m ih =>
      intro i lo hi hm
      by_cases hi1:i < ns.length
      ·have r:cV l ns (v12,v13,k,lo,hi,(i:Int))=.inl (v12,v13,k,gW lo (gN (l.getD (tN (ns.getD i dF)) dF) k),cZ hi (gN (l.getD (tN (ns.getD i dF)) dF) k),((i+1:Nat):Int)):=by
        simp only [cV,fT]
        rw [cI (by omega),cond_true];rfl
       rw [aI r]
       exact ih (i+1) _ _ (by omega)
      ·have r:cV l ns (v12,v13,k,lo,hi,(i:Int))=.inr (bif (decide (((W (hi - lo)):Int) > v13)) then .inl (k,(W (hi - lo)),k+1) else .inl (v12,v13,k+1)):=by
        simp only [cV]
        rw [dA (by omega),cond_false]
        cases decide (((W (hi - lo)):Int) > v13)<;>rfl
       rw [aQ r]
       cases decide (((W (hi - lo)):Int) > v13)
       ·exact⟨_,_,rfl⟩
       ·exact⟨_,_,rfl⟩
    exact gen _ 1 K K (by omega)
   obtain⟨x,y,hr⟩:=hr
   rw [hr] at e0
   rw [aI (show _=Sum.inl (x,y,k+1) from e0),aI hr]
   exact aLf hb h1 n _ _ (k+1) (by omega)
  ·have e:iT b ns (v12,v13,k)=.inr (b,v12):=by
    simp only [iT]
    rw [dA h3,cond_false]
   have r:eR l ns (v12,v13,k)=.inr v12:=by
    simp only [eR]
    rw [dA h3,cond_false]
   rw [aQ e,aQ r]
theorem aTx {b:BU} (hb:b.1=l)(h1:1<=ns.length):aGv b ns=(b,aG l ns) :=
 aLf hb h1 _ _ _ _ (by omega)
end
end Go.Proofs.YtkdfcbmcgnaicaaGreat
namespace Go.Proofs.YtkdfcbmcgnaicaaGreat
open Go.Proofs Go.Aw Go.RowKit
set_option maxRecDepth 100000
abbrev NDE:=Int×Int×Int×Int×Zt×Int
def aRa (l:gU)(ns:List Int):Zt:=(aO l ns 0,aO l ns 1,aO l ns 2)
def ndR (l:gU)(ns:List Int)(fr lt rt:Int):NDE:=(fr,fr+ns.length,lt,rt,aRa l ns,(lW (gF l ns) (aRa l ns)).1)
def GT (l:gU)(leaf:Int):Nat->List Int->Int->Int->List Int×List NDE
 | 0,_,_,_=>([],[])
 | n+1,ns,fr,at_ =>
  if(ns.length:Int)<=leaf then(ns,[ndR l ns fr (-1) (-1)]) else
   let s:=qV l (aG l ns) ns
   let h:=(ns.length+1) / 2
   let a:=GT l leaf n (s.take h) fr (at_+1)
   let b:=GT l leaf n (s.drop h) (fr+h) (at_+1+a.2.length)
   (a.1++b.1,ndR l ns fr (at_+1) (at_+1+a.2.length)::(a.2++b.2))
theorem nR {l:gU} {leaf:Int} {n:Nat} {ns:List Int} {fr a:Int} (h:(ns.length:Int)<=leaf):GT l leaf (n+1) ns fr a=(ns,[ndR l ns fr (-1) (-1)]):=by
 rw [GT,if_pos h]
theorem nS {l:gU} {leaf:Int} {n:Nat} {ns:List Int} {fr a:Int} (h:¬(ns.length:Int)<=leaf):GT l leaf (n+1) ns fr a =
 ((GT l leaf n ((qV l (aG l ns) ns).take ((ns.length+1) / 2)) fr (a+1)).1++(GT l leaf n ((qV l (aG l ns) ns).drop ((ns.length+1) / 2)) (fr+((ns.length+1) / 2:Nat)) (a+1+(GT l leaf n ((qV l (aG l ns) ns).take ((ns.length+1) / 2)) fr (a+1)).2.length)).1,
   ndR l ns fr (a+1) (a+1+(GT l leaf n ((qV l (aG l ns) ns).take ((ns.length+1) / 2)) fr (a+1)).2.length)::((GT l leaf n ((qV l (aG l ns) ns).take ((ns.length+1) / 2)) fr (a+1)).2++(GT l leaf n ((qV l (aG l ns) ns).drop ((ns.length+1) / 2)) (fr+((ns.length+1) / 2:Nat)) (a+1+(GT l leaf n ((qV l (aG l ns) ns).take ((ns.length+1) / 2)) fr (a+1)).2.length)).2)):=by
 rw [GT,if_neg h]
theorem aO2 {α:Type} (pre post:List α)(x y:α):(pre++x::post).set pre.length y=pre++y::post:=by
 rw [List.set_append_right _ _ (Nat.le_refl _),Nat.sub_self];rfl
theorem aLg {α:Type} [Inhabited α] (pre post:List α)(x:α):(pre++x::post).getD pre.length dF=x:=by
 rw [fP,List.getElem?_append_right (Nat.le_refl _),Nat.sub_self];rfl
theorem aSv {s:List Int} {h:Nat}:Aw.part s 0 (h:Int)=s.take h:=by unfold Aw.part;simp
theorem aVr {s:List Int} {h:Nat}:Aw.part s (h:Int) (s.length:Int)=s.drop h:=by
 unfold Aw.part
 rw [fT,fT]
 exact List.take_of_length_le (by rw [List.length_drop];exact Nat.le_refl _)
theorem aE0:∀(nr:Nat) (l:gU) (t:TR) (ns:List Int) (leaf:Int),PGRW l t ns leaf->ns.length < nr ->
 aA nr l t ns leaf=(t.1++(GT l leaf nr ns t.1.length t.2.length).1,t.2++(GT l leaf nr ns t.1.length t.2.length).2)
 | 0,_,_,_,_,_,h=>absurd h (eL _)
 | nr+1,l,t,ns,leaf,hp,hn=>by
  have h:=hp.rng;have hl:=hp.lf;have hnd:=hp.nds
  simp only [aA]
  have hW:W ((t.1.length:Int)+(ns.length:Int))=(t.1.length:Int)+ns.length:=aR (by omega) (by omega)
  by_cases h0:(ns.length:Int)<=leaf
  ·rw [cI h0,cond_true,nR h0,hW]
   rfl
  ·rw [dA h0,cond_false,nS h0]
   have g2:2<=ns.length:=by omega
   have hs:=sZ hp (aG l ns)
   have hf:=sY (n:=ns.length) (by omega)
   have hso:=aOx (l:=l) (k:=aG l ns) (ns:=ns) (by omega)
   have hsl:=nP l (aG l ns) ns
   have hpt1:=dL (l:=aJ l ns (aG l ns)) (a:=0) (b:=(((ns.length+1) / 2:Nat):Int)) (by omega)
   have hpt2:=dL (l:=aJ l ns (aG l ns)) (a:=(((ns.length+1) / 2:Nat):Int)) (b:=(ns.length:Int)) (by omega)
   have h5:GRR _ (bP (aA nr) l t ns leaf) _:=kI nr _ _ _ _ (kH hp _ g2) (by rw [hs.1,hf,hpt1];omega)
   have h5o:=h5.ol
   rw [hs.1,hf,hpt1] at h5o
   dsimp only at h5o
   have e2:bP (aA nr) l t ns leaf=_:=aE0 nr _ _ _ _ (kH hp _ g2) (by rw [hs.1,hf,hpt1];omega)
   have e3:aB (aA nr) l t ns leaf=_:=aE0 nr _ _ _ _ (nQ hp _ g2 h5) (by rw [hs.1,hf,hpt2];omega)
   have hf':W (Int.tdiv (W ((((qV l (aG l ns) ns).length:Nat):Int)+1)) 2)=(((ns.length+1) / 2:Nat):Int):=by rw [hsl];exact hf
   rw [hso,hf',aSv] at e2
   rw [hso,hf',aVr] at e3
   rw [e2] at h5o e3
   simp only [List.length_append,List.length_cons,List.length_nil,Nat.zero_add,Int.natCast_add,Int.natCast_one] at e2 e3 h5o
   have ho1:(GT l leaf nr ((qV l (aG l ns) ns).take ((ns.length+1) / 2)) t.1.length (t.2.length+1)).1.length=(ns.length+1) / 2:=by omega
   rw [ho1] at e3
   rw [e3,e2]
   simp only [fT,List.append_assoc,List.cons_append,List.nil_append,aO2,aLg,hW,List.length_append,List.length_cons,Int.natCast_add,Int.natCast_one]
   rw [show(t.2.length:Int)+((GT l leaf nr ((qV l (aG l ns) ns).take ((ns.length+1) / 2)) t.1.length (t.2.length+1)).2.length+1)=t.2.length+1+(GT l leaf nr ((qV l (aG l ns) ns).take ((ns.length+1) / 2)) t.1.length (t.2.length+1)).2.length by omega]
   rfl
theorem aBj (l:gU) {leaf:Int} (hl:1<=leaf):∀(n:Nat) (ns:List Int) (fr a:Int),ns.length < n->(GT l leaf n ns fr a).1.length=ns.length
 | 0,_,_,_,h=>absurd h (eL _)
 | n+1,ns,fr,a,h=>by
  by_cases h0:(ns.length:Int)<=leaf
  ·rw [nR h0]
  ·rw [nS h0]
   have hsl:=nP l (aG l ns) ns
   simp only [List.length_append]
   rw [aBj l hl n _ _ _ (by rw [List.length_take,hsl];omega),aBj l hl n _ _ _ (by rw [List.length_drop,hsl];omega),List.length_take,List.length_drop,hsl]
   omega
theorem aLh (pre s post:List Int) {i k:Int} (h:Nat)(hi:i=pre.length)(hk:k=i+h)(hh:h<=s.length):Aw.part (pre++(s++post)) i k=s.take h:=by
 unfold Aw.part
 rw [hk,hi,show((pre.length:Int)+(h:Int)).toNat=pre.length+h by omega,fT,List.drop_append_of_le_length (Nat.le_refl _),List.drop_length,List.nil_append,show pre.length+h - pre.length=h by omega,List.take_append_of_le_length hh]
theorem aI6:∀(nr:Nat) (b:BU) (i k:Int),PADD b i k->VCH b.1->tN (k - i) < nr ->
 cH nr b i k=((b.2.2.2.length:Int),b.1,b.2.1,b.2.2.1.take i.toNat++((GT b.1 b.2.1 nr (Aw.part b.2.2.1 i k) i b.2.2.2.length).1++b.2.2.1.drop k.toNat),b.2.2.2++(GT b.1 b.2.1 nr (Aw.part b.2.2.1 i k) i b.2.2.2.length).2)
 | 0,_,_,_,_,_,h=>absurd h (eL _)
 | nr+1,b,i,k,hp,hv,hn=>by
  have h:=hp.rng;have hn2:=hp.nds;have hl:=hp.lf
  have hW:W (k - i)=k - i:=aR (by omega) (by omega)
  have hpl:=dL (l:=b.2.2.1) (a:=i) (b:=k) (by omega)
  have hir:=hp.inr.part i k
  have hcen:dX (dQ b i k)=aRa b.1 (Aw.part b.2.2.1 i k):=aTv hv hir (by rw [hpl];omega) (by rw [hpl];omega)
  have hrad:(iA b i k).1=(lW (gF b.1 (Aw.part b.2.2.1 i k)) (aRa b.1 (Aw.part b.2.2.1 i k))).1:=by
   unfold iA
   rw [hcen,aTw _ ⟨aI5 hv hir 0,aI5 hv hir 1,aI5 hv hir 2⟩]
   rfl
  have hnd:∀x y,((i,k,x,y,dX (dQ b i k),(iA b i k).1):NDE)=ndR b.1 (Aw.part b.2.2.1 i k) i x y:=fun x y=>by
   unfold ndR
   rw [hcen,hrad,hpl,show i+((tN k - tN i:Nat):Int)=k by omega]
  simp only [cH]
  by_cases h0:W (k - i) > b.2.1
  ·rw [cI h0,cond_true,nS (by rw [hpl];omega)]
   have h2:2<=k - i:=by omega
   have hm:=aA9 ⟨h.1,h.2.1,by omega⟩
   have hax:(aGx b i k).2=aG b.1 (Aw.part b.2.2.1 i k):=by
    unfold aGx
    exact congrArg Prod.snd (aTx (l:=b.1) (b:=(b.1,b.2.1,b.2.2.1,b.2.2.2++[(i,k,(-1),(-1),(dX (dQ b i k)),(iA b i k).1)])) rfl (by rw [hpl];omega))
   have hor:yH b i k=b.2.2.1.take i.toNat++(qV b.1 (aG b.1 (Aw.part b.2.2.1 i k)) (Aw.part b.2.2.1 i k)++b.2.2.1.drop k.toNat):=by
    unfold yH
    rw [aTu (by omega),hax,List.append_assoc,show i.toNat+(k.toNat - i.toNat)=k.toNat by omega]
    rfl
   have h5:ADDR _ (fK (cH nr) b i k).2 i _:=vN nr _ _ _ (aMm hp h2) (by rw [hm];omega)
   have e5:fK (cH nr) b i k=_:=aI6 nr _ _ _ (aMm hp h2) hv (by rw [hm];omega)
   have e6:aU (cH nr) b i k=_:=aI6 nr _ _ _ (aOr hp (sX hp).1 h2 h5) hv (by rw [hm];omega)
   have hsl:=nP b.1 (aG b.1 (Aw.part b.2.2.1 i k)) (Aw.part b.2.2.1 i k)
   rw [hm,hnd] at e5
   generalize hs:qV b.1 (aG b.1 (Aw.part b.2.2.1 i k)) (Aw.part b.2.2.1 i k)=s at hor hsl e5 e6 ⊢
   generalize hh:((Aw.part b.2.2.1 i k).length+1) / 2=hf at e5 e6 ⊢
   have hfe:(i+(k - i+1) / 2)=i+(hf:Int):=by rw [←hh,hpl];omega
   have hsn:s.length=(k - i).toNat:=by rw [hsl,hpl];omega
   have hfs:hf<=s.length:=by rw [←hh,hpl,hsn];omega
   have htk:(b.2.2.1.take i.toNat).length=i.toNat:=by rw [List.length_take];omega
   dsimp only at e5
   have d1:(b.2.2.1.take i.toNat++(s++b.2.2.1.drop k.toNat)).take i.toNat=b.2.2.1.take i.toNat:=by
    rw [List.take_append_of_le_length (by rw [htk];exact Nat.le_refl _),List.take_of_length_le (by rw [htk];exact Nat.le_refl _)]
   have d2:(b.2.2.1.take i.toNat++(s++b.2.2.1.drop k.toNat)).drop (i+(hf:Int)).toNat=s.drop hf++b.2.2.1.drop k.toNat:=by
    rw [List.drop_append,List.drop_of_length_le (by rw [htk];omega),List.nil_append,htk,show(i+(hf:Int)).toNat - i.toNat=hf by omega,List.drop_append_of_le_length hfs]
   have g1:=aBj b.1 hl nr (s.take hf) i (((b.2.2.2++[ndR b.1 (Aw.part b.2.2.1 i k) i (-1) (-1)]).length:Nat):Int) (by rw [List.length_take,hsn];have:=hn;rw [←hh,hpl];omega)
   have g2:=aBj b.1 hl nr (s.drop hf) (i+(hf:Int)) ((((b.2.2.2++[ndR b.1 (Aw.part b.2.2.1 i k) i (-1) (-1)])++(GT b.1 b.2.1 nr (s.take hf) i (((b.2.2.2++[ndR b.1 (Aw.part b.2.2.1 i k) i (-1) (-1)]).length:Nat):Int)).2).length:Nat):Int) (by rw [List.length_drop,hsn];have:=hn;rw [←hh,hpl];omega)
   rw [hor,hfe,aLh (b.2.2.1.take i.toNat) s (b.2.2.1.drop k.toNat) hf (by rw [htk];omega) rfl hfs,d1,d2] at e5
   rw [e5,hm,hfe] at e6
   dsimp only at e6
   rw [←List.append_assoc (List.take i.toNat b.2.2.1)] at e6
   have hl1:(b.2.2.1.take i.toNat++(GT b.1 b.2.1 nr (s.take hf) i (((b.2.2.2++[ndR b.1 (Aw.part b.2.2.1 i k) i (-1) (-1)]).length:Nat):Int)).1).length=i.toNat+hf:=by
    rw [List.length_append,htk,g1,List.length_take];omega
   rw [aLh _ (s.drop hf) (b.2.2.1.drop k.toNat) (s.drop hf).length (by rw [hl1];omega) (by rw [List.length_drop,hsn];omega) (Nat.le_refl _),List.take_length] at e6
   have d3:∀x y z:List Int,x.length=i.toNat+hf->(x++(y++z)).take (i+(hf:Int)).toNat=x:=fun x y z hx=>by
    rw [show(i+(hf:Int)).toNat=x.length by omega,List.take_append_of_le_length (Nat.le_refl _),List.take_length]
   have d4:∀x y z:List Int,x.length=i.toNat+hf->y.length=s.length - hf->(x++(y++z)).drop k.toNat=z:=fun x y z hx hy=>by
    rw [←List.append_assoc,show k.toNat=(x++y).length by rw [List.length_append,hx,hy,hsn];omega,List.drop_append_of_le_length (Nat.le_refl _),List.drop_length,List.nil_append]
   rw [d3 _ _ _ hl1,d4 _ _ _ hl1 (by rw [List.length_drop])] at e6
   rw [e6,e5]
   simp only [fT,List.append_assoc,List.cons_append,List.nil_append,aO2,aLg,List.length_append,List.length_cons,List.length_nil,Nat.zero_add,Int.natCast_add,Int.natCast_one]
   rw [show(b.2.2.2.length:Int)+((GT b.1 b.2.1 nr (s.take hf) i ((b.2.2.2.length:Int)+1)).2.length+1)=b.2.2.2.length+1+(GT b.1 b.2.1 nr (s.take hf) i ((b.2.2.2.length:Int)+1)).2.length by omega]
   rfl
  ·rw [dA h0,cond_false,nR (by rw [hpl];omega),hnd]
   dsimp only
   rw [←List.append_assoc,List.append_assoc]
   have:b.2.2.1.take i.toNat++(Aw.part b.2.2.1 i k++b.2.2.1.drop k.toNat)=b.2.2.1:=by
    unfold Aw.part
    have e:b.2.2.1.drop k.toNat=(b.2.2.1.drop i.toNat).drop (k.toNat - i.toNat):=by rw [List.drop_drop,show i.toNat+(k.toNat - i.toNat)=k.toNat by omega]
    rw [e,List.take_append_drop,List.take_append_drop]
   rw [this]
theorem aVs (l:gU)(t:TR)(ns:List Int)(leaf:Int)(hp:PGRW l ([],[]) ns leaf):gV l t ns leaf=fG l ([],[]) ns leaf:=by
 have h:=hp.rng;have hl:=hp.lf
 unfold gV fG
 simp only [fQ,aA]
 by_cases h0:(ns.length:Int)<=leaf
 ·rw [cI h0,cond_true,cond_true]
  rfl
 ·rw [dA h0,cond_false,cond_false]
  have g2:2<=ns.length:=by omega
  have hs:=sZ hp (aG l ns)
  have hf:=sY (n:=ns.length) (by omega)
  have hpt1:=dL (l:=aJ l ns (aG l ns)) (a:=0) (b:=(((ns.length+1) / 2:Nat):Int)) (by omega)
  have hpt2:=dL (l:=aJ l ns (aG l ns)) (a:=(((ns.length+1) / 2:Nat):Int)) (b:=(ns.length:Int)) (by omega)
  have e2:dY l t ns leaf=bP (aA ns.length) l ([],[]) ns leaf:=by
   unfold dY bP jS
   refine(aOy _ l ([],_) _ leaf (kH (t:=([],[])) hp _ g2) (lss _)).trans ?_
   exact rT _ _ _ _ _ _ (kH hp _ g2) (lss _) (by rw [hs.1,hf,hpt1];omega)
  have h5:GRR _ (bP (aA ns.length) l ([],[]) ns leaf) _:=kI _ _ _ _ _ (kH hp _ g2) (by rw [hs.1,hf,hpt1];omega)
  have e3:aD l t ns leaf=aB (aA ns.length) l ([],[]) ns leaf:=by
   unfold aD aB fG
   rw [e2]
   exact rT _ _ _ _ _ _ (nQ hp _ g2 h5) (lss _) (by rw [hs.1,hf,hpt2];omega)
  rw [e3,e2]
  rfl
def lS (n:Nat):List Int:=(List.range n).map (fun i:Nat=>(i:Int))
theorem fH (n:Nat):(lS n).length=n:=by simp [lS]
theorem aCv (n:Nat):lS (n+1)=lS n++[(n:Int)]:=by simp [lS,List.range_succ]
theorem aBk (n:Nat):InR n (lS n):=fun x hx=>by
 simp only [lS,List.mem_map,List.mem_range] at hx
 obtain⟨i,hi,rfl⟩:=hx
 omega
def BT (l:gU)(leaf:Int):List Int×List NDE:=if l.length=0 then([],[]) else GT l leaf (l.length+1) (lS l.length) 0 0
theorem aMo {l:gU} (h:1<=l.length)(hl:l.length<=96) {leaf:Int} (hf:1<=leaf):PGRW l ([],[]) (lS l.length) leaf :=
 ⟨aBk _,by rw [fH];simp only [List.length_nil];omega,by rw [fH];simp only [List.length_nil];omega,hf⟩
theorem aI7 (l:gU)(hl:l.length<=96) {leaf:Int} (hf:1<=leaf):lR l leaf=BT l leaf:=by
 have lp:∀(n i:Nat),l.length - i < n->i<=l.length->aH (hU l leaf) n (lS i,(i:Int))=BT l leaf:=by
  intro n
  induction n with
  | zero=>intro i h;exact absurd h (eL _)
  | succ n ih =>
   intro i h hi
   by_cases h1:i < l.length
   ·have e:hU l leaf (lS i,(i:Int))=.inl (lS (i+1),((i+1:Nat):Int)):=by
     simp only [hU]
     rw [cI (by omega),cond_true,aCv];rfl
    rw [aI e]
    exact ih (i+1) (by omega) (by omega)
   ·obtain rfl:i=l.length:=by omega
    refine aQ ?_
    simp only [hU]
    rw [dA (by omega),cond_false]
    unfold BT
    by_cases h0:l.length=0
    ·rw [if_pos h0,show(((l.length:Int):Int) == 0)=true by simp [h0],cond_true]
    ·have hp:=aMo (l:=l) (by omega) hl hf
     rw [if_neg h0,show(((l.length:Int):Int) == 0)=false by rw [beq_eq_false_iff_ne];omega,cond_false,aVs _ _ _ _ hp]
     unfold fG
     rw [aE0 _ _ _ _ _ hp (lss _),fH]
     rfl
 exact lp (tN ((l.length:Int) - 0)+1) 0 (by omega) (Nat.zero_le _)
theorem aO3 (l:gU)(hv:VCH l) {leaf:Int} (hf:1<=leaf):lP l leaf=BT l leaf:=by
 have hl:=hv.1
 have lp:∀(n i:Nat),l.length - i < n->i<=l.length->aH (hP l leaf) n (lS i,([]:List NDE),(i:Int))=BT l leaf:=by
  intro n
  induction n with
  | zero=>intro i h;exact absurd h (eL _)
  | succ n ih =>
   intro i h hi
   by_cases h1:i < l.length
   ·have e:hP l leaf (lS i,([]:List NDE),(i:Int))=.inl (lS (i+1),([]:List NDE),((i+1:Nat):Int)):=by
     simp only [hP]
     rw [cI (by omega),cond_true,aCv];rfl
    rw [aI e]
    exact ih (i+1) (by omega) (by omega)
   ·obtain rfl:i=l.length:=by omega
    refine aQ ?_
    simp only [hP]
    rw [dA (by omega),cond_false]
    unfold BT
    by_cases h0:l.length=0
    ·rw [if_pos h0,dA (by omega),cond_false]
     have:lS l.length=[]:=by rw [h0];simp [lS]
     rw [this]
    ·have hp:PADD (l,leaf,(lS l.length,([]:List NDE))) 0 (l.length:Int):=⟨aBk _,by dsimp only;rw [fH];omega,by dsimp only;simp only [List.length_nil];omega,hf⟩
     rw [if_neg h0,cI (by omega),cond_true]
     unfold F49
     rw [aI6 _ _ _ _ hp hv (lss _)]
     dsimp only
     have hpt:Aw.part (lS l.length) 0 (l.length:Int)=lS l.length:=by rw [aSv,List.take_of_length_le (by rw [fH];exact Nat.le_refl _)]
     have hsub:tN ((l.length:Int) - 0)=l.length:=by omega
     rw [hpt,hsub,fT,List.drop_of_length_le (by rw [fH];exact Nat.le_refl _),List.append_nil]
     rfl
 exact lp (tN ((l.length:Int) - 0)+1) 0 (by omega) (Nat.zero_le _)
theorem aI8 (l:gU) {leaf:Int} (hl:1<=leaf):∀(n:Nat) (ns:List Int) (fr a:Int),ns.length < n->1<=ns.length->(GT l leaf n ns fr a).2.length+1<=2*ns.length
 | 0,_,_,_,h,_=>absurd h (eL _)
 | n+1,ns,fr,a,h,h1=>by
  by_cases h0:(ns.length:Int)<=leaf
  ·rw [nR h0];simp only [List.length_cons,List.length_nil];omega
  ·rw [nS h0]
   have hsl:=nP l (aG l ns) ns
   have g1:=aI8 l hl n ((qV l (aG l ns) ns).take ((ns.length+1) / 2)) fr (a+1) (by rw [List.length_take,hsl];omega) (by rw [List.length_take,hsl];omega)
   have g2:=aI8 l hl n ((qV l (aG l ns) ns).drop ((ns.length+1) / 2)) (fr+((ns.length+1) / 2:Nat)) (a+1+(GT l leaf n ((qV l (aG l ns) ns).take ((ns.length+1) / 2)) fr (a+1)).2.length) (by rw [List.length_drop,hsl];omega) (by rw [List.length_drop,hsl];omega)
   rw [List.length_take,hsl] at g1
   rw [List.length_drop,hsl] at g2
   simp only [List.length_cons,List.length_append]
   omega
theorem xB (l:gU)(hl:l.length<=96) {leaf:Int} (hf:1<=leaf):(BT l leaf).1.length=l.length/\(BT l leaf).2.length<=192:=by
 unfold BT
 by_cases h0:l.length=0
 ·rw [if_pos h0,h0];exact⟨rfl,Nat.zero_le _⟩
 ·rw [if_neg h0]
  have g1:=aBj l hf (l.length+1) (lS l.length) 0 0 (by rw [fH];omega)
  have g2:=aI8 l hf (l.length+1) (lS l.length) 0 0 (by rw [fH];omega) (by rw [fH];omega)
  rw [fH] at g1 g2
  exact⟨g1,by omega⟩
theorem aRb {l:gU} {leaf:Int} (h:iY l=0)(hf:1<=leaf):(lP l leaf).1.length<=96/\(lP l leaf).2.length<=192:=by
 have hv:=aI4 h
 rw [aO3 l hv hf]
 have:=xB l hv.1 hf
 have:=hv.1
 omega
theorem aRc {l:gU} {leaf:Int} (h:kN l=0)(hf:1<=leaf):(lR l leaf).1.length<=96/\(lR l leaf).2.length<=192:=by
 have hl:=aGy h
 rw [aI7 l hl hf]
 have:=xB l hl hf
 omega
noncomputable def xC:Code:=(aN [1,1,0,1] [] (aL Tryz.f76) []).1
noncomputable def xD:List K:=(aN [1,1,0,1] [] (aL Tryz.f76) []).2
def uF (a0:List Int)(a1:List Int)(v1:Int):LS:=⟨gO 26 [(0,(.s 0 0 a0.length 1)),(1,(.s 1 0 a1.length 1)),(12,(iv (a0.length:Int))),(13,(iv v1))],[(.live false true (flat c3 a0)),(.live false true (flat c3 a1))]⟩
def jT (a0:List Int)(a1:List Int):Int->(Int)⊕(Bool)
 | v1 =>
  (bif (decide ((v1:Int) < (a0.length:Int))) then
   (bif (((a0.getD (tN v1) dF):Int) != (a1.getD (tN v1) dF)) then
    (.inr false)
   else
    (.inl (v1+1)))
  else
   (.inr true))
theorem aMp (a0:List Int)(a1:List Int)(l0:a0.length<=2^63-1)(l1:a1.length<=2^63-1) {cx:Cx} (hcx:cx.base=2):∀(n:Nat) (v1:Int),(0<=v1)/\(a0.length=a1.length)->tN ((a0.length:Int) - v1) < n->Aw.Good Tryz.prog none 9 (bodyPost Tryz.prog Tryz.f76 (RR cx (.v (.bool (aH (jT a0 a1) n v1))) [] [])) cx [] (.l xC n::xD) (uF a0 a1 v1):=by
 intro n
 induction n with
 | zero=>intro v1 hi hn;exact absurd hn (eL _)
 | succ n ih =>
  intro v1 hi hn
  refine aS ?_
  cases h0:(decide ((v1:Int) < (a0.length:Int))) with
  | true =>
   have q0:=cN h0
   let t1:List (St Tryz.prog):=[.d h0,.i v1 (a0.length),.L aF a0 v1 0 1,.i v1 (a1.length),.L aF a1 v1 0 1]
   cases h1:(((a0.getD (tN v1) dF):Int) != (a1.getD (tN v1) dF)) with
   | true =>
    have q1:=bne_iff_ne.1 h1
    have e:=Eq.refl (jT a0 a1 v1);conv at e=>rhs;simp only [jT,h0,h1,aW]
    rw [aK,e]
    exact rt (t1++[.d h1]) [] [] hcx (by kernel_rfl)
   | false =>
    have q1:=bne_eq_false_iff_eq.1 h1
    have e:=Eq.refl (jT a0 a1 v1);conv at e=>rhs;simp only [jT,h0,h1,aW]
    rw [aI e]
    refine ba (t1++[.d h1]) [] [0,1,12,13] [] hcx (m:=n) xC (xD) (uF a0 a1 (W (v1+1))) (by kernel_rfl) ?_
    have z0:(W (v1+1))=(v1+1):=aR (by omega) (by omega)
    rw [z0]
    exact ih (v1+1) (by refine⟨?_,?_⟩<;>(try simp only [Ls])<;>first | omega | assumption | simp) (by omega)
  | false =>
   have q0:=cY h0
   have e:=Eq.refl (jT a0 a1 v1);conv at e=>rhs;simp only [jT,h0,aW]
   rw [aK,e]
   exact rt [.d h0] [] [] hcx (by kernel_rfl)
def nT (a0:List Int)(a1:List Int):Bool :=
 (bif (((a0.length:Int):Int) != (a1.length:Int)) then
  false
 else
  (aH (jT a0 a1) (tN ((a0.length:Int) - 0)+1) 0))
theorem aRd (a0:List Int)(a1:List Int)(l0:a0.length<=2^63-1)(l1:a1.length<=2^63-1):Con Tryz.prog 76 [(.s 0 0 a0.length 1),(.s 1 0 a1.length 1)] [(.live false true (flat c3 a0)),(.live false true (flat c3 a1))] (.v (.bool (nT a0 a1))) []:=by
 refine bA Tryz.func76 (by kernel_rfl) fun cx hcx=>?_
 cases h0:(((a0.length:Int):Int) != (a1.length:Int)) with
 | true =>
  have q0:=bne_iff_ne.1 h0
  have e:=Eq.refl (nT a0 a1);conv at e=>rhs;simp only [nT,h0,aW]
  rw [e]
  exact rt [.d h0] [] [] hcx (by kernel_rfl)
 | false =>
  have q0:=bne_eq_false_iff_eq.1 h0
  have e:=Eq.refl (nT a0 a1);conv at e=>rhs;simp only [nT,h0,aW]
  rw [e]
  refine en [.d h0] [] [0,1,12,13] [] hcx xC (xD) (uF a0 a1 0) (tN ((a0.length:Int) - 0)+1) (by kernel_rfl) ?_
  exact aMp a0 a1 l0 l1 hcx (tN ((a0.length:Int) - 0)+1) 0 (by refine⟨?_,?_⟩<;>(try simp only [Ls])<;>first | omega | assumption | simp) (by omega)
noncomputable def xE:Code:=(aN [1,1,0,1] [] (aL Tryz.f77) []).1
noncomputable def xF:List K:=(aN [1,1,0,1] [] (aL Tryz.f77) []).2
def uG (a0:bE)(a1:bE)(v1:Int):LS:=⟨gO 26 [(0,(.s 0 0 a0.length 8)),(1,(.s 1 0 a1.length 8)),(12,(iv (a0.length:Int))),(13,(iv v1))],[(.live false true (flat bZ a0)),(.live false true (flat bZ a1))]⟩
def jU (a0:bE)(a1:bE):Int->(Int)⊕(Bool)
 | v1 =>
  (bif (decide ((v1:Int) < (a0.length:Int))) then
   (bif (!((((a0.getD (tN v1) dF).1:Int) == (a1.getD (tN v1) dF).1)&&((((a0.getD (tN v1) dF).2.1:Int) == (a1.getD (tN v1) dF).2.1)&&((((a0.getD (tN v1) dF).2.2.1:Int) == (a1.getD (tN v1) dF).2.2.1)&&((((a0.getD (tN v1) dF).2.2.2.1:Int) == (a1.getD (tN v1) dF).2.2.2.1)&&(((((a0.getD (tN v1) dF).2.2.2.2.1.1:Int) == (a1.getD (tN v1) dF).2.2.2.2.1.1)&&((((a0.getD (tN v1) dF).2.2.2.2.1.2.1:Int) == (a1.getD (tN v1) dF).2.2.2.2.1.2.1)&&((((a0.getD (tN v1) dF).2.2.2.2.1.2.2:Int) == (a1.getD (tN v1) dF).2.2.2.2.1.2.2)&&true)))&&((((a0.getD (tN v1) dF).2.2.2.2.2:Int) == (a1.getD (tN v1) dF).2.2.2.2.2)&&true))))))) then
    (.inr false)
   else
    (.inl (v1+1)))
  else
   (.inr true))
theorem aMq (a0:bE)(a1:bE)(l0:a0.length<=2^63-1)(l1:a1.length<=2^63-1) {cx:Cx} (hcx:cx.base=2):∀(n:Nat) (v1:Int),(0<=v1)/\(a0.length=a1.length)->tN ((a0.length:Int) - v1) < n->Aw.Good Tryz.prog none 9 (bodyPost Tryz.prog Tryz.f77 (RR cx (.v (.bool (aH (jU a0 a1) n v1))) [] [])) cx [] (.l xE n::xF) (uG a0 a1 v1):=by
 intro n
 induction n with
 | zero=>intro v1 hi hn;exact absurd hn (eL _)
 | succ n ih =>
  intro v1 hi hn
  refine aS ?_
  cases h0:(decide ((v1:Int) < (a0.length:Int))) with
  | true =>
   have q0:=cN h0
   let t1:List (St Tryz.prog):=[.d h0,.i v1 (a0.length),.L bU a0 v1 0 8,.i v1 (a1.length),.L bU a1 v1 0 8]
   cases h1:(!((((a0.getD (tN v1) dF).1:Int) == (a1.getD (tN v1) dF).1)&&((((a0.getD (tN v1) dF).2.1:Int) == (a1.getD (tN v1) dF).2.1)&&((((a0.getD (tN v1) dF).2.2.1:Int) == (a1.getD (tN v1) dF).2.2.1)&&((((a0.getD (tN v1) dF).2.2.2.1:Int) == (a1.getD (tN v1) dF).2.2.2.1)&&(((((a0.getD (tN v1) dF).2.2.2.2.1.1:Int) == (a1.getD (tN v1) dF).2.2.2.2.1.1)&&((((a0.getD (tN v1) dF).2.2.2.2.1.2.1:Int) == (a1.getD (tN v1) dF).2.2.2.2.1.2.1)&&((((a0.getD (tN v1) dF).2.2.2.2.1.2.2:Int) == (a1.getD (tN v1) dF).2.2.2.2.1.2.2)&&true)))&&((((a0.getD (tN v1) dF).2.2.2.2.2:Int) == (a1.getD (tN v1) dF).2.2.2.2.2)&&true))))))) with
   | true =>
    have e:=Eq.refl (jU a0 a1 v1);conv at e=>rhs;simp only [jU,h0,h1,aW]
    rw [aK,e]
    exact rt (t1++[.d h1]) [] [] hcx (by kernel_rfl)
   | false =>
    have e:=Eq.refl (jU a0 a1 v1);conv at e=>rhs;simp only [jU,h0,h1,aW]
    rw [aI e]
    refine ba (t1++[.d h1]) [] [0,1,12,13] [] hcx (m:=n) xE (xF) (uG a0 a1 (W (v1+1))) (by kernel_rfl) ?_
    have z0:(W (v1+1))=(v1+1):=aR (by omega) (by omega)
    rw [z0]
    exact ih (v1+1) (by refine⟨?_,?_⟩<;>(try simp only [Ls])<;>first | omega | assumption | simp) (by omega)
  | false =>
   have q0:=cY h0
   have e:=Eq.refl (jU a0 a1 v1);conv at e=>rhs;simp only [jU,h0,aW]
   rw [aK,e]
   exact rt [.d h0] [] [] hcx (by kernel_rfl)
def sG (a0:bE)(a1:bE):Bool :=
 (bif (((a0.length:Int):Int) != (a1.length:Int)) then
  false
 else
  (aH (jU a0 a1) (tN ((a0.length:Int) - 0)+1) 0))
theorem aRe (a0:bE)(a1:bE)(l0:a0.length<=2^63-1)(l1:a1.length<=2^63-1):Con Tryz.prog 77 [(.s 0 0 a0.length 8),(.s 1 0 a1.length 8)] [(.live false true (flat bZ a0)),(.live false true (flat bZ a1))] (.v (.bool (sG a0 a1))) []:=by
 refine bA Tryz.func77 (by kernel_rfl) fun cx hcx=>?_
 cases h0:(((a0.length:Int):Int) != (a1.length:Int)) with
 | true =>
  have q0:=bne_iff_ne.1 h0
  have e:=Eq.refl (sG a0 a1);conv at e=>rhs;simp only [sG,h0,aW]
  rw [e]
  exact rt [.d h0] [] [] hcx (by kernel_rfl)
 | false =>
  have q0:=bne_eq_false_iff_eq.1 h0
  have e:=Eq.refl (sG a0 a1);conv at e=>rhs;simp only [sG,h0,aW]
  rw [e]
  refine en [.d h0] [] [0,1,12,13] [] hcx xE (xF) (uG a0 a1 0) (tN ((a0.length:Int) - 0)+1) (by kernel_rfl) ?_
  exact aMq a0 a1 l0 l1 hcx (tN ((a0.length:Int) - 0)+1) 0 (by refine⟨?_,?_⟩<;>(try simp only [Ls])<;>first | omega | assumption | simp) (by omega)
def F50 (a0:List Int×bE)(a1:List Int×bE):Bool :=
 (bif (nT a0.1 a1.1) then
  (sG a0.2 a1.2)
 else
  false)
theorem C50 (a0:List Int×bE)(a1:List Int×bE)(l0_1:a0.1.length<=2^63-1)(l0_2:a0.2.length<=2^63-1)(l1_1:a1.1.length<=2^63-1)(l1_2:a1.2.length<=2^63-1):Con Tryz.prog 50 [(.a [(.s 0 0 a0.1.length 1),(.s 1 0 a0.2.length 8)]),(.a [(.s 2 0 a1.1.length 1),(.s 3 0 a1.2.length 8)])] [(.live false true (flat c3 a0.1)),(.live false true (flat bZ a0.2)),(.live false true (flat c3 a1.1)),(.live false true (flat bZ a1.2))] (.v (.bool (F50 a0 a1))) []:=by
 refine bA Tryz.func50 (by kernel_rfl) fun cx hcx=>?_
 let t0:List (St Tryz.prog):=[.c [0,2] (aRd a0.1 a1.1 (by omega) (by omega))]
 cases h0:(nT a0.1 a1.1) with
 | true =>
  have e:=Eq.refl (F50 a0 a1);conv at e=>rhs;simp only [F50,h0,aW]
  rw [e]
  exact rt (t0++[.d h0,.c [1,3] (aRe a0.2 a1.2 (by omega) (by omega))]) [] [] hcx (by kernel_rfl)
 | false =>
  have e:=Eq.refl (F50 a0 a1);conv at e=>rhs;simp only [F50,h0,aW]
  rw [e]
  exact rt (t0++[.d h0]) [] [] hcx (by kernel_rfl)
noncomputable def aE1:Code:=(aN [1,1,0,1] [] (aL Tryz.f31) []).1
noncomputable def aE2:List K:=(aN [1,1,0,1] [] (aL Tryz.f31) []).2
def aBl (a0:bT)(a1:List Int×bE)(v1:Int):LS:=⟨gO 21 [(0,(.s 0 0 a0.length 10)),(3,(.p 3 0)),(6,(iv v1))],[(.live false true (flat dI a0)),(.live false true (flat c3 a1.1)),(.live false true (flat bZ a1.2)),(.live true false [(.s 1 0 a1.1.length 1),(.s 2 0 a1.2.length 8)])]⟩
def kJ (a0:bT)(a1:List Int×bE):Int->(Int)⊕(Int)
 | v1 =>
  (bif (decide ((v1:Int)<=16)) then
   (bif (F50 (a1.1,a1.2) ((lP a0 v1).1,(lP a0 v1).2)) then
    (.inr 0)
   else
    (.inl (v1+1)))
  else
   (.inr 1))
theorem aRf (a0:bT)(a1:List Int×bE)(l0:a0.length<=2^63-1)(l1_1:a1.1.length<=2^63-1)(l1_2:a1.2.length<=2^63-1) {cx:Cx} (hcx:cx.base=3):∀(n:Nat) (v1:Int),(0<=v1)/\(iY a0=0)/\(1<=v1)->tN (16 - v1+1) < n->Aw.Good Tryz.prog none 9 (bodyPost Tryz.prog Tryz.f31 (RR cx (iv (aH (kJ a0 a1) n v1)) [] [])) cx [] (.l aE1 n::aE2) (aBl a0 a1 v1):=by
 intro n
 induction n with
 | zero=>intro v1 hi hn;exact absurd hn (eL _)
 | succ n ih =>
  intro v1 hi hn
  refine aS ?_
  have hbl:=aRb (l:=a0) (leaf:=v1) hi.2.1 (by omega)
  cases h0:(decide ((v1:Int)<=16)) with
  | true =>
   have q0:=cN h0
   let t1:List (St Tryz.prog):=[.d h0,.c [0] (aSu a0 v1 (by omega) (vC (l:=a0) hi.2.1) (by omega)),.c [1,2,4,5] (C50 (a1.1,a1.2) ((lP a0 v1).1,(lP a0 v1).2) (by omega) (by omega) (by(try simp only [Lt]);omega) (by(try simp only [Lt]);omega))]
   cases h1:(F50 (a1.1,a1.2) ((lP a0 v1).1,(lP a0 v1).2)) with
   | true =>
    have e:=Eq.refl (kJ a0 a1 v1);conv at e=>rhs;simp only [kJ,h0,h1,aW]
    rw [aK,e]
    exact rt (t1++[.d h1]) [] [] hcx (by kernel_rfl)
   | false =>
    have e:=Eq.refl (kJ a0 a1 v1);conv at e=>rhs;simp only [kJ,h0,h1,aW]
    rw [aI e]
    refine ba (t1++[.d h1]) [] [0,3,6] [3] hcx (m:=n) aE1 (aE2) (aBl a0 a1 (W (v1+1))) (by kernel_rfl) ?_
    have z0:(W (v1+1))=(v1+1):=aR (by omega) (by omega)
    rw [z0]
    exact ih (v1+1) (by refine⟨?_,?_,?_⟩<;>(try simp only [Ls])<;>first | omega | assumption | simp) (by omega)
  | false =>
   have q0:=cY h0
   have e:=Eq.refl (kJ a0 a1 v1);conv at e=>rhs;simp only [kJ,h0,aW]
   rw [aK,e]
   exact rt [.d h0] [] [] hcx (by kernel_rfl)
def tA (a0:bT)(a1:List Int×bE):Int :=
 (bif (((iY a0):Int) != 0) then
  (iY a0)
 else
  (aH (kJ a0 a1) (tN (16 - 1+1)+1) 1))
theorem aVt (a0:bT)(a1:List Int×bE)(l0:a0.length<=2^63-1)(l1_1:a1.1.length<=2^63-1)(l1_2:a1.2.length<=2^63-1):Con Tryz.prog 31 [(.s 0 0 a0.length 10),(.a [(.s 1 0 a1.1.length 1),(.s 2 0 a1.2.length 8)])] [(.live false true (flat dI a0)),(.live false true (flat c3 a1.1)),(.live false true (flat bZ a1.2))] (iv (tA a0 a1)) []:=by
 refine bA Tryz.func31 (by kernel_rfl) fun cx hcx=>?_
 let t0:List (St Tryz.prog):=[.c [0] (aNq a0 (by omega))]
 cases h0:(((iY a0):Int) != 0) with
 | true =>
  have q0:=bne_iff_ne.1 h0
  have e:=Eq.refl (tA a0 a1);conv at e=>rhs;simp only [tA,h0,aW]
  rw [e]
  exact rt (t0++[.d h0]) [] [] hcx (by kernel_rfl)
 | false =>
  have q0:=bne_eq_false_iff_eq.1 h0
  have e:=Eq.refl (tA a0 a1);conv at e=>rhs;simp only [tA,h0,aW]
  rw [e]
  refine en (t0++[.d h0]) [] [0,3,6] [3] hcx aE1 (aE2) (aBl a0 a1 1) (tN (16 - 1+1)+1) (by kernel_rfl) ?_
  exact aRf a0 a1 l0 l1_1 l1_2 hcx (tN (16 - 1+1)+1) 1 (by refine⟨?_,?_,?_⟩<;>(try simp only [Ls])<;>first | omega | assumption | simp) (by omega)
noncomputable def aE3:Code:=(aN [1,1,1,0,1] [] (aL Tryz.f40) []).1
noncomputable def aE4:List K:=(aN [1,1,1,0,1] [] (aL Tryz.f40) []).2
def aBm (a0:bT)(a1:List Int×bE)(v1:Int):LS:=⟨gO 21 [(0,(.s 0 0 a0.length 10)),(3,(.p 3 0)),(6,(iv v1))],[(.live false true (flat dI a0)),(.live false true (flat c3 a1.1)),(.live false true (flat bZ a1.2)),(.live true false [(.s 1 0 a1.1.length 1),(.s 2 0 a1.2.length 8)])]⟩
def fO (a0:bT)(a1:List Int×bE):Int->(Int)⊕(Int)
 | v1 =>
  (bif (decide ((v1:Int)<=16)) then
   (bif (F61 (a1.1,a1.2) ((lR a0 v1).1,(lR a0 v1).2)) then
    (.inr 0)
   else
    (.inl (v1+1)))
  else
   (.inr 1))
theorem aRg (a0:bT)(a1:List Int×bE)(l0:a0.length<=2^63-1)(l1_1:a1.1.length<=2^63-1)(l1_2:a1.2.length<=2^63-1) {cx:Cx} (hcx:cx.base=3):∀(n:Nat) (v1:Int),(0<=v1)/\(kN a0=0)/\(1<=v1)->tN (16 - v1+1) < n->Aw.Good Tryz.prog none 9 (bodyPost Tryz.prog Tryz.f40 (RR cx (iv (aH (fO a0 a1) n v1)) [] [])) cx [] (.l aE3 n::aE4) (aBm a0 a1 v1):=by
 intro n
 induction n with
 | zero=>intro v1 hi hn;exact absurd hn (eL _)
 | succ n ih =>
  intro v1 hi hn
  refine aS ?_
  have hbl:=aRc (l:=a0) (leaf:=v1) hi.2.1 (by omega)
  cases h0:(decide ((v1:Int)<=16)) with
  | true =>
   have q0:=cN h0
   let t1:List (St Tryz.prog):=[.d h0,.c [0] (aVo a0 v1 (by omega) (aGy (l:=a0) hi.2.1) (by omega)),.c [1,2,4,5] (C61 (a1.1,a1.2) ((lR a0 v1).1,(lR a0 v1).2) (by omega) (by omega) (by(try simp only [Lt]);omega) (by(try simp only [Lt]);omega))]
   cases h1:(F61 (a1.1,a1.2) ((lR a0 v1).1,(lR a0 v1).2)) with
   | true =>
    have e:=Eq.refl (fO a0 a1 v1);conv at e=>rhs;simp only [fO,h0,h1,aW]
    rw [aK,e]
    exact rt (t1++[.d h1]) [] [] hcx (by kernel_rfl)
   | false =>
    have e:=Eq.refl (fO a0 a1 v1);conv at e=>rhs;simp only [fO,h0,h1,aW]
    rw [aI e]
    refine ba (t1++[.d h1]) [] [0,3,6] [3] hcx (m:=n) aE3 (aE4) (aBm a0 a1 (W (v1+1))) (by kernel_rfl) ?_
    have z0:(W (v1+1))=(v1+1):=aR (by omega) (by omega)
    rw [z0]
    exact ih (v1+1) (by refine⟨?_,?_,?_⟩<;>(try simp only [Ls])<;>first | omega | assumption | simp) (by omega)
  | false =>
   have q0:=cY h0
   have e:=Eq.refl (fO a0 a1 v1);conv at e=>rhs;simp only [fO,h0,aW]
   rw [aK,e]
   exact rt [.d h0] [] [] hcx (by kernel_rfl)
def gM (a0:bT)(a1:List Int×bE):Int :=
 (bif (((kN a0):Int) != 0) then
  (kN a0)
 else
  (aH (fO a0 a1) (tN (16 - 1+1)+1) 1))
theorem aVu (a0:bT)(a1:List Int×bE)(l0:a0.length<=2^63-1)(l1_1:a1.1.length<=2^63-1)(l1_2:a1.2.length<=2^63-1):Con Tryz.prog 40 [(.s 0 0 a0.length 10),(.a [(.s 1 0 a1.1.length 1),(.s 2 0 a1.2.length 8)])] [(.live false true (flat dI a0)),(.live false true (flat c3 a1.1)),(.live false true (flat bZ a1.2))] (iv (gM a0 a1)) []:=by
 refine bA Tryz.func40 (by kernel_rfl) fun cx hcx=>?_
 let t0:List (St Tryz.prog):=[.c [0] (aSh a0 (by omega))]
 cases h0:(((kN a0):Int) != 0) with
 | true =>
  have q0:=bne_iff_ne.1 h0
  have e:=Eq.refl (gM a0 a1);conv at e=>rhs;simp only [gM,h0,aW]
  rw [e]
  exact rt (t0++[.d h0]) [] [] hcx (by kernel_rfl)
 | false =>
  have q0:=bne_eq_false_iff_eq.1 h0
  have e:=Eq.refl (gM a0 a1);conv at e=>rhs;simp only [gM,h0,aW]
  rw [e]
  refine en (t0++[.d h0]) [] [0,3,6] [3] hcx aE3 (aE4) (aBm a0 a1 1) (tN (16 - 1+1)+1) (by kernel_rfl) ?_
  exact aRg a0 a1 l0 l1_1 l1_2 hcx (tN (16 - 1+1)+1) 1 (by refine⟨?_,?_,?_⟩<;>(try simp only [Ls])<;>first | omega | assumption | simp) (by omega)
theorem aRh (a b:TR):F50 a b=F61 a b:=by
 have e1:nT a.1 b.1=jI a.1 b.1:=rfl
 unfold F50 F61
 rw [e1]
 cases jI a.1 b.1<;>rfl
theorem zB {S:Int->Int⊕Bool} {N:Nat} {p:Nat->Prop} (h1:∀i:Nat,i < N->(S (i:Int)=.inl ((i+1:Nat):Int)/\p i)\/S (i:Int)=.inr false):∀(d i n:Nat),d=N - i->i<=N->d < n->aH S n (i:Int)=true->∀j,i<=j->j < N->p j
 | 0,i,n,hd,hi,hn,_,j,h1,h2=>absurd h2 (by omega)
 | d+1,i,n,hd,hi,hn,h,j,g1,g2=>by
  obtain⟨n,rfl⟩:∃m,n=m+1:=⟨n - 1,by omega⟩
  rcases h1 i (by omega) with⟨e,hp⟩ | e
  ·rw [aI e] at h
   by_cases hj:j=i
   ·rw [hj];exact hp
   ·exact zB h1 d (i+1) n (by omega) (by omega) (by omega) h j (by omega) g2
  ·rw [aQ e] at h;cases h
theorem aBn {α:Type} [Inhabited α] {a b:List α} (h:a.length=b.length)(h2:∀j,j < a.length->a.getD j dF=b.getD j dF):a=b:=by
 refine List.ext_getElem h fun i h3 h4=>?_
 have:=h2 i h3
 rw [fP,fP,List.getElem?_eq_getElem h3,List.getElem?_eq_getElem h4] at this
 exact this
theorem aRi {a b:List Int} (h:jI a b=true):a=b:=by
 unfold jI at h
 by_cases hl:a.length=b.length
 ·rw [show(((a.length:Int):Int) != (b.length:Int))=false by rw [hl];simp,cond_false] at h
  refine aBn hl (zB (N:=a.length) (p:=fun j=>a.getD j dF=b.getD j dF) (fun i hi=>?_) a.length 0 _ (by omega) (by omega) (by omega) h · (Nat.zero_le _) ·)
  simp only [iU,fT]
  rw [cI (show((i:Nat):Int) < (a.length:Nat) by omega),cond_true]
  cases e:((a.getD i dF:Int) != b.getD i dF) with
  | true=>exact .inr rfl
  | false=>exact .inl ⟨rfl,bne_eq_false_iff_eq.1 e⟩
 ·rw [show(((a.length:Int):Int) != (b.length:Int))=true by rw [bne_iff_ne];omega,cond_true] at h
  cases h
theorem aO4 {a b:TR} (h:F61 a b=true):a=b:=by
 unfold F61 at h
 cases h1:jI a.1 b.1 with
 | false=>rw [h1] at h;cases h
 | true =>
  rw [h1,Bool.not_true,cond_false] at h
  by_cases hl:a.2.length=b.2.length
  ·rw [show(((a.2.length:Int):Int) != (b.2.length:Int))=false by rw [hl];simp,cond_false] at h
   refine Prod.ext (aRi h1) (aBn hl (zB (N:=a.2.length) (p:=fun j=>a.2.getD j dF=b.2.getD j dF) (fun i hi=>?_) a.2.length 0 _ (by omega) (by omega) (by omega) h · (Nat.zero_le _) ·))
   simp only [vO,fT]
   rw [cI (show((i:Nat):Int) < (a.2.length:Nat) by omega),cond_true]
   generalize a.2.getD i dF=x
   generalize b.2.getD i dF=y
   obtain⟨x1,x2,x3,x4,⟨x5,x6,x7⟩,x8⟩:=x
   obtain⟨y1,y2,y3,y4,⟨y5,y6,y7⟩,y8⟩:=y
   dsimp only
   rw [Bool.cond_eq_ite]
   split
   ·exact .inr rfl
   ·rename_i hq
    refine .inl ⟨rfl,?_⟩
    simp at hq ⊢
    omega
  ·rw [show(((a.2.length:Int):Int) != (b.2.length:Int))=true by rw [bne_iff_ne];omega,cond_true] at h
   cases h
theorem aG6 {l:gU} {t:TR} (hv:VCH l):∀(n:Nat) (v:Int),1<=v->aH (kJ l t) n v=aH (fO l t) n v
 | 0,_,_=>rfl
 | n+1,v,h=>by
  have e:kJ l t v=fO l t v:=by
   simp only [kJ,fO,aRh,aO3 l hv h,aI7 l hv.1 h]
  have h2:(fO l t v=.inl (v+1))\/(∃r,fO l t v=.inr r):=by
   simp only [fO]
   rw [Bool.cond_eq_ite]
   split
   ·rw [Bool.cond_eq_ite]
    split
    ·exact .inr ⟨_,rfl⟩
    ·exact .inl rfl
   ·exact .inr ⟨_,rfl⟩
  rcases h2 with h2 | ⟨r,h2⟩
  ·rw [aI (e.trans h2),aI h2];exact aG6 hv n (v+1) (by omega)
  ·rw [aQ (e.trans h2),aQ h2]
theorem aG7 (l:gU)(t:TR):tA l t=gM l t:=by
 unfold tA gM
 rw [aBc]
 cases h:((kN l:Int) != 0) with
 | true=>rfl
 | false=>exact aG6 (aI4 (by rw [aBc];exact bne_eq_false_iff_eq.1 h)) _ 1 (Int.le_refl _)
theorem uH {l:gU} {t:TR} (h:gM l t=0):VCH l/\∃leaf:Int,1<=leaf/\leaf<=16/\t=BT l leaf:=by
 unfold gM at h
 cases h0:((kN l:Int) != 0) with
 | true=>rw [h0,cond_true] at h;rw [h] at h0;cases h0
 | false =>
  rw [h0,cond_false] at h
  have hv:=aI4 (l:=l) (by rw [aBc];exact bne_eq_false_iff_eq.1 h0)
  refine⟨hv,?_⟩
  have lp:∀(n:Nat) (v:Int),1<=v->tN (17 - v) < n->aH (fO l t) n v=0->∃leaf:Int,1<=leaf/\leaf<=16/\t=BT l leaf:=by
   intro n
   induction n with
   | zero=>intro _ _ h;exact absurd h (eL _)
   | succ n ih =>
    intro v h1 h2 h3
    by_cases hv16:v<=16
    ·cases hs:F61 (t.1,t.2) ((lR l v).1,(lR l v).2) with
     | true =>
      have:=aO4 hs
      exact⟨v,h1,hv16,by rw [←aI7 l hv.1 h1];exact this⟩
     | false =>
      have e:fO l t v=.inl (v+1):=by
       simp only [fO]
       rw [cI hv16,cond_true,hs,cond_false]
      rw [aI e] at h3
      exact ih (v+1) (by omega) (by omega) h3
    ·have e:fO l t v=.inr 1:=by
      simp only [fO]
      rw [dA hv16,cond_false]
     rw [aQ e] at h3
     exact absurd h3 (by decide)
  exact lp _ 1 (Int.le_refl _) (by omega) h
structure NOK (fr m a k:Int) (x:NDE):Prop where
 c1:fr<=x.1
 c2:x.1 < x.2.1
 c3:x.2.1<=fr+m
 c4:(x.2.2.1=-1/\x.2.2.2.1=-1)\/(a < x.2.2.1/\x.2.2.1 < a+k/\a < x.2.2.2.1/\x.2.2.2.1 < a+k)
theorem aSw (l:gU)(leaf:Int)(n:Nat)(ns:List Int)(fr a:Int):1<=(GT l leaf (n+1) ns fr a).2.length:=by
 by_cases h0:(ns.length:Int)<=leaf
 ·rw [nR h0];simp
 ·rw [nS h0];simp
theorem aO5 (l:gU) {leaf:Int} (hl:1<=leaf):∀(n:Nat) (ns:List Int) (fr a:Int),ns.length < n->1<=ns.length->∀x∈(GT l leaf n ns fr a).2,NOK fr ns.length a (GT l leaf n ns fr a).2.length x
 | 0,_,_,_,h,_=>absurd h (eL _)
 | n+1,ns,fr,a,h,h1=>by
  by_cases h0:(ns.length:Int)<=leaf
  ·rw [nR h0]
   intro x hx
   rw [List.mem_singleton.1 hx]
   exact⟨Int.le_refl _,by unfold ndR;dsimp only;omega,by unfold ndR;exact Int.le_refl _,.inl ⟨rfl,rfl⟩⟩
  ·rw [nS h0]
   have hsl:=nP l (aG l ns) ns
   obtain⟨n,rfl⟩:∃k,n=k+1:=⟨n - 1,by omega⟩
   have g1:=aO5 l hl (n+1) ((qV l (aG l ns) ns).take ((ns.length+1) / 2)) fr (a+1) (by rw [List.length_take,hsl];omega) (by rw [List.length_take,hsl];omega)
   have g2:=aO5 l hl (n+1) ((qV l (aG l ns) ns).drop ((ns.length+1) / 2)) (fr+((ns.length+1) / 2:Nat)) (a+1+(GT l leaf (n+1) ((qV l (aG l ns) ns).take ((ns.length+1) / 2)) fr (a+1)).2.length) (by rw [List.length_drop,hsl];omega) (by rw [List.length_drop,hsl];omega)
   have k1:=aSw l leaf n ((qV l (aG l ns) ns).take ((ns.length+1) / 2)) fr (a+1)
   have k2:=aSw l leaf n ((qV l (aG l ns) ns).drop ((ns.length+1) / 2)) (fr+((ns.length+1) / 2:Nat)) (a+1+(GT l leaf (n+1) ((qV l (aG l ns) ns).take ((ns.length+1) / 2)) fr (a+1)).2.length)
   rw [List.length_take,hsl] at g1
   rw [List.length_drop,hsl] at g2
   generalize GT l leaf (n+1) ((qV l (aG l ns) ns).take ((ns.length+1) / 2)) fr (a+1)=A at g1 g2 k1 k2 ⊢
   generalize GT l leaf (n+1) ((qV l (aG l ns) ns).drop ((ns.length+1) / 2)) (fr+((ns.length+1) / 2:Nat)) (a+1+A.2.length)=B at g2 k2 ⊢
   intro x hx
   simp only [List.length_cons,List.length_append,Int.natCast_add,Int.natCast_one]
   rcases List.mem_cons.1 hx with rfl | hx
   ·exact⟨Int.le_refl _,by unfold ndR;dsimp only;omega,by unfold ndR;exact Int.le_refl _,.inr ⟨by unfold ndR;dsimp only;omega,by unfold ndR;dsimp only;omega,by unfold ndR;dsimp only;omega,by unfold ndR;dsimp only;omega⟩⟩
   ·rcases List.mem_append.1 hx with hx | hx
    ·obtain⟨c1,c2,c3,c4⟩:=g1 x hx
     exact⟨c1,c2,by omega,by rcases c4 with c4 | c4;exact .inl c4;exact .inr (by omega)⟩
    ·obtain⟨c1,c2,c3,c4⟩:=g2 x hx
     exact⟨by omega,c2,by omega,by rcases c4 with c4 | c4;exact .inl c4;exact .inr (by omega)⟩
theorem aVv (l:gU) {leaf:Int} (hl:1<=leaf):∀x∈(BT l leaf).2,NOK 0 l.length 0 (BT l leaf).2.length x:=by
 unfold BT
 by_cases h0:l.length=0
 ·rw [if_pos h0];intro x hx;cases hx
 ·rw [if_neg h0]
  have:=aO5 l hl (l.length+1) (lS l.length) 0 0 (by rw [fH];omega) (by rw [fH];omega)
  rw [fH] at this
  exact this
inductive TRE (N:List NDE):Nat->Nat->Int->Int->Int->Prop where
 | leaf {a:Nat} {f t:Int}:a < N.length->f < t->(N.getD a dF).1=f->(N.getD a dF).2.1=t->(N.getD a dF).2.2.1=-1->(N.getD a dF).2.2.2.1=-1->TRE N a 1 f t 1
 | node {a m1 m2:Nat} {f c t h1 h2:Int}:a < N.length->(N.getD a dF).1=f->(N.getD a dF).2.1=t->(N.getD a dF).2.2.1=((a+1:Nat):Int)->(N.getD a dF).2.2.2.1=((a+1+m1:Nat):Int)->TRE N (a+1) m1 f c h1->TRE N (a+1+m1) m2 c t h2->TRE N a (m1+m2+1) f t (1+cZ h1 h2)
theorem aWr (a b:Int):a<=cZ a b/\b<=cZ a b/\(cZ a b=a\/cZ a b=b):=by unfold cZ;split<;>omega
theorem cG {N:List NDE} {a m:Nat} {f t h:Int} (H:TRE N a m f t h):a+m<=N.length/\1<=m/\f < t/\1<=h/\h<=m/\(N.getD a dF).1=f/\(N.getD a dF).2.1=t:=by
 induction H with
 | leaf h1 h2 h3 h4 _ _=>exact⟨by omega,Nat.le_refl _,h2,Int.le_refl _,Int.le_refl _,h3,h4⟩
 | node g1 g2 g3 g4 g5 _ _ i1 i2 =>
  rename_i h1 h2 _ _
  have:=aWr h1 h2
  exact⟨by omega,by omega,by omega,by omega,by omega,g2,g3⟩
theorem aMr {α:Type} [Inhabited α] {x y:List α} {j:Nat} (h:j < x.length):(x++y).getD j dF=x.getD j dF:=by
 rw [fP,fP,List.getElem?_append_left h]
theorem aMs {α:Type} [Inhabited α] {x y:List α} {j:Nat}:(x++y).getD (x.length+j) dF=y.getD j dF:=by
 rw [fP,fP,List.getElem?_append_right (by omega),Nat.add_sub_cancel_left]
theorem aI9 (l:gU) {leaf:Int} (hl:1<=leaf):∀(n:Nat) (ns:List Int) (fr:Int) (a:Nat) (N:List NDE),ns.length < n->1<=ns.length->a+(GT l leaf n ns fr a).2.length<=N.length ->
 (∀j,j < (GT l leaf n ns fr a).2.length->N.getD (a+j) dF=(GT l leaf n ns fr a).2.getD j dF)->∃h,TRE N a (GT l leaf n ns fr a).2.length fr (fr+ns.length) h
 | 0,_,_,_,_,h,_=>absurd h (eL _)
 | n+1,ns,fr,a,N,h,h1=>by
  by_cases h0:(ns.length:Int)<=leaf
  ·rw [nR h0]
   intro g1 g2
   have e:=g2 0 (by simp)
   rw [Nat.add_zero] at e
   have e':N.getD a dF=ndR l ns fr (-1) (-1):=e
   exact⟨1,TRE.leaf (by simp only [List.length_singleton] at g1;omega) (by omega) (by rw [e'];rfl) (by rw [e'];rfl) (by rw [e'];rfl) (by rw [e'];rfl)⟩
  ·rw [nS h0]
   have hsl:=nP l (aG l ns) ns
   have ea:((a:Nat):Int)+1=((a+1:Nat):Int):=by omega
   rw [ea]
   have c1:=aI9 l hl n ((qV l (aG l ns) ns).take ((ns.length+1) / 2)) fr (a+1) N (by rw [List.length_take,hsl];omega) (by rw [List.length_take,hsl];omega)
   have c2:=aI9 l hl n ((qV l (aG l ns) ns).drop ((ns.length+1) / 2)) (fr+((ns.length+1) / 2:Nat)) (a+1+(GT l leaf n ((qV l (aG l ns) ns).take ((ns.length+1) / 2)) fr ((a+1:Nat):Int)).2.length) N (by rw [List.length_drop,hsl];omega) (by rw [List.length_drop,hsl];omega)
   rw [List.length_take,hsl] at c1
   rw [List.length_drop,hsl] at c2
   rw [show(((a+1:Nat):Int)+(((GT l leaf n ((qV l (aG l ns) ns).take ((ns.length+1) / 2)) fr ((a+1:Nat):Int)).2.length:Nat):Int))=((a+1+(GT l leaf n ((qV l (aG l ns) ns).take ((ns.length+1) / 2)) fr ((a+1:Nat):Int)).2.length:Nat):Int) by omega]
   generalize GT l leaf n ((qV l (aG l ns) ns).take ((ns.length+1) / 2)) fr ((a+1:Nat):Int)=A at c1 c2 ⊢
   generalize GT l leaf n ((qV l (aG l ns) ns).drop ((ns.length+1) / 2)) (fr+((ns.length+1) / 2:Nat)) ((a+1+A.2.length:Nat):Int)=B at c2 ⊢
   intro g1 g2
   simp only [List.length_cons,List.length_append] at g1 g2 ⊢
   have e':N.getD a dF=ndR l ns fr ((a+1:Nat):Int) ((a+1+A.2.length:Nat):Int):=g2 0 (by omega)
   obtain⟨x1,d1⟩:=c1 (by omega) (fun j hj=>by
    have:=g2 (j+1) (by omega)
    rw [List.getD_cons_succ,aMr hj] at this
    rw [←this];congr 1;omega)
   obtain⟨x2,d2⟩:=c2 (by omega) (fun j hj=>by
    have:=g2 (A.2.length+j+1) (by omega)
    rw [List.getD_cons_succ,aMs] at this
    rw [←this];congr 1;omega)
   rw [show fr+((min ((ns.length+1) / 2) ns.length:Nat):Int)=fr+(((ns.length+1) / 2:Nat):Int) by omega] at d1
   rw [show fr+(((ns.length+1) / 2:Nat):Int)+((ns.length - (ns.length+1) / 2:Nat):Int)=fr+(ns.length:Int) by omega] at d2
   exact⟨_,TRE.node (by omega) (by rw [e'];rfl) (by rw [e'];rfl) (by rw [e'];rfl) (by rw [e'];rfl) d1 d2⟩
theorem aE5 (l:gU) {leaf:Int} (hl:1<=leaf):(l.length=0/\BT l leaf=([],[]))\/∃h,TRE (BT l leaf).2 0 (BT l leaf).2.length 0 l.length h:=by
 unfold BT
 by_cases h0:l.length=0
 ·rw [if_pos h0];exact .inl ⟨h0,rfl⟩
 ·rw [if_neg h0]
  have:=aI9 l hl (l.length+1) (lS l.length) 0 0 (GT l leaf (l.length+1) (lS l.length) 0 ((0:Nat):Int)).2 (by rw [fH];omega) (by rw [fH];omega) (by omega) (fun j _=>by rw [Nat.zero_add])
  rw [fH,Int.zero_add] at this
  exact .inr this
theorem iB {N:List NDE} {a m:Nat} {f u h:Int} (H:TRE N a m f u h):(m=1/\h=1/\(N.getD a dF).2.2.1=-1/\(N.getD a dF).2.2.2.1=-1) \/
 ∃(m1 m2:Nat) (c h1 h2:Int),m=m1+m2+1/\(N.getD a dF).2.2.1=((a+1:Nat):Int)/\(N.getD a dF).2.2.2.1=((a+1+m1:Nat):Int)/\TRE N (a+1) m1 f c h1/\TRE N (a+1+m1) m2 c u h2/\h=1+cZ h1 h2:=by
 cases H with
 | leaf h1 h2 h3 h4 h5 h6=>exact .inl ⟨rfl,rfl,h5,h6⟩
 | node g1 g2 g3 g4 g5 b1 b2=>exact .inr ⟨_,_,_,_,_,rfl,g4,g5,b1,b2,rfl⟩
def aTy (t:TR):Prop:=t.1.length<=1048576/\t.2.length<=1048576/\∀i:Nat,i < t.2.length->0<=(t.2.getD i dF).1/\(t.2.getD i dF).1 < (t.2.getD i dF).2.1/\(t.2.getD i dF).2.1<=t.1.length
theorem aRj (l:gU)(hl:l.length<=96) {leaf:Int} (h1:1<=leaf):aTy (BT l leaf):=by
 have hb:=xB l hl h1
 refine⟨by omega,by omega,fun i hi=>?_⟩
 have:=aVv l h1 _ (List.getElem_mem hi)
 rw [fP,List.getElem?_eq_getElem hi]
 simp only [Option.getD_some]
 obtain⟨c1,c2,c3,_⟩:=this
 omega
def F53 (a0:Zt)(a1:Zt):Zt :=
 ((W (a0.1 - a1.1)),(W (a0.2.1 - a1.2.1)),(W (a0.2.2 - a1.2.2)))
theorem C53 (a0:Zt)(a1:Zt):Con Tryz.prog 53 [(.a (k3 a0)),(.a (k3 a1))] [] (.a (k3 (F53 a0 a1))) []:=by
 refine bA Tryz.func53 (by kernel_rfl) fun cx hcx=>?_
 have e:=Eq.refl (F53 a0 a1);conv at e=>rhs;simp only [F53]
 rw [e]
 exact rt [] [] [] hcx (by kernel_rfl)
def F52 (a0:Zt):Int :=
 (W ((W ((W (a0.1*a0.1))+(W (a0.2.1*a0.2.1))))+(W (a0.2.2*a0.2.2))))
theorem C52 (a0:Zt):Con Tryz.prog 52 [(.a (k3 a0))] [] (iv (F52 a0)) []:=by
 refine bA Tryz.func52 (by kernel_rfl) fun cx hcx=>?_
 have e:=Eq.refl (F52 a0);conv at e=>rhs;simp only [F52]
 rw [e]
 exact rt [] [] [] hcx (by kernel_rfl)
section
variable {t : TR} {x : Zt} {sep : Int} {a : Nat} {far pan : List Int} {d : Int}
end
end Go.Proofs.YtkdfcbmcgnaicaaGreat
namespace Go.Proofs.YtkdfcbmcgnaicaaGreat
open Go.Proofs Go.Aw Go.RowKit
set_option maxRecDepth 100000
def aCe (a0:bT):Bool :=
 (bif (decide (((a0.length:Int):Int) > 40)) then
  (bif (decide (((a0.length:Int):Int)<=96)) then
   true
  else
   (decide (((a0.length:Int):Int) > 200)))
 else
  (decide (((a0.length:Int):Int) > 200)))
theorem aWs (a0:bT)(l0:a0.length<=2^63-1):Con Tryz.prog 5 [(.s 0 0 a0.length 10)] [(.live false true (flat dI a0))] (.v (.bool (aCe a0))) []:=by
 refine bA Tryz.func5 (by kernel_rfl) fun cx hcx=>?_
 cases h0:(decide (((a0.length:Int):Int) > 40)) with
 | true =>
  have q0:=cN h0
  let t1:List (St Tryz.prog):=[.d h0]
  cases h1:(decide (((a0.length:Int):Int)<=96)) with
  | true =>
   have q1:=cN h1
   have e:=Eq.refl (aCe a0);conv at e=>rhs;simp only [aCe,h0,h1,aW]
   rw [e]
   exact rt (t1++[.d h1]) [] [] hcx (by kernel_rfl)
  | false =>
   have q1:=cY h1
   have e:=Eq.refl (aCe a0);conv at e=>rhs;simp only [aCe,h0,h1,aW]
   rw [e]
   exact rt (t1++[.d h1]) [] [] hcx (by kernel_rfl)
 | false =>
  have q0:=cY h0
  have e:=Eq.refl (aCe a0);conv at e=>rhs;simp only [aCe,h0,aW]
  rw [e]
  exact rt [.d h0] [] [] hcx (by kernel_rfl)
theorem aE6 (l:gU) {leaf:Int} (hl:1<=leaf):∀(n:Nat) (ns:List Int) (fr a:Int),ns.length < n->(GT l leaf n ns fr a).1.Perm ns
 | 0,_,_,_,h=>absurd h (eL _)
 | n+1,ns,fr,a,h=>by
  by_cases h0:(ns.length:Int)<=leaf
  ·rw [nR h0]
  ·rw [nS h0]
   have hsl:=nP l (aG l ns) ns
   refine((aE6 l hl n _ _ _ (by rw [List.length_take,hsl];omega)).append (aE6 l hl n _ _ _ (by rw [List.length_drop,hsl];omega))).trans ?_
   rw [List.take_append_drop]
   exact List.mergeSort_perm ns _
theorem aRk (l:gU) {leaf:Int} (hl:1<=leaf):(BT l leaf).1.Perm (lS l.length):=by
 unfold BT
 by_cases h0:l.length=0
 ·rw [if_pos h0,h0];exact List.Perm.refl _
 ·rw [if_neg h0];exact aE6 l hl _ _ _ _ (by rw [fH];omega)
abbrev BLK:=Int×Int×Bool
structure PVB (i k:Int) (t:TR) (out:List BLK):Prop where
 e0:0<=i
 e1:0<=k
 e2:t.2.length<=1048576
 e3:∃(m:Nat) (f u h:Int) (m':Nat) (f' u' h':Int),TRE t.2 (tN i) m f u h/\TRE t.2 (tN k) m' f' u' h'/\out.length+(u - f)*(u' - f')<=1048576
theorem kK {a b:Int} (ha:1<=a)(hb:1<=b):1<=a*b:=by
 have:=Int.mul_le_mul ha hb (by omega) (by omega)
 omega
theorem uI {i k:Int} {t:TR} {out:List BLK} (h:PVB i k t out):i < t.2.length/\k < t.2.length/\out.length+1<=1048576:=by
 obtain⟨e0,e1,e2,m,f,u,hh,m',f',u',hh',e3,e4,e5⟩:=h
 have h1:=cG e3
 have h2:=cG e4
 have h3:=kK (a:=u - f) (b:=u' - f') (by omega) (by omega)
 omega
theorem zC (a b c w:Int):(c - a)*w+(b - c)*w=(b - a)*w:=by
 rw [←Int.add_mul,show c - a+(b - c)=b - a by omega]
theorem vP (a b c w:Int):w*(c - a)+w*(b - c)=w*(b - a):=by
 rw [←Int.mul_add,show c - a+(b - c)=b - a by omega]
def eS (x:Int×Int×Bool):List SV:=[(iv x.1),(iv x.2.1),(.v (.bool x.2.2))]
theorem eB (x:Int×Int×Bool):(eS x).length=3:=rfl
def tB (a0:Int)(a1:Int)(a2:List Int×bE)(a3:Int)(a4:List (Int×Int×Bool)):=(F53 (a2.2.getD (tN a0) dF).2.2.2.2.1 (a2.2.getD (tN a1) dF).2.2.2.2.1)
def tC (rr:(Int)->(Int)->(List Int×bE)->(Int)->(List (Int×Int×Bool))->List (Int×Int×Bool))(a0:Int)(a1:Int)(a2:List Int×bE)(a3:Int)(a4:List (Int×Int×Bool)):=(rr (a2.2.getD (tN a0) dF).2.2.1 a1 (a2.1,a2.2) a3 a4)
def aG8 (rr:(Int)->(Int)->(List Int×bE)->(Int)->(List (Int×Int×Bool))->List (Int×Int×Bool))(a0:Int)(a1:Int)(a2:List Int×bE)(a3:Int)(a4:List (Int×Int×Bool)):=(rr (a2.2.getD (tN a0) dF).2.2.2.1 a1 (a2.1,a2.2) a3 (tC (rr) a0 a1 a2 a3 a4))
def tD (rr:(Int)->(Int)->(List Int×bE)->(Int)->(List (Int×Int×Bool))->List (Int×Int×Bool))(a0:Int)(a1:Int)(a2:List Int×bE)(a3:Int)(a4:List (Int×Int×Bool)):=(rr a0 (a2.2.getD (tN a1) dF).2.2.1 (a2.1,a2.2) a3 a4)
def aG9 (rr:(Int)->(Int)->(List Int×bE)->(Int)->(List (Int×Int×Bool))->List (Int×Int×Bool))(a0:Int)(a1:Int)(a2:List Int×bE)(a3:Int)(a4:List (Int×Int×Bool)):=(rr a0 (a2.2.getD (tN a1) dF).2.2.2.1 (a2.1,a2.2) a3 (tD (rr) a0 a1 a2 a3 a4))
noncomputable def aJa:Code:=(cC [1,1,1,0,1,0] [] (aL Tryz.f51)).1
noncomputable def aJb:List K:=(cC [1,1,1,0,1,0] [] (aL Tryz.f51)).2
def aE7 (nr:Nat)(a0:Int)(a1:Int)(a2:List Int×bE)(a3:Int)(a4:List (Int×Int×Bool))(v2:Bool):LS:=⟨gO 105 [(0,(iv a0)),(1,(iv a1)),(4,(.p 4 0)),(11,(.v (.bool v2)))],[(.live false false [(.s 1 0 a2.1.length 1),(.s 2 0 a2.2.length 8)]),(.live false true (flat c3 a2.1)),(.live false true (flat bZ a2.2)),(.live false false [(iv a3)]),(.live true false [(.s 5 0 a4.length 3)]),(.live true true (flat eS a4)),(.live false false [(.f 51 [(.p 0 0),(.p 3 0),(.p 4 0),(.p 6 0)])])]⟩
def oP (rr:(Int)->(Int)->(List Int×bE)->(Int)->(List (Int×Int×Bool))->List (Int×Int×Bool))(a0:Int)(a1:Int)(a2:List Int×bE)(a3:Int)(a4:List (Int×Int×Bool)):Bool->List (Int×Int×Bool)
 | v2 =>
  (a4++[(a0,a1,v2)])
noncomputable def aJc:Code:=(cC [1,1,1,0,1,1,0] [] (aL Tryz.f51)).1
noncomputable def aJd:List K:=(cC [1,1,1,0,1,1,0] [] (aL Tryz.f51)).2
def aE8 (nr:Nat)(a0:Int)(a1:Int)(a2:List Int×bE)(a3:Int)(a4:List (Int×Int×Bool)):LS:=⟨gO 105 [(0,(iv a0)),(1,(iv a1)),(5,(.p 6 0)),(8,(.p 7 0)),(9,(.p 8 0))],[(.live false false [(.s 1 0 a2.1.length 1),(.s 2 0 a2.2.length 8)]),(.live false true (flat c3 a2.1)),(.live false true (flat bZ a2.2)),(.live false false [(iv a3)]),(.live true false [(.s 5 0 a4.length 3)]),(.live true true (flat eS a4)),(.live false false [(.f 51 [(.p 0 0),(.p 3 0),(.p 4 0),(.p 6 0)])]),(.live true false [(iv (a2.2.getD (tN a0) dF).1),(iv (a2.2.getD (tN a0) dF).2.1),(iv (a2.2.getD (tN a0) dF).2.2.1),(iv (a2.2.getD (tN a0) dF).2.2.2.1),(iv (a2.2.getD (tN a0) dF).2.2.2.2.1.1),(iv (a2.2.getD (tN a0) dF).2.2.2.2.1.2.1),(iv (a2.2.getD (tN a0) dF).2.2.2.2.1.2.2),(iv (a2.2.getD (tN a0) dF).2.2.2.2.2)]),(.live true false [(iv (a2.2.getD (tN a1) dF).1),(iv (a2.2.getD (tN a1) dF).2.1),(iv (a2.2.getD (tN a1) dF).2.2.1),(iv (a2.2.getD (tN a1) dF).2.2.2.1),(iv (a2.2.getD (tN a1) dF).2.2.2.2.1.1),(iv (a2.2.getD (tN a1) dF).2.2.2.2.1.2.1),(iv (a2.2.getD (tN a1) dF).2.2.2.2.1.2.2),(iv (a2.2.getD (tN a1) dF).2.2.2.2.2)])]⟩
def iL (rr:(Int)->(Int)->(List Int×bE)->(Int)->(List (Int×Int×Bool))->List (Int×Int×Bool))(a0:Int)(a1:Int)(a2:List Int×bE)(a3:Int)(a4:List (Int×Int×Bool)):Unit->List (Int×Int×Bool)
 | () =>
  (bif (decide (((a2.2.getD (tN a1) dF).2.2.1:Int) < 0)) then
   (aG8 (rr) a0 a1 a2 a3 a4)
  else
   (bif (decide (((a2.2.getD (tN a0) dF).2.2.1:Int)≥0)) then
    (bif (decide (((W ((a2.2.getD (tN a0) dF).2.1 - (a2.2.getD (tN a0) dF).1)):Int)≥(W ((a2.2.getD (tN a1) dF).2.1 - (a2.2.getD (tN a1) dF).1)))) then
     (aG8 (rr) a0 a1 a2 a3 a4)
    else
     (aG9 (rr) a0 a1 a2 a3 a4))
   else
    (aG9 (rr) a0 a1 a2 a3 a4)))
noncomputable def aJe:Code:=(cC [1,1,1,0,0] [] (aL Tryz.f51)).1
noncomputable def aJf:List K:=(cC [1,1,1,0,0] [] (aL Tryz.f51)).2
def aE9 (nr:Nat)(a0:Int)(a1:Int)(a2:List Int×bE)(a3:Int)(a4:List (Int×Int×Bool))(v1:Bool):LS:=⟨gO 105 [(0,(iv a0)),(1,(iv a1)),(4,(.p 4 0)),(5,(.p 6 0)),(8,(.p 7 0)),(9,(.p 8 0)),(11,(.v (.bool v1)))],[(.live false false [(.s 1 0 a2.1.length 1),(.s 2 0 a2.2.length 8)]),(.live false true (flat c3 a2.1)),(.live false true (flat bZ a2.2)),(.live false false [(iv a3)]),(.live true false [(.s 5 0 a4.length 3)]),(.live true true (flat eS a4)),(.live false false [(.f 51 [(.p 0 0),(.p 3 0),(.p 4 0),(.p 6 0)])]),(.live true false [(iv (a2.2.getD (tN a0) dF).1),(iv (a2.2.getD (tN a0) dF).2.1),(iv (a2.2.getD (tN a0) dF).2.2.1),(iv (a2.2.getD (tN a0) dF).2.2.2.1),(iv (a2.2.getD (tN a0) dF).2.2.2.2.1.1),(iv (a2.2.getD (tN a0) dF).2.2.2.2.1.2.1),(iv (a2.2.getD (tN a0) dF).2.2.2.2.1.2.2),(iv (a2.2.getD (tN a0) dF).2.2.2.2.2)]),(.live true false [(iv (a2.2.getD (tN a1) dF).1),(iv (a2.2.getD (tN a1) dF).2.1),(iv (a2.2.getD (tN a1) dF).2.2.1),(iv (a2.2.getD (tN a1) dF).2.2.2.1),(iv (a2.2.getD (tN a1) dF).2.2.2.2.1.1),(iv (a2.2.getD (tN a1) dF).2.2.2.2.1.2.1),(iv (a2.2.getD (tN a1) dF).2.2.2.2.1.2.2),(iv (a2.2.getD (tN a1) dF).2.2.2.2.2)])]⟩
def iM (rr:(Int)->(Int)->(List Int×bE)->(Int)->(List (Int×Int×Bool))->List (Int×Int×Bool))(a0:Int)(a1:Int)(a2:List Int×bE)(a3:Int)(a4:List (Int×Int×Bool)):Bool->List (Int×Int×Bool)
 | v1 =>
  (bif v1 then
   (oP rr a0 a1 a2 a3 a4 v1)
  else
   (bif (decide (((a2.2.getD (tN a0) dF).2.2.1:Int) < 0)) then
    (bif (decide (((a2.2.getD (tN a1) dF).2.2.1:Int) < 0)) then
     (oP rr a0 a1 a2 a3 a4 v1)
    else
     (iL rr a0 a1 a2 a3 a4 ()))
   else
    (iL rr a0 a1 a2 a3 a4 ())))
def iV:Nat->(Int)->(Int)->(List Int×bE)->(Int)->(List (Int×Int×Bool))->List (Int×Int×Bool)
 | 0,_,_,_,_,_=>dF
 | nr+1,a0,a1,a2,a3,a4 =>
 (bif (decide (((F52 (tB a0 a1 a2 a3 a4)):Int) > 0)) then
  (iM (iV nr) a0 a1 a2 a3 a4 (decide (((W ((W ((W ((W ((a2.2.getD (tN a0) dF).2.2.2.2.2+(a2.2.getD (tN a1) dF).2.2.2.2.2))*4))*a3))*a3)):Int)<=(F52 (tB a0 a1 a2 a3 a4)))))
 else
  (iM (iV nr) a0 a1 a2 a3 a4 false))
def F51 (a0:Int)(a1:Int)(a2:List Int×bE)(a3:Int)(a4:List (Int×Int×Bool)):List (Int×Int×Bool):=iV (((a2.2.length - tN a0)+(a2.2.length - tN a1))+1) a0 a1 a2 a3 a4
theorem sH:∀(nr:Nat) (i k:Int) (t:TR) (sep:Int) (out:List BLK) (m:Nat) (f u h:Int) (m':Nat) (f' u' h':Int),TRE t.2 (tN i) m f u h->TRE t.2 (tN k) m' f' u' h'->0<=i->0<=k->(t.2.length - tN i)+(t.2.length - tN k) < nr ->
 ((iV nr i k t sep out).length:Int)<=out.length+(u - f)*(u' - f')
 | 0,_,_,_,_,_,_,_,_,_,_,_,_,_,_,_,_,_,h=>absurd h (eL _)
 | nr+1,i,k,t,sep,out,m,f,u,h,m',f',u',h',H,K,hi,hk,hn=>by
  have hb:=cG H
  have kb:=cG K
  have hm:=kK (a:=u - f) (b:=u' - f') (by omega) (by omega)
  have hs:∀b:Bool,((out++[(i,k,b)]).length:Int)<=out.length+(u - f)*(u' - f'):=fun b=>by rw [List.length_append,List.length_singleton];omega
  have hA:¬(t.2.getD (tN i) dF).2.2.1 < 0->((aG8 (iV nr) i k t sep out).length:Int)<=out.length+(u - f)*(u' - f'):=by
   intro hq
   rcases iB H with⟨_,_,h5,_⟩ | ⟨m1,m2,c,h1,h2,e8,g4,g5,b1,b2,e9⟩
   ·omega
   ·have l1:=cG b1
    have l2:=cG b2
    have c1:=sH nr (t.2.getD (tN i) dF).2.2.1 k t sep out m1 f c h1 m' f' u' h' (by rw [g4,fT];exact b1) K (by omega) hk (by omega)
    have c2:=sH nr (t.2.getD (tN i) dF).2.2.2.1 k t sep (tC (iV nr) i k t sep out) m2 c u h2 m' f' u' h' (by rw [g5,fT];exact b2) K (by omega) hk (by omega)
    have c3:=zC f u c (u' - f')
    refine Int.le_trans c2 ?_
    have c4:((tC (iV nr) i k t sep out).length:Int)<=out.length+(c - f)*(u' - f'):=c1
    omega
  have hB:¬(t.2.getD (tN k) dF).2.2.1 < 0->((aG9 (iV nr) i k t sep out).length:Int)<=out.length+(u - f)*(u' - f'):=by
   intro hq
   rcases iB K with⟨_,_,h5,_⟩ | ⟨m1,m2,c,h1,h2,e8,g4,g5,b1,b2,e9⟩
   ·omega
   ·have l1:=cG b1
    have l2:=cG b2
    have c1:=sH nr i (t.2.getD (tN k) dF).2.2.1 t sep out m f u h m1 f' c h1 H (by rw [g4,fT];exact b1) hi (by omega) (by omega)
    have c2:=sH nr i (t.2.getD (tN k) dF).2.2.2.1 t sep (tD (iV nr) i k t sep out) m f u h m2 c u' h2 H (by rw [g5,fT];exact b2) hi (by omega) (by omega)
    have c3:=vP f' u' c (u - f)
    refine Int.le_trans c2 ?_
    have c4:((tD (iV nr) i k t sep out).length:Int)<=out.length+(u - f)*(c - f'):=c1
    omega
  have hJ:0<=(t.2.getD (tN i) dF).2.2.1\/0<=(t.2.getD (tN k) dF).2.2.1->((iL (iV nr) i k t sep out ()).length:Int)<=out.length+(u - f)*(u' - f'):=by
   intro hq
   simp only [iL]
   by_cases z1:(t.2.getD (tN k) dF).2.2.1 < 0
   ·rw [cI z1,cond_true];exact hA (by omega)
   ·rw [dA z1,cond_false]
    by_cases z2:(t.2.getD (tN i) dF).2.2.1≥0
    ·rw [cI z2,cond_true,Bool.cond_eq_ite]
     split
     ·exact hA (by omega)
     ·exact hB z1
    ·rw [dA z2,cond_false];exact hB z1
  have h5:∀b:Bool,((iM (iV nr) i k t sep out b).length:Int)<=out.length+(u - f)*(u' - f'):=by
   intro b
   cases b with
   | true=>exact hs true
   | false =>
    simp only [iM,cond_false,oP]
    by_cases z1:(t.2.getD (tN i) dF).2.2.1 < 0
    ·rw [cI z1,cond_true]
     by_cases z2:(t.2.getD (tN k) dF).2.2.1 < 0
     ·rw [cI z2,cond_true];exact hs false
     ·rw [dA z2,cond_false];exact hJ (by omega)
    ·rw [dA z1,cond_false];exact hJ (by omega)
  simp only [iV]
  rw [Bool.cond_eq_ite]
  split
  ·exact h5 _
  ·exact h5 _
theorem aVw {nr:Nat} {i k:Int} {t:TR} {out:List BLK} (sep:Int)(h:PVB i k t out)(hlt:(t.2.length - tN i)+(t.2.length - tN k) < nr+1)(hq:¬(t.2.getD (tN i) dF).2.2.1 < 0) :
 PVB (t.2.getD (tN i) dF).2.2.1 k t out/\PVB (t.2.getD (tN i) dF).2.2.2.1 k t (tC (iV nr) i k t sep out) /\
 ((t.2.length - tN (t.2.getD (tN i) dF).2.2.1)+(t.2.length - tN k) < nr/\(t.2.length - tN (t.2.getD (tN i) dF).2.2.2.1)+(t.2.length - tN k) < nr)/\(tC (iV nr) i k t sep out).length<=1048576:=by
 obtain⟨e0,e1,e2,m,f,u,hh,m',f',u',hh',H,K,e5⟩:=h
 have hb:=cG H
 have kb:=cG K
 rcases iB H with⟨_,_,h5,_⟩ | ⟨m1,m2,c,h1,h2,e8,g4,g5,b1,b2,e9⟩
 ·omega
 ·have l1:=cG b1
  have l2:=cG b2
  have p1:=kK (a:=c - f) (b:=u' - f') (by omega) (by omega)
  have p2:=kK (a:=u - c) (b:=u' - f') (by omega) (by omega)
  have c3:=zC f u c (u' - f')
  have c1:=sH nr (t.2.getD (tN i) dF).2.2.1 k t sep out m1 f c h1 m' f' u' hh' (by rw [g4,fT];exact b1) K (by omega) e1 (by omega)
  have c4:((tC (iV nr) i k t sep out).length:Int)<=out.length+(c - f)*(u' - f'):=c1
  exact⟨⟨by omega,e1,e2,m1,f,c,h1,m',f',u',hh',by rw [g4,fT];exact b1,K,by omega⟩,⟨by omega,e1,e2,m2,c,u,h2,m',f',u',hh',by rw [g5,fT];exact b2,K,by omega⟩,⟨by omega,by omega⟩,by omega⟩
theorem aVx {nr:Nat} {i k:Int} {t:TR} {out:List BLK} (sep:Int)(h:PVB i k t out)(hlt:(t.2.length - tN i)+(t.2.length - tN k) < nr+1)(hq:¬(t.2.getD (tN k) dF).2.2.1 < 0) :
 PVB i (t.2.getD (tN k) dF).2.2.1 t out/\PVB i (t.2.getD (tN k) dF).2.2.2.1 t (tD (iV nr) i k t sep out) /\
 ((t.2.length - tN i)+(t.2.length - tN (t.2.getD (tN k) dF).2.2.1) < nr/\(t.2.length - tN i)+(t.2.length - tN (t.2.getD (tN k) dF).2.2.2.1) < nr)/\(tD (iV nr) i k t sep out).length<=1048576:=by
 obtain⟨e0,e1,e2,m,f,u,hh,m',f',u',hh',H,K,e5⟩:=h
 have hb:=cG H
 have kb:=cG K
 rcases iB K with⟨_,_,h5,_⟩ | ⟨m1,m2,c,h1,h2,e8,g4,g5,b1,b2,e9⟩
 ·omega
 ·have l1:=cG b1
  have l2:=cG b2
  have p1:=kK (a:=u - f) (b:=c - f') (by omega) (by omega)
  have p2:=kK (a:=u - f) (b:=u' - c) (by omega) (by omega)
  have c3:=vP f' u' c (u - f)
  have c1:=sH nr i (t.2.getD (tN k) dF).2.2.1 t sep out m f u hh m1 f' c h1 H (by rw [g4,fT];exact b1) e0 (by omega) (by omega)
  have c4:((tD (iV nr) i k t sep out).length:Int)<=out.length+(u - f)*(c - f'):=c1
  exact⟨⟨e0,by omega,e2,m,f,u,hh,m1,f',c,h1,H,by rw [g4,fT];exact b1,by omega⟩,⟨e0,by omega,e2,m,f,u,hh,m2,c,u',h2,H,by rw [g5,fT];exact b2,by omega⟩,⟨by omega,by omega⟩,by omega⟩
theorem aO6 (nr:Nat)(a0:Int)(a1:Int)(a2:List Int×bE)(a3:Int)(a4:List (Int×Int×Bool))(l2_1:a2.1.length<=2^63-1)(l2_2:a2.2.length<=2^63-1)(l4:a4.length<=2^63-1)(hp:PVB a0 a1 a2 a4)(hlt:((a2.2.length - tN a0)+(a2.2.length - tN a1)) < nr+1)(ihr:∀(a0:Int)(a1:Int)(a2:List Int×bE)(a3:Int)(a4:List (Int×Int×Bool))(l2_1:a2.1.length<=2^63-1)(l2_2:a2.2.length<=2^63-1)(l4:a4.length<=2^63-1)(hp:PVB a0 a1 a2 a4),((a2.2.length - tN a0)+(a2.2.length - tN a1)) < nr->Con Tryz.prog 51 [(iv a0),(iv a1),(.p 0 0),(.p 3 0),(.p 4 0),(.p 6 0)] [(.live false false [(.s 1 0 a2.1.length 1),(.s 2 0 a2.2.length 8)]),(.live false true (flat c3 a2.1)),(.live false true (flat bZ a2.2)),(.live false false [(iv a3)]),(.live true false [(.s 5 0 a4.length 3)]),(.live true true (flat eS a4)),(.live false false [(.f 51 [(.p 0 0),(.p 3 0),(.p 4 0),(.p 6 0)])])] (.t []) [(.live true true (flat eS (iV nr a0 a1 a2 a3 a4)))] [.un,.un,.un,.un,(.live true false [(.s 7 0 (iV nr a0 a1 a2 a3 a4).length 3)]),.dead,.un]) {cx:Cx} (hcx:cx.base=7)(v2:Bool):True->Aw.Good Tryz.prog none 9 (bodyPost Tryz.prog Tryz.f51 (RR cx (.t []) [(.live true true (flat eS (oP (iV nr) a0 a1 a2 a3 a4 v2)))] [.un,.un,.un,.un,(.live true false [(.s 7 0 (oP (iV nr) a0 a1 a2 a3 a4 v2).length 3)]),.dead,.un])) cx [] (.c aJa::aJb) (aE7 nr a0 a1 a2 a3 a4 v2):=by
 intro hi
 have hpb:=uI hp
 have hp1:=hp.e0
 have hp2:=hp.e1
 have hp3:=hp.e2
 have e:=Eq.refl (oP (iV nr) a0 a1 a2 a3 a4 v2);conv at e=>rhs;simp only [oP]
 rw [e]
 try dsimp only [aZ]
 try dsimp only
 rw [show flat eS (a4++[(a0,a1,v2)])=(flat eS a4++[(iv a0),(iv a1),(.v (.bool v2))]) from dP]
 try rw [show List.length (α:=Int×Int×Bool) (a4++[(a0,a1,v2)])=(a4.length+1) from by first | simp;done | omega]
 exact rtn [.p (show((flat eS a4).length=a4.length*3/\a4.length+1<=2 ^ 40/\(a4.length+1)*24<=2 ^ 47) from nX eB (by omega) (by omega))] [] [4,5] [8] hcx (by kernel_rfl)
theorem aO7 (nr:Nat)(a0:Int)(a1:Int)(a2:List Int×bE)(a3:Int)(a4:List (Int×Int×Bool))(l2_1:a2.1.length<=2^63-1)(l2_2:a2.2.length<=2^63-1)(l4:a4.length<=2^63-1)(hp:PVB a0 a1 a2 a4)(hlt:((a2.2.length - tN a0)+(a2.2.length - tN a1)) < nr+1)(ihr:∀(a0:Int)(a1:Int)(a2:List Int×bE)(a3:Int)(a4:List (Int×Int×Bool))(l2_1:a2.1.length<=2^63-1)(l2_2:a2.2.length<=2^63-1)(l4:a4.length<=2^63-1)(hp:PVB a0 a1 a2 a4),((a2.2.length - tN a0)+(a2.2.length - tN a1)) < nr->Con Tryz.prog 51 [(iv a0),(iv a1),(.p 0 0),(.p 3 0),(.p 4 0),(.p 6 0)] [(.live false false [(.s 1 0 a2.1.length 1),(.s 2 0 a2.2.length 8)]),(.live false true (flat c3 a2.1)),(.live false true (flat bZ a2.2)),(.live false false [(iv a3)]),(.live true false [(.s 5 0 a4.length 3)]),(.live true true (flat eS a4)),(.live false false [(.f 51 [(.p 0 0),(.p 3 0),(.p 4 0),(.p 6 0)])])] (.t []) [(.live true true (flat eS (iV nr a0 a1 a2 a3 a4)))] [.un,.un,.un,.un,(.live true false [(.s 7 0 (iV nr a0 a1 a2 a3 a4).length 3)]),.dead,.un]) {cx:Cx} (hcx:cx.base=7):0<=(a2.2.getD (tN a0) dF).2.2.1\/0<=(a2.2.getD (tN a1) dF).2.2.1->Aw.Good Tryz.prog none 9 (bodyPost Tryz.prog Tryz.f51 (RR cx (.t []) [(.live true true (flat eS (iL (iV nr) a0 a1 a2 a3 a4 ())))] [.un,.un,.un,.un,(.live true false [(.s 7 0 (iL (iV nr) a0 a1 a2 a3 a4 ()).length 3)]),.dead,.un])) cx [] (.c aJc::aJd) (aE8 nr a0 a1 a2 a3 a4):=by
 intro hi
 have hpb:=uI hp
 have hp1:=hp.e0
 have hp2:=hp.e1
 have hp3:=hp.e2
 have hA:=aVw a3 hp hlt
 have hB:=aVx a3 hp hlt
 have hAl:=fun q=>(hA q).2.2.2
 have hBl:=fun q=>(hB q).2.2.2
 cases h0:(decide (((a2.2.getD (tN a1) dF).2.2.1:Int) < 0)) with
 | true =>
  have q0:=cN h0
  have e:=Eq.refl (iL (iV nr) a0 a1 a2 a3 a4 ());conv at e=>rhs;simp only [iL,h0,aW]
  rw [e]
  try dsimp only [aZ]
  try dsimp only
  exact rtn [.d h0,.c [0,1,2,3,4,5,6] (ihr (a2.2.getD (tN a0) dF).2.2.1 a1 (a2.1,a2.2) a3 a4 (by omega) (by omega) (by omega) (by first | exact(hA (by omega)).1 | exact(hA (by omega)).2.1 | exact(hB (by omega)).1 | exact(hB (by omega)).2.1) (by first | exact(hA (by omega)).2.2.1.1 | exact(hA (by omega)).2.2.1.2 | exact(hB (by omega)).2.2.1.1 | exact(hB (by omega)).2.2.1.2)),.c [0,1,2,3,4,9,6] (ihr (a2.2.getD (tN a0) dF).2.2.2.1 a1 (a2.1,a2.2) a3 (tC (iV nr) a0 a1 a2 a3 a4) (by omega) (by omega) (by omega) (by first | exact(hA (by omega)).1 | exact(hA (by omega)).2.1 | exact(hB (by omega)).1 | exact(hB (by omega)).2.1) (by first | exact(hA (by omega)).2.2.1.1 | exact(hA (by omega)).2.2.1.2 | exact(hB (by omega)).2.2.1.1 | exact(hB (by omega)).2.2.1.2))] [] [4,5] [10] hcx (by kernel_rfl)
 | false =>
  have q0:=cY h0
  let t1:List (St Tryz.prog):=[.d h0]
  cases h1:(decide (((a2.2.getD (tN a0) dF).2.2.1:Int)≥0)) with
  | true =>
   have q1:=cN h1
   let t2:List (St Tryz.prog):=(t1++[.d h1])
   cases h2:(decide (((W ((a2.2.getD (tN a0) dF).2.1 - (a2.2.getD (tN a0) dF).1)):Int)≥(W ((a2.2.getD (tN a1) dF).2.1 - (a2.2.getD (tN a1) dF).1)))) with
   | true =>
    have q2:=cN h2
    have e:=Eq.refl (iL (iV nr) a0 a1 a2 a3 a4 ());conv at e=>rhs;simp only [iL,h0,h1,h2,aW]
    rw [e]
    try dsimp only [aZ]
    try dsimp only
    exact rtn (t2++[.d h2,.c [0,1,2,3,4,5,6] (ihr (a2.2.getD (tN a0) dF).2.2.1 a1 (a2.1,a2.2) a3 a4 (by omega) (by omega) (by omega) (by first | exact(hA (by omega)).1 | exact(hA (by omega)).2.1 | exact(hB (by omega)).1 | exact(hB (by omega)).2.1) (by first | exact(hA (by omega)).2.2.1.1 | exact(hA (by omega)).2.2.1.2 | exact(hB (by omega)).2.2.1.1 | exact(hB (by omega)).2.2.1.2)),.c [0,1,2,3,4,9,6] (ihr (a2.2.getD (tN a0) dF).2.2.2.1 a1 (a2.1,a2.2) a3 (tC (iV nr) a0 a1 a2 a3 a4) (by omega) (by omega) (by omega) (by first | exact(hA (by omega)).1 | exact(hA (by omega)).2.1 | exact(hB (by omega)).1 | exact(hB (by omega)).2.1) (by first | exact(hA (by omega)).2.2.1.1 | exact(hA (by omega)).2.2.1.2 | exact(hB (by omega)).2.2.1.1 | exact(hB (by omega)).2.2.1.2))]) [] [4,5] [10] hcx (by kernel_rfl)
   | false =>
    have q2:=cY h2
    have e:=Eq.refl (iL (iV nr) a0 a1 a2 a3 a4 ());conv at e=>rhs;simp only [iL,h0,h1,h2,aW]
    rw [e]
    try dsimp only [aZ]
    try dsimp only
    exact rtn (t2++[.d h2,.c [0,1,2,3,4,5,6] (ihr a0 (a2.2.getD (tN a1) dF).2.2.1 (a2.1,a2.2) a3 a4 (by omega) (by omega) (by omega) (by first | exact(hA (by omega)).1 | exact(hA (by omega)).2.1 | exact(hB (by omega)).1 | exact(hB (by omega)).2.1) (by first | exact(hA (by omega)).2.2.1.1 | exact(hA (by omega)).2.2.1.2 | exact(hB (by omega)).2.2.1.1 | exact(hB (by omega)).2.2.1.2)),.c [0,1,2,3,4,9,6] (ihr a0 (a2.2.getD (tN a1) dF).2.2.2.1 (a2.1,a2.2) a3 (tD (iV nr) a0 a1 a2 a3 a4) (by omega) (by omega) (by omega) (by first | exact(hA (by omega)).1 | exact(hA (by omega)).2.1 | exact(hB (by omega)).1 | exact(hB (by omega)).2.1) (by first | exact(hA (by omega)).2.2.1.1 | exact(hA (by omega)).2.2.1.2 | exact(hB (by omega)).2.2.1.1 | exact(hB (by omega)).2.2.1.2))]) [] [4,5] [10] hcx (by kernel_rfl)
  | false =>
   have q1:=cY h1
   have e:=Eq.refl (iL (iV nr) a0 a1 a2 a3 a4 ());conv at e=>rhs;simp only [iL,h0,h1,aW]
   rw [e]
   try dsimp only [aZ]
   try dsimp only
   exact rtn (t1++[.d h1,.c [0,1,2,3,4,5,6] (ihr a0 (a2.2.getD (tN a1) dF).2.2.1 (a2.1,a2.2) a3 a4 (by omega) (by omega) (by omega) (by first | exact(hA (by omega)).1 | exact(hA (by omega)).2.1 | exact(hB (by omega)).1 | exact(hB (by omega)).2.1) (by first | exact(hA (by omega)).2.2.1.1 | exact(hA (by omega)).2.2.1.2 | exact(hB (by omega)).2.2.1.1 | exact(hB (by omega)).2.2.1.2)),.c [0,1,2,3,4,9,6] (ihr a0 (a2.2.getD (tN a1) dF).2.2.2.1 (a2.1,a2.2) a3 (tD (iV nr) a0 a1 a2 a3 a4) (by omega) (by omega) (by omega) (by first | exact(hA (by omega)).1 | exact(hA (by omega)).2.1 | exact(hB (by omega)).1 | exact(hB (by omega)).2.1) (by first | exact(hA (by omega)).2.2.1.1 | exact(hA (by omega)).2.2.1.2 | exact(hB (by omega)).2.2.1.1 | exact(hB (by omega)).2.2.1.2))]) [] [4,5] [10] hcx (by kernel_rfl)
theorem aO8 (nr:Nat)(a0:Int)(a1:Int)(a2:List Int×bE)(a3:Int)(a4:List (Int×Int×Bool))(l2_1:a2.1.length<=2^63-1)(l2_2:a2.2.length<=2^63-1)(l4:a4.length<=2^63-1)(hp:PVB a0 a1 a2 a4)(hlt:((a2.2.length - tN a0)+(a2.2.length - tN a1)) < nr+1)(ihr:∀(a0:Int)(a1:Int)(a2:List Int×bE)(a3:Int)(a4:List (Int×Int×Bool))(l2_1:a2.1.length<=2^63-1)(l2_2:a2.2.length<=2^63-1)(l4:a4.length<=2^63-1)(hp:PVB a0 a1 a2 a4),((a2.2.length - tN a0)+(a2.2.length - tN a1)) < nr->Con Tryz.prog 51 [(iv a0),(iv a1),(.p 0 0),(.p 3 0),(.p 4 0),(.p 6 0)] [(.live false false [(.s 1 0 a2.1.length 1),(.s 2 0 a2.2.length 8)]),(.live false true (flat c3 a2.1)),(.live false true (flat bZ a2.2)),(.live false false [(iv a3)]),(.live true false [(.s 5 0 a4.length 3)]),(.live true true (flat eS a4)),(.live false false [(.f 51 [(.p 0 0),(.p 3 0),(.p 4 0),(.p 6 0)])])] (.t []) [(.live true true (flat eS (iV nr a0 a1 a2 a3 a4)))] [.un,.un,.un,.un,(.live true false [(.s 7 0 (iV nr a0 a1 a2 a3 a4).length 3)]),.dead,.un]) {cx:Cx} (hcx:cx.base=7)(v1:Bool):True->Aw.Good Tryz.prog none 9 (bodyPost Tryz.prog Tryz.f51 (RR cx (.t []) [(.live true true (flat eS (iM (iV nr) a0 a1 a2 a3 a4 v1)))] [.un,.un,.un,.un,(.live true false [(.s 7 0 (iM (iV nr) a0 a1 a2 a3 a4 v1).length 3)]),.dead,.un])) cx [] (.c aJe::aJf) (aE9 nr a0 a1 a2 a3 a4 v1):=by
 intro hi
 have hpb:=uI hp
 have hp1:=hp.e0
 have hp2:=hp.e1
 have hp3:=hp.e2
 rcases vA v1 with h0 | h0
 ·skip
  have e:iM (iV nr) a0 a1 a2 a3 a4 v1=(oP (iV nr) a0 a1 a2 a3 a4 v1):=by simp only [iM,h0,aW]
  rw [e]
  refine ga [.d h0,.z 6] [] [0,1,4,11] [] hcx aJa (aJb) (aE7 nr a0 a1 a2 a3 a4 v1) (by kernel_rfl) ?_
  exact aO6 nr a0 a1 a2 a3 a4 l2_1 l2_2 l4 hp hlt ihr hcx v1 trivial
 ·skip
  let t1:List (St Tryz.prog):=[.d h0]
  cases h1:(decide (((a2.2.getD (tN a0) dF).2.2.1:Int) < 0)) with
  | true =>
   have q1:=cN h1
   let t2:List (St Tryz.prog):=(t1++[.d h1])
   cases h2:(decide (((a2.2.getD (tN a1) dF).2.2.1:Int) < 0)) with
   | true =>
    have q2:=cN h2
    have e:iM (iV nr) a0 a1 a2 a3 a4 v1=(oP (iV nr) a0 a1 a2 a3 a4 v1):=by simp only [iM,h0,h1,h2,aW]
    rw [e]
    refine ga (t2++[.d h2,.z 6]) [] [0,1,4,11] [] hcx aJa (aJb) (aE7 nr a0 a1 a2 a3 a4 v1) (by kernel_rfl) ?_
    exact aO6 nr a0 a1 a2 a3 a4 l2_1 l2_2 l4 hp hlt ihr hcx v1 trivial
   | false =>
    have q2:=cY h2
    have e:=Eq.refl (iM (iV nr) a0 a1 a2 a3 a4 v1);conv at e=>rhs;simp only [iM,h0,h1,h2,aW]
    rw [e]
    refine ga (t2++[.d h2,.z 7]) [] [0,1,5,8,9] [7,8] hcx aJc (aJd) (aE8 nr a0 a1 a2 a3 a4) (by kernel_rfl) ?_
    exact aO7 nr a0 a1 a2 a3 a4 l2_1 l2_2 l4 hp hlt ihr hcx (by omega)
  | false =>
   have q1:=cY h1
   have e:=Eq.refl (iM (iV nr) a0 a1 a2 a3 a4 v1);conv at e=>rhs;simp only [iM,h0,h1,aW]
   rw [e]
   refine ga (t1++[.d h1,.z 7]) [] [0,1,5,8,9] [7,8] hcx aJc (aJd) (aE8 nr a0 a1 a2 a3 a4) (by kernel_rfl) ?_
   exact aO7 nr a0 a1 a2 a3 a4 l2_1 l2_2 l4 hp hlt ihr hcx (by omega)
theorem aWt:∀(nr:Nat) (a0:Int) (a1:Int) (a2:List Int×bE) (a3:Int) (a4:List (Int×Int×Bool)) (l2_1:a2.1.length<=2^63-1) (l2_2:a2.2.length<=2^63-1) (l4:a4.length<=2^63-1) (hp:PVB a0 a1 a2 a4),((a2.2.length - tN a0)+(a2.2.length - tN a1)) < nr->Con Tryz.prog 51 [(iv a0),(iv a1),(.p 0 0),(.p 3 0),(.p 4 0),(.p 6 0)] [(.live false false [(.s 1 0 a2.1.length 1),(.s 2 0 a2.2.length 8)]),(.live false true (flat c3 a2.1)),(.live false true (flat bZ a2.2)),(.live false false [(iv a3)]),(.live true false [(.s 5 0 a4.length 3)]),(.live true true (flat eS a4)),(.live false false [(.f 51 [(.p 0 0),(.p 3 0),(.p 4 0),(.p 6 0)])])] (.t []) [(.live true true (flat eS (iV nr a0 a1 a2 a3 a4)))] [.un,.un,.un,.un,(.live true false [(.s 7 0 (iV nr a0 a1 a2 a3 a4).length 3)]),.dead,.un]:=by
 intro nr
 induction nr with
 | zero=>intro a0 a1 a2 a3 a4 l2_1 l2_2 l4 hp hlt;exact absurd hlt (eL _)
 | succ nr ihr =>
 intro a0 a1 a2 a3 a4 l2_1 l2_2 l4 hp hlt
 refine bA Tryz.func51 (by kernel_rfl) fun cx hcx=>?_
 have hpb:=uI hp
 have hp1:=hp.e0
 have hp2:=hp.e1
 have hp3:=hp.e2
 let t0:List (St Tryz.prog):=[.i a0 (a2.2.length),.L bU a2.2 a0 0 8,.i a1 (a2.2.length),.L bU a2.2 a1 0 8,.c [] (C53 (a2.2.getD (tN a0) dF).2.2.2.2.1 (a2.2.getD (tN a1) dF).2.2.2.2.1),.c [] (C52 (tB a0 a1 a2 a3 a4))]
 cases h0:(decide (((F52 (tB a0 a1 a2 a3 a4)):Int) > 0)) with
 | true =>
  have q0:=cN h0
  have e:=Eq.refl (iV (nr+1) a0 a1 a2 a3 a4);conv at e=>rhs;simp only [iV,h0,aW]
  rw [e]
  refine ga (t0++[.d h0,.z 5]) [] [0,1,4,5,8,9,11] [7,8] hcx aJe (aJf) (aE9 nr a0 a1 a2 a3 a4 (decide (((W ((W ((W ((W ((a2.2.getD (tN a0) dF).2.2.2.2.2+(a2.2.getD (tN a1) dF).2.2.2.2.2))*4))*a3))*a3)):Int)<=(F52 (tB a0 a1 a2 a3 a4))))) (by kernel_rfl) ?_
  exact aO8 nr a0 a1 a2 a3 a4 l2_1 l2_2 l4 hp hlt ihr hcx (decide (((W ((W ((W ((W ((a2.2.getD (tN a0) dF).2.2.2.2.2+(a2.2.getD (tN a1) dF).2.2.2.2.2))*4))*a3))*a3)):Int)<=(F52 (tB a0 a1 a2 a3 a4)))) trivial
 | false =>
  have q0:=cY h0
  have e:=Eq.refl (iV (nr+1) a0 a1 a2 a3 a4);conv at e=>rhs;simp only [iV,h0,aW]
  rw [e]
  refine ga (t0++[.d h0,.z 5]) [] [0,1,4,5,8,9,11] [7,8] hcx aJe (aJf) (aE9 nr a0 a1 a2 a3 a4 false) (by kernel_rfl) ?_
  exact aO8 nr a0 a1 a2 a3 a4 l2_1 l2_2 l4 hp hlt ihr hcx false trivial
theorem C51 (a0:Int)(a1:Int)(a2:List Int×bE)(a3:Int)(a4:List (Int×Int×Bool))(l2_1:a2.1.length<=2^63-1)(l2_2:a2.2.length<=2^63-1)(l4:a4.length<=2^63-1)(hp:PVB a0 a1 a2 a4):Con Tryz.prog 51 [(iv a0),(iv a1),(.p 0 0),(.p 3 0),(.p 4 0),(.p 6 0)] [(.live false false [(.s 1 0 a2.1.length 1),(.s 2 0 a2.2.length 8)]),(.live false true (flat c3 a2.1)),(.live false true (flat bZ a2.2)),(.live false false [(iv a3)]),(.live true false [(.s 5 0 a4.length 3)]),(.live true true (flat eS a4)),(.live false false [(.f 51 [(.p 0 0),(.p 3 0),(.p 4 0),(.p 6 0)])])] (.t []) [(.live true true (flat eS (F51 a0 a1 a2 a3 a4)))] [.un,.un,.un,.un,(.live true false [(.s 7 0 (F51 a0 a1 a2 a3 a4).length 3)]),.dead,.un]:=aWt (((a2.2.length - tN a0)+(a2.2.length - tN a1))+1) a0 a1 a2 a3 a4 l2_1 l2_2 l4 hp (lss _)
noncomputable def aO9:Code:=(cC [1,1,1,1,0,1,0] [] (aL Tryz.f33)).1
noncomputable def aPa:List K:=(cC [1,1,1,1,0,1,0] [] (aL Tryz.f33)).2
def aLi (a0:List Int×bE)(a1:Int)(v1c:List SV)(v1n:Nat):LS:=⟨gO 15 [(5,(.p 2 0)),(6,(.p 3 0))],[(.live false true (flat c3 a0.1)),(.live false true (flat bZ a0.2)),(.live true false [(.s 4 0 v1n 3)]),(.live true false [(.f 51 [(.p 5 0),(.p 6 0),(.p 2 0),(.p 3 0)])]),(.live true true v1c),(.live true false [(.s 0 0 a0.1.length 1),(.s 1 0 a0.2.length 8)]),(.live true false [(iv a1)])]⟩
def xG (a0:List Int×bE)(a1:Int):List (Int×Int×Bool)->List (Int×Int×Bool)
 | v1 =>
  (F51 0 0 (a0.1,a0.2) a1 v1)
theorem aTz (a0:List Int×bE)(a1:Int)(l0_1:a0.1.length<=2^63-1)(l0_2:a0.2.length<=2^63-1)(hp:0 < a0.2.length->PVB 0 0 a0 []) {cx:Cx} (hcx:cx.base=2)(v1:List (Int×Int×Bool)):PVB 0 0 a0 v1->Aw.Good Tryz.prog none 9 (bodyPost Tryz.prog Tryz.f33 (RR cx (.s 2 0 (xG a0 a1 v1).length 3) [(.live true true (flat eS (xG a0 a1 v1)))] [])) cx [] (.c aO9::aPa) (aLi a0 a1 (flat eS v1) v1.length):=by
 intro hi
 have hb:=uI hi
 have e:=Eq.refl (xG a0 a1 v1);conv at e=>rhs;simp only [xG]
 rw [e]
 exact rt [.c [5,0,1,6,2,4,3] (C51 0 0 (a0.1,a0.2) a1 v1 (by omega) (by omega) (by omega) hi)] [] [7] hcx (by kernel_rfl)
def F33 (a0:List Int×bE)(a1:Int):List (Int×Int×Bool) :=
 (bif (decide (((a0.2.length:Int):Int) > 0)) then
  (xG a0 a1 ([]:List (Int×Int×Bool)))
 else
  ([]:List (Int×Int×Bool)))
theorem C33 (a0:List Int×bE)(a1:Int)(l0_1:a0.1.length<=2^63-1)(l0_2:a0.2.length<=2^63-1)(hp:0 < a0.2.length->PVB 0 0 a0 []):Con Tryz.prog 33 [(.a [(.s 0 0 a0.1.length 1),(.s 1 0 a0.2.length 8)]),(iv a1)] [(.live false true (flat c3 a0.1)),(.live false true (flat bZ a0.2))] (.s 2 0 (F33 a0 a1).length 3) [(.live true true (flat eS (F33 a0 a1)))]:=by
 refine bA Tryz.func33 (by kernel_rfl) fun cx hcx=>?_
 cases h0:(decide (((a0.2.length:Int):Int) > 0)) with
 | true =>
  have q0:=cN h0
  have e:=Eq.refl (F33 a0 a1);conv at e=>rhs;simp only [F33,h0,aW]
  rw [e]
  refine ga [.d h0,.z 5] [.cell 4 0 3] [5,6] [4,5,6,2,3] hcx aO9 (aPa) (aLi a0 a1 (flat eS ([]:List (Int×Int×Bool))) 0) (by kernel_rfl) ?_
  exact aTz a0 a1 l0_1 l0_2 hp hcx ([]:List (Int×Int×Bool)) (hp (by omega))
 | false =>
  have q0:=cY h0
  have e:=Eq.refl (F33 a0 a1);conv at e=>rhs;simp only [F33,h0,aW]
  rw [e]
  exact rt [.d h0] [.slot 4 3] [6] hcx (by kernel_rfl)
noncomputable def xH:Code:=(aN [1,1,0,1] [] (aL Tryz.f41) []).1
noncomputable def xI:List K:=(aN [1,1,0,1] [] (aL Tryz.f41) []).2
def uJ (a0:List (Int×Int×Bool))(a1:List (Int×Int×Bool))(v1:Int):LS:=⟨gO 26 [(0,(.s 0 0 a0.length 3)),(1,(.s 1 0 a1.length 3)),(5,(iv v1))],[(.live false true (flat eS a0)),(.live false true (flat eS a1))]⟩
def iW (a0:List (Int×Int×Bool))(a1:List (Int×Int×Bool)):Int->(Int)⊕(Bool)
 | v1 =>
  (bif (decide ((v1:Int) < (a0.length:Int))) then
   (bif (!((((a0.getD (tN v1) dF).1:Int) == (a1.getD (tN v1) dF).1)&&((((a0.getD (tN v1) dF).2.1:Int) == (a1.getD (tN v1) dF).2.1)&&(((a0.getD (tN v1) dF).2.2 == (a1.getD (tN v1) dF).2.2)&&true)))) then
    (.inr false)
   else
    (.inl (v1+1)))
  else
   (.inr true))
theorem aMt (a0:List (Int×Int×Bool))(a1:List (Int×Int×Bool))(l0:a0.length<=2^63-1)(l1:a1.length<=2^63-1) {cx:Cx} (hcx:cx.base=2):∀(n:Nat) (v1:Int),(0<=v1)/\(a0.length=a1.length)->tN ((a0.length:Int) - v1) < n->Aw.Good Tryz.prog none 9 (bodyPost Tryz.prog Tryz.f41 (RR cx (.v (.bool (aH (iW a0 a1) n v1))) [] [])) cx [] (.l xH n::xI) (uJ a0 a1 v1):=by
 intro n
 induction n with
 | zero=>intro v1 hi hn;exact absurd hn (eL _)
 | succ n ih =>
  intro v1 hi hn
  refine aS ?_
  cases h0:(decide ((v1:Int) < (a0.length:Int))) with
  | true =>
   have q0:=cN h0
   let t1:List (St Tryz.prog):=[.d h0,.i v1 (a0.length),.L eB a0 v1 0 3,.i v1 (a1.length),.L eB a1 v1 0 3]
   cases h1:(!((((a0.getD (tN v1) dF).1:Int) == (a1.getD (tN v1) dF).1)&&((((a0.getD (tN v1) dF).2.1:Int) == (a1.getD (tN v1) dF).2.1)&&(((a0.getD (tN v1) dF).2.2 == (a1.getD (tN v1) dF).2.2)&&true)))) with
   | true =>
    have e:=Eq.refl (iW a0 a1 v1);conv at e=>rhs;simp only [iW,h0,h1,aW]
    rw [aK,e]
    exact rt (t1++[.d h1]) [] [] hcx (by kernel_rfl)
   | false =>
    have e:=Eq.refl (iW a0 a1 v1);conv at e=>rhs;simp only [iW,h0,h1,aW]
    rw [aI e]
    refine ba (t1++[.d h1]) [] [0,1,5] [] hcx (m:=n) xH (xI) (uJ a0 a1 (W (v1+1))) (by kernel_rfl) ?_
    have z0:(W (v1+1))=(v1+1):=aR (by omega) (by omega)
    rw [z0]
    exact ih (v1+1) (by refine⟨?_,?_⟩<;>(try simp only [Ls])<;>first | omega | assumption | simp) (by omega)
  | false =>
   have q0:=cY h0
   have e:=Eq.refl (iW a0 a1 v1);conv at e=>rhs;simp only [iW,h0,aW]
   rw [aK,e]
   exact rt [.d h0] [] [] hcx (by kernel_rfl)
def jJ (a0:List (Int×Int×Bool))(a1:List (Int×Int×Bool)):Bool :=
 (bif (((a0.length:Int):Int) != (a1.length:Int)) then
  false
 else
  (aH (iW a0 a1) (tN ((a0.length:Int) - 0)+1) 0))
theorem aRl (a0:List (Int×Int×Bool))(a1:List (Int×Int×Bool))(l0:a0.length<=2^63-1)(l1:a1.length<=2^63-1):Con Tryz.prog 41 [(.s 0 0 a0.length 3),(.s 1 0 a1.length 3)] [(.live false true (flat eS a0)),(.live false true (flat eS a1))] (.v (.bool (jJ a0 a1))) []:=by
 refine bA Tryz.func41 (by kernel_rfl) fun cx hcx=>?_
 cases h0:(((a0.length:Int):Int) != (a1.length:Int)) with
 | true =>
  have q0:=bne_iff_ne.1 h0
  have e:=Eq.refl (jJ a0 a1);conv at e=>rhs;simp only [jJ,h0,aW]
  rw [e]
  exact rt [.d h0] [] [] hcx (by kernel_rfl)
 | false =>
  have q0:=bne_eq_false_iff_eq.1 h0
  have e:=Eq.refl (jJ a0 a1);conv at e=>rhs;simp only [jJ,h0,aW]
  rw [e]
  refine en [.d h0] [] [0,1,5] [] hcx xH (xI) (uJ a0 a1 0) (tN ((a0.length:Int) - 0)+1) (by kernel_rfl) ?_
  exact aMt a0 a1 l0 l1 hcx (tN ((a0.length:Int) - 0)+1) 0 (by refine⟨?_,?_⟩<;>(try simp only [Ls])<;>first | omega | assumption | simp) (by omega)
def F82 (a0:Int×Int×Int×Int×Zt×Int)(a1:Int×Int×Int×Int×Zt×Int):Int :=
 (fV (fM a0.2.2.2.2.1 a1.2.2.2.2.1))
theorem C82 (a0:Int×Int×Int×Int×Zt×Int)(a1:Int×Int×Int×Int×Zt×Int):Con Tryz.prog 82 [(.a [(iv a0.1),(iv a0.2.1),(iv a0.2.2.1),(iv a0.2.2.2.1),(iv a0.2.2.2.2.1.1),(iv a0.2.2.2.2.1.2.1),(iv a0.2.2.2.2.1.2.2),(iv a0.2.2.2.2.2)]),(.a [(iv a1.1),(iv a1.2.1),(iv a1.2.2.1),(iv a1.2.2.2.1),(iv a1.2.2.2.2.1.1),(iv a1.2.2.2.2.1.2.1),(iv a1.2.2.2.2.1.2.2),(iv a1.2.2.2.2.2)])] [] (iv (F82 a0 a1)) []:=by
 refine bA Tryz.func82 (by kernel_rfl) fun cx hcx=>?_
 have e:=Eq.refl (F82 a0 a1);conv at e=>rhs;simp only [F82]
 rw [e]
 exact rt [.c [] (aQv a0.2.2.2.2.1 a1.2.2.2.2.1),.c [] (aQu (fM a0.2.2.2.2.1 a1.2.2.2.2.1))] [] [] hcx (by kernel_rfl)
def yK (a0:List Int×bE)(a1:Int)(a2:Int)(a3:Int):=(F82 (a0.2.getD (tN a1) dF) (a0.2.getD (tN a2) dF))
def fI (rr:(List Int×bE)->(Int)->(Int)->(Int)->List (Int×Int×Bool))(a0:List Int×bE)(a1:Int)(a2:Int)(a3:Int):=(rr (a0.1,a0.2) (a0.2.getD (tN a1) dF).2.2.1 a2 a3)
def eU (rr:(List Int×bE)->(Int)->(Int)->(Int)->List (Int×Int×Bool))(a0:List Int×bE)(a1:Int)(a2:Int)(a3:Int):=(rr (a0.1,a0.2) (a0.2.getD (tN a1) dF).2.2.2.1 a2 a3)
def dR (rr:(List Int×bE)->(Int)->(Int)->(Int)->List (Int×Int×Bool))(a0:List Int×bE)(a1:Int)(a2:Int)(a3:Int):=(rr (a0.1,a0.2) a1 (a0.2.getD (tN a2) dF).2.2.1 a3)
def dJ (rr:(List Int×bE)->(Int)->(Int)->(Int)->List (Int×Int×Bool))(a0:List Int×bE)(a1:Int)(a2:Int)(a3:Int):=(rr (a0.1,a0.2) a1 (a0.2.getD (tN a2) dF).2.2.2.1 a3)
noncomputable def aJg:Code:=(cC [1,1,1,1,0,0] [] (aL Tryz.f63)).1
noncomputable def aJh:List K:=(cC [1,1,1,1,0,0] [] (aL Tryz.f63)).2
def aFa (nr:Nat)(a0:List Int×bE)(a1:Int)(a2:Int)(a3:Int):LS:=⟨gO 104 [(1,(iv a1)),(2,(iv a2)),(3,(iv a3)),(4,(.p 2 0)),(9,(.p 3 0)),(10,(.p 4 0))],[(.live false true (flat c3 a0.1)),(.live false true (flat bZ a0.2)),(.live true false [(.s 0 0 a0.1.length 1),(.s 1 0 a0.2.length 8)]),(.live true false [(iv (a0.2.getD (tN a1) dF).1),(iv (a0.2.getD (tN a1) dF).2.1),(iv (a0.2.getD (tN a1) dF).2.2.1),(iv (a0.2.getD (tN a1) dF).2.2.2.1),(iv (a0.2.getD (tN a1) dF).2.2.2.2.1.1),(iv (a0.2.getD (tN a1) dF).2.2.2.2.1.2.1),(iv (a0.2.getD (tN a1) dF).2.2.2.2.1.2.2),(iv (a0.2.getD (tN a1) dF).2.2.2.2.2)]),(.live true false [(iv (a0.2.getD (tN a2) dF).1),(iv (a0.2.getD (tN a2) dF).2.1),(iv (a0.2.getD (tN a2) dF).2.2.1),(iv (a0.2.getD (tN a2) dF).2.2.2.1),(iv (a0.2.getD (tN a2) dF).2.2.2.2.1.1),(iv (a0.2.getD (tN a2) dF).2.2.2.2.1.2.1),(iv (a0.2.getD (tN a2) dF).2.2.2.2.1.2.2),(iv (a0.2.getD (tN a2) dF).2.2.2.2.2)])]⟩
def eW (rr:(List Int×bE)->(Int)->(Int)->(Int)->List (Int×Int×Bool))(a0:List Int×bE)(a1:Int)(a2:Int)(a3:Int):Unit->List (Int×Int×Bool)
 | () =>
  (bif (decide (((a0.2.getD (tN a1) dF).2.2.1:Int) < 0)) then
   (bif (decide (((a0.2.getD (tN a2) dF).2.2.1:Int) < 0)) then
    ([(a1,a2,false)]:List (Int×Int×Bool))
   else
    (bif (decide (((a0.2.getD (tN a1) dF).2.2.1:Int)≥0)) then
     (bif (decide (((W ((a0.2.getD (tN a1) dF).2.1 - (a0.2.getD (tN a1) dF).1)):Int)≥(W ((a0.2.getD (tN a2) dF).2.1 - (a0.2.getD (tN a2) dF).1)))) then
      ((fI (rr) a0 a1 a2 a3)++(eU (rr) a0 a1 a2 a3))
     else
      ((dR (rr) a0 a1 a2 a3)++(dJ (rr) a0 a1 a2 a3)))
    else
     ((dR (rr) a0 a1 a2 a3)++(dJ (rr) a0 a1 a2 a3))))
  else
   (bif (decide (((a0.2.getD (tN a2) dF).2.2.1:Int) < 0)) then
    ((fI (rr) a0 a1 a2 a3)++(eU (rr) a0 a1 a2 a3))
   else
    (bif (decide (((a0.2.getD (tN a1) dF).2.2.1:Int)≥0)) then
     (bif (decide (((W ((a0.2.getD (tN a1) dF).2.1 - (a0.2.getD (tN a1) dF).1)):Int)≥(W ((a0.2.getD (tN a2) dF).2.1 - (a0.2.getD (tN a2) dF).1)))) then
      ((fI (rr) a0 a1 a2 a3)++(eU (rr) a0 a1 a2 a3))
     else
      ((dR (rr) a0 a1 a2 a3)++(dJ (rr) a0 a1 a2 a3)))
    else
     ((dR (rr) a0 a1 a2 a3)++(dJ (rr) a0 a1 a2 a3)))))
def cF:Nat->(List Int×bE)->(Int)->(Int)->(Int)->List (Int×Int×Bool)
 | 0,_,_,_,_=>dF
 | nr+1,a0,a1,a2,a3 =>
 (bif (decide (((W ((W ((W ((W ((a0.2.getD (tN a1) dF).2.2.2.2.2+(a0.2.getD (tN a2) dF).2.2.2.2.2))*4))*a3))*a3)):Int)<=(yK a0 a1 a2 a3))) then
  (bif (decide (((yK a0 a1 a2 a3):Int) > 0)) then
   ([(a1,a2,true)]:List (Int×Int×Bool))
  else
   (eW (cF nr) a0 a1 a2 a3 ()))
 else
  (eW (cF nr) a0 a1 a2 a3 ()))
def F63 (a0:List Int×bE)(a1:Int)(a2:Int)(a3:Int):List (Int×Int×Bool):=cF (((a0.2.length - tN a1)+(a0.2.length - tN a2))+1) a0 a1 a2 a3
theorem mL:∀(nr:Nat) (t:TR) (i k sep:Int) (m:Nat) (f u h:Int) (m':Nat) (f' u' h':Int),TRE t.2 (tN i) m f u h->TRE t.2 (tN k) m' f' u' h'->0<=i->0<=k->(t.2.length - tN i)+(t.2.length - tN k) < nr ->
 ((cF nr t i k sep).length:Int)<=(u - f)*(u' - f')
 | 0,_,_,_,_,_,_,_,_,_,_,_,_,_,_,_,_,h=>absurd h (eL _)
 | nr+1,t,i,k,sep,m,f,u,h,m',f',u',h',H,K,hi,hk,hn=>by
  have hb:=cG H
  have kb:=cG K
  have hm:=kK (a:=u - f) (b:=u' - f') (by omega) (by omega)
  have hs:∀b:Bool,(([(i,k,b)]:List BLK).length:Int)<=(u - f)*(u' - f'):=fun b=>by rw [List.length_singleton];omega
  have hA:¬(t.2.getD (tN i) dF).2.2.1 < 0->((fI (cF nr) t i k sep++eU (cF nr) t i k sep).length:Int)<=(u - f)*(u' - f'):=by
   intro hq
   rcases iB H with⟨_,_,h5,_⟩ | ⟨m1,m2,c,h1,h2,e8,g4,g5,b1,b2,e9⟩
   ·omega
   ·have l1:=cG b1
    have l2:=cG b2
    have c1:((fI (cF nr) t i k sep).length:Int)<=(c - f)*(u' - f'):=mL nr t (t.2.getD (tN i) dF).2.2.1 k sep m1 f c h1 m' f' u' h' (by rw [g4,fT];exact b1) K (by omega) hk (by omega)
    have c2:((eU (cF nr) t i k sep).length:Int)<=(u - c)*(u' - f'):=mL nr t (t.2.getD (tN i) dF).2.2.2.1 k sep m2 c u h2 m' f' u' h' (by rw [g5,fT];exact b2) K (by omega) hk (by omega)
    have c3:=zC f u c (u' - f')
    rw [List.length_append]
    omega
  have hB:¬(t.2.getD (tN k) dF).2.2.1 < 0->((dR (cF nr) t i k sep++dJ (cF nr) t i k sep).length:Int)<=(u - f)*(u' - f'):=by
   intro hq
   rcases iB K with⟨_,_,h5,_⟩ | ⟨m1,m2,c,h1,h2,e8,g4,g5,b1,b2,e9⟩
   ·omega
   ·have l1:=cG b1
    have l2:=cG b2
    have c1:((dR (cF nr) t i k sep).length:Int)<=(u - f)*(c - f'):=mL nr t i (t.2.getD (tN k) dF).2.2.1 sep m f u h m1 f' c h1 H (by rw [g4,fT];exact b1) hi (by omega) (by omega)
    have c2:((dJ (cF nr) t i k sep).length:Int)<=(u - f)*(u' - c):=mL nr t i (t.2.getD (tN k) dF).2.2.2.1 sep m f u h m2 c u' h2 H (by rw [g5,fT];exact b2) hi (by omega) (by omega)
    have c3:=vP f' u' c (u - f)
    rw [List.length_append]
    omega
  have hJ:((eW (cF nr) t i k sep ()).length:Int)<=(u - f)*(u' - f'):=by
   simp only [eW]
   by_cases z1:(t.2.getD (tN i) dF).2.2.1 < 0<;>by_cases z2:(t.2.getD (tN k) dF).2.2.1 < 0
   ·rw [cI z1,cI z2,cond_true,cond_true];exact hs false
   ·rw [cI z1,dA z2,cond_true,cond_false,dA (show ¬(t.2.getD (tN i) dF).2.2.1≥0 by omega),cond_false];exact hB z2
   ·rw [dA z1,cI z2,cond_false,cond_true];exact hA z1
   ·rw [dA z1,dA z2,cond_false,cond_false,cI (show(t.2.getD (tN i) dF).2.2.1≥0 by omega),cond_true,Bool.cond_eq_ite]
    split
    ·exact hA z1
    ·exact hB z2
  simp only [cF]
  rw [Bool.cond_eq_ite]
  split
  ·rw [Bool.cond_eq_ite]
   split
   ·exact hs true
   ·exact hJ
  ·exact hJ
theorem aVy {nr:Nat} {i k:Int} {t:TR} (sep:Int)(h:PVB i k t [])(hlt:(t.2.length - tN i)+(t.2.length - tN k) < nr+1)(hq:¬(t.2.getD (tN i) dF).2.2.1 < 0) :
 (PVB (t.2.getD (tN i) dF).2.2.1 k t []/\PVB (t.2.getD (tN i) dF).2.2.2.1 k t []) /\
 ((t.2.length - tN (t.2.getD (tN i) dF).2.2.1)+(t.2.length - tN k) < nr/\(t.2.length - tN (t.2.getD (tN i) dF).2.2.2.1)+(t.2.length - tN k) < nr)/\(fI (cF nr) t i k sep).length<=1048576/\(eU (cF nr) t i k sep).length<=1048576:=by
 obtain⟨e0,e1,e2,m,f,u,hh,m',f',u',hh',H,K,e5⟩:=h
 have hb:=cG H
 have kb:=cG K
 rcases iB H with⟨_,_,h5,_⟩ | ⟨m1,m2,c,h1,h2,e8,g4,g5,b1,b2,e9⟩
 ·omega
 ·have l1:=cG b1
  have l2:=cG b2
  have p1:=kK (a:=c - f) (b:=u' - f') (by omega) (by omega)
  have p2:=kK (a:=u - c) (b:=u' - f') (by omega) (by omega)
  have c3:=zC f u c (u' - f')
  have t1:TRE t.2 (tN (t.2.getD (tN i) dF).2.2.1) m1 f c h1:=by rw [g4,fT];exact b1
  have t2:TRE t.2 (tN (t.2.getD (tN i) dF).2.2.2.1) m2 c u h2:=by rw [g5,fT];exact b2
  have c1:((fI (cF nr) t i k sep).length:Int)<=(c - f)*(u' - f'):=mL nr t (t.2.getD (tN i) dF).2.2.1 k sep m1 f c h1 m' f' u' hh' t1 K (by omega) e1 (by omega)
  have c2:((eU (cF nr) t i k sep).length:Int)<=(u - c)*(u' - f'):=mL nr t (t.2.getD (tN i) dF).2.2.2.1 k sep m2 c u h2 m' f' u' hh' t2 K (by omega) e1 (by omega)
  simp only [List.length_nil] at e5
  exact⟨⟨⟨by omega,e1,e2,m1,f,c,h1,m',f',u',hh',t1,K,by simp only [List.length_nil];omega⟩,⟨by omega,e1,e2,m2,c,u,h2,m',f',u',hh',t2,K,by simp only [List.length_nil];omega⟩⟩,⟨by omega,by omega⟩,by omega,by omega⟩
theorem aVz {nr:Nat} {i k:Int} {t:TR} (sep:Int)(h:PVB i k t [])(hlt:(t.2.length - tN i)+(t.2.length - tN k) < nr+1)(hq:¬(t.2.getD (tN k) dF).2.2.1 < 0) :
 (PVB i (t.2.getD (tN k) dF).2.2.1 t []/\PVB i (t.2.getD (tN k) dF).2.2.2.1 t []) /\
 ((t.2.length - tN i)+(t.2.length - tN (t.2.getD (tN k) dF).2.2.1) < nr/\(t.2.length - tN i)+(t.2.length - tN (t.2.getD (tN k) dF).2.2.2.1) < nr)/\(dR (cF nr) t i k sep).length<=1048576/\(dJ (cF nr) t i k sep).length<=1048576:=by
 obtain⟨e0,e1,e2,m,f,u,hh,m',f',u',hh',H,K,e5⟩:=h
 have hb:=cG H
 have kb:=cG K
 rcases iB K with⟨_,_,h5,_⟩ | ⟨m1,m2,c,h1,h2,e8,g4,g5,b1,b2,e9⟩
 ·omega
 ·have l1:=cG b1
  have l2:=cG b2
  have p1:=kK (a:=u - f) (b:=c - f') (by omega) (by omega)
  have p2:=kK (a:=u - f) (b:=u' - c) (by omega) (by omega)
  have c3:=vP f' u' c (u - f)
  have t1:TRE t.2 (tN (t.2.getD (tN k) dF).2.2.1) m1 f' c h1:=by rw [g4,fT];exact b1
  have t2:TRE t.2 (tN (t.2.getD (tN k) dF).2.2.2.1) m2 c u' h2:=by rw [g5,fT];exact b2
  have c1:((dR (cF nr) t i k sep).length:Int)<=(u - f)*(c - f'):=mL nr t i (t.2.getD (tN k) dF).2.2.1 sep m f u hh m1 f' c h1 H t1 e0 (by omega) (by omega)
  have c2:((dJ (cF nr) t i k sep).length:Int)<=(u - f)*(u' - c):=mL nr t i (t.2.getD (tN k) dF).2.2.2.1 sep m f u hh m2 c u' h2 H t2 e0 (by omega) (by omega)
  simp only [List.length_nil] at e5
  exact⟨⟨⟨e0,by omega,e2,m,f,u,hh,m1,f',c,h1,H,t1,by simp only [List.length_nil];omega⟩,⟨e0,by omega,e2,m,f,u,hh,m2,c,u',h2,H,t2,by simp only [List.length_nil];omega⟩⟩,⟨by omega,by omega⟩,by omega,by omega⟩
theorem aPb (nr:Nat)(a0:List Int×bE)(a1:Int)(a2:Int)(a3:Int)(l0_1:a0.1.length<=2^63-1)(l0_2:a0.2.length<=2^63-1)(hp:PVB a1 a2 a0 [])(hlt:((a0.2.length - tN a1)+(a0.2.length - tN a2)) < nr+1)(ihr:∀(a0:List Int×bE)(a1:Int)(a2:Int)(a3:Int)(l0_1:a0.1.length<=2^63-1)(l0_2:a0.2.length<=2^63-1)(hp:PVB a1 a2 a0 []),((a0.2.length - tN a1)+(a0.2.length - tN a2)) < nr->Con Tryz.prog 63 [(.a [(.s 0 0 a0.1.length 1),(.s 1 0 a0.2.length 8)]),(iv a1),(iv a2),(iv a3)] [(.live false true (flat c3 a0.1)),(.live false true (flat bZ a0.2))] (.s 2 0 (cF nr a0 a1 a2 a3).length 3) [(.live true true (flat eS (cF nr a0 a1 a2 a3)))]) {cx:Cx} (hcx:cx.base=2):True->Aw.Good Tryz.prog none 9 (bodyPost Tryz.prog Tryz.f63 (RR cx (.s 2 0 (eW (cF nr) a0 a1 a2 a3 ()).length 3) [(.live true true (flat eS (eW (cF nr) a0 a1 a2 a3 ())))] [])) cx [] (.c aJg::aJh) (aFa nr a0 a1 a2 a3):=by
 intro hi
 have hpb:=uI hp
 have hp1:=hp.e0
 have hp2:=hp.e1
 have hp3:=hp.e2
 have hA:=aVy a3 hp hlt
 have hB:=aVz a3 hp hlt
 have hAl:=fun q=>(hA q).2.2
 have hBl:=fun q=>(hB q).2.2
 cases h0:(decide (((a0.2.getD (tN a1) dF).2.2.1:Int) < 0)) with
 | true =>
  have q0:=cN h0
  let t1:List (St Tryz.prog):=[.d h0]
  cases h1:(decide (((a0.2.getD (tN a2) dF).2.2.1:Int) < 0)) with
  | true =>
   have q1:=cN h1
   have e:=Eq.refl (eW (cF nr) a0 a1 a2 a3 ());conv at e=>rhs;simp only [eW,h0,h1,aW]
   rw [e]
   exact rt (t1++[.d h1]) [.sym 5 true] [5] hcx (by kernel_rfl)
  | false =>
   have q1:=cY h1
   let t2:List (St Tryz.prog):=(t1++[.d h1,.d h1])
   cases h2:(decide (((a0.2.getD (tN a1) dF).2.2.1:Int)≥0)) with
   | true =>
    have q2:=cN h2
    let t3:List (St Tryz.prog):=(t2++[.d h2])
    cases h3:(decide (((W ((a0.2.getD (tN a1) dF).2.1 - (a0.2.getD (tN a1) dF).1)):Int)≥(W ((a0.2.getD (tN a2) dF).2.1 - (a0.2.getD (tN a2) dF).1)))) with
    | true =>
     have q3:=cN h3
     have e:=Eq.refl (eW (cF nr) a0 a1 a2 a3 ());conv at e=>rhs;simp only [eW,h0,h1,h2,h3,aW]
     rw [e]
     rw [show flat eS ((fI (cF nr) a0 a1 a2 a3)++(eU (cF nr) a0 a1 a2 a3))=((flat eS (fI (cF nr) a0 a1 a2 a3))++(flat eS (eU (cF nr) a0 a1 a2 a3))) from Eq.symm (by simp [flat])]
     rw [show((fI (cF nr) a0 a1 a2 a3)++(eU (cF nr) a0 a1 a2 a3)).length=((fI (cF nr) a0 a1 a2 a3).length+(eU (cF nr) a0 a1 a2 a3).length) from by simp]
     exact rt (t3++[.d h3,.c [0,1] (ihr (a0.1,a0.2) (a0.2.getD (tN a1) dF).2.2.1 a2 a3 (by omega) (by omega) (by first | exact(hA (by omega)).1.1 | exact(hA (by omega)).1.2 | exact(hB (by omega)).1.1 | exact(hB (by omega)).1.2) (by first | exact(hA (by omega)).2.1.1 | exact(hA (by omega)).2.1.2 | exact(hB (by omega)).2.1.1 | exact(hB (by omega)).2.1.2)),.c [0,1] (ihr (a0.1,a0.2) (a0.2.getD (tN a1) dF).2.2.2.1 a2 a3 (by omega) (by omega) (by first | exact(hA (by omega)).1.1 | exact(hA (by omega)).1.2 | exact(hB (by omega)).1.1 | exact(hB (by omega)).1.2) (by first | exact(hA (by omega)).2.1.1 | exact(hA (by omega)).2.1.2 | exact(hB (by omega)).2.1.1 | exact(hB (by omega)).2.1.2)),.p (show((flat eS (fI (cF nr) a0 a1 a2 a3)).length=(fI (cF nr) a0 a1 a2 a3).length*3/\(flat eS (eU (cF nr) a0 a1 a2 a3)).length=(eU (cF nr) a0 a1 a2 a3).length*3/\(flat eS (eU (cF nr) a0 a1 a2 a3)).all SV.one=true/\(fI (cF nr) a0 a1 a2 a3).length+(eU (cF nr) a0 a1 a2 a3).length<=2 ^ 40/\((fI (cF nr) a0 a1 a2 a3).length+(eU (cF nr) a0 a1 a2 a3).length)*24<=2 ^ 47) from by refine⟨?_,?_,?_,?_,?_⟩<;>first | omega | exact iJ (fun _=>rfl) | (simp [bW eB];done) | (simp [bW eB];omega))]) [] [7] hcx (by kernel_rfl)
    | false =>
     have q3:=cY h3
     have e:=Eq.refl (eW (cF nr) a0 a1 a2 a3 ());conv at e=>rhs;simp only [eW,h0,h1,h2,h3,aW]
     rw [e]
     rw [show flat eS ((dR (cF nr) a0 a1 a2 a3)++(dJ (cF nr) a0 a1 a2 a3))=((flat eS (dR (cF nr) a0 a1 a2 a3))++(flat eS (dJ (cF nr) a0 a1 a2 a3))) from Eq.symm (by simp [flat])]
     rw [show((dR (cF nr) a0 a1 a2 a3)++(dJ (cF nr) a0 a1 a2 a3)).length=((dR (cF nr) a0 a1 a2 a3).length+(dJ (cF nr) a0 a1 a2 a3).length) from by simp]
     exact rt (t3++[.d h3,.c [0,1] (ihr (a0.1,a0.2) a1 (a0.2.getD (tN a2) dF).2.2.1 a3 (by omega) (by omega) (by first | exact(hA (by omega)).1.1 | exact(hA (by omega)).1.2 | exact(hB (by omega)).1.1 | exact(hB (by omega)).1.2) (by first | exact(hA (by omega)).2.1.1 | exact(hA (by omega)).2.1.2 | exact(hB (by omega)).2.1.1 | exact(hB (by omega)).2.1.2)),.c [0,1] (ihr (a0.1,a0.2) a1 (a0.2.getD (tN a2) dF).2.2.2.1 a3 (by omega) (by omega) (by first | exact(hA (by omega)).1.1 | exact(hA (by omega)).1.2 | exact(hB (by omega)).1.1 | exact(hB (by omega)).1.2) (by first | exact(hA (by omega)).2.1.1 | exact(hA (by omega)).2.1.2 | exact(hB (by omega)).2.1.1 | exact(hB (by omega)).2.1.2)),.p (show((flat eS (dR (cF nr) a0 a1 a2 a3)).length=(dR (cF nr) a0 a1 a2 a3).length*3/\(flat eS (dJ (cF nr) a0 a1 a2 a3)).length=(dJ (cF nr) a0 a1 a2 a3).length*3/\(flat eS (dJ (cF nr) a0 a1 a2 a3)).all SV.one=true/\(dR (cF nr) a0 a1 a2 a3).length+(dJ (cF nr) a0 a1 a2 a3).length<=2 ^ 40/\((dR (cF nr) a0 a1 a2 a3).length+(dJ (cF nr) a0 a1 a2 a3).length)*24<=2 ^ 47) from by refine⟨?_,?_,?_,?_,?_⟩<;>first | omega | exact iJ (fun _=>rfl) | (simp [bW eB];done) | (simp [bW eB];omega))]) [] [7] hcx (by kernel_rfl)
   | false =>
    have q2:=cY h2
    have e:=Eq.refl (eW (cF nr) a0 a1 a2 a3 ());conv at e=>rhs;simp only [eW,h0,h1,h2,aW]
    rw [e]
    rw [show flat eS ((dR (cF nr) a0 a1 a2 a3)++(dJ (cF nr) a0 a1 a2 a3))=((flat eS (dR (cF nr) a0 a1 a2 a3))++(flat eS (dJ (cF nr) a0 a1 a2 a3))) from Eq.symm (by simp [flat])]
    rw [show((dR (cF nr) a0 a1 a2 a3)++(dJ (cF nr) a0 a1 a2 a3)).length=((dR (cF nr) a0 a1 a2 a3).length+(dJ (cF nr) a0 a1 a2 a3).length) from by simp]
    exact rt (t2++[.d h2,.c [0,1] (ihr (a0.1,a0.2) a1 (a0.2.getD (tN a2) dF).2.2.1 a3 (by omega) (by omega) (by first | exact(hA (by omega)).1.1 | exact(hA (by omega)).1.2 | exact(hB (by omega)).1.1 | exact(hB (by omega)).1.2) (by first | exact(hA (by omega)).2.1.1 | exact(hA (by omega)).2.1.2 | exact(hB (by omega)).2.1.1 | exact(hB (by omega)).2.1.2)),.c [0,1] (ihr (a0.1,a0.2) a1 (a0.2.getD (tN a2) dF).2.2.2.1 a3 (by omega) (by omega) (by first | exact(hA (by omega)).1.1 | exact(hA (by omega)).1.2 | exact(hB (by omega)).1.1 | exact(hB (by omega)).1.2) (by first | exact(hA (by omega)).2.1.1 | exact(hA (by omega)).2.1.2 | exact(hB (by omega)).2.1.1 | exact(hB (by omega)).2.1.2)),.p (show((flat eS (dR (cF nr) a0 a1 a2 a3)).length=(dR (cF nr) a0 a1 a2 a3).length*3/\(flat eS (dJ (cF nr) a0 a1 a2 a3)).length=(dJ (cF nr) a0 a1 a2 a3).length*3/\(flat eS (dJ (cF nr) a0 a1 a2 a3)).all SV.one=true/\(dR (cF nr) a0 a1 a2 a3).length+(dJ (cF nr) a0 a1 a2 a3).length<=2 ^ 40/\((dR (cF nr) a0 a1 a2 a3).length+(dJ (cF nr) a0 a1 a2 a3).length)*24<=2 ^ 47) from by refine⟨?_,?_,?_,?_,?_⟩<;>first | omega | exact iJ (fun _=>rfl) | (simp [bW eB];done) | (simp [bW eB];omega))]) [] [7] hcx (by kernel_rfl)
 | false =>
  have q0:=cY h0
  let t1:List (St Tryz.prog):=[.d h0]
  cases h1:(decide (((a0.2.getD (tN a2) dF).2.2.1:Int) < 0)) with
  | true =>
   have q1:=cN h1
   have e:=Eq.refl (eW (cF nr) a0 a1 a2 a3 ());conv at e=>rhs;simp only [eW,h0,h1,aW]
   rw [e]
   rw [show flat eS ((fI (cF nr) a0 a1 a2 a3)++(eU (cF nr) a0 a1 a2 a3))=((flat eS (fI (cF nr) a0 a1 a2 a3))++(flat eS (eU (cF nr) a0 a1 a2 a3))) from Eq.symm (by simp [flat])]
   rw [show((fI (cF nr) a0 a1 a2 a3)++(eU (cF nr) a0 a1 a2 a3)).length=((fI (cF nr) a0 a1 a2 a3).length+(eU (cF nr) a0 a1 a2 a3).length) from by simp]
   exact rt (t1++[.d h1,.c [0,1] (ihr (a0.1,a0.2) (a0.2.getD (tN a1) dF).2.2.1 a2 a3 (by omega) (by omega) (by first | exact(hA (by omega)).1.1 | exact(hA (by omega)).1.2 | exact(hB (by omega)).1.1 | exact(hB (by omega)).1.2) (by first | exact(hA (by omega)).2.1.1 | exact(hA (by omega)).2.1.2 | exact(hB (by omega)).2.1.1 | exact(hB (by omega)).2.1.2)),.c [0,1] (ihr (a0.1,a0.2) (a0.2.getD (tN a1) dF).2.2.2.1 a2 a3 (by omega) (by omega) (by first | exact(hA (by omega)).1.1 | exact(hA (by omega)).1.2 | exact(hB (by omega)).1.1 | exact(hB (by omega)).1.2) (by first | exact(hA (by omega)).2.1.1 | exact(hA (by omega)).2.1.2 | exact(hB (by omega)).2.1.1 | exact(hB (by omega)).2.1.2)),.p (show((flat eS (fI (cF nr) a0 a1 a2 a3)).length=(fI (cF nr) a0 a1 a2 a3).length*3/\(flat eS (eU (cF nr) a0 a1 a2 a3)).length=(eU (cF nr) a0 a1 a2 a3).length*3/\(flat eS (eU (cF nr) a0 a1 a2 a3)).all SV.one=true/\(fI (cF nr) a0 a1 a2 a3).length+(eU (cF nr) a0 a1 a2 a3).length<=2 ^ 40/\((fI (cF nr) a0 a1 a2 a3).length+(eU (cF nr) a0 a1 a2 a3).length)*24<=2 ^ 47) from by refine⟨?_,?_,?_,?_,?_⟩<;>first | omega | exact iJ (fun _=>rfl) | (simp [bW eB];done) | (simp [bW eB];omega))]) [] [7] hcx (by kernel_rfl)
  | false =>
   have q1:=cY h1
   let t2:List (St Tryz.prog):=(t1++[.d h1])
   cases h2:(decide (((a0.2.getD (tN a1) dF).2.2.1:Int)≥0)) with
   | true =>
    have q2:=cN h2
    let t3:List (St Tryz.prog):=(t2++[.d h2])
    cases h3:(decide (((W ((a0.2.getD (tN a1) dF).2.1 - (a0.2.getD (tN a1) dF).1)):Int)≥(W ((a0.2.getD (tN a2) dF).2.1 - (a0.2.getD (tN a2) dF).1)))) with
    | true =>
     have q3:=cN h3
     have e:=Eq.refl (eW (cF nr) a0 a1 a2 a3 ());conv at e=>rhs;simp only [eW,h0,h1,h2,h3,aW]
     rw [e]
     rw [show flat eS ((fI (cF nr) a0 a1 a2 a3)++(eU (cF nr) a0 a1 a2 a3))=((flat eS (fI (cF nr) a0 a1 a2 a3))++(flat eS (eU (cF nr) a0 a1 a2 a3))) from Eq.symm (by simp [flat])]
     rw [show((fI (cF nr) a0 a1 a2 a3)++(eU (cF nr) a0 a1 a2 a3)).length=((fI (cF nr) a0 a1 a2 a3).length+(eU (cF nr) a0 a1 a2 a3).length) from by simp]
     exact rt (t3++[.d h3,.c [0,1] (ihr (a0.1,a0.2) (a0.2.getD (tN a1) dF).2.2.1 a2 a3 (by omega) (by omega) (by first | exact(hA (by omega)).1.1 | exact(hA (by omega)).1.2 | exact(hB (by omega)).1.1 | exact(hB (by omega)).1.2) (by first | exact(hA (by omega)).2.1.1 | exact(hA (by omega)).2.1.2 | exact(hB (by omega)).2.1.1 | exact(hB (by omega)).2.1.2)),.c [0,1] (ihr (a0.1,a0.2) (a0.2.getD (tN a1) dF).2.2.2.1 a2 a3 (by omega) (by omega) (by first | exact(hA (by omega)).1.1 | exact(hA (by omega)).1.2 | exact(hB (by omega)).1.1 | exact(hB (by omega)).1.2) (by first | exact(hA (by omega)).2.1.1 | exact(hA (by omega)).2.1.2 | exact(hB (by omega)).2.1.1 | exact(hB (by omega)).2.1.2)),.p (show((flat eS (fI (cF nr) a0 a1 a2 a3)).length=(fI (cF nr) a0 a1 a2 a3).length*3/\(flat eS (eU (cF nr) a0 a1 a2 a3)).length=(eU (cF nr) a0 a1 a2 a3).length*3/\(flat eS (eU (cF nr) a0 a1 a2 a3)).all SV.one=true/\(fI (cF nr) a0 a1 a2 a3).length+(eU (cF nr) a0 a1 a2 a3).length<=2 ^ 40/\((fI (cF nr) a0 a1 a2 a3).length+(eU (cF nr) a0 a1 a2 a3).length)*24<=2 ^ 47) from by refine⟨?_,?_,?_,?_,?_⟩<;>first | omega | exact iJ (fun _=>rfl) | (simp [bW eB];done) | (simp [bW eB];omega))]) [] [7] hcx (by kernel_rfl)
    | false =>
     have q3:=cY h3
     have e:=Eq.refl (eW (cF nr) a0 a1 a2 a3 ());conv at e=>rhs;simp only [eW,h0,h1,h2,h3,aW]
     rw [e]
     rw [show flat eS ((dR (cF nr) a0 a1 a2 a3)++(dJ (cF nr) a0 a1 a2 a3))=((flat eS (dR (cF nr) a0 a1 a2 a3))++(flat eS (dJ (cF nr) a0 a1 a2 a3))) from Eq.symm (by simp [flat])]
     rw [show((dR (cF nr) a0 a1 a2 a3)++(dJ (cF nr) a0 a1 a2 a3)).length=((dR (cF nr) a0 a1 a2 a3).length+(dJ (cF nr) a0 a1 a2 a3).length) from by simp]
     exact rt (t3++[.d h3,.c [0,1] (ihr (a0.1,a0.2) a1 (a0.2.getD (tN a2) dF).2.2.1 a3 (by omega) (by omega) (by first | exact(hA (by omega)).1.1 | exact(hA (by omega)).1.2 | exact(hB (by omega)).1.1 | exact(hB (by omega)).1.2) (by first | exact(hA (by omega)).2.1.1 | exact(hA (by omega)).2.1.2 | exact(hB (by omega)).2.1.1 | exact(hB (by omega)).2.1.2)),.c [0,1] (ihr (a0.1,a0.2) a1 (a0.2.getD (tN a2) dF).2.2.2.1 a3 (by omega) (by omega) (by first | exact(hA (by omega)).1.1 | exact(hA (by omega)).1.2 | exact(hB (by omega)).1.1 | exact(hB (by omega)).1.2) (by first | exact(hA (by omega)).2.1.1 | exact(hA (by omega)).2.1.2 | exact(hB (by omega)).2.1.1 | exact(hB (by omega)).2.1.2)),.p (show((flat eS (dR (cF nr) a0 a1 a2 a3)).length=(dR (cF nr) a0 a1 a2 a3).length*3/\(flat eS (dJ (cF nr) a0 a1 a2 a3)).length=(dJ (cF nr) a0 a1 a2 a3).length*3/\(flat eS (dJ (cF nr) a0 a1 a2 a3)).all SV.one=true/\(dR (cF nr) a0 a1 a2 a3).length+(dJ (cF nr) a0 a1 a2 a3).length<=2 ^ 40/\((dR (cF nr) a0 a1 a2 a3).length+(dJ (cF nr) a0 a1 a2 a3).length)*24<=2 ^ 47) from by refine⟨?_,?_,?_,?_,?_⟩<;>first | omega | exact iJ (fun _=>rfl) | (simp [bW eB];done) | (simp [bW eB];omega))]) [] [7] hcx (by kernel_rfl)
   | false =>
    have q2:=cY h2
    have e:=Eq.refl (eW (cF nr) a0 a1 a2 a3 ());conv at e=>rhs;simp only [eW,h0,h1,h2,aW]
    rw [e]
    rw [show flat eS ((dR (cF nr) a0 a1 a2 a3)++(dJ (cF nr) a0 a1 a2 a3))=((flat eS (dR (cF nr) a0 a1 a2 a3))++(flat eS (dJ (cF nr) a0 a1 a2 a3))) from Eq.symm (by simp [flat])]
    rw [show((dR (cF nr) a0 a1 a2 a3)++(dJ (cF nr) a0 a1 a2 a3)).length=((dR (cF nr) a0 a1 a2 a3).length+(dJ (cF nr) a0 a1 a2 a3).length) from by simp]
    exact rt (t2++[.d h2,.c [0,1] (ihr (a0.1,a0.2) a1 (a0.2.getD (tN a2) dF).2.2.1 a3 (by omega) (by omega) (by first | exact(hA (by omega)).1.1 | exact(hA (by omega)).1.2 | exact(hB (by omega)).1.1 | exact(hB (by omega)).1.2) (by first | exact(hA (by omega)).2.1.1 | exact(hA (by omega)).2.1.2 | exact(hB (by omega)).2.1.1 | exact(hB (by omega)).2.1.2)),.c [0,1] (ihr (a0.1,a0.2) a1 (a0.2.getD (tN a2) dF).2.2.2.1 a3 (by omega) (by omega) (by first | exact(hA (by omega)).1.1 | exact(hA (by omega)).1.2 | exact(hB (by omega)).1.1 | exact(hB (by omega)).1.2) (by first | exact(hA (by omega)).2.1.1 | exact(hA (by omega)).2.1.2 | exact(hB (by omega)).2.1.1 | exact(hB (by omega)).2.1.2)),.p (show((flat eS (dR (cF nr) a0 a1 a2 a3)).length=(dR (cF nr) a0 a1 a2 a3).length*3/\(flat eS (dJ (cF nr) a0 a1 a2 a3)).length=(dJ (cF nr) a0 a1 a2 a3).length*3/\(flat eS (dJ (cF nr) a0 a1 a2 a3)).all SV.one=true/\(dR (cF nr) a0 a1 a2 a3).length+(dJ (cF nr) a0 a1 a2 a3).length<=2 ^ 40/\((dR (cF nr) a0 a1 a2 a3).length+(dJ (cF nr) a0 a1 a2 a3).length)*24<=2 ^ 47) from by refine⟨?_,?_,?_,?_,?_⟩<;>first | omega | exact iJ (fun _=>rfl) | (simp [bW eB];done) | (simp [bW eB];omega))]) [] [7] hcx (by kernel_rfl)
theorem aWu:∀(nr:Nat) (a0:List Int×bE) (a1:Int) (a2:Int) (a3:Int) (l0_1:a0.1.length<=2^63-1) (l0_2:a0.2.length<=2^63-1) (hp:PVB a1 a2 a0 []),((a0.2.length - tN a1)+(a0.2.length - tN a2)) < nr->Con Tryz.prog 63 [(.a [(.s 0 0 a0.1.length 1),(.s 1 0 a0.2.length 8)]),(iv a1),(iv a2),(iv a3)] [(.live false true (flat c3 a0.1)),(.live false true (flat bZ a0.2))] (.s 2 0 (cF nr a0 a1 a2 a3).length 3) [(.live true true (flat eS (cF nr a0 a1 a2 a3)))]:=by
 intro nr
 induction nr with
 | zero=>intro a0 a1 a2 a3 l0_1 l0_2 hp hlt;exact absurd hlt (eL _)
 | succ nr ihr =>
 intro a0 a1 a2 a3 l0_1 l0_2 hp hlt
 refine bA Tryz.func63 (by kernel_rfl) fun cx hcx=>?_
 have hpb:=uI hp
 have hp1:=hp.e0
 have hp2:=hp.e1
 have hp3:=hp.e2
 let t0:List (St Tryz.prog):=[.i a1 (a0.2.length),.L bU a0.2 a1 0 8,.i a2 (a0.2.length),.L bU a0.2 a2 0 8,.c [] (C82 (a0.2.getD (tN a1) dF) (a0.2.getD (tN a2) dF))]
 cases h0:(decide (((W ((W ((W ((W ((a0.2.getD (tN a1) dF).2.2.2.2.2+(a0.2.getD (tN a2) dF).2.2.2.2.2))*4))*a3))*a3)):Int)<=(yK a0 a1 a2 a3))) with
 | true =>
  have q0:=cN h0
  let t1:List (St Tryz.prog):=(t0++[.d h0])
  cases h1:(decide (((yK a0 a1 a2 a3):Int) > 0)) with
  | true =>
   have q1:=cN h1
   have e:=Eq.refl (cF (nr+1) a0 a1 a2 a3);conv at e=>rhs;simp only [cF,h0,h1,aW]
   rw [e]
   exact rt (t1++[.d h1]) [.sym 5 true] [5] hcx (by kernel_rfl)
  | false =>
   have q1:=cY h1
   have e:=Eq.refl (cF (nr+1) a0 a1 a2 a3);conv at e=>rhs;simp only [cF,h0,h1,aW]
   rw [e]
   refine ga (t1++[.d h1,.z 5]) [] [1,2,3,4,9,10] [2,3,4] hcx aJg (aJh) (aFa nr a0 a1 a2 a3) (by kernel_rfl) ?_
   exact aPb nr a0 a1 a2 a3 l0_1 l0_2 hp hlt ihr hcx trivial
 | false =>
  have q0:=cY h0
  have e:=Eq.refl (cF (nr+1) a0 a1 a2 a3);conv at e=>rhs;simp only [cF,h0,aW]
  rw [e]
  refine ga (t0++[.d h0,.z 5]) [] [1,2,3,4,9,10] [2,3,4] hcx aJg (aJh) (aFa nr a0 a1 a2 a3) (by kernel_rfl) ?_
  exact aPb nr a0 a1 a2 a3 l0_1 l0_2 hp hlt ihr hcx trivial
theorem C63 (a0:List Int×bE)(a1:Int)(a2:Int)(a3:Int)(l0_1:a0.1.length<=2^63-1)(l0_2:a0.2.length<=2^63-1)(hp:PVB a1 a2 a0 []):Con Tryz.prog 63 [(.a [(.s 0 0 a0.1.length 1),(.s 1 0 a0.2.length 8)]),(iv a1),(iv a2),(iv a3)] [(.live false true (flat c3 a0.1)),(.live false true (flat bZ a0.2))] (.s 2 0 (F63 a0 a1 a2 a3).length 3) [(.live true true (flat eS (F63 a0 a1 a2 a3)))]:=aWu (((a0.2.length - tN a1)+(a0.2.length - tN a2))+1) a0 a1 a2 a3 l0_1 l0_2 hp (lss _)
def aPc (t:TR)(sep:Int)(i k:Int):Prop :=
 W (W (W (W ((t.2.getD (tN i) dF).2.2.2.2.2+(t.2.getD (tN k) dF).2.2.2.2.2)*4)*sep)*sep)<=F52 (F53 (t.2.getD (tN i) dF).2.2.2.2.1 (t.2.getD (tN k) dF).2.2.2.2.1) /\
  F52 (F53 (t.2.getD (tN i) dF).2.2.2.2.1 (t.2.getD (tN k) dF).2.2.2.2.1) > 0
def aPd (t:TR)(i k:Int):Prop :=
 (t.2.getD (tN k) dF).2.2.1 < 0\/((t.2.getD (tN i) dF).2.2.1≥0/\W ((t.2.getD (tN i) dF).2.1 - (t.2.getD (tN i) dF).1)≥W ((t.2.getD (tN k) dF).2.1 - (t.2.getD (tN k) dF).1))
section
variable {t : TR} {sep i k : Int} {out : List BLK} {n : Nat}
theorem aT0:iL (iV n) i k t sep out ()=(open Classical in if aPd t i k then aG8 (iV n) i k t sep out else aG9 (iV n) i k t sep out):=by
 simp only [iL]
 unfold aPd
 by_cases h1:(t.2.getD (tN k) dF).2.2.1 < 0
 ·rw [cI h1,cond_true,if_pos (.inl h1)]
 ·rw [dA h1,cond_false]
  by_cases h2:(t.2.getD (tN i) dF).2.2.1≥0
  ·rw [cI h2,cond_true]
   by_cases h3:W ((t.2.getD (tN i) dF).2.1 - (t.2.getD (tN i) dF).1)≥W ((t.2.getD (tN k) dF).2.1 - (t.2.getD (tN k) dF).1)
   ·rw [cI h3,cond_true,if_pos (.inr ⟨h2,h3⟩)]
   ·rw [dA h3,cond_false,if_neg (fun h=>h.elim h1 (fun h=>h3 h.2))]
  ·rw [dA h2,cond_false,if_neg (fun h=>h.elim h1 (fun h=>h2 h.1))]
end
section
variable {t : TR} {sep i k : Int} {out : List BLK} {n : Nat}
theorem aRm (h:aPc t sep i k):iV (n+1) i k t sep out=out++[(i,k,true)]:=by
 simp only [iV]
 rw [cI (show F52 (tB i k t sep out) > 0 from h.2),cond_true,cI (show W (W (W (W ((t.2.getD (tN i) dF).2.2.2.2.2+(t.2.getD (tN k) dF).2.2.2.2.2)*4)*sep)*sep)<=F52 (tB i k t sep out) from h.1)]
 rfl
theorem aRn (h:¬aPc t sep i k):iV (n+1) i k t sep out=iM (iV n) i k t sep out false:=by
 simp only [iV]
 by_cases h2:F52 (tB i k t sep out) > 0
 ·rw [cI h2,cond_true,dA (show ¬W (W (W (W ((t.2.getD (tN i) dF).2.2.2.2.2+(t.2.getD (tN k) dF).2.2.2.2.2)*4)*sep)*sep)<=F52 (tB i k t sep out) from fun h1=>h ⟨h1,h2⟩)]
 ·rw [dA h2,cond_false]
theorem aT1:iM (iV n) i k t sep out false=if(t.2.getD (tN i) dF).2.2.1 < 0/\(t.2.getD (tN k) dF).2.2.1 < 0 then out++[(i,k,false)] else iL (iV n) i k t sep out ():=by
 simp only [iM,cond_false,oP]
 by_cases zi:(t.2.getD (tN i) dF).2.2.1 < 0<;>by_cases zk:(t.2.getD (tN k) dF).2.2.1 < 0
 ·rw [cI zi,cI zk,if_pos ⟨zi,zk⟩];rfl
 ·rw [cI zi,dA zk,if_neg (fun h=>zk h.2)];rfl
 ·rw [dA zi,if_neg (fun h=>zi h.1)];rfl
 ·rw [dA zi,if_neg (fun h=>zi h.1)];rfl
theorem aRo (h:aPc t sep i k):cF (n+1) t i k sep=[(i,k,true)]:=by
 simp only [cF]
 rw [cI (show W (W (W (W ((t.2.getD (tN i) dF).2.2.2.2.2+(t.2.getD (tN k) dF).2.2.2.2.2)*4)*sep)*sep)<=yK t i k sep from h.1),cond_true,cI (show yK t i k sep > 0 from h.2)]
 rfl
theorem aRp (h:¬aPc t sep i k):cF (n+1) t i k sep=eW (cF n) t i k sep ():=by
 simp only [cF]
 by_cases h1:W (W (W (W ((t.2.getD (tN i) dF).2.2.2.2.2+(t.2.getD (tN k) dF).2.2.2.2.2)*4)*sep)*sep)<=yK t i k sep
 ·rw [cI h1,cond_true,dA (show ¬yK t i k sep > 0 from fun h2=>h ⟨h1,h2⟩),cond_false]
 ·rw [dA h1,cond_false]
theorem aT2:eW (cF n) t i k sep ()=(open Classical in if(t.2.getD (tN i) dF).2.2.1 < 0/\(t.2.getD (tN k) dF).2.2.1 < 0 then [(i,k,false)] else if aPd t i k then fI (cF n) t i k sep++eU (cF n) t i k sep else dR (cF n) t i k sep++dJ (cF n) t i k sep):=by
 simp only [eW]
 unfold aPd
 by_cases zi:(t.2.getD (tN i) dF).2.2.1 < 0<;>by_cases zk:(t.2.getD (tN k) dF).2.2.1 < 0
 ·rw [cI zi,cI zk,if_pos ⟨zi,zk⟩];rfl
 ·rw [cI zi,dA zk,cond_true,cond_false,dA (show ¬(t.2.getD (tN i) dF).2.2.1≥0 by omega),cond_false,if_neg (fun h=>zk h.2),if_neg (fun h=>h.elim zk (fun h=>absurd h.1 (by omega)))]
 ·rw [dA zi,cI zk,cond_false,cond_true,if_neg (fun h=>zi h.1),if_pos (.inl zk)]
 ·rw [dA zi,dA zk,cond_false,cond_false,cI (show(t.2.getD (tN i) dF).2.2.1≥0 by omega),cond_true,if_neg (fun h=>zi h.1)]
  by_cases h3:W ((t.2.getD (tN i) dF).2.1 - (t.2.getD (tN i) dF).1)≥W ((t.2.getD (tN k) dF).2.1 - (t.2.getD (tN k) dF).1)
  ·rw [cI h3,cond_true,if_pos (.inr ⟨by omega,h3⟩)]
  ·rw [dA h3,cond_false,if_neg (fun h=>h.elim zk (fun h=>h3 h.2))]
end
theorem vQ:∀(n:Nat) (i k:Int) (t:TR) (sep:Int) (out:List BLK) (m:Nat) (f u h:Int) (m':Nat) (f' u' h':Int),TRE t.2 (tN i) m f u h->TRE t.2 (tN k) m' f' u' h'->0<=i->0<=k->(t.2.length - tN i)+(t.2.length - tN k) < n ->
 iV n i k t sep out=out++cF n t i k sep
 | 0,_,_,_,_,_,_,_,_,_,_,_,_,_,_,_,_,_,h=>absurd h (eL _)
 | n+1,i,k,t,sep,out,m,f,u,h,m',f',u',h',H,K,hi,hk,hn=>by
  have hb:=cG H
  have kb:=cG K
  by_cases hf:aPc t sep i k
  ·rw [aRm hf,aRo hf]
  ·rw [aRn hf,aRp hf,aT1,aT2,aT0]
   by_cases z:(t.2.getD (tN i) dF).2.2.1 < 0/\(t.2.getD (tN k) dF).2.2.1 < 0
   ·rw [if_pos z,if_pos z]
   ·rw [if_neg z,if_neg z]
    by_cases hs:aPd t i k
    ·rw [if_pos hs,if_pos hs]
     have hq:¬(t.2.getD (tN i) dF).2.2.1 < 0:=fun h0=>hs.elim (fun h1=>z ⟨h0,h1⟩) (fun h1=>absurd h1.1 (by omega))
     rcases iB H with⟨_,_,h5,_⟩ | ⟨m1,m2,c,h1,h2,e8,g4,g5,b1,b2,e9⟩
     ·omega
     ·have l1:=cG b1
      have l2:=cG b2
      have t1:TRE t.2 (tN (t.2.getD (tN i) dF).2.2.1) m1 f c h1:=by rw [g4,fT];exact b1
      have t2:TRE t.2 (tN (t.2.getD (tN i) dF).2.2.2.1) m2 c u h2:=by rw [g5,fT];exact b2
      have c1:tC (iV n) i k t sep out=out++fI (cF n) t i k sep:=vQ n (t.2.getD (tN i) dF).2.2.1 k t sep out m1 f c h1 m' f' u' h' t1 K (by omega) hk (by omega)
      have c2:aG8 (iV n) i k t sep out=tC (iV n) i k t sep out++eU (cF n) t i k sep:=vQ n (t.2.getD (tN i) dF).2.2.2.1 k t sep _ m2 c u h2 m' f' u' h' t2 K (by omega) hk (by omega)
      rw [c2,c1,List.append_assoc]
    ·rw [if_neg hs,if_neg hs]
     have hq:¬(t.2.getD (tN k) dF).2.2.1 < 0:=fun h0=>hs (.inl h0)
     rcases iB K with⟨_,_,h5,_⟩ | ⟨m1,m2,c,h1,h2,e8,g4,g5,b1,b2,e9⟩
     ·omega
     ·have l1:=cG b1
      have l2:=cG b2
      have t1:TRE t.2 (tN (t.2.getD (tN k) dF).2.2.1) m1 f' c h1:=by rw [g4,fT];exact b1
      have t2:TRE t.2 (tN (t.2.getD (tN k) dF).2.2.2.1) m2 c u' h2:=by rw [g5,fT];exact b2
      have c1:tD (iV n) i k t sep out=out++dR (cF n) t i k sep:=vQ n i (t.2.getD (tN k) dF).2.2.1 t sep out m f u h m1 f' c h1 H t1 hi (by omega) (by omega)
      have c2:aG9 (iV n) i k t sep out=tD (iV n) i k t sep out++dJ (cF n) t i k sep:=vQ n i (t.2.getD (tN k) dF).2.2.2.1 t sep _ m f u h m2 c u' h2 H t2 hi (by omega) (by omega)
      rw [c2,c1,List.append_assoc]
end Go.Proofs.YtkdfcbmcgnaicaaGreat
namespace Go.Proofs.YtkdfcbmcgnaicaaGreat
open Go.Proofs Go.Aw Go.RowKit
set_option maxRecDepth 100000
theorem aLj {l:gU} {t:TR} (h:gM l t=0)(h0:0 < t.2.length):PVB 0 0 t []:=by
 obtain⟨hv,leaf,h1,_,rfl⟩:=uH h
 have hl:=hv.1
 have hb:=xB l hv.1 h1
 rcases aE5 l h1 with⟨_,e⟩ | ⟨hh,H⟩
 ·rw [e] at h0;exact absurd h0 (Nat.lt_irrefl _)
 ·have hw:=cG H
  have hm:((l.length:Int) - 0)*((l.length:Int) - 0)<=96*96:=Int.mul_le_mul (by omega) (by omega) (by omega) (by omega)
  exact⟨Int.le_refl _,Int.le_refl _,by omega,_,_,_,_,_,_,_,_,H,H,by simp only [List.length_nil];omega⟩
def F42 (a0:List Int×bE)(a1:Int):List (Int×Int×Bool) :=
 (bif (((a0.2.length:Int):Int) == 0) then
  ([]:List (Int×Int×Bool))
 else
  (F63 (a0.1,a0.2) 0 0 a1))
theorem C42 (a0:List Int×bE)(a1:Int)(l0_1:a0.1.length<=2^63-1)(l0_2:a0.2.length<=2^63-1)(hp:0 < a0.2.length->PVB 0 0 a0 []):Con Tryz.prog 42 [(.a [(.s 0 0 a0.1.length 1),(.s 1 0 a0.2.length 8)]),(iv a1)] [(.live false true (flat c3 a0.1)),(.live false true (flat bZ a0.2))] (.s 2 0 (F42 a0 a1).length 3) [(.live true true (flat eS (F42 a0 a1)))]:=by
 refine bA Tryz.func42 (by kernel_rfl) fun cx hcx=>?_
 cases h0:(((a0.2.length:Int):Int) == 0) with
 | true =>
  have q0:=eq_of_beq h0
  have e:=Eq.refl (F42 a0 a1);conv at e=>rhs;simp only [F42,h0,aW]
  rw [e]
  exact rt [.d h0] [.slot 4 3] [3] hcx (by kernel_rfl)
 | false =>
  have q0:=ne_of_beq_false h0
  have e:=Eq.refl (F42 a0 a1);conv at e=>rhs;simp only [F42,h0,aW]
  rw [e]
  exact rt [.d h0,.c [0,1] (C63 (a0.1,a0.2) 0 0 a1 (by omega) (by omega) (hp (by omega)))] [] [3] hcx (by kernel_rfl)
theorem aFb {l:gU} {t:TR} (sep:Int)(h:gM l t=0):F33 t sep=F42 t sep:=by
 obtain⟨hv,leaf,h1,_,rfl⟩:=uH h
 rcases aE5 l h1 with⟨_,e⟩ | ⟨hh,H⟩
 ·rw [e];rfl
 ·have hw:=cG H
  unfold F33 F42
  rw [cI (show(((BT l leaf).2.length:Nat):Int) > 0 by omega),cond_true,show((((BT l leaf).2.length:Nat):Int) == 0)=false by rw [beq_eq_false_iff_ne];omega,cond_false]
  simp only [xG,F51,F63]
  exact vQ _ 0 0 (BT l leaf) sep [] _ _ _ _ _ _ _ _ H H (Int.le_refl _) (Int.le_refl _) (lss _)
theorem aPe {l:gU} {t:TR} (h:gM l t=0):t.1.length=l.length/\l.length<=96/\t.2.length<=192/\aTy t:=by
 obtain⟨hv,leaf,h1,_,rfl⟩:=uH h
 have hb:=xB l hv.1 h1
 exact⟨hb.1,hv.1,hb.2,aRj l hv.1 h1⟩
theorem aRq {l:gU} {t:TR} (h:gM l t=0):∀j:Int,0<=j/\j < l.length->0<=t.1.getD (tN j) dF/\t.1.getD (tN j) dF < l.length:=by
 obtain⟨hv,leaf,h1,_,rfl⟩:=uH h
 intro j hj
 have hb:=xB l hv.1 h1
 have hj2:tN j < (BT l leaf).1.length:=by omega
 have:=aBk l.length _ ((aRk l h1).mem_iff.1 (List.getElem_mem hj2))
 rw [fP,List.getElem?_eq_getElem hj2]
 exact this
theorem aCw {l:gU} {t:TR} (h:gM l (t.1,t.2)=0):t.1.length=l.length/\l.length<=96/\t.2.length<=192/\aTy t:=aPe (t:=t) h
theorem aPf {l:gU} {t:TR} (h:gM l (t.1,t.2)=0):∀j:Int,0<=j/\j < l.length->0<=t.1.getD (tN j) dF/\t.1.getD (tN j) dF < l.length:=aRq (t:=t) h
def rg (f u:Int):List Int:=(List.range (tN (u - f))).map (fun j:Nat=>f+(j:Int))
theorem aT3 {f u:Int} (h:u<=f):rg f u=[]:=by unfold rg;rw [show tN (u - f)=0 by omega];rfl
theorem aLk {f u:Int} (h:f < u):rg f u=f::rg (f+1) u:=by
 unfold rg
 rw [show tN (u - f)=tN (u - (f+1))+1 by omega,List.range_succ_eq_map,List.map_cons,List.map_map]
 refine List.cons_eq_cons.2 ⟨by omega,List.map_congr_left fun j _=>?_⟩
 show f+((j+1:Nat):Int)=f+1+(j:Int)
 omega
def row (n i f u:Int):List Int:=(rg f u).map (fun k=>i*n+k)
def aJi (n:Int)(N:List NDE)(x:BLK):List Int:=(rg (N.getD (tN x.1) dF).1 (N.getD (tN x.1) dF).2.1).flatMap fun i=>row n i (N.getD (tN x.2.1) dF).1 (N.getD (tN x.2.1) dF).2.1
theorem aBo {α β:Type} {f g:α->List β}:∀(l:List α),(∀x∈l,f x=g x)->l.flatMap f=l.flatMap g
 | [],_=>rfl
 | x::l,h=>by rw [List.flatMap_cons,List.flatMap_cons,h x List.mem_cons_self,aBo l (fun y hy=>h y (List.mem_cons_of_mem _ hy))]
end Go.Proofs.YtkdfcbmcgnaicaaGreat
namespace Go.Aw
open Go.RowKit
section
variable {P : Program} {T : Nat → Option TI} {cx : Cx} {N : Nat} {D : List Deferred} {ρ : Env} {s : FS} {a : Act} {W : World} {r : Option Nat} {n : Nat} {Q : Exit → Act → World → Prop}
theorem Rep.back (h:Rep cx N D ρ s a W) {base:Nat} (hbase:cx.base<=base) {N':Nat} {D':List Deferred} {ρ':Env} {s':FS} {a':Act} {W':World}
 (hr:Rep (Cx.only base W ρ (lU ρ s)) N' D' ρ' s' a' W') (hro:∀k sym cells,s'.bk k=.live false sym cells->s.bk k=.live false sym cells/\k < base):Rep cx N' D' ρ' s' a' W':=by
 have hρ:∀i,i < base->ρ' i=ρ i:=fun i hi=>(hr.old i hi).1
 have hSm:∀b,lU ρ s b->cx.mine b:=fun b hb=>(h.owns hb).2
 have hle:ρ.le ρ':=hr.fzo
 refine { defs:=hr.defs,size:=hr.size,sl:=hr.sl,bk:=fun k=>?_,apart:=hr.apart,wf1:=hr.wf1,wf2:=hr.wf2,
          kept:=h.kept.trans hr.kept (fun b hb hlt=>?_),pl:=hr.pl,old:=fun i hi=>⟨(hρ i (Nat.lt_of_lt_of_le hi hbase)).trans (h.old i hi).1,(hr.old i (Nat.lt_of_lt_of_le hi hbase)).2⟩,fzn:=fun b o ho=>⟨(hr.fzn b o ho).1,(hr.fzn b o ho).2.1,?_⟩,fzo:=fun b o ho=>hle b o (h.fzo b o ho) }
 ·have hb:=hr.bk k
  cases hx:s'.bk k with
  | un=>trivial
  | dead=>trivial
  | live own sym cells =>
   rw [hx] at hb
   cases own with
   | true =>
    rcases hb with hb | ⟨b,vs,rest,ty,h1,h2,h3,h4⟩
    ·exact .inl hb
    ·refine .inr ⟨b,vs,rest,ty,h1,?_,h3,h4⟩
     rcases h2 with h2 | h2
     ·exact .inl (Nat.le_trans h.kept.size h2)
     ·exact hSm b h2
   | false =>
    rcases hb with hb | ⟨b,o,n,vs,h1,h2,h3,h4⟩
    ·exact .inl hb
    ·refine .inr ⟨b,o,n,vs,h1,⟨h2.1,fun hne hM=>?_⟩,h3,h4⟩
     obtain⟨e1,e2⟩:=hro k sym cells hx
     have h0:=h.bk k
     rw [e1] at h0
     rcases h0 with⟨q1,q2⟩ | ⟨b0,o0,n0,vs0,q1,q2,q3,q4⟩
     ·rw [hρ k e2,q1] at h1;cases h1
     ·rw [hρ k e2,q1] at h1;cases h1
      have hl:vs0.length=vs.length:=by rw [←q3.length,h3.length]
      obtain⟨ob,hob⟩:=q2.2 (fun e=>hne (by subst e;exact List.eq_nil_of_length_eq_zero hl.symm)) hM
      exact⟨ob,hle _ _ hob⟩
  | map es =>
   rw [hx] at hb
   obtain⟨b,n,arr,q1,h2,q3,q4⟩:=hb
   refine⟨b,n,arr,q1,?_,q3,q4⟩
   rcases h2 with h2 | h2
   ·exact .inl (Nat.le_trans h.kept.size h2)
   ·exact hSm b h2
 ·rcases hSm b hb with h' | h'
  ·exact absurd h' (Nat.not_le_of_lt hlt)
  ·exact h'
 ·rcases (hr.fzn b o ho).2.2 with g | g | g
  ·exact(h.fzn b o g).2.2
  ·exact .inr (.inl (Nat.le_trans h.kept.size g))
  ·exact .inr (hSm b g)
abbrev iF:=Nat×Nat×List SV
def lX (nn:Nat)(r:iF):Value:=.slice (some ⟨r.1,0,none⟩) nn r.2.1
structure RowOK (cx:Cx) (ρ:Env) (s:FS) (W:World) (nn es:Nat) (r:iF):Prop where
 pl:Plain r.2.2
 len:r.2.2.length=nn*es
 cap:nn<=r.2.1
 mine:cx.mine r.1
 own:¬lU ρ s r.1
 fz:ρ.fz r.1=none
 at':∃(vs rest:List Value) (ty:TypeId),Rels ρ r.2.2 vs/\W.heap[r.1]? = some (.cells (vs++rest).toArray ty (0,0))/\r.2.1*es<=(vs++rest).length
structure TabOK (cx:Cx) (ρ:Env) (s:FS) (W:World) (nn es:Nat) (rows:List (Option iF)):Prop where
 row:∀(i:Nat) (r:iF),rows[i]? = some (some r)->RowOK cx ρ s W nn es r
 ne:∀(i j:Nat) (r q:iF),i≠j->rows[i]? = some (some r)->rows[j]? = some (some q)->r.1≠q.1
theorem RowOK.lt {nn es:Nat} {x:iF} (h:RowOK cx ρ s W nn es x):x.1 < W.heap.size:=by
 obtain⟨vs,rest,ty,_,h,_⟩:=h.at'
 exact iG h
theorem RowOK.back {nn es:Nat} {x:iF} (h:RowOK cx ρ s W nn es x) {base:Nat} {N':Nat} {D':List Deferred} {ρ':Env} {s':FS} {a':Act} {W':World}
 (hr:Rep (Cx.only base W ρ (lU ρ s)) N' D' ρ' s' a' W'):RowOK cx ρ' s' W' nn es x:=by
 have hlt:=h.lt
 refine⟨h.pl,h.len,h.cap,h.mine,fun ho=>?_,?_,?_⟩
 ·rcases (hr.owns ho).2 with g | g
  ·exact absurd g (Nat.not_le_of_lt hlt)
  ·exact h.own g
 ·cases hf:ρ'.fz x.1 with
  | none=>rfl
  | some o =>
   rcases (hr.fzn x.1 o hf).2.2 with g | g | g
   ·change ρ.fz x.1=some o at g;rw [h.fz] at g;cases g
   ·exact absurd g (Nat.not_le_of_lt hlt)
   ·exact absurd g h.own
 ·obtain⟨vs,rest,ty,h1,h2,h3⟩:=h.at'
  exact⟨vs,rest,ty,Plain.congr hr.fzo h.pl h1,(hr.kept.block x.1 hlt h.own).trans h2,h3⟩
theorem TabOK.back {nn es:Nat} {rows:List (Option iF)} (ht:TabOK cx ρ s W nn es rows) {base:Nat} {N':Nat} {D':List Deferred} {ρ':Env} {s':FS} {a':Act} {W':World}
 (hr:Rep (Cx.only base W ρ (lU ρ s)) N' D' ρ' s' a' W'):TabOK cx ρ' s' W' nn es rows:=⟨fun i r hi=>(ht.row i r hi).back hr,ht.ne⟩
def GoodT (P:Program)(r:Option Nat)(n:Nat)(Q:Exit->Act->World->Prop)(cx:Cx)(D:List Deferred)(nn es:Nat)(rows:List (Option iF))(k:List K)(s:LS):Prop :=
 ∀(ρ:Env) (a:Act) (W:World),Rep cx s.sl.length D ρ s.fs a W->TabOK cx ρ s.fs W nn es rows->iI r n P Q k .normal a W
def BK.ro:BK->Option (Bool×List SV)
 | .live false sy c=>some (sy,c)
 | _=>none
def roE (b:Nat)(l m:List BK):Prop:=(l.take b).map BK.ro=(m.take b).map BK.ro/\((l.drop b).all fun x=>x.ro.isNone)=true
theorem aRr {l m:List BK} {b:Nat} (h:roE b l m) {k:Nat} {sy:Bool} {c:List SV} (hk:l[k]? = some (.live false sy c)):m[k]? = some (.live false sy c)/\k < b:=by
 rcases Nat.lt_or_ge k b with hlt | hge
 ·have h1:((l.take b).map BK.ro)[k]? = some (some (sy,c)):=by
   rw [List.getElem?_map,List.getElem?_take,if_pos hlt,hk];rfl
  rw [h.1,List.getElem?_map,List.getElem?_take,if_pos hlt] at h1
  cases hm:m[k]? with
  | none=>rw [hm] at h1;cases h1
  | some y =>
   rw [hm] at h1
   simp only [Option.map_some,bG] at h1
   cases y with
   | live o s2 c2=>cases o with
    | true=>simp [BK.ro] at h1
    | false=>simp only [BK.ro,bG,eV] at h1;obtain⟨rfl,rfl⟩:=h1;exact⟨rfl,hlt⟩
   | un=>simp [BK.ro] at h1
   | dead=>simp [BK.ro] at h1
   | map es=>simp [BK.ro] at h1
 ·have h2:BK.live false sy c∈l.drop b:=List.mem_of_getElem? (i:=k - b) (by rw [List.getElem?_drop,show b+(k - b)=k by omega];exact hk)
  have:=List.all_eq_true.1 h.2 _ h2
  simp [BK.ro] at this
theorem aBp {s s':LS} {b:Nat} (h:roE b s'.bk s.bk):∀k sym cells,s'.fs.bk k=.live false sym cells->s.fs.bk k=.live false sym cells/\k < b:=fun k sy c hk=>by
 have:=aRr h (aTc hk)
 exact⟨aKg this.1,this.2⟩
theorem Rep.sub' (h:Rep cx N D ρ s a W) {base:Nat} (hb:∀i,i < base->s.bk i≠.un):Rep (Cx.only base W ρ (lU ρ s)) N D ρ s a W :=
 h.only (B:=0) (Turn.of_below ⟨rfl,rfl,rfl,Nat.le_refl _,fun _ _=>rfl⟩ (Nat.le_refl _)) base hb
theorem GoodT.frame {nn es:Nat} {rows:List (Option iF)} {k k':List K} {s s':LS} (hstep:∀cx1:Cx,cx1.base=cx.base->Good P r n Q cx1 D k' s'->Good P r n Q cx1 D k s)
 (hro:roE cx.base s'.bk s.bk) (h:GoodT P r n Q cx D nn es rows k' s'):GoodT P r n Q cx D nn es rows k s:=by
 intro ρ a W hrep htab
 refine hstep (Cx.only cx.base W ρ (lU ρ s.fs)) rfl (fun ρ' a' W' hr=>?_) ρ a W (hrep.sub' (fun i hi=>(hrep.old i hi).2))
 exact h ρ' a' W' (hrep.back (Nat.le_refl _) hr (aBp hro)) (htab.back hr)
theorem GoodT.round {nn es:Nat} {rows:List (Option iF)} {body:Code} {m:Nat} {k:List K} {s:LS} (h:GoodT P r n Q cx D nn es rows (.c body::.l body m::k) s):GoodT P r n Q cx D nn es rows (.l body (m+1)::k) s:=by
 intro ρ a W hrep ht
 have:=h ρ a W hrep ht
 simp only [iI] at this ⊢
 rw [roundsIn_succ]
 refine wpIn_mono this (fun e a w hq=>?_)
 cases e<;>simpa [iI,Exit.then] using hq
theorem aHa {ops:Array Oper} {m:Nat} (hlow:∀i o,ops[i]? = some o->∀e∈o.after,Region.binds .any e=true->e.on < i)
 (hsuf:∀(D:Nat->Bool) i o,m<=i->ops[i]? = some o->(∀j o,ops[j]? = some o->D j=true->∀e∈o.after,Region.binds .any e=true->D e.on=true)->(∀e∈o.after,Region.binds .any e=true->D e.on=true)->∀k,k < i->D k=true) :
 ∀(fuel i:Nat) (listed:Array Bool),listed.size=ops.size->m<=i->i<=ops.size->ops.size - i<=fuel->(∀j,listed.getD j false=decide (j < i))->∀a W,wpOpsIn (Fw r) n P ops Q (List.range' i (ops.size - i)) a W->wpAnyIn (Fw r) n P .any ops Q fuel listed a W:=by
 have hun:∀(listed:Array Bool) (x:Nat),x < listed.size->(listed.getD x true=false↔listed.getD x false=false):=fun listed x hx=>by
  simp only [Array.getD_eq_getD_getElem?,Array.getElem?_eq_getElem hx,Option.getD_some]
 have hsz:∀(i:Nat) (listed:Array Bool),listed.size=ops.size->m<=i->(∀j,listed.getD j false=decide (j < i))->∀x∈Region.ready .any ops listed,x=i/\i < ops.size:=fun i listed hs hmi hl x hx=>by
  obtain⟨h1,o,ho,hall⟩:=mem_ready.1 hx
  have hxs:=(Array.getElem?_eq_some_iff.1 ho).1
  have h1':listed.getD x false=false:=by
   have hxl:x < listed.size:=by omega
   simp only [Array.getD_eq_getD_getElem?,Array.getElem?_eq_getElem hxl,Option.getD_some] at h1 ⊢
   exact h1
  rw [hl] at h1'
  have hge:i<=x:=by simpa using h1'
  rcases Nat.lt_or_ge i x with hlt | hle
  ·have:=hsuf (fun j=>decide (j < i)) x o (by omega) ho (fun j o' ho' hj e he hb=>by
    have:=hlow j o' ho' e he hb
    simp only [decide_eq_true_eq] at hj ⊢;omega) (fun e he hb=>by have:=hall e he hb;rw [hl] at this;exact this) i hlt
   simp at this
  ·obtain rfl:x=i:=by omega
   exact⟨rfl,hxs⟩
 intro fuel
 induction fuel with
 | zero =>
  intro i listed hs hmi his hf hl a W h
  obtain rfl:i=ops.size:=by omega
  simp only [Nat.sub_self,List.range'_zero,wpOpsIn] at h
  simp only [wpAnyIn]
  refine⟨?_,h⟩
  rw [List.eq_nil_iff_forall_not_mem]
  intro x hx
  have:=(hsz _ listed hs hmi hl x hx).2
  omega
 | succ fuel ih =>
  intro i listed hs hmi his hf hl a W h
  rcases Nat.lt_or_ge i ops.size with hlt | hge
  ·have hmem:i∈Region.ready .any ops listed:=by
    refine mem_ready.2 ⟨?_,ops[i],by simp [hlt],fun e he hb=>?_⟩
    ·have:=hl i
     have hil:i < listed.size:=by omega
     simp only [Array.getD_eq_getD_getElem?,Array.getElem?_eq_getElem hil,Option.getD_some] at this ⊢
     simpa using this
    ·rw [hl];simpa using hlow i ops[i] (by simp [hlt]) e he hb
   refine⟨fun hnil=>(by rw [hnil] at hmem;cases hmem),fun x hx=>?_⟩
   obtain⟨rfl,_⟩:=hsz i listed hs hmi hl x hx
   rw [show ops.size - x=(ops.size - (x+1))+1 by omega,List.range'_succ,wpOpsIn_cons] at h
   refine wpOpIn_mono (fun a' w' h'=>ih (x+1) _ (by simp [hs]) (by omega) hlt (by omega) (fun j=>?_) a' w' h') h
   by_cases hj:j=x
   ·subst hj;have hil:j < listed.size:=by omega
    simp [hil]
   ·rw [getD_set_ne false (Ne.symm hj),hl]
    simp only [decide_eq_decide];omega
  ·obtain rfl:i=ops.size:=by omega
   simp only [Nat.sub_self,List.range'_zero,wpOpsIn] at h
   refine⟨fun _=>h,fun x hx=>?_⟩
   have:=(hsz _ listed hs hmi hl x hx).2
   omega
theorem aCx {m size:Nat} (h:m<=size) {p:Nat->Bool} (hp:∀j,m<=j->j < size->p j=true):size - m<=((List.range size).filter p).length:=by
 have:List.range size=List.range' 0 m++List.range' (0+m) (size - m):=by
  rw [List.range_eq_range',List.range'_append_1];congr 1;omega
 rw [this,List.filter_append,List.length_append]
 have h2:(List.range' (0+m) (size - m)).filter p=List.range' (0+m) (size - m):=by
  rw [List.filter_eq_self]
  intro j hj
  rw [List.mem_range'_1] at hj
  exact hp j (by omega) (by omega)
 rw [h2];simp
theorem aJj {ops:Array Oper} {evs:List Ev} {m:Nat} (hlen:evs.length=m)(hms:m<=ops.size) {s0:FS} (hm:P.follows .mixedOrders=true)
 {wr rd ard:Nat->Nat⊕Nat->Prop} {alt:Nat->Nat⊕Nat->SV⊕BK->Prop} {dep:Nat->Nat->Prop} (c:Conf m (cK ops evs) wr rd ard alt dep)
 (hrs:∀i v t,evs[i]? = some v->t∈v.rs->rd i (.inl t)) (hrb:∀i v k,evs[i]? = some v->k∈v.rb->rd i (.inr k)\/(ard i (.inr k)/\∀y,alt i (.inr k) y->∃b,y=.inr b/\(k,b)∈v.alt))
 (hlow:∀i o,ops[i]? = some o->∀e∈o.after,Region.binds .any e=true->e.on < i)
 (hdep:∀(D:Nat->Bool) i o,i < m->ops[i]? = some o->(∀j o,ops[j]? = some o->D j=true->∀e∈o.after,Region.binds .any e=true->D e.on=true)->(∀e∈o.after,Region.binds .any e=true->D e.on=true)->∀k,dep i k->D k=true)
 (hsuf:∀(D:Nat->Bool) i o,m<=i->ops[i]? = some o->(∀j o,ops[j]? = some o->D j=true->∀e∈o.after,Region.binds .any e=true->D e.on=true)->(∀e∈o.after,Region.binds .any e=true->D e.on=true)->∀k,k < i->D k=true)
 (hloc:∀i v,evs[i]? = some v->pM P r n cx N D ops i (SD (cK ops evs) (fun _=>true) s0 i) v)
 (hrep:Rep cx N D ρ s0 a W)
 (hK:∀ρ' a' W',Rep cx N D ρ' (SD (cK ops evs) (fun _=>true) s0 m) a' W'->wpOpsIn (Fw r) n P ops Q (List.range' m (ops.size - m)) a' W') {id:Nat} :
 (Code.region id ops true).wpIn (Fw r) n P Q a W:=by
 refine wpIn_region_any hm ?_
 have hrep':Rep cx N D ρ s0 a { W with drawn:=W.drawn+1 }:=hrep.grow ⟨rfl,rfl,rfl,Nat.le_refl _,fun _ _=>rfl⟩ (Nat.le_succ _)
 have key:∀fuel (listed:Array Bool),listed.size=ops.size->((List.range ops.size).filter fun j=>!listed.getD j false).length<=fuel ->
  (∀j o,ops[j]? = some o->listed.getD j false=true->∀e∈o.after,Region.binds .any e=true->listed.getD e.on false=true) ->
  (∀j,m<=j->listed.getD j false=false) ->
  ∀ρ a W,Rep cx N D ρ (SD (cK ops evs) (fun j=>listed.getD j false) s0 m) a W->wpAnyIn (Fw r) n P .any ops Q fuel listed a W:=by
  intro fuel
  induction fuel with
  | zero =>
   intro listed hsz hfew hcl hoff ρ a W h
   have hge:=aCx hms (p:=fun j=>!listed.getD j false) (fun j hj _=>by rw [hoff j hj];rfl)
   have hall:∀j,j < m->listed.getD j false=true:=fun j hj=>by
    have h0:(List.range ops.size).filter (fun j=>!listed.getD j false)=[]:=List.length_eq_zero_iff.1 (by omega)
    have:=(List.filter_eq_nil_iff.1 h0) j (by simp;omega)
    simpa using this
   have hS:∀q,q<=m->SD (cK ops evs) (fun j=>listed.getD j false) s0 q=SD (cK ops evs) (fun _=>true) s0 q:=by
    intro q
    induction q with
    | zero=>intro _;rfl
    | succ q ihm=>intro hm';simp only [SD,ihm (by omega),hall q (by omega)]
   refine aHa hlow hsuf 0 m listed hsz (Nat.le_refl _) hms (by omega) (fun j=>?_) a W (hK ρ a W (hS m (Nat.le_refl _)▸h))
   rcases Nat.lt_or_ge j m with hj | hj
   ·rw [hall j hj];simp [hj]
   ·rw [hoff j hj];simp;omega
  | succ fuel ih =>
   intro listed hsz hfew hcl hoff ρ a W h
   by_cases hdone:∀j,j < m->listed.getD j false=true
   ·have hS:∀q,q<=m->SD (cK ops evs) (fun j=>listed.getD j false) s0 q=SD (cK ops evs) (fun _=>true) s0 q:=by
     intro q
     induction q with
     | zero=>intro _;rfl
     | succ q ihm=>intro hm';simp only [SD,ihm (by omega),hdone q (by omega)]
    have hge:=aCx hms (p:=fun j=>!listed.getD j false) (fun j hj _=>by rw [hoff j hj];rfl)
    refine aHa hlow hsuf (fuel+1) m listed hsz (Nat.le_refl _) hms (by omega) (fun j=>?_) a W (hK ρ a W (hS m (Nat.le_refl _)▸h))
    rcases Nat.lt_or_ge j m with hj | hj
    ·rw [hdone j hj];simp [hj]
    ·rw [hoff j hj];simp;omega
   ·refine⟨fun hnil=>?_,fun i hi=>?_⟩
    ·exfalso
     refine hdone fun j=>?_
     induction j using Nat.strongRecOn with
     | ind j ihj =>
      intro hj
      cases hlj:listed.getD j false with
      | true=>rfl
      | false =>
       exfalso
       have hjs:j < ops.size:=by omega
       have ho:ops[j]? = some ops[j]:=by simp [hjs]
       have:j∈Region.ready .any ops listed:=by
        refine mem_ready.2 ⟨?_,ops[j],ho,fun e he hb=>ihj e.on (hlow j _ ho e he hb) (by have:=hlow j _ ho e he hb;omega)⟩
        have hjl:j < listed.size:=by omega
        simp only [Array.getD_eq_getD_getElem?,Array.getElem?_eq_getElem hjl,Option.getD_some] at hlj ⊢
        exact hlj
       rw [hnil] at this;cases this
    ·obtain⟨h1,o,ho,hall⟩:=mem_ready.1 hi
     have his:=(Array.getElem?_eq_some_iff.1 ho).1
     have hil:i < listed.size:=by omega
     have hDi:listed.getD i false=false:=by
      simp only [Array.getD_eq_getD_getElem?,Array.getElem?_eq_getElem hil,Option.getD_some] at h1 ⊢
      exact h1
     have him:i < m:=by
      rcases Nat.lt_or_ge i m with h' | h'
      ·exact h'
      ·exact(hdone fun j hj=>hsuf (fun j=>listed.getD j false) i o h' ho hcl hall j (by omega)).elim
     have hie:i < evs.length:=by omega
     have hev:evs[i]? = some evs[i]:=by simp [hie]
     have hD':∀j,(listed.setIfInBounds i true).getD j false=(listed.getD j false || decide (j=i)):=fun j=>by
      by_cases hj:j=i
      ·subst hj;simp [hil]
      ·rw [getD_set_ne false (Ne.symm hj)];simp [hj]
     have hclo:∀j k,j < m->listed.getD j false=true->dep j k->listed.getD k false=true:=fun j k hj hDj hd =>
      hdep (fun j=>listed.getD j false) j (ops[j]'(by omega)) hj (by simp) hcl (hcl j (ops[j]'(by omega)) (by simp) hDj) k hd
     have hcond:∀k,dep i k->listed.getD k false=true:=fun k hk=>hdep (fun j=>listed.getD j false) i o him ho hcl hall k hk
     have hlo:∀j,listed.getD j false=true->j < m:=fun j hj=>by
      rcases Nat.lt_or_ge j m with h' | h'
      ·exact h'
      ·rw [hoff j h'] at hj;cases hj
     refine hloc i evs[i] hev (SD (cK ops evs) (fun j=>listed.getD j false) s0 m) (fun t ht=>?_) (fun k hk=>?_) ρ a W Q _ h (fun ρ' a' W' h'=>?_)
     ·have:=c.reads (s0:=s0) him hDi hclo hcond (hrs i _ t hev ht)
      simpa [FS.at'] using this
     ·rcases hrb i _ k hev hk with h5 | ⟨h5,h6⟩
      ·have:=c.reads (s0:=s0) him hDi hclo hcond h5
       exact .inl (by simpa [FS.at'] using this)
      ·rcases c.areads (s0:=s0) him hDi hclo hcond h5 with h7 | h7
       ·exact .inl (by simpa [FS.at'] using h7)
       ·obtain⟨b,e,hb⟩:=h6 _ h7
        have e':(SD (cK ops evs) (fun j=>listed.getD j false) s0 m).bk k=b:=by simpa [FS.at'] using e
        exact .inr (by rw [e'];exact hb)
     ·refine ih (listed.setIfInBounds i true) (by simp [hsz]) ?_ (fun j o' ho' hj e he hb=>?_) (fun j hj=>?_) ρ' a' W' ?_
      ·have:=wP (p:=fun j=>!listed.getD j false) (q:=fun j=>!(listed.setIfInBounds i true).getD j false) (i:=i) (fun j hj=>by
        rw [hD'] at hj;simp at hj ⊢;exact hj.1) (by simp only [hDi];rfl) (by rw [hD'];simp) (List.range ops.size) (by simp [his])
       omega
      ·rw [hD'] at hj ⊢
       by_cases hji:j=i
       ·subst hji
        rw [ho] at ho';cases ho'
        simp [hall e he hb]
       ·simp only [hji,decide_false,Bool.or_false] at hj
        simp [hcl j o' ho' hj e he hb]
      ·rw [hD',hoff j hj];simp;omega
      ·have hadd:=c.add (s0:=s0) him hDi hD' hclo hlo
       rw [hadd]
       simp only [cK,hev]
       exact h'
 have h0:∀j,(Array.replicate ops.size false).getD j false=false:=fun j=>by
  rcases Nat.lt_or_ge j ops.size with h' | h'
  ·simp [h']
  ·simp [Array.getElem?_eq_none (xs:=Array.replicate ops.size false) (by simpa using h')]
 refine key ops.size (Array.replicate ops.size false) (by simp) (Nat.le_trans (List.length_filter_le _ _) (by simp)) (fun j o _ hj=>by rw [h0] at hj;cases hj) (fun j _=>h0 j) ρ a _ ?_
 have:SD (cK ops evs) (fun j=>(Array.replicate ops.size false).getD j false) s0 m=s0:=by
  have:∀m,SD (cK ops evs) (fun j=>(Array.replicate ops.size false).getD j false) s0 m=s0:=by
   intro m
   induction m with
   | zero=>rfl
   | succ m ihm=>have hm0:=h0 m;simp only [SD];exact(if_neg (by rw [hm0];simp)).trans ihm
  exact this _
 rw [this];exact hrep'
theorem aCy {ops:Array Oper} (hT:nI P T) {all:List Ev} {s0:FS}:∀(l:List Oper) (i:Nat) (s:LS) (orc:List Or) (evs:List Ev) (s':LS) (obs:List Ob) (orc':List Or),mU T ops l i s orc=some (evs,s',obs,orc')->Obs P obs ->
 (∀j o,l[j]? = some o->ops[i+j]? = some o)->(∀j,evs[j]? = all[i+j]?)->s.fs=SD (cK ops all) (fun _=>true) s0 i ->
 evs.length=l.length/\s'.fs=SD (cK ops all) (fun _=>true) s0 (i+l.length)/\s'.sl.length=s.sl.length /\
  ∀j v,evs[j]? = some v->pM P r n cx s.sl.length D ops (i+j) (SD (cK ops all) (fun _=>true) s0 (i+j)) v
 | [],i,s,orc,evs,s',obs,orc',h,_,_,_,hs=>by
  simp only [mU,bG,eV] at h
  obtain⟨rfl,rfl,_,_⟩:=h
  exact⟨rfl,hs,rfl,fun j v hv=>by simp at hv⟩
 | o::l,i,s,orc,evs,s',obs,orc',h,hob,hl,he,hs=>by
  simp only [mU] at h
  split at h
  ·cases h
  ·rename_i v obs1 orc1 hv
   split at h
   ·cases h
   ·rename_i s1 happ
    split at h
    ·cases h
    ·rename_i vs s2 obs2 orc2 hrest
     simp only [bG,eV] at h
     obtain⟨rfl,rfl,rfl,rfl⟩:=h
     obtain⟨ho1,ho2⟩:=Obs.append hob
     have hi:ops[i]? = some o:=by have:=hl 0 o (by simp);simpa using this
     have hall:all[i]? = some v:=by have:=he 0;simpa using this.symm
     obtain⟨hfs,hd,hlen⟩:=aIa happ
     have hs1:s1.fs=SD (cK ops all) (fun _=>true) s0 (i+1):=by
      simp only [SD,if_true,cK,hall,←hs]
      rw [hfs];simp [hZ,hi]
     obtain⟨h1,h2,h3,h4⟩:=aCy hT l (i+1) s1 orc1 vs s2 obs2 orc2 hrest ho2 (fun j o' hj=>by have:=hl (j+1) o' (by simpa using hj);simpa [Nat.add_assoc,Nat.add_comm 1 j] using this)
      (fun j=>by have:=he (j+1);simpa [Nat.add_assoc,Nat.add_comm 1 j] using this) hs1
     refine⟨by simp [h1],by rw [h2];congr 1;simp;omega,h3.trans hlen,fun j w hw=>?_⟩
     cases j with
     | zero =>
      simp at hw;subst hw
      have:=aDn (r:=r) (n:=n) (w0:=cx) (D:=D) hT hv ho1 hi hd
      rw [Nat.add_zero,←hs];exact this
     | succ j =>
      have:=h4 j w (by simpa using hw)
      rw [hlen] at this
      rw [show i+(j+1)=i+1+j by omega];exact this
def aSx (ops:Array Oper)(m:Nat):Bool:=(List.range ops.size).all fun i =>
 ((ops.toList[i]?).map fun o=>(jZ o).all fun e=>decide (e < i)).getD true&&(decide (i < m) || (List.range i).all fun j=>((tL ops.toList []).getD i 0).testBit j)
def aFc (T:Nat->Option TI)(ops:Array Oper)(draw:Bool)(m:Nat)(s:LS)(orc:List Or):Option (LS×List Ob) :=
 match mU T ops (ops.toList.take m) 0 s orc with
 | some (evs,s',obs,[])=>if(!draw || (aAg (ops.toList.take m).toArray evs&&aSx ops m))=true then some (s',obs++(if draw=true then tM (ops.toList.take m).toArray evs else [])) else none
 | _=>none
theorem vR (hT:nI P T)(hm:P.follows .mixedOrders=true) {ops:Array Oper} {draw:Bool} {m:Nat} (hms:m<=ops.size) {s s':LS} {orc:List Or} {obs:List Ob} {id:Nat}
 (h:aFc T ops draw m s orc=some (s',obs)) (hob:Obs P obs) (hrep:Rep cx s.sl.length D ρ s.fs a W)
 (hK:∀ρ' a' W',Rep cx s'.sl.length D ρ' s'.fs a' W'->s'.sl.length=s.sl.length->wpOpsIn (Fw r) n P ops Q (List.range' m (ops.size - m)) a' W'):(Code.region id ops draw).wpIn (Fw r) n P Q a W:=by
 unfold aFc at h
 split at h
 ·rename_i evs s1 obs1 hev
  split at h
  ·rename_i hch
   simp only [bG,eV] at h
   obtain⟨rfl,rfl⟩:=h
   obtain⟨hob1,hob2⟩:=Obs.append hob
   have hget:∀j o,(ops.toList.take m)[j]? = some o->ops[0+j]? = some o:=fun j o hj=>by
    have hjl:=(List.getElem?_eq_some_iff.1 hj).1
    rw [List.length_take] at hjl
    rw [List.getElem?_take,if_pos (by omega)] at hj
    simpa using hj
   have hlt:(ops.toList.take m).length=m:=by simp [hms]
   cases draw with
   | false =>
    refine wpIn_region ?_
    have hsz:List.range ops.size=List.range' 0 (ops.toList.take m).length++List.range' m (ops.size - m):=by
     rw [hlt,List.range_eq_range']
     have:=List.range'_append_1 (s:=0) (m:=m) (n:=ops.size - m)
     rw [Nat.zero_add] at this
     rw [this];congr 1;omega
    rw [hsz]
    exact aDs hT _ 0 s _ orc [] evs obs1 hev hob1 hget ρ a W hrep (fun ρ' a' W' h' e'=>hK ρ' a' W' (by rw [e'];exact h') e')
   | true =>
    simp only [Bool.not_true,Bool.false_or,Bool.and_eq_true] at hch
    obtain⟨hrace,hsufc⟩:=hch
    obtain⟨h1,h2,h3,h4⟩:=aCy (ops:=ops) (r:=r) (n:=n) (cx:=cx) (D:=D) (all:=evs) (s0:=s.fs) hT _ 0 s orc evs _ obs1 [] hev hob1 hget (fun j=>by simp) rfl
    have hlen:evs.length=m:=by rw [h1,hlt]
    have hlenA:evs.length=(ops.toList.take m).toArray.size:=by rw [h1];simp
    obtain⟨c,hlowA⟩:=uV hlenA hrace hob2
    have hdst:∀i,i < m->hZ (ops.toList.take m).toArray i=hZ ops i:=fun i hi=>by
     simp only [hZ,List.getElem?_toArray,List.getElem?_take,hi,if_true,Array.getElem?_toList]
    have hstep:cK (ops.toList.take m).toArray evs=cK ops evs:=by
     funext i s
     unfold cK
     cases hv:evs[i]? with
     | none=>rfl
     | some v =>
      have:=(List.getElem?_eq_some_iff.1 hv).1
      simp only []
      rw [hdst i (by omega)]
    rw [hstep,←hlenA,hlen] at c
    have hA:∀i o,i < m->ops[i]? = some o->(ops.toList.take m).toArray[i]? = some o:=fun i o hi ho=>by
     simp only [List.getElem?_toArray,List.getElem?_take,hi,if_true,Array.getElem?_toList];exact ho
    have hB:∀i o,(ops.toList.take m).toArray[i]? = some o->ops[i]? = some o:=fun i o ho=>by
     have:=hget i o (by rw [←List.getElem?_toArray];exact ho);simpa using this
    unfold aSx at hsufc
    simp only [List.all_eq_true,List.mem_range,Bool.and_eq_true] at hsufc
    have hlow:∀i o,ops[i]? = some o->∀e∈o.after,Region.binds .any e=true->e.on < i:=fun i o ho e he hb=>by
     have:=(hsufc i (Array.getElem?_eq_some_iff.1 ho).1).1
     have ho':ops.toList[i]? = some o:=by simpa using ho
     rw [ho'] at this
     simp only [Option.map_some,Option.getD_some,List.all_eq_true,decide_eq_true_eq] at this
     exact this e.on (pN.2 ⟨e,he,hb,rfl⟩)
    refine aJj hlen hms hm c (fun i v t hv ht=>⟨v,hv,?_⟩) (fun i v k hv hk=>?_) hlow (fun D i o hi ho hcl hd k hk=>?_) (fun D i o hi ho hcl hd k hk=>?_) (fun i v hv=>by have:=h4 i v hv;simpa using this) hrep (fun ρ' a' W' h'=>hK ρ' a' W' (by rw [h3,h2,hlt,Nat.zero_add];exact h') h3)
    ·simp only [rdC,gL];exact List.mem_append_left _ (List.mem_map.2 ⟨t,ht,rfl⟩)
    ·by_cases hal:k∈v.alt.map (·.1)
     ·obtain⟨q,hq,rfl⟩:=List.mem_map.1 hal
      refine .inr ⟨⟨v,hv,by simp only [aDl,gL];exact List.mem_map.2 ⟨q,hq,rfl⟩⟩,fun y hy=>?_⟩
      obtain⟨v',k',b,hv',hk',hb,rfl⟩:=hy
      rw [hv] at hv';cases hv'
      cases hk'
      exact⟨b,rfl,hb⟩
     ·refine .inl ⟨v,hv,?_⟩
      simp only [rdC,gL]
      exact List.mem_append_right _ (List.mem_map.2 ⟨k,List.mem_filter.2 ⟨hk,by simpa using hal⟩,rfl⟩)
    ·exact tO (ops:=(ops.toList.take m).toArray) (fun j o' hj=>hcl j o' (hB j o' hj)) hlowA i o (hA i o hi ho) hd k hk.2
    ·have hall:=(hsufc i (Array.getElem?_eq_some_iff.1 ho).1).2
     rw [show decide (i < m)=false by simpa using hi,Bool.false_or,List.all_eq_true] at hall
     exact tO hcl hlow i o ho hd k (hall k (by simpa using hk))
  ·cases h
 ·cases h
end
end Go.Aw
namespace Go.Aw
open Go.RowKit
section
variable {P : Program} {T : Nat → Option TI} {cx : Cx} {N : Nat} {D : List Deferred} {ρ : Env} {s : LS} {a : Act} {W : World} {r : Option Nat} {n : Nat} {Q : Exit → Act → World → Prop}
theorem aPg {l:List SV} {t:Nat} (ht:t < l.length) {x:SV} {u:Nat}:(l.set t x).getD u .u=if u=t then x else l.getD u .u:=by
 simp only [fP,List.getElem?_set]
 by_cases hu:t=u
 ·subst hu;simp [ht]
 ·rw [if_neg hu,if_neg (fun e=>hu e.symm)]
theorem Rep.hideC (h:Rep cx N D ρ s.fs a W) {t fr nn es:Nat} {sym:Bool} {cells:List SV} (htl:t < s.sl.length)(hb:s.bk[fr]? = some (.live true sym cells))(hpl:Plain cells)(hlen:cells.length=nn*es)
 {id cap L:Nat} (hρ:ρ fr=some (id,0,L)) (hcap:nn<=cap) (hL:cap*es<=L) {x:SV} (hx:Rel ρ x (a.tmps.getD t undef)) (hxn:∀k,¬x.has k) :
 Rep cx N D ρ (⟨s.sl.set t x,s.bk.set fr .dead⟩:LS).fs a W/\RowOK cx ρ (⟨s.sl.set t x,s.bk.set fr .dead⟩:LS).fs W nn es (id,cap,cells)/\lU ρ s.fs id/\∀b,lU ρ (⟨s.sl.set t x,s.bk.set fr .dead⟩:LS).fs b->lU ρ s.fs b:=by
 have hfl:fr < s.bk.length:=(List.getElem?_eq_some_iff.1 hb).1
 have hbf:s.fs.bk fr=.live true sym cells:=aKg hb
 have hown:lU ρ s.fs id:=⟨fr,L,by rw [hbf];trivial,hρ⟩
 have e1:∀u,(⟨s.sl.set t x,s.bk.set fr .dead⟩:LS).fs.sl u=if u=t then x else s.fs.sl u:=fun u=>aPg htl
 have e2:∀k,(⟨s.sl.set t x,s.bk.set fr .dead⟩:LS).fs.bk k=if k=fr then .dead else s.fs.bk k:=fun k=>eT hfl
 have hown':∀k,((⟨s.sl.set t x,s.bk.set fr .dead⟩:LS).fs.bk k).own->k≠fr/\(s.fs.bk k).own:=fun k hk=>by
  rw [e2] at hk
  by_cases hkf:k=fr
  ·rw [if_pos hkf] at hk;exact hk.elim
  ·rw [if_neg hkf] at hk;exact⟨hkf,hk⟩
 have hun:∀k,s.fs.bk k≠.un->(⟨s.sl.set t x,s.bk.set fr .dead⟩:LS).fs.bk k≠.un:=fun k hk=>by
  rw [e2];split
  ·simp
  ·exact hk
 have hbr:=h.bk fr
 rw [hbf] at hbr
 refine⟨?_,?_,hown,fun b ⟨k,m,hk,hk'⟩=>⟨k,m,(hown' k hk).2,hk'⟩⟩
 ·refine { defs:=h.defs,size:=h.size,sl:=fun u=>?_,bk:=fun k=>?_,apart:=fun i j b m b' m' hij hi hj=>h.apart i j b m b' m' hij (hown' i hi).2 (hown' j hj).2,wf1:=fun u k hk=>hun k ?_,wf2:=fun j k hk=>hun k ?_,
           kept:=h.kept,pl:=fun k=>?_,old:=fun i hi=>⟨(h.old i hi).1,hun i (h.old i hi).2⟩,fzn:=fun b o ho=>⟨(h.fzn b o ho).1,fun k m hk=>(h.fzn b o ho).2.1 k m (hown' k hk).2,(h.fzn b o ho).2.2⟩,fzo:=h.fzo }
  ·rw [e1];split
   ·rename_i hu;subst hu;exact hx
   ·exact h.sl u
  ·rw [e2];split
   ·trivial
   ·exact h.bk k
  ·rw [e1] at hk;split at hk
   ·exact(hxn k hk).elim
   ·exact h.wf1 u k hk
  ·rw [e2] at hk;split at hk
   ·exact hk.elim
   ·exact h.wf2 j k hk
  ·rw [e2];split
   ·trivial
   ·exact h.pl k
 ·rcases hbr with⟨q1,_⟩ | ⟨b,vs,rest,ty,q1,q2,q3,q4⟩
  ·rw [hρ] at q1;cases q1
  ·rw [hρ] at q1;cases q1
   refine⟨hpl,hlen,hcap,q2,fun⟨k,m,hk,hk'⟩=>?_,?_,vs,rest,ty,q3,q4,hL⟩
   ·obtain⟨g1,g2⟩:=hown' k hk
    exact h.apart k fr id m id _ g1 g2 (by rw [hbf];trivial) hk' hρ rfl
   ·cases hf:ρ.fz id with
    | none=>rfl
    | some o=>exact((h.fzn id o hf).2.1 fr _ (by rw [hbf];trivial) hρ).elim
theorem Rep.hide (h:Rep cx N D ρ s.fs a W) {t fr nn es:Nat} {sym:Bool} {cells:List SV} (ht:s.sl[t]? = some (.s fr 0 nn es))(hb:s.bk[fr]? = some (.live true sym cells))(hpl:Plain cells)(hlen:cells.length=nn*es)(hn:nn≠0) :
 ∃id cap,Rep cx N D ρ (⟨s.sl.set t (.v (lX nn (id,cap,cells))),s.bk.set fr .dead⟩:LS).fs a W/\RowOK cx ρ (⟨s.sl.set t (.v (lX nn (id,cap,cells))),s.bk.set fr .dead⟩:LS).fs W nn es (id,cap,cells)/\lU ρ s.fs id /\
  ∀b,lU ρ (⟨s.sl.set t (.v (lX nn (id,cap,cells))),s.bk.set fr .dead⟩:LS).fs b->lU ρ s.fs b:=by
 have htl:=(List.getElem?_eq_some_iff.1 ht).1
 have hbf:s.fs.bk fr=.live true sym cells:=aKg hb
 have hr:=h.sl t
 have ht':s.fs.sl t=.s fr 0 nn es:=by simp [LS.fs,fP,ht]
 rw [ht'] at hr
 simp only [Rel] at hr
 rcases hr with⟨_,e,_⟩ | ⟨b,o,m,cap,off',sp,q1,q2,q3,q4,q5⟩
 ·exact(hn e).elim
 have hc:cap≠0:=by omega
 obtain⟨rfl,rfl⟩:=q5 hc
 have hbr:=h.bk fr
 rw [hbf] at hbr
 rcases hbr with⟨g1,_⟩ | ⟨b',vs,rest,ty,g1,g2,g3,g4⟩
 ·rw [q1] at g1;cases g1
 ·rw [q1] at g1;cases g1
  exact⟨b,cap,h.hideC htl hb hpl hlen q1 q3 (by omega) (x:=.v (lX nn (b,cap,cells))) (by simp only [Rel];exact q2) (fun k hk=>hk)⟩
theorem Rep.show (h:Rep cx N D ρ s.fs a W) {t nn es:Nat} {x:iF} (hr:RowOK cx ρ s.fs W nn es x)(ht:s.sl[t]? = some (.v (lX nn x))) :
 ∃ρ' L,ρ' s.bk.length=some (x.1,0,L)/\x.2.1*es<=L/\Rep cx N D ρ' (⟨s.sl.set t (.s s.bk.length 0 nn es),s.bk++[.live true true x.2.2]⟩:LS).fs a W /\
  (∀b,lU ρ' (⟨s.sl.set t (.s s.bk.length 0 nn es),s.bk++[.live true true x.2.2]⟩:LS).fs b->lU ρ s.fs b\/b=x.1)/\ρ'.fz=ρ.fz:=by
 obtain⟨vs,rest,ty,p1,p2,p3⟩:=hr.at'
 have htl:=(List.getElem?_eq_some_iff.1 ht).1
 have hfree:s.fs.bk s.bk.length=.un:=rE (Nat.le_refl _)
 have hle:=ρ.le_set s.bk.length (some (x.1,0,(vs++rest).length))
 have hne:∀j,s.fs.bk j≠.un->(ρ.set s.bk.length (some (x.1,0,(vs++rest).length))) j=ρ j:=fun j hj=>if_neg (fun e=>hj (by rw [e];exact hfree))
 have e1:∀u,(⟨s.sl.set t (.s s.bk.length 0 nn es),s.bk++[.live true true x.2.2]⟩:LS).fs.sl u=if u=t then .s s.bk.length 0 nn es else s.fs.sl u:=fun u=>aPg htl
 have e2:∀k,(⟨s.sl.set t (.s s.bk.length 0 nn es),s.bk++[.live true true x.2.2]⟩:LS).fs.bk k=if k=s.bk.length then .live true true x.2.2 else s.fs.bk k:=fun k=>dT
 have hun:∀k,s.fs.bk k≠.un->(⟨s.sl.set t (.s s.bk.length 0 nn es),s.bk++[.live true true x.2.2]⟩:LS).fs.bk k≠.un:=fun k hk=>by
  rw [e2];split
  ·simp
  ·exact hk
 have hset:(ρ.set s.bk.length (some (x.1,0,(vs++rest).length))) s.bk.length=some (x.1,0,(vs++rest).length):=by simp
 have hown:∀k b m,((⟨s.sl.set t (.s s.bk.length 0 nn es),s.bk++[.live true true x.2.2]⟩:LS).fs.bk k).own->(ρ.set s.bk.length (some (x.1,0,(vs++rest).length))) k=some (b,0,m)->(k=s.bk.length/\b=x.1)\/(k≠s.bk.length/\(s.fs.bk k).own/\ρ k=some (b,0,m)):=fun k b m hk hk'=>by
  rw [e2] at hk
  by_cases hkf:k=s.bk.length
  ·subst hkf;rw [hset] at hk';cases hk';exact .inl ⟨rfl,rfl⟩
  ·rw [if_neg hkf] at hk
   refine .inr ⟨hkf,hk,?_⟩
   rw [←hk'];simp [hkf]
 refine⟨_,(vs++rest).length,hset,p3,?_,fun b ⟨k,m,hk,hk'⟩=>?_,rfl⟩
 ·refine { defs:=h.defs,size:=h.size,sl:=fun u=>?_,bk:=fun k=>?_,apart:=fun i j b m b' m' hij hi hj q1 q2=>?_,wf1:=fun u k hk=>?_,wf2:=fun j k hk=>?_,
           kept:=h.kept,pl:=fun k=>?_,old:=fun i hi=>⟨(hne i (h.old i hi).2).trans (h.old i hi).1,hun i (h.old i hi).2⟩,fzn:=fun b o ho=>⟨(h.fzn b o ho).1,fun k m hk hk'=>?_,(h.fzn b o ho).2.2⟩,fzo:=h.fzo }
  ·rw [e1];split
   ·rename_i hu;subst hu
    have:=h.sl u
    rw [show s.fs.sl u=.v (lX nn x) by simp [LS.fs,fP,ht]] at this
    simp only [Rel] at this ⊢
    exact .inr ⟨x.1,0,_,x.2.1,0,Option.none,hset,this,hr.cap,by omega,fun _=>⟨rfl,rfl⟩⟩
   ·exact Rel.congr hle _ _ (fun j hj=>hne j (h.wf1 u j hj)) (h.sl u)
  ·rw [e2];split
   ·rename_i hk;subst hk
    exact .inr ⟨x.1,vs,rest,ty,hset,hr.mine,Plain.congr hle hr.pl p1,p2⟩
   ·rename_i hk
    exact BRep.congr hle (by simp [hk]) (fun j hj=>hne j (h.wf2 k j hj)) (h.bk k)
  ·rcases hown i b m hi q1 with⟨g1,g2⟩ | ⟨g1,g2,g3⟩<;>rcases hown j b' m' hj q2 with⟨g4,g5⟩ | ⟨g4,g5,g6⟩
   ·exact(hij (g1.trans g4.symm)).elim
   ·intro e;exact hr.own ⟨j,m',g5,by rw [←g2,e];exact g6⟩
   ·intro e;exact hr.own ⟨i,m,g2,by rw [←g5,←e];exact g3⟩
   ·exact h.apart i j b m b' m' hij g2 g5 g3 g6
  ·rw [e1] at hk;split at hk
   ·simp only [SV.has] at hk
    rw [e2,if_pos hk.symm];simp
   ·exact hun k (h.wf1 u k hk)
  ·rw [e2] at hk;split at hk
   ·exact(hr.pl k hk).elim
   ·exact hun k (h.wf2 j k hk)
  ·rw [e2];split
   ·exact hr.pl
   ·exact h.pl k
  ·rcases hown k b m hk hk' with⟨g1,g2⟩ | ⟨g1,g2,g3⟩
   ·have:=hr.fz
    rw [←g2] at this
    change ρ.fz b=some o at ho
    rw [this] at ho;cases ho
   ·exact(h.fzn b o ho).2.1 k m g2 g3
 ·rcases hown k b m hk hk' with⟨g1,g2⟩ | ⟨g1,g2,g3⟩
  ·exact .inr g2
  ·exact .inl ⟨k,m,g2,g3⟩
theorem TabOK.add {nn es:Nat} {rows rows':List (Option iF)} {s s':FS} (ht:TabOK cx ρ s W nn es rows)(hown:∀b,lU ρ s' b->lU ρ s b) {x:iF} (hx:RowOK cx ρ s' W nn es x)(hxo:lU ρ s x.1)(i:Nat)
 (hr:∀j q,rows'[j]? = some (some q)->(j=i/\q=x)\/(j≠i/\rows[j]? = some (some q))):TabOK cx ρ s' W nn es rows':=by
 have hold:∀j q,rows[j]? = some (some q)->RowOK cx ρ s' W nn es q:=fun j q hj=>by
  have:=ht.row j q hj
  exact⟨this.pl,this.len,this.cap,this.mine,fun ho=>this.own (hown _ ho),this.fz,this.at'⟩
 refine⟨fun j q hj=>?_,fun j k q q' hjk hj hk=>?_⟩
 ·rcases hr j q hj with⟨_,rfl⟩ | ⟨_,g⟩
  ·exact hx
  ·exact hold j q g
 ·rcases hr j q hj with⟨g1,rfl⟩ | ⟨g1,g2⟩<;>rcases hr k q' hk with⟨g3,rfl⟩ | ⟨g3,g4⟩
  ·exact(hjk (g1.trans g3.symm)).elim
  ·intro e;exact(ht.row k q' g4).own (e▸hxo)
  ·intro e;exact(ht.row j q g2).own (e▸hxo)
  ·exact ht.ne j k q q' hjk g2 g4
theorem TabOK.rem {nn es:Nat} {rows:List (Option iF)} {s s':FS} {ρ':Env} (ht:TabOK cx ρ s W nn es rows) {x:iF} {i:Nat} (hi:rows[i]? = some (some x))(hown:∀b,lU ρ' s' b->lU ρ s b\/b=x.1)(hfz:ρ'.fz=ρ.fz) :
 TabOK cx ρ' s' W nn es (rows.set i none):=by
 have hg:∀j q,(rows.set i none)[j]? = some (some q)->j≠i/\rows[j]? = some (some q):=fun j q hj=>by
  rw [List.getElem?_set] at hj
  split at hj
  ·split at hj<;>simp at hj
  ·rename_i hne;exact⟨fun e=>hne e.symm,hj⟩
 refine⟨fun j q hj=>?_,fun j k q q' hjk hj hk=>ht.ne j k q q' hjk (hg j q hj).2 (hg k q' hk).2⟩
 obtain⟨g1,g2⟩:=hg j q hj
 have h:=ht.row j q g2
 refine⟨h.pl,h.len,h.cap,h.mine,fun ho=>?_,by rw [hfz];exact h.fz,?_⟩
 ·rcases hown _ ho with g | g
  ·exact h.own g
  ·exact ht.ne j i q x g1 g2 hi g
 ·obtain⟨vs,rest,ty,p1,p2,p3⟩:=h.at'
  exact⟨vs,rest,ty,Plain.congr (fun b o hb=>by rw [hfz];exact hb) h.pl p1,p2,p3⟩
theorem aHb (hT:nI P T) {ops:Array Oper} {m:Nat} (hms:m<=ops.size) {s s':LS} {orc:List Or} {obs:List Ob} (h:evS T ops (ops.toList.drop m) m s orc=some (s',obs))(hob:Obs P obs)(hrep:Rep cx s.sl.length D ρ s.fs a W)
 (hK:∀ρ' a' W',Rep cx s'.sl.length D ρ' s'.fs a' W'->s'.sl.length=s.sl.length->Q .normal a' W'):wpOpsIn (Fw r) n P ops Q (List.range' m (ops.size - m)) a W:=by
 obtain⟨evs,hev⟩:=aNn h
 have hlen:(ops.toList.drop m).length=ops.size - m:=by simp
 have:=aDs (r:=r) (n:=n) (cx:=cx) (D:=D) (P:=P) (Q:=Q) (rest:=[]) hT (ops.toList.drop m) m s s' orc [] evs obs hev hob (fun j o hj=>by rw [List.getElem?_drop] at hj;simpa using hj) ρ a W hrep
  (fun ρ' a' W' h' e'=>by simp only [wpOpsIn];exact hK ρ' a' W' (by rw [e'];exact h') e')
 rw [List.append_nil,hlen] at this
 exact this
def BK.kn:BK->Bool
 | .un=>false
 | _=>true
theorem GoodT.put (hT:nI P T)(hm:P.follows .mixedOrders=true) {ops:Array Oper} {draw:Bool} (m:Nat)(hms:m<=ops.size) {id0:Nat} {nn es:Nat} {rows:List (Option iF)} {k:List K} {s:LS} (s0:LS)(sts:List (St P))(ads:List Adj)(s1:LS)(t i:Nat)(x:iF)
 (h1:aFc T ops draw m s (nJ sts)=some (s0,stB sts)) (ha:rG ads s0=some s1) (hkn:s1.bk.all BK.kn=true) (ro1:roE cx.base s1.bk s.bk) (ht:s1.sl[t]? = some (.v (lX nn x))) (hi:rows[i]? = some (some x))
 (s2:LS) (sts2:List (St P)) (h2:evS T ops (ops.toList.drop m) m ⟨s1.sl.set t (.s s1.bk.length 0 nn es),s1.bk++[.live true true x.2.2]⟩ (nJ sts2)=some (s2,stB sts2)) (ro2:roE (s1.bk.length+1) s2.bk (s1.bk++[.live true true x.2.2]))
 (cells:List SV) (hb:s2.bk[s1.bk.length]? = some (.live true true cells)) (hpl:Plain cells) (hlen:cells.length=nn*es)
 (hg:GoodT P r n Q cx D nn es (rows.set i (some (x.1,x.2.1,cells))) k ⟨s2.sl.set t .u,s2.bk.set s1.bk.length .dead⟩):GoodT P r n Q cx D nn es rows (.c (.region id0 ops draw)::k) s:=by
 intro ρ a W hrep htab
 simp only [iI]
 refine vR hT hm hms h1 (aAr sts) (hrep.sub' (base:=cx.base) (fun i hi=>(hrep.old i hi).2)) (fun ρ0 a1 W1 hr0 hl0=>?_)
 obtain⟨ρ1,hr1,hl1⟩:=yX ads ha hr0
 rw [←hl1] at hr1
 have hrep1:=hrep.back (Nat.le_refl _) hr1 (aBp ro1)
 have htab1:=htab.back hr1
 have hrow:=htab1.row i x hi
 obtain⟨ρ2,L,q1,q2,hrep2,q3,q4⟩:=hrep1.show hrow ht
 have htab2:=htab1.rem hi q3 q4
 have hbase:cx.base<=s1.bk.length+1:=by
  rcases Nat.lt_or_ge s1.bk.length cx.base with h' | h'
  ·exact absurd (rE (Nat.le_refl _)) ((hrep1.old s1.bk.length h').2)
  ·omega
 have hlive:∀j,j < s1.bk.length+1->(⟨s1.sl.set t (.s s1.bk.length 0 nn es),s1.bk++[.live true true x.2.2]⟩:LS).fs.bk j≠.un:=fun j hj e=>by
  have e':(s1.bk++[BK.live true true x.2.2]).getD j .un=.un:=e
  rw [dT] at e'
  split at e'
  ·cases e'
  ·have hjl:j < s1.bk.length:=by omega
   have:=List.all_eq_true.1 hkn s1.bk[j] (List.getElem_mem hjl)
   rw [fP,List.getElem?_eq_getElem hjl,Option.getD_some] at e'
   rw [e'] at this;cases this
 refine aHb hT hms h2 (aAr _) (cx:=Cx.only (s1.bk.length+1) W1 ρ2 (lU ρ2 _)) (by
  rw [show(⟨s1.sl.set t (.s s1.bk.length 0 nn es),s1.bk++[.live true true x.2.2]⟩:LS).sl.length=s1.sl.length by simp]
  exact hrep2.sub' (base:=s1.bk.length+1) hlive) (fun ρ3 a3 W3 hr3 hl3=>?_)
 ·have hrep3:=hrep2.back hbase hr3 (aBp (s:=⟨s1.sl.set t (.s s1.bk.length 0 nn es),s1.bk++[.live true true x.2.2]⟩) ro2)
  have htab3:=htab2.back hr3
  have e3:ρ3 s1.bk.length=some (x.1,0,L):=by
   have:=(hr3.old s1.bk.length (lss _)).1
   exact this.trans q1
  have htl:t < s2.sl.length:=by
   have:=(List.getElem?_eq_some_iff.1 ht).1
   rw [hl3];simpa using this
  obtain⟨hrep4,hrow4,hown4,hown4'⟩:=hrep3.hideC htl hb hpl hlen e3 hrow.cap q2 (x:=.u) (by simp [Rel]) (fun k hk=>hk)
  refine hg ρ3 a3 W3 (by rw [show(⟨s2.sl.set t .u,s2.bk.set s1.bk.length .dead⟩:LS).sl.length=s2.sl.length by simp];exact hrep4) (htab3.add hown4' hrow4 hown4 i (fun j q hj=>?_))
  have hil:=(List.getElem?_eq_some_iff.1 hi).1
  rw [List.getElem?_set] at hj
  split at hj
  ·rename_i hji
   subst hji
   simp only [bG] at hj
   exact .inl ⟨rfl,hj.symm⟩
  ·rename_i hji
   refine .inr ⟨fun e=>hji e.symm,?_⟩
   rw [List.getElem?_set,if_neg hji];exact hj
def cR (nn:Nat)(x:iF):List SV:=[.v (lX nn x)]
def cD (nn es:Nat)(x:iF):List SV:=[.d x.2.2 nn es]
theorem aHc {ρ ρ':Env} {nn es:Nat}:∀(rows:List iF) (vs:List Value),(∀x∈rows,Rel ρ' (.d x.2.2 nn es) (lX nn x))->Rels ρ (flat (cR nn) rows) vs->Rels ρ' (flat (cD nn es) rows) vs
 | [],[],_,h=>by simp [flat,Rels]
 | [],_::_,_,h=>by simp [flat,Rels] at h
 | x::rows,vs,hd,h=>by
  have e1:flat (cR nn) (x::rows)=.v (lX nn x)::flat (cR nn) rows:=rfl
  have e2:flat (cD nn es) (x::rows)=.d x.2.2 nn es::flat (cD nn es) rows:=rfl
  rw [e1] at h
  rw [e2]
  cases vs with
  | nil=>simp [Rels] at h
  | cons y vs =>
   simp only [Rels] at h ⊢
   refine⟨?_,aHc rows vs (fun x hx=>hd x (List.mem_cons_of_mem _ hx)) h.2⟩
   have:=h.1
   simp only [Rel] at this
   rw [this];exact hd x List.mem_cons_self
theorem aBq {nn es:Nat}:∀rows:List iF,Plain (flat (cD nn es) rows)
 | [],k,h=>by simp [flat,SV.hasl] at h
 | x::rows,k,h=>by
  have e2:flat (cD nn es) (x::rows)=.d x.2.2 nn es::flat (cD nn es) rows:=rfl
  rw [e2] at h
  simp only [SV.hasl,SV.has,false_or] at h
  exact aBq rows k h
theorem GoodT.freeze {nn es:Nat} {rows:List iF} (kk:Nat) {k:List K} {s:LS} (hb:s.bk[kk]? = some (.live true true (flat (cR nn) rows)))(hg:Good P r n Q cx D k ⟨s.sl,s.bk.set kk (.live true true (flat (cD nn es) rows))⟩) :
 GoodT P r n Q cx D nn es (rows.map some) k s:=by
 intro ρ a W h htab
 have hrow:∀x∈rows,RowOK cx ρ s.fs W nn es x:=fun x hx=>by
  obtain⟨i,hi,rfl⟩:=List.getElem_of_mem hx
  exact htab.row i _ (by simp [hi])
 have hkl:kk < s.bk.length:=(List.getElem?_eq_some_iff.1 hb).1
 have hbf:s.fs.bk kk=.live true true (flat (cR nn) rows):=aKg hb
 let g:Nat->Option FC:=fun b=>if rows.any (fun x=>x.1 == b)=true then(match W.heap[b]? with
  | some (.cells c ty fr)=>some (c,ty,fr)
  | _=>Option.none) else ρ.fz b
 have hg1:∀x∈rows,∀b,x.1=b->rows.any (fun x=>x.1 == b)=true:=fun x hx b hxb=>List.any_eq_true.2 ⟨x,hx,by simpa using hxb⟩
 have hg2:∀b,rows.any (fun x=>x.1 == b)=true->∃x∈rows,x.1=b:=fun b hb=>by
  obtain⟨x,hx,e⟩:=List.any_eq_true.1 hb
  exact⟨x,hx,by simpa using e⟩
 have hle:ρ.le ⟨ρ.loc,g⟩:=fun b o ho=>by
  show g b=some o
  have:¬rows.any (fun x=>x.1 == b)=true:=fun e=>by
   obtain⟨x,hx,rfl⟩:=hg2 b e
   have:=(hrow x hx).fz
   rw [this] at ho;cases ho
  simp only [g]
  rw [if_neg this];exact ho
 have hd:∀x∈rows,Rel ⟨ρ.loc,g⟩ (.d x.2.2 nn es) (lX nn x):=fun x hx=>by
  have hr:=hrow x hx
  obtain⟨vs,rest,ty,p1,p2,p3⟩:=hr.at'
  simp only [Rel]
  refine .inr ⟨x.1,0,x.2.1,(vs++rest).toArray,ty,(0,0),vs,rfl,hr.cap,?_,Plain.congr (ρ:=ρ) (ρ':=⟨fun _=>Option.none,g⟩) hle hr.pl p1,by rw [←p1.length];exact hr.len,fun i y hi=>?_⟩
  ·show g x.1=_
   simp only [g]
   rw [if_pos (hg1 x hx _ rfl),p2]
  ·have hil:=(List.getElem?_eq_some_iff.1 hi).1
   simp only [Nat.zero_add,List.getElem?_toArray]
   rw [List.getElem?_append_left hil];exact hi
 have e2:∀j,(⟨s.sl,s.bk.set kk (.live true true (flat (cD nn es) rows))⟩:LS).fs.bk j=if j=kk then .live true true (flat (cD nn es) rows) else s.fs.bk j:=fun j=>eT hkl
 have hown:∀j,((⟨s.sl,s.bk.set kk (.live true true (flat (cD nn es) rows))⟩:LS).fs.bk j).own->(s.fs.bk j).own:=fun j hj=>by
  rw [e2] at hj
  split at hj
  ·rename_i e;subst e;rw [hbf];trivial
  ·exact hj
 have hun:∀j,s.fs.bk j≠.un->(⟨s.sl,s.bk.set kk (.live true true (flat (cD nn es) rows))⟩:LS).fs.bk j≠.un:=fun j hj=>by
  rw [e2];split
  ·simp
  ·exact hj
 refine hg ⟨ρ.loc,g⟩ a W { defs:=h.defs,size:=h.size,sl:=fun t=>Rel.congr hle _ _ (fun _ _=>rfl) (h.sl t),bk:=fun j=>?_,apart:=fun i j b m b' m' hij hi hj=>h.apart i j b m b' m' hij (hown i hi) (hown j hj),wf1:=fun t j hj=>hun j (h.wf1 t j hj),wf2:=fun i j hj=>hun j ?_,kept:=h.kept,pl:=fun j=>?_,old:=fun i hi=>⟨(h.old i hi).1,hun i (h.old i hi).2⟩,fzn:=fun b o ho=>?_,fzo:=fun b o ho=>hle b o (h.fzo b o ho) }
 ·rw [e2];split
  ·rename_i e;subst e
   have:=h.bk j
   rw [hbf] at this
   rcases this with⟨q1,q2⟩ | ⟨b,vs,rest,ty,q1,q2,q3,q4⟩
   ·refine .inl ⟨q1,?_⟩
    cases rows with
    | nil=>rfl
    | cons x l=>exact absurd q2 (by simp [flat,cR])
   ·exact .inr ⟨b,vs,rest,ty,q1,q2,aHc rows vs hd q3,q4⟩
  ·exact BRep.congr hle rfl (fun _ _=>rfl) (h.bk j)
 ·rw [e2] at hj;split at hj
  ·exact(aBq rows j hj).elim
  ·exact h.wf2 i j hj
 ·rw [e2];split
  ·exact aBq rows
  ·exact h.pl j
 ·have ho':g b=some o:=ho
  simp only [g] at ho'
  split at ho'
  ·rename_i hany
   obtain⟨x,hx,rfl⟩:=hg2 b hany
   have hr:=hrow x hx
   obtain⟨vs,rest,ty,p1,p2,p3⟩:=hr.at'
   rw [p2] at ho'
   simp only [bG] at ho'
   subst ho'
   exact⟨p2,fun j m hj e=>hr.own ⟨j,m,hown j hj,e⟩,.inr hr.mine⟩
  ·obtain⟨f1,f2,f3⟩:=h.fzn b o ho'
   exact⟨f1,fun j m hj=>f2 j m (hown j hj),f3⟩
def nE (T:Nat->Option TI)(ops:Array Oper)(draw:Bool)(m:Nat)(s:LS)(orc:List Or):LS:=((aFc T ops draw m s orc).map (·.1)).getD s
theorem aCz {ops:Array Oper} {draw:Bool} {m:Nat} {s:LS} {orc:List Or} {obs:List Ob} (h:(aFc T ops draw m s orc).map (·.2)=some obs):aFc T ops draw m s orc=some (nE T ops draw m s orc,obs):=by
 unfold nE
 cases hp:aFc T ops draw m s orc with
 | none=>rw [hp] at h;cases h
 | some x=>rw [hp] at h;simp only [Option.map_some,bG] at h;subst h;rfl
def evL (T:Nat->Option TI)(ops:Array Oper)(m:Nat)(s:LS)(orc:List Or):LS:=((evS T ops (ops.toList.drop m) m s orc).map (·.1)).getD s
theorem aHd {ops:Array Oper} {m:Nat} {s:LS} {orc:List Or} {obs:List Ob} (h:(evS T ops (ops.toList.drop m) m s orc).map (·.2)=some obs):evS T ops (ops.toList.drop m) m s orc=some (evL T ops m s orc,obs):=by
 unfold evL
 cases hp:evS T ops (ops.toList.drop m) m s orc with
 | none=>rw [hp] at h;cases h
 | some x=>rw [hp] at h;simp only [Option.map_some,bG] at h;subst h;rfl
def xJ (ads:List Adj)(s:LS):LS:=(rG ads s).getD s
theorem aMu {ads:List Adj} {s:LS} (h:(rG ads s).isSome=true):rG ads s=some (xJ ads s):=by
 unfold xJ
 cases hp:rG ads s with
 | none=>rw [hp] at h;cases h
 | some x=>rfl
def cE:Code->Nat×Array Oper×Bool
 | .region i o d=>(i,o,d)
 | _=>(0,#[],false)
def aHe (t nn es:Nat)(x:iF)(s:LS):LS:=⟨s.sl.set t (.s s.bk.length 0 nn es),s.bk++[.live true true x.2.2]⟩
def aBr (t fr:Nat)(y:SV)(s:LS):LS:=⟨s.sl.set t y,s.bk.set fr .dead⟩
theorem GoodT.putE (hT:nI P T)(hm:P.follows .mixedOrders=true) {B:Code} (hB:B=.region (cE B).1 (cE B).2.1 (cE B).2.2)(m:Nat)(hms:Nat.ble m (cE B).2.1.size=true) {nn es:Nat} {rows:List (Option iF)} {k:List K} {s:LS}
 (sts sts2:List (St P)) (ads:List Adj) (t i:Nat) (x:iF) (cells:List SV) {base:Nat} (hb:cx.base=base)
 (h1:(aFc T (cE B).2.1 (cE B).2.2 m s (nJ sts)).map (·.2)=some (stB sts)) (ha:(rG ads (nE T (cE B).2.1 (cE B).2.2 m s (nJ sts))).isSome=true)
 (hkn:(xJ ads (nE T (cE B).2.1 (cE B).2.2 m s (nJ sts))).bk.all BK.kn=true) (ro1:roE base (xJ ads (nE T (cE B).2.1 (cE B).2.2 m s (nJ sts))).bk s.bk)
 (ht:(xJ ads (nE T (cE B).2.1 (cE B).2.2 m s (nJ sts))).sl[t]? = some (.v (lX nn x))) (hi:rows[i]? = some (some x))
 (h2:(evS T (cE B).2.1 ((cE B).2.1.toList.drop m) m (aHe t nn es x (xJ ads (nE T (cE B).2.1 (cE B).2.2 m s (nJ sts)))) (nJ sts2)).map (·.2)=some (stB sts2))
 (ro2:roE ((xJ ads (nE T (cE B).2.1 (cE B).2.2 m s (nJ sts))).bk.length+1) (evL T (cE B).2.1 m (aHe t nn es x (xJ ads (nE T (cE B).2.1 (cE B).2.2 m s (nJ sts)))) (nJ sts2)).bk (aHe t nn es x (xJ ads (nE T (cE B).2.1 (cE B).2.2 m s (nJ sts)))).bk)
 (hbb:(evL T (cE B).2.1 m (aHe t nn es x (xJ ads (nE T (cE B).2.1 (cE B).2.2 m s (nJ sts)))) (nJ sts2)).bk[(xJ ads (nE T (cE B).2.1 (cE B).2.2 m s (nJ sts))).bk.length]? = some (.live true true cells)) (hpl:Plain cells) (hlen:cells.length=nn*es)
 (hg:GoodT P r n Q cx D nn es (rows.set i (some (x.1,x.2.1,cells))) k (aBr t (xJ ads (nE T (cE B).2.1 (cE B).2.2 m s (nJ sts))).bk.length .u (evL T (cE B).2.1 m (aHe t nn es x (xJ ads (nE T (cE B).2.1 (cE B).2.2 m s (nJ sts)))) (nJ sts2)))) :
 GoodT P r n Q cx D nn es rows (.c B::k) s:=by
 subst hb
 rw [hB]
 exact GoodT.put hT hm m (Nat.le_of_ble_eq_true hms) _ sts ads _ t i x (aCz h1) (aMu ha) hkn ro1 ht hi _ sts2 (aHd h2) ro2 cells hbb hpl hlen hg
theorem GoodT.makeE (hT:nI P T)(hm:P.follows .mixedOrders=true) {B:Code} (hB:B=.region (cE B).1 (cE B).2.1 (cE B).2.2)(m:Nat)(hms:Nat.ble m (cE B).2.1.size=true) {nn es:Nat} {rows:List (Option iF)} (rows':Nat->Nat->List (Option iF)) {k:List K} {s:LS}
 (sts:List (St P)) (sts2:Nat->Nat->List (St P)) (t fr i:Nat) (sym:Bool) (cells:List SV) {base:Nat} (hb:cx.base=base)
 (h1:(aFc T (cE B).2.1 (cE B).2.2 m s (nJ sts)).map (·.2)=some (stB sts)) (ro1:roE base (nE T (cE B).2.1 (cE B).2.2 m s (nJ sts)).bk s.bk)
 (ht:(nE T (cE B).2.1 (cE B).2.2 m s (nJ sts)).sl[t]? = some (.s fr 0 nn es)) (hbb:(nE T (cE B).2.1 (cE B).2.2 m s (nJ sts)).bk[fr]? = some (.live true sym cells)) (hpl:Plain cells) (hlen:cells.length=nn*es) (hn:nn≠0)
 (h2:∀id cap,(evS T (cE B).2.1 ((cE B).2.1.toList.drop m) m (aBr t fr (.v (lX nn (id,cap,cells))) (nE T (cE B).2.1 (cE B).2.2 m s (nJ sts))) (nJ (sts2 id cap))).map (·.2)=some (stB (sts2 id cap)))
 (ro2:∀id cap,roE base (evL T (cE B).2.1 m (aBr t fr (.v (lX nn (id,cap,cells))) (nE T (cE B).2.1 (cE B).2.2 m s (nJ sts))) (nJ (sts2 id cap))).bk (aBr t fr (.v (lX nn (id,cap,cells))) (nE T (cE B).2.1 (cE B).2.2 m s (nJ sts))).bk)
 (hrows:∀id cap j q,(rows' id cap)[j]? = some (some q)->(j=i/\q=(id,cap,cells))\/(j≠i/\rows[j]? = some (some q)))
 (hg:∀id cap,GoodT P r n Q cx D nn es (rows' id cap) k (evL T (cE B).2.1 m (aBr t fr (.v (lX nn (id,cap,cells))) (nE T (cE B).2.1 (cE B).2.2 m s (nJ sts))) (nJ (sts2 id cap)))) :
 GoodT P r n Q cx D nn es rows (.c B::k) s:=by
 subst hb
 rw [hB]
 intro ρ a W hrep htab
 simp only [iI]
 refine vR hT hm (Nat.le_of_ble_eq_true hms) (aCz h1) (aAr sts) (hrep.sub' (base:=cx.base) (fun i hi=>(hrep.old i hi).2)) (fun ρ1 a1 W1 hr1 hl1=>?_)
 have hrep1:=hrep.back (Nat.le_refl _) hr1 (aBp ro1)
 have htab1:=htab.back hr1
 obtain⟨id,cap,hrep2,hrow,hown,hown2⟩:=hrep1.hide ht hbb hpl hlen hn
 have htab2:=htab1.add hown2 hrow hown i (hrows id cap)
 refine aHb hT (Nat.le_of_ble_eq_true hms) (aHd (h2 id cap)) (aAr _) (cx:=Cx.only cx.base W1 ρ1 (lU ρ1 _)) (by
  rw [show(aBr t fr (.v (lX nn (id,cap,cells))) (nE T (cE B).2.1 (cE B).2.2 m s (nJ sts))).sl.length=(nE T (cE B).2.1 (cE B).2.2 m s (nJ sts)).sl.length by simp [aBr]]
  exact hrep2.sub' (base:=cx.base) (fun i hi=>(hrep2.old i hi).2)) (fun ρ3 a3 W3 hr3 hl3=>?_)
 exact hg id cap ρ3 a3 W3 (hrep2.back (Nat.le_refl _) hr3 (aBp (ro2 id cap))) (htab2.back hr3)
theorem GoodT.none {nn es:Nat} {rows:List (Option iF)} {k:List K} {s:LS} (hr:∀(i:Nat)(x:iF),rows[i]? ≠ some (some x))(h:GoodT P r n Q cx D nn es rows k s):Good P r n Q cx D k s:=fun ρ a W hrep =>
 h ρ a W hrep ⟨fun i r hi=>(hr i r hi).elim,fun i j r q _ hi=>(hr i r hi).elim⟩
def cO (nn:Nat):Option iF->List SV
 | none=>[.v (.slice none 0 0)]
 | some x=>[.v (lX nn x)]
theorem aBs {nn:Nat}:∀o,(cO nn o).length=1
 | Option.none=>rfl
 | some _=>rfl
theorem aFd {nn:Nat}:∀rows:List iF,flat (cO nn) (rows.map some)=flat (cR nn) rows
 | []=>rfl
 | x::l=>by
  have:=aFd (nn:=nn) l
  simp only [flat,List.map_cons,List.flatMap_cons] at this ⊢
  rw [this];rfl
section tab
variable {α : Type} {c : α → List SV} {nn : Nat}
def TabR (c:α->List SV)(nn:Nat):List (Option iF)->List (List α)->Prop
 | [],[]=>True
 | o::v,l::m=>(match o with
  | none=>l=[]
  | some x=>l.length=nn/\x.2.2=flat c l)/\TabR c nn v m
 | _,_=>False
theorem TabR.length:∀{v:List (Option iF)} {m:List (List α)},TabR c nn v m->v.length=m.length
 | [],[],_=>rfl
 | [],_::_,h=>by simp [TabR] at h
 | _::_,[],h=>by simp [TabR] at h
 | _::_,_::_,h=>by simp only [TabR] at h;simp [TabR.length h.2]
theorem TabR.rep:∀n:Nat,TabR c nn (List.replicate n Option.none) (List.replicate n [])
 | 0=>trivial
 | n+1=>⟨rfl,TabR.rep n⟩
theorem TabR.get:∀{v:List (Option iF)} {m:List (List α)},TabR c nn v m->∀(i:Nat),i < m.length->(m.getD i []).length=nn->nn≠0->∃x:iF,v[i]? = some (some x)/\x.2.2=flat c (m.getD i [])
 | [],[],_,i,h,_,_=>by simp at h
 | [],_::_,h,_,_,_,_=>by simp [TabR] at h
 | _::_,[],h,_,_,_,_=>by simp [TabR] at h
 | o::v,l::m,h,0,_,hl,hn=>by
  simp only [TabR] at h
  simp only [List.getD_cons_zero] at hl ⊢
  cases o with
  | none=>simp only at h;rw [h.1] at hl;exact(hn hl.symm).elim
  | some x=>exact⟨x,rfl,h.1.2⟩
 | o::v,l::m,h,i+1,hi,hl,hn=>by
  simp only [TabR] at h
  simp only [List.getD_cons_succ] at hl ⊢
  simpa using TabR.get h.2 i (by simpa using hi) hl hn
theorem TabR.set:∀{v:List (Option iF)} {m:List (List α)},TabR c nn v m->∀(i:Nat) (x:iF) (l:List α),l.length=nn->x.2.2=flat c l->TabR c nn (v.set i (some x)) (m.set i l)
 | [],[],_,i,x,l,h1,h2=>trivial
 | [],_::_,h,_,_,_,_,_=>by simp [TabR] at h
 | _::_,[],h,_,_,_,_,_=>by simp [TabR] at h
 | o::v,l0::m,h,0,x,l,h1,h2=>by simp only [TabR] at h;exact⟨⟨h1,h2⟩,h.2⟩
 | o::v,l0::m,h,i+1,x,l,h1,h2=>by simp only [TabR] at h;exact⟨h.1,TabR.set h.2 i x l h1 h2⟩
theorem TabR.snoc:∀{v:List (Option iF)} {m:List (List α)},TabR c nn v m->∀(x:iF) (l:List α),l.length=nn->x.2.2=flat c l->TabR c nn (v++[some x]) (m++[l])
 | [],[],_,x,l,h1,h2=>⟨⟨h1,h2⟩,trivial⟩
 | [],_::_,h,_,_,_,_=>by simp [TabR] at h
 | _::_,[],h,_,_,_,_=>by simp [TabR] at h
 | o::v,l0::m,h,x,l,h1,h2=>by simp only [TabR] at h;exact⟨h.1,TabR.snoc h.2 x l h1 h2⟩
theorem TabR.rows {es:Nat} {cT:List α->List SV} (hcT:∀l,cT l=[.d (flat c l) l.length es])(hn:nn≠0):∀{v:List (Option iF)} {m:List (List α)},TabR c nn v m->(∀(i:Nat),i < m.length->(m.getD i []).length=nn)->∃rows:List iF,v=rows.map some/\flat (cD nn es) rows=flat cT m
 | [],[],_,_=>⟨[],rfl,rfl⟩
 | [],_::_,h,_=>by simp [TabR] at h
 | _::_,[],h,_=>by simp [TabR] at h
 | o::v,l::m,h,hl=>by
  simp only [TabR] at h
  obtain⟨rows,rfl,e⟩:=TabR.rows hcT hn h.2 (fun i hi=>by have:=hl (i+1) (by simpa using hi);simpa using this)
  have h0:=hl 0 (by simp)
  simp only [List.getD_cons_zero] at h0
  cases o with
  | none=>simp only at h;rw [h.1] at h0;exact(hn h0.symm).elim
  | some x =>
   refine⟨x::rows,rfl,?_⟩
   simp only [flat,List.flatMap_cons] at e ⊢
   rw [e,hcT]
   simp only [cD]
   rw [h.1.2,h0]<;>rfl
theorem TabR.rows' {α:Type} {c:α->List SV} {nn es:Nat} {cT:List α->List SV} (hcT:∀l,cT l=[.d (flat c l) l.length es]) {v:List (Option iF)} {m:List (List α)} (h:TabR c nn v m)(hm:m.length=nn)(hl:∀(i:Nat),i < m.length->(m.getD i []).length=nn):∃rows:List iF,v=rows.map some/\flat (cD nn es) rows=flat cT m:=by
 by_cases hn:nn=0
 ·have e:=h.length
  obtain rfl:m=[]:=List.eq_nil_of_length_eq_zero (by omega)
  obtain rfl:v=[]:=List.eq_nil_of_length_eq_zero e
  exact⟨[],rfl,rfl⟩
 ·exact h.rows hcT hn hl
end tab
theorem aPh {rows:List (Option iF)} {i:Nat} {x:iF}:∀(j:Nat) (q:iF),(rows.set i (some x))[j]? = some (some q)->(j=i/\q=x)\/(j≠i/\rows[j]? = some (some q)):=fun j q hj=>by
 rw [List.getElem?_set] at hj
 split at hj
 ·rename_i hji
  subst hji
  split at hj
  ·first | (simp only [bG] at hj;exact .inl ⟨rfl,hj.symm⟩) | cases hj
  ·cases hj
 ·rename_i hji;exact .inr ⟨fun e=>hji e.symm,hj⟩
theorem aPi {rows:List (Option iF)} {x:iF}:∀(j:Nat) (q:iF),(rows++[some x])[j]? = some (some q)->(j=rows.length/\q=x)\/(j≠rows.length/\rows[j]? = some (some q)):=fun j q hj=>by
 rcases Nat.lt_trichotomy j rows.length with h | h | h
 ·rw [List.getElem?_append_left h] at hj;exact .inr ⟨by omega,hj⟩
 ·subst h;rw [List.getElem?_append_right (Nat.le_refl _)] at hj
  simp at hj;exact .inl ⟨rfl,hj.symm⟩
 ·rw [List.getElem?_eq_none (by simp;omega)] at hj;cases hj
theorem aPj {n:Nat}:∀(i:Nat) (x:iF),(List.replicate n (Option.none:Option iF))[i]? ≠ some (some x):=fun i x h=>by
 rw [List.getElem?_replicate] at h
 split at h<;>simp at h
theorem aPk {nn:Nat} {v:List (Option iF)} {i:Int} (h:0<=i/\i < (v.length:Int)) {x:iF} (hx:v[i.toNat]? = some (some x)):((flat (cO nn) v).drop (0+i.toNat*1)).take 1=[.v (lX nn x)]:=by
 have e:=aKe (c:=cO nn) aBs Option.none v i 0 1 h (Nat.le_refl 1) (off:=0+i.toNat*1) (by omega) (r:=cO nn (some x)) (by
  rw [fP,hx];rfl)
 exact e
end
end Go.Aw
