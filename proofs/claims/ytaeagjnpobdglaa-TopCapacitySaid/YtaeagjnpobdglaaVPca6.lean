/-
  Parts of the proofs of the laws: the executor, what functions of the program compute, and that it is what the statements ask. No premise.
-/
import Derived.Test.YtaeagjnpobdglaaVPca5
set_option linter.unusedVariables false
set_option linter.unusedSimpArgs false
set_option maxHeartbeats 4000000
open Int (toNat)
namespace Go.Proofs.Ytaeagjnpobdglaa
open Go.Proofs Go.Aw Go.RowKit
set_option maxRecDepth 100000
def F38 (a0:Zm):(Zm)×Int :=
 (bif (((bN (a0.1,a0.2)):Int) != 0) then
  default
 else
  ((a0.1,a0.2),0))
theorem C38 (a0:Zm)(l0_1:a0.1.length≤9223372036854775807)(l0_2:a0.2.length≤9223372036854775807)(hv:bN a0=0):Con Try.prog 38 [(.a [(.s 0 0 a0.1.length 3),(.s 1 0 a0.2.length 3)])] [(.live false true (flat cA a0.1)),(.live false true (flat cN a0.2))] (.t [(.a [(.s 0 0 a0.1.length 3),(.s 1 0 a0.2.length 3)]),(iv (F38 a0).2)]) []:=by
 refine aI Try.func38 (by kernel_rfl) fun cx hcx=>?_
 let t0:List (St Try.prog):=[.c [0,1] (C31 (a0.1,a0.2) (by(try simp only [Lt]);omega) (by(try simp only [Lt]);omega))]
 cases h0:(((bN (a0.1,a0.2)):Int) != 0) with
 | true =>
  have q0:=bne_iff_ne.1 h0
  exact absurd hv (bne_iff_ne.1 h0)
 | false =>
  have q0:=bne_eq_false_iff_eq.1 h0
  have e:=Eq.refl (F38 a0);conv at e=>rhs;simp only [F38,h0,aK]
  rw [e]
  exact rt (t0++[.d h0]) [] [] hcx (by kernel_rfl)
def dG (a0:List Zt):List Zt :=
 (([]:List Zt)++a0)
theorem aPt (a0:List Zt)(l0:a0.length≤9223372036854775807)(hne:a0.length≠0)(h40:a0.length≤1048576):Con Try.prog 72 [(.s 0 0 a0.length 3)] [(.live false true (flat cN a0))] (.s 1 0 (dG a0).length 3) [(.live true true (flat cN (dG a0)))]:=by
 refine aI Try.func72 (by kernel_rfl) fun cx hcx=>?_
 have e:=Eq.refl (dG a0);conv at e=>rhs;simp only [dG]
 rw [e]
 rw [show flat cN (([]:List Zt)++a0)=(([]:List SV)++(flat cN a0)) from Eq.symm (by simp [flat])]
 rw [show(([]:List Zt)++a0).length=(0+a0.length) from by simp]
 exact rt [.p (show(a0.length:Nat)≠0 from by first | omega | (rw [aD]<;>omega) | exact jZ _),.F,.p (show(([]:List SV).length=0*3∧(flat cN a0).length=a0.length*3∧(flat cN a0).all SV.one=true∧0+a0.length≤2 ^ 40∧(0+a0.length)*24≤2 ^ 47) from by refine⟨?_,?_,?_,?_,?_⟩<;>first | omega | exact aF9 (fun _=>rfl) | (simp [jO eG];done) | (simp [jO eG];omega))] [] [2] hcx (by kernel_rfl)
def aGm (a0:List (Int)):List (Int) :=
 (([]:List (Int))++a0)
theorem aYu (a0:List (Int))(l0:a0.length≤9223372036854775807)(hne:a0.length≠0)(h40:a0.length≤1048576):Con Try.prog 46 [(.s 0 0 a0.length 1)] [(.live false true (flat c3 a0))] (.s 1 0 (aGm a0).length 1) [(.live true true (flat c3 (aGm a0)))]:=by
 refine aI Try.func46 (by kernel_rfl) fun cx hcx=>?_
 have e:=Eq.refl (aGm a0);conv at e=>rhs;simp only [aGm]
 rw [e]
 rw [show flat c3 (([]:List (Int))++a0)=(([]:List SV)++(flat c3 a0)) from Eq.symm (by simp [flat])]
 rw [show(([]:List (Int))++a0).length=(0+a0.length) from by simp]
 exact rt [.p (show(a0.length:Nat)≠0 from by first | omega | (rw [aD]<;>omega) | exact jZ _),.F,.p (show(([]:List SV).length=0*1∧(flat c3 a0).length=a0.length*1∧(flat c3 a0).all SV.one=true∧0+a0.length≤2 ^ 40∧(0+a0.length)*8≤2 ^ 47) from by refine⟨?_,?_,?_,?_,?_⟩<;>first | omega | exact aF9 (fun _=>rfl) | (simp [jO oM];done) | (simp [jO oM];omega))] [] [2] hcx (by kernel_rfl)
def F50 (a0:Zt):Zt :=
 ((W (0 - a0.1)),a0.2.1,a0.2.2)
theorem C50 (a0:Zt):Con Try.prog 50 [(.a (k3 a0))] [] (.a (k3 (F50 a0))) []:=by
 refine aI Try.func50 (by kernel_rfl) fun cx hcx=>?_
 have e:=Eq.refl (F50 a0);conv at e=>rhs;simp only [F50]
 rw [e]
 exact rt [] [] [] hcx (by kernel_rfl)
theorem xZ (a0:Zm)(l0_1:a0.1.length≤9223372036854775807)(l0_2:a0.2.length≤9223372036854775807)(h:(((bN (a0.1,a0.2)):Int) != 0)=true):Con Try.prog 38 [(.a [(.s 0 0 a0.1.length 3),(.s 1 0 a0.2.length 3)])] [(.live false true (flat cA a0.1)),(.live false true (flat cN a0.2))] (.t [(.a [(.v (.slice none 0 0)),(.v (.slice none 0 0))]),(iv (bN (a0.1,a0.2)))]) []:=by
 refine aI Try.func38 (by kernel_rfl) fun cx hcx=>?_
 exact rt [.c [0,1] (C31 (a0.1,a0.2) l0_1 l0_2),.d h] [] [] hcx (by kernel_rfl)
theorem uA (a0:Zm)(l0_1:a0.1.length≤9223372036854775807)(l0_2:a0.2.length≤9223372036854775807)(h:(((bN (a0.1,a0.2)):Int) != 0)=false):Con Try.prog 38 [(.a [(.s 0 0 a0.1.length 3),(.s 1 0 a0.2.length 3)])] [(.live false true (flat cA a0.1)),(.live false true (flat cN a0.2))] (.t [(.a [(.s 0 0 a0.1.length 3),(.s 1 0 a0.2.length 3)]),(iv 0)]) []:=by
 have e:F38 a0=(a0,0):=by unfold F38;rw [h,cond_false]
 have hc:=C38 a0 l0_1 l0_2 (bne_eq_false_iff_eq.1 h)
 rw [e] at hc
 exact hc
def xK (a0:Zt)(a1:Int):Zt :=
 (F34 (0,0,0) a1 a0)
theorem C52 (a0:Zt)(a1:Int):Con Try.prog 52 [(.a (k3 a0)),(.p 0 0)] [(.live false false [(iv a1)])] (.a (k3 (xK a0 a1))) []:=by
 refine aI Try.func52 (by kernel_rfl) fun cx hcx=>?_
 have e:=Eq.refl (xK a0 a1);conv at e=>rhs;simp only [xK]
 rw [e]
 exact rt [.c [] (C34 (0,0,0) a1 a0)] [] [] hcx (by kernel_rfl)
noncomputable def pT:Code:=(aF [1,1,1,0,1] [] (aG Try.f48) []).1
noncomputable def pU:List K:=(aF [1,1,1,0,1] [] (aG Try.f48) []).2
def nG (a0:Zm)(a1:Bool)(a2_0:Int)(v5c:List SV)(v5n:Nat)(v6c:List SV)(v6n:Nat)(v7:Int):LS:=⟨lZ 58 [(1,(.v (.bool a1))),(6,(.p 3 0)),(8,(.p 4 0)),(34,(.s 1 0 a0.2.length 3)),(35,(iv (a0.2.length:Int))),(36,(iv v7))],[(.live false true (flat cA a0.1)),(.live false true (flat cN a0.2)),(.live false false [(iv a2_0)]),(.live true false [(.v (.slice none 0 0)),(.v (.slice none 0 0))]),(.live true false [(.s 5 0 v5n 3),(.s 6 0 v6n 3)]),(.live true true v5c),(.live true true v6c)]⟩
def bQ (a0:Zm)(a1:Bool)(a2_0:Int):(List Zt)×(List Zt)×Int→((List Zt)×(List Zt)×Int)⊕((Zm)×Int)
 | (v5,v6,v7) =>
  (bif (decide ((v7:Int) < (a0.2.length:Int))) then
   (bif a1 then
    (.inl (v5,(v6.set (toNat v7) ((a0.2.getD (toNat v7) default).1,(a0.2.getD (toNat v7) default).2.2,(a0.2.getD (toNat v7) default).2.1)),(v7+1)))
   else
    (.inl (v5,v6,(v7+1))))
  else
   (bif (((bN ((v5,v6).1,(v5,v6).2)):Int) != 0) then
    (.inr ((([]:List Zt),([]:List Zt)),(bN ((v5,v6).1,(v5,v6).2))))
   else
    (.inr ((v5,v6),0))))
noncomputable def vX:Code:=(aF [1,1,0,1] [] (aG Try.f48) []).1
noncomputable def vY:List K:=(aF [1,1,0,1] [] (aG Try.f48) []).2
def sD (a0:Zm)(a1:Bool)(a2_0:Int)(v2c:List SV)(v2n:Nat)(v3:Int):LS:=⟨lZ 58 [(1,(.v (.bool a1))),(2,(.f 52 [(.p 2 0)])),(3,(.p 3 0)),(6,(.p 4 0)),(8,(.p 5 0)),(18,(.s 0 0 a0.1.length 3)),(19,(iv (a0.1.length:Int))),(20,(iv v3))],[(.live false true (flat cA a0.1)),(.live false true (flat cN a0.2)),(.live false false [(iv a2_0)]),(.live true false [(.s 0 0 a0.1.length 3),(.s 1 0 a0.2.length 3)]),(.live true false [(.v (.slice none 0 0)),(.v (.slice none 0 0))]),(.live true false [(.s 6 0 v2n 3),(.s 7 0 (dG a0.2).length 3)]),(.live true true v2c),(.live true true (flat cN (dG a0.2)))]⟩
def dB (a0:Zm)(a1:Bool)(a2_0:Int):(List Zt)×Int→((List Zt)×Int)⊕((Zm)×Int)
 | (v2,v3) =>
  (bif (decide ((v3:Int) < (a0.1.length:Int))) then
   (.inl ((v2++[(xK (a0.1.getD (toNat v3) default) a2_0)]),(v3+1)))
  else
   (.inr (aB (bQ a0 a1 a2_0) (toNat ((a0.2.length:Int) - 0)+1) (v2,(dG a0.2),0))))
theorem aLm (a0:Zm)(a1:Bool)(a2_0:Int)(l0_1:a0.1.length≤9223372036854775807)(l0_2:a0.2.length≤9223372036854775807)(hv:bN a0=0) {cx:Cx} (hcx:cx.base=3):∀(n:Nat)(v5:List Zt)(v6:List Zt)(v7:Int),(0≤v7)∧(v6.length=a0.2.length)∧(v7≤a0.2.length)∧(v5.length≤64)→toNat ((a0.2.length:Int) - v7) < n→Aw.Good Try.prog none 9 (bodyPost Try.prog Try.f48 (RR cx (.t [(.a [(.s 3 0 (aB (bQ a0 a1 a2_0) n (v5,v6,v7)).1.1.length 3),(.s 4 0 (aB (bQ a0 a1 a2_0) n (v5,v6,v7)).1.2.length 3)]),(iv (aB (bQ a0 a1 a2_0) n (v5,v6,v7)).2)]) [(.live true true (flat cA (aB (bQ a0 a1 a2_0) n (v5,v6,v7)).1.1)),(.live true true (flat cN (aB (bQ a0 a1 a2_0) n (v5,v6,v7)).1.2))] [])) cx [] (.l pT n::pU) (nG a0 a1 a2_0 (flat cA v5) v5.length (flat cN v6) v6.length v7):=by
 intro n
 induction n with
 | zero=>intro v5 v6 v7 hi hn;exact absurd hn (nM _)
 | succ n ih =>
   intro v5 v6 v7 hi hn
   refine aL ?_
   have hpf:=bI hv
   have hcl:(dG a0.2).length=a0.2.length:=rfl
   cases h0:(decide ((v7:Int) < (a0.2.length:Int))) with
   | true =>
    have q0:=eK h0
    let t1:List (St Try.prog):=[.d h0,.i v7 (a0.2.length),.L eG a0.2 v7 0 3]
    rcases aDg a1 with h1 | h1
    · skip
      have e:=Eq.refl (bQ a0 a1 a2_0 (v5,v6,v7));conv at e=>rhs;simp only [bQ,h0,h1,aK]
      rw [aC e]
      refine ba (t1++[.d h1,.i 0 3 (by decide),.i 2 3 (by decide),.i 1 3 (by decide),.i v7 (v6.length),.p (show((0+toNat v7*3)+3≤(flat cN v6).length) from(jP eG (by first | omega | (simp only [Lt];omega)) (o:=0) (Nb rfl)))]) [] [1,6,8,34,35,36] [3,4,5,6] hcx (m:=n) pT (pU) (nG a0 a1 a2_0 (flat cA v5) (v5.length) (splice (flat cN v6) (0+toNat v7*3) [(iv (a0.2.getD (toNat v7) default).1),(iv (a0.2.getD (toNat v7) default).2.2),(iv (a0.2.getD (toNat v7) default).2.1)]) (v6.length) (W (v7+1))) (by kernel_rfl) ?_
      have z0:(W (v7+1))=(v7+1):=aD (by omega) (by omega)
      have z1:(splice (flat cN v6) (0+toNat v7*3) [(iv (a0.2.getD (toNat v7) default).1),(iv (a0.2.getD (toNat v7) default).2.2),(iv (a0.2.getD (toNat v7) default).2.1)])=flat cN (v6.set (toNat v7) ((a0.2.getD (toNat v7) default).1,(a0.2.getD (toNat v7) default).2.2,(a0.2.getD (toNat v7) default).2.1)):=(gJ eG (by first | omega | (simp only [Lt];omega)) (o:=0) (d:=default) (Nb rfl) rfl)
      have z2:v6.length=(v6.set (toNat v7) ((a0.2.getD (toNat v7) default).1,(a0.2.getD (toNat v7) default).2.2,(a0.2.getD (toNat v7) default).2.1)).length:=by simp
      rw [z0,z1,z2]
      exact ih v5 (v6.set (toNat v7) ((a0.2.getD (toNat v7) default).1,(a0.2.getD (toNat v7) default).2.2,(a0.2.getD (toNat v7) default).2.1)) (v7+1) (by refine⟨?_,?_,?_,?_⟩<;>(try simp only [Ls])<;>first | omega | assumption | simp) (by(try simp only [Ls]);omega)
    · skip
      have e:=Eq.refl (bQ a0 a1 a2_0 (v5,v6,v7));conv at e=>rhs;simp only [bQ,h0,h1,aK]
      rw [aC e]
      refine ba (t1++[.d h1]) [] [1,6,8,34,35,36] [3,4,5,6] hcx (m:=n) pT (pU) (nG a0 a1 a2_0 (flat cA v5) (v5.length) (flat cN v6) (v6.length) (W (v7+1))) (by kernel_rfl) ?_
      have z0:(W (v7+1))=(v7+1):=aD (by omega) (by omega)
      rw [z0]
      exact ih v5 v6 (v7+1) (by refine⟨?_,?_,?_,?_⟩<;>(try simp only [Ls])<;>first | omega | assumption | simp) (by(try simp only [Ls]);omega)
   | false =>
    have q0:=fK h0
    let t1:List (St Try.prog):=[.d h0]
    cases h1:(((bN ((v5,v6).1,(v5,v6).2)):Int) != 0) with
    | true =>
     have q1:=bne_iff_ne.1 h1
     have e:=Eq.refl (bQ a0 a1 a2_0 (v5,v6,v7));conv at e=>rhs;simp only [bQ,h0,h1,aK]
     rw [aH,e]
     exact rt (t1++[.c [5,6] (xZ (v5,v6) (by(try simp only [Lt]);omega) (by(try simp only [Lt]);omega) h1)]) [.cell 3 0 3,.cell 3 1 3] [7,8] hcx (by kernel_rfl)
    | false =>
     have q1:=bne_eq_false_iff_eq.1 h1
     have e:=Eq.refl (bQ a0 a1 a2_0 (v5,v6,v7));conv at e=>rhs;simp only [bQ,h0,h1,aK]
     rw [aH,e]
     exact rt (t1++[.c [5,6] (uA (v5,v6) (by(try simp only [Lt]);omega) (by(try simp only [Lt]);omega) h1)]) [] [5,6] hcx (by kernel_rfl)
theorem aLn (a0:Zm)(a1:Bool)(a2_0:Int)(l0_1:a0.1.length≤9223372036854775807)(l0_2:a0.2.length≤9223372036854775807)(hv:bN a0=0) {cx:Cx} (hcx:cx.base=3):∀(n:Nat)(v2:List Zt)(v3:Int),(0≤v3)∧(v2.length=toNat v3)∧(v3≤a0.1.length)→toNat ((a0.1.length:Int) - v3) < n→Aw.Good Try.prog none 9 (bodyPost Try.prog Try.f48 (RR cx (.t [(.a [(.s 3 0 (aB (dB a0 a1 a2_0) n (v2,v3)).1.1.length 3),(.s 4 0 (aB (dB a0 a1 a2_0) n (v2,v3)).1.2.length 3)]),(iv (aB (dB a0 a1 a2_0) n (v2,v3)).2)]) [(.live true true (flat cA (aB (dB a0 a1 a2_0) n (v2,v3)).1.1)),(.live true true (flat cN (aB (dB a0 a1 a2_0) n (v2,v3)).1.2))] [])) cx [] (.l vX n::vY) (sD a0 a1 a2_0 (flat cA v2) v2.length v3):=by
 intro n
 induction n with
 | zero=>intro v2 v3 hi hn;exact absurd hn (nM _)
 | succ n ih =>
   intro v2 v3 hi hn
   refine aL ?_
   have hpf:=bI hv
   have hcl:(dG a0.2).length=a0.2.length:=rfl
   cases h0:(decide ((v3:Int) < (a0.1.length:Int))) with
   | true =>
    have q0:=eK h0
    have e:=Eq.refl (dB a0 a1 a2_0 (v2,v3));conv at e=>rhs;simp only [dB,h0,aK]
    rw [aC e]
    refine ba [.d h0,.i v3 (a0.1.length),.L dQ a0.1 v3 0 3,.c [2] (C52 (a0.1.getD (toNat v3) default) a2_0),.p (show((flat cA v2).length=v2.length*3∧v2.length+1≤2 ^ 40∧(v2.length+1)*24≤2 ^ 47) from gV dQ (by omega) (by omega))] [] [1,2,3,6,8,18,19,20] [3,4,5,10,7] hcx (m:=n) vX (vY) (sD a0 a1 a2_0 (flat cA v2++(k3 (xK (a0.1.getD (toNat v3) default) a2_0))) (v2.length+1) (W (v3+1))) (by kernel_rfl) ?_
    have z0:(W (v3+1))=(v3+1):=aD (by omega) (by omega)
    have z1:(flat cA v2++(k3 (xK (a0.1.getD (toNat v3) default) a2_0)))=(flat cA (v2++[(xK (a0.1.getD (toNat v3) default) a2_0)])):=(bV (c:=cA) (l:=v2) (m:=[(xK (a0.1.getD (toNat v3) default) a2_0)])).symm
    have z2:(v2.length+1)=(v2++[(xK (a0.1.getD (toNat v3) default) a2_0)]).length:=fE v2 [(xK (a0.1.getD (toNat v3) default) a2_0)] rfl
    rw [z0,z1,z2]
    exact ih (v2++[(xK (a0.1.getD (toNat v3) default) a2_0)]) (v3+1) (by refine⟨?_,?_,?_⟩<;>(try simp only [Ls])<;>first | omega | assumption | simp) (by(try simp only [Ls]);omega)
   | false =>
    have q0:=fK h0
    have e:=Eq.refl (dB a0 a1 a2_0 (v2,v3));conv at e=>rhs;simp only [dB,h0,aK]
    rw [aH,e]
    refine en [.d h0] [] [1,6,8,34,35,36] [4,5,6,7] hcx pT (pU) (nG a0 a1 a2_0 (flat cA v2) (v2.length) (flat cN (dG a0.2)) ((dG a0.2).length) 0) (toNat ((a0.2.length:Int) - 0)+1) (by kernel_rfl) ?_
    exact aLm a0 a1 a2_0 l0_1 l0_2 hv hcx (toNat ((a0.2.length:Int) - 0)+1) v2 (dG a0.2) 0 (by refine⟨?_,?_,?_,?_⟩<;>(try simp only [Ls])<;>first | omega | assumption | simp) (by(try simp only [Ls]);omega)
def fT (a0:Zm)(a1:Bool)(a2_0:Int):(Zm)×Int :=
 (aB (dB a0 a1 a2_0) (toNat ((a0.1.length:Int) - 0)+1) (([]:List Zt),0))
theorem aSa (a0:Zm)(a1:Bool)(a2_0:Int)(l0_1:a0.1.length≤9223372036854775807)(l0_2:a0.2.length≤9223372036854775807)(hv:bN a0=0):Con Try.prog 48 [(.a [(.s 0 0 a0.1.length 3),(.s 1 0 a0.2.length 3)]),(.v (.bool a1)),(.f 52 [(.p 2 0)])] [(.live false true (flat cA a0.1)),(.live false true (flat cN a0.2)),(.live false false [(iv a2_0)])] (.t [(.a [(.s 3 0 (fT a0 a1 a2_0).1.1.length 3),(.s 4 0 (fT a0 a1 a2_0).1.2.length 3)]),(iv (fT a0 a1 a2_0).2)]) [(.live true true (flat cA (fT a0 a1 a2_0).1.1)),(.live true true (flat cN (fT a0 a1 a2_0).1.2))]:=by
 refine aI Try.func48 (by kernel_rfl) fun cx hcx=>?_
 have hpf:=bI hv
 have hcl:(dG a0.2).length=a0.2.length:=rfl
 have e:=Eq.refl (fT a0 a1 a2_0);conv at e=>rhs;simp only [fT]
 rw [e]
 refine en [.c [1] (aPt a0.2 (by omega) (by omega) (by omega))] [.cell 6 0 3] [1,2,3,6,8,18,19,20] [3,4,6,7,5] hcx vX (vY) (sD a0 a1 a2_0 (flat cA ([]:List Zt)) 0 0) (toNat ((a0.1.length:Int) - 0)+1) (by kernel_rfl) ?_
 exact aLn a0 a1 a2_0 l0_1 l0_2 hv hcx (toNat ((a0.1.length:Int) - 0)+1) ([]:List Zt) 0 (by refine⟨?_,?_,?_⟩<;>(try simp only [Ls])<;>first | omega | assumption | simp) (by(try simp only [Ls]);omega)
def F49 (a0:Zt)(a1:Zt):Zt :=
 (F34 a0 1 a1)
theorem C49 (a0:Zt)(a1:Zt):Con Try.prog 49 [(.a (k3 a0)),(.p 0 0)] [(.live false false (k3 a1))] (.a (k3 (F49 a0 a1))) []:=by
 refine aI Try.func49 (by kernel_rfl) fun cx hcx=>?_
 have e:=Eq.refl (F49 a0 a1);conv at e=>rhs;simp only [F49]
 rw [e]
 exact rt [.c [] (C34 a0 1 a1)] [] [] hcx (by kernel_rfl)
noncomputable def pV:Code:=(aF [1,1,1,0,1] [] (aG Try.f48) []).1
noncomputable def pW:List K:=(aF [1,1,1,0,1] [] (aG Try.f48) []).2
def nH (a0:Zm)(a1:Bool)(a2_0:Zt)(v5c:List SV)(v5n:Nat)(v6c:List SV)(v6n:Nat)(v7:Int):LS:=⟨lZ 58 [(1,(.v (.bool a1))),(6,(.p 3 0)),(8,(.p 4 0)),(34,(.s 1 0 a0.2.length 3)),(35,(iv (a0.2.length:Int))),(36,(iv v7))],[(.live false true (flat cA a0.1)),(.live false true (flat cN a0.2)),(.live false false (k3 a2_0)),(.live true false [(.v (.slice none 0 0)),(.v (.slice none 0 0))]),(.live true false [(.s 5 0 v5n 3),(.s 6 0 v6n 3)]),(.live true true v5c),(.live true true v6c)]⟩
def bR (a0:Zm)(a1:Bool)(a2_0:Zt):(List Zt)×(List Zt)×Int→((List Zt)×(List Zt)×Int)⊕((Zm)×Int)
 | (v5,v6,v7) =>
  (bif (decide ((v7:Int) < (a0.2.length:Int))) then
   (bif a1 then
    (.inl (v5,(v6.set (toNat v7) ((a0.2.getD (toNat v7) default).1,(a0.2.getD (toNat v7) default).2.2,(a0.2.getD (toNat v7) default).2.1)),(v7+1)))
   else
    (.inl (v5,v6,(v7+1))))
  else
   (bif (((bN ((v5,v6).1,(v5,v6).2)):Int) != 0) then
    (.inr ((([]:List Zt),([]:List Zt)),(bN ((v5,v6).1,(v5,v6).2))))
   else
    (.inr ((v5,v6),0))))
noncomputable def vZ:Code:=(aF [1,1,0,1] [] (aG Try.f48) []).1
noncomputable def wA:List K:=(aF [1,1,0,1] [] (aG Try.f48) []).2
def sE (a0:Zm)(a1:Bool)(a2_0:Zt)(v2c:List SV)(v2n:Nat)(v3:Int):LS:=⟨lZ 58 [(1,(.v (.bool a1))),(2,(.f 49 [(.p 2 0)])),(3,(.p 3 0)),(6,(.p 4 0)),(8,(.p 5 0)),(18,(.s 0 0 a0.1.length 3)),(19,(iv (a0.1.length:Int))),(20,(iv v3))],[(.live false true (flat cA a0.1)),(.live false true (flat cN a0.2)),(.live false false (k3 a2_0)),(.live true false [(.s 0 0 a0.1.length 3),(.s 1 0 a0.2.length 3)]),(.live true false [(.v (.slice none 0 0)),(.v (.slice none 0 0))]),(.live true false [(.s 6 0 v2n 3),(.s 7 0 (dG a0.2).length 3)]),(.live true true v2c),(.live true true (flat cN (dG a0.2)))]⟩
def dC (a0:Zm)(a1:Bool)(a2_0:Zt):(List Zt)×Int→((List Zt)×Int)⊕((Zm)×Int)
 | (v2,v3) =>
  (bif (decide ((v3:Int) < (a0.1.length:Int))) then
   (.inl ((v2++[(F49 (a0.1.getD (toNat v3) default) a2_0)]),(v3+1)))
  else
   (.inr (aB (bR a0 a1 a2_0) (toNat ((a0.2.length:Int) - 0)+1) (v2,(dG a0.2),0))))
theorem aLo (a0:Zm)(a1:Bool)(a2_0:Zt)(l0_1:a0.1.length≤9223372036854775807)(l0_2:a0.2.length≤9223372036854775807)(hv:bN a0=0) {cx:Cx} (hcx:cx.base=3):∀(n:Nat)(v5:List Zt)(v6:List Zt)(v7:Int),(0≤v7)∧(v6.length=a0.2.length)∧(v7≤a0.2.length)∧(v5.length≤64)→toNat ((a0.2.length:Int) - v7) < n→Aw.Good Try.prog none 9 (bodyPost Try.prog Try.f48 (RR cx (.t [(.a [(.s 3 0 (aB (bR a0 a1 a2_0) n (v5,v6,v7)).1.1.length 3),(.s 4 0 (aB (bR a0 a1 a2_0) n (v5,v6,v7)).1.2.length 3)]),(iv (aB (bR a0 a1 a2_0) n (v5,v6,v7)).2)]) [(.live true true (flat cA (aB (bR a0 a1 a2_0) n (v5,v6,v7)).1.1)),(.live true true (flat cN (aB (bR a0 a1 a2_0) n (v5,v6,v7)).1.2))] [])) cx [] (.l pV n::pW) (nH a0 a1 a2_0 (flat cA v5) v5.length (flat cN v6) v6.length v7):=by
 intro n
 induction n with
 | zero=>intro v5 v6 v7 hi hn;exact absurd hn (nM _)
 | succ n ih =>
   intro v5 v6 v7 hi hn
   refine aL ?_
   have hpf:=bI hv
   have hcl:(dG a0.2).length=a0.2.length:=rfl
   cases h0:(decide ((v7:Int) < (a0.2.length:Int))) with
   | true =>
    have q0:=eK h0
    let t1:List (St Try.prog):=[.d h0,.i v7 (a0.2.length),.L eG a0.2 v7 0 3]
    rcases aDg a1 with h1 | h1
    · skip
      have e:=Eq.refl (bR a0 a1 a2_0 (v5,v6,v7));conv at e=>rhs;simp only [bR,h0,h1,aK]
      rw [aC e]
      refine ba (t1++[.d h1,.i 0 3 (by decide),.i 2 3 (by decide),.i 1 3 (by decide),.i v7 (v6.length),.p (show((0+toNat v7*3)+3≤(flat cN v6).length) from(jP eG (by first | omega | (simp only [Lt];omega)) (o:=0) (Nb rfl)))]) [] [1,6,8,34,35,36] [3,4,5,6] hcx (m:=n) pV (pW) (nH a0 a1 a2_0 (flat cA v5) (v5.length) (splice (flat cN v6) (0+toNat v7*3) [(iv (a0.2.getD (toNat v7) default).1),(iv (a0.2.getD (toNat v7) default).2.2),(iv (a0.2.getD (toNat v7) default).2.1)]) (v6.length) (W (v7+1))) (by kernel_rfl) ?_
      have z0:(W (v7+1))=(v7+1):=aD (by omega) (by omega)
      have z1:(splice (flat cN v6) (0+toNat v7*3) [(iv (a0.2.getD (toNat v7) default).1),(iv (a0.2.getD (toNat v7) default).2.2),(iv (a0.2.getD (toNat v7) default).2.1)])=flat cN (v6.set (toNat v7) ((a0.2.getD (toNat v7) default).1,(a0.2.getD (toNat v7) default).2.2,(a0.2.getD (toNat v7) default).2.1)):=(gJ eG (by first | omega | (simp only [Lt];omega)) (o:=0) (d:=default) (Nb rfl) rfl)
      have z2:v6.length=(v6.set (toNat v7) ((a0.2.getD (toNat v7) default).1,(a0.2.getD (toNat v7) default).2.2,(a0.2.getD (toNat v7) default).2.1)).length:=by simp
      rw [z0,z1,z2]
      exact ih v5 (v6.set (toNat v7) ((a0.2.getD (toNat v7) default).1,(a0.2.getD (toNat v7) default).2.2,(a0.2.getD (toNat v7) default).2.1)) (v7+1) (by refine⟨?_,?_,?_,?_⟩<;>(try simp only [Ls])<;>first | omega | assumption | simp) (by(try simp only [Ls]);omega)
    · skip
      have e:=Eq.refl (bR a0 a1 a2_0 (v5,v6,v7));conv at e=>rhs;simp only [bR,h0,h1,aK]
      rw [aC e]
      refine ba (t1++[.d h1]) [] [1,6,8,34,35,36] [3,4,5,6] hcx (m:=n) pV (pW) (nH a0 a1 a2_0 (flat cA v5) (v5.length) (flat cN v6) (v6.length) (W (v7+1))) (by kernel_rfl) ?_
      have z0:(W (v7+1))=(v7+1):=aD (by omega) (by omega)
      rw [z0]
      exact ih v5 v6 (v7+1) (by refine⟨?_,?_,?_,?_⟩<;>(try simp only [Ls])<;>first | omega | assumption | simp) (by(try simp only [Ls]);omega)
   | false =>
    have q0:=fK h0
    let t1:List (St Try.prog):=[.d h0]
    cases h1:(((bN ((v5,v6).1,(v5,v6).2)):Int) != 0) with
    | true =>
     have q1:=bne_iff_ne.1 h1
     have e:=Eq.refl (bR a0 a1 a2_0 (v5,v6,v7));conv at e=>rhs;simp only [bR,h0,h1,aK]
     rw [aH,e]
     exact rt (t1++[.c [5,6] (xZ (v5,v6) (by(try simp only [Lt]);omega) (by(try simp only [Lt]);omega) h1)]) [.cell 3 0 3,.cell 3 1 3] [7,8] hcx (by kernel_rfl)
    | false =>
     have q1:=bne_eq_false_iff_eq.1 h1
     have e:=Eq.refl (bR a0 a1 a2_0 (v5,v6,v7));conv at e=>rhs;simp only [bR,h0,h1,aK]
     rw [aH,e]
     exact rt (t1++[.c [5,6] (uA (v5,v6) (by(try simp only [Lt]);omega) (by(try simp only [Lt]);omega) h1)]) [] [5,6] hcx (by kernel_rfl)
theorem aLp (a0:Zm)(a1:Bool)(a2_0:Zt)(l0_1:a0.1.length≤9223372036854775807)(l0_2:a0.2.length≤9223372036854775807)(hv:bN a0=0) {cx:Cx} (hcx:cx.base=3):∀(n:Nat)(v2:List Zt)(v3:Int),(0≤v3)∧(v2.length=toNat v3)∧(v3≤a0.1.length)→toNat ((a0.1.length:Int) - v3) < n→Aw.Good Try.prog none 9 (bodyPost Try.prog Try.f48 (RR cx (.t [(.a [(.s 3 0 (aB (dC a0 a1 a2_0) n (v2,v3)).1.1.length 3),(.s 4 0 (aB (dC a0 a1 a2_0) n (v2,v3)).1.2.length 3)]),(iv (aB (dC a0 a1 a2_0) n (v2,v3)).2)]) [(.live true true (flat cA (aB (dC a0 a1 a2_0) n (v2,v3)).1.1)),(.live true true (flat cN (aB (dC a0 a1 a2_0) n (v2,v3)).1.2))] [])) cx [] (.l vZ n::wA) (sE a0 a1 a2_0 (flat cA v2) v2.length v3):=by
 intro n
 induction n with
 | zero=>intro v2 v3 hi hn;exact absurd hn (nM _)
 | succ n ih =>
   intro v2 v3 hi hn
   refine aL ?_
   have hpf:=bI hv
   have hcl:(dG a0.2).length=a0.2.length:=rfl
   cases h0:(decide ((v3:Int) < (a0.1.length:Int))) with
   | true =>
    have q0:=eK h0
    have e:=Eq.refl (dC a0 a1 a2_0 (v2,v3));conv at e=>rhs;simp only [dC,h0,aK]
    rw [aC e]
    refine ba [.d h0,.i v3 (a0.1.length),.L dQ a0.1 v3 0 3,.c [2] (C49 (a0.1.getD (toNat v3) default) a2_0),.p (show((flat cA v2).length=v2.length*3∧v2.length+1≤2 ^ 40∧(v2.length+1)*24≤2 ^ 47) from gV dQ (by omega) (by omega))] [] [1,2,3,6,8,18,19,20] [3,4,5,10,7] hcx (m:=n) vZ (wA) (sE a0 a1 a2_0 (flat cA v2++(k3 (F49 (a0.1.getD (toNat v3) default) a2_0))) (v2.length+1) (W (v3+1))) (by kernel_rfl) ?_
    have z0:(W (v3+1))=(v3+1):=aD (by omega) (by omega)
    have z1:(flat cA v2++(k3 (F49 (a0.1.getD (toNat v3) default) a2_0)))=(flat cA (v2++[(F49 (a0.1.getD (toNat v3) default) a2_0)])):=(bV (c:=cA) (l:=v2) (m:=[(F49 (a0.1.getD (toNat v3) default) a2_0)])).symm
    have z2:(v2.length+1)=(v2++[(F49 (a0.1.getD (toNat v3) default) a2_0)]).length:=fE v2 [(F49 (a0.1.getD (toNat v3) default) a2_0)] rfl
    rw [z0,z1,z2]
    exact ih (v2++[(F49 (a0.1.getD (toNat v3) default) a2_0)]) (v3+1) (by refine⟨?_,?_,?_⟩<;>(try simp only [Ls])<;>first | omega | assumption | simp) (by(try simp only [Ls]);omega)
   | false =>
    have q0:=fK h0
    have e:=Eq.refl (dC a0 a1 a2_0 (v2,v3));conv at e=>rhs;simp only [dC,h0,aK]
    rw [aH,e]
    refine en [.d h0] [] [1,6,8,34,35,36] [4,5,6,7] hcx pV (pW) (nH a0 a1 a2_0 (flat cA v2) (v2.length) (flat cN (dG a0.2)) ((dG a0.2).length) 0) (toNat ((a0.2.length:Int) - 0)+1) (by kernel_rfl) ?_
    exact aLo a0 a1 a2_0 l0_1 l0_2 hv hcx (toNat ((a0.2.length:Int) - 0)+1) v2 (dG a0.2) 0 (by refine⟨?_,?_,?_,?_⟩<;>(try simp only [Ls])<;>first | omega | assumption | simp) (by(try simp only [Ls]);omega)
def fU (a0:Zm)(a1:Bool)(a2_0:Zt):(Zm)×Int :=
 (aB (dC a0 a1 a2_0) (toNat ((a0.1.length:Int) - 0)+1) (([]:List Zt),0))
theorem aSb (a0:Zm)(a1:Bool)(a2_0:Zt)(l0_1:a0.1.length≤9223372036854775807)(l0_2:a0.2.length≤9223372036854775807)(hv:bN a0=0):Con Try.prog 48 [(.a [(.s 0 0 a0.1.length 3),(.s 1 0 a0.2.length 3)]),(.v (.bool a1)),(.f 49 [(.p 2 0)])] [(.live false true (flat cA a0.1)),(.live false true (flat cN a0.2)),(.live false false (k3 a2_0))] (.t [(.a [(.s 3 0 (fU a0 a1 a2_0).1.1.length 3),(.s 4 0 (fU a0 a1 a2_0).1.2.length 3)]),(iv (fU a0 a1 a2_0).2)]) [(.live true true (flat cA (fU a0 a1 a2_0).1.1)),(.live true true (flat cN (fU a0 a1 a2_0).1.2))]:=by
 refine aI Try.func48 (by kernel_rfl) fun cx hcx=>?_
 have hpf:=bI hv
 have hcl:(dG a0.2).length=a0.2.length:=rfl
 have e:=Eq.refl (fU a0 a1 a2_0);conv at e=>rhs;simp only [fU]
 rw [e]
 refine en [.c [1] (aPt a0.2 (by omega) (by omega) (by omega))] [.cell 6 0 3] [1,2,3,6,8,18,19,20] [3,4,6,7,5] hcx vZ (wA) (sE a0 a1 a2_0 (flat cA ([]:List Zt)) 0 0) (toNat ((a0.1.length:Int) - 0)+1) (by kernel_rfl) ?_
 exact aLp a0 a1 a2_0 l0_1 l0_2 hv hcx (toNat ((a0.1.length:Int) - 0)+1) ([]:List Zt) 0 (by refine⟨?_,?_,?_⟩<;>(try simp only [Ls])<;>first | omega | assumption | simp) (by(try simp only [Ls]);omega)
noncomputable def pX:Code:=(aF [1,1,1,0,1] [] (aG Try.f48) []).1
noncomputable def pY:List K:=(aF [1,1,1,0,1] [] (aG Try.f48) []).2
def nI (a0:Zm)(a1:Bool)(v5c:List SV)(v5n:Nat)(v6c:List SV)(v6n:Nat)(v7:Int):LS:=⟨lZ 58 [(1,(.v (.bool a1))),(6,(.p 2 0)),(8,(.p 3 0)),(34,(.s 1 0 a0.2.length 3)),(35,(iv (a0.2.length:Int))),(36,(iv v7))],[(.live false true (flat cA a0.1)),(.live false true (flat cN a0.2)),(.live true false [(.v (.slice none 0 0)),(.v (.slice none 0 0))]),(.live true false [(.s 4 0 v5n 3),(.s 5 0 v6n 3)]),(.live true true v5c),(.live true true v6c)]⟩
def bS (a0:Zm)(a1:Bool):(List Zt)×(List Zt)×Int→((List Zt)×(List Zt)×Int)⊕((Zm)×Int)
 | (v5,v6,v7) =>
  (bif (decide ((v7:Int) < (a0.2.length:Int))) then
   (bif a1 then
    (.inl (v5,(v6.set (toNat v7) ((a0.2.getD (toNat v7) default).1,(a0.2.getD (toNat v7) default).2.2,(a0.2.getD (toNat v7) default).2.1)),(v7+1)))
   else
    (.inl (v5,v6,(v7+1))))
  else
   (bif (((bN ((v5,v6).1,(v5,v6).2)):Int) != 0) then
    (.inr ((([]:List Zt),([]:List Zt)),(bN ((v5,v6).1,(v5,v6).2))))
   else
    (.inr ((v5,v6),0))))
noncomputable def wB:Code:=(aF [1,1,0,1] [] (aG Try.f48) []).1
noncomputable def wC:List K:=(aF [1,1,0,1] [] (aG Try.f48) []).2
def sF (a0:Zm)(a1:Bool)(v2c:List SV)(v2n:Nat)(v3:Int):LS:=⟨lZ 58 [(1,(.v (.bool a1))),(2,(.v (.func (.func 50) #[] #[]))),(3,(.p 2 0)),(6,(.p 3 0)),(8,(.p 4 0)),(18,(.s 0 0 a0.1.length 3)),(19,(iv (a0.1.length:Int))),(20,(iv v3))],[(.live false true (flat cA a0.1)),(.live false true (flat cN a0.2)),(.live true false [(.s 0 0 a0.1.length 3),(.s 1 0 a0.2.length 3)]),(.live true false [(.v (.slice none 0 0)),(.v (.slice none 0 0))]),(.live true false [(.s 5 0 v2n 3),(.s 6 0 (dG a0.2).length 3)]),(.live true true v2c),(.live true true (flat cN (dG a0.2)))]⟩
def dD (a0:Zm)(a1:Bool):(List Zt)×Int→((List Zt)×Int)⊕((Zm)×Int)
 | (v2,v3) =>
  (bif (decide ((v3:Int) < (a0.1.length:Int))) then
   (.inl ((v2++[(F50 (a0.1.getD (toNat v3) default))]),(v3+1)))
  else
   (.inr (aB (bS a0 a1) (toNat ((a0.2.length:Int) - 0)+1) (v2,(dG a0.2),0))))
theorem aLq (a0:Zm)(a1:Bool)(l0_1:a0.1.length≤9223372036854775807)(l0_2:a0.2.length≤9223372036854775807)(hv:bN a0=0) {cx:Cx} (hcx:cx.base=2):∀(n:Nat)(v5:List Zt)(v6:List Zt)(v7:Int),(0≤v7)∧(v6.length=a0.2.length)∧(v7≤a0.2.length)∧(v5.length≤64)→toNat ((a0.2.length:Int) - v7) < n→Aw.Good Try.prog none 9 (bodyPost Try.prog Try.f48 (RR cx (.t [(.a [(.s 2 0 (aB (bS a0 a1) n (v5,v6,v7)).1.1.length 3),(.s 3 0 (aB (bS a0 a1) n (v5,v6,v7)).1.2.length 3)]),(iv (aB (bS a0 a1) n (v5,v6,v7)).2)]) [(.live true true (flat cA (aB (bS a0 a1) n (v5,v6,v7)).1.1)),(.live true true (flat cN (aB (bS a0 a1) n (v5,v6,v7)).1.2))] [])) cx [] (.l pX n::pY) (nI a0 a1 (flat cA v5) v5.length (flat cN v6) v6.length v7):=by
 intro n
 induction n with
 | zero=>intro v5 v6 v7 hi hn;exact absurd hn (nM _)
 | succ n ih =>
   intro v5 v6 v7 hi hn
   refine aL ?_
   have hpf:=bI hv
   have hcl:(dG a0.2).length=a0.2.length:=rfl
   cases h0:(decide ((v7:Int) < (a0.2.length:Int))) with
   | true =>
    have q0:=eK h0
    let t1:List (St Try.prog):=[.d h0,.i v7 (a0.2.length),.L eG a0.2 v7 0 3]
    rcases aDg a1 with h1 | h1
    · skip
      have e:=Eq.refl (bS a0 a1 (v5,v6,v7));conv at e=>rhs;simp only [bS,h0,h1,aK]
      rw [aC e]
      refine ba (t1++[.d h1,.i 0 3 (by decide),.i 2 3 (by decide),.i 1 3 (by decide),.i v7 (v6.length),.p (show((0+toNat v7*3)+3≤(flat cN v6).length) from(jP eG (by first | omega | (simp only [Lt];omega)) (o:=0) (Nb rfl)))]) [] [1,6,8,34,35,36] [2,3,4,5] hcx (m:=n) pX (pY) (nI a0 a1 (flat cA v5) (v5.length) (splice (flat cN v6) (0+toNat v7*3) [(iv (a0.2.getD (toNat v7) default).1),(iv (a0.2.getD (toNat v7) default).2.2),(iv (a0.2.getD (toNat v7) default).2.1)]) (v6.length) (W (v7+1))) (by kernel_rfl) ?_
      have z0:(W (v7+1))=(v7+1):=aD (by omega) (by omega)
      have z1:(splice (flat cN v6) (0+toNat v7*3) [(iv (a0.2.getD (toNat v7) default).1),(iv (a0.2.getD (toNat v7) default).2.2),(iv (a0.2.getD (toNat v7) default).2.1)])=flat cN (v6.set (toNat v7) ((a0.2.getD (toNat v7) default).1,(a0.2.getD (toNat v7) default).2.2,(a0.2.getD (toNat v7) default).2.1)):=(gJ eG (by first | omega | (simp only [Lt];omega)) (o:=0) (d:=default) (Nb rfl) rfl)
      have z2:v6.length=(v6.set (toNat v7) ((a0.2.getD (toNat v7) default).1,(a0.2.getD (toNat v7) default).2.2,(a0.2.getD (toNat v7) default).2.1)).length:=by simp
      rw [z0,z1,z2]
      exact ih v5 (v6.set (toNat v7) ((a0.2.getD (toNat v7) default).1,(a0.2.getD (toNat v7) default).2.2,(a0.2.getD (toNat v7) default).2.1)) (v7+1) (by refine⟨?_,?_,?_,?_⟩<;>(try simp only [Ls])<;>first | omega | assumption | simp) (by(try simp only [Ls]);omega)
    · skip
      have e:=Eq.refl (bS a0 a1 (v5,v6,v7));conv at e=>rhs;simp only [bS,h0,h1,aK]
      rw [aC e]
      refine ba (t1++[.d h1]) [] [1,6,8,34,35,36] [2,3,4,5] hcx (m:=n) pX (pY) (nI a0 a1 (flat cA v5) (v5.length) (flat cN v6) (v6.length) (W (v7+1))) (by kernel_rfl) ?_
      have z0:(W (v7+1))=(v7+1):=aD (by omega) (by omega)
      rw [z0]
      exact ih v5 v6 (v7+1) (by refine⟨?_,?_,?_,?_⟩<;>(try simp only [Ls])<;>first | omega | assumption | simp) (by(try simp only [Ls]);omega)
   | false =>
    have q0:=fK h0
    let t1:List (St Try.prog):=[.d h0]
    cases h1:(((bN ((v5,v6).1,(v5,v6).2)):Int) != 0) with
    | true =>
     have q1:=bne_iff_ne.1 h1
     have e:=Eq.refl (bS a0 a1 (v5,v6,v7));conv at e=>rhs;simp only [bS,h0,h1,aK]
     rw [aH,e]
     exact rt (t1++[.c [4,5] (xZ (v5,v6) (by(try simp only [Lt]);omega) (by(try simp only [Lt]);omega) h1)]) [.cell 2 0 3,.cell 2 1 3] [6,7] hcx (by kernel_rfl)
    | false =>
     have q1:=bne_eq_false_iff_eq.1 h1
     have e:=Eq.refl (bS a0 a1 (v5,v6,v7));conv at e=>rhs;simp only [bS,h0,h1,aK]
     rw [aH,e]
     exact rt (t1++[.c [4,5] (uA (v5,v6) (by(try simp only [Lt]);omega) (by(try simp only [Lt]);omega) h1)]) [] [4,5] hcx (by kernel_rfl)
theorem aLr (a0:Zm)(a1:Bool)(l0_1:a0.1.length≤9223372036854775807)(l0_2:a0.2.length≤9223372036854775807)(hv:bN a0=0) {cx:Cx} (hcx:cx.base=2):∀(n:Nat)(v2:List Zt)(v3:Int),(0≤v3)∧(v2.length=toNat v3)∧(v3≤a0.1.length)→toNat ((a0.1.length:Int) - v3) < n→Aw.Good Try.prog none 9 (bodyPost Try.prog Try.f48 (RR cx (.t [(.a [(.s 2 0 (aB (dD a0 a1) n (v2,v3)).1.1.length 3),(.s 3 0 (aB (dD a0 a1) n (v2,v3)).1.2.length 3)]),(iv (aB (dD a0 a1) n (v2,v3)).2)]) [(.live true true (flat cA (aB (dD a0 a1) n (v2,v3)).1.1)),(.live true true (flat cN (aB (dD a0 a1) n (v2,v3)).1.2))] [])) cx [] (.l wB n::wC) (sF a0 a1 (flat cA v2) v2.length v3):=by
 intro n
 induction n with
 | zero=>intro v2 v3 hi hn;exact absurd hn (nM _)
 | succ n ih =>
   intro v2 v3 hi hn
   refine aL ?_
   have hpf:=bI hv
   have hcl:(dG a0.2).length=a0.2.length:=rfl
   cases h0:(decide ((v3:Int) < (a0.1.length:Int))) with
   | true =>
    have q0:=eK h0
    have e:=Eq.refl (dD a0 a1 (v2,v3));conv at e=>rhs;simp only [dD,h0,aK]
    rw [aC e]
    refine ba [.d h0,.i v3 (a0.1.length),.L dQ a0.1 v3 0 3,.c [] (C50 (a0.1.getD (toNat v3) default)),.p (show((flat cA v2).length=v2.length*3∧v2.length+1≤2 ^ 40∧(v2.length+1)*24≤2 ^ 47) from gV dQ (by omega) (by omega))] [] [1,2,3,6,8,18,19,20] [2,3,4,9,6] hcx (m:=n) wB (wC) (sF a0 a1 (flat cA v2++(k3 (F50 (a0.1.getD (toNat v3) default)))) (v2.length+1) (W (v3+1))) (by kernel_rfl) ?_
    have z0:(W (v3+1))=(v3+1):=aD (by omega) (by omega)
    have z1:(flat cA v2++(k3 (F50 (a0.1.getD (toNat v3) default))))=(flat cA (v2++[(F50 (a0.1.getD (toNat v3) default))])):=(bV (c:=cA) (l:=v2) (m:=[(F50 (a0.1.getD (toNat v3) default))])).symm
    have z2:(v2.length+1)=(v2++[(F50 (a0.1.getD (toNat v3) default))]).length:=fE v2 [(F50 (a0.1.getD (toNat v3) default))] rfl
    rw [z0,z1,z2]
    exact ih (v2++[(F50 (a0.1.getD (toNat v3) default))]) (v3+1) (by refine⟨?_,?_,?_⟩<;>(try simp only [Ls])<;>first | omega | assumption | simp) (by(try simp only [Ls]);omega)
   | false =>
    have q0:=fK h0
    have e:=Eq.refl (dD a0 a1 (v2,v3));conv at e=>rhs;simp only [dD,h0,aK]
    rw [aH,e]
    refine en [.d h0] [] [1,6,8,34,35,36] [3,4,5,6] hcx pX (pY) (nI a0 a1 (flat cA v2) (v2.length) (flat cN (dG a0.2)) ((dG a0.2).length) 0) (toNat ((a0.2.length:Int) - 0)+1) (by kernel_rfl) ?_
    exact aLq a0 a1 l0_1 l0_2 hv hcx (toNat ((a0.2.length:Int) - 0)+1) v2 (dG a0.2) 0 (by refine⟨?_,?_,?_,?_⟩<;>(try simp only [Ls])<;>first | omega | assumption | simp) (by(try simp only [Ls]);omega)
def fV (a0:Zm)(a1:Bool):(Zm)×Int :=
 (aB (dD a0 a1) (toNat ((a0.1.length:Int) - 0)+1) (([]:List Zt),0))
theorem aSc (a0:Zm)(a1:Bool)(l0_1:a0.1.length≤9223372036854775807)(l0_2:a0.2.length≤9223372036854775807)(hv:bN a0=0):Con Try.prog 48 [(.a [(.s 0 0 a0.1.length 3),(.s 1 0 a0.2.length 3)]),(.v (.bool a1)),(.v (.func (.func 50) #[] #[]))] [(.live false true (flat cA a0.1)),(.live false true (flat cN a0.2))] (.t [(.a [(.s 2 0 (fV a0 a1).1.1.length 3),(.s 3 0 (fV a0 a1).1.2.length 3)]),(iv (fV a0 a1).2)]) [(.live true true (flat cA (fV a0 a1).1.1)),(.live true true (flat cN (fV a0 a1).1.2))]:=by
 refine aI Try.func48 (by kernel_rfl) fun cx hcx=>?_
 have hpf:=bI hv
 have hcl:(dG a0.2).length=a0.2.length:=rfl
 have e:=Eq.refl (fV a0 a1);conv at e=>rhs;simp only [fV]
 rw [e]
 refine en [.c [1] (aPt a0.2 (by omega) (by omega) (by omega))] [.cell 5 0 3] [1,2,3,6,8,18,19,20] [2,3,5,6,4] hcx wB (wC) (sF a0 a1 (flat cA ([]:List Zt)) 0 0) (toNat ((a0.1.length:Int) - 0)+1) (by kernel_rfl) ?_
 exact aLr a0 a1 l0_1 l0_2 hv hcx (toNat ((a0.1.length:Int) - 0)+1) ([]:List Zt) 0 (by refine⟨?_,?_,?_⟩<;>(try simp only [Ls])<;>first | omega | assumption | simp) (by(try simp only [Ls]);omega)
def jJ (to:P3→P3)(fs:List P3)(m:ME):ME×Int:=bif (((bN (m.1.map to,fs)):Int) != 0) then(([],[]),bN (m.1.map to,fs)) else((m.1.map to,fs),0)
def yA (c:P3):P3:=(c.1,c.2.2,c.2.1)
theorem aSd {α:Type} (v:List α)(c y:α)(l:List α) {i:Nat} (h:v.length=i):(v++c::l).set i y=v++[y]++l:=by
 subst h
 rw [List.set_append_right _ _ (Nat.le_refl _),Nat.sub_self,List.set_cons_zero,List.append_assoc];rfl
theorem aCt (m:ME)(k:Int):fT m false k=jJ (fun p=>xK p k) m.2 m:=by
 unfold fT
 have key:=bD (S:=dB m false k) (fun v i=>(v,i)) (fun v p=>.inl (v++[xK p k])) (fun v=>aB (bQ m false k) (toNat ((m.2.length:Int) - 0)+1) (v,m.2,0)) (L:=m.1) (v:=[]) (n:=toNat ((m.1.length:Int) - 0)+1) (fun _ _=>True) ?_ (fun _ _ _ _ _ _ _=>trivial) ?_ (by omega) trivial
 · refine Eq.trans key ?_
   rw [bH,aJ0 (fun p=>xK p k)]
   simp only [aBr,List.nil_append]
   have k2:=bD (S:=bQ m false k) (fun(_:Unit) i=>(m.1.map (fun p=>xK p k),m.2,i)) (fun v _=>.inl v) (fun _=>jJ (fun p=>xK p k) m.2 m) (L:=m.2) (v:=()) (n:=toNat ((m.2.length:Int) - 0)+1) (fun _ _=>True) ?_ (fun _ _ _ _ _ _ _=>trivial) ?_ (by omega) trivial
   · refine Eq.trans k2 ?_
     rw [bH (fun v _=>v)];rfl
   · intro i c hc v _
     obtain⟨hlt,_⟩:=List.getElem?_eq_some_iff.1 hc
     simp only [bQ]
     rw [cV (by omega),cond_true];rw [cond_false];rfl
   · intro v _
     simp only [bQ]
     rw [dL (by omega),cond_false]
     unfold jJ
     generalize bN (m.1.map (fun p=>xK p k),m.2)=e
     cases (e != 0)<;>rfl
 · intro i c hc v _
   obtain⟨hlt,_⟩:=List.getElem?_eq_some_iff.1 hc
   simp only [dB]
   rw [cV (by omega),cond_true,bF hc];rfl
 · intro v _
   simp only [dB]
   rw [dL (by omega),cond_false];rfl
theorem aGn (m:ME)(k:P3):fU m false k=jJ (fun p=>F49 p k) m.2 m:=by
 unfold fU
 have key:=bD (S:=dC m false k) (fun v i=>(v,i)) (fun v p=>.inl (v++[F49 p k])) (fun v=>aB (bR m false k) (toNat ((m.2.length:Int) - 0)+1) (v,m.2,0)) (L:=m.1) (v:=[]) (n:=toNat ((m.1.length:Int) - 0)+1) (fun _ _=>True) ?_ (fun _ _ _ _ _ _ _=>trivial) ?_ (by omega) trivial
 · refine Eq.trans key ?_
   rw [bH,aJ0 (fun p=>F49 p k)]
   simp only [aBr,List.nil_append]
   have k2:=bD (S:=bR m false k) (fun(_:Unit) i=>(m.1.map (fun p=>F49 p k),m.2,i)) (fun v _=>.inl v) (fun _=>jJ (fun p=>F49 p k) m.2 m) (L:=m.2) (v:=()) (n:=toNat ((m.2.length:Int) - 0)+1) (fun _ _=>True) ?_ (fun _ _ _ _ _ _ _=>trivial) ?_ (by omega) trivial
   · refine Eq.trans k2 ?_
     rw [bH (fun v _=>v)];rfl
   · intro i c hc v _
     obtain⟨hlt,_⟩:=List.getElem?_eq_some_iff.1 hc
     simp only [bR]
     rw [cV (by omega),cond_true];rw [cond_false];rfl
   · intro v _
     simp only [bR]
     rw [dL (by omega),cond_false]
     unfold jJ
     generalize bN (m.1.map (fun p=>F49 p k),m.2)=e
     cases (e != 0)<;>rfl
 · intro i c hc v _
   obtain⟨hlt,_⟩:=List.getElem?_eq_some_iff.1 hc
   simp only [dC]
   rw [cV (by omega),cond_true,bF hc];rfl
 · intro v _
   simp only [dC]
   rw [dL (by omega),cond_false];rfl
theorem aA6 (m:ME):fV m true=jJ F50 (m.2.map yA) m:=by
 unfold fV
 have key:=bD (S:=dD m true) (fun v i=>(v,i)) (fun v p=>.inl (v++[F50 p])) (fun v=>aB (bS m true) (toNat ((m.2.length:Int) - 0)+1) (v,m.2,0)) (L:=m.1) (v:=[]) (n:=toNat ((m.1.length:Int) - 0)+1) (fun _ _=>True) ?_ (fun _ _ _ _ _ _ _=>trivial) ?_ (by omega) trivial
 · refine Eq.trans key ?_
   rw [bH,aJ0 F50]
   simp only [aBr,List.nil_append]
   have k2:=bD (S:=bS m true) (fun v i=>(m.1.map F50,v++m.2.drop (toNat i),i)) (fun v c=>.inl (v++[yA c])) (fun v=>jJ F50 v m) (L:=m.2) (v:=[]) (n:=toNat ((m.2.length:Int) - 0)+1) (fun i v=>v.length=i) ?_ ?_ ?_ (by omega) rfl
   · refine Eq.trans k2 ?_
     rw [bH,aJ0 yA];rfl
   · intro i c hc v hv
     obtain⟨hlt,hce⟩:=List.getElem?_eq_some_iff.1 hc
     simp only [bS]
     rw [cV (by omega),cond_true,cond_true,bF hc,yE,List.drop_eq_getElem_cons hlt,hce,aSd v c _ _ hv]
     rfl
   · intro i c hc v v' hv e
     cases e
     rw [List.length_append,hv];rfl
   · intro v hv
     simp only [bS]
     rw [dL (by omega),cond_false,yE,List.drop_length,List.append_nil]
     unfold jJ
     generalize bN (m.1.map F50,v)=e
     cases (e != 0)<;>rfl
 · intro i c hc v _
   obtain⟨hlt,_⟩:=List.getElem?_eq_some_iff.1 hc
   simp only [dD]
   rw [cV (by omega),cond_true,bF hc];rfl
 · intro v _
   simp only [dD]
   rw [dL (by omega),cond_false];rfl
theorem aA7 (to:P3→P3)(fs:List P3)(m:ME):(jJ to fs m).1.1.length≤m.1.length∧(jJ to fs m).1.2.length≤fs.length:=by
 unfold jJ
 cases (((bN (m.1.map to,fs)):Int) != 0) with
 | true=>exact⟨Nat.zero_le _,Nat.zero_le _⟩
 | false=>rw [cond_false];simp only [List.length_map];exact⟨Nat.le_refl _,Nat.le_refl _⟩
theorem aKf {to:P3→P3} {fs:List P3} {m:ME} (h:(jJ to fs m).2=0):(jJ to fs m).1=(m.1.map to,fs)∧bN (m.1.map to,fs)=0:=by
 unfold jJ at h ⊢
 cases hv:(((bN (m.1.map to,fs)):Int) != 0) with
 | true=>rw [hv,cond_true] at h;simp only at h;rw [h] at hv;cases hv
 | false=>exact⟨rfl,bne_eq_false_iff_eq.1 hv⟩
def gO (a0:Zm)(a1:Int):(Zm)×Int :=
 (bif (((bN (a0.1,a0.2)):Int) != 0) then
  ((([]:List Zt),([]:List Zt)),(bN (a0.1,a0.2)))
 else
  (bif (!(lE a1 1 128)) then
   ((([]:List Zt),([]:List Zt)),1)
  else
   (((fT (a0.1,a0.2) false a1).1.1,(fT (a0.1,a0.2) false a1).1.2),(fT (a0.1,a0.2) false a1).2)))
theorem C25 (a0:Zm)(a1:Int)(l0_1:a0.1.length≤9223372036854775807)(l0_2:a0.2.length≤9223372036854775807):Con Try.prog 25 [(.a [(.s 0 0 a0.1.length 3),(.s 1 0 a0.2.length 3)]),(iv a1)] [(.live false true (flat cA a0.1)),(.live false true (flat cN a0.2))] (.t [(.a [(.s 2 0 (gO a0 a1).1.1.length 3),(.s 3 0 (gO a0 a1).1.2.length 3)]),(iv (gO a0 a1).2)]) [(.live true true (flat cA (gO a0 a1).1.1)),(.live true true (flat cN (gO a0 a1).1.2))]:=by
 refine aI Try.func25 (by kernel_rfl) fun cx hcx=>?_
 let t0:List (St Try.prog):=[.c [0,1] (C31 (a0.1,a0.2) (by(try simp only [Lt]);omega) (by(try simp only [Lt]);omega))]
 cases h0:(((bN (a0.1,a0.2)):Int) != 0) with
 | true =>
  have q0:=bne_iff_ne.1 h0
  have e:=Eq.refl (gO a0 a1);conv at e=>rhs;simp only [gO,h0,aK]
  rw [e]
  exact rt (t0++[.d h0]) [.cell 4 0 3,.cell 4 1 3] [5,6] hcx (by kernel_rfl)
 | false =>
  have q0:=bne_eq_false_iff_eq.1 h0
  let t1:List (St Try.prog):=(t0++[.d h0,.c [] (C51 a1 1 128)])
  cases h1:(!(lE a1 1 128)) with
  | true =>
   have e:=Eq.refl (gO a0 a1);conv at e=>rhs;simp only [gO,h0,h1,aK]
   rw [e]
   exact rt (t1++[.d h1]) [.cell 4 0 3,.cell 4 1 3] [5,6] hcx (by kernel_rfl)
  | false =>
   have e:=Eq.refl (gO a0 a1);conv at e=>rhs;simp only [gO,h0,h1,aK]
   rw [e]
   exact rt (t1++[.d h1,.c [0,1,3] (aSa (a0.1,a0.2) false a1 (by(try simp only [Lt]);omega) (by(try simp only [Lt]);omega) (bne_eq_false_iff_eq.1 h0))]) [] [5,6] hcx (by kernel_rfl)
def lC (a0:Zm)(a1:Zt):(Zm)×Int :=
 (bif (((bN (a0.1,a0.2)):Int) != 0) then
  ((([]:List Zt),([]:List Zt)),(bN (a0.1,a0.2)))
 else
  (bif (!(wS a1 128)) then
   ((([]:List Zt),([]:List Zt)),1)
  else
   (((fU (a0.1,a0.2) false a1).1.1,(fU (a0.1,a0.2) false a1).1.2),(fU (a0.1,a0.2) false a1).2)))
theorem C23 (a0:Zm)(a1:Zt)(l0_1:a0.1.length≤9223372036854775807)(l0_2:a0.2.length≤9223372036854775807):Con Try.prog 23 [(.a [(.s 0 0 a0.1.length 3),(.s 1 0 a0.2.length 3)]),(.a (k3 a1))] [(.live false true (flat cA a0.1)),(.live false true (flat cN a0.2))] (.t [(.a [(.s 2 0 (lC a0 a1).1.1.length 3),(.s 3 0 (lC a0 a1).1.2.length 3)]),(iv (lC a0 a1).2)]) [(.live true true (flat cA (lC a0 a1).1.1)),(.live true true (flat cN (lC a0 a1).1.2))]:=by
 refine aI Try.func23 (by kernel_rfl) fun cx hcx=>?_
 let t0:List (St Try.prog):=[.c [0,1] (C31 (a0.1,a0.2) (by(try simp only [Lt]);omega) (by(try simp only [Lt]);omega))]
 cases h0:(((bN (a0.1,a0.2)):Int) != 0) with
 | true =>
  have q0:=bne_iff_ne.1 h0
  have e:=Eq.refl (lC a0 a1);conv at e=>rhs;simp only [lC,h0,aK]
  rw [e]
  exact rt (t0++[.d h0]) [.cell 4 0 3,.cell 4 1 3] [5,6] hcx (by kernel_rfl)
 | false =>
  have q0:=bne_eq_false_iff_eq.1 h0
  let t1:List (St Try.prog):=(t0++[.d h0,.c [] (C47 a1 128)])
  cases h1:(!(wS a1 128)) with
  | true =>
   have e:=Eq.refl (lC a0 a1);conv at e=>rhs;simp only [lC,h0,h1,aK]
   rw [e]
   exact rt (t1++[.d h1]) [.cell 4 0 3,.cell 4 1 3] [5,6] hcx (by kernel_rfl)
  | false =>
   have e:=Eq.refl (lC a0 a1);conv at e=>rhs;simp only [lC,h0,h1,aK]
   rw [e]
   exact rt (t1++[.d h1,.c [0,1,3] (aSb (a0.1,a0.2) false a1 (by(try simp only [Lt]);omega) (by(try simp only [Lt]);omega) (bne_eq_false_iff_eq.1 h0))]) [] [5,6] hcx (by kernel_rfl)
def sG (a0:Zm):(Zm)×Int :=
 (bif (((bN (a0.1,a0.2)):Int) != 0) then
  ((([]:List Zt),([]:List Zt)),(bN (a0.1,a0.2)))
 else
  (((fV (a0.1,a0.2) true).1.1,(fV (a0.1,a0.2) true).1.2),(fV (a0.1,a0.2) true).2))
theorem C24 (a0:Zm)(l0_1:a0.1.length≤9223372036854775807)(l0_2:a0.2.length≤9223372036854775807):Con Try.prog 24 [(.a [(.s 0 0 a0.1.length 3),(.s 1 0 a0.2.length 3)])] [(.live false true (flat cA a0.1)),(.live false true (flat cN a0.2))] (.t [(.a [(.s 2 0 (sG a0).1.1.length 3),(.s 3 0 (sG a0).1.2.length 3)]),(iv (sG a0).2)]) [(.live true true (flat cA (sG a0).1.1)),(.live true true (flat cN (sG a0).1.2))]:=by
 refine aI Try.func24 (by kernel_rfl) fun cx hcx=>?_
 let t0:List (St Try.prog):=[.c [0,1] (C31 (a0.1,a0.2) (by(try simp only [Lt]);omega) (by(try simp only [Lt]);omega))]
 cases h0:(((bN (a0.1,a0.2)):Int) != 0) with
 | true =>
  have q0:=bne_iff_ne.1 h0
  have e:=Eq.refl (sG a0);conv at e=>rhs;simp only [sG,h0,aK]
  rw [e]
  exact rt (t0++[.d h0]) [.cell 3 0 3,.cell 3 1 3] [4,5] hcx (by kernel_rfl)
 | false =>
  have q0:=bne_eq_false_iff_eq.1 h0
  have e:=Eq.refl (sG a0);conv at e=>rhs;simp only [sG,h0,aK]
  rw [e]
  exact rt (t0++[.d h0,.c [0,1] (aSc (a0.1,a0.2) true (by(try simp only [Lt]);omega) (by(try simp only [Lt]);omega) (bne_eq_false_iff_eq.1 h0))]) [] [4,5] hcx (by kernel_rfl)
theorem lD {m:ME} {q:List Int} {d:Int} (h:(aM m q d).2=0):vs (aM m q d).1:=by
 have:=xY h
 unfold vs;omega
theorem pZ (m:ME)(k:Int):(gO m k).1.1.length≤m.1.length∧(gO m k).1.2.length≤m.2.length:=by
 unfold gO
 rw [aCt]
 have h:=aA7 (fun p=>xK p k) m.2 m
 cases (((bN (m.1,m.2)):Int) != 0) with
 | true=>exact⟨Nat.zero_le _,Nat.zero_le _⟩
 | false =>
   rw [cond_false]
   cases (!lE k 1 128) with
   | true=>exact⟨Nat.zero_le _,Nat.zero_le _⟩
   | false=>exact h
theorem qA (m:ME)(k:P3):(lC m k).1.1.length≤m.1.length∧(lC m k).1.2.length≤m.2.length:=by
 unfold lC
 rw [aGn]
 have h:=aA7 (fun p=>F49 p k) m.2 m
 cases (((bN (m.1,m.2)):Int) != 0) with
 | true=>exact⟨Nat.zero_le _,Nat.zero_le _⟩
 | false =>
   rw [cond_false]
   cases (!wS k 128) with
   | true=>exact⟨Nat.zero_le _,Nat.zero_le _⟩
   | false=>exact h
theorem qB (m:ME):(sG m).1.1.length≤m.1.length∧(sG m).1.2.length≤m.2.length:=by
 unfold sG
 rw [aA6]
 have h:=aA7 F50 (m.2.map yA) m
 cases (((bN (m.1,m.2)):Int) != 0) with
 | true=>exact⟨Nat.zero_le _,Nat.zero_le _⟩
 | false =>
   rw [cond_false]
   rw [List.length_map] at h
   exact h
theorem aEt {m:ME} {c:P3} (hv:bN m=0)(hc:bd 256 c) :
   (F9 m c).2=0∧1≤(F9 m c).1∧(F9 m c).1≤1073741825∧1≤cC m c∧cC m c*1099511627776≤(F9 m c).1*(F9 m c).1∧∀p∈aT m,ds p.1 c≤cC m c∧ds p.2.1 c≤cC m c∧ds p.2.2 c≤cC m c:=by
 have hpt:=nC hv
 have hW:=tU hc m.1 0 hpt (by omega)
 have eB:F9 m c=((rO (cC m c)).1.2,(rO (cC m c)).2):=by
   unfold F9
   rw [show bN (m.1,m.2)=0 from hv,tT,tT,tT,cV hc.1,cV hc.2.1,cV hc.2.2]
   show(aB (vE m c) (toNat ((m.1.length:Int) - 0)+1) (0,0))=_
   rw [aD8]
 have L:=aTe (n:=cC m c) hW
 have hd:=(aA5 c m.1 0).2
 have hm:∀p∈aT m,ds p.1 c≤cC m c∧ds p.2.1 c≤cC m c∧ds p.2.2 c≤cC m c:=by
   intro e he
   have hp:=aKc hv e he
   have one:∀p∈m.1,ds p c≤cC m c:=fun p hp=>by rw [←aPn (hpt p hp) hc];exact hd p hp
   exact⟨one _ hp.1,one _ hp.2.1,one _ hp.2.2⟩
 have h1:1≤cC m c:=by
   rcases Int.lt_or_le 0 (cC m c) with k | k
   · omega
   · exfalso
     obtain⟨_,hf1,_⟩:=bI hv
     cases hl:m.2 with
     | nil=>rw [hl] at hf1;exact absurd hf1 (by decide)
     | cons f l =>
       have hf:f∈m.2:=by rw [hl];exact List.mem_cons_self
       have hp:iV m f∈aT m:=List.mem_map.2 ⟨f,hf,rfl⟩
       have h3:=hm _ hp
       have hv2:=(dN (kV hv f hf)).2
       generalize iV m f=e at *
       have e1:=aLl (Int.le_trans h3.1 k);have e2:=aLl (Int.le_trans h3.2.1 k);have e3:=aLl (Int.le_trans h3.2.2 k)
       have hz:eQ e=(0,0,0):=by
         have s0:sb c c=(0,0,0):=Prod.ext (Int.sub_self _) (Prod.ext (Int.sub_self _) (Int.sub_self _))
         unfold eQ;rw [e1,e2,e3,s0];decide
       rw [hz] at hv2
       exact absurd hv2 (by decide)
 rw [eB]
 refine⟨L.1,?_,?_,h1,L.2.2,hm⟩
 · rcases Int.lt_or_le 0 (rO (cC m c)).1.2 with k | k
   · exact k
   · exfalso
     have e0:(rO (cC m c)).1.2=0:=by have:=L.2.1;omega
     have:=L.2.2
     rw [e0] at this;omega
 · obtain⟨r,hr,e⟩:=aN4 (n:=cC m c) hW
   obtain⟨r0,r1,r2⟩:=hr
   show(rO (cC m c)).1.2≤1073741825
   rw [e]
   unfold aBe
   have hW2:cC m c≤400000:=hW.2
   have hb:r≤1073741824:=by
     by_cases hc:r≤1073741824
     · exact hc
     · have:=Int.mul_le_mul (show(1073741824:Int)≤r by omega) (show(1073741824:Int)≤r by omega) (by omega) (by omega)
       omega
   have hx:(if r*r=cC m c*1099511627776 then r else r+1)=r∨(if r*r=cC m c*1099511627776 then r else r+1)=r+1:=by split<;>simp
   generalize (if r*r=cC m c*1099511627776 then r else r+1)=s at hx ⊢
   rw [tG (by omega) (by omega) (by omega)]
   show s≤1073741825
   omega
theorem aYv {x:Int×Int} {Q mx E mn B:Int} (h:BV x Q mx E mn B):x.2≤B:=by
 obtain⟨a,ey,_,ha⟩:=h.hi
 have:=rW a B
 omega
theorem aKg {m:ME} {q:List Int} (hC:ChOK m q) {p:PN} (hp:p∈aT m):∃e∈chg m q,e.1=p:=by
 obtain⟨i,hi⟩:=List.getElem?_of_mem hp
 obtain⟨hlt,hge⟩:=List.getElem?_eq_some_iff.1 hi
 have hpl:(aT m).length=m.2.length:=List.length_map _
 have hl:i < (chg m q).length:=by
   unfold chg
   rw [List.length_zip];have:=hC.len;omega
 refine⟨(chg m q)[i],List.getElem_mem hl,?_⟩
 unfold chg
 rw [List.getElem_zip];exact hge
theorem aVr (p:P3):tm 1 p=p:=by simp only [tm,Int.one_mul]
theorem aYw (p:PN):dE 1 p=p:=by simp only [dE,aVr]
theorem aPu {m ml:ME} {q q':List Int} {d d' k:Int} (hk:1≤k∧k≤128)(hp:aT ml=(aT m).map (dE k))(h:(aM m q d).2=0)(h':(aM ml q' d').2=0) :
   (aM ml q' d').1.1≤k*(aM m q d).1.2∧k*(aM m q d).1.1≤(aM ml q' d').1.2:=by
 obtain⟨hC,Q,mx,E,mn,S,V⟩:=eD h
 obtain⟨hC',Q',mx',E',mn',S',V'⟩:=eD h'
 have hb:=aAr hC.v
 have hb':=aAr hC'.v
 have hc:bd 256 (hH (mB m)):=by unfold bd at hb ⊢;omega
 have hc':bd 256 (hH (mB ml)):=by unfold bd at hb' ⊢;omega
 obtain⟨_,B1,_,W1,WB,hm⟩:=aEt hC.v hc
 obtain⟨_,B1',_,W1',WB',hm'⟩:=aEt hC'.v hc'
 have pl:∀e∈chg ml q',∃p∈aT m,e.1=dE k p:=fun e he=>by
   have:=(List.of_mem_zip he).1
   rw [hp] at this
   obtain⟨p,h1,h2⟩:=List.mem_map.1 this
   exact⟨p,h1,h2.symm⟩
 constructor
 · have p:=aTh (k:=1) (k':=k) S' S (by omega) hk (fun e he w P hw hP=>by
     obtain⟨p,h1,h2⟩:=pl e he
     obtain⟨e'',he'',eq⟩:=aKg hC h1
     refine⟨p,?_,?_⟩
     · rw [aVr,←h2];exact hP
     · have:=S.hmn e'' he''
       rw [eq] at this;exact this)
   have kb:∀x y z:P3,ds (tm k x) (tm k (hH (mB m)))=k*k*ds x (hH (mB m)):=fun x _ _=>aKd k x _
   have b:=aCs (k:=1) S' (by omega) (c:=tm k (hH (mB m))) (m:=k*k*cC m (hH (mB m))) (B:=k*(F9 m (hH (mB m))).1)
     (by
       unfold bd at hb
       have a1:=aU (a:=128) (b:=64) (x:=k) (y:=(hH (mB m)).1) (by omega) hb.1
       have a2:=aU (a:=128) (b:=64) (x:=k) (y:=(hH (mB m)).2.1) (by omega) hb.2.1
       have a3:=aU (a:=128) (b:=64) (x:=k) (y:=(hH (mB m)).2.2) (by omega) hb.2.2
       unfold bd tm;simp only;omega)
     (fun e he=>by
       obtain⟨p,h1,h2⟩:=pl e he
       have h3:=hm p h1
       rw [h2]
       simp only [dE,aVr,aKd]
       have kk:=CapT.sq_int_nonneg k
       exact⟨Int.mul_le_mul_of_nonneg_left h3.1 kk,Int.mul_le_mul_of_nonneg_left h3.2.1 kk,Int.mul_le_mul_of_nonneg_left h3.2.2 kk⟩)
     (by
       have kk:1≤k*k:=by have:=Int.mul_le_mul (a:=1) (b:=1) (c:=k) (d:=k) hk.1 hk.1 (by omega) (by omega);omega
       have:=Int.mul_le_mul (a:=1) (b:=1) kk W1 (by omega) (by omega);omega)
     (by
       have:=Int.mul_le_mul_of_nonneg_left WB (CapT.sq_int_nonneg k)
       grind)
     (by have:=Int.mul_le_mul (a:=1) (b:=1) hk.1 B1 (by omega) (by omega);omega)
   have r:=aPm (f:=1) (g:=k) V' V (by omega) (by omega) S'.mx1 S'.E1 S.mn1 p (by
     refine⟨?_,?_⟩
     · have:=b.1;grind
     · have:=b.2;grind)
   omega
 · have p:=aTh (k:=k) (k':=1) S S' hk (by omega) (fun e he w P hw hP=>by
     have hpe:dE k e.1∈aT ml:=by rw [hp];exact List.mem_map.2 ⟨_,(List.of_mem_zip he).1,rfl⟩
     obtain⟨e'',he'',eq⟩:=aKg hC' hpe
     refine⟨dE k e.1,?_,?_⟩
     · rw [aYw];exact aKe hP
     · have:=S'.hmn e'' he''
       rw [eq] at this;exact this)
   have b:=aCs (k:=k) S hk (c:=hH (mB ml)) (m:=cC ml (hH (mB ml))) (B:=(F9 ml (hH (mB ml))).1) (by unfold bd at hb' ⊢;omega)
     (fun e he=>by
       have hpe:dE k e.1∈aT ml:=by rw [hp];exact List.mem_map.2 ⟨_,(List.of_mem_zip he).1,rfl⟩
       have h3:=hm' (dE k e.1) hpe
       simp only [dE] at h3
       exact h3) W1' WB' B1'
   have r:=aPm (f:=k) (g:=1) V V' (by omega) (by omega) S.mx1 S.E1 S'.mn1 p (by omega)
   omega
theorem jS (f:P3→P3)(hf:f default=default)(l:List P3)(i:Nat):(l.map f).getD i default=f (l.getD i default):=by
 rw [eW,eW,List.getElem?_map]
 cases l[i]? with
 | none=>exact hf.symm
 | some a=>rfl
theorem aPv {f:P3→P3} (hf:f default=default)(m:ME):aT (m.1.map f,m.2)=(aT m).map fun p=>(f p.1,f p.2.1,f p.2.2):=by
 unfold aT
 rw [List.map_map]
 refine List.map_congr_left fun c _=>?_
 unfold iV
 simp only [Function.comp,jS f hf]
theorem aPw {p:P3} {k:Int} (hp:bd 64 p)(hk:1≤k∧k≤128):xK p k=tm k p:=by
 unfold bd at hp
 have a1:=aU (a:=128) (b:=64) (x:=k) (y:=p.1) (by omega) hp.1
 have a2:=aU (a:=128) (b:=64) (x:=k) (y:=p.2.1) (by omega) hp.2.1
 have a3:=aU (a:=128) (b:=64) (x:=k) (y:=p.2.2) (by omega) hp.2.2
 unfold xK F34 tm
 simp only
 rw [aD (n:=k*p.1) (by omega) (by omega),aD (n:=k*p.2.1) (by omega) (by omega),aD (n:=k*p.2.2) (by omega) (by omega),aD (n:=0+k*p.1) (by omega) (by omega),aD (n:=0+k*p.2.1) (by omega) (by omega),aD (n:=0+k*p.2.2) (by omega) (by omega)]
 simp only [Int.zero_add]
theorem aPx {m:ME} {k:Int} (h:(gO m k).2=0):1≤k∧k≤128∧aT (gO m k).1=(aT m).map (dE k):=by
 unfold gO at h ⊢
 cases hv:(((bN (m.1,m.2)):Int) != 0) with
 | true=>rw [hv,cond_true] at h;simp only at h;rw [h] at hv;cases hv
 | false =>
   rw [hv,cond_false] at h
   rw [cond_false]
   have hv0:=bne_eq_false_iff_eq.1 hv
   cases hf:(!(lE k 1 128)) with
   | true=>rw [hf,cond_true] at h;exact absurd h (by decide)
   | false =>
     rw [hf,cond_false] at h
     rw [cond_false]
     have hk:1≤k∧k≤128:=by
       unfold lE at hf
       by_cases h1:k≥1<;>by_cases h2:k≤128<;>simp [h1,h2] at hf
       exact⟨h1,h2⟩
     rw [aCt] at h ⊢
     simp only at h
     have hc:=aKf h
     refine⟨hk.1,hk.2,?_⟩
     have e1:(((jJ (fun p=>xK p k) (m.1,m.2).2 (m.1,m.2)).1.1,(jJ (fun p=>xK p k) (m.1,m.2).2 (m.1,m.2)).1.2):ME)=(m.1.map (tm k),m.2):=by
       show(jJ (fun p=>xK p k) (m.1,m.2).2 (m.1,m.2)).1=_
       rw [hc.1]
       refine Prod.ext (List.map_congr_left fun p hp=>aPw (nC hv0 p hp) hk) rfl
     show aT (((jJ (fun p=>xK p k) (m.1,m.2).2 (m.1,m.2)).1.1,(jJ (fun p=>xK p k) (m.1,m.2).2 (m.1,m.2)).1.2):ME)=_
     rw [e1]
     exact aPv (f:=tm k) (Prod.ext (Int.mul_zero k) (Prod.ext (Int.mul_zero k) (Int.mul_zero k))) m
theorem aYx {m:ME} {q:List Int} {d k:Int} (hk:1≤k∧k≤128)(h:(aM m q d).2=0):iU (aM m q d).1 k=((k*(aM m q d).1.1,k*(aM m q d).1.2),0)∧vs (k*(aM m q d).1.1,k*(aM m q d).1.2):=by
 have hb:=xY h
 obtain⟨hC,Q,mx,E,mn,S,V⟩:=eD h
 have hm:=aAr hC.v
 have hB:=aEt hC.v (c:=hH (mB m)) (by unfold bd at hm ⊢;omega)
 have hx:=aYv V
 have hx2:(aM m q d).1.2≤1073741825:=Int.le_trans hx hB.2.2.1
 rw [aDu (by unfold vs;omega) (by omega)]
 generalize (aM m q d).1=x at *
 have a1:=Int.mul_le_mul_of_nonneg_left hb.2.1 (show 0≤k by omega)
 have a2:=Int.mul_nonneg (show 0≤k by omega) hb.1
 have a3:=Int.mul_le_mul (a:=k) (b:=x.2) (c:=128) (d:=1073741825) hk.2 hx2 (by omega) (by omega)
 have es:scl x k=(k*x.1,k*x.2):=by
   unfold scl kK
   rw [if_neg (by omega),Int.mul_comm x.1,Int.mul_comm x.2,if_neg (by omega),if_neg (by omega),if_neg (by omega),if_neg (by omega)]
 rw [es]
 refine⟨tG (by omega) (by omega) (by omega),?_⟩
 unfold vs;simp only;omega
def aSe (p q:P3):P3:=(p.1+q.1,p.2.1+q.2.1,p.2.2+q.2.2)
def fP (f:Int→P3→P3)(s:Int)(c:PN):PN:=(f s c.1,f s c.2.1,f s c.2.2)
structure Iso (f:Int→P3→P3):Prop where
 ad:∀s p q,aSe (f s p) (f s q)=f (2*s) (aSe p q)
 tk:∀k s p,tm k (f s p)=f (k*s) (tm k p)
 dist:∀s p q,ds (f s p) (f s q)=ds p q
 gap:∀s c q,mU (fP f s c) (fP f s q)=mU c q
 nor:∀p,dt (eQ (fP f 1 p)) (eQ (fP f 1 p))=dt (eQ p) (eQ p)
theorem aYy {f:Int→P3→P3} (I:Iso f) {s:Int} {p:PN} (h:bdP 100000 p)(h':bdP 100000 (fP f s p)):q1 (fP f s p)=fP f (2*s) (q1 p)∧q2 (fP f s p)=fP f (2*s) (q2 p)∧q3 (fP f s p)=fP f (2*s) (q3 p)∧q4 (fP f s p)=fP f (2*s) (q4 p):=by
 obtain⟨h1,h2,h3⟩:=h
 obtain⟨g1,g2,g3⟩:=h'
 have md:∀{a b:P3},bd 100000 a→bd 100000 b→bd 100000 (f s a)→bd 100000 (f s b)→eP (f s a) (f s b)=f (2*s) (eP a b):=fun ha hb ga gb=>by
   rw [oJ ga gb,oJ ha hb];exact I.ad s _ _
 have tw:∀{a:P3},bd 100000 a→bd 100000 (f s a)→oG (f s a) 2=f (2*s) (oG a 2):=fun ha ga=>by
   rw [gI ga,gI ha];exact I.tk 2 s _
 unfold q1 q2 q3 q4
 simp only [fP] at g1 g2 g3 ⊢
 rw [tw h1 g1,tw h2 g2,tw h3 g3,md h1 h2 g1 g2,md h2 h3 g2 g3,md h3 h1 g3 g1]
 exact⟨rfl,rfl,rfl,rfl⟩
theorem aEu {f:Int→P3→P3} (I:Iso f):∀(d:Nat) {s m m':Int} {p:PN},bdP m p→m*2 ^ d≤100000→0≤m→bdP m' (fP f s p)→m'*2 ^ d≤100000→0≤m'→aO d (fP f s p)=(aO d p).map (fP f (2 ^ d*s))
 | 0,s,m,m',p,_,_,_,_,_,_=>by simp only [aO,List.map_cons,List.map_nil];rw [show(2:Int) ^ 0*s=s by omega]
 | d+1,s,m,m',p,h,hm,h0,h',hm',h0'=>by
   have hp:(1:Int)≤2 ^ d:=Int.add_one_le_of_lt (Int.pow_pos (by omega))
   have e1:∀m:Int,m*2 ^ (d+1)=2*m*2 ^ d:=fun m=>by rw [Int.pow_succ];grind
   have lem:∀m:Int,0≤m→m*2 ^ (d+1)≤100000→m≤100000∧2*m*2 ^ d≤100000:=fun m h0 hm=>by
     have:=Int.mul_le_mul_of_nonneg_left hp h0
     have e2:m*2 ^ (d+1)=m*2 ^ d+m*2 ^ d:=by rw [Int.pow_succ];grind
     rw [e1] at hm
     have e3:=e1 m
     omega
   have a:=lem m h0 hm;have a':=lem m' h0' hm'
   obtain⟨k1,k2,k3,k4⟩:=aYy I (h.mono a.1) (h'.mono a'.1)
   have key:∀y,y∈mO p→fP f (2*s) y∈mO (fP f s p)→aO d (fP f (2*s) y)=(aO d y).map (fP f (2 ^ (d+1)*s)):=fun y hy hy'=>by
     have e4:(2:Int) ^ (d+1)*s=2 ^ d*(2*s):=by rw [Int.pow_succ];grind
     rw [e4]
     exact aEu I d (aDo h a.1 hy) a.2 (by omega) (aDo h' a'.1 hy') a'.2 (by omega)
   simp only [aO,k1,k2,k3,k4,List.map_append]
   rw [key _ (by simp [mO]) (by rw [←k1];simp [mO]),key _ (by simp [mO]) (by rw [←k2];simp [mO]),key _ (by simp [mO]) (by rw [←k3];simp [mO]),key _ (by simp [mO]) (by rw [←k4];simp [mO])]
theorem aSf {f:Int→P3→P3} (I:Iso f)(s:Int)(c q:PN):lN (fP f s c) (fP f s q)=lN c q:=by
 unfold lN fP
 simp only [I.dist]
theorem aPy {p q:PN} {d:Int} (hp:vp p=0)(hq:vp q=0)(h:dt (eQ p) (eQ p)=dt (eQ q) (eQ q)):eJ p d=eJ q d:=by
 obtain⟨r,e,hr,r1,r2⟩:=aDn hp
 obtain⟨r',e',hr',r1',r2'⟩:=aDn hq
 have:r=r':=by
   obtain⟨a0,a1,a2⟩:=hr
   obtain⟨b0,b1,b2⟩:=hr'
   rw [h] at a1 a2
   rcases Int.lt_trichotomy r r' with k | k | k
   · have:=Int.mul_le_mul (show r+1≤r' by omega) (show r+1≤r' by omega) (by omega) (by omega);omega
   · exact k
   · have:=Int.mul_le_mul (show r'+1≤r by omega) (show r'+1≤r by omega) (by omega) (by omega);omega
 unfold eJ
 rw [e,e',this]
theorem aPz {d:Int} (hd:0≤d∧d≤3):sc d=2 ^ d.toNat:=by
 rcases d4 hd with rfl | rfl | rfl | rfl<;>decide
theorem aKh {f:Int→P3→P3} (I:Iso f) {p b:PN} {d:Int} (hd:0≤d∧d≤3)(hp:vp p=0)(hp':vp (fP f 1 p)=0):dK (fP f 1 p) (fP f (sc d) b) d=dK p b d:=by
 unfold dK
 have hpow:(64:Int)*2 ^ d.toNat≤100000:=by rcases d4 hd with rfl | rfl | rfl | rfl<;>decide
 rw [aEu I d.toNat (dN hp).1 hpow (by decide) (dN hp').1 hpow (by decide),aPy hp' hp (I.nor p),jI,jI,List.map_map,List.map_map,Int.mul_one,←aPz hd]
 have e1:(mA d (fP f (sc d) b)) ∘ (fP f (sc d))=mA d b:=by
   funext c;simp only [Function.comp,mA,aSf I]
 have e2:(kR (eJ p d) d (fP f (sc d) b)) ∘ (fP f (sc d))=kR (eJ p d) d b:=by
   funext c;simp only [Function.comp,kR,I.gap]
 rw [e1,e2]
def iA (p:PN):PN:=(p.2.1,p.1,p.2.2)
def dI (p:PN):PN:=(p.1,p.2.2,p.2.1)
def aYz (F:PN→Int):Prop:=(∀c,F (iA c)=F c)∧∀c,F (dI c)=F c
theorem eS (p q:P3):eP p q=eP q p:=by
 unfold eP
 rw [Int.add_comm p.1,Int.add_comm p.2.1,Int.add_comm p.2.2]
theorem oU {F:PN→Int} (hF:aYz F):∀n:Nat,aYz fun p=>((aO n p).map F).sum
 | 0=>by
   refine⟨fun c=>?_,fun c=>?_⟩<;>simp only [aO,List.map_cons,List.map_nil,List.sum_cons,List.sum_nil]
   · rw [hF.1]
   · rw [hF.2]
 | n+1=>by
   obtain⟨i1,i2⟩:=oU hF n
   have st:∀p,((aO (n+1) p).map F).sum=((aO n (q1 p)).map F).sum+(((aO n (q2 p)).map F).sum+(((aO n (q3 p)).map F).sum+((aO n (q4 p)).map F).sum)):=fun p=>by
     simp only [aO,List.map_append,List.sum_append]
   generalize hG:(fun p=>((aO n p).map F).sum)=G at i1 i2
   have hg:∀p,((aO n p).map F).sum=G p:=fun p=>by rw [←hG]
   refine⟨fun p=>?_,fun p=>?_⟩
   · simp only [st,hg]
     have a1:q1 (iA p)=iA (q2 p):=by unfold q1 q2 iA;simp only;rw [eS p.2.1 p.1,eS p.2.2 p.2.1]
     have a2:q2 (iA p)=iA (q1 p):=by unfold q1 q2 iA;simp only;rw [eS p.2.1 p.1,eS p.1 p.2.2]
     have a3:q3 (iA p)=iA (q3 p):=by unfold q3 iA;simp only;rw [eS p.2.2 p.2.1,eS p.1 p.2.2]
     have a4:q4 (iA p)=dI (q4 p):=by unfold q4 iA dI;simp only;rw [eS p.2.1 p.1,eS p.1 p.2.2,eS p.2.2 p.2.1]
     rw [a1,a2,a3,a4,i1,i1,i1,i2];omega
   · simp only [st,hg]
     have a1:q1 (dI p)=dI (q1 p):=by unfold q1 dI;simp only;rw [eS p.1 p.2.2,eS p.2.1 p.1]
     have a2:q2 (dI p)=dI (q3 p):=by unfold q2 q3 dI;simp only;rw [eS p.1 p.2.2,eS p.2.2 p.2.1]
     have a3:q3 (dI p)=dI (q2 p):=by unfold q2 q3 dI;simp only;rw [eS p.2.1 p.1,eS p.2.2 p.2.1]
     have a4:q4 (dI p)=iA (dI (iA (q4 p))):=by unfold q4 iA dI;simp only;rw [eS p.1 p.2.2,eS p.2.2 p.2.1,eS p.2.1 p.1]
     rw [a1,a2,a3,a4,i2,i2,i2,i1,i2,i1];omega
theorem aSg {c q:PN} {M:Int} (h0:0≤M)(h:∀a,(a=c.1∨a=c.2.1∨a=c.2.2)→∀x,(x=q.1∨x=q.2.1∨x=q.2.2)→ds a x≤M):lN c q≤M:=by
 unfold lN
 exact gC (gC (gC (gC (gC (gC (gC (gC (gC h0 (h _ (.inl rfl) _ (.inl rfl))) (h _ (.inl rfl) _ (.inr (.inl rfl)))) (h _ (.inl rfl) _ (.inr (.inr rfl)))) (h _ (.inr (.inl rfl)) _ (.inl rfl))) (h _ (.inr (.inl rfl)) _ (.inr (.inl rfl)))) (h _ (.inr (.inl rfl)) _ (.inr (.inr rfl)))) (h _ (.inr (.inr rfl)) _ (.inl rfl))) (h _ (.inr (.inr rfl)) _ (.inr (.inl rfl)))) (h _ (.inr (.inr rfl)) _ (.inr (.inr rfl)))
theorem aVs (c q:PN):0≤lN c q:=by
 unfold lN
 exact Int.le_trans (bK 0 _) (Int.le_trans (bK _ _) (Int.le_trans (bK _ _) (Int.le_trans (bK _ _) (Int.le_trans (bK _ _) (Int.le_trans (bK _ _) (Int.le_trans (bK _ _) (Int.le_trans (bK _ _) (bK _ _))))))))
theorem aGo {c q c' q':PN} (hc:∀a,(a=c'.1∨a=c'.2.1∨a=c'.2.2)→(a=c.1∨a=c.2.1∨a=c.2.2))(hq:∀a,(a=q'.1∨a=q'.2.1∨a=q'.2.2)→(a=q.1∨a=q.2.1∨a=q.2.2)):lN c' q'≤lN c q :=
 aSg (aVs c q) fun a ha x hx=>aEo c q (hc a ha) (hq x hx)
theorem aVt (a b c:Int):nQ b a c=nQ a b c:=by unfold nQ;simp only [Int.lt_irrefl,if_false];(repeat' split)<;>omega
theorem aVu (a b c:Int):nQ a c b=nQ a b c:=by unfold nQ;simp only [Int.lt_irrefl,if_false];(repeat' split)<;>omega
theorem aVv (a b c:Int):nR b a c=nR a b c:=by unfold nR;simp only [Int.lt_irrefl,if_false];(repeat' split)<;>omega
theorem aVw (a b c:Int):nR a c b=nR a b c:=by unfold nR;simp only [Int.lt_irrefl,if_false];(repeat' split)<;>omega
theorem aEv (c q:PN):mU (iA c) q=mU c q∧mU (dI c) q=mU c q∧mU c (iA q)=mU c q∧mU c (dI q)=mU c q:=by
 unfold mU uD uE iA dI
 simp only [aVt,aVv,aVu,aVw,and_self]
theorem aEw (c q:PN):lN (iA c) q=lN c q∧lN (dI c) q=lN c q∧lN c (iA q)=lN c q∧lN c (dI q)=lN c q:=by
 have t12:∀(c:PN) a,(a=(iA c).1∨a=(iA c).2.1∨a=(iA c).2.2)↔(a=c.1∨a=c.2.1∨a=c.2.2):=fun c a=>by
   unfold iA;simp only;grind
 have t23:∀(c:PN) a,(a=(dI c).1∨a=(dI c).2.1∨a=(dI c).2.2)↔(a=c.1∨a=c.2.1∨a=c.2.2):=fun c a=>by
   unfold dI;simp only;grind
 refine⟨?_,?_,?_,?_⟩<;>refine Int.le_antisymm (aGo ?_ ?_) (aGo ?_ ?_)<;>intro a ha<;>first | exact ha | exact(t12 _ a).1 ha | exact(t12 _ a).2 ha | exact(t23 _ a).1 ha | exact(t23 _ a).2 ha
theorem aSh (u v:P3):cr v u=(-(cr u v).1,-(cr u v).2.1,-(cr u v).2.2):=by
 unfold cr
 simp only [Prod.mk.injEq]
 refine⟨?_,?_,?_⟩<;>grind
theorem aP0 (p:PN):dt (eQ (dI p)) (eQ (dI p))=dt (eQ p) (eQ p):=by
 have e:eQ (dI p)=(-(eQ p).1,-(eQ p).2.1,-(eQ p).2.2):=aSh _ _
 rw [e]
 generalize eQ p=n
 unfold dt
 simp only [Int.neg_mul_neg]
theorem oW (p:PN)(d:Int):(∀b,dK p (iA b) d=dK p b d)∧∀b,dK p (dI b) d=dK p b d:=by
 constructor
 · intro b
   have e1:mA d (iA b)=mA d b:=by funext c;simp only [mA,(aEw c b).2.2.1]
   have e2:∀R,kR R d (iA b)=kR R d b:=fun R=>by funext c;simp only [kR,(aEv c b).2.2.1]
   unfold dK
   rw [e1,e2]
 · intro b
   have e1:mA d (dI b)=mA d b:=by funext c;simp only [mA,(aEw c b).2.2.2]
   have e2:∀R,kR R d (dI b)=kR R d b:=fun R=>by funext c;simp only [kR,(aEv c b).2.2.2]
   unfold dK
   rw [e1,e2]
theorem aP1 {p:PN} {d:Int} (hp:vp p=0)(hp':vp (dI p)=0)(b:PN):dK (dI p) b d=dK p b d:=by
 unfold dK
 rw [jI,jI,aPy hp' hp (aP0 p)]
 have s1:=(oU (F:=mA d b) ⟨fun c=>by simp only [mA,(aEw c b).1],fun c=>by simp only [mA,(aEw c b).2.1]⟩ d.toNat).2 p
 have s2:=(oU (F:=kR (eJ p d) d b) ⟨fun c=>by simp only [kR,(aEv c b).1],fun c=>by simp only [kR,(aEv c b).2.1]⟩ d.toNat).2 p
 simp only at s1 s2
 rw [s1,s2]
def mvF (v:P3)(s:Int)(x:P3):P3:=(x.1+s*v.1,x.2.1+s*v.2.1,x.2.2+s*v.2.2)
def lF (_:Int)(x:P3):P3:=(-x.1,x.2.1,x.2.2)
theorem aSi (a b c t:Int):nQ (a+t) (b+t) (c+t)=nQ a b c+t:=by unfold nQ;simp only [Int.lt_irrefl,if_false];(repeat' split)<;>omega
theorem aSj (a b c t:Int):nR (a+t) (b+t) (c+t)=nR a b c+t:=by unfold nR;simp only [Int.lt_irrefl,if_false];(repeat' split)<;>omega
theorem aVx (a b c d t:Int):gp (a+t) (b+t) (c+t) (d+t)=gp a b c d:=by unfold gp mx;(repeat' split)<;>omega
theorem aSk (a b c d:Int):gp (-b) (-a) (-d) (-c)=gp a b c d:=by unfold gp mx;(repeat' split)<;>omega
theorem aVy (a b c:Int):nQ (-a) (-b) (-c)=-nR a b c:=by unfold nQ nR;simp only [Int.lt_irrefl,if_false];(repeat' split)<;>omega
theorem aVz (a b c:Int):nR (-a) (-b) (-c)=-nQ a b c:=by unfold nQ nR;simp only [Int.lt_irrefl,if_false];(repeat' split)<;>omega
theorem aV0 (v:P3):Iso (mvF v) where
 ad:=fun s p q=>by simp only [aSe,mvF,Prod.mk.injEq];refine⟨?_,?_,?_⟩<;>grind
 tk:=fun k s p=>by simp only [tm,mvF,Prod.mk.injEq];refine⟨?_,?_,?_⟩<;>grind
 dist:=fun s p q=>by
   have e:sb (mvF v s p) (mvF v s q)=sb p q:=by simp only [sb,mvF,Prod.mk.injEq];omega
   unfold ds;rw [e]
 gap:=fun s c q=>by unfold mU nr uD uE fP mvF;simp only [aSi,aSj,aVx]
 nor:=fun p=>by
   have e:∀a b,sb (mvF v 1 a) (mvF v 1 b)=sb a b:=fun a b=>by simp only [sb,mvF,Prod.mk.injEq];omega
   unfold eQ fP;simp only [e]
theorem aP2:Iso lF where
 ad:=fun s p q=>by simp only [aSe,lF,Prod.mk.injEq,and_true];omega
 tk:=fun k s p=>by simp only [tm,lF,Prod.mk.injEq,Int.mul_neg,and_true]
 dist:=fun s p q=>by
   have e:sb (lF s p) (lF s q)=(-(sb p q).1,(sb p q).2.1,(sb p q).2.2):=by simp only [sb,lF,Prod.mk.injEq,and_true];omega
   unfold ds;rw [e];unfold dt;simp only [Int.neg_mul_neg]
 gap:=fun s c q=>by unfold mU nr uD uE fP lF;simp only [aVy,aVz,aSk]
 nor:=fun p=>by
   have e:∀a b,sb (lF 1 a) (lF 1 b)=lF 1 (sb a b):=fun a b=>by simp only [sb,lF,Prod.mk.injEq,and_true];omega
   have c:∀u w,cr (lF 1 u) (lF 1 w)=((cr u w).1,-(cr u w).2.1,-(cr u w).2.2):=fun u w=>by simp only [cr,lF,Prod.mk.injEq];refine⟨?_,?_,?_⟩<;>grind
   unfold eQ fP;simp only [e,c]
   generalize cr (sb p.2.1 p.1) (sb p.2.2 p.1)=n
   unfold dt;simp only [Int.neg_mul_neg]
def aCu (g:PN→PN):Prop:=∀p q d,0≤d∧d≤2→vp p=0→vp q=0→vp (g p)=0→vp (g q)=0→wU (g p) (g q) d=wU p q d∧qH (g p) (g q) d=qH p q d
theorem aGp {p q:PN} {d:Int} (hp:vp p=0)(hq:vp q=0)(hd:0≤d∧d≤2):pk p q d=0:=by unfold pk;rw [if_pos hp,if_pos hq,if_pos hd]
theorem aV1 {f:Int→P3→P3} (I:Iso f)(k:Int)(q:PN):dE k (fP f 1 q)=fP f k (dE k q):=by
 unfold dE fP;simp only [I.tk,Int.mul_one]
theorem aGq {f:Int→P3→P3} (I:Iso f):aCu (fP f 1):=by
 intro p q d hd hp hq hp' hq'
 have hd3:0≤d∧d≤3:=by omega
 have hpow:(64:Int)*2 ^ d.toNat≤100000:=by rcases d4 hd3 with rfl | rfl | rfl | rfl<;>decide
 constructor
 · rw [gZ (aGp hp' hq' hd),gZ (aGp hp hq hd),aV1 I,aKh I hd3 hp hp']
 · rw [lO,lO]
   unfold aDv
   rw [aGp hp' hq' hd,aGp hp hq hd,if_pos rfl,if_pos rfl]
   have e:mV (fP f 1 p) (fP f 1 q) d=mV p q d:=by
     unfold mV
     rw [aEu I d.toNat (dN hq).1 hpow (by decide) (dN hq').1 hpow (by decide),List.map_map,Int.mul_one,←aPz hd3]
     refine List.map_congr_left fun c _=>?_
     exact aKh I hd3 hp hp'
   rw [e]
theorem aSl:aCu dI:=by
 intro p q d hd hp hq hp' hq'
 constructor
 · rw [gZ (aGp hp' hq' hd),gZ (aGp hp hq hd),aP1 hp hp',show dE (sc d) (dI q)=dI (dE (sc d) q) from rfl,(oW p d).2]
 · rw [lO,lO]
   unfold aDv
   rw [aGp hp' hq' hd,aGp hp hq hd,if_pos rfl,if_pos rfl]
   have e:∀b,dK (dI p) b d=dK p b d:=aP1 hp hp'
   have s1:=(oU (F:=fun b=>(dK p b d).1) ⟨fun c=>by simp only [(oW p d).1],fun c=>by simp only [(oW p d).2]⟩ d.toNat).2 q
   have s2:=(oU (F:=fun b=>(dK p b d).2) ⟨fun c=>by simp only [(oW p d).1],fun c=>by simp only [(oW p d).2]⟩ d.toNat).2 q
   rw [kS,kS]
   unfold mV
   simp only [List.map_map,Function.comp_def,e]
   simp only at s1 s2
   rw [s1,s2]
theorem aP3 {p:PN} (h:vp p=0):vp (dI p)=0:=by
 have h1:=(dN h).1
 have h2:=(dN h).2
 have e:=aP0 p
 unfold vp
 rw [if_pos (show bdP 64 (dI p) from⟨h1.1,h1.2.2,h1.2.1⟩)]
 by_cases hz:(eQ (dI p)).1=0∧(eQ (dI p)).2.1=0∧(eQ (dI p)).2.2=0
 · exfalso
   unfold dt at e h2
   rw [hz.1,hz.2.1,hz.2.2] at e
   omega
 · rw [if_neg hz]
theorem aP4 {m m':ME} {q:List Int} (hv:bN m=0)(hv':bN m'=0)(hl:m'.2.length=m.2.length)(h:chV m q=0):chV m' q=0:=by
 unfold chV at h ⊢
 rw [hv] at h
 rw [hv',hl]
 exact h
theorem aKi {m:ME} {q:List Int} {d:Int} (hc:((eV m q d:Int) != 0)=false):aM m q d=fD ((m.1,m.2),(aT m).map (kZ m d),MT m d,(F9 m (hH (mB m))).1) q:=by
 obtain⟨hv,hd⟩:=aCo (m:=m) hc
 unfold aM
 have hc2:((eV (m.1,m.2) q d:Int) != 0)=false:=hc
 rw [hc2,cond_false]
 have hpf:=aIa (m:=m) hv hd
 have hpf':xJ (m.1,m.2) d=_:=hpf
 have eB:(bP m d).1=(aT m).map (kZ m d):=by rw [aGa hv hd];rfl
 have eM:(bW m d).1=MT m d:=by rw [aGb hv hd];rfl
 rw [hpf',eB,eM]
 rfl
theorem aLs (M M':ME)(T T2:TB)(B B':Int)(q:List Int):(fD (M',T,T2,B') q).2=(fD (M,T,T2,B) q).2∧(fD (M',T,T2,B') q).1.1=(fD (M,T,T2,B) q).1.1:=by
 unfold fD
 simp only
 generalize aW T q=P
 generalize cJ T2 q=E
 generalize gL P.1 q=b
 generalize gM P.1 q=a
 generalize qT E.1 q=t
 cases (P.2:Int) != 0 with
 | true=>exact⟨rfl,rfl⟩
 | false =>
   cases (b.2:Int) != 0 with
   | true=>exact⟨rfl,rfl⟩
   | false =>
     cases (E.2:Int) != 0 with
     | true=>exact⟨rfl,rfl⟩
     | false =>
       cases (t.2:Int) != 0 with
       | true=>exact⟨rfl,rfl⟩
       | false =>
         cases (a.2:Int) != 0 with
         | true=>exact⟨rfl,rfl⟩
         | false=>exact⟨rfl,rfl⟩
theorem aA8 {m m':ME} {g:PN→PN} {q:List Int} {d:Int} (hg:aCu g)(hp:aT m'=(aT m).map g)(hv':bN m'=0)(hl:m'.2.length=m.2.length)(h:(aM m q d).2=0) :
   (aM m' q d).2=0∧(aM m' q d).1.1=(aM m q d).1.1:=by
 have hc:((eV m q d:Int) != 0)=false:=by
   cases hc:((eV m q d:Int) != 0) with
   | false=>rfl
   | true =>
     exfalso
     unfold aM at h
     have hc2:((eV (m.1,m.2) q d:Int) != 0)=true:=hc
     rw [hc2,cond_true] at h
     exact bne_iff_ne.1 hc2 h
 obtain⟨hv,hd⟩:=aCo (m:=m) hc
 have hc':((eV m' q d:Int) != 0)=false:=by
   rw [aCl] at hc ⊢
   have h0:=bne_eq_false_iff_eq.1 hc
   have hch:chV m q=0:=by
     unfold chD at h0
     cases h1:(chV m q != 0) with
     | true=>rw [h1,cond_true] at h0;exact h0
     | false=>exact bne_eq_false_iff_eq.1 h1
   have hch':=aP4 hv hv' hl hch
   unfold chD at h0 ⊢
   rw [hch] at h0
   rw [hch']
   exact bne_eq_false_iff_eq.2 h0
 have v:∀p∈aT m,vp p=0:=fun p hp'=>by obtain⟨c,hc,rfl⟩:=List.mem_map.1 hp';exact kV hv c hc
 have v':∀p∈aT m,vp (g p)=0:=fun p hp'=>by
   have:g p∈aT m':=by rw [hp];exact List.mem_map.2 ⟨p,hp',rfl⟩
   obtain⟨c,hc,e⟩:=List.mem_map.1 this
   rw [←e];exact kV hv' c hc
 have eT:(aT m').map (kZ m' d)=(aT m).map (kZ m d):=by
   rw [hp,List.map_map]
   refine List.map_congr_left fun p hp'=>?_
   simp only [Function.comp]
   unfold kZ
   rw [hp,List.map_map]
   refine List.map_congr_left fun p2 hp2=>?_
   simp only [Function.comp]
   rw [(hg p2 p d hd (v p2 hp2) (v p hp') (v' p2 hp2) (v' p hp')).1]
 have eM:MT m' d=MT m d:=by
   unfold MT
   rw [hp,List.map_map]
   refine List.map_congr_left fun p hp'=>?_
   simp only [Function.comp]
   rw [List.map_map]
   refine List.map_congr_left fun p2 hp2=>?_
   simp only [Function.comp]
   rw [(hg p2 p d hd (v p2 hp2) (v p hp') (v' p2 hp2) (v' p hp')).2]
 rw [aKi hc] at h ⊢
 rw [aKi hc',eT,eM]
 have k:=aLs (m.1,m.2) (m'.1,m'.2) ((aT m).map (kZ m d)) (MT m d) (F9 m (hH (mB m))).1 (F9 m' (hH (mB m'))).1 q
 exact⟨k.1.trans h,k.2⟩
structure Img (T φ:P3→P3) (g:PN→PN):Prop where
 t0:T default=default
 inj:∀p q,T p=T q→p=q
 tb:∀p,bd 64 (T p)↔bd 64 p
 ph:φ=id∨φ=yA
 pan:∀(m:ME) c,iV (m.1.map T,m.2.map φ) (φ c)=g (iV m c)
 gv:∀p,vp p=0→vp (g p)=0
 vol:∀p,bdP 64 p→F92 (g p)=F92 p
theorem aSm (f:P3)(p q:Int):tri (yA f) p q=tri f q p:=by
 have c:∀a b c d:Int,(if a=b∧c=d then(1:Int) else 0)=(if c=d∧a=b then 1 else 0):=fun a b c d=>by by_cases h:a=b<;>by_cases k:c=d<;>simp [h,k]
 unfold tri yA
 simp only
 rw [c f.1 p f.2.2 q,c f.2.2 p f.2.1 q,c f.2.1 p f.1 q]
 ac_rfl
theorem aKj:∀(l:List P3)(p q:Int),cnt (l.map yA) p q=cnt l q p
 | [],_,_=>rfl
 | f::l,p,q=>by
   simp only [List.map_cons,cnt]
   rw [aSm,aKj l]
section
variable {T φ : P3 → P3} {g : PN → PN}
theorem aGr (H:Img T φ g)(m:ME):aT (m.1.map T,m.2.map φ)=(aT m).map g:=by
 unfold aT
 rw [List.map_map,List.map_map]
 exact List.map_congr_left fun c _=>H.pan m c
theorem aY0 (H:Img T φ g)(m:ME)(n:Nat)(s:Int×Int):aB (nL (m.1.map T,m.2.map φ)) n s=aB (nL m) n s:=by
 refine kI (fun _=>True) (fun s _=>?_) (fun _ _ _ _=>trivial) n s trivial
 obtain⟨v3,v4⟩:=s
 simp only [nL]
 rw [jS T H.t0,jS T H.t0,aK3,aK3]
 have e:decide (T (m.1.getD (toNat v3) default)=T (m.1.getD (toNat v4) default))=decide (m.1.getD (toNat v3) default=m.1.getD (toNat v4) default):=by
   by_cases h:m.1.getD (toNat v3) default=m.1.getD (toNat v4) default
   · rw [cV h,cV (by rw [h])]
   · rw [dL h,dL (fun k=>h (H.inj _ _ k))]
 rw [e]
theorem aTj {m:ME} {i:Nat} {c:P3} (hc:m.2[i]? = some c)(hin:inF m.1.length c)(hv:vp (iV m c)=0)(v:List Bool):kH m (v,(i:Int))=.inl ((((v.set (toNat c.1) true).set (toNat c.2.1) true).set (toNat c.2.2) true),(i:Int)+1):=by
 obtain⟨hlt,_⟩:=List.getElem?_eq_some_iff.1 hc
 obtain⟨⟨a1,a2⟩,⟨b1,b2⟩,⟨c1,c2⟩⟩:=hin
 have hp:F76 (m.1,m.2) (i:Int)=iV m c:=by
   unfold F76
   rw [bF hc];rfl
 obtain⟨hb,hd⟩:=dN hv
 have hN:F75 (iV m c)=eQ (iV m c):=by rw [←aN1];exact aMs hb
 simp only [kH]
 rw [cV (by omega),cond_true,bF hc,dL (by omega),cond_false,dL (by omega),cond_false,dL (by omega),cond_false,dL (by omega),cond_false,dL (by omega),cond_false,dL (by omega),cond_false,hp,hN]
 generalize eQ (iV m c)=N at *
 have hne:N≠(0,0,0):=fun h=>by rw [h] at hd;exact absurd hd (by decide)
 have hz:(((N.1:Int) == 0)&&(((N.2.1:Int) == 0)&&(((N.2.2:Int) == 0)&&true)))=false:=(aK3 N (0,0,0)).trans (dL hne)
 rw [hz,cond_false]
theorem aSn (v:List Bool)(a b c:Nat):((v.set a true).set c true).set b true=((v.set a true).set b true).set c true:=by
 by_cases h:b=c
 · subst h;rfl
 · rw [List.set_comm _ _ (fun e=>h e.symm)]
theorem aSo (H:Img T φ g) {m:ME} (hv:bN m=0):F78 (m.1.map T,m.2.map φ)=F78 m:=by
 rw [aN2,aN2]
 simp only
 rw [List.foldl_map]
 have key:∀(l:List P3) (v:Int),(∀c∈l,c∈m.2)→l.foldl (fun v c=>W (v+F92 (iV (m.1.map T,m.2.map φ) (φ c)))) v=l.foldl (fun v c=>W (v+F92 (iV m c))) v:=by
   intro l
   induction l with
   | nil=>intro v _;rfl
   | cons c l ih =>
     intro v hl
     rw [List.foldl_cons,List.foldl_cons,H.pan,H.vol _ (dN (kV hv c (hl c List.mem_cons_self))).1]
     exact ih _ (fun x hx=>hl x (List.mem_cons_of_mem _ hx))
 exact key m.2 0 (fun c hc=>hc)
theorem aY1 (H:Img T φ g) {m:ME} (hv:bN m=0)(n:Nat)(s:List Bool×Int):aB (oK (m.1.map T,m.2.map φ)) n s=aB (oK m) n s:=by
 refine kI (fun _=>True) (fun s _=>?_) (fun _ _ _ _=>trivial) n s trivial
 obtain⟨v,i⟩:=s
 simp only [oK]
 rw [aSo H hv]
theorem aY2 (H:Img T φ g) {m:ME} (hv:bN m=0)(n:Nat)(s:List Bool×Int):aB (aAl (m.1.map T,m.2.map φ)) n s=aB (aAl m) n s:=by
 have h96:m.2.length≤96:=(bI hv).2.2.1
 refine kI (fun _=>True) (fun s _=>?_) (fun _ _ _ _=>trivial) n s trivial
 obtain⟨v,i⟩:=s
 have e1:∀p q,F77 (m.1,m.2) p q=cnt m.2 p q:=fun p q=>aNy m h96 p q
 have e2:∀p q,F77 (m.1.map T,m.2.map φ) p q=cnt (m.2.map φ) p q:=fun p q=>aNy (m.1.map T,m.2.map φ) (by simp only [List.length_map];exact h96) p q
 simp only [aAl]
 rw [aY1 H hv]
 simp only [e1,e2,List.length_map]
 rcases H.ph with rfl | rfl
 · simp only [List.map_id]
 · simp only [aKj,jS yA rfl]
   simp only [yA]
   generalize m.2.getD (toNat i) default=f
   generalize (cnt m.2 f.1 f.2.1 != 1)=b1
   generalize (cnt m.2 f.2.1 f.1 != 1)=b2
   generalize (cnt m.2 f.2.1 f.2.2 != 1)=b3
   generalize (cnt m.2 f.2.2 f.2.1 != 1)=b4
   generalize (cnt m.2 f.2.2 f.1 != 1)=b5
   generalize (cnt m.2 f.1 f.2.2 != 1)=b6
   cases b1<;>cases b2<;>cases b3<;>cases b4<;>cases b5<;>cases b6<;>rfl
theorem aP5 (H:Img T φ g) {m:ME} (hv:bN m=0)(v:List Bool) {i:Nat} (hlt:i < m.2.length):∃u,kH (m.1.map T,m.2.map φ) (v,(i:Int))=.inl (u,(i:Int)+1)∧kH m (v,(i:Int))=.inl (u,(i:Int)+1):=by
 have hc:m.2[i]? = some m.2[i]:=List.getElem?_eq_getElem hlt
 generalize m.2[i]=c at hc
 have hm:c∈m.2:=List.mem_of_getElem? hc
 have hvp:=kV hv c hm
 obtain⟨h64,_,_,_,hf⟩:=bI hv
 have hfc:=hf (i:Int) (by omega) (by omega)
 rw [bF hc] at hfc
 have hin:inF m.1.length c:=iG (m:=m) (by rw [hfc];rfl) h64
 have hc':(m.2.map φ)[i]? = some (φ c):=by rw [List.getElem?_map,hc];rfl
 have hvp':vp (iV (m.1.map T,m.2.map φ) (φ c))=0:=by rw [H.pan];exact H.gv _ hvp
 have hin':inF (m.1.map T).length (φ c):=by
   rw [List.length_map]
   rcases H.ph with rfl | rfl
   · exact hin
   · exact⟨hin.1,hin.2.2,hin.2.1⟩
 refine⟨_,?_,aTj hc hin hvp v⟩
 rw [aTj (m:=(m.1.map T,m.2.map φ)) hc' hin' hvp']
 rcases H.ph with rfl | rfl
 · rfl
 · simp only [yA];rw [aSn]
theorem aY3 (H:Img T φ g) {m:ME} (hv:bN m=0)(n:Nat)(s:List Bool×Int)(h0:0≤s.2):aB (kH (m.1.map T,m.2.map φ)) n s=aB (kH m) n s:=by
 have out:∀(v:List Bool) (i:Nat),¬i < m.2.length→kH (m.1.map T,m.2.map φ) (v,(i:Int))=.inr (aB (aAl m) (toNat ((m.2.length:Int) - 0)+1) (v,0)):=fun v i hn=>by
   simp only [kH,List.length_map]
   rw [dL (by omega),cond_false,aY2 H hv]
 refine kI (fun s=>0≤s.2) (fun s hs=>?_) (fun s s' hs e=>?_) n s h0
 · obtain⟨v,j⟩:=s
   obtain⟨i,rfl⟩:=Int.eq_ofNat_of_zero_le hs
   by_cases hlt:i < m.2.length
   · obtain⟨u,e1,e2⟩:=aP5 H hv v hlt
     exact e1.trans e2.symm
   · refine(out v i hlt).trans ?_
     simp only [kH]
     rw [dL (by omega),cond_false]
 · obtain⟨v,j⟩:=s
   obtain⟨i,rfl⟩:=Int.eq_ofNat_of_zero_le hs
   by_cases hlt:i < m.2.length
   · obtain⟨u,e1,e2⟩:=aP5 H hv v hlt
     have:=e1.symm.trans e
     cases this
     show(0:Int)≤(i:Int)+1
     omega
   · have:=(out v i hlt).symm.trans e
     cases this
theorem aKk (H:Img T φ g) {m:ME} (hv:bN m=0):bN (m.1.map T,m.2.map φ)=0:=by
 rw [←hv,aN3,aN3]
 unfold F53
 simp only [List.length_map]
 have e:∀n s,aB (lQ (m.1.map T,m.2.map φ)) n s=aB (lQ m) n s:=fun n s=>by
   refine kI (fun _=>True) (fun v _=>?_) (fun _ _ _ _=>trivial) n s trivial
   simp only [lQ,List.length_map]
   have e2:F74 (T (m.1.getD (toNat v) default)) 64=F74 (m.1.getD (toNat v) default) 64:=by
     rw [uX,uX];exact decide_eq_decide.2 (H.tb _)
   rw [jS T H.t0,e2,aY0 H,aY3 H hv _ _ (Int.le_refl 0)]
 rw [e]
end
end Go.Proofs.Ytaeagjnpobdglaa
namespace Go.Proofs.Ytaeagjnpobdglaa
open Go.Proofs Go.Aw Go.RowKit
set_option maxRecDepth 100000
theorem aY4 {p p':PN} (hb:bdP 64 p')(hn:dt (eQ p') (eQ p')=dt (eQ p) (eQ p))(h:vp p=0):vp p'=0:=by
 have h2:=(dN h).2
 unfold vp
 rw [if_pos hb]
 by_cases hz:(eQ p').1=0∧(eQ p').2.1=0∧(eQ p').2.2=0
 · exfalso
   unfold dt at hn h2
   rw [hz.1,hz.2.1,hz.2.2] at hn
   omega
 · rw [if_neg hz]
theorem aKl {p:PN} (h:bdP 64 p):F92 p=dt p.1 (cr p.2.1 p.2.2):=by
 obtain⟨h1,h2,h3⟩:=h
 unfold F92
 rw [scr (h2.mono (by decide)) (h3.mono (by decide))]
 unfold bd at h1 h2 h3
 have b1:=aU (a:=64) (b:=64) h2.2.1 h3.2.2;have b2:=aU (a:=64) (b:=64) h2.2.2 h3.2.1
 have b3:=aU (a:=64) (b:=64) h2.2.2 h3.1;have b4:=aU (a:=64) (b:=64) h2.1 h3.2.2
 have b5:=aU (a:=64) (b:=64) h2.1 h3.2.1;have b6:=aU (a:=64) (b:=64) h2.2.1 h3.1
 unfold aNl dt cr
 simp only
 have c1:=aU (a:=64) (b:=8192) (y:=p.2.1.2.1*p.2.2.2.2 - p.2.1.2.2*p.2.2.2.1) h1.1 (by omega)
 have c2:=aU (a:=64) (b:=8192) (y:=p.2.1.2.2*p.2.2.1 - p.2.1.1*p.2.2.2.2) h1.2.1 (by omega)
 have c3:=aU (a:=64) (b:=8192) (y:=p.2.1.1*p.2.2.2.1 - p.2.1.2.1*p.2.2.1) h1.2.2 (by omega)
 generalize p.1.1*(p.2.1.2.1*p.2.2.2.2 - p.2.1.2.2*p.2.2.2.1)=a at *
 generalize p.1.2.1*(p.2.1.2.2*p.2.2.1 - p.2.1.1*p.2.2.2.2)=b at *
 generalize p.1.2.2*(p.2.1.1*p.2.2.2.1 - p.2.1.2.1*p.2.2.1)=c at *
 rw [aD (n:=a) (by omega) (by omega),aD (n:=b) (by omega) (by omega),aD (n:=c) (by omega) (by omega),aD (n:=a+b) (by omega) (by omega),aD (n:=a+b+c) (by omega) (by omega)]
theorem aA9 (p:P3):bd 64 (lF 1 p)↔bd 64 p:=by unfold bd lF;simp only;omega
theorem aEx:Img (lF 1) yA (fun p=>dI (fP lF 1 p)) where
 t0:=rfl
 inj:=fun p q h=>by unfold lF at h;simp only [Prod.mk.injEq] at h;exact Prod.ext (by omega) (Prod.ext (by omega) (by omega))
 tb:=aA9
 ph:=.inr rfl
 pan:=fun m c=>by unfold iV;simp only [jS (lF 1) rfl,yA];rfl
 gv:=fun p h=>aP3 (aY4 (show bdP 64 (fP lF 1 p) from⟨(aA9 _).2 (dN h).1.1,(aA9 _).2 (dN h).1.2.1,(aA9 _).2 (dN h).1.2.2⟩) (aP2.nor p) h)
 vol:=fun p h=>by
   rw [aKl (p:=dI (fP lF 1 p)) ⟨(aA9 _).2 h.1,(aA9 _).2 h.2.2,(aA9 _).2 h.2.1⟩,aKl h]
   simp only [dI,fP,lF,dt,cr];grind
theorem aLt {m:ME} (hv:bN m=0):sG m=((m.1.map (lF 1),m.2.map yA),0):=by
 have e:m.1.map F50=m.1.map (lF 1):=List.map_congr_left fun p hp=>by
   have:=nC hv p hp
   unfold bd at this
   unfold F50 lF
   rw [aD (by omega) (by omega),Int.zero_sub]
 have hi:=aKk aEx hv
 unfold sG
 rw [show((bN (m.1,m.2):Int) != 0)=false from bne_eq_false_iff_eq.2 hv,cond_false,aA6]
 unfold jJ
 simp only [e]
 rw [hi];rfl
theorem aKm:aCu (fun p=>dI (fP lF 1 p)):=by
 intro p q d hd hp hq hp' hq'
 have h1:vp (fP lF 1 p)=0:=aP3 hp'
 have h2:vp (fP lF 1 q)=0:=aP3 hq'
 have a:=aGq aP2 p q d hd hp hq h1 h2
 have b:=aSl (fP lF 1 p) (fP lF 1 q) d hd h1 h2 hp' hq'
 exact⟨b.1.trans a.1,b.2.trans a.2⟩
def F71 (a0:Int×Int)(a1:Int×Int):Bool×Int :=
 (bif (((iT (a0,a1)):Int) == 0) then
  (bif (decide ((a0.1:Int)≥a1.1)) then
   ((decide ((a0.2:Int)≤a1.2)),(iT (a0,a1)))
  else
   (false,(iT (a0,a1))))
 else
  (false,(iT (a0,a1))))
theorem C71 (a0:Int×Int)(a1:Int×Int):Con Try.prog 71 [(.a [(iv a0.1),(iv a0.2)]),(.a [(iv a1.1),(iv a1.2)])] [] (.t [(.v (.bool (F71 a0 a1).1)),(iv (F71 a0 a1).2)]) []:=by
 refine aI Try.func71 (by kernel_rfl) fun cx hcx=>?_
 let t0:List (St Try.prog):=[.c [2] (aSy (a0,a1))]
 cases h0:(((iT (a0,a1)):Int) == 0) with
 | true =>
  have q0:=eq_of_beq h0
  let t1:List (St Try.prog):=(t0++[.d h0])
  cases h1:(decide ((a0.1:Int)≥a1.1)) with
  | true =>
   have q1:=eK h1
   have e:=Eq.refl (F71 a0 a1);conv at e=>rhs;simp only [F71,h0,h1,aK]
   rw [e]
   exact rt (t1++[.d h1]) [] [] hcx (by kernel_rfl)
  | false =>
   have q1:=fK h1
   have e:=Eq.refl (F71 a0 a1);conv at e=>rhs;simp only [F71,h0,h1,aK]
   rw [e]
   exact rt (t1++[.d h1]) [] [] hcx (by kernel_rfl)
 | false =>
  have q0:=ne_of_beq_false h0
  have e:=Eq.refl (F71 a0 a1);conv at e=>rhs;simp only [F71,h0,aK]
  rw [e]
  exact rt (t0++[.d h0]) [] [] hcx (by kernel_rfl)
def V93 (x:Bool×Zt):Value:=bif x.1 then(.iface 96 (.agg [(.int .i64 x.2.1)].toArray)) else(.iface 99 (.agg [(.int .i64 x.2.2.1),(.int .i64 x.2.2.2)].toArray))
def fZ (a0:Zm)(a1:List (Int)×Zt):Bool×Zt :=
 (bif (!(qE a1.2.2)) then
  (true,1,(0,0))
 else
  (bif (!(oL a1.2.1 0 2)) then
   (true,1,(0,0))
  else
   (bif (((aM (a0.1,a0.2) a1.1 a1.2.1).2:Int) != 0) then
    (true,(aM (a0.1,a0.2) a1.1 a1.2.1).2,(0,0))
   else
    (bif (!(F71 (aM (a0.1,a0.2) a1.1 a1.2.1).1 a1.2.2).1) then
     (true,12,(0,0))
    else
     (false,0,a1.2.2)))))
theorem C45 (a0:Zm)(a1:List (Int)×Zt)(l0_1:a0.1.length≤9223372036854775807)(l0_2:a0.2.length≤9223372036854775807)(l1_1:a1.1.length≤9223372036854775807):Con Try.prog 45 [(.a [(.s 0 0 a0.1.length 3),(.s 1 0 a0.2.length 3)]),(.a [(.s 2 0 a1.1.length 1),(iv a1.2.1),(iv a1.2.2.1),(iv a1.2.2.2)])] [(.live false true (flat cA a0.1)),(.live false true (flat cN a0.2)),(.live false true (flat c3 a1.1))] (.v (V93 (fZ a0 a1))) []:=by
 refine aI Try.func45 (by kernel_rfl) fun cx hcx=>?_
 let t0:List (St Try.prog):=[.c [] (C70 a1.2.2)]
 cases h0:(!(qE a1.2.2)) with
 | true =>
  have e:=Eq.refl (fZ a0 a1);conv at e=>rhs;simp only [fZ,h0,aK]
  rw [e]
  exact rt (t0++[.d h0]) [] [] hcx (by kernel_rfl)
 | false =>
  let t1:List (St Try.prog):=(t0++[.d h0,.c [] (C32 a1.2.1 0 2)])
  cases h1:(!(oL a1.2.1 0 2)) with
  | true =>
   have e:=Eq.refl (fZ a0 a1);conv at e=>rhs;simp only [fZ,h0,h1,aK]
   rw [e]
   exact rt (t1++[.d h1]) [] [] hcx (by kernel_rfl)
  | false =>
   let t2:List (St Try.prog):=(t1++[.d h1,.c [0,1,2] (aLg (a0.1,a0.2) a1.1 a1.2.1 (by(try simp only [Lt]);omega) (by(try simp only [Lt]);omega) (by omega))])
   cases h2:(((aM (a0.1,a0.2) a1.1 a1.2.1).2:Int) != 0) with
   | true =>
    have q2:=bne_iff_ne.1 h2
    have e:=Eq.refl (fZ a0 a1);conv at e=>rhs;simp only [fZ,h0,h1,h2,aK]
    rw [e]
    exact rt (t2++[.d h2]) [] [] hcx (by kernel_rfl)
   | false =>
    have q2:=bne_eq_false_iff_eq.1 h2
    let t3:List (St Try.prog):=(t2++[.d h2,.c [] (C71 (aM (a0.1,a0.2) a1.1 a1.2.1).1 a1.2.2)])
    cases h3:(!(F71 (aM (a0.1,a0.2) a1.1 a1.2.1).1 a1.2.2).1) with
    | true =>
     have e:=Eq.refl (fZ a0 a1);conv at e=>rhs;simp only [fZ,h0,h1,h2,h3,aK]
     rw [e]
     exact rt (t3++[.d h3]) [] [] hcx (by kernel_rfl)
    | false =>
     have e:=Eq.refl (fZ a0 a1);conv at e=>rhs;simp only [fZ,h0,h1,h2,h3,aK]
     rw [e]
     exact rt (t3++[.d h3]) [] [] hcx (by kernel_rfl)
theorem aBa (a0:Zm)(a1:List (Int)×Zt)(l0_1:a0.1.length≤9223372036854775807)(l0_2:a0.2.length≤9223372036854775807)(l1_1:a1.1.length≤9223372036854775807)(hw:(fZ a0 a1).1=true):Con Try.prog 45 [(.a [(.s 0 0 a0.1.length 3),(.s 1 0 a0.2.length 3)]),(.a [(.s 2 0 a1.1.length 1),(iv a1.2.1),(iv a1.2.2.1),(iv a1.2.2.2)])] [(.live false true (flat cA a0.1)),(.live false true (flat cN a0.2)),(.live false true (flat c3 a1.1))] (.v (.iface 96 (.agg [(.int .i64 (fZ a0 a1).2.1)].toArray))) []:=by
 have h:=C45 a0 a1 l0_1 l0_2 l1_1
 rw [show V93 (fZ a0 a1)=(.iface 96 (.agg [(.int .i64 (fZ a0 a1).2.1)].toArray)) from by simp only [V93,hw,cond_true]] at h
 exact h
theorem aBb (a0:Zm)(a1:List (Int)×Zt)(l0_1:a0.1.length≤9223372036854775807)(l0_2:a0.2.length≤9223372036854775807)(l1_1:a1.1.length≤9223372036854775807)(hw:(fZ a0 a1).1=false):Con Try.prog 45 [(.a [(.s 0 0 a0.1.length 3),(.s 1 0 a0.2.length 3)]),(.a [(.s 2 0 a1.1.length 1),(iv a1.2.1),(iv a1.2.2.1),(iv a1.2.2.2)])] [(.live false true (flat cA a0.1)),(.live false true (flat cN a0.2)),(.live false true (flat c3 a1.1))] (.v (.iface 99 (.agg [(.int .i64 (fZ a0 a1).2.2.1),(.int .i64 (fZ a0 a1).2.2.2)].toArray))) []:=by
 have h:=C45 a0 a1 l0_1 l0_2 l1_1
 rw [show V93 (fZ a0 a1)=(.iface 99 (.agg [(.int .i64 (fZ a0 a1).2.2.1),(.int .i64 (fZ a0 a1).2.2.2)].toArray)) from by simp only [V93,hw,cond_false]] at h
 exact h
def F15 (a0:Zm)(a1:List (Int)×Zt):Int :=
 (bif (((bN (a0.1,a0.2)):Int) != 0) then
  (bN (a0.1,a0.2))
 else
  (bif ((fZ (a0.1,a0.2) (a1.1,a1.2.1,a1.2.2)).1) then
   (fZ (a0.1,a0.2) (a1.1,a1.2.1,a1.2.2)).2.1
  else
   0))
theorem C15 (a0:Zm)(a1:List (Int)×Zt)(l0_1:a0.1.length≤9223372036854775807)(l0_2:a0.2.length≤9223372036854775807)(l1_1:a1.1.length≤9223372036854775807):Con Try.prog 15 [(.a [(.s 0 0 a0.1.length 3),(.s 1 0 a0.2.length 3)]),(.a [(.s 2 0 a1.1.length 1),(iv a1.2.1),(iv a1.2.2.1),(iv a1.2.2.2)])] [(.live false true (flat cA a0.1)),(.live false true (flat cN a0.2)),(.live false true (flat c3 a1.1))] (iv (F15 a0 a1)) []:=by
 refine aI Try.func15 (by kernel_rfl) fun cx hcx=>?_
 let t0:List (St Try.prog):=[.c [0,1] (C31 (a0.1,a0.2) (by(try simp only [Lt]);omega) (by(try simp only [Lt]);omega))]
 cases h0:(((bN (a0.1,a0.2)):Int) != 0) with
 | true =>
  have q0:=bne_iff_ne.1 h0
  have e:=Eq.refl (F15 a0 a1);conv at e=>rhs;simp only [F15,h0,aK]
  rw [e]
  exact rt (t0++[.d h0]) [] [] hcx (by kernel_rfl)
 | false =>
  have q0:=bne_eq_false_iff_eq.1 h0
  let t1:List (St Try.prog):=(t0++[.d h0])
  cases h1:((fZ (a0.1,a0.2) (a1.1,a1.2.1,a1.2.2)).1) with
  | true =>
   have e:=Eq.refl (F15 a0 a1);conv at e=>rhs;simp only [F15,h0,h1,aK]
   rw [e]
   exact rt (t1++[.c [0,1,2] (aBa (a0.1,a0.2) (a1.1,a1.2.1,a1.2.2) (by(try simp only [Lt]);omega) (by(try simp only [Lt]);omega) (by(try simp only [Lt]);omega) h1)]) [] [] hcx (by kernel_rfl)
  | false =>
   have e:=Eq.refl (F15 a0 a1);conv at e=>rhs;simp only [F15,h0,h1,aK]
   rw [e]
   exact rt (t1++[.c [0,1,2] (aBb (a0.1,a0.2) (a1.1,a1.2.1,a1.2.2) (by(try simp only [Lt]);omega) (by(try simp only [Lt]);omega) (by(try simp only [Lt]);omega) h1)]) [] [] hcx (by kernel_rfl)
def F20 (a0:Zm)(a1:List (Int)×Zt)(a2:List (Int)×Zt):Int×Int :=
 (bif (((bN (a0.1,a0.2)):Int) != 0) then
  (0,(bN (a0.1,a0.2)))
 else
  (bif ((fZ (a0.1,a0.2) (a1.1,a1.2.1,a1.2.2)).1) then
   (bif ((fZ (a0.1,a0.2) (a2.1,a2.2.1,a2.2.2)).1) then
    (3,0)
   else
    (2,0))
  else
   (bif ((fZ (a0.1,a0.2) (a2.1,a2.2.1,a2.2.2)).1) then
    (1,0)
   else
    (0,0))))
theorem C20 (a0:Zm)(a1:List (Int)×Zt)(a2:List (Int)×Zt)(l0_1:a0.1.length≤9223372036854775807)(l0_2:a0.2.length≤9223372036854775807)(l1_1:a1.1.length≤9223372036854775807)(l2_1:a2.1.length≤9223372036854775807):Con Try.prog 20 [(.a [(.s 0 0 a0.1.length 3),(.s 1 0 a0.2.length 3)]),(.a [(.s 2 0 a1.1.length 1),(iv a1.2.1),(iv a1.2.2.1),(iv a1.2.2.2)]),(.a [(.s 3 0 a2.1.length 1),(iv a2.2.1),(iv a2.2.2.1),(iv a2.2.2.2)])] [(.live false true (flat cA a0.1)),(.live false true (flat cN a0.2)),(.live false true (flat c3 a1.1)),(.live false true (flat c3 a2.1))] (.t (k2 (F20 a0 a1 a2))) []:=by
 refine aI Try.func20 (by kernel_rfl) fun cx hcx=>?_
 let t0:List (St Try.prog):=[.c [0,1] (C31 (a0.1,a0.2) (by(try simp only [Lt]);omega) (by(try simp only [Lt]);omega))]
 cases h0:(((bN (a0.1,a0.2)):Int) != 0) with
 | true =>
  have q0:=bne_iff_ne.1 h0
  have e:=Eq.refl (F20 a0 a1 a2);conv at e=>rhs;simp only [F20,h0,aK]
  rw [e]
  exact rt (t0++[.d h0]) [] [] hcx (by kernel_rfl)
 | false =>
  have q0:=bne_eq_false_iff_eq.1 h0
  let t1:List (St Try.prog):=(t0++[.d h0])
  cases h1:((fZ (a0.1,a0.2) (a1.1,a1.2.1,a1.2.2)).1) with
  | true =>
   let t2:List (St Try.prog):=(t1++[.c [0,1,2] (aBa (a0.1,a0.2) (a1.1,a1.2.1,a1.2.2) (by(try simp only [Lt]);omega) (by(try simp only [Lt]);omega) (by(try simp only [Lt]);omega) h1)])
   cases h2:((fZ (a0.1,a0.2) (a2.1,a2.2.1,a2.2.2)).1) with
   | true =>
    have e:=Eq.refl (F20 a0 a1 a2);conv at e=>rhs;simp only [F20,h0,h1,h2,aK]
    rw [e]
    exact rt (t2++[.c [0,1,3] (aBa (a0.1,a0.2) (a2.1,a2.2.1,a2.2.2) (by(try simp only [Lt]);omega) (by(try simp only [Lt]);omega) (by(try simp only [Lt]);omega) h2)]) [] [] hcx (by kernel_rfl)
   | false =>
    have e:=Eq.refl (F20 a0 a1 a2);conv at e=>rhs;simp only [F20,h0,h1,h2,aK]
    rw [e]
    exact rt (t2++[.c [0,1,3] (aBb (a0.1,a0.2) (a2.1,a2.2.1,a2.2.2) (by(try simp only [Lt]);omega) (by(try simp only [Lt]);omega) (by(try simp only [Lt]);omega) h2)]) [] [] hcx (by kernel_rfl)
  | false =>
   let t2:List (St Try.prog):=(t1++[.c [0,1,2] (aBb (a0.1,a0.2) (a1.1,a1.2.1,a1.2.2) (by(try simp only [Lt]);omega) (by(try simp only [Lt]);omega) (by(try simp only [Lt]);omega) h1)])
   cases h2:((fZ (a0.1,a0.2) (a2.1,a2.2.1,a2.2.2)).1) with
   | true =>
    have e:=Eq.refl (F20 a0 a1 a2);conv at e=>rhs;simp only [F20,h0,h1,h2,aK]
    rw [e]
    exact rt (t2++[.c [0,1,3] (aBa (a0.1,a0.2) (a2.1,a2.2.1,a2.2.2) (by(try simp only [Lt]);omega) (by(try simp only [Lt]);omega) (by(try simp only [Lt]);omega) h2)]) [] [] hcx (by kernel_rfl)
   | false =>
    have e:=Eq.refl (F20 a0 a1 a2);conv at e=>rhs;simp only [F20,h0,h1,h2,aK]
    rw [e]
    exact rt (t2++[.c [0,1,3] (aBb (a0.1,a0.2) (a2.1,a2.2.1,a2.2.2) (by(try simp only [Lt]);omega) (by(try simp only [Lt]);omega) (by(try simp only [Lt]);omega) h2)]) [] [] hcx (by kernel_rfl)
theorem aIn {m:ME} {q:List Int} {d:Int} (h:(aM m q d).2=0):q.length≠0∧q.length≤1048576:=by
 have hC:=(eD h).1
 have hn:=hC.n;have hl:=hC.len
 omega
def aA (a0:Zm)(a1:List (Int))(a2:Int):(List (Int)×Zt)×Int :=
 (bif (((aM (a0.1,a0.2) a1 a2).2:Int) != 0) then
  ((([]:List (Int)),0,(0,0)),(aM (a0.1,a0.2) a1 a2).2)
 else
  (((aGm a1),a2,(aM (a0.1,a0.2) a1 a2).1),0))
theorem aTk (a0:Zm)(a1:List (Int))(a2:Int)(l0_1:a0.1.length≤9223372036854775807)(l0_2:a0.2.length≤9223372036854775807)(l1:a1.length≤9223372036854775807):Con Try.prog 18 [(.a [(.s 0 0 a0.1.length 3),(.s 1 0 a0.2.length 3)]),(.s 2 0 a1.length 1),(iv a2)] [(.live false true (flat cA a0.1)),(.live false true (flat cN a0.2)),(.live false true (flat c3 a1))] (.t [(.a [(.s 3 0 (aA a0 a1 a2).1.1.length 1),(iv (aA a0 a1 a2).1.2.1),(iv (aA a0 a1 a2).1.2.2.1),(iv (aA a0 a1 a2).1.2.2.2)]),(iv (aA a0 a1 a2).2)]) [(.live true true (flat c3 (aA a0 a1 a2).1.1))]:=by
 refine aI Try.func18 (by kernel_rfl) fun cx hcx=>?_
 try have hq:=aIn (bne_eq_false_iff_eq.1 h0)
 let t0:List (St Try.prog):=[.c [0,1,2] (aLg (a0.1,a0.2) a1 a2 (by(try simp only [Lt]);omega) (by(try simp only [Lt]);omega) (by omega))]
 cases h0:(((aM (a0.1,a0.2) a1 a2).2:Int) != 0) with
 | true =>
  have q0:=bne_iff_ne.1 h0
  try have hq:=aIn (bne_eq_false_iff_eq.1 h0)
  have e:=Eq.refl (aA a0 a1 a2);conv at e=>rhs;simp only [aA,h0,aK]
  rw [e]
  exact rt (t0++[.d h0]) [.cell 4 0 1] [6] hcx (by kernel_rfl)
 | false =>
  have q0:=bne_eq_false_iff_eq.1 h0
  try have hq:=aIn (bne_eq_false_iff_eq.1 h0)
  have e:=Eq.refl (aA a0 a1 a2);conv at e=>rhs;simp only [aA,h0,aK]
  rw [e]
  exact rt (t0++[.d h0,.c [2] (aYu a1 (by omega) hq.1 hq.2)]) [] [6] hcx (by kernel_rfl)
def F44 (a0:Int):Bool :=
 (lE a0 1 64)
theorem C44 (a0:Int):Con Try.prog 44 [(iv a0)] [] (.v (.bool (F44 a0))) []:=by
 refine aI Try.func44 (by kernel_rfl) fun cx hcx=>?_
 have e:=Eq.refl (F44 a0);conv at e=>rhs;simp only [F44]
 rw [e]
 exact rt [.c [] (C51 a0 1 64)] [] [] hcx (by kernel_rfl)
def wD (a0:Int):(Zm)×Int :=
 (bif (!(F44 a0)) then
  ((([]:List Zt),([]:List Zt)),1)
 else
  (bif (((bN ((([(a0,0,0),((W (0 - a0)),0,0),(0,a0,0),(0,(W (0 - a0)),0),(0,0,a0),(0,0,(W (0 - a0)))]:List Zt),([(0,2,4),(2,1,4),(1,3,4),(3,0,4),(2,0,5),(1,2,5),(3,1,5),(0,3,5)]:List Zt)).1,(([(a0,0,0),((W (0 - a0)),0,0),(0,a0,0),(0,(W (0 - a0)),0),(0,0,a0),(0,0,(W (0 - a0)))]:List Zt),([(0,2,4),(2,1,4),(1,3,4),(3,0,4),(2,0,5),(1,2,5),(3,1,5),(0,3,5)]:List Zt)).2)):Int) != 0) then
   ((([]:List Zt),([]:List Zt)),(bN ((([(a0,0,0),((W (0 - a0)),0,0),(0,a0,0),(0,(W (0 - a0)),0),(0,0,a0),(0,0,(W (0 - a0)))]:List Zt),([(0,2,4),(2,1,4),(1,3,4),(3,0,4),(2,0,5),(1,2,5),(3,1,5),(0,3,5)]:List Zt)).1,(([(a0,0,0),((W (0 - a0)),0,0),(0,a0,0),(0,(W (0 - a0)),0),(0,0,a0),(0,0,(W (0 - a0)))]:List Zt),([(0,2,4),(2,1,4),(1,3,4),(3,0,4),(2,0,5),(1,2,5),(3,1,5),(0,3,5)]:List Zt)).2)))
  else
   ((([(a0,0,0),((W (0 - a0)),0,0),(0,a0,0),(0,(W (0 - a0)),0),(0,0,a0),(0,0,(W (0 - a0)))]:List Zt),([(0,2,4),(2,1,4),(1,3,4),(3,0,4),(2,0,5),(1,2,5),(3,1,5),(0,3,5)]:List Zt)),0)))
theorem C14 (a0:Int):Con Try.prog 14 [(iv a0)] [] (.t [(.a [(.s 0 0 (wD a0).1.1.length 3),(.s 1 0 (wD a0).1.2.length 3)]),(iv (wD a0).2)]) [(.live true true (flat cA (wD a0).1.1)),(.live true true (flat cN (wD a0).1.2))]:=by
 refine aI Try.func14 (by kernel_rfl) fun cx hcx=>?_
 let t0:List (St Try.prog):=[.c [] (C44 a0)]
 cases h0:(!(F44 a0)) with
 | true =>
  have e:=Eq.refl (wD a0);conv at e=>rhs;simp only [wD,h0,aK]
  rw [e]
  exact rt (t0++[.d h0]) [.cell 0 0 3,.cell 0 1 3] [1,2] hcx (by kernel_rfl)
 | false =>
  let t1:List (St Try.prog):=(t0++[.d h0])
  cases h1:(((bN ((([(a0,0,0),((W (0 - a0)),0,0),(0,a0,0),(0,(W (0 - a0)),0),(0,0,a0),(0,0,(W (0 - a0)))]:List Zt),([(0,2,4),(2,1,4),(1,3,4),(3,0,4),(2,0,5),(1,2,5),(3,1,5),(0,3,5)]:List Zt)).1,(([(a0,0,0),((W (0 - a0)),0,0),(0,a0,0),(0,(W (0 - a0)),0),(0,0,a0),(0,0,(W (0 - a0)))]:List Zt),([(0,2,4),(2,1,4),(1,3,4),(3,0,4),(2,0,5),(1,2,5),(3,1,5),(0,3,5)]:List Zt)).2)):Int) != 0) with
  | true =>
   have q1:=bne_iff_ne.1 h1
   have e:=Eq.refl (wD a0);conv at e=>rhs;simp only [wD,h0,h1,aK]
   rw [e]
   exact rt (t1++[.c [1,2] (Con.flags (bs':=[(.live false false [(iv a0),(iv 0),(iv 0),(iv (W (0 - a0))),(iv 0),(iv 0),(iv 0),(iv a0),(iv 0),(iv 0),(iv (W (0 - a0))),(iv 0),(iv 0),(iv 0),(iv a0),(iv 0),(iv 0),(iv (W (0 - a0)))]),(.live false false [(iv 0),(iv 2),(iv 4),(iv 2),(iv 1),(iv 4),(iv 1),(iv 3),(iv 4),(iv 3),(iv 0),(iv 4),(iv 2),(iv 0),(iv 5),(iv 1),(iv 2),(iv 5),(iv 3),(iv 1),(iv 5),(iv 0),(iv 3),(iv 5)])]) (xZ (([(a0,0,0),((W (0 - a0)),0,0),(0,a0,0),(0,(W (0 - a0)),0),(0,0,a0),(0,0,(W (0 - a0)))]:List Zt),([(0,2,4),(2,1,4),(1,3,4),(3,0,4),(2,0,5),(1,2,5),(3,1,5),(0,3,5)]:List Zt)) (by(try simp only [Lt]);omega) (by(try simp only [Lt]);omega) h1) rfl ⟨cT (fun _=>rfl),cT (fun _=>rfl),trivial⟩)]) [.cell 0 0 3,.cell 0 1 3] [3,4] hcx (by kernel_rfl)
  | false =>
   have q1:=bne_eq_false_iff_eq.1 h1
   have e:=Eq.refl (wD a0);conv at e=>rhs;simp only [wD,h0,h1,aK]
   rw [e]
   exact rt (t1++[.c [1,2] (Con.flags (bs':=[(.live false false [(iv a0),(iv 0),(iv 0),(iv (W (0 - a0))),(iv 0),(iv 0),(iv 0),(iv a0),(iv 0),(iv 0),(iv (W (0 - a0))),(iv 0),(iv 0),(iv 0),(iv a0),(iv 0),(iv 0),(iv (W (0 - a0)))]),(.live false false [(iv 0),(iv 2),(iv 4),(iv 2),(iv 1),(iv 4),(iv 1),(iv 3),(iv 4),(iv 3),(iv 0),(iv 4),(iv 2),(iv 0),(iv 5),(iv 1),(iv 2),(iv 5),(iv 3),(iv 1),(iv 5),(iv 0),(iv 3),(iv 5)])]) (uA (([(a0,0,0),((W (0 - a0)),0,0),(0,a0,0),(0,(W (0 - a0)),0),(0,0,a0),(0,0,(W (0 - a0)))]:List Zt),([(0,2,4),(2,1,4),(1,3,4),(3,0,4),(2,0,5),(1,2,5),(3,1,5),(0,3,5)]:List Zt)) (by(try simp only [Lt]);omega) (by(try simp only [Lt]);omega) h1) rfl ⟨cT (fun _=>rfl),cT (fun _=>rfl),trivial⟩)]) [.sym 1 true,.sym 2 true] [1,2] hcx (by kernel_rfl)
def gD (a0:Zm)(a1:(List (Int)×Zt)×(List (Int)×Zt)):(Int×Int)×Int :=
 (bif (((bN (a0.1,a0.2)):Int) != 0) then
  ((0,0),(bN (a0.1,a0.2)))
 else
  (bif ((fZ (a0.1,a0.2) (a1.1.1,a1.1.2.1,a1.1.2.2)).1) then
   (bif ((fZ (a0.1,a0.2) (a1.2.1,a1.2.2.1,a1.2.2.2)).1) then
    ((0,0),12)
   else
    ((uW ((-1099511627776),1099511627776) (fZ (a0.1,a0.2) (a1.2.1,a1.2.2.1,a1.2.2.2)).2.2).1,0))
  else
   (bif ((fZ (a0.1,a0.2) (a1.2.1,a1.2.2.1,a1.2.2.2)).1) then
    ((uW ((-1099511627776),1099511627776) (fZ (a0.1,a0.2) (a1.1.1,a1.1.2.1,a1.1.2.2)).2.2).1,0)
   else
    ((uW (uW ((-1099511627776),1099511627776) (fZ (a0.1,a0.2) (a1.1.1,a1.1.2.1,a1.1.2.2)).2.2).1 (fZ (a0.1,a0.2) (a1.2.1,a1.2.2.1,a1.2.2.2)).2.2).1,0))))
theorem aY5 (a0:Zm)(a1:(List (Int)×Zt)×(List (Int)×Zt))(l0_1:a0.1.length≤9223372036854775807)(l0_2:a0.2.length≤9223372036854775807)(l1_1_1:a1.1.1.length≤9223372036854775807)(l1_2_1:a1.2.1.length≤9223372036854775807):Con Try.prog 22 [(.a [(.s 0 0 a0.1.length 3),(.s 1 0 a0.2.length 3)]),(.s 2 0 2 4)] [(.live false true (flat cA a0.1)),(.live false true (flat cN a0.2)),(.live false false [(.s 3 0 a1.1.1.length 1),(iv a1.1.2.1),(iv a1.1.2.2.1),(iv a1.1.2.2.2),(.s 4 0 a1.2.1.length 1),(iv a1.2.2.1),(iv a1.2.2.2.1),(iv a1.2.2.2.2)]),(.live false true (flat c3 a1.1.1)),(.live false true (flat c3 a1.2.1))] (.t [(.a (k2 (gD a0 a1).1)),(iv (gD a0 a1).2)]) []:=by
 refine aI Try.func22 (by kernel_rfl) fun cx hcx=>?_
 let t0:List (St Try.prog):=[.c [0,1] (C31 (a0.1,a0.2) (by(try simp only [Lt]);omega) (by(try simp only [Lt]);omega))]
 cases h0:(((bN (a0.1,a0.2)):Int) != 0) with
 | true =>
  have q0:=bne_iff_ne.1 h0
  have e:=Eq.refl (gD a0 a1);conv at e=>rhs;simp only [gD,h0,aK]
  rw [e]
  exact rt (t0++[.d h0]) [] [] hcx (by kernel_rfl)
 | false =>
  have q0:=bne_eq_false_iff_eq.1 h0
  let t1:List (St Try.prog):=(t0++[.d h0,.F,.u 200,.T,.i 0 2 (by decide)])
  cases h1:((fZ (a0.1,a0.2) (a1.1.1,a1.1.2.1,a1.1.2.2)).1) with
  | true =>
   let t2:List (St Try.prog):=(t1++[.c [0,1,3] (aBa (a0.1,a0.2) (a1.1.1,a1.1.2.1,a1.1.2.2) (by(try simp only [Lt]);omega) (by(try simp only [Lt]);omega) (by(try simp only [Lt]);omega) h1),.u 0,.T,.i 1 2 (by decide)])
   cases h2:((fZ (a0.1,a0.2) (a1.2.1,a1.2.2.1,a1.2.2.2)).1) with
   | true =>
    have e:=Eq.refl (gD a0 a1);conv at e=>rhs;simp only [gD,h0,h1,h2,aK]
    rw [e]
    exact rt (t2++[.c [0,1,4] (aBa (a0.1,a0.2) (a1.2.1,a1.2.2.1,a1.2.2.2) (by(try simp only [Lt]);omega) (by(try simp only [Lt]);omega) (by(try simp only [Lt]);omega) h2),.u 0,.F]) [] [] hcx (by kernel_rfl)
   | false =>
    have e:=Eq.refl (gD a0 a1);conv at e=>rhs;simp only [gD,h0,h1,h2,aK]
    rw [e]
    exact rt (t2++[.c [0,1,4] (aBb (a0.1,a0.2) (a1.2.1,a1.2.2.1,a1.2.2.2) (by(try simp only [Lt]);omega) (by(try simp only [Lt]);omega) (by(try simp only [Lt]);omega) h2),.c [] (C21 ((-1099511627776),1099511627776) (fZ (a0.1,a0.2) (a1.2.1,a1.2.2.1,a1.2.2.2)).2.2),.u 0,.F]) [] [] hcx (by kernel_rfl)
  | false =>
   let t2:List (St Try.prog):=(t1++[.c [0,1,3] (aBb (a0.1,a0.2) (a1.1.1,a1.1.2.1,a1.1.2.2) (by(try simp only [Lt]);omega) (by(try simp only [Lt]);omega) (by(try simp only [Lt]);omega) h1),.c [] (C21 ((-1099511627776),1099511627776) (fZ (a0.1,a0.2) (a1.1.1,a1.1.2.1,a1.1.2.2)).2.2),.u 0,.T,.i 1 2 (by decide)])
   cases h2:((fZ (a0.1,a0.2) (a1.2.1,a1.2.2.1,a1.2.2.2)).1) with
   | true =>
    have e:=Eq.refl (gD a0 a1);conv at e=>rhs;simp only [gD,h0,h1,h2,aK]
    rw [e]
    exact rt (t2++[.c [0,1,4] (aBa (a0.1,a0.2) (a1.2.1,a1.2.2.1,a1.2.2.2) (by(try simp only [Lt]);omega) (by(try simp only [Lt]);omega) (by(try simp only [Lt]);omega) h2),.u 0,.F]) [] [] hcx (by kernel_rfl)
   | false =>
    have e:=Eq.refl (gD a0 a1);conv at e=>rhs;simp only [gD,h0,h1,h2,aK]
    rw [e]
    exact rt (t2++[.c [0,1,4] (aBb (a0.1,a0.2) (a1.2.1,a1.2.2.1,a1.2.2.2) (by(try simp only [Lt]);omega) (by(try simp only [Lt]);omega) (by(try simp only [Lt]);omega) h2),.c [] (C21 (uW ((-1099511627776),1099511627776) (fZ (a0.1,a0.2) (a1.1.1,a1.1.2.1,a1.1.2.2)).2.2).1 (fZ (a0.1,a0.2) (a1.2.1,a1.2.2.1,a1.2.2.2)).2.2),.u 0,.F]) [] [] hcx (by kernel_rfl)
theorem fW (m:ME)(q:List Int)(d:Int):(aA m q d).1.1.length≤q.length:=by
 unfold aA
 cases (((aM (m.1,m.2) q d).2:Int) != 0) with
 | true=>exact Nat.zero_le _
 | false=>exact Nat.le_refl _
theorem aP6:wD 1=(([(1,0,0),(-1,0,0),(0,1,0),(0,-1,0),(0,0,1),(0,0,-1)],[(0,2,4),(2,1,4),(1,3,4),(3,0,4),(2,0,5),(1,2,5),(3,1,5),(0,3,5)]),0):=by kernel_rfl
theorem qC:(wD 1).1.1.length≤9223372036854775807∧(wD 1).1.2.length≤9223372036854775807:=by
 rw [aP6]
 exact⟨Nat.le_of_ble_eq_true rfl,Nat.le_of_ble_eq_true rfl⟩
def yB (a0:Int×Int)(a1:Int)(a2:Int×Int)(a3:Int):Bool :=
 (bif ((a1:Int) != 0) then
  true
 else
  (bif ((a3:Int) != 0) then
   true
  else
   (bif (uW a0 a2).2.1 then
    (((uW a0 a2).2.2:Int) == 0)
   else
    false)))
theorem C19 (a0:Int×Int)(a1:Int)(a2:Int×Int)(a3:Int):Con Try.prog 19 [(.a [(iv a0.1),(iv a0.2)]),(iv a1),(.a [(iv a2.1),(iv a2.2)]),(iv a3)] [] (.v (.bool (yB a0 a1 a2 a3))) []:=by
 refine aI Try.func19 (by kernel_rfl) fun cx hcx=>?_
 cases h0:((a1:Int) != 0) with
 | true =>
  have q0:=bne_iff_ne.1 h0
  have e:=Eq.refl (yB a0 a1 a2 a3);conv at e=>rhs;simp only [yB,h0,aK]
  rw [e]
  exact rt [.d h0] [] [] hcx (by kernel_rfl)
 | false =>
  have q0:=bne_eq_false_iff_eq.1 h0
  let t1:List (St Try.prog):=[.d h0]
  cases h1:((a3:Int) != 0) with
  | true =>
   have q1:=bne_iff_ne.1 h1
   have e:=Eq.refl (yB a0 a1 a2 a3);conv at e=>rhs;simp only [yB,h0,h1,aK]
   rw [e]
   exact rt (t1++[.d h1]) [] [] hcx (by kernel_rfl)
  | false =>
   have q1:=bne_eq_false_iff_eq.1 h1
   let t2:List (St Try.prog):=(t1++[.d h1,.c [] (C21 a0 a2)])
   cases h2:(uW a0 a2).2.1 with
   | true =>
    have e:=Eq.refl (yB a0 a1 a2 a3);conv at e=>rhs;simp only [yB,h0,h1,h2,aK]
    rw [e]
    exact rt (t2++[.d h2]) [] [] hcx (by kernel_rfl)
   | false =>
    have e:=Eq.refl (yB a0 a1 a2 a3);conv at e=>rhs;simp only [yB,h0,h1,h2,aK]
    rw [e]
    exact rt (t2++[.d h2]) [] [] hcx (by kernel_rfl)
noncomputable def aIo:Code:=(bZ [1,1,1,1,1,1,1,1,1,1,1,0,1,1,0,0] [] (aG Try.f5)).1
noncomputable def aIp:List K:=(bZ [1,1,1,1,1,1,1,1,1,1,1,0,1,1,0,0] [] (aG Try.f5)).2
def aEy (a0:Zm)(a1:List (Int)×List (Int)×Int×Int×Zt×Int):LS:=⟨lZ 277 [],[(.live false true (flat cA a0.1)),(.live false true (flat cN a0.2)),(.live false true (flat c3 a1.1)),(.live false true (flat c3 a1.2.1))]⟩
def wE (a0:Zm)(a1:List (Int)×List (Int)×Int×Int×Zt×Int):Unit→Bool
 | () =>
  false
noncomputable def aEz:Code:=(bZ [1,1,1,1,1,1,1,1,1,1,1,1,1,0,1,1,0,0] [] (aG Try.f5)).1
noncomputable def aE0:List K:=(bZ [1,1,1,1,1,1,1,1,1,1,1,1,1,0,1,1,0,0] [] (aG Try.f5)).2
def yC (a0:Zm)(a1:List (Int)×List (Int)×Int×Int×Zt×Int):LS:=⟨lZ 277 [],[(.live false true (flat cA a0.1)),(.live false true (flat cN a0.2)),(.live false true (flat c3 a1.1)),(.live false true (flat c3 a1.2.1))]⟩
def sH (a0:Zm)(a1:List (Int)×List (Int)×Int×Int×Zt×Int):Unit→Bool
 | () =>
  false
noncomputable def aIq:Code:=(bZ [1,1,1,1,1,1,1,1,1,1,1,1,1,1,1,1,0,0] [] (aG Try.f5)).1
noncomputable def aIr:List K:=(bZ [1,1,1,1,1,1,1,1,1,1,1,1,1,1,1,1,0,0] [] (aG Try.f5)).2
def aE1 (a0:Zm)(a1:List (Int)×List (Int)×Int×Int×Zt×Int):LS:=⟨lZ 277 [(2,(.p 4 0)),(3,(.p 5 0)),(6,(iv a1.2.2.2.2.2)),(10,(iv (aA (a0.1,a0.2) a1.1 a1.2.2.1).2)),(13,(.p 6 0))],[(.live false true (flat cA a0.1)),(.live false true (flat cN a0.2)),(.live false true (flat c3 a1.1)),(.live false true (flat c3 a1.2.1)),(.live true false [(.s 0 0 a0.1.length 3),(.s 1 0 a0.2.length 3)]),(.live true false [(.s 2 0 a1.1.length 1),(.s 3 0 a1.2.1.length 1),(iv a1.2.2.1),(iv a1.2.2.2.1),(iv a1.2.2.2.2.1.1),(iv a1.2.2.2.2.1.2.1),(iv a1.2.2.2.2.1.2.2),(iv a1.2.2.2.2.2)]),(.live true false [(.s 7 0 (aA (a0.1,a0.2) a1.1 a1.2.2.1).1.1.length 1),(iv (aA (a0.1,a0.2) a1.1 a1.2.2.1).1.2.1),(iv (aA (a0.1,a0.2) a1.1 a1.2.2.1).1.2.2.1),(iv (aA (a0.1,a0.2) a1.1 a1.2.2.1).1.2.2.2)]),(.live true true (flat c3 (aA (a0.1,a0.2) a1.1 a1.2.2.1).1.1))]⟩
def eI (a0:Zm)(a1:List (Int)×List (Int)×Int×Int×Zt×Int):Unit→Bool
 | () =>
  (bif (((sG (a0.1,a0.2)).2:Int) == 0) then
   (bif (!(yB (aA (a0.1,a0.2) a1.1 a1.2.2.1).1.2.2 (aA (a0.1,a0.2) a1.1 a1.2.2.1).2 (aM ((sG (a0.1,a0.2)).1.1,(sG (a0.1,a0.2)).1.2) a1.2.1 a1.2.2.1).1 (aM ((sG (a0.1,a0.2)).1.1,(sG (a0.1,a0.2)).1.2) a1.2.1 a1.2.2.1).2)) then
    false
   else
    (bif (((gO (a0.1,a0.2) a1.2.2.2.2.2).2:Int) == 0) then
     (bif (!(yB (iU (aA (a0.1,a0.2) a1.1 a1.2.2.1).1.2.2 a1.2.2.2.2.2).1 (iU (aA (a0.1,a0.2) a1.1 a1.2.2.1).1.2.2 a1.2.2.2.2.2).2 (aM ((gO (a0.1,a0.2) a1.2.2.2.2.2).1.1,(gO (a0.1,a0.2) a1.2.2.2.2.2).1.2) a1.2.1 a1.2.2.2.1).1 (aM ((gO (a0.1,a0.2) a1.2.2.2.2.2).1.1,(gO (a0.1,a0.2) a1.2.2.2.2.2).1.2) a1.2.1 a1.2.2.2.1).2)) then
      false
     else
      true)
    else
     true))
  else
   (bif (((gO (a0.1,a0.2) a1.2.2.2.2.2).2:Int) == 0) then
    (bif (!(yB (iU (aA (a0.1,a0.2) a1.1 a1.2.2.1).1.2.2 a1.2.2.2.2.2).1 (iU (aA (a0.1,a0.2) a1.1 a1.2.2.1).1.2.2 a1.2.2.2.2.2).2 (aM ((gO (a0.1,a0.2) a1.2.2.2.2.2).1.1,(gO (a0.1,a0.2) a1.2.2.2.2.2).1.2) a1.2.1 a1.2.2.2.1).1 (aM ((gO (a0.1,a0.2) a1.2.2.2.2.2).1.1,(gO (a0.1,a0.2) a1.2.2.2.2.2).1.2) a1.2.1 a1.2.2.2.1).2)) then
     false
    else
     true)
   else
    true))
noncomputable def aIs:Code:=(bZ [1,1,1,1,1,1,1,1,1,1,1,1,1,1,1,0,0] [] (aG Try.f5)).1
noncomputable def aIt:List K:=(bZ [1,1,1,1,1,1,1,1,1,1,1,1,1,1,1,0,0] [] (aG Try.f5)).2
def aE2 (a0:Zm)(a1:List (Int)×List (Int)×Int×Int×Zt×Int):LS:=⟨lZ 277 [(2,(.p 4 0)),(3,(.p 5 0)),(5,(.p 6 0)),(6,(iv a1.2.2.2.2.2)),(10,(iv (aA (a0.1,a0.2) a1.1 a1.2.2.1).2)),(13,(.p 7 0))],[(.live false true (flat cA a0.1)),(.live false true (flat cN a0.2)),(.live false true (flat c3 a1.1)),(.live false true (flat c3 a1.2.1)),(.live true false [(.s 0 0 a0.1.length 3),(.s 1 0 a0.2.length 3)]),(.live true false [(.s 2 0 a1.1.length 1),(.s 3 0 a1.2.1.length 1),(iv a1.2.2.1),(iv a1.2.2.2.1),(iv a1.2.2.2.2.1.1),(iv a1.2.2.2.2.1.2.1),(iv a1.2.2.2.2.1.2.2),(iv a1.2.2.2.2.2)]),(.live true false (k3 a1.2.2.2.2.1)),(.live true false [(.s 8 0 (aA (a0.1,a0.2) a1.1 a1.2.2.1).1.1.length 1),(iv (aA (a0.1,a0.2) a1.1 a1.2.2.1).1.2.1),(iv (aA (a0.1,a0.2) a1.1 a1.2.2.1).1.2.2.1),(iv (aA (a0.1,a0.2) a1.1 a1.2.2.1).1.2.2.2)]),(.live true true (flat c3 (aA (a0.1,a0.2) a1.1 a1.2.2.1).1.1))]⟩
def kJ (a0:Zm)(a1:List (Int)×List (Int)×Int×Int×Zt×Int):Unit→Bool
 | () =>
  (bif (((lC (a0.1,a0.2) a1.2.2.2.2.1).2:Int) == 0) then
   (bif (!(yB (aA (a0.1,a0.2) a1.1 a1.2.2.1).1.2.2 (aA (a0.1,a0.2) a1.1 a1.2.2.1).2 (aM ((lC (a0.1,a0.2) a1.2.2.2.2.1).1.1,(lC (a0.1,a0.2) a1.2.2.2.2.1).1.2) a1.1 a1.2.2.1).1 (aM ((lC (a0.1,a0.2) a1.2.2.2.2.1).1.1,(lC (a0.1,a0.2) a1.2.2.2.2.1).1.2) a1.1 a1.2.2.1).2)) then
    false
   else
    (eI a0 a1 ()))
  else
   (eI a0 a1 ()))
noncomputable def aTl:Code:=(bZ [1,1,0,0] [] (aG Try.f5)).1
noncomputable def aTm:List K:=(bZ [1,1,0,0] [] (aG Try.f5)).2
def aP7 (a0:Zm)(a1:List (Int)×List (Int)×Int×Int×Zt×Int):LS:=⟨lZ 277 [(2,(.p 4 0)),(3,(.p 5 0)),(5,(.p 6 0)),(6,(iv a1.2.2.2.2.2))],[(.live false true (flat cA a0.1)),(.live false true (flat cN a0.2)),(.live false true (flat c3 a1.1)),(.live false true (flat c3 a1.2.1)),(.live true false [(.s 0 0 a0.1.length 3),(.s 1 0 a0.2.length 3)]),(.live true false [(.s 2 0 a1.1.length 1),(.s 3 0 a1.2.1.length 1),(iv a1.2.2.1),(iv a1.2.2.2.1),(iv a1.2.2.2.2.1.1),(iv a1.2.2.2.2.1.2.1),(iv a1.2.2.2.2.1.2.2),(iv a1.2.2.2.2.2)]),(.live true false (k3 a1.2.2.2.2.1))]⟩
def bM (a0:Zm)(a1:List (Int)×List (Int)×Int×Int×Zt×Int):Unit→Bool
 | () =>
  (bif (((wD 1).2:Int) != 0) then
   false
  else
   (bif (((F15 ((wD 1).1.1,(wD 1).1.2) (([1,1,1,1,1,1,1,1]:List (Int)),0,(0,1099511627776))):Int) != 0) then
    false
   else
    (bif (F16 (a0.1,a0.2)) then
     true
    else
     (bif (decide (((a1.1.length:Int):Int) > 200)) then
      true
     else
      (bif (decide (((a1.2.1.length:Int):Int) > 200)) then
       true
      else
       (bif (((F17 (a0.1,a0.2) a1.2.2.1).2:Int) != 0) then
        true
       else
        (bif (((F17 (a0.1,a0.2) a1.2.2.2.1).2:Int) != 0) then
         true
        else
         (bif (decide (((F17 (a0.1,a0.2) a1.2.2.1).1:Int) > 10000)) then
          true
         else
          (bif (decide (((F17 (a0.1,a0.2) a1.2.2.2.1).1:Int) > 10000)) then
           true
          else
           (bif (((aA (a0.1,a0.2) a1.1 a1.2.2.1).2:Int) != 0) then
            true
           else
            (bif (((aA (a0.1,a0.2) a1.2.1 a1.2.2.2.1).2:Int) != 0) then
             true
            else
             (bif (((F15 (a0.1,a0.2) ((aA (a0.1,a0.2) a1.1 a1.2.2.1).1.1,(aA (a0.1,a0.2) a1.1 a1.2.2.1).1.2.1,(aA (a0.1,a0.2) a1.1 a1.2.2.1).1.2.2)):Int) != 0) then
              false
             else
              (bif (((F15 (a0.1,a0.2) ((aA (a0.1,a0.2) a1.2.1 a1.2.2.2.1).1.1,(aA (a0.1,a0.2) a1.2.1 a1.2.2.2.1).1.2.1,(aA (a0.1,a0.2) a1.2.1 a1.2.2.2.1).1.2.2)):Int) != 0) then
               false
              else
               (bif (!(yB (aA (a0.1,a0.2) a1.1 a1.2.2.1).1.2.2 (aA (a0.1,a0.2) a1.1 a1.2.2.1).2 (aA (a0.1,a0.2) a1.2.1 a1.2.2.2.1).1.2.2 (aA (a0.1,a0.2) a1.2.1 a1.2.2.2.1).2)) then
                false
               else
                (bif (((F20 (a0.1,a0.2) ((aA (a0.1,a0.2) a1.1 a1.2.2.1).1.1,(aA (a0.1,a0.2) a1.1 a1.2.2.1).1.2.1,(aA (a0.1,a0.2) a1.1 a1.2.2.1).1.2.2) ((aA (a0.1,a0.2) a1.2.1 a1.2.2.2.1).1.1,(aA (a0.1,a0.2) a1.2.1 a1.2.2.2.1).1.2.1,(aA (a0.1,a0.2) a1.2.1 a1.2.2.2.1).1.2.2)).2:Int) != 0) then
                 (wE a0 a1 ())
                else
                 (bif (((F20 (a0.1,a0.2) ((aA (a0.1,a0.2) a1.1 a1.2.2.1).1.1,(aA (a0.1,a0.2) a1.1 a1.2.2.1).1.2.1,(aA (a0.1,a0.2) a1.1 a1.2.2.1).1.2.2) ((aA (a0.1,a0.2) a1.2.1 a1.2.2.2.1).1.1,(aA (a0.1,a0.2) a1.2.1 a1.2.2.2.1).1.2.1,(aA (a0.1,a0.2) a1.2.1 a1.2.2.2.1).1.2.2)).1:Int) != 0) then
                  (wE a0 a1 ())
                 else
                  (bif (((uW (aA (a0.1,a0.2) a1.1 a1.2.2.1).1.2.2 (aA (a0.1,a0.2) a1.2.1 a1.2.2.2.1).1.2.2).2.2:Int) != 0) then
                   (sH a0 a1 ())
                  else
                   (bif (((gD (a0.1,a0.2) (((aA (a0.1,a0.2) a1.1 a1.2.2.1).1.1,(aA (a0.1,a0.2) a1.1 a1.2.2.1).1.2.1,(aA (a0.1,a0.2) a1.1 a1.2.2.1).1.2.2),((aA (a0.1,a0.2) a1.2.1 a1.2.2.2.1).1.1,(aA (a0.1,a0.2) a1.2.1 a1.2.2.2.1).1.2.1,(aA (a0.1,a0.2) a1.2.1 a1.2.2.2.1).1.2.2))).2:Int) != 0) then
                    (sH a0 a1 ())
                   else
                    (bif (!((((gD (a0.1,a0.2) (((aA (a0.1,a0.2) a1.1 a1.2.2.1).1.1,(aA (a0.1,a0.2) a1.1 a1.2.2.1).1.2.1,(aA (a0.1,a0.2) a1.1 a1.2.2.1).1.2.2),((aA (a0.1,a0.2) a1.2.1 a1.2.2.2.1).1.1,(aA (a0.1,a0.2) a1.2.1 a1.2.2.2.1).1.2.1,(aA (a0.1,a0.2) a1.2.1 a1.2.2.2.1).1.2.2))).1.1:Int) == (uW (aA (a0.1,a0.2) a1.1 a1.2.2.1).1.2.2 (aA (a0.1,a0.2) a1.2.1 a1.2.2.2.1).1.2.2).1.1)&&((((gD (a0.1,a0.2) (((aA (a0.1,a0.2) a1.1 a1.2.2.1).1.1,(aA (a0.1,a0.2) a1.1 a1.2.2.1).1.2.1,(aA (a0.1,a0.2) a1.1 a1.2.2.1).1.2.2),((aA (a0.1,a0.2) a1.2.1 a1.2.2.2.1).1.1,(aA (a0.1,a0.2) a1.2.1 a1.2.2.2.1).1.2.1,(aA (a0.1,a0.2) a1.2.1 a1.2.2.2.1).1.2.2))).1.2:Int) == (uW (aA (a0.1,a0.2) a1.1 a1.2.2.1).1.2.2 (aA (a0.1,a0.2) a1.2.1 a1.2.2.2.1).1.2.2).1.2)&&true))) then
                     (sH a0 a1 ())
                    else
                     (bif (decide (((aA (a0.1,a0.2) a1.1 a1.2.2.1).1.2.2.1:Int) < (aA (a0.1,a0.2) a1.1 a1.2.2.1).1.2.2.2)) then
                      (bif (((F15 (a0.1,a0.2) ((aA (a0.1,a0.2) a1.1 a1.2.2.1).1.1,(aA (a0.1,a0.2) a1.1 a1.2.2.1).1.2.1,((aA (a0.1,a0.2) a1.1 a1.2.2.1).1.2.2.1,(W ((aA (a0.1,a0.2) a1.1 a1.2.2.1).1.2.2.2 - 1))))):Int) != 12) then
                       false
                      else
                       (kJ a0 a1 ()))
                     else
                      (kJ a0 a1 ())))))))))))))))))))))
theorem aP8 (a0:Zm)(a1:List (Int)×List (Int)×Int×Int×Zt×Int)(l0_1:a0.1.length≤9223372036854775807)(l0_2:a0.2.length≤9223372036854775807)(l1_1:a1.1.length≤9223372036854775807)(l1_2_1:a1.2.1.length≤9223372036854775807) {cx:Cx} (hcx:cx.base=4):True→Aw.Good Try.prog none 9 (bodyPost Try.prog Try.f5 (RR cx (.v (.bool (wE a0 a1 ()))) [] [])) cx [] (.c aIo::aIp) (aEy a0 a1):=by
 intro hi
 have hx0:=qC
 have hx1:=fW (a0.1,a0.2) a1.1 a1.2.2.1
 have hx2:=fW (a0.1,a0.2) a1.2.1 a1.2.2.2.1
 have hx3:=qA (a0.1,a0.2) a1.2.2.2.2.1
 have hx4:=qB (a0.1,a0.2)
 have hx5:=pZ (a0.1,a0.2) a1.2.2.2.2.2
 dsimp only at hx3 hx4 hx5
 have e:=Eq.refl (wE a0 a1 ());conv at e=>rhs;simp only [wE]
 rw [e]
 exact rt [] [] [] hcx (by kernel_rfl)
theorem aIu (a0:Zm)(a1:List (Int)×List (Int)×Int×Int×Zt×Int)(l0_1:a0.1.length≤9223372036854775807)(l0_2:a0.2.length≤9223372036854775807)(l1_1:a1.1.length≤9223372036854775807)(l1_2_1:a1.2.1.length≤9223372036854775807) {cx:Cx} (hcx:cx.base=4):True→Aw.Good Try.prog none 9 (bodyPost Try.prog Try.f5 (RR cx (.v (.bool (sH a0 a1 ()))) [] [])) cx [] (.c aEz::aE0) (yC a0 a1):=by
 intro hi
 have hx0:=qC
 have hx1:=fW (a0.1,a0.2) a1.1 a1.2.2.1
 have hx2:=fW (a0.1,a0.2) a1.2.1 a1.2.2.2.1
 have hx3:=qA (a0.1,a0.2) a1.2.2.2.2.1
 have hx4:=qB (a0.1,a0.2)
 have hx5:=pZ (a0.1,a0.2) a1.2.2.2.2.2
 dsimp only at hx3 hx4 hx5
 have e:=Eq.refl (sH a0 a1 ());conv at e=>rhs;simp only [sH]
 rw [e]
 exact rt [] [] [] hcx (by kernel_rfl)
theorem aP9 (a0:Zm)(a1:List (Int)×List (Int)×Int×Int×Zt×Int)(l0_1:a0.1.length≤9223372036854775807)(l0_2:a0.2.length≤9223372036854775807)(l1_1:a1.1.length≤9223372036854775807)(l1_2_1:a1.2.1.length≤9223372036854775807) {cx:Cx} (hcx:cx.base=4):True→Aw.Good Try.prog none 9 (bodyPost Try.prog Try.f5 (RR cx (.v (.bool (eI a0 a1 ()))) [] [])) cx [] (.c aIq::aIr) (aE1 a0 a1):=by
 intro hi
 have hx0:=qC
 have hx1:=fW (a0.1,a0.2) a1.1 a1.2.2.1
 have hx2:=fW (a0.1,a0.2) a1.2.1 a1.2.2.2.1
 have hx3:=qA (a0.1,a0.2) a1.2.2.2.2.1
 have hx4:=qB (a0.1,a0.2)
 have hx5:=pZ (a0.1,a0.2) a1.2.2.2.2.2
 dsimp only at hx3 hx4 hx5
 let t0:List (St Try.prog):=[.c [0,1] (C24 (a0.1,a0.2) (by(try simp only [Lt]);omega) (by(try simp only [Lt]);omega))]
 cases h0:(((sG (a0.1,a0.2)).2:Int) == 0) with
 | true =>
  have q0:=eq_of_beq h0
  let t1:List (St Try.prog):=(t0++[.d h0,.c [8,9,3] (aLg ((sG (a0.1,a0.2)).1.1,(sG (a0.1,a0.2)).1.2) a1.2.1 a1.2.2.1 (by(try simp only [Lt]);omega) (by(try simp only [Lt]);omega) (by(try simp only [Lt]);omega)),.c [] (C19 (aA (a0.1,a0.2) a1.1 a1.2.2.1).1.2.2 (aA (a0.1,a0.2) a1.1 a1.2.2.1).2 (aM ((sG (a0.1,a0.2)).1.1,(sG (a0.1,a0.2)).1.2) a1.2.1 a1.2.2.1).1 (aM ((sG (a0.1,a0.2)).1.1,(sG (a0.1,a0.2)).1.2) a1.2.1 a1.2.2.1).2)])
  cases h1:(!(yB (aA (a0.1,a0.2) a1.1 a1.2.2.1).1.2.2 (aA (a0.1,a0.2) a1.1 a1.2.2.1).2 (aM ((sG (a0.1,a0.2)).1.1,(sG (a0.1,a0.2)).1.2) a1.2.1 a1.2.2.1).1 (aM ((sG (a0.1,a0.2)).1.1,(sG (a0.1,a0.2)).1.2) a1.2.1 a1.2.2.1).2)) with
  | true =>
   have e:=Eq.refl (eI a0 a1 ());conv at e=>rhs;simp only [eI,h0,h1,aK]
   rw [e]
   exact rt (t1++[.d h1]) [] [] hcx (by kernel_rfl)
  | false =>
   let t2:List (St Try.prog):=(t1++[.d h1,.c [0,1] (C25 (a0.1,a0.2) a1.2.2.2.2.2 (by(try simp only [Lt]);omega) (by(try simp only [Lt]);omega))])
   cases h2:(((gO (a0.1,a0.2) a1.2.2.2.2.2).2:Int) == 0) with
   | true =>
    have q2:=eq_of_beq h2
    let t3:List (St Try.prog):=(t2++[.d h2,.c [12,13,3] (aLg ((gO (a0.1,a0.2) a1.2.2.2.2.2).1.1,(gO (a0.1,a0.2) a1.2.2.2.2.2).1.2) a1.2.1 a1.2.2.2.1 (by(try simp only [Lt]);omega) (by(try simp only [Lt]);omega) (by(try simp only [Lt]);omega)),.c [] (C13 (aA (a0.1,a0.2) a1.1 a1.2.2.1).1.2.2 a1.2.2.2.2.2),.c [] (C19 (iU (aA (a0.1,a0.2) a1.1 a1.2.2.1).1.2.2 a1.2.2.2.2.2).1 (iU (aA (a0.1,a0.2) a1.1 a1.2.2.1).1.2.2 a1.2.2.2.2.2).2 (aM ((gO (a0.1,a0.2) a1.2.2.2.2.2).1.1,(gO (a0.1,a0.2) a1.2.2.2.2.2).1.2) a1.2.1 a1.2.2.2.1).1 (aM ((gO (a0.1,a0.2) a1.2.2.2.2.2).1.1,(gO (a0.1,a0.2) a1.2.2.2.2.2).1.2) a1.2.1 a1.2.2.2.1).2)])
    cases h3:(!(yB (iU (aA (a0.1,a0.2) a1.1 a1.2.2.1).1.2.2 a1.2.2.2.2.2).1 (iU (aA (a0.1,a0.2) a1.1 a1.2.2.1).1.2.2 a1.2.2.2.2.2).2 (aM ((gO (a0.1,a0.2) a1.2.2.2.2.2).1.1,(gO (a0.1,a0.2) a1.2.2.2.2.2).1.2) a1.2.1 a1.2.2.2.1).1 (aM ((gO (a0.1,a0.2) a1.2.2.2.2.2).1.1,(gO (a0.1,a0.2) a1.2.2.2.2.2).1.2) a1.2.1 a1.2.2.2.1).2)) with
    | true =>
     have e:=Eq.refl (eI a0 a1 ());conv at e=>rhs;simp only [eI,h0,h1,h2,h3,aK]
     rw [e]
     exact rt (t3++[.d h3]) [] [] hcx (by kernel_rfl)
    | false =>
     have e:=Eq.refl (eI a0 a1 ());conv at e=>rhs;simp only [eI,h0,h1,h2,h3,aK]
     rw [e]
     exact rt (t3++[.d h3]) [] [] hcx (by kernel_rfl)
   | false =>
    have q2:=ne_of_beq_false h2
    have e:=Eq.refl (eI a0 a1 ());conv at e=>rhs;simp only [eI,h0,h1,h2,aK]
    rw [e]
    exact rt (t2++[.d h2]) [] [] hcx (by kernel_rfl)
 | false =>
  have q0:=ne_of_beq_false h0
  let t1:List (St Try.prog):=(t0++[.d h0,.c [0,1] (C25 (a0.1,a0.2) a1.2.2.2.2.2 (by(try simp only [Lt]);omega) (by(try simp only [Lt]);omega))])
  cases h1:(((gO (a0.1,a0.2) a1.2.2.2.2.2).2:Int) == 0) with
  | true =>
   have q1:=eq_of_beq h1
   let t2:List (St Try.prog):=(t1++[.d h1,.c [11,12,3] (aLg ((gO (a0.1,a0.2) a1.2.2.2.2.2).1.1,(gO (a0.1,a0.2) a1.2.2.2.2.2).1.2) a1.2.1 a1.2.2.2.1 (by(try simp only [Lt]);omega) (by(try simp only [Lt]);omega) (by(try simp only [Lt]);omega)),.c [] (C13 (aA (a0.1,a0.2) a1.1 a1.2.2.1).1.2.2 a1.2.2.2.2.2),.c [] (C19 (iU (aA (a0.1,a0.2) a1.1 a1.2.2.1).1.2.2 a1.2.2.2.2.2).1 (iU (aA (a0.1,a0.2) a1.1 a1.2.2.1).1.2.2 a1.2.2.2.2.2).2 (aM ((gO (a0.1,a0.2) a1.2.2.2.2.2).1.1,(gO (a0.1,a0.2) a1.2.2.2.2.2).1.2) a1.2.1 a1.2.2.2.1).1 (aM ((gO (a0.1,a0.2) a1.2.2.2.2.2).1.1,(gO (a0.1,a0.2) a1.2.2.2.2.2).1.2) a1.2.1 a1.2.2.2.1).2)])
   cases h2:(!(yB (iU (aA (a0.1,a0.2) a1.1 a1.2.2.1).1.2.2 a1.2.2.2.2.2).1 (iU (aA (a0.1,a0.2) a1.1 a1.2.2.1).1.2.2 a1.2.2.2.2.2).2 (aM ((gO (a0.1,a0.2) a1.2.2.2.2.2).1.1,(gO (a0.1,a0.2) a1.2.2.2.2.2).1.2) a1.2.1 a1.2.2.2.1).1 (aM ((gO (a0.1,a0.2) a1.2.2.2.2.2).1.1,(gO (a0.1,a0.2) a1.2.2.2.2.2).1.2) a1.2.1 a1.2.2.2.1).2)) with
   | true =>
    have e:=Eq.refl (eI a0 a1 ());conv at e=>rhs;simp only [eI,h0,h1,h2,aK]
    rw [e]
    exact rt (t2++[.d h2]) [] [] hcx (by kernel_rfl)
   | false =>
    have e:=Eq.refl (eI a0 a1 ());conv at e=>rhs;simp only [eI,h0,h1,h2,aK]
    rw [e]
    exact rt (t2++[.d h2]) [] [] hcx (by kernel_rfl)
  | false =>
   have q1:=ne_of_beq_false h1
   have e:=Eq.refl (eI a0 a1 ());conv at e=>rhs;simp only [eI,h0,h1,aK]
   rw [e]
   exact rt (t1++[.d h1]) [] [] hcx (by kernel_rfl)
theorem aQa (a0:Zm)(a1:List (Int)×List (Int)×Int×Int×Zt×Int)(l0_1:a0.1.length≤9223372036854775807)(l0_2:a0.2.length≤9223372036854775807)(l1_1:a1.1.length≤9223372036854775807)(l1_2_1:a1.2.1.length≤9223372036854775807) {cx:Cx} (hcx:cx.base=4):True→Aw.Good Try.prog none 9 (bodyPost Try.prog Try.f5 (RR cx (.v (.bool (kJ a0 a1 ()))) [] [])) cx [] (.c aIs::aIt) (aE2 a0 a1):=by
 intro hi
 have hx0:=qC
 have hx1:=fW (a0.1,a0.2) a1.1 a1.2.2.1
 have hx2:=fW (a0.1,a0.2) a1.2.1 a1.2.2.2.1
 have hx3:=qA (a0.1,a0.2) a1.2.2.2.2.1
 have hx4:=qB (a0.1,a0.2)
 have hx5:=pZ (a0.1,a0.2) a1.2.2.2.2.2
 dsimp only at hx3 hx4 hx5
 let t0:List (St Try.prog):=[.c [0,1] (C23 (a0.1,a0.2) a1.2.2.2.2.1 (by(try simp only [Lt]);omega) (by(try simp only [Lt]);omega))]
 cases h0:(((lC (a0.1,a0.2) a1.2.2.2.2.1).2:Int) == 0) with
 | true =>
  have q0:=eq_of_beq h0
  let t1:List (St Try.prog):=(t0++[.d h0,.c [9,10,2] (aLg ((lC (a0.1,a0.2) a1.2.2.2.2.1).1.1,(lC (a0.1,a0.2) a1.2.2.2.2.1).1.2) a1.1 a1.2.2.1 (by(try simp only [Lt]);omega) (by(try simp only [Lt]);omega) (by(try simp only [Lt]);omega)),.c [] (C19 (aA (a0.1,a0.2) a1.1 a1.2.2.1).1.2.2 (aA (a0.1,a0.2) a1.1 a1.2.2.1).2 (aM ((lC (a0.1,a0.2) a1.2.2.2.2.1).1.1,(lC (a0.1,a0.2) a1.2.2.2.2.1).1.2) a1.1 a1.2.2.1).1 (aM ((lC (a0.1,a0.2) a1.2.2.2.2.1).1.1,(lC (a0.1,a0.2) a1.2.2.2.2.1).1.2) a1.1 a1.2.2.1).2)])
  cases h1:(!(yB (aA (a0.1,a0.2) a1.1 a1.2.2.1).1.2.2 (aA (a0.1,a0.2) a1.1 a1.2.2.1).2 (aM ((lC (a0.1,a0.2) a1.2.2.2.2.1).1.1,(lC (a0.1,a0.2) a1.2.2.2.2.1).1.2) a1.1 a1.2.2.1).1 (aM ((lC (a0.1,a0.2) a1.2.2.2.2.1).1.1,(lC (a0.1,a0.2) a1.2.2.2.2.1).1.2) a1.1 a1.2.2.1).2)) with
  | true =>
   have e:=Eq.refl (kJ a0 a1 ());conv at e=>rhs;simp only [kJ,h0,h1,aK]
   rw [e]
   exact rt (t1++[.d h1]) [] [] hcx (by kernel_rfl)
  | false =>
   have e:=Eq.refl (kJ a0 a1 ());conv at e=>rhs;simp only [kJ,h0,h1,aK]
   rw [e]
   refine ga (t1++[.d h1,.z 34]) [] [2,3,6,10,13] [4,5,7,8] hcx aIq (aIr) (aE1 a0 a1) (by kernel_rfl) ?_
   exact aP9 a0 a1 l0_1 l0_2 l1_1 l1_2_1 hcx trivial
 | false =>
  have q0:=ne_of_beq_false h0
  have e:=Eq.refl (kJ a0 a1 ());conv at e=>rhs;simp only [kJ,h0,aK]
  rw [e]
  refine ga (t0++[.d h0,.z 34]) [] [2,3,6,10,13] [4,5,7,8] hcx aIq (aIr) (aE1 a0 a1) (by kernel_rfl) ?_
  exact aP9 a0 a1 l0_1 l0_2 l1_1 l1_2_1 hcx trivial
theorem aY6 (a0:Zm)(a1:List (Int)×List (Int)×Int×Int×Zt×Int)(l0_1:a0.1.length≤9223372036854775807)(l0_2:a0.2.length≤9223372036854775807)(l1_1:a1.1.length≤9223372036854775807)(l1_2_1:a1.2.1.length≤9223372036854775807) {cx:Cx} (hcx:cx.base=4):True→Aw.Good Try.prog none 9 (bodyPost Try.prog Try.f5 (RR cx (.v (.bool (bM a0 a1 ()))) [] [])) cx [] (.c aTl::aTm) (aP7 a0 a1):=by
 intro hi
 have hx0:=qC
 have hx1:=fW (a0.1,a0.2) a1.1 a1.2.2.1
 have hx2:=fW (a0.1,a0.2) a1.2.1 a1.2.2.2.1
 have hx3:=qA (a0.1,a0.2) a1.2.2.2.2.1
 have hx4:=qB (a0.1,a0.2)
 have hx5:=pZ (a0.1,a0.2) a1.2.2.2.2.2
 dsimp only at hx3 hx4 hx5
 let t0:List (St Try.prog):=[.c [] (C14 1)]
 cases h0:(((wD 1).2:Int) != 0) with
 | true =>
  have q0:=bne_iff_ne.1 h0
  have e:=Eq.refl (bM a0 a1 ());conv at e=>rhs;simp only [bM,h0,aK]
  rw [e]
  exact rt (t0++[.d h0]) [] [] hcx (by kernel_rfl)
 | false =>
  have q0:=bne_eq_false_iff_eq.1 h0
  let t1:List (St Try.prog):=(t0++[.d h0,.c [7,8,10] (Con.flags (bs':=[(.live false true (flat cA (wD 1).1.1)),(.live false true (flat cN (wD 1).1.2)),(.live false false [(iv 1),(iv 1),(iv 1),(iv 1),(iv 1),(iv 1),(iv 1),(iv 1)])]) (C15 ((wD 1).1.1,(wD 1).1.2) (([1,1,1,1,1,1,1,1]:List (Int)),0,(0,1099511627776)) (by(try simp only [Lt]);omega) (by(try simp only [Lt]);omega) (by(try simp only [Lt]);omega)) rfl ⟨cT (fun _=>rfl),cT (fun _=>rfl),cT (fun _=>rfl),trivial⟩)])
  cases h1:(((F15 ((wD 1).1.1,(wD 1).1.2) (([1,1,1,1,1,1,1,1]:List (Int)),0,(0,1099511627776))):Int) != 0) with
  | true =>
   have q1:=bne_iff_ne.1 h1
   have e:=Eq.refl (bM a0 a1 ());conv at e=>rhs;simp only [bM,h0,h1,aK]
   rw [e]
   exact rt (t1++[.d h1]) [] [] hcx (by kernel_rfl)
  | false =>
   have q1:=bne_eq_false_iff_eq.1 h1
   let t2:List (St Try.prog):=(t1++[.d h1,.c [0,1] (C16 (a0.1,a0.2) (by(try simp only [Lt]);omega) (by(try simp only [Lt]);omega))])
   cases h2:(F16 (a0.1,a0.2)) with
   | true =>
    have e:=Eq.refl (bM a0 a1 ());conv at e=>rhs;simp only [bM,h0,h1,h2,aK]
    rw [e]
    exact rt (t2++[.d h2]) [] [] hcx (by kernel_rfl)
   | false =>
    let t3:List (St Try.prog):=(t2++[.d h2])
    cases h3:(decide (((a1.1.length:Int):Int) > 200)) with
    | true =>
     have q3:=eK h3
     have e:=Eq.refl (bM a0 a1 ());conv at e=>rhs;simp only [bM,h0,h1,h2,h3,aK]
     rw [e]
     exact rt (t3++[.d h3]) [] [] hcx (by kernel_rfl)
    | false =>
     have q3:=fK h3
     let t4:List (St Try.prog):=(t3++[.d h3])
     cases h4:(decide (((a1.2.1.length:Int):Int) > 200)) with
     | true =>
      have q4:=eK h4
      have e:=Eq.refl (bM a0 a1 ());conv at e=>rhs;simp only [bM,h0,h1,h2,h3,h4,aK]
      rw [e]
      exact rt (t4++[.d h4]) [] [] hcx (by kernel_rfl)
     | false =>
      have q4:=fK h4
      let t5:List (St Try.prog):=(t4++[.d h4,.c [0,1] (C17 (a0.1,a0.2) a1.2.2.1 (by(try simp only [Lt]);omega) (by(try simp only [Lt]);omega)),.c [0,1] (C17 (a0.1,a0.2) a1.2.2.2.1 (by(try simp only [Lt]);omega) (by(try simp only [Lt]);omega))])
      cases h5:(((F17 (a0.1,a0.2) a1.2.2.1).2:Int) != 0) with
      | true =>
       have q5:=bne_iff_ne.1 h5
       have e:=Eq.refl (bM a0 a1 ());conv at e=>rhs;simp only [bM,h0,h1,h2,h3,h4,h5,aK]
       rw [e]
       exact rt (t5++[.d h5]) [] [] hcx (by kernel_rfl)
      | false =>
       have q5:=bne_eq_false_iff_eq.1 h5
       let t6:List (St Try.prog):=(t5++[.d h5])
       cases h6:(((F17 (a0.1,a0.2) a1.2.2.2.1).2:Int) != 0) with
       | true =>
        have q6:=bne_iff_ne.1 h6
        have e:=Eq.refl (bM a0 a1 ());conv at e=>rhs;simp only [bM,h0,h1,h2,h3,h4,h5,h6,aK]
        rw [e]
        exact rt (t6++[.d h6]) [] [] hcx (by kernel_rfl)
       | false =>
        have q6:=bne_eq_false_iff_eq.1 h6
        let t7:List (St Try.prog):=(t6++[.d h6])
        cases h7:(decide (((F17 (a0.1,a0.2) a1.2.2.1).1:Int) > 10000)) with
        | true =>
         have q7:=eK h7
         have e:=Eq.refl (bM a0 a1 ());conv at e=>rhs;simp only [bM,h0,h1,h2,h3,h4,h5,h6,h7,aK]
         rw [e]
         exact rt (t7++[.d h7]) [] [] hcx (by kernel_rfl)
        | false =>
         have q7:=fK h7
         let t8:List (St Try.prog):=(t7++[.d h7])
         cases h8:(decide (((F17 (a0.1,a0.2) a1.2.2.2.1).1:Int) > 10000)) with
         | true =>
          have q8:=eK h8
          have e:=Eq.refl (bM a0 a1 ());conv at e=>rhs;simp only [bM,h0,h1,h2,h3,h4,h5,h6,h7,h8,aK]
          rw [e]
          exact rt (t8++[.d h8]) [] [] hcx (by kernel_rfl)
         | false =>
          have q8:=fK h8
          let t9:List (St Try.prog):=(t8++[.d h8,.c [0,1,2] (aTk (a0.1,a0.2) a1.1 a1.2.2.1 (by(try simp only [Lt]);omega) (by(try simp only [Lt]);omega) (by omega)),.c [0,1,3] (aTk (a0.1,a0.2) a1.2.1 a1.2.2.2.1 (by(try simp only [Lt]);omega) (by(try simp only [Lt]);omega) (by omega))])
          cases h9:(((aA (a0.1,a0.2) a1.1 a1.2.2.1).2:Int) != 0) with
          | true =>
           have q9:=bne_iff_ne.1 h9
           have e:=Eq.refl (bM a0 a1 ());conv at e=>rhs;simp only [bM,h0,h1,h2,h3,h4,h5,h6,h7,h8,h9,aK]
           rw [e]
           exact rt (t9++[.d h9]) [] [] hcx (by kernel_rfl)
          | false =>
           have q9:=bne_eq_false_iff_eq.1 h9
           let t10:List (St Try.prog):=(t9++[.d h9])
           cases h10:(((aA (a0.1,a0.2) a1.2.1 a1.2.2.2.1).2:Int) != 0) with
           | true =>
            have q10:=bne_iff_ne.1 h10
            have e:=Eq.refl (bM a0 a1 ());conv at e=>rhs;simp only [bM,h0,h1,h2,h3,h4,h5,h6,h7,h8,h9,h10,aK]
            rw [e]
            exact rt (t10++[.d h10]) [] [] hcx (by kernel_rfl)
           | false =>
            have q10:=bne_eq_false_iff_eq.1 h10
            let t11:List (St Try.prog):=(t10++[.d h10,.c [0,1,11] (C15 (a0.1,a0.2) ((aA (a0.1,a0.2) a1.1 a1.2.2.1).1.1,(aA (a0.1,a0.2) a1.1 a1.2.2.1).1.2.1,(aA (a0.1,a0.2) a1.1 a1.2.2.1).1.2.2) (by(try simp only [Lt]);omega) (by(try simp only [Lt]);omega) (by(try simp only [Lt]);omega))])
            cases h11:(((F15 (a0.1,a0.2) ((aA (a0.1,a0.2) a1.1 a1.2.2.1).1.1,(aA (a0.1,a0.2) a1.1 a1.2.2.1).1.2.1,(aA (a0.1,a0.2) a1.1 a1.2.2.1).1.2.2)):Int) != 0) with
            | true =>
             have q11:=bne_iff_ne.1 h11
             have e:=Eq.refl (bM a0 a1 ());conv at e=>rhs;simp only [bM,h0,h1,h2,h3,h4,h5,h6,h7,h8,h9,h10,h11,aK]
             rw [e]
             exact rt (t11++[.d h11]) [] [] hcx (by kernel_rfl)
            | false =>
             have q11:=bne_eq_false_iff_eq.1 h11
             let t12:List (St Try.prog):=(t11++[.d h11,.c [0,1,13] (C15 (a0.1,a0.2) ((aA (a0.1,a0.2) a1.2.1 a1.2.2.2.1).1.1,(aA (a0.1,a0.2) a1.2.1 a1.2.2.2.1).1.2.1,(aA (a0.1,a0.2) a1.2.1 a1.2.2.2.1).1.2.2) (by(try simp only [Lt]);omega) (by(try simp only [Lt]);omega) (by(try simp only [Lt]);omega))])
             cases h12:(((F15 (a0.1,a0.2) ((aA (a0.1,a0.2) a1.2.1 a1.2.2.2.1).1.1,(aA (a0.1,a0.2) a1.2.1 a1.2.2.2.1).1.2.1,(aA (a0.1,a0.2) a1.2.1 a1.2.2.2.1).1.2.2)):Int) != 0) with
             | true =>
              have q12:=bne_iff_ne.1 h12
              have e:=Eq.refl (bM a0 a1 ());conv at e=>rhs;simp only [bM,h0,h1,h2,h3,h4,h5,h6,h7,h8,h9,h10,h11,h12,aK]
              rw [e]
              exact rt (t12++[.d h12]) [] [] hcx (by kernel_rfl)
             | false =>
              have q12:=bne_eq_false_iff_eq.1 h12
              let t13:List (St Try.prog):=(t12++[.d h12,.c [] (C19 (aA (a0.1,a0.2) a1.1 a1.2.2.1).1.2.2 (aA (a0.1,a0.2) a1.1 a1.2.2.1).2 (aA (a0.1,a0.2) a1.2.1 a1.2.2.2.1).1.2.2 (aA (a0.1,a0.2) a1.2.1 a1.2.2.2.1).2)])
              cases h13:(!(yB (aA (a0.1,a0.2) a1.1 a1.2.2.1).1.2.2 (aA (a0.1,a0.2) a1.1 a1.2.2.1).2 (aA (a0.1,a0.2) a1.2.1 a1.2.2.2.1).1.2.2 (aA (a0.1,a0.2) a1.2.1 a1.2.2.2.1).2)) with
              | true =>
               have e:=Eq.refl (bM a0 a1 ());conv at e=>rhs;simp only [bM,h0,h1,h2,h3,h4,h5,h6,h7,h8,h9,h10,h11,h12,h13,aK]
               rw [e]
               exact rt (t13++[.d h13]) [] [] hcx (by kernel_rfl)
              | false =>
               let t14:List (St Try.prog):=(t13++[.d h13,.c [0,1,11,13] (C20 (a0.1,a0.2) ((aA (a0.1,a0.2) a1.1 a1.2.2.1).1.1,(aA (a0.1,a0.2) a1.1 a1.2.2.1).1.2.1,(aA (a0.1,a0.2) a1.1 a1.2.2.1).1.2.2) ((aA (a0.1,a0.2) a1.2.1 a1.2.2.2.1).1.1,(aA (a0.1,a0.2) a1.2.1 a1.2.2.2.1).1.2.1,(aA (a0.1,a0.2) a1.2.1 a1.2.2.2.1).1.2.2) (by(try simp only [Lt]);omega) (by(try simp only [Lt]);omega) (by(try simp only [Lt]);omega) (by(try simp only [Lt]);omega))])
               cases h14:(((F20 (a0.1,a0.2) ((aA (a0.1,a0.2) a1.1 a1.2.2.1).1.1,(aA (a0.1,a0.2) a1.1 a1.2.2.1).1.2.1,(aA (a0.1,a0.2) a1.1 a1.2.2.1).1.2.2) ((aA (a0.1,a0.2) a1.2.1 a1.2.2.2.1).1.1,(aA (a0.1,a0.2) a1.2.1 a1.2.2.2.1).1.2.1,(aA (a0.1,a0.2) a1.2.1 a1.2.2.2.1).1.2.2)).2:Int) != 0) with
               | true =>
                have q14:=bne_iff_ne.1 h14
                have e:=Eq.refl (bM a0 a1 ());conv at e=>rhs;simp only [bM,h0,h1,h2,h3,h4,h5,h6,h7,h8,h9,h10,h11,h12,h13,h14,aK]
                rw [e]
                refine ga (t14++[.d h14,.z 19]) [] [] [] hcx aIo (aIp) (aEy a0 a1) (by kernel_rfl) ?_
                exact aP8 a0 a1 l0_1 l0_2 l1_1 l1_2_1 hcx trivial
               | false =>
                have q14:=bne_eq_false_iff_eq.1 h14
                let t15:List (St Try.prog):=(t14++[.d h14])
                cases h15:(((F20 (a0.1,a0.2) ((aA (a0.1,a0.2) a1.1 a1.2.2.1).1.1,(aA (a0.1,a0.2) a1.1 a1.2.2.1).1.2.1,(aA (a0.1,a0.2) a1.1 a1.2.2.1).1.2.2) ((aA (a0.1,a0.2) a1.2.1 a1.2.2.2.1).1.1,(aA (a0.1,a0.2) a1.2.1 a1.2.2.2.1).1.2.1,(aA (a0.1,a0.2) a1.2.1 a1.2.2.2.1).1.2.2)).1:Int) != 0) with
                | true =>
                 have q15:=bne_iff_ne.1 h15
                 have e:=Eq.refl (bM a0 a1 ());conv at e=>rhs;simp only [bM,h0,h1,h2,h3,h4,h5,h6,h7,h8,h9,h10,h11,h12,h13,h14,h15,aK]
                 rw [e]
                 refine ga (t15++[.d h15,.z 19]) [] [] [] hcx aIo (aIp) (aEy a0 a1) (by kernel_rfl) ?_
                 exact aP8 a0 a1 l0_1 l0_2 l1_1 l1_2_1 hcx trivial
                | false =>
                 have q15:=bne_eq_false_iff_eq.1 h15
                 let t16:List (St Try.prog):=(t15++[.d h15,.c [] (C21 (aA (a0.1,a0.2) a1.1 a1.2.2.1).1.2.2 (aA (a0.1,a0.2) a1.2.1 a1.2.2.2.1).1.2.2),.c [0,1,16,11,13] (aY5 (a0.1,a0.2) (((aA (a0.1,a0.2) a1.1 a1.2.2.1).1.1,(aA (a0.1,a0.2) a1.1 a1.2.2.1).1.2.1,(aA (a0.1,a0.2) a1.1 a1.2.2.1).1.2.2),((aA (a0.1,a0.2) a1.2.1 a1.2.2.2.1).1.1,(aA (a0.1,a0.2) a1.2.1 a1.2.2.2.1).1.2.1,(aA (a0.1,a0.2) a1.2.1 a1.2.2.2.1).1.2.2)) (by(try simp only [Lt]);omega) (by(try simp only [Lt]);omega) (by(try simp only [Lt]);omega) (by(try simp only [Lt]);omega))])
                 cases h16:(((uW (aA (a0.1,a0.2) a1.1 a1.2.2.1).1.2.2 (aA (a0.1,a0.2) a1.2.1 a1.2.2.2.1).1.2.2).2.2:Int) != 0) with
                 | true =>
                  have q16:=bne_iff_ne.1 h16
                  have e:=Eq.refl (bM a0 a1 ());conv at e=>rhs;simp only [bM,h0,h1,h2,h3,h4,h5,h6,h7,h8,h9,h10,h11,h12,h13,h14,h15,h16,aK]
                  rw [e]
                  refine ga (t16++[.d h16,.z 23]) [] [] [] hcx aEz (aE0) (yC a0 a1) (by kernel_rfl) ?_
                  exact aIu a0 a1 l0_1 l0_2 l1_1 l1_2_1 hcx trivial
                 | false =>
                  have q16:=bne_eq_false_iff_eq.1 h16
                  let t17:List (St Try.prog):=(t16++[.d h16])
                  cases h17:(((gD (a0.1,a0.2) (((aA (a0.1,a0.2) a1.1 a1.2.2.1).1.1,(aA (a0.1,a0.2) a1.1 a1.2.2.1).1.2.1,(aA (a0.1,a0.2) a1.1 a1.2.2.1).1.2.2),((aA (a0.1,a0.2) a1.2.1 a1.2.2.2.1).1.1,(aA (a0.1,a0.2) a1.2.1 a1.2.2.2.1).1.2.1,(aA (a0.1,a0.2) a1.2.1 a1.2.2.2.1).1.2.2))).2:Int) != 0) with
                  | true =>
                   have q17:=bne_iff_ne.1 h17
                   have e:=Eq.refl (bM a0 a1 ());conv at e=>rhs;simp only [bM,h0,h1,h2,h3,h4,h5,h6,h7,h8,h9,h10,h11,h12,h13,h14,h15,h16,h17,aK]
                   rw [e]
                   refine ga (t17++[.d h17,.z 23]) [] [] [] hcx aEz (aE0) (yC a0 a1) (by kernel_rfl) ?_
                   exact aIu a0 a1 l0_1 l0_2 l1_1 l1_2_1 hcx trivial
                  | false =>
                   have q17:=bne_eq_false_iff_eq.1 h17
                   let t18:List (St Try.prog):=(t17++[.d h17])
                   cases h18:(!((((gD (a0.1,a0.2) (((aA (a0.1,a0.2) a1.1 a1.2.2.1).1.1,(aA (a0.1,a0.2) a1.1 a1.2.2.1).1.2.1,(aA (a0.1,a0.2) a1.1 a1.2.2.1).1.2.2),((aA (a0.1,a0.2) a1.2.1 a1.2.2.2.1).1.1,(aA (a0.1,a0.2) a1.2.1 a1.2.2.2.1).1.2.1,(aA (a0.1,a0.2) a1.2.1 a1.2.2.2.1).1.2.2))).1.1:Int) == (uW (aA (a0.1,a0.2) a1.1 a1.2.2.1).1.2.2 (aA (a0.1,a0.2) a1.2.1 a1.2.2.2.1).1.2.2).1.1)&&((((gD (a0.1,a0.2) (((aA (a0.1,a0.2) a1.1 a1.2.2.1).1.1,(aA (a0.1,a0.2) a1.1 a1.2.2.1).1.2.1,(aA (a0.1,a0.2) a1.1 a1.2.2.1).1.2.2),((aA (a0.1,a0.2) a1.2.1 a1.2.2.2.1).1.1,(aA (a0.1,a0.2) a1.2.1 a1.2.2.2.1).1.2.1,(aA (a0.1,a0.2) a1.2.1 a1.2.2.2.1).1.2.2))).1.2:Int) == (uW (aA (a0.1,a0.2) a1.1 a1.2.2.1).1.2.2 (aA (a0.1,a0.2) a1.2.1 a1.2.2.2.1).1.2.2).1.2)&&true))) with
                   | true =>
                    have e:=Eq.refl (bM a0 a1 ());conv at e=>rhs;simp only [bM,h0,h1,h2,h3,h4,h5,h6,h7,h8,h9,h10,h11,h12,h13,h14,h15,h16,h17,h18,aK]
                    rw [e]
                    refine ga (t18++[.d h18,.z 23]) [] [] [] hcx aEz (aE0) (yC a0 a1) (by kernel_rfl) ?_
                    exact aIu a0 a1 l0_1 l0_2 l1_1 l1_2_1 hcx trivial
                   | false =>
                    let t19:List (St Try.prog):=(t18++[.d h18])
                    cases h19:(decide (((aA (a0.1,a0.2) a1.1 a1.2.2.1).1.2.2.1:Int) < (aA (a0.1,a0.2) a1.1 a1.2.2.1).1.2.2.2)) with
                    | true =>
                     have q19:=eK h19
                     let t20:List (St Try.prog):=(t19++[.d h19,.c [0,1,11] (C15 (a0.1,a0.2) ((aA (a0.1,a0.2) a1.1 a1.2.2.1).1.1,(aA (a0.1,a0.2) a1.1 a1.2.2.1).1.2.1,((aA (a0.1,a0.2) a1.1 a1.2.2.1).1.2.2.1,(W ((aA (a0.1,a0.2) a1.1 a1.2.2.1).1.2.2.2 - 1)))) (by(try simp only [Lt]);omega) (by(try simp only [Lt]);omega) (by(try simp only [Lt]);omega))])
                     cases h20:(((F15 (a0.1,a0.2) ((aA (a0.1,a0.2) a1.1 a1.2.2.1).1.1,(aA (a0.1,a0.2) a1.1 a1.2.2.1).1.2.1,((aA (a0.1,a0.2) a1.1 a1.2.2.1).1.2.2.1,(W ((aA (a0.1,a0.2) a1.1 a1.2.2.1).1.2.2.2 - 1))))):Int) != 12) with
                     | true =>
                      have q20:=bne_iff_ne.1 h20
                      have e:=Eq.refl (bM a0 a1 ());conv at e=>rhs;simp only [bM,h0,h1,h2,h3,h4,h5,h6,h7,h8,h9,h10,h11,h12,h13,h14,h15,h16,h17,h18,h19,h20,aK]
                      rw [e]
                      exact rt (t20++[.d h20]) [] [] hcx (by kernel_rfl)
                     | false =>
                      have q20:=bne_eq_false_iff_eq.1 h20
                      have e:=Eq.refl (bM a0 a1 ());conv at e=>rhs;simp only [bM,h0,h1,h2,h3,h4,h5,h6,h7,h8,h9,h10,h11,h12,h13,h14,h15,h16,h17,h18,h19,h20,aK]
                      rw [e]
                      refine ga (t20++[.d h20,.z 29]) [] [2,3,5,6,10,13] [4,5,6,12,11] hcx aIs (aIt) (aE2 a0 a1) (by kernel_rfl) ?_
                      exact aQa a0 a1 l0_1 l0_2 l1_1 l1_2_1 hcx trivial
                    | false =>
                     have q19:=fK h19
                     have e:=Eq.refl (bM a0 a1 ());conv at e=>rhs;simp only [bM,h0,h1,h2,h3,h4,h5,h6,h7,h8,h9,h10,h11,h12,h13,h14,h15,h16,h17,h18,h19,aK]
                     rw [e]
                     refine ga (t19++[.d h19,.z 29]) [] [2,3,5,6,10,13] [4,5,6,12,11] hcx aIs (aIt) (aE2 a0 a1) (by kernel_rfl) ?_
                     exact aQa a0 a1 l0_1 l0_2 l1_1 l1_2_1 hcx trivial
def F5 (a0:Zm)(a1:List (Int)×List (Int)×Int×Int×Zt×Int):Bool :=
 (bM a0 a1 ())
theorem C5 (a0:Zm)(a1:List (Int)×List (Int)×Int×Int×Zt×Int)(l0_1:a0.1.length≤9223372036854775807)(l0_2:a0.2.length≤9223372036854775807)(l1_1:a1.1.length≤9223372036854775807)(l1_2_1:a1.2.1.length≤9223372036854775807):Con Try.prog 5 [(.a [(.s 0 0 a0.1.length 3),(.s 1 0 a0.2.length 3)]),(.a [(.s 2 0 a1.1.length 1),(.s 3 0 a1.2.1.length 1),(iv a1.2.2.1),(iv a1.2.2.2.1),(iv a1.2.2.2.2.1.1),(iv a1.2.2.2.2.1.2.1),(iv a1.2.2.2.2.1.2.2),(iv a1.2.2.2.2.2)])] [(.live false true (flat cA a0.1)),(.live false true (flat cN a0.2)),(.live false true (flat c3 a1.1)),(.live false true (flat c3 a1.2.1))] (.v (.bool (F5 a0 a1))) []:=by
 refine aI Try.func5 (by kernel_rfl) fun cx hcx=>?_
 have hx0:=qC
 have hx1:=fW (a0.1,a0.2) a1.1 a1.2.2.1
 have hx2:=fW (a0.1,a0.2) a1.2.1 a1.2.2.2.1
 have hx3:=qA (a0.1,a0.2) a1.2.2.2.2.1
 have hx4:=qB (a0.1,a0.2)
 have hx5:=pZ (a0.1,a0.2) a1.2.2.2.2.2
 dsimp only at hx3 hx4 hx5
 have e:=Eq.refl (F5 a0 a1);conv at e=>rhs;simp only [F5]
 rw [e]
 refine ga [.z 2] [] [2,3,5,6] [4,5,6] hcx aTl (aTm) (aP7 a0 a1) (by kernel_rfl) ?_
 exact aY6 a0 a1 l0_1 l0_2 l1_1 l1_2_1 hcx trivial
theorem aV2 {s:Int×Int} (h:qE s=true):vs s:=by
 unfold qE at h
 unfold vs
 by_cases h1:s.1≥-1099511627776<;>by_cases h2:s.1≤s.2<;>by_cases h3:s.2≤1099511627776<;>simp [h1,h2,h3] at h
 exact⟨by omega,h2,h3⟩
theorem aQb {a c:Int×Int} (ha:vs a)(hc:vs c):iT (a,c)=0:=by
 unfold iT
 have e1:qE (a,c).1=true:=aAc (a:=a.1) (b:=a.2) ha.1 ha.2.1 ha.2.2
 have e2:qE (a,c).2=true:=aAc (a:=c.1) (b:=c.2) hc.1 hc.2.1 hc.2.2
 rw [e1,e2];rfl
theorem aQc {a c:Int×Int} (ha:vs a)(hc:vs c):(F71 a c).1=(decide (c.1≤a.1)&&decide (a.2≤c.2)):=by
 unfold F71
 rw [aQb ha hc]
 by_cases h1:c.1≤a.1<;>simp [h1]
abbrev CT:=List Int×Zt
theorem aGs {m:ME} {c:CT} (h:(fZ m c).1=false):(aM m c.1 c.2.1).2=0∧vs c.2.2∧c.2.2.1≤(aM m c.1 c.2.1).1.1∧(aM m c.1 c.2.1).1.2≤c.2.2.2∧fZ m c=(false,0,c.2.2):=by
 unfold fZ at h ⊢
 cases h1:(!(qE c.2.2)) with
 | true=>simp only [h1,cond_true] at h;cases h
 | false =>
   cases h2:(!(oL c.2.1 0 2)) with
   | true=>simp only [h1,h2,aK] at h;cases h
   | false =>
     cases h3:(((aM (m.1,m.2) c.1 c.2.1).2:Int) != 0) with
     | true=>simp only [h1,h2,h3,aK] at h;cases h
     | false =>
       cases h4:(!(F71 (aM (m.1,m.2) c.1 c.2.1).1 c.2.2).1) with
       | true=>simp only [h1,h2,h3,h4,aK] at h;cases h
       | false =>
         simp only [cond_false]
         have hb:(aM m c.1 c.2.1).2=0:=bne_eq_false_iff_eq.1 h3
         have hs:=aV2 (s:=c.2.2) (by simpa using h1)
         rw [show(m.1,m.2)=m from rfl,aQc (lD hb) hs] at h4
         have h5:decide (c.2.2.1≤(aM m c.1 c.2.1).1.1)=true∧decide ((aM m c.1 c.2.1).1.2≤c.2.2.2)=true:=by simpa using h4
         exact⟨hb,hs,eK h5.1,eK h5.2,trivial⟩
theorem aV3 {d:Int} (h:0≤d∧d≤2):oL d 0 2=true:=by
 unfold oL
 simp [h.1,h.2]
theorem aY7 {m:ME} {q:List Int} {d:Int} (h:(aM m q d).2=0):0≤d∧d≤2:=by
 obtain⟨hC,Q,mx,E,mn,S,V⟩:=eD h
 exact S.hd
theorem aQd {m:ME} {c:CT} (hb:(aM m c.1 c.2.1).2=0)(hs:vs c.2.2):(fZ m c).1=!(decide (c.2.2.1≤(aM m c.1 c.2.1).1.1)&&decide ((aM m c.1 c.2.1).1.2≤c.2.2.2))∧((fZ m c).1=true→(fZ m c).2.1=12):=by
 unfold fZ
 rw [aAc (a:=c.2.2.1) (b:=c.2.2.2) hs.1 hs.2.1 hs.2.2,aV3 (aY7 hb),show(m.1,m.2)=m from rfl,hb,aQc (lD hb) hs]
 cases (decide (c.2.2.1≤(aM m c.1 c.2.1).1.1)&&decide ((aM m c.1 c.2.1).1.2≤c.2.2.2)) with
 | true=>exact⟨rfl,fun h=>by cases h⟩
 | false=>exact⟨rfl,fun _=>rfl⟩
theorem aQe {m:ME} (hv:bN m=0)(c:CT):F15 m c=(bif (fZ m c).1 then(fZ m c).2.1 else 0):=by
 unfold F15
 rw [show bN (m.1,m.2)=0 from hv]
 rfl
theorem aTn {m:ME} {q:List Int} {d:Int} (h:(aA m q d).2=0):(aM m q d).2=0∧aA m q d=((q,d,(aM m q d).1),0):=by
 unfold aA at h ⊢
 cases hb:(((aM (m.1,m.2) q d).2:Int) != 0) with
 | true=>simp only [hb,cond_true] at h;rw [h] at hb;cases hb
 | false=>exact⟨bne_eq_false_iff_eq.1 hb,rfl⟩
theorem aKn {m:ME} {q:List Int} {d:Int} (h:(aM m q d).2=0):(fZ m (q,d,(aM m q d).1)).1=false:=by
 rw [(aQd (c:=(q,d,(aM m q d).1)) h (lD h)).1]
 simp
theorem wF (f:P3→P3)(l:List P3) {i:Nat} (h:i < l.length):(l.map f).getD i default=f (l.getD i default):=by
 rw [eW,eW,List.getElem?_map,List.getElem?_eq_getElem h];rfl
theorem aSp {v:P3} (h:(!wS v 128)=false):bd 128 v:=by
 unfold wS lE at h
 rw [show W (0 - 128)=-128 from rfl] at h
 unfold bd
 by_cases a1:v.1≥-128<;>by_cases a2:v.1≤128<;>by_cases a3:v.2.1≥-128<;>by_cases a4:v.2.1≤128<;>by_cases a5:v.2.2≥-128<;>by_cases a6:v.2.2≤128<;>simp [a1,a2,a3,a4,a5,a6] at h
 omega
theorem aSq {m:ME} {v:P3} (hv:bN m=0)(h:(lC m v).2=0):bN (lC m v).1=0∧aT (lC m v).1=(aT m).map (fP (mvF v) 1)∧(lC m v).1.2.length=m.2.length:=by
 unfold lC at h ⊢
 rw [show((bN (m.1,m.2):Int) != 0)=false from bne_eq_false_iff_eq.2 hv,cond_false] at h ⊢
 cases hr:(!wS v 128) with
 | true=>rw [hr,cond_true] at h;exact absurd h (by decide)
 | false =>
   rw [hr,cond_false] at h
   rw [cond_false]
   have hb:=aSp hr
   rw [aGn] at h ⊢
   simp only at h
   obtain⟨c1,c2⟩:=aKf h
   have e:m.1.map (fun p=>F49 p v)=m.1.map (mvF v 1):=List.map_congr_left fun p hp=>by
     have:=nC hv p hp
     unfold bd at this hb
     unfold F49 F34 mvF
     simp only [Int.one_mul]
     rw [aD (n:=v.1) (by omega) (by omega),aD (n:=v.2.1) (by omega) (by omega),aD (n:=v.2.2) (by omega) (by omega),aD (n:=p.1+v.1) (by omega) (by omega),aD (n:=p.2.1+v.2.1) (by omega) (by omega),aD (n:=p.2.2+v.2.2) (by omega) (by omega)]
   have e2:(((jJ (fun p=>F49 p v) (m.1,m.2).2 (m.1,m.2)).1.1,(jJ (fun p=>F49 p v) (m.1,m.2).2 (m.1,m.2)).1.2):ME)=(m.1.map (mvF v 1),m.2):=by
     show(jJ (fun p=>F49 p v) (m.1,m.2).2 (m.1,m.2)).1=_
     rw [c1]
     exact Prod.ext e rfl
   simp only [e2]
   refine⟨?_,?_,by rw [c1]⟩
   · rw [←e];exact c2
   · unfold aT
     rw [List.map_map]
     refine List.map_congr_left fun c hc=>?_
     obtain⟨i,hi⟩:=List.getElem?_of_mem hc
     have hi:m.2[i]? = some c:=hi
     obtain⟨hlt,_⟩:=List.getElem?_eq_some_iff.1 hi
     obtain⟨h64,_,_,_,hf⟩:=bI hv
     have hfc:=hf (i:Int) (by omega) (by omega)
     rw [bF hi] at hfc
     obtain⟨⟨a1,a2⟩,⟨b1,b2⟩,⟨d1,d2⟩⟩:inF m.1.length c:=iG (m:=m) (by rw [hfc];rfl) h64
     unfold iV
     simp only [Function.comp]
     rw [wF _ _ (by omega),wF _ _ (by omega),wF _ _ (by omega)]
     rfl
theorem aIv {a c:Int×Int} (ha:vs a)(hc:vs c)(h1:a.1≤c.2)(h2:c.1≤a.2):uW a c=(((if(a.1:Int) < c.1 then c.1 else a.1),(if(c.2:Int) < a.2 then c.2 else a.2)),true,0):=by
 unfold uW
 have h3:=ha.2.1;have h4:=hc.2.1
 rw [aQb ha hc,dL (by(repeat' split)<;>omega)]
 rfl
theorem yD {a c:Int×Int} {e f:Int} (h:e=0→f=0→vs a∧vs c∧a.1≤c.2∧c.1≤a.2):yB a e c f=true:=by
 unfold yB
 cases he:((e:Int) != 0) with
 | true=>rfl
 | false =>
   cases hf:((f:Int) != 0) with
   | true=>rfl
   | false =>
     obtain⟨h1,h2,h3,h4⟩:=h (bne_eq_false_iff_eq.1 he) (bne_eq_false_iff_eq.1 hf)
     rw [aIv h1 h2 h3 h4];rfl
theorem aQf {a:Int×Int} (h:vs a):(uW ((-1099511627776),1099511627776) a).1=a:=by
 have h1:=h.1;have h2:=h.2.1;have h3:=h.2.2
 rw [aIv (a:=((-1099511627776),1099511627776)) (by unfold vs;simp only;omega) h (by simp only;omega) (by simp only;omega)]
 simp only
 refine Prod.ext ?_ ?_
 · simp only;split<;>omega
 · simp only;split<;>omega
theorem aQg {m m':ME} {g g':PN→PN} {q q':List Int} {d d':Int} (hg:aCu g)(hg':aCu g')(hp:aT m'=(aT m).map g)(hp':aT m=(aT m').map g')(hv:bN m=0)(hv':bN m'=0)(hl:m'.2.length=m.2.length)
   (h:(aM m q d).2=0) (h':(aM m' q' d').2=0):(aM m q d).1.1≤(aM m' q' d').1.2∧(aM m' q' d').1.1≤(aM m q d).1.2:=by
 obtain⟨a1,a2⟩:=aA8 hg hp hv' hl h
 obtain⟨b1,b2⟩:=aA8 hg' hp' hv hl.symm h'
 have c1:=oT a1 h'
 have c2:=oT b1 h
 omega
theorem aSr (c:P3):yA (yA c)=c:=rfl
theorem aSs (p:P3):lF 1 (lF 1 p)=p:=by unfold lF;simp only [Int.neg_neg]
theorem aQh (m:ME):(((m.1.map (lF 1)).map (lF 1),(m.2.map yA).map yA):ME)=m:=by
 refine Prod.ext ?_ ?_
 · simp only [List.map_map]
   rw [show(lF 1 ∘ lF 1)=id from funext aSs,List.map_id]
 · simp only [List.map_map]
   rw [show(yA ∘ yA)=id from funext aSr,List.map_id]
theorem aV4 {m:ME} {a b:CT} (hv:bN m=0)(ha:(fZ m a).1=false)(hb:(fZ m b).1=false):F20 m a b=(0,0):=by
 unfold F20
 rw [show bN (m.1,m.2)=0 from hv,show(fZ (m.1,m.2) (a.1,a.2.1,a.2.2)).1=false from ha,show(fZ (m.1,m.2) (b.1,b.2.1,b.2.2)).1=false from hb]
 rfl
theorem aY8 {m:ME} {a b:CT} (hv:bN m=0)(ha:(fZ m a).1=false)(hb:(fZ m b).1=false):gD m (a,b)=((uW a.2.2 b.2.2).1,0):=by
 obtain⟨_,a2,_,_,a5⟩:=aGs ha
 obtain⟨_,b2,_,_,b5⟩:=aGs hb
 unfold gD
 rw [show bN (m.1,m.2)=0 from hv,show fZ (m.1,m.2) ((a,b).1.1,(a,b).1.2.1,(a,b).1.2.2)=_ from a5,show fZ (m.1,m.2) ((a,b).2.1,(a,b).2.2.1,(a,b).2.2.2)=_ from b5]
 simp only [bne_self_eq_false,cond_false]
 rw [aQf a2]
theorem aLu:F15 ((wD 1).1.1,(wD 1).1.2) (([1,1,1,1,1,1,1,1]:List (Int)),0,(0,1099511627776))=0:=by
 rw [aP6]
 kernel_rfl
abbrev HT:=List Int×List Int×Int×Int×P3×Int
theorem aV5 (m:ME)(x:HT)(h1:(aM m x.1 x.2.2.1).2=0):eI m x ()=true:=by
 obtain⟨hC,_⟩:=eD h1
 have hv:=hC.v
 have hP:aA (m.1,m.2) x.1 x.2.2.1=((x.1,x.2.2.1,(aM m x.1 x.2.2.1).1),0):=by
   unfold aA
   rw [show(aM ((m.1,m.2).1,(m.1,m.2).2) x.1 x.2.2.1).2=0 from h1]
   rfl
 have eR:sG (m.1,m.2)=((m.1.map (lF 1),m.2.map yA),0):=aLt hv
 have tR:yB (aM m x.1 x.2.2.1).1 0 (aM (m.1.map (lF 1),m.2.map yA) x.2.1 x.2.2.1).1 (aM (m.1.map (lF 1),m.2.map yA) x.2.1 x.2.2.1).2=true:=yD fun _ hf =>
   ⟨lD h1,lD hf,aQg aKm aKm (aGr aEx m) (by have:=aGr aEx (m.1.map (lF 1),m.2.map yA);rw [aQh] at this;exact this) hv (aKk aEx hv) (List.length_map _) h1 hf⟩
 have tS:∀g2:(gO (m.1,m.2) x.2.2.2.2.2).2=0,yB (iU (aM m x.1 x.2.2.1).1 x.2.2.2.2.2).1 (iU (aM m x.1 x.2.2.1).1 x.2.2.2.2.2).2 (aM ((gO (m.1,m.2) x.2.2.2.2.2).1.1,(gO (m.1,m.2) x.2.2.2.2.2).1.2) x.2.1 x.2.2.2.1).1 (aM ((gO (m.1,m.2) x.2.2.2.2.2).1.1,(gO (m.1,m.2) x.2.2.2.2.2).1.2) x.2.1 x.2.2.2.1).2=true:=fun g2=>yD fun _ hf=>by
   obtain⟨k1,k2,hp⟩:=aPx (m:=(m.1,m.2)) g2
   obtain⟨z1,z2⟩:=aYx (k:=x.2.2.2.2.2) ⟨k1,k2⟩ h1
   have hm:=aPu (k:=x.2.2.2.2.2) (m:=(m.1,m.2)) (ml:=((gO (m.1,m.2) x.2.2.2.2.2).1.1,(gO (m.1,m.2) x.2.2.2.2.2).1.2)) ⟨k1,k2⟩ hp h1 hf
   rw [z1]
   exact⟨z2,lD hf,hm.2,hm.1⟩
 simp only [eI]
 rw [hP,eR]
 simp only
 rw [tR]
 cases h2:(((gO (m.1,m.2) x.2.2.2.2.2).2:Int) == 0) with
 | false=>rfl
 | true=>rw [tS (eq_of_beq h2)];rfl
theorem aV6 (m:ME)(x:HT)(h1:(aM m x.1 x.2.2.1).2=0):kJ m x ()=true:=by
 obtain⟨hC,_⟩:=eD h1
 have hv:=hC.v
 have hP:aA (m.1,m.2) x.1 x.2.2.1=((x.1,x.2.2.1,(aM m x.1 x.2.2.1).1),0):=by
   unfold aA
   rw [show(aM ((m.1,m.2).1,(m.1,m.2).2) x.1 x.2.2.1).2=0 from h1]
   rfl
 simp only [kJ]
 rw [hP,aV5 m x h1]
 simp only
 cases h2:(((lC (m.1,m.2) x.2.2.2.2.1).2:Int) == 0) with
 | false=>rfl
 | true =>
   obtain⟨v3,p3,l3⟩:=aSq hv (eq_of_beq h2)
   obtain⟨s1,s2⟩:=aA8 (m':=(lC m x.2.2.2.2.1).1) (aGq (aV0 x.2.2.2.2.1)) p3 v3 l3 h1
   have a:=xY h1;have b:=xY s1
   rw [show yB (aM m x.1 x.2.2.1).1 0 (aM ((lC (m.1,m.2) x.2.2.2.2.1).1.1,(lC (m.1,m.2) x.2.2.2.2.1).1.2) x.1 x.2.2.1).1 (aM ((lC (m.1,m.2) x.2.2.2.2.1).1.1,(lC (m.1,m.2) x.2.2.2.2.1).1.2) x.1 x.2.2.1).2=true from yD fun _ _=>⟨lD h1,lD s1,by rw [←s2];exact b.2.1,by rw [show(aM ((lC (m.1,m.2) x.2.2.2.2.1).1.1,(lC (m.1,m.2) x.2.2.2.2.1).1.2) x.1 x.2.2.1).1.1=_ from s2];exact a.2.1⟩]
   rfl
theorem aE3 (m:ME)(x:HT):F5 m x=true:=by
 unfold F5
 simp only [bM,wE,sH]
 rw [show(wD 1).2=0 from by rw [aP6],aLu]
 cases g1:(((aA (m.1,m.2) x.1 x.2.2.1).2:Int) != 0) with
 | true=>simp
 | false =>
   cases g2:(((aA (m.1,m.2) x.2.1 x.2.2.2.1).2:Int) != 0) with
   | true=>simp
   | false =>
     obtain⟨b1,e1⟩:=aTn (bne_eq_false_iff_eq.1 g1)
     obtain⟨b2,e2⟩:=aTn (bne_eq_false_iff_eq.1 g2)
     have hv:bN (m.1,m.2)=0:=(eD b1).1.v
     have j1:=aKn b1
     have j2:=aKn b2
     have v1:=lD b1;have v2:=lD b2
     have m1:=oT b1 b2;have m2:=oT b2 b1
     rw [e1,e2]
     simp only
     rw [aQe hv,aQe hv,j1,j2,aV4 hv j1 j2,yD (fun _ _=>⟨v1,v2,m1,m2⟩),aY8 hv j1 j2,aV6 m x b1,aIv v1 v2 m1 m2]
     have hj:∀h:(aM (m.1,m.2) x.1 x.2.2.1).1.1 < (aM (m.1,m.2) x.1 x.2.2.1).1.2,F15 (m.1,m.2) (x.1,x.2.2.1,((aM (m.1,m.2) x.1 x.2.2.1).1.1,(W ((aM (m.1,m.2) x.1 x.2.2.1).1.2 - 1))))=12:=fun h=>by
       have q1:=v1.1;have q2:=v1.2.1;have q3:=v1.2.2
       rw [aD (by omega) (by omega),aQe hv]
       obtain⟨k1,k2⟩:=aQd (m:=(m.1,m.2)) (c:=(x.1,x.2.2.1,((aM (m.1,m.2) x.1 x.2.2.1).1.1,(aM (m.1,m.2) x.1 x.2.2.1).1.2 - 1))) b1 (by unfold vs;simp only;omega)
       have k3:(fZ (m.1,m.2) (x.1,x.2.2.1,((aM (m.1,m.2) x.1 x.2.2.1).1.1,(aM (m.1,m.2) x.1 x.2.2.1).1.2 - 1))).1=true:=by
         rw [k1]
         simp only
         rw [cV (Int.le_refl _),dL (by omega)];rfl
       rw [k3,cond_true,k2 k3]
     by_cases hlt:(aM (m.1,m.2) x.1 x.2.2.1).1.1 < (aM (m.1,m.2) x.1 x.2.2.1).1.2
     · rw [hj hlt];simp
     · simp [hlt]
end Go.Proofs.Ytaeagjnpobdglaa
