/-
  Parts of the proofs of the laws: the executor, what functions of the program compute, and that it is what the statements ask. No premise.
-/
import Derived.Test.YtaeagjnpobdglaaVPca3
set_option linter.unusedVariables false
set_option linter.unusedSimpArgs false
set_option maxHeartbeats 4000000
open Int (toNat)
namespace Go.Proofs.Ytaeagjnpobdglaa
open Go.Proofs Go.Aw Go.RowKit
set_option maxRecDepth 100000
theorem fX {a b c:Int} (h:(!lE a b c)=false):b≤a∧a≤c:=by
 unfold lE at h
 by_cases h1:b≤a
 · by_cases h2:a≤c
   · exact⟨h1,h2⟩
   · rw [cV h1,dL h2] at h;simp at h
 · rw [dL h1] at h;simp at h
theorem gK {n:Nat} {f:Zt} (hn:n≤64)(h0:(!lE f.1 0 (W ((n:Int) - 1)))=false)(h1:(!lE f.2.1 0 (W ((n:Int) - 1)))=false)(h2:(!lE f.2.2 0 (W ((n:Int) - 1)))=false):inF n f:=by
 have hw:W ((n:Int) - 1)=(n:Int) - 1:=aD (by omega) (by omega)
 have g0:=fX h0;have g1:=fX h1;have g2:=fX h2
 rw [hw] at g0 g1 g2
 exact⟨⟨g0.1,by omega⟩,⟨g1.1,by omega⟩,g2.1,by omega⟩
def cN (x:Zt):List SV:=[(iv x.1),(iv x.2.1),(iv x.2.2)]
theorem eG (x:Zt):(cN x).length=3:=rfl
def iV (a0:Zm)(a1:Zt):Zt×Zt×Zt :=
 ((a0.1.getD (toNat a1.1) default),(a0.1.getD (toNat a1.2.1) default),(a0.1.getD (toNat a1.2.2) default))
theorem C90 (a0:Zm)(a1:Zt)(l0_1:a0.1.length≤9223372036854775807)(l0_2:a0.2.length≤9223372036854775807)(hf:inF a0.1.length a1):Con Try.prog 90 [(.a [(.s 0 0 a0.1.length 3),(.s 1 0 a0.2.length 3)]),(.a (k3 a1))] [(.live false true (flat cA a0.1)),(.live false true (flat cN a0.2))] (.a (k9 (iV a0 a1))) []:=by
 refine aI Try.func90 (by kernel_rfl) fun cx hcx=>?_
 have e:=Eq.refl (iV a0 a1);conv at e=>rhs;simp only [iV]
 rw [e]
 exact rt [.i 0 3 (by decide),.i (a1.1) (a0.1.length),.L dQ a0.1 a1.1 0 3,.i 1 3 (by decide),.i (a1.2.1) (a0.1.length),.L dQ a0.1 a1.2.1 0 3,.i 2 3 (by decide),.i (a1.2.2) (a0.1.length),.L dQ a0.1 a1.2.2 0 3] [] [] hcx (by kernel_rfl)
def F66 (a0:Zm)(a1:Zt):Int :=
 (bif (!(lE a1.1 0 (W ((a0.1.length:Int) - 1)))) then
  5
 else
  (bif (!(lE a1.2.1 0 (W ((a0.1.length:Int) - 1)))) then
   5
  else
   (bif (!(lE a1.2.2 0 (W ((a0.1.length:Int) - 1)))) then
    5
   else
    (bif ((((F89 (iV (a0.1,a0.2) a1)).1:Int) == 0)&&((((F89 (iV (a0.1,a0.2) a1)).2.1:Int) == 0)&&((((F89 (iV (a0.1,a0.2) a1)).2.2:Int) == 0)&&true))) then
     6
    else
     0))))
theorem C66 (a0:Zm)(a1:Zt)(l0_1:a0.1.length≤9223372036854775807)(l0_2:a0.2.length≤9223372036854775807)(hn:a0.1.length≤64):Con Try.prog 66 [(.a [(.s 0 0 a0.1.length 3),(.s 1 0 a0.2.length 3)]),(.a (k3 a1))] [(.live false true (flat cA a0.1)),(.live false true (flat cN a0.2))] (iv (F66 a0 a1)) []:=by
 refine aI Try.func66 (by kernel_rfl) fun cx hcx=>?_
 try have hfi:=gK hn h0 h1 h2
 let t0:List (St Try.prog):=[.u 200,.T,.i 0 3 (by decide),.c [] (C51 a1.1 0 (W ((a0.1.length:Int) - 1)))]
 cases h0:(!(lE a1.1 0 (W ((a0.1.length:Int) - 1)))) with
 | true =>
  try have hfi:=gK hn h0 h1 h2
  have e:=Eq.refl (F66 a0 a1);conv at e=>rhs;simp only [F66,h0,aK]
  rw [e]
  exact rt (t0++[.d h0]) [] [] hcx (by kernel_rfl)
 | false =>
  try have hfi:=gK hn h0 h1 h2
  let t1:List (St Try.prog):=(t0++[.d h0,.u 0,.T,.i 1 3 (by decide),.c [] (C51 a1.2.1 0 (W ((a0.1.length:Int) - 1)))])
  cases h1:(!(lE a1.2.1 0 (W ((a0.1.length:Int) - 1)))) with
  | true =>
   try have hfi:=gK hn h0 h1 h2
   have e:=Eq.refl (F66 a0 a1);conv at e=>rhs;simp only [F66,h0,h1,aK]
   rw [e]
   exact rt (t1++[.d h1]) [] [] hcx (by kernel_rfl)
  | false =>
   try have hfi:=gK hn h0 h1 h2
   let t2:List (St Try.prog):=(t1++[.d h1,.u 0,.T,.i 2 3 (by decide),.c [] (C51 a1.2.2 0 (W ((a0.1.length:Int) - 1)))])
   cases h2:(!(lE a1.2.2 0 (W ((a0.1.length:Int) - 1)))) with
   | true =>
    try have hfi:=gK hn h0 h1 h2
    have e:=Eq.refl (F66 a0 a1);conv at e=>rhs;simp only [F66,h0,h1,h2,aK]
    rw [e]
    exact rt (t2++[.d h2]) [] [] hcx (by kernel_rfl)
   | false =>
    try have hfi:=gK hn h0 h1 h2
    let t3:List (St Try.prog):=(t2++[.d h2,.u 0,.F,.c [0,1] (C90 (a0.1,a0.2) a1 (by(try simp only [Lt]);omega) (by(try simp only [Lt]);omega) hfi),.c [] (C89 (iV (a0.1,a0.2) a1))])
    cases h3:((((F89 (iV (a0.1,a0.2) a1)).1:Int) == 0)&&((((F89 (iV (a0.1,a0.2) a1)).2.1:Int) == 0)&&((((F89 (iV (a0.1,a0.2) a1)).2.2:Int) == 0)&&true))) with
    | true =>
     try have hfi:=gK hn h0 h1 h2
     have e:=Eq.refl (F66 a0 a1);conv at e=>rhs;simp only [F66,h0,h1,h2,h3,aK]
     rw [e]
     exact rt (t3++[.d h3]) [] [] hcx (by kernel_rfl)
    | false =>
     try have hfi:=gK hn h0 h1 h2
     have e:=Eq.refl (F66 a0 a1);conv at e=>rhs;simp only [F66,h0,h1,h2,h3,aK]
     rw [e]
     exact rt (t3++[.d h3]) [] [] hcx (by kernel_rfl)
theorem iG {m:List Zt×List Zt} {f:Zt} (h:(F66 m f != 0)=false)(hl:m.1.length≤64):inF m.1.length f:=by
 have hw:W ((m.1.length:Int) - 1)=(m.1.length:Int) - 1:=aD (by omega) (by omega)
 unfold F66 at h
 cases h0:(!lE f.1 0 (W ((m.1.length:Int) - 1))) with
 | true=>rw [h0,cond_true] at h;exact absurd h (by decide)
 | false =>
   cases h1:(!lE f.2.1 0 (W ((m.1.length:Int) - 1))) with
   | true=>rw [h0,h1,cond_false,cond_true] at h;exact absurd h (by decide)
   | false =>
     cases h2:(!lE f.2.2 0 (W ((m.1.length:Int) - 1))) with
     | true=>rw [h0,h1,h2,cond_false,cond_false,cond_true] at h;exact absurd h (by decide)
     | false =>
       have g0:=fX h0;have g1:=fX h1;have g2:=fX h2
       rw [hw] at g0 g1 g2
       exact⟨⟨g0.1,by omega⟩,⟨g1.1,by omega⟩,g2.1,by omega⟩
def aQ8 (x:Zt):SV:=.a (cA x)
theorem K39:KeyOK T0 39 aQ8 :=
 ⟨fun x=>by kernel_rfl,fun x y=>⟨(((x.1:Int) == y.1)&&(((x.2.1:Int) == y.2.1)&&(((x.2.2:Int) == y.2.2)&&true))),by kernel_rfl,by
     simp only [aQ8,cA,iv,SV.a.injEq,List.cons.injEq,SV.v.injEq,Value.int.injEq,Bool.and_eq_true,beq_iff_eq,true_and,and_true]
     constructor<;>intro h<;>omega⟩,fun x y h=>by
     simp only [aQ8,cA,iv,SV.a.injEq,List.cons.injEq,SV.v.injEq,Value.int.injEq,true_and,and_true] at h
     simp only [Prod.ext_iff];omega,fun x=>rfl⟩
noncomputable def aNf:Code:=(aF [1,1,0,1] [] (aG Try.f65) []).1
noncomputable def aNg:List K:=(aF [1,1,0,1] [] (aG Try.f65) []).2
def aHz (a0:Zm)(v1:List (Zt×Bool))(v2:Int):LS:=⟨lZ 25 [(3,(.m 2)),(8,(.s 0 0 a0.1.length 3)),(9,(iv (a0.1.length:Int))),(10,(iv v2))],[(.live false true (flat cA a0.1)),(.live false true (flat cN a0.2)),(.map (cU aQ8 vB v1))]⟩
def dV (a0:Zm):(List (Zt×Bool))×Int→((List (Zt×Bool))×Int)⊕(Int)
 | (v1,v2) =>
  (bif (decide ((v2:Int) < (a0.1.length:Int))) then
   (bif (!(wS (a0.1.getD (toNat v2) default) 64)) then
    (.inr 1)
   else
    (bif (aQ v1 (a0.1.getD (toNat v2) default) false) then
     (.inr 1)
    else
     (.inl ((bX v1 (a0.1.getD (toNat v2) default) true),(v2+1)))))
  else
   (.inr 0))
theorem aXf (a0:Zm)(l0_1:a0.1.length≤9223372036854775807)(l0_2:a0.2.length≤9223372036854775807) {cx:Cx} (hcx:cx.base=2):∀(n:Nat)(v1:List (Zt×Bool))(v2:Int),0≤v2→toNat ((a0.1.length:Int) - v2) < n→Aw.Good Try.prog none 9 (bodyPost Try.prog Try.f65 (RR cx (iv (aB (dV a0) n (v1,v2))) [] [])) cx [] (.l aNf n::aNg) (aHz a0 v1 v2):=by
 intro n
 induction n with
 | zero=>intro v1 v2 hi hn;exact absurd hn (nM _)
 | succ n ih =>
   intro v1 v2 hi hn
   refine aL ?_
   cases h0:(decide ((v2:Int) < (a0.1.length:Int))) with
   | true =>
    have q0:=eK h0
    let t1:List (St Try.prog):=[.d h0,.i v2 (a0.1.length),.L dQ a0.1 v2 0 3,.c [] (C47 (a0.1.getD (toNat v2) default) 64)]
    cases h1:(!(wS (a0.1.getD (toNat v2) default) 64)) with
    | true =>
     have e:=Eq.refl (dV a0 (v1,v2));conv at e=>rhs;simp only [dV,h0,h1,aK]
     rw [aH,e]
     exact rt (t1++[.d h1]) [] [] hcx (by kernel_rfl)
    | false =>
     let t2:List (St Try.prog):=(t1++[.d h1,.mG K39 vB v1 (a0.1.getD (toNat v2) default) false])
     cases h2:(aQ v1 (a0.1.getD (toNat v2) default) false) with
     | true =>
      have e:=Eq.refl (dV a0 (v1,v2));conv at e=>rhs;simp only [dV,h0,h1,h2,aK]
      rw [aH,e]
      exact rt (t2++[.d h2]) [] [] hcx (by kernel_rfl)
     | false =>
      have e:=Eq.refl (dV a0 (v1,v2));conv at e=>rhs;simp only [dV,h0,h1,h2,aK]
      rw [aC e]
      refine ba (t2++[.d h2,.mP K39 vB v1 (a0.1.getD (toNat v2) default) true]) [] [3,8,9,10] [2] hcx (m:=n) aNf (aNg) (aHz a0 (bX v1 (a0.1.getD (toNat v2) default) true) (W (v2+1))) (by kernel_rfl) ?_
      have z0:(W (v2+1))=(v2+1):=aD (by omega) (by omega)
      rw [z0]
      exact ih (bX v1 (a0.1.getD (toNat v2) default) true) (v2+1) (by(try simp only [Ls]);omega) (by(try simp only [Ls]);omega)
   | false =>
    have q0:=fK h0
    have e:=Eq.refl (dV a0 (v1,v2));conv at e=>rhs;simp only [dV,h0,aK]
    rw [aH,e]
    exact rt [.d h0] [] [] hcx (by kernel_rfl)
def F65 (a0:Zm):Int :=
 (aB (dV a0) (toNat ((a0.1.length:Int) - 0)+1) (([]:List (Zt×Bool)),0))
theorem C65 (a0:Zm)(l0_1:a0.1.length≤9223372036854775807)(l0_2:a0.2.length≤9223372036854775807):Con Try.prog 65 [(.a [(.s 0 0 a0.1.length 3),(.s 1 0 a0.2.length 3)])] [(.live false true (flat cA a0.1)),(.live false true (flat cN a0.2))] (iv (F65 a0)) []:=by
 refine aI Try.func65 (by kernel_rfl) fun cx hcx=>?_
 have e:=Eq.refl (F65 a0);conv at e=>rhs;simp only [F65]
 rw [e]
 refine en [] [] [3,8,9,10] [3] hcx aNf (aNg) (aHz a0 ([]:List (Zt×Bool)) 0) (toNat ((a0.1.length:Int) - 0)+1) (by kernel_rfl) ?_
 exact aXf a0 l0_1 l0_2 hcx (toNat ((a0.1.length:Int) - 0)+1) ([]:List (Zt×Bool)) 0 (by(try simp only [Ls]);omega) (by(try simp only [Ls]);omega)
def bG (a0:Zt):(Int×Int)×(Int×Int)×Int×Int :=
 ((a0.1,a0.2.1),a0.2,(a0.2.2,a0.1))
theorem C37 (a0:Zt):Con Try.prog 37 [(.a (k3 a0))] [] (.a [(iv (bG a0).1.1),(iv (bG a0).1.2),(iv (bG a0).2.1.1),(iv (bG a0).2.1.2),(iv (bG a0).2.2.1),(iv (bG a0).2.2.2)]) []:=by
 refine aI Try.func37 (by kernel_rfl) fun cx hcx=>?_
 have e:=Eq.refl (bG a0);conv at e=>rhs;simp only [bG]
 rw [e]
 exact rt [.i 0 3 (by decide),.i 1 3 (by decide),.i 1 3 (by decide),.i 2 3 (by decide),.i 2 3 (by decide),.i 0 3 (by decide)] [] [] hcx (by kernel_rfl)
def c80 (x:Int×Int):List SV:=[(iv x.1),(iv x.2)]
def aBs (x:Int×Int):SV:=.a (c80 x)
theorem K80:KeyOK T0 80 aBs :=
 ⟨fun x=>by kernel_rfl,fun x y=>⟨(((x.1:Int) == y.1)&&(((x.2:Int) == y.2)&&true)),by kernel_rfl,by
     simp only [aBs,c80,iv,SV.a.injEq,List.cons.injEq,SV.v.injEq,Value.int.injEq,Bool.and_eq_true,beq_iff_eq,true_and,and_true]
     constructor<;>intro h<;>omega⟩,fun x y h=>by
     simp only [aBs,c80,iv,SV.a.injEq,List.cons.injEq,SV.v.injEq,Value.int.injEq,true_and,and_true] at h
     simp only [Prod.ext_iff];omega,fun x=>rfl⟩
noncomputable def aNh:Code:=(aF [1,1,0,1] [] (aG Try.f67) []).1
noncomputable def aNi:List K:=(aF [1,1,0,1] [] (aG Try.f67) []).2
def aH0 (a0:Zm)(v1:List ((Int×Int)×Int))(v2:Int):LS:=⟨lZ 30 [(3,(.m 2)),(10,(.s 1 0 a0.2.length 3)),(11,(iv (a0.2.length:Int))),(12,(iv v2))],[(.live false true (flat cA a0.1)),(.live false true (flat cN a0.2)),(.map (cU aBs iv v1))]⟩
def wX (a0:Zm):(List ((Int×Int)×Int))×Int→((List ((Int×Int)×Int))×Int)⊕(List ((Int×Int)×Int))
 | (v1,v2) =>
  (bif (decide ((v2:Int) < (a0.2.length:Int))) then
   (.inl ((bX (bX (bX v1 ((bG (a0.2.getD (toNat v2) default)).1) (W ((aQ v1 ((bG (a0.2.getD (toNat v2) default)).1) 0)+1))) ((bG (a0.2.getD (toNat v2) default)).2.1) (W ((aQ (bX v1 ((bG (a0.2.getD (toNat v2) default)).1) (W ((aQ v1 ((bG (a0.2.getD (toNat v2) default)).1) 0)+1))) ((bG (a0.2.getD (toNat v2) default)).2.1) 0)+1))) ((bG (a0.2.getD (toNat v2) default)).2.2) (W ((aQ (bX (bX v1 ((bG (a0.2.getD (toNat v2) default)).1) (W ((aQ v1 ((bG (a0.2.getD (toNat v2) default)).1) 0)+1))) ((bG (a0.2.getD (toNat v2) default)).2.1) (W ((aQ (bX v1 ((bG (a0.2.getD (toNat v2) default)).1) (W ((aQ v1 ((bG (a0.2.getD (toNat v2) default)).1) 0)+1))) ((bG (a0.2.getD (toNat v2) default)).2.1) 0)+1))) ((bG (a0.2.getD (toNat v2) default)).2.2) 0)+1))),(v2+1)))
  else
   (.inr v1))
theorem aXg (a0:Zm)(l0_1:a0.1.length≤9223372036854775807)(l0_2:a0.2.length≤9223372036854775807) {cx:Cx} (hcx:cx.base=2):∀(n:Nat)(v1:List ((Int×Int)×Int))(v2:Int),0≤v2→toNat ((a0.2.length:Int) - v2) < n→Aw.Good Try.prog none 9 (bodyPost Try.prog Try.f67 (RR cx (.m 2) [(.map (cU aBs iv (aB (wX a0) n (v1,v2))))] [])) cx [] (.l aNh n::aNi) (aH0 a0 v1 v2):=by
 intro n
 induction n with
 | zero=>intro v1 v2 hi hn;exact absurd hn (nM _)
 | succ n ih =>
   intro v1 v2 hi hn
   refine aL ?_
   cases h0:(decide ((v2:Int) < (a0.2.length:Int))) with
   | true =>
    have q0:=eK h0
    have e:=Eq.refl (wX a0 (v1,v2));conv at e=>rhs;simp only [wX,h0,aK]
    rw [aC e]
    refine ba [.d h0,.i v2 (a0.2.length),.L eG a0.2 v2 0 3,.c [] (C37 (a0.2.getD (toNat v2) default)),.u 200,.T,.i 0 3 (by decide),.mGa K80 iv v1 ((bG (a0.2.getD (toNat v2) default)).1) 0 2,.mE K80 iv v1 ((bG (a0.2.getD (toNat v2) default)).1) 0,.mS K80 iv v1 ((bG (a0.2.getD (toNat v2) default)).1) 0 (W ((aQ v1 ((bG (a0.2.getD (toNat v2) default)).1) 0)+1)),.mR aBs iv v1 ((bG (a0.2.getD (toNat v2) default)).1) 0,.u 0,.T,.i 1 3 (by decide),.mGa K80 iv (bX v1 ((bG (a0.2.getD (toNat v2) default)).1) (W ((aQ v1 ((bG (a0.2.getD (toNat v2) default)).1) 0)+1))) ((bG (a0.2.getD (toNat v2) default)).2.1) 0 2,.mE K80 iv (bX v1 ((bG (a0.2.getD (toNat v2) default)).1) (W ((aQ v1 ((bG (a0.2.getD (toNat v2) default)).1) 0)+1))) ((bG (a0.2.getD (toNat v2) default)).2.1) 0,.mS K80 iv (bX v1 ((bG (a0.2.getD (toNat v2) default)).1) (W ((aQ v1 ((bG (a0.2.getD (toNat v2) default)).1) 0)+1))) ((bG (a0.2.getD (toNat v2) default)).2.1) 0 (W ((aQ (bX v1 ((bG (a0.2.getD (toNat v2) default)).1) (W ((aQ v1 ((bG (a0.2.getD (toNat v2) default)).1) 0)+1))) ((bG (a0.2.getD (toNat v2) default)).2.1) 0)+1)),.mR aBs iv (bX v1 ((bG (a0.2.getD (toNat v2) default)).1) (W ((aQ v1 ((bG (a0.2.getD (toNat v2) default)).1) 0)+1))) ((bG (a0.2.getD (toNat v2) default)).2.1) 0,.u 0,.T,.i 2 3 (by decide),.mGa K80 iv (bX (bX v1 ((bG (a0.2.getD (toNat v2) default)).1) (W ((aQ v1 ((bG (a0.2.getD (toNat v2) default)).1) 0)+1))) ((bG (a0.2.getD (toNat v2) default)).2.1) (W ((aQ (bX v1 ((bG (a0.2.getD (toNat v2) default)).1) (W ((aQ v1 ((bG (a0.2.getD (toNat v2) default)).1) 0)+1))) ((bG (a0.2.getD (toNat v2) default)).2.1) 0)+1))) ((bG (a0.2.getD (toNat v2) default)).2.2) 0 2,.mE K80 iv (bX (bX v1 ((bG (a0.2.getD (toNat v2) default)).1) (W ((aQ v1 ((bG (a0.2.getD (toNat v2) default)).1) 0)+1))) ((bG (a0.2.getD (toNat v2) default)).2.1) (W ((aQ (bX v1 ((bG (a0.2.getD (toNat v2) default)).1) (W ((aQ v1 ((bG (a0.2.getD (toNat v2) default)).1) 0)+1))) ((bG (a0.2.getD (toNat v2) default)).2.1) 0)+1))) ((bG (a0.2.getD (toNat v2) default)).2.2) 0,.mS K80 iv (bX (bX v1 ((bG (a0.2.getD (toNat v2) default)).1) (W ((aQ v1 ((bG (a0.2.getD (toNat v2) default)).1) 0)+1))) ((bG (a0.2.getD (toNat v2) default)).2.1) (W ((aQ (bX v1 ((bG (a0.2.getD (toNat v2) default)).1) (W ((aQ v1 ((bG (a0.2.getD (toNat v2) default)).1) 0)+1))) ((bG (a0.2.getD (toNat v2) default)).2.1) 0)+1))) ((bG (a0.2.getD (toNat v2) default)).2.2) 0 (W ((aQ (bX (bX v1 ((bG (a0.2.getD (toNat v2) default)).1) (W ((aQ v1 ((bG (a0.2.getD (toNat v2) default)).1) 0)+1))) ((bG (a0.2.getD (toNat v2) default)).2.1) (W ((aQ (bX v1 ((bG (a0.2.getD (toNat v2) default)).1) (W ((aQ v1 ((bG (a0.2.getD (toNat v2) default)).1) 0)+1))) ((bG (a0.2.getD (toNat v2) default)).2.1) 0)+1))) ((bG (a0.2.getD (toNat v2) default)).2.2) 0)+1)),.mR aBs iv (bX (bX v1 ((bG (a0.2.getD (toNat v2) default)).1) (W ((aQ v1 ((bG (a0.2.getD (toNat v2) default)).1) 0)+1))) ((bG (a0.2.getD (toNat v2) default)).2.1) (W ((aQ (bX v1 ((bG (a0.2.getD (toNat v2) default)).1) (W ((aQ v1 ((bG (a0.2.getD (toNat v2) default)).1) 0)+1))) ((bG (a0.2.getD (toNat v2) default)).2.1) 0)+1))) ((bG (a0.2.getD (toNat v2) default)).2.2) 0,.u 0,.F] [] [3,10,11,12] [2] hcx (m:=n) aNh (aNi) (aH0 a0 (bX (bX (bX v1 ((bG (a0.2.getD (toNat v2) default)).1) (W ((aQ v1 ((bG (a0.2.getD (toNat v2) default)).1) 0)+1))) ((bG (a0.2.getD (toNat v2) default)).2.1) (W ((aQ (bX v1 ((bG (a0.2.getD (toNat v2) default)).1) (W ((aQ v1 ((bG (a0.2.getD (toNat v2) default)).1) 0)+1))) ((bG (a0.2.getD (toNat v2) default)).2.1) 0)+1))) ((bG (a0.2.getD (toNat v2) default)).2.2) (W ((aQ (bX (bX v1 ((bG (a0.2.getD (toNat v2) default)).1) (W ((aQ v1 ((bG (a0.2.getD (toNat v2) default)).1) 0)+1))) ((bG (a0.2.getD (toNat v2) default)).2.1) (W ((aQ (bX v1 ((bG (a0.2.getD (toNat v2) default)).1) (W ((aQ v1 ((bG (a0.2.getD (toNat v2) default)).1) 0)+1))) ((bG (a0.2.getD (toNat v2) default)).2.1) 0)+1))) ((bG (a0.2.getD (toNat v2) default)).2.2) 0)+1))) (W (v2+1))) (by kernel_rfl) ?_
    have z0:(W (v2+1))=(v2+1):=aD (by omega) (by omega)
    rw [z0]
    exact ih (bX (bX (bX v1 ((bG (a0.2.getD (toNat v2) default)).1) (W ((aQ v1 ((bG (a0.2.getD (toNat v2) default)).1) 0)+1))) ((bG (a0.2.getD (toNat v2) default)).2.1) (W ((aQ (bX v1 ((bG (a0.2.getD (toNat v2) default)).1) (W ((aQ v1 ((bG (a0.2.getD (toNat v2) default)).1) 0)+1))) ((bG (a0.2.getD (toNat v2) default)).2.1) 0)+1))) ((bG (a0.2.getD (toNat v2) default)).2.2) (W ((aQ (bX (bX v1 ((bG (a0.2.getD (toNat v2) default)).1) (W ((aQ v1 ((bG (a0.2.getD (toNat v2) default)).1) 0)+1))) ((bG (a0.2.getD (toNat v2) default)).2.1) (W ((aQ (bX v1 ((bG (a0.2.getD (toNat v2) default)).1) (W ((aQ v1 ((bG (a0.2.getD (toNat v2) default)).1) 0)+1))) ((bG (a0.2.getD (toNat v2) default)).2.1) 0)+1))) ((bG (a0.2.getD (toNat v2) default)).2.2) 0)+1))) (v2+1) (by(try simp only [Ls]);omega) (by(try simp only [Ls]);omega)
   | false =>
    have q0:=fK h0
    have e:=Eq.refl (wX a0 (v1,v2));conv at e=>rhs;simp only [wX,h0,aK]
    rw [aH,e]
    exact rt [.d h0] [] [2] hcx (by kernel_rfl)
def wY (a0:Zm):List ((Int×Int)×Int) :=
 (aB (wX a0) (toNat ((a0.2.length:Int) - 0)+1) (([]:List ((Int×Int)×Int)),0))
theorem C67 (a0:Zm)(l0_1:a0.1.length≤9223372036854775807)(l0_2:a0.2.length≤9223372036854775807):Con Try.prog 67 [(.a [(.s 0 0 a0.1.length 3),(.s 1 0 a0.2.length 3)])] [(.live false true (flat cA a0.1)),(.live false true (flat cN a0.2))] (.m 2) [(.map (cU aBs iv (wY a0)))]:=by
 refine aI Try.func67 (by kernel_rfl) fun cx hcx=>?_
 have e:=Eq.refl (wY a0);conv at e=>rhs;simp only [wY]
 rw [e]
 refine en [] [] [3,10,11,12] [3] hcx aNh (aNi) (aH0 a0 ([]:List ((Int×Int)×Int)) 0) (toNat ((a0.2.length:Int) - 0)+1) (by kernel_rfl) ?_
 exact aXg a0 l0_1 l0_2 hcx (toNat ((a0.2.length:Int) - 0)+1) ([]:List ((Int×Int)×Int)) 0 (by(try simp only [Ls]);omega) (by(try simp only [Ls]);omega)
def qI (x:Zt×Zt×Zt):List SV:=[(iv x.1.1),(iv x.1.2.1),(iv x.1.2.2),(iv x.2.1.1),(iv x.2.1.2.1),(iv x.2.1.2.2),(iv x.2.2.1),(iv x.2.2.2.1),(iv x.2.2.2.2)]
theorem lP (x:Zt×Zt×Zt):(qI x).length=9:=rfl
noncomputable def aNj:Code:=(aF [1,1,0,1] [] (aG Try.f91) []).1
noncomputable def aNk:List K:=(aF [1,1,0,1] [] (aG Try.f91) []).2
def aH1 (a0:Zm)(v2c:List SV)(v2n:Nat)(v3:Int):LS:=⟨lZ 21 [(1,(.p 2 0)),(3,(.s 3 0 v2n 9)),(7,(.s 1 0 a0.2.length 3)),(8,(iv (a0.2.length:Int))),(9,(iv v3))],[(.live false true (flat cA a0.1)),(.live false true (flat cN a0.2)),(.live true false [(.s 0 0 a0.1.length 3),(.s 1 0 a0.2.length 3)]),(.live true true v2c)]⟩
def tN (a0:Zm):(List (Zt×Zt×Zt))×Int→((List (Zt×Zt×Zt))×Int)⊕(List (Zt×Zt×Zt))
 | (v2,v3) =>
  (bif (decide ((v3:Int) < (a0.2.length:Int))) then
   (.inl ((v2++[(iV (a0.1,a0.2) (a0.2.getD (toNat v3) default))]),(v3+1)))
  else
   (.inr v2))
theorem aXh (a0:Zm)(l0_1:a0.1.length≤9223372036854775807)(l0_2:a0.2.length≤9223372036854775807)(hv:tM a0 a0.2.length)(hn:a0.2.length≤96) {cx:Cx} (hcx:cx.base=2):∀(n:Nat)(v2:List (Zt×Zt×Zt))(v3:Int),(0≤v3)∧(v2.length=toNat v3)∧(v3≤a0.2.length)→toNat ((a0.2.length:Int) - v3) < n→Aw.Good Try.prog none 9 (bodyPost Try.prog Try.f91 (RR cx (.s 2 0 (aB (tN a0) n (v2,v3)).length 9) [(.live true true (flat qI (aB (tN a0) n (v2,v3))))] [])) cx [] (.l aNj n::aNk) (aH1 a0 (flat qI v2) v2.length v3):=by
 intro n
 induction n with
 | zero=>intro v2 v3 hi hn;exact absurd hn (nM _)
 | succ n ih =>
   intro v2 v3 hi hn
   refine aL ?_
   cases h0:(decide ((v3:Int) < (a0.2.length:Int))) with
   | true =>
    have q0:=eK h0
    have e:=Eq.refl (tN a0 (v2,v3));conv at e=>rhs;simp only [tN,h0,aK]
    rw [aC e]
    refine ba [.d h0,.i v3 (a0.2.length),.L eG a0.2 v3 0 3,.c [0,1] (C90 (a0.1,a0.2) (a0.2.getD (toNat v3) default) (by(try simp only [Lt]);omega) (by(try simp only [Lt]);omega) (aNe hv (by omega) (by omega))),.p (show((flat qI v2).length=v2.length*9∧v2.length+1≤2 ^ 40∧(v2.length+1)*72≤2 ^ 47) from gV lP (by omega) (by omega))] [] [1,3,7,8,9] [2,6] hcx (m:=n) aNj (aNk) (aH1 a0 (flat qI v2++(k9 (iV (a0.1,a0.2) (a0.2.getD (toNat v3) default)))) (v2.length+1) (W (v3+1))) (by kernel_rfl) ?_
    have z0:(W (v3+1))=(v3+1):=aD (by omega) (by omega)
    have z1:(flat qI v2++(k9 (iV (a0.1,a0.2) (a0.2.getD (toNat v3) default))))=(flat qI (v2++[(iV (a0.1,a0.2) (a0.2.getD (toNat v3) default))])):=(bV (c:=qI) (l:=v2) (m:=[(iV (a0.1,a0.2) (a0.2.getD (toNat v3) default))])).symm
    have z2:(v2.length+1)=(v2++[(iV (a0.1,a0.2) (a0.2.getD (toNat v3) default))]).length:=fE v2 [(iV (a0.1,a0.2) (a0.2.getD (toNat v3) default))] rfl
    rw [z0,z1,z2]
    exact ih (v2++[(iV (a0.1,a0.2) (a0.2.getD (toNat v3) default))]) (v3+1) (by refine⟨?_,?_,?_⟩<;>(try simp only [Ls])<;>first | omega | assumption | simp) (by(try simp only [Ls]);omega)
   | false =>
    have q0:=fK h0
    have e:=Eq.refl (tN a0 (v2,v3));conv at e=>rhs;simp only [tN,h0,aK]
    rw [aH,e]
    exact rt [.d h0] [] [3] hcx (by kernel_rfl)
def pI (a0:Zm):List (Zt×Zt×Zt) :=
 (aB (tN a0) (toNat ((a0.2.length:Int) - 0)+1) (([]:List (Zt×Zt×Zt)),0))
theorem C91 (a0:Zm)(l0_1:a0.1.length≤9223372036854775807)(l0_2:a0.2.length≤9223372036854775807)(hv:tM a0 a0.2.length)(hn:a0.2.length≤96):Con Try.prog 91 [(.a [(.s 0 0 a0.1.length 3),(.s 1 0 a0.2.length 3)])] [(.live false true (flat cA a0.1)),(.live false true (flat cN a0.2))] (.s 2 0 (pI a0).length 9) [(.live true true (flat qI (pI a0)))]:=by
 refine aI Try.func91 (by kernel_rfl) fun cx hcx=>?_
 have e:=Eq.refl (pI a0);conv at e=>rhs;simp only [pI]
 rw [e]
 refine en [] [.slot 3 9] [1,3,7,8,9] [2,3] hcx aNj (aNk) (aH1 a0 (flat qI ([]:List (Zt×Zt×Zt))) 0 0) (toNat ((a0.2.length:Int) - 0)+1) (by kernel_rfl) ?_
 exact aXh a0 l0_1 l0_2 hv hn hcx (toNat ((a0.2.length:Int) - 0)+1) ([]:List (Zt×Zt×Zt)) 0 (by refine⟨?_,?_,?_⟩<;>(try simp only [Ls])<;>first | omega | assumption | simp) (by(try simp only [Ls]);omega)
theorem aDw (m:List Zt×List Zt):pI m=m.2.map (iV m):=by
 unfold pI
 rw [show(toNat ((m.2.length:Int) - 0)+1)=m.2.length+1 by omega]
 rw [bD (fun v i=>(v,i)) (fun v c=>.inl (v++[iV m c])) (fun v=>v) (L:=m.2) (fun _ _=>True) ?_ (fun _ _ _ _ _ _ _=>trivial) ?_ (by omega) trivial]
 · have key:∀(l:List Zt) (v:List (Zt×Zt×Zt)),kG (σ:=List (Zt×Zt×Zt)) (R:=List (Zt×Zt×Zt)) (fun v c=>.inl (v++[iV m c])) l v=.inl (v++l.map (iV m)):=by
     intro l
     induction l with
     | nil=>intro v;simp [kG]
     | cons c l ih=>intro v;simp only [kG];rw [ih];simp
   rw [key];simp [aBr]
 · intro i c hc v _
   obtain⟨hlt,hce⟩:=List.getElem?_eq_some_iff.1 hc
   simp only [tN]
   rw [cV (by omega),cond_true,yE,eW,hc]
   rfl
 · intro v _
   simp only [tN]
   rw [dL (by omega),cond_false]
theorem aQ9 (m:List Zt×List Zt):(pI m).length=m.2.length:=by rw [aDw,List.length_map]
def aNl (a0:Zt)(a1:Zt):Int :=
 (W ((W ((W (a0.1*a1.1))+(W (a0.2.1*a1.2.1))))+(W (a0.2.2*a1.2.2))))
theorem aZx (a0:Zt)(a1:Zt):Con Try.prog 113 [(.a (k3 a0)),(.a (k3 a1))] [] (iv (aNl a0 a1)) []:=by
 refine aI Try.func113 (by kernel_rfl) fun cx hcx=>?_
 have e:=Eq.refl (aNl a0 a1);conv at e=>rhs;simp only [aNl]
 rw [e]
 exact rt [] [] [] hcx (by kernel_rfl)
def F92 (a0:Zt×Zt×Zt):Int :=
 (aNl a0.1 (aHk a0.2.1 a0.2.2))
theorem C92 (a0:Zt×Zt×Zt):Con Try.prog 92 [(.a (k9 a0))] [] (iv (F92 a0)) []:=by
 refine aI Try.func92 (by kernel_rfl) fun cx hcx=>?_
 have e:=Eq.refl (F92 a0);conv at e=>rhs;simp only [F92]
 rw [e]
 exact rt [.c [] (aWi a0.2.1 a0.2.2),.c [] (aZx a0.1 (aHk a0.2.1 a0.2.2))] [] [] hcx (by kernel_rfl)
noncomputable def aNm:Code:=(aF [1,1,0,1] [] (aG Try.f68) []).1
noncomputable def aNn:List K:=(aF [1,1,0,1] [] (aG Try.f68) []).2
def aH2 (a0:Zm)(v1 v2:Int):LS:=⟨lZ 19 [(3,(iv v1)),(7,(.s 2 0 (pI (a0.1,a0.2)).length 9)),(8,(iv (((pI (a0.1,a0.2)).length:Nat):Int))),(9,(iv v2))],[(.live false true (flat cA a0.1)),(.live false true (flat cN a0.2)),(.live true true (flat qI (pI (a0.1,a0.2))))]⟩
def wZ (a0:Zm):Int×Int→(Int×Int)⊕(Int)
 | (v1,v2) =>
  (bif (decide ((v2:Int) < (((pI (a0.1,a0.2)).length:Nat):Int))) then
   (.inl ((W (v1+(F92 ((pI (a0.1,a0.2)).getD (toNat v2) default)))),(v2+1)))
  else
   (.inr v1))
theorem aXi (a0:Zm)(l0_1:a0.1.length≤9223372036854775807)(l0_2:a0.2.length≤9223372036854775807)(hv:tM a0 a0.2.length)(hn:a0.2.length≤96) {cx:Cx} (hcx:cx.base=2):∀(n:Nat)(v1 v2:Int),0≤v2→toNat ((((pI (a0.1,a0.2)).length:Nat):Int) - v2) < n→Aw.Good Try.prog none 9 (bodyPost Try.prog Try.f68 (RR cx (iv (aB (wZ a0) n (v1,v2))) [] [])) cx [] (.l aNm n::aNn) (aH2 a0 v1 v2):=by
 intro n
 induction n with
 | zero=>intro v1 v2 hi hn;exact absurd hn (nM _)
 | succ n ih =>
   intro v1 v2 hi hn
   refine aL ?_
   have hpl:(pI (a0.1,a0.2)).length=a0.2.length:=aQ9 a0
   cases h0:(decide ((v2:Int) < (((pI (a0.1,a0.2)).length:Nat):Int))) with
   | true =>
    have q0:=eK h0
    have e:=Eq.refl (wZ a0 (v1,v2));conv at e=>rhs;simp only [wZ,h0,aK]
    rw [aC e]
    refine ba [.d h0,.i v2 ((pI (a0.1,a0.2)).length),.L lP (pI (a0.1,a0.2)) v2 0 9,.c [] (C92 ((pI (a0.1,a0.2)).getD (toNat v2) default))] [] [3,7,8,9] [2] hcx (m:=n) aNm (aNn) (aH2 a0 (W (v1+(F92 ((pI (a0.1,a0.2)).getD (toNat v2) default)))) (W (v2+1))) (by kernel_rfl) ?_
    have z0:(W (v2+1))=(v2+1):=aD (by omega) (by omega)
    rw [z0]
    exact ih (W (v1+(F92 ((pI (a0.1,a0.2)).getD (toNat v2) default)))) (v2+1) (by(try simp only [Ls]);omega) (by(try simp only [Ls]);omega)
   | false =>
    have q0:=fK h0
    have e:=Eq.refl (wZ a0 (v1,v2));conv at e=>rhs;simp only [wZ,h0,aK]
    rw [aH,e]
    exact rt [.d h0] [] [] hcx (by kernel_rfl)
def F68 (a0:Zm):Int :=
 (aB (wZ a0) (toNat ((((pI (a0.1,a0.2)).length:Nat):Int) - 0)+1) (0,0))
theorem C68 (a0:Zm)(l0_1:a0.1.length≤9223372036854775807)(l0_2:a0.2.length≤9223372036854775807)(hv:tM a0 a0.2.length)(hn:a0.2.length≤96):Con Try.prog 68 [(.a [(.s 0 0 a0.1.length 3),(.s 1 0 a0.2.length 3)])] [(.live false true (flat cA a0.1)),(.live false true (flat cN a0.2))] (iv (F68 a0)) []:=by
 refine aI Try.func68 (by kernel_rfl) fun cx hcx=>?_
 have e:=Eq.refl (F68 a0);conv at e=>rhs;simp only [F68]
 rw [e]
 refine en [.c [0,1] (C91 (a0.1,a0.2) (by(try simp only [Lt]);omega) (by(try simp only [Lt]);omega) hv hn)] [] [3,7,8,9] [3] hcx aNm (aNn) (aH2 a0 0 0) (toNat ((((pI (a0.1,a0.2)).length:Nat):Int) - 0)+1) (by kernel_rfl) ?_
 exact aXi a0 l0_1 l0_2 hv hn hcx (toNat ((((pI (a0.1,a0.2)).length:Nat):Int) - 0)+1) 0 0 (by(try simp only [Ls]);omega) (by(try simp only [Ls]);omega)
def c4 (x:Bool):List SV:=[(.v (.bool x))]
theorem kY (x:Bool):(c4 x).length=1:=rfl
def F36 (a0:Int×Int):Int×Int :=
 (a0.2,a0.1)
theorem C36 (a0:Int×Int):Con Try.prog 36 [(.a [(iv a0.1),(iv a0.2)])] [] (.a (k2 (F36 a0))) []:=by
 refine aI Try.func36 (by kernel_rfl) fun cx hcx=>?_
 have e:=Eq.refl (F36 a0);conv at e=>rhs;simp only [F36]
 rw [e]
 exact rt [.i 1 2 (by decide),.i 0 2 (by decide)] [] [] hcx (by kernel_rfl)
noncomputable def aNo:Code:=(aF [1,1,1,1,1,1,1,0,1] [] (aG Try.f31) []).1
noncomputable def aNp:List K:=(aF [1,1,1,1,1,1,1,0,1] [] (aG Try.f31) []).2
def aH3 (a0:Zm)(v8c:List SV)(v8n:Nat)(v9 v10:Int):LS:=⟨lZ 98 [(1,(.p 2 0)),(86,(.s 3 0 v8n 1)),(87,(iv v9)),(88,(iv v10))],[(.live false true (flat cA a0.1)),(.live false true (flat cN a0.2)),(.live true false [(.s 0 0 a0.1.length 3),(.s 1 0 a0.2.length 3)]),(.live true true v8c)]⟩
def iW (a0:Zm):List (Bool)×Int×Int→(List (Bool)×Int×Int)⊕(Int)
 | (v8,v9,v10) =>
  (bif (decide ((v10:Int) < v9)) then
   (bif (!(v8.getD (toNat v10) default)) then
    (.inr 5)
   else
    (.inl (v8,v9,(v10+1))))
  else
   (bif (decide (((F68 (a0.1,a0.2)):Int)≤0)) then
    (.inr 8)
   else
    (.inr 0)))
noncomputable def aNq:Code:=(aF [1,1,1,1,1,1,0,1] [] (aG Try.f31) []).1
noncomputable def aNr:List K:=(aF [1,1,1,1,1,1,0,1] [] (aG Try.f31) []).2
def aH4 (a0:Zm)(v4c:List SV)(v4n:Nat)(v5:Int):LS:=⟨lZ 98 [(1,(.p 2 0)),(4,(.s 3 0 v4n 1)),(10,(.m 4)),(62,(.s 1 0 a0.2.length 3)),(63,(iv (a0.2.length:Int))),(64,(iv v5))],[(.live false true (flat cA a0.1)),(.live false true (flat cN a0.2)),(.live true false [(.s 0 0 a0.1.length 3),(.s 1 0 a0.2.length 3)]),(.live true true v4c),(.map (cU aBs iv (wY (a0.1,a0.2))))]⟩
def fO (a0:Zm):List (Bool)×Int→(List (Bool)×Int)⊕(Int)
 | (v4,v5) =>
  (bif (decide ((v5:Int) < (a0.2.length:Int))) then
   (bif (((aQ (wY (a0.1,a0.2)) ((bG (a0.2.getD (toNat v5) default)).1) 0):Int) != 1) then
    (.inr 7)
   else
    (bif (((aQ (wY (a0.1,a0.2)) (F36 (bG (a0.2.getD (toNat v5) default)).1) 0):Int) != 1) then
     (.inr 7)
    else
     (bif (((aQ (wY (a0.1,a0.2)) ((bG (a0.2.getD (toNat v5) default)).2.1) 0):Int) != 1) then
      (.inr 7)
     else
      (bif (((aQ (wY (a0.1,a0.2)) (F36 (bG (a0.2.getD (toNat v5) default)).2.1) 0):Int) != 1) then
       (.inr 7)
      else
       (bif (((aQ (wY (a0.1,a0.2)) ((bG (a0.2.getD (toNat v5) default)).2.2) 0):Int) != 1) then
        (.inr 7)
       else
        (bif (((aQ (wY (a0.1,a0.2)) (F36 (bG (a0.2.getD (toNat v5) default)).2.2) 0):Int) != 1) then
         (.inr 7)
        else
         (.inl (v4,(v5+1)))))))))
  else
   (.inr (aB (iW a0) (toNat ((v4.length:Int) - 0)+1) (v4,(v4.length:Int),0))))
noncomputable def aNs:Code:=(aF [1,1,1,1,0,1] [] (aG Try.f31) []).1
noncomputable def aNt:List K:=(aF [1,1,1,1,0,1] [] (aG Try.f31) []).2
def aH5 (a0:Zm)(v1c:List SV)(v1n:Nat)(v2:Int):LS:=⟨lZ 98 [(1,(.p 2 0)),(4,(.s 3 0 v1n 1)),(38,(.s 1 0 a0.2.length 3)),(39,(iv (a0.2.length:Int))),(40,(iv v2))],[(.live false true (flat cA a0.1)),(.live false true (flat cN a0.2)),(.live true false [(.s 0 0 a0.1.length 3),(.s 1 0 a0.2.length 3)]),(.live true true v1c)]⟩
def iX (a0:Zm):List (Bool)×Int→(List (Bool)×Int)⊕(Int)
 | (v1,v2) =>
  (bif (decide ((v2:Int) < (a0.2.length:Int))) then
   (bif (((F66 (a0.1,a0.2) (a0.2.getD (toNat v2) default)):Int) != 0) then
    (.inr (F66 (a0.1,a0.2) (a0.2.getD (toNat v2) default)))
   else
    (.inl ((((v1.set (toNat (a0.2.getD (toNat v2) default).1) true).set (toNat (a0.2.getD (toNat v2) default).2.1) true).set (toNat (a0.2.getD (toNat v2) default).2.2) true),(v2+1))))
  else
   (.inr (aB (fO a0) (toNat ((a0.2.length:Int) - 0)+1) (v1,0))))
theorem aXj (a0:Zm)(l0_1:a0.1.length≤9223372036854775807)(l0_2:a0.2.length≤9223372036854775807) {cx:Cx} (hcx:cx.base=2):∀(n:Nat)(v8:List (Bool))(v9 v10:Int),(0≤v10)∧(tM a0 a0.2.length)∧(a0.1.length≤64)∧(a0.2.length≤96)∧(v9=(v8.length:Int))∧(v8.length=a0.1.length)→toNat (v9 - v10) < n→Aw.Good Try.prog none 9 (bodyPost Try.prog Try.f31 (RR cx (iv (aB (iW a0) n (v8,v9,v10))) [] [])) cx [] (.l aNo n::aNp) (aH3 a0 (flat c4 v8) v8.length v9 v10):=by
 intro n
 induction n with
 | zero=>intro v8 v9 v10 hi hn;exact absurd hn (nM _)
 | succ n ih =>
   intro v8 v9 v10 hi hn
   refine aL ?_
   cases h0:(decide ((v10:Int) < v9)) with
   | true =>
    have q0:=eK h0
    let t1:List (St Try.prog):=[.d h0,.i v10 (v8.length),.L kY v8 v10 0 1]
    cases h1:(!(v8.getD (toNat v10) default)) with
    | true =>
     have e:=Eq.refl (iW a0 (v8,v9,v10));conv at e=>rhs;simp only [iW,h0,h1,aK]
     rw [aH,e]
     exact rt (t1++[.d h1]) [] [] hcx (by kernel_rfl)
    | false =>
     have e:=Eq.refl (iW a0 (v8,v9,v10));conv at e=>rhs;simp only [iW,h0,h1,aK]
     rw [aC e]
     refine ba (t1++[.d h1]) [] [1,86,87,88] [2,3] hcx (m:=n) aNo (aNp) (aH3 a0 (flat c4 v8) (v8.length) v9 (W (v10+1))) (by kernel_rfl) ?_
     have z0:(W (v10+1))=(v10+1):=aD (by omega) (by omega)
     rw [z0]
     exact ih v8 v9 (v10+1) (by refine⟨?_,?_,?_,?_,?_,?_⟩<;>first | omega | assumption | exact vD | exact hi.2.1 | exact hi.2.2.1 | exact pH hi.2.2.1 (by omega) | exact jC hi.2.2.1 hfo | exact jC hi.2.2.1 (by refine⟨⟨?_,?_⟩,⟨?_,?_⟩,?_,?_⟩<;>omega) | (simp only [List.length_replicate,List.length_set];omega)) (by(try simp only [Ls]);omega)
   | false =>
    have q0:=fK h0
    let t1:List (St Try.prog):=[.d h0,.c [0,1] (C68 (a0.1,a0.2) (by(try simp only [Lt]);omega) (by(try simp only [Lt]);omega) hi.2.1 (by show a0.2.length≤96;omega))]
    cases h1:(decide (((F68 (a0.1,a0.2)):Int)≤0)) with
    | true =>
     have q1:=eK h1
     have e:=Eq.refl (iW a0 (v8,v9,v10));conv at e=>rhs;simp only [iW,h0,h1,aK]
     rw [aH,e]
     exact rt (t1++[.d h1]) [] [] hcx (by kernel_rfl)
    | false =>
     have q1:=fK h1
     have e:=Eq.refl (iW a0 (v8,v9,v10));conv at e=>rhs;simp only [iW,h0,h1,aK]
     rw [aH,e]
     exact rt (t1++[.d h1]) [] [] hcx (by kernel_rfl)
theorem aXk (a0:Zm)(l0_1:a0.1.length≤9223372036854775807)(l0_2:a0.2.length≤9223372036854775807) {cx:Cx} (hcx:cx.base=2):∀(n:Nat)(v4:List (Bool))(v5:Int),(0≤v5)∧(tM a0 a0.2.length)∧(a0.1.length≤64)∧(a0.2.length≤96)∧(v4.length=a0.1.length)→toNat ((a0.2.length:Int) - v5) < n→Aw.Good Try.prog none 9 (bodyPost Try.prog Try.f31 (RR cx (iv (aB (fO a0) n (v4,v5))) [] [])) cx [] (.l aNq n::aNr) (aH4 a0 (flat c4 v4) v4.length v5):=by
 intro n
 induction n with
 | zero=>intro v4 v5 hi hn;exact absurd hn (nM _)
 | succ n ih =>
   intro v4 v5 hi hn
   refine aL ?_
   cases h0:(decide ((v5:Int) < (a0.2.length:Int))) with
   | true =>
    have q0:=eK h0
    let t1:List (St Try.prog):=[.d h0,.i v5 (a0.2.length),.L eG a0.2 v5 0 3,.c [] (C37 (a0.2.getD (toNat v5) default)),.u 200,.T,.i 0 3 (by decide),.mG K80 iv (wY (a0.1,a0.2)) ((bG (a0.2.getD (toNat v5) default)).1) 0]
    cases h1:(((aQ (wY (a0.1,a0.2)) ((bG (a0.2.getD (toNat v5) default)).1) 0):Int) != 1) with
    | true =>
     have q1:=bne_iff_ne.1 h1
     have e:=Eq.refl (fO a0 (v4,v5));conv at e=>rhs;simp only [fO,h0,h1,aK]
     rw [aH,e]
     exact rt (t1++[.d h1]) [] [] hcx (by kernel_rfl)
    | false =>
     have q1:=bne_eq_false_iff_eq.1 h1
     let t2:List (St Try.prog):=(t1++[.d h1,.c [] (C36 (bG (a0.2.getD (toNat v5) default)).1),.mG K80 iv (wY (a0.1,a0.2)) (F36 (bG (a0.2.getD (toNat v5) default)).1) 0])
     cases h2:(((aQ (wY (a0.1,a0.2)) (F36 (bG (a0.2.getD (toNat v5) default)).1) 0):Int) != 1) with
     | true =>
      have q2:=bne_iff_ne.1 h2
      have e:=Eq.refl (fO a0 (v4,v5));conv at e=>rhs;simp only [fO,h0,h1,h2,aK]
      rw [aH,e]
      exact rt (t2++[.d h2]) [] [] hcx (by kernel_rfl)
     | false =>
      have q2:=bne_eq_false_iff_eq.1 h2
      let t3:List (St Try.prog):=(t2++[.d h2,.u 0,.T,.i 1 3 (by decide),.mG K80 iv (wY (a0.1,a0.2)) ((bG (a0.2.getD (toNat v5) default)).2.1) 0])
      cases h3:(((aQ (wY (a0.1,a0.2)) ((bG (a0.2.getD (toNat v5) default)).2.1) 0):Int) != 1) with
      | true =>
       have q3:=bne_iff_ne.1 h3
       have e:=Eq.refl (fO a0 (v4,v5));conv at e=>rhs;simp only [fO,h0,h1,h2,h3,aK]
       rw [aH,e]
       exact rt (t3++[.d h3]) [] [] hcx (by kernel_rfl)
      | false =>
       have q3:=bne_eq_false_iff_eq.1 h3
       let t4:List (St Try.prog):=(t3++[.d h3,.c [] (C36 (bG (a0.2.getD (toNat v5) default)).2.1),.mG K80 iv (wY (a0.1,a0.2)) (F36 (bG (a0.2.getD (toNat v5) default)).2.1) 0])
       cases h4:(((aQ (wY (a0.1,a0.2)) (F36 (bG (a0.2.getD (toNat v5) default)).2.1) 0):Int) != 1) with
       | true =>
        have q4:=bne_iff_ne.1 h4
        have e:=Eq.refl (fO a0 (v4,v5));conv at e=>rhs;simp only [fO,h0,h1,h2,h3,h4,aK]
        rw [aH,e]
        exact rt (t4++[.d h4]) [] [] hcx (by kernel_rfl)
       | false =>
        have q4:=bne_eq_false_iff_eq.1 h4
        let t5:List (St Try.prog):=(t4++[.d h4,.u 0,.T,.i 2 3 (by decide),.mG K80 iv (wY (a0.1,a0.2)) ((bG (a0.2.getD (toNat v5) default)).2.2) 0])
        cases h5:(((aQ (wY (a0.1,a0.2)) ((bG (a0.2.getD (toNat v5) default)).2.2) 0):Int) != 1) with
        | true =>
         have q5:=bne_iff_ne.1 h5
         have e:=Eq.refl (fO a0 (v4,v5));conv at e=>rhs;simp only [fO,h0,h1,h2,h3,h4,h5,aK]
         rw [aH,e]
         exact rt (t5++[.d h5]) [] [] hcx (by kernel_rfl)
        | false =>
         have q5:=bne_eq_false_iff_eq.1 h5
         let t6:List (St Try.prog):=(t5++[.d h5,.c [] (C36 (bG (a0.2.getD (toNat v5) default)).2.2),.mG K80 iv (wY (a0.1,a0.2)) (F36 (bG (a0.2.getD (toNat v5) default)).2.2) 0])
         cases h6:(((aQ (wY (a0.1,a0.2)) (F36 (bG (a0.2.getD (toNat v5) default)).2.2) 0):Int) != 1) with
         | true =>
          have q6:=bne_iff_ne.1 h6
          have e:=Eq.refl (fO a0 (v4,v5));conv at e=>rhs;simp only [fO,h0,h1,h2,h3,h4,h5,h6,aK]
          rw [aH,e]
          exact rt (t6++[.d h6]) [] [] hcx (by kernel_rfl)
         | false =>
          have q6:=bne_eq_false_iff_eq.1 h6
          have e:=Eq.refl (fO a0 (v4,v5));conv at e=>rhs;simp only [fO,h0,h1,h2,h3,h4,h5,h6,aK]
          rw [aC e]
          refine ba (t6++[.d h6,.u 0,.F]) [] [1,4,10,62,63,64] [2,3,4] hcx (m:=n) aNq (aNr) (aH4 a0 (flat c4 v4) (v4.length) (W (v5+1))) (by kernel_rfl) ?_
          have z0:(W (v5+1))=(v5+1):=aD (by omega) (by omega)
          rw [z0]
          exact ih v4 (v5+1) (by refine⟨?_,?_,?_,?_,?_⟩<;>first | omega | assumption | exact vD | exact hi.2.1 | exact hi.2.2.1 | exact pH hi.2.2.1 (by omega) | exact jC hi.2.2.1 hfo | exact jC hi.2.2.1 (by refine⟨⟨?_,?_⟩,⟨?_,?_⟩,?_,?_⟩<;>omega) | (simp only [List.length_replicate,List.length_set];omega)) (by(try simp only [Ls]);omega)
   | false =>
    have q0:=fK h0
    have e:=Eq.refl (fO a0 (v4,v5));conv at e=>rhs;simp only [fO,h0,aK]
    rw [aH,e]
    refine en [.d h0] [] [1,86,87,88] [2,3] hcx aNo (aNp) (aH3 a0 (flat c4 v4) (v4.length) (v4.length:Int) 0) (toNat ((v4.length:Int) - 0)+1) (by kernel_rfl) ?_
    exact aXj a0 l0_1 l0_2 hcx (toNat ((v4.length:Int) - 0)+1) v4 (v4.length:Int) 0 (by refine⟨?_,?_,?_,?_,?_,?_⟩<;>first | omega | assumption | exact vD | exact hi.2.1 | exact hi.2.2.1 | exact pH hi.2.2.1 (by omega) | exact jC hi.2.2.1 hfo | exact jC hi.2.2.1 (by refine⟨⟨?_,?_⟩,⟨?_,?_⟩,?_,?_⟩<;>omega) | (simp only [List.length_replicate,List.length_set];omega)) (by(try simp only [Ls]);omega)
theorem aXl (a0:Zm)(l0_1:a0.1.length≤9223372036854775807)(l0_2:a0.2.length≤9223372036854775807) {cx:Cx} (hcx:cx.base=2):∀(n:Nat)(v1:List (Bool))(v2:Int),(0≤v2)∧(v1.length=a0.1.length)∧(tM a0 v2)∧(v2≤a0.2.length)∧(a0.1.length≤64)∧(a0.2.length≤96)→toNat ((a0.2.length:Int) - v2) < n→Aw.Good Try.prog none 9 (bodyPost Try.prog Try.f31 (RR cx (iv (aB (iX a0) n (v1,v2))) [] [])) cx [] (.l aNs n::aNt) (aH5 a0 (flat c4 v1) v1.length v2):=by
 intro n
 induction n with
 | zero=>intro v1 v2 hi hn;exact absurd hn (nM _)
 | succ n ih =>
   intro v1 v2 hi hn
   refine aL ?_
   try have hfo:inF a0.1.length (a0.2.getD (toNat v2) default):=iG (m:=a0) h1 (by omega)
   try have hfo2:=hfo
   try obtain⟨⟨hf1,hf2⟩,⟨hf3,hf4⟩,hf5,hf6⟩:=hfo2
   cases h0:(decide ((v2:Int) < (a0.2.length:Int))) with
   | true =>
    have q0:=eK h0
    try have hfo:inF a0.1.length (a0.2.getD (toNat v2) default):=iG (m:=a0) h1 (by omega)
    let t1:List (St Try.prog):=[.d h0,.i v2 (a0.2.length),.L eG a0.2 v2 0 3,.c [0,1] (C66 (a0.1,a0.2) (a0.2.getD (toNat v2) default) (by(try simp only [Lt]);omega) (by(try simp only [Lt]);omega) (by(try simp only [Lt]);omega))]
    cases h1:(((F66 (a0.1,a0.2) (a0.2.getD (toNat v2) default)):Int) != 0) with
    | true =>
     have q1:=bne_iff_ne.1 h1
     try have hfo:inF a0.1.length (a0.2.getD (toNat v2) default):=iG (m:=a0) h1 (by omega)
     have e:=Eq.refl (iX a0 (v1,v2));conv at e=>rhs;simp only [iX,h0,h1,aK]
     rw [aH,e]
     exact rt (t1++[.d h1]) [] [] hcx (by kernel_rfl)
    | false =>
     have q1:=bne_eq_false_iff_eq.1 h1
     try have hfo:inF a0.1.length (a0.2.getD (toNat v2) default):=iG (m:=a0) h1 (by omega)
     have e:=Eq.refl (iX a0 (v1,v2));conv at e=>rhs;simp only [iX,h0,h1,aK]
     rw [aC e]
     refine ba (t1++[.d h1,.u 200,.T,.i 0 3 (by decide),.i ((a0.2.getD (toNat v2) default).1) (v1.length),.p (show((0+toNat (a0.2.getD (toNat v2) default).1*1)+1≤(flat c4 v1).length) from(jP kY (by first | omega | (simp only [Lt];omega)) (o:=0) (Nb rfl))),.u 0,.T,.i 1 3 (by decide),.i ((a0.2.getD (toNat v2) default).2.1) (v1.length),.p (show((0+toNat (a0.2.getD (toNat v2) default).2.1*1)+1≤(splice (flat c4 v1) (0+toNat (a0.2.getD (toNat v2) default).1*1) [(.v (.bool true))]).length) from(by rw [show(splice (flat c4 v1) (0+toNat (a0.2.getD (toNat v2) default).1*1) [(.v (.bool true))])=flat c4 (v1.set (toNat (a0.2.getD (toNat v2) default).1) true) from(gJ kY (by first | omega | (simp only [Lt];omega)) (o:=0) (d:=default) (Nb rfl) rfl)];exact jP kY (by first | omega | (simp only [Lt];omega)) (o:=0) (Nb rfl))),.u 0,.T,.i 2 3 (by decide),.i ((a0.2.getD (toNat v2) default).2.2) (v1.length),.p (show((0+toNat (a0.2.getD (toNat v2) default).2.2*1)+1≤(splice (splice (flat c4 v1) (0+toNat (a0.2.getD (toNat v2) default).1*1) [(.v (.bool true))]) (0+toNat (a0.2.getD (toNat v2) default).2.1*1) [(.v (.bool true))]).length) from(by rw [show(splice (splice (flat c4 v1) (0+toNat (a0.2.getD (toNat v2) default).1*1) [(.v (.bool true))]) (0+toNat (a0.2.getD (toNat v2) default).2.1*1) [(.v (.bool true))])=flat c4 ((v1.set (toNat (a0.2.getD (toNat v2) default).1) true).set (toNat (a0.2.getD (toNat v2) default).2.1) true) from(by rw [show(splice (flat c4 v1) (0+toNat (a0.2.getD (toNat v2) default).1*1) [(.v (.bool true))])=flat c4 (v1.set (toNat (a0.2.getD (toNat v2) default).1) true) from(gJ kY (by first | omega | (simp only [Lt];omega)) (o:=0) (d:=default) (Nb rfl) rfl)];exact gJ kY (by first | omega | (simp only [Lt];omega)) (o:=0) (d:=default) (Nb rfl) rfl)];exact jP kY (by first | omega | (simp only [Lt];omega)) (o:=0) (Nb rfl))),.u 0,.F]) [] [1,4,38,39,40] [2,3] hcx (m:=n) aNs (aNt) (aH5 a0 (splice (splice (splice (flat c4 v1) (0+toNat (a0.2.getD (toNat v2) default).1*1) [(.v (.bool true))]) (0+toNat (a0.2.getD (toNat v2) default).2.1*1) [(.v (.bool true))]) (0+toNat (a0.2.getD (toNat v2) default).2.2*1) [(.v (.bool true))]) (v1.length) (W (v2+1))) (by kernel_rfl) ?_
     have z0:(W (v2+1))=(v2+1):=aD (by omega) (by omega)
     have z1:(splice (splice (splice (flat c4 v1) (0+toNat (a0.2.getD (toNat v2) default).1*1) [(.v (.bool true))]) (0+toNat (a0.2.getD (toNat v2) default).2.1*1) [(.v (.bool true))]) (0+toNat (a0.2.getD (toNat v2) default).2.2*1) [(.v (.bool true))])=flat c4 (((v1.set (toNat (a0.2.getD (toNat v2) default).1) true).set (toNat (a0.2.getD (toNat v2) default).2.1) true).set (toNat (a0.2.getD (toNat v2) default).2.2) true):=(by rw [show(splice (splice (flat c4 v1) (0+toNat (a0.2.getD (toNat v2) default).1*1) [(.v (.bool true))]) (0+toNat (a0.2.getD (toNat v2) default).2.1*1) [(.v (.bool true))])=flat c4 ((v1.set (toNat (a0.2.getD (toNat v2) default).1) true).set (toNat (a0.2.getD (toNat v2) default).2.1) true) from(by rw [show(splice (flat c4 v1) (0+toNat (a0.2.getD (toNat v2) default).1*1) [(.v (.bool true))])=flat c4 (v1.set (toNat (a0.2.getD (toNat v2) default).1) true) from(gJ kY (by first | omega | (simp only [Lt];omega)) (o:=0) (d:=default) (Nb rfl) rfl)];exact gJ kY (by first | omega | (simp only [Lt];omega)) (o:=0) (d:=default) (Nb rfl) rfl)];exact gJ kY (by first | omega | (simp only [Lt];omega)) (o:=0) (d:=default) (Nb rfl) rfl)
     have z2:v1.length=(((v1.set (toNat (a0.2.getD (toNat v2) default).1) true).set (toNat (a0.2.getD (toNat v2) default).2.1) true).set (toNat (a0.2.getD (toNat v2) default).2.2) true).length:=by simp
     rw [z0,z1,z2]
     exact ih (((v1.set (toNat (a0.2.getD (toNat v2) default).1) true).set (toNat (a0.2.getD (toNat v2) default).2.1) true).set (toNat (a0.2.getD (toNat v2) default).2.2) true) (v2+1) (by refine⟨?_,?_,?_,?_,?_,?_⟩<;>first | omega | assumption | exact vD | exact hi.2.1 | exact hi.2.2.1 | exact pH hi.2.2.1 (by omega) | exact jC hi.2.2.1 hfo | exact jC hi.2.2.1 (by refine⟨⟨?_,?_⟩,⟨?_,?_⟩,?_,?_⟩<;>omega) | (simp only [List.length_replicate,List.length_set];omega)) (by(try simp only [Ls]);omega)
   | false =>
    have q0:=fK h0
    try have hfo:inF a0.1.length (a0.2.getD (toNat v2) default):=iG (m:=a0) h1 (by omega)
    have e:=Eq.refl (iX a0 (v1,v2));conv at e=>rhs;simp only [iX,h0,aK]
    rw [aH,e]
    refine en [.d h0,.c [0,1] (C67 (a0.1,a0.2) (by(try simp only [Lt]);omega) (by(try simp only [Lt]);omega))] [] [1,4,10,62,63,64] [2,3,4] hcx aNq (aNr) (aH4 a0 (flat c4 v1) (v1.length) 0) (toNat ((a0.2.length:Int) - 0)+1) (by kernel_rfl) ?_
    exact aXk a0 l0_1 l0_2 hcx (toNat ((a0.2.length:Int) - 0)+1) v1 0 (by refine⟨?_,?_,?_,?_,?_⟩<;>first | omega | assumption | exact vD | exact hi.2.1 | exact hi.2.2.1 | exact pH hi.2.2.1 (by omega) | exact jC hi.2.2.1 hfo | exact jC hi.2.2.1 (by refine⟨⟨?_,?_⟩,⟨?_,?_⟩,?_,?_⟩<;>omega) | (simp only [List.length_replicate,List.length_set];omega)) (by(try simp only [Ls]);omega)
def bN (a0:Zm):Int :=
 (bif (decide (((a0.1.length:Int):Int) > 64)) then
  4
 else
  (bif (!(lE (a0.2.length:Int) 1 96)) then
   4
  else
   (bif (((F65 (a0.1,a0.2)):Int) != 0) then
    (F65 (a0.1,a0.2))
   else
    (aB (iX a0) (toNat ((a0.2.length:Int) - 0)+1) ((List.replicate (toNat (a0.1.length:Int)) false),0)))))
theorem C31 (a0:Zm)(l0_1:a0.1.length≤9223372036854775807)(l0_2:a0.2.length≤9223372036854775807):Con Try.prog 31 [(.a [(.s 0 0 a0.1.length 3),(.s 1 0 a0.2.length 3)])] [(.live false true (flat cA a0.1)),(.live false true (flat cN a0.2))] (iv (bN a0)) []:=by
 refine aI Try.func31 (by kernel_rfl) fun cx hcx=>?_
 try have hl96:=fX h1
 cases h0:(decide (((a0.1.length:Int):Int) > 64)) with
 | true =>
  have q0:=eK h0
  try have hl96:=fX h1
  have e:=Eq.refl (bN a0);conv at e=>rhs;simp only [bN,h0,aK]
  rw [e]
  exact rt [.d h0] [] [] hcx (by kernel_rfl)
 | false =>
  have q0:=fK h0
  try have hl96:=fX h1
  let t1:List (St Try.prog):=[.d h0,.c [] (C51 (a0.2.length:Int) 1 96)]
  cases h1:(!(lE (a0.2.length:Int) 1 96)) with
  | true =>
   try have hl96:=fX h1
   have e:=Eq.refl (bN a0);conv at e=>rhs;simp only [bN,h0,h1,aK]
   rw [e]
   exact rt (t1++[.d h1]) [] [] hcx (by kernel_rfl)
  | false =>
   try have hl96:=fX h1
   let t2:List (St Try.prog):=(t1++[.d h1,.c [0,1] (C65 (a0.1,a0.2) (by(try simp only [Lt]);omega) (by(try simp only [Lt]);omega))])
   cases h2:(((F65 (a0.1,a0.2)):Int) != 0) with
   | true =>
    have q2:=bne_iff_ne.1 h2
    try have hl96:=fX h1
    have e:=Eq.refl (bN a0);conv at e=>rhs;simp only [bN,h0,h1,h2,aK]
    rw [e]
    exact rt (t2++[.d h2]) [] [] hcx (by kernel_rfl)
   | false =>
    have q2:=bne_eq_false_iff_eq.1 h2
    try have hl96:=fX h1
    have e:=Eq.refl (bN a0);conv at e=>rhs;simp only [bN,h0,h1,h2,aK]
    rw [e]
    refine en (t2++[.d h2,.Z c4 false [(.v (.bool false))] (a0.1.length:Int) 1]) [] [1,4,38,39,40] [2,3] hcx aNs (aNt) (aH5 a0 (flat c4 (List.replicate (toNat (a0.1.length:Int)) false)) (toNat (a0.1.length:Int)) 0) (toNat ((a0.2.length:Int) - 0)+1) (by kernel_rfl) ?_
    have q:=aXl a0 l0_1 l0_2 hcx (toNat ((a0.2.length:Int) - 0)+1) (List.replicate (toNat (a0.1.length:Int)) false) 0 (by refine⟨?_,?_,?_,?_,?_,?_⟩<;>first | omega | assumption | exact vD | exact hi.2.1 | exact hi.2.2.1 | exact pH hi.2.2.1 (by omega) | exact jC hi.2.2.1 hfo | exact jC hi.2.2.1 (by refine⟨⟨?_,?_⟩,⟨?_,?_⟩,?_,?_⟩<;>omega) | (simp only [List.length_replicate,List.length_set];omega)) (by(try simp only [Ls]);omega)
    simp only [List.length_replicate] at q
    exact q
def F76 (a0:Zm)(a1:Int):Zt×Zt×Zt :=
 ((a0.1.getD (toNat (a0.2.getD (toNat a1) default).1) default),(a0.1.getD (toNat (a0.2.getD (toNat a1) default).2.1) default),(a0.1.getD (toNat (a0.2.getD (toNat a1) default).2.2) default))
def aNu (a0:Zm)(a1:Int)(a2:Int):Int×Int→(Int×Int)⊕(Int)
 | (v1,v2) =>
  (bif (decide ((v2:Int) < (a0.2.length:Int))) then
   (bif (((a0.2.getD (toNat v2) default).1:Int) == a1) then
    (bif (((a0.2.getD (toNat v2) default).2.1:Int) == a2) then
     (bif (((a0.2.getD (toNat v2) default).2.1:Int) == a1) then
      (bif (((a0.2.getD (toNat v2) default).2.2:Int) == a2) then
       (bif (((a0.2.getD (toNat v2) default).2.2:Int) == a1) then
        (bif (((a0.2.getD (toNat v2) default).1:Int) == a2) then
         (.inl ((W ((W ((W (v1+1))+1))+1)),(v2+1)))
        else
         (.inl ((W ((W (v1+1))+1)),(v2+1))))
       else
        (.inl ((W ((W (v1+1))+1)),(v2+1))))
      else
       (bif (((a0.2.getD (toNat v2) default).2.2:Int) == a1) then
        (bif (((a0.2.getD (toNat v2) default).1:Int) == a2) then
         (.inl ((W ((W (v1+1))+1)),(v2+1)))
        else
         (.inl ((W (v1+1)),(v2+1))))
       else
        (.inl ((W (v1+1)),(v2+1)))))
     else
      (bif (((a0.2.getD (toNat v2) default).2.2:Int) == a1) then
       (bif (((a0.2.getD (toNat v2) default).1:Int) == a2) then
        (.inl ((W ((W (v1+1))+1)),(v2+1)))
       else
        (.inl ((W (v1+1)),(v2+1))))
      else
       (.inl ((W (v1+1)),(v2+1)))))
    else
     (bif (((a0.2.getD (toNat v2) default).2.1:Int) == a1) then
      (bif (((a0.2.getD (toNat v2) default).2.2:Int) == a2) then
       (bif (((a0.2.getD (toNat v2) default).2.2:Int) == a1) then
        (bif (((a0.2.getD (toNat v2) default).1:Int) == a2) then
         (.inl ((W ((W (v1+1))+1)),(v2+1)))
        else
         (.inl ((W (v1+1)),(v2+1))))
       else
        (.inl ((W (v1+1)),(v2+1))))
      else
       (bif (((a0.2.getD (toNat v2) default).2.2:Int) == a1) then
        (bif (((a0.2.getD (toNat v2) default).1:Int) == a2) then
         (.inl ((W (v1+1)),(v2+1)))
        else
         (.inl (v1,(v2+1))))
       else
        (.inl (v1,(v2+1)))))
     else
      (bif (((a0.2.getD (toNat v2) default).2.2:Int) == a1) then
       (bif (((a0.2.getD (toNat v2) default).1:Int) == a2) then
        (.inl ((W (v1+1)),(v2+1)))
       else
        (.inl (v1,(v2+1))))
      else
       (.inl (v1,(v2+1))))))
   else
    (bif (((a0.2.getD (toNat v2) default).2.1:Int) == a1) then
     (bif (((a0.2.getD (toNat v2) default).2.2:Int) == a2) then
      (bif (((a0.2.getD (toNat v2) default).2.2:Int) == a1) then
       (bif (((a0.2.getD (toNat v2) default).1:Int) == a2) then
        (.inl ((W ((W (v1+1))+1)),(v2+1)))
       else
        (.inl ((W (v1+1)),(v2+1))))
      else
       (.inl ((W (v1+1)),(v2+1))))
     else
      (bif (((a0.2.getD (toNat v2) default).2.2:Int) == a1) then
       (bif (((a0.2.getD (toNat v2) default).1:Int) == a2) then
        (.inl ((W (v1+1)),(v2+1)))
       else
        (.inl (v1,(v2+1))))
      else
       (.inl (v1,(v2+1)))))
    else
     (bif (((a0.2.getD (toNat v2) default).2.2:Int) == a1) then
      (bif (((a0.2.getD (toNat v2) default).1:Int) == a2) then
       (.inl ((W (v1+1)),(v2+1)))
      else
       (.inl (v1,(v2+1))))
     else
      (.inl (v1,(v2+1))))))
  else
   (.inr v1))
def F77 (a0:Zm)(a1:Int)(a2:Int):Int :=
 (aB (aNu a0 a1 a2) (toNat ((a0.2.length:Int) - 0)+1) (0,0))
def aNv (a0:Zm):Int×Int→(Int×Int)⊕(Int)
 | (v1,v2) =>
  (bif (decide ((v2:Int) < (a0.2.length:Int))) then
   (.inl ((W (v1+(F95 (F76 (a0.1,a0.2) v2).1 (F93 (F76 (a0.1,a0.2) v2).2.1 (F76 (a0.1,a0.2) v2).2.2)))),(v2+1)))
  else
   (.inr v1))
def F78 (a0:Zm):Int :=
 (aB (aNv a0) (toNat ((a0.2.length:Int) - 0)+1) (0,0))
def nL (a0:Zm):Int×Int→(Int×Int)⊕((Int)⊕(Int))
 | (v3,v4) =>
  (bif (decide ((v4:Int) < v3)) then
   (bif ((((a0.1.getD (toNat v3) default).1:Int) == (a0.1.getD (toNat v4) default).1)&&((((a0.1.getD (toNat v3) default).2.1:Int) == (a0.1.getD (toNat v4) default).2.1)&&((((a0.1.getD (toNat v3) default).2.2:Int) == (a0.1.getD (toNat v4) default).2.2)&&true))) then
    (.inr (.inr 1))
   else
    (.inl (v3,(v4+1))))
  else
   (.inr (.inl (v3+1))))
def oK (a0:Zm):List (Bool)×Int→(List (Bool)×Int)⊕(Int)
 | (v11,v12) =>
  (bif (decide ((v12:Int) < (v11.length:Int))) then
   (bif (!(v11.getD (toNat v12) default)) then
    (.inr 5)
   else
    (.inl (v11,(v12+1))))
  else
   (bif (decide (((F78 (a0.1,a0.2)):Int)≤0)) then
    (.inr 8)
   else
    (.inr 0)))
def aAl (a0:Zm):List (Bool)×Int→(List (Bool)×Int)⊕(Int)
 | (v8,v9) =>
  (bif (decide ((v9:Int) < (a0.2.length:Int))) then
   (bif (((F77 (a0.1,a0.2) (a0.2.getD (toNat v9) default).1 (a0.2.getD (toNat v9) default).2.1):Int) != 1) then
    (.inr 7)
   else
    (bif (((F77 (a0.1,a0.2) (a0.2.getD (toNat v9) default).2.1 (a0.2.getD (toNat v9) default).1):Int) != 1) then
     (.inr 7)
    else
     (bif (((F77 (a0.1,a0.2) (a0.2.getD (toNat v9) default).2.1 (a0.2.getD (toNat v9) default).2.2):Int) != 1) then
      (.inr 7)
     else
      (bif (((F77 (a0.1,a0.2) (a0.2.getD (toNat v9) default).2.2 (a0.2.getD (toNat v9) default).2.1):Int) != 1) then
       (.inr 7)
      else
       (bif (((F77 (a0.1,a0.2) (a0.2.getD (toNat v9) default).2.2 (a0.2.getD (toNat v9) default).1):Int) != 1) then
        (.inr 7)
       else
        (bif (((F77 (a0.1,a0.2) (a0.2.getD (toNat v9) default).1 (a0.2.getD (toNat v9) default).2.2):Int) != 1) then
         (.inr 7)
        else
         (.inl (v8,(v9+1)))))))))
  else
   (.inr (aB (oK a0) (toNat ((v8.length:Int) - 0)+1) (v8,0))))
def kH (a0:Zm):List (Bool)×Int→(List (Bool)×Int)⊕(Int)
 | (v5,v6) =>
  (bif (decide ((v6:Int) < (a0.2.length:Int))) then
   (bif (decide (((a0.2.getD (toNat v6) default).1:Int) < 0)) then
    (.inr 5)
   else
    (bif (decide (((a0.2.getD (toNat v6) default).1:Int)≥(a0.1.length:Int))) then
     (.inr 5)
    else
     (bif (decide (((a0.2.getD (toNat v6) default).2.1:Int) < 0)) then
      (.inr 5)
     else
      (bif (decide (((a0.2.getD (toNat v6) default).2.1:Int)≥(a0.1.length:Int))) then
       (.inr 5)
      else
       (bif (decide (((a0.2.getD (toNat v6) default).2.2:Int) < 0)) then
        (.inr 5)
       else
        (bif (decide (((a0.2.getD (toNat v6) default).2.2:Int)≥(a0.1.length:Int))) then
         (.inr 5)
        else
         (bif ((((F75 (F76 (a0.1,a0.2) v6)).1:Int) == 0)&&((((F75 (F76 (a0.1,a0.2) v6)).2.1:Int) == 0)&&((((F75 (F76 (a0.1,a0.2) v6)).2.2:Int) == 0)&&true))) then
          (.inr 6)
         else
          (.inl ((((v5.set (toNat (a0.2.getD (toNat v6) default).1) true).set (toNat (a0.2.getD (toNat v6) default).2.1) true).set (toNat (a0.2.getD (toNat v6) default).2.2) true),(v6+1))))))))))
  else
   (.inr (aB (aAl a0) (toNat ((a0.2.length:Int) - 0)+1) (v5,0))))
def lQ (a0:Zm):Int→(Int)⊕(Int)
 | v1 =>
  (bif (decide ((v1:Int) < (a0.1.length:Int))) then
   (bif (!(F74 (a0.1.getD (toNat v1) default) 64)) then
    (.inr 1)
   else
    (aB (nL a0) (toNat (v1 - 0)+1) (v1,0)))
  else
   (.inr (aB (kH a0) (toNat ((a0.2.length:Int) - 0)+1) ((List.replicate (toNat (a0.1.length:Int)) false),0))))
def F53 (a0:Zm):Int :=
 (bif (decide (((a0.1.length:Int):Int) > 64)) then
  4
 else
  (bif (!(F73 (a0.2.length:Int) 1 96)) then
   4
  else
   (aB (lQ a0) (toNat ((a0.1.length:Int) - 0)+1) 0)))
section
variable {α β : Type} [DecidableEq α]
theorem lR (e:α×β)(l:List (α×β))(k:α)(d:β):aQ (e::l) k d=if e.1=k then e.2 else aQ l k d:=by
 unfold aQ
 simp only [dU]
 by_cases h:e.1=k
 · rw [if_pos h,if_pos h]
 · rw [if_neg h,if_neg h]
   cases dU k l<;>rfl
theorem aK1 (e:α×β)(l:List (α×β))(k:α)(v:β):bX (e::l) k v=if e.1=k then(k,v)::l else e::bX l k v:=by
 unfold bX
 simp only [dU]
 by_cases h:e.1=k
 · rw [if_pos h,if_pos h];rfl
 · rw [if_neg h,if_neg h]
   cases dU k l<;>rfl
theorem aAm:∀(l:List (α×β))(k k':α)(v d:β),aQ (bX l k v) k' d=if k=k' then v else aQ l k' d
 | [],k,k',v,d=>by
   show aQ [(k,v)] k' d=_
   rw [lR]
 | e::l,k,k',v,d=>by
   rw [aK1]
   by_cases h:e.1=k
   · rw [if_pos h,lR,lR]
     by_cases h':k=k'
     · rw [if_pos h',if_pos h']
     · rw [if_neg h',if_neg h',if_neg (fun x=>h' (h▸x))]
   · rw [if_neg h,lR,lR,aAm l k k' v d]
     by_cases h':k=k'
     · rw [if_neg (fun x=>h (x.trans h'.symm)),if_pos h',if_pos h']
     · rw [if_neg h',if_neg h']
theorem aAn (k:α)(d:β):aQ ([]:List (α×β)) k d=d:=rfl
end
theorem kI {S R:Type} [Inhabited R] {f g:S→S⊕R} (I:S→Prop)(hI:∀s,I s→f s=g s)(hp:∀s s',I s→f s=.inl s'→I s'):∀(n:Nat)(s:S),I s→aB f n s=aB g n s:=by
 intro n
 induction n with
 | zero=>intro s _;rfl
 | succ n ih =>
   intro s hs
   have e:=hI s hs
   cases h:f s with
   | inl s'=>rw [aC h,aC (e▸h)];exact ih s' (hp s s' hs h)
   | inr r=>rw [aR h,aR (e▸h)]
theorem bH {α σ R:Type} (g:σ→α→σ):∀(l:List α)(v:σ),kG (R:=R) (fun v c=>.inl (g v c)) l v=.inl (l.foldl g v)
 | [],_=>rfl
 | c::l,v=>by simp only [kG,List.foldl_cons];exact bH g l (g v c)
theorem bF {α:Type} [Inhabited α] {L:List α} {i:Nat} {c:α} (h:L[i]? = some c):L.getD (toNat (i:Int)) default=c:=by
 rw [yE,eW,h];rfl
abbrev ME:=List P3×List P3
def tri (f:P3)(p q:Int):Int:=(if f.1=p∧f.2.1=q then 1 else 0)+(if f.2.1=p∧f.2.2=q then 1 else 0)+(if f.2.2=p∧f.1=q then 1 else 0)
def cnt:List P3→Int→Int→Int
 | [],_,_=>0
 | f::l,p,q=>tri f p q+cnt l p q
theorem aNw (f:P3)(p q:Int):0≤tri f p q∧tri f p q≤3:=by unfold tri;split<;>split<;>split<;>omega
theorem aNx (a b c d:Int):(if a=b∧c=d then(1:Int) else 0)=bif (a == b)&&(c == d) then 1 else 0:=by
 rcases Decidable.em (a=b) with h1 | h1<;>rcases Decidable.em (c=d) with h2 | h2
 · rw [if_pos ⟨h1,h2⟩,beq_iff_eq.2 h1,beq_iff_eq.2 h2];rfl
 · rw [if_neg (fun h=>h2 h.2),beq_eq_false_iff_ne.2 h2,Bool.and_false];rfl
 · rw [if_neg (fun h=>h1 h.1),beq_eq_false_iff_ne.2 h1];rfl
 · rw [if_neg (fun h=>h1 h.1),beq_eq_false_iff_ne.2 h1];rfl
theorem aNy (m:ME)(h:m.2.length≤96)(p q:Int):F77 m p q=cnt m.2 p q:=by
 unfold F77
 rw [bD (fun v i=>(v,i)) (fun v c=>.inl (v+tri c p q)) (fun v=>v) (L:=m.2) (fun i v=>0≤v∧v≤3*(i:Int)) ?_ ?_ ?_ (by omega) ⟨by omega,by omega⟩]
 · have key:∀(l:List P3) (v:Int),l.foldl (fun v c=>v+tri c p q) v=v+cnt l p q:=by
     intro l
     induction l with
     | nil=>intro v;simp [cnt]
     | cons c l ih=>intro v;rw [List.foldl_cons,ih];simp only [cnt];omega
   rw [bH,key];simp [aBr]
 · intro i c hc v hv
   obtain⟨hlt,hce⟩:=List.getElem?_eq_some_iff.1 hc
   have w1:W (v+1)=v+1:=aD (by omega) (by omega)
   have w2:W (v+1+1)=v+1+1:=aD (by omega) (by omega)
   have w3:W (v+1+1+1)=v+1+1+1:=aD (by omega) (by omega)
   simp only [aNu]
   rw [cV (by omega),cond_true,bF hc]
   unfold tri
   rw [aNx,aNx,aNx]
   generalize (c.1 == p)=b1,(c.2.1 == q)=b2,(c.2.1 == p)=b3,(c.2.2 == q)=b4,(c.2.2 == p)=b5,(c.1 == q)=b6
   have fin:∀{a b:Int},a=b→(Sum.inl (a,(i:Int)+1):(Int×Int)⊕Int)=Sum.inl (b,((i+1:Nat):Int)):=fun h=>by rw [h];rfl
   cases b1<;>cases b2<;>cases b3<;>cases b4<;>cases b5<;>cases b6<;>simp only [Bool.and_true,Bool.and_false,Bool.and_self,cond_true,cond_false,w1,w2,w3]<;>exact fin (by omega)
 · intro i c hc v v' hv e
   have:=aNw c p q
   obtain rfl:=Sum.inl.inj e
   omega
 · intro v _
   simp only [aNu]
   rw [dL (by omega),cond_false]
def rN (v:List ((Int×Int)×Int))(s:Int×Int):List ((Int×Int)×Int):=bX v s (W (aQ v s 0+1))
def aK2 (v:List ((Int×Int)×Int))(f:P3):List ((Int×Int)×Int):=rN (rN (rN v (bG f).1) (bG f).2.1) (bG f).2.2
theorem aDx {v:List ((Int×Int)×Int)} {s:Int×Int} (t:Int×Int)(h:0≤aQ v s 0∧aQ v s 0≤1000):aQ (rN v s) t 0=aQ v t 0+(if s=t then 1 else 0):=by
 unfold rN
 rw [aAm,aD (by omega) (by omega)]
 by_cases e:s=t
 · subst e;rw [if_pos rfl,if_pos rfl]
 · rw [if_neg e,if_neg e];omega
theorem aNz {v:List ((Int×Int)×Int)} {B:Int} (hB:∀t,0≤aQ v t 0∧aQ v t 0≤B)(hb:B≤900)(f:P3)(t:Int×Int):aQ (aK2 v f) t 0=aQ v t 0+tri f t.1 t.2:=by
 have g1:∀t,aQ (rN v (bG f).1) t 0=aQ v t 0+(if(bG f).1=t then 1 else 0):=fun t=>aDx t (by have:=hB (bG f).1;omega)
 have b1:∀t,0≤aQ (rN v (bG f).1) t 0∧aQ (rN v (bG f).1) t 0≤B+1:=fun t=>by rw [g1];have:=hB t;split<;>omega
 have g2:∀t,aQ (rN (rN v (bG f).1) (bG f).2.1) t 0=aQ (rN v (bG f).1) t 0+(if(bG f).2.1=t then 1 else 0):=fun t=>aDx t (by have:=b1 (bG f).2.1;omega)
 have b2:∀t,0≤aQ (rN (rN v (bG f).1) (bG f).2.1) t 0∧aQ (rN (rN v (bG f).1) (bG f).2.1) t 0≤B+2:=fun t=>by rw [g2];have:=b1 t;split<;>omega
 unfold aK2
 rw [aDx t (by have:=b2 (bG f).2.2;omega),g2,g1]
 unfold tri bG
 simp only [Prod.ext_iff]
 omega
theorem aJr:∀(l:List P3)(v:List ((Int×Int)×Int))(B:Int),(∀t,0≤aQ v t 0∧aQ v t 0≤B)→B+3*l.length≤900→∀t:Int×Int,aQ (l.foldl aK2 v) t 0=aQ v t 0+cnt l t.1 t.2
 | [],v,B,_,_,t=>by simp [cnt]
 | f::l,v,B,hB,hb,t=>by
   simp only [List.length_cons] at hb
   have g:=aNz hB (by omega) f
   rw [List.foldl_cons,aJr l (aK2 v f) (B+3) (fun t=>by rw [g];have:=hB t;have:=aNw f t.1 t.2;omega) (by omega) t,g]
   simp only [cnt];omega
theorem aXm (m:ME):wY m=m.2.foldl aK2 []:=by
 unfold wY
 rw [bD (fun v i=>(v,i)) (fun v c=>.inl (aK2 v c)) (fun v=>v) (L:=m.2) (fun _ _=>True) ?_ (fun _ _ _ _ _ _ _=>trivial) ?_ (by omega) trivial]
 · rw [bH];rfl
 · intro i c hc v _
   obtain⟨hlt,hce⟩:=List.getElem?_eq_some_iff.1 hc
   simp only [wX]
   rw [cV (by omega),cond_true,bF hc]
   rfl
 · intro v _
   simp only [wX]
   rw [dL (by omega),cond_false]
theorem aZy (m:ME)(h:m.2.length≤96)(t:Int×Int):aQ (wY m) t 0=cnt m.2 t.1 t.2:=by
 rw [aXm,aJr m.2 [] 0 (fun t=>by rw [aAn];omega) (by omega) t,aAn];omega
theorem aXn (x y:Int):W (x+W (-1*y))=W (x - y):=by
 rw [aJg (-1*y)]
 split<;>rw [aJg,aJg]<;>split<;>split<;>omega
theorem aN0 (a b:P3):zQ a b=F94 a b:=by
 unfold zQ F34 F94
 simp only [aXn]
theorem aN1 (p:PN):F89 p=F75 p:=by
 unfold F89 F75
 rw [aN0,aN0];rfl
theorem aXo (m:ME):F68 m=m.2.foldl (fun v c=>W (v+F92 (iV m c))) 0:=by
 unfold F68
 rw [bD (fun v i=>(v,i)) (fun v c=>.inl (W (v+F92 c))) (fun v=>v) (L:=pI m) (fun _ _=>True) ?_ (fun _ _ _ _ _ _ _=>trivial) ?_ (by show _ < toNat ((((pI m).length:Nat):Int) - 0)+1;omega) trivial]
 · rw [bH,aDw,List.foldl_map];rfl
 · intro i c hc v _
   obtain⟨hlt,hce⟩:=List.getElem?_eq_some_iff.1 hc
   simp only [wZ]
   rw [cV (show((i:Nat):Int) < (((pI (m.1,m.2)).length:Nat):Int) from by show((i:Nat):Int) < (((pI m).length:Nat):Int);omega),cond_true,show(pI (m.1,m.2)).getD (toNat (i:Int)) default=c from bF hc]
   rfl
 · intro v _
   simp only [wZ]
   rw [dL (show ¬(((pI m).length:Nat):Int) < (((pI (m.1,m.2)).length:Nat):Int) from by show ¬(((pI m).length:Nat):Int) < (((pI m).length:Nat):Int);omega),cond_false]
theorem aN2 (m:ME):F78 m=m.2.foldl (fun v c=>W (v+F92 (iV m c))) 0:=by
 unfold F78
 rw [bD (fun v i=>(v,i)) (fun v c=>.inl (W (v+F92 (iV m c)))) (fun v=>v) (L:=m.2) (fun _ _=>True) ?_ (fun _ _ _ _ _ _ _=>trivial) ?_ (by omega) trivial]
 · rw [bH];rfl
 · intro i c hc v _
   obtain⟨hlt,hce⟩:=List.getElem?_eq_some_iff.1 hc
   simp only [aNv]
   have hp:F76 (m.1,m.2) (i:Int)=iV m c:=by
     unfold F76
     simp only [bF hc];rfl
   rw [cV (by omega),cond_true,hp]
   rfl
 · intro v _
   simp only [aNv]
   rw [dL (by omega),cond_false]
theorem aUm (m:ME):F68 m=F78 m:=by rw [aXo,aN2]
theorem aUn (m:ME):∀(n:Nat)(v:List Bool)(i:Int),0≤i→aB (iW m) n (v,(v.length:Int),i)=aB (oK m) n (v,i):=by
 intro n
 induction n with
 | zero=>intro v i _;rfl
 | succ n ih =>
   intro v i hi
   by_cases h:i < (v.length:Int)
   · cases hb:v.getD (toNat i) default with
     | true =>
       have e1:iW m (v,(v.length:Int),i)=.inl (v,(v.length:Int),i+1):=by
         simp only [iW];rw [cV h,cond_true,hb];rfl
       have e2:oK m (v,i)=.inl (v,i+1):=by
         simp only [oK];rw [cV h,cond_true,hb];rfl
       rw [aC e1,aC e2];exact ih v (i+1) (by omega)
     | false =>
       have e1:iW m (v,(v.length:Int),i)=.inr 5:=by
         simp only [iW];rw [cV h,cond_true,hb];rfl
       have e2:oK m (v,i)=.inr 5:=by
         simp only [oK];rw [cV h,cond_true,hb];rfl
       rw [aR e1,aR e2]
   · have e1:iW m (v,(v.length:Int),i)=.inr (bif decide (F78 m≤0) then 8 else 0):=by
       simp only [iW];rw [dL h,cond_false,show F68 (m.1,m.2)=F78 m from aUm m]
       cases decide (F78 m≤0)<;>rfl
     have e2:oK m (v,i)=.inr (bif decide (F78 m≤0) then 8 else 0):=by
       simp only [oK];rw [dL h,cond_false,show F78 (m.1,m.2)=F78 m from rfl]
       cases decide (F78 m≤0)<;>rfl
     rw [aR e1,aR e2]
theorem aUo (m:ME)(h:m.2.length≤96)(n:Nat)(v:List Bool):aB (fO m) n (v,0)=aB (aAl m) n (v,0):=by
 refine kI (fun s=>0≤s.2) (fun s hs=>?_) (fun s s' hs e=>?_) n (v,0) (Int.le_refl 0)
 · obtain⟨v,i⟩:=s
   simp only at hs
   simp only [fO,aAl]
   rw [aUn m _ v 0 (Int.le_refl 0)]
   have hc:∀t,aQ (wY (m.1,m.2)) t 0=cnt m.2 t.1 t.2:=aZy m h
   have he:∀p q,F77 (m.1,m.2) p q=cnt m.2 p q:=aNy m h
   simp only [hc,he,bG,F36]
 · obtain⟨v,i⟩:=s
   simp only [fO] at e
   by_cases hlt:i < (m.2.length:Int)
   · rw [cV hlt,cond_true] at e
     simp only at hs
     have step:∀(b:Bool) (x y:(List Bool×Int)⊕Int),(bif b then x else y)=.inl s'→(∀r,x≠.inl r)→y=.inl s':=fun b x y h hx=>by
       cases b
       · exact h
       · exact absurd h (hx s')
     have e:=step _ _ _ e (fun r h=>by cases h)
     have e:=step _ _ _ e (fun r h=>by cases h)
     have e:=step _ _ _ e (fun r h=>by cases h)
     have e:=step _ _ _ e (fun r h=>by cases h)
     have e:=step _ _ _ e (fun r h=>by cases h)
     have e:=step _ _ _ e (fun r h=>by cases h)
     obtain rfl:=Sum.inl.inj e
     show 0≤i+1
     omega
   · rw [dL hlt,cond_false] at e;cases e
theorem aRa {n:Nat} (x:Int)(h:n≤64):(!lE x 0 (W (((n:Nat):Int) - 1)))=(decide (x < 0) || decide (x≥((n:Nat):Int))):=by
 rw [aD (by omega) (by omega)]
 unfold lE
 by_cases h1:x < 0
 · rw [cV h1,dL (by omega)];rfl
 · rw [dL h1,cV (by omega),cond_true]
   by_cases h2:x≥((n:Nat):Int)
   · rw [cV h2,dL (by omega)];rfl
   · rw [dL h2,cV (by omega)];rfl
theorem aUp (m:ME)(h64:m.1.length≤64)(h:m.2.length≤96)(n:Nat)(v:List Bool):aB (iX m) n (v,0)=aB (kH m) n (v,0):=by
 have main:∀s:List Bool×Int,0≤s.2→iX m s=kH m s∧∀s',iX m s=.inl s'→0≤s'.2:=by
   rintro ⟨v,i⟩ hs
   simp only at hs
   simp only [iX,kH]
   rw [aUo m h _ v]
   have hp:F76 (m.1,m.2) i=iV (m.1,m.2) (m.2.getD (toNat i) default):=rfl
   rw [hp]
   unfold F66
   simp only [aRa _ h64,aN1]
   generalize m.2.getD (toNat i) default=c
   generalize F75 (iV (m.1,m.2) c)=q
   generalize ((q.1 == 0)&&((q.2.1 == 0)&&((q.2.2 == 0)&&true)))=b7
   generalize decide (c.1 < 0)=b1,decide (c.1≥(m.1.length:Int))=b2,decide (c.2.1 < 0)=b3,decide (c.2.1≥(m.1.length:Int))=b4,decide (c.2.2 < 0)=b5,decide (c.2.2≥(m.1.length:Int))=b6,decide (i < (m.2.length:Int))=b0
   cases b0
   case false=>exact⟨rfl,fun s' e=>by cases e⟩
   cases b1
   case true=>exact⟨rfl,fun s' e=>by cases e⟩
   cases b2
   case true=>exact⟨rfl,fun s' e=>by cases e⟩
   cases b3
   case true=>exact⟨rfl,fun s' e=>by cases e⟩
   cases b4
   case true=>exact⟨rfl,fun s' e=>by cases e⟩
   cases b5
   case true=>exact⟨rfl,fun s' e=>by cases e⟩
   cases b6
   case true=>exact⟨rfl,fun s' e=>by cases e⟩
   cases b7
   case true=>exact⟨rfl,fun s' e=>by cases e⟩
   exact⟨rfl,fun s' e=>by obtain rfl:=Sum.inl.inj e;show 0≤i+1;omega⟩
 exact kI (fun s=>0≤s.2) (fun s hs=>(main s hs).1) (fun s s' hs e=>(main s hs).2 s' e) n (v,0) (Int.le_refl 0)
theorem aK3 (a b:P3):(((a.1:Int) == b.1)&&(((a.2.1:Int) == b.2.1)&&(((a.2.2:Int) == b.2.2)&&true)))=decide (a=b):=by
 rw [Bool.eq_iff_iff]
 simp only [Bool.and_eq_true,beq_iff_eq,and_true,decide_eq_true_eq,Prod.ext_iff]
theorem aXp (m:ME)(i:Nat):∀(n k:Nat),i - k < n→(∃j,k≤j∧j < i∧m.1.getD j default=m.1.getD i default)→aB (nL m) n ((i:Int),(k:Int))=.inr 1:=by
 intro n
 induction n with
 | zero=>intro k hk;omega
 | succ n ih =>
   intro k hk ⟨j,h1,h2,h3⟩
   by_cases e:m.1.getD i default=m.1.getD k default
   · refine aR ?_
     simp only [nL]
     rw [cV (by omega),cond_true,yE,yE,aK3,cV e];rfl
   · have h:nL m ((i:Int),(k:Int))=.inl ((i:Int),((k+1:Nat):Int)):=by
       simp only [nL]
       rw [cV (by omega),cond_true,yE,yE,aK3,dL e];rfl
     rw [aC h]
     have:j≠k:=fun x=>e (x▸h3.symm)
     exact ih (k+1) (by omega) ⟨j,by omega,h2,h3⟩
theorem aXq (m:ME)(i:Nat):∀(n k:Nat),k≤i→i - k < n→(∀j,k≤j→j < i→m.1.getD j default≠m.1.getD i default)→aB (nL m) n ((i:Int),(k:Int))=.inl ((i:Int)+1):=by
 intro n
 induction n with
 | zero=>intro k _ hk;omega
 | succ n ih =>
   intro k hki hk hj
   by_cases hlt:k < i
   · have h:nL m ((i:Int),(k:Int))=.inl ((i:Int),((k+1:Nat):Int)):=by
       simp only [nL]
       rw [cV (by omega),cond_true,yE,yE,aK3,dL (fun e=>hj k (Nat.le_refl k) hlt e.symm)];rfl
     rw [aC h]
     exact ih (k+1) (by omega) (by omega) (fun j h1 h2=>hj j (by omega) h2)
   · refine aR ?_
     simp only [nL]
     rw [dL (by omega),cond_false]
open Classical in
theorem aH6 (p:P3):wS p 64=F74 p 64:=by rw [kC,uX]
theorem aUq (m:ME):∀(n i:Nat)(v:List (P3×Bool)),i≤m.1.length→m.1.length - i < n→(∀q,aQ v q false=true↔∃j,j < i∧m.1.getD j default=q) →
   aB (lQ m) n (i:Int)=bif (aB (dV m) n (v,(i:Int)) != 0) then aB (dV m) n (v,(i:Int)) else aB (kH m) (toNat ((m.2.length:Int) - 0)+1) ((List.replicate (toNat (m.1.length:Int)) false),0):=by
 intro n
 induction n with
 | zero=>intro i v _ h;omega
 | succ n ih =>
   intro i v hi hn hv
   by_cases hlt:i < m.1.length
   · have hw:((i:Nat):Int) < (m.1.length:Int):=by omega
     cases hr:wS (m.1.getD i default) 64 with
     | false =>
       have e1:dV m (v,(i:Int))=.inr 1:=by
         simp only [dV];rw [cV hw,cond_true,yE,hr];rfl
       have e2:lQ m (i:Int)=.inr 1:=by
         simp only [lQ];rw [cV hw,cond_true,yE,←aH6,hr];rfl
       rw [aR e1,aR e2];rfl
     | true =>
       cases hg:aQ v (m.1.getD i default) false with
       | true =>
         have e1:dV m (v,(i:Int))=.inr 1:=by
           simp only [dV];rw [cV hw,cond_true,yE,hr,hg];rfl
         obtain⟨j,h1,h2⟩:=(hv _).1 hg
         have e2:lQ m (i:Int)=.inr 1:=by
           simp only [lQ];rw [cV hw,cond_true,yE,←aH6,hr]
           exact aXp m i _ 0 (by omega) ⟨j,by omega,h1,h2⟩
         rw [aR e1,aR e2];rfl
       | false =>
         have e1:dV m (v,(i:Int))=.inl (bX v (m.1.getD i default) true,((i+1:Nat):Int)):=by
           simp only [dV];rw [cV hw,cond_true,yE,hr,hg];rfl
         have e2:lQ m (i:Int)=.inl ((i+1:Nat):Int):=by
           simp only [lQ];rw [cV hw,cond_true,yE,←aH6,hr]
           exact aXq m i _ 0 (by omega) (by omega) (fun j _ h2 h3=>by
             have:=(hv _).2 ⟨j,h2,h3⟩
             rw [hg] at this;cases this)
         rw [aC e1,aC e2]
         refine ih (i+1) _ (by omega) (by omega) (fun q=>?_)
         rw [aAm]
         by_cases e:m.1.getD i default=q
         · rw [if_pos e];exact⟨fun _=>⟨i,by omega,e⟩,fun _=>rfl⟩
         · rw [if_neg e,hv]
           constructor
           · rintro ⟨j,h1,h2⟩;exact⟨j,by omega,h2⟩
           · rintro ⟨j,h1,h2⟩
             refine⟨j,?_,h2⟩
             rcases Nat.lt_or_ge j i with h | h
             · exact h
             · have:j=i:=by omega
               exact absurd (this▸h2) e
   · have hw:¬((i:Nat):Int) < (m.1.length:Int):=by omega
     have e1:dV m (v,(i:Int))=.inr 0:=by
       simp only [dV];rw [dL hw,cond_false]
     have e2:lQ m (i:Int)=.inr (aB (kH m) (toNat ((m.2.length:Int) - 0)+1) ((List.replicate (toNat (m.1.length:Int)) false),0)):=by
       simp only [lQ];rw [dL hw,cond_false]
     rw [aR e1,aR e2];rfl
theorem aN3 (m:ME):bN m=F53 m:=by
 unfold bN F53
 by_cases h1:(m.1.length:Int) > 64
 · rw [cV h1];rfl
 · rw [dL h1,cond_false,cond_false,show F73 (m.2.length:Int) 1 96=lE (m.2.length:Int) 1 96 from rfl]
   cases h2:(!lE (m.2.length:Int) 1 96) with
   | true=>rfl
   | false =>
     rw [cond_false,cond_false]
     have g:=fX h2
     rw [aUp m (by omega) (by omega)]
     have hp:=aUq m (toNat ((m.1.length:Int) - 0)+1) 0 [] (by omega) (by omega) (fun q=>by
       rw [aAn]
       constructor
       · intro h;cases h
       · rintro ⟨j,h,_⟩;omega)
     exact hp.symm
end Go.Proofs.Ytaeagjnpobdglaa
namespace Go.Proofs.Ytaeagjnpobdglaa
open Go.Proofs Go.Aw Go.RowKit
set_option maxRecDepth 100000
theorem okl (m:ME)(h64:m.1.length≤64):∀(n:Nat)(v:List Bool)(i:Int),0≤i→toNat ((m.2.length:Int) - i) < n→aB (iX m) n (v,i)=0→∀j:Int,i≤j→j < (m.2.length:Int)→F66 m (m.2.getD (toNat j) default)=0:=by
 intro n
 induction n with
 | zero=>intro v i _ h;omega
 | succ n ih =>
   intro v i hi hn h j h1 h2
   have hlt:i < (m.2.length:Int):=by omega
   cases hf:((F66 (m.1,m.2) (m.2.getD (toNat i) default):Int) != 0) with
   | true =>
     have e:iX m (v,i)=.inr (F66 (m.1,m.2) (m.2.getD (toNat i) default)):=by
       simp only [iX];rw [cV hlt,cond_true,hf,cond_true]
     rw [aR e] at h
     exact absurd h (bne_iff_ne.1 hf)
   | false =>
     by_cases hj:j=i
     · subst hj;exact bne_eq_false_iff_eq.1 hf
     · have e:iX m (v,i)=.inl ((((v.set (toNat (m.2.getD (toNat i) default).1) true).set (toNat (m.2.getD (toNat i) default).2.1) true).set (toNat (m.2.getD (toNat i) default).2.2) true),(i+1)):=by
         simp only [iX];rw [cV hlt,cond_true,hf,cond_false]
       rw [aC e] at h
       exact ih _ (i+1) (by omega) (by omega) h j (by omega) h2
theorem bI {m:ME} (h:bN m=0):m.1.length≤64∧1≤m.2.length∧m.2.length≤96∧F65 m=0∧∀j:Int,0≤j→j < (m.2.length:Int)→F66 m (m.2.getD (toNat j) default)=0:=by
 unfold bN at h
 by_cases h1:(m.1.length:Int) > 64
 · rw [cV h1,cond_true] at h;exact absurd h (by decide)
 · rw [dL h1,cond_false] at h
   cases h2:(!lE (m.2.length:Int) 1 96) with
   | true=>rw [h2,cond_true] at h;exact absurd h (by decide)
   | false =>
     have g:=fX h2
     rw [h2,cond_false] at h
     cases h3:((F65 (m.1,m.2):Int) != 0) with
     | true=>rw [h3,cond_true] at h;exact absurd h (bne_iff_ne.1 h3)
     | false =>
       rw [h3,cond_false] at h
       exact⟨by omega,by omega,by omega,bne_eq_false_iff_eq.1 h3,fun j h1 h2=>okl m (by omega) _ _ 0 (Int.le_refl 0) (by omega) h j h1 h2⟩
theorem aDy {m:ME} (h:((bN m:Int) != 0)=false):tM m m.2.length∧m.2.length≤96:=by
 obtain⟨h1,_,h3,_,h4⟩:=bI (bne_eq_false_iff_eq.1 h)
 exact⟨fun i g1 g2=>iG (m:=m) (by rw [h4 i g1 g2];rfl) h1,h3⟩
def aX (a0:Zm):(List (Zt×Zt×Zt))×Int :=
 (bif (((bN (a0.1,a0.2)):Int) != 0) then
  (([]:List (Zt×Zt×Zt)),(bN (a0.1,a0.2)))
 else
  ((pI (a0.1,a0.2)),0))
theorem C79 (a0:Zm)(l0_1:a0.1.length≤9223372036854775807)(l0_2:a0.2.length≤9223372036854775807):Con Try.prog 79 [(.a [(.s 0 0 a0.1.length 3),(.s 1 0 a0.2.length 3)])] [(.live false true (flat cA a0.1)),(.live false true (flat cN a0.2))] (.t [(.s 2 0 (aX a0).1.length 9),(iv (aX a0).2)]) [(.live true true (flat qI (aX a0).1))]:=by
 refine aI Try.func79 (by kernel_rfl) fun cx hcx=>?_
 let t0:List (St Try.prog):=[.c [0,1] (C31 (a0.1,a0.2) (by(try simp only [Lt]);omega) (by(try simp only [Lt]);omega))]
 cases h0:(((bN (a0.1,a0.2)):Int) != 0) with
 | true =>
  have q0:=bne_iff_ne.1 h0
  have e:=Eq.refl (aX a0);conv at e=>rhs;simp only [aX,h0,aK]
  rw [e]
  exact rt (t0++[.d h0]) [.slot 2 9] [3] hcx (by kernel_rfl)
 | false =>
  have q0:=bne_eq_false_iff_eq.1 h0
  have e:=Eq.refl (aX a0);conv at e=>rhs;simp only [aX,h0,aK]
  rw [e]
  exact rt (t0++[.d h0,.c [0,1] (C91 (a0.1,a0.2) (by(try simp only [Lt]);omega) (by(try simp only [Lt]);omega) (aDy h0).1 (aDy h0).2)]) [] [3] hcx (by kernel_rfl)
theorem aS5 (m:ME):aX m=bif ((bN m:Int) != 0) then([],bN m) else(m.2.map (iV m),0):=by
 unfold aX
 rw [show pI (m.1,m.2)=m.2.map (iV m) from aDw m]
theorem pJ (m:ME):(aX m).1.length≤96:=by
 rw [aS5]
 cases h:((bN m:Int) != 0) with
 | true=>exact Nat.zero_le _
 | false=>rw [cond_false];show(m.2.map _).length≤96;rw [List.length_map];exact(aDy h).2
def F16 (a0:Zm):Bool :=
 (bif (decide (((a0.1.length:Int):Int) > 200)) then
  true
 else
  (decide (((a0.2.length:Int):Int) > 300)))
theorem C16 (a0:Zm)(l0_1:a0.1.length≤9223372036854775807)(l0_2:a0.2.length≤9223372036854775807):Con Try.prog 16 [(.a [(.s 0 0 a0.1.length 3),(.s 1 0 a0.2.length 3)])] [(.live false true (flat cA a0.1)),(.live false true (flat cN a0.2))] (.v (.bool (F16 a0))) []:=by
 refine aI Try.func16 (by kernel_rfl) fun cx hcx=>?_
 cases h0:(decide (((a0.1.length:Int):Int) > 200)) with
 | true =>
  have q0:=eK h0
  have e:=Eq.refl (F16 a0);conv at e=>rhs;simp only [F16,h0,aK]
  rw [e]
  exact rt [.d h0] [] [] hcx (by kernel_rfl)
 | false =>
  have q0:=fK h0
  have e:=Eq.refl (F16 a0);conv at e=>rhs;simp only [F16,h0,aK]
  rw [e]
  exact rt [.d h0] [] [] hcx (by kernel_rfl)
theorem aXr {R:Type} [Inhabited R] {p:Int→Prop} [DecidablePred p] {G:Int→R} {M:Int} {S:Int×Int→(Int×Int)⊕R} (hS:∀k b,0≤k→0 < b→k+b≤M→S (k,b)=if p (k+b) then .inl (k+b,b / 2) else .inl (k,b / 2))(h0:∀k,0≤k→k≤M→S (k,0)=.inr (G k)) :
   ∀(j f:Nat) (k:Int),j+2≤f→0≤k→k+2*2 ^ j≤M→p k→¬p (k+2*2 ^ j)→∃r,0≤r∧r≤M∧p r∧¬p (r+1)∧aB S f (k,2 ^ j)=G r:=by
 intro j
 induction j with
 | zero =>
   intro f k hf hk hb h1 h2
   obtain⟨f,rfl⟩:∃g,f=g+2:=⟨f - 2,by omega⟩
   simp only [Int.pow_zero] at h2 hb ⊢
   have hs:=hS k 1 hk (by omega) (by omega)
   by_cases hc:p (k+1)
   · rw [if_pos hc] at hs
     rw [aC hs,show((1:Int) / 2)=0 by omega,aR (h0 _ (by omega) (by omega))]
     exact⟨k+1,by omega,by omega,hc,by rw [show k+1+1=k+2*1 by omega];exact h2,rfl⟩
   · rw [if_neg hc] at hs
     rw [aC hs,show((1:Int) / 2)=0 by omega,aR (h0 _ hk (by omega))]
     exact⟨k,hk,by omega,h1,hc,rfl⟩
 | succ j ih =>
   intro f k hf hk hb h1 h2
   obtain⟨f,rfl⟩:∃g,f=g+1:=⟨f - 1,by omega⟩
   have hp:(0:Int) < 2 ^ j:=Int.pow_pos (by omega)
   rw [Int.pow_succ] at h2 hb ⊢
   have hs:=hS k (2 ^ j*2) hk (by omega) (by omega)
   have hd:(2:Int) ^ j*2 / 2=2 ^ j:=Int.mul_ediv_cancel _ (by omega)
   rw [hd] at hs
   by_cases hc:p (k+2 ^ j*2)
   · rw [if_pos hc] at hs
     rw [aC hs]
     refine ih f _ (by omega) (by omega) (by omega) hc ?_
     rw [show k+2 ^ j*2+2*2 ^ j=k+2*((2:Int) ^ j*2) by omega];exact h2
   · rw [if_neg hc] at hs
     rw [aC hs]
     refine ih f _ (by omega) hk (by omega) h1 ?_
     rw [show k+2*(2:Int) ^ j=k+2 ^ j*2 by omega];exact hc
theorem aRb {b:Int} (h:0≤b∧b≤1099511627776):W (Int.tdiv b 2)=b / 2:=by rw [Int.tdiv_eq_ediv_of_nonneg (by omega),aD (by omega) (by omega)]
noncomputable def aJs:Code:=(aF [1,1,1,1,1,0,1] [] (aG Try.f33) []).1
noncomputable def aJt:List K:=(aF [1,1,1,1,1,0,1] [] (aG Try.f33) []).2
def aDz (a0:Int)(v1 v2:Int):LS:=⟨lZ 70 [(2,(.p 0 0)),(4,(iv (gE a0))),(5,(iv (W ((W (a0 - (W ((gE a0)*(gE a0)))))*2 ^ (min (toNat 40) 64))))),(6,(iv v1)),(7,(iv v2))],[(.live true false [(iv 0),(iv 0)])]⟩
def kT (a0:Int):Int×Int→(Int×Int)⊕((Int×Int)×Int)
 | (v1,v2) =>
  (bif (decide ((v2:Int) > 0)) then
   (bif (decide (((W ((W ((W ((W (2*(gE a0)))*(W (v1+v2))))*2 ^ (min (toNat 20) 64)))+(W ((W (v1+v2))*(W (v1+v2)))))):Int)≤(W ((W (a0 - (W ((gE a0)*(gE a0)))))*2 ^ (min (toNat 40) 64))))) then
    (.inl ((W (v1+v2)),(W (Int.tdiv v2 2))))
   else
    (.inl (v1,(W (Int.tdiv v2 2)))))
  else
   (bif (((W ((W ((W ((W (2*(gE a0)))*v1))*2 ^ (min (toNat 20) 64)))+(W (v1*v1)))):Int) == (W ((W (a0 - (W ((gE a0)*(gE a0)))))*2 ^ (min (toNat 40) 64)))) then
    (.inr ((qF (W ((W ((gE a0)*2 ^ (min (toNat 20) 64)))+v1)) (W ((W ((gE a0)*2 ^ (min (toNat 20) 64)))+v1))).1,(qF (W ((W ((gE a0)*2 ^ (min (toNat 20) 64)))+v1)) (W ((W ((gE a0)*2 ^ (min (toNat 20) 64)))+v1))).2))
   else
    (.inr ((qF (W ((W ((gE a0)*2 ^ (min (toNat 20) 64)))+v1)) (W ((W ((W ((gE a0)*2 ^ (min (toNat 20) 64)))+v1))+1))).1,(qF (W ((W ((gE a0)*2 ^ (min (toNat 20) 64)))+v1)) (W ((W ((W ((gE a0)*2 ^ (min (toNat 20) 64)))+v1))+1))).2))))
theorem aXs (a0:Int) {cx:Cx} (hcx:cx.base=0):∀(n:Nat)(v1 v2:Int),(0≤v2)∧(v2≤1099511627776)→toNat v2 < n→Aw.Good Try.prog none 9 (bodyPost Try.prog Try.f33 (RR cx (.t [(.a (k2 (aB (kT a0) n (v1,v2)).1)),(iv (aB (kT a0) n (v1,v2)).2)]) [] [])) cx [] (.l aJs n::aJt) (aDz a0 v1 v2):=by
 intro n
 induction n with
 | zero=>intro v1 v2 hi hn;exact absurd hn (nM _)
 | succ n ih =>
   intro v1 v2 hi hn
   refine aL ?_
   have hw1:=aRb (b:=v2) (by omega)
   cases h0:(decide ((v2:Int) > 0)) with
   | true =>
    have q0:=eK h0
    let t1:List (St Try.prog):=[.d h0,.p (show 0≤(20:Int) from by decide)]
    cases h1:(decide (((W ((W ((W ((W (2*(gE a0)))*(W (v1+v2))))*2 ^ (min (toNat 20) 64)))+(W ((W (v1+v2))*(W (v1+v2)))))):Int)≤(W ((W (a0 - (W ((gE a0)*(gE a0)))))*2 ^ (min (toNat 40) 64))))) with
    | true =>
     have q1:=eK h1
     have e:=Eq.refl (kT a0 (v1,v2));conv at e=>rhs;simp only [kT,h0,h1,aK]
     rw [aC e]
     refine ba (t1++[.d h1,.p (show(2:Int)≠0 from by decide)]) [] [2,4,5,6,7] [0] hcx (m:=n) aJs (aJt) (aDz a0 (W (v1+v2)) (W (Int.tdiv v2 2))) (by kernel_rfl) ?_
     exact ih (W (v1+v2)) (W (Int.tdiv v2 2)) (by refine⟨?_,?_⟩<;>(try simp only [Ls])<;>first | omega | assumption | simp) (by(try simp only [Ls]);omega)
    | false =>
     have q1:=fK h1
     have e:=Eq.refl (kT a0 (v1,v2));conv at e=>rhs;simp only [kT,h0,h1,aK]
     rw [aC e]
     refine ba (t1++[.d h1,.p (show(2:Int)≠0 from by decide)]) [] [2,4,5,6,7] [0] hcx (m:=n) aJs (aJt) (aDz a0 v1 (W (Int.tdiv v2 2))) (by kernel_rfl) ?_
     exact ih v1 (W (Int.tdiv v2 2)) (by refine⟨?_,?_⟩<;>(try simp only [Ls])<;>first | omega | assumption | simp) (by(try simp only [Ls]);omega)
   | false =>
    have q0:=fK h0
    let t1:List (St Try.prog):=[.d h0,.p (show 0≤(20:Int) from by decide),.p (show 0≤(20:Int) from by decide)]
    cases h1:(((W ((W ((W ((W (2*(gE a0)))*v1))*2 ^ (min (toNat 20) 64)))+(W (v1*v1)))):Int) == (W ((W (a0 - (W ((gE a0)*(gE a0)))))*2 ^ (min (toNat 40) 64)))) with
    | true =>
     have q1:=eq_of_beq h1
     have e:=Eq.refl (kT a0 (v1,v2));conv at e=>rhs;simp only [kT,h0,h1,aK]
     rw [aH,e]
     exact rt (t1++[.d h1,.c [] (C43 (W ((W ((gE a0)*2 ^ (min (toNat 20) 64)))+v1)) (W ((W ((gE a0)*2 ^ (min (toNat 20) 64)))+v1)))]) [] [] hcx (by kernel_rfl)
    | false =>
     have q1:=ne_of_beq_false h1
     have e:=Eq.refl (kT a0 (v1,v2));conv at e=>rhs;simp only [kT,h0,h1,aK]
     rw [aH,e]
     exact rt (t1++[.d h1,.c [] (C43 (W ((W ((gE a0)*2 ^ (min (toNat 20) 64)))+v1)) (W ((W ((W ((gE a0)*2 ^ (min (toNat 20) 64)))+v1))+1)))]) [] [] hcx (by kernel_rfl)
def rO (a0:Int):(Int×Int)×Int :=
 (bif (decide ((a0:Int) < 0)) then
  ((0,0),1)
 else
  (bif (decide ((a0:Int) > 1099511627776)) then
   ((0,0),1)
  else
   (aB (kT a0) (toNat 524288+1) (0,524288))))
theorem C33 (a0:Int):Con Try.prog 33 [(iv a0)] [] (.t [(.a (k2 (rO a0).1)),(iv (rO a0).2)]) []:=by
 refine aI Try.func33 (by kernel_rfl) fun cx hcx=>?_
 cases h0:(decide ((a0:Int) < 0)) with
 | true =>
  have q0:=eK h0
  have e:=Eq.refl (rO a0);conv at e=>rhs;simp only [rO,h0,aK]
  rw [e]
  exact rt [.d h0] [] [] hcx (by kernel_rfl)
 | false =>
  have q0:=fK h0
  let t1:List (St Try.prog):=[.d h0]
  cases h1:(decide ((a0:Int) > 1099511627776)) with
  | true =>
   have q1:=eK h1
   have e:=Eq.refl (rO a0);conv at e=>rhs;simp only [rO,h0,h1,aK]
   rw [e]
   exact rt (t1++[.d h1]) [] [] hcx (by kernel_rfl)
  | false =>
   have q1:=fK h1
   have e:=Eq.refl (rO a0);conv at e=>rhs;simp only [rO,h0,h1,aK]
   rw [e]
   refine en (t1++[.d h1,.c [] (C69 a0),.p (show 0≤(40:Int) from by decide)]) [] [2,4,5,6,7] [0] hcx aJs (aJt) (aDz a0 0 524288) (toNat 524288+1) (by kernel_rfl) ?_
   exact aXs a0 hcx (toNat 524288+1) 0 524288 (by refine⟨?_,?_⟩<;>(try simp only [Ls])<;>first | omega | assumption | simp) (by(try simp only [Ls]);omega)
def aBe (n r:Int):(Int×Int)×Int:=qF r (if r*r=n*1099511627776 then r else r+1)
theorem aN4 {n:Int} (h:0≤n∧n≤400000):∃r,IsRt (n*1099511627776) r∧rO n=aBe n r:=by
 have ha:=zZ (n:=n) h.1 (by omega)
 unfold rO
 rw [dL (by omega),dL (by omega),cond_false,cond_false]
 have hle:gE n≤1000:=ha.le (by omega) (by omega)
 have h0:=ha.1
 have h1:=ha.2.1
 have h2:=ha.2.2
 have p20:(2:Int) ^ (min (toNat 20) 64)=1048576:=by decide
 have p40:(2:Int) ^ (min (toNat 40) 64)=1099511627776:=by decide
 generalize ea:gE n=a at *
 have haa:0≤a*a:=Int.mul_nonneg h0 h0
 have ex:(a+1)*(a+1)=a*a+2*a+1:=by grind
 have key:∀f:Int,0≤f→f≤1048576→W ((W ((W ((W (2*a))*(W f)))*2 ^ (min (toNat 20) 64)))+(W ((W f)*(W f))))=(a*1048576+f)*(a*1048576+f) - a*a*1099511627776:=by
   intro f f0 f1
   have m1:=aU (a:=1000) (b:=1048576) (x:=a) (y:=f) ⟨by omega,by omega⟩ ⟨by omega,by omega⟩
   have m2:=aU (a:=1048576) (b:=1048576) (x:=f) (y:=f) ⟨by omega,by omega⟩ ⟨by omega,by omega⟩
   have e1:2*a*f=2*(a*f):=by grind
   rw [p20,aD (n:=f) (by omega) (by omega),aD (n:=2*a) (by omega) (by omega),e1,aD (n:=2*(a*f)) (by omega) (by omega),aD (n:=2*(a*f)*1048576) (by omega) (by omega),aD (n:=f*f) (by omega) (by omega),aD (by omega) (by omega)]
   grind
 have rest:W ((W (n - (W (a*a))))*2 ^ (min (toNat 40) 64))=n*1099511627776 - a*a*1099511627776:=by
   rw [p40,aD (n:=a*a) (by omega) (by omega),aD (n:=n - a*a) (by omega) (by omega),aD (by omega) (by omega)]
   omega
 have key0:∀f:Int,0≤f→f≤1048576→W ((W ((W ((W (2*a))*f))*2 ^ (min (toNat 20) 64)))+(W (f*f)))=(a*1048576+f)*(a*1048576+f) - a*a*1099511627776:=by
   intro f f0 f1
   have:=key f f0 f1
   rwa [aD (n:=f) (by omega) (by omega)] at this
 have A20:W (a*2 ^ (min (toNat 20) 64))=a*1048576:=by rw [p20,aD (by omega) (by omega)]
 obtain⟨f,f0,f1,g1,g2,e⟩:=aXr (p:=fun f=>(a*1048576+f)*(a*1048576+f)≤n*1099511627776) (G:=fun f=>aBe n (a*1048576+f)) (M:=1048576) (S:=kT n) (fun k b hk hb hkb=>by
     simp only [kT,ea]
     rw [cV (show b > 0 from hb),cond_true,key (k+b) (by omega) (by omega),rest,aD (n:=k+b) (by omega) (by omega),Int.tdiv_eq_ediv_of_nonneg (by omega),aD (n:=b / 2) (by omega) (by omega)]
     by_cases hc:(a*1048576+(k+b))*(a*1048576+(k+b))≤n*1099511627776
     · rw [if_pos hc,cV (by omega),cond_true]
     · rw [if_neg hc,dL (by omega),cond_false])
   (fun k hk hk2=>by
     simp only [kT,ea]
     rw [dL (by omega),cond_false,key0 k hk hk2,rest,A20,aD (n:=a*1048576+k) (by omega) (by omega),aD (n:=a*1048576+k+1) (by omega) (by omega)]
     unfold aBe
     by_cases hc:(a*1048576+k)*(a*1048576+k)=n*1099511627776
     · rw [if_pos hc,hc,beq_self_eq_true,cond_true]
     · rw [if_neg hc,beq_eq_false_iff_ne.2 (by omega),cond_false])
   19 (toNat 524288+1) 0 (by decide) (by omega) (by decide) (by
     have:(a*1048576+0)*(a*1048576+0)=a*a*1099511627776:=by grind
     omega) (by
     have:(a*1048576+(0+2*2 ^ 19))*(a*1048576+(0+2*2 ^ 19))=(a+1)*(a+1)*1099511627776:=by grind
     rw [this];omega)
 refine⟨a*1048576+f,⟨by omega,g1,?_⟩,e⟩
 rw [show a*1048576+f+1=a*1048576+(f+1) by omega]
 omega
theorem tO {m:ME} (h:((bN m:Int) != 0)=false):1≤m.1.length∧m.1.length≤64:=by
 obtain⟨h1,h2,h3,_,h4⟩:=bI (bne_eq_false_iff_eq.1 h)
 have:=(aDy h).1 0 (Int.le_refl 0) (by omega)
 exact⟨by omega,h1⟩
def oL (a0:Int)(a1:Int)(a2:Int):Bool :=
 (bif (decide ((a0:Int)≥a1)) then
  (decide ((a0:Int)≤a2))
 else
  false)
theorem C32 (a0:Int)(a1:Int)(a2:Int):Con Try.prog 32 [(iv a0),(iv a1),(iv a2)] [] (.v (.bool (oL a0 a1 a2))) []:=by
 refine aI Try.func32 (by kernel_rfl) fun cx hcx=>?_
 cases h0:(decide ((a0:Int)≥a1)) with
 | true =>
  have q0:=eK h0
  have e:=Eq.refl (oL a0 a1 a2);conv at e=>rhs;simp only [oL,h0,aK]
  rw [e]
  exact rt [.d h0] [] [] hcx (by kernel_rfl)
 | false =>
  have q0:=fK h0
  have e:=Eq.refl (oL a0 a1 a2);conv at e=>rhs;simp only [oL,h0,aK]
  rw [e]
  exact rt [.d h0] [] [] hcx (by kernel_rfl)
theorem rP {d:Int} {a b:Int} (h:(!oL d a b)=false):a≤d∧d≤b:=by
 unfold oL at h
 by_cases h1:d≥a
 · by_cases h2:d≤b
   · exact⟨h1,h2⟩
   · rw [cV h1,dL h2] at h;simp at h
 · rw [dL h1] at h;simp at h
def c3 (x:Int):List SV:=[(iv x)]
theorem oM (x:Int):(c3 x).length=1:=rfl
noncomputable def aD0:Code:=(aF [1,1,1,1,0,1] [] (aG Try.f55) []).1
noncomputable def aD1:List K:=(aF [1,1,1,1,0,1] [] (aG Try.f55) []).2
def aAo (a0:Zm)(a1:List (Int))(v1 v2:Int):LS:=⟨lZ 35 [(6,(iv v1)),(20,(.s 2 0 a1.length 1)),(21,(iv (a1.length:Int))),(22,(iv v2))],[(.live false true (flat cA a0.1)),(.live false true (flat cN a0.2)),(.live false true (flat c3 a1))]⟩
def fR (a0:Zm)(a1:List (Int)):Int×Int→(Int×Int)⊕(Int)
 | (v1,v2) =>
  (bif (decide ((v2:Int) < (a1.length:Int))) then
   (bif (!(oL (a1.getD (toNat v2) default) 0 100)) then
    (.inr 1)
   else
    (.inl ((W (v1+(a1.getD (toNat v2) default))),(v2+1))))
  else
   (bif ((v1:Int) == 0) then
    (.inr 11)
   else
    (.inr 0)))
theorem aRc (a0:Zm)(a1:List (Int))(l0_1:a0.1.length≤9223372036854775807)(l0_2:a0.2.length≤9223372036854775807)(l1:a1.length≤9223372036854775807) {cx:Cx} (hcx:cx.base=3):∀(n:Nat)(v1 v2:Int),0≤v2→toNat ((a1.length:Int) - v2) < n→Aw.Good Try.prog none 9 (bodyPost Try.prog Try.f55 (RR cx (iv (aB (fR a0 a1) n (v1,v2))) [] [])) cx [] (.l aD0 n::aD1) (aAo a0 a1 v1 v2):=by
 intro n
 induction n with
 | zero=>intro v1 v2 hi hn;exact absurd hn (nM _)
 | succ n ih =>
   intro v1 v2 hi hn
   refine aL ?_
   cases h0:(decide ((v2:Int) < (a1.length:Int))) with
   | true =>
    have q0:=eK h0
    let t1:List (St Try.prog):=[.d h0,.i v2 (a1.length),.L oM a1 v2 0 1,.c [] (C32 (a1.getD (toNat v2) default) 0 100)]
    cases h1:(!(oL (a1.getD (toNat v2) default) 0 100)) with
    | true =>
     have e:=Eq.refl (fR a0 a1 (v1,v2));conv at e=>rhs;simp only [fR,h0,h1,aK]
     rw [aH,e]
     exact rt (t1++[.d h1]) [] [] hcx (by kernel_rfl)
    | false =>
     have e:=Eq.refl (fR a0 a1 (v1,v2));conv at e=>rhs;simp only [fR,h0,h1,aK]
     rw [aC e]
     refine ba (t1++[.d h1]) [] [6,20,21,22] [] hcx (m:=n) aD0 (aD1) (aAo a0 a1 (W (v1+(a1.getD (toNat v2) default))) (W (v2+1))) (by kernel_rfl) ?_
     have z0:(W (v2+1))=(v2+1):=aD (by omega) (by omega)
     rw [z0]
     exact ih (W (v1+(a1.getD (toNat v2) default))) (v2+1) (by(try simp only [Ls]);omega) (by(try simp only [Ls]);omega)
   | false =>
    have q0:=fK h0
    let t1:List (St Try.prog):=[.d h0]
    cases h1:((v1:Int) == 0) with
    | true =>
     have q1:=eq_of_beq h1
     have e:=Eq.refl (fR a0 a1 (v1,v2));conv at e=>rhs;simp only [fR,h0,h1,aK]
     rw [aH,e]
     exact rt (t1++[.d h1]) [] [] hcx (by kernel_rfl)
    | false =>
     have q1:=ne_of_beq_false h1
     have e:=Eq.refl (fR a0 a1 (v1,v2));conv at e=>rhs;simp only [fR,h0,h1,aK]
     rw [aH,e]
     exact rt (t1++[.d h1]) [] [] hcx (by kernel_rfl)
def lS (a0:Zm)(a1:List (Int)):Int :=
 (bif (((bN (a0.1,a0.2)):Int) != 0) then
  (bN (a0.1,a0.2))
 else
  (bif (((a1.length:Int):Int) != (a0.2.length:Int)) then
   1
  else
   (aB (fR a0 a1) (toNat ((a1.length:Int) - 0)+1) (0,0))))
theorem aXt (a0:Zm)(a1:List (Int))(l0_1:a0.1.length≤9223372036854775807)(l0_2:a0.2.length≤9223372036854775807)(l1:a1.length≤9223372036854775807):Con Try.prog 55 [(.a [(.s 0 0 a0.1.length 3),(.s 1 0 a0.2.length 3)]),(.s 2 0 a1.length 1)] [(.live false true (flat cA a0.1)),(.live false true (flat cN a0.2)),(.live false true (flat c3 a1))] (iv (lS a0 a1)) []:=by
 refine aI Try.func55 (by kernel_rfl) fun cx hcx=>?_
 let t0:List (St Try.prog):=[.c [0,1] (C31 (a0.1,a0.2) (by(try simp only [Lt]);omega) (by(try simp only [Lt]);omega))]
 cases h0:(((bN (a0.1,a0.2)):Int) != 0) with
 | true =>
  have q0:=bne_iff_ne.1 h0
  have e:=Eq.refl (lS a0 a1);conv at e=>rhs;simp only [lS,h0,aK]
  rw [e]
  exact rt (t0++[.d h0]) [] [] hcx (by kernel_rfl)
 | false =>
  have q0:=bne_eq_false_iff_eq.1 h0
  let t1:List (St Try.prog):=(t0++[.d h0])
  cases h1:(((a1.length:Int):Int) != (a0.2.length:Int)) with
  | true =>
   have q1:=bne_iff_ne.1 h1
   have e:=Eq.refl (lS a0 a1);conv at e=>rhs;simp only [lS,h0,h1,aK]
   rw [e]
   exact rt (t1++[.d h1]) [] [] hcx (by kernel_rfl)
  | false =>
   have q1:=bne_eq_false_iff_eq.1 h1
   have e:=Eq.refl (lS a0 a1);conv at e=>rhs;simp only [lS,h0,h1,aK]
   rw [e]
   refine en (t1++[.d h1]) [] [6,20,21,22] [] hcx aD0 (aD1) (aAo a0 a1 0 0) (toNat ((a1.length:Int) - 0)+1) (by kernel_rfl) ?_
   exact aRc a0 a1 l0_1 l0_2 l1 hcx (toNat ((a1.length:Int) - 0)+1) 0 0 (by(try simp only [Ls]);omega) (by(try simp only [Ls]);omega)
def eV (a0:Zm)(a1:List (Int))(a2:Int):Int :=
 (bif (((lS (a0.1,a0.2) a1):Int) != 0) then
  (lS (a0.1,a0.2) a1)
 else
  (bif (!(oL a2 0 2)) then
   1
  else
   0))
theorem aXu (a0:Zm)(a1:List (Int))(a2:Int)(l0_1:a0.1.length≤9223372036854775807)(l0_2:a0.2.length≤9223372036854775807)(l1:a1.length≤9223372036854775807):Con Try.prog 28 [(.a [(.s 0 0 a0.1.length 3),(.s 1 0 a0.2.length 3)]),(.s 2 0 a1.length 1),(iv a2)] [(.live false true (flat cA a0.1)),(.live false true (flat cN a0.2)),(.live false true (flat c3 a1))] (iv (eV a0 a1 a2)) []:=by
 refine aI Try.func28 (by kernel_rfl) fun cx hcx=>?_
 let t0:List (St Try.prog):=[.c [0,1,2] (aXt (a0.1,a0.2) a1 (by(try simp only [Lt]);omega) (by(try simp only [Lt]);omega) (by omega))]
 cases h0:(((lS (a0.1,a0.2) a1):Int) != 0) with
 | true =>
  have q0:=bne_iff_ne.1 h0
  have e:=Eq.refl (eV a0 a1 a2);conv at e=>rhs;simp only [eV,h0,aK]
  rw [e]
  exact rt (t0++[.d h0]) [] [] hcx (by kernel_rfl)
 | false =>
  have q0:=bne_eq_false_iff_eq.1 h0
  let t1:List (St Try.prog):=(t0++[.d h0,.c [] (C32 a2 0 2)])
  cases h1:(!(oL a2 0 2)) with
  | true =>
   have e:=Eq.refl (eV a0 a1 a2);conv at e=>rhs;simp only [eV,h0,h1,aK]
   rw [e]
   exact rt (t1++[.d h1]) [] [] hcx (by kernel_rfl)
  | false =>
   have e:=Eq.refl (eV a0 a1 a2);conv at e=>rhs;simp only [eV,h0,h1,aK]
   rw [e]
   exact rt (t1++[.d h1]) [] [] hcx (by kernel_rfl)
def F86 (a0:Int):Int×Int :=
 (bif (decide ((a0:Int) > 1099511627776)) then
  (0,4)
 else
  (a0,0))
theorem C86 (a0:Int):Con Try.prog 86 [(iv a0)] [] (.t (k2 (F86 a0))) []:=by
 refine aI Try.func86 (by kernel_rfl) fun cx hcx=>?_
 cases h0:(decide ((a0:Int) > 1099511627776)) with
 | true =>
  have q0:=eK h0
  have e:=Eq.refl (F86 a0);conv at e=>rhs;simp only [F86,h0,aK]
  rw [e]
  exact rt [.d h0] [] [] hcx (by kernel_rfl)
 | false =>
  have q0:=fK h0
  have e:=Eq.refl (F86 a0);conv at e=>rhs;simp only [F86,h0,aK]
  rw [e]
  exact rt [.d h0] [] [] hcx (by kernel_rfl)
noncomputable def aD2:Code:=(aF [1,1,0,1] [] (aG Try.f87) []).1
noncomputable def aD3:List K:=(aF [1,1,0,1] [] (aG Try.f87) []).2
def aAp (a0:List (Int))(v1 v2:Int):LS:=⟨lZ 19 [(3,(iv v1)),(6,(.s 0 0 a0.length 1)),(7,(iv (a0.length:Int))),(8,(iv v2))],[(.live false true (flat c3 a0))]⟩
def kU (a0:List (Int)):Int×Int→(Int×Int)⊕(Int)
 | (v1,v2) =>
  (bif (decide ((v2:Int) < (a0.length:Int))) then
   (.inl ((W (v1+(a0.getD (toNat v2) default))),(v2+1)))
  else
   (.inr (W ((W (v1*1048576))*1048576))))
theorem aRd (a0:List (Int))(l0:a0.length≤9223372036854775807) {cx:Cx} (hcx:cx.base=1):∀(n:Nat)(v1 v2:Int),0≤v2→toNat ((a0.length:Int) - v2) < n→Aw.Good Try.prog none 9 (bodyPost Try.prog Try.f87 (RR cx (iv (aB (kU a0) n (v1,v2))) [] [])) cx [] (.l aD2 n::aD3) (aAp a0 v1 v2):=by
 intro n
 induction n with
 | zero=>intro v1 v2 hi hn;exact absurd hn (nM _)
 | succ n ih =>
   intro v1 v2 hi hn
   refine aL ?_
   cases h0:(decide ((v2:Int) < (a0.length:Int))) with
   | true =>
    have q0:=eK h0
    have e:=Eq.refl (kU a0 (v1,v2));conv at e=>rhs;simp only [kU,h0,aK]
    rw [aC e]
    refine ba [.d h0,.i v2 (a0.length),.L oM a0 v2 0 1] [] [3,6,7,8] [] hcx (m:=n) aD2 (aD3) (aAp a0 (W (v1+(a0.getD (toNat v2) default))) (W (v2+1))) (by kernel_rfl) ?_
    have z0:(W (v2+1))=(v2+1):=aD (by omega) (by omega)
    rw [z0]
    exact ih (W (v1+(a0.getD (toNat v2) default))) (v2+1) (by(try simp only [Ls]);omega) (by(try simp only [Ls]);omega)
   | false =>
    have q0:=fK h0
    have e:=Eq.refl (kU a0 (v1,v2));conv at e=>rhs;simp only [kU,h0,aK]
    rw [aH,e]
    exact rt [.d h0] [] [] hcx (by kernel_rfl)
def cR (a0:List (Int)):Int :=
 (aB (kU a0) (toNat ((a0.length:Int) - 0)+1) (0,0))
theorem aN5 (a0:List (Int))(l0:a0.length≤9223372036854775807):Con Try.prog 87 [(.s 0 0 a0.length 1)] [(.live false true (flat c3 a0))] (iv (cR a0)) []:=by
 refine aI Try.func87 (by kernel_rfl) fun cx hcx=>?_
 have e:=Eq.refl (cR a0);conv at e=>rhs;simp only [cR]
 rw [e]
 refine en [] [] [3,6,7,8] [] hcx aD2 (aD3) (aAp a0 0 0) (toNat ((a0.length:Int) - 0)+1) (by kernel_rfl) ?_
 exact aRd a0 l0 hcx (toNat ((a0.length:Int) - 0)+1) 0 0 (by(try simp only [Ls]);omega) (by(try simp only [Ls]);omega)
noncomputable def aUr:Code:=(aF [1,1,1,1,0,1] [] (aG Try.f9) []).1
noncomputable def aUs:List K:=(aF [1,1,1,1,0,1] [] (aG Try.f9) []).2
def aN6 (a0:Zm)(a1:Zt)(v1 v2:Int):LS:=⟨lZ 82 [(3,(.p 2 0)),(9,(iv v1)),(39,(.s 0 0 a0.1.length 3)),(40,(iv (a0.1.length:Int))),(41,(iv v2))],[(.live false true (flat cA a0.1)),(.live false true (flat cN a0.2)),(.live true false (k3 a1))]⟩
def vE (a0:Zm)(a1:Zt):Int×Int→(Int×Int)⊕(Int×Int)
 | (v1,v2) =>
  (bif (decide ((v2:Int) < (a0.1.length:Int))) then
   (.inl ((qD v1 (W ((W ((W ((W ((a0.1.getD (toNat v2) default).1 - a1.1))*(W ((a0.1.getD (toNat v2) default).1 - a1.1))))+(W ((W ((a0.1.getD (toNat v2) default).2.1 - a1.2.1))*(W ((a0.1.getD (toNat v2) default).2.1 - a1.2.1))))))+(W ((W ((a0.1.getD (toNat v2) default).2.2 - a1.2.2))*(W ((a0.1.getD (toNat v2) default).2.2 - a1.2.2))))))),(v2+1)))
  else
   (.inr ((rO v1).1.2,(rO v1).2)))
theorem aZz (a0:Zm)(a1:Zt)(l0_1:a0.1.length≤9223372036854775807)(l0_2:a0.2.length≤9223372036854775807) {cx:Cx} (hcx:cx.base=2):∀(n:Nat)(v1 v2:Int),0≤v2→toNat ((a0.1.length:Int) - v2) < n→Aw.Good Try.prog none 9 (bodyPost Try.prog Try.f9 (RR cx (.t (k2 (aB (vE a0 a1) n (v1,v2)))) [] [])) cx [] (.l aUr n::aUs) (aN6 a0 a1 v1 v2):=by
 intro n
 induction n with
 | zero=>intro v1 v2 hi hn;exact absurd hn (nM _)
 | succ n ih =>
   intro v1 v2 hi hn
   refine aL ?_
   cases h0:(decide ((v2:Int) < (a0.1.length:Int))) with
   | true =>
    have q0:=eK h0
    have e:=Eq.refl (vE a0 a1 (v1,v2));conv at e=>rhs;simp only [vE,h0,aK]
    rw [aC e]
    refine ba [.d h0,.i v2 (a0.1.length),.L dQ a0.1 v2 0 3] [] [3,9,39,40,41] [2] hcx (m:=n) aUr (aUs) (aN6 a0 a1 (qD v1 (W ((W ((W ((W ((a0.1.getD (toNat v2) default).1 - a1.1))*(W ((a0.1.getD (toNat v2) default).1 - a1.1))))+(W ((W ((a0.1.getD (toNat v2) default).2.1 - a1.2.1))*(W ((a0.1.getD (toNat v2) default).2.1 - a1.2.1))))))+(W ((W ((a0.1.getD (toNat v2) default).2.2 - a1.2.2))*(W ((a0.1.getD (toNat v2) default).2.2 - a1.2.2))))))) (W (v2+1))) (by kernel_rfl) ?_
    have z0:(W (v2+1))=(v2+1):=aD (by omega) (by omega)
    rw [z0]
    exact ih (qD v1 (W ((W ((W ((W ((a0.1.getD (toNat v2) default).1 - a1.1))*(W ((a0.1.getD (toNat v2) default).1 - a1.1))))+(W ((W ((a0.1.getD (toNat v2) default).2.1 - a1.2.1))*(W ((a0.1.getD (toNat v2) default).2.1 - a1.2.1))))))+(W ((W ((a0.1.getD (toNat v2) default).2.2 - a1.2.2))*(W ((a0.1.getD (toNat v2) default).2.2 - a1.2.2))))))) (v2+1) (by(try simp only [Ls]);omega) (by(try simp only [Ls]);omega)
   | false =>
    have q0:=fK h0
    have e:=Eq.refl (vE a0 a1 (v1,v2));conv at e=>rhs;simp only [vE,h0,aK]
    rw [aH,e]
    exact rt [.d h0,.c [] (C33 v1)] [] [] hcx (by kernel_rfl)
def F9 (a0:Zm)(a1:Zt):Int×Int :=
 (bif (((bN (a0.1,a0.2)):Int) != 0) then
  (0,(bN (a0.1,a0.2)))
 else
  (bif (!(oL a1.1 (-256) 256)) then
   (0,1)
  else
   (bif (!(oL a1.2.1 (-256) 256)) then
    (0,1)
   else
    (bif (!(oL a1.2.2 (-256) 256)) then
     (0,1)
    else
     (aB (vE a0 a1) (toNat ((a0.1.length:Int) - 0)+1) (0,0))))))
theorem C9 (a0:Zm)(a1:Zt)(l0_1:a0.1.length≤9223372036854775807)(l0_2:a0.2.length≤9223372036854775807):Con Try.prog 9 [(.a [(.s 0 0 a0.1.length 3),(.s 1 0 a0.2.length 3)]),(.a (k3 a1))] [(.live false true (flat cA a0.1)),(.live false true (flat cN a0.2))] (.t (k2 (F9 a0 a1))) []:=by
 refine aI Try.func9 (by kernel_rfl) fun cx hcx=>?_
 let t0:List (St Try.prog):=[.c [0,1] (C31 (a0.1,a0.2) (by(try simp only [Lt]);omega) (by(try simp only [Lt]);omega))]
 cases h0:(((bN (a0.1,a0.2)):Int) != 0) with
 | true =>
  have q0:=bne_iff_ne.1 h0
  have e:=Eq.refl (F9 a0 a1);conv at e=>rhs;simp only [F9,h0,aK]
  rw [e]
  exact rt (t0++[.d h0]) [] [] hcx (by kernel_rfl)
 | false =>
  have q0:=bne_eq_false_iff_eq.1 h0
  let t1:List (St Try.prog):=(t0++[.d h0,.u 200,.T,.i 0 3 (by decide),.c [] (C32 a1.1 (-256) 256)])
  cases h1:(!(oL a1.1 (-256) 256)) with
  | true =>
   have e:=Eq.refl (F9 a0 a1);conv at e=>rhs;simp only [F9,h0,h1,aK]
   rw [e]
   exact rt (t1++[.d h1]) [] [] hcx (by kernel_rfl)
  | false =>
   let t2:List (St Try.prog):=(t1++[.d h1,.u 0,.T,.i 1 3 (by decide),.c [] (C32 a1.2.1 (-256) 256)])
   cases h2:(!(oL a1.2.1 (-256) 256)) with
   | true =>
    have e:=Eq.refl (F9 a0 a1);conv at e=>rhs;simp only [F9,h0,h1,h2,aK]
    rw [e]
    exact rt (t2++[.d h2]) [] [] hcx (by kernel_rfl)
   | false =>
    let t3:List (St Try.prog):=(t2++[.d h2,.u 0,.T,.i 2 3 (by decide),.c [] (C32 a1.2.2 (-256) 256)])
    cases h3:(!(oL a1.2.2 (-256) 256)) with
    | true =>
     have e:=Eq.refl (F9 a0 a1);conv at e=>rhs;simp only [F9,h0,h1,h2,h3,aK]
     rw [e]
     exact rt (t3++[.d h3]) [] [] hcx (by kernel_rfl)
    | false =>
     have e:=Eq.refl (F9 a0 a1);conv at e=>rhs;simp only [F9,h0,h1,h2,h3,aK]
     rw [e]
     refine en (t3++[.d h3,.u 0,.F]) [] [3,9,39,40,41] [3] hcx aUr (aUs) (aN6 a0 a1 0 0) (toNat ((a0.1.length:Int) - 0)+1) (by kernel_rfl) ?_
     exact aZz a0 a1 l0_1 l0_2 hcx (toNat ((a0.1.length:Int) - 0)+1) 0 0 (by(try simp only [Ls]);omega) (by(try simp only [Ls]);omega)
noncomputable def aN7:Code:=(aF [1,1,1,0,1] [] (aG Try.f59) []).1
noncomputable def aN8:List K:=(aF [1,1,1,0,1] [] (aG Try.f59) []).2
def aH7 (a0:Zm)(v1 v2 v3 v4 v5 v6 v7:Int):LS:=⟨lZ 65 [(2,(.p 2 0)),(3,(.p 3 0)),(24,(.s 0 0 a0.1.length 3)),(25,(iv (a0.1.length:Int))),(26,(iv v1))],[(.live false true (flat cA a0.1)),(.live false true (flat cN a0.2)),(.live true false [(iv v2),(iv v3),(iv v4)]),(.live true false [(iv v5),(iv v6),(iv v7)])]⟩
def oN (a0:Zm):Int×Int×Int×Int×Zt→(Int×Int×Int×Int×Zt)⊕(Zt×Zt×Int)
 | (v1,v2,v3,v4,v5,v6,v7) =>
  (bif (decide ((v1:Int) < (a0.1.length:Int))) then
   (.inl ((v1+1),(if((a0.1.getD (toNat v1) default).1:Int) < v2 then(a0.1.getD (toNat v1) default).1 else v2),(if((a0.1.getD (toNat v1) default).2.1:Int) < v3 then(a0.1.getD (toNat v1) default).2.1 else v3),(if((a0.1.getD (toNat v1) default).2.2:Int) < v4 then(a0.1.getD (toNat v1) default).2.2 else v4),(if(v5:Int) < (a0.1.getD (toNat v1) default).1 then(a0.1.getD (toNat v1) default).1 else v5),(if(v6:Int) < (a0.1.getD (toNat v1) default).2.1 then(a0.1.getD (toNat v1) default).2.1 else v6),(if(v7:Int) < (a0.1.getD (toNat v1) default).2.2 then(a0.1.getD (toNat v1) default).2.2 else v7)))
  else
   (.inr ((v2,v3,v4),(v5,v6,v7),0)))
theorem aXv (a0:Zm)(l0_1:a0.1.length≤9223372036854775807)(l0_2:a0.2.length≤9223372036854775807) {cx:Cx} (hcx:cx.base=2):∀(n:Nat)(v1 v2 v3 v4 v5 v6 v7:Int),0≤v1→toNat ((a0.1.length:Int) - v1) < n→Aw.Good Try.prog none 9 (bodyPost Try.prog Try.f59 (RR cx (.t [(.a (k3 (aB (oN a0) n (v1,v2,v3,v4,v5,v6,v7)).1)),(.a (k3 (aB (oN a0) n (v1,v2,v3,v4,v5,v6,v7)).2.1)),(iv (aB (oN a0) n (v1,v2,v3,v4,v5,v6,v7)).2.2)]) [] [])) cx [] (.l aN7 n::aN8) (aH7 a0 v1 v2 v3 v4 v5 v6 v7):=by
 intro n
 induction n with
 | zero=>intro v1 v2 v3 v4 v5 v6 v7 hi hn;exact absurd hn (nM _)
 | succ n ih =>
   intro v1 v2 v3 v4 v5 v6 v7 hi hn
   refine aL ?_
   cases h0:(decide ((v1:Int) < (a0.1.length:Int))) with
   | true =>
    have q0:=eK h0
    have e:=Eq.refl (oN a0 (v1,v2,v3,v4,v5,v6,v7));conv at e=>rhs;simp only [oN,h0,aK]
    rw [aC e]
    refine ba [.d h0,.i v1 (a0.1.length),.L dQ a0.1 v1 0 3] [] [2,3,24,25,26] [2,3] hcx (m:=n) aN7 (aN8) (aH7 a0 (W (v1+1)) (if((a0.1.getD (toNat v1) default).1:Int) < v2 then(a0.1.getD (toNat v1) default).1 else v2) (if((a0.1.getD (toNat v1) default).2.1:Int) < v3 then(a0.1.getD (toNat v1) default).2.1 else v3) (if((a0.1.getD (toNat v1) default).2.2:Int) < v4 then(a0.1.getD (toNat v1) default).2.2 else v4) (if(v5:Int) < (a0.1.getD (toNat v1) default).1 then(a0.1.getD (toNat v1) default).1 else v5) (if(v6:Int) < (a0.1.getD (toNat v1) default).2.1 then(a0.1.getD (toNat v1) default).2.1 else v6) (if(v7:Int) < (a0.1.getD (toNat v1) default).2.2 then(a0.1.getD (toNat v1) default).2.2 else v7)) (by kernel_rfl) ?_
    have z0:(W (v1+1))=(v1+1):=aD (by omega) (by omega)
    rw [z0]
    exact ih (v1+1) (if((a0.1.getD (toNat v1) default).1:Int) < v2 then(a0.1.getD (toNat v1) default).1 else v2) (if((a0.1.getD (toNat v1) default).2.1:Int) < v3 then(a0.1.getD (toNat v1) default).2.1 else v3) (if((a0.1.getD (toNat v1) default).2.2:Int) < v4 then(a0.1.getD (toNat v1) default).2.2 else v4) (if(v5:Int) < (a0.1.getD (toNat v1) default).1 then(a0.1.getD (toNat v1) default).1 else v5) (if(v6:Int) < (a0.1.getD (toNat v1) default).2.1 then(a0.1.getD (toNat v1) default).2.1 else v6) (if(v7:Int) < (a0.1.getD (toNat v1) default).2.2 then(a0.1.getD (toNat v1) default).2.2 else v7) (by(try simp only [Ls]);omega) (by(try simp only [Ls]);omega)
   | false =>
    have q0:=fK h0
    have e:=Eq.refl (oN a0 (v1,v2,v3,v4,v5,v6,v7));conv at e=>rhs;simp only [oN,h0,aK]
    rw [aH,e]
    exact rt [.d h0] [] [] hcx (by kernel_rfl)
def qS (a0:Zm):Zt×Zt×Int :=
 (bif (((bN (a0.1,a0.2)):Int) != 0) then
  ((0,0,0),(0,0,0),(bN (a0.1,a0.2)))
 else
  (aB (oN a0) (toNat ((a0.1.length:Int) - 0)+1) (0,(a0.1.getD (toNat 0) default).1,(a0.1.getD (toNat 0) default).2.1,(a0.1.getD (toNat 0) default).2.2,(a0.1.getD (toNat 0) default).1,(a0.1.getD (toNat 0) default).2.1,(a0.1.getD (toNat 0) default).2.2)))
theorem C59 (a0:Zm)(l0_1:a0.1.length≤9223372036854775807)(l0_2:a0.2.length≤9223372036854775807):Con Try.prog 59 [(.a [(.s 0 0 a0.1.length 3),(.s 1 0 a0.2.length 3)])] [(.live false true (flat cA a0.1)),(.live false true (flat cN a0.2))] (.t [(.a (k3 (qS a0).1)),(.a (k3 (qS a0).2.1)),(iv (qS a0).2.2)]) []:=by
 refine aI Try.func59 (by kernel_rfl) fun cx hcx=>?_
 try have hp1:1≤a0.1.length:=(tO h0).1
 let t0:List (St Try.prog):=[.c [0,1] (C31 (a0.1,a0.2) (by(try simp only [Lt]);omega) (by(try simp only [Lt]);omega))]
 cases h0:(((bN (a0.1,a0.2)):Int) != 0) with
 | true =>
  have q0:=bne_iff_ne.1 h0
  try have hp1:1≤a0.1.length:=(tO h0).1
  have e:=Eq.refl (qS a0);conv at e=>rhs;simp only [qS,h0,aK]
  rw [e]
  exact rt (t0++[.d h0]) [] [] hcx (by kernel_rfl)
 | false =>
  have q0:=bne_eq_false_iff_eq.1 h0
  try have hp1:1≤a0.1.length:=(tO h0).1
  have e:=Eq.refl (qS a0);conv at e=>rhs;simp only [qS,h0,aK]
  rw [e]
  refine en (t0++[.d h0,.i 0 (a0.1.length),.L dQ a0.1 0 0 3,.i 0 (a0.1.length),.L dQ a0.1 0 0 3]) [] [2,3,24,25,26] [3,4] hcx aN7 (aN8) (aH7 a0 0 ((a0.1.getD (toNat 0) default).1) ((a0.1.getD (toNat 0) default).2.1) ((a0.1.getD (toNat 0) default).2.2) ((a0.1.getD (toNat 0) default).1) ((a0.1.getD (toNat 0) default).2.1) ((a0.1.getD (toNat 0) default).2.2)) (toNat ((a0.1.length:Int) - 0)+1) (by kernel_rfl) ?_
  exact aXv a0 l0_1 l0_2 hcx (toNat ((a0.1.length:Int) - 0)+1) 0 ((a0.1.getD (toNat 0) default).1) ((a0.1.getD (toNat 0) default).2.1) ((a0.1.getD (toNat 0) default).2.2) ((a0.1.getD (toNat 0) default).1) ((a0.1.getD (toNat 0) default).2.1) ((a0.1.getD (toNat 0) default).2.2) (by(try simp only [Ls]);omega) (by(try simp only [Ls]);omega)
def F17 (a0:Zm)(a1:Int):Int×Int :=
 (bif (((bN (a0.1,a0.2)):Int) != 0) then
  (0,(bN (a0.1,a0.2)))
 else
  (bif (!(oL a1 0 2)) then
   (0,1)
  else
   ((W ((W ((a0.2.length:Int)*(a0.2.length:Int)))*(W ((W (1*2 ^ (min (toNat (W (2*a1))) 64)))+(W ((W (1*2 ^ (min (toNat (W (2*a1))) 64)))*(W (1*2 ^ (min (toNat (W (2*a1))) 64))))))))),0)))
theorem C17 (a0:Zm)(a1:Int)(l0_1:a0.1.length≤9223372036854775807)(l0_2:a0.2.length≤9223372036854775807):Con Try.prog 17 [(.a [(.s 0 0 a0.1.length 3),(.s 1 0 a0.2.length 3)]),(iv a1)] [(.live false true (flat cA a0.1)),(.live false true (flat cN a0.2))] (.t (k2 (F17 a0 a1))) []:=by
 refine aI Try.func17 (by kernel_rfl) fun cx hcx=>?_
 try have hw1:=rP h1
 let t0:List (St Try.prog):=[.c [0,1] (C31 (a0.1,a0.2) (by(try simp only [Lt]);omega) (by(try simp only [Lt]);omega))]
 cases h0:(((bN (a0.1,a0.2)):Int) != 0) with
 | true =>
  have q0:=bne_iff_ne.1 h0
  try have hw1:=rP h1
  have e:=Eq.refl (F17 a0 a1);conv at e=>rhs;simp only [F17,h0,aK]
  rw [e]
  exact rt (t0++[.d h0]) [] [] hcx (by kernel_rfl)
 | false =>
  have q0:=bne_eq_false_iff_eq.1 h0
  try have hw1:=rP h1
  let t1:List (St Try.prog):=(t0++[.d h0,.c [] (C32 a1 0 2)])
  cases h1:(!(oL a1 0 2)) with
  | true =>
   try have hw1:=rP h1
   have e:=Eq.refl (F17 a0 a1);conv at e=>rhs;simp only [F17,h0,h1,aK]
   rw [e]
   exact rt (t1++[.d h1]) [] [] hcx (by kernel_rfl)
  | false =>
   try have hw1:=rP h1
   have e:=Eq.refl (F17 a0 a1);conv at e=>rhs;simp only [F17,h0,h1,aK]
   rw [e]
   exact rt (t1++[.d h1,.p (show 0≤((W (2*a1)):Int) from by first | omega | (rw [aD]<;>omega) | exact jZ _)]) [] [] hcx (by kernel_rfl)
theorem aUt {s n:Int} (hs:s=1∨s=2∨s=4∨s=8)(h1:1≤n)(h2:n≤1099511627776):1≤(uZ s n).1:=by
 unfold uZ
 rw [if_neg (by omega)]
 unfold inv
 have hN:1099511627776≤NN s:=by rcases hs with rfl | rfl | rfl | rfl<;>decide
 have hb:=aAb hs
 obtain⟨q1,q2,q3⟩:=rM hb.1 h1
 have hq:1≤NN s / n:=Int.le_ediv_of_mul_le (by omega) (by omega)
 have hr:=zZ (n:=NN s / n) q1 (by omega)
 exact hr.ge (by omega) (by omega)
theorem aD4 {p c q:PN} {d:Int} (hp:vp p=0)(hd:0≤d∧d≤3)(hc:c∈aO d.toNat p):1≤lN c q:=by
 obtain⟨g1,g2,g3⟩:=aHp c q
 obtain⟨hb,hn⟩:=dN hp
 have h:=aM4 c q.1 g1 g2 g3
 rw [aHr hb hd hc] at h
 rcases Int.lt_or_le (lN c q) 1 with h' | h'
 · have h0:0≤lN c q:=Int.le_trans (tE _) g1
   have:lN c q=0:=by omega
   rw [this] at h;omega
 · exact h'
theorem aH8 {α:Type} {g:α→Int}:∀(l:List α),(∀c∈l,1≤g c)→(l.length:Int)≤(l.map g).sum
 | [],_=>by simp
 | c::l,h=>by
   have h1:=h c List.mem_cons_self
   have h2:=aH8 l (fun c hc=>h c (List.mem_cons_of_mem _ hc))
   simp only [List.map_cons,List.sum_cons,List.length_cons];omega
theorem aUu {v n:Int} (hn:1≤n)(h:n≤v):1≤v / n:=Int.le_ediv_of_mul_le (by omega) (by omega)
theorem aRe {p q:PN} {d:Int} (hp:vp p=0)(hq:bdP 5000 q)(hd:0≤d∧d≤3):1≤(dK p q d).1:=by
 have hlen:=mQ hd p
 have hc:=mT d
 unfold dK avg
 rw [jI]
 simp only [Int.zero_add]
 refine aUu (by omega) ?_
 rw [←hlen]
 refine aH8 _ (fun c hcm=>?_)
 have hcb:=(tI (dN hp).1 hd hcm).mono (show(512:Int)≤5000 by omega)
 have:=aM1 hcb hq
 exact aUt (qR d) (aD4 hp hd hcm) (by omega)
def okP (a:Int×Int):Prop:=1≤a.1∧a.1≤a.2∧a.2≤536870913
theorem aJu {p q:PN} {d:Int} (hp:vp p=0)(hq:bdP 5000 q)(hd:0≤d∧d≤3):okP (dK p q d):=by
 have h1:=aRe hp hq hd
 have h2:=aM8 (q:=q) hp hd
 unfold okE at h2
 exact⟨h1,h2.2.1,h2.2.2⟩
theorem gZ {p q:PN} {d:Int} (h:pk p q d=0):wU p q d=(dK p (dE (sc d) q) d,0):=by
 unfold wU
 rw [aDr,h]
 obtain⟨h1,h2,h3⟩:=aF3 h
 have hs:=aMy d
 have hq:=(dN h2).1
 have hq':=hq.mono (show(64:Int)≤4096 by omega)
 have hd:0≤d∧d≤3:=by omega
 have e1:=aS3 h1 (aM5 hs hq) hd
 unfold dE at e1 ⊢
 rw [aWw hd,aUd hs hq'.1,aUd hs hq'.2.1,aUd hs hq'.2.2,e1];rfl
theorem oO {p q:PN} {d:Int} (h:pk p q d=0):(wU p q d).2=0∧okP (wU p q d).1:=by
 rw [gZ h]
 obtain⟨h1,h2,h3⟩:=aF3 h
 exact⟨rfl,aJu h1 (aM5 (aMy d) (dN h2).1) (by omega)⟩
theorem rQ {p q:PN} {d:Int} (h:pk p q d=0):(qH p q d).2=0∧okP (qH p q d).1:=by
 rw [lO]
 obtain⟨h1,h2,h3⟩:=aF3 h
 have hd:0≤d∧d≤3:=by omega
 unfold aDv
 rw [if_pos h]
 refine⟨rfl,?_⟩
 have hl:=aF8 (p:=p) (q:=q) hd
 have hc:=mT d
 have hpos:∀a∈mV p q d,okP a:=by
   intro a ha
   obtain⟨b,hb,rfl⟩:=List.mem_map.1 ha
   exact aJu h1 ((tI (dN h2).1 hd hb).mono (by omega)) hd
 have hs1:sc d*sc d≤((mV p q d).map (·.1)).sum:=by rw [←hl];exact aH8 _ (fun a ha=>(hpos a ha).1)
 have key:∀l:List (Int×Int),(∀a∈l,okP a)→(l.map (·.1)).sum≤(l.map (·.2)).sum∧(l.map (·.2)).sum≤536870913*(l.length:Nat):=by
   intro l
   induction l with
   | nil=>intro _;simp
   | cons c l ih =>
     intro h
     obtain⟨a1,a2,a3⟩:=h c List.mem_cons_self
     have h2:=ih (fun c hc=>h c (List.mem_cons_of_mem _ hc))
     simp only [List.map_cons,List.sum_cons,List.length_cons];omega
 have hk:=key _ hpos
 rw [hl] at hk
 rw [kS]
 unfold avg okP
 simp only [Int.zero_add]
 generalize ((mV p q d).map (·.1)).sum=x at *
 generalize ((mV p q d).map (·.2)).sum=y at *
 rcases hc with e | e | e | e<;>rw [e] at hs1 hk ⊢<;>omega
theorem aN9 (m:ME):∀(n i:Nat)(v:List (P3×Bool)),m.1.length - i < n→aB (dV m) n (v,(i:Int))=0→∀j,i≤j→j < m.1.length→bd 64 (m.1.getD j default):=by
 intro n
 induction n with
 | zero=>intro i v h;omega
 | succ n ih =>
   intro i v hn h j h1 h2
   have hw:((i:Nat):Int) < (m.1.length:Int):=by omega
   cases hr:wS (m.1.getD i default) 64 with
   | false =>
     have e1:dV m (v,(i:Int))=.inr 1:=by
       simp only [dV];rw [cV hw,cond_true,yE,hr];rfl
     rw [aR e1] at h;exact absurd h (by decide)
   | true =>
     cases hg:aQ v (m.1.getD i default) false with
     | true =>
       have e1:dV m (v,(i:Int))=.inr 1:=by
         simp only [dV];rw [cV hw,cond_true,yE,hr,hg];rfl
       rw [aR e1] at h;exact absurd h (by decide)
     | false =>
       have e1:dV m (v,(i:Int))=.inl (bX v (m.1.getD i default) true,((i+1:Nat):Int)):=by
         simp only [dV];rw [cV hw,cond_true,yE,hr,hg];rfl
       rw [aC e1] at h
       by_cases hj:j=i
       · subst hj
         classical
         rw [kC] at hr
         exact eK hr
       · exact ih (i+1) _ (by omega) h j (by omega) h2
theorem aRf {m:ME} (h:bN m=0):∀j,j < m.1.length→bd 64 (m.1.getD j default):=by
 obtain⟨_,_,_,h4,_⟩:=bI h
 exact fun j hj=>aN9 m _ 0 [] (by omega) h4 j (Nat.zero_le _) hj
theorem kV {m:ME} (h:bN m=0):∀c∈m.2,vp (iV m c)=0:=by
 intro c hc
 obtain⟨i,hi⟩:=List.getElem?_of_mem hc
 obtain⟨hlt,_⟩:=List.getElem?_eq_some_iff.1 hi
 have hpt:=aRf h
 obtain⟨h64,_,_,_,hf⟩:=bI h
 have hfc:=hf (i:Int) (by omega) (by omega)
 rw [bF hi] at hfc
 have hin:inF m.1.length c:=iG (m:=m) (by rw [hfc];rfl) h64
 have hb:bdP 64 (iV m c):=⟨hpt _ (by have:=hin.1;omega),hpt _ (by have:=hin.2.1;omega),hpt _ (by have:=hin.2.2;omega)⟩
 unfold F66 at hfc
 have hw:W ((m.1.length:Int) - 1)=(m.1.length:Int) - 1:=aD (by omega) (by omega)
 have fr:∀x:Int,0≤x∧x < (m.1.length:Int)→(!lE x 0 (W ((m.1.length:Int) - 1)))=false:=by
   intro x hx
   unfold lE
   rw [hw,cV hx.1,cV (show x≤(m.1.length:Int) - 1 by omega)];rfl
 rw [fr _ hin.1,fr _ hin.2.1,fr _ hin.2.2,cond_false,cond_false,cond_false,show F89 (iV (m.1,m.2) c)=eQ (iV m c) from aMs hb] at hfc
 unfold vp
 rw [if_pos hb]
 generalize eQ (iV m c)=q at hfc ⊢
 by_cases hz:q.1=0∧q.2.1=0∧q.2.2=0
 · rw [hz.1,hz.2.1,hz.2.2] at hfc;exact absurd hfc (by decide)
 · rw [if_neg hz]
theorem oP {m:ME} (h:bN m=0) {d:Int} (hd:0≤d∧d≤2) {p q:PN} (hp:p∈m.2.map (iV m))(hq:q∈m.2.map (iV m)):pk p q d=0:=by
 obtain⟨a,ha,rfl⟩:=List.mem_map.1 hp
 obtain⟨b,hb,rfl⟩:=List.mem_map.1 hq
 unfold pk
 rw [if_pos (kV h a ha),if_pos (kV h b hb),if_pos hd]
theorem aUv {α:Type} {n:Nat} {t:List (List α)} (h:∀r∈t,r.length=n)(j:Int):(0≤j∧j < (t.length:Int))→(t.getD (toNat j) default).length=n:=fun g=>by
 have hlt:toNat j < t.length:=by omega
 rw [eW,List.getElem?_eq_getElem hlt,Option.getD_some]
 exact h _ (List.getElem_mem hlt)
theorem aUw {α:Type} {n:Nat} {t:List (List α)} (h:∀r∈t,r.length≤n)(j:Int):(0≤j∧j < (t.length:Int))→(t.getD (toNat j) default).length≤n:=fun g=>by
 have hlt:toNat j < t.length:=by omega
 rw [eW,List.getElem?_eq_getElem hlt,Option.getD_some]
 exact h _ (List.getElem_mem hlt)
noncomputable def vF:Code:=(aF [1,1,0,1] [] (aG Try.f85) []).1
noncomputable def vG:List K:=(aF [1,1,0,1] [] (aG Try.f85) []).2
def rR (a0:List (Int×Int))(a1:List (Int))(v2c:List SV)(v2n:Nat)(v3:Int):LS:=⟨lZ 40 [(1,(.s 1 0 a1.length 1)),(4,(.p 2 0)),(6,(.s 3 0 v2n 2)),(11,(.s 0 0 a0.length 2)),(12,(iv (a0.length:Int))),(13,(iv v3))],[(.live false true (flat eZ a0)),(.live false true (flat c3 a1)),(.live true false [(iv 0),(iv 0)]),(.live true true v2c)]⟩
def dJ (a0:List (Int×Int))(a1:List (Int)):(List (Int×Int))×Int→((List (Int×Int))×Int)⊕((Int×Int)×Int)
 | (v2,v3) =>
  (bif (decide ((v3:Int) < (a0.length:Int))) then
   (bif (((iU (a0.getD (toNat v3) default) (a1.getD (toNat v3) default)).2:Int) != 0) then
    (.inr ((0,0),(iU (a0.getD (toNat v3) default) (a1.getD (toNat v3) default)).2))
   else
    (.inl ((v2++[(iU (a0.getD (toNat v3) default) (a1.getD (toNat v3) default)).1]),(v3+1))))
  else
   (.inr ((jA v2).1,(jA v2).2)))
theorem aK4 (a0:List (Int×Int))(a1:List (Int))(l0:a0.length≤9223372036854775807)(l1:a1.length≤9223372036854775807)(hl:a0.length≤a1.length)(hn:a0.length≤9216) {cx:Cx} (hcx:cx.base=2):∀(n:Nat)(v2:List (Int×Int))(v3:Int),(0≤v3)∧(v2.length=toNat v3)∧(v3≤a0.length)→toNat ((a0.length:Int) - v3) < n→Aw.Good Try.prog none 9 (bodyPost Try.prog Try.f85 (RR cx (.t [(.a (k2 (aB (dJ a0 a1) n (v2,v3)).1)),(iv (aB (dJ a0 a1) n (v2,v3)).2)]) [] [])) cx [] (.l vF n::vG) (rR a0 a1 (flat eZ v2) v2.length v3):=by
 intro n
 induction n with
 | zero=>intro v2 v3 hi hn;exact absurd hn (nM _)
 | succ n ih =>
   intro v2 v3 hi hn
   refine aL ?_
   cases h0:(decide ((v3:Int) < (a0.length:Int))) with
   | true =>
    have q0:=eK h0
    let t1:List (St Try.prog):=[.d h0,.i v3 (a0.length),.L dR a0 v3 0 2,.i v3 (a1.length),.L oM a1 v3 0 1,.c [] (C13 (a0.getD (toNat v3) default) (a1.getD (toNat v3) default))]
    cases h1:(((iU (a0.getD (toNat v3) default) (a1.getD (toNat v3) default)).2:Int) != 0) with
    | true =>
     have q1:=bne_iff_ne.1 h1
     have e:=Eq.refl (dJ a0 a1 (v2,v3));conv at e=>rhs;simp only [dJ,h0,h1,aK]
     rw [aH,e]
     exact rt (t1++[.d h1]) [] [] hcx (by kernel_rfl)
    | false =>
     have q1:=bne_eq_false_iff_eq.1 h1
     have e:=Eq.refl (dJ a0 a1 (v2,v3));conv at e=>rhs;simp only [dJ,h0,h1,aK]
     rw [aC e]
     refine ba (t1++[.d h1,.p (show((flat eZ v2).length=v2.length*2∧v2.length+1≤2 ^ 40∧(v2.length+1)*16≤2 ^ 47) from gV dR (by omega) (by omega))]) [] [1,4,6,11,12,13] [2,7] hcx (m:=n) vF (vG) (rR a0 a1 (flat eZ v2++(k2 (iU (a0.getD (toNat v3) default) (a1.getD (toNat v3) default)).1)) (v2.length+1) (W (v3+1))) (by kernel_rfl) ?_
     have z0:(W (v3+1))=(v3+1):=aD (by omega) (by omega)
     have z1:(flat eZ v2++(k2 (iU (a0.getD (toNat v3) default) (a1.getD (toNat v3) default)).1))=(flat eZ (v2++[(iU (a0.getD (toNat v3) default) (a1.getD (toNat v3) default)).1])):=(bV (c:=eZ) (l:=v2) (m:=[(iU (a0.getD (toNat v3) default) (a1.getD (toNat v3) default)).1])).symm
     have z2:(v2.length+1)=(v2++[(iU (a0.getD (toNat v3) default) (a1.getD (toNat v3) default)).1]).length:=fE v2 [(iU (a0.getD (toNat v3) default) (a1.getD (toNat v3) default)).1] rfl
     rw [z0,z1,z2]
     exact ih (v2++[(iU (a0.getD (toNat v3) default) (a1.getD (toNat v3) default)).1]) (v3+1) (by refine⟨?_,?_,?_⟩<;>(try simp only [Ls])<;>first | omega | assumption | simp) (by(try simp only [Ls]);omega)
   | false =>
    have q0:=fK h0
    have e:=Eq.refl (dJ a0 a1 (v2,v3));conv at e=>rhs;simp only [dJ,h0,aK]
    rw [aH,e]
    exact rt [.d h0,.c [3] (aT8 v2 (by omega))] [] [] hcx (by kernel_rfl)
def cI (a0:List (Int×Int))(a1:List (Int)):(Int×Int)×Int :=
 (aB (dJ a0 a1) (toNat ((a0.length:Int) - 0)+1) (([]:List (Int×Int)),0))
theorem aJv (a0:List (Int×Int))(a1:List (Int))(l0:a0.length≤9223372036854775807)(l1:a1.length≤9223372036854775807)(hl:a0.length≤a1.length)(hn:a0.length≤9216):Con Try.prog 85 [(.s 0 0 a0.length 2),(.s 1 0 a1.length 1)] [(.live false true (flat eZ a0)),(.live false true (flat c3 a1))] (.t [(.a (k2 (cI a0 a1).1)),(iv (cI a0 a1).2)]) []:=by
 refine aI Try.func85 (by kernel_rfl) fun cx hcx=>?_
 have e:=Eq.refl (cI a0 a1);conv at e=>rhs;simp only [cI]
 rw [e]
 refine en [] [.slot 6 2] [1,4,6,11,12,13] [2,3] hcx vF (vG) (rR a0 a1 (flat eZ ([]:List (Int×Int))) 0 0) (toNat ((a0.length:Int) - 0)+1) (by kernel_rfl) ?_
 exact aK4 a0 a1 l0 l1 hl hn hcx (toNat ((a0.length:Int) - 0)+1) ([]:List (Int×Int)) 0 (by refine⟨?_,?_,?_⟩<;>(try simp only [Ls])<;>first | omega | assumption | simp) (by(try simp only [Ls]);omega)
def eE (x:List (Int×Int)):List SV:=[(.d (flat eZ x) x.length 2)]
theorem tP (x:List (Int×Int)):(eE x).length=1:=rfl
noncomputable def vH:Code:=(aF [1,1,1,1,0,1,0,1,1,0,1,1,0,1] [0] (aG Try.f56) []).1
noncomputable def vI (m0:Nat):List K:=(aF [1,1,1,1,0,1,0,1,1,0,1,1,0,1] [m0] (aG Try.f56) []).2
def rS (a0:Zm)(a1:Int)(v10c:List SV)(v10n:Nat)(v11c:List SV)(v11n:Nat)(v12 v13 v14 v15 v16 v17 v18 v19 v20 v21 v22:Int):LS:=⟨lZ 60 [(1,(iv a1)),(2,(.v (.func (.func 57) #[] #[]))),(8,(.s 2 0 (aX (a0.1,a0.2)).1.length 9)),(10,(.s 3 0 v10n 1)),(12,(.p 4 0)),(13,(.s 5 0 v11n 2)),(26,(.s 2 0 (aX (a0.1,a0.2)).1.length 9)),(27,(iv (((aX (a0.1,a0.2)).1.length:Nat):Int))),(28,(iv v12)),(32,(.s 2 0 (aX (a0.1,a0.2)).1.length 9)),(33,(iv (((aX (a0.1,a0.2)).1.length:Nat):Int))),(34,(iv v13))],[(.live false true (flat cA a0.1)),(.live false true (flat cN a0.2)),(.live true true (flat qI (aX (a0.1,a0.2)).1)),(.live true true v10c),(.live true false [(iv v14),(iv v15),(iv v16),(iv v17),(iv v18),(iv v19),(iv v20),(iv v21),(iv v22)]),(.live true true v11c)]⟩
def dW (a0:Zm)(a1:Int):(List (List (Int×Int)))×(List (Int×Int))×Int×Int×Int×Int×Int×Int×Int×Int×Zt→((List (List (Int×Int)))×(List (Int×Int))×Int×Int×Int×Int×Int×Int×Int×Int×Zt)⊕(((List (List (Int×Int)))×Int)⊕((List (List (Int×Int)))×Int))
 | (v10,v11,v12,v13,v14,v15,v16,v17,v18,v19,v20,v21,v22) =>
  (bif (decide ((v13:Int) < (((aX (a0.1,a0.2)).1.length:Nat):Int))) then
   (bif (((wU ((aX (a0.1,a0.2)).1.getD (toNat v13) default) ((v14,v15,v16),(v17,v18,v19),(v20,v21,v22)) a1).2:Int) != 0) then
    (.inr (.inr (([]:List (List (Int×Int))),(wU ((aX (a0.1,a0.2)).1.getD (toNat v13) default) ((v14,v15,v16),(v17,v18,v19),(v20,v21,v22)) a1).2)))
   else
    (.inl (v10,(v11++[(wU ((aX (a0.1,a0.2)).1.getD (toNat v13) default) ((v14,v15,v16),(v17,v18,v19),(v20,v21,v22)) a1).1]),v12,(v13+1),v14,v15,v16,v17,v18,v19,v20,v21,v22)))
  else
   (.inr (.inl ((v10++[v11]),(v12+1)))))
noncomputable def pK:Code:=(aF [1,1,1,1,0,1] [] (aG Try.f56) []).1
noncomputable def pL:List K:=(aF [1,1,1,1,0,1] [] (aG Try.f56) []).2
def mZ (a0:Zm)(a1:Int)(v8c:List SV)(v8n:Nat)(v9:Int):LS:=⟨lZ 60 [(1,(iv a1)),(2,(.v (.func (.func 57) #[] #[]))),(8,(.s 2 0 (aX (a0.1,a0.2)).1.length 9)),(10,(.s 3 0 v8n 1)),(26,(.s 2 0 (aX (a0.1,a0.2)).1.length 9)),(27,(iv (((aX (a0.1,a0.2)).1.length:Nat):Int))),(28,(iv v9))],[(.live false true (flat cA a0.1)),(.live false true (flat cN a0.2)),(.live true true (flat qI (aX (a0.1,a0.2)).1)),(.live true true v8c)]⟩
def cG (a0:Zm)(a1:Int):(List (List (Int×Int)))×Int→((List (List (Int×Int)))×Int)⊕((List (List (Int×Int)))×Int)
 | (v8,v9) =>
  (bif (decide ((v9:Int) < (((aX (a0.1,a0.2)).1.length:Nat):Int))) then
   (aB (dW a0 a1) (toNat ((((aX (a0.1,a0.2)).1.length:Nat):Int) - 0)+1) (v8,([]:List (Int×Int)),v9,0,((aX (a0.1,a0.2)).1.getD (toNat v9) default).1.1,((aX (a0.1,a0.2)).1.getD (toNat v9) default).1.2.1,((aX (a0.1,a0.2)).1.getD (toNat v9) default).1.2.2,((aX (a0.1,a0.2)).1.getD (toNat v9) default).2.1.1,((aX (a0.1,a0.2)).1.getD (toNat v9) default).2.1.2.1,((aX (a0.1,a0.2)).1.getD (toNat v9) default).2.1.2.2,((aX (a0.1,a0.2)).1.getD (toNat v9) default).2.2.1,((aX (a0.1,a0.2)).1.getD (toNat v9) default).2.2.2.1,((aX (a0.1,a0.2)).1.getD (toNat v9) default).2.2.2.2))
  else
   (.inr (v8,0)))
theorem aK5 (a0:Zm)(a1:Int)(l0_1:a0.1.length≤9223372036854775807)(l0_2:a0.2.length≤9223372036854775807) {cx:Cx} (hcx:cx.base=2)
   (n0:Nat) (g0:∀(v8:List (List (Int×Int))) (v9:Int),(0≤v9)∧(v8.length=toNat v9)∧(v9≤(aX (a0.1,a0.2)).1.length)→toNat ((((aX (a0.1,a0.2)).1.length:Nat):Int) - v9) < n0→Aw.Good Try.prog none 9 (bodyPost Try.prog Try.f56 (RR cx (.t [(.s 2 0 (aB (cG a0 a1) n0 (v8,v9)).1.length 1),(iv (aB (cG a0 a1) n0 (v8,v9)).2)]) [(.live true true (flat eE (aB (cG a0 a1) n0 (v8,v9)).1))] [])) cx [] (.l pK n0::pL) (mZ a0 a1 (flat eE v8) v8.length v9)):∀(n:Nat) (v10:List (List (Int×Int))) (v11:List (Int×Int)) (v12 v13 v14 v15 v16 v17 v18 v19 v20 v21 v22:Int),(0≤v13)∧(v11.length=toNat v13)∧(v13≤(aX (a0.1,a0.2)).1.length)∧(v10.length=toNat v12)∧(0≤v12)∧(v12 < (aX (a0.1,a0.2)).1.length)∧((0≤v12))∧((v10.length=toNat v12))∧((v12≤(aX (a0.1,a0.2)).1.length))∧(v12 < (((aX (a0.1,a0.2)).1.length:Nat):Int))∧(toNat ((((aX (a0.1,a0.2)).1.length:Nat):Int) - v12) < n0+1)→toNat ((((aX (a0.1,a0.2)).1.length:Nat):Int) - v13) < n→Aw.Good Try.prog none 9 (bodyPost Try.prog Try.f56 (RR cx (.t [(.s 2 0 (qO (cG a0 a1) n0 (aB (dW a0 a1) n (v10,v11,v12,v13,v14,v15,v16,v17,v18,v19,v20,v21,v22))).1.length 1),(iv (qO (cG a0 a1) n0 (aB (dW a0 a1) n (v10,v11,v12,v13,v14,v15,v16,v17,v18,v19,v20,v21,v22))).2)]) [(.live true true (flat eE (qO (cG a0 a1) n0 (aB (dW a0 a1) n (v10,v11,v12,v13,v14,v15,v16,v17,v18,v19,v20,v21,v22))).1))] [])) cx [] (.l vH n::vI n0) (rS a0 a1 (flat eE v10) v10.length (flat eZ v11) v11.length v12 v13 v14 v15 v16 v17 v18 v19 v20 v21 v22):=by
 intro n
 induction n with
 | zero=>intro v10 v11 v12 v13 v14 v15 v16 v17 v18 v19 v20 v21 v22 hi hn;exact absurd hn (nM _)
 | succ n ih =>
   intro v10 v11 v12 v13 v14 v15 v16 v17 v18 v19 v20 v21 v22 hi hn
   refine aL ?_
   have hpl:=pJ (a0.1,a0.2)
   cases h0:(decide ((v13:Int) < (((aX (a0.1,a0.2)).1.length:Nat):Int))) with
   | true =>
    have q0:=eK h0
    let t1:List (St Try.prog):=[.d h0,.i v13 ((aX (a0.1,a0.2)).1.length),.L lP (aX (a0.1,a0.2)).1 v13 0 9,.c [] (C57 ((aX (a0.1,a0.2)).1.getD (toNat v13) default) ((v14,v15,v16),(v17,v18,v19),(v20,v21,v22)) a1)]
    cases h1:(((wU ((aX (a0.1,a0.2)).1.getD (toNat v13) default) ((v14,v15,v16),(v17,v18,v19),(v20,v21,v22)) a1).2:Int) != 0) with
    | true =>
     have q1:=bne_iff_ne.1 h1
     have e:=Eq.refl (dW a0 a1 (v10,v11,v12,v13,v14,v15,v16,v17,v18,v19,v20,v21,v22));conv at e=>rhs;simp only [dW,h0,h1,aK]
     rw [aH,e]
     exact rt (t1++[.d h1]) [.slot 6 1] [8] hcx (by kernel_rfl)
    | false =>
     have q1:=bne_eq_false_iff_eq.1 h1
     have e:=Eq.refl (dW a0 a1 (v10,v11,v12,v13,v14,v15,v16,v17,v18,v19,v20,v21,v22));conv at e=>rhs;simp only [dW,h0,h1,aK]
     rw [aC e]
     refine ba (t1++[.d h1,.p (show((flat eZ v11).length=v11.length*2∧v11.length+1≤2 ^ 40∧(v11.length+1)*16≤2 ^ 47) from gV dR (by omega) (by omega))]) [] [1,2,8,10,12,13,26,27,28,32,33,34] [2,3,4,9] hcx (m:=n) vH (vI n0) (rS a0 a1 (flat eE v10) (v10.length) (flat eZ v11++(k2 (wU ((aX (a0.1,a0.2)).1.getD (toNat v13) default) ((v14,v15,v16),(v17,v18,v19),(v20,v21,v22)) a1).1)) (v11.length+1) v12 (W (v13+1)) v14 v15 v16 v17 v18 v19 v20 v21 v22) (by kernel_rfl) ?_
     have z0:(W (v13+1))=(v13+1):=aD (by omega) (by omega)
     have z1:(flat eZ v11++(k2 (wU ((aX (a0.1,a0.2)).1.getD (toNat v13) default) ((v14,v15,v16),(v17,v18,v19),(v20,v21,v22)) a1).1))=(flat eZ (v11++[(wU ((aX (a0.1,a0.2)).1.getD (toNat v13) default) ((v14,v15,v16),(v17,v18,v19),(v20,v21,v22)) a1).1])):=(bV (c:=eZ) (l:=v11) (m:=[(wU ((aX (a0.1,a0.2)).1.getD (toNat v13) default) ((v14,v15,v16),(v17,v18,v19),(v20,v21,v22)) a1).1])).symm
     have z2:(v11.length+1)=(v11++[(wU ((aX (a0.1,a0.2)).1.getD (toNat v13) default) ((v14,v15,v16),(v17,v18,v19),(v20,v21,v22)) a1).1]).length:=fE v11 [(wU ((aX (a0.1,a0.2)).1.getD (toNat v13) default) ((v14,v15,v16),(v17,v18,v19),(v20,v21,v22)) a1).1] rfl
     rw [z0,z1,z2]
     exact ih v10 (v11++[(wU ((aX (a0.1,a0.2)).1.getD (toNat v13) default) ((v14,v15,v16),(v17,v18,v19),(v20,v21,v22)) a1).1]) v12 (v13+1) v14 v15 v16 v17 v18 v19 v20 v21 v22 (by refine⟨?_,?_,?_,?_,?_,?_,?_,?_,?_,?_,?_⟩<;>(try simp only [Ls])<;>first | omega | assumption | exact hi.2.1 | exact hi.2.2.1 | exact hi.2.2.2.1 | exact hi.2.2.2.2.1 | exact hi.2.2.2.2.2.1 | exact hi.2.2.2.2.2.2.1 | exact hi.2.2.2.2.2.2.2.1 | exact hi.2.2.2.2.2.2.2.2.1 | exact hi.2.2.2.2.2.2.2.2.2.1 | exact hi.2.2.2.2.2.2.2.2.2.2.1 | simp) (by(try simp only [Ls]);omega)
   | false =>
    have q0:=fK h0
    have e:=Eq.refl (dW a0 a1 (v10,v11,v12,v13,v14,v15,v16,v17,v18,v19,v20,v21,v22));conv at e=>rhs;simp only [dW,h0,aK]
    rw [aH,e]
    refine ba [.d h0,.p (show((flat eZ v11)).length=v11.length*2 from by simp [jO dR]),.p (show((flat eE v10).length=v10.length*1∧v10.length+1≤2 ^ 40∧(v10.length+1)*24≤2 ^ 47) from gV tP (by omega) (by omega))] [] [1,2,8,10,26,27,28] [2,7] hcx (m:=n0) pK (pL) (mZ a0 a1 (flat eE v10++[(.d (flat eZ v11) v11.length 2)]) (v10.length+1) (W (v12+1))) (by kernel_rfl) ?_
    have z0:(W (v12+1))=(v12+1):=aD (by omega) (by omega)
    have z1:(flat eE v10++[(.d (flat eZ v11) v11.length 2)])=(flat eE (v10++[v11])):=(bV (c:=eE) (l:=v10) (m:=[v11])).symm
    have z2:(v10.length+1)=(v10++[v11]).length:=fE v10 [v11] rfl
    rw [z0,z1,z2]
    exact g0 (v10++[v11]) (v12+1) (by refine⟨?_,?_,?_⟩<;>(try simp only [Ls])<;>first | omega | assumption | simp) (by(try simp only [Ls]);omega)
theorem aK6 (a0:Zm)(a1:Int)(l0_1:a0.1.length≤9223372036854775807)(l0_2:a0.2.length≤9223372036854775807) {cx:Cx} (hcx:cx.base=2):∀(n:Nat)(v8:List (List (Int×Int)))(v9:Int),(0≤v9)∧(v8.length=toNat v9)∧(v9≤(aX (a0.1,a0.2)).1.length)→toNat ((((aX (a0.1,a0.2)).1.length:Nat):Int) - v9) < n→Aw.Good Try.prog none 9 (bodyPost Try.prog Try.f56 (RR cx (.t [(.s 2 0 (aB (cG a0 a1) n (v8,v9)).1.length 1),(iv (aB (cG a0 a1) n (v8,v9)).2)]) [(.live true true (flat eE (aB (cG a0 a1) n (v8,v9)).1))] [])) cx [] (.l pK n::pL) (mZ a0 a1 (flat eE v8) v8.length v9):=by
 intro n
 induction n with
 | zero=>intro v8 v9 hi hn;exact absurd hn (nM _)
 | succ n ih =>
   intro v8 v9 hi hn
   refine aL ?_
   have hpl:=pJ (a0.1,a0.2)
   cases h0:(decide ((v9:Int) < (((aX (a0.1,a0.2)).1.length:Nat):Int))) with
   | true =>
    have q0:=eK h0
    have e:=Eq.refl (cG a0 a1 (v8,v9));conv at e=>rhs;simp only [cG,h0,aK]
    rw [aH,e]
    refine en [.d h0,.i v9 ((aX (a0.1,a0.2)).1.length),.L lP (aX (a0.1,a0.2)).1 v9 0 9] [.slot 13 2] [1,2,8,10,12,13,26,27,28,32,33,34] [2,3,4,5] hcx vH (vI n) (rS a0 a1 (flat eE v8) (v8.length) (flat eZ ([]:List (Int×Int))) 0 v9 0 (((aX (a0.1,a0.2)).1.getD (toNat v9) default).1.1) (((aX (a0.1,a0.2)).1.getD (toNat v9) default).1.2.1) (((aX (a0.1,a0.2)).1.getD (toNat v9) default).1.2.2) (((aX (a0.1,a0.2)).1.getD (toNat v9) default).2.1.1) (((aX (a0.1,a0.2)).1.getD (toNat v9) default).2.1.2.1) (((aX (a0.1,a0.2)).1.getD (toNat v9) default).2.1.2.2) (((aX (a0.1,a0.2)).1.getD (toNat v9) default).2.2.1) (((aX (a0.1,a0.2)).1.getD (toNat v9) default).2.2.2.1) (((aX (a0.1,a0.2)).1.getD (toNat v9) default).2.2.2.2)) (toNat ((((aX (a0.1,a0.2)).1.length:Nat):Int) - 0)+1) (by kernel_rfl) ?_
    exact aK5 a0 a1 l0_1 l0_2 hcx n ih (toNat ((((aX (a0.1,a0.2)).1.length:Nat):Int) - 0)+1) v8 ([]:List (Int×Int)) v9 0 (((aX (a0.1,a0.2)).1.getD (toNat v9) default).1.1) (((aX (a0.1,a0.2)).1.getD (toNat v9) default).1.2.1) (((aX (a0.1,a0.2)).1.getD (toNat v9) default).1.2.2) (((aX (a0.1,a0.2)).1.getD (toNat v9) default).2.1.1) (((aX (a0.1,a0.2)).1.getD (toNat v9) default).2.1.2.1) (((aX (a0.1,a0.2)).1.getD (toNat v9) default).2.1.2.2) (((aX (a0.1,a0.2)).1.getD (toNat v9) default).2.2.1) (((aX (a0.1,a0.2)).1.getD (toNat v9) default).2.2.2.1) (((aX (a0.1,a0.2)).1.getD (toNat v9) default).2.2.2.2) (by refine⟨?_,?_,?_,?_,?_,?_,?_,?_,?_,?_,?_⟩<;>(try simp only [Ls])<;>first | omega | assumption | exact hi.2.1 | exact hi.2.2.1 | exact hi.2.2.2.1 | exact hi.2.2.2.2.1 | exact hi.2.2.2.2.2.1 | exact hi.2.2.2.2.2.2.1 | exact hi.2.2.2.2.2.2.2.1 | exact hi.2.2.2.2.2.2.2.2.1 | exact hi.2.2.2.2.2.2.2.2.2.1 | exact hi.2.2.2.2.2.2.2.2.2.2.1 | simp) (by(try simp only [Ls]);omega)
   | false =>
    have q0:=fK h0
    have e:=Eq.refl (cG a0 a1 (v8,v9));conv at e=>rhs;simp only [cG,h0,aK]
    rw [aH,e]
    exact rt [.d h0] [] [3] hcx (by kernel_rfl)
def bP (a0:Zm)(a1:Int):(List (List (Int×Int)))×Int :=
 (bif (((aX (a0.1,a0.2)).2:Int) != 0) then
  (([]:List (List (Int×Int))),(aX (a0.1,a0.2)).2)
 else
  (aB (cG a0 a1) (toNat ((((aX (a0.1,a0.2)).1.length:Nat):Int) - 0)+1) (([]:List (List (Int×Int))),0)))
theorem aRg (a0:Zm)(a1:Int)(l0_1:a0.1.length≤9223372036854775807)(l0_2:a0.2.length≤9223372036854775807):Con Try.prog 56 [(.a [(.s 0 0 a0.1.length 3),(.s 1 0 a0.2.length 3)]),(iv a1),(.v (.func (.func 57) #[] #[]))] [(.live false true (flat cA a0.1)),(.live false true (flat cN a0.2))] (.t [(.s 2 0 (bP a0 a1).1.length 1),(iv (bP a0 a1).2)]) [(.live true true (flat eE (bP a0 a1).1))]:=by
 refine aI Try.func56 (by kernel_rfl) fun cx hcx=>?_
 have hpl:=pJ (a0.1,a0.2)
 let t0:List (St Try.prog):=[.c [0,1] (C79 (a0.1,a0.2) (by(try simp only [Lt]);omega) (by(try simp only [Lt]);omega))]
 cases h0:(((aX (a0.1,a0.2)).2:Int) != 0) with
 | true =>
  have q0:=bne_iff_ne.1 h0
  have e:=Eq.refl (bP a0 a1);conv at e=>rhs;simp only [bP,h0,aK]
  rw [e]
  exact rt (t0++[.d h0]) [.slot 6 1] [4] hcx (by kernel_rfl)
 | false =>
  have q0:=bne_eq_false_iff_eq.1 h0
  have e:=Eq.refl (bP a0 a1);conv at e=>rhs;simp only [bP,h0,aK]
  rw [e]
  refine en (t0++[.d h0]) [.slot 10 1] [1,2,8,10,26,27,28] [3,4] hcx pK (pL) (mZ a0 a1 (flat eE ([]:List (List (Int×Int)))) 0 0) (toNat ((((aX (a0.1,a0.2)).1.length:Nat):Int) - 0)+1) (by kernel_rfl) ?_
  exact aK6 a0 a1 l0_1 l0_2 hcx (toNat ((((aX (a0.1,a0.2)).1.length:Nat):Int) - 0)+1) ([]:List (List (Int×Int))) 0 (by refine⟨?_,?_,?_⟩<;>(try simp only [Ls])<;>first | omega | assumption | simp) (by(try simp only [Ls]);omega)
noncomputable def vJ:Code:=(aF [1,1,1,1,0,1,0,1,1,0,1,1,0,1] [0] (aG Try.f56) []).1
noncomputable def vK (m0:Nat):List K:=(aF [1,1,1,1,0,1,0,1,1,0,1,1,0,1] [m0] (aG Try.f56) []).2
def rT (a0:Zm)(a1:Int)(v10c:List SV)(v10n:Nat)(v11c:List SV)(v11n:Nat)(v12 v13 v14 v15 v16 v17 v18 v19 v20 v21 v22:Int):LS:=⟨lZ 60 [(1,(iv a1)),(2,(.v (.func (.func 58) #[] #[]))),(8,(.s 2 0 (aX (a0.1,a0.2)).1.length 9)),(10,(.s 3 0 v10n 1)),(12,(.p 4 0)),(13,(.s 5 0 v11n 2)),(26,(.s 2 0 (aX (a0.1,a0.2)).1.length 9)),(27,(iv (((aX (a0.1,a0.2)).1.length:Nat):Int))),(28,(iv v12)),(32,(.s 2 0 (aX (a0.1,a0.2)).1.length 9)),(33,(iv (((aX (a0.1,a0.2)).1.length:Nat):Int))),(34,(iv v13))],[(.live false true (flat cA a0.1)),(.live false true (flat cN a0.2)),(.live true true (flat qI (aX (a0.1,a0.2)).1)),(.live true true v10c),(.live true false [(iv v14),(iv v15),(iv v16),(iv v17),(iv v18),(iv v19),(iv v20),(iv v21),(iv v22)]),(.live true true v11c)]⟩
def dX (a0:Zm)(a1:Int):(List (List (Int×Int)))×(List (Int×Int))×Int×Int×Int×Int×Int×Int×Int×Int×Zt→((List (List (Int×Int)))×(List (Int×Int))×Int×Int×Int×Int×Int×Int×Int×Int×Zt)⊕(((List (List (Int×Int)))×Int)⊕((List (List (Int×Int)))×Int))
 | (v10,v11,v12,v13,v14,v15,v16,v17,v18,v19,v20,v21,v22) =>
  (bif (decide ((v13:Int) < (((aX (a0.1,a0.2)).1.length:Nat):Int))) then
   (bif (((qH ((aX (a0.1,a0.2)).1.getD (toNat v13) default) ((v14,v15,v16),(v17,v18,v19),(v20,v21,v22)) a1).2:Int) != 0) then
    (.inr (.inr (([]:List (List (Int×Int))),(qH ((aX (a0.1,a0.2)).1.getD (toNat v13) default) ((v14,v15,v16),(v17,v18,v19),(v20,v21,v22)) a1).2)))
   else
    (.inl (v10,(v11++[(qH ((aX (a0.1,a0.2)).1.getD (toNat v13) default) ((v14,v15,v16),(v17,v18,v19),(v20,v21,v22)) a1).1]),v12,(v13+1),v14,v15,v16,v17,v18,v19,v20,v21,v22)))
  else
   (.inr (.inl ((v10++[v11]),(v12+1)))))
noncomputable def pM:Code:=(aF [1,1,1,1,0,1] [] (aG Try.f56) []).1
noncomputable def pN:List K:=(aF [1,1,1,1,0,1] [] (aG Try.f56) []).2
def nA (a0:Zm)(a1:Int)(v8c:List SV)(v8n:Nat)(v9:Int):LS:=⟨lZ 60 [(1,(iv a1)),(2,(.v (.func (.func 58) #[] #[]))),(8,(.s 2 0 (aX (a0.1,a0.2)).1.length 9)),(10,(.s 3 0 v8n 1)),(26,(.s 2 0 (aX (a0.1,a0.2)).1.length 9)),(27,(iv (((aX (a0.1,a0.2)).1.length:Nat):Int))),(28,(iv v9))],[(.live false true (flat cA a0.1)),(.live false true (flat cN a0.2)),(.live true true (flat qI (aX (a0.1,a0.2)).1)),(.live true true v8c)]⟩
def cH (a0:Zm)(a1:Int):(List (List (Int×Int)))×Int→((List (List (Int×Int)))×Int)⊕((List (List (Int×Int)))×Int)
 | (v8,v9) =>
  (bif (decide ((v9:Int) < (((aX (a0.1,a0.2)).1.length:Nat):Int))) then
   (aB (dX a0 a1) (toNat ((((aX (a0.1,a0.2)).1.length:Nat):Int) - 0)+1) (v8,([]:List (Int×Int)),v9,0,((aX (a0.1,a0.2)).1.getD (toNat v9) default).1.1,((aX (a0.1,a0.2)).1.getD (toNat v9) default).1.2.1,((aX (a0.1,a0.2)).1.getD (toNat v9) default).1.2.2,((aX (a0.1,a0.2)).1.getD (toNat v9) default).2.1.1,((aX (a0.1,a0.2)).1.getD (toNat v9) default).2.1.2.1,((aX (a0.1,a0.2)).1.getD (toNat v9) default).2.1.2.2,((aX (a0.1,a0.2)).1.getD (toNat v9) default).2.2.1,((aX (a0.1,a0.2)).1.getD (toNat v9) default).2.2.2.1,((aX (a0.1,a0.2)).1.getD (toNat v9) default).2.2.2.2))
  else
   (.inr (v8,0)))
theorem aK7 (a0:Zm)(a1:Int)(l0_1:a0.1.length≤9223372036854775807)(l0_2:a0.2.length≤9223372036854775807) {cx:Cx} (hcx:cx.base=2)
   (n0:Nat) (g0:∀(v8:List (List (Int×Int))) (v9:Int),(0≤v9)∧(v8.length=toNat v9)∧(v9≤(aX (a0.1,a0.2)).1.length)→toNat ((((aX (a0.1,a0.2)).1.length:Nat):Int) - v9) < n0→Aw.Good Try.prog none 9 (bodyPost Try.prog Try.f56 (RR cx (.t [(.s 2 0 (aB (cH a0 a1) n0 (v8,v9)).1.length 1),(iv (aB (cH a0 a1) n0 (v8,v9)).2)]) [(.live true true (flat eE (aB (cH a0 a1) n0 (v8,v9)).1))] [])) cx [] (.l pM n0::pN) (nA a0 a1 (flat eE v8) v8.length v9)):∀(n:Nat) (v10:List (List (Int×Int))) (v11:List (Int×Int)) (v12 v13 v14 v15 v16 v17 v18 v19 v20 v21 v22:Int),(0≤v13)∧(v11.length=toNat v13)∧(v13≤(aX (a0.1,a0.2)).1.length)∧(v10.length=toNat v12)∧(0≤v12)∧(v12 < (aX (a0.1,a0.2)).1.length)∧((0≤v12))∧((v10.length=toNat v12))∧((v12≤(aX (a0.1,a0.2)).1.length))∧(v12 < (((aX (a0.1,a0.2)).1.length:Nat):Int))∧(toNat ((((aX (a0.1,a0.2)).1.length:Nat):Int) - v12) < n0+1)→toNat ((((aX (a0.1,a0.2)).1.length:Nat):Int) - v13) < n→Aw.Good Try.prog none 9 (bodyPost Try.prog Try.f56 (RR cx (.t [(.s 2 0 (qO (cH a0 a1) n0 (aB (dX a0 a1) n (v10,v11,v12,v13,v14,v15,v16,v17,v18,v19,v20,v21,v22))).1.length 1),(iv (qO (cH a0 a1) n0 (aB (dX a0 a1) n (v10,v11,v12,v13,v14,v15,v16,v17,v18,v19,v20,v21,v22))).2)]) [(.live true true (flat eE (qO (cH a0 a1) n0 (aB (dX a0 a1) n (v10,v11,v12,v13,v14,v15,v16,v17,v18,v19,v20,v21,v22))).1))] [])) cx [] (.l vJ n::vK n0) (rT a0 a1 (flat eE v10) v10.length (flat eZ v11) v11.length v12 v13 v14 v15 v16 v17 v18 v19 v20 v21 v22):=by
 intro n
 induction n with
 | zero=>intro v10 v11 v12 v13 v14 v15 v16 v17 v18 v19 v20 v21 v22 hi hn;exact absurd hn (nM _)
 | succ n ih =>
   intro v10 v11 v12 v13 v14 v15 v16 v17 v18 v19 v20 v21 v22 hi hn
   refine aL ?_
   have hpl:=pJ (a0.1,a0.2)
   cases h0:(decide ((v13:Int) < (((aX (a0.1,a0.2)).1.length:Nat):Int))) with
   | true =>
    have q0:=eK h0
    let t1:List (St Try.prog):=[.d h0,.i v13 ((aX (a0.1,a0.2)).1.length),.L lP (aX (a0.1,a0.2)).1 v13 0 9,.c [] (C58 ((aX (a0.1,a0.2)).1.getD (toNat v13) default) ((v14,v15,v16),(v17,v18,v19),(v20,v21,v22)) a1)]
    cases h1:(((qH ((aX (a0.1,a0.2)).1.getD (toNat v13) default) ((v14,v15,v16),(v17,v18,v19),(v20,v21,v22)) a1).2:Int) != 0) with
    | true =>
     have q1:=bne_iff_ne.1 h1
     have e:=Eq.refl (dX a0 a1 (v10,v11,v12,v13,v14,v15,v16,v17,v18,v19,v20,v21,v22));conv at e=>rhs;simp only [dX,h0,h1,aK]
     rw [aH,e]
     exact rt (t1++[.d h1]) [.slot 6 1] [8] hcx (by kernel_rfl)
    | false =>
     have q1:=bne_eq_false_iff_eq.1 h1
     have e:=Eq.refl (dX a0 a1 (v10,v11,v12,v13,v14,v15,v16,v17,v18,v19,v20,v21,v22));conv at e=>rhs;simp only [dX,h0,h1,aK]
     rw [aC e]
     refine ba (t1++[.d h1,.p (show((flat eZ v11).length=v11.length*2∧v11.length+1≤2 ^ 40∧(v11.length+1)*16≤2 ^ 47) from gV dR (by omega) (by omega))]) [] [1,2,8,10,12,13,26,27,28,32,33,34] [2,3,4,9] hcx (m:=n) vJ (vK n0) (rT a0 a1 (flat eE v10) (v10.length) (flat eZ v11++(k2 (qH ((aX (a0.1,a0.2)).1.getD (toNat v13) default) ((v14,v15,v16),(v17,v18,v19),(v20,v21,v22)) a1).1)) (v11.length+1) v12 (W (v13+1)) v14 v15 v16 v17 v18 v19 v20 v21 v22) (by kernel_rfl) ?_
     have z0:(W (v13+1))=(v13+1):=aD (by omega) (by omega)
     have z1:(flat eZ v11++(k2 (qH ((aX (a0.1,a0.2)).1.getD (toNat v13) default) ((v14,v15,v16),(v17,v18,v19),(v20,v21,v22)) a1).1))=(flat eZ (v11++[(qH ((aX (a0.1,a0.2)).1.getD (toNat v13) default) ((v14,v15,v16),(v17,v18,v19),(v20,v21,v22)) a1).1])):=(bV (c:=eZ) (l:=v11) (m:=[(qH ((aX (a0.1,a0.2)).1.getD (toNat v13) default) ((v14,v15,v16),(v17,v18,v19),(v20,v21,v22)) a1).1])).symm
     have z2:(v11.length+1)=(v11++[(qH ((aX (a0.1,a0.2)).1.getD (toNat v13) default) ((v14,v15,v16),(v17,v18,v19),(v20,v21,v22)) a1).1]).length:=fE v11 [(qH ((aX (a0.1,a0.2)).1.getD (toNat v13) default) ((v14,v15,v16),(v17,v18,v19),(v20,v21,v22)) a1).1] rfl
     rw [z0,z1,z2]
     exact ih v10 (v11++[(qH ((aX (a0.1,a0.2)).1.getD (toNat v13) default) ((v14,v15,v16),(v17,v18,v19),(v20,v21,v22)) a1).1]) v12 (v13+1) v14 v15 v16 v17 v18 v19 v20 v21 v22 (by refine⟨?_,?_,?_,?_,?_,?_,?_,?_,?_,?_,?_⟩<;>(try simp only [Ls])<;>first | omega | assumption | exact hi.2.1 | exact hi.2.2.1 | exact hi.2.2.2.1 | exact hi.2.2.2.2.1 | exact hi.2.2.2.2.2.1 | exact hi.2.2.2.2.2.2.1 | exact hi.2.2.2.2.2.2.2.1 | exact hi.2.2.2.2.2.2.2.2.1 | exact hi.2.2.2.2.2.2.2.2.2.1 | exact hi.2.2.2.2.2.2.2.2.2.2.1 | simp) (by(try simp only [Ls]);omega)
   | false =>
    have q0:=fK h0
    have e:=Eq.refl (dX a0 a1 (v10,v11,v12,v13,v14,v15,v16,v17,v18,v19,v20,v21,v22));conv at e=>rhs;simp only [dX,h0,aK]
    rw [aH,e]
    refine ba [.d h0,.p (show((flat eZ v11)).length=v11.length*2 from by simp [jO dR]),.p (show((flat eE v10).length=v10.length*1∧v10.length+1≤2 ^ 40∧(v10.length+1)*24≤2 ^ 47) from gV tP (by omega) (by omega))] [] [1,2,8,10,26,27,28] [2,7] hcx (m:=n0) pM (pN) (nA a0 a1 (flat eE v10++[(.d (flat eZ v11) v11.length 2)]) (v10.length+1) (W (v12+1))) (by kernel_rfl) ?_
    have z0:(W (v12+1))=(v12+1):=aD (by omega) (by omega)
    have z1:(flat eE v10++[(.d (flat eZ v11) v11.length 2)])=(flat eE (v10++[v11])):=(bV (c:=eE) (l:=v10) (m:=[v11])).symm
    have z2:(v10.length+1)=(v10++[v11]).length:=fE v10 [v11] rfl
    rw [z0,z1,z2]
    exact g0 (v10++[v11]) (v12+1) (by refine⟨?_,?_,?_⟩<;>(try simp only [Ls])<;>first | omega | assumption | simp) (by(try simp only [Ls]);omega)
theorem aK8 (a0:Zm)(a1:Int)(l0_1:a0.1.length≤9223372036854775807)(l0_2:a0.2.length≤9223372036854775807) {cx:Cx} (hcx:cx.base=2):∀(n:Nat)(v8:List (List (Int×Int)))(v9:Int),(0≤v9)∧(v8.length=toNat v9)∧(v9≤(aX (a0.1,a0.2)).1.length)→toNat ((((aX (a0.1,a0.2)).1.length:Nat):Int) - v9) < n→Aw.Good Try.prog none 9 (bodyPost Try.prog Try.f56 (RR cx (.t [(.s 2 0 (aB (cH a0 a1) n (v8,v9)).1.length 1),(iv (aB (cH a0 a1) n (v8,v9)).2)]) [(.live true true (flat eE (aB (cH a0 a1) n (v8,v9)).1))] [])) cx [] (.l pM n::pN) (nA a0 a1 (flat eE v8) v8.length v9):=by
 intro n
 induction n with
 | zero=>intro v8 v9 hi hn;exact absurd hn (nM _)
 | succ n ih =>
   intro v8 v9 hi hn
   refine aL ?_
   have hpl:=pJ (a0.1,a0.2)
   cases h0:(decide ((v9:Int) < (((aX (a0.1,a0.2)).1.length:Nat):Int))) with
   | true =>
    have q0:=eK h0
    have e:=Eq.refl (cH a0 a1 (v8,v9));conv at e=>rhs;simp only [cH,h0,aK]
    rw [aH,e]
    refine en [.d h0,.i v9 ((aX (a0.1,a0.2)).1.length),.L lP (aX (a0.1,a0.2)).1 v9 0 9] [.slot 13 2] [1,2,8,10,12,13,26,27,28,32,33,34] [2,3,4,5] hcx vJ (vK n) (rT a0 a1 (flat eE v8) (v8.length) (flat eZ ([]:List (Int×Int))) 0 v9 0 (((aX (a0.1,a0.2)).1.getD (toNat v9) default).1.1) (((aX (a0.1,a0.2)).1.getD (toNat v9) default).1.2.1) (((aX (a0.1,a0.2)).1.getD (toNat v9) default).1.2.2) (((aX (a0.1,a0.2)).1.getD (toNat v9) default).2.1.1) (((aX (a0.1,a0.2)).1.getD (toNat v9) default).2.1.2.1) (((aX (a0.1,a0.2)).1.getD (toNat v9) default).2.1.2.2) (((aX (a0.1,a0.2)).1.getD (toNat v9) default).2.2.1) (((aX (a0.1,a0.2)).1.getD (toNat v9) default).2.2.2.1) (((aX (a0.1,a0.2)).1.getD (toNat v9) default).2.2.2.2)) (toNat ((((aX (a0.1,a0.2)).1.length:Nat):Int) - 0)+1) (by kernel_rfl) ?_
    exact aK7 a0 a1 l0_1 l0_2 hcx n ih (toNat ((((aX (a0.1,a0.2)).1.length:Nat):Int) - 0)+1) v8 ([]:List (Int×Int)) v9 0 (((aX (a0.1,a0.2)).1.getD (toNat v9) default).1.1) (((aX (a0.1,a0.2)).1.getD (toNat v9) default).1.2.1) (((aX (a0.1,a0.2)).1.getD (toNat v9) default).1.2.2) (((aX (a0.1,a0.2)).1.getD (toNat v9) default).2.1.1) (((aX (a0.1,a0.2)).1.getD (toNat v9) default).2.1.2.1) (((aX (a0.1,a0.2)).1.getD (toNat v9) default).2.1.2.2) (((aX (a0.1,a0.2)).1.getD (toNat v9) default).2.2.1) (((aX (a0.1,a0.2)).1.getD (toNat v9) default).2.2.2.1) (((aX (a0.1,a0.2)).1.getD (toNat v9) default).2.2.2.2) (by refine⟨?_,?_,?_,?_,?_,?_,?_,?_,?_,?_,?_⟩<;>(try simp only [Ls])<;>first | omega | assumption | exact hi.2.1 | exact hi.2.2.1 | exact hi.2.2.2.1 | exact hi.2.2.2.2.1 | exact hi.2.2.2.2.2.1 | exact hi.2.2.2.2.2.2.1 | exact hi.2.2.2.2.2.2.2.1 | exact hi.2.2.2.2.2.2.2.2.1 | exact hi.2.2.2.2.2.2.2.2.2.1 | exact hi.2.2.2.2.2.2.2.2.2.2.1 | simp) (by(try simp only [Ls]);omega)
   | false =>
    have q0:=fK h0
    have e:=Eq.refl (cH a0 a1 (v8,v9));conv at e=>rhs;simp only [cH,h0,aK]
    rw [aH,e]
    exact rt [.d h0] [] [3] hcx (by kernel_rfl)
def bW (a0:Zm)(a1:Int):(List (List (Int×Int)))×Int :=
 (bif (((aX (a0.1,a0.2)).2:Int) != 0) then
  (([]:List (List (Int×Int))),(aX (a0.1,a0.2)).2)
 else
  (aB (cH a0 a1) (toNat ((((aX (a0.1,a0.2)).1.length:Nat):Int) - 0)+1) (([]:List (List (Int×Int))),0)))
theorem aRh (a0:Zm)(a1:Int)(l0_1:a0.1.length≤9223372036854775807)(l0_2:a0.2.length≤9223372036854775807):Con Try.prog 56 [(.a [(.s 0 0 a0.1.length 3),(.s 1 0 a0.2.length 3)]),(iv a1),(.v (.func (.func 58) #[] #[]))] [(.live false true (flat cA a0.1)),(.live false true (flat cN a0.2))] (.t [(.s 2 0 (bW a0 a1).1.length 1),(iv (bW a0 a1).2)]) [(.live true true (flat eE (bW a0 a1).1))]:=by
 refine aI Try.func56 (by kernel_rfl) fun cx hcx=>?_
 have hpl:=pJ (a0.1,a0.2)
 let t0:List (St Try.prog):=[.c [0,1] (C79 (a0.1,a0.2) (by(try simp only [Lt]);omega) (by(try simp only [Lt]);omega))]
 cases h0:(((aX (a0.1,a0.2)).2:Int) != 0) with
 | true =>
  have q0:=bne_iff_ne.1 h0
  have e:=Eq.refl (bW a0 a1);conv at e=>rhs;simp only [bW,h0,aK]
  rw [e]
  exact rt (t0++[.d h0]) [.slot 6 1] [4] hcx (by kernel_rfl)
 | false =>
  have q0:=bne_eq_false_iff_eq.1 h0
  have e:=Eq.refl (bW a0 a1);conv at e=>rhs;simp only [bW,h0,aK]
  rw [e]
  refine en (t0++[.d h0]) [.slot 10 1] [1,2,8,10,26,27,28] [3,4] hcx pM (pN) (nA a0 a1 (flat eE ([]:List (List (Int×Int)))) 0 0) (toNat ((((aX (a0.1,a0.2)).1.length:Nat):Int) - 0)+1) (by kernel_rfl) ?_
  exact aK8 a0 a1 l0_1 l0_2 hcx (toNat ((((aX (a0.1,a0.2)).1.length:Nat):Int) - 0)+1) ([]:List (List (Int×Int))) 0 (by refine⟨?_,?_,?_⟩<;>(try simp only [Ls])<;>first | omega | assumption | simp) (by(try simp only [Ls]);omega)
noncomputable def vL:Code:=(aF [1,1,0,1] [] (aG Try.f60) []).1
noncomputable def vM:List K:=(aF [1,1,0,1] [] (aG Try.f60) []).2
def rU (a0:List (List (Int×Int)))(a1:List (Int))(v2c:List SV)(v2n:Nat)(v3:Int):LS:=⟨lZ 32 [(1,(.s 1 0 a1.length 1)),(6,(.s 2 0 v2n 2)),(11,(.s 0 0 a0.length 1)),(12,(iv (a0.length:Int))),(13,(iv v3))],[(.live false true (flat eE a0)),(.live false true (flat c3 a1)),(.live true true v2c)]⟩
def dA (a0:List (List (Int×Int)))(a1:List (Int)):(List (Int×Int))×Int→((List (Int×Int))×Int)⊕((List (Int×Int))×Int)
 | (v2,v3) =>
  (bif (decide ((v3:Int) < (a0.length:Int))) then
   (bif (((cI (a0.getD (toNat v3) default) a1).2:Int) != 0) then
    (.inr (([]:List (Int×Int)),(cI (a0.getD (toNat v3) default) a1).2))
   else
    (.inl ((v2++[(cI (a0.getD (toNat v3) default) a1).1]),(v3+1))))
  else
   (.inr (v2,0)))
theorem aK9 (a0:List (List (Int×Int)))(a1:List (Int))(l0:a0.length≤9223372036854775807)(l1:a1.length≤9223372036854775807)(hr:∀r∈a0,r.length≤a1.length)(hn:a0.length≤96)(hm:a1.length≤96) {cx:Cx} (hcx:cx.base=2):∀(n:Nat)(v2:List (Int×Int))(v3:Int),(0≤v3)∧(v2.length=toNat v3)∧(v3≤a0.length)→toNat ((a0.length:Int) - v3) < n→Aw.Good Try.prog none 9 (bodyPost Try.prog Try.f60 (RR cx (.t [(.s 2 0 (aB (dA a0 a1) n (v2,v3)).1.length 2),(iv (aB (dA a0 a1) n (v2,v3)).2)]) [(.live true true (flat eZ (aB (dA a0 a1) n (v2,v3)).1))] [])) cx [] (.l vL n::vM) (rU a0 a1 (flat eZ v2) v2.length v3):=by
 intro n
 induction n with
 | zero=>intro v2 v3 hi hn;exact absurd hn (nM _)
 | succ n ih =>
   intro v2 v3 hi hn
   refine aL ?_
   have hrl:=aUw hr v3
   cases h0:(decide ((v3:Int) < (a0.length:Int))) with
   | true =>
    have q0:=eK h0
    let t1:List (St Try.prog):=[.d h0,.i v3 (a0.length),.L tP a0 v3 0 1,.p (aDe (c:=eZ) (fun _=>rfl) (a0.getD (toNat v3) default)),.c [3,1] (aJv (a0.getD (toNat v3) default) a1 (by(try simp only [Lt]);omega) (by omega) (by omega) (by omega))]
    cases h1:(((cI (a0.getD (toNat v3) default) a1).2:Int) != 0) with
    | true =>
     have q1:=bne_iff_ne.1 h1
     have e:=Eq.refl (dA a0 a1 (v2,v3));conv at e=>rhs;simp only [dA,h0,h1,aK]
     rw [aH,e]
     exact rt (t1++[.d h1]) [.slot 4 2] [5] hcx (by kernel_rfl)
    | false =>
     have q1:=bne_eq_false_iff_eq.1 h1
     have e:=Eq.refl (dA a0 a1 (v2,v3));conv at e=>rhs;simp only [dA,h0,h1,aK]
     rw [aC e]
     refine ba (t1++[.d h1,.p (show((flat eZ v2).length=v2.length*2∧v2.length+1≤2 ^ 40∧(v2.length+1)*16≤2 ^ 47) from gV dR (by omega) (by omega))]) [] [1,6,11,12,13] [6] hcx (m:=n) vL (vM) (rU a0 a1 (flat eZ v2++(k2 (cI (a0.getD (toNat v3) default) a1).1)) (v2.length+1) (W (v3+1))) (by kernel_rfl) ?_
     have z0:(W (v3+1))=(v3+1):=aD (by omega) (by omega)
     have z1:(flat eZ v2++(k2 (cI (a0.getD (toNat v3) default) a1).1))=(flat eZ (v2++[(cI (a0.getD (toNat v3) default) a1).1])):=(bV (c:=eZ) (l:=v2) (m:=[(cI (a0.getD (toNat v3) default) a1).1])).symm
     have z2:(v2.length+1)=(v2++[(cI (a0.getD (toNat v3) default) a1).1]).length:=fE v2 [(cI (a0.getD (toNat v3) default) a1).1] rfl
     rw [z0,z1,z2]
     exact ih (v2++[(cI (a0.getD (toNat v3) default) a1).1]) (v3+1) (by refine⟨?_,?_,?_⟩<;>(try simp only [Ls])<;>first | omega | assumption | simp) (by(try simp only [Ls]);omega)
   | false =>
    have q0:=fK h0
    have e:=Eq.refl (dA a0 a1 (v2,v3));conv at e=>rhs;simp only [dA,h0,aK]
    rw [aH,e]
    exact rt [.d h0] [] [2] hcx (by kernel_rfl)
def aW (a0:List (List (Int×Int)))(a1:List (Int)):(List (Int×Int))×Int :=
 (aB (dA a0 a1) (toNat ((a0.length:Int) - 0)+1) (([]:List (Int×Int)),0))
theorem aRi (a0:List (List (Int×Int)))(a1:List (Int))(l0:a0.length≤9223372036854775807)(l1:a1.length≤9223372036854775807)(hr:∀r∈a0,r.length≤a1.length)(hn:a0.length≤96)(hm:a1.length≤96):Con Try.prog 60 [(.s 0 0 a0.length 1),(.s 1 0 a1.length 1)] [(.live false true (flat eE a0)),(.live false true (flat c3 a1))] (.t [(.s 2 0 (aW a0 a1).1.length 2),(iv (aW a0 a1).2)]) [(.live true true (flat eZ (aW a0 a1).1))]:=by
 refine aI Try.func60 (by kernel_rfl) fun cx hcx=>?_
 have e:=Eq.refl (aW a0 a1);conv at e=>rhs;simp only [aW]
 rw [e]
 refine en [] [.slot 6 2] [1,6,11,12,13] [2] hcx vL (vM) (rU a0 a1 (flat eZ ([]:List (Int×Int))) 0 0) (toNat ((a0.length:Int) - 0)+1) (by kernel_rfl) ?_
 exact aK9 a0 a1 l0 l1 hr hn hm hcx (toNat ((a0.length:Int) - 0)+1) ([]:List (Int×Int)) 0 (by refine⟨?_,?_,?_⟩<;>(try simp only [Ls])<;>first | omega | assumption | simp) (by(try simp only [Ls]);omega)
noncomputable def vN:Code:=(aF [1,1,1,0,1,0,1,1,0,1,1] [0] (aG Try.f62) []).1
noncomputable def vO (m0:Nat):List K:=(aF [1,1,1,0,1,0,1,1,0,1,1] [m0] (aG Try.f62) []).2
def rV (a0:List (List (Int×Int)))(a1:List (Int))(v14c:List SV)(v14n:Nat)(v15c:List SV)(v15n:Nat)(v16 v17 v18 v19:Int):LS:=⟨lZ 49 [(0,(.s 0 0 a0.length 1)),(1,(.s 1 0 a1.length 1)),(4,(.p 2 0)),(6,(.s 3 0 v14n 2)),(7,(.s 4 0 v15n 1)),(8,(iv v16)),(9,(iv v17)),(12,(.s 1 0 a1.length 1)),(13,(iv (a1.length:Int))),(14,(iv v18)),(19,(.s 1 0 a1.length 1)),(20,(iv (a1.length:Int))),(21,(iv v19))],[(.live false true (flat eE a0)),(.live false true (flat c3 a1)),(.live true false [(iv 0),(iv 0)]),(.live true true v14c),(.live true true v15c)]⟩
def dY (a0:List (List (Int×Int)))(a1:List (Int)):(List (Int×Int))×List (Int)×Int×Zt→((List (Int×Int))×List (Int)×Int×Zt)⊕(((List (Int×Int))×List (Int)×Int)⊕((Int×Int)×Int))
 | (v14,v15,v16,v17,v18,v19) =>
  (bif (decide ((v19:Int) < (a1.length:Int))) then
   (.inl ((v14++[((a0.getD (toNat v19) default).getD (toNat v16) default)]),(v15++[(W (v17*(a1.getD (toNat v19) default)))]),v16,v17,v18,(v19+1)))
  else
   (.inr (.inl (v14,v15,(v18+1)))))
noncomputable def pO:Code:=(aF [1,1,1,0,1] [] (aG Try.f62) []).1
noncomputable def pP:List K:=(aF [1,1,1,0,1] [] (aG Try.f62) []).2
def nB (a0:List (List (Int×Int)))(a1:List (Int))(v11c:List SV)(v11n:Nat)(v12c:List SV)(v12n:Nat)(v13:Int):LS:=⟨lZ 49 [(0,(.s 0 0 a0.length 1)),(1,(.s 1 0 a1.length 1)),(4,(.p 2 0)),(6,(.s 3 0 v11n 2)),(7,(.s 4 0 v12n 1)),(12,(.s 1 0 a1.length 1)),(13,(iv (a1.length:Int))),(14,(iv v13))],[(.live false true (flat eE a0)),(.live false true (flat c3 a1)),(.live true false [(iv 0),(iv 0)]),(.live true true v11c),(.live true true v12c)]⟩
def cS (a0:List (List (Int×Int)))(a1:List (Int)):(List (Int×Int))×List (Int)×Int→((List (Int×Int))×List (Int)×Int)⊕((Int×Int)×Int)
 | (v11,v12,v13) =>
  (bif (decide ((v13:Int) < (a1.length:Int))) then
   (aB (dY a0 a1) (toNat ((a1.length:Int) - 0)+1) (v11,v12,v13,(a1.getD (toNat v13) default),v13,0))
  else
   (.inr ((cI v11 v12).1,(cI v11 v12).2)))
theorem aLa (a0:List (List (Int×Int)))(a1:List (Int))(l0:a0.length≤9223372036854775807)(l1:a1.length≤9223372036854775807)(hl:a0.length=a1.length)(hr:∀r∈a0,r.length=a1.length)(hm:a1.length≤96) {cx:Cx} (hcx:cx.base=2)
   (n0:Nat) (g0:∀(v11:List (Int×Int)) (v12:List (Int)) (v13:Int),(0≤v13)∧(v11.length≤96*toNat v13)∧(v12.length=v11.length)∧(v13≤a1.length)→toNat ((a1.length:Int) - v13) < n0→Aw.Good Try.prog none 9 (bodyPost Try.prog Try.f62 (RR cx (.t [(.a (k2 (aB (cS a0 a1) n0 (v11,v12,v13)).1)),(iv (aB (cS a0 a1) n0 (v11,v12,v13)).2)]) [] [])) cx [] (.l pO n0::pP) (nB a0 a1 (flat eZ v11) v11.length (flat c3 v12) v12.length v13)):∀(n:Nat) (v14:List (Int×Int)) (v15:List (Int)) (v16 v17 v18 v19:Int),(0≤v19)∧(v14.length≤96*toNat v18+toNat v19)∧(v15.length=v14.length)∧(0≤v16)∧(v16 < a1.length)∧(0≤v18)∧(v18 < a1.length)∧(v19≤a1.length)∧((0≤v18))∧((v15.length=v14.length))∧((v18≤a1.length))∧(v18 < (a1.length:Int))∧(toNat ((a1.length:Int) - v18) < n0+1)→toNat ((a1.length:Int) - v19) < n→Aw.Good Try.prog none 9 (bodyPost Try.prog Try.f62 (RR cx (.t [(.a (k2 (qO (cS a0 a1) n0 (aB (dY a0 a1) n (v14,v15,v16,v17,v18,v19))).1)),(iv (qO (cS a0 a1) n0 (aB (dY a0 a1) n (v14,v15,v16,v17,v18,v19))).2)]) [] [])) cx [] (.l vN n::vO n0) (rV a0 a1 (flat eZ v14) v14.length (flat c3 v15) v15.length v16 v17 v18 v19):=by
 intro n
 induction n with
 | zero=>intro v14 v15 v16 v17 v18 v19 hi hn;exact absurd hn (nM _)
 | succ n ih =>
   intro v14 v15 v16 v17 v18 v19 hi hn
   refine aL ?_
   have hrl:=aUv hr v19
   cases h0:(decide ((v19:Int) < (a1.length:Int))) with
   | true =>
    have q0:=eK h0
    have e:=Eq.refl (dY a0 a1 (v14,v15,v16,v17,v18,v19));conv at e=>rhs;simp only [dY,h0,aK]
    rw [aC e]
    refine ba [.d h0,.i v19 (a1.length),.L oM a1 v19 0 1,.i v19 (a0.length),.L tP a0 v19 0 1,.p (aDe (c:=eZ) (fun _=>rfl) (a0.getD (toNat v19) default)),.i v16 ((a0.getD (toNat v19) default).length),.L dR (a0.getD (toNat v19) default) v16 0 2,.p (show((flat eZ v14).length=v14.length*2∧v14.length+1≤2 ^ 40∧(v14.length+1)*16≤2 ^ 47) from gV dR (by omega) (by omega)),.p (show((flat c3 v15).length=v15.length*1∧v15.length+1≤2 ^ 40∧(v15.length+1)*8≤2 ^ 47) from gV oM (by omega) (by omega))] [] [0,1,4,6,7,8,9,12,13,14,19,20,21] [2,7,9] hcx (m:=n) vN (vO n0) (rV a0 a1 (flat eZ v14++(k2 ((a0.getD (toNat v19) default).getD (toNat v16) default))) (v14.length+1) (flat c3 v15++[(iv (W (v17*(a1.getD (toNat v19) default))))]) (v15.length+1) v16 v17 v18 (W (v19+1))) (by kernel_rfl) ?_
    have z0:(W (v19+1))=(v19+1):=aD (by omega) (by omega)
    have z1:(flat eZ v14++(k2 ((a0.getD (toNat v19) default).getD (toNat v16) default)))=(flat eZ (v14++[((a0.getD (toNat v19) default).getD (toNat v16) default)])):=(bV (c:=eZ) (l:=v14) (m:=[((a0.getD (toNat v19) default).getD (toNat v16) default)])).symm
    have z2:(v14.length+1)=(v14++[((a0.getD (toNat v19) default).getD (toNat v16) default)]).length:=fE v14 [((a0.getD (toNat v19) default).getD (toNat v16) default)] rfl
    have z3:(flat c3 v15++[(iv (W (v17*(a1.getD (toNat v19) default))))])=(flat c3 (v15++[(W (v17*(a1.getD (toNat v19) default)))])):=(bV (c:=c3) (l:=v15) (m:=[(W (v17*(a1.getD (toNat v19) default)))])).symm
    have z4:(v15.length+1)=(v15++[(W (v17*(a1.getD (toNat v19) default)))]).length:=fE v15 [(W (v17*(a1.getD (toNat v19) default)))] rfl
    rw [z0,z1,z2,z3,z4]
    exact ih (v14++[((a0.getD (toNat v19) default).getD (toNat v16) default)]) (v15++[(W (v17*(a1.getD (toNat v19) default)))]) v16 v17 v18 (v19+1) (by refine⟨?_,?_,?_,?_,?_,?_,?_,?_,?_,?_,?_,?_,?_⟩<;>(try simp only [Ls])<;>first | omega | assumption | exact hi.2.1 | exact hi.2.2.1 | exact hi.2.2.2.1 | exact hi.2.2.2.2.1 | exact hi.2.2.2.2.2.1 | exact hi.2.2.2.2.2.2.1 | exact hi.2.2.2.2.2.2.2.1 | exact hi.2.2.2.2.2.2.2.2.1 | exact hi.2.2.2.2.2.2.2.2.2.1 | exact hi.2.2.2.2.2.2.2.2.2.2.1 | exact hi.2.2.2.2.2.2.2.2.2.2.2.1 | exact hi.2.2.2.2.2.2.2.2.2.2.2.2.1 | simp) (by(try simp only [Ls]);omega)
   | false =>
    have q0:=fK h0
    have e:=Eq.refl (dY a0 a1 (v14,v15,v16,v17,v18,v19));conv at e=>rhs;simp only [dY,h0,aK]
    rw [aH,e]
    refine ba [.d h0] [] [0,1,4,6,7,12,13,14] [2,3,4] hcx (m:=n0) pO (pP) (nB a0 a1 (flat eZ v14) (v14.length) (flat c3 v15) (v15.length) (W (v18+1))) (by kernel_rfl) ?_
    have z0:(W (v18+1))=(v18+1):=aD (by omega) (by omega)
    rw [z0]
    exact g0 v14 v15 (v18+1) (by refine⟨?_,?_,?_,?_⟩<;>(try simp only [Ls])<;>first | omega | assumption | simp) (by(try simp only [Ls]);omega)
theorem aLb (a0:List (List (Int×Int)))(a1:List (Int))(l0:a0.length≤9223372036854775807)(l1:a1.length≤9223372036854775807)(hl:a0.length=a1.length)(hr:∀r∈a0,r.length=a1.length)(hm:a1.length≤96) {cx:Cx} (hcx:cx.base=2):∀(n:Nat)(v11:List (Int×Int))(v12:List (Int))(v13:Int),(0≤v13)∧(v11.length≤96*toNat v13)∧(v12.length=v11.length)∧(v13≤a1.length)→toNat ((a1.length:Int) - v13) < n→Aw.Good Try.prog none 9 (bodyPost Try.prog Try.f62 (RR cx (.t [(.a (k2 (aB (cS a0 a1) n (v11,v12,v13)).1)),(iv (aB (cS a0 a1) n (v11,v12,v13)).2)]) [] [])) cx [] (.l pO n::pP) (nB a0 a1 (flat eZ v11) v11.length (flat c3 v12) v12.length v13):=by
 intro n
 induction n with
 | zero=>intro v11 v12 v13 hi hn;exact absurd hn (nM _)
 | succ n ih =>
   intro v11 v12 v13 hi hn
   refine aL ?_
   cases h0:(decide ((v13:Int) < (a1.length:Int))) with
   | true =>
    have q0:=eK h0
    have e:=Eq.refl (cS a0 a1 (v11,v12,v13));conv at e=>rhs;simp only [cS,h0,aK]
    rw [aH,e]
    refine en [.d h0,.i v13 (a1.length),.L oM a1 v13 0 1] [] [0,1,4,6,7,8,9,12,13,14,19,20,21] [2,3,4] hcx vN (vO n) (rV a0 a1 (flat eZ v11) (v11.length) (flat c3 v12) (v12.length) v13 (a1.getD (toNat v13) default) v13 0) (toNat ((a1.length:Int) - 0)+1) (by kernel_rfl) ?_
    exact aLa a0 a1 l0 l1 hl hr hm hcx n ih (toNat ((a1.length:Int) - 0)+1) v11 v12 v13 (a1.getD (toNat v13) default) v13 0 (by refine⟨?_,?_,?_,?_,?_,?_,?_,?_,?_,?_,?_,?_,?_⟩<;>(try simp only [Ls])<;>first | omega | assumption | exact hi.2.1 | exact hi.2.2.1 | exact hi.2.2.2.1 | exact hi.2.2.2.2.1 | exact hi.2.2.2.2.2.1 | exact hi.2.2.2.2.2.2.1 | exact hi.2.2.2.2.2.2.2.1 | exact hi.2.2.2.2.2.2.2.2.1 | exact hi.2.2.2.2.2.2.2.2.2.1 | exact hi.2.2.2.2.2.2.2.2.2.2.1 | exact hi.2.2.2.2.2.2.2.2.2.2.2.1 | exact hi.2.2.2.2.2.2.2.2.2.2.2.2.1 | simp) (by(try simp only [Ls]);omega)
   | false =>
    have q0:=fK h0
    have e:=Eq.refl (cS a0 a1 (v11,v12,v13));conv at e=>rhs;simp only [cS,h0,aK]
    rw [aH,e]
    exact rt [.d h0,.c [3,4] (aJv v11 v12 (by omega) (by omega) (by omega) (by omega))] [] [] hcx (by kernel_rfl)
def cJ (a0:List (List (Int×Int)))(a1:List (Int)):(Int×Int)×Int :=
 (aB (cS a0 a1) (toNat ((a1.length:Int) - 0)+1) (([]:List (Int×Int)),([]:List (Int)),0))
theorem aRj (a0:List (List (Int×Int)))(a1:List (Int))(l0:a0.length≤9223372036854775807)(l1:a1.length≤9223372036854775807)(hl:a0.length=a1.length)(hr:∀r∈a0,r.length=a1.length)(hm:a1.length≤96):Con Try.prog 62 [(.s 0 0 a0.length 1),(.s 1 0 a1.length 1)] [(.live false true (flat eE a0)),(.live false true (flat c3 a1))] (.t [(.a (k2 (cJ a0 a1).1)),(iv (cJ a0 a1).2)]) []:=by
 refine aI Try.func62 (by kernel_rfl) fun cx hcx=>?_
 have e:=Eq.refl (cJ a0 a1);conv at e=>rhs;simp only [cJ]
 rw [e]
 refine en [] [.slot 6 2,.slot 7 1] [0,1,4,6,7,12,13,14] [2,3,4] hcx pO (pP) (nB a0 a1 (flat eZ ([]:List (Int×Int))) 0 (flat c3 ([]:List (Int))) 0 0) (toNat ((a1.length:Int) - 0)+1) (by kernel_rfl) ?_
 exact aLb a0 a1 l0 l1 hl hr hm hcx (toNat ((a1.length:Int) - 0)+1) ([]:List (Int×Int)) ([]:List (Int)) 0 (by refine⟨?_,?_,?_,?_⟩<;>(try simp only [Ls])<;>first | omega | assumption | simp) (by(try simp only [Ls]);omega)
abbrev TB:=List (List (Int×Int))
theorem aJw {S1:TB×List (Int×Int)×Int×Int×Int×Int×Int×Int×Int×Int×Zt→(TB×List (Int×Int)×Int×Int×Int×Int×Int×Int×Int×Int×Zt)⊕((TB×Int)⊕(TB×Int))} {S0:TB×Int→(TB×Int)⊕(TB×Int)}
   (L:List PN) (of:PN→PN→(Int×Int)×Int) (hof:∀p∈L,∀q∈L,(of p q).2=0)
   (hS1:∀(out:TB) (row:List (Int×Int)) (i j:Int) (q:PN),S1 (out,row,i,j,q.1.1,q.1.2.1,q.1.2.2,q.2.1.1,q.2.1.2.1,q.2.1.2.2,q.2.2.1,q.2.2.2.1,q.2.2.2.2) =
     bif decide (j < (L.length:Int)) then(bif ((of (L.getD (toNat j) default) q).2 != 0) then .inr (.inr ([],(of (L.getD (toNat j) default) q).2)) else .inl (out,row++[(of (L.getD (toNat j) default) q).1],i,j+1,q.1.1,q.1.2.1,q.1.2.2,q.2.1.1,q.2.1.2.1,q.2.1.2.2,q.2.2.1,q.2.2.2.1,q.2.2.2.2)) else .inr (.inl (out++[row],i+1)))
   (hS0:∀(out:TB) (i:Int),S0 (out,i)=bif decide (i < (L.length:Int)) then aB S1 (toNat ((L.length:Int) - 0)+1) (out,[],i,0,(L.getD (toNat i) default).1.1,(L.getD (toNat i) default).1.2.1,(L.getD (toNat i) default).1.2.2,(L.getD (toNat i) default).2.1.1,(L.getD (toNat i) default).2.1.2.1,(L.getD (toNat i) default).2.1.2.2,(L.getD (toNat i) default).2.2.1,(L.getD (toNat i) default).2.2.2.1,(L.getD (toNat i) default).2.2.2.2) else .inr (out,0)) :
   aB S0 (toNat ((L.length:Int) - 0)+1) ([],0)=(L.map fun q=>L.map fun p=>(of p q).1,0):=by
 have snoc:∀{α β:Type} (g:α→β) (l:List α) (v:List β),l.foldl (fun v c=>v++[g c]) v=v++l.map g:=by
   intro α β g l
   induction l with
   | nil=>intro v;simp
   | cons c l ih=>intro v;rw [List.foldl_cons,ih];simp
 have inner:∀(out:TB) (i:Int) (q:PN),q∈L→aB S1 (toNat ((L.length:Int) - 0)+1) (out,[],i,0,q.1.1,q.1.2.1,q.1.2.2,q.2.1.1,q.2.1.2.1,q.2.1.2.2,q.2.2.1,q.2.2.2.1,q.2.2.2.2)=.inl (out++[L.map fun p=>(of p q).1],i+1):=by
   intro out i q hq
   rw [bD (fun row j=>(out,row,i,j,q.1.1,q.1.2.1,q.1.2.2,q.2.1.1,q.2.1.2.1,q.2.1.2.2,q.2.2.1,q.2.2.2.1,q.2.2.2.2)) (fun row p=>.inl (row++[(of p q).1])) (fun row=>.inl (out++[row],i+1)) (L:=L) (fun _ _=>True) ?_ (fun _ _ _ _ _ _ _=>trivial) ?_ (by omega) trivial]
   · rw [bH,snoc];rfl
   · intro j c hc row _
     obtain⟨hlt,hce⟩:=List.getElem?_eq_some_iff.1 hc
     rw [hS1,cV (by omega),cond_true,bF hc,hof c (List.mem_of_getElem? hc) q hq]
     rfl
   · intro row _
     rw [hS1,dL (by omega),cond_false]
 rw [bD (fun out i=>(out,i)) (fun out q=>.inl (out++[L.map fun p=>(of p q).1])) (fun out=>(out,0)) (L:=L) (fun _ _=>True) ?_ (fun _ _ _ _ _ _ _=>trivial) ?_ (by omega) trivial]
 · rw [bH,snoc];rfl
 · intro i c hc out _
   obtain⟨hlt,hce⟩:=List.getElem?_eq_some_iff.1 hc
   rw [hS0,cV (by omega),cond_true,bF hc,inner out i c (List.mem_of_getElem? hc)]
   rfl
 · intro out _
   rw [hS0,dL (by omega),cond_false]
abbrev aT (m:ME):List PN:=m.2.map (iV m)
theorem aS6 {m:ME} (h:bN m=0):aX m=(aT m,0):=by
 rw [aS5,h];rfl
theorem aGa {m:ME} {d:Int} (h:bN m=0)(hd:0≤d∧d≤2):bP m d=((aT m).map fun q=>(aT m).map fun p=>(wU p q d).1,0):=by
 have hP:=aS6 h
 have g:=aJw (S1:=dW m d) (S0:=cG m d) (aX m).1 (fun p q=>wU p q d) (by
   rw [hP];exact fun p hp q hq=>(oO (oP h hd hp hq)).1) (fun out row i j q=>rfl) (fun out i=>rfl)
 unfold bP
 show(bif ((aX m).2 != 0) then _ else _)=_
 rw [show((aX m).2 != 0)=false from by rw [hP];rfl,cond_false]
 refine Eq.trans g ?_
 rw [hP]
theorem aGb {m:ME} {d:Int} (h:bN m=0)(hd:0≤d∧d≤2):bW m d=((aT m).map fun q=>(aT m).map fun p=>(qH p q d).1,0):=by
 have hP:=aS6 h
 have g:=aJw (S1:=dX m d) (S0:=cH m d) (aX m).1 (fun p q=>qH p q d) (by
   rw [hP];exact fun p hp q hq=>(rQ (oP h hd hp hq)).1) (fun out row i j q=>rfl) (fun out i=>rfl)
 unfold bW
 show(bif ((aX m).2 != 0) then _ else _)=_
 rw [show((aX m).2 != 0)=false from by rw [hP];rfl,cond_false]
 refine Eq.trans g ?_
 rw [hP]
def okC (q:List Int):Prop:=∀c∈q,0≤c∧c≤100
def aD5 (q:List Int)(v:Int):Int:=q.foldl (fun v c=>W (v+c)) v
theorem aD6:∀(q:List Int)(v:Int),okC q→0≤v→v+100*(q.length:Int)≤1000000→aD5 q v=v+q.sum∧v≤v+q.sum∧v+q.sum≤v+100*(q.length:Int)
 | [],v,_,_,_=>by simp [aD5]
 | c::q,v,h,h0,h1=>by
   have hc:=h c List.mem_cons_self
   simp only [List.length_cons] at h1
   have ih:=aD6 q (v+c) (fun x hx=>h x (List.mem_cons_of_mem _ hx)) (by omega) (by omega)
   have e:aD5 (c::q) v=aD5 q (v+c):=by
     show aD5 q (W (v+c))=_
     rw [aD (by omega) (by omega)]
   rw [e]
   simp only [List.sum_cons,List.length_cons]
   omega
theorem aCk:∀(q:List Int)(v:Int),(kG (R:=Int) (fun v c=>bif (!oL c 0 100) then .inr 1 else .inl (W (v+c))) q v=.inr 1∧kG (σ:=Unit) (R:=Int) (fun _ c=>bif (!oL c 0 100) then .inr 1 else .inl ()) q ()=.inr 1) ∨
   (kG (R:=Int) (fun v c=>bif (!oL c 0 100) then .inr 1 else .inl (W (v+c))) q v=.inl (aD5 q v)∧kG (σ:=Unit) (R:=Int) (fun _ c=>bif (!oL c 0 100) then .inr 1 else .inl ()) q ()=.inl ()∧okC q)
 | [],v=>.inr ⟨rfl,rfl,fun c hc=>by simp at hc⟩
 | c::q,v=>by
   simp only [kG]
   cases hc:(!oL c 0 100) with
   | true=>exact .inl ⟨rfl,rfl⟩
   | false =>
     simp only [cond_false]
     rcases aCk q (W (v+c)) with h | ⟨h1,h2,h3⟩
     · exact .inl h
     · refine .inr ⟨h1,h2,fun x hx=>?_⟩
       rcases List.mem_cons.1 hx with rfl | hx
       · exact rP hc
       · exact h3 x hx
theorem aXw (q:List Int):cR q=W ((W (aD5 q 0*1048576))*1048576):=by
 unfold cR
 rw [bD (fun v i=>(v,i)) (fun v c=>.inl (W (v+c))) (fun v=>W ((W (v*1048576))*1048576)) (L:=q) (fun _ _=>True) ?_ (fun _ _ _ _ _ _ _=>trivial) ?_ (by omega) trivial]
 · rw [bH];rfl
 · intro i c hc v _
   obtain⟨hlt,hce⟩:=List.getElem?_eq_some_iff.1 hc
   simp only [kU]
   rw [cV (by omega),cond_true,bF hc];rfl
 · intro v _
   simp only [kU]
   rw [dL (by omega),cond_false]
noncomputable def chV (m:ME)(q:List Int):Int:=bif ((bN m:Int) != 0) then bN m else bif (((q.length:Int):Int) != (m.2.length:Int)) then 1 else
 aBr (fun v=>bif (v == 0) then 11 else 0) (kG (R:=Int) (fun v c=>bif (!oL c 0 100) then .inr 1 else .inl (W (v+c))) q 0)
theorem aXx (m:ME)(q:List Int):lS m q=chV m q:=by
 unfold lS chV
 show(bif ((bN m:Int) != 0) then bN m else _)=_
 congr 1
 congr 1
 refine bD (fun v i=>(v,i)) _ (fun v=>bif (v == 0) then 11 else 0) (L:=q) (fun _ _=>True) ?_ (fun _ _ _ _ _ _ _=>trivial) ?_ (by omega) trivial
 · intro i c hc v _
   obtain⟨hlt,hce⟩:=List.getElem?_eq_some_iff.1 hc
   simp only [fR]
   rw [cV (by omega),cond_true,bF hc]
   cases (!oL c 0 100)<;>rfl
 · intro v _
   simp only [fR]
   rw [dL (by omega),cond_false]
   cases (v == 0)<;>rfl
structure ChOK (m:ME) (q:List Int):Prop where
 v:bN m=0
 len:q.length=m.2.length
 ok:okC q
 pos:1≤q.sum
 le:q.sum≤9600
 n:1≤m.2.length∧m.2.length≤96
 tot:aD5 q 0=q.sum
theorem aXy {m:ME} {q:List Int} (h:chV m q=0):ChOK m q:=by
 unfold chV at h
 cases h1:((bN m:Int) != 0) with
 | true=>rw [h1,cond_true] at h;exact absurd h (bne_iff_ne.1 h1)
 | false =>
 rw [h1,cond_false] at h
 have hv:=bne_eq_false_iff_eq.1 h1
 obtain⟨_,n1,n2,_,_⟩:=bI hv
 cases h2:(((q.length:Int):Int) != (m.2.length:Int)) with
 | true=>rw [h2,cond_true] at h;exact absurd h (by decide)
 | false =>
 rw [h2,cond_false] at h
 have hl:=bne_eq_false_iff_eq.1 h2
 rcases aCk q 0 with⟨g1,_⟩ | ⟨g1,_,g3⟩
 · rw [g1] at h;exact absurd h (by decide)
 · rw [g1] at h
   have ht:=aD6 q 0 g3 (Int.le_refl 0) (by omega)
   simp only [aBr] at h
   have hne:aD5 q 0≠0:=by
     intro e
     rw [e] at h;exact absurd h (by decide)
   exact⟨hv,by omega,g3,by omega,by omega,⟨n1,n2⟩,by omega⟩
noncomputable def chD (m:ME)(q:List Int)(d:Int):Int:=bif (chV m q != 0) then chV m q else bif (!oL d 0 2) then 1 else 0
theorem aCl (m:ME)(q:List Int)(d:Int):eV m q d=chD m q d:=by
 unfold eV chD
 rw [show lS (m.1,m.2) q=chV m q from aXx m q]
theorem aAq {m:ME} {q:List Int} {d:Int} (h:chD m q d=0):ChOK m q∧0≤d∧d≤2:=by
 unfold chD at h
 cases h1:(chV m q != 0) with
 | true=>rw [h1,cond_true] at h;exact absurd h (bne_iff_ne.1 h1)
 | false =>
 rw [h1,cond_false] at h
 cases h2:(!oL d 0 2) with
 | true=>rw [h2,cond_true] at h;exact absurd h (by decide)
 | false=>exact⟨aXy (bne_eq_false_iff_eq.1 h1),rP h2⟩
theorem aJx {m:ME} {d:Int} {f:PN→PN→Int×Int} {T:TB} {n:Nat} (e:T=(aT m).map fun q=>(aT m).map fun p=>f p q)(hn:n=m.2.length):T.length=n∧∀r∈T,r.length=n:=by
 subst e hn
 refine⟨by simp,fun r hr=>?_⟩
 obtain⟨q,_,rfl⟩:=List.mem_map.1 hr
 simp
noncomputable def aD7 (c:(Int×Int)×Int):(Int×Int)×Int:=iU c.1 c.2
noncomputable def iY (l:List ((Int×Int)×Int)):(Int×Int)×Int:=aBq aNa (fun e=>((0,0),e)) (shs aD7 l [])
theorem aOa {a:Int×Int} (h:okP a):vs a:=by unfold okP at h;unfold vs;omega
theorem aRk {a:Int×Int} {n:Int} (ha:okP a)(hn:0≤n∧n≤10000)(h:(iU a n).2=0):n≤(iU a n).1.1∧(iU a n).1.1≤(iU a n).1.2:=by
 rw [aDu (aOa ha) (by omega)] at h ⊢
 unfold okP at ha
 have h1:=aAg ha.1 hn.1
 have h2:=aAg ha.2.1 hn.1
 have h3:kK 1 n=n:=by unfold kK;rw [Int.one_mul,if_neg (by omega),if_neg (by omega)]
 have e:scl a n=(kK a.1 n,kK a.2 n):=by unfold scl;rw [if_neg (by omega)]
 rw [e] at h ⊢
 rcases pF (kK a.1 n) (kK a.2 n) with⟨g,_⟩ | g
 · rw [g];simp only;omega
 · rw [g] at h;exact absurd h (by decide)
theorem aUx {c:(Int×Int)×Int} (h:(aD7 c).2=0):vs (aD7 c).1:=aNc h
theorem aRl {l:List ((Int×Int)×Int)} {m:List (Int×Int)} (h:shs aD7 l []=.inl m)(hn:l.length≤9216):(∀a∈m,vs a)∧m.length≤10000:=by
 obtain⟨e,h0⟩:=mW h
 rw [List.nil_append] at e
 subst e
 exact⟨fun a ha=>by obtain⟨c,hc,rfl⟩:=List.mem_map.1 ha;exact aUx (h0 c hc),by rw [List.length_map];omega⟩
theorem aS7 {xs:List (Int×Int)} {q:List Int} (hl:xs.length≤q.length)(hn:xs.length≤9216):cI xs q=iY (xs.zip q):=by
 have hz:(xs.zip q).length=xs.length:=by rw [List.length_zip];omega
 unfold cI iY
 have key:=vA (g:=aD7) (S:=dJ xs q) (E:=fun e=>(((0,0):Int×Int),e)) (L:=xs.zip q) (G:=fun l=>((jA l).1,(jA l).2))
   (fun i c hi l=>?_) (fun l=>?_) (xs.zip q) 0 (toNat ((xs.length:Int) - 0)+1) [] rfl (Nat.zero_le _) (by omega)
 · refine Eq.trans key ?_
   cases hs:shs aD7 (xs.zip q) [] with
   | inr r=>rfl
   | inl m =>
     obtain⟨hv,hm⟩:=aRl hs (by omega)
     simp only [aBq]
     rw [aXd hv hm]
 · obtain⟨h1,h2⟩:=List.getElem?_zip_eq_some.1 hi
   have hlt:=(List.getElem?_eq_some_iff.1 h1).1
   simp only [dJ]
   rw [cV (by omega),cond_true,bF h1,bF h2]
   show _=bif ((iU c.1 c.2).2 != 0) then _ else _
   cases ((iU c.1 c.2).2 != 0)<;>rfl
 · simp only [dJ]
   rw [dL (by rw [hz];omega),cond_false]
theorem aJy {l:List ((Int×Int)×Int)} (hl:∀c∈l,okP c.1∧0≤c.2∧c.2≤10000)(h:(iY l).2=0):(l.map (·.2)).sum≤(iY l).1.1∧(iY l).1.1≤(iY l).1.2∧vs (iY l).1:=by
 unfold iY at h ⊢
 cases hs:shs aD7 l [] with
 | inr r=>rw [hs] at h;exact absurd h (tL hs)
 | inl m =>
   rw [hs] at h
   simp only [aBq] at h ⊢
   obtain⟨e,hv⟩:=aNb h
   rw [e]
   obtain⟨e2,h0⟩:=mW hs
   rw [List.nil_append] at e2
   refine⟨?_,hv.2.1,hv⟩
   rw [kS,e2]
   simp only [Int.zero_add,List.map_map]
   clear hs h e hv e2
   induction l with
   | nil=>simp
   | cons c l ih =>
     have hc:=hl c List.mem_cons_self
     have:=aRk hc.1 hc.2 (h0 c List.mem_cons_self)
     have ih:=ih (fun x hx=>hl x (List.mem_cons_of_mem _ hx)) (fun x hx=>h0 x (List.mem_cons_of_mem _ hx))
     simp only [List.map_cons,List.sum_cons,Function.comp] at ih ⊢
     have e:(aD7 c).1.1=(iU c.1 c.2).1.1:=rfl
     omega
noncomputable def tQ (T:TB)(q:List Int):List (Int×Int)×Int:=aBq (fun l=>(l,0)) (fun e=>([],e)) (shs (fun r:List (Int×Int)=>iY (r.zip q)) T [])
theorem aOb {T:TB} {q:List Int} (hr:∀r∈T,r.length≤q.length)(hm:q.length≤96):aW T q=tQ T q:=by
 unfold aW tQ
 refine vA (g:=fun r:List (Int×Int)=>iY (r.zip q)) (S:=dA T q) (E:=fun e=>(([]:List (Int×Int)),e)) (L:=T) (G:=fun l=>(l,0))
   (fun i c hi l=>?_) (fun l=>?_) T 0 (toNat ((T.length:Int) - 0)+1) [] rfl (Nat.zero_le _) (by omega)
 · obtain⟨hlt,hce⟩:=List.getElem?_eq_some_iff.1 hi
   have hc:=hr c (List.mem_of_getElem? hi)
   simp only [dA]
   rw [cV (by omega),cond_true,bF hi,aS7 hc (by omega)]
   cases ((iY (c.zip q)).2 != 0)<;>rfl
 · simp only [dA]
   rw [dL (by omega),cond_false]
theorem aJz {T:TB} {q:List Int} (hT:∀r∈T,r.length=q.length∧∀s∈r,okP s)(hq:okC q)(h:(tQ T q).2=0) :
   (tQ T q).1.length=T.length∧∀s∈(tQ T q).1,q.sum≤s.1∧s.1≤s.2∧vs s:=by
 unfold tQ at h ⊢
 cases hs:shs (fun r:List (Int×Int)=>iY (r.zip q)) T [] with
 | inr r=>rw [hs] at h;exact absurd h (tL hs)
 | inl m =>
   simp only [aBq]
   obtain⟨e,h0⟩:=mW hs
   rw [List.nil_append] at e
   subst e
   refine⟨by rw [List.length_map],fun s hsm=>?_⟩
   obtain⟨r,hr,rfl⟩:=List.mem_map.1 hsm
   obtain⟨hl,hP⟩:=hT r hr
   have hp:=aJy (l:=r.zip q) (fun c hc=>⟨hP _ (List.of_mem_zip hc).1,by have:=hq _ (List.of_mem_zip hc).2;omega⟩) (h0 r hr)
   have:(r.zip q).map (·.2)=q:=List.map_snd_zip (by omega)
   rw [this] at hp
   exact hp
theorem aRm {m:ME} {q:List Int} {d:Int} (h:((eV m q d:Int) != 0)=false):(∀r∈(bP m d).1,r.length≤q.length)∧(bP m d).1.length≤96∧q.length≤96:=by
 rw [aCl] at h
 obtain⟨hc,hd⟩:=aAq (bne_eq_false_iff_eq.1 h)
 obtain⟨h1,h2⟩:=aJx (d:=d) (T:=(bP m d).1) (by rw [aGa hc.v hd]) hc.len.symm.symm
 have:=hc.n;have:=hc.len
 exact⟨fun r hr=>by rw [h2 r hr];omega,by omega,by omega⟩
theorem aUy {m:ME} {q:List Int} {d:Int} (h:((eV m q d:Int) != 0)=false):(bW m d).1.length=q.length∧(∀r∈(bW m d).1,r.length=q.length)∧q.length≤96:=by
 rw [aCl] at h
 obtain⟨hc,hd⟩:=aAq (bne_eq_false_iff_eq.1 h)
 obtain⟨h1,h2⟩:=aJx (d:=d) (T:=(bW m d).1) (by rw [aGb hc.v hd]) hc.len
 have:=hc.n;have:=hc.len
 exact⟨h1,h2,by omega⟩
noncomputable def kZ (m:ME)(d:Int)(pj:PN):List (Int×Int):=(aT m).map fun p=>(wU p pj d).1
theorem aOc {α β γ:Type} (f:α→γ):∀(l:List α)(k:List β),(l.map f).zip k=(l.zip k).map (fun c=>(f c.1,c.2))
 | [],_=>by simp
 | _::_,[]=>by simp
 | a::l,b::k=>by simp [aOc f l k]
def cU {γ R:Type} (E:Int→R):List γ⊕Int→List γ⊕R
 | .inl m=>.inl m
 | .inr e=>.inr (E e)
theorem aCm {α β γ:Type} (fx:α→List β)(fy:α→List γ)(hl:∀c,(fx c).length=(fy c).length):∀(L:List α)(v:List β×List γ),v.1.length=v.2.length →
   (L.foldl (fun v c=>(v.1++fx c,v.2++fy c)) v).1.length=(L.foldl (fun v c=>(v.1++fx c,v.2++fy c)) v).2.length ∧
   (L.foldl (fun v c=>(v.1++fx c,v.2++fy c)) v).1.zip (L.foldl (fun v c=>(v.1++fx c,v.2++fy c)) v).2=v.1.zip v.2++L.flatMap (fun c=>(fx c).zip (fy c))
 | [],v,h=>⟨h,by simp⟩
 | c::L,v,h=>by
   have ih:=aCm fx fy hl L (v.1++fx c,v.2++fy c) (by simp only [List.length_append];rw [h,hl c])
   rw [List.foldl_cons]
   refine⟨ih.1,ih.2.trans ?_⟩
   simp only [List.flatMap_cons]
   rw [List.zip_append h,List.append_assoc]
theorem aCn {α β γ:Type} (fx:α→List β)(fy:α→List γ)(n:Nat)(hn:∀c,(fx c).length≤n):∀(L:List α)(v:List β×List γ),(L.foldl (fun v c=>(v.1++fx c,v.2++fy c)) v).1.length≤v.1.length+n*L.length
 | [],v=>by simp
 | c::L,v=>by
   have ih:=aCn fx fy n hn L (v.1++fx c,v.2++fy c)
   have:=hn c
   rw [List.foldl_cons,List.length_cons,Nat.mul_succ]
   simp only [List.length_append] at ih
   omega
noncomputable def eC (m:ME)(q:List Int)(d:Int)(c:PN×Int):List ((Int×Int)×Int):=((aT m).zip q).map fun e=>((qH c.1 e.1 d).1,W (c.2*e.2))
noncomputable def eX (m:ME)(q:List Int)(d:Int)(c:PN×Int):List (Int×Int):=((aT m).zip q).map fun e=>(qH c.1 e.1 d).1
noncomputable def eY (m:ME)(q:List Int)(c:PN×Int):List Int:=((aT m).zip q).map fun e=>W (c.2*e.2)
theorem eXY (m:ME)(q:List Int)(d:Int)(c:PN×Int):(eX m q d c).zip (eY m q c)=eC m q d c:=by
 unfold eX eY eC
 generalize (aT m).zip q=L
 induction L with
 | nil=>rfl
 | cons e L ih=>simp only [List.map_cons,List.zip_cons_cons,ih]
theorem aJ0 {α β:Type} (g:α→β)(l:List α)(v:List β):l.foldl (fun v c=>v++[g c]) v=v++l.map g:=by
 induction l generalizing v with
 | nil=>simp
 | cons c l ih=>rw [List.foldl_cons,ih];simp
theorem aUz {α β γ:Type} (g:α→β)(h:α→γ)(l:List α)(v:List β×List γ):l.foldl (fun v c=>(v.1++[g c],v.2++[h c])) v=(v.1++l.map g,v.2++l.map h):=by
 induction l generalizing v with
 | nil=>simp
 | cons c l ih=>rw [List.foldl_cons,ih];simp
noncomputable def MT (m:ME)(d:Int):TB:=(aT m).map fun q=>(aT m).map fun p=>(qH p q d).1
theorem aU0 {m:ME} {d:Int} {i j:Nat} {p r:PN} (hi:(aT m)[i]? = some p)(hj:(aT m)[j]? = some r):((MT m d).getD (toNat (j:Int)) default).getD (toNat (i:Int)) default=(qH p r d).1:=by
 have e1:(MT m d)[j]? = some ((aT m).map fun p=>(qH p r d).1):=by unfold MT;rw [List.getElem?_map,hj];rfl
 rw [bF e1]
 have e2:((aT m).map fun p=>(qH p r d).1)[i]? = some (qH p r d).1:=by rw [List.getElem?_map,hi];rfl
 rw [bF e2]
theorem aU1 {m:ME} {q:List Int} {d:Int} (hl:(aT m).length=q.length)(xs:List (Int×Int))(ys:List Int)(i:Nat) {c:PN×Int} (hi:((aT m).zip q)[i]? = some c) :
   aB (dY (MT m d) q) (toNat ((q.length:Int) - 0)+1) (xs,ys,(i:Int),c.2,(i:Int),0)=.inl (xs++eX m q d c,ys++eY m q c,(i:Int)+1):=by
 obtain⟨hi1,hi2⟩:=List.getElem?_zip_eq_some.1 hi
 have hz:((aT m).zip q).length=q.length:=by rw [List.length_zip];omega
 have key:=bD (S:=dY (MT m d) q) (fun(v:List (Int×Int)×List Int) j=>(v.1,v.2,(i:Int),c.2,(i:Int),j)) (fun v e=>.inl (v.1++[(qH c.1 e.1 d).1],v.2++[W (c.2*e.2)])) (fun v=>.inl (v.1,v.2,(i:Int)+1)) (L:=(aT m).zip q) (v:=(xs,ys)) (n:=toNat ((q.length:Int) - 0)+1) (fun _ _=>True) ?_ (fun _ _ _ _ _ _ _=>trivial) ?_ (by omega) trivial
 · refine Eq.trans key ?_
   rw [bH,aUz];rfl
 · intro j e hj v _
   obtain⟨h1,h2⟩:=List.getElem?_zip_eq_some.1 hj
   have hlt:=(List.getElem?_eq_some_iff.1 h2).1
   simp only [dY]
   rw [cV (by omega),cond_true,aU0 hi1 h1,bF h2]
   rfl
 · intro v _
   simp only [dY]
   rw [dL (by omega),cond_false]
theorem aXz {m:ME} {q:List Int} {d:Int} (hl:(aT m).length=q.length)(hm:q.length≤96):cJ (MT m d) q=iY (((aT m).zip q).flatMap (eC m q d)):=by
 have hz:((aT m).zip q).length=q.length:=by rw [List.length_zip];omega
 unfold cJ
 have key:=bD (S:=cS (MT m d) q) (fun(v:List (Int×Int)×List Int) i=>(v.1,v.2,i)) (fun v c=>.inl (v.1++eX m q d c,v.2++eY m q c)) (fun v=>((cI v.1 v.2).1,(cI v.1 v.2).2)) (L:=(aT m).zip q) (v:=([],[])) (n:=toNat ((q.length:Int) - 0)+1) (fun _ _=>True) ?_ (fun _ _ _ _ _ _ _=>trivial) ?_ (by omega) trivial
 · refine Eq.trans key ?_
   rw [bH]
   obtain⟨h1,h2⟩:=aCm (eX m q d) (eY m q) (fun c=>by unfold eX eY;rw [List.length_map,List.length_map]) ((aT m).zip q) ([],[]) rfl
   have h3:=aCn (eX m q d) (eY m q) 96 (fun c=>by unfold eX;rw [List.length_map];omega) ((aT m).zip q) ([],[])
   simp only [List.length_nil] at h3
   simp only [aBr]
   rw [aS7 (by omega) (by omega),h2]
   simp only [eXY,List.zip_nil_left,List.nil_append]
 · intro i c hi v _
   obtain⟨h1,h2⟩:=List.getElem?_zip_eq_some.1 hi
   have hlt:=(List.getElem?_eq_some_iff.1 h2).1
   simp only [cS]
   rw [cV (by omega),cond_true,bF h2,aU1 hl v.1 v.2 i hi]
   rfl
 · intro v _
   simp only [cS]
   rw [dL (by omega),cond_false]
theorem aOd {l:List (Int×Int)} (h:∀s∈l,1≤s.2)(j:Int):(0≤j∧j < (l.length:Int))→1≤(l.getD (toNat j) default).2:=fun g=>by
 have hlt:toNat j < l.length:=by omega
 rw [eW,List.getElem?_eq_getElem hlt,Option.getD_some]
 exact h _ (List.getElem_mem hlt)
theorem aOe {l:List (Int×Int)} (h:∀s∈l,1≤s.1)(j:Int):(0≤j∧j < (l.length:Int))→1≤(l.getD (toNat j) default).1:=fun g=>by
 have hlt:toNat j < l.length:=by omega
 rw [eW,List.getElem?_eq_getElem hlt,Option.getD_some]
 exact h _ (List.getElem_mem hlt)
theorem aRn {l:List (Int×Int)} (h:∀s∈l,1≤s.2)(hl:1≤l.length):1≤(l.getD 0 default).2:=aOd h 0 (by omega)
theorem aRo {l:List (Int×Int)} (h:∀s∈l,1≤s.1)(hl:1≤l.length):1≤(l.getD 0 default).1:=aOe h 0 (by omega)
theorem oQ (a b:Int):a≤qD a b∧b≤qD a b∧(qD a b=a∨qD a b=b):=by unfold qD;split<;>omega
theorem rW (a b:Int):zK a b≤a∧zK a b≤b∧(zK a b=a∨zK a b=b):=by unfold zK;split<;>omega
def F88 (a0:Int)(a1:Int):Int :=
 (W (Int.tdiv (W ((W (a0+a1)) - 1)) a1))
theorem C88 (a0:Int)(a1:Int)(hd:a1≠0):Con Try.prog 88 [(iv a0),(iv a1)] [] (iv (F88 a0 a1)) []:=by
 refine aI Try.func88 (by kernel_rfl) fun cx hcx=>?_
 have e:=Eq.refl (F88 a0 a1);conv at e=>rhs;simp only [F88]
 rw [e]
 exact rt [.p (show(a1:Int)≠0 from by first | omega | (rw [aD]<;>omega) | exact jZ _)] [] [] hcx (by kernel_rfl)
noncomputable def vP:Code:=(aF [1,1,0,1] [] (aG Try.f61) []).1
noncomputable def vQ:List K:=(aF [1,1,0,1] [] (aG Try.f61) []).2
def rX (a0:List (Int×Int))(a1:List (Int))(v1 v2:Int):LS:=⟨lZ 31 [(1,(.s 1 0 a1.length 1)),(6,(iv v1)),(13,(.s 0 0 a0.length 2)),(14,(iv (a0.length:Int))),(15,(iv v2))],[(.live false true (flat eZ a0)),(.live false true (flat c3 a1))]⟩
def fG (a0:List (Int×Int))(a1:List (Int)):Int×Int→(Int×Int)⊕(Int×Int)
 | (v1,v2) =>
  (bif (decide ((v2:Int) < (a0.length:Int))) then
   (.inl ((qD v1 (a0.getD (toNat v2) default).2),(v2+1)))
  else
   (.inr ((F86 (W (Int.tdiv (cR a1) v1))).1,(F86 (W (Int.tdiv (cR a1) v1))).2)))
theorem aLc (a0:List (Int×Int))(a1:List (Int))(l0:a0.length≤9223372036854775807)(l1:a1.length≤9223372036854775807)(hl:1≤a0.length)(hp:∀s∈a0,1≤s.2) {cx:Cx} (hcx:cx.base=2):∀(n:Nat)(v1 v2:Int),(0≤v2)∧(1≤v1)→toNat ((a0.length:Int) - v2) < n→Aw.Good Try.prog none 9 (bodyPost Try.prog Try.f61 (RR cx (.t (k2 (aB (fG a0 a1) n (v1,v2)))) [] [])) cx [] (.l vP n::vQ) (rX a0 a1 v1 v2):=by
 intro n
 induction n with
 | zero=>intro v1 v2 hi hn;exact absurd hn (nM _)
 | succ n ih =>
   intro v1 v2 hi hn
   refine aL ?_
   have hps:=aOd hp v2
   have hmx:=oQ v1 (a0.getD (toNat v2) default).2
   cases h0:(decide ((v2:Int) < (a0.length:Int))) with
   | true =>
    have q0:=eK h0
    have e:=Eq.refl (fG a0 a1 (v1,v2));conv at e=>rhs;simp only [fG,h0,aK]
    rw [aC e]
    refine ba [.d h0,.i v2 (a0.length),.L dR a0 v2 0 2] [] [1,6,13,14,15] [] hcx (m:=n) vP (vQ) (rX a0 a1 (qD v1 (a0.getD (toNat v2) default).2) (W (v2+1))) (by kernel_rfl) ?_
    have z0:(W (v2+1))=(v2+1):=aD (by omega) (by omega)
    rw [z0]
    exact ih (qD v1 (a0.getD (toNat v2) default).2) (v2+1) (by refine⟨?_,?_⟩<;>(try simp only [Ls])<;>first | omega | assumption | simp) (by(try simp only [Ls]);omega)
   | false =>
    have q0:=fK h0
    have e:=Eq.refl (fG a0 a1 (v1,v2));conv at e=>rhs;simp only [fG,h0,aK]
    rw [aH,e]
    exact rt [.d h0,.c [1] (aN5 a1 (by omega)),.p (show(v1:Int)≠0 from by first | omega | (rw [aD]<;>omega) | exact jZ _),.c [] (C86 (W (Int.tdiv (cR a1) v1)))] [] [] hcx (by kernel_rfl)
def gL (a0:List (Int×Int))(a1:List (Int)):Int×Int :=
 (aB (fG a0 a1) (toNat ((a0.length:Int) - 0)+1) ((a0.getD (toNat 0) default).2,0))
theorem aRp (a0:List (Int×Int))(a1:List (Int))(l0:a0.length≤9223372036854775807)(l1:a1.length≤9223372036854775807)(hl:1≤a0.length)(hp:∀s∈a0,1≤s.2):Con Try.prog 61 [(.s 0 0 a0.length 2),(.s 1 0 a1.length 1)] [(.live false true (flat eZ a0)),(.live false true (flat c3 a1))] (.t (k2 (gL a0 a1))) []:=by
 refine aI Try.func61 (by kernel_rfl) fun cx hcx=>?_
 have hp0:=aRn hp hl
 have e:=Eq.refl (gL a0 a1);conv at e=>rhs;simp only [gL]
 rw [e]
 refine en [.i 0 (a0.length),.L dR a0 0 1 1] [] [1,6,13,14,15] [] hcx vP (vQ) (rX a0 a1 ((a0.getD (toNat 0) default).2) 0) (toNat ((a0.length:Int) - 0)+1) (by kernel_rfl) ?_
 exact aLc a0 a1 l0 l1 hl hp hcx (toNat ((a0.length:Int) - 0)+1) ((a0.getD (toNat 0) default).2) 0 (by refine⟨?_,?_⟩<;>(try simp only [Ls])<;>first | omega | assumption | simp) (by(try simp only [Ls]);omega)
noncomputable def vR:Code:=(aF [1,1,0,1] [] (aG Try.f64) []).1
noncomputable def vS:List K:=(aF [1,1,0,1] [] (aG Try.f64) []).2
def rY (a0:List (Int×Int))(a1:List (Int))(v1 v2:Int):LS:=⟨lZ 31 [(1,(.s 1 0 a1.length 1)),(6,(iv v1)),(13,(.s 0 0 a0.length 2)),(14,(iv (a0.length:Int))),(15,(iv v2))],[(.live false true (flat eZ a0)),(.live false true (flat c3 a1))]⟩
def fH (a0:List (Int×Int))(a1:List (Int)):Int×Int→(Int×Int)⊕(Int×Int)
 | (v1,v2) =>
  (bif (decide ((v2:Int) < (a0.length:Int))) then
   (.inl ((zK v1 (a0.getD (toNat v2) default).1),(v2+1)))
  else
   (.inr ((F86 (F88 (cR a1) v1)).1,(F86 (F88 (cR a1) v1)).2)))
theorem aLd (a0:List (Int×Int))(a1:List (Int))(l0:a0.length≤9223372036854775807)(l1:a1.length≤9223372036854775807)(hl:1≤a0.length)(hp:∀s∈a0,1≤s.1) {cx:Cx} (hcx:cx.base=2):∀(n:Nat)(v1 v2:Int),(0≤v2)∧(1≤v1)→toNat ((a0.length:Int) - v2) < n→Aw.Good Try.prog none 9 (bodyPost Try.prog Try.f64 (RR cx (.t (k2 (aB (fH a0 a1) n (v1,v2)))) [] [])) cx [] (.l vR n::vS) (rY a0 a1 v1 v2):=by
 intro n
 induction n with
 | zero=>intro v1 v2 hi hn;exact absurd hn (nM _)
 | succ n ih =>
   intro v1 v2 hi hn
   refine aL ?_
   have hps:=aOe hp v2
   have hmx:=rW v1 (a0.getD (toNat v2) default).1
   cases h0:(decide ((v2:Int) < (a0.length:Int))) with
   | true =>
    have q0:=eK h0
    have e:=Eq.refl (fH a0 a1 (v1,v2));conv at e=>rhs;simp only [fH,h0,aK]
    rw [aC e]
    refine ba [.d h0,.i v2 (a0.length),.L dR a0 v2 0 2] [] [1,6,13,14,15] [] hcx (m:=n) vR (vS) (rY a0 a1 (zK v1 (a0.getD (toNat v2) default).1) (W (v2+1))) (by kernel_rfl) ?_
    have z0:(W (v2+1))=(v2+1):=aD (by omega) (by omega)
    rw [z0]
    exact ih (zK v1 (a0.getD (toNat v2) default).1) (v2+1) (by refine⟨?_,?_⟩<;>(try simp only [Ls])<;>first | omega | assumption | simp) (by(try simp only [Ls]);omega)
   | false =>
    have q0:=fK h0
    have e:=Eq.refl (fH a0 a1 (v1,v2));conv at e=>rhs;simp only [fH,h0,aK]
    rw [aH,e]
    exact rt [.d h0,.c [1] (aN5 a1 (by omega)),.c [] (C88 (cR a1) v1  (by omega)),.c [] (C86 (F88 (cR a1) v1))] [] [] hcx (by kernel_rfl)
def gM (a0:List (Int×Int))(a1:List (Int)):Int×Int :=
 (aB (fH a0 a1) (toNat ((a0.length:Int) - 0)+1) ((a0.getD (toNat 0) default).1,0))
theorem aRq (a0:List (Int×Int))(a1:List (Int))(l0:a0.length≤9223372036854775807)(l1:a1.length≤9223372036854775807)(hl:1≤a0.length)(hp:∀s∈a0,1≤s.1):Con Try.prog 64 [(.s 0 0 a0.length 2),(.s 1 0 a1.length 1)] [(.live false true (flat eZ a0)),(.live false true (flat c3 a1))] (.t (k2 (gM a0 a1))) []:=by
 refine aI Try.func64 (by kernel_rfl) fun cx hcx=>?_
 have hp0:=aRo hp hl
 have e:=Eq.refl (gM a0 a1);conv at e=>rhs;simp only [gM]
 rw [e]
 refine en [.i 0 (a0.length),.L dR a0 0 0 1] [] [1,6,13,14,15] [] hcx vR (vS) (rY a0 a1 ((a0.getD (toNat 0) default).1) 0) (toNat ((a0.length:Int) - 0)+1) (by kernel_rfl) ?_
 exact aLd a0 a1 l0 l1 hl hp hcx (toNat ((a0.length:Int) - 0)+1) ((a0.getD (toNat 0) default).1) 0 (by refine⟨?_,?_⟩<;>(try simp only [Ls])<;>first | omega | assumption | simp) (by(try simp only [Ls]);omega)
def qT (a0:Int×Int)(a1:List (Int)):Int×Int :=
 ((F86 (W (Int.tdiv (cR a1) (F88 a0.2 (W (Int.tdiv (W (Int.tdiv (cR a1) 1048576)) 1048576)))))).1,(F86 (W (Int.tdiv (cR a1) (F88 a0.2 (W (Int.tdiv (W (Int.tdiv (cR a1) 1048576)) 1048576)))))).2)
theorem aX0 (a0:Int×Int)(a1:List (Int))(l1:a1.length≤9223372036854775807)(hq:W (Int.tdiv (W (Int.tdiv (cR a1) 1048576)) 1048576)≠0)(hw:F88 a0.2 (W (Int.tdiv (W (Int.tdiv (cR a1) 1048576)) 1048576))≠0):Con Try.prog 63 [(.a [(iv a0.1),(iv a0.2)]),(.s 0 0 a1.length 1)] [(.live false true (flat c3 a1))] (.t (k2 (qT a0 a1))) []:=by
 refine aI Try.func63 (by kernel_rfl) fun cx hcx=>?_
 have e:=Eq.refl (qT a0 a1);conv at e=>rhs;simp only [qT]
 rw [e]
 exact rt [.c [0] (aN5 a1 (by omega)),.p (show(1048576:Int)≠0 from by decide),.p (show(1048576:Int)≠0 from by decide),.c [] (C88 a0.2 (W (Int.tdiv (W (Int.tdiv (cR a1) 1048576)) 1048576))  hq),.p (show((F88 a0.2 (W (Int.tdiv (W (Int.tdiv (cR a1) 1048576)) 1048576))):Int)≠0 from by first | omega | (rw [aD]<;>omega) | exact jZ _),.c [] (C86 (W (Int.tdiv (cR a1) (F88 a0.2 (W (Int.tdiv (W (Int.tdiv (cR a1) 1048576)) 1048576))))))] [] [] hcx (by kernel_rfl)
theorem aOf {a:Int} (ha:0≤a∧a≤100):∀L:List (PN×Int),(∀e∈L,0≤e.2∧e.2≤100)→(L.map fun e=>W (a*e.2)).sum=a*(L.map (·.2)).sum
 | [],_=>by simp
 | e::L,h=>by
   have he:=h e List.mem_cons_self
   have ih:=aOf ha L (fun x hx=>h x (List.mem_cons_of_mem _ hx))
   have p0:0≤a*e.2:=Int.mul_nonneg ha.1 he.1
   have p1:a*e.2≤100*100:=Int.mul_le_mul ha.2 he.2 he.1 (by omega)
   simp only [List.map_cons,List.sum_cons]
   rw [ih,aD (by omega) (by omega),Int.mul_add]
theorem aOg {m:ME} {q:List Int} {d:Int} (hq:∀e∈(aT m).zip q,0≤e.2∧e.2≤100):∀L:List (PN×Int),(∀e∈L,0≤e.2∧e.2≤100)→((L.flatMap (eC m q d)).map (·.2)).sum=(L.map (·.2)).sum*(((aT m).zip q).map (·.2)).sum
 | [],_=>by simp
 | c::L,h=>by
   have ih:=aOg (d:=d) hq L (fun x hx=>h x (List.mem_cons_of_mem _ hx))
   have e:((eC m q d c).map (·.2)).sum=c.2*(((aT m).zip q).map (·.2)).sum:=by
     rw [←aOf (h c List.mem_cons_self) _ hq]
     unfold eC
     rw [List.map_map];rfl
   rw [List.flatMap_cons,List.map_append,List.sum_append,ih,e]
   simp only [List.map_cons,List.sum_cons]
   rw [Int.add_mul]
theorem aOh {m:ME} {q:List Int} {d:Int} (hC:ChOK m q)(hd:0≤d∧d≤2)(h:(iY (((aT m).zip q).flatMap (eC m q d))).2=0):1≤(iY (((aT m).zip q).flatMap (eC m q d))).1.2∧vs (iY (((aT m).zip q).flatMap (eC m q d))).1:=by
 have hn:=hC.n;have hl:=hC.len;have hs:=hC.pos
 have hpl:(aT m).length=m.2.length:=List.length_map _
 have hz:∀e∈(aT m).zip q,0≤e.2∧e.2≤100:=fun e he=>hC.ok _ (List.of_mem_zip he).2
 have hm:((aT m).zip q).map (·.2)=q:=List.map_snd_zip (by omega)
 have hp:=aJy (l:=((aT m).zip q).flatMap (eC m q d)) (fun c hc=>by
   obtain⟨b,hb,hcb⟩:=List.mem_flatMap.1 hc
   unfold eC at hcb
   obtain⟨e,he,rfl⟩:=List.mem_map.1 hcb
   have h1:=hz b hb;have h2:=hz e he
   have p0:0≤b.2*e.2:=Int.mul_nonneg h1.1 h2.1
   have p1:b.2*e.2≤100*100:=Int.mul_le_mul h1.2 h2.2 h2.1 (by omega)
   refine⟨(rQ (oP hC.v hd (List.of_mem_zip hb).1 (List.of_mem_zip he).1)).2,?_⟩
   simp only
   rw [aD (by omega) (by omega)];omega) h
 rw [aOg hz _ hz,hm] at hp
 have:1*1≤q.sum*q.sum:=Int.mul_le_mul hs hs (by omega) (by omega)
 exact⟨by omega,hp.2.2⟩
theorem aOi {q:List Int} (hq:okC q)(h1:1≤q.sum)(hl:q.length≤96):cR q=q.sum*1099511627776∧q.sum≤9600:=by
 obtain⟨e,h2,h3⟩:=aD6 q 0 hq (by omega) (by omega)
 rw [aXw,e]
 refine⟨?_,by omega⟩
 rw [aD (by rw [aD (by omega) (by omega)];omega) (by rw [aD (by omega) (by omega)];omega),aD (by omega) (by omega)]
 omega
theorem aOj {q:List Int} (hq:okC q)(h1:1≤q.sum)(hl:q.length≤96):W (Int.tdiv (W (Int.tdiv (cR q) 1048576)) 1048576)=q.sum:=by
 obtain⟨e,h2⟩:=aOi hq h1 hl
 have e1:Int.tdiv (q.sum*1099511627776) 1048576=q.sum*1048576:=by
   rw [show q.sum*1099511627776=(q.sum*1048576)*1048576 from by omega,Int.mul_tdiv_cancel _ (by decide)]
 rw [e,e1,aD (n:=q.sum*1048576) (by omega) (by omega),Int.mul_tdiv_cancel _ (by decide),aD (by omega) (by omega)]
theorem aH9 {a n:Int} (ha:1≤a∧a≤2305843009213693951)(hn:1≤n∧n≤2305843009213693951):1≤F88 a n∧F88 a n=(a+n - 1).tdiv n:=by
 unfold F88
 rw [aD (n:=a+n) (by omega) (by omega),aD (n:=a+n - 1) (by omega) (by omega)]
 have h0:0≤a+n - 1:=by omega
 have e:(a+n - 1).tdiv n=(a+n - 1) / n:=Int.tdiv_eq_ediv_of_nonneg h0
 have h1:1≤(a+n - 1) / n:=by
   refine(Int.le_ediv_iff_mul_le (by omega)).2 ?_
   omega
 have h2:(a+n - 1) / n≤a+n - 1:=Int.ediv_le_self _ h0
 rw [e,aD (by omega) (by omega)]
 exact⟨h1,rfl⟩
theorem aRr {T:TB} {q:List Int} (hr:∀r∈T,r.length≤q.length)(hm:q.length≤96):(aW T q).1.length≤T.length:=by
 rw [aOb hr hm]
 unfold tQ
 cases hs:shs (fun r:List (Int×Int)=>iY (r.zip q)) T [] with
 | inr r=>simp [aBq]
 | inl l =>
   obtain⟨e,_⟩:=mW hs
   simp only [aBq]
   rw [e,List.nil_append,List.length_map];exact Nat.le_refl _
def fD (a0:(Zm)×(List (List (Int×Int)))×(List (List (Int×Int)))×Int)(a1:List (Int)):(Int×Int)×Int :=
 (bif (((aW a0.2.1 a1).2:Int) != 0) then
  ((0,0),(aW a0.2.1 a1).2)
 else
  (bif (((gL (aW a0.2.1 a1).1 a1).2:Int) != 0) then
   ((0,0),(gL (aW a0.2.1 a1).1 a1).2)
  else
   (bif (((cJ a0.2.2.1 a1).2:Int) != 0) then
    ((0,0),(cJ a0.2.2.1 a1).2)
   else
    (bif (((qT (cJ a0.2.2.1 a1).1 a1).2:Int) != 0) then
     ((0,0),(qT (cJ a0.2.2.1 a1).1 a1).2)
    else
     (bif (((gM (aW a0.2.1 a1).1 a1).2:Int) != 0) then
      ((0,0),(gM (aW a0.2.1 a1).1 a1).2)
     else
      (((qD (gL (aW a0.2.1 a1).1 a1).1 (qT (cJ a0.2.2.1 a1).1 a1).1),(zK (gM (aW a0.2.1 a1).1 a1).1 a0.2.2.2)),0))))))
theorem aX1 (a0:(Zm)×(List (List (Int×Int)))×(List (List (Int×Int)))×Int)(a1:List (Int))(l0_1_1:a0.1.1.length≤9223372036854775807)(l0_1_2:a0.1.2.length≤9223372036854775807)(l0_2_1:a0.2.1.length≤9223372036854775807)(l0_2_2_1:a0.2.2.1.length≤9223372036854775807)(l1:a1.length≤9223372036854775807)(hr:∀r∈a0.2.1,r.length≤a1.length)(hn:a0.2.1.length≤96)(hm:a1.length≤96)(hl:a0.2.2.1.length=a1.length)(hs:∀r∈a0.2.2.1,r.length=a1.length)(hp:(((aW a0.2.1 a1).2:Int) != 0)=false→1≤(aW a0.2.1 a1).1.length∧(∀s∈(aW a0.2.1 a1).1,1≤s.1)∧(∀s∈(aW a0.2.1 a1).1,1≤s.2))(he:(((cJ a0.2.2.1 a1).2:Int) != 0)=false→W (Int.tdiv (W (Int.tdiv (cR a1) 1048576)) 1048576)≠0∧F88 (cJ a0.2.2.1 a1).1.2 (W (Int.tdiv (W (Int.tdiv (cR a1) 1048576)) 1048576))≠0):Con Try.prog 30 [(.a [(.s 0 0 a0.1.1.length 3),(.s 1 0 a0.1.2.length 3),(.s 2 0 a0.2.1.length 1),(.s 3 0 a0.2.2.1.length 1),(iv a0.2.2.2)]),(.s 4 0 a1.length 1)] [(.live false true (flat cA a0.1.1)),(.live false true (flat cN a0.1.2)),(.live false true (flat eE a0.2.1)),(.live false true (flat eE a0.2.2.1)),(.live false true (flat c3 a1))] (.t [(.a (k2 (fD a0 a1).1)),(iv (fD a0 a1).2)]) []:=by
 refine aI Try.func30 (by kernel_rfl) fun cx hcx=>?_
 have hx1:=aRr hr hm
 let t0:List (St Try.prog):=[.c [2,4] (aRi a0.2.1 a1 (by omega) (by omega) hr hn hm)]
 cases h0:(((aW a0.2.1 a1).2:Int) != 0) with
 | true =>
  have q0:=bne_iff_ne.1 h0
  have e:=Eq.refl (fD a0 a1);conv at e=>rhs;simp only [fD,h0,aK]
  rw [e]
  exact rt (t0++[.d h0]) [] [] hcx (by kernel_rfl)
 | false =>
  have q0:=bne_eq_false_iff_eq.1 h0
  let t1:List (St Try.prog):=(t0++[.d h0,.c [7,4] (aRp (aW a0.2.1 a1).1 a1 (by(try simp only [Lt]);omega) (by omega) (hp h0).1 (hp h0).2.2)])
  cases h1:(((gL (aW a0.2.1 a1).1 a1).2:Int) != 0) with
  | true =>
   have q1:=bne_iff_ne.1 h1
   have e:=Eq.refl (fD a0 a1);conv at e=>rhs;simp only [fD,h0,h1,aK]
   rw [e]
   exact rt (t1++[.d h1]) [] [] hcx (by kernel_rfl)
  | false =>
   have q1:=bne_eq_false_iff_eq.1 h1
   let t2:List (St Try.prog):=(t1++[.d h1,.c [3,4] (aRj a0.2.2.1 a1 (by omega) (by omega) hl hs hm)])
   cases h2:(((cJ a0.2.2.1 a1).2:Int) != 0) with
   | true =>
    have q2:=bne_iff_ne.1 h2
    have e:=Eq.refl (fD a0 a1);conv at e=>rhs;simp only [fD,h0,h1,h2,aK]
    rw [e]
    exact rt (t2++[.d h2]) [] [] hcx (by kernel_rfl)
   | false =>
    have q2:=bne_eq_false_iff_eq.1 h2
    let t3:List (St Try.prog):=(t2++[.d h2,.c [4] (aX0 (cJ a0.2.2.1 a1).1 a1 (by omega) (he h2).1 (he h2).2)])
    cases h3:(((qT (cJ a0.2.2.1 a1).1 a1).2:Int) != 0) with
    | true =>
     have q3:=bne_iff_ne.1 h3
     have e:=Eq.refl (fD a0 a1);conv at e=>rhs;simp only [fD,h0,h1,h2,h3,aK]
     rw [e]
     exact rt (t3++[.d h3]) [] [] hcx (by kernel_rfl)
    | false =>
     have q3:=bne_eq_false_iff_eq.1 h3
     let t4:List (St Try.prog):=(t3++[.d h3,.c [7,4] (aRq (aW a0.2.1 a1).1 a1 (by(try simp only [Lt]);omega) (by omega) (hp h0).1 (hp h0).2.1)])
     cases h4:(((gM (aW a0.2.1 a1).1 a1).2:Int) != 0) with
     | true =>
      have q4:=bne_iff_ne.1 h4
      have e:=Eq.refl (fD a0 a1);conv at e=>rhs;simp only [fD,h0,h1,h2,h3,h4,aK]
      rw [e]
      exact rt (t4++[.d h4]) [] [] hcx (by kernel_rfl)
     | false =>
      have q4:=bne_eq_false_iff_eq.1 h4
      have e:=Eq.refl (fD a0 a1);conv at e=>rhs;simp only [fD,h0,h1,h2,h3,h4,aK]
      rw [e]
      exact rt (t4++[.d h4]) [] [] hcx (by kernel_rfl)
theorem tT (n:Int):oL n (-256) 256=decide (-256≤n∧n≤256):=by
 unfold oL
 by_cases h1:-256≤n<;>by_cases h2:n≤256<;>simp [h1,h2]
noncomputable def dsW (p x:P3):Int:=W ((W ((W ((W (p.1 - x.1))*(W (p.1 - x.1))))+(W ((W (p.2.1 - x.2.1))*(W (p.2.1 - x.2.1))))))+(W ((W (p.2.2 - x.2.2))*(W (p.2.2 - x.2.2)))))
theorem aU2 {p x:P3} (hp:bd 64 p)(hx:bd 256 x):0≤dsW p x∧dsW p x≤400000:=by
 unfold bd at hp hx
 have e1:W (p.1 - x.1)=p.1 - x.1:=aD (by omega) (by omega)
 have e2:W (p.2.1 - x.2.1)=p.2.1 - x.2.1:=aD (by omega) (by omega)
 have e3:W (p.2.2 - x.2.2)=p.2.2 - x.2.2:=aD (by omega) (by omega)
 have b1:=aU (a:=320) (b:=320) (x:=p.1 - x.1) (y:=p.1 - x.1) (by omega) (by omega)
 have b2:=aU (a:=320) (b:=320) (x:=p.2.1 - x.2.1) (y:=p.2.1 - x.2.1) (by omega) (by omega)
 have b3:=aU (a:=320) (b:=320) (x:=p.2.2 - x.2.2) (y:=p.2.2 - x.2.2) (by omega) (by omega)
 have n1:0≤(p.1 - x.1)*(p.1 - x.1):=by rcases Int.le_total 0 (p.1 - x.1) with h | h;exact Int.mul_nonneg h h;exact Int.mul_nonneg_of_nonpos_of_nonpos h h
 have n2:0≤(p.2.1 - x.2.1)*(p.2.1 - x.2.1):=by rcases Int.le_total 0 (p.2.1 - x.2.1) with h | h;exact Int.mul_nonneg h h;exact Int.mul_nonneg_of_nonpos_of_nonpos h h
 have n3:0≤(p.2.2 - x.2.2)*(p.2.2 - x.2.2):=by rcases Int.le_total 0 (p.2.2 - x.2.2) with h | h;exact Int.mul_nonneg h h;exact Int.mul_nonneg_of_nonpos_of_nonpos h h
 unfold dsW
 simp only [e1,e2,e3]
 generalize (p.1 - x.1)*(p.1 - x.1)=a at *
 generalize (p.2.1 - x.2.1)*(p.2.1 - x.2.1)=b at *
 generalize (p.2.2 - x.2.2)*(p.2.2 - x.2.2)=c at *
 rw [aD (n:=a) (by omega) (by omega),aD (n:=b) (by omega) (by omega),aD (n:=c) (by omega) (by omega),aD (n:=a+b) (by omega) (by omega),aD (n:=a+b+c) (by omega) (by omega)]
 omega
noncomputable def cC (m:ME)(x:P3):Int:=m.1.foldl (fun v p=>qD v (dsW p x)) 0
theorem tU {x:P3} (hx:bd 256 x):∀(l:List P3)(v:Int),(∀p∈l,bd 64 p)→0≤v∧v≤400000→0≤l.foldl (fun v p=>qD v (dsW p x)) v∧l.foldl (fun v p=>qD v (dsW p x)) v≤400000
 | [],v,_,h=>h
 | p::l,v,hp,h=>by
   rw [List.foldl_cons]
   have:=aU2 (hp p List.mem_cons_self) hx
   have:=oQ v (dsW p x)
   exact tU hx l _ (fun y hy=>hp y (List.mem_cons_of_mem _ hy)) (by omega)
theorem aD8 (m:ME)(x:P3):aB (vE m x) (toNat ((m.1.length:Int) - 0)+1) (0,0)=((rO (cC m x)).1.2,(rO (cC m x)).2):=by
 have key:=bD (S:=vE m x) (fun v i=>(v,i)) (fun v p=>.inl (qD v (dsW p x))) (fun v=>((rO v).1.2,(rO v).2)) (L:=m.1) (v:=0) (n:=toNat ((m.1.length:Int) - 0)+1) (fun _ _=>True) ?_ (fun _ _ _ _ _ _ _=>trivial) ?_ (by omega) trivial
 · refine Eq.trans key ?_
   rw [bH];rfl
 · intro i c hc v _
   obtain⟨hlt,hce⟩:=List.getElem?_eq_some_iff.1 hc
   simp only [vE]
   rw [cV (by omega),cond_true,bF hc];rfl
 · intro v _
   simp only [vE]
   rw [dL (by omega),cond_false]
noncomputable def mxF (l:List (Int×Int))(v:Int):Int:=l.foldl (fun v s=>qD v s.2) v
noncomputable def mnF (l:List (Int×Int))(v:Int):Int:=l.foldl (fun v s=>zK v s.1) v
theorem aRs (l:List (Int×Int))(q:List Int):gL l q=F86 (W (Int.tdiv (cR q) (mxF l (l.getD (toNat 0) default).2))):=by
 unfold gL
 have key:=bD (S:=fG l q) (fun v i=>(v,i)) (fun v s=>.inl (qD v s.2)) (fun v=>F86 (W (Int.tdiv (cR q) v))) (L:=l) (v:=(l.getD (toNat 0) default).2) (n:=toNat ((l.length:Int) - 0)+1) (fun _ _=>True) ?_ (fun _ _ _ _ _ _ _=>trivial) ?_ (by omega) trivial
 · refine Eq.trans key ?_
   rw [bH];rfl
 · intro i c hc v _
   obtain⟨hlt,hce⟩:=List.getElem?_eq_some_iff.1 hc
   simp only [fG]
   rw [cV (by omega),cond_true,bF hc];rfl
 · intro v _
   simp only [fG]
   rw [dL (by omega),cond_false]
theorem aRt (l:List (Int×Int))(q:List Int):gM l q=F86 (F88 (cR q) (mnF l (l.getD (toNat 0) default).1)):=by
 unfold gM
 have key:=bD (S:=fH l q) (fun v i=>(v,i)) (fun v s=>.inl (zK v s.1)) (fun v=>F86 (F88 (cR q) v)) (L:=l) (v:=(l.getD (toNat 0) default).1) (n:=toNat ((l.length:Int) - 0)+1) (fun _ _=>True) ?_ (fun _ _ _ _ _ _ _=>trivial) ?_ (by omega) trivial
 · refine Eq.trans key ?_
   rw [bH];rfl
 · intro i c hc v _
   obtain⟨hlt,hce⟩:=List.getElem?_eq_some_iff.1 hc
   simp only [fH]
   rw [cV (by omega),cond_true,bF hc];rfl
 · intro v _
   simp only [fH]
   rw [dL (by omega),cond_false]
noncomputable def bxS (v:P3×P3)(p:P3):P3×P3:=((zK v.1.1 p.1,zK v.1.2.1 p.2.1,zK v.1.2.2 p.2.2),(qD v.2.1 p.1,qD v.2.2.1 p.2.1,qD v.2.2.2 p.2.2))
noncomputable def mB (m:ME):P3×P3:=(m.1.drop 1).foldl bxS (m.1.getD (toNat 0) default,m.1.getD (toNat 0) default)
noncomputable def aLe (n:Int):Int:=Int.fdiv n (2 ^ (min (toNat 1) 64))
noncomputable def hH (v:P3×P3):P3:=(aLe (W (v.1.1+v.2.1)),aLe (W (v.1.2.1+v.2.2.1)),aLe (W (v.1.2.2+v.2.2.2)))
theorem aS8 {m:ME} (h:bN m=0):qS m=((mB m).1,(mB m).2,0):=by
 have hp:=(tO (m:=m) (by rw [h];rfl)).1
 unfold qS
 rw [show bN (m.1,m.2)=0 from h,show(((0:Int)) != 0)=false from rfl,cond_false]
 have key:=bD (S:=oN m) (fun(v:P3×P3) i=>(i,v.1.1,v.1.2.1,v.1.2.2,v.2.1,v.2.2.1,v.2.2.2)) (fun v p=>.inl (bxS v p)) (fun v=>(v.1,v.2,0)) (L:=m.1) (v:=(m.1.getD (toNat 0) default,m.1.getD (toNat 0) default)) (n:=toNat ((m.1.length:Int) - 0)+1) (fun _ _=>True) ?_ (fun _ _ _ _ _ _ _=>trivial) ?_ (by omega) trivial
 · refine Eq.trans key ?_
   rw [bH]
   have e:m.1.foldl bxS (m.1.getD (toNat 0) default,m.1.getD (toNat 0) default)=mB m:=by
     unfold mB
     generalize m.1=l at hp ⊢
     cases l with
     | nil=>simp at hp
     | cons p t =>
       show t.foldl bxS (bxS (p,p) p)=t.foldl bxS (p,p)
       have n1:∀a:Int,zK a a=a:=fun a=>by unfold zK;split<;>rfl
       have n2:∀a:Int,qD a a=a:=fun a=>by unfold qD;split<;>rfl
       rw [show bxS (p,p) p=(p,p) from by unfold bxS;simp only [n1,n2]]
   rw [e];rfl
 · intro i c hc v _
   obtain⟨hlt,hce⟩:=List.getElem?_eq_some_iff.1 hc
   simp only [oN]
   rw [cV (by omega),cond_true,bF hc];rfl
 · intro v _
   simp only [oN]
   rw [dL (by omega),cond_false]
theorem aX2 {n:Int} (h:0≤n∧n≤400000):(rO n).2=0:=by
 obtain⟨r,hr,e⟩:=aN4 h
 obtain⟨h0,h1,h2⟩:=hr
 rw [e]
 unfold aBe
 have hb:r≤1073741824:=by
   by_cases hc:r≤1073741824
   · exact hc
   · have:=Int.mul_le_mul (show(1073741824:Int)≤r by omega) (show(1073741824:Int)≤r by omega) (by omega) (by omega)
     omega
 have hx:(if r*r=n*1099511627776 then r else r+1)=r∨(if r*r=n*1099511627776 then r else r+1)=r+1:=by split<;>simp
 generalize (if r*r=n*1099511627776 then r else r+1)=s at hx ⊢
 rw [tG (by omega) (by omega) (by omega)]
theorem aD9 {n:Int} (h:-128≤n∧n≤128):-64≤aLe n∧aLe n≤64:=by
 unfold aLe
 rw [show((2:Int) ^ (min (toNat 1) 64))=2 from by decide,Int.fdiv_eq_ediv_of_nonneg _ (by decide)]
 omega
theorem aOk:∀(l:List P3)(v:P3×P3),(∀p∈l,bd 64 p)→bd 64 v.1→bd 64 v.2→bd 64 (l.foldl bxS v).1∧bd 64 (l.foldl bxS v).2
 | [],v,_,h1,h2=>⟨h1,h2⟩
 | p::l,v,hp,h1,h2=>by
   rw [List.foldl_cons]
   have hb:=hp p List.mem_cons_self
   unfold bd at h1 h2 hb
   refine aOk l _ (fun y hy=>hp y (List.mem_cons_of_mem _ hy)) ?_ ?_
   · have a:=rW v.1.1 p.1;have b:=rW v.1.2.1 p.2.1;have c:=rW v.1.2.2 p.2.2
     unfold bd bxS;simp only;omega
   · have a:=oQ v.2.1 p.1;have b:=oQ v.2.2.1 p.2.1;have c:=oQ v.2.2.2 p.2.2
     unfold bd bxS;simp only;omega
theorem nC {m:ME} (hv:bN m=0):∀p∈m.1,bd 64 p:=fun p hp=>by
 obtain⟨_,_,_,hpt,_⟩:=bI hv
 unfold F65 at hpt
 have hpb:=aN9 m _ 0 _ (by omega) hpt
 obtain⟨j,hj,e⟩:=List.getElem_of_mem hp
 have:=hpb j (Nat.zero_le _) hj
 rw [eW,List.getElem?_eq_getElem hj,Option.getD_some,e] at this
 exact this
theorem aAr {m:ME} (hv:bN m=0):bd 64 (hH (mB m)):=by
 have hall:=nC hv
 have hp:=(tO (m:=m) (by rw [hv];rfl)).1
 have h0:bd 64 (m.1.getD (toNat 0) default):=by
   rw [eW,List.getElem?_eq_getElem (show toNat 0 < m.1.length from hp),Option.getD_some]
   exact hall _ (List.getElem_mem _)
 obtain⟨a,b⟩:=aOk (m.1.drop 1) (m.1.getD (toNat 0) default,m.1.getD (toNat 0) default) (fun p hp=>hall p (List.mem_of_mem_drop hp)) h0 h0
 change bd 64 (mB m).1 at a
 change bd 64 (mB m).2 at b
 unfold bd at a b
 unfold bd hH
 rw [aD (n:=(mB m).1.1+(mB m).2.1) (by omega) (by omega),aD (n:=(mB m).1.2.1+(mB m).2.2.1) (by omega) (by omega),aD (n:=(mB m).1.2.2+(mB m).2.2.2) (by omega) (by omega)]
 exact⟨aD9 (by omega),aD9 (by omega),aD9 (by omega)⟩
theorem aEa {m:ME} {d:Int} (h:bN m=0)(hd:0≤d∧d≤2):¬(((bP (m.1,m.2) d).2:Int) != 0)=true:=by
 rw [show bP (m.1,m.2) d=_ from aGa h hd];show ¬((0:Int) != 0)=true;decide
theorem aEb {m:ME} {d:Int} (h:bN m=0)(hd:0≤d∧d≤2):¬(((bW (m.1,m.2) d).2:Int) != 0)=true:=by
 rw [show bW (m.1,m.2) d=_ from aGb h hd];show ¬((0:Int) != 0)=true;decide
theorem aEc {m:ME} (h:bN m=0):¬(((qS (m.1,m.2)).2.2:Int) != 0)=true:=by
 rw [show qS (m.1,m.2)=_ from aS8 h];show ¬((0:Int) != 0)=true;decide
def xJ (a0:Zm)(a1:Int):((Zm)×(List (List (Int×Int)))×(List (List (Int×Int)))×Int)×Int :=
 (bif (((bP (a0.1,a0.2) a1).2:Int) != 0) then
  default
 else
  (bif (((bW (a0.1,a0.2) a1).2:Int) != 0) then
   default
  else
   (bif (((qS (a0.1,a0.2)).2.2:Int) != 0) then
    default
   else
    (((a0.1,a0.2),(bP (a0.1,a0.2) a1).1,(bW (a0.1,a0.2) a1).1,(F9 (a0.1,a0.2) ((Int.fdiv (W ((qS (a0.1,a0.2)).1.1+(qS (a0.1,a0.2)).2.1.1)) (2 ^ (min (toNat 1) 64))),(Int.fdiv (W ((qS (a0.1,a0.2)).1.2.1+(qS (a0.1,a0.2)).2.1.2.1)) (2 ^ (min (toNat 1) 64))),(Int.fdiv (W ((qS (a0.1,a0.2)).1.2.2+(qS (a0.1,a0.2)).2.1.2.2)) (2 ^ (min (toNat 1) 64))))).1),(F9 (a0.1,a0.2) ((Int.fdiv (W ((qS (a0.1,a0.2)).1.1+(qS (a0.1,a0.2)).2.1.1)) (2 ^ (min (toNat 1) 64))),(Int.fdiv (W ((qS (a0.1,a0.2)).1.2.1+(qS (a0.1,a0.2)).2.1.2.1)) (2 ^ (min (toNat 1) 64))),(Int.fdiv (W ((qS (a0.1,a0.2)).1.2.2+(qS (a0.1,a0.2)).2.1.2.2)) (2 ^ (min (toNat 1) 64))))).2))))
theorem C29 (a0:Zm)(a1:Int)(l0_1:a0.1.length≤9223372036854775807)(l0_2:a0.2.length≤9223372036854775807)(hv:bN a0=0)(hd:0≤a1∧a1≤2):Con Try.prog 29 [(.a [(.s 0 0 a0.1.length 3),(.s 1 0 a0.2.length 3)]),(iv a1)] [(.live false true (flat cA a0.1)),(.live false true (flat cN a0.2))] (.t [(.a [(.s 0 0 a0.1.length 3),(.s 1 0 a0.2.length 3),(.s 2 0 (xJ a0 a1).1.2.1.length 1),(.s 3 0 (xJ a0 a1).1.2.2.1.length 1),(iv (xJ a0 a1).1.2.2.2)]),(iv (xJ a0 a1).2)]) [(.live true true (flat eE (xJ a0 a1).1.2.1)),(.live true true (flat eE (xJ a0 a1).1.2.2.1))]:=by
 refine aI Try.func29 (by kernel_rfl) fun cx hcx=>?_
 let t0:List (St Try.prog):=[.c [0,1] (aRg (a0.1,a0.2) a1 (by(try simp only [Lt]);omega) (by(try simp only [Lt]);omega))]
 cases h0:(((bP (a0.1,a0.2) a1).2:Int) != 0) with
 | true =>
  have q0:=bne_iff_ne.1 h0
  first | exact absurd h0 (aEa hv hd) | exact absurd h1 (aEb hv hd) | exact absurd h2 (aEc hv)
 | false =>
  have q0:=bne_eq_false_iff_eq.1 h0
  let t1:List (St Try.prog):=(t0++[.d h0,.c [0,1] (aRh (a0.1,a0.2) a1 (by(try simp only [Lt]);omega) (by(try simp only [Lt]);omega))])
  cases h1:(((bW (a0.1,a0.2) a1).2:Int) != 0) with
  | true =>
   have q1:=bne_iff_ne.1 h1
   first | exact absurd h0 (aEa hv hd) | exact absurd h1 (aEb hv hd) | exact absurd h2 (aEc hv)
  | false =>
   have q1:=bne_eq_false_iff_eq.1 h1
   let t2:List (St Try.prog):=(t1++[.d h1,.c [0,1] (C59 (a0.1,a0.2) (by(try simp only [Lt]);omega) (by(try simp only [Lt]);omega))])
   cases h2:(((qS (a0.1,a0.2)).2.2:Int) != 0) with
   | true =>
    have q2:=bne_iff_ne.1 h2
    first | exact absurd h0 (aEa hv hd) | exact absurd h1 (aEb hv hd) | exact absurd h2 (aEc hv)
   | false =>
    have q2:=bne_eq_false_iff_eq.1 h2
    have e:=Eq.refl (xJ a0 a1);conv at e=>rhs;simp only [xJ,h0,h1,h2,aK]
    rw [e]
    exact rt (t2++[.d h2,.p (show 0≤(1:Int) from by decide),.p (show 0≤(1:Int) from by decide),.p (show 0≤(1:Int) from by decide),.c [0,1] (C9 (a0.1,a0.2) ((Int.fdiv (W ((qS (a0.1,a0.2)).1.1+(qS (a0.1,a0.2)).2.1.1)) (2 ^ (min (toNat 1) 64))),(Int.fdiv (W ((qS (a0.1,a0.2)).1.2.1+(qS (a0.1,a0.2)).2.1.2.1)) (2 ^ (min (toNat 1) 64))),(Int.fdiv (W ((qS (a0.1,a0.2)).1.2.2+(qS (a0.1,a0.2)).2.1.2.2)) (2 ^ (min (toNat 1) 64)))) (by(try simp only [Lt]);omega) (by(try simp only [Lt]);omega))]) [] [4,5] hcx (by kernel_rfl)
theorem aU3 {m:ME} (hv:bN m=0):(F9 m (hH (mB m))).2=0:=by
 have hb:=aAr hv
 have hb2:bd 256 (hH (mB m)):=by unfold bd at hb ⊢;omega
 unfold F9
 rw [show bN (m.1,m.2)=0 from hv,tT,tT,tT,cV hb2.1,cV hb2.2.1,cV hb2.2.2]
 show(aB (vE m (hH (mB m))) (toNat ((m.1.length:Int) - 0)+1) (0,0)).2=0
 rw [aD8]
 exact aX2 (tU hb2 m.1 0 (nC hv) (by omega))
theorem aIa {m:ME} {d:Int} (h:bN m=0)(hd:0≤d∧d≤2):xJ m d =
   (((m.1,m.2),(bP m d).1,(bW m d).1,(F9 m (hH (mB m))).1),0):=by
 have h1:=Bool.eq_false_iff.2 (aEa h hd)
 have h2:=Bool.eq_false_iff.2 (aEb h hd)
 have h3:=Bool.eq_false_iff.2 (aEc h)
 have hB:=aU3 h
 have e:qS (m.1,m.2)=((mB m).1,(mB m).2,0):=aS8 h
 unfold xJ
 rw [h1,cond_false,h2,cond_false,h3,cond_false]
 rw [←hB,e]
 rfl
theorem aCo {m:ME} {q:List Int} {d:Int} (h:((eV m q d:Int) != 0)=false):bN m=0∧0≤d∧d≤2:=by
 rw [aCl] at h
 obtain⟨hc,hd⟩:=aAq (bne_eq_false_iff_eq.1 h)
 exact⟨hc.v,hd⟩
abbrev TBL:=ME×TB×TB×Int
structure BndPre (T:TBL) (q:List Int):Prop where
 hr:∀r∈T.2.1,r.length≤q.length
 hn:T.2.1.length≤96
 hm:q.length≤96
 hl:T.2.2.1.length=q.length
 hs:∀r∈T.2.2.1,r.length=q.length
 hp:(((aW T.2.1 q).2:Int) != 0)=false→1≤(aW T.2.1 q).1.length∧(∀s∈(aW T.2.1 q).1,1≤s.1)∧(∀s∈(aW T.2.1 q).1,1≤s.2)
 he:(((cJ T.2.2.1 q).2:Int) != 0)=false→W (Int.tdiv (W (Int.tdiv (cR q) 1048576)) 1048576)≠0∧F88 (cJ T.2.2.1 q).1.2 (W (Int.tdiv (W (Int.tdiv (cR q) 1048576)) 1048576))≠0
theorem aLf {m:ME} {q:List Int} {d:Int} (hC:ChOK m q)(hd:0≤d∧d≤2)(h:(((aW (bP m d).1 q).2:Int) != 0)=false) :
   1≤(aW (bP m d).1 q).1.length∧(∀s∈(aW (bP m d).1 q).1,1≤s.1)∧(∀s∈(aW (bP m d).1 q).1,1≤s.2):=by
 have e:(bP m d).1=(aT m).map (kZ m d):=by rw [aGa hC.v hd];rfl
 have hn:=hC.n;have hl:=hC.len;have hs:=hC.pos
 have hpl:(aT m).length=m.2.length:=List.length_map _
 have hrow:∀r∈(aT m).map (kZ m d),r.length=q.length∧∀s∈r,okP s:=fun r hr=>by
   obtain⟨p,hp,rfl⟩:=List.mem_map.1 hr
   unfold kZ
   refine⟨by rw [List.length_map];omega,fun s hsm=>?_⟩
   obtain⟨p',hp',rfl⟩:=List.mem_map.1 hsm
   exact(oO (oP hC.v hd hp' hp)).2
 rw [e,aOb (fun r hr=>by rw [(hrow r hr).1];exact Nat.le_refl _) (by omega)] at h ⊢
 have hp:=aJz hrow hC.ok (bne_eq_false_iff_eq.1 h)
 refine⟨by rw [hp.1,List.length_map];omega,fun s hs'=>?_,fun s hs'=>?_⟩
 · have:=hp.2 s hs';omega
 · have:=hp.2 s hs';omega
theorem aOl {m:ME} {q:List Int} {d:Int} (hC:ChOK m q)(hd:0≤d∧d≤2)(h:(((cJ (bW m d).1 q).2:Int) != 0)=false) :
   W (Int.tdiv (W (Int.tdiv (cR q) 1048576)) 1048576)≠0∧F88 (cJ (bW m d).1 q).1.2 (W (Int.tdiv (W (Int.tdiv (cR q) 1048576)) 1048576))≠0:=by
 have e:(bW m d).1=MT m d:=by rw [aGb hC.v hd];rfl
 have hn:=hC.n;have hl:=hC.len;have hs:=hC.pos;have hle:=hC.le
 have hpl:(aT m).length=m.2.length:=List.length_map _
 rw [e,aXz (by omega) (by omega)] at h ⊢
 obtain⟨hp,hv⟩:=aOh hC hd (bne_eq_false_iff_eq.1 h)
 rw [aOj hC.ok hC.pos (by omega)]
 unfold vs at hv
 have:=(aH9 (a:=(iY (((aT m).zip q).flatMap (eC m q d))).1.2) (n:=q.sum) (by omega) (by omega)).1
 exact⟨by omega,by omega⟩
theorem cE {m:ME} {q:List Int} {d:Int} (h:((eV m q d:Int) != 0)=false):BndPre (xJ m d).1 q:=by
 obtain⟨hv,hd⟩:=aCo h
 have p1:=aRm h
 have p2:=aUy h
 have hC:ChOK m q:=by rw [aCl] at h;exact(aAq (bne_eq_false_iff_eq.1 h)).1
 rw [aIa hv hd]
 exact⟨p1.1,p1.2.1,p1.2.2,p2.1,p2.2.1,fun h0=>aLf hC hd h0,fun h0=>aOl hC hd h0⟩
def aM (a0:Zm)(a1:List (Int))(a2:Int):(Int×Int)×Int :=
 (bif (((eV (a0.1,a0.2) a1 a2):Int) != 0) then
  ((0,0),(eV (a0.1,a0.2) a1 a2))
 else
  (bif (((xJ (a0.1,a0.2) a2).2:Int) != 0) then
   ((0,0),(xJ (a0.1,a0.2) a2).2)
  else
   ((fD ((a0.1,a0.2),(xJ (a0.1,a0.2) a2).1.2.1,(xJ (a0.1,a0.2) a2).1.2.2.1,(xJ (a0.1,a0.2) a2).1.2.2.2) a1).1,(fD ((a0.1,a0.2),(xJ (a0.1,a0.2) a2).1.2.1,(xJ (a0.1,a0.2) a2).1.2.2.1,(xJ (a0.1,a0.2) a2).1.2.2.2) a1).2)))
theorem aLg (a0:Zm)(a1:List (Int))(a2:Int)(l0_1:a0.1.length≤9223372036854775807)(l0_2:a0.2.length≤9223372036854775807)(l1:a1.length≤9223372036854775807):Con Try.prog 8 [(.a [(.s 0 0 a0.1.length 3),(.s 1 0 a0.2.length 3)]),(.s 2 0 a1.length 1),(iv a2)] [(.live false true (flat cA a0.1)),(.live false true (flat cN a0.2)),(.live false true (flat c3 a1))] (.t [(.a (k2 (aM a0 a1 a2).1)),(iv (aM a0 a1 a2).2)]) []:=by
 refine aI Try.func8 (by kernel_rfl) fun cx hcx=>?_
 try have hx1:=(cE h0).hn
 try have hx2:=(cE h0).hm
 try have hx3:=(cE h0).hl
 let t0:List (St Try.prog):=[.c [0,1,2] (aXu (a0.1,a0.2) a1 a2 (by(try simp only [Lt]);omega) (by(try simp only [Lt]);omega) (by omega))]
 cases h0:(((eV (a0.1,a0.2) a1 a2):Int) != 0) with
 | true =>
  have q0:=bne_iff_ne.1 h0
  try have hx1:=(cE h0).hn
  try have hx2:=(cE h0).hm
  try have hx3:=(cE h0).hl
  have e:=Eq.refl (aM a0 a1 a2);conv at e=>rhs;simp only [aM,h0,aK]
  rw [e]
  exact rt (t0++[.d h0]) [] [] hcx (by kernel_rfl)
 | false =>
  have q0:=bne_eq_false_iff_eq.1 h0
  try have hx1:=(cE h0).hn
  try have hx2:=(cE h0).hm
  try have hx3:=(cE h0).hl
  let t1:List (St Try.prog):=(t0++[.d h0,.c [0,1] (C29 (a0.1,a0.2) a2 (by(try simp only [Lt]);omega) (by(try simp only [Lt]);omega) (aCo h0).1 (aCo h0).2)])
  cases h1:(((xJ (a0.1,a0.2) a2).2:Int) != 0) with
  | true =>
   have q1:=bne_iff_ne.1 h1
   try have hx1:=(cE h0).hn
   try have hx2:=(cE h0).hm
   try have hx3:=(cE h0).hl
   have e:=Eq.refl (aM a0 a1 a2);conv at e=>rhs;simp only [aM,h0,h1,aK]
   rw [e]
   exact rt (t1++[.d h1]) [] [] hcx (by kernel_rfl)
  | false =>
   have q1:=bne_eq_false_iff_eq.1 h1
   try have hx1:=(cE h0).hn
   try have hx2:=(cE h0).hm
   try have hx3:=(cE h0).hl
   have e:=Eq.refl (aM a0 a1 a2);conv at e=>rhs;simp only [aM,h0,h1,aK]
   rw [e]
   exact rt (t1++[.d h1,.c [0,1,5,6,2] (aX1 ((a0.1,a0.2),(xJ (a0.1,a0.2) a2).1.2.1,(xJ (a0.1,a0.2) a2).1.2.2.1,(xJ (a0.1,a0.2) a2).1.2.2.2) a1 (by(try simp only [Lt]);omega) (by(try simp only [Lt]);omega) (by(try simp only [Lt]);omega) (by(try simp only [Lt]);omega) (by(try simp only [Lt]);omega) (cE h0).hr (cE h0).hn (cE h0).hm (cE h0).hl (cE h0).hs (cE h0).hp (cE h0).he)]) [] [] hcx (by kernel_rfl)
end Go.Proofs.Ytaeagjnpobdglaa
