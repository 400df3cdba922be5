/-
  Parts of the proofs of the laws: the executor, what functions of the program compute, and that it is what the statements ask. No premise.
-/
import Derived.Test.YtaeagjnpobdglaaVPfi3
set_option linter.unusedVariables false
set_option linter.unusedSimpArgs false
set_option maxHeartbeats 4000000
open Int (toNat)
namespace Go.Proofs.Ytaeagjnpobdglaa
open Go.Proofs Go.Aw Go.RowKit
set_option maxRecDepth 100000
theorem fL {a b c:Int} (h:(!pI a b c)=false):b≤a∧a≤c:=by
 unfold pI at h
 by_cases h1:b≤a
 · by_cases h2:a≤c
   · exact⟨h1,h2⟩
   · rw [eK h1,fN h2] at h;simp at h
 · rw [fN h1] at h;simp at h
theorem xW {a b c:Int} (h:(!F73 a b c)=false):b≤a∧a≤c:=by
 unfold F73 at h
 by_cases h1:b≤a
 · by_cases h2:a≤c
   · exact⟨h1,h2⟩
   · rw [eK (show a≥b from h1),fN h2] at h;simp at h
 · rw [fN (show ¬a≥b from h1)] at h;simp at h
theorem fM {n:Nat} {f:Zt} (hn:n≤64)(h0:(!pI f.1 0 (W ((n:Int) - 1)))=false)(h1:(!pI f.2.1 0 (W ((n:Int) - 1)))=false)(h2:(!pI f.2.2 0 (W ((n:Int) - 1)))=false):inF n f:=by
 have hw:W ((n:Int) - 1)=(n:Int) - 1:=aE (by omega) (by omega)
 have g0:=fL h0;have g1:=fL h1;have g2:=fL h2
 rw [hw] at g0 g1 g2
 exact⟨⟨g0.1,by omega⟩,⟨g1.1,by omega⟩,g2.1,by omega⟩
def eE (x:Zt):List SV:=[(iv x.1),(iv x.2.1),(iv x.2.2)]
theorem aP (x:Zt):(eE x).length=3:=rfl
def lP (a0:Zm)(a1:Zt):Zt×Zt×Zt :=
 ((a0.1.getD (toNat a1.1) default),(a0.1.getD (toNat a1.2.1) default),(a0.1.getD (toNat a1.2.2) default))
theorem C90 (a0:Zm)(a1:Zt)(l0_1:a0.1.length≤9223372036854775807)(l0_2:a0.2.length≤9223372036854775807)(hf:inF a0.1.length a1):Con Try.prog 90 [(.a [(.s 0 0 a0.1.length 3),(.s 1 0 a0.2.length 3)]),(.a (k3 a1))] [(.live false true (flat dD a0.1)),(.live false true (flat eE a0.2))] (.a (k9 (lP a0 a1))) []:=by
 refine aL Try.func90 (by kernel_rfl) fun cx hcx=>?_
 have e:=Eq.refl (lP a0 a1);conv at e=>rhs;simp only [lP]
 rw [e]
 exact rt [.i 0 3 (by decide),.i (a1.1) (a0.1.length),.L bY a0.1 a1.1 0 3,.i 1 3 (by decide),.i (a1.2.1) (a0.1.length),.L bY a0.1 a1.2.1 0 3,.i 2 3 (by decide),.i (a1.2.2) (a0.1.length),.L bY a0.1 a1.2.2 0 3] [] [] hcx (by kernel_rfl)
def zS (a0:Zm)(a1:Zt):Int :=
 (bif (!(pI a1.1 0 (W ((a0.1.length:Int) - 1)))) then
  5
 else
  (bif (!(pI a1.2.1 0 (W ((a0.1.length:Int) - 1)))) then
   5
  else
   (bif (!(pI a1.2.2 0 (W ((a0.1.length:Int) - 1)))) then
    5
   else
    (bif ((((F89 (lP (a0.1,a0.2) a1)).1:Int) == 0)&&((((F89 (lP (a0.1,a0.2) a1)).2.1:Int) == 0)&&((((F89 (lP (a0.1,a0.2) a1)).2.2:Int) == 0)&&true))) then
     6
    else
     0))))
theorem C66 (a0:Zm)(a1:Zt)(l0_1:a0.1.length≤9223372036854775807)(l0_2:a0.2.length≤9223372036854775807)(hn:a0.1.length≤64):Con Try.prog 66 [(.a [(.s 0 0 a0.1.length 3),(.s 1 0 a0.2.length 3)]),(.a (k3 a1))] [(.live false true (flat dD a0.1)),(.live false true (flat eE a0.2))] (iv (zS a0 a1)) []:=by
 refine aL Try.func66 (by kernel_rfl) fun cx hcx=>?_
 try have hfi:=fM hn h0 h1 h2
 let t0:List (St Try.prog):=[.u 200,.T,.i 0 3 (by decide),.c [] (C51 a1.1 0 (W ((a0.1.length:Int) - 1)))]
 cases h0:(!(pI a1.1 0 (W ((a0.1.length:Int) - 1)))) with
 | true =>
  try have hfi:=fM hn h0 h1 h2
  have e:=Eq.refl (zS a0 a1);conv at e=>rhs;simp only [zS,h0,aK]
  rw [e]
  exact rt (t0++[.d h0]) [] [] hcx (by kernel_rfl)
 | false =>
  try have hfi:=fM hn h0 h1 h2
  let t1:List (St Try.prog):=(t0++[.d h0,.u 0,.T,.i 1 3 (by decide),.c [] (C51 a1.2.1 0 (W ((a0.1.length:Int) - 1)))])
  cases h1:(!(pI a1.2.1 0 (W ((a0.1.length:Int) - 1)))) with
  | true =>
   try have hfi:=fM hn h0 h1 h2
   have e:=Eq.refl (zS a0 a1);conv at e=>rhs;simp only [zS,h0,h1,aK]
   rw [e]
   exact rt (t1++[.d h1]) [] [] hcx (by kernel_rfl)
  | false =>
   try have hfi:=fM hn h0 h1 h2
   let t2:List (St Try.prog):=(t1++[.d h1,.u 0,.T,.i 2 3 (by decide),.c [] (C51 a1.2.2 0 (W ((a0.1.length:Int) - 1)))])
   cases h2:(!(pI a1.2.2 0 (W ((a0.1.length:Int) - 1)))) with
   | true =>
    try have hfi:=fM hn h0 h1 h2
    have e:=Eq.refl (zS a0 a1);conv at e=>rhs;simp only [zS,h0,h1,h2,aK]
    rw [e]
    exact rt (t2++[.d h2]) [] [] hcx (by kernel_rfl)
   | false =>
    try have hfi:=fM hn h0 h1 h2
    let t3:List (St Try.prog):=(t2++[.d h2,.u 0,.F,.c [0,1] (C90 (a0.1,a0.2) a1 (by(try simp only [Lt]);omega) (by(try simp only [Lt]);omega) hfi),.c [] (C89 (lP (a0.1,a0.2) a1))])
    cases h3:((((F89 (lP (a0.1,a0.2) a1)).1:Int) == 0)&&((((F89 (lP (a0.1,a0.2) a1)).2.1:Int) == 0)&&((((F89 (lP (a0.1,a0.2) a1)).2.2:Int) == 0)&&true))) with
    | true =>
     try have hfi:=fM hn h0 h1 h2
     have e:=Eq.refl (zS a0 a1);conv at e=>rhs;simp only [zS,h0,h1,h2,h3,aK]
     rw [e]
     exact rt (t3++[.d h3]) [] [] hcx (by kernel_rfl)
    | false =>
     try have hfi:=fM hn h0 h1 h2
     have e:=Eq.refl (zS a0 a1);conv at e=>rhs;simp only [zS,h0,h1,h2,h3,aK]
     rw [e]
     exact rt (t3++[.d h3]) [] [] hcx (by kernel_rfl)
theorem iA {m:List Zt×List Zt} {f:Zt} (h:(zS m f != 0)=false)(hl:m.1.length≤64):inF m.1.length f:=by
 have hw:W ((m.1.length:Int) - 1)=(m.1.length:Int) - 1:=aE (by omega) (by omega)
 unfold zS at h
 cases h0:(!pI f.1 0 (W ((m.1.length:Int) - 1))) with
 | true=>rw [h0,cond_true] at h;exact absurd h (by decide)
 | false =>
   cases h1:(!pI f.2.1 0 (W ((m.1.length:Int) - 1))) with
   | true=>rw [h0,h1,cond_false,cond_true] at h;exact absurd h (by decide)
   | false =>
     cases h2:(!pI f.2.2 0 (W ((m.1.length:Int) - 1))) with
     | true=>rw [h0,h1,h2,cond_false,cond_false,cond_true] at h;exact absurd h (by decide)
     | false =>
       have g0:=fL h0;have g1:=fL h1;have g2:=fL h2
       rw [hw] at g0 g1 g2
       exact⟨⟨g0.1,by omega⟩,⟨g1.1,by omega⟩,g2.1,by omega⟩
def aOv (x:Zt):SV:=.a (dD x)
theorem K39:KeyOK T0 39 aOv :=
 ⟨fun x=>by kernel_rfl,fun x y=>⟨(((x.1:Int) == y.1)&&(((x.2.1:Int) == y.2.1)&&(((x.2.2:Int) == y.2.2)&&true))),by kernel_rfl,by
     simp only [aOv,dD,iv,SV.a.injEq,List.cons.injEq,SV.v.injEq,Value.int.injEq,Bool.and_eq_true,beq_iff_eq,true_and,and_true]
     constructor<;>intro h<;>omega⟩,fun x y h=>by
     simp only [aOv,dD,iv,SV.a.injEq,List.cons.injEq,SV.v.injEq,Value.int.injEq,true_and,and_true] at h
     simp only [Prod.ext_iff];omega,fun x=>rfl⟩
noncomputable def aK7:Code:=(aF [1,1,0,1] [] (aI Try.f65) []).1
noncomputable def aK8:List K:=(aF [1,1,0,1] [] (aI Try.f65) []).2
def aFz (a0:Zm)(v1:List (Zt×Bool))(v2:Int):LS:=⟨jW 25 [(3,(.m 2)),(8,(.s 0 0 a0.1.length 3)),(9,(iv (a0.1.length:Int))),(10,(iv v2))],[(.live false true (flat dD a0.1)),(.live false true (flat eE a0.2)),(.map (mapE aOv vB v1))]⟩
def gQ (a0:Zm):(List (Zt×Bool))×Int→((List (Zt×Bool))×Int)⊕(Int)
 | (v1,v2) =>
  (bif (decide ((v2:Int) < (a0.1.length:Int))) then
   (bif (!(F47 (a0.1.getD (toNat v2) default) 64)) then
    (.inr 1)
   else
    (bif (aU v1 (a0.1.getD (toNat v2) default) false) then
     (.inr 1)
    else
     (.inl ((bH v1 (a0.1.getD (toNat v2) default) true),(v2+1)))))
  else
   (.inr 0))
theorem aT2 (a0:Zm)(l0_1:a0.1.length≤9223372036854775807)(l0_2:a0.2.length≤9223372036854775807) {cx:Cx} (hcx:cx.base=2):∀(n:Nat)(v1:List (Zt×Bool))(v2:Int),0≤v2→toNat ((a0.1.length:Int) - v2) < n→Aw.Good Try.prog none 9 (bodyPost Try.prog Try.f65 (RR cx (iv (aC (gQ a0) n (v1,v2))) [] [])) cx [] (.l aK7 n::aK8) (aFz a0 v1 v2):=by
 intro n
 induction n with
 | zero=>intro v1 v2 hi hn;exact absurd hn (jV _)
 | succ n ih =>
   intro v1 v2 hi hn
   refine aJ ?_
   cases h0:(decide ((v2:Int) < (a0.1.length:Int))) with
   | true =>
    have q0:=cY h0
    let t1:List (St Try.prog):=[.d h0,.i v2 (a0.1.length),.L bY a0.1 v2 0 3,.c [] (C47 (a0.1.getD (toNat v2) default) 64)]
    cases h1:(!(F47 (a0.1.getD (toNat v2) default) 64)) with
    | true =>
     have e:=Eq.refl (gQ a0 (v1,v2));conv at e=>rhs;simp only [gQ,h0,h1,aK]
     rw [aD,e]
     exact rt (t1++[.d h1]) [] [] hcx (by kernel_rfl)
    | false =>
     let t2:List (St Try.prog):=(t1++[.d h1,.mG K39 vB v1 (a0.1.getD (toNat v2) default) false])
     cases h2:(aU v1 (a0.1.getD (toNat v2) default) false) with
     | true =>
      have e:=Eq.refl (gQ a0 (v1,v2));conv at e=>rhs;simp only [gQ,h0,h1,h2,aK]
      rw [aD,e]
      exact rt (t2++[.d h2]) [] [] hcx (by kernel_rfl)
     | false =>
      have e:=Eq.refl (gQ a0 (v1,v2));conv at e=>rhs;simp only [gQ,h0,h1,h2,aK]
      rw [aA e]
      refine ba (t2++[.d h2,.mP K39 vB v1 (a0.1.getD (toNat v2) default) true]) [] [3,8,9,10] [2] hcx (m:=n) aK7 (aK8) (aFz a0 (bH v1 (a0.1.getD (toNat v2) default) true) (W (v2+1))) (by kernel_rfl) ?_
      have z0:(W (v2+1))=(v2+1):=aE (by omega) (by omega)
      rw [z0]
      exact ih (bH v1 (a0.1.getD (toNat v2) default) true) (v2+1) (by(try simp only [Ls]);omega) (by(try simp only [Ls]);omega)
   | false =>
    have q0:=dU h0
    have e:=Eq.refl (gQ a0 (v1,v2));conv at e=>rhs;simp only [gQ,h0,aK]
    rw [aD,e]
    exact rt [.d h0] [] [] hcx (by kernel_rfl)
def F65 (a0:Zm):Int :=
 (aC (gQ a0) (toNat ((a0.1.length:Int) - 0)+1) (([]:List (Zt×Bool)),0))
theorem C65 (a0:Zm)(l0_1:a0.1.length≤9223372036854775807)(l0_2:a0.2.length≤9223372036854775807):Con Try.prog 65 [(.a [(.s 0 0 a0.1.length 3),(.s 1 0 a0.2.length 3)])] [(.live false true (flat dD a0.1)),(.live false true (flat eE a0.2))] (iv (F65 a0)) []:=by
 refine aL Try.func65 (by kernel_rfl) fun cx hcx=>?_
 have e:=Eq.refl (F65 a0);conv at e=>rhs;simp only [F65]
 rw [e]
 refine en [] [] [3,8,9,10] [3] hcx aK7 (aK8) (aFz a0 ([]:List (Zt×Bool)) 0) (toNat ((a0.1.length:Int) - 0)+1) (by kernel_rfl) ?_
 exact aT2 a0 l0_1 l0_2 hcx (toNat ((a0.1.length:Int) - 0)+1) ([]:List (Zt×Bool)) 0 (by(try simp only [Ls]);omega) (by(try simp only [Ls]);omega)
def aB (a0:Zt):(Int×Int)×(Int×Int)×Int×Int :=
 ((a0.1,a0.2.1),a0.2,(a0.2.2,a0.1))
theorem C37 (a0:Zt):Con Try.prog 37 [(.a (k3 a0))] [] (.a [(iv (aB a0).1.1),(iv (aB a0).1.2),(iv (aB a0).2.1.1),(iv (aB a0).2.1.2),(iv (aB a0).2.2.1),(iv (aB a0).2.2.2)]) []:=by
 refine aL Try.func37 (by kernel_rfl) fun cx hcx=>?_
 have e:=Eq.refl (aB a0);conv at e=>rhs;simp only [aB]
 rw [e]
 exact rt [.i 0 3 (by decide),.i 1 3 (by decide),.i 1 3 (by decide),.i 2 3 (by decide),.i 2 3 (by decide),.i 0 3 (by decide)] [] [] hcx (by kernel_rfl)
def c80 (x:Int×Int):List SV:=[(iv x.1),(iv x.2)]
def tA (x:Int×Int):SV:=.a (c80 x)
theorem K80:KeyOK T0 80 tA :=
 ⟨fun x=>by kernel_rfl,fun x y=>⟨(((x.1:Int) == y.1)&&(((x.2:Int) == y.2)&&true)),by kernel_rfl,by
     simp only [tA,c80,iv,SV.a.injEq,List.cons.injEq,SV.v.injEq,Value.int.injEq,Bool.and_eq_true,beq_iff_eq,true_and,and_true]
     constructor<;>intro h<;>omega⟩,fun x y h=>by
     simp only [tA,c80,iv,SV.a.injEq,List.cons.injEq,SV.v.injEq,Value.int.injEq,true_and,and_true] at h
     simp only [Prod.ext_iff];omega,fun x=>rfl⟩
noncomputable def aK9:Code:=(aF [1,1,0,1] [] (aI Try.f67) []).1
noncomputable def aLa:List K:=(aF [1,1,0,1] [] (aI Try.f67) []).2
def aF0 (a0:Zm)(v1:List ((Int×Int)×Int))(v2:Int):LS:=⟨jW 30 [(3,(.m 2)),(10,(.s 1 0 a0.2.length 3)),(11,(iv (a0.2.length:Int))),(12,(iv v2))],[(.live false true (flat dD a0.1)),(.live false true (flat eE a0.2)),(.map (mapE tA iv v1))]⟩
def aAz (a0:Zm):(List ((Int×Int)×Int))×Int→((List ((Int×Int)×Int))×Int)⊕(List ((Int×Int)×Int))
 | (v1,v2) =>
  (bif (decide ((v2:Int) < (a0.2.length:Int))) then
   (.inl ((bH (bH (bH v1 ((aB (a0.2.getD (toNat v2) default)).1) (W ((aU v1 ((aB (a0.2.getD (toNat v2) default)).1) 0)+1))) ((aB (a0.2.getD (toNat v2) default)).2.1) (W ((aU (bH v1 ((aB (a0.2.getD (toNat v2) default)).1) (W ((aU v1 ((aB (a0.2.getD (toNat v2) default)).1) 0)+1))) ((aB (a0.2.getD (toNat v2) default)).2.1) 0)+1))) ((aB (a0.2.getD (toNat v2) default)).2.2) (W ((aU (bH (bH v1 ((aB (a0.2.getD (toNat v2) default)).1) (W ((aU v1 ((aB (a0.2.getD (toNat v2) default)).1) 0)+1))) ((aB (a0.2.getD (toNat v2) default)).2.1) (W ((aU (bH v1 ((aB (a0.2.getD (toNat v2) default)).1) (W ((aU v1 ((aB (a0.2.getD (toNat v2) default)).1) 0)+1))) ((aB (a0.2.getD (toNat v2) default)).2.1) 0)+1))) ((aB (a0.2.getD (toNat v2) default)).2.2) 0)+1))),(v2+1)))
  else
   (.inr v1))
theorem aT3 (a0:Zm)(l0_1:a0.1.length≤9223372036854775807)(l0_2:a0.2.length≤9223372036854775807) {cx:Cx} (hcx:cx.base=2):∀(n:Nat)(v1:List ((Int×Int)×Int))(v2:Int),0≤v2→toNat ((a0.2.length:Int) - v2) < n→Aw.Good Try.prog none 9 (bodyPost Try.prog Try.f67 (RR cx (.m 2) [(.map (mapE tA iv (aC (aAz a0) n (v1,v2))))] [])) cx [] (.l aK9 n::aLa) (aF0 a0 v1 v2):=by
 intro n
 induction n with
 | zero=>intro v1 v2 hi hn;exact absurd hn (jV _)
 | succ n ih =>
   intro v1 v2 hi hn
   refine aJ ?_
   cases h0:(decide ((v2:Int) < (a0.2.length:Int))) with
   | true =>
    have q0:=cY h0
    have e:=Eq.refl (aAz a0 (v1,v2));conv at e=>rhs;simp only [aAz,h0,aK]
    rw [aA e]
    refine ba [.d h0,.i v2 (a0.2.length),.L aP a0.2 v2 0 3,.c [] (C37 (a0.2.getD (toNat v2) default)),.u 200,.T,.i 0 3 (by decide),.mGa K80 iv v1 ((aB (a0.2.getD (toNat v2) default)).1) 0 2,.mE K80 iv v1 ((aB (a0.2.getD (toNat v2) default)).1) 0,.mS K80 iv v1 ((aB (a0.2.getD (toNat v2) default)).1) 0 (W ((aU v1 ((aB (a0.2.getD (toNat v2) default)).1) 0)+1)),.mR tA iv v1 ((aB (a0.2.getD (toNat v2) default)).1) 0,.u 0,.T,.i 1 3 (by decide),.mGa K80 iv (bH v1 ((aB (a0.2.getD (toNat v2) default)).1) (W ((aU v1 ((aB (a0.2.getD (toNat v2) default)).1) 0)+1))) ((aB (a0.2.getD (toNat v2) default)).2.1) 0 2,.mE K80 iv (bH v1 ((aB (a0.2.getD (toNat v2) default)).1) (W ((aU v1 ((aB (a0.2.getD (toNat v2) default)).1) 0)+1))) ((aB (a0.2.getD (toNat v2) default)).2.1) 0,.mS K80 iv (bH v1 ((aB (a0.2.getD (toNat v2) default)).1) (W ((aU v1 ((aB (a0.2.getD (toNat v2) default)).1) 0)+1))) ((aB (a0.2.getD (toNat v2) default)).2.1) 0 (W ((aU (bH v1 ((aB (a0.2.getD (toNat v2) default)).1) (W ((aU v1 ((aB (a0.2.getD (toNat v2) default)).1) 0)+1))) ((aB (a0.2.getD (toNat v2) default)).2.1) 0)+1)),.mR tA iv (bH v1 ((aB (a0.2.getD (toNat v2) default)).1) (W ((aU v1 ((aB (a0.2.getD (toNat v2) default)).1) 0)+1))) ((aB (a0.2.getD (toNat v2) default)).2.1) 0,.u 0,.T,.i 2 3 (by decide),.mGa K80 iv (bH (bH v1 ((aB (a0.2.getD (toNat v2) default)).1) (W ((aU v1 ((aB (a0.2.getD (toNat v2) default)).1) 0)+1))) ((aB (a0.2.getD (toNat v2) default)).2.1) (W ((aU (bH v1 ((aB (a0.2.getD (toNat v2) default)).1) (W ((aU v1 ((aB (a0.2.getD (toNat v2) default)).1) 0)+1))) ((aB (a0.2.getD (toNat v2) default)).2.1) 0)+1))) ((aB (a0.2.getD (toNat v2) default)).2.2) 0 2,.mE K80 iv (bH (bH v1 ((aB (a0.2.getD (toNat v2) default)).1) (W ((aU v1 ((aB (a0.2.getD (toNat v2) default)).1) 0)+1))) ((aB (a0.2.getD (toNat v2) default)).2.1) (W ((aU (bH v1 ((aB (a0.2.getD (toNat v2) default)).1) (W ((aU v1 ((aB (a0.2.getD (toNat v2) default)).1) 0)+1))) ((aB (a0.2.getD (toNat v2) default)).2.1) 0)+1))) ((aB (a0.2.getD (toNat v2) default)).2.2) 0,.mS K80 iv (bH (bH v1 ((aB (a0.2.getD (toNat v2) default)).1) (W ((aU v1 ((aB (a0.2.getD (toNat v2) default)).1) 0)+1))) ((aB (a0.2.getD (toNat v2) default)).2.1) (W ((aU (bH v1 ((aB (a0.2.getD (toNat v2) default)).1) (W ((aU v1 ((aB (a0.2.getD (toNat v2) default)).1) 0)+1))) ((aB (a0.2.getD (toNat v2) default)).2.1) 0)+1))) ((aB (a0.2.getD (toNat v2) default)).2.2) 0 (W ((aU (bH (bH v1 ((aB (a0.2.getD (toNat v2) default)).1) (W ((aU v1 ((aB (a0.2.getD (toNat v2) default)).1) 0)+1))) ((aB (a0.2.getD (toNat v2) default)).2.1) (W ((aU (bH v1 ((aB (a0.2.getD (toNat v2) default)).1) (W ((aU v1 ((aB (a0.2.getD (toNat v2) default)).1) 0)+1))) ((aB (a0.2.getD (toNat v2) default)).2.1) 0)+1))) ((aB (a0.2.getD (toNat v2) default)).2.2) 0)+1)),.mR tA iv (bH (bH v1 ((aB (a0.2.getD (toNat v2) default)).1) (W ((aU v1 ((aB (a0.2.getD (toNat v2) default)).1) 0)+1))) ((aB (a0.2.getD (toNat v2) default)).2.1) (W ((aU (bH v1 ((aB (a0.2.getD (toNat v2) default)).1) (W ((aU v1 ((aB (a0.2.getD (toNat v2) default)).1) 0)+1))) ((aB (a0.2.getD (toNat v2) default)).2.1) 0)+1))) ((aB (a0.2.getD (toNat v2) default)).2.2) 0,.u 0,.F] [] [3,10,11,12] [2] hcx (m:=n) aK9 (aLa) (aF0 a0 (bH (bH (bH v1 ((aB (a0.2.getD (toNat v2) default)).1) (W ((aU v1 ((aB (a0.2.getD (toNat v2) default)).1) 0)+1))) ((aB (a0.2.getD (toNat v2) default)).2.1) (W ((aU (bH v1 ((aB (a0.2.getD (toNat v2) default)).1) (W ((aU v1 ((aB (a0.2.getD (toNat v2) default)).1) 0)+1))) ((aB (a0.2.getD (toNat v2) default)).2.1) 0)+1))) ((aB (a0.2.getD (toNat v2) default)).2.2) (W ((aU (bH (bH v1 ((aB (a0.2.getD (toNat v2) default)).1) (W ((aU v1 ((aB (a0.2.getD (toNat v2) default)).1) 0)+1))) ((aB (a0.2.getD (toNat v2) default)).2.1) (W ((aU (bH v1 ((aB (a0.2.getD (toNat v2) default)).1) (W ((aU v1 ((aB (a0.2.getD (toNat v2) default)).1) 0)+1))) ((aB (a0.2.getD (toNat v2) default)).2.1) 0)+1))) ((aB (a0.2.getD (toNat v2) default)).2.2) 0)+1))) (W (v2+1))) (by kernel_rfl) ?_
    have z0:(W (v2+1))=(v2+1):=aE (by omega) (by omega)
    rw [z0]
    exact ih (bH (bH (bH v1 ((aB (a0.2.getD (toNat v2) default)).1) (W ((aU v1 ((aB (a0.2.getD (toNat v2) default)).1) 0)+1))) ((aB (a0.2.getD (toNat v2) default)).2.1) (W ((aU (bH v1 ((aB (a0.2.getD (toNat v2) default)).1) (W ((aU v1 ((aB (a0.2.getD (toNat v2) default)).1) 0)+1))) ((aB (a0.2.getD (toNat v2) default)).2.1) 0)+1))) ((aB (a0.2.getD (toNat v2) default)).2.2) (W ((aU (bH (bH v1 ((aB (a0.2.getD (toNat v2) default)).1) (W ((aU v1 ((aB (a0.2.getD (toNat v2) default)).1) 0)+1))) ((aB (a0.2.getD (toNat v2) default)).2.1) (W ((aU (bH v1 ((aB (a0.2.getD (toNat v2) default)).1) (W ((aU v1 ((aB (a0.2.getD (toNat v2) default)).1) 0)+1))) ((aB (a0.2.getD (toNat v2) default)).2.1) 0)+1))) ((aB (a0.2.getD (toNat v2) default)).2.2) 0)+1))) (v2+1) (by(try simp only [Ls]);omega) (by(try simp only [Ls]);omega)
   | false =>
    have q0:=dU h0
    have e:=Eq.refl (aAz a0 (v1,v2));conv at e=>rhs;simp only [aAz,h0,aK]
    rw [aD,e]
    exact rt [.d h0] [] [2] hcx (by kernel_rfl)
def zA (a0:Zm):List ((Int×Int)×Int) :=
 (aC (aAz a0) (toNat ((a0.2.length:Int) - 0)+1) (([]:List ((Int×Int)×Int)),0))
theorem C67 (a0:Zm)(l0_1:a0.1.length≤9223372036854775807)(l0_2:a0.2.length≤9223372036854775807):Con Try.prog 67 [(.a [(.s 0 0 a0.1.length 3),(.s 1 0 a0.2.length 3)])] [(.live false true (flat dD a0.1)),(.live false true (flat eE a0.2))] (.m 2) [(.map (mapE tA iv (zA a0)))]:=by
 refine aL Try.func67 (by kernel_rfl) fun cx hcx=>?_
 have e:=Eq.refl (zA a0);conv at e=>rhs;simp only [zA]
 rw [e]
 refine en [] [] [3,10,11,12] [3] hcx aK9 (aLa) (aF0 a0 ([]:List ((Int×Int)×Int)) 0) (toNat ((a0.2.length:Int) - 0)+1) (by kernel_rfl) ?_
 exact aT3 a0 l0_1 l0_2 hcx (toNat ((a0.2.length:Int) - 0)+1) ([]:List ((Int×Int)×Int)) 0 (by(try simp only [Ls]);omega) (by(try simp only [Ls]);omega)
def oD (x:Zt×Zt×Zt):List SV:=[(iv x.1.1),(iv x.1.2.1),(iv x.1.2.2),(iv x.2.1.1),(iv x.2.1.2.1),(iv x.2.1.2.2),(iv x.2.2.1),(iv x.2.2.2.1),(iv x.2.2.2.2)]
theorem kH (x:Zt×Zt×Zt):(oD x).length=9:=rfl
noncomputable def aLb:Code:=(aF [1,1,0,1] [] (aI Try.f91) []).1
noncomputable def aLc:List K:=(aF [1,1,0,1] [] (aI Try.f91) []).2
def aF1 (a0:Zm)(v2c:List SV)(v2n:Nat)(v3:Int):LS:=⟨jW 21 [(1,(.p 2 0)),(3,(.s 3 0 v2n 9)),(7,(.s 1 0 a0.2.length 3)),(8,(iv (a0.2.length:Int))),(9,(iv v3))],[(.live false true (flat dD a0.1)),(.live false true (flat eE a0.2)),(.live true false [(.s 0 0 a0.1.length 3),(.s 1 0 a0.2.length 3)]),(.live true true v2c)]⟩
def rN (a0:Zm):(List (Zt×Zt×Zt))×Int→((List (Zt×Zt×Zt))×Int)⊕(List (Zt×Zt×Zt))
 | (v2,v3) =>
  (bif (decide ((v3:Int) < (a0.2.length:Int))) then
   (.inl ((v2++[(lP (a0.1,a0.2) (a0.2.getD (toNat v3) default))]),(v3+1)))
  else
   (.inr v2))
theorem aT4 (a0:Zm)(l0_1:a0.1.length≤9223372036854775807)(l0_2:a0.2.length≤9223372036854775807)(hv:lG a0 a0.2.length)(hn:a0.2.length≤96) {cx:Cx} (hcx:cx.base=2):∀(n:Nat)(v2:List (Zt×Zt×Zt))(v3:Int),(0≤v3)∧(v2.length=toNat v3)∧(v3≤a0.2.length)→toNat ((a0.2.length:Int) - v3) < n→Aw.Good Try.prog none 9 (bodyPost Try.prog Try.f91 (RR cx (.s 2 0 (aC (rN a0) n (v2,v3)).length 9) [(.live true true (flat oD (aC (rN a0) n (v2,v3))))] [])) cx [] (.l aLb n::aLc) (aF1 a0 (flat oD v2) v2.length v3):=by
 intro n
 induction n with
 | zero=>intro v2 v3 hi hn;exact absurd hn (jV _)
 | succ n ih =>
   intro v2 v3 hi hn
   refine aJ ?_
   cases h0:(decide ((v3:Int) < (a0.2.length:Int))) with
   | true =>
    have q0:=cY h0
    have e:=Eq.refl (rN a0 (v2,v3));conv at e=>rhs;simp only [rN,h0,aK]
    rw [aA e]
    refine ba [.d h0,.i v3 (a0.2.length),.L aP a0.2 v3 0 3,.c [0,1] (C90 (a0.1,a0.2) (a0.2.getD (toNat v3) default) (by(try simp only [Lt]);omega) (by(try simp only [Lt]);omega) (aEc hv (by omega) (by omega))),.p (show((flat oD v2).length=v2.length*9∧v2.length+1≤2 ^ 40∧(v2.length+1)*72≤2 ^ 47) from fX kH (by omega) (by omega))] [] [1,3,7,8,9] [2,6] hcx (m:=n) aLb (aLc) (aF1 a0 (flat oD v2++(k9 (lP (a0.1,a0.2) (a0.2.getD (toNat v3) default)))) (v2.length+1) (W (v3+1))) (by kernel_rfl) ?_
    have z0:(W (v3+1))=(v3+1):=aE (by omega) (by omega)
    have z1:(flat oD v2++(k9 (lP (a0.1,a0.2) (a0.2.getD (toNat v3) default))))=(flat oD (v2++[(lP (a0.1,a0.2) (a0.2.getD (toNat v3) default))])):=(bM (c:=oD) (l:=v2) (m:=[(lP (a0.1,a0.2) (a0.2.getD (toNat v3) default))])).symm
    have z2:(v2.length+1)=(v2++[(lP (a0.1,a0.2) (a0.2.getD (toNat v3) default))]).length:=eZ v2 [(lP (a0.1,a0.2) (a0.2.getD (toNat v3) default))] rfl
    rw [z0,z1,z2]
    exact ih (v2++[(lP (a0.1,a0.2) (a0.2.getD (toNat v3) default))]) (v3+1) (by refine⟨?_,?_,?_⟩<;>(try simp only [Ls])<;>first | omega | assumption | simp) (by(try simp only [Ls]);omega)
   | false =>
    have q0:=dU h0
    have e:=Eq.refl (rN a0 (v2,v3));conv at e=>rhs;simp only [rN,h0,aK]
    rw [aD,e]
    exact rt [.d h0] [] [3] hcx (by kernel_rfl)
def uY (a0:Zm):List (Zt×Zt×Zt) :=
 (aC (rN a0) (toNat ((a0.2.length:Int) - 0)+1) (([]:List (Zt×Zt×Zt)),0))
theorem C91 (a0:Zm)(l0_1:a0.1.length≤9223372036854775807)(l0_2:a0.2.length≤9223372036854775807)(hv:lG a0 a0.2.length)(hn:a0.2.length≤96):Con Try.prog 91 [(.a [(.s 0 0 a0.1.length 3),(.s 1 0 a0.2.length 3)])] [(.live false true (flat dD a0.1)),(.live false true (flat eE a0.2))] (.s 2 0 (uY a0).length 9) [(.live true true (flat oD (uY a0)))]:=by
 refine aL Try.func91 (by kernel_rfl) fun cx hcx=>?_
 have e:=Eq.refl (uY a0);conv at e=>rhs;simp only [uY]
 rw [e]
 refine en [] [.slot 3 9] [1,3,7,8,9] [2,3] hcx aLb (aLc) (aF1 a0 (flat oD ([]:List (Zt×Zt×Zt))) 0 0) (toNat ((a0.2.length:Int) - 0)+1) (by kernel_rfl) ?_
 exact aT4 a0 l0_1 l0_2 hv hn hcx (toNat ((a0.2.length:Int) - 0)+1) ([]:List (Zt×Zt×Zt)) 0 (by refine⟨?_,?_,?_⟩<;>(try simp only [Ls])<;>first | omega | assumption | simp) (by(try simp only [Ls]);omega)
theorem aHr (m:List Zt×List Zt):uY m=m.2.map (lP m):=by
 unfold uY
 rw [show(toNat ((m.2.length:Int) - 0)+1)=m.2.length+1 by omega]
 rw [cG (fun v i=>(v,i)) (fun v c=>.inl (v++[lP m c])) (fun v=>v) (L:=m.2) (fun _ _=>True) ?_ (fun _ _ _ _ _ _ _=>trivial) ?_ (by omega) trivial]
 · have key:∀(l:List Zt) (v:List (Zt×Zt×Zt)),jB (σ:=List (Zt×Zt×Zt)) (R:=List (Zt×Zt×Zt)) (fun v c=>.inl (v++[lP m c])) l v=.inl (v++l.map (lP m)):=by
     intro l
     induction l with
     | nil=>intro v;simp [jB]
     | cons c l ih=>intro v;simp only [jB];rw [ih];simp
   rw [key];simp [aFx]
 · intro i c hc v _
   obtain⟨hlt,hce⟩:=List.getElem?_eq_some_iff.1 hc
   simp only [rN]
   rw [eK (by omega),cond_true,itn,eG,hc]
   rfl
 · intro v _
   simp only [rN]
   rw [fN (by omega),cond_false]
theorem aOw (m:List Zt×List Zt):(uY m).length=m.2.length:=by rw [aHr,List.length_map]
def aOx (a0:Zt)(a1:Zt):Int :=
 (W ((W ((W (a0.1*a1.1))+(W (a0.2.1*a1.2.1))))+(W (a0.2.2*a1.2.2))))
theorem aWi (a0:Zt)(a1:Zt):Con Try.prog 113 [(.a (k3 a0)),(.a (k3 a1))] [] (iv (aOx a0 a1)) []:=by
 refine aL Try.func113 (by kernel_rfl) fun cx hcx=>?_
 have e:=Eq.refl (aOx a0 a1);conv at e=>rhs;simp only [aOx]
 rw [e]
 exact rt [] [] [] hcx (by kernel_rfl)
def F92 (a0:Zt×Zt×Zt):Int :=
 (aOx a0.1 (aFi a0.2.1 a0.2.2))
theorem C92 (a0:Zt×Zt×Zt):Con Try.prog 92 [(.a (k9 a0))] [] (iv (F92 a0)) []:=by
 refine aL Try.func92 (by kernel_rfl) fun cx hcx=>?_
 have e:=Eq.refl (F92 a0);conv at e=>rhs;simp only [F92]
 rw [e]
 exact rt [.c [] (aS5 a0.2.1 a0.2.2),.c [] (aWi a0.1 (aFi a0.2.1 a0.2.2))] [] [] hcx (by kernel_rfl)
noncomputable def aLd:Code:=(aF [1,1,0,1] [] (aI Try.f68) []).1
noncomputable def aLe:List K:=(aF [1,1,0,1] [] (aI Try.f68) []).2
def aF2 (a0:Zm)(v1 v2:Int):LS:=⟨jW 19 [(3,(iv v1)),(7,(.s 2 0 (uY (a0.1,a0.2)).length 9)),(8,(iv (((uY (a0.1,a0.2)).length:Nat):Int))),(9,(iv v2))],[(.live false true (flat dD a0.1)),(.live false true (flat eE a0.2)),(.live true true (flat oD (uY (a0.1,a0.2))))]⟩
def aA0 (a0:Zm):Int×Int→(Int×Int)⊕(Int)
 | (v1,v2) =>
  (bif (decide ((v2:Int) < (((uY (a0.1,a0.2)).length:Nat):Int))) then
   (.inl ((W (v1+(F92 ((uY (a0.1,a0.2)).getD (toNat v2) default)))),(v2+1)))
  else
   (.inr v1))
theorem aT5 (a0:Zm)(l0_1:a0.1.length≤9223372036854775807)(l0_2:a0.2.length≤9223372036854775807)(hv:lG a0 a0.2.length)(hn:a0.2.length≤96) {cx:Cx} (hcx:cx.base=2):∀(n:Nat)(v1 v2:Int),0≤v2→toNat ((((uY (a0.1,a0.2)).length:Nat):Int) - v2) < n→Aw.Good Try.prog none 9 (bodyPost Try.prog Try.f68 (RR cx (iv (aC (aA0 a0) n (v1,v2))) [] [])) cx [] (.l aLd n::aLe) (aF2 a0 v1 v2):=by
 intro n
 induction n with
 | zero=>intro v1 v2 hi hn;exact absurd hn (jV _)
 | succ n ih =>
   intro v1 v2 hi hn
   refine aJ ?_
   have hpl:(uY (a0.1,a0.2)).length=a0.2.length:=aOw a0
   cases h0:(decide ((v2:Int) < (((uY (a0.1,a0.2)).length:Nat):Int))) with
   | true =>
    have q0:=cY h0
    have e:=Eq.refl (aA0 a0 (v1,v2));conv at e=>rhs;simp only [aA0,h0,aK]
    rw [aA e]
    refine ba [.d h0,.i v2 ((uY (a0.1,a0.2)).length),.L kH (uY (a0.1,a0.2)) v2 0 9,.c [] (C92 ((uY (a0.1,a0.2)).getD (toNat v2) default))] [] [3,7,8,9] [2] hcx (m:=n) aLd (aLe) (aF2 a0 (W (v1+(F92 ((uY (a0.1,a0.2)).getD (toNat v2) default)))) (W (v2+1))) (by kernel_rfl) ?_
    have z0:(W (v2+1))=(v2+1):=aE (by omega) (by omega)
    rw [z0]
    exact ih (W (v1+(F92 ((uY (a0.1,a0.2)).getD (toNat v2) default)))) (v2+1) (by(try simp only [Ls]);omega) (by(try simp only [Ls]);omega)
   | false =>
    have q0:=dU h0
    have e:=Eq.refl (aA0 a0 (v1,v2));conv at e=>rhs;simp only [aA0,h0,aK]
    rw [aD,e]
    exact rt [.d h0] [] [] hcx (by kernel_rfl)
def F68 (a0:Zm):Int :=
 (aC (aA0 a0) (toNat ((((uY (a0.1,a0.2)).length:Nat):Int) - 0)+1) (0,0))
theorem C68 (a0:Zm)(l0_1:a0.1.length≤9223372036854775807)(l0_2:a0.2.length≤9223372036854775807)(hv:lG a0 a0.2.length)(hn:a0.2.length≤96):Con Try.prog 68 [(.a [(.s 0 0 a0.1.length 3),(.s 1 0 a0.2.length 3)])] [(.live false true (flat dD a0.1)),(.live false true (flat eE a0.2))] (iv (F68 a0)) []:=by
 refine aL Try.func68 (by kernel_rfl) fun cx hcx=>?_
 have e:=Eq.refl (F68 a0);conv at e=>rhs;simp only [F68]
 rw [e]
 refine en [.c [0,1] (C91 (a0.1,a0.2) (by(try simp only [Lt]);omega) (by(try simp only [Lt]);omega) hv hn)] [] [3,7,8,9] [3] hcx aLd (aLe) (aF2 a0 0 0) (toNat ((((uY (a0.1,a0.2)).length:Nat):Int) - 0)+1) (by kernel_rfl) ?_
 exact aT5 a0 l0_1 l0_2 hv hn hcx (toNat ((((uY (a0.1,a0.2)).length:Nat):Int) - 0)+1) 0 0 (by(try simp only [Ls]);omega) (by(try simp only [Ls]);omega)
def c4 (x:Bool):List SV:=[(.v (.bool x))]
theorem dM (x:Bool):(c4 x).length=1:=rfl
def F36 (a0:Int×Int):Int×Int :=
 (a0.2,a0.1)
theorem C36 (a0:Int×Int):Con Try.prog 36 [(.a [(iv a0.1),(iv a0.2)])] [] (.a (k2 (F36 a0))) []:=by
 refine aL Try.func36 (by kernel_rfl) fun cx hcx=>?_
 have e:=Eq.refl (F36 a0);conv at e=>rhs;simp only [F36]
 rw [e]
 exact rt [.i 1 2 (by decide),.i 0 2 (by decide)] [] [] hcx (by kernel_rfl)
noncomputable def aLf:Code:=(aF [1,1,1,1,1,1,1,0,1] [] (aI Try.f31) []).1
noncomputable def aLg:List K:=(aF [1,1,1,1,1,1,1,0,1] [] (aI Try.f31) []).2
def aF3 (a0:Zm)(v8c:List SV)(v8n:Nat)(v9 v10:Int):LS:=⟨jW 98 [(1,(.p 2 0)),(86,(.s 3 0 v8n 1)),(87,(iv v9)),(88,(iv v10))],[(.live false true (flat dD a0.1)),(.live false true (flat eE a0.2)),(.live true false [(.s 0 0 a0.1.length 3),(.s 1 0 a0.2.length 3)]),(.live true true v8c)]⟩
def oN (a0:Zm):List (Bool)×Int×Int→(List (Bool)×Int×Int)⊕(Int)
 | (v8,v9,v10) =>
  (bif (decide ((v10:Int) < v9)) then
   (bif (!(v8.getD (toNat v10) default)) then
    (.inr 5)
   else
    (.inl (v8,v9,(v10+1))))
  else
   (bif (decide (((F68 (a0.1,a0.2)):Int)≤0)) then
    (.inr 8)
   else
    (.inr 0)))
noncomputable def aLh:Code:=(aF [1,1,1,1,1,1,0,1] [] (aI Try.f31) []).1
noncomputable def aLi:List K:=(aF [1,1,1,1,1,1,0,1] [] (aI Try.f31) []).2
def aF4 (a0:Zm)(v4c:List SV)(v4n:Nat)(v5:Int):LS:=⟨jW 98 [(1,(.p 2 0)),(4,(.s 3 0 v4n 1)),(10,(.m 4)),(62,(.s 1 0 a0.2.length 3)),(63,(iv (a0.2.length:Int))),(64,(iv v5))],[(.live false true (flat dD a0.1)),(.live false true (flat eE a0.2)),(.live true false [(.s 0 0 a0.1.length 3),(.s 1 0 a0.2.length 3)]),(.live true true v4c),(.map (mapE tA iv (zA (a0.1,a0.2))))]⟩
def fO (a0:Zm):List (Bool)×Int→(List (Bool)×Int)⊕(Int)
 | (v4,v5) =>
  (bif (decide ((v5:Int) < (a0.2.length:Int))) then
   (bif (((aU (zA (a0.1,a0.2)) ((aB (a0.2.getD (toNat v5) default)).1) 0):Int) != 1) then
    (.inr 7)
   else
    (bif (((aU (zA (a0.1,a0.2)) (F36 (aB (a0.2.getD (toNat v5) default)).1) 0):Int) != 1) then
     (.inr 7)
    else
     (bif (((aU (zA (a0.1,a0.2)) ((aB (a0.2.getD (toNat v5) default)).2.1) 0):Int) != 1) then
      (.inr 7)
     else
      (bif (((aU (zA (a0.1,a0.2)) (F36 (aB (a0.2.getD (toNat v5) default)).2.1) 0):Int) != 1) then
       (.inr 7)
      else
       (bif (((aU (zA (a0.1,a0.2)) ((aB (a0.2.getD (toNat v5) default)).2.2) 0):Int) != 1) then
        (.inr 7)
       else
        (bif (((aU (zA (a0.1,a0.2)) (F36 (aB (a0.2.getD (toNat v5) default)).2.2) 0):Int) != 1) then
         (.inr 7)
        else
         (.inl (v4,(v5+1)))))))))
  else
   (.inr (aC (oN a0) (toNat ((v4.length:Int) - 0)+1) (v4,(v4.length:Int),0))))
noncomputable def aLj:Code:=(aF [1,1,1,1,0,1] [] (aI Try.f31) []).1
noncomputable def aLk:List K:=(aF [1,1,1,1,0,1] [] (aI Try.f31) []).2
def aF5 (a0:Zm)(v1c:List SV)(v1n:Nat)(v2:Int):LS:=⟨jW 98 [(1,(.p 2 0)),(4,(.s 3 0 v1n 1)),(38,(.s 1 0 a0.2.length 3)),(39,(iv (a0.2.length:Int))),(40,(iv v2))],[(.live false true (flat dD a0.1)),(.live false true (flat eE a0.2)),(.live true false [(.s 0 0 a0.1.length 3),(.s 1 0 a0.2.length 3)]),(.live true true v1c)]⟩
def kI (a0:Zm):List (Bool)×Int→(List (Bool)×Int)⊕(Int)
 | (v1,v2) =>
  (bif (decide ((v2:Int) < (a0.2.length:Int))) then
   (bif (((zS (a0.1,a0.2) (a0.2.getD (toNat v2) default)):Int) != 0) then
    (.inr (zS (a0.1,a0.2) (a0.2.getD (toNat v2) default)))
   else
    (.inl ((((v1.set (toNat (a0.2.getD (toNat v2) default).1) true).set (toNat (a0.2.getD (toNat v2) default).2.1) true).set (toNat (a0.2.getD (toNat v2) default).2.2) true),(v2+1))))
  else
   (.inr (aC (fO a0) (toNat ((a0.2.length:Int) - 0)+1) (v1,0))))
theorem aT6 (a0:Zm)(l0_1:a0.1.length≤9223372036854775807)(l0_2:a0.2.length≤9223372036854775807) {cx:Cx} (hcx:cx.base=2):∀(n:Nat)(v8:List (Bool))(v9 v10:Int),(0≤v10)∧(lG a0 a0.2.length)∧(a0.1.length≤64)∧(a0.2.length≤96)∧(v9=(v8.length:Int))∧(v8.length=a0.1.length)→toNat (v9 - v10) < n→Aw.Good Try.prog none 9 (bodyPost Try.prog Try.f31 (RR cx (iv (aC (oN a0) n (v8,v9,v10))) [] [])) cx [] (.l aLf n::aLg) (aF3 a0 (flat c4 v8) v8.length v9 v10):=by
 intro n
 induction n with
 | zero=>intro v8 v9 v10 hi hn;exact absurd hn (jV _)
 | succ n ih =>
   intro v8 v9 v10 hi hn
   refine aJ ?_
   cases h0:(decide ((v10:Int) < v9)) with
   | true =>
    have q0:=cY h0
    let t1:List (St Try.prog):=[.d h0,.i v10 (v8.length),.L dM v8 v10 0 1]
    cases h1:(!(v8.getD (toNat v10) default)) with
    | true =>
     have e:=Eq.refl (oN a0 (v8,v9,v10));conv at e=>rhs;simp only [oN,h0,h1,aK]
     rw [aD,e]
     exact rt (t1++[.d h1]) [] [] hcx (by kernel_rfl)
    | false =>
     have e:=Eq.refl (oN a0 (v8,v9,v10));conv at e=>rhs;simp only [oN,h0,h1,aK]
     rw [aA e]
     refine ba (t1++[.d h1]) [] [1,86,87,88] [2,3] hcx (m:=n) aLf (aLg) (aF3 a0 (flat c4 v8) (v8.length) v9 (W (v10+1))) (by kernel_rfl) ?_
     have z0:(W (v10+1))=(v10+1):=aE (by omega) (by omega)
     rw [z0]
     exact ih v8 v9 (v10+1) (by refine⟨?_,?_,?_,?_,?_,?_⟩<;>first | omega | assumption | exact gX | exact hi.2.1 | exact hi.2.2.1 | exact fA hi.2.2.1 (by omega) | exact cN hi.2.2.1 hfo | exact cN hi.2.2.1 (by refine⟨⟨?_,?_⟩,⟨?_,?_⟩,?_,?_⟩<;>omega) | (simp only [List.length_replicate,List.length_set];omega)) (by(try simp only [Ls]);omega)
   | false =>
    have q0:=dU h0
    let t1:List (St Try.prog):=[.d h0,.c [0,1] (C68 (a0.1,a0.2) (by(try simp only [Lt]);omega) (by(try simp only [Lt]);omega) hi.2.1 (by show a0.2.length≤96;omega))]
    cases h1:(decide (((F68 (a0.1,a0.2)):Int)≤0)) with
    | true =>
     have q1:=cY h1
     have e:=Eq.refl (oN a0 (v8,v9,v10));conv at e=>rhs;simp only [oN,h0,h1,aK]
     rw [aD,e]
     exact rt (t1++[.d h1]) [] [] hcx (by kernel_rfl)
    | false =>
     have q1:=dU h1
     have e:=Eq.refl (oN a0 (v8,v9,v10));conv at e=>rhs;simp only [oN,h0,h1,aK]
     rw [aD,e]
     exact rt (t1++[.d h1]) [] [] hcx (by kernel_rfl)
theorem aT7 (a0:Zm)(l0_1:a0.1.length≤9223372036854775807)(l0_2:a0.2.length≤9223372036854775807) {cx:Cx} (hcx:cx.base=2):∀(n:Nat)(v4:List (Bool))(v5:Int),(0≤v5)∧(lG a0 a0.2.length)∧(a0.1.length≤64)∧(a0.2.length≤96)∧(v4.length=a0.1.length)→toNat ((a0.2.length:Int) - v5) < n→Aw.Good Try.prog none 9 (bodyPost Try.prog Try.f31 (RR cx (iv (aC (fO a0) n (v4,v5))) [] [])) cx [] (.l aLh n::aLi) (aF4 a0 (flat c4 v4) v4.length v5):=by
 intro n
 induction n with
 | zero=>intro v4 v5 hi hn;exact absurd hn (jV _)
 | succ n ih =>
   intro v4 v5 hi hn
   refine aJ ?_
   cases h0:(decide ((v5:Int) < (a0.2.length:Int))) with
   | true =>
    have q0:=cY h0
    let t1:List (St Try.prog):=[.d h0,.i v5 (a0.2.length),.L aP a0.2 v5 0 3,.c [] (C37 (a0.2.getD (toNat v5) default)),.u 200,.T,.i 0 3 (by decide),.mG K80 iv (zA (a0.1,a0.2)) ((aB (a0.2.getD (toNat v5) default)).1) 0]
    cases h1:(((aU (zA (a0.1,a0.2)) ((aB (a0.2.getD (toNat v5) default)).1) 0):Int) != 1) with
    | true =>
     have q1:=bne_iff_ne.1 h1
     have e:=Eq.refl (fO a0 (v4,v5));conv at e=>rhs;simp only [fO,h0,h1,aK]
     rw [aD,e]
     exact rt (t1++[.d h1]) [] [] hcx (by kernel_rfl)
    | false =>
     have q1:=bne_eq_false_iff_eq.1 h1
     let t2:List (St Try.prog):=(t1++[.d h1,.c [] (C36 (aB (a0.2.getD (toNat v5) default)).1),.mG K80 iv (zA (a0.1,a0.2)) (F36 (aB (a0.2.getD (toNat v5) default)).1) 0])
     cases h2:(((aU (zA (a0.1,a0.2)) (F36 (aB (a0.2.getD (toNat v5) default)).1) 0):Int) != 1) with
     | true =>
      have q2:=bne_iff_ne.1 h2
      have e:=Eq.refl (fO a0 (v4,v5));conv at e=>rhs;simp only [fO,h0,h1,h2,aK]
      rw [aD,e]
      exact rt (t2++[.d h2]) [] [] hcx (by kernel_rfl)
     | false =>
      have q2:=bne_eq_false_iff_eq.1 h2
      let t3:List (St Try.prog):=(t2++[.d h2,.u 0,.T,.i 1 3 (by decide),.mG K80 iv (zA (a0.1,a0.2)) ((aB (a0.2.getD (toNat v5) default)).2.1) 0])
      cases h3:(((aU (zA (a0.1,a0.2)) ((aB (a0.2.getD (toNat v5) default)).2.1) 0):Int) != 1) with
      | true =>
       have q3:=bne_iff_ne.1 h3
       have e:=Eq.refl (fO a0 (v4,v5));conv at e=>rhs;simp only [fO,h0,h1,h2,h3,aK]
       rw [aD,e]
       exact rt (t3++[.d h3]) [] [] hcx (by kernel_rfl)
      | false =>
       have q3:=bne_eq_false_iff_eq.1 h3
       let t4:List (St Try.prog):=(t3++[.d h3,.c [] (C36 (aB (a0.2.getD (toNat v5) default)).2.1),.mG K80 iv (zA (a0.1,a0.2)) (F36 (aB (a0.2.getD (toNat v5) default)).2.1) 0])
       cases h4:(((aU (zA (a0.1,a0.2)) (F36 (aB (a0.2.getD (toNat v5) default)).2.1) 0):Int) != 1) with
       | true =>
        have q4:=bne_iff_ne.1 h4
        have e:=Eq.refl (fO a0 (v4,v5));conv at e=>rhs;simp only [fO,h0,h1,h2,h3,h4,aK]
        rw [aD,e]
        exact rt (t4++[.d h4]) [] [] hcx (by kernel_rfl)
       | false =>
        have q4:=bne_eq_false_iff_eq.1 h4
        let t5:List (St Try.prog):=(t4++[.d h4,.u 0,.T,.i 2 3 (by decide),.mG K80 iv (zA (a0.1,a0.2)) ((aB (a0.2.getD (toNat v5) default)).2.2) 0])
        cases h5:(((aU (zA (a0.1,a0.2)) ((aB (a0.2.getD (toNat v5) default)).2.2) 0):Int) != 1) with
        | true =>
         have q5:=bne_iff_ne.1 h5
         have e:=Eq.refl (fO a0 (v4,v5));conv at e=>rhs;simp only [fO,h0,h1,h2,h3,h4,h5,aK]
         rw [aD,e]
         exact rt (t5++[.d h5]) [] [] hcx (by kernel_rfl)
        | false =>
         have q5:=bne_eq_false_iff_eq.1 h5
         let t6:List (St Try.prog):=(t5++[.d h5,.c [] (C36 (aB (a0.2.getD (toNat v5) default)).2.2),.mG K80 iv (zA (a0.1,a0.2)) (F36 (aB (a0.2.getD (toNat v5) default)).2.2) 0])
         cases h6:(((aU (zA (a0.1,a0.2)) (F36 (aB (a0.2.getD (toNat v5) default)).2.2) 0):Int) != 1) with
         | true =>
          have q6:=bne_iff_ne.1 h6
          have e:=Eq.refl (fO a0 (v4,v5));conv at e=>rhs;simp only [fO,h0,h1,h2,h3,h4,h5,h6,aK]
          rw [aD,e]
          exact rt (t6++[.d h6]) [] [] hcx (by kernel_rfl)
         | false =>
          have q6:=bne_eq_false_iff_eq.1 h6
          have e:=Eq.refl (fO a0 (v4,v5));conv at e=>rhs;simp only [fO,h0,h1,h2,h3,h4,h5,h6,aK]
          rw [aA e]
          refine ba (t6++[.d h6,.u 0,.F]) [] [1,4,10,62,63,64] [2,3,4] hcx (m:=n) aLh (aLi) (aF4 a0 (flat c4 v4) (v4.length) (W (v5+1))) (by kernel_rfl) ?_
          have z0:(W (v5+1))=(v5+1):=aE (by omega) (by omega)
          rw [z0]
          exact ih v4 (v5+1) (by refine⟨?_,?_,?_,?_,?_⟩<;>first | omega | assumption | exact gX | exact hi.2.1 | exact hi.2.2.1 | exact fA hi.2.2.1 (by omega) | exact cN hi.2.2.1 hfo | exact cN hi.2.2.1 (by refine⟨⟨?_,?_⟩,⟨?_,?_⟩,?_,?_⟩<;>omega) | (simp only [List.length_replicate,List.length_set];omega)) (by(try simp only [Ls]);omega)
   | false =>
    have q0:=dU h0
    have e:=Eq.refl (fO a0 (v4,v5));conv at e=>rhs;simp only [fO,h0,aK]
    rw [aD,e]
    refine en [.d h0] [] [1,86,87,88] [2,3] hcx aLf (aLg) (aF3 a0 (flat c4 v4) (v4.length) (v4.length:Int) 0) (toNat ((v4.length:Int) - 0)+1) (by kernel_rfl) ?_
    exact aT6 a0 l0_1 l0_2 hcx (toNat ((v4.length:Int) - 0)+1) v4 (v4.length:Int) 0 (by refine⟨?_,?_,?_,?_,?_,?_⟩<;>first | omega | assumption | exact gX | exact hi.2.1 | exact hi.2.2.1 | exact fA hi.2.2.1 (by omega) | exact cN hi.2.2.1 hfo | exact cN hi.2.2.1 (by refine⟨⟨?_,?_⟩,⟨?_,?_⟩,?_,?_⟩<;>omega) | (simp only [List.length_replicate,List.length_set];omega)) (by(try simp only [Ls]);omega)
theorem aT8 (a0:Zm)(l0_1:a0.1.length≤9223372036854775807)(l0_2:a0.2.length≤9223372036854775807) {cx:Cx} (hcx:cx.base=2):∀(n:Nat)(v1:List (Bool))(v2:Int),(0≤v2)∧(v1.length=a0.1.length)∧(lG a0 v2)∧(v2≤a0.2.length)∧(a0.1.length≤64)∧(a0.2.length≤96)→toNat ((a0.2.length:Int) - v2) < n→Aw.Good Try.prog none 9 (bodyPost Try.prog Try.f31 (RR cx (iv (aC (kI a0) n (v1,v2))) [] [])) cx [] (.l aLj n::aLk) (aF5 a0 (flat c4 v1) v1.length v2):=by
 intro n
 induction n with
 | zero=>intro v1 v2 hi hn;exact absurd hn (jV _)
 | succ n ih =>
   intro v1 v2 hi hn
   refine aJ ?_
   try have hfo:inF a0.1.length (a0.2.getD (toNat v2) default):=iA (m:=a0) h1 (by omega)
   try have hfo2:=hfo
   try obtain⟨⟨hf1,hf2⟩,⟨hf3,hf4⟩,hf5,hf6⟩:=hfo2
   cases h0:(decide ((v2:Int) < (a0.2.length:Int))) with
   | true =>
    have q0:=cY h0
    try have hfo:inF a0.1.length (a0.2.getD (toNat v2) default):=iA (m:=a0) h1 (by omega)
    let t1:List (St Try.prog):=[.d h0,.i v2 (a0.2.length),.L aP a0.2 v2 0 3,.c [0,1] (C66 (a0.1,a0.2) (a0.2.getD (toNat v2) default) (by(try simp only [Lt]);omega) (by(try simp only [Lt]);omega) (by(try simp only [Lt]);omega))]
    cases h1:(((zS (a0.1,a0.2) (a0.2.getD (toNat v2) default)):Int) != 0) with
    | true =>
     have q1:=bne_iff_ne.1 h1
     try have hfo:inF a0.1.length (a0.2.getD (toNat v2) default):=iA (m:=a0) h1 (by omega)
     have e:=Eq.refl (kI a0 (v1,v2));conv at e=>rhs;simp only [kI,h0,h1,aK]
     rw [aD,e]
     exact rt (t1++[.d h1]) [] [] hcx (by kernel_rfl)
    | false =>
     have q1:=bne_eq_false_iff_eq.1 h1
     try have hfo:inF a0.1.length (a0.2.getD (toNat v2) default):=iA (m:=a0) h1 (by omega)
     have e:=Eq.refl (kI a0 (v1,v2));conv at e=>rhs;simp only [kI,h0,h1,aK]
     rw [aA e]
     refine ba (t1++[.d h1,.u 200,.T,.i 0 3 (by decide),.i ((a0.2.getD (toNat v2) default).1) (v1.length),.p (show((0+toNat (a0.2.getD (toNat v2) default).1*1)+1≤(flat c4 v1).length) from(gB dM (by first | omega | (simp only [Lt];omega)) (o:=0) (Nb rfl))),.u 0,.T,.i 1 3 (by decide),.i ((a0.2.getD (toNat v2) default).2.1) (v1.length),.p (show((0+toNat (a0.2.getD (toNat v2) default).2.1*1)+1≤(splice (flat c4 v1) (0+toNat (a0.2.getD (toNat v2) default).1*1) [(.v (.bool true))]).length) from(by rw [show(splice (flat c4 v1) (0+toNat (a0.2.getD (toNat v2) default).1*1) [(.v (.bool true))])=flat c4 (v1.set (toNat (a0.2.getD (toNat v2) default).1) true) from(dL dM (by first | omega | (simp only [Lt];omega)) (o:=0) (d:=default) (Nb rfl) rfl)];exact gB dM (by first | omega | (simp only [Lt];omega)) (o:=0) (Nb rfl))),.u 0,.T,.i 2 3 (by decide),.i ((a0.2.getD (toNat v2) default).2.2) (v1.length),.p (show((0+toNat (a0.2.getD (toNat v2) default).2.2*1)+1≤(splice (splice (flat c4 v1) (0+toNat (a0.2.getD (toNat v2) default).1*1) [(.v (.bool true))]) (0+toNat (a0.2.getD (toNat v2) default).2.1*1) [(.v (.bool true))]).length) from(by rw [show(splice (splice (flat c4 v1) (0+toNat (a0.2.getD (toNat v2) default).1*1) [(.v (.bool true))]) (0+toNat (a0.2.getD (toNat v2) default).2.1*1) [(.v (.bool true))])=flat c4 ((v1.set (toNat (a0.2.getD (toNat v2) default).1) true).set (toNat (a0.2.getD (toNat v2) default).2.1) true) from(by rw [show(splice (flat c4 v1) (0+toNat (a0.2.getD (toNat v2) default).1*1) [(.v (.bool true))])=flat c4 (v1.set (toNat (a0.2.getD (toNat v2) default).1) true) from(dL dM (by first | omega | (simp only [Lt];omega)) (o:=0) (d:=default) (Nb rfl) rfl)];exact dL dM (by first | omega | (simp only [Lt];omega)) (o:=0) (d:=default) (Nb rfl) rfl)];exact gB dM (by first | omega | (simp only [Lt];omega)) (o:=0) (Nb rfl))),.u 0,.F]) [] [1,4,38,39,40] [2,3] hcx (m:=n) aLj (aLk) (aF5 a0 (splice (splice (splice (flat c4 v1) (0+toNat (a0.2.getD (toNat v2) default).1*1) [(.v (.bool true))]) (0+toNat (a0.2.getD (toNat v2) default).2.1*1) [(.v (.bool true))]) (0+toNat (a0.2.getD (toNat v2) default).2.2*1) [(.v (.bool true))]) (v1.length) (W (v2+1))) (by kernel_rfl) ?_
     have z0:(W (v2+1))=(v2+1):=aE (by omega) (by omega)
     have z1:(splice (splice (splice (flat c4 v1) (0+toNat (a0.2.getD (toNat v2) default).1*1) [(.v (.bool true))]) (0+toNat (a0.2.getD (toNat v2) default).2.1*1) [(.v (.bool true))]) (0+toNat (a0.2.getD (toNat v2) default).2.2*1) [(.v (.bool true))])=flat c4 (((v1.set (toNat (a0.2.getD (toNat v2) default).1) true).set (toNat (a0.2.getD (toNat v2) default).2.1) true).set (toNat (a0.2.getD (toNat v2) default).2.2) true):=(by rw [show(splice (splice (flat c4 v1) (0+toNat (a0.2.getD (toNat v2) default).1*1) [(.v (.bool true))]) (0+toNat (a0.2.getD (toNat v2) default).2.1*1) [(.v (.bool true))])=flat c4 ((v1.set (toNat (a0.2.getD (toNat v2) default).1) true).set (toNat (a0.2.getD (toNat v2) default).2.1) true) from(by rw [show(splice (flat c4 v1) (0+toNat (a0.2.getD (toNat v2) default).1*1) [(.v (.bool true))])=flat c4 (v1.set (toNat (a0.2.getD (toNat v2) default).1) true) from(dL dM (by first | omega | (simp only [Lt];omega)) (o:=0) (d:=default) (Nb rfl) rfl)];exact dL dM (by first | omega | (simp only [Lt];omega)) (o:=0) (d:=default) (Nb rfl) rfl)];exact dL dM (by first | omega | (simp only [Lt];omega)) (o:=0) (d:=default) (Nb rfl) rfl)
     have z2:v1.length=(((v1.set (toNat (a0.2.getD (toNat v2) default).1) true).set (toNat (a0.2.getD (toNat v2) default).2.1) true).set (toNat (a0.2.getD (toNat v2) default).2.2) true).length:=by simp
     rw [z0,z1,z2]
     exact ih (((v1.set (toNat (a0.2.getD (toNat v2) default).1) true).set (toNat (a0.2.getD (toNat v2) default).2.1) true).set (toNat (a0.2.getD (toNat v2) default).2.2) true) (v2+1) (by refine⟨?_,?_,?_,?_,?_,?_⟩<;>first | omega | assumption | exact gX | exact hi.2.1 | exact hi.2.2.1 | exact fA hi.2.2.1 (by omega) | exact cN hi.2.2.1 hfo | exact cN hi.2.2.1 (by refine⟨⟨?_,?_⟩,⟨?_,?_⟩,?_,?_⟩<;>omega) | (simp only [List.length_replicate,List.length_set];omega)) (by(try simp only [Ls]);omega)
   | false =>
    have q0:=dU h0
    try have hfo:inF a0.1.length (a0.2.getD (toNat v2) default):=iA (m:=a0) h1 (by omega)
    have e:=Eq.refl (kI a0 (v1,v2));conv at e=>rhs;simp only [kI,h0,aK]
    rw [aD,e]
    refine en [.d h0,.c [0,1] (C67 (a0.1,a0.2) (by(try simp only [Lt]);omega) (by(try simp only [Lt]);omega))] [] [1,4,10,62,63,64] [2,3,4] hcx aLh (aLi) (aF4 a0 (flat c4 v1) (v1.length) 0) (toNat ((a0.2.length:Int) - 0)+1) (by kernel_rfl) ?_
    exact aT7 a0 l0_1 l0_2 hcx (toNat ((a0.2.length:Int) - 0)+1) v1 0 (by refine⟨?_,?_,?_,?_,?_⟩<;>first | omega | assumption | exact gX | exact hi.2.1 | exact hi.2.2.1 | exact fA hi.2.2.1 (by omega) | exact cN hi.2.2.1 hfo | exact cN hi.2.2.1 (by refine⟨⟨?_,?_⟩,⟨?_,?_⟩,?_,?_⟩<;>omega) | (simp only [List.length_replicate,List.length_set];omega)) (by(try simp only [Ls]);omega)
def cZ (a0:Zm):Int :=
 (bif (decide (((a0.1.length:Int):Int) > 64)) then
  4
 else
  (bif (!(pI (a0.2.length:Int) 1 96)) then
   4
  else
   (bif (((F65 (a0.1,a0.2)):Int) != 0) then
    (F65 (a0.1,a0.2))
   else
    (aC (kI a0) (toNat ((a0.2.length:Int) - 0)+1) ((List.replicate (toNat (a0.1.length:Int)) false),0)))))
theorem C31 (a0:Zm)(l0_1:a0.1.length≤9223372036854775807)(l0_2:a0.2.length≤9223372036854775807):Con Try.prog 31 [(.a [(.s 0 0 a0.1.length 3),(.s 1 0 a0.2.length 3)])] [(.live false true (flat dD a0.1)),(.live false true (flat eE a0.2))] (iv (cZ a0)) []:=by
 refine aL Try.func31 (by kernel_rfl) fun cx hcx=>?_
 try have hl96:=fL h1
 cases h0:(decide (((a0.1.length:Int):Int) > 64)) with
 | true =>
  have q0:=cY h0
  try have hl96:=fL h1
  have e:=Eq.refl (cZ a0);conv at e=>rhs;simp only [cZ,h0,aK]
  rw [e]
  exact rt [.d h0] [] [] hcx (by kernel_rfl)
 | false =>
  have q0:=dU h0
  try have hl96:=fL h1
  let t1:List (St Try.prog):=[.d h0,.c [] (C51 (a0.2.length:Int) 1 96)]
  cases h1:(!(pI (a0.2.length:Int) 1 96)) with
  | true =>
   try have hl96:=fL h1
   have e:=Eq.refl (cZ a0);conv at e=>rhs;simp only [cZ,h0,h1,aK]
   rw [e]
   exact rt (t1++[.d h1]) [] [] hcx (by kernel_rfl)
  | false =>
   try have hl96:=fL h1
   let t2:List (St Try.prog):=(t1++[.d h1,.c [0,1] (C65 (a0.1,a0.2) (by(try simp only [Lt]);omega) (by(try simp only [Lt]);omega))])
   cases h2:(((F65 (a0.1,a0.2)):Int) != 0) with
   | true =>
    have q2:=bne_iff_ne.1 h2
    try have hl96:=fL h1
    have e:=Eq.refl (cZ a0);conv at e=>rhs;simp only [cZ,h0,h1,h2,aK]
    rw [e]
    exact rt (t2++[.d h2]) [] [] hcx (by kernel_rfl)
   | false =>
    have q2:=bne_eq_false_iff_eq.1 h2
    try have hl96:=fL h1
    have e:=Eq.refl (cZ a0);conv at e=>rhs;simp only [cZ,h0,h1,h2,aK]
    rw [e]
    refine en (t2++[.d h2,.Z c4 false [(.v (.bool false))] (a0.1.length:Int) 1]) [] [1,4,38,39,40] [2,3] hcx aLj (aLk) (aF5 a0 (flat c4 (List.replicate (toNat (a0.1.length:Int)) false)) (toNat (a0.1.length:Int)) 0) (toNat ((a0.2.length:Int) - 0)+1) (by kernel_rfl) ?_
    have q:=aT8 a0 l0_1 l0_2 hcx (toNat ((a0.2.length:Int) - 0)+1) (List.replicate (toNat (a0.1.length:Int)) false) 0 (by refine⟨?_,?_,?_,?_,?_,?_⟩<;>first | omega | assumption | exact gX | exact hi.2.1 | exact hi.2.2.1 | exact fA hi.2.2.1 (by omega) | exact cN hi.2.2.1 hfo | exact cN hi.2.2.1 (by refine⟨⟨?_,?_⟩,⟨?_,?_⟩,?_,?_⟩<;>omega) | (simp only [List.length_replicate,List.length_set];omega)) (by(try simp only [Ls]);omega)
    simp only [List.length_replicate] at q
    exact q
def vR (a0:Zm)(a1:Int):Zt×Zt×Zt :=
 ((a0.1.getD (toNat (a0.2.getD (toNat a1) default).1) default),(a0.1.getD (toNat (a0.2.getD (toNat a1) default).2.1) default),(a0.1.getD (toNat (a0.2.getD (toNat a1) default).2.2) default))
theorem C76 (a0:Zm)(a1:Int)(l0_1:a0.1.length≤9223372036854775807)(l0_2:a0.2.length≤9223372036854775807)(hi:0≤a1∧a1 < (a0.2.length:Int))(hf:inF a0.1.length (a0.2.getD (toNat a1) default)):Con Try.prog 76 [(.a [(.s 0 0 a0.1.length 3),(.s 1 0 a0.2.length 3)]),(iv a1)] [(.live false true (flat dD a0.1)),(.live false true (flat eE a0.2))] (.a (k9 (vR a0 a1))) []:=by
 refine aL Try.func76 (by kernel_rfl) fun cx hcx=>?_
 have e:=Eq.refl (vR a0 a1);conv at e=>rhs;simp only [vR]
 rw [e]
 exact rt [.i a1 (a0.2.length),.L aP a0.2 a1 0 3,.i 0 3 (by decide),.i ((a0.2.getD (toNat a1) default).1) (a0.1.length),.L bY a0.1 (a0.2.getD (toNat a1) default).1 0 3,.i 1 3 (by decide),.i ((a0.2.getD (toNat a1) default).2.1) (a0.1.length),.L bY a0.1 (a0.2.getD (toNat a1) default).2.1 0 3,.i 2 3 (by decide),.i ((a0.2.getD (toNat a1) default).2.2) (a0.1.length),.L bY a0.1 (a0.2.getD (toNat a1) default).2.2 0 3] [] [] hcx (by kernel_rfl)
noncomputable def dE:Code:=(aF [1,1,0,1] [] (aI Try.f77) []).1
noncomputable def dF:List K:=(aF [1,1,0,1] [] (aI Try.f77) []).2
def bO (a0:Zm)(a1:Int)(a2:Int)(v1 v2:Int):LS:=⟨jW 46 [(1,(iv a1)),(2,(iv a2)),(3,(.p 2 0)),(7,(iv v1)),(8,(iv v2))],[(.live false true (flat dD a0.1)),(.live false true (flat eE a0.2)),(.live true false [(.s 0 0 a0.1.length 3),(.s 1 0 a0.2.length 3)])]⟩
def aS (a0:Zm)(a1:Int)(a2:Int):Int×Int→(Int×Int)⊕(Int)
 | (v1,v2) =>
  (bif (decide ((v2:Int) < (a0.2.length:Int))) then
   (bif (((a0.2.getD (toNat v2) default).1:Int) == a1) then
    (bif (((a0.2.getD (toNat v2) default).2.1:Int) == a2) then
     (bif (((a0.2.getD (toNat v2) default).2.1:Int) == a1) then
      (bif (((a0.2.getD (toNat v2) default).2.2:Int) == a2) then
       (bif (((a0.2.getD (toNat v2) default).2.2:Int) == a1) then
        (bif (((a0.2.getD (toNat v2) default).1:Int) == a2) then
         (.inl ((W ((W ((W (v1+1))+1))+1)),(v2+1)))
        else
         (.inl ((W ((W (v1+1))+1)),(v2+1))))
       else
        (.inl ((W ((W (v1+1))+1)),(v2+1))))
      else
       (bif (((a0.2.getD (toNat v2) default).2.2:Int) == a1) then
        (bif (((a0.2.getD (toNat v2) default).1:Int) == a2) then
         (.inl ((W ((W (v1+1))+1)),(v2+1)))
        else
         (.inl ((W (v1+1)),(v2+1))))
       else
        (.inl ((W (v1+1)),(v2+1)))))
     else
      (bif (((a0.2.getD (toNat v2) default).2.2:Int) == a1) then
       (bif (((a0.2.getD (toNat v2) default).1:Int) == a2) then
        (.inl ((W ((W (v1+1))+1)),(v2+1)))
       else
        (.inl ((W (v1+1)),(v2+1))))
      else
       (.inl ((W (v1+1)),(v2+1)))))
    else
     (bif (((a0.2.getD (toNat v2) default).2.1:Int) == a1) then
      (bif (((a0.2.getD (toNat v2) default).2.2:Int) == a2) then
       (bif (((a0.2.getD (toNat v2) default).2.2:Int) == a1) then
        (bif (((a0.2.getD (toNat v2) default).1:Int) == a2) then
         (.inl ((W ((W (v1+1))+1)),(v2+1)))
        else
         (.inl ((W (v1+1)),(v2+1))))
       else
        (.inl ((W (v1+1)),(v2+1))))
      else
       (bif (((a0.2.getD (toNat v2) default).2.2:Int) == a1) then
        (bif (((a0.2.getD (toNat v2) default).1:Int) == a2) then
         (.inl ((W (v1+1)),(v2+1)))
        else
         (.inl (v1,(v2+1))))
       else
        (.inl (v1,(v2+1)))))
     else
      (bif (((a0.2.getD (toNat v2) default).2.2:Int) == a1) then
       (bif (((a0.2.getD (toNat v2) default).1:Int) == a2) then
        (.inl ((W (v1+1)),(v2+1)))
       else
        (.inl (v1,(v2+1))))
      else
       (.inl (v1,(v2+1))))))
   else
    (bif (((a0.2.getD (toNat v2) default).2.1:Int) == a1) then
     (bif (((a0.2.getD (toNat v2) default).2.2:Int) == a2) then
      (bif (((a0.2.getD (toNat v2) default).2.2:Int) == a1) then
       (bif (((a0.2.getD (toNat v2) default).1:Int) == a2) then
        (.inl ((W ((W (v1+1))+1)),(v2+1)))
       else
        (.inl ((W (v1+1)),(v2+1))))
      else
       (.inl ((W (v1+1)),(v2+1))))
     else
      (bif (((a0.2.getD (toNat v2) default).2.2:Int) == a1) then
       (bif (((a0.2.getD (toNat v2) default).1:Int) == a2) then
        (.inl ((W (v1+1)),(v2+1)))
       else
        (.inl (v1,(v2+1))))
      else
       (.inl (v1,(v2+1)))))
    else
     (bif (((a0.2.getD (toNat v2) default).2.2:Int) == a1) then
      (bif (((a0.2.getD (toNat v2) default).1:Int) == a2) then
       (.inl ((W (v1+1)),(v2+1)))
      else
       (.inl (v1,(v2+1))))
     else
      (.inl (v1,(v2+1))))))
  else
   (.inr v1))
theorem aT9 (a0:Zm)(a1:Int)(a2:Int)(l0_1:a0.1.length≤9223372036854775807)(l0_2:a0.2.length≤9223372036854775807) {cx:Cx} (hcx:cx.base=2):∀(n:Nat)(v1 v2:Int),0≤v2→toNat ((a0.2.length:Int) - v2) < n→Aw.Good Try.prog none 9 (bodyPost Try.prog Try.f77 (RR cx (iv (aC (aS a0 a1 a2) n (v1,v2))) [] [])) cx [] (.l dE n::dF) (bO a0 a1 a2 v1 v2):=by
 intro n
 induction n with
 | zero=>intro v1 v2 hi hn;exact absurd hn (jV _)
 | succ n ih =>
   intro v1 v2 hi hn
   refine aJ ?_
   cases h0:(decide ((v2:Int) < (a0.2.length:Int))) with
   | true =>
    have q0:=cY h0
    let t1:List (St Try.prog):=[.d h0,.u 200,.T,.i v2 (a0.2.length),.i 0 3 (by decide),.L aP a0.2 v2 0 1]
    cases h1:(((a0.2.getD (toNat v2) default).1:Int) == a1) with
    | true =>
     have q1:=eq_of_beq h1
     let t2:List (St Try.prog):=(t1++[.d h1,.p (show(3:Int)≠0 from by decide),.i v2 (a0.2.length),.i 1 3 (by decide),.L aP a0.2 v2 1 1])
     cases h2:(((a0.2.getD (toNat v2) default).2.1:Int) == a2) with
     | true =>
      have q2:=eq_of_beq h2
      let t3:List (St Try.prog):=(t2++[.d h2,.u 0,.T,.i v2 (a0.2.length),.i 1 3 (by decide),.L aP a0.2 v2 1 1])
      cases h3:(((a0.2.getD (toNat v2) default).2.1:Int) == a1) with
      | true =>
       have q3:=eq_of_beq h3
       let t4:List (St Try.prog):=(t3++[.d h3,.p (show(3:Int)≠0 from by decide),.i v2 (a0.2.length),.i 2 3 (by decide),.L aP a0.2 v2 2 1])
       cases h4:(((a0.2.getD (toNat v2) default).2.2:Int) == a2) with
       | true =>
        have q4:=eq_of_beq h4
        let t5:List (St Try.prog):=(t4++[.d h4,.u 0,.T,.i v2 (a0.2.length),.i 2 3 (by decide),.L aP a0.2 v2 2 1])
        cases h5:(((a0.2.getD (toNat v2) default).2.2:Int) == a1) with
        | true =>
         have q5:=eq_of_beq h5
         let t6:List (St Try.prog):=(t5++[.d h5,.p (show(3:Int)≠0 from by decide),.i v2 (a0.2.length),.i 0 3 (by decide),.L aP a0.2 v2 0 1])
         cases h6:(((a0.2.getD (toNat v2) default).1:Int) == a2) with
         | true =>
          have q6:=eq_of_beq h6
          have e:=Eq.refl (aS a0 a1 a2 (v1,v2));conv at e=>rhs;simp only [aS,h0,h1,h2,h3,h4,h5,h6,aK]
          rw [aA e]
          refine ba (t6++[.d h6,.u 0,.F]) [] [1,2,3,7,8] [2] hcx (m:=n) dE (dF) (bO a0 a1 a2 (W ((W ((W (v1+1))+1))+1)) (W (v2+1))) (by kernel_rfl) ?_
          have z0:(W (v2+1))=(v2+1):=aE (by omega) (by omega)
          rw [z0]
          exact ih (W ((W ((W (v1+1))+1))+1)) (v2+1) (by(try simp only [Ls]);omega) (by(try simp only [Ls]);omega)
         | false =>
          have q6:=ne_of_beq_false h6
          have e:=Eq.refl (aS a0 a1 a2 (v1,v2));conv at e=>rhs;simp only [aS,h0,h1,h2,h3,h4,h5,h6,aK]
          rw [aA e]
          refine ba (t6++[.d h6,.u 0,.F]) [] [1,2,3,7,8] [2] hcx (m:=n) dE (dF) (bO a0 a1 a2 (W ((W (v1+1))+1)) (W (v2+1))) (by kernel_rfl) ?_
          have z0:(W (v2+1))=(v2+1):=aE (by omega) (by omega)
          rw [z0]
          exact ih (W ((W (v1+1))+1)) (v2+1) (by(try simp only [Ls]);omega) (by(try simp only [Ls]);omega)
        | false =>
         have q5:=ne_of_beq_false h5
         have e:=Eq.refl (aS a0 a1 a2 (v1,v2));conv at e=>rhs;simp only [aS,h0,h1,h2,h3,h4,h5,aK]
         rw [aA e]
         refine ba (t5++[.d h5,.u 0,.F]) [] [1,2,3,7,8] [2] hcx (m:=n) dE (dF) (bO a0 a1 a2 (W ((W (v1+1))+1)) (W (v2+1))) (by kernel_rfl) ?_
         have z0:(W (v2+1))=(v2+1):=aE (by omega) (by omega)
         rw [z0]
         exact ih (W ((W (v1+1))+1)) (v2+1) (by(try simp only [Ls]);omega) (by(try simp only [Ls]);omega)
       | false =>
        have q4:=ne_of_beq_false h4
        let t5:List (St Try.prog):=(t4++[.d h4,.u 0,.T,.i v2 (a0.2.length),.i 2 3 (by decide),.L aP a0.2 v2 2 1])
        cases h5:(((a0.2.getD (toNat v2) default).2.2:Int) == a1) with
        | true =>
         have q5:=eq_of_beq h5
         let t6:List (St Try.prog):=(t5++[.d h5,.p (show(3:Int)≠0 from by decide),.i v2 (a0.2.length),.i 0 3 (by decide),.L aP a0.2 v2 0 1])
         cases h6:(((a0.2.getD (toNat v2) default).1:Int) == a2) with
         | true =>
          have q6:=eq_of_beq h6
          have e:=Eq.refl (aS a0 a1 a2 (v1,v2));conv at e=>rhs;simp only [aS,h0,h1,h2,h3,h4,h5,h6,aK]
          rw [aA e]
          refine ba (t6++[.d h6,.u 0,.F]) [] [1,2,3,7,8] [2] hcx (m:=n) dE (dF) (bO a0 a1 a2 (W ((W (v1+1))+1)) (W (v2+1))) (by kernel_rfl) ?_
          have z0:(W (v2+1))=(v2+1):=aE (by omega) (by omega)
          rw [z0]
          exact ih (W ((W (v1+1))+1)) (v2+1) (by(try simp only [Ls]);omega) (by(try simp only [Ls]);omega)
         | false =>
          have q6:=ne_of_beq_false h6
          have e:=Eq.refl (aS a0 a1 a2 (v1,v2));conv at e=>rhs;simp only [aS,h0,h1,h2,h3,h4,h5,h6,aK]
          rw [aA e]
          refine ba (t6++[.d h6,.u 0,.F]) [] [1,2,3,7,8] [2] hcx (m:=n) dE (dF) (bO a0 a1 a2 (W (v1+1)) (W (v2+1))) (by kernel_rfl) ?_
          have z0:(W (v2+1))=(v2+1):=aE (by omega) (by omega)
          rw [z0]
          exact ih (W (v1+1)) (v2+1) (by(try simp only [Ls]);omega) (by(try simp only [Ls]);omega)
        | false =>
         have q5:=ne_of_beq_false h5
         have e:=Eq.refl (aS a0 a1 a2 (v1,v2));conv at e=>rhs;simp only [aS,h0,h1,h2,h3,h4,h5,aK]
         rw [aA e]
         refine ba (t5++[.d h5,.u 0,.F]) [] [1,2,3,7,8] [2] hcx (m:=n) dE (dF) (bO a0 a1 a2 (W (v1+1)) (W (v2+1))) (by kernel_rfl) ?_
         have z0:(W (v2+1))=(v2+1):=aE (by omega) (by omega)
         rw [z0]
         exact ih (W (v1+1)) (v2+1) (by(try simp only [Ls]);omega) (by(try simp only [Ls]);omega)
      | false =>
       have q3:=ne_of_beq_false h3
       let t4:List (St Try.prog):=(t3++[.d h3,.u 0,.T,.i v2 (a0.2.length),.i 2 3 (by decide),.L aP a0.2 v2 2 1])
       cases h4:(((a0.2.getD (toNat v2) default).2.2:Int) == a1) with
       | true =>
        have q4:=eq_of_beq h4
        let t5:List (St Try.prog):=(t4++[.d h4,.p (show(3:Int)≠0 from by decide),.i v2 (a0.2.length),.i 0 3 (by decide),.L aP a0.2 v2 0 1])
        cases h5:(((a0.2.getD (toNat v2) default).1:Int) == a2) with
        | true =>
         have q5:=eq_of_beq h5
         have e:=Eq.refl (aS a0 a1 a2 (v1,v2));conv at e=>rhs;simp only [aS,h0,h1,h2,h3,h4,h5,aK]
         rw [aA e]
         refine ba (t5++[.d h5,.u 0,.F]) [] [1,2,3,7,8] [2] hcx (m:=n) dE (dF) (bO a0 a1 a2 (W ((W (v1+1))+1)) (W (v2+1))) (by kernel_rfl) ?_
         have z0:(W (v2+1))=(v2+1):=aE (by omega) (by omega)
         rw [z0]
         exact ih (W ((W (v1+1))+1)) (v2+1) (by(try simp only [Ls]);omega) (by(try simp only [Ls]);omega)
        | false =>
         have q5:=ne_of_beq_false h5
         have e:=Eq.refl (aS a0 a1 a2 (v1,v2));conv at e=>rhs;simp only [aS,h0,h1,h2,h3,h4,h5,aK]
         rw [aA e]
         refine ba (t5++[.d h5,.u 0,.F]) [] [1,2,3,7,8] [2] hcx (m:=n) dE (dF) (bO a0 a1 a2 (W (v1+1)) (W (v2+1))) (by kernel_rfl) ?_
         have z0:(W (v2+1))=(v2+1):=aE (by omega) (by omega)
         rw [z0]
         exact ih (W (v1+1)) (v2+1) (by(try simp only [Ls]);omega) (by(try simp only [Ls]);omega)
       | false =>
        have q4:=ne_of_beq_false h4
        have e:=Eq.refl (aS a0 a1 a2 (v1,v2));conv at e=>rhs;simp only [aS,h0,h1,h2,h3,h4,aK]
        rw [aA e]
        refine ba (t4++[.d h4,.u 0,.F]) [] [1,2,3,7,8] [2] hcx (m:=n) dE (dF) (bO a0 a1 a2 (W (v1+1)) (W (v2+1))) (by kernel_rfl) ?_
        have z0:(W (v2+1))=(v2+1):=aE (by omega) (by omega)
        rw [z0]
        exact ih (W (v1+1)) (v2+1) (by(try simp only [Ls]);omega) (by(try simp only [Ls]);omega)
     | false =>
      have q2:=ne_of_beq_false h2
      let t3:List (St Try.prog):=(t2++[.d h2,.u 0,.T,.i v2 (a0.2.length),.i 1 3 (by decide),.L aP a0.2 v2 1 1])
      cases h3:(((a0.2.getD (toNat v2) default).2.1:Int) == a1) with
      | true =>
       have q3:=eq_of_beq h3
       let t4:List (St Try.prog):=(t3++[.d h3,.p (show(3:Int)≠0 from by decide),.i v2 (a0.2.length),.i 2 3 (by decide),.L aP a0.2 v2 2 1])
       cases h4:(((a0.2.getD (toNat v2) default).2.2:Int) == a2) with
       | true =>
        have q4:=eq_of_beq h4
        let t5:List (St Try.prog):=(t4++[.d h4,.u 0,.T,.i v2 (a0.2.length),.i 2 3 (by decide),.L aP a0.2 v2 2 1])
        cases h5:(((a0.2.getD (toNat v2) default).2.2:Int) == a1) with
        | true =>
         have q5:=eq_of_beq h5
         let t6:List (St Try.prog):=(t5++[.d h5,.p (show(3:Int)≠0 from by decide),.i v2 (a0.2.length),.i 0 3 (by decide),.L aP a0.2 v2 0 1])
         cases h6:(((a0.2.getD (toNat v2) default).1:Int) == a2) with
         | true =>
          have q6:=eq_of_beq h6
          have e:=Eq.refl (aS a0 a1 a2 (v1,v2));conv at e=>rhs;simp only [aS,h0,h1,h2,h3,h4,h5,h6,aK]
          rw [aA e]
          refine ba (t6++[.d h6,.u 0,.F]) [] [1,2,3,7,8] [2] hcx (m:=n) dE (dF) (bO a0 a1 a2 (W ((W (v1+1))+1)) (W (v2+1))) (by kernel_rfl) ?_
          have z0:(W (v2+1))=(v2+1):=aE (by omega) (by omega)
          rw [z0]
          exact ih (W ((W (v1+1))+1)) (v2+1) (by(try simp only [Ls]);omega) (by(try simp only [Ls]);omega)
         | false =>
          have q6:=ne_of_beq_false h6
          have e:=Eq.refl (aS a0 a1 a2 (v1,v2));conv at e=>rhs;simp only [aS,h0,h1,h2,h3,h4,h5,h6,aK]
          rw [aA e]
          refine ba (t6++[.d h6,.u 0,.F]) [] [1,2,3,7,8] [2] hcx (m:=n) dE (dF) (bO a0 a1 a2 (W (v1+1)) (W (v2+1))) (by kernel_rfl) ?_
          have z0:(W (v2+1))=(v2+1):=aE (by omega) (by omega)
          rw [z0]
          exact ih (W (v1+1)) (v2+1) (by(try simp only [Ls]);omega) (by(try simp only [Ls]);omega)
        | false =>
         have q5:=ne_of_beq_false h5
         have e:=Eq.refl (aS a0 a1 a2 (v1,v2));conv at e=>rhs;simp only [aS,h0,h1,h2,h3,h4,h5,aK]
         rw [aA e]
         refine ba (t5++[.d h5,.u 0,.F]) [] [1,2,3,7,8] [2] hcx (m:=n) dE (dF) (bO a0 a1 a2 (W (v1+1)) (W (v2+1))) (by kernel_rfl) ?_
         have z0:(W (v2+1))=(v2+1):=aE (by omega) (by omega)
         rw [z0]
         exact ih (W (v1+1)) (v2+1) (by(try simp only [Ls]);omega) (by(try simp only [Ls]);omega)
       | false =>
        have q4:=ne_of_beq_false h4
        let t5:List (St Try.prog):=(t4++[.d h4,.u 0,.T,.i v2 (a0.2.length),.i 2 3 (by decide),.L aP a0.2 v2 2 1])
        cases h5:(((a0.2.getD (toNat v2) default).2.2:Int) == a1) with
        | true =>
         have q5:=eq_of_beq h5
         let t6:List (St Try.prog):=(t5++[.d h5,.p (show(3:Int)≠0 from by decide),.i v2 (a0.2.length),.i 0 3 (by decide),.L aP a0.2 v2 0 1])
         cases h6:(((a0.2.getD (toNat v2) default).1:Int) == a2) with
         | true =>
          have q6:=eq_of_beq h6
          have e:=Eq.refl (aS a0 a1 a2 (v1,v2));conv at e=>rhs;simp only [aS,h0,h1,h2,h3,h4,h5,h6,aK]
          rw [aA e]
          refine ba (t6++[.d h6,.u 0,.F]) [] [1,2,3,7,8] [2] hcx (m:=n) dE (dF) (bO a0 a1 a2 (W (v1+1)) (W (v2+1))) (by kernel_rfl) ?_
          have z0:(W (v2+1))=(v2+1):=aE (by omega) (by omega)
          rw [z0]
          exact ih (W (v1+1)) (v2+1) (by(try simp only [Ls]);omega) (by(try simp only [Ls]);omega)
         | false =>
          have q6:=ne_of_beq_false h6
          have e:=Eq.refl (aS a0 a1 a2 (v1,v2));conv at e=>rhs;simp only [aS,h0,h1,h2,h3,h4,h5,h6,aK]
          rw [aA e]
          refine ba (t6++[.d h6,.u 0,.F]) [] [1,2,3,7,8] [2] hcx (m:=n) dE (dF) (bO a0 a1 a2 v1 (W (v2+1))) (by kernel_rfl) ?_
          have z0:(W (v2+1))=(v2+1):=aE (by omega) (by omega)
          rw [z0]
          exact ih v1 (v2+1) (by(try simp only [Ls]);omega) (by(try simp only [Ls]);omega)
        | false =>
         have q5:=ne_of_beq_false h5
         have e:=Eq.refl (aS a0 a1 a2 (v1,v2));conv at e=>rhs;simp only [aS,h0,h1,h2,h3,h4,h5,aK]
         rw [aA e]
         refine ba (t5++[.d h5,.u 0,.F]) [] [1,2,3,7,8] [2] hcx (m:=n) dE (dF) (bO a0 a1 a2 v1 (W (v2+1))) (by kernel_rfl) ?_
         have z0:(W (v2+1))=(v2+1):=aE (by omega) (by omega)
         rw [z0]
         exact ih v1 (v2+1) (by(try simp only [Ls]);omega) (by(try simp only [Ls]);omega)
      | false =>
       have q3:=ne_of_beq_false h3
       let t4:List (St Try.prog):=(t3++[.d h3,.u 0,.T,.i v2 (a0.2.length),.i 2 3 (by decide),.L aP a0.2 v2 2 1])
       cases h4:(((a0.2.getD (toNat v2) default).2.2:Int) == a1) with
       | true =>
        have q4:=eq_of_beq h4
        let t5:List (St Try.prog):=(t4++[.d h4,.p (show(3:Int)≠0 from by decide),.i v2 (a0.2.length),.i 0 3 (by decide),.L aP a0.2 v2 0 1])
        cases h5:(((a0.2.getD (toNat v2) default).1:Int) == a2) with
        | true =>
         have q5:=eq_of_beq h5
         have e:=Eq.refl (aS a0 a1 a2 (v1,v2));conv at e=>rhs;simp only [aS,h0,h1,h2,h3,h4,h5,aK]
         rw [aA e]
         refine ba (t5++[.d h5,.u 0,.F]) [] [1,2,3,7,8] [2] hcx (m:=n) dE (dF) (bO a0 a1 a2 (W (v1+1)) (W (v2+1))) (by kernel_rfl) ?_
         have z0:(W (v2+1))=(v2+1):=aE (by omega) (by omega)
         rw [z0]
         exact ih (W (v1+1)) (v2+1) (by(try simp only [Ls]);omega) (by(try simp only [Ls]);omega)
        | false =>
         have q5:=ne_of_beq_false h5
         have e:=Eq.refl (aS a0 a1 a2 (v1,v2));conv at e=>rhs;simp only [aS,h0,h1,h2,h3,h4,h5,aK]
         rw [aA e]
         refine ba (t5++[.d h5,.u 0,.F]) [] [1,2,3,7,8] [2] hcx (m:=n) dE (dF) (bO a0 a1 a2 v1 (W (v2+1))) (by kernel_rfl) ?_
         have z0:(W (v2+1))=(v2+1):=aE (by omega) (by omega)
         rw [z0]
         exact ih v1 (v2+1) (by(try simp only [Ls]);omega) (by(try simp only [Ls]);omega)
       | false =>
        have q4:=ne_of_beq_false h4
        have e:=Eq.refl (aS a0 a1 a2 (v1,v2));conv at e=>rhs;simp only [aS,h0,h1,h2,h3,h4,aK]
        rw [aA e]
        refine ba (t4++[.d h4,.u 0,.F]) [] [1,2,3,7,8] [2] hcx (m:=n) dE (dF) (bO a0 a1 a2 v1 (W (v2+1))) (by kernel_rfl) ?_
        have z0:(W (v2+1))=(v2+1):=aE (by omega) (by omega)
        rw [z0]
        exact ih v1 (v2+1) (by(try simp only [Ls]);omega) (by(try simp only [Ls]);omega)
    | false =>
     have q1:=ne_of_beq_false h1
     let t2:List (St Try.prog):=(t1++[.d h1,.u 0,.T,.i v2 (a0.2.length),.i 1 3 (by decide),.L aP a0.2 v2 1 1])
     cases h2:(((a0.2.getD (toNat v2) default).2.1:Int) == a1) with
     | true =>
      have q2:=eq_of_beq h2
      let t3:List (St Try.prog):=(t2++[.d h2,.p (show(3:Int)≠0 from by decide),.i v2 (a0.2.length),.i 2 3 (by decide),.L aP a0.2 v2 2 1])
      cases h3:(((a0.2.getD (toNat v2) default).2.2:Int) == a2) with
      | true =>
       have q3:=eq_of_beq h3
       let t4:List (St Try.prog):=(t3++[.d h3,.u 0,.T,.i v2 (a0.2.length),.i 2 3 (by decide),.L aP a0.2 v2 2 1])
       cases h4:(((a0.2.getD (toNat v2) default).2.2:Int) == a1) with
       | true =>
        have q4:=eq_of_beq h4
        let t5:List (St Try.prog):=(t4++[.d h4,.p (show(3:Int)≠0 from by decide),.i v2 (a0.2.length),.i 0 3 (by decide),.L aP a0.2 v2 0 1])
        cases h5:(((a0.2.getD (toNat v2) default).1:Int) == a2) with
        | true =>
         have q5:=eq_of_beq h5
         have e:=Eq.refl (aS a0 a1 a2 (v1,v2));conv at e=>rhs;simp only [aS,h0,h1,h2,h3,h4,h5,aK]
         rw [aA e]
         refine ba (t5++[.d h5,.u 0,.F]) [] [1,2,3,7,8] [2] hcx (m:=n) dE (dF) (bO a0 a1 a2 (W ((W (v1+1))+1)) (W (v2+1))) (by kernel_rfl) ?_
         have z0:(W (v2+1))=(v2+1):=aE (by omega) (by omega)
         rw [z0]
         exact ih (W ((W (v1+1))+1)) (v2+1) (by(try simp only [Ls]);omega) (by(try simp only [Ls]);omega)
        | false =>
         have q5:=ne_of_beq_false h5
         have e:=Eq.refl (aS a0 a1 a2 (v1,v2));conv at e=>rhs;simp only [aS,h0,h1,h2,h3,h4,h5,aK]
         rw [aA e]
         refine ba (t5++[.d h5,.u 0,.F]) [] [1,2,3,7,8] [2] hcx (m:=n) dE (dF) (bO a0 a1 a2 (W (v1+1)) (W (v2+1))) (by kernel_rfl) ?_
         have z0:(W (v2+1))=(v2+1):=aE (by omega) (by omega)
         rw [z0]
         exact ih (W (v1+1)) (v2+1) (by(try simp only [Ls]);omega) (by(try simp only [Ls]);omega)
       | false =>
        have q4:=ne_of_beq_false h4
        have e:=Eq.refl (aS a0 a1 a2 (v1,v2));conv at e=>rhs;simp only [aS,h0,h1,h2,h3,h4,aK]
        rw [aA e]
        refine ba (t4++[.d h4,.u 0,.F]) [] [1,2,3,7,8] [2] hcx (m:=n) dE (dF) (bO a0 a1 a2 (W (v1+1)) (W (v2+1))) (by kernel_rfl) ?_
        have z0:(W (v2+1))=(v2+1):=aE (by omega) (by omega)
        rw [z0]
        exact ih (W (v1+1)) (v2+1) (by(try simp only [Ls]);omega) (by(try simp only [Ls]);omega)
      | false =>
       have q3:=ne_of_beq_false h3
       let t4:List (St Try.prog):=(t3++[.d h3,.u 0,.T,.i v2 (a0.2.length),.i 2 3 (by decide),.L aP a0.2 v2 2 1])
       cases h4:(((a0.2.getD (toNat v2) default).2.2:Int) == a1) with
       | true =>
        have q4:=eq_of_beq h4
        let t5:List (St Try.prog):=(t4++[.d h4,.p (show(3:Int)≠0 from by decide),.i v2 (a0.2.length),.i 0 3 (by decide),.L aP a0.2 v2 0 1])
        cases h5:(((a0.2.getD (toNat v2) default).1:Int) == a2) with
        | true =>
         have q5:=eq_of_beq h5
         have e:=Eq.refl (aS a0 a1 a2 (v1,v2));conv at e=>rhs;simp only [aS,h0,h1,h2,h3,h4,h5,aK]
         rw [aA e]
         refine ba (t5++[.d h5,.u 0,.F]) [] [1,2,3,7,8] [2] hcx (m:=n) dE (dF) (bO a0 a1 a2 (W (v1+1)) (W (v2+1))) (by kernel_rfl) ?_
         have z0:(W (v2+1))=(v2+1):=aE (by omega) (by omega)
         rw [z0]
         exact ih (W (v1+1)) (v2+1) (by(try simp only [Ls]);omega) (by(try simp only [Ls]);omega)
        | false =>
         have q5:=ne_of_beq_false h5
         have e:=Eq.refl (aS a0 a1 a2 (v1,v2));conv at e=>rhs;simp only [aS,h0,h1,h2,h3,h4,h5,aK]
         rw [aA e]
         refine ba (t5++[.d h5,.u 0,.F]) [] [1,2,3,7,8] [2] hcx (m:=n) dE (dF) (bO a0 a1 a2 v1 (W (v2+1))) (by kernel_rfl) ?_
         have z0:(W (v2+1))=(v2+1):=aE (by omega) (by omega)
         rw [z0]
         exact ih v1 (v2+1) (by(try simp only [Ls]);omega) (by(try simp only [Ls]);omega)
       | false =>
        have q4:=ne_of_beq_false h4
        have e:=Eq.refl (aS a0 a1 a2 (v1,v2));conv at e=>rhs;simp only [aS,h0,h1,h2,h3,h4,aK]
        rw [aA e]
        refine ba (t4++[.d h4,.u 0,.F]) [] [1,2,3,7,8] [2] hcx (m:=n) dE (dF) (bO a0 a1 a2 v1 (W (v2+1))) (by kernel_rfl) ?_
        have z0:(W (v2+1))=(v2+1):=aE (by omega) (by omega)
        rw [z0]
        exact ih v1 (v2+1) (by(try simp only [Ls]);omega) (by(try simp only [Ls]);omega)
     | false =>
      have q2:=ne_of_beq_false h2
      let t3:List (St Try.prog):=(t2++[.d h2,.u 0,.T,.i v2 (a0.2.length),.i 2 3 (by decide),.L aP a0.2 v2 2 1])
      cases h3:(((a0.2.getD (toNat v2) default).2.2:Int) == a1) with
      | true =>
       have q3:=eq_of_beq h3
       let t4:List (St Try.prog):=(t3++[.d h3,.p (show(3:Int)≠0 from by decide),.i v2 (a0.2.length),.i 0 3 (by decide),.L aP a0.2 v2 0 1])
       cases h4:(((a0.2.getD (toNat v2) default).1:Int) == a2) with
       | true =>
        have q4:=eq_of_beq h4
        have e:=Eq.refl (aS a0 a1 a2 (v1,v2));conv at e=>rhs;simp only [aS,h0,h1,h2,h3,h4,aK]
        rw [aA e]
        refine ba (t4++[.d h4,.u 0,.F]) [] [1,2,3,7,8] [2] hcx (m:=n) dE (dF) (bO a0 a1 a2 (W (v1+1)) (W (v2+1))) (by kernel_rfl) ?_
        have z0:(W (v2+1))=(v2+1):=aE (by omega) (by omega)
        rw [z0]
        exact ih (W (v1+1)) (v2+1) (by(try simp only [Ls]);omega) (by(try simp only [Ls]);omega)
       | false =>
        have q4:=ne_of_beq_false h4
        have e:=Eq.refl (aS a0 a1 a2 (v1,v2));conv at e=>rhs;simp only [aS,h0,h1,h2,h3,h4,aK]
        rw [aA e]
        refine ba (t4++[.d h4,.u 0,.F]) [] [1,2,3,7,8] [2] hcx (m:=n) dE (dF) (bO a0 a1 a2 v1 (W (v2+1))) (by kernel_rfl) ?_
        have z0:(W (v2+1))=(v2+1):=aE (by omega) (by omega)
        rw [z0]
        exact ih v1 (v2+1) (by(try simp only [Ls]);omega) (by(try simp only [Ls]);omega)
      | false =>
       have q3:=ne_of_beq_false h3
       have e:=Eq.refl (aS a0 a1 a2 (v1,v2));conv at e=>rhs;simp only [aS,h0,h1,h2,h3,aK]
       rw [aA e]
       refine ba (t3++[.d h3,.u 0,.F]) [] [1,2,3,7,8] [2] hcx (m:=n) dE (dF) (bO a0 a1 a2 v1 (W (v2+1))) (by kernel_rfl) ?_
       have z0:(W (v2+1))=(v2+1):=aE (by omega) (by omega)
       rw [z0]
       exact ih v1 (v2+1) (by(try simp only [Ls]);omega) (by(try simp only [Ls]);omega)
   | false =>
    have q0:=dU h0
    have e:=Eq.refl (aS a0 a1 a2 (v1,v2));conv at e=>rhs;simp only [aS,h0,aK]
    rw [aD,e]
    exact rt [.d h0] [] [] hcx (by kernel_rfl)
def F77 (a0:Zm)(a1:Int)(a2:Int):Int :=
 (aC (aS a0 a1 a2) (toNat ((a0.2.length:Int) - 0)+1) (0,0))
theorem C77 (a0:Zm)(a1:Int)(a2:Int)(l0_1:a0.1.length≤9223372036854775807)(l0_2:a0.2.length≤9223372036854775807):Con Try.prog 77 [(.a [(.s 0 0 a0.1.length 3),(.s 1 0 a0.2.length 3)]),(iv a1),(iv a2)] [(.live false true (flat dD a0.1)),(.live false true (flat eE a0.2))] (iv (F77 a0 a1 a2)) []:=by
 refine aL Try.func77 (by kernel_rfl) fun cx hcx=>?_
 have e:=Eq.refl (F77 a0 a1 a2);conv at e=>rhs;simp only [F77]
 rw [e]
 refine en [] [] [1,2,3,7,8] [2] hcx dE (dF) (bO a0 a1 a2 0 0) (toNat ((a0.2.length:Int) - 0)+1) (by kernel_rfl) ?_
 exact aT9 a0 a1 a2 l0_1 l0_2 hcx (toNat ((a0.2.length:Int) - 0)+1) 0 0 (by(try simp only [Ls]);omega) (by(try simp only [Ls]);omega)
noncomputable def aLl:Code:=(aF [1,1,0,1] [] (aI Try.f78) []).1
noncomputable def aLm:List K:=(aF [1,1,0,1] [] (aI Try.f78) []).2
def aF6 (a0:Zm)(v1 v2:Int):LS:=⟨jW 27 [(1,(.p 2 0)),(3,(iv v1)),(4,(iv v2))],[(.live false true (flat dD a0.1)),(.live false true (flat eE a0.2)),(.live true false [(.s 0 0 a0.1.length 3),(.s 1 0 a0.2.length 3)])]⟩
def aA1 (a0:Zm):Int×Int→(Int×Int)⊕(Int)
 | (v1,v2) =>
  (bif (decide ((v2:Int) < (a0.2.length:Int))) then
   (.inl ((W (v1+(F95 (vR (a0.1,a0.2) v2).1 (F93 (vR (a0.1,a0.2) v2).2.1 (vR (a0.1,a0.2) v2).2.2)))),(v2+1)))
  else
   (.inr v1))
theorem aUa (a0:Zm)(l0_1:a0.1.length≤9223372036854775807)(l0_2:a0.2.length≤9223372036854775807)(hv:lG a0 a0.2.length)(hn:a0.2.length≤96) {cx:Cx} (hcx:cx.base=2):∀(n:Nat)(v1 v2:Int),0≤v2→toNat ((a0.2.length:Int) - v2) < n→Aw.Good Try.prog none 9 (bodyPost Try.prog Try.f78 (RR cx (iv (aC (aA1 a0) n (v1,v2))) [] [])) cx [] (.l aLl n::aLm) (aF6 a0 v1 v2):=by
 intro n
 induction n with
 | zero=>intro v1 v2 hi hn;exact absurd hn (jV _)
 | succ n ih =>
   intro v1 v2 hi hn
   refine aJ ?_
   cases h0:(decide ((v2:Int) < (a0.2.length:Int))) with
   | true =>
    have q0:=cY h0
    have e:=Eq.refl (aA1 a0 (v1,v2));conv at e=>rhs;simp only [aA1,h0,aK]
    rw [aA e]
    refine ba [.d h0,.c [0,1] (C76 (a0.1,a0.2) v2 (by(try simp only [Lt]);omega) (by(try simp only [Lt]);omega) (by show 0≤_∧_ < (a0.2.length:Int);omega) (aEc hv (by omega) (by omega))),.c [] (C93 (vR (a0.1,a0.2) v2).2.1 (vR (a0.1,a0.2) v2).2.2),.c [] (C95 (vR (a0.1,a0.2) v2).1 (F93 (vR (a0.1,a0.2) v2).2.1 (vR (a0.1,a0.2) v2).2.2))] [] [1,3,4] [2] hcx (m:=n) aLl (aLm) (aF6 a0 (W (v1+(F95 (vR (a0.1,a0.2) v2).1 (F93 (vR (a0.1,a0.2) v2).2.1 (vR (a0.1,a0.2) v2).2.2)))) (W (v2+1))) (by kernel_rfl) ?_
    have z0:(W (v2+1))=(v2+1):=aE (by omega) (by omega)
    rw [z0]
    exact ih (W (v1+(F95 (vR (a0.1,a0.2) v2).1 (F93 (vR (a0.1,a0.2) v2).2.1 (vR (a0.1,a0.2) v2).2.2)))) (v2+1) (by(try simp only [Ls]);omega) (by(try simp only [Ls]);omega)
   | false =>
    have q0:=dU h0
    have e:=Eq.refl (aA1 a0 (v1,v2));conv at e=>rhs;simp only [aA1,h0,aK]
    rw [aD,e]
    exact rt [.d h0] [] [] hcx (by kernel_rfl)
def F78 (a0:Zm):Int :=
 (aC (aA1 a0) (toNat ((a0.2.length:Int) - 0)+1) (0,0))
theorem C78 (a0:Zm)(l0_1:a0.1.length≤9223372036854775807)(l0_2:a0.2.length≤9223372036854775807)(hv:lG a0 a0.2.length)(hn:a0.2.length≤96):Con Try.prog 78 [(.a [(.s 0 0 a0.1.length 3),(.s 1 0 a0.2.length 3)])] [(.live false true (flat dD a0.1)),(.live false true (flat eE a0.2))] (iv (F78 a0)) []:=by
 refine aL Try.func78 (by kernel_rfl) fun cx hcx=>?_
 have e:=Eq.refl (F78 a0);conv at e=>rhs;simp only [F78]
 rw [e]
 refine en [] [] [1,3,4] [2] hcx aLl (aLm) (aF6 a0 0 0) (toNat ((a0.2.length:Int) - 0)+1) (by kernel_rfl) ?_
 exact aUa a0 l0_1 l0_2 hv hn hcx (toNat ((a0.2.length:Int) - 0)+1) 0 0 (by(try simp only [Ls]);omega) (by(try simp only [Ls]);omega)
noncomputable def aLn:Code:=(aF [1,1,0,1,0,1,0,1,1] [0] (aI Try.f53) []).1
noncomputable def aLo (m0:Nat):List K:=(aF [1,1,0,1,0,1,0,1,1] [m0] (aI Try.f53) []).2
def aF7 (a0:Zm)(v3 v4:Int):LS:=⟨jW 148 [(1,(.p 2 0)),(3,(iv v3)),(4,(iv v4))],[(.live false true (flat dD a0.1)),(.live false true (flat eE a0.2)),(.live true false [(.s 0 0 a0.1.length 3),(.s 1 0 a0.2.length 3)])]⟩
def uL (a0:Zm):Int×Int→(Int×Int)⊕((Int)⊕(Int))
 | (v3,v4) =>
  (bif (decide ((v4:Int) < v3)) then
   (bif ((((a0.1.getD (toNat v3) default).1:Int) == (a0.1.getD (toNat v4) default).1)&&((((a0.1.getD (toNat v3) default).2.1:Int) == (a0.1.getD (toNat v4) default).2.1)&&((((a0.1.getD (toNat v3) default).2.2:Int) == (a0.1.getD (toNat v4) default).2.2)&&true))) then
    (.inr (.inr 1))
   else
    (.inl (v3,(v4+1))))
  else
   (.inr (.inl (v3+1))))
noncomputable def aLp:Code:=(aF [1,1,1,1,1,1,0,1] [] (aI Try.f53) []).1
noncomputable def aLq:List K:=(aF [1,1,1,1,1,1,0,1] [] (aI Try.f53) []).2
def aF8 (a0:Zm)(v11c:List SV)(v11n:Nat)(v12:Int):LS:=⟨jW 148 [(1,(.p 2 0)),(5,(.s 3 0 v11n 1)),(13,(iv v12))],[(.live false true (flat dD a0.1)),(.live false true (flat eE a0.2)),(.live true false [(.s 0 0 a0.1.length 3),(.s 1 0 a0.2.length 3)]),(.live true true v11c)]⟩
def oO (a0:Zm):List (Bool)×Int→(List (Bool)×Int)⊕(Int)
 | (v11,v12) =>
  (bif (decide ((v12:Int) < (v11.length:Int))) then
   (bif (!(v11.getD (toNat v12) default)) then
    (.inr 5)
   else
    (.inl (v11,(v12+1))))
  else
   (bif (decide (((F78 (a0.1,a0.2)):Int)≤0)) then
    (.inr 8)
   else
    (.inr 0)))
noncomputable def aLr:Code:=(aF [1,1,1,1,1,0,1] [] (aI Try.f53) []).1
noncomputable def aLs:List K:=(aF [1,1,1,1,1,0,1] [] (aI Try.f53) []).2
def aF9 (a0:Zm)(v8c:List SV)(v8n:Nat)(v9:Int):LS:=⟨jW 148 [(1,(.p 2 0)),(5,(.s 3 0 v8n 1)),(9,(iv v9))],[(.live false true (flat dD a0.1)),(.live false true (flat eE a0.2)),(.live true false [(.s 0 0 a0.1.length 3),(.s 1 0 a0.2.length 3)]),(.live true true v8c)]⟩
def fP (a0:Zm):List (Bool)×Int→(List (Bool)×Int)⊕(Int)
 | (v8,v9) =>
  (bif (decide ((v9:Int) < (a0.2.length:Int))) then
   (bif (((F77 (a0.1,a0.2) (a0.2.getD (toNat v9) default).1 (a0.2.getD (toNat v9) default).2.1):Int) != 1) then
    (.inr 7)
   else
    (bif (((F77 (a0.1,a0.2) (a0.2.getD (toNat v9) default).2.1 (a0.2.getD (toNat v9) default).1):Int) != 1) then
     (.inr 7)
    else
     (bif (((F77 (a0.1,a0.2) (a0.2.getD (toNat v9) default).2.1 (a0.2.getD (toNat v9) default).2.2):Int) != 1) then
      (.inr 7)
     else
      (bif (((F77 (a0.1,a0.2) (a0.2.getD (toNat v9) default).2.2 (a0.2.getD (toNat v9) default).2.1):Int) != 1) then
       (.inr 7)
      else
       (bif (((F77 (a0.1,a0.2) (a0.2.getD (toNat v9) default).2.2 (a0.2.getD (toNat v9) default).1):Int) != 1) then
        (.inr 7)
       else
        (bif (((F77 (a0.1,a0.2) (a0.2.getD (toNat v9) default).1 (a0.2.getD (toNat v9) default).2.2):Int) != 1) then
         (.inr 7)
        else
         (.inl (v8,(v9+1)))))))))
  else
   (.inr (aC (oO a0) (toNat ((v8.length:Int) - 0)+1) (v8,0))))
noncomputable def aLt:Code:=(aF [1,1,1,1,0,1] [] (aI Try.f53) []).1
noncomputable def aLu:List K:=(aF [1,1,1,1,0,1] [] (aI Try.f53) []).2
def aGa (a0:Zm)(v5c:List SV)(v5n:Nat)(v6:Int):LS:=⟨jW 148 [(1,(.p 2 0)),(5,(.s 3 0 v5n 1)),(6,(iv v6))],[(.live false true (flat dD a0.1)),(.live false true (flat eE a0.2)),(.live true false [(.s 0 0 a0.1.length 3),(.s 1 0 a0.2.length 3)]),(.live true true v5c)]⟩
def fE (a0:Zm):List (Bool)×Int→(List (Bool)×Int)⊕(Int)
 | (v5,v6) =>
  (bif (decide ((v6:Int) < (a0.2.length:Int))) then
   (bif (decide (((a0.2.getD (toNat v6) default).1:Int) < 0)) then
    (.inr 5)
   else
    (bif (decide (((a0.2.getD (toNat v6) default).1:Int)≥(a0.1.length:Int))) then
     (.inr 5)
    else
     (bif (decide (((a0.2.getD (toNat v6) default).2.1:Int) < 0)) then
      (.inr 5)
     else
      (bif (decide (((a0.2.getD (toNat v6) default).2.1:Int)≥(a0.1.length:Int))) then
       (.inr 5)
      else
       (bif (decide (((a0.2.getD (toNat v6) default).2.2:Int) < 0)) then
        (.inr 5)
       else
        (bif (decide (((a0.2.getD (toNat v6) default).2.2:Int)≥(a0.1.length:Int))) then
         (.inr 5)
        else
         (bif ((((F75 (vR (a0.1,a0.2) v6)).1:Int) == 0)&&((((F75 (vR (a0.1,a0.2) v6)).2.1:Int) == 0)&&((((F75 (vR (a0.1,a0.2) v6)).2.2:Int) == 0)&&true))) then
          (.inr 6)
         else
          (.inl ((((v5.set (toNat (a0.2.getD (toNat v6) default).1) true).set (toNat (a0.2.getD (toNat v6) default).2.1) true).set (toNat (a0.2.getD (toNat v6) default).2.2) true),(v6+1))))))))))
  else
   (.inr (aC (fP a0) (toNat ((a0.2.length:Int) - 0)+1) (v5,0))))
noncomputable def aHs:Code:=(aF [1,1,0,1] [] (aI Try.f53) []).1
noncomputable def aHt:List K:=(aF [1,1,0,1] [] (aI Try.f53) []).2
def aB9 (a0:Zm)(v1:Int):LS:=⟨jW 148 [(1,(.p 2 0)),(3,(iv v1))],[(.live false true (flat dD a0.1)),(.live false true (flat eE a0.2)),(.live true false [(.s 0 0 a0.1.length 3),(.s 1 0 a0.2.length 3)])]⟩
def oP (a0:Zm):Int→(Int)⊕(Int)
 | v1 =>
  (bif (decide ((v1:Int) < (a0.1.length:Int))) then
   (bif (!(F74 (a0.1.getD (toNat v1) default) 64)) then
    (.inr 1)
   else
    (aC (uL a0) (toNat (v1 - 0)+1) (v1,0)))
  else
   (.inr (aC (fE a0) (toNat ((a0.2.length:Int) - 0)+1) ((List.replicate (toNat (a0.1.length:Int)) false),0))))
theorem aUb (a0:Zm)(l0_1:a0.1.length≤9223372036854775807)(l0_2:a0.2.length≤9223372036854775807) {cx:Cx} (hcx:cx.base=2)
   (n0:Nat) (g0:∀(v1:Int),(0≤v1)∧(a0.1.length≤64)∧(a0.2.length≤96)→toNat ((a0.1.length:Int) - v1) < n0→Aw.Good Try.prog none 9 (bodyPost Try.prog Try.f53 (RR cx (iv (aC (oP a0) n0 v1)) [] [])) cx [] (.l aHs n0::aHt) (aB9 a0 v1)):∀(n:Nat) (v3 v4:Int),(0≤v4)∧((0≤v3))∧((a0.1.length≤64))∧((a0.2.length≤96))∧(v3 < (a0.1.length:Int))∧(toNat ((a0.1.length:Int) - v3) < n0+1)→toNat (v3 - v4) < n→Aw.Good Try.prog none 9 (bodyPost Try.prog Try.f53 (RR cx (iv (kF (oP a0) n0 (aC (uL a0) n (v3,v4)))) [] [])) cx [] (.l aLn n::aLo n0) (aF7 a0 v3 v4):=by
 intro n
 induction n with
 | zero=>intro v3 v4 hi hn;exact absurd hn (jV _)
 | succ n ih =>
   intro v3 v4 hi hn
   refine aJ ?_
   cases h0:(decide ((v4:Int) < v3)) with
   | true =>
    have q0:=cY h0
    let t1:List (St Try.prog):=[.d h0,.i v3 (a0.1.length),.L bY a0.1 v3 0 3,.i v4 (a0.1.length),.L bY a0.1 v4 0 3]
    cases h1:((((a0.1.getD (toNat v3) default).1:Int) == (a0.1.getD (toNat v4) default).1)&&((((a0.1.getD (toNat v3) default).2.1:Int) == (a0.1.getD (toNat v4) default).2.1)&&((((a0.1.getD (toNat v3) default).2.2:Int) == (a0.1.getD (toNat v4) default).2.2)&&true))) with
    | true =>
     have e:=Eq.refl (uL a0 (v3,v4));conv at e=>rhs;simp only [uL,h0,h1,aK]
     rw [aD,e]
     exact rt (t1++[.d h1]) [] [] hcx (by kernel_rfl)
    | false =>
     have e:=Eq.refl (uL a0 (v3,v4));conv at e=>rhs;simp only [uL,h0,h1,aK]
     rw [aA e]
     refine ba (t1++[.d h1]) [] [1,3,4] [2] hcx (m:=n) aLn (aLo n0) (aF7 a0 v3 (W (v4+1))) (by kernel_rfl) ?_
     have z0:(W (v4+1))=(v4+1):=aE (by omega) (by omega)
     rw [z0]
     exact ih v3 (v4+1) (by refine⟨?_,?_,?_,?_,?_,?_⟩<;>(try simp only [Ls])<;>first | omega | assumption | exact hi.2.1 | exact hi.2.2.1 | exact hi.2.2.2.1 | exact hi.2.2.2.2.1 | exact hi.2.2.2.2.2.1 | simp) (by(try simp only [Ls]);omega)
   | false =>
    have q0:=dU h0
    have e:=Eq.refl (uL a0 (v3,v4));conv at e=>rhs;simp only [uL,h0,aK]
    rw [aD,e]
    refine ba [.d h0] [] [1,3] [2] hcx (m:=n0) aHs (aHt) (aB9 a0 (W (v3+1))) (by kernel_rfl) ?_
    have z0:(W (v3+1))=(v3+1):=aE (by omega) (by omega)
    rw [z0]
    exact g0 (v3+1) (by refine⟨?_,?_,?_⟩<;>(try simp only [Ls])<;>first | omega | assumption | simp) (by(try simp only [Ls]);omega)
theorem aUc (a0:Zm)(l0_1:a0.1.length≤9223372036854775807)(l0_2:a0.2.length≤9223372036854775807) {cx:Cx} (hcx:cx.base=2):∀(n:Nat)(v11:List (Bool))(v12:Int),(0≤v12)∧(lG a0 a0.2.length)∧(a0.1.length≤64)∧(a0.2.length≤96)∧(v11.length=a0.1.length)→toNat ((v11.length:Int) - v12) < n→Aw.Good Try.prog none 9 (bodyPost Try.prog Try.f53 (RR cx (iv (aC (oO a0) n (v11,v12))) [] [])) cx [] (.l aLp n::aLq) (aF8 a0 (flat c4 v11) v11.length v12):=by
 intro n
 induction n with
 | zero=>intro v11 v12 hi hn;exact absurd hn (jV _)
 | succ n ih =>
   intro v11 v12 hi hn
   refine aJ ?_
   cases h0:(decide ((v12:Int) < (v11.length:Int))) with
   | true =>
    have q0:=cY h0
    let t1:List (St Try.prog):=[.d h0,.i v12 (v11.length),.L dM v11 v12 0 1]
    cases h1:(!(v11.getD (toNat v12) default)) with
    | true =>
     have e:=Eq.refl (oO a0 (v11,v12));conv at e=>rhs;simp only [oO,h0,h1,aK]
     rw [aD,e]
     exact rt (t1++[.d h1]) [] [] hcx (by kernel_rfl)
    | false =>
     have e:=Eq.refl (oO a0 (v11,v12));conv at e=>rhs;simp only [oO,h0,h1,aK]
     rw [aA e]
     refine ba (t1++[.d h1]) [] [1,5,13] [2,3] hcx (m:=n) aLp (aLq) (aF8 a0 (flat c4 v11) (v11.length) (W (v12+1))) (by kernel_rfl) ?_
     have z0:(W (v12+1))=(v12+1):=aE (by omega) (by omega)
     rw [z0]
     exact ih v11 (v12+1) (by refine⟨?_,?_,?_,?_,?_⟩<;>first | omega | assumption | exact gX | exact hi.2.1 | exact hi.2.2.1 | exact fA hi.2.2.1 (by omega) | exact cN hi.2.2.1 hfo | exact cN hi.2.2.1 (by refine⟨⟨?_,?_⟩,⟨?_,?_⟩,?_,?_⟩<;>omega) | (simp only [List.length_replicate,List.length_set];omega)) (by(try simp only [Ls]);omega)
   | false =>
    have q0:=dU h0
    let t1:List (St Try.prog):=[.d h0,.c [0,1] (C78 (a0.1,a0.2) (by(try simp only [Lt]);omega) (by(try simp only [Lt]);omega) hi.2.1 (by show a0.2.length≤96;omega))]
    cases h1:(decide (((F78 (a0.1,a0.2)):Int)≤0)) with
    | true =>
     have q1:=cY h1
     have e:=Eq.refl (oO a0 (v11,v12));conv at e=>rhs;simp only [oO,h0,h1,aK]
     rw [aD,e]
     exact rt (t1++[.d h1]) [] [] hcx (by kernel_rfl)
    | false =>
     have q1:=dU h1
     have e:=Eq.refl (oO a0 (v11,v12));conv at e=>rhs;simp only [oO,h0,h1,aK]
     rw [aD,e]
     exact rt (t1++[.d h1]) [] [] hcx (by kernel_rfl)
theorem aUd (a0:Zm)(l0_1:a0.1.length≤9223372036854775807)(l0_2:a0.2.length≤9223372036854775807) {cx:Cx} (hcx:cx.base=2):∀(n:Nat)(v8:List (Bool))(v9:Int),(0≤v9)∧(lG a0 a0.2.length)∧(a0.1.length≤64)∧(a0.2.length≤96)∧(v8.length=a0.1.length)→toNat ((a0.2.length:Int) - v9) < n→Aw.Good Try.prog none 9 (bodyPost Try.prog Try.f53 (RR cx (iv (aC (fP a0) n (v8,v9))) [] [])) cx [] (.l aLr n::aLs) (aF9 a0 (flat c4 v8) v8.length v9):=by
 intro n
 induction n with
 | zero=>intro v8 v9 hi hn;exact absurd hn (jV _)
 | succ n ih =>
   intro v8 v9 hi hn
   refine aJ ?_
   cases h0:(decide ((v9:Int) < (a0.2.length:Int))) with
   | true =>
    have q0:=cY h0
    let t1:List (St Try.prog):=[.d h0,.u 200,.T,.i v9 (a0.2.length),.i 0 3 (by decide),.L aP a0.2 v9 0 1,.p (show(3:Int)≠0 from by decide),.i v9 (a0.2.length),.i 1 3 (by decide),.L aP a0.2 v9 1 1,.c [0,1] (C77 (a0.1,a0.2) (a0.2.getD (toNat v9) default).1 (a0.2.getD (toNat v9) default).2.1 (by(try simp only [Lt]);omega) (by(try simp only [Lt]);omega))]
    cases h1:(((F77 (a0.1,a0.2) (a0.2.getD (toNat v9) default).1 (a0.2.getD (toNat v9) default).2.1):Int) != 1) with
    | true =>
     have q1:=bne_iff_ne.1 h1
     have e:=Eq.refl (fP a0 (v8,v9));conv at e=>rhs;simp only [fP,h0,h1,aK]
     rw [aD,e]
     exact rt (t1++[.d h1]) [] [] hcx (by kernel_rfl)
    | false =>
     have q1:=bne_eq_false_iff_eq.1 h1
     let t2:List (St Try.prog):=(t1++[.d h1,.c [0,1] (C77 (a0.1,a0.2) (a0.2.getD (toNat v9) default).2.1 (a0.2.getD (toNat v9) default).1 (by(try simp only [Lt]);omega) (by(try simp only [Lt]);omega))])
     cases h2:(((F77 (a0.1,a0.2) (a0.2.getD (toNat v9) default).2.1 (a0.2.getD (toNat v9) default).1):Int) != 1) with
     | true =>
      have q2:=bne_iff_ne.1 h2
      have e:=Eq.refl (fP a0 (v8,v9));conv at e=>rhs;simp only [fP,h0,h1,h2,aK]
      rw [aD,e]
      exact rt (t2++[.d h2]) [] [] hcx (by kernel_rfl)
     | false =>
      have q2:=bne_eq_false_iff_eq.1 h2
      let t3:List (St Try.prog):=(t2++[.d h2,.u 0,.T,.i v9 (a0.2.length),.i 1 3 (by decide),.L aP a0.2 v9 1 1,.p (show(3:Int)≠0 from by decide),.i v9 (a0.2.length),.i 2 3 (by decide),.L aP a0.2 v9 2 1,.c [0,1] (C77 (a0.1,a0.2) (a0.2.getD (toNat v9) default).2.1 (a0.2.getD (toNat v9) default).2.2 (by(try simp only [Lt]);omega) (by(try simp only [Lt]);omega))])
      cases h3:(((F77 (a0.1,a0.2) (a0.2.getD (toNat v9) default).2.1 (a0.2.getD (toNat v9) default).2.2):Int) != 1) with
      | true =>
       have q3:=bne_iff_ne.1 h3
       have e:=Eq.refl (fP a0 (v8,v9));conv at e=>rhs;simp only [fP,h0,h1,h2,h3,aK]
       rw [aD,e]
       exact rt (t3++[.d h3]) [] [] hcx (by kernel_rfl)
      | false =>
       have q3:=bne_eq_false_iff_eq.1 h3
       let t4:List (St Try.prog):=(t3++[.d h3,.c [0,1] (C77 (a0.1,a0.2) (a0.2.getD (toNat v9) default).2.2 (a0.2.getD (toNat v9) default).2.1 (by(try simp only [Lt]);omega) (by(try simp only [Lt]);omega))])
       cases h4:(((F77 (a0.1,a0.2) (a0.2.getD (toNat v9) default).2.2 (a0.2.getD (toNat v9) default).2.1):Int) != 1) with
       | true =>
        have q4:=bne_iff_ne.1 h4
        have e:=Eq.refl (fP a0 (v8,v9));conv at e=>rhs;simp only [fP,h0,h1,h2,h3,h4,aK]
        rw [aD,e]
        exact rt (t4++[.d h4]) [] [] hcx (by kernel_rfl)
       | false =>
        have q4:=bne_eq_false_iff_eq.1 h4
        let t5:List (St Try.prog):=(t4++[.d h4,.u 0,.T,.i v9 (a0.2.length),.i 2 3 (by decide),.L aP a0.2 v9 2 1,.p (show(3:Int)≠0 from by decide),.i v9 (a0.2.length),.i 0 3 (by decide),.L aP a0.2 v9 0 1,.c [0,1] (C77 (a0.1,a0.2) (a0.2.getD (toNat v9) default).2.2 (a0.2.getD (toNat v9) default).1 (by(try simp only [Lt]);omega) (by(try simp only [Lt]);omega))])
        cases h5:(((F77 (a0.1,a0.2) (a0.2.getD (toNat v9) default).2.2 (a0.2.getD (toNat v9) default).1):Int) != 1) with
        | true =>
         have q5:=bne_iff_ne.1 h5
         have e:=Eq.refl (fP a0 (v8,v9));conv at e=>rhs;simp only [fP,h0,h1,h2,h3,h4,h5,aK]
         rw [aD,e]
         exact rt (t5++[.d h5]) [] [] hcx (by kernel_rfl)
        | false =>
         have q5:=bne_eq_false_iff_eq.1 h5
         let t6:List (St Try.prog):=(t5++[.d h5,.c [0,1] (C77 (a0.1,a0.2) (a0.2.getD (toNat v9) default).1 (a0.2.getD (toNat v9) default).2.2 (by(try simp only [Lt]);omega) (by(try simp only [Lt]);omega))])
         cases h6:(((F77 (a0.1,a0.2) (a0.2.getD (toNat v9) default).1 (a0.2.getD (toNat v9) default).2.2):Int) != 1) with
         | true =>
          have q6:=bne_iff_ne.1 h6
          have e:=Eq.refl (fP a0 (v8,v9));conv at e=>rhs;simp only [fP,h0,h1,h2,h3,h4,h5,h6,aK]
          rw [aD,e]
          exact rt (t6++[.d h6]) [] [] hcx (by kernel_rfl)
         | false =>
          have q6:=bne_eq_false_iff_eq.1 h6
          have e:=Eq.refl (fP a0 (v8,v9));conv at e=>rhs;simp only [fP,h0,h1,h2,h3,h4,h5,h6,aK]
          rw [aA e]
          refine ba (t6++[.d h6,.u 0,.F]) [] [1,5,9] [2,3] hcx (m:=n) aLr (aLs) (aF9 a0 (flat c4 v8) (v8.length) (W (v9+1))) (by kernel_rfl) ?_
          have z0:(W (v9+1))=(v9+1):=aE (by omega) (by omega)
          rw [z0]
          exact ih v8 (v9+1) (by refine⟨?_,?_,?_,?_,?_⟩<;>first | omega | assumption | exact gX | exact hi.2.1 | exact hi.2.2.1 | exact fA hi.2.2.1 (by omega) | exact cN hi.2.2.1 hfo | exact cN hi.2.2.1 (by refine⟨⟨?_,?_⟩,⟨?_,?_⟩,?_,?_⟩<;>omega) | (simp only [List.length_replicate,List.length_set];omega)) (by(try simp only [Ls]);omega)
   | false =>
    have q0:=dU h0
    have e:=Eq.refl (fP a0 (v8,v9));conv at e=>rhs;simp only [fP,h0,aK]
    rw [aD,e]
    refine en [.d h0] [] [1,5,13] [2,3] hcx aLp (aLq) (aF8 a0 (flat c4 v8) (v8.length) 0) (toNat ((v8.length:Int) - 0)+1) (by kernel_rfl) ?_
    exact aUc a0 l0_1 l0_2 hcx (toNat ((v8.length:Int) - 0)+1) v8 0 (by refine⟨?_,?_,?_,?_,?_⟩<;>first | omega | assumption | exact gX | exact hi.2.1 | exact hi.2.2.1 | exact fA hi.2.2.1 (by omega) | exact cN hi.2.2.1 hfo | exact cN hi.2.2.1 (by refine⟨⟨?_,?_⟩,⟨?_,?_⟩,?_,?_⟩<;>omega) | (simp only [List.length_replicate,List.length_set];omega)) (by(try simp only [Ls]);omega)
theorem aUe (a0:Zm)(l0_1:a0.1.length≤9223372036854775807)(l0_2:a0.2.length≤9223372036854775807) {cx:Cx} (hcx:cx.base=2):∀(n:Nat)(v5:List (Bool))(v6:Int),(0≤v6)∧(v5.length=a0.1.length)∧(lG a0 v6)∧(v6≤a0.2.length)∧(a0.1.length≤64)∧(a0.2.length≤96)→toNat ((a0.2.length:Int) - v6) < n→Aw.Good Try.prog none 9 (bodyPost Try.prog Try.f53 (RR cx (iv (aC (fE a0) n (v5,v6))) [] [])) cx [] (.l aLt n::aLu) (aGa a0 (flat c4 v5) v5.length v6):=by
 intro n
 induction n with
 | zero=>intro v5 v6 hi hn;exact absurd hn (jV _)
 | succ n ih =>
   intro v5 v6 hi hn
   refine aJ ?_
   cases h0:(decide ((v6:Int) < (a0.2.length:Int))) with
   | true =>
    have q0:=cY h0
    let t1:List (St Try.prog):=[.d h0,.u 200,.T,.i v6 (a0.2.length),.i 0 3 (by decide),.L aP a0.2 v6 0 1]
    cases h1:(decide (((a0.2.getD (toNat v6) default).1:Int) < 0)) with
    | true =>
     have q1:=cY h1
     have e:=Eq.refl (fE a0 (v5,v6));conv at e=>rhs;simp only [fE,h0,h1,aK]
     rw [aD,e]
     exact rt (t1++[.d h1]) [] [] hcx (by kernel_rfl)
    | false =>
     have q1:=dU h1
     let t2:List (St Try.prog):=(t1++[.d h1])
     cases h2:(decide (((a0.2.getD (toNat v6) default).1:Int)≥(a0.1.length:Int))) with
     | true =>
      have q2:=cY h2
      have e:=Eq.refl (fE a0 (v5,v6));conv at e=>rhs;simp only [fE,h0,h1,h2,aK]
      rw [aD,e]
      exact rt (t2++[.d h2]) [] [] hcx (by kernel_rfl)
     | false =>
      have q2:=dU h2
      let t3:List (St Try.prog):=(t2++[.d h2,.i ((a0.2.getD (toNat v6) default).1) (v5.length),.p (show((0+toNat (a0.2.getD (toNat v6) default).1*1)+1≤(flat c4 v5).length) from(gB dM (by first | omega | (simp only [Lt];omega)) (o:=0) (Nb rfl))),.u 0,.T,.i v6 (a0.2.length),.i 1 3 (by decide),.L aP a0.2 v6 1 1])
      cases h3:(decide (((a0.2.getD (toNat v6) default).2.1:Int) < 0)) with
      | true =>
       have q3:=cY h3
       have e:=Eq.refl (fE a0 (v5,v6));conv at e=>rhs;simp only [fE,h0,h1,h2,h3,aK]
       rw [aD,e]
       exact rt (t3++[.d h3]) [] [] hcx (by kernel_rfl)
      | false =>
       have q3:=dU h3
       let t4:List (St Try.prog):=(t3++[.d h3])
       cases h4:(decide (((a0.2.getD (toNat v6) default).2.1:Int)≥(a0.1.length:Int))) with
       | true =>
        have q4:=cY h4
        have e:=Eq.refl (fE a0 (v5,v6));conv at e=>rhs;simp only [fE,h0,h1,h2,h3,h4,aK]
        rw [aD,e]
        exact rt (t4++[.d h4]) [] [] hcx (by kernel_rfl)
       | false =>
        have q4:=dU h4
        let t5:List (St Try.prog):=(t4++[.d h4,.i ((a0.2.getD (toNat v6) default).2.1) (v5.length),.p (show((0+toNat (a0.2.getD (toNat v6) default).2.1*1)+1≤(splice (flat c4 v5) (0+toNat (a0.2.getD (toNat v6) default).1*1) [(.v (.bool true))]).length) from(by rw [show(splice (flat c4 v5) (0+toNat (a0.2.getD (toNat v6) default).1*1) [(.v (.bool true))])=flat c4 (v5.set (toNat (a0.2.getD (toNat v6) default).1) true) from(dL dM (by first | omega | (simp only [Lt];omega)) (o:=0) (d:=default) (Nb rfl) rfl)];exact gB dM (by first | omega | (simp only [Lt];omega)) (o:=0) (Nb rfl))),.u 0,.T,.i v6 (a0.2.length),.i 2 3 (by decide),.L aP a0.2 v6 2 1])
        cases h5:(decide (((a0.2.getD (toNat v6) default).2.2:Int) < 0)) with
        | true =>
         have q5:=cY h5
         have e:=Eq.refl (fE a0 (v5,v6));conv at e=>rhs;simp only [fE,h0,h1,h2,h3,h4,h5,aK]
         rw [aD,e]
         exact rt (t5++[.d h5]) [] [] hcx (by kernel_rfl)
        | false =>
         have q5:=dU h5
         let t6:List (St Try.prog):=(t5++[.d h5])
         cases h6:(decide (((a0.2.getD (toNat v6) default).2.2:Int)≥(a0.1.length:Int))) with
         | true =>
          have q6:=cY h6
          have e:=Eq.refl (fE a0 (v5,v6));conv at e=>rhs;simp only [fE,h0,h1,h2,h3,h4,h5,h6,aK]
          rw [aD,e]
          exact rt (t6++[.d h6]) [] [] hcx (by kernel_rfl)
         | false =>
          have q6:=dU h6
          let t7:List (St Try.prog):=(t6++[.d h6,.i ((a0.2.getD (toNat v6) default).2.2) (v5.length),.p (show((0+toNat (a0.2.getD (toNat v6) default).2.2*1)+1≤(splice (splice (flat c4 v5) (0+toNat (a0.2.getD (toNat v6) default).1*1) [(.v (.bool true))]) (0+toNat (a0.2.getD (toNat v6) default).2.1*1) [(.v (.bool true))]).length) from(by rw [show(splice (splice (flat c4 v5) (0+toNat (a0.2.getD (toNat v6) default).1*1) [(.v (.bool true))]) (0+toNat (a0.2.getD (toNat v6) default).2.1*1) [(.v (.bool true))])=flat c4 ((v5.set (toNat (a0.2.getD (toNat v6) default).1) true).set (toNat (a0.2.getD (toNat v6) default).2.1) true) from(by rw [show(splice (flat c4 v5) (0+toNat (a0.2.getD (toNat v6) default).1*1) [(.v (.bool true))])=flat c4 (v5.set (toNat (a0.2.getD (toNat v6) default).1) true) from(dL dM (by first | omega | (simp only [Lt];omega)) (o:=0) (d:=default) (Nb rfl) rfl)];exact dL dM (by first | omega | (simp only [Lt];omega)) (o:=0) (d:=default) (Nb rfl) rfl)];exact gB dM (by first | omega | (simp only [Lt];omega)) (o:=0) (Nb rfl))),.u 0,.F,.c [0,1] (C76 (a0.1,a0.2) v6 (by(try simp only [Lt]);omega) (by(try simp only [Lt]);omega) (by show 0≤_∧_ < (a0.2.length:Int);omega) (by show inF a0.1.length (a0.2.getD _ default);refine⟨⟨?_,?_⟩,⟨?_,?_⟩,?_,?_⟩<;>omega)),.c [] (C75 (vR (a0.1,a0.2) v6))])
          cases h7:((((F75 (vR (a0.1,a0.2) v6)).1:Int) == 0)&&((((F75 (vR (a0.1,a0.2) v6)).2.1:Int) == 0)&&((((F75 (vR (a0.1,a0.2) v6)).2.2:Int) == 0)&&true))) with
          | true =>
           have e:=Eq.refl (fE a0 (v5,v6));conv at e=>rhs;simp only [fE,h0,h1,h2,h3,h4,h5,h6,h7,aK]
           rw [aD,e]
           exact rt (t7++[.d h7]) [] [] hcx (by kernel_rfl)
          | false =>
           have e:=Eq.refl (fE a0 (v5,v6));conv at e=>rhs;simp only [fE,h0,h1,h2,h3,h4,h5,h6,h7,aK]
           rw [aA e]
           refine ba (t7++[.d h7]) [] [1,5,6] [2,3] hcx (m:=n) aLt (aLu) (aGa a0 (splice (splice (splice (flat c4 v5) (0+toNat (a0.2.getD (toNat v6) default).1*1) [(.v (.bool true))]) (0+toNat (a0.2.getD (toNat v6) default).2.1*1) [(.v (.bool true))]) (0+toNat (a0.2.getD (toNat v6) default).2.2*1) [(.v (.bool true))]) (v5.length) (W (v6+1))) (by kernel_rfl) ?_
           have z0:(W (v6+1))=(v6+1):=aE (by omega) (by omega)
           have z1:(splice (splice (splice (flat c4 v5) (0+toNat (a0.2.getD (toNat v6) default).1*1) [(.v (.bool true))]) (0+toNat (a0.2.getD (toNat v6) default).2.1*1) [(.v (.bool true))]) (0+toNat (a0.2.getD (toNat v6) default).2.2*1) [(.v (.bool true))])=flat c4 (((v5.set (toNat (a0.2.getD (toNat v6) default).1) true).set (toNat (a0.2.getD (toNat v6) default).2.1) true).set (toNat (a0.2.getD (toNat v6) default).2.2) true):=(by rw [show(splice (splice (flat c4 v5) (0+toNat (a0.2.getD (toNat v6) default).1*1) [(.v (.bool true))]) (0+toNat (a0.2.getD (toNat v6) default).2.1*1) [(.v (.bool true))])=flat c4 ((v5.set (toNat (a0.2.getD (toNat v6) default).1) true).set (toNat (a0.2.getD (toNat v6) default).2.1) true) from(by rw [show(splice (flat c4 v5) (0+toNat (a0.2.getD (toNat v6) default).1*1) [(.v (.bool true))])=flat c4 (v5.set (toNat (a0.2.getD (toNat v6) default).1) true) from(dL dM (by first | omega | (simp only [Lt];omega)) (o:=0) (d:=default) (Nb rfl) rfl)];exact dL dM (by first | omega | (simp only [Lt];omega)) (o:=0) (d:=default) (Nb rfl) rfl)];exact dL dM (by first | omega | (simp only [Lt];omega)) (o:=0) (d:=default) (Nb rfl) rfl)
           have z2:v5.length=(((v5.set (toNat (a0.2.getD (toNat v6) default).1) true).set (toNat (a0.2.getD (toNat v6) default).2.1) true).set (toNat (a0.2.getD (toNat v6) default).2.2) true).length:=by simp
           rw [z0,z1,z2]
           exact ih (((v5.set (toNat (a0.2.getD (toNat v6) default).1) true).set (toNat (a0.2.getD (toNat v6) default).2.1) true).set (toNat (a0.2.getD (toNat v6) default).2.2) true) (v6+1) (by refine⟨?_,?_,?_,?_,?_,?_⟩<;>first | omega | assumption | exact gX | exact hi.2.1 | exact hi.2.2.1 | exact fA hi.2.2.1 (by omega) | exact cN hi.2.2.1 hfo | exact cN hi.2.2.1 (by refine⟨⟨?_,?_⟩,⟨?_,?_⟩,?_,?_⟩<;>omega) | (simp only [List.length_replicate,List.length_set];omega)) (by(try simp only [Ls]);omega)
   | false =>
    have q0:=dU h0
    have e:=Eq.refl (fE a0 (v5,v6));conv at e=>rhs;simp only [fE,h0,aK]
    rw [aD,e]
    refine en [.d h0] [] [1,5,9] [2,3] hcx aLr (aLs) (aF9 a0 (flat c4 v5) (v5.length) 0) (toNat ((a0.2.length:Int) - 0)+1) (by kernel_rfl) ?_
    exact aUd a0 l0_1 l0_2 hcx (toNat ((a0.2.length:Int) - 0)+1) v5 0 (by refine⟨?_,?_,?_,?_,?_⟩<;>first | omega | assumption | exact gX | exact hi.2.1 | exact hi.2.2.1 | exact fA hi.2.2.1 (by omega) | exact cN hi.2.2.1 hfo | exact cN hi.2.2.1 (by refine⟨⟨?_,?_⟩,⟨?_,?_⟩,?_,?_⟩<;>omega) | (simp only [List.length_replicate,List.length_set];omega)) (by(try simp only [Ls]);omega)
theorem aUf (a0:Zm)(l0_1:a0.1.length≤9223372036854775807)(l0_2:a0.2.length≤9223372036854775807) {cx:Cx} (hcx:cx.base=2):∀(n:Nat)(v1:Int),(0≤v1)∧(a0.1.length≤64)∧(a0.2.length≤96)→toNat ((a0.1.length:Int) - v1) < n→Aw.Good Try.prog none 9 (bodyPost Try.prog Try.f53 (RR cx (iv (aC (oP a0) n v1)) [] [])) cx [] (.l aHs n::aHt) (aB9 a0 v1):=by
 intro n
 induction n with
 | zero=>intro v1 hi hn;exact absurd hn (jV _)
 | succ n ih =>
   intro v1 hi hn
   refine aJ ?_
   cases h0:(decide ((v1:Int) < (a0.1.length:Int))) with
   | true =>
    have q0:=cY h0
    let t1:List (St Try.prog):=[.d h0,.i v1 (a0.1.length),.L bY a0.1 v1 0 3,.c [] (C74 (a0.1.getD (toNat v1) default) 64)]
    cases h1:(!(F74 (a0.1.getD (toNat v1) default) 64)) with
    | true =>
     have e:=Eq.refl (oP a0 v1);conv at e=>rhs;simp only [oP,h0,h1,aK]
     rw [aD,e]
     exact rt (t1++[.d h1]) [] [] hcx (by kernel_rfl)
    | false =>
     have e:=Eq.refl (oP a0 v1);conv at e=>rhs;simp only [oP,h0,h1,aK]
     rw [aD,e]
     refine en (t1++[.d h1]) [] [1,3,4] [2] hcx aLn (aLo n) (aF7 a0 v1 0) (toNat (v1 - 0)+1) (by kernel_rfl) ?_
     exact aUb a0 l0_1 l0_2 hcx n ih (toNat (v1 - 0)+1) v1 0 (by refine⟨?_,?_,?_,?_,?_,?_⟩<;>(try simp only [Ls])<;>first | omega | assumption | exact hi.2.1 | exact hi.2.2.1 | exact hi.2.2.2.1 | exact hi.2.2.2.2.1 | exact hi.2.2.2.2.2.1 | simp) (by(try simp only [Ls]);omega)
   | false =>
    have q0:=dU h0
    have e:=Eq.refl (oP a0 v1);conv at e=>rhs;simp only [oP,h0,aK]
    rw [aD,e]
    refine en [.d h0,.Z c4 false [(.v (.bool false))] (a0.1.length:Int) 1] [] [1,5,6] [2,3] hcx aLt (aLu) (aGa a0 (flat c4 (List.replicate (toNat (a0.1.length:Int)) false)) (toNat (a0.1.length:Int)) 0) (toNat ((a0.2.length:Int) - 0)+1) (by kernel_rfl) ?_
    have q:=aUe a0 l0_1 l0_2 hcx (toNat ((a0.2.length:Int) - 0)+1) (List.replicate (toNat (a0.1.length:Int)) false) 0 (by refine⟨?_,?_,?_,?_,?_,?_⟩<;>first | omega | assumption | exact gX | exact hi.2.1 | exact hi.2.2.1 | exact fA hi.2.2.1 (by omega) | exact cN hi.2.2.1 hfo | exact cN hi.2.2.1 (by refine⟨⟨?_,?_⟩,⟨?_,?_⟩,?_,?_⟩<;>omega) | (simp only [List.length_replicate,List.length_set];omega)) (by(try simp only [Ls]);omega)
    simp only [List.length_replicate] at q
    exact q
def F53 (a0:Zm):Int :=
 (bif (decide (((a0.1.length:Int):Int) > 64)) then
  4
 else
  (bif (!(F73 (a0.2.length:Int) 1 96)) then
   4
  else
   (aC (oP a0) (toNat ((a0.1.length:Int) - 0)+1) 0)))
theorem C53 (a0:Zm)(l0_1:a0.1.length≤9223372036854775807)(l0_2:a0.2.length≤9223372036854775807):Con Try.prog 53 [(.a [(.s 0 0 a0.1.length 3),(.s 1 0 a0.2.length 3)])] [(.live false true (flat dD a0.1)),(.live false true (flat eE a0.2))] (iv (F53 a0)) []:=by
 refine aL Try.func53 (by kernel_rfl) fun cx hcx=>?_
 try have hl96:=xW h1
 cases h0:(decide (((a0.1.length:Int):Int) > 64)) with
 | true =>
  have q0:=cY h0
  try have hl96:=xW h1
  have e:=Eq.refl (F53 a0);conv at e=>rhs;simp only [F53,h0,aK]
  rw [e]
  exact rt [.d h0] [] [] hcx (by kernel_rfl)
 | false =>
  have q0:=dU h0
  try have hl96:=xW h1
  let t1:List (St Try.prog):=[.d h0,.c [] (C73 (a0.2.length:Int) 1 96)]
  cases h1:(!(F73 (a0.2.length:Int) 1 96)) with
  | true =>
   try have hl96:=xW h1
   have e:=Eq.refl (F53 a0);conv at e=>rhs;simp only [F53,h0,h1,aK]
   rw [e]
   exact rt (t1++[.d h1]) [] [] hcx (by kernel_rfl)
  | false =>
   try have hl96:=xW h1
   have e:=Eq.refl (F53 a0);conv at e=>rhs;simp only [F53,h0,h1,aK]
   rw [e]
   refine en (t1++[.d h1]) [] [1,3] [2] hcx aHs (aHt) (aB9 a0 0) (toNat ((a0.1.length:Int) - 0)+1) (by kernel_rfl) ?_
   exact aUf a0 l0_1 l0_2 hcx (toNat ((a0.1.length:Int) - 0)+1) 0 (by refine⟨?_,?_,?_⟩<;>(try simp only [Ls])<;>first | omega | assumption | simp) (by(try simp only [Ls]);omega)
section
variable {α β : Type} [DecidableEq α]
theorem kJ (e:α×β)(l:List (α×β))(k:α)(d:β):aU (e::l) k d=if e.1=k then e.2 else aU l k d:=by
 unfold aU
 simp only [cT]
 by_cases h:e.1=k
 · rw [if_pos h,if_pos h]
 · rw [if_neg h,if_neg h]
   cases cT k l<;>rfl
theorem aA2 (e:α×β)(l:List (α×β))(k:α)(v:β):bH (e::l) k v=if e.1=k then(k,v)::l else e::bH l k v:=by
 unfold bH
 simp only [cT]
 by_cases h:e.1=k
 · rw [if_pos h,if_pos h];rfl
 · rw [if_neg h,if_neg h]
   cases cT k l<;>rfl
theorem xX:∀(l:List (α×β))(k k':α)(v d:β),aU (bH l k v) k' d=if k=k' then v else aU l k' d
 | [],k,k',v,d=>by
   show aU [(k,v)] k' d=_
   rw [kJ]
 | e::l,k,k',v,d=>by
   rw [aA2]
   by_cases h:e.1=k
   · rw [if_pos h,kJ,kJ]
     by_cases h':k=k'
     · rw [if_pos h',if_pos h']
     · rw [if_neg h',if_neg h',if_neg (fun x=>h' (h▸x))]
   · rw [if_neg h,kJ,kJ,xX l k k' v d]
     by_cases h':k=k'
     · rw [if_neg (fun x=>h (x.trans h'.symm)),if_pos h',if_pos h']
     · rw [if_neg h',if_neg h']
end
theorem cV {α σ R:Type} (g:σ→α→σ):∀(l:List α)(v:σ),jB (R:=R) (fun v c=>.inl (g v c)) l v=.inl (l.foldl g v)
 | [],_=>rfl
 | c::l,v=>by simp only [jB,List.foldl_cons];exact cV g l (g v c)
theorem cH {α:Type} [Inhabited α] {L:List α} {i:Nat} {c:α} (h:L[i]? = some c):L.getD (toNat (i:Int)) default=c:=by
 rw [itn,eG,h];rfl
abbrev ME:=List P3×List P3
def tri (f:P3)(p q:Int):Int:=(if f.1=p∧f.2.1=q then 1 else 0)+(if f.2.1=p∧f.2.2=q then 1 else 0)+(if f.2.2=p∧f.1=q then 1 else 0)
def cnt:List P3→Int→Int→Int
 | [],_,_=>0
 | f::l,p,q=>tri f p q+cnt l p q
end Go.Proofs.Ytaeagjnpobdglaa
namespace Go.Proofs.Ytaeagjnpobdglaa
open Go.Proofs Go.Aw Go.RowKit
set_option maxRecDepth 100000
theorem okl (m:ME)(h64:m.1.length≤64):∀(n:Nat)(v:List Bool)(i:Int),0≤i→toNat ((m.2.length:Int) - i) < n→aC (kI m) n (v,i)=0→∀j:Int,i≤j→j < (m.2.length:Int)→zS m (m.2.getD (toNat j) default)=0:=by
 intro n
 induction n with
 | zero=>intro v i _ h;omega
 | succ n ih =>
   intro v i hi hn h j h1 h2
   have hlt:i < (m.2.length:Int):=by omega
   cases hf:((zS (m.1,m.2) (m.2.getD (toNat i) default):Int) != 0) with
   | true =>
     have e:kI m (v,i)=.inr (zS (m.1,m.2) (m.2.getD (toNat i) default)):=by
       simp only [kI];rw [eK hlt,cond_true,hf,cond_true]
     rw [bU e] at h
     exact absurd h (bne_iff_ne.1 hf)
   | false =>
     by_cases hj:j=i
     · subst hj;exact bne_eq_false_iff_eq.1 hf
     · have e:kI m (v,i)=.inl ((((v.set (toNat (m.2.getD (toNat i) default).1) true).set (toNat (m.2.getD (toNat i) default).2.1) true).set (toNat (m.2.getD (toNat i) default).2.2) true),(i+1)):=by
         simp only [kI];rw [eK hlt,cond_true,hf,cond_false]
       rw [aA e] at h
       exact ih _ (i+1) (by omega) (by omega) h j (by omega) h2
theorem dN {m:ME} (h:cZ m=0):m.1.length≤64∧1≤m.2.length∧m.2.length≤96∧F65 m=0∧∀j:Int,0≤j→j < (m.2.length:Int)→zS m (m.2.getD (toNat j) default)=0:=by
 unfold cZ at h
 by_cases h1:(m.1.length:Int) > 64
 · rw [eK h1,cond_true] at h;exact absurd h (by decide)
 · rw [fN h1,cond_false] at h
   cases h2:(!pI (m.2.length:Int) 1 96) with
   | true=>rw [h2,cond_true] at h;exact absurd h (by decide)
   | false =>
     have g:=fL h2
     rw [h2,cond_false] at h
     cases h3:((F65 (m.1,m.2):Int) != 0) with
     | true=>rw [h3,cond_true] at h;exact absurd h (bne_iff_ne.1 h3)
     | false =>
       rw [h3,cond_false] at h
       exact⟨by omega,by omega,by omega,bne_eq_false_iff_eq.1 h3,fun j h1 h2=>okl m (by omega) _ _ 0 (Int.le_refl 0) (by omega) h j h1 h2⟩
theorem pO {m:ME} (h:((cZ m:Int) != 0)=false):lG m m.2.length∧m.2.length≤96:=by
 obtain⟨h1,_,h3,_,h4⟩:=dN (bne_eq_false_iff_eq.1 h)
 exact⟨fun i g1 g2=>iA (m:=m) (by rw [h4 i g1 g2];rfl) h1,h3⟩
def aV (a0:Zm):(List (Zt×Zt×Zt))×Int :=
 (bif (((cZ (a0.1,a0.2)):Int) != 0) then
  (([]:List (Zt×Zt×Zt)),(cZ (a0.1,a0.2)))
 else
  ((uY (a0.1,a0.2)),0))
theorem C79 (a0:Zm)(l0_1:a0.1.length≤9223372036854775807)(l0_2:a0.2.length≤9223372036854775807):Con Try.prog 79 [(.a [(.s 0 0 a0.1.length 3),(.s 1 0 a0.2.length 3)])] [(.live false true (flat dD a0.1)),(.live false true (flat eE a0.2))] (.t [(.s 2 0 (aV a0).1.length 9),(iv (aV a0).2)]) [(.live true true (flat oD (aV a0).1))]:=by
 refine aL Try.func79 (by kernel_rfl) fun cx hcx=>?_
 let t0:List (St Try.prog):=[.c [0,1] (C31 (a0.1,a0.2) (by(try simp only [Lt]);omega) (by(try simp only [Lt]);omega))]
 cases h0:(((cZ (a0.1,a0.2)):Int) != 0) with
 | true =>
  have q0:=bne_iff_ne.1 h0
  have e:=Eq.refl (aV a0);conv at e=>rhs;simp only [aV,h0,aK]
  rw [e]
  exact rt (t0++[.d h0]) [.slot 2 9] [3] hcx (by kernel_rfl)
 | false =>
  have q0:=bne_eq_false_iff_eq.1 h0
  have e:=Eq.refl (aV a0);conv at e=>rhs;simp only [aV,h0,aK]
  rw [e]
  exact rt (t0++[.d h0,.c [0,1] (C91 (a0.1,a0.2) (by(try simp only [Lt]);omega) (by(try simp only [Lt]);omega) (pO h0).1 (pO h0).2)]) [] [3] hcx (by kernel_rfl)
theorem aQc (m:ME):aV m=bif ((cZ m:Int) != 0) then([],cZ m) else(m.2.map (lP m),0):=by
 unfold aV
 rw [show uY (m.1,m.2)=m.2.map (lP m) from aHr m]
theorem nM (m:ME):(aV m).1.length≤96:=by
 rw [aQc]
 cases h:((cZ m:Int) != 0) with
 | true=>exact Nat.zero_le _
 | false=>rw [cond_false];show(m.2.map _).length≤96;rw [List.length_map];exact(pO h).2
theorem aUg {R:Type} [Inhabited R] {p:Int→Prop} [DecidablePred p] {G:Int→R} {M:Int} {S:Int×Int→(Int×Int)⊕R} (hS:∀k b,0≤k→0 < b→k+b≤M→S (k,b)=if p (k+b) then .inl (k+b,b / 2) else .inl (k,b / 2))(h0:∀k,0≤k→k≤M→S (k,0)=.inr (G k)) :
   ∀(j f:Nat) (k:Int),j+2≤f→0≤k→k+2*2 ^ j≤M→p k→¬p (k+2*2 ^ j)→∃r,0≤r∧r≤M∧p r∧¬p (r+1)∧aC S f (k,2 ^ j)=G r:=by
 intro j
 induction j with
 | zero =>
   intro f k hf hk hb h1 h2
   obtain⟨f,rfl⟩:∃g,f=g+2:=⟨f - 2,by omega⟩
   simp only [Int.pow_zero] at h2 hb ⊢
   have hs:=hS k 1 hk (by omega) (by omega)
   by_cases hc:p (k+1)
   · rw [if_pos hc] at hs
     rw [aA hs,show((1:Int) / 2)=0 by omega,bU (h0 _ (by omega) (by omega))]
     exact⟨k+1,by omega,by omega,hc,by rw [show k+1+1=k+2*1 by omega];exact h2,rfl⟩
   · rw [if_neg hc] at hs
     rw [aA hs,show((1:Int) / 2)=0 by omega,bU (h0 _ hk (by omega))]
     exact⟨k,hk,by omega,h1,hc,rfl⟩
 | succ j ih =>
   intro f k hf hk hb h1 h2
   obtain⟨f,rfl⟩:∃g,f=g+1:=⟨f - 1,by omega⟩
   have hp:(0:Int) < 2 ^ j:=Int.pow_pos (by omega)
   rw [Int.pow_succ] at h2 hb ⊢
   have hs:=hS k (2 ^ j*2) hk (by omega) (by omega)
   have hd:(2:Int) ^ j*2 / 2=2 ^ j:=Int.mul_ediv_cancel _ (by omega)
   rw [hd] at hs
   by_cases hc:p (k+2 ^ j*2)
   · rw [if_pos hc] at hs
     rw [aA hs]
     refine ih f _ (by omega) (by omega) (by omega) hc ?_
     rw [show k+2 ^ j*2+2*2 ^ j=k+2*((2:Int) ^ j*2) by omega];exact h2
   · rw [if_neg hc] at hs
     rw [aA hs]
     refine ih f _ (by omega) hk (by omega) h1 ?_
     rw [show k+2*(2:Int) ^ j=k+2 ^ j*2 by omega];exact hc
theorem aOy {b:Int} (h:0≤b∧b≤1099511627776):W (Int.tdiv b 2)=b / 2:=by rw [Int.tdiv_eq_ediv_of_nonneg (by omega),aE (by omega) (by omega)]
noncomputable def aHu:Code:=(aF [1,1,1,1,1,0,1] [] (aI Try.f33) []).1
noncomputable def aHv:List K:=(aF [1,1,1,1,1,0,1] [] (aI Try.f33) []).2
def aCa (a0:Int)(v1 v2:Int):LS:=⟨jW 70 [(2,(.p 0 0)),(4,(iv (fG a0))),(5,(iv (W ((W (a0 - (W ((fG a0)*(fG a0)))))*2 ^ (min (toNat 40) 64))))),(6,(iv v1)),(7,(iv v2))],[(.live true false [(iv 0),(iv 0)])]⟩
def jO (a0:Int):Int×Int→(Int×Int)⊕((Int×Int)×Int)
 | (v1,v2) =>
  (bif (decide ((v2:Int) > 0)) then
   (bif (decide (((W ((W ((W ((W (2*(fG a0)))*(W (v1+v2))))*2 ^ (min (toNat 20) 64)))+(W ((W (v1+v2))*(W (v1+v2)))))):Int)≤(W ((W (a0 - (W ((fG a0)*(fG a0)))))*2 ^ (min (toNat 40) 64))))) then
    (.inl ((W (v1+v2)),(W (Int.tdiv v2 2))))
   else
    (.inl (v1,(W (Int.tdiv v2 2)))))
  else
   (bif (((W ((W ((W ((W (2*(fG a0)))*v1))*2 ^ (min (toNat 20) 64)))+(W (v1*v1)))):Int) == (W ((W (a0 - (W ((fG a0)*(fG a0)))))*2 ^ (min (toNat 40) 64)))) then
    (.inr ((oA (W ((W ((fG a0)*2 ^ (min (toNat 20) 64)))+v1)) (W ((W ((fG a0)*2 ^ (min (toNat 20) 64)))+v1))).1,(oA (W ((W ((fG a0)*2 ^ (min (toNat 20) 64)))+v1)) (W ((W ((fG a0)*2 ^ (min (toNat 20) 64)))+v1))).2))
   else
    (.inr ((oA (W ((W ((fG a0)*2 ^ (min (toNat 20) 64)))+v1)) (W ((W ((W ((fG a0)*2 ^ (min (toNat 20) 64)))+v1))+1))).1,(oA (W ((W ((fG a0)*2 ^ (min (toNat 20) 64)))+v1)) (W ((W ((W ((fG a0)*2 ^ (min (toNat 20) 64)))+v1))+1))).2))))
theorem aUh (a0:Int) {cx:Cx} (hcx:cx.base=0):∀(n:Nat)(v1 v2:Int),(0≤v2)∧(v2≤1099511627776)→toNat v2 < n→Aw.Good Try.prog none 9 (bodyPost Try.prog Try.f33 (RR cx (.t [(.a (k2 (aC (jO a0) n (v1,v2)).1)),(iv (aC (jO a0) n (v1,v2)).2)]) [] [])) cx [] (.l aHu n::aHv) (aCa a0 v1 v2):=by
 intro n
 induction n with
 | zero=>intro v1 v2 hi hn;exact absurd hn (jV _)
 | succ n ih =>
   intro v1 v2 hi hn
   refine aJ ?_
   have hw1:=aOy (b:=v2) (by omega)
   cases h0:(decide ((v2:Int) > 0)) with
   | true =>
    have q0:=cY h0
    let t1:List (St Try.prog):=[.d h0,.p (show 0≤(20:Int) from by decide)]
    cases h1:(decide (((W ((W ((W ((W (2*(fG a0)))*(W (v1+v2))))*2 ^ (min (toNat 20) 64)))+(W ((W (v1+v2))*(W (v1+v2)))))):Int)≤(W ((W (a0 - (W ((fG a0)*(fG a0)))))*2 ^ (min (toNat 40) 64))))) with
    | true =>
     have q1:=cY h1
     have e:=Eq.refl (jO a0 (v1,v2));conv at e=>rhs;simp only [jO,h0,h1,aK]
     rw [aA e]
     refine ba (t1++[.d h1,.p (show(2:Int)≠0 from by decide)]) [] [2,4,5,6,7] [0] hcx (m:=n) aHu (aHv) (aCa a0 (W (v1+v2)) (W (Int.tdiv v2 2))) (by kernel_rfl) ?_
     exact ih (W (v1+v2)) (W (Int.tdiv v2 2)) (by refine⟨?_,?_⟩<;>(try simp only [Ls])<;>first | omega | assumption | simp) (by(try simp only [Ls]);omega)
    | false =>
     have q1:=dU h1
     have e:=Eq.refl (jO a0 (v1,v2));conv at e=>rhs;simp only [jO,h0,h1,aK]
     rw [aA e]
     refine ba (t1++[.d h1,.p (show(2:Int)≠0 from by decide)]) [] [2,4,5,6,7] [0] hcx (m:=n) aHu (aHv) (aCa a0 v1 (W (Int.tdiv v2 2))) (by kernel_rfl) ?_
     exact ih v1 (W (Int.tdiv v2 2)) (by refine⟨?_,?_⟩<;>(try simp only [Ls])<;>first | omega | assumption | simp) (by(try simp only [Ls]);omega)
   | false =>
    have q0:=dU h0
    let t1:List (St Try.prog):=[.d h0,.p (show 0≤(20:Int) from by decide),.p (show 0≤(20:Int) from by decide)]
    cases h1:(((W ((W ((W ((W (2*(fG a0)))*v1))*2 ^ (min (toNat 20) 64)))+(W (v1*v1)))):Int) == (W ((W (a0 - (W ((fG a0)*(fG a0)))))*2 ^ (min (toNat 40) 64)))) with
    | true =>
     have q1:=eq_of_beq h1
     have e:=Eq.refl (jO a0 (v1,v2));conv at e=>rhs;simp only [jO,h0,h1,aK]
     rw [aD,e]
     exact rt (t1++[.d h1,.c [] (C43 (W ((W ((fG a0)*2 ^ (min (toNat 20) 64)))+v1)) (W ((W ((fG a0)*2 ^ (min (toNat 20) 64)))+v1)))]) [] [] hcx (by kernel_rfl)
    | false =>
     have q1:=ne_of_beq_false h1
     have e:=Eq.refl (jO a0 (v1,v2));conv at e=>rhs;simp only [jO,h0,h1,aK]
     rw [aD,e]
     exact rt (t1++[.d h1,.c [] (C43 (W ((W ((fG a0)*2 ^ (min (toNat 20) 64)))+v1)) (W ((W ((W ((fG a0)*2 ^ (min (toNat 20) 64)))+v1))+1)))]) [] [] hcx (by kernel_rfl)
def pP (a0:Int):(Int×Int)×Int :=
 (bif (decide ((a0:Int) < 0)) then
  ((0,0),1)
 else
  (bif (decide ((a0:Int) > 1099511627776)) then
   ((0,0),1)
  else
   (aC (jO a0) (toNat 524288+1) (0,524288))))
theorem C33 (a0:Int):Con Try.prog 33 [(iv a0)] [] (.t [(.a (k2 (pP a0).1)),(iv (pP a0).2)]) []:=by
 refine aL Try.func33 (by kernel_rfl) fun cx hcx=>?_
 cases h0:(decide ((a0:Int) < 0)) with
 | true =>
  have q0:=cY h0
  have e:=Eq.refl (pP a0);conv at e=>rhs;simp only [pP,h0,aK]
  rw [e]
  exact rt [.d h0] [] [] hcx (by kernel_rfl)
 | false =>
  have q0:=dU h0
  let t1:List (St Try.prog):=[.d h0]
  cases h1:(decide ((a0:Int) > 1099511627776)) with
  | true =>
   have q1:=cY h1
   have e:=Eq.refl (pP a0);conv at e=>rhs;simp only [pP,h0,h1,aK]
   rw [e]
   exact rt (t1++[.d h1]) [] [] hcx (by kernel_rfl)
  | false =>
   have q1:=dU h1
   have e:=Eq.refl (pP a0);conv at e=>rhs;simp only [pP,h0,h1,aK]
   rw [e]
   refine en (t1++[.d h1,.c [] (C69 a0),.p (show 0≤(40:Int) from by decide)]) [] [2,4,5,6,7] [0] hcx aHu (aHv) (aCa a0 0 524288) (toNat 524288+1) (by kernel_rfl) ?_
   exact aUh a0 hcx (toNat 524288+1) 0 524288 (by refine⟨?_,?_⟩<;>(try simp only [Ls])<;>first | omega | assumption | simp) (by(try simp only [Ls]);omega)
def zE (n r:Int):(Int×Int)×Int:=oA r (if r*r=n*1099511627776 then r else r+1)
theorem aLv {n:Int} (h:0≤n∧n≤400000):∃r,IsRt (n*1099511627776) r∧pP n=zE n r:=by
 have ha:=xL (n:=n) h.1 (by omega)
 unfold pP
 rw [fN (by omega),fN (by omega),cond_false,cond_false]
 have hle:fG n≤1000:=ha.le (by omega) (by omega)
 have h0:=ha.1
 have h1:=ha.2.1
 have h2:=ha.2.2
 have p20:(2:Int) ^ (min (toNat 20) 64)=1048576:=by decide
 have p40:(2:Int) ^ (min (toNat 40) 64)=1099511627776:=by decide
 generalize ea:fG n=a at *
 have haa:0≤a*a:=Int.mul_nonneg h0 h0
 have ex:(a+1)*(a+1)=a*a+2*a+1:=by grind
 have key:∀f:Int,0≤f→f≤1048576→W ((W ((W ((W (2*a))*(W f)))*2 ^ (min (toNat 20) 64)))+(W ((W f)*(W f))))=(a*1048576+f)*(a*1048576+f) - a*a*1099511627776:=by
   intro f f0 f1
   have m1:=bG (a:=1000) (b:=1048576) (x:=a) (y:=f) ⟨by omega,by omega⟩ ⟨by omega,by omega⟩
   have m2:=bG (a:=1048576) (b:=1048576) (x:=f) (y:=f) ⟨by omega,by omega⟩ ⟨by omega,by omega⟩
   have e1:2*a*f=2*(a*f):=by grind
   rw [p20,aE (n:=f) (by omega) (by omega),aE (n:=2*a) (by omega) (by omega),e1,aE (n:=2*(a*f)) (by omega) (by omega),aE (n:=2*(a*f)*1048576) (by omega) (by omega),aE (n:=f*f) (by omega) (by omega),aE (by omega) (by omega)]
   grind
 have rest:W ((W (n - (W (a*a))))*2 ^ (min (toNat 40) 64))=n*1099511627776 - a*a*1099511627776:=by
   rw [p40,aE (n:=a*a) (by omega) (by omega),aE (n:=n - a*a) (by omega) (by omega),aE (by omega) (by omega)]
   omega
 have key0:∀f:Int,0≤f→f≤1048576→W ((W ((W ((W (2*a))*f))*2 ^ (min (toNat 20) 64)))+(W (f*f)))=(a*1048576+f)*(a*1048576+f) - a*a*1099511627776:=by
   intro f f0 f1
   have:=key f f0 f1
   rwa [aE (n:=f) (by omega) (by omega)] at this
 have A20:W (a*2 ^ (min (toNat 20) 64))=a*1048576:=by rw [p20,aE (by omega) (by omega)]
 obtain⟨f,f0,f1,g1,g2,e⟩:=aUg (p:=fun f=>(a*1048576+f)*(a*1048576+f)≤n*1099511627776) (G:=fun f=>zE n (a*1048576+f)) (M:=1048576) (S:=jO n) (fun k b hk hb hkb=>by
     simp only [jO,ea]
     rw [eK (show b > 0 from hb),cond_true,key (k+b) (by omega) (by omega),rest,aE (n:=k+b) (by omega) (by omega),Int.tdiv_eq_ediv_of_nonneg (by omega),aE (n:=b / 2) (by omega) (by omega)]
     by_cases hc:(a*1048576+(k+b))*(a*1048576+(k+b))≤n*1099511627776
     · rw [if_pos hc,eK (by omega),cond_true]
     · rw [if_neg hc,fN (by omega),cond_false])
   (fun k hk hk2=>by
     simp only [jO,ea]
     rw [fN (by omega),cond_false,key0 k hk hk2,rest,A20,aE (n:=a*1048576+k) (by omega) (by omega),aE (n:=a*1048576+k+1) (by omega) (by omega)]
     unfold zE
     by_cases hc:(a*1048576+k)*(a*1048576+k)=n*1099511627776
     · rw [if_pos hc,hc,beq_self_eq_true,cond_true]
     · rw [if_neg hc,beq_eq_false_iff_ne.2 (by omega),cond_false])
   19 (toNat 524288+1) 0 (by decide) (by omega) (by decide) (by
     have:(a*1048576+0)*(a*1048576+0)=a*a*1099511627776:=by grind
     omega) (by
     have:(a*1048576+(0+2*2 ^ 19))*(a*1048576+(0+2*2 ^ 19))=(a+1)*(a+1)*1099511627776:=by grind
     rw [this];omega)
 refine⟨a*1048576+f,⟨by omega,g1,?_⟩,e⟩
 rw [show a*1048576+f+1=a*1048576+(f+1) by omega]
 omega
theorem rO {m:ME} (h:((cZ m:Int) != 0)=false):1≤m.1.length∧m.1.length≤64:=by
 obtain⟨h1,h2,h3,_,h4⟩:=dN (bne_eq_false_iff_eq.1 h)
 have:=(pO h).1 0 (Int.le_refl 0) (by omega)
 exact⟨by omega,h1⟩
def qD (a0:Int)(a1:Int)(a2:Int):Bool :=
 (bif (decide ((a0:Int)≥a1)) then
  (decide ((a0:Int)≤a2))
 else
  false)
theorem C32 (a0:Int)(a1:Int)(a2:Int):Con Try.prog 32 [(iv a0),(iv a1),(iv a2)] [] (.v (.bool (qD a0 a1 a2))) []:=by
 refine aL Try.func32 (by kernel_rfl) fun cx hcx=>?_
 cases h0:(decide ((a0:Int)≥a1)) with
 | true =>
  have q0:=cY h0
  have e:=Eq.refl (qD a0 a1 a2);conv at e=>rhs;simp only [qD,h0,aK]
  rw [e]
  exact rt [.d h0] [] [] hcx (by kernel_rfl)
 | false =>
  have q0:=dU h0
  have e:=Eq.refl (qD a0 a1 a2);conv at e=>rhs;simp only [qD,h0,aK]
  rw [e]
  exact rt [.d h0] [] [] hcx (by kernel_rfl)
def F54 (a0:Int)(a1:Int)(a2:Int):Bool :=
 (bif (decide ((a0:Int)≥a1)) then
  (decide ((a0:Int)≤a2))
 else
  false)
theorem C54 (a0:Int)(a1:Int)(a2:Int):Con Try.prog 54 [(iv a0),(iv a1),(iv a2)] [] (.v (.bool (F54 a0 a1 a2))) []:=by
 refine aL Try.func54 (by kernel_rfl) fun cx hcx=>?_
 cases h0:(decide ((a0:Int)≥a1)) with
 | true =>
  have q0:=cY h0
  have e:=Eq.refl (F54 a0 a1 a2);conv at e=>rhs;simp only [F54,h0,aK]
  rw [e]
  exact rt [.d h0] [] [] hcx (by kernel_rfl)
 | false =>
  have q0:=dU h0
  have e:=Eq.refl (F54 a0 a1 a2);conv at e=>rhs;simp only [F54,h0,aK]
  rw [e]
  exact rt [.d h0] [] [] hcx (by kernel_rfl)
theorem mM {d:Int} {a b:Int} (h:(!qD d a b)=false):a≤d∧d≤b:=by
 unfold qD at h
 by_cases h1:d≥a
 · by_cases h2:d≤b
   · exact⟨h1,h2⟩
   · rw [eK h1,fN h2] at h;simp at h
 · rw [fN h1] at h;simp at h
theorem xY {d:Int} {a b:Int} (h:(!F54 d a b)=false):a≤d∧d≤b:=mM h
def c3 (x:Int):List SV:=[(iv x)]
theorem mN (x:Int):(c3 x).length=1:=rfl
noncomputable def aCb:Code:=(aF [1,1,1,1,0,1] [] (aI Try.f55) []).1
noncomputable def aCc:List K:=(aF [1,1,1,1,0,1] [] (aI Try.f55) []).2
def xZ (a0:Zm)(a1:List (Int))(v1 v2:Int):LS:=⟨jW 35 [(6,(iv v1)),(20,(.s 2 0 a1.length 1)),(21,(iv (a1.length:Int))),(22,(iv v2))],[(.live false true (flat dD a0.1)),(.live false true (flat eE a0.2)),(.live false true (flat c3 a1))]⟩
def fB (a0:Zm)(a1:List (Int)):Int×Int→(Int×Int)⊕(Int)
 | (v1,v2) =>
  (bif (decide ((v2:Int) < (a1.length:Int))) then
   (bif (!(qD (a1.getD (toNat v2) default) 0 100)) then
    (.inr 1)
   else
    (.inl ((W (v1+(a1.getD (toNat v2) default))),(v2+1))))
  else
   (bif ((v1:Int) == 0) then
    (.inr 11)
   else
    (.inr 0)))
theorem aOz (a0:Zm)(a1:List (Int))(l0_1:a0.1.length≤9223372036854775807)(l0_2:a0.2.length≤9223372036854775807)(l1:a1.length≤9223372036854775807) {cx:Cx} (hcx:cx.base=3):∀(n:Nat)(v1 v2:Int),0≤v2→toNat ((a1.length:Int) - v2) < n→Aw.Good Try.prog none 9 (bodyPost Try.prog Try.f55 (RR cx (iv (aC (fB a0 a1) n (v1,v2))) [] [])) cx [] (.l aCb n::aCc) (xZ a0 a1 v1 v2):=by
 intro n
 induction n with
 | zero=>intro v1 v2 hi hn;exact absurd hn (jV _)
 | succ n ih =>
   intro v1 v2 hi hn
   refine aJ ?_
   cases h0:(decide ((v2:Int) < (a1.length:Int))) with
   | true =>
    have q0:=cY h0
    let t1:List (St Try.prog):=[.d h0,.i v2 (a1.length),.L mN a1 v2 0 1,.c [] (C32 (a1.getD (toNat v2) default) 0 100)]
    cases h1:(!(qD (a1.getD (toNat v2) default) 0 100)) with
    | true =>
     have e:=Eq.refl (fB a0 a1 (v1,v2));conv at e=>rhs;simp only [fB,h0,h1,aK]
     rw [aD,e]
     exact rt (t1++[.d h1]) [] [] hcx (by kernel_rfl)
    | false =>
     have e:=Eq.refl (fB a0 a1 (v1,v2));conv at e=>rhs;simp only [fB,h0,h1,aK]
     rw [aA e]
     refine ba (t1++[.d h1]) [] [6,20,21,22] [] hcx (m:=n) aCb (aCc) (xZ a0 a1 (W (v1+(a1.getD (toNat v2) default))) (W (v2+1))) (by kernel_rfl) ?_
     have z0:(W (v2+1))=(v2+1):=aE (by omega) (by omega)
     rw [z0]
     exact ih (W (v1+(a1.getD (toNat v2) default))) (v2+1) (by(try simp only [Ls]);omega) (by(try simp only [Ls]);omega)
   | false =>
    have q0:=dU h0
    let t1:List (St Try.prog):=[.d h0]
    cases h1:((v1:Int) == 0) with
    | true =>
     have q1:=eq_of_beq h1
     have e:=Eq.refl (fB a0 a1 (v1,v2));conv at e=>rhs;simp only [fB,h0,h1,aK]
     rw [aD,e]
     exact rt (t1++[.d h1]) [] [] hcx (by kernel_rfl)
    | false =>
     have q1:=ne_of_beq_false h1
     have e:=Eq.refl (fB a0 a1 (v1,v2));conv at e=>rhs;simp only [fB,h0,h1,aK]
     rw [aD,e]
     exact rt (t1++[.d h1]) [] [] hcx (by kernel_rfl)
def kK (a0:Zm)(a1:List (Int)):Int :=
 (bif (((cZ (a0.1,a0.2)):Int) != 0) then
  (cZ (a0.1,a0.2))
 else
  (bif (((a1.length:Int):Int) != (a0.2.length:Int)) then
   1
  else
   (aC (fB a0 a1) (toNat ((a1.length:Int) - 0)+1) (0,0))))
theorem aUi (a0:Zm)(a1:List (Int))(l0_1:a0.1.length≤9223372036854775807)(l0_2:a0.2.length≤9223372036854775807)(l1:a1.length≤9223372036854775807):Con Try.prog 55 [(.a [(.s 0 0 a0.1.length 3),(.s 1 0 a0.2.length 3)]),(.s 2 0 a1.length 1)] [(.live false true (flat dD a0.1)),(.live false true (flat eE a0.2)),(.live false true (flat c3 a1))] (iv (kK a0 a1)) []:=by
 refine aL Try.func55 (by kernel_rfl) fun cx hcx=>?_
 let t0:List (St Try.prog):=[.c [0,1] (C31 (a0.1,a0.2) (by(try simp only [Lt]);omega) (by(try simp only [Lt]);omega))]
 cases h0:(((cZ (a0.1,a0.2)):Int) != 0) with
 | true =>
  have q0:=bne_iff_ne.1 h0
  have e:=Eq.refl (kK a0 a1);conv at e=>rhs;simp only [kK,h0,aK]
  rw [e]
  exact rt (t0++[.d h0]) [] [] hcx (by kernel_rfl)
 | false =>
  have q0:=bne_eq_false_iff_eq.1 h0
  let t1:List (St Try.prog):=(t0++[.d h0])
  cases h1:(((a1.length:Int):Int) != (a0.2.length:Int)) with
  | true =>
   have q1:=bne_iff_ne.1 h1
   have e:=Eq.refl (kK a0 a1);conv at e=>rhs;simp only [kK,h0,h1,aK]
   rw [e]
   exact rt (t1++[.d h1]) [] [] hcx (by kernel_rfl)
  | false =>
   have q1:=bne_eq_false_iff_eq.1 h1
   have e:=Eq.refl (kK a0 a1);conv at e=>rhs;simp only [kK,h0,h1,aK]
   rw [e]
   refine en (t1++[.d h1]) [] [6,20,21,22] [] hcx aCb (aCc) (xZ a0 a1 0 0) (toNat ((a1.length:Int) - 0)+1) (by kernel_rfl) ?_
   exact aOz a0 a1 l0_1 l0_2 l1 hcx (toNat ((a1.length:Int) - 0)+1) 0 0 (by(try simp only [Ls]);omega) (by(try simp only [Ls]);omega)
def fQ (a0:Zm)(a1:List (Int))(a2:Int):Int :=
 (bif (((kK (a0.1,a0.2) a1):Int) != 0) then
  (kK (a0.1,a0.2) a1)
 else
  (bif (!(qD a2 0 2)) then
   1
  else
   0))
theorem aUj (a0:Zm)(a1:List (Int))(a2:Int)(l0_1:a0.1.length≤9223372036854775807)(l0_2:a0.2.length≤9223372036854775807)(l1:a1.length≤9223372036854775807):Con Try.prog 28 [(.a [(.s 0 0 a0.1.length 3),(.s 1 0 a0.2.length 3)]),(.s 2 0 a1.length 1),(iv a2)] [(.live false true (flat dD a0.1)),(.live false true (flat eE a0.2)),(.live false true (flat c3 a1))] (iv (fQ a0 a1 a2)) []:=by
 refine aL Try.func28 (by kernel_rfl) fun cx hcx=>?_
 let t0:List (St Try.prog):=[.c [0,1,2] (aUi (a0.1,a0.2) a1 (by(try simp only [Lt]);omega) (by(try simp only [Lt]);omega) (by omega))]
 cases h0:(((kK (a0.1,a0.2) a1):Int) != 0) with
 | true =>
  have q0:=bne_iff_ne.1 h0
  have e:=Eq.refl (fQ a0 a1 a2);conv at e=>rhs;simp only [fQ,h0,aK]
  rw [e]
  exact rt (t0++[.d h0]) [] [] hcx (by kernel_rfl)
 | false =>
  have q0:=bne_eq_false_iff_eq.1 h0
  let t1:List (St Try.prog):=(t0++[.d h0,.c [] (C32 a2 0 2)])
  cases h1:(!(qD a2 0 2)) with
  | true =>
   have e:=Eq.refl (fQ a0 a1 a2);conv at e=>rhs;simp only [fQ,h0,h1,aK]
   rw [e]
   exact rt (t1++[.d h1]) [] [] hcx (by kernel_rfl)
  | false =>
   have e:=Eq.refl (fQ a0 a1 a2);conv at e=>rhs;simp only [fQ,h0,h1,aK]
   rw [e]
   exact rt (t1++[.d h1]) [] [] hcx (by kernel_rfl)
def F86 (a0:Int):Int×Int :=
 (bif (decide ((a0:Int) > 1099511627776)) then
  (0,4)
 else
  (a0,0))
theorem C86 (a0:Int):Con Try.prog 86 [(iv a0)] [] (.t (k2 (F86 a0))) []:=by
 refine aL Try.func86 (by kernel_rfl) fun cx hcx=>?_
 cases h0:(decide ((a0:Int) > 1099511627776)) with
 | true =>
  have q0:=cY h0
  have e:=Eq.refl (F86 a0);conv at e=>rhs;simp only [F86,h0,aK]
  rw [e]
  exact rt [.d h0] [] [] hcx (by kernel_rfl)
 | false =>
  have q0:=dU h0
  have e:=Eq.refl (F86 a0);conv at e=>rhs;simp only [F86,h0,aK]
  rw [e]
  exact rt [.d h0] [] [] hcx (by kernel_rfl)
noncomputable def aCd:Code:=(aF [1,1,0,1] [] (aI Try.f87) []).1
noncomputable def aCe:List K:=(aF [1,1,0,1] [] (aI Try.f87) []).2
def yA (a0:List (Int))(v1 v2:Int):LS:=⟨jW 19 [(3,(iv v1)),(6,(.s 0 0 a0.length 1)),(7,(iv (a0.length:Int))),(8,(iv v2))],[(.live false true (flat c3 a0))]⟩
def jP (a0:List (Int)):Int×Int→(Int×Int)⊕(Int)
 | (v1,v2) =>
  (bif (decide ((v2:Int) < (a0.length:Int))) then
   (.inl ((W (v1+(a0.getD (toNat v2) default))),(v2+1)))
  else
   (.inr (W ((W (v1*1048576))*1048576))))
theorem aO0 (a0:List (Int))(l0:a0.length≤9223372036854775807) {cx:Cx} (hcx:cx.base=1):∀(n:Nat)(v1 v2:Int),0≤v2→toNat ((a0.length:Int) - v2) < n→Aw.Good Try.prog none 9 (bodyPost Try.prog Try.f87 (RR cx (iv (aC (jP a0) n (v1,v2))) [] [])) cx [] (.l aCd n::aCe) (yA a0 v1 v2):=by
 intro n
 induction n with
 | zero=>intro v1 v2 hi hn;exact absurd hn (jV _)
 | succ n ih =>
   intro v1 v2 hi hn
   refine aJ ?_
   cases h0:(decide ((v2:Int) < (a0.length:Int))) with
   | true =>
    have q0:=cY h0
    have e:=Eq.refl (jP a0 (v1,v2));conv at e=>rhs;simp only [jP,h0,aK]
    rw [aA e]
    refine ba [.d h0,.i v2 (a0.length),.L mN a0 v2 0 1] [] [3,6,7,8] [] hcx (m:=n) aCd (aCe) (yA a0 (W (v1+(a0.getD (toNat v2) default))) (W (v2+1))) (by kernel_rfl) ?_
    have z0:(W (v2+1))=(v2+1):=aE (by omega) (by omega)
    rw [z0]
    exact ih (W (v1+(a0.getD (toNat v2) default))) (v2+1) (by(try simp only [Ls]);omega) (by(try simp only [Ls]);omega)
   | false =>
    have q0:=dU h0
    have e:=Eq.refl (jP a0 (v1,v2));conv at e=>rhs;simp only [jP,h0,aK]
    rw [aD,e]
    exact rt [.d h0] [] [] hcx (by kernel_rfl)
def cI (a0:List (Int)):Int :=
 (aC (jP a0) (toNat ((a0.length:Int) - 0)+1) (0,0))
theorem aLw (a0:List (Int))(l0:a0.length≤9223372036854775807):Con Try.prog 87 [(.s 0 0 a0.length 1)] [(.live false true (flat c3 a0))] (iv (cI a0)) []:=by
 refine aL Try.func87 (by kernel_rfl) fun cx hcx=>?_
 have e:=Eq.refl (cI a0);conv at e=>rhs;simp only [cI]
 rw [e]
 refine en [] [] [3,6,7,8] [] hcx aCd (aCe) (yA a0 0 0) (toNat ((a0.length:Int) - 0)+1) (by kernel_rfl) ?_
 exact aO0 a0 l0 hcx (toNat ((a0.length:Int) - 0)+1) 0 0 (by(try simp only [Ls]);omega) (by(try simp only [Ls]);omega)
noncomputable def aRm:Code:=(aF [1,1,1,1,0,1] [] (aI Try.f9) []).1
noncomputable def aRn:List K:=(aF [1,1,1,1,0,1] [] (aI Try.f9) []).2
def aLx (a0:Zm)(a1:Zt)(v1 v2:Int):LS:=⟨jW 82 [(3,(.p 2 0)),(9,(iv v1)),(39,(.s 0 0 a0.1.length 3)),(40,(iv (a0.1.length:Int))),(41,(iv v2))],[(.live false true (flat dD a0.1)),(.live false true (flat eE a0.2)),(.live true false (k3 a1))]⟩
def tB (a0:Zm)(a1:Zt):Int×Int→(Int×Int)⊕(Int×Int)
 | (v1,v2) =>
  (bif (decide ((v2:Int) < (a0.1.length:Int))) then
   (.inl ((nY v1 (W ((W ((W ((W ((a0.1.getD (toNat v2) default).1 - a1.1))*(W ((a0.1.getD (toNat v2) default).1 - a1.1))))+(W ((W ((a0.1.getD (toNat v2) default).2.1 - a1.2.1))*(W ((a0.1.getD (toNat v2) default).2.1 - a1.2.1))))))+(W ((W ((a0.1.getD (toNat v2) default).2.2 - a1.2.2))*(W ((a0.1.getD (toNat v2) default).2.2 - a1.2.2))))))),(v2+1)))
  else
   (.inr ((pP v1).1.2,(pP v1).2)))
theorem aWj (a0:Zm)(a1:Zt)(l0_1:a0.1.length≤9223372036854775807)(l0_2:a0.2.length≤9223372036854775807) {cx:Cx} (hcx:cx.base=2):∀(n:Nat)(v1 v2:Int),0≤v2→toNat ((a0.1.length:Int) - v2) < n→Aw.Good Try.prog none 9 (bodyPost Try.prog Try.f9 (RR cx (.t (k2 (aC (tB a0 a1) n (v1,v2)))) [] [])) cx [] (.l aRm n::aRn) (aLx a0 a1 v1 v2):=by
 intro n
 induction n with
 | zero=>intro v1 v2 hi hn;exact absurd hn (jV _)
 | succ n ih =>
   intro v1 v2 hi hn
   refine aJ ?_
   cases h0:(decide ((v2:Int) < (a0.1.length:Int))) with
   | true =>
    have q0:=cY h0
    have e:=Eq.refl (tB a0 a1 (v1,v2));conv at e=>rhs;simp only [tB,h0,aK]
    rw [aA e]
    refine ba [.d h0,.i v2 (a0.1.length),.L bY a0.1 v2 0 3] [] [3,9,39,40,41] [2] hcx (m:=n) aRm (aRn) (aLx a0 a1 (nY v1 (W ((W ((W ((W ((a0.1.getD (toNat v2) default).1 - a1.1))*(W ((a0.1.getD (toNat v2) default).1 - a1.1))))+(W ((W ((a0.1.getD (toNat v2) default).2.1 - a1.2.1))*(W ((a0.1.getD (toNat v2) default).2.1 - a1.2.1))))))+(W ((W ((a0.1.getD (toNat v2) default).2.2 - a1.2.2))*(W ((a0.1.getD (toNat v2) default).2.2 - a1.2.2))))))) (W (v2+1))) (by kernel_rfl) ?_
    have z0:(W (v2+1))=(v2+1):=aE (by omega) (by omega)
    rw [z0]
    exact ih (nY v1 (W ((W ((W ((W ((a0.1.getD (toNat v2) default).1 - a1.1))*(W ((a0.1.getD (toNat v2) default).1 - a1.1))))+(W ((W ((a0.1.getD (toNat v2) default).2.1 - a1.2.1))*(W ((a0.1.getD (toNat v2) default).2.1 - a1.2.1))))))+(W ((W ((a0.1.getD (toNat v2) default).2.2 - a1.2.2))*(W ((a0.1.getD (toNat v2) default).2.2 - a1.2.2))))))) (v2+1) (by(try simp only [Ls]);omega) (by(try simp only [Ls]);omega)
   | false =>
    have q0:=dU h0
    have e:=Eq.refl (tB a0 a1 (v1,v2));conv at e=>rhs;simp only [tB,h0,aK]
    rw [aD,e]
    exact rt [.d h0,.c [] (C33 v1)] [] [] hcx (by kernel_rfl)
def F9 (a0:Zm)(a1:Zt):Int×Int :=
 (bif (((cZ (a0.1,a0.2)):Int) != 0) then
  (0,(cZ (a0.1,a0.2)))
 else
  (bif (!(qD a1.1 (-256) 256)) then
   (0,1)
  else
   (bif (!(qD a1.2.1 (-256) 256)) then
    (0,1)
   else
    (bif (!(qD a1.2.2 (-256) 256)) then
     (0,1)
    else
     (aC (tB a0 a1) (toNat ((a0.1.length:Int) - 0)+1) (0,0))))))
theorem C9 (a0:Zm)(a1:Zt)(l0_1:a0.1.length≤9223372036854775807)(l0_2:a0.2.length≤9223372036854775807):Con Try.prog 9 [(.a [(.s 0 0 a0.1.length 3),(.s 1 0 a0.2.length 3)]),(.a (k3 a1))] [(.live false true (flat dD a0.1)),(.live false true (flat eE a0.2))] (.t (k2 (F9 a0 a1))) []:=by
 refine aL Try.func9 (by kernel_rfl) fun cx hcx=>?_
 let t0:List (St Try.prog):=[.c [0,1] (C31 (a0.1,a0.2) (by(try simp only [Lt]);omega) (by(try simp only [Lt]);omega))]
 cases h0:(((cZ (a0.1,a0.2)):Int) != 0) with
 | true =>
  have q0:=bne_iff_ne.1 h0
  have e:=Eq.refl (F9 a0 a1);conv at e=>rhs;simp only [F9,h0,aK]
  rw [e]
  exact rt (t0++[.d h0]) [] [] hcx (by kernel_rfl)
 | false =>
  have q0:=bne_eq_false_iff_eq.1 h0
  let t1:List (St Try.prog):=(t0++[.d h0,.u 200,.T,.i 0 3 (by decide),.c [] (C32 a1.1 (-256) 256)])
  cases h1:(!(qD a1.1 (-256) 256)) with
  | true =>
   have e:=Eq.refl (F9 a0 a1);conv at e=>rhs;simp only [F9,h0,h1,aK]
   rw [e]
   exact rt (t1++[.d h1]) [] [] hcx (by kernel_rfl)
  | false =>
   let t2:List (St Try.prog):=(t1++[.d h1,.u 0,.T,.i 1 3 (by decide),.c [] (C32 a1.2.1 (-256) 256)])
   cases h2:(!(qD a1.2.1 (-256) 256)) with
   | true =>
    have e:=Eq.refl (F9 a0 a1);conv at e=>rhs;simp only [F9,h0,h1,h2,aK]
    rw [e]
    exact rt (t2++[.d h2]) [] [] hcx (by kernel_rfl)
   | false =>
    let t3:List (St Try.prog):=(t2++[.d h2,.u 0,.T,.i 2 3 (by decide),.c [] (C32 a1.2.2 (-256) 256)])
    cases h3:(!(qD a1.2.2 (-256) 256)) with
    | true =>
     have e:=Eq.refl (F9 a0 a1);conv at e=>rhs;simp only [F9,h0,h1,h2,h3,aK]
     rw [e]
     exact rt (t3++[.d h3]) [] [] hcx (by kernel_rfl)
    | false =>
     have e:=Eq.refl (F9 a0 a1);conv at e=>rhs;simp only [F9,h0,h1,h2,h3,aK]
     rw [e]
     refine en (t3++[.d h3,.u 0,.F]) [] [3,9,39,40,41] [3] hcx aRm (aRn) (aLx a0 a1 0 0) (toNat ((a0.1.length:Int) - 0)+1) (by kernel_rfl) ?_
     exact aWj a0 a1 l0_1 l0_2 hcx (toNat ((a0.1.length:Int) - 0)+1) 0 0 (by(try simp only [Ls]);omega) (by(try simp only [Ls]);omega)
noncomputable def aLy:Code:=(aF [1,1,1,0,1] [] (aI Try.f59) []).1
noncomputable def aLz:List K:=(aF [1,1,1,0,1] [] (aI Try.f59) []).2
def aGb (a0:Zm)(v1 v2 v3 v4 v5 v6 v7:Int):LS:=⟨jW 65 [(2,(.p 2 0)),(3,(.p 3 0)),(24,(.s 0 0 a0.1.length 3)),(25,(iv (a0.1.length:Int))),(26,(iv v1))],[(.live false true (flat dD a0.1)),(.live false true (flat eE a0.2)),(.live true false [(iv v2),(iv v3),(iv v4)]),(.live true false [(iv v5),(iv v6),(iv v7)])]⟩
def mO (a0:Zm):Int×Int×Int×Int×Zt→(Int×Int×Int×Int×Zt)⊕(Zt×Zt×Int)
 | (v1,v2,v3,v4,v5,v6,v7) =>
  (bif (decide ((v1:Int) < (a0.1.length:Int))) then
   (.inl ((v1+1),(if((a0.1.getD (toNat v1) default).1:Int) < v2 then(a0.1.getD (toNat v1) default).1 else v2),(if((a0.1.getD (toNat v1) default).2.1:Int) < v3 then(a0.1.getD (toNat v1) default).2.1 else v3),(if((a0.1.getD (toNat v1) default).2.2:Int) < v4 then(a0.1.getD (toNat v1) default).2.2 else v4),(if(v5:Int) < (a0.1.getD (toNat v1) default).1 then(a0.1.getD (toNat v1) default).1 else v5),(if(v6:Int) < (a0.1.getD (toNat v1) default).2.1 then(a0.1.getD (toNat v1) default).2.1 else v6),(if(v7:Int) < (a0.1.getD (toNat v1) default).2.2 then(a0.1.getD (toNat v1) default).2.2 else v7)))
  else
   (.inr ((v2,v3,v4),(v5,v6,v7),0)))
theorem aUk (a0:Zm)(l0_1:a0.1.length≤9223372036854775807)(l0_2:a0.2.length≤9223372036854775807) {cx:Cx} (hcx:cx.base=2):∀(n:Nat)(v1 v2 v3 v4 v5 v6 v7:Int),0≤v1→toNat ((a0.1.length:Int) - v1) < n→Aw.Good Try.prog none 9 (bodyPost Try.prog Try.f59 (RR cx (.t [(.a (k3 (aC (mO a0) n (v1,v2,v3,v4,v5,v6,v7)).1)),(.a (k3 (aC (mO a0) n (v1,v2,v3,v4,v5,v6,v7)).2.1)),(iv (aC (mO a0) n (v1,v2,v3,v4,v5,v6,v7)).2.2)]) [] [])) cx [] (.l aLy n::aLz) (aGb a0 v1 v2 v3 v4 v5 v6 v7):=by
 intro n
 induction n with
 | zero=>intro v1 v2 v3 v4 v5 v6 v7 hi hn;exact absurd hn (jV _)
 | succ n ih =>
   intro v1 v2 v3 v4 v5 v6 v7 hi hn
   refine aJ ?_
   cases h0:(decide ((v1:Int) < (a0.1.length:Int))) with
   | true =>
    have q0:=cY h0
    have e:=Eq.refl (mO a0 (v1,v2,v3,v4,v5,v6,v7));conv at e=>rhs;simp only [mO,h0,aK]
    rw [aA e]
    refine ba [.d h0,.i v1 (a0.1.length),.L bY a0.1 v1 0 3] [] [2,3,24,25,26] [2,3] hcx (m:=n) aLy (aLz) (aGb a0 (W (v1+1)) (if((a0.1.getD (toNat v1) default).1:Int) < v2 then(a0.1.getD (toNat v1) default).1 else v2) (if((a0.1.getD (toNat v1) default).2.1:Int) < v3 then(a0.1.getD (toNat v1) default).2.1 else v3) (if((a0.1.getD (toNat v1) default).2.2:Int) < v4 then(a0.1.getD (toNat v1) default).2.2 else v4) (if(v5:Int) < (a0.1.getD (toNat v1) default).1 then(a0.1.getD (toNat v1) default).1 else v5) (if(v6:Int) < (a0.1.getD (toNat v1) default).2.1 then(a0.1.getD (toNat v1) default).2.1 else v6) (if(v7:Int) < (a0.1.getD (toNat v1) default).2.2 then(a0.1.getD (toNat v1) default).2.2 else v7)) (by kernel_rfl) ?_
    have z0:(W (v1+1))=(v1+1):=aE (by omega) (by omega)
    rw [z0]
    exact ih (v1+1) (if((a0.1.getD (toNat v1) default).1:Int) < v2 then(a0.1.getD (toNat v1) default).1 else v2) (if((a0.1.getD (toNat v1) default).2.1:Int) < v3 then(a0.1.getD (toNat v1) default).2.1 else v3) (if((a0.1.getD (toNat v1) default).2.2:Int) < v4 then(a0.1.getD (toNat v1) default).2.2 else v4) (if(v5:Int) < (a0.1.getD (toNat v1) default).1 then(a0.1.getD (toNat v1) default).1 else v5) (if(v6:Int) < (a0.1.getD (toNat v1) default).2.1 then(a0.1.getD (toNat v1) default).2.1 else v6) (if(v7:Int) < (a0.1.getD (toNat v1) default).2.2 then(a0.1.getD (toNat v1) default).2.2 else v7) (by(try simp only [Ls]);omega) (by(try simp only [Ls]);omega)
   | false =>
    have q0:=dU h0
    have e:=Eq.refl (mO a0 (v1,v2,v3,v4,v5,v6,v7));conv at e=>rhs;simp only [mO,h0,aK]
    rw [aD,e]
    exact rt [.d h0] [] [] hcx (by kernel_rfl)
def oQ (a0:Zm):Zt×Zt×Int :=
 (bif (((cZ (a0.1,a0.2)):Int) != 0) then
  ((0,0,0),(0,0,0),(cZ (a0.1,a0.2)))
 else
  (aC (mO a0) (toNat ((a0.1.length:Int) - 0)+1) (0,(a0.1.getD (toNat 0) default).1,(a0.1.getD (toNat 0) default).2.1,(a0.1.getD (toNat 0) default).2.2,(a0.1.getD (toNat 0) default).1,(a0.1.getD (toNat 0) default).2.1,(a0.1.getD (toNat 0) default).2.2)))
theorem C59 (a0:Zm)(l0_1:a0.1.length≤9223372036854775807)(l0_2:a0.2.length≤9223372036854775807):Con Try.prog 59 [(.a [(.s 0 0 a0.1.length 3),(.s 1 0 a0.2.length 3)])] [(.live false true (flat dD a0.1)),(.live false true (flat eE a0.2))] (.t [(.a (k3 (oQ a0).1)),(.a (k3 (oQ a0).2.1)),(iv (oQ a0).2.2)]) []:=by
 refine aL Try.func59 (by kernel_rfl) fun cx hcx=>?_
 try have hp1:1≤a0.1.length:=(rO h0).1
 let t0:List (St Try.prog):=[.c [0,1] (C31 (a0.1,a0.2) (by(try simp only [Lt]);omega) (by(try simp only [Lt]);omega))]
 cases h0:(((cZ (a0.1,a0.2)):Int) != 0) with
 | true =>
  have q0:=bne_iff_ne.1 h0
  try have hp1:1≤a0.1.length:=(rO h0).1
  have e:=Eq.refl (oQ a0);conv at e=>rhs;simp only [oQ,h0,aK]
  rw [e]
  exact rt (t0++[.d h0]) [] [] hcx (by kernel_rfl)
 | false =>
  have q0:=bne_eq_false_iff_eq.1 h0
  try have hp1:1≤a0.1.length:=(rO h0).1
  have e:=Eq.refl (oQ a0);conv at e=>rhs;simp only [oQ,h0,aK]
  rw [e]
  refine en (t0++[.d h0,.i 0 (a0.1.length),.L bY a0.1 0 0 3,.i 0 (a0.1.length),.L bY a0.1 0 0 3]) [] [2,3,24,25,26] [3,4] hcx aLy (aLz) (aGb a0 0 ((a0.1.getD (toNat 0) default).1) ((a0.1.getD (toNat 0) default).2.1) ((a0.1.getD (toNat 0) default).2.2) ((a0.1.getD (toNat 0) default).1) ((a0.1.getD (toNat 0) default).2.1) ((a0.1.getD (toNat 0) default).2.2)) (toNat ((a0.1.length:Int) - 0)+1) (by kernel_rfl) ?_
  exact aUk a0 l0_1 l0_2 hcx (toNat ((a0.1.length:Int) - 0)+1) 0 ((a0.1.getD (toNat 0) default).1) ((a0.1.getD (toNat 0) default).2.1) ((a0.1.getD (toNat 0) default).2.2) ((a0.1.getD (toNat 0) default).1) ((a0.1.getD (toNat 0) default).2.1) ((a0.1.getD (toNat 0) default).2.2) (by(try simp only [Ls]);omega) (by(try simp only [Ls]);omega)
noncomputable def aL0:Code:=(aF [1,1,0,1] [] (aI Try.f39) []).1
noncomputable def aL1:List K:=(aF [1,1,0,1] [] (aI Try.f39) []).2
def aGc (a0:Zm)(v1c:List SV)(v1n:Nat)(v2:Int):LS:=⟨jW 19 [(3,(.s 2 0 v1n 1)),(10,(iv (((toNat (a0.2.length:Int)):Nat):Int))),(11,(iv v2))],[(.live false true (flat dD a0.1)),(.live false true (flat eE a0.2)),(.live true true v1c)]⟩
def oR (a0:Zm):List (Int)×Int→(List (Int)×Int)⊕(List (Int))
 | (v1,v2) =>
  (bif (decide ((v2:Int) < (((toNat (a0.2.length:Int)):Nat):Int))) then
   (.inl ((v1.set (toNat v2) 1),(v2+1)))
  else
   (.inr v1))
theorem aUl (a0:Zm)(l0_1:a0.1.length≤9223372036854775807)(l0_2:a0.2.length≤9223372036854775807)(hn:a0.2.length≤96) {cx:Cx} (hcx:cx.base=2):∀(n:Nat)(v1:List (Int))(v2:Int),(0≤v2)∧(v1.length=a0.2.length)→toNat ((((toNat (a0.2.length:Int)):Nat):Int) - v2) < n→Aw.Good Try.prog none 9 (bodyPost Try.prog Try.f39 (RR cx (.s 2 0 (aC (oR a0) n (v1,v2)).length 1) [(.live true true (flat c3 (aC (oR a0) n (v1,v2))))] [])) cx [] (.l aL0 n::aL1) (aGc a0 (flat c3 v1) v1.length v2):=by
 intro n
 induction n with
 | zero=>intro v1 v2 hi hn;exact absurd hn (jV _)
 | succ n ih =>
   intro v1 v2 hi hn
   refine aJ ?_
   cases h0:(decide ((v2:Int) < (((toNat (a0.2.length:Int)):Nat):Int))) with
   | true =>
    have q0:=cY h0
    have e:=Eq.refl (oR a0 (v1,v2));conv at e=>rhs;simp only [oR,h0,aK]
    rw [aA e]
    refine ba [.d h0,.i v2 (v1.length),.p (show((0+toNat v2*1)+1≤(flat c3 v1).length) from(gB mN (by first | omega | (simp only [Lt];omega)) (o:=0) (Nb rfl)))] [] [3,10,11] [2] hcx (m:=n) aL0 (aL1) (aGc a0 (splice (flat c3 v1) (0+toNat v2*1) [(iv 1)]) (v1.length) (W (v2+1))) (by kernel_rfl) ?_
    have z0:(W (v2+1))=(v2+1):=aE (by omega) (by omega)
    have z1:(splice (flat c3 v1) (0+toNat v2*1) [(iv 1)])=flat c3 (v1.set (toNat v2) 1):=(dL mN (by first | omega | (simp only [Lt];omega)) (o:=0) (d:=default) (Nb rfl) rfl)
    have z2:v1.length=(v1.set (toNat v2) 1).length:=by simp
    rw [z0,z1,z2]
    exact ih (v1.set (toNat v2) 1) (v2+1) (by refine⟨?_,?_⟩<;>(try simp only [Ls])<;>first | omega | assumption | simp) (by(try simp only [Ls]);omega)
   | false =>
    have q0:=dU h0
    have e:=Eq.refl (oR a0 (v1,v2));conv at e=>rhs;simp only [oR,h0,aK]
    rw [aD,e]
    exact rt [.d h0] [] [2] hcx (by kernel_rfl)
def F39 (a0:Zm):List (Int) :=
 (aC (oR a0) (toNat ((((toNat (a0.2.length:Int)):Nat):Int) - 0)+1) ((List.replicate (toNat (a0.2.length:Int)) 0),0))
theorem C39 (a0:Zm)(l0_1:a0.1.length≤9223372036854775807)(l0_2:a0.2.length≤9223372036854775807)(hn:a0.2.length≤96):Con Try.prog 39 [(.a [(.s 0 0 a0.1.length 3),(.s 1 0 a0.2.length 3)])] [(.live false true (flat dD a0.1)),(.live false true (flat eE a0.2))] (.s 2 0 (F39 a0).length 1) [(.live true true (flat c3 (F39 a0)))]:=by
 refine aL Try.func39 (by kernel_rfl) fun cx hcx=>?_
 have e:=Eq.refl (F39 a0);conv at e=>rhs;simp only [F39]
 rw [e]
 refine en [.Z c3 0 [(iv 0)] (a0.2.length:Int) 8] [] [3,10,11] [3] hcx aL0 (aL1) (aGc a0 (flat c3 (List.replicate (toNat (a0.2.length:Int)) 0)) (toNat (a0.2.length:Int)) 0) (toNat ((((toNat (a0.2.length:Int)):Nat):Int) - 0)+1) (by kernel_rfl) ?_
 have q:=aUl a0 l0_1 l0_2 hn hcx (toNat ((((toNat (a0.2.length:Int)):Nat):Int) - 0)+1) (List.replicate (toNat (a0.2.length:Int)) 0) 0 (by refine⟨?_,?_⟩<;>(try simp only [Ls])<;>first | omega | assumption | simp) (by(try simp only [Ls]);omega)
 simp only [List.length_replicate] at q
 exact q
def F17 (a0:Zm)(a1:Int):Int×Int :=
 (bif (((cZ (a0.1,a0.2)):Int) != 0) then
  (0,(cZ (a0.1,a0.2)))
 else
  (bif (!(qD a1 0 2)) then
   (0,1)
  else
   ((W ((W ((a0.2.length:Int)*(a0.2.length:Int)))*(W ((W (1*2 ^ (min (toNat (W (2*a1))) 64)))+(W ((W (1*2 ^ (min (toNat (W (2*a1))) 64)))*(W (1*2 ^ (min (toNat (W (2*a1))) 64))))))))),0)))
theorem C17 (a0:Zm)(a1:Int)(l0_1:a0.1.length≤9223372036854775807)(l0_2:a0.2.length≤9223372036854775807):Con Try.prog 17 [(.a [(.s 0 0 a0.1.length 3),(.s 1 0 a0.2.length 3)]),(iv a1)] [(.live false true (flat dD a0.1)),(.live false true (flat eE a0.2))] (.t (k2 (F17 a0 a1))) []:=by
 refine aL Try.func17 (by kernel_rfl) fun cx hcx=>?_
 try have hw1:=mM h1
 let t0:List (St Try.prog):=[.c [0,1] (C31 (a0.1,a0.2) (by(try simp only [Lt]);omega) (by(try simp only [Lt]);omega))]
 cases h0:(((cZ (a0.1,a0.2)):Int) != 0) with
 | true =>
  have q0:=bne_iff_ne.1 h0
  try have hw1:=mM h1
  have e:=Eq.refl (F17 a0 a1);conv at e=>rhs;simp only [F17,h0,aK]
  rw [e]
  exact rt (t0++[.d h0]) [] [] hcx (by kernel_rfl)
 | false =>
  have q0:=bne_eq_false_iff_eq.1 h0
  try have hw1:=mM h1
  let t1:List (St Try.prog):=(t0++[.d h0,.c [] (C32 a1 0 2)])
  cases h1:(!(qD a1 0 2)) with
  | true =>
   try have hw1:=mM h1
   have e:=Eq.refl (F17 a0 a1);conv at e=>rhs;simp only [F17,h0,h1,aK]
   rw [e]
   exact rt (t1++[.d h1]) [] [] hcx (by kernel_rfl)
  | false =>
   try have hw1:=mM h1
   have e:=Eq.refl (F17 a0 a1);conv at e=>rhs;simp only [F17,h0,h1,aK]
   rw [e]
   exact rt (t1++[.d h1,.p (show 0≤((W (2*a1)):Int) from by first | omega | (rw [aE]<;>omega) | exact kY _)]) [] [] hcx (by kernel_rfl)
noncomputable def aL2:Code:=(aF [1,1,1,1,1,0,1] [] (aI Try.f26) []).1
noncomputable def aL3:List K:=(aF [1,1,1,1,1,0,1] [] (aI Try.f26) []).2
def aGd (a0:Zm)(a1:Int)(v1 v2 v3:Int):LS:=⟨jW 38 [(1,(iv a1)),(2,(.p 2 0)),(7,(iv v1)),(8,(iv v2)),(9,(iv v3))],[(.live false true (flat dD a0.1)),(.live false true (flat eE a0.2)),(.live true false [(.s 0 0 a0.1.length 3),(.s 1 0 a0.2.length 3)])]⟩
def aA3 (a0:Zm)(a1:Int):Zt→Zt⊕(Int×Int)
 | (v1,v2,v3) =>
  (bif (decide ((v3:Int) < a1)) then
   (.inl ((W (v1*4)),(W (v2*16)),(v3+1)))
  else
   (.inr ((W ((W ((a0.2.length:Int)*(a0.2.length:Int)))*(W (v1+v2)))),0)))
theorem aUm (a0:Zm)(a1:Int)(l0_1:a0.1.length≤9223372036854775807)(l0_2:a0.2.length≤9223372036854775807) {cx:Cx} (hcx:cx.base=2):∀(n:Nat)(v1 v2 v3:Int),(0≤v3)∧(a1≤2)→toNat (a1 - v3) < n→Aw.Good Try.prog none 9 (bodyPost Try.prog Try.f26 (RR cx (.t (k2 (aC (aA3 a0 a1) n (v1,v2,v3)))) [] [])) cx [] (.l aL2 n::aL3) (aGd a0 a1 v1 v2 v3):=by
 intro n
 induction n with
 | zero=>intro v1 v2 v3 hi hn;exact absurd hn (jV _)
 | succ n ih =>
   intro v1 v2 v3 hi hn
   refine aJ ?_
   cases h0:(decide ((v3:Int) < a1)) with
   | true =>
    have q0:=cY h0
    have e:=Eq.refl (aA3 a0 a1 (v1,v2,v3));conv at e=>rhs;simp only [aA3,h0,aK]
    rw [aA e]
    refine ba [.d h0] [] [1,2,7,8,9] [2] hcx (m:=n) aL2 (aL3) (aGd a0 a1 (W (v1*4)) (W (v2*16)) (W (v3+1))) (by kernel_rfl) ?_
    have z0:(W (v3+1))=(v3+1):=aE (by omega) (by omega)
    rw [z0]
    exact ih (W (v1*4)) (W (v2*16)) (v3+1) (by refine⟨?_,?_⟩<;>(try simp only [Ls])<;>first | omega | assumption | simp) (by(try simp only [Ls]);omega)
   | false =>
    have q0:=dU h0
    have e:=Eq.refl (aA3 a0 a1 (v1,v2,v3));conv at e=>rhs;simp only [aA3,h0,aK]
    rw [aD,e]
    exact rt [.d h0] [] [] hcx (by kernel_rfl)
def F26 (a0:Zm)(a1:Int):Int×Int :=
 (bif (((F53 (a0.1,a0.2)):Int) != 0) then
  (0,(F53 (a0.1,a0.2)))
 else
  (bif (!(F54 a1 0 2)) then
   (0,1)
  else
   (aC (aA3 a0 a1) (toNat (a1 - 0)+1) (1,1,0))))
theorem C26 (a0:Zm)(a1:Int)(l0_1:a0.1.length≤9223372036854775807)(l0_2:a0.2.length≤9223372036854775807):Con Try.prog 26 [(.a [(.s 0 0 a0.1.length 3),(.s 1 0 a0.2.length 3)]),(iv a1)] [(.live false true (flat dD a0.1)),(.live false true (flat eE a0.2))] (.t (k2 (F26 a0 a1))) []:=by
 refine aL Try.func26 (by kernel_rfl) fun cx hcx=>?_
 try have hw1:=xY h1
 let t0:List (St Try.prog):=[.c [0,1] (C53 (a0.1,a0.2) (by(try simp only [Lt]);omega) (by(try simp only [Lt]);omega))]
 cases h0:(((F53 (a0.1,a0.2)):Int) != 0) with
 | true =>
  have q0:=bne_iff_ne.1 h0
  try have hw1:=xY h1
  have e:=Eq.refl (F26 a0 a1);conv at e=>rhs;simp only [F26,h0,aK]
  rw [e]
  exact rt (t0++[.d h0]) [] [] hcx (by kernel_rfl)
 | false =>
  have q0:=bne_eq_false_iff_eq.1 h0
  try have hw1:=xY h1
  let t1:List (St Try.prog):=(t0++[.d h0,.c [] (C54 a1 0 2)])
  cases h1:(!(F54 a1 0 2)) with
  | true =>
   try have hw1:=xY h1
   have e:=Eq.refl (F26 a0 a1);conv at e=>rhs;simp only [F26,h0,h1,aK]
   rw [e]
   exact rt (t1++[.d h1]) [] [] hcx (by kernel_rfl)
  | false =>
   try have hw1:=xY h1
   have e:=Eq.refl (F26 a0 a1);conv at e=>rhs;simp only [F26,h0,h1,aK]
   rw [e]
   refine en (t1++[.d h1]) [] [1,2,7,8,9] [2] hcx aL2 (aL3) (aGd a0 a1 1 1 0) (toNat (a1 - 0)+1) (by kernel_rfl) ?_
   exact aUm a0 a1 l0_1 l0_2 hcx (toNat (a1 - 0)+1) 1 1 0 (by refine⟨?_,?_⟩<;>(try simp only [Ls])<;>first | omega | assumption | simp) (by(try simp only [Ls]);omega)
def kP:Zm :=
 (([(1,0,0),((-1),0,0),(0,1,0),(0,(-1),0),(0,0,1),(0,0,(-1))]:List Zt),([(0,2,4),(2,1,4),(1,3,4),(3,0,4),(2,0,5),(1,2,5),(3,1,5),(0,3,5)]:List Zt))
theorem C27:Con Try.prog 27 [] [] (.a [(.s 0 0 kP.1.length 3),(.s 1 0 kP.2.length 3)]) [(.live true true (flat dD kP.1)),(.live true true (flat eE kP.2))]:=by
 refine aL Try.func27 (by kernel_rfl) fun cx hcx=>?_
 have e:=Eq.refl kP;conv at e=>rhs;simp only [kP]
 rw [e]
 exact rt [] [.sym 1 true,.sym 2 true] [1,2] hcx (by kernel_rfl)
def F6 (a0:Zm)(a1:Int):Bool :=
 (bif (decide (((a0.1.length:Int):Int) > 200)) then
  true
 else
  (bif (decide (((a0.2.length:Int):Int) > 200)) then
   true
  else
   (bif (((F26 (a0.1,a0.2) a1).2:Int) == 0) then
    (decide (((F26 (a0.1,a0.2) a1).1:Int) > 20000))
   else
    false)))
theorem C6 (a0:Zm)(a1:Int)(l0_1:a0.1.length≤9223372036854775807)(l0_2:a0.2.length≤9223372036854775807):Con Try.prog 6 [(.a [(.s 0 0 a0.1.length 3),(.s 1 0 a0.2.length 3)]),(iv a1)] [(.live false true (flat dD a0.1)),(.live false true (flat eE a0.2))] (.v (.bool (F6 a0 a1))) []:=by
 refine aL Try.func6 (by kernel_rfl) fun cx hcx=>?_
 cases h0:(decide (((a0.1.length:Int):Int) > 200)) with
 | true =>
  have q0:=cY h0
  have e:=Eq.refl (F6 a0 a1);conv at e=>rhs;simp only [F6,h0,aK]
  rw [e]
  exact rt [.d h0] [] [] hcx (by kernel_rfl)
 | false =>
  have q0:=dU h0
  let t1:List (St Try.prog):=[.d h0]
  cases h1:(decide (((a0.2.length:Int):Int) > 200)) with
  | true =>
   have q1:=cY h1
   have e:=Eq.refl (F6 a0 a1);conv at e=>rhs;simp only [F6,h0,h1,aK]
   rw [e]
   exact rt (t1++[.d h1]) [] [] hcx (by kernel_rfl)
  | false =>
   have q1:=dU h1
   let t2:List (St Try.prog):=(t1++[.d h1,.c [0,1] (C26 (a0.1,a0.2) a1 (by(try simp only [Lt]);omega) (by(try simp only [Lt]);omega))])
   cases h2:(((F26 (a0.1,a0.2) a1).2:Int) == 0) with
   | true =>
    have q2:=eq_of_beq h2
    have e:=Eq.refl (F6 a0 a1);conv at e=>rhs;simp only [F6,h0,h1,h2,aK]
    rw [e]
    exact rt (t2++[.d h2]) [] [] hcx (by kernel_rfl)
   | false =>
    have q2:=ne_of_beq_false h2
    have e:=Eq.refl (F6 a0 a1);conv at e=>rhs;simp only [F6,h0,h1,h2,aK]
    rw [e]
    exact rt (t2++[.d h2]) [] [] hcx (by kernel_rfl)
theorem aRo {s n:Int} (hs:s=1∨s=2∨s=4∨s=8)(h1:1≤n)(h2:n≤1099511627776):1≤(vM s n).1:=by
 unfold vM
 rw [if_neg (by omega)]
 unfold inv
 have hN:1099511627776≤NN s:=by rcases hs with rfl | rfl | rfl | rfl<;>decide
 have hb:=xN hs
 obtain⟨q1,q2,q3⟩:=pL hb.1 h1
 have hq:1≤NN s / n:=Int.le_ediv_of_mul_le (by omega) (by omega)
 have hr:=xL (n:=NN s / n) q1 (by omega)
 exact hr.ge (by omega) (by omega)
theorem aCf {p c q:PN} {d:Int} (hp:vp p=0)(hd:0≤d∧d≤3)(hc:c∈aQ d.toNat p):1≤vO c q:=by
 obtain⟨g1,g2,g3⟩:=aFn c q
 obtain⟨hb,hn⟩:=gY hp
 have h:=aKx c q.1 g1 g2 g3
 rw [aFp hb hd hc] at h
 rcases Int.lt_or_le (vO c q) 1 with h' | h'
 · have h0:0≤vO c q:=Int.le_trans (rB _) g1
   have:vO c q=0:=by omega
   rw [this] at h;omega
 · exact h'
theorem aGe {α:Type} {g:α→Int}:∀(l:List α),(∀c∈l,1≤g c)→(l.length:Int)≤(l.map g).sum
 | [],_=>by simp
 | c::l,h=>by
   have h1:=h c List.mem_cons_self
   have h2:=aGe l (fun c hc=>h c (List.mem_cons_of_mem _ hc))
   simp only [List.map_cons,List.sum_cons,List.length_cons];omega
theorem aRp {v n:Int} (hn:1≤n)(h:n≤v):1≤v / n:=Int.le_ediv_of_mul_le (by omega) (by omega)
theorem aO1 {p q:PN} {d:Int} (hp:vp p=0)(hq:bdP 5000 q)(hd:0≤d∧d≤3):1≤(fK p q d).1:=by
 have hlen:=lC hd p
 have hc:=lD d
 unfold fK avg
 rw [rK]
 simp only [Int.zero_add]
 refine aRp (by omega) ?_
 rw [←hlen]
 refine aGe _ (fun c hcm=>?_)
 have hcb:=(rJ (gY hp).1 hd hcm).mono (show(512:Int)≤5000 by omega)
 have:=aKu hcb hq
 exact aRo (oL d) (aCf hp hd hcm) (by omega)
def okP (a:Int×Int):Prop:=1≤a.1∧a.1≤a.2∧a.2≤536870913
theorem aHw {p q:PN} {d:Int} (hp:vp p=0)(hq:bdP 5000 q)(hd:0≤d∧d≤3):okP (fK p q d):=by
 have h1:=aO1 hp hq hd
 have h2:=aK1 (q:=q) hp hd
 unfold okE at h2
 exact⟨h1,h2.2.1,h2.2.2⟩
theorem tC {p q:PN} {d:Int} (h:pk p q d=0):uH p q d=(fK p (cL (sc d) q) d,0):=by
 unfold uH
 rw [aB5,h]
 obtain⟨h1,h2,h3⟩:=aD5 h
 have hs:=aKr d
 have hq:=(gY h2).1
 have hq':=hq.mono (show(64:Int)≤4096 by omega)
 have hd:0≤d∧d≤3:=by omega
 have e1:=aQa h1 (aKy hs hq) hd
 unfold cL at e1 ⊢
 rw [aTj hd,aRd hs hq'.1,aRd hs hq'.2.1,aRd hs hq'.2.2,e1];rfl
theorem mQ {p q:PN} {d:Int} (h:pk p q d=0):(uH p q d).2=0∧okP (uH p q d).1:=by
 rw [tC h]
 obtain⟨h1,h2,h3⟩:=aD5 h
 exact⟨rfl,aHw h1 (aKy (aKr d) (gY h2).1) (by omega)⟩
theorem pQ {p q:PN} {d:Int} (h:pk p q d=0):(oC p q d).2=0∧okP (oC p q d).1:=by
 rw [aEb]
 obtain⟨h1,h2,h3⟩:=aD5 h
 have hd:0≤d∧d≤3:=by omega
 unfold aFr
 rw [if_pos h]
 refine⟨rfl,?_⟩
 have hl:=aEa (p:=p) (q:=q) hd
 have hc:=lD d
 have hpos:∀a∈pN p q d,okP a:=by
   intro a ha
   obtain⟨b,hb,rfl⟩:=List.mem_map.1 ha
   exact aHw h1 ((rJ (gY h2).1 hd hb).mono (by omega)) hd
 have hs1:sc d*sc d≤((pN p q d).map (·.1)).sum:=by rw [←hl];exact aGe _ (fun a ha=>(hpos a ha).1)
 have key:∀l:List (Int×Int),(∀a∈l,okP a)→(l.map (·.1)).sum≤(l.map (·.2)).sum∧(l.map (·.2)).sum≤536870913*(l.length:Nat):=by
   intro l
   induction l with
   | nil=>intro _;simp
   | cons c l ih =>
     intro h
     obtain⟨a1,a2,a3⟩:=h c List.mem_cons_self
     have h2:=ih (fun c hc=>h c (List.mem_cons_of_mem _ hc))
     simp only [List.map_cons,List.sum_cons,List.length_cons];omega
 have hk:=key _ hpos
 rw [hl] at hk
 rw [nL]
 unfold avg okP
 simp only [Int.zero_add]
 generalize ((pN p q d).map (·.1)).sum=x at *
 generalize ((pN p q d).map (·.2)).sum=y at *
 rcases hc with e | e | e | e<;>rw [e] at hs1 hk ⊢<;>omega
theorem aL4 (m:ME):∀(n i:Nat)(v:List (P3×Bool)),m.1.length - i < n→aC (gQ m) n (v,(i:Int))=0→∀j,i≤j→j < m.1.length→bd 64 (m.1.getD j default):=by
 intro n
 induction n with
 | zero=>intro i v h;omega
 | succ n ih =>
   intro i v hn h j h1 h2
   have hw:((i:Nat):Int) < (m.1.length:Int):=by omega
   cases hr:F47 (m.1.getD i default) 64 with
   | false =>
     have e1:gQ m (v,(i:Int))=.inr 1:=by
       simp only [gQ];rw [eK hw,cond_true,itn,hr];rfl
     rw [bU e1] at h;exact absurd h (by decide)
   | true =>
     cases hg:aU v (m.1.getD i default) false with
     | true =>
       have e1:gQ m (v,(i:Int))=.inr 1:=by
         simp only [gQ];rw [eK hw,cond_true,itn,hr,hg];rfl
       rw [bU e1] at h;exact absurd h (by decide)
     | false =>
       have e1:gQ m (v,(i:Int))=.inl (bH v (m.1.getD i default) true,((i+1:Nat):Int)):=by
         simp only [gQ];rw [eK hw,cond_true,itn,hr,hg];rfl
       rw [aA e1] at h
       by_cases hj:j=i
       · subst hj
         classical
         rw [lB] at hr
         exact cY hr
       · exact ih (i+1) _ (by omega) h j (by omega) h2
theorem aO2 {m:ME} (h:cZ m=0):∀j,j < m.1.length→bd 64 (m.1.getD j default):=by
 obtain⟨_,_,_,h4,_⟩:=dN h
 exact fun j hj=>aL4 m _ 0 [] (by omega) h4 j (Nat.zero_le _) hj
theorem vS {m:ME} (h:cZ m=0):∀c∈m.2,vp (lP m c)=0:=by
 intro c hc
 obtain⟨i,hi⟩:=List.getElem?_of_mem hc
 obtain⟨hlt,_⟩:=List.getElem?_eq_some_iff.1 hi
 have hpt:=aO2 h
 obtain⟨h64,_,_,_,hf⟩:=dN h
 have hfc:=hf (i:Int) (by omega) (by omega)
 rw [cH hi] at hfc
 have hin:inF m.1.length c:=iA (m:=m) (by rw [hfc];rfl) h64
 have hb:bdP 64 (lP m c):=⟨hpt _ (by have:=hin.1;omega),hpt _ (by have:=hin.2.1;omega),hpt _ (by have:=hin.2.2;omega)⟩
 unfold zS at hfc
 have hw:W ((m.1.length:Int) - 1)=(m.1.length:Int) - 1:=aE (by omega) (by omega)
 have fr:∀x:Int,0≤x∧x < (m.1.length:Int)→(!pI x 0 (W ((m.1.length:Int) - 1)))=false:=by
   intro x hx
   unfold pI
   rw [hw,eK hx.1,eK (show x≤(m.1.length:Int) - 1 by omega)];rfl
 rw [fr _ hin.1,fr _ hin.2.1,fr _ hin.2.2,cond_false,cond_false,cond_false,show F89 (lP (m.1,m.2) c)=jN (lP m c) from aP7 hb] at hfc
 unfold vp
 rw [if_pos hb]
 generalize jN (lP m c)=q at hfc ⊢
 by_cases hz:q.1=0∧q.2.1=0∧q.2.2=0
 · rw [hz.1,hz.2.1,hz.2.2] at hfc;exact absurd hfc (by decide)
 · rw [if_neg hz]
theorem mT {m:ME} (h:cZ m=0) {d:Int} (hd:0≤d∧d≤2) {p q:PN} (hp:p∈m.2.map (lP m))(hq:q∈m.2.map (lP m)):pk p q d=0:=by
 obtain⟨a,ha,rfl⟩:=List.mem_map.1 hp
 obtain⟨b,hb,rfl⟩:=List.mem_map.1 hq
 unfold pk
 rw [if_pos (vS h a ha),if_pos (vS h b hb),if_pos hd]
theorem aRq {α:Type} {n:Nat} {t:List (List α)} (h:∀r∈t,r.length=n)(j:Int):(0≤j∧j < (t.length:Int))→(t.getD (toNat j) default).length=n:=fun g=>by
 have hlt:toNat j < t.length:=by omega
 rw [eG,List.getElem?_eq_getElem hlt,Option.getD_some]
 exact h _ (List.getElem_mem hlt)
theorem aRr {α:Type} {n:Nat} {t:List (List α)} (h:∀r∈t,r.length≤n)(j:Int):(0≤j∧j < (t.length:Int))→(t.getD (toNat j) default).length≤n:=fun g=>by
 have hlt:toNat j < t.length:=by omega
 rw [eG,List.getElem?_eq_getElem hlt,Option.getD_some]
 exact h _ (List.getElem_mem hlt)
noncomputable def tD:Code:=(aF [1,1,0,1] [] (aI Try.f85) []).1
noncomputable def tE:List K:=(aF [1,1,0,1] [] (aI Try.f85) []).2
def pR (a0:List (Int×Int))(a1:List (Int))(v2c:List SV)(v2n:Nat)(v3:Int):LS:=⟨jW 40 [(1,(.s 1 0 a1.length 1)),(4,(.p 2 0)),(6,(.s 3 0 v2n 2)),(11,(.s 0 0 a0.length 2)),(12,(iv (a0.length:Int))),(13,(iv v3))],[(.live false true (flat eF a0)),(.live false true (flat c3 a1)),(.live true false [(iv 0),(iv 0)]),(.live true true v2c)]⟩
def dB (a0:List (Int×Int))(a1:List (Int)):(List (Int×Int))×Int→((List (Int×Int))×Int)⊕((Int×Int)×Int)
 | (v2,v3) =>
  (bif (decide ((v3:Int) < (a0.length:Int))) then
   (bif (((jE (a0.getD (toNat v3) default) (a1.getD (toNat v3) default)).2:Int) != 0) then
    (.inr ((0,0),(jE (a0.getD (toNat v3) default) (a1.getD (toNat v3) default)).2))
   else
    (.inl ((v2++[(jE (a0.getD (toNat v3) default) (a1.getD (toNat v3) default)).1]),(v3+1))))
  else
   (.inr ((gV v2).1,(gV v2).2)))
theorem aI4 (a0:List (Int×Int))(a1:List (Int))(l0:a0.length≤9223372036854775807)(l1:a1.length≤9223372036854775807)(hl:a0.length≤a1.length)(hn:a0.length≤9216) {cx:Cx} (hcx:cx.base=2):∀(n:Nat)(v2:List (Int×Int))(v3:Int),(0≤v3)∧(v2.length=toNat v3)∧(v3≤a0.length)→toNat ((a0.length:Int) - v3) < n→Aw.Good Try.prog none 9 (bodyPost Try.prog Try.f85 (RR cx (.t [(.a (k2 (aC (dB a0 a1) n (v2,v3)).1)),(iv (aC (dB a0 a1) n (v2,v3)).2)]) [] [])) cx [] (.l tD n::tE) (pR a0 a1 (flat eF v2) v2.length v3):=by
 intro n
 induction n with
 | zero=>intro v2 v3 hi hn;exact absurd hn (jV _)
 | succ n ih =>
   intro v2 v3 hi hn
   refine aJ ?_
   cases h0:(decide ((v3:Int) < (a0.length:Int))) with
   | true =>
    have q0:=cY h0
    let t1:List (St Try.prog):=[.d h0,.i v3 (a0.length),.L dJ a0 v3 0 2,.i v3 (a1.length),.L mN a1 v3 0 1,.c [] (C13 (a0.getD (toNat v3) default) (a1.getD (toNat v3) default))]
    cases h1:(((jE (a0.getD (toNat v3) default) (a1.getD (toNat v3) default)).2:Int) != 0) with
    | true =>
     have q1:=bne_iff_ne.1 h1
     have e:=Eq.refl (dB a0 a1 (v2,v3));conv at e=>rhs;simp only [dB,h0,h1,aK]
     rw [aD,e]
     exact rt (t1++[.d h1]) [] [] hcx (by kernel_rfl)
    | false =>
     have q1:=bne_eq_false_iff_eq.1 h1
     have e:=Eq.refl (dB a0 a1 (v2,v3));conv at e=>rhs;simp only [dB,h0,h1,aK]
     rw [aA e]
     refine ba (t1++[.d h1,.p (show((flat eF v2).length=v2.length*2∧v2.length+1≤2 ^ 40∧(v2.length+1)*16≤2 ^ 47) from fX dJ (by omega) (by omega))]) [] [1,4,6,11,12,13] [2,7] hcx (m:=n) tD (tE) (pR a0 a1 (flat eF v2++(k2 (jE (a0.getD (toNat v3) default) (a1.getD (toNat v3) default)).1)) (v2.length+1) (W (v3+1))) (by kernel_rfl) ?_
     have z0:(W (v3+1))=(v3+1):=aE (by omega) (by omega)
     have z1:(flat eF v2++(k2 (jE (a0.getD (toNat v3) default) (a1.getD (toNat v3) default)).1))=(flat eF (v2++[(jE (a0.getD (toNat v3) default) (a1.getD (toNat v3) default)).1])):=(bM (c:=eF) (l:=v2) (m:=[(jE (a0.getD (toNat v3) default) (a1.getD (toNat v3) default)).1])).symm
     have z2:(v2.length+1)=(v2++[(jE (a0.getD (toNat v3) default) (a1.getD (toNat v3) default)).1]).length:=eZ v2 [(jE (a0.getD (toNat v3) default) (a1.getD (toNat v3) default)).1] rfl
     rw [z0,z1,z2]
     exact ih (v2++[(jE (a0.getD (toNat v3) default) (a1.getD (toNat v3) default)).1]) (v3+1) (by refine⟨?_,?_,?_⟩<;>(try simp only [Ls])<;>first | omega | assumption | simp) (by(try simp only [Ls]);omega)
   | false =>
    have q0:=dU h0
    have e:=Eq.refl (dB a0 a1 (v2,v3));conv at e=>rhs;simp only [dB,h0,aK]
    rw [aD,e]
    exact rt [.d h0,.c [3] (aQ8 v2 (by omega))] [] [] hcx (by kernel_rfl)
def bZ (a0:List (Int×Int))(a1:List (Int)):(Int×Int)×Int :=
 (aC (dB a0 a1) (toNat ((a0.length:Int) - 0)+1) (([]:List (Int×Int)),0))
theorem aHx (a0:List (Int×Int))(a1:List (Int))(l0:a0.length≤9223372036854775807)(l1:a1.length≤9223372036854775807)(hl:a0.length≤a1.length)(hn:a0.length≤9216):Con Try.prog 85 [(.s 0 0 a0.length 2),(.s 1 0 a1.length 1)] [(.live false true (flat eF a0)),(.live false true (flat c3 a1))] (.t [(.a (k2 (bZ a0 a1).1)),(iv (bZ a0 a1).2)]) []:=by
 refine aL Try.func85 (by kernel_rfl) fun cx hcx=>?_
 have e:=Eq.refl (bZ a0 a1);conv at e=>rhs;simp only [bZ]
 rw [e]
 refine en [] [.slot 6 2] [1,4,6,11,12,13] [2,3] hcx tD (tE) (pR a0 a1 (flat eF ([]:List (Int×Int))) 0 0) (toNat ((a0.length:Int) - 0)+1) (by kernel_rfl) ?_
 exact aI4 a0 a1 l0 l1 hl hn hcx (toNat ((a0.length:Int) - 0)+1) ([]:List (Int×Int)) 0 (by refine⟨?_,?_,?_⟩<;>(try simp only [Ls])<;>first | omega | assumption | simp) (by(try simp only [Ls]);omega)
def dT (x:List (Int×Int)):List SV:=[(.d (flat eF x) x.length 2)]
theorem rP (x:List (Int×Int)):(dT x).length=1:=rfl
noncomputable def tF:Code:=(aF [1,1,1,1,0,1,0,1,1,0,1,1,0,1] [0] (aI Try.f56) []).1
noncomputable def tG (m0:Nat):List K:=(aF [1,1,1,1,0,1,0,1,1,0,1,1,0,1] [m0] (aI Try.f56) []).2
def pS (a0:Zm)(a1:Int)(v10c:List SV)(v10n:Nat)(v11c:List SV)(v11n:Nat)(v12 v13 v14 v15 v16 v17 v18 v19 v20 v21 v22:Int):LS:=⟨jW 60 [(1,(iv a1)),(2,(.v (.func (.func 57) #[] #[]))),(8,(.s 2 0 (aV (a0.1,a0.2)).1.length 9)),(10,(.s 3 0 v10n 1)),(12,(.p 4 0)),(13,(.s 5 0 v11n 2)),(26,(.s 2 0 (aV (a0.1,a0.2)).1.length 9)),(27,(iv (((aV (a0.1,a0.2)).1.length:Nat):Int))),(28,(iv v12)),(32,(.s 2 0 (aV (a0.1,a0.2)).1.length 9)),(33,(iv (((aV (a0.1,a0.2)).1.length:Nat):Int))),(34,(iv v13))],[(.live false true (flat dD a0.1)),(.live false true (flat eE a0.2)),(.live true true (flat oD (aV (a0.1,a0.2)).1)),(.live true true v10c),(.live true false [(iv v14),(iv v15),(iv v16),(iv v17),(iv v18),(iv v19),(iv v20),(iv v21),(iv v22)]),(.live true true v11c)]⟩
def dO (a0:Zm)(a1:Int):(List (List (Int×Int)))×(List (Int×Int))×Int×Int×Int×Int×Int×Int×Int×Int×Zt→((List (List (Int×Int)))×(List (Int×Int))×Int×Int×Int×Int×Int×Int×Int×Int×Zt)⊕(((List (List (Int×Int)))×Int)⊕((List (List (Int×Int)))×Int))
 | (v10,v11,v12,v13,v14,v15,v16,v17,v18,v19,v20,v21,v22) =>
  (bif (decide ((v13:Int) < (((aV (a0.1,a0.2)).1.length:Nat):Int))) then
   (bif (((uH ((aV (a0.1,a0.2)).1.getD (toNat v13) default) ((v14,v15,v16),(v17,v18,v19),(v20,v21,v22)) a1).2:Int) != 0) then
    (.inr (.inr (([]:List (List (Int×Int))),(uH ((aV (a0.1,a0.2)).1.getD (toNat v13) default) ((v14,v15,v16),(v17,v18,v19),(v20,v21,v22)) a1).2)))
   else
    (.inl (v10,(v11++[(uH ((aV (a0.1,a0.2)).1.getD (toNat v13) default) ((v14,v15,v16),(v17,v18,v19),(v20,v21,v22)) a1).1]),v12,(v13+1),v14,v15,v16,v17,v18,v19,v20,v21,v22)))
  else
   (.inr (.inl ((v10++[v11]),(v12+1)))))
noncomputable def nN:Code:=(aF [1,1,1,1,0,1] [] (aI Try.f56) []).1
noncomputable def nO:List K:=(aF [1,1,1,1,0,1] [] (aI Try.f56) []).2
def lH (a0:Zm)(a1:Int)(v8c:List SV)(v8n:Nat)(v9:Int):LS:=⟨jW 60 [(1,(iv a1)),(2,(.v (.func (.func 57) #[] #[]))),(8,(.s 2 0 (aV (a0.1,a0.2)).1.length 9)),(10,(.s 3 0 v8n 1)),(26,(.s 2 0 (aV (a0.1,a0.2)).1.length 9)),(27,(iv (((aV (a0.1,a0.2)).1.length:Nat):Int))),(28,(iv v9))],[(.live false true (flat dD a0.1)),(.live false true (flat eE a0.2)),(.live true true (flat oD (aV (a0.1,a0.2)).1)),(.live true true v8c)]⟩
def bW (a0:Zm)(a1:Int):(List (List (Int×Int)))×Int→((List (List (Int×Int)))×Int)⊕((List (List (Int×Int)))×Int)
 | (v8,v9) =>
  (bif (decide ((v9:Int) < (((aV (a0.1,a0.2)).1.length:Nat):Int))) then
   (aC (dO a0 a1) (toNat ((((aV (a0.1,a0.2)).1.length:Nat):Int) - 0)+1) (v8,([]:List (Int×Int)),v9,0,((aV (a0.1,a0.2)).1.getD (toNat v9) default).1.1,((aV (a0.1,a0.2)).1.getD (toNat v9) default).1.2.1,((aV (a0.1,a0.2)).1.getD (toNat v9) default).1.2.2,((aV (a0.1,a0.2)).1.getD (toNat v9) default).2.1.1,((aV (a0.1,a0.2)).1.getD (toNat v9) default).2.1.2.1,((aV (a0.1,a0.2)).1.getD (toNat v9) default).2.1.2.2,((aV (a0.1,a0.2)).1.getD (toNat v9) default).2.2.1,((aV (a0.1,a0.2)).1.getD (toNat v9) default).2.2.2.1,((aV (a0.1,a0.2)).1.getD (toNat v9) default).2.2.2.2))
  else
   (.inr (v8,0)))
theorem aI5 (a0:Zm)(a1:Int)(l0_1:a0.1.length≤9223372036854775807)(l0_2:a0.2.length≤9223372036854775807) {cx:Cx} (hcx:cx.base=2)
   (n0:Nat) (g0:∀(v8:List (List (Int×Int))) (v9:Int),(0≤v9)∧(v8.length=toNat v9)∧(v9≤(aV (a0.1,a0.2)).1.length)→toNat ((((aV (a0.1,a0.2)).1.length:Nat):Int) - v9) < n0→Aw.Good Try.prog none 9 (bodyPost Try.prog Try.f56 (RR cx (.t [(.s 2 0 (aC (bW a0 a1) n0 (v8,v9)).1.length 1),(iv (aC (bW a0 a1) n0 (v8,v9)).2)]) [(.live true true (flat dT (aC (bW a0 a1) n0 (v8,v9)).1))] [])) cx [] (.l nN n0::nO) (lH a0 a1 (flat dT v8) v8.length v9)):∀(n:Nat) (v10:List (List (Int×Int))) (v11:List (Int×Int)) (v12 v13 v14 v15 v16 v17 v18 v19 v20 v21 v22:Int),(0≤v13)∧(v11.length=toNat v13)∧(v13≤(aV (a0.1,a0.2)).1.length)∧(v10.length=toNat v12)∧(0≤v12)∧(v12 < (aV (a0.1,a0.2)).1.length)∧((0≤v12))∧((v10.length=toNat v12))∧((v12≤(aV (a0.1,a0.2)).1.length))∧(v12 < (((aV (a0.1,a0.2)).1.length:Nat):Int))∧(toNat ((((aV (a0.1,a0.2)).1.length:Nat):Int) - v12) < n0+1)→toNat ((((aV (a0.1,a0.2)).1.length:Nat):Int) - v13) < n→Aw.Good Try.prog none 9 (bodyPost Try.prog Try.f56 (RR cx (.t [(.s 2 0 (kF (bW a0 a1) n0 (aC (dO a0 a1) n (v10,v11,v12,v13,v14,v15,v16,v17,v18,v19,v20,v21,v22))).1.length 1),(iv (kF (bW a0 a1) n0 (aC (dO a0 a1) n (v10,v11,v12,v13,v14,v15,v16,v17,v18,v19,v20,v21,v22))).2)]) [(.live true true (flat dT (kF (bW a0 a1) n0 (aC (dO a0 a1) n (v10,v11,v12,v13,v14,v15,v16,v17,v18,v19,v20,v21,v22))).1))] [])) cx [] (.l tF n::tG n0) (pS a0 a1 (flat dT v10) v10.length (flat eF v11) v11.length v12 v13 v14 v15 v16 v17 v18 v19 v20 v21 v22):=by
 intro n
 induction n with
 | zero=>intro v10 v11 v12 v13 v14 v15 v16 v17 v18 v19 v20 v21 v22 hi hn;exact absurd hn (jV _)
 | succ n ih =>
   intro v10 v11 v12 v13 v14 v15 v16 v17 v18 v19 v20 v21 v22 hi hn
   refine aJ ?_
   have hpl:=nM (a0.1,a0.2)
   cases h0:(decide ((v13:Int) < (((aV (a0.1,a0.2)).1.length:Nat):Int))) with
   | true =>
    have q0:=cY h0
    let t1:List (St Try.prog):=[.d h0,.i v13 ((aV (a0.1,a0.2)).1.length),.L kH (aV (a0.1,a0.2)).1 v13 0 9,.c [] (C57 ((aV (a0.1,a0.2)).1.getD (toNat v13) default) ((v14,v15,v16),(v17,v18,v19),(v20,v21,v22)) a1)]
    cases h1:(((uH ((aV (a0.1,a0.2)).1.getD (toNat v13) default) ((v14,v15,v16),(v17,v18,v19),(v20,v21,v22)) a1).2:Int) != 0) with
    | true =>
     have q1:=bne_iff_ne.1 h1
     have e:=Eq.refl (dO a0 a1 (v10,v11,v12,v13,v14,v15,v16,v17,v18,v19,v20,v21,v22));conv at e=>rhs;simp only [dO,h0,h1,aK]
     rw [aD,e]
     exact rt (t1++[.d h1]) [.slot 6 1] [8] hcx (by kernel_rfl)
    | false =>
     have q1:=bne_eq_false_iff_eq.1 h1
     have e:=Eq.refl (dO a0 a1 (v10,v11,v12,v13,v14,v15,v16,v17,v18,v19,v20,v21,v22));conv at e=>rhs;simp only [dO,h0,h1,aK]
     rw [aA e]
     refine ba (t1++[.d h1,.p (show((flat eF v11).length=v11.length*2∧v11.length+1≤2 ^ 40∧(v11.length+1)*16≤2 ^ 47) from fX dJ (by omega) (by omega))]) [] [1,2,8,10,12,13,26,27,28,32,33,34] [2,3,4,9] hcx (m:=n) tF (tG n0) (pS a0 a1 (flat dT v10) (v10.length) (flat eF v11++(k2 (uH ((aV (a0.1,a0.2)).1.getD (toNat v13) default) ((v14,v15,v16),(v17,v18,v19),(v20,v21,v22)) a1).1)) (v11.length+1) v12 (W (v13+1)) v14 v15 v16 v17 v18 v19 v20 v21 v22) (by kernel_rfl) ?_
     have z0:(W (v13+1))=(v13+1):=aE (by omega) (by omega)
     have z1:(flat eF v11++(k2 (uH ((aV (a0.1,a0.2)).1.getD (toNat v13) default) ((v14,v15,v16),(v17,v18,v19),(v20,v21,v22)) a1).1))=(flat eF (v11++[(uH ((aV (a0.1,a0.2)).1.getD (toNat v13) default) ((v14,v15,v16),(v17,v18,v19),(v20,v21,v22)) a1).1])):=(bM (c:=eF) (l:=v11) (m:=[(uH ((aV (a0.1,a0.2)).1.getD (toNat v13) default) ((v14,v15,v16),(v17,v18,v19),(v20,v21,v22)) a1).1])).symm
     have z2:(v11.length+1)=(v11++[(uH ((aV (a0.1,a0.2)).1.getD (toNat v13) default) ((v14,v15,v16),(v17,v18,v19),(v20,v21,v22)) a1).1]).length:=eZ v11 [(uH ((aV (a0.1,a0.2)).1.getD (toNat v13) default) ((v14,v15,v16),(v17,v18,v19),(v20,v21,v22)) a1).1] rfl
     rw [z0,z1,z2]
     exact ih v10 (v11++[(uH ((aV (a0.1,a0.2)).1.getD (toNat v13) default) ((v14,v15,v16),(v17,v18,v19),(v20,v21,v22)) a1).1]) v12 (v13+1) v14 v15 v16 v17 v18 v19 v20 v21 v22 (by refine⟨?_,?_,?_,?_,?_,?_,?_,?_,?_,?_,?_⟩<;>(try simp only [Ls])<;>first | omega | assumption | exact hi.2.1 | exact hi.2.2.1 | exact hi.2.2.2.1 | exact hi.2.2.2.2.1 | exact hi.2.2.2.2.2.1 | exact hi.2.2.2.2.2.2.1 | exact hi.2.2.2.2.2.2.2.1 | exact hi.2.2.2.2.2.2.2.2.1 | exact hi.2.2.2.2.2.2.2.2.2.1 | exact hi.2.2.2.2.2.2.2.2.2.2.1 | simp) (by(try simp only [Ls]);omega)
   | false =>
    have q0:=dU h0
    have e:=Eq.refl (dO a0 a1 (v10,v11,v12,v13,v14,v15,v16,v17,v18,v19,v20,v21,v22));conv at e=>rhs;simp only [dO,h0,aK]
    rw [aD,e]
    refine ba [.d h0,.p (show((flat eF v11)).length=v11.length*2 from by simp [aAx dJ]),.p (show((flat dT v10).length=v10.length*1∧v10.length+1≤2 ^ 40∧(v10.length+1)*24≤2 ^ 47) from fX rP (by omega) (by omega))] [] [1,2,8,10,26,27,28] [2,7] hcx (m:=n0) nN (nO) (lH a0 a1 (flat dT v10++[(.d (flat eF v11) v11.length 2)]) (v10.length+1) (W (v12+1))) (by kernel_rfl) ?_
    have z0:(W (v12+1))=(v12+1):=aE (by omega) (by omega)
    have z1:(flat dT v10++[(.d (flat eF v11) v11.length 2)])=(flat dT (v10++[v11])):=(bM (c:=dT) (l:=v10) (m:=[v11])).symm
    have z2:(v10.length+1)=(v10++[v11]).length:=eZ v10 [v11] rfl
    rw [z0,z1,z2]
    exact g0 (v10++[v11]) (v12+1) (by refine⟨?_,?_,?_⟩<;>(try simp only [Ls])<;>first | omega | assumption | simp) (by(try simp only [Ls]);omega)
theorem aI6 (a0:Zm)(a1:Int)(l0_1:a0.1.length≤9223372036854775807)(l0_2:a0.2.length≤9223372036854775807) {cx:Cx} (hcx:cx.base=2):∀(n:Nat)(v8:List (List (Int×Int)))(v9:Int),(0≤v9)∧(v8.length=toNat v9)∧(v9≤(aV (a0.1,a0.2)).1.length)→toNat ((((aV (a0.1,a0.2)).1.length:Nat):Int) - v9) < n→Aw.Good Try.prog none 9 (bodyPost Try.prog Try.f56 (RR cx (.t [(.s 2 0 (aC (bW a0 a1) n (v8,v9)).1.length 1),(iv (aC (bW a0 a1) n (v8,v9)).2)]) [(.live true true (flat dT (aC (bW a0 a1) n (v8,v9)).1))] [])) cx [] (.l nN n::nO) (lH a0 a1 (flat dT v8) v8.length v9):=by
 intro n
 induction n with
 | zero=>intro v8 v9 hi hn;exact absurd hn (jV _)
 | succ n ih =>
   intro v8 v9 hi hn
   refine aJ ?_
   have hpl:=nM (a0.1,a0.2)
   cases h0:(decide ((v9:Int) < (((aV (a0.1,a0.2)).1.length:Nat):Int))) with
   | true =>
    have q0:=cY h0
    have e:=Eq.refl (bW a0 a1 (v8,v9));conv at e=>rhs;simp only [bW,h0,aK]
    rw [aD,e]
    refine en [.d h0,.i v9 ((aV (a0.1,a0.2)).1.length),.L kH (aV (a0.1,a0.2)).1 v9 0 9] [.slot 13 2] [1,2,8,10,12,13,26,27,28,32,33,34] [2,3,4,5] hcx tF (tG n) (pS a0 a1 (flat dT v8) (v8.length) (flat eF ([]:List (Int×Int))) 0 v9 0 (((aV (a0.1,a0.2)).1.getD (toNat v9) default).1.1) (((aV (a0.1,a0.2)).1.getD (toNat v9) default).1.2.1) (((aV (a0.1,a0.2)).1.getD (toNat v9) default).1.2.2) (((aV (a0.1,a0.2)).1.getD (toNat v9) default).2.1.1) (((aV (a0.1,a0.2)).1.getD (toNat v9) default).2.1.2.1) (((aV (a0.1,a0.2)).1.getD (toNat v9) default).2.1.2.2) (((aV (a0.1,a0.2)).1.getD (toNat v9) default).2.2.1) (((aV (a0.1,a0.2)).1.getD (toNat v9) default).2.2.2.1) (((aV (a0.1,a0.2)).1.getD (toNat v9) default).2.2.2.2)) (toNat ((((aV (a0.1,a0.2)).1.length:Nat):Int) - 0)+1) (by kernel_rfl) ?_
    exact aI5 a0 a1 l0_1 l0_2 hcx n ih (toNat ((((aV (a0.1,a0.2)).1.length:Nat):Int) - 0)+1) v8 ([]:List (Int×Int)) v9 0 (((aV (a0.1,a0.2)).1.getD (toNat v9) default).1.1) (((aV (a0.1,a0.2)).1.getD (toNat v9) default).1.2.1) (((aV (a0.1,a0.2)).1.getD (toNat v9) default).1.2.2) (((aV (a0.1,a0.2)).1.getD (toNat v9) default).2.1.1) (((aV (a0.1,a0.2)).1.getD (toNat v9) default).2.1.2.1) (((aV (a0.1,a0.2)).1.getD (toNat v9) default).2.1.2.2) (((aV (a0.1,a0.2)).1.getD (toNat v9) default).2.2.1) (((aV (a0.1,a0.2)).1.getD (toNat v9) default).2.2.2.1) (((aV (a0.1,a0.2)).1.getD (toNat v9) default).2.2.2.2) (by refine⟨?_,?_,?_,?_,?_,?_,?_,?_,?_,?_,?_⟩<;>(try simp only [Ls])<;>first | omega | assumption | exact hi.2.1 | exact hi.2.2.1 | exact hi.2.2.2.1 | exact hi.2.2.2.2.1 | exact hi.2.2.2.2.2.1 | exact hi.2.2.2.2.2.2.1 | exact hi.2.2.2.2.2.2.2.1 | exact hi.2.2.2.2.2.2.2.2.1 | exact hi.2.2.2.2.2.2.2.2.2.1 | exact hi.2.2.2.2.2.2.2.2.2.2.1 | simp) (by(try simp only [Ls]);omega)
   | false =>
    have q0:=dU h0
    have e:=Eq.refl (bW a0 a1 (v8,v9));conv at e=>rhs;simp only [bW,h0,aK]
    rw [aD,e]
    exact rt [.d h0] [] [3] hcx (by kernel_rfl)
def bI (a0:Zm)(a1:Int):(List (List (Int×Int)))×Int :=
 (bif (((aV (a0.1,a0.2)).2:Int) != 0) then
  (([]:List (List (Int×Int))),(aV (a0.1,a0.2)).2)
 else
  (aC (bW a0 a1) (toNat ((((aV (a0.1,a0.2)).1.length:Nat):Int) - 0)+1) (([]:List (List (Int×Int))),0)))
theorem aO3 (a0:Zm)(a1:Int)(l0_1:a0.1.length≤9223372036854775807)(l0_2:a0.2.length≤9223372036854775807):Con Try.prog 56 [(.a [(.s 0 0 a0.1.length 3),(.s 1 0 a0.2.length 3)]),(iv a1),(.v (.func (.func 57) #[] #[]))] [(.live false true (flat dD a0.1)),(.live false true (flat eE a0.2))] (.t [(.s 2 0 (bI a0 a1).1.length 1),(iv (bI a0 a1).2)]) [(.live true true (flat dT (bI a0 a1).1))]:=by
 refine aL Try.func56 (by kernel_rfl) fun cx hcx=>?_
 have hpl:=nM (a0.1,a0.2)
 let t0:List (St Try.prog):=[.c [0,1] (C79 (a0.1,a0.2) (by(try simp only [Lt]);omega) (by(try simp only [Lt]);omega))]
 cases h0:(((aV (a0.1,a0.2)).2:Int) != 0) with
 | true =>
  have q0:=bne_iff_ne.1 h0
  have e:=Eq.refl (bI a0 a1);conv at e=>rhs;simp only [bI,h0,aK]
  rw [e]
  exact rt (t0++[.d h0]) [.slot 6 1] [4] hcx (by kernel_rfl)
 | false =>
  have q0:=bne_eq_false_iff_eq.1 h0
  have e:=Eq.refl (bI a0 a1);conv at e=>rhs;simp only [bI,h0,aK]
  rw [e]
  refine en (t0++[.d h0]) [.slot 10 1] [1,2,8,10,26,27,28] [3,4] hcx nN (nO) (lH a0 a1 (flat dT ([]:List (List (Int×Int)))) 0 0) (toNat ((((aV (a0.1,a0.2)).1.length:Nat):Int) - 0)+1) (by kernel_rfl) ?_
  exact aI6 a0 a1 l0_1 l0_2 hcx (toNat ((((aV (a0.1,a0.2)).1.length:Nat):Int) - 0)+1) ([]:List (List (Int×Int))) 0 (by refine⟨?_,?_,?_⟩<;>(try simp only [Ls])<;>first | omega | assumption | simp) (by(try simp only [Ls]);omega)
noncomputable def tH:Code:=(aF [1,1,1,1,0,1,0,1,1,0,1,1,0,1] [0] (aI Try.f56) []).1
noncomputable def tI (m0:Nat):List K:=(aF [1,1,1,1,0,1,0,1,1,0,1,1,0,1] [m0] (aI Try.f56) []).2
def pT (a0:Zm)(a1:Int)(v10c:List SV)(v10n:Nat)(v11c:List SV)(v11n:Nat)(v12 v13 v14 v15 v16 v17 v18 v19 v20 v21 v22:Int):LS:=⟨jW 60 [(1,(iv a1)),(2,(.v (.func (.func 58) #[] #[]))),(8,(.s 2 0 (aV (a0.1,a0.2)).1.length 9)),(10,(.s 3 0 v10n 1)),(12,(.p 4 0)),(13,(.s 5 0 v11n 2)),(26,(.s 2 0 (aV (a0.1,a0.2)).1.length 9)),(27,(iv (((aV (a0.1,a0.2)).1.length:Nat):Int))),(28,(iv v12)),(32,(.s 2 0 (aV (a0.1,a0.2)).1.length 9)),(33,(iv (((aV (a0.1,a0.2)).1.length:Nat):Int))),(34,(iv v13))],[(.live false true (flat dD a0.1)),(.live false true (flat eE a0.2)),(.live true true (flat oD (aV (a0.1,a0.2)).1)),(.live true true v10c),(.live true false [(iv v14),(iv v15),(iv v16),(iv v17),(iv v18),(iv v19),(iv v20),(iv v21),(iv v22)]),(.live true true v11c)]⟩
def dP (a0:Zm)(a1:Int):(List (List (Int×Int)))×(List (Int×Int))×Int×Int×Int×Int×Int×Int×Int×Int×Zt→((List (List (Int×Int)))×(List (Int×Int))×Int×Int×Int×Int×Int×Int×Int×Int×Zt)⊕(((List (List (Int×Int)))×Int)⊕((List (List (Int×Int)))×Int))
 | (v10,v11,v12,v13,v14,v15,v16,v17,v18,v19,v20,v21,v22) =>
  (bif (decide ((v13:Int) < (((aV (a0.1,a0.2)).1.length:Nat):Int))) then
   (bif (((oC ((aV (a0.1,a0.2)).1.getD (toNat v13) default) ((v14,v15,v16),(v17,v18,v19),(v20,v21,v22)) a1).2:Int) != 0) then
    (.inr (.inr (([]:List (List (Int×Int))),(oC ((aV (a0.1,a0.2)).1.getD (toNat v13) default) ((v14,v15,v16),(v17,v18,v19),(v20,v21,v22)) a1).2)))
   else
    (.inl (v10,(v11++[(oC ((aV (a0.1,a0.2)).1.getD (toNat v13) default) ((v14,v15,v16),(v17,v18,v19),(v20,v21,v22)) a1).1]),v12,(v13+1),v14,v15,v16,v17,v18,v19,v20,v21,v22)))
  else
   (.inr (.inl ((v10++[v11]),(v12+1)))))
noncomputable def nP:Code:=(aF [1,1,1,1,0,1] [] (aI Try.f56) []).1
noncomputable def nQ:List K:=(aF [1,1,1,1,0,1] [] (aI Try.f56) []).2
def lI (a0:Zm)(a1:Int)(v8c:List SV)(v8n:Nat)(v9:Int):LS:=⟨jW 60 [(1,(iv a1)),(2,(.v (.func (.func 58) #[] #[]))),(8,(.s 2 0 (aV (a0.1,a0.2)).1.length 9)),(10,(.s 3 0 v8n 1)),(26,(.s 2 0 (aV (a0.1,a0.2)).1.length 9)),(27,(iv (((aV (a0.1,a0.2)).1.length:Nat):Int))),(28,(iv v9))],[(.live false true (flat dD a0.1)),(.live false true (flat eE a0.2)),(.live true true (flat oD (aV (a0.1,a0.2)).1)),(.live true true v8c)]⟩
def bX (a0:Zm)(a1:Int):(List (List (Int×Int)))×Int→((List (List (Int×Int)))×Int)⊕((List (List (Int×Int)))×Int)
 | (v8,v9) =>
  (bif (decide ((v9:Int) < (((aV (a0.1,a0.2)).1.length:Nat):Int))) then
   (aC (dP a0 a1) (toNat ((((aV (a0.1,a0.2)).1.length:Nat):Int) - 0)+1) (v8,([]:List (Int×Int)),v9,0,((aV (a0.1,a0.2)).1.getD (toNat v9) default).1.1,((aV (a0.1,a0.2)).1.getD (toNat v9) default).1.2.1,((aV (a0.1,a0.2)).1.getD (toNat v9) default).1.2.2,((aV (a0.1,a0.2)).1.getD (toNat v9) default).2.1.1,((aV (a0.1,a0.2)).1.getD (toNat v9) default).2.1.2.1,((aV (a0.1,a0.2)).1.getD (toNat v9) default).2.1.2.2,((aV (a0.1,a0.2)).1.getD (toNat v9) default).2.2.1,((aV (a0.1,a0.2)).1.getD (toNat v9) default).2.2.2.1,((aV (a0.1,a0.2)).1.getD (toNat v9) default).2.2.2.2))
  else
   (.inr (v8,0)))
theorem aI7 (a0:Zm)(a1:Int)(l0_1:a0.1.length≤9223372036854775807)(l0_2:a0.2.length≤9223372036854775807) {cx:Cx} (hcx:cx.base=2)
   (n0:Nat) (g0:∀(v8:List (List (Int×Int))) (v9:Int),(0≤v9)∧(v8.length=toNat v9)∧(v9≤(aV (a0.1,a0.2)).1.length)→toNat ((((aV (a0.1,a0.2)).1.length:Nat):Int) - v9) < n0→Aw.Good Try.prog none 9 (bodyPost Try.prog Try.f56 (RR cx (.t [(.s 2 0 (aC (bX a0 a1) n0 (v8,v9)).1.length 1),(iv (aC (bX a0 a1) n0 (v8,v9)).2)]) [(.live true true (flat dT (aC (bX a0 a1) n0 (v8,v9)).1))] [])) cx [] (.l nP n0::nQ) (lI a0 a1 (flat dT v8) v8.length v9)):∀(n:Nat) (v10:List (List (Int×Int))) (v11:List (Int×Int)) (v12 v13 v14 v15 v16 v17 v18 v19 v20 v21 v22:Int),(0≤v13)∧(v11.length=toNat v13)∧(v13≤(aV (a0.1,a0.2)).1.length)∧(v10.length=toNat v12)∧(0≤v12)∧(v12 < (aV (a0.1,a0.2)).1.length)∧((0≤v12))∧((v10.length=toNat v12))∧((v12≤(aV (a0.1,a0.2)).1.length))∧(v12 < (((aV (a0.1,a0.2)).1.length:Nat):Int))∧(toNat ((((aV (a0.1,a0.2)).1.length:Nat):Int) - v12) < n0+1)→toNat ((((aV (a0.1,a0.2)).1.length:Nat):Int) - v13) < n→Aw.Good Try.prog none 9 (bodyPost Try.prog Try.f56 (RR cx (.t [(.s 2 0 (kF (bX a0 a1) n0 (aC (dP a0 a1) n (v10,v11,v12,v13,v14,v15,v16,v17,v18,v19,v20,v21,v22))).1.length 1),(iv (kF (bX a0 a1) n0 (aC (dP a0 a1) n (v10,v11,v12,v13,v14,v15,v16,v17,v18,v19,v20,v21,v22))).2)]) [(.live true true (flat dT (kF (bX a0 a1) n0 (aC (dP a0 a1) n (v10,v11,v12,v13,v14,v15,v16,v17,v18,v19,v20,v21,v22))).1))] [])) cx [] (.l tH n::tI n0) (pT a0 a1 (flat dT v10) v10.length (flat eF v11) v11.length v12 v13 v14 v15 v16 v17 v18 v19 v20 v21 v22):=by
 intro n
 induction n with
 | zero=>intro v10 v11 v12 v13 v14 v15 v16 v17 v18 v19 v20 v21 v22 hi hn;exact absurd hn (jV _)
 | succ n ih =>
   intro v10 v11 v12 v13 v14 v15 v16 v17 v18 v19 v20 v21 v22 hi hn
   refine aJ ?_
   have hpl:=nM (a0.1,a0.2)
   cases h0:(decide ((v13:Int) < (((aV (a0.1,a0.2)).1.length:Nat):Int))) with
   | true =>
    have q0:=cY h0
    let t1:List (St Try.prog):=[.d h0,.i v13 ((aV (a0.1,a0.2)).1.length),.L kH (aV (a0.1,a0.2)).1 v13 0 9,.c [] (C58 ((aV (a0.1,a0.2)).1.getD (toNat v13) default) ((v14,v15,v16),(v17,v18,v19),(v20,v21,v22)) a1)]
    cases h1:(((oC ((aV (a0.1,a0.2)).1.getD (toNat v13) default) ((v14,v15,v16),(v17,v18,v19),(v20,v21,v22)) a1).2:Int) != 0) with
    | true =>
     have q1:=bne_iff_ne.1 h1
     have e:=Eq.refl (dP a0 a1 (v10,v11,v12,v13,v14,v15,v16,v17,v18,v19,v20,v21,v22));conv at e=>rhs;simp only [dP,h0,h1,aK]
     rw [aD,e]
     exact rt (t1++[.d h1]) [.slot 6 1] [8] hcx (by kernel_rfl)
    | false =>
     have q1:=bne_eq_false_iff_eq.1 h1
     have e:=Eq.refl (dP a0 a1 (v10,v11,v12,v13,v14,v15,v16,v17,v18,v19,v20,v21,v22));conv at e=>rhs;simp only [dP,h0,h1,aK]
     rw [aA e]
     refine ba (t1++[.d h1,.p (show((flat eF v11).length=v11.length*2∧v11.length+1≤2 ^ 40∧(v11.length+1)*16≤2 ^ 47) from fX dJ (by omega) (by omega))]) [] [1,2,8,10,12,13,26,27,28,32,33,34] [2,3,4,9] hcx (m:=n) tH (tI n0) (pT a0 a1 (flat dT v10) (v10.length) (flat eF v11++(k2 (oC ((aV (a0.1,a0.2)).1.getD (toNat v13) default) ((v14,v15,v16),(v17,v18,v19),(v20,v21,v22)) a1).1)) (v11.length+1) v12 (W (v13+1)) v14 v15 v16 v17 v18 v19 v20 v21 v22) (by kernel_rfl) ?_
     have z0:(W (v13+1))=(v13+1):=aE (by omega) (by omega)
     have z1:(flat eF v11++(k2 (oC ((aV (a0.1,a0.2)).1.getD (toNat v13) default) ((v14,v15,v16),(v17,v18,v19),(v20,v21,v22)) a1).1))=(flat eF (v11++[(oC ((aV (a0.1,a0.2)).1.getD (toNat v13) default) ((v14,v15,v16),(v17,v18,v19),(v20,v21,v22)) a1).1])):=(bM (c:=eF) (l:=v11) (m:=[(oC ((aV (a0.1,a0.2)).1.getD (toNat v13) default) ((v14,v15,v16),(v17,v18,v19),(v20,v21,v22)) a1).1])).symm
     have z2:(v11.length+1)=(v11++[(oC ((aV (a0.1,a0.2)).1.getD (toNat v13) default) ((v14,v15,v16),(v17,v18,v19),(v20,v21,v22)) a1).1]).length:=eZ v11 [(oC ((aV (a0.1,a0.2)).1.getD (toNat v13) default) ((v14,v15,v16),(v17,v18,v19),(v20,v21,v22)) a1).1] rfl
     rw [z0,z1,z2]
     exact ih v10 (v11++[(oC ((aV (a0.1,a0.2)).1.getD (toNat v13) default) ((v14,v15,v16),(v17,v18,v19),(v20,v21,v22)) a1).1]) v12 (v13+1) v14 v15 v16 v17 v18 v19 v20 v21 v22 (by refine⟨?_,?_,?_,?_,?_,?_,?_,?_,?_,?_,?_⟩<;>(try simp only [Ls])<;>first | omega | assumption | exact hi.2.1 | exact hi.2.2.1 | exact hi.2.2.2.1 | exact hi.2.2.2.2.1 | exact hi.2.2.2.2.2.1 | exact hi.2.2.2.2.2.2.1 | exact hi.2.2.2.2.2.2.2.1 | exact hi.2.2.2.2.2.2.2.2.1 | exact hi.2.2.2.2.2.2.2.2.2.1 | exact hi.2.2.2.2.2.2.2.2.2.2.1 | simp) (by(try simp only [Ls]);omega)
   | false =>
    have q0:=dU h0
    have e:=Eq.refl (dP a0 a1 (v10,v11,v12,v13,v14,v15,v16,v17,v18,v19,v20,v21,v22));conv at e=>rhs;simp only [dP,h0,aK]
    rw [aD,e]
    refine ba [.d h0,.p (show((flat eF v11)).length=v11.length*2 from by simp [aAx dJ]),.p (show((flat dT v10).length=v10.length*1∧v10.length+1≤2 ^ 40∧(v10.length+1)*24≤2 ^ 47) from fX rP (by omega) (by omega))] [] [1,2,8,10,26,27,28] [2,7] hcx (m:=n0) nP (nQ) (lI a0 a1 (flat dT v10++[(.d (flat eF v11) v11.length 2)]) (v10.length+1) (W (v12+1))) (by kernel_rfl) ?_
    have z0:(W (v12+1))=(v12+1):=aE (by omega) (by omega)
    have z1:(flat dT v10++[(.d (flat eF v11) v11.length 2)])=(flat dT (v10++[v11])):=(bM (c:=dT) (l:=v10) (m:=[v11])).symm
    have z2:(v10.length+1)=(v10++[v11]).length:=eZ v10 [v11] rfl
    rw [z0,z1,z2]
    exact g0 (v10++[v11]) (v12+1) (by refine⟨?_,?_,?_⟩<;>(try simp only [Ls])<;>first | omega | assumption | simp) (by(try simp only [Ls]);omega)
theorem aI8 (a0:Zm)(a1:Int)(l0_1:a0.1.length≤9223372036854775807)(l0_2:a0.2.length≤9223372036854775807) {cx:Cx} (hcx:cx.base=2):∀(n:Nat)(v8:List (List (Int×Int)))(v9:Int),(0≤v9)∧(v8.length=toNat v9)∧(v9≤(aV (a0.1,a0.2)).1.length)→toNat ((((aV (a0.1,a0.2)).1.length:Nat):Int) - v9) < n→Aw.Good Try.prog none 9 (bodyPost Try.prog Try.f56 (RR cx (.t [(.s 2 0 (aC (bX a0 a1) n (v8,v9)).1.length 1),(iv (aC (bX a0 a1) n (v8,v9)).2)]) [(.live true true (flat dT (aC (bX a0 a1) n (v8,v9)).1))] [])) cx [] (.l nP n::nQ) (lI a0 a1 (flat dT v8) v8.length v9):=by
 intro n
 induction n with
 | zero=>intro v8 v9 hi hn;exact absurd hn (jV _)
 | succ n ih =>
   intro v8 v9 hi hn
   refine aJ ?_
   have hpl:=nM (a0.1,a0.2)
   cases h0:(decide ((v9:Int) < (((aV (a0.1,a0.2)).1.length:Nat):Int))) with
   | true =>
    have q0:=cY h0
    have e:=Eq.refl (bX a0 a1 (v8,v9));conv at e=>rhs;simp only [bX,h0,aK]
    rw [aD,e]
    refine en [.d h0,.i v9 ((aV (a0.1,a0.2)).1.length),.L kH (aV (a0.1,a0.2)).1 v9 0 9] [.slot 13 2] [1,2,8,10,12,13,26,27,28,32,33,34] [2,3,4,5] hcx tH (tI n) (pT a0 a1 (flat dT v8) (v8.length) (flat eF ([]:List (Int×Int))) 0 v9 0 (((aV (a0.1,a0.2)).1.getD (toNat v9) default).1.1) (((aV (a0.1,a0.2)).1.getD (toNat v9) default).1.2.1) (((aV (a0.1,a0.2)).1.getD (toNat v9) default).1.2.2) (((aV (a0.1,a0.2)).1.getD (toNat v9) default).2.1.1) (((aV (a0.1,a0.2)).1.getD (toNat v9) default).2.1.2.1) (((aV (a0.1,a0.2)).1.getD (toNat v9) default).2.1.2.2) (((aV (a0.1,a0.2)).1.getD (toNat v9) default).2.2.1) (((aV (a0.1,a0.2)).1.getD (toNat v9) default).2.2.2.1) (((aV (a0.1,a0.2)).1.getD (toNat v9) default).2.2.2.2)) (toNat ((((aV (a0.1,a0.2)).1.length:Nat):Int) - 0)+1) (by kernel_rfl) ?_
    exact aI7 a0 a1 l0_1 l0_2 hcx n ih (toNat ((((aV (a0.1,a0.2)).1.length:Nat):Int) - 0)+1) v8 ([]:List (Int×Int)) v9 0 (((aV (a0.1,a0.2)).1.getD (toNat v9) default).1.1) (((aV (a0.1,a0.2)).1.getD (toNat v9) default).1.2.1) (((aV (a0.1,a0.2)).1.getD (toNat v9) default).1.2.2) (((aV (a0.1,a0.2)).1.getD (toNat v9) default).2.1.1) (((aV (a0.1,a0.2)).1.getD (toNat v9) default).2.1.2.1) (((aV (a0.1,a0.2)).1.getD (toNat v9) default).2.1.2.2) (((aV (a0.1,a0.2)).1.getD (toNat v9) default).2.2.1) (((aV (a0.1,a0.2)).1.getD (toNat v9) default).2.2.2.1) (((aV (a0.1,a0.2)).1.getD (toNat v9) default).2.2.2.2) (by refine⟨?_,?_,?_,?_,?_,?_,?_,?_,?_,?_,?_⟩<;>(try simp only [Ls])<;>first | omega | assumption | exact hi.2.1 | exact hi.2.2.1 | exact hi.2.2.2.1 | exact hi.2.2.2.2.1 | exact hi.2.2.2.2.2.1 | exact hi.2.2.2.2.2.2.1 | exact hi.2.2.2.2.2.2.2.1 | exact hi.2.2.2.2.2.2.2.2.1 | exact hi.2.2.2.2.2.2.2.2.2.1 | exact hi.2.2.2.2.2.2.2.2.2.2.1 | simp) (by(try simp only [Ls]);omega)
   | false =>
    have q0:=dU h0
    have e:=Eq.refl (bX a0 a1 (v8,v9));conv at e=>rhs;simp only [bX,h0,aK]
    rw [aD,e]
    exact rt [.d h0] [] [3] hcx (by kernel_rfl)
def bP (a0:Zm)(a1:Int):(List (List (Int×Int)))×Int :=
 (bif (((aV (a0.1,a0.2)).2:Int) != 0) then
  (([]:List (List (Int×Int))),(aV (a0.1,a0.2)).2)
 else
  (aC (bX a0 a1) (toNat ((((aV (a0.1,a0.2)).1.length:Nat):Int) - 0)+1) (([]:List (List (Int×Int))),0)))
theorem aO4 (a0:Zm)(a1:Int)(l0_1:a0.1.length≤9223372036854775807)(l0_2:a0.2.length≤9223372036854775807):Con Try.prog 56 [(.a [(.s 0 0 a0.1.length 3),(.s 1 0 a0.2.length 3)]),(iv a1),(.v (.func (.func 58) #[] #[]))] [(.live false true (flat dD a0.1)),(.live false true (flat eE a0.2))] (.t [(.s 2 0 (bP a0 a1).1.length 1),(iv (bP a0 a1).2)]) [(.live true true (flat dT (bP a0 a1).1))]:=by
 refine aL Try.func56 (by kernel_rfl) fun cx hcx=>?_
 have hpl:=nM (a0.1,a0.2)
 let t0:List (St Try.prog):=[.c [0,1] (C79 (a0.1,a0.2) (by(try simp only [Lt]);omega) (by(try simp only [Lt]);omega))]
 cases h0:(((aV (a0.1,a0.2)).2:Int) != 0) with
 | true =>
  have q0:=bne_iff_ne.1 h0
  have e:=Eq.refl (bP a0 a1);conv at e=>rhs;simp only [bP,h0,aK]
  rw [e]
  exact rt (t0++[.d h0]) [.slot 6 1] [4] hcx (by kernel_rfl)
 | false =>
  have q0:=bne_eq_false_iff_eq.1 h0
  have e:=Eq.refl (bP a0 a1);conv at e=>rhs;simp only [bP,h0,aK]
  rw [e]
  refine en (t0++[.d h0]) [.slot 10 1] [1,2,8,10,26,27,28] [3,4] hcx nP (nQ) (lI a0 a1 (flat dT ([]:List (List (Int×Int)))) 0 0) (toNat ((((aV (a0.1,a0.2)).1.length:Nat):Int) - 0)+1) (by kernel_rfl) ?_
  exact aI8 a0 a1 l0_1 l0_2 hcx (toNat ((((aV (a0.1,a0.2)).1.length:Nat):Int) - 0)+1) ([]:List (List (Int×Int))) 0 (by refine⟨?_,?_,?_⟩<;>(try simp only [Ls])<;>first | omega | assumption | simp) (by(try simp only [Ls]);omega)
noncomputable def tJ:Code:=(aF [1,1,0,1] [] (aI Try.f60) []).1
noncomputable def tK:List K:=(aF [1,1,0,1] [] (aI Try.f60) []).2
def pU (a0:List (List (Int×Int)))(a1:List (Int))(v2c:List SV)(v2n:Nat)(v3:Int):LS:=⟨jW 32 [(1,(.s 1 0 a1.length 1)),(6,(.s 2 0 v2n 2)),(11,(.s 0 0 a0.length 1)),(12,(iv (a0.length:Int))),(13,(iv v3))],[(.live false true (flat dT a0)),(.live false true (flat c3 a1)),(.live true true v2c)]⟩
def cW (a0:List (List (Int×Int)))(a1:List (Int)):(List (Int×Int))×Int→((List (Int×Int))×Int)⊕((List (Int×Int))×Int)
 | (v2,v3) =>
  (bif (decide ((v3:Int) < (a0.length:Int))) then
   (bif (((bZ (a0.getD (toNat v3) default) a1).2:Int) != 0) then
    (.inr (([]:List (Int×Int)),(bZ (a0.getD (toNat v3) default) a1).2))
   else
    (.inl ((v2++[(bZ (a0.getD (toNat v3) default) a1).1]),(v3+1))))
  else
   (.inr (v2,0)))
theorem aI9 (a0:List (List (Int×Int)))(a1:List (Int))(l0:a0.length≤9223372036854775807)(l1:a1.length≤9223372036854775807)(hr:∀r∈a0,r.length≤a1.length)(hn:a0.length≤96)(hm:a1.length≤96) {cx:Cx} (hcx:cx.base=2):∀(n:Nat)(v2:List (Int×Int))(v3:Int),(0≤v3)∧(v2.length=toNat v3)∧(v3≤a0.length)→toNat ((a0.length:Int) - v3) < n→Aw.Good Try.prog none 9 (bodyPost Try.prog Try.f60 (RR cx (.t [(.s 2 0 (aC (cW a0 a1) n (v2,v3)).1.length 2),(iv (aC (cW a0 a1) n (v2,v3)).2)]) [(.live true true (flat eF (aC (cW a0 a1) n (v2,v3)).1))] [])) cx [] (.l tJ n::tK) (pU a0 a1 (flat eF v2) v2.length v3):=by
 intro n
 induction n with
 | zero=>intro v2 v3 hi hn;exact absurd hn (jV _)
 | succ n ih =>
   intro v2 v3 hi hn
   refine aJ ?_
   have hrl:=aRr hr v3
   cases h0:(decide ((v3:Int) < (a0.length:Int))) with
   | true =>
    have q0:=cY h0
    let t1:List (St Try.prog):=[.d h0,.i v3 (a0.length),.L rP a0 v3 0 1,.p (aBt (c:=eF) (fun _=>rfl) (a0.getD (toNat v3) default)),.c [3,1] (aHx (a0.getD (toNat v3) default) a1 (by(try simp only [Lt]);omega) (by omega) (by omega) (by omega))]
    cases h1:(((bZ (a0.getD (toNat v3) default) a1).2:Int) != 0) with
    | true =>
     have q1:=bne_iff_ne.1 h1
     have e:=Eq.refl (cW a0 a1 (v2,v3));conv at e=>rhs;simp only [cW,h0,h1,aK]
     rw [aD,e]
     exact rt (t1++[.d h1]) [.slot 4 2] [5] hcx (by kernel_rfl)
    | false =>
     have q1:=bne_eq_false_iff_eq.1 h1
     have e:=Eq.refl (cW a0 a1 (v2,v3));conv at e=>rhs;simp only [cW,h0,h1,aK]
     rw [aA e]
     refine ba (t1++[.d h1,.p (show((flat eF v2).length=v2.length*2∧v2.length+1≤2 ^ 40∧(v2.length+1)*16≤2 ^ 47) from fX dJ (by omega) (by omega))]) [] [1,6,11,12,13] [6] hcx (m:=n) tJ (tK) (pU a0 a1 (flat eF v2++(k2 (bZ (a0.getD (toNat v3) default) a1).1)) (v2.length+1) (W (v3+1))) (by kernel_rfl) ?_
     have z0:(W (v3+1))=(v3+1):=aE (by omega) (by omega)
     have z1:(flat eF v2++(k2 (bZ (a0.getD (toNat v3) default) a1).1))=(flat eF (v2++[(bZ (a0.getD (toNat v3) default) a1).1])):=(bM (c:=eF) (l:=v2) (m:=[(bZ (a0.getD (toNat v3) default) a1).1])).symm
     have z2:(v2.length+1)=(v2++[(bZ (a0.getD (toNat v3) default) a1).1]).length:=eZ v2 [(bZ (a0.getD (toNat v3) default) a1).1] rfl
     rw [z0,z1,z2]
     exact ih (v2++[(bZ (a0.getD (toNat v3) default) a1).1]) (v3+1) (by refine⟨?_,?_,?_⟩<;>(try simp only [Ls])<;>first | omega | assumption | simp) (by(try simp only [Ls]);omega)
   | false =>
    have q0:=dU h0
    have e:=Eq.refl (cW a0 a1 (v2,v3));conv at e=>rhs;simp only [cW,h0,aK]
    rw [aD,e]
    exact rt [.d h0] [] [2] hcx (by kernel_rfl)
def aW (a0:List (List (Int×Int)))(a1:List (Int)):(List (Int×Int))×Int :=
 (aC (cW a0 a1) (toNat ((a0.length:Int) - 0)+1) (([]:List (Int×Int)),0))
theorem aO5 (a0:List (List (Int×Int)))(a1:List (Int))(l0:a0.length≤9223372036854775807)(l1:a1.length≤9223372036854775807)(hr:∀r∈a0,r.length≤a1.length)(hn:a0.length≤96)(hm:a1.length≤96):Con Try.prog 60 [(.s 0 0 a0.length 1),(.s 1 0 a1.length 1)] [(.live false true (flat dT a0)),(.live false true (flat c3 a1))] (.t [(.s 2 0 (aW a0 a1).1.length 2),(iv (aW a0 a1).2)]) [(.live true true (flat eF (aW a0 a1).1))]:=by
 refine aL Try.func60 (by kernel_rfl) fun cx hcx=>?_
 have e:=Eq.refl (aW a0 a1);conv at e=>rhs;simp only [aW]
 rw [e]
 refine en [] [.slot 6 2] [1,6,11,12,13] [2] hcx tJ (tK) (pU a0 a1 (flat eF ([]:List (Int×Int))) 0 0) (toNat ((a0.length:Int) - 0)+1) (by kernel_rfl) ?_
 exact aI9 a0 a1 l0 l1 hr hn hm hcx (toNat ((a0.length:Int) - 0)+1) ([]:List (Int×Int)) 0 (by refine⟨?_,?_,?_⟩<;>(try simp only [Ls])<;>first | omega | assumption | simp) (by(try simp only [Ls]);omega)
noncomputable def tL:Code:=(aF [1,1,1,0,1,0,1,1,0,1,1] [0] (aI Try.f62) []).1
noncomputable def tM (m0:Nat):List K:=(aF [1,1,1,0,1,0,1,1,0,1,1] [m0] (aI Try.f62) []).2
def pV (a0:List (List (Int×Int)))(a1:List (Int))(v14c:List SV)(v14n:Nat)(v15c:List SV)(v15n:Nat)(v16 v17 v18 v19:Int):LS:=⟨jW 49 [(0,(.s 0 0 a0.length 1)),(1,(.s 1 0 a1.length 1)),(4,(.p 2 0)),(6,(.s 3 0 v14n 2)),(7,(.s 4 0 v15n 1)),(8,(iv v16)),(9,(iv v17)),(12,(.s 1 0 a1.length 1)),(13,(iv (a1.length:Int))),(14,(iv v18)),(19,(.s 1 0 a1.length 1)),(20,(iv (a1.length:Int))),(21,(iv v19))],[(.live false true (flat dT a0)),(.live false true (flat c3 a1)),(.live true false [(iv 0),(iv 0)]),(.live true true v14c),(.live true true v15c)]⟩
def dQ (a0:List (List (Int×Int)))(a1:List (Int)):(List (Int×Int))×List (Int)×Int×Zt→((List (Int×Int))×List (Int)×Int×Zt)⊕(((List (Int×Int))×List (Int)×Int)⊕((Int×Int)×Int))
 | (v14,v15,v16,v17,v18,v19) =>
  (bif (decide ((v19:Int) < (a1.length:Int))) then
   (.inl ((v14++[((a0.getD (toNat v19) default).getD (toNat v16) default)]),(v15++[(W (v17*(a1.getD (toNat v19) default)))]),v16,v17,v18,(v19+1)))
  else
   (.inr (.inl (v14,v15,(v18+1)))))
noncomputable def nR:Code:=(aF [1,1,1,0,1] [] (aI Try.f62) []).1
noncomputable def nS:List K:=(aF [1,1,1,0,1] [] (aI Try.f62) []).2
def lJ (a0:List (List (Int×Int)))(a1:List (Int))(v11c:List SV)(v11n:Nat)(v12c:List SV)(v12n:Nat)(v13:Int):LS:=⟨jW 49 [(0,(.s 0 0 a0.length 1)),(1,(.s 1 0 a1.length 1)),(4,(.p 2 0)),(6,(.s 3 0 v11n 2)),(7,(.s 4 0 v12n 1)),(12,(.s 1 0 a1.length 1)),(13,(iv (a1.length:Int))),(14,(iv v13))],[(.live false true (flat dT a0)),(.live false true (flat c3 a1)),(.live true false [(iv 0),(iv 0)]),(.live true true v11c),(.live true true v12c)]⟩
def cJ (a0:List (List (Int×Int)))(a1:List (Int)):(List (Int×Int))×List (Int)×Int→((List (Int×Int))×List (Int)×Int)⊕((Int×Int)×Int)
 | (v11,v12,v13) =>
  (bif (decide ((v13:Int) < (a1.length:Int))) then
   (aC (dQ a0 a1) (toNat ((a1.length:Int) - 0)+1) (v11,v12,v13,(a1.getD (toNat v13) default),v13,0))
  else
   (.inr ((bZ v11 v12).1,(bZ v11 v12).2)))
theorem aJa (a0:List (List (Int×Int)))(a1:List (Int))(l0:a0.length≤9223372036854775807)(l1:a1.length≤9223372036854775807)(hl:a0.length=a1.length)(hr:∀r∈a0,r.length=a1.length)(hm:a1.length≤96) {cx:Cx} (hcx:cx.base=2)
   (n0:Nat) (g0:∀(v11:List (Int×Int)) (v12:List (Int)) (v13:Int),(0≤v13)∧(v11.length≤96*toNat v13)∧(v12.length=v11.length)∧(v13≤a1.length)→toNat ((a1.length:Int) - v13) < n0→Aw.Good Try.prog none 9 (bodyPost Try.prog Try.f62 (RR cx (.t [(.a (k2 (aC (cJ a0 a1) n0 (v11,v12,v13)).1)),(iv (aC (cJ a0 a1) n0 (v11,v12,v13)).2)]) [] [])) cx [] (.l nR n0::nS) (lJ a0 a1 (flat eF v11) v11.length (flat c3 v12) v12.length v13)):∀(n:Nat) (v14:List (Int×Int)) (v15:List (Int)) (v16 v17 v18 v19:Int),(0≤v19)∧(v14.length≤96*toNat v18+toNat v19)∧(v15.length=v14.length)∧(0≤v16)∧(v16 < a1.length)∧(0≤v18)∧(v18 < a1.length)∧(v19≤a1.length)∧((0≤v18))∧((v15.length=v14.length))∧((v18≤a1.length))∧(v18 < (a1.length:Int))∧(toNat ((a1.length:Int) - v18) < n0+1)→toNat ((a1.length:Int) - v19) < n→Aw.Good Try.prog none 9 (bodyPost Try.prog Try.f62 (RR cx (.t [(.a (k2 (kF (cJ a0 a1) n0 (aC (dQ a0 a1) n (v14,v15,v16,v17,v18,v19))).1)),(iv (kF (cJ a0 a1) n0 (aC (dQ a0 a1) n (v14,v15,v16,v17,v18,v19))).2)]) [] [])) cx [] (.l tL n::tM n0) (pV a0 a1 (flat eF v14) v14.length (flat c3 v15) v15.length v16 v17 v18 v19):=by
 intro n
 induction n with
 | zero=>intro v14 v15 v16 v17 v18 v19 hi hn;exact absurd hn (jV _)
 | succ n ih =>
   intro v14 v15 v16 v17 v18 v19 hi hn
   refine aJ ?_
   have hrl:=aRq hr v19
   cases h0:(decide ((v19:Int) < (a1.length:Int))) with
   | true =>
    have q0:=cY h0
    have e:=Eq.refl (dQ a0 a1 (v14,v15,v16,v17,v18,v19));conv at e=>rhs;simp only [dQ,h0,aK]
    rw [aA e]
    refine ba [.d h0,.i v19 (a1.length),.L mN a1 v19 0 1,.i v19 (a0.length),.L rP a0 v19 0 1,.p (aBt (c:=eF) (fun _=>rfl) (a0.getD (toNat v19) default)),.i v16 ((a0.getD (toNat v19) default).length),.L dJ (a0.getD (toNat v19) default) v16 0 2,.p (show((flat eF v14).length=v14.length*2∧v14.length+1≤2 ^ 40∧(v14.length+1)*16≤2 ^ 47) from fX dJ (by omega) (by omega)),.p (show((flat c3 v15).length=v15.length*1∧v15.length+1≤2 ^ 40∧(v15.length+1)*8≤2 ^ 47) from fX mN (by omega) (by omega))] [] [0,1,4,6,7,8,9,12,13,14,19,20,21] [2,7,9] hcx (m:=n) tL (tM n0) (pV a0 a1 (flat eF v14++(k2 ((a0.getD (toNat v19) default).getD (toNat v16) default))) (v14.length+1) (flat c3 v15++[(iv (W (v17*(a1.getD (toNat v19) default))))]) (v15.length+1) v16 v17 v18 (W (v19+1))) (by kernel_rfl) ?_
    have z0:(W (v19+1))=(v19+1):=aE (by omega) (by omega)
    have z1:(flat eF v14++(k2 ((a0.getD (toNat v19) default).getD (toNat v16) default)))=(flat eF (v14++[((a0.getD (toNat v19) default).getD (toNat v16) default)])):=(bM (c:=eF) (l:=v14) (m:=[((a0.getD (toNat v19) default).getD (toNat v16) default)])).symm
    have z2:(v14.length+1)=(v14++[((a0.getD (toNat v19) default).getD (toNat v16) default)]).length:=eZ v14 [((a0.getD (toNat v19) default).getD (toNat v16) default)] rfl
    have z3:(flat c3 v15++[(iv (W (v17*(a1.getD (toNat v19) default))))])=(flat c3 (v15++[(W (v17*(a1.getD (toNat v19) default)))])):=(bM (c:=c3) (l:=v15) (m:=[(W (v17*(a1.getD (toNat v19) default)))])).symm
    have z4:(v15.length+1)=(v15++[(W (v17*(a1.getD (toNat v19) default)))]).length:=eZ v15 [(W (v17*(a1.getD (toNat v19) default)))] rfl
    rw [z0,z1,z2,z3,z4]
    exact ih (v14++[((a0.getD (toNat v19) default).getD (toNat v16) default)]) (v15++[(W (v17*(a1.getD (toNat v19) default)))]) v16 v17 v18 (v19+1) (by refine⟨?_,?_,?_,?_,?_,?_,?_,?_,?_,?_,?_,?_,?_⟩<;>(try simp only [Ls])<;>first | omega | assumption | exact hi.2.1 | exact hi.2.2.1 | exact hi.2.2.2.1 | exact hi.2.2.2.2.1 | exact hi.2.2.2.2.2.1 | exact hi.2.2.2.2.2.2.1 | exact hi.2.2.2.2.2.2.2.1 | exact hi.2.2.2.2.2.2.2.2.1 | exact hi.2.2.2.2.2.2.2.2.2.1 | exact hi.2.2.2.2.2.2.2.2.2.2.1 | exact hi.2.2.2.2.2.2.2.2.2.2.2.1 | exact hi.2.2.2.2.2.2.2.2.2.2.2.2.1 | simp) (by(try simp only [Ls]);omega)
   | false =>
    have q0:=dU h0
    have e:=Eq.refl (dQ a0 a1 (v14,v15,v16,v17,v18,v19));conv at e=>rhs;simp only [dQ,h0,aK]
    rw [aD,e]
    refine ba [.d h0] [] [0,1,4,6,7,12,13,14] [2,3,4] hcx (m:=n0) nR (nS) (lJ a0 a1 (flat eF v14) (v14.length) (flat c3 v15) (v15.length) (W (v18+1))) (by kernel_rfl) ?_
    have z0:(W (v18+1))=(v18+1):=aE (by omega) (by omega)
    rw [z0]
    exact g0 v14 v15 (v18+1) (by refine⟨?_,?_,?_,?_⟩<;>(try simp only [Ls])<;>first | omega | assumption | simp) (by(try simp only [Ls]);omega)
theorem aJb (a0:List (List (Int×Int)))(a1:List (Int))(l0:a0.length≤9223372036854775807)(l1:a1.length≤9223372036854775807)(hl:a0.length=a1.length)(hr:∀r∈a0,r.length=a1.length)(hm:a1.length≤96) {cx:Cx} (hcx:cx.base=2):∀(n:Nat)(v11:List (Int×Int))(v12:List (Int))(v13:Int),(0≤v13)∧(v11.length≤96*toNat v13)∧(v12.length=v11.length)∧(v13≤a1.length)→toNat ((a1.length:Int) - v13) < n→Aw.Good Try.prog none 9 (bodyPost Try.prog Try.f62 (RR cx (.t [(.a (k2 (aC (cJ a0 a1) n (v11,v12,v13)).1)),(iv (aC (cJ a0 a1) n (v11,v12,v13)).2)]) [] [])) cx [] (.l nR n::nS) (lJ a0 a1 (flat eF v11) v11.length (flat c3 v12) v12.length v13):=by
 intro n
 induction n with
 | zero=>intro v11 v12 v13 hi hn;exact absurd hn (jV _)
 | succ n ih =>
   intro v11 v12 v13 hi hn
   refine aJ ?_
   cases h0:(decide ((v13:Int) < (a1.length:Int))) with
   | true =>
    have q0:=cY h0
    have e:=Eq.refl (cJ a0 a1 (v11,v12,v13));conv at e=>rhs;simp only [cJ,h0,aK]
    rw [aD,e]
    refine en [.d h0,.i v13 (a1.length),.L mN a1 v13 0 1] [] [0,1,4,6,7,8,9,12,13,14,19,20,21] [2,3,4] hcx tL (tM n) (pV a0 a1 (flat eF v11) (v11.length) (flat c3 v12) (v12.length) v13 (a1.getD (toNat v13) default) v13 0) (toNat ((a1.length:Int) - 0)+1) (by kernel_rfl) ?_
    exact aJa a0 a1 l0 l1 hl hr hm hcx n ih (toNat ((a1.length:Int) - 0)+1) v11 v12 v13 (a1.getD (toNat v13) default) v13 0 (by refine⟨?_,?_,?_,?_,?_,?_,?_,?_,?_,?_,?_,?_,?_⟩<;>(try simp only [Ls])<;>first | omega | assumption | exact hi.2.1 | exact hi.2.2.1 | exact hi.2.2.2.1 | exact hi.2.2.2.2.1 | exact hi.2.2.2.2.2.1 | exact hi.2.2.2.2.2.2.1 | exact hi.2.2.2.2.2.2.2.1 | exact hi.2.2.2.2.2.2.2.2.1 | exact hi.2.2.2.2.2.2.2.2.2.1 | exact hi.2.2.2.2.2.2.2.2.2.2.1 | exact hi.2.2.2.2.2.2.2.2.2.2.2.1 | exact hi.2.2.2.2.2.2.2.2.2.2.2.2.1 | simp) (by(try simp only [Ls]);omega)
   | false =>
    have q0:=dU h0
    have e:=Eq.refl (cJ a0 a1 (v11,v12,v13));conv at e=>rhs;simp only [cJ,h0,aK]
    rw [aD,e]
    exact rt [.d h0,.c [3,4] (aHx v11 v12 (by omega) (by omega) (by omega) (by omega))] [] [] hcx (by kernel_rfl)
def cK (a0:List (List (Int×Int)))(a1:List (Int)):(Int×Int)×Int :=
 (aC (cJ a0 a1) (toNat ((a1.length:Int) - 0)+1) (([]:List (Int×Int)),([]:List (Int)),0))
theorem aO6 (a0:List (List (Int×Int)))(a1:List (Int))(l0:a0.length≤9223372036854775807)(l1:a1.length≤9223372036854775807)(hl:a0.length=a1.length)(hr:∀r∈a0,r.length=a1.length)(hm:a1.length≤96):Con Try.prog 62 [(.s 0 0 a0.length 1),(.s 1 0 a1.length 1)] [(.live false true (flat dT a0)),(.live false true (flat c3 a1))] (.t [(.a (k2 (cK a0 a1).1)),(iv (cK a0 a1).2)]) []:=by
 refine aL Try.func62 (by kernel_rfl) fun cx hcx=>?_
 have e:=Eq.refl (cK a0 a1);conv at e=>rhs;simp only [cK]
 rw [e]
 refine en [] [.slot 6 2,.slot 7 1] [0,1,4,6,7,12,13,14] [2,3,4] hcx nR (nS) (lJ a0 a1 (flat eF ([]:List (Int×Int))) 0 (flat c3 ([]:List (Int))) 0 0) (toNat ((a1.length:Int) - 0)+1) (by kernel_rfl) ?_
 exact aJb a0 a1 l0 l1 hl hr hm hcx (toNat ((a1.length:Int) - 0)+1) ([]:List (Int×Int)) ([]:List (Int)) 0 (by refine⟨?_,?_,?_,?_⟩<;>(try simp only [Ls])<;>first | omega | assumption | simp) (by(try simp only [Ls]);omega)
abbrev TB:=List (List (Int×Int))
theorem aHy {S1:TB×List (Int×Int)×Int×Int×Int×Int×Int×Int×Int×Int×Zt→(TB×List (Int×Int)×Int×Int×Int×Int×Int×Int×Int×Int×Zt)⊕((TB×Int)⊕(TB×Int))} {S0:TB×Int→(TB×Int)⊕(TB×Int)}
   (L:List PN) (of:PN→PN→(Int×Int)×Int) (hof:∀p∈L,∀q∈L,(of p q).2=0)
   (hS1:∀(out:TB) (row:List (Int×Int)) (i j:Int) (q:PN),S1 (out,row,i,j,q.1.1,q.1.2.1,q.1.2.2,q.2.1.1,q.2.1.2.1,q.2.1.2.2,q.2.2.1,q.2.2.2.1,q.2.2.2.2) =
     bif decide (j < (L.length:Int)) then(bif ((of (L.getD (toNat j) default) q).2 != 0) then .inr (.inr ([],(of (L.getD (toNat j) default) q).2)) else .inl (out,row++[(of (L.getD (toNat j) default) q).1],i,j+1,q.1.1,q.1.2.1,q.1.2.2,q.2.1.1,q.2.1.2.1,q.2.1.2.2,q.2.2.1,q.2.2.2.1,q.2.2.2.2)) else .inr (.inl (out++[row],i+1)))
   (hS0:∀(out:TB) (i:Int),S0 (out,i)=bif decide (i < (L.length:Int)) then aC S1 (toNat ((L.length:Int) - 0)+1) (out,[],i,0,(L.getD (toNat i) default).1.1,(L.getD (toNat i) default).1.2.1,(L.getD (toNat i) default).1.2.2,(L.getD (toNat i) default).2.1.1,(L.getD (toNat i) default).2.1.2.1,(L.getD (toNat i) default).2.1.2.2,(L.getD (toNat i) default).2.2.1,(L.getD (toNat i) default).2.2.2.1,(L.getD (toNat i) default).2.2.2.2) else .inr (out,0)) :
   aC S0 (toNat ((L.length:Int) - 0)+1) ([],0)=(L.map fun q=>L.map fun p=>(of p q).1,0):=by
 have snoc:∀{α β:Type} (g:α→β) (l:List α) (v:List β),l.foldl (fun v c=>v++[g c]) v=v++l.map g:=by
   intro α β g l
   induction l with
   | nil=>intro v;simp
   | cons c l ih=>intro v;rw [List.foldl_cons,ih];simp
 have inner:∀(out:TB) (i:Int) (q:PN),q∈L→aC S1 (toNat ((L.length:Int) - 0)+1) (out,[],i,0,q.1.1,q.1.2.1,q.1.2.2,q.2.1.1,q.2.1.2.1,q.2.1.2.2,q.2.2.1,q.2.2.2.1,q.2.2.2.2)=.inl (out++[L.map fun p=>(of p q).1],i+1):=by
   intro out i q hq
   rw [cG (fun row j=>(out,row,i,j,q.1.1,q.1.2.1,q.1.2.2,q.2.1.1,q.2.1.2.1,q.2.1.2.2,q.2.2.1,q.2.2.2.1,q.2.2.2.2)) (fun row p=>.inl (row++[(of p q).1])) (fun row=>.inl (out++[row],i+1)) (L:=L) (fun _ _=>True) ?_ (fun _ _ _ _ _ _ _=>trivial) ?_ (by omega) trivial]
   · rw [cV,snoc];rfl
   · intro j c hc row _
     obtain⟨hlt,hce⟩:=List.getElem?_eq_some_iff.1 hc
     rw [hS1,eK (by omega),cond_true,cH hc,hof c (List.mem_of_getElem? hc) q hq]
     rfl
   · intro row _
     rw [hS1,fN (by omega),cond_false]
 rw [cG (fun out i=>(out,i)) (fun out q=>.inl (out++[L.map fun p=>(of p q).1])) (fun out=>(out,0)) (L:=L) (fun _ _=>True) ?_ (fun _ _ _ _ _ _ _=>trivial) ?_ (by omega) trivial]
 · rw [cV,snoc];rfl
 · intro i c hc out _
   obtain⟨hlt,hce⟩:=List.getElem?_eq_some_iff.1 hc
   rw [hS0,eK (by omega),cond_true,cH hc,inner out i c (List.mem_of_getElem? hc)]
   rfl
 · intro out _
   rw [hS0,fN (by omega),cond_false]
abbrev pans (m:ME):List PN:=m.2.map (lP m)
theorem aQd {m:ME} (h:cZ m=0):aV m=(pans m,0):=by
 rw [aQc,h];rfl
theorem aHz {m:ME} {d:Int} (h:cZ m=0)(hd:0≤d∧d≤2):bI m d=((pans m).map fun q=>(pans m).map fun p=>(uH p q d).1,0):=by
 have hP:=aQd h
 have g:=aHy (S1:=dO m d) (S0:=bW m d) (aV m).1 (fun p q=>uH p q d) (by
   rw [hP];exact fun p hp q hq=>(mQ (mT h hd hp hq)).1) (fun out row i j q=>rfl) (fun out i=>rfl)
 unfold bI
 show(bif ((aV m).2 != 0) then _ else _)=_
 rw [show((aV m).2 != 0)=false from by rw [hP];rfl,cond_false]
 refine Eq.trans g ?_
 rw [hP]
theorem aH0 {m:ME} {d:Int} (h:cZ m=0)(hd:0≤d∧d≤2):bP m d=((pans m).map fun q=>(pans m).map fun p=>(oC p q d).1,0):=by
 have hP:=aQd h
 have g:=aHy (S1:=dP m d) (S0:=bX m d) (aV m).1 (fun p q=>oC p q d) (by
   rw [hP];exact fun p hp q hq=>(pQ (mT h hd hp hq)).1) (fun out row i j q=>rfl) (fun out i=>rfl)
 unfold bP
 show(bif ((aV m).2 != 0) then _ else _)=_
 rw [show((aV m).2 != 0)=false from by rw [hP];rfl,cond_false]
 refine Eq.trans g ?_
 rw [hP]
def okC (q:List Int):Prop:=∀c∈q,0≤c∧c≤100
def aCg (q:List Int)(v:Int):Int:=q.foldl (fun v c=>W (v+c)) v
theorem aCh:∀(q:List Int)(v:Int),okC q→0≤v→v+100*(q.length:Int)≤1000000→aCg q v=v+q.sum∧v≤v+q.sum∧v+q.sum≤v+100*(q.length:Int)
 | [],v,_,_,_=>by simp [aCg]
 | c::q,v,h,h0,h1=>by
   have hc:=h c List.mem_cons_self
   simp only [List.length_cons] at h1
   have ih:=aCh q (v+c) (fun x hx=>h x (List.mem_cons_of_mem _ hx)) (by omega) (by omega)
   have e:aCg (c::q) v=aCg q (v+c):=by
     show aCg q (W (v+c))=_
     rw [aE (by omega) (by omega)]
   rw [e]
   simp only [List.sum_cons,List.length_cons]
   omega
theorem aA4:∀(q:List Int)(v:Int),(jB (R:=Int) (fun v c=>bif (!qD c 0 100) then .inr 1 else .inl (W (v+c))) q v=.inr 1∧jB (σ:=Unit) (R:=Int) (fun _ c=>bif (!qD c 0 100) then .inr 1 else .inl ()) q ()=.inr 1) ∨
   (jB (R:=Int) (fun v c=>bif (!qD c 0 100) then .inr 1 else .inl (W (v+c))) q v=.inl (aCg q v)∧jB (σ:=Unit) (R:=Int) (fun _ c=>bif (!qD c 0 100) then .inr 1 else .inl ()) q ()=.inl ()∧okC q)
 | [],v=>.inr ⟨rfl,rfl,fun c hc=>by simp at hc⟩
 | c::q,v=>by
   simp only [jB]
   cases hc:(!qD c 0 100) with
   | true=>exact .inl ⟨rfl,rfl⟩
   | false =>
     simp only [cond_false]
     rcases aA4 q (W (v+c)) with h | ⟨h1,h2,h3⟩
     · exact .inl h
     · refine .inr ⟨h1,h2,fun x hx=>?_⟩
       rcases List.mem_cons.1 hx with rfl | hx
       · exact mM hc
       · exact h3 x hx
theorem aUn (q:List Int):cI q=W ((W (aCg q 0*1048576))*1048576):=by
 unfold cI
 rw [cG (fun v i=>(v,i)) (fun v c=>.inl (W (v+c))) (fun v=>W ((W (v*1048576))*1048576)) (L:=q) (fun _ _=>True) ?_ (fun _ _ _ _ _ _ _=>trivial) ?_ (by omega) trivial]
 · rw [cV];rfl
 · intro i c hc v _
   obtain⟨hlt,hce⟩:=List.getElem?_eq_some_iff.1 hc
   simp only [jP]
   rw [eK (by omega),cond_true,cH hc];rfl
 · intro v _
   simp only [jP]
   rw [fN (by omega),cond_false]
noncomputable def chV (m:ME)(q:List Int):Int:=bif ((cZ m:Int) != 0) then cZ m else bif (((q.length:Int):Int) != (m.2.length:Int)) then 1 else
 aFx (fun v=>bif (v == 0) then 11 else 0) (jB (R:=Int) (fun v c=>bif (!qD c 0 100) then .inr 1 else .inl (W (v+c))) q 0)
theorem aUo (m:ME)(q:List Int):kK m q=chV m q:=by
 unfold kK chV
 show(bif ((cZ m:Int) != 0) then cZ m else _)=_
 congr 1
 congr 1
 refine cG (fun v i=>(v,i)) _ (fun v=>bif (v == 0) then 11 else 0) (L:=q) (fun _ _=>True) ?_ (fun _ _ _ _ _ _ _=>trivial) ?_ (by omega) trivial
 · intro i c hc v _
   obtain⟨hlt,hce⟩:=List.getElem?_eq_some_iff.1 hc
   simp only [fB]
   rw [eK (by omega),cond_true,cH hc]
   cases (!qD c 0 100)<;>rfl
 · intro v _
   simp only [fB]
   rw [fN (by omega),cond_false]
   cases (v == 0)<;>rfl
structure ChOK (m:ME) (q:List Int):Prop where
 v:cZ m=0
 len:q.length=m.2.length
 ok:okC q
 pos:1≤q.sum
 le:q.sum≤9600
 n:1≤m.2.length∧m.2.length≤96
 tot:aCg q 0=q.sum
theorem aUp {m:ME} {q:List Int} (h:chV m q=0):ChOK m q:=by
 unfold chV at h
 cases h1:((cZ m:Int) != 0) with
 | true=>rw [h1,cond_true] at h;exact absurd h (bne_iff_ne.1 h1)
 | false =>
 rw [h1,cond_false] at h
 have hv:=bne_eq_false_iff_eq.1 h1
 obtain⟨_,n1,n2,_,_⟩:=dN hv
 cases h2:(((q.length:Int):Int) != (m.2.length:Int)) with
 | true=>rw [h2,cond_true] at h;exact absurd h (by decide)
 | false =>
 rw [h2,cond_false] at h
 have hl:=bne_eq_false_iff_eq.1 h2
 rcases aA4 q 0 with⟨g1,_⟩ | ⟨g1,_,g3⟩
 · rw [g1] at h;exact absurd h (by decide)
 · rw [g1] at h
   have ht:=aCh q 0 g3 (Int.le_refl 0) (by omega)
   simp only [aFx] at h
   have hne:aCg q 0≠0:=by
     intro e
     rw [e] at h;exact absurd h (by decide)
   exact⟨hv,by omega,g3,by omega,by omega,⟨n1,n2⟩,by omega⟩
noncomputable def chD (m:ME)(q:List Int)(d:Int):Int:=bif (chV m q != 0) then chV m q else bif (!qD d 0 2) then 1 else 0
theorem aEd (m:ME)(q:List Int)(d:Int):fQ m q d=chD m q d:=by
 unfold fQ chD
 rw [show kK (m.1,m.2) q=chV m q from aUo m q]
theorem yB {m:ME} {q:List Int} {d:Int} (h:chD m q d=0):ChOK m q∧0≤d∧d≤2:=by
 unfold chD at h
 cases h1:(chV m q != 0) with
 | true=>rw [h1,cond_true] at h;exact absurd h (bne_iff_ne.1 h1)
 | false =>
 rw [h1,cond_false] at h
 cases h2:(!qD d 0 2) with
 | true=>rw [h2,cond_true] at h;exact absurd h (by decide)
 | false=>exact⟨aUp (bne_eq_false_iff_eq.1 h1),mM h2⟩
theorem aH1 {m:ME} {d:Int} {f:PN→PN→Int×Int} {T:TB} {n:Nat} (e:T=(pans m).map fun q=>(pans m).map fun p=>f p q)(hn:n=m.2.length):T.length=n∧∀r∈T,r.length=n:=by
 subst e hn
 refine⟨by simp,fun r hr=>?_⟩
 obtain⟨q,_,rfl⟩:=List.mem_map.1 hr
 simp
end Go.Proofs.Ytaeagjnpobdglaa
