/-
  Parts of the proofs of the laws: the executor, what functions of the program compute, and that it is what the statements ask. No premise.
-/
import Derived.Test.YtmihafgemmgepaaGreatVPcm4
set_option linter.unusedVariables false
set_option linter.unusedSimpArgs false
set_option maxHeartbeats 4000000
open Int (toNat)
namespace Go.Proofs.YtmihafgemmgepaaGreat
open Go.Proofs Go.Aw Go.RowKit
set_option maxRecDepth 100000
def hU (a0:Zt)(a1:Int):Int :=
 (bif ((a1:Int) == 0) then
  a0.1
 else
  (bif ((a1:Int) == 1) then
   a0.2.1
  else
   a0.2.2))
theorem C98 (a0:Zt)(a1:Int):Con Tryz.prog 98 [(.a (k3 a0)),(iv a1)] [] (iv (hU a0 a1)) []:=by
 refine aO Tryz.func98 (by kernel_rfl) fun cx hcx=>?_
 cases h0:((a1:Int) == 0) with
 | true =>
  have q0:=eq_of_beq h0
  have e:=Eq.refl (hU a0 a1);conv at e=>rhs;simp only [hU,h0,aS]
  rw [e]
  exact rt [.d h0] [] [] hcx (by kernel_rfl)
 | false =>
  have q0:=ne_of_beq_false h0
  let t1:List (St Tryz.prog):=[.d h0]
  cases h1:((a1:Int) == 1) with
  | true =>
   have q1:=eq_of_beq h1
   have e:=Eq.refl (hU a0 a1);conv at e=>rhs;simp only [hU,h0,h1,aS]
   rw [e]
   exact rt (t1++[.d h1]) [] [] hcx (by kernel_rfl)
  | false =>
   have q1:=ne_of_beq_false h1
   have e:=Eq.refl (hU a0 a1);conv at e=>rhs;simp only [hU,h0,h1,aS]
   rw [e]
   exact rt (t1++[.d h1]) [] [] hcx (by kernel_rfl)
def eS (a0:(Zt×Zt×Zt)×Int)(a1:Int):Int :=
 (W ((W ((hU a0.1.1 a1)+(hU a0.1.2.1 a1)))+(hU a0.1.2.2 a1)))
theorem aFc (a0:(Zt×Zt×Zt)×Int)(a1:Int):Con Tryz.prog 101 [(.a [(iv a0.1.1.1),(iv a0.1.1.2.1),(iv a0.1.1.2.2),(iv a0.1.2.1.1),(iv a0.1.2.1.2.1),(iv a0.1.2.1.2.2),(iv a0.1.2.2.1),(iv a0.1.2.2.2.1),(iv a0.1.2.2.2.2),(iv a0.2)]),(iv a1)] [] (iv (eS a0 a1)) []:=by
 refine aO Tryz.func101 (by kernel_rfl) fun cx hcx=>?_
 have e:=Eq.refl (eS a0 a1);conv at e=>rhs;simp only [eS]
 rw [e]
 exact rt [.c [] (C98 a0.1.1 a1),.c [] (C98 a0.1.2.1 a1),.c [] (C98 a0.1.2.2 a1)] [] [] hcx (by kernel_rfl)
def F99 (a0:Int)(a1:Int):Int :=
 (Int.fdiv (W (a0+a1)) (2 ^ (min (toNat 1) 64)))
theorem C99 (a0:Int)(a1:Int):Con Tryz.prog 99 [(iv a0),(iv a1)] [] (iv (F99 a0 a1)) []:=by
 refine aO Tryz.func99 (by kernel_rfl) fun cx hcx=>?_
 have e:=Eq.refl (F99 a0 a1);conv at e=>rhs;simp only [F99]
 rw [e]
 exact rt [.p (show 0<=(1:Int) from by decide)] [] [] hcx (by kernel_rfl)
noncomputable def uQ:Code:=(aI [1,1,0,1] [] (aL Tryz.f63) []).1
noncomputable def uR:List K:=(aI [1,1,0,1] [] (aL Tryz.f63) []).2
def qV (a0:bM)(a1:List (Int))(a2:Int)(v1 v2 v3:Int):LS:=⟨iM 56 [(0,(.s 0 0 a0.length 10)),(1,(.s 1 0 a1.length 1)),(2,(iv a2)),(7,(iv v1)),(8,(iv v2)),(9,(iv v3))],[(.live false true (flat eF a0)),(.live false true (flat c3 a1))]⟩
def bZ (a0:bM)(a1:List (Int))(a2:Int):Zt->Zt⊕(Int)
 | (v1,v2,v3) =>
  (bif (decide ((v3:Int) < (a1.length:Int))) then
   (.inl ((fE (fE (fE v1 (hU (a0.getD (toNat (a1.getD (toNat v3) default)) default).1.1 a2)) (hU (a0.getD (toNat (a1.getD (toNat v3) default)) default).1.2.1 a2)) (hU (a0.getD (toNat (a1.getD (toNat v3) default)) default).1.2.2 a2)),(bY (bY (bY v2 (hU (a0.getD (toNat (a1.getD (toNat v3) default)) default).1.1 a2)) (hU (a0.getD (toNat (a1.getD (toNat v3) default)) default).1.2.1 a2)) (hU (a0.getD (toNat (a1.getD (toNat v3) default)) default).1.2.2 a2)),(v3+1)))
  else
   (.inr (F99 v1 v2)))
theorem aKo (a0:bM)(a1:List (Int))(a2:Int)(l0:a0.length<=9223372036854775807)(l1:a1.length<=9223372036854775807)(hir:InR a0.length a1)(hl:a1.length<=1048576) {cx:Cx} (hcx:cx.base=2):∀(n:Nat) (v1 v2 v3:Int),(0<=v3)/\(v3<=a1.length)->toNat ((a1.length:Int) - v3) < n->Aw.Good Tryz.prog none 9 (bodyPost Tryz.prog Tryz.f63 (RR cx (iv (aC (bZ a0 a1 a2) n (v1,v2,v3))) [] [])) cx [] (.l uQ n::uR) (qV a0 a1 a2 v1 v2 v3):=by
 intro n
 induction n with
 | zero=>intro v1 v2 v3 hi hn;exact absurd hn (eP _)
 | succ n ih =>
   intro v1 v2 v3 hi hn
   refine aQ ?_
   try have hr1:=hir.at (i:=toNat v3) (by have _:=h0;omega)
   cases h0:(decide ((v3:Int) < (a1.length:Int))) with
   | true =>
    have q0:=cA h0
    try have hr1:=hir.at (i:=toNat v3) (by have _:=h0;omega)
    have e:=Eq.refl (bZ a0 a1 a2 (v1,v2,v3));conv at e=>rhs;simp only [bZ,h0,aS]
    rw [aE e]
    refine ba [.d h0,.i v3 (a1.length),.L aM a1 v3 0 1,.i (a1.getD (toNat v3) default) (a0.length),.L cJ a0 (a1.getD (toNat v3) default) 0 9,.c [] (C98 (a0.getD (toNat (a1.getD (toNat v3) default)) default).1.1 a2),.c [] (C98 (a0.getD (toNat (a1.getD (toNat v3) default)) default).1.2.1 a2),.c [] (C98 (a0.getD (toNat (a1.getD (toNat v3) default)) default).1.2.2 a2),.c [] (C98 (a0.getD (toNat (a1.getD (toNat v3) default)) default).1.1 a2),.c [] (C98 (a0.getD (toNat (a1.getD (toNat v3) default)) default).1.2.1 a2),.c [] (C98 (a0.getD (toNat (a1.getD (toNat v3) default)) default).1.2.2 a2)] [] [0,1,2,7,8,9] [] hcx (m:=n) uQ (uR) (qV a0 a1 a2 (fE (fE (fE v1 (hU (a0.getD (toNat (a1.getD (toNat v3) default)) default).1.1 a2)) (hU (a0.getD (toNat (a1.getD (toNat v3) default)) default).1.2.1 a2)) (hU (a0.getD (toNat (a1.getD (toNat v3) default)) default).1.2.2 a2)) (bY (bY (bY v2 (hU (a0.getD (toNat (a1.getD (toNat v3) default)) default).1.1 a2)) (hU (a0.getD (toNat (a1.getD (toNat v3) default)) default).1.2.1 a2)) (hU (a0.getD (toNat (a1.getD (toNat v3) default)) default).1.2.2 a2)) (W (v3+1))) (by kernel_rfl) ?_
    have z0:(W (v3+1))=(v3+1):=aJ (by omega) (by omega)
    rw [z0]
    exact ih (fE (fE (fE v1 (hU (a0.getD (toNat (a1.getD (toNat v3) default)) default).1.1 a2)) (hU (a0.getD (toNat (a1.getD (toNat v3) default)) default).1.2.1 a2)) (hU (a0.getD (toNat (a1.getD (toNat v3) default)) default).1.2.2 a2)) (bY (bY (bY v2 (hU (a0.getD (toNat (a1.getD (toNat v3) default)) default).1.1 a2)) (hU (a0.getD (toNat (a1.getD (toNat v3) default)) default).1.2.1 a2)) (hU (a0.getD (toNat (a1.getD (toNat v3) default)) default).1.2.2 a2)) (v3+1) (by refine⟨?_,?_⟩<;>(try simp only [Ls])<;>first | omega | assumption | simp) (by(try simp only [Ls]);omega)
   | false =>
    have q0:=cH h0
    try have hr1:=hir.at (i:=toNat v3) (by have _:=h0;omega)
    have e:=Eq.refl (bZ a0 a1 a2 (v1,v2,v3));conv at e=>rhs;simp only [bZ,h0,aS]
    rw [aN,e]
    exact rt [.d h0,.c [] (C99 v1 v2)] [] [] hcx (by kernel_rfl)
def aK (a0:bM)(a1:List (Int))(a2:Int):Int :=
 (aC (bZ a0 a1 a2) (toNat ((a1.length:Int) - 0)+1) (64,(-64),0))
theorem jY (a0:bM)(a1:List (Int))(a2:Int)(l0:a0.length<=9223372036854775807)(l1:a1.length<=9223372036854775807)(hir:InR a0.length a1)(hl:a1.length<=1048576):Con Tryz.prog 63 [(.s 0 0 a0.length 10),(.s 1 0 a1.length 1),(iv a2)] [(.live false true (flat eF a0)),(.live false true (flat c3 a1))] (iv (aK a0 a1 a2)) []:=by
 refine aO Tryz.func63 (by kernel_rfl) fun cx hcx=>?_
 have e:=Eq.refl (aK a0 a1 a2);conv at e=>rhs;simp only [aK]
 rw [e]
 refine en [] [] [0,1,2,7,8,9] [] hcx uQ (uR) (qV a0 a1 a2 64 (-64) 0) (toNat ((a1.length:Int) - 0)+1) (by kernel_rfl) ?_
 exact aKo a0 a1 a2 l0 l1 hir hl hcx (toNat ((a1.length:Int) - 0)+1) 64 (-64) 0 (by refine⟨?_,?_⟩<;>(try simp only [Ls])<;>first | omega | assumption | simp) (by(try simp only [Ls]);omega)
noncomputable def uS:Code:=(aI [1,1,0,1] [] (aL Tryz.f65) []).1
noncomputable def uT:List K:=(aI [1,1,0,1] [] (aL Tryz.f65) []).2
def qW (a0:bM)(a1:List (Int))(v2c:List SV)(v2n:Nat)(v3:Int):LS:=⟨iM 24 [(0,(.s 0 0 a0.length 10)),(1,(.s 1 0 a1.length 1)),(5,(.s 2 0 v2n 10)),(6,(iv v3))],[(.live false true (flat eF a0)),(.live false true (flat c3 a1)),(.live true true v2c)]⟩
def iW (a0:bM)(a1:List (Int)):bM×Int->(bM×Int)⊕bM
 | (v2,v3) =>
  (bif (decide ((v3:Int) < (a1.length:Int))) then
   (.inl ((v2++[(a0.getD (toNat (a1.getD (toNat v3) default)) default)]),(v3+1)))
  else
   (.inr v2))
theorem aKp (a0:bM)(a1:List (Int))(l0:a0.length<=9223372036854775807)(l1:a1.length<=9223372036854775807)(hir:InR a0.length a1)(hl:a1.length<=1048576) {cx:Cx} (hcx:cx.base=2):∀(n:Nat) (v2:bM) (v3:Int),(0<=v3)/\(v2.length=toNat v3)/\(v3<=a1.length)->toNat ((a1.length:Int) - v3) < n->Aw.Good Tryz.prog none 9 (bodyPost Tryz.prog Tryz.f65 (RR cx (.s 2 0 (aC (iW a0 a1) n (v2,v3)).length 10) [(.live true true (flat eF (aC (iW a0 a1) n (v2,v3))))] [])) cx [] (.l uS n::uT) (qW a0 a1 (flat eF v2) v2.length v3):=by
 intro n
 induction n with
 | zero=>intro v2 v3 hi hn;exact absurd hn (eP _)
 | succ n ih =>
   intro v2 v3 hi hn
   refine aQ ?_
   try have hr1:=hir.at (i:=toNat v3) (by have _:=h0;omega)
   cases h0:(decide ((v3:Int) < (a1.length:Int))) with
   | true =>
    have q0:=cA h0
    try have hr1:=hir.at (i:=toNat v3) (by have _:=h0;omega)
    have e:=Eq.refl (iW a0 a1 (v2,v3));conv at e=>rhs;simp only [iW,h0,aS]
    rw [aE e]
    refine ba [.d h0,.i v3 (a1.length),.L aM a1 v3 0 1,.i (a1.getD (toNat v3) default) (a0.length),.L cJ a0 (a1.getD (toNat v3) default) 0 10,.p (show((flat eF v2).length=v2.length*10/\v2.length+1<=2 ^ 40/\(v2.length+1)*80<=2 ^ 47) from gK cJ (by omega) (by omega))] [] [0,1,5,6] [4] hcx (m:=n) uS (uT) (qW a0 a1 (flat eF v2++[(iv (a0.getD (toNat (a1.getD (toNat v3) default)) default).1.1.1),(iv (a0.getD (toNat (a1.getD (toNat v3) default)) default).1.1.2.1),(iv (a0.getD (toNat (a1.getD (toNat v3) default)) default).1.1.2.2),(iv (a0.getD (toNat (a1.getD (toNat v3) default)) default).1.2.1.1),(iv (a0.getD (toNat (a1.getD (toNat v3) default)) default).1.2.1.2.1),(iv (a0.getD (toNat (a1.getD (toNat v3) default)) default).1.2.1.2.2),(iv (a0.getD (toNat (a1.getD (toNat v3) default)) default).1.2.2.1),(iv (a0.getD (toNat (a1.getD (toNat v3) default)) default).1.2.2.2.1),(iv (a0.getD (toNat (a1.getD (toNat v3) default)) default).1.2.2.2.2),(iv (a0.getD (toNat (a1.getD (toNat v3) default)) default).2)]) (v2.length+1) (W (v3+1))) (by kernel_rfl) ?_
    have z0:(W (v3+1))=(v3+1):=aJ (by omega) (by omega)
    have z1:(flat eF v2++[(iv (a0.getD (toNat (a1.getD (toNat v3) default)) default).1.1.1),(iv (a0.getD (toNat (a1.getD (toNat v3) default)) default).1.1.2.1),(iv (a0.getD (toNat (a1.getD (toNat v3) default)) default).1.1.2.2),(iv (a0.getD (toNat (a1.getD (toNat v3) default)) default).1.2.1.1),(iv (a0.getD (toNat (a1.getD (toNat v3) default)) default).1.2.1.2.1),(iv (a0.getD (toNat (a1.getD (toNat v3) default)) default).1.2.1.2.2),(iv (a0.getD (toNat (a1.getD (toNat v3) default)) default).1.2.2.1),(iv (a0.getD (toNat (a1.getD (toNat v3) default)) default).1.2.2.2.1),(iv (a0.getD (toNat (a1.getD (toNat v3) default)) default).1.2.2.2.2),(iv (a0.getD (toNat (a1.getD (toNat v3) default)) default).2)])=(flat eF (v2++[(a0.getD (toNat (a1.getD (toNat v3) default)) default)])):=(bL (c:=eF) (l:=v2) (m:=[(a0.getD (toNat (a1.getD (toNat v3) default)) default)])).symm
    have z2:(v2.length+1)=(v2++[(a0.getD (toNat (a1.getD (toNat v3) default)) default)]).length:=gU v2 [(a0.getD (toNat (a1.getD (toNat v3) default)) default)] rfl
    rw [z0,z1,z2]
    exact ih (v2++[(a0.getD (toNat (a1.getD (toNat v3) default)) default)]) (v3+1) (by refine⟨?_,?_,?_⟩<;>(try simp only [Ls])<;>first | omega | assumption | simp) (by(try simp only [Ls]);omega)
   | false =>
    have q0:=cH h0
    try have hr1:=hir.at (i:=toNat v3) (by have _:=h0;omega)
    have e:=Eq.refl (iW a0 a1 (v2,v3));conv at e=>rhs;simp only [iW,h0,aS]
    rw [aN,e]
    exact rt [.d h0] [] [2] hcx (by kernel_rfl)
def fT (a0:bM)(a1:List (Int)):bM :=
 (aC (iW a0 a1) (toNat ((a1.length:Int) - 0)+1) (([]:bM),0))
theorem aC7 (a0:bM)(a1:List (Int))(l0:a0.length<=9223372036854775807)(l1:a1.length<=9223372036854775807)(hir:InR a0.length a1)(hl:a1.length<=1048576):Con Tryz.prog 65 [(.s 0 0 a0.length 10),(.s 1 0 a1.length 1)] [(.live false true (flat eF a0)),(.live false true (flat c3 a1))] (.s 2 0 (fT a0 a1).length 10) [(.live true true (flat eF (fT a0 a1)))]:=by
 refine aO Tryz.func65 (by kernel_rfl) fun cx hcx=>?_
 have e:=Eq.refl (fT a0 a1);conv at e=>rhs;simp only [fT]
 rw [e]
 refine en [] [.slot 5 10] [0,1,5,6] [2] hcx uS (uT) (qW a0 a1 (flat eF ([]:bM)) 0 0) (toNat ((a1.length:Int) - 0)+1) (by kernel_rfl) ?_
 exact aKp a0 a1 l0 l1 hir hl hcx (toNat ((a1.length:Int) - 0)+1) ([]:bM) 0 (by refine⟨?_,?_,?_⟩<;>(try simp only [Ls])<;>first | omega | assumption | simp) (by(try simp only [Ls]);omega)
noncomputable def uU:Code:=(aI [1,1,0,1,0,1,0,1,0,1] [0] (aL Tryz.f67) []).1
noncomputable def uV (m0:Nat):List K:=(aI [1,1,0,1,0,1,0,1,0,1] [m0] (aL Tryz.f67) []).2
def qX (a0:bM)(a1:List (Int))(v14 v15 v16 v17 v18 v19:Int):LS:=⟨iM 69 [(0,(.s 0 0 a0.length 10)),(1,(.s 1 0 a1.length 1)),(5,(iv v14)),(6,(iv v15)),(7,(iv v16)),(8,(iv v17)),(9,(iv v18)),(10,(iv v19))],[(.live false true (flat eF a0)),(.live false true (flat c3 a1))]⟩
def cM (a0:bM)(a1:List (Int)):Int×Int×Int×Zt->(Int×Int×Int×Zt)⊕(Zt⊕(Int))
 | (v14,v15,v16,v17,v18,v19) =>
  (bif (decide ((v19:Int) < (a1.length:Int))) then
   (.inl (v14,v15,v16,(fE v17 (eS (a0.getD (toNat (a1.getD (toNat v19) default)) default) v16)),(bY v18 (eS (a0.getD (toNat (a1.getD (toNat v19) default)) default) v16)),(v19+1)))
  else
   (bif (decide (((W (v18 - v17)):Int) > v15)) then
    (.inr (.inl (v16,(W (v18 - v17)),(v16+1))))
   else
    (.inr (.inl (v14,v15,(v16+1))))))
noncomputable def mK:Code:=(aI [1,1,0,1] [] (aL Tryz.f67) []).1
noncomputable def mL:List K:=(aI [1,1,0,1] [] (aL Tryz.f67) []).2
def kW (a0:bM)(a1:List (Int))(v11 v12 v13:Int):LS:=⟨iM 69 [(0,(.s 0 0 a0.length 10)),(1,(.s 1 0 a1.length 1)),(5,(iv v11)),(6,(iv v12)),(7,(iv v13))],[(.live false true (flat eF a0)),(.live false true (flat c3 a1))]⟩
def eC (a0:bM)(a1:List (Int)):Zt->Zt⊕(Int)
 | (v11,v12,v13) =>
  (bif (decide ((v13:Int) < 3)) then
   (aC (cM a0 a1) (toNat ((a1.length:Int) - 1)+1) (v11,v12,v13,(eS (a0.getD (toNat (a1.getD (toNat 0) default)) default) v13),(eS (a0.getD (toNat (a1.getD (toNat 0) default)) default) v13),1))
  else
   (.inr v11))
theorem aKq (a0:bM)(a1:List (Int))(l0:a0.length<=9223372036854775807)(l1:a1.length<=9223372036854775807)(hir:InR a0.length a1)(hl:1<=a1.length/\a1.length<=1048576) {cx:Cx} (hcx:cx.base=2)
   (n0:Nat) (g0:∀(v11 v12 v13:Int),(0<=v13)/\(v13<=3)->toNat (3 - v13) < n0->Aw.Good Tryz.prog none 9 (bodyPost Tryz.prog Tryz.f67 (RR cx (iv (aC (eC a0 a1) n0 (v11,v12,v13))) [] [])) cx [] (.l mK n0::mL) (kW a0 a1 v11 v12 v13)):∀(n:Nat) (v14 v15 v16 v17 v18 v19:Int),(0<=v19)/\(1<=v19)/\(v19<=a1.length)/\((0<=v16))/\((v16<=3))/\(v16 < 3)/\(toNat (3 - v16) < n0+1)->toNat ((a1.length:Int) - v19) < n->Aw.Good Tryz.prog none 9 (bodyPost Tryz.prog Tryz.f67 (RR cx (iv (aT (eC a0 a1) n0 (aC (cM a0 a1) n (v14,v15,v16,v17,v18,v19)))) [] [])) cx [] (.l uU n::uV n0) (qX a0 a1 v14 v15 v16 v17 v18 v19):=by
 intro n
 induction n with
 | zero=>intro v14 v15 v16 v17 v18 v19 hi hn;exact absurd hn (eP _)
 | succ n ih =>
   intro v14 v15 v16 v17 v18 v19 hi hn
   refine aQ ?_
   have hr0:=hir.at (i:=toNat 0) (by have:=hl.1;simp;omega)
   try have hr1:=hir.at (i:=toNat v19) (by have _:=h0;omega)
   cases h0:(decide ((v19:Int) < (a1.length:Int))) with
   | true =>
    have q0:=cA h0
    try have hr1:=hir.at (i:=toNat v19) (by have _:=h0;omega)
    have e:=Eq.refl (cM a0 a1 (v14,v15,v16,v17,v18,v19));conv at e=>rhs;simp only [cM,h0,aS]
    rw [aE e]
    refine ba [.d h0,.i v19 (a1.length),.L aM a1 v19 0 1,.i (a1.getD (toNat v19) default) (a0.length),.L cJ a0 (a1.getD (toNat v19) default) 0 10,.c [] (aFc (a0.getD (toNat (a1.getD (toNat v19) default)) default) v16),.i v19 (a1.length),.L aM a1 v19 0 1,.i (a1.getD (toNat v19) default) (a0.length),.L cJ a0 (a1.getD (toNat v19) default) 0 10,.c [] (aFc (a0.getD (toNat (a1.getD (toNat v19) default)) default) v16)] [] [0,1,5,6,7,8,9,10] [] hcx (m:=n) uU (uV n0) (qX a0 a1 v14 v15 v16 (fE v17 (eS (a0.getD (toNat (a1.getD (toNat v19) default)) default) v16)) (bY v18 (eS (a0.getD (toNat (a1.getD (toNat v19) default)) default) v16)) (W (v19+1))) (by kernel_rfl) ?_
    have z0:(W (v19+1))=(v19+1):=aJ (by omega) (by omega)
    rw [z0]
    exact ih v14 v15 v16 (fE v17 (eS (a0.getD (toNat (a1.getD (toNat v19) default)) default) v16)) (bY v18 (eS (a0.getD (toNat (a1.getD (toNat v19) default)) default) v16)) (v19+1) (by refine⟨?_,?_,?_,?_,?_,?_,?_⟩<;>(try simp only [Ls])<;>first | omega | assumption | exact hi.2.1 | exact hi.2.2.1 | exact hi.2.2.2.1 | exact hi.2.2.2.2.1 | exact hi.2.2.2.2.2.1 | exact hi.2.2.2.2.2.2.1 | simp) (by(try simp only [Ls]);omega)
   | false =>
    have q0:=cH h0
    try have hr1:=hir.at (i:=toNat v19) (by have _:=h0;omega)
    let t1:List (St Tryz.prog):=[.d h0]
    cases h1:(decide (((W (v18 - v17)):Int) > v15)) with
    | true =>
     have q1:=cA h1
     try have hr1:=hir.at (i:=toNat v19) (by have _:=h0;omega)
     have e:=Eq.refl (cM a0 a1 (v14,v15,v16,v17,v18,v19));conv at e=>rhs;simp only [cM,h0,h1,aS]
     rw [aN,e]
     refine ba (t1++[.d h1]) [] [0,1,5,6,7] [] hcx (m:=n0) mK (mL) (kW a0 a1 v16 (W (v18 - v17)) (W (v16+1))) (by kernel_rfl) ?_
     have z0:(W (v16+1))=(v16+1):=aJ (by omega) (by omega)
     rw [z0]
     exact g0 v16 (W (v18 - v17)) (v16+1) (by refine⟨?_,?_⟩<;>(try simp only [Ls])<;>first | omega | assumption | simp) (by(try simp only [Ls]);omega)
    | false =>
     have q1:=cH h1
     try have hr1:=hir.at (i:=toNat v19) (by have _:=h0;omega)
     have e:=Eq.refl (cM a0 a1 (v14,v15,v16,v17,v18,v19));conv at e=>rhs;simp only [cM,h0,h1,aS]
     rw [aN,e]
     refine ba (t1++[.d h1]) [] [0,1,5,6,7] [] hcx (m:=n0) mK (mL) (kW a0 a1 v14 v15 (W (v16+1))) (by kernel_rfl) ?_
     have z0:(W (v16+1))=(v16+1):=aJ (by omega) (by omega)
     rw [z0]
     exact g0 v14 v15 (v16+1) (by refine⟨?_,?_⟩<;>(try simp only [Ls])<;>first | omega | assumption | simp) (by(try simp only [Ls]);omega)
theorem aKr (a0:bM)(a1:List (Int))(l0:a0.length<=9223372036854775807)(l1:a1.length<=9223372036854775807)(hir:InR a0.length a1)(hl:1<=a1.length/\a1.length<=1048576) {cx:Cx} (hcx:cx.base=2):∀(n:Nat) (v11 v12 v13:Int),(0<=v13)/\(v13<=3)->toNat (3 - v13) < n->Aw.Good Tryz.prog none 9 (bodyPost Tryz.prog Tryz.f67 (RR cx (iv (aC (eC a0 a1) n (v11,v12,v13))) [] [])) cx [] (.l mK n::mL) (kW a0 a1 v11 v12 v13):=by
 intro n
 induction n with
 | zero=>intro v11 v12 v13 hi hn;exact absurd hn (eP _)
 | succ n ih =>
   intro v11 v12 v13 hi hn
   refine aQ ?_
   have hr0:=hir.at (i:=toNat 0) (by have:=hl.1;simp;omega)
   cases h0:(decide ((v13:Int) < 3)) with
   | true =>
    have q0:=cA h0
    have e:=Eq.refl (eC a0 a1 (v11,v12,v13));conv at e=>rhs;simp only [eC,h0,aS]
    rw [aN,e]
    refine en [.d h0,.i 0 (a1.length),.L aM a1 0 0 1,.i (a1.getD (toNat 0) default) (a0.length),.L cJ a0 (a1.getD (toNat 0) default) 0 10,.c [] (aFc (a0.getD (toNat (a1.getD (toNat 0) default)) default) v13),.i 0 (a1.length),.L aM a1 0 0 1,.i (a1.getD (toNat 0) default) (a0.length),.L cJ a0 (a1.getD (toNat 0) default) 0 10,.c [] (aFc (a0.getD (toNat (a1.getD (toNat 0) default)) default) v13)] [] [0,1,5,6,7,8,9,10] [] hcx uU (uV n) (qX a0 a1 v11 v12 v13 (eS (a0.getD (toNat (a1.getD (toNat 0) default)) default) v13) (eS (a0.getD (toNat (a1.getD (toNat 0) default)) default) v13) 1) (toNat ((a1.length:Int) - 1)+1) (by kernel_rfl) ?_
    exact aKq a0 a1 l0 l1 hir hl hcx n ih (toNat ((a1.length:Int) - 1)+1) v11 v12 v13 (eS (a0.getD (toNat (a1.getD (toNat 0) default)) default) v13) (eS (a0.getD (toNat (a1.getD (toNat 0) default)) default) v13) 1 (by refine⟨?_,?_,?_,?_,?_,?_,?_⟩<;>(try simp only [Ls])<;>first | omega | assumption | exact hi.2.1 | exact hi.2.2.1 | exact hi.2.2.2.1 | exact hi.2.2.2.2.1 | exact hi.2.2.2.2.2.1 | exact hi.2.2.2.2.2.2.1 | simp) (by(try simp only [Ls]);omega)
   | false =>
    have q0:=cH h0
    have e:=Eq.refl (eC a0 a1 (v11,v12,v13));conv at e=>rhs;simp only [eC,h0,aS]
    rw [aN,e]
    exact rt [.d h0] [] [] hcx (by kernel_rfl)
def aD (a0:bM)(a1:List (Int)):Int :=
 (aC (eC a0 a1) (toNat (3 - 0)+1) (0,(-1),0))
theorem aC8 (a0:bM)(a1:List (Int))(l0:a0.length<=9223372036854775807)(l1:a1.length<=9223372036854775807)(hir:InR a0.length a1)(hl:1<=a1.length/\a1.length<=1048576):Con Tryz.prog 67 [(.s 0 0 a0.length 10),(.s 1 0 a1.length 1)] [(.live false true (flat eF a0)),(.live false true (flat c3 a1))] (iv (aD a0 a1)) []:=by
 refine aO Tryz.func67 (by kernel_rfl) fun cx hcx=>?_
 have e:=Eq.refl (aD a0 a1);conv at e=>rhs;simp only [aD]
 rw [e]
 refine en [] [] [0,1,5,6,7] [] hcx mK (mL) (kW a0 a1 0 (-1) 0) (toNat (3 - 0)+1) (by kernel_rfl) ?_
 exact aKr a0 a1 l0 l1 hir hl hcx (toNat (3 - 0)+1) 0 (-1) 0 (by refine⟨?_,?_⟩<;>(try simp only [Ls])<;>first | omega | assumption | simp) (by(try simp only [Ls]);omega)
def jO (a0:bM)(a1:Zt):Int :=
 (bif (((gI a0):Int) != 0) then
  (gI a0)
 else
  (bif (!(tH a1 64)) then
   1
  else
   0))
theorem aRx (a0:bM)(a1:Zt)(l0:a0.length<=9223372036854775807):Con Tryz.prog 100 [(.s 0 0 a0.length 10),(.a (k3 a1))] [(.live false true (flat eF a0))] (iv (jO a0 a1)) []:=by
 refine aO Tryz.func100 (by kernel_rfl) fun cx hcx=>?_
 let t0:List (St Tryz.prog):=[.c [0] (aL6 a0 (by omega))]
 cases h0:(((gI a0):Int) != 0) with
 | true =>
  have q0:=bne_iff_ne.1 h0
  have e:=Eq.refl (jO a0 a1);conv at e=>rhs;simp only [jO,h0,aS]
  rw [e]
  exact rt (t0++[.d h0]) [] [] hcx (by kernel_rfl)
 | false =>
  have q0:=bne_eq_false_iff_eq.1 h0
  let t1:List (St Tryz.prog):=(t0++[.d h0,.c [] (C51 a1 64)])
  cases h1:(!(tH a1 64)) with
  | true =>
   have e:=Eq.refl (jO a0 a1);conv at e=>rhs;simp only [jO,h0,h1,aS]
   rw [e]
   exact rt (t1++[.d h1]) [] [] hcx (by kernel_rfl)
  | false =>
   have e:=Eq.refl (jO a0 a1);conv at e=>rhs;simp only [jO,h0,h1,aS]
   rw [e]
   exact rt (t1++[.d h1]) [] [] hcx (by kernel_rfl)
noncomputable def aC9:Code:=(aI [1,1,1,1,0,1] [] (aL Tryz.f64) []).1
noncomputable def aDa:List K:=(aI [1,1,1,1,0,1] [] (aL Tryz.f64) []).2
def zR (a0:bM)(a1:Zt)(v1 v2:Int):LS:=⟨iM 45 [(0,(.s 0 0 a0.length 10)),(3,(.p 1 0)),(7,(iv v1)),(8,(iv v2))],[(.live false true (flat eF a0)),(.live true false (k3 a1))]⟩
def nA (a0:bM)(a1:Zt):Int×Int->(Int×Int)⊕(Int×Int)
 | (v1,v2) =>
  (bif (decide ((v2:Int) < (a0.length:Int))) then
   (.inl ((if((if((if(v1:Int) < (jQ (jB (a0.getD (toNat v2) default).1.1 a1)) then(jQ (jB (a0.getD (toNat v2) default).1.1 a1)) else v1):Int) < (jQ (jB (a0.getD (toNat v2) default).1.2.1 a1)) then(jQ (jB (a0.getD (toNat v2) default).1.2.1 a1)) else(if(v1:Int) < (jQ (jB (a0.getD (toNat v2) default).1.1 a1)) then(jQ (jB (a0.getD (toNat v2) default).1.1 a1)) else v1)):Int) < (jQ (jB (a0.getD (toNat v2) default).1.2.2 a1)) then(jQ (jB (a0.getD (toNat v2) default).1.2.2 a1)) else(if((if(v1:Int) < (jQ (jB (a0.getD (toNat v2) default).1.1 a1)) then(jQ (jB (a0.getD (toNat v2) default).1.1 a1)) else v1):Int) < (jQ (jB (a0.getD (toNat v2) default).1.2.1 a1)) then(jQ (jB (a0.getD (toNat v2) default).1.2.1 a1)) else(if(v1:Int) < (jQ (jB (a0.getD (toNat v2) default).1.1 a1)) then(jQ (jB (a0.getD (toNat v2) default).1.1 a1)) else v1))),(v2+1)))
  else
   (.inr (v1,0)))
theorem aO6 (a0:bM)(a1:Zt)(l0:a0.length<=9223372036854775807) {cx:Cx} (hcx:cx.base=1):∀(n:Nat) (v1 v2:Int),0<=v2->toNat ((a0.length:Int) - v2) < n->Aw.Good Tryz.prog none 9 (bodyPost Tryz.prog Tryz.f64 (RR cx (.t (k2 (aC (nA a0 a1) n (v1,v2)))) [] [])) cx [] (.l aC9 n::aDa) (zR a0 a1 v1 v2):=by
 intro n
 induction n with
 | zero=>intro v1 v2 hi hn;exact absurd hn (eP _)
 | succ n ih =>
   intro v1 v2 hi hn
   refine aQ ?_
   cases h0:(decide ((v2:Int) < (a0.length:Int))) with
   | true =>
    have q0:=cA h0
    have e:=Eq.refl (nA a0 a1 (v1,v2));conv at e=>rhs;simp only [nA,h0,aS]
    rw [aE e]
    refine ba [.d h0,.i v2 (a0.length),.L cJ a0 v2 0 9,.c [] (C79 (a0.getD (toNat v2) default).1.1 a1),.c [] (C78 (jB (a0.getD (toNat v2) default).1.1 a1)),.c [] (C79 (a0.getD (toNat v2) default).1.2.1 a1),.c [] (C78 (jB (a0.getD (toNat v2) default).1.2.1 a1)),.c [] (C79 (a0.getD (toNat v2) default).1.2.2 a1),.c [] (C78 (jB (a0.getD (toNat v2) default).1.2.2 a1))] [] [0,3,7,8] [1] hcx (m:=n) aC9 (aDa) (zR a0 a1 (if((if((if(v1:Int) < (jQ (jB (a0.getD (toNat v2) default).1.1 a1)) then(jQ (jB (a0.getD (toNat v2) default).1.1 a1)) else v1):Int) < (jQ (jB (a0.getD (toNat v2) default).1.2.1 a1)) then(jQ (jB (a0.getD (toNat v2) default).1.2.1 a1)) else(if(v1:Int) < (jQ (jB (a0.getD (toNat v2) default).1.1 a1)) then(jQ (jB (a0.getD (toNat v2) default).1.1 a1)) else v1)):Int) < (jQ (jB (a0.getD (toNat v2) default).1.2.2 a1)) then(jQ (jB (a0.getD (toNat v2) default).1.2.2 a1)) else(if((if(v1:Int) < (jQ (jB (a0.getD (toNat v2) default).1.1 a1)) then(jQ (jB (a0.getD (toNat v2) default).1.1 a1)) else v1):Int) < (jQ (jB (a0.getD (toNat v2) default).1.2.1 a1)) then(jQ (jB (a0.getD (toNat v2) default).1.2.1 a1)) else(if(v1:Int) < (jQ (jB (a0.getD (toNat v2) default).1.1 a1)) then(jQ (jB (a0.getD (toNat v2) default).1.1 a1)) else v1))) (W (v2+1))) (by kernel_rfl) ?_
    have z0:(W (v2+1))=(v2+1):=aJ (by omega) (by omega)
    rw [z0]
    exact ih (if((if((if(v1:Int) < (jQ (jB (a0.getD (toNat v2) default).1.1 a1)) then(jQ (jB (a0.getD (toNat v2) default).1.1 a1)) else v1):Int) < (jQ (jB (a0.getD (toNat v2) default).1.2.1 a1)) then(jQ (jB (a0.getD (toNat v2) default).1.2.1 a1)) else(if(v1:Int) < (jQ (jB (a0.getD (toNat v2) default).1.1 a1)) then(jQ (jB (a0.getD (toNat v2) default).1.1 a1)) else v1)):Int) < (jQ (jB (a0.getD (toNat v2) default).1.2.2 a1)) then(jQ (jB (a0.getD (toNat v2) default).1.2.2 a1)) else(if((if(v1:Int) < (jQ (jB (a0.getD (toNat v2) default).1.1 a1)) then(jQ (jB (a0.getD (toNat v2) default).1.1 a1)) else v1):Int) < (jQ (jB (a0.getD (toNat v2) default).1.2.1 a1)) then(jQ (jB (a0.getD (toNat v2) default).1.2.1 a1)) else(if(v1:Int) < (jQ (jB (a0.getD (toNat v2) default).1.1 a1)) then(jQ (jB (a0.getD (toNat v2) default).1.1 a1)) else v1))) (v2+1) (by(try simp only [Ls]);omega) (by(try simp only [Ls]);omega)
   | false =>
    have q0:=cH h0
    have e:=Eq.refl (nA a0 a1 (v1,v2));conv at e=>rhs;simp only [nA,h0,aS]
    rw [aN,e]
    exact rt [.d h0] [] [] hcx (by kernel_rfl)
def nJ (a0:bM)(a1:Zt):Int×Int :=
 (bif (((jO a0 a1):Int) != 0) then
  (0,(jO a0 a1))
 else
  (aC (nA a0 a1) (toNat ((a0.length:Int) - 0)+1) (0,0)))
theorem aM2 (a0:bM)(a1:Zt)(l0:a0.length<=9223372036854775807):Con Tryz.prog 64 [(.s 0 0 a0.length 10),(.a (k3 a1))] [(.live false true (flat eF a0))] (.t (k2 (nJ a0 a1))) []:=by
 refine aO Tryz.func64 (by kernel_rfl) fun cx hcx=>?_
 let t0:List (St Tryz.prog):=[.c [0] (aRx a0 a1 (by omega))]
 cases h0:(((jO a0 a1):Int) != 0) with
 | true =>
  have q0:=bne_iff_ne.1 h0
  have e:=Eq.refl (nJ a0 a1);conv at e=>rhs;simp only [nJ,h0,aS]
  rw [e]
  exact rt (t0++[.d h0]) [] [] hcx (by kernel_rfl)
 | false =>
  have q0:=bne_eq_false_iff_eq.1 h0
  have e:=Eq.refl (nJ a0 a1);conv at e=>rhs;simp only [nJ,h0,aS]
  rw [e]
  refine en (t0++[.d h0]) [] [0,3,7,8] [1] hcx aC9 (aDa) (zR a0 a1 0 0) (toNat ((a0.length:Int) - 0)+1) (by kernel_rfl) ?_
  exact aO6 a0 a1 l0 hcx (toNat ((a0.length:Int) - 0)+1) 0 0 (by(try simp only [Ls]);omega) (by(try simp only [Ls]);omega)
noncomputable def oZ:Code:=(aI [1,1,0,1,0,1,0,1] [0] (aL Tryz.f66) []).1
noncomputable def pA (m0:Nat):List K:=(aI [1,1,0,1,0,1,0,1] [m0] (aL Tryz.f66) []).2
def nB (a0:bM)(a1:List (Int))(a2:Int)(v5c:List SV)(v5n:Nat)(v6 v7:Int):LS:=⟨iM 99 [(0,(.s 0 0 a0.length 10)),(2,(iv a2)),(7,(.s 2 0 v5n 1)),(8,(iv v6)),(9,(iv v7))],[(.live false true (flat eF a0)),(.live false true (flat c3 a1)),(.live true true v5c)]⟩
def cT (a0:bM)(a1:List (Int))(a2:Int):List (Int)×Int×Int->(List (Int)×Int×Int)⊕((List (Int)×Int)⊕(List (Int)))
 | (v5,v6,v7) =>
  (bif (decide ((v7:Int) > 0)) then
   (bif (decide (((eS (a0.getD (toNat (v5.getD (toNat v7) default)) default) a2):Int) < (eS (a0.getD (toNat (v5.getD (toNat (W (v7 - 1))) default)) default) a2))) then
    (.inl (((v5.set (toNat v7) (v5.getD (toNat (W (v7 - 1))) default)).set (toNat (W (v7 - 1))) (v5.getD (toNat v7) default)),v6,(W (v7 - 1))))
   else
    (bif (((eS (a0.getD (toNat (v5.getD (toNat v7) default)) default) a2):Int) == (eS (a0.getD (toNat (v5.getD (toNat (W (v7 - 1))) default)) default) a2)) then
     (bif (decide (((v5.getD (toNat v7) default):Int) < (v5.getD (toNat (W (v7 - 1))) default))) then
      (.inl (((v5.set (toNat v7) (v5.getD (toNat (W (v7 - 1))) default)).set (toNat (W (v7 - 1))) (v5.getD (toNat v7) default)),v6,(W (v7 - 1))))
     else
      (.inr (.inl (v5,(v6+1)))))
    else
     (.inr (.inl (v5,(v6+1))))))
  else
   (.inr (.inl (v5,(v6+1)))))
noncomputable def kG:Code:=(aI [1,1,0,1] [] (aL Tryz.f66) []).1
noncomputable def kH:List K:=(aI [1,1,0,1] [] (aL Tryz.f66) []).2
def iX (a0:bM)(a1:List (Int))(a2:Int)(v3c:List SV)(v3n:Nat)(v4:Int):LS:=⟨iM 99 [(0,(.s 0 0 a0.length 10)),(2,(iv a2)),(7,(.s 2 0 v3n 1)),(8,(iv v4))],[(.live false true (flat eF a0)),(.live false true (flat c3 a1)),(.live true true v3c)]⟩
def dM (a0:bM)(a1:List (Int))(a2:Int):List (Int)×Int->(List (Int)×Int)⊕(List (Int))
 | (v3,v4) =>
  (bif (decide ((v4:Int) < (v3.length:Int))) then
   (aC (cT a0 a1 a2) (toNat v4+1) (v3,v4,v4))
  else
   (.inr v3))
theorem aKs (a0:bM)(a1:List (Int))(a2:Int)(l0:a0.length<=9223372036854775807)(l1:a1.length<=9223372036854775807)(hir:InR a0.length a1)(hl:a1.length<=1048576) {cx:Cx} (hcx:cx.base=2)
   (n0:Nat) (g0:∀(v3:List (Int)) (v4:Int),(0<=v4)/\(v3.length=a1.length)/\(InR a0.length v3)/\(1<=v4)->toNat ((v3.length:Int) - v4) < n0->Aw.Good Tryz.prog none 9 (bodyPost Tryz.prog Tryz.f66 (RR cx (.s 2 0 (aC (dM a0 a1 a2) n0 (v3,v4)).length 1) [(.live true true (flat c3 (aC (dM a0 a1 a2) n0 (v3,v4))))] [])) cx [] (.l kG n0::kH) (iX a0 a1 a2 (flat c3 v3) v3.length v4)):∀(n:Nat) (v5:List (Int)) (v6 v7:Int),(v5.length=a1.length)/\(InR a0.length v5)/\(0<=v7)/\(v7<=v6)/\(1<=v6)/\(v6 < a1.length)/\((0<=v6))/\((v5.length=a1.length))/\((InR a0.length v5))/\((1<=v6))/\(v6 < (v5.length:Int))/\(toNat ((v5.length:Int) - v6) < n0+1)->toNat v7 < n->Aw.Good Tryz.prog none 9 (bodyPost Tryz.prog Tryz.f66 (RR cx (.s 2 0 (aT (dM a0 a1 a2) n0 (aC (cT a0 a1 a2) n (v5,v6,v7))).length 1) [(.live true true (flat c3 (aT (dM a0 a1 a2) n0 (aC (cT a0 a1 a2) n (v5,v6,v7)))))] [])) cx [] (.l oZ n::pA n0) (nB a0 a1 a2 (flat c3 v5) v5.length v6 v7):=by
 intro n
 induction n with
 | zero=>intro v5 v6 v7 hi hn;exact absurd hn (eP _)
 | succ n ih =>
   intro v5 v6 v7 hi hn
   refine aQ ?_
   try have hw_k:=(fun _=>aJ (n:=v7 - 1) (by omega) (by omega)) h0
   try have hr1:=hi.2.1.at (i:=toNat v7) (by have _:=h0;omega)
   try have hr2:=hi.2.1.at (i:=toNat (W (v7 - 1))) (by have _:=h0;omega)
   cases h0:(decide ((v7:Int) > 0)) with
   | true =>
    have q0:=cA h0
    try have hw_k:=(fun _=>aJ (n:=v7 - 1) (by omega) (by omega)) h0
    try have hr1:=hi.2.1.at (i:=toNat v7) (by have _:=h0;omega)
    try have hr2:=hi.2.1.at (i:=toNat (W (v7 - 1))) (by have _:=h0;omega)
    let t1:List (St Tryz.prog):=[.d h0,.i v7 (v5.length),.L aM v5 v7 0 1,.i (v5.getD (toNat v7) default) (a0.length),.L cJ a0 (v5.getD (toNat v7) default) 0 10,.c [] (aFc (a0.getD (toNat (v5.getD (toNat v7) default)) default) a2),.i (W (v7 - 1)) (v5.length),.L aM v5 (W (v7 - 1)) 0 1,.i (v5.getD (toNat (W (v7 - 1))) default) (a0.length),.L cJ a0 (v5.getD (toNat (W (v7 - 1))) default) 0 10,.c [] (aFc (a0.getD (toNat (v5.getD (toNat (W (v7 - 1))) default)) default) a2)]
    cases h1:(decide (((eS (a0.getD (toNat (v5.getD (toNat v7) default)) default) a2):Int) < (eS (a0.getD (toNat (v5.getD (toNat (W (v7 - 1))) default)) default) a2))) with
    | true =>
     have q1:=cA h1
     try have hw_k:=(fun _=>aJ (n:=v7 - 1) (by omega) (by omega)) h0
     try have hr1:=hi.2.1.at (i:=toNat v7) (by have _:=h0;omega)
     try have hr2:=hi.2.1.at (i:=toNat (W (v7 - 1))) (by have _:=h0;omega)
     have e:=Eq.refl (cT a0 a1 a2 (v5,v6,v7));conv at e=>rhs;simp only [cT,h0,h1,aS]
     rw [aE e]
     refine ba (t1++[.d h1,.i v7 (v5.length),.L aM v5 v7 0 1,.i (W (v7 - 1)) (v5.length),.L aM v5 (W (v7 - 1)) 0 1,.i v7 (v5.length),.p (show((0+toNat v7*1)+1<=(flat c3 v5).length) from(cS aM (by first | omega | (simp only [Lt];omega)) (o:=0) (Nb rfl))),.i (W (v7 - 1)) (v5.length),.p (show((0+toNat (W (v7 - 1))*1)+1<=(splice (flat c3 v5) (0+toNat v7*1) [(iv (v5.getD (toNat (W (v7 - 1))) default))]).length) from(by rw [show(splice (flat c3 v5) (0+toNat v7*1) [(iv (v5.getD (toNat (W (v7 - 1))) default))])=flat c3 (v5.set (toNat v7) (v5.getD (toNat (W (v7 - 1))) default)) from(aW aM (by first | omega | (simp only [Lt];omega)) (o:=0) (d:=default) (Nb rfl) rfl)];exact cS aM (by first | omega | (simp only [Lt];omega)) (o:=0) (Nb rfl)))]) [] [0,2,7,8,9] [2] hcx (m:=n) oZ (pA n0) (nB a0 a1 a2 (splice (splice (flat c3 v5) (0+toNat v7*1) [(iv (v5.getD (toNat (W (v7 - 1))) default))]) (0+toNat (W (v7 - 1))*1) [(iv (v5.getD (toNat v7) default))]) (v5.length) v6 (W (v7 - 1))) (by kernel_rfl) ?_
     have z0:(splice (splice (flat c3 v5) (0+toNat v7*1) [(iv (v5.getD (toNat (W (v7 - 1))) default))]) (0+toNat (W (v7 - 1))*1) [(iv (v5.getD (toNat v7) default))])=flat c3 ((v5.set (toNat v7) (v5.getD (toNat (W (v7 - 1))) default)).set (toNat (W (v7 - 1))) (v5.getD (toNat v7) default)):=(by rw [show(splice (flat c3 v5) (0+toNat v7*1) [(iv (v5.getD (toNat (W (v7 - 1))) default))])=flat c3 (v5.set (toNat v7) (v5.getD (toNat (W (v7 - 1))) default)) from(aW aM (by first | omega | (simp only [Lt];omega)) (o:=0) (d:=default) (Nb rfl) rfl)];exact aW aM (by first | omega | (simp only [Lt];omega)) (o:=0) (d:=default) (Nb rfl) rfl)
     have z1:v5.length=((v5.set (toNat v7) (v5.getD (toNat (W (v7 - 1))) default)).set (toNat (W (v7 - 1))) (v5.getD (toNat v7) default)).length:=by simp
     rw [z0,z1]
     exact ih ((v5.set (toNat v7) (v5.getD (toNat (W (v7 - 1))) default)).set (toNat (W (v7 - 1))) (v5.getD (toNat v7) default)) v6 (W (v7 - 1)) (by and_intros<;>(try simp only [Lt])<;>first | omega | assumption | exact hi.2.1 | exact hi.2.2.1 | exact InR.swap hi.2.1 (by omega) (by omega) | exact InR.swap hr (by omega) (by omega)) (by(try simp only [Ls]);omega)
    | false =>
     have q1:=cH h1
     try have hw_k:=(fun _=>aJ (n:=v7 - 1) (by omega) (by omega)) h0
     try have hr1:=hi.2.1.at (i:=toNat v7) (by have _:=h0;omega)
     try have hr2:=hi.2.1.at (i:=toNat (W (v7 - 1))) (by have _:=h0;omega)
     let t2:List (St Tryz.prog):=(t1++[.d h1,.i v7 (v5.length),.L aM v5 v7 0 1,.i (v5.getD (toNat v7) default) (a0.length),.L cJ a0 (v5.getD (toNat v7) default) 0 10,.c [] (aFc (a0.getD (toNat (v5.getD (toNat v7) default)) default) a2),.i (W (v7 - 1)) (v5.length),.L aM v5 (W (v7 - 1)) 0 1,.i (v5.getD (toNat (W (v7 - 1))) default) (a0.length),.L cJ a0 (v5.getD (toNat (W (v7 - 1))) default) 0 10,.c [] (aFc (a0.getD (toNat (v5.getD (toNat (W (v7 - 1))) default)) default) a2)])
     cases h2:(((eS (a0.getD (toNat (v5.getD (toNat v7) default)) default) a2):Int) == (eS (a0.getD (toNat (v5.getD (toNat (W (v7 - 1))) default)) default) a2)) with
     | true =>
      have q2:=eq_of_beq h2
      try have hw_k:=(fun _=>aJ (n:=v7 - 1) (by omega) (by omega)) h0
      try have hr1:=hi.2.1.at (i:=toNat v7) (by have _:=h0;omega)
      try have hr2:=hi.2.1.at (i:=toNat (W (v7 - 1))) (by have _:=h0;omega)
      let t3:List (St Tryz.prog):=(t2++[.d h2,.i v7 (v5.length),.L aM v5 v7 0 1,.i (W (v7 - 1)) (v5.length),.L aM v5 (W (v7 - 1)) 0 1])
      cases h3:(decide (((v5.getD (toNat v7) default):Int) < (v5.getD (toNat (W (v7 - 1))) default))) with
      | true =>
       have q3:=cA h3
       try have hw_k:=(fun _=>aJ (n:=v7 - 1) (by omega) (by omega)) h0
       try have hr1:=hi.2.1.at (i:=toNat v7) (by have _:=h0;omega)
       try have hr2:=hi.2.1.at (i:=toNat (W (v7 - 1))) (by have _:=h0;omega)
       have e:=Eq.refl (cT a0 a1 a2 (v5,v6,v7));conv at e=>rhs;simp only [cT,h0,h1,h2,h3,aS]
       rw [aE e]
       refine ba (t3++[.d h3,.i v7 (v5.length),.L aM v5 v7 0 1,.i (W (v7 - 1)) (v5.length),.L aM v5 (W (v7 - 1)) 0 1,.i v7 (v5.length),.p (show((0+toNat v7*1)+1<=(flat c3 v5).length) from(cS aM (by first | omega | (simp only [Lt];omega)) (o:=0) (Nb rfl))),.i (W (v7 - 1)) (v5.length),.p (show((0+toNat (W (v7 - 1))*1)+1<=(splice (flat c3 v5) (0+toNat v7*1) [(iv (v5.getD (toNat (W (v7 - 1))) default))]).length) from(by rw [show(splice (flat c3 v5) (0+toNat v7*1) [(iv (v5.getD (toNat (W (v7 - 1))) default))])=flat c3 (v5.set (toNat v7) (v5.getD (toNat (W (v7 - 1))) default)) from(aW aM (by first | omega | (simp only [Lt];omega)) (o:=0) (d:=default) (Nb rfl) rfl)];exact cS aM (by first | omega | (simp only [Lt];omega)) (o:=0) (Nb rfl)))]) [] [0,2,7,8,9] [2] hcx (m:=n) oZ (pA n0) (nB a0 a1 a2 (splice (splice (flat c3 v5) (0+toNat v7*1) [(iv (v5.getD (toNat (W (v7 - 1))) default))]) (0+toNat (W (v7 - 1))*1) [(iv (v5.getD (toNat v7) default))]) (v5.length) v6 (W (v7 - 1))) (by kernel_rfl) ?_
       have z0:(splice (splice (flat c3 v5) (0+toNat v7*1) [(iv (v5.getD (toNat (W (v7 - 1))) default))]) (0+toNat (W (v7 - 1))*1) [(iv (v5.getD (toNat v7) default))])=flat c3 ((v5.set (toNat v7) (v5.getD (toNat (W (v7 - 1))) default)).set (toNat (W (v7 - 1))) (v5.getD (toNat v7) default)):=(by rw [show(splice (flat c3 v5) (0+toNat v7*1) [(iv (v5.getD (toNat (W (v7 - 1))) default))])=flat c3 (v5.set (toNat v7) (v5.getD (toNat (W (v7 - 1))) default)) from(aW aM (by first | omega | (simp only [Lt];omega)) (o:=0) (d:=default) (Nb rfl) rfl)];exact aW aM (by first | omega | (simp only [Lt];omega)) (o:=0) (d:=default) (Nb rfl) rfl)
       have z1:v5.length=((v5.set (toNat v7) (v5.getD (toNat (W (v7 - 1))) default)).set (toNat (W (v7 - 1))) (v5.getD (toNat v7) default)).length:=by simp
       rw [z0,z1]
       exact ih ((v5.set (toNat v7) (v5.getD (toNat (W (v7 - 1))) default)).set (toNat (W (v7 - 1))) (v5.getD (toNat v7) default)) v6 (W (v7 - 1)) (by and_intros<;>(try simp only [Lt])<;>first | omega | assumption | exact hi.2.1 | exact hi.2.2.1 | exact InR.swap hi.2.1 (by omega) (by omega) | exact InR.swap hr (by omega) (by omega)) (by(try simp only [Ls]);omega)
      | false =>
       have q3:=cH h3
       try have hw_k:=(fun _=>aJ (n:=v7 - 1) (by omega) (by omega)) h0
       try have hr1:=hi.2.1.at (i:=toNat v7) (by have _:=h0;omega)
       try have hr2:=hi.2.1.at (i:=toNat (W (v7 - 1))) (by have _:=h0;omega)
       have e:=Eq.refl (cT a0 a1 a2 (v5,v6,v7));conv at e=>rhs;simp only [cT,h0,h1,h2,h3,aS]
       rw [aN,e]
       refine ba (t3++[.d h3]) [] [0,2,7,8] [2] hcx (m:=n0) kG (kH) (iX a0 a1 a2 (flat c3 v5) (v5.length) (W (v6+1))) (by kernel_rfl) ?_
       have z0:(W (v6+1))=(v6+1):=aJ (by omega) (by omega)
       rw [z0]
       exact g0 v5 (v6+1) (by and_intros<;>(try simp only [Lt])<;>first | omega | assumption | exact hi.2.1 | exact hi.2.2.1 | exact InR.swap hi.2.1 (by omega) (by omega) | exact InR.swap hr (by omega) (by omega)) (by(try simp only [Ls]);omega)
     | false =>
      have q2:=ne_of_beq_false h2
      try have hw_k:=(fun _=>aJ (n:=v7 - 1) (by omega) (by omega)) h0
      try have hr1:=hi.2.1.at (i:=toNat v7) (by have _:=h0;omega)
      try have hr2:=hi.2.1.at (i:=toNat (W (v7 - 1))) (by have _:=h0;omega)
      have e:=Eq.refl (cT a0 a1 a2 (v5,v6,v7));conv at e=>rhs;simp only [cT,h0,h1,h2,aS]
      rw [aN,e]
      refine ba (t2++[.d h2]) [] [0,2,7,8] [2] hcx (m:=n0) kG (kH) (iX a0 a1 a2 (flat c3 v5) (v5.length) (W (v6+1))) (by kernel_rfl) ?_
      have z0:(W (v6+1))=(v6+1):=aJ (by omega) (by omega)
      rw [z0]
      exact g0 v5 (v6+1) (by and_intros<;>(try simp only [Lt])<;>first | omega | assumption | exact hi.2.1 | exact hi.2.2.1 | exact InR.swap hi.2.1 (by omega) (by omega) | exact InR.swap hr (by omega) (by omega)) (by(try simp only [Ls]);omega)
   | false =>
    have q0:=cH h0
    try have hw_k:=(fun _=>aJ (n:=v7 - 1) (by omega) (by omega)) h0
    try have hr1:=hi.2.1.at (i:=toNat v7) (by have _:=h0;omega)
    try have hr2:=hi.2.1.at (i:=toNat (W (v7 - 1))) (by have _:=h0;omega)
    have e:=Eq.refl (cT a0 a1 a2 (v5,v6,v7));conv at e=>rhs;simp only [cT,h0,aS]
    rw [aN,e]
    refine ba [.d h0] [] [0,2,7,8] [2] hcx (m:=n0) kG (kH) (iX a0 a1 a2 (flat c3 v5) (v5.length) (W (v6+1))) (by kernel_rfl) ?_
    have z0:(W (v6+1))=(v6+1):=aJ (by omega) (by omega)
    rw [z0]
    exact g0 v5 (v6+1) (by and_intros<;>(try simp only [Lt])<;>first | omega | assumption | exact hi.2.1 | exact hi.2.2.1 | exact InR.swap hi.2.1 (by omega) (by omega) | exact InR.swap hr (by omega) (by omega)) (by(try simp only [Ls]);omega)
theorem aKt (a0:bM)(a1:List (Int))(a2:Int)(l0:a0.length<=9223372036854775807)(l1:a1.length<=9223372036854775807)(hir:InR a0.length a1)(hl:a1.length<=1048576) {cx:Cx} (hcx:cx.base=2):∀(n:Nat) (v3:List (Int)) (v4:Int),(0<=v4)/\(v3.length=a1.length)/\(InR a0.length v3)/\(1<=v4)->toNat ((v3.length:Int) - v4) < n->Aw.Good Tryz.prog none 9 (bodyPost Tryz.prog Tryz.f66 (RR cx (.s 2 0 (aC (dM a0 a1 a2) n (v3,v4)).length 1) [(.live true true (flat c3 (aC (dM a0 a1 a2) n (v3,v4))))] [])) cx [] (.l kG n::kH) (iX a0 a1 a2 (flat c3 v3) v3.length v4):=by
 intro n
 induction n with
 | zero=>intro v3 v4 hi hn;exact absurd hn (eP _)
 | succ n ih =>
   intro v3 v4 hi hn
   refine aQ ?_
   cases h0:(decide ((v4:Int) < (v3.length:Int))) with
   | true =>
    have q0:=cA h0
    have e:=Eq.refl (dM a0 a1 a2 (v3,v4));conv at e=>rhs;simp only [dM,h0,aS]
    rw [aN,e]
    refine en [.d h0] [] [0,2,7,8,9] [2] hcx oZ (pA n) (nB a0 a1 a2 (flat c3 v3) (v3.length) v4 v4) (toNat v4+1) (by kernel_rfl) ?_
    exact aKs a0 a1 a2 l0 l1 hir hl hcx n ih (toNat v4+1) v3 v4 v4 (by and_intros<;>(try simp only [Lt])<;>first | omega | assumption | exact hi.2.1 | exact hi.2.2.1 | exact InR.swap hi.2.1 (by omega) (by omega) | exact InR.swap hr (by omega) (by omega)) (by(try simp only [Ls]);omega)
   | false =>
    have q0:=cH h0
    have e:=Eq.refl (dM a0 a1 a2 (v3,v4));conv at e=>rhs;simp only [dM,h0,aS]
    rw [aN,e]
    exact rt [.d h0] [] [2] hcx (by kernel_rfl)
def aH (a0:bM)(a1:List (Int))(a2:Int):List (Int) :=
 (aC (dM a0 a1 a2) (toNat ((((([]:List (Int))++a1).length:Nat):Int) - 1)+1) ((([]:List (Int))++a1),1))
theorem aDb (a0:bM)(a1:List (Int))(a2:Int)(l0:a0.length<=9223372036854775807)(l1:a1.length<=9223372036854775807)(hir:InR a0.length a1)(hl:a1.length<=1048576):Con Tryz.prog 66 [(.s 0 0 a0.length 10),(.s 1 0 a1.length 1),(iv a2)] [(.live false true (flat eF a0)),(.live false true (flat c3 a1))] (.s 2 0 (aH a0 a1 a2).length 1) [(.live true true (flat c3 (aH a0 a1 a2)))]:=by
 refine aO Tryz.func66 (by kernel_rfl) fun cx hcx=>?_
 have e:=Eq.refl (aH a0 a1 a2);conv at e=>rhs;simp only [aH]
 rw [e]
 refine en [.p (show(([]:List SV).length=0*1/\(flat c3 a1).length=a1.length*1/\(flat c3 a1).all SV.one=true/\0+a1.length<=2 ^ 40/\(0+a1.length)*8<=2 ^ 47) from by refine⟨?_,?_,?_,?_,?_⟩<;>first | omega | exact eX (fun _=>rfl) | (simp [bI aM];done) | (simp [bI aM];omega))] [] [0,2,7,8] [3] hcx kG (kH) (iX a0 a1 a2 (([]:List SV)++(flat c3 a1)) (0+a1.length) 1) (toNat ((((([]:List (Int))++a1).length:Nat):Int) - 1)+1) (by kernel_rfl) ?_
 have z0:(([]:List SV)++(flat c3 a1))=flat c3 (([]:List (Int))++a1):=(by simp [flat])
 have z1:(0+a1.length)=(([]:List (Int))++a1).length:=by simp
 rw [z0,z1]
 exact aKt a0 a1 a2 l0 l1 hir hl hcx (toNat ((((([]:List (Int))++a1).length:Nat):Int) - 1)+1) (([]:List (Int))++a1) 1 (by and_intros<;>(try simp only [Lt])<;>first | omega | assumption | exact hi.2.1 | exact hi.2.2.1 | exact InR.swap hi.2.1 (by omega) (by omega) | exact InR.swap hr (by omega) (by omega)) (by(try simp only [Ls]);omega)
abbrev TR:=List Int×bE
abbrev eW:=bM
structure PGRW (l:eW) (t:TR) (ns:List Int) (leaf:Int):Prop where
 inr:InR l.length ns
 rng:1<=ns.length/\t.1.length+ns.length<=1048576
 nds:t.2.length+2*ns.length<=4194304
 lf:1<=leaf
theorem aO7 (l:eW)(ns:List Int):fT l ns=eU l ns:=rfl
theorem aDc (l:eW)(ns:List Int):(fT l ns).length=ns.length:=by rw [aO7,xB]
def cOf (l:eW)(k:Int):SBC:=((l,0,[],[]),k)
theorem aDd (l:eW)(k:Int)(x:Int):eS (l.getD (toNat x) default) k=kk (cOf l k) x:=by
 unfold kk cOf eS fX hU
 cases h0:(k == 0) with
 | true=>rfl
 | false =>
   cases h1:(k == 1) with
   | true=>rfl
   | false=>rfl
theorem aM3 (l:eW)(k x y:Int):(decide (eS (l.getD (toNat x) default) k < eS (l.getD (toNat y) default) k) || ((eS (l.getD (toNat x) default) k == eS (l.getD (toNat y) default) k)&&decide (x < y)))=tI (cOf l k) x y:=by
 rw [aDd,aDd]
 cases h:tI (cOf l k) x y with
 | true=>rw [aCx] at h;simp;exact h
 | false=>rw [aI3] at h;simp;omega
section
open Go.Sort
variable {l : eW} {ns : List Int} {k : Int}
theorem aI6 {n:Nat} (hn:n<=1048576)(hns:ns.length=n):∀(m:Nat) (d:Array Int) (j:Nat) (w:Int),d.size=n->j < n->j < m ->
   aC (cT l ns k) m (wp ns 0 d,w,(j:Int))=.inl (wp ns 0 (insInner (tI (cOf l k)) 0 j d),w+1)
 | 0,_,_,_,_,_,h=>absurd h (eP _)
 | m+1,d,0,w,hd,hj,hm=>by
   refine aY ?_
   simp only [cT]
   rw [dQ (by omega),cond_false];rfl
 | m+1,d,j+1,w,hd,hj,hm=>by
   have hl':0+d.size<=ns.length:=by omega
   have e1:W (((j+1:Nat):Int) - 1)=((j:Nat):Int):=wN (by omega) (by omega)
   have g1:=uN hl' (i:=j+1) (by omega)
   have g0:=uN hl' (i:=j) (by omega)
   have gs:=aMv hl' (i:=j+1) (j:=j) (by omega) (by omega)
   rw [Nat.zero_add] at g1 g0
   rw [Nat.zero_add,Nat.zero_add] at gs
   rw [insInner,cN (show j+1 > 0 by omega),Bool.true_and]
   have e:cT l ns k (wp ns 0 d,w,((j+1:Nat):Int))=bif tI (cOf l k) d[j+1]! d[j]! then .inl (wp ns 0 (swp d (j+1) j),w,(j:Int)) else .inr (.inl (wp ns 0 d,w+1)):=by
     rw [←aM3]
     simp only [cT,e1,jM]
     rw [cN (show((j+1:Nat):Int) > 0 by omega),cond_true,gs,g1,g0]
     cases decide (eS (l.getD (toNat d[j+1]!) default) k < eS (l.getD (toNat d[j]!) default) k) with
     | true=>rfl
     | false =>
       cases (eS (l.getD (toNat d[j+1]!) default) k == eS (l.getD (toNat d[j]!) default) k) with
       | false=>rfl
       | true=>cases decide (d[j+1]! < d[j]!)<;>rfl
   cases q:tI (cOf l k) d[j+1]! d[j]! with
   | true =>
     rw [q,cond_true] at e
     rw [aE e]
     exact aI6 hn hns m _ j w (by rw [Go.Sort.size_swp];exact hd) (by omega) (by omega)
   | false=>rw [q,cond_false] at e;exact aY e
theorem aI7 {n:Nat} (hn:n<=1048576)(hns:ns.length=n):∀(m:Nat) (d:Array Int) (i:Nat),d.size=n->n - i < m ->
   aC (dM l ns k) m (wp ns 0 d,(i:Int))=wp ns 0 (insOuter (tI (cOf l k)) 0 n i d)
 | 0,_,_,_,h=>absurd h (eP _)
 | m+1,d,i,hd,hm=>by
   rw [insOuter]
   have hlen:(wp ns 0 d).length=n:=by rw [aMt (by omega),hns]
   by_cases h1:i < n
   · rw [if_pos h1]
     have e:dM l ns k (wp ns 0 d,(i:Int))=aC (cT l ns k) (toNat (i:Int)+1) (wp ns 0 d,(i:Int),(i:Int)):=by
       simp only [dM];rw [cN (by omega),cond_true]
     rw [aE (e.trans (aI6 hn hns _ d i _ hd (by omega) (by omega)))]
     exact aI7 hn hns m _ (i+1) (by rw [lV];exact hd) (by omega)
   · rw [if_neg h1]
     refine aY ?_
     simp only [dM];rw [dQ (by omega),cond_false]
def nK (l:eW)(k:Int)(ns:List Int):List Int:=ns.mergeSort (fun x y=>!tI (cOf l k) y x)
theorem lI (l:eW)(k:Int)(ns:List Int):(nK l k ns).length=ns.length:=(List.mergeSort_perm ns _).length_eq
theorem aO8 {N:Nat} (h:InR N ns):InR N (nK l k ns):=fun x hx=>h x ((List.mergeSort_perm ns _).mem_iff.1 hx)
theorem aM4 {n:Nat} (h:ns.length=n) {d:Array Int} (hd:d.size=n):wp ns 0 d=d.toList:=by unfold wp;rw [Nat.zero_add,hd,←h,List.drop_length];simp
theorem aO9 (c:SBC):tI c=tI (cOf c.1.1 c.2):=rfl
theorem aFd {c:SBC} {d d':Array Int} (h1:PermIn 0 d.size d d')(h2:SortedIn (tI c) 0 d.size d'):d'.toList=nK c.1.1 c.2 d.toList:=by
 unfold nK
 rw [←aO9]
 exact sorted_unique_holds (lt:=tI c) (xA c) (aOy c) d d' h1 h2
theorem aM5 (h:ns.length<=1048576):aH l ns k=nK l k ns:=by
 unfold aH
 have hz:(ns.toArray).size=ns.length:=by simp
 have hw:wp ns 0 ns.toArray=ns:=by rw [aM4 rfl hz]
 have h1:=insertionSort_holds (lt:=tI (cOf l k)) (xA _) ns.toArray 0 ns.length (Nat.zero_le _) (by rw [hz];exact Nat.le_refl _)
 have h0:=aI7 (l:=l) (k:=k) h rfl (toNat ((((([]:List (Int))++ns).length:Nat):Int) - 1)+1) ns.toArray 1 hz (by rw [List.nil_append];omega)
 have e:insOuter (tI (cOf l k)) 0 ns.length 1 ns.toArray=insertionSort (tI (cOf l k)) ns.toArray 0 ns.length:=rfl
 rw [hw,e,aM4 (n:=ns.length) (d:=insertionSort (tI (cOf l k)) ns.toArray 0 ns.length) rfl (by rw [h1.1.1];exact hz),aFd (c:=cOf l k) (by rw [hz];exact h1.1) (by rw [hz];exact h1.2)] at h0
 exact h0
theorem aRy {v:List Int} {o n:Nat} {c:SBC} (hw:o+n<=v.length/\v.length<=1048576)(h12:n<=12) :
   gD v o n c=v.take o++nK c.1.1 c.2 ((v.drop o).take n)++v.drop (o+n):=by
 have hz:=kF hw.1
 have h:=aMw (l:=v) (c:=((c.1.1,c.1.2.1,(v,c.1.2.2.2)),c.2)) (d:=pG v o n) hw.1 (by omega) (a:=0) (b:=n) (Nat.le_refl _) (Nat.zero_le _) hz
 have hs:=insertionSort_holds (lt:=tI ((c.1.1,c.1.2.1,(v,c.1.2.2.2)),c.2)) (xA _) (pG v o n) 0 n (Nat.zero_le _) (by rw [hz];exact Nat.le_refl _)
 rw [aGz hw.1] at h
 rw [aMy h12,h]
 unfold wp
 rw [hs.1.1,hz,aFd (c:=((c.1.1,c.1.2.1,(v,c.1.2.2.2)),c.2)) (d:=pG v o n) (by rw [hz];exact hs.1) (by rw [hz];exact hs.2)]
 rfl
end
theorem pU {n:Nat} (h:n<=1048576):W (Int.tdiv (W (((n:Nat):Int)+1)) 2)=(((n+1) / 2:Nat):Int):=by
 rw [wN (x:=((n:Nat):Int)+1) (n:=n+1) (by omega) (by omega),Int.tdiv_eq_ediv_of_nonneg (by omega)];exact wN (by omega) (by omega)
end Go.Proofs.YtmihafgemmgepaaGreat
namespace Go.Proofs.YtmihafgemmgepaaGreat
open Go.Proofs Go.Aw Go.RowKit
set_option maxRecDepth 100000
structure GRR (t r:TR) (ns:List Int):Prop where
 ol:r.1.length=t.1.length+ns.length
 lo:t.2.length < r.2.length
 hi:r.2.length<=t.2.length+2*ns.length - 1
section
variable {l : eW} {t : TR} {ns : List Int} {leaf : Int} {x : Int × Int × Int × Int × Zt × Int}
theorem pV (hp:PGRW l t ns leaf)(k:Int):(aH l ns k).length=ns.length/\InR l.length (aH l ns k):=by
 rw [aM5 (by have:=hp.rng;omega)]
 exact⟨lI _ _ _,aO8 hp.inr⟩
theorem cV (hp:PGRW l t ns leaf)(k:Int)(h2:2<=ns.length):PGRW l (t.1,t.2++[x]) (Aw.part (aH l ns k) 0 (W (Int.tdiv (W ((((aH l ns k).length:Nat):Int)+1)) 2))) leaf:=by
 have hs:=pV hp k
 have h:=hp.rng;have hn:=hp.nds
 rw [pU (by omega),hs.1]
 have hpt:=part_len (l:=aH l ns k) (a:=0) (b:=(((ns.length+1) / 2:Nat):Int)) (by omega)
 refine⟨hs.2.part _ _,⟨by rw [hpt];omega,?_⟩,?_,hp.lf⟩
 · rw [hpt];dsimp only;omega
 · rw [hpt];simp only [List.length_append,List.length_cons,List.length_nil];omega
theorem dE {r:TR} (hp:PGRW l t ns leaf)(k:Int)(h2:2<=ns.length)(hr:GRR (t.1,t.2++[x]) r (Aw.part (aH l ns k) 0 (W (Int.tdiv (W ((((aH l ns k).length:Nat):Int)+1)) 2)))) :
   PGRW l (r.1,r.2) (Aw.part (aH l ns k) (W (Int.tdiv (W ((((aH l ns k).length:Nat):Int)+1)) 2)) (((aH l ns k).length:Nat):Int)) leaf:=by
 have hs:=pV hp k
 have h:=hp.rng;have hn:=hp.nds
 obtain⟨g1,g2,g3⟩:=hr
 rw [pU (by omega),hs.1] at g1 g3 ⊢
 have hpt1:=part_len (l:=aH l ns k) (a:=0) (b:=(((ns.length+1) / 2:Nat):Int)) (by omega)
 have hpt2:=part_len (l:=aH l ns k) (a:=(((ns.length+1) / 2:Nat):Int)) (b:=(ns.length:Int)) (by omega)
 rw [hpt1] at g1 g3
 simp only [List.length_append,List.length_cons,List.length_nil] at g1 g2 g3
 refine⟨hs.2.part _ _,⟨by rw [hpt2];omega,?_⟩,?_,hp.lf⟩
 · rw [hpt2];dsimp only;omega
 · rw [hpt2];dsimp only;omega
end
def dS (a0:bM)(a1:List (Int)×bE)(a2:List (Int))(a3:Int):=(nJ (fT a0 a2) ((aK a0 a2 0),(aK a0 a2 1),(aK a0 a2 2)))
def aV (rr:bM->(List (Int)×bE)->(List (Int))->(Int)->List (Int)×bE)(a0:bM)(a1:List (Int)×bE)(a2:List (Int))(a3:Int):=(rr a0 (a1.1,(a1.2++[((a1.1.length:Int),(W ((a1.1.length:Int)+(a2.length:Int))),(-1),(-1),((aK a0 a2 0),(aK a0 a2 1),(aK a0 a2 2)),(dS a0 a1 a2 a3).1)])) (Aw.part (aH a0 a2 (aD a0 a2)) 0 (W (Int.tdiv (W ((((aH a0 a2 (aD a0 a2)).length:Nat):Int)+1)) 2))) a3)
def aB (rr:bM->(List (Int)×bE)->(List (Int))->(Int)->List (Int)×bE)(a0:bM)(a1:List (Int)×bE)(a2:List (Int))(a3:Int):=(rr a0 ((aV (rr) a0 a1 a2 a3).1,(aV (rr) a0 a1 a2 a3).2) (Aw.part (aH a0 a2 (aD a0 a2)) (W (Int.tdiv (W ((((aH a0 a2 (aD a0 a2)).length:Nat):Int)+1)) 2)) (((aH a0 a2 (aD a0 a2)).length:Nat):Int)) a3)
def aA:Nat->bM->(List (Int)×bE)->(List (Int))->(Int)->List (Int)×bE
 | 0,_,_,_,_=>default
 | nr+1,a0,a1,a2,a3 =>
 (bif (decide (((a2.length:Int):Int)<=a3)) then
  ((a1.1++a2),(a1.2++[((a1.1.length:Int),(W ((a1.1.length:Int)+(a2.length:Int))),(-1),(-1),((aK a0 a2 0),(aK a0 a2 1),(aK a0 a2 2)),(dS a0 a1 a2 a3).1)]))
 else
  ((aB (aA nr) a0 a1 a2 a3).1,(((aB (aA nr) a0 a1 a2 a3).2.set (toNat (a1.2.length:Int)) (((aB (aA nr) a0 a1 a2 a3).2.getD (toNat (a1.2.length:Int)) default).1,((aB (aA nr) a0 a1 a2 a3).2.getD (toNat (a1.2.length:Int)) default).2.1,(((a1.2.length+1):Nat):Int),((aB (aA nr) a0 a1 a2 a3).2.getD (toNat (a1.2.length:Int)) default).2.2.2.1,((aB (aA nr) a0 a1 a2 a3).2.getD (toNat (a1.2.length:Int)) default).2.2.2.2.1,((aB (aA nr) a0 a1 a2 a3).2.getD (toNat (a1.2.length:Int)) default).2.2.2.2.2)).set (toNat (a1.2.length:Int)) ((((aB (aA nr) a0 a1 a2 a3).2.set (toNat (a1.2.length:Int)) (((aB (aA nr) a0 a1 a2 a3).2.getD (toNat (a1.2.length:Int)) default).1,((aB (aA nr) a0 a1 a2 a3).2.getD (toNat (a1.2.length:Int)) default).2.1,(((a1.2.length+1):Nat):Int),((aB (aA nr) a0 a1 a2 a3).2.getD (toNat (a1.2.length:Int)) default).2.2.2.1,((aB (aA nr) a0 a1 a2 a3).2.getD (toNat (a1.2.length:Int)) default).2.2.2.2.1,((aB (aA nr) a0 a1 a2 a3).2.getD (toNat (a1.2.length:Int)) default).2.2.2.2.2)).getD (toNat (a1.2.length:Int)) default).1,(((aB (aA nr) a0 a1 a2 a3).2.set (toNat (a1.2.length:Int)) (((aB (aA nr) a0 a1 a2 a3).2.getD (toNat (a1.2.length:Int)) default).1,((aB (aA nr) a0 a1 a2 a3).2.getD (toNat (a1.2.length:Int)) default).2.1,(((a1.2.length+1):Nat):Int),((aB (aA nr) a0 a1 a2 a3).2.getD (toNat (a1.2.length:Int)) default).2.2.2.1,((aB (aA nr) a0 a1 a2 a3).2.getD (toNat (a1.2.length:Int)) default).2.2.2.2.1,((aB (aA nr) a0 a1 a2 a3).2.getD (toNat (a1.2.length:Int)) default).2.2.2.2.2)).getD (toNat (a1.2.length:Int)) default).2.1,(((aB (aA nr) a0 a1 a2 a3).2.set (toNat (a1.2.length:Int)) (((aB (aA nr) a0 a1 a2 a3).2.getD (toNat (a1.2.length:Int)) default).1,((aB (aA nr) a0 a1 a2 a3).2.getD (toNat (a1.2.length:Int)) default).2.1,(((a1.2.length+1):Nat):Int),((aB (aA nr) a0 a1 a2 a3).2.getD (toNat (a1.2.length:Int)) default).2.2.2.1,((aB (aA nr) a0 a1 a2 a3).2.getD (toNat (a1.2.length:Int)) default).2.2.2.2.1,((aB (aA nr) a0 a1 a2 a3).2.getD (toNat (a1.2.length:Int)) default).2.2.2.2.2)).getD (toNat (a1.2.length:Int)) default).2.2.1,(((aV (aA nr) a0 a1 a2 a3).2.length:Nat):Int),(((aB (aA nr) a0 a1 a2 a3).2.set (toNat (a1.2.length:Int)) (((aB (aA nr) a0 a1 a2 a3).2.getD (toNat (a1.2.length:Int)) default).1,((aB (aA nr) a0 a1 a2 a3).2.getD (toNat (a1.2.length:Int)) default).2.1,(((a1.2.length+1):Nat):Int),((aB (aA nr) a0 a1 a2 a3).2.getD (toNat (a1.2.length:Int)) default).2.2.2.1,((aB (aA nr) a0 a1 a2 a3).2.getD (toNat (a1.2.length:Int)) default).2.2.2.2.1,((aB (aA nr) a0 a1 a2 a3).2.getD (toNat (a1.2.length:Int)) default).2.2.2.2.2)).getD (toNat (a1.2.length:Int)) default).2.2.2.2.1,(((aB (aA nr) a0 a1 a2 a3).2.set (toNat (a1.2.length:Int)) (((aB (aA nr) a0 a1 a2 a3).2.getD (toNat (a1.2.length:Int)) default).1,((aB (aA nr) a0 a1 a2 a3).2.getD (toNat (a1.2.length:Int)) default).2.1,(((a1.2.length+1):Nat):Int),((aB (aA nr) a0 a1 a2 a3).2.getD (toNat (a1.2.length:Int)) default).2.2.2.1,((aB (aA nr) a0 a1 a2 a3).2.getD (toNat (a1.2.length:Int)) default).2.2.2.2.1,((aB (aA nr) a0 a1 a2 a3).2.getD (toNat (a1.2.length:Int)) default).2.2.2.2.2)).getD (toNat (a1.2.length:Int)) default).2.2.2.2.2))))
def dY (a0:bM)(a1:List (Int)×bE)(a2:List (Int))(a3:Int):List (Int)×bE:=aA (a2.length+1) a0 a1 a2 a3
theorem bH:∀(nr:Nat) (l:eW) (t:TR) (ns:List Int) (leaf:Int),PGRW l t ns leaf->ns.length < nr->GRR t (aA nr l t ns leaf) ns
 | 0,_,_,_,_,_,h=>absurd h (eP _)
 | nr+1,l,t,ns,leaf,hp,hn=>by
   have h:=hp.rng;have hl:=hp.lf
   simp only [aA]
   by_cases h0:(ns.length:Int)<=leaf
   · rw [cN h0,cond_true]
     exact⟨by simp,by simp,by simp;omega⟩
   · rw [dQ h0,cond_false]
     have h2:2<=ns.length:=by omega
     have hs:=pV hp (aD l ns)
     have hf:=pU (n:=ns.length) (by omega)
     have hpt1:=part_len (l:=aH l ns (aD l ns)) (a:=0) (b:=(((ns.length+1) / 2:Nat):Int)) (by omega)
     have hpt2:=part_len (l:=aH l ns (aD l ns)) (a:=(((ns.length+1) / 2:Nat):Int)) (b:=(ns.length:Int)) (by omega)
     have h5:GRR _ (aV (aA nr) l t ns leaf) _:=bH nr _ _ _ _ (cV hp _ h2) (by rw [hs.1,hf,hpt1];omega)
     have h6:GRR _ (aB (aA nr) l t ns leaf) _:=bH nr _ _ _ _ (dE hp _ h2 h5) (by rw [hs.1,hf,hpt2];omega)
     obtain⟨g1,g2,g3⟩:=h5
     obtain⟨f1,f2,f3⟩:=h6
     rw [hs.1,hf,hpt1] at g1 g3
     rw [hs.1,hf,hpt2] at f1 f3
     dsimp only at g1 g2 g3 f1 f2 f3
     simp only [List.length_append,List.length_cons,List.length_nil] at g1 g2 g3
     exact⟨by dsimp only;omega,by simp only [List.length_set];omega,by simp only [List.length_set];omega⟩
theorem aDe:∀(nr:Nat) (a0:bM) (a1:List (Int)×bE) (a2:List (Int)) (a3:Int) (l0:a0.length<=9223372036854775807) (l1_1:a1.1.length<=9223372036854775807) (l1_2:a1.2.length<=9223372036854775807) (l2:a2.length<=9223372036854775807) (hp:PGRW a0 a1 a2 a3),a2.length < nr->Con Tryz.prog 36 [(.s 0 0 a0.length 10),(.a [(.s 1 0 a1.1.length 1),(.s 2 0 a1.2.length 8)]),(.s 3 0 a2.length 1),(iv a3)] [(.live false true (flat eF a0)),(.live true true (flat c3 a1.1)),(.live true true (flat bT a1.2)),(.live false true (flat c3 a2))] (.a [(.s 4 0 (aA nr a0 a1 a2 a3).1.length 1),(.s 5 0 (aA nr a0 a1 a2 a3).2.length 8)]) [(.live true true (flat c3 (aA nr a0 a1 a2 a3).1)),(.live true true (flat bT (aA nr a0 a1 a2 a3).2))] [.un,.dead,.dead,.un]:=by
 intro nr
 induction nr with
 | zero=>intro a0 a1 a2 a3 l0 l1_1 l1_2 l2 hp hlt;exact absurd hlt (eP _)
 | succ nr ihr =>
 intro a0 a1 a2 a3 l0 l1_1 l1_2 l2 hp hlt
 refine aO Tryz.func36 (by kernel_rfl) fun cx hcx=>?_
 have hpr:=hp.rng
 have hpn:=hp.nds
 try dsimp only at hpr hpn
 try simp only [List.length_nil,Nat.zero_add] at hpr hpn
 have hpl:=hp.lf
 have hpk:=aDc a0 a2
 have hso:=pV hp (aD a0 a2)
 obtain⟨hso1,hso2⟩:=hso
 have hhf:(W (Int.tdiv (W ((((aH a0 a2 (aD a0 a2)).length:Nat):Int)+1)) 2))=(((a2.length+1) / 2:Nat):Int):=by rw [hso1];exact pU (by omega)
 have hpt1:(Aw.part (aH a0 a2 (aD a0 a2)) 0 (W (Int.tdiv (W ((((aH a0 a2 (aD a0 a2)).length:Nat):Int)+1)) 2))).length=(a2.length+1) / 2:=by rw [part_len (by omega)];omega
 have hpt2:(Aw.part (aH a0 a2 (aD a0 a2)) (W (Int.tdiv (W ((((aH a0 a2 (aD a0 a2)).length:Nat):Int)+1)) 2)) (((aH a0 a2 (aD a0 a2)).length:Nat):Int)).length=a2.length - (a2.length+1) / 2:=by rw [part_len (by omega)];omega
 try have h2:2<=a2.length:=(fun _=>by omega) h0
 try have h5:GRR _ (A36_L_z10_L_2 (R36_L_z10_L nr) a0 a1 a2 a3) _:=(fun _=>grw_inv10 nr a0 ([],_) _ a3 (cV hp _ h2) (by omega)) h0
 try have h6:GRR _ (A36_L_z10_L_3 (R36_L_z10_L nr) a0 a1 a2 a3) _:=(fun _=>bH _ _ _ _ _ (dE hp _ h2 h5) (lss _)) h0
 try have h5:GRR _ (aV (aA nr) a0 a1 a2 a3) _:=(fun _=>bH nr _ _ _ _ (cV hp _ h2) (by omega)) h0
 try have h6:GRR _ (aB (aA nr) a0 a1 a2 a3) _:=(fun _=>bH nr _ _ _ _ (dE hp _ h2 h5) (by omega)) h0
 try have h5:GRR _ (A36_L_z11_L_2 a0 a1 a2 a3) _:=(fun _=>grw_inv10 _ a0 ([],_) _ a3 (cV (t:=([],[])) hp _ h2) (lss _)) h0
 try have h6:GRR _ (A36_L_z11_L_3 a0 a1 a2 a3) _:=(fun _=>bH _ _ _ _ _ (dE (t:=([],[])) hp _ h2 h5) (lss _)) h0
 try have g1:=(fun _=>h5.ol) h0
 try have g2:=(fun _=>h5.lo) h0
 try have g3:=(fun _=>h5.hi) h0
 try have f1:=(fun _=>h6.ol) h0
 try have f2:=(fun _=>h6.lo) h0
 try have f3:=(fun _=>h6.hi) h0
 try (have _:=h0;simp only [List.length_append,List.length_cons,List.length_nil] at g1 g2 g3 f1 f2 f3)
 let t0:List (St Tryz.prog):=[.c [0,3] (jY a0 a2 0 (by omega) (by omega) hp.inr (by omega)),.c [0,3] (jY a0 a2 1 (by omega) (by omega) hp.inr (by omega)),.c [0,3] (jY a0 a2 2 (by omega) (by omega) hp.inr (by omega)),.c [0,3] (aC7 a0 a2 (by omega) (by omega) hp.inr (by omega)),.c [7] (aM2 (fT a0 a2) ((aK a0 a2 0),(aK a0 a2 1),(aK a0 a2 2)) (by(try simp only [Lt]);omega)),.p (show((flat bT a1.2).length=a1.2.length*8/\a1.2.length+1<=2 ^ 40/\(a1.2.length+1)*64<=2 ^ 47) from gK bJ (by omega) (by omega))]
 cases h0:(decide (((a2.length:Int):Int)<=a3)) with
 | true =>
  have q0:=cA h0
  try have h2:2<=a2.length:=(fun _=>by omega) h0
  try have h5:GRR _ (A36_L_z10_L_2 (R36_L_z10_L nr) a0 a1 a2 a3) _:=(fun _=>grw_inv10 nr a0 ([],_) _ a3 (cV hp _ h2) (by omega)) h0
  try have h6:GRR _ (A36_L_z10_L_3 (R36_L_z10_L nr) a0 a1 a2 a3) _:=(fun _=>bH _ _ _ _ _ (dE hp _ h2 h5) (lss _)) h0
  try have h5:GRR _ (aV (aA nr) a0 a1 a2 a3) _:=(fun _=>bH nr _ _ _ _ (cV hp _ h2) (by omega)) h0
  try have h6:GRR _ (aB (aA nr) a0 a1 a2 a3) _:=(fun _=>bH nr _ _ _ _ (dE hp _ h2 h5) (by omega)) h0
  try have h5:GRR _ (A36_L_z11_L_2 a0 a1 a2 a3) _:=(fun _=>grw_inv10 _ a0 ([],_) _ a3 (cV (t:=([],[])) hp _ h2) (lss _)) h0
  try have h6:GRR _ (A36_L_z11_L_3 a0 a1 a2 a3) _:=(fun _=>bH _ _ _ _ _ (dE (t:=([],[])) hp _ h2 h5) (lss _)) h0
  try have g1:=(fun _=>h5.ol) h0
  try have g2:=(fun _=>h5.lo) h0
  try have g3:=(fun _=>h5.hi) h0
  try have f1:=(fun _=>h6.ol) h0
  try have f2:=(fun _=>h6.lo) h0
  try have f3:=(fun _=>h6.hi) h0
  try (have _:=h0;simp only [List.length_append,List.length_cons,List.length_nil] at g1 g2 g3 f1 f2 f3)
  have e:=Eq.refl (aA (nr+1) a0 a1 a2 a3);conv at e=>rhs;simp only [aA,h0,aS]
  rw [e]
  try dsimp only [aT]
  try dsimp only
  rw [show flat c3 (a1.1++a2)=((flat c3 a1.1)++(flat c3 a2)) from Eq.symm (by simp [flat])]
  try rw [show List.length (α:=Int) (a1.1++a2)=(a1.1.length+a2.length) from by first | simp;done | omega]
  rw [show flat bT (a1.2++[((a1.1.length:Int),(W ((a1.1.length:Int)+(a2.length:Int))),(-1),(-1),((aK a0 a2 0),(aK a0 a2 1),(aK a0 a2 2)),(dS a0 a1 a2 a3).1)])=(flat bT a1.2++[(iv (a1.1.length:Int)),(iv (W ((a1.1.length:Int)+(a2.length:Int)))),(iv (-1)),(iv (-1)),(iv (aK a0 a2 0)),(iv (aK a0 a2 1)),(iv (aK a0 a2 2)),(iv (dS a0 a1 a2 a3).1)]) from bL]
  try rw [show List.length (α:=Int×Int×Int×Int×Zt×Int) (a1.2++[((a1.1.length:Int),(W ((a1.1.length:Int)+(a2.length:Int))),(-1),(-1),((aK a0 a2 0),(aK a0 a2 1),(aK a0 a2 2)),(dS a0 a1 a2 a3).1)])=(a1.2.length+1) from by first | simp;done | omega]
  exact rtm (t0++[.d h0,.p (show((flat c3 a1.1).length=a1.1.length*1/\(flat c3 a2).length=a2.length*1/\(flat c3 a2).all SV.one=true/\a1.1.length+a2.length<=2 ^ 40/\(a1.1.length+a2.length)*8<=2 ^ 47) from by refine⟨?_,?_,?_,?_,?_⟩<;>first | omega | exact eX (fun _=>rfl) | (simp [bI aM];done) | (simp [bI aM];omega))]) [] [1,2] [10,9] hcx (by kernel_rfl)
 | false =>
  have q0:=cH h0
  try have h2:2<=a2.length:=(fun _=>by omega) h0
  try have h5:GRR _ (A36_L_z10_L_2 (R36_L_z10_L nr) a0 a1 a2 a3) _:=(fun _=>grw_inv10 nr a0 ([],_) _ a3 (cV hp _ h2) (by omega)) h0
  try have h6:GRR _ (A36_L_z10_L_3 (R36_L_z10_L nr) a0 a1 a2 a3) _:=(fun _=>bH _ _ _ _ _ (dE hp _ h2 h5) (lss _)) h0
  try have h5:GRR _ (aV (aA nr) a0 a1 a2 a3) _:=(fun _=>bH nr _ _ _ _ (cV hp _ h2) (by omega)) h0
  try have h6:GRR _ (aB (aA nr) a0 a1 a2 a3) _:=(fun _=>bH nr _ _ _ _ (dE hp _ h2 h5) (by omega)) h0
  try have h5:GRR _ (A36_L_z11_L_2 a0 a1 a2 a3) _:=(fun _=>grw_inv10 _ a0 ([],_) _ a3 (cV (t:=([],[])) hp _ h2) (lss _)) h0
  try have h6:GRR _ (A36_L_z11_L_3 a0 a1 a2 a3) _:=(fun _=>bH _ _ _ _ _ (dE (t:=([],[])) hp _ h2 h5) (lss _)) h0
  try have g1:=(fun _=>h5.ol) h0
  try have g2:=(fun _=>h5.lo) h0
  try have g3:=(fun _=>h5.hi) h0
  try have f1:=(fun _=>h6.ol) h0
  try have f2:=(fun _=>h6.lo) h0
  try have f3:=(fun _=>h6.hi) h0
  try (have _:=h0;simp only [List.length_append,List.length_cons,List.length_nil] at g1 g2 g3 f1 f2 f3)
  have e:=Eq.refl (aA (nr+1) a0 a1 a2 a3);conv at e=>rhs;simp only [aA,h0,aS]
  rw [e]
  try dsimp only [aT]
  try dsimp only
  rw [show flat bT (((aB (aA nr) a0 a1 a2 a3).2.set (toNat (a1.2.length:Int)) (((aB (aA nr) a0 a1 a2 a3).2.getD (toNat (a1.2.length:Int)) default).1,((aB (aA nr) a0 a1 a2 a3).2.getD (toNat (a1.2.length:Int)) default).2.1,(((a1.2.length+1):Nat):Int),((aB (aA nr) a0 a1 a2 a3).2.getD (toNat (a1.2.length:Int)) default).2.2.2.1,((aB (aA nr) a0 a1 a2 a3).2.getD (toNat (a1.2.length:Int)) default).2.2.2.2.1,((aB (aA nr) a0 a1 a2 a3).2.getD (toNat (a1.2.length:Int)) default).2.2.2.2.2)).set (toNat (a1.2.length:Int)) ((((aB (aA nr) a0 a1 a2 a3).2.set (toNat (a1.2.length:Int)) (((aB (aA nr) a0 a1 a2 a3).2.getD (toNat (a1.2.length:Int)) default).1,((aB (aA nr) a0 a1 a2 a3).2.getD (toNat (a1.2.length:Int)) default).2.1,(((a1.2.length+1):Nat):Int),((aB (aA nr) a0 a1 a2 a3).2.getD (toNat (a1.2.length:Int)) default).2.2.2.1,((aB (aA nr) a0 a1 a2 a3).2.getD (toNat (a1.2.length:Int)) default).2.2.2.2.1,((aB (aA nr) a0 a1 a2 a3).2.getD (toNat (a1.2.length:Int)) default).2.2.2.2.2)).getD (toNat (a1.2.length:Int)) default).1,(((aB (aA nr) a0 a1 a2 a3).2.set (toNat (a1.2.length:Int)) (((aB (aA nr) a0 a1 a2 a3).2.getD (toNat (a1.2.length:Int)) default).1,((aB (aA nr) a0 a1 a2 a3).2.getD (toNat (a1.2.length:Int)) default).2.1,(((a1.2.length+1):Nat):Int),((aB (aA nr) a0 a1 a2 a3).2.getD (toNat (a1.2.length:Int)) default).2.2.2.1,((aB (aA nr) a0 a1 a2 a3).2.getD (toNat (a1.2.length:Int)) default).2.2.2.2.1,((aB (aA nr) a0 a1 a2 a3).2.getD (toNat (a1.2.length:Int)) default).2.2.2.2.2)).getD (toNat (a1.2.length:Int)) default).2.1,(((aB (aA nr) a0 a1 a2 a3).2.set (toNat (a1.2.length:Int)) (((aB (aA nr) a0 a1 a2 a3).2.getD (toNat (a1.2.length:Int)) default).1,((aB (aA nr) a0 a1 a2 a3).2.getD (toNat (a1.2.length:Int)) default).2.1,(((a1.2.length+1):Nat):Int),((aB (aA nr) a0 a1 a2 a3).2.getD (toNat (a1.2.length:Int)) default).2.2.2.1,((aB (aA nr) a0 a1 a2 a3).2.getD (toNat (a1.2.length:Int)) default).2.2.2.2.1,((aB (aA nr) a0 a1 a2 a3).2.getD (toNat (a1.2.length:Int)) default).2.2.2.2.2)).getD (toNat (a1.2.length:Int)) default).2.2.1,(((aV (aA nr) a0 a1 a2 a3).2.length:Nat):Int),(((aB (aA nr) a0 a1 a2 a3).2.set (toNat (a1.2.length:Int)) (((aB (aA nr) a0 a1 a2 a3).2.getD (toNat (a1.2.length:Int)) default).1,((aB (aA nr) a0 a1 a2 a3).2.getD (toNat (a1.2.length:Int)) default).2.1,(((a1.2.length+1):Nat):Int),((aB (aA nr) a0 a1 a2 a3).2.getD (toNat (a1.2.length:Int)) default).2.2.2.1,((aB (aA nr) a0 a1 a2 a3).2.getD (toNat (a1.2.length:Int)) default).2.2.2.2.1,((aB (aA nr) a0 a1 a2 a3).2.getD (toNat (a1.2.length:Int)) default).2.2.2.2.2)).getD (toNat (a1.2.length:Int)) default).2.2.2.2.1,(((aB (aA nr) a0 a1 a2 a3).2.set (toNat (a1.2.length:Int)) (((aB (aA nr) a0 a1 a2 a3).2.getD (toNat (a1.2.length:Int)) default).1,((aB (aA nr) a0 a1 a2 a3).2.getD (toNat (a1.2.length:Int)) default).2.1,(((a1.2.length+1):Nat):Int),((aB (aA nr) a0 a1 a2 a3).2.getD (toNat (a1.2.length:Int)) default).2.2.2.1,((aB (aA nr) a0 a1 a2 a3).2.getD (toNat (a1.2.length:Int)) default).2.2.2.2.1,((aB (aA nr) a0 a1 a2 a3).2.getD (toNat (a1.2.length:Int)) default).2.2.2.2.2)).getD (toNat (a1.2.length:Int)) default).2.2.2.2.2))=(splice (splice (flat bT (aB (aA nr) a0 a1 a2 a3).2) (0+toNat (a1.2.length:Int)*8+2) [(iv (((a1.2.length+1):Nat):Int))]) (0+toNat (a1.2.length:Int)*8+3) [(iv (((aV (aA nr) a0 a1 a2 a3).2.length:Nat):Int))]) from Eq.symm (by rw [show(splice (flat bT (aB (aA nr) a0 a1 a2 a3).2) (0+toNat (a1.2.length:Int)*8+2) [(iv (((a1.2.length+1):Nat):Int))])=flat bT ((aB (aA nr) a0 a1 a2 a3).2.set (toNat (a1.2.length:Int)) (((aB (aA nr) a0 a1 a2 a3).2.getD (toNat (a1.2.length:Int)) default).1,((aB (aA nr) a0 a1 a2 a3).2.getD (toNat (a1.2.length:Int)) default).2.1,(((a1.2.length+1):Nat):Int),((aB (aA nr) a0 a1 a2 a3).2.getD (toNat (a1.2.length:Int)) default).2.2.2.1,((aB (aA nr) a0 a1 a2 a3).2.getD (toNat (a1.2.length:Int)) default).2.2.2.2.1,((aB (aA nr) a0 a1 a2 a3).2.getD (toNat (a1.2.length:Int)) default).2.2.2.2.2)) from(aW bJ (by first | omega | (simp only [Lt];omega)) (o:=2) (d:=default) (Nb rfl) rfl)];exact aW bJ (by first | omega | (simp only [Lt];omega)) (o:=3) (d:=default) (Nb rfl) rfl)]
  try rw [show List.length (α:=Int×Int×Int×Int×Zt×Int) (((aB (aA nr) a0 a1 a2 a3).2.set (toNat (a1.2.length:Int)) (((aB (aA nr) a0 a1 a2 a3).2.getD (toNat (a1.2.length:Int)) default).1,((aB (aA nr) a0 a1 a2 a3).2.getD (toNat (a1.2.length:Int)) default).2.1,(((a1.2.length+1):Nat):Int),((aB (aA nr) a0 a1 a2 a3).2.getD (toNat (a1.2.length:Int)) default).2.2.2.1,((aB (aA nr) a0 a1 a2 a3).2.getD (toNat (a1.2.length:Int)) default).2.2.2.2.1,((aB (aA nr) a0 a1 a2 a3).2.getD (toNat (a1.2.length:Int)) default).2.2.2.2.2)).set (toNat (a1.2.length:Int)) ((((aB (aA nr) a0 a1 a2 a3).2.set (toNat (a1.2.length:Int)) (((aB (aA nr) a0 a1 a2 a3).2.getD (toNat (a1.2.length:Int)) default).1,((aB (aA nr) a0 a1 a2 a3).2.getD (toNat (a1.2.length:Int)) default).2.1,(((a1.2.length+1):Nat):Int),((aB (aA nr) a0 a1 a2 a3).2.getD (toNat (a1.2.length:Int)) default).2.2.2.1,((aB (aA nr) a0 a1 a2 a3).2.getD (toNat (a1.2.length:Int)) default).2.2.2.2.1,((aB (aA nr) a0 a1 a2 a3).2.getD (toNat (a1.2.length:Int)) default).2.2.2.2.2)).getD (toNat (a1.2.length:Int)) default).1,(((aB (aA nr) a0 a1 a2 a3).2.set (toNat (a1.2.length:Int)) (((aB (aA nr) a0 a1 a2 a3).2.getD (toNat (a1.2.length:Int)) default).1,((aB (aA nr) a0 a1 a2 a3).2.getD (toNat (a1.2.length:Int)) default).2.1,(((a1.2.length+1):Nat):Int),((aB (aA nr) a0 a1 a2 a3).2.getD (toNat (a1.2.length:Int)) default).2.2.2.1,((aB (aA nr) a0 a1 a2 a3).2.getD (toNat (a1.2.length:Int)) default).2.2.2.2.1,((aB (aA nr) a0 a1 a2 a3).2.getD (toNat (a1.2.length:Int)) default).2.2.2.2.2)).getD (toNat (a1.2.length:Int)) default).2.1,(((aB (aA nr) a0 a1 a2 a3).2.set (toNat (a1.2.length:Int)) (((aB (aA nr) a0 a1 a2 a3).2.getD (toNat (a1.2.length:Int)) default).1,((aB (aA nr) a0 a1 a2 a3).2.getD (toNat (a1.2.length:Int)) default).2.1,(((a1.2.length+1):Nat):Int),((aB (aA nr) a0 a1 a2 a3).2.getD (toNat (a1.2.length:Int)) default).2.2.2.1,((aB (aA nr) a0 a1 a2 a3).2.getD (toNat (a1.2.length:Int)) default).2.2.2.2.1,((aB (aA nr) a0 a1 a2 a3).2.getD (toNat (a1.2.length:Int)) default).2.2.2.2.2)).getD (toNat (a1.2.length:Int)) default).2.2.1,(((aV (aA nr) a0 a1 a2 a3).2.length:Nat):Int),(((aB (aA nr) a0 a1 a2 a3).2.set (toNat (a1.2.length:Int)) (((aB (aA nr) a0 a1 a2 a3).2.getD (toNat (a1.2.length:Int)) default).1,((aB (aA nr) a0 a1 a2 a3).2.getD (toNat (a1.2.length:Int)) default).2.1,(((a1.2.length+1):Nat):Int),((aB (aA nr) a0 a1 a2 a3).2.getD (toNat (a1.2.length:Int)) default).2.2.2.1,((aB (aA nr) a0 a1 a2 a3).2.getD (toNat (a1.2.length:Int)) default).2.2.2.2.1,((aB (aA nr) a0 a1 a2 a3).2.getD (toNat (a1.2.length:Int)) default).2.2.2.2.2)).getD (toNat (a1.2.length:Int)) default).2.2.2.2.1,(((aB (aA nr) a0 a1 a2 a3).2.set (toNat (a1.2.length:Int)) (((aB (aA nr) a0 a1 a2 a3).2.getD (toNat (a1.2.length:Int)) default).1,((aB (aA nr) a0 a1 a2 a3).2.getD (toNat (a1.2.length:Int)) default).2.1,(((a1.2.length+1):Nat):Int),((aB (aA nr) a0 a1 a2 a3).2.getD (toNat (a1.2.length:Int)) default).2.2.2.1,((aB (aA nr) a0 a1 a2 a3).2.getD (toNat (a1.2.length:Int)) default).2.2.2.2.1,((aB (aA nr) a0 a1 a2 a3).2.getD (toNat (a1.2.length:Int)) default).2.2.2.2.2)).getD (toNat (a1.2.length:Int)) default).2.2.2.2.2))=(aB (aA nr) a0 a1 a2 a3).2.length from by first | simp;done | omega]
  exact rtm (t0++[.d h0,.c [0,3] (aC8 a0 a2 (by omega) (by omega) hp.inr (by omega)),.c [0,3] (aDb a0 a2 (aD a0 a2) (by omega) (by omega) hp.inr (by omega)),.p (show(2:Int)≠0 from by decide),.S aM (aH a0 a2 (aD a0 a2)) 0 (W (Int.tdiv (W ((((aH a0 a2 (aD a0 a2)).length:Nat):Int)+1)) 2)) ((aH a0 a2 (aD a0 a2)).length),.c [0,1,9,11] (by have q:=(ihr a0 (a1.1,(a1.2++[((a1.1.length:Int),(W ((a1.1.length:Int)+(a2.length:Int))),(-1),(-1),((aK a0 a2 0),(aK a0 a2 1),(aK a0 a2 2)),(dS a0 a1 a2 a3).1)])) (Aw.part (aH a0 a2 (aD a0 a2)) 0 (W (Int.tdiv (W ((((aH a0 a2 (aD a0 a2)).length:Nat):Int)+1)) 2))) a3 (by(try simp only [Lt]);omega) (by(try simp only [Lt]);omega) (by(try simp only [Lt]);omega) (by(try simp only [Lt]);omega) (by first | exact cV hp _ h2 | exact dE hp _ h2 h5) (by omega));(try dsimp only at q);rw [show flat bT (a1.2++[((a1.1.length:Int),(W ((a1.1.length:Int)+(a2.length:Int))),(-1),(-1),((aK a0 a2 0),(aK a0 a2 1),(aK a0 a2 2)),(dS a0 a1 a2 a3).1)])=(flat bT a1.2++[(iv (a1.1.length:Int)),(iv (W ((a1.1.length:Int)+(a2.length:Int)))),(iv (-1)),(iv (-1)),(iv (aK a0 a2 0)),(iv (aK a0 a2 1)),(iv (aK a0 a2 2)),(iv (dS a0 a1 a2 a3).1)]) from bL] at q;(try rw [show List.length (α:=Int×Int×Int×Int×Zt×Int) (a1.2++[((a1.1.length:Int),(W ((a1.1.length:Int)+(a2.length:Int))),(-1),(-1),((aK a0 a2 0),(aK a0 a2 1),(aK a0 a2 2)),(dS a0 a1 a2 a3).1)])=(a1.2.length+1) from by first | simp;done | omega] at q);(try rw [show List.length (α:=Int) (Aw.part (aH a0 a2 (aD a0 a2)) 0 (W (Int.tdiv (W ((((aH a0 a2 (aD a0 a2)).length:Nat):Int)+1)) 2)))=(toNat (W (Int.tdiv (W ((((aH a0 a2 (aD a0 a2)).length:Nat):Int)+1)) 2)) - toNat 0) from by first | simp;done | omega] at q);exact q),.S aM (aH a0 a2 (aD a0 a2)) (W (Int.tdiv (W ((((aH a0 a2 (aD a0 a2)).length:Nat):Int)+1)) 2)) (((aH a0 a2 (aD a0 a2)).length:Nat):Int) ((aH a0 a2 (aD a0 a2)).length),.c [0,12,13,14] (by have q:=(ihr a0 ((aV (aA nr) a0 a1 a2 a3).1,(aV (aA nr) a0 a1 a2 a3).2) (Aw.part (aH a0 a2 (aD a0 a2)) (W (Int.tdiv (W ((((aH a0 a2 (aD a0 a2)).length:Nat):Int)+1)) 2)) (((aH a0 a2 (aD a0 a2)).length:Nat):Int)) a3 (by(try simp only [Lt]);omega) (by(try simp only [Lt]);omega) (by(try simp only [Lt]);omega) (by(try simp only [Lt]);omega) (by first | exact cV hp _ h2 | exact dE hp _ h2 h5) (by omega));(try dsimp only at q);(try rw [show List.length (α:=Int) (Aw.part (aH a0 a2 (aD a0 a2)) (W (Int.tdiv (W ((((aH a0 a2 (aD a0 a2)).length:Nat):Int)+1)) 2)) (((aH a0 a2 (aD a0 a2)).length:Nat):Int))=(toNat (((aH a0 a2 (aD a0 a2)).length:Nat):Int) - toNat (W (Int.tdiv (W ((((aH a0 a2 (aD a0 a2)).length:Nat):Int)+1)) 2))) from by first | simp;done | omega] at q);exact q),.i (a1.2.length:Int) ((aB (aA nr) a0 a1 a2 a3).2.length),.p (show((0+toNat (a1.2.length:Int)*8+2)+1<=(flat bT (aB (aA nr) a0 a1 a2 a3).2).length) from(cS bJ (by first | omega | (simp only [Lt];omega)) (o:=2) (Nb rfl))),.i (a1.2.length:Int) ((aB (aA nr) a0 a1 a2 a3).2.length),.p (show((0+toNat (a1.2.length:Int)*8+3)+1<=(splice (flat bT (aB (aA nr) a0 a1 a2 a3).2) (0+toNat (a1.2.length:Int)*8+2) [(iv (((a1.2.length+1):Nat):Int))]).length) from(by rw [show(splice (flat bT (aB (aA nr) a0 a1 a2 a3).2) (0+toNat (a1.2.length:Int)*8+2) [(iv (((a1.2.length+1):Nat):Int))])=flat bT ((aB (aA nr) a0 a1 a2 a3).2.set (toNat (a1.2.length:Int)) (((aB (aA nr) a0 a1 a2 a3).2.getD (toNat (a1.2.length:Int)) default).1,((aB (aA nr) a0 a1 a2 a3).2.getD (toNat (a1.2.length:Int)) default).2.1,(((a1.2.length+1):Nat):Int),((aB (aA nr) a0 a1 a2 a3).2.getD (toNat (a1.2.length:Int)) default).2.2.2.1,((aB (aA nr) a0 a1 a2 a3).2.getD (toNat (a1.2.length:Int)) default).2.2.2.2.1,((aB (aA nr) a0 a1 a2 a3).2.getD (toNat (a1.2.length:Int)) default).2.2.2.2.2)) from(aW bJ (by first | omega | (simp only [Lt];omega)) (o:=2) (d:=default) (Nb rfl) rfl)];exact cS bJ (by first | omega | (simp only [Lt];omega)) (o:=3) (Nb rfl)))]) [] [1,2] [15,16] hcx (by kernel_rfl)
theorem wD (a0:bM)(a1:List (Int)×bE)(a2:List (Int))(a3:Int)(l0:a0.length<=9223372036854775807)(l1_1:a1.1.length<=9223372036854775807)(l1_2:a1.2.length<=9223372036854775807)(l2:a2.length<=9223372036854775807)(hp:PGRW a0 a1 a2 a3):Con Tryz.prog 36 [(.s 0 0 a0.length 10),(.a [(.s 1 0 a1.1.length 1),(.s 2 0 a1.2.length 8)]),(.s 3 0 a2.length 1),(iv a3)] [(.live false true (flat eF a0)),(.live true true (flat c3 a1.1)),(.live true true (flat bT a1.2)),(.live false true (flat c3 a2))] (.a [(.s 4 0 (dY a0 a1 a2 a3).1.length 1),(.s 5 0 (dY a0 a1 a2 a3).2.length 8)]) [(.live true true (flat c3 (dY a0 a1 a2 a3).1)),(.live true true (flat bT (dY a0 a1 a2 a3).2))] [.un,.dead,.dead,.un]:=aDe (a2.length+1) a0 a1 a2 a3 l0 l1_1 l1_2 l2 hp (lss _)
end Go.Proofs.YtmihafgemmgepaaGreat
namespace Go.Proofs.YtmihafgemmgepaaGreat
open Go.Proofs Go.Aw Go.RowKit
set_option maxRecDepth 100000
theorem oD:∀(n1 n2:Nat) (l:eW) (t:TR) (ns:List Int) (leaf:Int),PGRW l t ns leaf->ns.length < n1->ns.length < n2->aA n1 l t ns leaf=aA n2 l t ns leaf
 | 0,_,_,_,_,_,_,h,_=>absurd h (eP _)
 | _+1,0,_,_,_,_,_,_,h=>absurd h (eP _)
 | n1+1,n2+1,l,t,ns,leaf,hp,h1,h2=>by
   have h:=hp.rng;have hl:=hp.lf
   simp only [aA]
   by_cases h0:(ns.length:Int)<=leaf
   · rw [cN h0];rfl
   · rw [dQ h0,cond_false,cond_false]
     have g2:2<=ns.length:=by omega
     have hs:=pV hp (aD l ns)
     have hf:=pU (n:=ns.length) (by omega)
     have hpt1:=part_len (l:=aH l ns (aD l ns)) (a:=0) (b:=(((ns.length+1) / 2:Nat):Int)) (by omega)
     have hpt2:=part_len (l:=aH l ns (aD l ns)) (a:=(((ns.length+1) / 2:Nat):Int)) (b:=(ns.length:Int)) (by omega)
     have h5:GRR _ (aV (aA n1) l t ns leaf) _:=bH n1 _ _ _ _ (cV hp _ g2) (by rw [hs.1,hf,hpt1];omega)
     have e2:aV (aA n1) l t ns leaf=aV (aA n2) l t ns leaf:=oD n1 n2 _ _ _ _ (cV hp _ g2) (by rw [hs.1,hf,hpt1];omega) (by rw [hs.1,hf,hpt1];omega)
     have e3:aB (aA n1) l t ns leaf=aB (aA n2) l t ns leaf:=by
       have:=oD n1 n2 _ _ _ _ (dE hp _ g2 h5) (by rw [hs.1,hf,hpt2];omega) (by rw [hs.1,hf,hpt2];omega)
       unfold aB
       rw [←e2]
       exact this
     rw [e3,e2]
def dT (a0:bM)(a1:List (Int)×bE)(a2:List (Int))(a3:Int):=(nJ (fT a0 a2) ((aK a0 a2 0),(aK a0 a2 1),(aK a0 a2 2)))
def A36_L_z10_L_2 (rr:bM->(List (Int)×bE)->(List (Int))->(Int)->List (Int)×bE)(a0:bM)(a1:List (Int)×bE)(a2:List (Int))(a3:Int):=(rr a0 (([]:List (Int)),(a1.2++[(0,(W (0+(a2.length:Int))),(-1),(-1),((aK a0 a2 0),(aK a0 a2 1),(aK a0 a2 2)),(dT a0 a1 a2 a3).1)])) (Aw.part (aH a0 a2 (aD a0 a2)) 0 (W (Int.tdiv (W ((((aH a0 a2 (aD a0 a2)).length:Nat):Int)+1)) 2))) a3)
def A36_L_z10_L_3 (rr:bM->(List (Int)×bE)->(List (Int))->(Int)->List (Int)×bE)(a0:bM)(a1:List (Int)×bE)(a2:List (Int))(a3:Int):=(dY a0 ((A36_L_z10_L_2 (rr) a0 a1 a2 a3).1,(A36_L_z10_L_2 (rr) a0 a1 a2 a3).2) (Aw.part (aH a0 a2 (aD a0 a2)) (W (Int.tdiv (W ((((aH a0 a2 (aD a0 a2)).length:Nat):Int)+1)) 2)) (((aH a0 a2 (aD a0 a2)).length:Nat):Int)) a3)
def R36_L_z10_L:Nat->bM->(List (Int)×bE)->(List (Int))->(Int)->List (Int)×bE
 | 0,_,_,_,_=>default
 | nr+1,a0,a1,a2,a3 =>
 (bif (decide (((a2.length:Int):Int)<=a3)) then
  (a2,(a1.2++[(0,(W (0+(a2.length:Int))),(-1),(-1),((aK a0 a2 0),(aK a0 a2 1),(aK a0 a2 2)),(dT a0 a1 a2 a3).1)]))
 else
  ((A36_L_z10_L_3 (R36_L_z10_L nr) a0 a1 a2 a3).1,(((A36_L_z10_L_3 (R36_L_z10_L nr) a0 a1 a2 a3).2.set (toNat (a1.2.length:Int)) (((A36_L_z10_L_3 (R36_L_z10_L nr) a0 a1 a2 a3).2.getD (toNat (a1.2.length:Int)) default).1,((A36_L_z10_L_3 (R36_L_z10_L nr) a0 a1 a2 a3).2.getD (toNat (a1.2.length:Int)) default).2.1,(((a1.2.length+1):Nat):Int),((A36_L_z10_L_3 (R36_L_z10_L nr) a0 a1 a2 a3).2.getD (toNat (a1.2.length:Int)) default).2.2.2.1,((A36_L_z10_L_3 (R36_L_z10_L nr) a0 a1 a2 a3).2.getD (toNat (a1.2.length:Int)) default).2.2.2.2.1,((A36_L_z10_L_3 (R36_L_z10_L nr) a0 a1 a2 a3).2.getD (toNat (a1.2.length:Int)) default).2.2.2.2.2)).set (toNat (a1.2.length:Int)) ((((A36_L_z10_L_3 (R36_L_z10_L nr) a0 a1 a2 a3).2.set (toNat (a1.2.length:Int)) (((A36_L_z10_L_3 (R36_L_z10_L nr) a0 a1 a2 a3).2.getD (toNat (a1.2.length:Int)) default).1,((A36_L_z10_L_3 (R36_L_z10_L nr) a0 a1 a2 a3).2.getD (toNat (a1.2.length:Int)) default).2.1,(((a1.2.length+1):Nat):Int),((A36_L_z10_L_3 (R36_L_z10_L nr) a0 a1 a2 a3).2.getD (toNat (a1.2.length:Int)) default).2.2.2.1,((A36_L_z10_L_3 (R36_L_z10_L nr) a0 a1 a2 a3).2.getD (toNat (a1.2.length:Int)) default).2.2.2.2.1,((A36_L_z10_L_3 (R36_L_z10_L nr) a0 a1 a2 a3).2.getD (toNat (a1.2.length:Int)) default).2.2.2.2.2)).getD (toNat (a1.2.length:Int)) default).1,(((A36_L_z10_L_3 (R36_L_z10_L nr) a0 a1 a2 a3).2.set (toNat (a1.2.length:Int)) (((A36_L_z10_L_3 (R36_L_z10_L nr) a0 a1 a2 a3).2.getD (toNat (a1.2.length:Int)) default).1,((A36_L_z10_L_3 (R36_L_z10_L nr) a0 a1 a2 a3).2.getD (toNat (a1.2.length:Int)) default).2.1,(((a1.2.length+1):Nat):Int),((A36_L_z10_L_3 (R36_L_z10_L nr) a0 a1 a2 a3).2.getD (toNat (a1.2.length:Int)) default).2.2.2.1,((A36_L_z10_L_3 (R36_L_z10_L nr) a0 a1 a2 a3).2.getD (toNat (a1.2.length:Int)) default).2.2.2.2.1,((A36_L_z10_L_3 (R36_L_z10_L nr) a0 a1 a2 a3).2.getD (toNat (a1.2.length:Int)) default).2.2.2.2.2)).getD (toNat (a1.2.length:Int)) default).2.1,(((A36_L_z10_L_3 (R36_L_z10_L nr) a0 a1 a2 a3).2.set (toNat (a1.2.length:Int)) (((A36_L_z10_L_3 (R36_L_z10_L nr) a0 a1 a2 a3).2.getD (toNat (a1.2.length:Int)) default).1,((A36_L_z10_L_3 (R36_L_z10_L nr) a0 a1 a2 a3).2.getD (toNat (a1.2.length:Int)) default).2.1,(((a1.2.length+1):Nat):Int),((A36_L_z10_L_3 (R36_L_z10_L nr) a0 a1 a2 a3).2.getD (toNat (a1.2.length:Int)) default).2.2.2.1,((A36_L_z10_L_3 (R36_L_z10_L nr) a0 a1 a2 a3).2.getD (toNat (a1.2.length:Int)) default).2.2.2.2.1,((A36_L_z10_L_3 (R36_L_z10_L nr) a0 a1 a2 a3).2.getD (toNat (a1.2.length:Int)) default).2.2.2.2.2)).getD (toNat (a1.2.length:Int)) default).2.2.1,(((A36_L_z10_L_2 (R36_L_z10_L nr) a0 a1 a2 a3).2.length:Nat):Int),(((A36_L_z10_L_3 (R36_L_z10_L nr) a0 a1 a2 a3).2.set (toNat (a1.2.length:Int)) (((A36_L_z10_L_3 (R36_L_z10_L nr) a0 a1 a2 a3).2.getD (toNat (a1.2.length:Int)) default).1,((A36_L_z10_L_3 (R36_L_z10_L nr) a0 a1 a2 a3).2.getD (toNat (a1.2.length:Int)) default).2.1,(((a1.2.length+1):Nat):Int),((A36_L_z10_L_3 (R36_L_z10_L nr) a0 a1 a2 a3).2.getD (toNat (a1.2.length:Int)) default).2.2.2.1,((A36_L_z10_L_3 (R36_L_z10_L nr) a0 a1 a2 a3).2.getD (toNat (a1.2.length:Int)) default).2.2.2.2.1,((A36_L_z10_L_3 (R36_L_z10_L nr) a0 a1 a2 a3).2.getD (toNat (a1.2.length:Int)) default).2.2.2.2.2)).getD (toNat (a1.2.length:Int)) default).2.2.2.2.1,(((A36_L_z10_L_3 (R36_L_z10_L nr) a0 a1 a2 a3).2.set (toNat (a1.2.length:Int)) (((A36_L_z10_L_3 (R36_L_z10_L nr) a0 a1 a2 a3).2.getD (toNat (a1.2.length:Int)) default).1,((A36_L_z10_L_3 (R36_L_z10_L nr) a0 a1 a2 a3).2.getD (toNat (a1.2.length:Int)) default).2.1,(((a1.2.length+1):Nat):Int),((A36_L_z10_L_3 (R36_L_z10_L nr) a0 a1 a2 a3).2.getD (toNat (a1.2.length:Int)) default).2.2.2.1,((A36_L_z10_L_3 (R36_L_z10_L nr) a0 a1 a2 a3).2.getD (toNat (a1.2.length:Int)) default).2.2.2.2.1,((A36_L_z10_L_3 (R36_L_z10_L nr) a0 a1 a2 a3).2.getD (toNat (a1.2.length:Int)) default).2.2.2.2.2)).getD (toNat (a1.2.length:Int)) default).2.2.2.2.2))))
def hZ (a0:bM)(a1:List (Int)×bE)(a2:List (Int))(a3:Int):List (Int)×bE:=R36_L_z10_L (a2.length+1) a0 a1 a2 a3
theorem aM6:∀(nr:Nat) (l:eW) (t:TR) (ns:List Int) (leaf:Int),PGRW l ([],t.2) ns leaf->ns.length < nr->R36_L_z10_L nr l t ns leaf=aA nr l ([],t.2) ns leaf
 | 0,_,_,_,_,_,h=>absurd h (eP _)
 | nr+1,l,t,ns,leaf,hp,hn=>by
   have h:=hp.rng;have hl:=hp.lf
   simp only [R36_L_z10_L,aA]
   by_cases h0:(ns.length:Int)<=leaf
   · rw [cN h0,cond_true,cond_true]
     rfl
   · rw [dQ h0,cond_false,cond_false]
     have g2:2<=ns.length:=by omega
     have hs:=pV hp (aD l ns)
     have hf:=pU (n:=ns.length) (by omega)
     have hpt1:=part_len (l:=aH l ns (aD l ns)) (a:=0) (b:=(((ns.length+1) / 2:Nat):Int)) (by omega)
     have hpt2:=part_len (l:=aH l ns (aD l ns)) (a:=(((ns.length+1) / 2:Nat):Int)) (b:=(ns.length:Int)) (by omega)
     have e2:A36_L_z10_L_2 (R36_L_z10_L nr) l t ns leaf=aV (aA nr) l ([],t.2) ns leaf:=aM6 nr _ ([],_) _ _ (cV hp _ g2) (by rw [hs.1,hf,hpt1];omega)
     have h5:GRR _ (aV (aA nr) l ([],t.2) ns leaf) _:=bH nr _ _ _ _ (cV hp _ g2) (by rw [hs.1,hf,hpt1];omega)
     have e3:A36_L_z10_L_3 (R36_L_z10_L nr) l t ns leaf=aB (aA nr) l ([],t.2) ns leaf:=by
       unfold A36_L_z10_L_3 aB dY
       rw [e2]
       exact oD _ _ _ _ _ _ (dE hp _ g2 h5) (lss _) (by rw [hs.1,hf,hpt2];omega)
     rw [e3,e2]
theorem grw_inv10 (nr:Nat)(l:eW)(t:TR)(ns:List Int)(leaf:Int)(hp:PGRW l ([],t.2) ns leaf)(h:ns.length < nr):GRR ([],t.2) (R36_L_z10_L nr l t ns leaf) ns:=by
 rw [aM6 nr l t ns leaf hp h];exact bH nr _ _ _ _ hp h
theorem aDf:∀(nr:Nat) (a0:bM) (a1:List (Int)×bE) (a2:List (Int)) (a3:Int) (l0:a0.length<=9223372036854775807) (l1_1:a1.1.length<=9223372036854775807) (l1_2:a1.2.length<=9223372036854775807) (l2:a2.length<=9223372036854775807) (hp:PGRW a0 ([],a1.2) a2 a3),a2.length < nr->Con Tryz.prog 36 [(.s 0 0 a0.length 10),(.a [(.v (.slice none 0 0)),(.s 1 0 a1.2.length 8)]),(.s 2 0 a2.length 1),(iv a3)] [(.live false true (flat eF a0)),(.live true true (flat bT a1.2)),(.live false true (flat c3 a2))] (.a [(.s 3 0 (R36_L_z10_L nr a0 a1 a2 a3).1.length 1),(.s 4 0 (R36_L_z10_L nr a0 a1 a2 a3).2.length 8)]) [(.live true true (flat c3 (R36_L_z10_L nr a0 a1 a2 a3).1)),(.live true true (flat bT (R36_L_z10_L nr a0 a1 a2 a3).2))] [.un,.dead,.un]:=by
 intro nr
 induction nr with
 | zero=>intro a0 a1 a2 a3 l0 l1_1 l1_2 l2 hp hlt;exact absurd hlt (eP _)
 | succ nr ihr =>
 intro a0 a1 a2 a3 l0 l1_1 l1_2 l2 hp hlt
 refine aO Tryz.func36 (by kernel_rfl) fun cx hcx=>?_
 have hpr:=hp.rng
 have hpn:=hp.nds
 try dsimp only at hpr hpn
 try simp only [List.length_nil,Nat.zero_add] at hpr hpn
 have hpl:=hp.lf
 have hpk:=aDc a0 a2
 have hso:=pV hp (aD a0 a2)
 obtain⟨hso1,hso2⟩:=hso
 have hhf:(W (Int.tdiv (W ((((aH a0 a2 (aD a0 a2)).length:Nat):Int)+1)) 2))=(((a2.length+1) / 2:Nat):Int):=by rw [hso1];exact pU (by omega)
 have hpt1:(Aw.part (aH a0 a2 (aD a0 a2)) 0 (W (Int.tdiv (W ((((aH a0 a2 (aD a0 a2)).length:Nat):Int)+1)) 2))).length=(a2.length+1) / 2:=by rw [part_len (by omega)];omega
 have hpt2:(Aw.part (aH a0 a2 (aD a0 a2)) (W (Int.tdiv (W ((((aH a0 a2 (aD a0 a2)).length:Nat):Int)+1)) 2)) (((aH a0 a2 (aD a0 a2)).length:Nat):Int)).length=a2.length - (a2.length+1) / 2:=by rw [part_len (by omega)];omega
 try have h2:2<=a2.length:=(fun _=>by omega) h0
 try have h5:GRR _ (A36_L_z10_L_2 (R36_L_z10_L nr) a0 a1 a2 a3) _:=(fun _=>grw_inv10 nr a0 ([],_) _ a3 (cV hp _ h2) (by omega)) h0
 try have h6:GRR _ (A36_L_z10_L_3 (R36_L_z10_L nr) a0 a1 a2 a3) _:=(fun _=>bH _ _ _ _ _ (dE hp _ h2 h5) (lss _)) h0
 try have h5:GRR _ (aV (aA nr) a0 a1 a2 a3) _:=(fun _=>bH nr _ _ _ _ (cV hp _ h2) (by omega)) h0
 try have h6:GRR _ (aB (aA nr) a0 a1 a2 a3) _:=(fun _=>bH nr _ _ _ _ (dE hp _ h2 h5) (by omega)) h0
 try have h5:GRR _ (A36_L_z11_L_2 a0 a1 a2 a3) _:=(fun _=>grw_inv10 _ a0 ([],_) _ a3 (cV (t:=([],[])) hp _ h2) (lss _)) h0
 try have h6:GRR _ (A36_L_z11_L_3 a0 a1 a2 a3) _:=(fun _=>bH _ _ _ _ _ (dE (t:=([],[])) hp _ h2 h5) (lss _)) h0
 try have g1:=(fun _=>h5.ol) h0
 try have g2:=(fun _=>h5.lo) h0
 try have g3:=(fun _=>h5.hi) h0
 try have f1:=(fun _=>h6.ol) h0
 try have f2:=(fun _=>h6.lo) h0
 try have f3:=(fun _=>h6.hi) h0
 try (have _:=h0;simp only [List.length_append,List.length_cons,List.length_nil] at g1 g2 g3 f1 f2 f3)
 let t0:List (St Tryz.prog):=[.c [0,2] (jY a0 a2 0 (by omega) (by omega) hp.inr (by omega)),.c [0,2] (jY a0 a2 1 (by omega) (by omega) hp.inr (by omega)),.c [0,2] (jY a0 a2 2 (by omega) (by omega) hp.inr (by omega)),.c [0,2] (aC7 a0 a2 (by omega) (by omega) hp.inr (by omega)),.c [6] (aM2 (fT a0 a2) ((aK a0 a2 0),(aK a0 a2 1),(aK a0 a2 2)) (by(try simp only [Lt]);omega)),.p (show((flat bT a1.2).length=a1.2.length*8/\a1.2.length+1<=2 ^ 40/\(a1.2.length+1)*64<=2 ^ 47) from gK bJ (by omega) (by omega))]
 cases h0:(decide (((a2.length:Int):Int)<=a3)) with
 | true =>
  have q0:=cA h0
  try have h2:2<=a2.length:=(fun _=>by omega) h0
  try have h5:GRR _ (A36_L_z10_L_2 (R36_L_z10_L nr) a0 a1 a2 a3) _:=(fun _=>grw_inv10 nr a0 ([],_) _ a3 (cV hp _ h2) (by omega)) h0
  try have h6:GRR _ (A36_L_z10_L_3 (R36_L_z10_L nr) a0 a1 a2 a3) _:=(fun _=>bH _ _ _ _ _ (dE hp _ h2 h5) (lss _)) h0
  try have h5:GRR _ (aV (aA nr) a0 a1 a2 a3) _:=(fun _=>bH nr _ _ _ _ (cV hp _ h2) (by omega)) h0
  try have h6:GRR _ (aB (aA nr) a0 a1 a2 a3) _:=(fun _=>bH nr _ _ _ _ (dE hp _ h2 h5) (by omega)) h0
  try have h5:GRR _ (A36_L_z11_L_2 a0 a1 a2 a3) _:=(fun _=>grw_inv10 _ a0 ([],_) _ a3 (cV (t:=([],[])) hp _ h2) (lss _)) h0
  try have h6:GRR _ (A36_L_z11_L_3 a0 a1 a2 a3) _:=(fun _=>bH _ _ _ _ _ (dE (t:=([],[])) hp _ h2 h5) (lss _)) h0
  try have g1:=(fun _=>h5.ol) h0
  try have g2:=(fun _=>h5.lo) h0
  try have g3:=(fun _=>h5.hi) h0
  try have f1:=(fun _=>h6.ol) h0
  try have f2:=(fun _=>h6.lo) h0
  try have f3:=(fun _=>h6.hi) h0
  try (have _:=h0;simp only [List.length_append,List.length_cons,List.length_nil] at g1 g2 g3 f1 f2 f3)
  have e:=Eq.refl (R36_L_z10_L (nr+1) a0 a1 a2 a3);conv at e=>rhs;simp only [R36_L_z10_L,h0,aS]
  rw [e]
  try dsimp only [aT]
  try dsimp only
  rw [show flat bT (a1.2++[(0,(W (0+(a2.length:Int))),(-1),(-1),((aK a0 a2 0),(aK a0 a2 1),(aK a0 a2 2)),(dT a0 a1 a2 a3).1)])=(flat bT a1.2++[(iv 0),(iv (W (0+(a2.length:Int)))),(iv (-1)),(iv (-1)),(iv (aK a0 a2 0)),(iv (aK a0 a2 1)),(iv (aK a0 a2 2)),(iv (dT a0 a1 a2 a3).1)]) from bL]
  try rw [show List.length (α:=Int×Int×Int×Int×Zt×Int) (a1.2++[(0,(W (0+(a2.length:Int))),(-1),(-1),((aK a0 a2 0),(aK a0 a2 1),(aK a0 a2 2)),(dT a0 a1 a2 a3).1)])=(a1.2.length+1) from by first | simp;done | omega]
  exact rtm (t0++[.d h0,.p (show((flat c3 a2).length=a2.length*1/\(flat c3 a2).all SV.one=true/\a2.length<=2 ^ 40/\a2.length*8<=2 ^ 47) from by refine⟨?_,?_,?_,?_⟩<;>first | omega | exact eX (fun _=>rfl) | (simp [bI aM];done) | (simp [bI aM];omega))]) [] [1] [9,8] hcx (by kernel_rfl)
 | false =>
  have q0:=cH h0
  try have h2:2<=a2.length:=(fun _=>by omega) h0
  try have h5:GRR _ (A36_L_z10_L_2 (R36_L_z10_L nr) a0 a1 a2 a3) _:=(fun _=>grw_inv10 nr a0 ([],_) _ a3 (cV hp _ h2) (by omega)) h0
  try have h6:GRR _ (A36_L_z10_L_3 (R36_L_z10_L nr) a0 a1 a2 a3) _:=(fun _=>bH _ _ _ _ _ (dE hp _ h2 h5) (lss _)) h0
  try have h5:GRR _ (aV (aA nr) a0 a1 a2 a3) _:=(fun _=>bH nr _ _ _ _ (cV hp _ h2) (by omega)) h0
  try have h6:GRR _ (aB (aA nr) a0 a1 a2 a3) _:=(fun _=>bH nr _ _ _ _ (dE hp _ h2 h5) (by omega)) h0
  try have h5:GRR _ (A36_L_z11_L_2 a0 a1 a2 a3) _:=(fun _=>grw_inv10 _ a0 ([],_) _ a3 (cV (t:=([],[])) hp _ h2) (lss _)) h0
  try have h6:GRR _ (A36_L_z11_L_3 a0 a1 a2 a3) _:=(fun _=>bH _ _ _ _ _ (dE (t:=([],[])) hp _ h2 h5) (lss _)) h0
  try have g1:=(fun _=>h5.ol) h0
  try have g2:=(fun _=>h5.lo) h0
  try have g3:=(fun _=>h5.hi) h0
  try have f1:=(fun _=>h6.ol) h0
  try have f2:=(fun _=>h6.lo) h0
  try have f3:=(fun _=>h6.hi) h0
  try (have _:=h0;simp only [List.length_append,List.length_cons,List.length_nil] at g1 g2 g3 f1 f2 f3)
  have e:=Eq.refl (R36_L_z10_L (nr+1) a0 a1 a2 a3);conv at e=>rhs;simp only [R36_L_z10_L,h0,aS]
  rw [e]
  try dsimp only [aT]
  try dsimp only
  rw [show flat bT (((A36_L_z10_L_3 (R36_L_z10_L nr) a0 a1 a2 a3).2.set (toNat (a1.2.length:Int)) (((A36_L_z10_L_3 (R36_L_z10_L nr) a0 a1 a2 a3).2.getD (toNat (a1.2.length:Int)) default).1,((A36_L_z10_L_3 (R36_L_z10_L nr) a0 a1 a2 a3).2.getD (toNat (a1.2.length:Int)) default).2.1,(((a1.2.length+1):Nat):Int),((A36_L_z10_L_3 (R36_L_z10_L nr) a0 a1 a2 a3).2.getD (toNat (a1.2.length:Int)) default).2.2.2.1,((A36_L_z10_L_3 (R36_L_z10_L nr) a0 a1 a2 a3).2.getD (toNat (a1.2.length:Int)) default).2.2.2.2.1,((A36_L_z10_L_3 (R36_L_z10_L nr) a0 a1 a2 a3).2.getD (toNat (a1.2.length:Int)) default).2.2.2.2.2)).set (toNat (a1.2.length:Int)) ((((A36_L_z10_L_3 (R36_L_z10_L nr) a0 a1 a2 a3).2.set (toNat (a1.2.length:Int)) (((A36_L_z10_L_3 (R36_L_z10_L nr) a0 a1 a2 a3).2.getD (toNat (a1.2.length:Int)) default).1,((A36_L_z10_L_3 (R36_L_z10_L nr) a0 a1 a2 a3).2.getD (toNat (a1.2.length:Int)) default).2.1,(((a1.2.length+1):Nat):Int),((A36_L_z10_L_3 (R36_L_z10_L nr) a0 a1 a2 a3).2.getD (toNat (a1.2.length:Int)) default).2.2.2.1,((A36_L_z10_L_3 (R36_L_z10_L nr) a0 a1 a2 a3).2.getD (toNat (a1.2.length:Int)) default).2.2.2.2.1,((A36_L_z10_L_3 (R36_L_z10_L nr) a0 a1 a2 a3).2.getD (toNat (a1.2.length:Int)) default).2.2.2.2.2)).getD (toNat (a1.2.length:Int)) default).1,(((A36_L_z10_L_3 (R36_L_z10_L nr) a0 a1 a2 a3).2.set (toNat (a1.2.length:Int)) (((A36_L_z10_L_3 (R36_L_z10_L nr) a0 a1 a2 a3).2.getD (toNat (a1.2.length:Int)) default).1,((A36_L_z10_L_3 (R36_L_z10_L nr) a0 a1 a2 a3).2.getD (toNat (a1.2.length:Int)) default).2.1,(((a1.2.length+1):Nat):Int),((A36_L_z10_L_3 (R36_L_z10_L nr) a0 a1 a2 a3).2.getD (toNat (a1.2.length:Int)) default).2.2.2.1,((A36_L_z10_L_3 (R36_L_z10_L nr) a0 a1 a2 a3).2.getD (toNat (a1.2.length:Int)) default).2.2.2.2.1,((A36_L_z10_L_3 (R36_L_z10_L nr) a0 a1 a2 a3).2.getD (toNat (a1.2.length:Int)) default).2.2.2.2.2)).getD (toNat (a1.2.length:Int)) default).2.1,(((A36_L_z10_L_3 (R36_L_z10_L nr) a0 a1 a2 a3).2.set (toNat (a1.2.length:Int)) (((A36_L_z10_L_3 (R36_L_z10_L nr) a0 a1 a2 a3).2.getD (toNat (a1.2.length:Int)) default).1,((A36_L_z10_L_3 (R36_L_z10_L nr) a0 a1 a2 a3).2.getD (toNat (a1.2.length:Int)) default).2.1,(((a1.2.length+1):Nat):Int),((A36_L_z10_L_3 (R36_L_z10_L nr) a0 a1 a2 a3).2.getD (toNat (a1.2.length:Int)) default).2.2.2.1,((A36_L_z10_L_3 (R36_L_z10_L nr) a0 a1 a2 a3).2.getD (toNat (a1.2.length:Int)) default).2.2.2.2.1,((A36_L_z10_L_3 (R36_L_z10_L nr) a0 a1 a2 a3).2.getD (toNat (a1.2.length:Int)) default).2.2.2.2.2)).getD (toNat (a1.2.length:Int)) default).2.2.1,(((A36_L_z10_L_2 (R36_L_z10_L nr) a0 a1 a2 a3).2.length:Nat):Int),(((A36_L_z10_L_3 (R36_L_z10_L nr) a0 a1 a2 a3).2.set (toNat (a1.2.length:Int)) (((A36_L_z10_L_3 (R36_L_z10_L nr) a0 a1 a2 a3).2.getD (toNat (a1.2.length:Int)) default).1,((A36_L_z10_L_3 (R36_L_z10_L nr) a0 a1 a2 a3).2.getD (toNat (a1.2.length:Int)) default).2.1,(((a1.2.length+1):Nat):Int),((A36_L_z10_L_3 (R36_L_z10_L nr) a0 a1 a2 a3).2.getD (toNat (a1.2.length:Int)) default).2.2.2.1,((A36_L_z10_L_3 (R36_L_z10_L nr) a0 a1 a2 a3).2.getD (toNat (a1.2.length:Int)) default).2.2.2.2.1,((A36_L_z10_L_3 (R36_L_z10_L nr) a0 a1 a2 a3).2.getD (toNat (a1.2.length:Int)) default).2.2.2.2.2)).getD (toNat (a1.2.length:Int)) default).2.2.2.2.1,(((A36_L_z10_L_3 (R36_L_z10_L nr) a0 a1 a2 a3).2.set (toNat (a1.2.length:Int)) (((A36_L_z10_L_3 (R36_L_z10_L nr) a0 a1 a2 a3).2.getD (toNat (a1.2.length:Int)) default).1,((A36_L_z10_L_3 (R36_L_z10_L nr) a0 a1 a2 a3).2.getD (toNat (a1.2.length:Int)) default).2.1,(((a1.2.length+1):Nat):Int),((A36_L_z10_L_3 (R36_L_z10_L nr) a0 a1 a2 a3).2.getD (toNat (a1.2.length:Int)) default).2.2.2.1,((A36_L_z10_L_3 (R36_L_z10_L nr) a0 a1 a2 a3).2.getD (toNat (a1.2.length:Int)) default).2.2.2.2.1,((A36_L_z10_L_3 (R36_L_z10_L nr) a0 a1 a2 a3).2.getD (toNat (a1.2.length:Int)) default).2.2.2.2.2)).getD (toNat (a1.2.length:Int)) default).2.2.2.2.2))=(splice (splice (flat bT (A36_L_z10_L_3 (R36_L_z10_L nr) a0 a1 a2 a3).2) (0+toNat (a1.2.length:Int)*8+2) [(iv (((a1.2.length+1):Nat):Int))]) (0+toNat (a1.2.length:Int)*8+3) [(iv (((A36_L_z10_L_2 (R36_L_z10_L nr) a0 a1 a2 a3).2.length:Nat):Int))]) from Eq.symm (by rw [show(splice (flat bT (A36_L_z10_L_3 (R36_L_z10_L nr) a0 a1 a2 a3).2) (0+toNat (a1.2.length:Int)*8+2) [(iv (((a1.2.length+1):Nat):Int))])=flat bT ((A36_L_z10_L_3 (R36_L_z10_L nr) a0 a1 a2 a3).2.set (toNat (a1.2.length:Int)) (((A36_L_z10_L_3 (R36_L_z10_L nr) a0 a1 a2 a3).2.getD (toNat (a1.2.length:Int)) default).1,((A36_L_z10_L_3 (R36_L_z10_L nr) a0 a1 a2 a3).2.getD (toNat (a1.2.length:Int)) default).2.1,(((a1.2.length+1):Nat):Int),((A36_L_z10_L_3 (R36_L_z10_L nr) a0 a1 a2 a3).2.getD (toNat (a1.2.length:Int)) default).2.2.2.1,((A36_L_z10_L_3 (R36_L_z10_L nr) a0 a1 a2 a3).2.getD (toNat (a1.2.length:Int)) default).2.2.2.2.1,((A36_L_z10_L_3 (R36_L_z10_L nr) a0 a1 a2 a3).2.getD (toNat (a1.2.length:Int)) default).2.2.2.2.2)) from(aW bJ (by first | omega | (simp only [Lt];omega)) (o:=2) (d:=default) (Nb rfl) rfl)];exact aW bJ (by first | omega | (simp only [Lt];omega)) (o:=3) (d:=default) (Nb rfl) rfl)]
  try rw [show List.length (α:=Int×Int×Int×Int×Zt×Int) (((A36_L_z10_L_3 (R36_L_z10_L nr) a0 a1 a2 a3).2.set (toNat (a1.2.length:Int)) (((A36_L_z10_L_3 (R36_L_z10_L nr) a0 a1 a2 a3).2.getD (toNat (a1.2.length:Int)) default).1,((A36_L_z10_L_3 (R36_L_z10_L nr) a0 a1 a2 a3).2.getD (toNat (a1.2.length:Int)) default).2.1,(((a1.2.length+1):Nat):Int),((A36_L_z10_L_3 (R36_L_z10_L nr) a0 a1 a2 a3).2.getD (toNat (a1.2.length:Int)) default).2.2.2.1,((A36_L_z10_L_3 (R36_L_z10_L nr) a0 a1 a2 a3).2.getD (toNat (a1.2.length:Int)) default).2.2.2.2.1,((A36_L_z10_L_3 (R36_L_z10_L nr) a0 a1 a2 a3).2.getD (toNat (a1.2.length:Int)) default).2.2.2.2.2)).set (toNat (a1.2.length:Int)) ((((A36_L_z10_L_3 (R36_L_z10_L nr) a0 a1 a2 a3).2.set (toNat (a1.2.length:Int)) (((A36_L_z10_L_3 (R36_L_z10_L nr) a0 a1 a2 a3).2.getD (toNat (a1.2.length:Int)) default).1,((A36_L_z10_L_3 (R36_L_z10_L nr) a0 a1 a2 a3).2.getD (toNat (a1.2.length:Int)) default).2.1,(((a1.2.length+1):Nat):Int),((A36_L_z10_L_3 (R36_L_z10_L nr) a0 a1 a2 a3).2.getD (toNat (a1.2.length:Int)) default).2.2.2.1,((A36_L_z10_L_3 (R36_L_z10_L nr) a0 a1 a2 a3).2.getD (toNat (a1.2.length:Int)) default).2.2.2.2.1,((A36_L_z10_L_3 (R36_L_z10_L nr) a0 a1 a2 a3).2.getD (toNat (a1.2.length:Int)) default).2.2.2.2.2)).getD (toNat (a1.2.length:Int)) default).1,(((A36_L_z10_L_3 (R36_L_z10_L nr) a0 a1 a2 a3).2.set (toNat (a1.2.length:Int)) (((A36_L_z10_L_3 (R36_L_z10_L nr) a0 a1 a2 a3).2.getD (toNat (a1.2.length:Int)) default).1,((A36_L_z10_L_3 (R36_L_z10_L nr) a0 a1 a2 a3).2.getD (toNat (a1.2.length:Int)) default).2.1,(((a1.2.length+1):Nat):Int),((A36_L_z10_L_3 (R36_L_z10_L nr) a0 a1 a2 a3).2.getD (toNat (a1.2.length:Int)) default).2.2.2.1,((A36_L_z10_L_3 (R36_L_z10_L nr) a0 a1 a2 a3).2.getD (toNat (a1.2.length:Int)) default).2.2.2.2.1,((A36_L_z10_L_3 (R36_L_z10_L nr) a0 a1 a2 a3).2.getD (toNat (a1.2.length:Int)) default).2.2.2.2.2)).getD (toNat (a1.2.length:Int)) default).2.1,(((A36_L_z10_L_3 (R36_L_z10_L nr) a0 a1 a2 a3).2.set (toNat (a1.2.length:Int)) (((A36_L_z10_L_3 (R36_L_z10_L nr) a0 a1 a2 a3).2.getD (toNat (a1.2.length:Int)) default).1,((A36_L_z10_L_3 (R36_L_z10_L nr) a0 a1 a2 a3).2.getD (toNat (a1.2.length:Int)) default).2.1,(((a1.2.length+1):Nat):Int),((A36_L_z10_L_3 (R36_L_z10_L nr) a0 a1 a2 a3).2.getD (toNat (a1.2.length:Int)) default).2.2.2.1,((A36_L_z10_L_3 (R36_L_z10_L nr) a0 a1 a2 a3).2.getD (toNat (a1.2.length:Int)) default).2.2.2.2.1,((A36_L_z10_L_3 (R36_L_z10_L nr) a0 a1 a2 a3).2.getD (toNat (a1.2.length:Int)) default).2.2.2.2.2)).getD (toNat (a1.2.length:Int)) default).2.2.1,(((A36_L_z10_L_2 (R36_L_z10_L nr) a0 a1 a2 a3).2.length:Nat):Int),(((A36_L_z10_L_3 (R36_L_z10_L nr) a0 a1 a2 a3).2.set (toNat (a1.2.length:Int)) (((A36_L_z10_L_3 (R36_L_z10_L nr) a0 a1 a2 a3).2.getD (toNat (a1.2.length:Int)) default).1,((A36_L_z10_L_3 (R36_L_z10_L nr) a0 a1 a2 a3).2.getD (toNat (a1.2.length:Int)) default).2.1,(((a1.2.length+1):Nat):Int),((A36_L_z10_L_3 (R36_L_z10_L nr) a0 a1 a2 a3).2.getD (toNat (a1.2.length:Int)) default).2.2.2.1,((A36_L_z10_L_3 (R36_L_z10_L nr) a0 a1 a2 a3).2.getD (toNat (a1.2.length:Int)) default).2.2.2.2.1,((A36_L_z10_L_3 (R36_L_z10_L nr) a0 a1 a2 a3).2.getD (toNat (a1.2.length:Int)) default).2.2.2.2.2)).getD (toNat (a1.2.length:Int)) default).2.2.2.2.1,(((A36_L_z10_L_3 (R36_L_z10_L nr) a0 a1 a2 a3).2.set (toNat (a1.2.length:Int)) (((A36_L_z10_L_3 (R36_L_z10_L nr) a0 a1 a2 a3).2.getD (toNat (a1.2.length:Int)) default).1,((A36_L_z10_L_3 (R36_L_z10_L nr) a0 a1 a2 a3).2.getD (toNat (a1.2.length:Int)) default).2.1,(((a1.2.length+1):Nat):Int),((A36_L_z10_L_3 (R36_L_z10_L nr) a0 a1 a2 a3).2.getD (toNat (a1.2.length:Int)) default).2.2.2.1,((A36_L_z10_L_3 (R36_L_z10_L nr) a0 a1 a2 a3).2.getD (toNat (a1.2.length:Int)) default).2.2.2.2.1,((A36_L_z10_L_3 (R36_L_z10_L nr) a0 a1 a2 a3).2.getD (toNat (a1.2.length:Int)) default).2.2.2.2.2)).getD (toNat (a1.2.length:Int)) default).2.2.2.2.2))=(A36_L_z10_L_3 (R36_L_z10_L nr) a0 a1 a2 a3).2.length from by first | simp;done | omega]
  exact rtm (t0++[.d h0,.c [0,2] (aC8 a0 a2 (by omega) (by omega) hp.inr (by omega)),.c [0,2] (aDb a0 a2 (aD a0 a2) (by omega) (by omega) hp.inr (by omega)),.p (show(2:Int)≠0 from by decide),.S aM (aH a0 a2 (aD a0 a2)) 0 (W (Int.tdiv (W ((((aH a0 a2 (aD a0 a2)).length:Nat):Int)+1)) 2)) ((aH a0 a2 (aD a0 a2)).length),.c [0,8,10] (by have q:=(ihr a0 (([]:List (Int)),(a1.2++[(0,(W (0+(a2.length:Int))),(-1),(-1),((aK a0 a2 0),(aK a0 a2 1),(aK a0 a2 2)),(dT a0 a1 a2 a3).1)])) (Aw.part (aH a0 a2 (aD a0 a2)) 0 (W (Int.tdiv (W ((((aH a0 a2 (aD a0 a2)).length:Nat):Int)+1)) 2))) a3 (by(try simp only [Lt]);omega) (by(try simp only [Lt]);omega) (by(try simp only [Lt]);omega) (by(try simp only [Lt]);omega) (by first | exact cV hp _ h2 | exact dE hp _ h2 h5) (by omega));(try dsimp only at q);rw [show flat bT (a1.2++[(0,(W (0+(a2.length:Int))),(-1),(-1),((aK a0 a2 0),(aK a0 a2 1),(aK a0 a2 2)),(dT a0 a1 a2 a3).1)])=(flat bT a1.2++[(iv 0),(iv (W (0+(a2.length:Int)))),(iv (-1)),(iv (-1)),(iv (aK a0 a2 0)),(iv (aK a0 a2 1)),(iv (aK a0 a2 2)),(iv (dT a0 a1 a2 a3).1)]) from bL] at q;(try rw [show List.length (α:=Int×Int×Int×Int×Zt×Int) (a1.2++[(0,(W (0+(a2.length:Int))),(-1),(-1),((aK a0 a2 0),(aK a0 a2 1),(aK a0 a2 2)),(dT a0 a1 a2 a3).1)])=(a1.2.length+1) from by first | simp;done | omega] at q);(try rw [show List.length (α:=Int) (Aw.part (aH a0 a2 (aD a0 a2)) 0 (W (Int.tdiv (W ((((aH a0 a2 (aD a0 a2)).length:Nat):Int)+1)) 2)))=(toNat (W (Int.tdiv (W ((((aH a0 a2 (aD a0 a2)).length:Nat):Int)+1)) 2)) - toNat 0) from by first | simp;done | omega] at q);exact q),.S aM (aH a0 a2 (aD a0 a2)) (W (Int.tdiv (W ((((aH a0 a2 (aD a0 a2)).length:Nat):Int)+1)) 2)) (((aH a0 a2 (aD a0 a2)).length:Nat):Int) ((aH a0 a2 (aD a0 a2)).length),.c [0,11,12,13] (by have q:=(wD a0 ((A36_L_z10_L_2 (R36_L_z10_L nr) a0 a1 a2 a3).1,(A36_L_z10_L_2 (R36_L_z10_L nr) a0 a1 a2 a3).2) (Aw.part (aH a0 a2 (aD a0 a2)) (W (Int.tdiv (W ((((aH a0 a2 (aD a0 a2)).length:Nat):Int)+1)) 2)) (((aH a0 a2 (aD a0 a2)).length:Nat):Int)) a3 (by(try simp only [Lt]);omega) (by(try simp only [Lt]);omega) (by(try simp only [Lt]);omega) (by(try simp only [Lt]);omega) (by first | exact cV hp _ h2 | exact dE hp _ h2 h5));(try dsimp only at q);(try rw [show List.length (α:=Int) (Aw.part (aH a0 a2 (aD a0 a2)) (W (Int.tdiv (W ((((aH a0 a2 (aD a0 a2)).length:Nat):Int)+1)) 2)) (((aH a0 a2 (aD a0 a2)).length:Nat):Int))=(toNat (((aH a0 a2 (aD a0 a2)).length:Nat):Int) - toNat (W (Int.tdiv (W ((((aH a0 a2 (aD a0 a2)).length:Nat):Int)+1)) 2))) from by first | simp;done | omega] at q);exact q),.i (a1.2.length:Int) ((A36_L_z10_L_3 (R36_L_z10_L nr) a0 a1 a2 a3).2.length),.p (show((0+toNat (a1.2.length:Int)*8+2)+1<=(flat bT (A36_L_z10_L_3 (R36_L_z10_L nr) a0 a1 a2 a3).2).length) from(cS bJ (by first | omega | (simp only [Lt];omega)) (o:=2) (Nb rfl))),.i (a1.2.length:Int) ((A36_L_z10_L_3 (R36_L_z10_L nr) a0 a1 a2 a3).2.length),.p (show((0+toNat (a1.2.length:Int)*8+3)+1<=(splice (flat bT (A36_L_z10_L_3 (R36_L_z10_L nr) a0 a1 a2 a3).2) (0+toNat (a1.2.length:Int)*8+2) [(iv (((a1.2.length+1):Nat):Int))]).length) from(by rw [show(splice (flat bT (A36_L_z10_L_3 (R36_L_z10_L nr) a0 a1 a2 a3).2) (0+toNat (a1.2.length:Int)*8+2) [(iv (((a1.2.length+1):Nat):Int))])=flat bT ((A36_L_z10_L_3 (R36_L_z10_L nr) a0 a1 a2 a3).2.set (toNat (a1.2.length:Int)) (((A36_L_z10_L_3 (R36_L_z10_L nr) a0 a1 a2 a3).2.getD (toNat (a1.2.length:Int)) default).1,((A36_L_z10_L_3 (R36_L_z10_L nr) a0 a1 a2 a3).2.getD (toNat (a1.2.length:Int)) default).2.1,(((a1.2.length+1):Nat):Int),((A36_L_z10_L_3 (R36_L_z10_L nr) a0 a1 a2 a3).2.getD (toNat (a1.2.length:Int)) default).2.2.2.1,((A36_L_z10_L_3 (R36_L_z10_L nr) a0 a1 a2 a3).2.getD (toNat (a1.2.length:Int)) default).2.2.2.2.1,((A36_L_z10_L_3 (R36_L_z10_L nr) a0 a1 a2 a3).2.getD (toNat (a1.2.length:Int)) default).2.2.2.2.2)) from(aW bJ (by first | omega | (simp only [Lt];omega)) (o:=2) (d:=default) (Nb rfl) rfl)];exact cS bJ (by first | omega | (simp only [Lt];omega)) (o:=3) (Nb rfl)))]) [] [1] [14,15] hcx (by kernel_rfl)
theorem aFe (a0:bM)(a1:List (Int)×bE)(a2:List (Int))(a3:Int)(l0:a0.length<=9223372036854775807)(l1_1:a1.1.length<=9223372036854775807)(l1_2:a1.2.length<=9223372036854775807)(l2:a2.length<=9223372036854775807)(hp:PGRW a0 ([],a1.2) a2 a3):Con Tryz.prog 36 [(.s 0 0 a0.length 10),(.a [(.v (.slice none 0 0)),(.s 1 0 a1.2.length 8)]),(.s 2 0 a2.length 1),(iv a3)] [(.live false true (flat eF a0)),(.live true true (flat bT a1.2)),(.live false true (flat c3 a2))] (.a [(.s 3 0 (hZ a0 a1 a2 a3).1.length 1),(.s 4 0 (hZ a0 a1 a2 a3).2.length 8)]) [(.live true true (flat c3 (hZ a0 a1 a2 a3).1)),(.live true true (flat bT (hZ a0 a1 a2 a3).2))] [.un,.dead,.un]:=aDf (a2.length+1) a0 a1 a2 a3 l0 l1_1 l1_2 l2 hp (lss _)
def jC (a0:bM)(a1:List (Int)×bE)(a2:List (Int))(a3:Int):=(nJ (fT a0 a2) ((aK a0 a2 0),(aK a0 a2 1),(aK a0 a2 2)))
def A36_L_z11_L_2 (a0:bM)(a1:List (Int)×bE)(a2:List (Int))(a3:Int):=(hZ a0 (([]:List (Int)),([(0,(W (0+(a2.length:Int))),(-1),(-1),((aK a0 a2 0),(aK a0 a2 1),(aK a0 a2 2)),(jC a0 a1 a2 a3).1)]:bE)) (Aw.part (aH a0 a2 (aD a0 a2)) 0 (W (Int.tdiv (W ((((aH a0 a2 (aD a0 a2)).length:Nat):Int)+1)) 2))) a3)
def A36_L_z11_L_3 (a0:bM)(a1:List (Int)×bE)(a2:List (Int))(a3:Int):=(dY a0 ((A36_L_z11_L_2 a0 a1 a2 a3).1,(A36_L_z11_L_2 a0 a1 a2 a3).2) (Aw.part (aH a0 a2 (aD a0 a2)) (W (Int.tdiv (W ((((aH a0 a2 (aD a0 a2)).length:Nat):Int)+1)) 2)) (((aH a0 a2 (aD a0 a2)).length:Nat):Int)) a3)
def eI:Nat->bM->(List (Int)×bE)->(List (Int))->(Int)->List (Int)×bE
 | 0,_,_,_,_=>default
 | nr+1,a0,a1,a2,a3 =>
 (bif (decide (((a2.length:Int):Int)<=a3)) then
  (a2,([(0,(W (0+(a2.length:Int))),(-1),(-1),((aK a0 a2 0),(aK a0 a2 1),(aK a0 a2 2)),(jC a0 a1 a2 a3).1)]:bE))
 else
  ((A36_L_z11_L_3 a0 a1 a2 a3).1,(((A36_L_z11_L_3 a0 a1 a2 a3).2.set (toNat 0) (((A36_L_z11_L_3 a0 a1 a2 a3).2.getD (toNat 0) default).1,((A36_L_z11_L_3 a0 a1 a2 a3).2.getD (toNat 0) default).2.1,1,((A36_L_z11_L_3 a0 a1 a2 a3).2.getD (toNat 0) default).2.2.2.1,((A36_L_z11_L_3 a0 a1 a2 a3).2.getD (toNat 0) default).2.2.2.2.1,((A36_L_z11_L_3 a0 a1 a2 a3).2.getD (toNat 0) default).2.2.2.2.2)).set (toNat 0) ((((A36_L_z11_L_3 a0 a1 a2 a3).2.set (toNat 0) (((A36_L_z11_L_3 a0 a1 a2 a3).2.getD (toNat 0) default).1,((A36_L_z11_L_3 a0 a1 a2 a3).2.getD (toNat 0) default).2.1,1,((A36_L_z11_L_3 a0 a1 a2 a3).2.getD (toNat 0) default).2.2.2.1,((A36_L_z11_L_3 a0 a1 a2 a3).2.getD (toNat 0) default).2.2.2.2.1,((A36_L_z11_L_3 a0 a1 a2 a3).2.getD (toNat 0) default).2.2.2.2.2)).getD (toNat 0) default).1,(((A36_L_z11_L_3 a0 a1 a2 a3).2.set (toNat 0) (((A36_L_z11_L_3 a0 a1 a2 a3).2.getD (toNat 0) default).1,((A36_L_z11_L_3 a0 a1 a2 a3).2.getD (toNat 0) default).2.1,1,((A36_L_z11_L_3 a0 a1 a2 a3).2.getD (toNat 0) default).2.2.2.1,((A36_L_z11_L_3 a0 a1 a2 a3).2.getD (toNat 0) default).2.2.2.2.1,((A36_L_z11_L_3 a0 a1 a2 a3).2.getD (toNat 0) default).2.2.2.2.2)).getD (toNat 0) default).2.1,(((A36_L_z11_L_3 a0 a1 a2 a3).2.set (toNat 0) (((A36_L_z11_L_3 a0 a1 a2 a3).2.getD (toNat 0) default).1,((A36_L_z11_L_3 a0 a1 a2 a3).2.getD (toNat 0) default).2.1,1,((A36_L_z11_L_3 a0 a1 a2 a3).2.getD (toNat 0) default).2.2.2.1,((A36_L_z11_L_3 a0 a1 a2 a3).2.getD (toNat 0) default).2.2.2.2.1,((A36_L_z11_L_3 a0 a1 a2 a3).2.getD (toNat 0) default).2.2.2.2.2)).getD (toNat 0) default).2.2.1,(((A36_L_z11_L_2 a0 a1 a2 a3).2.length:Nat):Int),(((A36_L_z11_L_3 a0 a1 a2 a3).2.set (toNat 0) (((A36_L_z11_L_3 a0 a1 a2 a3).2.getD (toNat 0) default).1,((A36_L_z11_L_3 a0 a1 a2 a3).2.getD (toNat 0) default).2.1,1,((A36_L_z11_L_3 a0 a1 a2 a3).2.getD (toNat 0) default).2.2.2.1,((A36_L_z11_L_3 a0 a1 a2 a3).2.getD (toNat 0) default).2.2.2.2.1,((A36_L_z11_L_3 a0 a1 a2 a3).2.getD (toNat 0) default).2.2.2.2.2)).getD (toNat 0) default).2.2.2.2.1,(((A36_L_z11_L_3 a0 a1 a2 a3).2.set (toNat 0) (((A36_L_z11_L_3 a0 a1 a2 a3).2.getD (toNat 0) default).1,((A36_L_z11_L_3 a0 a1 a2 a3).2.getD (toNat 0) default).2.1,1,((A36_L_z11_L_3 a0 a1 a2 a3).2.getD (toNat 0) default).2.2.2.1,((A36_L_z11_L_3 a0 a1 a2 a3).2.getD (toNat 0) default).2.2.2.2.1,((A36_L_z11_L_3 a0 a1 a2 a3).2.getD (toNat 0) default).2.2.2.2.2)).getD (toNat 0) default).2.2.2.2.2))))
def fC (a0:bM)(a1:List (Int)×bE)(a2:List (Int))(a3:Int):List (Int)×bE:=eI (a2.length+1) a0 a1 a2 a3
theorem aDg:∀(nr:Nat) (a0:bM) (a1:List (Int)×bE) (a2:List (Int)) (a3:Int) (l0:a0.length<=9223372036854775807) (l1_1:a1.1.length<=9223372036854775807) (l1_2:a1.2.length<=9223372036854775807) (l2:a2.length<=9223372036854775807) (hp:PGRW a0 ([],[]) a2 a3),a2.length < nr->Con Tryz.prog 36 [(.s 0 0 a0.length 10),(.a [(.v (.slice none 0 0)),(.v (.slice none 0 0))]),(.s 1 0 a2.length 1),(iv a3)] [(.live false true (flat eF a0)),(.live false true (flat c3 a2))] (.a [(.s 2 0 (eI nr a0 a1 a2 a3).1.length 1),(.s 3 0 (eI nr a0 a1 a2 a3).2.length 8)]) [(.live true true (flat c3 (eI nr a0 a1 a2 a3).1)),(.live true true (flat bT (eI nr a0 a1 a2 a3).2))]:=by
 intro nr
 induction nr with
 | zero=>intro a0 a1 a2 a3 l0 l1_1 l1_2 l2 hp hlt;exact absurd hlt (eP _)
 | succ nr ihr =>
 intro a0 a1 a2 a3 l0 l1_1 l1_2 l2 hp hlt
 refine aO Tryz.func36 (by kernel_rfl) fun cx hcx=>?_
 have hpr:=hp.rng
 have hpn:=hp.nds
 try dsimp only at hpr hpn
 try simp only [List.length_nil,Nat.zero_add] at hpr hpn
 have hpl:=hp.lf
 have hpk:=aDc a0 a2
 have hso:=pV hp (aD a0 a2)
 obtain⟨hso1,hso2⟩:=hso
 have hhf:(W (Int.tdiv (W ((((aH a0 a2 (aD a0 a2)).length:Nat):Int)+1)) 2))=(((a2.length+1) / 2:Nat):Int):=by rw [hso1];exact pU (by omega)
 have hpt1:(Aw.part (aH a0 a2 (aD a0 a2)) 0 (W (Int.tdiv (W ((((aH a0 a2 (aD a0 a2)).length:Nat):Int)+1)) 2))).length=(a2.length+1) / 2:=by rw [part_len (by omega)];omega
 have hpt2:(Aw.part (aH a0 a2 (aD a0 a2)) (W (Int.tdiv (W ((((aH a0 a2 (aD a0 a2)).length:Nat):Int)+1)) 2)) (((aH a0 a2 (aD a0 a2)).length:Nat):Int)).length=a2.length - (a2.length+1) / 2:=by rw [part_len (by omega)];omega
 try have h2:2<=a2.length:=(fun _=>by omega) h0
 try have h5:GRR _ (A36_L_z10_L_2 (R36_L_z10_L nr) a0 a1 a2 a3) _:=(fun _=>grw_inv10 nr a0 ([],_) _ a3 (cV hp _ h2) (by omega)) h0
 try have h6:GRR _ (A36_L_z10_L_3 (R36_L_z10_L nr) a0 a1 a2 a3) _:=(fun _=>bH _ _ _ _ _ (dE hp _ h2 h5) (lss _)) h0
 try have h5:GRR _ (aV (aA nr) a0 a1 a2 a3) _:=(fun _=>bH nr _ _ _ _ (cV hp _ h2) (by omega)) h0
 try have h6:GRR _ (aB (aA nr) a0 a1 a2 a3) _:=(fun _=>bH nr _ _ _ _ (dE hp _ h2 h5) (by omega)) h0
 try have h5:GRR _ (A36_L_z11_L_2 a0 a1 a2 a3) _:=(fun _=>grw_inv10 _ a0 ([],_) _ a3 (cV (t:=([],[])) hp _ h2) (lss _)) h0
 try have h6:GRR _ (A36_L_z11_L_3 a0 a1 a2 a3) _:=(fun _=>bH _ _ _ _ _ (dE (t:=([],[])) hp _ h2 h5) (lss _)) h0
 try have g1:=(fun _=>h5.ol) h0
 try have g2:=(fun _=>h5.lo) h0
 try have g3:=(fun _=>h5.hi) h0
 try have f1:=(fun _=>h6.ol) h0
 try have f2:=(fun _=>h6.lo) h0
 try have f3:=(fun _=>h6.hi) h0
 try (have _:=h0;simp only [List.length_append,List.length_cons,List.length_nil] at g1 g2 g3 f1 f2 f3)
 let t0:List (St Tryz.prog):=[.c [0,1] (jY a0 a2 0 (by omega) (by omega) hp.inr (by omega)),.c [0,1] (jY a0 a2 1 (by omega) (by omega) hp.inr (by omega)),.c [0,1] (jY a0 a2 2 (by omega) (by omega) hp.inr (by omega)),.c [0,1] (aC7 a0 a2 (by omega) (by omega) hp.inr (by omega)),.c [5] (aM2 (fT a0 a2) ((aK a0 a2 0),(aK a0 a2 1),(aK a0 a2 2)) (by(try simp only [Lt]);omega))]
 cases h0:(decide (((a2.length:Int):Int)<=a3)) with
 | true =>
  have q0:=cA h0
  try have h2:2<=a2.length:=(fun _=>by omega) h0
  try have h5:GRR _ (A36_L_z10_L_2 (R36_L_z10_L nr) a0 a1 a2 a3) _:=(fun _=>grw_inv10 nr a0 ([],_) _ a3 (cV hp _ h2) (by omega)) h0
  try have h6:GRR _ (A36_L_z10_L_3 (R36_L_z10_L nr) a0 a1 a2 a3) _:=(fun _=>bH _ _ _ _ _ (dE hp _ h2 h5) (lss _)) h0
  try have h5:GRR _ (aV (aA nr) a0 a1 a2 a3) _:=(fun _=>bH nr _ _ _ _ (cV hp _ h2) (by omega)) h0
  try have h6:GRR _ (aB (aA nr) a0 a1 a2 a3) _:=(fun _=>bH nr _ _ _ _ (dE hp _ h2 h5) (by omega)) h0
  try have h5:GRR _ (A36_L_z11_L_2 a0 a1 a2 a3) _:=(fun _=>grw_inv10 _ a0 ([],_) _ a3 (cV (t:=([],[])) hp _ h2) (lss _)) h0
  try have h6:GRR _ (A36_L_z11_L_3 a0 a1 a2 a3) _:=(fun _=>bH _ _ _ _ _ (dE (t:=([],[])) hp _ h2 h5) (lss _)) h0
  try have g1:=(fun _=>h5.ol) h0
  try have g2:=(fun _=>h5.lo) h0
  try have g3:=(fun _=>h5.hi) h0
  try have f1:=(fun _=>h6.ol) h0
  try have f2:=(fun _=>h6.lo) h0
  try have f3:=(fun _=>h6.hi) h0
  try (have _:=h0;simp only [List.length_append,List.length_cons,List.length_nil] at g1 g2 g3 f1 f2 f3)
  have e:=Eq.refl (eI (nr+1) a0 a1 a2 a3);conv at e=>rhs;simp only [eI,h0,aS]
  rw [e]
  try dsimp only [aT]
  try dsimp only
  exact rt (t0++[.d h0,.p (show((flat c3 a2).length=a2.length*1/\(flat c3 a2).all SV.one=true/\a2.length<=2 ^ 40/\a2.length*8<=2 ^ 47) from by refine⟨?_,?_,?_,?_⟩<;>first | omega | exact eX (fun _=>rfl) | (simp [bI aM];done) | (simp [bI aM];omega))]) [.sym 7 true]  [8,7] hcx (by kernel_rfl)
 | false =>
  have q0:=cH h0
  try have h2:2<=a2.length:=(fun _=>by omega) h0
  try have h5:GRR _ (A36_L_z10_L_2 (R36_L_z10_L nr) a0 a1 a2 a3) _:=(fun _=>grw_inv10 nr a0 ([],_) _ a3 (cV hp _ h2) (by omega)) h0
  try have h6:GRR _ (A36_L_z10_L_3 (R36_L_z10_L nr) a0 a1 a2 a3) _:=(fun _=>bH _ _ _ _ _ (dE hp _ h2 h5) (lss _)) h0
  try have h5:GRR _ (aV (aA nr) a0 a1 a2 a3) _:=(fun _=>bH nr _ _ _ _ (cV hp _ h2) (by omega)) h0
  try have h6:GRR _ (aB (aA nr) a0 a1 a2 a3) _:=(fun _=>bH nr _ _ _ _ (dE hp _ h2 h5) (by omega)) h0
  try have h5:GRR _ (A36_L_z11_L_2 a0 a1 a2 a3) _:=(fun _=>grw_inv10 _ a0 ([],_) _ a3 (cV (t:=([],[])) hp _ h2) (lss _)) h0
  try have h6:GRR _ (A36_L_z11_L_3 a0 a1 a2 a3) _:=(fun _=>bH _ _ _ _ _ (dE (t:=([],[])) hp _ h2 h5) (lss _)) h0
  try have g1:=(fun _=>h5.ol) h0
  try have g2:=(fun _=>h5.lo) h0
  try have g3:=(fun _=>h5.hi) h0
  try have f1:=(fun _=>h6.ol) h0
  try have f2:=(fun _=>h6.lo) h0
  try have f3:=(fun _=>h6.hi) h0
  try (have _:=h0;simp only [List.length_append,List.length_cons,List.length_nil] at g1 g2 g3 f1 f2 f3)
  have e:=Eq.refl (eI (nr+1) a0 a1 a2 a3);conv at e=>rhs;simp only [eI,h0,aS]
  rw [e]
  try dsimp only [aT]
  try dsimp only
  rw [show flat bT (((A36_L_z11_L_3 a0 a1 a2 a3).2.set (toNat 0) (((A36_L_z11_L_3 a0 a1 a2 a3).2.getD (toNat 0) default).1,((A36_L_z11_L_3 a0 a1 a2 a3).2.getD (toNat 0) default).2.1,1,((A36_L_z11_L_3 a0 a1 a2 a3).2.getD (toNat 0) default).2.2.2.1,((A36_L_z11_L_3 a0 a1 a2 a3).2.getD (toNat 0) default).2.2.2.2.1,((A36_L_z11_L_3 a0 a1 a2 a3).2.getD (toNat 0) default).2.2.2.2.2)).set (toNat 0) ((((A36_L_z11_L_3 a0 a1 a2 a3).2.set (toNat 0) (((A36_L_z11_L_3 a0 a1 a2 a3).2.getD (toNat 0) default).1,((A36_L_z11_L_3 a0 a1 a2 a3).2.getD (toNat 0) default).2.1,1,((A36_L_z11_L_3 a0 a1 a2 a3).2.getD (toNat 0) default).2.2.2.1,((A36_L_z11_L_3 a0 a1 a2 a3).2.getD (toNat 0) default).2.2.2.2.1,((A36_L_z11_L_3 a0 a1 a2 a3).2.getD (toNat 0) default).2.2.2.2.2)).getD (toNat 0) default).1,(((A36_L_z11_L_3 a0 a1 a2 a3).2.set (toNat 0) (((A36_L_z11_L_3 a0 a1 a2 a3).2.getD (toNat 0) default).1,((A36_L_z11_L_3 a0 a1 a2 a3).2.getD (toNat 0) default).2.1,1,((A36_L_z11_L_3 a0 a1 a2 a3).2.getD (toNat 0) default).2.2.2.1,((A36_L_z11_L_3 a0 a1 a2 a3).2.getD (toNat 0) default).2.2.2.2.1,((A36_L_z11_L_3 a0 a1 a2 a3).2.getD (toNat 0) default).2.2.2.2.2)).getD (toNat 0) default).2.1,(((A36_L_z11_L_3 a0 a1 a2 a3).2.set (toNat 0) (((A36_L_z11_L_3 a0 a1 a2 a3).2.getD (toNat 0) default).1,((A36_L_z11_L_3 a0 a1 a2 a3).2.getD (toNat 0) default).2.1,1,((A36_L_z11_L_3 a0 a1 a2 a3).2.getD (toNat 0) default).2.2.2.1,((A36_L_z11_L_3 a0 a1 a2 a3).2.getD (toNat 0) default).2.2.2.2.1,((A36_L_z11_L_3 a0 a1 a2 a3).2.getD (toNat 0) default).2.2.2.2.2)).getD (toNat 0) default).2.2.1,(((A36_L_z11_L_2 a0 a1 a2 a3).2.length:Nat):Int),(((A36_L_z11_L_3 a0 a1 a2 a3).2.set (toNat 0) (((A36_L_z11_L_3 a0 a1 a2 a3).2.getD (toNat 0) default).1,((A36_L_z11_L_3 a0 a1 a2 a3).2.getD (toNat 0) default).2.1,1,((A36_L_z11_L_3 a0 a1 a2 a3).2.getD (toNat 0) default).2.2.2.1,((A36_L_z11_L_3 a0 a1 a2 a3).2.getD (toNat 0) default).2.2.2.2.1,((A36_L_z11_L_3 a0 a1 a2 a3).2.getD (toNat 0) default).2.2.2.2.2)).getD (toNat 0) default).2.2.2.2.1,(((A36_L_z11_L_3 a0 a1 a2 a3).2.set (toNat 0) (((A36_L_z11_L_3 a0 a1 a2 a3).2.getD (toNat 0) default).1,((A36_L_z11_L_3 a0 a1 a2 a3).2.getD (toNat 0) default).2.1,1,((A36_L_z11_L_3 a0 a1 a2 a3).2.getD (toNat 0) default).2.2.2.1,((A36_L_z11_L_3 a0 a1 a2 a3).2.getD (toNat 0) default).2.2.2.2.1,((A36_L_z11_L_3 a0 a1 a2 a3).2.getD (toNat 0) default).2.2.2.2.2)).getD (toNat 0) default).2.2.2.2.2))=(splice (splice (flat bT (A36_L_z11_L_3 a0 a1 a2 a3).2) (0+toNat 0*8+2) [(iv 1)]) (0+toNat 0*8+3) [(iv (((A36_L_z11_L_2 a0 a1 a2 a3).2.length:Nat):Int))]) from Eq.symm (by rw [show(splice (flat bT (A36_L_z11_L_3 a0 a1 a2 a3).2) (0+toNat 0*8+2) [(iv 1)])=flat bT ((A36_L_z11_L_3 a0 a1 a2 a3).2.set (toNat 0) (((A36_L_z11_L_3 a0 a1 a2 a3).2.getD (toNat 0) default).1,((A36_L_z11_L_3 a0 a1 a2 a3).2.getD (toNat 0) default).2.1,1,((A36_L_z11_L_3 a0 a1 a2 a3).2.getD (toNat 0) default).2.2.2.1,((A36_L_z11_L_3 a0 a1 a2 a3).2.getD (toNat 0) default).2.2.2.2.1,((A36_L_z11_L_3 a0 a1 a2 a3).2.getD (toNat 0) default).2.2.2.2.2)) from(aW bJ (by first | omega | (simp only [Lt];omega)) (o:=2) (d:=default) (Nb rfl) rfl)];exact aW bJ (by first | omega | (simp only [Lt];omega)) (o:=3) (d:=default) (Nb rfl) rfl)]
  try rw [show List.length (α:=Int×Int×Int×Int×Zt×Int) (((A36_L_z11_L_3 a0 a1 a2 a3).2.set (toNat 0) (((A36_L_z11_L_3 a0 a1 a2 a3).2.getD (toNat 0) default).1,((A36_L_z11_L_3 a0 a1 a2 a3).2.getD (toNat 0) default).2.1,1,((A36_L_z11_L_3 a0 a1 a2 a3).2.getD (toNat 0) default).2.2.2.1,((A36_L_z11_L_3 a0 a1 a2 a3).2.getD (toNat 0) default).2.2.2.2.1,((A36_L_z11_L_3 a0 a1 a2 a3).2.getD (toNat 0) default).2.2.2.2.2)).set (toNat 0) ((((A36_L_z11_L_3 a0 a1 a2 a3).2.set (toNat 0) (((A36_L_z11_L_3 a0 a1 a2 a3).2.getD (toNat 0) default).1,((A36_L_z11_L_3 a0 a1 a2 a3).2.getD (toNat 0) default).2.1,1,((A36_L_z11_L_3 a0 a1 a2 a3).2.getD (toNat 0) default).2.2.2.1,((A36_L_z11_L_3 a0 a1 a2 a3).2.getD (toNat 0) default).2.2.2.2.1,((A36_L_z11_L_3 a0 a1 a2 a3).2.getD (toNat 0) default).2.2.2.2.2)).getD (toNat 0) default).1,(((A36_L_z11_L_3 a0 a1 a2 a3).2.set (toNat 0) (((A36_L_z11_L_3 a0 a1 a2 a3).2.getD (toNat 0) default).1,((A36_L_z11_L_3 a0 a1 a2 a3).2.getD (toNat 0) default).2.1,1,((A36_L_z11_L_3 a0 a1 a2 a3).2.getD (toNat 0) default).2.2.2.1,((A36_L_z11_L_3 a0 a1 a2 a3).2.getD (toNat 0) default).2.2.2.2.1,((A36_L_z11_L_3 a0 a1 a2 a3).2.getD (toNat 0) default).2.2.2.2.2)).getD (toNat 0) default).2.1,(((A36_L_z11_L_3 a0 a1 a2 a3).2.set (toNat 0) (((A36_L_z11_L_3 a0 a1 a2 a3).2.getD (toNat 0) default).1,((A36_L_z11_L_3 a0 a1 a2 a3).2.getD (toNat 0) default).2.1,1,((A36_L_z11_L_3 a0 a1 a2 a3).2.getD (toNat 0) default).2.2.2.1,((A36_L_z11_L_3 a0 a1 a2 a3).2.getD (toNat 0) default).2.2.2.2.1,((A36_L_z11_L_3 a0 a1 a2 a3).2.getD (toNat 0) default).2.2.2.2.2)).getD (toNat 0) default).2.2.1,(((A36_L_z11_L_2 a0 a1 a2 a3).2.length:Nat):Int),(((A36_L_z11_L_3 a0 a1 a2 a3).2.set (toNat 0) (((A36_L_z11_L_3 a0 a1 a2 a3).2.getD (toNat 0) default).1,((A36_L_z11_L_3 a0 a1 a2 a3).2.getD (toNat 0) default).2.1,1,((A36_L_z11_L_3 a0 a1 a2 a3).2.getD (toNat 0) default).2.2.2.1,((A36_L_z11_L_3 a0 a1 a2 a3).2.getD (toNat 0) default).2.2.2.2.1,((A36_L_z11_L_3 a0 a1 a2 a3).2.getD (toNat 0) default).2.2.2.2.2)).getD (toNat 0) default).2.2.2.2.1,(((A36_L_z11_L_3 a0 a1 a2 a3).2.set (toNat 0) (((A36_L_z11_L_3 a0 a1 a2 a3).2.getD (toNat 0) default).1,((A36_L_z11_L_3 a0 a1 a2 a3).2.getD (toNat 0) default).2.1,1,((A36_L_z11_L_3 a0 a1 a2 a3).2.getD (toNat 0) default).2.2.2.1,((A36_L_z11_L_3 a0 a1 a2 a3).2.getD (toNat 0) default).2.2.2.2.1,((A36_L_z11_L_3 a0 a1 a2 a3).2.getD (toNat 0) default).2.2.2.2.2)).getD (toNat 0) default).2.2.2.2.2))=(A36_L_z11_L_3 a0 a1 a2 a3).2.length from by first | simp;done | omega]
  exact rt (t0++[.d h0,.c [0,1] (aC8 a0 a2 (by omega) (by omega) hp.inr (by omega)),.c [0,1] (aDb a0 a2 (aD a0 a2) (by omega) (by omega) hp.inr (by omega)),.p (show(2:Int)≠0 from by decide),.S aM (aH a0 a2 (aD a0 a2)) 0 (W (Int.tdiv (W ((((aH a0 a2 (aD a0 a2)).length:Nat):Int)+1)) 2)) ((aH a0 a2 (aD a0 a2)).length),.c [0,7,9] (by have q:=(Con.flags (bs':=[(.live false true (flat eF a0)),(.live true false [(iv 0),(iv (W (0+(a2.length:Int)))),(iv (-1)),(iv (-1)),(iv (aK a0 a2 0)),(iv (aK a0 a2 1)),(iv (aK a0 a2 2)),(iv (jC a0 a1 a2 a3).1)]),(.live false true (flat c3 (Aw.part (aH a0 a2 (aD a0 a2)) 0 (W (Int.tdiv (W ((((aH a0 a2 (aD a0 a2)).length:Nat):Int)+1)) 2)))))]) (aFe a0 (([]:List (Int)),([(0,(W (0+(a2.length:Int))),(-1),(-1),((aK a0 a2 0),(aK a0 a2 1),(aK a0 a2 2)),(jC a0 a1 a2 a3).1)]:bE)) (Aw.part (aH a0 a2 (aD a0 a2)) 0 (W (Int.tdiv (W ((((aH a0 a2 (aD a0 a2)).length:Nat):Int)+1)) 2))) a3 (by(try simp only [Lt]);omega) (by(try simp only [Lt]);omega) (by(try simp only [Lt]);omega) (by(try simp only [Lt]);omega) (by first | exact cV hp _ h2 | exact dE hp _ h2 h5)) rfl ⟨fD (fun _=>rfl),fD (fun _=>rfl),fD (fun _=>rfl),trivial⟩);(try dsimp only at q);(try rw [show List.length (α:=Int) (Aw.part (aH a0 a2 (aD a0 a2)) 0 (W (Int.tdiv (W ((((aH a0 a2 (aD a0 a2)).length:Nat):Int)+1)) 2)))=(toNat (W (Int.tdiv (W ((((aH a0 a2 (aD a0 a2)).length:Nat):Int)+1)) 2)) - toNat 0) from by first | simp;done | omega] at q);exact q),.S aM (aH a0 a2 (aD a0 a2)) (W (Int.tdiv (W ((((aH a0 a2 (aD a0 a2)).length:Nat):Int)+1)) 2)) (((aH a0 a2 (aD a0 a2)).length:Nat):Int) ((aH a0 a2 (aD a0 a2)).length),.c [0,10,11,12] (by have q:=(wD a0 ((A36_L_z11_L_2 a0 a1 a2 a3).1,(A36_L_z11_L_2 a0 a1 a2 a3).2) (Aw.part (aH a0 a2 (aD a0 a2)) (W (Int.tdiv (W ((((aH a0 a2 (aD a0 a2)).length:Nat):Int)+1)) 2)) (((aH a0 a2 (aD a0 a2)).length:Nat):Int)) a3 (by(try simp only [Lt]);omega) (by(try simp only [Lt]);omega) (by(try simp only [Lt]);omega) (by(try simp only [Lt]);omega) (by first | exact cV hp _ h2 | exact dE hp _ h2 h5));(try dsimp only at q);(try rw [show List.length (α:=Int) (Aw.part (aH a0 a2 (aD a0 a2)) (W (Int.tdiv (W ((((aH a0 a2 (aD a0 a2)).length:Nat):Int)+1)) 2)) (((aH a0 a2 (aD a0 a2)).length:Nat):Int))=(toNat (((aH a0 a2 (aD a0 a2)).length:Nat):Int) - toNat (W (Int.tdiv (W ((((aH a0 a2 (aD a0 a2)).length:Nat):Int)+1)) 2))) from by first | simp;done | omega] at q);exact q),.i 0 ((A36_L_z11_L_3 a0 a1 a2 a3).2.length),.p (show((0+toNat 0*8+2)+1<=(flat bT (A36_L_z11_L_3 a0 a1 a2 a3).2).length) from(cS bJ (by first | omega | (simp only [Lt];omega)) (o:=2) (Nb rfl))),.i 0 ((A36_L_z11_L_3 a0 a1 a2 a3).2.length),.p (show((0+toNat 0*8+3)+1<=(splice (flat bT (A36_L_z11_L_3 a0 a1 a2 a3).2) (0+toNat 0*8+2) [(iv 1)]).length) from(by rw [show(splice (flat bT (A36_L_z11_L_3 a0 a1 a2 a3).2) (0+toNat 0*8+2) [(iv 1)])=flat bT ((A36_L_z11_L_3 a0 a1 a2 a3).2.set (toNat 0) (((A36_L_z11_L_3 a0 a1 a2 a3).2.getD (toNat 0) default).1,((A36_L_z11_L_3 a0 a1 a2 a3).2.getD (toNat 0) default).2.1,1,((A36_L_z11_L_3 a0 a1 a2 a3).2.getD (toNat 0) default).2.2.2.1,((A36_L_z11_L_3 a0 a1 a2 a3).2.getD (toNat 0) default).2.2.2.2.1,((A36_L_z11_L_3 a0 a1 a2 a3).2.getD (toNat 0) default).2.2.2.2.2)) from(aW bJ (by first | omega | (simp only [Lt];omega)) (o:=2) (d:=default) (Nb rfl) rfl)];exact cS bJ (by first | omega | (simp only [Lt];omega)) (o:=3) (Nb rfl)))]) []  [13,14] hcx (by kernel_rfl)
theorem aFf (a0:bM)(a1:List (Int)×bE)(a2:List (Int))(a3:Int)(l0:a0.length<=9223372036854775807)(l1_1:a1.1.length<=9223372036854775807)(l1_2:a1.2.length<=9223372036854775807)(l2:a2.length<=9223372036854775807)(hp:PGRW a0 ([],[]) a2 a3):Con Tryz.prog 36 [(.s 0 0 a0.length 10),(.a [(.v (.slice none 0 0)),(.v (.slice none 0 0))]),(.s 1 0 a2.length 1),(iv a3)] [(.live false true (flat eF a0)),(.live false true (flat c3 a2))] (.a [(.s 2 0 (fC a0 a1 a2 a3).1.length 1),(.s 3 0 (fC a0 a1 a2 a3).2.length 8)]) [(.live true true (flat c3 (fC a0 a1 a2 a3).1)),(.live true true (flat bT (fC a0 a1 a2 a3).2))]:=aDg (a2.length+1) a0 a1 a2 a3 l0 l1_1 l1_2 l2 hp (lss _)
noncomputable def aDh:Code:=(aI [1,1,0,1] [] (aL Tryz.f19) []).1
noncomputable def aDi:List K:=(aI [1,1,0,1] [] (aL Tryz.f19) []).2
def zS (a0:bM)(a1:Int)(v2c:List SV)(v2n:Nat)(v3:Int):LS:=⟨iM 26 [(0,(.s 0 0 a0.length 10)),(1,(iv a1)),(4,(.p 1 0)),(5,(.s 2 0 v2n 1)),(6,(iv v3))],[(.live false true (flat eF a0)),(.live true false [(.v (.slice none 0 0)),(.v (.slice none 0 0))]),(.live true true v2c)]⟩
def fJ (a0:bM)(a1:Int):List (Int)×Int->(List (Int)×Int)⊕(List (Int)×bE)
 | (v2,v3) =>
  (bif (decide ((v3:Int) < (a0.length:Int))) then
   (.inl ((v2++[v3]),(v3+1)))
  else
   (bif (((a0.length:Int):Int) == 0) then
    (.inr (([]:List (Int)),([]:bE)))
   else
    (.inr ((fC a0 (([]:List (Int)),([]:bE)) v2 a1).1,(fC a0 (([]:List (Int)),([]:bE)) v2 a1).2))))
theorem aPa (a0:bM)(a1:Int)(l0:a0.length<=9223372036854775807)(hl:a0.length<=96)(hf:1<=a1) {cx:Cx} (hcx:cx.base=1):∀(n:Nat) (v2:List (Int)) (v3:Int),(0<=v3)/\(v2.length=toNat v3)/\(InR a0.length v2)/\(v3<=a0.length)/\(a0.length<=96)->toNat ((a0.length:Int) - v3) < n->Aw.Good Tryz.prog none 9 (bodyPost Tryz.prog Tryz.f19 (RR cx (.a [(.s 1 0 (aC (fJ a0 a1) n (v2,v3)).1.length 1),(.s 2 0 (aC (fJ a0 a1) n (v2,v3)).2.length 8)]) [(.live true true (flat c3 (aC (fJ a0 a1) n (v2,v3)).1)),(.live true true (flat bT (aC (fJ a0 a1) n (v2,v3)).2))] [])) cx [] (.l aDh n::aDi) (zS a0 a1 (flat c3 v2) v2.length v3):=by
 intro n
 induction n with
 | zero=>intro v2 v3 hi hn;exact absurd hn (eP _)
 | succ n ih =>
   intro v2 v3 hi hn
   refine aQ ?_
   cases h0:(decide ((v3:Int) < (a0.length:Int))) with
   | true =>
    have q0:=cA h0
    have e:=Eq.refl (fJ a0 a1 (v2,v3));conv at e=>rhs;simp only [fJ,h0,aS]
    rw [aE e]
    refine ba [.d h0,.p (show((flat c3 v2).length=v2.length*1/\v2.length+1<=2 ^ 40/\(v2.length+1)*8<=2 ^ 47) from gK aM (by omega) (by omega))] [] [0,1,4,5,6] [1,4] hcx (m:=n) aDh (aDi) (zS a0 a1 (flat c3 v2++[(iv v3)]) (v2.length+1) (W (v3+1))) (by kernel_rfl) ?_
    have z0:(W (v3+1))=(v3+1):=aJ (by omega) (by omega)
    have z1:(flat c3 v2++[(iv v3)])=(flat c3 (v2++[v3])):=(bL (c:=c3) (l:=v2) (m:=[v3])).symm
    have z2:(v2.length+1)=(v2++[v3]).length:=gU v2 [v3] rfl
    rw [z0,z1,z2]
    exact ih (v2++[v3]) (v3+1) (by and_intros<;>(try simp only [Lt])<;>first | omega | assumption | exact hi.2.1 | exact hi.2.2.1 | exact InR.swap hi.2.1 (by omega) (by omega) | exact InR.swap hr (by omega) (by omega) | exact InR.nil _ | exact hi.2.2.1.add (by omega)) (by(try simp only [Ls]);omega)
   | false =>
    have q0:=cH h0
    let t1:List (St Tryz.prog):=[.d h0]
    cases h1:(((a0.length:Int):Int) == 0) with
    | true =>
     have q1:=eq_of_beq h1
     have e:=Eq.refl (fJ a0 a1 (v2,v3));conv at e=>rhs;simp only [fJ,h0,h1,aS]
     rw [aN,e]
     exact rt (t1++[.d h1]) [.cell 1 0 1,.cell 1 1 8] [3,4] hcx (by kernel_rfl)
    | false =>
     have q1:=ne_of_beq_false h1
     have e:=Eq.refl (fJ a0 a1 (v2,v3));conv at e=>rhs;simp only [fJ,h0,h1,aS]
     rw [aN,e]
     exact rt (t1++[.d h1,.c [0,2] (aFf a0 (([]:List (Int)),([]:bE)) v2 a1 (by(try simp only [Lt]);omega) (by(try simp only [Lt]);omega) (by(try simp only [Lt]);omega) (by(try simp only [Lt]);omega) ⟨hi.2.2.1,by simp only [List.length_nil];omega,by simp only [List.length_nil];omega,hf⟩)]) [] [3,4] hcx (by kernel_rfl)
def iF (a0:bM)(a1:Int):List (Int)×bE :=
 (aC (fJ a0 a1) (toNat ((a0.length:Int) - 0)+1) (([]:List (Int)),0))
theorem aP9 (a0:bM)(a1:Int)(l0:a0.length<=9223372036854775807)(hl:a0.length<=96)(hf:1<=a1):Con Tryz.prog 19 [(.s 0 0 a0.length 10),(iv a1)] [(.live false true (flat eF a0))] (.a [(.s 1 0 (iF a0 a1).1.length 1),(.s 2 0 (iF a0 a1).2.length 8)]) [(.live true true (flat c3 (iF a0 a1).1)),(.live true true (flat bT (iF a0 a1).2))]:=by
 refine aO Tryz.func19 (by kernel_rfl) fun cx hcx=>?_
 have e:=Eq.refl (iF a0 a1);conv at e=>rhs;simp only [iF]
 rw [e]
 refine en [] [.slot 5 1] [0,1,4,5,6] [1,2] hcx aDh (aDi) (zS a0 a1 (flat c3 ([]:List (Int))) 0 0) (toNat ((a0.length:Int) - 0)+1) (by kernel_rfl) ?_
 exact aPa a0 a1 l0 hl hf hcx (toNat ((a0.length:Int) - 0)+1) ([]:List (Int)) 0 (by and_intros<;>(try simp only [Lt])<;>first | omega | assumption | exact hi.2.1 | exact hi.2.2.1 | exact InR.swap hi.2.1 (by omega) (by omega) | exact InR.swap hr (by omega) (by omega) | exact InR.nil _ | exact hi.2.2.1.add (by omega)) (by(try simp only [Ls]);omega)
def aG (a0:bM)(a1:Int):(List (Int)×bE)×Int :=
 (bif (((gI a0):Int) != 0) then
  ((([]:List (Int)),([]:bE)),(gI a0))
 else
  (bif (decide ((a1:Int) < 1)) then
   ((([]:List (Int)),([]:bE)),1)
  else
   (bif (decide ((a1:Int) > 16)) then
    ((([]:List (Int)),([]:bE)),1)
   else
    (((iF a0 a1).1,(iF a0 a1).2),0))))
theorem aV9 (a0:bM)(a1:Int)(l0:a0.length<=9223372036854775807):Con Tryz.prog 6 [(.s 0 0 a0.length 10),(iv a1)] [(.live false true (flat eF a0))] (.t [(.a [(.s 1 0 (aG a0 a1).1.1.length 1),(.s 2 0 (aG a0 a1).1.2.length 8)]),(iv (aG a0 a1).2)]) [(.live true true (flat c3 (aG a0 a1).1.1)),(.live true true (flat bT (aG a0 a1).1.2))]:=by
 refine aO Tryz.func6 (by kernel_rfl) fun cx hcx=>?_
 let t0:List (St Tryz.prog):=[.c [0] (aL6 a0 (by omega))]
 cases h0:(((gI a0):Int) != 0) with
 | true =>
  have q0:=bne_iff_ne.1 h0
  have e:=Eq.refl (aG a0 a1);conv at e=>rhs;simp only [aG,h0,aS]
  rw [e]
  exact rt (t0++[.d h0]) [.cell 1 0 1,.cell 1 1 8] [2,3] hcx (by kernel_rfl)
 | false =>
  have q0:=bne_eq_false_iff_eq.1 h0
  let t1:List (St Tryz.prog):=(t0++[.d h0])
  cases h1:(decide ((a1:Int) < 1)) with
  | true =>
   have q1:=cA h1
   have e:=Eq.refl (aG a0 a1);conv at e=>rhs;simp only [aG,h0,h1,aS]
   rw [e]
   exact rt (t1++[.d h1]) [.cell 1 0 1,.cell 1 1 8] [2,3] hcx (by kernel_rfl)
  | false =>
   have q1:=cH h1
   let t2:List (St Tryz.prog):=(t1++[.d h1])
   cases h2:(decide ((a1:Int) > 16)) with
   | true =>
    have q2:=cA h2
    have e:=Eq.refl (aG a0 a1);conv at e=>rhs;simp only [aG,h0,h1,h2,aS]
    rw [e]
    exact rt (t2++[.d h2]) [.cell 1 0 1,.cell 1 1 8] [2,3] hcx (by kernel_rfl)
   | false =>
    have q2:=cH h2
    have e:=Eq.refl (aG a0 a1);conv at e=>rhs;simp only [aG,h0,h1,h2,aS]
    rw [e]
    exact rt (t2++[.d h2,.c [0] (aP9 a0 a1 (by omega) (sZ (l:=a0) (bne_eq_false_iff_eq.1 h0)) (by omega))]) [] [2,3] hcx (by kernel_rfl)
noncomputable def uW:Code:=(aI [1,1,0,1] [] (aL Tryz.f30) []).1
noncomputable def uX:List K:=(aI [1,1,0,1] [] (aL Tryz.f30) []).2
def qY (a0:List (Int))(a1:List (Int))(v1:Int):LS:=⟨iM 26 [(0,(.s 0 0 a0.length 1)),(1,(.s 1 0 a1.length 1)),(5,(iv v1))],[(.live false true (flat c3 a0)),(.live false true (flat c3 a1))]⟩
def eY (a0:List (Int))(a1:List (Int)):Int->(Int)⊕(Bool)
 | v1 =>
  (bif (decide ((v1:Int) < (a0.length:Int))) then
   (bif (((a0.getD (toNat v1) default):Int) != (a1.getD (toNat v1) default)) then
    (.inr false)
   else
    (.inl (v1+1)))
  else
   (.inr true))
theorem aKu (a0:List (Int))(a1:List (Int))(l0:a0.length<=9223372036854775807)(l1:a1.length<=9223372036854775807) {cx:Cx} (hcx:cx.base=2):∀(n:Nat) (v1:Int),(0<=v1)/\(a0.length=a1.length)->toNat ((a0.length:Int) - v1) < n->Aw.Good Tryz.prog none 9 (bodyPost Tryz.prog Tryz.f30 (RR cx (.v (.bool (aC (eY a0 a1) n v1))) [] [])) cx [] (.l uW n::uX) (qY a0 a1 v1):=by
 intro n
 induction n with
 | zero=>intro v1 hi hn;exact absurd hn (eP _)
 | succ n ih =>
   intro v1 hi hn
   refine aQ ?_
   cases h0:(decide ((v1:Int) < (a0.length:Int))) with
   | true =>
    have q0:=cA h0
    let t1:List (St Tryz.prog):=[.d h0,.i v1 (a0.length),.L aM a0 v1 0 1,.i v1 (a1.length),.L aM a1 v1 0 1]
    cases h1:(((a0.getD (toNat v1) default):Int) != (a1.getD (toNat v1) default)) with
    | true =>
     have q1:=bne_iff_ne.1 h1
     have e:=Eq.refl (eY a0 a1 v1);conv at e=>rhs;simp only [eY,h0,h1,aS]
     rw [aN,e]
     exact rt (t1++[.d h1]) [] [] hcx (by kernel_rfl)
    | false =>
     have q1:=bne_eq_false_iff_eq.1 h1
     have e:=Eq.refl (eY a0 a1 v1);conv at e=>rhs;simp only [eY,h0,h1,aS]
     rw [aE e]
     refine ba (t1++[.d h1]) [] [0,1,5] [] hcx (m:=n) uW (uX) (qY a0 a1 (W (v1+1))) (by kernel_rfl) ?_
     have z0:(W (v1+1))=(v1+1):=aJ (by omega) (by omega)
     rw [z0]
     exact ih (v1+1) (by refine⟨?_,?_⟩<;>(try simp only [Ls])<;>first | omega | assumption | simp) (by(try simp only [Ls]);omega)
   | false =>
    have q0:=cH h0
    have e:=Eq.refl (eY a0 a1 v1);conv at e=>rhs;simp only [eY,h0,aS]
    rw [aN,e]
    exact rt [.d h0] [] [] hcx (by kernel_rfl)
def fU (a0:List (Int))(a1:List (Int)):Bool :=
 (bif (((a0.length:Int):Int) != (a1.length:Int)) then
  false
 else
  (aC (eY a0 a1) (toNat ((a0.length:Int) - 0)+1) 0))
theorem aPb (a0:List (Int))(a1:List (Int))(l0:a0.length<=9223372036854775807)(l1:a1.length<=9223372036854775807):Con Tryz.prog 30 [(.s 0 0 a0.length 1),(.s 1 0 a1.length 1)] [(.live false true (flat c3 a0)),(.live false true (flat c3 a1))] (.v (.bool (fU a0 a1))) []:=by
 refine aO Tryz.func30 (by kernel_rfl) fun cx hcx=>?_
 cases h0:(((a0.length:Int):Int) != (a1.length:Int)) with
 | true =>
  have q0:=bne_iff_ne.1 h0
  have e:=Eq.refl (fU a0 a1);conv at e=>rhs;simp only [fU,h0,aS]
  rw [e]
  exact rt [.d h0] [] [] hcx (by kernel_rfl)
 | false =>
  have q0:=bne_eq_false_iff_eq.1 h0
  have e:=Eq.refl (fU a0 a1);conv at e=>rhs;simp only [fU,h0,aS]
  rw [e]
  refine en [.d h0] [] [0,1,5] [] hcx uW (uX) (qY a0 a1 0) (toNat ((a0.length:Int) - 0)+1) (by kernel_rfl) ?_
  exact aKu a0 a1 l0 l1 hcx (toNat ((a0.length:Int) - 0)+1) 0 (by refine⟨?_,?_⟩<;>(try simp only [Ls])<;>first | omega | assumption | simp) (by(try simp only [Ls]);omega)
noncomputable def aRz:Code:=(aI [1,1,0,1] [] (aL Tryz.f9) []).1
noncomputable def aR0:List K:=(aI [1,1,0,1] [] (aL Tryz.f9) []).2
def aM7 (a0:List (Int)×bE)(a1:List (Int)×bE)(v1:Int):LS:=⟨iM 39 [(2,(.p 4 0)),(3,(.p 5 0)),(5,(iv v1))],[(.live false true (flat c3 a0.1)),(.live false true (flat bT a0.2)),(.live false true (flat c3 a1.1)),(.live false true (flat bT a1.2)),(.live true false [(.s 0 0 a0.1.length 1),(.s 1 0 a0.2.length 8)]),(.live true false [(.s 2 0 a1.1.length 1),(.s 3 0 a1.2.length 8)])]⟩
def zT (a0:List (Int)×bE)(a1:List (Int)×bE):Int->(Int)⊕(Bool)
 | v1 =>
  (bif (decide ((v1:Int) < (a0.2.length:Int))) then
   (bif (!((((a0.2.getD (toNat v1) default).1:Int) == (a1.2.getD (toNat v1) default).1)&&((((a0.2.getD (toNat v1) default).2.1:Int) == (a1.2.getD (toNat v1) default).2.1)&&((((a0.2.getD (toNat v1) default).2.2.1:Int) == (a1.2.getD (toNat v1) default).2.2.1)&&((((a0.2.getD (toNat v1) default).2.2.2.1:Int) == (a1.2.getD (toNat v1) default).2.2.2.1)&&(((((a0.2.getD (toNat v1) default).2.2.2.2.1.1:Int) == (a1.2.getD (toNat v1) default).2.2.2.2.1.1)&&((((a0.2.getD (toNat v1) default).2.2.2.2.1.2.1:Int) == (a1.2.getD (toNat v1) default).2.2.2.2.1.2.1)&&((((a0.2.getD (toNat v1) default).2.2.2.2.1.2.2:Int) == (a1.2.getD (toNat v1) default).2.2.2.2.1.2.2)&&true)))&&((((a0.2.getD (toNat v1) default).2.2.2.2.2:Int) == (a1.2.getD (toNat v1) default).2.2.2.2.2)&&true))))))) then
    (.inr false)
   else
    (.inl (v1+1)))
  else
   (.inr true))
theorem aWa (a0:List (Int)×bE)(a1:List (Int)×bE)(l0_1:a0.1.length<=9223372036854775807)(l0_2:a0.2.length<=9223372036854775807)(l1_1:a1.1.length<=9223372036854775807)(l1_2:a1.2.length<=9223372036854775807) {cx:Cx} (hcx:cx.base=4):∀(n:Nat) (v1:Int),(0<=v1)/\(a0.2.length=a1.2.length)->toNat ((a0.2.length:Int) - v1) < n->Aw.Good Tryz.prog none 9 (bodyPost Tryz.prog Tryz.f9 (RR cx (.v (.bool (aC (zT a0 a1) n v1))) [] [])) cx [] (.l aRz n::aR0) (aM7 a0 a1 v1):=by
 intro n
 induction n with
 | zero=>intro v1 hi hn;exact absurd hn (eP _)
 | succ n ih =>
   intro v1 hi hn
   refine aQ ?_
   cases h0:(decide ((v1:Int) < (a0.2.length:Int))) with
   | true =>
    have q0:=cA h0
    let t1:List (St Tryz.prog):=[.d h0,.i v1 (a0.2.length),.L bJ a0.2 v1 0 8,.i v1 (a1.2.length),.L bJ a1.2 v1 0 8]
    cases h1:(!((((a0.2.getD (toNat v1) default).1:Int) == (a1.2.getD (toNat v1) default).1)&&((((a0.2.getD (toNat v1) default).2.1:Int) == (a1.2.getD (toNat v1) default).2.1)&&((((a0.2.getD (toNat v1) default).2.2.1:Int) == (a1.2.getD (toNat v1) default).2.2.1)&&((((a0.2.getD (toNat v1) default).2.2.2.1:Int) == (a1.2.getD (toNat v1) default).2.2.2.1)&&(((((a0.2.getD (toNat v1) default).2.2.2.2.1.1:Int) == (a1.2.getD (toNat v1) default).2.2.2.2.1.1)&&((((a0.2.getD (toNat v1) default).2.2.2.2.1.2.1:Int) == (a1.2.getD (toNat v1) default).2.2.2.2.1.2.1)&&((((a0.2.getD (toNat v1) default).2.2.2.2.1.2.2:Int) == (a1.2.getD (toNat v1) default).2.2.2.2.1.2.2)&&true)))&&((((a0.2.getD (toNat v1) default).2.2.2.2.2:Int) == (a1.2.getD (toNat v1) default).2.2.2.2.2)&&true))))))) with
    | true =>
     have e:=Eq.refl (zT a0 a1 v1);conv at e=>rhs;simp only [zT,h0,h1,aS]
     rw [aN,e]
     exact rt (t1++[.d h1]) [] [] hcx (by kernel_rfl)
    | false =>
     have e:=Eq.refl (zT a0 a1 v1);conv at e=>rhs;simp only [zT,h0,h1,aS]
     rw [aE e]
     refine ba (t1++[.d h1]) [] [2,3,5] [4,5] hcx (m:=n) aRz (aR0) (aM7 a0 a1 (W (v1+1))) (by kernel_rfl) ?_
     have z0:(W (v1+1))=(v1+1):=aJ (by omega) (by omega)
     rw [z0]
     exact ih (v1+1) (by refine⟨?_,?_⟩<;>(try simp only [Ls])<;>first | omega | assumption | simp) (by(try simp only [Ls]);omega)
   | false =>
    have q0:=cH h0
    have e:=Eq.refl (zT a0 a1 v1);conv at e=>rhs;simp only [zT,h0,aS]
    rw [aN,e]
    exact rt [.d h0] [] [] hcx (by kernel_rfl)
def F9 (a0:List (Int)×bE)(a1:List (Int)×bE):Bool :=
 (bif (!(fU a0.1 a1.1)) then
  false
 else
  (bif (((a0.2.length:Int):Int) != (a1.2.length:Int)) then
   false
  else
   (aC (zT a0 a1) (toNat ((a0.2.length:Int) - 0)+1) 0)))
theorem C9 (a0:List (Int)×bE)(a1:List (Int)×bE)(l0_1:a0.1.length<=9223372036854775807)(l0_2:a0.2.length<=9223372036854775807)(l1_1:a1.1.length<=9223372036854775807)(l1_2:a1.2.length<=9223372036854775807):Con Tryz.prog 9 [(.a [(.s 0 0 a0.1.length 1),(.s 1 0 a0.2.length 8)]),(.a [(.s 2 0 a1.1.length 1),(.s 3 0 a1.2.length 8)])] [(.live false true (flat c3 a0.1)),(.live false true (flat bT a0.2)),(.live false true (flat c3 a1.1)),(.live false true (flat bT a1.2))] (.v (.bool (F9 a0 a1))) []:=by
 refine aO Tryz.func9 (by kernel_rfl) fun cx hcx=>?_
 let t0:List (St Tryz.prog):=[.c [0,2] (aPb a0.1 a1.1 (by omega) (by omega))]
 cases h0:(!(fU a0.1 a1.1)) with
 | true =>
  have e:=Eq.refl (F9 a0 a1);conv at e=>rhs;simp only [F9,h0,aS]
  rw [e]
  exact rt (t0++[.d h0]) [] [] hcx (by kernel_rfl)
 | false =>
  let t1:List (St Tryz.prog):=(t0++[.d h0])
  cases h1:(((a0.2.length:Int):Int) != (a1.2.length:Int)) with
  | true =>
   have q1:=bne_iff_ne.1 h1
   have e:=Eq.refl (F9 a0 a1);conv at e=>rhs;simp only [F9,h0,h1,aS]
   rw [e]
   exact rt (t1++[.d h1]) [] [] hcx (by kernel_rfl)
  | false =>
   have q1:=bne_eq_false_iff_eq.1 h1
   have e:=Eq.refl (F9 a0 a1);conv at e=>rhs;simp only [F9,h0,h1,aS]
   rw [e]
   refine en (t1++[.d h1]) [] [2,3,5] [4,5] hcx aRz (aR0) (aM7 a0 a1 0) (toNat ((a0.2.length:Int) - 0)+1) (by kernel_rfl) ?_
   exact aWa a0 a1 l0_1 l0_2 l1_1 l1_2 hcx (toNat ((a0.2.length:Int) - 0)+1) 0 (by refine⟨?_,?_⟩<;>(try simp only [Ls])<;>first | omega | assumption | simp) (by(try simp only [Ls]);omega)
def VCH (l:eW):Prop:=l.length<=96/\∀i,i < l.length->vp (l.getD i default).1=0/\(-100<=(l.getD i default).2/\(l.getD i default).2<=100)
theorem aFg {l:eW}:∀(d i n:Nat),d=l.length - i->i<=l.length->d < n->aC (fH l) n (i:Int)=0->∀j,i<=j->j < l.length->vp (l.getD j default).1=0/\(-100<=(l.getD j default).2/\(l.getD j default).2<=100)
 | 0,i,n,hd,hi,hn,_,j,h1,h2=>absurd h2 (by omega)
 | d+1,i,n,hd,hi,hn,h,j,h1,h2=>by
   obtain⟨n,rfl⟩:∃m,n=m+1:=⟨n - 1,by omega⟩
   have e:fH l (i:Int)=bif (((sH (l.getD i default).1):Int) != 0) then .inr (sH (l.getD i default).1) else bif (!(F59 (l.getD i default).2 (-100) 100)) then .inr 1 else .inl ((i+1:Nat):Int):=by
     simp only [fH,jM]
     rw [cN (show((i:Nat):Int) < (l.length:Int) by omega),cond_true];rfl
   cases hv:(((sH (l.getD i default).1):Int) != 0) with
   | true =>
     rw [hv,cond_true] at e
     rw [aY e] at h
     rw [h] at hv;exact absurd hv (by decide)
   | false =>
     rw [hv,cond_false] at e
     cases hw:(!(F59 (l.getD i default).2 (-100) 100)) with
     | true =>
       rw [hw,cond_true] at e
       rw [aY e] at h
       exact absurd h (by decide)
     | false =>
       rw [hw,cond_false] at e
       rw [aE e] at h
       by_cases hj:j=i
       · subst hj
         refine⟨?_,?_⟩
         · rw [←aKe];exact bne_eq_false_iff_eq.1 hv
         · simp only [F59,Bool.not_eq_false'] at hw
           by_cases h3:(l.getD j default).2≥-100
           · rw [cN h3,cond_true] at hw;exact⟨h3,cA hw⟩
           · rw [dQ h3,cond_false] at hw;cases hw
       · exact aFg d (i+1) n (by omega) (by omega) (by omega) h j (by omega) h2
theorem aG3 {l:eW} (h:gH l=0):VCH l:=by
 refine⟨sU h,fun i hi=>?_⟩
 have hl:=sU h
 unfold gH at h
 rw [dQ (show ¬(l.length:Int) > 96 by omega),cond_false] at h
 exact aFg l.length 0 _ (by omega) (by omega) (by omega) h i (Nat.zero_le _) hi
theorem aM8 {l:eW} (h:VCH l) {i:Nat} (hi:i < l.length):bdP 64 (l.getD i default).1:=(sN (h.2 i hi).1).1
section
variable {l : eW} {ns : List Int}
theorem aFh {i:Nat} (hi:i < ns.length):(eU l ns).getD i default=l.getD (toNat (ns.getD i default)) default:=by
 rw [aMz];simp [eQ,hi]
theorem aFi (hl:ns.length<=1048576):∀(n i:Nat) (a1 a2 a3 b1 b2 b3:Int),ns.length - i < n ->
   aC (gE (eU l ns)) n ((i:Int),a1,a2,a3,b1,b2,b3) =
     (aC (bZ l ns 0) n (a1,b1,(i:Int)),aC (bZ l ns 1) n (a2,b2,(i:Int)),aC (bZ l ns 2) n (a3,b3,(i:Int)))
 | 0,_,_,_,_,_,_,_,h=>absurd h (eP _)
 | n+1,i,a1,a2,a3,b1,b2,b3,h=>by
   have hm:(eU l ns).length=ns.length:=xB l ns
   by_cases h1:i < ns.length
   · have hg:=aFh (l:=l) h1
     have e:gE (eU l ns) ((i:Int),a1,a2,a3,b1,b2,b3)=.inl (((i+1:Nat):Int),fE (fE (fE a1 (l.getD (toNat (ns.getD i default)) default).1.1.1) (l.getD (toNat (ns.getD i default)) default).1.2.1.1) (l.getD (toNat (ns.getD i default)) default).1.2.2.1,fE (fE (fE a2 (l.getD (toNat (ns.getD i default)) default).1.1.2.1) (l.getD (toNat (ns.getD i default)) default).1.2.1.2.1) (l.getD (toNat (ns.getD i default)) default).1.2.2.2.1,fE (fE (fE a3 (l.getD (toNat (ns.getD i default)) default).1.1.2.2) (l.getD (toNat (ns.getD i default)) default).1.2.1.2.2) (l.getD (toNat (ns.getD i default)) default).1.2.2.2.2,
         bY (bY (bY b1 (l.getD (toNat (ns.getD i default)) default).1.1.1) (l.getD (toNat (ns.getD i default)) default).1.2.1.1) (l.getD (toNat (ns.getD i default)) default).1.2.2.1,bY (bY (bY b2 (l.getD (toNat (ns.getD i default)) default).1.1.2.1) (l.getD (toNat (ns.getD i default)) default).1.2.1.2.1) (l.getD (toNat (ns.getD i default)) default).1.2.2.2.1,bY (bY (bY b3 (l.getD (toNat (ns.getD i default)) default).1.1.2.2) (l.getD (toNat (ns.getD i default)) default).1.2.1.2.2) (l.getD (toNat (ns.getD i default)) default).1.2.2.2.2):=by
       simp only [gE,jM,hg,hm]
       rw [cN (by omega),cond_true];rfl
     have r:∀k a b,bZ l ns k (a,b,(i:Int))=.inl (fE (fE (fE a (hU (l.getD (toNat (ns.getD i default)) default).1.1 k)) (hU (l.getD (toNat (ns.getD i default)) default).1.2.1 k)) (hU (l.getD (toNat (ns.getD i default)) default).1.2.2 k),
         bY (bY (bY b (hU (l.getD (toNat (ns.getD i default)) default).1.1 k)) (hU (l.getD (toNat (ns.getD i default)) default).1.2.1 k)) (hU (l.getD (toNat (ns.getD i default)) default).1.2.2 k),((i+1:Nat):Int)):=fun k a b=>by
       simp only [bZ,jM]
       rw [cN (by omega),cond_true];rfl
     rw [aE e,aE (r 0 a1 b1),aE (r 1 a2 b2),aE (r 2 a3 b3)]
     exact aFi hl n (i+1) _ _ _ _ _ _ (by omega)
   · have e:gE (eU l ns) ((i:Int),a1,a2,a3,b1,b2,b3)=.inr (F99 a1 b1,F99 a2 b2,F99 a3 b3):=by
       simp only [gE,hm]
       rw [dQ (by omega),cond_false];rfl
     have r:∀k a b,bZ l ns k (a,b,(i:Int))=.inr (F99 a b):=fun k a b=>by
       simp only [bZ]
       rw [dQ (by omega),cond_false]
     rw [aY e,aY (r 0 a1 b1),aY (r 1 a2 b2),aY (r 2 a3 b3)]
theorem aR1 (hv:VCH l)(hi:InR l.length ns)(h1:1<=ns.length)(hl:ns.length<=1048576):cU (eU l ns)=(aK l ns 0,aK l ns 1,aK l ns 2):=by
 have hm:(eU l ns).length=ns.length:=xB l ns
 have hg:=aFh (l:=l) (ns:=ns) (i:=0) (by omega)
 have h0:=hi.at (i:=0) (by omega)
 have hb:=aM8 hv (i:=toNat (ns.getD 0 default)) (by omega)
 unfold cU aK
 rw [hm,show(toNat 0)=0 from rfl,hg]
 obtain⟨n,hn⟩:∃n,toNat ((ns.length:Int) - 0)+1=n+1:=⟨_,rfl⟩
 rw [hn]
 have hnn:ns.length<=n:=by omega
 generalize hp:l.getD (toNat (ns.getD 0 default)) default=p at hb hg ⊢
 -- the first round
 have e:gE (eU l ns) (0,p.1.1.1,p.1.1.2.1,p.1.1.2.2,p.1.1.1,p.1.1.2.1,p.1.1.2.2)=.inl (((1:Nat):Int),fE (fE (fE p.1.1.1 p.1.1.1) p.1.2.1.1) p.1.2.2.1,fE (fE (fE p.1.1.2.1 p.1.1.2.1) p.1.2.1.2.1) p.1.2.2.2.1,fE (fE (fE p.1.1.2.2 p.1.1.2.2) p.1.2.1.2.2) p.1.2.2.2.2,
     bY (bY (bY p.1.1.1 p.1.1.1) p.1.2.1.1) p.1.2.2.1,bY (bY (bY p.1.1.2.1 p.1.1.2.1) p.1.2.1.2.1) p.1.2.2.2.1,bY (bY (bY p.1.1.2.2 p.1.1.2.2) p.1.2.1.2.2) p.1.2.2.2.2):=by
   simp only [gE,show(toNat 0)=0 from rfl,hg,hm]
   rw [cN (by omega),cond_true];rfl
 have r:∀k,bZ l ns k (64,(-64),0)=.inl (fE (fE (fE 64 (hU p.1.1 k)) (hU p.1.2.1 k)) (hU p.1.2.2 k),
     bY (bY (bY (-64) (hU p.1.1 k)) (hU p.1.2.1 k)) (hU p.1.2.2 k),((1:Nat):Int)):=fun k=>by
   simp only [bZ,show(toNat 0)=0 from rfl,hp]
   rw [cN (by omega),cond_true];rfl
 have m1:∀x y z:Int,(-64<=x/\x<=64)->fE (fE (fE 64 x) y) z=fE (fE (fE x x) y) z:=fun x y z hx=>by
   congr 2;unfold fE;split<;>split<;>omega
 have m2:∀x y z:Int,(-64<=x/\x<=64)->bY (bY (bY (-64) x) y) z=bY (bY (bY x x) y) z:=fun x y z hx=>by
   congr 2;unfold bY;split<;>split<;>omega
 obtain⟨⟨hx,hy,hz⟩,_⟩:=hb
 rw [aE e,aE (r 0),aE (r 1),aE (r 2),aFi hl n 1 _ _ _ _ _ _ (by omega)]
 rw [m1 _ _ _ (show -64<=hU p.1.1 0/\hU p.1.1 0<=64 from hx),m2 _ _ _ (show -64<=hU p.1.1 0/\hU p.1.1 0<=64 from hx),
   m1 _ _ _ (show -64<=hU p.1.1 1/\hU p.1.1 1<=64 from hy),m2 _ _ _ (show -64<=hU p.1.1 1/\hU p.1.1 1<=64 from hy),
   m1 _ _ _ (show -64<=hU p.1.1 2/\hU p.1.1 2<=64 from hz),m2 _ _ _ (show -64<=hU p.1.1 2/\hU p.1.1 2<=64 from hz)]
 rfl
theorem aI8 (hv:VCH l)(hi:InR l.length ns)(k:Int):∀(n i:Nat) (a b:Int),ns.length - i < n->(-64<=a/\a<=64)->(-64<=b/\b<=64)->-64<=aC (bZ l ns k) n (a,b,(i:Int))/\aC (bZ l ns k) n (a,b,(i:Int))<=64
 | 0,_,_,_,h,_,_=>absurd h (eP _)
 | n+1,i,a,b,h,ha,hb=>by
   by_cases h1:i < ns.length
   · have h0:=hi.at h1
     have hp:=aM8 hv (i:=toNat (ns.getD i default)) (by omega)
     have r:bZ l ns k (a,b,(i:Int))=.inl (fE (fE (fE a (hU (l.getD (toNat (ns.getD i default)) default).1.1 k)) (hU (l.getD (toNat (ns.getD i default)) default).1.2.1 k)) (hU (l.getD (toNat (ns.getD i default)) default).1.2.2 k),
         bY (bY (bY b (hU (l.getD (toNat (ns.getD i default)) default).1.1 k)) (hU (l.getD (toNat (ns.getD i default)) default).1.2.1 k)) (hU (l.getD (toNat (ns.getD i default)) default).1.2.2 k),((i+1:Nat):Int)):=by
       simp only [bZ,jM]
       rw [cN (by omega),cond_true];rfl
     rw [aE r]
     have ax:∀p:Zt,bd 64 p->-64<=hU p k/\hU p k<=64:=fun p hp=>by
       unfold hU
       rw [Bool.cond_eq_ite]
       split
       · exact hp.1
       · rw [Bool.cond_eq_ite]
         split
         · exact hp.2.1
         · exact hp.2.2
     have qa1:=ax _ hp.1;have qa2:=ax _ hp.2.1;have qa3:=ax _ hp.2.2
     have mn:∀x y:Int,(-64<=x/\x<=64)->(-64<=y/\y<=64)->-64<=fE x y/\fE x y<=64:=fun x y hx hy=>by unfold fE;split<;>assumption
     have mx:∀x y:Int,(-64<=x/\x<=64)->(-64<=y/\y<=64)->-64<=bY x y/\bY x y<=64:=fun x y hx hy=>by unfold bY;split<;>assumption
     exact aI8 hv hi k n (i+1) _ _ (by omega) (mn _ _ (mn _ _ (mn _ _ ha qa1) qa2) qa3) (mx _ _ (mx _ _ (mx _ _ hb qa1) qa2) qa3)
   · have r:bZ l ns k (a,b,(i:Int))=.inr (F99 a b):=by
       simp only [bZ]
       rw [dQ (by omega),cond_false]
     rw [aY r]
     unfold F99
     rw [aJ (by omega) (by omega),show(2:Int) ^ (min (toNat 1) 64)=2 from by decide,Int.fdiv_eq_ediv_of_nonneg _ (by decide)]
     omega
theorem aG4 (hv:VCH l)(hi:InR l.length ns)(k:Int):-64<=aK l ns k/\aK l ns k<=64 :=
 aI8 hv hi k _ 0 64 (-64) (by omega) (by omega) (by omega)
theorem aR2 (m:eW) {c:Zt} (hc:bd 64 c):wA m c=nJ m c:=by
 obtain⟨h1,h2,h3⟩:=hc
 have hW:W (0 - 64)=-64:=by decide
 have e1:zK c 64=true:=by
   unfold zK zJ
   rw [hW,cN h1.1,cN h1.2,cN h2.1,cN h2.2,cN h3.1,cN h3.2];rfl
 have sz:∀x:Int,(-64<=x/\x<=64)->F77 x<=64:=fun x hx=>by
   unfold F77
   rw [aJ (n:=0 - x) (by omega) (by omega)]
   split<;>omega
 have e2:tH c 64=true:=by
   unfold tH
   rw [hW,cN (sz _ h1),cN (sz _ h2),cN (sz _ h3),cN (show c.1≥-64 from h1.1),cN (show c.2.1≥-64 from h2.1),cN (show c.2.2≥-64 from h3.1)];rfl
 have e3:jN m c=jO m c:=by
   unfold jN jO
   rw [zQ,e1,e2]
 have e4:mZ m c=nA m c:=by
   funext ⟨v1,v2⟩
   rfl
 unfold wA nJ
 rw [e3,e4]
def aUo (b:BU):Zt⊕Int->Zt⊕(BU×Int)
 | .inl s=>.inl s
 | .inr x=>.inr (b,x)
theorem aI9 {b:BU} (hb:b.1=l) {k:Int}:∀(n i:Nat) (v15 v16 lo hi:Int),ns.length - i < n ->
   aC (eV b ns) n (v15,v16,k,lo,hi,k,(i:Int))=aUo b (aC (cM l ns) n (v15,v16,k,lo,hi,(i:Int)))
 | 0,_,_,_,_,_,h=>absurd h (eP _)
 | n+1,i,v15,v16,lo,hi,h=>by
   have hk:∀x:Int,fX (b.1,b.2.1,(b.2.2.1,b.2.2.2)) x k=eS (l.getD (toNat x) default) k:=fun x=>by
     rw [aDd,←hb];rfl
   by_cases h1:i < ns.length
   · have e:eV b ns (v15,v16,k,lo,hi,k,(i:Int))=.inl (v15,v16,k,fE lo (eS (l.getD (toNat (ns.getD i default)) default) k),bY hi (eS (l.getD (toNat (ns.getD i default)) default) k),k,((i+1:Nat):Int)):=by
       simp only [eV,hk,jM]
       rw [cN (by omega),cond_true];rfl
     have r:cM l ns (v15,v16,k,lo,hi,(i:Int))=.inl (v15,v16,k,fE lo (eS (l.getD (toNat (ns.getD i default)) default) k),bY hi (eS (l.getD (toNat (ns.getD i default)) default) k),((i+1:Nat):Int)):=by
       simp only [cM,jM]
       rw [cN (by omega),cond_true];rfl
     rw [aE e,aE r]
     exact aI9 hb n (i+1) _ _ _ _ (by omega)
   · have e:eV b ns (v15,v16,k,lo,hi,k,(i:Int))=.inr (aUo b (bif (decide (((W (hi - lo)):Int) > v16)) then .inl (k,(W (hi - lo)),k+1) else .inl (v15,v16,k+1))):=by
       simp only [eV]
       rw [dQ (by omega),cond_false]
       cases decide (((W (hi - lo)):Int) > v16)<;>rfl
     have r:cM l ns (v15,v16,k,lo,hi,(i:Int))=.inr (bif (decide (((W (hi - lo)):Int) > v16)) then .inl (k,(W (hi - lo)),k+1) else .inl (v15,v16,k+1)):=by
       simp only [cM]
       rw [dQ (by omega),cond_false]
       cases decide (((W (hi - lo)):Int) > v16)<;>rfl
     rw [aY e,aY r]
theorem aJa {b:BU} (hb:b.1=l)(h1:1<=ns.length):∀(n:Nat) (v12 v13 k:Int),toNat (3 - k) < n ->
   aC (gF b ns) n (v12,v13,k)=(b,aC (eC l ns) n (v12,v13,k))
 | 0,_,_,_,h=>absurd h (eP _)
 | n+1,v12,v13,k,h=>by
   have hk:∀x:Int,fX (b.1,b.2.1,(b.2.2.1,b.2.2.2)) x k=eS (l.getD (toNat x) default) k:=fun x=>by
     rw [aDd,←hb];rfl
   by_cases h3:k < 3
   · generalize hK:eS (l.getD (toNat (ns.getD (toNat 0) default)) default) k=K
     have e0:gF b ns (v12,v13,k)=aC (eV b ns) (toNat ((ns.length:Int) - 0)+1) (v12,v13,k,K,K,k,((0:Nat):Int)):=by
       simp only [gF,hk,hK]
       rw [cN h3,cond_true];rfl
     have r0:eC l ns (v12,v13,k)=aC (cM l ns) (toNat ((ns.length:Int) - 1)+1) (v12,v13,k,K,K,((1:Nat):Int)):=by
       simp only [eC,hK]
       rw [cN h3,cond_true];rfl
     have f0:toNat ((ns.length:Int) - 0)+1=(toNat ((ns.length:Int) - 1)+1)+1:=by omega
     have e1:eV b ns (v12,v13,k,K,K,k,((0:Nat):Int))=.inl (v12,v13,k,K,K,k,((1:Nat):Int)):=by
       simp only [eV,hk,jM]
       rw [show(toNat 0)=0 from rfl] at hK
       rw [cN (by omega),cond_true,hK,if_neg (by omega)];rfl
     rw [f0,aE e1,aI9 hb _ 1 _ _ _ _ (by omega),←r0] at e0
     -- what a round brings
     have hr:∃x y,eC l ns (v12,v13,k)=.inl (x,y,k+1):=by
       rw [r0]
       have gen:∀(m i:Nat) (lo hi:Int),ns.length - i < m->∃x y,aC (cM l ns) m (v12,v13,k,lo,hi,(i:Int))=.inl (x,y,k+1):=by
         intro m
         induction m with
         | zero=>intro _ _ _ h;exact absurd h (eP _)
         | succ m ih =>
           intro i lo hi hm
           by_cases hi1:i < ns.length
           · have r:cM l ns (v12,v13,k,lo,hi,(i:Int))=.inl (v12,v13,k,fE lo (eS (l.getD (toNat (ns.getD i default)) default) k),bY hi (eS (l.getD (toNat (ns.getD i default)) default) k),((i+1:Nat):Int)):=by
               simp only [cM,jM]
               rw [cN (by omega),cond_true];rfl
             rw [aE r]
             exact ih (i+1) _ _ (by omega)
           · have r:cM l ns (v12,v13,k,lo,hi,(i:Int))=.inr (bif (decide (((W (hi - lo)):Int) > v13)) then .inl (k,(W (hi - lo)),k+1) else .inl (v12,v13,k+1)):=by
               simp only [cM]
               rw [dQ (by omega),cond_false]
               cases decide (((W (hi - lo)):Int) > v13)<;>rfl
             rw [aY r]
             cases decide (((W (hi - lo)):Int) > v13)
             · exact⟨_,_,rfl⟩
             · exact⟨_,_,rfl⟩
       exact gen _ 1 K K (by omega)
     obtain⟨x,y,hr⟩:=hr
     rw [hr] at e0
     rw [aE (show _=Sum.inl (x,y,k+1) from e0),aE hr]
     exact aJa hb h1 n _ _ (k+1) (by omega)
   · have e:gF b ns (v12,v13,k)=.inr (b,v12):=by
       simp only [gF]
       rw [dQ h3,cond_false]
     have r:eC l ns (v12,v13,k)=.inr v12:=by
       simp only [eC]
       rw [dQ h3,cond_false]
     rw [aY e,aY r]
theorem aR3 {b:BU} (hb:b.1=l)(h1:1<=ns.length):aE8 b ns=(b,aD l ns) :=
 aJa hb h1 _ _ _ _ (by omega)
end
end Go.Proofs.YtmihafgemmgepaaGreat
namespace Go.Proofs.YtmihafgemmgepaaGreat
open Go.Proofs Go.Aw Go.RowKit
set_option maxRecDepth 100000
abbrev NDE:=Int×Int×Int×Int×Zt×Int
def aPc (l:eW)(ns:List Int):Zt:=(aK l ns 0,aK l ns 1,aK l ns 2)
def ndR (l:eW)(ns:List Int)(fr lt rt:Int):NDE:=(fr,fr+ns.length,lt,rt,aPc l ns,(nJ (fT l ns) (aPc l ns)).1)
def GT (l:eW)(leaf:Int):Nat->List Int->Int->Int->List Int×List NDE
 | 0,_,_,_=>([],[])
 | n+1,ns,fr,at_ =>
   if(ns.length:Int)<=leaf then(ns,[ndR l ns fr (-1) (-1)]) else
     let s:=nK l (aD l ns) ns
     let h:=(ns.length+1) / 2
     let a:=GT l leaf n (s.take h) fr (at_+1)
     let b:=GT l leaf n (s.drop h) (fr+h) (at_+1+a.2.length)
     (a.1++b.1,ndR l ns fr (at_+1) (at_+1+a.2.length)::(a.2++b.2))
theorem lJ {l:eW} {leaf:Int} {n:Nat} {ns:List Int} {fr a:Int} (h:(ns.length:Int)<=leaf):GT l leaf (n+1) ns fr a=(ns,[ndR l ns fr (-1) (-1)]):=by
 rw [GT,if_pos h]
theorem lK {l:eW} {leaf:Int} {n:Nat} {ns:List Int} {fr a:Int} (h:¬(ns.length:Int)<=leaf):GT l leaf (n+1) ns fr a =
   ((GT l leaf n ((nK l (aD l ns) ns).take ((ns.length+1) / 2)) fr (a+1)).1++(GT l leaf n ((nK l (aD l ns) ns).drop ((ns.length+1) / 2)) (fr+((ns.length+1) / 2:Nat)) (a+1+(GT l leaf n ((nK l (aD l ns) ns).take ((ns.length+1) / 2)) fr (a+1)).2.length)).1,
     ndR l ns fr (a+1) (a+1+(GT l leaf n ((nK l (aD l ns) ns).take ((ns.length+1) / 2)) fr (a+1)).2.length)::((GT l leaf n ((nK l (aD l ns) ns).take ((ns.length+1) / 2)) fr (a+1)).2++(GT l leaf n ((nK l (aD l ns) ns).drop ((ns.length+1) / 2)) (fr+((ns.length+1) / 2:Nat)) (a+1+(GT l leaf n ((nK l (aD l ns) ns).take ((ns.length+1) / 2)) fr (a+1)).2.length)).2)):=by
 rw [GT,if_neg h]
theorem aM9 {α:Type} (pre post:List α)(x y:α):(pre++x::post).set pre.length y=pre++y::post:=by
 rw [List.set_append_right _ _ (Nat.le_refl _),Nat.sub_self];rfl
theorem aJb {α:Type} [Inhabited α] (pre post:List α)(x:α):(pre++x::post).getD pre.length default=x:=by
 rw [eQ,List.getElem?_append_right (Nat.le_refl _),Nat.sub_self];rfl
theorem aQa {s:List Int} {h:Nat}:Aw.part s 0 (h:Int)=s.take h:=by unfold Aw.part;simp
theorem aUp {s:List Int} {h:Nat}:Aw.part s (h:Int) (s.length:Int)=s.drop h:=by
 unfold Aw.part
 rw [jM,jM]
 exact List.take_of_length_le (by rw [List.length_drop];exact Nat.le_refl _)
theorem aDj:∀(nr:Nat) (l:eW) (t:TR) (ns:List Int) (leaf:Int),PGRW l t ns leaf->ns.length < nr ->
   aA nr l t ns leaf=(t.1++(GT l leaf nr ns t.1.length t.2.length).1,t.2++(GT l leaf nr ns t.1.length t.2.length).2)
 | 0,_,_,_,_,_,h=>absurd h (eP _)
 | nr+1,l,t,ns,leaf,hp,hn=>by
   have h:=hp.rng;have hl:=hp.lf;have hnd:=hp.nds
   simp only [aA]
   have hW:W ((t.1.length:Int)+(ns.length:Int))=(t.1.length:Int)+ns.length:=aJ (by omega) (by omega)
   by_cases h0:(ns.length:Int)<=leaf
   · rw [cN h0,cond_true,lJ h0,hW]
     rfl
   · rw [dQ h0,cond_false,lK h0]
     have g2:2<=ns.length:=by omega
     have hs:=pV hp (aD l ns)
     have hf:=pU (n:=ns.length) (by omega)
     have hso:=aM5 (l:=l) (k:=aD l ns) (ns:=ns) (by omega)
     have hsl:=lI l (aD l ns) ns
     have hpt1:=part_len (l:=aH l ns (aD l ns)) (a:=0) (b:=(((ns.length+1) / 2:Nat):Int)) (by omega)
     have hpt2:=part_len (l:=aH l ns (aD l ns)) (a:=(((ns.length+1) / 2:Nat):Int)) (b:=(ns.length:Int)) (by omega)
     have h5:GRR _ (aV (aA nr) l t ns leaf) _:=bH nr _ _ _ _ (cV hp _ g2) (by rw [hs.1,hf,hpt1];omega)
     have h5o:=h5.ol
     rw [hs.1,hf,hpt1] at h5o
     dsimp only at h5o
     have e2:aV (aA nr) l t ns leaf=_:=aDj nr _ _ _ _ (cV hp _ g2) (by rw [hs.1,hf,hpt1];omega)
     have e3:aB (aA nr) l t ns leaf=_:=aDj nr _ _ _ _ (dE hp _ g2 h5) (by rw [hs.1,hf,hpt2];omega)
     have hf':W (Int.tdiv (W ((((nK l (aD l ns) ns).length:Nat):Int)+1)) 2)=(((ns.length+1) / 2:Nat):Int):=by rw [hsl];exact hf
     rw [hso,hf',aQa] at e2
     rw [hso,hf',aUp] at e3
     rw [e2] at h5o e3
     simp only [List.length_append,List.length_cons,List.length_nil,Nat.zero_add,Int.natCast_add,Int.natCast_one] at e2 e3 h5o
     have ho1:(GT l leaf nr ((nK l (aD l ns) ns).take ((ns.length+1) / 2)) t.1.length (t.2.length+1)).1.length=(ns.length+1) / 2:=by omega
     rw [ho1] at e3
     rw [e3,e2]
     simp only [jM,List.append_assoc,List.cons_append,List.nil_append,aM9,aJb,hW,List.length_append,List.length_cons,Int.natCast_add,Int.natCast_one]
     rw [show(t.2.length:Int)+((GT l leaf nr ((nK l (aD l ns) ns).take ((ns.length+1) / 2)) t.1.length (t.2.length+1)).2.length+1)=t.2.length+1+(GT l leaf nr ((nK l (aD l ns) ns).take ((ns.length+1) / 2)) t.1.length (t.2.length+1)).2.length by omega]
     rfl
theorem zU (l:eW) {leaf:Int} (hl:1<=leaf):∀(n:Nat) (ns:List Int) (fr a:Int),ns.length < n->(GT l leaf n ns fr a).1.length=ns.length
 | 0,_,_,_,h=>absurd h (eP _)
 | n+1,ns,fr,a,h=>by
   by_cases h0:(ns.length:Int)<=leaf
   · rw [lJ h0]
   · rw [lK h0]
     have hsl:=lI l (aD l ns) ns
     simp only [List.length_append]
     rw [zU l hl n _ _ _ (by rw [List.length_take,hsl];omega),zU l hl n _ _ _ (by rw [List.length_drop,hsl];omega),List.length_take,List.length_drop,hsl]
     omega
theorem aJc (pre s post:List Int) {i k:Int} (h:Nat)(hi:i=pre.length)(hk:k=i+h)(hh:h<=s.length):Aw.part (pre++(s++post)) i k=s.take h:=by
 unfold Aw.part
 rw [hk,hi,show((pre.length:Int)+(h:Int)).toNat=pre.length+h by omega,jM,List.drop_append_of_le_length (Nat.le_refl _),List.drop_length,List.nil_append,show pre.length+h - pre.length=h by omega,List.take_append_of_le_length hh]
theorem aG5:∀(nr:Nat) (b:BU) (i k:Int),PADD b i k->VCH b.1->toNat (k - i) < nr ->
   bP nr b i k=((b.2.2.2.length:Int),b.1,b.2.1,b.2.2.1.take i.toNat++((GT b.1 b.2.1 nr (Aw.part b.2.2.1 i k) i b.2.2.2.length).1++b.2.2.1.drop k.toNat),b.2.2.2++(GT b.1 b.2.1 nr (Aw.part b.2.2.1 i k) i b.2.2.2.length).2)
 | 0,_,_,_,_,_,h=>absurd h (eP _)
 | nr+1,b,i,k,hp,hv,hn=>by
   have h:=hp.rng;have hn2:=hp.nds;have hl:=hp.lf
   have hW:W (k - i)=k - i:=aJ (by omega) (by omega)
   have hpl:=part_len (l:=b.2.2.1) (a:=i) (b:=k) (by omega)
   have hir:=hp.inr.part i k
   have hcen:cU (cQ b i k)=aPc b.1 (Aw.part b.2.2.1 i k):=aR1 hv hir (by rw [hpl];omega) (by rw [hpl];omega)
   have hrad:(fL b i k).1=(nJ (fT b.1 (Aw.part b.2.2.1 i k)) (aPc b.1 (Aw.part b.2.2.1 i k))).1:=by
     unfold fL
     rw [hcen,aR2 _ ⟨aG4 hv hir 0,aG4 hv hir 1,aG4 hv hir 2⟩]
     rfl
   have hnd:∀x y,((i,k,x,y,cU (cQ b i k),(fL b i k).1):NDE)=ndR b.1 (Aw.part b.2.2.1 i k) i x y:=fun x y=>by
     unfold ndR
     rw [hcen,hrad,hpl,show i+((toNat k - toNat i:Nat):Int)=k by omega]
   simp only [bP]
   by_cases h0:W (k - i) > b.2.1
   · rw [cN h0,cond_true,lK (by rw [hpl];omega)]
     have h2:2<=k - i:=by omega
     have hm:=zN ⟨h.1,h.2.1,by omega⟩
     have hax:(aFa b i k).2=aD b.1 (Aw.part b.2.2.1 i k):=by
       unfold aFa
       exact congrArg Prod.snd (aR3 (l:=b.1) (b:=(b.1,b.2.1,b.2.2.1,b.2.2.2++[(i,k,(-1),(-1),(cU (cQ b i k)),(fL b i k).1)])) rfl (by rw [hpl];omega))
     have hor:wB b i k=b.2.2.1.take i.toNat++(nK b.1 (aD b.1 (Aw.part b.2.2.1 i k)) (Aw.part b.2.2.1 i k)++b.2.2.1.drop k.toNat):=by
       unfold wB
       rw [aRy (by omega) (by have:=hp.sm;omega),hax,List.append_assoc,show i.toNat+(k.toNat - i.toNat)=k.toNat by omega]
       rfl
     have h5:ADDR _ (dO (bP nr) b i k).2 i _:=jX nr _ _ _ (aFb hp h2) (by rw [hm];omega)
     have e5:dO (bP nr) b i k=_:=aG5 nr _ _ _ (aFb hp h2) hv (by rw [hm];omega)
     have e6:aR (bP nr) b i k=_:=aG5 nr _ _ _ (aG0 hp (nI hp).1 h2 h5) hv (by rw [hm];omega)
     have hsl:=lI b.1 (aD b.1 (Aw.part b.2.2.1 i k)) (Aw.part b.2.2.1 i k)
     rw [hm,hnd] at e5
     generalize hs:nK b.1 (aD b.1 (Aw.part b.2.2.1 i k)) (Aw.part b.2.2.1 i k)=s at hor hsl e5 e6 ⊢
     generalize hh:((Aw.part b.2.2.1 i k).length+1) / 2=hf at e5 e6 ⊢
     have hfe:(i+(k - i+1) / 2)=i+(hf:Int):=by rw [←hh,hpl];omega
     have hsn:s.length=(k - i).toNat:=by rw [hsl,hpl];omega
     have hfs:hf<=s.length:=by rw [←hh,hpl,hsn];omega
     have htk:(b.2.2.1.take i.toNat).length=i.toNat:=by rw [List.length_take];omega
     dsimp only at e5
     have d1:(b.2.2.1.take i.toNat++(s++b.2.2.1.drop k.toNat)).take i.toNat=b.2.2.1.take i.toNat:=by
       rw [List.take_append_of_le_length (by rw [htk];exact Nat.le_refl _),List.take_of_length_le (by rw [htk];exact Nat.le_refl _)]
     have d2:(b.2.2.1.take i.toNat++(s++b.2.2.1.drop k.toNat)).drop (i+(hf:Int)).toNat=s.drop hf++b.2.2.1.drop k.toNat:=by
       rw [List.drop_append,List.drop_of_length_le (by rw [htk];omega),List.nil_append,htk,show(i+(hf:Int)).toNat - i.toNat=hf by omega,List.drop_append_of_le_length hfs]
     have g1:=zU b.1 hl nr (s.take hf) i (((b.2.2.2++[ndR b.1 (Aw.part b.2.2.1 i k) i (-1) (-1)]).length:Nat):Int) (by rw [List.length_take,hsn];have:=hn;rw [←hh,hpl];omega)
     have g2:=zU b.1 hl nr (s.drop hf) (i+(hf:Int)) ((((b.2.2.2++[ndR b.1 (Aw.part b.2.2.1 i k) i (-1) (-1)])++(GT b.1 b.2.1 nr (s.take hf) i (((b.2.2.2++[ndR b.1 (Aw.part b.2.2.1 i k) i (-1) (-1)]).length:Nat):Int)).2).length:Nat):Int) (by rw [List.length_drop,hsn];have:=hn;rw [←hh,hpl];omega)
     rw [hor,hfe,aJc (b.2.2.1.take i.toNat) s (b.2.2.1.drop k.toNat) hf (by rw [htk];omega) rfl hfs,d1,d2] at e5
     rw [e5,hm,hfe] at e6
     dsimp only at e6
     rw [←List.append_assoc (List.take i.toNat b.2.2.1)] at e6
     have hl1:(b.2.2.1.take i.toNat++(GT b.1 b.2.1 nr (s.take hf) i (((b.2.2.2++[ndR b.1 (Aw.part b.2.2.1 i k) i (-1) (-1)]).length:Nat):Int)).1).length=i.toNat+hf:=by
       rw [List.length_append,htk,g1,List.length_take];omega
     rw [aJc _ (s.drop hf) (b.2.2.1.drop k.toNat) (s.drop hf).length (by rw [hl1];omega) (by rw [List.length_drop,hsn];omega) (Nat.le_refl _),List.take_length] at e6
     have d3:∀x y z:List Int,x.length=i.toNat+hf->(x++(y++z)).take (i+(hf:Int)).toNat=x:=fun x y z hx=>by
       rw [show(i+(hf:Int)).toNat=x.length by omega,List.take_append_of_le_length (Nat.le_refl _),List.take_length]
     have d4:∀x y z:List Int,x.length=i.toNat+hf->y.length=s.length - hf->(x++(y++z)).drop k.toNat=z:=fun x y z hx hy=>by
       rw [←List.append_assoc,show k.toNat=(x++y).length by rw [List.length_append,hx,hy,hsn];omega,List.drop_append_of_le_length (Nat.le_refl _),List.drop_length,List.nil_append]
     rw [d3 _ _ _ hl1,d4 _ _ _ hl1 (by rw [List.length_drop])] at e6
     rw [e6,e5]
     simp only [jM,List.append_assoc,List.cons_append,List.nil_append,aM9,aJb,List.length_append,List.length_cons,List.length_nil,Nat.zero_add,Int.natCast_add,Int.natCast_one]
     rw [show(b.2.2.2.length:Int)+((GT b.1 b.2.1 nr (s.take hf) i ((b.2.2.2.length:Int)+1)).2.length+1)=b.2.2.2.length+1+(GT b.1 b.2.1 nr (s.take hf) i ((b.2.2.2.length:Int)+1)).2.length by omega]
     rfl
   · rw [dQ h0,cond_false,lJ (by rw [hpl];omega),hnd]
     dsimp only
     rw [←List.append_assoc,List.append_assoc]
     have:b.2.2.1.take i.toNat++(Aw.part b.2.2.1 i k++b.2.2.1.drop k.toNat)=b.2.2.1:=by
       unfold Aw.part
       have e:b.2.2.1.drop k.toNat=(b.2.2.1.drop i.toNat).drop (k.toNat - i.toNat):=by rw [List.drop_drop,show i.toNat+(k.toNat - i.toNat)=k.toNat by omega]
       rw [e,List.take_append_drop,List.take_append_drop]
     rw [this]
theorem aUq (l:eW)(t:TR)(ns:List Int)(leaf:Int)(hp:PGRW l ([],[]) ns leaf):fC l t ns leaf=dY l ([],[]) ns leaf:=by
 have h:=hp.rng;have hl:=hp.lf
 unfold fC dY
 simp only [eI,aA]
 by_cases h0:(ns.length:Int)<=leaf
 · rw [cN h0,cond_true,cond_true]
   rfl
 · rw [dQ h0,cond_false,cond_false]
   have g2:2<=ns.length:=by omega
   have hs:=pV hp (aD l ns)
   have hf:=pU (n:=ns.length) (by omega)
   have hpt1:=part_len (l:=aH l ns (aD l ns)) (a:=0) (b:=(((ns.length+1) / 2:Nat):Int)) (by omega)
   have hpt2:=part_len (l:=aH l ns (aD l ns)) (a:=(((ns.length+1) / 2:Nat):Int)) (b:=(ns.length:Int)) (by omega)
   have e2:A36_L_z11_L_2 l t ns leaf=aV (aA ns.length) l ([],[]) ns leaf:=by
     unfold A36_L_z11_L_2 aV hZ
     refine(aM6 _ l ([],_) _ leaf (cV (t:=([],[])) hp _ g2) (lss _)).trans ?_
     exact oD _ _ _ _ _ _ (cV hp _ g2) (lss _) (by rw [hs.1,hf,hpt1];omega)
   have h5:GRR _ (aV (aA ns.length) l ([],[]) ns leaf) _:=bH _ _ _ _ _ (cV hp _ g2) (by rw [hs.1,hf,hpt1];omega)
   have e3:A36_L_z11_L_3 l t ns leaf=aB (aA ns.length) l ([],[]) ns leaf:=by
     unfold A36_L_z11_L_3 aB dY
     rw [e2]
     exact oD _ _ _ _ _ _ (dE hp _ g2 h5) (lss _) (by rw [hs.1,hf,hpt2];omega)
   rw [e3,e2]
   rfl
def jJ (n:Nat):List Int:=(List.range n).map (fun i:Nat=>(i:Int))
theorem dZ (n:Nat):(jJ n).length=n:=by simp [jJ]
theorem aBf (n:Nat):jJ (n+1)=jJ n++[(n:Int)]:=by simp [jJ,List.range_succ]
theorem zV (n:Nat):InR n (jJ n):=fun x hx=>by
 simp only [jJ,List.mem_map,List.mem_range] at hx
 obtain⟨i,hi,rfl⟩:=hx
 omega
def BT (l:eW)(leaf:Int):List Int×List NDE:=if l.length=0 then([],[]) else GT l leaf (l.length+1) (jJ l.length) 0 0
theorem aKv {l:eW} (h:1<=l.length)(hl:l.length<=96) {leaf:Int} (hf:1<=leaf):PGRW l ([],[]) (jJ l.length) leaf :=
 ⟨zV _,by rw [dZ];simp only [List.length_nil];omega,by rw [dZ];simp only [List.length_nil];omega,hf⟩
theorem aDk (l:eW)(hl:l.length<=96) {leaf:Int} (hf:1<=leaf):iF l leaf=BT l leaf:=by
 have lp:∀(n i:Nat),l.length - i < n->i<=l.length->aC (fJ l leaf) n (jJ i,(i:Int))=BT l leaf:=by
   intro n
   induction n with
   | zero=>intro i h;exact absurd h (eP _)
   | succ n ih =>
     intro i h hi
     by_cases h1:i < l.length
     · have e:fJ l leaf (jJ i,(i:Int))=.inl (jJ (i+1),((i+1:Nat):Int)):=by
         simp only [fJ]
         rw [cN (by omega),cond_true,aBf];rfl
       rw [aE e]
       exact ih (i+1) (by omega) (by omega)
     · obtain rfl:i=l.length:=by omega
       refine aY ?_
       simp only [fJ]
       rw [dQ (by omega),cond_false]
       unfold BT
       by_cases h0:l.length=0
       · rw [if_pos h0,show(((l.length:Int):Int) == 0)=true by simp [h0],cond_true]
       · have hp:=aKv (l:=l) (by omega) hl hf
         rw [if_neg h0,show(((l.length:Int):Int) == 0)=false by rw [beq_eq_false_iff_ne];omega,cond_false,aUq _ _ _ _ hp]
         unfold dY
         rw [aDj _ _ _ _ _ hp (lss _),dZ]
         rfl
 exact lp (toNat ((l.length:Int) - 0)+1) 0 (by omega) (Nat.zero_le _)
theorem aNa (l:eW) [dR l] (hv:VCH l) {leaf:Int} (hf:1<=leaf):jI l leaf=BT l leaf:=by
 have hl:=hv.1
 have hs:=aG2 hl
 have lp:∀(n i:Nat),l.length - i < n->i<=l.length->aC (fI l leaf) n (jJ i,([]:List NDE),(i:Int))=BT l leaf:=by
   intro n
   induction n with
   | zero=>intro i h;exact absurd h (eP _)
   | succ n ih =>
     intro i h hi
     by_cases h1:i < l.length
     · have e:fI l leaf (jJ i,([]:List NDE),(i:Int))=.inl (jJ (i+1),([]:List NDE),((i+1:Nat):Int)):=by
         simp only [fI]
         rw [cN (by omega),cond_true,aBf];rfl
       rw [aE e]
       exact ih (i+1) (by omega) (by omega)
     · obtain rfl:i=l.length:=by omega
       refine aY ?_
       simp only [fI]
       rw [dQ (by omega),cond_false]
       unfold BT
       by_cases h0:l.length=0
       · rw [if_pos h0,dQ (by omega),cond_false]
         have:jJ l.length=[]:=by rw [h0];simp [jJ]
         rw [this]
       · have hp:PADD (l,leaf,(jJ l.length,([]:List NDE))) 0 (l.length:Int):=⟨zV _,by dsimp only;rw [dZ];omega,by dsimp only;simp only [List.length_nil];omega,hf,by omega⟩
         rw [if_neg h0,cN (by omega),cond_true]
         unfold F60
         rw [aG5 _ _ _ _ hp hv (lss _)]
         dsimp only
         have hpt:Aw.part (jJ l.length) 0 (l.length:Int)=jJ l.length:=by rw [aQa,List.take_of_length_le (by rw [dZ];exact Nat.le_refl _)]
         have hsub:toNat ((l.length:Int) - 0)=l.length:=by omega
         rw [hpt,hsub,jM,List.drop_of_length_le (by rw [dZ];exact Nat.le_refl _),List.append_nil]
         rfl
 exact lp (toNat ((l.length:Int) - 0)+1) 0 (by omega) (Nat.zero_le _)
theorem aG6 (l:eW) {leaf:Int} (hl:1<=leaf):∀(n:Nat) (ns:List Int) (fr a:Int),ns.length < n->1<=ns.length->(GT l leaf n ns fr a).2.length+1<=2*ns.length
 | 0,_,_,_,h,_=>absurd h (eP _)
 | n+1,ns,fr,a,h,h1=>by
   by_cases h0:(ns.length:Int)<=leaf
   · rw [lJ h0];simp only [List.length_cons,List.length_nil];omega
   · rw [lK h0]
     have hsl:=lI l (aD l ns) ns
     have g1:=aG6 l hl n ((nK l (aD l ns) ns).take ((ns.length+1) / 2)) fr (a+1) (by rw [List.length_take,hsl];omega) (by rw [List.length_take,hsl];omega)
     have g2:=aG6 l hl n ((nK l (aD l ns) ns).drop ((ns.length+1) / 2)) (fr+((ns.length+1) / 2:Nat)) (a+1+(GT l leaf n ((nK l (aD l ns) ns).take ((ns.length+1) / 2)) fr (a+1)).2.length) (by rw [List.length_drop,hsl];omega) (by rw [List.length_drop,hsl];omega)
     rw [List.length_take,hsl] at g1
     rw [List.length_drop,hsl] at g2
     simp only [List.length_cons,List.length_append]
     omega
theorem qZ (l:eW)(hl:l.length<=96) {leaf:Int} (hf:1<=leaf):(BT l leaf).1.length=l.length/\(BT l leaf).2.length<=192:=by
 unfold BT
 by_cases h0:l.length=0
 · rw [if_pos h0,h0];exact⟨rfl,Nat.zero_le _⟩
 · rw [if_neg h0]
   have g1:=zU l hf (l.length+1) (jJ l.length) 0 0 (by rw [dZ];omega)
   have g2:=aG6 l hf (l.length+1) (jJ l.length) 0 0 (by rw [dZ];omega) (by rw [dZ];omega)
   rw [dZ] at g1 g2
   exact⟨g1,by omega⟩
theorem aG7 (l:eW)(leaf:Int):(aG l leaf).1.1.length<=96/\(aG l leaf).1.2.length<=192:=by
 unfold aG
 cases h:((gI l:Int) != 0) with
 | true=>exact⟨Nat.zero_le _,Nat.zero_le _⟩
 | false =>
   have hl:=sZ (l:=l) (bne_eq_false_iff_eq.1 h)
   rw [cond_false]
   by_cases h1:leaf < 1
   · rw [cN h1];exact⟨Nat.zero_le _,Nat.zero_le _⟩
   · rw [dQ h1,cond_false]
     by_cases h2:leaf > 16
     · rw [cN h2];exact⟨Nat.zero_le _,Nat.zero_le _⟩
     · rw [dQ h2,cond_false,aDk l hl (by omega)]
       have:=qZ l hl (leaf:=leaf) (by omega)
       exact⟨by dsimp only;omega,this.2⟩
theorem aG8 {S:Int->Int⊕Bool} {N:Nat} (h1:∀i:Nat,i < N->S (i:Int)=.inl ((i+1:Nat):Int))(h2:S (N:Int)=.inr true):∀(d i n:Nat),d=N - i->i<=N->d < n->aC S n (i:Int)=true
 | 0,i,n,hd,hi,hn=>by
   obtain⟨n,rfl⟩:∃m,n=m+1:=⟨n - 1,by omega⟩
   have:i=N:=by omega
   subst this
   exact aY h2
 | d+1,i,n,hd,hi,hn=>by
   obtain⟨n,rfl⟩:∃m,n=m+1:=⟨n - 1,by omega⟩
   rw [aE (h1 i (by omega))]
   exact aG8 h1 h2 d (i+1) n (by omega) (by omega) (by omega)
theorem aKw (l:List Int):fU l l=true:=by
 unfold fU
 rw [show(((l.length:Int):Int) != (l.length:Int))=false by simp,cond_false]
 refine aG8 (N:=l.length) (fun i hi=>?_) ?_ l.length 0 _ (by omega) (by omega) (by omega)
 · simp only [eY]
   rw [cN (show((i:Nat):Int) < (l.length:Nat) by omega),cond_true]
   simp
 · simp only [eY]
   rw [dQ (Int.lt_irrefl _),cond_false]
theorem zW (t:TR):F9 t t=true:=by
 unfold F9
 simp only [aKw]
 rw [show(((t.2.length:Int):Int) != (t.2.length:Int))=false by simp]
 refine aG8 (N:=t.2.length) (fun i hi=>?_) ?_ t.2.length 0 _ (by omega) (by omega) (by omega)
 · simp only [zT]
   rw [cN (show((i:Nat):Int) < (t.2.length:Nat) by omega),cond_true]
   simp
 · simp only [zT]
   rw [dQ (Int.lt_irrefl _),cond_false]
theorem aPd {l:eW} [dR l] {leaf:Int} (h:gH l=0)(hf:1<=leaf):(jI l leaf).1.length<=96/\(jI l leaf).2.length<=192:=by
 have hv:=aG3 h
 rw [aNa l hv hf]
 have:=qZ l hv.1 hf
 have:=hv.1
 omega
theorem aPe {l:eW} {leaf:Int} (h:gI l=0)(hf:1<=leaf):(iF l leaf).1.length<=96/\(iF l leaf).2.length<=192:=by
 have hl:=sZ h
 rw [aDk l hl hf]
 have:=qZ l hl hf
 omega
noncomputable def rA:Code:=(aI [1,1,0,1] [] (aL Tryz.f102) []).1
noncomputable def rB:List K:=(aI [1,1,0,1] [] (aL Tryz.f102) []).2
def oE (a0:List (Int))(a1:List (Int))(v1:Int):LS:=⟨iM 26 [(0,(.s 0 0 a0.length 1)),(1,(.s 1 0 a1.length 1)),(12,(iv (a0.length:Int))),(13,(iv v1))],[(.live false true (flat c3 a0)),(.live false true (flat c3 a1))]⟩
def fY (a0:List (Int))(a1:List (Int)):Int->(Int)⊕(Bool)
 | v1 =>
  (bif (decide ((v1:Int) < (a0.length:Int))) then
   (bif (((a0.getD (toNat v1) default):Int) != (a1.getD (toNat v1) default)) then
    (.inr false)
   else
    (.inl (v1+1)))
  else
   (.inr true))
theorem aG9 (a0:List (Int))(a1:List (Int))(l0:a0.length<=9223372036854775807)(l1:a1.length<=9223372036854775807) {cx:Cx} (hcx:cx.base=2):∀(n:Nat) (v1:Int),(0<=v1)/\(a0.length=a1.length)->toNat ((a0.length:Int) - v1) < n->Aw.Good Tryz.prog none 9 (bodyPost Tryz.prog Tryz.f102 (RR cx (.v (.bool (aC (fY a0 a1) n v1))) [] [])) cx [] (.l rA n::rB) (oE a0 a1 v1):=by
 intro n
 induction n with
 | zero=>intro v1 hi hn;exact absurd hn (eP _)
 | succ n ih =>
   intro v1 hi hn
   refine aQ ?_
   cases h0:(decide ((v1:Int) < (a0.length:Int))) with
   | true =>
    have q0:=cA h0
    let t1:List (St Tryz.prog):=[.d h0,.i v1 (a0.length),.L aM a0 v1 0 1,.i v1 (a1.length),.L aM a1 v1 0 1]
    cases h1:(((a0.getD (toNat v1) default):Int) != (a1.getD (toNat v1) default)) with
    | true =>
     have q1:=bne_iff_ne.1 h1
     have e:=Eq.refl (fY a0 a1 v1);conv at e=>rhs;simp only [fY,h0,h1,aS]
     rw [aN,e]
     exact rt (t1++[.d h1]) [] [] hcx (by kernel_rfl)
    | false =>
     have q1:=bne_eq_false_iff_eq.1 h1
     have e:=Eq.refl (fY a0 a1 v1);conv at e=>rhs;simp only [fY,h0,h1,aS]
     rw [aE e]
     refine ba (t1++[.d h1]) [] [0,1,12,13] [] hcx (m:=n) rA (rB) (oE a0 a1 (W (v1+1))) (by kernel_rfl) ?_
     have z0:(W (v1+1))=(v1+1):=aJ (by omega) (by omega)
     rw [z0]
     exact ih (v1+1) (by refine⟨?_,?_⟩<;>(try simp only [Ls])<;>first | omega | assumption | simp) (by(try simp only [Ls]);omega)
   | false =>
    have q0:=cH h0
    have e:=Eq.refl (fY a0 a1 v1);conv at e=>rhs;simp only [fY,h0,aS]
    rw [aN,e]
    exact rt [.d h0] [] [] hcx (by kernel_rfl)
def jK (a0:List (Int))(a1:List (Int)):Bool :=
 (bif (((a0.length:Int):Int) != (a1.length:Int)) then
  false
 else
  (aC (fY a0 a1) (toNat ((a0.length:Int) - 0)+1) 0))
theorem aNb (a0:List (Int))(a1:List (Int))(l0:a0.length<=9223372036854775807)(l1:a1.length<=9223372036854775807):Con Tryz.prog 102 [(.s 0 0 a0.length 1),(.s 1 0 a1.length 1)] [(.live false true (flat c3 a0)),(.live false true (flat c3 a1))] (.v (.bool (jK a0 a1))) []:=by
 refine aO Tryz.func102 (by kernel_rfl) fun cx hcx=>?_
 cases h0:(((a0.length:Int):Int) != (a1.length:Int)) with
 | true =>
  have q0:=bne_iff_ne.1 h0
  have e:=Eq.refl (jK a0 a1);conv at e=>rhs;simp only [jK,h0,aS]
  rw [e]
  exact rt [.d h0] [] [] hcx (by kernel_rfl)
 | false =>
  have q0:=bne_eq_false_iff_eq.1 h0
  have e:=Eq.refl (jK a0 a1);conv at e=>rhs;simp only [jK,h0,aS]
  rw [e]
  refine en [.d h0] [] [0,1,12,13] [] hcx rA (rB) (oE a0 a1 0) (toNat ((a0.length:Int) - 0)+1) (by kernel_rfl) ?_
  exact aG9 a0 a1 l0 l1 hcx (toNat ((a0.length:Int) - 0)+1) 0 (by refine⟨?_,?_⟩<;>(try simp only [Ls])<;>first | omega | assumption | simp) (by(try simp only [Ls]);omega)
noncomputable def rC:Code:=(aI [1,1,0,1] [] (aL Tryz.f103) []).1
noncomputable def rD:List K:=(aI [1,1,0,1] [] (aL Tryz.f103) []).2
def oF (a0:bE)(a1:bE)(v1:Int):LS:=⟨iM 26 [(0,(.s 0 0 a0.length 8)),(1,(.s 1 0 a1.length 8)),(12,(iv (a0.length:Int))),(13,(iv v1))],[(.live false true (flat bT a0)),(.live false true (flat bT a1))]⟩
def fZ (a0:bE)(a1:bE):Int->(Int)⊕(Bool)
 | v1 =>
  (bif (decide ((v1:Int) < (a0.length:Int))) then
   (bif (!((((a0.getD (toNat v1) default).1:Int) == (a1.getD (toNat v1) default).1)&&((((a0.getD (toNat v1) default).2.1:Int) == (a1.getD (toNat v1) default).2.1)&&((((a0.getD (toNat v1) default).2.2.1:Int) == (a1.getD (toNat v1) default).2.2.1)&&((((a0.getD (toNat v1) default).2.2.2.1:Int) == (a1.getD (toNat v1) default).2.2.2.1)&&(((((a0.getD (toNat v1) default).2.2.2.2.1.1:Int) == (a1.getD (toNat v1) default).2.2.2.2.1.1)&&((((a0.getD (toNat v1) default).2.2.2.2.1.2.1:Int) == (a1.getD (toNat v1) default).2.2.2.2.1.2.1)&&((((a0.getD (toNat v1) default).2.2.2.2.1.2.2:Int) == (a1.getD (toNat v1) default).2.2.2.2.1.2.2)&&true)))&&((((a0.getD (toNat v1) default).2.2.2.2.2:Int) == (a1.getD (toNat v1) default).2.2.2.2.2)&&true))))))) then
    (.inr false)
   else
    (.inl (v1+1)))
  else
   (.inr true))
theorem aHa (a0:bE)(a1:bE)(l0:a0.length<=9223372036854775807)(l1:a1.length<=9223372036854775807) {cx:Cx} (hcx:cx.base=2):∀(n:Nat) (v1:Int),(0<=v1)/\(a0.length=a1.length)->toNat ((a0.length:Int) - v1) < n->Aw.Good Tryz.prog none 9 (bodyPost Tryz.prog Tryz.f103 (RR cx (.v (.bool (aC (fZ a0 a1) n v1))) [] [])) cx [] (.l rC n::rD) (oF a0 a1 v1):=by
 intro n
 induction n with
 | zero=>intro v1 hi hn;exact absurd hn (eP _)
 | succ n ih =>
   intro v1 hi hn
   refine aQ ?_
   cases h0:(decide ((v1:Int) < (a0.length:Int))) with
   | true =>
    have q0:=cA h0
    let t1:List (St Tryz.prog):=[.d h0,.i v1 (a0.length),.L bJ a0 v1 0 8,.i v1 (a1.length),.L bJ a1 v1 0 8]
    cases h1:(!((((a0.getD (toNat v1) default).1:Int) == (a1.getD (toNat v1) default).1)&&((((a0.getD (toNat v1) default).2.1:Int) == (a1.getD (toNat v1) default).2.1)&&((((a0.getD (toNat v1) default).2.2.1:Int) == (a1.getD (toNat v1) default).2.2.1)&&((((a0.getD (toNat v1) default).2.2.2.1:Int) == (a1.getD (toNat v1) default).2.2.2.1)&&(((((a0.getD (toNat v1) default).2.2.2.2.1.1:Int) == (a1.getD (toNat v1) default).2.2.2.2.1.1)&&((((a0.getD (toNat v1) default).2.2.2.2.1.2.1:Int) == (a1.getD (toNat v1) default).2.2.2.2.1.2.1)&&((((a0.getD (toNat v1) default).2.2.2.2.1.2.2:Int) == (a1.getD (toNat v1) default).2.2.2.2.1.2.2)&&true)))&&((((a0.getD (toNat v1) default).2.2.2.2.2:Int) == (a1.getD (toNat v1) default).2.2.2.2.2)&&true))))))) with
    | true =>
     have e:=Eq.refl (fZ a0 a1 v1);conv at e=>rhs;simp only [fZ,h0,h1,aS]
     rw [aN,e]
     exact rt (t1++[.d h1]) [] [] hcx (by kernel_rfl)
    | false =>
     have e:=Eq.refl (fZ a0 a1 v1);conv at e=>rhs;simp only [fZ,h0,h1,aS]
     rw [aE e]
     refine ba (t1++[.d h1]) [] [0,1,12,13] [] hcx (m:=n) rC (rD) (oF a0 a1 (W (v1+1))) (by kernel_rfl) ?_
     have z0:(W (v1+1))=(v1+1):=aJ (by omega) (by omega)
     rw [z0]
     exact ih (v1+1) (by refine⟨?_,?_⟩<;>(try simp only [Ls])<;>first | omega | assumption | simp) (by(try simp only [Ls]);omega)
   | false =>
    have q0:=cH h0
    have e:=Eq.refl (fZ a0 a1 v1);conv at e=>rhs;simp only [fZ,h0,aS]
    rw [aN,e]
    exact rt [.d h0] [] [] hcx (by kernel_rfl)
def mM (a0:bE)(a1:bE):Bool :=
 (bif (((a0.length:Int):Int) != (a1.length:Int)) then
  false
 else
  (aC (fZ a0 a1) (toNat ((a0.length:Int) - 0)+1) 0))
theorem aNc (a0:bE)(a1:bE)(l0:a0.length<=9223372036854775807)(l1:a1.length<=9223372036854775807):Con Tryz.prog 103 [(.s 0 0 a0.length 8),(.s 1 0 a1.length 8)] [(.live false true (flat bT a0)),(.live false true (flat bT a1))] (.v (.bool (mM a0 a1))) []:=by
 refine aO Tryz.func103 (by kernel_rfl) fun cx hcx=>?_
 cases h0:(((a0.length:Int):Int) != (a1.length:Int)) with
 | true =>
  have q0:=bne_iff_ne.1 h0
  have e:=Eq.refl (mM a0 a1);conv at e=>rhs;simp only [mM,h0,aS]
  rw [e]
  exact rt [.d h0] [] [] hcx (by kernel_rfl)
 | false =>
  have q0:=bne_eq_false_iff_eq.1 h0
  have e:=Eq.refl (mM a0 a1);conv at e=>rhs;simp only [mM,h0,aS]
  rw [e]
  refine en [.d h0] [] [0,1,12,13] [] hcx rC (rD) (oF a0 a1 0) (toNat ((a0.length:Int) - 0)+1) (by kernel_rfl) ?_
  exact aHa a0 a1 l0 l1 hcx (toNat ((a0.length:Int) - 0)+1) 0 (by refine⟨?_,?_⟩<;>(try simp only [Ls])<;>first | omega | assumption | simp) (by(try simp only [Ls]);omega)
def F68 (a0:List (Int)×bE)(a1:List (Int)×bE):Bool :=
 (bif (jK a0.1 a1.1) then
  (mM a0.2 a1.2)
 else
  false)
theorem C68 (a0:List (Int)×bE)(a1:List (Int)×bE)(l0_1:a0.1.length<=9223372036854775807)(l0_2:a0.2.length<=9223372036854775807)(l1_1:a1.1.length<=9223372036854775807)(l1_2:a1.2.length<=9223372036854775807):Con Tryz.prog 68 [(.a [(.s 0 0 a0.1.length 1),(.s 1 0 a0.2.length 8)]),(.a [(.s 2 0 a1.1.length 1),(.s 3 0 a1.2.length 8)])] [(.live false true (flat c3 a0.1)),(.live false true (flat bT a0.2)),(.live false true (flat c3 a1.1)),(.live false true (flat bT a1.2))] (.v (.bool (F68 a0 a1))) []:=by
 refine aO Tryz.func68 (by kernel_rfl) fun cx hcx=>?_
 let t0:List (St Tryz.prog):=[.c [0,2] (aNb a0.1 a1.1 (by omega) (by omega))]
 cases h0:(jK a0.1 a1.1) with
 | true =>
  have e:=Eq.refl (F68 a0 a1);conv at e=>rhs;simp only [F68,h0,aS]
  rw [e]
  exact rt (t0++[.d h0,.c [1,3] (aNc a0.2 a1.2 (by omega) (by omega))]) [] [] hcx (by kernel_rfl)
 | false =>
  have e:=Eq.refl (F68 a0 a1);conv at e=>rhs;simp only [F68,h0,aS]
  rw [e]
  exact rt (t0++[.d h0]) [] [] hcx (by kernel_rfl)
noncomputable def aDl:Code:=(aI [1,1,0,1] [] (aL Tryz.f37) []).1
noncomputable def aDm:List K:=(aI [1,1,0,1] [] (aL Tryz.f37) []).2
def zX (a0:bM)(a1:List (Int)×bE)(v1:Int):LS:=⟨iM 21 [(0,(.s 0 0 a0.length 10)),(3,(.p 3 0)),(6,(iv v1))],[(.live false true (flat eF a0)),(.live false true (flat c3 a1.1)),(.live false true (flat bT a1.2)),(.live true false [(.s 1 0 a1.1.length 1),(.s 2 0 a1.2.length 8)])]⟩
def iG (a0:bM)(a1:List (Int)×bE):Int->(Int)⊕(Int)
 | v1 =>
  (bif (decide ((v1:Int)<=16)) then
   (bif (F68 (a1.1,a1.2) ((jI a0 v1).1,(jI a0 v1).2)) then
    (.inr 0)
   else
    (.inl (v1+1)))
  else
   (.inr 1))
theorem aPf (a0:bM)(a1:List (Int)×bE)(l0:a0.length<=9223372036854775807)(l1_1:a1.1.length<=9223372036854775807)(l1_2:a1.2.length<=9223372036854775807) [h5:dR a0] {cx:Cx} (hcx:cx.base=3):∀(n:Nat) (v1:Int),(0<=v1)/\(gH a0=0)/\(1<=v1)->toNat (16 - v1+1) < n->Aw.Good Tryz.prog none 9 (bodyPost Tryz.prog Tryz.f37 (RR cx (iv (aC (iG a0 a1) n v1)) [] [])) cx [] (.l aDl n::aDm) (zX a0 a1 v1):=by
 intro n
 induction n with
 | zero=>intro v1 hi hn;exact absurd hn (eP _)
 | succ n ih =>
   intro v1 hi hn
   refine aQ ?_
   have hbl:=aPd (l:=a0) (leaf:=v1) hi.2.1 (by omega)
   cases h0:(decide ((v1:Int)<=16)) with
   | true =>
    have q0:=cA h0
    let t1:List (St Tryz.prog):=[.d h0,.c [0] (aP8 a0 v1 (by omega) (aG2 (sU (l:=a0) hi.2.1)) (by omega)),.c [1,2,4,5] (C68 (a1.1,a1.2) ((jI a0 v1).1,(jI a0 v1).2) (by(try simp only [Lt]);omega) (by(try simp only [Lt]);omega) (by(try simp only [Lt]);omega) (by(try simp only [Lt]);omega))]
    cases h1:(F68 (a1.1,a1.2) ((jI a0 v1).1,(jI a0 v1).2)) with
    | true =>
     have e:=Eq.refl (iG a0 a1 v1);conv at e=>rhs;simp only [iG,h0,h1,aS]
     rw [aN,e]
     exact rt (t1++[.d h1]) [] [] hcx (by kernel_rfl)
    | false =>
     have e:=Eq.refl (iG a0 a1 v1);conv at e=>rhs;simp only [iG,h0,h1,aS]
     rw [aE e]
     refine ba (t1++[.d h1]) [] [0,3,6] [3] hcx (m:=n) aDl (aDm) (zX a0 a1 (W (v1+1))) (by kernel_rfl) ?_
     have z0:(W (v1+1))=(v1+1):=aJ (by omega) (by omega)
     rw [z0]
     exact ih (v1+1) (by refine⟨?_,?_,?_⟩<;>(try simp only [Ls])<;>first | omega | assumption | simp) (by(try simp only [Ls]);omega)
   | false =>
    have q0:=cH h0
    have e:=Eq.refl (iG a0 a1 v1);conv at e=>rhs;simp only [iG,h0,aS]
    rw [aN,e]
    exact rt [.d h0] [] [] hcx (by kernel_rfl)
def pW (a0:bM)(a1:List (Int)×bE):Int :=
 (bif (((gH a0):Int) != 0) then
  (gH a0)
 else
  (aC (iG a0 a1) (toNat (16 - 1+1)+1) 1))
theorem aUr (a0:bM)(a1:List (Int)×bE)(l0:a0.length<=9223372036854775807)(l1_1:a1.1.length<=9223372036854775807)(l1_2:a1.2.length<=9223372036854775807) [h5:dR a0]:Con Tryz.prog 37 [(.s 0 0 a0.length 10),(.a [(.s 1 0 a1.1.length 1),(.s 2 0 a1.2.length 8)])] [(.live false true (flat eF a0)),(.live false true (flat c3 a1.1)),(.live false true (flat bT a1.2))] (iv (pW a0 a1)) []:=by
 refine aO Tryz.func37 (by kernel_rfl) fun cx hcx=>?_
 let t0:List (St Tryz.prog):=[.c [0] (aL0 a0 (by omega))]
 cases h0:(((gH a0):Int) != 0) with
 | true =>
  have q0:=bne_iff_ne.1 h0
  have e:=Eq.refl (pW a0 a1);conv at e=>rhs;simp only [pW,h0,aS]
  rw [e]
  exact rt (t0++[.d h0]) [] [] hcx (by kernel_rfl)
 | false =>
  have q0:=bne_eq_false_iff_eq.1 h0
  have e:=Eq.refl (pW a0 a1);conv at e=>rhs;simp only [pW,h0,aS]
  rw [e]
  refine en (t0++[.d h0]) [] [0,3,6] [3] hcx aDl (aDm) (zX a0 a1 1) (toNat (16 - 1+1)+1) (by kernel_rfl) ?_
  exact aPf a0 a1 l0 l1_1 l1_2 hcx (toNat (16 - 1+1)+1) 1 (by refine⟨?_,?_,?_⟩<;>(try simp only [Ls])<;>first | omega | assumption | simp) (by(try simp only [Ls]);omega)
noncomputable def aDn:Code:=(aI [1,1,1,0,1] [] (aL Tryz.f49) []).1
noncomputable def aDo:List K:=(aI [1,1,1,0,1] [] (aL Tryz.f49) []).2
def zZ (a0:bM)(a1:List (Int)×bE)(v1:Int):LS:=⟨iM 21 [(0,(.s 0 0 a0.length 10)),(3,(.p 3 0)),(6,(iv v1))],[(.live false true (flat eF a0)),(.live false true (flat c3 a1.1)),(.live false true (flat bT a1.2)),(.live true false [(.s 1 0 a1.1.length 1),(.s 2 0 a1.2.length 8)])]⟩
def eG (a0:bM)(a1:List (Int)×bE):Int->(Int)⊕(Int)
 | v1 =>
  (bif (decide ((v1:Int)<=16)) then
   (bif (F9 (a1.1,a1.2) ((iF a0 v1).1,(iF a0 v1).2)) then
    (.inr 0)
   else
    (.inl (v1+1)))
  else
   (.inr 1))
theorem aPg (a0:bM)(a1:List (Int)×bE)(l0:a0.length<=9223372036854775807)(l1_1:a1.1.length<=9223372036854775807)(l1_2:a1.2.length<=9223372036854775807) {cx:Cx} (hcx:cx.base=3):∀(n:Nat) (v1:Int),(0<=v1)/\(gI a0=0)/\(1<=v1)->toNat (16 - v1+1) < n->Aw.Good Tryz.prog none 9 (bodyPost Tryz.prog Tryz.f49 (RR cx (iv (aC (eG a0 a1) n v1)) [] [])) cx [] (.l aDn n::aDo) (zZ a0 a1 v1):=by
 intro n
 induction n with
 | zero=>intro v1 hi hn;exact absurd hn (eP _)
 | succ n ih =>
   intro v1 hi hn
   refine aQ ?_
   have hbl:=aPe (l:=a0) (leaf:=v1) hi.2.1 (by omega)
   cases h0:(decide ((v1:Int)<=16)) with
   | true =>
    have q0:=cA h0
    let t1:List (St Tryz.prog):=[.d h0,.c [0] (aP9 a0 v1 (by omega) (sZ (l:=a0) hi.2.1) (by omega)),.c [1,2,4,5] (C9 (a1.1,a1.2) ((iF a0 v1).1,(iF a0 v1).2) (by(try simp only [Lt]);omega) (by(try simp only [Lt]);omega) (by(try simp only [Lt]);omega) (by(try simp only [Lt]);omega))]
    cases h1:(F9 (a1.1,a1.2) ((iF a0 v1).1,(iF a0 v1).2)) with
    | true =>
     have e:=Eq.refl (eG a0 a1 v1);conv at e=>rhs;simp only [eG,h0,h1,aS]
     rw [aN,e]
     exact rt (t1++[.d h1]) [] [] hcx (by kernel_rfl)
    | false =>
     have e:=Eq.refl (eG a0 a1 v1);conv at e=>rhs;simp only [eG,h0,h1,aS]
     rw [aE e]
     refine ba (t1++[.d h1]) [] [0,3,6] [3] hcx (m:=n) aDn (aDo) (zZ a0 a1 (W (v1+1))) (by kernel_rfl) ?_
     have z0:(W (v1+1))=(v1+1):=aJ (by omega) (by omega)
     rw [z0]
     exact ih (v1+1) (by refine⟨?_,?_,?_⟩<;>(try simp only [Ls])<;>first | omega | assumption | simp) (by(try simp only [Ls]);omega)
   | false =>
    have q0:=cH h0
    have e:=Eq.refl (eG a0 a1 v1);conv at e=>rhs;simp only [eG,h0,aS]
    rw [aN,e]
    exact rt [.d h0] [] [] hcx (by kernel_rfl)
def gJ (a0:bM)(a1:List (Int)×bE):Int :=
 (bif (((gI a0):Int) != 0) then
  (gI a0)
 else
  (aC (eG a0 a1) (toNat (16 - 1+1)+1) 1))
theorem aUs (a0:bM)(a1:List (Int)×bE)(l0:a0.length<=9223372036854775807)(l1_1:a1.1.length<=9223372036854775807)(l1_2:a1.2.length<=9223372036854775807):Con Tryz.prog 49 [(.s 0 0 a0.length 10),(.a [(.s 1 0 a1.1.length 1),(.s 2 0 a1.2.length 8)])] [(.live false true (flat eF a0)),(.live false true (flat c3 a1.1)),(.live false true (flat bT a1.2))] (iv (gJ a0 a1)) []:=by
 refine aO Tryz.func49 (by kernel_rfl) fun cx hcx=>?_
 let t0:List (St Tryz.prog):=[.c [0] (aL6 a0 (by omega))]
 cases h0:(((gI a0):Int) != 0) with
 | true =>
  have q0:=bne_iff_ne.1 h0
  have e:=Eq.refl (gJ a0 a1);conv at e=>rhs;simp only [gJ,h0,aS]
  rw [e]
  exact rt (t0++[.d h0]) [] [] hcx (by kernel_rfl)
 | false =>
  have q0:=bne_eq_false_iff_eq.1 h0
  have e:=Eq.refl (gJ a0 a1);conv at e=>rhs;simp only [gJ,h0,aS]
  rw [e]
  refine en (t0++[.d h0]) [] [0,3,6] [3] hcx aDn (aDo) (zZ a0 a1 1) (toNat (16 - 1+1)+1) (by kernel_rfl) ?_
  exact aPg a0 a1 l0 l1_1 l1_2 hcx (toNat (16 - 1+1)+1) 1 (by refine⟨?_,?_,?_⟩<;>(try simp only [Ls])<;>first | omega | assumption | simp) (by(try simp only [Ls]);omega)
theorem aPh (a b:TR):F68 a b=F9 a b:=by
 have e1:jK a.1 b.1=fU a.1 b.1:=rfl
 unfold F68 F9
 rw [e1]
 cases fU a.1 b.1<;>rfl
theorem aDp {S:Int->Int⊕Bool} {N:Nat} {p:Nat->Prop} (h1:∀i:Nat,i < N->(S (i:Int)=.inl ((i+1:Nat):Int)/\p i)\/S (i:Int)=.inr false):∀(d i n:Nat),d=N - i->i<=N->d < n->aC S n (i:Int)=true->∀j,i<=j->j < N->p j
 | 0,i,n,hd,hi,hn,_,j,h1,h2=>absurd h2 (by omega)
 | d+1,i,n,hd,hi,hn,h,j,g1,g2=>by
   obtain⟨n,rfl⟩:∃m,n=m+1:=⟨n - 1,by omega⟩
   rcases h1 i (by omega) with⟨e,hp⟩ | e
   · rw [aE e] at h
     by_cases hj:j=i
     · rw [hj];exact hp
     · exact aDp h1 d (i+1) n (by omega) (by omega) (by omega) h j (by omega) g2
   · rw [aY e] at h;cases h
theorem aFj {α:Type} [Inhabited α] {a b:List α} (h:a.length=b.length)(h2:∀j,j < a.length->a.getD j default=b.getD j default):a=b:=by
 refine List.ext_getElem h fun i h3 h4=>?_
 have:=h2 i h3
 rw [eQ,eQ,List.getElem?_eq_getElem h3,List.getElem?_eq_getElem h4] at this
 exact this
theorem aPi {a b:List Int} (h:fU a b=true):a=b:=by
 unfold fU at h
 by_cases hl:a.length=b.length
 · rw [show(((a.length:Int):Int) != (b.length:Int))=false by rw [hl];simp,cond_false] at h
   refine aFj hl (aDp (N:=a.length) (p:=fun j=>a.getD j default=b.getD j default) (fun i hi=>?_) a.length 0 _ (by omega) (by omega) (by omega) h · (Nat.zero_le _) ·)
   simp only [eY,jM]
   rw [cN (show((i:Nat):Int) < (a.length:Nat) by omega),cond_true]
   cases e:((a.getD i default:Int) != b.getD i default) with
   | true=>exact .inr rfl
   | false=>exact .inl ⟨rfl,bne_eq_false_iff_eq.1 e⟩
 · rw [show(((a.length:Int):Int) != (b.length:Int))=true by rw [bne_iff_ne];omega,cond_true] at h
   cases h
theorem aNd {a b:TR} (h:F9 a b=true):a=b:=by
 unfold F9 at h
 cases h1:fU a.1 b.1 with
 | false=>rw [h1] at h;cases h
 | true =>
   rw [h1,Bool.not_true,cond_false] at h
   by_cases hl:a.2.length=b.2.length
   · rw [show(((a.2.length:Int):Int) != (b.2.length:Int))=false by rw [hl];simp,cond_false] at h
     refine Prod.ext (aPi h1) (aFj hl (aDp (N:=a.2.length) (p:=fun j=>a.2.getD j default=b.2.getD j default) (fun i hi=>?_) a.2.length 0 _ (by omega) (by omega) (by omega) h · (Nat.zero_le _) ·))
     simp only [zT,jM]
     rw [cN (show((i:Nat):Int) < (a.2.length:Nat) by omega),cond_true]
     generalize a.2.getD i default=x
     generalize b.2.getD i default=y
     obtain⟨x1,x2,x3,x4,⟨x5,x6,x7⟩,x8⟩:=x
     obtain⟨y1,y2,y3,y4,⟨y5,y6,y7⟩,y8⟩:=y
     dsimp only
     rw [Bool.cond_eq_ite]
     split
     · exact .inr rfl
     · rename_i hq
       refine .inl ⟨rfl,?_⟩
       simp at hq ⊢
       omega
   · rw [show(((a.2.length:Int):Int) != (b.2.length:Int))=true by rw [bne_iff_ne];omega,cond_true] at h
     cases h
theorem aFk {l:eW} [dR l] {t:TR} (hv:VCH l):∀(n:Nat) (v:Int),1<=v->aC (iG l t) n v=aC (eG l t) n v
 | 0,_,_=>rfl
 | n+1,v,h=>by
   have e:iG l t v=eG l t v:=by
     simp only [iG,eG,aPh,aNa l hv h,aDk l hv.1 h]
   have h2:(eG l t v=.inl (v+1))\/(∃r,eG l t v=.inr r):=by
     simp only [eG]
     rw [Bool.cond_eq_ite]
     split
     · rw [Bool.cond_eq_ite]
       split
       · exact .inr ⟨_,rfl⟩
       · exact .inl rfl
     · exact .inr ⟨_,rfl⟩
   rcases h2 with h2 | ⟨r,h2⟩
   · rw [aE (e.trans h2),aE h2];exact aFk hv n (v+1) (by omega)
   · rw [aY (e.trans h2),aY h2]
theorem aFl (l:eW) [dR l] (t:TR):pW l t=gJ l t:=by
 unfold pW gJ
 rw [zQ]
 cases h:((gI l:Int) != 0) with
 | true=>rfl
 | false=>exact aFk (aG3 (by rw [zQ];exact bne_eq_false_iff_eq.1 h)) _ 1 (Int.le_refl _)
theorem aAa {l:eW} {t:TR} (h:gJ l t=0):VCH l/\∃leaf:Int,1<=leaf/\leaf<=16/\t=BT l leaf:=by
 unfold gJ at h
 cases h0:((gI l:Int) != 0) with
 | true=>rw [h0,cond_true] at h;rw [h] at h0;cases h0
 | false =>
   rw [h0,cond_false] at h
   have hv:=aG3 (l:=l) (by rw [zQ];exact bne_eq_false_iff_eq.1 h0)
   refine⟨hv,?_⟩
   have lp:∀(n:Nat) (v:Int),1<=v->toNat (17 - v) < n->aC (eG l t) n v=0->∃leaf:Int,1<=leaf/\leaf<=16/\t=BT l leaf:=by
     intro n
     induction n with
     | zero=>intro _ _ h;exact absurd h (eP _)
     | succ n ih =>
       intro v h1 h2 h3
       by_cases hv16:v<=16
       · cases hs:F9 (t.1,t.2) ((iF l v).1,(iF l v).2) with
         | true =>
           have:=aNd hs
           exact⟨v,h1,hv16,by rw [←aDk l hv.1 h1];exact this⟩
         | false =>
           have e:eG l t v=.inl (v+1):=by
             simp only [eG]
             rw [cN hv16,cond_true,hs,cond_false]
           rw [aE e] at h3
           exact ih (v+1) (by omega) (by omega) h3
       · have e:eG l t v=.inr 1:=by
           simp only [eG]
           rw [dQ hv16,cond_false]
         rw [aY e] at h3
         exact absurd h3 (by decide)
   exact lp _ 1 (Int.le_refl _) (by omega) h
structure NOK (fr m a k:Int) (x:NDE):Prop where
 c1:fr<=x.1
 c2:x.1 < x.2.1
 c3:x.2.1<=fr+m
 c4:(x.2.2.1=-1/\x.2.2.2.1=-1)\/(a < x.2.2.1/\x.2.2.1 < a+k/\a < x.2.2.2.1/\x.2.2.2.1 < a+k)
theorem aQb (l:eW)(leaf:Int)(n:Nat)(ns:List Int)(fr a:Int):1<=(GT l leaf (n+1) ns fr a).2.length:=by
 by_cases h0:(ns.length:Int)<=leaf
 · rw [lJ h0];simp
 · rw [lK h0];simp
theorem aNe (l:eW) {leaf:Int} (hl:1<=leaf):∀(n:Nat) (ns:List Int) (fr a:Int),ns.length < n->1<=ns.length->∀x∈(GT l leaf n ns fr a).2,NOK fr ns.length a (GT l leaf n ns fr a).2.length x
 | 0,_,_,_,h,_=>absurd h (eP _)
 | n+1,ns,fr,a,h,h1=>by
   by_cases h0:(ns.length:Int)<=leaf
   · rw [lJ h0]
     intro x hx
     rw [List.mem_singleton.1 hx]
     exact⟨Int.le_refl _,by unfold ndR;dsimp only;omega,by unfold ndR;exact Int.le_refl _,.inl ⟨rfl,rfl⟩⟩
   · rw [lK h0]
     have hsl:=lI l (aD l ns) ns
     obtain⟨n,rfl⟩:∃k,n=k+1:=⟨n - 1,by omega⟩
     have g1:=aNe l hl (n+1) ((nK l (aD l ns) ns).take ((ns.length+1) / 2)) fr (a+1) (by rw [List.length_take,hsl];omega) (by rw [List.length_take,hsl];omega)
     have g2:=aNe l hl (n+1) ((nK l (aD l ns) ns).drop ((ns.length+1) / 2)) (fr+((ns.length+1) / 2:Nat)) (a+1+(GT l leaf (n+1) ((nK l (aD l ns) ns).take ((ns.length+1) / 2)) fr (a+1)).2.length) (by rw [List.length_drop,hsl];omega) (by rw [List.length_drop,hsl];omega)
     have k1:=aQb l leaf n ((nK l (aD l ns) ns).take ((ns.length+1) / 2)) fr (a+1)
     have k2:=aQb l leaf n ((nK l (aD l ns) ns).drop ((ns.length+1) / 2)) (fr+((ns.length+1) / 2:Nat)) (a+1+(GT l leaf (n+1) ((nK l (aD l ns) ns).take ((ns.length+1) / 2)) fr (a+1)).2.length)
     rw [List.length_take,hsl] at g1
     rw [List.length_drop,hsl] at g2
     generalize GT l leaf (n+1) ((nK l (aD l ns) ns).take ((ns.length+1) / 2)) fr (a+1)=A at g1 g2 k1 k2 ⊢
     generalize GT l leaf (n+1) ((nK l (aD l ns) ns).drop ((ns.length+1) / 2)) (fr+((ns.length+1) / 2:Nat)) (a+1+A.2.length)=B at g2 k2 ⊢
     intro x hx
     simp only [List.length_cons,List.length_append,Int.natCast_add,Int.natCast_one]
     rcases List.mem_cons.1 hx with rfl | hx
     · exact⟨Int.le_refl _,by unfold ndR;dsimp only;omega,by unfold ndR;exact Int.le_refl _,.inr ⟨by unfold ndR;dsimp only;omega,by unfold ndR;dsimp only;omega,by unfold ndR;dsimp only;omega,by unfold ndR;dsimp only;omega⟩⟩
     · rcases List.mem_append.1 hx with hx | hx
       · obtain⟨c1,c2,c3,c4⟩:=g1 x hx
         exact⟨c1,c2,by omega,by rcases c4 with c4 | c4;exact .inl c4;exact .inr (by omega)⟩
       · obtain⟨c1,c2,c3,c4⟩:=g2 x hx
         exact⟨by omega,c2,by omega,by rcases c4 with c4 | c4;exact .inl c4;exact .inr (by omega)⟩
theorem aUt (l:eW) {leaf:Int} (hl:1<=leaf):∀x∈(BT l leaf).2,NOK 0 l.length 0 (BT l leaf).2.length x:=by
 unfold BT
 by_cases h0:l.length=0
 · rw [if_pos h0];intro x hx;cases hx
 · rw [if_neg h0]
   have:=aNe l hl (l.length+1) (jJ l.length) 0 0 (by rw [dZ];omega) (by rw [dZ];omega)
   rw [dZ] at this
   exact this
inductive TRE (N:List NDE):Nat->Nat->Int->Int->Int->Prop where
 | leaf {a:Nat} {f t:Int}:a < N.length->f < t->(N.getD a default).1=f->(N.getD a default).2.1=t->(N.getD a default).2.2.1=-1->(N.getD a default).2.2.2.1=-1->TRE N a 1 f t 1
 | node {a m1 m2:Nat} {f c t h1 h2:Int}:a < N.length->(N.getD a default).1=f->(N.getD a default).2.1=t->(N.getD a default).2.2.1=((a+1:Nat):Int)->(N.getD a default).2.2.2.1=((a+1+m1:Nat):Int)->TRE N (a+1) m1 f c h1->TRE N (a+1+m1) m2 c t h2->TRE N a (m1+m2+1) f t (1+bY h1 h2)
theorem aWb (a b:Int):a<=bY a b/\b<=bY a b/\(bY a b=a\/bY a b=b):=by unfold bY;split<;>omega
theorem bQ {N:List NDE} {a m:Nat} {f t h:Int} (H:TRE N a m f t h):a+m<=N.length/\1<=m/\f < t/\1<=h/\h<=m/\(N.getD a default).1=f/\(N.getD a default).2.1=t:=by
 induction H with
 | leaf h1 h2 h3 h4 _ _=>exact⟨by omega,Nat.le_refl _,h2,Int.le_refl _,Int.le_refl _,h3,h4⟩
 | node g1 g2 g3 g4 g5 _ _ i1 i2 =>
   rename_i h1 h2 _ _
   have:=aWb h1 h2
   exact⟨by omega,by omega,by omega,by omega,by omega,g2,g3⟩
theorem aKx {α:Type} [Inhabited α] {x y:List α} {j:Nat} (h:j < x.length):(x++y).getD j default=x.getD j default:=by
 rw [eQ,eQ,List.getElem?_append_left h]
theorem aKy {α:Type} [Inhabited α] {x y:List α} {j:Nat}:(x++y).getD (x.length+j) default=y.getD j default:=by
 rw [eQ,eQ,List.getElem?_append_right (by omega),Nat.add_sub_cancel_left]
theorem aHb (l:eW) {leaf:Int} (hl:1<=leaf):∀(n:Nat) (ns:List Int) (fr:Int) (a:Nat) (N:List NDE),ns.length < n->1<=ns.length->a+(GT l leaf n ns fr a).2.length<=N.length ->
   (∀j,j < (GT l leaf n ns fr a).2.length->N.getD (a+j) default=(GT l leaf n ns fr a).2.getD j default)->∃h,TRE N a (GT l leaf n ns fr a).2.length fr (fr+ns.length) h
 | 0,_,_,_,_,h,_=>absurd h (eP _)
 | n+1,ns,fr,a,N,h,h1=>by
   by_cases h0:(ns.length:Int)<=leaf
   · rw [lJ h0]
     intro g1 g2
     have e:=g2 0 (by simp)
     rw [Nat.add_zero] at e
     have e':N.getD a default=ndR l ns fr (-1) (-1):=e
     exact⟨1,TRE.leaf (by simp only [List.length_singleton] at g1;omega) (by omega) (by rw [e'];rfl) (by rw [e'];rfl) (by rw [e'];rfl) (by rw [e'];rfl)⟩
   · rw [lK h0]
     have hsl:=lI l (aD l ns) ns
     have ea:((a:Nat):Int)+1=((a+1:Nat):Int):=by omega
     rw [ea]
     have c1:=aHb l hl n ((nK l (aD l ns) ns).take ((ns.length+1) / 2)) fr (a+1) N (by rw [List.length_take,hsl];omega) (by rw [List.length_take,hsl];omega)
     have c2:=aHb l hl n ((nK l (aD l ns) ns).drop ((ns.length+1) / 2)) (fr+((ns.length+1) / 2:Nat)) (a+1+(GT l leaf n ((nK l (aD l ns) ns).take ((ns.length+1) / 2)) fr ((a+1:Nat):Int)).2.length) N (by rw [List.length_drop,hsl];omega) (by rw [List.length_drop,hsl];omega)
     rw [List.length_take,hsl] at c1
     rw [List.length_drop,hsl] at c2
     rw [show(((a+1:Nat):Int)+(((GT l leaf n ((nK l (aD l ns) ns).take ((ns.length+1) / 2)) fr ((a+1:Nat):Int)).2.length:Nat):Int))=((a+1+(GT l leaf n ((nK l (aD l ns) ns).take ((ns.length+1) / 2)) fr ((a+1:Nat):Int)).2.length:Nat):Int) by omega]
     generalize GT l leaf n ((nK l (aD l ns) ns).take ((ns.length+1) / 2)) fr ((a+1:Nat):Int)=A at c1 c2 ⊢
     generalize GT l leaf n ((nK l (aD l ns) ns).drop ((ns.length+1) / 2)) (fr+((ns.length+1) / 2:Nat)) ((a+1+A.2.length:Nat):Int)=B at c2 ⊢
     intro g1 g2
     simp only [List.length_cons,List.length_append] at g1 g2 ⊢
     have e':N.getD a default=ndR l ns fr ((a+1:Nat):Int) ((a+1+A.2.length:Nat):Int):=g2 0 (by omega)
     obtain⟨x1,d1⟩:=c1 (by omega) (fun j hj=>by
       have:=g2 (j+1) (by omega)
       rw [List.getD_cons_succ,aKx hj] at this
       rw [←this];congr 1;omega)
     obtain⟨x2,d2⟩:=c2 (by omega) (fun j hj=>by
       have:=g2 (A.2.length+j+1) (by omega)
       rw [List.getD_cons_succ,aKy] at this
       rw [←this];congr 1;omega)
     rw [show fr+((min ((ns.length+1) / 2) ns.length:Nat):Int)=fr+(((ns.length+1) / 2:Nat):Int) by omega] at d1
     rw [show fr+(((ns.length+1) / 2:Nat):Int)+((ns.length - (ns.length+1) / 2:Nat):Int)=fr+(ns.length:Int) by omega] at d2
     exact⟨_,TRE.node (by omega) (by rw [e'];rfl) (by rw [e'];rfl) (by rw [e'];rfl) (by rw [e'];rfl) d1 d2⟩
theorem aHc (l:eW) {leaf:Int} (hl:1<=leaf):(l.length=0/\BT l leaf=([],[]))\/∃h,TRE (BT l leaf).2 0 (BT l leaf).2.length 0 l.length h:=by
 unfold BT
 by_cases h0:l.length=0
 · rw [if_pos h0];exact .inl ⟨h0,rfl⟩
 · rw [if_neg h0]
   have:=aHb l hl (l.length+1) (jJ l.length) 0 0 (GT l leaf (l.length+1) (jJ l.length) 0 ((0:Nat):Int)).2 (by rw [dZ];omega) (by rw [dZ];omega) (by omega) (fun j _=>by rw [Nat.zero_add])
   rw [dZ,Int.zero_add] at this
   exact .inr this
theorem fM {N:List NDE} {a m:Nat} {f u h:Int} (H:TRE N a m f u h):(m=1/\h=1/\(N.getD a default).2.2.1=-1/\(N.getD a default).2.2.2.1=-1) \/
   ∃(m1 m2:Nat) (c h1 h2:Int),m=m1+m2+1/\(N.getD a default).2.2.1=((a+1:Nat):Int)/\(N.getD a default).2.2.2.1=((a+1+m1:Nat):Int)/\TRE N (a+1) m1 f c h1/\TRE N (a+1+m1) m2 c u h2/\h=1+bY h1 h2:=by
 cases H with
 | leaf h1 h2 h3 h4 h5 h6=>exact .inl ⟨rfl,rfl,h5,h6⟩
 | node g1 g2 g3 g4 g5 b1 b2=>exact .inr ⟨_,_,_,_,_,rfl,g4,g5,b1,b2,rfl⟩
end Go.Proofs.YtmihafgemmgepaaGreat
