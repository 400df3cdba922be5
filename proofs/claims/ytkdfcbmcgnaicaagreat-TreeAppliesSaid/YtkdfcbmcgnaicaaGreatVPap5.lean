/-
  Parts of the proofs of the laws: the executor, what functions of the program compute, and that it is what the statements ask. No premise.
-/
import Derived.Test.YtkdfcbmcgnaicaaGreatVPap4
set_option linter.unusedVariables false
set_option linter.unusedSimpArgs false
set_option maxHeartbeats 4000000
open Int renaming toNat → tN
open Inhabited renaming default → dF
namespace Go.Proofs.YtkdfcbmcgnaicaaGreat
open Go.Proofs Go.Aw Go.RowKit
set_option maxRecDepth 100000
noncomputable def oV:Code:=(cC [1,1,0,0,0,1,1,1,1,1,1,1,1,0] [0] (aL Tryz.f93)).1
noncomputable def oW (m0:Nat):List K:=(cC [1,1,0,0,0,1,1,1,1,1,1,1,1,0] [m0] (aL Tryz.f93)).2
def nJ (nr:Nat)(a0:List Int)(a0_o:Nat)(a0_n:Nat)(a1:Int)(a2:Int)(a3:Int)(a4:eP×Int)(v31c:List SV)(v31n:Nat)(v32 v33 v34 v35 v36:Int):LS:=⟨gD 148 [(0,(.s 0 (0+a0_o*1) a0_n 1)),(1,(iv v32)),(2,(iv v33)),(3,(iv v34)),(4,(.f 1000075 [(.a [(.p 1 0),(iv a4.2)])])),(12,(iv v35)),(13,(iv v36))],[(.live true true v31c),(.live false false [(.s 2 0 a4.1.1.length 10),(iv a4.1.2.1),(.s 0 0 v31n 1),(.s 3 0 a4.1.2.2.2.length 8)]),(.live false true (flat dC a4.1.1)),(.live false true (flat cB a4.1.2.2.2))]⟩
def dY (rr:(List Int)->(Nat)->(Nat)->(Int)->(Int)->(Int)->TyS->List Int)(a0:List Int)(a0_o:Nat)(a0_n:Nat)(a1:Int)(a2:Int)(a3:Int)(a4:eP×Int):List Int×Int×Int×Zt->(List Int×Int×Int×Int×Bool×Bool)⊕(List Int)
 | (v31,v32,v33,v34,v35,v36) =>
  (bif (decide (((W ((aN v31 a0_o a0_n v32 v33 v36 ((a4.1.1,a4.1.2.1,(v31,a4.1.2.2.2)),a4.2)).1 - v32)):Int) < (W (v33 - (aN v31 a0_o a0_n v32 v33 v36 ((a4.1.1,a4.1.2.1,(v31,a4.1.2.2.2)),a4.2)).1)))) then
   (.inl ((rr ((aN v31 a0_o a0_n v32 v33 v36 ((a4.1.1,a4.1.2.1,(v31,a4.1.2.2.2)),a4.2)).2.2) a0_o a0_n v32 (aN v31 a0_o a0_n v32 v33 v36 ((a4.1.1,a4.1.2.1,(v31,a4.1.2.2.2)),a4.2)).1 v34 ((a4.1.1,a4.1.2.1,((aN v31 a0_o a0_n v32 v33 v36 ((a4.1.1,a4.1.2.1,(v31,a4.1.2.2.2)),a4.2)).2.2,a4.1.2.2.2)),a4.2)),(W ((aN v31 a0_o a0_n v32 v33 v36 ((a4.1.1,a4.1.2.1,(v31,a4.1.2.2.2)),a4.2)).1+1)),v33,v34,(decide (((W ((aN v31 a0_o a0_n v32 v33 v36 ((a4.1.1,a4.1.2.1,(v31,a4.1.2.2.2)),a4.2)).1 - v32)):Int)≥(W (Int.tdiv v35 8)))),(aN v31 a0_o a0_n v32 v33 v36 ((a4.1.1,a4.1.2.1,(v31,a4.1.2.2.2)),a4.2)).2.1))
  else
   (.inl ((rr ((aN v31 a0_o a0_n v32 v33 v36 ((a4.1.1,a4.1.2.1,(v31,a4.1.2.2.2)),a4.2)).2.2) a0_o a0_n (W ((aN v31 a0_o a0_n v32 v33 v36 ((a4.1.1,a4.1.2.1,(v31,a4.1.2.2.2)),a4.2)).1+1)) v33 v34 ((a4.1.1,a4.1.2.1,((aN v31 a0_o a0_n v32 v33 v36 ((a4.1.1,a4.1.2.1,(v31,a4.1.2.2.2)),a4.2)).2.2,a4.1.2.2.2)),a4.2)),v32,(aN v31 a0_o a0_n v32 v33 v36 ((a4.1.1,a4.1.2.1,(v31,a4.1.2.2.2)),a4.2)).1,v34,(decide (((W (v33 - (aN v31 a0_o a0_n v32 v33 v36 ((a4.1.1,a4.1.2.1,(v31,a4.1.2.2.2)),a4.2)).1)):Int)≥(W (Int.tdiv v35 8)))),(aN v31 a0_o a0_n v32 v33 v36 ((a4.1.1,a4.1.2.1,(v31,a4.1.2.2.2)),a4.2)).2.1)))
noncomputable def jK:Code:=(cC [1,1,0,0,0,1,1,1,1,1,1,1,0,0] [0] (aL Tryz.f93)).1
noncomputable def jL (m0:Nat):List K:=(cC [1,1,0,0,0,1,1,1,1,1,1,1,0,0] [m0] (aL Tryz.f93)).2
def iP (nr:Nat)(a0:List Int)(a0_o:Nat)(a0_n:Nat)(a1:Int)(a2:Int)(a3:Int)(a4:eP×Int)(v23c:List SV)(v23n:Nat)(v24 v25 v26:Int)(v27:Bool)(v28:Bool)(v29 v30:Int):LS:=⟨gD 148 [(0,(.s 0 (0+a0_o*1) a0_n 1)),(1,(iv v24)),(2,(iv v25)),(3,(iv v26)),(4,(.f 1000075 [(.a [(.p 1 0),(iv a4.2)])])),(10,(.v (.bool v27))),(11,(.v (.bool v28))),(12,(iv v29)),(13,(iv v30))],[(.live true true v23c),(.live false false [(.s 2 0 a4.1.1.length 10),(iv a4.1.2.1),(.s 0 0 v23n 1),(.s 3 0 a4.1.2.2.2.length 8)]),(.live false true (flat dC a4.1.1)),(.live false true (flat cB a4.1.2.2.2))]⟩
def bP (rr:(List Int)->(Nat)->(Nat)->(Int)->(Int)->(Int)->TyS->List Int)(a0:List Int)(a0_o:Nat)(a0_n:Nat)(a1:Int)(a2:Int)(a3:Int)(a4:eP×Int):List Int×Int×Int×Int×Bool×Bool×Int×Int->(List Int×Int×Int×Int×Bool×Bool)⊕(List Int)
 | (v23,v24,v25,v26,v27,v28,v29,v30) =>
  (bif (decide ((v24:Int) > 0)) then
   (bif (!(decide (((pL ((a4.1.1,a4.1.2.1,(v23,a4.1.2.2.2)),a4.2) (v23.getD (a0_o+tN (W (v24 - 1))) dF) (v23.getD (a0_o+tN v30) dF)):Int) < 0))) then
    (.inl ((dE v23 a0_o a0_n v24 v25 v30 ((a4.1.1,a4.1.2.1,(v23,a4.1.2.2.2)),a4.2)).2,(dE v23 a0_o a0_n v24 v25 v30 ((a4.1.1,a4.1.2.1,(v23,a4.1.2.2.2)),a4.2)).1,v25,v26,v27,v28))
   else
    (dY rr a0 a0_o a0_n a1 a2 a3 a4 (v23,v24,v25,v26,v29,v30)))
  else
   (dY rr a0 a0_o a0_n a1 a2 a3 a4 (v23,v24,v25,v26,v29,v30)))
noncomputable def oX:Code:=(cC [1,1,0,0,0,1,1,1,1,1,1,0,0] [0] (aL Tryz.f93)).1
noncomputable def oY (m0:Nat):List K:=(cC [1,1,0,0,0,1,1,1,1,1,1,0,0] [m0] (aL Tryz.f93)).2
def nK (nr:Nat)(a0:List Int)(a0_o:Nat)(a0_n:Nat)(a1:Int)(a2:Int)(a3:Int)(a4:eP×Int)(v14c:List SV)(v14n:Nat)(v15 v16 v17:Int)(v18:Bool)(v19:Bool)(v20 v21 v22:Int):LS:=⟨gD 148 [(0,(.s 0 (0+a0_o*1) a0_n 1)),(1,(iv v15)),(2,(iv v16)),(3,(iv v17)),(4,(.f 1000075 [(.a [(.p 1 0),(iv a4.2)])])),(10,(.v (.bool v18))),(11,(.v (.bool v19))),(12,(iv v20)),(13,(iv v21)),(14,(iv v22))],[(.live true true v14c),(.live false false [(.s 2 0 a4.1.1.length 10),(iv a4.1.2.1),(.s 0 0 v14n 1),(.s 3 0 a4.1.2.2.2.length 8)]),(.live false true (flat dC a4.1.1)),(.live false true (flat cB a4.1.2.2.2))]⟩
def bX (rr:(List Int)->(Nat)->(Nat)->(Int)->(Int)->(Int)->TyS->List Int)(a0:List Int)(a0_o:Nat)(a0_n:Nat)(a1:Int)(a2:Int)(a3:Int)(a4:eP×Int):List Int×Int×Int×Int×Bool×Bool×Zt->(List Int×Int×Int×Int×Bool×Bool)⊕(List Int)
 | (v14,v15,v16,v17,v18,v19,v20,v21,v22) =>
  (bif v18 then
   (bif v19 then
    (bif ((v22:Int) == 1) then
     (bif (cV v14 a0_o a0_n v15 v16 ((a4.1.1,a4.1.2.1,(v14,a4.1.2.2.2)),a4.2)).1 then
      (.inr (cV v14 a0_o a0_n v15 v16 ((a4.1.1,a4.1.2.1,(v14,a4.1.2.2.2)),a4.2)).2)
     else
      (bP rr a0 a0_o a0_n a1 a2 a3 a4 ((cV v14 a0_o a0_n v15 v16 ((a4.1.1,a4.1.2.1,(v14,a4.1.2.2.2)),a4.2)).2,v15,v16,v17,v18,v19,v20,v21)))
    else
     (bP rr a0 a0_o a0_n a1 a2 a3 a4 (v14,v15,v16,v17,v18,v19,v20,v21)))
   else
    (bP rr a0 a0_o a0_n a1 a2 a3 a4 (v14,v15,v16,v17,v18,v19,v20,v21)))
  else
   (bP rr a0 a0_o a0_n a1 a2 a3 a4 (v14,v15,v16,v17,v18,v19,v20,v21)))
noncomputable def oZ:Code:=(cC [1,1,0,0,0,1,1,1,1,0] [0] (aL Tryz.f93)).1
noncomputable def pA (m0:Nat):List K:=(cC [1,1,0,0,0,1,1,1,1,0] [m0] (aL Tryz.f93)).2
def nL (nr:Nat)(a0:List Int)(a0_o:Nat)(a0_n:Nat)(a1:Int)(a2:Int)(a3:Int)(a4:eP×Int)(v7c:List SV)(v7n:Nat)(v8 v9 v10:Int)(v11:Bool)(v12:Bool)(v13:Int):LS:=⟨gD 148 [(0,(.s 0 (0+a0_o*1) a0_n 1)),(1,(iv v8)),(2,(iv v9)),(3,(iv v10)),(4,(.f 1000075 [(.a [(.p 1 0),(iv a4.2)])])),(10,(.v (.bool v11))),(11,(.v (.bool v12))),(12,(iv v13))],[(.live true true v7c),(.live false false [(.s 2 0 a4.1.1.length 10),(iv a4.1.2.1),(.s 0 0 v7n 1),(.s 3 0 a4.1.2.2.2.length 8)]),(.live false true (flat dC a4.1.1)),(.live false true (flat cB a4.1.2.2.2))]⟩
def dZ (rr:(List Int)->(Nat)->(Nat)->(Int)->(Int)->(Int)->TyS->List Int)(a0:List Int)(a0_o:Nat)(a0_n:Nat)(a1:Int)(a2:Int)(a3:Int)(a4:eP×Int):List Int×Int×Int×Int×Bool×Bool×Int->(List Int×Int×Int×Int×Bool×Bool)⊕(List Int)
 | (v7,v8,v9,v10,v11,v12,v13) =>
  (bif (((bD v7 a0_o a0_n v8 v9 ((a4.1.1,a4.1.2.1,(v7,a4.1.2.2.2)),a4.2)).2:Int) == 2) then
   (bX rr a0 a0_o a0_n a1 a2 a3 a4 ((fD v7 a0_o a0_n v8 v9 ((a4.1.1,a4.1.2.1,(v7,a4.1.2.2.2)),a4.2)),v8,v9,v10,v11,v12,v13,(W ((W (v9 - 1)) - (W ((bD v7 a0_o a0_n v8 v9 ((a4.1.1,a4.1.2.1,(v7,a4.1.2.2.2)),a4.2)).1 - v8)))),1))
  else
   (bX rr a0 a0_o a0_n a1 a2 a3 a4 (v7,v8,v9,v10,v11,v12,v13,(bD v7 a0_o a0_n v8 v9 ((a4.1.1,a4.1.2.1,(v7,a4.1.2.2.2)),a4.2)).1,(bD v7 a0_o a0_n v8 v9 ((a4.1.1,a4.1.2.1,(v7,a4.1.2.2.2)),a4.2)).2)))
noncomputable def gI:Code:=(aM [1,1] [] (aL Tryz.f93) []).1
noncomputable def gJ:List K:=(aM [1,1] [] (aL Tryz.f93) []).2
def fT (nr:Nat)(a0:List Int)(a0_o:Nat)(a0_n:Nat)(a1:Int)(a2:Int)(a3:Int)(a4:eP×Int)(v1c:List SV)(v1n:Nat)(v2 v3 v4:Int)(v5:Bool)(v6:Bool):LS:=⟨gD 148 [(0,(.s 0 (0+a0_o*1) a0_n 1)),(1,(iv v2)),(2,(iv v3)),(3,(iv v4)),(4,(.f 1000075 [(.a [(.p 1 0),(iv a4.2)])])),(10,(.v (.bool v5))),(11,(.v (.bool v6)))],[(.live true true v1c),(.live false false [(.s 2 0 a4.1.1.length 10),(iv a4.1.2.1),(.s 0 0 v1n 1),(.s 3 0 a4.1.2.2.2.length 8)]),(.live false true (flat dC a4.1.1)),(.live false true (flat cB a4.1.2.2.2))]⟩
def bL (rr:(List Int)->(Nat)->(Nat)->(Int)->(Int)->(Int)->TyS->List Int)(a0:List Int)(a0_o:Nat)(a0_n:Nat)(a1:Int)(a2:Int)(a3:Int)(a4:eP×Int):List Int×Int×Int×Int×Bool×Bool->(List Int×Int×Int×Int×Bool×Bool)⊕(List Int)
 | (v1,v2,v3,v4,v5,v6) =>
  (bif (decide (((W (v3 - v2)):Int)<=12)) then
   (.inr (hP v1 a0_o a0_n v2 v3 ((a4.1.1,a4.1.2.1,(v1,a4.1.2.2.2)),a4.2)))
  else
   (bif ((v4:Int) == 0) then
    (.inr (hY v1 a0_o a0_n v2 v3 ((a4.1.1,a4.1.2.1,(v1,a4.1.2.2.2)),a4.2)))
   else
    (bif (!v5) then
     (dZ rr a0 a0_o a0_n a1 a2 a3 a4 ((eT v1 a0_o a0_n v2 v3 ((a4.1.1,a4.1.2.1,(v1,a4.1.2.2.2)),a4.2)),v2,v3,(W (v4 - 1)),v5,v6,(W (v3 - v2))))
    else
     (dZ rr a0 a0_o a0_n a1 a2 a3 a4 (v1,v2,v3,v4,v5,v6,(W (v3 - v2)))))))
def aW:Nat->(List Int)->(Nat)->(Nat)->(Int)->(Int)->(Int)->TyS->List Int
 | 0,_,_,_,_,_,_,_=>dF
 | nr+1,a0,a0_o,a0_n,a1,a2,a3,a4 =>
 (aH (bL (aW nr) a0 a0_o a0_n a1 a2 a3 a4) (tN (a2 - a1)+1) (a0,a1,a2,a3,true,true))
def sQ (a0:List Int)(a0_o:Nat)(a0_n:Nat)(a1:Int)(a2:Int)(a3:Int)(a4:eP×Int):List Int:=aW (tN (a2 - a1)+1) a0 a0_o a0_n a1 a2 a3 a4
section
variable {N o n L : Nat} {v : List Int} {a b lim lo hi : Int} {c : rG}
def PqP (L N:Nat)(lo hi:Int)(m:Int):((List Int×Int×Int×Int×Bool×Bool)⊕List Int)->Prop
 | .inl s=>s.1.length=L/\InR N s.1/\lo<=s.2.1/\s.2.1<=s.2.2.1/\s.2.2.1<=hi/\s.2.2.1 - s.2.1 < m
 | .inr v=>v.length=L/\InR N v
theorem aDc {σ ρ:Type} [Inhabited ρ] {S:σ->σ⊕ρ} (P:σ->Prop)(Q:ρ->Prop)(m:σ->Nat)(h:∀s,P s->match S s with | .inl t=>P t/\m t < m s | .inr r=>Q r):∀(k:Nat) (s:σ),P s->m s < k->Q (aH S k s)
 | 0,s,_,hk=>absurd hk (eI _)
 | k+1,s,hs,hk=>by
  have h1:=h s hs
  cases e:S s with
  | inl t=>rw [e] at h1;rw [aI e];exact aDc P Q m h k t h1.1 (by have:=h1.2;omega)
  | inr r=>rw [e] at h1;rw [aQ e];exact h1
variable {nr : Nat} {rr : List Int → Nat → Nat → Int → Int → Int → rG → List Int}
 (Hr:∀(v:List Int) (o n:Nat) (a b lim:Int) (c:rG),(o+n<=v.length/\v.length<=1048576)->InR N v->(0<=a/\a<=b/\b<=(n:Int))->tN (b - a) < nr->(rr v o n a b lim c).length=v.length/\InR N (rr v o n a b lim c))
include Hr
theorem aXb {a0:List Int} {a1 a2 a3 ln q:Int} (hw:o+n<=v.length/\v.length<=1048576)(hI:InR N v)(h:0<=a/\lo<=a/\a<=q/\q < b/\b<=hi/\b<=(n:Int))(hm:tN (b - a)<=nr) :
 PqP v.length N lo hi (b - a) (dY rr a0 o n a1 a2 a3 c (v,a,b,lim,ln,q)):=by
 obtain⟨h1,h2,h3⟩:=aTe (N:=N) (v:=v) (o:=o) (n:=n) (a:=a) (b:=b) (q:=q) (c:=((c.1.1,c.1.2.1,(v,c.1.2.2.2)),c.2)) hw hI (by omega)
 have hw1:=aS (n:=(aN v o n a b q ((c.1.1,c.1.2.1,(v,c.1.2.2.2)),c.2)).1+1) (by omega) (by omega)
 simp only [dY]
 rw [Bool.cond_eq_ite]
 split
 ·have hr:=Hr (aN v o n a b q ((c.1.1,c.1.2.1,(v,c.1.2.2.2)),c.2)).2.2 o n a (aN v o n a b q ((c.1.1,c.1.2.1,(v,c.1.2.2.2)),c.2)).1 lim ((c.1.1,c.1.2.1,((aN v o n a b q ((c.1.1,c.1.2.1,(v,c.1.2.2.2)),c.2)).2.2,c.1.2.2.2)),c.2) (by omega) h3 (by omega) (by omega)
  exact⟨hr.1.trans h2,hr.2,by dsimp only;omega,by dsimp only;omega,by dsimp only;omega,by dsimp only;omega⟩
 ·have hr:=Hr (aN v o n a b q ((c.1.1,c.1.2.1,(v,c.1.2.2.2)),c.2)).2.2 o n (W ((aN v o n a b q ((c.1.1,c.1.2.1,(v,c.1.2.2.2)),c.2)).1+1)) b lim ((c.1.1,c.1.2.1,((aN v o n a b q ((c.1.1,c.1.2.1,(v,c.1.2.2.2)),c.2)).2.2,c.1.2.2.2)),c.2) (by omega) h3 (by omega) (by omega)
  exact⟨hr.1.trans h2,hr.2,by dsimp only;omega,by dsimp only;omega,by dsimp only;omega,by dsimp only;omega⟩
theorem aV3 {a0:List Int} {a1 a2 a3 ln q:Int} {b1 b2:Bool} (hw:o+n<=v.length/\v.length<=1048576)(hI:InR N v)(h:0<=a/\lo<=a/\a<=q/\q < b/\b<=hi/\b<=(n:Int))(hm:tN (b - a)<=nr) :
 PqP v.length N lo hi (b - a) (bP rr a0 o n a1 a2 a3 c (v,a,b,lim,b1,b2,ln,q)):=by
 have h20:=aXb Hr (a0:=a0) (a1:=a1) (a2:=a2) (a3:=a3) (ln:=ln) (q:=q) (lim:=lim) (c:=c) hw hI h hm
 simp only [bP]
 rw [Bool.cond_eq_ite]
 split
 ·rw [Bool.cond_eq_ite]
  split
  ·obtain⟨h1,h2,h3⟩:=aTf (N:=N) (v:=v) (o:=o) (n:=n) (a:=a) (b:=b) (q:=q) (c:=((c.1.1,c.1.2.1,(v,c.1.2.2.2)),c.2)) hw hI (by omega)
   exact⟨h2,h3,by dsimp only;omega,by dsimp only;omega,by dsimp only;omega,by dsimp only;omega⟩
  ·exact h20
 ·exact h20
theorem aV4 {a0:List Int} {a1 a2 a3 ln q hn:Int} {b1 b2:Bool} (hw:o+n<=v.length/\v.length<=1048576)(hI:InR N v)(h:0<=a/\lo<=a/\a<=q/\q < b/\b<=hi/\b<=(n:Int))(hm:tN (b - a)<=nr) :
 PqP v.length N lo hi (b - a) (bX rr a0 o n a1 a2 a3 c (v,a,b,lim,b1,b2,ln,q,hn)):=by
 have h17:=aV3 Hr (a0:=a0) (a1:=a1) (a2:=a2) (a3:=a3) (ln:=ln) (q:=q) (lim:=lim) (c:=c) (b1:=b1) (b2:=b2) hw hI h hm
 obtain⟨h1,h2⟩:=aTd (N:=N) (v:=v) (o:=o) (n:=n) (a:=a) (b:=b) (c:=((c.1.1,c.1.2.1,(v,c.1.2.2.2)),c.2)) hw hI (by omega)
 have g17:=aV3 Hr (o:=o) (n:=n) (a:=a) (b:=b) (lo:=lo) (hi:=hi) (v:=(cV v o n a b ((c.1.1,c.1.2.1,(v,c.1.2.2.2)),c.2)).2) (a0:=a0) (a1:=a1) (a2:=a2) (a3:=a3) (ln:=ln) (q:=q) (lim:=lim) (c:=c) (b1:=b1) (b2:=b2) (by omega) h2 h hm
 rw [h1] at g17
 simp only [bX]
 cases b1 with
 | false=>exact h17
 | true =>
  cases b2 with
  | false=>exact h17
  | true =>
   rw [cond_true,cond_true,Bool.cond_eq_ite]
   split
   ·rw [Bool.cond_eq_ite]
    split
    ·exact⟨h1,h2⟩
    ·exact g17
   ·exact h17
theorem aV5 {a0:List Int} {a1 a2 a3 ln:Int} {b1 b2:Bool} (hw:o+n<=v.length/\v.length<=1048576)(hI:InR N v)(h:0<=a/\lo<=a/\a < b/\b<=hi/\b<=(n:Int))(hm:tN (b - a)<=nr) :
 PqP v.length N lo hi (b - a) (dZ rr a0 o n a1 a2 a3 c (v,a,b,lim,b1,b2,ln)):=by
 have hc:=aTc (v:=v) (o:=o) (n:=n) (a:=a) (b:=b) (c:=((c.1.1,c.1.2.1,(v,c.1.2.2.2)),c.2)) hw (by omega)
 obtain⟨h1,h2⟩:=aTb (N:=N) (v:=v) (o:=o) (n:=n) (a:=a) (b:=b) (c:=((c.1.1,c.1.2.1,(v,c.1.2.2.2)),c.2)) hw hI (by omega)
 have e1:W ((W (b - 1)) - (W ((bD v o n a b ((c.1.1,c.1.2.1,(v,c.1.2.2.2)),c.2)).1 - a)))=b - 1 - ((bD v o n a b ((c.1.1,c.1.2.1,(v,c.1.2.2.2)),c.2)).1 - a):=by
  rw [aS (n:=b - 1) (by omega) (by omega),aS (n:=(bD v o n a b ((c.1.1,c.1.2.1,(v,c.1.2.2.2)),c.2)).1 - a) (by omega) (by omega)]
  exact aS (by omega) (by omega)
 simp only [dZ,e1]
 rw [Bool.cond_eq_ite]
 split
 ·have g:=aV4 Hr (v:=fD v o n a b ((c.1.1,c.1.2.1,(v,c.1.2.2.2)),c.2)) (a0:=a0) (a1:=a1) (a2:=a2) (a3:=a3) (ln:=ln) (q:=b - 1 - ((bD v o n a b ((c.1.1,c.1.2.1,(v,c.1.2.2.2)),c.2)).1 - a)) (hn:=1) (lim:=lim) (c:=c) (b1:=b1) (b2:=b2) (lo:=lo) (hi:=hi) (a:=a) (b:=b) (o:=o) (n:=n) (by omega) h2 (by omega) hm
  rw [h1] at g
  exact g
 ·exact aV4 Hr hw hI (by omega) hm
theorem pq0 {a0:List Int} {a1 a2 a3:Int} {b1 b2:Bool} (hw:o+n<=v.length/\v.length<=1048576)(hI:InR N v)(h:0<=a/\lo<=a/\a<=b/\b<=hi/\b<=(n:Int))(hm:tN (b - a)<=nr) :
 PqP v.length N lo hi (b - a) (bL rr a0 o n a1 a2 a3 c (v,a,b,lim,b1,b2)):=by
 have hW:=aS (n:=b - a) (by omega) (by omega)
 simp only [bL]
 by_cases h12:W (b - a)<=12
 ·rw [cH h12,cond_true]
  exact aV1 hw hI (by omega)
 ·rw [dA h12,cond_false,Bool.cond_eq_ite]
  split
  ·exact aV2 hw hI (by omega)
  ·cases b1 with
   | true=>exact aV5 Hr hw hI (by omega) hm
   | false =>
    obtain⟨h1,h2⟩:=aTa (N:=N) (v:=v) (o:=o) (n:=n) (a:=a) (b:=b) (c:=((c.1.1,c.1.2.1,(v,c.1.2.2.2)),c.2)) hw hI (by omega)
    have g:=aV5 Hr (v:=eT v o n a b ((c.1.1,c.1.2.1,(v,c.1.2.2.2)),c.2)) (a0:=a0) (a1:=a1) (a2:=a2) (a3:=a3) (ln:=W (b - a)) (lim:=W (lim - 1)) (c:=c) (b1:=false) (b2:=b2) (lo:=lo) (hi:=hi) (a:=a) (b:=b) (o:=o) (n:=n) (by omega) h2 (by omega) hm
    rw [h1] at g
    exact g
end
theorem zV:∀(nr:Nat) {N o n:Nat} {v:List Int} {a b lim:Int} {c:rG},(o+n<=v.length/\v.length<=1048576)->InR N v->(0<=a/\a<=b/\b<=(n:Int))->tN (b - a) < nr ->
 (aW nr v o n a b lim c).length=v.length/\InR N (aW nr v o n a b lim c)
 | 0,_,_,_,_,_,_,_,_,_,_,_,h=>absurd h (eI _)
 | nr+1,N,o,n,v,a,b,lim,c,hw,hI,h,hm=>by
  have Hr:=fun(v:List Int) (o n:Nat) (a b lim:Int) (c:rG) h1 h2 h3 h4=>zV nr (N:=N) (v:=v) (o:=o) (n:=n) (a:=a) (b:=b) (lim:=lim) (c:=c) h1 h2 h3 h4
  unfold aW
  refine aDc (fun s=>s.1.length=v.length/\InR N s.1/\a<=s.2.1/\s.2.1<=s.2.2.1/\s.2.2.1<=b) (fun r=>r.length=v.length/\InR N r) (fun s=>tN (s.2.2.1 - s.2.1)) (fun s hs=>?_) _ _ ⟨rfl,hI,by dsimp only;omega,by dsimp only;omega,by dsimp only;omega⟩ (by dsimp only;omega)
  obtain⟨s1,s2,s3,s4,s5,s6⟩:=s
  dsimp only at hs ⊢
  have g:=pq0 (N:=N) (nr:=nr) Hr (v:=s1) (o:=o) (n:=n) (a:=s2) (b:=s3) (lim:=s4) (c:=c) (lo:=a) (hi:=b) (a0:=v) (a1:=a) (a2:=b) (a3:=lim) (b1:=s5) (b2:=s6) (by omega) hs.2.1 (by omega) (by omega)
  rw [hs.1] at g
  cases e:bL (aW nr) v o n a b lim c (s1,s2,s3,s4,s5,s6) with
  | inr r=>rw [e] at g;exact g
  | inl t =>
   rw [e] at g
   obtain⟨g1,g2,g3,g4,g5,g6⟩:=g
   exact⟨⟨g1,g2,g3,g4,g5⟩,by omega⟩
theorem tH (nr:Nat)(a0:List Int)(a0_o:Nat)(a0_n:Nat)(a1:Int)(a2:Int)(a3:Int)(a4:eP×Int)(l0:a0.length<=2^63-1)(l4_1_1:a4.1.1.length<=2^63-1)(l4_1_2_2_1:a4.1.2.2.1.length<=2^63-1)(l4_1_2_2_2:a4.1.2.2.2.length<=2^63-1)(hw:a0_o+a0_n<=a0.length/\a0.length<=1048576)(hr:InR a4.1.1.length a0)(hab:0<=a1/\a1<=a2/\a2<=↑a0_n)(hlt:tN (a2 - a1) < nr+1)(ihr:∀(a0:List Int)(a0_o:Nat)(a0_n:Nat)(a1:Int)(a2:Int)(a3:Int)(a4:eP×Int)(l0:a0.length<=2^63-1)(l4_1_1:a4.1.1.length<=2^63-1)(l4_1_2_2_1:a4.1.2.2.1.length<=2^63-1)(l4_1_2_2_2:a4.1.2.2.2.length<=2^63-1)(hw:a0_o+a0_n<=a0.length/\a0.length<=1048576)(hr:InR a4.1.1.length a0)(hab:0<=a1/\a1<=a2/\a2<=↑a0_n),tN (a2 - a1) < nr->Con Tryz.prog 93 [(.s 0 (0+a0_o*1) a0_n 1),(iv a1),(iv a2),(iv a3),(.f 1000075 [(.a [(.p 1 0),(iv a4.2)])])] [(.live true true (flat c3 a0)),(.live false false [(.s 2 0 a4.1.1.length 10),(iv a4.1.2.1),(.s 0 0 a0.length 1),(.s 3 0 a4.1.2.2.2.length 8)]),(.live false true (flat dC a4.1.1)),(.live false true (flat cB a4.1.2.2.2))] (.t []) [] [(.live true true (flat c3 (aW nr a0 a0_o a0_n a1 a2 a3 a4))),.un,.un,.un]) {cx:Cx} (hcx:cx.base=4)
 (n0:Nat) (g0:∀(v1:List Int) (v2 v3 v4:Int) (v5:Bool) (v6:Bool),(v1.length=a0.length)/\(InR a4.1.1.length v1)/\(a1<=v2)/\(v2<=v3)/\(v3<=a2)->tN (v3 - v2) < n0->Aw.Good Tryz.prog none 9 (bodyPost Tryz.prog Tryz.f93 (RR cx (.t []) [] [(.live true true (flat c3 (aH (bL (aW nr) a0 a0_o a0_n a1 a2 a3 a4) n0 (v1,v2,v3,v4,v5,v6)))),.un,.un,.un])) cx [] (.l gI n0::gJ) (fT nr a0 a0_o a0_n a1 a2 a3 a4 (flat c3 v1) v1.length v2 v3 v4 v5 v6)) (v31:List Int) (v32 v33 v34 v35 v36:Int):(v31.length=a0.length)/\(InR a4.1.1.length v31)/\(a1<=v32)/\(v32<=v33)/\(v33<=a2)/\(v35=v33 - v32)/\(13<=v35)/\(v32<=v36)/\(v36 < v33)/\((v31.length=a0.length))/\((InR a4.1.1.length v31))/\((a1<=v32))/\((v32<=v33))/\((v33<=a2))/\(tN (v33 - v32) < n0+1)->Aw.Good Tryz.prog none 9 (bodyPost Tryz.prog Tryz.f93 (RR cx (.t []) [] [(.live true true (flat c3 (bA (bL (aW nr) a0 a0_o a0_n a1 a2 a3 a4) n0 (dY (aW nr) a0 a0_o a0_n a1 a2 a3 a4 (v31,v32,v33,v34,v35,v36))))),.un,.un,.un])) cx [] (.c oV::oW n0) (nJ nr a0 a0_o a0_n a1 a2 a3 a4 (flat c3 v31) v31.length v32 v33 v34 v35 v36):=by
 intro hi
 have hpa:=aTe (N:=a4.1.1.length) (v:=v31) (o:=a0_o) (n:=a0_n) (a:=v32) (b:=v33) (c:=((a4.1.1,a4.1.2.1,(v31,a4.1.2.2.2)),a4.2)) (q:=v36) (by omega) hi.2.1 (by omega)
 obtain⟨hpa1,hpa2,hpa3⟩:=hpa
 have hw_1:=aS (n:=(aN v31 a0_o a0_n v32 v33 v36 ((a4.1.1,a4.1.2.1,(v31,a4.1.2.2.2)),a4.2)).1+1) (by omega) (by omega)
 have hrc1:=zV nr (N:=a4.1.1.length) (v:=(aN v31 a0_o a0_n v32 v33 v36 ((a4.1.1,a4.1.2.1,(v31,a4.1.2.2.2)),a4.2)).2.2) (o:=a0_o) (n:=a0_n) (a:=v32) (b:=(aN v31 a0_o a0_n v32 v33 v36 ((a4.1.1,a4.1.2.1,(v31,a4.1.2.2.2)),a4.2)).1) (lim:=v34) (c:=((a4.1.1,a4.1.2.1,((aN v31 a0_o a0_n v32 v33 v36 ((a4.1.1,a4.1.2.1,(v31,a4.1.2.2.2)),a4.2)).2.2,a4.1.2.2.2)),a4.2)) (by omega) hpa3 (by omega) (by omega)
 obtain⟨hrc1a,hrc1b⟩:=hrc1
 have hrc2:=zV nr (N:=a4.1.1.length) (v:=(aN v31 a0_o a0_n v32 v33 v36 ((a4.1.1,a4.1.2.1,(v31,a4.1.2.2.2)),a4.2)).2.2) (o:=a0_o) (n:=a0_n) (a:=(W ((aN v31 a0_o a0_n v32 v33 v36 ((a4.1.1,a4.1.2.1,(v31,a4.1.2.2.2)),a4.2)).1+1))) (b:=v33) (lim:=v34) (c:=((a4.1.1,a4.1.2.1,((aN v31 a0_o a0_n v32 v33 v36 ((a4.1.1,a4.1.2.1,(v31,a4.1.2.2.2)),a4.2)).2.2,a4.1.2.2.2)),a4.2)) (by omega) hpa3 (by omega) (by omega)
 obtain⟨hrc2a,hrc2b⟩:=hrc2
 let t0:List (St Tryz.prog):=[.c [0,1,2,3] (aJa v31 a0_o a0_n v32 v33 v36 ((a4.1.1,a4.1.2.1,(v31,a4.1.2.2.2)),a4.2) (by omega) (by omega) (by(try simp only [Lt]);omega) (by omega) (by omega) hi.2.1 (by omega)),.p (show(8:Int)≠0 from by decide)]
 cases h0:(decide (((W ((aN v31 a0_o a0_n v32 v33 v36 ((a4.1.1,a4.1.2.1,(v31,a4.1.2.2.2)),a4.2)).1 - v32)):Int) < (W (v33 - (aN v31 a0_o a0_n v32 v33 v36 ((a4.1.1,a4.1.2.1,(v31,a4.1.2.2.2)),a4.2)).1)))) with
 | true =>
  have q0:=cJ h0
  have e:=Eq.refl (dY (aW nr) a0 a0_o a0_n a1 a2 a3 a4 (v31,v32,v33,v34,v35,v36));conv at e=>rhs;simp only [dY,h0,aT]
  rw [e]
  refine ba (t0++[.d h0,.c [0,1,2,3] (by have q:=(ihr ((aN v31 a0_o a0_n v32 v33 v36 ((a4.1.1,a4.1.2.1,(v31,a4.1.2.2.2)),a4.2)).2.2) a0_o a0_n v32 (aN v31 a0_o a0_n v32 v33 v36 ((a4.1.1,a4.1.2.1,(v31,a4.1.2.2.2)),a4.2)).1 v34 ((a4.1.1,a4.1.2.1,((aN v31 a0_o a0_n v32 v33 v36 ((a4.1.1,a4.1.2.1,(v31,a4.1.2.2.2)),a4.2)).2.2,a4.1.2.2.2)),a4.2) (by omega) (by omega) (by(try simp only [Lt]);omega) (by omega) (by omega) hpa3 (by omega) (by omega));(try dsimp only at q);(try rw [show List.length (α:=Int) (aN v31 a0_o a0_n v32 v33 v36 ((a4.1.1,a4.1.2.1,(v31,a4.1.2.2.2)),a4.2)).2.2=v31.length from by first | simp;done | omega] at q);exact q)]) [] [0,1,2,3,4,10,11] [] hcx (m:=n0) gI (gJ) (fT nr a0 a0_o a0_n a1 a2 a3 a4 (flat c3 (aW nr ((aN v31 a0_o a0_n v32 v33 v36 ((a4.1.1,a4.1.2.1,(v31,a4.1.2.2.2)),a4.2)).2.2) a0_o a0_n v32 (aN v31 a0_o a0_n v32 v33 v36 ((a4.1.1,a4.1.2.1,(v31,a4.1.2.2.2)),a4.2)).1 v34 ((a4.1.1,a4.1.2.1,((aN v31 a0_o a0_n v32 v33 v36 ((a4.1.1,a4.1.2.1,(v31,a4.1.2.2.2)),a4.2)).2.2,a4.1.2.2.2)),a4.2))) (v31.length) (W ((aN v31 a0_o a0_n v32 v33 v36 ((a4.1.1,a4.1.2.1,(v31,a4.1.2.2.2)),a4.2)).1+1)) v33 v34 (decide (((W ((aN v31 a0_o a0_n v32 v33 v36 ((a4.1.1,a4.1.2.1,(v31,a4.1.2.2.2)),a4.2)).1 - v32)):Int)≥(W (Int.tdiv v35 8)))) ((aN v31 a0_o a0_n v32 v33 v36 ((a4.1.1,a4.1.2.1,(v31,a4.1.2.2.2)),a4.2)).2.1)) (by kernel_rfl) ?_
  have z0:v31.length=(aW nr ((aN v31 a0_o a0_n v32 v33 v36 ((a4.1.1,a4.1.2.1,(v31,a4.1.2.2.2)),a4.2)).2.2) a0_o a0_n v32 (aN v31 a0_o a0_n v32 v33 v36 ((a4.1.1,a4.1.2.1,(v31,a4.1.2.2.2)),a4.2)).1 v34 ((a4.1.1,a4.1.2.1,((aN v31 a0_o a0_n v32 v33 v36 ((a4.1.1,a4.1.2.1,(v31,a4.1.2.2.2)),a4.2)).2.2,a4.1.2.2.2)),a4.2)).length:=by first | omega | (simp;done)
  rw [z0]
  exact g0 (aW nr ((aN v31 a0_o a0_n v32 v33 v36 ((a4.1.1,a4.1.2.1,(v31,a4.1.2.2.2)),a4.2)).2.2) a0_o a0_n v32 (aN v31 a0_o a0_n v32 v33 v36 ((a4.1.1,a4.1.2.1,(v31,a4.1.2.2.2)),a4.2)).1 v34 ((a4.1.1,a4.1.2.1,((aN v31 a0_o a0_n v32 v33 v36 ((a4.1.1,a4.1.2.1,(v31,a4.1.2.2.2)),a4.2)).2.2,a4.1.2.2.2)),a4.2)) (W ((aN v31 a0_o a0_n v32 v33 v36 ((a4.1.1,a4.1.2.1,(v31,a4.1.2.2.2)),a4.2)).1+1)) v33 v34 (decide (((W ((aN v31 a0_o a0_n v32 v33 v36 ((a4.1.1,a4.1.2.1,(v31,a4.1.2.2.2)),a4.2)).1 - v32)):Int)≥(W (Int.tdiv v35 8)))) ((aN v31 a0_o a0_n v32 v33 v36 ((a4.1.1,a4.1.2.1,(v31,a4.1.2.2.2)),a4.2)).2.1) (by and_intros<;>(try simp only [Lt])<;>first | omega | assumption | exact hi.2.1 | exact hi.2.2.1 | exact InR.swap hi.2.1 (by omega) (by omega) | exact InR.swap hr (by omega) (by omega) | exact hbk2 | exact hrv2 | exact hpi2 | exact hpe3 | exact hpa3 | exact hrc1b | exact hrc2b) (by omega)
 | false =>
  have q0:=cN h0
  have e:=Eq.refl (dY (aW nr) a0 a0_o a0_n a1 a2 a3 a4 (v31,v32,v33,v34,v35,v36));conv at e=>rhs;simp only [dY,h0,aT]
  rw [e]
  refine ba (t0++[.d h0,.c [0,1,2,3] (by have q:=(ihr ((aN v31 a0_o a0_n v32 v33 v36 ((a4.1.1,a4.1.2.1,(v31,a4.1.2.2.2)),a4.2)).2.2) a0_o a0_n (W ((aN v31 a0_o a0_n v32 v33 v36 ((a4.1.1,a4.1.2.1,(v31,a4.1.2.2.2)),a4.2)).1+1)) v33 v34 ((a4.1.1,a4.1.2.1,((aN v31 a0_o a0_n v32 v33 v36 ((a4.1.1,a4.1.2.1,(v31,a4.1.2.2.2)),a4.2)).2.2,a4.1.2.2.2)),a4.2) (by omega) (by omega) (by(try simp only [Lt]);omega) (by omega) (by omega) hpa3 (by omega) (by omega));(try dsimp only at q);(try rw [show List.length (α:=Int) (aN v31 a0_o a0_n v32 v33 v36 ((a4.1.1,a4.1.2.1,(v31,a4.1.2.2.2)),a4.2)).2.2=v31.length from by first | simp;done | omega] at q);exact q)]) [] [0,1,2,3,4,10,11] [] hcx (m:=n0) gI (gJ) (fT nr a0 a0_o a0_n a1 a2 a3 a4 (flat c3 (aW nr ((aN v31 a0_o a0_n v32 v33 v36 ((a4.1.1,a4.1.2.1,(v31,a4.1.2.2.2)),a4.2)).2.2) a0_o a0_n (W ((aN v31 a0_o a0_n v32 v33 v36 ((a4.1.1,a4.1.2.1,(v31,a4.1.2.2.2)),a4.2)).1+1)) v33 v34 ((a4.1.1,a4.1.2.1,((aN v31 a0_o a0_n v32 v33 v36 ((a4.1.1,a4.1.2.1,(v31,a4.1.2.2.2)),a4.2)).2.2,a4.1.2.2.2)),a4.2))) (v31.length) v32 ((aN v31 a0_o a0_n v32 v33 v36 ((a4.1.1,a4.1.2.1,(v31,a4.1.2.2.2)),a4.2)).1) v34 (decide (((W (v33 - (aN v31 a0_o a0_n v32 v33 v36 ((a4.1.1,a4.1.2.1,(v31,a4.1.2.2.2)),a4.2)).1)):Int)≥(W (Int.tdiv v35 8)))) ((aN v31 a0_o a0_n v32 v33 v36 ((a4.1.1,a4.1.2.1,(v31,a4.1.2.2.2)),a4.2)).2.1)) (by kernel_rfl) ?_
  have z0:v31.length=(aW nr ((aN v31 a0_o a0_n v32 v33 v36 ((a4.1.1,a4.1.2.1,(v31,a4.1.2.2.2)),a4.2)).2.2) a0_o a0_n (W ((aN v31 a0_o a0_n v32 v33 v36 ((a4.1.1,a4.1.2.1,(v31,a4.1.2.2.2)),a4.2)).1+1)) v33 v34 ((a4.1.1,a4.1.2.1,((aN v31 a0_o a0_n v32 v33 v36 ((a4.1.1,a4.1.2.1,(v31,a4.1.2.2.2)),a4.2)).2.2,a4.1.2.2.2)),a4.2)).length:=by first | omega | (simp;done)
  rw [z0]
  exact g0 (aW nr ((aN v31 a0_o a0_n v32 v33 v36 ((a4.1.1,a4.1.2.1,(v31,a4.1.2.2.2)),a4.2)).2.2) a0_o a0_n (W ((aN v31 a0_o a0_n v32 v33 v36 ((a4.1.1,a4.1.2.1,(v31,a4.1.2.2.2)),a4.2)).1+1)) v33 v34 ((a4.1.1,a4.1.2.1,((aN v31 a0_o a0_n v32 v33 v36 ((a4.1.1,a4.1.2.1,(v31,a4.1.2.2.2)),a4.2)).2.2,a4.1.2.2.2)),a4.2)) v32 ((aN v31 a0_o a0_n v32 v33 v36 ((a4.1.1,a4.1.2.1,(v31,a4.1.2.2.2)),a4.2)).1) v34 (decide (((W (v33 - (aN v31 a0_o a0_n v32 v33 v36 ((a4.1.1,a4.1.2.1,(v31,a4.1.2.2.2)),a4.2)).1)):Int)≥(W (Int.tdiv v35 8)))) ((aN v31 a0_o a0_n v32 v33 v36 ((a4.1.1,a4.1.2.1,(v31,a4.1.2.2.2)),a4.2)).2.1) (by and_intros<;>(try simp only [Lt])<;>first | omega | assumption | exact hi.2.1 | exact hi.2.2.1 | exact InR.swap hi.2.1 (by omega) (by omega) | exact InR.swap hr (by omega) (by omega) | exact hbk2 | exact hrv2 | exact hpi2 | exact hpe3 | exact hpa3 | exact hrc1b | exact hrc2b) (by omega)
theorem lO (nr:Nat)(a0:List Int)(a0_o:Nat)(a0_n:Nat)(a1:Int)(a2:Int)(a3:Int)(a4:eP×Int)(l0:a0.length<=2^63-1)(l4_1_1:a4.1.1.length<=2^63-1)(l4_1_2_2_1:a4.1.2.2.1.length<=2^63-1)(l4_1_2_2_2:a4.1.2.2.2.length<=2^63-1)(hw:a0_o+a0_n<=a0.length/\a0.length<=1048576)(hr:InR a4.1.1.length a0)(hab:0<=a1/\a1<=a2/\a2<=↑a0_n)(hlt:tN (a2 - a1) < nr+1)(ihr:∀(a0:List Int)(a0_o:Nat)(a0_n:Nat)(a1:Int)(a2:Int)(a3:Int)(a4:eP×Int)(l0:a0.length<=2^63-1)(l4_1_1:a4.1.1.length<=2^63-1)(l4_1_2_2_1:a4.1.2.2.1.length<=2^63-1)(l4_1_2_2_2:a4.1.2.2.2.length<=2^63-1)(hw:a0_o+a0_n<=a0.length/\a0.length<=1048576)(hr:InR a4.1.1.length a0)(hab:0<=a1/\a1<=a2/\a2<=↑a0_n),tN (a2 - a1) < nr->Con Tryz.prog 93 [(.s 0 (0+a0_o*1) a0_n 1),(iv a1),(iv a2),(iv a3),(.f 1000075 [(.a [(.p 1 0),(iv a4.2)])])] [(.live true true (flat c3 a0)),(.live false false [(.s 2 0 a4.1.1.length 10),(iv a4.1.2.1),(.s 0 0 a0.length 1),(.s 3 0 a4.1.2.2.2.length 8)]),(.live false true (flat dC a4.1.1)),(.live false true (flat cB a4.1.2.2.2))] (.t []) [] [(.live true true (flat c3 (aW nr a0 a0_o a0_n a1 a2 a3 a4))),.un,.un,.un]) {cx:Cx} (hcx:cx.base=4)
 (n0:Nat) (g0:∀(v1:List Int) (v2 v3 v4:Int) (v5:Bool) (v6:Bool),(v1.length=a0.length)/\(InR a4.1.1.length v1)/\(a1<=v2)/\(v2<=v3)/\(v3<=a2)->tN (v3 - v2) < n0->Aw.Good Tryz.prog none 9 (bodyPost Tryz.prog Tryz.f93 (RR cx (.t []) [] [(.live true true (flat c3 (aH (bL (aW nr) a0 a0_o a0_n a1 a2 a3 a4) n0 (v1,v2,v3,v4,v5,v6)))),.un,.un,.un])) cx [] (.l gI n0::gJ) (fT nr a0 a0_o a0_n a1 a2 a3 a4 (flat c3 v1) v1.length v2 v3 v4 v5 v6)) (v23:List Int) (v24 v25 v26:Int) (v27:Bool) (v28:Bool) (v29 v30:Int):(v23.length=a0.length)/\(InR a4.1.1.length v23)/\(a1<=v24)/\(v24<=v25)/\(v25<=a2)/\(v29=v25 - v24)/\(13<=v29)/\(v24<=v30)/\(v30 < v25)/\((v23.length=a0.length))/\((InR a4.1.1.length v23))/\((a1<=v24))/\((v24<=v25))/\((v25<=a2))/\(tN (v25 - v24) < n0+1)->Aw.Good Tryz.prog none 9 (bodyPost Tryz.prog Tryz.f93 (RR cx (.t []) [] [(.live true true (flat c3 (bA (bL (aW nr) a0 a0_o a0_n a1 a2 a3 a4) n0 (bP (aW nr) a0 a0_o a0_n a1 a2 a3 a4 (v23,v24,v25,v26,v27,v28,v29,v30))))),.un,.un,.un])) cx [] (.c jK::jL n0) (iP nr a0 a0_o a0_n a1 a2 a3 a4 (flat c3 v23) v23.length v24 v25 v26 v27 v28 v29 v30):=by
 intro hi
 have hpe:=aTf (N:=a4.1.1.length) (v:=v23) (o:=a0_o) (n:=a0_n) (a:=v24) (b:=v25) (c:=((a4.1.1,a4.1.2.1,(v23,a4.1.2.2.2)),a4.2)) (q:=v30) (by omega) hi.2.1 (by omega)
 obtain⟨hpe1,hpe2,hpe3⟩:=hpe
 have hw_1:=aS (n:=v24 - 1) (by omega) (by omega)
 cases h0:(decide ((v24:Int) > 0)) with
 | true =>
  have q0:=cJ h0
  let t1:List (St Tryz.prog):=[.d h0,.i (W (v24 - 1)) a0_n,cQ aF v23 a0_o (W (v24 - 1)) 0 1,.i v30 a0_n,cQ aF v23 a0_o v30 0 1,.c [1,2,0,3] (C75 ((a4.1.1,a4.1.2.1,(v23,a4.1.2.2.2)),a4.2) (v23.getD (a0_o+tN (W (v24 - 1))) dF) (v23.getD (a0_o+tN v30) dF) (by omega) (by(try simp only [Lt]);omega) (by omega) (hi.2.1.at (by omega)) (hi.2.1.at (by omega)))]
  cases h1:(!(decide (((pL ((a4.1.1,a4.1.2.1,(v23,a4.1.2.2.2)),a4.2) (v23.getD (a0_o+tN (W (v24 - 1))) dF) (v23.getD (a0_o+tN v30) dF)):Int) < 0))) with
  | true =>
   have e:=Eq.refl (bP (aW nr) a0 a0_o a0_n a1 a2 a3 a4 (v23,v24,v25,v26,v27,v28,v29,v30));conv at e=>rhs;simp only [bP,h0,h1,aT]
   rw [e]
   refine ba (t1++[.d h1,.c [0,1,2,3] (aJb v23 a0_o a0_n v24 v25 v30 ((a4.1.1,a4.1.2.1,(v23,a4.1.2.2.2)),a4.2) (by omega) (by omega) (by(try simp only [Lt]);omega) (by omega) (by omega) hi.2.1 (by omega))]) [] [0,1,2,3,4,10,11] [] hcx (m:=n0) gI (gJ) (fT nr a0 a0_o a0_n a1 a2 a3 a4 (flat c3 (dE v23 a0_o a0_n v24 v25 v30 ((a4.1.1,a4.1.2.1,(v23,a4.1.2.2.2)),a4.2)).2) (v23.length) ((dE v23 a0_o a0_n v24 v25 v30 ((a4.1.1,a4.1.2.1,(v23,a4.1.2.2.2)),a4.2)).1) v25 v26 v27 v28) (by kernel_rfl) ?_
   have z0:v23.length=(dE v23 a0_o a0_n v24 v25 v30 ((a4.1.1,a4.1.2.1,(v23,a4.1.2.2.2)),a4.2)).2.length:=by first | omega | (simp;done)
   rw [z0]
   exact g0 ((dE v23 a0_o a0_n v24 v25 v30 ((a4.1.1,a4.1.2.1,(v23,a4.1.2.2.2)),a4.2)).2) ((dE v23 a0_o a0_n v24 v25 v30 ((a4.1.1,a4.1.2.1,(v23,a4.1.2.2.2)),a4.2)).1) v25 v26 v27 v28 (by and_intros<;>(try simp only [Lt])<;>first | omega | assumption | exact hi.2.1 | exact hi.2.2.1 | exact InR.swap hi.2.1 (by omega) (by omega) | exact InR.swap hr (by omega) (by omega) | exact hbk2 | exact hrv2 | exact hpi2 | exact hpe3 | exact hpa3 | exact hrc1b | exact hrc2b) (by omega)
  | false =>
   have e:=Eq.refl (bP (aW nr) a0 a0_o a0_n a1 a2 a3 a4 (v23,v24,v25,v26,v27,v28,v29,v30));conv at e=>rhs;simp only [bP,h0,h1,aT]
   rw [e]
   refine ga (t1++[.d h1,.z 20]) [] [0,1,2,3,4,12,13] [] hcx oV (oW n0) (nJ nr a0 a0_o a0_n a1 a2 a3 a4 (flat c3 v23) (v23.length) v24 v25 v26 v29 v30) (by kernel_rfl) ?_
   exact tH nr a0 a0_o a0_n a1 a2 a3 a4 l0 l4_1_1 l4_1_2_2_1 l4_1_2_2_2 hw hr hab hlt ihr hcx n0 g0 v23 v24 v25 v26 v29 v30 (by and_intros<;>(try simp only [Lt])<;>first | omega | assumption | exact hi.2.1 | exact hi.2.2.1 | exact InR.swap hi.2.1 (by omega) (by omega) | exact InR.swap hr (by omega) (by omega) | exact hbk2 | exact hrv2 | exact hpi2 | exact hpe3 | exact hpa3 | exact hrc1b | exact hrc2b)
 | false =>
  have q0:=cN h0
  have e:=Eq.refl (bP (aW nr) a0 a0_o a0_n a1 a2 a3 a4 (v23,v24,v25,v26,v27,v28,v29,v30));conv at e=>rhs;simp only [bP,h0,aT]
  rw [e]
  refine ga [.d h0,.z 20] [] [0,1,2,3,4,12,13] [] hcx oV (oW n0) (nJ nr a0 a0_o a0_n a1 a2 a3 a4 (flat c3 v23) (v23.length) v24 v25 v26 v29 v30) (by kernel_rfl) ?_
  exact tH nr a0 a0_o a0_n a1 a2 a3 a4 l0 l4_1_1 l4_1_2_2_1 l4_1_2_2_2 hw hr hab hlt ihr hcx n0 g0 v23 v24 v25 v26 v29 v30 (by and_intros<;>(try simp only [Lt])<;>first | omega | assumption | exact hi.2.1 | exact hi.2.2.1 | exact InR.swap hi.2.1 (by omega) (by omega) | exact InR.swap hr (by omega) (by omega) | exact hbk2 | exact hrv2 | exact hpi2 | exact hpe3 | exact hpa3 | exact hrc1b | exact hrc2b)
theorem tI (nr:Nat)(a0:List Int)(a0_o:Nat)(a0_n:Nat)(a1:Int)(a2:Int)(a3:Int)(a4:eP×Int)(l0:a0.length<=2^63-1)(l4_1_1:a4.1.1.length<=2^63-1)(l4_1_2_2_1:a4.1.2.2.1.length<=2^63-1)(l4_1_2_2_2:a4.1.2.2.2.length<=2^63-1)(hw:a0_o+a0_n<=a0.length/\a0.length<=1048576)(hr:InR a4.1.1.length a0)(hab:0<=a1/\a1<=a2/\a2<=↑a0_n)(hlt:tN (a2 - a1) < nr+1)(ihr:∀(a0:List Int)(a0_o:Nat)(a0_n:Nat)(a1:Int)(a2:Int)(a3:Int)(a4:eP×Int)(l0:a0.length<=2^63-1)(l4_1_1:a4.1.1.length<=2^63-1)(l4_1_2_2_1:a4.1.2.2.1.length<=2^63-1)(l4_1_2_2_2:a4.1.2.2.2.length<=2^63-1)(hw:a0_o+a0_n<=a0.length/\a0.length<=1048576)(hr:InR a4.1.1.length a0)(hab:0<=a1/\a1<=a2/\a2<=↑a0_n),tN (a2 - a1) < nr->Con Tryz.prog 93 [(.s 0 (0+a0_o*1) a0_n 1),(iv a1),(iv a2),(iv a3),(.f 1000075 [(.a [(.p 1 0),(iv a4.2)])])] [(.live true true (flat c3 a0)),(.live false false [(.s 2 0 a4.1.1.length 10),(iv a4.1.2.1),(.s 0 0 a0.length 1),(.s 3 0 a4.1.2.2.2.length 8)]),(.live false true (flat dC a4.1.1)),(.live false true (flat cB a4.1.2.2.2))] (.t []) [] [(.live true true (flat c3 (aW nr a0 a0_o a0_n a1 a2 a3 a4))),.un,.un,.un]) {cx:Cx} (hcx:cx.base=4)
 (n0:Nat) (g0:∀(v1:List Int) (v2 v3 v4:Int) (v5:Bool) (v6:Bool),(v1.length=a0.length)/\(InR a4.1.1.length v1)/\(a1<=v2)/\(v2<=v3)/\(v3<=a2)->tN (v3 - v2) < n0->Aw.Good Tryz.prog none 9 (bodyPost Tryz.prog Tryz.f93 (RR cx (.t []) [] [(.live true true (flat c3 (aH (bL (aW nr) a0 a0_o a0_n a1 a2 a3 a4) n0 (v1,v2,v3,v4,v5,v6)))),.un,.un,.un])) cx [] (.l gI n0::gJ) (fT nr a0 a0_o a0_n a1 a2 a3 a4 (flat c3 v1) v1.length v2 v3 v4 v5 v6)) (v14:List Int) (v15 v16 v17:Int) (v18:Bool) (v19:Bool) (v20 v21 v22:Int):(v14.length=a0.length)/\(InR a4.1.1.length v14)/\(a1<=v15)/\(v15<=v16)/\(v16<=a2)/\(v20=v16 - v15)/\(13<=v20)/\(v15<=v21)/\(v21 < v16)/\((v14.length=a0.length))/\((InR a4.1.1.length v14))/\((a1<=v15))/\((v15<=v16))/\((v16<=a2))/\(tN (v16 - v15) < n0+1)->Aw.Good Tryz.prog none 9 (bodyPost Tryz.prog Tryz.f93 (RR cx (.t []) [] [(.live true true (flat c3 (bA (bL (aW nr) a0 a0_o a0_n a1 a2 a3 a4) n0 (bX (aW nr) a0 a0_o a0_n a1 a2 a3 a4 (v14,v15,v16,v17,v18,v19,v20,v21,v22))))),.un,.un,.un])) cx [] (.c oX::oY n0) (nK nr a0 a0_o a0_n a1 a2 a3 a4 (flat c3 v14) v14.length v15 v16 v17 v18 v19 v20 v21 v22):=by
 intro hi
 have hpi:=aTd (N:=a4.1.1.length) (v:=v14) (o:=a0_o) (n:=a0_n) (a:=v15) (b:=v16) (c:=((a4.1.1,a4.1.2.1,(v14,a4.1.2.2.2)),a4.2)) (by omega) hi.2.1 (by omega)
 obtain⟨hpi1,hpi2⟩:=hpi
 rcases vP v18 with h0 | h0
 ·skip
  let t1:List (St Tryz.prog):=[.d h0]
  rcases vP v19 with h1 | h1
  ·skip
   let t2:List (St Tryz.prog):=(t1++[.d h1])
   cases h2:((v22:Int) == 1) with
   | true =>
    have q2:=eq_of_beq h2
    let t3:List (St Tryz.prog):=(t2++[.d h2,.c [0,1,2,3] (aJc v14 a0_o a0_n v15 v16 ((a4.1.1,a4.1.2.1,(v14,a4.1.2.2.2)),a4.2) (by omega) (by omega) (by(try simp only [Lt]);omega) (by omega) (by omega) hi.2.1 (by omega))])
    cases h3:(cV v14 a0_o a0_n v15 v16 ((a4.1.1,a4.1.2.1,(v14,a4.1.2.2.2)),a4.2)).1 with
    | true =>
     have e:=Eq.refl (bX (aW nr) a0 a0_o a0_n a1 a2 a3 a4 (v14,v15,v16,v17,v18,v19,v20,v21,v22));conv at e=>rhs;simp only [bX,h0,h1,h2,h3,aT]
     rw [e]
     try dsimp only [bA]
     try dsimp only
     try rw [show List.length (α:=Int) (cV v14 a0_o a0_n v15 v16 ((a4.1.1,a4.1.2.1,(v14,a4.1.2.2.2)),a4.2)).2=v14.length from by first | simp;done | omega]
     exact wW (t3++[.d h3]) [] [0] [] hcx (by kernel_rfl)
    | false =>
     have e:bX (aW nr) a0 a0_o a0_n a1 a2 a3 a4 (v14,v15,v16,v17,v18,v19,v20,v21,v22)=(bP (aW nr) a0 a0_o a0_n a1 a2 a3 a4 ((cV v14 a0_o a0_n v15 v16 ((a4.1.1,a4.1.2.1,(v14,a4.1.2.2.2)),a4.2)).2,v15,v16,v17,v18,v19,v20,v21)):=by simp only [bX,h0,h1,h2,h3,aT]
     rw [e]
     refine ga (t3++[.d h3,.z 17]) [] [0,1,2,3,4,10,11,12,13] [] hcx jK (jL n0) (iP nr a0 a0_o a0_n a1 a2 a3 a4 (flat c3 (cV v14 a0_o a0_n v15 v16 ((a4.1.1,a4.1.2.1,(v14,a4.1.2.2.2)),a4.2)).2) (v14.length) v15 v16 v17 v18 v19 v20 v21) (by kernel_rfl) ?_
     have z0:v14.length=(cV v14 a0_o a0_n v15 v16 ((a4.1.1,a4.1.2.1,(v14,a4.1.2.2.2)),a4.2)).2.length:=by first | omega | (simp;done)
     rw [z0]
     exact lO nr a0 a0_o a0_n a1 a2 a3 a4 l0 l4_1_1 l4_1_2_2_1 l4_1_2_2_2 hw hr hab hlt ihr hcx n0 g0 ((cV v14 a0_o a0_n v15 v16 ((a4.1.1,a4.1.2.1,(v14,a4.1.2.2.2)),a4.2)).2) v15 v16 v17 v18 v19 v20 v21 (by and_intros<;>(try simp only [Lt])<;>first | omega | assumption | exact hi.2.1 | exact hi.2.2.1 | exact InR.swap hi.2.1 (by omega) (by omega) | exact InR.swap hr (by omega) (by omega) | exact hbk2 | exact hrv2 | exact hpi2 | exact hpe3 | exact hpa3 | exact hrc1b | exact hrc2b)
   | false =>
    have q2:=ne_of_beq_false h2
    have e:bX (aW nr) a0 a0_o a0_n a1 a2 a3 a4 (v14,v15,v16,v17,v18,v19,v20,v21,v22)=(bP (aW nr) a0 a0_o a0_n a1 a2 a3 a4 (v14,v15,v16,v17,v18,v19,v20,v21)):=by simp only [bX,h0,h1,h2,aT]
    rw [e]
    refine ga (t2++[.d h2,.z 17]) [] [0,1,2,3,4,10,11,12,13] [] hcx jK (jL n0) (iP nr a0 a0_o a0_n a1 a2 a3 a4 (flat c3 v14) (v14.length) v15 v16 v17 v18 v19 v20 v21) (by kernel_rfl) ?_
    exact lO nr a0 a0_o a0_n a1 a2 a3 a4 l0 l4_1_1 l4_1_2_2_1 l4_1_2_2_2 hw hr hab hlt ihr hcx n0 g0 v14 v15 v16 v17 v18 v19 v20 v21 (by and_intros<;>(try simp only [Lt])<;>first | omega | assumption | exact hi.2.1 | exact hi.2.2.1 | exact InR.swap hi.2.1 (by omega) (by omega) | exact InR.swap hr (by omega) (by omega) | exact hbk2 | exact hrv2 | exact hpi2 | exact hpe3 | exact hpa3 | exact hrc1b | exact hrc2b)
  ·skip
   have e:bX (aW nr) a0 a0_o a0_n a1 a2 a3 a4 (v14,v15,v16,v17,v18,v19,v20,v21,v22)=(bP (aW nr) a0 a0_o a0_n a1 a2 a3 a4 (v14,v15,v16,v17,v18,v19,v20,v21)):=by simp only [bX,h0,h1,aT]
   rw [e]
   refine ga (t1++[.d h1,.z 17]) [] [0,1,2,3,4,10,11,12,13] [] hcx jK (jL n0) (iP nr a0 a0_o a0_n a1 a2 a3 a4 (flat c3 v14) (v14.length) v15 v16 v17 v18 v19 v20 v21) (by kernel_rfl) ?_
   exact lO nr a0 a0_o a0_n a1 a2 a3 a4 l0 l4_1_1 l4_1_2_2_1 l4_1_2_2_2 hw hr hab hlt ihr hcx n0 g0 v14 v15 v16 v17 v18 v19 v20 v21 (by and_intros<;>(try simp only [Lt])<;>first | omega | assumption | exact hi.2.1 | exact hi.2.2.1 | exact InR.swap hi.2.1 (by omega) (by omega) | exact InR.swap hr (by omega) (by omega) | exact hbk2 | exact hrv2 | exact hpi2 | exact hpe3 | exact hpa3 | exact hrc1b | exact hrc2b)
 ·skip
  have e:bX (aW nr) a0 a0_o a0_n a1 a2 a3 a4 (v14,v15,v16,v17,v18,v19,v20,v21,v22)=(bP (aW nr) a0 a0_o a0_n a1 a2 a3 a4 (v14,v15,v16,v17,v18,v19,v20,v21)):=by simp only [bX,h0,aT]
  rw [e]
  refine ga [.d h0,.z 17] [] [0,1,2,3,4,10,11,12,13] [] hcx jK (jL n0) (iP nr a0 a0_o a0_n a1 a2 a3 a4 (flat c3 v14) (v14.length) v15 v16 v17 v18 v19 v20 v21) (by kernel_rfl) ?_
  exact lO nr a0 a0_o a0_n a1 a2 a3 a4 l0 l4_1_1 l4_1_2_2_1 l4_1_2_2_2 hw hr hab hlt ihr hcx n0 g0 v14 v15 v16 v17 v18 v19 v20 v21 (by and_intros<;>(try simp only [Lt])<;>first | omega | assumption | exact hi.2.1 | exact hi.2.2.1 | exact InR.swap hi.2.1 (by omega) (by omega) | exact InR.swap hr (by omega) (by omega) | exact hbk2 | exact hrv2 | exact hpi2 | exact hpe3 | exact hpa3 | exact hrc1b | exact hrc2b)
theorem tJ (nr:Nat)(a0:List Int)(a0_o:Nat)(a0_n:Nat)(a1:Int)(a2:Int)(a3:Int)(a4:eP×Int)(l0:a0.length<=2^63-1)(l4_1_1:a4.1.1.length<=2^63-1)(l4_1_2_2_1:a4.1.2.2.1.length<=2^63-1)(l4_1_2_2_2:a4.1.2.2.2.length<=2^63-1)(hw:a0_o+a0_n<=a0.length/\a0.length<=1048576)(hr:InR a4.1.1.length a0)(hab:0<=a1/\a1<=a2/\a2<=↑a0_n)(hlt:tN (a2 - a1) < nr+1)(ihr:∀(a0:List Int)(a0_o:Nat)(a0_n:Nat)(a1:Int)(a2:Int)(a3:Int)(a4:eP×Int)(l0:a0.length<=2^63-1)(l4_1_1:a4.1.1.length<=2^63-1)(l4_1_2_2_1:a4.1.2.2.1.length<=2^63-1)(l4_1_2_2_2:a4.1.2.2.2.length<=2^63-1)(hw:a0_o+a0_n<=a0.length/\a0.length<=1048576)(hr:InR a4.1.1.length a0)(hab:0<=a1/\a1<=a2/\a2<=↑a0_n),tN (a2 - a1) < nr->Con Tryz.prog 93 [(.s 0 (0+a0_o*1) a0_n 1),(iv a1),(iv a2),(iv a3),(.f 1000075 [(.a [(.p 1 0),(iv a4.2)])])] [(.live true true (flat c3 a0)),(.live false false [(.s 2 0 a4.1.1.length 10),(iv a4.1.2.1),(.s 0 0 a0.length 1),(.s 3 0 a4.1.2.2.2.length 8)]),(.live false true (flat dC a4.1.1)),(.live false true (flat cB a4.1.2.2.2))] (.t []) [] [(.live true true (flat c3 (aW nr a0 a0_o a0_n a1 a2 a3 a4))),.un,.un,.un]) {cx:Cx} (hcx:cx.base=4)
 (n0:Nat) (g0:∀(v1:List Int) (v2 v3 v4:Int) (v5:Bool) (v6:Bool),(v1.length=a0.length)/\(InR a4.1.1.length v1)/\(a1<=v2)/\(v2<=v3)/\(v3<=a2)->tN (v3 - v2) < n0->Aw.Good Tryz.prog none 9 (bodyPost Tryz.prog Tryz.f93 (RR cx (.t []) [] [(.live true true (flat c3 (aH (bL (aW nr) a0 a0_o a0_n a1 a2 a3 a4) n0 (v1,v2,v3,v4,v5,v6)))),.un,.un,.un])) cx [] (.l gI n0::gJ) (fT nr a0 a0_o a0_n a1 a2 a3 a4 (flat c3 v1) v1.length v2 v3 v4 v5 v6)) (v7:List Int) (v8 v9 v10:Int) (v11:Bool) (v12:Bool) (v13:Int):(v7.length=a0.length)/\(InR a4.1.1.length v7)/\(a1<=v8)/\(v8<=v9)/\(v9<=a2)/\(v13=v9 - v8)/\(13<=v13)/\((v7.length=a0.length))/\((InR a4.1.1.length v7))/\((a1<=v8))/\((v8<=v9))/\((v9<=a2))/\(tN (v9 - v8) < n0+1)->Aw.Good Tryz.prog none 9 (bodyPost Tryz.prog Tryz.f93 (RR cx (.t []) [] [(.live true true (flat c3 (bA (bL (aW nr) a0 a0_o a0_n a1 a2 a3 a4) n0 (dZ (aW nr) a0 a0_o a0_n a1 a2 a3 a4 (v7,v8,v9,v10,v11,v12,v13))))),.un,.un,.un])) cx [] (.c oZ::pA n0) (nL nr a0 a0_o a0_n a1 a2 a3 a4 (flat c3 v7) v7.length v8 v9 v10 v11 v12 v13):=by
 intro hi
 have hrv:=aTb (N:=a4.1.1.length) (v:=v7) (o:=a0_o) (n:=a0_n) (a:=v8) (b:=v9) (c:=((a4.1.1,a4.1.2.1,(v7,a4.1.2.2.2)),a4.2)) (by omega) hi.2.1 (by omega)
 obtain⟨hrv1,hrv2⟩:=hrv
 have hcp:=aTc (v:=v7) (o:=a0_o) (n:=a0_n) (a:=v8) (b:=v9) (c:=((a4.1.1,a4.1.2.1,(v7,a4.1.2.2.2)),a4.2)) (by omega) (by omega)
 have hw_1:=aS (n:=v9 - 1) (by omega) (by omega)
 have hw_2:=aS (n:=(bD v7 a0_o a0_n v8 v9 ((a4.1.1,a4.1.2.1,(v7,a4.1.2.2.2)),a4.2)).1 - v8) (by omega) (by omega)
 have hw_3:=aS (n:=(W (v9 - 1)) - (W ((bD v7 a0_o a0_n v8 v9 ((a4.1.1,a4.1.2.1,(v7,a4.1.2.2.2)),a4.2)).1 - v8))) (by omega) (by omega)
 let t0:List (St Tryz.prog):=[.c [0,1,2,3] (aJe v7 a0_o a0_n v8 v9 ((a4.1.1,a4.1.2.1,(v7,a4.1.2.2.2)),a4.2) (by omega) (by omega) (by(try simp only [Lt]);omega) (by omega) (by omega) hi.2.1 (by omega))]
 cases h0:(((bD v7 a0_o a0_n v8 v9 ((a4.1.1,a4.1.2.1,(v7,a4.1.2.2.2)),a4.2)).2:Int) == 2) with
 | true =>
  have q0:=eq_of_beq h0
  have e:=Eq.refl (dZ (aW nr) a0 a0_o a0_n a1 a2 a3 a4 (v7,v8,v9,v10,v11,v12,v13));conv at e=>rhs;simp only [dZ,h0,aT]
  rw [e]
  refine ga (t0++[.d h0,.c [0,1,2,3] (aI9 v7 a0_o a0_n v8 v9 ((a4.1.1,a4.1.2.1,(v7,a4.1.2.2.2)),a4.2) (by omega) (by omega) (by(try simp only [Lt]);omega) (by omega) (by omega) hi.2.1 (by omega)),.z 15]) [] [0,1,2,3,4,10,11,12,13,14] [] hcx oX (oY n0) (nK nr a0 a0_o a0_n a1 a2 a3 a4 (flat c3 (fD v7 a0_o a0_n v8 v9 ((a4.1.1,a4.1.2.1,(v7,a4.1.2.2.2)),a4.2))) (v7.length) v8 v9 v10 v11 v12 v13 (W ((W (v9 - 1)) - (W ((bD v7 a0_o a0_n v8 v9 ((a4.1.1,a4.1.2.1,(v7,a4.1.2.2.2)),a4.2)).1 - v8)))) 1) (by kernel_rfl) ?_
  have z0:v7.length=(fD v7 a0_o a0_n v8 v9 ((a4.1.1,a4.1.2.1,(v7,a4.1.2.2.2)),a4.2)).length:=by first | omega | (simp;done)
  rw [z0]
  exact tI nr a0 a0_o a0_n a1 a2 a3 a4 l0 l4_1_1 l4_1_2_2_1 l4_1_2_2_2 hw hr hab hlt ihr hcx n0 g0 (fD v7 a0_o a0_n v8 v9 ((a4.1.1,a4.1.2.1,(v7,a4.1.2.2.2)),a4.2)) v8 v9 v10 v11 v12 v13 (W ((W (v9 - 1)) - (W ((bD v7 a0_o a0_n v8 v9 ((a4.1.1,a4.1.2.1,(v7,a4.1.2.2.2)),a4.2)).1 - v8)))) 1 (by and_intros<;>(try simp only [Lt])<;>first | omega | assumption | exact hi.2.1 | exact hi.2.2.1 | exact InR.swap hi.2.1 (by omega) (by omega) | exact InR.swap hr (by omega) (by omega) | exact hbk2 | exact hrv2 | exact hpi2 | exact hpe3 | exact hpa3 | exact hrc1b | exact hrc2b)
 | false =>
  have q0:=ne_of_beq_false h0
  have e:=Eq.refl (dZ (aW nr) a0 a0_o a0_n a1 a2 a3 a4 (v7,v8,v9,v10,v11,v12,v13));conv at e=>rhs;simp only [dZ,h0,aT]
  rw [e]
  refine ga (t0++[.d h0,.z 15]) [] [0,1,2,3,4,10,11,12,13,14] [] hcx oX (oY n0) (nK nr a0 a0_o a0_n a1 a2 a3 a4 (flat c3 v7) (v7.length) v8 v9 v10 v11 v12 v13 ((bD v7 a0_o a0_n v8 v9 ((a4.1.1,a4.1.2.1,(v7,a4.1.2.2.2)),a4.2)).1) ((bD v7 a0_o a0_n v8 v9 ((a4.1.1,a4.1.2.1,(v7,a4.1.2.2.2)),a4.2)).2)) (by kernel_rfl) ?_
  exact tI nr a0 a0_o a0_n a1 a2 a3 a4 l0 l4_1_1 l4_1_2_2_1 l4_1_2_2_2 hw hr hab hlt ihr hcx n0 g0 v7 v8 v9 v10 v11 v12 v13 ((bD v7 a0_o a0_n v8 v9 ((a4.1.1,a4.1.2.1,(v7,a4.1.2.2.2)),a4.2)).1) ((bD v7 a0_o a0_n v8 v9 ((a4.1.1,a4.1.2.1,(v7,a4.1.2.2.2)),a4.2)).2) (by and_intros<;>(try simp only [Lt])<;>first | omega | assumption | exact hi.2.1 | exact hi.2.2.1 | exact InR.swap hi.2.1 (by omega) (by omega) | exact InR.swap hr (by omega) (by omega) | exact hbk2 | exact hrv2 | exact hpi2 | exact hpe3 | exact hpa3 | exact hrc1b | exact hrc2b)
theorem aHc (nr:Nat)(a0:List Int)(a0_o:Nat)(a0_n:Nat)(a1:Int)(a2:Int)(a3:Int)(a4:eP×Int)(l0:a0.length<=2^63-1)(l4_1_1:a4.1.1.length<=2^63-1)(l4_1_2_2_1:a4.1.2.2.1.length<=2^63-1)(l4_1_2_2_2:a4.1.2.2.2.length<=2^63-1)(hw:a0_o+a0_n<=a0.length/\a0.length<=1048576)(hr:InR a4.1.1.length a0)(hab:0<=a1/\a1<=a2/\a2<=↑a0_n)(hlt:tN (a2 - a1) < nr+1)(ihr:∀(a0:List Int)(a0_o:Nat)(a0_n:Nat)(a1:Int)(a2:Int)(a3:Int)(a4:eP×Int)(l0:a0.length<=2^63-1)(l4_1_1:a4.1.1.length<=2^63-1)(l4_1_2_2_1:a4.1.2.2.1.length<=2^63-1)(l4_1_2_2_2:a4.1.2.2.2.length<=2^63-1)(hw:a0_o+a0_n<=a0.length/\a0.length<=1048576)(hr:InR a4.1.1.length a0)(hab:0<=a1/\a1<=a2/\a2<=↑a0_n),tN (a2 - a1) < nr->Con Tryz.prog 93 [(.s 0 (0+a0_o*1) a0_n 1),(iv a1),(iv a2),(iv a3),(.f 1000075 [(.a [(.p 1 0),(iv a4.2)])])] [(.live true true (flat c3 a0)),(.live false false [(.s 2 0 a4.1.1.length 10),(iv a4.1.2.1),(.s 0 0 a0.length 1),(.s 3 0 a4.1.2.2.2.length 8)]),(.live false true (flat dC a4.1.1)),(.live false true (flat cB a4.1.2.2.2))] (.t []) [] [(.live true true (flat c3 (aW nr a0 a0_o a0_n a1 a2 a3 a4))),.un,.un,.un]) {cx:Cx} (hcx:cx.base=4):∀(n:Nat) (v1:List Int) (v2 v3 v4:Int) (v5:Bool) (v6:Bool),(v1.length=a0.length)/\(InR a4.1.1.length v1)/\(a1<=v2)/\(v2<=v3)/\(v3<=a2)->tN (v3 - v2) < n->Aw.Good Tryz.prog none 9 (bodyPost Tryz.prog Tryz.f93 (RR cx (.t []) [] [(.live true true (flat c3 (aH (bL (aW nr) a0 a0_o a0_n a1 a2 a3 a4) n (v1,v2,v3,v4,v5,v6)))),.un,.un,.un])) cx [] (.l gI n::gJ) (fT nr a0 a0_o a0_n a1 a2 a3 a4 (flat c3 v1) v1.length v2 v3 v4 v5 v6):=by
 intro n
 induction n with
 | zero=>intro v1 v2 v3 v4 v5 v6 hi hn;exact absurd hn (eI _)
 | succ n ih =>
  intro v1 v2 v3 v4 v5 v6 hi hn
  refine aR ?_
  have hw_l:=aS (n:=v3 - v2) (by omega) (by omega)
  have hbk:=aTa (N:=a4.1.1.length) (v:=v1) (o:=a0_o) (n:=a0_n) (a:=v2) (b:=v3) (c:=((a4.1.1,a4.1.2.1,(v1,a4.1.2.2.2)),a4.2)) (by omega) hi.2.1 (by omega)
  obtain⟨hbk1,hbk2⟩:=hbk
  cases h0:(decide (((W (v3 - v2)):Int)<=12)) with
  | true =>
   have q0:=cJ h0
   have e:=Eq.refl (bL (aW nr) a0 a0_o a0_n a1 a2 a3 a4 (v1,v2,v3,v4,v5,v6));conv at e=>rhs;simp only [bL,h0,aT]
   rw [aJ,e]
   try dsimp only [bA]
   try dsimp only
   try rw [show List.length (α:=Int) (hP v1 a0_o a0_n v2 v3 ((a4.1.1,a4.1.2.1,(v1,a4.1.2.2.2)),a4.2))=v1.length from by first | simp;done | omega]
   exact wW [.d h0,.c [0,1,2,3] (aI8 v1 a0_o a0_n v2 v3 ((a4.1.1,a4.1.2.1,(v1,a4.1.2.2.2)),a4.2) (by omega) (by omega) (by(try simp only [Lt]);omega) (by omega) (by omega) hi.2.1 (by omega))] [] [0] [] hcx (by kernel_rfl)
  | false =>
   have q0:=cN h0
   let t1:List (St Tryz.prog):=[.d h0]
   cases h1:((v4:Int) == 0) with
   | true =>
    have q1:=eq_of_beq h1
    have e:=Eq.refl (bL (aW nr) a0 a0_o a0_n a1 a2 a3 a4 (v1,v2,v3,v4,v5,v6));conv at e=>rhs;simp only [bL,h0,h1,aT]
    rw [aJ,e]
    try dsimp only [bA]
    try dsimp only
    try rw [show List.length (α:=Int) (hY v1 a0_o a0_n v2 v3 ((a4.1.1,a4.1.2.1,(v1,a4.1.2.2.2)),a4.2))=v1.length from by first | simp;done | omega]
    exact wW (t1++[.d h1,.c [0,1,2,3] (aJd v1 a0_o a0_n v2 v3 ((a4.1.1,a4.1.2.1,(v1,a4.1.2.2.2)),a4.2) (by omega) (by omega) (by(try simp only [Lt]);omega) (by omega) (by omega) hi.2.1 (by omega))]) [] [0] [] hcx (by kernel_rfl)
   | false =>
    have q1:=ne_of_beq_false h1
    let t2:List (St Tryz.prog):=(t1++[.d h1])
    cases h2:(!v5) with
    | true =>
     have e:=Eq.refl (bL (aW nr) a0 a0_o a0_n a1 a2 a3 a4 (v1,v2,v3,v4,v5,v6));conv at e=>rhs;simp only [bL,h0,h1,h2,aT]
     rw [aJ,e]
     refine ga (t2++[.d h2,.c [0,1,2,3] (aJf v1 a0_o a0_n v2 v3 ((a4.1.1,a4.1.2.1,(v1,a4.1.2.2.2)),a4.2) (by omega) (by omega) (by(try simp only [Lt]);omega) (by omega) (by omega) hi.2.1 (by omega)),.z 10]) [] [0,1,2,3,4,10,11,12] [] hcx oZ (pA n) (nL nr a0 a0_o a0_n a1 a2 a3 a4 (flat c3 (eT v1 a0_o a0_n v2 v3 ((a4.1.1,a4.1.2.1,(v1,a4.1.2.2.2)),a4.2))) (v1.length) v2 v3 (W (v4 - 1)) v5 v6 (W (v3 - v2))) (by kernel_rfl) ?_
     have z0:v1.length=(eT v1 a0_o a0_n v2 v3 ((a4.1.1,a4.1.2.1,(v1,a4.1.2.2.2)),a4.2)).length:=by first | omega | (simp;done)
     rw [z0]
     exact tJ nr a0 a0_o a0_n a1 a2 a3 a4 l0 l4_1_1 l4_1_2_2_1 l4_1_2_2_2 hw hr hab hlt ihr hcx n ih (eT v1 a0_o a0_n v2 v3 ((a4.1.1,a4.1.2.1,(v1,a4.1.2.2.2)),a4.2)) v2 v3 (W (v4 - 1)) v5 v6 (W (v3 - v2)) (by and_intros<;>(try simp only [Lt])<;>first | omega | assumption | exact hi.2.1 | exact hi.2.2.1 | exact InR.swap hi.2.1 (by omega) (by omega) | exact InR.swap hr (by omega) (by omega) | exact hbk2 | exact hrv2 | exact hpi2 | exact hpe3 | exact hpa3 | exact hrc1b | exact hrc2b)
    | false =>
     have e:=Eq.refl (bL (aW nr) a0 a0_o a0_n a1 a2 a3 a4 (v1,v2,v3,v4,v5,v6));conv at e=>rhs;simp only [bL,h0,h1,h2,aT]
     rw [aJ,e]
     refine ga (t2++[.d h2,.z 10]) [] [0,1,2,3,4,10,11,12] [] hcx oZ (pA n) (nL nr a0 a0_o a0_n a1 a2 a3 a4 (flat c3 v1) (v1.length) v2 v3 v4 v5 v6 (W (v3 - v2))) (by kernel_rfl) ?_
     exact tJ nr a0 a0_o a0_n a1 a2 a3 a4 l0 l4_1_1 l4_1_2_2_1 l4_1_2_2_2 hw hr hab hlt ihr hcx n ih v1 v2 v3 v4 v5 v6 (W (v3 - v2)) (by and_intros<;>(try simp only [Lt])<;>first | omega | assumption | exact hi.2.1 | exact hi.2.2.1 | exact InR.swap hi.2.1 (by omega) (by omega) | exact InR.swap hr (by omega) (by omega) | exact hbk2 | exact hrv2 | exact hpi2 | exact hpe3 | exact hpa3 | exact hrc1b | exact hrc2b)
theorem aJg:∀(nr:Nat) (a0:List Int) (a0_o:Nat) (a0_n:Nat) (a1:Int) (a2:Int) (a3:Int) (a4:eP×Int) (l0:a0.length<=2^63-1) (l4_1_1:a4.1.1.length<=2^63-1) (l4_1_2_2_1:a4.1.2.2.1.length<=2^63-1) (l4_1_2_2_2:a4.1.2.2.2.length<=2^63-1) (hw:a0_o+a0_n<=a0.length/\a0.length<=1048576) (hr:InR a4.1.1.length a0) (hab:0<=a1/\a1<=a2/\a2<=↑a0_n),tN (a2 - a1) < nr->Con Tryz.prog 93 [(.s 0 (0+a0_o*1) a0_n 1),(iv a1),(iv a2),(iv a3),(.f 1000075 [(.a [(.p 1 0),(iv a4.2)])])] [(.live true true (flat c3 a0)),(.live false false [(.s 2 0 a4.1.1.length 10),(iv a4.1.2.1),(.s 0 0 a0.length 1),(.s 3 0 a4.1.2.2.2.length 8)]),(.live false true (flat dC a4.1.1)),(.live false true (flat cB a4.1.2.2.2))] (.t []) [] [(.live true true (flat c3 (aW nr a0 a0_o a0_n a1 a2 a3 a4))),.un,.un,.un]:=by
 intro nr
 induction nr with
 | zero=>intro a0 a0_o a0_n a1 a2 a3 a4 l0 l4_1_1 l4_1_2_2_1 l4_1_2_2_2 hw hr hab hlt;exact absurd hlt (eI _)
 | succ nr ihr =>
 intro a0 a0_o a0_n a1 a2 a3 a4 l0 l4_1_1 l4_1_2_2_1 l4_1_2_2_2 hw hr hab hlt
 refine aY Tryz.func93 (by kernel_rfl) fun cx hcx=>?_
 have e:=Eq.refl (aW (nr+1) a0 a0_o a0_n a1 a2 a3 a4);conv at e=>rhs;simp only [aW]
 rw [e]
 refine en [] [] [0,1,2,3,4,10,11] [] hcx gI (gJ) (fT nr a0 a0_o a0_n a1 a2 a3 a4 (flat c3 a0) (a0.length) a1 a2 a3 true true) (tN (a2 - a1)+1) (by kernel_rfl) ?_
 exact aHc nr a0 a0_o a0_n a1 a2 a3 a4 l0 l4_1_1 l4_1_2_2_1 l4_1_2_2_2 hw hr hab hlt ihr hcx (tN (a2 - a1)+1) a0 a1 a2 a3 true true (by and_intros<;>(try simp only [Lt])<;>first | omega | assumption | exact hi.2.1 | exact hi.2.2.1 | exact InR.swap hi.2.1 (by omega) (by omega) | exact InR.swap hr (by omega) (by omega) | exact hbk2 | exact hrv2 | exact hpi2 | exact hpe3 | exact hpa3 | exact hrc1b | exact hrc2b) (by omega)
theorem aMy (a0:List Int)(a0_o:Nat)(a0_n:Nat)(a1:Int)(a2:Int)(a3:Int)(a4:eP×Int)(l0:a0.length<=2^63-1)(l4_1_1:a4.1.1.length<=2^63-1)(l4_1_2_2_1:a4.1.2.2.1.length<=2^63-1)(l4_1_2_2_2:a4.1.2.2.2.length<=2^63-1)(hw:a0_o+a0_n<=a0.length/\a0.length<=1048576)(hr:InR a4.1.1.length a0)(hab:0<=a1/\a1<=a2/\a2<=↑a0_n):Con Tryz.prog 93 [(.s 0 (0+a0_o*1) a0_n 1),(iv a1),(iv a2),(iv a3),(.f 1000075 [(.a [(.p 1 0),(iv a4.2)])])] [(.live true true (flat c3 a0)),(.live false false [(.s 2 0 a4.1.1.length 10),(iv a4.1.2.1),(.s 0 0 a0.length 1),(.s 3 0 a4.1.2.2.2.length 8)]),(.live false true (flat dC a4.1.1)),(.live false true (flat cB a4.1.2.2.2))] (.t []) [] [(.live true true (flat c3 (sQ a0 a0_o a0_n a1 a2 a3 a4))),.un,.un,.un]:=aJg (tN (a2 - a1)+1) a0 a0_o a0_n a1 a2 a3 a4 l0 l4_1_1 l4_1_2_2_1 l4_1_2_2_2 hw hr hab (lss _)
end Go.Proofs.YtkdfcbmcgnaicaaGreat
namespace Go.Proofs.YtkdfcbmcgnaicaaGreat
open Go.Proofs Go.Aw Go.RowKit
set_option maxRecDepth 100000
section
open Go.Sort
variable {o n : Nat} {l l0 : List Int} {c : rG} {nr m : Nat} {a1 a2 a3 : Int}
def PqT (l:List Int)(o n:Nat)(rr:List Int->Nat->Nat->Int->Int->Int->rG->List Int)(l0:List Int)(a1 a2 a3:Int)(c:rG)(m:Nat)(x:(List Int×Int×Int×Int×Bool×Bool)⊕List Int)(t:Array Int):Prop :=
 bA (bL rr l0 o n a1 a2 a3 c) m x=wp l o t/\t.size=n
variable {rr : List Int → Nat → Nat → Int → Int → Int → rG → List Int}
 (hl:o+n<=l.length) (hn:n<=1048576)
 (Hr:∀(c:rG) (d:Array Int) (a b lim:Nat),d.size=n->a<=b->b<=n->lim<=1048576->b - a < nr->rr (wp l o d) o n (a:Int) (b:Int) (lim:Int) c=wp l o (pdq (bK c) d a b lim true true)/\(pdq (bK c) d a b lim true true).size=n)
 (Hm:∀(d:Array Int) (a b lim:Nat) (w1 w2:Bool),d.size=n->a<=b->b<=n->lim<=1048576->b - a < m->b - a<=nr->aH (bL rr l0 o n a1 a2 a3 c) m (wp l o d,(a:Int),(b:Int),(lim:Int),w1,w2)=wp l o (pdq (bK c) d a b lim w1 w2)/\(pdq (bK c) d a b lim w1 w2).size=n)
include hl hn Hr Hm
theorem aV6 {d:Array Int} {a b lim q:Nat} (hd:d.size=n)(hq:a<=q/\q < b)(hb:b<=n)(hli:lim<=1048576)(hm:b - a<=m)(hnr:b - a<=nr) :
 PqT l o n rr l0 a1 a2 a3 c m (dY rr l0 o n a1 a2 a3 c (wp l o d,(a:Int),(b:Int),(lim:Int),((b - a:Nat):Int),(q:Int)))
  (match partition (bK c) d a b q with
   | (mid,alreadyPartitioned,d4) =>
    if _h:a<=mid/\mid < b then
     if mid - a < b - mid then pdq (bK c) (pdq (bK c) d4 a mid lim true true) (mid+1) b lim (decide (mid - a≥(b - a) / 8)) alreadyPartitioned
     else pdq (bK c) (pdq (bK c) d4 (mid+1) b lim true true) a mid lim (decide (b - mid≥(b - a) / 8)) alreadyPartitioned
    else d4):=by
 have hp:aN (wp l o d) o n (a:Int) (b:Int) (q:Int) ((c.1.1,c.1.2.1,(wp l o d,c.1.2.2.2)),c.2)=_:=aOx (l:=l) (c:=((c.1.1,c.1.2.1,(wp l o d,c.1.2.2.2)),c.2)) hl hn hd hq.1 hq.2 hb
 obtain⟨r1,r2,r3,_⟩:=partition_holds (lt:=bK c) (mU c) d a b q hq.1 hq.2 (by omega)
 have hp':aN (wp l o d) o n (a:Int) (b:Int) (q:Int) ((c.1.1,c.1.2.1,(wp l o d,c.1.2.2.2)),c.2)=(((partition (bK c) d a b q).1:Int),(partition (bK c) d a b q).2.1,wp l o (partition (bK c) d a b q).2.2):=hp
 clear hp
 generalize partition (bK c) d a b q=pt at hp' r1 r2 r3 ⊢
 obtain⟨mid,ap,d4⟩:=pt
 dsimp only at hp' r1 r2 r3 ⊢
 have hd4:d4.size=n:=by rw [r3.1];exact hd
 rw [dif_pos ⟨r1,r2⟩]
 have e8:W (Int.tdiv ((b - a:Nat):Int) 8)=(((b - a) / 8:Nat):Int):=by rw [Int.tdiv_eq_ediv_of_nonneg (by omega)];exact wN (by omega) (by omega)
 unfold PqT
 simp only [dY,hp',e8,wN (x:=(mid:Int) - (a:Int)) (n:=mid - a) (by omega) (by omega),wN (x:=(b:Int) - (mid:Int)) (n:=b - mid) (by omega) (by omega),wN (x:=(mid:Int)+1) (n:=mid+1) (by omega) (by omega)]
 by_cases h:mid - a < b - mid
 ·rw [cH (show((mid - a:Nat):Int) < ((b - mid:Nat):Int) by omega),cond_true,if_pos h]
  have h1:=Hr ((c.1.1,c.1.2.1,(wp l o d4,c.1.2.2.2)),c.2) d4 a mid lim hd4 r1 (by omega) hli (by omega)
  rw [h1.1]
  have hd5:decide (((mid - a:Nat):Int)≥(((b - a) / 8:Nat):Int))=decide (mid - a≥(b - a) / 8):=by
   by_cases h8:mid - a≥(b - a) / 8
   ·rw [cH h8];exact cH (by omega)
   ·rw [dA h8];exact dA (by omega)
  rw [hd5]
  exact Hm (pdq (bK c) d4 a mid lim true true) (mid+1) b lim _ _ h1.2 (by omega) hb hli (by omega) (by omega)
 ·rw [dA (show ¬((mid - a:Nat):Int) < ((b - mid:Nat):Int) by omega),cond_false,if_neg h]
  have h1:=Hr ((c.1.1,c.1.2.1,(wp l o d4,c.1.2.2.2)),c.2) d4 (mid+1) b lim hd4 (by omega) hb hli (by omega)
  rw [h1.1]
  have hd5:decide (((b - mid:Nat):Int)≥(((b - a) / 8:Nat):Int))=decide (b - mid≥(b - a) / 8):=by
   by_cases h8:b - mid≥(b - a) / 8
   ·rw [cH h8];exact cH (by omega)
   ·rw [dA h8];exact dA (by omega)
  rw [hd5]
  exact Hm (pdq (bK c) d4 (mid+1) b lim true true) a mid lim _ _ h1.2 (by omega) (by omega) hli (by omega) (by omega)
theorem aTg {d:Array Int} {a b lim q:Nat} {w1 w2:Bool} (hd:d.size=n)(hq:a<=q/\q < b)(hb:b<=n)(hli:lim<=1048576)(hm:b - a<=m)(hnr:b - a<=nr) :
 PqT l o n rr l0 a1 a2 a3 c m (bP rr l0 o n a1 a2 a3 c (wp l o d,(a:Int),(b:Int),(lim:Int),w1,w2,((b - a:Nat):Int),(q:Int)))
  (if a > 0&&!bK c d[a - 1]! d[q]! then
   match partitionEqual (bK c) d a b q with
   | (mid,d4)=>if _h:a < mid/\mid<=b then pdq (bK c) d4 mid b lim w1 w2 else d4
  else match partition (bK c) d a b q with
   | (mid,alreadyPartitioned,d4) =>
    if _h:a<=mid/\mid < b then
     if mid - a < b - mid then pdq (bK c) (pdq (bK c) d4 a mid lim true true) (mid+1) b lim (decide (mid - a≥(b - a) / 8)) alreadyPartitioned
     else pdq (bK c) (pdq (bK c) d4 (mid+1) b lim true true) a mid lim (decide (b - mid≥(b - a) / 8)) alreadyPartitioned
    else d4):=by
 have h20:=aV6 (a1:=a1) (a2:=a2) (a3:=a3) (l0:=l0) (c:=c) hl hn Hr Hm hd hq hb hli hm hnr
 have hl':o+d.size<=l.length:=by omega
 unfold PqT at h20 ⊢
 simp only [bP,gT]
 by_cases h0:a > 0
 ·rw [cH (show(a:Int) > 0 by omega),cond_true,wN (x:=(a:Int) - 1) (n:=a - 1) (by omega) (by omega),fZ,fZ,cW hl' (by omega),cW hl' (by omega),cH h0,Bool.true_and]
  cases hc:bK c d[a - 1]! d[q]! with
  | true=>exact h20
  | false =>
   rw [Bool.not_false,cond_true,if_pos rfl]
   have hp:dE (wp l o d) o n (a:Int) (b:Int) (q:Int) ((c.1.1,c.1.2.1,(wp l o d,c.1.2.2.2)),c.2)=(((partitionEqual (bK c) d a b q).1:Int),wp l o (partitionEqual (bK c) d a b q).2):=aOy (l:=l) (c:=((c.1.1,c.1.2.1,(wp l o d,c.1.2.2.2)),c.2)) hl hn hd hq.1 hq.2 hb
   obtain⟨r1,r2,r3⟩:=aLp (d:=d) (bK c) (a:=a) (b:=b) (q:=q) hq.1 hq.2 (by omega)
   generalize partitionEqual (bK c) d a b q=pt at hp r1 r2 r3 ⊢
   obtain⟨mid,d4⟩:=pt
   dsimp only at hp r1 r2 r3 ⊢
   rw [dif_pos ⟨r1,r2⟩,hp]
   exact Hm d4 mid b lim w1 w2 (by rw [r3.1];exact hd) r2 hb hli (by omega) (by omega)
 ·rw [dA (show ¬(a:Int) > 0 by omega),cond_false,dA h0,Bool.false_and,if_neg Bool.false_ne_true]
  exact h20
theorem aO8 {d:Array Int} {a b lim q:Nat} {w1 w2:Bool} {hi:Hint} (hd:d.size=n)(hq:a<=q/\q < b)(hb:b<=n)(hli:lim<=1048576)(hm:b - a<=m)(hnr:b - a<=nr) :
 PqT l o n rr l0 a1 a2 a3 c m (bX rr l0 o n a1 a2 a3 c (wp l o d,(a:Int),(b:Int),(lim:Int),w1,w2,((b - a:Nat):Int),(q:Int),aLl hi))
  (let pi:=if w1&&w2&&hi=.increasing then partialInsertionSort (bK c) d a b else(d,false)
  if pi.2 then pi.1 else
  if a > 0&&!bK c pi.1[a - 1]! pi.1[q]! then
   match partitionEqual (bK c) pi.1 a b q with
   | (mid,d4)=>if _h:a < mid/\mid<=b then pdq (bK c) d4 mid b lim w1 w2 else d4
  else match partition (bK c) pi.1 a b q with
   | (mid,alreadyPartitioned,d4) =>
    if _h:a<=mid/\mid < b then
     if mid - a < b - mid then pdq (bK c) (pdq (bK c) d4 a mid lim true true) (mid+1) b lim (decide (mid - a≥(b - a) / 8)) alreadyPartitioned
     else pdq (bK c) (pdq (bK c) d4 (mid+1) b lim true true) a mid lim (decide (b - mid≥(b - a) / 8)) alreadyPartitioned
    else d4):=by
 have h17:=aTg (a1:=a1) (a2:=a2) (a3:=a3) (l0:=l0) (c:=c) (w1:=w1) (w2:=w2) hl hn Hr Hm hd hq hb hli hm hnr
 have hno:(w1&&w2&&decide (hi=.increasing))=false->PqT l o n rr l0 a1 a2 a3 c m (bP rr l0 o n a1 a2 a3 c (wp l o d,(a:Int),(b:Int),(lim:Int),w1,w2,((b - a:Nat):Int),(q:Int)))
  (let pi:=if w1&&w2&&hi=.increasing then partialInsertionSort (bK c) d a b else(d,false)
  if pi.2 then pi.1 else
  if a > 0&&!bK c pi.1[a - 1]! pi.1[q]! then
   match partitionEqual (bK c) pi.1 a b q with
   | (mid,d4)=>if _h:a < mid/\mid<=b then pdq (bK c) d4 mid b lim w1 w2 else d4
  else match partition (bK c) pi.1 a b q with
   | (mid,alreadyPartitioned,d4) =>
    if _h:a<=mid/\mid < b then
     if mid - a < b - mid then pdq (bK c) (pdq (bK c) d4 a mid lim true true) (mid+1) b lim (decide (mid - a≥(b - a) / 8)) alreadyPartitioned
     else pdq (bK c) (pdq (bK c) d4 (mid+1) b lim true true) a mid lim (decide (b - mid≥(b - a) / 8)) alreadyPartitioned
    else d4):=fun h=>by rw [h];exact h17
 simp only [bX]
 cases w1 with
 | false=>exact hno rfl
 | true =>
  cases w2 with
  | false=>exact hno rfl
  | true =>
   rw [cond_true,cond_true]
   cases hi with
   | unknown=>exact hno rfl
   | decreasing=>exact hno rfl
   | increasing =>
    have hp:cV (wp l o d) o n (a:Int) (b:Int) ((c.1.1,c.1.2.1,(wp l o d,c.1.2.2.2)),c.2)=((partialInsertionSort (bK c) d a b).2,wp l o (partialInsertionSort (bK c) d a b).1)/\(partialInsertionSort (bK c) d a b).1.size=n:=aO0 (l:=l) (c:=((c.1.1,c.1.2.1,(wp l o d,c.1.2.2.2)),c.2)) hl hn hd (by omega) hb
    rw [hp.1]
    show PqT l o n rr l0 a1 a2 a3 c m (bif (partialInsertionSort (bK c) d a b).2 then .inr (wp l o (partialInsertionSort (bK c) d a b).1) else _) (let pi:=partialInsertionSort (bK c) d a b;_)
    generalize partialInsertionSort (bK c) d a b=pt at hp ⊢
    obtain⟨d3,fin⟩:=pt
    dsimp only at hp ⊢
    cases fin with
    | true=>exact⟨rfl,hp.2⟩
    | false=>exact aTg (a1:=a1) (a2:=a2) (a3:=a3) (l0:=l0) (c:=c) (w1:=true) (w2:=true) hl hn Hr Hm hp.2 hq hb hli hm hnr
theorem aXc {d:Array Int} {a b lim:Nat} {w1 w2:Bool} (hd:d.size=n)(hab:a<=b)(hb:b<=n)(hli:lim<=1048576)(hm:b - a<=m)(hnr:b - a<=nr) :
 PqT l o n rr l0 a1 a2 a3 c m (bL rr l0 o n a1 a2 a3 c (wp l o d,(a:Int),(b:Int),(lim:Int),w1,w2)) (pdq (bK c) d a b lim w1 w2):=by
 have hw:W ((b:Int) - (a:Int))=((b - a:Nat):Int):=wN (by omega) (by omega)
 rw [pdq]
 simp only [bL,hw]
 by_cases h12:b - a<=12
 ·rw [cH (show((b - a:Nat):Int)<=12 by omega),cond_true,if_pos h12]
  have:=aOs (l:=l) (c:=((c.1.1,c.1.2.1,(wp l o d,c.1.2.2.2)),c.2)) hl hn hb (by omega) hd (a:=a)
  exact⟨this,by rw [(insertionSort_holds (mU c) d a b hab (by omega)).1.1];exact hd⟩
 ·rw [dA (show ¬((b - a:Nat):Int)<=12 by omega),cond_false,if_neg h12]
  by_cases hl0:lim=0
  ·rw [if_pos hl0,show(((lim:Nat):Int) == 0)=true by simp [hl0],cond_true]
   have:=aOw (l:=l) (c:=((c.1.1,c.1.2.1,(wp l o d,c.1.2.2.2)),c.2)) hl hn hab hb hd
   exact⟨this,by rw [(heapSort_holds (mU c) d a b hab (by omega)).1.1];exact hd⟩
  ·rw [if_neg hl0,show(((lim:Nat):Int) == 0)=false by simp [hl0],cond_false]
   have j10:∀(d1:Array Int) (lim:Nat),d1.size=n->lim<=1048576->PqT l o n rr l0 a1 a2 a3 c m (dZ rr l0 o n a1 a2 a3 c (wp l o d1,(a:Int),(b:Int),(lim:Int),w1,w2,((b - a:Nat):Int)))
    (let cc:=choosePivot (bK c) d1 a b
    let d2:=if cc.2=.decreasing then reverseRange d1 a b else d1
    let pivot:=if cc.2=.decreasing then(b - 1) - (cc.1 - a) else cc.1
    let hint:=if cc.2=.decreasing then Hint.increasing else cc.2
    let pi:=if w1&&w2&&hint=.increasing then partialInsertionSort (bK c) d2 a b else(d2,false)
    if pi.2 then pi.1 else
    if a > 0&&!bK c pi.1[a - 1]! pi.1[pivot]! then
     match partitionEqual (bK c) pi.1 a b pivot with
     | (mid,d4)=>if _h:a < mid/\mid<=b then pdq (bK c) d4 mid b lim w1 w2 else d4
    else match partition (bK c) pi.1 a b pivot with
     | (mid,alreadyPartitioned,d4) =>
      if _h:a<=mid/\mid < b then
       if mid - a < b - mid then pdq (bK c) (pdq (bK c) d4 a mid lim true true) (mid+1) b lim (decide (mid - a≥(b - a) / 8)) alreadyPartitioned
       else pdq (bK c) (pdq (bK c) d4 (mid+1) b lim true true) a mid lim (decide (b - mid≥(b - a) / 8)) alreadyPartitioned
      else d4):=fun d1 lim hd1 hli=>by
    have hc:bD (wp l o d1) o n (a:Int) (b:Int) ((c.1.1,c.1.2.1,(wp l o d1,c.1.2.2.2)),c.2)=(((choosePivot (bK c) d1 a b).1:Int),aLl (choosePivot (bK c) d1 a b).2):=aO4 (l:=l) (c:=((c.1.1,c.1.2.1,(wp l o d1,c.1.2.2.2)),c.2)) hl hn hd1 (by omega) hb
    have hr:=choosePivot_holds (bK c) d1 a b (by omega)
    simp only [dZ,hc]
    generalize choosePivot (bK c) d1 a b=pt at hr ⊢
    obtain⟨q,hi⟩:=pt
    dsimp only at hr ⊢
    cases hi with
    | unknown=>exact aO8 (hi:=.unknown) (a1:=a1) (a2:=a2) (a3:=a3) (l0:=l0) (c:=c) hl hn Hr Hm hd1 hr hb hli hm hnr
    | increasing=>exact aO8 (hi:=.increasing) (a1:=a1) (a2:=a2) (a3:=a3) (l0:=l0) (c:=c) hl hn Hr Hm hd1 hr hb hli hm hnr
    | decreasing =>
     have hv:=aOt (l:=l) (c:=((c.1.1,c.1.2.1,(wp l o d1,c.1.2.2.2)),c.2)) hl hn (a:=a) (b:=b) (by omega) hb hd1
     have e1:W ((W ((b:Int) - 1)) - (W ((q:Int) - (a:Int))))=(((b - 1) - (q - a):Nat):Int):=by
      rw [wN (x:=(b:Int) - 1) (n:=b - 1) (by omega) (by omega),wN (x:=(q:Int) - (a:Int)) (n:=q - a) (by omega) (by omega)];exact wN (by omega) (by omega)
     show PqT l o n rr l0 a1 a2 a3 c m (bX rr l0 o n a1 a2 a3 c ((fD (wp l o d1) o n (a:Int) (b:Int) ((c.1.1,c.1.2.1,(wp l o d1,c.1.2.2.2)),c.2)),(a:Int),(b:Int),(lim:Int),w1,w2,((b - a:Nat):Int),(W ((W ((b:Int) - 1)) - (W ((q:Int) - (a:Int))))),1)) _
     rw [hv,e1]
     exact aO8 (hi:=.increasing) (a1:=a1) (a2:=a2) (a3:=a3) (l0:=l0) (c:=c) hl hn Hr Hm (by rw [(reverseRange_holds d1 a b hab (by omega)).1];exact hd1) (by omega) hb hli hm hnr
   cases w1 with
   | true=>exact j10 d lim hd hli
   | false =>
    have hv:=aO6 (l:=l) (c:=((c.1.1,c.1.2.1,(wp l o d,c.1.2.2.2)),c.2)) hl hn hd hab hb
    rw [wN (x:=(lim:Int) - 1) (n:=lim - 1) (by omega) (by omega),hv]
    exact j10 (breakPatterns d a b) (lim - 1) (by rw [(breakPatterns_holds d a b hab (by omega)).1];exact hd) (by omega)
omit Hr Hm in
theorem aO9:∀(nr:Nat) (c:rG) (d:Array Int) (a b lim:Nat),d.size=n->a<=b->b<=n->lim<=1048576->b - a < nr ->
 aW nr (wp l o d) o n (a:Int) (b:Int) (lim:Int) c=wp l o (pdq (bK c) d a b lim true true)/\(pdq (bK c) d a b lim true true).size=n
 | 0,_,_,_,_,_,_,_,_,_,h=>absurd h (eI _)
 | nr+1,c,d,a,b,lim,hd,hab,hb,hli,hnr=>by
  have Hr:=fun(c:rG) (d:Array Int) (a b lim:Nat) h1 h2 h3 h4 h5=>aO9 nr c d a b lim h1 h2 h3 h4 h5
  unfold aW
  have lp:∀(m:Nat) (d':Array Int) (a' b' lim':Nat) (w1 w2:Bool),d'.size=n->a'<=b'->b'<=n->lim'<=1048576->b' - a' < m->b' - a'<=nr ->
   aH (bL (aW nr) (wp l o d) o n (a:Int) (b:Int) (lim:Int) c) m (wp l o d',(a':Int),(b':Int),(lim':Int),w1,w2)=wp l o (pdq (bK c) d' a' b' lim' w1 w2)/\(pdq (bK c) d' a' b' lim' w1 w2).size=n:=by
   intro m
   induction m with
   | zero=>intro _ _ _ _ _ _ _ _ _ _ h;exact absurd h (eI _)
   | succ m ih =>
    intro d' a' b' lim' w1 w2 h1 h2 h3 h4 h5 h6
    rw [aJ]
    exact aXc (rr:=aW nr) (nr:=nr) hl hn Hr ih h1 h2 h3 h4 (by omega) h6
  exact lp _ d a b lim true true hd hab hb hli (by omega) (by omega)
end
end Go.Proofs.YtkdfcbmcgnaicaaGreat
namespace Go.Proofs.YtkdfcbmcgnaicaaGreat
open Go.Proofs Go.Aw Go.RowKit
set_option maxRecDepth 100000
def iW (a0:List Int)(a0_o:Nat)(a0_n:Nat)(a1:eP×Int):List Int :=
 (sQ a0 a0_o a0_n 0 ((a0_n:Nat):Int) (F94 (IntKind.wrap .u64 ((a0_n:Nat):Int))) ((a1.1.1,a1.1.2.1,(a0,a1.1.2.2.2)),a1.2))
theorem aMz (a0:List Int)(a0_o:Nat)(a0_n:Nat)(a1:eP×Int)(l0:a0.length<=2^63-1)(l1_1_1:a1.1.1.length<=2^63-1)(l1_1_2_2_1:a1.1.2.2.1.length<=2^63-1)(l1_1_2_2_2:a1.1.2.2.2.length<=2^63-1)(hw:a0_o+a0_n<=a0.length/\a0.length<=1048576)(hr:InR a1.1.1.length a0):Con Tryz.prog 73 [(.s 0 (0+a0_o*1) a0_n 1),(.f 1000075 [(.a [(.p 1 0),(iv a1.2)])])] [(.live true true (flat c3 a0)),(.live false false [(.s 2 0 a1.1.1.length 10),(iv a1.1.2.1),(.s 0 0 a0.length 1),(.s 3 0 a1.1.2.2.2.length 8)]),(.live false true (flat dC a1.1.1)),(.live false true (flat cB a1.1.2.2.2))] (.t []) [] [(.live true true (flat c3 (iW a0 a0_o a0_n a1))),.un,.un,.un]:=by
 refine aY Tryz.func73 (by kernel_rfl) fun cx hcx=>?_
 have e:=Eq.refl (iW a0 a0_o a0_n a1);conv at e=>rhs;simp only [iW]
 rw [e]
 try dsimp only [bA]
 try dsimp only
 try rw [show List.length (α:=Int) (sQ a0 a0_o a0_n 0 ((a0_n:Nat):Int) (F94 (IntKind.wrap .u64 ((a0_n:Nat):Int))) ((a1.1.1,a1.1.2.1,(a0,a1.1.2.2.2)),a1.2))=a0.length from by first | simp;done | omega]
 exact rtn [.c [] (C94 (IntKind.wrap .u64 ((a0_n:Nat):Int))  (by rw [IntKind.wrap_u64];omega)),.c [0,1,2,3] (aMy a0 a0_o a0_n 0 ((a0_n:Nat):Int) (F94 (IntKind.wrap .u64 ((a0_n:Nat):Int))) ((a1.1.1,a1.1.2.1,(a0,a1.1.2.2.2)),a1.2) (by omega) (by omega) (by omega) (by omega) hw hr (by omega))] [] [0] [] hcx (by kernel_rfl)
def kT (a0:Zt×Zt×Zt):Zt×Zt×Zt :=
 a0
theorem C88 (a0:Zt×Zt×Zt):Con Tryz.prog 88 [(.a (k9 a0))] [] (.a (k9 (kT a0))) []:=by
 refine aY Tryz.func88 (by kernel_rfl) fun cx hcx=>?_
 have e:=Eq.refl (kT a0);conv at e=>rhs;simp only [kT]
 rw [e]
 exact rt [] [] [] hcx (by kernel_rfl)
def F89 (a0:Int):Int :=
 (Int.fdiv a0 (2 ^ (min (tN 1) 64)))
theorem C89 (a0:Int):Con Tryz.prog 89 [(iv a0)] [] (iv (F89 a0)) []:=by
 refine aY Tryz.func89 (by kernel_rfl) fun cx hcx=>?_
 have e:=Eq.refl (F89 a0);conv at e=>rhs;simp only [F89]
 rw [e]
 exact rt [.p (show 0<=(1:Int) from by decide)] [] [] hcx (by kernel_rfl)
noncomputable def xM:Code:=(aM [1,1,0,1] [] (aL Tryz.f70) []).1
noncomputable def xN:List K:=(aM [1,1,0,1] [] (aL Tryz.f70) []).2
def uJ (a0:bO)(a1:List Int)(v2c:List SV)(v2n:Nat)(v3:Int):LS:=⟨gD 23 [(0,(.s 0 0 a0.length 10)),(5,(.s 2 0 v2n 10)),(8,(.s 1 0 a1.length 1)),(9,(iv (a1.length:Int))),(10,(iv v3))],[(.live false true (flat dC a0)),(.live false true (flat c3 a1)),(.live true true v2c)]⟩
def gE (a0:bO)(a1:List Int):bO×Int->(bO×Int)⊕bO
 | (v2,v3) =>
  (bif (decide ((v3:Int) < (a1.length:Int))) then
   (.inl ((v2++[(a0.getD (tN (a1.getD (tN v3) dF)) dF)]),(v3+1)))
  else
   (.inr v2))
theorem aM0 (a0:bO)(a1:List Int)(l0:a0.length<=2^63-1)(l1:a1.length<=2^63-1)(hir:InR a0.length a1)(hl:a1.length<=1048576) {cx:Cx} (hcx:cx.base=2):∀(n:Nat) (v2:bO) (v3:Int),(0<=v3)/\(v2.length=tN v3)/\(v3<=a1.length)->tN ((a1.length:Int) - v3) < n->Aw.Good Tryz.prog none 9 (bodyPost Tryz.prog Tryz.f70 (RR cx (.s 2 0 (aH (gE a0 a1) n (v2,v3)).length 10) [(.live true true (flat dC (aH (gE a0 a1) n (v2,v3))))] [])) cx [] (.l xM n::xN) (uJ a0 a1 (flat dC v2) v2.length v3):=by
 intro n
 induction n with
 | zero=>intro v2 v3 hi hn;exact absurd hn (eI _)
 | succ n ih =>
  intro v2 v3 hi hn
  refine aR ?_
  cases h0:(decide ((v3:Int) < (a1.length:Int))) with
  | true =>
   have q0:=cJ h0
   try have hr1:=hir.at (i:=tN v3) (by have _:=h0;omega)
   have e:=Eq.refl (gE a0 a1 (v2,v3));conv at e=>rhs;simp only [gE,h0,aT]
   rw [aI e]
   refine ba [.d h0,.i v3 (a1.length),.L aF a1 v3 0 1,.i (a1.getD (tN v3) dF) (a0.length),.L eC a0 (a1.getD (tN v3) dF) 0 10,.p (show((flat dC v2).length=v2.length*10/\v2.length+1<=2 ^ 40/\(v2.length+1)*80<=2 ^ 47) from kG eC (by omega) (by omega))] [] [0,5,8,9,10] [4] hcx (m:=n) xM (xN) (uJ a0 a1 (flat dC v2++[(iv (a0.getD (tN (a1.getD (tN v3) dF)) dF).1.1.1),(iv (a0.getD (tN (a1.getD (tN v3) dF)) dF).1.1.2.1),(iv (a0.getD (tN (a1.getD (tN v3) dF)) dF).1.1.2.2),(iv (a0.getD (tN (a1.getD (tN v3) dF)) dF).1.2.1.1),(iv (a0.getD (tN (a1.getD (tN v3) dF)) dF).1.2.1.2.1),(iv (a0.getD (tN (a1.getD (tN v3) dF)) dF).1.2.1.2.2),(iv (a0.getD (tN (a1.getD (tN v3) dF)) dF).1.2.2.1),(iv (a0.getD (tN (a1.getD (tN v3) dF)) dF).1.2.2.2.1),(iv (a0.getD (tN (a1.getD (tN v3) dF)) dF).1.2.2.2.2),(iv (a0.getD (tN (a1.getD (tN v3) dF)) dF).2)]) (v2.length+1) (W (v3+1))) (by kernel_rfl) ?_
   have z0:(W (v3+1))=(v3+1):=aS (by omega) (by omega)
   have z1:(flat dC v2++[(iv (a0.getD (tN (a1.getD (tN v3) dF)) dF).1.1.1),(iv (a0.getD (tN (a1.getD (tN v3) dF)) dF).1.1.2.1),(iv (a0.getD (tN (a1.getD (tN v3) dF)) dF).1.1.2.2),(iv (a0.getD (tN (a1.getD (tN v3) dF)) dF).1.2.1.1),(iv (a0.getD (tN (a1.getD (tN v3) dF)) dF).1.2.1.2.1),(iv (a0.getD (tN (a1.getD (tN v3) dF)) dF).1.2.1.2.2),(iv (a0.getD (tN (a1.getD (tN v3) dF)) dF).1.2.2.1),(iv (a0.getD (tN (a1.getD (tN v3) dF)) dF).1.2.2.2.1),(iv (a0.getD (tN (a1.getD (tN v3) dF)) dF).1.2.2.2.2),(iv (a0.getD (tN (a1.getD (tN v3) dF)) dF).2)])=(flat dC (v2++[(a0.getD (tN (a1.getD (tN v3) dF)) dF)])):=(cM (c:=dC) (l:=v2) (m:=[(a0.getD (tN (a1.getD (tN v3) dF)) dF)])).symm
   have z2:(v2.length+1)=(v2++[(a0.getD (tN (a1.getD (tN v3) dF)) dF)]).length:=mI v2 [(a0.getD (tN (a1.getD (tN v3) dF)) dF)] rfl
   rw [z0,z1,z2]
   exact ih (v2++[(a0.getD (tN (a1.getD (tN v3) dF)) dF)]) (v3+1) (by refine⟨?_,?_,?_⟩<;>(try simp only [Ls])<;>first | omega | assumption | simp) (by omega)
  | false =>
   have q0:=cN h0
   have e:=Eq.refl (gE a0 a1 (v2,v3));conv at e=>rhs;simp only [gE,h0,aT]
   rw [aJ,e]
   exact rt [.d h0] [] [2] hcx (by kernel_rfl)
def gU (a0:bO)(a1:List Int):bO :=
 (aH (gE a0 a1) (tN ((a1.length:Int) - 0)+1) (([]:bO),0))
theorem aRh (a0:bO)(a1:List Int)(l0:a0.length<=2^63-1)(l1:a1.length<=2^63-1)(hir:InR a0.length a1)(hl:a1.length<=1048576):Con Tryz.prog 70 [(.s 0 0 a0.length 10),(.s 1 0 a1.length 1)] [(.live false true (flat dC a0)),(.live false true (flat c3 a1))] (.s 2 0 (gU a0 a1).length 10) [(.live true true (flat dC (gU a0 a1)))]:=by
 refine aY Tryz.func70 (by kernel_rfl) fun cx hcx=>?_
 have e:=Eq.refl (gU a0 a1);conv at e=>rhs;simp only [gU]
 rw [e]
 refine en [] [.slot 5 10] [0,5,8,9,10] [2] hcx xM (xN) (uJ a0 a1 (flat dC ([]:bO)) 0 0) (tN ((a1.length:Int) - 0)+1) (by kernel_rfl) ?_
 exact aM0 a0 a1 l0 l1 hir hl hcx (tN ((a1.length:Int) - 0)+1) ([]:bO) 0 (by refine⟨?_,?_,?_⟩<;>(try simp only [Ls])<;>first | omega | assumption | simp) (by omega)
noncomputable def aE2:Code:=(aM [1,1,0,1] [] (aL Tryz.f71) []).1
noncomputable def aE3:List K:=(aM [1,1,0,1] [] (aL Tryz.f71) []).2
def aBp (a0:bO)(v1 v2 v3 v4 v5 v6 v7:Int):LS:=⟨gD 84 [(2,(.p 1 0)),(3,(.p 2 0)),(4,(.p 3 0)),(19,(.s 0 0 a0.length 10)),(20,(iv (a0.length:Int))),(21,(iv v1))],[(.live false true (flat dC a0)),(.live true false [(iv 0),(iv 0),(iv 0)]),(.live true false [(iv v2),(iv v3),(iv v4)]),(.live true false [(iv v5),(iv v6),(iv v7)])]⟩
def iX (a0:bO):Int×Int×Int×Int×Zt->(Int×Int×Int×Int×Zt)⊕Zt
 | (v1,v2,v3,v4,v5,v6,v7) =>
  (bif (decide ((v1:Int) < (a0.length:Int))) then
   (.inl ((v1+1),(gZ (gZ (gZ v2 (kT (a0.getD (tN v1) dF).1).1.1) (kT (a0.getD (tN v1) dF).1).2.1.1) (kT (a0.getD (tN v1) dF).1).2.2.1),(gZ (gZ (gZ v3 (kT (a0.getD (tN v1) dF).1).1.2.1) (kT (a0.getD (tN v1) dF).1).2.1.2.1) (kT (a0.getD (tN v1) dF).1).2.2.2.1),(gZ (gZ (gZ v4 (kT (a0.getD (tN v1) dF).1).1.2.2) (kT (a0.getD (tN v1) dF).1).2.1.2.2) (kT (a0.getD (tN v1) dF).1).2.2.2.2),(dB (dB (dB v5 (kT (a0.getD (tN v1) dF).1).1.1) (kT (a0.getD (tN v1) dF).1).2.1.1) (kT (a0.getD (tN v1) dF).1).2.2.1),(dB (dB (dB v6 (kT (a0.getD (tN v1) dF).1).1.2.1) (kT (a0.getD (tN v1) dF).1).2.1.2.1) (kT (a0.getD (tN v1) dF).1).2.2.2.1),(dB (dB (dB v7 (kT (a0.getD (tN v1) dF).1).1.2.2) (kT (a0.getD (tN v1) dF).1).2.1.2.2) (kT (a0.getD (tN v1) dF).1).2.2.2.2)))
  else
   (.inr ((F89 (W (v2+v5))),(F89 (W (v3+v6))),(F89 (W (v4+v7))))))
theorem aRi (a0:bO)(l0:a0.length<=2^63-1)(hl:1<=a0.length/\a0.length<=1048576) {cx:Cx} (hcx:cx.base=1):∀(n:Nat) (v1 v2 v3 v4 v5 v6 v7:Int),(0<=v1)/\(v1<=a0.length)->tN ((a0.length:Int) - v1) < n->Aw.Good Tryz.prog none 9 (bodyPost Tryz.prog Tryz.f71 (RR cx (.a (k3 (aH (iX a0) n (v1,v2,v3,v4,v5,v6,v7)))) [] [])) cx [] (.l aE2 n::aE3) (aBp a0 v1 v2 v3 v4 v5 v6 v7):=by
 intro n
 induction n with
 | zero=>intro v1 v2 v3 v4 v5 v6 v7 hi hn;exact absurd hn (eI _)
 | succ n ih =>
  intro v1 v2 v3 v4 v5 v6 v7 hi hn
  refine aR ?_
  cases h0:(decide ((v1:Int) < (a0.length:Int))) with
  | true =>
   have q0:=cJ h0
   have e:=Eq.refl (iX a0 (v1,v2,v3,v4,v5,v6,v7));conv at e=>rhs;simp only [iX,h0,aT]
   rw [aI e]
   refine ba [.d h0,.i v1 (a0.length),.L eC a0 v1 0 10,.c [] (C88 (a0.getD (tN v1) dF).1),.u 200,.T,.i 0 3 (by decide),.u 0,.T,.i 1 3 (by decide),.u 0,.T,.i 2 3 (by decide),.u 0,.F] [] [2,3,4,19,20,21] [1,2,3] hcx (m:=n) aE2 (aE3) (aBp a0 (W (v1+1)) (gZ (gZ (gZ v2 (kT (a0.getD (tN v1) dF).1).1.1) (kT (a0.getD (tN v1) dF).1).2.1.1) (kT (a0.getD (tN v1) dF).1).2.2.1) (gZ (gZ (gZ v3 (kT (a0.getD (tN v1) dF).1).1.2.1) (kT (a0.getD (tN v1) dF).1).2.1.2.1) (kT (a0.getD (tN v1) dF).1).2.2.2.1) (gZ (gZ (gZ v4 (kT (a0.getD (tN v1) dF).1).1.2.2) (kT (a0.getD (tN v1) dF).1).2.1.2.2) (kT (a0.getD (tN v1) dF).1).2.2.2.2) (dB (dB (dB v5 (kT (a0.getD (tN v1) dF).1).1.1) (kT (a0.getD (tN v1) dF).1).2.1.1) (kT (a0.getD (tN v1) dF).1).2.2.1) (dB (dB (dB v6 (kT (a0.getD (tN v1) dF).1).1.2.1) (kT (a0.getD (tN v1) dF).1).2.1.2.1) (kT (a0.getD (tN v1) dF).1).2.2.2.1) (dB (dB (dB v7 (kT (a0.getD (tN v1) dF).1).1.2.2) (kT (a0.getD (tN v1) dF).1).2.1.2.2) (kT (a0.getD (tN v1) dF).1).2.2.2.2)) (by kernel_rfl) ?_
   have z0:(W (v1+1))=(v1+1):=aS (by omega) (by omega)
   rw [z0]
   exact ih (v1+1) (gZ (gZ (gZ v2 (kT (a0.getD (tN v1) dF).1).1.1) (kT (a0.getD (tN v1) dF).1).2.1.1) (kT (a0.getD (tN v1) dF).1).2.2.1) (gZ (gZ (gZ v3 (kT (a0.getD (tN v1) dF).1).1.2.1) (kT (a0.getD (tN v1) dF).1).2.1.2.1) (kT (a0.getD (tN v1) dF).1).2.2.2.1) (gZ (gZ (gZ v4 (kT (a0.getD (tN v1) dF).1).1.2.2) (kT (a0.getD (tN v1) dF).1).2.1.2.2) (kT (a0.getD (tN v1) dF).1).2.2.2.2) (dB (dB (dB v5 (kT (a0.getD (tN v1) dF).1).1.1) (kT (a0.getD (tN v1) dF).1).2.1.1) (kT (a0.getD (tN v1) dF).1).2.2.1) (dB (dB (dB v6 (kT (a0.getD (tN v1) dF).1).1.2.1) (kT (a0.getD (tN v1) dF).1).2.1.2.1) (kT (a0.getD (tN v1) dF).1).2.2.2.1) (dB (dB (dB v7 (kT (a0.getD (tN v1) dF).1).1.2.2) (kT (a0.getD (tN v1) dF).1).2.1.2.2) (kT (a0.getD (tN v1) dF).1).2.2.2.2) (by refine⟨?_,?_⟩<;>(try simp only [Ls])<;>first | omega | assumption | simp) (by omega)
  | false =>
   have q0:=cN h0
   have e:=Eq.refl (iX a0 (v1,v2,v3,v4,v5,v6,v7));conv at e=>rhs;simp only [iX,h0,aT]
   rw [aJ,e]
   exact rt [.d h0,.c [] (C89 (W (v2+v5))),.c [] (C89 (W (v3+v6))),.c [] (C89 (W (v4+v7)))] [] [] hcx (by kernel_rfl)
def eA (a0:bO):Zt :=
 (aH (iX a0) (tN ((a0.length:Int) - 0)+1) (0,(a0.getD (tN 0) dF).1.1.1,(a0.getD (tN 0) dF).1.1.2.1,(a0.getD (tN 0) dF).1.1.2.2,(a0.getD (tN 0) dF).1.1.1,(a0.getD (tN 0) dF).1.1.2.1,(a0.getD (tN 0) dF).1.1.2.2))
theorem aV7 (a0:bO)(l0:a0.length<=2^63-1)(hl:1<=a0.length/\a0.length<=1048576):Con Tryz.prog 71 [(.s 0 0 a0.length 10)] [(.live false true (flat dC a0))] (.a (k3 (eA a0))) []:=by
 refine aY Tryz.func71 (by kernel_rfl) fun cx hcx=>?_
 have e:=Eq.refl (eA a0);conv at e=>rhs;simp only [eA]
 rw [e]
 refine en [.i 0 (a0.length),.L eC a0 0 0 3,.i 0 (a0.length),.L eC a0 0 0 3] [] [2,3,4,19,20,21] [1,2,3] hcx aE2 (aE3) (aBp a0 0 ((a0.getD (tN 0) dF).1.1.1) ((a0.getD (tN 0) dF).1.1.2.1) ((a0.getD (tN 0) dF).1.1.2.2) ((a0.getD (tN 0) dF).1.1.1) ((a0.getD (tN 0) dF).1.1.2.1) ((a0.getD (tN 0) dF).1.1.2.2)) (tN ((a0.length:Int) - 0)+1) (by kernel_rfl) ?_
 exact aRi a0 l0 hl hcx (tN ((a0.length:Int) - 0)+1) 0 ((a0.getD (tN 0) dF).1.1.1) ((a0.getD (tN 0) dF).1.1.2.1) ((a0.getD (tN 0) dF).1.1.2.2) ((a0.getD (tN 0) dF).1.1.1) ((a0.getD (tN 0) dF).1.1.2.1) ((a0.getD (tN 0) dF).1.1.2.2) (by refine⟨?_,?_⟩<;>(try simp only [Ls])<;>first | omega | assumption | simp) (by omega)
def aBq (a0:Int)(a1:Int)(a2:Int):Bool :=
 (bif (decide ((a1:Int)<=a0)) then
  (decide ((a0:Int)<=a2))
 else
  false)
theorem aUd (a0:Int)(a1:Int)(a2:Int):Con Tryz.prog 127 [(iv a0),(iv a1),(iv a2)] [] (.v (.bool (aBq a0 a1 a2))) []:=by
 refine aY Tryz.func127 (by kernel_rfl) fun cx hcx=>?_
 cases h0:(decide ((a1:Int)<=a0)) with
 | true =>
  have q0:=cJ h0
  have e:=Eq.refl (aBq a0 a1 a2);conv at e=>rhs;simp only [aBq,h0,aT]
  rw [e]
  exact rt [.d h0] [] [] hcx (by kernel_rfl)
 | false =>
  have q0:=cN h0
  have e:=Eq.refl (aBq a0 a1 a2);conv at e=>rhs;simp only [aBq,h0,aT]
  rw [e]
  exact rt [.d h0] [] [] hcx (by kernel_rfl)
def aBr (a0:Zt)(a1:Int):Bool :=
 (bif (aBq a0.1 (W (0 - a1)) a1) then
  (bif (aBq a0.2.1 (W (0 - a1)) a1) then
   (aBq a0.2.2 (W (0 - a1)) a1)
  else
   false)
 else
  false)
theorem aXd (a0:Zt)(a1:Int):Con Tryz.prog 108 [(.a (k3 a0)),(iv a1)] [] (.v (.bool (aBr a0 a1))) []:=by
 refine aY Tryz.func108 (by kernel_rfl) fun cx hcx=>?_
 let t0:List (St Tryz.prog):=[.c [] (aUd a0.1 (W (0 - a1)) a1)]
 cases h0:(aBq a0.1 (W (0 - a1)) a1) with
 | true =>
  let t1:List (St Tryz.prog):=(t0++[.d h0,.c [] (aUd a0.2.1 (W (0 - a1)) a1)])
  cases h1:(aBq a0.2.1 (W (0 - a1)) a1) with
  | true =>
   have e:=Eq.refl (aBr a0 a1);conv at e=>rhs;simp only [aBr,h0,h1,aT]
   rw [e]
   exact rt (t1++[.d h1,.c [] (aUd a0.2.2 (W (0 - a1)) a1)]) [] [] hcx (by kernel_rfl)
  | false =>
   have e:=Eq.refl (aBr a0 a1);conv at e=>rhs;simp only [aBr,h0,h1,aT]
   rw [e]
   exact rt (t1++[.d h1]) [] [] hcx (by kernel_rfl)
 | false =>
  have e:=Eq.refl (aBr a0 a1);conv at e=>rhs;simp only [aBr,h0,aT]
  rw [e]
  exact rt (t0++[.d h0]) [] [] hcx (by kernel_rfl)
def xO (a0:Zt)(a1:Zt):Zt :=
 ((W (a0.1 - a1.1)),(W (a0.2.1 - a1.2.1)),(W (a0.2.2 - a1.2.2)))
theorem C91 (a0:Zt)(a1:Zt):Con Tryz.prog 91 [(.a (k3 a0)),(.a (k3 a1))] [] (.a (k3 (xO a0 a1))) []:=by
 refine aY Tryz.func91 (by kernel_rfl) fun cx hcx=>?_
 have e:=Eq.refl (xO a0 a1);conv at e=>rhs;simp only [xO]
 rw [e]
 exact rt [] [] [] hcx (by kernel_rfl)
def F92 (a0:Zt)(a1:Zt):Int :=
 (W ((W ((W (a0.1*a1.1))+(W (a0.2.1*a1.2.1))))+(W (a0.2.2*a1.2.2))))
theorem C92 (a0:Zt)(a1:Zt):Con Tryz.prog 92 [(.a (k3 a0)),(.a (k3 a1))] [] (iv (F92 a0 a1)) []:=by
 refine aY Tryz.func92 (by kernel_rfl) fun cx hcx=>?_
 have e:=Eq.refl (F92 a0 a1);conv at e=>rhs;simp only [F92]
 rw [e]
 exact rt [] [] [] hcx (by kernel_rfl)
def rH (a0:bO)(a1:Zt):Int :=
 (bif (((jD a0):Int) != 0) then
  (jD a0)
 else
  (bif (!(aBr a1 64)) then
   1
  else
   0))
theorem aV8 (a0:bO)(a1:Zt)(l0:a0.length<=2^63-1):Con Tryz.prog 90 [(.s 0 0 a0.length 10),(.a (k3 a1))] [(.live false true (flat dC a0))] (iv (rH a0 a1)) []:=by
 refine aY Tryz.func90 (by kernel_rfl) fun cx hcx=>?_
 let t0:List (St Tryz.prog):=[.c [0] (aOa a0 (by omega))]
 cases h0:(((jD a0):Int) != 0) with
 | true =>
  have q0:=bne_iff_ne.1 h0
  have e:=Eq.refl (rH a0 a1);conv at e=>rhs;simp only [rH,h0,aT]
  rw [e]
  exact rt (t0++[.d h0]) [] [] hcx (by kernel_rfl)
 | false =>
  have q0:=bne_eq_false_iff_eq.1 h0
  let t1:List (St Tryz.prog):=(t0++[.d h0,.c [] (aXd a1 64)])
  cases h1:(!(aBr a1 64)) with
  | true =>
   have e:=Eq.refl (rH a0 a1);conv at e=>rhs;simp only [rH,h0,h1,aT]
   rw [e]
   exact rt (t1++[.d h1]) [] [] hcx (by kernel_rfl)
  | false =>
   have e:=Eq.refl (rH a0 a1);conv at e=>rhs;simp only [rH,h0,h1,aT]
   rw [e]
   exact rt (t1++[.d h1]) [] [] hcx (by kernel_rfl)
noncomputable def aE4:Code:=(aM [1,1,1,0,1] [] (aL Tryz.f72) []).1
noncomputable def aE5:List K:=(aM [1,1,1,0,1] [] (aL Tryz.f72) []).2
def aBs (a0:bO)(a1:Zt)(v1 v2:Int):LS:=⟨gD 49 [(3,(.p 1 0)),(7,(iv v1)),(19,(.s 0 0 a0.length 10)),(20,(iv (a0.length:Int))),(21,(iv v2))],[(.live false true (flat dC a0)),(.live true false (k3 a1))]⟩
def qW (a0:bO)(a1:Zt):Int×Int->(Int×Int)⊕(Int×Int)
 | (v1,v2) =>
  (bif (decide ((v2:Int) < (a0.length:Int))) then
   (.inl ((dB (dB (dB v1 (F92 (xO (a0.getD (tN v2) dF).1.1 a1) (xO (a0.getD (tN v2) dF).1.1 a1))) (F92 (xO (a0.getD (tN v2) dF).1.2.1 a1) (xO (a0.getD (tN v2) dF).1.2.1 a1))) (F92 (xO (a0.getD (tN v2) dF).1.2.2 a1) (xO (a0.getD (tN v2) dF).1.2.2 a1))),(v2+1)))
  else
   (.inr (v1,0)))
theorem aRj (a0:bO)(a1:Zt)(l0:a0.length<=2^63-1)(hl:a0.length<=1048576) {cx:Cx} (hcx:cx.base=1):∀(n:Nat) (v1 v2:Int),(0<=v2)/\(v2<=a0.length)->tN ((a0.length:Int) - v2) < n->Aw.Good Tryz.prog none 9 (bodyPost Tryz.prog Tryz.f72 (RR cx (.t (k2 (aH (qW a0 a1) n (v1,v2)))) [] [])) cx [] (.l aE4 n::aE5) (aBs a0 a1 v1 v2):=by
 intro n
 induction n with
 | zero=>intro v1 v2 hi hn;exact absurd hn (eI _)
 | succ n ih =>
  intro v1 v2 hi hn
  refine aR ?_
  cases h0:(decide ((v2:Int) < (a0.length:Int))) with
  | true =>
   have q0:=cJ h0
   have e:=Eq.refl (qW a0 a1 (v1,v2));conv at e=>rhs;simp only [qW,h0,aT]
   rw [aI e]
   refine ba [.d h0,.i v2 (a0.length),.L eC a0 v2 0 10,.u 200,.T,.i 0 3 (by decide),.c [] (C91 (a0.getD (tN v2) dF).1.1 a1),.c [] (C92 (xO (a0.getD (tN v2) dF).1.1 a1) (xO (a0.getD (tN v2) dF).1.1 a1)),.u 0,.T,.i 1 3 (by decide),.c [] (C91 (a0.getD (tN v2) dF).1.2.1 a1),.c [] (C92 (xO (a0.getD (tN v2) dF).1.2.1 a1) (xO (a0.getD (tN v2) dF).1.2.1 a1)),.u 0,.T,.i 2 3 (by decide),.c [] (C91 (a0.getD (tN v2) dF).1.2.2 a1),.c [] (C92 (xO (a0.getD (tN v2) dF).1.2.2 a1) (xO (a0.getD (tN v2) dF).1.2.2 a1)),.u 0,.F] [] [3,7,19,20,21] [1] hcx (m:=n) aE4 (aE5) (aBs a0 a1 (dB (dB (dB v1 (F92 (xO (a0.getD (tN v2) dF).1.1 a1) (xO (a0.getD (tN v2) dF).1.1 a1))) (F92 (xO (a0.getD (tN v2) dF).1.2.1 a1) (xO (a0.getD (tN v2) dF).1.2.1 a1))) (F92 (xO (a0.getD (tN v2) dF).1.2.2 a1) (xO (a0.getD (tN v2) dF).1.2.2 a1))) (W (v2+1))) (by kernel_rfl) ?_
   have z0:(W (v2+1))=(v2+1):=aS (by omega) (by omega)
   rw [z0]
   exact ih (dB (dB (dB v1 (F92 (xO (a0.getD (tN v2) dF).1.1 a1) (xO (a0.getD (tN v2) dF).1.1 a1))) (F92 (xO (a0.getD (tN v2) dF).1.2.1 a1) (xO (a0.getD (tN v2) dF).1.2.1 a1))) (F92 (xO (a0.getD (tN v2) dF).1.2.2 a1) (xO (a0.getD (tN v2) dF).1.2.2 a1))) (v2+1) (by refine⟨?_,?_⟩<;>(try simp only [Ls])<;>first | omega | assumption | simp) (by omega)
  | false =>
   have q0:=cN h0
   have e:=Eq.refl (qW a0 a1 (v1,v2));conv at e=>rhs;simp only [qW,h0,aT]
   rw [aJ,e]
   exact rt [.d h0] [] [] hcx (by kernel_rfl)
def zC (a0:bO)(a1:Zt):Int×Int :=
 (bif (((rH a0 a1):Int) != 0) then
  (0,(rH a0 a1))
 else
  (aH (qW a0 a1) (tN ((a0.length:Int) - 0)+1) (0,0)))
theorem aV9 (a0:bO)(a1:Zt)(l0:a0.length<=2^63-1)(hl:a0.length<=1048576):Con Tryz.prog 72 [(.s 0 0 a0.length 10),(.a (k3 a1))] [(.live false true (flat dC a0))] (.t (k2 (zC a0 a1))) []:=by
 refine aY Tryz.func72 (by kernel_rfl) fun cx hcx=>?_
 let t0:List (St Tryz.prog):=[.c [0] (aV8 a0 a1 (by omega))]
 cases h0:(((rH a0 a1):Int) != 0) with
 | true =>
  have q0:=bne_iff_ne.1 h0
  have e:=Eq.refl (zC a0 a1);conv at e=>rhs;simp only [zC,h0,aT]
  rw [e]
  exact rt (t0++[.d h0]) [] [] hcx (by kernel_rfl)
 | false =>
  have q0:=bne_eq_false_iff_eq.1 h0
  have e:=Eq.refl (zC a0 a1);conv at e=>rhs;simp only [zC,h0,aT]
  rw [e]
  refine en (t0++[.d h0]) [] [3,7,19,20,21] [1] hcx aE4 (aE5) (aBs a0 a1 0 0) (tN ((a0.length:Int) - 0)+1) (by kernel_rfl) ?_
  exact aRj a0 a1 l0 hl hcx (tN ((a0.length:Int) - 0)+1) 0 0 (by refine⟨?_,?_⟩<;>(try simp only [Ls])<;>first | omega | assumption | simp) (by omega)
noncomputable def aE6:Code:=(aM [1,1,0,1,0,1,1,0,1,1,0,1] [0] (aL Tryz.f74) []).1
noncomputable def aE7 (m0:Nat):List K:=(aM [1,1,0,1,0,1,1,0,1,1,0,1] [m0] (aL Tryz.f74) []).2
def aBt (a0:bO×Int×List Int×bF)(a1:List Int)(v15 v16 v17 v18 v19 v20 v21:Int):LS:=⟨gD 59 [(0,(.p 0 0)),(1,(.s 4 0 a1.length 1)),(4,(.p 5 0)),(5,(iv v15)),(6,(iv v16)),(7,(iv v17)),(8,(iv v18)),(9,(iv v19)),(12,(iv v20)),(27,(.s 4 0 a1.length 1)),(28,(iv (a1.length:Int))),(29,(iv v21))],[(.live false false [(.s 1 0 a0.1.length 10),(iv a0.2.1),(.s 2 0 a0.2.2.1.length 1),(.s 3 0 a0.2.2.2.length 8)]),(.live false true (flat dC a0.1)),(.live false true (flat c3 a0.2.2.1)),(.live false true (flat cB a0.2.2.2)),(.live false true (flat c3 a1)),(.live true false [(.v (.pointer none)),(iv 0)])]⟩
def gV (a0:bO×Int×List Int×bF)(a1:List Int):Int×Int×Int×Int×Zt->(Int×Int×Int×Int×Zt)⊕(Zt⊕TyS)
 | (v15,v16,v17,v18,v19,v20,v21) =>
  (bif (decide ((v21:Int) < (a1.length:Int))) then
   (.inl (v15,v16,v17,(if((rX (a0.1,a0.2.1,(a0.2.2.1,a0.2.2.2)) (a1.getD (tN v21) dF) v17):Int) < v18 then(rX (a0.1,a0.2.1,(a0.2.2.1,a0.2.2.2)) (a1.getD (tN v21) dF) v17) else v18),(if(v19:Int) < (rX (a0.1,a0.2.1,(a0.2.2.1,a0.2.2.2)) (a1.getD (tN v21) dF) v17) then(rX (a0.1,a0.2.1,(a0.2.2.1,a0.2.2.2)) (a1.getD (tN v21) dF) v17) else v19),v20,(v21+1)))
  else
   (bif (decide (((W (v19 - v18)):Int) > v16)) then
    (.inr (.inl (v17,(W (v19 - v18)),(v20+1))))
   else
    (.inr (.inl (v15,v16,(v20+1))))))
noncomputable def wA:Code:=(aM [1,1,0,1] [] (aL Tryz.f74) []).1
noncomputable def wB:List K:=(aM [1,1,0,1] [] (aL Tryz.f74) []).2
def sA (a0:bO×Int×List Int×bF)(a1:List Int)(v12 v13 v14:Int):LS:=⟨gD 59 [(0,(.p 0 0)),(1,(.s 4 0 a1.length 1)),(4,(.p 5 0)),(5,(iv v12)),(6,(iv v13)),(12,(iv v14))],[(.live false false [(.s 1 0 a0.1.length 10),(iv a0.2.1),(.s 2 0 a0.2.2.1.length 1),(.s 3 0 a0.2.2.2.length 8)]),(.live false true (flat dC a0.1)),(.live false true (flat c3 a0.2.2.1)),(.live false true (flat cB a0.2.2.2)),(.live false true (flat c3 a1)),(.live true false [(.v (.pointer none)),(iv 0)])]⟩
def iY (a0:bO×Int×List Int×bF)(a1:List Int):Zt->Zt⊕TyS
 | (v12,v13,v14) =>
  (bif (decide ((v14:Int) < 3)) then
   (aH (gV a0 a1) (tN ((a1.length:Int) - 0)+1) (v12,v13,v14,(rX (a0.1,a0.2.1,(a0.2.2.1,a0.2.2.2)) (a1.getD (tN 0) dF) v14),(rX (a0.1,a0.2.1,(a0.2.2.1,a0.2.2.2)) (a1.getD (tN 0) dF) v14),v14,0))
  else
   (.inr ((a0.1,a0.2.1,(a0.2.2.1,a0.2.2.2)),v12)))
theorem aRk (a0:bO×Int×List Int×bF)(a1:List Int)(l0_1:a0.1.length<=2^63-1)(l0_2_2_1:a0.2.2.1.length<=2^63-1)(l0_2_2_2:a0.2.2.2.length<=2^63-1)(l1:a1.length<=2^63-1)(hir:InR a0.1.length a1)(hl:1<=a1.length/\a1.length<=1048576) {cx:Cx} (hcx:cx.base=5)
 (n0:Nat) (g0:∀(v12 v13 v14:Int),(0<=v14)/\(v14<=3)->tN (3 - v14) < n0->Aw.Good Tryz.prog none 9 (bodyPost Tryz.prog Tryz.f74 (RR cx (.a [(.p 0 0),(iv (aH (iY a0 a1) n0 (v12,v13,v14)).2)]) [] [])) cx [] (.l wA n0::wB) (sA a0 a1 v12 v13 v14)):∀(n:Nat) (v15 v16 v17 v18 v19 v20 v21:Int),(0<=v21)/\(v21<=a1.length)/\((0<=v20))/\((v20<=3))/\(v20 < 3)/\(tN (3 - v20) < n0+1)->tN ((a1.length:Int) - v21) < n->Aw.Good Tryz.prog none 9 (bodyPost Tryz.prog Tryz.f74 (RR cx (.a [(.p 0 0),(iv (bA (iY a0 a1) n0 (aH (gV a0 a1) n (v15,v16,v17,v18,v19,v20,v21))).2)]) [] [])) cx [] (.l aE6 n::aE7 n0) (aBt a0 a1 v15 v16 v17 v18 v19 v20 v21):=by
 intro n
 induction n with
 | zero=>intro v15 v16 v17 v18 v19 v20 v21 hi hn;exact absurd hn (eI _)
 | succ n ih =>
  intro v15 v16 v17 v18 v19 v20 v21 hi hn
  refine aR ?_
  cases h0:(decide ((v21:Int) < (a1.length:Int))) with
  | true =>
   have q0:=cJ h0
   try have hr1:=hir.at (i:=tN v21) (by have _:=h0;omega)
   have e:=Eq.refl (gV a0 a1 (v15,v16,v17,v18,v19,v20,v21));conv at e=>rhs;simp only [gV,h0,aT]
   rw [aI e]
   refine ba [.d h0,.i v21 (a1.length),.L aF a1 v21 0 1,.c [0,1,2,3] (C95 (a0.1,a0.2.1,(a0.2.2.1,a0.2.2.2)) (a1.getD (tN v21) dF) v17 (by omega) (by omega) (by omega) (by omega)),.c [0,1,2,3] (C95 (a0.1,a0.2.1,(a0.2.2.1,a0.2.2.2)) (a1.getD (tN v21) dF) v17 (by omega) (by omega) (by omega) (by omega))] [] [0,1,4,5,6,7,8,9,12,27,28,29] [5] hcx (m:=n) aE6 (aE7 n0) (aBt a0 a1 v15 v16 v17 (if((rX (a0.1,a0.2.1,(a0.2.2.1,a0.2.2.2)) (a1.getD (tN v21) dF) v17):Int) < v18 then(rX (a0.1,a0.2.1,(a0.2.2.1,a0.2.2.2)) (a1.getD (tN v21) dF) v17) else v18) (if(v19:Int) < (rX (a0.1,a0.2.1,(a0.2.2.1,a0.2.2.2)) (a1.getD (tN v21) dF) v17) then(rX (a0.1,a0.2.1,(a0.2.2.1,a0.2.2.2)) (a1.getD (tN v21) dF) v17) else v19) v20 (W (v21+1))) (by kernel_rfl) ?_
   have z0:(W (v21+1))=(v21+1):=aS (by omega) (by omega)
   rw [z0]
   exact ih v15 v16 v17 (if((rX (a0.1,a0.2.1,(a0.2.2.1,a0.2.2.2)) (a1.getD (tN v21) dF) v17):Int) < v18 then(rX (a0.1,a0.2.1,(a0.2.2.1,a0.2.2.2)) (a1.getD (tN v21) dF) v17) else v18) (if(v19:Int) < (rX (a0.1,a0.2.1,(a0.2.2.1,a0.2.2.2)) (a1.getD (tN v21) dF) v17) then(rX (a0.1,a0.2.1,(a0.2.2.1,a0.2.2.2)) (a1.getD (tN v21) dF) v17) else v19) v20 (v21+1) (by refine⟨?_,?_,?_,?_,?_,?_⟩<;>(try simp only [Ls])<;>first | omega | assumption | exact hi.2.1 | exact hi.2.2.1 | exact hi.2.2.2.1 | exact hi.2.2.2.2.1 | exact hi.2.2.2.2.2.1 | simp) (by omega)
  | false =>
   have q0:=cN h0
   let t1:List (St Tryz.prog):=[.d h0]
   cases h1:(decide (((W (v19 - v18)):Int) > v16)) with
   | true =>
    have q1:=cJ h1
    have e:=Eq.refl (gV a0 a1 (v15,v16,v17,v18,v19,v20,v21));conv at e=>rhs;simp only [gV,h0,h1,aT]
    rw [aJ,e]
    refine ba (t1++[.d h1]) [] [0,1,4,5,6,12] [5] hcx (m:=n0) wA (wB) (sA a0 a1 v17 (W (v19 - v18)) (W (v20+1))) (by kernel_rfl) ?_
    have z0:(W (v20+1))=(v20+1):=aS (by omega) (by omega)
    rw [z0]
    exact g0 v17 (W (v19 - v18)) (v20+1) (by refine⟨?_,?_⟩<;>(try simp only [Ls])<;>first | omega | assumption | simp) (by omega)
   | false =>
    have q1:=cN h1
    have e:=Eq.refl (gV a0 a1 (v15,v16,v17,v18,v19,v20,v21));conv at e=>rhs;simp only [gV,h0,h1,aT]
    rw [aJ,e]
    refine ba (t1++[.d h1]) [] [0,1,4,5,6,12] [5] hcx (m:=n0) wA (wB) (sA a0 a1 v15 v16 (W (v20+1))) (by kernel_rfl) ?_
    have z0:(W (v20+1))=(v20+1):=aS (by omega) (by omega)
    rw [z0]
    exact g0 v15 v16 (v20+1) (by refine⟨?_,?_⟩<;>(try simp only [Ls])<;>first | omega | assumption | simp) (by omega)
theorem aRl (a0:bO×Int×List Int×bF)(a1:List Int)(l0_1:a0.1.length<=2^63-1)(l0_2_2_1:a0.2.2.1.length<=2^63-1)(l0_2_2_2:a0.2.2.2.length<=2^63-1)(l1:a1.length<=2^63-1)(hir:InR a0.1.length a1)(hl:1<=a1.length/\a1.length<=1048576) {cx:Cx} (hcx:cx.base=5):∀(n:Nat) (v12 v13 v14:Int),(0<=v14)/\(v14<=3)->tN (3 - v14) < n->Aw.Good Tryz.prog none 9 (bodyPost Tryz.prog Tryz.f74 (RR cx (.a [(.p 0 0),(iv (aH (iY a0 a1) n (v12,v13,v14)).2)]) [] [])) cx [] (.l wA n::wB) (sA a0 a1 v12 v13 v14):=by
 intro n
 induction n with
 | zero=>intro v12 v13 v14 hi hn;exact absurd hn (eI _)
 | succ n ih =>
  intro v12 v13 v14 hi hn
  refine aR ?_
  have hr0:=hir.at (i:=0) (by omega)
  cases h0:(decide ((v14:Int) < 3)) with
  | true =>
   have q0:=cJ h0
   have e:=Eq.refl (iY a0 a1 (v12,v13,v14));conv at e=>rhs;simp only [iY,h0,aT]
   rw [aJ,e]
   refine en [.d h0,.i 0 (a1.length),.L aF a1 0 0 1,.c [0,1,2,3] (C95 (a0.1,a0.2.1,(a0.2.2.1,a0.2.2.2)) (a1.getD (tN 0) dF) v14 (by omega) (by omega) (by omega) (by(try simp only [Lt]);omega)),.i 0 (a1.length),.L aF a1 0 0 1,.c [0,1,2,3] (C95 (a0.1,a0.2.1,(a0.2.2.1,a0.2.2.2)) (a1.getD (tN 0) dF) v14 (by omega) (by omega) (by omega) (by(try simp only [Lt]);omega))] [] [0,1,4,5,6,7,8,9,12,27,28,29] [5] hcx aE6 (aE7 n) (aBt a0 a1 v12 v13 v14 (rX (a0.1,a0.2.1,(a0.2.2.1,a0.2.2.2)) (a1.getD (tN 0) dF) v14) (rX (a0.1,a0.2.1,(a0.2.2.1,a0.2.2.2)) (a1.getD (tN 0) dF) v14) v14 0) (tN ((a1.length:Int) - 0)+1) (by kernel_rfl) ?_
   exact aRk a0 a1 l0_1 l0_2_2_1 l0_2_2_2 l1 hir hl hcx n ih (tN ((a1.length:Int) - 0)+1) v12 v13 v14 (rX (a0.1,a0.2.1,(a0.2.2.1,a0.2.2.2)) (a1.getD (tN 0) dF) v14) (rX (a0.1,a0.2.1,(a0.2.2.1,a0.2.2.2)) (a1.getD (tN 0) dF) v14) v14 0 (by refine⟨?_,?_,?_,?_,?_,?_⟩<;>(try simp only [Ls])<;>first | omega | assumption | exact hi.2.1 | exact hi.2.2.1 | exact hi.2.2.2.1 | exact hi.2.2.2.2.1 | exact hi.2.2.2.2.2.1 | simp) (by omega)
  | false =>
   have q0:=cN h0
   have e:=Eq.refl (iY a0 a1 (v12,v13,v14));conv at e=>rhs;simp only [iY,h0,aT]
   rw [aJ,e]
   exact rt [.d h0] [] [] hcx (by kernel_rfl)
def aHd (a0:bO×Int×List Int×bF)(a1:List Int):eP×Int :=
 (aH (iY a0 a1) (tN (3 - 0)+1) (0,(-1),0))
theorem aWa (a0:bO×Int×List Int×bF)(a1:List Int)(l0_1:a0.1.length<=2^63-1)(l0_2_2_1:a0.2.2.1.length<=2^63-1)(l0_2_2_2:a0.2.2.2.length<=2^63-1)(l1:a1.length<=2^63-1)(hir:InR a0.1.length a1)(hl:1<=a1.length/\a1.length<=1048576):Con Tryz.prog 74 [(.p 0 0),(.s 4 0 a1.length 1)] [(.live false false [(.s 1 0 a0.1.length 10),(iv a0.2.1),(.s 2 0 a0.2.2.1.length 1),(.s 3 0 a0.2.2.2.length 8)]),(.live false true (flat dC a0.1)),(.live false true (flat c3 a0.2.2.1)),(.live false true (flat cB a0.2.2.2)),(.live false true (flat c3 a1))] (.a [(.p 0 0),(iv (aHd a0 a1).2)]) []:=by
 refine aY Tryz.func74 (by kernel_rfl) fun cx hcx=>?_
 have e:=Eq.refl (aHd a0 a1);conv at e=>rhs;simp only [aHd]
 try rw [e]
 refine en [] [] [0,1,4,5,6,12] [5] hcx wA (wB) (sA a0 a1 0 (-1) 0) (tN (3 - 0)+1) (by kernel_rfl) ?_
 exact aRl a0 a1 l0_1 l0_2_2_1 l0_2_2_2 l1 hir hl hcx (tN (3 - 0)+1) 0 (-1) 0 (by refine⟨?_,?_⟩<;>(try simp only [Ls])<;>first | omega | assumption | simp) (by omega)
abbrev BU:=(List (((Zt×Zt×Zt)×Int)))×Int×List Int×bF
structure PADD (b:BU) (i k:Int):Prop where
 inr:InR b.1.length b.2.2.1
 rng:0<=i/\i < k/\k<=b.2.2.1.length/\b.2.2.1.length<=1048576
 nds:b.2.2.2.length+2*(k - i)<=4194304
 lf:1<=b.2.1
theorem InR.part {n:Nat} {l:List Int} (h:InR n l)(a b:Int):InR n (Aw.part l a b):=fun x hx=>h x (List.mem_of_mem_drop (List.mem_of_mem_take hx))
theorem InR.atD {n:Nat} {l:List Int} (h:InR n l)(h0:0 < n)(i:Nat):0<=l.getD i dF/\l.getD i dF < (n:Int):=by
 by_cases hi:i < l.length
 ·exact h.at hi
 ·rw [fV,List.getElem?_eq_none (by omega)]
  exact⟨Int.le_refl _,by show(0:Int) < n;omega⟩
theorem aHe {a0:bO} {a1:List Int}:∀(d i n:Nat) (m:bO),d=a1.length - i->i<=a1.length->d < n ->
 aH (gE a0 a1) n (m,(i:Int))=m++(a1.drop i).map (fun a=>a0.getD (tN a) dF)
 | 0,i,n,m,hd,hi,hn=>by
  obtain⟨n,rfl⟩:∃m,n=m+1:=⟨n - 1,by omega⟩
  have:i=a1.length:=by omega
  subst this
  have e:gE a0 a1 (m,(a1.length:Int))=.inr m:=by
   simp only [gE];rw [dA (Int.lt_irrefl _),cond_false]
  rw [aQ e];simp
 | d+1,i,n,m,hd,hi,hn=>by
  obtain⟨n,rfl⟩:∃m,n=m+1:=⟨n - 1,by omega⟩
  have e:gE a0 a1 (m,(i:Int))=.inl (m++[a0.getD (tN (a1.getD i dF)) dF],((i+1:Nat):Int)):=by
   simp only [gE]
   rw [cH (show((i:Nat):Int) < (a1.length:Nat) by omega),cond_true,fZ];rfl
  rw [aI e,aHe d (i+1) n _ (by omega) (by omega) (by omega),List.drop_eq_getElem_cons (show i < a1.length by omega),List.map_cons]
  simp [fV,List.getElem?_eq_getElem (show i < a1.length by omega)]
theorem aPa (a0:bO)(a1:List Int):gU a0 a1=a1.map (fun a=>a0.getD (tN a) dF):=by
 have:=aHe (a0:=a0) (a1:=a1) a1.length 0 (tN ((a1.length:Int) - 0)+1) [] (by omega) (by omega) (by omega)
 exact this
theorem zW (a0:bO)(a1:List Int):(gU a0 a1).length=a1.length:=by rw [aPa];simp
theorem aUe {N:Nat} {l:List Int} {o m:Nat} {c:BU×Int} (hw:o+m<=l.length/\l.length<=1048576)(hi:InR N l):(iW l o m c).length=l.length/\InR N (iW l o m c) :=
 zV _ hw hi (by omega) (by omega)
theorem aBu {i k:Int} (h:0<=i/\i < k/\k<=1048576):(W (i+(W (Int.tdiv (W ((W (k - i))+1)) 2))))=i+(k - i+1) / 2:=by
 rw [aS (n:=k - i) (by omega) (by omega),aS (n:=k - i+1) (by omega) (by omega),Int.tdiv_eq_ediv_of_nonneg (by omega),aS (n:=(k - i+1) / 2) (by omega) (by omega),aS (by omega) (by omega)]
def dR (a0:bO×Int×List Int×bF)(a1:Int)(a2:Int):=(gU a0.1 (Aw.part (a0.2.2.1) a1 a2))
def iE (a0:bO×Int×List Int×bF)(a1:Int)(a2:Int):=(zC (dR a0 a1 a2) (eA (dR a0 a1 a2)))
def aHf (a0:bO×Int×List Int×bF)(a1:Int)(a2:Int):=(aHd (a0.1,a0.2.1,(a0.2.2.1,(a0.2.2.2++[(a1,a2,(-1),(-1),(eA (dR a0 a1 a2)),(iE a0 a1 a2).1)]))) (Aw.part (a0.2.2.1) a1 a2))
def zD (a0:bO×Int×List Int×bF)(a1:Int)(a2:Int):=(iW (a0.2.2.1) (tN a1) (tN a2 - tN a1) ((a0.1,a0.2.1,(a0.2.2.1,(a0.2.2.2++[(a1,a2,(-1),(-1),(eA (dR a0 a1 a2)),(iE a0 a1 a2).1)]))),(aHf a0 a1 a2).2))
def fQ (rr:eP->(Int)->(Int)->Int×bO×Int×List Int×bF)(a0:bO×Int×List Int×bF)(a1:Int)(a2:Int):=(rr (a0.1,a0.2.1,((zD a0 a1 a2),(a0.2.2.2++[(a1,a2,(-1),(-1),(eA (dR a0 a1 a2)),(iE a0 a1 a2).1)]))) a1 (W (a1+(W (Int.tdiv (W ((W (a2 - a1))+1)) 2)))))
def aV (rr:eP->(Int)->(Int)->Int×bO×Int×List Int×bF)(a0:bO×Int×List Int×bF)(a1:Int)(a2:Int):=(rr (a0.1,(fQ (rr) a0 a1 a2).2.2.1,((fQ (rr) a0 a1 a2).2.2.2.1,(fQ (rr) a0 a1 a2).2.2.2.2)) (W (a1+(W (Int.tdiv (W ((W (a2 - a1))+1)) 2)))) a2)
def cI:Nat->eP->(Int)->(Int)->Int×bO×Int×List Int×bF
 | 0,_,_,_=>dF
 | nr+1,a0,a1,a2 =>
 (bif (decide (((W (a2 - a1)):Int) > a0.2.1)) then
  ((a0.2.2.2.length:Int),(a0.1,(aV (cI nr) a0 a1 a2).2.2.1,((aV (cI nr) a0 a1 a2).2.2.2.1,(((aV (cI nr) a0 a1 a2).2.2.2.2.set (tN (a0.2.2.2.length:Int)) (((aV (cI nr) a0 a1 a2).2.2.2.2.getD (tN (a0.2.2.2.length:Int)) dF).1,((aV (cI nr) a0 a1 a2).2.2.2.2.getD (tN (a0.2.2.2.length:Int)) dF).2.1,(fQ (cI nr) a0 a1 a2).1,((aV (cI nr) a0 a1 a2).2.2.2.2.getD (tN (a0.2.2.2.length:Int)) dF).2.2.2.1,((aV (cI nr) a0 a1 a2).2.2.2.2.getD (tN (a0.2.2.2.length:Int)) dF).2.2.2.2.1,((aV (cI nr) a0 a1 a2).2.2.2.2.getD (tN (a0.2.2.2.length:Int)) dF).2.2.2.2.2)).set (tN (a0.2.2.2.length:Int)) ((((aV (cI nr) a0 a1 a2).2.2.2.2.set (tN (a0.2.2.2.length:Int)) (((aV (cI nr) a0 a1 a2).2.2.2.2.getD (tN (a0.2.2.2.length:Int)) dF).1,((aV (cI nr) a0 a1 a2).2.2.2.2.getD (tN (a0.2.2.2.length:Int)) dF).2.1,(fQ (cI nr) a0 a1 a2).1,((aV (cI nr) a0 a1 a2).2.2.2.2.getD (tN (a0.2.2.2.length:Int)) dF).2.2.2.1,((aV (cI nr) a0 a1 a2).2.2.2.2.getD (tN (a0.2.2.2.length:Int)) dF).2.2.2.2.1,((aV (cI nr) a0 a1 a2).2.2.2.2.getD (tN (a0.2.2.2.length:Int)) dF).2.2.2.2.2)).getD (tN (a0.2.2.2.length:Int)) dF).1,(((aV (cI nr) a0 a1 a2).2.2.2.2.set (tN (a0.2.2.2.length:Int)) (((aV (cI nr) a0 a1 a2).2.2.2.2.getD (tN (a0.2.2.2.length:Int)) dF).1,((aV (cI nr) a0 a1 a2).2.2.2.2.getD (tN (a0.2.2.2.length:Int)) dF).2.1,(fQ (cI nr) a0 a1 a2).1,((aV (cI nr) a0 a1 a2).2.2.2.2.getD (tN (a0.2.2.2.length:Int)) dF).2.2.2.1,((aV (cI nr) a0 a1 a2).2.2.2.2.getD (tN (a0.2.2.2.length:Int)) dF).2.2.2.2.1,((aV (cI nr) a0 a1 a2).2.2.2.2.getD (tN (a0.2.2.2.length:Int)) dF).2.2.2.2.2)).getD (tN (a0.2.2.2.length:Int)) dF).2.1,(((aV (cI nr) a0 a1 a2).2.2.2.2.set (tN (a0.2.2.2.length:Int)) (((aV (cI nr) a0 a1 a2).2.2.2.2.getD (tN (a0.2.2.2.length:Int)) dF).1,((aV (cI nr) a0 a1 a2).2.2.2.2.getD (tN (a0.2.2.2.length:Int)) dF).2.1,(fQ (cI nr) a0 a1 a2).1,((aV (cI nr) a0 a1 a2).2.2.2.2.getD (tN (a0.2.2.2.length:Int)) dF).2.2.2.1,((aV (cI nr) a0 a1 a2).2.2.2.2.getD (tN (a0.2.2.2.length:Int)) dF).2.2.2.2.1,((aV (cI nr) a0 a1 a2).2.2.2.2.getD (tN (a0.2.2.2.length:Int)) dF).2.2.2.2.2)).getD (tN (a0.2.2.2.length:Int)) dF).2.2.1,(aV (cI nr) a0 a1 a2).1,(((aV (cI nr) a0 a1 a2).2.2.2.2.set (tN (a0.2.2.2.length:Int)) (((aV (cI nr) a0 a1 a2).2.2.2.2.getD (tN (a0.2.2.2.length:Int)) dF).1,((aV (cI nr) a0 a1 a2).2.2.2.2.getD (tN (a0.2.2.2.length:Int)) dF).2.1,(fQ (cI nr) a0 a1 a2).1,((aV (cI nr) a0 a1 a2).2.2.2.2.getD (tN (a0.2.2.2.length:Int)) dF).2.2.2.1,((aV (cI nr) a0 a1 a2).2.2.2.2.getD (tN (a0.2.2.2.length:Int)) dF).2.2.2.2.1,((aV (cI nr) a0 a1 a2).2.2.2.2.getD (tN (a0.2.2.2.length:Int)) dF).2.2.2.2.2)).getD (tN (a0.2.2.2.length:Int)) dF).2.2.2.2.1,(((aV (cI nr) a0 a1 a2).2.2.2.2.set (tN (a0.2.2.2.length:Int)) (((aV (cI nr) a0 a1 a2).2.2.2.2.getD (tN (a0.2.2.2.length:Int)) dF).1,((aV (cI nr) a0 a1 a2).2.2.2.2.getD (tN (a0.2.2.2.length:Int)) dF).2.1,(fQ (cI nr) a0 a1 a2).1,((aV (cI nr) a0 a1 a2).2.2.2.2.getD (tN (a0.2.2.2.length:Int)) dF).2.2.2.1,((aV (cI nr) a0 a1 a2).2.2.2.2.getD (tN (a0.2.2.2.length:Int)) dF).2.2.2.2.1,((aV (cI nr) a0 a1 a2).2.2.2.2.getD (tN (a0.2.2.2.length:Int)) dF).2.2.2.2.2)).getD (tN (a0.2.2.2.length:Int)) dF).2.2.2.2.2)))))
 else
  ((a0.2.2.2.length:Int),(a0.1,a0.2.1,(a0.2.2.1,(a0.2.2.2++[(a1,a2,(-1),(-1),(eA (dR a0 a1 a2)),(iE a0 a1 a2).1)])))))
def F49 (a0:bO×Int×List Int×bF)(a1:Int)(a2:Int):Int×bO×Int×List Int×bF:=cI (tN (a2 - a1)+1) a0 a1 a2
structure ADDR (b r:BU) (i k:Int):Prop where
 pan:r.1=b.1
 leaf:r.2.1=b.2.1
 ol:r.2.2.1.length=b.2.2.1.length
 oi:InR b.1.length r.2.2.1
 lo:b.2.2.2.length < r.2.2.2.length
 hi:r.2.2.2.length<=b.2.2.2.length+2*(k - i) - 1
section
variable {nr : Nat} {b : BU} {i k : Int} (hp : PADD b i k)
include hp
theorem tK:(zD b i k).length=b.2.2.1.length/\InR b.1.length (zD b i k) :=
 aUe (by have:=hp.rng;omega) hp.inr
theorem aM1 {x:Int×Int×Int×Int×Zt×Int} (h2:2<=k - i):PADD (b.1,b.2.1,(zD b i k),b.2.2.2++[x]) i (W (i+(W (Int.tdiv (W ((W (k - i))+1)) 2)))):=by
 have h:=hp.rng;have hn:=hp.nds
 rw [aBu ⟨h.1,h.2.1,by omega⟩]
 have h4:=tK hp
 exact⟨h4.2,⟨h.1,by omega,by rw [h4.1];omega,by rw [h4.1];omega⟩,by simp only [List.length_append,List.length_cons,List.length_nil];omega,hp.lf⟩
end
theorem aPb {b r:BU} {i k:Int} {o:List Int} {x:Int×Int×Int×Int×Zt×Int} (hp:PADD b i k)(ho:o.length=b.2.2.1.length)(h2:2<=k - i)(hr:ADDR (b.1,b.2.1,o,b.2.2.2++[x]) r i (W (i+(W (Int.tdiv (W ((W (k - i))+1)) 2))))) :
 PADD (b.1,r.2.1,r.2.2.1,r.2.2.2) (W (i+(W (Int.tdiv (W ((W (k - i))+1)) 2)))) k:=by
 have h:=hp.rng;have hn:=hp.nds
 obtain⟨g1,g2,g3,g4,g5,g6⟩:=hr
 rw [aBu ⟨h.1,h.2.1,by omega⟩] at g6 ⊢
 simp only [List.length_append,List.length_cons,List.length_nil] at g3 g5 g6 g2
 exact⟨g4,⟨by omega,by omega,by rw [g3];omega,by rw [g3];omega⟩,by simp only;omega,by rw [g2];exact hp.lf⟩
theorem wC:∀(nr:Nat) (b:BU) (i k:Int),PADD b i k->tN (k - i) < nr->ADDR b (cI nr b i k).2 i k
 | 0,b,i,k,_,hn=>absurd hn (eI _)
 | nr+1,b,i,k,hp,hn=>by
  have h:=hp.rng;have hn2:=hp.nds;have hl:=hp.lf
  have hW:W (k - i)=k - i:=aS (by omega) (by omega)
  simp only [cI]
  by_cases h0:W (k - i) > b.2.1
  ·rw [cH h0,cond_true]
   have h2:2<=k - i:=by omega
   have hm:=aBu ⟨h.1,h.2.1,by omega⟩
   have h5:ADDR _ (fQ (cI nr) b i k).2 i _:=wC nr _ _ _ (aM1 hp h2) (by rw [hm];omega)
   have h6:ADDR _ (aV (cI nr) b i k).2 _ k:=wC nr _ _ _ (aPb hp (tK hp).1 h2 h5) (by rw [hm];omega)
   have g3:=h5.ol;have g5:=h5.lo;have g6:=h5.hi;have f3:=h6.ol;have f5:=h6.lo;have f6:=h6.hi
   rw [hm] at g6 f6
   simp only [List.length_append,List.length_cons,List.length_nil] at g3 g5 g6 f3 f5 f6
   refine⟨rfl,h6.leaf.trans h5.leaf,?_,h6.oi,?_,?_⟩
   ·show(aV (cI nr) b i k).2.2.2.1.length=_
    rw [f3,g3];exact(tK hp).1
   ·simp only [List.length_set];omega
   ·simp only [List.length_set];omega
  ·rw [dA h0,cond_false]
   exact⟨rfl,rfl,rfl,hp.inr,by simp,by simp;omega⟩
theorem aXe:∀(nr:Nat) (a0:bO×Int×List Int×bF) (a1:Int) (a2:Int) (l0_1:a0.1.length<=2^63-1) (l0_2_2_1:a0.2.2.1.length<=2^63-1) (l0_2_2_2:a0.2.2.2.length<=2^63-1) (hp:PADD a0 a1 a2),tN (a2 - a1) < nr->Con Tryz.prog 49 [(.p 0 0),(iv a1),(iv a2)] [(.live true false [(.s 1 0 a0.1.length 10),(iv a0.2.1),(.s 2 0 a0.2.2.1.length 1),(.s 3 0 a0.2.2.2.length 8)]),(.live false true (flat dC a0.1)),(.live true true (flat c3 a0.2.2.1)),(.live true true (flat cB a0.2.2.2))] (iv (cI nr a0 a1 a2).1) [(.live true true (flat cB (cI nr a0 a1 a2).2.2.2.2))] [(.live true false [(.s 1 0 a0.1.length 10),(iv (cI nr a0 a1 a2).2.2.1),(.s 2 0 (cI nr a0 a1 a2).2.2.2.1.length 1),(.s 4 0 (cI nr a0 a1 a2).2.2.2.2.length 8)]),.un,(.live true true (flat c3 (cI nr a0 a1 a2).2.2.2.1)),.dead]:=by
 intro nr
 induction nr with
 | zero=>intro a0 a1 a2 l0_1 l0_2_2_1 l0_2_2_2 hp hlt;exact absurd hlt (eI _)
 | succ nr ihr =>
 intro a0 a1 a2 l0_1 l0_2_2_1 l0_2_2_2 hp hlt
 refine aY Tryz.func49 (by kernel_rfl) fun cx hcx=>?_
 have hpr:=hp.rng
 have hpn:=hp.nds
 have hpl:=hp.lf
 have hpt:=dN (l:=a0.2.2.1) (a:=a1) (b:=a2) (by omega)
 have hm1:(dR a0 a1 a2).length=_:=zW a0.1 (Aw.part a0.2.2.1 a1 a2)
 have hW:W (a2 - a1)=a2 - a1:=aS (by omega) (by omega)
 have hmid:=aBu (i:=a1) (k:=a2) (by omega)
 have h4:=tK hp
 try (have _:=h0;rw [hmid] at g6 f6;simp only [List.length_append,List.length_cons,List.length_nil] at g3 g5 g6 f3 f5 f6)
 let t0:List (St Tryz.prog):=[.sub a1 a2 (a0.2.2.1.length),.c [1,2] (show Con Tryz.prog 70 [(.s 0 0 a0.1.length 10),(.s 1 (0+tN a1*1) (tN a2 - tN a1) 1)] [(.live false true (flat dC a0.1)),(.live false true (flat c3 a0.2.2.1))] (.s 2 0 (dR a0 a1 a2).length 10) [(.live true true (flat dC (dR a0 a1 a2)))] from Con.part (l:=a0.2.2.1) (a:=a1) (b:=a2) (c:=c3) (pre:=[(.s 0 0 a0.1.length 10)]) (post:=[]) (bs1:=[(.live false true (flat dC a0.1))]) (bs2:=[]) 1 aF (by omega) rfl (by rfl) (aRh a0.1 (Aw.part (a0.2.2.1) a1 a2) (by omega) (by omega) (hp.inr.part a1 a2) (by omega))),.c [4] (aV7 (dR a0 a1 a2) (by omega) (by omega)),.c [4] (aV9 (dR a0 a1 a2) (eA (dR a0 a1 a2)) (by omega) (by omega)),.p (show((flat cB a0.2.2.2).length=a0.2.2.2.length*8/\a0.2.2.2.length+1<=2 ^ 40/\(a0.2.2.2.length+1)*64<=2 ^ 47) from kG bU (by omega) (by omega))]
 cases h0:(decide (((W (a2 - a1)):Int) > a0.2.1)) with
 | true =>
  have q0:=cJ h0
  have h4:=tK hp
  try have h2:2<=a2 - a1:=(fun _=>by omega) h0
  try have h5:ADDR _ (fQ (cI nr) a0 a1 a2).2 a1 _:=(fun _=>wC nr _ _ _ (aM1 hp h2) (by rw [hmid];omega)) h0
  try have h6:ADDR _ (aV (cI nr) a0 a1 a2).2 _ a2:=(fun _=>wC nr _ _ _ (aPb hp (tK hp).1 h2 h5) (by rw [hmid];omega)) h0
  try have g5:=(fun _=>h5.lo) h0
  try have g6:=(fun _=>h5.hi) h0
  try have g3:=(fun _=>h5.ol) h0
  try have f5:=(fun _=>h6.lo) h0
  try have f6:=(fun _=>h6.hi) h0
  try have f3:=(fun _=>h6.ol) h0
  try (have _:=h0;rw [hmid] at g6 f6;simp only [List.length_append,List.length_cons,List.length_nil] at g3 g5 g6 f3 f5 f6)
  have e:=Eq.refl (cI (nr+1) a0 a1 a2);conv at e=>rhs;simp only [cI,h0,aT]
  rw [e]
  try dsimp only [bA]
  try dsimp only
  rw [show flat cB (((aV (cI nr) a0 a1 a2).2.2.2.2.set (tN (a0.2.2.2.length:Int)) (((aV (cI nr) a0 a1 a2).2.2.2.2.getD (tN (a0.2.2.2.length:Int)) dF).1,((aV (cI nr) a0 a1 a2).2.2.2.2.getD (tN (a0.2.2.2.length:Int)) dF).2.1,(fQ (cI nr) a0 a1 a2).1,((aV (cI nr) a0 a1 a2).2.2.2.2.getD (tN (a0.2.2.2.length:Int)) dF).2.2.2.1,((aV (cI nr) a0 a1 a2).2.2.2.2.getD (tN (a0.2.2.2.length:Int)) dF).2.2.2.2.1,((aV (cI nr) a0 a1 a2).2.2.2.2.getD (tN (a0.2.2.2.length:Int)) dF).2.2.2.2.2)).set (tN (a0.2.2.2.length:Int)) ((((aV (cI nr) a0 a1 a2).2.2.2.2.set (tN (a0.2.2.2.length:Int)) (((aV (cI nr) a0 a1 a2).2.2.2.2.getD (tN (a0.2.2.2.length:Int)) dF).1,((aV (cI nr) a0 a1 a2).2.2.2.2.getD (tN (a0.2.2.2.length:Int)) dF).2.1,(fQ (cI nr) a0 a1 a2).1,((aV (cI nr) a0 a1 a2).2.2.2.2.getD (tN (a0.2.2.2.length:Int)) dF).2.2.2.1,((aV (cI nr) a0 a1 a2).2.2.2.2.getD (tN (a0.2.2.2.length:Int)) dF).2.2.2.2.1,((aV (cI nr) a0 a1 a2).2.2.2.2.getD (tN (a0.2.2.2.length:Int)) dF).2.2.2.2.2)).getD (tN (a0.2.2.2.length:Int)) dF).1,(((aV (cI nr) a0 a1 a2).2.2.2.2.set (tN (a0.2.2.2.length:Int)) (((aV (cI nr) a0 a1 a2).2.2.2.2.getD (tN (a0.2.2.2.length:Int)) dF).1,((aV (cI nr) a0 a1 a2).2.2.2.2.getD (tN (a0.2.2.2.length:Int)) dF).2.1,(fQ (cI nr) a0 a1 a2).1,((aV (cI nr) a0 a1 a2).2.2.2.2.getD (tN (a0.2.2.2.length:Int)) dF).2.2.2.1,((aV (cI nr) a0 a1 a2).2.2.2.2.getD (tN (a0.2.2.2.length:Int)) dF).2.2.2.2.1,((aV (cI nr) a0 a1 a2).2.2.2.2.getD (tN (a0.2.2.2.length:Int)) dF).2.2.2.2.2)).getD (tN (a0.2.2.2.length:Int)) dF).2.1,(((aV (cI nr) a0 a1 a2).2.2.2.2.set (tN (a0.2.2.2.length:Int)) (((aV (cI nr) a0 a1 a2).2.2.2.2.getD (tN (a0.2.2.2.length:Int)) dF).1,((aV (cI nr) a0 a1 a2).2.2.2.2.getD (tN (a0.2.2.2.length:Int)) dF).2.1,(fQ (cI nr) a0 a1 a2).1,((aV (cI nr) a0 a1 a2).2.2.2.2.getD (tN (a0.2.2.2.length:Int)) dF).2.2.2.1,((aV (cI nr) a0 a1 a2).2.2.2.2.getD (tN (a0.2.2.2.length:Int)) dF).2.2.2.2.1,((aV (cI nr) a0 a1 a2).2.2.2.2.getD (tN (a0.2.2.2.length:Int)) dF).2.2.2.2.2)).getD (tN (a0.2.2.2.length:Int)) dF).2.2.1,(aV (cI nr) a0 a1 a2).1,(((aV (cI nr) a0 a1 a2).2.2.2.2.set (tN (a0.2.2.2.length:Int)) (((aV (cI nr) a0 a1 a2).2.2.2.2.getD (tN (a0.2.2.2.length:Int)) dF).1,((aV (cI nr) a0 a1 a2).2.2.2.2.getD (tN (a0.2.2.2.length:Int)) dF).2.1,(fQ (cI nr) a0 a1 a2).1,((aV (cI nr) a0 a1 a2).2.2.2.2.getD (tN (a0.2.2.2.length:Int)) dF).2.2.2.1,((aV (cI nr) a0 a1 a2).2.2.2.2.getD (tN (a0.2.2.2.length:Int)) dF).2.2.2.2.1,((aV (cI nr) a0 a1 a2).2.2.2.2.getD (tN (a0.2.2.2.length:Int)) dF).2.2.2.2.2)).getD (tN (a0.2.2.2.length:Int)) dF).2.2.2.2.1,(((aV (cI nr) a0 a1 a2).2.2.2.2.set (tN (a0.2.2.2.length:Int)) (((aV (cI nr) a0 a1 a2).2.2.2.2.getD (tN (a0.2.2.2.length:Int)) dF).1,((aV (cI nr) a0 a1 a2).2.2.2.2.getD (tN (a0.2.2.2.length:Int)) dF).2.1,(fQ (cI nr) a0 a1 a2).1,((aV (cI nr) a0 a1 a2).2.2.2.2.getD (tN (a0.2.2.2.length:Int)) dF).2.2.2.1,((aV (cI nr) a0 a1 a2).2.2.2.2.getD (tN (a0.2.2.2.length:Int)) dF).2.2.2.2.1,((aV (cI nr) a0 a1 a2).2.2.2.2.getD (tN (a0.2.2.2.length:Int)) dF).2.2.2.2.2)).getD (tN (a0.2.2.2.length:Int)) dF).2.2.2.2.2))=(splice (splice (flat cB (aV (cI nr) a0 a1 a2).2.2.2.2) (0+tN (a0.2.2.2.length:Int)*8+2) [(iv (fQ (cI nr) a0 a1 a2).1)]) (0+tN (a0.2.2.2.length:Int)*8+3) [(iv (aV (cI nr) a0 a1 a2).1)]) from Eq.symm (by rw [show(splice (flat cB (aV (cI nr) a0 a1 a2).2.2.2.2) (0+tN (a0.2.2.2.length:Int)*8+2) [(iv (fQ (cI nr) a0 a1 a2).1)])=flat cB ((aV (cI nr) a0 a1 a2).2.2.2.2.set (tN (a0.2.2.2.length:Int)) (((aV (cI nr) a0 a1 a2).2.2.2.2.getD (tN (a0.2.2.2.length:Int)) dF).1,((aV (cI nr) a0 a1 a2).2.2.2.2.getD (tN (a0.2.2.2.length:Int)) dF).2.1,(fQ (cI nr) a0 a1 a2).1,((aV (cI nr) a0 a1 a2).2.2.2.2.getD (tN (a0.2.2.2.length:Int)) dF).2.2.2.1,((aV (cI nr) a0 a1 a2).2.2.2.2.getD (tN (a0.2.2.2.length:Int)) dF).2.2.2.2.1,((aV (cI nr) a0 a1 a2).2.2.2.2.getD (tN (a0.2.2.2.length:Int)) dF).2.2.2.2.2)) from(bB bU (by first | omega | (simp only [Lt];omega)) (o:=2) (d:=dF) (Nb rfl) rfl)];exact bB bU (by first | omega | (simp only [Lt];omega)) (o:=3) (d:=dF) (Nb rfl) rfl)]
  try rw [show List.length (α:=Int×Int×Int×Int×Zt×Int) (((aV (cI nr) a0 a1 a2).2.2.2.2.set (tN (a0.2.2.2.length:Int)) (((aV (cI nr) a0 a1 a2).2.2.2.2.getD (tN (a0.2.2.2.length:Int)) dF).1,((aV (cI nr) a0 a1 a2).2.2.2.2.getD (tN (a0.2.2.2.length:Int)) dF).2.1,(fQ (cI nr) a0 a1 a2).1,((aV (cI nr) a0 a1 a2).2.2.2.2.getD (tN (a0.2.2.2.length:Int)) dF).2.2.2.1,((aV (cI nr) a0 a1 a2).2.2.2.2.getD (tN (a0.2.2.2.length:Int)) dF).2.2.2.2.1,((aV (cI nr) a0 a1 a2).2.2.2.2.getD (tN (a0.2.2.2.length:Int)) dF).2.2.2.2.2)).set (tN (a0.2.2.2.length:Int)) ((((aV (cI nr) a0 a1 a2).2.2.2.2.set (tN (a0.2.2.2.length:Int)) (((aV (cI nr) a0 a1 a2).2.2.2.2.getD (tN (a0.2.2.2.length:Int)) dF).1,((aV (cI nr) a0 a1 a2).2.2.2.2.getD (tN (a0.2.2.2.length:Int)) dF).2.1,(fQ (cI nr) a0 a1 a2).1,((aV (cI nr) a0 a1 a2).2.2.2.2.getD (tN (a0.2.2.2.length:Int)) dF).2.2.2.1,((aV (cI nr) a0 a1 a2).2.2.2.2.getD (tN (a0.2.2.2.length:Int)) dF).2.2.2.2.1,((aV (cI nr) a0 a1 a2).2.2.2.2.getD (tN (a0.2.2.2.length:Int)) dF).2.2.2.2.2)).getD (tN (a0.2.2.2.length:Int)) dF).1,(((aV (cI nr) a0 a1 a2).2.2.2.2.set (tN (a0.2.2.2.length:Int)) (((aV (cI nr) a0 a1 a2).2.2.2.2.getD (tN (a0.2.2.2.length:Int)) dF).1,((aV (cI nr) a0 a1 a2).2.2.2.2.getD (tN (a0.2.2.2.length:Int)) dF).2.1,(fQ (cI nr) a0 a1 a2).1,((aV (cI nr) a0 a1 a2).2.2.2.2.getD (tN (a0.2.2.2.length:Int)) dF).2.2.2.1,((aV (cI nr) a0 a1 a2).2.2.2.2.getD (tN (a0.2.2.2.length:Int)) dF).2.2.2.2.1,((aV (cI nr) a0 a1 a2).2.2.2.2.getD (tN (a0.2.2.2.length:Int)) dF).2.2.2.2.2)).getD (tN (a0.2.2.2.length:Int)) dF).2.1,(((aV (cI nr) a0 a1 a2).2.2.2.2.set (tN (a0.2.2.2.length:Int)) (((aV (cI nr) a0 a1 a2).2.2.2.2.getD (tN (a0.2.2.2.length:Int)) dF).1,((aV (cI nr) a0 a1 a2).2.2.2.2.getD (tN (a0.2.2.2.length:Int)) dF).2.1,(fQ (cI nr) a0 a1 a2).1,((aV (cI nr) a0 a1 a2).2.2.2.2.getD (tN (a0.2.2.2.length:Int)) dF).2.2.2.1,((aV (cI nr) a0 a1 a2).2.2.2.2.getD (tN (a0.2.2.2.length:Int)) dF).2.2.2.2.1,((aV (cI nr) a0 a1 a2).2.2.2.2.getD (tN (a0.2.2.2.length:Int)) dF).2.2.2.2.2)).getD (tN (a0.2.2.2.length:Int)) dF).2.2.1,(aV (cI nr) a0 a1 a2).1,(((aV (cI nr) a0 a1 a2).2.2.2.2.set (tN (a0.2.2.2.length:Int)) (((aV (cI nr) a0 a1 a2).2.2.2.2.getD (tN (a0.2.2.2.length:Int)) dF).1,((aV (cI nr) a0 a1 a2).2.2.2.2.getD (tN (a0.2.2.2.length:Int)) dF).2.1,(fQ (cI nr) a0 a1 a2).1,((aV (cI nr) a0 a1 a2).2.2.2.2.getD (tN (a0.2.2.2.length:Int)) dF).2.2.2.1,((aV (cI nr) a0 a1 a2).2.2.2.2.getD (tN (a0.2.2.2.length:Int)) dF).2.2.2.2.1,((aV (cI nr) a0 a1 a2).2.2.2.2.getD (tN (a0.2.2.2.length:Int)) dF).2.2.2.2.2)).getD (tN (a0.2.2.2.length:Int)) dF).2.2.2.2.1,(((aV (cI nr) a0 a1 a2).2.2.2.2.set (tN (a0.2.2.2.length:Int)) (((aV (cI nr) a0 a1 a2).2.2.2.2.getD (tN (a0.2.2.2.length:Int)) dF).1,((aV (cI nr) a0 a1 a2).2.2.2.2.getD (tN (a0.2.2.2.length:Int)) dF).2.1,(fQ (cI nr) a0 a1 a2).1,((aV (cI nr) a0 a1 a2).2.2.2.2.getD (tN (a0.2.2.2.length:Int)) dF).2.2.2.1,((aV (cI nr) a0 a1 a2).2.2.2.2.getD (tN (a0.2.2.2.length:Int)) dF).2.2.2.2.1,((aV (cI nr) a0 a1 a2).2.2.2.2.getD (tN (a0.2.2.2.length:Int)) dF).2.2.2.2.2)).getD (tN (a0.2.2.2.length:Int)) dF).2.2.2.2.2))=(aV (cI nr) a0 a1 a2).2.2.2.2.length from by first | simp;done | omega]
  exact wW (t0++[.d h0,.sub a1 a2 (a0.2.2.1.length),.sub a1 a2 (a0.2.2.1.length),.c [0,1,2,7] (show Con Tryz.prog 74 [(.p 0 0),(.s 2 (0+tN a1*1) (tN a2 - tN a1) 1)] [(.live false false [(.s 1 0 a0.1.length 10),(iv a0.2.1),(.s 2 0 a0.2.2.1.length 1),(.s 3 0 (a0.2.2.2.length+1) 8)]),(.live false true (flat dC a0.1)),(.live false true (flat c3 a0.2.2.1)),(.live false true (flat cB a0.2.2.2++[(iv a1),(iv a2),(iv (-1)),(iv (-1)),(iv (eA (dR a0 a1 a2)).1),(iv (eA (dR a0 a1 a2)).2.1),(iv (eA (dR a0 a1 a2)).2.2),(iv (iE a0 a1 a2).1)]))] (.a [(.p 0 0),(iv (aHf a0 a1 a2).2)]) [] from Con.alias (l:=a0.2.2.1) (a:=a1) (b:=a2) (c:=c3) (pre:=[(.p 0 0)]) (post:=[]) (bs:=[(.live false false [(.s 1 0 a0.1.length 10),(iv a0.2.1),(.s 2 0 a0.2.2.1.length 1),(.s 3 0 (a0.2.2.2.length+1) 8)]),(.live false true (flat dC a0.1)),(.live false true (flat c3 a0.2.2.1)),(.live false true (flat cB a0.2.2.2++[(iv a1),(iv a2),(iv (-1)),(iv (-1)),(iv (eA (dR a0 a1 a2)).1),(iv (eA (dR a0 a1 a2)).2.1),(iv (eA (dR a0 a1 a2)).2.2),(iv (iE a0 a1 a2).1)]))]) 2 aF (by omega) rfl (by rfl) (by have q:=(aWa (a0.1,a0.2.1,(a0.2.2.1,(a0.2.2.2++[(a1,a2,(-1),(-1),(eA (dR a0 a1 a2)),(iE a0 a1 a2).1)]))) (Aw.part (a0.2.2.1) a1 a2) (by omega) (by omega) (by(try simp only [Lt]);omega) (by omega) (hp.inr.part a1 a2) (by omega));(try dsimp only at q);rw [show flat cB (a0.2.2.2++[(a1,a2,(-1),(-1),(eA (dR a0 a1 a2)),(iE a0 a1 a2).1)])=(flat cB a0.2.2.2++[(iv a1),(iv a2),(iv (-1)),(iv (-1)),(iv (eA (dR a0 a1 a2)).1),(iv (eA (dR a0 a1 a2)).2.1),(iv (eA (dR a0 a1 a2)).2.2),(iv (iE a0 a1 a2).1)]) from cM] at q;(try rw [show List.length (α:=Int×Int×Int×Int×Zt×Int) (a0.2.2.2++[(a1,a2,(-1),(-1),(eA (dR a0 a1 a2)),(iE a0 a1 a2).1)])=(a0.2.2.2.length+1) from by first | simp;done | omega] at q);exact q)),.c [2,0,1,7] (by have q:=(aMz (a0.2.2.1) (tN a1) (tN a2 - tN a1) ((a0.1,a0.2.1,(a0.2.2.1,(a0.2.2.2++[(a1,a2,(-1),(-1),(eA (dR a0 a1 a2)),(iE a0 a1 a2).1)]))),(aHf a0 a1 a2).2) (by omega) (by omega) (by omega) (by(try simp only [Lt]);omega) (by omega) hp.inr);(try dsimp only at q);rw [show flat cB (a0.2.2.2++[(a1,a2,(-1),(-1),(eA (dR a0 a1 a2)),(iE a0 a1 a2).1)])=(flat cB a0.2.2.2++[(iv a1),(iv a2),(iv (-1)),(iv (-1)),(iv (eA (dR a0 a1 a2)).1),(iv (eA (dR a0 a1 a2)).2.1),(iv (eA (dR a0 a1 a2)).2.2),(iv (iE a0 a1 a2).1)]) from cM] at q;(try rw [show List.length (α:=Int×Int×Int×Int×Zt×Int) (a0.2.2.2++[(a1,a2,(-1),(-1),(eA (dR a0 a1 a2)),(iE a0 a1 a2).1)])=(a0.2.2.2.length+1) from by first | simp;done | omega] at q);exact q),.p (show(2:Int)≠0 from by decide),.c [0,1,2,7] (by have q:=(ihr (a0.1,a0.2.1,((zD a0 a1 a2),(a0.2.2.2++[(a1,a2,(-1),(-1),(eA (dR a0 a1 a2)),(iE a0 a1 a2).1)]))) a1 (W (a1+(W (Int.tdiv (W ((W (a2 - a1))+1)) 2)))) (by omega) (by(try simp only [Lt]);omega) (by(try simp only [Lt]);omega) (by first | exact aM1 hp h2 | exact aPb hp (tK hp).1 h2 h5) (by rw [hmid];omega));(try dsimp only at q);rw [show flat cB (a0.2.2.2++[(a1,a2,(-1),(-1),(eA (dR a0 a1 a2)),(iE a0 a1 a2).1)])=(flat cB a0.2.2.2++[(iv a1),(iv a2),(iv (-1)),(iv (-1)),(iv (eA (dR a0 a1 a2)).1),(iv (eA (dR a0 a1 a2)).2.1),(iv (eA (dR a0 a1 a2)).2.2),(iv (iE a0 a1 a2).1)]) from cM] at q;(try rw [show List.length (α:=Int) (zD a0 a1 a2)=a0.2.2.1.length from by first | simp;done | omega] at q);(try rw [show List.length (α:=Int×Int×Int×Int×Zt×Int) (a0.2.2.2++[(a1,a2,(-1),(-1),(eA (dR a0 a1 a2)),(iE a0 a1 a2).1)])=(a0.2.2.2.length+1) from by first | simp;done | omega] at q);exact q),.c [0,1,2,8] (ihr (a0.1,(fQ (cI nr) a0 a1 a2).2.2.1,((fQ (cI nr) a0 a1 a2).2.2.2.1,(fQ (cI nr) a0 a1 a2).2.2.2.2)) (W (a1+(W (Int.tdiv (W ((W (a2 - a1))+1)) 2)))) a2 (by omega) (by(try simp only [Lt]);omega) (by(try simp only [Lt]);omega) (by first | exact aM1 hp h2 | exact aPb hp (tK hp).1 h2 h5) (by rw [hmid];omega)),.i (a0.2.2.2.length:Int) ((aV (cI nr) a0 a1 a2).2.2.2.2.length),.p (show((0+tN (a0.2.2.2.length:Int)*8+2)+1<=(flat cB (aV (cI nr) a0 a1 a2).2.2.2.2).length) from(dT bU (by first | omega | (simp only [Lt];omega)) (o:=2) (Nb rfl))),.i (a0.2.2.2.length:Int) ((aV (cI nr) a0 a1 a2).2.2.2.2.length),.p (show((0+tN (a0.2.2.2.length:Int)*8+3)+1<=(splice (flat cB (aV (cI nr) a0 a1 a2).2.2.2.2) (0+tN (a0.2.2.2.length:Int)*8+2) [(iv (fQ (cI nr) a0 a1 a2).1)]).length) from(by rw [show(splice (flat cB (aV (cI nr) a0 a1 a2).2.2.2.2) (0+tN (a0.2.2.2.length:Int)*8+2) [(iv (fQ (cI nr) a0 a1 a2).1)])=flat cB ((aV (cI nr) a0 a1 a2).2.2.2.2.set (tN (a0.2.2.2.length:Int)) (((aV (cI nr) a0 a1 a2).2.2.2.2.getD (tN (a0.2.2.2.length:Int)) dF).1,((aV (cI nr) a0 a1 a2).2.2.2.2.getD (tN (a0.2.2.2.length:Int)) dF).2.1,(fQ (cI nr) a0 a1 a2).1,((aV (cI nr) a0 a1 a2).2.2.2.2.getD (tN (a0.2.2.2.length:Int)) dF).2.2.2.1,((aV (cI nr) a0 a1 a2).2.2.2.2.getD (tN (a0.2.2.2.length:Int)) dF).2.2.2.2.1,((aV (cI nr) a0 a1 a2).2.2.2.2.getD (tN (a0.2.2.2.length:Int)) dF).2.2.2.2.2)) from(bB bU (by first | omega | (simp only [Lt];omega)) (o:=2) (d:=dF) (Nb rfl) rfl)];exact dT bU (by first | omega | (simp only [Lt];omega)) (o:=3) (Nb rfl)))]) [] [0,2,3] [9] hcx (by kernel_rfl)
 | false =>
  have q0:=cN h0
  have h4:=tK hp
  try (have _:=h0;rw [hmid] at g6 f6;simp only [List.length_append,List.length_cons,List.length_nil] at g3 g5 g6 f3 f5 f6)
  have e:=Eq.refl (cI (nr+1) a0 a1 a2);conv at e=>rhs;simp only [cI,h0,aT]
  rw [e]
  try dsimp only [bA]
  try dsimp only
  rw [show flat cB (a0.2.2.2++[(a1,a2,(-1),(-1),(eA (dR a0 a1 a2)),(iE a0 a1 a2).1)])=(flat cB a0.2.2.2++[(iv a1),(iv a2),(iv (-1)),(iv (-1)),(iv (eA (dR a0 a1 a2)).1),(iv (eA (dR a0 a1 a2)).2.1),(iv (eA (dR a0 a1 a2)).2.2),(iv (iE a0 a1 a2).1)]) from cM]
  try rw [show List.length (α:=Int×Int×Int×Int×Zt×Int) (a0.2.2.2++[(a1,a2,(-1),(-1),(eA (dR a0 a1 a2)),(iE a0 a1 a2).1)])=(a0.2.2.2.length+1) from by first | simp;done | omega]
  exact wW (t0++[.d h0]) [] [0,2,3] [7] hcx (by kernel_rfl)
theorem C49 (a0:bO×Int×List Int×bF)(a1:Int)(a2:Int)(l0_1:a0.1.length<=2^63-1)(l0_2_2_1:a0.2.2.1.length<=2^63-1)(l0_2_2_2:a0.2.2.2.length<=2^63-1)(hp:PADD a0 a1 a2):Con Tryz.prog 49 [(.p 0 0),(iv a1),(iv a2)] [(.live true false [(.s 1 0 a0.1.length 10),(iv a0.2.1),(.s 2 0 a0.2.2.1.length 1),(.s 3 0 a0.2.2.2.length 8)]),(.live false true (flat dC a0.1)),(.live true true (flat c3 a0.2.2.1)),(.live true true (flat cB a0.2.2.2))] (iv (F49 a0 a1 a2).1) [(.live true true (flat cB (F49 a0 a1 a2).2.2.2.2))] [(.live true false [(.s 1 0 a0.1.length 10),(iv (F49 a0 a1 a2).2.2.1),(.s 2 0 (F49 a0 a1 a2).2.2.2.1.length 1),(.s 4 0 (F49 a0 a1 a2).2.2.2.2.length 8)]),.un,(.live true true (flat c3 (F49 a0 a1 a2).2.2.2.1)),.dead]:=aXe (tN (a2 - a1)+1) a0 a1 a2 l0_1 l0_2_2_1 l0_2_2_2 hp (lss _)
end Go.Proofs.YtkdfcbmcgnaicaaGreat
namespace Go.Proofs.YtkdfcbmcgnaicaaGreat
open Go.Proofs Go.Aw Go.RowKit
set_option maxRecDepth 100000
theorem InR.add {n:Nat} {l:List Int} (h:InR n l) {x:Int} (hx:0<=x/\x < (n:Int)):InR n (l++[x]):=fun y hy=>by
 rcases List.mem_append.1 hy with hy | hy
 ·exact h y hy
 ·rw [List.mem_singleton.1 hy];exact hx
theorem InR.nil (n:Nat):InR n []:=fun y hy=>by simp at hy
noncomputable def aE8:Code:=(aM [1,1,0,1] [] (aL Tryz.f30) []).1
noncomputable def aE9:List K:=(aM [1,1,0,1] [] (aL Tryz.f30) []).2
def aBv (a0:bO)(a1:Int)(v3c:List SV)(v3n:Nat)(v4c:List SV)(v4n:Nat)(v5:Int):LS:=⟨gD 40 [(0,(.s 0 0 a0.length 10)),(4,(.p 1 0)),(5,(.p 2 0)),(12,(iv (a0.length:Int))),(13,(iv v5))],[(.live false true (flat dC a0)),(.live true false [(.v (.slice none 0 0)),(.v (.slice none 0 0))]),(.live true false [(.s 0 0 a0.length 10),(iv a1),(.s 3 0 v3n 1),(.s 4 0 v4n 8)]),(.live true true v3c),(.live true true v4c)]⟩
def hZ (a0:bO)(a1:Int):List Int×bF×Int->(List Int×bF×Int)⊕(List Int×bF)
 | (v3,v4,v5) =>
  (bif (decide ((v5:Int) < (a0.length:Int))) then
   (.inl ((v3++[v5]),v4,(v5+1)))
  else
   (bif (decide (((a0.length:Int):Int) > 0)) then
    (.inr ((F49 (a0,a1,(v3,v4)) 0 (a0.length:Int)).2.2.2.1,(F49 (a0,a1,(v3,v4)) 0 (a0.length:Int)).2.2.2.2))
   else
    (.inr (v3,v4))))
theorem aRm (a0:bO)(a1:Int)(l0:a0.length<=2^63-1)(hl:a0.length<=96)(hf:1<=a1) {cx:Cx} (hcx:cx.base=1):∀(n:Nat) (v3:List Int) (v4:bF) (v5:Int),(0<=v5)/\(v3.length=tN v5)/\(InR a0.length v3)/\(v4.length=0)/\(v5<=a0.length)/\(a0.length<=96)/\(1<=a1)->tN ((a0.length:Int) - v5) < n->Aw.Good Tryz.prog none 9 (bodyPost Tryz.prog Tryz.f30 (RR cx (.a [(.s 1 0 (aH (hZ a0 a1) n (v3,v4,v5)).1.length 1),(.s 2 0 (aH (hZ a0 a1) n (v3,v4,v5)).2.length 8)]) [(.live true true (flat c3 (aH (hZ a0 a1) n (v3,v4,v5)).1)),(.live true true (flat cB (aH (hZ a0 a1) n (v3,v4,v5)).2))] [])) cx [] (.l aE8 n::aE9) (aBv a0 a1 (flat c3 v3) v3.length (flat cB v4) v4.length v5):=by
 intro n
 induction n with
 | zero=>intro v3 v4 v5 hi hn;exact absurd hn (eI _)
 | succ n ih =>
  intro v3 v4 v5 hi hn
  refine aR ?_
  cases h0:(decide ((v5:Int) < (a0.length:Int))) with
  | true =>
   have q0:=cJ h0
   have e:=Eq.refl (hZ a0 a1 (v3,v4,v5));conv at e=>rhs;simp only [hZ,h0,aT]
   rw [aI e]
   refine ba [.d h0,.p (show((flat c3 v3).length=v3.length*1/\v3.length+1<=2 ^ 40/\(v3.length+1)*8<=2 ^ 47) from kG aF (by omega) (by omega))] [] [0,4,5,12,13] [1,2,6,4] hcx (m:=n) aE8 (aE9) (aBv a0 a1 (flat c3 v3++[(iv v5)]) (v3.length+1) (flat cB v4) (v4.length) (W (v5+1))) (by kernel_rfl) ?_
   have z0:(W (v5+1))=(v5+1):=aS (by omega) (by omega)
   have z1:(flat c3 v3++[(iv v5)])=(flat c3 (v3++[v5])):=(cM (c:=c3) (l:=v3) (m:=[v5])).symm
   have z2:(v3.length+1)=(v3++[v5]).length:=mI v3 [v5] rfl
   rw [z0,z1,z2]
   exact ih (v3++[v5]) v4 (v5+1) (by refine⟨?_,?_,?_,?_,?_,?_,?_⟩<;>first | omega | assumption | exact InR.nil _ | exact hi.2.2.1 | exact hi.2.2.1.add (by omega) | (simp only [Ls];omega) | simp) (by omega)
  | false =>
   have q0:=cN h0
   let t1:List (St Tryz.prog):=[.d h0]
   cases h1:(decide (((a0.length:Int):Int) > 0)) with
   | true =>
    have q1:=cJ h1
    have e:=Eq.refl (hZ a0 a1 (v3,v4,v5));conv at e=>rhs;simp only [hZ,h0,h1,aT]
    rw [aJ,e]
    exact rt (t1++[.d h1,.c [2,0,3,4] (C49 (a0,a1,(v3,v4)) 0 (a0.length:Int) (by omega) (by(try simp only [Lt]);omega) (by(try simp only [Lt]);omega) (by refine⟨?_,?_,?_,?_⟩<;>first | exact hi.2.2.1 | (simp only [];omega) | omega))]) [] [3,5] hcx (by kernel_rfl)
   | false =>
    have q1:=cN h1
    have e:=Eq.refl (hZ a0 a1 (v3,v4,v5));conv at e=>rhs;simp only [hZ,h0,h1,aT]
    rw [aJ,e]
    exact rt (t1++[.d h1]) [] [3,4] hcx (by kernel_rfl)
def lW (a0:bO)(a1:Int):List Int×bF :=
 (aH (hZ a0 a1) (tN ((a0.length:Int) - 0)+1) (([]:List Int),([]:bF),0))
theorem aTh (a0:bO)(a1:Int)(l0:a0.length<=2^63-1)(hl:a0.length<=96)(hf:1<=a1):Con Tryz.prog 30 [(.s 0 0 a0.length 10),(iv a1)] [(.live false true (flat dC a0))] (.a [(.s 1 0 (lW a0 a1).1.length 1),(.s 2 0 (lW a0 a1).2.length 8)]) [(.live true true (flat c3 (lW a0 a1).1)),(.live true true (flat cB (lW a0 a1).2))]:=by
 refine aY Tryz.func30 (by kernel_rfl) fun cx hcx=>?_
 have e:=Eq.refl (lW a0 a1);conv at e=>rhs;simp only [lW]
 rw [e]
 refine en [] [.cell 2 2 1,.cell 2 3 8] [0,4,5,12,13] [1,2,3,4] hcx aE8 (aE9) (aBv a0 a1 (flat c3 ([]:List Int)) 0 (flat cB ([]:bF)) 0 0) (tN ((a0.length:Int) - 0)+1) (by kernel_rfl) ?_
 exact aRm a0 a1 l0 hl hf hcx (tN ((a0.length:Int) - 0)+1) ([]:List Int) ([]:bF) 0 (by refine⟨?_,?_,?_,?_,?_,?_,?_⟩<;>first | omega | assumption | exact InR.nil _ | exact hi.2.2.1 | exact hi.2.2.1.add (by omega) | (simp only [Ls];omega) | simp) (by omega)
noncomputable def aLq:Code:=(aM [1,1,0,1] [] (aL Tryz.f20) []).1
noncomputable def aLr:List K:=(aM [1,1,0,1] [] (aL Tryz.f20) []).2
def aFa (a0:List Int×bF)(v1 v2:Int):LS:=⟨gD 20 [(3,(iv v1)),(7,(.s 1 0 a0.2.length 8)),(8,(iv (a0.2.length:Int))),(9,(iv v2))],[(.live false true (flat c3 a0.1)),(.live false true (flat cB a0.2))]⟩
def zE (a0:List Int×bF):Int×Int->(Int×Int)⊕(Int)
 | (v1,v2) =>
  (bif (decide ((v2:Int) < (a0.2.length:Int))) then
   (bif (decide (((a0.2.getD (tN v2) dF).2.2.1:Int) < 0)) then
    (.inl ((W (v1+1)),(v2+1)))
   else
    (.inl (v1,(v2+1))))
  else
   (.inr v1))
theorem aWb (a0:List Int×bF)(l0_1:a0.1.length<=2^63-1)(l0_2:a0.2.length<=2^63-1)(hl:a0.2.length<=1048576) {cx:Cx} (hcx:cx.base=2):∀(n:Nat) (v1 v2:Int),0<=v2->tN ((a0.2.length:Int) - v2) < n->Aw.Good Tryz.prog none 9 (bodyPost Tryz.prog Tryz.f20 (RR cx (iv (aH (zE a0) n (v1,v2))) [] [])) cx [] (.l aLq n::aLr) (aFa a0 v1 v2):=by
 intro n
 induction n with
 | zero=>intro v1 v2 hi hn;exact absurd hn (eI _)
 | succ n ih =>
  intro v1 v2 hi hn
  refine aR ?_
  cases h0:(decide ((v2:Int) < (a0.2.length:Int))) with
  | true =>
   have q0:=cJ h0
   let t1:List (St Tryz.prog):=[.d h0,.i v2 (a0.2.length),.L bU a0.2 v2 0 8]
   cases h1:(decide (((a0.2.getD (tN v2) dF).2.2.1:Int) < 0)) with
   | true =>
    have q1:=cJ h1
    have e:=Eq.refl (zE a0 (v1,v2));conv at e=>rhs;simp only [zE,h0,h1,aT]
    rw [aI e]
    refine ba (t1++[.d h1]) [] [3,7,8,9] [] hcx (m:=n) aLq (aLr) (aFa a0 (W (v1+1)) (W (v2+1))) (by kernel_rfl) ?_
    have z0:(W (v2+1))=(v2+1):=aS (by omega) (by omega)
    rw [z0]
    exact ih (W (v1+1)) (v2+1) (by omega) (by omega)
   | false =>
    have q1:=cN h1
    have e:=Eq.refl (zE a0 (v1,v2));conv at e=>rhs;simp only [zE,h0,h1,aT]
    rw [aI e]
    refine ba (t1++[.d h1]) [] [3,7,8,9] [] hcx (m:=n) aLq (aLr) (aFa a0 v1 (W (v2+1))) (by kernel_rfl) ?_
    have z0:(W (v2+1))=(v2+1):=aS (by omega) (by omega)
    rw [z0]
    exact ih v1 (v2+1) (by omega) (by omega)
  | false =>
   have q0:=cN h0
   have e:=Eq.refl (zE a0 (v1,v2));conv at e=>rhs;simp only [zE,h0,aT]
   rw [aJ,e]
   exact rt [.d h0] [] [] hcx (by kernel_rfl)
def F20 (a0:List Int×bF):Int :=
 (aH (zE a0) (tN ((a0.2.length:Int) - 0)+1) (0,0))
theorem C20 (a0:List Int×bF)(l0_1:a0.1.length<=2^63-1)(l0_2:a0.2.length<=2^63-1)(hl:a0.2.length<=1048576):Con Tryz.prog 20 [(.a [(.s 0 0 a0.1.length 1),(.s 1 0 a0.2.length 8)])] [(.live false true (flat c3 a0.1)),(.live false true (flat cB a0.2))] (iv (F20 a0)) []:=by
 refine aY Tryz.func20 (by kernel_rfl) fun cx hcx=>?_
 have e:=Eq.refl (F20 a0);conv at e=>rhs;simp only [F20]
 rw [e]
 refine en [] [] [3,7,8,9] [] hcx aLq (aLr) (aFa a0 0 0) (tN ((a0.2.length:Int) - 0)+1) (by kernel_rfl) ?_
 exact aWb a0 l0_1 l0_2 hl hcx (tN ((a0.2.length:Int) - 0)+1) 0 0 (by omega) (by omega)
noncomputable def aPc:Code:=(aM [1,1,0,1] [] (aL Tryz.f18) []).1
noncomputable def aPd:List K:=(aM [1,1,0,1] [] (aL Tryz.f18) []).2
def aJh (v2c:List SV)(v2n:Nat)(v3:Int):LS:=⟨gD 23 [(1,(.s 0 0 v2n 10)),(2,(iv v3))],[(.live true true v2c)]⟩
def aBw:bO×Int->(bO×Int)⊕bO
 | (v2,v3) =>
  (bif (decide ((v3:Int) < 4)) then
   (.inl ((v2++[((((W (9*v3)),0,0),((W ((W (9*v3))+1)),0,0),((W (9*v3)),1,0)),1)]),(v3+1)))
  else
   (.inr v2))
theorem aWc {cx:Cx} (hcx:cx.base=0):∀(n:Nat) (v2:bO) (v3:Int),(0<=v3)/\(v2.length=tN v3)/\(v3<=4)->tN (4 - v3) < n->Aw.Good Tryz.prog none 9 (bodyPost Tryz.prog Tryz.f18 (RR cx (.s 0 0 (aH (aBw) n (v2,v3)).length 10) [(.live true true (flat dC (aH (aBw) n (v2,v3))))] [])) cx [] (.l aPc n::aPd) (aJh (flat dC v2) v2.length v3):=by
 intro n
 induction n with
 | zero=>intro v2 v3 hi hn;exact absurd hn (eI _)
 | succ n ih =>
  intro v2 v3 hi hn
  refine aR ?_
  cases h0:(decide ((v3:Int) < 4)) with
  | true =>
   have q0:=cJ h0
   have e:=Eq.refl (aBw (v2,v3));conv at e=>rhs;simp only [aBw,h0,aT]
   rw [aI e]
   refine ba [.d h0,.p (show((flat dC v2).length=v2.length*10/\v2.length+1<=2 ^ 40/\(v2.length+1)*80<=2 ^ 47) from kG eC (by omega) (by omega))] [] [1,2] [2] hcx (m:=n) aPc (aPd) (aJh (flat dC v2++[(iv (W (9*v3))),(iv 0),(iv 0),(iv (W ((W (9*v3))+1))),(iv 0),(iv 0),(iv (W (9*v3))),(iv 1),(iv 0),(iv 1)]) (v2.length+1) (W (v3+1))) (by kernel_rfl) ?_
   have z0:(W (v3+1))=(v3+1):=aS (by omega) (by omega)
   have z1:(flat dC v2++[(iv (W (9*v3))),(iv 0),(iv 0),(iv (W ((W (9*v3))+1))),(iv 0),(iv 0),(iv (W (9*v3))),(iv 1),(iv 0),(iv 1)])=(flat dC (v2++[((((W (9*v3)),0,0),((W ((W (9*v3))+1)),0,0),((W (9*v3)),1,0)),1)])):=(cM (c:=dC) (l:=v2) (m:=[((((W (9*v3)),0,0),((W ((W (9*v3))+1)),0,0),((W (9*v3)),1,0)),1)])).symm
   have z2:(v2.length+1)=(v2++[((((W (9*v3)),0,0),((W ((W (9*v3))+1)),0,0),((W (9*v3)),1,0)),1)]).length:=mI v2 [((((W (9*v3)),0,0),((W ((W (9*v3))+1)),0,0),((W (9*v3)),1,0)),1)] rfl
   rw [z0,z1,z2]
   exact ih (v2++[((((W (9*v3)),0,0),((W ((W (9*v3))+1)),0,0),((W (9*v3)),1,0)),1)]) (v3+1) (by refine⟨?_,?_,?_⟩<;>(try simp only [Ls])<;>first | omega | assumption | simp) (by omega)
  | false =>
   have q0:=cN h0
   have e:=Eq.refl (aBw (v2,v3));conv at e=>rhs;simp only [aBw,h0,aT]
   rw [aJ,e]
   exact rt [.d h0] [] [0] hcx (by kernel_rfl)
def uK:bO :=
 (aH (aBw) (tN (4 - 0)+1) (([]:bO),0))
theorem C18:Con Tryz.prog 18 [] [] (.s 0 0 uK.length 10) [(.live true true (flat dC uK))]:=by
 refine aY Tryz.func18 (by kernel_rfl) fun cx hcx=>?_
 have e:=Eq.refl uK;conv at e=>rhs;simp only [uK]
 rw [e]
 refine en [] [.slot 1 10] [1,2] [0] hcx aPc (aPd) (aJh (flat dC ([]:bO)) 0 0) (tN (4 - 0)+1) (by kernel_rfl) ?_
 exact aWc hcx (tN (4 - 0)+1) ([]:bO) 0 (by refine⟨?_,?_,?_⟩<;>(try simp only [Ls])<;>first | omega | assumption | simp) (by omega)
def F27 (a0:Int)(a1:Int)(a2:Int):Bool :=
 (bif (decide ((a0:Int)≥a1)) then
  (decide ((a0:Int)<=a2))
 else
  false)
theorem C27 (a0:Int)(a1:Int)(a2:Int):Con Tryz.prog 27 [(iv a0),(iv a1),(iv a2)] [] (.v (.bool (F27 a0 a1 a2))) []:=by
 refine aY Tryz.func27 (by kernel_rfl) fun cx hcx=>?_
 cases h0:(decide ((a0:Int)≥a1)) with
 | true =>
  have q0:=cJ h0
  have e:=Eq.refl (F27 a0 a1 a2);conv at e=>rhs;simp only [F27,h0,aT]
  rw [e]
  exact rt [.d h0] [] [] hcx (by kernel_rfl)
 | false =>
  have q0:=cN h0
  have e:=Eq.refl (F27 a0 a1 a2);conv at e=>rhs;simp only [F27,h0,aT]
  rw [e]
  exact rt [.d h0] [] [] hcx (by kernel_rfl)
theorem aWd {n m k:Int} (h:(!(F27 n k m))=false):k<=n:=by
 simp only [F27] at h
 by_cases h1:n≥k
 ·exact h1
 ·rw [dA h1] at h;simp at h
def fF (a0:bO)(a1:Int):(List Int×bF)×Int :=
 (bif (((jD a0):Int) != 0) then
  ((([]:List Int),([]:bF)),(jD a0))
 else
  (bif (!(F27 a1 1 16)) then
   ((([]:List Int),([]:bF)),1)
  else
   (((lW a0 a1).1,(lW a0 a1).2),0)))
theorem aWe (a0:bO)(a1:Int)(l0:a0.length<=2^63-1):Con Tryz.prog 17 [(.s 0 0 a0.length 10),(iv a1)] [(.live false true (flat dC a0))] (.t [(.a [(.s 1 0 (fF a0 a1).1.1.length 1),(.s 2 0 (fF a0 a1).1.2.length 8)]),(iv (fF a0 a1).2)]) [(.live true true (flat c3 (fF a0 a1).1.1)),(.live true true (flat cB (fF a0 a1).1.2))]:=by
 refine aY Tryz.func17 (by kernel_rfl) fun cx hcx=>?_
 let t0:List (St Tryz.prog):=[.c [0] (aOa a0 (by omega))]
 cases h0:(((jD a0):Int) != 0) with
 | true =>
  have q0:=bne_iff_ne.1 h0
  have e:=Eq.refl (fF a0 a1);conv at e=>rhs;simp only [fF,h0,aT]
  rw [e]
  exact rt (t0++[.d h0]) [.cell 1 0 1,.cell 1 1 8] [2,3] hcx (by kernel_rfl)
 | false =>
  have q0:=bne_eq_false_iff_eq.1 h0
  let t1:List (St Tryz.prog):=(t0++[.d h0,.c [] (C27 a1 1 16)])
  cases h1:(!(F27 a1 1 16)) with
  | true =>
   have e:=Eq.refl (fF a0 a1);conv at e=>rhs;simp only [fF,h0,h1,aT]
   rw [e]
   exact rt (t1++[.d h1]) [.cell 1 0 1,.cell 1 1 8] [2,3] hcx (by kernel_rfl)
  | false =>
   have e:=Eq.refl (fF a0 a1);conv at e=>rhs;simp only [fF,h0,h1,aT]
   rw [e]
   exact rt (t1++[.d h1,.c [0] (aTh a0 a1 (by omega) (vQ (l:=a0) (bne_eq_false_iff_eq.1 h0)) (aWd h1))]) [] [2,3] hcx (by kernel_rfl)
noncomputable def sB:Code:=(aM [1,1,0,1] [] (aL Tryz.f19) []).1
noncomputable def sC:List K:=(aM [1,1,0,1] [] (aL Tryz.f19) []).2
def nM (a0:List Int×bF)(v1c:List SV)(v1n:Nat)(v2:Int):LS:=⟨gD 69 [(1,(.p 2 0)),(3,(.s 3 0 v1n 1)),(4,(iv v2))],[(.live false true (flat c3 a0.1)),(.live false true (flat cB a0.2)),(.live true false [(.s 0 0 a0.1.length 1),(.s 1 0 a0.2.length 8)]),(.live true true v1c)]⟩
def iM (a0:List Int×bF):List Int×Int->(List Int×Int)⊕(Int)
 | (v1,v2) =>
  (bif (decide ((v2:Int)≥0)) then
   (bif (decide (((a0.2.getD (tN v2) dF).2.2.1:Int) > v2)) then
    (bif (decide (((a0.2.getD (tN v2) dF).2.2.1:Int) < (v1.length:Int))) then
     (bif (decide (((a0.2.getD (tN v2) dF).2.2.2.1:Int) > v2)) then
      (bif (decide (((a0.2.getD (tN v2) dF).2.2.2.1:Int) < (v1.length:Int))) then
       (.inl ((((v1.set (tN v2) 1).set (tN v2) (dB ((v1.set (tN v2) 1).getD (tN v2) dF) (W (((v1.set (tN v2) 1).getD (tN (a0.2.getD (tN v2) dF).2.2.1) dF)+1)))).set (tN v2) (dB (((v1.set (tN v2) 1).set (tN v2) (dB ((v1.set (tN v2) 1).getD (tN v2) dF) (W (((v1.set (tN v2) 1).getD (tN (a0.2.getD (tN v2) dF).2.2.1) dF)+1)))).getD (tN v2) dF) (W ((((v1.set (tN v2) 1).set (tN v2) (dB ((v1.set (tN v2) 1).getD (tN v2) dF) (W (((v1.set (tN v2) 1).getD (tN (a0.2.getD (tN v2) dF).2.2.1) dF)+1)))).getD (tN (a0.2.getD (tN v2) dF).2.2.2.1) dF)+1)))),(W (v2 - 1))))
      else
       (.inl (((v1.set (tN v2) 1).set (tN v2) (dB ((v1.set (tN v2) 1).getD (tN v2) dF) (W (((v1.set (tN v2) 1).getD (tN (a0.2.getD (tN v2) dF).2.2.1) dF)+1)))),(W (v2 - 1)))))
     else
      (.inl (((v1.set (tN v2) 1).set (tN v2) (dB ((v1.set (tN v2) 1).getD (tN v2) dF) (W (((v1.set (tN v2) 1).getD (tN (a0.2.getD (tN v2) dF).2.2.1) dF)+1)))),(W (v2 - 1)))))
    else
     (bif (decide (((a0.2.getD (tN v2) dF).2.2.2.1:Int) > v2)) then
      (bif (decide (((a0.2.getD (tN v2) dF).2.2.2.1:Int) < (v1.length:Int))) then
       (.inl (((v1.set (tN v2) 1).set (tN v2) (dB ((v1.set (tN v2) 1).getD (tN v2) dF) (W (((v1.set (tN v2) 1).getD (tN (a0.2.getD (tN v2) dF).2.2.2.1) dF)+1)))),(W (v2 - 1))))
      else
       (.inl ((v1.set (tN v2) 1),(W (v2 - 1)))))
     else
      (.inl ((v1.set (tN v2) 1),(W (v2 - 1))))))
   else
    (bif (decide (((a0.2.getD (tN v2) dF).2.2.2.1:Int) > v2)) then
     (bif (decide (((a0.2.getD (tN v2) dF).2.2.2.1:Int) < (v1.length:Int))) then
      (.inl (((v1.set (tN v2) 1).set (tN v2) (dB ((v1.set (tN v2) 1).getD (tN v2) dF) (W (((v1.set (tN v2) 1).getD (tN (a0.2.getD (tN v2) dF).2.2.2.1) dF)+1)))),(W (v2 - 1))))
     else
      (.inl ((v1.set (tN v2) 1),(W (v2 - 1)))))
    else
     (.inl ((v1.set (tN v2) 1),(W (v2 - 1))))))
  else
   (bif (((v1.length:Int):Int) == 0) then
    (.inr 0)
   else
    (.inr (v1.getD (tN 0) dF))))
theorem aWf (a0:List Int×bF)(l0_1:a0.1.length<=2^63-1)(l0_2:a0.2.length<=2^63-1)(hl:a0.2.length<=1048576) {cx:Cx} (hcx:cx.base=2):∀(n:Nat) (v1:List Int) (v2:Int),(v1.length=a0.2.length)/\(-1<=v2)/\(v2 < a0.2.length)->tN (v2+1) < n->Aw.Good Tryz.prog none 9 (bodyPost Tryz.prog Tryz.f19 (RR cx (iv (aH (iM a0) n (v1,v2))) [] [])) cx [] (.l sB n::sC) (nM a0 (flat c3 v1) v1.length v2):=by
 intro n
 induction n with
 | zero=>intro v1 v2 hi hn;exact absurd hn (eI _)
 | succ n ih =>
  intro v1 v2 hi hn
  refine aR ?_
  have hw_i:=aS (n:=v2 - 1) (by omega) (by omega)
  cases h0:(decide ((v2:Int)≥0)) with
  | true =>
   have q0:=cJ h0
   let t1:List (St Tryz.prog):=[.d h0,.i v2 (v1.length),.p (show((0+tN v2*1)+1<=(flat c3 v1).length) from(dT aF (by first | omega | (simp only [Lt];omega)) (o:=0) (Nb rfl))),.i v2 (a0.2.length),.L bU a0.2 v2 2 1,.i v2 (a0.2.length),.L bU a0.2 v2 3 1,.u 200,.T,.i 0 2 (by decide)]
   cases h1:(decide (((a0.2.getD (tN v2) dF).2.2.1:Int) > v2)) with
   | true =>
    have q1:=cJ h1
    let t2:List (St Tryz.prog):=(t1++[.d h1])
    cases h2:(decide (((a0.2.getD (tN v2) dF).2.2.1:Int) < (v1.length:Int))) with
    | true =>
     have q2:=cJ h2
     let t3:List (St Tryz.prog):=(t2++[.d h2,.i v2 (v1.length),.R aF (v1.set (tN v2) 1) v2 0 1 (show(splice (flat c3 v1) (0+tN v2*1) [(iv 1)])=flat c3 (v1.set (tN v2) 1) from(bB aF (by first | omega | (simp only [Lt];omega)) (o:=0) (d:=dF) (Nb rfl) rfl)),.i ((a0.2.getD (tN v2) dF).2.2.1) (v1.length),.R aF (v1.set (tN v2) 1) (a0.2.getD (tN v2) dF).2.2.1 0 1 (show(splice (flat c3 v1) (0+tN v2*1) [(iv 1)])=flat c3 (v1.set (tN v2) 1) from(bB aF (by first | omega | (simp only [Lt];omega)) (o:=0) (d:=dF) (Nb rfl) rfl)),.i v2 (v1.length),.p (show((0+tN v2*1)+1<=(splice (flat c3 v1) (0+tN v2*1) [(iv 1)]).length) from(by rw [show(splice (flat c3 v1) (0+tN v2*1) [(iv 1)])=flat c3 (v1.set (tN v2) 1) from(bB aF (by first | omega | (simp only [Lt];omega)) (o:=0) (d:=dF) (Nb rfl) rfl)];exact dT aF (by first | omega | (simp only [Lt];omega)) (o:=0) (Nb rfl))),.u 0,.T,.i 1 2 (by decide)])
     cases h3:(decide (((a0.2.getD (tN v2) dF).2.2.2.1:Int) > v2)) with
     | true =>
      have q3:=cJ h3
      let t4:List (St Tryz.prog):=(t3++[.d h3])
      cases h4:(decide (((a0.2.getD (tN v2) dF).2.2.2.1:Int) < (v1.length:Int))) with
      | true =>
       have q4:=cJ h4
       have e:=Eq.refl (iM a0 (v1,v2));conv at e=>rhs;simp only [iM,h0,h1,h2,h3,h4,aT]
       rw [aI e]
       refine ba (t4++[.d h4,.i v2 (v1.length),.R aF ((v1.set (tN v2) 1).set (tN v2) (dB ((v1.set (tN v2) 1).getD (tN v2) dF) (W (((v1.set (tN v2) 1).getD (tN (a0.2.getD (tN v2) dF).2.2.1) dF)+1)))) v2 0 1 (show(splice (splice (flat c3 v1) (0+tN v2*1) [(iv 1)]) (0+tN v2*1) [(iv (dB ((v1.set (tN v2) 1).getD (tN v2) dF) (W (((v1.set (tN v2) 1).getD (tN (a0.2.getD (tN v2) dF).2.2.1) dF)+1))))])=flat c3 ((v1.set (tN v2) 1).set (tN v2) (dB ((v1.set (tN v2) 1).getD (tN v2) dF) (W (((v1.set (tN v2) 1).getD (tN (a0.2.getD (tN v2) dF).2.2.1) dF)+1)))) from(by rw [show(splice (flat c3 v1) (0+tN v2*1) [(iv 1)])=flat c3 (v1.set (tN v2) 1) from(bB aF (by first | omega | (simp only [Lt];omega)) (o:=0) (d:=dF) (Nb rfl) rfl)];exact bB aF (by first | omega | (simp only [Lt];omega)) (o:=0) (d:=dF) (Nb rfl) rfl)),.i ((a0.2.getD (tN v2) dF).2.2.2.1) (v1.length),.R aF ((v1.set (tN v2) 1).set (tN v2) (dB ((v1.set (tN v2) 1).getD (tN v2) dF) (W (((v1.set (tN v2) 1).getD (tN (a0.2.getD (tN v2) dF).2.2.1) dF)+1)))) (a0.2.getD (tN v2) dF).2.2.2.1 0 1 (show(splice (splice (flat c3 v1) (0+tN v2*1) [(iv 1)]) (0+tN v2*1) [(iv (dB ((v1.set (tN v2) 1).getD (tN v2) dF) (W (((v1.set (tN v2) 1).getD (tN (a0.2.getD (tN v2) dF).2.2.1) dF)+1))))])=flat c3 ((v1.set (tN v2) 1).set (tN v2) (dB ((v1.set (tN v2) 1).getD (tN v2) dF) (W (((v1.set (tN v2) 1).getD (tN (a0.2.getD (tN v2) dF).2.2.1) dF)+1)))) from(by rw [show(splice (flat c3 v1) (0+tN v2*1) [(iv 1)])=flat c3 (v1.set (tN v2) 1) from(bB aF (by first | omega | (simp only [Lt];omega)) (o:=0) (d:=dF) (Nb rfl) rfl)];exact bB aF (by first | omega | (simp only [Lt];omega)) (o:=0) (d:=dF) (Nb rfl) rfl)),.i v2 (v1.length),.p (show((0+tN v2*1)+1<=(splice (splice (flat c3 v1) (0+tN v2*1) [(iv 1)]) (0+tN v2*1) [(iv (dB ((v1.set (tN v2) 1).getD (tN v2) dF) (W (((v1.set (tN v2) 1).getD (tN (a0.2.getD (tN v2) dF).2.2.1) dF)+1))))]).length) from(by rw [show(splice (splice (flat c3 v1) (0+tN v2*1) [(iv 1)]) (0+tN v2*1) [(iv (dB ((v1.set (tN v2) 1).getD (tN v2) dF) (W (((v1.set (tN v2) 1).getD (tN (a0.2.getD (tN v2) dF).2.2.1) dF)+1))))])=flat c3 ((v1.set (tN v2) 1).set (tN v2) (dB ((v1.set (tN v2) 1).getD (tN v2) dF) (W (((v1.set (tN v2) 1).getD (tN (a0.2.getD (tN v2) dF).2.2.1) dF)+1)))) from(by rw [show(splice (flat c3 v1) (0+tN v2*1) [(iv 1)])=flat c3 (v1.set (tN v2) 1) from(bB aF (by first | omega | (simp only [Lt];omega)) (o:=0) (d:=dF) (Nb rfl) rfl)];exact bB aF (by first | omega | (simp only [Lt];omega)) (o:=0) (d:=dF) (Nb rfl) rfl)];exact dT aF (by first | omega | (simp only [Lt];omega)) (o:=0) (Nb rfl))),.u 0,.F]) [] [1,3,4] [2,3] hcx (m:=n) sB (sC) (nM a0 (splice (splice (splice (flat c3 v1) (0+tN v2*1) [(iv 1)]) (0+tN v2*1) [(iv (dB ((v1.set (tN v2) 1).getD (tN v2) dF) (W (((v1.set (tN v2) 1).getD (tN (a0.2.getD (tN v2) dF).2.2.1) dF)+1))))]) (0+tN v2*1) [(iv (dB (((v1.set (tN v2) 1).set (tN v2) (dB ((v1.set (tN v2) 1).getD (tN v2) dF) (W (((v1.set (tN v2) 1).getD (tN (a0.2.getD (tN v2) dF).2.2.1) dF)+1)))).getD (tN v2) dF) (W ((((v1.set (tN v2) 1).set (tN v2) (dB ((v1.set (tN v2) 1).getD (tN v2) dF) (W (((v1.set (tN v2) 1).getD (tN (a0.2.getD (tN v2) dF).2.2.1) dF)+1)))).getD (tN (a0.2.getD (tN v2) dF).2.2.2.1) dF)+1))))]) (v1.length) (W (v2 - 1))) (by kernel_rfl) ?_
       have z0:(splice (splice (splice (flat c3 v1) (0+tN v2*1) [(iv 1)]) (0+tN v2*1) [(iv (dB ((v1.set (tN v2) 1).getD (tN v2) dF) (W (((v1.set (tN v2) 1).getD (tN (a0.2.getD (tN v2) dF).2.2.1) dF)+1))))]) (0+tN v2*1) [(iv (dB (((v1.set (tN v2) 1).set (tN v2) (dB ((v1.set (tN v2) 1).getD (tN v2) dF) (W (((v1.set (tN v2) 1).getD (tN (a0.2.getD (tN v2) dF).2.2.1) dF)+1)))).getD (tN v2) dF) (W ((((v1.set (tN v2) 1).set (tN v2) (dB ((v1.set (tN v2) 1).getD (tN v2) dF) (W (((v1.set (tN v2) 1).getD (tN (a0.2.getD (tN v2) dF).2.2.1) dF)+1)))).getD (tN (a0.2.getD (tN v2) dF).2.2.2.1) dF)+1))))])=flat c3 (((v1.set (tN v2) 1).set (tN v2) (dB ((v1.set (tN v2) 1).getD (tN v2) dF) (W (((v1.set (tN v2) 1).getD (tN (a0.2.getD (tN v2) dF).2.2.1) dF)+1)))).set (tN v2) (dB (((v1.set (tN v2) 1).set (tN v2) (dB ((v1.set (tN v2) 1).getD (tN v2) dF) (W (((v1.set (tN v2) 1).getD (tN (a0.2.getD (tN v2) dF).2.2.1) dF)+1)))).getD (tN v2) dF) (W ((((v1.set (tN v2) 1).set (tN v2) (dB ((v1.set (tN v2) 1).getD (tN v2) dF) (W (((v1.set (tN v2) 1).getD (tN (a0.2.getD (tN v2) dF).2.2.1) dF)+1)))).getD (tN (a0.2.getD (tN v2) dF).2.2.2.1) dF)+1)))):=(by rw [show(splice (splice (flat c3 v1) (0+tN v2*1) [(iv 1)]) (0+tN v2*1) [(iv (dB ((v1.set (tN v2) 1).getD (tN v2) dF) (W (((v1.set (tN v2) 1).getD (tN (a0.2.getD (tN v2) dF).2.2.1) dF)+1))))])=flat c3 ((v1.set (tN v2) 1).set (tN v2) (dB ((v1.set (tN v2) 1).getD (tN v2) dF) (W (((v1.set (tN v2) 1).getD (tN (a0.2.getD (tN v2) dF).2.2.1) dF)+1)))) from(by rw [show(splice (flat c3 v1) (0+tN v2*1) [(iv 1)])=flat c3 (v1.set (tN v2) 1) from(bB aF (by first | omega | (simp only [Lt];omega)) (o:=0) (d:=dF) (Nb rfl) rfl)];exact bB aF (by first | omega | (simp only [Lt];omega)) (o:=0) (d:=dF) (Nb rfl) rfl)];exact bB aF (by first | omega | (simp only [Lt];omega)) (o:=0) (d:=dF) (Nb rfl) rfl)
       have z1:v1.length=(((v1.set (tN v2) 1).set (tN v2) (dB ((v1.set (tN v2) 1).getD (tN v2) dF) (W (((v1.set (tN v2) 1).getD (tN (a0.2.getD (tN v2) dF).2.2.1) dF)+1)))).set (tN v2) (dB (((v1.set (tN v2) 1).set (tN v2) (dB ((v1.set (tN v2) 1).getD (tN v2) dF) (W (((v1.set (tN v2) 1).getD (tN (a0.2.getD (tN v2) dF).2.2.1) dF)+1)))).getD (tN v2) dF) (W ((((v1.set (tN v2) 1).set (tN v2) (dB ((v1.set (tN v2) 1).getD (tN v2) dF) (W (((v1.set (tN v2) 1).getD (tN (a0.2.getD (tN v2) dF).2.2.1) dF)+1)))).getD (tN (a0.2.getD (tN v2) dF).2.2.2.1) dF)+1)))).length:=by simp
       rw [z0,z1]
       exact ih (((v1.set (tN v2) 1).set (tN v2) (dB ((v1.set (tN v2) 1).getD (tN v2) dF) (W (((v1.set (tN v2) 1).getD (tN (a0.2.getD (tN v2) dF).2.2.1) dF)+1)))).set (tN v2) (dB (((v1.set (tN v2) 1).set (tN v2) (dB ((v1.set (tN v2) 1).getD (tN v2) dF) (W (((v1.set (tN v2) 1).getD (tN (a0.2.getD (tN v2) dF).2.2.1) dF)+1)))).getD (tN v2) dF) (W ((((v1.set (tN v2) 1).set (tN v2) (dB ((v1.set (tN v2) 1).getD (tN v2) dF) (W (((v1.set (tN v2) 1).getD (tN (a0.2.getD (tN v2) dF).2.2.1) dF)+1)))).getD (tN (a0.2.getD (tN v2) dF).2.2.2.1) dF)+1)))) (W (v2 - 1)) (by refine⟨?_,?_,?_⟩<;>(try simp only [Ls])<;>first | omega | assumption | simp) (by omega)
      | false =>
       have q4:=cN h4
       have e:=Eq.refl (iM a0 (v1,v2));conv at e=>rhs;simp only [iM,h0,h1,h2,h3,h4,aT]
       rw [aI e]
       refine ba (t4++[.d h4,.u 0,.F]) [] [1,3,4] [2,3] hcx (m:=n) sB (sC) (nM a0 (splice (splice (flat c3 v1) (0+tN v2*1) [(iv 1)]) (0+tN v2*1) [(iv (dB ((v1.set (tN v2) 1).getD (tN v2) dF) (W (((v1.set (tN v2) 1).getD (tN (a0.2.getD (tN v2) dF).2.2.1) dF)+1))))]) (v1.length) (W (v2 - 1))) (by kernel_rfl) ?_
       have z0:(splice (splice (flat c3 v1) (0+tN v2*1) [(iv 1)]) (0+tN v2*1) [(iv (dB ((v1.set (tN v2) 1).getD (tN v2) dF) (W (((v1.set (tN v2) 1).getD (tN (a0.2.getD (tN v2) dF).2.2.1) dF)+1))))])=flat c3 ((v1.set (tN v2) 1).set (tN v2) (dB ((v1.set (tN v2) 1).getD (tN v2) dF) (W (((v1.set (tN v2) 1).getD (tN (a0.2.getD (tN v2) dF).2.2.1) dF)+1)))):=(by rw [show(splice (flat c3 v1) (0+tN v2*1) [(iv 1)])=flat c3 (v1.set (tN v2) 1) from(bB aF (by first | omega | (simp only [Lt];omega)) (o:=0) (d:=dF) (Nb rfl) rfl)];exact bB aF (by first | omega | (simp only [Lt];omega)) (o:=0) (d:=dF) (Nb rfl) rfl)
       have z1:v1.length=((v1.set (tN v2) 1).set (tN v2) (dB ((v1.set (tN v2) 1).getD (tN v2) dF) (W (((v1.set (tN v2) 1).getD (tN (a0.2.getD (tN v2) dF).2.2.1) dF)+1)))).length:=by simp
       rw [z0,z1]
       exact ih ((v1.set (tN v2) 1).set (tN v2) (dB ((v1.set (tN v2) 1).getD (tN v2) dF) (W (((v1.set (tN v2) 1).getD (tN (a0.2.getD (tN v2) dF).2.2.1) dF)+1)))) (W (v2 - 1)) (by refine⟨?_,?_,?_⟩<;>(try simp only [Ls])<;>first | omega | assumption | simp) (by omega)
     | false =>
      have q3:=cN h3
      have e:=Eq.refl (iM a0 (v1,v2));conv at e=>rhs;simp only [iM,h0,h1,h2,h3,aT]
      rw [aI e]
      refine ba (t3++[.d h3,.u 0,.F]) [] [1,3,4] [2,3] hcx (m:=n) sB (sC) (nM a0 (splice (splice (flat c3 v1) (0+tN v2*1) [(iv 1)]) (0+tN v2*1) [(iv (dB ((v1.set (tN v2) 1).getD (tN v2) dF) (W (((v1.set (tN v2) 1).getD (tN (a0.2.getD (tN v2) dF).2.2.1) dF)+1))))]) (v1.length) (W (v2 - 1))) (by kernel_rfl) ?_
      have z0:(splice (splice (flat c3 v1) (0+tN v2*1) [(iv 1)]) (0+tN v2*1) [(iv (dB ((v1.set (tN v2) 1).getD (tN v2) dF) (W (((v1.set (tN v2) 1).getD (tN (a0.2.getD (tN v2) dF).2.2.1) dF)+1))))])=flat c3 ((v1.set (tN v2) 1).set (tN v2) (dB ((v1.set (tN v2) 1).getD (tN v2) dF) (W (((v1.set (tN v2) 1).getD (tN (a0.2.getD (tN v2) dF).2.2.1) dF)+1)))):=(by rw [show(splice (flat c3 v1) (0+tN v2*1) [(iv 1)])=flat c3 (v1.set (tN v2) 1) from(bB aF (by first | omega | (simp only [Lt];omega)) (o:=0) (d:=dF) (Nb rfl) rfl)];exact bB aF (by first | omega | (simp only [Lt];omega)) (o:=0) (d:=dF) (Nb rfl) rfl)
      have z1:v1.length=((v1.set (tN v2) 1).set (tN v2) (dB ((v1.set (tN v2) 1).getD (tN v2) dF) (W (((v1.set (tN v2) 1).getD (tN (a0.2.getD (tN v2) dF).2.2.1) dF)+1)))).length:=by simp
      rw [z0,z1]
      exact ih ((v1.set (tN v2) 1).set (tN v2) (dB ((v1.set (tN v2) 1).getD (tN v2) dF) (W (((v1.set (tN v2) 1).getD (tN (a0.2.getD (tN v2) dF).2.2.1) dF)+1)))) (W (v2 - 1)) (by refine⟨?_,?_,?_⟩<;>(try simp only [Ls])<;>first | omega | assumption | simp) (by omega)
    | false =>
     have q2:=cN h2
     let t3:List (St Tryz.prog):=(t2++[.d h2,.u 0,.T,.i 1 2 (by decide)])
     cases h3:(decide (((a0.2.getD (tN v2) dF).2.2.2.1:Int) > v2)) with
     | true =>
      have q3:=cJ h3
      let t4:List (St Tryz.prog):=(t3++[.d h3])
      cases h4:(decide (((a0.2.getD (tN v2) dF).2.2.2.1:Int) < (v1.length:Int))) with
      | true =>
       have q4:=cJ h4
       have e:=Eq.refl (iM a0 (v1,v2));conv at e=>rhs;simp only [iM,h0,h1,h2,h3,h4,aT]
       rw [aI e]
       refine ba (t4++[.d h4,.i v2 (v1.length),.R aF (v1.set (tN v2) 1) v2 0 1 (show(splice (flat c3 v1) (0+tN v2*1) [(iv 1)])=flat c3 (v1.set (tN v2) 1) from(bB aF (by first | omega | (simp only [Lt];omega)) (o:=0) (d:=dF) (Nb rfl) rfl)),.i ((a0.2.getD (tN v2) dF).2.2.2.1) (v1.length),.R aF (v1.set (tN v2) 1) (a0.2.getD (tN v2) dF).2.2.2.1 0 1 (show(splice (flat c3 v1) (0+tN v2*1) [(iv 1)])=flat c3 (v1.set (tN v2) 1) from(bB aF (by first | omega | (simp only [Lt];omega)) (o:=0) (d:=dF) (Nb rfl) rfl)),.i v2 (v1.length),.p (show((0+tN v2*1)+1<=(splice (flat c3 v1) (0+tN v2*1) [(iv 1)]).length) from(by rw [show(splice (flat c3 v1) (0+tN v2*1) [(iv 1)])=flat c3 (v1.set (tN v2) 1) from(bB aF (by first | omega | (simp only [Lt];omega)) (o:=0) (d:=dF) (Nb rfl) rfl)];exact dT aF (by first | omega | (simp only [Lt];omega)) (o:=0) (Nb rfl))),.u 0,.F]) [] [1,3,4] [2,3] hcx (m:=n) sB (sC) (nM a0 (splice (splice (flat c3 v1) (0+tN v2*1) [(iv 1)]) (0+tN v2*1) [(iv (dB ((v1.set (tN v2) 1).getD (tN v2) dF) (W (((v1.set (tN v2) 1).getD (tN (a0.2.getD (tN v2) dF).2.2.2.1) dF)+1))))]) (v1.length) (W (v2 - 1))) (by kernel_rfl) ?_
       have z0:(splice (splice (flat c3 v1) (0+tN v2*1) [(iv 1)]) (0+tN v2*1) [(iv (dB ((v1.set (tN v2) 1).getD (tN v2) dF) (W (((v1.set (tN v2) 1).getD (tN (a0.2.getD (tN v2) dF).2.2.2.1) dF)+1))))])=flat c3 ((v1.set (tN v2) 1).set (tN v2) (dB ((v1.set (tN v2) 1).getD (tN v2) dF) (W (((v1.set (tN v2) 1).getD (tN (a0.2.getD (tN v2) dF).2.2.2.1) dF)+1)))):=(by rw [show(splice (flat c3 v1) (0+tN v2*1) [(iv 1)])=flat c3 (v1.set (tN v2) 1) from(bB aF (by first | omega | (simp only [Lt];omega)) (o:=0) (d:=dF) (Nb rfl) rfl)];exact bB aF (by first | omega | (simp only [Lt];omega)) (o:=0) (d:=dF) (Nb rfl) rfl)
       have z1:v1.length=((v1.set (tN v2) 1).set (tN v2) (dB ((v1.set (tN v2) 1).getD (tN v2) dF) (W (((v1.set (tN v2) 1).getD (tN (a0.2.getD (tN v2) dF).2.2.2.1) dF)+1)))).length:=by simp
       rw [z0,z1]
       exact ih ((v1.set (tN v2) 1).set (tN v2) (dB ((v1.set (tN v2) 1).getD (tN v2) dF) (W (((v1.set (tN v2) 1).getD (tN (a0.2.getD (tN v2) dF).2.2.2.1) dF)+1)))) (W (v2 - 1)) (by refine⟨?_,?_,?_⟩<;>(try simp only [Ls])<;>first | omega | assumption | simp) (by omega)
      | false =>
       have q4:=cN h4
       have e:=Eq.refl (iM a0 (v1,v2));conv at e=>rhs;simp only [iM,h0,h1,h2,h3,h4,aT]
       rw [aI e]
       refine ba (t4++[.d h4,.u 0,.F]) [] [1,3,4] [2,3] hcx (m:=n) sB (sC) (nM a0 (splice (flat c3 v1) (0+tN v2*1) [(iv 1)]) (v1.length) (W (v2 - 1))) (by kernel_rfl) ?_
       have z0:(splice (flat c3 v1) (0+tN v2*1) [(iv 1)])=flat c3 (v1.set (tN v2) 1):=(bB aF (by first | omega | (simp only [Lt];omega)) (o:=0) (d:=dF) (Nb rfl) rfl)
       have z1:v1.length=(v1.set (tN v2) 1).length:=by simp
       rw [z0,z1]
       exact ih (v1.set (tN v2) 1) (W (v2 - 1)) (by refine⟨?_,?_,?_⟩<;>(try simp only [Ls])<;>first | omega | assumption | simp) (by omega)
     | false =>
      have q3:=cN h3
      have e:=Eq.refl (iM a0 (v1,v2));conv at e=>rhs;simp only [iM,h0,h1,h2,h3,aT]
      rw [aI e]
      refine ba (t3++[.d h3,.u 0,.F]) [] [1,3,4] [2,3] hcx (m:=n) sB (sC) (nM a0 (splice (flat c3 v1) (0+tN v2*1) [(iv 1)]) (v1.length) (W (v2 - 1))) (by kernel_rfl) ?_
      have z0:(splice (flat c3 v1) (0+tN v2*1) [(iv 1)])=flat c3 (v1.set (tN v2) 1):=(bB aF (by first | omega | (simp only [Lt];omega)) (o:=0) (d:=dF) (Nb rfl) rfl)
      have z1:v1.length=(v1.set (tN v2) 1).length:=by simp
      rw [z0,z1]
      exact ih (v1.set (tN v2) 1) (W (v2 - 1)) (by refine⟨?_,?_,?_⟩<;>(try simp only [Ls])<;>first | omega | assumption | simp) (by omega)
   | false =>
    have q1:=cN h1
    let t2:List (St Tryz.prog):=(t1++[.d h1,.u 0,.T,.i 1 2 (by decide)])
    cases h2:(decide (((a0.2.getD (tN v2) dF).2.2.2.1:Int) > v2)) with
    | true =>
     have q2:=cJ h2
     let t3:List (St Tryz.prog):=(t2++[.d h2])
     cases h3:(decide (((a0.2.getD (tN v2) dF).2.2.2.1:Int) < (v1.length:Int))) with
     | true =>
      have q3:=cJ h3
      have e:=Eq.refl (iM a0 (v1,v2));conv at e=>rhs;simp only [iM,h0,h1,h2,h3,aT]
      rw [aI e]
      refine ba (t3++[.d h3,.i v2 (v1.length),.R aF (v1.set (tN v2) 1) v2 0 1 (show(splice (flat c3 v1) (0+tN v2*1) [(iv 1)])=flat c3 (v1.set (tN v2) 1) from(bB aF (by first | omega | (simp only [Lt];omega)) (o:=0) (d:=dF) (Nb rfl) rfl)),.i ((a0.2.getD (tN v2) dF).2.2.2.1) (v1.length),.R aF (v1.set (tN v2) 1) (a0.2.getD (tN v2) dF).2.2.2.1 0 1 (show(splice (flat c3 v1) (0+tN v2*1) [(iv 1)])=flat c3 (v1.set (tN v2) 1) from(bB aF (by first | omega | (simp only [Lt];omega)) (o:=0) (d:=dF) (Nb rfl) rfl)),.i v2 (v1.length),.p (show((0+tN v2*1)+1<=(splice (flat c3 v1) (0+tN v2*1) [(iv 1)]).length) from(by rw [show(splice (flat c3 v1) (0+tN v2*1) [(iv 1)])=flat c3 (v1.set (tN v2) 1) from(bB aF (by first | omega | (simp only [Lt];omega)) (o:=0) (d:=dF) (Nb rfl) rfl)];exact dT aF (by first | omega | (simp only [Lt];omega)) (o:=0) (Nb rfl))),.u 0,.F]) [] [1,3,4] [2,3] hcx (m:=n) sB (sC) (nM a0 (splice (splice (flat c3 v1) (0+tN v2*1) [(iv 1)]) (0+tN v2*1) [(iv (dB ((v1.set (tN v2) 1).getD (tN v2) dF) (W (((v1.set (tN v2) 1).getD (tN (a0.2.getD (tN v2) dF).2.2.2.1) dF)+1))))]) (v1.length) (W (v2 - 1))) (by kernel_rfl) ?_
      have z0:(splice (splice (flat c3 v1) (0+tN v2*1) [(iv 1)]) (0+tN v2*1) [(iv (dB ((v1.set (tN v2) 1).getD (tN v2) dF) (W (((v1.set (tN v2) 1).getD (tN (a0.2.getD (tN v2) dF).2.2.2.1) dF)+1))))])=flat c3 ((v1.set (tN v2) 1).set (tN v2) (dB ((v1.set (tN v2) 1).getD (tN v2) dF) (W (((v1.set (tN v2) 1).getD (tN (a0.2.getD (tN v2) dF).2.2.2.1) dF)+1)))):=(by rw [show(splice (flat c3 v1) (0+tN v2*1) [(iv 1)])=flat c3 (v1.set (tN v2) 1) from(bB aF (by first | omega | (simp only [Lt];omega)) (o:=0) (d:=dF) (Nb rfl) rfl)];exact bB aF (by first | omega | (simp only [Lt];omega)) (o:=0) (d:=dF) (Nb rfl) rfl)
      have z1:v1.length=((v1.set (tN v2) 1).set (tN v2) (dB ((v1.set (tN v2) 1).getD (tN v2) dF) (W (((v1.set (tN v2) 1).getD (tN (a0.2.getD (tN v2) dF).2.2.2.1) dF)+1)))).length:=by simp
      rw [z0,z1]
      exact ih ((v1.set (tN v2) 1).set (tN v2) (dB ((v1.set (tN v2) 1).getD (tN v2) dF) (W (((v1.set (tN v2) 1).getD (tN (a0.2.getD (tN v2) dF).2.2.2.1) dF)+1)))) (W (v2 - 1)) (by refine⟨?_,?_,?_⟩<;>(try simp only [Ls])<;>first | omega | assumption | simp) (by omega)
     | false =>
      have q3:=cN h3
      have e:=Eq.refl (iM a0 (v1,v2));conv at e=>rhs;simp only [iM,h0,h1,h2,h3,aT]
      rw [aI e]
      refine ba (t3++[.d h3,.u 0,.F]) [] [1,3,4] [2,3] hcx (m:=n) sB (sC) (nM a0 (splice (flat c3 v1) (0+tN v2*1) [(iv 1)]) (v1.length) (W (v2 - 1))) (by kernel_rfl) ?_
      have z0:(splice (flat c3 v1) (0+tN v2*1) [(iv 1)])=flat c3 (v1.set (tN v2) 1):=(bB aF (by first | omega | (simp only [Lt];omega)) (o:=0) (d:=dF) (Nb rfl) rfl)
      have z1:v1.length=(v1.set (tN v2) 1).length:=by simp
      rw [z0,z1]
      exact ih (v1.set (tN v2) 1) (W (v2 - 1)) (by refine⟨?_,?_,?_⟩<;>(try simp only [Ls])<;>first | omega | assumption | simp) (by omega)
    | false =>
     have q2:=cN h2
     have e:=Eq.refl (iM a0 (v1,v2));conv at e=>rhs;simp only [iM,h0,h1,h2,aT]
     rw [aI e]
     refine ba (t2++[.d h2,.u 0,.F]) [] [1,3,4] [2,3] hcx (m:=n) sB (sC) (nM a0 (splice (flat c3 v1) (0+tN v2*1) [(iv 1)]) (v1.length) (W (v2 - 1))) (by kernel_rfl) ?_
     have z0:(splice (flat c3 v1) (0+tN v2*1) [(iv 1)])=flat c3 (v1.set (tN v2) 1):=(bB aF (by first | omega | (simp only [Lt];omega)) (o:=0) (d:=dF) (Nb rfl) rfl)
     have z1:v1.length=(v1.set (tN v2) 1).length:=by simp
     rw [z0,z1]
     exact ih (v1.set (tN v2) 1) (W (v2 - 1)) (by refine⟨?_,?_,?_⟩<;>(try simp only [Ls])<;>first | omega | assumption | simp) (by omega)
  | false =>
   have q0:=cN h0
   let t1:List (St Tryz.prog):=[.d h0]
   cases h1:(((v1.length:Int):Int) == 0) with
   | true =>
    have q1:=eq_of_beq h1
    have e:=Eq.refl (iM a0 (v1,v2));conv at e=>rhs;simp only [iM,h0,h1,aT]
    rw [aJ,e]
    exact rt (t1++[.d h1]) [] [] hcx (by kernel_rfl)
   | false =>
    have q1:=ne_of_beq_false h1
    have e:=Eq.refl (iM a0 (v1,v2));conv at e=>rhs;simp only [iM,h0,h1,aT]
    rw [aJ,e]
    exact rt (t1++[.d h1,.i 0 (v1.length),.L aF v1 0 0 1]) [] [] hcx (by kernel_rfl)
def F19 (a0:List Int×bF):Int :=
 (aH (iM a0) (tN ((W ((a0.2.length:Int) - 1))+1)+1) ((List.replicate (tN (a0.2.length:Int)) 0),(W ((a0.2.length:Int) - 1))))
theorem C19 (a0:List Int×bF)(l0_1:a0.1.length<=2^63-1)(l0_2:a0.2.length<=2^63-1)(hl:a0.2.length<=1048576):Con Tryz.prog 19 [(.a [(.s 0 0 a0.1.length 1),(.s 1 0 a0.2.length 8)])] [(.live false true (flat c3 a0.1)),(.live false true (flat cB a0.2))] (iv (F19 a0)) []:=by
 refine aY Tryz.func19 (by kernel_rfl) fun cx hcx=>?_
 have hw_i:=aS (n:=(a0.2.length:Int) - 1) (by omega) (by omega)
 have e:=Eq.refl (F19 a0);conv at e=>rhs;simp only [F19]
 rw [e]
 refine en [.Z c3 0 [(iv 0)] (a0.2.length:Int) 8] [] [1,3,4] [2,3] hcx sB (sC) (nM a0 (flat c3 (List.replicate (tN (a0.2.length:Int)) 0)) (tN (a0.2.length:Int)) (W ((a0.2.length:Int) - 1))) (tN ((W ((a0.2.length:Int) - 1))+1)+1) (by kernel_rfl) ?_
 have q:=aWf a0 l0_1 l0_2 hl hcx (tN ((W ((a0.2.length:Int) - 1))+1)+1) (List.replicate (tN (a0.2.length:Int)) 0) (W ((a0.2.length:Int) - 1)) (by refine⟨?_,?_,?_⟩<;>(try simp only [Ls])<;>first | omega | assumption | simp) (by omega)
 simp only [List.length_replicate] at q
 exact q
def F7:Bool :=
 (bif (((fF uK 1).2:Int) == 0) then
  (bif (((((fF uK 1).1.2.length:Nat):Int):Int) == 7) then
   (bif (((F19 ((fF uK 1).1.1,(fF uK 1).1.2)):Int) == 3) then
    (bif (((F20 ((fF uK 1).1.1,(fF uK 1).1.2)):Int) == 4) then
     (bif ((((fF uK 1).1.2.getD (tN 0) dF).2.2.1:Int) == 1) then
      ((((fF uK 1).1.2.getD (tN 0) dF).2.2.2.1:Int) == 4)
     else
      false)
    else
     false)
   else
    false)
  else
   false)
 else
  false)
theorem C7:Con Tryz.prog 7 [] [] (.v (.bool F7)) []:=by
 refine aY Tryz.func7 (by kernel_rfl) fun cx hcx=>?_
 have hrl:uK.length=4:=by kernel_rfl
 have hbl:(fF uK 1).1.2.length=7:=by kernel_rfl
 have hbo:(fF uK 1).1.1.length=4:=by kernel_rfl
 let t0:List (St Tryz.prog):=[.c [] (C18),.c [0] (aWe uK 1 (by omega))]
 cases h0:(((fF uK 1).2:Int) == 0) with
 | true =>
  have q0:=eq_of_beq h0
  let t1:List (St Tryz.prog):=(t0++[.d h0])
  cases h1:(((((fF uK 1).1.2.length:Nat):Int):Int) == 7) with
  | true =>
   have q1:=eq_of_beq h1
   let t2:List (St Tryz.prog):=(t1++[.d h1,.c [1,2] (C19 ((fF uK 1).1.1,(fF uK 1).1.2) (by(try simp only [Lt]);omega) (by(try simp only [Lt]);omega) (by(try simp only [Lt]);omega))])
   cases h2:(((F19 ((fF uK 1).1.1,(fF uK 1).1.2)):Int) == 3) with
   | true =>
    have q2:=eq_of_beq h2
    let t3:List (St Tryz.prog):=(t2++[.d h2,.c [1,2] (C20 ((fF uK 1).1.1,(fF uK 1).1.2) (by(try simp only [Lt]);omega) (by(try simp only [Lt]);omega) (by(try simp only [Lt]);omega))])
    cases h3:(((F20 ((fF uK 1).1.1,(fF uK 1).1.2)):Int) == 4) with
    | true =>
     have q3:=eq_of_beq h3
     let t4:List (St Tryz.prog):=(t3++[.d h3,.i 0 ((fF uK 1).1.2.length),.L bU (fF uK 1).1.2 0 2 1])
     cases h4:((((fF uK 1).1.2.getD (tN 0) dF).2.2.1:Int) == 1) with
     | true =>
      have q4:=eq_of_beq h4
      have e:=Eq.refl F7;conv at e=>rhs;simp only [F7,h0,h1,h2,h3,h4,aT]
      rw [e]
      exact rt (t4++[.d h4,.i 0 ((fF uK 1).1.2.length),.L bU (fF uK 1).1.2 0 3 1]) [] [] hcx (by kernel_rfl)
     | false =>
      have q4:=ne_of_beq_false h4
      have e:=Eq.refl F7;conv at e=>rhs;simp only [F7,h0,h1,h2,h3,h4,aT]
      rw [e]
      exact rt (t4++[.d h4]) [] [] hcx (by kernel_rfl)
    | false =>
     have q3:=ne_of_beq_false h3
     have e:=Eq.refl F7;conv at e=>rhs;simp only [F7,h0,h1,h2,h3,aT]
     rw [e]
     exact rt (t3++[.d h3]) [] [] hcx (by kernel_rfl)
   | false =>
    have q2:=ne_of_beq_false h2
    have e:=Eq.refl F7;conv at e=>rhs;simp only [F7,h0,h1,h2,aT]
    rw [e]
    exact rt (t2++[.d h2]) [] [] hcx (by kernel_rfl)
  | false =>
   have q1:=ne_of_beq_false h1
   have e:=Eq.refl F7;conv at e=>rhs;simp only [F7,h0,h1,aT]
   rw [e]
   exact rt (t1++[.d h1]) [] [] hcx (by kernel_rfl)
 | false =>
  have q0:=ne_of_beq_false h0
  have e:=Eq.refl F7;conv at e=>rhs;simp only [F7,h0,aT]
  rw [e]
  exact rt (t0++[.d h0]) [] [] hcx (by kernel_rfl)
theorem aUf:F7=true:=by kernel_rfl
theorem aRn (n lo hi:Int):F48 n lo hi=F79 n lo hi:=by
 unfold F48 F79
 by_cases h1:lo<=n<;>by_cases h2:n<=hi<;>simp [h1,h2]
theorem aBx (l:List (PN×Int)):jD l=kW l:=by
 have e:hH l=jP l:=by
  funext v
  simp only [hH,jP,aVk,aW5,aRn]
 unfold jD kW
 rw [e]
theorem aHg {l:List (PN×Int)} (h:kW l=0):l.length<=96:=vQ (by rw [aBx];exact h)
end Go.Proofs.YtkdfcbmcgnaicaaGreat
