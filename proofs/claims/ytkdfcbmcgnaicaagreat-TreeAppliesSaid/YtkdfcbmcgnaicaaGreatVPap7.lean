/-
  Parts of the proofs of the laws: the executor, what functions of the program compute, and that it is what the statements ask. No premise.
-/
import Derived.Test.YtkdfcbmcgnaicaaGreatVPap6
set_option linter.unusedVariables false
set_option linter.unusedSimpArgs false
set_option maxHeartbeats 4000000
open Int renaming toNat → tN
open Inhabited renaming default → dF
namespace Go.Proofs.YtkdfcbmcgnaicaaGreat
open Go.Proofs Go.Aw Go.RowKit
set_option maxRecDepth 100000
abbrev BLK:=Int×Int×Bool
structure PVB (i k:Int) (t:TR) (out:List BLK):Prop where
 e0:0<=i
 e1:0<=k
 e2:t.2.length<=1048576
 e3:∃(m:Nat) (f u h:Int) (m':Nat) (f' u' h':Int),TRE t.2 (tN i) m f u h/\TRE t.2 (tN k) m' f' u' h'/\out.length+(u - f)*(u' - f')<=1048576
theorem kQ {a b:Int} (ha:1<=a)(hb:1<=b):1<=a*b:=by
 have:=Int.mul_le_mul ha hb (by omega) (by omega)
 omega
theorem uV {i k:Int} {t:TR} {out:List BLK} (h:PVB i k t out):i < t.2.length/\k < t.2.length/\out.length+1<=1048576:=by
 obtain⟨e0,e1,e2,m,f,u,hh,m',f',u',hh',e3,e4,e5⟩:=h
 have h1:=cG e3
 have h2:=cG e4
 have h3:=kQ (a:=u - f) (b:=u' - f') (by omega) (by omega)
 omega
theorem zY (a b c w:Int):(c - a)*w+(b - c)*w=(b - a)*w:=by
 rw [←Int.add_mul,show c - a+(b - c)=b - a by omega]
theorem wE (a b c w:Int):w*(c - a)+w*(b - c)=w*(b - a):=by
 rw [←Int.mul_add,show c - a+(b - c)=b - a by omega]
def fC (x:Int×Int×Bool):List SV:=[(iv x.1),(iv x.2.1),(.v (.bool x.2.2))]
theorem eF (x:Int×Int×Bool):(fC x).length=3:=rfl
def tP (a0:Int)(a1:Int)(a2:List Int×bF)(a3:Int)(a4:List (Int×Int×Bool)):=(F53 (a2.2.getD (tN a0) dF).2.2.2.2.1 (a2.2.getD (tN a1) dF).2.2.2.2.1)
def tQ (rr:(Int)->(Int)->(List Int×bF)->(Int)->(List (Int×Int×Bool))->List (Int×Int×Bool))(a0:Int)(a1:Int)(a2:List Int×bF)(a3:Int)(a4:List (Int×Int×Bool)):=(rr (a2.2.getD (tN a0) dF).2.2.1 a1 (a2.1,a2.2) a3 a4)
def aHq (rr:(Int)->(Int)->(List Int×bF)->(Int)->(List (Int×Int×Bool))->List (Int×Int×Bool))(a0:Int)(a1:Int)(a2:List Int×bF)(a3:Int)(a4:List (Int×Int×Bool)):=(rr (a2.2.getD (tN a0) dF).2.2.2.1 a1 (a2.1,a2.2) a3 (tQ (rr) a0 a1 a2 a3 a4))
def tR (rr:(Int)->(Int)->(List Int×bF)->(Int)->(List (Int×Int×Bool))->List (Int×Int×Bool))(a0:Int)(a1:Int)(a2:List Int×bF)(a3:Int)(a4:List (Int×Int×Bool)):=(rr a0 (a2.2.getD (tN a1) dF).2.2.1 (a2.1,a2.2) a3 a4)
def aHr (rr:(Int)->(Int)->(List Int×bF)->(Int)->(List (Int×Int×Bool))->List (Int×Int×Bool))(a0:Int)(a1:Int)(a2:List Int×bF)(a3:Int)(a4:List (Int×Int×Bool)):=(rr a0 (a2.2.getD (tN a1) dF).2.2.2.1 (a2.1,a2.2) a3 (tR (rr) a0 a1 a2 a3 a4))
noncomputable def aJw:Code:=(cC [1,1,1,0,1,0] [] (aL Tryz.f51)).1
noncomputable def aJx:List K:=(cC [1,1,1,0,1,0] [] (aL Tryz.f51)).2
def aFq (nr:Nat)(a0:Int)(a1:Int)(a2:List Int×bF)(a3:Int)(a4:List (Int×Int×Bool))(v2:Bool):LS:=⟨gD 105 [(0,(iv a0)),(1,(iv a1)),(4,(.p 4 0)),(11,(.v (.bool v2)))],[(.live false false [(.s 1 0 a2.1.length 1),(.s 2 0 a2.2.length 8)]),(.live false true (flat c3 a2.1)),(.live false true (flat cB a2.2)),(.live false false [(iv a3)]),(.live true false [(.s 5 0 a4.length 3)]),(.live true true (flat fC a4)),(.live false false [(.f 51 [(.p 0 0),(.p 3 0),(.p 4 0),(.p 6 0)])])]⟩
def pB (rr:(Int)->(Int)->(List Int×bF)->(Int)->(List (Int×Int×Bool))->List (Int×Int×Bool))(a0:Int)(a1:Int)(a2:List Int×bF)(a3:Int)(a4:List (Int×Int×Bool)):Bool->List (Int×Int×Bool)
 | v2 =>
  (a4++[(a0,a1,v2)])
noncomputable def aJy:Code:=(cC [1,1,1,0,1,1,0] [] (aL Tryz.f51)).1
noncomputable def aJz:List K:=(cC [1,1,1,0,1,1,0] [] (aL Tryz.f51)).2
def aFr (nr:Nat)(a0:Int)(a1:Int)(a2:List Int×bF)(a3:Int)(a4:List (Int×Int×Bool)):LS:=⟨gD 105 [(0,(iv a0)),(1,(iv a1)),(5,(.p 6 0)),(8,(.p 7 0)),(9,(.p 8 0))],[(.live false false [(.s 1 0 a2.1.length 1),(.s 2 0 a2.2.length 8)]),(.live false true (flat c3 a2.1)),(.live false true (flat cB a2.2)),(.live false false [(iv a3)]),(.live true false [(.s 5 0 a4.length 3)]),(.live true true (flat fC a4)),(.live false false [(.f 51 [(.p 0 0),(.p 3 0),(.p 4 0),(.p 6 0)])]),(.live true false [(iv (a2.2.getD (tN a0) dF).1),(iv (a2.2.getD (tN a0) dF).2.1),(iv (a2.2.getD (tN a0) dF).2.2.1),(iv (a2.2.getD (tN a0) dF).2.2.2.1),(iv (a2.2.getD (tN a0) dF).2.2.2.2.1.1),(iv (a2.2.getD (tN a0) dF).2.2.2.2.1.2.1),(iv (a2.2.getD (tN a0) dF).2.2.2.2.1.2.2),(iv (a2.2.getD (tN a0) dF).2.2.2.2.2)]),(.live true false [(iv (a2.2.getD (tN a1) dF).1),(iv (a2.2.getD (tN a1) dF).2.1),(iv (a2.2.getD (tN a1) dF).2.2.1),(iv (a2.2.getD (tN a1) dF).2.2.2.1),(iv (a2.2.getD (tN a1) dF).2.2.2.2.1.1),(iv (a2.2.getD (tN a1) dF).2.2.2.2.1.2.1),(iv (a2.2.getD (tN a1) dF).2.2.2.2.1.2.2),(iv (a2.2.getD (tN a1) dF).2.2.2.2.2)])]⟩
def iQ (rr:(Int)->(Int)->(List Int×bF)->(Int)->(List (Int×Int×Bool))->List (Int×Int×Bool))(a0:Int)(a1:Int)(a2:List Int×bF)(a3:Int)(a4:List (Int×Int×Bool)):Unit->List (Int×Int×Bool)
 | () =>
  (bif (decide (((a2.2.getD (tN a1) dF).2.2.1:Int) < 0)) then
   (aHq (rr) a0 a1 a2 a3 a4)
  else
   (bif (decide (((a2.2.getD (tN a0) dF).2.2.1:Int)≥0)) then
    (bif (decide (((W ((a2.2.getD (tN a0) dF).2.1 - (a2.2.getD (tN a0) dF).1)):Int)≥(W ((a2.2.getD (tN a1) dF).2.1 - (a2.2.getD (tN a1) dF).1)))) then
     (aHq (rr) a0 a1 a2 a3 a4)
    else
     (aHr (rr) a0 a1 a2 a3 a4))
   else
    (aHr (rr) a0 a1 a2 a3 a4)))
noncomputable def aJ0:Code:=(cC [1,1,1,0,0] [] (aL Tryz.f51)).1
noncomputable def aJ1:List K:=(cC [1,1,1,0,0] [] (aL Tryz.f51)).2
def aFs (nr:Nat)(a0:Int)(a1:Int)(a2:List Int×bF)(a3:Int)(a4:List (Int×Int×Bool))(v1:Bool):LS:=⟨gD 105 [(0,(iv a0)),(1,(iv a1)),(4,(.p 4 0)),(5,(.p 6 0)),(8,(.p 7 0)),(9,(.p 8 0)),(11,(.v (.bool v1)))],[(.live false false [(.s 1 0 a2.1.length 1),(.s 2 0 a2.2.length 8)]),(.live false true (flat c3 a2.1)),(.live false true (flat cB a2.2)),(.live false false [(iv a3)]),(.live true false [(.s 5 0 a4.length 3)]),(.live true true (flat fC a4)),(.live false false [(.f 51 [(.p 0 0),(.p 3 0),(.p 4 0),(.p 6 0)])]),(.live true false [(iv (a2.2.getD (tN a0) dF).1),(iv (a2.2.getD (tN a0) dF).2.1),(iv (a2.2.getD (tN a0) dF).2.2.1),(iv (a2.2.getD (tN a0) dF).2.2.2.1),(iv (a2.2.getD (tN a0) dF).2.2.2.2.1.1),(iv (a2.2.getD (tN a0) dF).2.2.2.2.1.2.1),(iv (a2.2.getD (tN a0) dF).2.2.2.2.1.2.2),(iv (a2.2.getD (tN a0) dF).2.2.2.2.2)]),(.live true false [(iv (a2.2.getD (tN a1) dF).1),(iv (a2.2.getD (tN a1) dF).2.1),(iv (a2.2.getD (tN a1) dF).2.2.1),(iv (a2.2.getD (tN a1) dF).2.2.2.1),(iv (a2.2.getD (tN a1) dF).2.2.2.2.1.1),(iv (a2.2.getD (tN a1) dF).2.2.2.2.1.2.1),(iv (a2.2.getD (tN a1) dF).2.2.2.2.1.2.2),(iv (a2.2.getD (tN a1) dF).2.2.2.2.2)])]⟩
def iR (rr:(Int)->(Int)->(List Int×bF)->(Int)->(List (Int×Int×Bool))->List (Int×Int×Bool))(a0:Int)(a1:Int)(a2:List Int×bF)(a3:Int)(a4:List (Int×Int×Bool)):Bool->List (Int×Int×Bool)
 | v1 =>
  (bif v1 then
   (pB rr a0 a1 a2 a3 a4 v1)
  else
   (bif (decide (((a2.2.getD (tN a0) dF).2.2.1:Int) < 0)) then
    (bif (decide (((a2.2.getD (tN a1) dF).2.2.1:Int) < 0)) then
     (pB rr a0 a1 a2 a3 a4 v1)
    else
     (iQ rr a0 a1 a2 a3 a4 ()))
   else
    (iQ rr a0 a1 a2 a3 a4 ())))
def jA:Nat->(Int)->(Int)->(List Int×bF)->(Int)->(List (Int×Int×Bool))->List (Int×Int×Bool)
 | 0,_,_,_,_,_=>dF
 | nr+1,a0,a1,a2,a3,a4 =>
 (bif (decide (((F52 (tP a0 a1 a2 a3 a4)):Int) > 0)) then
  (iR (jA nr) a0 a1 a2 a3 a4 (decide (((W ((W ((W ((W ((a2.2.getD (tN a0) dF).2.2.2.2.2+(a2.2.getD (tN a1) dF).2.2.2.2.2))*4))*a3))*a3)):Int)<=(F52 (tP a0 a1 a2 a3 a4)))))
 else
  (iR (jA nr) a0 a1 a2 a3 a4 false))
def F51 (a0:Int)(a1:Int)(a2:List Int×bF)(a3:Int)(a4:List (Int×Int×Bool)):List (Int×Int×Bool):=jA (((a2.2.length - tN a0)+(a2.2.length - tN a1))+1) a0 a1 a2 a3 a4
theorem sS:∀(nr:Nat) (i k:Int) (t:TR) (sep:Int) (out:List BLK) (m:Nat) (f u h:Int) (m':Nat) (f' u' h':Int),TRE t.2 (tN i) m f u h->TRE t.2 (tN k) m' f' u' h'->0<=i->0<=k->(t.2.length - tN i)+(t.2.length - tN k) < nr ->
 ((jA nr i k t sep out).length:Int)<=out.length+(u - f)*(u' - f')
 | 0,_,_,_,_,_,_,_,_,_,_,_,_,_,_,_,_,_,h=>absurd h (eI _)
 | nr+1,i,k,t,sep,out,m,f,u,h,m',f',u',h',H,K,hi,hk,hn=>by
  have hb:=cG H
  have kb:=cG K
  have hm:=kQ (a:=u - f) (b:=u' - f') (by omega) (by omega)
  have hs:∀b:Bool,((out++[(i,k,b)]).length:Int)<=out.length+(u - f)*(u' - f'):=fun b=>by rw [List.length_append,List.length_singleton];omega
  have hA:¬(t.2.getD (tN i) dF).2.2.1 < 0->((aHq (jA nr) i k t sep out).length:Int)<=out.length+(u - f)*(u' - f'):=by
   intro hq
   rcases iF H with⟨_,_,h5,_⟩ | ⟨m1,m2,c,h1,h2,e8,g4,g5,b1,b2,e9⟩
   ·omega
   ·have l1:=cG b1
    have l2:=cG b2
    have c1:=sS nr (t.2.getD (tN i) dF).2.2.1 k t sep out m1 f c h1 m' f' u' h' (by rw [g4,fZ];exact b1) K (by omega) hk (by omega)
    have c2:=sS nr (t.2.getD (tN i) dF).2.2.2.1 k t sep (tQ (jA nr) i k t sep out) m2 c u h2 m' f' u' h' (by rw [g5,fZ];exact b2) K (by omega) hk (by omega)
    have c3:=zY f u c (u' - f')
    refine Int.le_trans c2 ?_
    have c4:((tQ (jA nr) i k t sep out).length:Int)<=out.length+(c - f)*(u' - f'):=c1
    omega
  have hB:¬(t.2.getD (tN k) dF).2.2.1 < 0->((aHr (jA nr) i k t sep out).length:Int)<=out.length+(u - f)*(u' - f'):=by
   intro hq
   rcases iF K with⟨_,_,h5,_⟩ | ⟨m1,m2,c,h1,h2,e8,g4,g5,b1,b2,e9⟩
   ·omega
   ·have l1:=cG b1
    have l2:=cG b2
    have c1:=sS nr i (t.2.getD (tN k) dF).2.2.1 t sep out m f u h m1 f' c h1 H (by rw [g4,fZ];exact b1) hi (by omega) (by omega)
    have c2:=sS nr i (t.2.getD (tN k) dF).2.2.2.1 t sep (tR (jA nr) i k t sep out) m f u h m2 c u' h2 H (by rw [g5,fZ];exact b2) hi (by omega) (by omega)
    have c3:=wE f' u' c (u - f)
    refine Int.le_trans c2 ?_
    have c4:((tR (jA nr) i k t sep out).length:Int)<=out.length+(u - f)*(c - f'):=c1
    omega
  have hJ:0<=(t.2.getD (tN i) dF).2.2.1\/0<=(t.2.getD (tN k) dF).2.2.1->((iQ (jA nr) i k t sep out ()).length:Int)<=out.length+(u - f)*(u' - f'):=by
   intro hq
   simp only [iQ]
   by_cases z1:(t.2.getD (tN k) dF).2.2.1 < 0
   ·rw [cH z1,cond_true];exact hA (by omega)
   ·rw [dA z1,cond_false]
    by_cases z2:(t.2.getD (tN i) dF).2.2.1≥0
    ·rw [cH z2,cond_true,Bool.cond_eq_ite]
     split
     ·exact hA (by omega)
     ·exact hB z1
    ·rw [dA z2,cond_false];exact hB z1
  have h5:∀b:Bool,((iR (jA nr) i k t sep out b).length:Int)<=out.length+(u - f)*(u' - f'):=by
   intro b
   cases b with
   | true=>exact hs true
   | false =>
    simp only [iR,cond_false,pB]
    by_cases z1:(t.2.getD (tN i) dF).2.2.1 < 0
    ·rw [cH z1,cond_true]
     by_cases z2:(t.2.getD (tN k) dF).2.2.1 < 0
     ·rw [cH z2,cond_true];exact hs false
     ·rw [dA z2,cond_false];exact hJ (by omega)
    ·rw [dA z1,cond_false];exact hJ (by omega)
  simp only [jA]
  rw [Bool.cond_eq_ite]
  split
  ·exact h5 _
  ·exact h5 _
theorem aWo {nr:Nat} {i k:Int} {t:TR} {out:List BLK} (sep:Int)(h:PVB i k t out)(hlt:(t.2.length - tN i)+(t.2.length - tN k) < nr+1)(hq:¬(t.2.getD (tN i) dF).2.2.1 < 0) :
 PVB (t.2.getD (tN i) dF).2.2.1 k t out/\PVB (t.2.getD (tN i) dF).2.2.2.1 k t (tQ (jA nr) i k t sep out) /\
 ((t.2.length - tN (t.2.getD (tN i) dF).2.2.1)+(t.2.length - tN k) < nr/\(t.2.length - tN (t.2.getD (tN i) dF).2.2.2.1)+(t.2.length - tN k) < nr)/\(tQ (jA nr) i k t sep out).length<=1048576:=by
 obtain⟨e0,e1,e2,m,f,u,hh,m',f',u',hh',H,K,e5⟩:=h
 have hb:=cG H
 have kb:=cG K
 rcases iF H with⟨_,_,h5,_⟩ | ⟨m1,m2,c,h1,h2,e8,g4,g5,b1,b2,e9⟩
 ·omega
 ·have l1:=cG b1
  have l2:=cG b2
  have p1:=kQ (a:=c - f) (b:=u' - f') (by omega) (by omega)
  have p2:=kQ (a:=u - c) (b:=u' - f') (by omega) (by omega)
  have c3:=zY f u c (u' - f')
  have c1:=sS nr (t.2.getD (tN i) dF).2.2.1 k t sep out m1 f c h1 m' f' u' hh' (by rw [g4,fZ];exact b1) K (by omega) e1 (by omega)
  have c4:((tQ (jA nr) i k t sep out).length:Int)<=out.length+(c - f)*(u' - f'):=c1
  exact⟨⟨by omega,e1,e2,m1,f,c,h1,m',f',u',hh',by rw [g4,fZ];exact b1,K,by omega⟩,⟨by omega,e1,e2,m2,c,u,h2,m',f',u',hh',by rw [g5,fZ];exact b2,K,by omega⟩,⟨by omega,by omega⟩,by omega⟩
theorem aWp {nr:Nat} {i k:Int} {t:TR} {out:List BLK} (sep:Int)(h:PVB i k t out)(hlt:(t.2.length - tN i)+(t.2.length - tN k) < nr+1)(hq:¬(t.2.getD (tN k) dF).2.2.1 < 0) :
 PVB i (t.2.getD (tN k) dF).2.2.1 t out/\PVB i (t.2.getD (tN k) dF).2.2.2.1 t (tR (jA nr) i k t sep out) /\
 ((t.2.length - tN i)+(t.2.length - tN (t.2.getD (tN k) dF).2.2.1) < nr/\(t.2.length - tN i)+(t.2.length - tN (t.2.getD (tN k) dF).2.2.2.1) < nr)/\(tR (jA nr) i k t sep out).length<=1048576:=by
 obtain⟨e0,e1,e2,m,f,u,hh,m',f',u',hh',H,K,e5⟩:=h
 have hb:=cG H
 have kb:=cG K
 rcases iF K with⟨_,_,h5,_⟩ | ⟨m1,m2,c,h1,h2,e8,g4,g5,b1,b2,e9⟩
 ·omega
 ·have l1:=cG b1
  have l2:=cG b2
  have p1:=kQ (a:=u - f) (b:=c - f') (by omega) (by omega)
  have p2:=kQ (a:=u - f) (b:=u' - c) (by omega) (by omega)
  have c3:=wE f' u' c (u - f)
  have c1:=sS nr i (t.2.getD (tN k) dF).2.2.1 t sep out m f u hh m1 f' c h1 H (by rw [g4,fZ];exact b1) e0 (by omega) (by omega)
  have c4:((tR (jA nr) i k t sep out).length:Int)<=out.length+(u - f)*(c - f'):=c1
  exact⟨⟨e0,by omega,e2,m,f,u,hh,m1,f',c,h1,H,by rw [g4,fZ];exact b1,by omega⟩,⟨e0,by omega,e2,m,f,u,hh,m2,c,u',h2,H,by rw [g5,fZ];exact b2,by omega⟩,⟨by omega,by omega⟩,by omega⟩
theorem aPq (nr:Nat)(a0:Int)(a1:Int)(a2:List Int×bF)(a3:Int)(a4:List (Int×Int×Bool))(l2_1:a2.1.length<=2^63-1)(l2_2:a2.2.length<=2^63-1)(l4:a4.length<=2^63-1)(hp:PVB a0 a1 a2 a4)(hlt:((a2.2.length - tN a0)+(a2.2.length - tN a1)) < nr+1)(ihr:∀(a0:Int)(a1:Int)(a2:List Int×bF)(a3:Int)(a4:List (Int×Int×Bool))(l2_1:a2.1.length<=2^63-1)(l2_2:a2.2.length<=2^63-1)(l4:a4.length<=2^63-1)(hp:PVB a0 a1 a2 a4),((a2.2.length - tN a0)+(a2.2.length - tN a1)) < nr->Con Tryz.prog 51 [(iv a0),(iv a1),(.p 0 0),(.p 3 0),(.p 4 0),(.p 6 0)] [(.live false false [(.s 1 0 a2.1.length 1),(.s 2 0 a2.2.length 8)]),(.live false true (flat c3 a2.1)),(.live false true (flat cB a2.2)),(.live false false [(iv a3)]),(.live true false [(.s 5 0 a4.length 3)]),(.live true true (flat fC a4)),(.live false false [(.f 51 [(.p 0 0),(.p 3 0),(.p 4 0),(.p 6 0)])])] (.t []) [(.live true true (flat fC (jA nr a0 a1 a2 a3 a4)))] [.un,.un,.un,.un,(.live true false [(.s 7 0 (jA nr a0 a1 a2 a3 a4).length 3)]),.dead,.un]) {cx:Cx} (hcx:cx.base=7)(v2:Bool):True->Aw.Good Tryz.prog none 9 (bodyPost Tryz.prog Tryz.f51 (RR cx (.t []) [(.live true true (flat fC (pB (jA nr) a0 a1 a2 a3 a4 v2)))] [.un,.un,.un,.un,(.live true false [(.s 7 0 (pB (jA nr) a0 a1 a2 a3 a4 v2).length 3)]),.dead,.un])) cx [] (.c aJw::aJx) (aFq nr a0 a1 a2 a3 a4 v2):=by
 intro hi
 have hpb:=uV hp
 have hp1:=hp.e0
 have hp2:=hp.e1
 have hp3:=hp.e2
 have e:=Eq.refl (pB (jA nr) a0 a1 a2 a3 a4 v2);conv at e=>rhs;simp only [pB]
 rw [e]
 try dsimp only [bA]
 try dsimp only
 rw [show flat fC (a4++[(a0,a1,v2)])=(flat fC a4++[(iv a0),(iv a1),(.v (.bool v2))]) from cM]
 try rw [show List.length (α:=Int×Int×Bool) (a4++[(a0,a1,v2)])=(a4.length+1) from by first | simp;done | omega]
 exact rtn [.p (show((flat fC a4).length=a4.length*3/\a4.length+1<=2 ^ 40/\(a4.length+1)*24<=2 ^ 47) from kG eF (by omega) (by omega))] [] [4,5] [8] hcx (by kernel_rfl)
theorem aPr (nr:Nat)(a0:Int)(a1:Int)(a2:List Int×bF)(a3:Int)(a4:List (Int×Int×Bool))(l2_1:a2.1.length<=2^63-1)(l2_2:a2.2.length<=2^63-1)(l4:a4.length<=2^63-1)(hp:PVB a0 a1 a2 a4)(hlt:((a2.2.length - tN a0)+(a2.2.length - tN a1)) < nr+1)(ihr:∀(a0:Int)(a1:Int)(a2:List Int×bF)(a3:Int)(a4:List (Int×Int×Bool))(l2_1:a2.1.length<=2^63-1)(l2_2:a2.2.length<=2^63-1)(l4:a4.length<=2^63-1)(hp:PVB a0 a1 a2 a4),((a2.2.length - tN a0)+(a2.2.length - tN a1)) < nr->Con Tryz.prog 51 [(iv a0),(iv a1),(.p 0 0),(.p 3 0),(.p 4 0),(.p 6 0)] [(.live false false [(.s 1 0 a2.1.length 1),(.s 2 0 a2.2.length 8)]),(.live false true (flat c3 a2.1)),(.live false true (flat cB a2.2)),(.live false false [(iv a3)]),(.live true false [(.s 5 0 a4.length 3)]),(.live true true (flat fC a4)),(.live false false [(.f 51 [(.p 0 0),(.p 3 0),(.p 4 0),(.p 6 0)])])] (.t []) [(.live true true (flat fC (jA nr a0 a1 a2 a3 a4)))] [.un,.un,.un,.un,(.live true false [(.s 7 0 (jA nr a0 a1 a2 a3 a4).length 3)]),.dead,.un]) {cx:Cx} (hcx:cx.base=7):0<=(a2.2.getD (tN a0) dF).2.2.1\/0<=(a2.2.getD (tN a1) dF).2.2.1->Aw.Good Tryz.prog none 9 (bodyPost Tryz.prog Tryz.f51 (RR cx (.t []) [(.live true true (flat fC (iQ (jA nr) a0 a1 a2 a3 a4 ())))] [.un,.un,.un,.un,(.live true false [(.s 7 0 (iQ (jA nr) a0 a1 a2 a3 a4 ()).length 3)]),.dead,.un])) cx [] (.c aJy::aJz) (aFr nr a0 a1 a2 a3 a4):=by
 intro hi
 have hpb:=uV hp
 have hp1:=hp.e0
 have hp2:=hp.e1
 have hp3:=hp.e2
 have hA:=aWo a3 hp hlt
 have hB:=aWp a3 hp hlt
 have hAl:=fun q=>(hA q).2.2.2
 have hBl:=fun q=>(hB q).2.2.2
 cases h0:(decide (((a2.2.getD (tN a1) dF).2.2.1:Int) < 0)) with
 | true =>
  have q0:=cJ h0
  have e:=Eq.refl (iQ (jA nr) a0 a1 a2 a3 a4 ());conv at e=>rhs;simp only [iQ,h0,aT]
  rw [e]
  try dsimp only [bA]
  try dsimp only
  exact rtn [.d h0,.c [0,1,2,3,4,5,6] (ihr (a2.2.getD (tN a0) dF).2.2.1 a1 (a2.1,a2.2) a3 a4 (by omega) (by omega) (by omega) (by first | exact(hA (by omega)).1 | exact(hA (by omega)).2.1 | exact(hB (by omega)).1 | exact(hB (by omega)).2.1) (by first | exact(hA (by omega)).2.2.1.1 | exact(hA (by omega)).2.2.1.2 | exact(hB (by omega)).2.2.1.1 | exact(hB (by omega)).2.2.1.2)),.c [0,1,2,3,4,9,6] (ihr (a2.2.getD (tN a0) dF).2.2.2.1 a1 (a2.1,a2.2) a3 (tQ (jA nr) a0 a1 a2 a3 a4) (by omega) (by omega) (by omega) (by first | exact(hA (by omega)).1 | exact(hA (by omega)).2.1 | exact(hB (by omega)).1 | exact(hB (by omega)).2.1) (by first | exact(hA (by omega)).2.2.1.1 | exact(hA (by omega)).2.2.1.2 | exact(hB (by omega)).2.2.1.1 | exact(hB (by omega)).2.2.1.2))] [] [4,5] [10] hcx (by kernel_rfl)
 | false =>
  have q0:=cN h0
  let t1:List (St Tryz.prog):=[.d h0]
  cases h1:(decide (((a2.2.getD (tN a0) dF).2.2.1:Int)≥0)) with
  | true =>
   have q1:=cJ h1
   let t2:List (St Tryz.prog):=(t1++[.d h1])
   cases h2:(decide (((W ((a2.2.getD (tN a0) dF).2.1 - (a2.2.getD (tN a0) dF).1)):Int)≥(W ((a2.2.getD (tN a1) dF).2.1 - (a2.2.getD (tN a1) dF).1)))) with
   | true =>
    have q2:=cJ h2
    have e:=Eq.refl (iQ (jA nr) a0 a1 a2 a3 a4 ());conv at e=>rhs;simp only [iQ,h0,h1,h2,aT]
    rw [e]
    try dsimp only [bA]
    try dsimp only
    exact rtn (t2++[.d h2,.c [0,1,2,3,4,5,6] (ihr (a2.2.getD (tN a0) dF).2.2.1 a1 (a2.1,a2.2) a3 a4 (by omega) (by omega) (by omega) (by first | exact(hA (by omega)).1 | exact(hA (by omega)).2.1 | exact(hB (by omega)).1 | exact(hB (by omega)).2.1) (by first | exact(hA (by omega)).2.2.1.1 | exact(hA (by omega)).2.2.1.2 | exact(hB (by omega)).2.2.1.1 | exact(hB (by omega)).2.2.1.2)),.c [0,1,2,3,4,9,6] (ihr (a2.2.getD (tN a0) dF).2.2.2.1 a1 (a2.1,a2.2) a3 (tQ (jA nr) a0 a1 a2 a3 a4) (by omega) (by omega) (by omega) (by first | exact(hA (by omega)).1 | exact(hA (by omega)).2.1 | exact(hB (by omega)).1 | exact(hB (by omega)).2.1) (by first | exact(hA (by omega)).2.2.1.1 | exact(hA (by omega)).2.2.1.2 | exact(hB (by omega)).2.2.1.1 | exact(hB (by omega)).2.2.1.2))]) [] [4,5] [10] hcx (by kernel_rfl)
   | false =>
    have q2:=cN h2
    have e:=Eq.refl (iQ (jA nr) a0 a1 a2 a3 a4 ());conv at e=>rhs;simp only [iQ,h0,h1,h2,aT]
    rw [e]
    try dsimp only [bA]
    try dsimp only
    exact rtn (t2++[.d h2,.c [0,1,2,3,4,5,6] (ihr a0 (a2.2.getD (tN a1) dF).2.2.1 (a2.1,a2.2) a3 a4 (by omega) (by omega) (by omega) (by first | exact(hA (by omega)).1 | exact(hA (by omega)).2.1 | exact(hB (by omega)).1 | exact(hB (by omega)).2.1) (by first | exact(hA (by omega)).2.2.1.1 | exact(hA (by omega)).2.2.1.2 | exact(hB (by omega)).2.2.1.1 | exact(hB (by omega)).2.2.1.2)),.c [0,1,2,3,4,9,6] (ihr a0 (a2.2.getD (tN a1) dF).2.2.2.1 (a2.1,a2.2) a3 (tR (jA nr) a0 a1 a2 a3 a4) (by omega) (by omega) (by omega) (by first | exact(hA (by omega)).1 | exact(hA (by omega)).2.1 | exact(hB (by omega)).1 | exact(hB (by omega)).2.1) (by first | exact(hA (by omega)).2.2.1.1 | exact(hA (by omega)).2.2.1.2 | exact(hB (by omega)).2.2.1.1 | exact(hB (by omega)).2.2.1.2))]) [] [4,5] [10] hcx (by kernel_rfl)
  | false =>
   have q1:=cN h1
   have e:=Eq.refl (iQ (jA nr) a0 a1 a2 a3 a4 ());conv at e=>rhs;simp only [iQ,h0,h1,aT]
   rw [e]
   try dsimp only [bA]
   try dsimp only
   exact rtn (t1++[.d h1,.c [0,1,2,3,4,5,6] (ihr a0 (a2.2.getD (tN a1) dF).2.2.1 (a2.1,a2.2) a3 a4 (by omega) (by omega) (by omega) (by first | exact(hA (by omega)).1 | exact(hA (by omega)).2.1 | exact(hB (by omega)).1 | exact(hB (by omega)).2.1) (by first | exact(hA (by omega)).2.2.1.1 | exact(hA (by omega)).2.2.1.2 | exact(hB (by omega)).2.2.1.1 | exact(hB (by omega)).2.2.1.2)),.c [0,1,2,3,4,9,6] (ihr a0 (a2.2.getD (tN a1) dF).2.2.2.1 (a2.1,a2.2) a3 (tR (jA nr) a0 a1 a2 a3 a4) (by omega) (by omega) (by omega) (by first | exact(hA (by omega)).1 | exact(hA (by omega)).2.1 | exact(hB (by omega)).1 | exact(hB (by omega)).2.1) (by first | exact(hA (by omega)).2.2.1.1 | exact(hA (by omega)).2.2.1.2 | exact(hB (by omega)).2.2.1.1 | exact(hB (by omega)).2.2.1.2))]) [] [4,5] [10] hcx (by kernel_rfl)
theorem aPs (nr:Nat)(a0:Int)(a1:Int)(a2:List Int×bF)(a3:Int)(a4:List (Int×Int×Bool))(l2_1:a2.1.length<=2^63-1)(l2_2:a2.2.length<=2^63-1)(l4:a4.length<=2^63-1)(hp:PVB a0 a1 a2 a4)(hlt:((a2.2.length - tN a0)+(a2.2.length - tN a1)) < nr+1)(ihr:∀(a0:Int)(a1:Int)(a2:List Int×bF)(a3:Int)(a4:List (Int×Int×Bool))(l2_1:a2.1.length<=2^63-1)(l2_2:a2.2.length<=2^63-1)(l4:a4.length<=2^63-1)(hp:PVB a0 a1 a2 a4),((a2.2.length - tN a0)+(a2.2.length - tN a1)) < nr->Con Tryz.prog 51 [(iv a0),(iv a1),(.p 0 0),(.p 3 0),(.p 4 0),(.p 6 0)] [(.live false false [(.s 1 0 a2.1.length 1),(.s 2 0 a2.2.length 8)]),(.live false true (flat c3 a2.1)),(.live false true (flat cB a2.2)),(.live false false [(iv a3)]),(.live true false [(.s 5 0 a4.length 3)]),(.live true true (flat fC a4)),(.live false false [(.f 51 [(.p 0 0),(.p 3 0),(.p 4 0),(.p 6 0)])])] (.t []) [(.live true true (flat fC (jA nr a0 a1 a2 a3 a4)))] [.un,.un,.un,.un,(.live true false [(.s 7 0 (jA nr a0 a1 a2 a3 a4).length 3)]),.dead,.un]) {cx:Cx} (hcx:cx.base=7)(v1:Bool):True->Aw.Good Tryz.prog none 9 (bodyPost Tryz.prog Tryz.f51 (RR cx (.t []) [(.live true true (flat fC (iR (jA nr) a0 a1 a2 a3 a4 v1)))] [.un,.un,.un,.un,(.live true false [(.s 7 0 (iR (jA nr) a0 a1 a2 a3 a4 v1).length 3)]),.dead,.un])) cx [] (.c aJ0::aJ1) (aFs nr a0 a1 a2 a3 a4 v1):=by
 intro hi
 have hpb:=uV hp
 have hp1:=hp.e0
 have hp2:=hp.e1
 have hp3:=hp.e2
 rcases vP v1 with h0 | h0
 ·skip
  have e:iR (jA nr) a0 a1 a2 a3 a4 v1=(pB (jA nr) a0 a1 a2 a3 a4 v1):=by simp only [iR,h0,aT]
  rw [e]
  refine ga [.d h0,.z 6] [] [0,1,4,11] [] hcx aJw (aJx) (aFq nr a0 a1 a2 a3 a4 v1) (by kernel_rfl) ?_
  exact aPq nr a0 a1 a2 a3 a4 l2_1 l2_2 l4 hp hlt ihr hcx v1 trivial
 ·skip
  let t1:List (St Tryz.prog):=[.d h0]
  cases h1:(decide (((a2.2.getD (tN a0) dF).2.2.1:Int) < 0)) with
  | true =>
   have q1:=cJ h1
   let t2:List (St Tryz.prog):=(t1++[.d h1])
   cases h2:(decide (((a2.2.getD (tN a1) dF).2.2.1:Int) < 0)) with
   | true =>
    have q2:=cJ h2
    have e:iR (jA nr) a0 a1 a2 a3 a4 v1=(pB (jA nr) a0 a1 a2 a3 a4 v1):=by simp only [iR,h0,h1,h2,aT]
    rw [e]
    refine ga (t2++[.d h2,.z 6]) [] [0,1,4,11] [] hcx aJw (aJx) (aFq nr a0 a1 a2 a3 a4 v1) (by kernel_rfl) ?_
    exact aPq nr a0 a1 a2 a3 a4 l2_1 l2_2 l4 hp hlt ihr hcx v1 trivial
   | false =>
    have q2:=cN h2
    have e:=Eq.refl (iR (jA nr) a0 a1 a2 a3 a4 v1);conv at e=>rhs;simp only [iR,h0,h1,h2,aT]
    rw [e]
    refine ga (t2++[.d h2,.z 7]) [] [0,1,5,8,9] [7,8] hcx aJy (aJz) (aFr nr a0 a1 a2 a3 a4) (by kernel_rfl) ?_
    exact aPr nr a0 a1 a2 a3 a4 l2_1 l2_2 l4 hp hlt ihr hcx (by omega)
  | false =>
   have q1:=cN h1
   have e:=Eq.refl (iR (jA nr) a0 a1 a2 a3 a4 v1);conv at e=>rhs;simp only [iR,h0,h1,aT]
   rw [e]
   refine ga (t1++[.d h1,.z 7]) [] [0,1,5,8,9] [7,8] hcx aJy (aJz) (aFr nr a0 a1 a2 a3 a4) (by kernel_rfl) ?_
   exact aPr nr a0 a1 a2 a3 a4 l2_1 l2_2 l4 hp hlt ihr hcx (by omega)
theorem aXi:∀(nr:Nat) (a0:Int) (a1:Int) (a2:List Int×bF) (a3:Int) (a4:List (Int×Int×Bool)) (l2_1:a2.1.length<=2^63-1) (l2_2:a2.2.length<=2^63-1) (l4:a4.length<=2^63-1) (hp:PVB a0 a1 a2 a4),((a2.2.length - tN a0)+(a2.2.length - tN a1)) < nr->Con Tryz.prog 51 [(iv a0),(iv a1),(.p 0 0),(.p 3 0),(.p 4 0),(.p 6 0)] [(.live false false [(.s 1 0 a2.1.length 1),(.s 2 0 a2.2.length 8)]),(.live false true (flat c3 a2.1)),(.live false true (flat cB a2.2)),(.live false false [(iv a3)]),(.live true false [(.s 5 0 a4.length 3)]),(.live true true (flat fC a4)),(.live false false [(.f 51 [(.p 0 0),(.p 3 0),(.p 4 0),(.p 6 0)])])] (.t []) [(.live true true (flat fC (jA nr a0 a1 a2 a3 a4)))] [.un,.un,.un,.un,(.live true false [(.s 7 0 (jA nr a0 a1 a2 a3 a4).length 3)]),.dead,.un]:=by
 intro nr
 induction nr with
 | zero=>intro a0 a1 a2 a3 a4 l2_1 l2_2 l4 hp hlt;exact absurd hlt (eI _)
 | succ nr ihr =>
 intro a0 a1 a2 a3 a4 l2_1 l2_2 l4 hp hlt
 refine aY Tryz.func51 (by kernel_rfl) fun cx hcx=>?_
 have hpb:=uV hp
 have hp1:=hp.e0
 have hp2:=hp.e1
 have hp3:=hp.e2
 let t0:List (St Tryz.prog):=[.i a0 (a2.2.length),.L bU a2.2 a0 0 8,.i a1 (a2.2.length),.L bU a2.2 a1 0 8,.c [] (C53 (a2.2.getD (tN a0) dF).2.2.2.2.1 (a2.2.getD (tN a1) dF).2.2.2.2.1),.c [] (C52 (tP a0 a1 a2 a3 a4))]
 cases h0:(decide (((F52 (tP a0 a1 a2 a3 a4)):Int) > 0)) with
 | true =>
  have q0:=cJ h0
  have e:=Eq.refl (jA (nr+1) a0 a1 a2 a3 a4);conv at e=>rhs;simp only [jA,h0,aT]
  rw [e]
  refine ga (t0++[.d h0,.z 5]) [] [0,1,4,5,8,9,11] [7,8] hcx aJ0 (aJ1) (aFs nr a0 a1 a2 a3 a4 (decide (((W ((W ((W ((W ((a2.2.getD (tN a0) dF).2.2.2.2.2+(a2.2.getD (tN a1) dF).2.2.2.2.2))*4))*a3))*a3)):Int)<=(F52 (tP a0 a1 a2 a3 a4))))) (by kernel_rfl) ?_
  exact aPs nr a0 a1 a2 a3 a4 l2_1 l2_2 l4 hp hlt ihr hcx (decide (((W ((W ((W ((W ((a2.2.getD (tN a0) dF).2.2.2.2.2+(a2.2.getD (tN a1) dF).2.2.2.2.2))*4))*a3))*a3)):Int)<=(F52 (tP a0 a1 a2 a3 a4)))) trivial
 | false =>
  have q0:=cN h0
  have e:=Eq.refl (jA (nr+1) a0 a1 a2 a3 a4);conv at e=>rhs;simp only [jA,h0,aT]
  rw [e]
  refine ga (t0++[.d h0,.z 5]) [] [0,1,4,5,8,9,11] [7,8] hcx aJ0 (aJ1) (aFs nr a0 a1 a2 a3 a4 false) (by kernel_rfl) ?_
  exact aPs nr a0 a1 a2 a3 a4 l2_1 l2_2 l4 hp hlt ihr hcx false trivial
theorem C51 (a0:Int)(a1:Int)(a2:List Int×bF)(a3:Int)(a4:List (Int×Int×Bool))(l2_1:a2.1.length<=2^63-1)(l2_2:a2.2.length<=2^63-1)(l4:a4.length<=2^63-1)(hp:PVB a0 a1 a2 a4):Con Tryz.prog 51 [(iv a0),(iv a1),(.p 0 0),(.p 3 0),(.p 4 0),(.p 6 0)] [(.live false false [(.s 1 0 a2.1.length 1),(.s 2 0 a2.2.length 8)]),(.live false true (flat c3 a2.1)),(.live false true (flat cB a2.2)),(.live false false [(iv a3)]),(.live true false [(.s 5 0 a4.length 3)]),(.live true true (flat fC a4)),(.live false false [(.f 51 [(.p 0 0),(.p 3 0),(.p 4 0),(.p 6 0)])])] (.t []) [(.live true true (flat fC (F51 a0 a1 a2 a3 a4)))] [.un,.un,.un,.un,(.live true false [(.s 7 0 (F51 a0 a1 a2 a3 a4).length 3)]),.dead,.un]:=aXi (((a2.2.length - tN a0)+(a2.2.length - tN a1))+1) a0 a1 a2 a3 a4 l2_1 l2_2 l4 hp (lss _)
end Go.Proofs.YtkdfcbmcgnaicaaGreat
namespace Go.Proofs.YtkdfcbmcgnaicaaGreat
open Go.Proofs Go.Aw Go.RowKit
set_option maxRecDepth 100000
noncomputable def aPt:Code:=(cC [1,1,1,1,0,1,0] [] (aL Tryz.f33)).1
noncomputable def aPu:List K:=(cC [1,1,1,1,0,1,0] [] (aL Tryz.f33)).2
def aLz (a0:List Int×bF)(a1:Int)(v1c:List SV)(v1n:Nat):LS:=⟨gD 15 [(5,(.p 2 0)),(6,(.p 3 0))],[(.live false true (flat c3 a0.1)),(.live false true (flat cB a0.2)),(.live true false [(.s 4 0 v1n 3)]),(.live true false [(.f 51 [(.p 5 0),(.p 6 0),(.p 2 0),(.p 3 0)])]),(.live true true v1c),(.live true false [(.s 0 0 a0.1.length 1),(.s 1 0 a0.2.length 8)]),(.live true false [(iv a1)])]⟩
def xX (a0:List Int×bF)(a1:Int):List (Int×Int×Bool)->List (Int×Int×Bool)
 | v1 =>
  (F51 0 0 (a0.1,a0.2) a1 v1)
theorem aUm (a0:List Int×bF)(a1:Int)(l0_1:a0.1.length<=2^63-1)(l0_2:a0.2.length<=2^63-1)(hp:0 < a0.2.length->PVB 0 0 a0 []) {cx:Cx} (hcx:cx.base=2)(v1:List (Int×Int×Bool)):PVB 0 0 a0 v1->Aw.Good Tryz.prog none 9 (bodyPost Tryz.prog Tryz.f33 (RR cx (.s 2 0 (xX a0 a1 v1).length 3) [(.live true true (flat fC (xX a0 a1 v1)))] [])) cx [] (.c aPt::aPu) (aLz a0 a1 (flat fC v1) v1.length):=by
 intro hi
 have hb:=uV hi
 have e:=Eq.refl (xX a0 a1 v1);conv at e=>rhs;simp only [xX]
 rw [e]
 exact rt [.c [5,0,1,6,2,4,3] (C51 0 0 (a0.1,a0.2) a1 v1 (by omega) (by omega) (by omega) hi)] [] [7] hcx (by kernel_rfl)
def F33 (a0:List Int×bF)(a1:Int):List (Int×Int×Bool) :=
 (bif (decide (((a0.2.length:Int):Int) > 0)) then
  (xX a0 a1 ([]:List (Int×Int×Bool)))
 else
  ([]:List (Int×Int×Bool)))
theorem C33 (a0:List Int×bF)(a1:Int)(l0_1:a0.1.length<=2^63-1)(l0_2:a0.2.length<=2^63-1)(hp:0 < a0.2.length->PVB 0 0 a0 []):Con Tryz.prog 33 [(.a [(.s 0 0 a0.1.length 1),(.s 1 0 a0.2.length 8)]),(iv a1)] [(.live false true (flat c3 a0.1)),(.live false true (flat cB a0.2))] (.s 2 0 (F33 a0 a1).length 3) [(.live true true (flat fC (F33 a0 a1)))]:=by
 refine aY Tryz.func33 (by kernel_rfl) fun cx hcx=>?_
 cases h0:(decide (((a0.2.length:Int):Int) > 0)) with
 | true =>
  have q0:=cJ h0
  have e:=Eq.refl (F33 a0 a1);conv at e=>rhs;simp only [F33,h0,aT]
  rw [e]
  refine ga [.d h0,.z 5] [.cell 4 0 3] [5,6] [4,5,6,2,3] hcx aPt (aPu) (aLz a0 a1 (flat fC ([]:List (Int×Int×Bool))) 0) (by kernel_rfl) ?_
  exact aUm a0 a1 l0_1 l0_2 hp hcx ([]:List (Int×Int×Bool)) (hp (by omega))
 | false =>
  have q0:=cN h0
  have e:=Eq.refl (F33 a0 a1);conv at e=>rhs;simp only [F33,h0,aT]
  rw [e]
  exact rt [.d h0] [.slot 4 3] [6] hcx (by kernel_rfl)
noncomputable def xY:Code:=(aM [1,1,0,1] [] (aL Tryz.f41) []).1
noncomputable def xZ:List K:=(aM [1,1,0,1] [] (aL Tryz.f41) []).2
def uW (a0:List (Int×Int×Bool))(a1:List (Int×Int×Bool))(v1:Int):LS:=⟨gD 26 [(0,(.s 0 0 a0.length 3)),(1,(.s 1 0 a1.length 3)),(5,(iv v1))],[(.live false true (flat fC a0)),(.live false true (flat fC a1))]⟩
def jB (a0:List (Int×Int×Bool))(a1:List (Int×Int×Bool)):Int->(Int)⊕(Bool)
 | v1 =>
  (bif (decide ((v1:Int) < (a0.length:Int))) then
   (bif (!((((a0.getD (tN v1) dF).1:Int) == (a1.getD (tN v1) dF).1)&&((((a0.getD (tN v1) dF).2.1:Int) == (a1.getD (tN v1) dF).2.1)&&(((a0.getD (tN v1) dF).2.2 == (a1.getD (tN v1) dF).2.2)&&true)))) then
    (.inr false)
   else
    (.inl (v1+1)))
  else
   (.inr true))
theorem aM8 (a0:List (Int×Int×Bool))(a1:List (Int×Int×Bool))(l0:a0.length<=2^63-1)(l1:a1.length<=2^63-1) {cx:Cx} (hcx:cx.base=2):∀(n:Nat) (v1:Int),(0<=v1)/\(a0.length=a1.length)->tN ((a0.length:Int) - v1) < n->Aw.Good Tryz.prog none 9 (bodyPost Tryz.prog Tryz.f41 (RR cx (.v (.bool (aH (jB a0 a1) n v1))) [] [])) cx [] (.l xY n::xZ) (uW a0 a1 v1):=by
 intro n
 induction n with
 | zero=>intro v1 hi hn;exact absurd hn (eI _)
 | succ n ih =>
  intro v1 hi hn
  refine aR ?_
  cases h0:(decide ((v1:Int) < (a0.length:Int))) with
  | true =>
   have q0:=cJ h0
   let t1:List (St Tryz.prog):=[.d h0,.i v1 (a0.length),.L eF a0 v1 0 3,.i v1 (a1.length),.L eF a1 v1 0 3]
   cases h1:(!((((a0.getD (tN v1) dF).1:Int) == (a1.getD (tN v1) dF).1)&&((((a0.getD (tN v1) dF).2.1:Int) == (a1.getD (tN v1) dF).2.1)&&(((a0.getD (tN v1) dF).2.2 == (a1.getD (tN v1) dF).2.2)&&true)))) with
   | true =>
    have e:=Eq.refl (jB a0 a1 v1);conv at e=>rhs;simp only [jB,h0,h1,aT]
    rw [aJ,e]
    exact rt (t1++[.d h1]) [] [] hcx (by kernel_rfl)
   | false =>
    have e:=Eq.refl (jB a0 a1 v1);conv at e=>rhs;simp only [jB,h0,h1,aT]
    rw [aI e]
    refine ba (t1++[.d h1]) [] [0,1,5] [] hcx (m:=n) xY (xZ) (uW a0 a1 (W (v1+1))) (by kernel_rfl) ?_
    have z0:(W (v1+1))=(v1+1):=aS (by omega) (by omega)
    rw [z0]
    exact ih (v1+1) (by refine⟨?_,?_⟩<;>(try simp only [Ls])<;>first | omega | assumption | simp) (by omega)
  | false =>
   have q0:=cN h0
   have e:=Eq.refl (jB a0 a1 v1);conv at e=>rhs;simp only [jB,h0,aT]
   rw [aJ,e]
   exact rt [.d h0] [] [] hcx (by kernel_rfl)
def jR (a0:List (Int×Int×Bool))(a1:List (Int×Int×Bool)):Bool :=
 (bif (((a0.length:Int):Int) != (a1.length:Int)) then
  false
 else
  (aH (jB a0 a1) (tN ((a0.length:Int) - 0)+1) 0))
theorem aR4 (a0:List (Int×Int×Bool))(a1:List (Int×Int×Bool))(l0:a0.length<=2^63-1)(l1:a1.length<=2^63-1):Con Tryz.prog 41 [(.s 0 0 a0.length 3),(.s 1 0 a1.length 3)] [(.live false true (flat fC a0)),(.live false true (flat fC a1))] (.v (.bool (jR a0 a1))) []:=by
 refine aY Tryz.func41 (by kernel_rfl) fun cx hcx=>?_
 cases h0:(((a0.length:Int):Int) != (a1.length:Int)) with
 | true =>
  have q0:=bne_iff_ne.1 h0
  have e:=Eq.refl (jR a0 a1);conv at e=>rhs;simp only [jR,h0,aT]
  rw [e]
  exact rt [.d h0] [] [] hcx (by kernel_rfl)
 | false =>
  have q0:=bne_eq_false_iff_eq.1 h0
  have e:=Eq.refl (jR a0 a1);conv at e=>rhs;simp only [jR,h0,aT]
  rw [e]
  refine en [.d h0] [] [0,1,5] [] hcx xY (xZ) (uW a0 a1 0) (tN ((a0.length:Int) - 0)+1) (by kernel_rfl) ?_
  exact aM8 a0 a1 l0 l1 hcx (tN ((a0.length:Int) - 0)+1) 0 (by refine⟨?_,?_⟩<;>(try simp only [Ls])<;>first | omega | assumption | simp) (by omega)
def F82 (a0:Int×Int×Int×Int×Zt×Int)(a1:Int×Int×Int×Int×Zt×Int):Int :=
 (gB (fS a0.2.2.2.2.1 a1.2.2.2.2.1))
theorem C82 (a0:Int×Int×Int×Int×Zt×Int)(a1:Int×Int×Int×Int×Zt×Int):Con Tryz.prog 82 [(.a [(iv a0.1),(iv a0.2.1),(iv a0.2.2.1),(iv a0.2.2.2.1),(iv a0.2.2.2.2.1.1),(iv a0.2.2.2.2.1.2.1),(iv a0.2.2.2.2.1.2.2),(iv a0.2.2.2.2.2)]),(.a [(iv a1.1),(iv a1.2.1),(iv a1.2.2.1),(iv a1.2.2.2.1),(iv a1.2.2.2.2.1.1),(iv a1.2.2.2.2.1.2.1),(iv a1.2.2.2.2.1.2.2),(iv a1.2.2.2.2.2)])] [] (iv (F82 a0 a1)) []:=by
 refine aY Tryz.func82 (by kernel_rfl) fun cx hcx=>?_
 have e:=Eq.refl (F82 a0 a1);conv at e=>rhs;simp only [F82]
 rw [e]
 exact rt [.c [] (aRe a0.2.2.2.2.1 a1.2.2.2.2.1),.c [] (aRd (fS a0.2.2.2.2.1 a1.2.2.2.2.1))] [] [] hcx (by kernel_rfl)
def zG (a0:List Int×bF)(a1:Int)(a2:Int)(a3:Int):=(F82 (a0.2.getD (tN a1) dF) (a0.2.getD (tN a2) dF))
def fO (rr:(List Int×bF)->(Int)->(Int)->(Int)->List (Int×Int×Bool))(a0:List Int×bF)(a1:Int)(a2:Int)(a3:Int):=(rr (a0.1,a0.2) (a0.2.getD (tN a1) dF).2.2.1 a2 a3)
def eY (rr:(List Int×bF)->(Int)->(Int)->(Int)->List (Int×Int×Bool))(a0:List Int×bF)(a1:Int)(a2:Int)(a3:Int):=(rr (a0.1,a0.2) (a0.2.getD (tN a1) dF).2.2.2.1 a2 a3)
def dS (rr:(List Int×bF)->(Int)->(Int)->(Int)->List (Int×Int×Bool))(a0:List Int×bF)(a1:Int)(a2:Int)(a3:Int):=(rr (a0.1,a0.2) a1 (a0.2.getD (tN a2) dF).2.2.1 a3)
def dK (rr:(List Int×bF)->(Int)->(Int)->(Int)->List (Int×Int×Bool))(a0:List Int×bF)(a1:Int)(a2:Int)(a3:Int):=(rr (a0.1,a0.2) a1 (a0.2.getD (tN a2) dF).2.2.2.1 a3)
noncomputable def aJ2:Code:=(cC [1,1,1,1,0,0] [] (aL Tryz.f63)).1
noncomputable def aJ3:List K:=(cC [1,1,1,1,0,0] [] (aL Tryz.f63)).2
def aFt (nr:Nat)(a0:List Int×bF)(a1:Int)(a2:Int)(a3:Int):LS:=⟨gD 104 [(1,(iv a1)),(2,(iv a2)),(3,(iv a3)),(4,(.p 2 0)),(9,(.p 3 0)),(10,(.p 4 0))],[(.live false true (flat c3 a0.1)),(.live false true (flat cB a0.2)),(.live true false [(.s 0 0 a0.1.length 1),(.s 1 0 a0.2.length 8)]),(.live true false [(iv (a0.2.getD (tN a1) dF).1),(iv (a0.2.getD (tN a1) dF).2.1),(iv (a0.2.getD (tN a1) dF).2.2.1),(iv (a0.2.getD (tN a1) dF).2.2.2.1),(iv (a0.2.getD (tN a1) dF).2.2.2.2.1.1),(iv (a0.2.getD (tN a1) dF).2.2.2.2.1.2.1),(iv (a0.2.getD (tN a1) dF).2.2.2.2.1.2.2),(iv (a0.2.getD (tN a1) dF).2.2.2.2.2)]),(.live true false [(iv (a0.2.getD (tN a2) dF).1),(iv (a0.2.getD (tN a2) dF).2.1),(iv (a0.2.getD (tN a2) dF).2.2.1),(iv (a0.2.getD (tN a2) dF).2.2.2.1),(iv (a0.2.getD (tN a2) dF).2.2.2.2.1.1),(iv (a0.2.getD (tN a2) dF).2.2.2.2.1.2.1),(iv (a0.2.getD (tN a2) dF).2.2.2.2.1.2.2),(iv (a0.2.getD (tN a2) dF).2.2.2.2.2)])]⟩
def fA (rr:(List Int×bF)->(Int)->(Int)->(Int)->List (Int×Int×Bool))(a0:List Int×bF)(a1:Int)(a2:Int)(a3:Int):Unit->List (Int×Int×Bool)
 | () =>
  (bif (decide (((a0.2.getD (tN a1) dF).2.2.1:Int) < 0)) then
   (bif (decide (((a0.2.getD (tN a2) dF).2.2.1:Int) < 0)) then
    ([(a1,a2,false)]:List (Int×Int×Bool))
   else
    (bif (decide (((a0.2.getD (tN a1) dF).2.2.1:Int)≥0)) then
     (bif (decide (((W ((a0.2.getD (tN a1) dF).2.1 - (a0.2.getD (tN a1) dF).1)):Int)≥(W ((a0.2.getD (tN a2) dF).2.1 - (a0.2.getD (tN a2) dF).1)))) then
      ((fO (rr) a0 a1 a2 a3)++(eY (rr) a0 a1 a2 a3))
     else
      ((dS (rr) a0 a1 a2 a3)++(dK (rr) a0 a1 a2 a3)))
    else
     ((dS (rr) a0 a1 a2 a3)++(dK (rr) a0 a1 a2 a3))))
  else
   (bif (decide (((a0.2.getD (tN a2) dF).2.2.1:Int) < 0)) then
    ((fO (rr) a0 a1 a2 a3)++(eY (rr) a0 a1 a2 a3))
   else
    (bif (decide (((a0.2.getD (tN a1) dF).2.2.1:Int)≥0)) then
     (bif (decide (((W ((a0.2.getD (tN a1) dF).2.1 - (a0.2.getD (tN a1) dF).1)):Int)≥(W ((a0.2.getD (tN a2) dF).2.1 - (a0.2.getD (tN a2) dF).1)))) then
      ((fO (rr) a0 a1 a2 a3)++(eY (rr) a0 a1 a2 a3))
     else
      ((dS (rr) a0 a1 a2 a3)++(dK (rr) a0 a1 a2 a3)))
    else
     ((dS (rr) a0 a1 a2 a3)++(dK (rr) a0 a1 a2 a3)))))
def cF:Nat->(List Int×bF)->(Int)->(Int)->(Int)->List (Int×Int×Bool)
 | 0,_,_,_,_=>dF
 | nr+1,a0,a1,a2,a3 =>
 (bif (decide (((W ((W ((W ((W ((a0.2.getD (tN a1) dF).2.2.2.2.2+(a0.2.getD (tN a2) dF).2.2.2.2.2))*4))*a3))*a3)):Int)<=(zG a0 a1 a2 a3))) then
  (bif (decide (((zG a0 a1 a2 a3):Int) > 0)) then
   ([(a1,a2,true)]:List (Int×Int×Bool))
  else
   (fA (cF nr) a0 a1 a2 a3 ()))
 else
  (fA (cF nr) a0 a1 a2 a3 ()))
def F63 (a0:List Int×bF)(a1:Int)(a2:Int)(a3:Int):List (Int×Int×Bool):=cF (((a0.2.length - tN a1)+(a0.2.length - tN a2))+1) a0 a1 a2 a3
theorem mV:∀(nr:Nat) (t:TR) (i k sep:Int) (m:Nat) (f u h:Int) (m':Nat) (f' u' h':Int),TRE t.2 (tN i) m f u h->TRE t.2 (tN k) m' f' u' h'->0<=i->0<=k->(t.2.length - tN i)+(t.2.length - tN k) < nr ->
 ((cF nr t i k sep).length:Int)<=(u - f)*(u' - f')
 | 0,_,_,_,_,_,_,_,_,_,_,_,_,_,_,_,_,h=>absurd h (eI _)
 | nr+1,t,i,k,sep,m,f,u,h,m',f',u',h',H,K,hi,hk,hn=>by
  have hb:=cG H
  have kb:=cG K
  have hm:=kQ (a:=u - f) (b:=u' - f') (by omega) (by omega)
  have hs:∀b:Bool,(([(i,k,b)]:List BLK).length:Int)<=(u - f)*(u' - f'):=fun b=>by rw [List.length_singleton];omega
  have hA:¬(t.2.getD (tN i) dF).2.2.1 < 0->((fO (cF nr) t i k sep++eY (cF nr) t i k sep).length:Int)<=(u - f)*(u' - f'):=by
   intro hq
   rcases iF H with⟨_,_,h5,_⟩ | ⟨m1,m2,c,h1,h2,e8,g4,g5,b1,b2,e9⟩
   ·omega
   ·have l1:=cG b1
    have l2:=cG b2
    have c1:((fO (cF nr) t i k sep).length:Int)<=(c - f)*(u' - f'):=mV nr t (t.2.getD (tN i) dF).2.2.1 k sep m1 f c h1 m' f' u' h' (by rw [g4,fZ];exact b1) K (by omega) hk (by omega)
    have c2:((eY (cF nr) t i k sep).length:Int)<=(u - c)*(u' - f'):=mV nr t (t.2.getD (tN i) dF).2.2.2.1 k sep m2 c u h2 m' f' u' h' (by rw [g5,fZ];exact b2) K (by omega) hk (by omega)
    have c3:=zY f u c (u' - f')
    rw [List.length_append]
    omega
  have hB:¬(t.2.getD (tN k) dF).2.2.1 < 0->((dS (cF nr) t i k sep++dK (cF nr) t i k sep).length:Int)<=(u - f)*(u' - f'):=by
   intro hq
   rcases iF K with⟨_,_,h5,_⟩ | ⟨m1,m2,c,h1,h2,e8,g4,g5,b1,b2,e9⟩
   ·omega
   ·have l1:=cG b1
    have l2:=cG b2
    have c1:((dS (cF nr) t i k sep).length:Int)<=(u - f)*(c - f'):=mV nr t i (t.2.getD (tN k) dF).2.2.1 sep m f u h m1 f' c h1 H (by rw [g4,fZ];exact b1) hi (by omega) (by omega)
    have c2:((dK (cF nr) t i k sep).length:Int)<=(u - f)*(u' - c):=mV nr t i (t.2.getD (tN k) dF).2.2.2.1 sep m f u h m2 c u' h2 H (by rw [g5,fZ];exact b2) hi (by omega) (by omega)
    have c3:=wE f' u' c (u - f)
    rw [List.length_append]
    omega
  have hJ:((fA (cF nr) t i k sep ()).length:Int)<=(u - f)*(u' - f'):=by
   simp only [fA]
   by_cases z1:(t.2.getD (tN i) dF).2.2.1 < 0<;>by_cases z2:(t.2.getD (tN k) dF).2.2.1 < 0
   ·rw [cH z1,cH z2,cond_true,cond_true];exact hs false
   ·rw [cH z1,dA z2,cond_true,cond_false,dA (show ¬(t.2.getD (tN i) dF).2.2.1≥0 by omega),cond_false];exact hB z2
   ·rw [dA z1,cH z2,cond_false,cond_true];exact hA z1
   ·rw [dA z1,dA z2,cond_false,cond_false,cH (show(t.2.getD (tN i) dF).2.2.1≥0 by omega),cond_true,Bool.cond_eq_ite]
    split
    ·exact hA z1
    ·exact hB z2
  simp only [cF]
  rw [Bool.cond_eq_ite]
  split
  ·rw [Bool.cond_eq_ite]
   split
   ·exact hs true
   ·exact hJ
  ·exact hJ
theorem aWq {nr:Nat} {i k:Int} {t:TR} (sep:Int)(h:PVB i k t [])(hlt:(t.2.length - tN i)+(t.2.length - tN k) < nr+1)(hq:¬(t.2.getD (tN i) dF).2.2.1 < 0) :
 (PVB (t.2.getD (tN i) dF).2.2.1 k t []/\PVB (t.2.getD (tN i) dF).2.2.2.1 k t []) /\
 ((t.2.length - tN (t.2.getD (tN i) dF).2.2.1)+(t.2.length - tN k) < nr/\(t.2.length - tN (t.2.getD (tN i) dF).2.2.2.1)+(t.2.length - tN k) < nr)/\(fO (cF nr) t i k sep).length<=1048576/\(eY (cF nr) t i k sep).length<=1048576:=by
 obtain⟨e0,e1,e2,m,f,u,hh,m',f',u',hh',H,K,e5⟩:=h
 have hb:=cG H
 have kb:=cG K
 rcases iF H with⟨_,_,h5,_⟩ | ⟨m1,m2,c,h1,h2,e8,g4,g5,b1,b2,e9⟩
 ·omega
 ·have l1:=cG b1
  have l2:=cG b2
  have p1:=kQ (a:=c - f) (b:=u' - f') (by omega) (by omega)
  have p2:=kQ (a:=u - c) (b:=u' - f') (by omega) (by omega)
  have c3:=zY f u c (u' - f')
  have t1:TRE t.2 (tN (t.2.getD (tN i) dF).2.2.1) m1 f c h1:=by rw [g4,fZ];exact b1
  have t2:TRE t.2 (tN (t.2.getD (tN i) dF).2.2.2.1) m2 c u h2:=by rw [g5,fZ];exact b2
  have c1:((fO (cF nr) t i k sep).length:Int)<=(c - f)*(u' - f'):=mV nr t (t.2.getD (tN i) dF).2.2.1 k sep m1 f c h1 m' f' u' hh' t1 K (by omega) e1 (by omega)
  have c2:((eY (cF nr) t i k sep).length:Int)<=(u - c)*(u' - f'):=mV nr t (t.2.getD (tN i) dF).2.2.2.1 k sep m2 c u h2 m' f' u' hh' t2 K (by omega) e1 (by omega)
  simp only [List.length_nil] at e5
  exact⟨⟨⟨by omega,e1,e2,m1,f,c,h1,m',f',u',hh',t1,K,by simp only [List.length_nil];omega⟩,⟨by omega,e1,e2,m2,c,u,h2,m',f',u',hh',t2,K,by simp only [List.length_nil];omega⟩⟩,⟨by omega,by omega⟩,by omega,by omega⟩
theorem aWr {nr:Nat} {i k:Int} {t:TR} (sep:Int)(h:PVB i k t [])(hlt:(t.2.length - tN i)+(t.2.length - tN k) < nr+1)(hq:¬(t.2.getD (tN k) dF).2.2.1 < 0) :
 (PVB i (t.2.getD (tN k) dF).2.2.1 t []/\PVB i (t.2.getD (tN k) dF).2.2.2.1 t []) /\
 ((t.2.length - tN i)+(t.2.length - tN (t.2.getD (tN k) dF).2.2.1) < nr/\(t.2.length - tN i)+(t.2.length - tN (t.2.getD (tN k) dF).2.2.2.1) < nr)/\(dS (cF nr) t i k sep).length<=1048576/\(dK (cF nr) t i k sep).length<=1048576:=by
 obtain⟨e0,e1,e2,m,f,u,hh,m',f',u',hh',H,K,e5⟩:=h
 have hb:=cG H
 have kb:=cG K
 rcases iF K with⟨_,_,h5,_⟩ | ⟨m1,m2,c,h1,h2,e8,g4,g5,b1,b2,e9⟩
 ·omega
 ·have l1:=cG b1
  have l2:=cG b2
  have p1:=kQ (a:=u - f) (b:=c - f') (by omega) (by omega)
  have p2:=kQ (a:=u - f) (b:=u' - c) (by omega) (by omega)
  have c3:=wE f' u' c (u - f)
  have t1:TRE t.2 (tN (t.2.getD (tN k) dF).2.2.1) m1 f' c h1:=by rw [g4,fZ];exact b1
  have t2:TRE t.2 (tN (t.2.getD (tN k) dF).2.2.2.1) m2 c u' h2:=by rw [g5,fZ];exact b2
  have c1:((dS (cF nr) t i k sep).length:Int)<=(u - f)*(c - f'):=mV nr t i (t.2.getD (tN k) dF).2.2.1 sep m f u hh m1 f' c h1 H t1 e0 (by omega) (by omega)
  have c2:((dK (cF nr) t i k sep).length:Int)<=(u - f)*(u' - c):=mV nr t i (t.2.getD (tN k) dF).2.2.2.1 sep m f u hh m2 c u' h2 H t2 e0 (by omega) (by omega)
  simp only [List.length_nil] at e5
  exact⟨⟨⟨e0,by omega,e2,m,f,u,hh,m1,f',c,h1,H,t1,by simp only [List.length_nil];omega⟩,⟨e0,by omega,e2,m,f,u,hh,m2,c,u',h2,H,t2,by simp only [List.length_nil];omega⟩⟩,⟨by omega,by omega⟩,by omega,by omega⟩
theorem aPv (nr:Nat)(a0:List Int×bF)(a1:Int)(a2:Int)(a3:Int)(l0_1:a0.1.length<=2^63-1)(l0_2:a0.2.length<=2^63-1)(hp:PVB a1 a2 a0 [])(hlt:((a0.2.length - tN a1)+(a0.2.length - tN a2)) < nr+1)(ihr:∀(a0:List Int×bF)(a1:Int)(a2:Int)(a3:Int)(l0_1:a0.1.length<=2^63-1)(l0_2:a0.2.length<=2^63-1)(hp:PVB a1 a2 a0 []),((a0.2.length - tN a1)+(a0.2.length - tN a2)) < nr->Con Tryz.prog 63 [(.a [(.s 0 0 a0.1.length 1),(.s 1 0 a0.2.length 8)]),(iv a1),(iv a2),(iv a3)] [(.live false true (flat c3 a0.1)),(.live false true (flat cB a0.2))] (.s 2 0 (cF nr a0 a1 a2 a3).length 3) [(.live true true (flat fC (cF nr a0 a1 a2 a3)))]) {cx:Cx} (hcx:cx.base=2):True->Aw.Good Tryz.prog none 9 (bodyPost Tryz.prog Tryz.f63 (RR cx (.s 2 0 (fA (cF nr) a0 a1 a2 a3 ()).length 3) [(.live true true (flat fC (fA (cF nr) a0 a1 a2 a3 ())))] [])) cx [] (.c aJ2::aJ3) (aFt nr a0 a1 a2 a3):=by
 intro hi
 have hpb:=uV hp
 have hp1:=hp.e0
 have hp2:=hp.e1
 have hp3:=hp.e2
 have hA:=aWq a3 hp hlt
 have hB:=aWr a3 hp hlt
 have hAl:=fun q=>(hA q).2.2
 have hBl:=fun q=>(hB q).2.2
 cases h0:(decide (((a0.2.getD (tN a1) dF).2.2.1:Int) < 0)) with
 | true =>
  have q0:=cJ h0
  let t1:List (St Tryz.prog):=[.d h0]
  cases h1:(decide (((a0.2.getD (tN a2) dF).2.2.1:Int) < 0)) with
  | true =>
   have q1:=cJ h1
   have e:=Eq.refl (fA (cF nr) a0 a1 a2 a3 ());conv at e=>rhs;simp only [fA,h0,h1,aT]
   rw [e]
   exact rt (t1++[.d h1]) [.sym 5 true] [5] hcx (by kernel_rfl)
  | false =>
   have q1:=cN h1
   let t2:List (St Tryz.prog):=(t1++[.d h1,.d h1])
   cases h2:(decide (((a0.2.getD (tN a1) dF).2.2.1:Int)≥0)) with
   | true =>
    have q2:=cJ h2
    let t3:List (St Tryz.prog):=(t2++[.d h2])
    cases h3:(decide (((W ((a0.2.getD (tN a1) dF).2.1 - (a0.2.getD (tN a1) dF).1)):Int)≥(W ((a0.2.getD (tN a2) dF).2.1 - (a0.2.getD (tN a2) dF).1)))) with
    | true =>
     have q3:=cJ h3
     have e:=Eq.refl (fA (cF nr) a0 a1 a2 a3 ());conv at e=>rhs;simp only [fA,h0,h1,h2,h3,aT]
     rw [e]
     rw [show flat fC ((fO (cF nr) a0 a1 a2 a3)++(eY (cF nr) a0 a1 a2 a3))=((flat fC (fO (cF nr) a0 a1 a2 a3))++(flat fC (eY (cF nr) a0 a1 a2 a3))) from Eq.symm (by simp [flat])]
     rw [show((fO (cF nr) a0 a1 a2 a3)++(eY (cF nr) a0 a1 a2 a3)).length=((fO (cF nr) a0 a1 a2 a3).length+(eY (cF nr) a0 a1 a2 a3).length) from by simp]
     exact rt (t3++[.d h3,.c [0,1] (ihr (a0.1,a0.2) (a0.2.getD (tN a1) dF).2.2.1 a2 a3 (by omega) (by omega) (by first | exact(hA (by omega)).1.1 | exact(hA (by omega)).1.2 | exact(hB (by omega)).1.1 | exact(hB (by omega)).1.2) (by first | exact(hA (by omega)).2.1.1 | exact(hA (by omega)).2.1.2 | exact(hB (by omega)).2.1.1 | exact(hB (by omega)).2.1.2)),.c [0,1] (ihr (a0.1,a0.2) (a0.2.getD (tN a1) dF).2.2.2.1 a2 a3 (by omega) (by omega) (by first | exact(hA (by omega)).1.1 | exact(hA (by omega)).1.2 | exact(hB (by omega)).1.1 | exact(hB (by omega)).1.2) (by first | exact(hA (by omega)).2.1.1 | exact(hA (by omega)).2.1.2 | exact(hB (by omega)).2.1.1 | exact(hB (by omega)).2.1.2)),.p (show((flat fC (fO (cF nr) a0 a1 a2 a3)).length=(fO (cF nr) a0 a1 a2 a3).length*3/\(flat fC (eY (cF nr) a0 a1 a2 a3)).length=(eY (cF nr) a0 a1 a2 a3).length*3/\(flat fC (eY (cF nr) a0 a1 a2 a3)).all SV.one=true/\(fO (cF nr) a0 a1 a2 a3).length+(eY (cF nr) a0 a1 a2 a3).length<=2 ^ 40/\((fO (cF nr) a0 a1 a2 a3).length+(eY (cF nr) a0 a1 a2 a3).length)*24<=2 ^ 47) from by refine⟨?_,?_,?_,?_,?_⟩<;>first | omega | exact iO (fun _=>rfl) | (simp [bW eF];done) | (simp [bW eF];omega))]) [] [7] hcx (by kernel_rfl)
    | false =>
     have q3:=cN h3
     have e:=Eq.refl (fA (cF nr) a0 a1 a2 a3 ());conv at e=>rhs;simp only [fA,h0,h1,h2,h3,aT]
     rw [e]
     rw [show flat fC ((dS (cF nr) a0 a1 a2 a3)++(dK (cF nr) a0 a1 a2 a3))=((flat fC (dS (cF nr) a0 a1 a2 a3))++(flat fC (dK (cF nr) a0 a1 a2 a3))) from Eq.symm (by simp [flat])]
     rw [show((dS (cF nr) a0 a1 a2 a3)++(dK (cF nr) a0 a1 a2 a3)).length=((dS (cF nr) a0 a1 a2 a3).length+(dK (cF nr) a0 a1 a2 a3).length) from by simp]
     exact rt (t3++[.d h3,.c [0,1] (ihr (a0.1,a0.2) a1 (a0.2.getD (tN a2) dF).2.2.1 a3 (by omega) (by omega) (by first | exact(hA (by omega)).1.1 | exact(hA (by omega)).1.2 | exact(hB (by omega)).1.1 | exact(hB (by omega)).1.2) (by first | exact(hA (by omega)).2.1.1 | exact(hA (by omega)).2.1.2 | exact(hB (by omega)).2.1.1 | exact(hB (by omega)).2.1.2)),.c [0,1] (ihr (a0.1,a0.2) a1 (a0.2.getD (tN a2) dF).2.2.2.1 a3 (by omega) (by omega) (by first | exact(hA (by omega)).1.1 | exact(hA (by omega)).1.2 | exact(hB (by omega)).1.1 | exact(hB (by omega)).1.2) (by first | exact(hA (by omega)).2.1.1 | exact(hA (by omega)).2.1.2 | exact(hB (by omega)).2.1.1 | exact(hB (by omega)).2.1.2)),.p (show((flat fC (dS (cF nr) a0 a1 a2 a3)).length=(dS (cF nr) a0 a1 a2 a3).length*3/\(flat fC (dK (cF nr) a0 a1 a2 a3)).length=(dK (cF nr) a0 a1 a2 a3).length*3/\(flat fC (dK (cF nr) a0 a1 a2 a3)).all SV.one=true/\(dS (cF nr) a0 a1 a2 a3).length+(dK (cF nr) a0 a1 a2 a3).length<=2 ^ 40/\((dS (cF nr) a0 a1 a2 a3).length+(dK (cF nr) a0 a1 a2 a3).length)*24<=2 ^ 47) from by refine⟨?_,?_,?_,?_,?_⟩<;>first | omega | exact iO (fun _=>rfl) | (simp [bW eF];done) | (simp [bW eF];omega))]) [] [7] hcx (by kernel_rfl)
   | false =>
    have q2:=cN h2
    have e:=Eq.refl (fA (cF nr) a0 a1 a2 a3 ());conv at e=>rhs;simp only [fA,h0,h1,h2,aT]
    rw [e]
    rw [show flat fC ((dS (cF nr) a0 a1 a2 a3)++(dK (cF nr) a0 a1 a2 a3))=((flat fC (dS (cF nr) a0 a1 a2 a3))++(flat fC (dK (cF nr) a0 a1 a2 a3))) from Eq.symm (by simp [flat])]
    rw [show((dS (cF nr) a0 a1 a2 a3)++(dK (cF nr) a0 a1 a2 a3)).length=((dS (cF nr) a0 a1 a2 a3).length+(dK (cF nr) a0 a1 a2 a3).length) from by simp]
    exact rt (t2++[.d h2,.c [0,1] (ihr (a0.1,a0.2) a1 (a0.2.getD (tN a2) dF).2.2.1 a3 (by omega) (by omega) (by first | exact(hA (by omega)).1.1 | exact(hA (by omega)).1.2 | exact(hB (by omega)).1.1 | exact(hB (by omega)).1.2) (by first | exact(hA (by omega)).2.1.1 | exact(hA (by omega)).2.1.2 | exact(hB (by omega)).2.1.1 | exact(hB (by omega)).2.1.2)),.c [0,1] (ihr (a0.1,a0.2) a1 (a0.2.getD (tN a2) dF).2.2.2.1 a3 (by omega) (by omega) (by first | exact(hA (by omega)).1.1 | exact(hA (by omega)).1.2 | exact(hB (by omega)).1.1 | exact(hB (by omega)).1.2) (by first | exact(hA (by omega)).2.1.1 | exact(hA (by omega)).2.1.2 | exact(hB (by omega)).2.1.1 | exact(hB (by omega)).2.1.2)),.p (show((flat fC (dS (cF nr) a0 a1 a2 a3)).length=(dS (cF nr) a0 a1 a2 a3).length*3/\(flat fC (dK (cF nr) a0 a1 a2 a3)).length=(dK (cF nr) a0 a1 a2 a3).length*3/\(flat fC (dK (cF nr) a0 a1 a2 a3)).all SV.one=true/\(dS (cF nr) a0 a1 a2 a3).length+(dK (cF nr) a0 a1 a2 a3).length<=2 ^ 40/\((dS (cF nr) a0 a1 a2 a3).length+(dK (cF nr) a0 a1 a2 a3).length)*24<=2 ^ 47) from by refine⟨?_,?_,?_,?_,?_⟩<;>first | omega | exact iO (fun _=>rfl) | (simp [bW eF];done) | (simp [bW eF];omega))]) [] [7] hcx (by kernel_rfl)
 | false =>
  have q0:=cN h0
  let t1:List (St Tryz.prog):=[.d h0]
  cases h1:(decide (((a0.2.getD (tN a2) dF).2.2.1:Int) < 0)) with
  | true =>
   have q1:=cJ h1
   have e:=Eq.refl (fA (cF nr) a0 a1 a2 a3 ());conv at e=>rhs;simp only [fA,h0,h1,aT]
   rw [e]
   rw [show flat fC ((fO (cF nr) a0 a1 a2 a3)++(eY (cF nr) a0 a1 a2 a3))=((flat fC (fO (cF nr) a0 a1 a2 a3))++(flat fC (eY (cF nr) a0 a1 a2 a3))) from Eq.symm (by simp [flat])]
   rw [show((fO (cF nr) a0 a1 a2 a3)++(eY (cF nr) a0 a1 a2 a3)).length=((fO (cF nr) a0 a1 a2 a3).length+(eY (cF nr) a0 a1 a2 a3).length) from by simp]
   exact rt (t1++[.d h1,.c [0,1] (ihr (a0.1,a0.2) (a0.2.getD (tN a1) dF).2.2.1 a2 a3 (by omega) (by omega) (by first | exact(hA (by omega)).1.1 | exact(hA (by omega)).1.2 | exact(hB (by omega)).1.1 | exact(hB (by omega)).1.2) (by first | exact(hA (by omega)).2.1.1 | exact(hA (by omega)).2.1.2 | exact(hB (by omega)).2.1.1 | exact(hB (by omega)).2.1.2)),.c [0,1] (ihr (a0.1,a0.2) (a0.2.getD (tN a1) dF).2.2.2.1 a2 a3 (by omega) (by omega) (by first | exact(hA (by omega)).1.1 | exact(hA (by omega)).1.2 | exact(hB (by omega)).1.1 | exact(hB (by omega)).1.2) (by first | exact(hA (by omega)).2.1.1 | exact(hA (by omega)).2.1.2 | exact(hB (by omega)).2.1.1 | exact(hB (by omega)).2.1.2)),.p (show((flat fC (fO (cF nr) a0 a1 a2 a3)).length=(fO (cF nr) a0 a1 a2 a3).length*3/\(flat fC (eY (cF nr) a0 a1 a2 a3)).length=(eY (cF nr) a0 a1 a2 a3).length*3/\(flat fC (eY (cF nr) a0 a1 a2 a3)).all SV.one=true/\(fO (cF nr) a0 a1 a2 a3).length+(eY (cF nr) a0 a1 a2 a3).length<=2 ^ 40/\((fO (cF nr) a0 a1 a2 a3).length+(eY (cF nr) a0 a1 a2 a3).length)*24<=2 ^ 47) from by refine⟨?_,?_,?_,?_,?_⟩<;>first | omega | exact iO (fun _=>rfl) | (simp [bW eF];done) | (simp [bW eF];omega))]) [] [7] hcx (by kernel_rfl)
  | false =>
   have q1:=cN h1
   let t2:List (St Tryz.prog):=(t1++[.d h1])
   cases h2:(decide (((a0.2.getD (tN a1) dF).2.2.1:Int)≥0)) with
   | true =>
    have q2:=cJ h2
    let t3:List (St Tryz.prog):=(t2++[.d h2])
    cases h3:(decide (((W ((a0.2.getD (tN a1) dF).2.1 - (a0.2.getD (tN a1) dF).1)):Int)≥(W ((a0.2.getD (tN a2) dF).2.1 - (a0.2.getD (tN a2) dF).1)))) with
    | true =>
     have q3:=cJ h3
     have e:=Eq.refl (fA (cF nr) a0 a1 a2 a3 ());conv at e=>rhs;simp only [fA,h0,h1,h2,h3,aT]
     rw [e]
     rw [show flat fC ((fO (cF nr) a0 a1 a2 a3)++(eY (cF nr) a0 a1 a2 a3))=((flat fC (fO (cF nr) a0 a1 a2 a3))++(flat fC (eY (cF nr) a0 a1 a2 a3))) from Eq.symm (by simp [flat])]
     rw [show((fO (cF nr) a0 a1 a2 a3)++(eY (cF nr) a0 a1 a2 a3)).length=((fO (cF nr) a0 a1 a2 a3).length+(eY (cF nr) a0 a1 a2 a3).length) from by simp]
     exact rt (t3++[.d h3,.c [0,1] (ihr (a0.1,a0.2) (a0.2.getD (tN a1) dF).2.2.1 a2 a3 (by omega) (by omega) (by first | exact(hA (by omega)).1.1 | exact(hA (by omega)).1.2 | exact(hB (by omega)).1.1 | exact(hB (by omega)).1.2) (by first | exact(hA (by omega)).2.1.1 | exact(hA (by omega)).2.1.2 | exact(hB (by omega)).2.1.1 | exact(hB (by omega)).2.1.2)),.c [0,1] (ihr (a0.1,a0.2) (a0.2.getD (tN a1) dF).2.2.2.1 a2 a3 (by omega) (by omega) (by first | exact(hA (by omega)).1.1 | exact(hA (by omega)).1.2 | exact(hB (by omega)).1.1 | exact(hB (by omega)).1.2) (by first | exact(hA (by omega)).2.1.1 | exact(hA (by omega)).2.1.2 | exact(hB (by omega)).2.1.1 | exact(hB (by omega)).2.1.2)),.p (show((flat fC (fO (cF nr) a0 a1 a2 a3)).length=(fO (cF nr) a0 a1 a2 a3).length*3/\(flat fC (eY (cF nr) a0 a1 a2 a3)).length=(eY (cF nr) a0 a1 a2 a3).length*3/\(flat fC (eY (cF nr) a0 a1 a2 a3)).all SV.one=true/\(fO (cF nr) a0 a1 a2 a3).length+(eY (cF nr) a0 a1 a2 a3).length<=2 ^ 40/\((fO (cF nr) a0 a1 a2 a3).length+(eY (cF nr) a0 a1 a2 a3).length)*24<=2 ^ 47) from by refine⟨?_,?_,?_,?_,?_⟩<;>first | omega | exact iO (fun _=>rfl) | (simp [bW eF];done) | (simp [bW eF];omega))]) [] [7] hcx (by kernel_rfl)
    | false =>
     have q3:=cN h3
     have e:=Eq.refl (fA (cF nr) a0 a1 a2 a3 ());conv at e=>rhs;simp only [fA,h0,h1,h2,h3,aT]
     rw [e]
     rw [show flat fC ((dS (cF nr) a0 a1 a2 a3)++(dK (cF nr) a0 a1 a2 a3))=((flat fC (dS (cF nr) a0 a1 a2 a3))++(flat fC (dK (cF nr) a0 a1 a2 a3))) from Eq.symm (by simp [flat])]
     rw [show((dS (cF nr) a0 a1 a2 a3)++(dK (cF nr) a0 a1 a2 a3)).length=((dS (cF nr) a0 a1 a2 a3).length+(dK (cF nr) a0 a1 a2 a3).length) from by simp]
     exact rt (t3++[.d h3,.c [0,1] (ihr (a0.1,a0.2) a1 (a0.2.getD (tN a2) dF).2.2.1 a3 (by omega) (by omega) (by first | exact(hA (by omega)).1.1 | exact(hA (by omega)).1.2 | exact(hB (by omega)).1.1 | exact(hB (by omega)).1.2) (by first | exact(hA (by omega)).2.1.1 | exact(hA (by omega)).2.1.2 | exact(hB (by omega)).2.1.1 | exact(hB (by omega)).2.1.2)),.c [0,1] (ihr (a0.1,a0.2) a1 (a0.2.getD (tN a2) dF).2.2.2.1 a3 (by omega) (by omega) (by first | exact(hA (by omega)).1.1 | exact(hA (by omega)).1.2 | exact(hB (by omega)).1.1 | exact(hB (by omega)).1.2) (by first | exact(hA (by omega)).2.1.1 | exact(hA (by omega)).2.1.2 | exact(hB (by omega)).2.1.1 | exact(hB (by omega)).2.1.2)),.p (show((flat fC (dS (cF nr) a0 a1 a2 a3)).length=(dS (cF nr) a0 a1 a2 a3).length*3/\(flat fC (dK (cF nr) a0 a1 a2 a3)).length=(dK (cF nr) a0 a1 a2 a3).length*3/\(flat fC (dK (cF nr) a0 a1 a2 a3)).all SV.one=true/\(dS (cF nr) a0 a1 a2 a3).length+(dK (cF nr) a0 a1 a2 a3).length<=2 ^ 40/\((dS (cF nr) a0 a1 a2 a3).length+(dK (cF nr) a0 a1 a2 a3).length)*24<=2 ^ 47) from by refine⟨?_,?_,?_,?_,?_⟩<;>first | omega | exact iO (fun _=>rfl) | (simp [bW eF];done) | (simp [bW eF];omega))]) [] [7] hcx (by kernel_rfl)
   | false =>
    have q2:=cN h2
    have e:=Eq.refl (fA (cF nr) a0 a1 a2 a3 ());conv at e=>rhs;simp only [fA,h0,h1,h2,aT]
    rw [e]
    rw [show flat fC ((dS (cF nr) a0 a1 a2 a3)++(dK (cF nr) a0 a1 a2 a3))=((flat fC (dS (cF nr) a0 a1 a2 a3))++(flat fC (dK (cF nr) a0 a1 a2 a3))) from Eq.symm (by simp [flat])]
    rw [show((dS (cF nr) a0 a1 a2 a3)++(dK (cF nr) a0 a1 a2 a3)).length=((dS (cF nr) a0 a1 a2 a3).length+(dK (cF nr) a0 a1 a2 a3).length) from by simp]
    exact rt (t2++[.d h2,.c [0,1] (ihr (a0.1,a0.2) a1 (a0.2.getD (tN a2) dF).2.2.1 a3 (by omega) (by omega) (by first | exact(hA (by omega)).1.1 | exact(hA (by omega)).1.2 | exact(hB (by omega)).1.1 | exact(hB (by omega)).1.2) (by first | exact(hA (by omega)).2.1.1 | exact(hA (by omega)).2.1.2 | exact(hB (by omega)).2.1.1 | exact(hB (by omega)).2.1.2)),.c [0,1] (ihr (a0.1,a0.2) a1 (a0.2.getD (tN a2) dF).2.2.2.1 a3 (by omega) (by omega) (by first | exact(hA (by omega)).1.1 | exact(hA (by omega)).1.2 | exact(hB (by omega)).1.1 | exact(hB (by omega)).1.2) (by first | exact(hA (by omega)).2.1.1 | exact(hA (by omega)).2.1.2 | exact(hB (by omega)).2.1.1 | exact(hB (by omega)).2.1.2)),.p (show((flat fC (dS (cF nr) a0 a1 a2 a3)).length=(dS (cF nr) a0 a1 a2 a3).length*3/\(flat fC (dK (cF nr) a0 a1 a2 a3)).length=(dK (cF nr) a0 a1 a2 a3).length*3/\(flat fC (dK (cF nr) a0 a1 a2 a3)).all SV.one=true/\(dS (cF nr) a0 a1 a2 a3).length+(dK (cF nr) a0 a1 a2 a3).length<=2 ^ 40/\((dS (cF nr) a0 a1 a2 a3).length+(dK (cF nr) a0 a1 a2 a3).length)*24<=2 ^ 47) from by refine⟨?_,?_,?_,?_,?_⟩<;>first | omega | exact iO (fun _=>rfl) | (simp [bW eF];done) | (simp [bW eF];omega))]) [] [7] hcx (by kernel_rfl)
theorem aXj:∀(nr:Nat) (a0:List Int×bF) (a1:Int) (a2:Int) (a3:Int) (l0_1:a0.1.length<=2^63-1) (l0_2:a0.2.length<=2^63-1) (hp:PVB a1 a2 a0 []),((a0.2.length - tN a1)+(a0.2.length - tN a2)) < nr->Con Tryz.prog 63 [(.a [(.s 0 0 a0.1.length 1),(.s 1 0 a0.2.length 8)]),(iv a1),(iv a2),(iv a3)] [(.live false true (flat c3 a0.1)),(.live false true (flat cB a0.2))] (.s 2 0 (cF nr a0 a1 a2 a3).length 3) [(.live true true (flat fC (cF nr a0 a1 a2 a3)))]:=by
 intro nr
 induction nr with
 | zero=>intro a0 a1 a2 a3 l0_1 l0_2 hp hlt;exact absurd hlt (eI _)
 | succ nr ihr =>
 intro a0 a1 a2 a3 l0_1 l0_2 hp hlt
 refine aY Tryz.func63 (by kernel_rfl) fun cx hcx=>?_
 have hpb:=uV hp
 have hp1:=hp.e0
 have hp2:=hp.e1
 have hp3:=hp.e2
 let t0:List (St Tryz.prog):=[.i a1 (a0.2.length),.L bU a0.2 a1 0 8,.i a2 (a0.2.length),.L bU a0.2 a2 0 8,.c [] (C82 (a0.2.getD (tN a1) dF) (a0.2.getD (tN a2) dF))]
 cases h0:(decide (((W ((W ((W ((W ((a0.2.getD (tN a1) dF).2.2.2.2.2+(a0.2.getD (tN a2) dF).2.2.2.2.2))*4))*a3))*a3)):Int)<=(zG a0 a1 a2 a3))) with
 | true =>
  have q0:=cJ h0
  let t1:List (St Tryz.prog):=(t0++[.d h0])
  cases h1:(decide (((zG a0 a1 a2 a3):Int) > 0)) with
  | true =>
   have q1:=cJ h1
   have e:=Eq.refl (cF (nr+1) a0 a1 a2 a3);conv at e=>rhs;simp only [cF,h0,h1,aT]
   rw [e]
   exact rt (t1++[.d h1]) [.sym 5 true] [5] hcx (by kernel_rfl)
  | false =>
   have q1:=cN h1
   have e:=Eq.refl (cF (nr+1) a0 a1 a2 a3);conv at e=>rhs;simp only [cF,h0,h1,aT]
   rw [e]
   refine ga (t1++[.d h1,.z 5]) [] [1,2,3,4,9,10] [2,3,4] hcx aJ2 (aJ3) (aFt nr a0 a1 a2 a3) (by kernel_rfl) ?_
   exact aPv nr a0 a1 a2 a3 l0_1 l0_2 hp hlt ihr hcx trivial
 | false =>
  have q0:=cN h0
  have e:=Eq.refl (cF (nr+1) a0 a1 a2 a3);conv at e=>rhs;simp only [cF,h0,aT]
  rw [e]
  refine ga (t0++[.d h0,.z 5]) [] [1,2,3,4,9,10] [2,3,4] hcx aJ2 (aJ3) (aFt nr a0 a1 a2 a3) (by kernel_rfl) ?_
  exact aPv nr a0 a1 a2 a3 l0_1 l0_2 hp hlt ihr hcx trivial
theorem C63 (a0:List Int×bF)(a1:Int)(a2:Int)(a3:Int)(l0_1:a0.1.length<=2^63-1)(l0_2:a0.2.length<=2^63-1)(hp:PVB a1 a2 a0 []):Con Tryz.prog 63 [(.a [(.s 0 0 a0.1.length 1),(.s 1 0 a0.2.length 8)]),(iv a1),(iv a2),(iv a3)] [(.live false true (flat c3 a0.1)),(.live false true (flat cB a0.2))] (.s 2 0 (F63 a0 a1 a2 a3).length 3) [(.live true true (flat fC (F63 a0 a1 a2 a3)))]:=aXj (((a0.2.length - tN a1)+(a0.2.length - tN a2))+1) a0 a1 a2 a3 l0_1 l0_2 hp (lss _)
def aPw (t:TR)(sep:Int)(i k:Int):Prop :=
 W (W (W (W ((t.2.getD (tN i) dF).2.2.2.2.2+(t.2.getD (tN k) dF).2.2.2.2.2)*4)*sep)*sep)<=F52 (F53 (t.2.getD (tN i) dF).2.2.2.2.1 (t.2.getD (tN k) dF).2.2.2.2.1) /\
  F52 (F53 (t.2.getD (tN i) dF).2.2.2.2.1 (t.2.getD (tN k) dF).2.2.2.2.1) > 0
def aPx (t:TR)(i k:Int):Prop :=
 (t.2.getD (tN k) dF).2.2.1 < 0\/((t.2.getD (tN i) dF).2.2.1≥0/\W ((t.2.getD (tN i) dF).2.1 - (t.2.getD (tN i) dF).1)≥W ((t.2.getD (tN k) dF).2.1 - (t.2.getD (tN k) dF).1))
section
variable {t : TR} {sep i k : Int} {out : List BLK} {n : Nat}
theorem aUn:iQ (jA n) i k t sep out ()=(open Classical in if aPx t i k then aHq (jA n) i k t sep out else aHr (jA n) i k t sep out):=by
 simp only [iQ]
 unfold aPx
 by_cases h1:(t.2.getD (tN k) dF).2.2.1 < 0
 ·rw [cH h1,cond_true,if_pos (.inl h1)]
 ·rw [dA h1,cond_false]
  by_cases h2:(t.2.getD (tN i) dF).2.2.1≥0
  ·rw [cH h2,cond_true]
   by_cases h3:W ((t.2.getD (tN i) dF).2.1 - (t.2.getD (tN i) dF).1)≥W ((t.2.getD (tN k) dF).2.1 - (t.2.getD (tN k) dF).1)
   ·rw [cH h3,cond_true,if_pos (.inr ⟨h2,h3⟩)]
   ·rw [dA h3,cond_false,if_neg (fun h=>h.elim h1 (fun h=>h3 h.2))]
  ·rw [dA h2,cond_false,if_neg (fun h=>h.elim h1 (fun h=>h2 h.1))]
end
section
variable {t : TR} {sep i k : Int} {out : List BLK} {n : Nat}
theorem aR5 (h:aPw t sep i k):jA (n+1) i k t sep out=out++[(i,k,true)]:=by
 simp only [jA]
 rw [cH (show F52 (tP i k t sep out) > 0 from h.2),cond_true,cH (show W (W (W (W ((t.2.getD (tN i) dF).2.2.2.2.2+(t.2.getD (tN k) dF).2.2.2.2.2)*4)*sep)*sep)<=F52 (tP i k t sep out) from h.1)]
 rfl
theorem aR6 (h:¬aPw t sep i k):jA (n+1) i k t sep out=iR (jA n) i k t sep out false:=by
 simp only [jA]
 by_cases h2:F52 (tP i k t sep out) > 0
 ·rw [cH h2,cond_true,dA (show ¬W (W (W (W ((t.2.getD (tN i) dF).2.2.2.2.2+(t.2.getD (tN k) dF).2.2.2.2.2)*4)*sep)*sep)<=F52 (tP i k t sep out) from fun h1=>h ⟨h1,h2⟩)]
 ·rw [dA h2,cond_false]
theorem aUo:iR (jA n) i k t sep out false=if(t.2.getD (tN i) dF).2.2.1 < 0/\(t.2.getD (tN k) dF).2.2.1 < 0 then out++[(i,k,false)] else iQ (jA n) i k t sep out ():=by
 simp only [iR,cond_false,pB]
 by_cases zi:(t.2.getD (tN i) dF).2.2.1 < 0<;>by_cases zk:(t.2.getD (tN k) dF).2.2.1 < 0
 ·rw [cH zi,cH zk,if_pos ⟨zi,zk⟩];rfl
 ·rw [cH zi,dA zk,if_neg (fun h=>zk h.2)];rfl
 ·rw [dA zi,if_neg (fun h=>zi h.1)];rfl
 ·rw [dA zi,if_neg (fun h=>zi h.1)];rfl
theorem aR7 (h:aPw t sep i k):cF (n+1) t i k sep=[(i,k,true)]:=by
 simp only [cF]
 rw [cH (show W (W (W (W ((t.2.getD (tN i) dF).2.2.2.2.2+(t.2.getD (tN k) dF).2.2.2.2.2)*4)*sep)*sep)<=zG t i k sep from h.1),cond_true,cH (show zG t i k sep > 0 from h.2)]
 rfl
theorem aR8 (h:¬aPw t sep i k):cF (n+1) t i k sep=fA (cF n) t i k sep ():=by
 simp only [cF]
 by_cases h1:W (W (W (W ((t.2.getD (tN i) dF).2.2.2.2.2+(t.2.getD (tN k) dF).2.2.2.2.2)*4)*sep)*sep)<=zG t i k sep
 ·rw [cH h1,cond_true,dA (show ¬zG t i k sep > 0 from fun h2=>h ⟨h1,h2⟩),cond_false]
 ·rw [dA h1,cond_false]
theorem aUp:fA (cF n) t i k sep ()=(open Classical in if(t.2.getD (tN i) dF).2.2.1 < 0/\(t.2.getD (tN k) dF).2.2.1 < 0 then [(i,k,false)] else if aPx t i k then fO (cF n) t i k sep++eY (cF n) t i k sep else dS (cF n) t i k sep++dK (cF n) t i k sep):=by
 simp only [fA]
 unfold aPx
 by_cases zi:(t.2.getD (tN i) dF).2.2.1 < 0<;>by_cases zk:(t.2.getD (tN k) dF).2.2.1 < 0
 ·rw [cH zi,cH zk,if_pos ⟨zi,zk⟩];rfl
 ·rw [cH zi,dA zk,cond_true,cond_false,dA (show ¬(t.2.getD (tN i) dF).2.2.1≥0 by omega),cond_false,if_neg (fun h=>zk h.2),if_neg (fun h=>h.elim zk (fun h=>absurd h.1 (by omega)))]
 ·rw [dA zi,cH zk,cond_false,cond_true,if_neg (fun h=>zi h.1),if_pos (.inl zk)]
 ·rw [dA zi,dA zk,cond_false,cond_false,cH (show(t.2.getD (tN i) dF).2.2.1≥0 by omega),cond_true,if_neg (fun h=>zi h.1)]
  by_cases h3:W ((t.2.getD (tN i) dF).2.1 - (t.2.getD (tN i) dF).1)≥W ((t.2.getD (tN k) dF).2.1 - (t.2.getD (tN k) dF).1)
  ·rw [cH h3,cond_true,if_pos (.inr ⟨by omega,h3⟩)]
  ·rw [dA h3,cond_false,if_neg (fun h=>h.elim zk (fun h=>h3 h.2))]
end
theorem wF:∀(n:Nat) (i k:Int) (t:TR) (sep:Int) (out:List BLK) (m:Nat) (f u h:Int) (m':Nat) (f' u' h':Int),TRE t.2 (tN i) m f u h->TRE t.2 (tN k) m' f' u' h'->0<=i->0<=k->(t.2.length - tN i)+(t.2.length - tN k) < n ->
 jA n i k t sep out=out++cF n t i k sep
 | 0,_,_,_,_,_,_,_,_,_,_,_,_,_,_,_,_,_,h=>absurd h (eI _)
 | n+1,i,k,t,sep,out,m,f,u,h,m',f',u',h',H,K,hi,hk,hn=>by
  have hb:=cG H
  have kb:=cG K
  by_cases hf:aPw t sep i k
  ·rw [aR5 hf,aR7 hf]
  ·rw [aR6 hf,aR8 hf,aUo,aUp,aUn]
   by_cases z:(t.2.getD (tN i) dF).2.2.1 < 0/\(t.2.getD (tN k) dF).2.2.1 < 0
   ·rw [if_pos z,if_pos z]
   ·rw [if_neg z,if_neg z]
    by_cases hs:aPx t i k
    ·rw [if_pos hs,if_pos hs]
     have hq:¬(t.2.getD (tN i) dF).2.2.1 < 0:=fun h0=>hs.elim (fun h1=>z ⟨h0,h1⟩) (fun h1=>absurd h1.1 (by omega))
     rcases iF H with⟨_,_,h5,_⟩ | ⟨m1,m2,c,h1,h2,e8,g4,g5,b1,b2,e9⟩
     ·omega
     ·have l1:=cG b1
      have l2:=cG b2
      have t1:TRE t.2 (tN (t.2.getD (tN i) dF).2.2.1) m1 f c h1:=by rw [g4,fZ];exact b1
      have t2:TRE t.2 (tN (t.2.getD (tN i) dF).2.2.2.1) m2 c u h2:=by rw [g5,fZ];exact b2
      have c1:tQ (jA n) i k t sep out=out++fO (cF n) t i k sep:=wF n (t.2.getD (tN i) dF).2.2.1 k t sep out m1 f c h1 m' f' u' h' t1 K (by omega) hk (by omega)
      have c2:aHq (jA n) i k t sep out=tQ (jA n) i k t sep out++eY (cF n) t i k sep:=wF n (t.2.getD (tN i) dF).2.2.2.1 k t sep _ m2 c u h2 m' f' u' h' t2 K (by omega) hk (by omega)
      rw [c2,c1,List.append_assoc]
    ·rw [if_neg hs,if_neg hs]
     have hq:¬(t.2.getD (tN k) dF).2.2.1 < 0:=fun h0=>hs (.inl h0)
     rcases iF K with⟨_,_,h5,_⟩ | ⟨m1,m2,c,h1,h2,e8,g4,g5,b1,b2,e9⟩
     ·omega
     ·have l1:=cG b1
      have l2:=cG b2
      have t1:TRE t.2 (tN (t.2.getD (tN k) dF).2.2.1) m1 f' c h1:=by rw [g4,fZ];exact b1
      have t2:TRE t.2 (tN (t.2.getD (tN k) dF).2.2.2.1) m2 c u' h2:=by rw [g5,fZ];exact b2
      have c1:tR (jA n) i k t sep out=out++dS (cF n) t i k sep:=wF n i (t.2.getD (tN k) dF).2.2.1 t sep out m f u h m1 f' c h1 H t1 hi (by omega) (by omega)
      have c2:aHr (jA n) i k t sep out=tR (jA n) i k t sep out++dK (cF n) t i k sep:=wF n i (t.2.getD (tN k) dF).2.2.2.1 t sep _ m f u h m2 c u' h2 H t2 hi (by omega) (by omega)
      rw [c2,c1,List.append_assoc]
end Go.Proofs.YtkdfcbmcgnaicaaGreat
namespace Go.Proofs.YtkdfcbmcgnaicaaGreat
open Go.Proofs Go.Aw Go.RowKit
set_option maxRecDepth 100000
theorem aL0 {l:gX} {t:TR} (h:gR l t=0)(h0:0 < t.2.length):PVB 0 0 t []:=by
 obtain⟨hv,leaf,h1,_,rfl⟩:=uU h
 have hl:=hv.1
 have hb:=xS l hv.1 h1
 rcases aFo l h1 with⟨_,e⟩ | ⟨hh,H⟩
 ·rw [e] at h0;exact absurd h0 (Nat.lt_irrefl _)
 ·have hw:=cG H
  have hm:((l.length:Int) - 0)*((l.length:Int) - 0)<=96*96:=Int.mul_le_mul (by omega) (by omega) (by omega) (by omega)
  exact⟨Int.le_refl _,Int.le_refl _,by omega,_,_,_,_,_,_,_,_,H,H,by simp only [List.length_nil];omega⟩
def F42 (a0:List Int×bF)(a1:Int):List (Int×Int×Bool) :=
 (bif (((a0.2.length:Int):Int) == 0) then
  ([]:List (Int×Int×Bool))
 else
  (F63 (a0.1,a0.2) 0 0 a1))
theorem C42 (a0:List Int×bF)(a1:Int)(l0_1:a0.1.length<=2^63-1)(l0_2:a0.2.length<=2^63-1)(hp:0 < a0.2.length->PVB 0 0 a0 []):Con Tryz.prog 42 [(.a [(.s 0 0 a0.1.length 1),(.s 1 0 a0.2.length 8)]),(iv a1)] [(.live false true (flat c3 a0.1)),(.live false true (flat cB a0.2))] (.s 2 0 (F42 a0 a1).length 3) [(.live true true (flat fC (F42 a0 a1)))]:=by
 refine aY Tryz.func42 (by kernel_rfl) fun cx hcx=>?_
 cases h0:(((a0.2.length:Int):Int) == 0) with
 | true =>
  have q0:=eq_of_beq h0
  have e:=Eq.refl (F42 a0 a1);conv at e=>rhs;simp only [F42,h0,aT]
  rw [e]
  exact rt [.d h0] [.slot 4 3] [3] hcx (by kernel_rfl)
 | false =>
  have q0:=ne_of_beq_false h0
  have e:=Eq.refl (F42 a0 a1);conv at e=>rhs;simp only [F42,h0,aT]
  rw [e]
  exact rt [.d h0,.c [0,1] (C63 (a0.1,a0.2) 0 0 a1 (by omega) (by omega) (hp (by omega)))] [] [3] hcx (by kernel_rfl)
theorem aFu {l:gX} {t:TR} (sep:Int)(h:gR l t=0):F33 t sep=F42 t sep:=by
 obtain⟨hv,leaf,h1,_,rfl⟩:=uU h
 rcases aFo l h1 with⟨_,e⟩ | ⟨hh,H⟩
 ·rw [e];rfl
 ·have hw:=cG H
  unfold F33 F42
  rw [cH (show(((BT l leaf).2.length:Nat):Int) > 0 by omega),cond_true,show((((BT l leaf).2.length:Nat):Int) == 0)=false by rw [beq_eq_false_iff_ne];omega,cond_false]
  simp only [xX,F51,F63]
  exact wF _ 0 0 (BT l leaf) sep [] _ _ _ _ _ _ _ _ H H (Int.le_refl _) (Int.le_refl _) (lss _)
theorem aPy {l:gX} {t:TR} (h:gR l t=0):t.1.length=l.length/\l.length<=96/\t.2.length<=192/\aUl t:=by
 obtain⟨hv,leaf,h1,_,rfl⟩:=uU h
 have hb:=xS l hv.1 h1
 exact⟨hb.1,hv.1,hb.2,aR2 l hv.1 h1⟩
theorem aR9 {l:gX} {t:TR} (h:gR l t=0):∀j:Int,0<=j/\j < l.length->0<=t.1.getD (tN j) dF/\t.1.getD (tN j) dF < l.length:=by
 obtain⟨hv,leaf,h1,_,rfl⟩:=uU h
 intro j hj
 have hb:=xS l hv.1 h1
 have hj2:tN j < (BT l leaf).1.length:=by omega
 have:=aB5 l.length _ ((aR3 l h1).mem_iff.1 (List.getElem_mem hj2))
 rw [fV,List.getElem?_eq_getElem hj2]
 exact this
theorem aDf {l:gX} {t:TR} (h:gR l (t.1,t.2)=0):t.1.length=l.length/\l.length<=96/\t.2.length<=192/\aUl t:=aPy (t:=t) h
theorem aPz {l:gX} {t:TR} (h:gR l (t.1,t.2)=0):∀j:Int,0<=j/\j < l.length->0<=t.1.getD (tN j) dF/\t.1.getD (tN j) dF < l.length:=aR9 (t:=t) h
def rg (f u:Int):List Int:=(List.range (tN (u - f))).map (fun j:Nat=>f+(j:Int))
theorem aUq {f u:Int} (h:u<=f):rg f u=[]:=by unfold rg;rw [show tN (u - f)=0 by omega];rfl
theorem aL1 {f u:Int} (h:f < u):rg f u=f::rg (f+1) u:=by
 unfold rg
 rw [show tN (u - f)=tN (u - (f+1))+1 by omega,List.range_succ_eq_map,List.map_cons,List.map_map]
 refine List.cons_eq_cons.2 ⟨by omega,List.map_congr_left fun j _=>?_⟩
 show f+((j+1:Nat):Int)=f+1+(j:Int)
 omega
def row (n i f u:Int):List Int:=(rg f u).map (fun k=>i*n+k)
def aJ4 (n:Int)(N:List NDE)(x:BLK):List Int:=(rg (N.getD (tN x.1) dF).1 (N.getD (tN x.1) dF).2.1).flatMap fun i=>row n i (N.getD (tN x.2.1) dF).1 (N.getD (tN x.2.1) dF).2.1
theorem aB9 {α β:Type} {f g:α->List β}:∀(l:List α),(∀x∈l,f x=g x)->l.flatMap f=l.flatMap g
 | [],_=>rfl
 | x::l,h=>by rw [List.flatMap_cons,List.flatMap_cons,h x List.mem_cons_self,aB9 l (fun y hy=>h y (List.mem_cons_of_mem _ hy))]
end Go.Proofs.YtkdfcbmcgnaicaaGreat
namespace Go.Aw
open Go.RowKit
section
variable {P : Program} {T : Nat → Option TI} {cx : Cx} {N : Nat} {D : List Deferred} {ρ : Env} {s : FS} {a : Act} {W : World} {r : Option Nat} {n : Nat} {Q : Exit → Act → World → Prop}
theorem Rep.back (h:Rep cx N D ρ s a W) {base:Nat} (hbase:cx.base<=base) {N':Nat} {D':List Deferred} {ρ':Env} {s':FS} {a':Act} {W':World}
 (hr:Rep (Cx.only base W ρ (mB ρ s)) N' D' ρ' s' a' W') (hro:∀k sym cells,s'.bk k=.live false sym cells->s.bk k=.live false sym cells/\k < base):Rep cx N' D' ρ' s' a' W':=by
 have hρ:∀i,i < base->ρ' i=ρ i:=fun i hi=>(hr.old i hi).1
 have hSm:∀b,mB ρ s b->cx.mine b:=fun b hb=>(h.owns hb).2
 have hle:ρ.le ρ':=hr.fzo
 refine { defs:=hr.defs,size:=hr.size,sl:=hr.sl,bk:=fun k=>?_,apart:=hr.apart,wf1:=hr.wf1,wf2:=hr.wf2,
          kept:=h.kept.trans hr.kept (fun b hb hlt=>?_),pl:=hr.pl,old:=fun i hi=>⟨(hρ i (Nat.lt_of_lt_of_le hi hbase)).trans (h.old i hi).1,(hr.old i (Nat.lt_of_lt_of_le hi hbase)).2⟩,fzn:=fun b o ho=>⟨(hr.fzn b o ho).1,(hr.fzn b o ho).2.1,?_⟩,fzo:=fun b o ho=>hle b o (h.fzo b o ho) }
 ·have hb:=hr.bk k
  cases hx:s'.bk k with
  | un=>trivial
  | dead=>trivial
  | live own sym cells =>
   rw [hx] at hb
   cases own with
   | true =>
    rcases hb with hb | ⟨b,vs,rest,ty,h1,h2,h3,h4⟩
    ·exact .inl hb
    ·refine .inr ⟨b,vs,rest,ty,h1,?_,h3,h4⟩
     rcases h2 with h2 | h2
     ·exact .inl (Nat.le_trans h.kept.size h2)
     ·exact hSm b h2
   | false =>
    rcases hb with hb | ⟨b,o,n,vs,h1,h2,h3,h4⟩
    ·exact .inl hb
    ·refine .inr ⟨b,o,n,vs,h1,⟨h2.1,fun hne hM=>?_⟩,h3,h4⟩
     obtain⟨e1,e2⟩:=hro k sym cells hx
     have h0:=h.bk k
     rw [e1] at h0
     rcases h0 with⟨q1,q2⟩ | ⟨b0,o0,n0,vs0,q1,q2,q3,q4⟩
     ·rw [hρ k e2,q1] at h1;cases h1
     ·rw [hρ k e2,q1] at h1;cases h1
      have hl:vs0.length=vs.length:=by rw [←q3.length,h3.length]
      obtain⟨ob,hob⟩:=q2.2 (fun e=>hne (by subst e;exact List.eq_nil_of_length_eq_zero hl.symm)) hM
      exact⟨ob,hle _ _ hob⟩
  | map es =>
   rw [hx] at hb
   obtain⟨b,n,arr,q1,h2,q3,q4⟩:=hb
   refine⟨b,n,arr,q1,?_,q3,q4⟩
   rcases h2 with h2 | h2
   ·exact .inl (Nat.le_trans h.kept.size h2)
   ·exact hSm b h2
 ·rcases hSm b hb with h' | h'
  ·exact absurd h' (Nat.not_le_of_lt hlt)
  ·exact h'
 ·rcases (hr.fzn b o ho).2.2 with g | g | g
  ·exact(h.fzn b o g).2.2
  ·exact .inr (.inl (Nat.le_trans h.kept.size g))
  ·exact .inr (hSm b g)
abbrev iK:=Nat×Nat×List SV
def mE (nn:Nat)(r:iK):Value:=.slice (some ⟨r.1,0,none⟩) nn r.2.1
structure RowOK (cx:Cx) (ρ:Env) (s:FS) (W:World) (nn es:Nat) (r:iK):Prop where
 pl:Plain r.2.2
 len:r.2.2.length=nn*es
 cap:nn<=r.2.1
 mine:cx.mine r.1
 own:¬mB ρ s r.1
 fz:ρ.fz r.1=none
 at':∃(vs rest:List Value) (ty:TypeId),Rels ρ r.2.2 vs/\W.heap[r.1]? = some (.cells (vs++rest).toArray ty (0,0))/\r.2.1*es<=(vs++rest).length
structure TabOK (cx:Cx) (ρ:Env) (s:FS) (W:World) (nn es:Nat) (rows:List (Option iK)):Prop where
 row:∀(i:Nat) (r:iK),rows[i]? = some (some r)->RowOK cx ρ s W nn es r
 ne:∀(i j:Nat) (r q:iK),i≠j->rows[i]? = some (some r)->rows[j]? = some (some q)->r.1≠q.1
theorem RowOK.lt {nn es:Nat} {x:iK} (h:RowOK cx ρ s W nn es x):x.1 < W.heap.size:=by
 obtain⟨vs,rest,ty,_,h,_⟩:=h.at'
 exact iL h
theorem RowOK.back {nn es:Nat} {x:iK} (h:RowOK cx ρ s W nn es x) {base:Nat} {N':Nat} {D':List Deferred} {ρ':Env} {s':FS} {a':Act} {W':World}
 (hr:Rep (Cx.only base W ρ (mB ρ s)) N' D' ρ' s' a' W'):RowOK cx ρ' s' W' nn es x:=by
 have hlt:=h.lt
 refine⟨h.pl,h.len,h.cap,h.mine,fun ho=>?_,?_,?_⟩
 ·rcases (hr.owns ho).2 with g | g
  ·exact absurd g (Nat.not_le_of_lt hlt)
  ·exact h.own g
 ·cases hf:ρ'.fz x.1 with
  | none=>rfl
  | some o =>
   rcases (hr.fzn x.1 o hf).2.2 with g | g | g
   ·change ρ.fz x.1=some o at g;rw [h.fz] at g;cases g
   ·exact absurd g (Nat.not_le_of_lt hlt)
   ·exact absurd g h.own
 ·obtain⟨vs,rest,ty,h1,h2,h3⟩:=h.at'
  exact⟨vs,rest,ty,Plain.congr hr.fzo h.pl h1,(hr.kept.block x.1 hlt h.own).trans h2,h3⟩
theorem TabOK.back {nn es:Nat} {rows:List (Option iK)} (ht:TabOK cx ρ s W nn es rows) {base:Nat} {N':Nat} {D':List Deferred} {ρ':Env} {s':FS} {a':Act} {W':World}
 (hr:Rep (Cx.only base W ρ (mB ρ s)) N' D' ρ' s' a' W'):TabOK cx ρ' s' W' nn es rows:=⟨fun i r hi=>(ht.row i r hi).back hr,ht.ne⟩
def GoodT (P:Program)(r:Option Nat)(n:Nat)(Q:Exit->Act->World->Prop)(cx:Cx)(D:List Deferred)(nn es:Nat)(rows:List (Option iK))(k:List K)(s:LS):Prop :=
 ∀(ρ:Env) (a:Act) (W:World),Rep cx s.sl.length D ρ s.fs a W->TabOK cx ρ s.fs W nn es rows->iN r n P Q k .normal a W
def BK.ro:BK->Option (Bool×List SV)
 | .live false sy c=>some (sy,c)
 | _=>none
def roE (b:Nat)(l m:List BK):Prop:=(l.take b).map BK.ro=(m.take b).map BK.ro/\((l.drop b).all fun x=>x.ro.isNone)=true
theorem aSa {l m:List BK} {b:Nat} (h:roE b l m) {k:Nat} {sy:Bool} {c:List SV} (hk:l[k]? = some (.live false sy c)):m[k]? = some (.live false sy c)/\k < b:=by
 rcases Nat.lt_or_ge k b with hlt | hge
 ·have h1:((l.take b).map BK.ro)[k]? = some (some (sy,c)):=by
   rw [List.getElem?_map,List.getElem?_take,if_pos hlt,hk];rfl
  rw [h.1,List.getElem?_map,List.getElem?_take,if_pos hlt] at h1
  cases hm:m[k]? with
  | none=>rw [hm] at h1;cases h1
  | some y =>
   rw [hm] at h1
   simp only [Option.map_some,bG] at h1
   cases y with
   | live o s2 c2=>cases o with
    | true=>simp [BK.ro] at h1
    | false=>simp only [BK.ro,bG,eZ] at h1;obtain⟨rfl,rfl⟩:=h1;exact⟨rfl,hlt⟩
   | un=>simp [BK.ro] at h1
   | dead=>simp [BK.ro] at h1
   | map es=>simp [BK.ro] at h1
 ·have h2:BK.live false sy c∈l.drop b:=List.mem_of_getElem? (i:=k - b) (by rw [List.getElem?_drop,show b+(k - b)=k by omega];exact hk)
  have:=List.all_eq_true.1 h.2 _ h2
  simp [BK.ro] at this
theorem aCa {s s':LS} {b:Nat} (h:roE b s'.bk s.bk):∀k sym cells,s'.fs.bk k=.live false sym cells->s.fs.bk k=.live false sym cells/\k < b:=fun k sy c hk=>by
 have:=aSa h (aTz hk)
 exact⟨aKz this.1,this.2⟩
theorem Rep.sub' (h:Rep cx N D ρ s a W) {base:Nat} (hb:∀i,i < base->s.bk i≠.un):Rep (Cx.only base W ρ (mB ρ s)) N D ρ s a W :=
 h.only (B:=0) (Turn.of_below ⟨rfl,rfl,rfl,Nat.le_refl _,fun _ _=>rfl⟩ (Nat.le_refl _)) base hb
theorem GoodT.frame {nn es:Nat} {rows:List (Option iK)} {k k':List K} {s s':LS} (hstep:∀cx1:Cx,cx1.base=cx.base->Good P r n Q cx1 D k' s'->Good P r n Q cx1 D k s)
 (hro:roE cx.base s'.bk s.bk) (h:GoodT P r n Q cx D nn es rows k' s'):GoodT P r n Q cx D nn es rows k s:=by
 intro ρ a W hrep htab
 refine hstep (Cx.only cx.base W ρ (mB ρ s.fs)) rfl (fun ρ' a' W' hr=>?_) ρ a W (hrep.sub' (fun i hi=>(hrep.old i hi).2))
 exact h ρ' a' W' (hrep.back (Nat.le_refl _) hr (aCa hro)) (htab.back hr)
theorem GoodT.round {nn es:Nat} {rows:List (Option iK)} {body:Code} {m:Nat} {k:List K} {s:LS} (h:GoodT P r n Q cx D nn es rows (.c body::.l body m::k) s):GoodT P r n Q cx D nn es rows (.l body (m+1)::k) s:=by
 intro ρ a W hrep ht
 have:=h ρ a W hrep ht
 simp only [iN] at this ⊢
 rw [roundsIn_succ]
 refine wpIn_mono this (fun e a w hq=>?_)
 cases e<;>simpa [iN,Exit.then] using hq
theorem aHs {ops:Array Oper} {m:Nat} (hlow:∀i o,ops[i]? = some o->∀e∈o.after,Region.binds .any e=true->e.on < i)
 (hsuf:∀(D:Nat->Bool) i o,m<=i->ops[i]? = some o->(∀j o,ops[j]? = some o->D j=true->∀e∈o.after,Region.binds .any e=true->D e.on=true)->(∀e∈o.after,Region.binds .any e=true->D e.on=true)->∀k,k < i->D k=true) :
 ∀(fuel i:Nat) (listed:Array Bool),listed.size=ops.size->m<=i->i<=ops.size->ops.size - i<=fuel->(∀j,listed.getD j false=decide (j < i))->∀a W,wpOpsIn (Fw r) n P ops Q (List.range' i (ops.size - i)) a W->wpAnyIn (Fw r) n P .any ops Q fuel listed a W:=by
 have hun:∀(listed:Array Bool) (x:Nat),x < listed.size->(listed.getD x true=false↔listed.getD x false=false):=fun listed x hx=>by
  simp only [Array.getD_eq_getD_getElem?,Array.getElem?_eq_getElem hx,Option.getD_some]
 have hsz:∀(i:Nat) (listed:Array Bool),listed.size=ops.size->m<=i->(∀j,listed.getD j false=decide (j < i))->∀x∈Region.ready .any ops listed,x=i/\i < ops.size:=fun i listed hs hmi hl x hx=>by
  obtain⟨h1,o,ho,hall⟩:=mem_ready.1 hx
  have hxs:=(Array.getElem?_eq_some_iff.1 ho).1
  have h1':listed.getD x false=false:=by
   have hxl:x < listed.size:=by omega
   simp only [Array.getD_eq_getD_getElem?,Array.getElem?_eq_getElem hxl,Option.getD_some] at h1 ⊢
   exact h1
  rw [hl] at h1'
  have hge:i<=x:=by simpa using h1'
  rcases Nat.lt_or_ge i x with hlt | hle
  ·have:=hsuf (fun j=>decide (j < i)) x o (by omega) ho (fun j o' ho' hj e he hb=>by
    have:=hlow j o' ho' e he hb
    simp only [decide_eq_true_eq] at hj ⊢;omega) (fun e he hb=>by have:=hall e he hb;rw [hl] at this;exact this) i hlt
   simp at this
  ·obtain rfl:x=i:=by omega
   exact⟨rfl,hxs⟩
 intro fuel
 induction fuel with
 | zero =>
  intro i listed hs hmi his hf hl a W h
  obtain rfl:i=ops.size:=by omega
  simp only [Nat.sub_self,List.range'_zero,wpOpsIn] at h
  simp only [wpAnyIn]
  refine⟨?_,h⟩
  rw [List.eq_nil_iff_forall_not_mem]
  intro x hx
  have:=(hsz _ listed hs hmi hl x hx).2
  omega
 | succ fuel ih =>
  intro i listed hs hmi his hf hl a W h
  rcases Nat.lt_or_ge i ops.size with hlt | hge
  ·have hmem:i∈Region.ready .any ops listed:=by
    refine mem_ready.2 ⟨?_,ops[i],by simp [hlt],fun e he hb=>?_⟩
    ·have:=hl i
     have hil:i < listed.size:=by omega
     simp only [Array.getD_eq_getD_getElem?,Array.getElem?_eq_getElem hil,Option.getD_some] at this ⊢
     simpa using this
    ·rw [hl];simpa using hlow i ops[i] (by simp [hlt]) e he hb
   refine⟨fun hnil=>(by rw [hnil] at hmem;cases hmem),fun x hx=>?_⟩
   obtain⟨rfl,_⟩:=hsz i listed hs hmi hl x hx
   rw [show ops.size - x=(ops.size - (x+1))+1 by omega,List.range'_succ,wpOpsIn_cons] at h
   refine wpOpIn_mono (fun a' w' h'=>ih (x+1) _ (by simp [hs]) (by omega) hlt (by omega) (fun j=>?_) a' w' h') h
   by_cases hj:j=x
   ·subst hj;have hil:j < listed.size:=by omega
    simp [hil]
   ·rw [getD_set_ne false (Ne.symm hj),hl]
    simp only [decide_eq_decide];omega
  ·obtain rfl:i=ops.size:=by omega
   simp only [Nat.sub_self,List.range'_zero,wpOpsIn] at h
   refine⟨fun _=>h,fun x hx=>?_⟩
   have:=(hsz _ listed hs hmi hl x hx).2
   omega
theorem aDg {m size:Nat} (h:m<=size) {p:Nat->Bool} (hp:∀j,m<=j->j < size->p j=true):size - m<=((List.range size).filter p).length:=by
 have:List.range size=List.range' 0 m++List.range' (0+m) (size - m):=by
  rw [List.range_eq_range',List.range'_append_1];congr 1;omega
 rw [this,List.filter_append,List.length_append]
 have h2:(List.range' (0+m) (size - m)).filter p=List.range' (0+m) (size - m):=by
  rw [List.filter_eq_self]
  intro j hj
  rw [List.mem_range'_1] at hj
  exact hp j (by omega) (by omega)
 rw [h2];simp
theorem aJ5 {ops:Array Oper} {evs:List Ev} {m:Nat} (hlen:evs.length=m)(hms:m<=ops.size) {s0:FS} (hm:P.follows .mixedOrders=true)
 {wr rd ard:Nat->Nat⊕Nat->Prop} {alt:Nat->Nat⊕Nat->SV⊕BK->Prop} {dep:Nat->Nat->Prop} (c:Conf m (cL ops evs) wr rd ard alt dep)
 (hrs:∀i v t,evs[i]? = some v->t∈v.rs->rd i (.inl t)) (hrb:∀i v k,evs[i]? = some v->k∈v.rb->rd i (.inr k)\/(ard i (.inr k)/\∀y,alt i (.inr k) y->∃b,y=.inr b/\(k,b)∈v.alt))
 (hlow:∀i o,ops[i]? = some o->∀e∈o.after,Region.binds .any e=true->e.on < i)
 (hdep:∀(D:Nat->Bool) i o,i < m->ops[i]? = some o->(∀j o,ops[j]? = some o->D j=true->∀e∈o.after,Region.binds .any e=true->D e.on=true)->(∀e∈o.after,Region.binds .any e=true->D e.on=true)->∀k,dep i k->D k=true)
 (hsuf:∀(D:Nat->Bool) i o,m<=i->ops[i]? = some o->(∀j o,ops[j]? = some o->D j=true->∀e∈o.after,Region.binds .any e=true->D e.on=true)->(∀e∈o.after,Region.binds .any e=true->D e.on=true)->∀k,k < i->D k=true)
 (hloc:∀i v,evs[i]? = some v->qA P r n cx N D ops i (SD (cL ops evs) (fun _=>true) s0 i) v)
 (hrep:Rep cx N D ρ s0 a W)
 (hK:∀ρ' a' W',Rep cx N D ρ' (SD (cL ops evs) (fun _=>true) s0 m) a' W'->wpOpsIn (Fw r) n P ops Q (List.range' m (ops.size - m)) a' W') {id:Nat} :
 (Code.region id ops true).wpIn (Fw r) n P Q a W:=by
 refine wpIn_region_any hm ?_
 have hrep':Rep cx N D ρ s0 a { W with drawn:=W.drawn+1 }:=hrep.grow ⟨rfl,rfl,rfl,Nat.le_refl _,fun _ _=>rfl⟩ (Nat.le_succ _)
 have key:∀fuel (listed:Array Bool),listed.size=ops.size->((List.range ops.size).filter fun j=>!listed.getD j false).length<=fuel ->
  (∀j o,ops[j]? = some o->listed.getD j false=true->∀e∈o.after,Region.binds .any e=true->listed.getD e.on false=true) ->
  (∀j,m<=j->listed.getD j false=false) ->
  ∀ρ a W,Rep cx N D ρ (SD (cL ops evs) (fun j=>listed.getD j false) s0 m) a W->wpAnyIn (Fw r) n P .any ops Q fuel listed a W:=by
  intro fuel
  induction fuel with
  | zero =>
   intro listed hsz hfew hcl hoff ρ a W h
   have hge:=aDg hms (p:=fun j=>!listed.getD j false) (fun j hj _=>by rw [hoff j hj];rfl)
   have hall:∀j,j < m->listed.getD j false=true:=fun j hj=>by
    have h0:(List.range ops.size).filter (fun j=>!listed.getD j false)=[]:=List.length_eq_zero_iff.1 (by omega)
    have:=(List.filter_eq_nil_iff.1 h0) j (by simp;omega)
    simpa using this
   have hS:∀q,q<=m->SD (cL ops evs) (fun j=>listed.getD j false) s0 q=SD (cL ops evs) (fun _=>true) s0 q:=by
    intro q
    induction q with
    | zero=>intro _;rfl
    | succ q ihm=>intro hm';simp only [SD,ihm (by omega),hall q (by omega)]
   refine aHs hlow hsuf 0 m listed hsz (Nat.le_refl _) hms (by omega) (fun j=>?_) a W (hK ρ a W (hS m (Nat.le_refl _)▸h))
   rcases Nat.lt_or_ge j m with hj | hj
   ·rw [hall j hj];simp [hj]
   ·rw [hoff j hj];simp;omega
  | succ fuel ih =>
   intro listed hsz hfew hcl hoff ρ a W h
   by_cases hdone:∀j,j < m->listed.getD j false=true
   ·have hS:∀q,q<=m->SD (cL ops evs) (fun j=>listed.getD j false) s0 q=SD (cL ops evs) (fun _=>true) s0 q:=by
     intro q
     induction q with
     | zero=>intro _;rfl
     | succ q ihm=>intro hm';simp only [SD,ihm (by omega),hdone q (by omega)]
    have hge:=aDg hms (p:=fun j=>!listed.getD j false) (fun j hj _=>by rw [hoff j hj];rfl)
    refine aHs hlow hsuf (fuel+1) m listed hsz (Nat.le_refl _) hms (by omega) (fun j=>?_) a W (hK ρ a W (hS m (Nat.le_refl _)▸h))
    rcases Nat.lt_or_ge j m with hj | hj
    ·rw [hdone j hj];simp [hj]
    ·rw [hoff j hj];simp;omega
   ·refine⟨fun hnil=>?_,fun i hi=>?_⟩
    ·exfalso
     refine hdone fun j=>?_
     induction j using Nat.strongRecOn with
     | ind j ihj =>
      intro hj
      cases hlj:listed.getD j false with
      | true=>rfl
      | false =>
       exfalso
       have hjs:j < ops.size:=by omega
       have ho:ops[j]? = some ops[j]:=by simp [hjs]
       have:j∈Region.ready .any ops listed:=by
        refine mem_ready.2 ⟨?_,ops[j],ho,fun e he hb=>ihj e.on (hlow j _ ho e he hb) (by have:=hlow j _ ho e he hb;omega)⟩
        have hjl:j < listed.size:=by omega
        simp only [Array.getD_eq_getD_getElem?,Array.getElem?_eq_getElem hjl,Option.getD_some] at hlj ⊢
        exact hlj
       rw [hnil] at this;cases this
    ·obtain⟨h1,o,ho,hall⟩:=mem_ready.1 hi
     have his:=(Array.getElem?_eq_some_iff.1 ho).1
     have hil:i < listed.size:=by omega
     have hDi:listed.getD i false=false:=by
      simp only [Array.getD_eq_getD_getElem?,Array.getElem?_eq_getElem hil,Option.getD_some] at h1 ⊢
      exact h1
     have him:i < m:=by
      rcases Nat.lt_or_ge i m with h' | h'
      ·exact h'
      ·exact(hdone fun j hj=>hsuf (fun j=>listed.getD j false) i o h' ho hcl hall j (by omega)).elim
     have hie:i < evs.length:=by omega
     have hev:evs[i]? = some evs[i]:=by simp [hie]
     have hD':∀j,(listed.setIfInBounds i true).getD j false=(listed.getD j false || decide (j=i)):=fun j=>by
      by_cases hj:j=i
      ·subst hj;simp [hil]
      ·rw [getD_set_ne false (Ne.symm hj)];simp [hj]
     have hclo:∀j k,j < m->listed.getD j false=true->dep j k->listed.getD k false=true:=fun j k hj hDj hd =>
      hdep (fun j=>listed.getD j false) j (ops[j]'(by omega)) hj (by simp) hcl (hcl j (ops[j]'(by omega)) (by simp) hDj) k hd
     have hcond:∀k,dep i k->listed.getD k false=true:=fun k hk=>hdep (fun j=>listed.getD j false) i o him ho hcl hall k hk
     have hlo:∀j,listed.getD j false=true->j < m:=fun j hj=>by
      rcases Nat.lt_or_ge j m with h' | h'
      ·exact h'
      ·rw [hoff j h'] at hj;cases hj
     refine hloc i evs[i] hev (SD (cL ops evs) (fun j=>listed.getD j false) s0 m) (fun t ht=>?_) (fun k hk=>?_) ρ a W Q _ h (fun ρ' a' W' h'=>?_)
     ·have:=c.reads (s0:=s0) him hDi hclo hcond (hrs i _ t hev ht)
      simpa [FS.at'] using this
     ·rcases hrb i _ k hev hk with h5 | ⟨h5,h6⟩
      ·have:=c.reads (s0:=s0) him hDi hclo hcond h5
       exact .inl (by simpa [FS.at'] using this)
      ·rcases c.areads (s0:=s0) him hDi hclo hcond h5 with h7 | h7
       ·exact .inl (by simpa [FS.at'] using h7)
       ·obtain⟨b,e,hb⟩:=h6 _ h7
        have e':(SD (cL ops evs) (fun j=>listed.getD j false) s0 m).bk k=b:=by simpa [FS.at'] using e
        exact .inr (by rw [e'];exact hb)
     ·refine ih (listed.setIfInBounds i true) (by simp [hsz]) ?_ (fun j o' ho' hj e he hb=>?_) (fun j hj=>?_) ρ' a' W' ?_
      ·have:=xF (p:=fun j=>!listed.getD j false) (q:=fun j=>!(listed.setIfInBounds i true).getD j false) (i:=i) (fun j hj=>by
        rw [hD'] at hj;simp at hj ⊢;exact hj.1) (by simp only [hDi];rfl) (by rw [hD'];simp) (List.range ops.size) (by simp [his])
       omega
      ·rw [hD'] at hj ⊢
       by_cases hji:j=i
       ·subst hji
        rw [ho] at ho';cases ho'
        simp [hall e he hb]
       ·simp only [hji,decide_false,Bool.or_false] at hj
        simp [hcl j o' ho' hj e he hb]
      ·rw [hD',hoff j hj];simp;omega
      ·have hadd:=c.add (s0:=s0) him hDi hD' hclo hlo
       rw [hadd]
       simp only [cL,hev]
       exact h'
 have h0:∀j,(Array.replicate ops.size false).getD j false=false:=fun j=>by
  rcases Nat.lt_or_ge j ops.size with h' | h'
  ·simp [h']
  ·simp [Array.getElem?_eq_none (xs:=Array.replicate ops.size false) (by simpa using h')]
 refine key ops.size (Array.replicate ops.size false) (by simp) (Nat.le_trans (List.length_filter_le _ _) (by simp)) (fun j o _ hj=>by rw [h0] at hj;cases hj) (fun j _=>h0 j) ρ a _ ?_
 have:SD (cL ops evs) (fun j=>(Array.replicate ops.size false).getD j false) s0 m=s0:=by
  have:∀m,SD (cL ops evs) (fun j=>(Array.replicate ops.size false).getD j false) s0 m=s0:=by
   intro m
   induction m with
   | zero=>rfl
   | succ m ihm=>have hm0:=h0 m;simp only [SD];exact(if_neg (by rw [hm0];simp)).trans ihm
  exact this _
 rw [this];exact hrep'
theorem aDh {ops:Array Oper} (hT:nU P T) {all:List Ev} {s0:FS}:∀(l:List Oper) (i:Nat) (s:LS) (orc:List Or) (evs:List Ev) (s':LS) (obs:List Ob) (orc':List Or),nG T ops l i s orc=some (evs,s',obs,orc')->Obs P obs ->
 (∀j o,l[j]? = some o->ops[i+j]? = some o)->(∀j,evs[j]? = all[i+j]?)->s.fs=SD (cL ops all) (fun _=>true) s0 i ->
 evs.length=l.length/\s'.fs=SD (cL ops all) (fun _=>true) s0 (i+l.length)/\s'.sl.length=s.sl.length /\
  ∀j v,evs[j]? = some v->qA P r n cx s.sl.length D ops (i+j) (SD (cL ops all) (fun _=>true) s0 (i+j)) v
 | [],i,s,orc,evs,s',obs,orc',h,_,_,_,hs=>by
  simp only [nG,bG,eZ] at h
  obtain⟨rfl,rfl,_,_⟩:=h
  exact⟨rfl,hs,rfl,fun j v hv=>by simp at hv⟩
 | o::l,i,s,orc,evs,s',obs,orc',h,hob,hl,he,hs=>by
  simp only [nG] at h
  split at h
  ·cases h
  ·rename_i v obs1 orc1 hv
   split at h
   ·cases h
   ·rename_i s1 happ
    split at h
    ·cases h
    ·rename_i vs s2 obs2 orc2 hrest
     simp only [bG,eZ] at h
     obtain⟨rfl,rfl,rfl,rfl⟩:=h
     obtain⟨ho1,ho2⟩:=Obs.append hob
     have hi:ops[i]? = some o:=by have:=hl 0 o (by simp);simpa using this
     have hall:all[i]? = some v:=by have:=he 0;simpa using this.symm
     obtain⟨hfs,hd,hlen⟩:=aIv happ
     have hs1:s1.fs=SD (cL ops all) (fun _=>true) s0 (i+1):=by
      simp only [SD,if_true,cL,hall,←hs]
      rw [hfs];simp [iD,hi]
     obtain⟨h1,h2,h3,h4⟩:=aDh hT l (i+1) s1 orc1 vs s2 obs2 orc2 hrest ho2 (fun j o' hj=>by have:=hl (j+1) o' (by simpa using hj);simpa [Nat.add_assoc,Nat.add_comm 1 j] using this)
      (fun j=>by have:=he (j+1);simpa [Nat.add_assoc,Nat.add_comm 1 j] using this) hs1
     refine⟨by simp [h1],by rw [h2];congr 1;simp;omega,h3.trans hlen,fun j w hw=>?_⟩
     cases j with
     | zero =>
      simp at hw;subst hw
      have:=aD4 (r:=r) (n:=n) (w0:=cx) (D:=D) hT hv ho1 hi hd
      rw [Nat.add_zero,←hs];exact this
     | succ j =>
      have:=h4 j w (by simpa using hw)
      rw [hlen] at this
      rw [show i+(j+1)=i+1+j by omega];exact this
def aTk (ops:Array Oper)(m:Nat):Bool:=(List.range ops.size).all fun i =>
 ((ops.toList[i]?).map fun o=>(kE o).all fun e=>decide (e < i)).getD true&&(decide (i < m) || (List.range i).all fun j=>((tZ ops.toList []).getD i 0).testBit j)
def aFv (T:Nat->Option TI)(ops:Array Oper)(draw:Bool)(m:Nat)(s:LS)(orc:List Or):Option (LS×List Ob) :=
 match nG T ops (ops.toList.take m) 0 s orc with
 | some (evs,s',obs,[])=>if(!draw || (aA0 (ops.toList.take m).toArray evs&&aTk ops m))=true then some (s',obs++(if draw=true then uA (ops.toList.take m).toArray evs else [])) else none
 | _=>none
theorem wG (hT:nU P T)(hm:P.follows .mixedOrders=true) {ops:Array Oper} {draw:Bool} {m:Nat} (hms:m<=ops.size) {s s':LS} {orc:List Or} {obs:List Ob} {id:Nat}
 (h:aFv T ops draw m s orc=some (s',obs)) (hob:Obs P obs) (hrep:Rep cx s.sl.length D ρ s.fs a W)
 (hK:∀ρ' a' W',Rep cx s'.sl.length D ρ' s'.fs a' W'->s'.sl.length=s.sl.length->wpOpsIn (Fw r) n P ops Q (List.range' m (ops.size - m)) a' W'):(Code.region id ops draw).wpIn (Fw r) n P Q a W:=by
 unfold aFv at h
 split at h
 ·rename_i evs s1 obs1 hev
  split at h
  ·rename_i hch
   simp only [bG,eZ] at h
   obtain⟨rfl,rfl⟩:=h
   obtain⟨hob1,hob2⟩:=Obs.append hob
   have hget:∀j o,(ops.toList.take m)[j]? = some o->ops[0+j]? = some o:=fun j o hj=>by
    have hjl:=(List.getElem?_eq_some_iff.1 hj).1
    rw [List.length_take] at hjl
    rw [List.getElem?_take,if_pos (by omega)] at hj
    simpa using hj
   have hlt:(ops.toList.take m).length=m:=by simp [hms]
   cases draw with
   | false =>
    refine wpIn_region ?_
    have hsz:List.range ops.size=List.range' 0 (ops.toList.take m).length++List.range' m (ops.size - m):=by
     rw [hlt,List.range_eq_range']
     have:=List.range'_append_1 (s:=0) (m:=m) (n:=ops.size - m)
     rw [Nat.zero_add] at this
     rw [this];congr 1;omega
    rw [hsz]
    exact aD9 hT _ 0 s _ orc [] evs obs1 hev hob1 hget ρ a W hrep (fun ρ' a' W' h' e'=>hK ρ' a' W' (by rw [e'];exact h') e')
   | true =>
    simp only [Bool.not_true,Bool.false_or,Bool.and_eq_true] at hch
    obtain⟨hrace,hsufc⟩:=hch
    obtain⟨h1,h2,h3,h4⟩:=aDh (ops:=ops) (r:=r) (n:=n) (cx:=cx) (D:=D) (all:=evs) (s0:=s.fs) hT _ 0 s orc evs _ obs1 [] hev hob1 hget (fun j=>by simp) rfl
    have hlen:evs.length=m:=by rw [h1,hlt]
    have hlenA:evs.length=(ops.toList.take m).toArray.size:=by rw [h1];simp
    obtain⟨c,hlowA⟩:=vL hlenA hrace hob2
    have hdst:∀i,i < m->iD (ops.toList.take m).toArray i=iD ops i:=fun i hi=>by
     simp only [iD,List.getElem?_toArray,List.getElem?_take,hi,if_true,Array.getElem?_toList]
    have hstep:cL (ops.toList.take m).toArray evs=cL ops evs:=by
     funext i s
     unfold cL
     cases hv:evs[i]? with
     | none=>rfl
     | some v =>
      have:=(List.getElem?_eq_some_iff.1 hv).1
      simp only []
      rw [hdst i (by omega)]
    rw [hstep,←hlenA,hlen] at c
    have hA:∀i o,i < m->ops[i]? = some o->(ops.toList.take m).toArray[i]? = some o:=fun i o hi ho=>by
     simp only [List.getElem?_toArray,List.getElem?_take,hi,if_true,Array.getElem?_toList];exact ho
    have hB:∀i o,(ops.toList.take m).toArray[i]? = some o->ops[i]? = some o:=fun i o ho=>by
     have:=hget i o (by rw [←List.getElem?_toArray];exact ho);simpa using this
    unfold aTk at hsufc
    simp only [List.all_eq_true,List.mem_range,Bool.and_eq_true] at hsufc
    have hlow:∀i o,ops[i]? = some o->∀e∈o.after,Region.binds .any e=true->e.on < i:=fun i o ho e he hb=>by
     have:=(hsufc i (Array.getElem?_eq_some_iff.1 ho).1).1
     have ho':ops.toList[i]? = some o:=by simpa using ho
     rw [ho'] at this
     simp only [Option.map_some,Option.getD_some,List.all_eq_true,decide_eq_true_eq] at this
     exact this e.on (qB.2 ⟨e,he,hb,rfl⟩)
    refine aJ5 hlen hms hm c (fun i v t hv ht=>⟨v,hv,?_⟩) (fun i v k hv hk=>?_) hlow (fun D i o hi ho hcl hd k hk=>?_) (fun D i o hi ho hcl hd k hk=>?_) (fun i v hv=>by have:=h4 i v hv;simpa using this) hrep (fun ρ' a' W' h'=>hK ρ' a' W' (by rw [h3,h2,hlt,Nat.zero_add];exact h') h3)
    ·simp only [rdC,gQ];exact List.mem_append_left _ (List.mem_map.2 ⟨t,ht,rfl⟩)
    ·by_cases hal:k∈v.alt.map (·.1)
     ·obtain⟨q,hq,rfl⟩:=List.mem_map.1 hal
      refine .inr ⟨⟨v,hv,by simp only [aD2,gQ];exact List.mem_map.2 ⟨q,hq,rfl⟩⟩,fun y hy=>?_⟩
      obtain⟨v',k',b,hv',hk',hb,rfl⟩:=hy
      rw [hv] at hv';cases hv'
      cases hk'
      exact⟨b,rfl,hb⟩
     ·refine .inl ⟨v,hv,?_⟩
      simp only [rdC,gQ]
      exact List.mem_append_right _ (List.mem_map.2 ⟨k,List.mem_filter.2 ⟨hk,by simpa using hal⟩,rfl⟩)
    ·exact uB (ops:=(ops.toList.take m).toArray) (fun j o' hj=>hcl j o' (hB j o' hj)) hlowA i o (hA i o hi ho) hd k hk.2
    ·have hall:=(hsufc i (Array.getElem?_eq_some_iff.1 ho).1).2
     rw [show decide (i < m)=false by simpa using hi,Bool.false_or,List.all_eq_true] at hall
     exact uB hcl hlow i o ho hd k (hall k (by simpa using hk))
  ·cases h
 ·cases h
end
end Go.Aw
namespace Go.Aw
open Go.RowKit
section
variable {P : Program} {T : Nat → Option TI} {cx : Cx} {N : Nat} {D : List Deferred} {ρ : Env} {s : LS} {a : Act} {W : World} {r : Option Nat} {n : Nat} {Q : Exit → Act → World → Prop}
theorem aP0 {l:List SV} {t:Nat} (ht:t < l.length) {x:SV} {u:Nat}:(l.set t x).getD u .u=if u=t then x else l.getD u .u:=by
 simp only [fV,List.getElem?_set]
 by_cases hu:t=u
 ·subst hu;simp [ht]
 ·rw [if_neg hu,if_neg (fun e=>hu e.symm)]
theorem Rep.hideC (h:Rep cx N D ρ s.fs a W) {t fr nn es:Nat} {sym:Bool} {cells:List SV} (htl:t < s.sl.length)(hb:s.bk[fr]? = some (.live true sym cells))(hpl:Plain cells)(hlen:cells.length=nn*es)
 {id cap L:Nat} (hρ:ρ fr=some (id,0,L)) (hcap:nn<=cap) (hL:cap*es<=L) {x:SV} (hx:Rel ρ x (a.tmps.getD t undef)) (hxn:∀k,¬x.has k) :
 Rep cx N D ρ (⟨s.sl.set t x,s.bk.set fr .dead⟩:LS).fs a W/\RowOK cx ρ (⟨s.sl.set t x,s.bk.set fr .dead⟩:LS).fs W nn es (id,cap,cells)/\mB ρ s.fs id/\∀b,mB ρ (⟨s.sl.set t x,s.bk.set fr .dead⟩:LS).fs b->mB ρ s.fs b:=by
 have hfl:fr < s.bk.length:=(List.getElem?_eq_some_iff.1 hb).1
 have hbf:s.fs.bk fr=.live true sym cells:=aKz hb
 have hown:mB ρ s.fs id:=⟨fr,L,by rw [hbf];trivial,hρ⟩
 have e1:∀u,(⟨s.sl.set t x,s.bk.set fr .dead⟩:LS).fs.sl u=if u=t then x else s.fs.sl u:=fun u=>aP0 htl
 have e2:∀k,(⟨s.sl.set t x,s.bk.set fr .dead⟩:LS).fs.bk k=if k=fr then .dead else s.fs.bk k:=fun k=>eX hfl
 have hown':∀k,((⟨s.sl.set t x,s.bk.set fr .dead⟩:LS).fs.bk k).own->k≠fr/\(s.fs.bk k).own:=fun k hk=>by
  rw [e2] at hk
  by_cases hkf:k=fr
  ·rw [if_pos hkf] at hk;exact hk.elim
  ·rw [if_neg hkf] at hk;exact⟨hkf,hk⟩
 have hun:∀k,s.fs.bk k≠.un->(⟨s.sl.set t x,s.bk.set fr .dead⟩:LS).fs.bk k≠.un:=fun k hk=>by
  rw [e2];split
  ·simp
  ·exact hk
 have hbr:=h.bk fr
 rw [hbf] at hbr
 refine⟨?_,?_,hown,fun b ⟨k,m,hk,hk'⟩=>⟨k,m,(hown' k hk).2,hk'⟩⟩
 ·refine { defs:=h.defs,size:=h.size,sl:=fun u=>?_,bk:=fun k=>?_,apart:=fun i j b m b' m' hij hi hj=>h.apart i j b m b' m' hij (hown' i hi).2 (hown' j hj).2,wf1:=fun u k hk=>hun k ?_,wf2:=fun j k hk=>hun k ?_,
           kept:=h.kept,pl:=fun k=>?_,old:=fun i hi=>⟨(h.old i hi).1,hun i (h.old i hi).2⟩,fzn:=fun b o ho=>⟨(h.fzn b o ho).1,fun k m hk=>(h.fzn b o ho).2.1 k m (hown' k hk).2,(h.fzn b o ho).2.2⟩,fzo:=h.fzo }
  ·rw [e1];split
   ·rename_i hu;subst hu;exact hx
   ·exact h.sl u
  ·rw [e2];split
   ·trivial
   ·exact h.bk k
  ·rw [e1] at hk;split at hk
   ·exact(hxn k hk).elim
   ·exact h.wf1 u k hk
  ·rw [e2] at hk;split at hk
   ·exact hk.elim
   ·exact h.wf2 j k hk
  ·rw [e2];split
   ·trivial
   ·exact h.pl k
 ·rcases hbr with⟨q1,_⟩ | ⟨b,vs,rest,ty,q1,q2,q3,q4⟩
  ·rw [hρ] at q1;cases q1
  ·rw [hρ] at q1;cases q1
   refine⟨hpl,hlen,hcap,q2,fun⟨k,m,hk,hk'⟩=>?_,?_,vs,rest,ty,q3,q4,hL⟩
   ·obtain⟨g1,g2⟩:=hown' k hk
    exact h.apart k fr id m id _ g1 g2 (by rw [hbf];trivial) hk' hρ rfl
   ·cases hf:ρ.fz id with
    | none=>rfl
    | some o=>exact((h.fzn id o hf).2.1 fr _ (by rw [hbf];trivial) hρ).elim
theorem Rep.hide (h:Rep cx N D ρ s.fs a W) {t fr nn es:Nat} {sym:Bool} {cells:List SV} (ht:s.sl[t]? = some (.s fr 0 nn es))(hb:s.bk[fr]? = some (.live true sym cells))(hpl:Plain cells)(hlen:cells.length=nn*es)(hn:nn≠0) :
 ∃id cap,Rep cx N D ρ (⟨s.sl.set t (.v (mE nn (id,cap,cells))),s.bk.set fr .dead⟩:LS).fs a W/\RowOK cx ρ (⟨s.sl.set t (.v (mE nn (id,cap,cells))),s.bk.set fr .dead⟩:LS).fs W nn es (id,cap,cells)/\mB ρ s.fs id /\
  ∀b,mB ρ (⟨s.sl.set t (.v (mE nn (id,cap,cells))),s.bk.set fr .dead⟩:LS).fs b->mB ρ s.fs b:=by
 have htl:=(List.getElem?_eq_some_iff.1 ht).1
 have hbf:s.fs.bk fr=.live true sym cells:=aKz hb
 have hr:=h.sl t
 have ht':s.fs.sl t=.s fr 0 nn es:=by simp [LS.fs,fV,ht]
 rw [ht'] at hr
 simp only [Rel] at hr
 rcases hr with⟨_,e,_⟩ | ⟨b,o,m,cap,off',sp,q1,q2,q3,q4,q5⟩
 ·exact(hn e).elim
 have hc:cap≠0:=by omega
 obtain⟨rfl,rfl⟩:=q5 hc
 have hbr:=h.bk fr
 rw [hbf] at hbr
 rcases hbr with⟨g1,_⟩ | ⟨b',vs,rest,ty,g1,g2,g3,g4⟩
 ·rw [q1] at g1;cases g1
 ·rw [q1] at g1;cases g1
  exact⟨b,cap,h.hideC htl hb hpl hlen q1 q3 (by omega) (x:=.v (mE nn (b,cap,cells))) (by simp only [Rel];exact q2) (fun k hk=>hk)⟩
theorem Rep.show (h:Rep cx N D ρ s.fs a W) {t nn es:Nat} {x:iK} (hr:RowOK cx ρ s.fs W nn es x)(ht:s.sl[t]? = some (.v (mE nn x))) :
 ∃ρ' L,ρ' s.bk.length=some (x.1,0,L)/\x.2.1*es<=L/\Rep cx N D ρ' (⟨s.sl.set t (.s s.bk.length 0 nn es),s.bk++[.live true true x.2.2]⟩:LS).fs a W /\
  (∀b,mB ρ' (⟨s.sl.set t (.s s.bk.length 0 nn es),s.bk++[.live true true x.2.2]⟩:LS).fs b->mB ρ s.fs b\/b=x.1)/\ρ'.fz=ρ.fz:=by
 obtain⟨vs,rest,ty,p1,p2,p3⟩:=hr.at'
 have htl:=(List.getElem?_eq_some_iff.1 ht).1
 have hfree:s.fs.bk s.bk.length=.un:=rR (Nat.le_refl _)
 have hle:=ρ.le_set s.bk.length (some (x.1,0,(vs++rest).length))
 have hne:∀j,s.fs.bk j≠.un->(ρ.set s.bk.length (some (x.1,0,(vs++rest).length))) j=ρ j:=fun j hj=>if_neg (fun e=>hj (by rw [e];exact hfree))
 have e1:∀u,(⟨s.sl.set t (.s s.bk.length 0 nn es),s.bk++[.live true true x.2.2]⟩:LS).fs.sl u=if u=t then .s s.bk.length 0 nn es else s.fs.sl u:=fun u=>aP0 htl
 have e2:∀k,(⟨s.sl.set t (.s s.bk.length 0 nn es),s.bk++[.live true true x.2.2]⟩:LS).fs.bk k=if k=s.bk.length then .live true true x.2.2 else s.fs.bk k:=fun k=>dW
 have hun:∀k,s.fs.bk k≠.un->(⟨s.sl.set t (.s s.bk.length 0 nn es),s.bk++[.live true true x.2.2]⟩:LS).fs.bk k≠.un:=fun k hk=>by
  rw [e2];split
  ·simp
  ·exact hk
 have hset:(ρ.set s.bk.length (some (x.1,0,(vs++rest).length))) s.bk.length=some (x.1,0,(vs++rest).length):=by simp
 have hown:∀k b m,((⟨s.sl.set t (.s s.bk.length 0 nn es),s.bk++[.live true true x.2.2]⟩:LS).fs.bk k).own->(ρ.set s.bk.length (some (x.1,0,(vs++rest).length))) k=some (b,0,m)->(k=s.bk.length/\b=x.1)\/(k≠s.bk.length/\(s.fs.bk k).own/\ρ k=some (b,0,m)):=fun k b m hk hk'=>by
  rw [e2] at hk
  by_cases hkf:k=s.bk.length
  ·subst hkf;rw [hset] at hk';cases hk';exact .inl ⟨rfl,rfl⟩
  ·rw [if_neg hkf] at hk
   refine .inr ⟨hkf,hk,?_⟩
   rw [←hk'];simp [hkf]
 refine⟨_,(vs++rest).length,hset,p3,?_,fun b ⟨k,m,hk,hk'⟩=>?_,rfl⟩
 ·refine { defs:=h.defs,size:=h.size,sl:=fun u=>?_,bk:=fun k=>?_,apart:=fun i j b m b' m' hij hi hj q1 q2=>?_,wf1:=fun u k hk=>?_,wf2:=fun j k hk=>?_,
           kept:=h.kept,pl:=fun k=>?_,old:=fun i hi=>⟨(hne i (h.old i hi).2).trans (h.old i hi).1,hun i (h.old i hi).2⟩,fzn:=fun b o ho=>⟨(h.fzn b o ho).1,fun k m hk hk'=>?_,(h.fzn b o ho).2.2⟩,fzo:=h.fzo }
  ·rw [e1];split
   ·rename_i hu;subst hu
    have:=h.sl u
    rw [show s.fs.sl u=.v (mE nn x) by simp [LS.fs,fV,ht]] at this
    simp only [Rel] at this ⊢
    exact .inr ⟨x.1,0,_,x.2.1,0,Option.none,hset,this,hr.cap,by omega,fun _=>⟨rfl,rfl⟩⟩
   ·exact Rel.congr hle _ _ (fun j hj=>hne j (h.wf1 u j hj)) (h.sl u)
  ·rw [e2];split
   ·rename_i hk;subst hk
    exact .inr ⟨x.1,vs,rest,ty,hset,hr.mine,Plain.congr hle hr.pl p1,p2⟩
   ·rename_i hk
    exact BRep.congr hle (by simp [hk]) (fun j hj=>hne j (h.wf2 k j hj)) (h.bk k)
  ·rcases hown i b m hi q1 with⟨g1,g2⟩ | ⟨g1,g2,g3⟩<;>rcases hown j b' m' hj q2 with⟨g4,g5⟩ | ⟨g4,g5,g6⟩
   ·exact(hij (g1.trans g4.symm)).elim
   ·intro e;exact hr.own ⟨j,m',g5,by rw [←g2,e];exact g6⟩
   ·intro e;exact hr.own ⟨i,m,g2,by rw [←g5,←e];exact g3⟩
   ·exact h.apart i j b m b' m' hij g2 g5 g3 g6
  ·rw [e1] at hk;split at hk
   ·simp only [SV.has] at hk
    rw [e2,if_pos hk.symm];simp
   ·exact hun k (h.wf1 u k hk)
  ·rw [e2] at hk;split at hk
   ·exact(hr.pl k hk).elim
   ·exact hun k (h.wf2 j k hk)
  ·rw [e2];split
   ·exact hr.pl
   ·exact h.pl k
  ·rcases hown k b m hk hk' with⟨g1,g2⟩ | ⟨g1,g2,g3⟩
   ·have:=hr.fz
    rw [←g2] at this
    change ρ.fz b=some o at ho
    rw [this] at ho;cases ho
   ·exact(h.fzn b o ho).2.1 k m g2 g3
 ·rcases hown k b m hk hk' with⟨g1,g2⟩ | ⟨g1,g2,g3⟩
  ·exact .inr g2
  ·exact .inl ⟨k,m,g2,g3⟩
theorem TabOK.add {nn es:Nat} {rows rows':List (Option iK)} {s s':FS} (ht:TabOK cx ρ s W nn es rows)(hown:∀b,mB ρ s' b->mB ρ s b) {x:iK} (hx:RowOK cx ρ s' W nn es x)(hxo:mB ρ s x.1)(i:Nat)
 (hr:∀j q,rows'[j]? = some (some q)->(j=i/\q=x)\/(j≠i/\rows[j]? = some (some q))):TabOK cx ρ s' W nn es rows':=by
 have hold:∀j q,rows[j]? = some (some q)->RowOK cx ρ s' W nn es q:=fun j q hj=>by
  have:=ht.row j q hj
  exact⟨this.pl,this.len,this.cap,this.mine,fun ho=>this.own (hown _ ho),this.fz,this.at'⟩
 refine⟨fun j q hj=>?_,fun j k q q' hjk hj hk=>?_⟩
 ·rcases hr j q hj with⟨_,rfl⟩ | ⟨_,g⟩
  ·exact hx
  ·exact hold j q g
 ·rcases hr j q hj with⟨g1,rfl⟩ | ⟨g1,g2⟩<;>rcases hr k q' hk with⟨g3,rfl⟩ | ⟨g3,g4⟩
  ·exact(hjk (g1.trans g3.symm)).elim
  ·intro e;exact(ht.row k q' g4).own (e▸hxo)
  ·intro e;exact(ht.row j q g2).own (e▸hxo)
  ·exact ht.ne j k q q' hjk g2 g4
theorem TabOK.rem {nn es:Nat} {rows:List (Option iK)} {s s':FS} {ρ':Env} (ht:TabOK cx ρ s W nn es rows) {x:iK} {i:Nat} (hi:rows[i]? = some (some x))(hown:∀b,mB ρ' s' b->mB ρ s b\/b=x.1)(hfz:ρ'.fz=ρ.fz) :
 TabOK cx ρ' s' W nn es (rows.set i none):=by
 have hg:∀j q,(rows.set i none)[j]? = some (some q)->j≠i/\rows[j]? = some (some q):=fun j q hj=>by
  rw [List.getElem?_set] at hj
  split at hj
  ·split at hj<;>simp at hj
  ·rename_i hne;exact⟨fun e=>hne e.symm,hj⟩
 refine⟨fun j q hj=>?_,fun j k q q' hjk hj hk=>ht.ne j k q q' hjk (hg j q hj).2 (hg k q' hk).2⟩
 obtain⟨g1,g2⟩:=hg j q hj
 have h:=ht.row j q g2
 refine⟨h.pl,h.len,h.cap,h.mine,fun ho=>?_,by rw [hfz];exact h.fz,?_⟩
 ·rcases hown _ ho with g | g
  ·exact h.own g
  ·exact ht.ne j i q x g1 g2 hi g
 ·obtain⟨vs,rest,ty,p1,p2,p3⟩:=h.at'
  exact⟨vs,rest,ty,Plain.congr (fun b o hb=>by rw [hfz];exact hb) h.pl p1,p2,p3⟩
theorem aHt (hT:nU P T) {ops:Array Oper} {m:Nat} (hms:m<=ops.size) {s s':LS} {orc:List Or} {obs:List Ob} (h:evS T ops (ops.toList.drop m) m s orc=some (s',obs))(hob:Obs P obs)(hrep:Rep cx s.sl.length D ρ s.fs a W)
 (hK:∀ρ' a' W',Rep cx s'.sl.length D ρ' s'.fs a' W'->s'.sl.length=s.sl.length->Q .normal a' W'):wpOpsIn (Fw r) n P ops Q (List.range' m (ops.size - m)) a W:=by
 obtain⟨evs,hev⟩:=aN7 h
 have hlen:(ops.toList.drop m).length=ops.size - m:=by simp
 have:=aD9 (r:=r) (n:=n) (cx:=cx) (D:=D) (P:=P) (Q:=Q) (rest:=[]) hT (ops.toList.drop m) m s s' orc [] evs obs hev hob (fun j o hj=>by rw [List.getElem?_drop] at hj;simpa using hj) ρ a W hrep
  (fun ρ' a' W' h' e'=>by simp only [wpOpsIn];exact hK ρ' a' W' (by rw [e'];exact h') e')
 rw [List.append_nil,hlen] at this
 exact this
def BK.kn:BK->Bool
 | .un=>false
 | _=>true
theorem GoodT.put (hT:nU P T)(hm:P.follows .mixedOrders=true) {ops:Array Oper} {draw:Bool} (m:Nat)(hms:m<=ops.size) {id0:Nat} {nn es:Nat} {rows:List (Option iK)} {k:List K} {s:LS} (s0:LS)(sts:List (St P))(ads:List Adj)(s1:LS)(t i:Nat)(x:iK)
 (h1:aFv T ops draw m s (nV sts)=some (s0,stB sts)) (ha:rT ads s0=some s1) (hkn:s1.bk.all BK.kn=true) (ro1:roE cx.base s1.bk s.bk) (ht:s1.sl[t]? = some (.v (mE nn x))) (hi:rows[i]? = some (some x))
 (s2:LS) (sts2:List (St P)) (h2:evS T ops (ops.toList.drop m) m ⟨s1.sl.set t (.s s1.bk.length 0 nn es),s1.bk++[.live true true x.2.2]⟩ (nV sts2)=some (s2,stB sts2)) (ro2:roE (s1.bk.length+1) s2.bk (s1.bk++[.live true true x.2.2]))
 (cells:List SV) (hb:s2.bk[s1.bk.length]? = some (.live true true cells)) (hpl:Plain cells) (hlen:cells.length=nn*es)
 (hg:GoodT P r n Q cx D nn es (rows.set i (some (x.1,x.2.1,cells))) k ⟨s2.sl.set t .u,s2.bk.set s1.bk.length .dead⟩):GoodT P r n Q cx D nn es rows (.c (.region id0 ops draw)::k) s:=by
 intro ρ a W hrep htab
 simp only [iN]
 refine wG hT hm hms h1 (aBb sts) (hrep.sub' (base:=cx.base) (fun i hi=>(hrep.old i hi).2)) (fun ρ0 a1 W1 hr0 hl0=>?_)
 obtain⟨ρ1,hr1,hl1⟩:=zU ads ha hr0
 rw [←hl1] at hr1
 have hrep1:=hrep.back (Nat.le_refl _) hr1 (aCa ro1)
 have htab1:=htab.back hr1
 have hrow:=htab1.row i x hi
 obtain⟨ρ2,L,q1,q2,hrep2,q3,q4⟩:=hrep1.show hrow ht
 have htab2:=htab1.rem hi q3 q4
 have hbase:cx.base<=s1.bk.length+1:=by
  rcases Nat.lt_or_ge s1.bk.length cx.base with h' | h'
  ·exact absurd (rR (Nat.le_refl _)) ((hrep1.old s1.bk.length h').2)
  ·omega
 have hlive:∀j,j < s1.bk.length+1->(⟨s1.sl.set t (.s s1.bk.length 0 nn es),s1.bk++[.live true true x.2.2]⟩:LS).fs.bk j≠.un:=fun j hj e=>by
  have e':(s1.bk++[BK.live true true x.2.2]).getD j .un=.un:=e
  rw [dW] at e'
  split at e'
  ·cases e'
  ·have hjl:j < s1.bk.length:=by omega
   have:=List.all_eq_true.1 hkn s1.bk[j] (List.getElem_mem hjl)
   rw [fV,List.getElem?_eq_getElem hjl,Option.getD_some] at e'
   rw [e'] at this;cases this
 refine aHt hT hms h2 (aBb _) (cx:=Cx.only (s1.bk.length+1) W1 ρ2 (mB ρ2 _)) (by
  rw [show(⟨s1.sl.set t (.s s1.bk.length 0 nn es),s1.bk++[.live true true x.2.2]⟩:LS).sl.length=s1.sl.length by simp]
  exact hrep2.sub' (base:=s1.bk.length+1) hlive) (fun ρ3 a3 W3 hr3 hl3=>?_)
 ·have hrep3:=hrep2.back hbase hr3 (aCa (s:=⟨s1.sl.set t (.s s1.bk.length 0 nn es),s1.bk++[.live true true x.2.2]⟩) ro2)
  have htab3:=htab2.back hr3
  have e3:ρ3 s1.bk.length=some (x.1,0,L):=by
   have:=(hr3.old s1.bk.length (lss _)).1
   exact this.trans q1
  have htl:t < s2.sl.length:=by
   have:=(List.getElem?_eq_some_iff.1 ht).1
   rw [hl3];simpa using this
  obtain⟨hrep4,hrow4,hown4,hown4'⟩:=hrep3.hideC htl hb hpl hlen e3 hrow.cap q2 (x:=.u) (by simp [Rel]) (fun k hk=>hk)
  refine hg ρ3 a3 W3 (by rw [show(⟨s2.sl.set t .u,s2.bk.set s1.bk.length .dead⟩:LS).sl.length=s2.sl.length by simp];exact hrep4) (htab3.add hown4' hrow4 hown4 i (fun j q hj=>?_))
  have hil:=(List.getElem?_eq_some_iff.1 hi).1
  rw [List.getElem?_set] at hj
  split at hj
  ·rename_i hji
   subst hji
   simp only [bG] at hj
   exact .inl ⟨rfl,hj.symm⟩
  ·rename_i hji
   refine .inr ⟨fun e=>hji e.symm,?_⟩
   rw [List.getElem?_set,if_neg hji];exact hj
def cR (nn:Nat)(x:iK):List SV:=[.v (mE nn x)]
def cD (nn es:Nat)(x:iK):List SV:=[.d x.2.2 nn es]
theorem aHu {ρ ρ':Env} {nn es:Nat}:∀(rows:List iK) (vs:List Value),(∀x∈rows,Rel ρ' (.d x.2.2 nn es) (mE nn x))->Rels ρ (flat (cR nn) rows) vs->Rels ρ' (flat (cD nn es) rows) vs
 | [],[],_,h=>by simp [flat,Rels]
 | [],_::_,_,h=>by simp [flat,Rels] at h
 | x::rows,vs,hd,h=>by
  have e1:flat (cR nn) (x::rows)=.v (mE nn x)::flat (cR nn) rows:=rfl
  have e2:flat (cD nn es) (x::rows)=.d x.2.2 nn es::flat (cD nn es) rows:=rfl
  rw [e1] at h
  rw [e2]
  cases vs with
  | nil=>simp [Rels] at h
  | cons y vs =>
   simp only [Rels] at h ⊢
   refine⟨?_,aHu rows vs (fun x hx=>hd x (List.mem_cons_of_mem _ hx)) h.2⟩
   have:=h.1
   simp only [Rel] at this
   rw [this];exact hd x List.mem_cons_self
theorem aCb {nn es:Nat}:∀rows:List iK,Plain (flat (cD nn es) rows)
 | [],k,h=>by simp [flat,SV.hasl] at h
 | x::rows,k,h=>by
  have e2:flat (cD nn es) (x::rows)=.d x.2.2 nn es::flat (cD nn es) rows:=rfl
  rw [e2] at h
  simp only [SV.hasl,SV.has,false_or] at h
  exact aCb rows k h
theorem GoodT.freeze {nn es:Nat} {rows:List iK} (kk:Nat) {k:List K} {s:LS} (hb:s.bk[kk]? = some (.live true true (flat (cR nn) rows)))(hg:Good P r n Q cx D k ⟨s.sl,s.bk.set kk (.live true true (flat (cD nn es) rows))⟩) :
 GoodT P r n Q cx D nn es (rows.map some) k s:=by
 intro ρ a W h htab
 have hrow:∀x∈rows,RowOK cx ρ s.fs W nn es x:=fun x hx=>by
  obtain⟨i,hi,rfl⟩:=List.getElem_of_mem hx
  exact htab.row i _ (by simp [hi])
 have hkl:kk < s.bk.length:=(List.getElem?_eq_some_iff.1 hb).1
 have hbf:s.fs.bk kk=.live true true (flat (cR nn) rows):=aKz hb
 let g:Nat->Option FC:=fun b=>if rows.any (fun x=>x.1 == b)=true then(match W.heap[b]? with
  | some (.cells c ty fr)=>some (c,ty,fr)
  | _=>Option.none) else ρ.fz b
 have hg1:∀x∈rows,∀b,x.1=b->rows.any (fun x=>x.1 == b)=true:=fun x hx b hxb=>List.any_eq_true.2 ⟨x,hx,by simpa using hxb⟩
 have hg2:∀b,rows.any (fun x=>x.1 == b)=true->∃x∈rows,x.1=b:=fun b hb=>by
  obtain⟨x,hx,e⟩:=List.any_eq_true.1 hb
  exact⟨x,hx,by simpa using e⟩
 have hle:ρ.le ⟨ρ.loc,g⟩:=fun b o ho=>by
  show g b=some o
  have:¬rows.any (fun x=>x.1 == b)=true:=fun e=>by
   obtain⟨x,hx,rfl⟩:=hg2 b e
   have:=(hrow x hx).fz
   rw [this] at ho;cases ho
  simp only [g]
  rw [if_neg this];exact ho
 have hd:∀x∈rows,Rel ⟨ρ.loc,g⟩ (.d x.2.2 nn es) (mE nn x):=fun x hx=>by
  have hr:=hrow x hx
  obtain⟨vs,rest,ty,p1,p2,p3⟩:=hr.at'
  simp only [Rel]
  refine .inr ⟨x.1,0,x.2.1,(vs++rest).toArray,ty,(0,0),vs,rfl,hr.cap,?_,Plain.congr (ρ:=ρ) (ρ':=⟨fun _=>Option.none,g⟩) hle hr.pl p1,by rw [←p1.length];exact hr.len,fun i y hi=>?_⟩
  ·show g x.1=_
   simp only [g]
   rw [if_pos (hg1 x hx _ rfl),p2]
  ·have hil:=(List.getElem?_eq_some_iff.1 hi).1
   simp only [Nat.zero_add,List.getElem?_toArray]
   rw [List.getElem?_append_left hil];exact hi
 have e2:∀j,(⟨s.sl,s.bk.set kk (.live true true (flat (cD nn es) rows))⟩:LS).fs.bk j=if j=kk then .live true true (flat (cD nn es) rows) else s.fs.bk j:=fun j=>eX hkl
 have hown:∀j,((⟨s.sl,s.bk.set kk (.live true true (flat (cD nn es) rows))⟩:LS).fs.bk j).own->(s.fs.bk j).own:=fun j hj=>by
  rw [e2] at hj
  split at hj
  ·rename_i e;subst e;rw [hbf];trivial
  ·exact hj
 have hun:∀j,s.fs.bk j≠.un->(⟨s.sl,s.bk.set kk (.live true true (flat (cD nn es) rows))⟩:LS).fs.bk j≠.un:=fun j hj=>by
  rw [e2];split
  ·simp
  ·exact hj
 refine hg ⟨ρ.loc,g⟩ a W { defs:=h.defs,size:=h.size,sl:=fun t=>Rel.congr hle _ _ (fun _ _=>rfl) (h.sl t),bk:=fun j=>?_,apart:=fun i j b m b' m' hij hi hj=>h.apart i j b m b' m' hij (hown i hi) (hown j hj),wf1:=fun t j hj=>hun j (h.wf1 t j hj),wf2:=fun i j hj=>hun j ?_,kept:=h.kept,pl:=fun j=>?_,old:=fun i hi=>⟨(h.old i hi).1,hun i (h.old i hi).2⟩,fzn:=fun b o ho=>?_,fzo:=fun b o ho=>hle b o (h.fzo b o ho) }
 ·rw [e2];split
  ·rename_i e;subst e
   have:=h.bk j
   rw [hbf] at this
   rcases this with⟨q1,q2⟩ | ⟨b,vs,rest,ty,q1,q2,q3,q4⟩
   ·refine .inl ⟨q1,?_⟩
    cases rows with
    | nil=>rfl
    | cons x l=>exact absurd q2 (by simp [flat,cR])
   ·exact .inr ⟨b,vs,rest,ty,q1,q2,aHu rows vs hd q3,q4⟩
  ·exact BRep.congr hle rfl (fun _ _=>rfl) (h.bk j)
 ·rw [e2] at hj;split at hj
  ·exact(aCb rows j hj).elim
  ·exact h.wf2 i j hj
 ·rw [e2];split
  ·exact aCb rows
  ·exact h.pl j
 ·have ho':g b=some o:=ho
  simp only [g] at ho'
  split at ho'
  ·rename_i hany
   obtain⟨x,hx,rfl⟩:=hg2 b hany
   have hr:=hrow x hx
   obtain⟨vs,rest,ty,p1,p2,p3⟩:=hr.at'
   rw [p2] at ho'
   simp only [bG] at ho'
   subst ho'
   exact⟨p2,fun j m hj e=>hr.own ⟨j,m,hown j hj,e⟩,.inr hr.mine⟩
  ·obtain⟨f1,f2,f3⟩:=h.fzn b o ho'
   exact⟨f1,fun j m hj=>f2 j m (hown j hj),f3⟩
def nQ (T:Nat->Option TI)(ops:Array Oper)(draw:Bool)(m:Nat)(s:LS)(orc:List Or):LS:=((aFv T ops draw m s orc).map (·.1)).getD s
theorem aDi {ops:Array Oper} {draw:Bool} {m:Nat} {s:LS} {orc:List Or} {obs:List Ob} (h:(aFv T ops draw m s orc).map (·.2)=some obs):aFv T ops draw m s orc=some (nQ T ops draw m s orc,obs):=by
 unfold nQ
 cases hp:aFv T ops draw m s orc with
 | none=>rw [hp] at h;cases h
 | some x=>rw [hp] at h;simp only [Option.map_some,bG] at h;subst h;rfl
def evL (T:Nat->Option TI)(ops:Array Oper)(m:Nat)(s:LS)(orc:List Or):LS:=((evS T ops (ops.toList.drop m) m s orc).map (·.1)).getD s
theorem aHv {ops:Array Oper} {m:Nat} {s:LS} {orc:List Or} {obs:List Ob} (h:(evS T ops (ops.toList.drop m) m s orc).map (·.2)=some obs):evS T ops (ops.toList.drop m) m s orc=some (evL T ops m s orc,obs):=by
 unfold evL
 cases hp:evS T ops (ops.toList.drop m) m s orc with
 | none=>rw [hp] at h;cases h
 | some x=>rw [hp] at h;simp only [Option.map_some,bG] at h;subst h;rfl
def yA (ads:List Adj)(s:LS):LS:=(rT ads s).getD s
theorem aM9 {ads:List Adj} {s:LS} (h:(rT ads s).isSome=true):rT ads s=some (yA ads s):=by
 unfold yA
 cases hp:rT ads s with
 | none=>rw [hp] at h;cases h
 | some x=>rfl
def cE:Code->Nat×Array Oper×Bool
 | .region i o d=>(i,o,d)
 | _=>(0,#[],false)
def aHw (t nn es:Nat)(x:iK)(s:LS):LS:=⟨s.sl.set t (.s s.bk.length 0 nn es),s.bk++[.live true true x.2.2]⟩
def aCc (t fr:Nat)(y:SV)(s:LS):LS:=⟨s.sl.set t y,s.bk.set fr .dead⟩
theorem GoodT.putE (hT:nU P T)(hm:P.follows .mixedOrders=true) {B:Code} (hB:B=.region (cE B).1 (cE B).2.1 (cE B).2.2)(m:Nat)(hms:Nat.ble m (cE B).2.1.size=true) {nn es:Nat} {rows:List (Option iK)} {k:List K} {s:LS}
 (sts sts2:List (St P)) (ads:List Adj) (t i:Nat) (x:iK) (cells:List SV) {base:Nat} (hb:cx.base=base)
 (h1:(aFv T (cE B).2.1 (cE B).2.2 m s (nV sts)).map (·.2)=some (stB sts)) (ha:(rT ads (nQ T (cE B).2.1 (cE B).2.2 m s (nV sts))).isSome=true)
 (hkn:(yA ads (nQ T (cE B).2.1 (cE B).2.2 m s (nV sts))).bk.all BK.kn=true) (ro1:roE base (yA ads (nQ T (cE B).2.1 (cE B).2.2 m s (nV sts))).bk s.bk)
 (ht:(yA ads (nQ T (cE B).2.1 (cE B).2.2 m s (nV sts))).sl[t]? = some (.v (mE nn x))) (hi:rows[i]? = some (some x))
 (h2:(evS T (cE B).2.1 ((cE B).2.1.toList.drop m) m (aHw t nn es x (yA ads (nQ T (cE B).2.1 (cE B).2.2 m s (nV sts)))) (nV sts2)).map (·.2)=some (stB sts2))
 (ro2:roE ((yA ads (nQ T (cE B).2.1 (cE B).2.2 m s (nV sts))).bk.length+1) (evL T (cE B).2.1 m (aHw t nn es x (yA ads (nQ T (cE B).2.1 (cE B).2.2 m s (nV sts)))) (nV sts2)).bk (aHw t nn es x (yA ads (nQ T (cE B).2.1 (cE B).2.2 m s (nV sts)))).bk)
 (hbb:(evL T (cE B).2.1 m (aHw t nn es x (yA ads (nQ T (cE B).2.1 (cE B).2.2 m s (nV sts)))) (nV sts2)).bk[(yA ads (nQ T (cE B).2.1 (cE B).2.2 m s (nV sts))).bk.length]? = some (.live true true cells)) (hpl:Plain cells) (hlen:cells.length=nn*es)
 (hg:GoodT P r n Q cx D nn es (rows.set i (some (x.1,x.2.1,cells))) k (aCc t (yA ads (nQ T (cE B).2.1 (cE B).2.2 m s (nV sts))).bk.length .u (evL T (cE B).2.1 m (aHw t nn es x (yA ads (nQ T (cE B).2.1 (cE B).2.2 m s (nV sts)))) (nV sts2)))) :
 GoodT P r n Q cx D nn es rows (.c B::k) s:=by
 subst hb
 rw [hB]
 exact GoodT.put hT hm m (Nat.le_of_ble_eq_true hms) _ sts ads _ t i x (aDi h1) (aM9 ha) hkn ro1 ht hi _ sts2 (aHv h2) ro2 cells hbb hpl hlen hg
theorem GoodT.makeE (hT:nU P T)(hm:P.follows .mixedOrders=true) {B:Code} (hB:B=.region (cE B).1 (cE B).2.1 (cE B).2.2)(m:Nat)(hms:Nat.ble m (cE B).2.1.size=true) {nn es:Nat} {rows:List (Option iK)} (rows':Nat->Nat->List (Option iK)) {k:List K} {s:LS}
 (sts:List (St P)) (sts2:Nat->Nat->List (St P)) (t fr i:Nat) (sym:Bool) (cells:List SV) {base:Nat} (hb:cx.base=base)
 (h1:(aFv T (cE B).2.1 (cE B).2.2 m s (nV sts)).map (·.2)=some (stB sts)) (ro1:roE base (nQ T (cE B).2.1 (cE B).2.2 m s (nV sts)).bk s.bk)
 (ht:(nQ T (cE B).2.1 (cE B).2.2 m s (nV sts)).sl[t]? = some (.s fr 0 nn es)) (hbb:(nQ T (cE B).2.1 (cE B).2.2 m s (nV sts)).bk[fr]? = some (.live true sym cells)) (hpl:Plain cells) (hlen:cells.length=nn*es) (hn:nn≠0)
 (h2:∀id cap,(evS T (cE B).2.1 ((cE B).2.1.toList.drop m) m (aCc t fr (.v (mE nn (id,cap,cells))) (nQ T (cE B).2.1 (cE B).2.2 m s (nV sts))) (nV (sts2 id cap))).map (·.2)=some (stB (sts2 id cap)))
 (ro2:∀id cap,roE base (evL T (cE B).2.1 m (aCc t fr (.v (mE nn (id,cap,cells))) (nQ T (cE B).2.1 (cE B).2.2 m s (nV sts))) (nV (sts2 id cap))).bk (aCc t fr (.v (mE nn (id,cap,cells))) (nQ T (cE B).2.1 (cE B).2.2 m s (nV sts))).bk)
 (hrows:∀id cap j q,(rows' id cap)[j]? = some (some q)->(j=i/\q=(id,cap,cells))\/(j≠i/\rows[j]? = some (some q)))
 (hg:∀id cap,GoodT P r n Q cx D nn es (rows' id cap) k (evL T (cE B).2.1 m (aCc t fr (.v (mE nn (id,cap,cells))) (nQ T (cE B).2.1 (cE B).2.2 m s (nV sts))) (nV (sts2 id cap)))) :
 GoodT P r n Q cx D nn es rows (.c B::k) s:=by
 subst hb
 rw [hB]
 intro ρ a W hrep htab
 simp only [iN]
 refine wG hT hm (Nat.le_of_ble_eq_true hms) (aDi h1) (aBb sts) (hrep.sub' (base:=cx.base) (fun i hi=>(hrep.old i hi).2)) (fun ρ1 a1 W1 hr1 hl1=>?_)
 have hrep1:=hrep.back (Nat.le_refl _) hr1 (aCa ro1)
 have htab1:=htab.back hr1
 obtain⟨id,cap,hrep2,hrow,hown,hown2⟩:=hrep1.hide ht hbb hpl hlen hn
 have htab2:=htab1.add hown2 hrow hown i (hrows id cap)
 refine aHt hT (Nat.le_of_ble_eq_true hms) (aHv (h2 id cap)) (aBb _) (cx:=Cx.only cx.base W1 ρ1 (mB ρ1 _)) (by
  rw [show(aCc t fr (.v (mE nn (id,cap,cells))) (nQ T (cE B).2.1 (cE B).2.2 m s (nV sts))).sl.length=(nQ T (cE B).2.1 (cE B).2.2 m s (nV sts)).sl.length by simp [aCc]]
  exact hrep2.sub' (base:=cx.base) (fun i hi=>(hrep2.old i hi).2)) (fun ρ3 a3 W3 hr3 hl3=>?_)
 exact hg id cap ρ3 a3 W3 (hrep2.back (Nat.le_refl _) hr3 (aCa (ro2 id cap))) (htab2.back hr3)
theorem GoodT.none {nn es:Nat} {rows:List (Option iK)} {k:List K} {s:LS} (hr:∀(i:Nat)(x:iK),rows[i]? ≠ some (some x))(h:GoodT P r n Q cx D nn es rows k s):Good P r n Q cx D k s:=fun ρ a W hrep =>
 h ρ a W hrep ⟨fun i r hi=>(hr i r hi).elim,fun i j r q _ hi=>(hr i r hi).elim⟩
def cO (nn:Nat):Option iK->List SV
 | none=>[.v (.slice none 0 0)]
 | some x=>[.v (mE nn x)]
theorem aCd {nn:Nat}:∀o,(cO nn o).length=1
 | Option.none=>rfl
 | some _=>rfl
theorem aFw {nn:Nat}:∀rows:List iK,flat (cO nn) (rows.map some)=flat (cR nn) rows
 | []=>rfl
 | x::l=>by
  have:=aFw (nn:=nn) l
  simp only [flat,List.map_cons,List.flatMap_cons] at this ⊢
  rw [this];rfl
section tab
variable {α : Type} {c : α → List SV} {nn : Nat}
def TabR (c:α->List SV)(nn:Nat):List (Option iK)->List (List α)->Prop
 | [],[]=>True
 | o::v,l::m=>(match o with
  | none=>l=[]
  | some x=>l.length=nn/\x.2.2=flat c l)/\TabR c nn v m
 | _,_=>False
theorem TabR.length:∀{v:List (Option iK)} {m:List (List α)},TabR c nn v m->v.length=m.length
 | [],[],_=>rfl
 | [],_::_,h=>by simp [TabR] at h
 | _::_,[],h=>by simp [TabR] at h
 | _::_,_::_,h=>by simp only [TabR] at h;simp [TabR.length h.2]
theorem TabR.rep:∀n:Nat,TabR c nn (List.replicate n Option.none) (List.replicate n [])
 | 0=>trivial
 | n+1=>⟨rfl,TabR.rep n⟩
theorem TabR.get:∀{v:List (Option iK)} {m:List (List α)},TabR c nn v m->∀(i:Nat),i < m.length->(m.getD i []).length=nn->nn≠0->∃x:iK,v[i]? = some (some x)/\x.2.2=flat c (m.getD i [])
 | [],[],_,i,h,_,_=>by simp at h
 | [],_::_,h,_,_,_,_=>by simp [TabR] at h
 | _::_,[],h,_,_,_,_=>by simp [TabR] at h
 | o::v,l::m,h,0,_,hl,hn=>by
  simp only [TabR] at h
  simp only [List.getD_cons_zero] at hl ⊢
  cases o with
  | none=>simp only at h;rw [h.1] at hl;exact(hn hl.symm).elim
  | some x=>exact⟨x,rfl,h.1.2⟩
 | o::v,l::m,h,i+1,hi,hl,hn=>by
  simp only [TabR] at h
  simp only [List.getD_cons_succ] at hl ⊢
  simpa using TabR.get h.2 i (by simpa using hi) hl hn
theorem TabR.set:∀{v:List (Option iK)} {m:List (List α)},TabR c nn v m->∀(i:Nat) (x:iK) (l:List α),l.length=nn->x.2.2=flat c l->TabR c nn (v.set i (some x)) (m.set i l)
 | [],[],_,i,x,l,h1,h2=>trivial
 | [],_::_,h,_,_,_,_,_=>by simp [TabR] at h
 | _::_,[],h,_,_,_,_,_=>by simp [TabR] at h
 | o::v,l0::m,h,0,x,l,h1,h2=>by simp only [TabR] at h;exact⟨⟨h1,h2⟩,h.2⟩
 | o::v,l0::m,h,i+1,x,l,h1,h2=>by simp only [TabR] at h;exact⟨h.1,TabR.set h.2 i x l h1 h2⟩
theorem TabR.snoc:∀{v:List (Option iK)} {m:List (List α)},TabR c nn v m->∀(x:iK) (l:List α),l.length=nn->x.2.2=flat c l->TabR c nn (v++[some x]) (m++[l])
 | [],[],_,x,l,h1,h2=>⟨⟨h1,h2⟩,trivial⟩
 | [],_::_,h,_,_,_,_=>by simp [TabR] at h
 | _::_,[],h,_,_,_,_=>by simp [TabR] at h
 | o::v,l0::m,h,x,l,h1,h2=>by simp only [TabR] at h;exact⟨h.1,TabR.snoc h.2 x l h1 h2⟩
theorem TabR.rows {es:Nat} {cT:List α->List SV} (hcT:∀l,cT l=[.d (flat c l) l.length es])(hn:nn≠0):∀{v:List (Option iK)} {m:List (List α)},TabR c nn v m->(∀(i:Nat),i < m.length->(m.getD i []).length=nn)->∃rows:List iK,v=rows.map some/\flat (cD nn es) rows=flat cT m
 | [],[],_,_=>⟨[],rfl,rfl⟩
 | [],_::_,h,_=>by simp [TabR] at h
 | _::_,[],h,_=>by simp [TabR] at h
 | o::v,l::m,h,hl=>by
  simp only [TabR] at h
  obtain⟨rows,rfl,e⟩:=TabR.rows hcT hn h.2 (fun i hi=>by have:=hl (i+1) (by simpa using hi);simpa using this)
  have h0:=hl 0 (by simp)
  simp only [List.getD_cons_zero] at h0
  cases o with
  | none=>simp only at h;rw [h.1] at h0;exact(hn h0.symm).elim
  | some x =>
   refine⟨x::rows,rfl,?_⟩
   simp only [flat,List.flatMap_cons] at e ⊢
   rw [e,hcT]
   simp only [cD]
   rw [h.1.2,h0]<;>rfl
theorem TabR.rows' {α:Type} {c:α->List SV} {nn es:Nat} {cT:List α->List SV} (hcT:∀l,cT l=[.d (flat c l) l.length es]) {v:List (Option iK)} {m:List (List α)} (h:TabR c nn v m)(hm:m.length=nn)(hl:∀(i:Nat),i < m.length->(m.getD i []).length=nn):∃rows:List iK,v=rows.map some/\flat (cD nn es) rows=flat cT m:=by
 by_cases hn:nn=0
 ·have e:=h.length
  obtain rfl:m=[]:=List.eq_nil_of_length_eq_zero (by omega)
  obtain rfl:v=[]:=List.eq_nil_of_length_eq_zero e
  exact⟨[],rfl,rfl⟩
 ·exact h.rows hcT hn hl
end tab
theorem aP1 {rows:List (Option iK)} {i:Nat} {x:iK}:∀(j:Nat) (q:iK),(rows.set i (some x))[j]? = some (some q)->(j=i/\q=x)\/(j≠i/\rows[j]? = some (some q)):=fun j q hj=>by
 rw [List.getElem?_set] at hj
 split at hj
 ·rename_i hji
  subst hji
  split at hj
  ·first | (simp only [bG] at hj;exact .inl ⟨rfl,hj.symm⟩) | cases hj
  ·cases hj
 ·rename_i hji;exact .inr ⟨fun e=>hji e.symm,hj⟩
theorem aP2 {rows:List (Option iK)} {x:iK}:∀(j:Nat) (q:iK),(rows++[some x])[j]? = some (some q)->(j=rows.length/\q=x)\/(j≠rows.length/\rows[j]? = some (some q)):=fun j q hj=>by
 rcases Nat.lt_trichotomy j rows.length with h | h | h
 ·rw [List.getElem?_append_left h] at hj;exact .inr ⟨by omega,hj⟩
 ·subst h;rw [List.getElem?_append_right (Nat.le_refl _)] at hj
  simp at hj;exact .inl ⟨rfl,hj.symm⟩
 ·rw [List.getElem?_eq_none (by simp;omega)] at hj;cases hj
theorem aP3 {n:Nat}:∀(i:Nat) (x:iK),(List.replicate n (Option.none:Option iK))[i]? ≠ some (some x):=fun i x h=>by
 rw [List.getElem?_replicate] at h
 split at h<;>simp at h
theorem aP4 {nn:Nat} {v:List (Option iK)} {i:Int} (h:0<=i/\i < (v.length:Int)) {x:iK} (hx:v[i.toNat]? = some (some x)):((flat (cO nn) v).drop (0+i.toNat*1)).take 1=[.v (mE nn x)]:=by
 have e:=aKx (c:=cO nn) aCd Option.none v i 0 1 h (Nat.le_refl 1) (off:=0+i.toNat*1) (by omega) (r:=cO nn (some x)) (by
  rw [fV,hx];rfl)
 exact e
end
end Go.Aw
namespace Go.Proofs.YtkdfcbmcgnaicaaGreat
open Go.Proofs Go.Aw Go.RowKit
set_option maxRecDepth 100000
section
variable {cx : Cx} {k : List K} {s : LS} {base nn es : Nat} {rows : List (Option iK)} {Q : Exit → Act → World → Prop}
theorem enT (sts:List (St Tryz.prog))(ads:List Adj)(ts ks:List Nat)(hb:cx.base=base)(body:Code)(k':List K)(s':LS)(m:Nat)
 (h:vN base ts ks (pH ads (run T0 5000 k s (nV sts)))=some (body,k',s',stB sts)) (ro:roE base s'.bk s.bk) (hg:GoodT Tryz.prog none 9 Q cx [] nn es rows (.l body m::k') s'):GoodT Tryz.prog none 9 Q cx [] nn es rows k s :=
 GoodT.frame (fun _ hb1 h'=>en sts ads ts ks (hb1.trans hb) body k' s' m h h') (by rw [hb];exact ro) hg
theorem baT {m:Nat} (sts:List (St Tryz.prog))(ads:List Adj)(ts ks:List Nat)(hb:cx.base=base)(body:Code)(k':List K)(s':LS)
 (h:aA6 base ts ks (pH ads (run T0 5000 k s (nV sts)))=some (body,m,k',s',stB sts)) (ro:roE base s'.bk s.bk) (hg:GoodT Tryz.prog none 9 Q cx [] nn es rows (.l body m::k') s'):GoodT Tryz.prog none 9 Q cx [] nn es rows k s :=
 GoodT.frame (fun _ hb1 h'=>ba sts ads ts ks (hb1.trans hb) body k' s' h h') (by rw [hb];exact ro) hg
theorem gaT (sts:List (St Tryz.prog))(ads:List Adj)(ts ks:List Nat)(hb:cx.base=base)(x:Code)(k':List K)(s':LS)
 (h:aN6 base ts ks (pH ads (run T0 5000 k s (nV sts)))=some (x,k',s',stB sts)) (ro:roE base s'.bk s.bk) (hg:GoodT Tryz.prog none 9 Q cx [] nn es rows (.c x::k') s'):GoodT Tryz.prog none 9 Q cx [] nn es rows k s :=
 GoodT.frame (fun _ hb1 h'=>ga sts ads ts ks (hb1.trans hb) x k' s' h h') (by rw [hb];exact ro) hg
end
abbrev uX:=(List Int×bF)×List (Int×Int×Bool)×List (List (Int×Int))
def aWs (o:uX)(j:Int):Prop :=
 (0<=(o.2.1.getD (tN j) dF).1/\(o.2.1.getD (tN j) dF).1 < o.1.2.length) /\
 (0<=(o.2.1.getD (tN j) dF).2.1/\(o.2.1.getD (tN j) dF).2.1 < o.1.2.length) /\
 (0<=(o.1.2.getD (tN (o.2.1.getD (tN j) dF).1) dF).1/\(o.1.2.getD (tN (o.2.1.getD (tN j) dF).1) dF).1<=(o.1.2.getD (tN (o.2.1.getD (tN j) dF).1) dF).2.1/\(o.1.2.getD (tN (o.2.1.getD (tN j) dF).1) dF).2.1<=o.1.1.length) /\
 (0<=(o.1.2.getD (tN (o.2.1.getD (tN j) dF).2.1) dF).1/\(o.1.2.getD (tN (o.2.1.getD (tN j) dF).2.1) dF).1<=(o.1.2.getD (tN (o.2.1.getD (tN j) dF).2.1) dF).2.1/\(o.1.2.getD (tN (o.2.1.getD (tN j) dF).2.1) dF).2.1<=o.1.1.length) /\
 (((o.2.2.getD (tN j) dF).length:Nat):Int)=bif (o.2.1.getD (tN j) dF).2.2 then 1 else
   ((o.1.2.getD (tN (o.2.1.getD (tN j) dF).1) dF).2.1 - (o.1.2.getD (tN (o.2.1.getD (tN j) dF).1) dF).1) *
   ((o.1.2.getD (tN (o.2.1.getD (tN j) dF).2.1) dF).2.1 - (o.1.2.getD (tN (o.2.1.getD (tN j) dF).2.1) dF).1)
structure EntOK (n:Int) (o:uX):Prop where
 n1:0<=n/\n<=96
 nz:0 < o.2.1.length->1<=n
 ol:o.1.1.length<=96
 ord:InR (tN n) o.1.1
 sp:o.2.2.length=o.2.1.length/\o.2.1.length<=9216
 sl:∀j:Nat,(((o.2.2.getD j dF).length:Nat):Int)<=10000
 blk:∀j:Int,0<=j->j < o.2.1.length->aWs o j
structure TL {α:Type} (nn:Nat) (m:List (List α)) (i:Nat):Prop where
 len:m.length=nn
 row:∀j < i,(m.getD j []).length=nn
theorem TL.set {α:Type} {nn i:Nat} {m:List (List α)} (h:TL nn m i) {l:List α} (hl:l.length=nn)(k:Nat):TL nn (m.set k l) i:=by
 refine⟨by rw [List.length_set];exact h.1,fun j hj=>?_⟩
 rw [fV,List.getElem?_set]
 split
 ·split
  ·simpa using hl
  ·rename_i hjk hjl
   have:=h.2 j hj
   rw [fV,List.getElem?_eq_none (by omega)] at this
   simpa using this
 ·rw [←fV];exact h.2 j hj
theorem TL.next {α:Type} {nn i:Nat} {m:List (List α)} (h:TL nn m i)(hi:i < nn) {l:List α} (hl:l.length=nn):TL nn (m.set i l) (i+1):=by
 refine⟨(h.set hl i).1,fun j hj=>?_⟩
 rcases Nat.lt_or_ge j i with h' | h'
 ·exact(h.set hl i).2 j h'
 ·obtain rfl:j=i:=by omega
  rw [fV,List.getElem?_set,if_pos rfl,if_pos (by rw [h.1];exact hi)]
  exact hl
theorem TL.le {α:Type} {nn i k:Nat} {m:List (List α)} (h:TL nn m i)(hk:k<=i):TL nn m k:=⟨h.1,fun j hj=>h.2 j (by omega)⟩
theorem TL.rep {α:Type} {nn:Nat}:TL nn (List.replicate nn ([]:List α)) 0:=⟨by simp,fun j hj=>absurd hj (eI j)⟩
theorem qZ {l m:List SV} (h:l.length=m.length):m=splice l 0 m:=by
 unfold splice
 rw [List.take_zero,Nat.zero_add,←h,List.drop_length];simp
theorem zH {nn:Nat} {v:List (Option iK)} {i:Nat} {x:iK} (h:v[i]? = some (some x))(c:List SV):flat (cO nn) (v.set i (some (x.1,x.2.1,c)))=flat (cO nn) v:=by
 induction v generalizing i with
 | nil=>simp at h
 | cons o v ih =>
  cases i with
  | zero =>
   simp only [List.getElem?_cons_zero,bG] at h
   subst h
   rfl
  | succ i =>
   have:=ih (i:=i) (by simpa using h)
   simp only [List.set_cons_succ,flat,List.flatMap_cons] at this ⊢
   rw [this]
def zI (a:Int)(far:Bool)(p L:Int)(q:Int):Prop:=a=bif far then 0 else p*L+q
theorem aL2 {a p q L S:Int} {far:Bool} {n:Nat} (h:zI a far p L q)(hn:((n:Nat):Int)=bif far then 1 else S*L)(hp:0<=p/\p < S)(hq:0<=q/\q < L):0<=a/\a < (n:Int):=by
 unfold zI at h
 rw [hn,h]
 cases far with
 | true=>simp
 | false =>
  simp only [cond_false]
  have h1:0<=p*L:=Int.mul_nonneg hp.1 (by omega)
  have h2:(p+1)*L<=S*L:=Int.mul_le_mul_of_nonneg_right (by omega) (by omega)
  rw [Int.add_mul,Int.one_mul] at h2
  omega
theorem aL3 {a p q L:Int} {far:Bool} (h:zI a far p L q)(hf:(!far)=true):zI (a+1) far p L (q+1):=by
 unfold zI at *
 cases far with
 | true=>cases hf
 | false=>simp only [cond_false] at *;omega
theorem aP5 {a p q L:Int} {far:Bool} (h:zI a far p L q)(hf:(!far)=false)(q':Int):zI a far p L q':=by
 unfold zI at *
 cases far with
 | true=>exact h
 | false=>cases hf
theorem aP6 {a p q L:Int} {far:Bool} (h:zI a far p L q)(hq:q=L):zI a far (p+1) L 0:=by
 unfold zI at *
 subst hq
 cases far with
 | true=>exact h
 | false=>simp only [cond_false] at *;rw [h,Int.add_mul,Int.one_mul,Int.add_zero]
theorem uY {L:Int} {far:Bool}:zI 0 far 0 L 0:=by unfold zI;cases far<;>simp
theorem oH {L x:Int} {far:Bool}:zI 0 far (x - x) L 0:=by rw [Int.sub_self];exact uY
structure TK {α:Type} (nn k:Nat) (m:List (List α)):Prop where
 len:m.length=k
 row:∀j < k,(m.getD j []).length=nn
theorem TK.nil {α:Type} {nn:Nat}:TK nn 0 ([]:List (List α)):=⟨rfl,fun j hj=>absurd hj (eI j)⟩
theorem TK.next {α:Type} {nn k:Nat} {m:List (List α)} (h:TK nn k m) {l:List α} (hl:l.length=nn):TK nn (k+1) (m++[l]):=by
 refine⟨by rw [List.length_append,h.len];rfl,fun j hj=>?_⟩
 rcases Nat.lt_or_ge j k with h' | h'
 ·rw [fV,List.getElem?_append_left (by rw [h.len];exact h'),←fV];exact h.row j h'
 ·obtain rfl:j=k:=by omega
  rw [fV,List.getElem?_append_right (by rw [h.len];exact Nat.le_refl _),h.len,Nat.sub_self]
  exact hl
theorem TK.to {α:Type} {nn k k2:Nat} {m:List (List α)} (h:TK nn k m)(e:k2=k):TK nn k2 m:=by rw [e];exact h
theorem TK.tl {α:Type} {nn k:Nat} {m:List (List α)} (h:TK nn k m)(e:k=nn):TL nn m nn:=by subst e;exact⟨h.len,h.row⟩
def jM (x:List (Int×Int)):List SV:=[(.d (flat eW x) x.length 2)]
theorem lQ (x:List (Int×Int)):(jM x).length=1:=rfl
noncomputable def aP7:Code:=(cC [1,1,0,1,0,0,1,1,1] [0] (aL Tryz.f23)).1
noncomputable def aP8 (m0:Nat):List K:=(cC [1,1,0,1,0,0,1,1,1] [m0] (aL Tryz.f23)).2
def aL4 (a0:Int)(a1:(List Int×bF)×(List (Int×Int×Bool))×List (List (Int×Int)))(v6c:List SV)(v6n:Nat)(v7:Int):LS:=⟨gD 100 [(0,(iv a0)),(3,(.p 4 0)),(5,(.s 5 0 v6n 1)),(19,(iv (((tN a0):Nat):Int))),(20,(iv v7))],[(.live false true (flat c3 a1.1.1)),(.live false true (flat cB a1.1.2)),(.live false true (flat fC a1.2.1)),(.live false true (flat jM a1.2.2)),(.live true false [(.s 0 0 a1.1.1.length 1),(.s 1 0 a1.1.2.length 8),(.s 2 0 a1.2.1.length 3),(.s 3 0 a1.2.2.length 1)]),(.live true true v6c)]⟩
def yB (a0:Int)(a1:(List Int×bF)×(List (Int×Int×Bool))×List (List (Int×Int))):(List (List (Int×Int)))×Int->((List (List (Int×Int)))×Int)⊕(List (List (Int×Int)))
 | (v6,v7) =>
  (.inl (v6,(v7+1)))
noncomputable def aJ6:Code:=(cC [1,1,0,1,0,0,1,1,0,0,1] [0] (aL Tryz.f23)).1
noncomputable def aP9 (m0:Nat):List K:=(cC [1,1,0,1,0,0,1,1,0,0,1] [m0] (aL Tryz.f23)).2
def aL5 (a0:Int)(a1:(List Int×bF)×(List (Int×Int×Bool))×List (List (Int×Int)))(v3c:List SV)(v3n:Nat)(v4 v5:Int):LS:=⟨gD 100 [(0,(iv a0)),(3,(.p 4 0)),(5,(.s 5 0 v3n 1)),(6,(iv v4)),(19,(iv (((tN a0):Nat):Int))),(20,(iv v5))],[(.live false true (flat c3 a1.1.1)),(.live false true (flat cB a1.1.2)),(.live false true (flat fC a1.2.1)),(.live false true (flat jM a1.2.2)),(.live true false [(.s 0 0 a1.1.1.length 1),(.s 1 0 a1.1.2.length 8),(.s 2 0 a1.2.1.length 3),(.s 3 0 a1.2.2.length 1)]),(.live true true v3c)]⟩
def yC (a0:Int)(a1:(List Int×bF)×(List (Int×Int×Bool))×List (List (Int×Int))):(List (List (Int×Int)))×Int×Int->((List (List (Int×Int)))×Int)⊕(List (List (Int×Int)))
 | (v3,v4,v5) =>
  (yB a0 a1 ((v3.set (tN v4) (List.replicate (tN a0) (0,0))),v5))
noncomputable def aL6:Code:=(cC [1,1,1,0,1,0,0,1,1,0,0,1,1,1,1,0,0,1,1,0,0,1,1,0,0,1,1,0,0,1,1,0] [0,0,0] (aL Tryz.f23)).1
noncomputable def aL7 (m0:Nat)(m1:Nat)(m2:Nat):List K:=(cC [1,1,1,0,1,0,0,1,1,0,0,1,1,1,1,0,0,1,1,0,0,1,1,0,0,1,1,0,0,1,1,0] [m0,m1,m2] (aL Tryz.f23)).2
def aHx (a0:Int)(a1:(List Int×bF)×(List (Int×Int×Bool))×List (List (Int×Int)))(v227c:List SV)(v227n:Nat)(v228 v229 v230 v231 v232 v233 v234 v235 v236 v237 v238 v239 v240 v241:Int)(v242:Bool)(v243 v244 v245 v246 v247 v248 v249 v250:Int):LS:=⟨gD 100 [(3,(.p 4 0)),(5,(.s 5 0 v227n 1)),(7,(iv v228)),(8,(.p 6 0)),(10,(.p 7 0)),(11,(iv v229)),(13,(iv v230)),(30,(.s 2 0 a1.2.1.length 3)),(31,(iv (a1.2.1.length:Int))),(32,(iv v231)),(58,(.s 0 (0+tN v232*1) (tN v233 - tN v232) 1)),(59,(iv v234)),(60,(iv v235)),(71,(.s 0 (0+tN v236*1) (tN v237 - tN v236) 1)),(72,(iv v238)),(73,(iv v239))],[(.live false true (flat c3 a1.1.1)),(.live false true (flat cB a1.1.2)),(.live false true (flat fC a1.2.1)),(.live false true (flat jM a1.2.2)),(.live true false [(.s 0 0 a1.1.1.length 1),(.s 1 0 a1.1.2.length 8),(.s 2 0 a1.2.1.length 3),(.s 3 0 a1.2.2.length 1)]),(.live true true v227c),(.live true false [(iv v240),(iv v241),(.v (.bool v242))]),(.live true false [(iv v243),(iv v244),(iv v245),(iv v246),(iv v247),(iv v248),(iv v249),(iv v250)])]⟩
def oI (a0:Int)(a1:(List Int×bF)×(List (Int×Int×Bool))×List (List (Int×Int))):(List (List (Int×Int)))×Int×Int×Int×Int×Int×Int×Int×Int×Int×Int×Int×Int×Int×Int×Bool×Int×Int×Int×Int×Int×Zt->((List (List (Int×Int)))×Int×Int×Int×Int×Int×Int×Int×Int×Int×Int×Int×Int×Int×Int×Bool×Int×Int×Int×Int×Int×Zt)⊕(((List (List (Int×Int)))×Int×Int×Int×Int×Int×Int×Int×Int×Int×Bool×Int×Int×Int×Int×Int×Zt)⊕(((List (List (Int×Int)))×Int)⊕(List (List (Int×Int)))))
 | (v227,v228,v229,v230,v231,v232,v233,v234,v235,v236,v237,v238,v239,v240,v241,v242,v243,v244,v245,v246,v247,v248,v249,v250) =>
  (bif (!v242) then
   (.inl (v227,v228,(W (v229+1)),v230,v231,v232,v233,v234,v235,v236,v237,v238,(v239+1),v240,v241,v242,v243,v244,v245,v246,v247,v248,v249,v250))
  else
   (.inl (v227,v228,v229,v230,v231,v232,v233,v234,v235,v236,v237,v238,(v239+1),v240,v241,v242,v243,v244,v245,v246,v247,v248,v249,v250)))
noncomputable def aFx:Code:=(cC [1,1,1,0,1,0,0,1,1,0,0,1,1,1,1,0,0,1,1,0,0,1,1,0,0,1,1,0,0,1,0] [0,0,0] (aL Tryz.f23)).1
noncomputable def aL8 (m0:Nat)(m1:Nat)(m2:Nat):List K:=(cC [1,1,1,0,1,0,0,1,1,0,0,1,1,1,1,0,0,1,1,0,0,1,1,0,0,1,1,0,0,1,0] [m0,m1,m2] (aL Tryz.f23)).2
def aHy (a0:Int)(a1:(List Int×bF)×(List (Int×Int×Bool))×List (List (Int×Int)))(v202c:List SV)(v202n:Nat)(v203 v204 v205 v206 v207 v208 v209 v210 v211 v212 v213 v214 v215 v216 v217:Int)(v218:Bool)(v219 v220 v221 v222 v223 v224 v225 v226:Int):LS:=⟨gD 100 [(3,(.p 4 0)),(5,(.s 5 0 v202n 1)),(7,(iv v203)),(8,(.p 6 0)),(10,(.p 7 0)),(11,(iv v204)),(13,(iv v205)),(15,(iv v206)),(30,(.s 2 0 a1.2.1.length 3)),(31,(iv (a1.2.1.length:Int))),(32,(iv v207)),(58,(.s 0 (0+tN v208*1) (tN v209 - tN v208) 1)),(59,(iv v210)),(60,(iv v211)),(71,(.s 0 (0+tN v212*1) (tN v213 - tN v212) 1)),(72,(iv v214)),(73,(iv v215))],[(.live false true (flat c3 a1.1.1)),(.live false true (flat cB a1.1.2)),(.live false true (flat fC a1.2.1)),(.live false true (flat jM a1.2.2)),(.live true false [(.s 0 0 a1.1.1.length 1),(.s 1 0 a1.1.2.length 8),(.s 2 0 a1.2.1.length 3),(.s 3 0 a1.2.2.length 1)]),(.live true true v202c),(.live true false [(iv v216),(iv v217),(.v (.bool v218))]),(.live true false [(iv v219),(iv v220),(iv v221),(iv v222),(iv v223),(iv v224),(iv v225),(iv v226)])]⟩
def sT (a0:Int)(a1:(List Int×bF)×(List (Int×Int×Bool))×List (List (Int×Int))):(List (List (Int×Int)))×Int×Int×Int×Int×Int×Int×Int×Int×Int×Int×Int×Int×Int×Int×Int×Bool×Int×Int×Int×Int×Int×Zt->((List (List (Int×Int)))×Int×Int×Int×Int×Int×Int×Int×Int×Int×Int×Int×Int×Int×Int×Bool×Int×Int×Int×Int×Int×Zt)⊕(((List (List (Int×Int)))×Int×Int×Int×Int×Int×Int×Int×Int×Int×Bool×Int×Int×Int×Int×Int×Zt)⊕(((List (List (Int×Int)))×Int)⊕(List (List (Int×Int)))))
 | (v202,v203,v204,v205,v206,v207,v208,v209,v210,v211,v212,v213,v214,v215,v216,v217,v218,v219,v220,v221,v222,v223,v224,v225,v226) =>
  (oI a0 a1 ((v202.set (tN v205) ((v202.getD (tN v205) []).set (tN v206) ((a1.2.2.getD (tN v203) dF).getD (tN v204) dF))),v203,v204,v205,v207,v208,v209,v210,v211,v212,v213,v214,v215,v216,v217,v218,v219,v220,v221,v222,v223,v224,v225,v226))
noncomputable def aL9:Code:=(aM [1,1,1,0,1,0,1,1,0,1,1,1,1,0,1,1,0,1,1] [0,0] (aL Tryz.f23) []).1
noncomputable def aMa (m0:Nat)(m1:Nat):List K:=(aM [1,1,1,0,1,0,1,1,0,1,1,1,1,0,1,1,0,1,1] [m0,m1] (aL Tryz.f23) []).2
def aFy (a0:Int)(a1:(List Int×bF)×(List (Int×Int×Bool))×List (List (Int×Int)))(v178c:List SV)(v178n:Nat)(v179 v180 v181 v182 v183 v184 v185 v186 v187 v188 v189 v190 v191 v192:Int)(v193:Bool)(v194 v195 v196 v197 v198 v199 v200 v201:Int):LS:=⟨gD 100 [(3,(.p 4 0)),(5,(.s 5 0 v178n 1)),(7,(iv v179)),(8,(.p 6 0)),(10,(.p 7 0)),(11,(iv v180)),(13,(iv v181)),(30,(.s 2 0 a1.2.1.length 3)),(31,(iv (a1.2.1.length:Int))),(32,(iv v182)),(58,(.s 0 (0+tN v183*1) (tN v184 - tN v183) 1)),(59,(iv v185)),(60,(iv v186)),(71,(.s 0 (0+tN v187*1) (tN v188 - tN v187) 1)),(72,(iv v189)),(73,(iv v190))],[(.live false true (flat c3 a1.1.1)),(.live false true (flat cB a1.1.2)),(.live false true (flat fC a1.2.1)),(.live false true (flat jM a1.2.2)),(.live true false [(.s 0 0 a1.1.1.length 1),(.s 1 0 a1.1.2.length 8),(.s 2 0 a1.2.1.length 3),(.s 3 0 a1.2.2.length 1)]),(.live true true v178c),(.live true false [(iv v191),(iv v192),(.v (.bool v193))]),(.live true false [(iv v194),(iv v195),(iv v196),(iv v197),(iv v198),(iv v199),(iv v200),(iv v201)])]⟩
def nR (a0:Int)(a1:(List Int×bF)×(List (Int×Int×Bool))×List (List (Int×Int))):(List (List (Int×Int)))×Int×Int×Int×Int×Int×Int×Int×Int×Int×Int×Int×Int×Int×Int×Bool×Int×Int×Int×Int×Int×Zt->((List (List (Int×Int)))×Int×Int×Int×Int×Int×Int×Int×Int×Int×Int×Int×Int×Int×Int×Bool×Int×Int×Int×Int×Int×Zt)⊕(((List (List (Int×Int)))×Int×Int×Int×Int×Int×Int×Int×Int×Int×Bool×Int×Int×Int×Int×Int×Zt)⊕(((List (List (Int×Int)))×Int)⊕(List (List (Int×Int)))))
 | (v178,v179,v180,v181,v182,v183,v184,v185,v186,v187,v188,v189,v190,v191,v192,v193,v194,v195,v196,v197,v198,v199,v200,v201) =>
  (bif (decide ((v190:Int) < v189)) then
   (sT a0 a1 (v178,v179,v180,v181,(a1.1.1.getD ((tN v187)+tN v190) dF),v182,v183,v184,v185,v186,v187,v188,v189,v190,v191,v192,v193,v194,v195,v196,v197,v198,v199,v200,v201))
  else
   (.inr (.inl (v178,v179,v180,v182,v183,v184,v185,(v186+1),v191,v192,v193,v194,v195,v196,v197,v198,v199,v200,v201))))
noncomputable def aQa:Code:=(aM [1,1,1,0,1,0,1,1,0,1,1,1,1] [0] (aL Tryz.f23) []).1
noncomputable def aQb (m0:Nat):List K:=(aM [1,1,1,0,1,0,1,1,0,1,1,1,1] [m0] (aL Tryz.f23) []).2
def aJ7 (a0:Int)(a1:(List Int×bF)×(List (Int×Int×Bool))×List (List (Int×Int)))(v159c:List SV)(v159n:Nat)(v160 v161 v162 v163 v164 v165 v166 v167 v168:Int)(v169:Bool)(v170 v171 v172 v173 v174 v175 v176 v177:Int):LS:=⟨gD 100 [(3,(.p 4 0)),(5,(.s 5 0 v159n 1)),(7,(iv v160)),(8,(.p 6 0)),(10,(.p 7 0)),(11,(iv v161)),(30,(.s 2 0 a1.2.1.length 3)),(31,(iv (a1.2.1.length:Int))),(32,(iv v162)),(58,(.s 0 (0+tN v163*1) (tN v164 - tN v163) 1)),(59,(iv v165)),(60,(iv v166))],[(.live false true (flat c3 a1.1.1)),(.live false true (flat cB a1.1.2)),(.live false true (flat fC a1.2.1)),(.live false true (flat jM a1.2.2)),(.live true false [(.s 0 0 a1.1.1.length 1),(.s 1 0 a1.1.2.length 8),(.s 2 0 a1.2.1.length 3),(.s 3 0 a1.2.2.length 1)]),(.live true true v159c),(.live true false [(iv v167),(iv v168),(.v (.bool v169))]),(.live true false [(iv v170),(iv v171),(iv v172),(iv v173),(iv v174),(iv v175),(iv v176),(iv v177)])]⟩
def mA (a0:Int)(a1:(List Int×bF)×(List (Int×Int×Bool))×List (List (Int×Int))):(List (List (Int×Int)))×Int×Int×Int×Int×Int×Int×Int×Int×Int×Bool×Int×Int×Int×Int×Int×Zt->((List (List (Int×Int)))×Int×Int×Int×Int×Int×Int×Int×Int×Int×Bool×Int×Int×Int×Int×Int×Zt)⊕(((List (List (Int×Int)))×Int)⊕(List (List (Int×Int))))
 | (v159,v160,v161,v162,v163,v164,v165,v166,v167,v168,v169,v170,v171,v172,v173,v174,v175,v176,v177) =>
  (bif (decide ((v166:Int) < v165)) then
   (aH (nR a0 a1) (tN ((((tN v171 - tN v170):Nat):Int) - 0)+1) (v159,v160,v161,(a1.1.1.getD ((tN v163)+tN v166) dF),v162,v163,v164,v165,v166,v170,v171,(((tN v171 - tN v170):Nat):Int),0,v167,v168,v169,v170,v171,v172,v173,v174,v175,v176,v177))
  else
   (.inr (.inl (v159,(v162+1)))))
noncomputable def aMb:Code:=(cC [1,1,1,1,0] [] (aL Tryz.f23)).1
noncomputable def aMc:List K:=(cC [1,1,1,1,0] [] (aL Tryz.f23)).2
def aHz (a0:Int)(a1:(List Int×bF)×(List (Int×Int×Bool))×List (List (Int×Int)))(v251c:List SV)(v251n:Nat):LS:=⟨gD 100 [(5,(.s 4 0 v251n 1))],[(.live false true (flat c3 a1.1.1)),(.live false true (flat cB a1.1.2)),(.live false true (flat fC a1.2.1)),(.live false true (flat jM a1.2.2)),(.live true true v251c)]⟩
def wH (a0:Int)(a1:(List Int×bF)×(List (Int×Int×Bool))×List (List (Int×Int))):List (List (Int×Int))->List (List (Int×Int))
 | v251 =>
  v251
noncomputable def aQc:Code:=(aM [1,1,1,0,1] [] (aL Tryz.f23) []).1
noncomputable def aQd:List K:=(aM [1,1,1,0,1] [] (aL Tryz.f23) []).2
def aJ8 (a0:Int)(a1:(List Int×bF)×(List (Int×Int×Bool))×List (List (Int×Int)))(v10c:List SV)(v10n:Nat)(v11:Int):LS:=⟨gD 100 [(3,(.p 4 0)),(5,(.s 5 0 v10n 1)),(30,(.s 2 0 a1.2.1.length 3)),(31,(iv (a1.2.1.length:Int))),(32,(iv v11))],[(.live false true (flat c3 a1.1.1)),(.live false true (flat cB a1.1.2)),(.live false true (flat fC a1.2.1)),(.live false true (flat jM a1.2.2)),(.live true false [(.s 0 0 a1.1.1.length 1),(.s 1 0 a1.1.2.length 8),(.s 2 0 a1.2.1.length 3),(.s 3 0 a1.2.2.length 1)]),(.live true true v10c)]⟩
def kB (a0:Int)(a1:(List Int×bF)×(List (Int×Int×Bool))×List (List (Int×Int))):(List (List (Int×Int)))×Int->((List (List (Int×Int)))×Int)⊕(List (List (Int×Int)))
 | (v10,v11) =>
  (bif (decide ((v11:Int) < (a1.2.1.length:Int))) then
   (aH (mA a0 a1) (tN ((((tN ((a1.1.2.getD (tN (a1.2.1.getD (tN v11) dF).1) dF).2.1) - tN ((a1.1.2.getD (tN (a1.2.1.getD (tN v11) dF).1) dF).1)):Nat):Int) - 0)+1) (v10,v11,0,v11,(a1.1.2.getD (tN (a1.2.1.getD (tN v11) dF).1) dF).1,(a1.1.2.getD (tN (a1.2.1.getD (tN v11) dF).1) dF).2.1,(((tN ((a1.1.2.getD (tN (a1.2.1.getD (tN v11) dF).1) dF).2.1) - tN ((a1.1.2.getD (tN (a1.2.1.getD (tN v11) dF).1) dF).1)):Nat):Int),0,(a1.2.1.getD (tN v11) dF).1,(a1.2.1.getD (tN v11) dF).2.1,(a1.2.1.getD (tN v11) dF).2.2,(a1.1.2.getD (tN (a1.2.1.getD (tN v11) dF).2.1) dF).1,(a1.1.2.getD (tN (a1.2.1.getD (tN v11) dF).2.1) dF).2.1,(a1.1.2.getD (tN (a1.2.1.getD (tN v11) dF).2.1) dF).2.2.1,(a1.1.2.getD (tN (a1.2.1.getD (tN v11) dF).2.1) dF).2.2.2.1,(a1.1.2.getD (tN (a1.2.1.getD (tN v11) dF).2.1) dF).2.2.2.2.1.1,(a1.1.2.getD (tN (a1.2.1.getD (tN v11) dF).2.1) dF).2.2.2.2.1.2.1,(a1.1.2.getD (tN (a1.2.1.getD (tN v11) dF).2.1) dF).2.2.2.2.1.2.2,(a1.1.2.getD (tN (a1.2.1.getD (tN v11) dF).2.1) dF).2.2.2.2.2))
  else
   (.inr (wH a0 a1 v10)))
noncomputable def aQe:Code:=(aM [1,1,0,1] [] (aL Tryz.f23) []).1
noncomputable def aQf:List K:=(aM [1,1,0,1] [] (aL Tryz.f23) []).2
def aJ9 (a0:Int)(a1:(List Int×bF)×(List (Int×Int×Bool))×List (List (Int×Int)))(v1c:List SV)(v1n:Nat)(v2:Int):LS:=⟨gD 100 [(0,(iv a0)),(3,(.p 4 0)),(5,(.s 5 0 v1n 1)),(19,(iv (((tN a0):Nat):Int))),(20,(iv v2))],[(.live false true (flat c3 a1.1.1)),(.live false true (flat cB a1.1.2)),(.live false true (flat fC a1.2.1)),(.live false true (flat jM a1.2.2)),(.live true false [(.s 0 0 a1.1.1.length 1),(.s 1 0 a1.1.2.length 8),(.s 2 0 a1.2.1.length 3),(.s 3 0 a1.2.2.length 1)]),(.live true true v1c)]⟩
def nS (a0:Int)(a1:(List Int×bF)×(List (Int×Int×Bool))×List (List (Int×Int))):(List (List (Int×Int)))×Int->((List (List (Int×Int)))×Int)⊕(List (List (Int×Int)))
 | (v1,v2) =>
  (bif (decide ((v2:Int) < (((tN a0):Nat):Int))) then
   (yC a0 a1 (v1,v2,v2))
  else
   (.inr (aH (kB a0 a1) (tN ((a1.2.1.length:Int) - 0)+1) (v1,0))))
def aQg (a0:Int)(a1:(List Int×bF)×(List (Int×Int×Bool))×List (List (Int×Int)))(cx:Cx)(n0:Nat)(n1:Nat)(n:Nat):Prop:=∀(v178:List (List (Int×Int))) (v179 v180 v181 v182 v183 v184 v185 v186 v187 v188 v189 v190 v191 v192:Int) (v193:Bool) (v194 v195 v196 v197 v198 v199 v200 v201:Int) (vT:List (Option iK)) (tr:TabR eW (tN a0) vT v178),(0<=v190)/\(TL (tN a0) v178 (tN a0))/\(zI v180 v193 v186 (v195 - v194) v190)/\(v190<=v189)/\(v187=v194)/\(v188=v195)/\(v189=v195 - v194)/\(0<=v181)/\(v181 < a0)/\((0<=v182))/\((v182<=(a1.2.1.length:Int)))/\(v182 < (a1.2.1.length:Int))/\(tN ((a1.2.1.length:Int) - v182) < n0+1)/\((0<=v186))/\(((((a1.2.2.getD (tN v179) dF).length:Nat):Int)=bif v193 then 1 else(v184 - v183)*(v195 - v194)))/\((v186<=v185))/\((v179=v182))/\((0<=v183))/\((v183<=v184))/\((v184<=a1.1.1.length))/\((v185=v184 - v183))/\((0<=v194))/\((v194<=v195))/\((v195<=a1.1.1.length))/\(v186 < v185)/\(tN (v185 - v186) < n1+1)->tN (v189 - v190) < n->Aw.GoodT Tryz.prog none 9 (bodyPost Tryz.prog Tryz.f23 (RR cx (.s 4 0 (bA (kB a0 a1) n0 (bA (mA a0 a1) n1 (aH (nR a0 a1) n (v178,v179,v180,v181,v182,v183,v184,v185,v186,v187,v188,v189,v190,v191,v192,v193,v194,v195,v196,v197,v198,v199,v200,v201)))).length 1) [(.live true true (flat jM (bA (kB a0 a1) n0 (bA (mA a0 a1) n1 (aH (nR a0 a1) n (v178,v179,v180,v181,v182,v183,v184,v185,v186,v187,v188,v189,v190,v191,v192,v193,v194,v195,v196,v197,v198,v199,v200,v201))))))] [])) cx [] (tN a0) 2 vT (.l aL9 n::aMa n0 n1) (aFy a0 a1 (flat (cO (tN a0)) vT) (vT.length) v179 v180 v181 v182 v183 v184 v185 v186 v187 v188 v189 v190 v191 v192 v193 v194 v195 v196 v197 v198 v199 v200 v201)
def aMd (a0:Int)(a1:(List Int×bF)×(List (Int×Int×Bool))×List (List (Int×Int)))(cx:Cx)(n0:Nat)(n:Nat):Prop:=∀(v159:List (List (Int×Int))) (v160 v161 v162 v163 v164 v165 v166 v167 v168:Int) (v169:Bool) (v170 v171 v172 v173 v174 v175 v176 v177:Int) (vT:List (Option iK)) (tr:TabR eW (tN a0) vT v159),(0<=v166)/\(TL (tN a0) v159 (tN a0))/\(zI v161 v169 v166 (v171 - v170) 0)/\((((a1.2.2.getD (tN v160) dF).length:Nat):Int)=bif v169 then 1 else(v164 - v163)*(v171 - v170))/\(v166<=v165)/\(v160=v162)/\(0<=v163)/\(v163<=v164)/\(v164<=a1.1.1.length)/\(v165=v164 - v163)/\(0<=v170)/\(v170<=v171)/\(v171<=a1.1.1.length)/\((0<=v162))/\((v162<=(a1.2.1.length:Int)))/\(v162 < (a1.2.1.length:Int))/\(tN ((a1.2.1.length:Int) - v162) < n0+1)->tN (v165 - v166) < n->Aw.GoodT Tryz.prog none 9 (bodyPost Tryz.prog Tryz.f23 (RR cx (.s 4 0 (bA (kB a0 a1) n0 (aH (mA a0 a1) n (v159,v160,v161,v162,v163,v164,v165,v166,v167,v168,v169,v170,v171,v172,v173,v174,v175,v176,v177))).length 1) [(.live true true (flat jM (bA (kB a0 a1) n0 (aH (mA a0 a1) n (v159,v160,v161,v162,v163,v164,v165,v166,v167,v168,v169,v170,v171,v172,v173,v174,v175,v176,v177)))))] [])) cx [] (tN a0) 2 vT (.l aQa n::aQb n0) (aJ7 a0 a1 (flat (cO (tN a0)) vT) (vT.length) v160 v161 v162 v163 v164 v165 v166 v167 v168 v169 v170 v171 v172 v173 v174 v175 v176 v177)
def aH0 (a0:Int)(a1:(List Int×bF)×(List (Int×Int×Bool))×List (List (Int×Int)))(cx:Cx)(n:Nat):Prop:=∀(v10:List (List (Int×Int))) (v11:Int) (vT:List (Option iK)) (tr:TabR eW (tN a0) vT v10),(0<=v11)/\(TL (tN a0) v10 (tN a0))/\(v11<=(a1.2.1.length:Int))->tN ((a1.2.1.length:Int) - v11) < n->Aw.GoodT Tryz.prog none 9 (bodyPost Tryz.prog Tryz.f23 (RR cx (.s 4 0 (aH (kB a0 a1) n (v10,v11)).length 1) [(.live true true (flat jM (aH (kB a0 a1) n (v10,v11))))] [])) cx [] (tN a0) 2 vT (.l aQc n::aQd) (aJ8 a0 a1 (flat (cO (tN a0)) vT) (vT.length) v11)
def aQh (a0:Int)(a1:(List Int×bF)×(List (Int×Int×Bool))×List (List (Int×Int)))(cx:Cx)(n:Nat):Prop:=∀(v1:List (List (Int×Int))) (v2:Int) (vT:List (Option iK)) (tr:TabR eW (tN a0) vT v1),(0<=v2)/\(TL (tN a0) v1 (tN v2))/\(v2<=((tN a0:Nat):Int))->tN ((((tN a0):Nat):Int) - v2) < n->Aw.GoodT Tryz.prog none 9 (bodyPost Tryz.prog Tryz.f23 (RR cx (.s 4 0 (aH (nS a0 a1) n (v1,v2)).length 1) [(.live true true (flat jM (aH (nS a0 a1) n (v1,v2))))] [])) cx [] (tN a0) 2 vT (.l aQe n::aQf) (aJ9 a0 a1 (flat (cO (tN a0)) vT) (vT.length) v2)
theorem aUr (a0:Int)(a1:(List Int×bF)×(List (Int×Int×Bool))×List (List (Int×Int)))(l1_1_1:a1.1.1.length<=2^63-1)(l1_1_2:a1.1.2.length<=2^63-1)(l1_2_1:a1.2.1.length<=2^63-1)(l1_2_2:a1.2.2.length<=2^63-1)(he:EntOK a0 a1) {cx:Cx} (hcx:cx.base=4)
 (n0:Nat) (g0:aQh a0 a1 cx n0) (v6:List (List (Int×Int))) (v7:Int) (vT:List (Option iK)) (tr:TabR eW (tN a0) vT v6):(TL (tN a0) v6 (tN v7+1))/\((0<=v7))/\((v7<=((tN a0:Nat):Int)))/\(v7 < (((tN a0):Nat):Int))/\(tN ((((tN a0):Nat):Int) - v7) < n0+1)->Aw.GoodT Tryz.prog none 9 (bodyPost Tryz.prog Tryz.f23 (RR cx (.s 4 0 (bA (nS a0 a1) n0 (yB a0 a1 (v6,v7))).length 1) [(.live true true (flat jM (bA (nS a0 a1) n0 (yB a0 a1 (v6,v7)))))] [])) cx [] (tN a0) 2 vT (.c aP7::aP8 n0) (aL4 a0 a1 (flat (cO (tN a0)) vT) (vT.length) v7):=by
 intro hi
 have hn1:=he.n1
 have htl:=hi.1
 have htl2:=htl.le (k:=tN (v7+1)) (by omega)
 have e:=Eq.refl (yB a0 a1 (v6,v7));conv at e=>rhs;simp only [yB]
 rw [e]
 refine baT [] [] [0,3,5,19,20] [4,5] hcx (m:=n0) aQe (aQf) (aJ9 a0 a1 (flat (cO (tN a0)) vT) (vT.length) (W (v7+1))) (by kernel_rfl) ⟨by kernel_rfl,by kernel_rfl⟩ ?_
 have z0:(W (v7+1))=(v7+1):=aS (by omega) (by omega)
 rw [z0]
 exact g0 v6 (v7+1) vT tr (by(repeat' apply And.intro)<;>(try simp only [Int.toNat_zero])<;>first | omega | assumption | exact TL.rep | exact uY) (by omega)
theorem aUs (a0:Int)(a1:(List Int×bF)×(List (Int×Int×Bool))×List (List (Int×Int)))(l1_1_1:a1.1.1.length<=2^63-1)(l1_1_2:a1.1.2.length<=2^63-1)(l1_2_1:a1.2.1.length<=2^63-1)(l1_2_2:a1.2.2.length<=2^63-1)(he:EntOK a0 a1) {cx:Cx} (hcx:cx.base=4)
 (n0:Nat) (g0:aQh a0 a1 cx n0) (v3:List (List (Int×Int))) (v4 v5:Int) (vT:List (Option iK)) (tr:TabR eW (tN a0) vT v3):(TL (tN a0) v3 (tN v4))/\(v4=v5)/\((0<=v5))/\((v5<=((tN a0:Nat):Int)))/\(v5 < (((tN a0):Nat):Int))/\(tN ((((tN a0):Nat):Int) - v5) < n0+1)->Aw.GoodT Tryz.prog none 9 (bodyPost Tryz.prog Tryz.f23 (RR cx (.s 4 0 (bA (nS a0 a1) n0 (yC a0 a1 (v3,v4,v5))).length 1) [(.live true true (flat jM (bA (nS a0 a1) n0 (yC a0 a1 (v3,v4,v5)))))] [])) cx [] (tN a0) 2 vT (.c aJ6::aP9 n0) (aL5 a0 a1 (flat (cO (tN a0)) vT) (vT.length) v4 v5):=by
 intro hi
 have e:=Eq.refl (yC a0 a1 (v3,v4,v5));conv at e=>rhs;simp only [yC]
 rw [e]
 have hn1:=he.n1
 have hvl:=tr.length
 have htl:=hi.1
 have htl0:=htl.1
 have htl1:=htl.next (l:=List.replicate (tN a0) ((0,0):Int×Int)) (by omega) (by simp)
 have htl2:=htl1.le (k:=tN v5+1) (by omega)
 refine GoodT.makeE hT hm (B:=aJ6) (by kernel_rfl) 4 (by kernel_rfl) (fun id cap=>vT.set (tN v4) (some (id,cap,(flat eW (List.replicate (tN a0) (0,0)))))) [.Z eW (0,0) [(iv 0),(iv 0)] a0 16] (fun id cap=>[.i v4 vT.length (by omega),.p (show 0+tN v4*1+1<=(flat (cO (tN a0)) vT).length from by rw [bW aCd];omega)]) 26 6 (tN v4) true (flat eW (List.replicate (tN a0) (0,0))) hcx (by kernel_rfl) ⟨by kernel_rfl,by kernel_rfl⟩ (by kernel_rfl) (by kernel_rfl) (hG (c:=eW) (fun _=>rfl) _) (by rw [bW dM,List.length_replicate]) (by omega) (fun id cap=>by kernel_rfl) (fun id cap=>⟨by kernel_rfl,by kernel_rfl⟩) (fun id cap=>aP1) (fun id cap=>?_)
 refine gaT [.z 6] [] [0,3,5,19,20] [4,5] hcx aP7 (aP8 n0) (aL4 a0 a1 (splice (flat (cO (tN a0)) vT) (0+tN v4*1) [(.v (mE (tN a0) (id,cap,(flat eW (List.replicate (tN a0) (0,0))))))]) (vT.length) v5) (by kernel_rfl) ⟨by kernel_rfl,by kernel_rfl⟩ ?_
 have tr1:=tr.set (tN v4) (id,cap,(flat eW (List.replicate (tN a0) (0,0)))) (List.replicate (tN a0) (0,0)) (by simp) rfl
 rw [show(splice (flat (cO (tN a0)) vT) (0+tN v4*1) [(.v (mE (tN a0) (id,cap,(flat eW (List.replicate (tN a0) (0,0))))))])=flat (cO (tN a0)) (vT.set (tN v4) (some (id,cap,(flat eW (List.replicate (tN a0) (0,0)))))) from bB aCd (by omega) (o:=0) (d:=none) (Nat.le_refl 1) (qZ (aCd _))]
 rw [show vT.length=(vT.set (tN v4) (some (id,cap,(flat eW (List.replicate (tN a0) (0,0)))))).length from by simp]
 exact aUr a0 a1 l1_1_1 l1_1_2 l1_2_1 l1_2_2 he hcx n0 g0 (v3.set (tN v4) (List.replicate (tN a0) (0,0))) v5 (vT.set (tN v4) (some (id,cap,(flat eW (List.replicate (tN a0) (0,0)))))) tr1 (by(repeat' apply And.intro)<;>(try simp only [Int.toNat_zero])<;>first | omega | assumption | exact TL.rep | exact uY)
theorem aSb (a0:Int)(a1:(List Int×bF)×(List (Int×Int×Bool))×List (List (Int×Int)))(l1_1_1:a1.1.1.length<=2^63-1)(l1_1_2:a1.1.2.length<=2^63-1)(l1_2_1:a1.2.1.length<=2^63-1)(l1_2_2:a1.2.2.length<=2^63-1)(he:EntOK a0 a1) {cx:Cx} (hcx:cx.base=4)
 (n0:Nat) (g0:aH0 a0 a1 cx n0)
 (n1:Nat) (g1:aMd a0 a1 cx n0 n1)
 (n2:Nat) (g2:aQg a0 a1 cx n0 n1 n2) (v227:List (List (Int×Int))) (v228 v229 v230 v231 v232 v233 v234 v235 v236 v237 v238 v239 v240 v241:Int) (v242:Bool) (v243 v244 v245 v246 v247 v248 v249 v250:Int) (vT:List (Option iK)) (tr:TabR eW (tN a0) vT v227):(TL (tN a0) v227 (tN a0))/\(zI v229 v242 v235 (v244 - v243) v239)/\((((a1.2.2.getD (tN v228) dF).length:Nat):Int)=bif v242 then 1 else(v233 - v232)*(v244 - v243))/\((0<=v231))/\((v231<=(a1.2.1.length:Int)))/\(v231 < (a1.2.1.length:Int))/\(tN ((a1.2.1.length:Int) - v231) < n0+1)/\((0<=v235))/\(((((a1.2.2.getD (tN v228) dF).length:Nat):Int)=bif v242 then 1 else(v233 - v232)*(v244 - v243)))/\((v235<=v234))/\((v228=v231))/\((0<=v232))/\((v232<=v233))/\((v233<=a1.1.1.length))/\((v234=v233 - v232))/\((0<=v243))/\((v243<=v244))/\((v244<=a1.1.1.length))/\(v235 < v234)/\(tN (v234 - v235) < n1+1)/\((0<=v239))/\((v239<=v238))/\((v236=v243))/\((v237=v244))/\((v238=v244 - v243))/\((0<=v230))/\((v230 < a0))/\(v239 < v238)/\(tN (v238 - v239) < n2+1)->Aw.GoodT Tryz.prog none 9 (bodyPost Tryz.prog Tryz.f23 (RR cx (.s 4 0 (bA (kB a0 a1) n0 (bA (mA a0 a1) n1 (bA (nR a0 a1) n2 (oI a0 a1 (v227,v228,v229,v230,v231,v232,v233,v234,v235,v236,v237,v238,v239,v240,v241,v242,v243,v244,v245,v246,v247,v248,v249,v250))))).length 1) [(.live true true (flat jM (bA (kB a0 a1) n0 (bA (mA a0 a1) n1 (bA (nR a0 a1) n2 (oI a0 a1 (v227,v228,v229,v230,v231,v232,v233,v234,v235,v236,v237,v238,v239,v240,v241,v242,v243,v244,v245,v246,v247,v248,v249,v250)))))))] [])) cx [] (tN a0) 2 vT (.c aL6::aL7 n0 n1 n2) (aHx a0 a1 (flat (cO (tN a0)) vT) (vT.length) v228 v229 v230 v231 v232 v233 v234 v235 v236 v237 v238 v239 v240 v241 v242 v243 v244 v245 v246 v247 v248 v249 v250):=by
 intro hi
 have hnz:=he.nz (by omega)
 have hsl:(((a1.2.2.getD (tN v228) dF).length:Nat):Int)=bif v242 then 1 else(v233 - v232)*(v244 - v243):=by have q:=hi;repeat (first | exact q.1 | replace q:=q.2)
 have hn1:=he.n1
 have hsp:=he.sp
 have hol:=he.ol
 have htl:=hi.1
 have hat:=hi.2.1
 have hsb:=he.sl (tN v228)
 have hao:=aL2 hi.2.1 hi.2.2.1 (by omega) (by omega)
 have hw:=aS (n:=v229+1) (by omega) (by omega)
 cases h0:(!v242) with
 | true =>
  try have ha1:zI (W (v229+1)) v242 v235 (v244 - v243) (v239+1):=by rw [hw];exact aL3 hi.2.1 h0
  have e:=Eq.refl (oI a0 a1 (v227,v228,v229,v230,v231,v232,v233,v234,v235,v236,v237,v238,v239,v240,v241,v242,v243,v244,v245,v246,v247,v248,v249,v250));conv at e=>rhs;simp only [oI,h0,aT]
  rw [e]
  refine baT [.d h0] [] [3,5,7,8,10,11,13,30,31,32,58,59,60,71,72,73] [4,5,6,7] hcx (m:=n2) aL9 (aMa n0 n1) (aFy a0 a1 (flat (cO (tN a0)) vT) (vT.length) v228 (W (v229+1)) v230 v231 v232 v233 v234 v235 v236 v237 v238 (W (v239+1)) v240 v241 v242 v243 v244 v245 v246 v247 v248 v249 v250) (by kernel_rfl) ⟨by kernel_rfl,by kernel_rfl⟩ ?_
  have z0:(W (v239+1))=(v239+1):=aS (by omega) (by omega)
  rw [z0]
  exact g2 v227 v228 (W (v229+1)) v230 v231 v232 v233 v234 v235 v236 v237 v238 (v239+1) v240 v241 v242 v243 v244 v245 v246 v247 v248 v249 v250 vT tr (by(repeat' apply And.intro)<;>(try simp only [Int.toNat_zero])<;>first | omega | assumption | exact TL.rep | exact uY) (by omega)
 | false =>
  try have ha2:=aP5 hi.2.1 h0 (v239+1)
  have e:=Eq.refl (oI a0 a1 (v227,v228,v229,v230,v231,v232,v233,v234,v235,v236,v237,v238,v239,v240,v241,v242,v243,v244,v245,v246,v247,v248,v249,v250));conv at e=>rhs;simp only [oI,h0,aT]
  rw [e]
  refine baT [.d h0] [] [3,5,7,8,10,11,13,30,31,32,58,59,60,71,72,73] [4,5,6,7] hcx (m:=n2) aL9 (aMa n0 n1) (aFy a0 a1 (flat (cO (tN a0)) vT) (vT.length) v228 v229 v230 v231 v232 v233 v234 v235 v236 v237 v238 (W (v239+1)) v240 v241 v242 v243 v244 v245 v246 v247 v248 v249 v250) (by kernel_rfl) ⟨by kernel_rfl,by kernel_rfl⟩ ?_
  have z0:(W (v239+1))=(v239+1):=aS (by omega) (by omega)
  rw [z0]
  exact g2 v227 v228 v229 v230 v231 v232 v233 v234 v235 v236 v237 v238 (v239+1) v240 v241 v242 v243 v244 v245 v246 v247 v248 v249 v250 vT tr (by(repeat' apply And.intro)<;>(try simp only [Int.toNat_zero])<;>first | omega | assumption | exact TL.rep | exact uY) (by omega)
theorem aSc (a0:Int)(a1:(List Int×bF)×(List (Int×Int×Bool))×List (List (Int×Int)))(l1_1_1:a1.1.1.length<=2^63-1)(l1_1_2:a1.1.2.length<=2^63-1)(l1_2_1:a1.2.1.length<=2^63-1)(l1_2_2:a1.2.2.length<=2^63-1)(he:EntOK a0 a1) {cx:Cx} (hcx:cx.base=4)
 (n0:Nat) (g0:aH0 a0 a1 cx n0)
 (n1:Nat) (g1:aMd a0 a1 cx n0 n1)
 (n2:Nat) (g2:aQg a0 a1 cx n0 n1 n2) (v202:List (List (Int×Int))) (v203 v204 v205 v206 v207 v208 v209 v210 v211 v212 v213 v214 v215 v216 v217:Int) (v218:Bool) (v219 v220 v221 v222 v223 v224 v225 v226:Int) (vT:List (Option iK)) (tr:TabR eW (tN a0) vT v202):(TL (tN a0) v202 (tN a0))/\(zI v204 v218 v211 (v220 - v219) v215)/\((((a1.2.2.getD (tN v203) dF).length:Nat):Int)=bif v218 then 1 else(v209 - v208)*(v220 - v219))/\(0<=v206)/\(v206 < a0)/\((0<=v207))/\((v207<=(a1.2.1.length:Int)))/\(v207 < (a1.2.1.length:Int))/\(tN ((a1.2.1.length:Int) - v207) < n0+1)/\((0<=v211))/\(((((a1.2.2.getD (tN v203) dF).length:Nat):Int)=bif v218 then 1 else(v209 - v208)*(v220 - v219)))/\((v211<=v210))/\((v203=v207))/\((0<=v208))/\((v208<=v209))/\((v209<=a1.1.1.length))/\((v210=v209 - v208))/\((0<=v219))/\((v219<=v220))/\((v220<=a1.1.1.length))/\(v211 < v210)/\(tN (v210 - v211) < n1+1)/\((0<=v215))/\((v215<=v214))/\((v212=v219))/\((v213=v220))/\((v214=v220 - v219))/\((0<=v205))/\((v205 < a0))/\(v215 < v214)/\(tN (v214 - v215) < n2+1)->Aw.GoodT Tryz.prog none 9 (bodyPost Tryz.prog Tryz.f23 (RR cx (.s 4 0 (bA (kB a0 a1) n0 (bA (mA a0 a1) n1 (bA (nR a0 a1) n2 (sT a0 a1 (v202,v203,v204,v205,v206,v207,v208,v209,v210,v211,v212,v213,v214,v215,v216,v217,v218,v219,v220,v221,v222,v223,v224,v225,v226))))).length 1) [(.live true true (flat jM (bA (kB a0 a1) n0 (bA (mA a0 a1) n1 (bA (nR a0 a1) n2 (sT a0 a1 (v202,v203,v204,v205,v206,v207,v208,v209,v210,v211,v212,v213,v214,v215,v216,v217,v218,v219,v220,v221,v222,v223,v224,v225,v226)))))))] [])) cx [] (tN a0) 2 vT (.c aFx::aL8 n0 n1 n2) (aHy a0 a1 (flat (cO (tN a0)) vT) (vT.length) v203 v204 v205 v206 v207 v208 v209 v210 v211 v212 v213 v214 v215 v216 v217 v218 v219 v220 v221 v222 v223 v224 v225 v226):=by
 intro hi
 have e:=Eq.refl (sT a0 a1 (v202,v203,v204,v205,v206,v207,v208,v209,v210,v211,v212,v213,v214,v215,v216,v217,v218,v219,v220,v221,v222,v223,v224,v225,v226));conv at e=>rhs;simp only [sT]
 rw [e]
 have hn1:=he.n1
 have hnz:=he.nz (by omega)
 have hvl:=tr.length
 have htl:=hi.1
 have htl0:=htl.1
 have hsp:=he.sp
 have hat1:=hi.2.1
 have hsl:=hi.2.2.1
 have hxl:=htl.2 (tN v205) (by omega)
 obtain⟨xr,hxr,hxc⟩:=tr.get (tN v205) (by omega) hxl (by omega)
 have hxi:0<=v205/\v205 < (vT.length:Int):=by omega
 have hat:=aL2 hi.2.1 hi.2.2.1 (by omega) (by omega)
 have hs:splice xr.2.2 (0+tN v206*2) (k2 ((a1.2.2.getD (tN v203) dF).getD (tN v204) dF))=flat eW ((v202.getD (tN v205) []).set (tN v206) ((a1.2.2.getD (tN v203) dF).getD (tN v204) dF)):=by rw [hxc];exact bB dM (by omega) (o:=0) (d:=dF) (Nat.le_refl 2) (qZ (dM _))
 refine GoodT.putE hT hm (B:=aFx) (by kernel_rfl) 13 (by kernel_rfl) [.i v205 (vT.length),.l [(.v (mE (tN a0) xr))] (aP4 hxi hxr),.i v203 (a1.2.2.length),.L lQ a1.2.2 v203 0 1,.p (hG (c:=eW) (fun _=>rfl) (a1.2.2.getD (tN v203) dF)),.i v204 ((a1.2.2.getD (tN v203) dF).length),.L dM (a1.2.2.getD (tN v203) dF) v204 0 2] [.i v206 (tN a0) (by omega),.p (show 0+tN v206*2+2<=xr.2.2.length from by rw [hxc,bW dM,hxl];omega)] [.kill 8] 80 (tN v205) xr (splice xr.2.2 (0+tN v206*2) (k2 ((a1.2.2.getD (tN v203) dF).getD (tN v204) dF))) hcx (by kernel_rfl) (by kernel_rfl) (by kernel_rfl) ⟨by kernel_rfl,by kernel_rfl⟩ (by kernel_rfl) hxr (by kernel_rfl) ⟨by kernel_rfl,by kernel_rfl⟩ (by kernel_rfl) (by rw [hs];exact hG (c:=eW) (fun _=>rfl) _) (by rw [hs,bW dM,List.length_set,hxl]) ?_
 refine gaT [.z 19] [] [3,5,7,8,10,11,13,30,31,32,58,59,60,71,72,73] [4,5,6,7] hcx aL6 (aL7 n0 n1 n2) (aHx a0 a1 (flat (cO (tN a0)) vT) (vT.length) v203 v204 v205 v207 v208 v209 v210 v211 v212 v213 v214 v215 v216 v217 v218 v219 v220 v221 v222 v223 v224 v225 v226) (by kernel_rfl) ⟨by kernel_rfl,by kernel_rfl⟩ ?_
 have tr1:=tr.set (tN v205) (xr.1,xr.2.1,splice xr.2.2 (0+tN v206*2) (k2 ((a1.2.2.getD (tN v203) dF).getD (tN v204) dF))) ((v202.getD (tN v205) []).set (tN v206) ((a1.2.2.getD (tN v203) dF).getD (tN v204) dF)) (by rw [List.length_set,hxl]) hs
 have htl1:=htl.set (l:=(v202.getD (tN v205) []).set (tN v206) ((a1.2.2.getD (tN v203) dF).getD (tN v204) dF)) (by rw [List.length_set,hxl]) (tN v205)
 rw [←zH (nn:=(tN a0)) hxr (splice xr.2.2 (0+tN v206*2) (k2 ((a1.2.2.getD (tN v203) dF).getD (tN v204) dF)))]
 rw [show vT.length=(vT.set (tN v205) (some (xr.1,xr.2.1,splice xr.2.2 (0+tN v206*2) (k2 ((a1.2.2.getD (tN v203) dF).getD (tN v204) dF))))).length from by simp]
 exact aSb a0 a1 l1_1_1 l1_1_2 l1_2_1 l1_2_2 he hcx n0 g0 n1 g1 n2 g2 (v202.set (tN v205) ((v202.getD (tN v205) []).set (tN v206) ((a1.2.2.getD (tN v203) dF).getD (tN v204) dF))) v203 v204 v205 v207 v208 v209 v210 v211 v212 v213 v214 v215 v216 v217 v218 v219 v220 v221 v222 v223 v224 v225 v226 (vT.set (tN v205) (some (xr.1,xr.2.1,splice xr.2.2 (0+tN v206*2) (k2 ((a1.2.2.getD (tN v203) dF).getD (tN v204) dF))))) tr1 (by(repeat' apply And.intro)<;>(try simp only [Int.toNat_zero])<;>first | omega | assumption | exact TL.rep | exact uY)
theorem aWt (a0:Int)(a1:(List Int×bF)×(List (Int×Int×Bool))×List (List (Int×Int)))(l1_1_1:a1.1.1.length<=2^63-1)(l1_1_2:a1.1.2.length<=2^63-1)(l1_2_1:a1.2.1.length<=2^63-1)(l1_2_2:a1.2.2.length<=2^63-1)(he:EntOK a0 a1) {cx:Cx} (hcx:cx.base=4)
 (n0:Nat) (g0:aH0 a0 a1 cx n0)
 (n1:Nat) (g1:aMd a0 a1 cx n0 n1):∀n:Nat,aQg a0 a1 cx n0 n1 n:=by
 intro n
 induction n with
 | zero=>intro v178 v179 v180 v181 v182 v183 v184 v185 v186 v187 v188 v189 v190 v191 v192 v193 v194 v195 v196 v197 v198 v199 v200 v201 vT tr hi hn;exact absurd hn (eI _)
 | succ n ih =>
  intro v178 v179 v180 v181 v182 v183 v184 v185 v186 v187 v188 v189 v190 v191 v192 v193 v194 v195 v196 v197 v198 v199 v200 v201 vT tr hi hn
  refine GoodT.round ?_
  have hnz:=he.nz (by omega)
  have hsl:(((a1.2.2.getD (tN v179) dF).length:Nat):Int)=bif v193 then 1 else(v184 - v183)*(v195 - v194):=by have q:=hi;repeat (first | exact q.1 | replace q:=q.2)
  have hn1:=he.n1
  have hsp:=he.sp
  have hol:=he.ol
  have htl:=hi.2.1
  have hat:=hi.2.2.1
  have hr1:=he.ord.atD (by omega) (tN v187+tN v190)
  cases h0:(decide ((v190:Int) < v189)) with
  | true =>
   have q0:=cJ h0
   have e:=Eq.refl (nR a0 a1 (v178,v179,v180,v181,v182,v183,v184,v185,v186,v187,v188,v189,v190,v191,v192,v193,v194,v195,v196,v197,v198,v199,v200,v201));conv at e=>rhs;simp only [nR,h0,aT]
   rw [aJ,e]
   refine gaT [.d h0,.i v190 (tN v188 - tN v187),cQ aF (a1.1.1) (tN v187) v190 0 1,.z 18] [] [3,5,7,8,10,11,13,15,30,31,32,58,59,60,71,72,73] [4,5,6,7] hcx aFx (aL8 n0 n1 n) (aHy a0 a1 (flat (cO (tN a0)) vT) (vT.length) v179 v180 v181 (a1.1.1.getD ((tN v187)+tN v190) dF) v182 v183 v184 v185 v186 v187 v188 v189 v190 v191 v192 v193 v194 v195 v196 v197 v198 v199 v200 v201) (by kernel_rfl) ⟨by kernel_rfl,by kernel_rfl⟩ ?_
   exact aSc a0 a1 l1_1_1 l1_1_2 l1_2_1 l1_2_2 he hcx n0 g0 n1 g1 n ih v178 v179 v180 v181 (a1.1.1.getD ((tN v187)+tN v190) dF) v182 v183 v184 v185 v186 v187 v188 v189 v190 v191 v192 v193 v194 v195 v196 v197 v198 v199 v200 v201 vT tr (by(repeat' apply And.intro)<;>(try simp only [Int.toNat_zero])<;>first | omega | assumption | exact TL.rep | exact uY)
  | false =>
   have q0:=cN h0
   try have har:=aP6 hi.2.2.1 (by have _:=cN h0;omega)
   have e:=Eq.refl (nR a0 a1 (v178,v179,v180,v181,v182,v183,v184,v185,v186,v187,v188,v189,v190,v191,v192,v193,v194,v195,v196,v197,v198,v199,v200,v201));conv at e=>rhs;simp only [nR,h0,aT]
   rw [aJ,e]
   refine baT [.d h0] [] [3,5,7,8,10,11,30,31,32,58,59,60] [4,5,6,7] hcx (m:=n1) aQa (aQb n0) (aJ7 a0 a1 (flat (cO (tN a0)) vT) (vT.length) v179 v180 v182 v183 v184 v185 (W (v186+1)) v191 v192 v193 v194 v195 v196 v197 v198 v199 v200 v201) (by kernel_rfl) ⟨by kernel_rfl,by kernel_rfl⟩ ?_
   have z0:(W (v186+1))=(v186+1):=aS (by omega) (by omega)
   rw [z0]
   exact g1 v178 v179 v180 v182 v183 v184 v185 (v186+1) v191 v192 v193 v194 v195 v196 v197 v198 v199 v200 v201 vT tr (by(repeat' apply And.intro)<;>(try simp only [Int.toNat_zero])<;>first | omega | assumption | exact TL.rep | exact uY) (by omega)
theorem aWu (a0:Int)(a1:(List Int×bF)×(List (Int×Int×Bool))×List (List (Int×Int)))(l1_1_1:a1.1.1.length<=2^63-1)(l1_1_2:a1.1.2.length<=2^63-1)(l1_2_1:a1.2.1.length<=2^63-1)(l1_2_2:a1.2.2.length<=2^63-1)(he:EntOK a0 a1) {cx:Cx} (hcx:cx.base=4)
 (n0:Nat) (g0:aH0 a0 a1 cx n0):∀n:Nat,aMd a0 a1 cx n0 n:=by
 intro n
 induction n with
 | zero=>intro v159 v160 v161 v162 v163 v164 v165 v166 v167 v168 v169 v170 v171 v172 v173 v174 v175 v176 v177 vT tr hi hn;exact absurd hn (eI _)
 | succ n ih =>
  intro v159 v160 v161 v162 v163 v164 v165 v166 v167 v168 v169 v170 v171 v172 v173 v174 v175 v176 v177 vT tr hi hn
  refine GoodT.round ?_
  have hnz:=he.nz (by omega)
  have hsl:(((a1.2.2.getD (tN v160) dF).length:Nat):Int)=bif v169 then 1 else(v164 - v163)*(v171 - v170):=by have q:=hi;repeat (first | exact q.1 | replace q:=q.2)
  have hn1:=he.n1
  have hsp:=he.sp
  have hol:=he.ol
  have htl:=hi.2.1
  have hat:=hi.2.2.1
  have hr1:=he.ord.atD (by omega) (tN v163+tN v166)
  cases h0:(decide ((v166:Int) < v165)) with
  | true =>
   have q0:=cJ h0
   have e:=Eq.refl (mA a0 a1 (v159,v160,v161,v162,v163,v164,v165,v166,v167,v168,v169,v170,v171,v172,v173,v174,v175,v176,v177));conv at e=>rhs;simp only [mA,h0,aT]
   rw [aJ,e]
   refine enT [.d h0,.i v166 (tN v164 - tN v163),cQ aF (a1.1.1) (tN v163) v166 0 1,.sub v170 v171 (a1.1.1.length)] [] [3,5,7,8,10,11,13,30,31,32,58,59,60,71,72,73] [4,5,6,7] hcx aL9 (aMa n0 n) (aFy a0 a1 (flat (cO (tN a0)) vT) (vT.length) v160 v161 (a1.1.1.getD ((tN v163)+tN v166) dF) v162 v163 v164 v165 v166 v170 v171 (((tN v171 - tN v170):Nat):Int) 0 v167 v168 v169 v170 v171 v172 v173 v174 v175 v176 v177) (tN ((((tN v171 - tN v170):Nat):Int) - 0)+1) (by kernel_rfl) ⟨by kernel_rfl,by kernel_rfl⟩ ?_
   exact aWt a0 a1 l1_1_1 l1_1_2 l1_2_1 l1_2_2 he hcx n0 g0 n ih (tN ((((tN v171 - tN v170):Nat):Int) - 0)+1) v159 v160 v161 (a1.1.1.getD ((tN v163)+tN v166) dF) v162 v163 v164 v165 v166 v170 v171 (((tN v171 - tN v170):Nat):Int) 0 v167 v168 v169 v170 v171 v172 v173 v174 v175 v176 v177 vT tr (by(repeat' apply And.intro)<;>(try simp only [Int.toNat_zero])<;>first | omega | assumption | exact TL.rep | exact uY) (by omega)
  | false =>
   have q0:=cN h0
   have e:=Eq.refl (mA a0 a1 (v159,v160,v161,v162,v163,v164,v165,v166,v167,v168,v169,v170,v171,v172,v173,v174,v175,v176,v177));conv at e=>rhs;simp only [mA,h0,aT]
   rw [aJ,e]
   refine baT [.d h0] [] [3,5,30,31,32] [4,5] hcx (m:=n0) aQc (aQd) (aJ8 a0 a1 (flat (cO (tN a0)) vT) (vT.length) (W (v162+1))) (by kernel_rfl) ⟨by kernel_rfl,by kernel_rfl⟩ ?_
   have z0:(W (v162+1))=(v162+1):=aS (by omega) (by omega)
   rw [z0]
   exact g0 v159 (v162+1) vT tr (by(repeat' apply And.intro)<;>(try simp only [Int.toNat_zero])<;>first | omega | assumption | exact TL.rep | exact uY) (by omega)
theorem aSd (a0:Int)(a1:(List Int×bF)×(List (Int×Int×Bool))×List (List (Int×Int)))(l1_1_1:a1.1.1.length<=2^63-1)(l1_1_2:a1.1.2.length<=2^63-1)(l1_2_1:a1.2.1.length<=2^63-1)(l1_2_2:a1.2.2.length<=2^63-1)(he:EntOK a0 a1) {cx:Cx} (hcx:cx.base=4)(v251:List (List (Int×Int)))(vT:List (Option iK))(tr:TabR eW (tN a0) vT v251):TL (tN a0) v251 (tN a0)->Aw.GoodT Tryz.prog none 9 (bodyPost Tryz.prog Tryz.f23 (RR cx (.s 4 0 (wH a0 a1 v251).length 1) [(.live true true (flat jM (wH a0 a1 v251)))] [])) cx [] (tN a0) 2 vT (.c aMb::aMc) (aHz a0 a1 (flat (cO (tN a0)) vT) (vT.length)):=by
 intro hi
 have e:=Eq.refl (wH a0 a1 v251);conv at e=>rhs;simp only [wH]
 rw [e]
 have hln:=tr.length
 obtain⟨rws,hrw,hfl⟩:=tr.rows' (cT:=jM) (es:=2) (fun _=>rfl) hi.1 (fun i h=>hi.2 i (by have:=hi.1;omega))
 subst hrw
 rw [hln,aFw]
 refine GoodT.freeze (rows:=rws) 4 (by kernel_rfl) ?_
 rw [hfl]
 exact rt [] [] [4] hcx (by kernel_rfl)
theorem aWv (a0:Int)(a1:(List Int×bF)×(List (Int×Int×Bool))×List (List (Int×Int)))(l1_1_1:a1.1.1.length<=2^63-1)(l1_1_2:a1.1.2.length<=2^63-1)(l1_2_1:a1.2.1.length<=2^63-1)(l1_2_2:a1.2.2.length<=2^63-1)(he:EntOK a0 a1) {cx:Cx} (hcx:cx.base=4):∀n:Nat,aH0 a0 a1 cx n:=by
 intro n
 induction n with
 | zero=>intro v10 v11 vT tr hi hn;exact absurd hn (eI _)
 | succ n ih =>
  intro v10 v11 vT tr hi hn
  refine GoodT.round ?_
  have hn1:=he.n1
  have hsp:=he.sp
  have hol:=he.ol
  have htl:=hi.2.1
  cases h0:(decide ((v11:Int) < (a1.2.1.length:Int))) with
  | true =>
   have q0:=cJ h0
   try have hb:=he.blk v11 hi.1 (cJ h0)
   try have hb1:=(fun _=>hb.1) h0
   try have hb2:=(fun _=>hb.2.1) h0
   try have hb3:=(fun _=>hb.2.2.1) h0
   try have hb4:=(fun _=>hb.2.2.2.1) h0
   try have hb5:=(fun _=>hb.2.2.2.2) h0
   have e:=Eq.refl (kB a0 a1 (v10,v11));conv at e=>rhs;simp only [kB,h0,aT]
   rw [aJ,e]
   refine enT [.d h0,.i v11 (a1.2.1.length),.L eF a1.2.1 v11 0 3,.i ((a1.2.1.getD (tN v11) dF).1) (a1.1.2.length),.L bU a1.1.2 (a1.2.1.getD (tN v11) dF).1 0 8,.i ((a1.2.1.getD (tN v11) dF).2.1) (a1.1.2.length),.L bU a1.1.2 (a1.2.1.getD (tN v11) dF).2.1 0 8,.sub ((a1.1.2.getD (tN (a1.2.1.getD (tN v11) dF).1) dF).1) ((a1.1.2.getD (tN (a1.2.1.getD (tN v11) dF).1) dF).2.1) (a1.1.1.length)] [] [3,5,7,8,10,11,30,31,32,58,59,60] [4,5,6,8] hcx aQa (aQb n) (aJ7 a0 a1 (flat (cO (tN a0)) vT) (vT.length) v11 0 v11 ((a1.1.2.getD (tN (a1.2.1.getD (tN v11) dF).1) dF).1) ((a1.1.2.getD (tN (a1.2.1.getD (tN v11) dF).1) dF).2.1) (((tN ((a1.1.2.getD (tN (a1.2.1.getD (tN v11) dF).1) dF).2.1) - tN ((a1.1.2.getD (tN (a1.2.1.getD (tN v11) dF).1) dF).1)):Nat):Int) 0 ((a1.2.1.getD (tN v11) dF).1) ((a1.2.1.getD (tN v11) dF).2.1) ((a1.2.1.getD (tN v11) dF).2.2) ((a1.1.2.getD (tN (a1.2.1.getD (tN v11) dF).2.1) dF).1) ((a1.1.2.getD (tN (a1.2.1.getD (tN v11) dF).2.1) dF).2.1) ((a1.1.2.getD (tN (a1.2.1.getD (tN v11) dF).2.1) dF).2.2.1) ((a1.1.2.getD (tN (a1.2.1.getD (tN v11) dF).2.1) dF).2.2.2.1) ((a1.1.2.getD (tN (a1.2.1.getD (tN v11) dF).2.1) dF).2.2.2.2.1.1) ((a1.1.2.getD (tN (a1.2.1.getD (tN v11) dF).2.1) dF).2.2.2.2.1.2.1) ((a1.1.2.getD (tN (a1.2.1.getD (tN v11) dF).2.1) dF).2.2.2.2.1.2.2) ((a1.1.2.getD (tN (a1.2.1.getD (tN v11) dF).2.1) dF).2.2.2.2.2)) (tN ((((tN ((a1.1.2.getD (tN (a1.2.1.getD (tN v11) dF).1) dF).2.1) - tN ((a1.1.2.getD (tN (a1.2.1.getD (tN v11) dF).1) dF).1)):Nat):Int) - 0)+1) (by kernel_rfl) ⟨by kernel_rfl,by kernel_rfl⟩ ?_
   exact aWu a0 a1 l1_1_1 l1_1_2 l1_2_1 l1_2_2 he hcx n ih (tN ((((tN ((a1.1.2.getD (tN (a1.2.1.getD (tN v11) dF).1) dF).2.1) - tN ((a1.1.2.getD (tN (a1.2.1.getD (tN v11) dF).1) dF).1)):Nat):Int) - 0)+1) v10 v11 0 v11 ((a1.1.2.getD (tN (a1.2.1.getD (tN v11) dF).1) dF).1) ((a1.1.2.getD (tN (a1.2.1.getD (tN v11) dF).1) dF).2.1) (((tN ((a1.1.2.getD (tN (a1.2.1.getD (tN v11) dF).1) dF).2.1) - tN ((a1.1.2.getD (tN (a1.2.1.getD (tN v11) dF).1) dF).1)):Nat):Int) 0 ((a1.2.1.getD (tN v11) dF).1) ((a1.2.1.getD (tN v11) dF).2.1) ((a1.2.1.getD (tN v11) dF).2.2) ((a1.1.2.getD (tN (a1.2.1.getD (tN v11) dF).2.1) dF).1) ((a1.1.2.getD (tN (a1.2.1.getD (tN v11) dF).2.1) dF).2.1) ((a1.1.2.getD (tN (a1.2.1.getD (tN v11) dF).2.1) dF).2.2.1) ((a1.1.2.getD (tN (a1.2.1.getD (tN v11) dF).2.1) dF).2.2.2.1) ((a1.1.2.getD (tN (a1.2.1.getD (tN v11) dF).2.1) dF).2.2.2.2.1.1) ((a1.1.2.getD (tN (a1.2.1.getD (tN v11) dF).2.1) dF).2.2.2.2.1.2.1) ((a1.1.2.getD (tN (a1.2.1.getD (tN v11) dF).2.1) dF).2.2.2.2.1.2.2) ((a1.1.2.getD (tN (a1.2.1.getD (tN v11) dF).2.1) dF).2.2.2.2.2) vT tr (by(repeat' apply And.intro)<;>(try simp only [Int.toNat_zero])<;>first | omega | assumption | exact TL.rep | exact uY) (by omega)
  | false =>
   have q0:=cN h0
   have e:=Eq.refl (kB a0 a1 (v10,v11));conv at e=>rhs;simp only [kB,h0,aT]
   rw [aJ,e]
   refine gaT [.d h0,.z 24] [] [5] [5] hcx aMb (aMc) (aHz a0 a1 (flat (cO (tN a0)) vT) (vT.length)) (by kernel_rfl) ⟨by kernel_rfl,by kernel_rfl⟩ ?_
   exact aSd a0 a1 l1_1_1 l1_1_2 l1_2_1 l1_2_2 he hcx v10 vT tr (by(repeat' apply And.intro)<;>(try simp only [Int.toNat_zero])<;>first | omega | assumption | exact TL.rep | exact uY)
theorem aWw (a0:Int)(a1:(List Int×bF)×(List (Int×Int×Bool))×List (List (Int×Int)))(l1_1_1:a1.1.1.length<=2^63-1)(l1_1_2:a1.1.2.length<=2^63-1)(l1_2_1:a1.2.1.length<=2^63-1)(l1_2_2:a1.2.2.length<=2^63-1)(he:EntOK a0 a1) {cx:Cx} (hcx:cx.base=4):∀n:Nat,aQh a0 a1 cx n:=by
 intro n
 induction n with
 | zero=>intro v1 v2 vT tr hi hn;exact absurd hn (eI _)
 | succ n ih =>
  intro v1 v2 vT tr hi hn
  refine GoodT.round ?_
  have hn1:=he.n1
  have hsp:=he.sp
  have htl:=hi.2.1
  cases h0:(decide ((v2:Int) < (((tN a0):Nat):Int))) with
  | true =>
   have q0:=cJ h0
   have e:=Eq.refl (nS a0 a1 (v1,v2));conv at e=>rhs;simp only [nS,h0,aT]
   rw [aJ,e]
   refine gaT [.d h0,.z 5] [] [0,3,5,6,19,20] [4,5] hcx aJ6 (aP9 n) (aL5 a0 a1 (flat (cO (tN a0)) vT) (vT.length) v2 v2) (by kernel_rfl) ⟨by kernel_rfl,by kernel_rfl⟩ ?_
   exact aUs a0 a1 l1_1_1 l1_1_2 l1_2_1 l1_2_2 he hcx n ih v1 v2 v2 vT tr (by(repeat' apply And.intro)<;>(try simp only [Int.toNat_zero])<;>first | omega | assumption | exact TL.rep | exact uY)
  | false =>
   have q0:=cN h0
   try have htl2:=htl.le (k:=tN a0) (by have _:=cN h0;omega)
   have e:=Eq.refl (nS a0 a1 (v1,v2));conv at e=>rhs;simp only [nS,h0,aT]
   rw [aJ,e]
   refine enT [.d h0] [] [3,5,30,31,32] [4,5] hcx aQc (aQd) (aJ8 a0 a1 (flat (cO (tN a0)) vT) (vT.length) 0) (tN ((a1.2.1.length:Int) - 0)+1) (by kernel_rfl) ⟨by kernel_rfl,by kernel_rfl⟩ ?_
   exact aWv a0 a1 l1_1_1 l1_1_2 l1_2_1 l1_2_2 he hcx (tN ((a1.2.1.length:Int) - 0)+1) v1 0 vT tr (by(repeat' apply And.intro)<;>(try simp only [Int.toNat_zero])<;>first | omega | assumption | exact TL.rep | exact uY) (by omega)
def F23 (a0:Int)(a1:(List Int×bF)×(List (Int×Int×Bool))×List (List (Int×Int))):List (List (Int×Int)) :=
 (aH (nS a0 a1) (tN ((((tN a0):Nat):Int) - 0)+1) ((List.replicate (tN a0) []),0))
theorem C23 (a0:Int)(a1:(List Int×bF)×(List (Int×Int×Bool))×List (List (Int×Int)))(l1_1_1:a1.1.1.length<=2^63-1)(l1_1_2:a1.1.2.length<=2^63-1)(l1_2_1:a1.2.1.length<=2^63-1)(l1_2_2:a1.2.2.length<=2^63-1)(he:EntOK a0 a1):Con Tryz.prog 23 [(iv a0),(.a [(.s 0 0 a1.1.1.length 1),(.s 1 0 a1.1.2.length 8),(.s 2 0 a1.2.1.length 3),(.s 3 0 a1.2.2.length 1)])] [(.live false true (flat c3 a1.1.1)),(.live false true (flat cB a1.1.2)),(.live false true (flat fC a1.2.1)),(.live false true (flat jM a1.2.2))] (.s 4 0 (F23 a0 a1).length 1) [(.live true true (flat jM (F23 a0 a1)))]:=by
 refine aY Tryz.func23 (by kernel_rfl) fun cx hcx=>?_
 have hn1:=he.n1
 have hsp:=he.sp
 have e:=Eq.refl (F23 a0 a1);conv at e=>rhs;simp only [F23]
 rw [e]
 refine en [.Z (cO (tN a0)) none [(.v (.slice none 0 0))] a0 24] [] [0,3,5,19,20] [4,5] hcx aQe (aQf) (aJ9 a0 a1 (flat (cO (tN a0)) (List.replicate (tN a0) none)) (tN a0) 0) (tN ((((tN a0):Nat):Int) - 0)+1) (by kernel_rfl) ?_
 refine GoodT.none (nn:=(tN a0)) (es:=2) (rows:=List.replicate (tN a0) none) aP3 ?_
 have q:=aWw a0 a1 l1_1_1 l1_1_2 l1_2_1 l1_2_2 he hcx (tN ((((tN a0):Nat):Int) - 0)+1) (List.replicate (tN a0) []) 0 (List.replicate (tN a0) none) (TabR.rep _) (by(repeat' apply And.intro)<;>(try simp only [Int.toNat_zero])<;>first | omega | assumption | exact TL.rep | exact uY) (by omega)
 simp only [List.length_replicate] at q
 exact q
end Go.Proofs.YtkdfcbmcgnaicaaGreat
