/-
  Parts of the proofs of the laws: the executor, what functions of the program compute, and that it is what the statements ask. No premise.
-/
import Derived.Test.YtmihafgemmgepaaGreatVPcm5
set_option linter.unusedVariables false
set_option linter.unusedSimpArgs false
set_option maxHeartbeats 4000000
open Int (toNat)
namespace Go.Proofs.YtmihafgemmgepaaGreat
open Go.Proofs Go.Aw Go.RowKit
set_option maxRecDepth 100000
def cW (a0:bM)(a1:List (Int)×bE)(a2:Int):Int :=
 (bif (((pW a0 (a1.1,a1.2)):Int) != 0) then
  (pW a0 (a1.1,a1.2))
 else
  (bif (!(rN a2 1 16)) then
   1
  else
   0))
theorem aUu (a0:bM)(a1:List (Int)×bE)(a2:Int)(l0:a0.length<=9223372036854775807)(l1_1:a1.1.length<=9223372036854775807)(l1_2:a1.2.length<=9223372036854775807) [h5:dR a0]:Con Tryz.prog 20 [(.s 0 0 a0.length 10),(.a [(.s 1 0 a1.1.length 1),(.s 2 0 a1.2.length 8)]),(iv a2)] [(.live false true (flat eF a0)),(.live false true (flat c3 a1.1)),(.live false true (flat bT a1.2))] (iv (cW a0 a1 a2)) []:=by
 refine aO Tryz.func20 (by kernel_rfl) fun cx hcx=>?_
 let t0:List (St Tryz.prog):=[.c [0,1,2] (aUr a0 (a1.1,a1.2) (by omega) (by(try simp only [Lt]);omega) (by(try simp only [Lt]);omega))]
 cases h0:(((pW a0 (a1.1,a1.2)):Int) != 0) with
 | true =>
  have q0:=bne_iff_ne.1 h0
  have e:=Eq.refl (cW a0 a1 a2);conv at e=>rhs;simp only [cW,h0,aS]
  rw [e]
  exact rt (t0++[.d h0]) [] [] hcx (by kernel_rfl)
 | false =>
  have q0:=bne_eq_false_iff_eq.1 h0
  let t1:List (St Tryz.prog):=(t0++[.d h0,.c [] (C21 a2 1 16)])
  cases h1:(!(rN a2 1 16)) with
  | true =>
   have e:=Eq.refl (cW a0 a1 a2);conv at e=>rhs;simp only [cW,h0,h1,aS]
   rw [e]
   exact rt (t1++[.d h1]) [] [] hcx (by kernel_rfl)
  | false =>
   have e:=Eq.refl (cW a0 a1 a2);conv at e=>rhs;simp only [cW,h0,h1,aS]
   rw [e]
   exact rt (t1++[.d h1]) [] [] hcx (by kernel_rfl)
def aR4 (t:TR):Prop:=t.1.length<=1048576/\t.2.length<=1048576/\∀i:Nat,i < t.2.length->0<=(t.2.getD i default).1/\(t.2.getD i default).1 < (t.2.getD i default).2.1/\(t.2.getD i default).2.1<=t.1.length
theorem aPj (l:eW)(hl:l.length<=96) {leaf:Int} (h1:1<=leaf):aR4 (BT l leaf):=by
 have hb:=qZ l hl h1
 refine⟨by omega,by omega,fun i hi=>?_⟩
 have:=aUt l h1 _ (List.getElem_mem hi)
 rw [eQ,List.getElem?_eq_getElem hi]
 simp only [Option.getD_some]
 obtain⟨c1,c2,c3,_⟩:=this
 omega
def F42 (a0:Zt)(a1:Zt):Zt :=
 ((W (a0.1 - a1.1)),(W (a0.2.1 - a1.2.1)),(W (a0.2.2 - a1.2.2)))
theorem C42 (a0:Zt)(a1:Zt):Con Tryz.prog 42 [(.a (k3 a0)),(.a (k3 a1))] [] (.a (k3 (F42 a0 a1))) []:=by
 refine aO Tryz.func42 (by kernel_rfl) fun cx hcx=>?_
 have e:=Eq.refl (F42 a0 a1);conv at e=>rhs;simp only [F42]
 rw [e]
 exact rt [] [] [] hcx (by kernel_rfl)
def tA (a0:Zt):Int :=
 (W ((W ((W (a0.1*a0.1))+(W (a0.2.1*a0.2.1))))+(W (a0.2.2*a0.2.2))))
theorem C41 (a0:Zt):Con Tryz.prog 41 [(.a (k3 a0))] [] (iv (tA a0)) []:=by
 refine aO Tryz.func41 (by kernel_rfl) fun cx hcx=>?_
 have e:=Eq.refl (tA a0);conv at e=>rhs;simp only [tA]
 rw [e]
 exact rt [] [] [] hcx (by kernel_rfl)
section
variable {t : TR} {x : Zt} {sep : Int} {a : Nat} {far pan : List Int} {d : Int}
end
end Go.Proofs.YtmihafgemmgepaaGreat
namespace Go.Proofs.YtmihafgemmgepaaGreat
open Go.Proofs Go.Aw Go.RowKit
set_option maxRecDepth 100000
theorem aDq (l:eW) {leaf:Int} (hl:1<=leaf):∀(n:Nat) (ns:List Int) (fr a:Int),ns.length < n->(GT l leaf n ns fr a).1.Perm ns
 | 0,_,_,_,h=>absurd h (eP _)
 | n+1,ns,fr,a,h=>by
   by_cases h0:(ns.length:Int)<=leaf
   · rw [lJ h0]
   · rw [lK h0]
     have hsl:=lI l (aD l ns) ns
     refine((aDq l hl n _ _ _ (by rw [List.length_take,hsl];omega)).append (aDq l hl n _ _ _ (by rw [List.length_drop,hsl];omega))).trans ?_
     rw [List.take_append_drop]
     exact List.mergeSort_perm ns _
theorem aPk (l:eW) {leaf:Int} (hl:1<=leaf):(BT l leaf).1.Perm (jJ l.length):=by
 unfold BT
 by_cases h0:l.length=0
 · rw [if_pos h0,h0];exact List.Perm.refl _
 · rw [if_neg h0];exact aDq l hl _ _ _ _ (by rw [dZ];omega)
abbrev BLK:=Int×Int×Bool
structure PVB (i k:Int) (t:TR) (out:List BLK):Prop where
 e0:0<=i
 e1:0<=k
 e2:t.2.length<=1048576
 e3:∃(m:Nat) (f u h:Int) (m':Nat) (f' u' h':Int),TRE t.2 (toNat i) m f u h/\TRE t.2 (toNat k) m' f' u' h'/\out.length+(u - f)*(u' - f')<=1048576
theorem iH {a b:Int} (ha:1<=a)(hb:1<=b):1<=a*b:=by
 have:=Int.mul_le_mul ha hb (by omega) (by omega)
 omega
theorem rE {i k:Int} {t:TR} {out:List BLK} (h:PVB i k t out):i < t.2.length/\k < t.2.length/\out.length+1<=1048576:=by
 obtain⟨e0,e1,e2,m,f,u,hh,m',f',u',hh',e3,e4,e5⟩:=h
 have h1:=bQ e3
 have h2:=bQ e4
 have h3:=iH (a:=u - f) (b:=u' - f') (by omega) (by omega)
 omega
theorem xC (a b c w:Int):(c - a)*w+(b - c)*w=(b - a)*w:=by
 rw [←Int.add_mul,show c - a+(b - c)=b - a by omega]
theorem tB (a b c w:Int):w*(c - a)+w*(b - c)=w*(b - a):=by
 rw [←Int.mul_add,show c - a+(b - c)=b - a by omega]
def dU (x:Int×Int×Bool):List SV:=[(iv x.1),(iv x.2.1),(.v (.bool x.2.2))]
theorem dJ (x:Int×Int×Bool):(dU x).length=3:=rfl
def pX (a0:Int)(a1:Int)(a2:List (Int)×bE)(a3:Int)(a4:List (Int×Int×Bool)):=(F42 (a2.2.getD (toNat a0) default).2.2.2.2.1 (a2.2.getD (toNat a1) default).2.2.2.2.1)
def pY (rr:(Int)->(Int)->(List (Int)×bE)->(Int)->(List (Int×Int×Bool))->List (Int×Int×Bool))(a0:Int)(a1:Int)(a2:List (Int)×bE)(a3:Int)(a4:List (Int×Int×Bool)):=(rr (a2.2.getD (toNat a0) default).2.2.1 a1 (a2.1,a2.2) a3 a4)
def aFm (rr:(Int)->(Int)->(List (Int)×bE)->(Int)->(List (Int×Int×Bool))->List (Int×Int×Bool))(a0:Int)(a1:Int)(a2:List (Int)×bE)(a3:Int)(a4:List (Int×Int×Bool)):=(rr (a2.2.getD (toNat a0) default).2.2.2.1 a1 (a2.1,a2.2) a3 (pY (rr) a0 a1 a2 a3 a4))
def pZ (rr:(Int)->(Int)->(List (Int)×bE)->(Int)->(List (Int×Int×Bool))->List (Int×Int×Bool))(a0:Int)(a1:Int)(a2:List (Int)×bE)(a3:Int)(a4:List (Int×Int×Bool)):=(rr a0 (a2.2.getD (toNat a1) default).2.2.1 (a2.1,a2.2) a3 a4)
def aFn (rr:(Int)->(Int)->(List (Int)×bE)->(Int)->(List (Int×Int×Bool))->List (Int×Int×Bool))(a0:Int)(a1:Int)(a2:List (Int)×bE)(a3:Int)(a4:List (Int×Int×Bool)):=(rr a0 (a2.2.getD (toNat a1) default).2.2.2.1 (a2.1,a2.2) a3 (pZ (rr) a0 a1 a2 a3 a4))
noncomputable def aHd:Code:=(eB [1,1,1,0,1,0] [] (aL Tryz.f40)).1
noncomputable def aHe:List K:=(eB [1,1,1,0,1,0] [] (aL Tryz.f40)).2
def aDr (nr:Nat)(a0:Int)(a1:Int)(a2:List (Int)×bE)(a3:Int)(a4:List (Int×Int×Bool))(v2:Bool):LS:=⟨iM 105 [(0,(iv a0)),(1,(iv a1)),(4,(.p 4 0)),(11,(.v (.bool v2)))],[(.live false false [(.s 1 0 a2.1.length 1),(.s 2 0 a2.2.length 8)]),(.live false true (flat c3 a2.1)),(.live false true (flat bT a2.2)),(.live false false [(iv a3)]),(.live true false [(.s 5 0 a4.length 3)]),(.live true true (flat dU a4)),(.live false false [(.f 40 [(.p 0 0),(.p 3 0),(.p 4 0),(.p 6 0)])])]⟩
def lW (rr:(Int)->(Int)->(List (Int)×bE)->(Int)->(List (Int×Int×Bool))->List (Int×Int×Bool))(a0:Int)(a1:Int)(a2:List (Int)×bE)(a3:Int)(a4:List (Int×Int×Bool)):Bool->List (Int×Int×Bool)
 | v2 =>
  (a4++[(a0,a1,v2)])
noncomputable def aHf:Code:=(eB [1,1,1,0,1,1,0] [] (aL Tryz.f40)).1
noncomputable def aHg:List K:=(eB [1,1,1,0,1,1,0] [] (aL Tryz.f40)).2
def aDs (nr:Nat)(a0:Int)(a1:Int)(a2:List (Int)×bE)(a3:Int)(a4:List (Int×Int×Bool)):LS:=⟨iM 105 [(0,(iv a0)),(1,(iv a1)),(5,(.p 6 0)),(8,(.p 7 0)),(9,(.p 8 0))],[(.live false false [(.s 1 0 a2.1.length 1),(.s 2 0 a2.2.length 8)]),(.live false true (flat c3 a2.1)),(.live false true (flat bT a2.2)),(.live false false [(iv a3)]),(.live true false [(.s 5 0 a4.length 3)]),(.live true true (flat dU a4)),(.live false false [(.f 40 [(.p 0 0),(.p 3 0),(.p 4 0),(.p 6 0)])]),(.live true false [(iv (a2.2.getD (toNat a0) default).1),(iv (a2.2.getD (toNat a0) default).2.1),(iv (a2.2.getD (toNat a0) default).2.2.1),(iv (a2.2.getD (toNat a0) default).2.2.2.1),(iv (a2.2.getD (toNat a0) default).2.2.2.2.1.1),(iv (a2.2.getD (toNat a0) default).2.2.2.2.1.2.1),(iv (a2.2.getD (toNat a0) default).2.2.2.2.1.2.2),(iv (a2.2.getD (toNat a0) default).2.2.2.2.2)]),(.live true false [(iv (a2.2.getD (toNat a1) default).1),(iv (a2.2.getD (toNat a1) default).2.1),(iv (a2.2.getD (toNat a1) default).2.2.1),(iv (a2.2.getD (toNat a1) default).2.2.2.1),(iv (a2.2.getD (toNat a1) default).2.2.2.2.1.1),(iv (a2.2.getD (toNat a1) default).2.2.2.2.1.2.1),(iv (a2.2.getD (toNat a1) default).2.2.2.2.1.2.2),(iv (a2.2.getD (toNat a1) default).2.2.2.2.2)])]⟩
def gA (rr:(Int)->(Int)->(List (Int)×bE)->(Int)->(List (Int×Int×Bool))->List (Int×Int×Bool))(a0:Int)(a1:Int)(a2:List (Int)×bE)(a3:Int)(a4:List (Int×Int×Bool)):Unit->List (Int×Int×Bool)
 | () =>
  (bif (decide (((a2.2.getD (toNat a1) default).2.2.1:Int) < 0)) then
   (aFm (rr) a0 a1 a2 a3 a4)
  else
   (bif (decide (((a2.2.getD (toNat a0) default).2.2.1:Int)≥0)) then
    (bif (decide (((W ((a2.2.getD (toNat a0) default).2.1 - (a2.2.getD (toNat a0) default).1)):Int)≥(W ((a2.2.getD (toNat a1) default).2.1 - (a2.2.getD (toNat a1) default).1)))) then
     (aFm (rr) a0 a1 a2 a3 a4)
    else
     (aFn (rr) a0 a1 a2 a3 a4))
   else
    (aFn (rr) a0 a1 a2 a3 a4)))
noncomputable def aHh:Code:=(eB [1,1,1,0,0] [] (aL Tryz.f40)).1
noncomputable def aHi:List K:=(eB [1,1,1,0,0] [] (aL Tryz.f40)).2
def aDt (nr:Nat)(a0:Int)(a1:Int)(a2:List (Int)×bE)(a3:Int)(a4:List (Int×Int×Bool))(v1:Bool):LS:=⟨iM 105 [(0,(iv a0)),(1,(iv a1)),(4,(.p 4 0)),(5,(.p 6 0)),(8,(.p 7 0)),(9,(.p 8 0)),(11,(.v (.bool v1)))],[(.live false false [(.s 1 0 a2.1.length 1),(.s 2 0 a2.2.length 8)]),(.live false true (flat c3 a2.1)),(.live false true (flat bT a2.2)),(.live false false [(iv a3)]),(.live true false [(.s 5 0 a4.length 3)]),(.live true true (flat dU a4)),(.live false false [(.f 40 [(.p 0 0),(.p 3 0),(.p 4 0),(.p 6 0)])]),(.live true false [(iv (a2.2.getD (toNat a0) default).1),(iv (a2.2.getD (toNat a0) default).2.1),(iv (a2.2.getD (toNat a0) default).2.2.1),(iv (a2.2.getD (toNat a0) default).2.2.2.1),(iv (a2.2.getD (toNat a0) default).2.2.2.2.1.1),(iv (a2.2.getD (toNat a0) default).2.2.2.2.1.2.1),(iv (a2.2.getD (toNat a0) default).2.2.2.2.1.2.2),(iv (a2.2.getD (toNat a0) default).2.2.2.2.2)]),(.live true false [(iv (a2.2.getD (toNat a1) default).1),(iv (a2.2.getD (toNat a1) default).2.1),(iv (a2.2.getD (toNat a1) default).2.2.1),(iv (a2.2.getD (toNat a1) default).2.2.2.1),(iv (a2.2.getD (toNat a1) default).2.2.2.2.1.1),(iv (a2.2.getD (toNat a1) default).2.2.2.2.1.2.1),(iv (a2.2.getD (toNat a1) default).2.2.2.2.1.2.2),(iv (a2.2.getD (toNat a1) default).2.2.2.2.2)])]⟩
def gB (rr:(Int)->(Int)->(List (Int)×bE)->(Int)->(List (Int×Int×Bool))->List (Int×Int×Bool))(a0:Int)(a1:Int)(a2:List (Int)×bE)(a3:Int)(a4:List (Int×Int×Bool)):Bool->List (Int×Int×Bool)
 | v1 =>
  (bif v1 then
   (lW rr a0 a1 a2 a3 a4 v1)
  else
   (bif (decide (((a2.2.getD (toNat a0) default).2.2.1:Int) < 0)) then
    (bif (decide (((a2.2.getD (toNat a1) default).2.2.1:Int) < 0)) then
     (lW rr a0 a1 a2 a3 a4 v1)
    else
     (gA rr a0 a1 a2 a3 a4 ()))
   else
    (gA rr a0 a1 a2 a3 a4 ())))
def gG:Nat->(Int)->(Int)->(List (Int)×bE)->(Int)->(List (Int×Int×Bool))->List (Int×Int×Bool)
 | 0,_,_,_,_,_=>default
 | nr+1,a0,a1,a2,a3,a4 =>
 (bif (decide (((tA (pX a0 a1 a2 a3 a4)):Int) > 0)) then
  (gB (gG nr) a0 a1 a2 a3 a4 (decide (((W ((W ((W ((W ((a2.2.getD (toNat a0) default).2.2.2.2.2+(a2.2.getD (toNat a1) default).2.2.2.2.2))*4))*a3))*a3)):Int)<=(tA (pX a0 a1 a2 a3 a4)))))
 else
  (gB (gG nr) a0 a1 a2 a3 a4 false))
def F40 (a0:Int)(a1:Int)(a2:List (Int)×bE)(a3:Int)(a4:List (Int×Int×Bool)):List (Int×Int×Bool):=gG (((a2.2.length - toNat a0)+(a2.2.length - toNat a1))+1) a0 a1 a2 a3 a4
theorem pB:∀(nr:Nat) (i k:Int) (t:TR) (sep:Int) (out:List BLK) (m:Nat) (f u h:Int) (m':Nat) (f' u' h':Int),TRE t.2 (toNat i) m f u h->TRE t.2 (toNat k) m' f' u' h'->0<=i->0<=k->(t.2.length - toNat i)+(t.2.length - toNat k) < nr ->
   ((gG nr i k t sep out).length:Int)<=out.length+(u - f)*(u' - f')
 | 0,_,_,_,_,_,_,_,_,_,_,_,_,_,_,_,_,_,h=>absurd h (eP _)
 | nr+1,i,k,t,sep,out,m,f,u,h,m',f',u',h',H,K,hi,hk,hn=>by
   have hb:=bQ H
   have kb:=bQ K
   have hm:=iH (a:=u - f) (b:=u' - f') (by omega) (by omega)
   have hs:∀b:Bool,((out++[(i,k,b)]).length:Int)<=out.length+(u - f)*(u' - f'):=fun b=>by rw [List.length_append,List.length_singleton];omega
   have hA:¬(t.2.getD (toNat i) default).2.2.1 < 0->((aFm (gG nr) i k t sep out).length:Int)<=out.length+(u - f)*(u' - f'):=by
     intro hq
     rcases fM H with⟨_,_,h5,_⟩ | ⟨m1,m2,c,h1,h2,e8,g4,g5,b1,b2,e9⟩
     · omega
     · have l1:=bQ b1
       have l2:=bQ b2
       have c1:=pB nr (t.2.getD (toNat i) default).2.2.1 k t sep out m1 f c h1 m' f' u' h' (by rw [g4,jM];exact b1) K (by omega) hk (by omega)
       have c2:=pB nr (t.2.getD (toNat i) default).2.2.2.1 k t sep (pY (gG nr) i k t sep out) m2 c u h2 m' f' u' h' (by rw [g5,jM];exact b2) K (by omega) hk (by omega)
       have c3:=xC f u c (u' - f')
       refine Int.le_trans c2 ?_
       have c4:((pY (gG nr) i k t sep out).length:Int)<=out.length+(c - f)*(u' - f'):=c1
       omega
   have hB:¬(t.2.getD (toNat k) default).2.2.1 < 0->((aFn (gG nr) i k t sep out).length:Int)<=out.length+(u - f)*(u' - f'):=by
     intro hq
     rcases fM K with⟨_,_,h5,_⟩ | ⟨m1,m2,c,h1,h2,e8,g4,g5,b1,b2,e9⟩
     · omega
     · have l1:=bQ b1
       have l2:=bQ b2
       have c1:=pB nr i (t.2.getD (toNat k) default).2.2.1 t sep out m f u h m1 f' c h1 H (by rw [g4,jM];exact b1) hi (by omega) (by omega)
       have c2:=pB nr i (t.2.getD (toNat k) default).2.2.2.1 t sep (pZ (gG nr) i k t sep out) m f u h m2 c u' h2 H (by rw [g5,jM];exact b2) hi (by omega) (by omega)
       have c3:=tB f' u' c (u - f)
       refine Int.le_trans c2 ?_
       have c4:((pZ (gG nr) i k t sep out).length:Int)<=out.length+(u - f)*(c - f'):=c1
       omega
   have hJ:0<=(t.2.getD (toNat i) default).2.2.1\/0<=(t.2.getD (toNat k) default).2.2.1->((gA (gG nr) i k t sep out ()).length:Int)<=out.length+(u - f)*(u' - f'):=by
     intro hq
     simp only [gA]
     by_cases z1:(t.2.getD (toNat k) default).2.2.1 < 0
     · rw [cN z1,cond_true];exact hA (by omega)
     · rw [dQ z1,cond_false]
       by_cases z2:(t.2.getD (toNat i) default).2.2.1≥0
       · rw [cN z2,cond_true,Bool.cond_eq_ite]
         split
         · exact hA (by omega)
         · exact hB z1
       · rw [dQ z2,cond_false];exact hB z1
   have h5:∀b:Bool,((gB (gG nr) i k t sep out b).length:Int)<=out.length+(u - f)*(u' - f'):=by
     intro b
     cases b with
     | true=>exact hs true
     | false =>
       simp only [gB,cond_false,lW]
       by_cases z1:(t.2.getD (toNat i) default).2.2.1 < 0
       · rw [cN z1,cond_true]
         by_cases z2:(t.2.getD (toNat k) default).2.2.1 < 0
         · rw [cN z2,cond_true];exact hs false
         · rw [dQ z2,cond_false];exact hJ (by omega)
       · rw [dQ z1,cond_false];exact hJ (by omega)
   simp only [gG]
   rw [Bool.cond_eq_ite]
   split
   · exact h5 _
   · exact h5 _
theorem aUv {nr:Nat} {i k:Int} {t:TR} {out:List BLK} (sep:Int)(h:PVB i k t out)(hlt:(t.2.length - toNat i)+(t.2.length - toNat k) < nr+1)(hq:¬(t.2.getD (toNat i) default).2.2.1 < 0) :
   PVB (t.2.getD (toNat i) default).2.2.1 k t out/\PVB (t.2.getD (toNat i) default).2.2.2.1 k t (pY (gG nr) i k t sep out) /\
   ((t.2.length - toNat (t.2.getD (toNat i) default).2.2.1)+(t.2.length - toNat k) < nr/\(t.2.length - toNat (t.2.getD (toNat i) default).2.2.2.1)+(t.2.length - toNat k) < nr)/\(pY (gG nr) i k t sep out).length<=1048576:=by
 obtain⟨e0,e1,e2,m,f,u,hh,m',f',u',hh',H,K,e5⟩:=h
 have hb:=bQ H
 have kb:=bQ K
 rcases fM H with⟨_,_,h5,_⟩ | ⟨m1,m2,c,h1,h2,e8,g4,g5,b1,b2,e9⟩
 · omega
 · have l1:=bQ b1
   have l2:=bQ b2
   have p1:=iH (a:=c - f) (b:=u' - f') (by omega) (by omega)
   have p2:=iH (a:=u - c) (b:=u' - f') (by omega) (by omega)
   have c3:=xC f u c (u' - f')
   have c1:=pB nr (t.2.getD (toNat i) default).2.2.1 k t sep out m1 f c h1 m' f' u' hh' (by rw [g4,jM];exact b1) K (by omega) e1 (by omega)
   have c4:((pY (gG nr) i k t sep out).length:Int)<=out.length+(c - f)*(u' - f'):=c1
   exact⟨⟨by omega,e1,e2,m1,f,c,h1,m',f',u',hh',by rw [g4,jM];exact b1,K,by omega⟩,⟨by omega,e1,e2,m2,c,u,h2,m',f',u',hh',by rw [g5,jM];exact b2,K,by omega⟩,⟨by omega,by omega⟩,by omega⟩
theorem aUw {nr:Nat} {i k:Int} {t:TR} {out:List BLK} (sep:Int)(h:PVB i k t out)(hlt:(t.2.length - toNat i)+(t.2.length - toNat k) < nr+1)(hq:¬(t.2.getD (toNat k) default).2.2.1 < 0) :
   PVB i (t.2.getD (toNat k) default).2.2.1 t out/\PVB i (t.2.getD (toNat k) default).2.2.2.1 t (pZ (gG nr) i k t sep out) /\
   ((t.2.length - toNat i)+(t.2.length - toNat (t.2.getD (toNat k) default).2.2.1) < nr/\(t.2.length - toNat i)+(t.2.length - toNat (t.2.getD (toNat k) default).2.2.2.1) < nr)/\(pZ (gG nr) i k t sep out).length<=1048576:=by
 obtain⟨e0,e1,e2,m,f,u,hh,m',f',u',hh',H,K,e5⟩:=h
 have hb:=bQ H
 have kb:=bQ K
 rcases fM K with⟨_,_,h5,_⟩ | ⟨m1,m2,c,h1,h2,e8,g4,g5,b1,b2,e9⟩
 · omega
 · have l1:=bQ b1
   have l2:=bQ b2
   have p1:=iH (a:=u - f) (b:=c - f') (by omega) (by omega)
   have p2:=iH (a:=u - f) (b:=u' - c) (by omega) (by omega)
   have c3:=tB f' u' c (u - f)
   have c1:=pB nr i (t.2.getD (toNat k) default).2.2.1 t sep out m f u hh m1 f' c h1 H (by rw [g4,jM];exact b1) e0 (by omega) (by omega)
   have c4:((pZ (gG nr) i k t sep out).length:Int)<=out.length+(u - f)*(c - f'):=c1
   exact⟨⟨e0,by omega,e2,m,f,u,hh,m1,f',c,h1,H,by rw [g4,jM];exact b1,by omega⟩,⟨e0,by omega,e2,m,f,u,hh,m2,c,u',h2,H,by rw [g5,jM];exact b2,by omega⟩,⟨by omega,by omega⟩,by omega⟩
theorem aNf (nr:Nat)(a0:Int)(a1:Int)(a2:List (Int)×bE)(a3:Int)(a4:List (Int×Int×Bool))(l2_1:a2.1.length<=9223372036854775807)(l2_2:a2.2.length<=9223372036854775807)(l4:a4.length<=9223372036854775807)(hp:PVB a0 a1 a2 a4)(hlt:((a2.2.length - toNat a0)+(a2.2.length - toNat a1)) < nr+1)(ihr:∀(a0:Int)(a1:Int)(a2:List (Int)×bE)(a3:Int)(a4:List (Int×Int×Bool))(l2_1:a2.1.length<=9223372036854775807)(l2_2:a2.2.length<=9223372036854775807)(l4:a4.length<=9223372036854775807)(hp:PVB a0 a1 a2 a4),((a2.2.length - toNat a0)+(a2.2.length - toNat a1)) < nr->Con Tryz.prog 40 [(iv a0),(iv a1),(.p 0 0),(.p 3 0),(.p 4 0),(.p 6 0)] [(.live false false [(.s 1 0 a2.1.length 1),(.s 2 0 a2.2.length 8)]),(.live false true (flat c3 a2.1)),(.live false true (flat bT a2.2)),(.live false false [(iv a3)]),(.live true false [(.s 5 0 a4.length 3)]),(.live true true (flat dU a4)),(.live false false [(.f 40 [(.p 0 0),(.p 3 0),(.p 4 0),(.p 6 0)])])] (.t []) [(.live true true (flat dU (gG nr a0 a1 a2 a3 a4)))] [.un,.un,.un,.un,(.live true false [(.s 7 0 (gG nr a0 a1 a2 a3 a4).length 3)]),.dead,.un]) {cx:Cx} (hcx:cx.base=7)(v2:Bool):True->Aw.Good Tryz.prog none 9 (bodyPost Tryz.prog Tryz.f40 (RR cx (.t []) [(.live true true (flat dU (lW (gG nr) a0 a1 a2 a3 a4 v2)))] [.un,.un,.un,.un,(.live true false [(.s 7 0 (lW (gG nr) a0 a1 a2 a3 a4 v2).length 3)]),.dead,.un])) cx [] (.c aHd::aHe) (aDr nr a0 a1 a2 a3 a4 v2):=by
 intro hi
 have hpb:=rE hp
 have hp1:=hp.e0
 have hp2:=hp.e1
 have hp3:=hp.e2
 have e:=Eq.refl (lW (gG nr) a0 a1 a2 a3 a4 v2);conv at e=>rhs;simp only [lW]
 rw [e]
 try dsimp only [aT]
 try dsimp only
 rw [show flat dU (a4++[(a0,a1,v2)])=(flat dU a4++[(iv a0),(iv a1),(.v (.bool v2))]) from bL]
 try rw [show List.length (α:=Int×Int×Bool) (a4++[(a0,a1,v2)])=(a4.length+1) from by first | simp;done | omega]
 exact rtn [.p (show((flat dU a4).length=a4.length*3/\a4.length+1<=2 ^ 40/\(a4.length+1)*24<=2 ^ 47) from gK dJ (by omega) (by omega))] [] [4,5] [8] hcx (by kernel_rfl)
theorem aNg (nr:Nat)(a0:Int)(a1:Int)(a2:List (Int)×bE)(a3:Int)(a4:List (Int×Int×Bool))(l2_1:a2.1.length<=9223372036854775807)(l2_2:a2.2.length<=9223372036854775807)(l4:a4.length<=9223372036854775807)(hp:PVB a0 a1 a2 a4)(hlt:((a2.2.length - toNat a0)+(a2.2.length - toNat a1)) < nr+1)(ihr:∀(a0:Int)(a1:Int)(a2:List (Int)×bE)(a3:Int)(a4:List (Int×Int×Bool))(l2_1:a2.1.length<=9223372036854775807)(l2_2:a2.2.length<=9223372036854775807)(l4:a4.length<=9223372036854775807)(hp:PVB a0 a1 a2 a4),((a2.2.length - toNat a0)+(a2.2.length - toNat a1)) < nr->Con Tryz.prog 40 [(iv a0),(iv a1),(.p 0 0),(.p 3 0),(.p 4 0),(.p 6 0)] [(.live false false [(.s 1 0 a2.1.length 1),(.s 2 0 a2.2.length 8)]),(.live false true (flat c3 a2.1)),(.live false true (flat bT a2.2)),(.live false false [(iv a3)]),(.live true false [(.s 5 0 a4.length 3)]),(.live true true (flat dU a4)),(.live false false [(.f 40 [(.p 0 0),(.p 3 0),(.p 4 0),(.p 6 0)])])] (.t []) [(.live true true (flat dU (gG nr a0 a1 a2 a3 a4)))] [.un,.un,.un,.un,(.live true false [(.s 7 0 (gG nr a0 a1 a2 a3 a4).length 3)]),.dead,.un]) {cx:Cx} (hcx:cx.base=7):0<=(a2.2.getD (toNat a0) default).2.2.1\/0<=(a2.2.getD (toNat a1) default).2.2.1->Aw.Good Tryz.prog none 9 (bodyPost Tryz.prog Tryz.f40 (RR cx (.t []) [(.live true true (flat dU (gA (gG nr) a0 a1 a2 a3 a4 ())))] [.un,.un,.un,.un,(.live true false [(.s 7 0 (gA (gG nr) a0 a1 a2 a3 a4 ()).length 3)]),.dead,.un])) cx [] (.c aHf::aHg) (aDs nr a0 a1 a2 a3 a4):=by
 intro hi
 have hpb:=rE hp
 have hp1:=hp.e0
 have hp2:=hp.e1
 have hp3:=hp.e2
 have hA:=aUv a3 hp hlt
 have hB:=aUw a3 hp hlt
 have hAl:=fun q=>(hA q).2.2.2
 have hBl:=fun q=>(hB q).2.2.2
 cases h0:(decide (((a2.2.getD (toNat a1) default).2.2.1:Int) < 0)) with
 | true =>
  have q0:=cA h0
  have e:=Eq.refl (gA (gG nr) a0 a1 a2 a3 a4 ());conv at e=>rhs;simp only [gA,h0,aS]
  rw [e]
  try dsimp only [aT]
  try dsimp only
  exact rtn [.d h0,.c [0,1,2,3,4,5,6] (ihr (a2.2.getD (toNat a0) default).2.2.1 a1 (a2.1,a2.2) a3 a4 (by(try simp only [Lt]);omega) (by(try simp only [Lt]);omega) (by omega) (by first | exact(hA (by omega)).1 | exact(hA (by omega)).2.1 | exact(hB (by omega)).1 | exact(hB (by omega)).2.1) (by first | exact(hA (by omega)).2.2.1.1 | exact(hA (by omega)).2.2.1.2 | exact(hB (by omega)).2.2.1.1 | exact(hB (by omega)).2.2.1.2)),.c [0,1,2,3,4,9,6] (ihr (a2.2.getD (toNat a0) default).2.2.2.1 a1 (a2.1,a2.2) a3 (pY (gG nr) a0 a1 a2 a3 a4) (by(try simp only [Lt]);omega) (by(try simp only [Lt]);omega) (by(try simp only [Lt]);omega) (by first | exact(hA (by omega)).1 | exact(hA (by omega)).2.1 | exact(hB (by omega)).1 | exact(hB (by omega)).2.1) (by first | exact(hA (by omega)).2.2.1.1 | exact(hA (by omega)).2.2.1.2 | exact(hB (by omega)).2.2.1.1 | exact(hB (by omega)).2.2.1.2))] [] [4,5] [10] hcx (by kernel_rfl)
 | false =>
  have q0:=cH h0
  let t1:List (St Tryz.prog):=[.d h0]
  cases h1:(decide (((a2.2.getD (toNat a0) default).2.2.1:Int)≥0)) with
  | true =>
   have q1:=cA h1
   let t2:List (St Tryz.prog):=(t1++[.d h1])
   cases h2:(decide (((W ((a2.2.getD (toNat a0) default).2.1 - (a2.2.getD (toNat a0) default).1)):Int)≥(W ((a2.2.getD (toNat a1) default).2.1 - (a2.2.getD (toNat a1) default).1)))) with
   | true =>
    have q2:=cA h2
    have e:=Eq.refl (gA (gG nr) a0 a1 a2 a3 a4 ());conv at e=>rhs;simp only [gA,h0,h1,h2,aS]
    rw [e]
    try dsimp only [aT]
    try dsimp only
    exact rtn (t2++[.d h2,.c [0,1,2,3,4,5,6] (ihr (a2.2.getD (toNat a0) default).2.2.1 a1 (a2.1,a2.2) a3 a4 (by(try simp only [Lt]);omega) (by(try simp only [Lt]);omega) (by omega) (by first | exact(hA (by omega)).1 | exact(hA (by omega)).2.1 | exact(hB (by omega)).1 | exact(hB (by omega)).2.1) (by first | exact(hA (by omega)).2.2.1.1 | exact(hA (by omega)).2.2.1.2 | exact(hB (by omega)).2.2.1.1 | exact(hB (by omega)).2.2.1.2)),.c [0,1,2,3,4,9,6] (ihr (a2.2.getD (toNat a0) default).2.2.2.1 a1 (a2.1,a2.2) a3 (pY (gG nr) a0 a1 a2 a3 a4) (by(try simp only [Lt]);omega) (by(try simp only [Lt]);omega) (by(try simp only [Lt]);omega) (by first | exact(hA (by omega)).1 | exact(hA (by omega)).2.1 | exact(hB (by omega)).1 | exact(hB (by omega)).2.1) (by first | exact(hA (by omega)).2.2.1.1 | exact(hA (by omega)).2.2.1.2 | exact(hB (by omega)).2.2.1.1 | exact(hB (by omega)).2.2.1.2))]) [] [4,5] [10] hcx (by kernel_rfl)
   | false =>
    have q2:=cH h2
    have e:=Eq.refl (gA (gG nr) a0 a1 a2 a3 a4 ());conv at e=>rhs;simp only [gA,h0,h1,h2,aS]
    rw [e]
    try dsimp only [aT]
    try dsimp only
    exact rtn (t2++[.d h2,.c [0,1,2,3,4,5,6] (ihr a0 (a2.2.getD (toNat a1) default).2.2.1 (a2.1,a2.2) a3 a4 (by(try simp only [Lt]);omega) (by(try simp only [Lt]);omega) (by omega) (by first | exact(hA (by omega)).1 | exact(hA (by omega)).2.1 | exact(hB (by omega)).1 | exact(hB (by omega)).2.1) (by first | exact(hA (by omega)).2.2.1.1 | exact(hA (by omega)).2.2.1.2 | exact(hB (by omega)).2.2.1.1 | exact(hB (by omega)).2.2.1.2)),.c [0,1,2,3,4,9,6] (ihr a0 (a2.2.getD (toNat a1) default).2.2.2.1 (a2.1,a2.2) a3 (pZ (gG nr) a0 a1 a2 a3 a4) (by(try simp only [Lt]);omega) (by(try simp only [Lt]);omega) (by(try simp only [Lt]);omega) (by first | exact(hA (by omega)).1 | exact(hA (by omega)).2.1 | exact(hB (by omega)).1 | exact(hB (by omega)).2.1) (by first | exact(hA (by omega)).2.2.1.1 | exact(hA (by omega)).2.2.1.2 | exact(hB (by omega)).2.2.1.1 | exact(hB (by omega)).2.2.1.2))]) [] [4,5] [10] hcx (by kernel_rfl)
  | false =>
   have q1:=cH h1
   have e:=Eq.refl (gA (gG nr) a0 a1 a2 a3 a4 ());conv at e=>rhs;simp only [gA,h0,h1,aS]
   rw [e]
   try dsimp only [aT]
   try dsimp only
   exact rtn (t1++[.d h1,.c [0,1,2,3,4,5,6] (ihr a0 (a2.2.getD (toNat a1) default).2.2.1 (a2.1,a2.2) a3 a4 (by(try simp only [Lt]);omega) (by(try simp only [Lt]);omega) (by omega) (by first | exact(hA (by omega)).1 | exact(hA (by omega)).2.1 | exact(hB (by omega)).1 | exact(hB (by omega)).2.1) (by first | exact(hA (by omega)).2.2.1.1 | exact(hA (by omega)).2.2.1.2 | exact(hB (by omega)).2.2.1.1 | exact(hB (by omega)).2.2.1.2)),.c [0,1,2,3,4,9,6] (ihr a0 (a2.2.getD (toNat a1) default).2.2.2.1 (a2.1,a2.2) a3 (pZ (gG nr) a0 a1 a2 a3 a4) (by(try simp only [Lt]);omega) (by(try simp only [Lt]);omega) (by(try simp only [Lt]);omega) (by first | exact(hA (by omega)).1 | exact(hA (by omega)).2.1 | exact(hB (by omega)).1 | exact(hB (by omega)).2.1) (by first | exact(hA (by omega)).2.2.1.1 | exact(hA (by omega)).2.2.1.2 | exact(hB (by omega)).2.2.1.1 | exact(hB (by omega)).2.2.1.2))]) [] [4,5] [10] hcx (by kernel_rfl)
theorem aNh (nr:Nat)(a0:Int)(a1:Int)(a2:List (Int)×bE)(a3:Int)(a4:List (Int×Int×Bool))(l2_1:a2.1.length<=9223372036854775807)(l2_2:a2.2.length<=9223372036854775807)(l4:a4.length<=9223372036854775807)(hp:PVB a0 a1 a2 a4)(hlt:((a2.2.length - toNat a0)+(a2.2.length - toNat a1)) < nr+1)(ihr:∀(a0:Int)(a1:Int)(a2:List (Int)×bE)(a3:Int)(a4:List (Int×Int×Bool))(l2_1:a2.1.length<=9223372036854775807)(l2_2:a2.2.length<=9223372036854775807)(l4:a4.length<=9223372036854775807)(hp:PVB a0 a1 a2 a4),((a2.2.length - toNat a0)+(a2.2.length - toNat a1)) < nr->Con Tryz.prog 40 [(iv a0),(iv a1),(.p 0 0),(.p 3 0),(.p 4 0),(.p 6 0)] [(.live false false [(.s 1 0 a2.1.length 1),(.s 2 0 a2.2.length 8)]),(.live false true (flat c3 a2.1)),(.live false true (flat bT a2.2)),(.live false false [(iv a3)]),(.live true false [(.s 5 0 a4.length 3)]),(.live true true (flat dU a4)),(.live false false [(.f 40 [(.p 0 0),(.p 3 0),(.p 4 0),(.p 6 0)])])] (.t []) [(.live true true (flat dU (gG nr a0 a1 a2 a3 a4)))] [.un,.un,.un,.un,(.live true false [(.s 7 0 (gG nr a0 a1 a2 a3 a4).length 3)]),.dead,.un]) {cx:Cx} (hcx:cx.base=7)(v1:Bool):True->Aw.Good Tryz.prog none 9 (bodyPost Tryz.prog Tryz.f40 (RR cx (.t []) [(.live true true (flat dU (gB (gG nr) a0 a1 a2 a3 a4 v1)))] [.un,.un,.un,.un,(.live true false [(.s 7 0 (gB (gG nr) a0 a1 a2 a3 a4 v1).length 3)]),.dead,.un])) cx [] (.c aHh::aHi) (aDt nr a0 a1 a2 a3 a4 v1):=by
 intro hi
 have hpb:=rE hp
 have hp1:=hp.e0
 have hp2:=hp.e1
 have hp3:=hp.e2
 rcases aOg v1 with h0 | h0
 · skip
   have e:gB (gG nr) a0 a1 a2 a3 a4 v1=(lW (gG nr) a0 a1 a2 a3 a4 v1):=by simp only [gB,h0,aS]
   rw [e]
   refine ga [.d h0,.z 6] [] [0,1,4,11] [] hcx aHd (aHe) (aDr nr a0 a1 a2 a3 a4 v1) (by kernel_rfl) ?_
   exact aNf nr a0 a1 a2 a3 a4 l2_1 l2_2 l4 hp hlt ihr hcx v1 trivial
 · skip
   let t1:List (St Tryz.prog):=[.d h0]
   cases h1:(decide (((a2.2.getD (toNat a0) default).2.2.1:Int) < 0)) with
   | true =>
    have q1:=cA h1
    let t2:List (St Tryz.prog):=(t1++[.d h1])
    cases h2:(decide (((a2.2.getD (toNat a1) default).2.2.1:Int) < 0)) with
    | true =>
     have q2:=cA h2
     have e:gB (gG nr) a0 a1 a2 a3 a4 v1=(lW (gG nr) a0 a1 a2 a3 a4 v1):=by simp only [gB,h0,h1,h2,aS]
     rw [e]
     refine ga (t2++[.d h2,.z 6]) [] [0,1,4,11] [] hcx aHd (aHe) (aDr nr a0 a1 a2 a3 a4 v1) (by kernel_rfl) ?_
     exact aNf nr a0 a1 a2 a3 a4 l2_1 l2_2 l4 hp hlt ihr hcx v1 trivial
    | false =>
     have q2:=cH h2
     have e:=Eq.refl (gB (gG nr) a0 a1 a2 a3 a4 v1);conv at e=>rhs;simp only [gB,h0,h1,h2,aS]
     rw [e]
     refine ga (t2++[.d h2,.z 7]) [] [0,1,5,8,9] [7,8] hcx aHf (aHg) (aDs nr a0 a1 a2 a3 a4) (by kernel_rfl) ?_
     exact aNg nr a0 a1 a2 a3 a4 l2_1 l2_2 l4 hp hlt ihr hcx (by omega)
   | false =>
    have q1:=cH h1
    have e:=Eq.refl (gB (gG nr) a0 a1 a2 a3 a4 v1);conv at e=>rhs;simp only [gB,h0,h1,aS]
    rw [e]
    refine ga (t1++[.d h1,.z 7]) [] [0,1,5,8,9] [7,8] hcx aHf (aHg) (aDs nr a0 a1 a2 a3 a4) (by kernel_rfl) ?_
    exact aNg nr a0 a1 a2 a3 a4 l2_1 l2_2 l4 hp hlt ihr hcx (by omega)
theorem aWc:∀(nr:Nat) (a0:Int) (a1:Int) (a2:List (Int)×bE) (a3:Int) (a4:List (Int×Int×Bool)) (l2_1:a2.1.length<=9223372036854775807) (l2_2:a2.2.length<=9223372036854775807) (l4:a4.length<=9223372036854775807) (hp:PVB a0 a1 a2 a4),((a2.2.length - toNat a0)+(a2.2.length - toNat a1)) < nr->Con Tryz.prog 40 [(iv a0),(iv a1),(.p 0 0),(.p 3 0),(.p 4 0),(.p 6 0)] [(.live false false [(.s 1 0 a2.1.length 1),(.s 2 0 a2.2.length 8)]),(.live false true (flat c3 a2.1)),(.live false true (flat bT a2.2)),(.live false false [(iv a3)]),(.live true false [(.s 5 0 a4.length 3)]),(.live true true (flat dU a4)),(.live false false [(.f 40 [(.p 0 0),(.p 3 0),(.p 4 0),(.p 6 0)])])] (.t []) [(.live true true (flat dU (gG nr a0 a1 a2 a3 a4)))] [.un,.un,.un,.un,(.live true false [(.s 7 0 (gG nr a0 a1 a2 a3 a4).length 3)]),.dead,.un]:=by
 intro nr
 induction nr with
 | zero=>intro a0 a1 a2 a3 a4 l2_1 l2_2 l4 hp hlt;exact absurd hlt (eP _)
 | succ nr ihr =>
 intro a0 a1 a2 a3 a4 l2_1 l2_2 l4 hp hlt
 refine aO Tryz.func40 (by kernel_rfl) fun cx hcx=>?_
 have hpb:=rE hp
 have hp1:=hp.e0
 have hp2:=hp.e1
 have hp3:=hp.e2
 let t0:List (St Tryz.prog):=[.i a0 (a2.2.length),.L bJ a2.2 a0 0 8,.i a1 (a2.2.length),.L bJ a2.2 a1 0 8,.c [] (C42 (a2.2.getD (toNat a0) default).2.2.2.2.1 (a2.2.getD (toNat a1) default).2.2.2.2.1),.c [] (C41 (pX a0 a1 a2 a3 a4))]
 cases h0:(decide (((tA (pX a0 a1 a2 a3 a4)):Int) > 0)) with
 | true =>
  have q0:=cA h0
  have e:=Eq.refl (gG (nr+1) a0 a1 a2 a3 a4);conv at e=>rhs;simp only [gG,h0,aS]
  rw [e]
  refine ga (t0++[.d h0,.z 5]) [] [0,1,4,5,8,9,11] [7,8] hcx aHh (aHi) (aDt nr a0 a1 a2 a3 a4 (decide (((W ((W ((W ((W ((a2.2.getD (toNat a0) default).2.2.2.2.2+(a2.2.getD (toNat a1) default).2.2.2.2.2))*4))*a3))*a3)):Int)<=(tA (pX a0 a1 a2 a3 a4))))) (by kernel_rfl) ?_
  exact aNh nr a0 a1 a2 a3 a4 l2_1 l2_2 l4 hp hlt ihr hcx (decide (((W ((W ((W ((W ((a2.2.getD (toNat a0) default).2.2.2.2.2+(a2.2.getD (toNat a1) default).2.2.2.2.2))*4))*a3))*a3)):Int)<=(tA (pX a0 a1 a2 a3 a4)))) trivial
 | false =>
  have q0:=cH h0
  have e:=Eq.refl (gG (nr+1) a0 a1 a2 a3 a4);conv at e=>rhs;simp only [gG,h0,aS]
  rw [e]
  refine ga (t0++[.d h0,.z 5]) [] [0,1,4,5,8,9,11] [7,8] hcx aHh (aHi) (aDt nr a0 a1 a2 a3 a4 false) (by kernel_rfl) ?_
  exact aNh nr a0 a1 a2 a3 a4 l2_1 l2_2 l4 hp hlt ihr hcx false trivial
theorem C40 (a0:Int)(a1:Int)(a2:List (Int)×bE)(a3:Int)(a4:List (Int×Int×Bool))(l2_1:a2.1.length<=9223372036854775807)(l2_2:a2.2.length<=9223372036854775807)(l4:a4.length<=9223372036854775807)(hp:PVB a0 a1 a2 a4):Con Tryz.prog 40 [(iv a0),(iv a1),(.p 0 0),(.p 3 0),(.p 4 0),(.p 6 0)] [(.live false false [(.s 1 0 a2.1.length 1),(.s 2 0 a2.2.length 8)]),(.live false true (flat c3 a2.1)),(.live false true (flat bT a2.2)),(.live false false [(iv a3)]),(.live true false [(.s 5 0 a4.length 3)]),(.live true true (flat dU a4)),(.live false false [(.f 40 [(.p 0 0),(.p 3 0),(.p 4 0),(.p 6 0)])])] (.t []) [(.live true true (flat dU (F40 a0 a1 a2 a3 a4)))] [.un,.un,.un,.un,(.live true false [(.s 7 0 (F40 a0 a1 a2 a3 a4).length 3)]),.dead,.un]:=aWc (((a2.2.length - toNat a0)+(a2.2.length - toNat a1))+1) a0 a1 a2 a3 a4 l2_1 l2_2 l4 hp (lss _)
noncomputable def aNi:Code:=(eB [1,1,1,1,0,1,0] [] (aL Tryz.f23)).1
noncomputable def aNj:List K:=(eB [1,1,1,1,0,1,0] [] (aL Tryz.f23)).2
def aJd (a0:List (Int)×bE)(a1:Int)(v1c:List SV)(v1n:Nat):LS:=⟨iM 15 [(5,(.p 2 0)),(6,(.p 3 0))],[(.live false true (flat c3 a0.1)),(.live false true (flat bT a0.2)),(.live true false [(.s 4 0 v1n 3)]),(.live true false [(.f 40 [(.p 5 0),(.p 6 0),(.p 2 0),(.p 3 0)])]),(.live true true v1c),(.live true false [(.s 0 0 a0.1.length 1),(.s 1 0 a0.2.length 8)]),(.live true false [(iv a1)])]⟩
def uY (a0:List (Int)×bE)(a1:Int):List (Int×Int×Bool)->List (Int×Int×Bool)
 | v1 =>
  (F40 0 0 (a0.1,a0.2) a1 v1)
theorem aR5 (a0:List (Int)×bE)(a1:Int)(l0_1:a0.1.length<=9223372036854775807)(l0_2:a0.2.length<=9223372036854775807)(hp:0 < a0.2.length->PVB 0 0 a0 []) {cx:Cx} (hcx:cx.base=2)(v1:List (Int×Int×Bool)):PVB 0 0 a0 v1->Aw.Good Tryz.prog none 9 (bodyPost Tryz.prog Tryz.f23 (RR cx (.s 2 0 (uY a0 a1 v1).length 3) [(.live true true (flat dU (uY a0 a1 v1)))] [])) cx [] (.c aNi::aNj) (aJd a0 a1 (flat dU v1) v1.length):=by
 intro hi
 have hb:=rE hi
 have e:=Eq.refl (uY a0 a1 v1);conv at e=>rhs;simp only [uY]
 rw [e]
 exact rt [.c [5,0,1,6,2,4,3] (C40 0 0 (a0.1,a0.2) a1 v1 (by(try simp only [Lt]);omega) (by(try simp only [Lt]);omega) (by omega) hi)] [] [7] hcx (by kernel_rfl)
def bN (a0:List (Int)×bE)(a1:Int):List (Int×Int×Bool) :=
 (bif (decide (((a0.2.length:Int):Int) > 0)) then
  (uY a0 a1 ([]:List (Int×Int×Bool)))
 else
  ([]:List (Int×Int×Bool)))
theorem C23 (a0:List (Int)×bE)(a1:Int)(l0_1:a0.1.length<=9223372036854775807)(l0_2:a0.2.length<=9223372036854775807)(hp:0 < a0.2.length->PVB 0 0 a0 []):Con Tryz.prog 23 [(.a [(.s 0 0 a0.1.length 1),(.s 1 0 a0.2.length 8)]),(iv a1)] [(.live false true (flat c3 a0.1)),(.live false true (flat bT a0.2))] (.s 2 0 (bN a0 a1).length 3) [(.live true true (flat dU (bN a0 a1)))]:=by
 refine aO Tryz.func23 (by kernel_rfl) fun cx hcx=>?_
 cases h0:(decide (((a0.2.length:Int):Int) > 0)) with
 | true =>
  have q0:=cA h0
  have e:=Eq.refl (bN a0 a1);conv at e=>rhs;simp only [bN,h0,aS]
  rw [e]
  refine ga [.d h0,.z 5] [.cell 4 0 3] [5,6] [4,5,6,2,3] hcx aNi (aNj) (aJd a0 a1 (flat dU ([]:List (Int×Int×Bool))) 0) (by kernel_rfl) ?_
  exact aR5 a0 a1 l0_1 l0_2 hp hcx ([]:List (Int×Int×Bool)) (hp (by omega))
 | false =>
  have q0:=cH h0
  have e:=Eq.refl (bN a0 a1);conv at e=>rhs;simp only [bN,h0,aS]
  rw [e]
  exact rt [.d h0] [.slot 4 3] [6] hcx (by kernel_rfl)
noncomputable def uZ:Code:=(aI [1,1,0,1] [] (aL Tryz.f10) []).1
noncomputable def vA:List K:=(aI [1,1,0,1] [] (aL Tryz.f10) []).2
def rG (a0:List (Int×Int×Bool))(a1:List (Int×Int×Bool))(v1:Int):LS:=⟨iM 26 [(0,(.s 0 0 a0.length 3)),(1,(.s 1 0 a1.length 3)),(5,(iv v1))],[(.live false true (flat dU a0)),(.live false true (flat dU a1))]⟩
def eZ (a0:List (Int×Int×Bool))(a1:List (Int×Int×Bool)):Int->(Int)⊕(Bool)
 | v1 =>
  (bif (decide ((v1:Int) < (a0.length:Int))) then
   (bif (!((((a0.getD (toNat v1) default).1:Int) == (a1.getD (toNat v1) default).1)&&((((a0.getD (toNat v1) default).2.1:Int) == (a1.getD (toNat v1) default).2.1)&&(((a0.getD (toNat v1) default).2.2 == (a1.getD (toNat v1) default).2.2)&&true)))) then
    (.inr false)
   else
    (.inl (v1+1)))
  else
   (.inr true))
theorem aKz (a0:List (Int×Int×Bool))(a1:List (Int×Int×Bool))(l0:a0.length<=9223372036854775807)(l1:a1.length<=9223372036854775807) {cx:Cx} (hcx:cx.base=2):∀(n:Nat) (v1:Int),(0<=v1)/\(a0.length=a1.length)->toNat ((a0.length:Int) - v1) < n->Aw.Good Tryz.prog none 9 (bodyPost Tryz.prog Tryz.f10 (RR cx (.v (.bool (aC (eZ a0 a1) n v1))) [] [])) cx [] (.l uZ n::vA) (rG a0 a1 v1):=by
 intro n
 induction n with
 | zero=>intro v1 hi hn;exact absurd hn (eP _)
 | succ n ih =>
   intro v1 hi hn
   refine aQ ?_
   cases h0:(decide ((v1:Int) < (a0.length:Int))) with
   | true =>
    have q0:=cA h0
    let t1:List (St Tryz.prog):=[.d h0,.i v1 (a0.length),.L dJ a0 v1 0 3,.i v1 (a1.length),.L dJ a1 v1 0 3]
    cases h1:(!((((a0.getD (toNat v1) default).1:Int) == (a1.getD (toNat v1) default).1)&&((((a0.getD (toNat v1) default).2.1:Int) == (a1.getD (toNat v1) default).2.1)&&(((a0.getD (toNat v1) default).2.2 == (a1.getD (toNat v1) default).2.2)&&true)))) with
    | true =>
     have e:=Eq.refl (eZ a0 a1 v1);conv at e=>rhs;simp only [eZ,h0,h1,aS]
     rw [aN,e]
     exact rt (t1++[.d h1]) [] [] hcx (by kernel_rfl)
    | false =>
     have e:=Eq.refl (eZ a0 a1 v1);conv at e=>rhs;simp only [eZ,h0,h1,aS]
     rw [aE e]
     refine ba (t1++[.d h1]) [] [0,1,5] [] hcx (m:=n) uZ (vA) (rG a0 a1 (W (v1+1))) (by kernel_rfl) ?_
     have z0:(W (v1+1))=(v1+1):=aJ (by omega) (by omega)
     rw [z0]
     exact ih (v1+1) (by refine⟨?_,?_⟩<;>(try simp only [Ls])<;>first | omega | assumption | simp) (by(try simp only [Ls]);omega)
   | false =>
    have q0:=cH h0
    have e:=Eq.refl (eZ a0 a1 v1);conv at e=>rhs;simp only [eZ,h0,aS]
    rw [aN,e]
    exact rt [.d h0] [] [] hcx (by kernel_rfl)
def iI (a0:List (Int×Int×Bool))(a1:List (Int×Int×Bool)):Bool :=
 (bif (((a0.length:Int):Int) != (a1.length:Int)) then
  false
 else
  (aC (eZ a0 a1) (toNat ((a0.length:Int) - 0)+1) 0))
theorem aJe (a0:List (Int×Int×Bool))(a1:List (Int×Int×Bool))(l0:a0.length<=9223372036854775807)(l1:a1.length<=9223372036854775807):Con Tryz.prog 10 [(.s 0 0 a0.length 3),(.s 1 0 a1.length 3)] [(.live false true (flat dU a0)),(.live false true (flat dU a1))] (.v (.bool (iI a0 a1))) []:=by
 refine aO Tryz.func10 (by kernel_rfl) fun cx hcx=>?_
 cases h0:(((a0.length:Int):Int) != (a1.length:Int)) with
 | true =>
  have q0:=bne_iff_ne.1 h0
  have e:=Eq.refl (iI a0 a1);conv at e=>rhs;simp only [iI,h0,aS]
  rw [e]
  exact rt [.d h0] [] [] hcx (by kernel_rfl)
 | false =>
  have q0:=bne_eq_false_iff_eq.1 h0
  have e:=Eq.refl (iI a0 a1);conv at e=>rhs;simp only [iI,h0,aS]
  rw [e]
  refine en [.d h0] [] [0,1,5] [] hcx uZ (vA) (rG a0 a1 0) (toNat ((a0.length:Int) - 0)+1) (by kernel_rfl) ?_
  exact aKz a0 a1 l0 l1 hcx (toNat ((a0.length:Int) - 0)+1) 0 (by refine⟨?_,?_⟩<;>(try simp only [Ls])<;>first | omega | assumption | simp) (by(try simp only [Ls]);omega)
def F52 (a0:Int×Int×Int×Int×Zt×Int)(a1:Int×Int×Int×Int×Zt×Int):Int :=
 (jQ (jB a0.2.2.2.2.1 a1.2.2.2.2.1))
theorem C52 (a0:Int×Int×Int×Int×Zt×Int)(a1:Int×Int×Int×Int×Zt×Int):Con Tryz.prog 52 [(.a [(iv a0.1),(iv a0.2.1),(iv a0.2.2.1),(iv a0.2.2.2.1),(iv a0.2.2.2.2.1.1),(iv a0.2.2.2.2.1.2.1),(iv a0.2.2.2.2.1.2.2),(iv a0.2.2.2.2.2)]),(.a [(iv a1.1),(iv a1.2.1),(iv a1.2.2.1),(iv a1.2.2.2.1),(iv a1.2.2.2.2.1.1),(iv a1.2.2.2.2.1.2.1),(iv a1.2.2.2.2.1.2.2),(iv a1.2.2.2.2.2)])] [] (iv (F52 a0 a1)) []:=by
 refine aO Tryz.func52 (by kernel_rfl) fun cx hcx=>?_
 have e:=Eq.refl (F52 a0 a1);conv at e=>rhs;simp only [F52]
 rw [e]
 exact rt [.c [] (C79 a0.2.2.2.2.1 a1.2.2.2.2.1),.c [] (C78 (jB a0.2.2.2.2.1 a1.2.2.2.2.1))] [] [] hcx (by kernel_rfl)
def wE (a0:List (Int)×bE)(a1:Int)(a2:Int)(a3:Int):=(F52 (a0.2.getD (toNat a1) default) (a0.2.getD (toNat a2) default))
def eA (rr:(List (Int)×bE)->(Int)->(Int)->(Int)->List (Int×Int×Bool))(a0:List (Int)×bE)(a1:Int)(a2:Int)(a3:Int):=(rr (a0.1,a0.2) (a0.2.getD (toNat a1) default).2.2.1 a2 a3)
def dF (rr:(List (Int)×bE)->(Int)->(Int)->(Int)->List (Int×Int×Bool))(a0:List (Int)×bE)(a1:Int)(a2:Int)(a3:Int):=(rr (a0.1,a0.2) (a0.2.getD (toNat a1) default).2.2.2.1 a2 a3)
def cR (rr:(List (Int)×bE)->(Int)->(Int)->(Int)->List (Int×Int×Bool))(a0:List (Int)×bE)(a1:Int)(a2:Int)(a3:Int):=(rr (a0.1,a0.2) a1 (a0.2.getD (toNat a2) default).2.2.1 a3)
def cF (rr:(List (Int)×bE)->(Int)->(Int)->(Int)->List (Int×Int×Bool))(a0:List (Int)×bE)(a1:Int)(a2:Int)(a3:Int):=(rr (a0.1,a0.2) a1 (a0.2.getD (toNat a2) default).2.2.2.1 a3)
noncomputable def aHj:Code:=(eB [1,1,1,1,0,0] [] (aL Tryz.f76)).1
noncomputable def aHk:List K:=(eB [1,1,1,1,0,0] [] (aL Tryz.f76)).2
def aDu (nr:Nat)(a0:List (Int)×bE)(a1:Int)(a2:Int)(a3:Int):LS:=⟨iM 104 [(1,(iv a1)),(2,(iv a2)),(3,(iv a3)),(4,(.p 2 0)),(9,(.p 3 0)),(10,(.p 4 0))],[(.live false true (flat c3 a0.1)),(.live false true (flat bT a0.2)),(.live true false [(.s 0 0 a0.1.length 1),(.s 1 0 a0.2.length 8)]),(.live true false [(iv (a0.2.getD (toNat a1) default).1),(iv (a0.2.getD (toNat a1) default).2.1),(iv (a0.2.getD (toNat a1) default).2.2.1),(iv (a0.2.getD (toNat a1) default).2.2.2.1),(iv (a0.2.getD (toNat a1) default).2.2.2.2.1.1),(iv (a0.2.getD (toNat a1) default).2.2.2.2.1.2.1),(iv (a0.2.getD (toNat a1) default).2.2.2.2.1.2.2),(iv (a0.2.getD (toNat a1) default).2.2.2.2.2)]),(.live true false [(iv (a0.2.getD (toNat a2) default).1),(iv (a0.2.getD (toNat a2) default).2.1),(iv (a0.2.getD (toNat a2) default).2.2.1),(iv (a0.2.getD (toNat a2) default).2.2.2.1),(iv (a0.2.getD (toNat a2) default).2.2.2.2.1.1),(iv (a0.2.getD (toNat a2) default).2.2.2.2.1.2.1),(iv (a0.2.getD (toNat a2) default).2.2.2.2.1.2.2),(iv (a0.2.getD (toNat a2) default).2.2.2.2.2)])]⟩
def dH (rr:(List (Int)×bE)->(Int)->(Int)->(Int)->List (Int×Int×Bool))(a0:List (Int)×bE)(a1:Int)(a2:Int)(a3:Int):Unit->List (Int×Int×Bool)
 | () =>
  (bif (decide (((a0.2.getD (toNat a1) default).2.2.1:Int) < 0)) then
   (bif (decide (((a0.2.getD (toNat a2) default).2.2.1:Int) < 0)) then
    ([(a1,a2,false)]:List (Int×Int×Bool))
   else
    (bif (decide (((a0.2.getD (toNat a1) default).2.2.1:Int)≥0)) then
     (bif (decide (((W ((a0.2.getD (toNat a1) default).2.1 - (a0.2.getD (toNat a1) default).1)):Int)≥(W ((a0.2.getD (toNat a2) default).2.1 - (a0.2.getD (toNat a2) default).1)))) then
      ((eA (rr) a0 a1 a2 a3)++(dF (rr) a0 a1 a2 a3))
     else
      ((cR (rr) a0 a1 a2 a3)++(cF (rr) a0 a1 a2 a3)))
    else
     ((cR (rr) a0 a1 a2 a3)++(cF (rr) a0 a1 a2 a3))))
  else
   (bif (decide (((a0.2.getD (toNat a2) default).2.2.1:Int) < 0)) then
    ((eA (rr) a0 a1 a2 a3)++(dF (rr) a0 a1 a2 a3))
   else
    (bif (decide (((a0.2.getD (toNat a1) default).2.2.1:Int)≥0)) then
     (bif (decide (((W ((a0.2.getD (toNat a1) default).2.1 - (a0.2.getD (toNat a1) default).1)):Int)≥(W ((a0.2.getD (toNat a2) default).2.1 - (a0.2.getD (toNat a2) default).1)))) then
      ((eA (rr) a0 a1 a2 a3)++(dF (rr) a0 a1 a2 a3))
     else
      ((cR (rr) a0 a1 a2 a3)++(cF (rr) a0 a1 a2 a3)))
    else
     ((cR (rr) a0 a1 a2 a3)++(cF (rr) a0 a1 a2 a3)))))
def bO:Nat->(List (Int)×bE)->(Int)->(Int)->(Int)->List (Int×Int×Bool)
 | 0,_,_,_,_=>default
 | nr+1,a0,a1,a2,a3 =>
 (bif (decide (((W ((W ((W ((W ((a0.2.getD (toNat a1) default).2.2.2.2.2+(a0.2.getD (toNat a2) default).2.2.2.2.2))*4))*a3))*a3)):Int)<=(wE a0 a1 a2 a3))) then
  (bif (decide (((wE a0 a1 a2 a3):Int) > 0)) then
   ([(a1,a2,true)]:List (Int×Int×Bool))
  else
   (dH (bO nr) a0 a1 a2 a3 ()))
 else
  (dH (bO nr) a0 a1 a2 a3 ()))
def F76 (a0:List (Int)×bE)(a1:Int)(a2:Int)(a3:Int):List (Int×Int×Bool):=bO (((a0.2.length - toNat a1)+(a0.2.length - toNat a2))+1) a0 a1 a2 a3
theorem jZ:∀(nr:Nat) (t:TR) (i k sep:Int) (m:Nat) (f u h:Int) (m':Nat) (f' u' h':Int),TRE t.2 (toNat i) m f u h->TRE t.2 (toNat k) m' f' u' h'->0<=i->0<=k->(t.2.length - toNat i)+(t.2.length - toNat k) < nr ->
   ((bO nr t i k sep).length:Int)<=(u - f)*(u' - f')
 | 0,_,_,_,_,_,_,_,_,_,_,_,_,_,_,_,_,h=>absurd h (eP _)
 | nr+1,t,i,k,sep,m,f,u,h,m',f',u',h',H,K,hi,hk,hn=>by
   have hb:=bQ H
   have kb:=bQ K
   have hm:=iH (a:=u - f) (b:=u' - f') (by omega) (by omega)
   have hs:∀b:Bool,(([(i,k,b)]:List BLK).length:Int)<=(u - f)*(u' - f'):=fun b=>by rw [List.length_singleton];omega
   have hA:¬(t.2.getD (toNat i) default).2.2.1 < 0->((eA (bO nr) t i k sep++dF (bO nr) t i k sep).length:Int)<=(u - f)*(u' - f'):=by
     intro hq
     rcases fM H with⟨_,_,h5,_⟩ | ⟨m1,m2,c,h1,h2,e8,g4,g5,b1,b2,e9⟩
     · omega
     · have l1:=bQ b1
       have l2:=bQ b2
       have c1:((eA (bO nr) t i k sep).length:Int)<=(c - f)*(u' - f'):=jZ nr t (t.2.getD (toNat i) default).2.2.1 k sep m1 f c h1 m' f' u' h' (by rw [g4,jM];exact b1) K (by omega) hk (by omega)
       have c2:((dF (bO nr) t i k sep).length:Int)<=(u - c)*(u' - f'):=jZ nr t (t.2.getD (toNat i) default).2.2.2.1 k sep m2 c u h2 m' f' u' h' (by rw [g5,jM];exact b2) K (by omega) hk (by omega)
       have c3:=xC f u c (u' - f')
       rw [List.length_append]
       omega
   have hB:¬(t.2.getD (toNat k) default).2.2.1 < 0->((cR (bO nr) t i k sep++cF (bO nr) t i k sep).length:Int)<=(u - f)*(u' - f'):=by
     intro hq
     rcases fM K with⟨_,_,h5,_⟩ | ⟨m1,m2,c,h1,h2,e8,g4,g5,b1,b2,e9⟩
     · omega
     · have l1:=bQ b1
       have l2:=bQ b2
       have c1:((cR (bO nr) t i k sep).length:Int)<=(u - f)*(c - f'):=jZ nr t i (t.2.getD (toNat k) default).2.2.1 sep m f u h m1 f' c h1 H (by rw [g4,jM];exact b1) hi (by omega) (by omega)
       have c2:((cF (bO nr) t i k sep).length:Int)<=(u - f)*(u' - c):=jZ nr t i (t.2.getD (toNat k) default).2.2.2.1 sep m f u h m2 c u' h2 H (by rw [g5,jM];exact b2) hi (by omega) (by omega)
       have c3:=tB f' u' c (u - f)
       rw [List.length_append]
       omega
   have hJ:((dH (bO nr) t i k sep ()).length:Int)<=(u - f)*(u' - f'):=by
     simp only [dH]
     by_cases z1:(t.2.getD (toNat i) default).2.2.1 < 0<;>by_cases z2:(t.2.getD (toNat k) default).2.2.1 < 0
     · rw [cN z1,cN z2,cond_true,cond_true];exact hs false
     · rw [cN z1,dQ z2,cond_true,cond_false,dQ (show ¬(t.2.getD (toNat i) default).2.2.1≥0 by omega),cond_false];exact hB z2
     · rw [dQ z1,cN z2,cond_false,cond_true];exact hA z1
     · rw [dQ z1,dQ z2,cond_false,cond_false,cN (show(t.2.getD (toNat i) default).2.2.1≥0 by omega),cond_true,Bool.cond_eq_ite]
       split
       · exact hA z1
       · exact hB z2
   simp only [bO]
   rw [Bool.cond_eq_ite]
   split
   · rw [Bool.cond_eq_ite]
     split
     · exact hs true
     · exact hJ
   · exact hJ
theorem aUx {nr:Nat} {i k:Int} {t:TR} (sep:Int)(h:PVB i k t [])(hlt:(t.2.length - toNat i)+(t.2.length - toNat k) < nr+1)(hq:¬(t.2.getD (toNat i) default).2.2.1 < 0) :
   (PVB (t.2.getD (toNat i) default).2.2.1 k t []/\PVB (t.2.getD (toNat i) default).2.2.2.1 k t []) /\
   ((t.2.length - toNat (t.2.getD (toNat i) default).2.2.1)+(t.2.length - toNat k) < nr/\(t.2.length - toNat (t.2.getD (toNat i) default).2.2.2.1)+(t.2.length - toNat k) < nr)/\(eA (bO nr) t i k sep).length<=1048576/\(dF (bO nr) t i k sep).length<=1048576:=by
 obtain⟨e0,e1,e2,m,f,u,hh,m',f',u',hh',H,K,e5⟩:=h
 have hb:=bQ H
 have kb:=bQ K
 rcases fM H with⟨_,_,h5,_⟩ | ⟨m1,m2,c,h1,h2,e8,g4,g5,b1,b2,e9⟩
 · omega
 · have l1:=bQ b1
   have l2:=bQ b2
   have p1:=iH (a:=c - f) (b:=u' - f') (by omega) (by omega)
   have p2:=iH (a:=u - c) (b:=u' - f') (by omega) (by omega)
   have c3:=xC f u c (u' - f')
   have t1:TRE t.2 (toNat (t.2.getD (toNat i) default).2.2.1) m1 f c h1:=by rw [g4,jM];exact b1
   have t2:TRE t.2 (toNat (t.2.getD (toNat i) default).2.2.2.1) m2 c u h2:=by rw [g5,jM];exact b2
   have c1:((eA (bO nr) t i k sep).length:Int)<=(c - f)*(u' - f'):=jZ nr t (t.2.getD (toNat i) default).2.2.1 k sep m1 f c h1 m' f' u' hh' t1 K (by omega) e1 (by omega)
   have c2:((dF (bO nr) t i k sep).length:Int)<=(u - c)*(u' - f'):=jZ nr t (t.2.getD (toNat i) default).2.2.2.1 k sep m2 c u h2 m' f' u' hh' t2 K (by omega) e1 (by omega)
   simp only [List.length_nil] at e5
   exact⟨⟨⟨by omega,e1,e2,m1,f,c,h1,m',f',u',hh',t1,K,by simp only [List.length_nil];omega⟩,⟨by omega,e1,e2,m2,c,u,h2,m',f',u',hh',t2,K,by simp only [List.length_nil];omega⟩⟩,⟨by omega,by omega⟩,by omega,by omega⟩
theorem aUy {nr:Nat} {i k:Int} {t:TR} (sep:Int)(h:PVB i k t [])(hlt:(t.2.length - toNat i)+(t.2.length - toNat k) < nr+1)(hq:¬(t.2.getD (toNat k) default).2.2.1 < 0) :
   (PVB i (t.2.getD (toNat k) default).2.2.1 t []/\PVB i (t.2.getD (toNat k) default).2.2.2.1 t []) /\
   ((t.2.length - toNat i)+(t.2.length - toNat (t.2.getD (toNat k) default).2.2.1) < nr/\(t.2.length - toNat i)+(t.2.length - toNat (t.2.getD (toNat k) default).2.2.2.1) < nr)/\(cR (bO nr) t i k sep).length<=1048576/\(cF (bO nr) t i k sep).length<=1048576:=by
 obtain⟨e0,e1,e2,m,f,u,hh,m',f',u',hh',H,K,e5⟩:=h
 have hb:=bQ H
 have kb:=bQ K
 rcases fM K with⟨_,_,h5,_⟩ | ⟨m1,m2,c,h1,h2,e8,g4,g5,b1,b2,e9⟩
 · omega
 · have l1:=bQ b1
   have l2:=bQ b2
   have p1:=iH (a:=u - f) (b:=c - f') (by omega) (by omega)
   have p2:=iH (a:=u - f) (b:=u' - c) (by omega) (by omega)
   have c3:=tB f' u' c (u - f)
   have t1:TRE t.2 (toNat (t.2.getD (toNat k) default).2.2.1) m1 f' c h1:=by rw [g4,jM];exact b1
   have t2:TRE t.2 (toNat (t.2.getD (toNat k) default).2.2.2.1) m2 c u' h2:=by rw [g5,jM];exact b2
   have c1:((cR (bO nr) t i k sep).length:Int)<=(u - f)*(c - f'):=jZ nr t i (t.2.getD (toNat k) default).2.2.1 sep m f u hh m1 f' c h1 H t1 e0 (by omega) (by omega)
   have c2:((cF (bO nr) t i k sep).length:Int)<=(u - f)*(u' - c):=jZ nr t i (t.2.getD (toNat k) default).2.2.2.1 sep m f u hh m2 c u' h2 H t2 e0 (by omega) (by omega)
   simp only [List.length_nil] at e5
   exact⟨⟨⟨e0,by omega,e2,m,f,u,hh,m1,f',c,h1,H,t1,by simp only [List.length_nil];omega⟩,⟨e0,by omega,e2,m,f,u,hh,m2,c,u',h2,H,t2,by simp only [List.length_nil];omega⟩⟩,⟨by omega,by omega⟩,by omega,by omega⟩
theorem aNk (nr:Nat)(a0:List (Int)×bE)(a1:Int)(a2:Int)(a3:Int)(l0_1:a0.1.length<=9223372036854775807)(l0_2:a0.2.length<=9223372036854775807)(hp:PVB a1 a2 a0 [])(hlt:((a0.2.length - toNat a1)+(a0.2.length - toNat a2)) < nr+1)(ihr:∀(a0:List (Int)×bE)(a1:Int)(a2:Int)(a3:Int)(l0_1:a0.1.length<=9223372036854775807)(l0_2:a0.2.length<=9223372036854775807)(hp:PVB a1 a2 a0 []),((a0.2.length - toNat a1)+(a0.2.length - toNat a2)) < nr->Con Tryz.prog 76 [(.a [(.s 0 0 a0.1.length 1),(.s 1 0 a0.2.length 8)]),(iv a1),(iv a2),(iv a3)] [(.live false true (flat c3 a0.1)),(.live false true (flat bT a0.2))] (.s 2 0 (bO nr a0 a1 a2 a3).length 3) [(.live true true (flat dU (bO nr a0 a1 a2 a3)))]) {cx:Cx} (hcx:cx.base=2):True->Aw.Good Tryz.prog none 9 (bodyPost Tryz.prog Tryz.f76 (RR cx (.s 2 0 (dH (bO nr) a0 a1 a2 a3 ()).length 3) [(.live true true (flat dU (dH (bO nr) a0 a1 a2 a3 ())))] [])) cx [] (.c aHj::aHk) (aDu nr a0 a1 a2 a3):=by
 intro hi
 have hpb:=rE hp
 have hp1:=hp.e0
 have hp2:=hp.e1
 have hp3:=hp.e2
 have hA:=aUx a3 hp hlt
 have hB:=aUy a3 hp hlt
 have hAl:=fun q=>(hA q).2.2
 have hBl:=fun q=>(hB q).2.2
 cases h0:(decide (((a0.2.getD (toNat a1) default).2.2.1:Int) < 0)) with
 | true =>
  have q0:=cA h0
  let t1:List (St Tryz.prog):=[.d h0]
  cases h1:(decide (((a0.2.getD (toNat a2) default).2.2.1:Int) < 0)) with
  | true =>
   have q1:=cA h1
   have e:=Eq.refl (dH (bO nr) a0 a1 a2 a3 ());conv at e=>rhs;simp only [dH,h0,h1,aS]
   rw [e]
   exact rt (t1++[.d h1]) [.sym 5 true] [5] hcx (by kernel_rfl)
  | false =>
   have q1:=cH h1
   let t2:List (St Tryz.prog):=(t1++[.d h1,.d h1])
   cases h2:(decide (((a0.2.getD (toNat a1) default).2.2.1:Int)≥0)) with
   | true =>
    have q2:=cA h2
    let t3:List (St Tryz.prog):=(t2++[.d h2])
    cases h3:(decide (((W ((a0.2.getD (toNat a1) default).2.1 - (a0.2.getD (toNat a1) default).1)):Int)≥(W ((a0.2.getD (toNat a2) default).2.1 - (a0.2.getD (toNat a2) default).1)))) with
    | true =>
     have q3:=cA h3
     have e:=Eq.refl (dH (bO nr) a0 a1 a2 a3 ());conv at e=>rhs;simp only [dH,h0,h1,h2,h3,aS]
     rw [e]
     rw [show flat dU ((eA (bO nr) a0 a1 a2 a3)++(dF (bO nr) a0 a1 a2 a3))=((flat dU (eA (bO nr) a0 a1 a2 a3))++(flat dU (dF (bO nr) a0 a1 a2 a3))) from Eq.symm (by simp [flat])]
     rw [show((eA (bO nr) a0 a1 a2 a3)++(dF (bO nr) a0 a1 a2 a3)).length=((eA (bO nr) a0 a1 a2 a3).length+(dF (bO nr) a0 a1 a2 a3).length) from by simp]
     exact rt (t3++[.d h3,.c [0,1] (ihr (a0.1,a0.2) (a0.2.getD (toNat a1) default).2.2.1 a2 a3 (by(try simp only [Lt]);omega) (by(try simp only [Lt]);omega) (by first | exact(hA (by omega)).1.1 | exact(hA (by omega)).1.2 | exact(hB (by omega)).1.1 | exact(hB (by omega)).1.2) (by first | exact(hA (by omega)).2.1.1 | exact(hA (by omega)).2.1.2 | exact(hB (by omega)).2.1.1 | exact(hB (by omega)).2.1.2)),.c [0,1] (ihr (a0.1,a0.2) (a0.2.getD (toNat a1) default).2.2.2.1 a2 a3 (by(try simp only [Lt]);omega) (by(try simp only [Lt]);omega) (by first | exact(hA (by omega)).1.1 | exact(hA (by omega)).1.2 | exact(hB (by omega)).1.1 | exact(hB (by omega)).1.2) (by first | exact(hA (by omega)).2.1.1 | exact(hA (by omega)).2.1.2 | exact(hB (by omega)).2.1.1 | exact(hB (by omega)).2.1.2)),.p (show((flat dU (eA (bO nr) a0 a1 a2 a3)).length=(eA (bO nr) a0 a1 a2 a3).length*3/\(flat dU (dF (bO nr) a0 a1 a2 a3)).length=(dF (bO nr) a0 a1 a2 a3).length*3/\(flat dU (dF (bO nr) a0 a1 a2 a3)).all SV.one=true/\(eA (bO nr) a0 a1 a2 a3).length+(dF (bO nr) a0 a1 a2 a3).length<=2 ^ 40/\((eA (bO nr) a0 a1 a2 a3).length+(dF (bO nr) a0 a1 a2 a3).length)*24<=2 ^ 47) from by refine⟨?_,?_,?_,?_,?_⟩<;>first | omega | exact eX (fun _=>rfl) | (simp [bI dJ];done) | (simp [bI dJ];omega))]) [] [7] hcx (by kernel_rfl)
    | false =>
     have q3:=cH h3
     have e:=Eq.refl (dH (bO nr) a0 a1 a2 a3 ());conv at e=>rhs;simp only [dH,h0,h1,h2,h3,aS]
     rw [e]
     rw [show flat dU ((cR (bO nr) a0 a1 a2 a3)++(cF (bO nr) a0 a1 a2 a3))=((flat dU (cR (bO nr) a0 a1 a2 a3))++(flat dU (cF (bO nr) a0 a1 a2 a3))) from Eq.symm (by simp [flat])]
     rw [show((cR (bO nr) a0 a1 a2 a3)++(cF (bO nr) a0 a1 a2 a3)).length=((cR (bO nr) a0 a1 a2 a3).length+(cF (bO nr) a0 a1 a2 a3).length) from by simp]
     exact rt (t3++[.d h3,.c [0,1] (ihr (a0.1,a0.2) a1 (a0.2.getD (toNat a2) default).2.2.1 a3 (by(try simp only [Lt]);omega) (by(try simp only [Lt]);omega) (by first | exact(hA (by omega)).1.1 | exact(hA (by omega)).1.2 | exact(hB (by omega)).1.1 | exact(hB (by omega)).1.2) (by first | exact(hA (by omega)).2.1.1 | exact(hA (by omega)).2.1.2 | exact(hB (by omega)).2.1.1 | exact(hB (by omega)).2.1.2)),.c [0,1] (ihr (a0.1,a0.2) a1 (a0.2.getD (toNat a2) default).2.2.2.1 a3 (by(try simp only [Lt]);omega) (by(try simp only [Lt]);omega) (by first | exact(hA (by omega)).1.1 | exact(hA (by omega)).1.2 | exact(hB (by omega)).1.1 | exact(hB (by omega)).1.2) (by first | exact(hA (by omega)).2.1.1 | exact(hA (by omega)).2.1.2 | exact(hB (by omega)).2.1.1 | exact(hB (by omega)).2.1.2)),.p (show((flat dU (cR (bO nr) a0 a1 a2 a3)).length=(cR (bO nr) a0 a1 a2 a3).length*3/\(flat dU (cF (bO nr) a0 a1 a2 a3)).length=(cF (bO nr) a0 a1 a2 a3).length*3/\(flat dU (cF (bO nr) a0 a1 a2 a3)).all SV.one=true/\(cR (bO nr) a0 a1 a2 a3).length+(cF (bO nr) a0 a1 a2 a3).length<=2 ^ 40/\((cR (bO nr) a0 a1 a2 a3).length+(cF (bO nr) a0 a1 a2 a3).length)*24<=2 ^ 47) from by refine⟨?_,?_,?_,?_,?_⟩<;>first | omega | exact eX (fun _=>rfl) | (simp [bI dJ];done) | (simp [bI dJ];omega))]) [] [7] hcx (by kernel_rfl)
   | false =>
    have q2:=cH h2
    have e:=Eq.refl (dH (bO nr) a0 a1 a2 a3 ());conv at e=>rhs;simp only [dH,h0,h1,h2,aS]
    rw [e]
    rw [show flat dU ((cR (bO nr) a0 a1 a2 a3)++(cF (bO nr) a0 a1 a2 a3))=((flat dU (cR (bO nr) a0 a1 a2 a3))++(flat dU (cF (bO nr) a0 a1 a2 a3))) from Eq.symm (by simp [flat])]
    rw [show((cR (bO nr) a0 a1 a2 a3)++(cF (bO nr) a0 a1 a2 a3)).length=((cR (bO nr) a0 a1 a2 a3).length+(cF (bO nr) a0 a1 a2 a3).length) from by simp]
    exact rt (t2++[.d h2,.c [0,1] (ihr (a0.1,a0.2) a1 (a0.2.getD (toNat a2) default).2.2.1 a3 (by(try simp only [Lt]);omega) (by(try simp only [Lt]);omega) (by first | exact(hA (by omega)).1.1 | exact(hA (by omega)).1.2 | exact(hB (by omega)).1.1 | exact(hB (by omega)).1.2) (by first | exact(hA (by omega)).2.1.1 | exact(hA (by omega)).2.1.2 | exact(hB (by omega)).2.1.1 | exact(hB (by omega)).2.1.2)),.c [0,1] (ihr (a0.1,a0.2) a1 (a0.2.getD (toNat a2) default).2.2.2.1 a3 (by(try simp only [Lt]);omega) (by(try simp only [Lt]);omega) (by first | exact(hA (by omega)).1.1 | exact(hA (by omega)).1.2 | exact(hB (by omega)).1.1 | exact(hB (by omega)).1.2) (by first | exact(hA (by omega)).2.1.1 | exact(hA (by omega)).2.1.2 | exact(hB (by omega)).2.1.1 | exact(hB (by omega)).2.1.2)),.p (show((flat dU (cR (bO nr) a0 a1 a2 a3)).length=(cR (bO nr) a0 a1 a2 a3).length*3/\(flat dU (cF (bO nr) a0 a1 a2 a3)).length=(cF (bO nr) a0 a1 a2 a3).length*3/\(flat dU (cF (bO nr) a0 a1 a2 a3)).all SV.one=true/\(cR (bO nr) a0 a1 a2 a3).length+(cF (bO nr) a0 a1 a2 a3).length<=2 ^ 40/\((cR (bO nr) a0 a1 a2 a3).length+(cF (bO nr) a0 a1 a2 a3).length)*24<=2 ^ 47) from by refine⟨?_,?_,?_,?_,?_⟩<;>first | omega | exact eX (fun _=>rfl) | (simp [bI dJ];done) | (simp [bI dJ];omega))]) [] [7] hcx (by kernel_rfl)
 | false =>
  have q0:=cH h0
  let t1:List (St Tryz.prog):=[.d h0]
  cases h1:(decide (((a0.2.getD (toNat a2) default).2.2.1:Int) < 0)) with
  | true =>
   have q1:=cA h1
   have e:=Eq.refl (dH (bO nr) a0 a1 a2 a3 ());conv at e=>rhs;simp only [dH,h0,h1,aS]
   rw [e]
   rw [show flat dU ((eA (bO nr) a0 a1 a2 a3)++(dF (bO nr) a0 a1 a2 a3))=((flat dU (eA (bO nr) a0 a1 a2 a3))++(flat dU (dF (bO nr) a0 a1 a2 a3))) from Eq.symm (by simp [flat])]
   rw [show((eA (bO nr) a0 a1 a2 a3)++(dF (bO nr) a0 a1 a2 a3)).length=((eA (bO nr) a0 a1 a2 a3).length+(dF (bO nr) a0 a1 a2 a3).length) from by simp]
   exact rt (t1++[.d h1,.c [0,1] (ihr (a0.1,a0.2) (a0.2.getD (toNat a1) default).2.2.1 a2 a3 (by(try simp only [Lt]);omega) (by(try simp only [Lt]);omega) (by first | exact(hA (by omega)).1.1 | exact(hA (by omega)).1.2 | exact(hB (by omega)).1.1 | exact(hB (by omega)).1.2) (by first | exact(hA (by omega)).2.1.1 | exact(hA (by omega)).2.1.2 | exact(hB (by omega)).2.1.1 | exact(hB (by omega)).2.1.2)),.c [0,1] (ihr (a0.1,a0.2) (a0.2.getD (toNat a1) default).2.2.2.1 a2 a3 (by(try simp only [Lt]);omega) (by(try simp only [Lt]);omega) (by first | exact(hA (by omega)).1.1 | exact(hA (by omega)).1.2 | exact(hB (by omega)).1.1 | exact(hB (by omega)).1.2) (by first | exact(hA (by omega)).2.1.1 | exact(hA (by omega)).2.1.2 | exact(hB (by omega)).2.1.1 | exact(hB (by omega)).2.1.2)),.p (show((flat dU (eA (bO nr) a0 a1 a2 a3)).length=(eA (bO nr) a0 a1 a2 a3).length*3/\(flat dU (dF (bO nr) a0 a1 a2 a3)).length=(dF (bO nr) a0 a1 a2 a3).length*3/\(flat dU (dF (bO nr) a0 a1 a2 a3)).all SV.one=true/\(eA (bO nr) a0 a1 a2 a3).length+(dF (bO nr) a0 a1 a2 a3).length<=2 ^ 40/\((eA (bO nr) a0 a1 a2 a3).length+(dF (bO nr) a0 a1 a2 a3).length)*24<=2 ^ 47) from by refine⟨?_,?_,?_,?_,?_⟩<;>first | omega | exact eX (fun _=>rfl) | (simp [bI dJ];done) | (simp [bI dJ];omega))]) [] [7] hcx (by kernel_rfl)
  | false =>
   have q1:=cH h1
   let t2:List (St Tryz.prog):=(t1++[.d h1])
   cases h2:(decide (((a0.2.getD (toNat a1) default).2.2.1:Int)≥0)) with
   | true =>
    have q2:=cA h2
    let t3:List (St Tryz.prog):=(t2++[.d h2])
    cases h3:(decide (((W ((a0.2.getD (toNat a1) default).2.1 - (a0.2.getD (toNat a1) default).1)):Int)≥(W ((a0.2.getD (toNat a2) default).2.1 - (a0.2.getD (toNat a2) default).1)))) with
    | true =>
     have q3:=cA h3
     have e:=Eq.refl (dH (bO nr) a0 a1 a2 a3 ());conv at e=>rhs;simp only [dH,h0,h1,h2,h3,aS]
     rw [e]
     rw [show flat dU ((eA (bO nr) a0 a1 a2 a3)++(dF (bO nr) a0 a1 a2 a3))=((flat dU (eA (bO nr) a0 a1 a2 a3))++(flat dU (dF (bO nr) a0 a1 a2 a3))) from Eq.symm (by simp [flat])]
     rw [show((eA (bO nr) a0 a1 a2 a3)++(dF (bO nr) a0 a1 a2 a3)).length=((eA (bO nr) a0 a1 a2 a3).length+(dF (bO nr) a0 a1 a2 a3).length) from by simp]
     exact rt (t3++[.d h3,.c [0,1] (ihr (a0.1,a0.2) (a0.2.getD (toNat a1) default).2.2.1 a2 a3 (by(try simp only [Lt]);omega) (by(try simp only [Lt]);omega) (by first | exact(hA (by omega)).1.1 | exact(hA (by omega)).1.2 | exact(hB (by omega)).1.1 | exact(hB (by omega)).1.2) (by first | exact(hA (by omega)).2.1.1 | exact(hA (by omega)).2.1.2 | exact(hB (by omega)).2.1.1 | exact(hB (by omega)).2.1.2)),.c [0,1] (ihr (a0.1,a0.2) (a0.2.getD (toNat a1) default).2.2.2.1 a2 a3 (by(try simp only [Lt]);omega) (by(try simp only [Lt]);omega) (by first | exact(hA (by omega)).1.1 | exact(hA (by omega)).1.2 | exact(hB (by omega)).1.1 | exact(hB (by omega)).1.2) (by first | exact(hA (by omega)).2.1.1 | exact(hA (by omega)).2.1.2 | exact(hB (by omega)).2.1.1 | exact(hB (by omega)).2.1.2)),.p (show((flat dU (eA (bO nr) a0 a1 a2 a3)).length=(eA (bO nr) a0 a1 a2 a3).length*3/\(flat dU (dF (bO nr) a0 a1 a2 a3)).length=(dF (bO nr) a0 a1 a2 a3).length*3/\(flat dU (dF (bO nr) a0 a1 a2 a3)).all SV.one=true/\(eA (bO nr) a0 a1 a2 a3).length+(dF (bO nr) a0 a1 a2 a3).length<=2 ^ 40/\((eA (bO nr) a0 a1 a2 a3).length+(dF (bO nr) a0 a1 a2 a3).length)*24<=2 ^ 47) from by refine⟨?_,?_,?_,?_,?_⟩<;>first | omega | exact eX (fun _=>rfl) | (simp [bI dJ];done) | (simp [bI dJ];omega))]) [] [7] hcx (by kernel_rfl)
    | false =>
     have q3:=cH h3
     have e:=Eq.refl (dH (bO nr) a0 a1 a2 a3 ());conv at e=>rhs;simp only [dH,h0,h1,h2,h3,aS]
     rw [e]
     rw [show flat dU ((cR (bO nr) a0 a1 a2 a3)++(cF (bO nr) a0 a1 a2 a3))=((flat dU (cR (bO nr) a0 a1 a2 a3))++(flat dU (cF (bO nr) a0 a1 a2 a3))) from Eq.symm (by simp [flat])]
     rw [show((cR (bO nr) a0 a1 a2 a3)++(cF (bO nr) a0 a1 a2 a3)).length=((cR (bO nr) a0 a1 a2 a3).length+(cF (bO nr) a0 a1 a2 a3).length) from by simp]
     exact rt (t3++[.d h3,.c [0,1] (ihr (a0.1,a0.2) a1 (a0.2.getD (toNat a2) default).2.2.1 a3 (by(try simp only [Lt]);omega) (by(try simp only [Lt]);omega) (by first | exact(hA (by omega)).1.1 | exact(hA (by omega)).1.2 | exact(hB (by omega)).1.1 | exact(hB (by omega)).1.2) (by first | exact(hA (by omega)).2.1.1 | exact(hA (by omega)).2.1.2 | exact(hB (by omega)).2.1.1 | exact(hB (by omega)).2.1.2)),.c [0,1] (ihr (a0.1,a0.2) a1 (a0.2.getD (toNat a2) default).2.2.2.1 a3 (by(try simp only [Lt]);omega) (by(try simp only [Lt]);omega) (by first | exact(hA (by omega)).1.1 | exact(hA (by omega)).1.2 | exact(hB (by omega)).1.1 | exact(hB (by omega)).1.2) (by first | exact(hA (by omega)).2.1.1 | exact(hA (by omega)).2.1.2 | exact(hB (by omega)).2.1.1 | exact(hB (by omega)).2.1.2)),.p (show((flat dU (cR (bO nr) a0 a1 a2 a3)).length=(cR (bO nr) a0 a1 a2 a3).length*3/\(flat dU (cF (bO nr) a0 a1 a2 a3)).length=(cF (bO nr) a0 a1 a2 a3).length*3/\(flat dU (cF (bO nr) a0 a1 a2 a3)).all SV.one=true/\(cR (bO nr) a0 a1 a2 a3).length+(cF (bO nr) a0 a1 a2 a3).length<=2 ^ 40/\((cR (bO nr) a0 a1 a2 a3).length+(cF (bO nr) a0 a1 a2 a3).length)*24<=2 ^ 47) from by refine⟨?_,?_,?_,?_,?_⟩<;>first | omega | exact eX (fun _=>rfl) | (simp [bI dJ];done) | (simp [bI dJ];omega))]) [] [7] hcx (by kernel_rfl)
   | false =>
    have q2:=cH h2
    have e:=Eq.refl (dH (bO nr) a0 a1 a2 a3 ());conv at e=>rhs;simp only [dH,h0,h1,h2,aS]
    rw [e]
    rw [show flat dU ((cR (bO nr) a0 a1 a2 a3)++(cF (bO nr) a0 a1 a2 a3))=((flat dU (cR (bO nr) a0 a1 a2 a3))++(flat dU (cF (bO nr) a0 a1 a2 a3))) from Eq.symm (by simp [flat])]
    rw [show((cR (bO nr) a0 a1 a2 a3)++(cF (bO nr) a0 a1 a2 a3)).length=((cR (bO nr) a0 a1 a2 a3).length+(cF (bO nr) a0 a1 a2 a3).length) from by simp]
    exact rt (t2++[.d h2,.c [0,1] (ihr (a0.1,a0.2) a1 (a0.2.getD (toNat a2) default).2.2.1 a3 (by(try simp only [Lt]);omega) (by(try simp only [Lt]);omega) (by first | exact(hA (by omega)).1.1 | exact(hA (by omega)).1.2 | exact(hB (by omega)).1.1 | exact(hB (by omega)).1.2) (by first | exact(hA (by omega)).2.1.1 | exact(hA (by omega)).2.1.2 | exact(hB (by omega)).2.1.1 | exact(hB (by omega)).2.1.2)),.c [0,1] (ihr (a0.1,a0.2) a1 (a0.2.getD (toNat a2) default).2.2.2.1 a3 (by(try simp only [Lt]);omega) (by(try simp only [Lt]);omega) (by first | exact(hA (by omega)).1.1 | exact(hA (by omega)).1.2 | exact(hB (by omega)).1.1 | exact(hB (by omega)).1.2) (by first | exact(hA (by omega)).2.1.1 | exact(hA (by omega)).2.1.2 | exact(hB (by omega)).2.1.1 | exact(hB (by omega)).2.1.2)),.p (show((flat dU (cR (bO nr) a0 a1 a2 a3)).length=(cR (bO nr) a0 a1 a2 a3).length*3/\(flat dU (cF (bO nr) a0 a1 a2 a3)).length=(cF (bO nr) a0 a1 a2 a3).length*3/\(flat dU (cF (bO nr) a0 a1 a2 a3)).all SV.one=true/\(cR (bO nr) a0 a1 a2 a3).length+(cF (bO nr) a0 a1 a2 a3).length<=2 ^ 40/\((cR (bO nr) a0 a1 a2 a3).length+(cF (bO nr) a0 a1 a2 a3).length)*24<=2 ^ 47) from by refine⟨?_,?_,?_,?_,?_⟩<;>first | omega | exact eX (fun _=>rfl) | (simp [bI dJ];done) | (simp [bI dJ];omega))]) [] [7] hcx (by kernel_rfl)
theorem aWd:∀(nr:Nat) (a0:List (Int)×bE) (a1:Int) (a2:Int) (a3:Int) (l0_1:a0.1.length<=9223372036854775807) (l0_2:a0.2.length<=9223372036854775807) (hp:PVB a1 a2 a0 []),((a0.2.length - toNat a1)+(a0.2.length - toNat a2)) < nr->Con Tryz.prog 76 [(.a [(.s 0 0 a0.1.length 1),(.s 1 0 a0.2.length 8)]),(iv a1),(iv a2),(iv a3)] [(.live false true (flat c3 a0.1)),(.live false true (flat bT a0.2))] (.s 2 0 (bO nr a0 a1 a2 a3).length 3) [(.live true true (flat dU (bO nr a0 a1 a2 a3)))]:=by
 intro nr
 induction nr with
 | zero=>intro a0 a1 a2 a3 l0_1 l0_2 hp hlt;exact absurd hlt (eP _)
 | succ nr ihr =>
 intro a0 a1 a2 a3 l0_1 l0_2 hp hlt
 refine aO Tryz.func76 (by kernel_rfl) fun cx hcx=>?_
 have hpb:=rE hp
 have hp1:=hp.e0
 have hp2:=hp.e1
 have hp3:=hp.e2
 let t0:List (St Tryz.prog):=[.i a1 (a0.2.length),.L bJ a0.2 a1 0 8,.i a2 (a0.2.length),.L bJ a0.2 a2 0 8,.c [] (C52 (a0.2.getD (toNat a1) default) (a0.2.getD (toNat a2) default))]
 cases h0:(decide (((W ((W ((W ((W ((a0.2.getD (toNat a1) default).2.2.2.2.2+(a0.2.getD (toNat a2) default).2.2.2.2.2))*4))*a3))*a3)):Int)<=(wE a0 a1 a2 a3))) with
 | true =>
  have q0:=cA h0
  let t1:List (St Tryz.prog):=(t0++[.d h0])
  cases h1:(decide (((wE a0 a1 a2 a3):Int) > 0)) with
  | true =>
   have q1:=cA h1
   have e:=Eq.refl (bO (nr+1) a0 a1 a2 a3);conv at e=>rhs;simp only [bO,h0,h1,aS]
   rw [e]
   exact rt (t1++[.d h1]) [.sym 5 true] [5] hcx (by kernel_rfl)
  | false =>
   have q1:=cH h1
   have e:=Eq.refl (bO (nr+1) a0 a1 a2 a3);conv at e=>rhs;simp only [bO,h0,h1,aS]
   rw [e]
   refine ga (t1++[.d h1,.z 5]) [] [1,2,3,4,9,10] [2,3,4] hcx aHj (aHk) (aDu nr a0 a1 a2 a3) (by kernel_rfl) ?_
   exact aNk nr a0 a1 a2 a3 l0_1 l0_2 hp hlt ihr hcx trivial
 | false =>
  have q0:=cH h0
  have e:=Eq.refl (bO (nr+1) a0 a1 a2 a3);conv at e=>rhs;simp only [bO,h0,aS]
  rw [e]
  refine ga (t0++[.d h0,.z 5]) [] [1,2,3,4,9,10] [2,3,4] hcx aHj (aHk) (aDu nr a0 a1 a2 a3) (by kernel_rfl) ?_
  exact aNk nr a0 a1 a2 a3 l0_1 l0_2 hp hlt ihr hcx trivial
theorem C76 (a0:List (Int)×bE)(a1:Int)(a2:Int)(a3:Int)(l0_1:a0.1.length<=9223372036854775807)(l0_2:a0.2.length<=9223372036854775807)(hp:PVB a1 a2 a0 []):Con Tryz.prog 76 [(.a [(.s 0 0 a0.1.length 1),(.s 1 0 a0.2.length 8)]),(iv a1),(iv a2),(iv a3)] [(.live false true (flat c3 a0.1)),(.live false true (flat bT a0.2))] (.s 2 0 (F76 a0 a1 a2 a3).length 3) [(.live true true (flat dU (F76 a0 a1 a2 a3)))]:=aWd (((a0.2.length - toNat a1)+(a0.2.length - toNat a2))+1) a0 a1 a2 a3 l0_1 l0_2 hp (lss _)
def aNl (t:TR)(sep:Int)(i k:Int):Prop :=
 W (W (W (W ((t.2.getD (toNat i) default).2.2.2.2.2+(t.2.getD (toNat k) default).2.2.2.2.2)*4)*sep)*sep)<=tA (F42 (t.2.getD (toNat i) default).2.2.2.2.1 (t.2.getD (toNat k) default).2.2.2.2.1) /\
   tA (F42 (t.2.getD (toNat i) default).2.2.2.2.1 (t.2.getD (toNat k) default).2.2.2.2.1) > 0
def aNm (t:TR)(i k:Int):Prop :=
 (t.2.getD (toNat k) default).2.2.1 < 0\/((t.2.getD (toNat i) default).2.2.1≥0/\W ((t.2.getD (toNat i) default).2.1 - (t.2.getD (toNat i) default).1)≥W ((t.2.getD (toNat k) default).2.1 - (t.2.getD (toNat k) default).1))
section
variable {t : TR} {sep i k : Int} {out : List BLK} {n : Nat}
theorem aR6:gA (gG n) i k t sep out ()=(open Classical in if aNm t i k then aFm (gG n) i k t sep out else aFn (gG n) i k t sep out):=by
 simp only [gA]
 unfold aNm
 by_cases h1:(t.2.getD (toNat k) default).2.2.1 < 0
 · rw [cN h1,cond_true,if_pos (.inl h1)]
 · rw [dQ h1,cond_false]
   by_cases h2:(t.2.getD (toNat i) default).2.2.1≥0
   · rw [cN h2,cond_true]
     by_cases h3:W ((t.2.getD (toNat i) default).2.1 - (t.2.getD (toNat i) default).1)≥W ((t.2.getD (toNat k) default).2.1 - (t.2.getD (toNat k) default).1)
     · rw [cN h3,cond_true,if_pos (.inr ⟨h2,h3⟩)]
     · rw [dQ h3,cond_false,if_neg (fun h=>h.elim h1 (fun h=>h3 h.2))]
   · rw [dQ h2,cond_false,if_neg (fun h=>h.elim h1 (fun h=>h2 h.1))]
end
section
variable {t : TR} {sep i k : Int} {out : List BLK} {n : Nat}
theorem aPl (h:aNl t sep i k):gG (n+1) i k t sep out=out++[(i,k,true)]:=by
 simp only [gG]
 rw [cN (show tA (pX i k t sep out) > 0 from h.2),cond_true,cN (show W (W (W (W ((t.2.getD (toNat i) default).2.2.2.2.2+(t.2.getD (toNat k) default).2.2.2.2.2)*4)*sep)*sep)<=tA (pX i k t sep out) from h.1)]
 rfl
theorem aPm (h:¬aNl t sep i k):gG (n+1) i k t sep out=gB (gG n) i k t sep out false:=by
 simp only [gG]
 by_cases h2:tA (pX i k t sep out) > 0
 · rw [cN h2,cond_true,dQ (show ¬W (W (W (W ((t.2.getD (toNat i) default).2.2.2.2.2+(t.2.getD (toNat k) default).2.2.2.2.2)*4)*sep)*sep)<=tA (pX i k t sep out) from fun h1=>h ⟨h1,h2⟩)]
 · rw [dQ h2,cond_false]
theorem aR7:gB (gG n) i k t sep out false=if(t.2.getD (toNat i) default).2.2.1 < 0/\(t.2.getD (toNat k) default).2.2.1 < 0 then out++[(i,k,false)] else gA (gG n) i k t sep out ():=by
 simp only [gB,cond_false,lW]
 by_cases zi:(t.2.getD (toNat i) default).2.2.1 < 0<;>by_cases zk:(t.2.getD (toNat k) default).2.2.1 < 0
 · rw [cN zi,cN zk,if_pos ⟨zi,zk⟩];rfl
 · rw [cN zi,dQ zk,if_neg (fun h=>zk h.2)];rfl
 · rw [dQ zi,if_neg (fun h=>zi h.1)];rfl
 · rw [dQ zi,if_neg (fun h=>zi h.1)];rfl
theorem aPn (h:aNl t sep i k):bO (n+1) t i k sep=[(i,k,true)]:=by
 simp only [bO]
 rw [cN (show W (W (W (W ((t.2.getD (toNat i) default).2.2.2.2.2+(t.2.getD (toNat k) default).2.2.2.2.2)*4)*sep)*sep)<=wE t i k sep from h.1),cond_true,cN (show wE t i k sep > 0 from h.2)]
 rfl
theorem aPo (h:¬aNl t sep i k):bO (n+1) t i k sep=dH (bO n) t i k sep ():=by
 simp only [bO]
 by_cases h1:W (W (W (W ((t.2.getD (toNat i) default).2.2.2.2.2+(t.2.getD (toNat k) default).2.2.2.2.2)*4)*sep)*sep)<=wE t i k sep
 · rw [cN h1,cond_true,dQ (show ¬wE t i k sep > 0 from fun h2=>h ⟨h1,h2⟩),cond_false]
 · rw [dQ h1,cond_false]
theorem aR8:dH (bO n) t i k sep ()=(open Classical in if(t.2.getD (toNat i) default).2.2.1 < 0/\(t.2.getD (toNat k) default).2.2.1 < 0 then [(i,k,false)] else if aNm t i k then eA (bO n) t i k sep++dF (bO n) t i k sep else cR (bO n) t i k sep++cF (bO n) t i k sep):=by
 simp only [dH]
 unfold aNm
 by_cases zi:(t.2.getD (toNat i) default).2.2.1 < 0<;>by_cases zk:(t.2.getD (toNat k) default).2.2.1 < 0
 · rw [cN zi,cN zk,if_pos ⟨zi,zk⟩];rfl
 · rw [cN zi,dQ zk,cond_true,cond_false,dQ (show ¬(t.2.getD (toNat i) default).2.2.1≥0 by omega),cond_false,if_neg (fun h=>zk h.2),if_neg (fun h=>h.elim zk (fun h=>absurd h.1 (by omega)))]
 · rw [dQ zi,cN zk,cond_false,cond_true,if_neg (fun h=>zi h.1),if_pos (.inl zk)]
 · rw [dQ zi,dQ zk,cond_false,cond_false,cN (show(t.2.getD (toNat i) default).2.2.1≥0 by omega),cond_true,if_neg (fun h=>zi h.1)]
   by_cases h3:W ((t.2.getD (toNat i) default).2.1 - (t.2.getD (toNat i) default).1)≥W ((t.2.getD (toNat k) default).2.1 - (t.2.getD (toNat k) default).1)
   · rw [cN h3,cond_true,if_pos (.inr ⟨by omega,h3⟩)]
   · rw [dQ h3,cond_false,if_neg (fun h=>h.elim zk (fun h=>h3 h.2))]
end
theorem tC:∀(n:Nat) (i k:Int) (t:TR) (sep:Int) (out:List BLK) (m:Nat) (f u h:Int) (m':Nat) (f' u' h':Int),TRE t.2 (toNat i) m f u h->TRE t.2 (toNat k) m' f' u' h'->0<=i->0<=k->(t.2.length - toNat i)+(t.2.length - toNat k) < n ->
   gG n i k t sep out=out++bO n t i k sep
 | 0,_,_,_,_,_,_,_,_,_,_,_,_,_,_,_,_,_,h=>absurd h (eP _)
 | n+1,i,k,t,sep,out,m,f,u,h,m',f',u',h',H,K,hi,hk,hn=>by
   have hb:=bQ H
   have kb:=bQ K
   by_cases hf:aNl t sep i k
   · rw [aPl hf,aPn hf]
   · rw [aPm hf,aPo hf,aR7,aR8,aR6]
     by_cases z:(t.2.getD (toNat i) default).2.2.1 < 0/\(t.2.getD (toNat k) default).2.2.1 < 0
     · rw [if_pos z,if_pos z]
     · rw [if_neg z,if_neg z]
       by_cases hs:aNm t i k
       · rw [if_pos hs,if_pos hs]
         have hq:¬(t.2.getD (toNat i) default).2.2.1 < 0:=fun h0=>hs.elim (fun h1=>z ⟨h0,h1⟩) (fun h1=>absurd h1.1 (by omega))
         rcases fM H with⟨_,_,h5,_⟩ | ⟨m1,m2,c,h1,h2,e8,g4,g5,b1,b2,e9⟩
         · omega
         · have l1:=bQ b1
           have l2:=bQ b2
           have t1:TRE t.2 (toNat (t.2.getD (toNat i) default).2.2.1) m1 f c h1:=by rw [g4,jM];exact b1
           have t2:TRE t.2 (toNat (t.2.getD (toNat i) default).2.2.2.1) m2 c u h2:=by rw [g5,jM];exact b2
           have c1:pY (gG n) i k t sep out=out++eA (bO n) t i k sep:=tC n (t.2.getD (toNat i) default).2.2.1 k t sep out m1 f c h1 m' f' u' h' t1 K (by omega) hk (by omega)
           have c2:aFm (gG n) i k t sep out=pY (gG n) i k t sep out++dF (bO n) t i k sep:=tC n (t.2.getD (toNat i) default).2.2.2.1 k t sep _ m2 c u h2 m' f' u' h' t2 K (by omega) hk (by omega)
           rw [c2,c1,List.append_assoc]
       · rw [if_neg hs,if_neg hs]
         have hq:¬(t.2.getD (toNat k) default).2.2.1 < 0:=fun h0=>hs (.inl h0)
         rcases fM K with⟨_,_,h5,_⟩ | ⟨m1,m2,c,h1,h2,e8,g4,g5,b1,b2,e9⟩
         · omega
         · have l1:=bQ b1
           have l2:=bQ b2
           have t1:TRE t.2 (toNat (t.2.getD (toNat k) default).2.2.1) m1 f' c h1:=by rw [g4,jM];exact b1
           have t2:TRE t.2 (toNat (t.2.getD (toNat k) default).2.2.2.1) m2 c u' h2:=by rw [g5,jM];exact b2
           have c1:pZ (gG n) i k t sep out=out++cR (bO n) t i k sep:=tC n i (t.2.getD (toNat k) default).2.2.1 t sep out m f u h m1 f' c h1 H t1 hi (by omega) (by omega)
           have c2:aFn (gG n) i k t sep out=pZ (gG n) i k t sep out++cF (bO n) t i k sep:=tC n i (t.2.getD (toNat k) default).2.2.2.1 t sep _ m f u h m2 c u' h2 H t2 hi (by omega) (by omega)
           rw [c2,c1,List.append_assoc]
end Go.Proofs.YtmihafgemmgepaaGreat
namespace Go.Proofs.YtmihafgemmgepaaGreat
open Go.Proofs Go.Aw Go.RowKit
set_option maxRecDepth 100000
theorem aJf {l:eW} {t:TR} (h:gJ l t=0)(h0:0 < t.2.length):PVB 0 0 t []:=by
 obtain⟨hv,leaf,h1,_,rfl⟩:=aAa h
 have hl:=hv.1
 have hb:=qZ l hv.1 h1
 rcases aHc l h1 with⟨_,e⟩ | ⟨hh,H⟩
 · rw [e] at h0;exact absurd h0 (Nat.lt_irrefl _)
 · have hw:=bQ H
   have hm:((l.length:Int) - 0)*((l.length:Int) - 0)<=96*96:=Int.mul_le_mul (by omega) (by omega) (by omega) (by omega)
   exact⟨Int.le_refl _,Int.le_refl _,by omega,_,_,_,_,_,_,_,_,H,H,by simp only [List.length_nil];omega⟩
def F50 (a0:List (Int)×bE)(a1:Int):List (Int×Int×Bool) :=
 (bif (((a0.2.length:Int):Int) == 0) then
  ([]:List (Int×Int×Bool))
 else
  (F76 (a0.1,a0.2) 0 0 a1))
theorem C50 (a0:List (Int)×bE)(a1:Int)(l0_1:a0.1.length<=9223372036854775807)(l0_2:a0.2.length<=9223372036854775807)(hp:0 < a0.2.length->PVB 0 0 a0 []):Con Tryz.prog 50 [(.a [(.s 0 0 a0.1.length 1),(.s 1 0 a0.2.length 8)]),(iv a1)] [(.live false true (flat c3 a0.1)),(.live false true (flat bT a0.2))] (.s 2 0 (F50 a0 a1).length 3) [(.live true true (flat dU (F50 a0 a1)))]:=by
 refine aO Tryz.func50 (by kernel_rfl) fun cx hcx=>?_
 cases h0:(((a0.2.length:Int):Int) == 0) with
 | true =>
  have q0:=eq_of_beq h0
  have e:=Eq.refl (F50 a0 a1);conv at e=>rhs;simp only [F50,h0,aS]
  rw [e]
  exact rt [.d h0] [.slot 4 3] [3] hcx (by kernel_rfl)
 | false =>
  have q0:=ne_of_beq_false h0
  have e:=Eq.refl (F50 a0 a1);conv at e=>rhs;simp only [F50,h0,aS]
  rw [e]
  exact rt [.d h0,.c [0,1] (C76 (a0.1,a0.2) 0 0 a1 (by(try simp only [Lt]);omega) (by(try simp only [Lt]);omega) (hp (by omega)))] [] [3] hcx (by kernel_rfl)
def F27 (a0:Int)(a1:Int)(a2:Int):Bool :=
 (bif (decide ((a0:Int)≥a1)) then
  (decide ((a0:Int)<=a2))
 else
  false)
theorem C27 (a0:Int)(a1:Int)(a2:Int):Con Tryz.prog 27 [(iv a0),(iv a1),(iv a2)] [] (.v (.bool (F27 a0 a1 a2))) []:=by
 refine aO Tryz.func27 (by kernel_rfl) fun cx hcx=>?_
 cases h0:(decide ((a0:Int)≥a1)) with
 | true =>
  have q0:=cA h0
  have e:=Eq.refl (F27 a0 a1 a2);conv at e=>rhs;simp only [F27,h0,aS]
  rw [e]
  exact rt [.d h0] [] [] hcx (by kernel_rfl)
 | false =>
  have q0:=cH h0
  have e:=Eq.refl (F27 a0 a1 a2);conv at e=>rhs;simp only [F27,h0,aS]
  rw [e]
  exact rt [.d h0] [] [] hcx (by kernel_rfl)
def aF (a0:bM)(a1:List (Int)×bE)(a2:Int):(List (Int×Int×Bool))×Int :=
 (bif (((gJ a0 (a1.1,a1.2)):Int) != 0) then
  (([]:List (Int×Int×Bool)),(gJ a0 (a1.1,a1.2)))
 else
  (bif (!(F27 a2 1 16)) then
   (([]:List (Int×Int×Bool)),1)
  else
   ((F50 (a1.1,a1.2) a2),0)))
theorem aUz (a0:bM)(a1:List (Int)×bE)(a2:Int)(l0:a0.length<=9223372036854775807)(l1_1:a1.1.length<=9223372036854775807)(l1_2:a1.2.length<=9223372036854775807) [h5:dR a0]:Con Tryz.prog 26 [(.s 0 0 a0.length 10),(.a [(.s 1 0 a1.1.length 1),(.s 2 0 a1.2.length 8)]),(iv a2)] [(.live false true (flat eF a0)),(.live false true (flat c3 a1.1)),(.live false true (flat bT a1.2))] (.t [(.s 3 0 (aF a0 a1 a2).1.length 3),(iv (aF a0 a1 a2).2)]) [(.live true true (flat dU (aF a0 a1 a2).1))]:=by
 refine aO Tryz.func26 (by kernel_rfl) fun cx hcx=>?_
 let t0:List (St Tryz.prog):=[.c [0,1,2] (aUs a0 (a1.1,a1.2) (by omega) (by(try simp only [Lt]);omega) (by(try simp only [Lt]);omega))]
 cases h0:(((gJ a0 (a1.1,a1.2)):Int) != 0) with
 | true =>
  have q0:=bne_iff_ne.1 h0
  have e:=Eq.refl (aF a0 a1 a2);conv at e=>rhs;simp only [aF,h0,aS]
  rw [e]
  exact rt (t0++[.d h0]) [.slot 6 3] [4] hcx (by kernel_rfl)
 | false =>
  have q0:=bne_eq_false_iff_eq.1 h0
  let t1:List (St Tryz.prog):=(t0++[.d h0,.c [] (C27 a2 1 16)])
  cases h1:(!(F27 a2 1 16)) with
  | true =>
   have e:=Eq.refl (aF a0 a1 a2);conv at e=>rhs;simp only [aF,h0,h1,aS]
   rw [e]
   exact rt (t1++[.d h1]) [.slot 6 3] [4] hcx (by kernel_rfl)
  | false =>
   have e:=Eq.refl (aF a0 a1 a2);conv at e=>rhs;simp only [aF,h0,h1,aS]
   rw [e]
   exact rt (t1++[.d h1,.c [1,2] (C50 (a1.1,a1.2) a2 (by(try simp only [Lt]);omega) (by(try simp only [Lt]);omega) (fun q=>aJf (bne_eq_false_iff_eq.1 (by assumption)) q))]) [] [4] hcx (by kernel_rfl)
theorem aDv {l:eW} {t:TR} (sep:Int)(h:gJ l t=0):bN t sep=F50 t sep:=by
 obtain⟨hv,leaf,h1,_,rfl⟩:=aAa h
 rcases aHc l h1 with⟨_,e⟩ | ⟨hh,H⟩
 · rw [e];rfl
 · have hw:=bQ H
   unfold bN F50
   rw [cN (show(((BT l leaf).2.length:Nat):Int) > 0 by omega),cond_true,show((((BT l leaf).2.length:Nat):Int) == 0)=false by rw [beq_eq_false_iff_ne];omega,cond_false]
   simp only [uY,F40,F76]
   exact tC _ 0 0 (BT l leaf) sep [] _ _ _ _ _ _ _ _ H H (Int.le_refl _) (Int.le_refl _) (lss _)
theorem aNn {l:eW} {t:TR} (h:gJ l t=0):t.1.length=l.length/\l.length<=96/\t.2.length<=192/\aR4 t:=by
 obtain⟨hv,leaf,h1,_,rfl⟩:=aAa h
 have hb:=qZ l hv.1 h1
 exact⟨hb.1,hv.1,hb.2,aPj l hv.1 h1⟩
theorem aPp {l:eW} {t:TR} (h:gJ l t=0):∀j:Int,0<=j/\j < l.length->0<=t.1.getD (toNat j) default/\t.1.getD (toNat j) default < l.length:=by
 obtain⟨hv,leaf,h1,_,rfl⟩:=aAa h
 intro j hj
 have hb:=qZ l hv.1 h1
 have hj2:toNat j < (BT l leaf).1.length:=by omega
 have:=zV l.length _ ((aPk l h1).mem_iff.1 (List.getElem_mem hj2))
 rw [eQ,List.getElem?_eq_getElem hj2]
 exact this
theorem aBg {l:eW} {t:TR} (h:gJ l (t.1,t.2)=0):t.1.length=l.length/\l.length<=96/\t.2.length<=192/\aR4 t:=aNn (t:=t) h
theorem aNo {l:eW} {t:TR} (h:gJ l (t.1,t.2)=0):∀j:Int,0<=j/\j < l.length->0<=t.1.getD (toNat j) default/\t.1.getD (toNat j) default < l.length:=aPp (t:=t) h
abbrev LBK:=List BLK
def rg (f u:Int):List Int:=(List.range (toNat (u - f))).map (fun j:Nat=>f+(j:Int))
theorem aR9 {f u:Int} (h:u<=f):rg f u=[]:=by unfold rg;rw [show toNat (u - f)=0 by omega];rfl
theorem aJg {f u:Int} (h:f < u):rg f u=f::rg (f+1) u:=by
 unfold rg
 rw [show toNat (u - f)=toNat (u - (f+1))+1 by omega,List.range_succ_eq_map,List.map_cons,List.map_map]
 refine List.cons_eq_cons.2 ⟨by omega,List.map_congr_left fun j _=>?_⟩
 show f+((j+1:Nat):Int)=f+1+(j:Int)
 omega
def row (n i f u:Int):List Int:=(rg f u).map (fun k=>i*n+k)
def aHl (n:Int)(N:List NDE)(x:BLK):List Int:=(rg (N.getD (toNat x.1) default).1 (N.getD (toNat x.1) default).2.1).flatMap fun i=>row n i (N.getD (toNat x.2.1) default).1 (N.getD (toNat x.2.1) default).2.1
theorem aAb {α β:Type} {f g:α->List β}:∀(l:List α),(∀x∈l,f x=g x)->l.flatMap f=l.flatMap g
 | [],_=>rfl
 | x::l,h=>by rw [List.flatMap_cons,List.flatMap_cons,h x List.mem_cons_self,aAb l (fun y hy=>h y (List.mem_cons_of_mem _ hy))]
def F43 (a0:Int×Int×Int×Int×Zt×Int):Bool :=
 (bif (rN a0.2.2.2.2.2 0 131072) then
  (bif (rN a0.2.2.2.2.1.1 (-64) 64) then
   (bif (rN a0.2.2.2.2.1.2.1 (-64) 64) then
    (rN a0.2.2.2.2.1.2.2 (-64) 64)
   else
    false)
  else
   false)
 else
  false)
theorem C43 (a0:Int×Int×Int×Int×Zt×Int):Con Tryz.prog 43 [(.a [(iv a0.1),(iv a0.2.1),(iv a0.2.2.1),(iv a0.2.2.2.1),(iv a0.2.2.2.2.1.1),(iv a0.2.2.2.2.1.2.1),(iv a0.2.2.2.2.1.2.2),(iv a0.2.2.2.2.2)])] [] (.v (.bool (F43 a0))) []:=by
 refine aO Tryz.func43 (by kernel_rfl) fun cx hcx=>?_
 let t0:List (St Tryz.prog):=[.c [] (C21 a0.2.2.2.2.2 0 131072)]
 cases h0:(rN a0.2.2.2.2.2 0 131072) with
 | true =>
  let t1:List (St Tryz.prog):=(t0++[.d h0,.c [] (C21 a0.2.2.2.2.1.1 (-64) 64)])
  cases h1:(rN a0.2.2.2.2.1.1 (-64) 64) with
  | true =>
   let t2:List (St Tryz.prog):=(t1++[.d h1,.c [] (C21 a0.2.2.2.2.1.2.1 (-64) 64)])
   cases h2:(rN a0.2.2.2.2.1.2.1 (-64) 64) with
   | true =>
    have e:=Eq.refl (F43 a0);conv at e=>rhs;simp only [F43,h0,h1,h2,aS]
    rw [e]
    exact rt (t2++[.d h2,.c [] (C21 a0.2.2.2.2.1.2.2 (-64) 64)]) [] [] hcx (by kernel_rfl)
   | false =>
    have e:=Eq.refl (F43 a0);conv at e=>rhs;simp only [F43,h0,h1,h2,aS]
    rw [e]
    exact rt (t2++[.d h2]) [] [] hcx (by kernel_rfl)
  | false =>
   have e:=Eq.refl (F43 a0);conv at e=>rhs;simp only [F43,h0,h1,aS]
   rw [e]
   exact rt (t1++[.d h1]) [] [] hcx (by kernel_rfl)
 | false =>
  have e:=Eq.refl (F43 a0);conv at e=>rhs;simp only [F43,h0,aS]
  rw [e]
  exact rt (t0++[.d h0]) [] [] hcx (by kernel_rfl)
noncomputable def aJh:Code:=(aI [1,1,0,1] [] (aL Tryz.f45) []).1
noncomputable def aJi:List K:=(aI [1,1,0,1] [] (aL Tryz.f45) []).2
def aDw (a0:Int)(v1 v2:Int):LS:=⟨iM 22 [(0,(iv a0)),(3,(iv v1)),(4,(iv v2))],[]⟩
def qA (a0:Int):Int×Int->(Int×Int)⊕(Int)
 | (v1,v2) =>
  (bif (decide ((v2:Int) > 0)) then
   (bif (decide (((W ((W (v1+v2))*(W (v1+v2)))):Int)<=a0)) then
    (.inl ((W (v1+v2)),(v2 / 2)))
   else
    (.inl (v1,(v2 / 2))))
  else
   (.inr v1))
theorem aU0 (a0:Int) {cx:Cx} (hcx:cx.base=0):∀(n:Nat) (v1 v2:Int),True->toNat v2 < n->Aw.Good Tryz.prog none 9 (bodyPost Tryz.prog Tryz.f45 (RR cx (iv (aC (qA a0) n (v1,v2))) [] [])) cx [] (.l aJh n::aJi) (aDw a0 v1 v2):=by
 intro n
 induction n with
 | zero=>intro v1 v2 hi hn;exact absurd hn (eP _)
 | succ n ih =>
   intro v1 v2 hi hn
   refine aQ ?_
   cases h0:(decide ((v2:Int) > 0)) with
   | true =>
    have q0:=cA h0
    let t1:List (St Tryz.prog):=[.d h0]
    cases h1:(decide (((W ((W (v1+v2))*(W (v1+v2)))):Int)<=a0)) with
    | true =>
     have q1:=cA h1
     have e:=Eq.refl (qA a0 (v1,v2));conv at e=>rhs;simp only [qA,h0,h1,aS]
     rw [aE e]
     refine ba (t1++[.d h1,.p (show 0<=(1:Int) from by decide)]) [] [0,3,4] [] hcx (m:=n) aJh (aJi) (aDw a0 (W (v1+v2)) (Int.fdiv v2 (2 ^ (min (toNat 1) 64)))) (by kernel_rfl) ?_
     have z0:(Int.fdiv v2 (2 ^ (min (toNat 1) 64)))=(v2 / 2):=tY _ 1 (by decide)
     rw [z0]
     exact ih (W (v1+v2)) (v2 / 2) trivial (by(try simp only [Ls]);omega)
    | false =>
     have q1:=cH h1
     have e:=Eq.refl (qA a0 (v1,v2));conv at e=>rhs;simp only [qA,h0,h1,aS]
     rw [aE e]
     refine ba (t1++[.d h1,.p (show 0<=(1:Int) from by decide)]) [] [0,3,4] [] hcx (m:=n) aJh (aJi) (aDw a0 v1 (Int.fdiv v2 (2 ^ (min (toNat 1) 64)))) (by kernel_rfl) ?_
     have z0:(Int.fdiv v2 (2 ^ (min (toNat 1) 64)))=(v2 / 2):=tY _ 1 (by decide)
     rw [z0]
     exact ih v1 (v2 / 2) trivial (by(try simp only [Ls]);omega)
   | false =>
    have q0:=cH h0
    have e:=Eq.refl (qA a0 (v1,v2));conv at e=>rhs;simp only [qA,h0,aS]
    rw [aN,e]
    exact rt [.d h0] [] [] hcx (by kernel_rfl)
def lY (a0:Int):Int :=
 (aC (qA a0) (toNat 1073741824+1) (0,1073741824))
theorem C45 (a0:Int):Con Tryz.prog 45 [(iv a0)] [] (iv (lY a0)) []:=by
 refine aO Tryz.func45 (by kernel_rfl) fun cx hcx=>?_
 have e:=Eq.refl (lY a0);conv at e=>rhs;simp only [lY]
 rw [e]
 refine en [] [] [0,3,4] [] hcx aJh (aJi) (aDw a0 0 1073741824) (toNat 1073741824+1) (by kernel_rfl) ?_
 exact aU0 a0 hcx (toNat 1073741824+1) 0 1073741824 trivial (by(try simp only [Ls]);omega)
def gC (a0:Int):Int :=
 (bif (decide (((W ((lY a0)*(lY a0))):Int) < a0)) then
  (W ((lY a0)+1))
 else
  (lY a0))
theorem C44 (a0:Int):Con Tryz.prog 44 [(iv a0)] [] (iv (gC a0)) []:=by
 refine aO Tryz.func44 (by kernel_rfl) fun cx hcx=>?_
 let t0:List (St Tryz.prog):=[.c [] (C45 a0)]
 cases h0:(decide (((W ((lY a0)*(lY a0))):Int) < a0)) with
 | true =>
  have q0:=cA h0
  have e:=Eq.refl (gC a0);conv at e=>rhs;simp only [gC,h0,aS]
  rw [e]
  exact rt (t0++[.d h0]) [] [] hcx (by kernel_rfl)
 | false =>
  have q0:=cH h0
  have e:=Eq.refl (gC a0);conv at e=>rhs;simp only [gC,h0,aS]
  rw [e]
  exact rt (t0++[.d h0]) [] [] hcx (by kernel_rfl)
noncomputable def aJj:Code:=(aI [1,1,0,1] [] (aL Tryz.f54) []).1
noncomputable def aJk:List K:=(aI [1,1,0,1] [] (aL Tryz.f54) []).2
def aDx (a0:Int)(v1 v2:Int):LS:=⟨iM 22 [(0,(iv a0)),(3,(iv v1)),(4,(iv v2))],[]⟩
def qB (a0:Int):Int×Int->(Int×Int)⊕(Int)
 | (v1,v2) =>
  (bif (decide ((v2:Int) > 0)) then
   (bif (decide (((W ((W (v1+v2))*(W (v1+v2)))):Int)<=a0)) then
    (.inl ((W (v1+v2)),(W (Int.tdiv v2 2))))
   else
    (.inl (v1,(W (Int.tdiv v2 2)))))
  else
   (.inr v1))
theorem aU1 (a0:Int) {cx:Cx} (hcx:cx.base=0):∀(n:Nat) (v1 v2:Int),(0<=v2)/\(v2<=1073741824)->toNat v2 < n->Aw.Good Tryz.prog none 9 (bodyPost Tryz.prog Tryz.f54 (RR cx (iv (aC (qB a0) n (v1,v2))) [] [])) cx [] (.l aJj n::aJk) (aDx a0 v1 v2):=by
 intro n
 induction n with
 | zero=>intro v1 v2 hi hn;exact absurd hn (eP _)
 | succ n ih =>
   intro v1 v2 hi hn
   refine aQ ?_
   have hw_t:W (Int.tdiv v2 2)=v2 / 2:=by rw [Int.tdiv_eq_ediv_of_nonneg (by omega)];exact aJ (by omega) (by omega)
   cases h0:(decide ((v2:Int) > 0)) with
   | true =>
    have q0:=cA h0
    let t1:List (St Tryz.prog):=[.d h0]
    cases h1:(decide (((W ((W (v1+v2))*(W (v1+v2)))):Int)<=a0)) with
    | true =>
     have q1:=cA h1
     have e:=Eq.refl (qB a0 (v1,v2));conv at e=>rhs;simp only [qB,h0,h1,aS]
     rw [aE e]
     refine ba (t1++[.d h1,.p (show(2:Int)≠0 from by decide)]) [] [0,3,4] [] hcx (m:=n) aJj (aJk) (aDx a0 (W (v1+v2)) (W (Int.tdiv v2 2))) (by kernel_rfl) ?_
     exact ih (W (v1+v2)) (W (Int.tdiv v2 2)) (by refine⟨?_,?_⟩<;>(try simp only [Ls])<;>first | omega | assumption | simp) (by(try simp only [Ls]);omega)
    | false =>
     have q1:=cH h1
     have e:=Eq.refl (qB a0 (v1,v2));conv at e=>rhs;simp only [qB,h0,h1,aS]
     rw [aE e]
     refine ba (t1++[.d h1,.p (show(2:Int)≠0 from by decide)]) [] [0,3,4] [] hcx (m:=n) aJj (aJk) (aDx a0 v1 (W (Int.tdiv v2 2))) (by kernel_rfl) ?_
     exact ih v1 (W (Int.tdiv v2 2)) (by refine⟨?_,?_⟩<;>(try simp only [Ls])<;>first | omega | assumption | simp) (by(try simp only [Ls]);omega)
   | false =>
    have q0:=cH h0
    have e:=Eq.refl (qB a0 (v1,v2));conv at e=>rhs;simp only [qB,h0,aS]
    rw [aN,e]
    exact rt [.d h0] [] [] hcx (by kernel_rfl)
def F54 (a0:Int):Int :=
 (aC (qB a0) (toNat 1073741824+1) (0,1073741824))
theorem C54 (a0:Int):Con Tryz.prog 54 [(iv a0)] [] (iv (F54 a0)) []:=by
 refine aO Tryz.func54 (by kernel_rfl) fun cx hcx=>?_
 have e:=Eq.refl (F54 a0);conv at e=>rhs;simp only [F54]
 rw [e]
 refine en [] [] [0,3,4] [] hcx aJj (aJk) (aDx a0 0 1073741824) (toNat 1073741824+1) (by kernel_rfl) ?_
 exact aU1 a0 hcx (toNat 1073741824+1) 0 1073741824 (by refine⟨?_,?_⟩<;>(try simp only [Ls])<;>first | omega | assumption | simp) (by(try simp only [Ls]);omega)
def rO (a0:Int):Int :=
 (bif (decide (((W ((F54 a0)*(F54 a0))):Int) < a0)) then
  (W ((F54 a0)+1))
 else
  (F54 a0))
theorem C53 (a0:Int):Con Tryz.prog 53 [(iv a0)] [] (iv (rO a0)) []:=by
 refine aO Tryz.func53 (by kernel_rfl) fun cx hcx=>?_
 let t0:List (St Tryz.prog):=[.c [] (C54 a0)]
 cases h0:(decide (((W ((F54 a0)*(F54 a0))):Int) < a0)) with
 | true =>
  have q0:=cA h0
  have e:=Eq.refl (rO a0);conv at e=>rhs;simp only [rO,h0,aS]
  rw [e]
  exact rt (t0++[.d h0]) [] [] hcx (by kernel_rfl)
 | false =>
  have q0:=cH h0
  have e:=Eq.refl (rO a0);conv at e=>rhs;simp only [rO,h0,aS]
  rw [e]
  exact rt (t0++[.d h0]) [] [] hcx (by kernel_rfl)
theorem aSa {n:Int} (h0:0<=n)(h:n < 4611686018427387904):IsRt n (lY n):=by
 unfold lY
 refine oT (n:=n) (fun k b hk hb hkb=>?_) (fun k=>?_) 30 _ 0 (by decide) (by omega) (by decide) (by omega) (by simpa using h)
 · have h2:decide (b > 0)=true:=by simpa using hb
   have hw:W (k+b)=k+b:=aJ (by omega) (by omega)
   have hq:=yV (a:=k+b) (by omega) hkb
   have hw2:W ((k+b)*(k+b))=(k+b)*(k+b):=aJ (by omega) (by omega)
   simp only [qA,h2,cond_true,hw,hw2]
   by_cases hc:(k+b)*(k+b)<=n<;>simp [hc]
 · simp [qA]
theorem aPq {n:Int} (h0:0<=n)(h:n < 4611686018427387904):IsRt n (F54 n):=by
 unfold F54
 refine oT (n:=n) (fun k b hk hb hkb=>?_) (fun k=>?_) 30 _ 0 (by decide) (by omega) (by decide) (by omega) (by simpa using h)
 · have h2:decide (b > 0)=true:=by simpa using hb
   have hw:W (k+b)=k+b:=aJ (by omega) (by omega)
   have hq:=yV (a:=k+b) (by omega) hkb
   have hw2:W ((k+b)*(k+b))=(k+b)*(k+b):=aJ (by omega) (by omega)
   have hd:W (Int.tdiv b 2)=b / 2:=by rw [Int.tdiv_eq_ediv_of_nonneg (by omega)];exact aJ (by omega) (by omega)
   simp only [qB,h2,cond_true,hw,hw2]
   by_cases hc:(k+b)*(k+b)<=n<;>simp [hc,hd]
 · simp [qB]
abbrev ND:=Int×Int×Int×Int×Zt×Int
def knw (a:ND):Prop:=(0<=a.2.2.2.2.2/\a.2.2.2.2.2<=131072)/\bd 64 a.2.2.2.2.1
theorem aWe (n lo hi:Int):rN n lo hi=decide (lo<=n/\n<=hi):=by
 unfold rN
 by_cases h1:lo<=n<;>by_cases h2:n<=hi<;>simp [h1,h2]
theorem aSb (n lo hi:Int):F27 n lo hi=decide (lo<=n/\n<=hi):=by
 unfold F27
 by_cases h1:lo<=n<;>by_cases h2:n<=hi<;>simp [h1,h2]
open Classical in
theorem aSc (a:ND):F43 a=decide (knw a):=by
 unfold F43 knw bd
 simp only [aWe]
 by_cases h1:0<=a.2.2.2.2.2/\a.2.2.2.2.2<=131072<;>by_cases h2:-64<=a.2.2.2.2.1.1/\a.2.2.2.2.1.1<=64<;>by_cases h3:-64<=a.2.2.2.2.1.2.1/\a.2.2.2.2.1.2.1<=64<;>by_cases h4:-64<=a.2.2.2.2.1.2.2/\a.2.2.2.2.1.2.2<=64<;>simp [h1,h2,h3,h4]
theorem tD {a:ND} (h:(!(F43 a))=false):knw a:=by
 rw [aSc] at h;simpa using h
theorem aSd {n:Int} (h:F77 n<=64)(h2:n≥-64):-64<=n/\n<=64:=by
 unfold F77 at h
 split at h<;>omega
theorem aSe {n:Int} (h:-64<=n/\n<=64):F77 n<=64:=by
 unfold F77
 rw [aJ (by omega) (by omega)]
 split<;>omega
theorem w64:W (0 - 64)=-64:=rfl
theorem lL (x:P3):tH x 64=true↔bd 64 x:=by
 unfold tH bd
 rw [w64]
 constructor
 · intro h
   by_cases h1:F77 x.1<=64<;>by_cases h2:F77 x.2.1<=64<;>by_cases h3:F77 x.2.2<=64<;>simp [h1,h2,h3] at h
   exact⟨aSd h1 h.1,aSd h2 h.2.1,aSd h3 h.2.2⟩
 · intro h
   have h1:=aSe h.1;have h2:=aSe h.2.1;have h3:=aSe h.2.2
   simp [h1,h2,h3,h.1.1,h.2.1.1,h.2.2.1]
theorem aPr {p q:P3} (hp:bd 64 p)(hq:bd 64 q):tA (F42 p q)=ds p q/\0<=ds p q/\ds p q<=49152:=by
 have hs:bd 128 (sb p q):=kU hp hq
 have h1:=cL hs.1 hs.1;have h2:=cL hs.2.1 hs.2.1;have h3:=cL hs.2.2 hs.2.2
 have n1:=gR (sb p q).1;have n2:=gR (sb p q).2.1;have n3:=gR (sb p q).2.2
 have e:F42 p q=sb p q:=by
   unfold F42
   unfold bd at hp hq
   rw [aJ (n:=p.1 - q.1) (by omega) (by omega),aJ (n:=p.2.1 - q.2.1) (by omega) (by omega),aJ (n:=p.2.2 - q.2.2) (by omega) (by omega)];rfl
 have e2:ds p q=(sb p q).1*(sb p q).1+(sb p q).2.1*(sb p q).2.1+(sb p q).2.2*(sb p q).2.2:=rfl
 refine⟨?_,by omega,by omega⟩
 rw [e]
 unfold tA
 rw [aJ (n:=(sb p q).1*(sb p q).1) (by omega) (by omega),aJ (n:=(sb p q).2.1*(sb p q).2.1) (by omega) (by omega),aJ (n:=(sb p q).2.2*(sb p q).2.2) (by omega) (by omega),aRa (by omega) (by omega) (by omega)];rfl
theorem aU2 {p q:P3} (hp:bd 64 p)(hq:bd 64 q):jQ (jB p q)=ds p q:=aRl (hp.mono (by omega)) (hq.mono (by omega))
theorem rt2 {n:Int} (h0:0<=n)(h:n<=288230376151711744):F54 n=lY n/\rO n=gC n/\0<=lY n/\lY n<=gC n/\gC n<=536870913:=by
 have r1:=aSa h0 (by omega)
 have r2:=aPq h0 (by omega)
 have e:=r2.eq r1
 have hl:=r1.le (m:=536870912) (by omega) (by omega)
 have hn:=r1.1
 have hq:=yV (a:=lY n) hn (by omega)
 refine⟨e,?_,hn,?_,?_⟩
 · unfold rO gC;rw [e]
 · unfold gC
   rw [aJ (n:=lY n*lY n) (by omega) (by omega),aJ (n:=lY n+1) (by omega) (by omega),Bool.cond_eq_ite]
   split<;>omega
 · unfold gC
   rw [aJ (n:=lY n*lY n) (by omega) (by omega),aJ (n:=lY n+1) (by omega) (by omega),Bool.cond_eq_ite]
   split<;>omega
theorem gW {n:Int} (h:0<=n/\n<=131072):W (n*1099511627776)=n*1099511627776/\W (W (n*1048576)*1048576)=n*1099511627776:=by
 refine⟨aJ (by omega) (by omega),?_⟩
 rw [aJ (n:=n*1048576) (by omega) (by omega),show n*1048576*1048576=n*1099511627776 by omega,aJ (by omega) (by omega)]
section
variable {a b : ND}
theorem rH (ha:knw a)(hb:knw b)(h2:decide (lY (W ((tA (F42 a.2.2.2.2.1 b.2.2.2.2.1))*1099511627776))<=W ((gC (W (a.2.2.2.2.2*1099511627776)))+(gC (W (b.2.2.2.2.2*1099511627776)))))=false) :
   W ((gC (W ((tA (F42 a.2.2.2.2.1 b.2.2.2.2.1))*1099511627776)))+(W ((gC (W (a.2.2.2.2.2*1099511627776)))+(gC (W (b.2.2.2.2.2*1099511627776))))))≠0 /\
   W ((lY (W ((tA (F42 a.2.2.2.2.1 b.2.2.2.2.1))*1099511627776))) - (W ((gC (W (a.2.2.2.2.2*1099511627776)))+(gC (W (b.2.2.2.2.2*1099511627776))))))≠0:=by
 have h2:=cH h2
 obtain⟨e,d0,d1⟩:=aPr ha.2 hb.2
 rw [e,(gW (n:=ds a.2.2.2.2.1 b.2.2.2.2.1) (by omega)).1,(gW ha.1).1,(gW hb.1).1] at h2 ⊢
 have hD:=rt2 (n:=ds a.2.2.2.2.1 b.2.2.2.2.1*1099511627776) (by omega) (by omega)
 have hA:=rt2 (n:=a.2.2.2.2.2*1099511627776) (by have:=ha.1;omega) (by have:=ha.1;omega)
 have hB:=rt2 (n:=b.2.2.2.2.2*1099511627776) (by have:=hb.1;omega) (by have:=hb.1;omega)
 rw [aJ (n:=gC (a.2.2.2.2.2*1099511627776)+gC (b.2.2.2.2.2*1099511627776)) (by omega) (by omega)] at h2 ⊢
 rw [aJ (by omega) (by omega),aJ (by omega) (by omega)]
 omega
theorem iJ (ha:(!(F27 a.2.2.2.2.2 0 131072))=false)(hb:(!(F27 b.2.2.2.2.2 0 131072))=false)(ha2:(!(tH a.2.2.2.2.1 64))=false)(hb2:(!(tH b.2.2.2.2.1 64))=false)
   (h2:decide (F54 (W ((W ((F52 a b)*1048576))*1048576))<=W ((rO (W ((W (a.2.2.2.2.2*1048576))*1048576)))+(rO (W ((W (b.2.2.2.2.2*1048576))*1048576)))))=false) :
   W ((rO (W ((W ((F52 a b)*1048576))*1048576)))+(W ((rO (W ((W (a.2.2.2.2.2*1048576))*1048576)))+(rO (W ((W (b.2.2.2.2.2*1048576))*1048576))))))≠0 /\
   W ((F54 (W ((W ((F52 a b)*1048576))*1048576))) - (W ((rO (W ((W (a.2.2.2.2.2*1048576))*1048576)))+(rO (W ((W (b.2.2.2.2.2*1048576))*1048576))))))≠0:=by
 have h2:=cH h2
 rw [aSb] at ha hb
 have ha1:0<=a.2.2.2.2.2/\a.2.2.2.2.2<=131072:=by simpa using ha
 have hb1:0<=b.2.2.2.2.2/\b.2.2.2.2.2<=131072:=by simpa using hb
 have hpa:=(lL _).1 (show tH a.2.2.2.2.1 64=true by simpa using ha2)
 have hpb:=(lL _).1 (show tH b.2.2.2.2.1 64=true by simpa using hb2)
 obtain⟨_,d0,d1⟩:=aPr hpa hpb
 have e:F52 a b=ds a.2.2.2.2.1 b.2.2.2.2.1:=aU2 hpa hpb
 have hD:=rt2 (n:=ds a.2.2.2.2.1 b.2.2.2.2.1*1099511627776) (by omega) (by omega)
 have hA:=rt2 (n:=a.2.2.2.2.2*1099511627776) (by omega) (by omega)
 have hB:=rt2 (n:=b.2.2.2.2.2*1099511627776) (by omega) (by omega)
 rw [e,(gW (n:=ds a.2.2.2.2.1 b.2.2.2.2.1) (by omega)).2,(gW ha1).2,(gW hb1).2] at h2 ⊢
 rw [hA.2.1,hB.2.1,hD.1] at h2 ⊢
 rw [hD.2.1]
 rw [aJ (n:=gC (a.2.2.2.2.2*1099511627776)+gC (b.2.2.2.2.2*1099511627776)) (by omega) (by omega)] at h2 ⊢
 rw [aJ (by omega) (by omega),aJ (by omega) (by omega)]
 omega
end
def wF (a0:Int×Int×Int×Int×Zt×Int)(a1:Int×Int×Int×Int×Zt×Int):(Int×Int)×Int :=
 (bif (!(F43 a0)) then
  ((0,0),1)
 else
  (bif (!(F43 a1)) then
   ((0,0),1)
  else
   (bif (decide (((lY (W ((tA (F42 a0.2.2.2.2.1 a1.2.2.2.2.1))*1099511627776))):Int)<=(W ((gC (W (a0.2.2.2.2.2*1099511627776)))+(gC (W (a1.2.2.2.2.2*1099511627776))))))) then
    ((0,0),10)
   else
    (((W (Int.tdiv 1099511627776 (W ((gC (W ((tA (F42 a0.2.2.2.2.1 a1.2.2.2.2.1))*1099511627776)))+(W ((gC (W (a0.2.2.2.2.2*1099511627776)))+(gC (W (a1.2.2.2.2.2*1099511627776))))))))),(W (Int.tdiv (W ((W (1099511627776+(W ((lY (W ((tA (F42 a0.2.2.2.2.1 a1.2.2.2.2.1))*1099511627776))) - (W ((gC (W (a0.2.2.2.2.2*1099511627776)))+(gC (W (a1.2.2.2.2.2*1099511627776))))))))) - 1)) (W ((lY (W ((tA (F42 a0.2.2.2.2.1 a1.2.2.2.2.1))*1099511627776))) - (W ((gC (W (a0.2.2.2.2.2*1099511627776)))+(gC (W (a1.2.2.2.2.2*1099511627776)))))))))),0))))
theorem C24 (a0:Int×Int×Int×Int×Zt×Int)(a1:Int×Int×Int×Int×Zt×Int):Con Tryz.prog 24 [(.a [(iv a0.1),(iv a0.2.1),(iv a0.2.2.1),(iv a0.2.2.2.1),(iv a0.2.2.2.2.1.1),(iv a0.2.2.2.2.1.2.1),(iv a0.2.2.2.2.1.2.2),(iv a0.2.2.2.2.2)]),(.a [(iv a1.1),(iv a1.2.1),(iv a1.2.2.1),(iv a1.2.2.2.1),(iv a1.2.2.2.2.1.1),(iv a1.2.2.2.2.1.2.1),(iv a1.2.2.2.2.1.2.2),(iv a1.2.2.2.2.2)])] [] (.t [(.a (k2 (wF a0 a1).1)),(iv (wF a0 a1).2)]) []:=by
 refine aO Tryz.func24 (by kernel_rfl) fun cx hcx=>?_
 try have hnz:=rH (tD h0) (tD h1) h2
 try have hnz1:=(fun _=>hnz.1) h2
 try have hnz2:=(fun _=>hnz.2) h2
 let t0:List (St Tryz.prog):=[.c [] (C43 a0)]
 cases h0:(!(F43 a0)) with
 | true =>
  try have hnz:=rH (tD h0) (tD h1) h2
  try have hnz1:=(fun _=>hnz.1) h2
  try have hnz2:=(fun _=>hnz.2) h2
  have e:=Eq.refl (wF a0 a1);conv at e=>rhs;simp only [wF,h0,aS]
  rw [e]
  exact rt (t0++[.d h0]) [] [] hcx (by kernel_rfl)
 | false =>
  try have hnz:=rH (tD h0) (tD h1) h2
  try have hnz1:=(fun _=>hnz.1) h2
  try have hnz2:=(fun _=>hnz.2) h2
  let t1:List (St Tryz.prog):=(t0++[.d h0,.c [] (C43 a1)])
  cases h1:(!(F43 a1)) with
  | true =>
   try have hnz:=rH (tD h0) (tD h1) h2
   try have hnz1:=(fun _=>hnz.1) h2
   try have hnz2:=(fun _=>hnz.2) h2
   have e:=Eq.refl (wF a0 a1);conv at e=>rhs;simp only [wF,h0,h1,aS]
   rw [e]
   exact rt (t1++[.d h1]) [] [] hcx (by kernel_rfl)
  | false =>
   try have hnz:=rH (tD h0) (tD h1) h2
   try have hnz1:=(fun _=>hnz.1) h2
   try have hnz2:=(fun _=>hnz.2) h2
   let t2:List (St Tryz.prog):=(t1++[.d h1,.c [] (C42 a0.2.2.2.2.1 a1.2.2.2.2.1),.c [] (C41 (F42 a0.2.2.2.2.1 a1.2.2.2.2.1)),.c [] (C44 (W (a0.2.2.2.2.2*1099511627776))),.c [] (C44 (W (a1.2.2.2.2.2*1099511627776))),.c [] (C45 (W ((tA (F42 a0.2.2.2.2.1 a1.2.2.2.2.1))*1099511627776)))])
   cases h2:(decide (((lY (W ((tA (F42 a0.2.2.2.2.1 a1.2.2.2.2.1))*1099511627776))):Int)<=(W ((gC (W (a0.2.2.2.2.2*1099511627776)))+(gC (W (a1.2.2.2.2.2*1099511627776))))))) with
   | true =>
    have q2:=cA h2
    try have hnz:=rH (tD h0) (tD h1) h2
    try have hnz1:=(fun _=>hnz.1) h2
    try have hnz2:=(fun _=>hnz.2) h2
    have e:=Eq.refl (wF a0 a1);conv at e=>rhs;simp only [wF,h0,h1,h2,aS]
    rw [e]
    exact rt (t2++[.d h2]) [] [] hcx (by kernel_rfl)
   | false =>
    have q2:=cH h2
    try have hnz:=rH (tD h0) (tD h1) h2
    try have hnz1:=(fun _=>hnz.1) h2
    try have hnz2:=(fun _=>hnz.2) h2
    have e:=Eq.refl (wF a0 a1);conv at e=>rhs;simp only [wF,h0,h1,h2,aS]
    rw [e]
    exact rt (t2++[.d h2,.c [] (C45 (W ((tA (F42 a0.2.2.2.2.1 a1.2.2.2.2.1))*1099511627776))),.c [] (C44 (W ((tA (F42 a0.2.2.2.2.1 a1.2.2.2.2.1))*1099511627776))),.p (show((W ((gC (W ((tA (F42 a0.2.2.2.2.1 a1.2.2.2.2.1))*1099511627776)))+(W ((gC (W (a0.2.2.2.2.2*1099511627776)))+(gC (W (a1.2.2.2.2.2*1099511627776))))))):Int)≠0 from by first | omega | (rw [aJ]<;>omega) | exact fG _),.p (show((W ((lY (W ((tA (F42 a0.2.2.2.2.1 a1.2.2.2.2.1))*1099511627776))) - (W ((gC (W (a0.2.2.2.2.2*1099511627776)))+(gC (W (a1.2.2.2.2.2*1099511627776))))))):Int)≠0 from by first | omega | (rw [aJ]<;>omega) | exact fG _)]) [] [] hcx (by kernel_rfl)
def F28 (a0:Int×Int×Int×Int×Zt×Int)(a1:Int×Int×Int×Int×Zt×Int):(Int×Int)×Int :=
 (bif (!(F27 a0.2.2.2.2.2 0 131072)) then
  ((0,0),1)
 else
  (bif (!(F27 a1.2.2.2.2.2 0 131072)) then
   ((0,0),1)
  else
   (bif (!(tH a0.2.2.2.2.1 64)) then
    ((0,0),1)
   else
    (bif (!(tH a1.2.2.2.2.1 64)) then
     ((0,0),1)
    else
     (bif (decide (((F54 (W ((W ((F52 a0 a1)*1048576))*1048576))):Int)<=(W ((rO (W ((W (a0.2.2.2.2.2*1048576))*1048576)))+(rO (W ((W (a1.2.2.2.2.2*1048576))*1048576))))))) then
      ((0,0),10)
     else
      (((W (Int.tdiv 1099511627776 (W ((rO (W ((W ((F52 a0 a1)*1048576))*1048576)))+(W ((rO (W ((W (a0.2.2.2.2.2*1048576))*1048576)))+(rO (W ((W (a1.2.2.2.2.2*1048576))*1048576))))))))),(W (Int.tdiv (W ((W ((W (1099511627776+(F54 (W ((W ((F52 a0 a1)*1048576))*1048576))))) - (W ((rO (W ((W (a0.2.2.2.2.2*1048576))*1048576)))+(rO (W ((W (a1.2.2.2.2.2*1048576))*1048576))))))) - 1)) (W ((F54 (W ((W ((F52 a0 a1)*1048576))*1048576))) - (W ((rO (W ((W (a0.2.2.2.2.2*1048576))*1048576)))+(rO (W ((W (a1.2.2.2.2.2*1048576))*1048576)))))))))),0))))))
theorem C28 (a0:Int×Int×Int×Int×Zt×Int)(a1:Int×Int×Int×Int×Zt×Int):Con Tryz.prog 28 [(.a [(iv a0.1),(iv a0.2.1),(iv a0.2.2.1),(iv a0.2.2.2.1),(iv a0.2.2.2.2.1.1),(iv a0.2.2.2.2.1.2.1),(iv a0.2.2.2.2.1.2.2),(iv a0.2.2.2.2.2)]),(.a [(iv a1.1),(iv a1.2.1),(iv a1.2.2.1),(iv a1.2.2.2.1),(iv a1.2.2.2.2.1.1),(iv a1.2.2.2.2.1.2.1),(iv a1.2.2.2.2.1.2.2),(iv a1.2.2.2.2.2)])] [] (.t [(.a (k2 (F28 a0 a1).1)),(iv (F28 a0 a1).2)]) []:=by
 refine aO Tryz.func28 (by kernel_rfl) fun cx hcx=>?_
 try have hnz:=iJ h0 h1 h2 h3 h4
 try have hnz1:=(fun _=>hnz.1) h4
 try have hnz2:=(fun _=>hnz.2) h4
 let t0:List (St Tryz.prog):=[.c [] (C27 a0.2.2.2.2.2 0 131072)]
 cases h0:(!(F27 a0.2.2.2.2.2 0 131072)) with
 | true =>
  try have hnz:=iJ h0 h1 h2 h3 h4
  try have hnz1:=(fun _=>hnz.1) h4
  try have hnz2:=(fun _=>hnz.2) h4
  have e:=Eq.refl (F28 a0 a1);conv at e=>rhs;simp only [F28,h0,aS]
  rw [e]
  exact rt (t0++[.d h0]) [] [] hcx (by kernel_rfl)
 | false =>
  try have hnz:=iJ h0 h1 h2 h3 h4
  try have hnz1:=(fun _=>hnz.1) h4
  try have hnz2:=(fun _=>hnz.2) h4
  let t1:List (St Tryz.prog):=(t0++[.d h0,.c [] (C27 a1.2.2.2.2.2 0 131072)])
  cases h1:(!(F27 a1.2.2.2.2.2 0 131072)) with
  | true =>
   try have hnz:=iJ h0 h1 h2 h3 h4
   try have hnz1:=(fun _=>hnz.1) h4
   try have hnz2:=(fun _=>hnz.2) h4
   have e:=Eq.refl (F28 a0 a1);conv at e=>rhs;simp only [F28,h0,h1,aS]
   rw [e]
   exact rt (t1++[.d h1]) [] [] hcx (by kernel_rfl)
  | false =>
   try have hnz:=iJ h0 h1 h2 h3 h4
   try have hnz1:=(fun _=>hnz.1) h4
   try have hnz2:=(fun _=>hnz.2) h4
   let t2:List (St Tryz.prog):=(t1++[.d h1,.c [] (C51 a0.2.2.2.2.1 64)])
   cases h2:(!(tH a0.2.2.2.2.1 64)) with
   | true =>
    try have hnz:=iJ h0 h1 h2 h3 h4
    try have hnz1:=(fun _=>hnz.1) h4
    try have hnz2:=(fun _=>hnz.2) h4
    have e:=Eq.refl (F28 a0 a1);conv at e=>rhs;simp only [F28,h0,h1,h2,aS]
    rw [e]
    exact rt (t2++[.d h2]) [] [] hcx (by kernel_rfl)
   | false =>
    try have hnz:=iJ h0 h1 h2 h3 h4
    try have hnz1:=(fun _=>hnz.1) h4
    try have hnz2:=(fun _=>hnz.2) h4
    let t3:List (St Tryz.prog):=(t2++[.d h2,.c [] (C51 a1.2.2.2.2.1 64)])
    cases h3:(!(tH a1.2.2.2.2.1 64)) with
    | true =>
     try have hnz:=iJ h0 h1 h2 h3 h4
     try have hnz1:=(fun _=>hnz.1) h4
     try have hnz2:=(fun _=>hnz.2) h4
     have e:=Eq.refl (F28 a0 a1);conv at e=>rhs;simp only [F28,h0,h1,h2,h3,aS]
     rw [e]
     exact rt (t3++[.d h3]) [] [] hcx (by kernel_rfl)
    | false =>
     try have hnz:=iJ h0 h1 h2 h3 h4
     try have hnz1:=(fun _=>hnz.1) h4
     try have hnz2:=(fun _=>hnz.2) h4
     let t4:List (St Tryz.prog):=(t3++[.d h3,.c [] (C52 a0 a1),.c [] (C53 (W ((W (a0.2.2.2.2.2*1048576))*1048576))),.c [] (C53 (W ((W (a1.2.2.2.2.2*1048576))*1048576))),.c [] (C54 (W ((W ((F52 a0 a1)*1048576))*1048576))),.c [] (C53 (W ((W ((F52 a0 a1)*1048576))*1048576)))])
     cases h4:(decide (((F54 (W ((W ((F52 a0 a1)*1048576))*1048576))):Int)<=(W ((rO (W ((W (a0.2.2.2.2.2*1048576))*1048576)))+(rO (W ((W (a1.2.2.2.2.2*1048576))*1048576))))))) with
     | true =>
      have q4:=cA h4
      try have hnz:=iJ h0 h1 h2 h3 h4
      try have hnz1:=(fun _=>hnz.1) h4
      try have hnz2:=(fun _=>hnz.2) h4
      have e:=Eq.refl (F28 a0 a1);conv at e=>rhs;simp only [F28,h0,h1,h2,h3,h4,aS]
      rw [e]
      exact rt (t4++[.d h4]) [] [] hcx (by kernel_rfl)
     | false =>
      have q4:=cH h4
      try have hnz:=iJ h0 h1 h2 h3 h4
      try have hnz1:=(fun _=>hnz.1) h4
      try have hnz2:=(fun _=>hnz.2) h4
      have e:=Eq.refl (F28 a0 a1);conv at e=>rhs;simp only [F28,h0,h1,h2,h3,h4,aS]
      rw [e]
      exact rt (t4++[.d h4,.p (show((W ((rO (W ((W ((F52 a0 a1)*1048576))*1048576)))+(W ((rO (W ((W (a0.2.2.2.2.2*1048576))*1048576)))+(rO (W ((W (a1.2.2.2.2.2*1048576))*1048576))))))):Int)≠0 from by first | omega | (rw [aJ]<;>omega) | exact fG _),.p (show((W ((F54 (W ((W ((F52 a0 a1)*1048576))*1048576))) - (W ((rO (W ((W (a0.2.2.2.2.2*1048576))*1048576)))+(rO (W ((W (a1.2.2.2.2.2*1048576))*1048576))))))):Int)≠0 from by first | omega | (rw [aJ]<;>omega) | exact fG _)]) [] [] hcx (by kernel_rfl)
open Classical in
theorem aU3 (x:P3):tH x 64=decide (bd 64 x):=by
 by_cases h:bd 64 x
 · rw [(lL x).2 h];simp [h]
 · rw [Bool.eq_false_iff.2 (fun e=>h ((lL x).1 e))];simp [h]
noncomputable def fsV (a b:ND):(Int×Int)×Int :=
 open Classical in if knw a/\knw b then
   (let R:=gC (a.2.2.2.2.2*1099511627776)+gC (b.2.2.2.2.2*1099511627776)
    let D:=ds a.2.2.2.2.1 b.2.2.2.2.1*1099511627776
    if lY D<=R then((0,0),10) else((W (Int.tdiv 1099511627776 (gC D+R)),W (Int.tdiv (1099511627776+lY D - R - 1) (lY D - R))),0)) else((0,0),1)
open Classical in
theorem aWf (a b:ND):wF a b=fsV a b:=by
 unfold wF fsV
 rw [aSc,aSc]
 by_cases ha:knw a
 · by_cases hb:knw b
   · obtain⟨e,d0,d1⟩:=aPr ha.2 hb.2
     have hD:=rt2 (n:=ds a.2.2.2.2.1 b.2.2.2.2.1*1099511627776) (by omega) (by omega)
     have hA:=rt2 (n:=a.2.2.2.2.2*1099511627776) (by have:=ha.1;omega) (by have:=ha.1;omega)
     have hB:=rt2 (n:=b.2.2.2.2.2*1099511627776) (by have:=hb.1;omega) (by have:=hb.1;omega)
     rw [e,(gW (n:=ds a.2.2.2.2.1 b.2.2.2.2.1) (by omega)).1,(gW ha.1).1,(gW hb.1).1,if_pos ⟨ha,hb⟩]
     rw [aJ (n:=gC (a.2.2.2.2.2*1099511627776)+gC (b.2.2.2.2.2*1099511627776)) (by omega) (by omega)]
     simp only [cN ha,cN hb,Bool.not_true,cond_false]
     by_cases hc:lY (ds a.2.2.2.2.1 b.2.2.2.2.1*1099511627776)<=gC (a.2.2.2.2.2*1099511627776)+gC (b.2.2.2.2.2*1099511627776)
     · rw [cN hc,cond_true,if_pos hc]
     · rw [dQ hc,cond_false,if_neg hc]
       rw [aJ (n:=gC (ds a.2.2.2.2.1 b.2.2.2.2.1*1099511627776)+(gC (a.2.2.2.2.2*1099511627776)+gC (b.2.2.2.2.2*1099511627776))) (by omega) (by omega),
         aJ (n:=lY (ds a.2.2.2.2.1 b.2.2.2.2.1*1099511627776) - (gC (a.2.2.2.2.2*1099511627776)+gC (b.2.2.2.2.2*1099511627776))) (by omega) (by omega),
         aJ (n:=1099511627776+(lY (ds a.2.2.2.2.1 b.2.2.2.2.1*1099511627776) - (gC (a.2.2.2.2.2*1099511627776)+gC (b.2.2.2.2.2*1099511627776)))) (by omega) (by omega),
         aJ (n:=1099511627776+(lY (ds a.2.2.2.2.1 b.2.2.2.2.1*1099511627776) - (gC (a.2.2.2.2.2*1099511627776)+gC (b.2.2.2.2.2*1099511627776))) - 1) (by omega) (by omega)]
       rw [show(1099511627776+(lY (ds a.2.2.2.2.1 b.2.2.2.2.1*1099511627776) - (gC (a.2.2.2.2.2*1099511627776)+gC (b.2.2.2.2.2*1099511627776))) - 1)=1099511627776+lY (ds a.2.2.2.2.1 b.2.2.2.2.1*1099511627776) - (gC (a.2.2.2.2.2*1099511627776)+gC (b.2.2.2.2.2*1099511627776)) - 1 by omega]
   · rw [if_neg (fun h=>hb h.2)];simp [ha,hb]
 · rw [if_neg (fun h=>ha h.1)];simp [ha]
open Classical in
theorem aWg (a b:ND):F28 a b=fsV a b:=by
 unfold F28 fsV
 rw [aSb,aSb,aU3,aU3]
 by_cases ha:knw a
 · by_cases hb:knw b
   · obtain⟨_,d0,d1⟩:=aPr ha.2 hb.2
     have e:F52 a b=ds a.2.2.2.2.1 b.2.2.2.2.1:=aU2 ha.2 hb.2
     have hD:=rt2 (n:=ds a.2.2.2.2.1 b.2.2.2.2.1*1099511627776) (by omega) (by omega)
     have hA:=rt2 (n:=a.2.2.2.2.2*1099511627776) (by have:=ha.1;omega) (by have:=ha.1;omega)
     have hB:=rt2 (n:=b.2.2.2.2.2*1099511627776) (by have:=hb.1;omega) (by have:=hb.1;omega)
     rw [e,(gW (n:=ds a.2.2.2.2.1 b.2.2.2.2.1) (by omega)).2,(gW ha.1).2,(gW hb.1).2,if_pos ⟨ha,hb⟩,hA.2.1,hB.2.1,hD.1,hD.2.1]
     rw [aJ (n:=gC (a.2.2.2.2.2*1099511627776)+gC (b.2.2.2.2.2*1099511627776)) (by omega) (by omega)]
     simp only [cN ha.1,cN hb.1,cN ha.2,cN hb.2,Bool.not_true,cond_false]
     by_cases hc:lY (ds a.2.2.2.2.1 b.2.2.2.2.1*1099511627776)<=gC (a.2.2.2.2.2*1099511627776)+gC (b.2.2.2.2.2*1099511627776)
     · rw [cN hc,cond_true,if_pos hc]
     · rw [dQ hc,cond_false,if_neg hc]
       rw [aJ (n:=gC (ds a.2.2.2.2.1 b.2.2.2.2.1*1099511627776)+(gC (a.2.2.2.2.2*1099511627776)+gC (b.2.2.2.2.2*1099511627776))) (by omega) (by omega),
         aJ (n:=lY (ds a.2.2.2.2.1 b.2.2.2.2.1*1099511627776) - (gC (a.2.2.2.2.2*1099511627776)+gC (b.2.2.2.2.2*1099511627776))) (by omega) (by omega),
         aJ (n:=1099511627776+lY (ds a.2.2.2.2.1 b.2.2.2.2.1*1099511627776)) (by omega) (by omega),
         aJ (n:=1099511627776+lY (ds a.2.2.2.2.1 b.2.2.2.2.1*1099511627776) - (gC (a.2.2.2.2.2*1099511627776)+gC (b.2.2.2.2.2*1099511627776))) (by omega) (by omega),
         aJ (n:=1099511627776+lY (ds a.2.2.2.2.1 b.2.2.2.2.1*1099511627776) - (gC (a.2.2.2.2.2*1099511627776)+gC (b.2.2.2.2.2*1099511627776)) - 1) (by omega) (by omega)]
   · rw [if_neg (fun h=>hb h.2)]
     unfold knw at ha hb
     by_cases hb1:0<=b.2.2.2.2.2/\b.2.2.2.2.2<=131072
     · have hb2:¬bd 64 b.2.2.2.2.1:=fun h=>hb ⟨hb1,h⟩
       simp [ha.1,ha.2,hb1,hb2]
     · simp [ha.1,hb1]
 · rw [if_neg (fun h=>ha h.1)]
   unfold knw at ha
   by_cases ha1:0<=a.2.2.2.2.2/\a.2.2.2.2.2<=131072
   · have ha2:¬bd 64 a.2.2.2.2.1:=fun h=>ha ⟨ha1,h⟩
     by_cases hb1:0<=b.2.2.2.2.2/\b.2.2.2.2.2<=131072<;>simp [ha1,ha2,hb1]
   · simp [ha1]
theorem aNp {f c u:Int} (h:f<=c/\c<=u):rg f c++rg c u=rg f u:=by
 obtain⟨d,hd⟩:∃d:Nat,toNat (c - f)=d:=⟨_,rfl⟩
 induction d generalizing f with
 | zero=>rw [show c=f by omega,aR9 (Int.le_refl f)];rfl
 | succ d ih=>rw [aJg (f:=f) (u:=c) (by omega),List.cons_append,ih ⟨by omega,h.2⟩ (by omega),←aJg (f:=f) (u:=u) (by omega)]
theorem aPs {n i f c u:Int} (h:f<=c/\c<=u):row n i f c++row n i c u=row n i f u:=by
 unfold row
 rw [←List.map_append,aNp h]
theorem aPt {α β:Type} (l:List α)(f g:α->List β):(l.flatMap f++l.flatMap g).Perm (l.flatMap fun x=>f x++g x):=by
 induction l with
 | nil=>exact List.Perm.refl _
 | cons x l ih =>
   rw [List.flatMap_cons,List.flatMap_cons,List.flatMap_cons]
   refine List.Perm.trans ?_ (List.Perm.append_left (f x++g x) ih)
   rw [List.append_assoc,List.append_assoc]
   refine List.Perm.append_left (f x) ?_
   rw [←List.append_assoc,←List.append_assoc]
   exact List.Perm.append_right _ List.perm_append_comm
def cel (n f u f' u':Int):List Int:=(rg f u).flatMap fun a=>row n a f' u'
theorem aPu {n f c u f' u':Int} (h:f<=c/\c<=u):cel n f c f' u'++cel n c u f' u'=cel n f u f' u':=by
 unfold cel
 rw [←List.flatMap_append,aNp h]
theorem aNq {n f u f' c u':Int} (h:f'<=c/\c<=u'):(cel n f u f' c++cel n f u c u').Perm (cel n f u f' u'):=by
 unfold cel
 refine(aPt _ _ _).trans ?_
 rw [aAb (rg f u) (fun a _=>aPs h)]
theorem tE (w:Int):∀(nr:Nat) (t:TR) (i k sep:Int) (m:Nat) (f u h:Int) (m':Nat) (f' u' h':Int),TRE t.2 (toNat i) m f u h->TRE t.2 (toNat k) m' f' u' h'->0<=i->0<=k->(t.2.length - toNat i)+(t.2.length - toNat k) < nr ->
   ((bO nr t i k sep).flatMap (aHl w t.2)).Perm (cel w f u f' u')/\∀x∈bO nr t i k sep,(0<=x.1/\x.1 < t.2.length)/\(0<=x.2.1/\x.2.1 < t.2.length)
 | 0,_,_,_,_,_,_,_,_,_,_,_,_,_,_,_,_,h=>absurd h (eP _)
 | nr+1,t,i,k,sep,m,f,u,h,m',f',u',h',H,K,hi,hk,hn=>by
   have hb:=bQ H
   have kb:=bQ K
   have hs:∀b:Bool,(([(i,k,b)]:List BLK).flatMap (aHl w t.2)).Perm (cel w f u f' u')/\∀x∈([(i,k,b)]:List BLK),(0<=x.1/\x.1 < t.2.length)/\(0<=x.2.1/\x.2.1 < t.2.length):=by
     intro b
     refine⟨?_,fun x hx=>?_⟩
     · rw [List.flatMap_cons,List.flatMap_nil,List.append_nil]
       unfold aHl cel
       simp only
       rw [hb.2.2.2.2.2.1,hb.2.2.2.2.2.2,kb.2.2.2.2.2.1,kb.2.2.2.2.2.2]
     · obtain rfl:=List.mem_singleton.1 hx
       exact⟨⟨hi,by simp only;omega⟩,hk,by simp only;omega⟩
   have hA:¬(t.2.getD (toNat i) default).2.2.1 < 0->((eA (bO nr) t i k sep++dF (bO nr) t i k sep).flatMap (aHl w t.2)).Perm (cel w f u f' u')/\∀x∈eA (bO nr) t i k sep++dF (bO nr) t i k sep,(0<=x.1/\x.1 < t.2.length)/\(0<=x.2.1/\x.2.1 < t.2.length):=by
     intro hq
     rcases fM H with⟨_,_,h5,_⟩ | ⟨m1,m2,c,h1,h2,e8,g4,g5,b1,b2,e9⟩
     · omega
     · have l1:=bQ b1
       have l2:=bQ b2
       have c1:=tE w nr t (t.2.getD (toNat i) default).2.2.1 k sep m1 f c h1 m' f' u' h' (by rw [g4,jM];exact b1) K (by omega) hk (by omega)
       have c2:=tE w nr t (t.2.getD (toNat i) default).2.2.2.1 k sep m2 c u h2 m' f' u' h' (by rw [g5,jM];exact b2) K (by omega) hk (by omega)
       refine⟨?_,fun x hx=>?_⟩
       · rw [List.flatMap_append,←aPu (c:=c) (by omega)]
         exact c1.1.append c2.1
       · rcases List.mem_append.1 hx with hx | hx
         · exact c1.2 x hx
         · exact c2.2 x hx
   have hB:¬(t.2.getD (toNat k) default).2.2.1 < 0->((cR (bO nr) t i k sep++cF (bO nr) t i k sep).flatMap (aHl w t.2)).Perm (cel w f u f' u')/\∀x∈cR (bO nr) t i k sep++cF (bO nr) t i k sep,(0<=x.1/\x.1 < t.2.length)/\(0<=x.2.1/\x.2.1 < t.2.length):=by
     intro hq
     rcases fM K with⟨_,_,h5,_⟩ | ⟨m1,m2,c,h1,h2,e8,g4,g5,b1,b2,e9⟩
     · omega
     · have l1:=bQ b1
       have l2:=bQ b2
       have c1:=tE w nr t i (t.2.getD (toNat k) default).2.2.1 sep m f u h m1 f' c h1 H (by rw [g4,jM];exact b1) hi (by omega) (by omega)
       have c2:=tE w nr t i (t.2.getD (toNat k) default).2.2.2.1 sep m f u h m2 c u' h2 H (by rw [g5,jM];exact b2) hi (by omega) (by omega)
       refine⟨?_,fun x hx=>?_⟩
       · rw [List.flatMap_append]
         exact(c1.1.append c2.1).trans (aNq (by omega))
       · rcases List.mem_append.1 hx with hx | hx
         · exact c1.2 x hx
         · exact c2.2 x hx
   have hJ:((dH (bO nr) t i k sep ()).flatMap (aHl w t.2)).Perm (cel w f u f' u')/\∀x∈dH (bO nr) t i k sep (),(0<=x.1/\x.1 < t.2.length)/\(0<=x.2.1/\x.2.1 < t.2.length):=by
     simp only [dH]
     by_cases z5:(t.2.getD (toNat i) default).2.2.1 < 0<;>by_cases z6:(t.2.getD (toNat k) default).2.2.1 < 0
     · rw [cN z5,cN z6,cond_true,cond_true];exact hs false
     · rw [cN z5,dQ z6,cond_true,cond_false,dQ (show ¬(t.2.getD (toNat i) default).2.2.1≥0 by omega),cond_false];exact hB z6
     · rw [dQ z5,cN z6,cond_false,cond_true];exact hA z5
     · rw [dQ z5,dQ z6,cond_false,cond_false,cN (show(t.2.getD (toNat i) default).2.2.1≥0 by omega),cond_true,Bool.cond_eq_ite]
       split
       · exact hA z5
       · exact hB z6
   simp only [bO]
   rw [Bool.cond_eq_ite]
   split
   · rw [Bool.cond_eq_ite]
     split
     · exact hs true
     · exact hJ
   · exact hJ
theorem aJl {l:eW} {t:TR} (sep:Int)(h:gJ l t=0):((F50 t sep).flatMap (aHl l.length t.2)).Perm (cel l.length 0 l.length 0 l.length)/\(∀x∈F50 t sep,(0<=x.1/\x.1 < t.2.length)/\(0<=x.2.1/\x.2.1 < t.2.length))/\(F50 t sep).length<=9216:=by
 obtain⟨hv,leaf,h1,_,rfl⟩:=aAa h
 have hl:=hv.1
 rcases aHc l h1 with⟨e0,e⟩ | ⟨hh,H⟩
 · rw [e,e0]
   exact⟨List.Perm.refl _,⟨fun x hx=>(by cases hx),Nat.zero_le _⟩⟩
 · have hw:=bQ H
   unfold F50
   rw [show((((BT l leaf).2.length:Nat):Int) == 0)=false by rw [beq_eq_false_iff_ne];omega,cond_false]
   simp only [F76]
   have qa:=tE l.length _ (BT l leaf) 0 0 sep _ _ _ _ _ _ _ _ H H (Int.le_refl _) (Int.le_refl _) (lss _)
   have qb:=jZ _ (BT l leaf) 0 0 sep _ _ _ _ _ _ _ _ H H (Int.le_refl _) (Int.le_refl _) (lss _)
   refine⟨qa.1,qa.2,?_⟩
   have hm:((l.length:Int) - 0)*((l.length:Int) - 0)<=96*96:=Int.mul_le_mul (by omega) (by omega) (by omega) (by omega)
   exact Int.ofNat_le.1 (Int.le_trans qb hm)
end Go.Proofs.YtmihafgemmgepaaGreat
namespace Go.Proofs.YtmihafgemmgepaaGreat
open Go.Proofs Go.Aw Go.RowKit
set_option maxRecDepth 100000
def qC (a0:List (Int)):List (Int) :=
 (([]:List (Int))++a0)
theorem aU4 (a0:List (Int))(l0:a0.length<=9223372036854775807)(hne:a0.length≠0)(h40:a0.length<=1048576):Con Tryz.prog 38 [(.s 0 0 a0.length 1)] [(.live false true (flat c3 a0))] (.s 1 0 (qC a0).length 1) [(.live true true (flat c3 (qC a0)))]:=by
 refine aO Tryz.func38 (by kernel_rfl) fun cx hcx=>?_
 have e:=Eq.refl (qC a0);conv at e=>rhs;simp only [qC]
 rw [e]
 rw [show flat c3 (([]:List (Int))++a0)=(([]:List SV)++(flat c3 a0)) from Eq.symm (by simp [flat])]
 rw [show(([]:List (Int))++a0).length=(0+a0.length) from by simp]
 exact rt [.p (show(a0.length:Nat)≠0 from by first | omega | (rw [aJ]<;>omega) | exact fG _),.F,.p (show(([]:List SV).length=0*1/\(flat c3 a0).length=a0.length*1/\(flat c3 a0).all SV.one=true/\0+a0.length<=2 ^ 40/\(0+a0.length)*8<=2 ^ 47) from by refine⟨?_,?_,?_,?_,?_⟩<;>first | omega | exact eX (fun _=>rfl) | (simp [bI aM];done) | (simp [bI aM];omega))] [] [2] hcx (by kernel_rfl)
def aJm:List (Int) :=
 ([]:List (Int))
theorem aU5:Con Tryz.prog 38 [(.v (.slice none 0 0))] [] (.s 0 0 aJm.length 1) [(.live true true (flat c3 aJm))]:=by
 refine aO Tryz.func38 (by kernel_rfl) fun cx hcx=>?_
 have e:=Eq.refl aJm;conv at e=>rhs;simp only [aJm]
 rw [e]
 exact rt [.T] [.slot 2 1] [0] hcx (by kernel_rfl)
def qD (a0:bE):bE :=
 (([]:bE)++a0)
theorem aU6 (a0:bE)(l0:a0.length<=9223372036854775807)(hne:a0.length≠0)(h40:a0.length<=1048576):Con Tryz.prog 39 [(.s 0 0 a0.length 8)] [(.live false true (flat bT a0))] (.s 1 0 (qD a0).length 8) [(.live true true (flat bT (qD a0)))]:=by
 refine aO Tryz.func39 (by kernel_rfl) fun cx hcx=>?_
 have e:=Eq.refl (qD a0);conv at e=>rhs;simp only [qD]
 rw [e]
 rw [show flat bT (([]:bE)++a0)=(([]:List SV)++(flat bT a0)) from Eq.symm (by simp [flat])]
 rw [show(([]:bE)++a0).length=(0+a0.length) from by simp]
 exact rt [.p (show(a0.length:Nat)≠0 from by first | omega | (rw [aJ]<;>omega) | exact fG _),.F,.p (show(([]:List SV).length=0*8/\(flat bT a0).length=a0.length*8/\(flat bT a0).all SV.one=true/\0+a0.length<=2 ^ 40/\(0+a0.length)*64<=2 ^ 47) from by refine⟨?_,?_,?_,?_,?_⟩<;>first | omega | exact eX (fun _=>rfl) | (simp [bI bJ];done) | (simp [bI bJ];omega))] [] [2] hcx (by kernel_rfl)
def aJn:bE :=
 ([]:bE)
theorem aU7:Con Tryz.prog 39 [(.v (.slice none 0 0))] [] (.s 0 0 aJn.length 8) [(.live true true (flat bT aJn))]:=by
 refine aO Tryz.func39 (by kernel_rfl) fun cx hcx=>?_
 have e:=Eq.refl aJn;conv at e=>rhs;simp only [aJn]
 rw [e]
 exact rt [.T] [.slot 2 8] [0] hcx (by kernel_rfl)
abbrev ND5:=Int×Int×Int×Int×Zt×Int
theorem aQc (a:Addr)(c:Nat):Con Tryz.prog 38 [.v (.slice (some a) 0 c)] [] (.s 0 0 0 1) [.live true true []]:=by
 refine aLj (n:=9) Tryz.func38 rfl (ent Tryz.func38 (by kernel_rfl) rfl) (by show 1<=Tryz.f38.ntmps;decide) (by kernel_rfl) trivial (fun cx hcx=>?_)
 exact aB1 (T:=T0) hT hm (f:=5000) (orc:=[.d false]) [.sym 0 true] [] [0] hcx
   (obs:=[.eq false false]) (by kernel_rfl) ⟨rfl,trivial⟩
theorem aPv (l:List Int)(l0:l.length<=9223372036854775807)(h:l.length<=1048576):Con Tryz.prog 38 [.s 0 0 l.length 1] [.live false true (flat c3 l)] (.s 1 0 (qC l).length 1) [.live true true (flat c3 (qC l))]:=by
 by_cases hne:l.length≠0
 · exact aU4 l l0 hne h
 have hl:l=[]:=List.eq_nil_of_length_eq_zero (by omega)
 subst hl
 refine⟨(aQc ⟨0,0,none⟩ 0).1,fun ρ W vs hr hb hpl hap hfz=>?_⟩
 cases vs with
 | nil=>simp [Rels] at hr
 | cons v vs =>
 cases vs with
 | cons _ _=>simp [Rels] at hr
 | nil =>
 have hv:v=.slice none 0 0\/∃a c,v=.slice (some a) 0 c:=by
   have:=hr.1
   simp only [Rel] at this
   rcases this with⟨_,_,h⟩ | ⟨b,o,n,cap,off',sp,_,h,_⟩
   · exact .inl h
   · exact .inr ⟨_,_,h⟩
 have key:∀a0:SV,Con Tryz.prog 38 [a0] [] (.s 0 0 0 1) [.live true true []]->Rel ρ.bare a0 v ->
     Calls Tryz.prog 38 [v].toArray W (RR (bB ρ W [.live false true (flat c3 [])]) (.s 1 0 (qC []).length 1) [.live true true (flat c3 (qC []))] []):=by
   intro a0 hc hrel
   refine(hc.2 ρ.bare W [v] ⟨hrel,trivial⟩ (fun i=>by simp [BRep]) (fun i=>by simp [BK.pl]) (fun i j b n b' n' _ h=>by simp [BK.own] at h) (fun b o ho=>⟨(hfz b o ho).1,fun i n h=>by simp [BK.own] at h⟩)).mono fun e W' hh=>?_
   obtain⟨ρ',u,he,_,hu,hk,hB,hP,hA,hL,hF⟩:=hh
   refine⟨⟨fun j=>if j=0 then ρ 0 else if j=1 then ρ' 0 else none,ρ'.fz⟩,u,he,fun i hi=>?_,?_,?_,fun j=>?_,fun j=>?_,fun i j b n b' n' hij hi hj=>?_,fun b o ho=>hL b o ho,fun b o ho=>?_⟩
   · have:i=0:=by simp only [bB,List.length_cons,List.length_nil] at hi;omega
     subst this;rfl
   · show Rel _ (.s 1 0 0 1) u
     simp only [Rel] at hu ⊢
     exact hu
   · exact⟨hk.os,hk.tape,hk.output,hk.size,fun k hk' _=>hk.block k hk' (by rintro ⟨i,n,hi,_⟩;simp [BK.own] at hi),hk.drawn⟩
   · rcases j with _ | _ | j
     · simp [bX,bB,BRep]
     · have h0:=hB 0
       rcases h0 with h0 | ⟨b,vs,rest,ty,g1,g2,g3,g4⟩
       · exact .inl ⟨h0.1,rfl⟩
       · refine .inr ⟨b,vs,rest,ty,g1,?_,?_,g4⟩
         · rcases g2 with g2 | ⟨i,n,hi,_⟩
           · exact .inl g2
           · simp [BK.own] at hi
         · have:vs=[]:=by
             cases vs with
             | nil=>rfl
             | cons _ _=>simp [Rels] at g3
           subst this;trivial
     · simp [bX,bB,BRep]
   · rcases j with _ | _ | j
     · simp [bX,bB,BK.pl]
     · exact fun k hk=>by simp [flat,qC,SV.hasl,bX,bB] at hk
     · simp [bX,bB,BK.pl]
   · have hi1:i=1:=by
       rcases i with _ | _ | i
       · simp [bX,bB,BK.own] at hi
       · rfl
       · simp [bX,bB,BK.own] at hi
     have hj1:j=1:=by
       rcases j with _ | _ | j
       · simp [bX,bB,BK.own] at hj
       · rfl
       · simp [bX,bB,BK.own] at hj
     omega
   · obtain⟨f1,f2,f3⟩:=hF b o ho
     refine⟨f1,fun j n hj e1=>?_,?_⟩
     · rcases j with _ | _ | j
       · simp [bX,bB,BK.own] at hj
       · exact f2 0 n trivial e1
       · simp [bX,bB,BK.own] at hj
     · rcases f3 with f3 | f3 | ⟨i,n,hi,_⟩
       · exact .inl f3
       · exact .inr (.inl f3)
       · simp [BK.own] at hi
 rcases hv with rfl | ⟨a,c,rfl⟩
 · exact key _ aU5 rfl
 · exact key _ (aQc a c) rfl
theorem aQd (a:Addr)(c:Nat):Con Tryz.prog 39 [.v (.slice (some a) 0 c)] [] (.s 0 0 0 8) [.live true true []]:=by
 refine aLj (n:=9) Tryz.func39 rfl (ent Tryz.func39 (by kernel_rfl) rfl) (by show 1<=Tryz.f39.ntmps;decide) (by kernel_rfl) trivial (fun cx hcx=>?_)
 exact aB1 (T:=T0) hT hm (f:=5000) (orc:=[.d false]) [.sym 0 true] [] [0] hcx
   (obs:=[.eq false false]) (by kernel_rfl) ⟨rfl,trivial⟩
theorem aPw (l:List ND5)(l0:l.length<=9223372036854775807)(h:l.length<=1048576):Con Tryz.prog 39 [.s 0 0 l.length 8] [.live false true (flat bT l)] (.s 1 0 (qD l).length 8) [.live true true (flat bT (qD l))]:=by
 by_cases hne:l.length≠0
 · exact aU6 l l0 hne h
 have hl:l=[]:=List.eq_nil_of_length_eq_zero (by omega)
 subst hl
 refine⟨(aQd ⟨0,0,none⟩ 0).1,fun ρ W vs hr hb hpl hap hfz=>?_⟩
 cases vs with
 | nil=>simp [Rels] at hr
 | cons v vs =>
 cases vs with
 | cons _ _=>simp [Rels] at hr
 | nil =>
 have hv:v=.slice none 0 0\/∃a c,v=.slice (some a) 0 c:=by
   have:=hr.1
   simp only [Rel] at this
   rcases this with⟨_,_,h⟩ | ⟨b,o,n,cap,off',sp,_,h,_⟩
   · exact .inl h
   · exact .inr ⟨_,_,h⟩
 have key:∀a0:SV,Con Tryz.prog 39 [a0] [] (.s 0 0 0 8) [.live true true []]->Rel ρ.bare a0 v ->
     Calls Tryz.prog 39 [v].toArray W (RR (bB ρ W [.live false true (flat bT [])]) (.s 1 0 (qD []).length 8) [.live true true (flat bT (qD []))] []):=by
   intro a0 hc hrel
   refine(hc.2 ρ.bare W [v] ⟨hrel,trivial⟩ (fun i=>by simp [BRep]) (fun i=>by simp [BK.pl]) (fun i j b n b' n' _ h=>by simp [BK.own] at h) (fun b o ho=>⟨(hfz b o ho).1,fun i n h=>by simp [BK.own] at h⟩)).mono fun e W' hh=>?_
   obtain⟨ρ',u,he,_,hu,hk,hB,hP,hA,hL,hF⟩:=hh
   refine⟨⟨fun j=>if j=0 then ρ 0 else if j=1 then ρ' 0 else none,ρ'.fz⟩,u,he,fun i hi=>?_,?_,?_,fun j=>?_,fun j=>?_,fun i j b n b' n' hij hi hj=>?_,fun b o ho=>hL b o ho,fun b o ho=>?_⟩
   · have:i=0:=by simp only [bB,List.length_cons,List.length_nil] at hi;omega
     subst this;rfl
   · show Rel _ (.s 1 0 0 8) u
     simp only [Rel] at hu ⊢
     exact hu
   · exact⟨hk.os,hk.tape,hk.output,hk.size,fun k hk' _=>hk.block k hk' (by rintro ⟨i,n,hi,_⟩;simp [BK.own] at hi),hk.drawn⟩
   · rcases j with _ | _ | j
     · simp [bX,bB,BRep]
     · have h0:=hB 0
       rcases h0 with h0 | ⟨b,vs,rest,ty,g1,g2,g3,g4⟩
       · exact .inl ⟨h0.1,rfl⟩
       · refine .inr ⟨b,vs,rest,ty,g1,?_,?_,g4⟩
         · rcases g2 with g2 | ⟨i,n,hi,_⟩
           · exact .inl g2
           · simp [BK.own] at hi
         · have:vs=[]:=by
             cases vs with
             | nil=>rfl
             | cons _ _=>simp [Rels] at g3
           subst this;trivial
     · simp [bX,bB,BRep]
   · rcases j with _ | _ | j
     · simp [bX,bB,BK.pl]
     · exact fun k hk=>by simp [flat,qD,SV.hasl,bX,bB] at hk
     · simp [bX,bB,BK.pl]
   · have hi1:i=1:=by
       rcases i with _ | _ | i
       · simp [bX,bB,BK.own] at hi
       · rfl
       · simp [bX,bB,BK.own] at hi
     have hj1:j=1:=by
       rcases j with _ | _ | j
       · simp [bX,bB,BK.own] at hj
       · rfl
       · simp [bX,bB,BK.own] at hj
     omega
   · obtain⟨f1,f2,f3⟩:=hF b o ho
     refine⟨f1,fun j n hj e1=>?_,?_⟩
     · rcases j with _ | _ | j
       · simp [bX,bB,BK.own] at hj
       · exact f2 0 n trivial e1
       · simp [bX,bB,BK.own] at hj
     · rcases f3 with f3 | f3 | ⟨i,n,hi,_⟩
       · exact .inl f3
       · exact .inr (.inl f3)
       · simp [BK.own] at hi
 rcases hv with rfl | ⟨a,c,rfl⟩
 · exact key _ aU7 rfl
 · exact key _ (aQd a c) rfl
theorem aDy {l:eW} [dR l] {t:TR} {sep:Int} (h:cW l t sep=0):gJ l t=0:=by
 unfold cW at h
 rw [aFl] at h
 cases hc:((gJ l (t.1,t.2):Int) != 0) with
 | true=>simp only [hc,cond_true] at h;rw [h] at hc;cases hc
 | false=>exact bne_eq_false_iff_eq.1 hc
theorem aAc {l:eW} [dR l] {t:TR} {sep:Int} (h:cW l t sep=0):t.1.length=l.length/\l.length<=96/\t.2.length<=192/\InR l.length t.1/\(bN t sep).length<=9216:=by
 have hc:=aDy h
 obtain⟨k1,k2,k3,k4⟩:=aBg (t:=t) hc
 have ho:=aNo (t:=t) hc
 refine⟨k1,k2,k3,fun x hx=>?_,?_⟩
 · obtain⟨j,hj,rfl⟩:=List.mem_iff_getElem.1 hx
   have:=ho (j:Int) (by omega)
   rwa [jM,eQ,List.getElem?_eq_getElem hj,Option.getD_some] at this
 · rw [aDv sep hc]
   exact(aJl sep hc).2.2
theorem aDz {l:eW} [dR l] {t:TR} {sep:Int} (h:cW l t sep=0) {j:Int} (h0:0<=j)(h1:j < (((bN t sep).length:Nat):Int)) :
   (0<=((bN t sep).getD (toNat j) default).1/\((bN t sep).getD (toNat j) default).1 < t.2.length) /\
   (0<=((bN t sep).getD (toNat j) default).2.1/\((bN t sep).getD (toNat j) default).2.1 < t.2.length) /\
   (0<=(t.2.getD (toNat ((bN t sep).getD (toNat j) default).1) default).1/\(t.2.getD (toNat ((bN t sep).getD (toNat j) default).1) default).1<=(t.2.getD (toNat ((bN t sep).getD (toNat j) default).1) default).2.1/\(t.2.getD (toNat ((bN t sep).getD (toNat j) default).1) default).2.1<=t.1.length) /\
   (0<=(t.2.getD (toNat ((bN t sep).getD (toNat j) default).2.1) default).1/\(t.2.getD (toNat ((bN t sep).getD (toNat j) default).2.1) default).1<=(t.2.getD (toNat ((bN t sep).getD (toNat j) default).2.1) default).2.1/\(t.2.getD (toNat ((bN t sep).getD (toNat j) default).2.1) default).2.1<=t.1.length):=by
 have hc:=aDy h
 obtain⟨k1,k2,k3,k4⟩:=aBg (t:=t) hc
 have hb:=(aJl sep hc).2.1
 rw [←aDv sep hc] at hb
 have hlt:toNat j < (bN t sep).length:=by omega
 have hx:=hb _ (List.getElem_mem hlt)
 have e:(bN t sep).getD (toNat j) default=(bN t sep)[toNat j]:=by
   rw [eQ,List.getElem?_eq_getElem hlt];rfl
 rw [e]
 generalize (bN t sep)[toNat j]=b at *
 obtain⟨⟨a1,a2⟩,⟨b1,b2⟩⟩:=hx
 have n1:=k4.2.2 (toNat b.1) (by omega)
 have n2:=k4.2.2 (toNat b.2.1) (by omega)
 exact⟨⟨a1,a2⟩,⟨b1,b2⟩,⟨n1.1,by omega,n1.2.2⟩,⟨n2.1,by omega,n2.2.2⟩⟩
theorem fA {l:eW} [dR l] {t:TR} {sep:Int} (h:cW l (t.1,t.2) sep=0):t.1.length=l.length/\l.length<=96/\t.2.length<=192/\InR l.length t.1/\(bN (t.1,t.2) sep).length<=9216:=aAc (t:=t) h
theorem nC {l:eW} [dR l] {t:TR} {sep:Int} (h:cW l (t.1,t.2) sep=0) {j:Int} (h0:0<=j)(h1:decide (j < (((bN (t.1,t.2) sep).length:Nat):Int))=true) :
 (0<=((bN (t.1,t.2) sep).getD (toNat j) default).1/\((bN (t.1,t.2) sep).getD (toNat j) default).1 < t.2.length) /\
 (0<=((bN (t.1,t.2) sep).getD (toNat j) default).2.1/\((bN (t.1,t.2) sep).getD (toNat j) default).2.1 < t.2.length) /\
 (0<=(t.2.getD (toNat ((bN (t.1,t.2) sep).getD (toNat j) default).1) default).1/\(t.2.getD (toNat ((bN (t.1,t.2) sep).getD (toNat j) default).1) default).1<=(t.2.getD (toNat ((bN (t.1,t.2) sep).getD (toNat j) default).1) default).2.1/\(t.2.getD (toNat ((bN (t.1,t.2) sep).getD (toNat j) default).1) default).2.1<=t.1.length) /\
 (0<=(t.2.getD (toNat ((bN (t.1,t.2) sep).getD (toNat j) default).2.1) default).1/\(t.2.getD (toNat ((bN (t.1,t.2) sep).getD (toNat j) default).2.1) default).1<=(t.2.getD (toNat ((bN (t.1,t.2) sep).getD (toNat j) default).2.1) default).2.1/\(t.2.getD (toNat ((bN (t.1,t.2) sep).getD (toNat j) default).2.1) default).2.1<=t.1.length):=aDz (t:=t) h h0 (cA h1)
def F22 (a0:List (Int)×bE):List (Int)×bE :=
 ((qC a0.1),(qD a0.2))
theorem C22 (a0:List (Int)×bE)(l0_1:a0.1.length<=9223372036854775807)(l0_2:a0.2.length<=9223372036854775807)(hc:a0.1.length<=1048576/\a0.2.length<=1048576):Con Tryz.prog 22 [(.a [(.s 0 0 a0.1.length 1),(.s 1 0 a0.2.length 8)])] [(.live false true (flat c3 a0.1)),(.live false true (flat bT a0.2))] (.a [(.s 2 0 (F22 a0).1.length 1),(.s 3 0 (F22 a0).2.length 8)]) [(.live true true (flat c3 (F22 a0).1)),(.live true true (flat bT (F22 a0).2))]:=by
 refine aO Tryz.func22 (by kernel_rfl) fun cx hcx=>?_
 have e:=Eq.refl (F22 a0);conv at e=>rhs;simp only [F22]
 rw [e]
 exact rt [.c [0] (aPv a0.1 (by omega) (by omega)),.c [1] (aPw a0.2 (by omega) (by omega))] [] [4,5] hcx (by kernel_rfl)
def fQ (x:List (Int×Int)):List SV:=[(.d (flat lG x) x.length 2)]
theorem lM (x:List (Int×Int)):(fQ x).length=1:=rfl
noncomputable def aHm:Code:=(aI [1,1,1,1,0,1,0,1,1,0,1,1,1,0,1,1,1,0,1,1,0,1,1] [0,0] (aL Tryz.f7) []).1
noncomputable def aHn (m0:Nat)(m1:Nat):List K:=(aI [1,1,1,1,0,1,0,1,1,0,1,1,1,0,1,1,1,0,1,1,0,1,1] [m0,m1] (aL Tryz.f7) []).2
def aD0 (a0:bM)(a1:List (Int)×bE)(a2:Int)(a3:Int)(v108c:List SV)(v108n:Nat)(v109c:List SV)(v109n:Nat)(v110c:List SV)(v110n:Nat)(v111c:List SV)(v111n:Nat)(v112 v113 v114 v115 v116 v117 v118 v119 v120 v121 v122 v123 v124 v125:Int):LS:=⟨iM 135 [(0,(.s 0 0 a0.length 10)),(3,(iv a3)),(5,(.p 3 0)),(8,(.p 4 0)),(11,(.p 5 0)),(15,(.p 6 0)),(16,(.s 7 0 v108n 2)),(20,(iv v112)),(44,(.s 8 0 (bN (a1.1,a1.2) a2).length 3)),(45,(iv (((bN (a1.1,a1.2) a2).length:Nat):Int))),(46,(iv v113)),(84,(.s 9 0 v109n 1)),(85,(iv v114)),(86,(iv v115)),(96,(.s 10 0 v110n 1)),(97,(iv v116)),(98,(iv v117))],[(.live false true (flat eF a0)),(.live false true (flat c3 a1.1)),(.live false true (flat bT a1.2)),(.live true false [(.s 1 0 a1.1.length 1),(.s 2 0 a1.2.length 8)]),(.live true false [(.v (.slice none 0 0)),(.v (.slice none 0 0)),(.v (.slice none 0 0)),(.v (.slice none 0 0))]),(.live true false [(.s 11 0 (F22 (a1.1,a1.2)).1.length 1),(.s 12 0 (F22 (a1.1,a1.2)).2.length 8),(.s 8 0 (bN (a1.1,a1.2) a2).length 3),(.s 13 0 v111n 1)]),(.live true false [(iv v118),(iv v119),(iv v120),(iv v121),(iv v122),(iv v123),(iv v124),(iv v125)]),(.live true true v108c),(.live true true (flat dU (bN (a1.1,a1.2) a2))),(.live false true v109c),(.live false true v110c),(.live true true (flat c3 (F22 (a1.1,a1.2)).1)),(.live true true (flat bT (F22 (a1.1,a1.2)).2)),(.live true true v111c)]⟩
def fB (a0:bM)(a1:List (Int)×bE)(a2:Int)(a3:Int):(List (Int×Int))×List (Int)×List (Int)×(List (List (Int×Int)))×Int×Int×Int×Int×Int×Int×Int×Int×Int×Int×Int×Zt->((List (Int×Int))×List (Int)×List (Int)×(List (List (Int×Int)))×Int×Int×Int×Int×Int×Int×Int×Int×Int×Int×Int×Zt)⊕(((List (Int×Int))×List (Int)×(List (List (Int×Int)))×Int×Int×Int×Int×Int×Int×Int×Int×Zt)⊕(((List (List (Int×Int)))×Int)⊕(((List (Int)×bE)×(List (Int×Int×Bool))×List (List (Int×Int)))×Int)))
 | (v108,v109,v110,v111,v112,v113,v114,v115,v116,v117,v118,v119,v120,v121,v122,v123,v124,v125) =>
  (bif (decide ((v117:Int) < v116)) then
   (bif (((F25 (a0.getD (toNat v112) default).1 (a0.getD (toNat (v110.getD (toNat v117) default)) default).1 a3).2:Int) != 0) then
    (.inr (.inr (.inr (((([]:List (Int)),([]:bE)),([]:List (Int×Int×Bool)),([]:List (List (Int×Int)))),(F25 (a0.getD (toNat v112) default).1 (a0.getD (toNat (v110.getD (toNat v117) default)) default).1 a3).2))))
   else
    (.inl ((v108++[(F25 (a0.getD (toNat v112) default).1 (a0.getD (toNat (v110.getD (toNat v117) default)) default).1 a3).1]),v109,v110,v111,v112,v113,v114,v115,v116,(v117+1),v118,v119,v120,v121,v122,v123,v124,v125)))
  else
   (.inr (.inl (v108,v109,v111,v113,v114,(v115+1),v118,v119,v120,v121,v122,v123,v124,v125))))
noncomputable def aD1:Code:=(aI [1,1,1,1,0,1,0,1,1,0,1,1,1,0,1,1,1] [0] (aL Tryz.f7) []).1
noncomputable def aD2 (m0:Nat):List K:=(aI [1,1,1,1,0,1,0,1,1,0,1,1,1,0,1,1,1] [m0] (aL Tryz.f7) []).2
def xD (a0:bM)(a1:List (Int)×bE)(a2:Int)(a3:Int)(v94c:List SV)(v94n:Nat)(v95c:List SV)(v95n:Nat)(v96c:List SV)(v96n:Nat)(v97 v98 v99 v100 v101 v102 v103 v104 v105 v106 v107:Int):LS:=⟨iM 135 [(0,(.s 0 0 a0.length 10)),(3,(iv a3)),(5,(.p 3 0)),(8,(.p 4 0)),(11,(.p 5 0)),(15,(.p 6 0)),(16,(.s 7 0 v94n 2)),(44,(.s 8 0 (bN (a1.1,a1.2) a2).length 3)),(45,(iv (((bN (a1.1,a1.2) a2).length:Nat):Int))),(46,(iv v97)),(84,(.s 9 0 v95n 1)),(85,(iv v98)),(86,(iv v99))],[(.live false true (flat eF a0)),(.live false true (flat c3 a1.1)),(.live false true (flat bT a1.2)),(.live true false [(.s 1 0 a1.1.length 1),(.s 2 0 a1.2.length 8)]),(.live true false [(.v (.slice none 0 0)),(.v (.slice none 0 0)),(.v (.slice none 0 0)),(.v (.slice none 0 0))]),(.live true false [(.s 10 0 (F22 (a1.1,a1.2)).1.length 1),(.s 11 0 (F22 (a1.1,a1.2)).2.length 8),(.s 8 0 (bN (a1.1,a1.2) a2).length 3),(.s 12 0 v96n 1)]),(.live true false [(iv v100),(iv v101),(iv v102),(iv v103),(iv v104),(iv v105),(iv v106),(iv v107)]),(.live true true v94c),(.live true true (flat dU (bN (a1.1,a1.2) a2))),(.live false true v95c),(.live true true (flat c3 (F22 (a1.1,a1.2)).1)),(.live true true (flat bT (F22 (a1.1,a1.2)).2)),(.live true true v96c)]⟩
def cE (a0:bM)(a1:List (Int)×bE)(a2:Int)(a3:Int):(List (Int×Int))×List (Int)×(List (List (Int×Int)))×Int×Int×Int×Int×Int×Int×Int×Int×Zt->((List (Int×Int))×List (Int)×(List (List (Int×Int)))×Int×Int×Int×Int×Int×Int×Int×Int×Zt)⊕(((List (List (Int×Int)))×Int)⊕(((List (Int)×bE)×(List (Int×Int×Bool))×List (List (Int×Int)))×Int))
 | (v94,v95,v96,v97,v98,v99,v100,v101,v102,v103,v104,v105,v106,v107) =>
  (bif (decide ((v99:Int) < v98)) then
   (aC (fB a0 a1 a2 a3) (toNat ((((toNat v101 - toNat v100):Nat):Int) - 0)+1) (v94,v95,(Aw.part (a1.1) v100 v101),v96,(v95.getD (toNat v99) default),v97,v98,v99,(((toNat v101 - toNat v100):Nat):Int),0,v100,v101,v102,v103,v104,v105,v106,v107))
  else
   (.inr (.inl ((v96++[v94]),(v97+1)))))
noncomputable def vB:Code:=(aI [1,1,1,1,0,1] [] (aL Tryz.f7) []).1
noncomputable def vC:List K:=(aI [1,1,1,1,0,1] [] (aL Tryz.f7) []).2
def pC (a0:bM)(a1:List (Int)×bE)(a2:Int)(a3:Int)(v2c:List SV)(v2n:Nat)(v3:Int):LS:=⟨iM 135 [(0,(.s 0 0 a0.length 10)),(3,(iv a3)),(5,(.p 3 0)),(8,(.p 4 0)),(11,(.p 5 0)),(44,(.s 6 0 (bN (a1.1,a1.2) a2).length 3)),(45,(iv (((bN (a1.1,a1.2) a2).length:Nat):Int))),(46,(iv v3))],[(.live false true (flat eF a0)),(.live false true (flat c3 a1.1)),(.live false true (flat bT a1.2)),(.live true false [(.s 1 0 a1.1.length 1),(.s 2 0 a1.2.length 8)]),(.live true false [(.v (.slice none 0 0)),(.v (.slice none 0 0)),(.v (.slice none 0 0)),(.v (.slice none 0 0))]),(.live true false [(.s 7 0 (F22 (a1.1,a1.2)).1.length 1),(.s 8 0 (F22 (a1.1,a1.2)).2.length 8),(.s 6 0 (bN (a1.1,a1.2) a2).length 3),(.s 9 0 v2n 1)]),(.live true true (flat dU (bN (a1.1,a1.2) a2))),(.live true true (flat c3 (F22 (a1.1,a1.2)).1)),(.live true true (flat bT (F22 (a1.1,a1.2)).2)),(.live true true v2c)]⟩
def bA (a0:bM)(a1:List (Int)×bE)(a2:Int)(a3:Int):(List (List (Int×Int)))×Int->((List (List (Int×Int)))×Int)⊕(((List (Int)×bE)×(List (Int×Int×Bool))×List (List (Int×Int)))×Int)
 | (v2,v3) =>
  (bif (decide ((v3:Int) < (((bN (a1.1,a1.2) a2).length:Nat):Int))) then
   (bif ((bN (a1.1,a1.2) a2).getD (toNat v3) default).2.2 then
    (bif (((wF (a1.2.getD (toNat ((bN (a1.1,a1.2) a2).getD (toNat v3) default).1) default) (a1.2.getD (toNat ((bN (a1.1,a1.2) a2).getD (toNat v3) default).2.1) default)).2:Int) != 0) then
     (.inr (((([]:List (Int)),([]:bE)),([]:List (Int×Int×Bool)),([]:List (List (Int×Int)))),(wF (a1.2.getD (toNat ((bN (a1.1,a1.2) a2).getD (toNat v3) default).1) default) (a1.2.getD (toNat ((bN (a1.1,a1.2) a2).getD (toNat v3) default).2.1) default)).2))
    else
     (.inl ((v2++[([(wF (a1.2.getD (toNat ((bN (a1.1,a1.2) a2).getD (toNat v3) default).1) default) (a1.2.getD (toNat ((bN (a1.1,a1.2) a2).getD (toNat v3) default).2.1) default)).1]:List (Int×Int))]),(v3+1))))
   else
    (aC (cE a0 a1 a2 a3) (toNat ((((toNat (a1.2.getD (toNat ((bN (a1.1,a1.2) a2).getD (toNat v3) default).1) default).2.1 - toNat (a1.2.getD (toNat ((bN (a1.1,a1.2) a2).getD (toNat v3) default).1) default).1):Nat):Int) - 0)+1) (([]:List (Int×Int)),(Aw.part (a1.1) ((a1.2.getD (toNat ((bN (a1.1,a1.2) a2).getD (toNat v3) default).1) default).1) ((a1.2.getD (toNat ((bN (a1.1,a1.2) a2).getD (toNat v3) default).1) default).2.1)),v2,v3,(((toNat (a1.2.getD (toNat ((bN (a1.1,a1.2) a2).getD (toNat v3) default).1) default).2.1 - toNat (a1.2.getD (toNat ((bN (a1.1,a1.2) a2).getD (toNat v3) default).1) default).1):Nat):Int),0,(a1.2.getD (toNat ((bN (a1.1,a1.2) a2).getD (toNat v3) default).2.1) default).1,(a1.2.getD (toNat ((bN (a1.1,a1.2) a2).getD (toNat v3) default).2.1) default).2.1,(a1.2.getD (toNat ((bN (a1.1,a1.2) a2).getD (toNat v3) default).2.1) default).2.2.1,(a1.2.getD (toNat ((bN (a1.1,a1.2) a2).getD (toNat v3) default).2.1) default).2.2.2.1,(a1.2.getD (toNat ((bN (a1.1,a1.2) a2).getD (toNat v3) default).2.1) default).2.2.2.2.1.1,(a1.2.getD (toNat ((bN (a1.1,a1.2) a2).getD (toNat v3) default).2.1) default).2.2.2.2.1.2.1,(a1.2.getD (toNat ((bN (a1.1,a1.2) a2).getD (toNat v3) default).2.1) default).2.2.2.2.1.2.2,(a1.2.getD (toNat ((bN (a1.1,a1.2) a2).getD (toNat v3) default).2.1) default).2.2.2.2.2)))
  else
   (.inr ((((F22 (a1.1,a1.2)).1,(F22 (a1.1,a1.2)).2),(bN (a1.1,a1.2) a2),v2),0)))
theorem aSf (a0:bM)(a1:List (Int)×bE)(a2:Int)(a3:Int)(l0:a0.length<=9223372036854775807)(l1_1:a1.1.length<=9223372036854775807)(l1_2:a1.2.length<=9223372036854775807) [h5:dR a0] {cx:Cx} (hcx:cx.base=3)
   (n0:Nat) (g0:∀(v2:List (List (Int×Int))) (v3:Int),(0<=v3)/\(cW a0 (a1.1,a1.2) a2=0)/\(v2.length=toNat v3)/\(v3<=((bN (a1.1,a1.2) a2).length:Int))->toNat ((((bN (a1.1,a1.2) a2).length:Nat):Int) - v3) < n0->Aw.Good Tryz.prog none 9 (bodyPost Tryz.prog Tryz.f7 (RR cx (.t [(.a [(.s 3 0 (aC (bA a0 a1 a2 a3) n0 (v2,v3)).1.1.1.length 1),(.s 4 0 (aC (bA a0 a1 a2 a3) n0 (v2,v3)).1.1.2.length 8),(.s 5 0 (aC (bA a0 a1 a2 a3) n0 (v2,v3)).1.2.1.length 3),(.s 6 0 (aC (bA a0 a1 a2 a3) n0 (v2,v3)).1.2.2.length 1)]),(iv (aC (bA a0 a1 a2 a3) n0 (v2,v3)).2)]) [(.live true true (flat c3 (aC (bA a0 a1 a2 a3) n0 (v2,v3)).1.1.1)),(.live true true (flat bT (aC (bA a0 a1 a2 a3) n0 (v2,v3)).1.1.2)),(.live true true (flat dU (aC (bA a0 a1 a2 a3) n0 (v2,v3)).1.2.1)),(.live true true (flat fQ (aC (bA a0 a1 a2 a3) n0 (v2,v3)).1.2.2))] [])) cx [] (.l vB n0::vC) (pC a0 a1 a2 a3 (flat fQ v2) v2.length v3))
   (n1:Nat) (g1:∀(v94:List (Int×Int)) (v95:List (Int)) (v96:List (List (Int×Int))) (v97 v98 v99 v100 v101 v102 v103 v104 v105 v106 v107:Int),(0<=v99)/\(cW a0 (a1.1,a1.2) a2=0)/\(v96.length=toNat v97)/\(0<=v97)/\(v97 < ((bN (a1.1,a1.2) a2).length:Int))/\(v98=v95.length)/\(v95.length<=96)/\(InR a0.length v95)/\(v94.length<=96*toNat v99)/\(v99<=v98)/\(0<=v100)/\(v100<=v101)/\(v101<=a1.1.length)/\((0<=v97))/\((cW a0 (a1.1,a1.2) a2=0))/\((v96.length=toNat v97))/\((v97<=((bN (a1.1,a1.2) a2).length:Int)))/\(v97 < (((bN (a1.1,a1.2) a2).length:Nat):Int))/\(toNat ((((bN (a1.1,a1.2) a2).length:Nat):Int) - v97) < n0+1)->toNat (v98 - v99) < n1->Aw.Good Tryz.prog none 9 (bodyPost Tryz.prog Tryz.f7 (RR cx (.t [(.a [(.s 3 0 (aT (bA a0 a1 a2 a3) n0 (aC (cE a0 a1 a2 a3) n1 (v94,v95,v96,v97,v98,v99,v100,v101,v102,v103,v104,v105,v106,v107))).1.1.1.length 1),(.s 4 0 (aT (bA a0 a1 a2 a3) n0 (aC (cE a0 a1 a2 a3) n1 (v94,v95,v96,v97,v98,v99,v100,v101,v102,v103,v104,v105,v106,v107))).1.1.2.length 8),(.s 5 0 (aT (bA a0 a1 a2 a3) n0 (aC (cE a0 a1 a2 a3) n1 (v94,v95,v96,v97,v98,v99,v100,v101,v102,v103,v104,v105,v106,v107))).1.2.1.length 3),(.s 6 0 (aT (bA a0 a1 a2 a3) n0 (aC (cE a0 a1 a2 a3) n1 (v94,v95,v96,v97,v98,v99,v100,v101,v102,v103,v104,v105,v106,v107))).1.2.2.length 1)]),(iv (aT (bA a0 a1 a2 a3) n0 (aC (cE a0 a1 a2 a3) n1 (v94,v95,v96,v97,v98,v99,v100,v101,v102,v103,v104,v105,v106,v107))).2)]) [(.live true true (flat c3 (aT (bA a0 a1 a2 a3) n0 (aC (cE a0 a1 a2 a3) n1 (v94,v95,v96,v97,v98,v99,v100,v101,v102,v103,v104,v105,v106,v107))).1.1.1)),(.live true true (flat bT (aT (bA a0 a1 a2 a3) n0 (aC (cE a0 a1 a2 a3) n1 (v94,v95,v96,v97,v98,v99,v100,v101,v102,v103,v104,v105,v106,v107))).1.1.2)),(.live true true (flat dU (aT (bA a0 a1 a2 a3) n0 (aC (cE a0 a1 a2 a3) n1 (v94,v95,v96,v97,v98,v99,v100,v101,v102,v103,v104,v105,v106,v107))).1.2.1)),(.live true true (flat fQ (aT (bA a0 a1 a2 a3) n0 (aC (cE a0 a1 a2 a3) n1 (v94,v95,v96,v97,v98,v99,v100,v101,v102,v103,v104,v105,v106,v107))).1.2.2))] [])) cx [] (.l aD1 n1::aD2 n0) (xD a0 a1 a2 a3 (flat lG v94) v94.length (flat c3 v95) v95.length (flat fQ v96) v96.length v97 v98 v99 v100 v101 v102 v103 v104 v105 v106 v107)):∀(n:Nat) (v108:List (Int×Int)) (v109:List (Int)) (v110:List (Int)) (v111:List (List (Int×Int))) (v112 v113 v114 v115 v116 v117 v118 v119 v120 v121 v122 v123 v124 v125:Int),(0<=v117)/\(cW a0 (a1.1,a1.2) a2=0)/\(v111.length=toNat v113)/\(0<=v113)/\(v113 < ((bN (a1.1,a1.2) a2).length:Int))/\(v114=v109.length)/\(v109.length<=96)/\(InR a0.length v109)/\(0<=v115)/\(v115 < v114)/\(v116=v110.length)/\(v110.length<=96)/\(InR a0.length v110)/\(0<=v112)/\(v112 < a0.length)/\(v108.length<=96*toNat v115+toNat v117)/\(v117<=v116)/\(0<=v118)/\(v118<=v119)/\(v119<=a1.1.length)/\((0<=v113))/\((cW a0 (a1.1,a1.2) a2=0))/\((v111.length=toNat v113))/\((v113<=((bN (a1.1,a1.2) a2).length:Int)))/\(v113 < (((bN (a1.1,a1.2) a2).length:Nat):Int))/\(toNat ((((bN (a1.1,a1.2) a2).length:Nat):Int) - v113) < n0+1)/\((0<=v115))/\((cW a0 (a1.1,a1.2) a2=0))/\((v111.length=toNat v113))/\((0<=v113))/\((v113 < ((bN (a1.1,a1.2) a2).length:Int)))/\((v114=v109.length))/\((v109.length<=96))/\((InR a0.length v109))/\((v115<=v114))/\((0<=v118))/\((v118<=v119))/\((v119<=a1.1.length))/\(v115 < v114)/\(toNat (v114 - v115) < n1+1)->toNat (v116 - v117) < n->Aw.Good Tryz.prog none 9 (bodyPost Tryz.prog Tryz.f7 (RR cx (.t [(.a [(.s 3 0 (aT (bA a0 a1 a2 a3) n0 (aT (cE a0 a1 a2 a3) n1 (aC (fB a0 a1 a2 a3) n (v108,v109,v110,v111,v112,v113,v114,v115,v116,v117,v118,v119,v120,v121,v122,v123,v124,v125)))).1.1.1.length 1),(.s 4 0 (aT (bA a0 a1 a2 a3) n0 (aT (cE a0 a1 a2 a3) n1 (aC (fB a0 a1 a2 a3) n (v108,v109,v110,v111,v112,v113,v114,v115,v116,v117,v118,v119,v120,v121,v122,v123,v124,v125)))).1.1.2.length 8),(.s 5 0 (aT (bA a0 a1 a2 a3) n0 (aT (cE a0 a1 a2 a3) n1 (aC (fB a0 a1 a2 a3) n (v108,v109,v110,v111,v112,v113,v114,v115,v116,v117,v118,v119,v120,v121,v122,v123,v124,v125)))).1.2.1.length 3),(.s 6 0 (aT (bA a0 a1 a2 a3) n0 (aT (cE a0 a1 a2 a3) n1 (aC (fB a0 a1 a2 a3) n (v108,v109,v110,v111,v112,v113,v114,v115,v116,v117,v118,v119,v120,v121,v122,v123,v124,v125)))).1.2.2.length 1)]),(iv (aT (bA a0 a1 a2 a3) n0 (aT (cE a0 a1 a2 a3) n1 (aC (fB a0 a1 a2 a3) n (v108,v109,v110,v111,v112,v113,v114,v115,v116,v117,v118,v119,v120,v121,v122,v123,v124,v125)))).2)]) [(.live true true (flat c3 (aT (bA a0 a1 a2 a3) n0 (aT (cE a0 a1 a2 a3) n1 (aC (fB a0 a1 a2 a3) n (v108,v109,v110,v111,v112,v113,v114,v115,v116,v117,v118,v119,v120,v121,v122,v123,v124,v125)))).1.1.1)),(.live true true (flat bT (aT (bA a0 a1 a2 a3) n0 (aT (cE a0 a1 a2 a3) n1 (aC (fB a0 a1 a2 a3) n (v108,v109,v110,v111,v112,v113,v114,v115,v116,v117,v118,v119,v120,v121,v122,v123,v124,v125)))).1.1.2)),(.live true true (flat dU (aT (bA a0 a1 a2 a3) n0 (aT (cE a0 a1 a2 a3) n1 (aC (fB a0 a1 a2 a3) n (v108,v109,v110,v111,v112,v113,v114,v115,v116,v117,v118,v119,v120,v121,v122,v123,v124,v125)))).1.2.1)),(.live true true (flat fQ (aT (bA a0 a1 a2 a3) n0 (aT (cE a0 a1 a2 a3) n1 (aC (fB a0 a1 a2 a3) n (v108,v109,v110,v111,v112,v113,v114,v115,v116,v117,v118,v119,v120,v121,v122,v123,v124,v125)))).1.2.2))] [])) cx [] (.l aHm n::aHn n0 n1) (aD0 a0 a1 a2 a3 (flat lG v108) v108.length (flat c3 v109) v109.length (flat c3 v110) v110.length (flat fQ v111) v111.length v112 v113 v114 v115 v116 v117 v118 v119 v120 v121 v122 v123 v124 v125):=by
 intro n
 induction n with
 | zero=>intro v108 v109 v110 v111 v112 v113 v114 v115 v116 v117 v118 v119 v120 v121 v122 v123 v124 v125 hi hn;exact absurd hn (eP _)
 | succ n ih =>
   intro v108 v109 v110 v111 v112 v113 v114 v115 v116 v117 v118 v119 v120 v121 v122 v123 v124 v125 hi hn
   refine aQ ?_
   have hd:=fA (l:=a0) (t:=a1) (sep:=a2) hi.2.1
   try have hr2:=hi.2.2.2.2.2.2.2.2.2.2.2.2.1.at (i:=toNat v117) (by have _:=h0;omega)
   cases h0:(decide ((v117:Int) < v116)) with
   | true =>
    have q0:=cA h0
    try have hr2:=hi.2.2.2.2.2.2.2.2.2.2.2.2.1.at (i:=toNat v117) (by have _:=h0;omega)
    let t1:List (St Tryz.prog):=[.d h0,.i v117 (v110.length),.L aM v110 v117 0 1,.i v112 (a0.length),.L cJ a0 v112 0 9,.i (v110.getD (toNat v117) default) (a0.length),.L cJ a0 (v110.getD (toNat v117) default) 0 9,.c [] (C25 (a0.getD (toNat v112) default).1 (a0.getD (toNat (v110.getD (toNat v117) default)) default).1 a3)]
    cases h1:(((F25 (a0.getD (toNat v112) default).1 (a0.getD (toNat (v110.getD (toNat v117) default)) default).1 a3).2:Int) != 0) with
    | true =>
     have q1:=bne_iff_ne.1 h1
     try have hr2:=hi.2.2.2.2.2.2.2.2.2.2.2.2.1.at (i:=toNat v117) (by have _:=h0;omega)
     have e:=Eq.refl (fB a0 a1 a2 a3 (v108,v109,v110,v111,v112,v113,v114,v115,v116,v117,v118,v119,v120,v121,v122,v123,v124,v125));conv at e=>rhs;simp only [fB,h0,h1,aS]
     rw [aN,e]
     exact rt (t1++[.d h1]) [.cell 4 0 1,.cell 4 1 8,.cell 4 2 3,.cell 4 3 1] [15,16,17,18] hcx (by kernel_rfl)
    | false =>
     have q1:=bne_eq_false_iff_eq.1 h1
     try have hr2:=hi.2.2.2.2.2.2.2.2.2.2.2.2.1.at (i:=toNat v117) (by have _:=h0;omega)
     have e:=Eq.refl (fB a0 a1 a2 a3 (v108,v109,v110,v111,v112,v113,v114,v115,v116,v117,v118,v119,v120,v121,v122,v123,v124,v125));conv at e=>rhs;simp only [fB,h0,h1,aS]
     rw [aE e]
     refine ba (t1++[.d h1,.p (show((flat lG v108).length=v108.length*2/\v108.length+1<=2 ^ 40/\(v108.length+1)*16<=2 ^ 47) from gK lH (by omega) (by omega))]) [] [0,3,5,8,11,15,16,20,44,45,46,84,85,86,96,97,98] [3,4,5,6,16,8,9,10,11,12,13] hcx (m:=n) aHm (aHn n0 n1) (aD0 a0 a1 a2 a3 (flat lG v108++(k2 (F25 (a0.getD (toNat v112) default).1 (a0.getD (toNat (v110.getD (toNat v117) default)) default).1 a3).1)) (v108.length+1) (flat c3 v109) (v109.length) (flat c3 v110) (v110.length) (flat fQ v111) (v111.length) v112 v113 v114 v115 v116 (W (v117+1)) v118 v119 v120 v121 v122 v123 v124 v125) (by kernel_rfl) ?_
     have z0:(W (v117+1))=(v117+1):=aJ (by omega) (by omega)
     have z1:(flat lG v108++(k2 (F25 (a0.getD (toNat v112) default).1 (a0.getD (toNat (v110.getD (toNat v117) default)) default).1 a3).1))=(flat lG (v108++[(F25 (a0.getD (toNat v112) default).1 (a0.getD (toNat (v110.getD (toNat v117) default)) default).1 a3).1])):=(bL (c:=lG) (l:=v108) (m:=[(F25 (a0.getD (toNat v112) default).1 (a0.getD (toNat (v110.getD (toNat v117) default)) default).1 a3).1])).symm
     have z2:(v108.length+1)=(v108++[(F25 (a0.getD (toNat v112) default).1 (a0.getD (toNat (v110.getD (toNat v117) default)) default).1 a3).1]).length:=gU v108 [(F25 (a0.getD (toNat v112) default).1 (a0.getD (toNat (v110.getD (toNat v117) default)) default).1 a3).1] rfl
     rw [z0,z1,z2]
     exact ih (v108++[(F25 (a0.getD (toNat v112) default).1 (a0.getD (toNat (v110.getD (toNat v117) default)) default).1 a3).1]) v109 v110 v111 v112 v113 v114 v115 v116 (v117+1) v118 v119 v120 v121 v122 v123 v124 v125 (by(repeat' apply And.intro)<;>(try simp only [Ls])<;>first | omega | assumption | exact hd.2.2.2.1.part _ _ | exact hi.2.2.2.2.2.2.2.1 | exact hi.2.2.2.2.2.2.2.2.2.2.2.2.1) (by(try simp only [Ls]);omega)
   | false =>
    have q0:=cH h0
    try have hr2:=hi.2.2.2.2.2.2.2.2.2.2.2.2.1.at (i:=toNat v117) (by have _:=h0;omega)
    have e:=Eq.refl (fB a0 a1 a2 a3 (v108,v109,v110,v111,v112,v113,v114,v115,v116,v117,v118,v119,v120,v121,v122,v123,v124,v125));conv at e=>rhs;simp only [fB,h0,aS]
    rw [aN,e]
    refine ba [.d h0] [] [0,3,5,8,11,15,16,44,45,46,84,85,86] [3,4,5,6,7,8,9,11,12,13] hcx (m:=n1) aD1 (aD2 n0) (xD a0 a1 a2 a3 (flat lG v108) (v108.length) (flat c3 v109) (v109.length) (flat fQ v111) (v111.length) v113 v114 (W (v115+1)) v118 v119 v120 v121 v122 v123 v124 v125) (by kernel_rfl) ?_
    have z0:(W (v115+1))=(v115+1):=aJ (by omega) (by omega)
    rw [z0]
    exact g1 v108 v109 v111 v113 v114 (v115+1) v118 v119 v120 v121 v122 v123 v124 v125 (by(repeat' apply And.intro)<;>(try simp only [Ls])<;>first | omega | assumption | exact hd.2.2.2.1.part _ _ | exact hi.2.2.2.2.2.2.2.1 | exact hi.2.2.2.2.2.2.2.2.2.2.2.2.1) (by(try simp only [Ls]);omega)
theorem aSg (a0:bM)(a1:List (Int)×bE)(a2:Int)(a3:Int)(l0:a0.length<=9223372036854775807)(l1_1:a1.1.length<=9223372036854775807)(l1_2:a1.2.length<=9223372036854775807) [h5:dR a0] {cx:Cx} (hcx:cx.base=3)
   (n0:Nat) (g0:∀(v2:List (List (Int×Int))) (v3:Int),(0<=v3)/\(cW a0 (a1.1,a1.2) a2=0)/\(v2.length=toNat v3)/\(v3<=((bN (a1.1,a1.2) a2).length:Int))->toNat ((((bN (a1.1,a1.2) a2).length:Nat):Int) - v3) < n0->Aw.Good Tryz.prog none 9 (bodyPost Tryz.prog Tryz.f7 (RR cx (.t [(.a [(.s 3 0 (aC (bA a0 a1 a2 a3) n0 (v2,v3)).1.1.1.length 1),(.s 4 0 (aC (bA a0 a1 a2 a3) n0 (v2,v3)).1.1.2.length 8),(.s 5 0 (aC (bA a0 a1 a2 a3) n0 (v2,v3)).1.2.1.length 3),(.s 6 0 (aC (bA a0 a1 a2 a3) n0 (v2,v3)).1.2.2.length 1)]),(iv (aC (bA a0 a1 a2 a3) n0 (v2,v3)).2)]) [(.live true true (flat c3 (aC (bA a0 a1 a2 a3) n0 (v2,v3)).1.1.1)),(.live true true (flat bT (aC (bA a0 a1 a2 a3) n0 (v2,v3)).1.1.2)),(.live true true (flat dU (aC (bA a0 a1 a2 a3) n0 (v2,v3)).1.2.1)),(.live true true (flat fQ (aC (bA a0 a1 a2 a3) n0 (v2,v3)).1.2.2))] [])) cx [] (.l vB n0::vC) (pC a0 a1 a2 a3 (flat fQ v2) v2.length v3)):∀(n:Nat) (v94:List (Int×Int)) (v95:List (Int)) (v96:List (List (Int×Int))) (v97 v98 v99 v100 v101 v102 v103 v104 v105 v106 v107:Int),(0<=v99)/\(cW a0 (a1.1,a1.2) a2=0)/\(v96.length=toNat v97)/\(0<=v97)/\(v97 < ((bN (a1.1,a1.2) a2).length:Int))/\(v98=v95.length)/\(v95.length<=96)/\(InR a0.length v95)/\(v94.length<=96*toNat v99)/\(v99<=v98)/\(0<=v100)/\(v100<=v101)/\(v101<=a1.1.length)/\((0<=v97))/\((cW a0 (a1.1,a1.2) a2=0))/\((v96.length=toNat v97))/\((v97<=((bN (a1.1,a1.2) a2).length:Int)))/\(v97 < (((bN (a1.1,a1.2) a2).length:Nat):Int))/\(toNat ((((bN (a1.1,a1.2) a2).length:Nat):Int) - v97) < n0+1)->toNat (v98 - v99) < n->Aw.Good Tryz.prog none 9 (bodyPost Tryz.prog Tryz.f7 (RR cx (.t [(.a [(.s 3 0 (aT (bA a0 a1 a2 a3) n0 (aC (cE a0 a1 a2 a3) n (v94,v95,v96,v97,v98,v99,v100,v101,v102,v103,v104,v105,v106,v107))).1.1.1.length 1),(.s 4 0 (aT (bA a0 a1 a2 a3) n0 (aC (cE a0 a1 a2 a3) n (v94,v95,v96,v97,v98,v99,v100,v101,v102,v103,v104,v105,v106,v107))).1.1.2.length 8),(.s 5 0 (aT (bA a0 a1 a2 a3) n0 (aC (cE a0 a1 a2 a3) n (v94,v95,v96,v97,v98,v99,v100,v101,v102,v103,v104,v105,v106,v107))).1.2.1.length 3),(.s 6 0 (aT (bA a0 a1 a2 a3) n0 (aC (cE a0 a1 a2 a3) n (v94,v95,v96,v97,v98,v99,v100,v101,v102,v103,v104,v105,v106,v107))).1.2.2.length 1)]),(iv (aT (bA a0 a1 a2 a3) n0 (aC (cE a0 a1 a2 a3) n (v94,v95,v96,v97,v98,v99,v100,v101,v102,v103,v104,v105,v106,v107))).2)]) [(.live true true (flat c3 (aT (bA a0 a1 a2 a3) n0 (aC (cE a0 a1 a2 a3) n (v94,v95,v96,v97,v98,v99,v100,v101,v102,v103,v104,v105,v106,v107))).1.1.1)),(.live true true (flat bT (aT (bA a0 a1 a2 a3) n0 (aC (cE a0 a1 a2 a3) n (v94,v95,v96,v97,v98,v99,v100,v101,v102,v103,v104,v105,v106,v107))).1.1.2)),(.live true true (flat dU (aT (bA a0 a1 a2 a3) n0 (aC (cE a0 a1 a2 a3) n (v94,v95,v96,v97,v98,v99,v100,v101,v102,v103,v104,v105,v106,v107))).1.2.1)),(.live true true (flat fQ (aT (bA a0 a1 a2 a3) n0 (aC (cE a0 a1 a2 a3) n (v94,v95,v96,v97,v98,v99,v100,v101,v102,v103,v104,v105,v106,v107))).1.2.2))] [])) cx [] (.l aD1 n::aD2 n0) (xD a0 a1 a2 a3 (flat lG v94) v94.length (flat c3 v95) v95.length (flat fQ v96) v96.length v97 v98 v99 v100 v101 v102 v103 v104 v105 v106 v107):=by
 intro n
 induction n with
 | zero=>intro v94 v95 v96 v97 v98 v99 v100 v101 v102 v103 v104 v105 v106 v107 hi hn;exact absurd hn (eP _)
 | succ n ih =>
   intro v94 v95 v96 v97 v98 v99 v100 v101 v102 v103 v104 v105 v106 v107 hi hn
   refine aQ ?_
   have hd:=fA (l:=a0) (t:=a1) (sep:=a2) hi.2.1
   have hp2:=part_len (l:=a1.1) (a:=v100) (b:=v101) (by omega)
   try have hr1:=hi.2.2.2.2.2.2.2.1.at (i:=toNat v99) (by have _:=h0;omega)
   cases h0:(decide ((v99:Int) < v98)) with
   | true =>
    have q0:=cA h0
    try have hr1:=hi.2.2.2.2.2.2.2.1.at (i:=toNat v99) (by have _:=h0;omega)
    have e:=Eq.refl (cE a0 a1 a2 a3 (v94,v95,v96,v97,v98,v99,v100,v101,v102,v103,v104,v105,v106,v107));conv at e=>rhs;simp only [cE,h0,aS]
    rw [aN,e]
    refine en [.d h0,.i v99 (v95.length),.L aM v95 v99 0 1,.S aM (a1.1) v100 v101 (a1.1.length)] [] [0,3,5,8,11,15,16,20,44,45,46,84,85,86,96,97,98] [3,4,5,6,7,8,9,13,10,11,12] hcx aHm (aHn n0 n) (aD0 a0 a1 a2 a3 (flat lG v94) (v94.length) (flat c3 v95) (v95.length) (flat c3 (Aw.part (a1.1) v100 v101)) (toNat v101 - toNat v100) (flat fQ v96) (v96.length) (v95.getD (toNat v99) default) v97 v98 v99 (((toNat v101 - toNat v100):Nat):Int) 0 v100 v101 v102 v103 v104 v105 v106 v107) (toNat ((((toNat v101 - toNat v100):Nat):Int) - 0)+1) (by kernel_rfl) ?_
    have z0:(toNat v101 - toNat v100)=(Aw.part (a1.1) v100 v101).length:=(part_len (by omega)).symm
    rw [z0]
    exact aSf a0 a1 a2 a3 l0 l1_1 l1_2 hcx n0 g0 n ih (toNat (((((Aw.part (a1.1) v100 v101).length):Nat):Int) - 0)+1) v94 v95 (Aw.part (a1.1) v100 v101) v96 (v95.getD (toNat v99) default) v97 v98 v99 ((((Aw.part (a1.1) v100 v101).length):Nat):Int) 0 v100 v101 v102 v103 v104 v105 v106 v107 (by(repeat' apply And.intro)<;>(try simp only [Ls])<;>first | omega | assumption | exact hd.2.2.2.1.part _ _ | exact hi.2.2.2.2.2.2.2.1 | exact hi.2.2.2.2.2.2.2.2.2.2.2.2.1) (by(try simp only [Ls]);omega)
   | false =>
    have q0:=cH h0
    try have hr1:=hi.2.2.2.2.2.2.2.1.at (i:=toNat v99) (by have _:=h0;omega)
    have e:=Eq.refl (cE a0 a1 a2 a3 (v94,v95,v96,v97,v98,v99,v100,v101,v102,v103,v104,v105,v106,v107));conv at e=>rhs;simp only [cE,h0,aS]
    rw [aN,e]
    refine ba [.d h0,.p (show((flat lG v94)).length=v94.length*2 from by first | (simp [bI lH];done) | rfl),.p (show((flat fQ v96).length=v96.length*1/\v96.length+1<=2 ^ 40/\(v96.length+1)*24<=2 ^ 47) from gK lM (by omega) (by omega))] [] [0,3,5,8,11,44,45,46] [3,4,5,8,10,11,14] hcx (m:=n0) vB (vC) (pC a0 a1 a2 a3 (flat fQ v96++[(.d (flat lG v94) v94.length 2)]) (v96.length+1) (W (v97+1))) (by kernel_rfl) ?_
    have z0:(W (v97+1))=(v97+1):=aJ (by omega) (by omega)
    have z1:(flat fQ v96++[(.d (flat lG v94) v94.length 2)])=(flat fQ (v96++[v94])):=(bL (c:=fQ) (l:=v96) (m:=[v94])).symm
    have z2:(v96.length+1)=(v96++[v94]).length:=gU v96 [v94] rfl
    rw [z0,z1,z2]
    exact g0 (v96++[v94]) (v97+1) (by(repeat' apply And.intro)<;>(try simp only [Ls])<;>first | omega | assumption | exact hd.2.2.2.1.part _ _ | exact hi.2.2.2.2.2.2.2.1 | exact hi.2.2.2.2.2.2.2.2.2.2.2.2.1) (by(try simp only [Ls]);omega)
theorem aSh (a0:bM)(a1:List (Int)×bE)(a2:Int)(a3:Int)(l0:a0.length<=9223372036854775807)(l1_1:a1.1.length<=9223372036854775807)(l1_2:a1.2.length<=9223372036854775807) [h5:dR a0] {cx:Cx} (hcx:cx.base=3):∀(n:Nat) (v2:List (List (Int×Int))) (v3:Int),(0<=v3)/\(cW a0 (a1.1,a1.2) a2=0)/\(v2.length=toNat v3)/\(v3<=((bN (a1.1,a1.2) a2).length:Int))->toNat ((((bN (a1.1,a1.2) a2).length:Nat):Int) - v3) < n->Aw.Good Tryz.prog none 9 (bodyPost Tryz.prog Tryz.f7 (RR cx (.t [(.a [(.s 3 0 (aC (bA a0 a1 a2 a3) n (v2,v3)).1.1.1.length 1),(.s 4 0 (aC (bA a0 a1 a2 a3) n (v2,v3)).1.1.2.length 8),(.s 5 0 (aC (bA a0 a1 a2 a3) n (v2,v3)).1.2.1.length 3),(.s 6 0 (aC (bA a0 a1 a2 a3) n (v2,v3)).1.2.2.length 1)]),(iv (aC (bA a0 a1 a2 a3) n (v2,v3)).2)]) [(.live true true (flat c3 (aC (bA a0 a1 a2 a3) n (v2,v3)).1.1.1)),(.live true true (flat bT (aC (bA a0 a1 a2 a3) n (v2,v3)).1.1.2)),(.live true true (flat dU (aC (bA a0 a1 a2 a3) n (v2,v3)).1.2.1)),(.live true true (flat fQ (aC (bA a0 a1 a2 a3) n (v2,v3)).1.2.2))] [])) cx [] (.l vB n::vC) (pC a0 a1 a2 a3 (flat fQ v2) v2.length v3):=by
 intro n
 induction n with
 | zero=>intro v2 v3 hi hn;exact absurd hn (eP _)
 | succ n ih =>
   intro v2 v3 hi hn
   refine aQ ?_
   have hd:=fA (l:=a0) (t:=a1) (sep:=a2) hi.2.1
   try have hbf:=nC (l:=a0) (t:=a1) (sep:=a2) hi.2.1 (j:=v3) hi.1 h0
   try have hb1:=hbf.1
   try have hb2:=hbf.2.1
   try have hb3:=hbf.2.2.1
   try have hb4:=hbf.2.2.2
   cases h0:(decide ((v3:Int) < (((bN (a1.1,a1.2) a2).length:Nat):Int))) with
   | true =>
    have q0:=cA h0
    try have hbf:=nC (l:=a0) (t:=a1) (sep:=a2) hi.2.1 (j:=v3) hi.1 h0
    let t1:List (St Tryz.prog):=[.d h0,.i v3 ((bN (a1.1,a1.2) a2).length),.L dJ (bN (a1.1,a1.2) a2) v3 0 3,.i (((bN (a1.1,a1.2) a2).getD (toNat v3) default).1) (a1.2.length),.L bJ a1.2 ((bN (a1.1,a1.2) a2).getD (toNat v3) default).1 0 8,.i (((bN (a1.1,a1.2) a2).getD (toNat v3) default).2.1) (a1.2.length),.L bJ a1.2 ((bN (a1.1,a1.2) a2).getD (toNat v3) default).2.1 0 8]
    cases h1:((bN (a1.1,a1.2) a2).getD (toNat v3) default).2.2 with
    | true =>
     try have hbf:=nC (l:=a0) (t:=a1) (sep:=a2) hi.2.1 (j:=v3) hi.1 h0
     let t2:List (St Tryz.prog):=(t1++[.d h1,.c [] (C24 (a1.2.getD (toNat ((bN (a1.1,a1.2) a2).getD (toNat v3) default).1) default) (a1.2.getD (toNat ((bN (a1.1,a1.2) a2).getD (toNat v3) default).2.1) default))])
     cases h2:(((wF (a1.2.getD (toNat ((bN (a1.1,a1.2) a2).getD (toNat v3) default).1) default) (a1.2.getD (toNat ((bN (a1.1,a1.2) a2).getD (toNat v3) default).2.1) default)).2:Int) != 0) with
     | true =>
      have q2:=bne_iff_ne.1 h2
      try have hbf:=nC (l:=a0) (t:=a1) (sep:=a2) hi.2.1 (j:=v3) hi.1 h0
      have e:=Eq.refl (bA a0 a1 a2 a3 (v2,v3));conv at e=>rhs;simp only [bA,h0,h1,h2,aS]
      rw [aN,e]
      exact rt (t2++[.d h2]) [.cell 4 0 1,.cell 4 1 8,.cell 4 2 3,.cell 4 3 1] [14,15,16,17] hcx (by kernel_rfl)
     | false =>
      have q2:=bne_eq_false_iff_eq.1 h2
      try have hbf:=nC (l:=a0) (t:=a1) (sep:=a2) hi.2.1 (j:=v3) hi.1 h0
      have e:=Eq.refl (bA a0 a1 a2 a3 (v2,v3));conv at e=>rhs;simp only [bA,h0,h1,h2,aS]
      rw [aE e]
      refine ba (t2++[.d h2,.p (show((k2 (wF (a1.2.getD (toNat ((bN (a1.1,a1.2) a2).getD (toNat v3) default).1) default) (a1.2.getD (toNat ((bN (a1.1,a1.2) a2).getD (toNat v3) default).2.1) default)).1)).length=1*2 from by first | (simp [bI lH];done) | rfl),.p (show((flat fQ v2).length=v2.length*1/\v2.length+1<=2 ^ 40/\(v2.length+1)*24<=2 ^ 47) from gK lM (by omega) (by omega))]) [] [0,3,5,8,11,44,45,46] [3,4,5,6,7,8,17] hcx (m:=n) vB (vC) (pC a0 a1 a2 a3 (flat fQ v2++[(.d (flat lG ([(wF (a1.2.getD (toNat ((bN (a1.1,a1.2) a2).getD (toNat v3) default).1) default) (a1.2.getD (toNat ((bN (a1.1,a1.2) a2).getD (toNat v3) default).2.1) default)).1]:List (Int×Int))) ([(wF (a1.2.getD (toNat ((bN (a1.1,a1.2) a2).getD (toNat v3) default).1) default) (a1.2.getD (toNat ((bN (a1.1,a1.2) a2).getD (toNat v3) default).2.1) default)).1]:List (Int×Int)).length 2)]) (v2.length+1) (W (v3+1))) (by kernel_rfl) ?_
      have z0:(W (v3+1))=(v3+1):=aJ (by omega) (by omega)
      have z1:(flat fQ v2++[(.d (flat lG ([(wF (a1.2.getD (toNat ((bN (a1.1,a1.2) a2).getD (toNat v3) default).1) default) (a1.2.getD (toNat ((bN (a1.1,a1.2) a2).getD (toNat v3) default).2.1) default)).1]:List (Int×Int))) ([(wF (a1.2.getD (toNat ((bN (a1.1,a1.2) a2).getD (toNat v3) default).1) default) (a1.2.getD (toNat ((bN (a1.1,a1.2) a2).getD (toNat v3) default).2.1) default)).1]:List (Int×Int)).length 2)])=(flat fQ (v2++[([(wF (a1.2.getD (toNat ((bN (a1.1,a1.2) a2).getD (toNat v3) default).1) default) (a1.2.getD (toNat ((bN (a1.1,a1.2) a2).getD (toNat v3) default).2.1) default)).1]:List (Int×Int))])):=(bL (c:=fQ) (l:=v2) (m:=[([(wF (a1.2.getD (toNat ((bN (a1.1,a1.2) a2).getD (toNat v3) default).1) default) (a1.2.getD (toNat ((bN (a1.1,a1.2) a2).getD (toNat v3) default).2.1) default)).1]:List (Int×Int))])).symm
      have z2:(v2.length+1)=(v2++[([(wF (a1.2.getD (toNat ((bN (a1.1,a1.2) a2).getD (toNat v3) default).1) default) (a1.2.getD (toNat ((bN (a1.1,a1.2) a2).getD (toNat v3) default).2.1) default)).1]:List (Int×Int))]).length:=gU v2 [([(wF (a1.2.getD (toNat ((bN (a1.1,a1.2) a2).getD (toNat v3) default).1) default) (a1.2.getD (toNat ((bN (a1.1,a1.2) a2).getD (toNat v3) default).2.1) default)).1]:List (Int×Int))] rfl
      rw [z0,z1,z2]
      exact ih (v2++[([(wF (a1.2.getD (toNat ((bN (a1.1,a1.2) a2).getD (toNat v3) default).1) default) (a1.2.getD (toNat ((bN (a1.1,a1.2) a2).getD (toNat v3) default).2.1) default)).1]:List (Int×Int))]) (v3+1) (by(repeat' apply And.intro)<;>(try simp only [Ls])<;>first | omega | assumption | exact hd.2.2.2.1.part _ _ | exact hi.2.2.2.2.2.2.2.1 | exact hi.2.2.2.2.2.2.2.2.2.2.2.2.1) (by(try simp only [Ls]);omega)
    | false =>
     try have hbf:=nC (l:=a0) (t:=a1) (sep:=a2) hi.2.1 (j:=v3) hi.1 h0
     have e:=Eq.refl (bA a0 a1 a2 a3 (v2,v3));conv at e=>rhs;simp only [bA,h0,h1,aS]
     rw [aN,e]
     refine en (t1++[.d h1,.S aM (a1.1) ((a1.2.getD (toNat ((bN (a1.1,a1.2) a2).getD (toNat v3) default).1) default).1) ((a1.2.getD (toNat ((bN (a1.1,a1.2) a2).getD (toNat v3) default).1) default).2.1) (a1.1.length)]) [.slot 16 2] [0,3,5,8,11,15,16,44,45,46,84,85,86] [3,4,5,12,14,6,13,7,8,9] hcx aD1 (aD2 n) (xD a0 a1 a2 a3 (flat lG ([]:List (Int×Int))) 0 (flat c3 (Aw.part (a1.1) ((a1.2.getD (toNat ((bN (a1.1,a1.2) a2).getD (toNat v3) default).1) default).1) ((a1.2.getD (toNat ((bN (a1.1,a1.2) a2).getD (toNat v3) default).1) default).2.1))) (toNat (a1.2.getD (toNat ((bN (a1.1,a1.2) a2).getD (toNat v3) default).1) default).2.1 - toNat (a1.2.getD (toNat ((bN (a1.1,a1.2) a2).getD (toNat v3) default).1) default).1) (flat fQ v2) (v2.length) v3 (((toNat (a1.2.getD (toNat ((bN (a1.1,a1.2) a2).getD (toNat v3) default).1) default).2.1 - toNat (a1.2.getD (toNat ((bN (a1.1,a1.2) a2).getD (toNat v3) default).1) default).1):Nat):Int) 0 ((a1.2.getD (toNat ((bN (a1.1,a1.2) a2).getD (toNat v3) default).2.1) default).1) ((a1.2.getD (toNat ((bN (a1.1,a1.2) a2).getD (toNat v3) default).2.1) default).2.1) ((a1.2.getD (toNat ((bN (a1.1,a1.2) a2).getD (toNat v3) default).2.1) default).2.2.1) ((a1.2.getD (toNat ((bN (a1.1,a1.2) a2).getD (toNat v3) default).2.1) default).2.2.2.1) ((a1.2.getD (toNat ((bN (a1.1,a1.2) a2).getD (toNat v3) default).2.1) default).2.2.2.2.1.1) ((a1.2.getD (toNat ((bN (a1.1,a1.2) a2).getD (toNat v3) default).2.1) default).2.2.2.2.1.2.1) ((a1.2.getD (toNat ((bN (a1.1,a1.2) a2).getD (toNat v3) default).2.1) default).2.2.2.2.1.2.2) ((a1.2.getD (toNat ((bN (a1.1,a1.2) a2).getD (toNat v3) default).2.1) default).2.2.2.2.2)) (toNat ((((toNat (a1.2.getD (toNat ((bN (a1.1,a1.2) a2).getD (toNat v3) default).1) default).2.1 - toNat (a1.2.getD (toNat ((bN (a1.1,a1.2) a2).getD (toNat v3) default).1) default).1):Nat):Int) - 0)+1) (by kernel_rfl) ?_
     have z0:(toNat (a1.2.getD (toNat ((bN (a1.1,a1.2) a2).getD (toNat v3) default).1) default).2.1 - toNat (a1.2.getD (toNat ((bN (a1.1,a1.2) a2).getD (toNat v3) default).1) default).1)=(Aw.part (a1.1) ((a1.2.getD (toNat ((bN (a1.1,a1.2) a2).getD (toNat v3) default).1) default).1) ((a1.2.getD (toNat ((bN (a1.1,a1.2) a2).getD (toNat v3) default).1) default).2.1)).length:=(part_len (by omega)).symm
     rw [z0]
     exact aSg a0 a1 a2 a3 l0 l1_1 l1_2 hcx n ih (toNat (((((Aw.part (a1.1) ((a1.2.getD (toNat ((bN (a1.1,a1.2) a2).getD (toNat v3) default).1) default).1) ((a1.2.getD (toNat ((bN (a1.1,a1.2) a2).getD (toNat v3) default).1) default).2.1)).length):Nat):Int) - 0)+1) ([]:List (Int×Int)) (Aw.part (a1.1) ((a1.2.getD (toNat ((bN (a1.1,a1.2) a2).getD (toNat v3) default).1) default).1) ((a1.2.getD (toNat ((bN (a1.1,a1.2) a2).getD (toNat v3) default).1) default).2.1)) v2 v3 ((((Aw.part (a1.1) ((a1.2.getD (toNat ((bN (a1.1,a1.2) a2).getD (toNat v3) default).1) default).1) ((a1.2.getD (toNat ((bN (a1.1,a1.2) a2).getD (toNat v3) default).1) default).2.1)).length):Nat):Int) 0 ((a1.2.getD (toNat ((bN (a1.1,a1.2) a2).getD (toNat v3) default).2.1) default).1) ((a1.2.getD (toNat ((bN (a1.1,a1.2) a2).getD (toNat v3) default).2.1) default).2.1) ((a1.2.getD (toNat ((bN (a1.1,a1.2) a2).getD (toNat v3) default).2.1) default).2.2.1) ((a1.2.getD (toNat ((bN (a1.1,a1.2) a2).getD (toNat v3) default).2.1) default).2.2.2.1) ((a1.2.getD (toNat ((bN (a1.1,a1.2) a2).getD (toNat v3) default).2.1) default).2.2.2.2.1.1) ((a1.2.getD (toNat ((bN (a1.1,a1.2) a2).getD (toNat v3) default).2.1) default).2.2.2.2.1.2.1) ((a1.2.getD (toNat ((bN (a1.1,a1.2) a2).getD (toNat v3) default).2.1) default).2.2.2.2.1.2.2) ((a1.2.getD (toNat ((bN (a1.1,a1.2) a2).getD (toNat v3) default).2.1) default).2.2.2.2.2) (by(repeat' apply And.intro)<;>(try simp only [Ls])<;>first | omega | assumption | exact hd.2.2.2.1.part _ _ | exact hi.2.2.2.2.2.2.2.1 | exact hi.2.2.2.2.2.2.2.2.2.2.2.2.1) (by(try simp only [Ls]);omega)
   | false =>
    have q0:=cH h0
    try have hbf:=nC (l:=a0) (t:=a1) (sep:=a2) hi.2.1 (j:=v3) hi.1 h0
    have e:=Eq.refl (bA a0 a1 a2 a3 (v2,v3));conv at e=>rhs;simp only [bA,h0,aS]
    rw [aN,e]
    exact rt [.d h0] [] [7,8,6,9] hcx (by kernel_rfl)
def cD (a0:bM)(a1:List (Int)×bE)(a2:Int)(a3:Int):((List (Int)×bE)×(List (Int×Int×Bool))×List (List (Int×Int)))×Int :=
 (bif (((cW a0 (a1.1,a1.2) a2):Int) != 0) then
  (((([]:List (Int)),([]:bE)),([]:List (Int×Int×Bool)),([]:List (List (Int×Int)))),(cW a0 (a1.1,a1.2) a2))
 else
  (bif (!(rN a3 0 2)) then
   (((([]:List (Int)),([]:bE)),([]:List (Int×Int×Bool)),([]:List (List (Int×Int)))),1)
  else
   (aC (bA a0 a1 a2 a3) (toNat ((((bN (a1.1,a1.2) a2).length:Nat):Int) - 0)+1) (([]:List (List (Int×Int))),0))))
theorem aWh (a0:bM)(a1:List (Int)×bE)(a2:Int)(a3:Int)(l0:a0.length<=9223372036854775807)(l1_1:a1.1.length<=9223372036854775807)(l1_2:a1.2.length<=9223372036854775807) [h5:dR a0]:Con Tryz.prog 7 [(.s 0 0 a0.length 10),(.a [(.s 1 0 a1.1.length 1),(.s 2 0 a1.2.length 8)]),(iv a2),(iv a3)] [(.live false true (flat eF a0)),(.live false true (flat c3 a1.1)),(.live false true (flat bT a1.2))] (.t [(.a [(.s 3 0 (cD a0 a1 a2 a3).1.1.1.length 1),(.s 4 0 (cD a0 a1 a2 a3).1.1.2.length 8),(.s 5 0 (cD a0 a1 a2 a3).1.2.1.length 3),(.s 6 0 (cD a0 a1 a2 a3).1.2.2.length 1)]),(iv (cD a0 a1 a2 a3).2)]) [(.live true true (flat c3 (cD a0 a1 a2 a3).1.1.1)),(.live true true (flat bT (cD a0 a1 a2 a3).1.1.2)),(.live true true (flat dU (cD a0 a1 a2 a3).1.2.1)),(.live true true (flat fQ (cD a0 a1 a2 a3).1.2.2))]:=by
 refine aO Tryz.func7 (by kernel_rfl) fun cx hcx=>?_
 try have hd:=fA (l:=a0) (t:=a1) (sep:=a2) (bne_eq_false_iff_eq.1 h0)
 let t0:List (St Tryz.prog):=[.c [0,1,2] (aUu a0 (a1.1,a1.2) a2 (by omega) (by(try simp only [Lt]);omega) (by(try simp only [Lt]);omega))]
 cases h0:(((cW a0 (a1.1,a1.2) a2):Int) != 0) with
 | true =>
  have q0:=bne_iff_ne.1 h0
  try have hd:=fA (l:=a0) (t:=a1) (sep:=a2) (bne_eq_false_iff_eq.1 h0)
  have e:=Eq.refl (cD a0 a1 a2 a3);conv at e=>rhs;simp only [cD,h0,aS]
  rw [e]
  exact rt (t0++[.d h0]) [.cell 4 0 1,.cell 4 1 8,.cell 4 2 3,.cell 4 3 1] [5,6,7,8] hcx (by kernel_rfl)
 | false =>
  have q0:=bne_eq_false_iff_eq.1 h0
  try have hd:=fA (l:=a0) (t:=a1) (sep:=a2) (bne_eq_false_iff_eq.1 h0)
  let t1:List (St Tryz.prog):=(t0++[.d h0,.c [] (C21 a3 0 2)])
  cases h1:(!(rN a3 0 2)) with
  | true =>
   try have hd:=fA (l:=a0) (t:=a1) (sep:=a2) (bne_eq_false_iff_eq.1 h0)
   have e:=Eq.refl (cD a0 a1 a2 a3);conv at e=>rhs;simp only [cD,h0,h1,aS]
   rw [e]
   exact rt (t1++[.d h1]) [.cell 4 0 1,.cell 4 1 8,.cell 4 2 3,.cell 4 3 1] [5,6,7,8] hcx (by kernel_rfl)
  | false =>
   try have hd:=fA (l:=a0) (t:=a1) (sep:=a2) (bne_eq_false_iff_eq.1 h0)
   have e:=Eq.refl (cD a0 a1 a2 a3);conv at e=>rhs;simp only [cD,h0,h1,aS]
   rw [e]
   refine en (t1++[.d h1,.c [1,2] (C22 (a1.1,a1.2) (by(try simp only [Lt]);omega) (by(try simp only [Lt]);omega) (by(try simp only [Lt]);omega)),.c [1,2] (C23 (a1.1,a1.2) a2 (by(try simp only [Lt]);omega) (by(try simp only [Lt]);omega) (fun q=>aJf (aDy (l:=a0) (t:=(a1.1,a1.2)) (sep:=a2) (bne_eq_false_iff_eq.1 h0)) q))]) [.cell 8 3 1] [0,3,5,8,11,44,45,46] [3,4,8,7,5,6,9] hcx vB (vC) (pC a0 a1 a2 a3 (flat fQ ([]:List (List (Int×Int)))) 0 0) (toNat ((((bN (a1.1,a1.2) a2).length:Nat):Int) - 0)+1) (by kernel_rfl) ?_
   exact aSh a0 a1 a2 a3 l0 l1_1 l1_2 hcx (toNat ((((bN (a1.1,a1.2) a2).length:Nat):Int) - 0)+1) ([]:List (List (Int×Int))) 0 (by(repeat' apply And.intro)<;>(try simp only [Ls])<;>first | omega | assumption | exact hd.2.2.2.1.part _ _ | exact hi.2.2.2.2.2.2.2.1 | exact hi.2.2.2.2.2.2.2.2.2.2.2.2.1) (by(try simp only [Ls]);omega)
end Go.Proofs.YtmihafgemmgepaaGreat
