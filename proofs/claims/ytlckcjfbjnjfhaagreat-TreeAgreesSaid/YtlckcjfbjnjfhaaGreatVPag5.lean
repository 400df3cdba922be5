/-
  Parts of the proofs of the laws: the executor, what functions of the program compute, and that it is what the statements ask. No premise.
-/
import Derived.Test.YtlckcjfbjnjfhaaGreatVPag4
set_option linter.unusedVariables false
set_option linter.unusedSimpArgs false
set_option maxHeartbeats 4000000
open Int renaming toNat → tN
open Inhabited renaming default → dF
namespace Go.Proofs.YtlckcjfbjnjfhaaGreat
open Go.Proofs Go.Aw Go.RowKit
set_option maxRecDepth 100000
def VCH (l:cN):Prop:=l.length<=96/\∀i,i < l.length->vp (l.getD i dF).1=0/\(-100<=(l.getD i dF).2/\(l.getD i dF).2<=100)
theorem aHo {l:cN}:∀(d i n:Nat),d=l.length - i->i<=l.length->d < n->aA (dV l) n (i:Int)=0->∀j,i<=j->j < l.length->vp (l.getD j dF).1=0/\(-100<=(l.getD j dF).2/\(l.getD j dF).2<=100)
 | 0,i,n,hd,hi,hn,_,j,h1,h2=>absurd h2 (by omega)
 | d+1,i,n,hd,hi,hn,h,j,h1,h2=>by
  obtain⟨n,rfl⟩:∃m,n=m+1:=⟨n - 1,by omega⟩
  have e:dV l (i:Int)=bif (((sR (l.getD i dF).1):Int) != 0) then .inr (sR (l.getD i dF).1) else bif (!(F59 (l.getD i dF).2 (-100) 100)) then .inr 1 else .inl ((i+1:Nat):Int):=by
   simp only [dV,fW]
   rw [bQ (show((i:Nat):Int) < (l.length:Int) by omega),cond_true];rfl
  cases hv:(((sR (l.getD i dF).1):Int) != 0) with
  | true =>
   rw [hv,cond_true] at e
   rw [aG e] at h
   rw [h] at hv;exact absurd hv (by decide)
  | false =>
   rw [hv,cond_false] at e
   cases hw:(!(F59 (l.getD i dF).2 (-100) 100)) with
   | true =>
    rw [hw,cond_true] at e
    rw [aG e] at h
    exact absurd h (by decide)
   | false =>
    rw [hw,cond_false] at e
    rw [aB e] at h
    by_cases hj:j=i
    ·subst hj
     refine⟨?_,?_⟩
     ·rw [←aI9];exact bne_eq_false_iff_eq.1 hv
     ·simp only [F59,Bool.not_eq_false'] at hw
      by_cases h3:(l.getD j dF).2≥-100
      ·rw [bQ h3,cond_true] at hw;exact⟨h3,dB hw⟩
      ·rw [cG h3,cond_false] at hw;cases hw
    ·exact aHo d (i+1) n (by omega) (by omega) (by omega) h j (by omega) h2
theorem aBz {l:cN} (h:eI l=0):VCH l:=by
 refine⟨jE h,fun i hi=>?_⟩
 have hl:=jE h
 unfold eI at h
 rw [cG (show ¬(l.length:Int) > 96 by omega),cond_false] at h
 exact aHo l.length 0 _ (by omega) (by omega) (by omega) h i (Nat.zero_le _) hi
theorem aJx {l:cN} (h:VCH l) {i:Nat} (hi:i < l.length):bdP 64 (l.getD i dF).1:=(lV (h.2 i hi).1).1
section
variable {l : cN} {ns : List Int}
theorem aHp {i:Nat} (hi:i < ns.length):(fC l ns).getD i dF=l.getD (tN (ns.getD i dF)) dF:=by
 rw [aJr];simp [cY,hi]
theorem aHq (hl:ns.length<=1048576):∀(n i:Nat) (a1 a2 a3 b1 b2 b3:Int),ns.length - i < n ->
 aA (eW (fC l ns)) n ((i:Int),a1,a2,a3,b1,b2,b3) =
  (aA (cQ l ns 0) n (a1,b1,(i:Int)),aA (cQ l ns 1) n (a2,b2,(i:Int)),aA (cQ l ns 2) n (a3,b3,(i:Int)))
 | 0,_,_,_,_,_,_,_,h=>absurd h (fJ _)
 | n+1,i,a1,a2,a3,b1,b2,b3,h=>by
  have hm:(fC l ns).length=ns.length:=aE6 l ns
  by_cases h1:i < ns.length
  ·have hg:=aHp (l:=l) h1
   have e:eW (fC l ns) ((i:Int),a1,a2,a3,b1,b2,b3)=.inl (((i+1:Nat):Int),fY (fY (fY a1 (l.getD (tN (ns.getD i dF)) dF).1.1.1) (l.getD (tN (ns.getD i dF)) dF).1.2.1.1) (l.getD (tN (ns.getD i dF)) dF).1.2.2.1,fY (fY (fY a2 (l.getD (tN (ns.getD i dF)) dF).1.1.2.1) (l.getD (tN (ns.getD i dF)) dF).1.2.1.2.1) (l.getD (tN (ns.getD i dF)) dF).1.2.2.2.1,fY (fY (fY a3 (l.getD (tN (ns.getD i dF)) dF).1.1.2.2) (l.getD (tN (ns.getD i dF)) dF).1.2.1.2.2) (l.getD (tN (ns.getD i dF)) dF).1.2.2.2.2,
    cE (cE (cE b1 (l.getD (tN (ns.getD i dF)) dF).1.1.1) (l.getD (tN (ns.getD i dF)) dF).1.2.1.1) (l.getD (tN (ns.getD i dF)) dF).1.2.2.1,cE (cE (cE b2 (l.getD (tN (ns.getD i dF)) dF).1.1.2.1) (l.getD (tN (ns.getD i dF)) dF).1.2.1.2.1) (l.getD (tN (ns.getD i dF)) dF).1.2.2.2.1,cE (cE (cE b3 (l.getD (tN (ns.getD i dF)) dF).1.1.2.2) (l.getD (tN (ns.getD i dF)) dF).1.2.1.2.2) (l.getD (tN (ns.getD i dF)) dF).1.2.2.2.2):=by
    simp only [eW,fW,hg,hm]
    rw [bQ (by omega),cond_true];rfl
   have r:∀k a b,cQ l ns k (a,b,(i:Int))=.inl (fY (fY (fY a (eM (l.getD (tN (ns.getD i dF)) dF).1.1 k)) (eM (l.getD (tN (ns.getD i dF)) dF).1.2.1 k)) (eM (l.getD (tN (ns.getD i dF)) dF).1.2.2 k),
    cE (cE (cE b (eM (l.getD (tN (ns.getD i dF)) dF).1.1 k)) (eM (l.getD (tN (ns.getD i dF)) dF).1.2.1 k)) (eM (l.getD (tN (ns.getD i dF)) dF).1.2.2 k),((i+1:Nat):Int)):=fun k a b=>by
    simp only [cQ,fW]
    rw [bQ (by omega),cond_true];rfl
   rw [aB e,aB (r 0 a1 b1),aB (r 1 a2 b2),aB (r 2 a3 b3)]
   exact aHq hl n (i+1) _ _ _ _ _ _ (by omega)
  ·have e:eW (fC l ns) ((i:Int),a1,a2,a3,b1,b2,b3)=.inr (aJv a1 b1,aJv a2 b2,aJv a3 b3):=by
    simp only [eW,hm]
    rw [cG (by omega),cond_false];rfl
   have r:∀k a b,cQ l ns k (a,b,(i:Int))=.inr (aJv a b):=fun k a b=>by
    simp only [cQ]
    rw [cG (by omega),cond_false]
   rw [aG e,aG (r 0 a1 b1),aG (r 1 a2 b2),aG (r 2 a3 b3)]
theorem aXb (hv:VCH l)(hi:InR l.length ns)(h1:1<=ns.length)(hl:ns.length<=1048576):bO (fC l ns)=(bF l ns 0,bF l ns 1,bF l ns 2):=by
 have hm:(fC l ns).length=ns.length:=aE6 l ns
 have hg:=aHp (l:=l) (ns:=ns) (i:=0) (by omega)
 have h0:=hi.at (i:=0) (by omega)
 have hb:=aJx hv (i:=tN (ns.getD 0 dF)) (by omega)
 unfold bO bF
 rw [hm,show(tN 0)=0 from rfl,hg]
 obtain⟨n,hn⟩:∃n,tN ((ns.length:Int) - 0)+1=n+1:=⟨_,rfl⟩
 rw [hn]
 have hnn:ns.length<=n:=by omega
 generalize hp:l.getD (tN (ns.getD 0 dF)) dF=p at hb hg ⊢
 -- the first round
 have e:eW (fC l ns) (0,p.1.1.1,p.1.1.2.1,p.1.1.2.2,p.1.1.1,p.1.1.2.1,p.1.1.2.2)=.inl (((1:Nat):Int),fY (fY (fY p.1.1.1 p.1.1.1) p.1.2.1.1) p.1.2.2.1,fY (fY (fY p.1.1.2.1 p.1.1.2.1) p.1.2.1.2.1) p.1.2.2.2.1,fY (fY (fY p.1.1.2.2 p.1.1.2.2) p.1.2.1.2.2) p.1.2.2.2.2,
  cE (cE (cE p.1.1.1 p.1.1.1) p.1.2.1.1) p.1.2.2.1,cE (cE (cE p.1.1.2.1 p.1.1.2.1) p.1.2.1.2.1) p.1.2.2.2.1,cE (cE (cE p.1.1.2.2 p.1.1.2.2) p.1.2.1.2.2) p.1.2.2.2.2):=by
  simp only [eW,show(tN 0)=0 from rfl,hg,hm]
  rw [bQ (by omega),cond_true];rfl
 have r:∀k,cQ l ns k (64,(-64),0)=.inl (fY (fY (fY 64 (eM p.1.1 k)) (eM p.1.2.1 k)) (eM p.1.2.2 k),
  cE (cE (cE (-64) (eM p.1.1 k)) (eM p.1.2.1 k)) (eM p.1.2.2 k),((1:Nat):Int)):=fun k=>by
  simp only [cQ,show(tN 0)=0 from rfl,hp]
  rw [bQ (by omega),cond_true];rfl
 have m1:∀x y z:Int,(-64<=x/\x<=64)->fY (fY (fY 64 x) y) z=fY (fY (fY x x) y) z:=fun x y z hx=>by
  congr 2;unfold fY;split<;>split<;>omega
 have m2:∀x y z:Int,(-64<=x/\x<=64)->cE (cE (cE (-64) x) y) z=cE (cE (cE x x) y) z:=fun x y z hx=>by
  congr 2;unfold cE;split<;>split<;>omega
 obtain⟨⟨hx,hy,hz⟩,_⟩:=hb
 rw [aB e,aB (r 0),aB (r 1),aB (r 2),aHq hl n 1 _ _ _ _ _ _ (by omega)]
 rw [m1 _ _ _ (show -64<=eM p.1.1 0/\eM p.1.1 0<=64 from hx),m2 _ _ _ (show -64<=eM p.1.1 0/\eM p.1.1 0<=64 from hx),
  m1 _ _ _ (show -64<=eM p.1.1 1/\eM p.1.1 1<=64 from hy),m2 _ _ _ (show -64<=eM p.1.1 1/\eM p.1.1 1<=64 from hy),
  m1 _ _ _ (show -64<=eM p.1.1 2/\eM p.1.1 2<=64 from hz),m2 _ _ _ (show -64<=eM p.1.1 2/\eM p.1.1 2<=64 from hz)]
 rfl
theorem aL1 (hv:VCH l)(hi:InR l.length ns)(k:Int):∀(n i:Nat) (a b:Int),ns.length - i < n->(-64<=a/\a<=64)->(-64<=b/\b<=64)->-64<=aA (cQ l ns k) n (a,b,(i:Int))/\aA (cQ l ns k) n (a,b,(i:Int))<=64
 | 0,_,_,_,h,_,_=>absurd h (fJ _)
 | n+1,i,a,b,h,ha,hb=>by
  by_cases h1:i < ns.length
  ·have h0:=hi.at h1
   have hp:=aJx hv (i:=tN (ns.getD i dF)) (by omega)
   have r:cQ l ns k (a,b,(i:Int))=.inl (fY (fY (fY a (eM (l.getD (tN (ns.getD i dF)) dF).1.1 k)) (eM (l.getD (tN (ns.getD i dF)) dF).1.2.1 k)) (eM (l.getD (tN (ns.getD i dF)) dF).1.2.2 k),
    cE (cE (cE b (eM (l.getD (tN (ns.getD i dF)) dF).1.1 k)) (eM (l.getD (tN (ns.getD i dF)) dF).1.2.1 k)) (eM (l.getD (tN (ns.getD i dF)) dF).1.2.2 k),((i+1:Nat):Int)):=by
    simp only [cQ,fW]
    rw [bQ (by omega),cond_true];rfl
   rw [aB r]
   have ax:∀p:Zt,bd 64 p->-64<=eM p k/\eM p k<=64:=fun p hp=>by
    unfold eM
    rw [Bool.cond_eq_ite]
    split
    ·exact hp.1
    ·rw [Bool.cond_eq_ite]
     split
     ·exact hp.2.1
     ·exact hp.2.2
   have qa1:=ax _ hp.1;have qa2:=ax _ hp.2.1;have qa3:=ax _ hp.2.2
   have mn:∀x y:Int,(-64<=x/\x<=64)->(-64<=y/\y<=64)->-64<=fY x y/\fY x y<=64:=fun x y hx hy=>by unfold fY;split<;>assumption
   have mx:∀x y:Int,(-64<=x/\x<=64)->(-64<=y/\y<=64)->-64<=cE x y/\cE x y<=64:=fun x y hx hy=>by unfold cE;split<;>assumption
   exact aL1 hv hi k n (i+1) _ _ (by omega) (mn _ _ (mn _ _ (mn _ _ ha qa1) qa2) qa3) (mx _ _ (mx _ _ (mx _ _ hb qa1) qa2) qa3)
  ·have r:cQ l ns k (a,b,(i:Int))=.inr (aJv a b):=by
    simp only [cQ]
    rw [cG (by omega),cond_false]
   rw [aG r]
   unfold aJv
   rw [aH (by omega) (by omega),show(2:Int) ^ (min (tN 1) 64)=2 from by decide,Int.fdiv_eq_ediv_of_nonneg _ (by decide)]
   omega
theorem wS (hv:VCH l)(hi:InR l.length ns)(k:Int):-64<=bF l ns k/\bF l ns k<=64 :=
 aL1 hv hi k _ 0 64 (-64) (by omega) (by omega) (by omega)
theorem aXc (m:cN) {c:Zt} (hc:bd 64 c):pT m c=mL m c:=by
 obtain⟨h1,h2,h3⟩:=hc
 have hW:W (0 - 64)=-64:=by decide
 have e1:aBn c 64=true:=by
  unfold aBn aBm
  rw [hW,bQ h1.1,bQ h1.2,bQ h2.1,bQ h2.2,bQ h3.1,bQ h3.2];rfl
 have sz:∀x:Int,(-64<=x/\x<=64)->yU x<=64:=fun x hx=>by
  unfold yU
  rw [aH (n:=0 - x) (by omega) (by omega)]
  split<;>omega
 have e2:F86 c 64=true:=by
  unfold F86
  rw [hW,bQ (sz _ h1),bQ (sz _ h2),bQ (sz _ h3),bQ (show c.1≥-64 from h1.1),bQ (show c.2.1≥-64 from h2.1),bQ (show c.2.2≥-64 from h3.1)];rfl
 have e3:jZ m c=wR m c:=by
  unfold jZ wR
  rw [pY,e1,e2]
 have e4:lE m c=jT m c:=by
  funext ⟨v1,v2⟩
  rfl
 unfold pT mL
 rw [e3,e4]
def aZ7 (b:BU):Zt⊕Int->Zt⊕(BU×Int)
 | .inl s=>.inl s
 | .inr x=>.inr (b,x)
theorem aL2 {b:BU} (hb:b.1=l) {k:Int}:∀(n i:Nat) (v15 v16 lo hi:Int),ns.length - i < n ->
 aA (dT b ns) n (v15,v16,k,lo,hi,k,(i:Int))=aZ7 b (aA (dS l ns) n (v15,v16,k,lo,hi,(i:Int)))
 | 0,_,_,_,_,_,h=>absurd h (fJ _)
 | n+1,i,v15,v16,lo,hi,h=>by
  have hk:∀x:Int,gC (b.1,b.2.1,(b.2.2.1,b.2.2.2)) x k=iY (l.getD (tN x) dF) k:=fun x=>by
   rw [aFa,←hb];rfl
  by_cases h1:i < ns.length
  ·have e:dT b ns (v15,v16,k,lo,hi,k,(i:Int))=.inl (v15,v16,k,fY lo (iY (l.getD (tN (ns.getD i dF)) dF) k),cE hi (iY (l.getD (tN (ns.getD i dF)) dF) k),k,((i+1:Nat):Int)):=by
    simp only [dT,hk,fW]
    rw [bQ (by omega),cond_true];rfl
   have r:dS l ns (v15,v16,k,lo,hi,(i:Int))=.inl (v15,v16,k,fY lo (iY (l.getD (tN (ns.getD i dF)) dF) k),cE hi (iY (l.getD (tN (ns.getD i dF)) dF) k),((i+1:Nat):Int)):=by
    simp only [dS,fW]
    rw [bQ (by omega),cond_true];rfl
   rw [aB e,aB r]
   exact aL2 hb n (i+1) _ _ _ _ (by omega)
  ·have e:dT b ns (v15,v16,k,lo,hi,k,(i:Int))=.inr (aZ7 b (bif (decide (((W (hi - lo)):Int) > v16)) then .inl (k,(W (hi - lo)),k+1) else .inl (v15,v16,k+1))):=by
    simp only [dT]
    rw [cG (by omega),cond_false]
    cases decide (((W (hi - lo)):Int) > v16)<;>rfl
   have r:dS l ns (v15,v16,k,lo,hi,(i:Int))=.inr (bif (decide (((W (hi - lo)):Int) > v16)) then .inl (k,(W (hi - lo)),k+1) else .inl (v15,v16,k+1)):=by
    simp only [dS]
    rw [cG (by omega),cond_false]
    cases decide (((W (hi - lo)):Int) > v16)<;>rfl
   rw [aG e,aG r]
theorem aL3 {b:BU} (hb:b.1=l)(h1:1<=ns.length):∀(n:Nat) (v12 v13 k:Int),tN (3 - k) < n ->
 aA (eX b ns) n (v12,v13,k)=(b,aA (gZ l ns) n (v12,v13,k))
 | 0,_,_,_,h=>absurd h (fJ _)
 | n+1,v12,v13,k,h=>by
  have hk:∀x:Int,gC (b.1,b.2.1,(b.2.2.1,b.2.2.2)) x k=iY (l.getD (tN x) dF) k:=fun x=>by
   rw [aFa,←hb];rfl
  by_cases h3:k < 3
  ·generalize hK:iY (l.getD (tN (ns.getD (tN 0) dF)) dF) k=K
   have e0:eX b ns (v12,v13,k)=aA (dT b ns) (tN ((ns.length:Int) - 0)+1) (v12,v13,k,K,K,k,((0:Nat):Int)):=by
    simp only [eX,hk,hK]
    rw [bQ h3,cond_true];rfl
   have r0:gZ l ns (v12,v13,k)=aA (dS l ns) (tN ((ns.length:Int) - 1)+1) (v12,v13,k,K,K,((1:Nat):Int)):=by
    simp only [gZ,hK]
    rw [bQ h3,cond_true];rfl
   have f0:tN ((ns.length:Int) - 0)+1=(tN ((ns.length:Int) - 1)+1)+1:=by omega
   have e1:dT b ns (v12,v13,k,K,K,k,((0:Nat):Int))=.inl (v12,v13,k,K,K,k,((1:Nat):Int)):=by
    simp only [dT,hk,fW]
    rw [show(tN 0)=0 from rfl] at hK
    rw [bQ (by omega),cond_true,hK,if_neg (by omega)];rfl
   rw [f0,aB e1,aL2 hb _ 1 _ _ _ _ (by omega),←r0] at e0
   -- what a round brings
   have hr:∃x y,gZ l ns (v12,v13,k)=.inl (x,y,k+1):=by
    rw [r0]
    have gen:∀(m i:Nat) (lo hi:Int),ns.length - i < m->∃x y,aA (dS l ns) m (v12,v13,k,lo,hi,(i:Int))=.inl (x,y,k+1):=by
     intro m
     induction m with
     | zero=>intro _ _ _ h;exact absurd h (fJ _)
     | succ m ih =>
      intro i lo hi hm
      by_cases hi1:i < ns.length
      ·have r:dS l ns (v12,v13,k,lo,hi,(i:Int))=.inl (v12,v13,k,fY lo (iY (l.getD (tN (ns.getD i dF)) dF) k),cE hi (iY (l.getD (tN (ns.getD i dF)) dF) k),((i+1:Nat):Int)):=by
        simp only [dS,fW]
        rw [bQ (by omega),cond_true];rfl
       rw [aB r]
       exact ih (i+1) _ _ (by omega)
      ·have r:dS l ns (v12,v13,k,lo,hi,(i:Int))=.inr (bif (decide (((W (hi - lo)):Int) > v13)) then .inl (k,(W (hi - lo)),k+1) else .inl (v12,v13,k+1)):=by
        simp only [dS]
        rw [cG (by omega),cond_false]
        cases decide (((W (hi - lo)):Int) > v13)<;>rfl
       rw [aG r]
       cases decide (((W (hi - lo)):Int) > v13)
       ·exact⟨_,_,rfl⟩
       ·exact⟨_,_,rfl⟩
    exact gen _ 1 K K (by omega)
   obtain⟨x,y,hr⟩:=hr
   rw [hr] at e0
   rw [aB (show _=Sum.inl (x,y,k+1) from e0),aB hr]
   exact aL3 hb h1 n _ _ (k+1) (by omega)
  ·have e:eX b ns (v12,v13,k)=.inr (b,v12):=by
    simp only [eX]
    rw [cG h3,cond_false]
   have r:gZ l ns (v12,v13,k)=.inr v12:=by
    simp only [gZ]
    rw [cG h3,cond_false]
   rw [aG e,aG r]
theorem aXd {b:BU} (hb:b.1=l)(h1:1<=ns.length):aBs b ns=(b,aF l ns) :=
 aL3 hb h1 _ _ _ _ (by omega)
end
end Go.Proofs.YtlckcjfbjnjfhaaGreat
namespace Go.Proofs.YtlckcjfbjnjfhaaGreat
open Go.Proofs Go.Aw Go.RowKit
set_option maxRecDepth 100000
abbrev NDE:=Int×Int×Int×Int×Zt×Int
def aJy (l:cN)(ns:List Int):Zt:=(bF l ns 0,bF l ns 1,bF l ns 2)
def ndR (l:cN)(ns:List Int)(fr lt rt:Int):NDE:=(fr,fr+ns.length,lt,rt,aJy l ns,(mL (gR l ns) (aJy l ns)).1)
def GT (l:cN)(leaf:Int):Nat->List Int->Int->Int->List Int×List NDE
 | 0,_,_,_=>([],[])
 | n+1,ns,fr,at_ =>
  if(ns.length:Int)<=leaf then(ns,[ndR l ns fr (-1) (-1)]) else
   let s:=nH l (aF l ns) ns
   let h:=(ns.length+1) / 2
   let a:=GT l leaf n (s.take h) fr (at_+1)
   let b:=GT l leaf n (s.drop h) (fr+h) (at_+1+a.2.length)
   (a.1++b.1,ndR l ns fr (at_+1) (at_+1+a.2.length)::(a.2++b.2))
theorem kK {l:cN} {leaf:Int} {n:Nat} {ns:List Int} {fr a:Int} (h:(ns.length:Int)<=leaf):GT l leaf (n+1) ns fr a=(ns,[ndR l ns fr (-1) (-1)]):=by
 rw [GT,if_pos h]
theorem kL {l:cN} {leaf:Int} {n:Nat} {ns:List Int} {fr a:Int} (h:¬(ns.length:Int)<=leaf):GT l leaf (n+1) ns fr a =
 ((GT l leaf n ((nH l (aF l ns) ns).take ((ns.length+1) / 2)) fr (a+1)).1++(GT l leaf n ((nH l (aF l ns) ns).drop ((ns.length+1) / 2)) (fr+((ns.length+1) / 2:Nat)) (a+1+(GT l leaf n ((nH l (aF l ns) ns).take ((ns.length+1) / 2)) fr (a+1)).2.length)).1,
   ndR l ns fr (a+1) (a+1+(GT l leaf n ((nH l (aF l ns) ns).take ((ns.length+1) / 2)) fr (a+1)).2.length)::((GT l leaf n ((nH l (aF l ns) ns).take ((ns.length+1) / 2)) fr (a+1)).2++(GT l leaf n ((nH l (aF l ns) ns).drop ((ns.length+1) / 2)) (fr+((ns.length+1) / 2:Nat)) (a+1+(GT l leaf n ((nH l (aF l ns) ns).take ((ns.length+1) / 2)) fr (a+1)).2.length)).2)):=by
 rw [GT,if_neg h]
theorem aQi {α:Type} (pre post:List α)(x y:α):(pre++x::post).set pre.length y=pre++y::post:=by
 rw [List.set_append_right _ _ (Nat.le_refl _),Nat.sub_self];rfl
theorem aL4 {α:Type} [Inhabited α] (pre post:List α)(x:α):(pre++x::post).getD pre.length dF=x:=by
 rw [cY,List.getElem?_append_right (Nat.le_refl _),Nat.sub_self];rfl
theorem aUu {s:List Int} {h:Nat}:Aw.part s 0 (h:Int)=s.take h:=by unfold Aw.part;simp
theorem aZ8 {s:List Int} {h:Nat}:Aw.part s (h:Int) (s.length:Int)=s.drop h:=by
 unfold Aw.part
 rw [fW,fW]
 exact List.take_of_length_le (by rw [List.length_drop];exact Nat.le_refl _)
theorem aFb:∀(nr:Nat) (l:cN) (t:TR) (ns:List Int) (leaf:Int),PGRW l t ns leaf->ns.length < nr ->
 aD nr l t ns leaf=(t.1++(GT l leaf nr ns t.1.length t.2.length).1,t.2++(GT l leaf nr ns t.1.length t.2.length).2)
 | 0,_,_,_,_,_,h=>absurd h (fJ _)
 | nr+1,l,t,ns,leaf,hp,hn=>by
  have h:=hp.rng;have hl:=hp.lf;have hnd:=hp.nds
  simp only [aD]
  have hW:W ((t.1.length:Int)+(ns.length:Int))=(t.1.length:Int)+ns.length:=aH (by omega) (by omega)
  by_cases h0:(ns.length:Int)<=leaf
  ·rw [bQ h0,cond_true,kK h0,hW]
   rfl
  ·rw [cG h0,cond_false,kL h0]
   have g2:2<=ns.length:=by omega
   have hs:=aBx hp (aF l ns)
   have hf:=aBw (n:=ns.length) (by omega)
   have hso:=aQh (l:=l) (k:=aF l ns) (ns:=ns) (by omega)
   have hsl:=kJ l (aF l ns) ns
   have hpt1:=part_len (l:=bC l ns (aF l ns)) (a:=0) (b:=(((ns.length+1) / 2:Nat):Int)) (by omega)
   have hpt2:=part_len (l:=bC l ns (aF l ns)) (a:=(((ns.length+1) / 2:Nat):Int)) (b:=(ns.length:Int)) (by omega)
   have h5:GRR _ (bW (aD nr) l t ns leaf) _:=qP nr _ _ _ _ (rT hp _ g2) (by rw [hs.1,hf,hpt1];omega)
   have h5o:=h5.ol
   rw [hs.1,hf,hpt1] at h5o
   dsimp only at h5o
   have e2:bW (aD nr) l t ns leaf=_:=aFb nr _ _ _ _ (rT hp _ g2) (by rw [hs.1,hf,hpt1];omega)
   have e3:aE (aD nr) l t ns leaf=_:=aFb nr _ _ _ _ (aHm hp _ g2 h5) (by rw [hs.1,hf,hpt2];omega)
   have hf':W (Int.tdiv (W ((((nH l (aF l ns) ns).length:Nat):Int)+1)) 2)=(((ns.length+1) / 2:Nat):Int):=by rw [hsl];exact hf
   rw [hso,hf',aUu] at e2
   rw [hso,hf',aZ8] at e3
   rw [e2] at h5o e3
   simp only [List.length_append,List.length_cons,List.length_nil,Nat.zero_add,Int.natCast_add,Int.natCast_one] at e2 e3 h5o
   have ho1:(GT l leaf nr ((nH l (aF l ns) ns).take ((ns.length+1) / 2)) t.1.length (t.2.length+1)).1.length=(ns.length+1) / 2:=by omega
   rw [ho1] at e3
   rw [e3,e2]
   simp only [fW,List.append_assoc,List.cons_append,List.nil_append,aQi,aL4,hW,List.length_append,List.length_cons,Int.natCast_add,Int.natCast_one]
   rw [show(t.2.length:Int)+((GT l leaf nr ((nH l (aF l ns) ns).take ((ns.length+1) / 2)) t.1.length (t.2.length+1)).2.length+1)=t.2.length+1+(GT l leaf nr ((nH l (aF l ns) ns).take ((ns.length+1) / 2)) t.1.length (t.2.length+1)).2.length by omega]
   rfl
theorem wT (l:cN) {leaf:Int} (hl:1<=leaf):∀(n:Nat) (ns:List Int) (fr a:Int),ns.length < n->(GT l leaf n ns fr a).1.length=ns.length
 | 0,_,_,_,h=>absurd h (fJ _)
 | n+1,ns,fr,a,h=>by
  by_cases h0:(ns.length:Int)<=leaf
  ·rw [kK h0]
  ·rw [kL h0]
   have hsl:=kJ l (aF l ns) ns
   simp only [List.length_append]
   rw [wT l hl n _ _ _ (by rw [List.length_take,hsl];omega),wT l hl n _ _ _ (by rw [List.length_drop,hsl];omega),List.length_take,List.length_drop,hsl]
   omega
theorem aL5 (pre s post:List Int) {i k:Int} (h:Nat)(hi:i=pre.length)(hk:k=i+h)(hh:h<=s.length):Aw.part (pre++(s++post)) i k=s.take h:=by
 unfold Aw.part
 rw [hk,hi,show((pre.length:Int)+(h:Int)).toNat=pre.length+h by omega,fW,List.drop_append_of_le_length (Nat.le_refl _),List.drop_length,List.nil_append,show pre.length+h - pre.length=h by omega,List.take_append_of_le_length hh]
theorem aJz:∀(nr:Nat) (b:BU) (i k:Int),PADD b i k->VCH b.1->tN (k - i) < nr ->
 bJ nr b i k=((b.2.2.2.length:Int),b.1,b.2.1,b.2.2.1.take i.toNat++((GT b.1 b.2.1 nr (Aw.part b.2.2.1 i k) i b.2.2.2.length).1++b.2.2.1.drop k.toNat),b.2.2.2++(GT b.1 b.2.1 nr (Aw.part b.2.2.1 i k) i b.2.2.2.length).2)
 | 0,_,_,_,_,_,h=>absurd h (fJ _)
 | nr+1,b,i,k,hp,hv,hn=>by
  have h:=hp.rng;have hn2:=hp.nds;have hl:=hp.lf
  have hW:W (k - i)=k - i:=aH (by omega) (by omega)
  have hpl:=part_len (l:=b.2.2.1) (a:=i) (b:=k) (by omega)
  have hir:=hp.inr.part i k
  have hcen:bO (cS b i k)=aJy b.1 (Aw.part b.2.2.1 i k):=aXb hv hir (by rw [hpl];omega) (by rw [hpl];omega)
  have hrad:(fM b i k).1=(mL (gR b.1 (Aw.part b.2.2.1 i k)) (aJy b.1 (Aw.part b.2.2.1 i k))).1:=by
   unfold fM
   rw [hcen,aXc _ ⟨wS hv hir 0,wS hv hir 1,wS hv hir 2⟩]
   rfl
  have hnd:∀x y,((i,k,x,y,bO (cS b i k),(fM b i k).1):NDE)=ndR b.1 (Aw.part b.2.2.1 i k) i x y:=fun x y=>by
   unfold ndR
   rw [hcen,hrad,hpl,show i+((tN k - tN i:Nat):Int)=k by omega]
  simp only [bJ]
  by_cases h0:W (k - i) > b.2.1
  ·rw [bQ h0,cond_true,kL (by rw [hpl];omega)]
   have h2:2<=k - i:=by omega
   have hm:=aBt ⟨h.1,h.2.1,by omega⟩
   have hax:(aHj b i k).2=aF b.1 (Aw.part b.2.2.1 i k):=by
    unfold aHj
    exact congrArg Prod.snd (aXd (l:=b.1) (b:=(b.1,b.2.1,b.2.2.1,b.2.2.2++[(i,k,(-1),(-1),(bO (cS b i k)),(fM b i k).1)])) rfl (by rw [hpl];omega))
   have hor:yF b i k=b.2.2.1.take i.toNat++(nH b.1 (aF b.1 (Aw.part b.2.2.1 i k)) (Aw.part b.2.2.1 i k)++b.2.2.1.drop k.toNat):=by
    unfold yF
    rw [aXa (by omega) (by have:=hp.sm;omega),hax,List.append_assoc,show i.toNat+(k.toNat - i.toNat)=k.toNat by omega]
    rfl
   have h5:ADDR _ (dK (bJ nr) b i k).2 i _:=kI nr _ _ _ (aHk hp h2) (by rw [hm];omega)
   have e5:dK (bJ nr) b i k=_:=aJz nr _ _ _ (aHk hp h2) hv (by rw [hm];omega)
   have e6:aM (bJ nr) b i k=_:=aJz nr _ _ _ (aJs hp (oN hp).1 h2 h5) hv (by rw [hm];omega)
   have hsl:=kJ b.1 (aF b.1 (Aw.part b.2.2.1 i k)) (Aw.part b.2.2.1 i k)
   rw [hm,hnd] at e5
   generalize hs:nH b.1 (aF b.1 (Aw.part b.2.2.1 i k)) (Aw.part b.2.2.1 i k)=s at hor hsl e5 e6 ⊢
   generalize hh:((Aw.part b.2.2.1 i k).length+1) / 2=hf at e5 e6 ⊢
   have hfe:(i+(k - i+1) / 2)=i+(hf:Int):=by rw [←hh,hpl];omega
   have hsn:s.length=(k - i).toNat:=by rw [hsl,hpl];omega
   have hfs:hf<=s.length:=by rw [←hh,hpl,hsn];omega
   have htk:(b.2.2.1.take i.toNat).length=i.toNat:=by rw [List.length_take];omega
   dsimp only at e5
   have d1:(b.2.2.1.take i.toNat++(s++b.2.2.1.drop k.toNat)).take i.toNat=b.2.2.1.take i.toNat:=by
    rw [List.take_append_of_le_length (by rw [htk];exact Nat.le_refl _),List.take_of_length_le (by rw [htk];exact Nat.le_refl _)]
   have d2:(b.2.2.1.take i.toNat++(s++b.2.2.1.drop k.toNat)).drop (i+(hf:Int)).toNat=s.drop hf++b.2.2.1.drop k.toNat:=by
    rw [List.drop_append,List.drop_of_length_le (by rw [htk];omega),List.nil_append,htk,show(i+(hf:Int)).toNat - i.toNat=hf by omega,List.drop_append_of_le_length hfs]
   have g1:=wT b.1 hl nr (s.take hf) i (((b.2.2.2++[ndR b.1 (Aw.part b.2.2.1 i k) i (-1) (-1)]).length:Nat):Int) (by rw [List.length_take,hsn];have:=hn;rw [←hh,hpl];omega)
   have g2:=wT b.1 hl nr (s.drop hf) (i+(hf:Int)) ((((b.2.2.2++[ndR b.1 (Aw.part b.2.2.1 i k) i (-1) (-1)])++(GT b.1 b.2.1 nr (s.take hf) i (((b.2.2.2++[ndR b.1 (Aw.part b.2.2.1 i k) i (-1) (-1)]).length:Nat):Int)).2).length:Nat):Int) (by rw [List.length_drop,hsn];have:=hn;rw [←hh,hpl];omega)
   rw [hor,hfe,aL5 (b.2.2.1.take i.toNat) s (b.2.2.1.drop k.toNat) hf (by rw [htk];omega) rfl hfs,d1,d2] at e5
   rw [e5,hm,hfe] at e6
   dsimp only at e6
   rw [←List.append_assoc (List.take i.toNat b.2.2.1)] at e6
   have hl1:(b.2.2.1.take i.toNat++(GT b.1 b.2.1 nr (s.take hf) i (((b.2.2.2++[ndR b.1 (Aw.part b.2.2.1 i k) i (-1) (-1)]).length:Nat):Int)).1).length=i.toNat+hf:=by
    rw [List.length_append,htk,g1,List.length_take];omega
   rw [aL5 _ (s.drop hf) (b.2.2.1.drop k.toNat) (s.drop hf).length (by rw [hl1];omega) (by rw [List.length_drop,hsn];omega) (Nat.le_refl _),List.take_length] at e6
   have d3:∀x y z:List Int,x.length=i.toNat+hf->(x++(y++z)).take (i+(hf:Int)).toNat=x:=fun x y z hx=>by
    rw [show(i+(hf:Int)).toNat=x.length by omega,List.take_append_of_le_length (Nat.le_refl _),List.take_length]
   have d4:∀x y z:List Int,x.length=i.toNat+hf->y.length=s.length - hf->(x++(y++z)).drop k.toNat=z:=fun x y z hx hy=>by
    rw [←List.append_assoc,show k.toNat=(x++y).length by rw [List.length_append,hx,hy,hsn];omega,List.drop_append_of_le_length (Nat.le_refl _),List.drop_length,List.nil_append]
   rw [d3 _ _ _ hl1,d4 _ _ _ hl1 (by rw [List.length_drop])] at e6
   rw [e6,e5]
   simp only [fW,List.append_assoc,List.cons_append,List.nil_append,aQi,aL4,List.length_append,List.length_cons,List.length_nil,Nat.zero_add,Int.natCast_add,Int.natCast_one]
   rw [show(b.2.2.2.length:Int)+((GT b.1 b.2.1 nr (s.take hf) i ((b.2.2.2.length:Int)+1)).2.length+1)=b.2.2.2.length+1+(GT b.1 b.2.1 nr (s.take hf) i ((b.2.2.2.length:Int)+1)).2.length by omega]
   rfl
  ·rw [cG h0,cond_false,kK (by rw [hpl];omega),hnd]
   dsimp only
   rw [←List.append_assoc,List.append_assoc]
   have:b.2.2.1.take i.toNat++(Aw.part b.2.2.1 i k++b.2.2.1.drop k.toNat)=b.2.2.1:=by
    unfold Aw.part
    have e:b.2.2.1.drop k.toNat=(b.2.2.1.drop i.toNat).drop (k.toNat - i.toNat):=by rw [List.drop_drop,show i.toNat+(k.toNat - i.toNat)=k.toNat by omega]
    rw [e,List.take_append_drop,List.take_append_drop]
   rw [this]
theorem aZ9 (l:cN)(t:TR)(ns:List Int)(leaf:Int)(hp:PGRW l ([],[]) ns leaf):lX l t ns leaf=gE l ([],[]) ns leaf:=by
 have h:=hp.rng;have hl:=hp.lf
 unfold lX gE
 simp only [yI,aD]
 by_cases h0:(ns.length:Int)<=leaf
 ·rw [bQ h0,cond_true,cond_true]
  rfl
 ·rw [cG h0,cond_false,cond_false]
  have g2:2<=ns.length:=by omega
  have hs:=aBx hp (aF l ns)
  have hf:=aBw (n:=ns.length) (by omega)
  have hpt1:=part_len (l:=bC l ns (aF l ns)) (a:=0) (b:=(((ns.length+1) / 2:Nat):Int)) (by omega)
  have hpt2:=part_len (l:=bC l ns (aF l ns)) (a:=(((ns.length+1) / 2:Nat):Int)) (b:=(ns.length:Int)) (by omega)
  have e2:gS l t ns leaf=bW (aD ns.length) l ([],[]) ns leaf:=by
   unfold gS bW yH
   refine(aUs _ l ([],_) _ leaf (rT (t:=([],[])) hp _ g2) (lss _)).trans ?_
   exact pZ _ _ _ _ _ _ (rT hp _ g2) (lss _) (by rw [hs.1,hf,hpt1];omega)
  have h5:GRR _ (bW (aD ns.length) l ([],[]) ns leaf) _:=qP _ _ _ _ _ (rT hp _ g2) (by rw [hs.1,hf,hpt1];omega)
  have e3:aK l t ns leaf=aE (aD ns.length) l ([],[]) ns leaf:=by
   unfold aK aE gE
   rw [e2]
   exact pZ _ _ _ _ _ _ (aHm hp _ g2 h5) (lss _) (by rw [hs.1,hf,hpt2];omega)
  rw [e3,e2]
  rfl
def iM (n:Nat):List Int:=(List.range n).map (fun i:Nat=>(i:Int))
theorem cX (n:Nat):(iM n).length=n:=by simp [iM]
theorem aDk (n:Nat):iM (n+1)=iM n++[(n:Int)]:=by simp [iM,List.range_succ]
theorem uH (n:Nat):InR n (iM n):=fun x hx=>by
 simp only [iM,List.mem_map,List.mem_range] at hx
 obtain⟨i,hi,rfl⟩:=hx
 omega
def BT (l:cN)(leaf:Int):List Int×List NDE:=if l.length=0 then([],[]) else GT l leaf (l.length+1) (iM l.length) 0 0
theorem aNt {l:cN} (h:1<=l.length)(hl:l.length<=96) {leaf:Int} (hf:1<=leaf):PGRW l ([],[]) (iM l.length) leaf :=
 ⟨uH _,by rw [cX];simp only [List.length_nil];omega,by rw [cX];simp only [List.length_nil];omega,hf⟩
theorem aFc (l:cN)(hl:l.length<=96) {leaf:Int} (hf:1<=leaf):aBy l leaf=BT l leaf:=by
 have lp:∀(n i:Nat),l.length - i < n->i<=l.length->aA (uG l leaf) n (iM i,(i:Int))=BT l leaf:=by
  intro n
  induction n with
  | zero=>intro i h;exact absurd h (fJ _)
  | succ n ih =>
   intro i h hi
   by_cases h1:i < l.length
   ·have e:uG l leaf (iM i,(i:Int))=.inl (iM (i+1),((i+1:Nat):Int)):=by
     simp only [uG]
     rw [bQ (by omega),cond_true,aDk];rfl
    rw [aB e]
    exact ih (i+1) (by omega) (by omega)
   ·obtain rfl:i=l.length:=by omega
    refine aG ?_
    simp only [uG]
    rw [cG (by omega),cond_false]
    unfold BT
    by_cases h0:l.length=0
    ·rw [if_pos h0,show(((l.length:Int):Int) == 0)=true by simp [h0],cond_true]
    ·have hp:=aNt (l:=l) (by omega) hl hf
     rw [if_neg h0,show(((l.length:Int):Int) == 0)=false by rw [beq_eq_false_iff_ne];omega,cond_false,aZ9 _ _ _ _ hp]
     unfold gE
     rw [aFb _ _ _ _ _ hp (lss _),cX]
     rfl
 exact lp (tN ((l.length:Int) - 0)+1) 0 (by omega) (Nat.zero_le _)
theorem aJ0 (l:cN) [dR l] (hv:VCH l) {leaf:Int} (hf:1<=leaf):jS l leaf=BT l leaf:=by
 have hl:=hv.1
 have hs:=aJu hl
 have lp:∀(n i:Nat),l.length - i < n->i<=l.length->aA (fD l leaf) n (iM i,([]:List NDE),(i:Int))=BT l leaf:=by
  intro n
  induction n with
  | zero=>intro i h;exact absurd h (fJ _)
  | succ n ih =>
   intro i h hi
   by_cases h1:i < l.length
   ·have e:fD l leaf (iM i,([]:List NDE),(i:Int))=.inl (iM (i+1),([]:List NDE),((i+1:Nat):Int)):=by
     simp only [fD]
     rw [bQ (by omega),cond_true,aDk];rfl
    rw [aB e]
    exact ih (i+1) (by omega) (by omega)
   ·obtain rfl:i=l.length:=by omega
    refine aG ?_
    simp only [fD]
    rw [cG (by omega),cond_false]
    unfold BT
    by_cases h0:l.length=0
    ·rw [if_pos h0,cG (by omega),cond_false]
     have:iM l.length=[]:=by rw [h0];simp [iM]
     rw [this]
    ·have hp:PADD (l,leaf,(iM l.length,([]:List NDE))) 0 (l.length:Int):=⟨uH _,by dsimp only;rw [cX];omega,by dsimp only;simp only [List.length_nil];omega,hf,by omega⟩
     rw [if_neg h0,bQ (by omega),cond_true]
     unfold F60
     rw [aJz _ _ _ _ hp hv (lss _)]
     dsimp only
     have hpt:Aw.part (iM l.length) 0 (l.length:Int)=iM l.length:=by rw [aUu,List.take_of_length_le (by rw [cX];exact Nat.le_refl _)]
     have hsub:tN ((l.length:Int) - 0)=l.length:=by omega
     rw [hpt,hsub,fW,List.drop_of_length_le (by rw [cX];exact Nat.le_refl _),List.append_nil]
     rfl
 exact lp (tN ((l.length:Int) - 0)+1) 0 (by omega) (Nat.zero_le _)
theorem aQj (l:cN) [dR l] (leaf:Int):aC l leaf=aHn l leaf:=by
 unfold aC aHn
 rw [pY]
 cases h:((nA l:Int) != 0) with
 | true=>rfl
 | false =>
  have h0:eI l=0:=by rw [pY];exact bne_eq_false_iff_eq.1 h
  have hv:=aBz h0
  rw [cond_false,cond_false]
  by_cases h1:leaf < 1
  ·rw [bQ h1,cond_true,show nY leaf 1 16=false by unfold nY;rw [cG (show ¬leaf≥1 by omega)];rfl];rfl
  ·rw [cG h1,cond_false]
   by_cases h2:leaf > 16
   ·rw [bQ h2,cond_true,show nY leaf 1 16=false by unfold nY;rw [bQ (show leaf≥1 by omega),cG (show ¬leaf<=16 by omega)];rfl];rfl
   ·rw [cG h2,cond_false,show nY leaf 1 16=true by unfold nY;rw [bQ (show leaf≥1 by omega),bQ (show leaf<=16 by omega)];rfl]
    rw [aJ0 l hv (by omega),aFc l hv.1 (by omega)]
    rfl
theorem aJ1 (l:cN) {leaf:Int} (hl:1<=leaf):∀(n:Nat) (ns:List Int) (fr a:Int),ns.length < n->1<=ns.length->(GT l leaf n ns fr a).2.length+1<=2*ns.length
 | 0,_,_,_,h,_=>absurd h (fJ _)
 | n+1,ns,fr,a,h,h1=>by
  by_cases h0:(ns.length:Int)<=leaf
  ·rw [kK h0];simp only [List.length_cons,List.length_nil];omega
  ·rw [kL h0]
   have hsl:=kJ l (aF l ns) ns
   have g1:=aJ1 l hl n ((nH l (aF l ns) ns).take ((ns.length+1) / 2)) fr (a+1) (by rw [List.length_take,hsl];omega) (by rw [List.length_take,hsl];omega)
   have g2:=aJ1 l hl n ((nH l (aF l ns) ns).drop ((ns.length+1) / 2)) (fr+((ns.length+1) / 2:Nat)) (a+1+(GT l leaf n ((nH l (aF l ns) ns).take ((ns.length+1) / 2)) fr (a+1)).2.length) (by rw [List.length_drop,hsl];omega) (by rw [List.length_drop,hsl];omega)
   rw [List.length_take,hsl] at g1
   rw [List.length_drop,hsl] at g2
   simp only [List.length_cons,List.length_append]
   omega
theorem wU (l:cN)(hl:l.length<=96) {leaf:Int} (hf:1<=leaf):(BT l leaf).1.length=l.length/\(BT l leaf).2.length<=192:=by
 unfold BT
 by_cases h0:l.length=0
 ·rw [if_pos h0,h0];exact⟨rfl,Nat.zero_le _⟩
 ·rw [if_neg h0]
  have g1:=wT l hf (l.length+1) (iM l.length) 0 0 (by rw [cX];omega)
  have g2:=aJ1 l hf (l.length+1) (iM l.length) 0 0 (by rw [cX];omega) (by rw [cX];omega)
  rw [cX] at g1 g2
  exact⟨g1,by omega⟩
theorem aJ2 (l:cN)(leaf:Int):(aHn l leaf).1.1.length<=96/\(aHn l leaf).1.2.length<=192:=by
 unfold aHn
 cases h:((nA l:Int) != 0) with
 | true=>exact⟨Nat.zero_le _,Nat.zero_le _⟩
 | false =>
  have hl:=aQe (l:=l) (bne_eq_false_iff_eq.1 h)
  rw [cond_false]
  by_cases h1:leaf < 1
  ·rw [bQ h1];exact⟨Nat.zero_le _,Nat.zero_le _⟩
  ·rw [cG h1,cond_false]
   by_cases h2:leaf > 16
   ·rw [bQ h2];exact⟨Nat.zero_le _,Nat.zero_le _⟩
   ·rw [cG h2,cond_false,aFc l hl (by omega)]
    have:=wU l hl (leaf:=leaf) (by omega)
    exact⟨by dsimp only;omega,this.2⟩
theorem dJ (l:cN) [dR l] (leaf:Int):(aC l leaf).1.1.length<=96/\(aC l leaf).1.2.length<=192:=by rw [aQj];exact aJ2 l leaf
theorem aS7 {l:cN} [dR l] {leaf:Int} (h:eI l=0)(hf:1<=leaf):(jS l leaf).1.length<=96/\(jS l leaf).2.length<=192:=by
 have hv:=aBz h
 rw [aJ0 l hv hf]
 have:=wU l hv.1 hf
 have:=hv.1
 omega
noncomputable def sY:Code:=(aP [1,1,0,1] [] (aN Tryz.f117) []).1
noncomputable def sZ:List K:=(aP [1,1,0,1] [] (aN Tryz.f117) []).2
def qA (a0:List Int)(a1:List Int)(v1:Int):LS:=⟨kG 26 [(0,(.s 0 0 a0.length 1)),(1,(.s 1 0 a1.length 1)),(12,(iv (a0.length:Int))),(13,(iv v1))],[(.live false true (flat c3 a0)),(.live false true (flat c3 a1))]⟩
def gF (a0:List Int)(a1:List Int):Int->(Int)⊕(Bool)
 | v1 =>
  (bif (decide ((v1:Int) < (a0.length:Int))) then
   (bif (((a0.getD (tN v1) dF):Int) != (a1.getD (tN v1) dF)) then
    (.inr false)
   else
    (.inl (v1+1)))
  else
   (.inr true))
theorem aJ3 (a0:List Int)(a1:List Int)(l0:a0.length<=2^63-1)(l1:a1.length<=2^63-1) {cx:Cx} (hcx:cx.base=2):∀(n:Nat) (v1:Int),(0<=v1)/\(a0.length=a1.length)->tN ((a0.length:Int) - v1) < n->Aw.Good Tryz.prog none 9 (bodyPost Tryz.prog Tryz.f117 (RR cx (.v (.bool (aA (gF a0 a1) n v1))) [] [])) cx [] (.l sY n::sZ) (qA a0 a1 v1):=by
 intro n
 induction n with
 | zero=>intro v1 hi hn;exact absurd hn (fJ _)
 | succ n ih =>
  intro v1 hi hn
  refine aU ?_
  cases h0:(decide ((v1:Int) < (a0.length:Int))) with
  | true =>
   have q0:=dB h0
   let t1:List (St Tryz.prog):=[.d h0,.i v1 (a0.length),.L aW a0 v1 0 1,.i v1 (a1.length),.L aW a1 v1 0 1]
   cases h1:(((a0.getD (tN v1) dF):Int) != (a1.getD (tN v1) dF)) with
   | true =>
    have q1:=bne_iff_ne.1 h1
    have e:=Eq.refl (gF a0 a1 v1);conv at e=>rhs;simp only [gF,h0,h1,aX]
    rw [aQ,e]
    exact rt (t1++[.d h1]) [] [] hcx (by kernel_rfl)
   | false =>
    have q1:=bne_eq_false_iff_eq.1 h1
    have e:=Eq.refl (gF a0 a1 v1);conv at e=>rhs;simp only [gF,h0,h1,aX]
    rw [aB e]
    refine ba (t1++[.d h1]) [] [0,1,12,13] [] hcx (m:=n) sY (sZ) (qA a0 a1 (W (v1+1))) (by kernel_rfl) ?_
    have z0:(W (v1+1))=(v1+1):=aH (by omega) (by omega)
    rw [z0]
    exact ih (v1+1) (by refine⟨?_,?_⟩<;>(try simp only [Ls])<;>first | omega | assumption | simp) (by(try simp only [Ls]);omega)
  | false =>
   have q0:=eC h0
   have e:=Eq.refl (gF a0 a1 v1);conv at e=>rhs;simp only [gF,h0,aX]
   rw [aQ,e]
   exact rt [.d h0] [] [] hcx (by kernel_rfl)
def jU (a0:List Int)(a1:List Int):Bool :=
 (bif (((a0.length:Int):Int) != (a1.length:Int)) then
  false
 else
  (aA (gF a0 a1) (tN ((a0.length:Int) - 0)+1) 0))
theorem aQk (a0:List Int)(a1:List Int)(l0:a0.length<=2^63-1)(l1:a1.length<=2^63-1):Con Tryz.prog 117 [(.s 0 0 a0.length 1),(.s 1 0 a1.length 1)] [(.live false true (flat c3 a0)),(.live false true (flat c3 a1))] (.v (.bool (jU a0 a1))) []:=by
 refine aT Tryz.func117 (by kernel_rfl) fun cx hcx=>?_
 cases h0:(((a0.length:Int):Int) != (a1.length:Int)) with
 | true =>
  have q0:=bne_iff_ne.1 h0
  have e:=Eq.refl (jU a0 a1);conv at e=>rhs;simp only [jU,h0,aX]
  rw [e]
  exact rt [.d h0] [] [] hcx (by kernel_rfl)
 | false =>
  have q0:=bne_eq_false_iff_eq.1 h0
  have e:=Eq.refl (jU a0 a1);conv at e=>rhs;simp only [jU,h0,aX]
  rw [e]
  refine en [.d h0] [] [0,1,12,13] [] hcx sY (sZ) (qA a0 a1 0) (tN ((a0.length:Int) - 0)+1) (by kernel_rfl) ?_
  exact aJ3 a0 a1 l0 l1 hcx (tN ((a0.length:Int) - 0)+1) 0 (by refine⟨?_,?_⟩<;>(try simp only [Ls])<;>first | omega | assumption | simp) (by(try simp only [Ls]);omega)
noncomputable def tA:Code:=(aP [1,1,0,1] [] (aN Tryz.f118) []).1
noncomputable def tB:List K:=(aP [1,1,0,1] [] (aN Tryz.f118) []).2
def qB (a0:bB)(a1:bB)(v1:Int):LS:=⟨kG 26 [(0,(.s 0 0 a0.length 8)),(1,(.s 1 0 a1.length 8)),(12,(iv (a0.length:Int))),(13,(iv v1))],[(.live false true (flat dO a0)),(.live false true (flat dO a1))]⟩
def gG (a0:bB)(a1:bB):Int->(Int)⊕(Bool)
 | v1 =>
  (bif (decide ((v1:Int) < (a0.length:Int))) then
   (bif (!((((a0.getD (tN v1) dF).1:Int) == (a1.getD (tN v1) dF).1)&&((((a0.getD (tN v1) dF).2.1:Int) == (a1.getD (tN v1) dF).2.1)&&((((a0.getD (tN v1) dF).2.2.1:Int) == (a1.getD (tN v1) dF).2.2.1)&&((((a0.getD (tN v1) dF).2.2.2.1:Int) == (a1.getD (tN v1) dF).2.2.2.1)&&(((((a0.getD (tN v1) dF).2.2.2.2.1.1:Int) == (a1.getD (tN v1) dF).2.2.2.2.1.1)&&((((a0.getD (tN v1) dF).2.2.2.2.1.2.1:Int) == (a1.getD (tN v1) dF).2.2.2.2.1.2.1)&&((((a0.getD (tN v1) dF).2.2.2.2.1.2.2:Int) == (a1.getD (tN v1) dF).2.2.2.2.1.2.2)&&true)))&&((((a0.getD (tN v1) dF).2.2.2.2.2:Int) == (a1.getD (tN v1) dF).2.2.2.2.2)&&true))))))) then
    (.inr false)
   else
    (.inl (v1+1)))
  else
   (.inr true))
theorem aJ4 (a0:bB)(a1:bB)(l0:a0.length<=2^63-1)(l1:a1.length<=2^63-1) {cx:Cx} (hcx:cx.base=2):∀(n:Nat) (v1:Int),(0<=v1)/\(a0.length=a1.length)->tN ((a0.length:Int) - v1) < n->Aw.Good Tryz.prog none 9 (bodyPost Tryz.prog Tryz.f118 (RR cx (.v (.bool (aA (gG a0 a1) n v1))) [] [])) cx [] (.l tA n::tB) (qB a0 a1 v1):=by
 intro n
 induction n with
 | zero=>intro v1 hi hn;exact absurd hn (fJ _)
 | succ n ih =>
  intro v1 hi hn
  refine aU ?_
  cases h0:(decide ((v1:Int) < (a0.length:Int))) with
  | true =>
   have q0:=dB h0
   let t1:List (St Tryz.prog):=[.d h0,.i v1 (a0.length),.L cZ a0 v1 0 8,.i v1 (a1.length),.L cZ a1 v1 0 8]
   cases h1:(!((((a0.getD (tN v1) dF).1:Int) == (a1.getD (tN v1) dF).1)&&((((a0.getD (tN v1) dF).2.1:Int) == (a1.getD (tN v1) dF).2.1)&&((((a0.getD (tN v1) dF).2.2.1:Int) == (a1.getD (tN v1) dF).2.2.1)&&((((a0.getD (tN v1) dF).2.2.2.1:Int) == (a1.getD (tN v1) dF).2.2.2.1)&&(((((a0.getD (tN v1) dF).2.2.2.2.1.1:Int) == (a1.getD (tN v1) dF).2.2.2.2.1.1)&&((((a0.getD (tN v1) dF).2.2.2.2.1.2.1:Int) == (a1.getD (tN v1) dF).2.2.2.2.1.2.1)&&((((a0.getD (tN v1) dF).2.2.2.2.1.2.2:Int) == (a1.getD (tN v1) dF).2.2.2.2.1.2.2)&&true)))&&((((a0.getD (tN v1) dF).2.2.2.2.2:Int) == (a1.getD (tN v1) dF).2.2.2.2.2)&&true))))))) with
   | true =>
    have e:=Eq.refl (gG a0 a1 v1);conv at e=>rhs;simp only [gG,h0,h1,aX]
    rw [aQ,e]
    exact rt (t1++[.d h1]) [] [] hcx (by kernel_rfl)
   | false =>
    have e:=Eq.refl (gG a0 a1 v1);conv at e=>rhs;simp only [gG,h0,h1,aX]
    rw [aB e]
    refine ba (t1++[.d h1]) [] [0,1,12,13] [] hcx (m:=n) tA (tB) (qB a0 a1 (W (v1+1))) (by kernel_rfl) ?_
    have z0:(W (v1+1))=(v1+1):=aH (by omega) (by omega)
    rw [z0]
    exact ih (v1+1) (by refine⟨?_,?_⟩<;>(try simp only [Ls])<;>first | omega | assumption | simp) (by(try simp only [Ls]);omega)
  | false =>
   have q0:=eC h0
   have e:=Eq.refl (gG a0 a1 v1);conv at e=>rhs;simp only [gG,h0,aX]
   rw [aQ,e]
   exact rt [.d h0] [] [] hcx (by kernel_rfl)
def nD (a0:bB)(a1:bB):Bool :=
 (bif (((a0.length:Int):Int) != (a1.length:Int)) then
  false
 else
  (aA (gG a0 a1) (tN ((a0.length:Int) - 0)+1) 0))
theorem aQl (a0:bB)(a1:bB)(l0:a0.length<=2^63-1)(l1:a1.length<=2^63-1):Con Tryz.prog 118 [(.s 0 0 a0.length 8),(.s 1 0 a1.length 8)] [(.live false true (flat dO a0)),(.live false true (flat dO a1))] (.v (.bool (nD a0 a1))) []:=by
 refine aT Tryz.func118 (by kernel_rfl) fun cx hcx=>?_
 cases h0:(((a0.length:Int):Int) != (a1.length:Int)) with
 | true =>
  have q0:=bne_iff_ne.1 h0
  have e:=Eq.refl (nD a0 a1);conv at e=>rhs;simp only [nD,h0,aX]
  rw [e]
  exact rt [.d h0] [] [] hcx (by kernel_rfl)
 | false =>
  have q0:=bne_eq_false_iff_eq.1 h0
  have e:=Eq.refl (nD a0 a1);conv at e=>rhs;simp only [nD,h0,aX]
  rw [e]
  refine en [.d h0] [] [0,1,12,13] [] hcx tA (tB) (qB a0 a1 0) (tN ((a0.length:Int) - 0)+1) (by kernel_rfl) ?_
  exact aJ4 a0 a1 l0 l1 hcx (tN ((a0.length:Int) - 0)+1) 0 (by refine⟨?_,?_⟩<;>(try simp only [Ls])<;>first | omega | assumption | simp) (by(try simp only [Ls]);omega)
def F79 (a0:List Int×bB)(a1:List Int×bB):Bool :=
 (bif (jU a0.1 a1.1) then
  (nD a0.2 a1.2)
 else
  false)
theorem C79 (a0:List Int×bB)(a1:List Int×bB)(l0_1:a0.1.length<=2^63-1)(l0_2:a0.2.length<=2^63-1)(l1_1:a1.1.length<=2^63-1)(l1_2:a1.2.length<=2^63-1):Con Tryz.prog 79 [(.a [(.s 0 0 a0.1.length 1),(.s 1 0 a0.2.length 8)]),(.a [(.s 2 0 a1.1.length 1),(.s 3 0 a1.2.length 8)])] [(.live false true (flat c3 a0.1)),(.live false true (flat dO a0.2)),(.live false true (flat c3 a1.1)),(.live false true (flat dO a1.2))] (.v (.bool (F79 a0 a1))) []:=by
 refine aT Tryz.func79 (by kernel_rfl) fun cx hcx=>?_
 let t0:List (St Tryz.prog):=[.c [0,2] (aQk a0.1 a1.1 (by omega) (by omega))]
 cases h0:(jU a0.1 a1.1) with
 | true =>
  have e:=Eq.refl (F79 a0 a1);conv at e=>rhs;simp only [F79,h0,aX]
  rw [e]
  exact rt (t0++[.d h0,.c [1,3] (aQl a0.2 a1.2 (by omega) (by omega))]) [] [] hcx (by kernel_rfl)
 | false =>
  have e:=Eq.refl (F79 a0 a1);conv at e=>rhs;simp only [F79,h0,aX]
  rw [e]
  exact rt (t0++[.d h0]) [] [] hcx (by kernel_rfl)
noncomputable def aFd:Code:=(aP [1,1,0,1] [] (aN Tryz.f46) []).1
noncomputable def aFe:List K:=(aP [1,1,0,1] [] (aN Tryz.f46) []).2
def aB0 (a0:bK)(a1:List Int×bB)(v1:Int):LS:=⟨kG 21 [(0,(.s 0 0 a0.length 10)),(3,(.p 3 0)),(6,(iv v1))],[(.live false true (flat gB a0)),(.live false true (flat c3 a1.1)),(.live false true (flat dO a1.2)),(.live true false [(.s 1 0 a1.1.length 1),(.s 2 0 a1.2.length 8)])]⟩
def iK (a0:bK)(a1:List Int×bB):Int->(Int)⊕(Int)
 | v1 =>
  (bif (decide ((v1:Int)<=16)) then
   (bif (F79 (a1.1,a1.2) ((jS a0 v1).1,(jS a0 v1).2)) then
    (.inr 0)
   else
    (.inl (v1+1)))
  else
   (.inr 1))
theorem aS8 (a0:bK)(a1:List Int×bB)(l0:a0.length<=2^63-1)(l1_1:a1.1.length<=2^63-1)(l1_2:a1.2.length<=2^63-1) [h5:dR a0] {cx:Cx} (hcx:cx.base=3):∀(n:Nat) (v1:Int),(0<=v1)/\(eI a0=0)/\(1<=v1)->tN (16 - v1+1) < n->Aw.Good Tryz.prog none 9 (bodyPost Tryz.prog Tryz.f46 (RR cx (iv (aA (iK a0 a1) n v1)) [] [])) cx [] (.l aFd n::aFe) (aB0 a0 a1 v1):=by
 intro n
 induction n with
 | zero=>intro v1 hi hn;exact absurd hn (fJ _)
 | succ n ih =>
  intro v1 hi hn
  refine aU ?_
  have hbl:=aS7 (l:=a0) (leaf:=v1) hi.2.1 (by omega)
  cases h0:(decide ((v1:Int)<=16)) with
  | true =>
   have q0:=dB h0
   let t1:List (St Tryz.prog):=[.d h0,.c [0] (aUr a0 v1 (by omega) (aJu (jE (l:=a0) hi.2.1)) (by omega)),.c [1,2,4,5] (C79 (a1.1,a1.2) ((jS a0 v1).1,(jS a0 v1).2) (by(try simp only [Lt]);omega) (by(try simp only [Lt]);omega) (by(try simp only [Lt]);omega) (by(try simp only [Lt]);omega))]
   cases h1:(F79 (a1.1,a1.2) ((jS a0 v1).1,(jS a0 v1).2)) with
   | true =>
    have e:=Eq.refl (iK a0 a1 v1);conv at e=>rhs;simp only [iK,h0,h1,aX]
    rw [aQ,e]
    exact rt (t1++[.d h1]) [] [] hcx (by kernel_rfl)
   | false =>
    have e:=Eq.refl (iK a0 a1 v1);conv at e=>rhs;simp only [iK,h0,h1,aX]
    rw [aB e]
    refine ba (t1++[.d h1]) [] [0,3,6] [3] hcx (m:=n) aFd (aFe) (aB0 a0 a1 (W (v1+1))) (by kernel_rfl) ?_
    have z0:(W (v1+1))=(v1+1):=aH (by omega) (by omega)
    rw [z0]
    exact ih (v1+1) (by refine⟨?_,?_,?_⟩<;>(try simp only [Ls])<;>first | omega | assumption | simp) (by(try simp only [Ls]);omega)
  | false =>
   have q0:=eC h0
   have e:=Eq.refl (iK a0 a1 v1);conv at e=>rhs;simp only [iK,h0,aX]
   rw [aQ,e]
   exact rt [.d h0] [] [] hcx (by kernel_rfl)
def nE (a0:bK)(a1:List Int×bB):Int :=
 (bif (((eI a0):Int) != 0) then
  (eI a0)
 else
  (aA (iK a0 a1) (tN (16 - 1+1)+1) 1))
theorem aUv (a0:bK)(a1:List Int×bB)(l0:a0.length<=2^63-1)(l1_1:a1.1.length<=2^63-1)(l1_2:a1.2.length<=2^63-1) [h5:dR a0]:Con Tryz.prog 46 [(.s 0 0 a0.length 10),(.a [(.s 1 0 a1.1.length 1),(.s 2 0 a1.2.length 8)])] [(.live false true (flat gB a0)),(.live false true (flat c3 a1.1)),(.live false true (flat dO a1.2))] (iv (nE a0 a1)) []:=by
 refine aT Tryz.func46 (by kernel_rfl) fun cx hcx=>?_
 let t0:List (St Tryz.prog):=[.c [0] (aLj a0 (by omega))]
 cases h0:(((eI a0):Int) != 0) with
 | true =>
  have q0:=bne_iff_ne.1 h0
  have e:=Eq.refl (nE a0 a1);conv at e=>rhs;simp only [nE,h0,aX]
  rw [e]
  exact rt (t0++[.d h0]) [] [] hcx (by kernel_rfl)
 | false =>
  have q0:=bne_eq_false_iff_eq.1 h0
  have e:=Eq.refl (nE a0 a1);conv at e=>rhs;simp only [nE,h0,aX]
  rw [e]
  refine en (t0++[.d h0]) [] [0,3,6] [3] hcx aFd (aFe) (aB0 a0 a1 1) (tN (16 - 1+1)+1) (by kernel_rfl) ?_
  exact aS8 a0 a1 l0 l1_1 l1_2 hcx (tN (16 - 1+1)+1) 1 (by refine⟨?_,?_,?_⟩<;>(try simp only [Ls])<;>first | omega | assumption | simp) (by(try simp only [Ls]);omega)
def gY (a0:bK)(a1:List Int×bB):Int->(Int)⊕(Int)
 | v1 =>
  (bif (decide ((v1:Int)<=16)) then
   (bif (F20 (a1.1,a1.2) ((aBy a0 v1).1,(aBy a0 v1).2)) then
    (.inr 0)
   else
    (.inl (v1+1)))
  else
   (.inr 1))
def fA (a0:bK)(a1:List Int×bB):Int :=
 (bif (((nA a0):Int) != 0) then
  (nA a0)
 else
  (aA (gY a0 a1) (tN (16 - 1+1)+1) 1))
theorem aS9 (a b:TR):F79 a b=F20 a b:=by
 have e1:jU a.1 b.1=qQ a.1 b.1:=rfl
 unfold F79 F20
 rw [e1]
 cases qQ a.1 b.1<;>rfl
theorem zH {S:Int->Int⊕Bool} {N:Nat} {p:Nat->Prop} (h1:∀i:Nat,i < N->(S (i:Int)=.inl ((i+1:Nat):Int)/\p i)\/S (i:Int)=.inr false):∀(d i n:Nat),d=N - i->i<=N->d < n->aA S n (i:Int)=true->∀j,i<=j->j < N->p j
 | 0,i,n,hd,hi,hn,_,j,h1,h2=>absurd h2 (by omega)
 | d+1,i,n,hd,hi,hn,h,j,g1,g2=>by
  obtain⟨n,rfl⟩:∃m,n=m+1:=⟨n - 1,by omega⟩
  rcases h1 i (by omega) with⟨e,hp⟩ | e
  ·rw [aB e] at h
   by_cases hj:j=i
   ·rw [hj];exact hp
   ·exact zH h1 d (i+1) n (by omega) (by omega) (by omega) h j (by omega) g2
  ·rw [aG e] at h;cases h
theorem aB1 {α:Type} [Inhabited α] {a b:List α} (h:a.length=b.length)(h2:∀j,j < a.length->a.getD j dF=b.getD j dF):a=b:=by
 refine List.ext_getElem h fun i h3 h4=>?_
 have:=h2 i h3
 rw [cY,cY,List.getElem?_eq_getElem h3,List.getElem?_eq_getElem h4] at this
 exact this
theorem aTa {a b:List Int} (h:qQ a b=true):a=b:=by
 unfold qQ at h
 by_cases hl:a.length=b.length
 ·rw [show(((a.length:Int):Int) != (b.length:Int))=false by rw [hl];simp,cond_false] at h
  refine aB1 hl (zH (N:=a.length) (p:=fun j=>a.getD j dF=b.getD j dF) (fun i hi=>?_) a.length 0 _ (by omega) (by omega) (by omega) h · (Nat.zero_le _) ·)
  simp only [aDj,fW]
  rw [bQ (show((i:Nat):Int) < (a.length:Nat) by omega),cond_true]
  cases e:((a.getD i dF:Int) != b.getD i dF) with
  | true=>exact .inr rfl
  | false=>exact .inl ⟨rfl,bne_eq_false_iff_eq.1 e⟩
 ·rw [show(((a.length:Int):Int) != (b.length:Int))=true by rw [bne_iff_ne];omega,cond_true] at h
  cases h
theorem aQm {a b:TR} (h:F20 a b=true):a=b:=by
 unfold F20 at h
 cases h1:qQ a.1 b.1 with
 | false=>rw [h1] at h;cases h
 | true =>
  rw [h1,Bool.not_true,cond_false] at h
  by_cases hl:a.2.length=b.2.length
  ·rw [show(((a.2.length:Int):Int) != (b.2.length:Int))=false by rw [hl];simp,cond_false] at h
   refine Prod.ext (aTa h1) (aB1 hl (zH (N:=a.2.length) (p:=fun j=>a.2.getD j dF=b.2.getD j dF) (fun i hi=>?_) a.2.length 0 _ (by omega) (by omega) (by omega) h · (Nat.zero_le _) ·))
   simp only [aUt,fW]
   rw [bQ (show((i:Nat):Int) < (a.2.length:Nat) by omega),cond_true]
   generalize a.2.getD i dF=x
   generalize b.2.getD i dF=y
   obtain⟨x1,x2,x3,x4,⟨x5,x6,x7⟩,x8⟩:=x
   obtain⟨y1,y2,y3,y4,⟨y5,y6,y7⟩,y8⟩:=y
   dsimp only
   rw [Bool.cond_eq_ite]
   split
   ·exact .inr rfl
   ·rename_i hq
    refine .inl ⟨rfl,?_⟩
    simp at hq ⊢
    omega
  ·rw [show(((a.2.length:Int):Int) != (b.2.length:Int))=true by rw [bne_iff_ne];omega,cond_true] at h
   cases h
theorem aHr {l:cN} [dR l] {t:TR} (hv:VCH l):∀(n:Nat) (v:Int),1<=v->aA (iK l t) n v=aA (gY l t) n v
 | 0,_,_=>rfl
 | n+1,v,h=>by
  have e:iK l t v=gY l t v:=by
   simp only [iK,gY,aS9,aJ0 l hv h,aFc l hv.1 h]
  have h2:(gY l t v=.inl (v+1))\/(∃r,gY l t v=.inr r):=by
   simp only [gY]
   rw [Bool.cond_eq_ite]
   split
   ·rw [Bool.cond_eq_ite]
    split
    ·exact .inr ⟨_,rfl⟩
    ·exact .inl rfl
   ·exact .inr ⟨_,rfl⟩
  rcases h2 with h2 | ⟨r,h2⟩
  ·rw [aB (e.trans h2),aB h2];exact aHr hv n (v+1) (by omega)
  ·rw [aG (e.trans h2),aG h2]
theorem qC (l:cN) [dR l] (t:TR):nE l t=fA l t:=by
 unfold nE fA
 rw [pY]
 cases h:((nA l:Int) != 0) with
 | true=>rfl
 | false=>exact aHr (aBz (by rw [pY];exact bne_eq_false_iff_eq.1 h)) _ 1 (Int.le_refl _)
theorem nZ {l:cN} {t:TR} (h:fA l t=0):VCH l/\∃leaf:Int,1<=leaf/\leaf<=16/\t=BT l leaf:=by
 unfold fA at h
 cases h0:((nA l:Int) != 0) with
 | true=>rw [h0,cond_true] at h;rw [h] at h0;cases h0
 | false =>
  rw [h0,cond_false] at h
  have hv:=aBz (l:=l) (by rw [pY];exact bne_eq_false_iff_eq.1 h0)
  refine⟨hv,?_⟩
  have lp:∀(n:Nat) (v:Int),1<=v->tN (17 - v) < n->aA (gY l t) n v=0->∃leaf:Int,1<=leaf/\leaf<=16/\t=BT l leaf:=by
   intro n
   induction n with
   | zero=>intro _ _ h;exact absurd h (fJ _)
   | succ n ih =>
    intro v h1 h2 h3
    by_cases hv16:v<=16
    ·cases hs:F20 (t.1,t.2) ((aBy l v).1,(aBy l v).2) with
     | true =>
      have:=aQm hs
      exact⟨v,h1,hv16,by rw [←aFc l hv.1 h1];exact this⟩
     | false =>
      have e:gY l t v=.inl (v+1):=by
       simp only [gY]
       rw [bQ hv16,cond_true,hs,cond_false]
      rw [aB e] at h3
      exact ih (v+1) (by omega) (by omega) h3
    ·have e:gY l t v=.inr 1:=by
      simp only [gY]
      rw [cG hv16,cond_false]
     rw [aG e] at h3
     exact absurd h3 (by decide)
  exact lp _ 1 (Int.le_refl _) (by omega) h
structure NOK (fr m a k:Int) (x:NDE):Prop where
 c1:fr<=x.1
 c2:x.1 < x.2.1
 c3:x.2.1<=fr+m
 c4:(x.2.2.1=-1/\x.2.2.2.1=-1)\/(a < x.2.2.1/\x.2.2.1 < a+k/\a < x.2.2.2.1/\x.2.2.2.1 < a+k)
theorem aUw (l:cN)(leaf:Int)(n:Nat)(ns:List Int)(fr a:Int):1<=(GT l leaf (n+1) ns fr a).2.length:=by
 by_cases h0:(ns.length:Int)<=leaf
 ·rw [kK h0];simp
 ·rw [kL h0];simp
theorem aQn (l:cN) {leaf:Int} (hl:1<=leaf):∀(n:Nat) (ns:List Int) (fr a:Int),ns.length < n->1<=ns.length->∀x∈(GT l leaf n ns fr a).2,NOK fr ns.length a (GT l leaf n ns fr a).2.length x
 | 0,_,_,_,h,_=>absurd h (fJ _)
 | n+1,ns,fr,a,h,h1=>by
  by_cases h0:(ns.length:Int)<=leaf
  ·rw [kK h0]
   intro x hx
   rw [List.mem_singleton.1 hx]
   exact⟨Int.le_refl _,by unfold ndR;dsimp only;omega,by unfold ndR;exact Int.le_refl _,.inl ⟨rfl,rfl⟩⟩
  ·rw [kL h0]
   have hsl:=kJ l (aF l ns) ns
   obtain⟨n,rfl⟩:∃k,n=k+1:=⟨n - 1,by omega⟩
   have g1:=aQn l hl (n+1) ((nH l (aF l ns) ns).take ((ns.length+1) / 2)) fr (a+1) (by rw [List.length_take,hsl];omega) (by rw [List.length_take,hsl];omega)
   have g2:=aQn l hl (n+1) ((nH l (aF l ns) ns).drop ((ns.length+1) / 2)) (fr+((ns.length+1) / 2:Nat)) (a+1+(GT l leaf (n+1) ((nH l (aF l ns) ns).take ((ns.length+1) / 2)) fr (a+1)).2.length) (by rw [List.length_drop,hsl];omega) (by rw [List.length_drop,hsl];omega)
   have k1:=aUw l leaf n ((nH l (aF l ns) ns).take ((ns.length+1) / 2)) fr (a+1)
   have k2:=aUw l leaf n ((nH l (aF l ns) ns).drop ((ns.length+1) / 2)) (fr+((ns.length+1) / 2:Nat)) (a+1+(GT l leaf (n+1) ((nH l (aF l ns) ns).take ((ns.length+1) / 2)) fr (a+1)).2.length)
   rw [List.length_take,hsl] at g1
   rw [List.length_drop,hsl] at g2
   generalize GT l leaf (n+1) ((nH l (aF l ns) ns).take ((ns.length+1) / 2)) fr (a+1)=A at g1 g2 k1 k2 ⊢
   generalize GT l leaf (n+1) ((nH l (aF l ns) ns).drop ((ns.length+1) / 2)) (fr+((ns.length+1) / 2:Nat)) (a+1+A.2.length)=B at g2 k2 ⊢
   intro x hx
   simp only [List.length_cons,List.length_append,Int.natCast_add,Int.natCast_one]
   rcases List.mem_cons.1 hx with rfl | hx
   ·exact⟨Int.le_refl _,by unfold ndR;dsimp only;omega,by unfold ndR;exact Int.le_refl _,.inr ⟨by unfold ndR;dsimp only;omega,by unfold ndR;dsimp only;omega,by unfold ndR;dsimp only;omega,by unfold ndR;dsimp only;omega⟩⟩
   ·rcases List.mem_append.1 hx with hx | hx
    ·obtain⟨c1,c2,c3,c4⟩:=g1 x hx
     exact⟨c1,c2,by omega,by rcases c4 with c4 | c4;exact .inl c4;exact .inr (by omega)⟩
    ·obtain⟨c1,c2,c3,c4⟩:=g2 x hx
     exact⟨by omega,c2,by omega,by rcases c4 with c4 | c4;exact .inl c4;exact .inr (by omega)⟩
theorem bAa (l:cN) {leaf:Int} (hl:1<=leaf):∀x∈(BT l leaf).2,NOK 0 l.length 0 (BT l leaf).2.length x:=by
 unfold BT
 by_cases h0:l.length=0
 ·rw [if_pos h0];intro x hx;cases hx
 ·rw [if_neg h0]
  have:=aQn l hl (l.length+1) (iM l.length) 0 0 (by rw [cX];omega) (by rw [cX];omega)
  rw [cX] at this
  exact this
inductive TRE (N:List NDE):Nat->Nat->Int->Int->Int->Prop where
 | leaf {a:Nat} {f t:Int}:a < N.length->f < t->(N.getD a dF).1=f->(N.getD a dF).2.1=t->(N.getD a dF).2.2.1=-1->(N.getD a dF).2.2.2.1=-1->TRE N a 1 f t 1
 | node {a m1 m2:Nat} {f c t h1 h2:Int}:a < N.length->(N.getD a dF).1=f->(N.getD a dF).2.1=t->(N.getD a dF).2.2.1=((a+1:Nat):Int)->(N.getD a dF).2.2.2.1=((a+1+m1:Nat):Int)->TRE N (a+1) m1 f c h1->TRE N (a+1+m1) m2 c t h2->TRE N a (m1+m2+1) f t (1+cE h1 h2)
theorem bB8 (a b:Int):a<=cE a b/\b<=cE a b/\(cE a b=a\/cE a b=b):=by unfold cE;split<;>omega
theorem cB {N:List NDE} {a m:Nat} {f t h:Int} (H:TRE N a m f t h):a+m<=N.length/\1<=m/\f < t/\1<=h/\h<=m/\(N.getD a dF).1=f/\(N.getD a dF).2.1=t:=by
 induction H with
 | leaf h1 h2 h3 h4 _ _=>exact⟨by omega,Nat.le_refl _,h2,Int.le_refl _,Int.le_refl _,h3,h4⟩
 | node g1 g2 g3 g4 g5 _ _ i1 i2 =>
  rename_i h1 h2 _ _
  have:=bB8 h1 h2
  exact⟨by omega,by omega,by omega,by omega,by omega,g2,g3⟩
theorem aNu {α:Type} [Inhabited α] {x y:List α} {j:Nat} (h:j < x.length):(x++y).getD j dF=x.getD j dF:=by
 rw [cY,cY,List.getElem?_append_left h]
theorem aNv {α:Type} [Inhabited α] {x y:List α} {j:Nat}:(x++y).getD (x.length+j) dF=y.getD j dF:=by
 rw [cY,cY,List.getElem?_append_right (by omega),Nat.add_sub_cancel_left]
theorem aJ5 (l:cN) {leaf:Int} (hl:1<=leaf):∀(n:Nat) (ns:List Int) (fr:Int) (a:Nat) (N:List NDE),ns.length < n->1<=ns.length->a+(GT l leaf n ns fr a).2.length<=N.length ->
 (∀j,j < (GT l leaf n ns fr a).2.length->N.getD (a+j) dF=(GT l leaf n ns fr a).2.getD j dF)->∃h,TRE N a (GT l leaf n ns fr a).2.length fr (fr+ns.length) h
 | 0,_,_,_,_,h,_=>absurd h (fJ _)
 | n+1,ns,fr,a,N,h,h1=>by
  by_cases h0:(ns.length:Int)<=leaf
  ·rw [kK h0]
   intro g1 g2
   have e:=g2 0 (by simp)
   rw [Nat.add_zero] at e
   have e':N.getD a dF=ndR l ns fr (-1) (-1):=e
   exact⟨1,TRE.leaf (by simp only [List.length_singleton] at g1;omega) (by omega) (by rw [e'];rfl) (by rw [e'];rfl) (by rw [e'];rfl) (by rw [e'];rfl)⟩
  ·rw [kL h0]
   have hsl:=kJ l (aF l ns) ns
   have ea:((a:Nat):Int)+1=((a+1:Nat):Int):=by omega
   rw [ea]
   have c1:=aJ5 l hl n ((nH l (aF l ns) ns).take ((ns.length+1) / 2)) fr (a+1) N (by rw [List.length_take,hsl];omega) (by rw [List.length_take,hsl];omega)
   have c2:=aJ5 l hl n ((nH l (aF l ns) ns).drop ((ns.length+1) / 2)) (fr+((ns.length+1) / 2:Nat)) (a+1+(GT l leaf n ((nH l (aF l ns) ns).take ((ns.length+1) / 2)) fr ((a+1:Nat):Int)).2.length) N (by rw [List.length_drop,hsl];omega) (by rw [List.length_drop,hsl];omega)
   rw [List.length_take,hsl] at c1
   rw [List.length_drop,hsl] at c2
   rw [show(((a+1:Nat):Int)+(((GT l leaf n ((nH l (aF l ns) ns).take ((ns.length+1) / 2)) fr ((a+1:Nat):Int)).2.length:Nat):Int))=((a+1+(GT l leaf n ((nH l (aF l ns) ns).take ((ns.length+1) / 2)) fr ((a+1:Nat):Int)).2.length:Nat):Int) by omega]
   generalize GT l leaf n ((nH l (aF l ns) ns).take ((ns.length+1) / 2)) fr ((a+1:Nat):Int)=A at c1 c2 ⊢
   generalize GT l leaf n ((nH l (aF l ns) ns).drop ((ns.length+1) / 2)) (fr+((ns.length+1) / 2:Nat)) ((a+1+A.2.length:Nat):Int)=B at c2 ⊢
   intro g1 g2
   simp only [List.length_cons,List.length_append] at g1 g2 ⊢
   have e':N.getD a dF=ndR l ns fr ((a+1:Nat):Int) ((a+1+A.2.length:Nat):Int):=g2 0 (by omega)
   obtain⟨x1,d1⟩:=c1 (by omega) (fun j hj=>by
    have:=g2 (j+1) (by omega)
    rw [List.getD_cons_succ,aNu hj] at this
    rw [←this];congr 1;omega)
   obtain⟨x2,d2⟩:=c2 (by omega) (fun j hj=>by
    have:=g2 (A.2.length+j+1) (by omega)
    rw [List.getD_cons_succ,aNv] at this
    rw [←this];congr 1;omega)
   rw [show fr+((min ((ns.length+1) / 2) ns.length:Nat):Int)=fr+(((ns.length+1) / 2:Nat):Int) by omega] at d1
   rw [show fr+(((ns.length+1) / 2:Nat):Int)+((ns.length - (ns.length+1) / 2:Nat):Int)=fr+(ns.length:Int) by omega] at d2
   exact⟨_,TRE.node (by omega) (by rw [e'];rfl) (by rw [e'];rfl) (by rw [e'];rfl) (by rw [e'];rfl) d1 d2⟩
theorem aFf (l:cN) {leaf:Int} (hl:1<=leaf):(l.length=0/\BT l leaf=([],[]))\/∃h,TRE (BT l leaf).2 0 (BT l leaf).2.length 0 l.length h:=by
 unfold BT
 by_cases h0:l.length=0
 ·rw [if_pos h0];exact .inl ⟨h0,rfl⟩
 ·rw [if_neg h0]
  have:=aJ5 l hl (l.length+1) (iM l.length) 0 0 (GT l leaf (l.length+1) (iM l.length) 0 ((0:Nat):Int)).2 (by rw [cX];omega) (by rw [cX];omega) (by omega) (fun j _=>by rw [Nat.zero_add])
  rw [cX,Int.zero_add] at this
  exact .inr this
theorem gT {N:List NDE} {a m:Nat} {f u h:Int} (H:TRE N a m f u h):(m=1/\h=1/\(N.getD a dF).2.2.1=-1/\(N.getD a dF).2.2.2.1=-1) \/
 ∃(m1 m2:Nat) (c h1 h2:Int),m=m1+m2+1/\(N.getD a dF).2.2.1=((a+1:Nat):Int)/\(N.getD a dF).2.2.2.1=((a+1+m1:Nat):Int)/\TRE N (a+1) m1 f c h1/\TRE N (a+1+m1) m2 c u h2/\h=1+cE h1 h2:=by
 cases H with
 | leaf h1 h2 h3 h4 h5 h6=>exact .inl ⟨rfl,rfl,h5,h6⟩
 | node g1 g2 g3 g4 g5 b1 b2=>exact .inr ⟨_,_,_,_,_,rfl,g4,g5,b1,b2,rfl⟩
def dP (a0:bK)(a1:List Int×bB)(a2:Int):Int :=
 (bif (((nE a0 (a1.1,a1.2)):Int) != 0) then
  (nE a0 (a1.1,a1.2))
 else
  (bif (!(nY a2 1 16)) then
   1
  else
   0))
theorem bAb (a0:bK)(a1:List Int×bB)(a2:Int)(l0:a0.length<=2^63-1)(l1_1:a1.1.length<=2^63-1)(l1_2:a1.2.length<=2^63-1) [h5:dR a0]:Con Tryz.prog 36 [(.s 0 0 a0.length 10),(.a [(.s 1 0 a1.1.length 1),(.s 2 0 a1.2.length 8)]),(iv a2)] [(.live false true (flat gB a0)),(.live false true (flat c3 a1.1)),(.live false true (flat dO a1.2))] (iv (dP a0 a1 a2)) []:=by
 refine aT Tryz.func36 (by kernel_rfl) fun cx hcx=>?_
 let t0:List (St Tryz.prog):=[.c [0,1,2] (aUv a0 (a1.1,a1.2) (by omega) (by(try simp only [Lt]);omega) (by(try simp only [Lt]);omega))]
 cases h0:(((nE a0 (a1.1,a1.2)):Int) != 0) with
 | true =>
  have q0:=bne_iff_ne.1 h0
  have e:=Eq.refl (dP a0 a1 a2);conv at e=>rhs;simp only [dP,h0,aX]
  rw [e]
  exact rt (t0++[.d h0]) [] [] hcx (by kernel_rfl)
 | false =>
  have q0:=bne_eq_false_iff_eq.1 h0
  let t1:List (St Tryz.prog):=(t0++[.d h0,.c [] (C34 a2 1 16)])
  cases h1:(!(nY a2 1 16)) with
  | true =>
   have e:=Eq.refl (dP a0 a1 a2);conv at e=>rhs;simp only [dP,h0,h1,aX]
   rw [e]
   exact rt (t1++[.d h1]) [] [] hcx (by kernel_rfl)
  | false =>
   have e:=Eq.refl (dP a0 a1 a2);conv at e=>rhs;simp only [dP,h0,h1,aX]
   rw [e]
   exact rt (t1++[.d h1]) [] [] hcx (by kernel_rfl)
def aXe (t:TR):Prop:=t.1.length<=1048576/\t.2.length<=1048576/\∀i:Nat,i < t.2.length->0<=(t.2.getD i dF).1/\(t.2.getD i dF).1 < (t.2.getD i dF).2.1/\(t.2.getD i dF).2.1<=t.1.length
theorem aTb (l:cN)(hl:l.length<=96) {leaf:Int} (h1:1<=leaf):aXe (BT l leaf):=by
 have hb:=wU l hl h1
 refine⟨by omega,by omega,fun i hi=>?_⟩
 have:=bAa l h1 _ (List.getElem_mem hi)
 rw [cY,List.getElem?_eq_getElem hi]
 simp only [Option.getD_some]
 obtain⟨c1,c2,c3,_⟩:=this
 omega
def F65 (a0:Zt)(a1:Zt):Zt :=
 ((W (a0.1 - a1.1)),(W (a0.2.1 - a1.2.1)),(W (a0.2.2 - a1.2.2)))
theorem C65 (a0:Zt)(a1:Zt):Con Tryz.prog 65 [(.a (k3 a0)),(.a (k3 a1))] [] (.a (k3 (F65 a0 a1))) []:=by
 refine aT Tryz.func65 (by kernel_rfl) fun cx hcx=>?_
 have e:=Eq.refl (F65 a0 a1);conv at e=>rhs;simp only [F65]
 rw [e]
 exact rt [] [] [] hcx (by kernel_rfl)
def uI (a0:Zt):Int :=
 (W ((W ((W (a0.1*a0.1))+(W (a0.2.1*a0.2.1))))+(W (a0.2.2*a0.2.2))))
theorem C64 (a0:Zt):Con Tryz.prog 64 [(.a (k3 a0))] [] (iv (uI a0)) []:=by
 refine aT Tryz.func64 (by kernel_rfl) fun cx hcx=>?_
 have e:=Eq.refl (uI a0);conv at e=>rhs;simp only [uI]
 rw [e]
 exact rt [] [] [] hcx (by kernel_rfl)
section
variable {t : TR} {x : Zt} {sep : Int} {a : Nat} {far pan : List Int} {d : Int}
end
end Go.Proofs.YtlckcjfbjnjfhaaGreat
namespace Go.Proofs.YtlckcjfbjnjfhaaGreat
open Go.Proofs Go.Aw Go.RowKit
set_option maxRecDepth 100000
theorem zI (l:cN) {leaf:Int} (hl:1<=leaf):∀(n:Nat) (ns:List Int) (fr a:Int),ns.length < n->(GT l leaf n ns fr a).1.Perm ns
 | 0,_,_,_,h=>absurd h (fJ _)
 | n+1,ns,fr,a,h=>by
  by_cases h0:(ns.length:Int)<=leaf
  ·rw [kK h0]
  ·rw [kL h0]
   have hsl:=kJ l (aF l ns) ns
   refine((zI l hl n _ _ _ (by rw [List.length_take,hsl];omega)).append (zI l hl n _ _ _ (by rw [List.length_drop,hsl];omega))).trans ?_
   rw [List.take_append_drop]
   exact List.mergeSort_perm ns _
theorem aL6 (l:cN) {leaf:Int} (hl:1<=leaf):(BT l leaf).1.Perm (iM l.length):=by
 unfold BT
 by_cases h0:l.length=0
 ·rw [if_pos h0,h0];exact List.Perm.refl _
 ·rw [if_neg h0];exact zI l hl _ _ _ _ (by rw [cX];omega)
abbrev BLK:=Int×Int×Bool
structure PVB (i k:Int) (t:TR) (out:List BLK):Prop where
 e0:0<=i
 e1:0<=k
 e2:t.2.length<=1048576
 e3:∃(m:Nat) (f u h:Int) (m':Nat) (f' u' h':Int),TRE t.2 (tN i) m f u h/\TRE t.2 (tN k) m' f' u' h'/\out.length+(u - f)*(u' - f')<=1048576
theorem oA {a b:Int} (ha:1<=a)(hb:1<=b):1<=a*b:=by
 have:=Int.mul_le_mul ha hb (by omega) (by omega)
 omega
theorem aB2 {i k:Int} {t:TR} {out:List BLK} (h:PVB i k t out):i < t.2.length/\k < t.2.length/\out.length+1<=1048576:=by
 obtain⟨e0,e1,e2,m,f,u,hh,m',f',u',hh',e3,e4,e5⟩:=h
 have h1:=cB e3
 have h2:=cB e4
 have h3:=oA (a:=u - f) (b:=u' - f') (by omega) (by omega)
 omega
theorem aFg (a b c w:Int):(c - a)*w+(b - c)*w=(b - a)*w:=by
 rw [←Int.add_mul,show c - a+(b - c)=b - a by omega]
theorem aB3 (a b c w:Int):w*(c - a)+w*(b - c)=w*(b - a):=by
 rw [←Int.mul_add,show c - a+(b - c)=b - a by omega]
def jV (x:Int×Int×Bool):List SV:=[(iv x.1),(iv x.2.1),(.v (.bool x.2.2))]
theorem qR (x:Int×Int×Bool):(jV x).length=3:=rfl
def rX (a0:Int)(a1:Int)(a2:List Int×bB)(a3:Int)(a4:List (Int×Int×Bool)):=(F65 (a2.2.getD (tN a0) dF).2.2.2.2.1 (a2.2.getD (tN a1) dF).2.2.2.2.1)
def rY (rr:(Int)->(Int)->(List Int×bB)->(Int)->(List (Int×Int×Bool))->List (Int×Int×Bool))(a0:Int)(a1:Int)(a2:List Int×bB)(a3:Int)(a4:List (Int×Int×Bool)):=(rr (a2.2.getD (tN a0) dF).2.2.1 a1 (a2.1,a2.2) a3 a4)
def aHs (rr:(Int)->(Int)->(List Int×bB)->(Int)->(List (Int×Int×Bool))->List (Int×Int×Bool))(a0:Int)(a1:Int)(a2:List Int×bB)(a3:Int)(a4:List (Int×Int×Bool)):=(rr (a2.2.getD (tN a0) dF).2.2.2.1 a1 (a2.1,a2.2) a3 (rY (rr) a0 a1 a2 a3 a4))
def rZ (rr:(Int)->(Int)->(List Int×bB)->(Int)->(List (Int×Int×Bool))->List (Int×Int×Bool))(a0:Int)(a1:Int)(a2:List Int×bB)(a3:Int)(a4:List (Int×Int×Bool)):=(rr a0 (a2.2.getD (tN a1) dF).2.2.1 (a2.1,a2.2) a3 a4)
def aHt (rr:(Int)->(Int)->(List Int×bB)->(Int)->(List (Int×Int×Bool))->List (Int×Int×Bool))(a0:Int)(a1:Int)(a2:List Int×bB)(a3:Int)(a4:List (Int×Int×Bool)):=(rr a0 (a2.2.getD (tN a1) dF).2.2.2.1 (a2.1,a2.2) a3 (rZ (rr) a0 a1 a2 a3 a4))
noncomputable def aJ6:Code:=(cH [1,1,1,0,1,0] [] (aN Tryz.f63)).1
noncomputable def aJ7:List K:=(cH [1,1,1,0,1,0] [] (aN Tryz.f63)).2
def aFh (nr:Nat)(a0:Int)(a1:Int)(a2:List Int×bB)(a3:Int)(a4:List (Int×Int×Bool))(v2:Bool):LS:=⟨kG 105 [(0,(iv a0)),(1,(iv a1)),(4,(.p 4 0)),(11,(.v (.bool v2)))],[(.live false false [(.s 1 0 a2.1.length 1),(.s 2 0 a2.2.length 8)]),(.live false true (flat c3 a2.1)),(.live false true (flat dO a2.2)),(.live false false [(iv a3)]),(.live true false [(.s 5 0 a4.length 3)]),(.live true true (flat jV a4)),(.live false false [(.f 63 [(.p 0 0),(.p 3 0),(.p 4 0),(.p 6 0)])])]⟩
def mM (rr:(Int)->(Int)->(List Int×bB)->(Int)->(List (Int×Int×Bool))->List (Int×Int×Bool))(a0:Int)(a1:Int)(a2:List Int×bB)(a3:Int)(a4:List (Int×Int×Bool)):Bool->List (Int×Int×Bool)
 | v2 =>
  (a4++[(a0,a1,v2)])
noncomputable def aJ8:Code:=(cH [1,1,1,0,1,1,0] [] (aN Tryz.f63)).1
noncomputable def aJ9:List K:=(cH [1,1,1,0,1,1,0] [] (aN Tryz.f63)).2
def aFi (nr:Nat)(a0:Int)(a1:Int)(a2:List Int×bB)(a3:Int)(a4:List (Int×Int×Bool)):LS:=⟨kG 105 [(0,(iv a0)),(1,(iv a1)),(5,(.p 6 0)),(8,(.p 7 0)),(9,(.p 8 0))],[(.live false false [(.s 1 0 a2.1.length 1),(.s 2 0 a2.2.length 8)]),(.live false true (flat c3 a2.1)),(.live false true (flat dO a2.2)),(.live false false [(iv a3)]),(.live true false [(.s 5 0 a4.length 3)]),(.live true true (flat jV a4)),(.live false false [(.f 63 [(.p 0 0),(.p 3 0),(.p 4 0),(.p 6 0)])]),(.live true false [(iv (a2.2.getD (tN a0) dF).1),(iv (a2.2.getD (tN a0) dF).2.1),(iv (a2.2.getD (tN a0) dF).2.2.1),(iv (a2.2.getD (tN a0) dF).2.2.2.1),(iv (a2.2.getD (tN a0) dF).2.2.2.2.1.1),(iv (a2.2.getD (tN a0) dF).2.2.2.2.1.2.1),(iv (a2.2.getD (tN a0) dF).2.2.2.2.1.2.2),(iv (a2.2.getD (tN a0) dF).2.2.2.2.2)]),(.live true false [(iv (a2.2.getD (tN a1) dF).1),(iv (a2.2.getD (tN a1) dF).2.1),(iv (a2.2.getD (tN a1) dF).2.2.1),(iv (a2.2.getD (tN a1) dF).2.2.2.1),(iv (a2.2.getD (tN a1) dF).2.2.2.2.1.1),(iv (a2.2.getD (tN a1) dF).2.2.2.2.1.2.1),(iv (a2.2.getD (tN a1) dF).2.2.2.2.1.2.2),(iv (a2.2.getD (tN a1) dF).2.2.2.2.2)])]⟩
def gH (rr:(Int)->(Int)->(List Int×bB)->(Int)->(List (Int×Int×Bool))->List (Int×Int×Bool))(a0:Int)(a1:Int)(a2:List Int×bB)(a3:Int)(a4:List (Int×Int×Bool)):Unit->List (Int×Int×Bool)
 | () =>
  (bif (decide (((a2.2.getD (tN a1) dF).2.2.1:Int) < 0)) then
   (aHs (rr) a0 a1 a2 a3 a4)
  else
   (bif (decide (((a2.2.getD (tN a0) dF).2.2.1:Int)≥0)) then
    (bif (decide (((W ((a2.2.getD (tN a0) dF).2.1 - (a2.2.getD (tN a0) dF).1)):Int)≥(W ((a2.2.getD (tN a1) dF).2.1 - (a2.2.getD (tN a1) dF).1)))) then
     (aHs (rr) a0 a1 a2 a3 a4)
    else
     (aHt (rr) a0 a1 a2 a3 a4))
   else
    (aHt (rr) a0 a1 a2 a3 a4)))
noncomputable def aKa:Code:=(cH [1,1,1,0,0] [] (aN Tryz.f63)).1
noncomputable def aKb:List K:=(cH [1,1,1,0,0] [] (aN Tryz.f63)).2
def aFj (nr:Nat)(a0:Int)(a1:Int)(a2:List Int×bB)(a3:Int)(a4:List (Int×Int×Bool))(v1:Bool):LS:=⟨kG 105 [(0,(iv a0)),(1,(iv a1)),(4,(.p 4 0)),(5,(.p 6 0)),(8,(.p 7 0)),(9,(.p 8 0)),(11,(.v (.bool v1)))],[(.live false false [(.s 1 0 a2.1.length 1),(.s 2 0 a2.2.length 8)]),(.live false true (flat c3 a2.1)),(.live false true (flat dO a2.2)),(.live false false [(iv a3)]),(.live true false [(.s 5 0 a4.length 3)]),(.live true true (flat jV a4)),(.live false false [(.f 63 [(.p 0 0),(.p 3 0),(.p 4 0),(.p 6 0)])]),(.live true false [(iv (a2.2.getD (tN a0) dF).1),(iv (a2.2.getD (tN a0) dF).2.1),(iv (a2.2.getD (tN a0) dF).2.2.1),(iv (a2.2.getD (tN a0) dF).2.2.2.1),(iv (a2.2.getD (tN a0) dF).2.2.2.2.1.1),(iv (a2.2.getD (tN a0) dF).2.2.2.2.1.2.1),(iv (a2.2.getD (tN a0) dF).2.2.2.2.1.2.2),(iv (a2.2.getD (tN a0) dF).2.2.2.2.2)]),(.live true false [(iv (a2.2.getD (tN a1) dF).1),(iv (a2.2.getD (tN a1) dF).2.1),(iv (a2.2.getD (tN a1) dF).2.2.1),(iv (a2.2.getD (tN a1) dF).2.2.2.1),(iv (a2.2.getD (tN a1) dF).2.2.2.2.1.1),(iv (a2.2.getD (tN a1) dF).2.2.2.2.1.2.1),(iv (a2.2.getD (tN a1) dF).2.2.2.2.1.2.2),(iv (a2.2.getD (tN a1) dF).2.2.2.2.2)])]⟩
def gI (rr:(Int)->(Int)->(List Int×bB)->(Int)->(List (Int×Int×Bool))->List (Int×Int×Bool))(a0:Int)(a1:Int)(a2:List Int×bB)(a3:Int)(a4:List (Int×Int×Bool)):Bool->List (Int×Int×Bool)
 | v1 =>
  (bif v1 then
   (mM rr a0 a1 a2 a3 a4 v1)
  else
   (bif (decide (((a2.2.getD (tN a0) dF).2.2.1:Int) < 0)) then
    (bif (decide (((a2.2.getD (tN a1) dF).2.2.1:Int) < 0)) then
     (mM rr a0 a1 a2 a3 a4 v1)
    else
     (gH rr a0 a1 a2 a3 a4 ()))
   else
    (gH rr a0 a1 a2 a3 a4 ())))
def gJ:Nat->(Int)->(Int)->(List Int×bB)->(Int)->(List (Int×Int×Bool))->List (Int×Int×Bool)
 | 0,_,_,_,_,_=>dF
 | nr+1,a0,a1,a2,a3,a4 =>
 (bif (decide (((uI (rX a0 a1 a2 a3 a4)):Int) > 0)) then
  (gI (gJ nr) a0 a1 a2 a3 a4 (decide (((W ((W ((W ((W ((a2.2.getD (tN a0) dF).2.2.2.2.2+(a2.2.getD (tN a1) dF).2.2.2.2.2))*4))*a3))*a3)):Int)<=(uI (rX a0 a1 a2 a3 a4)))))
 else
  (gI (gJ nr) a0 a1 a2 a3 a4 false))
def F63 (a0:Int)(a1:Int)(a2:List Int×bB)(a3:Int)(a4:List (Int×Int×Bool)):List (Int×Int×Bool):=gJ (((a2.2.length - tN a0)+(a2.2.length - tN a1))+1) a0 a1 a2 a3 a4
theorem qS:∀(nr:Nat) (i k:Int) (t:TR) (sep:Int) (out:List BLK) (m:Nat) (f u h:Int) (m':Nat) (f' u' h':Int),TRE t.2 (tN i) m f u h->TRE t.2 (tN k) m' f' u' h'->0<=i->0<=k->(t.2.length - tN i)+(t.2.length - tN k) < nr ->
 ((gJ nr i k t sep out).length:Int)<=out.length+(u - f)*(u' - f')
 | 0,_,_,_,_,_,_,_,_,_,_,_,_,_,_,_,_,_,h=>absurd h (fJ _)
 | nr+1,i,k,t,sep,out,m,f,u,h,m',f',u',h',H,K,hi,hk,hn=>by
  have hb:=cB H
  have kb:=cB K
  have hm:=oA (a:=u - f) (b:=u' - f') (by omega) (by omega)
  have hs:∀b:Bool,((out++[(i,k,b)]).length:Int)<=out.length+(u - f)*(u' - f'):=fun b=>by rw [List.length_append,List.length_singleton];omega
  have hA:¬(t.2.getD (tN i) dF).2.2.1 < 0->((aHs (gJ nr) i k t sep out).length:Int)<=out.length+(u - f)*(u' - f'):=by
   intro hq
   rcases gT H with⟨_,_,h5,_⟩ | ⟨m1,m2,c,h1,h2,e8,g4,g5,b1,b2,e9⟩
   ·omega
   ·have l1:=cB b1
    have l2:=cB b2
    have c1:=qS nr (t.2.getD (tN i) dF).2.2.1 k t sep out m1 f c h1 m' f' u' h' (by rw [g4,fW];exact b1) K (by omega) hk (by omega)
    have c2:=qS nr (t.2.getD (tN i) dF).2.2.2.1 k t sep (rY (gJ nr) i k t sep out) m2 c u h2 m' f' u' h' (by rw [g5,fW];exact b2) K (by omega) hk (by omega)
    have c3:=aFg f u c (u' - f')
    refine Int.le_trans c2 ?_
    have c4:((rY (gJ nr) i k t sep out).length:Int)<=out.length+(c - f)*(u' - f'):=c1
    omega
  have hB:¬(t.2.getD (tN k) dF).2.2.1 < 0->((aHt (gJ nr) i k t sep out).length:Int)<=out.length+(u - f)*(u' - f'):=by
   intro hq
   rcases gT K with⟨_,_,h5,_⟩ | ⟨m1,m2,c,h1,h2,e8,g4,g5,b1,b2,e9⟩
   ·omega
   ·have l1:=cB b1
    have l2:=cB b2
    have c1:=qS nr i (t.2.getD (tN k) dF).2.2.1 t sep out m f u h m1 f' c h1 H (by rw [g4,fW];exact b1) hi (by omega) (by omega)
    have c2:=qS nr i (t.2.getD (tN k) dF).2.2.2.1 t sep (rZ (gJ nr) i k t sep out) m f u h m2 c u' h2 H (by rw [g5,fW];exact b2) hi (by omega) (by omega)
    have c3:=aB3 f' u' c (u - f)
    refine Int.le_trans c2 ?_
    have c4:((rZ (gJ nr) i k t sep out).length:Int)<=out.length+(u - f)*(c - f'):=c1
    omega
  have hJ:0<=(t.2.getD (tN i) dF).2.2.1\/0<=(t.2.getD (tN k) dF).2.2.1->((gH (gJ nr) i k t sep out ()).length:Int)<=out.length+(u - f)*(u' - f'):=by
   intro hq
   simp only [gH]
   by_cases z1:(t.2.getD (tN k) dF).2.2.1 < 0
   ·rw [bQ z1,cond_true];exact hA (by omega)
   ·rw [cG z1,cond_false]
    by_cases z2:(t.2.getD (tN i) dF).2.2.1≥0
    ·rw [bQ z2,cond_true,Bool.cond_eq_ite]
     split
     ·exact hA (by omega)
     ·exact hB z1
    ·rw [cG z2,cond_false];exact hB z1
  have h5:∀b:Bool,((gI (gJ nr) i k t sep out b).length:Int)<=out.length+(u - f)*(u' - f'):=by
   intro b
   cases b with
   | true=>exact hs true
   | false =>
    simp only [gI,cond_false,mM]
    by_cases z1:(t.2.getD (tN i) dF).2.2.1 < 0
    ·rw [bQ z1,cond_true]
     by_cases z2:(t.2.getD (tN k) dF).2.2.1 < 0
     ·rw [bQ z2,cond_true];exact hs false
     ·rw [cG z2,cond_false];exact hJ (by omega)
    ·rw [cG z1,cond_false];exact hJ (by omega)
  simp only [gJ]
  rw [Bool.cond_eq_ite]
  split
  ·exact h5 _
  ·exact h5 _
theorem bAc {nr:Nat} {i k:Int} {t:TR} {out:List BLK} (sep:Int)(h:PVB i k t out)(hlt:(t.2.length - tN i)+(t.2.length - tN k) < nr+1)(hq:¬(t.2.getD (tN i) dF).2.2.1 < 0) :
 PVB (t.2.getD (tN i) dF).2.2.1 k t out/\PVB (t.2.getD (tN i) dF).2.2.2.1 k t (rY (gJ nr) i k t sep out) /\
 ((t.2.length - tN (t.2.getD (tN i) dF).2.2.1)+(t.2.length - tN k) < nr/\(t.2.length - tN (t.2.getD (tN i) dF).2.2.2.1)+(t.2.length - tN k) < nr)/\(rY (gJ nr) i k t sep out).length<=1048576:=by
 obtain⟨e0,e1,e2,m,f,u,hh,m',f',u',hh',H,K,e5⟩:=h
 have hb:=cB H
 have kb:=cB K
 rcases gT H with⟨_,_,h5,_⟩ | ⟨m1,m2,c,h1,h2,e8,g4,g5,b1,b2,e9⟩
 ·omega
 ·have l1:=cB b1
  have l2:=cB b2
  have p1:=oA (a:=c - f) (b:=u' - f') (by omega) (by omega)
  have p2:=oA (a:=u - c) (b:=u' - f') (by omega) (by omega)
  have c3:=aFg f u c (u' - f')
  have c1:=qS nr (t.2.getD (tN i) dF).2.2.1 k t sep out m1 f c h1 m' f' u' hh' (by rw [g4,fW];exact b1) K (by omega) e1 (by omega)
  have c4:((rY (gJ nr) i k t sep out).length:Int)<=out.length+(c - f)*(u' - f'):=c1
  exact⟨⟨by omega,e1,e2,m1,f,c,h1,m',f',u',hh',by rw [g4,fW];exact b1,K,by omega⟩,⟨by omega,e1,e2,m2,c,u,h2,m',f',u',hh',by rw [g5,fW];exact b2,K,by omega⟩,⟨by omega,by omega⟩,by omega⟩
theorem bAd {nr:Nat} {i k:Int} {t:TR} {out:List BLK} (sep:Int)(h:PVB i k t out)(hlt:(t.2.length - tN i)+(t.2.length - tN k) < nr+1)(hq:¬(t.2.getD (tN k) dF).2.2.1 < 0) :
 PVB i (t.2.getD (tN k) dF).2.2.1 t out/\PVB i (t.2.getD (tN k) dF).2.2.2.1 t (rZ (gJ nr) i k t sep out) /\
 ((t.2.length - tN i)+(t.2.length - tN (t.2.getD (tN k) dF).2.2.1) < nr/\(t.2.length - tN i)+(t.2.length - tN (t.2.getD (tN k) dF).2.2.2.1) < nr)/\(rZ (gJ nr) i k t sep out).length<=1048576:=by
 obtain⟨e0,e1,e2,m,f,u,hh,m',f',u',hh',H,K,e5⟩:=h
 have hb:=cB H
 have kb:=cB K
 rcases gT K with⟨_,_,h5,_⟩ | ⟨m1,m2,c,h1,h2,e8,g4,g5,b1,b2,e9⟩
 ·omega
 ·have l1:=cB b1
  have l2:=cB b2
  have p1:=oA (a:=u - f) (b:=c - f') (by omega) (by omega)
  have p2:=oA (a:=u - f) (b:=u' - c) (by omega) (by omega)
  have c3:=aB3 f' u' c (u - f)
  have c1:=qS nr i (t.2.getD (tN k) dF).2.2.1 t sep out m f u hh m1 f' c h1 H (by rw [g4,fW];exact b1) e0 (by omega) (by omega)
  have c4:((rZ (gJ nr) i k t sep out).length:Int)<=out.length+(u - f)*(c - f'):=c1
  exact⟨⟨e0,by omega,e2,m,f,u,hh,m1,f',c,h1,H,by rw [g4,fW];exact b1,by omega⟩,⟨e0,by omega,e2,m,f,u,hh,m2,c,u',h2,H,by rw [g5,fW];exact b2,by omega⟩,⟨by omega,by omega⟩,by omega⟩
theorem aQo (nr:Nat)(a0:Int)(a1:Int)(a2:List Int×bB)(a3:Int)(a4:List (Int×Int×Bool))(l2_1:a2.1.length<=2^63-1)(l2_2:a2.2.length<=2^63-1)(l4:a4.length<=2^63-1)(hp:PVB a0 a1 a2 a4)(hlt:((a2.2.length - tN a0)+(a2.2.length - tN a1)) < nr+1)(ihr:∀(a0:Int)(a1:Int)(a2:List Int×bB)(a3:Int)(a4:List (Int×Int×Bool))(l2_1:a2.1.length<=2^63-1)(l2_2:a2.2.length<=2^63-1)(l4:a4.length<=2^63-1)(hp:PVB a0 a1 a2 a4),((a2.2.length - tN a0)+(a2.2.length - tN a1)) < nr->Con Tryz.prog 63 [(iv a0),(iv a1),(.p 0 0),(.p 3 0),(.p 4 0),(.p 6 0)] [(.live false false [(.s 1 0 a2.1.length 1),(.s 2 0 a2.2.length 8)]),(.live false true (flat c3 a2.1)),(.live false true (flat dO a2.2)),(.live false false [(iv a3)]),(.live true false [(.s 5 0 a4.length 3)]),(.live true true (flat jV a4)),(.live false false [(.f 63 [(.p 0 0),(.p 3 0),(.p 4 0),(.p 6 0)])])] (.t []) [(.live true true (flat jV (gJ nr a0 a1 a2 a3 a4)))] [.un,.un,.un,.un,(.live true false [(.s 7 0 (gJ nr a0 a1 a2 a3 a4).length 3)]),.dead,.un]) {cx:Cx} (hcx:cx.base=7)(v2:Bool):True->Aw.Good Tryz.prog none 9 (bodyPost Tryz.prog Tryz.f63 (RR cx (.t []) [(.live true true (flat jV (mM (gJ nr) a0 a1 a2 a3 a4 v2)))] [.un,.un,.un,.un,(.live true false [(.s 7 0 (mM (gJ nr) a0 a1 a2 a3 a4 v2).length 3)]),.dead,.un])) cx [] (.c aJ6::aJ7) (aFh nr a0 a1 a2 a3 a4 v2):=by
 intro hi
 have hpb:=aB2 hp
 have hp1:=hp.e0
 have hp2:=hp.e1
 have hp3:=hp.e2
 have e:=Eq.refl (mM (gJ nr) a0 a1 a2 a3 a4 v2);conv at e=>rhs;simp only [mM]
 rw [e]
 try dsimp only [bD]
 try dsimp only
 rw [show flat jV (a4++[(a0,a1,v2)])=(flat jV a4++[(iv a0),(iv a1),(.v (.bool v2))]) from cJ]
 try rw [show List.length (α:=Int×Int×Bool) (a4++[(a0,a1,v2)])=(a4.length+1) from by first | simp;done | omega]
 exact rtn [.p (show((flat jV a4).length=a4.length*3/\a4.length+1<=2 ^ 40/\(a4.length+1)*24<=2 ^ 47) from jW qR (by omega) (by omega))] [] [4,5] [8] hcx (by kernel_rfl)
theorem aQp (nr:Nat)(a0:Int)(a1:Int)(a2:List Int×bB)(a3:Int)(a4:List (Int×Int×Bool))(l2_1:a2.1.length<=2^63-1)(l2_2:a2.2.length<=2^63-1)(l4:a4.length<=2^63-1)(hp:PVB a0 a1 a2 a4)(hlt:((a2.2.length - tN a0)+(a2.2.length - tN a1)) < nr+1)(ihr:∀(a0:Int)(a1:Int)(a2:List Int×bB)(a3:Int)(a4:List (Int×Int×Bool))(l2_1:a2.1.length<=2^63-1)(l2_2:a2.2.length<=2^63-1)(l4:a4.length<=2^63-1)(hp:PVB a0 a1 a2 a4),((a2.2.length - tN a0)+(a2.2.length - tN a1)) < nr->Con Tryz.prog 63 [(iv a0),(iv a1),(.p 0 0),(.p 3 0),(.p 4 0),(.p 6 0)] [(.live false false [(.s 1 0 a2.1.length 1),(.s 2 0 a2.2.length 8)]),(.live false true (flat c3 a2.1)),(.live false true (flat dO a2.2)),(.live false false [(iv a3)]),(.live true false [(.s 5 0 a4.length 3)]),(.live true true (flat jV a4)),(.live false false [(.f 63 [(.p 0 0),(.p 3 0),(.p 4 0),(.p 6 0)])])] (.t []) [(.live true true (flat jV (gJ nr a0 a1 a2 a3 a4)))] [.un,.un,.un,.un,(.live true false [(.s 7 0 (gJ nr a0 a1 a2 a3 a4).length 3)]),.dead,.un]) {cx:Cx} (hcx:cx.base=7):0<=(a2.2.getD (tN a0) dF).2.2.1\/0<=(a2.2.getD (tN a1) dF).2.2.1->Aw.Good Tryz.prog none 9 (bodyPost Tryz.prog Tryz.f63 (RR cx (.t []) [(.live true true (flat jV (gH (gJ nr) a0 a1 a2 a3 a4 ())))] [.un,.un,.un,.un,(.live true false [(.s 7 0 (gH (gJ nr) a0 a1 a2 a3 a4 ()).length 3)]),.dead,.un])) cx [] (.c aJ8::aJ9) (aFi nr a0 a1 a2 a3 a4):=by
 intro hi
 have hpb:=aB2 hp
 have hp1:=hp.e0
 have hp2:=hp.e1
 have hp3:=hp.e2
 have hA:=bAc a3 hp hlt
 have hB:=bAd a3 hp hlt
 have hAl:=fun q=>(hA q).2.2.2
 have hBl:=fun q=>(hB q).2.2.2
 cases h0:(decide (((a2.2.getD (tN a1) dF).2.2.1:Int) < 0)) with
 | true =>
  have q0:=dB h0
  have e:=Eq.refl (gH (gJ nr) a0 a1 a2 a3 a4 ());conv at e=>rhs;simp only [gH,h0,aX]
  rw [e]
  try dsimp only [bD]
  try dsimp only
  exact rtn [.d h0,.c [0,1,2,3,4,5,6] (ihr (a2.2.getD (tN a0) dF).2.2.1 a1 (a2.1,a2.2) a3 a4 (by(try simp only [Lt]);omega) (by(try simp only [Lt]);omega) (by omega) (by first | exact(hA (by omega)).1 | exact(hA (by omega)).2.1 | exact(hB (by omega)).1 | exact(hB (by omega)).2.1) (by first | exact(hA (by omega)).2.2.1.1 | exact(hA (by omega)).2.2.1.2 | exact(hB (by omega)).2.2.1.1 | exact(hB (by omega)).2.2.1.2)),.c [0,1,2,3,4,9,6] (ihr (a2.2.getD (tN a0) dF).2.2.2.1 a1 (a2.1,a2.2) a3 (rY (gJ nr) a0 a1 a2 a3 a4) (by(try simp only [Lt]);omega) (by(try simp only [Lt]);omega) (by(try simp only [Lt]);omega) (by first | exact(hA (by omega)).1 | exact(hA (by omega)).2.1 | exact(hB (by omega)).1 | exact(hB (by omega)).2.1) (by first | exact(hA (by omega)).2.2.1.1 | exact(hA (by omega)).2.2.1.2 | exact(hB (by omega)).2.2.1.1 | exact(hB (by omega)).2.2.1.2))] [] [4,5] [10] hcx (by kernel_rfl)
 | false =>
  have q0:=eC h0
  let t1:List (St Tryz.prog):=[.d h0]
  cases h1:(decide (((a2.2.getD (tN a0) dF).2.2.1:Int)≥0)) with
  | true =>
   have q1:=dB h1
   let t2:List (St Tryz.prog):=(t1++[.d h1])
   cases h2:(decide (((W ((a2.2.getD (tN a0) dF).2.1 - (a2.2.getD (tN a0) dF).1)):Int)≥(W ((a2.2.getD (tN a1) dF).2.1 - (a2.2.getD (tN a1) dF).1)))) with
   | true =>
    have q2:=dB h2
    have e:=Eq.refl (gH (gJ nr) a0 a1 a2 a3 a4 ());conv at e=>rhs;simp only [gH,h0,h1,h2,aX]
    rw [e]
    try dsimp only [bD]
    try dsimp only
    exact rtn (t2++[.d h2,.c [0,1,2,3,4,5,6] (ihr (a2.2.getD (tN a0) dF).2.2.1 a1 (a2.1,a2.2) a3 a4 (by(try simp only [Lt]);omega) (by(try simp only [Lt]);omega) (by omega) (by first | exact(hA (by omega)).1 | exact(hA (by omega)).2.1 | exact(hB (by omega)).1 | exact(hB (by omega)).2.1) (by first | exact(hA (by omega)).2.2.1.1 | exact(hA (by omega)).2.2.1.2 | exact(hB (by omega)).2.2.1.1 | exact(hB (by omega)).2.2.1.2)),.c [0,1,2,3,4,9,6] (ihr (a2.2.getD (tN a0) dF).2.2.2.1 a1 (a2.1,a2.2) a3 (rY (gJ nr) a0 a1 a2 a3 a4) (by(try simp only [Lt]);omega) (by(try simp only [Lt]);omega) (by(try simp only [Lt]);omega) (by first | exact(hA (by omega)).1 | exact(hA (by omega)).2.1 | exact(hB (by omega)).1 | exact(hB (by omega)).2.1) (by first | exact(hA (by omega)).2.2.1.1 | exact(hA (by omega)).2.2.1.2 | exact(hB (by omega)).2.2.1.1 | exact(hB (by omega)).2.2.1.2))]) [] [4,5] [10] hcx (by kernel_rfl)
   | false =>
    have q2:=eC h2
    have e:=Eq.refl (gH (gJ nr) a0 a1 a2 a3 a4 ());conv at e=>rhs;simp only [gH,h0,h1,h2,aX]
    rw [e]
    try dsimp only [bD]
    try dsimp only
    exact rtn (t2++[.d h2,.c [0,1,2,3,4,5,6] (ihr a0 (a2.2.getD (tN a1) dF).2.2.1 (a2.1,a2.2) a3 a4 (by(try simp only [Lt]);omega) (by(try simp only [Lt]);omega) (by omega) (by first | exact(hA (by omega)).1 | exact(hA (by omega)).2.1 | exact(hB (by omega)).1 | exact(hB (by omega)).2.1) (by first | exact(hA (by omega)).2.2.1.1 | exact(hA (by omega)).2.2.1.2 | exact(hB (by omega)).2.2.1.1 | exact(hB (by omega)).2.2.1.2)),.c [0,1,2,3,4,9,6] (ihr a0 (a2.2.getD (tN a1) dF).2.2.2.1 (a2.1,a2.2) a3 (rZ (gJ nr) a0 a1 a2 a3 a4) (by(try simp only [Lt]);omega) (by(try simp only [Lt]);omega) (by(try simp only [Lt]);omega) (by first | exact(hA (by omega)).1 | exact(hA (by omega)).2.1 | exact(hB (by omega)).1 | exact(hB (by omega)).2.1) (by first | exact(hA (by omega)).2.2.1.1 | exact(hA (by omega)).2.2.1.2 | exact(hB (by omega)).2.2.1.1 | exact(hB (by omega)).2.2.1.2))]) [] [4,5] [10] hcx (by kernel_rfl)
  | false =>
   have q1:=eC h1
   have e:=Eq.refl (gH (gJ nr) a0 a1 a2 a3 a4 ());conv at e=>rhs;simp only [gH,h0,h1,aX]
   rw [e]
   try dsimp only [bD]
   try dsimp only
   exact rtn (t1++[.d h1,.c [0,1,2,3,4,5,6] (ihr a0 (a2.2.getD (tN a1) dF).2.2.1 (a2.1,a2.2) a3 a4 (by(try simp only [Lt]);omega) (by(try simp only [Lt]);omega) (by omega) (by first | exact(hA (by omega)).1 | exact(hA (by omega)).2.1 | exact(hB (by omega)).1 | exact(hB (by omega)).2.1) (by first | exact(hA (by omega)).2.2.1.1 | exact(hA (by omega)).2.2.1.2 | exact(hB (by omega)).2.2.1.1 | exact(hB (by omega)).2.2.1.2)),.c [0,1,2,3,4,9,6] (ihr a0 (a2.2.getD (tN a1) dF).2.2.2.1 (a2.1,a2.2) a3 (rZ (gJ nr) a0 a1 a2 a3 a4) (by(try simp only [Lt]);omega) (by(try simp only [Lt]);omega) (by(try simp only [Lt]);omega) (by first | exact(hA (by omega)).1 | exact(hA (by omega)).2.1 | exact(hB (by omega)).1 | exact(hB (by omega)).2.1) (by first | exact(hA (by omega)).2.2.1.1 | exact(hA (by omega)).2.2.1.2 | exact(hB (by omega)).2.2.1.1 | exact(hB (by omega)).2.2.1.2))]) [] [4,5] [10] hcx (by kernel_rfl)
theorem aQq (nr:Nat)(a0:Int)(a1:Int)(a2:List Int×bB)(a3:Int)(a4:List (Int×Int×Bool))(l2_1:a2.1.length<=2^63-1)(l2_2:a2.2.length<=2^63-1)(l4:a4.length<=2^63-1)(hp:PVB a0 a1 a2 a4)(hlt:((a2.2.length - tN a0)+(a2.2.length - tN a1)) < nr+1)(ihr:∀(a0:Int)(a1:Int)(a2:List Int×bB)(a3:Int)(a4:List (Int×Int×Bool))(l2_1:a2.1.length<=2^63-1)(l2_2:a2.2.length<=2^63-1)(l4:a4.length<=2^63-1)(hp:PVB a0 a1 a2 a4),((a2.2.length - tN a0)+(a2.2.length - tN a1)) < nr->Con Tryz.prog 63 [(iv a0),(iv a1),(.p 0 0),(.p 3 0),(.p 4 0),(.p 6 0)] [(.live false false [(.s 1 0 a2.1.length 1),(.s 2 0 a2.2.length 8)]),(.live false true (flat c3 a2.1)),(.live false true (flat dO a2.2)),(.live false false [(iv a3)]),(.live true false [(.s 5 0 a4.length 3)]),(.live true true (flat jV a4)),(.live false false [(.f 63 [(.p 0 0),(.p 3 0),(.p 4 0),(.p 6 0)])])] (.t []) [(.live true true (flat jV (gJ nr a0 a1 a2 a3 a4)))] [.un,.un,.un,.un,(.live true false [(.s 7 0 (gJ nr a0 a1 a2 a3 a4).length 3)]),.dead,.un]) {cx:Cx} (hcx:cx.base=7)(v1:Bool):True->Aw.Good Tryz.prog none 9 (bodyPost Tryz.prog Tryz.f63 (RR cx (.t []) [(.live true true (flat jV (gI (gJ nr) a0 a1 a2 a3 a4 v1)))] [.un,.un,.un,.un,(.live true false [(.s 7 0 (gI (gJ nr) a0 a1 a2 a3 a4 v1).length 3)]),.dead,.un])) cx [] (.c aKa::aKb) (aFj nr a0 a1 a2 a3 a4 v1):=by
 intro hi
 have hpb:=aB2 hp
 have hp1:=hp.e0
 have hp2:=hp.e1
 have hp3:=hp.e2
 rcases aLg v1 with h0 | h0
 ·skip
  have e:gI (gJ nr) a0 a1 a2 a3 a4 v1=(mM (gJ nr) a0 a1 a2 a3 a4 v1):=by simp only [gI,h0,aX]
  rw [e]
  refine ga [.d h0,.z 6] [] [0,1,4,11] [] hcx aJ6 (aJ7) (aFh nr a0 a1 a2 a3 a4 v1) (by kernel_rfl) ?_
  exact aQo nr a0 a1 a2 a3 a4 l2_1 l2_2 l4 hp hlt ihr hcx v1 trivial
 ·skip
  let t1:List (St Tryz.prog):=[.d h0]
  cases h1:(decide (((a2.2.getD (tN a0) dF).2.2.1:Int) < 0)) with
  | true =>
   have q1:=dB h1
   let t2:List (St Tryz.prog):=(t1++[.d h1])
   cases h2:(decide (((a2.2.getD (tN a1) dF).2.2.1:Int) < 0)) with
   | true =>
    have q2:=dB h2
    have e:gI (gJ nr) a0 a1 a2 a3 a4 v1=(mM (gJ nr) a0 a1 a2 a3 a4 v1):=by simp only [gI,h0,h1,h2,aX]
    rw [e]
    refine ga (t2++[.d h2,.z 6]) [] [0,1,4,11] [] hcx aJ6 (aJ7) (aFh nr a0 a1 a2 a3 a4 v1) (by kernel_rfl) ?_
    exact aQo nr a0 a1 a2 a3 a4 l2_1 l2_2 l4 hp hlt ihr hcx v1 trivial
   | false =>
    have q2:=eC h2
    have e:=Eq.refl (gI (gJ nr) a0 a1 a2 a3 a4 v1);conv at e=>rhs;simp only [gI,h0,h1,h2,aX]
    rw [e]
    refine ga (t2++[.d h2,.z 7]) [] [0,1,5,8,9] [7,8] hcx aJ8 (aJ9) (aFi nr a0 a1 a2 a3 a4) (by kernel_rfl) ?_
    exact aQp nr a0 a1 a2 a3 a4 l2_1 l2_2 l4 hp hlt ihr hcx (by omega)
  | false =>
   have q1:=eC h1
   have e:=Eq.refl (gI (gJ nr) a0 a1 a2 a3 a4 v1);conv at e=>rhs;simp only [gI,h0,h1,aX]
   rw [e]
   refine ga (t1++[.d h1,.z 7]) [] [0,1,5,8,9] [7,8] hcx aJ8 (aJ9) (aFi nr a0 a1 a2 a3 a4) (by kernel_rfl) ?_
   exact aQp nr a0 a1 a2 a3 a4 l2_1 l2_2 l4 hp hlt ihr hcx (by omega)
theorem bB9:∀(nr:Nat) (a0:Int) (a1:Int) (a2:List Int×bB) (a3:Int) (a4:List (Int×Int×Bool)) (l2_1:a2.1.length<=2^63-1) (l2_2:a2.2.length<=2^63-1) (l4:a4.length<=2^63-1) (hp:PVB a0 a1 a2 a4),((a2.2.length - tN a0)+(a2.2.length - tN a1)) < nr->Con Tryz.prog 63 [(iv a0),(iv a1),(.p 0 0),(.p 3 0),(.p 4 0),(.p 6 0)] [(.live false false [(.s 1 0 a2.1.length 1),(.s 2 0 a2.2.length 8)]),(.live false true (flat c3 a2.1)),(.live false true (flat dO a2.2)),(.live false false [(iv a3)]),(.live true false [(.s 5 0 a4.length 3)]),(.live true true (flat jV a4)),(.live false false [(.f 63 [(.p 0 0),(.p 3 0),(.p 4 0),(.p 6 0)])])] (.t []) [(.live true true (flat jV (gJ nr a0 a1 a2 a3 a4)))] [.un,.un,.un,.un,(.live true false [(.s 7 0 (gJ nr a0 a1 a2 a3 a4).length 3)]),.dead,.un]:=by
 intro nr
 induction nr with
 | zero=>intro a0 a1 a2 a3 a4 l2_1 l2_2 l4 hp hlt;exact absurd hlt (fJ _)
 | succ nr ihr =>
 intro a0 a1 a2 a3 a4 l2_1 l2_2 l4 hp hlt
 refine aT Tryz.func63 (by kernel_rfl) fun cx hcx=>?_
 have hpb:=aB2 hp
 have hp1:=hp.e0
 have hp2:=hp.e1
 have hp3:=hp.e2
 let t0:List (St Tryz.prog):=[.i a0 (a2.2.length),.L cZ a2.2 a0 0 8,.i a1 (a2.2.length),.L cZ a2.2 a1 0 8,.c [] (C65 (a2.2.getD (tN a0) dF).2.2.2.2.1 (a2.2.getD (tN a1) dF).2.2.2.2.1),.c [] (C64 (rX a0 a1 a2 a3 a4))]
 cases h0:(decide (((uI (rX a0 a1 a2 a3 a4)):Int) > 0)) with
 | true =>
  have q0:=dB h0
  have e:=Eq.refl (gJ (nr+1) a0 a1 a2 a3 a4);conv at e=>rhs;simp only [gJ,h0,aX]
  rw [e]
  refine ga (t0++[.d h0,.z 5]) [] [0,1,4,5,8,9,11] [7,8] hcx aKa (aKb) (aFj nr a0 a1 a2 a3 a4 (decide (((W ((W ((W ((W ((a2.2.getD (tN a0) dF).2.2.2.2.2+(a2.2.getD (tN a1) dF).2.2.2.2.2))*4))*a3))*a3)):Int)<=(uI (rX a0 a1 a2 a3 a4))))) (by kernel_rfl) ?_
  exact aQq nr a0 a1 a2 a3 a4 l2_1 l2_2 l4 hp hlt ihr hcx (decide (((W ((W ((W ((W ((a2.2.getD (tN a0) dF).2.2.2.2.2+(a2.2.getD (tN a1) dF).2.2.2.2.2))*4))*a3))*a3)):Int)<=(uI (rX a0 a1 a2 a3 a4)))) trivial
 | false =>
  have q0:=eC h0
  have e:=Eq.refl (gJ (nr+1) a0 a1 a2 a3 a4);conv at e=>rhs;simp only [gJ,h0,aX]
  rw [e]
  refine ga (t0++[.d h0,.z 5]) [] [0,1,4,5,8,9,11] [7,8] hcx aKa (aKb) (aFj nr a0 a1 a2 a3 a4 false) (by kernel_rfl) ?_
  exact aQq nr a0 a1 a2 a3 a4 l2_1 l2_2 l4 hp hlt ihr hcx false trivial
theorem C63 (a0:Int)(a1:Int)(a2:List Int×bB)(a3:Int)(a4:List (Int×Int×Bool))(l2_1:a2.1.length<=2^63-1)(l2_2:a2.2.length<=2^63-1)(l4:a4.length<=2^63-1)(hp:PVB a0 a1 a2 a4):Con Tryz.prog 63 [(iv a0),(iv a1),(.p 0 0),(.p 3 0),(.p 4 0),(.p 6 0)] [(.live false false [(.s 1 0 a2.1.length 1),(.s 2 0 a2.2.length 8)]),(.live false true (flat c3 a2.1)),(.live false true (flat dO a2.2)),(.live false false [(iv a3)]),(.live true false [(.s 5 0 a4.length 3)]),(.live true true (flat jV a4)),(.live false false [(.f 63 [(.p 0 0),(.p 3 0),(.p 4 0),(.p 6 0)])])] (.t []) [(.live true true (flat jV (F63 a0 a1 a2 a3 a4)))] [.un,.un,.un,.un,(.live true false [(.s 7 0 (F63 a0 a1 a2 a3 a4).length 3)]),.dead,.un]:=bB9 (((a2.2.length - tN a0)+(a2.2.length - tN a1))+1) a0 a1 a2 a3 a4 l2_1 l2_2 l4 hp (lss _)
noncomputable def aQr:Code:=(cH [1,1,1,1,0,1,0] [] (aN Tryz.f38)).1
noncomputable def aQs:List K:=(cH [1,1,1,1,0,1,0] [] (aN Tryz.f38)).2
def aL7 (a0:List Int×bB)(a1:Int)(v1c:List SV)(v1n:Nat):LS:=⟨kG 15 [(5,(.p 2 0)),(6,(.p 3 0))],[(.live false true (flat c3 a0.1)),(.live false true (flat dO a0.2)),(.live true false [(.s 4 0 v1n 3)]),(.live true false [(.f 63 [(.p 5 0),(.p 6 0),(.p 2 0),(.p 3 0)])]),(.live true true v1c),(.live true false [(.s 0 0 a0.1.length 1),(.s 1 0 a0.2.length 8)]),(.live true false [(iv a1)])]⟩
def wV (a0:List Int×bB)(a1:Int):List (Int×Int×Bool)->List (Int×Int×Bool)
 | v1 =>
  (F63 0 0 (a0.1,a0.2) a1 v1)
theorem aXf (a0:List Int×bB)(a1:Int)(l0_1:a0.1.length<=2^63-1)(l0_2:a0.2.length<=2^63-1)(hp:0 < a0.2.length->PVB 0 0 a0 []) {cx:Cx} (hcx:cx.base=2)(v1:List (Int×Int×Bool)):PVB 0 0 a0 v1->Aw.Good Tryz.prog none 9 (bodyPost Tryz.prog Tryz.f38 (RR cx (.s 2 0 (wV a0 a1 v1).length 3) [(.live true true (flat jV (wV a0 a1 v1)))] [])) cx [] (.c aQr::aQs) (aL7 a0 a1 (flat jV v1) v1.length):=by
 intro hi
 have hb:=aB2 hi
 have e:=Eq.refl (wV a0 a1 v1);conv at e=>rhs;simp only [wV]
 rw [e]
 exact rt [.c [5,0,1,6,2,4,3] (C63 0 0 (a0.1,a0.2) a1 v1 (by(try simp only [Lt]);omega) (by(try simp only [Lt]);omega) (by omega) hi)] [] [7] hcx (by kernel_rfl)
def bL (a0:List Int×bB)(a1:Int):List (Int×Int×Bool) :=
 (bif (decide (((a0.2.length:Int):Int) > 0)) then
  (wV a0 a1 ([]:List (Int×Int×Bool)))
 else
  ([]:List (Int×Int×Bool)))
theorem C38 (a0:List Int×bB)(a1:Int)(l0_1:a0.1.length<=2^63-1)(l0_2:a0.2.length<=2^63-1)(hp:0 < a0.2.length->PVB 0 0 a0 []):Con Tryz.prog 38 [(.a [(.s 0 0 a0.1.length 1),(.s 1 0 a0.2.length 8)]),(iv a1)] [(.live false true (flat c3 a0.1)),(.live false true (flat dO a0.2))] (.s 2 0 (bL a0 a1).length 3) [(.live true true (flat jV (bL a0 a1)))]:=by
 refine aT Tryz.func38 (by kernel_rfl) fun cx hcx=>?_
 cases h0:(decide (((a0.2.length:Int):Int) > 0)) with
 | true =>
  have q0:=dB h0
  have e:=Eq.refl (bL a0 a1);conv at e=>rhs;simp only [bL,h0,aX]
  rw [e]
  refine ga [.d h0,.z 5] [.cell 4 0 3] [5,6] [4,5,6,2,3] hcx aQr (aQs) (aL7 a0 a1 (flat jV ([]:List (Int×Int×Bool))) 0) (by kernel_rfl) ?_
  exact aXf a0 a1 l0_1 l0_2 hp hcx ([]:List (Int×Int×Bool)) (hp (by omega))
 | false =>
  have q0:=eC h0
  have e:=Eq.refl (bL a0 a1);conv at e=>rhs;simp only [bL,h0,aX]
  rw [e]
  exact rt [.d h0] [.slot 4 3] [6] hcx (by kernel_rfl)
def aDl (a0:List (Int×Int×Bool))(a1:List (Int×Int×Bool)):Int->(Int)⊕(Bool)
 | v1 =>
  (bif (decide ((v1:Int) < (a0.length:Int))) then
   (bif (!((((a0.getD (tN v1) dF).1:Int) == (a1.getD (tN v1) dF).1)&&((((a0.getD (tN v1) dF).2.1:Int) == (a1.getD (tN v1) dF).2.1)&&(((a0.getD (tN v1) dF).2.2 == (a1.getD (tN v1) dF).2.2)&&true)))) then
    (.inr false)
   else
    (.inl (v1+1)))
  else
   (.inr true))
def uJ (a0:List (Int×Int×Bool))(a1:List (Int×Int×Bool)):Bool :=
 (bif (((a0.length:Int):Int) != (a1.length:Int)) then
  false
 else
  (aA (aDl a0 a1) (tN ((a0.length:Int) - 0)+1) 0))
def F87 (a0:Int×Int×Int×Int×Zt×Int)(a1:Int×Int×Int×Int×Zt×Int):Int :=
 (nV (nW a0.2.2.2.2.1 a1.2.2.2.2.1))
def wW (a0:List Int×bB)(a1:Int)(a2:Int)(a3:Int):=(F87 (a0.2.getD (tN a1) dF) (a0.2.getD (tN a2) dF))
def oB (rr:(List Int×bB)->(Int)->(Int)->(Int)->List (Int×Int×Bool))(a0:List Int×bB)(a1:Int)(a2:Int)(a3:Int):=(rr (a0.1,a0.2) (a0.2.getD (tN a1) dF).2.2.1 a2 a3)
def oC (rr:(List Int×bB)->(Int)->(Int)->(Int)->List (Int×Int×Bool))(a0:List Int×bB)(a1:Int)(a2:Int)(a3:Int):=(rr (a0.1,a0.2) (a0.2.getD (tN a1) dF).2.2.2.1 a2 a3)
def mN (rr:(List Int×bB)->(Int)->(Int)->(Int)->List (Int×Int×Bool))(a0:List Int×bB)(a1:Int)(a2:Int)(a3:Int):=(rr (a0.1,a0.2) a1 (a0.2.getD (tN a2) dF).2.2.1 a3)
def mO (rr:(List Int×bB)->(Int)->(Int)->(Int)->List (Int×Int×Bool))(a0:List Int×bB)(a1:Int)(a2:Int)(a3:Int):=(rr (a0.1,a0.2) a1 (a0.2.getD (tN a2) dF).2.2.2.1 a3)
def jG (rr:(List Int×bB)->(Int)->(Int)->(Int)->List (Int×Int×Bool))(a0:List Int×bB)(a1:Int)(a2:Int)(a3:Int):Unit->List (Int×Int×Bool)
 | () =>
  (bif (decide (((a0.2.getD (tN a1) dF).2.2.1:Int) < 0)) then
   (bif (decide (((a0.2.getD (tN a2) dF).2.2.1:Int) < 0)) then
    ([(a1,a2,false)]:List (Int×Int×Bool))
   else
    (bif (decide (((a0.2.getD (tN a1) dF).2.2.1:Int)≥0)) then
     (bif (decide (((W ((a0.2.getD (tN a1) dF).2.1 - (a0.2.getD (tN a1) dF).1)):Int)≥(W ((a0.2.getD (tN a2) dF).2.1 - (a0.2.getD (tN a2) dF).1)))) then
      ((oB (rr) a0 a1 a2 a3)++(oC (rr) a0 a1 a2 a3))
     else
      ((mN (rr) a0 a1 a2 a3)++(mO (rr) a0 a1 a2 a3)))
    else
     ((mN (rr) a0 a1 a2 a3)++(mO (rr) a0 a1 a2 a3))))
  else
   (bif (decide (((a0.2.getD (tN a2) dF).2.2.1:Int) < 0)) then
    ((oB (rr) a0 a1 a2 a3)++(oC (rr) a0 a1 a2 a3))
   else
    (bif (decide (((a0.2.getD (tN a1) dF).2.2.1:Int)≥0)) then
     (bif (decide (((W ((a0.2.getD (tN a1) dF).2.1 - (a0.2.getD (tN a1) dF).1)):Int)≥(W ((a0.2.getD (tN a2) dF).2.1 - (a0.2.getD (tN a2) dF).1)))) then
      ((oB (rr) a0 a1 a2 a3)++(oC (rr) a0 a1 a2 a3))
     else
      ((mN (rr) a0 a1 a2 a3)++(mO (rr) a0 a1 a2 a3)))
    else
     ((mN (rr) a0 a1 a2 a3)++(mO (rr) a0 a1 a2 a3)))))
def eR:Nat->(List Int×bB)->(Int)->(Int)->(Int)->List (Int×Int×Bool)
 | 0,_,_,_,_=>dF
 | nr+1,a0,a1,a2,a3 =>
 (bif (decide (((W ((W ((W ((W ((a0.2.getD (tN a1) dF).2.2.2.2.2+(a0.2.getD (tN a2) dF).2.2.2.2.2))*4))*a3))*a3)):Int)<=(wW a0 a1 a2 a3))) then
  (bif (decide (((wW a0 a1 a2 a3):Int) > 0)) then
   ([(a1,a2,true)]:List (Int×Int×Bool))
  else
   (jG (eR nr) a0 a1 a2 a3 ()))
 else
  (jG (eR nr) a0 a1 a2 a3 ()))
def aXg (a0:List Int×bB)(a1:Int)(a2:Int)(a3:Int):List (Int×Int×Bool):=eR (((a0.2.length - tN a1)+(a0.2.length - tN a2))+1) a0 a1 a2 a3
theorem uK:∀(nr:Nat) (t:TR) (i k sep:Int) (m:Nat) (f u h:Int) (m':Nat) (f' u' h':Int),TRE t.2 (tN i) m f u h->TRE t.2 (tN k) m' f' u' h'->0<=i->0<=k->(t.2.length - tN i)+(t.2.length - tN k) < nr ->
 ((eR nr t i k sep).length:Int)<=(u - f)*(u' - f')
 | 0,_,_,_,_,_,_,_,_,_,_,_,_,_,_,_,_,h=>absurd h (fJ _)
 | nr+1,t,i,k,sep,m,f,u,h,m',f',u',h',H,K,hi,hk,hn=>by
  have hb:=cB H
  have kb:=cB K
  have hm:=oA (a:=u - f) (b:=u' - f') (by omega) (by omega)
  have hs:∀b:Bool,(([(i,k,b)]:List BLK).length:Int)<=(u - f)*(u' - f'):=fun b=>by rw [List.length_singleton];omega
  have hA:¬(t.2.getD (tN i) dF).2.2.1 < 0->((oB (eR nr) t i k sep++oC (eR nr) t i k sep).length:Int)<=(u - f)*(u' - f'):=by
   intro hq
   rcases gT H with⟨_,_,h5,_⟩ | ⟨m1,m2,c,h1,h2,e8,g4,g5,b1,b2,e9⟩
   ·omega
   ·have l1:=cB b1
    have l2:=cB b2
    have c1:((oB (eR nr) t i k sep).length:Int)<=(c - f)*(u' - f'):=uK nr t (t.2.getD (tN i) dF).2.2.1 k sep m1 f c h1 m' f' u' h' (by rw [g4,fW];exact b1) K (by omega) hk (by omega)
    have c2:((oC (eR nr) t i k sep).length:Int)<=(u - c)*(u' - f'):=uK nr t (t.2.getD (tN i) dF).2.2.2.1 k sep m2 c u h2 m' f' u' h' (by rw [g5,fW];exact b2) K (by omega) hk (by omega)
    have c3:=aFg f u c (u' - f')
    rw [List.length_append]
    omega
  have hB:¬(t.2.getD (tN k) dF).2.2.1 < 0->((mN (eR nr) t i k sep++mO (eR nr) t i k sep).length:Int)<=(u - f)*(u' - f'):=by
   intro hq
   rcases gT K with⟨_,_,h5,_⟩ | ⟨m1,m2,c,h1,h2,e8,g4,g5,b1,b2,e9⟩
   ·omega
   ·have l1:=cB b1
    have l2:=cB b2
    have c1:((mN (eR nr) t i k sep).length:Int)<=(u - f)*(c - f'):=uK nr t i (t.2.getD (tN k) dF).2.2.1 sep m f u h m1 f' c h1 H (by rw [g4,fW];exact b1) hi (by omega) (by omega)
    have c2:((mO (eR nr) t i k sep).length:Int)<=(u - f)*(u' - c):=uK nr t i (t.2.getD (tN k) dF).2.2.2.1 sep m f u h m2 c u' h2 H (by rw [g5,fW];exact b2) hi (by omega) (by omega)
    have c3:=aB3 f' u' c (u - f)
    rw [List.length_append]
    omega
  have hJ:((jG (eR nr) t i k sep ()).length:Int)<=(u - f)*(u' - f'):=by
   simp only [jG]
   by_cases z1:(t.2.getD (tN i) dF).2.2.1 < 0<;>by_cases z2:(t.2.getD (tN k) dF).2.2.1 < 0
   ·rw [bQ z1,bQ z2,cond_true,cond_true];exact hs false
   ·rw [bQ z1,cG z2,cond_true,cond_false,cG (show ¬(t.2.getD (tN i) dF).2.2.1≥0 by omega),cond_false];exact hB z2
   ·rw [cG z1,bQ z2,cond_false,cond_true];exact hA z1
   ·rw [cG z1,cG z2,cond_false,cond_false,bQ (show(t.2.getD (tN i) dF).2.2.1≥0 by omega),cond_true,Bool.cond_eq_ite]
    split
    ·exact hA z1
    ·exact hB z2
  simp only [eR]
  rw [Bool.cond_eq_ite]
  split
  ·rw [Bool.cond_eq_ite]
   split
   ·exact hs true
   ·exact hJ
  ·exact hJ
def aQt (t:TR)(sep:Int)(i k:Int):Prop :=
 W (W (W (W ((t.2.getD (tN i) dF).2.2.2.2.2+(t.2.getD (tN k) dF).2.2.2.2.2)*4)*sep)*sep)<=uI (F65 (t.2.getD (tN i) dF).2.2.2.2.1 (t.2.getD (tN k) dF).2.2.2.2.1) /\
  uI (F65 (t.2.getD (tN i) dF).2.2.2.2.1 (t.2.getD (tN k) dF).2.2.2.2.1) > 0
def aQu (t:TR)(i k:Int):Prop :=
 (t.2.getD (tN k) dF).2.2.1 < 0\/((t.2.getD (tN i) dF).2.2.1≥0/\W ((t.2.getD (tN i) dF).2.1 - (t.2.getD (tN i) dF).1)≥W ((t.2.getD (tN k) dF).2.1 - (t.2.getD (tN k) dF).1))
section
variable {t : TR} {sep i k : Int} {out : List BLK} {n : Nat}
theorem aXh:gH (gJ n) i k t sep out ()=(open Classical in if aQu t i k then aHs (gJ n) i k t sep out else aHt (gJ n) i k t sep out):=by
 simp only [gH]
 unfold aQu
 by_cases h1:(t.2.getD (tN k) dF).2.2.1 < 0
 ·rw [bQ h1,cond_true,if_pos (.inl h1)]
 ·rw [cG h1,cond_false]
  by_cases h2:(t.2.getD (tN i) dF).2.2.1≥0
  ·rw [bQ h2,cond_true]
   by_cases h3:W ((t.2.getD (tN i) dF).2.1 - (t.2.getD (tN i) dF).1)≥W ((t.2.getD (tN k) dF).2.1 - (t.2.getD (tN k) dF).1)
   ·rw [bQ h3,cond_true,if_pos (.inr ⟨h2,h3⟩)]
   ·rw [cG h3,cond_false,if_neg (fun h=>h.elim h1 (fun h=>h3 h.2))]
  ·rw [cG h2,cond_false,if_neg (fun h=>h.elim h1 (fun h=>h2 h.1))]
end
section
variable {t : TR} {sep i k : Int} {out : List BLK} {n : Nat}
theorem aTc (h:aQt t sep i k):gJ (n+1) i k t sep out=out++[(i,k,true)]:=by
 simp only [gJ]
 rw [bQ (show uI (rX i k t sep out) > 0 from h.2),cond_true,bQ (show W (W (W (W ((t.2.getD (tN i) dF).2.2.2.2.2+(t.2.getD (tN k) dF).2.2.2.2.2)*4)*sep)*sep)<=uI (rX i k t sep out) from h.1)]
 rfl
theorem aTd (h:¬aQt t sep i k):gJ (n+1) i k t sep out=gI (gJ n) i k t sep out false:=by
 simp only [gJ]
 by_cases h2:uI (rX i k t sep out) > 0
 ·rw [bQ h2,cond_true,cG (show ¬W (W (W (W ((t.2.getD (tN i) dF).2.2.2.2.2+(t.2.getD (tN k) dF).2.2.2.2.2)*4)*sep)*sep)<=uI (rX i k t sep out) from fun h1=>h ⟨h1,h2⟩)]
 ·rw [cG h2,cond_false]
theorem aXi:gI (gJ n) i k t sep out false=if(t.2.getD (tN i) dF).2.2.1 < 0/\(t.2.getD (tN k) dF).2.2.1 < 0 then out++[(i,k,false)] else gH (gJ n) i k t sep out ():=by
 simp only [gI,cond_false,mM]
 by_cases zi:(t.2.getD (tN i) dF).2.2.1 < 0<;>by_cases zk:(t.2.getD (tN k) dF).2.2.1 < 0
 ·rw [bQ zi,bQ zk,if_pos ⟨zi,zk⟩];rfl
 ·rw [bQ zi,cG zk,if_neg (fun h=>zk h.2)];rfl
 ·rw [cG zi,if_neg (fun h=>zi h.1)];rfl
 ·rw [cG zi,if_neg (fun h=>zi h.1)];rfl
theorem aTe (h:aQt t sep i k):eR (n+1) t i k sep=[(i,k,true)]:=by
 simp only [eR]
 rw [bQ (show W (W (W (W ((t.2.getD (tN i) dF).2.2.2.2.2+(t.2.getD (tN k) dF).2.2.2.2.2)*4)*sep)*sep)<=wW t i k sep from h.1),cond_true,bQ (show wW t i k sep > 0 from h.2)]
 rfl
theorem aTf (h:¬aQt t sep i k):eR (n+1) t i k sep=jG (eR n) t i k sep ():=by
 simp only [eR]
 by_cases h1:W (W (W (W ((t.2.getD (tN i) dF).2.2.2.2.2+(t.2.getD (tN k) dF).2.2.2.2.2)*4)*sep)*sep)<=wW t i k sep
 ·rw [bQ h1,cond_true,cG (show ¬wW t i k sep > 0 from fun h2=>h ⟨h1,h2⟩),cond_false]
 ·rw [cG h1,cond_false]
theorem aXj:jG (eR n) t i k sep ()=(open Classical in if(t.2.getD (tN i) dF).2.2.1 < 0/\(t.2.getD (tN k) dF).2.2.1 < 0 then [(i,k,false)] else if aQu t i k then oB (eR n) t i k sep++oC (eR n) t i k sep else mN (eR n) t i k sep++mO (eR n) t i k sep):=by
 simp only [jG]
 unfold aQu
 by_cases zi:(t.2.getD (tN i) dF).2.2.1 < 0<;>by_cases zk:(t.2.getD (tN k) dF).2.2.1 < 0
 ·rw [bQ zi,bQ zk,if_pos ⟨zi,zk⟩];rfl
 ·rw [bQ zi,cG zk,cond_true,cond_false,cG (show ¬(t.2.getD (tN i) dF).2.2.1≥0 by omega),cond_false,if_neg (fun h=>zk h.2),if_neg (fun h=>h.elim zk (fun h=>absurd h.1 (by omega)))]
 ·rw [cG zi,bQ zk,cond_false,cond_true,if_neg (fun h=>zi h.1),if_pos (.inl zk)]
 ·rw [cG zi,cG zk,cond_false,cond_false,bQ (show(t.2.getD (tN i) dF).2.2.1≥0 by omega),cond_true,if_neg (fun h=>zi h.1)]
  by_cases h3:W ((t.2.getD (tN i) dF).2.1 - (t.2.getD (tN i) dF).1)≥W ((t.2.getD (tN k) dF).2.1 - (t.2.getD (tN k) dF).1)
  ·rw [bQ h3,cond_true,if_pos (.inr ⟨by omega,h3⟩)]
  ·rw [cG h3,cond_false,if_neg (fun h=>h.elim zk (fun h=>h3 h.2))]
end
theorem uL:∀(n:Nat) (i k:Int) (t:TR) (sep:Int) (out:List BLK) (m:Nat) (f u h:Int) (m':Nat) (f' u' h':Int),TRE t.2 (tN i) m f u h->TRE t.2 (tN k) m' f' u' h'->0<=i->0<=k->(t.2.length - tN i)+(t.2.length - tN k) < n ->
 gJ n i k t sep out=out++eR n t i k sep
 | 0,_,_,_,_,_,_,_,_,_,_,_,_,_,_,_,_,_,h=>absurd h (fJ _)
 | n+1,i,k,t,sep,out,m,f,u,h,m',f',u',h',H,K,hi,hk,hn=>by
  have hb:=cB H
  have kb:=cB K
  by_cases hf:aQt t sep i k
  ·rw [aTc hf,aTe hf]
  ·rw [aTd hf,aTf hf,aXi,aXj,aXh]
   by_cases z:(t.2.getD (tN i) dF).2.2.1 < 0/\(t.2.getD (tN k) dF).2.2.1 < 0
   ·rw [if_pos z,if_pos z]
   ·rw [if_neg z,if_neg z]
    by_cases hs:aQu t i k
    ·rw [if_pos hs,if_pos hs]
     have hq:¬(t.2.getD (tN i) dF).2.2.1 < 0:=fun h0=>hs.elim (fun h1=>z ⟨h0,h1⟩) (fun h1=>absurd h1.1 (by omega))
     rcases gT H with⟨_,_,h5,_⟩ | ⟨m1,m2,c,h1,h2,e8,g4,g5,b1,b2,e9⟩
     ·omega
     ·have l1:=cB b1
      have l2:=cB b2
      have t1:TRE t.2 (tN (t.2.getD (tN i) dF).2.2.1) m1 f c h1:=by rw [g4,fW];exact b1
      have t2:TRE t.2 (tN (t.2.getD (tN i) dF).2.2.2.1) m2 c u h2:=by rw [g5,fW];exact b2
      have c1:rY (gJ n) i k t sep out=out++oB (eR n) t i k sep:=uL n (t.2.getD (tN i) dF).2.2.1 k t sep out m1 f c h1 m' f' u' h' t1 K (by omega) hk (by omega)
      have c2:aHs (gJ n) i k t sep out=rY (gJ n) i k t sep out++oC (eR n) t i k sep:=uL n (t.2.getD (tN i) dF).2.2.2.1 k t sep _ m2 c u h2 m' f' u' h' t2 K (by omega) hk (by omega)
      rw [c2,c1,List.append_assoc]
    ·rw [if_neg hs,if_neg hs]
     have hq:¬(t.2.getD (tN k) dF).2.2.1 < 0:=fun h0=>hs (.inl h0)
     rcases gT K with⟨_,_,h5,_⟩ | ⟨m1,m2,c,h1,h2,e8,g4,g5,b1,b2,e9⟩
     ·omega
     ·have l1:=cB b1
      have l2:=cB b2
      have t1:TRE t.2 (tN (t.2.getD (tN k) dF).2.2.1) m1 f' c h1:=by rw [g4,fW];exact b1
      have t2:TRE t.2 (tN (t.2.getD (tN k) dF).2.2.2.1) m2 c u' h2:=by rw [g5,fW];exact b2
      have c1:rZ (gJ n) i k t sep out=out++mN (eR n) t i k sep:=uL n i (t.2.getD (tN k) dF).2.2.1 t sep out m f u h m1 f' c h1 H t1 hi (by omega) (by omega)
      have c2:aHt (gJ n) i k t sep out=rZ (gJ n) i k t sep out++mO (eR n) t i k sep:=uL n i (t.2.getD (tN k) dF).2.2.2.1 t sep _ m f u h m2 c u' h2 H t2 hi (by omega) (by omega)
      rw [c2,c1,List.append_assoc]
end Go.Proofs.YtlckcjfbjnjfhaaGreat
namespace Go.Proofs.YtlckcjfbjnjfhaaGreat
open Go.Proofs Go.Aw Go.RowKit
set_option maxRecDepth 100000
theorem aL8 {l:cN} {t:TR} (h:fA l t=0)(h0:0 < t.2.length):PVB 0 0 t []:=by
 obtain⟨hv,leaf,h1,_,rfl⟩:=nZ h
 have hl:=hv.1
 have hb:=wU l hv.1 h1
 rcases aFf l h1 with⟨_,e⟩ | ⟨hh,H⟩
 ·rw [e] at h0;exact absurd h0 (Nat.lt_irrefl _)
 ·have hw:=cB H
  have hm:((l.length:Int) - 0)*((l.length:Int) - 0)<=96*96:=Int.mul_le_mul (by omega) (by omega) (by omega) (by omega)
  exact⟨Int.le_refl _,Int.le_refl _,by omega,_,_,_,_,_,_,_,_,H,H,by simp only [List.length_nil];omega⟩
def F85 (a0:List Int×bB)(a1:Int):List (Int×Int×Bool) :=
 (bif (((a0.2.length:Int):Int) == 0) then
  ([]:List (Int×Int×Bool))
 else
  (aXg (a0.1,a0.2) 0 0 a1))
def F51 (a0:Int)(a1:Int)(a2:Int):Bool :=
 (bif (decide ((a0:Int)≥a1)) then
  (decide ((a0:Int)<=a2))
 else
  false)
theorem qT {l:cN} {t:TR} (sep:Int)(h:fA l t=0):bL t sep=F85 t sep:=by
 obtain⟨hv,leaf,h1,_,rfl⟩:=nZ h
 rcases aFf l h1 with⟨_,e⟩ | ⟨hh,H⟩
 ·rw [e];rfl
 ·have hw:=cB H
  unfold bL F85
  rw [bQ (show(((BT l leaf).2.length:Nat):Int) > 0 by omega),cond_true,show((((BT l leaf).2.length:Nat):Int) == 0)=false by rw [beq_eq_false_iff_ne];omega,cond_false]
  simp only [wV,F63,aXg]
  exact uL _ 0 0 (BT l leaf) sep [] _ _ _ _ _ _ _ _ H H (Int.le_refl _) (Int.le_refl _) (lss _)
theorem uM {l:cN} {t:TR} (h:fA l t=0):t.1.length=l.length/\l.length<=96/\t.2.length<=192/\aXe t:=by
 obtain⟨hv,leaf,h1,_,rfl⟩:=nZ h
 have hb:=wU l hv.1 h1
 exact⟨hb.1,hv.1,hb.2,aTb l hv.1 h1⟩
theorem aTg {l:cN} {t:TR} (h:fA l t=0):∀j:Int,0<=j/\j < l.length->0<=t.1.getD (tN j) dF/\t.1.getD (tN j) dF < l.length:=by
 obtain⟨hv,leaf,h1,_,rfl⟩:=nZ h
 intro j hj
 have hb:=wU l hv.1 h1
 have hj2:tN j < (BT l leaf).1.length:=by omega
 have:=uH l.length _ ((aL6 l h1).mem_iff.1 (List.getElem_mem hj2))
 rw [cY,List.getElem?_eq_getElem hj2]
 exact this
theorem qU {l:cN} {t:TR} (h:fA l (t.1,t.2)=0):t.1.length=l.length/\l.length<=96/\t.2.length<=192/\aXe t:=uM (t:=t) h
theorem aHu {l:cN} {t:TR} (h:fA l (t.1,t.2)=0):∀j:Int,0<=j/\j < l.length->0<=t.1.getD (tN j) dF/\t.1.getD (tN j) dF < l.length:=aTg (t:=t) h
def rg (f u:Int):List Int:=(List.range (tN (u - f))).map (fun j:Nat=>f+(j:Int))
theorem aXk {f u:Int} (h:u<=f):rg f u=[]:=by unfold rg;rw [show tN (u - f)=0 by omega];rfl
theorem aL9 {f u:Int} (h:f < u):rg f u=f::rg (f+1) u:=by
 unfold rg
 rw [show tN (u - f)=tN (u - (f+1))+1 by omega,List.range_succ_eq_map,List.map_cons,List.map_map]
 refine List.cons_eq_cons.2 ⟨by omega,List.map_congr_left fun j _=>?_⟩
 show f+((j+1:Nat):Int)=f+1+(j:Int)
 omega
theorem aQv {f u x:Int} (h:x∈rg f u):f<=x/\x < u:=by
 unfold rg at h
 obtain⟨j,hj,rfl⟩:=List.mem_map.1 h
 have:=List.mem_range.1 hj
 omega
def row (n i f u:Int):List Int:=(rg f u).map (fun k=>i*n+k)
def aKc (n:Int)(N:List NDE)(x:BLK):List Int:=(rg (N.getD (tN x.1) dF).1 (N.getD (tN x.1) dF).2.1).flatMap fun i=>row n i (N.getD (tN x.2.1) dF).1 (N.getD (tN x.2.1) dF).2.1
theorem aB4 {α β:Type} {f g:α->List β}:∀(l:List α),(∀x∈l,f x=g x)->l.flatMap f=l.flatMap g
 | [],_=>rfl
 | x::l,h=>by rw [List.flatMap_cons,List.flatMap_cons,h x List.mem_cons_self,aB4 l (fun y hy=>h y (List.mem_cons_of_mem _ hy))]
def F66 (a0:Int×Int×Int×Int×Zt×Int):Bool :=
 (bif (nY a0.2.2.2.2.2 0 131072) then
  (bif (nY a0.2.2.2.2.1.1 (-64) 64) then
   (bif (nY a0.2.2.2.2.1.2.1 (-64) 64) then
    (nY a0.2.2.2.2.1.2.2 (-64) 64)
   else
    false)
  else
   false)
 else
  false)
theorem C66 (a0:Int×Int×Int×Int×Zt×Int):Con Tryz.prog 66 [(.a [(iv a0.1),(iv a0.2.1),(iv a0.2.2.1),(iv a0.2.2.2.1),(iv a0.2.2.2.2.1.1),(iv a0.2.2.2.2.1.2.1),(iv a0.2.2.2.2.1.2.2),(iv a0.2.2.2.2.2)])] [] (.v (.bool (F66 a0))) []:=by
 refine aT Tryz.func66 (by kernel_rfl) fun cx hcx=>?_
 let t0:List (St Tryz.prog):=[.c [] (C34 a0.2.2.2.2.2 0 131072)]
 cases h0:(nY a0.2.2.2.2.2 0 131072) with
 | true =>
  let t1:List (St Tryz.prog):=(t0++[.d h0,.c [] (C34 a0.2.2.2.2.1.1 (-64) 64)])
  cases h1:(nY a0.2.2.2.2.1.1 (-64) 64) with
  | true =>
   let t2:List (St Tryz.prog):=(t1++[.d h1,.c [] (C34 a0.2.2.2.2.1.2.1 (-64) 64)])
   cases h2:(nY a0.2.2.2.2.1.2.1 (-64) 64) with
   | true =>
    have e:=Eq.refl (F66 a0);conv at e=>rhs;simp only [F66,h0,h1,h2,aX]
    rw [e]
    exact rt (t2++[.d h2,.c [] (C34 a0.2.2.2.2.1.2.2 (-64) 64)]) [] [] hcx (by kernel_rfl)
   | false =>
    have e:=Eq.refl (F66 a0);conv at e=>rhs;simp only [F66,h0,h1,h2,aX]
    rw [e]
    exact rt (t2++[.d h2]) [] [] hcx (by kernel_rfl)
  | false =>
   have e:=Eq.refl (F66 a0);conv at e=>rhs;simp only [F66,h0,h1,aX]
   rw [e]
   exact rt (t1++[.d h1]) [] [] hcx (by kernel_rfl)
 | false =>
  have e:=Eq.refl (F66 a0);conv at e=>rhs;simp only [F66,h0,aX]
  rw [e]
  exact rt (t0++[.d h0]) [] [] hcx (by kernel_rfl)
noncomputable def aMa:Code:=(aP [1,1,0,1] [] (aN Tryz.f68) []).1
noncomputable def aMb:List K:=(aP [1,1,0,1] [] (aN Tryz.f68) []).2
def aFk (a0:Int)(v1 v2:Int):LS:=⟨kG 22 [(0,(iv a0)),(3,(iv v1)),(4,(iv v2))],[]⟩
def sB (a0:Int):Int×Int->(Int×Int)⊕(Int)
 | (v1,v2) =>
  (bif (decide ((v2:Int) > 0)) then
   (bif (decide (((W ((W (v1+v2))*(W (v1+v2)))):Int)<=a0)) then
    (.inl ((W (v1+v2)),(v2 / 2)))
   else
    (.inl (v1,(v2 / 2))))
  else
   (.inr v1))
theorem bAe (a0:Int) {cx:Cx} (hcx:cx.base=0):∀(n:Nat) (v1 v2:Int),True->tN v2 < n->Aw.Good Tryz.prog none 9 (bodyPost Tryz.prog Tryz.f68 (RR cx (iv (aA (sB a0) n (v1,v2))) [] [])) cx [] (.l aMa n::aMb) (aFk a0 v1 v2):=by
 intro n
 induction n with
 | zero=>intro v1 v2 hi hn;exact absurd hn (fJ _)
 | succ n ih =>
  intro v1 v2 hi hn
  refine aU ?_
  cases h0:(decide ((v2:Int) > 0)) with
  | true =>
   have q0:=dB h0
   let t1:List (St Tryz.prog):=[.d h0]
   cases h1:(decide (((W ((W (v1+v2))*(W (v1+v2)))):Int)<=a0)) with
   | true =>
    have q1:=dB h1
    have e:=Eq.refl (sB a0 (v1,v2));conv at e=>rhs;simp only [sB,h0,h1,aX]
    rw [aB e]
    refine ba (t1++[.d h1,.p (show 0<=(1:Int) from by decide)]) [] [0,3,4] [] hcx (m:=n) aMa (aMb) (aFk a0 (W (v1+v2)) (Int.fdiv v2 (2 ^ (min (tN 1) 64)))) (by kernel_rfl) ?_
    have z0:(Int.fdiv v2 (2 ^ (min (tN 1) 64)))=(v2 / 2):=vZ _ 1 (by decide)
    rw [z0]
    exact ih (W (v1+v2)) (v2 / 2) trivial (by(try simp only [Ls]);omega)
   | false =>
    have q1:=eC h1
    have e:=Eq.refl (sB a0 (v1,v2));conv at e=>rhs;simp only [sB,h0,h1,aX]
    rw [aB e]
    refine ba (t1++[.d h1,.p (show 0<=(1:Int) from by decide)]) [] [0,3,4] [] hcx (m:=n) aMa (aMb) (aFk a0 v1 (Int.fdiv v2 (2 ^ (min (tN 1) 64)))) (by kernel_rfl) ?_
    have z0:(Int.fdiv v2 (2 ^ (min (tN 1) 64)))=(v2 / 2):=vZ _ 1 (by decide)
    rw [z0]
    exact ih v1 (v2 / 2) trivial (by(try simp only [Ls]);omega)
  | false =>
   have q0:=eC h0
   have e:=Eq.refl (sB a0 (v1,v2));conv at e=>rhs;simp only [sB,h0,aX]
   rw [aQ,e]
   exact rt [.d h0] [] [] hcx (by kernel_rfl)
def lY (a0:Int):Int :=
 (aA (sB a0) (tN 1073741824+1) (0,1073741824))
theorem C68 (a0:Int):Con Tryz.prog 68 [(iv a0)] [] (iv (lY a0)) []:=by
 refine aT Tryz.func68 (by kernel_rfl) fun cx hcx=>?_
 have e:=Eq.refl (lY a0);conv at e=>rhs;simp only [lY]
 rw [e]
 refine en [] [] [0,3,4] [] hcx aMa (aMb) (aFk a0 0 1073741824) (tN 1073741824+1) (by kernel_rfl) ?_
 exact bAe a0 hcx (tN 1073741824+1) 0 1073741824 trivial (by(try simp only [Ls]);omega)
def gU (a0:Int):Int :=
 (bif (decide (((W ((lY a0)*(lY a0))):Int) < a0)) then
  (W ((lY a0)+1))
 else
  (lY a0))
theorem C67 (a0:Int):Con Tryz.prog 67 [(iv a0)] [] (iv (gU a0)) []:=by
 refine aT Tryz.func67 (by kernel_rfl) fun cx hcx=>?_
 let t0:List (St Tryz.prog):=[.c [] (C68 a0)]
 cases h0:(decide (((W ((lY a0)*(lY a0))):Int) < a0)) with
 | true =>
  have q0:=dB h0
  have e:=Eq.refl (gU a0);conv at e=>rhs;simp only [gU,h0,aX]
  rw [e]
  exact rt (t0++[.d h0]) [] [] hcx (by kernel_rfl)
 | false =>
  have q0:=eC h0
  have e:=Eq.refl (gU a0);conv at e=>rhs;simp only [gU,h0,aX]
  rw [e]
  exact rt (t0++[.d h0]) [] [] hcx (by kernel_rfl)
def aQw (a0:Int):Int×Int->(Int×Int)⊕(Int)
 | (v1,v2) =>
  (bif (decide ((v2:Int) > 0)) then
   (bif (decide (((W ((W (v1+v2))*(W (v1+v2)))):Int)<=a0)) then
    (.inl ((W (v1+v2)),(W (Int.tdiv v2 2))))
   else
    (.inl (v1,(W (Int.tdiv v2 2)))))
  else
   (.inr v1))
def F89 (a0:Int):Int :=
 (aA (aQw a0) (tN 1073741824+1) (0,1073741824))
def F88 (a0:Int):Int :=
 (bif (decide (((W ((F89 a0)*(F89 a0))):Int) < a0)) then
  (W ((F89 a0)+1))
 else
  (F89 a0))
theorem aKd {n:Int} (h0:0<=n)(h:n < 4611686018427387904):IsRt n (lY n):=by
 unfold lY
 refine qM (n:=n) (fun k b hk hb hkb=>?_) (fun k=>?_) 30 _ 0 (by decide) (by omega) (by decide) (by omega) (by simpa using h)
 ·have h2:decide (b > 0)=true:=by simpa using hb
  have hw:W (k+b)=k+b:=aH (by omega) (by omega)
  have hq:=xY (a:=k+b) (by omega) hkb
  have hw2:W ((k+b)*(k+b))=(k+b)*(k+b):=aH (by omega) (by omega)
  simp only [sB,h2,cond_true,hw,hw2]
  by_cases hc:(k+b)*(k+b)<=n<;>simp [hc]
 ·simp [sB]
theorem aTh {n:Int} (h0:0<=n)(h:n < 4611686018427387904):IsRt n (F89 n):=by
 unfold F89
 refine qM (n:=n) (fun k b hk hb hkb=>?_) (fun k=>?_) 30 _ 0 (by decide) (by omega) (by decide) (by omega) (by simpa using h)
 ·have h2:decide (b > 0)=true:=by simpa using hb
  have hw:W (k+b)=k+b:=aH (by omega) (by omega)
  have hq:=xY (a:=k+b) (by omega) hkb
  have hw2:W ((k+b)*(k+b))=(k+b)*(k+b):=aH (by omega) (by omega)
  have hd:W (Int.tdiv b 2)=b / 2:=by rw [Int.tdiv_eq_ediv_of_nonneg (by omega)];exact aH (by omega) (by omega)
  simp only [aQw,h2,cond_true,hw,hw2]
  by_cases hc:(k+b)*(k+b)<=n<;>simp [hc,hd]
 ·simp [aQw]
abbrev ND:=Int×Int×Int×Int×Zt×Int
def knw (a:ND):Prop:=(0<=a.2.2.2.2.2/\a.2.2.2.2.2<=131072)/\bd 64 a.2.2.2.2.1
theorem bCa (n lo hi:Int):nY n lo hi=decide (lo<=n/\n<=hi):=by
 unfold nY
 by_cases h1:lo<=n<;>by_cases h2:n<=hi<;>simp [h1,h2]
open Classical in
theorem aXl (a:ND):F66 a=decide (knw a):=by
 unfold F66 knw bd
 simp only [bCa]
 by_cases h1:0<=a.2.2.2.2.2/\a.2.2.2.2.2<=131072<;>by_cases h2:-64<=a.2.2.2.2.1.1/\a.2.2.2.2.1.1<=64<;>by_cases h3:-64<=a.2.2.2.2.1.2.1/\a.2.2.2.2.1.2.1<=64<;>by_cases h4:-64<=a.2.2.2.2.1.2.2/\a.2.2.2.2.1.2.2<=64<;>simp [h1,h2,h3,h4]
theorem uN {a:ND} (h:(!(F66 a))=false):knw a:=by
 rw [aXl] at h;simpa using h
theorem aXm {n:Int} (h:yU n<=64)(h2:n≥-64):-64<=n/\n<=64:=by
 unfold yU at h
 split at h<;>omega
theorem aXn {n:Int} (h:-64<=n/\n<=64):yU n<=64:=by
 unfold yU
 rw [aH (by omega) (by omega)]
 split<;>omega
theorem w64:W (0 - 64)=-64:=rfl
theorem aHv (x:P3):F86 x 64=true↔bd 64 x:=by
 unfold F86 bd
 rw [w64]
 constructor
 ·intro h
  by_cases h1:yU x.1<=64<;>by_cases h2:yU x.2.1<=64<;>by_cases h3:yU x.2.2<=64<;>simp [h1,h2,h3] at h
  exact⟨aXm h1 h.1,aXm h2 h.2.1,aXm h3 h.2.2⟩
 ·intro h
  have h1:=aXn h.1;have h2:=aXn h.2.1;have h3:=aXn h.2.2
  simp [h1,h2,h3,h.1.1,h.2.1.1,h.2.2.1]
theorem aXo {p q:P3} (hp:bd 64 p)(hq:bd 64 q):uI (F65 p q)=ds p q/\0<=ds p q/\ds p q<=49152:=by
 have hs:bd 128 (sb p q):=kC hp hq
 have h1:=cK hs.1 hs.1;have h2:=cK hs.2.1 hs.2.1;have h3:=cK hs.2.2 hs.2.2
 have n1:=dM (sb p q).1;have n2:=dM (sb p q).2.1;have n3:=dM (sb p q).2.2
 have e:F65 p q=sb p q:=by
  unfold F65
  unfold bd at hp hq
  rw [aH (n:=p.1 - q.1) (by omega) (by omega),aH (n:=p.2.1 - q.2.1) (by omega) (by omega),aH (n:=p.2.2 - q.2.2) (by omega) (by omega)];rfl
 have e2:ds p q=(sb p q).1*(sb p q).1+(sb p q).2.1*(sb p q).2.1+(sb p q).2.2*(sb p q).2.2:=rfl
 refine⟨?_,by omega,by omega⟩
 rw [e]
 unfold uI
 rw [aH (n:=(sb p q).1*(sb p q).1) (by omega) (by omega),aH (n:=(sb p q).2.1*(sb p q).2.1) (by omega) (by omega),aH (n:=(sb p q).2.2*(sb p q).2.2) (by omega) (by omega),aWh (by omega) (by omega) (by omega)];rfl
theorem aXp {p q:P3} (hp:bd 64 p)(hq:bd 64 q):nV (nW p q)=ds p q:=aWt (hp.mono (by omega)) (hq.mono (by omega))
theorem rt2 {n:Int} (h0:0<=n)(h:n<=288230376151711744):F89 n=lY n/\F88 n=gU n/\0<=lY n/\lY n<=gU n/\gU n<=536870913:=by
 have r1:=aKd h0 (by omega)
 have r2:=aTh h0 (by omega)
 have e:=r2.eq r1
 have hl:=r1.le (m:=536870912) (by omega) (by omega)
 have hn:=r1.1
 have hq:=xY (a:=lY n) hn (by omega)
 refine⟨e,?_,hn,?_,?_⟩
 ·unfold F88 gU;rw [e]
 ·unfold gU
  rw [aH (n:=lY n*lY n) (by omega) (by omega),aH (n:=lY n+1) (by omega) (by omega),Bool.cond_eq_ite]
  split<;>omega
 ·unfold gU
  rw [aH (n:=lY n*lY n) (by omega) (by omega),aH (n:=lY n+1) (by omega) (by omega),Bool.cond_eq_ite]
  split<;>omega
theorem qV {n:Int} (h:0<=n/\n<=131072):W (n*1099511627776)=n*1099511627776/\W (W (n*1048576)*1048576)=n*1099511627776:=by
 refine⟨aH (by omega) (by omega),?_⟩
 rw [aH (n:=n*1048576) (by omega) (by omega),show n*1048576*1048576=n*1099511627776 by omega,aH (by omega) (by omega)]
section
variable {a b : ND}
theorem tC (ha:knw a)(hb:knw b)(h2:decide (lY (W ((uI (F65 a.2.2.2.2.1 b.2.2.2.2.1))*1099511627776))<=W ((gU (W (a.2.2.2.2.2*1099511627776)))+(gU (W (b.2.2.2.2.2*1099511627776)))))=false) :
 W ((gU (W ((uI (F65 a.2.2.2.2.1 b.2.2.2.2.1))*1099511627776)))+(W ((gU (W (a.2.2.2.2.2*1099511627776)))+(gU (W (b.2.2.2.2.2*1099511627776))))))≠0 /\
 W ((lY (W ((uI (F65 a.2.2.2.2.1 b.2.2.2.2.1))*1099511627776))) - (W ((gU (W (a.2.2.2.2.2*1099511627776)))+(gU (W (b.2.2.2.2.2*1099511627776))))))≠0:=by
 have h2:=eC h2
 obtain⟨e,d0,d1⟩:=aXo ha.2 hb.2
 rw [e,(qV (n:=ds a.2.2.2.2.1 b.2.2.2.2.1) (by omega)).1,(qV ha.1).1,(qV hb.1).1] at h2 ⊢
 have hD:=rt2 (n:=ds a.2.2.2.2.1 b.2.2.2.2.1*1099511627776) (by omega) (by omega)
 have hA:=rt2 (n:=a.2.2.2.2.2*1099511627776) (by have:=ha.1;omega) (by have:=ha.1;omega)
 have hB:=rt2 (n:=b.2.2.2.2.2*1099511627776) (by have:=hb.1;omega) (by have:=hb.1;omega)
 rw [aH (n:=gU (a.2.2.2.2.2*1099511627776)+gU (b.2.2.2.2.2*1099511627776)) (by omega) (by omega)] at h2 ⊢
 rw [aH (by omega) (by omega),aH (by omega) (by omega)]
 omega
end
def yJ (a0:Int×Int×Int×Int×Zt×Int)(a1:Int×Int×Int×Int×Zt×Int):(Int×Int)×Int :=
 (bif (!(F66 a0)) then
  ((0,0),1)
 else
  (bif (!(F66 a1)) then
   ((0,0),1)
  else
   (bif (decide (((lY (W ((uI (F65 a0.2.2.2.2.1 a1.2.2.2.2.1))*1099511627776))):Int)<=(W ((gU (W (a0.2.2.2.2.2*1099511627776)))+(gU (W (a1.2.2.2.2.2*1099511627776))))))) then
    ((0,0),10)
   else
    (((W (Int.tdiv 1099511627776 (W ((gU (W ((uI (F65 a0.2.2.2.2.1 a1.2.2.2.2.1))*1099511627776)))+(W ((gU (W (a0.2.2.2.2.2*1099511627776)))+(gU (W (a1.2.2.2.2.2*1099511627776))))))))),(W (Int.tdiv (W ((W (1099511627776+(W ((lY (W ((uI (F65 a0.2.2.2.2.1 a1.2.2.2.2.1))*1099511627776))) - (W ((gU (W (a0.2.2.2.2.2*1099511627776)))+(gU (W (a1.2.2.2.2.2*1099511627776))))))))) - 1)) (W ((lY (W ((uI (F65 a0.2.2.2.2.1 a1.2.2.2.2.1))*1099511627776))) - (W ((gU (W (a0.2.2.2.2.2*1099511627776)))+(gU (W (a1.2.2.2.2.2*1099511627776)))))))))),0))))
theorem C39 (a0:Int×Int×Int×Int×Zt×Int)(a1:Int×Int×Int×Int×Zt×Int):Con Tryz.prog 39 [(.a [(iv a0.1),(iv a0.2.1),(iv a0.2.2.1),(iv a0.2.2.2.1),(iv a0.2.2.2.2.1.1),(iv a0.2.2.2.2.1.2.1),(iv a0.2.2.2.2.1.2.2),(iv a0.2.2.2.2.2)]),(.a [(iv a1.1),(iv a1.2.1),(iv a1.2.2.1),(iv a1.2.2.2.1),(iv a1.2.2.2.2.1.1),(iv a1.2.2.2.2.1.2.1),(iv a1.2.2.2.2.1.2.2),(iv a1.2.2.2.2.2)])] [] (.t [(.a (k2 (yJ a0 a1).1)),(iv (yJ a0 a1).2)]) []:=by
 refine aT Tryz.func39 (by kernel_rfl) fun cx hcx=>?_
 try have hnz:=tC (uN h0) (uN h1) h2
 try have hnz1:=(fun _=>hnz.1) h2
 try have hnz2:=(fun _=>hnz.2) h2
 let t0:List (St Tryz.prog):=[.c [] (C66 a0)]
 cases h0:(!(F66 a0)) with
 | true =>
  try have hnz:=tC (uN h0) (uN h1) h2
  try have hnz1:=(fun _=>hnz.1) h2
  try have hnz2:=(fun _=>hnz.2) h2
  have e:=Eq.refl (yJ a0 a1);conv at e=>rhs;simp only [yJ,h0,aX]
  rw [e]
  exact rt (t0++[.d h0]) [] [] hcx (by kernel_rfl)
 | false =>
  try have hnz:=tC (uN h0) (uN h1) h2
  try have hnz1:=(fun _=>hnz.1) h2
  try have hnz2:=(fun _=>hnz.2) h2
  let t1:List (St Tryz.prog):=(t0++[.d h0,.c [] (C66 a1)])
  cases h1:(!(F66 a1)) with
  | true =>
   try have hnz:=tC (uN h0) (uN h1) h2
   try have hnz1:=(fun _=>hnz.1) h2
   try have hnz2:=(fun _=>hnz.2) h2
   have e:=Eq.refl (yJ a0 a1);conv at e=>rhs;simp only [yJ,h0,h1,aX]
   rw [e]
   exact rt (t1++[.d h1]) [] [] hcx (by kernel_rfl)
  | false =>
   try have hnz:=tC (uN h0) (uN h1) h2
   try have hnz1:=(fun _=>hnz.1) h2
   try have hnz2:=(fun _=>hnz.2) h2
   let t2:List (St Tryz.prog):=(t1++[.d h1,.c [] (C65 a0.2.2.2.2.1 a1.2.2.2.2.1),.c [] (C64 (F65 a0.2.2.2.2.1 a1.2.2.2.2.1)),.c [] (C67 (W (a0.2.2.2.2.2*1099511627776))),.c [] (C67 (W (a1.2.2.2.2.2*1099511627776))),.c [] (C68 (W ((uI (F65 a0.2.2.2.2.1 a1.2.2.2.2.1))*1099511627776)))])
   cases h2:(decide (((lY (W ((uI (F65 a0.2.2.2.2.1 a1.2.2.2.2.1))*1099511627776))):Int)<=(W ((gU (W (a0.2.2.2.2.2*1099511627776)))+(gU (W (a1.2.2.2.2.2*1099511627776))))))) with
   | true =>
    have q2:=dB h2
    try have hnz:=tC (uN h0) (uN h1) h2
    try have hnz1:=(fun _=>hnz.1) h2
    try have hnz2:=(fun _=>hnz.2) h2
    have e:=Eq.refl (yJ a0 a1);conv at e=>rhs;simp only [yJ,h0,h1,h2,aX]
    rw [e]
    exact rt (t2++[.d h2]) [] [] hcx (by kernel_rfl)
   | false =>
    have q2:=eC h2
    try have hnz:=tC (uN h0) (uN h1) h2
    try have hnz1:=(fun _=>hnz.1) h2
    try have hnz2:=(fun _=>hnz.2) h2
    have e:=Eq.refl (yJ a0 a1);conv at e=>rhs;simp only [yJ,h0,h1,h2,aX]
    rw [e]
    exact rt (t2++[.d h2,.c [] (C68 (W ((uI (F65 a0.2.2.2.2.1 a1.2.2.2.2.1))*1099511627776))),.c [] (C67 (W ((uI (F65 a0.2.2.2.2.1 a1.2.2.2.2.1))*1099511627776))),.p (show((W ((gU (W ((uI (F65 a0.2.2.2.2.1 a1.2.2.2.2.1))*1099511627776)))+(W ((gU (W (a0.2.2.2.2.2*1099511627776)))+(gU (W (a1.2.2.2.2.2*1099511627776))))))):Int)≠0 from by first | omega | (rw [aH]<;>omega) | exact nR _),.p (show((W ((lY (W ((uI (F65 a0.2.2.2.2.1 a1.2.2.2.2.1))*1099511627776))) - (W ((gU (W (a0.2.2.2.2.2*1099511627776)))+(gU (W (a1.2.2.2.2.2*1099511627776))))))):Int)≠0 from by first | omega | (rw [aH]<;>omega) | exact nR _)]) [] [] hcx (by kernel_rfl)
noncomputable def fsV (a b:ND):(Int×Int)×Int :=
 open Classical in if knw a/\knw b then
  (let R:=gU (a.2.2.2.2.2*1099511627776)+gU (b.2.2.2.2.2*1099511627776)
   let D:=ds a.2.2.2.2.1 b.2.2.2.2.1*1099511627776
   if lY D<=R then((0,0),10) else((W (Int.tdiv 1099511627776 (gU D+R)),W (Int.tdiv (1099511627776+lY D - R - 1) (lY D - R))),0)) else((0,0),1)
open Classical in
theorem bCb (a b:ND):yJ a b=fsV a b:=by
 unfold yJ fsV
 rw [aXl,aXl]
 by_cases ha:knw a
 ·by_cases hb:knw b
  ·obtain⟨e,d0,d1⟩:=aXo ha.2 hb.2
   have hD:=rt2 (n:=ds a.2.2.2.2.1 b.2.2.2.2.1*1099511627776) (by omega) (by omega)
   have hA:=rt2 (n:=a.2.2.2.2.2*1099511627776) (by have:=ha.1;omega) (by have:=ha.1;omega)
   have hB:=rt2 (n:=b.2.2.2.2.2*1099511627776) (by have:=hb.1;omega) (by have:=hb.1;omega)
   rw [e,(qV (n:=ds a.2.2.2.2.1 b.2.2.2.2.1) (by omega)).1,(qV ha.1).1,(qV hb.1).1,if_pos ⟨ha,hb⟩]
   rw [aH (n:=gU (a.2.2.2.2.2*1099511627776)+gU (b.2.2.2.2.2*1099511627776)) (by omega) (by omega)]
   simp only [bQ ha,bQ hb,Bool.not_true,cond_false]
   by_cases hc:lY (ds a.2.2.2.2.1 b.2.2.2.2.1*1099511627776)<=gU (a.2.2.2.2.2*1099511627776)+gU (b.2.2.2.2.2*1099511627776)
   ·rw [bQ hc,cond_true,if_pos hc]
   ·rw [cG hc,cond_false,if_neg hc]
    rw [aH (n:=gU (ds a.2.2.2.2.1 b.2.2.2.2.1*1099511627776)+(gU (a.2.2.2.2.2*1099511627776)+gU (b.2.2.2.2.2*1099511627776))) (by omega) (by omega),
     aH (n:=lY (ds a.2.2.2.2.1 b.2.2.2.2.1*1099511627776) - (gU (a.2.2.2.2.2*1099511627776)+gU (b.2.2.2.2.2*1099511627776))) (by omega) (by omega),
     aH (n:=1099511627776+(lY (ds a.2.2.2.2.1 b.2.2.2.2.1*1099511627776) - (gU (a.2.2.2.2.2*1099511627776)+gU (b.2.2.2.2.2*1099511627776)))) (by omega) (by omega),
     aH (n:=1099511627776+(lY (ds a.2.2.2.2.1 b.2.2.2.2.1*1099511627776) - (gU (a.2.2.2.2.2*1099511627776)+gU (b.2.2.2.2.2*1099511627776))) - 1) (by omega) (by omega)]
    rw [show(1099511627776+(lY (ds a.2.2.2.2.1 b.2.2.2.2.1*1099511627776) - (gU (a.2.2.2.2.2*1099511627776)+gU (b.2.2.2.2.2*1099511627776))) - 1)=1099511627776+lY (ds a.2.2.2.2.1 b.2.2.2.2.1*1099511627776) - (gU (a.2.2.2.2.2*1099511627776)+gU (b.2.2.2.2.2*1099511627776)) - 1 by omega]
  ·rw [if_neg (fun h=>hb h.2)];simp [ha,hb]
 ·rw [if_neg (fun h=>ha h.1)];simp [ha]
theorem aQx {f c u:Int} (h:f<=c/\c<=u):rg f c++rg c u=rg f u:=by
 obtain⟨d,hd⟩:∃d:Nat,tN (c - f)=d:=⟨_,rfl⟩
 induction d generalizing f with
 | zero=>rw [show c=f by omega,aXk (Int.le_refl f)];rfl
 | succ d ih=>rw [aL9 (f:=f) (u:=c) (by omega),List.cons_append,ih ⟨by omega,h.2⟩ (by omega),←aL9 (f:=f) (u:=u) (by omega)]
theorem aTi {n i f c u:Int} (h:f<=c/\c<=u):row n i f c++row n i c u=row n i f u:=by
 unfold row
 rw [←List.map_append,aQx h]
theorem aTj {α β:Type} (l:List α)(f g:α->List β):(l.flatMap f++l.flatMap g).Perm (l.flatMap fun x=>f x++g x):=by
 induction l with
 | nil=>exact List.Perm.refl _
 | cons x l ih =>
  rw [List.flatMap_cons,List.flatMap_cons,List.flatMap_cons]
  refine List.Perm.trans ?_ (List.Perm.append_left (f x++g x) ih)
  rw [List.append_assoc,List.append_assoc]
  refine List.Perm.append_left (f x) ?_
  rw [←List.append_assoc,←List.append_assoc]
  exact List.Perm.append_right _ List.perm_append_comm
def cel (n f u f' u':Int):List Int:=(rg f u).flatMap fun a=>row n a f' u'
theorem aTk {n f c u f' u':Int} (h:f<=c/\c<=u):cel n f c f' u'++cel n c u f' u'=cel n f u f' u':=by
 unfold cel
 rw [←List.flatMap_append,aQx h]
theorem aQy {n f u f' c u':Int} (h:f'<=c/\c<=u'):(cel n f u f' c++cel n f u c u').Perm (cel n f u f' u'):=by
 unfold cel
 refine(aTj _ _ _).trans ?_
 rw [aB4 (rg f u) (fun a _=>aTi h)]
theorem uO (w:Int):∀(nr:Nat) (t:TR) (i k sep:Int) (m:Nat) (f u h:Int) (m':Nat) (f' u' h':Int),TRE t.2 (tN i) m f u h->TRE t.2 (tN k) m' f' u' h'->0<=i->0<=k->(t.2.length - tN i)+(t.2.length - tN k) < nr ->
 ((eR nr t i k sep).flatMap (aKc w t.2)).Perm (cel w f u f' u')/\∀x∈eR nr t i k sep,(0<=x.1/\x.1 < t.2.length)/\(0<=x.2.1/\x.2.1 < t.2.length)
 | 0,_,_,_,_,_,_,_,_,_,_,_,_,_,_,_,_,h=>absurd h (fJ _)
 | nr+1,t,i,k,sep,m,f,u,h,m',f',u',h',H,K,hi,hk,hn=>by
  have hb:=cB H
  have kb:=cB K
  have hs:∀b:Bool,(([(i,k,b)]:List BLK).flatMap (aKc w t.2)).Perm (cel w f u f' u')/\∀x∈([(i,k,b)]:List BLK),(0<=x.1/\x.1 < t.2.length)/\(0<=x.2.1/\x.2.1 < t.2.length):=by
   intro b
   refine⟨?_,fun x hx=>?_⟩
   ·rw [List.flatMap_cons,List.flatMap_nil,List.append_nil]
    unfold aKc cel
    simp only
    rw [hb.2.2.2.2.2.1,hb.2.2.2.2.2.2,kb.2.2.2.2.2.1,kb.2.2.2.2.2.2]
   ·obtain rfl:=List.mem_singleton.1 hx
    exact⟨⟨hi,by simp only;omega⟩,hk,by simp only;omega⟩
  have hA:¬(t.2.getD (tN i) dF).2.2.1 < 0->((oB (eR nr) t i k sep++oC (eR nr) t i k sep).flatMap (aKc w t.2)).Perm (cel w f u f' u')/\∀x∈oB (eR nr) t i k sep++oC (eR nr) t i k sep,(0<=x.1/\x.1 < t.2.length)/\(0<=x.2.1/\x.2.1 < t.2.length):=by
   intro hq
   rcases gT H with⟨_,_,h5,_⟩ | ⟨m1,m2,c,h1,h2,e8,g4,g5,b1,b2,e9⟩
   ·omega
   ·have l1:=cB b1
    have l2:=cB b2
    have c1:=uO w nr t (t.2.getD (tN i) dF).2.2.1 k sep m1 f c h1 m' f' u' h' (by rw [g4,fW];exact b1) K (by omega) hk (by omega)
    have c2:=uO w nr t (t.2.getD (tN i) dF).2.2.2.1 k sep m2 c u h2 m' f' u' h' (by rw [g5,fW];exact b2) K (by omega) hk (by omega)
    refine⟨?_,fun x hx=>?_⟩
    ·rw [List.flatMap_append,←aTk (c:=c) (by omega)]
     exact c1.1.append c2.1
    ·rcases List.mem_append.1 hx with hx | hx
     ·exact c1.2 x hx
     ·exact c2.2 x hx
  have hB:¬(t.2.getD (tN k) dF).2.2.1 < 0->((mN (eR nr) t i k sep++mO (eR nr) t i k sep).flatMap (aKc w t.2)).Perm (cel w f u f' u')/\∀x∈mN (eR nr) t i k sep++mO (eR nr) t i k sep,(0<=x.1/\x.1 < t.2.length)/\(0<=x.2.1/\x.2.1 < t.2.length):=by
   intro hq
   rcases gT K with⟨_,_,h5,_⟩ | ⟨m1,m2,c,h1,h2,e8,g4,g5,b1,b2,e9⟩
   ·omega
   ·have l1:=cB b1
    have l2:=cB b2
    have c1:=uO w nr t i (t.2.getD (tN k) dF).2.2.1 sep m f u h m1 f' c h1 H (by rw [g4,fW];exact b1) hi (by omega) (by omega)
    have c2:=uO w nr t i (t.2.getD (tN k) dF).2.2.2.1 sep m f u h m2 c u' h2 H (by rw [g5,fW];exact b2) hi (by omega) (by omega)
    refine⟨?_,fun x hx=>?_⟩
    ·rw [List.flatMap_append]
     exact(c1.1.append c2.1).trans (aQy (by omega))
    ·rcases List.mem_append.1 hx with hx | hx
     ·exact c1.2 x hx
     ·exact c2.2 x hx
  have hJ:((jG (eR nr) t i k sep ()).flatMap (aKc w t.2)).Perm (cel w f u f' u')/\∀x∈jG (eR nr) t i k sep (),(0<=x.1/\x.1 < t.2.length)/\(0<=x.2.1/\x.2.1 < t.2.length):=by
   simp only [jG]
   by_cases z5:(t.2.getD (tN i) dF).2.2.1 < 0<;>by_cases z6:(t.2.getD (tN k) dF).2.2.1 < 0
   ·rw [bQ z5,bQ z6,cond_true,cond_true];exact hs false
   ·rw [bQ z5,cG z6,cond_true,cond_false,cG (show ¬(t.2.getD (tN i) dF).2.2.1≥0 by omega),cond_false];exact hB z6
   ·rw [cG z5,bQ z6,cond_false,cond_true];exact hA z5
   ·rw [cG z5,cG z6,cond_false,cond_false,bQ (show(t.2.getD (tN i) dF).2.2.1≥0 by omega),cond_true,Bool.cond_eq_ite]
    split
    ·exact hA z5
    ·exact hB z6
  simp only [eR]
  rw [Bool.cond_eq_ite]
  split
  ·rw [Bool.cond_eq_ite]
   split
   ·exact hs true
   ·exact hJ
  ·exact hJ
theorem qW {l:cN} {t:TR} (sep:Int)(h:fA l t=0):((F85 t sep).flatMap (aKc l.length t.2)).Perm (cel l.length 0 l.length 0 l.length)/\(∀x∈F85 t sep,(0<=x.1/\x.1 < t.2.length)/\(0<=x.2.1/\x.2.1 < t.2.length))/\(F85 t sep).length<=9216:=by
 obtain⟨hv,leaf,h1,_,rfl⟩:=nZ h
 have hl:=hv.1
 rcases aFf l h1 with⟨e0,e⟩ | ⟨hh,H⟩
 ·rw [e,e0]
  exact⟨List.Perm.refl _,⟨fun x hx=>(by cases hx),Nat.zero_le _⟩⟩
 ·have hw:=cB H
  unfold F85
  rw [show((((BT l leaf).2.length:Nat):Int) == 0)=false by rw [beq_eq_false_iff_ne];omega,cond_false]
  simp only [aXg]
  have qa:=uO l.length _ (BT l leaf) 0 0 sep _ _ _ _ _ _ _ _ H H (Int.le_refl _) (Int.le_refl _) (lss _)
  have qb:=uK _ (BT l leaf) 0 0 sep _ _ _ _ _ _ _ _ H H (Int.le_refl _) (Int.le_refl _) (lss _)
  refine⟨qa.1,qa.2,?_⟩
  have hm:((l.length:Int) - 0)*((l.length:Int) - 0)<=96*96:=Int.mul_le_mul (by omega) (by omega) (by omega) (by omega)
  exact Int.ofNat_le.1 (Int.le_trans qb hm)
end Go.Proofs.YtlckcjfbjnjfhaaGreat
namespace Go.Proofs.YtlckcjfbjnjfhaaGreat
open Go.Proofs Go.Aw Go.RowKit
set_option maxRecDepth 100000
def sC (a0:List Int):List Int :=
 (([]:List Int)++a0)
theorem bAf (a0:List Int)(l0:a0.length<=2^63-1)(hne:a0.length≠0)(h40:a0.length<=1048576):Con Tryz.prog 61 [(.s 0 0 a0.length 1)] [(.live false true (flat c3 a0))] (.s 1 0 (sC a0).length 1) [(.live true true (flat c3 (sC a0)))]:=by
 refine aT Tryz.func61 (by kernel_rfl) fun cx hcx=>?_
 have e:=Eq.refl (sC a0);conv at e=>rhs;simp only [sC]
 rw [e]
 rw [show flat c3 (([]:List Int)++a0)=(([]:List SV)++(flat c3 a0)) from Eq.symm (by simp [flat])]
 rw [show(([]:List Int)++a0).length=(0+a0.length) from by simp]
 exact rt [.p (show(a0.length:Nat)≠0 from by first | omega | (rw [aH]<;>omega) | exact nR _),.F,.p (show(([]:List SV).length=0*1/\(flat c3 a0).length=a0.length*1/\(flat c3 a0).all SV.one=true/\0+a0.length<=2 ^ 40/\(0+a0.length)*8<=2 ^ 47) from by refine⟨?_,?_,?_,?_,?_⟩<;>first | omega | exact aHd (fun _=>rfl) | (simp [eV aW];done) | (simp [eV aW];omega))] [] [2] hcx (by kernel_rfl)
def aMc:List Int :=
 ([]:List Int)
theorem bAg:Con Tryz.prog 61 [(.v (.slice none 0 0))] [] (.s 0 0 aMc.length 1) [(.live true true (flat c3 aMc))]:=by
 refine aT Tryz.func61 (by kernel_rfl) fun cx hcx=>?_
 have e:=Eq.refl aMc;conv at e=>rhs;simp only [aMc]
 rw [e]
 exact rt [.T] [.slot 2 1] [0] hcx (by kernel_rfl)
def sD (a0:bB):bB :=
 (([]:bB)++a0)
theorem bAh (a0:bB)(l0:a0.length<=2^63-1)(hne:a0.length≠0)(h40:a0.length<=1048576):Con Tryz.prog 62 [(.s 0 0 a0.length 8)] [(.live false true (flat dO a0))] (.s 1 0 (sD a0).length 8) [(.live true true (flat dO (sD a0)))]:=by
 refine aT Tryz.func62 (by kernel_rfl) fun cx hcx=>?_
 have e:=Eq.refl (sD a0);conv at e=>rhs;simp only [sD]
 rw [e]
 rw [show flat dO (([]:bB)++a0)=(([]:List SV)++(flat dO a0)) from Eq.symm (by simp [flat])]
 rw [show(([]:bB)++a0).length=(0+a0.length) from by simp]
 exact rt [.p (show(a0.length:Nat)≠0 from by first | omega | (rw [aH]<;>omega) | exact nR _),.F,.p (show(([]:List SV).length=0*8/\(flat dO a0).length=a0.length*8/\(flat dO a0).all SV.one=true/\0+a0.length<=2 ^ 40/\(0+a0.length)*64<=2 ^ 47) from by refine⟨?_,?_,?_,?_,?_⟩<;>first | omega | exact aHd (fun _=>rfl) | (simp [eV cZ];done) | (simp [eV cZ];omega))] [] [2] hcx (by kernel_rfl)
def aMd:bB :=
 ([]:bB)
theorem bAi:Con Tryz.prog 62 [(.v (.slice none 0 0))] [] (.s 0 0 aMd.length 8) [(.live true true (flat dO aMd))]:=by
 refine aT Tryz.func62 (by kernel_rfl) fun cx hcx=>?_
 have e:=Eq.refl aMd;conv at e=>rhs;simp only [aMd]
 rw [e]
 exact rt [.T] [.slot 2 8] [0] hcx (by kernel_rfl)
abbrev ND5:=Int×Int×Int×Int×Zt×Int
theorem aUx (a:Addr)(c:Nat):Con Tryz.prog 61 [.v (.slice (some a) 0 c)] [] (.s 0 0 0 1) [.live true true []]:=by
 refine aOl (n:=9) Tryz.func61 rfl (ent Tryz.func61 (by kernel_rfl) rfl) (by show 1<=Tryz.f61.ntmps;decide) (by kernel_rfl) trivial (fun cx hcx=>?_)
 exact aEb (T:=T0) hT hm (f:=5000) (orc:=[.d false]) [.sym 0 true] [] [0] hcx
  (obs:=[.eq false false]) (by kernel_rfl) ⟨rfl,trivial⟩
theorem aTl (l:List Int)(l0:l.length<=2^63-1)(h:l.length<=1048576):Con Tryz.prog 61 [.s 0 0 l.length 1] [.live false true (flat c3 l)] (.s 1 0 (sC l).length 1) [.live true true (flat c3 (sC l))]:=by
 by_cases hne:l.length≠0
 ·exact bAf l l0 hne h
 have hl:l=[]:=List.eq_nil_of_length_eq_zero (by omega)
 subst hl
 refine⟨(aUx ⟨0,0,none⟩ 0).1,fun ρ W vs hr hb hpl hap hfz=>?_⟩
 cases vs with
 | nil=>simp [Rels] at hr
 | cons v vs =>
 cases vs with
 | cons _ _=>simp [Rels] at hr
 | nil =>
 have hv:v=.slice none 0 0\/∃a c,v=.slice (some a) 0 c:=by
  have:=hr.1
  simp only [Rel] at this
  rcases this with⟨_,_,h⟩ | ⟨b,o,n,cap,off',sp,_,h,_⟩
  ·exact .inl h
  ·exact .inr ⟨_,_,h⟩
 have key:∀a0:SV,Con Tryz.prog 61 [a0] [] (.s 0 0 0 1) [.live true true []]->Rel ρ.bare a0 v ->
  Calls Tryz.prog 61 [v].toArray W (RR (aZ ρ W [.live false true (flat c3 [])]) (.s 1 0 (sC []).length 1) [.live true true (flat c3 (sC []))] []):=by
  intro a0 hc hrel
  refine(hc.2 ρ.bare W [v] ⟨hrel,trivial⟩ (fun i=>by simp [BRep]) (fun i=>by simp [BK.pl]) (fun i j b n b' n' _ h=>by simp [BK.own] at h) (fun b o ho=>⟨(hfz b o ho).1,fun i n h=>by simp [BK.own] at h⟩)).mono fun e W' hh=>?_
  obtain⟨ρ',u,he,_,hu,hk,hB,hP,hA,hL,hF⟩:=hh
  refine⟨⟨fun j=>if j=0 then ρ 0 else if j=1 then ρ' 0 else none,ρ'.fz⟩,u,he,fun i hi=>?_,?_,?_,fun j=>?_,fun j=>?_,fun i j b n b' n' hij hi hj=>?_,fun b o ho=>hL b o ho,fun b o ho=>?_⟩
  ·have:i=0:=by simp only [aZ,List.length_cons,List.length_nil] at hi;omega
   subst this;rfl
  ·show Rel _ (.s 1 0 0 1) u
   simp only [Rel] at hu ⊢
   exact hu
  ·exact⟨hk.os,hk.tape,hk.output,hk.size,fun k hk' _=>hk.block k hk' (by rintro ⟨i,n,hi,_⟩;simp [BK.own] at hi),hk.drawn⟩
  ·rcases j with _ | _ | j
   ·simp [cA,aZ,BRep]
   ·have h0:=hB 0
    rcases h0 with h0 | ⟨b,vs,rest,ty,g1,g2,g3,g4⟩
    ·exact .inl ⟨h0.1,rfl⟩
    ·refine .inr ⟨b,vs,rest,ty,g1,?_,?_,g4⟩
     ·rcases g2 with g2 | ⟨i,n,hi,_⟩
      ·exact .inl g2
      ·simp [BK.own] at hi
     ·have:vs=[]:=by
       cases vs with
       | nil=>rfl
       | cons _ _=>simp [Rels] at g3
      subst this;trivial
   ·simp [cA,aZ,BRep]
  ·rcases j with _ | _ | j
   ·simp [cA,aZ,BK.pl]
   ·exact fun k hk=>by simp [flat,sC,SV.hasl,cA,aZ] at hk
   ·simp [cA,aZ,BK.pl]
  ·have hi1:i=1:=by
    rcases i with _ | _ | i
    ·simp [cA,aZ,BK.own] at hi
    ·rfl
    ·simp [cA,aZ,BK.own] at hi
   have hj1:j=1:=by
    rcases j with _ | _ | j
    ·simp [cA,aZ,BK.own] at hj
    ·rfl
    ·simp [cA,aZ,BK.own] at hj
   omega
  ·obtain⟨f1,f2,f3⟩:=hF b o ho
   refine⟨f1,fun j n hj e1=>?_,?_⟩
   ·rcases j with _ | _ | j
    ·simp [cA,aZ,BK.own] at hj
    ·exact f2 0 n trivial e1
    ·simp [cA,aZ,BK.own] at hj
   ·rcases f3 with f3 | f3 | ⟨i,n,hi,_⟩
    ·exact .inl f3
    ·exact .inr (.inl f3)
    ·simp [BK.own] at hi
 rcases hv with rfl | ⟨a,c,rfl⟩
 ·exact key _ bAg rfl
 ·exact key _ (aUx a c) rfl
theorem aUy (a:Addr)(c:Nat):Con Tryz.prog 62 [.v (.slice (some a) 0 c)] [] (.s 0 0 0 8) [.live true true []]:=by
 refine aOl (n:=9) Tryz.func62 rfl (ent Tryz.func62 (by kernel_rfl) rfl) (by show 1<=Tryz.f62.ntmps;decide) (by kernel_rfl) trivial (fun cx hcx=>?_)
 exact aEb (T:=T0) hT hm (f:=5000) (orc:=[.d false]) [.sym 0 true] [] [0] hcx
  (obs:=[.eq false false]) (by kernel_rfl) ⟨rfl,trivial⟩
theorem aTm (l:List ND5)(l0:l.length<=2^63-1)(h:l.length<=1048576):Con Tryz.prog 62 [.s 0 0 l.length 8] [.live false true (flat dO l)] (.s 1 0 (sD l).length 8) [.live true true (flat dO (sD l))]:=by
 by_cases hne:l.length≠0
 ·exact bAh l l0 hne h
 have hl:l=[]:=List.eq_nil_of_length_eq_zero (by omega)
 subst hl
 refine⟨(aUy ⟨0,0,none⟩ 0).1,fun ρ W vs hr hb hpl hap hfz=>?_⟩
 cases vs with
 | nil=>simp [Rels] at hr
 | cons v vs =>
 cases vs with
 | cons _ _=>simp [Rels] at hr
 | nil =>
 have hv:v=.slice none 0 0\/∃a c,v=.slice (some a) 0 c:=by
  have:=hr.1
  simp only [Rel] at this
  rcases this with⟨_,_,h⟩ | ⟨b,o,n,cap,off',sp,_,h,_⟩
  ·exact .inl h
  ·exact .inr ⟨_,_,h⟩
 have key:∀a0:SV,Con Tryz.prog 62 [a0] [] (.s 0 0 0 8) [.live true true []]->Rel ρ.bare a0 v ->
  Calls Tryz.prog 62 [v].toArray W (RR (aZ ρ W [.live false true (flat dO [])]) (.s 1 0 (sD []).length 8) [.live true true (flat dO (sD []))] []):=by
  intro a0 hc hrel
  refine(hc.2 ρ.bare W [v] ⟨hrel,trivial⟩ (fun i=>by simp [BRep]) (fun i=>by simp [BK.pl]) (fun i j b n b' n' _ h=>by simp [BK.own] at h) (fun b o ho=>⟨(hfz b o ho).1,fun i n h=>by simp [BK.own] at h⟩)).mono fun e W' hh=>?_
  obtain⟨ρ',u,he,_,hu,hk,hB,hP,hA,hL,hF⟩:=hh
  refine⟨⟨fun j=>if j=0 then ρ 0 else if j=1 then ρ' 0 else none,ρ'.fz⟩,u,he,fun i hi=>?_,?_,?_,fun j=>?_,fun j=>?_,fun i j b n b' n' hij hi hj=>?_,fun b o ho=>hL b o ho,fun b o ho=>?_⟩
  ·have:i=0:=by simp only [aZ,List.length_cons,List.length_nil] at hi;omega
   subst this;rfl
  ·show Rel _ (.s 1 0 0 8) u
   simp only [Rel] at hu ⊢
   exact hu
  ·exact⟨hk.os,hk.tape,hk.output,hk.size,fun k hk' _=>hk.block k hk' (by rintro ⟨i,n,hi,_⟩;simp [BK.own] at hi),hk.drawn⟩
  ·rcases j with _ | _ | j
   ·simp [cA,aZ,BRep]
   ·have h0:=hB 0
    rcases h0 with h0 | ⟨b,vs,rest,ty,g1,g2,g3,g4⟩
    ·exact .inl ⟨h0.1,rfl⟩
    ·refine .inr ⟨b,vs,rest,ty,g1,?_,?_,g4⟩
     ·rcases g2 with g2 | ⟨i,n,hi,_⟩
      ·exact .inl g2
      ·simp [BK.own] at hi
     ·have:vs=[]:=by
       cases vs with
       | nil=>rfl
       | cons _ _=>simp [Rels] at g3
      subst this;trivial
   ·simp [cA,aZ,BRep]
  ·rcases j with _ | _ | j
   ·simp [cA,aZ,BK.pl]
   ·exact fun k hk=>by simp [flat,sD,SV.hasl,cA,aZ] at hk
   ·simp [cA,aZ,BK.pl]
  ·have hi1:i=1:=by
    rcases i with _ | _ | i
    ·simp [cA,aZ,BK.own] at hi
    ·rfl
    ·simp [cA,aZ,BK.own] at hi
   have hj1:j=1:=by
    rcases j with _ | _ | j
    ·simp [cA,aZ,BK.own] at hj
    ·rfl
    ·simp [cA,aZ,BK.own] at hj
   omega
  ·obtain⟨f1,f2,f3⟩:=hF b o ho
   refine⟨f1,fun j n hj e1=>?_,?_⟩
   ·rcases j with _ | _ | j
    ·simp [cA,aZ,BK.own] at hj
    ·exact f2 0 n trivial e1
    ·simp [cA,aZ,BK.own] at hj
   ·rcases f3 with f3 | f3 | ⟨i,n,hi,_⟩
    ·exact .inl f3
    ·exact .inr (.inl f3)
    ·simp [BK.own] at hi
 rcases hv with rfl | ⟨a,c,rfl⟩
 ·exact key _ bAi rfl
 ·exact key _ (aUy a c) rfl
theorem uP {l:cN} [dR l] {t:TR} {sep:Int} (h:dP l t sep=0):fA l t=0:=by
 unfold dP at h
 rw [qC] at h
 cases hc:((fA l (t.1,t.2):Int) != 0) with
 | true=>simp only [hc,cond_true] at h;rw [h] at hc;cases hc
 | false=>exact bne_eq_false_iff_eq.1 hc
theorem uQ {l:cN} [dR l] {t:TR} {sep:Int} (h:dP l t sep=0):t.1.length=l.length/\l.length<=96/\t.2.length<=192/\InR l.length t.1/\(bL t sep).length<=9216:=by
 have hc:=uP h
 obtain⟨k1,k2,k3,k4⟩:=qU (t:=t) hc
 have ho:=aHu (t:=t) hc
 refine⟨k1,k2,k3,fun x hx=>?_,?_⟩
 ·obtain⟨j,hj,rfl⟩:=List.mem_iff_getElem.1 hx
  have:=ho (j:Int) (by omega)
  rwa [fW,cY,List.getElem?_eq_getElem hj,Option.getD_some] at this
 ·rw [qT sep hc]
  exact(qW sep hc).2.2
theorem aKe {l:cN} [dR l] {t:TR} {sep:Int} (h:dP l t sep=0) {j:Int} (h0:0<=j)(h1:j < (((bL t sep).length:Nat):Int)) :
 (0<=((bL t sep).getD (tN j) dF).1/\((bL t sep).getD (tN j) dF).1 < t.2.length) /\
 (0<=((bL t sep).getD (tN j) dF).2.1/\((bL t sep).getD (tN j) dF).2.1 < t.2.length) /\
 (0<=(t.2.getD (tN ((bL t sep).getD (tN j) dF).1) dF).1/\(t.2.getD (tN ((bL t sep).getD (tN j) dF).1) dF).1<=(t.2.getD (tN ((bL t sep).getD (tN j) dF).1) dF).2.1/\(t.2.getD (tN ((bL t sep).getD (tN j) dF).1) dF).2.1<=t.1.length) /\
 (0<=(t.2.getD (tN ((bL t sep).getD (tN j) dF).2.1) dF).1/\(t.2.getD (tN ((bL t sep).getD (tN j) dF).2.1) dF).1<=(t.2.getD (tN ((bL t sep).getD (tN j) dF).2.1) dF).2.1/\(t.2.getD (tN ((bL t sep).getD (tN j) dF).2.1) dF).2.1<=t.1.length):=by
 have hc:=uP h
 obtain⟨k1,k2,k3,k4⟩:=qU (t:=t) hc
 have hb:=(qW sep hc).2.1
 rw [←qT sep hc] at hb
 have hlt:tN j < (bL t sep).length:=by omega
 have hx:=hb _ (List.getElem_mem hlt)
 have e:(bL t sep).getD (tN j) dF=(bL t sep)[tN j]:=by
  rw [cY,List.getElem?_eq_getElem hlt];rfl
 rw [e]
 generalize (bL t sep)[tN j]=b at *
 obtain⟨⟨a1,a2⟩,⟨b1,b2⟩⟩:=hx
 have n1:=k4.2.2 (tN b.1) (by omega)
 have n2:=k4.2.2 (tN b.2.1) (by omega)
 exact⟨⟨a1,a2⟩,⟨b1,b2⟩,⟨n1.1,by omega,n1.2.2⟩,⟨n2.1,by omega,n2.2.2⟩⟩
theorem iF {l:cN} [dR l] {t:TR} {sep:Int} (h:dP l (t.1,t.2) sep=0):t.1.length=l.length/\l.length<=96/\t.2.length<=192/\InR l.length t.1/\(bL (t.1,t.2) sep).length<=9216:=uQ (t:=t) h
theorem oD {l:cN} [dR l] {t:TR} {sep:Int} (h:dP l (t.1,t.2) sep=0) {j:Int} (h0:0<=j)(h1:decide (j < (((bL (t.1,t.2) sep).length:Nat):Int))=true) :
 (0<=((bL (t.1,t.2) sep).getD (tN j) dF).1/\((bL (t.1,t.2) sep).getD (tN j) dF).1 < t.2.length) /\
 (0<=((bL (t.1,t.2) sep).getD (tN j) dF).2.1/\((bL (t.1,t.2) sep).getD (tN j) dF).2.1 < t.2.length) /\
 (0<=(t.2.getD (tN ((bL (t.1,t.2) sep).getD (tN j) dF).1) dF).1/\(t.2.getD (tN ((bL (t.1,t.2) sep).getD (tN j) dF).1) dF).1<=(t.2.getD (tN ((bL (t.1,t.2) sep).getD (tN j) dF).1) dF).2.1/\(t.2.getD (tN ((bL (t.1,t.2) sep).getD (tN j) dF).1) dF).2.1<=t.1.length) /\
 (0<=(t.2.getD (tN ((bL (t.1,t.2) sep).getD (tN j) dF).2.1) dF).1/\(t.2.getD (tN ((bL (t.1,t.2) sep).getD (tN j) dF).2.1) dF).1<=(t.2.getD (tN ((bL (t.1,t.2) sep).getD (tN j) dF).2.1) dF).2.1/\(t.2.getD (tN ((bL (t.1,t.2) sep).getD (tN j) dF).2.1) dF).2.1<=t.1.length):=aKe (t:=t) h h0 (dB h1)
def F37 (a0:List Int×bB):List Int×bB :=
 ((sC a0.1),(sD a0.2))
theorem C37 (a0:List Int×bB)(l0_1:a0.1.length<=2^63-1)(l0_2:a0.2.length<=2^63-1)(hc:a0.1.length<=1048576/\a0.2.length<=1048576):Con Tryz.prog 37 [(.a [(.s 0 0 a0.1.length 1),(.s 1 0 a0.2.length 8)])] [(.live false true (flat c3 a0.1)),(.live false true (flat dO a0.2))] (.a [(.s 2 0 (F37 a0).1.length 1),(.s 3 0 (F37 a0).2.length 8)]) [(.live true true (flat c3 (F37 a0).1)),(.live true true (flat dO (F37 a0).2))]:=by
 refine aT Tryz.func37 (by kernel_rfl) fun cx hcx=>?_
 have e:=Eq.refl (F37 a0);conv at e=>rhs;simp only [F37]
 rw [e]
 exact rt [.c [0] (aTl a0.1 (by omega) (by omega)),.c [1] (aTm a0.2 (by omega) (by omega))] [] [4,5] hcx (by kernel_rfl)
def fX (x:List (Int×Int)):List SV:=[(.d (flat eL x) x.length 2)]
theorem oE (x:List (Int×Int)):(fX x).length=1:=rfl
noncomputable def aFl:Code:=(aP [1,1,1,1,0,1,0,1,1,0,1,1,1,0,1,1,1,0,1,1,0,1,1] [0,0] (aN Tryz.f10) []).1
noncomputable def aFm (m0:Nat)(m1:Nat):List K:=(aP [1,1,1,1,0,1,0,1,1,0,1,1,1,0,1,1,1,0,1,1,0,1,1] [m0,m1] (aN Tryz.f10) []).2
def aB5 (a0:bK)(a1:List Int×bB)(a2:Int)(a3:Int)(v108c:List SV)(v108n:Nat)(v109c:List SV)(v109n:Nat)(v110c:List SV)(v110n:Nat)(v111c:List SV)(v111n:Nat)(v112 v113 v114 v115 v116 v117 v118 v119 v120 v121 v122 v123 v124 v125:Int):LS:=⟨kG 135 [(0,(.s 0 0 a0.length 10)),(3,(iv a3)),(5,(.p 3 0)),(8,(.p 4 0)),(11,(.p 5 0)),(15,(.p 6 0)),(16,(.s 7 0 v108n 2)),(20,(iv v112)),(44,(.s 8 0 (bL (a1.1,a1.2) a2).length 3)),(45,(iv (((bL (a1.1,a1.2) a2).length:Nat):Int))),(46,(iv v113)),(84,(.s 9 0 v109n 1)),(85,(iv v114)),(86,(iv v115)),(96,(.s 10 0 v110n 1)),(97,(iv v116)),(98,(iv v117))],[(.live false true (flat gB a0)),(.live false true (flat c3 a1.1)),(.live false true (flat dO a1.2)),(.live true false [(.s 1 0 a1.1.length 1),(.s 2 0 a1.2.length 8)]),(.live true false [(.v (.slice none 0 0)),(.v (.slice none 0 0)),(.v (.slice none 0 0)),(.v (.slice none 0 0))]),(.live true false [(.s 11 0 (F37 (a1.1,a1.2)).1.length 1),(.s 12 0 (F37 (a1.1,a1.2)).2.length 8),(.s 8 0 (bL (a1.1,a1.2) a2).length 3),(.s 13 0 v111n 1)]),(.live true false [(iv v118),(iv v119),(iv v120),(iv v121),(iv v122),(iv v123),(iv v124),(iv v125)]),(.live true true v108c),(.live true true (flat jV (bL (a1.1,a1.2) a2))),(.live false true v109c),(.live false true v110c),(.live true true (flat c3 (F37 (a1.1,a1.2)).1)),(.live true true (flat dO (F37 (a1.1,a1.2)).2)),(.live true true v111c)]⟩
def dQ (a0:bK)(a1:List Int×bB)(a2:Int)(a3:Int):(List (Int×Int))×List Int×List Int×(List (List (Int×Int)))×Int×Int×Int×Int×Int×Int×Int×Int×Int×Int×Int×Zt->((List (Int×Int))×List Int×List Int×(List (List (Int×Int)))×Int×Int×Int×Int×Int×Int×Int×Int×Int×Int×Int×Zt)⊕(((List (Int×Int))×List Int×(List (List (Int×Int)))×Int×Int×Int×Int×Int×Int×Int×Int×Zt)⊕(((List (List (Int×Int)))×Int)⊕(((List Int×bB)×(List (Int×Int×Bool))×List (List (Int×Int)))×Int)))
 | (v108,v109,v110,v111,v112,v113,v114,v115,v116,v117,v118,v119,v120,v121,v122,v123,v124,v125) =>
  (bif (decide ((v117:Int) < v116)) then
   (bif (((oX (a0.getD (tN v112) dF).1 (a0.getD (tN (v110.getD (tN v117) dF)) dF).1 a3).2:Int) != 0) then
    (.inr (.inr (.inr (((([]:List Int),([]:bB)),([]:List (Int×Int×Bool)),([]:List (List (Int×Int)))),(oX (a0.getD (tN v112) dF).1 (a0.getD (tN (v110.getD (tN v117) dF)) dF).1 a3).2))))
   else
    (.inl ((v108++[(oX (a0.getD (tN v112) dF).1 (a0.getD (tN (v110.getD (tN v117) dF)) dF).1 a3).1]),v109,v110,v111,v112,v113,v114,v115,v116,(v117+1),v118,v119,v120,v121,v122,v123,v124,v125)))
  else
   (.inr (.inl (v108,v109,v111,v113,v114,(v115+1),v118,v119,v120,v121,v122,v123,v124,v125))))
noncomputable def zJ:Code:=(aP [1,1,1,1,0,1,0,1,1,0,1,1,1,0,1,1,1] [0] (aN Tryz.f10) []).1
noncomputable def zK (m0:Nat):List K:=(aP [1,1,1,1,0,1,0,1,1,0,1,1,1,0,1,1,1] [m0] (aN Tryz.f10) []).2
def uR (a0:bK)(a1:List Int×bB)(a2:Int)(a3:Int)(v94c:List SV)(v94n:Nat)(v95c:List SV)(v95n:Nat)(v96c:List SV)(v96n:Nat)(v97 v98 v99 v100 v101 v102 v103 v104 v105 v106 v107:Int):LS:=⟨kG 135 [(0,(.s 0 0 a0.length 10)),(3,(iv a3)),(5,(.p 3 0)),(8,(.p 4 0)),(11,(.p 5 0)),(15,(.p 6 0)),(16,(.s 7 0 v94n 2)),(44,(.s 8 0 (bL (a1.1,a1.2) a2).length 3)),(45,(iv (((bL (a1.1,a1.2) a2).length:Nat):Int))),(46,(iv v97)),(84,(.s 9 0 v95n 1)),(85,(iv v98)),(86,(iv v99))],[(.live false true (flat gB a0)),(.live false true (flat c3 a1.1)),(.live false true (flat dO a1.2)),(.live true false [(.s 1 0 a1.1.length 1),(.s 2 0 a1.2.length 8)]),(.live true false [(.v (.slice none 0 0)),(.v (.slice none 0 0)),(.v (.slice none 0 0)),(.v (.slice none 0 0))]),(.live true false [(.s 10 0 (F37 (a1.1,a1.2)).1.length 1),(.s 11 0 (F37 (a1.1,a1.2)).2.length 8),(.s 8 0 (bL (a1.1,a1.2) a2).length 3),(.s 12 0 v96n 1)]),(.live true false [(iv v100),(iv v101),(iv v102),(iv v103),(iv v104),(iv v105),(iv v106),(iv v107)]),(.live true true v94c),(.live true true (flat jV (bL (a1.1,a1.2) a2))),(.live false true v95c),(.live true true (flat c3 (F37 (a1.1,a1.2)).1)),(.live true true (flat dO (F37 (a1.1,a1.2)).2)),(.live true true v96c)]⟩
def bM (a0:bK)(a1:List Int×bB)(a2:Int)(a3:Int):(List (Int×Int))×List Int×(List (List (Int×Int)))×Int×Int×Int×Int×Int×Int×Int×Int×Zt->((List (Int×Int))×List Int×(List (List (Int×Int)))×Int×Int×Int×Int×Int×Int×Int×Int×Zt)⊕(((List (List (Int×Int)))×Int)⊕(((List Int×bB)×(List (Int×Int×Bool))×List (List (Int×Int)))×Int))
 | (v94,v95,v96,v97,v98,v99,v100,v101,v102,v103,v104,v105,v106,v107) =>
  (bif (decide ((v99:Int) < v98)) then
   (aA (dQ a0 a1 a2 a3) (tN ((((tN v101 - tN v100):Nat):Int) - 0)+1) (v94,v95,(Aw.part (a1.1) v100 v101),v96,(v95.getD (tN v99) dF),v97,v98,v99,(((tN v101 - tN v100):Nat):Int),0,v100,v101,v102,v103,v104,v105,v106,v107))
  else
   (.inr (.inl ((v96++[v94]),(v97+1)))))
noncomputable def qX:Code:=(aP [1,1,1,1,0,1] [] (aN Tryz.f10) []).1
noncomputable def qY:List K:=(aP [1,1,1,1,0,1] [] (aN Tryz.f10) []).2
def nF (a0:bK)(a1:List Int×bB)(a2:Int)(a3:Int)(v2c:List SV)(v2n:Nat)(v3:Int):LS:=⟨kG 135 [(0,(.s 0 0 a0.length 10)),(3,(iv a3)),(5,(.p 3 0)),(8,(.p 4 0)),(11,(.p 5 0)),(44,(.s 6 0 (bL (a1.1,a1.2) a2).length 3)),(45,(iv (((bL (a1.1,a1.2) a2).length:Nat):Int))),(46,(iv v3))],[(.live false true (flat gB a0)),(.live false true (flat c3 a1.1)),(.live false true (flat dO a1.2)),(.live true false [(.s 1 0 a1.1.length 1),(.s 2 0 a1.2.length 8)]),(.live true false [(.v (.slice none 0 0)),(.v (.slice none 0 0)),(.v (.slice none 0 0)),(.v (.slice none 0 0))]),(.live true false [(.s 7 0 (F37 (a1.1,a1.2)).1.length 1),(.s 8 0 (F37 (a1.1,a1.2)).2.length 8),(.s 6 0 (bL (a1.1,a1.2) a2).length 3),(.s 9 0 v2n 1)]),(.live true true (flat jV (bL (a1.1,a1.2) a2))),(.live true true (flat c3 (F37 (a1.1,a1.2)).1)),(.live true true (flat dO (F37 (a1.1,a1.2)).2)),(.live true true v2c)]⟩
def aS (a0:bK)(a1:List Int×bB)(a2:Int)(a3:Int):(List (List (Int×Int)))×Int->((List (List (Int×Int)))×Int)⊕(((List Int×bB)×(List (Int×Int×Bool))×List (List (Int×Int)))×Int)
 | (v2,v3) =>
  (bif (decide ((v3:Int) < (((bL (a1.1,a1.2) a2).length:Nat):Int))) then
   (bif ((bL (a1.1,a1.2) a2).getD (tN v3) dF).2.2 then
    (bif (((yJ (a1.2.getD (tN ((bL (a1.1,a1.2) a2).getD (tN v3) dF).1) dF) (a1.2.getD (tN ((bL (a1.1,a1.2) a2).getD (tN v3) dF).2.1) dF)).2:Int) != 0) then
     (.inr (((([]:List Int),([]:bB)),([]:List (Int×Int×Bool)),([]:List (List (Int×Int)))),(yJ (a1.2.getD (tN ((bL (a1.1,a1.2) a2).getD (tN v3) dF).1) dF) (a1.2.getD (tN ((bL (a1.1,a1.2) a2).getD (tN v3) dF).2.1) dF)).2))
    else
     (.inl ((v2++[([(yJ (a1.2.getD (tN ((bL (a1.1,a1.2) a2).getD (tN v3) dF).1) dF) (a1.2.getD (tN ((bL (a1.1,a1.2) a2).getD (tN v3) dF).2.1) dF)).1]:List (Int×Int))]),(v3+1))))
   else
    (aA (bM a0 a1 a2 a3) (tN ((((tN (a1.2.getD (tN ((bL (a1.1,a1.2) a2).getD (tN v3) dF).1) dF).2.1 - tN (a1.2.getD (tN ((bL (a1.1,a1.2) a2).getD (tN v3) dF).1) dF).1):Nat):Int) - 0)+1) (([]:List (Int×Int)),(Aw.part (a1.1) ((a1.2.getD (tN ((bL (a1.1,a1.2) a2).getD (tN v3) dF).1) dF).1) ((a1.2.getD (tN ((bL (a1.1,a1.2) a2).getD (tN v3) dF).1) dF).2.1)),v2,v3,(((tN (a1.2.getD (tN ((bL (a1.1,a1.2) a2).getD (tN v3) dF).1) dF).2.1 - tN (a1.2.getD (tN ((bL (a1.1,a1.2) a2).getD (tN v3) dF).1) dF).1):Nat):Int),0,(a1.2.getD (tN ((bL (a1.1,a1.2) a2).getD (tN v3) dF).2.1) dF).1,(a1.2.getD (tN ((bL (a1.1,a1.2) a2).getD (tN v3) dF).2.1) dF).2.1,(a1.2.getD (tN ((bL (a1.1,a1.2) a2).getD (tN v3) dF).2.1) dF).2.2.1,(a1.2.getD (tN ((bL (a1.1,a1.2) a2).getD (tN v3) dF).2.1) dF).2.2.2.1,(a1.2.getD (tN ((bL (a1.1,a1.2) a2).getD (tN v3) dF).2.1) dF).2.2.2.2.1.1,(a1.2.getD (tN ((bL (a1.1,a1.2) a2).getD (tN v3) dF).2.1) dF).2.2.2.2.1.2.1,(a1.2.getD (tN ((bL (a1.1,a1.2) a2).getD (tN v3) dF).2.1) dF).2.2.2.2.1.2.2,(a1.2.getD (tN ((bL (a1.1,a1.2) a2).getD (tN v3) dF).2.1) dF).2.2.2.2.2)))
  else
   (.inr ((((F37 (a1.1,a1.2)).1,(F37 (a1.1,a1.2)).2),(bL (a1.1,a1.2) a2),v2),0)))
theorem aTn (a0:bK)(a1:List Int×bB)(a2:Int)(a3:Int)(l0:a0.length<=2^63-1)(l1_1:a1.1.length<=2^63-1)(l1_2:a1.2.length<=2^63-1) [h5:dR a0] {cx:Cx} (hcx:cx.base=3)
 (n0:Nat) (g0:∀(v2:List (List (Int×Int))) (v3:Int),(0<=v3)/\(dP a0 (a1.1,a1.2) a2=0)/\(v2.length=tN v3)/\(v3<=((bL (a1.1,a1.2) a2).length:Int))->tN ((((bL (a1.1,a1.2) a2).length:Nat):Int) - v3) < n0->Aw.Good Tryz.prog none 9 (bodyPost Tryz.prog Tryz.f10 (RR cx (.t [(.a [(.s 3 0 (aA (aS a0 a1 a2 a3) n0 (v2,v3)).1.1.1.length 1),(.s 4 0 (aA (aS a0 a1 a2 a3) n0 (v2,v3)).1.1.2.length 8),(.s 5 0 (aA (aS a0 a1 a2 a3) n0 (v2,v3)).1.2.1.length 3),(.s 6 0 (aA (aS a0 a1 a2 a3) n0 (v2,v3)).1.2.2.length 1)]),(iv (aA (aS a0 a1 a2 a3) n0 (v2,v3)).2)]) [(.live true true (flat c3 (aA (aS a0 a1 a2 a3) n0 (v2,v3)).1.1.1)),(.live true true (flat dO (aA (aS a0 a1 a2 a3) n0 (v2,v3)).1.1.2)),(.live true true (flat jV (aA (aS a0 a1 a2 a3) n0 (v2,v3)).1.2.1)),(.live true true (flat fX (aA (aS a0 a1 a2 a3) n0 (v2,v3)).1.2.2))] [])) cx [] (.l qX n0::qY) (nF a0 a1 a2 a3 (flat fX v2) v2.length v3))
 (n1:Nat) (g1:∀(v94:List (Int×Int)) (v95:List Int) (v96:List (List (Int×Int))) (v97 v98 v99 v100 v101 v102 v103 v104 v105 v106 v107:Int),(0<=v99)/\(dP a0 (a1.1,a1.2) a2=0)/\(v96.length=tN v97)/\(0<=v97)/\(v97 < ((bL (a1.1,a1.2) a2).length:Int))/\(v98=v95.length)/\(v95.length<=96)/\(InR a0.length v95)/\(v94.length<=96*tN v99)/\(v99<=v98)/\(0<=v100)/\(v100<=v101)/\(v101<=a1.1.length)/\((0<=v97))/\((dP a0 (a1.1,a1.2) a2=0))/\((v96.length=tN v97))/\((v97<=((bL (a1.1,a1.2) a2).length:Int)))/\(v97 < (((bL (a1.1,a1.2) a2).length:Nat):Int))/\(tN ((((bL (a1.1,a1.2) a2).length:Nat):Int) - v97) < n0+1)->tN (v98 - v99) < n1->Aw.Good Tryz.prog none 9 (bodyPost Tryz.prog Tryz.f10 (RR cx (.t [(.a [(.s 3 0 (bD (aS a0 a1 a2 a3) n0 (aA (bM a0 a1 a2 a3) n1 (v94,v95,v96,v97,v98,v99,v100,v101,v102,v103,v104,v105,v106,v107))).1.1.1.length 1),(.s 4 0 (bD (aS a0 a1 a2 a3) n0 (aA (bM a0 a1 a2 a3) n1 (v94,v95,v96,v97,v98,v99,v100,v101,v102,v103,v104,v105,v106,v107))).1.1.2.length 8),(.s 5 0 (bD (aS a0 a1 a2 a3) n0 (aA (bM a0 a1 a2 a3) n1 (v94,v95,v96,v97,v98,v99,v100,v101,v102,v103,v104,v105,v106,v107))).1.2.1.length 3),(.s 6 0 (bD (aS a0 a1 a2 a3) n0 (aA (bM a0 a1 a2 a3) n1 (v94,v95,v96,v97,v98,v99,v100,v101,v102,v103,v104,v105,v106,v107))).1.2.2.length 1)]),(iv (bD (aS a0 a1 a2 a3) n0 (aA (bM a0 a1 a2 a3) n1 (v94,v95,v96,v97,v98,v99,v100,v101,v102,v103,v104,v105,v106,v107))).2)]) [(.live true true (flat c3 (bD (aS a0 a1 a2 a3) n0 (aA (bM a0 a1 a2 a3) n1 (v94,v95,v96,v97,v98,v99,v100,v101,v102,v103,v104,v105,v106,v107))).1.1.1)),(.live true true (flat dO (bD (aS a0 a1 a2 a3) n0 (aA (bM a0 a1 a2 a3) n1 (v94,v95,v96,v97,v98,v99,v100,v101,v102,v103,v104,v105,v106,v107))).1.1.2)),(.live true true (flat jV (bD (aS a0 a1 a2 a3) n0 (aA (bM a0 a1 a2 a3) n1 (v94,v95,v96,v97,v98,v99,v100,v101,v102,v103,v104,v105,v106,v107))).1.2.1)),(.live true true (flat fX (bD (aS a0 a1 a2 a3) n0 (aA (bM a0 a1 a2 a3) n1 (v94,v95,v96,v97,v98,v99,v100,v101,v102,v103,v104,v105,v106,v107))).1.2.2))] [])) cx [] (.l zJ n1::zK n0) (uR a0 a1 a2 a3 (flat eL v94) v94.length (flat c3 v95) v95.length (flat fX v96) v96.length v97 v98 v99 v100 v101 v102 v103 v104 v105 v106 v107)):∀(n:Nat) (v108:List (Int×Int)) (v109:List Int) (v110:List Int) (v111:List (List (Int×Int))) (v112 v113 v114 v115 v116 v117 v118 v119 v120 v121 v122 v123 v124 v125:Int),(0<=v117)/\(dP a0 (a1.1,a1.2) a2=0)/\(v111.length=tN v113)/\(0<=v113)/\(v113 < ((bL (a1.1,a1.2) a2).length:Int))/\(v114=v109.length)/\(v109.length<=96)/\(InR a0.length v109)/\(0<=v115)/\(v115 < v114)/\(v116=v110.length)/\(v110.length<=96)/\(InR a0.length v110)/\(0<=v112)/\(v112 < a0.length)/\(v108.length<=96*tN v115+tN v117)/\(v117<=v116)/\(0<=v118)/\(v118<=v119)/\(v119<=a1.1.length)/\((0<=v113))/\((dP a0 (a1.1,a1.2) a2=0))/\((v111.length=tN v113))/\((v113<=((bL (a1.1,a1.2) a2).length:Int)))/\(v113 < (((bL (a1.1,a1.2) a2).length:Nat):Int))/\(tN ((((bL (a1.1,a1.2) a2).length:Nat):Int) - v113) < n0+1)/\((0<=v115))/\((dP a0 (a1.1,a1.2) a2=0))/\((v111.length=tN v113))/\((0<=v113))/\((v113 < ((bL (a1.1,a1.2) a2).length:Int)))/\((v114=v109.length))/\((v109.length<=96))/\((InR a0.length v109))/\((v115<=v114))/\((0<=v118))/\((v118<=v119))/\((v119<=a1.1.length))/\(v115 < v114)/\(tN (v114 - v115) < n1+1)->tN (v116 - v117) < n->Aw.Good Tryz.prog none 9 (bodyPost Tryz.prog Tryz.f10 (RR cx (.t [(.a [(.s 3 0 (bD (aS a0 a1 a2 a3) n0 (bD (bM a0 a1 a2 a3) n1 (aA (dQ a0 a1 a2 a3) n (v108,v109,v110,v111,v112,v113,v114,v115,v116,v117,v118,v119,v120,v121,v122,v123,v124,v125)))).1.1.1.length 1),(.s 4 0 (bD (aS a0 a1 a2 a3) n0 (bD (bM a0 a1 a2 a3) n1 (aA (dQ a0 a1 a2 a3) n (v108,v109,v110,v111,v112,v113,v114,v115,v116,v117,v118,v119,v120,v121,v122,v123,v124,v125)))).1.1.2.length 8),(.s 5 0 (bD (aS a0 a1 a2 a3) n0 (bD (bM a0 a1 a2 a3) n1 (aA (dQ a0 a1 a2 a3) n (v108,v109,v110,v111,v112,v113,v114,v115,v116,v117,v118,v119,v120,v121,v122,v123,v124,v125)))).1.2.1.length 3),(.s 6 0 (bD (aS a0 a1 a2 a3) n0 (bD (bM a0 a1 a2 a3) n1 (aA (dQ a0 a1 a2 a3) n (v108,v109,v110,v111,v112,v113,v114,v115,v116,v117,v118,v119,v120,v121,v122,v123,v124,v125)))).1.2.2.length 1)]),(iv (bD (aS a0 a1 a2 a3) n0 (bD (bM a0 a1 a2 a3) n1 (aA (dQ a0 a1 a2 a3) n (v108,v109,v110,v111,v112,v113,v114,v115,v116,v117,v118,v119,v120,v121,v122,v123,v124,v125)))).2)]) [(.live true true (flat c3 (bD (aS a0 a1 a2 a3) n0 (bD (bM a0 a1 a2 a3) n1 (aA (dQ a0 a1 a2 a3) n (v108,v109,v110,v111,v112,v113,v114,v115,v116,v117,v118,v119,v120,v121,v122,v123,v124,v125)))).1.1.1)),(.live true true (flat dO (bD (aS a0 a1 a2 a3) n0 (bD (bM a0 a1 a2 a3) n1 (aA (dQ a0 a1 a2 a3) n (v108,v109,v110,v111,v112,v113,v114,v115,v116,v117,v118,v119,v120,v121,v122,v123,v124,v125)))).1.1.2)),(.live true true (flat jV (bD (aS a0 a1 a2 a3) n0 (bD (bM a0 a1 a2 a3) n1 (aA (dQ a0 a1 a2 a3) n (v108,v109,v110,v111,v112,v113,v114,v115,v116,v117,v118,v119,v120,v121,v122,v123,v124,v125)))).1.2.1)),(.live true true (flat fX (bD (aS a0 a1 a2 a3) n0 (bD (bM a0 a1 a2 a3) n1 (aA (dQ a0 a1 a2 a3) n (v108,v109,v110,v111,v112,v113,v114,v115,v116,v117,v118,v119,v120,v121,v122,v123,v124,v125)))).1.2.2))] [])) cx [] (.l aFl n::aFm n0 n1) (aB5 a0 a1 a2 a3 (flat eL v108) v108.length (flat c3 v109) v109.length (flat c3 v110) v110.length (flat fX v111) v111.length v112 v113 v114 v115 v116 v117 v118 v119 v120 v121 v122 v123 v124 v125):=by
 intro n
 induction n with
 | zero=>intro v108 v109 v110 v111 v112 v113 v114 v115 v116 v117 v118 v119 v120 v121 v122 v123 v124 v125 hi hn;exact absurd hn (fJ _)
 | succ n ih =>
  intro v108 v109 v110 v111 v112 v113 v114 v115 v116 v117 v118 v119 v120 v121 v122 v123 v124 v125 hi hn
  refine aU ?_
  have hd:=iF (l:=a0) (t:=a1) (sep:=a2) hi.2.1
  try have hr2:=hi.2.2.2.2.2.2.2.2.2.2.2.2.1.at (i:=tN v117) (by have _:=h0;omega)
  cases h0:(decide ((v117:Int) < v116)) with
  | true =>
   have q0:=dB h0
   try have hr2:=hi.2.2.2.2.2.2.2.2.2.2.2.2.1.at (i:=tN v117) (by have _:=h0;omega)
   let t1:List (St Tryz.prog):=[.d h0,.i v117 (v110.length),.L aW v110 v117 0 1,.i v112 (a0.length),.L fS a0 v112 0 9,.i (v110.getD (tN v117) dF) (a0.length),.L fS a0 (v110.getD (tN v117) dF) 0 9,.c [] (C40 (a0.getD (tN v112) dF).1 (a0.getD (tN (v110.getD (tN v117) dF)) dF).1 a3)]
   cases h1:(((oX (a0.getD (tN v112) dF).1 (a0.getD (tN (v110.getD (tN v117) dF)) dF).1 a3).2:Int) != 0) with
   | true =>
    have q1:=bne_iff_ne.1 h1
    try have hr2:=hi.2.2.2.2.2.2.2.2.2.2.2.2.1.at (i:=tN v117) (by have _:=h0;omega)
    have e:=Eq.refl (dQ a0 a1 a2 a3 (v108,v109,v110,v111,v112,v113,v114,v115,v116,v117,v118,v119,v120,v121,v122,v123,v124,v125));conv at e=>rhs;simp only [dQ,h0,h1,aX]
    rw [aQ,e]
    exact rt (t1++[.d h1]) [.cell 4 0 1,.cell 4 1 8,.cell 4 2 3,.cell 4 3 1] [15,16,17,18] hcx (by kernel_rfl)
   | false =>
    have q1:=bne_eq_false_iff_eq.1 h1
    try have hr2:=hi.2.2.2.2.2.2.2.2.2.2.2.2.1.at (i:=tN v117) (by have _:=h0;omega)
    have e:=Eq.refl (dQ a0 a1 a2 a3 (v108,v109,v110,v111,v112,v113,v114,v115,v116,v117,v118,v119,v120,v121,v122,v123,v124,v125));conv at e=>rhs;simp only [dQ,h0,h1,aX]
    rw [aB e]
    refine ba (t1++[.d h1,.p (show((flat eL v108).length=v108.length*2/\v108.length+1<=2 ^ 40/\(v108.length+1)*16<=2 ^ 47) from jW dU (by omega) (by omega))]) [] [0,3,5,8,11,15,16,20,44,45,46,84,85,86,96,97,98] [3,4,5,6,16,8,9,10,11,12,13] hcx (m:=n) aFl (aFm n0 n1) (aB5 a0 a1 a2 a3 (flat eL v108++(k2 (oX (a0.getD (tN v112) dF).1 (a0.getD (tN (v110.getD (tN v117) dF)) dF).1 a3).1)) (v108.length+1) (flat c3 v109) (v109.length) (flat c3 v110) (v110.length) (flat fX v111) (v111.length) v112 v113 v114 v115 v116 (W (v117+1)) v118 v119 v120 v121 v122 v123 v124 v125) (by kernel_rfl) ?_
    have z0:(W (v117+1))=(v117+1):=aH (by omega) (by omega)
    have z1:(flat eL v108++(k2 (oX (a0.getD (tN v112) dF).1 (a0.getD (tN (v110.getD (tN v117) dF)) dF).1 a3).1))=(flat eL (v108++[(oX (a0.getD (tN v112) dF).1 (a0.getD (tN (v110.getD (tN v117) dF)) dF).1 a3).1])):=(cJ (c:=eL) (l:=v108) (m:=[(oX (a0.getD (tN v112) dF).1 (a0.getD (tN (v110.getD (tN v117) dF)) dF).1 a3).1])).symm
    have z2:(v108.length+1)=(v108++[(oX (a0.getD (tN v112) dF).1 (a0.getD (tN (v110.getD (tN v117) dF)) dF).1 a3).1]).length:=jD v108 [(oX (a0.getD (tN v112) dF).1 (a0.getD (tN (v110.getD (tN v117) dF)) dF).1 a3).1] rfl
    rw [z0,z1,z2]
    exact ih (v108++[(oX (a0.getD (tN v112) dF).1 (a0.getD (tN (v110.getD (tN v117) dF)) dF).1 a3).1]) v109 v110 v111 v112 v113 v114 v115 v116 (v117+1) v118 v119 v120 v121 v122 v123 v124 v125 (by(repeat' apply And.intro)<;>(try simp only [Ls])<;>first | omega | assumption | exact hd.2.2.2.1.part _ _ | exact hi.2.2.2.2.2.2.2.1 | exact hi.2.2.2.2.2.2.2.2.2.2.2.2.1) (by(try simp only [Ls]);omega)
  | false =>
   have q0:=eC h0
   try have hr2:=hi.2.2.2.2.2.2.2.2.2.2.2.2.1.at (i:=tN v117) (by have _:=h0;omega)
   have e:=Eq.refl (dQ a0 a1 a2 a3 (v108,v109,v110,v111,v112,v113,v114,v115,v116,v117,v118,v119,v120,v121,v122,v123,v124,v125));conv at e=>rhs;simp only [dQ,h0,aX]
   rw [aQ,e]
   refine ba [.d h0] [] [0,3,5,8,11,15,16,44,45,46,84,85,86] [3,4,5,6,7,8,9,11,12,13] hcx (m:=n1) zJ (zK n0) (uR a0 a1 a2 a3 (flat eL v108) (v108.length) (flat c3 v109) (v109.length) (flat fX v111) (v111.length) v113 v114 (W (v115+1)) v118 v119 v120 v121 v122 v123 v124 v125) (by kernel_rfl) ?_
   have z0:(W (v115+1))=(v115+1):=aH (by omega) (by omega)
   rw [z0]
   exact g1 v108 v109 v111 v113 v114 (v115+1) v118 v119 v120 v121 v122 v123 v124 v125 (by(repeat' apply And.intro)<;>(try simp only [Ls])<;>first | omega | assumption | exact hd.2.2.2.1.part _ _ | exact hi.2.2.2.2.2.2.2.1 | exact hi.2.2.2.2.2.2.2.2.2.2.2.2.1) (by(try simp only [Ls]);omega)
theorem aTo (a0:bK)(a1:List Int×bB)(a2:Int)(a3:Int)(l0:a0.length<=2^63-1)(l1_1:a1.1.length<=2^63-1)(l1_2:a1.2.length<=2^63-1) [h5:dR a0] {cx:Cx} (hcx:cx.base=3)
 (n0:Nat) (g0:∀(v2:List (List (Int×Int))) (v3:Int),(0<=v3)/\(dP a0 (a1.1,a1.2) a2=0)/\(v2.length=tN v3)/\(v3<=((bL (a1.1,a1.2) a2).length:Int))->tN ((((bL (a1.1,a1.2) a2).length:Nat):Int) - v3) < n0->Aw.Good Tryz.prog none 9 (bodyPost Tryz.prog Tryz.f10 (RR cx (.t [(.a [(.s 3 0 (aA (aS a0 a1 a2 a3) n0 (v2,v3)).1.1.1.length 1),(.s 4 0 (aA (aS a0 a1 a2 a3) n0 (v2,v3)).1.1.2.length 8),(.s 5 0 (aA (aS a0 a1 a2 a3) n0 (v2,v3)).1.2.1.length 3),(.s 6 0 (aA (aS a0 a1 a2 a3) n0 (v2,v3)).1.2.2.length 1)]),(iv (aA (aS a0 a1 a2 a3) n0 (v2,v3)).2)]) [(.live true true (flat c3 (aA (aS a0 a1 a2 a3) n0 (v2,v3)).1.1.1)),(.live true true (flat dO (aA (aS a0 a1 a2 a3) n0 (v2,v3)).1.1.2)),(.live true true (flat jV (aA (aS a0 a1 a2 a3) n0 (v2,v3)).1.2.1)),(.live true true (flat fX (aA (aS a0 a1 a2 a3) n0 (v2,v3)).1.2.2))] [])) cx [] (.l qX n0::qY) (nF a0 a1 a2 a3 (flat fX v2) v2.length v3)):∀(n:Nat) (v94:List (Int×Int)) (v95:List Int) (v96:List (List (Int×Int))) (v97 v98 v99 v100 v101 v102 v103 v104 v105 v106 v107:Int),(0<=v99)/\(dP a0 (a1.1,a1.2) a2=0)/\(v96.length=tN v97)/\(0<=v97)/\(v97 < ((bL (a1.1,a1.2) a2).length:Int))/\(v98=v95.length)/\(v95.length<=96)/\(InR a0.length v95)/\(v94.length<=96*tN v99)/\(v99<=v98)/\(0<=v100)/\(v100<=v101)/\(v101<=a1.1.length)/\((0<=v97))/\((dP a0 (a1.1,a1.2) a2=0))/\((v96.length=tN v97))/\((v97<=((bL (a1.1,a1.2) a2).length:Int)))/\(v97 < (((bL (a1.1,a1.2) a2).length:Nat):Int))/\(tN ((((bL (a1.1,a1.2) a2).length:Nat):Int) - v97) < n0+1)->tN (v98 - v99) < n->Aw.Good Tryz.prog none 9 (bodyPost Tryz.prog Tryz.f10 (RR cx (.t [(.a [(.s 3 0 (bD (aS a0 a1 a2 a3) n0 (aA (bM a0 a1 a2 a3) n (v94,v95,v96,v97,v98,v99,v100,v101,v102,v103,v104,v105,v106,v107))).1.1.1.length 1),(.s 4 0 (bD (aS a0 a1 a2 a3) n0 (aA (bM a0 a1 a2 a3) n (v94,v95,v96,v97,v98,v99,v100,v101,v102,v103,v104,v105,v106,v107))).1.1.2.length 8),(.s 5 0 (bD (aS a0 a1 a2 a3) n0 (aA (bM a0 a1 a2 a3) n (v94,v95,v96,v97,v98,v99,v100,v101,v102,v103,v104,v105,v106,v107))).1.2.1.length 3),(.s 6 0 (bD (aS a0 a1 a2 a3) n0 (aA (bM a0 a1 a2 a3) n (v94,v95,v96,v97,v98,v99,v100,v101,v102,v103,v104,v105,v106,v107))).1.2.2.length 1)]),(iv (bD (aS a0 a1 a2 a3) n0 (aA (bM a0 a1 a2 a3) n (v94,v95,v96,v97,v98,v99,v100,v101,v102,v103,v104,v105,v106,v107))).2)]) [(.live true true (flat c3 (bD (aS a0 a1 a2 a3) n0 (aA (bM a0 a1 a2 a3) n (v94,v95,v96,v97,v98,v99,v100,v101,v102,v103,v104,v105,v106,v107))).1.1.1)),(.live true true (flat dO (bD (aS a0 a1 a2 a3) n0 (aA (bM a0 a1 a2 a3) n (v94,v95,v96,v97,v98,v99,v100,v101,v102,v103,v104,v105,v106,v107))).1.1.2)),(.live true true (flat jV (bD (aS a0 a1 a2 a3) n0 (aA (bM a0 a1 a2 a3) n (v94,v95,v96,v97,v98,v99,v100,v101,v102,v103,v104,v105,v106,v107))).1.2.1)),(.live true true (flat fX (bD (aS a0 a1 a2 a3) n0 (aA (bM a0 a1 a2 a3) n (v94,v95,v96,v97,v98,v99,v100,v101,v102,v103,v104,v105,v106,v107))).1.2.2))] [])) cx [] (.l zJ n::zK n0) (uR a0 a1 a2 a3 (flat eL v94) v94.length (flat c3 v95) v95.length (flat fX v96) v96.length v97 v98 v99 v100 v101 v102 v103 v104 v105 v106 v107):=by
 intro n
 induction n with
 | zero=>intro v94 v95 v96 v97 v98 v99 v100 v101 v102 v103 v104 v105 v106 v107 hi hn;exact absurd hn (fJ _)
 | succ n ih =>
  intro v94 v95 v96 v97 v98 v99 v100 v101 v102 v103 v104 v105 v106 v107 hi hn
  refine aU ?_
  have hd:=iF (l:=a0) (t:=a1) (sep:=a2) hi.2.1
  have hp2:=part_len (l:=a1.1) (a:=v100) (b:=v101) (by omega)
  try have hr1:=hi.2.2.2.2.2.2.2.1.at (i:=tN v99) (by have _:=h0;omega)
  cases h0:(decide ((v99:Int) < v98)) with
  | true =>
   have q0:=dB h0
   try have hr1:=hi.2.2.2.2.2.2.2.1.at (i:=tN v99) (by have _:=h0;omega)
   have e:=Eq.refl (bM a0 a1 a2 a3 (v94,v95,v96,v97,v98,v99,v100,v101,v102,v103,v104,v105,v106,v107));conv at e=>rhs;simp only [bM,h0,aX]
   rw [aQ,e]
   refine en [.d h0,.i v99 (v95.length),.L aW v95 v99 0 1,.S aW (a1.1) v100 v101 (a1.1.length)] [] [0,3,5,8,11,15,16,20,44,45,46,84,85,86,96,97,98] [3,4,5,6,7,8,9,13,10,11,12] hcx aFl (aFm n0 n) (aB5 a0 a1 a2 a3 (flat eL v94) (v94.length) (flat c3 v95) (v95.length) (flat c3 (Aw.part (a1.1) v100 v101)) (tN v101 - tN v100) (flat fX v96) (v96.length) (v95.getD (tN v99) dF) v97 v98 v99 (((tN v101 - tN v100):Nat):Int) 0 v100 v101 v102 v103 v104 v105 v106 v107) (tN ((((tN v101 - tN v100):Nat):Int) - 0)+1) (by kernel_rfl) ?_
   have z0:(tN v101 - tN v100)=(Aw.part (a1.1) v100 v101).length:=(part_len (by omega)).symm
   rw [z0]
   exact aTn a0 a1 a2 a3 l0 l1_1 l1_2 hcx n0 g0 n ih (tN (((((Aw.part (a1.1) v100 v101).length):Nat):Int) - 0)+1) v94 v95 (Aw.part (a1.1) v100 v101) v96 (v95.getD (tN v99) dF) v97 v98 v99 ((((Aw.part (a1.1) v100 v101).length):Nat):Int) 0 v100 v101 v102 v103 v104 v105 v106 v107 (by(repeat' apply And.intro)<;>(try simp only [Ls])<;>first | omega | assumption | exact hd.2.2.2.1.part _ _ | exact hi.2.2.2.2.2.2.2.1 | exact hi.2.2.2.2.2.2.2.2.2.2.2.2.1) (by(try simp only [Ls]);omega)
  | false =>
   have q0:=eC h0
   try have hr1:=hi.2.2.2.2.2.2.2.1.at (i:=tN v99) (by have _:=h0;omega)
   have e:=Eq.refl (bM a0 a1 a2 a3 (v94,v95,v96,v97,v98,v99,v100,v101,v102,v103,v104,v105,v106,v107));conv at e=>rhs;simp only [bM,h0,aX]
   rw [aQ,e]
   refine ba [.d h0,.p (show((flat eL v94)).length=v94.length*2 from by first | (simp [eV dU];done) | rfl),.p (show((flat fX v96).length=v96.length*1/\v96.length+1<=2 ^ 40/\(v96.length+1)*24<=2 ^ 47) from jW oE (by omega) (by omega))] [] [0,3,5,8,11,44,45,46] [3,4,5,8,10,11,14] hcx (m:=n0) qX (qY) (nF a0 a1 a2 a3 (flat fX v96++[(.d (flat eL v94) v94.length 2)]) (v96.length+1) (W (v97+1))) (by kernel_rfl) ?_
   have z0:(W (v97+1))=(v97+1):=aH (by omega) (by omega)
   have z1:(flat fX v96++[(.d (flat eL v94) v94.length 2)])=(flat fX (v96++[v94])):=(cJ (c:=fX) (l:=v96) (m:=[v94])).symm
   have z2:(v96.length+1)=(v96++[v94]).length:=jD v96 [v94] rfl
   rw [z0,z1,z2]
   exact g0 (v96++[v94]) (v97+1) (by(repeat' apply And.intro)<;>(try simp only [Ls])<;>first | omega | assumption | exact hd.2.2.2.1.part _ _ | exact hi.2.2.2.2.2.2.2.1 | exact hi.2.2.2.2.2.2.2.2.2.2.2.2.1) (by(try simp only [Ls]);omega)
theorem aTp (a0:bK)(a1:List Int×bB)(a2:Int)(a3:Int)(l0:a0.length<=2^63-1)(l1_1:a1.1.length<=2^63-1)(l1_2:a1.2.length<=2^63-1) [h5:dR a0] {cx:Cx} (hcx:cx.base=3):∀(n:Nat) (v2:List (List (Int×Int))) (v3:Int),(0<=v3)/\(dP a0 (a1.1,a1.2) a2=0)/\(v2.length=tN v3)/\(v3<=((bL (a1.1,a1.2) a2).length:Int))->tN ((((bL (a1.1,a1.2) a2).length:Nat):Int) - v3) < n->Aw.Good Tryz.prog none 9 (bodyPost Tryz.prog Tryz.f10 (RR cx (.t [(.a [(.s 3 0 (aA (aS a0 a1 a2 a3) n (v2,v3)).1.1.1.length 1),(.s 4 0 (aA (aS a0 a1 a2 a3) n (v2,v3)).1.1.2.length 8),(.s 5 0 (aA (aS a0 a1 a2 a3) n (v2,v3)).1.2.1.length 3),(.s 6 0 (aA (aS a0 a1 a2 a3) n (v2,v3)).1.2.2.length 1)]),(iv (aA (aS a0 a1 a2 a3) n (v2,v3)).2)]) [(.live true true (flat c3 (aA (aS a0 a1 a2 a3) n (v2,v3)).1.1.1)),(.live true true (flat dO (aA (aS a0 a1 a2 a3) n (v2,v3)).1.1.2)),(.live true true (flat jV (aA (aS a0 a1 a2 a3) n (v2,v3)).1.2.1)),(.live true true (flat fX (aA (aS a0 a1 a2 a3) n (v2,v3)).1.2.2))] [])) cx [] (.l qX n::qY) (nF a0 a1 a2 a3 (flat fX v2) v2.length v3):=by
 intro n
 induction n with
 | zero=>intro v2 v3 hi hn;exact absurd hn (fJ _)
 | succ n ih =>
  intro v2 v3 hi hn
  refine aU ?_
  have hd:=iF (l:=a0) (t:=a1) (sep:=a2) hi.2.1
  try have hbf:=oD (l:=a0) (t:=a1) (sep:=a2) hi.2.1 (j:=v3) hi.1 h0
  try have hb1:=hbf.1
  try have hb2:=hbf.2.1
  try have hb3:=hbf.2.2.1
  try have hb4:=hbf.2.2.2
  cases h0:(decide ((v3:Int) < (((bL (a1.1,a1.2) a2).length:Nat):Int))) with
  | true =>
   have q0:=dB h0
   try have hbf:=oD (l:=a0) (t:=a1) (sep:=a2) hi.2.1 (j:=v3) hi.1 h0
   let t1:List (St Tryz.prog):=[.d h0,.i v3 ((bL (a1.1,a1.2) a2).length),.L qR (bL (a1.1,a1.2) a2) v3 0 3,.i (((bL (a1.1,a1.2) a2).getD (tN v3) dF).1) (a1.2.length),.L cZ a1.2 ((bL (a1.1,a1.2) a2).getD (tN v3) dF).1 0 8,.i (((bL (a1.1,a1.2) a2).getD (tN v3) dF).2.1) (a1.2.length),.L cZ a1.2 ((bL (a1.1,a1.2) a2).getD (tN v3) dF).2.1 0 8]
   cases h1:((bL (a1.1,a1.2) a2).getD (tN v3) dF).2.2 with
   | true =>
    try have hbf:=oD (l:=a0) (t:=a1) (sep:=a2) hi.2.1 (j:=v3) hi.1 h0
    let t2:List (St Tryz.prog):=(t1++[.d h1,.c [] (C39 (a1.2.getD (tN ((bL (a1.1,a1.2) a2).getD (tN v3) dF).1) dF) (a1.2.getD (tN ((bL (a1.1,a1.2) a2).getD (tN v3) dF).2.1) dF))])
    cases h2:(((yJ (a1.2.getD (tN ((bL (a1.1,a1.2) a2).getD (tN v3) dF).1) dF) (a1.2.getD (tN ((bL (a1.1,a1.2) a2).getD (tN v3) dF).2.1) dF)).2:Int) != 0) with
    | true =>
     have q2:=bne_iff_ne.1 h2
     try have hbf:=oD (l:=a0) (t:=a1) (sep:=a2) hi.2.1 (j:=v3) hi.1 h0
     have e:=Eq.refl (aS a0 a1 a2 a3 (v2,v3));conv at e=>rhs;simp only [aS,h0,h1,h2,aX]
     rw [aQ,e]
     exact rt (t2++[.d h2]) [.cell 4 0 1,.cell 4 1 8,.cell 4 2 3,.cell 4 3 1] [14,15,16,17] hcx (by kernel_rfl)
    | false =>
     have q2:=bne_eq_false_iff_eq.1 h2
     try have hbf:=oD (l:=a0) (t:=a1) (sep:=a2) hi.2.1 (j:=v3) hi.1 h0
     have e:=Eq.refl (aS a0 a1 a2 a3 (v2,v3));conv at e=>rhs;simp only [aS,h0,h1,h2,aX]
     rw [aB e]
     refine ba (t2++[.d h2,.p (show((k2 (yJ (a1.2.getD (tN ((bL (a1.1,a1.2) a2).getD (tN v3) dF).1) dF) (a1.2.getD (tN ((bL (a1.1,a1.2) a2).getD (tN v3) dF).2.1) dF)).1)).length=1*2 from by first | (simp [eV dU];done) | rfl),.p (show((flat fX v2).length=v2.length*1/\v2.length+1<=2 ^ 40/\(v2.length+1)*24<=2 ^ 47) from jW oE (by omega) (by omega))]) [] [0,3,5,8,11,44,45,46] [3,4,5,6,7,8,17] hcx (m:=n) qX (qY) (nF a0 a1 a2 a3 (flat fX v2++[(.d (flat eL ([(yJ (a1.2.getD (tN ((bL (a1.1,a1.2) a2).getD (tN v3) dF).1) dF) (a1.2.getD (tN ((bL (a1.1,a1.2) a2).getD (tN v3) dF).2.1) dF)).1]:List (Int×Int))) ([(yJ (a1.2.getD (tN ((bL (a1.1,a1.2) a2).getD (tN v3) dF).1) dF) (a1.2.getD (tN ((bL (a1.1,a1.2) a2).getD (tN v3) dF).2.1) dF)).1]:List (Int×Int)).length 2)]) (v2.length+1) (W (v3+1))) (by kernel_rfl) ?_
     have z0:(W (v3+1))=(v3+1):=aH (by omega) (by omega)
     have z1:(flat fX v2++[(.d (flat eL ([(yJ (a1.2.getD (tN ((bL (a1.1,a1.2) a2).getD (tN v3) dF).1) dF) (a1.2.getD (tN ((bL (a1.1,a1.2) a2).getD (tN v3) dF).2.1) dF)).1]:List (Int×Int))) ([(yJ (a1.2.getD (tN ((bL (a1.1,a1.2) a2).getD (tN v3) dF).1) dF) (a1.2.getD (tN ((bL (a1.1,a1.2) a2).getD (tN v3) dF).2.1) dF)).1]:List (Int×Int)).length 2)])=(flat fX (v2++[([(yJ (a1.2.getD (tN ((bL (a1.1,a1.2) a2).getD (tN v3) dF).1) dF) (a1.2.getD (tN ((bL (a1.1,a1.2) a2).getD (tN v3) dF).2.1) dF)).1]:List (Int×Int))])):=(cJ (c:=fX) (l:=v2) (m:=[([(yJ (a1.2.getD (tN ((bL (a1.1,a1.2) a2).getD (tN v3) dF).1) dF) (a1.2.getD (tN ((bL (a1.1,a1.2) a2).getD (tN v3) dF).2.1) dF)).1]:List (Int×Int))])).symm
     have z2:(v2.length+1)=(v2++[([(yJ (a1.2.getD (tN ((bL (a1.1,a1.2) a2).getD (tN v3) dF).1) dF) (a1.2.getD (tN ((bL (a1.1,a1.2) a2).getD (tN v3) dF).2.1) dF)).1]:List (Int×Int))]).length:=jD v2 [([(yJ (a1.2.getD (tN ((bL (a1.1,a1.2) a2).getD (tN v3) dF).1) dF) (a1.2.getD (tN ((bL (a1.1,a1.2) a2).getD (tN v3) dF).2.1) dF)).1]:List (Int×Int))] rfl
     rw [z0,z1,z2]
     exact ih (v2++[([(yJ (a1.2.getD (tN ((bL (a1.1,a1.2) a2).getD (tN v3) dF).1) dF) (a1.2.getD (tN ((bL (a1.1,a1.2) a2).getD (tN v3) dF).2.1) dF)).1]:List (Int×Int))]) (v3+1) (by(repeat' apply And.intro)<;>(try simp only [Ls])<;>first | omega | assumption | exact hd.2.2.2.1.part _ _ | exact hi.2.2.2.2.2.2.2.1 | exact hi.2.2.2.2.2.2.2.2.2.2.2.2.1) (by(try simp only [Ls]);omega)
   | false =>
    try have hbf:=oD (l:=a0) (t:=a1) (sep:=a2) hi.2.1 (j:=v3) hi.1 h0
    have e:=Eq.refl (aS a0 a1 a2 a3 (v2,v3));conv at e=>rhs;simp only [aS,h0,h1,aX]
    rw [aQ,e]
    refine en (t1++[.d h1,.S aW (a1.1) ((a1.2.getD (tN ((bL (a1.1,a1.2) a2).getD (tN v3) dF).1) dF).1) ((a1.2.getD (tN ((bL (a1.1,a1.2) a2).getD (tN v3) dF).1) dF).2.1) (a1.1.length)]) [.slot 16 2] [0,3,5,8,11,15,16,44,45,46,84,85,86] [3,4,5,12,14,6,13,7,8,9] hcx zJ (zK n) (uR a0 a1 a2 a3 (flat eL ([]:List (Int×Int))) 0 (flat c3 (Aw.part (a1.1) ((a1.2.getD (tN ((bL (a1.1,a1.2) a2).getD (tN v3) dF).1) dF).1) ((a1.2.getD (tN ((bL (a1.1,a1.2) a2).getD (tN v3) dF).1) dF).2.1))) (tN (a1.2.getD (tN ((bL (a1.1,a1.2) a2).getD (tN v3) dF).1) dF).2.1 - tN (a1.2.getD (tN ((bL (a1.1,a1.2) a2).getD (tN v3) dF).1) dF).1) (flat fX v2) (v2.length) v3 (((tN (a1.2.getD (tN ((bL (a1.1,a1.2) a2).getD (tN v3) dF).1) dF).2.1 - tN (a1.2.getD (tN ((bL (a1.1,a1.2) a2).getD (tN v3) dF).1) dF).1):Nat):Int) 0 ((a1.2.getD (tN ((bL (a1.1,a1.2) a2).getD (tN v3) dF).2.1) dF).1) ((a1.2.getD (tN ((bL (a1.1,a1.2) a2).getD (tN v3) dF).2.1) dF).2.1) ((a1.2.getD (tN ((bL (a1.1,a1.2) a2).getD (tN v3) dF).2.1) dF).2.2.1) ((a1.2.getD (tN ((bL (a1.1,a1.2) a2).getD (tN v3) dF).2.1) dF).2.2.2.1) ((a1.2.getD (tN ((bL (a1.1,a1.2) a2).getD (tN v3) dF).2.1) dF).2.2.2.2.1.1) ((a1.2.getD (tN ((bL (a1.1,a1.2) a2).getD (tN v3) dF).2.1) dF).2.2.2.2.1.2.1) ((a1.2.getD (tN ((bL (a1.1,a1.2) a2).getD (tN v3) dF).2.1) dF).2.2.2.2.1.2.2) ((a1.2.getD (tN ((bL (a1.1,a1.2) a2).getD (tN v3) dF).2.1) dF).2.2.2.2.2)) (tN ((((tN (a1.2.getD (tN ((bL (a1.1,a1.2) a2).getD (tN v3) dF).1) dF).2.1 - tN (a1.2.getD (tN ((bL (a1.1,a1.2) a2).getD (tN v3) dF).1) dF).1):Nat):Int) - 0)+1) (by kernel_rfl) ?_
    have z0:(tN (a1.2.getD (tN ((bL (a1.1,a1.2) a2).getD (tN v3) dF).1) dF).2.1 - tN (a1.2.getD (tN ((bL (a1.1,a1.2) a2).getD (tN v3) dF).1) dF).1)=(Aw.part (a1.1) ((a1.2.getD (tN ((bL (a1.1,a1.2) a2).getD (tN v3) dF).1) dF).1) ((a1.2.getD (tN ((bL (a1.1,a1.2) a2).getD (tN v3) dF).1) dF).2.1)).length:=(part_len (by omega)).symm
    rw [z0]
    exact aTo a0 a1 a2 a3 l0 l1_1 l1_2 hcx n ih (tN (((((Aw.part (a1.1) ((a1.2.getD (tN ((bL (a1.1,a1.2) a2).getD (tN v3) dF).1) dF).1) ((a1.2.getD (tN ((bL (a1.1,a1.2) a2).getD (tN v3) dF).1) dF).2.1)).length):Nat):Int) - 0)+1) ([]:List (Int×Int)) (Aw.part (a1.1) ((a1.2.getD (tN ((bL (a1.1,a1.2) a2).getD (tN v3) dF).1) dF).1) ((a1.2.getD (tN ((bL (a1.1,a1.2) a2).getD (tN v3) dF).1) dF).2.1)) v2 v3 ((((Aw.part (a1.1) ((a1.2.getD (tN ((bL (a1.1,a1.2) a2).getD (tN v3) dF).1) dF).1) ((a1.2.getD (tN ((bL (a1.1,a1.2) a2).getD (tN v3) dF).1) dF).2.1)).length):Nat):Int) 0 ((a1.2.getD (tN ((bL (a1.1,a1.2) a2).getD (tN v3) dF).2.1) dF).1) ((a1.2.getD (tN ((bL (a1.1,a1.2) a2).getD (tN v3) dF).2.1) dF).2.1) ((a1.2.getD (tN ((bL (a1.1,a1.2) a2).getD (tN v3) dF).2.1) dF).2.2.1) ((a1.2.getD (tN ((bL (a1.1,a1.2) a2).getD (tN v3) dF).2.1) dF).2.2.2.1) ((a1.2.getD (tN ((bL (a1.1,a1.2) a2).getD (tN v3) dF).2.1) dF).2.2.2.2.1.1) ((a1.2.getD (tN ((bL (a1.1,a1.2) a2).getD (tN v3) dF).2.1) dF).2.2.2.2.1.2.1) ((a1.2.getD (tN ((bL (a1.1,a1.2) a2).getD (tN v3) dF).2.1) dF).2.2.2.2.1.2.2) ((a1.2.getD (tN ((bL (a1.1,a1.2) a2).getD (tN v3) dF).2.1) dF).2.2.2.2.2) (by(repeat' apply And.intro)<;>(try simp only [Ls])<;>first | omega | assumption | exact hd.2.2.2.1.part _ _ | exact hi.2.2.2.2.2.2.2.1 | exact hi.2.2.2.2.2.2.2.2.2.2.2.2.1) (by(try simp only [Ls]);omega)
  | false =>
   have q0:=eC h0
   try have hbf:=oD (l:=a0) (t:=a1) (sep:=a2) hi.2.1 (j:=v3) hi.1 h0
   have e:=Eq.refl (aS a0 a1 a2 a3 (v2,v3));conv at e=>rhs;simp only [aS,h0,aX]
   rw [aQ,e]
   exact rt [.d h0] [] [7,8,6,9] hcx (by kernel_rfl)
def aL (a0:bK)(a1:List Int×bB)(a2:Int)(a3:Int):((List Int×bB)×(List (Int×Int×Bool))×List (List (Int×Int)))×Int :=
 (bif (((dP a0 (a1.1,a1.2) a2):Int) != 0) then
  (((([]:List Int),([]:bB)),([]:List (Int×Int×Bool)),([]:List (List (Int×Int)))),(dP a0 (a1.1,a1.2) a2))
 else
  (bif (!(nY a3 0 2)) then
   (((([]:List Int),([]:bB)),([]:List (Int×Int×Bool)),([]:List (List (Int×Int)))),1)
  else
   (aA (aS a0 a1 a2 a3) (tN ((((bL (a1.1,a1.2) a2).length:Nat):Int) - 0)+1) (([]:List (List (Int×Int))),0))))
theorem bAj (a0:bK)(a1:List Int×bB)(a2:Int)(a3:Int)(l0:a0.length<=2^63-1)(l1_1:a1.1.length<=2^63-1)(l1_2:a1.2.length<=2^63-1) [h5:dR a0]:Con Tryz.prog 10 [(.s 0 0 a0.length 10),(.a [(.s 1 0 a1.1.length 1),(.s 2 0 a1.2.length 8)]),(iv a2),(iv a3)] [(.live false true (flat gB a0)),(.live false true (flat c3 a1.1)),(.live false true (flat dO a1.2))] (.t [(.a [(.s 3 0 (aL a0 a1 a2 a3).1.1.1.length 1),(.s 4 0 (aL a0 a1 a2 a3).1.1.2.length 8),(.s 5 0 (aL a0 a1 a2 a3).1.2.1.length 3),(.s 6 0 (aL a0 a1 a2 a3).1.2.2.length 1)]),(iv (aL a0 a1 a2 a3).2)]) [(.live true true (flat c3 (aL a0 a1 a2 a3).1.1.1)),(.live true true (flat dO (aL a0 a1 a2 a3).1.1.2)),(.live true true (flat jV (aL a0 a1 a2 a3).1.2.1)),(.live true true (flat fX (aL a0 a1 a2 a3).1.2.2))]:=by
 refine aT Tryz.func10 (by kernel_rfl) fun cx hcx=>?_
 try have hd:=iF (l:=a0) (t:=a1) (sep:=a2) (bne_eq_false_iff_eq.1 h0)
 let t0:List (St Tryz.prog):=[.c [0,1,2] (bAb a0 (a1.1,a1.2) a2 (by omega) (by(try simp only [Lt]);omega) (by(try simp only [Lt]);omega))]
 cases h0:(((dP a0 (a1.1,a1.2) a2):Int) != 0) with
 | true =>
  have q0:=bne_iff_ne.1 h0
  try have hd:=iF (l:=a0) (t:=a1) (sep:=a2) (bne_eq_false_iff_eq.1 h0)
  have e:=Eq.refl (aL a0 a1 a2 a3);conv at e=>rhs;simp only [aL,h0,aX]
  rw [e]
  exact rt (t0++[.d h0]) [.cell 4 0 1,.cell 4 1 8,.cell 4 2 3,.cell 4 3 1] [5,6,7,8] hcx (by kernel_rfl)
 | false =>
  have q0:=bne_eq_false_iff_eq.1 h0
  try have hd:=iF (l:=a0) (t:=a1) (sep:=a2) (bne_eq_false_iff_eq.1 h0)
  let t1:List (St Tryz.prog):=(t0++[.d h0,.c [] (C34 a3 0 2)])
  cases h1:(!(nY a3 0 2)) with
  | true =>
   try have hd:=iF (l:=a0) (t:=a1) (sep:=a2) (bne_eq_false_iff_eq.1 h0)
   have e:=Eq.refl (aL a0 a1 a2 a3);conv at e=>rhs;simp only [aL,h0,h1,aX]
   rw [e]
   exact rt (t1++[.d h1]) [.cell 4 0 1,.cell 4 1 8,.cell 4 2 3,.cell 4 3 1] [5,6,7,8] hcx (by kernel_rfl)
  | false =>
   try have hd:=iF (l:=a0) (t:=a1) (sep:=a2) (bne_eq_false_iff_eq.1 h0)
   have e:=Eq.refl (aL a0 a1 a2 a3);conv at e=>rhs;simp only [aL,h0,h1,aX]
   rw [e]
   refine en (t1++[.d h1,.c [1,2] (C37 (a1.1,a1.2) (by(try simp only [Lt]);omega) (by(try simp only [Lt]);omega) (by(try simp only [Lt]);omega)),.c [1,2] (C38 (a1.1,a1.2) a2 (by(try simp only [Lt]);omega) (by(try simp only [Lt]);omega) (fun q=>aL8 (uP (l:=a0) (t:=(a1.1,a1.2)) (sep:=a2) (bne_eq_false_iff_eq.1 h0)) q))]) [.cell 8 3 1] [0,3,5,8,11,44,45,46] [3,4,8,7,5,6,9] hcx qX (qY) (nF a0 a1 a2 a3 (flat fX ([]:List (List (Int×Int)))) 0 0) (tN ((((bL (a1.1,a1.2) a2).length:Nat):Int) - 0)+1) (by kernel_rfl) ?_
   exact aTp a0 a1 a2 a3 l0 l1_1 l1_2 hcx (tN ((((bL (a1.1,a1.2) a2).length:Nat):Int) - 0)+1) ([]:List (List (Int×Int))) 0 (by(repeat' apply And.intro)<;>(try simp only [Ls])<;>first | omega | assumption | exact hd.2.2.2.1.part _ _ | exact hi.2.2.2.2.2.2.2.1 | exact hi.2.2.2.2.2.2.2.2.2.2.2.2.1) (by(try simp only [Ls]);omega)
abbrev lH:=Int×Int
abbrev BK5:=Int×Int×Bool
def eY {α σ R:Type} (f:σ->α->σ⊕R):List α->σ->σ⊕R
 | [],v=>.inl v
 | c::l,v=>match f v c with
  | .inl v'=>eY f l v'
  | .inr r=>.inr r
theorem aKf {α σ T R E:Type} [Inhabited R] (pk:σ->Int->T) {S:T->T⊕R} (f:σ->α->σ⊕E)(G:σ->R)(K:E->R) {L:List α}
 (hS:∀(i:Nat) (c:α),L[i]? = some c->∀v,S (pk v (i:Int))=match f v c with | .inl v'=>.inl (pk v' ((i+1:Nat):Int)) | .inr e=>.inr (K e))
 (hE:∀v,S (pk v (L.length:Int))=.inr (G v)) :
 ∀(k:List α) (i n:Nat) (v:σ),L.drop i=k->i<=L.length->k.length < n->aA S n (pk v (i:Int))=Sum.elim G K (eY f k v):=by
 intro k
 induction k with
 | nil =>
  intro i n v hd hi hn
  have:i=L.length:=by have:=List.drop_eq_nil_iff.1 hd;omega
  obtain⟨n,rfl⟩:∃m,n=m+1:=⟨n - 1,by simp only [List.length_nil] at hn;omega⟩
  subst this
  rw [aG (hE v)];rfl
 | cons c k ih =>
  intro i n v hd hi hn
  obtain⟨n,rfl⟩:∃m,n=m+1:=⟨n - 1,by simp only [List.length_cons] at hn;omega⟩
  have hc:L[i]? = some c:=by
   have h:=congrArg List.head? hd
   rw [List.head?_drop,List.head?_cons] at h;exact h
  have hlt:=(List.getElem?_eq_some_iff.1 hc).1
  have hs:=hS i c hc v
  simp only [eY]
  cases hf:f v c with
  | inl v' =>
   rw [hf] at hs
   rw [aB hs]
   exact ih (i+1) n v' (by rw [←List.drop_drop,hd];rfl) (by omega) (by simp only [List.length_cons] at hn;omega)
  | inr e =>
   rw [hf] at hs
   rw [aG hs];rfl
theorem wX {α σ T R E:Type} [Inhabited R] (pk:σ->Int->T) {S:T->T⊕R} (f:σ->α->σ⊕E)(G:σ->R)(K:E->R) {L:List α} {n:Nat} {v:σ}
 (hS:∀(i:Nat) (c:α),L[i]? = some c->∀v,S (pk v (i:Int))=match f v c with | .inl v'=>.inl (pk v' ((i+1:Nat):Int)) | .inr e=>.inr (K e))
 (hE:∀v,S (pk v (L.length:Int))=.inr (G v)) (hn:L.length < n):aA S n (pk v 0)=Sum.elim G K (eY f L v) :=
 aKf pk f G K hS hE L 0 n v rfl (Nat.zero_le _) hn
noncomputable def btw (l:cN)(d i k:Int):lH×Int:=F53 (l.getD (tN i) dF).1 (l.getD (tN k) dF).1 d
noncomputable def yW (l:cN)(d:Int)(ks:List Int)(v:List lH)(i:Int):List lH⊕Int:=eY (fun v k=>bif ((btw l d i k).2 != 0) then .inr (btw l d i k).2 else .inl (v++[(btw l d i k).1])) ks v
noncomputable def aFn (l:cN)(d:Int)(is ks:List Int)(v:List lH):List lH⊕Int:=eY (yW l d ks) is v
noncomputable def kD (l:cN)(t:TR)(d:Int)(b:BK5):List lH⊕Int :=
 bif b.2.2 then(bif ((fsV (t.2.getD (tN b.1) dF) (t.2.getD (tN b.2.1) dF)).2 != 0) then .inr (fsV (t.2.getD (tN b.1) dF) (t.2.getD (tN b.2.1) dF)).2 else .inl [(fsV (t.2.getD (tN b.1) dF) (t.2.getD (tN b.2.1) dF)).1])
 else aFn l d (Aw.part t.1 (t.2.getD (tN b.1) dF).1 (t.2.getD (tN b.1) dF).2.1) (Aw.part t.1 (t.2.getD (tN b.2.1) dF).1 (t.2.getD (tN b.2.1) dF).2.1) []
noncomputable def aKg (l:cN)(t:TR)(d:Int)(bs:List BK5):List (List lH)⊕Int:=eY (fun out b=>match kD l t d b with | .inl r=>.inl (out++[r]) | .inr e=>.inr e) bs []
theorem uS {α:Type} [Inhabited α] {L:List α} {i:Nat} {c:α} (h:L[i]? = some c):L.getD (tN (i:Int)) dF=c:=by
 rw [fW,cY,h];rfl
section
variable {l : cN} {t : TR} {sep d : Int}
theorem bCc (Q P:List Int)(out:List (List lH))(i b n1 a x0 x1 x2 x3 x4 x5 x6 x7:Int)(v:List lH)(n:Nat)(hn:Q.length < n) :
 aA (dQ l t sep d) n (v,P,Q,out,i,b,n1,a,(Q.length:Int),0,x0,x1,x2,x3,x4,x5,x6,x7) =
  Sum.elim (fun v'=>.inl (v',P,out,b,n1,a+1,x0,x1,x2,x3,x4,x5,x6,x7)) (fun e=>.inr (.inr (((([]:List Int),[]),[],[]),e))) (yW l d Q v i):=by
 refine(wX (S:=dQ l t sep d) (fun(v:List lH) j=>(v,P,Q,out,i,b,n1,a,(Q.length:Int),j,x0,x1,x2,x3,x4,x5,x6,x7)) (fun v k=>bif ((btw l d i k).2 != 0) then .inr (btw l d i k).2 else .inl (v++[(btw l d i k).1])) (fun v'=>.inl (v',P,out,b,n1,a+1,x0,x1,x2,x3,x4,x5,x6,x7)) (fun e=>.inr (.inr (((([]:List Int),[]),[],[]),e))) (L:=Q) ?_ ?_ hn)
 ·intro j c hc v
  have hlt:=(List.getElem?_eq_some_iff.1 hc).1
  simp only [dQ,aBf]
  rw [bQ (by omega),cond_true,uS hc]
  unfold btw
  cases ((F53 (l.getD (tN i) dF).1 (l.getD (tN c) dF).1 d).2 != 0)<;>rfl
 ·intro v
  simp only [dQ]
  rw [cG (by omega),cond_false]
theorem bCd (P:List Int)(out:List (List lH))(b x0 x1 x2 x3 x4 x5 x6 x7:Int)(hx:0<=x0/\x0<=x1/\x1<=t.1.length)(v:List lH)(n:Nat)(hn:P.length < n) :
 aA (bM l t sep d) n (v,P,out,b,(P.length:Int),0,x0,x1,x2,x3,x4,x5,x6,x7) =
  Sum.elim (fun v'=>.inl (out++[v'],b+1)) (fun e=>.inr (((([]:List Int),[]),[],[]),e)) (aFn l d P (Aw.part t.1 x0 x1) v):=by
 refine(wX (S:=bM l t sep d) (fun(v:List lH) j=>(v,P,out,b,(P.length:Int),j,x0,x1,x2,x3,x4,x5,x6,x7)) (yW l d (Aw.part t.1 x0 x1)) (fun v'=>.inl (out++[v'],b+1)) (fun e=>.inr (((([]:List Int),[]),[],[]),e)) (L:=P) ?_ ?_ hn)
 ·intro j c hc v
  have hlt:=(List.getElem?_eq_some_iff.1 hc).1
  have hl:=Aw.part_len hx
  simp only [bM]
  rw [bQ (by omega),cond_true,uS hc,←hl]
  rw [bCc (Aw.part t.1 x0 x1) P out c b _ (j:Int) x0 x1 x2 x3 x4 x5 x6 x7 v _ (by omega)]
  cases yW l d (Aw.part t.1 x0 x1) v c<;>rfl
 ·intro v
  simp only [bM]
  rw [cG (by omega),cond_false]
theorem bCe [dR l] (h:dP l t sep=0):aA (aS l t sep d) (tN ((((bL (t.1,t.2) sep).length:Nat):Int) - 0)+1) (([]:List (List (Int×Int))),0) =
 Sum.elim (fun out=>((F37 t,bL t sep,out),0)) (fun e=>(((([]:List Int),[]),[],[]),e)) (aKg l t d (bL t sep)):=by
 refine(wX (S:=aS l t sep d) (fun(out:List (List lH)) j=>(out,j)) (fun out b=>match kD l t d b with | .inl r=>.inl (out++[r]) | .inr e=>.inr e) (fun out=>((F37 t,bL t sep,out),0)) (fun e=>(((([]:List Int),[]),[],[]),e)) (L:=bL t sep) ?_ ?_ (by show _ < tN ((((bL t sep).length:Nat):Int) - 0)+1;omega))
 ·intro j c hc out
  have hlt:=(List.getElem?_eq_some_iff.1 hc).1
  have hbf:=aKe h (j:=(j:Int)) (by omega) (by omega)
  rw [uS hc] at hbf
  obtain⟨_,_,hb3,hb4⟩:=hbf
  have hl:=Aw.part_len hb3
  simp only [aS,bCb]
  rw [show((t.1,t.2):TR)=t from rfl,bQ (by omega),cond_true,uS hc]
  unfold kD
  cases c.2.2 with
  | true =>
   simp only [cond_true]
   cases ((fsV (t.2.getD (tN c.1) dF) (t.2.getD (tN c.2.1) dF)).2 != 0)<;>rfl
  | false =>
   simp only [cond_false]
   rw [←hl,bCd _ out (j:Int) _ _ _ _ _ _ _ _ hb4 [] _ (by omega)]
   cases aFn l d (Aw.part t.1 (t.2.getD (tN c.1) dF).1 (t.2.getD (tN c.1) dF).2.1) (Aw.part t.1 (t.2.getD (tN c.2.1) dF).1 (t.2.getD (tN c.2.1) dF).2.1) []<;>rfl
 ·intro out
  simp only [aS]
  rw [show((t.1,t.2):TR)=t from rfl,cG (by omega),cond_false]
end
end Go.Proofs.YtlckcjfbjnjfhaaGreat
namespace Go.Proofs.YtlckcjfbjnjfhaaGreat
open Go.Proofs Go.Aw Go.RowKit
set_option maxRecDepth 100000
section
variable {l : cN} {t : TR} {sep d : Int}
end
abbrev OPT:=(TR×List BK5×List (List lH))×Int
noncomputable def aCy (l:cN)(t:TR)(sep d:Int):Bool×OPT :=
 bif ((dP l t sep:Int) != 0) then(true,((([],[]),[],[]),dP l t sep))
 else bif (!nY d 0 2) then(true,((([],[]),[],[]),1))
 else match aKg l t d (bL t sep) with
  | .inl out=>(false,((t,bL t sep,out),0))
  | .inr e=>(true,((([],[]),[],[]),e))
theorem aQz (l:cN) [dR l] (t:TR)(sep d:Int):aL l t sep d=(aCy l t sep d).2:=by
 unfold aL aCy
 rw [show((t.1,t.2):TR)=t from rfl]
 cases h0:((dP l t sep:Int) != 0) with
 | true=>rfl
 | false =>
  simp only [cond_false]
  cases nY d 0 2 with
  | false=>rfl
  | true =>
   simp only [Bool.not_true,cond_false]
   rw [show aA (aS l t sep d) (tN ((((bL t sep).length:Nat):Int) - 0)+1) (([]:List (List (Int×Int))),0)=_ from bCe (bne_eq_false_iff_eq.1 h0)]
   cases aKg l t d (bL t sep)<;>rfl
theorem aMe (l:cN)(d i:Int):∀(ks:List Int) (v v':List lH),yW l d ks v i=.inl v'->v'.length<=v.length+ks.length
 | [],v,v',h=>by
  unfold yW eY at h
  cases h;simp
 | k::ks,v,v',h=>by
  unfold yW at h
  simp only [eY] at h
  cases hb:((btw l d i k).2 != 0) with
  | true=>rw [hb,cond_true] at h;cases h
  | false =>
   rw [hb,cond_false] at h
   have:=aMe l d i ks (v++[(btw l d i k).1]) v' h
   simp only [List.length_append,List.length_cons,List.length_nil] at this ⊢
   omega
theorem aHw (l:cN)(d:Int)(ks:List Int)(hk:ks.length<=96):∀(is:List Int) (v v':List lH),aFn l d is ks v=.inl v'->v'.length<=v.length+96*is.length
 | [],v,v',h=>by
  unfold aFn eY at h
  cases h;simp
 | i::is,v,v',h=>by
  unfold aFn at h
  simp only [eY] at h
  cases hb:yW l d ks v i with
  | inr e=>rw [hb] at h;cases h
  | inl w =>
   rw [hb] at h
   have h1:=aMe l d i ks v w hb
   have h2:=aHw l d ks hk is w v' h
   simp only [List.length_cons]
   omega
theorem aMf (l:cN)(t:TR)(d:Int)(ht:t.1.length<=96):∀(bs:List BK5) (out out':List (List lH)),(∀r∈out,r.length<=10000)->eY (fun out b=>match kD l t d b with | .inl r=>.inl (out++[r]) | .inr e=>.inr e) bs out=(.inl out':List (List lH)⊕Int)->∀r∈out',r.length<=10000
 | [],out,out',ho,h=>by
  unfold eY at h
  cases h;exact ho
 | b::bs,out,out',ho,h=>by
  simp only [eY] at h
  cases hb:kD l t d b with
  | inr e=>rw [hb] at h;cases h
  | inl w =>
   rw [hb] at h
   refine aMf l t d ht bs (out++[w]) out' (fun r hr=>?_) h
   rcases List.mem_append.1 hr with hr | hr
   ·exact ho r hr
   ·obtain rfl:=List.mem_singleton.1 hr
    unfold kD at hb
    cases hf:b.2.2 with
    | true =>
     rw [hf,cond_true] at hb
     cases he:((fsV (t.2.getD (tN b.1) dF) (t.2.getD (tN b.2.1) dF)).2 != 0) with
     | true=>rw [he,cond_true] at hb;cases hb
     | false=>rw [he,cond_false] at hb;cases hb;simp
    | false =>
     rw [hf,cond_false] at hb
     have hp:∀a c:Int,(Aw.part t.1 a c).length<=96:=fun a c=>by
      unfold Aw.part
      rw [List.length_take,List.length_drop];omega
     have:=aHw l d _ (hp _ _) _ _ _ hb
     have:=hp (t.2.getD (tN b.1) dF).1 (t.2.getD (tN b.1) dF).2.1
     simp only [List.length_nil] at *
     omega
theorem aNw (l:cN) [dR l] (t:TR)(sep d:Int):∀r∈(aCy l t sep d).2.1.2.2,r.length<=10000:=by
 unfold aCy
 cases h0:((dP l t sep:Int) != 0) with
 | true=>intro r hr;simp at hr
 | false =>
  cases nY d 0 2 with
  | false=>intro r hr;simp at hr
  | true =>
   simp only [Bool.not_true,cond_false]
   cases ha:aKg l t d (bL t sep) with
   | inr e=>intro r hr;simp at hr
   | inl out =>
    have hd:=uQ (bne_eq_false_iff_eq.1 h0)
    exact aMf l t d (by omega) _ [] out (fun r hr=>by cases hr) ha
theorem aUz (l:cN) [dR l] (t:TR)(sep d:Int)(j:Nat):((aL l t sep d).1.2.2.getD j dF).length<=10000:=by
 by_cases h:j < (aL l t sep d).1.2.2.length
 ·rw [cY,List.getElem?_eq_getElem h,Option.getD_some]
  have hm:=List.getElem_mem h
  generalize (aL l t sep d).1.2.2[j]=r at *
  rw [aQz] at hm
  exact aNw l t sep d r hm
 ·rw [cY,List.getElem?_eq_none (by omega)]
  exact Nat.zero_le _
theorem aHx (l:cN)(t:TR)(d:Int):∀(bs:List BK5) (out out':List (List lH)),eY (fun out b=>match kD l t d b with | .inl r=>.inl (out++[r]) | .inr e=>.inr e) bs out=(.inl out':List (List lH)⊕Int)->out'.length=out.length+bs.length
 | [],out,out',h=>by
  unfold eY at h
  cases h;simp
 | b::bs,out,out',h=>by
  simp only [eY] at h
  cases hb:kD l t d b with
  | inr e=>rw [hb] at h;cases h
  | inl w =>
   rw [hb] at h
   have:=aHx l t d bs (out++[w]) out' h
   simp only [List.length_append,List.length_cons,List.length_nil] at this ⊢
   omega
theorem aQ0 (l:cN) [dR l] (t:TR)(sep d:Int)(h1:t.1.length<=96)(h2:t.2.length<=192):(aCy l t sep d).2.1.1.1.length<=9216/\(aCy l t sep d).2.1.1.2.length<=9216/\(aCy l t sep d).2.1.2.1.length<=9216/\(aCy l t sep d).2.1.2.2.length<=9216:=by
 unfold aCy
 cases h0:((dP l t sep:Int) != 0) with
 | true=>exact⟨Nat.zero_le _,Nat.zero_le _,Nat.zero_le _,Nat.zero_le _⟩
 | false =>
  cases nY d 0 2 with
  | false=>exact⟨Nat.zero_le _,Nat.zero_le _,Nat.zero_le _,Nat.zero_le _⟩
  | true =>
   simp only [Bool.not_true,cond_false]
   cases ha:aKg l t d (bL t sep) with
   | inr e=>exact⟨Nat.zero_le _,Nat.zero_le _,Nat.zero_le _,Nat.zero_le _⟩
   | inl out =>
    have hd:=uQ (bne_eq_false_iff_eq.1 h0)
    have:=aHx l t d _ [] out ha
    simp only [List.length_nil] at this
    simp only
    omega
theorem hG (l:cN) [dR l] (t:TR)(sep d:Int)(h1:t.1.length<=96)(h2:t.2.length<=192):(aL l t sep d).1.1.1.length<=9216/\(aL l t sep d).1.1.2.length<=9216/\(aL l t sep d).1.2.1.length<=9216/\(aL l t sep d).1.2.2.length<=9216:=by rw [aQz];exact aQ0 l t sep d h1 h2
end Go.Proofs.YtlckcjfbjnjfhaaGreat
