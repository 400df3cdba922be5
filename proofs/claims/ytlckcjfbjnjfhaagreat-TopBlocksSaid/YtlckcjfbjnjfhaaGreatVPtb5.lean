/-
  Parts of the proofs of the laws: the executor, what functions of the program compute, and that it is what the statements ask. No premise.
-/
import Derived.Test.YtlckcjfbjnjfhaaGreatVPtb4
set_option linter.unusedVariables false
set_option linter.unusedSimpArgs false
set_option maxHeartbeats 4000000
open Int renaming toNat → tN
open Inhabited renaming default → dF
namespace Go.Proofs.YtlckcjfbjnjfhaaGreat
open Go.Proofs Go.Aw Go.RowKit
set_option maxRecDepth 100000
theorem aV3 (a b:TR):F79 a b=F20 a b:=by
 have e1:kN a.1 b.1=mZ a.1 b.1:=rfl
 unfold F79 F20
 rw [e1]
 cases mZ a.1 b.1<;>rfl
theorem aAy {S:Int->Int⊕Bool} {N:Nat} {p:Nat->Prop} (h1:∀i:Nat,i < N->(S (i:Int)=.inl ((i+1:Nat):Int)/\p i)\/S (i:Int)=.inr false):∀(d i n:Nat),d=N - i->i<=N->d < n->aA S n (i:Int)=true->∀j,i<=j->j < N->p j
 | 0,i,n,hd,hi,hn,_,j,h1,h2=>absurd h2 (by omega)
 | d+1,i,n,hd,hi,hn,h,j,g1,g2=>by
  obtain⟨n,rfl⟩:∃m,n=m+1:=⟨n - 1,by omega⟩
  rcases h1 i (by omega) with⟨e,hp⟩ | e
  ·rw [aB e] at h
   by_cases hj:j=i
   ·rw [hj];exact hp
   ·exact aAy h1 d (i+1) n (by omega) (by omega) (by omega) h j (by omega) g2
  ·rw [aC e] at h;cases h
theorem aC7 {α:Type} [Inhabited α] {a b:List α} (h:a.length=b.length)(h2:∀j,j < a.length->a.getD j dF=b.getD j dF):a=b:=by
 refine List.ext_getElem h fun i h3 h4=>?_
 have:=h2 i h3
 rw [cV,cV,List.getElem?_eq_getElem h3,List.getElem?_eq_getElem h4] at this
 exact this
theorem aV4 {a b:List Int} (h:mZ a b=true):a=b:=by
 unfold mZ at h
 by_cases hl:a.length=b.length
 ·rw [show(((a.length:Int):Int) != (b.length:Int))=false by rw [hl];simp,cond_false] at h
  refine aC7 hl (aAy (N:=a.length) (p:=fun j=>a.getD j dF=b.getD j dF) (fun i hi=>?_) a.length 0 _ (by omega) (by omega) (by omega) h · (Nat.zero_le _) ·)
  simp only [rZ,eX]
  rw [bG (show((i:Nat):Int) < (a.length:Nat) by omega),cond_true]
  cases e:((a.getD i dF:Int) != b.getD i dF) with
  | true=>exact .inr rfl
  | false=>exact .inl ⟨rfl,bne_eq_false_iff_eq.1 e⟩
 ·rw [show(((a.length:Int):Int) != (b.length:Int))=true by rw [bne_iff_ne];omega,cond_true] at h
  cases h
theorem aSx {a b:TR} (h:F20 a b=true):a=b:=by
 unfold F20 at h
 cases h1:mZ a.1 b.1 with
 | false=>rw [h1] at h;cases h
 | true =>
  rw [h1,Bool.not_true,cond_false] at h
  by_cases hl:a.2.length=b.2.length
  ·rw [show(((a.2.length:Int):Int) != (b.2.length:Int))=false by rw [hl];simp,cond_false] at h
   refine Prod.ext (aV4 h1) (aC7 hl (aAy (N:=a.2.length) (p:=fun j=>a.2.getD j dF=b.2.getD j dF) (fun i hi=>?_) a.2.length 0 _ (by omega) (by omega) (by omega) h · (Nat.zero_le _) ·))
   simp only [aNt,eX]
   rw [bG (show((i:Nat):Int) < (a.2.length:Nat) by omega),cond_true]
   generalize a.2.getD i dF=x
   generalize b.2.getD i dF=y
   obtain⟨x1,x2,x3,x4,⟨x5,x6,x7⟩,x8⟩:=x
   obtain⟨y1,y2,y3,y4,⟨y5,y6,y7⟩,y8⟩:=y
   dsimp only
   rw [Bool.cond_eq_ite]
   split
   ·exact .inr rfl
   ·rename_i hq
    refine .inl ⟨rfl,?_⟩
    simp at hq ⊢
    omega
  ·rw [show(((a.2.length:Int):Int) != (b.2.length:Int))=true by rw [bne_iff_ne];omega,cond_true] at h
   cases h
theorem aJb {l:bR} [bL l] {t:TR} (hv:sR l):∀(n:Nat) (v:Int),1<=v->aA (jB l t) n v=aA (eW l t) n v
 | 0,_,_=>rfl
 | n+1,v,h=>by
  have e:jB l t v=eW l t v:=by
   simp only [jB,eW,aV3,aLq l hv h,aC5 l hv.1 h]
  have h2:(eW l t v=.inl (v+1))\/(∃r,eW l t v=.inr r):=by
   simp only [eW]
   rw [Bool.cond_eq_ite]
   split
   ·rw [Bool.cond_eq_ite]
    split
    ·exact .inr ⟨_,rfl⟩
    ·exact .inl rfl
   ·exact .inr ⟨_,rfl⟩
  rcases h2 with h2 | ⟨r,h2⟩
  ·rw [aB (e.trans h2),aB h2];exact aJb hv n (v+1) (by omega)
  ·rw [aC (e.trans h2),aC h2]
theorem lZ (l:bR) [bL l] (t:TR):fC l t=eG l t:=by
 unfold fC eG
 rw [nO]
 cases h:((oE l:Int) != 0) with
 | true=>rfl
 | false=>exact aJb (aC4 (by rw [nO];exact bne_eq_false_iff_eq.1 h)) _ 1 (Int.le_refl _)
theorem mA {l:bR} {t:TR} (h:eG l t=0):sR l/\∃leaf:Int,1<=leaf/\leaf<=16/\t=BT l leaf:=by
 unfold eG at h
 cases h0:((oE l:Int) != 0) with
 | true=>rw [h0,cond_true] at h;rw [h] at h0;cases h0
 | false =>
  rw [h0,cond_false] at h
  have hv:=aC4 (l:=l) (by rw [nO];exact bne_eq_false_iff_eq.1 h0)
  refine⟨hv,?_⟩
  have lp:∀(n:Nat) (v:Int),1<=v->tN (17 - v) < n->aA (eW l t) n v=0->∃leaf:Int,1<=leaf/\leaf<=16/\t=BT l leaf:=by
   intro n
   induction n with
   | zero=>intro _ _ h;exact absurd h (fO _)
   | succ n ih =>
    intro v h1 h2 h3
    by_cases hv16:v<=16
    ·cases hs:F20 (t.1,t.2) ((vV l v).1,(vV l v).2) with
     | true =>
      have:=aSx hs
      exact⟨v,h1,hv16,by rw [←aC5 l hv.1 h1];exact this⟩
     | false =>
      have e:eW l t v=.inl (v+1):=by
       simp only [eW]
       rw [bG hv16,cond_true,hs,cond_false]
      rw [aB e] at h3
      exact ih (v+1) (by omega) (by omega) h3
    ·have e:eW l t v=.inr 1:=by
      simp only [eW]
      rw [cC hv16,cond_false]
     rw [aC e] at h3
     exact absurd h3 (by decide)
  exact lp _ 1 (Int.le_refl _) (by omega) h
structure NOK (fr m a k:Int) (x:NDE):Prop where
 c1:fr<=x.1
 c2:x.1 < x.2.1
 c3:x.2.1<=fr+m
 c4:(x.2.2.1=-1/\x.2.2.2.1=-1)\/(a < x.2.2.1/\x.2.2.1 < a+k/\a < x.2.2.2.1/\x.2.2.2.1 < a+k)
theorem aX4 (l:bR)(leaf:Int)(n:Nat)(ns:List Int)(fr a:Int):1<=(GT l leaf (n+1) ns fr a).2.length:=by
 by_cases h0:(ns.length:Int)<=leaf
 ·rw [iZ h0];simp
 ·rw [jA h0];simp
theorem aSy (l:bR) {leaf:Int} (hl:1<=leaf):∀(n:Nat) (ns:List Int) (fr a:Int),ns.length < n->1<=ns.length->∀x∈(GT l leaf n ns fr a).2,NOK fr ns.length a (GT l leaf n ns fr a).2.length x
 | 0,_,_,_,h,_=>absurd h (fO _)
 | n+1,ns,fr,a,h,h1=>by
  by_cases h0:(ns.length:Int)<=leaf
  ·rw [iZ h0]
   intro x hx
   rw [List.mem_singleton.1 hx]
   exact⟨Int.le_refl _,by unfold zW;dsimp only;omega,by unfold zW;exact Int.le_refl _,.inl ⟨rfl,rfl⟩⟩
  ·rw [jA h0]
   have hsl:=jY l (aG l ns) ns
   obtain⟨n,rfl⟩:∃k,n=k+1:=⟨n - 1,by omega⟩
   have g1:=aSy l hl (n+1) ((mM l (aG l ns) ns).take ((ns.length+1) / 2)) fr (a+1) (by rw [List.length_take,hsl];omega) (by rw [List.length_take,hsl];omega)
   have g2:=aSy l hl (n+1) ((mM l (aG l ns) ns).drop ((ns.length+1) / 2)) (fr+((ns.length+1) / 2:Nat)) (a+1+(GT l leaf (n+1) ((mM l (aG l ns) ns).take ((ns.length+1) / 2)) fr (a+1)).2.length) (by rw [List.length_drop,hsl];omega) (by rw [List.length_drop,hsl];omega)
   have k1:=aX4 l leaf n ((mM l (aG l ns) ns).take ((ns.length+1) / 2)) fr (a+1)
   have k2:=aX4 l leaf n ((mM l (aG l ns) ns).drop ((ns.length+1) / 2)) (fr+((ns.length+1) / 2:Nat)) (a+1+(GT l leaf (n+1) ((mM l (aG l ns) ns).take ((ns.length+1) / 2)) fr (a+1)).2.length)
   rw [List.length_take,hsl] at g1
   rw [List.length_drop,hsl] at g2
   generalize GT l leaf (n+1) ((mM l (aG l ns) ns).take ((ns.length+1) / 2)) fr (a+1)=A at g1 g2 k1 k2 ⊢
   generalize GT l leaf (n+1) ((mM l (aG l ns) ns).drop ((ns.length+1) / 2)) (fr+((ns.length+1) / 2:Nat)) (a+1+A.2.length)=B at g2 k2 ⊢
   intro x hx
   simp only [List.length_cons,List.length_append,Int.natCast_add,Int.natCast_one]
   rcases List.mem_cons.1 hx with rfl | hx
   ·exact⟨Int.le_refl _,by unfold zW;dsimp only;omega,by unfold zW;exact Int.le_refl _,.inr ⟨by unfold zW;dsimp only;omega,by unfold zW;dsimp only;omega,by unfold zW;dsimp only;omega,by unfold zW;dsimp only;omega⟩⟩
   ·rcases List.mem_append.1 hx with hx | hx
    ·obtain⟨c1,c2,c3,c4⟩:=g1 x hx
     exact⟨c1,c2,by omega,by rcases c4 with c4 | c4;exact .inl c4;exact .inr (by omega)⟩
    ·obtain⟨c1,c2,c3,c4⟩:=g2 x hx
     exact⟨by omega,c2,by omega,by rcases c4 with c4 | c4;exact .inl c4;exact .inr (by omega)⟩
theorem bDe (l:bR) {leaf:Int} (hl:1<=leaf):∀x∈(BT l leaf).2,NOK 0 l.length 0 (BT l leaf).2.length x:=by
 unfold BT
 by_cases h0:l.length=0
 ·rw [if_pos h0];intro x hx;cases hx
 ·rw [if_neg h0]
  have:=aSy l hl (l.length+1) (jF l.length) 0 0 (by rw [dA];omega) (by rw [dA];omega)
  rw [dA] at this
  exact this
end Go.Proofs.YtlckcjfbjnjfhaaGreat
namespace Go.Proofs.YtlckcjfbjnjfhaaGreat
open Go.Proofs Go.Aw Go.RowKit
set_option maxRecDepth 100000
inductive TRE (N:List NDE):Nat->Nat->Int->Int->Int->Prop where
 | leaf {a:Nat} {f t:Int}:a < N.length->f < t->(N.getD a dF).1=f->(N.getD a dF).2.1=t->(N.getD a dF).2.2.1=-1->(N.getD a dF).2.2.2.1=-1->TRE N a 1 f t 1
 | node {a m1 m2:Nat} {f c t h1 h2:Int}:a < N.length->(N.getD a dF).1=f->(N.getD a dF).2.1=t->(N.getD a dF).2.2.1=((a+1:Nat):Int)->(N.getD a dF).2.2.2.1=((a+1+m1:Nat):Int)->TRE N (a+1) m1 f c h1->TRE N (a+1+m1) m2 c t h2->TRE N a (m1+m2+1) f t (1+eY h1 h2)
theorem bFj (a b:Int):a<=eY a b/\b<=eY a b/\(eY a b=a\/eY a b=b):=by unfold eY;split<;>omega
theorem cJ {N:List NDE} {a m:Nat} {f t h:Int} (H:TRE N a m f t h):a+m<=N.length/\1<=m/\f < t/\1<=h/\h<=m/\(N.getD a dF).1=f/\(N.getD a dF).2.1=t:=by
 induction H with
 | leaf h1 h2 h3 h4 _ _=>exact⟨by omega,Nat.le_refl _,h2,Int.le_refl _,Int.le_refl _,h3,h4⟩
 | node g1 g2 g3 g4 g5 _ _ i1 i2 =>
  rename_i h1 h2 _ _
  have:=bFj h1 h2
  exact⟨by omega,by omega,by omega,by omega,by omega,g2,g3⟩
theorem aP0 {α:Type} [Inhabited α] {x y:List α} {j:Nat} (h:j < x.length):(x++y).getD j dF=x.getD j dF:=by
 rw [cV,cV,List.getElem?_append_left h]
theorem aP1 {α:Type} [Inhabited α] {x y:List α} {j:Nat}:(x++y).getD (x.length+j) dF=y.getD j dF:=by
 rw [cV,cV,List.getElem?_append_right (by omega),Nat.add_sub_cancel_left]
theorem aLx (l:bR) {leaf:Int} (hl:1<=leaf):∀(n:Nat) (ns:List Int) (fr:Int) (a:Nat) (N:List NDE),ns.length < n->1<=ns.length->a+(GT l leaf n ns fr a).2.length<=N.length ->
 (∀j,j < (GT l leaf n ns fr a).2.length->N.getD (a+j) dF=(GT l leaf n ns fr a).2.getD j dF)->∃h,TRE N a (GT l leaf n ns fr a).2.length fr (fr+ns.length) h
 | 0,_,_,_,_,h,_=>absurd h (fO _)
 | n+1,ns,fr,a,N,h,h1=>by
  by_cases h0:(ns.length:Int)<=leaf
  ·rw [iZ h0]
   intro g1 g2
   have e:=g2 0 (by simp)
   rw [Nat.add_zero] at e
   have e':N.getD a dF=zW l ns fr (-1) (-1):=e
   exact⟨1,TRE.leaf (by simp only [List.length_singleton] at g1;omega) (by omega) (by rw [e'];rfl) (by rw [e'];rfl) (by rw [e'];rfl) (by rw [e'];rfl)⟩
  ·rw [jA h0]
   have hsl:=jY l (aG l ns) ns
   have ea:((a:Nat):Int)+1=((a+1:Nat):Int):=by omega
   rw [ea]
   have c1:=aLx l hl n ((mM l (aG l ns) ns).take ((ns.length+1) / 2)) fr (a+1) N (by rw [List.length_take,hsl];omega) (by rw [List.length_take,hsl];omega)
   have c2:=aLx l hl n ((mM l (aG l ns) ns).drop ((ns.length+1) / 2)) (fr+((ns.length+1) / 2:Nat)) (a+1+(GT l leaf n ((mM l (aG l ns) ns).take ((ns.length+1) / 2)) fr ((a+1:Nat):Int)).2.length) N (by rw [List.length_drop,hsl];omega) (by rw [List.length_drop,hsl];omega)
   rw [List.length_take,hsl] at c1
   rw [List.length_drop,hsl] at c2
   rw [show(((a+1:Nat):Int)+(((GT l leaf n ((mM l (aG l ns) ns).take ((ns.length+1) / 2)) fr ((a+1:Nat):Int)).2.length:Nat):Int))=((a+1+(GT l leaf n ((mM l (aG l ns) ns).take ((ns.length+1) / 2)) fr ((a+1:Nat):Int)).2.length:Nat):Int) by omega]
   generalize GT l leaf n ((mM l (aG l ns) ns).take ((ns.length+1) / 2)) fr ((a+1:Nat):Int)=A at c1 c2 ⊢
   generalize GT l leaf n ((mM l (aG l ns) ns).drop ((ns.length+1) / 2)) (fr+((ns.length+1) / 2:Nat)) ((a+1+A.2.length:Nat):Int)=B at c2 ⊢
   intro g1 g2
   simp only [List.length_cons,List.length_append] at g1 g2 ⊢
   have e':N.getD a dF=zW l ns fr ((a+1:Nat):Int) ((a+1+A.2.length:Nat):Int):=g2 0 (by omega)
   obtain⟨x1,d1⟩:=c1 (by omega) (fun j hj=>by
    have:=g2 (j+1) (by omega)
    rw [List.getD_cons_succ,aP0 hj] at this
    rw [←this];congr 1;omega)
   obtain⟨x2,d2⟩:=c2 (by omega) (fun j hj=>by
    have:=g2 (A.2.length+j+1) (by omega)
    rw [List.getD_cons_succ,aP1] at this
    rw [←this];congr 1;omega)
   rw [show fr+((min ((ns.length+1) / 2) ns.length:Nat):Int)=fr+(((ns.length+1) / 2:Nat):Int) by omega] at d1
   rw [show fr+(((ns.length+1) / 2:Nat):Int)+((ns.length - (ns.length+1) / 2:Nat):Int)=fr+(ns.length:Int) by omega] at d2
   exact⟨_,TRE.node (by omega) (by rw [e'];rfl) (by rw [e'];rfl) (by rw [e'];rfl) (by rw [e'];rfl) d1 d2⟩
theorem aGt (l:bR) {leaf:Int} (hl:1<=leaf):(l.length=0/\BT l leaf=([],[]))\/∃h,TRE (BT l leaf).2 0 (BT l leaf).2.length 0 l.length h:=by
 unfold BT
 by_cases h0:l.length=0
 ·rw [if_pos h0];exact .inl ⟨h0,rfl⟩
 ·rw [if_neg h0]
  have:=aLx l hl (l.length+1) (jF l.length) 0 0 (GT l leaf (l.length+1) (jF l.length) 0 ((0:Nat):Int)).2 (by rw [dA];omega) (by rw [dA];omega) (by omega) (fun j _=>by rw [Nat.zero_add])
  rw [dA,Int.zero_add] at this
  exact .inr this
theorem bFk {α:Type} [Inhabited α] {D:List α} {i:Nat} {x:α} (h:i < D.length):(D.set i x).getD i dF=x:=by
 rw [cV,List.getElem?_set_self h];rfl
theorem bFl {α:Type} [Inhabited α] {D:List α} {i j:Nat} {x:α} (h:i≠j):(D.set i x).getD j dF=D.getD j dF:=by
 rw [cV,cV,List.getElem?_set_ne h]
theorem iB {N:List NDE} {a m:Nat} {f u h:Int} (H:TRE N a m f u h):(m=1/\h=1/\(N.getD a dF).2.2.1=-1/\(N.getD a dF).2.2.2.1=-1) \/
 ∃(m1 m2:Nat) (c h1 h2:Int),m=m1+m2+1/\(N.getD a dF).2.2.1=((a+1:Nat):Int)/\(N.getD a dF).2.2.2.1=((a+1+m1:Nat):Int)/\TRE N (a+1) m1 f c h1/\TRE N (a+1+m1) m2 c u h2/\h=1+eY h1 h2:=by
 cases H with
 | leaf h1 h2 h3 h4 h5 h6=>exact .inl ⟨rfl,rfl,h5,h6⟩
 | node g1 g2 g3 g4 g5 b1 b2=>exact .inr ⟨_,_,_,_,_,rfl,g4,g5,b1,b2,rfl⟩
def dR (a0:bE)(a1:List Int×aY)(a2:Int):Int :=
 (bif (((fC a0 (a1.1,a1.2)):Int) != 0) then
  (fC a0 (a1.1,a1.2))
 else
  (bif (!(kM a2 1 16)) then
   1
  else
   0))
theorem bDf (a0:bE)(a1:List Int×aY)(a2:Int)(l0:a0.length<=2^63-1)(l1_1:a1.1.length<=2^63-1)(l1_2:a1.2.length<=2^63-1) [h5:bL a0]:Con Tryz.prog 36 [(.s 0 0 a0.length 10),(.a [(.s 1 0 a1.1.length 1),(.s 2 0 a1.2.length 8)]),(iv a2)] [(.live false true (flat fK a0)),(.live false true (flat c3 a1.1)),(.live false true (flat dM a1.2))] (iv (dR a0 a1 a2)) []:=by
 refine aU Tryz.func36 (by kernel_rfl) fun cx hcx=>?_
 let t0:List (St Tryz.prog):=[.c [0,1,2] (aSw a0 (a1.1,a1.2) (by omega) (by(try simp only [Lt]);omega) (by(try simp only [Lt]);omega))]
 cases h0:(((fC a0 (a1.1,a1.2)):Int) != 0) with
 | true =>
  have q0:=bne_iff_ne.1 h0
  have e:=Eq.refl (dR a0 a1 a2);conv at e=>rhs;simp only [dR,h0,aW]
  rw [e]
  exact rt (t0++[.d h0]) [] [] hcx (by kernel_rfl)
 | false =>
  have q0:=bne_eq_false_iff_eq.1 h0
  let t1:List (St Tryz.prog):=(t0++[.d h0,.c [] (C34 a2 1 16)])
  cases h1:(!(kM a2 1 16)) with
  | true =>
   have e:=Eq.refl (dR a0 a1 a2);conv at e=>rhs;simp only [dR,h0,h1,aW]
   rw [e]
   exact rt (t1++[.d h1]) [] [] hcx (by kernel_rfl)
  | false =>
   have e:=Eq.refl (dR a0 a1 a2);conv at e=>rhs;simp only [dR,h0,h1,aW]
   rw [e]
   exact rt (t1++[.d h1]) [] [] hcx (by kernel_rfl)
def aLy (t:TR):Prop:=t.1.length<=1048576/\t.2.length<=1048576/\∀i:Nat,i < t.2.length->0<=(t.2.getD i dF).1/\(t.2.getD i dF).1 < (t.2.getD i dF).2.1/\(t.2.getD i dF).2.1<=t.1.length
theorem aV5 (l:bR)(hl:l.length<=96) {leaf:Int} (h1:1<=leaf):aLy (BT l leaf):=by
 have hb:=yD l hl h1
 refine⟨by omega,by omega,fun i hi=>?_⟩
 have:=bDe l h1 _ (List.getElem_mem hi)
 rw [cV,List.getElem?_eq_getElem hi]
 simp only [Option.getD_some]
 obtain⟨c1,c2,c3,_⟩:=this
 omega
def F65 (a0:Zt)(a1:Zt):Zt :=
 ((W (a0.1 - a1.1)),(W (a0.2.1 - a1.2.1)),(W (a0.2.2 - a1.2.2)))
theorem C65 (a0:Zt)(a1:Zt):Con Tryz.prog 65 [(.a (k3 a0)),(.a (k3 a1))] [] (.a (k3 (F65 a0 a1))) []:=by
 refine aU Tryz.func65 (by kernel_rfl) fun cx hcx=>?_
 have e:=Eq.refl (F65 a0 a1);conv at e=>rhs;simp only [F65]
 rw [e]
 exact rt [] [] [] hcx (by kernel_rfl)
def vW (a0:Zt):Int :=
 (W ((W ((W (a0.1*a0.1))+(W (a0.2.1*a0.2.1))))+(W (a0.2.2*a0.2.2))))
theorem C64 (a0:Zt):Con Tryz.prog 64 [(.a (k3 a0))] [] (iv (vW a0)) []:=by
 refine aU Tryz.func64 (by kernel_rfl) fun cx hcx=>?_
 have e:=Eq.refl (vW a0);conv at e=>rhs;simp only [vW]
 rw [e]
 exact rt [] [] [] hcx (by kernel_rfl)
section
variable {t : TR} {x : Zt} {sep : Int} {a : Nat} {far pan : List Int} {d : Int}
end
end Go.Proofs.YtlckcjfbjnjfhaaGreat
namespace Go.Proofs.YtlckcjfbjnjfhaaGreat
open Go.Proofs Go.Aw Go.RowKit
set_option maxRecDepth 100000
theorem aAz (l:bR) {leaf:Int} (hl:1<=leaf):∀(n:Nat) (ns:List Int) (fr a:Int),ns.length < n->(GT l leaf n ns fr a).1.Perm ns
 | 0,_,_,_,h=>absurd h (fO _)
 | n+1,ns,fr,a,h=>by
  by_cases h0:(ns.length:Int)<=leaf
  ·rw [iZ h0]
  ·rw [jA h0]
   have hsl:=jY l (aG l ns) ns
   refine((aAz l hl n _ _ _ (by rw [List.length_take,hsl];omega)).append (aAz l hl n _ _ _ (by rw [List.length_drop,hsl];omega))).trans ?_
   rw [List.take_append_drop]
   exact List.mergeSort_perm ns _
theorem aNz (l:bR) {leaf:Int} (hl:1<=leaf):(BT l leaf).1.Perm (jF l.length):=by
 unfold BT
 by_cases h0:l.length=0
 ·rw [if_pos h0,h0];exact List.Perm.refl _
 ·rw [if_neg h0];exact aAz l hl _ _ _ _ (by rw [dA];omega)
def inc (D:List Int)(j:Int):List Int:=D.set (tN j) (W (D.getD (tN j) dF+1))
theorem aA0 (D:List Int)(j:Int):(inc D j).length=D.length:=List.length_set
abbrev BLK:=Int×Int×Bool
structure PVB (i k:Int) (t:TR) (out:List BLK):Prop where
 e0:0<=i
 e1:0<=k
 e2:t.2.length<=1048576
 e3:∃(m:Nat) (f u h:Int) (m':Nat) (f' u' h':Int),TRE t.2 (tN i) m f u h/\TRE t.2 (tN k) m' f' u' h'/\out.length+(u - f)*(u' - f')<=1048576
theorem pK {a b:Int} (ha:1<=a)(hb:1<=b):1<=a*b:=by
 have:=Int.mul_le_mul ha hb (by omega) (by omega)
 omega
theorem aC8 {i k:Int} {t:TR} {out:List BLK} (h:PVB i k t out):i < t.2.length/\k < t.2.length/\out.length+1<=1048576:=by
 obtain⟨e0,e1,e2,m,f,u,hh,m',f',u',hh',e3,e4,e5⟩:=h
 have h1:=cJ e3
 have h2:=cJ e4
 have h3:=pK (a:=u - f) (b:=u' - f') (by omega) (by omega)
 omega
theorem aGu (a b c w:Int):(c - a)*w+(b - c)*w=(b - a)*w:=by
 rw [←Int.add_mul,show c - a+(b - c)=b - a by omega]
theorem aC9 (a b c w:Int):w*(c - a)+w*(b - c)=w*(b - a):=by
 rw [←Int.mul_add,show c - a+(b - c)=b - a by omega]
def iT (x:Int×Int×Bool):List SV:=[(iv x.1),(iv x.2.1),(.v (.bool x.2.2))]
theorem pL (x:Int×Int×Bool):(iT x).length=3:=rfl
def tI (a0:Int)(a1:Int)(a2:List Int×aY)(a3:Int)(a4:List (Int×Int×Bool)):=(F65 (a2.2.getD (tN a0) dF).2.2.2.2.1 (a2.2.getD (tN a1) dF).2.2.2.2.1)
def tJ (rr:(Int)->(Int)->(List Int×aY)->(Int)->(List (Int×Int×Bool))->List (Int×Int×Bool))(a0:Int)(a1:Int)(a2:List Int×aY)(a3:Int)(a4:List (Int×Int×Bool)):=(rr (a2.2.getD (tN a0) dF).2.2.1 a1 (a2.1,a2.2) a3 a4)
def aJc (rr:(Int)->(Int)->(List Int×aY)->(Int)->(List (Int×Int×Bool))->List (Int×Int×Bool))(a0:Int)(a1:Int)(a2:List Int×aY)(a3:Int)(a4:List (Int×Int×Bool)):=(rr (a2.2.getD (tN a0) dF).2.2.2.1 a1 (a2.1,a2.2) a3 (tJ (rr) a0 a1 a2 a3 a4))
def tK (rr:(Int)->(Int)->(List Int×aY)->(Int)->(List (Int×Int×Bool))->List (Int×Int×Bool))(a0:Int)(a1:Int)(a2:List Int×aY)(a3:Int)(a4:List (Int×Int×Bool)):=(rr a0 (a2.2.getD (tN a1) dF).2.2.1 (a2.1,a2.2) a3 a4)
def aJd (rr:(Int)->(Int)->(List Int×aY)->(Int)->(List (Int×Int×Bool))->List (Int×Int×Bool))(a0:Int)(a1:Int)(a2:List Int×aY)(a3:Int)(a4:List (Int×Int×Bool)):=(rr a0 (a2.2.getD (tN a1) dF).2.2.2.1 (a2.1,a2.2) a3 (tK (rr) a0 a1 a2 a3 a4))
noncomputable def aLz:Code:=(bO [1,1,1,0,1,0] [] (aI Tryz.f63)).1
noncomputable def aL0:List K:=(bO [1,1,1,0,1,0] [] (aI Tryz.f63)).2
def aGv (nr:Nat)(a0:Int)(a1:Int)(a2:List Int×aY)(a3:Int)(a4:List (Int×Int×Bool))(v2:Bool):LS:=⟨jH 105 [(0,(iv a0)),(1,(iv a1)),(4,(.p 4 0)),(11,(.v (.bool v2)))],[(.live false false [(.s 1 0 a2.1.length 1),(.s 2 0 a2.2.length 8)]),(.live false true (flat c3 a2.1)),(.live false true (flat dM a2.2)),(.live false false [(iv a3)]),(.live true false [(.s 5 0 a4.length 3)]),(.live true true (flat iT a4)),(.live false false [(.f 63 [(.p 0 0),(.p 3 0),(.p 4 0),(.p 6 0)])])]⟩
def nP (rr:(Int)->(Int)->(List Int×aY)->(Int)->(List (Int×Int×Bool))->List (Int×Int×Bool))(a0:Int)(a1:Int)(a2:List Int×aY)(a3:Int)(a4:List (Int×Int×Bool)):Bool->List (Int×Int×Bool)
 | v2 =>
  (a4++[(a0,a1,v2)])
noncomputable def aL1:Code:=(bO [1,1,1,0,1,1,0] [] (aI Tryz.f63)).1
noncomputable def aL2:List K:=(bO [1,1,1,0,1,1,0] [] (aI Tryz.f63)).2
def aGw (nr:Nat)(a0:Int)(a1:Int)(a2:List Int×aY)(a3:Int)(a4:List (Int×Int×Bool)):LS:=⟨jH 105 [(0,(iv a0)),(1,(iv a1)),(5,(.p 6 0)),(8,(.p 7 0)),(9,(.p 8 0))],[(.live false false [(.s 1 0 a2.1.length 1),(.s 2 0 a2.2.length 8)]),(.live false true (flat c3 a2.1)),(.live false true (flat dM a2.2)),(.live false false [(iv a3)]),(.live true false [(.s 5 0 a4.length 3)]),(.live true true (flat iT a4)),(.live false false [(.f 63 [(.p 0 0),(.p 3 0),(.p 4 0),(.p 6 0)])]),(.live true false [(iv (a2.2.getD (tN a0) dF).1),(iv (a2.2.getD (tN a0) dF).2.1),(iv (a2.2.getD (tN a0) dF).2.2.1),(iv (a2.2.getD (tN a0) dF).2.2.2.1),(iv (a2.2.getD (tN a0) dF).2.2.2.2.1.1),(iv (a2.2.getD (tN a0) dF).2.2.2.2.1.2.1),(iv (a2.2.getD (tN a0) dF).2.2.2.2.1.2.2),(iv (a2.2.getD (tN a0) dF).2.2.2.2.2)]),(.live true false [(iv (a2.2.getD (tN a1) dF).1),(iv (a2.2.getD (tN a1) dF).2.1),(iv (a2.2.getD (tN a1) dF).2.2.1),(iv (a2.2.getD (tN a1) dF).2.2.2.1),(iv (a2.2.getD (tN a1) dF).2.2.2.2.1.1),(iv (a2.2.getD (tN a1) dF).2.2.2.2.1.2.1),(iv (a2.2.getD (tN a1) dF).2.2.2.2.1.2.2),(iv (a2.2.getD (tN a1) dF).2.2.2.2.2)])]⟩
def gQ (rr:(Int)->(Int)->(List Int×aY)->(Int)->(List (Int×Int×Bool))->List (Int×Int×Bool))(a0:Int)(a1:Int)(a2:List Int×aY)(a3:Int)(a4:List (Int×Int×Bool)):Unit->List (Int×Int×Bool)
 | () =>
  (bif (decide (((a2.2.getD (tN a1) dF).2.2.1:Int) < 0)) then
   (aJc (rr) a0 a1 a2 a3 a4)
  else
   (bif (decide (((a2.2.getD (tN a0) dF).2.2.1:Int)≥0)) then
    (bif (decide (((W ((a2.2.getD (tN a0) dF).2.1 - (a2.2.getD (tN a0) dF).1)):Int)≥(W ((a2.2.getD (tN a1) dF).2.1 - (a2.2.getD (tN a1) dF).1)))) then
     (aJc (rr) a0 a1 a2 a3 a4)
    else
     (aJd (rr) a0 a1 a2 a3 a4))
   else
    (aJd (rr) a0 a1 a2 a3 a4)))
noncomputable def aL3:Code:=(bO [1,1,1,0,0] [] (aI Tryz.f63)).1
noncomputable def aL4:List K:=(bO [1,1,1,0,0] [] (aI Tryz.f63)).2
def aGx (nr:Nat)(a0:Int)(a1:Int)(a2:List Int×aY)(a3:Int)(a4:List (Int×Int×Bool))(v1:Bool):LS:=⟨jH 105 [(0,(iv a0)),(1,(iv a1)),(4,(.p 4 0)),(5,(.p 6 0)),(8,(.p 7 0)),(9,(.p 8 0)),(11,(.v (.bool v1)))],[(.live false false [(.s 1 0 a2.1.length 1),(.s 2 0 a2.2.length 8)]),(.live false true (flat c3 a2.1)),(.live false true (flat dM a2.2)),(.live false false [(iv a3)]),(.live true false [(.s 5 0 a4.length 3)]),(.live true true (flat iT a4)),(.live false false [(.f 63 [(.p 0 0),(.p 3 0),(.p 4 0),(.p 6 0)])]),(.live true false [(iv (a2.2.getD (tN a0) dF).1),(iv (a2.2.getD (tN a0) dF).2.1),(iv (a2.2.getD (tN a0) dF).2.2.1),(iv (a2.2.getD (tN a0) dF).2.2.2.1),(iv (a2.2.getD (tN a0) dF).2.2.2.2.1.1),(iv (a2.2.getD (tN a0) dF).2.2.2.2.1.2.1),(iv (a2.2.getD (tN a0) dF).2.2.2.2.1.2.2),(iv (a2.2.getD (tN a0) dF).2.2.2.2.2)]),(.live true false [(iv (a2.2.getD (tN a1) dF).1),(iv (a2.2.getD (tN a1) dF).2.1),(iv (a2.2.getD (tN a1) dF).2.2.1),(iv (a2.2.getD (tN a1) dF).2.2.2.1),(iv (a2.2.getD (tN a1) dF).2.2.2.2.1.1),(iv (a2.2.getD (tN a1) dF).2.2.2.2.1.2.1),(iv (a2.2.getD (tN a1) dF).2.2.2.2.1.2.2),(iv (a2.2.getD (tN a1) dF).2.2.2.2.2)])]⟩
def gR (rr:(Int)->(Int)->(List Int×aY)->(Int)->(List (Int×Int×Bool))->List (Int×Int×Bool))(a0:Int)(a1:Int)(a2:List Int×aY)(a3:Int)(a4:List (Int×Int×Bool)):Bool->List (Int×Int×Bool)
 | v1 =>
  (bif v1 then
   (nP rr a0 a1 a2 a3 a4 v1)
  else
   (bif (decide (((a2.2.getD (tN a0) dF).2.2.1:Int) < 0)) then
    (bif (decide (((a2.2.getD (tN a1) dF).2.2.1:Int) < 0)) then
     (nP rr a0 a1 a2 a3 a4 v1)
    else
     (gQ rr a0 a1 a2 a3 a4 ()))
   else
    (gQ rr a0 a1 a2 a3 a4 ())))
def gV:Nat->(Int)->(Int)->(List Int×aY)->(Int)->(List (Int×Int×Bool))->List (Int×Int×Bool)
 | 0,_,_,_,_,_=>dF
 | nr+1,a0,a1,a2,a3,a4 =>
 (bif (decide (((vW (tI a0 a1 a2 a3 a4)):Int) > 0)) then
  (gR (gV nr) a0 a1 a2 a3 a4 (decide (((W ((W ((W ((W ((a2.2.getD (tN a0) dF).2.2.2.2.2+(a2.2.getD (tN a1) dF).2.2.2.2.2))*4))*a3))*a3)):Int)<=(vW (tI a0 a1 a2 a3 a4)))))
 else
  (gR (gV nr) a0 a1 a2 a3 a4 false))
def F63 (a0:Int)(a1:Int)(a2:List Int×aY)(a3:Int)(a4:List (Int×Int×Bool)):List (Int×Int×Bool):=gV (((a2.2.length - tN a0)+(a2.2.length - tN a1))+1) a0 a1 a2 a3 a4
theorem sB:∀(nr:Nat) (i k:Int) (t:TR) (sep:Int) (out:List BLK) (m:Nat) (f u h:Int) (m':Nat) (f' u' h':Int),TRE t.2 (tN i) m f u h->TRE t.2 (tN k) m' f' u' h'->0<=i->0<=k->(t.2.length - tN i)+(t.2.length - tN k) < nr ->
 ((gV nr i k t sep out).length:Int)<=out.length+(u - f)*(u' - f')
 | 0,_,_,_,_,_,_,_,_,_,_,_,_,_,_,_,_,_,h=>absurd h (fO _)
 | nr+1,i,k,t,sep,out,m,f,u,h,m',f',u',h',H,K,hi,hk,hn=>by
  have hb:=cJ H
  have kb:=cJ K
  have hm:=pK (a:=u - f) (b:=u' - f') (by omega) (by omega)
  have hs:∀b:Bool,((out++[(i,k,b)]).length:Int)<=out.length+(u - f)*(u' - f'):=fun b=>by rw [List.length_append,List.length_singleton];omega
  have hA:¬(t.2.getD (tN i) dF).2.2.1 < 0->((aJc (gV nr) i k t sep out).length:Int)<=out.length+(u - f)*(u' - f'):=by
   intro hq
   rcases iB H with⟨_,_,h5,_⟩ | ⟨m1,m2,c,h1,h2,e8,g4,g5,b1,b2,e9⟩
   ·omega
   ·have l1:=cJ b1
    have l2:=cJ b2
    have c1:=sB nr (t.2.getD (tN i) dF).2.2.1 k t sep out m1 f c h1 m' f' u' h' (by rw [g4,eX];exact b1) K (by omega) hk (by omega)
    have c2:=sB nr (t.2.getD (tN i) dF).2.2.2.1 k t sep (tJ (gV nr) i k t sep out) m2 c u h2 m' f' u' h' (by rw [g5,eX];exact b2) K (by omega) hk (by omega)
    have c3:=aGu f u c (u' - f')
    refine Int.le_trans c2 ?_
    have c4:((tJ (gV nr) i k t sep out).length:Int)<=out.length+(c - f)*(u' - f'):=c1
    omega
  have hB:¬(t.2.getD (tN k) dF).2.2.1 < 0->((aJd (gV nr) i k t sep out).length:Int)<=out.length+(u - f)*(u' - f'):=by
   intro hq
   rcases iB K with⟨_,_,h5,_⟩ | ⟨m1,m2,c,h1,h2,e8,g4,g5,b1,b2,e9⟩
   ·omega
   ·have l1:=cJ b1
    have l2:=cJ b2
    have c1:=sB nr i (t.2.getD (tN k) dF).2.2.1 t sep out m f u h m1 f' c h1 H (by rw [g4,eX];exact b1) hi (by omega) (by omega)
    have c2:=sB nr i (t.2.getD (tN k) dF).2.2.2.1 t sep (tK (gV nr) i k t sep out) m f u h m2 c u' h2 H (by rw [g5,eX];exact b2) hi (by omega) (by omega)
    have c3:=aC9 f' u' c (u - f)
    refine Int.le_trans c2 ?_
    have c4:((tK (gV nr) i k t sep out).length:Int)<=out.length+(u - f)*(c - f'):=c1
    omega
  have hJ:0<=(t.2.getD (tN i) dF).2.2.1\/0<=(t.2.getD (tN k) dF).2.2.1->((gQ (gV nr) i k t sep out ()).length:Int)<=out.length+(u - f)*(u' - f'):=by
   intro hq
   simp only [gQ]
   by_cases z1:(t.2.getD (tN k) dF).2.2.1 < 0
   ·rw [bG z1,cond_true];exact hA (by omega)
   ·rw [cC z1,cond_false]
    by_cases z2:(t.2.getD (tN i) dF).2.2.1≥0
    ·rw [bG z2,cond_true,Bool.cond_eq_ite]
     split
     ·exact hA (by omega)
     ·exact hB z1
    ·rw [cC z2,cond_false];exact hB z1
  have h5:∀b:Bool,((gR (gV nr) i k t sep out b).length:Int)<=out.length+(u - f)*(u' - f'):=by
   intro b
   cases b with
   | true=>exact hs true
   | false =>
    simp only [gR,cond_false,nP]
    by_cases z1:(t.2.getD (tN i) dF).2.2.1 < 0
    ·rw [bG z1,cond_true]
     by_cases z2:(t.2.getD (tN k) dF).2.2.1 < 0
     ·rw [bG z2,cond_true];exact hs false
     ·rw [cC z2,cond_false];exact hJ (by omega)
    ·rw [cC z1,cond_false];exact hJ (by omega)
  simp only [gV]
  rw [Bool.cond_eq_ite]
  split
  ·exact h5 _
  ·exact h5 _
theorem bDg {nr:Nat} {i k:Int} {t:TR} {out:List BLK} (sep:Int)(h:PVB i k t out)(hlt:(t.2.length - tN i)+(t.2.length - tN k) < nr+1)(hq:¬(t.2.getD (tN i) dF).2.2.1 < 0) :
 PVB (t.2.getD (tN i) dF).2.2.1 k t out/\PVB (t.2.getD (tN i) dF).2.2.2.1 k t (tJ (gV nr) i k t sep out) /\
 ((t.2.length - tN (t.2.getD (tN i) dF).2.2.1)+(t.2.length - tN k) < nr/\(t.2.length - tN (t.2.getD (tN i) dF).2.2.2.1)+(t.2.length - tN k) < nr)/\(tJ (gV nr) i k t sep out).length<=1048576:=by
 obtain⟨e0,e1,e2,m,f,u,hh,m',f',u',hh',H,K,e5⟩:=h
 have hb:=cJ H
 have kb:=cJ K
 rcases iB H with⟨_,_,h5,_⟩ | ⟨m1,m2,c,h1,h2,e8,g4,g5,b1,b2,e9⟩
 ·omega
 ·have l1:=cJ b1
  have l2:=cJ b2
  have p1:=pK (a:=c - f) (b:=u' - f') (by omega) (by omega)
  have p2:=pK (a:=u - c) (b:=u' - f') (by omega) (by omega)
  have c3:=aGu f u c (u' - f')
  have c1:=sB nr (t.2.getD (tN i) dF).2.2.1 k t sep out m1 f c h1 m' f' u' hh' (by rw [g4,eX];exact b1) K (by omega) e1 (by omega)
  have c4:((tJ (gV nr) i k t sep out).length:Int)<=out.length+(c - f)*(u' - f'):=c1
  exact⟨⟨by omega,e1,e2,m1,f,c,h1,m',f',u',hh',by rw [g4,eX];exact b1,K,by omega⟩,⟨by omega,e1,e2,m2,c,u,h2,m',f',u',hh',by rw [g5,eX];exact b2,K,by omega⟩,⟨by omega,by omega⟩,by omega⟩
theorem bDh {nr:Nat} {i k:Int} {t:TR} {out:List BLK} (sep:Int)(h:PVB i k t out)(hlt:(t.2.length - tN i)+(t.2.length - tN k) < nr+1)(hq:¬(t.2.getD (tN k) dF).2.2.1 < 0) :
 PVB i (t.2.getD (tN k) dF).2.2.1 t out/\PVB i (t.2.getD (tN k) dF).2.2.2.1 t (tK (gV nr) i k t sep out) /\
 ((t.2.length - tN i)+(t.2.length - tN (t.2.getD (tN k) dF).2.2.1) < nr/\(t.2.length - tN i)+(t.2.length - tN (t.2.getD (tN k) dF).2.2.2.1) < nr)/\(tK (gV nr) i k t sep out).length<=1048576:=by
 obtain⟨e0,e1,e2,m,f,u,hh,m',f',u',hh',H,K,e5⟩:=h
 have hb:=cJ H
 have kb:=cJ K
 rcases iB K with⟨_,_,h5,_⟩ | ⟨m1,m2,c,h1,h2,e8,g4,g5,b1,b2,e9⟩
 ·omega
 ·have l1:=cJ b1
  have l2:=cJ b2
  have p1:=pK (a:=u - f) (b:=c - f') (by omega) (by omega)
  have p2:=pK (a:=u - f) (b:=u' - c) (by omega) (by omega)
  have c3:=aC9 f' u' c (u - f)
  have c1:=sB nr i (t.2.getD (tN k) dF).2.2.1 t sep out m f u hh m1 f' c h1 H (by rw [g4,eX];exact b1) e0 (by omega) (by omega)
  have c4:((tK (gV nr) i k t sep out).length:Int)<=out.length+(u - f)*(c - f'):=c1
  exact⟨⟨e0,by omega,e2,m,f,u,hh,m1,f',c,h1,H,by rw [g4,eX];exact b1,by omega⟩,⟨e0,by omega,e2,m,f,u,hh,m2,c,u',h2,H,by rw [g5,eX];exact b2,by omega⟩,⟨by omega,by omega⟩,by omega⟩
theorem aSz (nr:Nat)(a0:Int)(a1:Int)(a2:List Int×aY)(a3:Int)(a4:List (Int×Int×Bool))(l2_1:a2.1.length<=2^63-1)(l2_2:a2.2.length<=2^63-1)(l4:a4.length<=2^63-1)(hp:PVB a0 a1 a2 a4)(hlt:((a2.2.length - tN a0)+(a2.2.length - tN a1)) < nr+1)(ihr:∀(a0:Int)(a1:Int)(a2:List Int×aY)(a3:Int)(a4:List (Int×Int×Bool))(l2_1:a2.1.length<=2^63-1)(l2_2:a2.2.length<=2^63-1)(l4:a4.length<=2^63-1)(hp:PVB a0 a1 a2 a4),((a2.2.length - tN a0)+(a2.2.length - tN a1)) < nr->Con Tryz.prog 63 [(iv a0),(iv a1),(.p 0 0),(.p 3 0),(.p 4 0),(.p 6 0)] [(.live false false [(.s 1 0 a2.1.length 1),(.s 2 0 a2.2.length 8)]),(.live false true (flat c3 a2.1)),(.live false true (flat dM a2.2)),(.live false false [(iv a3)]),(.live true false [(.s 5 0 a4.length 3)]),(.live true true (flat iT a4)),(.live false false [(.f 63 [(.p 0 0),(.p 3 0),(.p 4 0),(.p 6 0)])])] (.t []) [(.live true true (flat iT (gV nr a0 a1 a2 a3 a4)))] [.un,.un,.un,.un,(.live true false [(.s 7 0 (gV nr a0 a1 a2 a3 a4).length 3)]),.dead,.un]) {cx:Cx} (hcx:cx.base=7)(v2:Bool):True->Aw.Good Tryz.prog none 9 (bodyPost Tryz.prog Tryz.f63 (RR cx (.t []) [(.live true true (flat iT (nP (gV nr) a0 a1 a2 a3 a4 v2)))] [.un,.un,.un,.un,(.live true false [(.s 7 0 (nP (gV nr) a0 a1 a2 a3 a4 v2).length 3)]),.dead,.un])) cx [] (.c aLz::aL0) (aGv nr a0 a1 a2 a3 a4 v2):=by
 intro hi
 have hpb:=aC8 hp
 have hp1:=hp.e0
 have hp2:=hp.e1
 have hp3:=hp.e2
 have e:=Eq.refl (nP (gV nr) a0 a1 a2 a3 a4 v2);conv at e=>rhs;simp only [nP]
 rw [e]
 try dsimp only [bB]
 try dsimp only
 rw [show flat iT (a4++[(a0,a1,v2)])=(flat iT a4++[(iv a0),(iv a1),(.v (.bool v2))]) from cW]
 try rw [show List.length (α:=Int×Int×Bool) (a4++[(a0,a1,v2)])=(a4.length+1) from by first | simp;done | omega]
 exact rtn [.p (show((flat iT a4).length=a4.length*3/\a4.length+1<=2 ^ 40/\(a4.length+1)*24<=2 ^ 47) from lQ pL (by omega) (by omega))] [] [4,5] [8] hcx (by kernel_rfl)
theorem aS0 (nr:Nat)(a0:Int)(a1:Int)(a2:List Int×aY)(a3:Int)(a4:List (Int×Int×Bool))(l2_1:a2.1.length<=2^63-1)(l2_2:a2.2.length<=2^63-1)(l4:a4.length<=2^63-1)(hp:PVB a0 a1 a2 a4)(hlt:((a2.2.length - tN a0)+(a2.2.length - tN a1)) < nr+1)(ihr:∀(a0:Int)(a1:Int)(a2:List Int×aY)(a3:Int)(a4:List (Int×Int×Bool))(l2_1:a2.1.length<=2^63-1)(l2_2:a2.2.length<=2^63-1)(l4:a4.length<=2^63-1)(hp:PVB a0 a1 a2 a4),((a2.2.length - tN a0)+(a2.2.length - tN a1)) < nr->Con Tryz.prog 63 [(iv a0),(iv a1),(.p 0 0),(.p 3 0),(.p 4 0),(.p 6 0)] [(.live false false [(.s 1 0 a2.1.length 1),(.s 2 0 a2.2.length 8)]),(.live false true (flat c3 a2.1)),(.live false true (flat dM a2.2)),(.live false false [(iv a3)]),(.live true false [(.s 5 0 a4.length 3)]),(.live true true (flat iT a4)),(.live false false [(.f 63 [(.p 0 0),(.p 3 0),(.p 4 0),(.p 6 0)])])] (.t []) [(.live true true (flat iT (gV nr a0 a1 a2 a3 a4)))] [.un,.un,.un,.un,(.live true false [(.s 7 0 (gV nr a0 a1 a2 a3 a4).length 3)]),.dead,.un]) {cx:Cx} (hcx:cx.base=7):0<=(a2.2.getD (tN a0) dF).2.2.1\/0<=(a2.2.getD (tN a1) dF).2.2.1->Aw.Good Tryz.prog none 9 (bodyPost Tryz.prog Tryz.f63 (RR cx (.t []) [(.live true true (flat iT (gQ (gV nr) a0 a1 a2 a3 a4 ())))] [.un,.un,.un,.un,(.live true false [(.s 7 0 (gQ (gV nr) a0 a1 a2 a3 a4 ()).length 3)]),.dead,.un])) cx [] (.c aL1::aL2) (aGw nr a0 a1 a2 a3 a4):=by
 intro hi
 have hpb:=aC8 hp
 have hp1:=hp.e0
 have hp2:=hp.e1
 have hp3:=hp.e2
 have hA:=bDg a3 hp hlt
 have hB:=bDh a3 hp hlt
 have hAl:=fun q=>(hA q).2.2.2
 have hBl:=fun q=>(hB q).2.2.2
 cases h0:(decide (((a2.2.getD (tN a1) dF).2.2.1:Int) < 0)) with
 | true =>
  have q0:=dL h0
  have e:=Eq.refl (gQ (gV nr) a0 a1 a2 a3 a4 ());conv at e=>rhs;simp only [gQ,h0,aW]
  rw [e]
  try dsimp only [bB]
  try dsimp only
  exact rtn [.d h0,.c [0,1,2,3,4,5,6] (ihr (a2.2.getD (tN a0) dF).2.2.1 a1 (a2.1,a2.2) a3 a4 (by(try simp only [Lt]);omega) (by(try simp only [Lt]);omega) (by omega) (by first | exact(hA (by omega)).1 | exact(hA (by omega)).2.1 | exact(hB (by omega)).1 | exact(hB (by omega)).2.1) (by first | exact(hA (by omega)).2.2.1.1 | exact(hA (by omega)).2.2.1.2 | exact(hB (by omega)).2.2.1.1 | exact(hB (by omega)).2.2.1.2)),.c [0,1,2,3,4,9,6] (ihr (a2.2.getD (tN a0) dF).2.2.2.1 a1 (a2.1,a2.2) a3 (tJ (gV nr) a0 a1 a2 a3 a4) (by(try simp only [Lt]);omega) (by(try simp only [Lt]);omega) (by(try simp only [Lt]);omega) (by first | exact(hA (by omega)).1 | exact(hA (by omega)).2.1 | exact(hB (by omega)).1 | exact(hB (by omega)).2.1) (by first | exact(hA (by omega)).2.2.1.1 | exact(hA (by omega)).2.2.1.2 | exact(hB (by omega)).2.2.1.1 | exact(hB (by omega)).2.2.1.2))] [] [4,5] [10] hcx (by kernel_rfl)
 | false =>
  have q0:=eH h0
  let t1:List (St Tryz.prog):=[.d h0]
  cases h1:(decide (((a2.2.getD (tN a0) dF).2.2.1:Int)≥0)) with
  | true =>
   have q1:=dL h1
   let t2:List (St Tryz.prog):=(t1++[.d h1])
   cases h2:(decide (((W ((a2.2.getD (tN a0) dF).2.1 - (a2.2.getD (tN a0) dF).1)):Int)≥(W ((a2.2.getD (tN a1) dF).2.1 - (a2.2.getD (tN a1) dF).1)))) with
   | true =>
    have q2:=dL h2
    have e:=Eq.refl (gQ (gV nr) a0 a1 a2 a3 a4 ());conv at e=>rhs;simp only [gQ,h0,h1,h2,aW]
    rw [e]
    try dsimp only [bB]
    try dsimp only
    exact rtn (t2++[.d h2,.c [0,1,2,3,4,5,6] (ihr (a2.2.getD (tN a0) dF).2.2.1 a1 (a2.1,a2.2) a3 a4 (by(try simp only [Lt]);omega) (by(try simp only [Lt]);omega) (by omega) (by first | exact(hA (by omega)).1 | exact(hA (by omega)).2.1 | exact(hB (by omega)).1 | exact(hB (by omega)).2.1) (by first | exact(hA (by omega)).2.2.1.1 | exact(hA (by omega)).2.2.1.2 | exact(hB (by omega)).2.2.1.1 | exact(hB (by omega)).2.2.1.2)),.c [0,1,2,3,4,9,6] (ihr (a2.2.getD (tN a0) dF).2.2.2.1 a1 (a2.1,a2.2) a3 (tJ (gV nr) a0 a1 a2 a3 a4) (by(try simp only [Lt]);omega) (by(try simp only [Lt]);omega) (by(try simp only [Lt]);omega) (by first | exact(hA (by omega)).1 | exact(hA (by omega)).2.1 | exact(hB (by omega)).1 | exact(hB (by omega)).2.1) (by first | exact(hA (by omega)).2.2.1.1 | exact(hA (by omega)).2.2.1.2 | exact(hB (by omega)).2.2.1.1 | exact(hB (by omega)).2.2.1.2))]) [] [4,5] [10] hcx (by kernel_rfl)
   | false =>
    have q2:=eH h2
    have e:=Eq.refl (gQ (gV nr) a0 a1 a2 a3 a4 ());conv at e=>rhs;simp only [gQ,h0,h1,h2,aW]
    rw [e]
    try dsimp only [bB]
    try dsimp only
    exact rtn (t2++[.d h2,.c [0,1,2,3,4,5,6] (ihr a0 (a2.2.getD (tN a1) dF).2.2.1 (a2.1,a2.2) a3 a4 (by(try simp only [Lt]);omega) (by(try simp only [Lt]);omega) (by omega) (by first | exact(hA (by omega)).1 | exact(hA (by omega)).2.1 | exact(hB (by omega)).1 | exact(hB (by omega)).2.1) (by first | exact(hA (by omega)).2.2.1.1 | exact(hA (by omega)).2.2.1.2 | exact(hB (by omega)).2.2.1.1 | exact(hB (by omega)).2.2.1.2)),.c [0,1,2,3,4,9,6] (ihr a0 (a2.2.getD (tN a1) dF).2.2.2.1 (a2.1,a2.2) a3 (tK (gV nr) a0 a1 a2 a3 a4) (by(try simp only [Lt]);omega) (by(try simp only [Lt]);omega) (by(try simp only [Lt]);omega) (by first | exact(hA (by omega)).1 | exact(hA (by omega)).2.1 | exact(hB (by omega)).1 | exact(hB (by omega)).2.1) (by first | exact(hA (by omega)).2.2.1.1 | exact(hA (by omega)).2.2.1.2 | exact(hB (by omega)).2.2.1.1 | exact(hB (by omega)).2.2.1.2))]) [] [4,5] [10] hcx (by kernel_rfl)
  | false =>
   have q1:=eH h1
   have e:=Eq.refl (gQ (gV nr) a0 a1 a2 a3 a4 ());conv at e=>rhs;simp only [gQ,h0,h1,aW]
   rw [e]
   try dsimp only [bB]
   try dsimp only
   exact rtn (t1++[.d h1,.c [0,1,2,3,4,5,6] (ihr a0 (a2.2.getD (tN a1) dF).2.2.1 (a2.1,a2.2) a3 a4 (by(try simp only [Lt]);omega) (by(try simp only [Lt]);omega) (by omega) (by first | exact(hA (by omega)).1 | exact(hA (by omega)).2.1 | exact(hB (by omega)).1 | exact(hB (by omega)).2.1) (by first | exact(hA (by omega)).2.2.1.1 | exact(hA (by omega)).2.2.1.2 | exact(hB (by omega)).2.2.1.1 | exact(hB (by omega)).2.2.1.2)),.c [0,1,2,3,4,9,6] (ihr a0 (a2.2.getD (tN a1) dF).2.2.2.1 (a2.1,a2.2) a3 (tK (gV nr) a0 a1 a2 a3 a4) (by(try simp only [Lt]);omega) (by(try simp only [Lt]);omega) (by(try simp only [Lt]);omega) (by first | exact(hA (by omega)).1 | exact(hA (by omega)).2.1 | exact(hB (by omega)).1 | exact(hB (by omega)).2.1) (by first | exact(hA (by omega)).2.2.1.1 | exact(hA (by omega)).2.2.1.2 | exact(hB (by omega)).2.2.1.1 | exact(hB (by omega)).2.2.1.2))]) [] [4,5] [10] hcx (by kernel_rfl)
theorem aS1 (nr:Nat)(a0:Int)(a1:Int)(a2:List Int×aY)(a3:Int)(a4:List (Int×Int×Bool))(l2_1:a2.1.length<=2^63-1)(l2_2:a2.2.length<=2^63-1)(l4:a4.length<=2^63-1)(hp:PVB a0 a1 a2 a4)(hlt:((a2.2.length - tN a0)+(a2.2.length - tN a1)) < nr+1)(ihr:∀(a0:Int)(a1:Int)(a2:List Int×aY)(a3:Int)(a4:List (Int×Int×Bool))(l2_1:a2.1.length<=2^63-1)(l2_2:a2.2.length<=2^63-1)(l4:a4.length<=2^63-1)(hp:PVB a0 a1 a2 a4),((a2.2.length - tN a0)+(a2.2.length - tN a1)) < nr->Con Tryz.prog 63 [(iv a0),(iv a1),(.p 0 0),(.p 3 0),(.p 4 0),(.p 6 0)] [(.live false false [(.s 1 0 a2.1.length 1),(.s 2 0 a2.2.length 8)]),(.live false true (flat c3 a2.1)),(.live false true (flat dM a2.2)),(.live false false [(iv a3)]),(.live true false [(.s 5 0 a4.length 3)]),(.live true true (flat iT a4)),(.live false false [(.f 63 [(.p 0 0),(.p 3 0),(.p 4 0),(.p 6 0)])])] (.t []) [(.live true true (flat iT (gV nr a0 a1 a2 a3 a4)))] [.un,.un,.un,.un,(.live true false [(.s 7 0 (gV nr a0 a1 a2 a3 a4).length 3)]),.dead,.un]) {cx:Cx} (hcx:cx.base=7)(v1:Bool):True->Aw.Good Tryz.prog none 9 (bodyPost Tryz.prog Tryz.f63 (RR cx (.t []) [(.live true true (flat iT (gR (gV nr) a0 a1 a2 a3 a4 v1)))] [.un,.un,.un,.un,(.live true false [(.s 7 0 (gR (gV nr) a0 a1 a2 a3 a4 v1).length 3)]),.dead,.un])) cx [] (.c aL3::aL4) (aGx nr a0 a1 a2 a3 a4 v1):=by
 intro hi
 have hpb:=aC8 hp
 have hp1:=hp.e0
 have hp2:=hp.e1
 have hp3:=hp.e2
 rcases aFv v1 with h0 | h0
 ·skip
  have e:gR (gV nr) a0 a1 a2 a3 a4 v1=(nP (gV nr) a0 a1 a2 a3 a4 v1):=by simp only [gR,h0,aW]
  rw [e]
  refine ga [.d h0,.z 6] [] [0,1,4,11] [] hcx aLz (aL0) (aGv nr a0 a1 a2 a3 a4 v1) (by kernel_rfl) ?_
  exact aSz nr a0 a1 a2 a3 a4 l2_1 l2_2 l4 hp hlt ihr hcx v1 trivial
 ·skip
  let t1:List (St Tryz.prog):=[.d h0]
  cases h1:(decide (((a2.2.getD (tN a0) dF).2.2.1:Int) < 0)) with
  | true =>
   have q1:=dL h1
   let t2:List (St Tryz.prog):=(t1++[.d h1])
   cases h2:(decide (((a2.2.getD (tN a1) dF).2.2.1:Int) < 0)) with
   | true =>
    have q2:=dL h2
    have e:gR (gV nr) a0 a1 a2 a3 a4 v1=(nP (gV nr) a0 a1 a2 a3 a4 v1):=by simp only [gR,h0,h1,h2,aW]
    rw [e]
    refine ga (t2++[.d h2,.z 6]) [] [0,1,4,11] [] hcx aLz (aL0) (aGv nr a0 a1 a2 a3 a4 v1) (by kernel_rfl) ?_
    exact aSz nr a0 a1 a2 a3 a4 l2_1 l2_2 l4 hp hlt ihr hcx v1 trivial
   | false =>
    have q2:=eH h2
    have e:=Eq.refl (gR (gV nr) a0 a1 a2 a3 a4 v1);conv at e=>rhs;simp only [gR,h0,h1,h2,aW]
    rw [e]
    refine ga (t2++[.d h2,.z 7]) [] [0,1,5,8,9] [7,8] hcx aL1 (aL2) (aGw nr a0 a1 a2 a3 a4) (by kernel_rfl) ?_
    exact aS0 nr a0 a1 a2 a3 a4 l2_1 l2_2 l4 hp hlt ihr hcx (by omega)
  | false =>
   have q1:=eH h1
   have e:=Eq.refl (gR (gV nr) a0 a1 a2 a3 a4 v1);conv at e=>rhs;simp only [gR,h0,h1,aW]
   rw [e]
   refine ga (t1++[.d h1,.z 7]) [] [0,1,5,8,9] [7,8] hcx aL1 (aL2) (aGw nr a0 a1 a2 a3 a4) (by kernel_rfl) ?_
   exact aS0 nr a0 a1 a2 a3 a4 l2_1 l2_2 l4 hp hlt ihr hcx (by omega)
theorem bFm:∀(nr:Nat) (a0:Int) (a1:Int) (a2:List Int×aY) (a3:Int) (a4:List (Int×Int×Bool)) (l2_1:a2.1.length<=2^63-1) (l2_2:a2.2.length<=2^63-1) (l4:a4.length<=2^63-1) (hp:PVB a0 a1 a2 a4),((a2.2.length - tN a0)+(a2.2.length - tN a1)) < nr->Con Tryz.prog 63 [(iv a0),(iv a1),(.p 0 0),(.p 3 0),(.p 4 0),(.p 6 0)] [(.live false false [(.s 1 0 a2.1.length 1),(.s 2 0 a2.2.length 8)]),(.live false true (flat c3 a2.1)),(.live false true (flat dM a2.2)),(.live false false [(iv a3)]),(.live true false [(.s 5 0 a4.length 3)]),(.live true true (flat iT a4)),(.live false false [(.f 63 [(.p 0 0),(.p 3 0),(.p 4 0),(.p 6 0)])])] (.t []) [(.live true true (flat iT (gV nr a0 a1 a2 a3 a4)))] [.un,.un,.un,.un,(.live true false [(.s 7 0 (gV nr a0 a1 a2 a3 a4).length 3)]),.dead,.un]:=by
 intro nr
 induction nr with
 | zero=>intro a0 a1 a2 a3 a4 l2_1 l2_2 l4 hp hlt;exact absurd hlt (fO _)
 | succ nr ihr =>
 intro a0 a1 a2 a3 a4 l2_1 l2_2 l4 hp hlt
 refine aU Tryz.func63 (by kernel_rfl) fun cx hcx=>?_
 have hpb:=aC8 hp
 have hp1:=hp.e0
 have hp2:=hp.e1
 have hp3:=hp.e2
 let t0:List (St Tryz.prog):=[.i a0 (a2.2.length),.L dS a2.2 a0 0 8,.i a1 (a2.2.length),.L dS a2.2 a1 0 8,.c [] (C65 (a2.2.getD (tN a0) dF).2.2.2.2.1 (a2.2.getD (tN a1) dF).2.2.2.2.1),.c [] (C64 (tI a0 a1 a2 a3 a4))]
 cases h0:(decide (((vW (tI a0 a1 a2 a3 a4)):Int) > 0)) with
 | true =>
  have q0:=dL h0
  have e:=Eq.refl (gV (nr+1) a0 a1 a2 a3 a4);conv at e=>rhs;simp only [gV,h0,aW]
  rw [e]
  refine ga (t0++[.d h0,.z 5]) [] [0,1,4,5,8,9,11] [7,8] hcx aL3 (aL4) (aGx nr a0 a1 a2 a3 a4 (decide (((W ((W ((W ((W ((a2.2.getD (tN a0) dF).2.2.2.2.2+(a2.2.getD (tN a1) dF).2.2.2.2.2))*4))*a3))*a3)):Int)<=(vW (tI a0 a1 a2 a3 a4))))) (by kernel_rfl) ?_
  exact aS1 nr a0 a1 a2 a3 a4 l2_1 l2_2 l4 hp hlt ihr hcx (decide (((W ((W ((W ((W ((a2.2.getD (tN a0) dF).2.2.2.2.2+(a2.2.getD (tN a1) dF).2.2.2.2.2))*4))*a3))*a3)):Int)<=(vW (tI a0 a1 a2 a3 a4)))) trivial
 | false =>
  have q0:=eH h0
  have e:=Eq.refl (gV (nr+1) a0 a1 a2 a3 a4);conv at e=>rhs;simp only [gV,h0,aW]
  rw [e]
  refine ga (t0++[.d h0,.z 5]) [] [0,1,4,5,8,9,11] [7,8] hcx aL3 (aL4) (aGx nr a0 a1 a2 a3 a4 false) (by kernel_rfl) ?_
  exact aS1 nr a0 a1 a2 a3 a4 l2_1 l2_2 l4 hp hlt ihr hcx false trivial
theorem C63 (a0:Int)(a1:Int)(a2:List Int×aY)(a3:Int)(a4:List (Int×Int×Bool))(l2_1:a2.1.length<=2^63-1)(l2_2:a2.2.length<=2^63-1)(l4:a4.length<=2^63-1)(hp:PVB a0 a1 a2 a4):Con Tryz.prog 63 [(iv a0),(iv a1),(.p 0 0),(.p 3 0),(.p 4 0),(.p 6 0)] [(.live false false [(.s 1 0 a2.1.length 1),(.s 2 0 a2.2.length 8)]),(.live false true (flat c3 a2.1)),(.live false true (flat dM a2.2)),(.live false false [(iv a3)]),(.live true false [(.s 5 0 a4.length 3)]),(.live true true (flat iT a4)),(.live false false [(.f 63 [(.p 0 0),(.p 3 0),(.p 4 0),(.p 6 0)])])] (.t []) [(.live true true (flat iT (F63 a0 a1 a2 a3 a4)))] [.un,.un,.un,.un,(.live true false [(.s 7 0 (F63 a0 a1 a2 a3 a4).length 3)]),.dead,.un]:=bFm (((a2.2.length - tN a0)+(a2.2.length - tN a1))+1) a0 a1 a2 a3 a4 l2_1 l2_2 l4 hp (lss _)
noncomputable def aS2:Code:=(bO [1,1,1,1,0,1,0] [] (aI Tryz.f38)).1
noncomputable def aS3:List K:=(bO [1,1,1,1,0,1,0] [] (aI Tryz.f38)).2
def aN0 (a0:List Int×aY)(a1:Int)(v1c:List SV)(v1n:Nat):LS:=⟨jH 15 [(5,(.p 2 0)),(6,(.p 3 0))],[(.live false true (flat c3 a0.1)),(.live false true (flat dM a0.2)),(.live true false [(.s 4 0 v1n 3)]),(.live true false [(.f 63 [(.p 5 0),(.p 6 0),(.p 2 0),(.p 3 0)])]),(.live true true v1c),(.live true false [(.s 0 0 a0.1.length 1),(.s 1 0 a0.2.length 8)]),(.live true false [(iv a1)])]⟩
def yE (a0:List Int×aY)(a1:Int):List (Int×Int×Bool)->List (Int×Int×Bool)
 | v1 =>
  (F63 0 0 (a0.1,a0.2) a1 v1)
theorem bAj (a0:List Int×aY)(a1:Int)(l0_1:a0.1.length<=2^63-1)(l0_2:a0.2.length<=2^63-1)(hp:0 < a0.2.length->PVB 0 0 a0 []) {cx:Cx} (hcx:cx.base=2)(v1:List (Int×Int×Bool)):PVB 0 0 a0 v1->Aw.Good Tryz.prog none 9 (bodyPost Tryz.prog Tryz.f38 (RR cx (.s 2 0 (yE a0 a1 v1).length 3) [(.live true true (flat iT (yE a0 a1 v1)))] [])) cx [] (.c aS2::aS3) (aN0 a0 a1 (flat iT v1) v1.length):=by
 intro hi
 have hb:=aC8 hi
 have e:=Eq.refl (yE a0 a1 v1);conv at e=>rhs;simp only [yE]
 rw [e]
 exact rt [.c [5,0,1,6,2,4,3] (C63 0 0 (a0.1,a0.2) a1 v1 (by(try simp only [Lt]);omega) (by(try simp only [Lt]);omega) (by omega) hi)] [] [7] hcx (by kernel_rfl)
def bN (a0:List Int×aY)(a1:Int):List (Int×Int×Bool) :=
 (bif (decide (((a0.2.length:Int):Int) > 0)) then
  (yE a0 a1 ([]:List (Int×Int×Bool)))
 else
  ([]:List (Int×Int×Bool)))
theorem C38 (a0:List Int×aY)(a1:Int)(l0_1:a0.1.length<=2^63-1)(l0_2:a0.2.length<=2^63-1)(hp:0 < a0.2.length->PVB 0 0 a0 []):Con Tryz.prog 38 [(.a [(.s 0 0 a0.1.length 1),(.s 1 0 a0.2.length 8)]),(iv a1)] [(.live false true (flat c3 a0.1)),(.live false true (flat dM a0.2))] (.s 2 0 (bN a0 a1).length 3) [(.live true true (flat iT (bN a0 a1)))]:=by
 refine aU Tryz.func38 (by kernel_rfl) fun cx hcx=>?_
 cases h0:(decide (((a0.2.length:Int):Int) > 0)) with
 | true =>
  have q0:=dL h0
  have e:=Eq.refl (bN a0 a1);conv at e=>rhs;simp only [bN,h0,aW]
  rw [e]
  refine ga [.d h0,.z 5] [.cell 4 0 3] [5,6] [4,5,6,2,3] hcx aS2 (aS3) (aN0 a0 a1 (flat iT ([]:List (Int×Int×Bool))) 0) (by kernel_rfl) ?_
  exact bAj a0 a1 l0_1 l0_2 hp hcx ([]:List (Int×Int×Bool)) (hp (by omega))
 | false =>
  have q0:=eH h0
  have e:=Eq.refl (bN a0 a1);conv at e=>rhs;simp only [bN,h0,aW]
  rw [e]
  exact rt [.d h0] [.slot 4 3] [6] hcx (by kernel_rfl)
def oJ (a0:List (Int×Int×Bool))(a1:List (Int×Int×Bool)):Int->(Int)⊕(Bool)
 | v1 =>
  (bif (decide ((v1:Int) < (a0.length:Int))) then
   (bif (!((((a0.getD (tN v1) dF).1:Int) == (a1.getD (tN v1) dF).1)&&((((a0.getD (tN v1) dF).2.1:Int) == (a1.getD (tN v1) dF).2.1)&&(((a0.getD (tN v1) dF).2.2 == (a1.getD (tN v1) dF).2.2)&&true)))) then
    (.inr false)
   else
    (.inl (v1+1)))
  else
   (.inr true))
def nA (a0:List (Int×Int×Bool))(a1:List (Int×Int×Bool)):Bool :=
 (bif (((a0.length:Int):Int) != (a1.length:Int)) then
  false
 else
  (aA (oJ a0 a1) (tN ((a0.length:Int) - 0)+1) 0))
def F87 (a0:Int×Int×Int×Int×Zt×Int)(a1:Int×Int×Int×Int×Zt×Int):Int :=
 (pG (pH a0.2.2.2.2.1 a1.2.2.2.2.1))
def rJ (a0:List Int×aY)(a1:Int)(a2:Int)(a3:Int):=(F87 (a0.2.getD (tN a1) dF) (a0.2.getD (tN a2) dF))
def nQ (rr:(List Int×aY)->(Int)->(Int)->(Int)->List (Int×Int×Bool))(a0:List Int×aY)(a1:Int)(a2:Int)(a3:Int):=(rr (a0.1,a0.2) (a0.2.getD (tN a1) dF).2.2.1 a2 a3)
def nR (rr:(List Int×aY)->(Int)->(Int)->(Int)->List (Int×Int×Bool))(a0:List Int×aY)(a1:Int)(a2:Int)(a3:Int):=(rr (a0.1,a0.2) (a0.2.getD (tN a1) dF).2.2.2.1 a2 a3)
def mB (rr:(List Int×aY)->(Int)->(Int)->(Int)->List (Int×Int×Bool))(a0:List Int×aY)(a1:Int)(a2:Int)(a3:Int):=(rr (a0.1,a0.2) a1 (a0.2.getD (tN a2) dF).2.2.1 a3)
def mC (rr:(List Int×aY)->(Int)->(Int)->(Int)->List (Int×Int×Bool))(a0:List Int×aY)(a1:Int)(a2:Int)(a3:Int):=(rr (a0.1,a0.2) a1 (a0.2.getD (tN a2) dF).2.2.2.1 a3)
def iF (rr:(List Int×aY)->(Int)->(Int)->(Int)->List (Int×Int×Bool))(a0:List Int×aY)(a1:Int)(a2:Int)(a3:Int):Unit->List (Int×Int×Bool)
 | () =>
  (bif (decide (((a0.2.getD (tN a1) dF).2.2.1:Int) < 0)) then
   (bif (decide (((a0.2.getD (tN a2) dF).2.2.1:Int) < 0)) then
    ([(a1,a2,false)]:List (Int×Int×Bool))
   else
    (bif (decide (((a0.2.getD (tN a1) dF).2.2.1:Int)≥0)) then
     (bif (decide (((W ((a0.2.getD (tN a1) dF).2.1 - (a0.2.getD (tN a1) dF).1)):Int)≥(W ((a0.2.getD (tN a2) dF).2.1 - (a0.2.getD (tN a2) dF).1)))) then
      ((nQ (rr) a0 a1 a2 a3)++(nR (rr) a0 a1 a2 a3))
     else
      ((mB (rr) a0 a1 a2 a3)++(mC (rr) a0 a1 a2 a3)))
    else
     ((mB (rr) a0 a1 a2 a3)++(mC (rr) a0 a1 a2 a3))))
  else
   (bif (decide (((a0.2.getD (tN a2) dF).2.2.1:Int) < 0)) then
    ((nQ (rr) a0 a1 a2 a3)++(nR (rr) a0 a1 a2 a3))
   else
    (bif (decide (((a0.2.getD (tN a1) dF).2.2.1:Int)≥0)) then
     (bif (decide (((W ((a0.2.getD (tN a1) dF).2.1 - (a0.2.getD (tN a1) dF).1)):Int)≥(W ((a0.2.getD (tN a2) dF).2.1 - (a0.2.getD (tN a2) dF).1)))) then
      ((nQ (rr) a0 a1 a2 a3)++(nR (rr) a0 a1 a2 a3))
     else
      ((mB (rr) a0 a1 a2 a3)++(mC (rr) a0 a1 a2 a3)))
    else
     ((mB (rr) a0 a1 a2 a3)++(mC (rr) a0 a1 a2 a3)))))
def eE:Nat->(List Int×aY)->(Int)->(Int)->(Int)->List (Int×Int×Bool)
 | 0,_,_,_,_=>dF
 | nr+1,a0,a1,a2,a3 =>
 (bif (decide (((W ((W ((W ((W ((a0.2.getD (tN a1) dF).2.2.2.2.2+(a0.2.getD (tN a2) dF).2.2.2.2.2))*4))*a3))*a3)):Int)<=(rJ a0 a1 a2 a3))) then
  (bif (decide (((rJ a0 a1 a2 a3):Int) > 0)) then
   ([(a1,a2,true)]:List (Int×Int×Bool))
  else
   (iF (eE nr) a0 a1 a2 a3 ()))
 else
  (iF (eE nr) a0 a1 a2 a3 ()))
def bAk (a0:List Int×aY)(a1:Int)(a2:Int)(a3:Int):List (Int×Int×Bool):=eE (((a0.2.length - tN a1)+(a0.2.length - tN a2))+1) a0 a1 a2 a3
theorem vX:∀(nr:Nat) (t:TR) (i k sep:Int) (m:Nat) (f u h:Int) (m':Nat) (f' u' h':Int),TRE t.2 (tN i) m f u h->TRE t.2 (tN k) m' f' u' h'->0<=i->0<=k->(t.2.length - tN i)+(t.2.length - tN k) < nr ->
 ((eE nr t i k sep).length:Int)<=(u - f)*(u' - f')
 | 0,_,_,_,_,_,_,_,_,_,_,_,_,_,_,_,_,h=>absurd h (fO _)
 | nr+1,t,i,k,sep,m,f,u,h,m',f',u',h',H,K,hi,hk,hn=>by
  have hb:=cJ H
  have kb:=cJ K
  have hm:=pK (a:=u - f) (b:=u' - f') (by omega) (by omega)
  have hs:∀b:Bool,(([(i,k,b)]:List BLK).length:Int)<=(u - f)*(u' - f'):=fun b=>by rw [List.length_singleton];omega
  have hA:¬(t.2.getD (tN i) dF).2.2.1 < 0->((nQ (eE nr) t i k sep++nR (eE nr) t i k sep).length:Int)<=(u - f)*(u' - f'):=by
   intro hq
   rcases iB H with⟨_,_,h5,_⟩ | ⟨m1,m2,c,h1,h2,e8,g4,g5,b1,b2,e9⟩
   ·omega
   ·have l1:=cJ b1
    have l2:=cJ b2
    have c1:((nQ (eE nr) t i k sep).length:Int)<=(c - f)*(u' - f'):=vX nr t (t.2.getD (tN i) dF).2.2.1 k sep m1 f c h1 m' f' u' h' (by rw [g4,eX];exact b1) K (by omega) hk (by omega)
    have c2:((nR (eE nr) t i k sep).length:Int)<=(u - c)*(u' - f'):=vX nr t (t.2.getD (tN i) dF).2.2.2.1 k sep m2 c u h2 m' f' u' h' (by rw [g5,eX];exact b2) K (by omega) hk (by omega)
    have c3:=aGu f u c (u' - f')
    rw [List.length_append]
    omega
  have hB:¬(t.2.getD (tN k) dF).2.2.1 < 0->((mB (eE nr) t i k sep++mC (eE nr) t i k sep).length:Int)<=(u - f)*(u' - f'):=by
   intro hq
   rcases iB K with⟨_,_,h5,_⟩ | ⟨m1,m2,c,h1,h2,e8,g4,g5,b1,b2,e9⟩
   ·omega
   ·have l1:=cJ b1
    have l2:=cJ b2
    have c1:((mB (eE nr) t i k sep).length:Int)<=(u - f)*(c - f'):=vX nr t i (t.2.getD (tN k) dF).2.2.1 sep m f u h m1 f' c h1 H (by rw [g4,eX];exact b1) hi (by omega) (by omega)
    have c2:((mC (eE nr) t i k sep).length:Int)<=(u - f)*(u' - c):=vX nr t i (t.2.getD (tN k) dF).2.2.2.1 sep m f u h m2 c u' h2 H (by rw [g5,eX];exact b2) hi (by omega) (by omega)
    have c3:=aC9 f' u' c (u - f)
    rw [List.length_append]
    omega
  have hJ:((iF (eE nr) t i k sep ()).length:Int)<=(u - f)*(u' - f'):=by
   simp only [iF]
   by_cases z1:(t.2.getD (tN i) dF).2.2.1 < 0<;>by_cases z2:(t.2.getD (tN k) dF).2.2.1 < 0
   ·rw [bG z1,bG z2,cond_true,cond_true];exact hs false
   ·rw [bG z1,cC z2,cond_true,cond_false,cC (show ¬(t.2.getD (tN i) dF).2.2.1≥0 by omega),cond_false];exact hB z2
   ·rw [cC z1,bG z2,cond_false,cond_true];exact hA z1
   ·rw [cC z1,cC z2,cond_false,cond_false,bG (show(t.2.getD (tN i) dF).2.2.1≥0 by omega),cond_true,Bool.cond_eq_ite]
    split
    ·exact hA z1
    ·exact hB z2
  simp only [eE]
  rw [Bool.cond_eq_ite]
  split
  ·rw [Bool.cond_eq_ite]
   split
   ·exact hs true
   ·exact hJ
  ·exact hJ
def aS4 (t:TR)(sep:Int)(i k:Int):Prop :=
 W (W (W (W ((t.2.getD (tN i) dF).2.2.2.2.2+(t.2.getD (tN k) dF).2.2.2.2.2)*4)*sep)*sep)<=vW (F65 (t.2.getD (tN i) dF).2.2.2.2.1 (t.2.getD (tN k) dF).2.2.2.2.1) /\
  vW (F65 (t.2.getD (tN i) dF).2.2.2.2.1 (t.2.getD (tN k) dF).2.2.2.2.1) > 0
def aS5 (t:TR)(i k:Int):Prop :=
 (t.2.getD (tN k) dF).2.2.1 < 0\/((t.2.getD (tN i) dF).2.2.1≥0/\W ((t.2.getD (tN i) dF).2.1 - (t.2.getD (tN i) dF).1)≥W ((t.2.getD (tN k) dF).2.1 - (t.2.getD (tN k) dF).1))
section
variable {t : TR} {sep i k : Int} {out : List BLK} {n : Nat}
theorem bAl:gQ (gV n) i k t sep out ()=(open Classical in if aS5 t i k then aJc (gV n) i k t sep out else aJd (gV n) i k t sep out):=by
 simp only [gQ]
 unfold aS5
 by_cases h1:(t.2.getD (tN k) dF).2.2.1 < 0
 ·rw [bG h1,cond_true,if_pos (.inl h1)]
 ·rw [cC h1,cond_false]
  by_cases h2:(t.2.getD (tN i) dF).2.2.1≥0
  ·rw [bG h2,cond_true]
   by_cases h3:W ((t.2.getD (tN i) dF).2.1 - (t.2.getD (tN i) dF).1)≥W ((t.2.getD (tN k) dF).2.1 - (t.2.getD (tN k) dF).1)
   ·rw [bG h3,cond_true,if_pos (.inr ⟨h2,h3⟩)]
   ·rw [cC h3,cond_false,if_neg (fun h=>h.elim h1 (fun h=>h3 h.2))]
  ·rw [cC h2,cond_false,if_neg (fun h=>h.elim h1 (fun h=>h2 h.1))]
end
section
variable {t : TR} {sep i k : Int} {out : List BLK} {n : Nat}
theorem aV6 (h:aS4 t sep i k):gV (n+1) i k t sep out=out++[(i,k,true)]:=by
 simp only [gV]
 rw [bG (show vW (tI i k t sep out) > 0 from h.2),cond_true,bG (show W (W (W (W ((t.2.getD (tN i) dF).2.2.2.2.2+(t.2.getD (tN k) dF).2.2.2.2.2)*4)*sep)*sep)<=vW (tI i k t sep out) from h.1)]
 rfl
theorem aV7 (h:¬aS4 t sep i k):gV (n+1) i k t sep out=gR (gV n) i k t sep out false:=by
 simp only [gV]
 by_cases h2:vW (tI i k t sep out) > 0
 ·rw [bG h2,cond_true,cC (show ¬W (W (W (W ((t.2.getD (tN i) dF).2.2.2.2.2+(t.2.getD (tN k) dF).2.2.2.2.2)*4)*sep)*sep)<=vW (tI i k t sep out) from fun h1=>h ⟨h1,h2⟩)]
 ·rw [cC h2,cond_false]
theorem bAm:gR (gV n) i k t sep out false=if(t.2.getD (tN i) dF).2.2.1 < 0/\(t.2.getD (tN k) dF).2.2.1 < 0 then out++[(i,k,false)] else gQ (gV n) i k t sep out ():=by
 simp only [gR,cond_false,nP]
 by_cases zi:(t.2.getD (tN i) dF).2.2.1 < 0<;>by_cases zk:(t.2.getD (tN k) dF).2.2.1 < 0
 ·rw [bG zi,bG zk,if_pos ⟨zi,zk⟩];rfl
 ·rw [bG zi,cC zk,if_neg (fun h=>zk h.2)];rfl
 ·rw [cC zi,if_neg (fun h=>zi h.1)];rfl
 ·rw [cC zi,if_neg (fun h=>zi h.1)];rfl
theorem aV8 (h:aS4 t sep i k):eE (n+1) t i k sep=[(i,k,true)]:=by
 simp only [eE]
 rw [bG (show W (W (W (W ((t.2.getD (tN i) dF).2.2.2.2.2+(t.2.getD (tN k) dF).2.2.2.2.2)*4)*sep)*sep)<=rJ t i k sep from h.1),cond_true,bG (show rJ t i k sep > 0 from h.2)]
 rfl
theorem aV9 (h:¬aS4 t sep i k):eE (n+1) t i k sep=iF (eE n) t i k sep ():=by
 simp only [eE]
 by_cases h1:W (W (W (W ((t.2.getD (tN i) dF).2.2.2.2.2+(t.2.getD (tN k) dF).2.2.2.2.2)*4)*sep)*sep)<=rJ t i k sep
 ·rw [bG h1,cond_true,cC (show ¬rJ t i k sep > 0 from fun h2=>h ⟨h1,h2⟩),cond_false]
 ·rw [cC h1,cond_false]
theorem bAn:iF (eE n) t i k sep ()=(open Classical in if(t.2.getD (tN i) dF).2.2.1 < 0/\(t.2.getD (tN k) dF).2.2.1 < 0 then [(i,k,false)] else if aS5 t i k then nQ (eE n) t i k sep++nR (eE n) t i k sep else mB (eE n) t i k sep++mC (eE n) t i k sep):=by
 simp only [iF]
 unfold aS5
 by_cases zi:(t.2.getD (tN i) dF).2.2.1 < 0<;>by_cases zk:(t.2.getD (tN k) dF).2.2.1 < 0
 ·rw [bG zi,bG zk,if_pos ⟨zi,zk⟩];rfl
 ·rw [bG zi,cC zk,cond_true,cond_false,cC (show ¬(t.2.getD (tN i) dF).2.2.1≥0 by omega),cond_false,if_neg (fun h=>zk h.2),if_neg (fun h=>h.elim zk (fun h=>absurd h.1 (by omega)))]
 ·rw [cC zi,bG zk,cond_false,cond_true,if_neg (fun h=>zi h.1),if_pos (.inl zk)]
 ·rw [cC zi,cC zk,cond_false,cond_false,bG (show(t.2.getD (tN i) dF).2.2.1≥0 by omega),cond_true,if_neg (fun h=>zi h.1)]
  by_cases h3:W ((t.2.getD (tN i) dF).2.1 - (t.2.getD (tN i) dF).1)≥W ((t.2.getD (tN k) dF).2.1 - (t.2.getD (tN k) dF).1)
  ·rw [bG h3,cond_true,if_pos (.inr ⟨by omega,h3⟩)]
  ·rw [cC h3,cond_false,if_neg (fun h=>h.elim zk (fun h=>h3 h.2))]
end
theorem vY:∀(n:Nat) (i k:Int) (t:TR) (sep:Int) (out:List BLK) (m:Nat) (f u h:Int) (m':Nat) (f' u' h':Int),TRE t.2 (tN i) m f u h->TRE t.2 (tN k) m' f' u' h'->0<=i->0<=k->(t.2.length - tN i)+(t.2.length - tN k) < n ->
 gV n i k t sep out=out++eE n t i k sep
 | 0,_,_,_,_,_,_,_,_,_,_,_,_,_,_,_,_,_,h=>absurd h (fO _)
 | n+1,i,k,t,sep,out,m,f,u,h,m',f',u',h',H,K,hi,hk,hn=>by
  have hb:=cJ H
  have kb:=cJ K
  by_cases hf:aS4 t sep i k
  ·rw [aV6 hf,aV8 hf]
  ·rw [aV7 hf,aV9 hf,bAm,bAn,bAl]
   by_cases z:(t.2.getD (tN i) dF).2.2.1 < 0/\(t.2.getD (tN k) dF).2.2.1 < 0
   ·rw [if_pos z,if_pos z]
   ·rw [if_neg z,if_neg z]
    by_cases hs:aS5 t i k
    ·rw [if_pos hs,if_pos hs]
     have hq:¬(t.2.getD (tN i) dF).2.2.1 < 0:=fun h0=>hs.elim (fun h1=>z ⟨h0,h1⟩) (fun h1=>absurd h1.1 (by omega))
     rcases iB H with⟨_,_,h5,_⟩ | ⟨m1,m2,c,h1,h2,e8,g4,g5,b1,b2,e9⟩
     ·omega
     ·have l1:=cJ b1
      have l2:=cJ b2
      have t1:TRE t.2 (tN (t.2.getD (tN i) dF).2.2.1) m1 f c h1:=by rw [g4,eX];exact b1
      have t2:TRE t.2 (tN (t.2.getD (tN i) dF).2.2.2.1) m2 c u h2:=by rw [g5,eX];exact b2
      have c1:tJ (gV n) i k t sep out=out++nQ (eE n) t i k sep:=vY n (t.2.getD (tN i) dF).2.2.1 k t sep out m1 f c h1 m' f' u' h' t1 K (by omega) hk (by omega)
      have c2:aJc (gV n) i k t sep out=tJ (gV n) i k t sep out++nR (eE n) t i k sep:=vY n (t.2.getD (tN i) dF).2.2.2.1 k t sep _ m2 c u h2 m' f' u' h' t2 K (by omega) hk (by omega)
      rw [c2,c1,List.append_assoc]
    ·rw [if_neg hs,if_neg hs]
     have hq:¬(t.2.getD (tN k) dF).2.2.1 < 0:=fun h0=>hs (.inl h0)
     rcases iB K with⟨_,_,h5,_⟩ | ⟨m1,m2,c,h1,h2,e8,g4,g5,b1,b2,e9⟩
     ·omega
     ·have l1:=cJ b1
      have l2:=cJ b2
      have t1:TRE t.2 (tN (t.2.getD (tN k) dF).2.2.1) m1 f' c h1:=by rw [g4,eX];exact b1
      have t2:TRE t.2 (tN (t.2.getD (tN k) dF).2.2.2.1) m2 c u' h2:=by rw [g5,eX];exact b2
      have c1:tK (gV n) i k t sep out=out++mB (eE n) t i k sep:=vY n i (t.2.getD (tN k) dF).2.2.1 t sep out m f u h m1 f' c h1 H t1 hi (by omega) (by omega)
      have c2:aJd (gV n) i k t sep out=tK (gV n) i k t sep out++mC (eE n) t i k sep:=vY n i (t.2.getD (tN k) dF).2.2.2.1 t sep _ m f u h m2 c u' h2 H t2 hi (by omega) (by omega)
      rw [c2,c1,List.append_assoc]
end Go.Proofs.YtlckcjfbjnjfhaaGreat
namespace Go.Proofs.YtlckcjfbjnjfhaaGreat
open Go.Proofs Go.Aw Go.RowKit
set_option maxRecDepth 100000
theorem aN1 {l:bR} {t:TR} (h:eG l t=0)(h0:0 < t.2.length):PVB 0 0 t []:=by
 obtain⟨hv,leaf,h1,_,rfl⟩:=mA h
 have hl:=hv.1
 have hb:=yD l hv.1 h1
 rcases aGt l h1 with⟨_,e⟩ | ⟨hh,H⟩
 ·rw [e] at h0;exact absurd h0 (Nat.lt_irrefl _)
 ·have hw:=cJ H
  have hm:((l.length:Int) - 0)*((l.length:Int) - 0)<=96*96:=Int.mul_le_mul (by omega) (by omega) (by omega) (by omega)
  exact⟨Int.le_refl _,Int.le_refl _,by omega,_,_,_,_,_,_,_,_,H,H,by simp only [List.length_nil];omega⟩
def F85 (a0:List Int×aY)(a1:Int):List (Int×Int×Bool) :=
 (bif (((a0.2.length:Int):Int) == 0) then
  ([]:List (Int×Int×Bool))
 else
  (bAk (a0.1,a0.2) 0 0 a1))
def F51 (a0:Int)(a1:Int)(a2:Int):Bool :=
 (bif (decide ((a0:Int)≥a1)) then
  (decide ((a0:Int)<=a2))
 else
  false)
theorem jC {l:bR} {t:TR} (sep:Int)(h:eG l t=0):bN t sep=F85 t sep:=by
 obtain⟨hv,leaf,h1,_,rfl⟩:=mA h
 rcases aGt l h1 with⟨_,e⟩ | ⟨hh,H⟩
 ·rw [e];rfl
 ·have hw:=cJ H
  unfold bN F85
  rw [bG (show(((BT l leaf).2.length:Nat):Int) > 0 by omega),cond_true,show((((BT l leaf).2.length:Nat):Int) == 0)=false by rw [beq_eq_false_iff_ne];omega,cond_false]
  simp only [yE,F63,bAk]
  exact vY _ 0 0 (BT l leaf) sep [] _ _ _ _ _ _ _ _ H H (Int.le_refl _) (Int.le_refl _) (lss _)
theorem kO {l:bR} {t:TR} (h:eG l t=0):t.1.length=l.length/\l.length<=96/\t.2.length<=192/\aLy t:=by
 obtain⟨hv,leaf,h1,_,rfl⟩:=mA h
 have hb:=yD l hv.1 h1
 exact⟨hb.1,hv.1,hb.2,aV5 l hv.1 h1⟩
theorem jD {l:bR} [bL l] {t:TR} (h:fC l (t.1,t.2)=0):t.1.length=l.length/\l.length<=96/\t.2.length<=192/\aLy t:=by
 rw [lZ] at h
 exact kO h
theorem dD {n:Nat} (h:n<=96):W ((n:Int)*(n:Int))=(n:Int)*(n:Int)/\0<=(n:Int)*(n:Int)/\(n:Int)*(n:Int)<=9216/\((n*n:Nat):Int)=(n:Int)*(n:Int):=by
 have h1:(n:Int)*(n:Int)<=96*96:=Int.mul_le_mul (by omega) (by omega) (by omega) (by omega)
 have h2:0<=(n:Int)*(n:Int):=Int.mul_nonneg (by omega) (by omega)
 exact⟨aH (by omega) (by omega),h2,by omega,Int.natCast_mul n n⟩
theorem yF {n:Nat} {i k:Int} (h:n<=96)(h1:0<=i/\i < n)(h2:0<=k/\k < n):W (i*(n:Int))=i*n/\W (W (i*(n:Int))+k)=i*n+k/\0<=i*(n:Int)+k/\i*(n:Int)+k < (n:Int)*(n:Int):=by
 have h3:=dD h
 have h4:0<=i*(n:Int):=Int.mul_nonneg (by omega) (by omega)
 have h5:(i+1)*(n:Int)<=(n:Int)*(n:Int):=Int.mul_le_mul_of_nonneg_right (by omega) (by omega)
 rw [Int.add_mul,Int.one_mul] at h5
 have h6:W (i*(n:Int))=i*n:=aH (by omega) (by omega)
 exact⟨h6,by rw [h6];exact aH (by omega) (by omega),by omega,by omega⟩
theorem gC {t:TR} (hk:aLy t) {x:Int} (h:(!(kM x 0 (W ((t.2.length:Int) - 1))))=false):0<=x/\x < t.2.length/\0<=(t.2.getD (tN x) dF).1/\(t.2.getD (tN x) dF).1 < (t.2.getD (tN x) dF).2.1/\(t.2.getD (tN x) dF).2.1<=t.1.length:=by
 have h2:=hk.2.1
 rw [aH (n:=(t.2.length:Int) - 1) (by omega) (by omega)] at h
 unfold kM at h
 by_cases a:x≥0
 ·by_cases b:x<=(t.2.length:Int) - 1
  ·exact⟨a,by omega,hk.2.2 (tN x) (by omega)⟩
  ·rw [bG a,cC b] at h;cases h
 ·rw [cC a] at h;cases h
noncomputable def aGy:Code:=(aO [1,0,1] [] (aI Tryz.f80) []).1
noncomputable def aGz:List K:=(aO [1,0,1] [] (aI Tryz.f80) []).2
def aDa (a0:List Int)(a1:Int)(v1:Int):LS:=⟨jH 19 [(0,(.s 0 0 a0.length 1)),(1,(iv a1)),(7,(iv (a0.length:Int))),(8,(iv v1))],[(.live false true (flat c3 a0))]⟩
def fG (a0:List Int)(a1:Int):Int->(Int)⊕(Int)
 | v1 =>
  (bif (decide ((v1:Int) < (a0.length:Int))) then
   (bif ((a1:Int) == (a0.getD (tN v1) dF)) then
    (.inr v1)
   else
    (.inl (v1+1)))
  else
   (.inr (-1)))
theorem aWa (a0:List Int)(a1:Int)(l0:a0.length<=2^63-1) {cx:Cx} (hcx:cx.base=1):∀(n:Nat) (v1:Int),0<=v1->tN ((a0.length:Int) - v1) < n->Aw.Good Tryz.prog none 9 (bodyPost Tryz.prog Tryz.f80 (RR cx (iv (aA (fG a0 a1) n v1)) [] [])) cx [] (.l aGy n::aGz) (aDa a0 a1 v1):=by
 intro n
 induction n with
 | zero=>intro v1 hi hn;exact absurd hn (fO _)
 | succ n ih =>
  intro v1 hi hn
  refine aT ?_
  cases h0:(decide ((v1:Int) < (a0.length:Int))) with
  | true =>
   have q0:=dL h0
   let t1:List (St Tryz.prog):=[.d h0,.i v1 (a0.length),.L cZ a0 v1 0 1]
   cases h1:((a1:Int) == (a0.getD (tN v1) dF)) with
   | true =>
    have q1:=eq_of_beq h1
    have e:=Eq.refl (fG a0 a1 v1);conv at e=>rhs;simp only [fG,h0,h1,aW]
    rw [aN,e]
    exact rt (t1++[.d h1]) [] [] hcx (by kernel_rfl)
   | false =>
    have q1:=ne_of_beq_false h1
    have e:=Eq.refl (fG a0 a1 v1);conv at e=>rhs;simp only [fG,h0,h1,aW]
    rw [aB e]
    refine ba (t1++[.d h1]) [] [0,1,7,8] [] hcx (m:=n) aGy (aGz) (aDa a0 a1 (W (v1+1))) (by kernel_rfl) ?_
    have z0:(W (v1+1))=(v1+1):=aH (by omega) (by omega)
    rw [z0]
    exact ih (v1+1) (by(try simp only [Ls]);omega) (by(try simp only [Ls]);omega)
  | false =>
   have q0:=eH h0
   have e:=Eq.refl (fG a0 a1 v1);conv at e=>rhs;simp only [fG,h0,aW]
   rw [aN,e]
   exact rt [.d h0] [] [] hcx (by kernel_rfl)
def aJe (a0:List Int)(a1:Int):Int :=
 (aA (fG a0 a1) (tN ((a0.length:Int) - 0)+1) 0)
theorem bDi (a0:List Int)(a1:Int)(l0:a0.length<=2^63-1):Con Tryz.prog 80 [(.s 0 0 a0.length 1),(iv a1)] [(.live false true (flat c3 a0))] (iv (aJe a0 a1)) []:=by
 refine aU Tryz.func80 (by kernel_rfl) fun cx hcx=>?_
 have e:=Eq.refl (aJe a0 a1);conv at e=>rhs;simp only [aJe]
 rw [e]
 refine en [] [] [0,1,7,8] [] hcx aGy (aGz) (aDa a0 a1 0) (tN ((a0.length:Int) - 0)+1) (by kernel_rfl) ?_
 exact aWa a0 a1 l0 hcx (tN ((a0.length:Int) - 0)+1) 0 (by(try simp only [Ls]);omega) (by(try simp only [Ls]);omega)
def tL (a0:List Int)(a1:Int):Bool :=
 (decide (((aJe a0 a1):Int)≥0))
theorem bDj (a0:List Int)(a1:Int)(l0:a0.length<=2^63-1):Con Tryz.prog 47 [(.s 0 0 a0.length 1),(iv a1)] [(.live false true (flat c3 a0))] (.v (.bool (tL a0 a1))) []:=by
 refine aU Tryz.func47 (by kernel_rfl) fun cx hcx=>?_
 have e:=Eq.refl (tL a0 a1);conv at e=>rhs;simp only [tL]
 rw [e]
 exact rt [.c [0] (bDi a0 a1 (by omega))] [] [] hcx (by kernel_rfl)
noncomputable def yG:Code:=(aO [1,1,1,0,1,0,1,1,0,1,1,1,1,0,1,0,1] [0,0] (aI Tryz.f16) []).1
noncomputable def yH (m0:Nat)(m1:Nat):List K:=(aO [1,1,1,0,1,0,1,1,0,1,1,1,1,0,1,0,1] [m0,m1] (aI Tryz.f16) []).2
def uR (a0:bE)(a1:List Int×aY)(a2:List (Int×Int×Bool))(v22c:List SV)(v22n:Nat)(v23 v24 v25 v26 v27 v28 v29 v30 v31 v32 v33 v34 v35 v36 v37 v38 v39 v40 v41:Int):LS:=⟨jH 105 [(0,(.s 0 0 a0.length 10)),(4,(.p 4 0)),(9,(.s 5 0 v22n 1)),(12,(.p 6 0)),(13,(.p 7 0)),(14,(iv v23)),(15,(iv v24)),(28,(.s 3 0 a2.length 3)),(29,(iv (a2.length:Int))),(30,(iv v25))],[(.live false true (flat fK a0)),(.live false true (flat c3 a1.1)),(.live false true (flat dM a1.2)),(.live false true (flat iT a2)),(.live true false [(.s 1 0 a1.1.length 1),(.s 2 0 a1.2.length 8)]),(.live true true v22c),(.live true false [(iv v26),(iv v27),(iv v28),(iv v29),(iv v30),(iv v31),(iv v32),(iv v33)]),(.live true false [(iv v34),(iv v35),(iv v36),(iv v37),(iv v38),(iv v39),(iv v40),(iv v41)])]⟩
def dW (a0:bE)(a1:List Int×aY)(a2:List (Int×Int×Bool)):List Int×Int×Int×Int×Int×Int×Int×Int×Int×Int×Int×Int×Int×Int×Int×Int×Int×Zt->(List Int×Int×Int×Int×Int×Int×Int×Int×Int×Int×Int×Int×Int×Int×Int×Int×Int×Zt)⊕((List Int×Int×Int×Int×Int×Int×Int×Int×Int×Int×Int×Int×Int×Int×Int×Int×Zt)⊕((List Int×Int)⊕(Bool×Int)))
 | (v22,v23,v24,v25,v26,v27,v28,v29,v30,v31,v32,v33,v34,v35,v36,v37,v38,v39,v40,v41) =>
  (bif (decide ((v24:Int) < v35)) then
   (bif (decide ((((v22.set (tN (W ((W (v23*(a0.length:Int)))+v24))) (W ((v22.getD (tN (W ((W (v23*(a0.length:Int)))+v24))) dF)+1))).getD (tN (W ((W (v23*(a0.length:Int)))+v24))) dF):Int) > 1)) then
    (.inr (.inr (.inr (false,0))))
   else
    (.inl ((v22.set (tN (W ((W (v23*(a0.length:Int)))+v24))) (W ((v22.getD (tN (W ((W (v23*(a0.length:Int)))+v24))) dF)+1))),v23,(v24+1),v25,v26,v27,v28,v29,v30,v31,v32,v33,v34,v35,v36,v37,v38,v39,v40,v41)))
  else
   (.inr (.inl (v22,(v23+1),v25,v26,v27,v28,v29,v30,v31,v32,v33,v34,v35,v36,v37,v38,v39,v40,v41))))
noncomputable def sC:Code:=(aO [1,1,1,0,1,0,1,1,0,1,1,1,1] [0] (aI Tryz.f16) []).1
noncomputable def sD (m0:Nat):List K:=(aO [1,1,1,0,1,0,1,1,0,1,1,1,1] [m0] (aI Tryz.f16) []).2
def pM (a0:bE)(a1:List Int×aY)(a2:List (Int×Int×Bool))(v3c:List SV)(v3n:Nat)(v4 v5 v6 v7 v8 v9 v10 v11 v12 v13 v14 v15 v16 v17 v18 v19 v20 v21:Int):LS:=⟨jH 105 [(0,(.s 0 0 a0.length 10)),(4,(.p 4 0)),(9,(.s 5 0 v3n 1)),(12,(.p 6 0)),(13,(.p 7 0)),(14,(iv v4)),(28,(.s 3 0 a2.length 3)),(29,(iv (a2.length:Int))),(30,(iv v5))],[(.live false true (flat fK a0)),(.live false true (flat c3 a1.1)),(.live false true (flat dM a1.2)),(.live false true (flat iT a2)),(.live true false [(.s 1 0 a1.1.length 1),(.s 2 0 a1.2.length 8)]),(.live true true v3c),(.live true false [(iv v6),(iv v7),(iv v8),(iv v9),(iv v10),(iv v11),(iv v12),(iv v13)]),(.live true false [(iv v14),(iv v15),(iv v16),(iv v17),(iv v18),(iv v19),(iv v20),(iv v21)])]⟩
def dO (a0:bE)(a1:List Int×aY)(a2:List (Int×Int×Bool)):List Int×Int×Int×Int×Int×Int×Int×Int×Int×Int×Int×Int×Int×Int×Int×Int×Zt->(List Int×Int×Int×Int×Int×Int×Int×Int×Int×Int×Int×Int×Int×Int×Int×Int×Zt)⊕((List Int×Int)⊕(Bool×Int))
 | (v3,v4,v5,v6,v7,v8,v9,v10,v11,v12,v13,v14,v15,v16,v17,v18,v19,v20,v21) =>
  (bif (decide ((v4:Int) < v7)) then
   (aA (dW a0 a1 a2) (tN (v15 - v14)+1) (v3,v4,v14,v5,v6,v7,v8,v9,v10,v11,v12,v13,v14,v15,v16,v17,v18,v19,v20,v21))
  else
   (.inr (.inl (v3,(v5+1)))))
noncomputable def oK:Code:=(aO [1,1,1,0,1] [] (aI Tryz.f16) []).1
noncomputable def oL:List K:=(aO [1,1,1,0,1] [] (aI Tryz.f16) []).2
def mD (a0:bE)(a1:List Int×aY)(a2:List (Int×Int×Bool))(v1c:List SV)(v1n:Nat)(v2:Int):LS:=⟨jH 105 [(0,(.s 0 0 a0.length 10)),(4,(.p 4 0)),(9,(.s 5 0 v1n 1)),(28,(.s 3 0 a2.length 3)),(29,(iv (a2.length:Int))),(30,(iv v2))],[(.live false true (flat fK a0)),(.live false true (flat c3 a1.1)),(.live false true (flat dM a1.2)),(.live false true (flat iT a2)),(.live true false [(.s 1 0 a1.1.length 1),(.s 2 0 a1.2.length 8)]),(.live true true v1c)]⟩
def bJ (a0:bE)(a1:List Int×aY)(a2:List (Int×Int×Bool)):List Int×Int->(List Int×Int)⊕(Bool×Int)
 | (v1,v2) =>
  (bif (decide ((v2:Int) < (a2.length:Int))) then
   (bif (!(kM (a2.getD (tN v2) dF).1 0 (W ((a1.2.length:Int) - 1)))) then
    (.inr (false,0))
   else
    (bif (!(kM (a2.getD (tN v2) dF).2.1 0 (W ((a1.2.length:Int) - 1)))) then
     (.inr (false,0))
    else
     (aA (dO a0 a1 a2) (tN ((a1.2.getD (tN (a2.getD (tN v2) dF).1) dF).2.1 - (a1.2.getD (tN (a2.getD (tN v2) dF).1) dF).1)+1) (v1,(a1.2.getD (tN (a2.getD (tN v2) dF).1) dF).1,v2,(a1.2.getD (tN (a2.getD (tN v2) dF).1) dF).1,(a1.2.getD (tN (a2.getD (tN v2) dF).1) dF).2.1,(a1.2.getD (tN (a2.getD (tN v2) dF).1) dF).2.2.1,(a1.2.getD (tN (a2.getD (tN v2) dF).1) dF).2.2.2.1,(a1.2.getD (tN (a2.getD (tN v2) dF).1) dF).2.2.2.2.1.1,(a1.2.getD (tN (a2.getD (tN v2) dF).1) dF).2.2.2.2.1.2.1,(a1.2.getD (tN (a2.getD (tN v2) dF).1) dF).2.2.2.2.1.2.2,(a1.2.getD (tN (a2.getD (tN v2) dF).1) dF).2.2.2.2.2,(a1.2.getD (tN (a2.getD (tN v2) dF).2.1) dF).1,(a1.2.getD (tN (a2.getD (tN v2) dF).2.1) dF).2.1,(a1.2.getD (tN (a2.getD (tN v2) dF).2.1) dF).2.2.1,(a1.2.getD (tN (a2.getD (tN v2) dF).2.1) dF).2.2.2.1,(a1.2.getD (tN (a2.getD (tN v2) dF).2.1) dF).2.2.2.2.1.1,(a1.2.getD (tN (a2.getD (tN v2) dF).2.1) dF).2.2.2.2.1.2.1,(a1.2.getD (tN (a2.getD (tN v2) dF).2.1) dF).2.2.2.2.1.2.2,(a1.2.getD (tN (a2.getD (tN v2) dF).2.1) dF).2.2.2.2.2))))
  else
   (.inr ((!(tL v1 0)),0)))
theorem aP2 (a0:bE)(a1:List Int×aY)(a2:List (Int×Int×Bool))(l0:a0.length<=2^63-1)(l1_1:a1.1.length<=2^63-1)(l1_2:a1.2.length<=2^63-1)(l2:a2.length<=2^63-1) [h5:bL a0] {cx:Cx} (hcx:cx.base=4)
 (n0:Nat) (g0:∀(v1:List Int) (v2:Int),(0<=v2)/\(v1.length=a0.length*a0.length)/\(fC a0 (a1.1,a1.2)=0)->tN ((a2.length:Int) - v2) < n0->Aw.Good Tryz.prog none 9 (bodyPost Tryz.prog Tryz.f16 (RR cx (.t [(.v (.bool (aA (bJ a0 a1 a2) n0 (v1,v2)).1)),(iv (aA (bJ a0 a1 a2) n0 (v1,v2)).2)]) [] [])) cx [] (.l oK n0::oL) (mD a0 a1 a2 (flat c3 v1) v1.length v2))
 (n1:Nat) (g1:∀(v3:List Int) (v4 v5 v6 v7 v8 v9 v10 v11 v12 v13 v14 v15 v16 v17 v18 v19 v20 v21:Int),(0<=v4)/\(v3.length=a0.length*a0.length)/\(fC a0 (a1.1,a1.2)=0)/\(0<=v5)/\(0<=v4)/\(v7<=a0.length)/\(0<=v14)/\(v15<=a0.length)/\((0<=v5))/\((v3.length=a0.length*a0.length))/\((fC a0 (a1.1,a1.2)=0))/\(v5 < (a2.length:Int))/\(tN ((a2.length:Int) - v5) < n0+1)->tN (v7 - v4) < n1->Aw.Good Tryz.prog none 9 (bodyPost Tryz.prog Tryz.f16 (RR cx (.t [(.v (.bool (bB (bJ a0 a1 a2) n0 (aA (dO a0 a1 a2) n1 (v3,v4,v5,v6,v7,v8,v9,v10,v11,v12,v13,v14,v15,v16,v17,v18,v19,v20,v21))).1)),(iv (bB (bJ a0 a1 a2) n0 (aA (dO a0 a1 a2) n1 (v3,v4,v5,v6,v7,v8,v9,v10,v11,v12,v13,v14,v15,v16,v17,v18,v19,v20,v21))).2)]) [] [])) cx [] (.l sC n1::sD n0) (pM a0 a1 a2 (flat c3 v3) v3.length v4 v5 v6 v7 v8 v9 v10 v11 v12 v13 v14 v15 v16 v17 v18 v19 v20 v21)):∀(n:Nat) (v22:List Int) (v23 v24 v25 v26 v27 v28 v29 v30 v31 v32 v33 v34 v35 v36 v37 v38 v39 v40 v41:Int),(0<=v24)/\(v22.length=a0.length*a0.length)/\(fC a0 (a1.1,a1.2)=0)/\(0<=v25)/\(0<=v23)/\(v23 < v27)/\(v27<=a0.length)/\(0<=v34)/\(v35<=a0.length)/\(0<=v24)/\((0<=v25))/\((v22.length=a0.length*a0.length))/\((fC a0 (a1.1,a1.2)=0))/\(v25 < (a2.length:Int))/\(tN ((a2.length:Int) - v25) < n0+1)/\((0<=v23))/\((v22.length=a0.length*a0.length))/\((fC a0 (a1.1,a1.2)=0))/\((0<=v25))/\((0<=v23))/\((v27<=a0.length))/\((0<=v34))/\((v35<=a0.length))/\(v23 < v27)/\(tN (v27 - v23) < n1+1)->tN (v35 - v24) < n->Aw.Good Tryz.prog none 9 (bodyPost Tryz.prog Tryz.f16 (RR cx (.t [(.v (.bool (bB (bJ a0 a1 a2) n0 (bB (dO a0 a1 a2) n1 (aA (dW a0 a1 a2) n (v22,v23,v24,v25,v26,v27,v28,v29,v30,v31,v32,v33,v34,v35,v36,v37,v38,v39,v40,v41)))).1)),(iv (bB (bJ a0 a1 a2) n0 (bB (dO a0 a1 a2) n1 (aA (dW a0 a1 a2) n (v22,v23,v24,v25,v26,v27,v28,v29,v30,v31,v32,v33,v34,v35,v36,v37,v38,v39,v40,v41)))).2)]) [] [])) cx [] (.l yG n::yH n0 n1) (uR a0 a1 a2 (flat c3 v22) v22.length v23 v24 v25 v26 v27 v28 v29 v30 v31 v32 v33 v34 v35 v36 v37 v38 v39 v40 v41):=by
 intro n
 induction n with
 | zero=>intro v22 v23 v24 v25 v26 v27 v28 v29 v30 v31 v32 v33 v34 v35 v36 v37 v38 v39 v40 v41 hi hn;exact absurd hn (fO _)
 | succ n ih =>
  intro v22 v23 v24 v25 v26 v27 v28 v29 v30 v31 v32 v33 v34 v35 v36 v37 v38 v39 v40 v41 hi hn
  refine aT ?_
  have hok:=jD (l:=a0) (t:=a1) (by omega)
  obtain⟨hk1,hk2,hk3,hk4⟩:=hok
  obtain⟨hq1,hq2,hq3,hq4⟩:=dD hk2
  try have hix:=yF (n:=a0.length) (i:=v23) (k:=v24) hk2 (by omega) (by have _:=h0;omega)
  try (have _:=h0;obtain⟨hi1,hi2,hi3,hi4⟩:=hix)
  cases h0:(decide ((v24:Int) < v35)) with
  | true =>
   have q0:=dL h0
   try have hix:=yF (n:=a0.length) (i:=v23) (k:=v24) hk2 (by omega) (by have _:=h0;omega)
   try (have _:=h0;obtain⟨hi1,hi2,hi3,hi4⟩:=hix)
   let t1:List (St Tryz.prog):=[.d h0,.i (W ((W (v23*(a0.length:Int)))+v24)) (v22.length),.L cZ v22 (W ((W (v23*(a0.length:Int)))+v24)) 0 1,.i (W ((W (v23*(a0.length:Int)))+v24)) (v22.length),.p (show((0+tN (W ((W (v23*(a0.length:Int)))+v24))*1)+1<=(flat c3 v22).length) from(oG cZ (by first | omega | (simp only [Lt];omega)) (o:=0) (Nb rfl))),.i (W ((W (v23*(a0.length:Int)))+v24)) (v22.length),.R cZ (v22.set (tN (W ((W (v23*(a0.length:Int)))+v24))) (W ((v22.getD (tN (W ((W (v23*(a0.length:Int)))+v24))) dF)+1))) (W ((W (v23*(a0.length:Int)))+v24)) 0 1 (show(splice (flat c3 v22) (0+tN (W ((W (v23*(a0.length:Int)))+v24))*1) [(iv (W ((v22.getD (tN (W ((W (v23*(a0.length:Int)))+v24))) dF)+1)))])=flat c3 (v22.set (tN (W ((W (v23*(a0.length:Int)))+v24))) (W ((v22.getD (tN (W ((W (v23*(a0.length:Int)))+v24))) dF)+1))) from(iY cZ (by first | omega | (simp only [Lt];omega)) (o:=0) (d:=dF) (Nb rfl) rfl))]
   cases h1:(decide ((((v22.set (tN (W ((W (v23*(a0.length:Int)))+v24))) (W ((v22.getD (tN (W ((W (v23*(a0.length:Int)))+v24))) dF)+1))).getD (tN (W ((W (v23*(a0.length:Int)))+v24))) dF):Int) > 1)) with
   | true =>
    have q1:=dL h1
    try have hix:=yF (n:=a0.length) (i:=v23) (k:=v24) hk2 (by omega) (by have _:=h0;omega)
    try (have _:=h0;obtain⟨hi1,hi2,hi3,hi4⟩:=hix)
    have e:=Eq.refl (dW a0 a1 a2 (v22,v23,v24,v25,v26,v27,v28,v29,v30,v31,v32,v33,v34,v35,v36,v37,v38,v39,v40,v41));conv at e=>rhs;simp only [dW,h0,h1,aW]
    rw [aN,e]
    exact rt (t1++[.d h1]) [] [] hcx (by kernel_rfl)
   | false =>
    have q1:=eH h1
    try have hix:=yF (n:=a0.length) (i:=v23) (k:=v24) hk2 (by omega) (by have _:=h0;omega)
    try (have _:=h0;obtain⟨hi1,hi2,hi3,hi4⟩:=hix)
    have e:=Eq.refl (dW a0 a1 a2 (v22,v23,v24,v25,v26,v27,v28,v29,v30,v31,v32,v33,v34,v35,v36,v37,v38,v39,v40,v41));conv at e=>rhs;simp only [dW,h0,h1,aW]
    rw [aB e]
    refine ba (t1++[.d h1]) [] [0,4,9,12,13,14,15,28,29,30] [4,5,6,7] hcx (m:=n) yG (yH n0 n1) (uR a0 a1 a2 (splice (flat c3 v22) (0+tN (W ((W (v23*(a0.length:Int)))+v24))*1) [(iv (W ((v22.getD (tN (W ((W (v23*(a0.length:Int)))+v24))) dF)+1)))]) (v22.length) v23 (W (v24+1)) v25 v26 v27 v28 v29 v30 v31 v32 v33 v34 v35 v36 v37 v38 v39 v40 v41) (by kernel_rfl) ?_
    have z0:(W (v24+1))=(v24+1):=aH (by omega) (by omega)
    have z1:(splice (flat c3 v22) (0+tN (W ((W (v23*(a0.length:Int)))+v24))*1) [(iv (W ((v22.getD (tN (W ((W (v23*(a0.length:Int)))+v24))) dF)+1)))])=flat c3 (v22.set (tN (W ((W (v23*(a0.length:Int)))+v24))) (W ((v22.getD (tN (W ((W (v23*(a0.length:Int)))+v24))) dF)+1))):=(iY cZ (by first | omega | (simp only [Lt];omega)) (o:=0) (d:=dF) (Nb rfl) rfl)
    have z2:v22.length=(v22.set (tN (W ((W (v23*(a0.length:Int)))+v24))) (W ((v22.getD (tN (W ((W (v23*(a0.length:Int)))+v24))) dF)+1))).length:=by simp
    rw [z0,z1,z2]
    exact ih (v22.set (tN (W ((W (v23*(a0.length:Int)))+v24))) (W ((v22.getD (tN (W ((W (v23*(a0.length:Int)))+v24))) dF)+1))) v23 (v24+1) v25 v26 v27 v28 v29 v30 v31 v32 v33 v34 v35 v36 v37 v38 v39 v40 v41 (by refine⟨?_,?_,?_,?_,?_,?_,?_,?_,?_,?_,?_,?_,?_,?_,?_,?_,?_,?_,?_,?_,?_,?_,?_,?_,?_⟩<;>(try simp only [Ls])<;>first | omega | assumption | exact hi.2.1 | exact hi.2.2.1 | exact hi.2.2.2.1 | exact hi.2.2.2.2.1 | exact hi.2.2.2.2.2.1 | exact hi.2.2.2.2.2.2.1 | exact hi.2.2.2.2.2.2.2.1 | exact hi.2.2.2.2.2.2.2.2.1 | exact hi.2.2.2.2.2.2.2.2.2.1 | exact hi.2.2.2.2.2.2.2.2.2.2.1 | exact hi.2.2.2.2.2.2.2.2.2.2.2.1 | exact hi.2.2.2.2.2.2.2.2.2.2.2.2.1 | exact hi.2.2.2.2.2.2.2.2.2.2.2.2.2.1 | exact hi.2.2.2.2.2.2.2.2.2.2.2.2.2.2.1 | exact hi.2.2.2.2.2.2.2.2.2.2.2.2.2.2.2.1 | exact hi.2.2.2.2.2.2.2.2.2.2.2.2.2.2.2.2.1 | exact hi.2.2.2.2.2.2.2.2.2.2.2.2.2.2.2.2.2.1 | exact hi.2.2.2.2.2.2.2.2.2.2.2.2.2.2.2.2.2.2.1 | exact hi.2.2.2.2.2.2.2.2.2.2.2.2.2.2.2.2.2.2.2.1 | exact hi.2.2.2.2.2.2.2.2.2.2.2.2.2.2.2.2.2.2.2.2.1 | exact hi.2.2.2.2.2.2.2.2.2.2.2.2.2.2.2.2.2.2.2.2.2.1 | exact hi.2.2.2.2.2.2.2.2.2.2.2.2.2.2.2.2.2.2.2.2.2.2.1 | exact hi.2.2.2.2.2.2.2.2.2.2.2.2.2.2.2.2.2.2.2.2.2.2.2.1 | exact hi.2.2.2.2.2.2.2.2.2.2.2.2.2.2.2.2.2.2.2.2.2.2.2.2.1 | simp) (by(try simp only [Ls]);omega)
  | false =>
   have q0:=eH h0
   try have hix:=yF (n:=a0.length) (i:=v23) (k:=v24) hk2 (by omega) (by have _:=h0;omega)
   try (have _:=h0;obtain⟨hi1,hi2,hi3,hi4⟩:=hix)
   have e:=Eq.refl (dW a0 a1 a2 (v22,v23,v24,v25,v26,v27,v28,v29,v30,v31,v32,v33,v34,v35,v36,v37,v38,v39,v40,v41));conv at e=>rhs;simp only [dW,h0,aW]
   rw [aN,e]
   refine ba [.d h0] [] [0,4,9,12,13,14,28,29,30] [4,5,6,7] hcx (m:=n1) sC (sD n0) (pM a0 a1 a2 (flat c3 v22) (v22.length) (W (v23+1)) v25 v26 v27 v28 v29 v30 v31 v32 v33 v34 v35 v36 v37 v38 v39 v40 v41) (by kernel_rfl) ?_
   have z0:(W (v23+1))=(v23+1):=aH (by omega) (by omega)
   rw [z0]
   exact g1 v22 (v23+1) v25 v26 v27 v28 v29 v30 v31 v32 v33 v34 v35 v36 v37 v38 v39 v40 v41 (by refine⟨?_,?_,?_,?_,?_,?_,?_,?_,?_,?_,?_,?_,?_⟩<;>(try simp only [Ls])<;>first | omega | assumption | exact hi.2.1 | exact hi.2.2.1 | exact hi.2.2.2.1 | exact hi.2.2.2.2.1 | exact hi.2.2.2.2.2.1 | exact hi.2.2.2.2.2.2.1 | exact hi.2.2.2.2.2.2.2.1 | exact hi.2.2.2.2.2.2.2.2.1 | exact hi.2.2.2.2.2.2.2.2.2.1 | exact hi.2.2.2.2.2.2.2.2.2.2.1 | exact hi.2.2.2.2.2.2.2.2.2.2.2.1 | exact hi.2.2.2.2.2.2.2.2.2.2.2.2.1 | simp) (by(try simp only [Ls]);omega)
theorem aP3 (a0:bE)(a1:List Int×aY)(a2:List (Int×Int×Bool))(l0:a0.length<=2^63-1)(l1_1:a1.1.length<=2^63-1)(l1_2:a1.2.length<=2^63-1)(l2:a2.length<=2^63-1) [h5:bL a0] {cx:Cx} (hcx:cx.base=4)
 (n0:Nat) (g0:∀(v1:List Int) (v2:Int),(0<=v2)/\(v1.length=a0.length*a0.length)/\(fC a0 (a1.1,a1.2)=0)->tN ((a2.length:Int) - v2) < n0->Aw.Good Tryz.prog none 9 (bodyPost Tryz.prog Tryz.f16 (RR cx (.t [(.v (.bool (aA (bJ a0 a1 a2) n0 (v1,v2)).1)),(iv (aA (bJ a0 a1 a2) n0 (v1,v2)).2)]) [] [])) cx [] (.l oK n0::oL) (mD a0 a1 a2 (flat c3 v1) v1.length v2)):∀(n:Nat) (v3:List Int) (v4 v5 v6 v7 v8 v9 v10 v11 v12 v13 v14 v15 v16 v17 v18 v19 v20 v21:Int),(0<=v4)/\(v3.length=a0.length*a0.length)/\(fC a0 (a1.1,a1.2)=0)/\(0<=v5)/\(0<=v4)/\(v7<=a0.length)/\(0<=v14)/\(v15<=a0.length)/\((0<=v5))/\((v3.length=a0.length*a0.length))/\((fC a0 (a1.1,a1.2)=0))/\(v5 < (a2.length:Int))/\(tN ((a2.length:Int) - v5) < n0+1)->tN (v7 - v4) < n->Aw.Good Tryz.prog none 9 (bodyPost Tryz.prog Tryz.f16 (RR cx (.t [(.v (.bool (bB (bJ a0 a1 a2) n0 (aA (dO a0 a1 a2) n (v3,v4,v5,v6,v7,v8,v9,v10,v11,v12,v13,v14,v15,v16,v17,v18,v19,v20,v21))).1)),(iv (bB (bJ a0 a1 a2) n0 (aA (dO a0 a1 a2) n (v3,v4,v5,v6,v7,v8,v9,v10,v11,v12,v13,v14,v15,v16,v17,v18,v19,v20,v21))).2)]) [] [])) cx [] (.l sC n::sD n0) (pM a0 a1 a2 (flat c3 v3) v3.length v4 v5 v6 v7 v8 v9 v10 v11 v12 v13 v14 v15 v16 v17 v18 v19 v20 v21):=by
 intro n
 induction n with
 | zero=>intro v3 v4 v5 v6 v7 v8 v9 v10 v11 v12 v13 v14 v15 v16 v17 v18 v19 v20 v21 hi hn;exact absurd hn (fO _)
 | succ n ih =>
  intro v3 v4 v5 v6 v7 v8 v9 v10 v11 v12 v13 v14 v15 v16 v17 v18 v19 v20 v21 hi hn
  refine aT ?_
  have hok:=jD (l:=a0) (t:=a1) (by omega)
  obtain⟨hk1,hk2,hk3,hk4⟩:=hok
  obtain⟨hq1,hq2,hq3,hq4⟩:=dD hk2
  cases h0:(decide ((v4:Int) < v7)) with
  | true =>
   have q0:=dL h0
   have e:=Eq.refl (dO a0 a1 a2 (v3,v4,v5,v6,v7,v8,v9,v10,v11,v12,v13,v14,v15,v16,v17,v18,v19,v20,v21));conv at e=>rhs;simp only [dO,h0,aW]
   rw [aN,e]
   refine en [.d h0] [] [0,4,9,12,13,14,15,28,29,30] [4,5,6,7] hcx yG (yH n0 n) (uR a0 a1 a2 (flat c3 v3) (v3.length) v4 v14 v5 v6 v7 v8 v9 v10 v11 v12 v13 v14 v15 v16 v17 v18 v19 v20 v21) (tN (v15 - v14)+1) (by kernel_rfl) ?_
   exact aP2 a0 a1 a2 l0 l1_1 l1_2 l2 hcx n0 g0 n ih (tN (v15 - v14)+1) v3 v4 v14 v5 v6 v7 v8 v9 v10 v11 v12 v13 v14 v15 v16 v17 v18 v19 v20 v21 (by refine⟨?_,?_,?_,?_,?_,?_,?_,?_,?_,?_,?_,?_,?_,?_,?_,?_,?_,?_,?_,?_,?_,?_,?_,?_,?_⟩<;>(try simp only [Ls])<;>first | omega | assumption | exact hi.2.1 | exact hi.2.2.1 | exact hi.2.2.2.1 | exact hi.2.2.2.2.1 | exact hi.2.2.2.2.2.1 | exact hi.2.2.2.2.2.2.1 | exact hi.2.2.2.2.2.2.2.1 | exact hi.2.2.2.2.2.2.2.2.1 | exact hi.2.2.2.2.2.2.2.2.2.1 | exact hi.2.2.2.2.2.2.2.2.2.2.1 | exact hi.2.2.2.2.2.2.2.2.2.2.2.1 | exact hi.2.2.2.2.2.2.2.2.2.2.2.2.1 | exact hi.2.2.2.2.2.2.2.2.2.2.2.2.2.1 | exact hi.2.2.2.2.2.2.2.2.2.2.2.2.2.2.1 | exact hi.2.2.2.2.2.2.2.2.2.2.2.2.2.2.2.1 | exact hi.2.2.2.2.2.2.2.2.2.2.2.2.2.2.2.2.1 | exact hi.2.2.2.2.2.2.2.2.2.2.2.2.2.2.2.2.2.1 | exact hi.2.2.2.2.2.2.2.2.2.2.2.2.2.2.2.2.2.2.1 | exact hi.2.2.2.2.2.2.2.2.2.2.2.2.2.2.2.2.2.2.2.1 | exact hi.2.2.2.2.2.2.2.2.2.2.2.2.2.2.2.2.2.2.2.2.1 | exact hi.2.2.2.2.2.2.2.2.2.2.2.2.2.2.2.2.2.2.2.2.2.1 | exact hi.2.2.2.2.2.2.2.2.2.2.2.2.2.2.2.2.2.2.2.2.2.2.1 | exact hi.2.2.2.2.2.2.2.2.2.2.2.2.2.2.2.2.2.2.2.2.2.2.2.1 | exact hi.2.2.2.2.2.2.2.2.2.2.2.2.2.2.2.2.2.2.2.2.2.2.2.2.1 | simp) (by(try simp only [Ls]);omega)
  | false =>
   have q0:=eH h0
   have e:=Eq.refl (dO a0 a1 a2 (v3,v4,v5,v6,v7,v8,v9,v10,v11,v12,v13,v14,v15,v16,v17,v18,v19,v20,v21));conv at e=>rhs;simp only [dO,h0,aW]
   rw [aN,e]
   refine ba [.d h0] [] [0,4,9,28,29,30] [4,5] hcx (m:=n0) oK (oL) (mD a0 a1 a2 (flat c3 v3) (v3.length) (W (v5+1))) (by kernel_rfl) ?_
   have z0:(W (v5+1))=(v5+1):=aH (by omega) (by omega)
   rw [z0]
   exact g0 v3 (v5+1) (by and_intros<;>(try simp only [Lt])<;>first | omega | assumption | exact hi.2.1 | exact hi.2.2.1 | exact InR.swap hi.2.1 (by omega) (by omega) | exact InR.swap hr (by omega) (by omega) | (simp only [List.length_replicate];omega)) (by(try simp only [Ls]);omega)
theorem aP4 (a0:bE)(a1:List Int×aY)(a2:List (Int×Int×Bool))(l0:a0.length<=2^63-1)(l1_1:a1.1.length<=2^63-1)(l1_2:a1.2.length<=2^63-1)(l2:a2.length<=2^63-1) [h5:bL a0] {cx:Cx} (hcx:cx.base=4):∀(n:Nat) (v1:List Int) (v2:Int),(0<=v2)/\(v1.length=a0.length*a0.length)/\(fC a0 (a1.1,a1.2)=0)->tN ((a2.length:Int) - v2) < n->Aw.Good Tryz.prog none 9 (bodyPost Tryz.prog Tryz.f16 (RR cx (.t [(.v (.bool (aA (bJ a0 a1 a2) n (v1,v2)).1)),(iv (aA (bJ a0 a1 a2) n (v1,v2)).2)]) [] [])) cx [] (.l oK n::oL) (mD a0 a1 a2 (flat c3 v1) v1.length v2):=by
 intro n
 induction n with
 | zero=>intro v1 v2 hi hn;exact absurd hn (fO _)
 | succ n ih =>
  intro v1 v2 hi hn
  refine aT ?_
  have hok:=jD (l:=a0) (t:=a1) (by omega)
  obtain⟨hk1,hk2,hk3,hk4⟩:=hok
  obtain⟨hq1,hq2,hq3,hq4⟩:=dD hk2
  try have hs1:=gC (t:=a1) hk4 h1
  try have hs2:=gC (t:=a1) hk4 h2
  cases h0:(decide ((v2:Int) < (a2.length:Int))) with
  | true =>
   have q0:=dL h0
   try have hs1:=gC (t:=a1) hk4 h1
   try have hs2:=gC (t:=a1) hk4 h2
   let t1:List (St Tryz.prog):=[.d h0,.i v2 (a2.length),.L pL a2 v2 0 3,.c [] (C34 (a2.getD (tN v2) dF).1 0 (W ((a1.2.length:Int) - 1)))]
   cases h1:(!(kM (a2.getD (tN v2) dF).1 0 (W ((a1.2.length:Int) - 1)))) with
   | true =>
    try have hs1:=gC (t:=a1) hk4 h1
    try have hs2:=gC (t:=a1) hk4 h2
    have e:=Eq.refl (bJ a0 a1 a2 (v1,v2));conv at e=>rhs;simp only [bJ,h0,h1,aW]
    rw [aN,e]
    exact rt (t1++[.d h1]) [] [] hcx (by kernel_rfl)
   | false =>
    try have hs1:=gC (t:=a1) hk4 h1
    try have hs2:=gC (t:=a1) hk4 h2
    let t2:List (St Tryz.prog):=(t1++[.d h1,.c [] (C34 (a2.getD (tN v2) dF).2.1 0 (W ((a1.2.length:Int) - 1)))])
    cases h2:(!(kM (a2.getD (tN v2) dF).2.1 0 (W ((a1.2.length:Int) - 1)))) with
    | true =>
     try have hs1:=gC (t:=a1) hk4 h1
     try have hs2:=gC (t:=a1) hk4 h2
     have e:=Eq.refl (bJ a0 a1 a2 (v1,v2));conv at e=>rhs;simp only [bJ,h0,h1,h2,aW]
     rw [aN,e]
     exact rt (t2++[.d h2]) [] [] hcx (by kernel_rfl)
    | false =>
     try have hs1:=gC (t:=a1) hk4 h1
     try have hs2:=gC (t:=a1) hk4 h2
     have e:=Eq.refl (bJ a0 a1 a2 (v1,v2));conv at e=>rhs;simp only [bJ,h0,h1,h2,aW]
     rw [aN,e]
     refine en (t2++[.d h2,.i ((a2.getD (tN v2) dF).1) (a1.2.length),.L dS a1.2 (a2.getD (tN v2) dF).1 0 8,.i ((a2.getD (tN v2) dF).2.1) (a1.2.length),.L dS a1.2 (a2.getD (tN v2) dF).2.1 0 8]) [] [0,4,9,12,13,14,28,29,30] [4,5,7,8] hcx sC (sD n) (pM a0 a1 a2 (flat c3 v1) (v1.length) ((a1.2.getD (tN (a2.getD (tN v2) dF).1) dF).1) v2 ((a1.2.getD (tN (a2.getD (tN v2) dF).1) dF).1) ((a1.2.getD (tN (a2.getD (tN v2) dF).1) dF).2.1) ((a1.2.getD (tN (a2.getD (tN v2) dF).1) dF).2.2.1) ((a1.2.getD (tN (a2.getD (tN v2) dF).1) dF).2.2.2.1) ((a1.2.getD (tN (a2.getD (tN v2) dF).1) dF).2.2.2.2.1.1) ((a1.2.getD (tN (a2.getD (tN v2) dF).1) dF).2.2.2.2.1.2.1) ((a1.2.getD (tN (a2.getD (tN v2) dF).1) dF).2.2.2.2.1.2.2) ((a1.2.getD (tN (a2.getD (tN v2) dF).1) dF).2.2.2.2.2) ((a1.2.getD (tN (a2.getD (tN v2) dF).2.1) dF).1) ((a1.2.getD (tN (a2.getD (tN v2) dF).2.1) dF).2.1) ((a1.2.getD (tN (a2.getD (tN v2) dF).2.1) dF).2.2.1) ((a1.2.getD (tN (a2.getD (tN v2) dF).2.1) dF).2.2.2.1) ((a1.2.getD (tN (a2.getD (tN v2) dF).2.1) dF).2.2.2.2.1.1) ((a1.2.getD (tN (a2.getD (tN v2) dF).2.1) dF).2.2.2.2.1.2.1) ((a1.2.getD (tN (a2.getD (tN v2) dF).2.1) dF).2.2.2.2.1.2.2) ((a1.2.getD (tN (a2.getD (tN v2) dF).2.1) dF).2.2.2.2.2)) (tN ((a1.2.getD (tN (a2.getD (tN v2) dF).1) dF).2.1 - (a1.2.getD (tN (a2.getD (tN v2) dF).1) dF).1)+1) (by kernel_rfl) ?_
     exact aP3 a0 a1 a2 l0 l1_1 l1_2 l2 hcx n ih (tN ((a1.2.getD (tN (a2.getD (tN v2) dF).1) dF).2.1 - (a1.2.getD (tN (a2.getD (tN v2) dF).1) dF).1)+1) v1 ((a1.2.getD (tN (a2.getD (tN v2) dF).1) dF).1) v2 ((a1.2.getD (tN (a2.getD (tN v2) dF).1) dF).1) ((a1.2.getD (tN (a2.getD (tN v2) dF).1) dF).2.1) ((a1.2.getD (tN (a2.getD (tN v2) dF).1) dF).2.2.1) ((a1.2.getD (tN (a2.getD (tN v2) dF).1) dF).2.2.2.1) ((a1.2.getD (tN (a2.getD (tN v2) dF).1) dF).2.2.2.2.1.1) ((a1.2.getD (tN (a2.getD (tN v2) dF).1) dF).2.2.2.2.1.2.1) ((a1.2.getD (tN (a2.getD (tN v2) dF).1) dF).2.2.2.2.1.2.2) ((a1.2.getD (tN (a2.getD (tN v2) dF).1) dF).2.2.2.2.2) ((a1.2.getD (tN (a2.getD (tN v2) dF).2.1) dF).1) ((a1.2.getD (tN (a2.getD (tN v2) dF).2.1) dF).2.1) ((a1.2.getD (tN (a2.getD (tN v2) dF).2.1) dF).2.2.1) ((a1.2.getD (tN (a2.getD (tN v2) dF).2.1) dF).2.2.2.1) ((a1.2.getD (tN (a2.getD (tN v2) dF).2.1) dF).2.2.2.2.1.1) ((a1.2.getD (tN (a2.getD (tN v2) dF).2.1) dF).2.2.2.2.1.2.1) ((a1.2.getD (tN (a2.getD (tN v2) dF).2.1) dF).2.2.2.2.1.2.2) ((a1.2.getD (tN (a2.getD (tN v2) dF).2.1) dF).2.2.2.2.2) (by refine⟨?_,?_,?_,?_,?_,?_,?_,?_,?_,?_,?_,?_,?_⟩<;>(try simp only [Ls])<;>first | omega | assumption | exact hi.2.1 | exact hi.2.2.1 | exact hi.2.2.2.1 | exact hi.2.2.2.2.1 | exact hi.2.2.2.2.2.1 | exact hi.2.2.2.2.2.2.1 | exact hi.2.2.2.2.2.2.2.1 | exact hi.2.2.2.2.2.2.2.2.1 | exact hi.2.2.2.2.2.2.2.2.2.1 | exact hi.2.2.2.2.2.2.2.2.2.2.1 | exact hi.2.2.2.2.2.2.2.2.2.2.2.1 | exact hi.2.2.2.2.2.2.2.2.2.2.2.2.1 | simp) (by(try simp only [Ls]);omega)
  | false =>
   have q0:=eH h0
   try have hs1:=gC (t:=a1) hk4 h1
   try have hs2:=gC (t:=a1) hk4 h2
   have e:=Eq.refl (bJ a0 a1 a2 (v1,v2));conv at e=>rhs;simp only [bJ,h0,aW]
   rw [aN,e]
   exact rt [.d h0,.c [5] (bDj v1 0 (by omega))] [] [] hcx (by kernel_rfl)
def gE (a0:bE)(a1:List Int×aY)(a2:List (Int×Int×Bool)):Bool×Int :=
 (bif (((fC a0 (a1.1,a1.2)):Int) != 0) then
  (false,(fC a0 (a1.1,a1.2)))
 else
  (aA (bJ a0 a1 a2) (tN ((a2.length:Int) - 0)+1) ((List.replicate (tN (W ((a0.length:Int)*(a0.length:Int)))) 0),0)))
theorem aWb (a0:bE)(a1:List Int×aY)(a2:List (Int×Int×Bool))(l0:a0.length<=2^63-1)(l1_1:a1.1.length<=2^63-1)(l1_2:a1.2.length<=2^63-1)(l2:a2.length<=2^63-1) [h5:bL a0]:Con Tryz.prog 16 [(.s 0 0 a0.length 10),(.a [(.s 1 0 a1.1.length 1),(.s 2 0 a1.2.length 8)]),(.s 3 0 a2.length 3)] [(.live false true (flat fK a0)),(.live false true (flat c3 a1.1)),(.live false true (flat dM a1.2)),(.live false true (flat iT a2))] (.t [(.v (.bool (gE a0 a1 a2).1)),(iv (gE a0 a1 a2).2)]) []:=by
 refine aU Tryz.func16 (by kernel_rfl) fun cx hcx=>?_
 try have hok:=jD (l:=a0) (t:=a1) (by have _:=h0;omega)
 try have hqq:=dD (n:=a0.length) (jD (l:=a0) (t:=a1) (by have _:=h0;omega)).2.1
 let t0:List (St Tryz.prog):=[.c [0,1,2] (aSw a0 (a1.1,a1.2) (by omega) (by(try simp only [Lt]);omega) (by(try simp only [Lt]);omega))]
 cases h0:(((fC a0 (a1.1,a1.2)):Int) != 0) with
 | true =>
  have q0:=bne_iff_ne.1 h0
  try have hok:=jD (l:=a0) (t:=a1) (by have _:=h0;omega)
  try have hqq:=dD (n:=a0.length) (jD (l:=a0) (t:=a1) (by have _:=h0;omega)).2.1
  have e:=Eq.refl (gE a0 a1 a2);conv at e=>rhs;simp only [gE,h0,aW]
  rw [e]
  exact rt (t0++[.d h0]) [] [] hcx (by kernel_rfl)
 | false =>
  have q0:=bne_eq_false_iff_eq.1 h0
  try have hok:=jD (l:=a0) (t:=a1) (by have _:=h0;omega)
  try have hqq:=dD (n:=a0.length) (jD (l:=a0) (t:=a1) (by have _:=h0;omega)).2.1
  have e:=Eq.refl (gE a0 a1 a2);conv at e=>rhs;simp only [gE,h0,aW]
  rw [e]
  refine en (t0++[.d h0,.Z c3 0 [(iv 0)] (W ((a0.length:Int)*(a0.length:Int))) 8]) [] [0,4,9,28,29,30] [4,5] hcx oK (oL) (mD a0 a1 a2 (flat c3 (List.replicate (tN (W ((a0.length:Int)*(a0.length:Int)))) 0)) (tN (W ((a0.length:Int)*(a0.length:Int)))) 0) (tN ((a2.length:Int) - 0)+1) (by kernel_rfl) ?_
  have q:=aP4 a0 a1 a2 l0 l1_1 l1_2 l2 hcx (tN ((a2.length:Int) - 0)+1) (List.replicate (tN (W ((a0.length:Int)*(a0.length:Int)))) 0) 0 (by and_intros<;>(try simp only [Lt])<;>first | omega | assumption | exact hi.2.1 | exact hi.2.2.1 | exact InR.swap hi.2.1 (by omega) (by omega) | exact InR.swap hr (by omega) (by omega) | (simp only [List.length_replicate];omega)) (by(try simp only [Ls]);omega)
  simp only [List.length_replicate] at q
  exact q
theorem aWc {l:bR} {t:TR} (h:eG l t=0):∀j:Int,0<=j/\j < l.length->0<=t.1.getD (tN j) dF/\t.1.getD (tN j) dF < l.length:=by
 obtain⟨hv,leaf,h1,_,rfl⟩:=mA h
 intro j hj
 have hb:=yD l hv.1 h1
 have hj2:tN j < (BT l leaf).1.length:=by omega
 have:=rG l.length _ ((aNz l h1).mem_iff.1 (List.getElem_mem hj2))
 rw [cV,List.getElem?_eq_getElem hj2]
 exact this
theorem sE {l:bR} {t:TR} (h:eG l (t.1,t.2)=0):t.1.length=l.length/\l.length<=96/\t.2.length<=192/\aLy t:=kO (t:=t) h
theorem aJf {l:bR} {t:TR} (h:eG l (t.1,t.2)=0):∀j:Int,0<=j/\j < l.length->0<=t.1.getD (tN j) dF/\t.1.getD (tN j) dF < l.length:=aWc (t:=t) h
abbrev LBK:=List BLK
def rg (f u:Int):List Int:=(List.range (tN (u - f))).map (fun j:Nat=>f+(j:Int))
theorem aDb {f u:Int} (h:u<=f):rg f u=[]:=by unfold rg;rw [show tN (u - f)=0 by omega];rfl
theorem vZ {f u:Int} (h:f < u):rg f u=f::rg (f+1) u:=by
 unfold rg
 rw [show tN (u - f)=tN (u - (f+1))+1 by omega,List.range_succ_eq_map,List.map_cons,List.map_map]
 refine List.cons_eq_cons.2 ⟨by omega,List.map_congr_left fun j _=>?_⟩
 show f+((j+1:Nat):Int)=f+1+(j:Int)
 omega
theorem yI {f u x:Int} (h:x∈rg f u):f<=x/\x < u:=by
 unfold rg at h
 obtain⟨j,hj,rfl⟩:=List.mem_map.1 h
 have:=List.mem_range.1 hj
 omega
theorem aS6 (f u:Int):(rg f u).length=tN (u - f):=by simp [rg]
def row (n i f u:Int):List Int:=(rg f u).map (fun k=>i*n+k)
def mN (n:Int)(N:List NDE)(x:BLK):List Int:=(rg (N.getD (tN x.1) dF).1 (N.getD (tN x.1) dF).2.1).flatMap fun i=>row n i (N.getD (tN x.2.1) dF).1 (N.getD (tN x.2.1) dF).2.1
def nS:List Int->List Int->Option (List Int)
 | [],D=>some D
 | c::cs,D=>if(inc D c).getD (tN c) dF > 1 then none else nS cs (inc D c)
theorem aDc:∀(a b D:List Int),nS (a++b) D=(nS a D).bind (nS b)
 | [],_,_=>rfl
 | c::a,b,D=>by
  rw [List.cons_append,nS,nS]
  split
  ·rfl
  ·exact aDc a b _
def pgo (l:bR)(t:TR):LBK->List Int->Bool×Int
 | [],D=>(!(tL D 0),0)
 | x::bs,D=>bif (!(kM x.1 0 (W ((t.2.length:Int) - 1)))) then(false,0) else bif (!(kM x.2.1 0 (W ((t.2.length:Int) - 1)))) then(false,0) else match nS (mN l.length t.2 x) D with | none=>(false,0) | some D'=>pgo l t bs D'
theorem aS7 {l:bR} {t:TR} {b:LBK} (hl:l.length<=96):∀(d n:Nat) (D:List Int) (i k w0 w1 u w3 w4 w5 w6 w7 w8 w9 e w11 w12 w13 w14 w15 w16:Int),tN (e - k)=d->d < n->0<=i->i < l.length->0<=k->e<=l.length ->
 aA (dW l t b) n (D,i,k,w0,w1,u,w3,w4,w5,w6,w7,w8,w9,e,w11,w12,w13,w14,w15,w16)=match nS (row l.length i k e) D with | none=>.inr (.inr (false,0)) | some D'=>.inl (D',i+1,w0,w1,u,w3,w4,w5,w6,w7,w8,w9,e,w11,w12,w13,w14,w15,w16)
 | 0,n,D,i,k,w0,w1,u,w3,w4,w5,w6,w7,w8,w9,e,w11,w12,w13,w14,w15,w16,hd,hn,h0,h1,h2,h3=>by
  obtain⟨n,rfl⟩:∃q,n=q+1:=⟨n - 1,by omega⟩
  rw [row,aDb (by omega)]
  refine aC ?_
  simp only [dW]
  rw [cC (show ¬k < e by omega)]
  rfl
 | d+1,n,D,i,k,w0,w1,u,w3,w4,w5,w6,w7,w8,w9,e,w11,w12,w13,w14,w15,w16,hd,hn,h0,h1,h2,h3=>by
  obtain⟨n,rfl⟩:∃q,n=q+1:=⟨n - 1,by omega⟩
  have hx:=yF (n:=l.length) (i:=i) (k:=k) hl ⟨h0,h1⟩ ⟨h2,by omega⟩
  rw [row,vZ (by omega),List.map_cons,nS]
  have ih:=aS7 (t:=t) (b:=b) hl d n (inc D (i*(l.length:Int)+k)) i (k+1) w0 w1 u w3 w4 w5 w6 w7 w8 w9 e w11 w12 w13 w14 w15 w16 (by omega) (by omega) h0 h1 (by omega) h3
  rw [row] at ih
  by_cases c:(inc D (i*(l.length:Int)+k)).getD (tN (i*(l.length:Int)+k)) dF > 1
  ·rw [if_pos c]
   refine aC ?_
   simp only [dW]
   rw [bG (show k < e by omega),cond_true,hx.2.1]
   have c2:(D.set (tN (i*(l.length:Int)+k)) (W (D.getD (tN (i*(l.length:Int)+k)) dF+1))).getD (tN (i*(l.length:Int)+k)) dF > 1:=c
   rw [bG c2]
   rfl
  ·rw [if_neg c,←ih]
   refine aB ?_
   simp only [dW]
   rw [bG (show k < e by omega),cond_true,hx.2.1]
   have c2:¬(D.set (tN (i*(l.length:Int)+k)) (W (D.getD (tN (i*(l.length:Int)+k)) dF+1))).getD (tN (i*(l.length:Int)+k)) dF > 1:=c
   rw [cC c2]
   rfl
theorem aS8 {l:bR} {t:TR} {b:LBK} (hl:l.length<=96):∀(d n:Nat) (D:List Int) (i w0 w1 u w3 w4 w5 w6 w7 w8 f e w11 w12 w13 w14 w15 w16:Int),tN (u - i)=d->d < n->0<=i->u<=l.length->0<=f->e<=l.length ->
 aA (dO l t b) n (D,i,w0,w1,u,w3,w4,w5,w6,w7,w8,f,e,w11,w12,w13,w14,w15,w16)=match nS ((rg i u).flatMap fun i=>row l.length i f e) D with | none=>.inr (false,0) | some D'=>.inl (D',w0+1)
 | 0,n,D,i,w0,w1,u,w3,w4,w5,w6,w7,w8,f,e,w11,w12,w13,w14,w15,w16,hd,hn,h0,h1,h2,h3=>by
  obtain⟨n,rfl⟩:∃q,n=q+1:=⟨n - 1,by omega⟩
  rw [aDb (by omega)]
  refine aC ?_
  simp only [dO]
  rw [cC (show ¬i < u by omega)]
  rfl
 | d+1,n,D,i,w0,w1,u,w3,w4,w5,w6,w7,w8,f,e,w11,w12,w13,w14,w15,w16,hd,hn,h0,h1,h2,h3=>by
  obtain⟨n,rfl⟩:∃q,n=q+1:=⟨n - 1,by omega⟩
  rw [vZ (by omega),List.flatMap_cons,aDc]
  have hs:=aS7 (t:=t) (b:=b) hl _ _ D i f w0 w1 u w3 w4 w5 w6 w7 w8 f e w11 w12 w13 w14 w15 w16 rfl (lss _) h0 (by omega) h2 h3
  have he:dO l t b (D,i,w0,w1,u,w3,w4,w5,w6,w7,w8,f,e,w11,w12,w13,w14,w15,w16)=aA (dW l t b) (tN (e - f)+1) (D,i,f,w0,w1,u,w3,w4,w5,w6,w7,w8,f,e,w11,w12,w13,w14,w15,w16):=by
   simp only [dO]
   rw [bG (show i < u by omega),cond_true]
  rw [hs] at he
  cases c:nS (row l.length i f e) D with
  | none =>
   rw [c] at he
   exact aC he
  | some D' =>
   rw [c] at he
   rw [Option.bind_some,←aS8 (t:=t) (b:=b) hl d n D' (i+1) w0 w1 u w3 w4 w5 w6 w7 w8 f e w11 w12 w13 w14 w15 w16 (by omega) (by omega) (by omega) h1 h2 h3]
   exact aB he
theorem aS9 {l:bR} {t:TR} {b:LBK} (hl:l.length<=96)(ht:t.1.length=l.length)(hk:aLy t):∀(d n:Nat) (D:List Int) (j:Nat),b.length - j=d->j<=b.length->d < n ->
 aA (bJ l t b) n (D,(j:Int))=pgo l t (b.drop j) D
 | 0,n,D,j,hd,hj,hn=>by
  obtain⟨n,rfl⟩:∃q,n=q+1:=⟨n - 1,by omega⟩
  rw [List.drop_eq_nil_of_le (by omega)]
  refine aC ?_
  simp only [bJ]
  rw [cC (show ¬(j:Int) < (b.length:Int) by omega)]
  rfl
 | d+1,n,D,j,hd,hj,hn=>by
  obtain⟨n,rfl⟩:∃q,n=q+1:=⟨n - 1,by omega⟩
  have h1:j < b.length:=by omega
  have hg:b.getD j dF=b[j]:=by rw [cV,List.getElem?_eq_getElem h1];rfl
  rw [List.drop_eq_getElem_cons h1,←hg,pgo]
  generalize hx:b.getD j dF=x
  cases c1:(!(kM x.1 0 (W ((t.2.length:Int) - 1)))) with
  | true =>
   refine aC ?_
   simp only [bJ,eX,hx]
   rw [bG (show(j:Int) < (b.length:Int) by omega),cond_true,c1]
   rfl
  | false =>
   cases c2:(!(kM x.2.1 0 (W ((t.2.length:Int) - 1)))) with
   | true =>
    refine aC ?_
    simp only [bJ,eX,hx]
    rw [bG (show(j:Int) < (b.length:Int) by omega),cond_true,c1,c2]
    rfl
   | false =>
    have n1:=gC hk c1
    have n2:=gC hk c2
    simp only [cond_false]
    have he:bJ l t b (D,(j:Int))=match nS (mN l.length t.2 x) D with | none=>.inr (false,0) | some D'=>.inl (D',(j:Int)+1):=by
     simp only [bJ,eX,hx]
     rw [bG (show(j:Int) < (b.length:Int) by omega),cond_true,c1,c2,cond_false,cond_false,aS8 (t:=t) (b:=b) hl _ _ _ _ _ _ _ _ _ _ _ _ _ _ _ _ _ _ _ _ _ rfl (lss _) n1.2.2.1 (by omega) n2.2.2.1 (by omega)]
     rfl
    cases c:nS (mN l.length t.2 x) D with
    | none =>
     rw [c] at he
     exact aC he
    | some D' =>
     rw [c] at he
     show _=pgo l t (b.drop (j+1)) D'
     rw [←aS9 (b:=b) hl ht hk d n D' (j+1) (by omega) (by omega) (by omega)]
     exact aB he
def bDk (t:TR)(n i f u:Int):List Int:=(rg f u).map (fun k=>t.1.getD (tN i) dF*n+t.1.getD (tN k) dF)
def bDl (n:Int)(t:TR)(x:BLK):List Int:=(rg (t.2.getD (tN x.1) dF).1 (t.2.getD (tN x.1) dF).2.1).flatMap fun i=>bDk t n i (t.2.getD (tN x.2.1) dF).1 (t.2.getD (tN x.2.1) dF).2.1
theorem aN2 {D:List Int} {a:Int}:∀(d n i:Nat),D.length - i=d->i<=D.length->d < n->(aA (fG D a) n (i:Int)≥0↔∃j,i<=j/\j < D.length/\D.getD j dF=a)
 | 0,n,i,hd,hi,hn=>by
  obtain⟨n,rfl⟩:∃q,n=q+1:=⟨n - 1,by omega⟩
  have e:aA (fG D a) (n+1) (i:Int)=-1:=by
   refine aC ?_
   simp only [fG]
   rw [cC (show ¬(i:Int) < (D.length:Int) by omega)]
   rfl
  rw [e]
  exact⟨fun h=>absurd h (by decide),fun⟨j,h1,h2,_⟩=>by omega⟩
 | d+1,n,i,hd,hi,hn=>by
  obtain⟨n,rfl⟩:∃q,n=q+1:=⟨n - 1,by omega⟩
  by_cases c:a=D.getD i dF
  ·have e:aA (fG D a) (n+1) (i:Int)=(i:Int):=by
    refine aC ?_
    simp only [fG,eX]
    rw [bG (show(i:Int) < (D.length:Int) by omega),cond_true,show((a:Int) == D.getD i dF)=true from beq_iff_eq.2 c]
    rfl
   rw [e]
   exact⟨fun _=>⟨i,Nat.le_refl _,by omega,c.symm⟩,fun _=>by omega⟩
  ·have e:aA (fG D a) (n+1) (i:Int)=aA (fG D a) n ((i+1:Nat):Int):=by
    refine aB ?_
    simp only [fG,eX]
    rw [bG (show(i:Int) < (D.length:Int) by omega),cond_true,show((a:Int) == D.getD i dF)=false from beq_eq_false_iff_ne.2 c]
    rfl
   rw [e]
   refine(aN2 (D:=D) (a:=a) d n (i+1) (by omega) (by omega) (by omega)).trans ⟨fun⟨j,h1,h2,h3⟩=>⟨j,by omega,h2,h3⟩,fun⟨j,h1,h2,h3⟩=>⟨j,?_,h2,h3⟩⟩
   by_cases ej:j=i
   ·subst ej;exact absurd h3.symm c
   ·omega
theorem aWd {D:List Int} {a:Int}:tL D a=true↔∃j,j < D.length/\D.getD j dF=a:=by
 unfold tL aJe
 rw [decide_eq_true_iff]
 refine(aN2 (D:=D) (a:=a) D.length _ 0 (by omega) (by omega) (by omega)).trans ⟨fun⟨j,_,h⟩=>⟨j,h⟩,fun⟨j,h⟩=>⟨j,Nat.zero_le _,h⟩⟩
theorem aDd (c:Int)(L:List Int)(i:Nat):((List.count (i:Int) (c::L):Nat):Int)=((List.count (i:Int) L:Nat):Int)+(if c=(i:Int) then 1 else 0):=by
 rw [List.count_cons]
 by_cases e:c=(i:Int)
 ·rw [if_pos e,if_pos (by rw [e];exact beq_self_eq_true _)];rfl
 ·rw [if_neg e,if_neg (by rw [beq_iff_eq];exact e)];rfl
theorem uS {α β:Type} {f g:α->List β}:∀(l:List α),(∀x∈l,f x=g x)->l.flatMap f=l.flatMap g
 | [],_=>rfl
 | x::l,h=>by rw [List.flatMap_cons,List.flatMap_cons,h x List.mem_cons_self,uS l (fun y hy=>h y (List.mem_cons_of_mem _ hy))]
theorem bAo {D:List Int} {c:Int} (hc:0<=c/\c < D.length)(hb:∀i,i < D.length->0<=D.getD i dF/\D.getD i dF<=4611686018427387904)(i:Nat):(inc D c).getD i dF=D.getD i dF+(if c=(i:Int) then 1 else 0):=by
 unfold inc
 by_cases e:c=(i:Int)
 ·have h1:i < D.length:=by omega
  have h2:=hb i h1
  rw [if_pos e,e,eX,bFk h1,aH (by omega) (by omega)]
 ·rw [if_neg e,bFl (by omega)];omega
theorem aJg:∀(L D:List Int),(∀c∈L,0<=c/\c < D.length)->(∀i,i < D.length->0<=D.getD i dF/\D.getD i dF<=1) ->
  match nS L D with
  | some D'=>D'.length=D.length/\(∀i:Nat,D'.getD i dF=D.getD i dF+(L.count (i:Int):Nat))/\∀i,i < D.length->D'.getD i dF<=1
  | none=>∃i,i < D.length/\2<=D.getD i dF+(L.count (i:Int):Nat)
 | [],D,_,hb=>by
  rw [nS]
  exact⟨rfl,fun i=>by simp,fun i hi=>(hb i hi).2⟩
 | c::L,D,h,hb=>by
  have hc:=h c List.mem_cons_self
  have ha:=bAo hc (fun j hj=>⟨(hb j hj).1,by have:=hb j hj;omega⟩)
  rw [nS]
  by_cases c1:(inc D c).getD (tN c) dF > 1
  ·rw [if_pos c1]
   refine⟨tN c,by omega,?_⟩
   rw [ha (tN c),if_pos (by omega)] at c1
   rw [aDd,if_pos (by omega)]
   omega
  ·rw [if_neg c1]
   have hb2:∀i,i < (inc D c).length->0<=(inc D c).getD i dF/\(inc D c).getD i dF<=1:=by
    intro i hi
    rw [aA0] at hi
    have:=hb i hi
    by_cases e:c=(i:Int)
    ·have e2:tN c=i:=by omega
     rw [e2] at c1
     rw [ha i] at c1 ⊢
     rw [if_pos e] at c1 ⊢
     omega
    ·rw [ha i,if_neg e];omega
   have ih:=aJg L (inc D c) (fun k hk=>by rw [aA0];exact h k (List.mem_cons_of_mem _ hk)) hb2
   cases c2:nS L (inc D c) with
   | none =>
    rw [c2] at ih
    obtain⟨i,h1,h2⟩:=ih
    rw [aA0] at h1
    rw [ha i] at h2
    refine⟨i,h1,?_⟩
    rw [aDd];omega
   | some D' =>
    rw [c2] at ih
    obtain⟨h1,h2,h3⟩:=ih
    rw [aA0] at h1 h3
    refine⟨h1,fun i=>?_,h3⟩
    rw [h2 i,ha i,aDd];omega
def okb (t:TR)(x:BLK):Bool:=kM x.1 0 (W ((t.2.length:Int) - 1))&&kM x.2.1 0 (W ((t.2.length:Int) - 1))
theorem aTa {l:bR} {t:TR}:∀(bs:LBK) (D:List Int),(∀x∈bs,okb t x=true)->pgo l t bs D=match nS (bs.flatMap (mN l.length t.2)) D with | none=>(false,0) | some D'=>(!(tL D' 0),0)
 | [],D,_=>rfl
 | x::bs,D,h=>by
  have hx:=h x List.mem_cons_self
  unfold okb at hx
  rw [Bool.and_eq_true] at hx
  rw [pgo,hx.1,hx.2,List.flatMap_cons,aDc]
  show(match nS (mN l.length t.2 x) D with | none=>(false,0) | some D'=>pgo l t bs D')=_
  cases nS (mN l.length t.2 x) D with
  | none=>rfl
  | some D'=>exact aTa bs D' (fun y hy=>h y (List.mem_cons_of_mem _ hy))
def phi (n:Int)(t:TR)(c:Int):Int:=t.1.getD (tN (c / n)) dF*n+t.1.getD (tN (c % n)) dF
theorem aL5 {n i k:Int} (h:0<=k/\k < n):(i*n+k) / n=i/\(i*n+k) % n=k:=by
 rw [Int.add_comm,Int.add_mul_ediv_right _ _ (by omega),Int.add_mul_emod_self_right,Int.ediv_eq_zero_of_lt h.1 h.2,Int.emod_eq_of_lt h.1 h.2]
 exact⟨by omega,rfl⟩
theorem aTb {l:bR} {t:TR} {x:BLK} (ht:t.1.length=l.length)(hk:aLy t)(hx:okb t x=true):bDl l.length t x=(mN l.length t.2 x).map (phi l.length t)/\∀c∈mN l.length t.2 x,0<=c/\c < (l.length:Int)*l.length:=by
 unfold okb at hx
 rw [Bool.and_eq_true] at hx
 have n1:=gC (x:=x.1) hk (by rw [hx.1];rfl)
 have n2:=gC (x:=x.2.1) hk (by rw [hx.2];rfl)
 refine⟨?_,fun c hc=>?_⟩
 ·unfold bDl mN bDk row
  rw [List.map_flatMap]
  refine uS _ fun i hi=>?_
  rw [List.map_map]
  refine List.map_congr_left fun k hk2=>?_
  have a1:=yI hi
  have a2:=yI hk2
  have a3:=aL5 (n:=l.length) (i:=i) (k:=k) (by omega)
  show _=phi l.length t (i*l.length+k)
  unfold phi
  rw [a3.1,a3.2]
 ·unfold mN row at hc
  obtain⟨i,hi,hc⟩:=List.mem_flatMap.1 hc
  obtain⟨k,hk2,rfl⟩:=List.mem_map.1 hc
  have a1:=yI hi
  have a2:=yI hk2
  have a3:=Int.mul_le_mul_of_nonneg_right (a:=i+1) (b:=l.length) (c:=l.length) (by omega) (by omega)
  have a4:=Int.mul_nonneg (a:=i) (b:=l.length) (by omega) (by omega)
  rw [Int.add_mul,Int.one_mul] at a3
  omega
def F66 (a0:Int×Int×Int×Int×Zt×Int):Bool :=
 (bif (kM a0.2.2.2.2.2 0 131072) then
  (bif (kM a0.2.2.2.2.1.1 (-64) 64) then
   (bif (kM a0.2.2.2.2.1.2.1 (-64) 64) then
    (kM a0.2.2.2.2.1.2.2 (-64) 64)
   else
    false)
  else
   false)
 else
  false)
theorem C66 (a0:Int×Int×Int×Int×Zt×Int):Con Tryz.prog 66 [(.a [(iv a0.1),(iv a0.2.1),(iv a0.2.2.1),(iv a0.2.2.2.1),(iv a0.2.2.2.2.1.1),(iv a0.2.2.2.2.1.2.1),(iv a0.2.2.2.2.1.2.2),(iv a0.2.2.2.2.2)])] [] (.v (.bool (F66 a0))) []:=by
 refine aU Tryz.func66 (by kernel_rfl) fun cx hcx=>?_
 let t0:List (St Tryz.prog):=[.c [] (C34 a0.2.2.2.2.2 0 131072)]
 cases h0:(kM a0.2.2.2.2.2 0 131072) with
 | true =>
  let t1:List (St Tryz.prog):=(t0++[.d h0,.c [] (C34 a0.2.2.2.2.1.1 (-64) 64)])
  cases h1:(kM a0.2.2.2.2.1.1 (-64) 64) with
  | true =>
   let t2:List (St Tryz.prog):=(t1++[.d h1,.c [] (C34 a0.2.2.2.2.1.2.1 (-64) 64)])
   cases h2:(kM a0.2.2.2.2.1.2.1 (-64) 64) with
   | true =>
    have e:=Eq.refl (F66 a0);conv at e=>rhs;simp only [F66,h0,h1,h2,aW]
    rw [e]
    exact rt (t2++[.d h2,.c [] (C34 a0.2.2.2.2.1.2.2 (-64) 64)]) [] [] hcx (by kernel_rfl)
   | false =>
    have e:=Eq.refl (F66 a0);conv at e=>rhs;simp only [F66,h0,h1,h2,aW]
    rw [e]
    exact rt (t2++[.d h2]) [] [] hcx (by kernel_rfl)
  | false =>
   have e:=Eq.refl (F66 a0);conv at e=>rhs;simp only [F66,h0,h1,aW]
   rw [e]
   exact rt (t1++[.d h1]) [] [] hcx (by kernel_rfl)
 | false =>
  have e:=Eq.refl (F66 a0);conv at e=>rhs;simp only [F66,h0,aW]
  rw [e]
  exact rt (t0++[.d h0]) [] [] hcx (by kernel_rfl)
noncomputable def aN3:Code:=(aO [1,1,0,1] [] (aI Tryz.f68) []).1
noncomputable def aN4:List K:=(aO [1,1,0,1] [] (aI Tryz.f68) []).2
def aG0 (a0:Int)(v1 v2:Int):LS:=⟨jH 22 [(0,(iv a0)),(3,(iv v1)),(4,(iv v2))],[]⟩
def tM (a0:Int):Int×Int->(Int×Int)⊕(Int)
 | (v1,v2) =>
  (bif (decide ((v2:Int) > 0)) then
   (bif (decide (((W ((W (v1+v2))*(W (v1+v2)))):Int)<=a0)) then
    (.inl ((W (v1+v2)),(v2 / 2)))
   else
    (.inl (v1,(v2 / 2))))
  else
   (.inr v1))
theorem bDm (a0:Int) {cx:Cx} (hcx:cx.base=0):∀(n:Nat) (v1 v2:Int),True->tN v2 < n->Aw.Good Tryz.prog none 9 (bodyPost Tryz.prog Tryz.f68 (RR cx (iv (aA (tM a0) n (v1,v2))) [] [])) cx [] (.l aN3 n::aN4) (aG0 a0 v1 v2):=by
 intro n
 induction n with
 | zero=>intro v1 v2 hi hn;exact absurd hn (fO _)
 | succ n ih =>
  intro v1 v2 hi hn
  refine aT ?_
  cases h0:(decide ((v2:Int) > 0)) with
  | true =>
   have q0:=dL h0
   let t1:List (St Tryz.prog):=[.d h0]
   cases h1:(decide (((W ((W (v1+v2))*(W (v1+v2)))):Int)<=a0)) with
   | true =>
    have q1:=dL h1
    have e:=Eq.refl (tM a0 (v1,v2));conv at e=>rhs;simp only [tM,h0,h1,aW]
    rw [aB e]
    refine ba (t1++[.d h1,.p (show 0<=(1:Int) from by decide)]) [] [0,3,4] [] hcx (m:=n) aN3 (aN4) (aG0 a0 (W (v1+v2)) (Int.fdiv v2 (2 ^ (min (tN 1) 64)))) (by kernel_rfl) ?_
    have z0:(Int.fdiv v2 (2 ^ (min (tN 1) 64)))=(v2 / 2):=xK _ 1 (by decide)
    rw [z0]
    exact ih (W (v1+v2)) (v2 / 2) trivial (by(try simp only [Ls]);omega)
   | false =>
    have q1:=eH h1
    have e:=Eq.refl (tM a0 (v1,v2));conv at e=>rhs;simp only [tM,h0,h1,aW]
    rw [aB e]
    refine ba (t1++[.d h1,.p (show 0<=(1:Int) from by decide)]) [] [0,3,4] [] hcx (m:=n) aN3 (aN4) (aG0 a0 v1 (Int.fdiv v2 (2 ^ (min (tN 1) 64)))) (by kernel_rfl) ?_
    have z0:(Int.fdiv v2 (2 ^ (min (tN 1) 64)))=(v2 / 2):=xK _ 1 (by decide)
    rw [z0]
    exact ih v1 (v2 / 2) trivial (by(try simp only [Ls]);omega)
  | false =>
   have q0:=eH h0
   have e:=Eq.refl (tM a0 (v1,v2));conv at e=>rhs;simp only [tM,h0,aW]
   rw [aN,e]
   exact rt [.d h0] [] [] hcx (by kernel_rfl)
def mJ (a0:Int):Int :=
 (aA (tM a0) (tN 1073741824+1) (0,1073741824))
theorem C68 (a0:Int):Con Tryz.prog 68 [(iv a0)] [] (iv (mJ a0)) []:=by
 refine aU Tryz.func68 (by kernel_rfl) fun cx hcx=>?_
 have e:=Eq.refl (mJ a0);conv at e=>rhs;simp only [mJ]
 rw [e]
 refine en [] [] [0,3,4] [] hcx aN3 (aN4) (aG0 a0 0 1073741824) (tN 1073741824+1) (by kernel_rfl) ?_
 exact bDm a0 hcx (tN 1073741824+1) 0 1073741824 trivial (by(try simp only [Ls]);omega)
def gU (a0:Int):Int :=
 (bif (decide (((W ((mJ a0)*(mJ a0))):Int) < a0)) then
  (W ((mJ a0)+1))
 else
  (mJ a0))
theorem C67 (a0:Int):Con Tryz.prog 67 [(iv a0)] [] (iv (gU a0)) []:=by
 refine aU Tryz.func67 (by kernel_rfl) fun cx hcx=>?_
 let t0:List (St Tryz.prog):=[.c [] (C68 a0)]
 cases h0:(decide (((W ((mJ a0)*(mJ a0))):Int) < a0)) with
 | true =>
  have q0:=dL h0
  have e:=Eq.refl (gU a0);conv at e=>rhs;simp only [gU,h0,aW]
  rw [e]
  exact rt (t0++[.d h0]) [] [] hcx (by kernel_rfl)
 | false =>
  have q0:=eH h0
  have e:=Eq.refl (gU a0);conv at e=>rhs;simp only [gU,h0,aW]
  rw [e]
  exact rt (t0++[.d h0]) [] [] hcx (by kernel_rfl)
def aTc (a0:Int):Int×Int->(Int×Int)⊕(Int)
 | (v1,v2) =>
  (bif (decide ((v2:Int) > 0)) then
   (bif (decide (((W ((W (v1+v2))*(W (v1+v2)))):Int)<=a0)) then
    (.inl ((W (v1+v2)),(W (Int.tdiv v2 2))))
   else
    (.inl (v1,(W (Int.tdiv v2 2)))))
  else
   (.inr v1))
def F89 (a0:Int):Int :=
 (aA (aTc a0) (tN 1073741824+1) (0,1073741824))
def F88 (a0:Int):Int :=
 (bif (decide (((W ((F89 a0)*(F89 a0))):Int) < a0)) then
  (W ((F89 a0)+1))
 else
  (F89 a0))
theorem yJ {n:Int} (h0:0<=n)(h:n < 4611686018427387904):IsRt n (mJ n):=by
 unfold mJ
 refine rV (n:=n) (fun k b hk hb hkb=>?_) (fun k=>?_) 30 _ 0 (by decide) (by omega) (by decide) (by omega) (by simpa using h)
 ·have h2:decide (b > 0)=true:=by simpa using hb
  have hw:W (k+b)=k+b:=aH (by omega) (by omega)
  have hq:=zN (a:=k+b) (by omega) hkb
  have hw2:W ((k+b)*(k+b))=(k+b)*(k+b):=aH (by omega) (by omega)
  simp only [tM,h2,cond_true,hw,hw2]
  by_cases hc:(k+b)*(k+b)<=n<;>simp [hc]
 ·simp [tM]
theorem aWe {n:Int} (h0:0<=n)(h:n < 4611686018427387904):IsRt n (F89 n):=by
 unfold F89
 refine rV (n:=n) (fun k b hk hb hkb=>?_) (fun k=>?_) 30 _ 0 (by decide) (by omega) (by decide) (by omega) (by simpa using h)
 ·have h2:decide (b > 0)=true:=by simpa using hb
  have hw:W (k+b)=k+b:=aH (by omega) (by omega)
  have hq:=zN (a:=k+b) (by omega) hkb
  have hw2:W ((k+b)*(k+b))=(k+b)*(k+b):=aH (by omega) (by omega)
  have hd:W (Int.tdiv b 2)=b / 2:=by rw [Int.tdiv_eq_ediv_of_nonneg (by omega)];exact aH (by omega) (by omega)
  simp only [aTc,h2,cond_true,hw,hw2]
  by_cases hc:(k+b)*(k+b)<=n<;>simp [hc,hd]
 ·simp [aTc]
abbrev ND:=Int×Int×Int×Int×Zt×Int
def knw (a:ND):Prop:=(0<=a.2.2.2.2.2/\a.2.2.2.2.2<=131072)/\bd 64 a.2.2.2.2.1
theorem bDn (n lo hi:Int):kM n lo hi=decide (lo<=n/\n<=hi):=by
 unfold kM
 by_cases h1:lo<=n<;>by_cases h2:n<=hi<;>simp [h1,h2]
open Classical in
theorem bAp (a:ND):F66 a=decide (knw a):=by
 unfold F66 knw bd
 simp only [bDn]
 by_cases h1:0<=a.2.2.2.2.2/\a.2.2.2.2.2<=131072<;>by_cases h2:-64<=a.2.2.2.2.1.1/\a.2.2.2.2.1.1<=64<;>by_cases h3:-64<=a.2.2.2.2.1.2.1/\a.2.2.2.2.1.2.1<=64<;>by_cases h4:-64<=a.2.2.2.2.1.2.2/\a.2.2.2.2.1.2.2<=64<;>simp [h1,h2,h3,h4]
theorem wA {a:ND} (h:(!(F66 a))=false):knw a:=by
 rw [bAp] at h;simpa using h
theorem bAq {n:Int} (h:aAk n<=64)(h2:n≥-64):-64<=n/\n<=64:=by
 unfold aAk at h
 split at h<;>omega
theorem bAr {n:Int} (h:-64<=n/\n<=64):aAk n<=64:=by
 unfold aAk
 rw [aH (by omega) (by omega)]
 split<;>omega
theorem w64:W (0 - 64)=-64:=rfl
theorem zX (x:P3):F86 x 64=true↔bd 64 x:=by
 unfold F86 bd
 rw [w64]
 constructor
 ·intro h
  by_cases h1:aAk x.1<=64<;>by_cases h2:aAk x.2.1<=64<;>by_cases h3:aAk x.2.2<=64<;>simp [h1,h2,h3] at h
  exact⟨bAq h1 h.1,bAq h2 h.2.1,bAq h3 h.2.2⟩
 ·intro h
  have h1:=bAr h.1;have h2:=bAr h.2.1;have h3:=bAr h.2.2
  simp [h1,h2,h3,h.1.1,h.2.1.1,h.2.2.1]
theorem aWf {p q:P3} (hp:bd 64 p)(hq:bd 64 q):vW (F65 p q)=ds p q/\0<=ds p q/\ds p q<=49152:=by
 have hs:bd 128 (sb p q):=kW hp hq
 have h1:=cL hs.1 hs.1;have h2:=cL hs.2.1 hs.2.1;have h3:=cL hs.2.2 hs.2.2
 have n1:=dP (sb p q).1;have n2:=dP (sb p q).2.1;have n3:=dP (sb p q).2.2
 have e:F65 p q=sb p q:=by
  unfold F65
  unfold bd at hp hq
  rw [aH (n:=p.1 - q.1) (by omega) (by omega),aH (n:=p.2.1 - q.2.1) (by omega) (by omega),aH (n:=p.2.2 - q.2.2) (by omega) (by omega)];rfl
 have e2:ds p q=(sb p q).1*(sb p q).1+(sb p q).2.1*(sb p q).2.1+(sb p q).2.2*(sb p q).2.2:=rfl
 refine⟨?_,by omega,by omega⟩
 rw [e]
 unfold vW
 rw [aH (n:=(sb p q).1*(sb p q).1) (by omega) (by omega),aH (n:=(sb p q).2.1*(sb p q).2.1) (by omega) (by omega),aH (n:=(sb p q).2.2*(sb p q).2.2) (by omega) (by omega),aZn (by omega) (by omega) (by omega)];rfl
theorem aWg {p q:P3} (hp:bd 64 p)(hq:bd 64 q):pG (pH p q)=ds p q:=aZy (hp.mono (by omega)) (hq.mono (by omega))
theorem rt2 {n:Int} (h0:0<=n)(h:n<=288230376151711744):F89 n=mJ n/\F88 n=gU n/\0<=mJ n/\mJ n<=gU n/\gU n<=536870913:=by
 have r1:=yJ h0 (by omega)
 have r2:=aWe h0 (by omega)
 have e:=r2.eq r1
 have hl:=r1.le (m:=536870912) (by omega) (by omega)
 have hn:=r1.1
 have hq:=zN (a:=mJ n) hn (by omega)
 refine⟨e,?_,hn,?_,?_⟩
 ·unfold F88 gU;rw [e]
 ·unfold gU
  rw [aH (n:=mJ n*mJ n) (by omega) (by omega),aH (n:=mJ n+1) (by omega) (by omega),Bool.cond_eq_ite]
  split<;>omega
 ·unfold gU
  rw [aH (n:=mJ n*mJ n) (by omega) (by omega),aH (n:=mJ n+1) (by omega) (by omega),Bool.cond_eq_ite]
  split<;>omega
theorem sF {n:Int} (h:0<=n/\n<=131072):W (n*1099511627776)=n*1099511627776/\W (W (n*1048576)*1048576)=n*1099511627776:=by
 refine⟨aH (by omega) (by omega),?_⟩
 rw [aH (n:=n*1048576) (by omega) (by omega),show n*1048576*1048576=n*1099511627776 by omega,aH (by omega) (by omega)]
section
variable {a b : ND}
theorem uT (ha:knw a)(hb:knw b)(h2:decide (mJ (W ((vW (F65 a.2.2.2.2.1 b.2.2.2.2.1))*1099511627776))<=W ((gU (W (a.2.2.2.2.2*1099511627776)))+(gU (W (b.2.2.2.2.2*1099511627776)))))=false) :
 W ((gU (W ((vW (F65 a.2.2.2.2.1 b.2.2.2.2.1))*1099511627776)))+(W ((gU (W (a.2.2.2.2.2*1099511627776)))+(gU (W (b.2.2.2.2.2*1099511627776))))))≠0 /\
 W ((mJ (W ((vW (F65 a.2.2.2.2.1 b.2.2.2.2.1))*1099511627776))) - (W ((gU (W (a.2.2.2.2.2*1099511627776)))+(gU (W (b.2.2.2.2.2*1099511627776))))))≠0:=by
 have h2:=eH h2
 obtain⟨e,d0,d1⟩:=aWf ha.2 hb.2
 rw [e,(sF (n:=ds a.2.2.2.2.1 b.2.2.2.2.1) (by omega)).1,(sF ha.1).1,(sF hb.1).1] at h2 ⊢
 have hD:=rt2 (n:=ds a.2.2.2.2.1 b.2.2.2.2.1*1099511627776) (by omega) (by omega)
 have hA:=rt2 (n:=a.2.2.2.2.2*1099511627776) (by have:=ha.1;omega) (by have:=ha.1;omega)
 have hB:=rt2 (n:=b.2.2.2.2.2*1099511627776) (by have:=hb.1;omega) (by have:=hb.1;omega)
 rw [aH (n:=gU (a.2.2.2.2.2*1099511627776)+gU (b.2.2.2.2.2*1099511627776)) (by omega) (by omega)] at h2 ⊢
 rw [aH (by omega) (by omega),aH (by omega) (by omega)]
 omega
end
def zZ (a0:Int×Int×Int×Int×Zt×Int)(a1:Int×Int×Int×Int×Zt×Int):(Int×Int)×Int :=
 (bif (!(F66 a0)) then
  ((0,0),1)
 else
  (bif (!(F66 a1)) then
   ((0,0),1)
  else
   (bif (decide (((mJ (W ((vW (F65 a0.2.2.2.2.1 a1.2.2.2.2.1))*1099511627776))):Int)<=(W ((gU (W (a0.2.2.2.2.2*1099511627776)))+(gU (W (a1.2.2.2.2.2*1099511627776))))))) then
    ((0,0),10)
   else
    (((W (Int.tdiv 1099511627776 (W ((gU (W ((vW (F65 a0.2.2.2.2.1 a1.2.2.2.2.1))*1099511627776)))+(W ((gU (W (a0.2.2.2.2.2*1099511627776)))+(gU (W (a1.2.2.2.2.2*1099511627776))))))))),(W (Int.tdiv (W ((W (1099511627776+(W ((mJ (W ((vW (F65 a0.2.2.2.2.1 a1.2.2.2.2.1))*1099511627776))) - (W ((gU (W (a0.2.2.2.2.2*1099511627776)))+(gU (W (a1.2.2.2.2.2*1099511627776))))))))) - 1)) (W ((mJ (W ((vW (F65 a0.2.2.2.2.1 a1.2.2.2.2.1))*1099511627776))) - (W ((gU (W (a0.2.2.2.2.2*1099511627776)))+(gU (W (a1.2.2.2.2.2*1099511627776)))))))))),0))))
theorem C39 (a0:Int×Int×Int×Int×Zt×Int)(a1:Int×Int×Int×Int×Zt×Int):Con Tryz.prog 39 [(.a [(iv a0.1),(iv a0.2.1),(iv a0.2.2.1),(iv a0.2.2.2.1),(iv a0.2.2.2.2.1.1),(iv a0.2.2.2.2.1.2.1),(iv a0.2.2.2.2.1.2.2),(iv a0.2.2.2.2.2)]),(.a [(iv a1.1),(iv a1.2.1),(iv a1.2.2.1),(iv a1.2.2.2.1),(iv a1.2.2.2.2.1.1),(iv a1.2.2.2.2.1.2.1),(iv a1.2.2.2.2.1.2.2),(iv a1.2.2.2.2.2)])] [] (.t [(.a (k2 (zZ a0 a1).1)),(iv (zZ a0 a1).2)]) []:=by
 refine aU Tryz.func39 (by kernel_rfl) fun cx hcx=>?_
 try have hnz:=uT (wA h0) (wA h1) h2
 try have hnz1:=(fun _=>hnz.1) h2
 try have hnz2:=(fun _=>hnz.2) h2
 let t0:List (St Tryz.prog):=[.c [] (C66 a0)]
 cases h0:(!(F66 a0)) with
 | true =>
  try have hnz:=uT (wA h0) (wA h1) h2
  try have hnz1:=(fun _=>hnz.1) h2
  try have hnz2:=(fun _=>hnz.2) h2
  have e:=Eq.refl (zZ a0 a1);conv at e=>rhs;simp only [zZ,h0,aW]
  rw [e]
  exact rt (t0++[.d h0]) [] [] hcx (by kernel_rfl)
 | false =>
  try have hnz:=uT (wA h0) (wA h1) h2
  try have hnz1:=(fun _=>hnz.1) h2
  try have hnz2:=(fun _=>hnz.2) h2
  let t1:List (St Tryz.prog):=(t0++[.d h0,.c [] (C66 a1)])
  cases h1:(!(F66 a1)) with
  | true =>
   try have hnz:=uT (wA h0) (wA h1) h2
   try have hnz1:=(fun _=>hnz.1) h2
   try have hnz2:=(fun _=>hnz.2) h2
   have e:=Eq.refl (zZ a0 a1);conv at e=>rhs;simp only [zZ,h0,h1,aW]
   rw [e]
   exact rt (t1++[.d h1]) [] [] hcx (by kernel_rfl)
  | false =>
   try have hnz:=uT (wA h0) (wA h1) h2
   try have hnz1:=(fun _=>hnz.1) h2
   try have hnz2:=(fun _=>hnz.2) h2
   let t2:List (St Tryz.prog):=(t1++[.d h1,.c [] (C65 a0.2.2.2.2.1 a1.2.2.2.2.1),.c [] (C64 (F65 a0.2.2.2.2.1 a1.2.2.2.2.1)),.c [] (C67 (W (a0.2.2.2.2.2*1099511627776))),.c [] (C67 (W (a1.2.2.2.2.2*1099511627776))),.c [] (C68 (W ((vW (F65 a0.2.2.2.2.1 a1.2.2.2.2.1))*1099511627776)))])
   cases h2:(decide (((mJ (W ((vW (F65 a0.2.2.2.2.1 a1.2.2.2.2.1))*1099511627776))):Int)<=(W ((gU (W (a0.2.2.2.2.2*1099511627776)))+(gU (W (a1.2.2.2.2.2*1099511627776))))))) with
   | true =>
    have q2:=dL h2
    try have hnz:=uT (wA h0) (wA h1) h2
    try have hnz1:=(fun _=>hnz.1) h2
    try have hnz2:=(fun _=>hnz.2) h2
    have e:=Eq.refl (zZ a0 a1);conv at e=>rhs;simp only [zZ,h0,h1,h2,aW]
    rw [e]
    exact rt (t2++[.d h2]) [] [] hcx (by kernel_rfl)
   | false =>
    have q2:=eH h2
    try have hnz:=uT (wA h0) (wA h1) h2
    try have hnz1:=(fun _=>hnz.1) h2
    try have hnz2:=(fun _=>hnz.2) h2
    have e:=Eq.refl (zZ a0 a1);conv at e=>rhs;simp only [zZ,h0,h1,h2,aW]
    rw [e]
    exact rt (t2++[.d h2,.c [] (C68 (W ((vW (F65 a0.2.2.2.2.1 a1.2.2.2.2.1))*1099511627776))),.c [] (C67 (W ((vW (F65 a0.2.2.2.2.1 a1.2.2.2.2.1))*1099511627776))),.p (show((W ((gU (W ((vW (F65 a0.2.2.2.2.1 a1.2.2.2.2.1))*1099511627776)))+(W ((gU (W (a0.2.2.2.2.2*1099511627776)))+(gU (W (a1.2.2.2.2.2*1099511627776))))))):Int)≠0 from by first | omega | (rw [aH]<;>omega) | exact pB _),.p (show((W ((mJ (W ((vW (F65 a0.2.2.2.2.1 a1.2.2.2.2.1))*1099511627776))) - (W ((gU (W (a0.2.2.2.2.2*1099511627776)))+(gU (W (a1.2.2.2.2.2*1099511627776))))))):Int)≠0 from by first | omega | (rw [aH]<;>omega) | exact pB _)]) [] [] hcx (by kernel_rfl)
noncomputable def fsV (a b:ND):(Int×Int)×Int :=
 open Classical in if knw a/\knw b then
  (let R:=gU (a.2.2.2.2.2*1099511627776)+gU (b.2.2.2.2.2*1099511627776)
   let D:=ds a.2.2.2.2.1 b.2.2.2.2.1*1099511627776
   if mJ D<=R then((0,0),10) else((W (Int.tdiv 1099511627776 (gU D+R)),W (Int.tdiv (1099511627776+mJ D - R - 1) (mJ D - R))),0)) else((0,0),1)
open Classical in
theorem bFn (a b:ND):zZ a b=fsV a b:=by
 unfold zZ fsV
 rw [bAp,bAp]
 by_cases ha:knw a
 ·by_cases hb:knw b
  ·obtain⟨e,d0,d1⟩:=aWf ha.2 hb.2
   have hD:=rt2 (n:=ds a.2.2.2.2.1 b.2.2.2.2.1*1099511627776) (by omega) (by omega)
   have hA:=rt2 (n:=a.2.2.2.2.2*1099511627776) (by have:=ha.1;omega) (by have:=ha.1;omega)
   have hB:=rt2 (n:=b.2.2.2.2.2*1099511627776) (by have:=hb.1;omega) (by have:=hb.1;omega)
   rw [e,(sF (n:=ds a.2.2.2.2.1 b.2.2.2.2.1) (by omega)).1,(sF ha.1).1,(sF hb.1).1,if_pos ⟨ha,hb⟩]
   rw [aH (n:=gU (a.2.2.2.2.2*1099511627776)+gU (b.2.2.2.2.2*1099511627776)) (by omega) (by omega)]
   simp only [bG ha,bG hb,Bool.not_true,cond_false]
   by_cases hc:mJ (ds a.2.2.2.2.1 b.2.2.2.2.1*1099511627776)<=gU (a.2.2.2.2.2*1099511627776)+gU (b.2.2.2.2.2*1099511627776)
   ·rw [bG hc,cond_true,if_pos hc]
   ·rw [cC hc,cond_false,if_neg hc]
    rw [aH (n:=gU (ds a.2.2.2.2.1 b.2.2.2.2.1*1099511627776)+(gU (a.2.2.2.2.2*1099511627776)+gU (b.2.2.2.2.2*1099511627776))) (by omega) (by omega),
     aH (n:=mJ (ds a.2.2.2.2.1 b.2.2.2.2.1*1099511627776) - (gU (a.2.2.2.2.2*1099511627776)+gU (b.2.2.2.2.2*1099511627776))) (by omega) (by omega),
     aH (n:=1099511627776+(mJ (ds a.2.2.2.2.1 b.2.2.2.2.1*1099511627776) - (gU (a.2.2.2.2.2*1099511627776)+gU (b.2.2.2.2.2*1099511627776)))) (by omega) (by omega),
     aH (n:=1099511627776+(mJ (ds a.2.2.2.2.1 b.2.2.2.2.1*1099511627776) - (gU (a.2.2.2.2.2*1099511627776)+gU (b.2.2.2.2.2*1099511627776))) - 1) (by omega) (by omega)]
    rw [show(1099511627776+(mJ (ds a.2.2.2.2.1 b.2.2.2.2.1*1099511627776) - (gU (a.2.2.2.2.2*1099511627776)+gU (b.2.2.2.2.2*1099511627776))) - 1)=1099511627776+mJ (ds a.2.2.2.2.1 b.2.2.2.2.1*1099511627776) - (gU (a.2.2.2.2.2*1099511627776)+gU (b.2.2.2.2.2*1099511627776)) - 1 by omega]
  ·rw [if_neg (fun h=>hb h.2)];simp [ha,hb]
 ·rw [if_neg (fun h=>ha h.1)];simp [ha]
theorem aL6 {f c u:Int} (h:f<=c/\c<=u):rg f c++rg c u=rg f u:=by
 obtain⟨d,hd⟩:∃d:Nat,tN (c - f)=d:=⟨_,rfl⟩
 induction d generalizing f with
 | zero=>rw [show c=f by omega,aDb (Int.le_refl f)];rfl
 | succ d ih=>rw [vZ (f:=f) (u:=c) (by omega),List.cons_append,ih ⟨by omega,h.2⟩ (by omega),←vZ (f:=f) (u:=u) (by omega)]
theorem aWh {n i f c u:Int} (h:f<=c/\c<=u):row n i f c++row n i c u=row n i f u:=by
 unfold row
 rw [←List.map_append,aL6 h]
theorem aWi {α β:Type} (l:List α)(f g:α->List β):(l.flatMap f++l.flatMap g).Perm (l.flatMap fun x=>f x++g x):=by
 induction l with
 | nil=>exact List.Perm.refl _
 | cons x l ih =>
  rw [List.flatMap_cons,List.flatMap_cons,List.flatMap_cons]
  refine List.Perm.trans ?_ (List.Perm.append_left (f x++g x) ih)
  rw [List.append_assoc,List.append_assoc]
  refine List.Perm.append_left (f x) ?_
  rw [←List.append_assoc,←List.append_assoc]
  exact List.Perm.append_right _ List.perm_append_comm
def cel (n f u f' u':Int):List Int:=(rg f u).flatMap fun a=>row n a f' u'
theorem aWj {n f c u f' u':Int} (h:f<=c/\c<=u):cel n f c f' u'++cel n c u f' u'=cel n f u f' u':=by
 unfold cel
 rw [←List.flatMap_append,aL6 h]
theorem aTd {n f u f' c u':Int} (h:f'<=c/\c<=u'):(cel n f u f' c++cel n f u c u').Perm (cel n f u f' u'):=by
 unfold cel
 refine(aWi _ _ _).trans ?_
 rw [uS (rg f u) (fun a _=>aWh h)]
theorem wB (w:Int):∀(nr:Nat) (t:TR) (i k sep:Int) (m:Nat) (f u h:Int) (m':Nat) (f' u' h':Int),TRE t.2 (tN i) m f u h->TRE t.2 (tN k) m' f' u' h'->0<=i->0<=k->(t.2.length - tN i)+(t.2.length - tN k) < nr ->
 ((eE nr t i k sep).flatMap (mN w t.2)).Perm (cel w f u f' u')/\∀x∈eE nr t i k sep,(0<=x.1/\x.1 < t.2.length)/\(0<=x.2.1/\x.2.1 < t.2.length)
 | 0,_,_,_,_,_,_,_,_,_,_,_,_,_,_,_,_,h=>absurd h (fO _)
 | nr+1,t,i,k,sep,m,f,u,h,m',f',u',h',H,K,hi,hk,hn=>by
  have hb:=cJ H
  have kb:=cJ K
  have hs:∀b:Bool,(([(i,k,b)]:List BLK).flatMap (mN w t.2)).Perm (cel w f u f' u')/\∀x∈([(i,k,b)]:List BLK),(0<=x.1/\x.1 < t.2.length)/\(0<=x.2.1/\x.2.1 < t.2.length):=by
   intro b
   refine⟨?_,fun x hx=>?_⟩
   ·rw [List.flatMap_cons,List.flatMap_nil,List.append_nil]
    unfold mN cel
    simp only
    rw [hb.2.2.2.2.2.1,hb.2.2.2.2.2.2,kb.2.2.2.2.2.1,kb.2.2.2.2.2.2]
   ·obtain rfl:=List.mem_singleton.1 hx
    exact⟨⟨hi,by simp only;omega⟩,hk,by simp only;omega⟩
  have hA:¬(t.2.getD (tN i) dF).2.2.1 < 0->((nQ (eE nr) t i k sep++nR (eE nr) t i k sep).flatMap (mN w t.2)).Perm (cel w f u f' u')/\∀x∈nQ (eE nr) t i k sep++nR (eE nr) t i k sep,(0<=x.1/\x.1 < t.2.length)/\(0<=x.2.1/\x.2.1 < t.2.length):=by
   intro hq
   rcases iB H with⟨_,_,h5,_⟩ | ⟨m1,m2,c,h1,h2,e8,g4,g5,b1,b2,e9⟩
   ·omega
   ·have l1:=cJ b1
    have l2:=cJ b2
    have c1:=wB w nr t (t.2.getD (tN i) dF).2.2.1 k sep m1 f c h1 m' f' u' h' (by rw [g4,eX];exact b1) K (by omega) hk (by omega)
    have c2:=wB w nr t (t.2.getD (tN i) dF).2.2.2.1 k sep m2 c u h2 m' f' u' h' (by rw [g5,eX];exact b2) K (by omega) hk (by omega)
    refine⟨?_,fun x hx=>?_⟩
    ·rw [List.flatMap_append,←aWj (c:=c) (by omega)]
     exact c1.1.append c2.1
    ·rcases List.mem_append.1 hx with hx | hx
     ·exact c1.2 x hx
     ·exact c2.2 x hx
  have hB:¬(t.2.getD (tN k) dF).2.2.1 < 0->((mB (eE nr) t i k sep++mC (eE nr) t i k sep).flatMap (mN w t.2)).Perm (cel w f u f' u')/\∀x∈mB (eE nr) t i k sep++mC (eE nr) t i k sep,(0<=x.1/\x.1 < t.2.length)/\(0<=x.2.1/\x.2.1 < t.2.length):=by
   intro hq
   rcases iB K with⟨_,_,h5,_⟩ | ⟨m1,m2,c,h1,h2,e8,g4,g5,b1,b2,e9⟩
   ·omega
   ·have l1:=cJ b1
    have l2:=cJ b2
    have c1:=wB w nr t i (t.2.getD (tN k) dF).2.2.1 sep m f u h m1 f' c h1 H (by rw [g4,eX];exact b1) hi (by omega) (by omega)
    have c2:=wB w nr t i (t.2.getD (tN k) dF).2.2.2.1 sep m f u h m2 c u' h2 H (by rw [g5,eX];exact b2) hi (by omega) (by omega)
    refine⟨?_,fun x hx=>?_⟩
    ·rw [List.flatMap_append]
     exact(c1.1.append c2.1).trans (aTd (by omega))
    ·rcases List.mem_append.1 hx with hx | hx
     ·exact c1.2 x hx
     ·exact c2.2 x hx
  have hJ:((iF (eE nr) t i k sep ()).flatMap (mN w t.2)).Perm (cel w f u f' u')/\∀x∈iF (eE nr) t i k sep (),(0<=x.1/\x.1 < t.2.length)/\(0<=x.2.1/\x.2.1 < t.2.length):=by
   simp only [iF]
   by_cases z5:(t.2.getD (tN i) dF).2.2.1 < 0<;>by_cases z6:(t.2.getD (tN k) dF).2.2.1 < 0
   ·rw [bG z5,bG z6,cond_true,cond_true];exact hs false
   ·rw [bG z5,cC z6,cond_true,cond_false,cC (show ¬(t.2.getD (tN i) dF).2.2.1≥0 by omega),cond_false];exact hB z6
   ·rw [cC z5,bG z6,cond_false,cond_true];exact hA z5
   ·rw [cC z5,cC z6,cond_false,cond_false,bG (show(t.2.getD (tN i) dF).2.2.1≥0 by omega),cond_true,Bool.cond_eq_ite]
    split
    ·exact hA z5
    ·exact hB z6
  simp only [eE]
  rw [Bool.cond_eq_ite]
  split
  ·rw [Bool.cond_eq_ite]
   split
   ·exact hs true
   ·exact hJ
  ·exact hJ
theorem nB {l:bR} {t:TR} (sep:Int)(h:eG l t=0):((F85 t sep).flatMap (mN l.length t.2)).Perm (cel l.length 0 l.length 0 l.length)/\(∀x∈F85 t sep,(0<=x.1/\x.1 < t.2.length)/\(0<=x.2.1/\x.2.1 < t.2.length))/\(F85 t sep).length<=9216:=by
 obtain⟨hv,leaf,h1,_,rfl⟩:=mA h
 have hl:=hv.1
 rcases aGt l h1 with⟨e0,e⟩ | ⟨hh,H⟩
 ·rw [e,e0]
  exact⟨List.Perm.refl _,⟨fun x hx=>(by cases hx),Nat.zero_le _⟩⟩
 ·have hw:=cJ H
  unfold F85
  rw [show((((BT l leaf).2.length:Nat):Int) == 0)=false by rw [beq_eq_false_iff_ne];omega,cond_false]
  simp only [bAk]
  have qa:=wB l.length _ (BT l leaf) 0 0 sep _ _ _ _ _ _ _ _ H H (Int.le_refl _) (Int.le_refl _) (lss _)
  have qb:=vX _ (BT l leaf) 0 0 sep _ _ _ _ _ _ _ _ H H (Int.le_refl _) (Int.le_refl _) (lss _)
  refine⟨qa.1,qa.2,?_⟩
  have hm:((l.length:Int) - 0)*((l.length:Int) - 0)<=96*96:=Int.mul_le_mul (by omega) (by omega) (by omega) (by omega)
  exact Int.ofNat_le.1 (Int.le_trans qb hm)
end Go.Proofs.YtlckcjfbjnjfhaaGreat
namespace Go.Proofs.YtlckcjfbjnjfhaaGreat
open Go.Proofs Go.Aw Go.RowKit
set_option maxRecDepth 100000
def tO (a0:List Int):List Int :=
 (([]:List Int)++a0)
theorem bDo (a0:List Int)(l0:a0.length<=2^63-1)(hne:a0.length≠0)(h40:a0.length<=1048576):Con Tryz.prog 61 [(.s 0 0 a0.length 1)] [(.live false true (flat c3 a0))] (.s 1 0 (tO a0).length 1) [(.live true true (flat c3 (tO a0)))]:=by
 refine aU Tryz.func61 (by kernel_rfl) fun cx hcx=>?_
 have e:=Eq.refl (tO a0);conv at e=>rhs;simp only [tO]
 rw [e]
 rw [show flat c3 (([]:List Int)++a0)=(([]:List SV)++(flat c3 a0)) from Eq.symm (by simp [flat])]
 rw [show(([]:List Int)++a0).length=(0+a0.length) from by simp]
 exact rt [.p (show(a0.length:Nat)≠0 from by first | omega | (rw [aH]<;>omega) | exact pB _),.F,.p (show(([]:List SV).length=0*1/\(flat c3 a0).length=a0.length*1/\(flat c3 a0).all SV.one=true/\0+a0.length<=2 ^ 40/\(0+a0.length)*8<=2 ^ 47) from by refine⟨?_,?_,?_,?_,?_⟩<;>first | omega | exact aCo (fun _=>rfl) | (simp [eJ cZ];done) | (simp [eJ cZ];omega))] [] [2] hcx (by kernel_rfl)
def aN5:List Int :=
 ([]:List Int)
theorem bDp:Con Tryz.prog 61 [(.v (.slice none 0 0))] [] (.s 0 0 aN5.length 1) [(.live true true (flat c3 aN5))]:=by
 refine aU Tryz.func61 (by kernel_rfl) fun cx hcx=>?_
 have e:=Eq.refl aN5;conv at e=>rhs;simp only [aN5]
 rw [e]
 exact rt [.T] [.slot 2 1] [0] hcx (by kernel_rfl)
def tP (a0:aY):aY :=
 (([]:aY)++a0)
theorem bDq (a0:aY)(l0:a0.length<=2^63-1)(hne:a0.length≠0)(h40:a0.length<=1048576):Con Tryz.prog 62 [(.s 0 0 a0.length 8)] [(.live false true (flat dM a0))] (.s 1 0 (tP a0).length 8) [(.live true true (flat dM (tP a0)))]:=by
 refine aU Tryz.func62 (by kernel_rfl) fun cx hcx=>?_
 have e:=Eq.refl (tP a0);conv at e=>rhs;simp only [tP]
 rw [e]
 rw [show flat dM (([]:aY)++a0)=(([]:List SV)++(flat dM a0)) from Eq.symm (by simp [flat])]
 rw [show(([]:aY)++a0).length=(0+a0.length) from by simp]
 exact rt [.p (show(a0.length:Nat)≠0 from by first | omega | (rw [aH]<;>omega) | exact pB _),.F,.p (show(([]:List SV).length=0*8/\(flat dM a0).length=a0.length*8/\(flat dM a0).all SV.one=true/\0+a0.length<=2 ^ 40/\(0+a0.length)*64<=2 ^ 47) from by refine⟨?_,?_,?_,?_,?_⟩<;>first | omega | exact aCo (fun _=>rfl) | (simp [eJ dS];done) | (simp [eJ dS];omega))] [] [2] hcx (by kernel_rfl)
def aN6:aY :=
 ([]:aY)
theorem bDr:Con Tryz.prog 62 [(.v (.slice none 0 0))] [] (.s 0 0 aN6.length 8) [(.live true true (flat dM aN6))]:=by
 refine aU Tryz.func62 (by kernel_rfl) fun cx hcx=>?_
 have e:=Eq.refl aN6;conv at e=>rhs;simp only [aN6]
 rw [e]
 exact rt [.T] [.slot 2 8] [0] hcx (by kernel_rfl)
abbrev ND5:=Int×Int×Int×Int×Zt×Int
theorem aX5 (a:Addr)(c:Nat):Con Tryz.prog 61 [.v (.slice (some a) 0 c)] [] (.s 0 0 0 1) [.live true true []]:=by
 refine aQ0 (n:=9) Tryz.func61 rfl (ent Tryz.func61 (by kernel_rfl) rfl) (by show 1<=Tryz.f61.ntmps;decide) (by kernel_rfl) trivial (fun cx hcx=>?_)
 exact aFr (T:=T0) hT hm (f:=5000) (orc:=[.d false]) [.sym 0 true] [] [0] hcx
  (obs:=[.eq false false]) (by kernel_rfl) ⟨rfl,trivial⟩
theorem aWk (l:List Int)(l0:l.length<=2^63-1)(h:l.length<=1048576):Con Tryz.prog 61 [.s 0 0 l.length 1] [.live false true (flat c3 l)] (.s 1 0 (tO l).length 1) [.live true true (flat c3 (tO l))]:=by
 by_cases hne:l.length≠0
 ·exact bDo l l0 hne h
 have hl:l=[]:=List.eq_nil_of_length_eq_zero (by omega)
 subst hl
 refine⟨(aX5 ⟨0,0,none⟩ 0).1,fun ρ W vs hr hb hpl hap hfz=>?_⟩
 cases vs with
 | nil=>simp [Rels] at hr
 | cons v vs =>
 cases vs with
 | cons _ _=>simp [Rels] at hr
 | nil =>
 have hv:v=.slice none 0 0\/∃a c,v=.slice (some a) 0 c:=by
  have:=hr.1
  simp only [Rel] at this
  rcases this with⟨_,_,h⟩ | ⟨b,o,n,cap,off',sp,_,h,_⟩
  ·exact .inl h
  ·exact .inr ⟨_,_,h⟩
 have key:∀a0:SV,Con Tryz.prog 61 [a0] [] (.s 0 0 0 1) [.live true true []]->Rel ρ.bare a0 v ->
  Calls Tryz.prog 61 [v].toArray W (RR (aZ ρ W [.live false true (flat c3 [])]) (.s 1 0 (tO []).length 1) [.live true true (flat c3 (tO []))] []):=by
  intro a0 hc hrel
  refine(hc.2 ρ.bare W [v] ⟨hrel,trivial⟩ (fun i=>by simp [BRep]) (fun i=>by simp [BK.pl]) (fun i j b n b' n' _ h=>by simp [BK.own] at h) (fun b o ho=>⟨(hfz b o ho).1,fun i n h=>by simp [BK.own] at h⟩)).mono fun e W' hh=>?_
  obtain⟨ρ',u,he,_,hu,hk,hB,hP,hA,hL,hF⟩:=hh
  refine⟨⟨fun j=>if j=0 then ρ 0 else if j=1 then ρ' 0 else none,ρ'.fz⟩,u,he,fun i hi=>?_,?_,?_,fun j=>?_,fun j=>?_,fun i j b n b' n' hij hi hj=>?_,fun b o ho=>hL b o ho,fun b o ho=>?_⟩
  ·have:i=0:=by simp only [aZ,List.length_cons,List.length_nil] at hi;omega
   subst this;rfl
  ·show Rel _ (.s 1 0 0 1) u
   simp only [Rel] at hu ⊢
   exact hu
  ·exact⟨hk.os,hk.tape,hk.output,hk.size,fun k hk' _=>hk.block k hk' (by rintro ⟨i,n,hi,_⟩;simp [BK.own] at hi),hk.drawn⟩
  ·rcases j with _ | _ | j
   ·simp [cI,aZ,BRep]
   ·have h0:=hB 0
    rcases h0 with h0 | ⟨b,vs,rest,ty,g1,g2,g3,g4⟩
    ·exact .inl ⟨h0.1,rfl⟩
    ·refine .inr ⟨b,vs,rest,ty,g1,?_,?_,g4⟩
     ·rcases g2 with g2 | ⟨i,n,hi,_⟩
      ·exact .inl g2
      ·simp [BK.own] at hi
     ·have:vs=[]:=by
       cases vs with
       | nil=>rfl
       | cons _ _=>simp [Rels] at g3
      subst this;trivial
   ·simp [cI,aZ,BRep]
  ·rcases j with _ | _ | j
   ·simp [cI,aZ,BK.pl]
   ·exact fun k hk=>by simp [flat,tO,SV.hasl,cI,aZ] at hk
   ·simp [cI,aZ,BK.pl]
  ·have hi1:i=1:=by
    rcases i with _ | _ | i
    ·simp [cI,aZ,BK.own] at hi
    ·rfl
    ·simp [cI,aZ,BK.own] at hi
   have hj1:j=1:=by
    rcases j with _ | _ | j
    ·simp [cI,aZ,BK.own] at hj
    ·rfl
    ·simp [cI,aZ,BK.own] at hj
   omega
  ·obtain⟨f1,f2,f3⟩:=hF b o ho
   refine⟨f1,fun j n hj e1=>?_,?_⟩
   ·rcases j with _ | _ | j
    ·simp [cI,aZ,BK.own] at hj
    ·exact f2 0 n trivial e1
    ·simp [cI,aZ,BK.own] at hj
   ·rcases f3 with f3 | f3 | ⟨i,n,hi,_⟩
    ·exact .inl f3
    ·exact .inr (.inl f3)
    ·simp [BK.own] at hi
 rcases hv with rfl | ⟨a,c,rfl⟩
 ·exact key _ bDp rfl
 ·exact key _ (aX5 a c) rfl
theorem aX6 (a:Addr)(c:Nat):Con Tryz.prog 62 [.v (.slice (some a) 0 c)] [] (.s 0 0 0 8) [.live true true []]:=by
 refine aQ0 (n:=9) Tryz.func62 rfl (ent Tryz.func62 (by kernel_rfl) rfl) (by show 1<=Tryz.f62.ntmps;decide) (by kernel_rfl) trivial (fun cx hcx=>?_)
 exact aFr (T:=T0) hT hm (f:=5000) (orc:=[.d false]) [.sym 0 true] [] [0] hcx
  (obs:=[.eq false false]) (by kernel_rfl) ⟨rfl,trivial⟩
theorem aWl (l:List ND5)(l0:l.length<=2^63-1)(h:l.length<=1048576):Con Tryz.prog 62 [.s 0 0 l.length 8] [.live false true (flat dM l)] (.s 1 0 (tP l).length 8) [.live true true (flat dM (tP l))]:=by
 by_cases hne:l.length≠0
 ·exact bDq l l0 hne h
 have hl:l=[]:=List.eq_nil_of_length_eq_zero (by omega)
 subst hl
 refine⟨(aX6 ⟨0,0,none⟩ 0).1,fun ρ W vs hr hb hpl hap hfz=>?_⟩
 cases vs with
 | nil=>simp [Rels] at hr
 | cons v vs =>
 cases vs with
 | cons _ _=>simp [Rels] at hr
 | nil =>
 have hv:v=.slice none 0 0\/∃a c,v=.slice (some a) 0 c:=by
  have:=hr.1
  simp only [Rel] at this
  rcases this with⟨_,_,h⟩ | ⟨b,o,n,cap,off',sp,_,h,_⟩
  ·exact .inl h
  ·exact .inr ⟨_,_,h⟩
 have key:∀a0:SV,Con Tryz.prog 62 [a0] [] (.s 0 0 0 8) [.live true true []]->Rel ρ.bare a0 v ->
  Calls Tryz.prog 62 [v].toArray W (RR (aZ ρ W [.live false true (flat dM [])]) (.s 1 0 (tP []).length 8) [.live true true (flat dM (tP []))] []):=by
  intro a0 hc hrel
  refine(hc.2 ρ.bare W [v] ⟨hrel,trivial⟩ (fun i=>by simp [BRep]) (fun i=>by simp [BK.pl]) (fun i j b n b' n' _ h=>by simp [BK.own] at h) (fun b o ho=>⟨(hfz b o ho).1,fun i n h=>by simp [BK.own] at h⟩)).mono fun e W' hh=>?_
  obtain⟨ρ',u,he,_,hu,hk,hB,hP,hA,hL,hF⟩:=hh
  refine⟨⟨fun j=>if j=0 then ρ 0 else if j=1 then ρ' 0 else none,ρ'.fz⟩,u,he,fun i hi=>?_,?_,?_,fun j=>?_,fun j=>?_,fun i j b n b' n' hij hi hj=>?_,fun b o ho=>hL b o ho,fun b o ho=>?_⟩
  ·have:i=0:=by simp only [aZ,List.length_cons,List.length_nil] at hi;omega
   subst this;rfl
  ·show Rel _ (.s 1 0 0 8) u
   simp only [Rel] at hu ⊢
   exact hu
  ·exact⟨hk.os,hk.tape,hk.output,hk.size,fun k hk' _=>hk.block k hk' (by rintro ⟨i,n,hi,_⟩;simp [BK.own] at hi),hk.drawn⟩
  ·rcases j with _ | _ | j
   ·simp [cI,aZ,BRep]
   ·have h0:=hB 0
    rcases h0 with h0 | ⟨b,vs,rest,ty,g1,g2,g3,g4⟩
    ·exact .inl ⟨h0.1,rfl⟩
    ·refine .inr ⟨b,vs,rest,ty,g1,?_,?_,g4⟩
     ·rcases g2 with g2 | ⟨i,n,hi,_⟩
      ·exact .inl g2
      ·simp [BK.own] at hi
     ·have:vs=[]:=by
       cases vs with
       | nil=>rfl
       | cons _ _=>simp [Rels] at g3
      subst this;trivial
   ·simp [cI,aZ,BRep]
  ·rcases j with _ | _ | j
   ·simp [cI,aZ,BK.pl]
   ·exact fun k hk=>by simp [flat,tP,SV.hasl,cI,aZ] at hk
   ·simp [cI,aZ,BK.pl]
  ·have hi1:i=1:=by
    rcases i with _ | _ | i
    ·simp [cI,aZ,BK.own] at hi
    ·rfl
    ·simp [cI,aZ,BK.own] at hi
   have hj1:j=1:=by
    rcases j with _ | _ | j
    ·simp [cI,aZ,BK.own] at hj
    ·rfl
    ·simp [cI,aZ,BK.own] at hj
   omega
  ·obtain⟨f1,f2,f3⟩:=hF b o ho
   refine⟨f1,fun j n hj e1=>?_,?_⟩
   ·rcases j with _ | _ | j
    ·simp [cI,aZ,BK.own] at hj
    ·exact f2 0 n trivial e1
    ·simp [cI,aZ,BK.own] at hj
   ·rcases f3 with f3 | f3 | ⟨i,n,hi,_⟩
    ·exact .inl f3
    ·exact .inr (.inl f3)
    ·simp [BK.own] at hi
 rcases hv with rfl | ⟨a,c,rfl⟩
 ·exact key _ bDr rfl
 ·exact key _ (aX6 a c) rfl
theorem kA {l:bR} [bL l] {t:TR} {sep:Int} (h:dR l t sep=0):eG l t=0:=by
 unfold dR at h
 rw [lZ] at h
 cases hc:((eG l (t.1,t.2):Int) != 0) with
 | true=>simp only [hc,cond_true] at h;rw [h] at hc;cases hc
 | false=>exact bne_eq_false_iff_eq.1 hc
theorem mE {l:bR} [bL l] {t:TR} {sep:Int} (h:dR l t sep=0):t.1.length=l.length/\l.length<=96/\t.2.length<=192/\InR l.length t.1/\(bN t sep).length<=9216:=by
 have hc:=kA h
 obtain⟨k1,k2,k3,k4⟩:=sE (t:=t) hc
 have ho:=aJf (t:=t) hc
 refine⟨k1,k2,k3,fun x hx=>?_,?_⟩
 ·obtain⟨j,hj,rfl⟩:=List.mem_iff_getElem.1 hx
  have:=ho (j:Int) (by omega)
  rwa [eX,cV,List.getElem?_eq_getElem hj,Option.getD_some] at this
 ·rw [jC sep hc]
  exact(nB sep hc).2.2
theorem yK {l:bR} [bL l] {t:TR} {sep:Int} (h:dR l t sep=0) {j:Int} (h0:0<=j)(h1:j < (((bN t sep).length:Nat):Int)) :
 (0<=((bN t sep).getD (tN j) dF).1/\((bN t sep).getD (tN j) dF).1 < t.2.length) /\
 (0<=((bN t sep).getD (tN j) dF).2.1/\((bN t sep).getD (tN j) dF).2.1 < t.2.length) /\
 (0<=(t.2.getD (tN ((bN t sep).getD (tN j) dF).1) dF).1/\(t.2.getD (tN ((bN t sep).getD (tN j) dF).1) dF).1<=(t.2.getD (tN ((bN t sep).getD (tN j) dF).1) dF).2.1/\(t.2.getD (tN ((bN t sep).getD (tN j) dF).1) dF).2.1<=t.1.length) /\
 (0<=(t.2.getD (tN ((bN t sep).getD (tN j) dF).2.1) dF).1/\(t.2.getD (tN ((bN t sep).getD (tN j) dF).2.1) dF).1<=(t.2.getD (tN ((bN t sep).getD (tN j) dF).2.1) dF).2.1/\(t.2.getD (tN ((bN t sep).getD (tN j) dF).2.1) dF).2.1<=t.1.length):=by
 have hc:=kA h
 obtain⟨k1,k2,k3,k4⟩:=sE (t:=t) hc
 have hb:=(nB sep hc).2.1
 rw [←jC sep hc] at hb
 have hlt:tN j < (bN t sep).length:=by omega
 have hx:=hb _ (List.getElem_mem hlt)
 have e:(bN t sep).getD (tN j) dF=(bN t sep)[tN j]:=by
  rw [cV,List.getElem?_eq_getElem hlt];rfl
 rw [e]
 generalize (bN t sep)[tN j]=b at *
 obtain⟨⟨a1,a2⟩,⟨b1,b2⟩⟩:=hx
 have n1:=k4.2.2 (tN b.1) (by omega)
 have n2:=k4.2.2 (tN b.2.1) (by omega)
 exact⟨⟨a1,a2⟩,⟨b1,b2⟩,⟨n1.1,by omega,n1.2.2⟩,⟨n2.1,by omega,n2.2.2⟩⟩
theorem iO {l:bR} [bL l] {t:TR} {sep:Int} (h:dR l (t.1,t.2) sep=0):t.1.length=l.length/\l.length<=96/\t.2.length<=192/\InR l.length t.1/\(bN (t.1,t.2) sep).length<=9216:=mE (t:=t) h
theorem pN {l:bR} [bL l] {t:TR} {sep:Int} (h:dR l (t.1,t.2) sep=0) {j:Int} (h0:0<=j)(h1:decide (j < (((bN (t.1,t.2) sep).length:Nat):Int))=true) :
 (0<=((bN (t.1,t.2) sep).getD (tN j) dF).1/\((bN (t.1,t.2) sep).getD (tN j) dF).1 < t.2.length) /\
 (0<=((bN (t.1,t.2) sep).getD (tN j) dF).2.1/\((bN (t.1,t.2) sep).getD (tN j) dF).2.1 < t.2.length) /\
 (0<=(t.2.getD (tN ((bN (t.1,t.2) sep).getD (tN j) dF).1) dF).1/\(t.2.getD (tN ((bN (t.1,t.2) sep).getD (tN j) dF).1) dF).1<=(t.2.getD (tN ((bN (t.1,t.2) sep).getD (tN j) dF).1) dF).2.1/\(t.2.getD (tN ((bN (t.1,t.2) sep).getD (tN j) dF).1) dF).2.1<=t.1.length) /\
 (0<=(t.2.getD (tN ((bN (t.1,t.2) sep).getD (tN j) dF).2.1) dF).1/\(t.2.getD (tN ((bN (t.1,t.2) sep).getD (tN j) dF).2.1) dF).1<=(t.2.getD (tN ((bN (t.1,t.2) sep).getD (tN j) dF).2.1) dF).2.1/\(t.2.getD (tN ((bN (t.1,t.2) sep).getD (tN j) dF).2.1) dF).2.1<=t.1.length):=yK (t:=t) h h0 (dL h1)
def F37 (a0:List Int×aY):List Int×aY :=
 ((tO a0.1),(tP a0.2))
theorem C37 (a0:List Int×aY)(l0_1:a0.1.length<=2^63-1)(l0_2:a0.2.length<=2^63-1)(hc:a0.1.length<=1048576/\a0.2.length<=1048576):Con Tryz.prog 37 [(.a [(.s 0 0 a0.1.length 1),(.s 1 0 a0.2.length 8)])] [(.live false true (flat c3 a0.1)),(.live false true (flat dM a0.2))] (.a [(.s 2 0 (F37 a0).1.length 1),(.s 3 0 (F37 a0).2.length 8)]) [(.live true true (flat c3 (F37 a0).1)),(.live true true (flat dM (F37 a0).2))]:=by
 refine aU Tryz.func37 (by kernel_rfl) fun cx hcx=>?_
 have e:=Eq.refl (F37 a0);conv at e=>rhs;simp only [F37]
 rw [e]
 exact rt [.c [0] (aWk a0.1 (by omega) (by omega)),.c [1] (aWl a0.2 (by omega) (by omega))] [] [4,5] hcx (by kernel_rfl)
def fW (x:List (Int×Int)):List SV:=[(.d (flat eP x) x.length 2)]
theorem nC (x:List (Int×Int)):(fW x).length=1:=rfl
noncomputable def aG1:Code:=(aO [1,1,1,1,0,1,0,1,1,0,1,1,1,0,1,1,1,0,1,1,0,1,1] [0,0] (aI Tryz.f10) []).1
noncomputable def aG2 (m0:Nat)(m1:Nat):List K:=(aO [1,1,1,1,0,1,0,1,1,0,1,1,1,0,1,1,1,0,1,1,0,1,1] [m0,m1] (aI Tryz.f10) []).2
def aDe (a0:bE)(a1:List Int×aY)(a2:Int)(a3:Int)(v108c:List SV)(v108n:Nat)(v109c:List SV)(v109n:Nat)(v110c:List SV)(v110n:Nat)(v111c:List SV)(v111n:Nat)(v112 v113 v114 v115 v116 v117 v118 v119 v120 v121 v122 v123 v124 v125:Int):LS:=⟨jH 135 [(0,(.s 0 0 a0.length 10)),(3,(iv a3)),(5,(.p 3 0)),(8,(.p 4 0)),(11,(.p 5 0)),(15,(.p 6 0)),(16,(.s 7 0 v108n 2)),(20,(iv v112)),(44,(.s 8 0 (bN (a1.1,a1.2) a2).length 3)),(45,(iv (((bN (a1.1,a1.2) a2).length:Nat):Int))),(46,(iv v113)),(84,(.s 9 0 v109n 1)),(85,(iv v114)),(86,(iv v115)),(96,(.s 10 0 v110n 1)),(97,(iv v116)),(98,(iv v117))],[(.live false true (flat fK a0)),(.live false true (flat c3 a1.1)),(.live false true (flat dM a1.2)),(.live true false [(.s 1 0 a1.1.length 1),(.s 2 0 a1.2.length 8)]),(.live true false [(.v (.slice none 0 0)),(.v (.slice none 0 0)),(.v (.slice none 0 0)),(.v (.slice none 0 0))]),(.live true false [(.s 11 0 (F37 (a1.1,a1.2)).1.length 1),(.s 12 0 (F37 (a1.1,a1.2)).2.length 8),(.s 8 0 (bN (a1.1,a1.2) a2).length 3),(.s 13 0 v111n 1)]),(.live true false [(iv v118),(iv v119),(iv v120),(iv v121),(iv v122),(iv v123),(iv v124),(iv v125)]),(.live true true v108c),(.live true true (flat iT (bN (a1.1,a1.2) a2))),(.live false true v109c),(.live false true v110c),(.live true true (flat c3 (F37 (a1.1,a1.2)).1)),(.live true true (flat dM (F37 (a1.1,a1.2)).2)),(.live true true v111c)]⟩
def dX (a0:bE)(a1:List Int×aY)(a2:Int)(a3:Int):(List (Int×Int))×List Int×List Int×(List (List (Int×Int)))×Int×Int×Int×Int×Int×Int×Int×Int×Int×Int×Int×Zt->((List (Int×Int))×List Int×List Int×(List (List (Int×Int)))×Int×Int×Int×Int×Int×Int×Int×Int×Int×Int×Int×Zt)⊕(((List (Int×Int))×List Int×(List (List (Int×Int)))×Int×Int×Int×Int×Int×Int×Int×Int×Zt)⊕(((List (List (Int×Int)))×Int)⊕(((List Int×aY)×(List (Int×Int×Bool))×List (List (Int×Int)))×Int)))
 | (v108,v109,v110,v111,v112,v113,v114,v115,v116,v117,v118,v119,v120,v121,v122,v123,v124,v125) =>
  (bif (decide ((v117:Int) < v116)) then
   (bif (((oQ (a0.getD (tN v112) dF).1 (a0.getD (tN (v110.getD (tN v117) dF)) dF).1 a3).2:Int) != 0) then
    (.inr (.inr (.inr (((([]:List Int),([]:aY)),([]:List (Int×Int×Bool)),([]:List (List (Int×Int)))),(oQ (a0.getD (tN v112) dF).1 (a0.getD (tN (v110.getD (tN v117) dF)) dF).1 a3).2))))
   else
    (.inl ((v108++[(oQ (a0.getD (tN v112) dF).1 (a0.getD (tN (v110.getD (tN v117) dF)) dF).1 a3).1]),v109,v110,v111,v112,v113,v114,v115,v116,(v117+1),v118,v119,v120,v121,v122,v123,v124,v125)))
  else
   (.inr (.inl (v108,v109,v111,v113,v114,(v115+1),v118,v119,v120,v121,v122,v123,v124,v125))))
noncomputable def aA1:Code:=(aO [1,1,1,1,0,1,0,1,1,0,1,1,1,0,1,1,1] [0] (aI Tryz.f10) []).1
noncomputable def aA2 (m0:Nat):List K:=(aO [1,1,1,1,0,1,0,1,1,0,1,1,1,0,1,1,1] [m0] (aI Tryz.f10) []).2
def wC (a0:bE)(a1:List Int×aY)(a2:Int)(a3:Int)(v94c:List SV)(v94n:Nat)(v95c:List SV)(v95n:Nat)(v96c:List SV)(v96n:Nat)(v97 v98 v99 v100 v101 v102 v103 v104 v105 v106 v107:Int):LS:=⟨jH 135 [(0,(.s 0 0 a0.length 10)),(3,(iv a3)),(5,(.p 3 0)),(8,(.p 4 0)),(11,(.p 5 0)),(15,(.p 6 0)),(16,(.s 7 0 v94n 2)),(44,(.s 8 0 (bN (a1.1,a1.2) a2).length 3)),(45,(iv (((bN (a1.1,a1.2) a2).length:Nat):Int))),(46,(iv v97)),(84,(.s 9 0 v95n 1)),(85,(iv v98)),(86,(iv v99))],[(.live false true (flat fK a0)),(.live false true (flat c3 a1.1)),(.live false true (flat dM a1.2)),(.live true false [(.s 1 0 a1.1.length 1),(.s 2 0 a1.2.length 8)]),(.live true false [(.v (.slice none 0 0)),(.v (.slice none 0 0)),(.v (.slice none 0 0)),(.v (.slice none 0 0))]),(.live true false [(.s 10 0 (F37 (a1.1,a1.2)).1.length 1),(.s 11 0 (F37 (a1.1,a1.2)).2.length 8),(.s 8 0 (bN (a1.1,a1.2) a2).length 3),(.s 12 0 v96n 1)]),(.live true false [(iv v100),(iv v101),(iv v102),(iv v103),(iv v104),(iv v105),(iv v106),(iv v107)]),(.live true true v94c),(.live true true (flat iT (bN (a1.1,a1.2) a2))),(.live false true v95c),(.live true true (flat c3 (F37 (a1.1,a1.2)).1)),(.live true true (flat dM (F37 (a1.1,a1.2)).2)),(.live true true v96c)]⟩
def bP (a0:bE)(a1:List Int×aY)(a2:Int)(a3:Int):(List (Int×Int))×List Int×(List (List (Int×Int)))×Int×Int×Int×Int×Int×Int×Int×Int×Zt->((List (Int×Int))×List Int×(List (List (Int×Int)))×Int×Int×Int×Int×Int×Int×Int×Int×Zt)⊕(((List (List (Int×Int)))×Int)⊕(((List Int×aY)×(List (Int×Int×Bool))×List (List (Int×Int)))×Int))
 | (v94,v95,v96,v97,v98,v99,v100,v101,v102,v103,v104,v105,v106,v107) =>
  (bif (decide ((v99:Int) < v98)) then
   (aA (dX a0 a1 a2 a3) (tN ((((tN v101 - tN v100):Nat):Int) - 0)+1) (v94,v95,(Aw.part (a1.1) v100 v101),v96,(v95.getD (tN v99) dF),v97,v98,v99,(((tN v101 - tN v100):Nat):Int),0,v100,v101,v102,v103,v104,v105,v106,v107))
  else
   (.inr (.inl ((v96++[v94]),(v97+1)))))
noncomputable def sG:Code:=(aO [1,1,1,1,0,1] [] (aI Tryz.f10) []).1
noncomputable def sH:List K:=(aO [1,1,1,1,0,1] [] (aI Tryz.f10) []).2
def oM (a0:bE)(a1:List Int×aY)(a2:Int)(a3:Int)(v2c:List SV)(v2n:Nat)(v3:Int):LS:=⟨jH 135 [(0,(.s 0 0 a0.length 10)),(3,(iv a3)),(5,(.p 3 0)),(8,(.p 4 0)),(11,(.p 5 0)),(44,(.s 6 0 (bN (a1.1,a1.2) a2).length 3)),(45,(iv (((bN (a1.1,a1.2) a2).length:Nat):Int))),(46,(iv v3))],[(.live false true (flat fK a0)),(.live false true (flat c3 a1.1)),(.live false true (flat dM a1.2)),(.live true false [(.s 1 0 a1.1.length 1),(.s 2 0 a1.2.length 8)]),(.live true false [(.v (.slice none 0 0)),(.v (.slice none 0 0)),(.v (.slice none 0 0)),(.v (.slice none 0 0))]),(.live true false [(.s 7 0 (F37 (a1.1,a1.2)).1.length 1),(.s 8 0 (F37 (a1.1,a1.2)).2.length 8),(.s 6 0 (bN (a1.1,a1.2) a2).length 3),(.s 9 0 v2n 1)]),(.live true true (flat iT (bN (a1.1,a1.2) a2))),(.live true true (flat c3 (F37 (a1.1,a1.2)).1)),(.live true true (flat dM (F37 (a1.1,a1.2)).2)),(.live true true v2c)]⟩
def aS (a0:bE)(a1:List Int×aY)(a2:Int)(a3:Int):(List (List (Int×Int)))×Int->((List (List (Int×Int)))×Int)⊕(((List Int×aY)×(List (Int×Int×Bool))×List (List (Int×Int)))×Int)
 | (v2,v3) =>
  (bif (decide ((v3:Int) < (((bN (a1.1,a1.2) a2).length:Nat):Int))) then
   (bif ((bN (a1.1,a1.2) a2).getD (tN v3) dF).2.2 then
    (bif (((zZ (a1.2.getD (tN ((bN (a1.1,a1.2) a2).getD (tN v3) dF).1) dF) (a1.2.getD (tN ((bN (a1.1,a1.2) a2).getD (tN v3) dF).2.1) dF)).2:Int) != 0) then
     (.inr (((([]:List Int),([]:aY)),([]:List (Int×Int×Bool)),([]:List (List (Int×Int)))),(zZ (a1.2.getD (tN ((bN (a1.1,a1.2) a2).getD (tN v3) dF).1) dF) (a1.2.getD (tN ((bN (a1.1,a1.2) a2).getD (tN v3) dF).2.1) dF)).2))
    else
     (.inl ((v2++[([(zZ (a1.2.getD (tN ((bN (a1.1,a1.2) a2).getD (tN v3) dF).1) dF) (a1.2.getD (tN ((bN (a1.1,a1.2) a2).getD (tN v3) dF).2.1) dF)).1]:List (Int×Int))]),(v3+1))))
   else
    (aA (bP a0 a1 a2 a3) (tN ((((tN (a1.2.getD (tN ((bN (a1.1,a1.2) a2).getD (tN v3) dF).1) dF).2.1 - tN (a1.2.getD (tN ((bN (a1.1,a1.2) a2).getD (tN v3) dF).1) dF).1):Nat):Int) - 0)+1) (([]:List (Int×Int)),(Aw.part (a1.1) ((a1.2.getD (tN ((bN (a1.1,a1.2) a2).getD (tN v3) dF).1) dF).1) ((a1.2.getD (tN ((bN (a1.1,a1.2) a2).getD (tN v3) dF).1) dF).2.1)),v2,v3,(((tN (a1.2.getD (tN ((bN (a1.1,a1.2) a2).getD (tN v3) dF).1) dF).2.1 - tN (a1.2.getD (tN ((bN (a1.1,a1.2) a2).getD (tN v3) dF).1) dF).1):Nat):Int),0,(a1.2.getD (tN ((bN (a1.1,a1.2) a2).getD (tN v3) dF).2.1) dF).1,(a1.2.getD (tN ((bN (a1.1,a1.2) a2).getD (tN v3) dF).2.1) dF).2.1,(a1.2.getD (tN ((bN (a1.1,a1.2) a2).getD (tN v3) dF).2.1) dF).2.2.1,(a1.2.getD (tN ((bN (a1.1,a1.2) a2).getD (tN v3) dF).2.1) dF).2.2.2.1,(a1.2.getD (tN ((bN (a1.1,a1.2) a2).getD (tN v3) dF).2.1) dF).2.2.2.2.1.1,(a1.2.getD (tN ((bN (a1.1,a1.2) a2).getD (tN v3) dF).2.1) dF).2.2.2.2.1.2.1,(a1.2.getD (tN ((bN (a1.1,a1.2) a2).getD (tN v3) dF).2.1) dF).2.2.2.2.1.2.2,(a1.2.getD (tN ((bN (a1.1,a1.2) a2).getD (tN v3) dF).2.1) dF).2.2.2.2.2)))
  else
   (.inr ((((F37 (a1.1,a1.2)).1,(F37 (a1.1,a1.2)).2),(bN (a1.1,a1.2) a2),v2),0)))
theorem aWm (a0:bE)(a1:List Int×aY)(a2:Int)(a3:Int)(l0:a0.length<=2^63-1)(l1_1:a1.1.length<=2^63-1)(l1_2:a1.2.length<=2^63-1) [h5:bL a0] {cx:Cx} (hcx:cx.base=3)
 (n0:Nat) (g0:∀(v2:List (List (Int×Int))) (v3:Int),(0<=v3)/\(dR a0 (a1.1,a1.2) a2=0)/\(v2.length=tN v3)/\(v3<=((bN (a1.1,a1.2) a2).length:Int))->tN ((((bN (a1.1,a1.2) a2).length:Nat):Int) - v3) < n0->Aw.Good Tryz.prog none 9 (bodyPost Tryz.prog Tryz.f10 (RR cx (.t [(.a [(.s 3 0 (aA (aS a0 a1 a2 a3) n0 (v2,v3)).1.1.1.length 1),(.s 4 0 (aA (aS a0 a1 a2 a3) n0 (v2,v3)).1.1.2.length 8),(.s 5 0 (aA (aS a0 a1 a2 a3) n0 (v2,v3)).1.2.1.length 3),(.s 6 0 (aA (aS a0 a1 a2 a3) n0 (v2,v3)).1.2.2.length 1)]),(iv (aA (aS a0 a1 a2 a3) n0 (v2,v3)).2)]) [(.live true true (flat c3 (aA (aS a0 a1 a2 a3) n0 (v2,v3)).1.1.1)),(.live true true (flat dM (aA (aS a0 a1 a2 a3) n0 (v2,v3)).1.1.2)),(.live true true (flat iT (aA (aS a0 a1 a2 a3) n0 (v2,v3)).1.2.1)),(.live true true (flat fW (aA (aS a0 a1 a2 a3) n0 (v2,v3)).1.2.2))] [])) cx [] (.l sG n0::sH) (oM a0 a1 a2 a3 (flat fW v2) v2.length v3))
 (n1:Nat) (g1:∀(v94:List (Int×Int)) (v95:List Int) (v96:List (List (Int×Int))) (v97 v98 v99 v100 v101 v102 v103 v104 v105 v106 v107:Int),(0<=v99)/\(dR a0 (a1.1,a1.2) a2=0)/\(v96.length=tN v97)/\(0<=v97)/\(v97 < ((bN (a1.1,a1.2) a2).length:Int))/\(v98=v95.length)/\(v95.length<=96)/\(InR a0.length v95)/\(v94.length<=96*tN v99)/\(v99<=v98)/\(0<=v100)/\(v100<=v101)/\(v101<=a1.1.length)/\((0<=v97))/\((dR a0 (a1.1,a1.2) a2=0))/\((v96.length=tN v97))/\((v97<=((bN (a1.1,a1.2) a2).length:Int)))/\(v97 < (((bN (a1.1,a1.2) a2).length:Nat):Int))/\(tN ((((bN (a1.1,a1.2) a2).length:Nat):Int) - v97) < n0+1)->tN (v98 - v99) < n1->Aw.Good Tryz.prog none 9 (bodyPost Tryz.prog Tryz.f10 (RR cx (.t [(.a [(.s 3 0 (bB (aS a0 a1 a2 a3) n0 (aA (bP a0 a1 a2 a3) n1 (v94,v95,v96,v97,v98,v99,v100,v101,v102,v103,v104,v105,v106,v107))).1.1.1.length 1),(.s 4 0 (bB (aS a0 a1 a2 a3) n0 (aA (bP a0 a1 a2 a3) n1 (v94,v95,v96,v97,v98,v99,v100,v101,v102,v103,v104,v105,v106,v107))).1.1.2.length 8),(.s 5 0 (bB (aS a0 a1 a2 a3) n0 (aA (bP a0 a1 a2 a3) n1 (v94,v95,v96,v97,v98,v99,v100,v101,v102,v103,v104,v105,v106,v107))).1.2.1.length 3),(.s 6 0 (bB (aS a0 a1 a2 a3) n0 (aA (bP a0 a1 a2 a3) n1 (v94,v95,v96,v97,v98,v99,v100,v101,v102,v103,v104,v105,v106,v107))).1.2.2.length 1)]),(iv (bB (aS a0 a1 a2 a3) n0 (aA (bP a0 a1 a2 a3) n1 (v94,v95,v96,v97,v98,v99,v100,v101,v102,v103,v104,v105,v106,v107))).2)]) [(.live true true (flat c3 (bB (aS a0 a1 a2 a3) n0 (aA (bP a0 a1 a2 a3) n1 (v94,v95,v96,v97,v98,v99,v100,v101,v102,v103,v104,v105,v106,v107))).1.1.1)),(.live true true (flat dM (bB (aS a0 a1 a2 a3) n0 (aA (bP a0 a1 a2 a3) n1 (v94,v95,v96,v97,v98,v99,v100,v101,v102,v103,v104,v105,v106,v107))).1.1.2)),(.live true true (flat iT (bB (aS a0 a1 a2 a3) n0 (aA (bP a0 a1 a2 a3) n1 (v94,v95,v96,v97,v98,v99,v100,v101,v102,v103,v104,v105,v106,v107))).1.2.1)),(.live true true (flat fW (bB (aS a0 a1 a2 a3) n0 (aA (bP a0 a1 a2 a3) n1 (v94,v95,v96,v97,v98,v99,v100,v101,v102,v103,v104,v105,v106,v107))).1.2.2))] [])) cx [] (.l aA1 n1::aA2 n0) (wC a0 a1 a2 a3 (flat eP v94) v94.length (flat c3 v95) v95.length (flat fW v96) v96.length v97 v98 v99 v100 v101 v102 v103 v104 v105 v106 v107)):∀(n:Nat) (v108:List (Int×Int)) (v109:List Int) (v110:List Int) (v111:List (List (Int×Int))) (v112 v113 v114 v115 v116 v117 v118 v119 v120 v121 v122 v123 v124 v125:Int),(0<=v117)/\(dR a0 (a1.1,a1.2) a2=0)/\(v111.length=tN v113)/\(0<=v113)/\(v113 < ((bN (a1.1,a1.2) a2).length:Int))/\(v114=v109.length)/\(v109.length<=96)/\(InR a0.length v109)/\(0<=v115)/\(v115 < v114)/\(v116=v110.length)/\(v110.length<=96)/\(InR a0.length v110)/\(0<=v112)/\(v112 < a0.length)/\(v108.length<=96*tN v115+tN v117)/\(v117<=v116)/\(0<=v118)/\(v118<=v119)/\(v119<=a1.1.length)/\((0<=v113))/\((dR a0 (a1.1,a1.2) a2=0))/\((v111.length=tN v113))/\((v113<=((bN (a1.1,a1.2) a2).length:Int)))/\(v113 < (((bN (a1.1,a1.2) a2).length:Nat):Int))/\(tN ((((bN (a1.1,a1.2) a2).length:Nat):Int) - v113) < n0+1)/\((0<=v115))/\((dR a0 (a1.1,a1.2) a2=0))/\((v111.length=tN v113))/\((0<=v113))/\((v113 < ((bN (a1.1,a1.2) a2).length:Int)))/\((v114=v109.length))/\((v109.length<=96))/\((InR a0.length v109))/\((v115<=v114))/\((0<=v118))/\((v118<=v119))/\((v119<=a1.1.length))/\(v115 < v114)/\(tN (v114 - v115) < n1+1)->tN (v116 - v117) < n->Aw.Good Tryz.prog none 9 (bodyPost Tryz.prog Tryz.f10 (RR cx (.t [(.a [(.s 3 0 (bB (aS a0 a1 a2 a3) n0 (bB (bP a0 a1 a2 a3) n1 (aA (dX a0 a1 a2 a3) n (v108,v109,v110,v111,v112,v113,v114,v115,v116,v117,v118,v119,v120,v121,v122,v123,v124,v125)))).1.1.1.length 1),(.s 4 0 (bB (aS a0 a1 a2 a3) n0 (bB (bP a0 a1 a2 a3) n1 (aA (dX a0 a1 a2 a3) n (v108,v109,v110,v111,v112,v113,v114,v115,v116,v117,v118,v119,v120,v121,v122,v123,v124,v125)))).1.1.2.length 8),(.s 5 0 (bB (aS a0 a1 a2 a3) n0 (bB (bP a0 a1 a2 a3) n1 (aA (dX a0 a1 a2 a3) n (v108,v109,v110,v111,v112,v113,v114,v115,v116,v117,v118,v119,v120,v121,v122,v123,v124,v125)))).1.2.1.length 3),(.s 6 0 (bB (aS a0 a1 a2 a3) n0 (bB (bP a0 a1 a2 a3) n1 (aA (dX a0 a1 a2 a3) n (v108,v109,v110,v111,v112,v113,v114,v115,v116,v117,v118,v119,v120,v121,v122,v123,v124,v125)))).1.2.2.length 1)]),(iv (bB (aS a0 a1 a2 a3) n0 (bB (bP a0 a1 a2 a3) n1 (aA (dX a0 a1 a2 a3) n (v108,v109,v110,v111,v112,v113,v114,v115,v116,v117,v118,v119,v120,v121,v122,v123,v124,v125)))).2)]) [(.live true true (flat c3 (bB (aS a0 a1 a2 a3) n0 (bB (bP a0 a1 a2 a3) n1 (aA (dX a0 a1 a2 a3) n (v108,v109,v110,v111,v112,v113,v114,v115,v116,v117,v118,v119,v120,v121,v122,v123,v124,v125)))).1.1.1)),(.live true true (flat dM (bB (aS a0 a1 a2 a3) n0 (bB (bP a0 a1 a2 a3) n1 (aA (dX a0 a1 a2 a3) n (v108,v109,v110,v111,v112,v113,v114,v115,v116,v117,v118,v119,v120,v121,v122,v123,v124,v125)))).1.1.2)),(.live true true (flat iT (bB (aS a0 a1 a2 a3) n0 (bB (bP a0 a1 a2 a3) n1 (aA (dX a0 a1 a2 a3) n (v108,v109,v110,v111,v112,v113,v114,v115,v116,v117,v118,v119,v120,v121,v122,v123,v124,v125)))).1.2.1)),(.live true true (flat fW (bB (aS a0 a1 a2 a3) n0 (bB (bP a0 a1 a2 a3) n1 (aA (dX a0 a1 a2 a3) n (v108,v109,v110,v111,v112,v113,v114,v115,v116,v117,v118,v119,v120,v121,v122,v123,v124,v125)))).1.2.2))] [])) cx [] (.l aG1 n::aG2 n0 n1) (aDe a0 a1 a2 a3 (flat eP v108) v108.length (flat c3 v109) v109.length (flat c3 v110) v110.length (flat fW v111) v111.length v112 v113 v114 v115 v116 v117 v118 v119 v120 v121 v122 v123 v124 v125):=by
 intro n
 induction n with
 | zero=>intro v108 v109 v110 v111 v112 v113 v114 v115 v116 v117 v118 v119 v120 v121 v122 v123 v124 v125 hi hn;exact absurd hn (fO _)
 | succ n ih =>
  intro v108 v109 v110 v111 v112 v113 v114 v115 v116 v117 v118 v119 v120 v121 v122 v123 v124 v125 hi hn
  refine aT ?_
  have hd:=iO (l:=a0) (t:=a1) (sep:=a2) hi.2.1
  try have hr2:=hi.2.2.2.2.2.2.2.2.2.2.2.2.1.at (i:=tN v117) (by have _:=h0;omega)
  cases h0:(decide ((v117:Int) < v116)) with
  | true =>
   have q0:=dL h0
   try have hr2:=hi.2.2.2.2.2.2.2.2.2.2.2.2.1.at (i:=tN v117) (by have _:=h0;omega)
   let t1:List (St Tryz.prog):=[.d h0,.i v117 (v110.length),.L cZ v110 v117 0 1,.i v112 (a0.length),.L eO a0 v112 0 9,.i (v110.getD (tN v117) dF) (a0.length),.L eO a0 (v110.getD (tN v117) dF) 0 9,.c [] (C40 (a0.getD (tN v112) dF).1 (a0.getD (tN (v110.getD (tN v117) dF)) dF).1 a3)]
   cases h1:(((oQ (a0.getD (tN v112) dF).1 (a0.getD (tN (v110.getD (tN v117) dF)) dF).1 a3).2:Int) != 0) with
   | true =>
    have q1:=bne_iff_ne.1 h1
    try have hr2:=hi.2.2.2.2.2.2.2.2.2.2.2.2.1.at (i:=tN v117) (by have _:=h0;omega)
    have e:=Eq.refl (dX a0 a1 a2 a3 (v108,v109,v110,v111,v112,v113,v114,v115,v116,v117,v118,v119,v120,v121,v122,v123,v124,v125));conv at e=>rhs;simp only [dX,h0,h1,aW]
    rw [aN,e]
    exact rt (t1++[.d h1]) [.cell 4 0 1,.cell 4 1 8,.cell 4 2 3,.cell 4 3 1] [15,16,17,18] hcx (by kernel_rfl)
   | false =>
    have q1:=bne_eq_false_iff_eq.1 h1
    try have hr2:=hi.2.2.2.2.2.2.2.2.2.2.2.2.1.at (i:=tN v117) (by have _:=h0;omega)
    have e:=Eq.refl (dX a0 a1 a2 a3 (v108,v109,v110,v111,v112,v113,v114,v115,v116,v117,v118,v119,v120,v121,v122,v123,v124,v125));conv at e=>rhs;simp only [dX,h0,h1,aW]
    rw [aB e]
    refine ba (t1++[.d h1,.p (show((flat eP v108).length=v108.length*2/\v108.length+1<=2 ^ 40/\(v108.length+1)*16<=2 ^ 47) from lQ dZ (by omega) (by omega))]) [] [0,3,5,8,11,15,16,20,44,45,46,84,85,86,96,97,98] [3,4,5,6,16,8,9,10,11,12,13] hcx (m:=n) aG1 (aG2 n0 n1) (aDe a0 a1 a2 a3 (flat eP v108++(k2 (oQ (a0.getD (tN v112) dF).1 (a0.getD (tN (v110.getD (tN v117) dF)) dF).1 a3).1)) (v108.length+1) (flat c3 v109) (v109.length) (flat c3 v110) (v110.length) (flat fW v111) (v111.length) v112 v113 v114 v115 v116 (W (v117+1)) v118 v119 v120 v121 v122 v123 v124 v125) (by kernel_rfl) ?_
    have z0:(W (v117+1))=(v117+1):=aH (by omega) (by omega)
    have z1:(flat eP v108++(k2 (oQ (a0.getD (tN v112) dF).1 (a0.getD (tN (v110.getD (tN v117) dF)) dF).1 a3).1))=(flat eP (v108++[(oQ (a0.getD (tN v112) dF).1 (a0.getD (tN (v110.getD (tN v117) dF)) dF).1 a3).1])):=(cW (c:=eP) (l:=v108) (m:=[(oQ (a0.getD (tN v112) dF).1 (a0.getD (tN (v110.getD (tN v117) dF)) dF).1 a3).1])).symm
    have z2:(v108.length+1)=(v108++[(oQ (a0.getD (tN v112) dF).1 (a0.getD (tN (v110.getD (tN v117) dF)) dF).1 a3).1]).length:=kZ v108 [(oQ (a0.getD (tN v112) dF).1 (a0.getD (tN (v110.getD (tN v117) dF)) dF).1 a3).1] rfl
    rw [z0,z1,z2]
    exact ih (v108++[(oQ (a0.getD (tN v112) dF).1 (a0.getD (tN (v110.getD (tN v117) dF)) dF).1 a3).1]) v109 v110 v111 v112 v113 v114 v115 v116 (v117+1) v118 v119 v120 v121 v122 v123 v124 v125 (by(repeat' apply And.intro)<;>(try simp only [Ls])<;>first | omega | assumption | exact hd.2.2.2.1.part _ _ | exact hi.2.2.2.2.2.2.2.1 | exact hi.2.2.2.2.2.2.2.2.2.2.2.2.1) (by(try simp only [Ls]);omega)
  | false =>
   have q0:=eH h0
   try have hr2:=hi.2.2.2.2.2.2.2.2.2.2.2.2.1.at (i:=tN v117) (by have _:=h0;omega)
   have e:=Eq.refl (dX a0 a1 a2 a3 (v108,v109,v110,v111,v112,v113,v114,v115,v116,v117,v118,v119,v120,v121,v122,v123,v124,v125));conv at e=>rhs;simp only [dX,h0,aW]
   rw [aN,e]
   refine ba [.d h0] [] [0,3,5,8,11,15,16,44,45,46,84,85,86] [3,4,5,6,7,8,9,11,12,13] hcx (m:=n1) aA1 (aA2 n0) (wC a0 a1 a2 a3 (flat eP v108) (v108.length) (flat c3 v109) (v109.length) (flat fW v111) (v111.length) v113 v114 (W (v115+1)) v118 v119 v120 v121 v122 v123 v124 v125) (by kernel_rfl) ?_
   have z0:(W (v115+1))=(v115+1):=aH (by omega) (by omega)
   rw [z0]
   exact g1 v108 v109 v111 v113 v114 (v115+1) v118 v119 v120 v121 v122 v123 v124 v125 (by(repeat' apply And.intro)<;>(try simp only [Ls])<;>first | omega | assumption | exact hd.2.2.2.1.part _ _ | exact hi.2.2.2.2.2.2.2.1 | exact hi.2.2.2.2.2.2.2.2.2.2.2.2.1) (by(try simp only [Ls]);omega)
theorem aWn (a0:bE)(a1:List Int×aY)(a2:Int)(a3:Int)(l0:a0.length<=2^63-1)(l1_1:a1.1.length<=2^63-1)(l1_2:a1.2.length<=2^63-1) [h5:bL a0] {cx:Cx} (hcx:cx.base=3)
 (n0:Nat) (g0:∀(v2:List (List (Int×Int))) (v3:Int),(0<=v3)/\(dR a0 (a1.1,a1.2) a2=0)/\(v2.length=tN v3)/\(v3<=((bN (a1.1,a1.2) a2).length:Int))->tN ((((bN (a1.1,a1.2) a2).length:Nat):Int) - v3) < n0->Aw.Good Tryz.prog none 9 (bodyPost Tryz.prog Tryz.f10 (RR cx (.t [(.a [(.s 3 0 (aA (aS a0 a1 a2 a3) n0 (v2,v3)).1.1.1.length 1),(.s 4 0 (aA (aS a0 a1 a2 a3) n0 (v2,v3)).1.1.2.length 8),(.s 5 0 (aA (aS a0 a1 a2 a3) n0 (v2,v3)).1.2.1.length 3),(.s 6 0 (aA (aS a0 a1 a2 a3) n0 (v2,v3)).1.2.2.length 1)]),(iv (aA (aS a0 a1 a2 a3) n0 (v2,v3)).2)]) [(.live true true (flat c3 (aA (aS a0 a1 a2 a3) n0 (v2,v3)).1.1.1)),(.live true true (flat dM (aA (aS a0 a1 a2 a3) n0 (v2,v3)).1.1.2)),(.live true true (flat iT (aA (aS a0 a1 a2 a3) n0 (v2,v3)).1.2.1)),(.live true true (flat fW (aA (aS a0 a1 a2 a3) n0 (v2,v3)).1.2.2))] [])) cx [] (.l sG n0::sH) (oM a0 a1 a2 a3 (flat fW v2) v2.length v3)):∀(n:Nat) (v94:List (Int×Int)) (v95:List Int) (v96:List (List (Int×Int))) (v97 v98 v99 v100 v101 v102 v103 v104 v105 v106 v107:Int),(0<=v99)/\(dR a0 (a1.1,a1.2) a2=0)/\(v96.length=tN v97)/\(0<=v97)/\(v97 < ((bN (a1.1,a1.2) a2).length:Int))/\(v98=v95.length)/\(v95.length<=96)/\(InR a0.length v95)/\(v94.length<=96*tN v99)/\(v99<=v98)/\(0<=v100)/\(v100<=v101)/\(v101<=a1.1.length)/\((0<=v97))/\((dR a0 (a1.1,a1.2) a2=0))/\((v96.length=tN v97))/\((v97<=((bN (a1.1,a1.2) a2).length:Int)))/\(v97 < (((bN (a1.1,a1.2) a2).length:Nat):Int))/\(tN ((((bN (a1.1,a1.2) a2).length:Nat):Int) - v97) < n0+1)->tN (v98 - v99) < n->Aw.Good Tryz.prog none 9 (bodyPost Tryz.prog Tryz.f10 (RR cx (.t [(.a [(.s 3 0 (bB (aS a0 a1 a2 a3) n0 (aA (bP a0 a1 a2 a3) n (v94,v95,v96,v97,v98,v99,v100,v101,v102,v103,v104,v105,v106,v107))).1.1.1.length 1),(.s 4 0 (bB (aS a0 a1 a2 a3) n0 (aA (bP a0 a1 a2 a3) n (v94,v95,v96,v97,v98,v99,v100,v101,v102,v103,v104,v105,v106,v107))).1.1.2.length 8),(.s 5 0 (bB (aS a0 a1 a2 a3) n0 (aA (bP a0 a1 a2 a3) n (v94,v95,v96,v97,v98,v99,v100,v101,v102,v103,v104,v105,v106,v107))).1.2.1.length 3),(.s 6 0 (bB (aS a0 a1 a2 a3) n0 (aA (bP a0 a1 a2 a3) n (v94,v95,v96,v97,v98,v99,v100,v101,v102,v103,v104,v105,v106,v107))).1.2.2.length 1)]),(iv (bB (aS a0 a1 a2 a3) n0 (aA (bP a0 a1 a2 a3) n (v94,v95,v96,v97,v98,v99,v100,v101,v102,v103,v104,v105,v106,v107))).2)]) [(.live true true (flat c3 (bB (aS a0 a1 a2 a3) n0 (aA (bP a0 a1 a2 a3) n (v94,v95,v96,v97,v98,v99,v100,v101,v102,v103,v104,v105,v106,v107))).1.1.1)),(.live true true (flat dM (bB (aS a0 a1 a2 a3) n0 (aA (bP a0 a1 a2 a3) n (v94,v95,v96,v97,v98,v99,v100,v101,v102,v103,v104,v105,v106,v107))).1.1.2)),(.live true true (flat iT (bB (aS a0 a1 a2 a3) n0 (aA (bP a0 a1 a2 a3) n (v94,v95,v96,v97,v98,v99,v100,v101,v102,v103,v104,v105,v106,v107))).1.2.1)),(.live true true (flat fW (bB (aS a0 a1 a2 a3) n0 (aA (bP a0 a1 a2 a3) n (v94,v95,v96,v97,v98,v99,v100,v101,v102,v103,v104,v105,v106,v107))).1.2.2))] [])) cx [] (.l aA1 n::aA2 n0) (wC a0 a1 a2 a3 (flat eP v94) v94.length (flat c3 v95) v95.length (flat fW v96) v96.length v97 v98 v99 v100 v101 v102 v103 v104 v105 v106 v107):=by
 intro n
 induction n with
 | zero=>intro v94 v95 v96 v97 v98 v99 v100 v101 v102 v103 v104 v105 v106 v107 hi hn;exact absurd hn (fO _)
 | succ n ih =>
  intro v94 v95 v96 v97 v98 v99 v100 v101 v102 v103 v104 v105 v106 v107 hi hn
  refine aT ?_
  have hd:=iO (l:=a0) (t:=a1) (sep:=a2) hi.2.1
  have hp2:=part_len (l:=a1.1) (a:=v100) (b:=v101) (by omega)
  try have hr1:=hi.2.2.2.2.2.2.2.1.at (i:=tN v99) (by have _:=h0;omega)
  cases h0:(decide ((v99:Int) < v98)) with
  | true =>
   have q0:=dL h0
   try have hr1:=hi.2.2.2.2.2.2.2.1.at (i:=tN v99) (by have _:=h0;omega)
   have e:=Eq.refl (bP a0 a1 a2 a3 (v94,v95,v96,v97,v98,v99,v100,v101,v102,v103,v104,v105,v106,v107));conv at e=>rhs;simp only [bP,h0,aW]
   rw [aN,e]
   refine en [.d h0,.i v99 (v95.length),.L cZ v95 v99 0 1,.S cZ (a1.1) v100 v101 (a1.1.length)] [] [0,3,5,8,11,15,16,20,44,45,46,84,85,86,96,97,98] [3,4,5,6,7,8,9,13,10,11,12] hcx aG1 (aG2 n0 n) (aDe a0 a1 a2 a3 (flat eP v94) (v94.length) (flat c3 v95) (v95.length) (flat c3 (Aw.part (a1.1) v100 v101)) (tN v101 - tN v100) (flat fW v96) (v96.length) (v95.getD (tN v99) dF) v97 v98 v99 (((tN v101 - tN v100):Nat):Int) 0 v100 v101 v102 v103 v104 v105 v106 v107) (tN ((((tN v101 - tN v100):Nat):Int) - 0)+1) (by kernel_rfl) ?_
   have z0:(tN v101 - tN v100)=(Aw.part (a1.1) v100 v101).length:=(part_len (by omega)).symm
   rw [z0]
   exact aWm a0 a1 a2 a3 l0 l1_1 l1_2 hcx n0 g0 n ih (tN (((((Aw.part (a1.1) v100 v101).length):Nat):Int) - 0)+1) v94 v95 (Aw.part (a1.1) v100 v101) v96 (v95.getD (tN v99) dF) v97 v98 v99 ((((Aw.part (a1.1) v100 v101).length):Nat):Int) 0 v100 v101 v102 v103 v104 v105 v106 v107 (by(repeat' apply And.intro)<;>(try simp only [Ls])<;>first | omega | assumption | exact hd.2.2.2.1.part _ _ | exact hi.2.2.2.2.2.2.2.1 | exact hi.2.2.2.2.2.2.2.2.2.2.2.2.1) (by(try simp only [Ls]);omega)
  | false =>
   have q0:=eH h0
   try have hr1:=hi.2.2.2.2.2.2.2.1.at (i:=tN v99) (by have _:=h0;omega)
   have e:=Eq.refl (bP a0 a1 a2 a3 (v94,v95,v96,v97,v98,v99,v100,v101,v102,v103,v104,v105,v106,v107));conv at e=>rhs;simp only [bP,h0,aW]
   rw [aN,e]
   refine ba [.d h0,.p (show((flat eP v94)).length=v94.length*2 from by first | (simp [eJ dZ];done) | rfl),.p (show((flat fW v96).length=v96.length*1/\v96.length+1<=2 ^ 40/\(v96.length+1)*24<=2 ^ 47) from lQ nC (by omega) (by omega))] [] [0,3,5,8,11,44,45,46] [3,4,5,8,10,11,14] hcx (m:=n0) sG (sH) (oM a0 a1 a2 a3 (flat fW v96++[(.d (flat eP v94) v94.length 2)]) (v96.length+1) (W (v97+1))) (by kernel_rfl) ?_
   have z0:(W (v97+1))=(v97+1):=aH (by omega) (by omega)
   have z1:(flat fW v96++[(.d (flat eP v94) v94.length 2)])=(flat fW (v96++[v94])):=(cW (c:=fW) (l:=v96) (m:=[v94])).symm
   have z2:(v96.length+1)=(v96++[v94]).length:=kZ v96 [v94] rfl
   rw [z0,z1,z2]
   exact g0 (v96++[v94]) (v97+1) (by(repeat' apply And.intro)<;>(try simp only [Ls])<;>first | omega | assumption | exact hd.2.2.2.1.part _ _ | exact hi.2.2.2.2.2.2.2.1 | exact hi.2.2.2.2.2.2.2.2.2.2.2.2.1) (by(try simp only [Ls]);omega)
theorem aWo (a0:bE)(a1:List Int×aY)(a2:Int)(a3:Int)(l0:a0.length<=2^63-1)(l1_1:a1.1.length<=2^63-1)(l1_2:a1.2.length<=2^63-1) [h5:bL a0] {cx:Cx} (hcx:cx.base=3):∀(n:Nat) (v2:List (List (Int×Int))) (v3:Int),(0<=v3)/\(dR a0 (a1.1,a1.2) a2=0)/\(v2.length=tN v3)/\(v3<=((bN (a1.1,a1.2) a2).length:Int))->tN ((((bN (a1.1,a1.2) a2).length:Nat):Int) - v3) < n->Aw.Good Tryz.prog none 9 (bodyPost Tryz.prog Tryz.f10 (RR cx (.t [(.a [(.s 3 0 (aA (aS a0 a1 a2 a3) n (v2,v3)).1.1.1.length 1),(.s 4 0 (aA (aS a0 a1 a2 a3) n (v2,v3)).1.1.2.length 8),(.s 5 0 (aA (aS a0 a1 a2 a3) n (v2,v3)).1.2.1.length 3),(.s 6 0 (aA (aS a0 a1 a2 a3) n (v2,v3)).1.2.2.length 1)]),(iv (aA (aS a0 a1 a2 a3) n (v2,v3)).2)]) [(.live true true (flat c3 (aA (aS a0 a1 a2 a3) n (v2,v3)).1.1.1)),(.live true true (flat dM (aA (aS a0 a1 a2 a3) n (v2,v3)).1.1.2)),(.live true true (flat iT (aA (aS a0 a1 a2 a3) n (v2,v3)).1.2.1)),(.live true true (flat fW (aA (aS a0 a1 a2 a3) n (v2,v3)).1.2.2))] [])) cx [] (.l sG n::sH) (oM a0 a1 a2 a3 (flat fW v2) v2.length v3):=by
 intro n
 induction n with
 | zero=>intro v2 v3 hi hn;exact absurd hn (fO _)
 | succ n ih =>
  intro v2 v3 hi hn
  refine aT ?_
  have hd:=iO (l:=a0) (t:=a1) (sep:=a2) hi.2.1
  try have hbf:=pN (l:=a0) (t:=a1) (sep:=a2) hi.2.1 (j:=v3) hi.1 h0
  try have hb1:=hbf.1
  try have hb2:=hbf.2.1
  try have hb3:=hbf.2.2.1
  try have hb4:=hbf.2.2.2
  cases h0:(decide ((v3:Int) < (((bN (a1.1,a1.2) a2).length:Nat):Int))) with
  | true =>
   have q0:=dL h0
   try have hbf:=pN (l:=a0) (t:=a1) (sep:=a2) hi.2.1 (j:=v3) hi.1 h0
   let t1:List (St Tryz.prog):=[.d h0,.i v3 ((bN (a1.1,a1.2) a2).length),.L pL (bN (a1.1,a1.2) a2) v3 0 3,.i (((bN (a1.1,a1.2) a2).getD (tN v3) dF).1) (a1.2.length),.L dS a1.2 ((bN (a1.1,a1.2) a2).getD (tN v3) dF).1 0 8,.i (((bN (a1.1,a1.2) a2).getD (tN v3) dF).2.1) (a1.2.length),.L dS a1.2 ((bN (a1.1,a1.2) a2).getD (tN v3) dF).2.1 0 8]
   cases h1:((bN (a1.1,a1.2) a2).getD (tN v3) dF).2.2 with
   | true =>
    try have hbf:=pN (l:=a0) (t:=a1) (sep:=a2) hi.2.1 (j:=v3) hi.1 h0
    let t2:List (St Tryz.prog):=(t1++[.d h1,.c [] (C39 (a1.2.getD (tN ((bN (a1.1,a1.2) a2).getD (tN v3) dF).1) dF) (a1.2.getD (tN ((bN (a1.1,a1.2) a2).getD (tN v3) dF).2.1) dF))])
    cases h2:(((zZ (a1.2.getD (tN ((bN (a1.1,a1.2) a2).getD (tN v3) dF).1) dF) (a1.2.getD (tN ((bN (a1.1,a1.2) a2).getD (tN v3) dF).2.1) dF)).2:Int) != 0) with
    | true =>
     have q2:=bne_iff_ne.1 h2
     try have hbf:=pN (l:=a0) (t:=a1) (sep:=a2) hi.2.1 (j:=v3) hi.1 h0
     have e:=Eq.refl (aS a0 a1 a2 a3 (v2,v3));conv at e=>rhs;simp only [aS,h0,h1,h2,aW]
     rw [aN,e]
     exact rt (t2++[.d h2]) [.cell 4 0 1,.cell 4 1 8,.cell 4 2 3,.cell 4 3 1] [14,15,16,17] hcx (by kernel_rfl)
    | false =>
     have q2:=bne_eq_false_iff_eq.1 h2
     try have hbf:=pN (l:=a0) (t:=a1) (sep:=a2) hi.2.1 (j:=v3) hi.1 h0
     have e:=Eq.refl (aS a0 a1 a2 a3 (v2,v3));conv at e=>rhs;simp only [aS,h0,h1,h2,aW]
     rw [aB e]
     refine ba (t2++[.d h2,.p (show((k2 (zZ (a1.2.getD (tN ((bN (a1.1,a1.2) a2).getD (tN v3) dF).1) dF) (a1.2.getD (tN ((bN (a1.1,a1.2) a2).getD (tN v3) dF).2.1) dF)).1)).length=1*2 from by first | (simp [eJ dZ];done) | rfl),.p (show((flat fW v2).length=v2.length*1/\v2.length+1<=2 ^ 40/\(v2.length+1)*24<=2 ^ 47) from lQ nC (by omega) (by omega))]) [] [0,3,5,8,11,44,45,46] [3,4,5,6,7,8,17] hcx (m:=n) sG (sH) (oM a0 a1 a2 a3 (flat fW v2++[(.d (flat eP ([(zZ (a1.2.getD (tN ((bN (a1.1,a1.2) a2).getD (tN v3) dF).1) dF) (a1.2.getD (tN ((bN (a1.1,a1.2) a2).getD (tN v3) dF).2.1) dF)).1]:List (Int×Int))) ([(zZ (a1.2.getD (tN ((bN (a1.1,a1.2) a2).getD (tN v3) dF).1) dF) (a1.2.getD (tN ((bN (a1.1,a1.2) a2).getD (tN v3) dF).2.1) dF)).1]:List (Int×Int)).length 2)]) (v2.length+1) (W (v3+1))) (by kernel_rfl) ?_
     have z0:(W (v3+1))=(v3+1):=aH (by omega) (by omega)
     have z1:(flat fW v2++[(.d (flat eP ([(zZ (a1.2.getD (tN ((bN (a1.1,a1.2) a2).getD (tN v3) dF).1) dF) (a1.2.getD (tN ((bN (a1.1,a1.2) a2).getD (tN v3) dF).2.1) dF)).1]:List (Int×Int))) ([(zZ (a1.2.getD (tN ((bN (a1.1,a1.2) a2).getD (tN v3) dF).1) dF) (a1.2.getD (tN ((bN (a1.1,a1.2) a2).getD (tN v3) dF).2.1) dF)).1]:List (Int×Int)).length 2)])=(flat fW (v2++[([(zZ (a1.2.getD (tN ((bN (a1.1,a1.2) a2).getD (tN v3) dF).1) dF) (a1.2.getD (tN ((bN (a1.1,a1.2) a2).getD (tN v3) dF).2.1) dF)).1]:List (Int×Int))])):=(cW (c:=fW) (l:=v2) (m:=[([(zZ (a1.2.getD (tN ((bN (a1.1,a1.2) a2).getD (tN v3) dF).1) dF) (a1.2.getD (tN ((bN (a1.1,a1.2) a2).getD (tN v3) dF).2.1) dF)).1]:List (Int×Int))])).symm
     have z2:(v2.length+1)=(v2++[([(zZ (a1.2.getD (tN ((bN (a1.1,a1.2) a2).getD (tN v3) dF).1) dF) (a1.2.getD (tN ((bN (a1.1,a1.2) a2).getD (tN v3) dF).2.1) dF)).1]:List (Int×Int))]).length:=kZ v2 [([(zZ (a1.2.getD (tN ((bN (a1.1,a1.2) a2).getD (tN v3) dF).1) dF) (a1.2.getD (tN ((bN (a1.1,a1.2) a2).getD (tN v3) dF).2.1) dF)).1]:List (Int×Int))] rfl
     rw [z0,z1,z2]
     exact ih (v2++[([(zZ (a1.2.getD (tN ((bN (a1.1,a1.2) a2).getD (tN v3) dF).1) dF) (a1.2.getD (tN ((bN (a1.1,a1.2) a2).getD (tN v3) dF).2.1) dF)).1]:List (Int×Int))]) (v3+1) (by(repeat' apply And.intro)<;>(try simp only [Ls])<;>first | omega | assumption | exact hd.2.2.2.1.part _ _ | exact hi.2.2.2.2.2.2.2.1 | exact hi.2.2.2.2.2.2.2.2.2.2.2.2.1) (by(try simp only [Ls]);omega)
   | false =>
    try have hbf:=pN (l:=a0) (t:=a1) (sep:=a2) hi.2.1 (j:=v3) hi.1 h0
    have e:=Eq.refl (aS a0 a1 a2 a3 (v2,v3));conv at e=>rhs;simp only [aS,h0,h1,aW]
    rw [aN,e]
    refine en (t1++[.d h1,.S cZ (a1.1) ((a1.2.getD (tN ((bN (a1.1,a1.2) a2).getD (tN v3) dF).1) dF).1) ((a1.2.getD (tN ((bN (a1.1,a1.2) a2).getD (tN v3) dF).1) dF).2.1) (a1.1.length)]) [.slot 16 2] [0,3,5,8,11,15,16,44,45,46,84,85,86] [3,4,5,12,14,6,13,7,8,9] hcx aA1 (aA2 n) (wC a0 a1 a2 a3 (flat eP ([]:List (Int×Int))) 0 (flat c3 (Aw.part (a1.1) ((a1.2.getD (tN ((bN (a1.1,a1.2) a2).getD (tN v3) dF).1) dF).1) ((a1.2.getD (tN ((bN (a1.1,a1.2) a2).getD (tN v3) dF).1) dF).2.1))) (tN (a1.2.getD (tN ((bN (a1.1,a1.2) a2).getD (tN v3) dF).1) dF).2.1 - tN (a1.2.getD (tN ((bN (a1.1,a1.2) a2).getD (tN v3) dF).1) dF).1) (flat fW v2) (v2.length) v3 (((tN (a1.2.getD (tN ((bN (a1.1,a1.2) a2).getD (tN v3) dF).1) dF).2.1 - tN (a1.2.getD (tN ((bN (a1.1,a1.2) a2).getD (tN v3) dF).1) dF).1):Nat):Int) 0 ((a1.2.getD (tN ((bN (a1.1,a1.2) a2).getD (tN v3) dF).2.1) dF).1) ((a1.2.getD (tN ((bN (a1.1,a1.2) a2).getD (tN v3) dF).2.1) dF).2.1) ((a1.2.getD (tN ((bN (a1.1,a1.2) a2).getD (tN v3) dF).2.1) dF).2.2.1) ((a1.2.getD (tN ((bN (a1.1,a1.2) a2).getD (tN v3) dF).2.1) dF).2.2.2.1) ((a1.2.getD (tN ((bN (a1.1,a1.2) a2).getD (tN v3) dF).2.1) dF).2.2.2.2.1.1) ((a1.2.getD (tN ((bN (a1.1,a1.2) a2).getD (tN v3) dF).2.1) dF).2.2.2.2.1.2.1) ((a1.2.getD (tN ((bN (a1.1,a1.2) a2).getD (tN v3) dF).2.1) dF).2.2.2.2.1.2.2) ((a1.2.getD (tN ((bN (a1.1,a1.2) a2).getD (tN v3) dF).2.1) dF).2.2.2.2.2)) (tN ((((tN (a1.2.getD (tN ((bN (a1.1,a1.2) a2).getD (tN v3) dF).1) dF).2.1 - tN (a1.2.getD (tN ((bN (a1.1,a1.2) a2).getD (tN v3) dF).1) dF).1):Nat):Int) - 0)+1) (by kernel_rfl) ?_
    have z0:(tN (a1.2.getD (tN ((bN (a1.1,a1.2) a2).getD (tN v3) dF).1) dF).2.1 - tN (a1.2.getD (tN ((bN (a1.1,a1.2) a2).getD (tN v3) dF).1) dF).1)=(Aw.part (a1.1) ((a1.2.getD (tN ((bN (a1.1,a1.2) a2).getD (tN v3) dF).1) dF).1) ((a1.2.getD (tN ((bN (a1.1,a1.2) a2).getD (tN v3) dF).1) dF).2.1)).length:=(part_len (by omega)).symm
    rw [z0]
    exact aWn a0 a1 a2 a3 l0 l1_1 l1_2 hcx n ih (tN (((((Aw.part (a1.1) ((a1.2.getD (tN ((bN (a1.1,a1.2) a2).getD (tN v3) dF).1) dF).1) ((a1.2.getD (tN ((bN (a1.1,a1.2) a2).getD (tN v3) dF).1) dF).2.1)).length):Nat):Int) - 0)+1) ([]:List (Int×Int)) (Aw.part (a1.1) ((a1.2.getD (tN ((bN (a1.1,a1.2) a2).getD (tN v3) dF).1) dF).1) ((a1.2.getD (tN ((bN (a1.1,a1.2) a2).getD (tN v3) dF).1) dF).2.1)) v2 v3 ((((Aw.part (a1.1) ((a1.2.getD (tN ((bN (a1.1,a1.2) a2).getD (tN v3) dF).1) dF).1) ((a1.2.getD (tN ((bN (a1.1,a1.2) a2).getD (tN v3) dF).1) dF).2.1)).length):Nat):Int) 0 ((a1.2.getD (tN ((bN (a1.1,a1.2) a2).getD (tN v3) dF).2.1) dF).1) ((a1.2.getD (tN ((bN (a1.1,a1.2) a2).getD (tN v3) dF).2.1) dF).2.1) ((a1.2.getD (tN ((bN (a1.1,a1.2) a2).getD (tN v3) dF).2.1) dF).2.2.1) ((a1.2.getD (tN ((bN (a1.1,a1.2) a2).getD (tN v3) dF).2.1) dF).2.2.2.1) ((a1.2.getD (tN ((bN (a1.1,a1.2) a2).getD (tN v3) dF).2.1) dF).2.2.2.2.1.1) ((a1.2.getD (tN ((bN (a1.1,a1.2) a2).getD (tN v3) dF).2.1) dF).2.2.2.2.1.2.1) ((a1.2.getD (tN ((bN (a1.1,a1.2) a2).getD (tN v3) dF).2.1) dF).2.2.2.2.1.2.2) ((a1.2.getD (tN ((bN (a1.1,a1.2) a2).getD (tN v3) dF).2.1) dF).2.2.2.2.2) (by(repeat' apply And.intro)<;>(try simp only [Ls])<;>first | omega | assumption | exact hd.2.2.2.1.part _ _ | exact hi.2.2.2.2.2.2.2.1 | exact hi.2.2.2.2.2.2.2.2.2.2.2.2.1) (by(try simp only [Ls]);omega)
  | false =>
   have q0:=eH h0
   try have hbf:=pN (l:=a0) (t:=a1) (sep:=a2) hi.2.1 (j:=v3) hi.1 h0
   have e:=Eq.refl (aS a0 a1 a2 a3 (v2,v3));conv at e=>rhs;simp only [aS,h0,aW]
   rw [aN,e]
   exact rt [.d h0] [] [7,8,6,9] hcx (by kernel_rfl)
def aQ (a0:bE)(a1:List Int×aY)(a2:Int)(a3:Int):((List Int×aY)×(List (Int×Int×Bool))×List (List (Int×Int)))×Int :=
 (bif (((dR a0 (a1.1,a1.2) a2):Int) != 0) then
  (((([]:List Int),([]:aY)),([]:List (Int×Int×Bool)),([]:List (List (Int×Int)))),(dR a0 (a1.1,a1.2) a2))
 else
  (bif (!(kM a3 0 2)) then
   (((([]:List Int),([]:aY)),([]:List (Int×Int×Bool)),([]:List (List (Int×Int)))),1)
  else
   (aA (aS a0 a1 a2 a3) (tN ((((bN (a1.1,a1.2) a2).length:Nat):Int) - 0)+1) (([]:List (List (Int×Int))),0))))
theorem bDs (a0:bE)(a1:List Int×aY)(a2:Int)(a3:Int)(l0:a0.length<=2^63-1)(l1_1:a1.1.length<=2^63-1)(l1_2:a1.2.length<=2^63-1) [h5:bL a0]:Con Tryz.prog 10 [(.s 0 0 a0.length 10),(.a [(.s 1 0 a1.1.length 1),(.s 2 0 a1.2.length 8)]),(iv a2),(iv a3)] [(.live false true (flat fK a0)),(.live false true (flat c3 a1.1)),(.live false true (flat dM a1.2))] (.t [(.a [(.s 3 0 (aQ a0 a1 a2 a3).1.1.1.length 1),(.s 4 0 (aQ a0 a1 a2 a3).1.1.2.length 8),(.s 5 0 (aQ a0 a1 a2 a3).1.2.1.length 3),(.s 6 0 (aQ a0 a1 a2 a3).1.2.2.length 1)]),(iv (aQ a0 a1 a2 a3).2)]) [(.live true true (flat c3 (aQ a0 a1 a2 a3).1.1.1)),(.live true true (flat dM (aQ a0 a1 a2 a3).1.1.2)),(.live true true (flat iT (aQ a0 a1 a2 a3).1.2.1)),(.live true true (flat fW (aQ a0 a1 a2 a3).1.2.2))]:=by
 refine aU Tryz.func10 (by kernel_rfl) fun cx hcx=>?_
 try have hd:=iO (l:=a0) (t:=a1) (sep:=a2) (bne_eq_false_iff_eq.1 h0)
 let t0:List (St Tryz.prog):=[.c [0,1,2] (bDf a0 (a1.1,a1.2) a2 (by omega) (by(try simp only [Lt]);omega) (by(try simp only [Lt]);omega))]
 cases h0:(((dR a0 (a1.1,a1.2) a2):Int) != 0) with
 | true =>
  have q0:=bne_iff_ne.1 h0
  try have hd:=iO (l:=a0) (t:=a1) (sep:=a2) (bne_eq_false_iff_eq.1 h0)
  have e:=Eq.refl (aQ a0 a1 a2 a3);conv at e=>rhs;simp only [aQ,h0,aW]
  rw [e]
  exact rt (t0++[.d h0]) [.cell 4 0 1,.cell 4 1 8,.cell 4 2 3,.cell 4 3 1] [5,6,7,8] hcx (by kernel_rfl)
 | false =>
  have q0:=bne_eq_false_iff_eq.1 h0
  try have hd:=iO (l:=a0) (t:=a1) (sep:=a2) (bne_eq_false_iff_eq.1 h0)
  let t1:List (St Tryz.prog):=(t0++[.d h0,.c [] (C34 a3 0 2)])
  cases h1:(!(kM a3 0 2)) with
  | true =>
   try have hd:=iO (l:=a0) (t:=a1) (sep:=a2) (bne_eq_false_iff_eq.1 h0)
   have e:=Eq.refl (aQ a0 a1 a2 a3);conv at e=>rhs;simp only [aQ,h0,h1,aW]
   rw [e]
   exact rt (t1++[.d h1]) [.cell 4 0 1,.cell 4 1 8,.cell 4 2 3,.cell 4 3 1] [5,6,7,8] hcx (by kernel_rfl)
  | false =>
   try have hd:=iO (l:=a0) (t:=a1) (sep:=a2) (bne_eq_false_iff_eq.1 h0)
   have e:=Eq.refl (aQ a0 a1 a2 a3);conv at e=>rhs;simp only [aQ,h0,h1,aW]
   rw [e]
   refine en (t1++[.d h1,.c [1,2] (C37 (a1.1,a1.2) (by(try simp only [Lt]);omega) (by(try simp only [Lt]);omega) (by(try simp only [Lt]);omega)),.c [1,2] (C38 (a1.1,a1.2) a2 (by(try simp only [Lt]);omega) (by(try simp only [Lt]);omega) (fun q=>aN1 (kA (l:=a0) (t:=(a1.1,a1.2)) (sep:=a2) (bne_eq_false_iff_eq.1 h0)) q))]) [.cell 8 3 1] [0,3,5,8,11,44,45,46] [3,4,8,7,5,6,9] hcx sG (sH) (oM a0 a1 a2 a3 (flat fW ([]:List (List (Int×Int)))) 0 0) (tN ((((bN (a1.1,a1.2) a2).length:Nat):Int) - 0)+1) (by kernel_rfl) ?_
   exact aWo a0 a1 a2 a3 l0 l1_1 l1_2 hcx (tN ((((bN (a1.1,a1.2) a2).length:Nat):Int) - 0)+1) ([]:List (List (Int×Int))) 0 (by(repeat' apply And.intro)<;>(try simp only [Ls])<;>first | omega | assumption | exact hd.2.2.2.1.part _ _ | exact hi.2.2.2.2.2.2.2.1 | exact hi.2.2.2.2.2.2.2.2.2.2.2.2.1) (by(try simp only [Ls]);omega)
abbrev iU:=Int×Int
abbrev BK5:=Int×Int×Bool
def fN {α σ R:Type} (f:σ->α->σ⊕R):List α->σ->σ⊕R
 | [],v=>.inl v
 | c::l,v=>match f v c with
  | .inl v'=>fN f l v'
  | .inr r=>.inr r
theorem aL7 {α σ T R E:Type} [Inhabited R] (pk:σ->Int->T) {S:T->T⊕R} (f:σ->α->σ⊕E)(G:σ->R)(K:E->R) {L:List α}
 (hS:∀(i:Nat) (c:α),L[i]? = some c->∀v,S (pk v (i:Int))=match f v c with | .inl v'=>.inl (pk v' ((i+1:Nat):Int)) | .inr e=>.inr (K e))
 (hE:∀v,S (pk v (L.length:Int))=.inr (G v)) :
 ∀(k:List α) (i n:Nat) (v:σ),L.drop i=k->i<=L.length->k.length < n->aA S n (pk v (i:Int))=Sum.elim G K (fN f k v):=by
 intro k
 induction k with
 | nil =>
  intro i n v hd hi hn
  have:i=L.length:=by have:=List.drop_eq_nil_iff.1 hd;omega
  obtain⟨n,rfl⟩:∃m,n=m+1:=⟨n - 1,by simp only [List.length_nil] at hn;omega⟩
  subst this
  rw [aC (hE v)];rfl
 | cons c k ih =>
  intro i n v hd hi hn
  obtain⟨n,rfl⟩:∃m,n=m+1:=⟨n - 1,by simp only [List.length_cons] at hn;omega⟩
  have hc:L[i]? = some c:=by
   have h:=congrArg List.head? hd
   rw [List.head?_drop,List.head?_cons] at h;exact h
  have hlt:=(List.getElem?_eq_some_iff.1 hc).1
  have hs:=hS i c hc v
  simp only [fN]
  cases hf:f v c with
  | inl v' =>
   rw [hf] at hs
   rw [aB hs]
   exact ih (i+1) n v' (by rw [←List.drop_drop,hd];rfl) (by omega) (by simp only [List.length_cons] at hn;omega)
  | inr e =>
   rw [hf] at hs
   rw [aC hs];rfl
theorem yL {α σ T R E:Type} [Inhabited R] (pk:σ->Int->T) {S:T->T⊕R} (f:σ->α->σ⊕E)(G:σ->R)(K:E->R) {L:List α} {n:Nat} {v:σ}
 (hS:∀(i:Nat) (c:α),L[i]? = some c->∀v,S (pk v (i:Int))=match f v c with | .inl v'=>.inl (pk v' ((i+1:Nat):Int)) | .inr e=>.inr (K e))
 (hE:∀v,S (pk v (L.length:Int))=.inr (G v)) (hn:L.length < n):aA S n (pk v 0)=Sum.elim G K (fN f L v) :=
 aL7 pk f G K hS hE L 0 n v rfl (Nat.zero_le _) hn
noncomputable def btw (l:bR)(d i k:Int):iU×Int:=F53 (l.getD (tN i) dF).1 (l.getD (tN k) dF).1 d
noncomputable def aAm (l:bR)(d:Int)(ks:List Int)(v:List iU)(i:Int):List iU⊕Int:=fN (fun v k=>bif ((btw l d i k).2 != 0) then .inr (btw l d i k).2 else .inl (v++[(btw l d i k).1])) ks v
noncomputable def aG3 (l:bR)(d:Int)(is ks:List Int)(v:List iU):List iU⊕Int:=fN (aAm l d ks) is v
noncomputable def iP (l:bR)(t:TR)(d:Int)(b:BK5):List iU⊕Int :=
 bif b.2.2 then(bif ((fsV (t.2.getD (tN b.1) dF) (t.2.getD (tN b.2.1) dF)).2 != 0) then .inr (fsV (t.2.getD (tN b.1) dF) (t.2.getD (tN b.2.1) dF)).2 else .inl [(fsV (t.2.getD (tN b.1) dF) (t.2.getD (tN b.2.1) dF)).1])
 else aG3 l d (Aw.part t.1 (t.2.getD (tN b.1) dF).1 (t.2.getD (tN b.1) dF).2.1) (Aw.part t.1 (t.2.getD (tN b.2.1) dF).1 (t.2.getD (tN b.2.1) dF).2.1) []
noncomputable def aL8 (l:bR)(t:TR)(d:Int)(bs:List BK5):List (List iU)⊕Int:=fN (fun out b=>match iP l t d b with | .inl r=>.inl (out++[r]) | .inr e=>.inr e) bs []
theorem wD {α:Type} [Inhabited α] {L:List α} {i:Nat} {c:α} (h:L[i]? = some c):L.getD (tN (i:Int)) dF=c:=by
 rw [eX,cV,h];rfl
section
variable {l : bR} {t : TR} {sep d : Int}
theorem bFo (Q P:List Int)(out:List (List iU))(i b n1 a x0 x1 x2 x3 x4 x5 x6 x7:Int)(v:List iU)(n:Nat)(hn:Q.length < n) :
 aA (dX l t sep d) n (v,P,Q,out,i,b,n1,a,(Q.length:Int),0,x0,x1,x2,x3,x4,x5,x6,x7) =
  Sum.elim (fun v'=>.inl (v',P,out,b,n1,a+1,x0,x1,x2,x3,x4,x5,x6,x7)) (fun e=>.inr (.inr (((([]:List Int),[]),[],[]),e))) (aAm l d Q v i):=by
 refine(yL (S:=dX l t sep d) (fun(v:List iU) j=>(v,P,Q,out,i,b,n1,a,(Q.length:Int),j,x0,x1,x2,x3,x4,x5,x6,x7)) (fun v k=>bif ((btw l d i k).2 != 0) then .inr (btw l d i k).2 else .inl (v++[(btw l d i k).1])) (fun v'=>.inl (v',P,out,b,n1,a+1,x0,x1,x2,x3,x4,x5,x6,x7)) (fun e=>.inr (.inr (((([]:List Int),[]),[],[]),e))) (L:=Q) ?_ ?_ hn)
 ·intro j c hc v
  have hlt:=(List.getElem?_eq_some_iff.1 hc).1
  simp only [dX,pF]
  rw [bG (by omega),cond_true,wD hc]
  unfold btw
  cases ((F53 (l.getD (tN i) dF).1 (l.getD (tN c) dF).1 d).2 != 0)<;>rfl
 ·intro v
  simp only [dX]
  rw [cC (by omega),cond_false]
theorem bFp (P:List Int)(out:List (List iU))(b x0 x1 x2 x3 x4 x5 x6 x7:Int)(hx:0<=x0/\x0<=x1/\x1<=t.1.length)(v:List iU)(n:Nat)(hn:P.length < n) :
 aA (bP l t sep d) n (v,P,out,b,(P.length:Int),0,x0,x1,x2,x3,x4,x5,x6,x7) =
  Sum.elim (fun v'=>.inl (out++[v'],b+1)) (fun e=>.inr (((([]:List Int),[]),[],[]),e)) (aG3 l d P (Aw.part t.1 x0 x1) v):=by
 refine(yL (S:=bP l t sep d) (fun(v:List iU) j=>(v,P,out,b,(P.length:Int),j,x0,x1,x2,x3,x4,x5,x6,x7)) (aAm l d (Aw.part t.1 x0 x1)) (fun v'=>.inl (out++[v'],b+1)) (fun e=>.inr (((([]:List Int),[]),[],[]),e)) (L:=P) ?_ ?_ hn)
 ·intro j c hc v
  have hlt:=(List.getElem?_eq_some_iff.1 hc).1
  have hl:=Aw.part_len hx
  simp only [bP]
  rw [bG (by omega),cond_true,wD hc,←hl]
  rw [bFo (Aw.part t.1 x0 x1) P out c b _ (j:Int) x0 x1 x2 x3 x4 x5 x6 x7 v _ (by omega)]
  cases aAm l d (Aw.part t.1 x0 x1) v c<;>rfl
 ·intro v
  simp only [bP]
  rw [cC (by omega),cond_false]
theorem bFq [bL l] (h:dR l t sep=0):aA (aS l t sep d) (tN ((((bN (t.1,t.2) sep).length:Nat):Int) - 0)+1) (([]:List (List (Int×Int))),0) =
 Sum.elim (fun out=>((F37 t,bN t sep,out),0)) (fun e=>(((([]:List Int),[]),[],[]),e)) (aL8 l t d (bN t sep)):=by
 refine(yL (S:=aS l t sep d) (fun(out:List (List iU)) j=>(out,j)) (fun out b=>match iP l t d b with | .inl r=>.inl (out++[r]) | .inr e=>.inr e) (fun out=>((F37 t,bN t sep,out),0)) (fun e=>(((([]:List Int),[]),[],[]),e)) (L:=bN t sep) ?_ ?_ (by show _ < tN ((((bN t sep).length:Nat):Int) - 0)+1;omega))
 ·intro j c hc out
  have hlt:=(List.getElem?_eq_some_iff.1 hc).1
  have hbf:=yK h (j:=(j:Int)) (by omega) (by omega)
  rw [wD hc] at hbf
  obtain⟨_,_,hb3,hb4⟩:=hbf
  have hl:=Aw.part_len hb3
  simp only [aS,bFn]
  rw [show((t.1,t.2):TR)=t from rfl,bG (by omega),cond_true,wD hc]
  unfold iP
  cases c.2.2 with
  | true =>
   simp only [cond_true]
   cases ((fsV (t.2.getD (tN c.1) dF) (t.2.getD (tN c.2.1) dF)).2 != 0)<;>rfl
  | false =>
   simp only [cond_false]
   rw [←hl,bFp _ out (j:Int) _ _ _ _ _ _ _ _ hb4 [] _ (by omega)]
   cases aG3 l d (Aw.part t.1 (t.2.getD (tN c.1) dF).1 (t.2.getD (tN c.1) dF).2.1) (Aw.part t.1 (t.2.getD (tN c.2.1) dF).1 (t.2.getD (tN c.2.1) dF).2.1) []<;>rfl
 ·intro out
  simp only [aS]
  rw [show((t.1,t.2):TR)=t from rfl,cC (by omega),cond_false]
end
end Go.Proofs.YtlckcjfbjnjfhaaGreat
namespace Go.Proofs.YtlckcjfbjnjfhaaGreat
open Go.Proofs Go.Aw Go.RowKit
set_option maxRecDepth 100000
section
variable {l : bR} {t : TR} {sep d : Int}
end
abbrev OPT:=(TR×List BK5×List (List iU))×Int
noncomputable def aEg (l:bR)(t:TR)(sep d:Int):Bool×OPT :=
 bif ((dR l t sep:Int) != 0) then(true,((([],[]),[],[]),dR l t sep))
 else bif (!kM d 0 2) then(true,((([],[]),[],[]),1))
 else match aL8 l t d (bN t sep) with
  | .inl out=>(false,((t,bN t sep,out),0))
  | .inr e=>(true,((([],[]),[],[]),e))
theorem aTe (l:bR) [bL l] (t:TR)(sep d:Int):aQ l t sep d=(aEg l t sep d).2:=by
 unfold aQ aEg
 rw [show((t.1,t.2):TR)=t from rfl]
 cases h0:((dR l t sep:Int) != 0) with
 | true=>rfl
 | false =>
  simp only [cond_false]
  cases kM d 0 2 with
  | false=>rfl
  | true =>
   simp only [Bool.not_true,cond_false]
   rw [show aA (aS l t sep d) (tN ((((bN t sep).length:Nat):Int) - 0)+1) (([]:List (List (Int×Int))),0)=_ from bFq (bne_eq_false_iff_eq.1 h0)]
   cases aL8 l t d (bN t sep)<;>rfl
theorem aN7 (l:bR)(d i:Int):∀(ks:List Int) (v v':List iU),aAm l d ks v i=.inl v'->v'.length<=v.length+ks.length
 | [],v,v',h=>by
  unfold aAm fN at h
  cases h;simp
 | k::ks,v,v',h=>by
  unfold aAm at h
  simp only [fN] at h
  cases hb:((btw l d i k).2 != 0) with
  | true=>rw [hb,cond_true] at h;cases h
  | false =>
   rw [hb,cond_false] at h
   have:=aN7 l d i ks (v++[(btw l d i k).1]) v' h
   simp only [List.length_append,List.length_cons,List.length_nil] at this ⊢
   omega
theorem aJh (l:bR)(d:Int)(ks:List Int)(hk:ks.length<=96):∀(is:List Int) (v v':List iU),aG3 l d is ks v=.inl v'->v'.length<=v.length+96*is.length
 | [],v,v',h=>by
  unfold aG3 fN at h
  cases h;simp
 | i::is,v,v',h=>by
  unfold aG3 at h
  simp only [fN] at h
  cases hb:aAm l d ks v i with
  | inr e=>rw [hb] at h;cases h
  | inl w =>
   rw [hb] at h
   have h1:=aN7 l d i ks v w hb
   have h2:=aJh l d ks hk is w v' h
   simp only [List.length_cons]
   omega
theorem aN8 (l:bR)(t:TR)(d:Int)(ht:t.1.length<=96):∀(bs:List BK5) (out out':List (List iU)),(∀r∈out,r.length<=10000)->fN (fun out b=>match iP l t d b with | .inl r=>.inl (out++[r]) | .inr e=>.inr e) bs out=(.inl out':List (List iU)⊕Int)->∀r∈out',r.length<=10000
 | [],out,out',ho,h=>by
  unfold fN at h
  cases h;exact ho
 | b::bs,out,out',ho,h=>by
  simp only [fN] at h
  cases hb:iP l t d b with
  | inr e=>rw [hb] at h;cases h
  | inl w =>
   rw [hb] at h
   refine aN8 l t d ht bs (out++[w]) out' (fun r hr=>?_) h
   rcases List.mem_append.1 hr with hr | hr
   ·exact ho r hr
   ·obtain rfl:=List.mem_singleton.1 hr
    unfold iP at hb
    cases hf:b.2.2 with
    | true =>
     rw [hf,cond_true] at hb
     cases he:((fsV (t.2.getD (tN b.1) dF) (t.2.getD (tN b.2.1) dF)).2 != 0) with
     | true=>rw [he,cond_true] at hb;cases hb
     | false=>rw [he,cond_false] at hb;cases hb;simp
    | false =>
     rw [hf,cond_false] at hb
     have hp:∀a c:Int,(Aw.part t.1 a c).length<=96:=fun a c=>by
      unfold Aw.part
      rw [List.length_take,List.length_drop];omega
     have:=aJh l d _ (hp _ _) _ _ _ hb
     have:=hp (t.2.getD (tN b.1) dF).1 (t.2.getD (tN b.1) dF).2.1
     simp only [List.length_nil] at *
     omega
theorem aP5 (l:bR) [bL l] (t:TR)(sep d:Int):∀r∈(aEg l t sep d).2.1.2.2,r.length<=10000:=by
 unfold aEg
 cases h0:((dR l t sep:Int) != 0) with
 | true=>intro r hr;simp at hr
 | false =>
  cases kM d 0 2 with
  | false=>intro r hr;simp at hr
  | true =>
   simp only [Bool.not_true,cond_false]
   cases ha:aL8 l t d (bN t sep) with
   | inr e=>intro r hr;simp at hr
   | inl out =>
    have hd:=mE (bne_eq_false_iff_eq.1 h0)
    exact aN8 l t d (by omega) _ [] out (fun r hr=>by cases hr) ha
theorem aTf (l:bR) [bL l] (t:TR)(sep d:Int)(j:Nat):((aQ l t sep d).1.2.2.getD j dF).length<=10000:=by
 by_cases h:j < (aQ l t sep d).1.2.2.length
 ·rw [cV,List.getElem?_eq_getElem h,Option.getD_some]
  have hm:=List.getElem_mem h
  generalize (aQ l t sep d).1.2.2[j]=r at *
  rw [aTe] at hm
  exact aP5 l t sep d r hm
 ·rw [cV,List.getElem?_eq_none (by omega)]
  exact Nat.zero_le _
theorem aJi (l:bR)(t:TR)(d:Int):∀(bs:List BK5) (out out':List (List iU)),fN (fun out b=>match iP l t d b with | .inl r=>.inl (out++[r]) | .inr e=>.inr e) bs out=(.inl out':List (List iU)⊕Int)->out'.length=out.length+bs.length
 | [],out,out',h=>by
  unfold fN at h
  cases h;simp
 | b::bs,out,out',h=>by
  simp only [fN] at h
  cases hb:iP l t d b with
  | inr e=>rw [hb] at h;cases h
  | inl w =>
   rw [hb] at h
   have:=aJi l t d bs (out++[w]) out' h
   simp only [List.length_append,List.length_cons,List.length_nil] at this ⊢
   omega
theorem aTg (l:bR) [bL l] (t:TR)(sep d:Int)(h1:t.1.length<=96)(h2:t.2.length<=192):(aEg l t sep d).2.1.1.1.length<=9216/\(aEg l t sep d).2.1.1.2.length<=9216/\(aEg l t sep d).2.1.2.1.length<=9216/\(aEg l t sep d).2.1.2.2.length<=9216:=by
 unfold aEg
 cases h0:((dR l t sep:Int) != 0) with
 | true=>exact⟨Nat.zero_le _,Nat.zero_le _,Nat.zero_le _,Nat.zero_le _⟩
 | false =>
  cases kM d 0 2 with
  | false=>exact⟨Nat.zero_le _,Nat.zero_le _,Nat.zero_le _,Nat.zero_le _⟩
  | true =>
   simp only [Bool.not_true,cond_false]
   cases ha:aL8 l t d (bN t sep) with
   | inr e=>exact⟨Nat.zero_le _,Nat.zero_le _,Nat.zero_le _,Nat.zero_le _⟩
   | inl out =>
    have hd:=mE (bne_eq_false_iff_eq.1 h0)
    have:=aJi l t d _ [] out ha
    simp only [List.length_nil] at this
    simp only
    omega
theorem nT (l:bR) [bL l] (t:TR)(sep d:Int)(h1:t.1.length<=96)(h2:t.2.length<=192):(aQ l t sep d).1.1.1.length<=9216/\(aQ l t sep d).1.1.2.length<=9216/\(aQ l t sep d).1.2.1.length<=9216/\(aQ l t sep d).1.2.2.length<=9216:=by rw [aTe];exact aTg l t sep d h1 h2
end Go.Proofs.YtlckcjfbjnjfhaaGreat
