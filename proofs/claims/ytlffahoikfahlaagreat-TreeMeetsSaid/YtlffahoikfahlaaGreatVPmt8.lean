/-
  Parts of the proofs of the laws: the executor, what functions of the program compute, and that it is what the statements ask. No premise.
-/
import Derived.Test.YtlffahoikfahlaaGreatVPmt7
set_option linter.unusedVariables false
set_option linter.unusedSimpArgs false
set_option maxHeartbeats 4000000
open Int renaming toNat → tN
open Inhabited renaming default → dF
open Go.IntKind renaming wrap → iW
open BitVec renaming ofInt → bO
open Int renaming tdiv → tD
open Int renaming fdiv → fD
open Int renaming tmod → mD
namespace Go.Proofs.YtlffahoikfahlaaGreat
open Go.Proofs Go.Aw Go.RowKit
set_option maxRecDepth 100000
theorem aTi {α:Type} [Inhabited α] (l:List α) {i:Int} (h:0<=i/\i < (l.length:Int)):Aw.part l i (i+1)=[l.getD (tN i) dF]:=by
 obtain⟨n,rfl⟩:∃n:Nat,i=(n:Int):=⟨i.toNat,by omega⟩;have hn:n < l.length:=by omega
 unfold Aw.part;rw [iG,show tN ((n:Int)+1) - n=1 by omega,List.drop_eq_getElem_cons hn,fX,List.getElem?_eq_getElem hn];rfl
def gt (l:gU)(j:Int):PN×Int:=l.getD (tN j) dF
theorem aTj (l:gU):(kE l.length).map (gt l)=l:=by
 unfold kE;rw [List.map_map];refine List.ext_getElem (by simp) (fun i h1 h2=>?_);simp only [List.getElem_map,List.getElem_range,Function.comp];unfold gt;rw [iG,fX,List.getElem?_eq_getElem h2];rfl
theorem aRp {ord:ZL} {a b:Int} (h:0<=a/\b<=ord.length) {y:Int} (hy:y∈Aw.part ord a b):∃p:Int,a<=p/\p < b/\y=ord.getD (tN p) dF:=by
 obtain⟨i,hi,rfl⟩:=List.mem_iff_getElem.1 hy;unfold Aw.part at hi ⊢;simp only [List.length_take,List.length_drop] at hi;refine⟨a+i,by omega,by omega,?_⟩;rw [List.getElem_take,List.getElem_drop,fX,show tN (a+i)=tN a+i by omega,List.getElem?_eq_getElem (by omega)];rfl
theorem aTk {l:gU} (hv:xI l) {leaf:Int} (h1:1<=leaf) {j:Int} (hj:0<=j/\j < ((BT l leaf).2.length:Int)) :
 xI ((prt (BT l leaf) j).map (gt l))/\bd 64 ((BT l leaf).2.getD (tN j) dF).2.2.2.2.1/\0<=((BT l leaf).2.getD (tN j) dF).2.2.2.2.2/\(∀c∈(prt (BT l leaf) j).map (gt l),InB ((BT l leaf).2.getD (tN j) dF).2.2.2.2.1 ((BT l leaf).2.getD (tN j) dF).2.2.2.2.2 c.1):=by
 have hmem:(BT l leaf).2.getD (tN j) dF∈(BT l leaf).2:=by
  rw [fX,List.getElem?_eq_getElem (show tN j < (BT l leaf).2.length by omega)];exact List.getElem_mem _
 have hlen:=(sX l hv.1 h1).1;have hball:=aTh hv h1 hmem;have hnod:=(aMa l hv.1 h1).2.2 (tN j) (by omega);have hir:InR l.length (BT l leaf).1:=fun y hy=>oH _ y ((aF8 l h1).mem_iff.1 hy)
 have hpr:InR l.length (prt (BT l leaf) j):=hir.part _ _;have hin:∀c∈(prt (BT l leaf) j).map (gt l),InB ((BT l leaf).2.getD (tN j) dF).2.2.2.2.1 ((BT l leaf).2.getD (tN j) dF).2.2.2.2.2 c.1:=by
  intro c hc;obtain⟨y,hy,rfl⟩:=List.mem_map.1 hc;unfold prt at hy;obtain⟨p,p1,p2,rfl⟩:=aRp ⟨hnod.1,hnod.2.2⟩ hy;have:=hball.2 p p1 p2;rw [Int.sub_zero] at this;exact this
 refine⟨⟨?_,fun i hi=>?_⟩,aWu hv hmem,?_,hin⟩
 ·rw [List.length_map];have:=aS4 (BT l leaf).1 ((BT l leaf).2.getD (tN j) dF).1 ((BT l leaf).2.getD (tN j) dF).2.1;have h9:=hv.1;unfold prt;omega
 ·rw [List.length_map] at hi;have e:((prt (BT l leaf) j).map (gt l)).getD i dF=l.getD (tN ((prt (BT l leaf) j).getD i dF)) dF:=by simp [gt,fX,hi]
  rw [e];have:=hpr.at hi;exact hv.2 _ (by omega)
 ·have hb:=hball.2 ((BT l leaf).2.getD (tN j) dF).1 (Int.le_refl _) hnod.2.1;exact Int.le_trans (aFa _) hb.1
theorem aRq {x z:P3} (hx:aNv x)(hz:bd 64 z):F27 x z=MxT.zsb x z:=by
 obtain⟨a1,a2,a3⟩:=hx;obtain⟨b1,b2,b3⟩:=hz;unfold F27 MxT.zsb;rw [aE (by omega) (by omega),aE (by omega) (by omega),aE (by omega) (by omega)]
theorem aMy {l:ZL} {k:Nat} (hk:k < l.length):l.take (k+1)=l.take k++[l.getD k dF]:=by rw [List.take_add_one,List.getElem?_eq_getElem hk,fX,List.getElem?_eq_getElem hk];rfl
theorem aRr {l:gU} {t:TR} {x:P3} {sep o d:Int} (h:(oP l t x sep o d).2=0):MxT.Enc (oP l t x sep o d).1 (fun η v=>1048576 / 12*pS v x l)/\vs (oP l t x sep o d).1:=by
 unfold oP at h ⊢;cases h1:(((aG l (t.1,t.2) x sep).2.2:Int) != 0) with
 | true=>rw [h1,cond_true] at h;exact absurd h (bne_iff_ne.1 h1)
 | false =>
 rw [h1,cond_false] at h;cases h2:(!(vU o 0 2)) with
 | true=>rw [h2,cond_true] at h;exact absurd h (by decide)
 | false =>
 rw [h2,cond_false] at h;cases h3:(!(vU d 0 3)) with
 | true=>rw [h3,cond_true] at h;exact absurd h (by decide)
 | false =>
 rw [h3,cond_false] at h;simp only [cond_false];have hc0:=bne_eq_false_iff_eq.1 h1;have hp:=aF9 hc0;obtain⟨hck,hseen,ech⟩:=aUp hc0;obtain⟨hv,leaf,l1,l2,et⟩:=aFr hck;have hx:aNv x:=(aCx x).1 (by rw [←aS2];exact hseen);obtain⟨o1,o2⟩:=aMk hv l1 x sep;have e1:(aG l (t.1,t.2) x sep).1=(F50 (BT l leaf) x sep).1:=by rw [ech,←et]
 have e2:(aG l (t.1,t.2) x sep).2.1=(F50 (BT l leaf) x sep).2:=by rw [ech,←et]
 obtain⟨hl96,_,hf96,hp96⟩:=hp.lens;have hinp:=hp.inp;have ht1:t.1=(BT l leaf).1:=congrArg (·.1) et;have ht2:t.2=(BT l leaf).2:=congrArg (·.2) et;have hall:∀v:Int->Rat,pS v x ((occ (BT l leaf) (F50 (BT l leaf) x sep).1 (F50 (BT l leaf) x sep).2).map (gt l))=pS v x l:=fun v=>by
  have:=aTb v x (o2.map (gt l));rw [this,aTj]
 unfold occ at hall;simp only [List.map_append,aC0] at hall;rw [←e1] at o1 hall;rw [←e2] at hall;have loop1:∀(w:List Zs),(∀a∈w,vs a)->w.length<=96->MxT.Enc (nB w (0,0)) (fun η v=>1048576 / 12*pS v x (((aG l (t.1,t.2) x sep).1.flatMap (prt (BT l leaf))).map (gt l))) ->
  (aC (kP l t x sep o d) (tN ((((aG l (t.1,t.2) x sep).2.1.length:Nat):Int) - 0)+1) (w,0)).2=0 ->
  MxT.Enc (aC (kP l t x sep o d) (tN ((((aG l (t.1,t.2) x sep).2.1.length:Nat):Int) - 0)+1) (w,0)).1 (fun η v=>1048576 / 12*pS v x l)/\vs (aC (kP l t x sep o d) (tN ((((aG l (t.1,t.2) x sep).2.1.length:Nat):Int) - 0)+1) (w,0)).1:=by
  intro w hw hwl hwe;refine jI (S:=kP l t x sep o d) (fun s=>tN (((aG l (t.1,t.2) x sep).2.1.length:Nat) - s.2)) (fun s=>∃k:Nat,s.2=(k:Int)/\k<=(aG l (t.1,t.2) x sep).2.1.length/\(∀a∈s.1,vs a)/\s.1.length<=96+k/\MxT.Enc (nB s.1 (0,0)) (fun η v=>1048576 / 12*(pS v x (((aG l (t.1,t.2) x sep).1.flatMap (prt (BT l leaf))).map (gt l))+pS v x (((aG l (t.1,t.2) x sep).2.1.take k).map (gt l))))) (fun r=>r.2=0->MxT.Enc r.1 (fun η v=>1048576 / 12*pS v x l)/\vs r.1) (fun s hs=>?_) _ _ ⟨0,rfl,Nat.zero_le _,hw,by omega,?_⟩ (by simp only;omega)
  ·obtain⟨w,i⟩:=s;obtain⟨k,rfl,k1,k2,k3,k4⟩:=hs;simp only at k2 k3 k4;simp only [kP,iG];by_cases hk:k < (aG l (t.1,t.2) x sep).2.1.length
   ·rw [cT (show((k:Nat):Int) < (((aG l (t.1,t.2) x sep).2.1.length:Nat):Int) by omega),cond_true];have hi:=hinp.at hk;have e:=aMy hk;generalize (aG l (t.1,t.2) x sep).2.1.getD k dF=j at *;rw [aE (n:=j+1) (by omega) (by omega),aTi l hi];cases g1:(((gC [l.getD (tN j) dF] x d).2:Int) != 0) with
    | true=>right;rw [cond_true];exact⟨_,rfl,fun hr=>absurd hr (bne_iff_ne.1 g1)⟩
    | false =>
    left;rw [cond_false];obtain⟨n1,n2⟩:=aMw (bne_eq_false_iff_eq.1 g1);refine⟨_,rfl,⟨k+1,rfl,hk,fun a ha=>?_,by simp only [List.length_append,List.length_cons,List.length_nil];omega,?_⟩,by simp only;omega⟩
    ·rcases List.mem_append.1 ha with ha | ha
     ·exact k2 a ha
     ·rw [List.mem_singleton.1 ha];exact n2
    ·rw [aGh,e];refine(k4.add n1).congr (fun η v=>?_);rw [List.map_append,aC0];simp only [List.map_cons,List.map_nil,gt];grind
   ·right;rw [dJ (show ¬((k:Nat):Int) < (((aG l (t.1,t.2) x sep).2.1.length:Nat):Int) by omega),cond_false];refine⟨_,rfl,fun hr=>?_⟩;rw [aPf k2 (by omega)] at hr ⊢;obtain⟨e,hvs⟩:=aB6 hr;rw [e];rw [List.take_of_length_le (by omega)] at k4;exact⟨k4.congr (fun η v=>by rw [hall]),hvs⟩
  ·exact hwe.congr (fun η v=>by simp only [List.take_zero,List.map_nil,pS];grind)
 refine(jI (S:=lJ l t x sep o d) (fun s=>tN (((aG l (t.1,t.2) x sep).1.length:Nat) - s.2)) (fun s=>∃k:Nat,s.2=(k:Int)/\k<=(aG l (t.1,t.2) x sep).1.length/\(∀a∈s.1,vs a)/\s.1.length<=k/\MxT.Enc (nB s.1 (0,0)) (fun η v=>1048576 / 12*pS v x ((((aG l (t.1,t.2) x sep).1.take k).flatMap (prt (BT l leaf))).map (gt l)))) (fun r=>r.2=0->MxT.Enc r.1 (fun η v=>1048576 / 12*pS v x l)/\vs r.1) (fun s hs=>?_) _ _ ⟨0,rfl,Nat.zero_le _,(fun a ha=>absurd ha List.not_mem_nil),Nat.le_refl _,?_⟩ (by simp only;omega)) h
 ·obtain⟨w,i⟩:=s;obtain⟨k,rfl,k1,k2,k3,k4⟩:=hs;simp only at k2 k3 k4;simp only [lJ,iG];by_cases hk:k < (aG l (t.1,t.2) x sep).1.length
  ·rw [cT (show((k:Nat):Int) < (((aG l (t.1,t.2) x sep).1.length:Nat):Int) by omega),cond_true];have hi:=o1 _ (show(aG l (t.1,t.2) x sep).1.getD k dF∈(aG l (t.1,t.2) x sep).1 by rw [fX,List.getElem?_eq_getElem hk];exact List.getElem_mem _);have e:=aMy hk;generalize (aG l (t.1,t.2) x sep).1.getD k dF=j at *;obtain⟨nv,nz,nr',nb⟩:=aTk hv l1 hi;have ep:prt (BT l leaf) j=Aw.part t.1 (t.2.getD (tN j) dF).1 (t.2.getD (tN j) dF).2.1:=by unfold prt;rw [ht1,ht2]
   have em:cY l (Aw.part t.1 (t.2.getD (tN j) dF).1 (t.2.getD (tN j) dF).2.1)=(prt (BT l leaf) j).map (gt l):=by rw [aFk,←ep];rfl
   rw [←ht2] at nz nr' nb;rw [em,aZ1 nv nz,aRq hx nz];rw [show(((0:Int):Int) != 0)=false from rfl,cond_false];cases g1:(((zV (eL (t.2.getD (tN j) dF).2.2.2.2.1 ((prt (BT l leaf) j).map (gt l))) (t.2.getD (tN j) dF).2.2.2.2.2 (MxT.zsb x (t.2.getD (tN j) dF).2.2.2.2.1) o).2:Int) != 0) with
   | true=>right;rw [cond_true];exact⟨_,rfl,fun hr=>absurd hr (bne_iff_ne.1 g1)⟩
   | false =>
   left;rw [cond_false];obtain⟨n1,n2⟩:=aTd nv nz nr' nb (bne_eq_false_iff_eq.1 g1);refine⟨_,rfl,⟨k+1,rfl,hk,fun a ha=>?_,by simp only [List.length_append,List.length_cons,List.length_nil];omega,?_⟩,by simp only;omega⟩
   ·rcases List.mem_append.1 ha with ha | ha
    ·exact k2 a ha
    ·rw [List.mem_singleton.1 ha];exact n2
   ·rw [aGh,e];refine(k4.add n1).congr (fun η v=>?_);rw [List.flatMap_append,List.map_append,aC0,List.flatMap_singleton];grind
  ·right;rw [dJ (show ¬((k:Nat):Int) < (((aG l (t.1,t.2) x sep).1.length:Nat):Int) by omega),cond_false];refine⟨_,rfl,fun hr=>?_⟩;rw [List.take_of_length_le (by omega)] at k4;exact loop1 w k2 (by omega) k4 hr
 ·exact MxT.Enc.zero.congr (fun η v=>by simp only [List.take_zero,List.flatMap_nil,List.map_nil,pS];grind)
end Go.Proofs.YtlffahoikfahlaaGreat
namespace Go.Proofs.YtlffahoikfahlaaGreat
open Go.Proofs Go.Aw Go.RowKit
set_option maxRecDepth 100000
def aDv (a0:dG):Bool := (bif (decide (((a0.length:Int):Int) > 40))then(bif (decide (((a0.length:Int):Int)<=96))then true else(decide (((a0.length:Int):Int) > 200)))else(decide (((a0.length:Int):Int) > 200)))
theorem bBw (a0:dG)(l0:a0.length<=2^63-1):Con Tryz.prog 6 [(.s 0 0 a0.length 10)] [(.live false true (flat fP a0))] (.v (.bool (aDv a0))) []:=by
 refine cS Tryz.func6 fun cx hcx=>?_
 cases h0:(decide (((a0.length:Int):Int) > 40))
 case true=>
  have q0:=dM h0;let t1:SL:=[.d h0];cases h1:(decide (((a0.length:Int):Int)<=96))
  case true=>have q1:=dM h1;have e:=Eq.refl (aDv a0);(conv at e=>rhs;simp only [aDv,h0,h1,aT]);rw [e];exact rT (t1++[.d h1]) hcx
  have q1:=dV h1;have e:=Eq.refl (aDv a0);(conv at e=>rhs;simp only [aDv,h0,h1,aT]);rw [e];exact rT (t1++[.d h1]) hcx
 have q0:=dV h0;have e:=Eq.refl (aDv a0);(conv at e=>rhs;simp only [aDv,h0,aT]);rw [e];exact rT [.d h0] hcx
def tE (a0:dG)(a1:Int×Zt×Zt):Bool := (bif (aDv a0)then F7 else(bif (((bZ a0 a1.1).2:Int) != 0)then F7 else(bif (((oP a0 ((bZ a0 a1.1).1.1,(bZ a0 a1.1).1.2) a1.2.1 a1.2.2.1 a1.2.2.2.1 a1.2.2.2.2).2:Int) != 0)then F7 else(bif (((gC a0 a1.2.1 a1.2.2.2.2).2:Int) != 0)then F7 else(bif (((F13 (oP a0 ((bZ a0 a1.1).1.1,(bZ a0 a1.1).1.2) a1.2.1 a1.2.2.1 a1.2.2.2.1 a1.2.2.2.2).1 (gC a0 a1.2.1 a1.2.2.2.2).1).2.2:Int) == 0)then(bif (F13 (oP a0 ((bZ a0 a1.1).1.1,(bZ a0 a1.1).1.2) a1.2.1 a1.2.2.1 a1.2.2.2.1 a1.2.2.2.2).1 (gC a0 a1.2.1 a1.2.2.2.2).1).2.1 then F7 else false)else false)))))
theorem bBx (a0:dG)(a1:Int×Zt×Zt)(l0:a0.length<=2^63-1):Con Tryz.prog 4 [(.s 0 0 a0.length 10),(.a [(iv a1.1),(iv a1.2.1.1),(iv a1.2.1.2.1),(iv a1.2.1.2.2),(iv a1.2.2.1),(iv a1.2.2.2.1),(iv a1.2.2.2.2)])] [(.live false true (flat fP a0))] (.v (.bool (tE a0 a1))) []:=by
 refine cS Tryz.func4 fun cx hcx=>?_
 have hb2:=aNp a0 a1.1;let t0:SL:=[.c [0] (bBw a0 (by omega))];cases h0:(aDv a0)
 case true=>have e:=Eq.refl (tE a0 a1);(conv at e=>rhs;simp only [tE,h0,aT]);rw [e];exact rT (t0++[.d h0,.c [] (C7)]) hcx
 let t1:SL:=t0++[.d h0,.c [0] (aUc a0 a1.1 (by omega)),.c [0,2,3] (bBq a0 ((bZ a0 a1.1).1.1,(bZ a0 a1.1).1.2) a1.2.1 a1.2.2.1 a1.2.2.2.1 a1.2.2.2.2 (by(try simp only [Lt]);omega) (by(try simp only [Lt]);omega) (by(try simp only [Lt]);omega)),.c [0] (aTy a0 a1.2.1 a1.2.2.2.2 (by omega))];cases h1:(((bZ a0 a1.1).2:Int) != 0)
 case true=>have q1:=bne_iff_ne.1 h1;have e:=Eq.refl (tE a0 a1);(conv at e=>rhs;simp only [tE,h0,h1,aT]);rw [e];exact rT (t1++[.d h1,.c [] (C7)]) hcx
 have q1:=bne_eq_false_iff_eq.1 h1;let t2:SL:=t1++[.d h1];cases h2:(((oP a0 ((bZ a0 a1.1).1.1,(bZ a0 a1.1).1.2) a1.2.1 a1.2.2.1 a1.2.2.2.1 a1.2.2.2.2).2:Int) != 0)
 case true=>have q2:=bne_iff_ne.1 h2;have e:=Eq.refl (tE a0 a1);(conv at e=>rhs;simp only [tE,h0,h1,h2,aT]);rw [e];exact rT (t2++[.d h2,.c [] (C7)]) hcx
 have q2:=bne_eq_false_iff_eq.1 h2;let t3:SL:=t2++[.d h2];cases h3:(((gC a0 a1.2.1 a1.2.2.2.2).2:Int) != 0)
 case true=>have q3:=bne_iff_ne.1 h3;have e:=Eq.refl (tE a0 a1);(conv at e=>rhs;simp only [tE,h0,h1,h2,h3,aT]);rw [e];exact rT (t3++[.d h3,.c [] (C7)]) hcx
 have q3:=bne_eq_false_iff_eq.1 h3;let t4:SL:=t3++[.d h3,.c [] (C13 (oP a0 ((bZ a0 a1.1).1.1,(bZ a0 a1.1).1.2) a1.2.1 a1.2.2.1 a1.2.2.2.1 a1.2.2.2.2).1 (gC a0 a1.2.1 a1.2.2.2.2).1)];cases h4:(((F13 (oP a0 ((bZ a0 a1.1).1.1,(bZ a0 a1.1).1.2) a1.2.1 a1.2.2.1 a1.2.2.2.1 a1.2.2.2.2).1 (gC a0 a1.2.1 a1.2.2.2.2).1).2.2:Int) == 0)
 case true=>
  have q4:=eq_of_beq h4;let t5:SL:=t4++[.d h4];cases h5:(F13 (oP a0 ((bZ a0 a1.1).1.1,(bZ a0 a1.1).1.2) a1.2.1 a1.2.2.1 a1.2.2.2.1 a1.2.2.2.2).1 (gC a0 a1.2.1 a1.2.2.2.2).1).2.1
  case true=>have e:=Eq.refl (tE a0 a1);(conv at e=>rhs;simp only [tE,h0,h1,h2,h3,h4,h5,aT]);rw [e];exact rT (t5++[.d h5,.c [] (C7)]) hcx
  have e:=Eq.refl (tE a0 a1);(conv at e=>rhs;simp only [tE,h0,h1,h2,h3,h4,h5,aT]);rw [e];exact rT (t5++[.d h5]) hcx
 have q4:=ne_of_beq_false h4;have e:=Eq.refl (tE a0 a1);(conv at e=>rhs;simp only [tE,h0,h1,h2,h3,h4,aT]);rw [e];exact rT (t4++[.d h4]) hcx
end Go.Proofs.YtlffahoikfahlaaGreat
