/-
  Parts of the proofs of the laws: the executor, what functions of the program compute, and that it is what the statements ask. No premise.
-/
import Derived.Test.YtlffahoikfahlaaGreatVPxt7
set_option linter.unusedVariables false
set_option linter.unusedSimpArgs false
set_option maxHeartbeats 4000000
open Int renaming toNat → tN
open Inhabited renaming default → dF
open Go.IntKind renaming wrap → iW
open BitVec renaming ofInt → bO
open Int renaming tdiv → tD
open Int renaming fdiv → fD
open Int renaming tmod → mD
namespace Go.Proofs.YtlffahoikfahlaaGreat
open Go.Proofs Go.Aw Go.RowKit
set_option maxRecDepth 100000
theorem aU4 {α:Type} [Inhabited α] (l:List α) {i:Int} (h:0<=i/\i < (l.length:Int)):Aw.part l i (i+1)=[l.getD (tN i) dF]:=by
 obtain⟨n,rfl⟩:∃n:Nat,i=(n:Int):=⟨i.toNat,by omega⟩;have hn:n < l.length:=by omega
 unfold Aw.part;rw [iH,show tN ((n:Int)+1) - n=1 by omega,List.drop_eq_getElem_cons hn,fS,List.getElem?_eq_getElem hn];rfl
def gt (l:fV)(j:Int):PN×Int:=l.getD (tN j) dF
theorem aU5 (l:fV):(jS l.length).map (gt l)=l:=by
 unfold jS;rw [List.map_map];refine List.ext_getElem (by simp) (fun i h1 h2=>?_);simp only [List.getElem_map,List.getElem_range,Function.comp];unfold gt;rw [iH,fS,List.getElem?_eq_getElem h2];rfl
theorem aS7 {ord:ZL} {a b:Int} (h:0<=a/\b<=ord.length) {y:Int} (hy:y∈Aw.part ord a b):∃p:Int,a<=p/\p < b/\y=ord.getD (tN p) dF:=by
 obtain⟨i,hi,rfl⟩:=List.mem_iff_getElem.1 hy;unfold Aw.part at hi ⊢;simp only [List.length_take,List.length_drop] at hi;refine⟨a+i,by omega,by omega,?_⟩;rw [List.getElem_take,List.getElem_drop,fS,show tN (a+i)=tN a+i by omega,List.getElem?_eq_getElem (by omega)];rfl
theorem aU6 {l:fV} (hv:xT l) {leaf:Int} (h1:1<=leaf) {j:Int} (hj:0<=j/\j < ((BT l leaf).2.length:Int)) :
 xT ((prt (BT l leaf) j).map (gt l))/\bd 64 ((BT l leaf).2.getD (tN j) dF).2.2.2.2.1/\0<=((BT l leaf).2.getD (tN j) dF).2.2.2.2.2/\(∀c∈(prt (BT l leaf) j).map (gt l),InB ((BT l leaf).2.getD (tN j) dF).2.2.2.2.1 ((BT l leaf).2.getD (tN j) dF).2.2.2.2.2 c.1):=by
 have hmem:(BT l leaf).2.getD (tN j) dF∈(BT l leaf).2:=by
  rw [fS,List.getElem?_eq_getElem (show tN j < (BT l leaf).2.length by omega)];exact List.getElem_mem _
 have hlen:=(rX l hv.1 h1).1;have hball:=aU3 hv h1 hmem;have hnod:=(aA8 l hv.1 h1).2.2 (tN j) (by omega);have hir:InR l.length (BT l leaf).1:=fun y hy=>jK _ y ((aBd l h1).mem_iff.1 hy)
 have hpr:InR l.length (prt (BT l leaf) j):=hir.part _ _;have hin:∀c∈(prt (BT l leaf) j).map (gt l),InB ((BT l leaf).2.getD (tN j) dF).2.2.2.2.1 ((BT l leaf).2.getD (tN j) dF).2.2.2.2.2 c.1:=by
  intro c hc;obtain⟨y,hy,rfl⟩:=List.mem_map.1 hc;unfold prt at hy;obtain⟨p,p1,p2,rfl⟩:=aS7 ⟨hnod.1,hnod.2.2⟩ hy;have:=hball.2 p p1 p2;rw [Int.sub_zero] at this;exact this
 refine⟨⟨?_,fun i hi=>?_⟩,aYl hv hmem,?_,hin⟩
 ·rw [List.length_map];have:=aUq (BT l leaf).1 ((BT l leaf).2.getD (tN j) dF).1 ((BT l leaf).2.getD (tN j) dF).2.1;have h9:=hv.1;unfold prt;omega
 ·rw [List.length_map] at hi;have e:((prt (BT l leaf) j).map (gt l)).getD i dF=l.getD (tN ((prt (BT l leaf) j).getD i dF)) dF:=by simp [gt,fS,hi]
  rw [e];have:=hpr.at hi;exact hv.2 _ (by omega)
 ·have hb:=hball.2 ((BT l leaf).2.getD (tN j) dF).1 (Int.le_refl _) hnod.2.1;exact Int.le_trans (aF9 _) hb.1
theorem aS8 {x z:P3} (hx:aO7 x)(hz:bd 64 z):F27 x z=MxT.zsb x z:=by
 obtain⟨a1,a2,a3⟩:=hx;obtain⟨b1,b2,b3⟩:=hz;unfold F27 MxT.zsb;rw [aG (by omega) (by omega),aG (by omega) (by omega),aG (by omega) (by omega)]
theorem aN6 {l:ZL} {k:Nat} (hk:k < l.length):l.take (k+1)=l.take k++[l.getD k dF]:=by rw [List.take_add_one,List.getElem?_eq_getElem hk,fS,List.getElem?_eq_getElem hk];rfl
theorem aS9 {l:fV} {t:TR} {x:P3} {sep o d:Int} (h:(uT l t x sep o d).2=0):MxT.Enc (uT l t x sep o d).1 (fun η v=>1048576 / 12*pS v x l)/\vs (uT l t x sep o d).1:=by
 unfold uT at h ⊢;cases h1:(((aC l (t.1,t.2) x sep).2.2:Int) != 0) with
 | true=>rw [h1,cond_true] at h;exact absurd h (bne_iff_ne.1 h1)
 | false =>
 rw [h1,cond_false] at h;cases h2:(!(vI o 0 2)) with
 | true=>rw [h2,cond_true] at h;exact absurd h (by decide)
 | false =>
 rw [h2,cond_false] at h;cases h3:(!(vI d 0 3)) with
 | true=>rw [h3,cond_true] at h;exact absurd h (by decide)
 | false =>
 rw [h3,cond_false] at h;simp only [cond_false];have hc0:=bne_eq_false_iff_eq.1 h1;have hp:=aG9 hc0;obtain⟨hck,hseen,ech⟩:=aWh hc0;obtain⟨hv,leaf,l1,l2,et⟩:=aGr hck;have hx:aO7 x:=(aDp x).1 (by rw [←aUo];exact hseen);obtain⟨o1,o2⟩:=aG8 hv l1 x sep;have e1:(aC l (t.1,t.2) x sep).1=(F50 (BT l leaf) x sep).1:=by rw [ech,←et]
 have e2:(aC l (t.1,t.2) x sep).2.1=(F50 (BT l leaf) x sep).2:=by rw [ech,←et]
 obtain⟨hl96,_,hf96,hp96⟩:=hp.lens;have hinp:=hp.inp;have ht1:t.1=(BT l leaf).1:=congrArg (·.1) et;have ht2:t.2=(BT l leaf).2:=congrArg (·.2) et;have hall:∀v:Int->Rat,pS v x ((occ (BT l leaf) (F50 (BT l leaf) x sep).1 (F50 (BT l leaf) x sep).2).map (gt l))=pS v x l:=fun v=>by
  have:=aUx v x (o2.map (gt l));rw [this,aU5]
 unfold occ at hall;simp only [List.map_append,aDu] at hall;rw [←e1] at o1 hall;rw [←e2] at hall;have loop1:∀(w:List Zs),(∀a∈w,vs a)->w.length<=96->MxT.Enc (nP w (0,0)) (fun η v=>1048576 / 12*pS v x (((aC l (t.1,t.2) x sep).1.flatMap (prt (BT l leaf))).map (gt l))) ->
  (aE (lC l t x sep o d) (tN ((((aC l (t.1,t.2) x sep).2.1.length:Nat):Int) - 0)+1) (w,0)).2=0 ->
  MxT.Enc (aE (lC l t x sep o d) (tN ((((aC l (t.1,t.2) x sep).2.1.length:Nat):Int) - 0)+1) (w,0)).1 (fun η v=>1048576 / 12*pS v x l)/\vs (aE (lC l t x sep o d) (tN ((((aC l (t.1,t.2) x sep).2.1.length:Nat):Int) - 0)+1) (w,0)).1:=by
  intro w hw hwl hwe;refine jQ (S:=lC l t x sep o d) (fun s=>tN (((aC l (t.1,t.2) x sep).2.1.length:Nat) - s.2)) (fun s=>∃k:Nat,s.2=(k:Int)/\k<=(aC l (t.1,t.2) x sep).2.1.length/\(∀a∈s.1,vs a)/\s.1.length<=96+k/\MxT.Enc (nP s.1 (0,0)) (fun η v=>1048576 / 12*(pS v x (((aC l (t.1,t.2) x sep).1.flatMap (prt (BT l leaf))).map (gt l))+pS v x (((aC l (t.1,t.2) x sep).2.1.take k).map (gt l))))) (fun r=>r.2=0->MxT.Enc r.1 (fun η v=>1048576 / 12*pS v x l)/\vs r.1) (fun s hs=>?_) _ _ ⟨0,rfl,Nat.zero_le _,hw,by omega,?_⟩ (by simp only;omega)
  ·obtain⟨w,i⟩:=s;obtain⟨k,rfl,k1,k2,k3,k4⟩:=hs;simp only at k2 k3 k4;simp only [lC,iH];by_cases hk:k < (aC l (t.1,t.2) x sep).2.1.length
   ·rw [cL (show((k:Nat):Int) < (((aC l (t.1,t.2) x sep).2.1.length:Nat):Int) by omega),cond_true];have hi:=hinp.at hk;have e:=aN6 hk;generalize (aC l (t.1,t.2) x sep).2.1.getD k dF=j at *;rw [aG (n:=j+1) (by omega) (by omega),aU4 l hi];cases g1:(((dX [l.getD (tN j) dF] x d).2:Int) != 0) with
    | true=>right;rw [cond_true];exact⟨_,rfl,fun hr=>absurd hr (bne_iff_ne.1 g1)⟩
    | false =>
    left;rw [cond_false];obtain⟨n1,n2⟩:=aN4 (bne_eq_false_iff_eq.1 g1);refine⟨_,rfl,⟨k+1,rfl,hk,fun a ha=>?_,by simp only [List.length_append,List.length_cons,List.length_nil];omega,?_⟩,by simp only;omega⟩
    ·rcases List.mem_append.1 ha with ha | ha
     ·exact k2 a ha
     ·rw [List.mem_singleton.1 ha];exact n2
    ·rw [aHh,e];refine(k4.add n1).congr (fun η v=>?_);rw [List.map_append,aDu];simp only [List.map_cons,List.map_nil,gt];grind
   ·right;rw [cV (show ¬((k:Nat):Int) < (((aC l (t.1,t.2) x sep).2.1.length:Nat):Int) by omega),cond_false];refine⟨_,rfl,fun hr=>?_⟩;rw [aQq k2 (by omega)] at hr ⊢;obtain⟨e,hvs⟩:=aCx hr;rw [e];rw [List.take_of_length_le (by omega)] at k4;exact⟨k4.congr (fun η v=>by rw [hall]),hvs⟩
  ·exact hwe.congr (fun η v=>by simp only [List.take_zero,List.map_nil,pS];grind)
 refine(jQ (S:=lV l t x sep o d) (fun s=>tN (((aC l (t.1,t.2) x sep).1.length:Nat) - s.2)) (fun s=>∃k:Nat,s.2=(k:Int)/\k<=(aC l (t.1,t.2) x sep).1.length/\(∀a∈s.1,vs a)/\s.1.length<=k/\MxT.Enc (nP s.1 (0,0)) (fun η v=>1048576 / 12*pS v x ((((aC l (t.1,t.2) x sep).1.take k).flatMap (prt (BT l leaf))).map (gt l)))) (fun r=>r.2=0->MxT.Enc r.1 (fun η v=>1048576 / 12*pS v x l)/\vs r.1) (fun s hs=>?_) _ _ ⟨0,rfl,Nat.zero_le _,(fun a ha=>absurd ha List.not_mem_nil),Nat.le_refl _,?_⟩ (by simp only;omega)) h
 ·obtain⟨w,i⟩:=s;obtain⟨k,rfl,k1,k2,k3,k4⟩:=hs;simp only at k2 k3 k4;simp only [lV,iH];by_cases hk:k < (aC l (t.1,t.2) x sep).1.length
  ·rw [cL (show((k:Nat):Int) < (((aC l (t.1,t.2) x sep).1.length:Nat):Int) by omega),cond_true];have hi:=o1 _ (show(aC l (t.1,t.2) x sep).1.getD k dF∈(aC l (t.1,t.2) x sep).1 by rw [fS,List.getElem?_eq_getElem hk];exact List.getElem_mem _);have e:=aN6 hk;generalize (aC l (t.1,t.2) x sep).1.getD k dF=j at *;obtain⟨nv,nz,nr',nb⟩:=aU6 hv l1 hi;have ep:prt (BT l leaf) j=Aw.part t.1 (t.2.getD (tN j) dF).1 (t.2.getD (tN j) dF).2.1:=by unfold prt;rw [ht1,ht2]
   have em:dA l (Aw.part t.1 (t.2.getD (tN j) dF).1 (t.2.getD (tN j) dF).2.1)=(prt (BT l leaf) j).map (gt l):=by rw [aGl,←ep];rfl
   rw [←ht2] at nz nr' nb;rw [em,bBq nv nz,aS8 hx nz];rw [show(((0:Int):Int) != 0)=false from rfl,cond_false];cases g1:(((F26 (eQ (t.2.getD (tN j) dF).2.2.2.2.1 ((prt (BT l leaf) j).map (gt l))) (t.2.getD (tN j) dF).2.2.2.2.2 (MxT.zsb x (t.2.getD (tN j) dF).2.2.2.2.1) o).2:Int) != 0) with
   | true=>right;rw [cond_true];exact⟨_,rfl,fun hr=>absurd hr (bne_iff_ne.1 g1)⟩
   | false =>
   left;rw [cond_false];obtain⟨n1,n2⟩:=aUz nv nz nr' nb (bne_eq_false_iff_eq.1 g1);refine⟨_,rfl,⟨k+1,rfl,hk,fun a ha=>?_,by simp only [List.length_append,List.length_cons,List.length_nil];omega,?_⟩,by simp only;omega⟩
   ·rcases List.mem_append.1 ha with ha | ha
    ·exact k2 a ha
    ·rw [List.mem_singleton.1 ha];exact n2
   ·rw [aHh,e];refine(k4.add n1).congr (fun η v=>?_);rw [List.flatMap_append,List.map_append,aDu,List.flatMap_singleton];grind
  ·right;rw [cV (show ¬((k:Nat):Int) < (((aC l (t.1,t.2) x sep).1.length:Nat):Int) by omega),cond_false];refine⟨_,rfl,fun hr=>?_⟩;rw [List.take_of_length_le (by omega)] at k4;exact loop1 w k2 (by omega) k4 hr
 ·exact MxT.Enc.zero.congr (fun η v=>by simp only [List.take_zero,List.flatMap_nil,List.map_nil,pS];grind)
end Go.Proofs.YtlffahoikfahlaaGreat
namespace Go.Proofs.YtlffahoikfahlaaGreat
open Go.Proofs Go.Aw Go.RowKit
set_option maxRecDepth 100000
def zH (a0:cC):Bool := (bif (decide (((a0.length:Int):Int) > 40))then(bif (decide (((a0.length:Int):Int)<=96))then true else(decide (((a0.length:Int):Int) > 200)))else(decide (((a0.length:Int):Int) > 200)))
theorem bBr (a0:cC)(l0:a0.length<=2^63-1):Con Tryz.prog 6 [(.s 0 0 a0.length 10)] [(.live false true (flat fJ a0))] (.v (.bool (zH a0))) []:=by
 refine cS Tryz.func6 fun cx hcx=>?_
 cases h0:(decide (((a0.length:Int):Int) > 40))
 case true=>
  have q0:=dE h0;let t1:SL:=[.d h0];cases h1:(decide (((a0.length:Int):Int)<=96))
  case true=>have q1:=dE h1;have e:=Eq.refl (zH a0);(conv at e=>rhs;simp only [zH,h0,h1,aQ]);rw [e];exact rT (t1++[.d h1]) hcx
  have q1:=dO h1;have e:=Eq.refl (zH a0);(conv at e=>rhs;simp only [zH,h0,h1,aQ]);rw [e];exact rT (t1++[.d h1]) hcx
 have q0:=dO h0;have e:=Eq.refl (zH a0);(conv at e=>rhs;simp only [zH,h0,aQ]);rw [e];exact rT [.d h0] hcx
noncomputable def aHj:Code:=(bC [1,1,1,1,1,1,0,1,0,1,0,1,1,1] [0] (aX Tryz.f14) []).1
noncomputable def aHk (m0:Nat):List K:=(bC [1,1,1,1,1,1,0,1,0,1,0,1,1,1] [m0] (aX Tryz.f14) []).2
def aDv (a0:cC)(a1:Int×Zt×Zt)(v5c:List SV)(v5n:Nat)(v6 v7 v8 v9 v10 v11 v12 v13 v14 v15:Int):LS:=⟨jT 145 [(0,(.s 0 0 a0.length 10)),(5,(.p 1 0)),(7,(.s 2 0 (aC a0 ((aA a0 a1.1).1.1,(aA a0 a1.1).1.2) a1.2.1 a1.2.2.1).1.length 1)),(8,(.s 3 0 (aC a0 ((aA a0 a1.1).1.1,(aA a0 a1.1).1.2) a1.2.1 a1.2.2.1).2.1.length 1)),(10,(.s 4 0 v5n 1)),(11,(iv v6)),(12,(.p 5 0)),(13,(iv v7))],[(.live false true (flat fJ a0)),(.live true false [(.s 6 0 (aA a0 a1.1).1.1.length 1),(.s 7 0 (aA a0 a1.1).1.2.length 8)]),(.live true true (flat c3 (aC a0 ((aA a0 a1.1).1.1,(aA a0 a1.1).1.2) a1.2.1 a1.2.2.1).1)),(.live true true (flat c3 (aC a0 ((aA a0 a1.1).1.1,(aA a0 a1.1).1.2) a1.2.1 a1.2.2.1).2.1)),(.live true true v5c),(.live true false [(iv v8),(iv v9),(iv v10),(iv v11),(iv v12),(iv v13),(iv v14),(iv v15)]),(.live true true (flat c3 (aA a0 a1.1).1.1)),(.live true true (flat fP (aA a0 a1.1).1.2))]⟩
def nT (a0:cC)(a1:Int×Zt×Zt):ZL×Int×Int×Int×Int×Int×Int×Int×Zt->(ZL×Int×Int×Int×Int×Int×Int×Int×Zt)⊕((ZL×Int)⊕(Bool)) | (v5,v6,v7,v8,v9,v10,v11,v12,v13,v14,v15) => (bif (decide ((v7:Int) < v9))then(.inl ((v5.set (tN ((aA a0 a1.1).1.1.getD (tN v7) dF)) (W ((v5.getD (tN ((aA a0 a1.1).1.1.getD (tN v7) dF)) dF)+1))),v6,(v7+1),v8,v9,v10,v11,v12,v13,v14,v15))else(.inr (.inl (v5,(v6+1)))))
noncomputable def aBg:=bC [1,1,1,1,1,1,1,1,0,1] [] (aX Tryz.f14) []
def aDw (a0:cC)(a1:Int×Zt×Zt)(v20c:List SV)(v20n:Nat)(v21:Int):LS:=⟨jT 145 [(10,(.s 1 0 v20n 1)),(15,(iv v21))],[(.live false true (flat fJ a0)),(.live true true v20c)]⟩
def kH (a0:cC)(a1:Int×Zt×Zt):ZL×Int->(ZL×Int)⊕(Bool) | (v20,v21) => (bif (decide ((v21:Int) < (v20.length:Int)))then(bif (((v20.getD (tN v21) dF):Int) != 1)then(.inr false)else(.inl (v20,(v21+1))))else(.inr F7))
noncomputable def aBh:=bC [1,1,1,1,1,1,1,0,1] [] (aX Tryz.f14) []
def aDx (a0:cC)(a1:Int×Zt×Zt)(v17c:List SV)(v17n:Nat)(v18:Int):LS:=⟨jT 145 [(0,(.s 0 0 a0.length 10)),(8,(.s 1 0 (aC a0 ((aA a0 a1.1).1.1,(aA a0 a1.1).1.2) a1.2.1 a1.2.2.1).2.1.length 1)),(10,(.s 2 0 v17n 1)),(14,(iv v18))],[(.live false true (flat fJ a0)),(.live true true (flat c3 (aC a0 ((aA a0 a1.1).1.1,(aA a0 a1.1).1.2) a1.2.1 a1.2.2.1).2.1)),(.live true true v17c)]⟩
def jC (a0:cC)(a1:Int×Zt×Zt):ZL×Int->(ZL×Int)⊕(Bool) | (v17,v18) => (bif (decide ((v18:Int) < (((aC a0 ((aA a0 a1.1).1.1,(aA a0 a1.1).1.2) a1.2.1 a1.2.2.1).2.1.length:Nat):Int)))then(bif (decide ((((aC a0 ((aA a0 a1.1).1.1,(aA a0 a1.1).1.2) a1.2.1 a1.2.2.1).2.1.getD (tN v18) dF):Int) < 0))then(.inr false)else(bif (decide ((((aC a0 ((aA a0 a1.1).1.1,(aA a0 a1.1).1.2) a1.2.1 a1.2.2.1).2.1.getD (tN v18) dF):Int)≥(a0.length:Int)))then(.inr false)else(.inl ((v17.set (tN ((aC a0 ((aA a0 a1.1).1.1,(aA a0 a1.1).1.2) a1.2.1 a1.2.2.1).2.1.getD (tN v18) dF)) (W ((v17.getD (tN ((aC a0 ((aA a0 a1.1).1.1,(aA a0 a1.1).1.2) a1.2.1 a1.2.2.1).2.1.getD (tN v18) dF)) dF)+1))),(v18+1)))))else(.inr (aE (kH a0 a1) (tN ((v17.length:Int) - 0)+1) (v17,0))))
noncomputable def uO:=bC [1,1,1,1,1,1,0,1] [] (aX Tryz.f14) []
def yB (a0:cC)(a1:Int×Zt×Zt)(v3c:List SV)(v3n:Nat)(v4:Int):LS:=⟨jT 145 [(0,(.s 0 0 a0.length 10)),(5,(.p 1 0)),(7,(.s 2 0 (aC a0 ((aA a0 a1.1).1.1,(aA a0 a1.1).1.2) a1.2.1 a1.2.2.1).1.length 1)),(8,(.s 3 0 (aC a0 ((aA a0 a1.1).1.1,(aA a0 a1.1).1.2) a1.2.1 a1.2.2.1).2.1.length 1)),(10,(.s 4 0 v3n 1)),(11,(iv v4))],[(.live false true (flat fJ a0)),(.live true false [(.s 5 0 (aA a0 a1.1).1.1.length 1),(.s 6 0 (aA a0 a1.1).1.2.length 8)]),(.live true true (flat c3 (aC a0 ((aA a0 a1.1).1.1,(aA a0 a1.1).1.2) a1.2.1 a1.2.2.1).1)),(.live true true (flat c3 (aC a0 ((aA a0 a1.1).1.1,(aA a0 a1.1).1.2) a1.2.1 a1.2.2.1).2.1)),(.live true true v3c),(.live true true (flat c3 (aA a0 a1.1).1.1)),(.live true true (flat fP (aA a0 a1.1).1.2))]⟩
def iK (a0:cC)(a1:Int×Zt×Zt):ZL×Int->(ZL×Int)⊕(Bool) | (v3,v4) => (bif (decide ((v4:Int) < (((aC a0 ((aA a0 a1.1).1.1,(aA a0 a1.1).1.2) a1.2.1 a1.2.2.1).1.length:Nat):Int)))then(bif (decide ((((aC a0 ((aA a0 a1.1).1.1,(aA a0 a1.1).1.2) a1.2.1 a1.2.2.1).1.getD (tN v4) dF):Int) < 0))then(.inr false)else(bif (decide ((((aC a0 ((aA a0 a1.1).1.1,(aA a0 a1.1).1.2) a1.2.1 a1.2.2.1).1.getD (tN v4) dF):Int)≥(((aA a0 a1.1).1.2.length:Nat):Int)))then(.inr false)else(aE (nT a0 a1) (tN (((aA a0 a1.1).1.2.getD (tN ((aC a0 ((aA a0 a1.1).1.1,(aA a0 a1.1).1.2) a1.2.1 a1.2.2.1).1.getD (tN v4) dF)) dF).2.1 - ((aA a0 a1.1).1.2.getD (tN ((aC a0 ((aA a0 a1.1).1.1,(aA a0 a1.1).1.2) a1.2.1 a1.2.2.1).1.getD (tN v4) dF)) dF).1)+1) (v3,v4,((aA a0 a1.1).1.2.getD (tN ((aC a0 ((aA a0 a1.1).1.1,(aA a0 a1.1).1.2) a1.2.1 a1.2.2.1).1.getD (tN v4) dF)) dF).1,((aA a0 a1.1).1.2.getD (tN ((aC a0 ((aA a0 a1.1).1.1,(aA a0 a1.1).1.2) a1.2.1 a1.2.2.1).1.getD (tN v4) dF)) dF).1,((aA a0 a1.1).1.2.getD (tN ((aC a0 ((aA a0 a1.1).1.1,(aA a0 a1.1).1.2) a1.2.1 a1.2.2.1).1.getD (tN v4) dF)) dF).2.1,((aA a0 a1.1).1.2.getD (tN ((aC a0 ((aA a0 a1.1).1.1,(aA a0 a1.1).1.2) a1.2.1 a1.2.2.1).1.getD (tN v4) dF)) dF).2.2.1,((aA a0 a1.1).1.2.getD (tN ((aC a0 ((aA a0 a1.1).1.1,(aA a0 a1.1).1.2) a1.2.1 a1.2.2.1).1.getD (tN v4) dF)) dF).2.2.2.1,((aA a0 a1.1).1.2.getD (tN ((aC a0 ((aA a0 a1.1).1.1,(aA a0 a1.1).1.2) a1.2.1 a1.2.2.1).1.getD (tN v4) dF)) dF).2.2.2.2.1.1,((aA a0 a1.1).1.2.getD (tN ((aC a0 ((aA a0 a1.1).1.1,(aA a0 a1.1).1.2) a1.2.1 a1.2.2.1).1.getD (tN v4) dF)) dF).2.2.2.2.1.2.1,((aA a0 a1.1).1.2.getD (tN ((aC a0 ((aA a0 a1.1).1.1,(aA a0 a1.1).1.2) a1.2.1 a1.2.2.1).1.getD (tN v4) dF)) dF).2.2.2.2.1.2.2,((aA a0 a1.1).1.2.getD (tN ((aC a0 ((aA a0 a1.1).1.1,(aA a0 a1.1).1.2) a1.2.1 a1.2.2.1).1.getD (tN v4) dF)) dF).2.2.2.2.2))))else(.inr (aE (jC a0 a1) (tN ((((aC a0 ((aA a0 a1.1).1.1,(aA a0 a1.1).1.2) a1.2.1 a1.2.2.1).2.1.length:Nat):Int) - 0)+1) (v3,0))))
theorem aU7 (a0:cC)(a1:Int×Zt×Zt)(l0:a0.length<=2^63-1) {cx:Cx} (hcx:cx.base=1)
 (n0:Nat) (g0:∀(v3:ZL) (v4:Int),(0<=v4)/\(v3.length=a0.length)/\((aA a0 a1.1).2=0)->tN ((((aC a0 ((aA a0 a1.1).1.1,(aA a0 a1.1).1.2) a1.2.1 a1.2.2.1).1.length:Nat):Int) - v4) < n0->gG Tryz.f14 cx (.v (.bool (aE (iK a0 a1) n0 (v3,v4)))) [] [] (.l uO.1 n0::uO.2) (yB a0 a1 (flat c3 v3) v3.length v4)):∀(n:Nat) (v5:ZL) (v6 v7 v8 v9 v10 v11 v12 v13 v14 v15:Int),(0<=v7)/\(v5.length=a0.length)/\((aA a0 a1.1).2=0)/\(0<=v7)/\(0<=v6)/\(v9<=a0.length)/\((0<=v6))/\((v5.length=a0.length))/\(((aA a0 a1.1).2=0))/\(v6 < (((aC a0 ((aA a0 a1.1).1.1,(aA a0 a1.1).1.2) a1.2.1 a1.2.2.1).1.length:Nat):Int))/\(tN ((((aC a0 ((aA a0 a1.1).1.1,(aA a0 a1.1).1.2) a1.2.1 a1.2.2.1).1.length:Nat):Int) - v6) < n0+1)->tN (v9 - v7) < n->gG Tryz.f14 cx (.v (.bool (bZ (iK a0 a1) n0 (aE (nT a0 a1) n (v5,v6,v7,v8,v9,v10,v11,v12,v13,v14,v15))))) [] [] (.l aHj n::aHk n0) (aDv a0 a1 (flat c3 v5) v5.length v6 v7 v8 v9 v10 v11 v12 v13 v14 v15):=by
 intro n
 induction n with|zero=>intro v5 v6 v7 v8 v9 v10 v11 v12 v13 v14 v15 hi hn;exact absurd hn (fW _)|succ n ih=>?_
 intro v5 v6 v7 v8 v9 v10 v11 v12 v13 v14 v15 hi hn;refine aS ?_;have hb1:=nZ a0 a1.1;have hb3:=aDq a0 ((aA a0 a1.1).1.1,(aA a0 a1.1).1.2) a1.2.1 a1.2.2.1;have hok:=fO (l:=a0) (leaf:=a1.1) (by omega);have hk1:=hok.2.2;have hk2:=hok.1.1
 try have hor:=hok.2.1 (tN v7) (by have _:=h0;omega)
 cases h0:(decide ((v7:Int) < v9))
 case true=>
  have q0:=dE h0
  try have hor:=hok.2.1 (tN v7) (by have _:=h0;omega)
  have e:=Eq.refl (nT a0 a1 (v5,v6,v7,v8,v9,v10,v11,v12,v13,v14,v15));(conv at e=>rhs;simp only [nT,h0,aQ]);rw [aD e];refine ba [.d h0,.i v7 ((aA a0 a1.1).1.1.length),.L aB (aA a0 a1.1).1.1 v7 0 1,.i ((aA a0 a1.1).1.1.getD (tN v7) dF) (v5.length),.L aB v5 ((aA a0 a1.1).1.1.getD (tN v7) dF) 0 1,.i ((aA a0 a1.1).1.1.getD (tN v7) dF) (v5.length),.p (show((0+tN ((aA a0 a1.1).1.1.getD (tN v7) dF)*1)+1<=(flat c3 v5).length) from(iS aB (by first | omega | (simp only [Lt];omega)) (o:=0) (Nb rfl)))] [] [0,5,7,8,10,11,12,13] [1,2,3,4,5,6,7] hcx (m:=n) aHj (aHk n0) (aDv a0 a1 (splice (flat c3 v5) (0+tN ((aA a0 a1.1).1.1.getD (tN v7) dF)*1) [(iv (W ((v5.getD (tN ((aA a0 a1.1).1.1.getD (tN v7) dF)) dF)+1)))]) (v5.length) v6 (W (v7+1)) v8 v9 v10 v11 v12 v13 v14 v15) (by kernel_rfl) ?_;have z0:(W (v7+1))=(v7+1):=aG (by omega) (by omega);have z1:(splice (flat c3 v5) (0+tN ((aA a0 a1.1).1.1.getD (tN v7) dF)*1) [(iv (W ((v5.getD (tN ((aA a0 a1.1).1.1.getD (tN v7) dF)) dF)+1)))])=flat c3 (v5.set (tN ((aA a0 a1.1).1.1.getD (tN v7) dF)) (W ((v5.getD (tN ((aA a0 a1.1).1.1.getD (tN v7) dF)) dF)+1))):=(bT aB (by first | omega | (simp only [Lt];omega)) (o:=0) (d:=dF) (Nb rfl) rfl);have z2:v5.length=(v5.set (tN ((aA a0 a1.1).1.1.getD (tN v7) dF)) (W ((v5.getD (tN ((aA a0 a1.1).1.1.getD (tN v7) dF)) dF)+1))).length:=by simp
  rw [z0,z1,z2];exact ih _ _ _ _ _ _ _ _ _ _ _ (by refine⟨?_,?_,?_,?_,?_,?_,?_,?_,?_,?_,?_⟩<;>(try simp only [Ls])<;>first | omega | assumption | exact hi.2.1 | exact hi.2.2.1 | exact hi.2.2.2.1 | exact hi.2.2.2.2.1 | exact hi.2.2.2.2.2.1 | exact hi.2.2.2.2.2.2.1 | exact hi.2.2.2.2.2.2.2.1 | exact hi.2.2.2.2.2.2.2.2.1 | exact hi.2.2.2.2.2.2.2.2.2.1 | exact hi.2.2.2.2.2.2.2.2.2.2.1 | simp) (by(try simp only [Ls]);omega)
 have q0:=dO h0
 try have hor:=hok.2.1 (tN v7) (by have _:=h0;omega)
 have e:=Eq.refl (nT a0 a1 (v5,v6,v7,v8,v9,v10,v11,v12,v13,v14,v15));(conv at e=>rhs;simp only [nT,h0,aQ]);rw [aJ,e];refine bA n0 [.d h0] [0,5,7,8,10,11] [1,2,3,4,6,7] hcx uO (yB a0 a1 (flat c3 v5) (v5.length) (W (v6+1))) ?_;have z0:(W (v6+1))=(v6+1):=aG (by omega) (by omega);rw [z0];exact g0 v5 (v6+1) (by refine⟨?_,?_,?_⟩<;>(try simp only [Ls])<;>first | omega | assumption | simp) (by(try simp only [Ls]);omega)
theorem aU8 (a0:cC)(a1:Int×Zt×Zt)(l0:a0.length<=2^63-1) {cx:Cx} (hcx:cx.base=1):∀(n:Nat) (v20:ZL) (v21:Int),(0<=v21)/\(v20.length=a0.length)->tN ((v20.length:Int) - v21) < n->gG Tryz.f14 cx (.v (.bool (aE (kH a0 a1) n (v20,v21)))) [] [] (.l aBg.1 n::aBg.2) (aDw a0 a1 (flat c3 v20) v20.length v21):=by
 intro n
 induction n with|zero=>intro v20 v21 hi hn;exact absurd hn (fW _)|succ n ih=>?_
 intro v20 v21 hi hn;refine aS ?_;have hb1:=nZ a0 a1.1;have hb3:=aDq a0 ((aA a0 a1.1).1.1,(aA a0 a1.1).1.2) a1.2.1 a1.2.2.1;cases h0:(decide ((v21:Int) < (v20.length:Int)))
 case true=>
  have q0:=dE h0;let t1:SL:=[.d h0,.i v21 (v20.length),.L aB v20 v21 0 1];cases h1:(((v20.getD (tN v21) dF):Int) != 1)
  case true=>have q1:=bne_iff_ne.1 h1;have e:=Eq.refl (kH a0 a1 (v20,v21));(conv at e=>rhs;simp only [kH,h0,h1,aQ]);rw [aJ,e];exact rT (t1++[.d h1]) hcx
  have q1:=bne_eq_false_iff_eq.1 h1;have e:=Eq.refl (kH a0 a1 (v20,v21));(conv at e=>rhs;simp only [kH,h0,h1,aQ]);rw [aD e];refine bA n (t1++[.d h1]) [10,15] [1] hcx aBg (aDw a0 a1 (flat c3 v20) (v20.length) (W (v21+1))) ?_;have z0:(W (v21+1))=(v21+1):=aG (by omega) (by omega);rw [z0];exact ih _ _ (by refine⟨?_,?_⟩<;>(try simp only [Ls])<;>first | omega | assumption | simp) (by(try simp only [Ls]);omega)
 have q0:=dO h0;have e:=Eq.refl (kH a0 a1 (v20,v21));(conv at e=>rhs;simp only [kH,h0,aQ]);rw [aJ,e];exact rT [.d h0,.c [] (C7)] hcx
theorem aU9 (a0:cC)(a1:Int×Zt×Zt)(l0:a0.length<=2^63-1) {cx:Cx} (hcx:cx.base=1):∀(n:Nat) (v17:ZL) (v18:Int),(0<=v18)/\(v17.length=a0.length)->tN ((((aC a0 ((aA a0 a1.1).1.1,(aA a0 a1.1).1.2) a1.2.1 a1.2.2.1).2.1.length:Nat):Int) - v18) < n->gG Tryz.f14 cx (.v (.bool (aE (jC a0 a1) n (v17,v18)))) [] [] (.l aBh.1 n::aBh.2) (aDx a0 a1 (flat c3 v17) v17.length v18):=by
 intro n
 induction n with|zero=>intro v17 v18 hi hn;exact absurd hn (fW _)|succ n ih=>?_
 intro v17 v18 hi hn;refine aS ?_;have hb1:=nZ a0 a1.1;have hb3:=aDq a0 ((aA a0 a1.1).1.1,(aA a0 a1.1).1.2) a1.2.1 a1.2.2.1;cases h0:(decide ((v18:Int) < (((aC a0 ((aA a0 a1.1).1.1,(aA a0 a1.1).1.2) a1.2.1 a1.2.2.1).2.1.length:Nat):Int)))
 case true=>
  have q0:=dE h0;let t1:SL:=[.d h0,.i v18 ((aC a0 ((aA a0 a1.1).1.1,(aA a0 a1.1).1.2) a1.2.1 a1.2.2.1).2.1.length),.L aB (aC a0 ((aA a0 a1.1).1.1,(aA a0 a1.1).1.2) a1.2.1 a1.2.2.1).2.1 v18 0 1];cases h1:(decide ((((aC a0 ((aA a0 a1.1).1.1,(aA a0 a1.1).1.2) a1.2.1 a1.2.2.1).2.1.getD (tN v18) dF):Int) < 0))
  case true=>have q1:=dE h1;have e:=Eq.refl (jC a0 a1 (v17,v18));(conv at e=>rhs;simp only [jC,h0,h1,aQ]);rw [aJ,e];exact rT (t1++[.d h1]) hcx
  have q1:=dO h1;let t2:SL:=t1++[.d h1,.i v18 ((aC a0 ((aA a0 a1.1).1.1,(aA a0 a1.1).1.2) a1.2.1 a1.2.2.1).2.1.length),.L aB (aC a0 ((aA a0 a1.1).1.1,(aA a0 a1.1).1.2) a1.2.1 a1.2.2.1).2.1 v18 0 1];cases h2:(decide ((((aC a0 ((aA a0 a1.1).1.1,(aA a0 a1.1).1.2) a1.2.1 a1.2.2.1).2.1.getD (tN v18) dF):Int)≥(a0.length:Int)))
  case true=>have q2:=dE h2;have e:=Eq.refl (jC a0 a1 (v17,v18));(conv at e=>rhs;simp only [jC,h0,h1,h2,aQ]);rw [aJ,e];exact rT (t2++[.d h2]) hcx
  have q2:=dO h2;have e:=Eq.refl (jC a0 a1 (v17,v18));(conv at e=>rhs;simp only [jC,h0,h1,h2,aQ]);rw [aD e];refine bA n (t2++[.d h2,.i v18 ((aC a0 ((aA a0 a1.1).1.1,(aA a0 a1.1).1.2) a1.2.1 a1.2.2.1).2.1.length),.L aB (aC a0 ((aA a0 a1.1).1.1,(aA a0 a1.1).1.2) a1.2.1 a1.2.2.1).2.1 v18 0 1,.i ((aC a0 ((aA a0 a1.1).1.1,(aA a0 a1.1).1.2) a1.2.1 a1.2.2.1).2.1.getD (tN v18) dF) (v17.length),.L aB v17 ((aC a0 ((aA a0 a1.1).1.1,(aA a0 a1.1).1.2) a1.2.1 a1.2.2.1).2.1.getD (tN v18) dF) 0 1,.i ((aC a0 ((aA a0 a1.1).1.1,(aA a0 a1.1).1.2) a1.2.1 a1.2.2.1).2.1.getD (tN v18) dF) (v17.length),.p (show((0+tN ((aC a0 ((aA a0 a1.1).1.1,(aA a0 a1.1).1.2) a1.2.1 a1.2.2.1).2.1.getD (tN v18) dF)*1)+1<=(flat c3 v17).length) from(iS aB (by first | omega | (simp only [Lt];omega)) (o:=0) (Nb rfl)))]) [0,8,10,14] [1,2] hcx aBh (aDx a0 a1 (splice (flat c3 v17) (0+tN ((aC a0 ((aA a0 a1.1).1.1,(aA a0 a1.1).1.2) a1.2.1 a1.2.2.1).2.1.getD (tN v18) dF)*1) [(iv (W ((v17.getD (tN ((aC a0 ((aA a0 a1.1).1.1,(aA a0 a1.1).1.2) a1.2.1 a1.2.2.1).2.1.getD (tN v18) dF)) dF)+1)))]) (v17.length) (W (v18+1))) ?_;have z0:(W (v18+1))=(v18+1):=aG (by omega) (by omega);have z1:(splice (flat c3 v17) (0+tN ((aC a0 ((aA a0 a1.1).1.1,(aA a0 a1.1).1.2) a1.2.1 a1.2.2.1).2.1.getD (tN v18) dF)*1) [(iv (W ((v17.getD (tN ((aC a0 ((aA a0 a1.1).1.1,(aA a0 a1.1).1.2) a1.2.1 a1.2.2.1).2.1.getD (tN v18) dF)) dF)+1)))])=flat c3 (v17.set (tN ((aC a0 ((aA a0 a1.1).1.1,(aA a0 a1.1).1.2) a1.2.1 a1.2.2.1).2.1.getD (tN v18) dF)) (W ((v17.getD (tN ((aC a0 ((aA a0 a1.1).1.1,(aA a0 a1.1).1.2) a1.2.1 a1.2.2.1).2.1.getD (tN v18) dF)) dF)+1))):=(bT aB (by first | omega | (simp only [Lt];omega)) (o:=0) (d:=dF) (Nb rfl) rfl);have z2:v17.length=(v17.set (tN ((aC a0 ((aA a0 a1.1).1.1,(aA a0 a1.1).1.2) a1.2.1 a1.2.2.1).2.1.getD (tN v18) dF)) (W ((v17.getD (tN ((aC a0 ((aA a0 a1.1).1.1,(aA a0 a1.1).1.2) a1.2.1 a1.2.2.1).2.1.getD (tN v18) dF)) dF)+1))).length:=by simp
  rw [z0,z1,z2];exact ih _ _ (by refine⟨?_,?_⟩<;>(try simp only [Ls])<;>first | omega | assumption | simp) (by(try simp only [Ls]);omega)
 have q0:=dO h0;have e:=Eq.refl (jC a0 a1 (v17,v18));(conv at e=>rhs;simp only [jC,h0,aQ]);rw [aJ,e];refine eN [.d h0] [10,15] [2] hcx aBg (aDw a0 a1 (flat c3 v17) (v17.length) 0) (tN ((v17.length:Int) - 0)+1) ?_;exact aU8 a0 a1 l0 hcx (tN ((v17.length:Int) - 0)+1) v17 0 (by refine⟨?_,?_⟩<;>(try simp only [Ls])<;>first | omega | assumption | simp) (by(try simp only [Ls]);omega)
theorem aVa (a0:cC)(a1:Int×Zt×Zt)(l0:a0.length<=2^63-1) {cx:Cx} (hcx:cx.base=1):∀(n:Nat) (v3:ZL) (v4:Int),(0<=v4)/\(v3.length=a0.length)/\((aA a0 a1.1).2=0)->tN ((((aC a0 ((aA a0 a1.1).1.1,(aA a0 a1.1).1.2) a1.2.1 a1.2.2.1).1.length:Nat):Int) - v4) < n->gG Tryz.f14 cx (.v (.bool (aE (iK a0 a1) n (v3,v4)))) [] [] (.l uO.1 n::uO.2) (yB a0 a1 (flat c3 v3) v3.length v4):=by
 intro n
 induction n with|zero=>intro v3 v4 hi hn;exact absurd hn (fW _)|succ n ih=>?_
 intro v3 v4 hi hn;refine aS ?_;have hb1:=nZ a0 a1.1;have hb3:=aDq a0 ((aA a0 a1.1).1.1,(aA a0 a1.1).1.2) a1.2.1 a1.2.2.1;have hok:=fO (l:=a0) (leaf:=a1.1) (by omega);have hk1:=hok.2.2;have hk2:=hok.1.1
 try have hnd:=hok.1.2.2 (tN ((aC a0 ((aA a0 a1.1).1.1,(aA a0 a1.1).1.2) a1.2.1 a1.2.2.1).1.getD (tN v4) dF)) (show tN ((aC a0 ((aA a0 a1.1).1.1,(aA a0 a1.1).1.2) a1.2.1 a1.2.2.1).1.getD (tN v4) dF) < (aA a0 a1.1).1.2.length by have _:=h2;omega)
 try (have _:=h2;dsimp only at hnd)
 cases h0:(decide ((v4:Int) < (((aC a0 ((aA a0 a1.1).1.1,(aA a0 a1.1).1.2) a1.2.1 a1.2.2.1).1.length:Nat):Int)))
 case true=>
  have q0:=dE h0
  try have hnd:=hok.1.2.2 (tN ((aC a0 ((aA a0 a1.1).1.1,(aA a0 a1.1).1.2) a1.2.1 a1.2.2.1).1.getD (tN v4) dF)) (show tN ((aC a0 ((aA a0 a1.1).1.1,(aA a0 a1.1).1.2) a1.2.1 a1.2.2.1).1.getD (tN v4) dF) < (aA a0 a1.1).1.2.length by have _:=h2;omega)
  try (have _:=h2;dsimp only at hnd)
  let t1:SL:=[.d h0,.i v4 ((aC a0 ((aA a0 a1.1).1.1,(aA a0 a1.1).1.2) a1.2.1 a1.2.2.1).1.length),.L aB (aC a0 ((aA a0 a1.1).1.1,(aA a0 a1.1).1.2) a1.2.1 a1.2.2.1).1 v4 0 1];cases h1:(decide ((((aC a0 ((aA a0 a1.1).1.1,(aA a0 a1.1).1.2) a1.2.1 a1.2.2.1).1.getD (tN v4) dF):Int) < 0))
  case true=>
   have q1:=dE h1
   try have hnd:=hok.1.2.2 (tN ((aC a0 ((aA a0 a1.1).1.1,(aA a0 a1.1).1.2) a1.2.1 a1.2.2.1).1.getD (tN v4) dF)) (show tN ((aC a0 ((aA a0 a1.1).1.1,(aA a0 a1.1).1.2) a1.2.1 a1.2.2.1).1.getD (tN v4) dF) < (aA a0 a1.1).1.2.length by have _:=h2;omega)
   try (have _:=h2;dsimp only at hnd)
   have e:=Eq.refl (iK a0 a1 (v3,v4));(conv at e=>rhs;simp only [iK,h0,h1,aQ]);rw [aJ,e];exact rT (t1++[.d h1]) hcx
  have q1:=dO h1
  try have hnd:=hok.1.2.2 (tN ((aC a0 ((aA a0 a1.1).1.1,(aA a0 a1.1).1.2) a1.2.1 a1.2.2.1).1.getD (tN v4) dF)) (show tN ((aC a0 ((aA a0 a1.1).1.1,(aA a0 a1.1).1.2) a1.2.1 a1.2.2.1).1.getD (tN v4) dF) < (aA a0 a1.1).1.2.length by have _:=h2;omega)
  try (have _:=h2;dsimp only at hnd)
  let t2:SL:=t1++[.d h1,.i v4 ((aC a0 ((aA a0 a1.1).1.1,(aA a0 a1.1).1.2) a1.2.1 a1.2.2.1).1.length),.L aB (aC a0 ((aA a0 a1.1).1.1,(aA a0 a1.1).1.2) a1.2.1 a1.2.2.1).1 v4 0 1];cases h2:(decide ((((aC a0 ((aA a0 a1.1).1.1,(aA a0 a1.1).1.2) a1.2.1 a1.2.2.1).1.getD (tN v4) dF):Int)≥(((aA a0 a1.1).1.2.length:Nat):Int)))
  case true=>
   have q2:=dE h2
   try have hnd:=hok.1.2.2 (tN ((aC a0 ((aA a0 a1.1).1.1,(aA a0 a1.1).1.2) a1.2.1 a1.2.2.1).1.getD (tN v4) dF)) (show tN ((aC a0 ((aA a0 a1.1).1.1,(aA a0 a1.1).1.2) a1.2.1 a1.2.2.1).1.getD (tN v4) dF) < (aA a0 a1.1).1.2.length by have _:=h2;omega)
   try (have _:=h2;dsimp only at hnd)
   have e:=Eq.refl (iK a0 a1 (v3,v4));(conv at e=>rhs;simp only [iK,h0,h1,h2,aQ]);rw [aJ,e];exact rT (t2++[.d h2]) hcx
  have q2:=dO h2
  try have hnd:=hok.1.2.2 (tN ((aC a0 ((aA a0 a1.1).1.1,(aA a0 a1.1).1.2) a1.2.1 a1.2.2.1).1.getD (tN v4) dF)) (show tN ((aC a0 ((aA a0 a1.1).1.1,(aA a0 a1.1).1.2) a1.2.1 a1.2.2.1).1.getD (tN v4) dF) < (aA a0 a1.1).1.2.length by have _:=h2;omega)
  try (have _:=h2;dsimp only at hnd)
  have e:=Eq.refl (iK a0 a1 (v3,v4));(conv at e=>rhs;simp only [iK,h0,h1,h2,aQ]);rw [aJ,e];refine en (t2++[.d h2,.i v4 ((aC a0 ((aA a0 a1.1).1.1,(aA a0 a1.1).1.2) a1.2.1 a1.2.2.1).1.length),.L aB (aC a0 ((aA a0 a1.1).1.1,(aA a0 a1.1).1.2) a1.2.1 a1.2.2.1).1 v4 0 1,.i ((aC a0 ((aA a0 a1.1).1.1,(aA a0 a1.1).1.2) a1.2.1 a1.2.2.1).1.getD (tN v4) dF) ((aA a0 a1.1).1.2.length),.L hU (aA a0 a1.1).1.2 ((aC a0 ((aA a0 a1.1).1.1,(aA a0 a1.1).1.2) a1.2.1 a1.2.2.1).1.getD (tN v4) dF) 0 8]) [] [0,5,7,8,10,11,12,13] [1,2,3,4,7,5,6] hcx aHj (aHk n) (aDv a0 a1 (flat c3 v3) (v3.length) v4 (((aA a0 a1.1).1.2.getD (tN ((aC a0 ((aA a0 a1.1).1.1,(aA a0 a1.1).1.2) a1.2.1 a1.2.2.1).1.getD (tN v4) dF)) dF).1) (((aA a0 a1.1).1.2.getD (tN ((aC a0 ((aA a0 a1.1).1.1,(aA a0 a1.1).1.2) a1.2.1 a1.2.2.1).1.getD (tN v4) dF)) dF).1) (((aA a0 a1.1).1.2.getD (tN ((aC a0 ((aA a0 a1.1).1.1,(aA a0 a1.1).1.2) a1.2.1 a1.2.2.1).1.getD (tN v4) dF)) dF).2.1) (((aA a0 a1.1).1.2.getD (tN ((aC a0 ((aA a0 a1.1).1.1,(aA a0 a1.1).1.2) a1.2.1 a1.2.2.1).1.getD (tN v4) dF)) dF).2.2.1) (((aA a0 a1.1).1.2.getD (tN ((aC a0 ((aA a0 a1.1).1.1,(aA a0 a1.1).1.2) a1.2.1 a1.2.2.1).1.getD (tN v4) dF)) dF).2.2.2.1) (((aA a0 a1.1).1.2.getD (tN ((aC a0 ((aA a0 a1.1).1.1,(aA a0 a1.1).1.2) a1.2.1 a1.2.2.1).1.getD (tN v4) dF)) dF).2.2.2.2.1.1) (((aA a0 a1.1).1.2.getD (tN ((aC a0 ((aA a0 a1.1).1.1,(aA a0 a1.1).1.2) a1.2.1 a1.2.2.1).1.getD (tN v4) dF)) dF).2.2.2.2.1.2.1) (((aA a0 a1.1).1.2.getD (tN ((aC a0 ((aA a0 a1.1).1.1,(aA a0 a1.1).1.2) a1.2.1 a1.2.2.1).1.getD (tN v4) dF)) dF).2.2.2.2.1.2.2) (((aA a0 a1.1).1.2.getD (tN ((aC a0 ((aA a0 a1.1).1.1,(aA a0 a1.1).1.2) a1.2.1 a1.2.2.1).1.getD (tN v4) dF)) dF).2.2.2.2.2)) (tN (((aA a0 a1.1).1.2.getD (tN ((aC a0 ((aA a0 a1.1).1.1,(aA a0 a1.1).1.2) a1.2.1 a1.2.2.1).1.getD (tN v4) dF)) dF).2.1 - ((aA a0 a1.1).1.2.getD (tN ((aC a0 ((aA a0 a1.1).1.1,(aA a0 a1.1).1.2) a1.2.1 a1.2.2.1).1.getD (tN v4) dF)) dF).1)+1) (by kernel_rfl) ?_;exact aU7 a0 a1 l0 hcx n ih (tN (((aA a0 a1.1).1.2.getD (tN ((aC a0 ((aA a0 a1.1).1.1,(aA a0 a1.1).1.2) a1.2.1 a1.2.2.1).1.getD (tN v4) dF)) dF).2.1 - ((aA a0 a1.1).1.2.getD (tN ((aC a0 ((aA a0 a1.1).1.1,(aA a0 a1.1).1.2) a1.2.1 a1.2.2.1).1.getD (tN v4) dF)) dF).1)+1) v3 v4 (((aA a0 a1.1).1.2.getD (tN ((aC a0 ((aA a0 a1.1).1.1,(aA a0 a1.1).1.2) a1.2.1 a1.2.2.1).1.getD (tN v4) dF)) dF).1) (((aA a0 a1.1).1.2.getD (tN ((aC a0 ((aA a0 a1.1).1.1,(aA a0 a1.1).1.2) a1.2.1 a1.2.2.1).1.getD (tN v4) dF)) dF).1) (((aA a0 a1.1).1.2.getD (tN ((aC a0 ((aA a0 a1.1).1.1,(aA a0 a1.1).1.2) a1.2.1 a1.2.2.1).1.getD (tN v4) dF)) dF).2.1) (((aA a0 a1.1).1.2.getD (tN ((aC a0 ((aA a0 a1.1).1.1,(aA a0 a1.1).1.2) a1.2.1 a1.2.2.1).1.getD (tN v4) dF)) dF).2.2.1) (((aA a0 a1.1).1.2.getD (tN ((aC a0 ((aA a0 a1.1).1.1,(aA a0 a1.1).1.2) a1.2.1 a1.2.2.1).1.getD (tN v4) dF)) dF).2.2.2.1) (((aA a0 a1.1).1.2.getD (tN ((aC a0 ((aA a0 a1.1).1.1,(aA a0 a1.1).1.2) a1.2.1 a1.2.2.1).1.getD (tN v4) dF)) dF).2.2.2.2.1.1) (((aA a0 a1.1).1.2.getD (tN ((aC a0 ((aA a0 a1.1).1.1,(aA a0 a1.1).1.2) a1.2.1 a1.2.2.1).1.getD (tN v4) dF)) dF).2.2.2.2.1.2.1) (((aA a0 a1.1).1.2.getD (tN ((aC a0 ((aA a0 a1.1).1.1,(aA a0 a1.1).1.2) a1.2.1 a1.2.2.1).1.getD (tN v4) dF)) dF).2.2.2.2.1.2.2) (((aA a0 a1.1).1.2.getD (tN ((aC a0 ((aA a0 a1.1).1.1,(aA a0 a1.1).1.2) a1.2.1 a1.2.2.1).1.getD (tN v4) dF)) dF).2.2.2.2.2) (by refine⟨?_,?_,?_,?_,?_,?_,?_,?_,?_,?_,?_⟩<;>(try simp only [Ls])<;>first | omega | assumption | exact hi.2.1 | exact hi.2.2.1 | exact hi.2.2.2.1 | exact hi.2.2.2.2.1 | exact hi.2.2.2.2.2.1 | exact hi.2.2.2.2.2.2.1 | exact hi.2.2.2.2.2.2.2.1 | exact hi.2.2.2.2.2.2.2.2.1 | exact hi.2.2.2.2.2.2.2.2.2.1 | exact hi.2.2.2.2.2.2.2.2.2.2.1 | simp) (by(try simp only [Ls]);omega)
 have q0:=dO h0
 try have hnd:=hok.1.2.2 (tN ((aC a0 ((aA a0 a1.1).1.1,(aA a0 a1.1).1.2) a1.2.1 a1.2.2.1).1.getD (tN v4) dF)) (show tN ((aC a0 ((aA a0 a1.1).1.1,(aA a0 a1.1).1.2) a1.2.1 a1.2.2.1).1.getD (tN v4) dF) < (aA a0 a1.1).1.2.length by have _:=h2;omega)
 try (have _:=h2;dsimp only at hnd)
 have e:=Eq.refl (iK a0 a1 (v3,v4));(conv at e=>rhs;simp only [iK,h0,aQ]);rw [aJ,e];refine eN [.d h0] [0,8,10,14] [3,4] hcx aBh (aDx a0 a1 (flat c3 v3) (v3.length) 0) (tN ((((aC a0 ((aA a0 a1.1).1.1,(aA a0 a1.1).1.2) a1.2.1 a1.2.2.1).2.1.length:Nat):Int) - 0)+1) ?_;exact aU9 a0 a1 l0 hcx (tN ((((aC a0 ((aA a0 a1.1).1.1,(aA a0 a1.1).1.2) a1.2.1 a1.2.2.1).2.1.length:Nat):Int) - 0)+1) v3 0 (by refine⟨?_,?_⟩<;>(try simp only [Ls])<;>first | omega | assumption | simp) (by(try simp only [Ls]);omega)
def kB (a0:cC)(a1:Int×Zt×Zt):Bool := (bif (zH a0)then F7 else(bif (((aA a0 a1.1).2:Int) != 0)then(bif (((((aC a0 ((aA a0 a1.1).1.1,(aA a0 a1.1).1.2) a1.2.1 a1.2.2.1).1.length:Nat):Int):Int) == 0)then(bif (((((aC a0 ((aA a0 a1.1).1.1,(aA a0 a1.1).1.2) a1.2.1 a1.2.2.1).2.1.length:Nat):Int):Int) == 0)then F7 else false)else false)else(bif (((aC a0 ((aA a0 a1.1).1.1,(aA a0 a1.1).1.2) a1.2.1 a1.2.2.1).2.2:Int) != 0)then(bif (((((aC a0 ((aA a0 a1.1).1.1,(aA a0 a1.1).1.2) a1.2.1 a1.2.2.1).1.length:Nat):Int):Int) == 0)then(bif (((((aC a0 ((aA a0 a1.1).1.1,(aA a0 a1.1).1.2) a1.2.1 a1.2.2.1).2.1.length:Nat):Int):Int) == 0)then F7 else false)else false)else(aE (iK a0 a1) (tN ((((aC a0 ((aA a0 a1.1).1.1,(aA a0 a1.1).1.2) a1.2.1 a1.2.2.1).1.length:Nat):Int) - 0)+1) ((List.replicate (tN (a0.length:Int)) 0),0)))))
def kS2 (x:Int×(Int×Int×Int)×Int×Int×Int):List SV:=[(iv x.1),(iv x.2.1.1),(iv x.2.1.2.1),(iv x.2.1.2.2),(iv x.2.2.1),(iv x.2.2.2.1),(iv x.2.2.2.2)]
theorem bBs (a0:cC)(a1:Int×Zt×Zt)(l0:a0.length<=2^63-1):Con Tryz.prog 14 [(.s 0 0 a0.length 10),(.a (kS2 a1))] [(.live false true (flat fJ a0))] (.v (.bool (kB a0 a1))) []:=by
 refine cS Tryz.func14 fun cx hcx=>?_
 have hb1:=nZ a0 a1.1;have hb3:=aDq a0 ((aA a0 a1.1).1.1,(aA a0 a1.1).1.2) a1.2.1 a1.2.2.1
 try have hok:=fO (l:=a0) (leaf:=a1.1) (by have _:=h1;omega)
 try have hk1:=(fun _=>hok.2.2) h1
 let t0:SL:=[.c [0] (bBr a0 (by omega))];cases h0:(zH a0)
 case true=>
  try have hok:=fO (l:=a0) (leaf:=a1.1) (by have _:=h1;omega)
  try have hk1:=(fun _=>hok.2.2) h1
  have e:=Eq.refl (kB a0 a1);(conv at e=>rhs;simp only [kB,h0,aQ]);rw [e];exact rT (t0++[.d h0,.c [] (C7)]) hcx
 try have hok:=fO (l:=a0) (leaf:=a1.1) (by have _:=h1;omega)
 try have hk1:=(fun _=>hok.2.2) h1
 let t1:SL:=t0++[.d h0,.c [0] (aRl a0 a1.1 (by omega)),.c [0,2,3] (aV8 a0 ((aA a0 a1.1).1.1,(aA a0 a1.1).1.2) a1.2.1 a1.2.2.1 (by(try simp only [Lt]);omega) (by(try simp only [Lt]);omega) (by(try simp only [Lt]);omega))];cases h1:(((aA a0 a1.1).2:Int) != 0)
 case true=>
  have q1:=bne_iff_ne.1 h1
  try have hok:=fO (l:=a0) (leaf:=a1.1) (by have _:=h1;omega)
  try have hk1:=(fun _=>hok.2.2) h1
  let t2:SL:=t1++[.d h1];cases h2:(((((aC a0 ((aA a0 a1.1).1.1,(aA a0 a1.1).1.2) a1.2.1 a1.2.2.1).1.length:Nat):Int):Int) == 0)
  case true=>
   have q2:=eq_of_beq h2
   try have hok:=fO (l:=a0) (leaf:=a1.1) (by have _:=h1;omega)
   try have hk1:=(fun _=>hok.2.2) h1
   let t3:SL:=t2++[.d h2];cases h3:(((((aC a0 ((aA a0 a1.1).1.1,(aA a0 a1.1).1.2) a1.2.1 a1.2.2.1).2.1.length:Nat):Int):Int) == 0)
   case true=>
    have q3:=eq_of_beq h3
    try have hok:=fO (l:=a0) (leaf:=a1.1) (by have _:=h1;omega)
    try have hk1:=(fun _=>hok.2.2) h1
    have e:=Eq.refl (kB a0 a1);(conv at e=>rhs;simp only [kB,h0,h1,h2,h3,aQ]);rw [e];exact rT (t3++[.d h3,.c [] (C7)]) hcx
   have q3:=ne_of_beq_false h3
   try have hok:=fO (l:=a0) (leaf:=a1.1) (by have _:=h1;omega)
   try have hk1:=(fun _=>hok.2.2) h1
   have e:=Eq.refl (kB a0 a1);(conv at e=>rhs;simp only [kB,h0,h1,h2,h3,aQ]);rw [e];exact rT (t3++[.d h3]) hcx
  have q2:=ne_of_beq_false h2
  try have hok:=fO (l:=a0) (leaf:=a1.1) (by have _:=h1;omega)
  try have hk1:=(fun _=>hok.2.2) h1
  have e:=Eq.refl (kB a0 a1);(conv at e=>rhs;simp only [kB,h0,h1,h2,aQ]);rw [e];exact rT (t2++[.d h2]) hcx
 have q1:=bne_eq_false_iff_eq.1 h1
 try have hok:=fO (l:=a0) (leaf:=a1.1) (by have _:=h1;omega)
 try have hk1:=(fun _=>hok.2.2) h1
 let t2:SL:=t1++[.d h1];cases h2:(((aC a0 ((aA a0 a1.1).1.1,(aA a0 a1.1).1.2) a1.2.1 a1.2.2.1).2.2:Int) != 0)
 case true=>
  have q2:=bne_iff_ne.1 h2
  try have hok:=fO (l:=a0) (leaf:=a1.1) (by have _:=h1;omega)
  try have hk1:=(fun _=>hok.2.2) h1
  let t3:SL:=t2++[.d h2];cases h3:(((((aC a0 ((aA a0 a1.1).1.1,(aA a0 a1.1).1.2) a1.2.1 a1.2.2.1).1.length:Nat):Int):Int) == 0)
  case true=>
   have q3:=eq_of_beq h3
   try have hok:=fO (l:=a0) (leaf:=a1.1) (by have _:=h1;omega)
   try have hk1:=(fun _=>hok.2.2) h1
   let t4:SL:=t3++[.d h3];cases h4:(((((aC a0 ((aA a0 a1.1).1.1,(aA a0 a1.1).1.2) a1.2.1 a1.2.2.1).2.1.length:Nat):Int):Int) == 0)
   case true=>
    have q4:=eq_of_beq h4
    try have hok:=fO (l:=a0) (leaf:=a1.1) (by have _:=h1;omega)
    try have hk1:=(fun _=>hok.2.2) h1
    have e:=Eq.refl (kB a0 a1);(conv at e=>rhs;simp only [kB,h0,h1,h2,h3,h4,aQ]);rw [e];exact rT (t4++[.d h4,.c [] (C7)]) hcx
   have q4:=ne_of_beq_false h4
   try have hok:=fO (l:=a0) (leaf:=a1.1) (by have _:=h1;omega)
   try have hk1:=(fun _=>hok.2.2) h1
   have e:=Eq.refl (kB a0 a1);(conv at e=>rhs;simp only [kB,h0,h1,h2,h3,h4,aQ]);rw [e];exact rT (t4++[.d h4]) hcx
  have q3:=ne_of_beq_false h3
  try have hok:=fO (l:=a0) (leaf:=a1.1) (by have _:=h1;omega)
  try have hk1:=(fun _=>hok.2.2) h1
  have e:=Eq.refl (kB a0 a1);(conv at e=>rhs;simp only [kB,h0,h1,h2,h3,aQ]);rw [e];exact rT (t3++[.d h3]) hcx
 have q2:=bne_eq_false_iff_eq.1 h2
 try have hok:=fO (l:=a0) (leaf:=a1.1) (by have _:=h1;omega)
 try have hk1:=(fun _=>hok.2.2) h1
 have e:=Eq.refl (kB a0 a1);(conv at e=>rhs;simp only [kB,h0,h1,h2,aQ]);rw [e];refine eN (t2++[.d h2,.Z c3 0 [(iv 0)] (a0.length:Int) 8]) [0,5,7,8,10,11] [4,5,6,7,2,3] hcx uO (yB a0 a1 (flat c3 (List.replicate (tN (a0.length:Int)) 0)) (tN (a0.length:Int)) 0) (tN ((((aC a0 ((aA a0 a1.1).1.1,(aA a0 a1.1).1.2) a1.2.1 a1.2.2.1).1.length:Nat):Int) - 0)+1) ?_;have q:=aVa a0 a1 l0 hcx (tN ((((aC a0 ((aA a0 a1.1).1.1,(aA a0 a1.1).1.2) a1.2.1 a1.2.2.1).1.length:Nat):Int) - 0)+1) (List.replicate (tN (a0.length:Int)) 0) 0 (by refine⟨?_,?_,?_⟩<;>(try simp only [Ls])<;>first | omega | assumption | simp) (by(try simp only [Ls]);omega);simp only [List.length_replicate] at q;exact q
def F16 (a0 a1:Zs):Bool := (bif (((F13 a0 a1).2.2:Int) == 0)then(F13 a0 a1).2.1 else false)
theorem C16 (a0 a1:Zs):Con Tryz.prog 16 [(.a [(iv a0.1),(iv a0.2)]),(.a [(iv a1.1),(iv a1.2)])] [] (.v (.bool (F16 a0 a1))) []:=by
 refine cS Tryz.func16 fun cx hcx=>?_
 let t0:SL:=[.c [] (C13 a0 a1)];cases h0:(((F13 a0 a1).2.2:Int) == 0)
 case true=>have q0:=eq_of_beq h0;have e:=Eq.refl (F16 a0 a1);(conv at e=>rhs;simp only [F16,h0,aQ]);rw [e];exact rT (t0++[.d h0]) hcx
 have q0:=ne_of_beq_false h0;have e:=Eq.refl (F16 a0 a1);(conv at e=>rhs;simp only [F16,h0,aQ]);rw [e];exact rT (t0++[.d h0]) hcx
def eF (a0:cC)(a1:Int×Zt×Zt):Zs×Bool := (bif (((aA a0 a1.1).2:Int) != 0)then((0,0),false)else((uT a0 ((aA a0 a1.1).1.1,(aA a0 a1.1).1.2) a1.2.1 a1.2.2.1 a1.2.2.2.1 a1.2.2.2.2).1,(((uT a0 ((aA a0 a1.1).1.1,(aA a0 a1.1).1.2) a1.2.1 a1.2.2.1 a1.2.2.2.1 a1.2.2.2.2).2:Int) == 0)))
theorem aWo (a0:cC)(a1:Int×Zt×Zt)(l0:a0.length<=2^63-1):Con Tryz.prog 15 [(.s 0 0 a0.length 10),(.a (kS2 a1))] [(.live false true (flat fJ a0))] (.t [(.a (k2 (eF a0 a1).1)),(.v (.bool (eF a0 a1).2))]) []:=by
 refine cS Tryz.func15 fun cx hcx=>?_
 have hb2:=nZ a0 a1.1;let t0:SL:=[.c [0] (aRl a0 a1.1 (by omega))];cases h0:(((aA a0 a1.1).2:Int) != 0)
 case true=>have q0:=bne_iff_ne.1 h0;have e:=Eq.refl (eF a0 a1);(conv at e=>rhs;simp only [eF,h0,aQ]);rw [e];exact rT (t0++[.d h0]) hcx
 have q0:=bne_eq_false_iff_eq.1 h0;have e:=Eq.refl (eF a0 a1);(conv at e=>rhs;simp only [eF,h0,aQ]);rw [e];exact rT (t0++[.d h0,.c [0,3,4] (bDm a0 ((aA a0 a1.1).1.1,(aA a0 a1.1).1.2) a1.2.1 a1.2.2.1 a1.2.2.2.1 a1.2.2.2.2 (by(try simp only [Lt]);omega) (by(try simp only [Lt]);omega) (by(try simp only [Lt]);omega))]) hcx
def aFj:Int := 0
theorem bBt:Con Tryz.prog 38 [(.v (.slice none 0 0))] [] (iv aFj) []:=by
 refine cS Tryz.func38 fun cx hcx=>?_
 have e:=Eq.refl aFj;(conv at e=>rhs;simp only [aFj]);rw [e];exact rT [.F,.u 200,.F] hcx
def aAg (a1:Int):ZL×eB := (([]:ZL),([]:eB))
theorem bBu (a1:Int)(hf:1<=a1):Con Tryz.prog 39 [(.v (.slice none 0 0)),(iv a1)] [] (.a [(.s 0 0 (aAg a1).1.length 1),(.s 1 0 (aAg a1).2.length 8)]) [(.live true true (flat c3 (aAg a1).1)),(.live true true (flat fP (aAg a1).2))]:=by
 refine cS Tryz.func39 fun cx hcx=>?_
 have e:=Eq.refl (aAg a1);(conv at e=>rhs;simp only [aAg]);rw [e];exact rt [.u 200,.F,.F] [.cell 0 0 1,.cell 0 1 8] [2,3] hcx (by kernel_rfl)
def mZ (a1:Int):(ZL×eB)×Int := (bif ((aFj:Int) != 0)then((([]:ZL),([]:eB)),aFj)else(bif (!(vI a1 1 16))then((([]:ZL),([]:eB)),1)else(((aAg a1).1,(aAg a1).2),0)))
theorem bBv (a1:Int):Con Tryz.prog 11 [(.v (.slice none 0 0)),(iv a1)] [] (.t [(.a [(.s 0 0 (mZ a1).1.1.length 1),(.s 1 0 (mZ a1).1.2.length 8)]),(iv (mZ a1).2)]) [(.live true true (flat c3 (mZ a1).1.1)),(.live true true (flat fP (mZ a1).1.2))]:=by
 refine cS Tryz.func11 fun cx hcx=>?_
 let t0:SL:=[.c [] (bBt)];cases h0:((aFj:Int) != 0)
 case true=>have q0:=bne_iff_ne.1 h0;have e:=Eq.refl (mZ a1);(conv at e=>rhs;simp only [mZ,h0,aQ]);rw [e];exact rt (t0++[.d h0]) [.cell 0 0 1,.cell 0 1 8] [1,2] hcx (by kernel_rfl)
 have q0:=bne_eq_false_iff_eq.1 h0;let t1:SL:=t0++[.d h0,.c [] (C23 a1 1 16)];cases h1:(!(vI a1 1 16))
 case true=>have e:=Eq.refl (mZ a1);(conv at e=>rhs;simp only [mZ,h0,h1,aQ]);rw [e];exact rt (t1++[.d h1]) [.cell 0 0 1,.cell 0 1 8] [1,2] hcx (by kernel_rfl)
 have e:=Eq.refl (mZ a1);(conv at e=>rhs;simp only [mZ,h0,h1,aQ]);rw [e];exact rt (t1++[.d h1,.c [] (bBu a1  (aV4 h1))]) [] [1,2] hcx (by kernel_rfl)
noncomputable def aBi:=dK [1,1,0,1,0,0] [] (aX Tryz.f5)
def aDy (a0:cC)(a1:Int×Zt×Zt)(a2:Int×Zt×Zt):LS:=⟨jT 92 [],[(.live false true (flat fJ a0))]⟩
def yC (a0:cC)(a1:Int×Zt×Zt)(a2:Int×Zt×Zt):Unit->Bool | () => false
noncomputable def aHl:=dK [1,1,1,1,0,1,0,0] [] (aX Tryz.f5)
def aJv (a0:cC)(a1:Int×Zt×Zt)(a2:Int×Zt×Zt):LS:=⟨jT 92 [],[(.live false true (flat fJ a0))]⟩
def aBj (a0:cC)(a1:Int×Zt×Zt)(a2:Int×Zt×Zt):Unit->Bool | () => false
noncomputable def pD:=dK [1,1,1,1,1,1,1,1,1,0,1,0,0] [] (aX Tryz.f5)
def oB (a0:cC)(a1:Int×Zt×Zt)(a2:Int×Zt×Zt):LS:=⟨jT 92 [],[(.live false true (flat fJ a0))]⟩
def lD (a0:cC)(a1:Int×Zt×Zt)(a2:Int×Zt×Zt):Unit->Bool | () => false
noncomputable def lE:=dK [1,1,1,1,1,1,1,1,1,1,0] [] (aX Tryz.f5)
def kP (a0:cC)(a1:Int×Zt×Zt)(a2:Int×Zt×Zt):LS:=⟨jT 92 [],[(.live false true (flat fJ a0))]⟩
def jN (a0:cC)(a1:Int×Zt×Zt)(a2:Int×Zt×Zt):Unit->Bool | () => true
noncomputable def aHm:=dK [1,1,1,1,1,1,0] [] (aX Tryz.f5)
def aJw (a0:cC)(a1:Int×Zt×Zt)(a2:Int×Zt×Zt):LS:=⟨jT 92 [(0,(.s 0 0 a0.length 10)),(4,(.p 1 0)),(5,(.p 2 0))],[(.live false true (flat fJ a0)),(.live true false (kS2 a1)),(.live true false [(iv a2.1),(iv a1.2.1.1),(iv a1.2.1.2.1),(iv a1.2.1.2.2),(iv a2.2.2.1),(iv a2.2.2.2.1),(iv a2.2.2.2.2)])]⟩
def dY (a0:cC)(a1:Int×Zt×Zt)(a2:Int×Zt×Zt):Unit->Bool | () => (bif (eF a0 a1).2 then(bif (eF a0 (a2.1,a1.2.1,a2.2.2.1,a2.2.2.2.1,a2.2.2.2.2)).2 then(bif (!(F16 (eF a0 a1).1 (eF a0 (a2.1,a1.2.1,a2.2.2.1,a2.2.2.2.1,a2.2.2.2.2)).1))then(lD a0 a1 a2 ())else(bif (((dX a0 a1.2.1 a1.2.2.2.2).2:Int) == 0)then(bif (!(F16 (eF a0 a1).1 (dX a0 a1.2.1 a1.2.2.2.2).1))then(lD a0 a1 a2 ())else(bif (!(F16 (eF a0 (a2.1,a1.2.1,a2.2.2.1,a2.2.2.2.1,a2.2.2.2.2)).1 (dX a0 a1.2.1 a1.2.2.2.2).1))then(lD a0 a1 a2 ())else(jN a0 a1 a2 ())))else(jN a0 a1 a2 ())))else(bif (((dX a0 a1.2.1 a1.2.2.2.2).2:Int) == 0)then(bif (!(F16 (eF a0 a1).1 (dX a0 a1.2.1 a1.2.2.2.2).1))then(lD a0 a1 a2 ())else(jN a0 a1 a2 ()))else(jN a0 a1 a2 ())))else(bif (eF a0 (a2.1,a1.2.1,a2.2.2.1,a2.2.2.2.1,a2.2.2.2.2)).2 then(bif (((dX a0 a1.2.1 a1.2.2.2.2).2:Int) == 0)then(bif (!(F16 (eF a0 (a2.1,a1.2.1,a2.2.2.1,a2.2.2.2.1,a2.2.2.2.2)).1 (dX a0 a1.2.1 a1.2.2.2.2).1))then(lD a0 a1 a2 ())else(jN a0 a1 a2 ()))else(jN a0 a1 a2 ()))else(jN a0 a1 a2 ())))
theorem aN7 (a0:cC)(a1:Int×Zt×Zt)(a2:Int×Zt×Zt)(l0:a0.length<=2^63-1) {cx:Cx} (hcx:cx.base=1):True->gG Tryz.f5 cx (.v (.bool (yC a0 a1 a2 ()))) [] [] (.c aBi.1::aBi.2) (aDy a0 a1 a2):=by
 intro hi;have e:=Eq.refl (yC a0 a1 a2 ());(conv at e=>rhs;simp only [yC]);rw [e];exact rT [] hcx
theorem aVb (a0:cC)(a1:Int×Zt×Zt)(a2:Int×Zt×Zt)(l0:a0.length<=2^63-1) {cx:Cx} (hcx:cx.base=1):True->gG Tryz.f5 cx (.v (.bool (aBj a0 a1 a2 ()))) [] [] (.c aHl.1::aHl.2) (aJv a0 a1 a2):=by
 intro hi;have e:=Eq.refl (aBj a0 a1 a2 ());(conv at e=>rhs;simp only [aBj]);rw [e];exact rT [] hcx
theorem tX (a0:cC)(a1:Int×Zt×Zt)(a2:Int×Zt×Zt)(l0:a0.length<=2^63-1) {cx:Cx} (hcx:cx.base=1):True->gG Tryz.f5 cx (.v (.bool (lD a0 a1 a2 ()))) [] [] (.c pD.1::pD.2) (oB a0 a1 a2):=by
 intro hi;have e:=Eq.refl (lD a0 a1 a2 ());(conv at e=>rhs;simp only [lD]);rw [e];exact rT [] hcx
theorem pE (a0:cC)(a1:Int×Zt×Zt)(a2:Int×Zt×Zt)(l0:a0.length<=2^63-1) {cx:Cx} (hcx:cx.base=1):True->gG Tryz.f5 cx (.v (.bool (jN a0 a1 a2 ()))) [] [] (.c lE.1::lE.2) (kP a0 a1 a2):=by
 intro hi;have e:=Eq.refl (jN a0 a1 a2 ());(conv at e=>rhs;simp only [jN]);rw [e];exact rT [] hcx
theorem aVc (a0:cC)(a1:Int×Zt×Zt)(a2:Int×Zt×Zt)(l0:a0.length<=2^63-1) {cx:Cx} (hcx:cx.base=1):True->gG Tryz.f5 cx (.v (.bool (dY a0 a1 a2 ()))) [] [] (.c aHm.1::aHm.2) (aJw a0 a1 a2):=by
 intro hi;let t0:SL:=[.c [0] (aWo a0 a1 (by omega)),.c [0] (aWo a0 (a2.1,a1.2.1,a2.2.2.1,a2.2.2.2.1,a2.2.2.2.2) (by omega)),.c [0] (aVq a0 a1.2.1 a1.2.2.2.2 (by omega))];cases h0:(eF a0 a1).2
 case true=>
  let t1:SL:=t0++[.d h0];cases h1:(eF a0 (a2.1,a1.2.1,a2.2.2.1,a2.2.2.2.1,a2.2.2.2.2)).2
  case true=>
   let t2:SL:=t1++[.d h1,.c [] (C16 (eF a0 a1).1 (eF a0 (a2.1,a1.2.1,a2.2.2.1,a2.2.2.2.1,a2.2.2.2.2)).1)];cases h2:(!(F16 (eF a0 a1).1 (eF a0 (a2.1,a1.2.1,a2.2.2.1,a2.2.2.2.1,a2.2.2.2.2)).1))
   case true=>have e:=Eq.refl (dY a0 a1 a2 ());(conv at e=>rhs;simp only [dY,h0,h1,h2,aQ]);rw [e];refine gA (t2++[.d h2,.z 13]) [] [] hcx pD (oB a0 a1 a2) ?_;exact tX a0 a1 a2 l0 hcx trivial
   let t3:SL:=t2++[.d h2,.d h0];cases h3:(((dX a0 a1.2.1 a1.2.2.2.2).2:Int) == 0)
   case true=>
    have q3:=eq_of_beq h3;let t4:SL:=t3++[.d h3,.c [] (C16 (eF a0 a1).1 (dX a0 a1.2.1 a1.2.2.2.2).1)];cases h4:(!(F16 (eF a0 a1).1 (dX a0 a1.2.1 a1.2.2.2.2).1))
    case true=>have e:=Eq.refl (dY a0 a1 a2 ());(conv at e=>rhs;simp only [dY,h0,h1,h2,h3,h4,aQ]);rw [e];refine gA (t4++[.d h4,.z 13]) [] [] hcx pD (oB a0 a1 a2) ?_;exact tX a0 a1 a2 l0 hcx trivial
    let t5:SL:=t4++[.d h4,.d h1,.d h3,.c [] (C16 (eF a0 (a2.1,a1.2.1,a2.2.2.1,a2.2.2.2.1,a2.2.2.2.2)).1 (dX a0 a1.2.1 a1.2.2.2.2).1)];cases h5:(!(F16 (eF a0 (a2.1,a1.2.1,a2.2.2.1,a2.2.2.2.1,a2.2.2.2.2)).1 (dX a0 a1.2.1 a1.2.2.2.2).1))
    case true=>have e:=Eq.refl (dY a0 a1 a2 ());(conv at e=>rhs;simp only [dY,h0,h1,h2,h3,h4,h5,aQ]);rw [e];refine gA (t5++[.d h5,.z 13]) [] [] hcx pD (oB a0 a1 a2) ?_;exact tX a0 a1 a2 l0 hcx trivial
    have e:=Eq.refl (dY a0 a1 a2 ());(conv at e=>rhs;simp only [dY,h0,h1,h2,h3,h4,h5,aQ]);rw [e];refine gA (t5++[.d h5,.z 14]) [] [] hcx lE (kP a0 a1 a2) ?_;exact pE a0 a1 a2 l0 hcx trivial
   have q3:=ne_of_beq_false h3;have e:=Eq.refl (dY a0 a1 a2 ());(conv at e=>rhs;simp only [dY,h0,h1,h2,h3,aQ]);rw [e];refine gA (t3++[.d h3,.d h1,.d h3,.z 14]) [] [] hcx lE (kP a0 a1 a2) ?_;exact pE a0 a1 a2 l0 hcx trivial
  let t2:SL:=t1++[.d h1,.d h0];cases h2:(((dX a0 a1.2.1 a1.2.2.2.2).2:Int) == 0)
  case true=>
   have q2:=eq_of_beq h2;let t3:SL:=t2++[.d h2,.c [] (C16 (eF a0 a1).1 (dX a0 a1.2.1 a1.2.2.2.2).1)];cases h3:(!(F16 (eF a0 a1).1 (dX a0 a1.2.1 a1.2.2.2.2).1))
   case true=>have e:=Eq.refl (dY a0 a1 a2 ());(conv at e=>rhs;simp only [dY,h0,h1,h2,h3,aQ]);rw [e];refine gA (t3++[.d h3,.z 13]) [] [] hcx pD (oB a0 a1 a2) ?_;exact tX a0 a1 a2 l0 hcx trivial
   have e:=Eq.refl (dY a0 a1 a2 ());(conv at e=>rhs;simp only [dY,h0,h1,h2,h3,aQ]);rw [e];refine gA (t3++[.d h3,.d h1,.z 14]) [] [] hcx lE (kP a0 a1 a2) ?_;exact pE a0 a1 a2 l0 hcx trivial
  have q2:=ne_of_beq_false h2;have e:=Eq.refl (dY a0 a1 a2 ());(conv at e=>rhs;simp only [dY,h0,h1,h2,aQ]);rw [e];refine gA (t2++[.d h2,.d h1,.z 14]) [] [] hcx lE (kP a0 a1 a2) ?_;exact pE a0 a1 a2 l0 hcx trivial
 let t1:SL:=t0++[.d h0,.d h0];cases h1:(eF a0 (a2.1,a1.2.1,a2.2.2.1,a2.2.2.2.1,a2.2.2.2.2)).2
 case true=>
  let t2:SL:=t1++[.d h1];cases h2:(((dX a0 a1.2.1 a1.2.2.2.2).2:Int) == 0)
  case true=>
   have q2:=eq_of_beq h2;let t3:SL:=t2++[.d h2,.c [] (C16 (eF a0 (a2.1,a1.2.1,a2.2.2.1,a2.2.2.2.1,a2.2.2.2.2)).1 (dX a0 a1.2.1 a1.2.2.2.2).1)];cases h3:(!(F16 (eF a0 (a2.1,a1.2.1,a2.2.2.1,a2.2.2.2.1,a2.2.2.2.2)).1 (dX a0 a1.2.1 a1.2.2.2.2).1))
   case true=>have e:=Eq.refl (dY a0 a1 a2 ());(conv at e=>rhs;simp only [dY,h0,h1,h2,h3,aQ]);rw [e];refine gA (t3++[.d h3,.z 13]) [] [] hcx pD (oB a0 a1 a2) ?_;exact tX a0 a1 a2 l0 hcx trivial
   have e:=Eq.refl (dY a0 a1 a2 ());(conv at e=>rhs;simp only [dY,h0,h1,h2,h3,aQ]);rw [e];refine gA (t3++[.d h3,.z 14]) [] [] hcx lE (kP a0 a1 a2) ?_;exact pE a0 a1 a2 l0 hcx trivial
  have q2:=ne_of_beq_false h2;have e:=Eq.refl (dY a0 a1 a2 ());(conv at e=>rhs;simp only [dY,h0,h1,h2,aQ]);rw [e];refine gA (t2++[.d h2,.z 14]) [] [] hcx lE (kP a0 a1 a2) ?_;exact pE a0 a1 a2 l0 hcx trivial
 have e:=Eq.refl (dY a0 a1 a2 ());(conv at e=>rhs;simp only [dY,h0,h1,aQ]);rw [e];refine gA (t1++[.d h1,.z 14]) [] [] hcx lE (kP a0 a1 a2) ?_;exact pE a0 a1 a2 l0 hcx trivial
def zI (a0:cC)(a1:Int×Zt×Zt)(a2:Int×Zt×Zt):Bool := (bif (((mZ 1).2:Int) != 0)then(yC a0 a1 a2 ())else(bif (((((mZ 1).1.2.length:Nat):Int):Int) != 0)then(yC a0 a1 a2 ())else(bif (zH a0)then true else(bif (!(kB a0 a1))then(aBj a0 a1 a2 ())else(dY a0 a1 a2 ())))))
theorem bDs (a0:cC)(a1:Int×Zt×Zt)(a2:Int×Zt×Zt)(l0:a0.length<=2^63-1):Con Tryz.prog 5 [(.s 0 0 a0.length 10),(.a (kS2 a1)),(.a (kS2 a2))] [(.live false true (flat fJ a0))] (.v (.bool (zI a0 a1 a2))) []:=by
 refine cS Tryz.func5 fun cx hcx=>?_
 let t0:SL:=[.c [] (bBv 1)];cases h0:(((mZ 1).2:Int) != 0)
 case true=>have q0:=bne_iff_ne.1 h0;have e:=Eq.refl (zI a0 a1 a2);(conv at e=>rhs;simp only [zI,h0,aQ]);rw [e];refine gA (t0++[.d h0,.z 3]) [] [] hcx aBi (aDy a0 a1 a2) ?_;exact aN7 a0 a1 a2 l0 hcx trivial
 have q0:=bne_eq_false_iff_eq.1 h0;let t1:SL:=t0++[.d h0];cases h1:(((((mZ 1).1.2.length:Nat):Int):Int) != 0)
 case true=>have q1:=bne_iff_ne.1 h1;have e:=Eq.refl (zI a0 a1 a2);(conv at e=>rhs;simp only [zI,h0,h1,aQ]);rw [e];refine gA (t1++[.d h1,.z 3]) [] [] hcx aBi (aDy a0 a1 a2) ?_;exact aN7 a0 a1 a2 l0 hcx trivial
 have q1:=bne_eq_false_iff_eq.1 h1;let t2:SL:=t1++[.d h1,.c [0] (bBr a0 (by omega))];cases h2:(zH a0)
 case true=>have e:=Eq.refl (zI a0 a1 a2);(conv at e=>rhs;simp only [zI,h0,h1,h2,aQ]);rw [e];exact rT (t2++[.d h2]) hcx
 let t3:SL:=t2++[.d h2,.c [0] (bBs a0 a1 (by omega))];cases h3:(!(kB a0 a1))
 case true=>have e:=Eq.refl (zI a0 a1 a2);(conv at e=>rhs;simp only [zI,h0,h1,h2,h3,aQ]);rw [e];refine gA (t3++[.d h3,.z 7]) [] [] hcx aHl (aJv a0 a1 a2) ?_;exact aVb a0 a1 a2 l0 hcx trivial
 have e:=Eq.refl (zI a0 a1 a2);(conv at e=>rhs;simp only [zI,h0,h1,h2,h3,aQ]);rw [e];refine gA (t3++[.d h3,.z 9]) [0,4,5] [1,2] hcx aHm (aJw a0 a1 a2) ?_;exact aVc a0 a1 a2 l0 hcx trivial
abbrev ASK:=Int×Zt×Zt
abbrev BQ (l:fV)(a:ASK):TR×Int:=aA l a.1
abbrev CQ (l:fV)(a:ASK):ZL×ZL×Int:=aC l ((aA l a.1).1.1,(aA l a.1).1.2) a.2.1 a.2.2.1
theorem aTa {l:fV} {t:TR} {x:Zt} {sep:Int} (h:(aC l t x sep).2.2=0):aC l t x sep=((F50 t x sep).1,(F50 t x sep).2,0):=by
 unfold aC at h ⊢;cases h0:((nI l (t.1,t.2) sep:Int) != 0)
 case true=>rw [h0,cond_true] at h;dsimp only at h;rw [h] at h0;cases h0
 rw [h0,cond_false] at h;rw [cond_false];cases h1:F49 x
 case true=>rfl
 rw [h1] at h;exact absurd (show(1:Int)=0 from h) (by decide)
theorem aTb {l:fV} {t:TR} {x:Zt} {sep:Int} (h:(aC l t x sep).2.2≠0):(aC l t x sep).1=[]/\(aC l t x sep).2.1=[]:=by
 unfold aC at h ⊢;cases h0:((nI l (t.1,t.2) sep:Int) != 0)
 case true=>exact⟨rfl,rfl⟩
 rw [h0,cond_false] at h;rw [cond_false];cases h1:F49 x
 case true=>rw [h1] at h;exact absurd rfl h
 exact⟨rfl,rfl⟩
theorem aY3 {l:fV} {leaf:Int} (x:Zt)(sep:Int)(h:(aA l leaf).2≠0):(aC l ((aA l leaf).1.1,(aA l leaf).1.2) x sep).1=[]/\(aC l ((aA l leaf).1.1,(aA l leaf).1.2) x sep).2.1=[]:=by
 have e:(aA l leaf).1=([],[]):=by
  rw [aDf] at h ⊢;unfold aK2 at h ⊢;cases h0:((oL l:Int) != 0)
  case true=>rfl
  rw [h0,cond_false] at h;rw [cond_false];by_cases h1:leaf < 1
  ·rw [cL h1];rfl
  ·by_cases h2:leaf > 16
   ·rw [cV h1,cond_false,cL h2];rfl
   ·rw [cV h1,cond_false,cV h2,cond_false] at h;exact absurd rfl h
 rw [e];by_cases h2:(aC l (([]:ZL),([]:List NDE)) x sep).2.2=0
 ·rw [aTa h2];exact⟨rfl,rfl⟩
 ·exact aTb h2
theorem aTc {l:ZL} {k u:Int} (h:u<=k):Aw.part l k u=[]:=by
 unfold Aw.part;rw [show tN u - tN k=0 by omega];rfl
theorem aTd {l:fV} {a:ASK}:∀(d n:Nat) (D:ZL) (i k w8 u w10 w11 w12 w13 w14 w15:Int),tN (u - k)=d->d < n->0<=k->u<=(BQ l a).1.1.length ->
 aE (nT l a) n (D,i,k,w8,u,w10,w11,w12,w13,w14,w15)=.inl ((Aw.part (BQ l a).1.1 k u).foldl inc D,i+1)
 | 0,n,D,i,k,w8,u,w10,w11,w12,w13,w14,w15,hd,hn,h0,h1=>by
  obtain⟨n,rfl⟩:∃q,n=q+1:=⟨n - 1,by omega⟩;rw [aTc (by omega)];refine aM ?_;simp only [nT];rw [cV (show ¬k < u by omega)];rfl
 | d+1,n,D,i,k,w8,u,w10,w11,w12,w13,w14,w15,hd,hn,h0,h1=>by
  obtain⟨n,rfl⟩:∃q,n=q+1:=⟨n - 1,by omega⟩;rw [aSl (by omega),List.foldl_cons,←aTd d n (inc D ((BQ l a).1.1.getD (tN k) dF)) i (k+1) w8 u w10 w11 w12 w13 w14 w15 (by omega) (by omega) (by omega) h1];refine aD ?_;simp only [nT];rw [cL (show k < u by omega)];rfl
theorem aN8 {l:fV} {a:ASK} (hN:∀i∈(CQ l a).1,0<=i/\i < (BQ l a).1.2.length)(hK:aR1 (BQ l a).1):∀(d n:Nat) (D:ZL) (i:Nat),(CQ l a).1.length - i=d->i<=(CQ l a).1.length->d < n ->
 aE (iK l a) n (D,(i:Int))=aE (jC l a) (tN ((((CQ l a).2.1.length:Nat):Int) - 0)+1) (((CQ l a).1.drop i).foldl (fun D i=>(prt (BQ l a).1 i).foldl inc D) D,0)
 | 0,n,D,i,hd,hi,hn=>by
  obtain⟨n,rfl⟩:∃q,n=q+1:=⟨n - 1,by omega⟩;rw [List.drop_eq_nil_of_le (by omega)];refine aM ?_;simp only [iK];rw [cV (show ¬(i:Int) < (((CQ l a).1.length:Nat):Int) by omega)];rfl
 | d+1,n,D,i,hd,hi,hn=>by
  obtain⟨n,rfl⟩:∃q,n=q+1:=⟨n - 1,by omega⟩;have h1:i < (CQ l a).1.length:=by omega
  have hg:(CQ l a).1.getD i dF=(CQ l a).1[i]:=by rw [fS,List.getElem?_eq_getElem h1];rfl
  have hm:=hN _ (List.getElem_mem h1);rw [←hg] at hm;have hk:=hK.2.2 (tN ((CQ l a).1.getD i dF)) (by omega);rw [List.drop_eq_getElem_cons h1,List.foldl_cons,←hg,←aN8 hN hK d n ((prt (BQ l a).1 ((CQ l a).1.getD i dF)).foldl inc D) (i+1) (by omega) (by omega) (by omega)];refine aD ?_;simp only [iK,iH];rw [cL (show(i:Int) < (((CQ l a).1.length:Nat):Int) by omega),cond_true,cV (show ¬(CQ l a).1.getD i dF < 0 by omega),cond_false,cV (show ¬(CQ l a).1.getD i dF≥(((BQ l a).1.2.length:Nat):Int) by omega),cond_false];exact aTd _ _ _ _ _ _ _ _ _ _ _ _ _ rfl (lss _) hk.1 hk.2.2
theorem aN9 {l:fV} {a:ASK} (hN:∀i∈(CQ l a).2.1,0<=i/\i < l.length):∀(d n:Nat) (D:ZL) (i:Nat),(CQ l a).2.1.length - i=d->i<=(CQ l a).2.1.length->d < n ->
 aE (jC l a) n (D,(i:Int))=aE (kH l a) (tN ((((((CQ l a).2.1.drop i).foldl inc D).length:Nat):Int) - 0)+1) (((CQ l a).2.1.drop i).foldl inc D,0)
 | 0,n,D,i,hd,hi,hn=>by
  obtain⟨n,rfl⟩:∃q,n=q+1:=⟨n - 1,by omega⟩;rw [List.drop_eq_nil_of_le (by omega)];refine aM ?_;simp only [jC];rw [cV (show ¬(i:Int) < (((CQ l a).2.1.length:Nat):Int) by omega)];rfl
 | d+1,n,D,i,hd,hi,hn=>by
  obtain⟨n,rfl⟩:∃q,n=q+1:=⟨n - 1,by omega⟩;have h1:i < (CQ l a).2.1.length:=by omega
  have hg:(CQ l a).2.1.getD i dF=(CQ l a).2.1[i]:=by rw [fS,List.getElem?_eq_getElem h1];rfl
  have hm:=hN _ (List.getElem_mem h1);rw [←hg] at hm;rw [List.drop_eq_getElem_cons h1,List.foldl_cons,←hg,←aN9 hN d n (inc D ((CQ l a).2.1.getD i dF)) (i+1) (by omega) (by omega) (by omega)];refine aD ?_;simp only [jC,iH];rw [cL (show(i:Int) < (((CQ l a).2.1.length:Nat):Int) by omega),cond_true,cV (show ¬(CQ l a).2.1.getD i dF < 0 by omega),cond_false,cV (show ¬(CQ l a).2.1.getD i dF≥(l.length:Int) by omega),cond_false];rfl
theorem aOa {l:fV} {a:ASK} {D:ZL} (h:∀i,i < D.length->D.getD i dF=1):∀(d n i:Nat),D.length - i=d->i<=D.length->d < n->aE (kH l a) n (D,(i:Int))=true
 | 0,n,i,hd,hi,hn=>by
  obtain⟨n,rfl⟩:∃q,n=q+1:=⟨n - 1,by omega⟩;refine aM ?_;simp only [kH];rw [cV (show ¬(i:Int) < (D.length:Int) by omega),aRm];rfl
 | d+1,n,i,hd,hi,hn=>by
  obtain⟨n,rfl⟩:∃q,n=q+1:=⟨n - 1,by omega⟩;rw [←aOa h d n (i+1) (by omega) (by omega) (by omega)];refine aD ?_;simp only [kH,iH];rw [cL (show(i:Int) < (D.length:Int) by omega),cond_true,h i (by omega)];rfl
theorem aOb {g:Int->ZL}:∀(L D:ZL),L.foldl (fun D i=>(g i).foldl inc D) D=(L.flatMap g).foldl inc D
 | [],_=>rfl
 | i::L,D=>by rw [List.foldl_cons,List.flatMap_cons,List.foldl_append,aOb L]
theorem aLo (l:fV)(a:ASK):kB l a=true:=by
 unfold kB;rw [aRm];cases zH l
 case true=>rfl
 rw [cond_false];cases h1:(((BQ l a).2:Int) != 0)
 case true=>obtain⟨e1,e2⟩:=aY3 a.2.1 a.2.2.1 (bne_iff_ne.1 h1);rw [e1,e2];rfl
 rw [cond_false];cases h2:(((CQ l a).2.2:Int) != 0)
 case true=>obtain⟨e1,e2⟩:=aTb (bne_iff_ne.1 h2);rw [e1,e2];rfl
 rw [cond_false];obtain⟨hv,h3,_,e⟩:=aSj (l:=l) (leaf:=a.1) (bne_eq_false_iff_eq.1 h1);have hl:=hv.1;have hc:=aTa (bne_eq_false_iff_eq.1 h2);have ho:=aG8 hv h3 a.2.1 a.2.2.1;have ho':(∀i∈(CQ l a).1,0<=i/\i < (BQ l a).1.2.length)/\(occ (BQ l a).1 (CQ l a).1 (CQ l a).2.1).Perm (jS l.length):=by
  rw [show CQ l a=_ from hc];rw [←e] at ho;exact ho
 obtain⟨k1,k2⟩:=ho';have hK:aR1 (BQ l a).1:=by rw [show(BQ l a).1=_ from e];exact aA8 l hl h3
 have hP:∀i∈(CQ l a).2.1,0<=i/\i < l.length:=fun i hi=>jK l.length i (k2.mem_iff.1 (List.mem_append_right _ hi))
 have e1:=aN8 k1 hK _ (tN ((((CQ l a).1.length:Nat):Int) - 0)+1) (List.replicate (tN (l.length:Int)) 0) 0 rfl (Nat.zero_le _) (by omega);refine Eq.trans e1 ?_;have e2:=aN9 hP _ (tN ((((CQ l a).2.1.length:Nat):Int) - 0)+1) (((CQ l a).1.drop 0).foldl (fun D i=>(prt (BQ l a).1 i).foldl inc D) (List.replicate (tN (l.length:Int)) 0)) 0 rfl (Nat.zero_le _) (by omega);refine Eq.trans e2 ?_;have hlen:∀L:ZL,(L.foldl inc (List.replicate l.length 0)).length=l.length:=fun L=>by rw [aJr,List.length_replicate]
 have hone:=aSo hl k2;rw [List.drop_zero,List.drop_zero,aOb,←List.foldl_append,iH];have e3:=aOa (l:=l) (a:=a) (D:=(occ (BQ l a).1 (CQ l a).1 (CQ l a).2.1).foldl inc (List.replicate l.length 0)) (fun i hi=>hone i (by rw [hlen] at hi;exact hi)) _ (tN ((((((occ (BQ l a).1 (CQ l a).1 (CQ l a).2.1).foldl inc (List.replicate l.length 0)).length:Nat):Int)) - 0)+1) 0 rfl (Nat.zero_le _) (by omega);exact e3
theorem bBw {a c:Zs} (ha:vs a)(hc:vs c)(h1:a.1<=c.2)(h2:c.1<=a.2):(F13 a c).2.1=true/\(F13 a c).2.2=0:=by
 unfold F13 nH;have e1:rU (a,c).1=true:=aIx (a:=a.1) (b:=a.2) ha.1 ha.2.1 ha.2.2;have e2:rU (a,c).2=true:=aIx (a:=c.1) (b:=c.2) hc.1 hc.2.1 hc.2.2;rw [e1,e2];have g1:=ha.2.1;have g2:=hc.2.1;have h:¬((if(a.1:Int) < c.1 then c.1 else a.1) > (if(c.2:Int) < a.2 then c.2 else a.2)):=by(repeat' split)<;>omega
 simp [h]
end Go.Proofs.YtlffahoikfahlaaGreat
