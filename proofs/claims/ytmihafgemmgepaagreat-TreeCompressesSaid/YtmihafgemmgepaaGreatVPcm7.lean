/-
  Parts of the proofs of the laws: the executor, what functions of the program compute, and that it is what the statements ask. No premise.
-/
import Derived.Test.YtmihafgemmgepaaGreatVPcm6
set_option linter.unusedVariables false
set_option linter.unusedSimpArgs false
set_option maxHeartbeats 4000000
open Int (toNat)
namespace Go.Proofs.YtmihafgemmgepaaGreat
open Go.Proofs Go.Aw Go.RowKit
set_option maxRecDepth 100000
abbrev rI:=Int×Int
abbrev BK5:=Int×Int×Bool
def jL {α σ R:Type} (f:σ->α->σ⊕R):List α->σ->σ⊕R
 | [],v=>.inl v
 | c::l,v=>match f v c with
   | .inl v'=>jL f l v'
   | .inr r=>.inr r
theorem aHo {α σ T R E:Type} [Inhabited R] (pk:σ->Int->T) {S:T->T⊕R} (f:σ->α->σ⊕E)(G:σ->R)(K:E->R) {L:List α}
   (hS:∀(i:Nat) (c:α),L[i]? = some c->∀v,S (pk v (i:Int))=match f v c with | .inl v'=>.inl (pk v' ((i+1:Nat):Int)) | .inr e=>.inr (K e))
   (hE:∀v,S (pk v (L.length:Int))=.inr (G v)) :
   ∀(k:List α) (i n:Nat) (v:σ),L.drop i=k->i<=L.length->k.length < n->aC S n (pk v (i:Int))=Sum.elim G K (jL f k v):=by
 intro k
 induction k with
 | nil =>
   intro i n v hd hi hn
   have:i=L.length:=by have:=List.drop_eq_nil_iff.1 hd;omega
   obtain⟨n,rfl⟩:∃m,n=m+1:=⟨n - 1,by simp only [List.length_nil] at hn;omega⟩
   subst this
   rw [aY (hE v)];rfl
 | cons c k ih =>
   intro i n v hd hi hn
   obtain⟨n,rfl⟩:∃m,n=m+1:=⟨n - 1,by simp only [List.length_cons] at hn;omega⟩
   have hc:L[i]? = some c:=by
     have h:=congrArg List.head? hd
     rw [List.head?_drop,List.head?_cons] at h;exact h
   have hlt:=(List.getElem?_eq_some_iff.1 hc).1
   have hs:=hS i c hc v
   simp only [jL]
   cases hf:f v c with
   | inl v' =>
     rw [hf] at hs
     rw [aE hs]
     exact ih (i+1) n v' (by rw [←List.drop_drop,hd];rfl) (by omega) (by simp only [List.length_cons] at hn;omega)
   | inr e =>
     rw [hf] at hs
     rw [aY hs];rfl
theorem kI {α σ T R E:Type} [Inhabited R] (pk:σ->Int->T) {S:T->T⊕R} (f:σ->α->σ⊕E)(G:σ->R)(K:E->R) {L:List α} {n:Nat} {v:σ}
   (hS:∀(i:Nat) (c:α),L[i]? = some c->∀v,S (pk v (i:Int))=match f v c with | .inl v'=>.inl (pk v' ((i+1:Nat):Int)) | .inr e=>.inr (K e))
   (hE:∀v,S (pk v (L.length:Int))=.inr (G v)) (hn:L.length < n):aC S n (pk v 0)=Sum.elim G K (jL f L v) :=
 aHo pk f G K hS hE L 0 n v rfl (Nat.zero_le _) hn
noncomputable def btw (l:eW)(d i k:Int):rI×Int:=F29 (l.getD (toNat i) default).1 (l.getD (toNat k) default).1 d
noncomputable def aAd (l:eW)(d:Int)(ks:List Int)(v:List rI)(i:Int):List rI⊕Int:=jL (fun v k=>bif ((btw l d i k).2 != 0) then .inr (btw l d i k).2 else .inl (v++[(btw l d i k).1])) ks v
noncomputable def aFo (l:eW)(d:Int)(is ks:List Int)(v:List rI):List rI⊕Int:=jL (aAd l d ks) is v
noncomputable def qE (l:eW)(t:TR)(d:Int)(b:BK5):List rI⊕Int :=
 bif b.2.2 then(bif ((fsV (t.2.getD (toNat b.1) default) (t.2.getD (toNat b.2.1) default)).2 != 0) then .inr (fsV (t.2.getD (toNat b.1) default) (t.2.getD (toNat b.2.1) default)).2 else .inl [(fsV (t.2.getD (toNat b.1) default) (t.2.getD (toNat b.2.1) default)).1])
 else aFo l d (Aw.part t.1 (t.2.getD (toNat b.1) default).1 (t.2.getD (toNat b.1) default).2.1) (Aw.part t.1 (t.2.getD (toNat b.2.1) default).1 (t.2.getD (toNat b.2.1) default).2.1) []
noncomputable def aFp (l:eW)(t:TR)(d:Int)(bs:List BK5):List (List rI)⊕Int:=jL (fun out b=>match qE l t d b with | .inl r=>.inl (out++[r]) | .inr e=>.inr e) bs []
theorem kX {α:Type} [Inhabited α] {L:List α} {i:Nat} {c:α} (h:L[i]? = some c):L.getD (toNat (i:Int)) default=c:=by
 rw [jM,eQ,h];rfl
theorem aJo {L:List Int} {a b:Int} (h0:0<=a) {j:Nat} {c:Int} (h:(Aw.part L a b)[j]? = some c):L.getD (toNat (a+j)) default=c:=by
 unfold Aw.part at h
 have hj:=(List.getElem?_eq_some_iff.1 h).1
 rw [List.length_take] at hj
 rw [List.getElem?_take_of_lt (by omega),List.getElem?_drop] at h
 rw [eQ,show toNat (a+j)=a.toNat+j by omega,h];rfl
section
variable {l : eW} {t : TR} {sep d : Int}
theorem aWi (Q P:List Int)(out:List (List rI))(i b n1 a x0 x1 x2 x3 x4 x5 x6 x7:Int)(v:List rI)(n:Nat)(hn:Q.length < n) :
   aC (fB l t sep d) n (v,P,Q,out,i,b,n1,a,(Q.length:Int),0,x0,x1,x2,x3,x4,x5,x6,x7) =
     Sum.elim (fun v'=>.inl (v',P,out,b,n1,a+1,x0,x1,x2,x3,x4,x5,x6,x7)) (fun e=>.inr (.inr (((([]:List (Int)),[]),[],[]),e))) (aAd l d Q v i):=by
 refine(kI (S:=fB l t sep d) (fun(v:List rI) j=>(v,P,Q,out,i,b,n1,a,(Q.length:Int),j,x0,x1,x2,x3,x4,x5,x6,x7)) (fun v k=>bif ((btw l d i k).2 != 0) then .inr (btw l d i k).2 else .inl (v++[(btw l d i k).1])) (fun v'=>.inl (v',P,out,b,n1,a+1,x0,x1,x2,x3,x4,x5,x6,x7)) (fun e=>.inr (.inr (((([]:List (Int)),[]),[],[]),e))) (L:=Q) ?_ ?_ hn)
 · intro j c hc v
   have hlt:=(List.getElem?_eq_some_iff.1 hc).1
   simp only [fB,aGv]
   rw [cN (by omega),cond_true,kX hc]
   unfold btw
   cases ((F29 (l.getD (toNat i) default).1 (l.getD (toNat c) default).1 d).2 != 0)<;>rfl
 · intro v
   simp only [fB]
   rw [dQ (by omega),cond_false]
theorem aWj (P:List Int)(out:List (List rI))(b x0 x1 x2 x3 x4 x5 x6 x7:Int)(hx:0<=x0/\x0<=x1/\x1<=t.1.length)(v:List rI)(n:Nat)(hn:P.length < n) :
   aC (cE l t sep d) n (v,P,out,b,(P.length:Int),0,x0,x1,x2,x3,x4,x5,x6,x7) =
     Sum.elim (fun v'=>.inl (out++[v'],b+1)) (fun e=>.inr (((([]:List (Int)),[]),[],[]),e)) (aFo l d P (Aw.part t.1 x0 x1) v):=by
 refine(kI (S:=cE l t sep d) (fun(v:List rI) j=>(v,P,out,b,(P.length:Int),j,x0,x1,x2,x3,x4,x5,x6,x7)) (aAd l d (Aw.part t.1 x0 x1)) (fun v'=>.inl (out++[v'],b+1)) (fun e=>.inr (((([]:List (Int)),[]),[],[]),e)) (L:=P) ?_ ?_ hn)
 · intro j c hc v
   have hlt:=(List.getElem?_eq_some_iff.1 hc).1
   have hl:=Aw.part_len hx
   simp only [cE]
   rw [cN (by omega),cond_true,kX hc,←hl]
   rw [aWi (Aw.part t.1 x0 x1) P out c b _ (j:Int) x0 x1 x2 x3 x4 x5 x6 x7 v _ (by omega)]
   cases aAd l d (Aw.part t.1 x0 x1) v c<;>rfl
 · intro v
   simp only [cE]
   rw [dQ (by omega),cond_false]
theorem aWk [dR l] (h:cW l t sep=0):aC (bA l t sep d) (toNat ((((bN (t.1,t.2) sep).length:Nat):Int) - 0)+1) (([]:List (List (Int×Int))),0) =
   Sum.elim (fun out=>((F22 t,bN t sep,out),0)) (fun e=>(((([]:List (Int)),[]),[],[]),e)) (aFp l t d (bN t sep)):=by
 refine(kI (S:=bA l t sep d) (fun(out:List (List rI)) j=>(out,j)) (fun out b=>match qE l t d b with | .inl r=>.inl (out++[r]) | .inr e=>.inr e) (fun out=>((F22 t,bN t sep,out),0)) (fun e=>(((([]:List (Int)),[]),[],[]),e)) (L:=bN t sep) ?_ ?_ (by show _ < toNat ((((bN t sep).length:Nat):Int) - 0)+1;omega))
 · intro j c hc out
   have hlt:=(List.getElem?_eq_some_iff.1 hc).1
   have hbf:=aDz h (j:=(j:Int)) (by omega) (by omega)
   rw [kX hc] at hbf
   obtain⟨_,_,hb3,hb4⟩:=hbf
   have hl:=Aw.part_len hb3
   simp only [bA,aWf]
   rw [show((t.1,t.2):TR)=t from rfl,cN (by omega),cond_true,kX hc]
   unfold qE
   cases c.2.2 with
   | true =>
     simp only [cond_true]
     cases ((fsV (t.2.getD (toNat c.1) default) (t.2.getD (toNat c.2.1) default)).2 != 0)<;>rfl
   | false =>
     simp only [cond_false]
     rw [←hl,aWj _ out (j:Int) _ _ _ _ _ _ _ _ hb4 [] _ (by omega)]
     cases aFo l d (Aw.part t.1 (t.2.getD (toNat c.1) default).1 (t.2.getD (toNat c.1) default).2.1) (Aw.part t.1 (t.2.getD (toNat c.2.1) default).1 (t.2.getD (toNat c.2.1) default).2.1) []<;>rfl
 · intro out
   simp only [bA]
   rw [show((t.1,t.2):TR)=t from rfl,dQ (by omega),cond_false]
theorem pD [dR l]:aF l t sep=(bif ((cW l t sep:Int) != 0) then([],cW l t sep) else(bN t sep,0)):=by
 unfold aF cW
 rw [aFl]
 have ew:rN sep 1 16=F27 sep 1 16:=rfl
 rw [ew]
 cases h0:((gJ l (t.1,t.2):Int) != 0) with
 | true=>simp only [cond_true,h0]
 | false =>
   have hc:=aDv sep (bne_eq_false_iff_eq.1 h0)
   cases h1:F27 sep 1 16 with
   | true =>
     simp only [cond_false,Bool.not_true]
     rw [show((0:Int) != 0)=false from rfl,cond_false]
     exact congrArg (fun q:List BK5=>(q,(0:Int))) hc.symm
   | false=>rfl
theorem aNr [dR l] (h:(aF l t sep).2=0):cW l t sep=0/\(aF l t sep).1=bN t sep:=by
 rw [pD] at h ⊢
 cases hc:((cW l t sep:Int) != 0) with
 | true=>simp only [hc,cond_true] at h;rw [h] at hc;cases hc
 | false=>exact⟨bne_eq_false_iff_eq.1 hc,rfl⟩
theorem aSi [dR l] (h:(aF l t sep).2=0) {j:Int} (h0:0<=j)(h1:j < (((aF l t sep).1.length:Nat):Int)) :
   (0<=((aF l t sep).1.getD (toNat j) default).1/\((aF l t sep).1.getD (toNat j) default).1 < t.2.length) /\
   (0<=((aF l t sep).1.getD (toNat j) default).2.1/\((aF l t sep).1.getD (toNat j) default).2.1 < t.2.length) /\
   (0<=(t.2.getD (toNat ((aF l t sep).1.getD (toNat j) default).1) default).1/\(t.2.getD (toNat ((aF l t sep).1.getD (toNat j) default).1) default).1<=(t.2.getD (toNat ((aF l t sep).1.getD (toNat j) default).1) default).2.1/\(t.2.getD (toNat ((aF l t sep).1.getD (toNat j) default).1) default).2.1<=t.1.length) /\
   (0<=(t.2.getD (toNat ((aF l t sep).1.getD (toNat j) default).2.1) default).1/\(t.2.getD (toNat ((aF l t sep).1.getD (toNat j) default).2.1) default).1<=(t.2.getD (toNat ((aF l t sep).1.getD (toNat j) default).2.1) default).2.1/\(t.2.getD (toNat ((aF l t sep).1.getD (toNat j) default).2.1) default).2.1<=t.1.length):=by
 obtain⟨hc,e⟩:=aNr h
 rw [e] at h1 ⊢
 exact aDz hc h0 h1
end
theorem lN {l:eW} [dR l] {t:TR} {sep:Int} (h:(aF l (t.1,t.2) sep).2=0):cW l (t.1,t.2) sep=0/\(aF l (t.1,t.2) sep).1=bN (t.1,t.2) sep:=aNr (t:=t) h
theorem nD {l:eW} [dR l] {t:TR} {sep:Int} (h:(aF l (t.1,t.2) sep).2=0) {j:Int} (h0:0<=j)(h1:decide (j < (((aF l (t.1,t.2) sep).1.length:Nat):Int))=true) :
 (0<=((aF l (t.1,t.2) sep).1.getD (toNat j) default).1/\((aF l (t.1,t.2) sep).1.getD (toNat j) default).1 < t.2.length) /\
 (0<=((aF l (t.1,t.2) sep).1.getD (toNat j) default).2.1/\((aF l (t.1,t.2) sep).1.getD (toNat j) default).2.1 < t.2.length) /\
 (0<=(t.2.getD (toNat ((aF l (t.1,t.2) sep).1.getD (toNat j) default).1) default).1/\(t.2.getD (toNat ((aF l (t.1,t.2) sep).1.getD (toNat j) default).1) default).1<=(t.2.getD (toNat ((aF l (t.1,t.2) sep).1.getD (toNat j) default).1) default).2.1/\(t.2.getD (toNat ((aF l (t.1,t.2) sep).1.getD (toNat j) default).1) default).2.1<=t.1.length) /\
 (0<=(t.2.getD (toNat ((aF l (t.1,t.2) sep).1.getD (toNat j) default).2.1) default).1/\(t.2.getD (toNat ((aF l (t.1,t.2) sep).1.getD (toNat j) default).2.1) default).1<=(t.2.getD (toNat ((aF l (t.1,t.2) sep).1.getD (toNat j) default).2.1) default).2.1/\(t.2.getD (toNat ((aF l (t.1,t.2) sep).1.getD (toNat j) default).2.1) default).2.1<=t.1.length):=aSi (t:=t) h h0 (cA h1)
noncomputable def aHp:Code:=(aI [1,1,1,1,1,0,1,0,1,0,1,1,1,0,1,0,1,0,1] [0,0] (aL Tryz.f8) []).1
noncomputable def aHq (m0:Nat)(m1:Nat):List K:=(aI [1,1,1,1,1,0,1,0,1,0,1,1,1,0,1,0,1,0,1] [m0,m1] (aL Tryz.f8) []).2
def aD3 (a0:bM)(a1:List (Int)×bE)(a2:Int)(a3:Int)(v89c:List SV)(v89n:Nat)(v90c:List SV)(v90n:Nat)(v91 v92 v93 v94 v95 v96 v97 v98 v99 v100 v101 v102 v103 v104 v105 v106 v107 v108 v109:Int):LS:=⟨iM 146 [(0,(.s 0 0 a0.length 10)),(3,(iv a3)),(5,(.p 3 0)),(8,(.p 4 0)),(10,(.s 5 0 (aF a0 (a1.1,a1.2) a2).1.length 3)),(12,(.p 6 0)),(13,(iv v91)),(14,(.p 7 0)),(15,(.p 8 0)),(16,(.s 9 0 v89n 2)),(19,(iv v92)),(20,(iv v93))],[(.live false true (flat eF a0)),(.live false true (flat c3 a1.1)),(.live false true (flat bT a1.2)),(.live true false [(.s 1 0 a1.1.length 1),(.s 2 0 a1.2.length 8)]),(.live true false [(.v (.slice none 0 0)),(.v (.slice none 0 0)),(.v (.slice none 0 0)),(.v (.slice none 0 0))]),(.live true true (flat dU (aF a0 (a1.1,a1.2) a2).1)),(.live true false [(.s 1 0 a1.1.length 1),(.s 2 0 a1.2.length 8),(.s 5 0 (aF a0 (a1.1,a1.2) a2).1.length 3),(.s 10 0 v90n 1)]),(.live true false [(iv v94),(iv v95),(iv v96),(iv v97),(iv v98),(iv v99),(iv v100),(iv v101)]),(.live true false [(iv v102),(iv v103),(iv v104),(iv v105),(iv v106),(iv v107),(iv v108),(iv v109)]),(.live true true v89c),(.live true true v90c)]⟩
def dN (a0:bM)(a1:List (Int)×bE)(a2:Int)(a3:Int):(List (Int×Int))×(List (List (Int×Int)))×Int×Int×Int×Int×Int×Int×Int×Int×Int×Int×Int×Int×Int×Int×Int×Int×Zt->((List (Int×Int))×(List (List (Int×Int)))×Int×Int×Int×Int×Int×Int×Int×Int×Int×Int×Int×Int×Int×Int×Int×Int×Zt)⊕(((List (Int×Int))×(List (List (Int×Int)))×Int×Int×Int×Int×Int×Int×Int×Int×Int×Int×Int×Int×Int×Int×Int×Zt)⊕(((List (List (Int×Int)))×Int)⊕(Bool×((List (Int)×bE)×(List (Int×Int×Bool))×List (List (Int×Int)))×Int)))
 | (v89,v90,v91,v92,v93,v94,v95,v96,v97,v98,v99,v100,v101,v102,v103,v104,v105,v106,v107,v108,v109) =>
  (bif (decide ((v93:Int) < v103)) then
   (bif (((F29 (a0.getD (toNat (a1.1.getD (toNat v92) default)) default).1 (a0.getD (toNat (a1.1.getD (toNat v93) default)) default).1 a3).2:Int) != 0) then
    (.inr (.inr (.inr (true,(((([]:List (Int)),([]:bE)),([]:List (Int×Int×Bool)),([]:List (List (Int×Int)))),(F29 (a0.getD (toNat (a1.1.getD (toNat v92) default)) default).1 (a0.getD (toNat (a1.1.getD (toNat v93) default)) default).1 a3).2)))))
   else
    (.inl ((v89++[(F29 (a0.getD (toNat (a1.1.getD (toNat v92) default)) default).1 (a0.getD (toNat (a1.1.getD (toNat v93) default)) default).1 a3).1]),v90,v91,v92,(v93+1),v94,v95,v96,v97,v98,v99,v100,v101,v102,v103,v104,v105,v106,v107,v108,v109)))
  else
   (.inr (.inl (v89,v90,v91,(v92+1),v94,v95,v96,v97,v98,v99,v100,v101,v102,v103,v104,v105,v106,v107,v108,v109))))
noncomputable def aAe:Code:=(aI [1,1,1,1,1,0,1,0,1,0,1,1,1,0,1] [0] (aL Tryz.f8) []).1
noncomputable def aAf (m0:Nat):List K:=(aI [1,1,1,1,1,0,1,0,1,0,1,1,1,0,1] [m0] (aL Tryz.f8) []).2
def tF (a0:bM)(a1:List (Int)×bE)(a2:Int)(a3:Int)(v69c:List SV)(v69n:Nat)(v70c:List SV)(v70n:Nat)(v71 v72 v73 v74 v75 v76 v77 v78 v79 v80 v81 v82 v83 v84 v85 v86 v87 v88:Int):LS:=⟨iM 146 [(0,(.s 0 0 a0.length 10)),(3,(iv a3)),(5,(.p 3 0)),(8,(.p 4 0)),(10,(.s 5 0 (aF a0 (a1.1,a1.2) a2).1.length 3)),(12,(.p 6 0)),(13,(iv v71)),(14,(.p 7 0)),(15,(.p 8 0)),(16,(.s 9 0 v69n 2)),(19,(iv v72))],[(.live false true (flat eF a0)),(.live false true (flat c3 a1.1)),(.live false true (flat bT a1.2)),(.live true false [(.s 1 0 a1.1.length 1),(.s 2 0 a1.2.length 8)]),(.live true false [(.v (.slice none 0 0)),(.v (.slice none 0 0)),(.v (.slice none 0 0)),(.v (.slice none 0 0))]),(.live true true (flat dU (aF a0 (a1.1,a1.2) a2).1)),(.live true false [(.s 1 0 a1.1.length 1),(.s 2 0 a1.2.length 8),(.s 5 0 (aF a0 (a1.1,a1.2) a2).1.length 3),(.s 10 0 v70n 1)]),(.live true false [(iv v73),(iv v74),(iv v75),(iv v76),(iv v77),(iv v78),(iv v79),(iv v80)]),(.live true false [(iv v81),(iv v82),(iv v83),(iv v84),(iv v85),(iv v86),(iv v87),(iv v88)]),(.live true true v69c),(.live true true v70c)]⟩
def bD (a0:bM)(a1:List (Int)×bE)(a2:Int)(a3:Int):(List (Int×Int))×(List (List (Int×Int)))×Int×Int×Int×Int×Int×Int×Int×Int×Int×Int×Int×Int×Int×Int×Int×Zt->((List (Int×Int))×(List (List (Int×Int)))×Int×Int×Int×Int×Int×Int×Int×Int×Int×Int×Int×Int×Int×Int×Int×Zt)⊕(((List (List (Int×Int)))×Int)⊕(Bool×((List (Int)×bE)×(List (Int×Int×Bool))×List (List (Int×Int)))×Int))
 | (v69,v70,v71,v72,v73,v74,v75,v76,v77,v78,v79,v80,v81,v82,v83,v84,v85,v86,v87,v88) =>
  (bif (decide ((v72:Int) < v74)) then
   (bif (!((aF a0 (a1.1,a1.2) a2).1.getD (toNat v71) default).2.2) then
    (aC (dN a0 a1 a2 a3) (toNat (v82 - v81)+1) (v69,v70,v71,v72,v81,v73,v74,v75,v76,v77,v78,v79,v80,v81,v82,v83,v84,v85,v86,v87,v88))
   else
    (.inr (.inl ((v70++[v69]),(v71+1)))))
  else
   (.inr (.inl ((v70++[v69]),(v71+1)))))
noncomputable def vD:Code:=(aI [1,1,1,1,1,0,1] [] (aL Tryz.f8) []).1
noncomputable def vE:List K:=(aI [1,1,1,1,1,0,1] [] (aL Tryz.f8) []).2
def pE (a0:bM)(a1:List (Int)×bE)(a2:Int)(a3:Int)(v3c:List SV)(v3n:Nat)(v4:Int):LS:=⟨iM 146 [(0,(.s 0 0 a0.length 10)),(3,(iv a3)),(5,(.p 3 0)),(8,(.p 4 0)),(10,(.s 5 0 (aF a0 (a1.1,a1.2) a2).1.length 3)),(12,(.p 6 0)),(13,(iv v4))],[(.live false true (flat eF a0)),(.live false true (flat c3 a1.1)),(.live false true (flat bT a1.2)),(.live true false [(.s 1 0 a1.1.length 1),(.s 2 0 a1.2.length 8)]),(.live true false [(.v (.slice none 0 0)),(.v (.slice none 0 0)),(.v (.slice none 0 0)),(.v (.slice none 0 0))]),(.live true true (flat dU (aF a0 (a1.1,a1.2) a2).1)),(.live true false [(.s 1 0 a1.1.length 1),(.s 2 0 a1.2.length 8),(.s 5 0 (aF a0 (a1.1,a1.2) a2).1.length 3),(.s 7 0 v3n 1)]),(.live true true v3c)]⟩
def aP (a0:bM)(a1:List (Int)×bE)(a2:Int)(a3:Int):(List (List (Int×Int)))×Int->((List (List (Int×Int)))×Int)⊕(Bool×((List (Int)×bE)×(List (Int×Int×Bool))×List (List (Int×Int)))×Int)
 | (v3,v4) =>
  (bif (decide ((v4:Int) < (((aF a0 (a1.1,a1.2) a2).1.length:Nat):Int))) then
   (bif ((aF a0 (a1.1,a1.2) a2).1.getD (toNat v4) default).2.2 then
    (bif (((F28 (a1.2.getD (toNat ((aF a0 (a1.1,a1.2) a2).1.getD (toNat v4) default).1) default) (a1.2.getD (toNat ((aF a0 (a1.1,a1.2) a2).1.getD (toNat v4) default).2.1) default)).2:Int) != 0) then
     (.inr (true,(((([]:List (Int)),([]:bE)),([]:List (Int×Int×Bool)),([]:List (List (Int×Int)))),(F28 (a1.2.getD (toNat ((aF a0 (a1.1,a1.2) a2).1.getD (toNat v4) default).1) default) (a1.2.getD (toNat ((aF a0 (a1.1,a1.2) a2).1.getD (toNat v4) default).2.1) default)).2)))
    else
     (aC (bD a0 a1 a2 a3) (toNat ((a1.2.getD (toNat ((aF a0 (a1.1,a1.2) a2).1.getD (toNat v4) default).1) default).2.1 - (a1.2.getD (toNat ((aF a0 (a1.1,a1.2) a2).1.getD (toNat v4) default).1) default).1)+1) (([(F28 (a1.2.getD (toNat ((aF a0 (a1.1,a1.2) a2).1.getD (toNat v4) default).1) default) (a1.2.getD (toNat ((aF a0 (a1.1,a1.2) a2).1.getD (toNat v4) default).2.1) default)).1]:List (Int×Int)),v3,v4,(a1.2.getD (toNat ((aF a0 (a1.1,a1.2) a2).1.getD (toNat v4) default).1) default).1,(a1.2.getD (toNat ((aF a0 (a1.1,a1.2) a2).1.getD (toNat v4) default).1) default).1,(a1.2.getD (toNat ((aF a0 (a1.1,a1.2) a2).1.getD (toNat v4) default).1) default).2.1,(a1.2.getD (toNat ((aF a0 (a1.1,a1.2) a2).1.getD (toNat v4) default).1) default).2.2.1,(a1.2.getD (toNat ((aF a0 (a1.1,a1.2) a2).1.getD (toNat v4) default).1) default).2.2.2.1,(a1.2.getD (toNat ((aF a0 (a1.1,a1.2) a2).1.getD (toNat v4) default).1) default).2.2.2.2.1.1,(a1.2.getD (toNat ((aF a0 (a1.1,a1.2) a2).1.getD (toNat v4) default).1) default).2.2.2.2.1.2.1,(a1.2.getD (toNat ((aF a0 (a1.1,a1.2) a2).1.getD (toNat v4) default).1) default).2.2.2.2.1.2.2,(a1.2.getD (toNat ((aF a0 (a1.1,a1.2) a2).1.getD (toNat v4) default).1) default).2.2.2.2.2,(a1.2.getD (toNat ((aF a0 (a1.1,a1.2) a2).1.getD (toNat v4) default).2.1) default).1,(a1.2.getD (toNat ((aF a0 (a1.1,a1.2) a2).1.getD (toNat v4) default).2.1) default).2.1,(a1.2.getD (toNat ((aF a0 (a1.1,a1.2) a2).1.getD (toNat v4) default).2.1) default).2.2.1,(a1.2.getD (toNat ((aF a0 (a1.1,a1.2) a2).1.getD (toNat v4) default).2.1) default).2.2.2.1,(a1.2.getD (toNat ((aF a0 (a1.1,a1.2) a2).1.getD (toNat v4) default).2.1) default).2.2.2.2.1.1,(a1.2.getD (toNat ((aF a0 (a1.1,a1.2) a2).1.getD (toNat v4) default).2.1) default).2.2.2.2.1.2.1,(a1.2.getD (toNat ((aF a0 (a1.1,a1.2) a2).1.getD (toNat v4) default).2.1) default).2.2.2.2.1.2.2,(a1.2.getD (toNat ((aF a0 (a1.1,a1.2) a2).1.getD (toNat v4) default).2.1) default).2.2.2.2.2)))
   else
    (aC (bD a0 a1 a2 a3) (toNat ((a1.2.getD (toNat ((aF a0 (a1.1,a1.2) a2).1.getD (toNat v4) default).1) default).2.1 - (a1.2.getD (toNat ((aF a0 (a1.1,a1.2) a2).1.getD (toNat v4) default).1) default).1)+1) (([]:List (Int×Int)),v3,v4,(a1.2.getD (toNat ((aF a0 (a1.1,a1.2) a2).1.getD (toNat v4) default).1) default).1,(a1.2.getD (toNat ((aF a0 (a1.1,a1.2) a2).1.getD (toNat v4) default).1) default).1,(a1.2.getD (toNat ((aF a0 (a1.1,a1.2) a2).1.getD (toNat v4) default).1) default).2.1,(a1.2.getD (toNat ((aF a0 (a1.1,a1.2) a2).1.getD (toNat v4) default).1) default).2.2.1,(a1.2.getD (toNat ((aF a0 (a1.1,a1.2) a2).1.getD (toNat v4) default).1) default).2.2.2.1,(a1.2.getD (toNat ((aF a0 (a1.1,a1.2) a2).1.getD (toNat v4) default).1) default).2.2.2.2.1.1,(a1.2.getD (toNat ((aF a0 (a1.1,a1.2) a2).1.getD (toNat v4) default).1) default).2.2.2.2.1.2.1,(a1.2.getD (toNat ((aF a0 (a1.1,a1.2) a2).1.getD (toNat v4) default).1) default).2.2.2.2.1.2.2,(a1.2.getD (toNat ((aF a0 (a1.1,a1.2) a2).1.getD (toNat v4) default).1) default).2.2.2.2.2,(a1.2.getD (toNat ((aF a0 (a1.1,a1.2) a2).1.getD (toNat v4) default).2.1) default).1,(a1.2.getD (toNat ((aF a0 (a1.1,a1.2) a2).1.getD (toNat v4) default).2.1) default).2.1,(a1.2.getD (toNat ((aF a0 (a1.1,a1.2) a2).1.getD (toNat v4) default).2.1) default).2.2.1,(a1.2.getD (toNat ((aF a0 (a1.1,a1.2) a2).1.getD (toNat v4) default).2.1) default).2.2.2.1,(a1.2.getD (toNat ((aF a0 (a1.1,a1.2) a2).1.getD (toNat v4) default).2.1) default).2.2.2.2.1.1,(a1.2.getD (toNat ((aF a0 (a1.1,a1.2) a2).1.getD (toNat v4) default).2.1) default).2.2.2.2.1.2.1,(a1.2.getD (toNat ((aF a0 (a1.1,a1.2) a2).1.getD (toNat v4) default).2.1) default).2.2.2.2.1.2.2,(a1.2.getD (toNat ((aF a0 (a1.1,a1.2) a2).1.getD (toNat v4) default).2.1) default).2.2.2.2.2)))
  else
   (.inr (false,(((a1.1,a1.2),(aF a0 (a1.1,a1.2) a2).1,v3),0))))
theorem aSj (a0:bM)(a1:List (Int)×bE)(a2:Int)(a3:Int)(l0:a0.length<=9223372036854775807)(l1_1:a1.1.length<=9223372036854775807)(l1_2:a1.2.length<=9223372036854775807) [h5:dR a0] {cx:Cx} (hcx:cx.base=3)
   (n0:Nat) (g0:∀(v3:List (List (Int×Int))) (v4:Int),(0<=v4)/\((aF a0 (a1.1,a1.2) a2).2=0)/\(v3.length=toNat v4)/\(v4<=(((aF a0 (a1.1,a1.2) a2).1.length:Nat):Int))->toNat ((((aF a0 (a1.1,a1.2) a2).1.length:Nat):Int) - v4) < n0->Aw.Good Tryz.prog none 9 (bodyPost Tryz.prog Tryz.f8 (RR cx (bif (aC (aP a0 a1 a2 a3) n0 (v3,v4)).1 then(.t [(.a [(.s 3 0 (aC (aP a0 a1 a2 a3) n0 (v3,v4)).2.1.1.1.length 1),(.s 4 0 (aC (aP a0 a1 a2 a3) n0 (v3,v4)).2.1.1.2.length 8),(.s 5 0 (aC (aP a0 a1 a2 a3) n0 (v3,v4)).2.1.2.1.length 3),(.s 6 0 (aC (aP a0 a1 a2 a3) n0 (v3,v4)).2.1.2.2.length 1)]),(iv (aC (aP a0 a1 a2 a3) n0 (v3,v4)).2.2)]) else(.t [(.a [(.s 1 0 a1.1.length 1),(.s 2 0 a1.2.length 8),(.s 3 0 (aC (aP a0 a1 a2 a3) n0 (v3,v4)).2.1.2.1.length 3),(.s 4 0 (aC (aP a0 a1 a2 a3) n0 (v3,v4)).2.1.2.2.length 1)]),(iv (aC (aP a0 a1 a2 a3) n0 (v3,v4)).2.2)])) (bif (aC (aP a0 a1 a2 a3) n0 (v3,v4)).1 then [(.live true true (flat c3 (aC (aP a0 a1 a2 a3) n0 (v3,v4)).2.1.1.1)),(.live true true (flat bT (aC (aP a0 a1 a2 a3) n0 (v3,v4)).2.1.1.2)),(.live true true (flat dU (aC (aP a0 a1 a2 a3) n0 (v3,v4)).2.1.2.1)),(.live true true (flat fQ (aC (aP a0 a1 a2 a3) n0 (v3,v4)).2.1.2.2))] else [(.live true true (flat dU (aC (aP a0 a1 a2 a3) n0 (v3,v4)).2.1.2.1)),(.live true true (flat fQ (aC (aP a0 a1 a2 a3) n0 (v3,v4)).2.1.2.2))]) [])) cx [] (.l vD n0::vE) (pE a0 a1 a2 a3 (flat fQ v3) v3.length v4))
   (n1:Nat) (g1:∀(v69:List (Int×Int)) (v70:List (List (Int×Int))) (v71 v72 v73 v74 v75 v76 v77 v78 v79 v80 v81 v82 v83 v84 v85 v86 v87 v88:Int),(0<=v72)/\((aF a0 (a1.1,a1.2) a2).2=0)/\(v70.length=toNat v71)/\(0<=v71)/\(v71 < (((aF a0 (a1.1,a1.2) a2).1.length:Nat):Int))/\(0<=v73)/\(v73<=v74)/\(v74<=a1.1.length)/\(0<=v81)/\(v81<=v82)/\(v82<=a1.1.length)/\(v73<=v72)/\(v72<=v74)/\(v69.length<=1+96*toNat (v72 - v73))/\((0<=v71))/\(((aF a0 (a1.1,a1.2) a2).2=0))/\((v70.length=toNat v71))/\((v71<=(((aF a0 (a1.1,a1.2) a2).1.length:Nat):Int)))/\(v71 < (((aF a0 (a1.1,a1.2) a2).1.length:Nat):Int))/\(toNat ((((aF a0 (a1.1,a1.2) a2).1.length:Nat):Int) - v71) < n0+1)->toNat (v74 - v72) < n1->Aw.Good Tryz.prog none 9 (bodyPost Tryz.prog Tryz.f8 (RR cx (bif (aT (aP a0 a1 a2 a3) n0 (aC (bD a0 a1 a2 a3) n1 (v69,v70,v71,v72,v73,v74,v75,v76,v77,v78,v79,v80,v81,v82,v83,v84,v85,v86,v87,v88))).1 then(.t [(.a [(.s 3 0 (aT (aP a0 a1 a2 a3) n0 (aC (bD a0 a1 a2 a3) n1 (v69,v70,v71,v72,v73,v74,v75,v76,v77,v78,v79,v80,v81,v82,v83,v84,v85,v86,v87,v88))).2.1.1.1.length 1),(.s 4 0 (aT (aP a0 a1 a2 a3) n0 (aC (bD a0 a1 a2 a3) n1 (v69,v70,v71,v72,v73,v74,v75,v76,v77,v78,v79,v80,v81,v82,v83,v84,v85,v86,v87,v88))).2.1.1.2.length 8),(.s 5 0 (aT (aP a0 a1 a2 a3) n0 (aC (bD a0 a1 a2 a3) n1 (v69,v70,v71,v72,v73,v74,v75,v76,v77,v78,v79,v80,v81,v82,v83,v84,v85,v86,v87,v88))).2.1.2.1.length 3),(.s 6 0 (aT (aP a0 a1 a2 a3) n0 (aC (bD a0 a1 a2 a3) n1 (v69,v70,v71,v72,v73,v74,v75,v76,v77,v78,v79,v80,v81,v82,v83,v84,v85,v86,v87,v88))).2.1.2.2.length 1)]),(iv (aT (aP a0 a1 a2 a3) n0 (aC (bD a0 a1 a2 a3) n1 (v69,v70,v71,v72,v73,v74,v75,v76,v77,v78,v79,v80,v81,v82,v83,v84,v85,v86,v87,v88))).2.2)]) else(.t [(.a [(.s 1 0 a1.1.length 1),(.s 2 0 a1.2.length 8),(.s 3 0 (aT (aP a0 a1 a2 a3) n0 (aC (bD a0 a1 a2 a3) n1 (v69,v70,v71,v72,v73,v74,v75,v76,v77,v78,v79,v80,v81,v82,v83,v84,v85,v86,v87,v88))).2.1.2.1.length 3),(.s 4 0 (aT (aP a0 a1 a2 a3) n0 (aC (bD a0 a1 a2 a3) n1 (v69,v70,v71,v72,v73,v74,v75,v76,v77,v78,v79,v80,v81,v82,v83,v84,v85,v86,v87,v88))).2.1.2.2.length 1)]),(iv (aT (aP a0 a1 a2 a3) n0 (aC (bD a0 a1 a2 a3) n1 (v69,v70,v71,v72,v73,v74,v75,v76,v77,v78,v79,v80,v81,v82,v83,v84,v85,v86,v87,v88))).2.2)])) (bif (aT (aP a0 a1 a2 a3) n0 (aC (bD a0 a1 a2 a3) n1 (v69,v70,v71,v72,v73,v74,v75,v76,v77,v78,v79,v80,v81,v82,v83,v84,v85,v86,v87,v88))).1 then [(.live true true (flat c3 (aT (aP a0 a1 a2 a3) n0 (aC (bD a0 a1 a2 a3) n1 (v69,v70,v71,v72,v73,v74,v75,v76,v77,v78,v79,v80,v81,v82,v83,v84,v85,v86,v87,v88))).2.1.1.1)),(.live true true (flat bT (aT (aP a0 a1 a2 a3) n0 (aC (bD a0 a1 a2 a3) n1 (v69,v70,v71,v72,v73,v74,v75,v76,v77,v78,v79,v80,v81,v82,v83,v84,v85,v86,v87,v88))).2.1.1.2)),(.live true true (flat dU (aT (aP a0 a1 a2 a3) n0 (aC (bD a0 a1 a2 a3) n1 (v69,v70,v71,v72,v73,v74,v75,v76,v77,v78,v79,v80,v81,v82,v83,v84,v85,v86,v87,v88))).2.1.2.1)),(.live true true (flat fQ (aT (aP a0 a1 a2 a3) n0 (aC (bD a0 a1 a2 a3) n1 (v69,v70,v71,v72,v73,v74,v75,v76,v77,v78,v79,v80,v81,v82,v83,v84,v85,v86,v87,v88))).2.1.2.2))] else [(.live true true (flat dU (aT (aP a0 a1 a2 a3) n0 (aC (bD a0 a1 a2 a3) n1 (v69,v70,v71,v72,v73,v74,v75,v76,v77,v78,v79,v80,v81,v82,v83,v84,v85,v86,v87,v88))).2.1.2.1)),(.live true true (flat fQ (aT (aP a0 a1 a2 a3) n0 (aC (bD a0 a1 a2 a3) n1 (v69,v70,v71,v72,v73,v74,v75,v76,v77,v78,v79,v80,v81,v82,v83,v84,v85,v86,v87,v88))).2.1.2.2))]) [])) cx [] (.l aAe n1::aAf n0) (tF a0 a1 a2 a3 (flat lG v69) v69.length (flat fQ v70) v70.length v71 v72 v73 v74 v75 v76 v77 v78 v79 v80 v81 v82 v83 v84 v85 v86 v87 v88)):∀(n:Nat) (v89:List (Int×Int)) (v90:List (List (Int×Int))) (v91 v92 v93 v94 v95 v96 v97 v98 v99 v100 v101 v102 v103 v104 v105 v106 v107 v108 v109:Int),(0<=v93)/\((aF a0 (a1.1,a1.2) a2).2=0)/\(v90.length=toNat v91)/\(0<=v91)/\(v91 < (((aF a0 (a1.1,a1.2) a2).1.length:Nat):Int))/\(0<=v94)/\(v94<=v95)/\(v95<=a1.1.length)/\(0<=v102)/\(v102<=v103)/\(v103<=a1.1.length)/\(v94<=v92)/\(v92 < v95)/\(0<=v92)/\(v102<=v93)/\(v93<=v103)/\(v89.length<=1+96*toNat (v92 - v94)+toNat (v93 - v102))/\((0<=v91))/\(((aF a0 (a1.1,a1.2) a2).2=0))/\((v90.length=toNat v91))/\((v91<=(((aF a0 (a1.1,a1.2) a2).1.length:Nat):Int)))/\(v91 < (((aF a0 (a1.1,a1.2) a2).1.length:Nat):Int))/\(toNat ((((aF a0 (a1.1,a1.2) a2).1.length:Nat):Int) - v91) < n0+1)/\((0<=v92))/\(((aF a0 (a1.1,a1.2) a2).2=0))/\((v90.length=toNat v91))/\((0<=v91))/\((v91 < (((aF a0 (a1.1,a1.2) a2).1.length:Nat):Int)))/\((0<=v94))/\((v94<=v95))/\((v95<=a1.1.length))/\((0<=v102))/\((v102<=v103))/\((v103<=a1.1.length))/\((v94<=v92))/\((v92<=v95))/\(v92 < v95)/\(toNat (v95 - v92) < n1+1)->toNat (v103 - v93) < n->Aw.Good Tryz.prog none 9 (bodyPost Tryz.prog Tryz.f8 (RR cx (bif (aT (aP a0 a1 a2 a3) n0 (aT (bD a0 a1 a2 a3) n1 (aC (dN a0 a1 a2 a3) n (v89,v90,v91,v92,v93,v94,v95,v96,v97,v98,v99,v100,v101,v102,v103,v104,v105,v106,v107,v108,v109)))).1 then(.t [(.a [(.s 3 0 (aT (aP a0 a1 a2 a3) n0 (aT (bD a0 a1 a2 a3) n1 (aC (dN a0 a1 a2 a3) n (v89,v90,v91,v92,v93,v94,v95,v96,v97,v98,v99,v100,v101,v102,v103,v104,v105,v106,v107,v108,v109)))).2.1.1.1.length 1),(.s 4 0 (aT (aP a0 a1 a2 a3) n0 (aT (bD a0 a1 a2 a3) n1 (aC (dN a0 a1 a2 a3) n (v89,v90,v91,v92,v93,v94,v95,v96,v97,v98,v99,v100,v101,v102,v103,v104,v105,v106,v107,v108,v109)))).2.1.1.2.length 8),(.s 5 0 (aT (aP a0 a1 a2 a3) n0 (aT (bD a0 a1 a2 a3) n1 (aC (dN a0 a1 a2 a3) n (v89,v90,v91,v92,v93,v94,v95,v96,v97,v98,v99,v100,v101,v102,v103,v104,v105,v106,v107,v108,v109)))).2.1.2.1.length 3),(.s 6 0 (aT (aP a0 a1 a2 a3) n0 (aT (bD a0 a1 a2 a3) n1 (aC (dN a0 a1 a2 a3) n (v89,v90,v91,v92,v93,v94,v95,v96,v97,v98,v99,v100,v101,v102,v103,v104,v105,v106,v107,v108,v109)))).2.1.2.2.length 1)]),(iv (aT (aP a0 a1 a2 a3) n0 (aT (bD a0 a1 a2 a3) n1 (aC (dN a0 a1 a2 a3) n (v89,v90,v91,v92,v93,v94,v95,v96,v97,v98,v99,v100,v101,v102,v103,v104,v105,v106,v107,v108,v109)))).2.2)]) else(.t [(.a [(.s 1 0 a1.1.length 1),(.s 2 0 a1.2.length 8),(.s 3 0 (aT (aP a0 a1 a2 a3) n0 (aT (bD a0 a1 a2 a3) n1 (aC (dN a0 a1 a2 a3) n (v89,v90,v91,v92,v93,v94,v95,v96,v97,v98,v99,v100,v101,v102,v103,v104,v105,v106,v107,v108,v109)))).2.1.2.1.length 3),(.s 4 0 (aT (aP a0 a1 a2 a3) n0 (aT (bD a0 a1 a2 a3) n1 (aC (dN a0 a1 a2 a3) n (v89,v90,v91,v92,v93,v94,v95,v96,v97,v98,v99,v100,v101,v102,v103,v104,v105,v106,v107,v108,v109)))).2.1.2.2.length 1)]),(iv (aT (aP a0 a1 a2 a3) n0 (aT (bD a0 a1 a2 a3) n1 (aC (dN a0 a1 a2 a3) n (v89,v90,v91,v92,v93,v94,v95,v96,v97,v98,v99,v100,v101,v102,v103,v104,v105,v106,v107,v108,v109)))).2.2)])) (bif (aT (aP a0 a1 a2 a3) n0 (aT (bD a0 a1 a2 a3) n1 (aC (dN a0 a1 a2 a3) n (v89,v90,v91,v92,v93,v94,v95,v96,v97,v98,v99,v100,v101,v102,v103,v104,v105,v106,v107,v108,v109)))).1 then [(.live true true (flat c3 (aT (aP a0 a1 a2 a3) n0 (aT (bD a0 a1 a2 a3) n1 (aC (dN a0 a1 a2 a3) n (v89,v90,v91,v92,v93,v94,v95,v96,v97,v98,v99,v100,v101,v102,v103,v104,v105,v106,v107,v108,v109)))).2.1.1.1)),(.live true true (flat bT (aT (aP a0 a1 a2 a3) n0 (aT (bD a0 a1 a2 a3) n1 (aC (dN a0 a1 a2 a3) n (v89,v90,v91,v92,v93,v94,v95,v96,v97,v98,v99,v100,v101,v102,v103,v104,v105,v106,v107,v108,v109)))).2.1.1.2)),(.live true true (flat dU (aT (aP a0 a1 a2 a3) n0 (aT (bD a0 a1 a2 a3) n1 (aC (dN a0 a1 a2 a3) n (v89,v90,v91,v92,v93,v94,v95,v96,v97,v98,v99,v100,v101,v102,v103,v104,v105,v106,v107,v108,v109)))).2.1.2.1)),(.live true true (flat fQ (aT (aP a0 a1 a2 a3) n0 (aT (bD a0 a1 a2 a3) n1 (aC (dN a0 a1 a2 a3) n (v89,v90,v91,v92,v93,v94,v95,v96,v97,v98,v99,v100,v101,v102,v103,v104,v105,v106,v107,v108,v109)))).2.1.2.2))] else [(.live true true (flat dU (aT (aP a0 a1 a2 a3) n0 (aT (bD a0 a1 a2 a3) n1 (aC (dN a0 a1 a2 a3) n (v89,v90,v91,v92,v93,v94,v95,v96,v97,v98,v99,v100,v101,v102,v103,v104,v105,v106,v107,v108,v109)))).2.1.2.1)),(.live true true (flat fQ (aT (aP a0 a1 a2 a3) n0 (aT (bD a0 a1 a2 a3) n1 (aC (dN a0 a1 a2 a3) n (v89,v90,v91,v92,v93,v94,v95,v96,v97,v98,v99,v100,v101,v102,v103,v104,v105,v106,v107,v108,v109)))).2.1.2.2))]) [])) cx [] (.l aHp n::aHq n0 n1) (aD3 a0 a1 a2 a3 (flat lG v89) v89.length (flat fQ v90) v90.length v91 v92 v93 v94 v95 v96 v97 v98 v99 v100 v101 v102 v103 v104 v105 v106 v107 v108 v109):=by
 intro n
 induction n with
 | zero=>intro v89 v90 v91 v92 v93 v94 v95 v96 v97 v98 v99 v100 v101 v102 v103 v104 v105 v106 v107 v108 v109 hi hn;exact absurd hn (eP _)
 | succ n ih =>
   intro v89 v90 v91 v92 v93 v94 v95 v96 v97 v98 v99 v100 v101 v102 v103 v104 v105 v106 v107 v108 v109 hi hn
   refine aQ ?_
   have hk:=lN (l:=a0) (t:=a1) (sep:=a2) hi.2.1
   have hd:=fA (l:=a0) (t:=a1) (sep:=a2) hk.1
   have hkl:=congrArg List.length hk.2
   have hr1:=hd.2.2.2.1.at (i:=toNat v92) (by omega)
   try have hr2:=hd.2.2.2.1.at (i:=toNat v93) (by have _:=h0;omega)
   cases h0:(decide ((v93:Int) < v103)) with
   | true =>
    have q0:=cA h0
    try have hr2:=hd.2.2.2.1.at (i:=toNat v93) (by have _:=h0;omega)
    let t1:List (St Tryz.prog):=[.d h0,.i v92 (a1.1.length),.L aM a1.1 v92 0 1,.i (a1.1.getD (toNat v92) default) (a0.length),.L cJ a0 (a1.1.getD (toNat v92) default) 0 9,.i v93 (a1.1.length),.L aM a1.1 v93 0 1,.i (a1.1.getD (toNat v93) default) (a0.length),.L cJ a0 (a1.1.getD (toNat v93) default) 0 9,.c [] (C29 (a0.getD (toNat (a1.1.getD (toNat v92) default)) default).1 (a0.getD (toNat (a1.1.getD (toNat v93) default)) default).1 a3)]
    cases h1:(((F29 (a0.getD (toNat (a1.1.getD (toNat v92) default)) default).1 (a0.getD (toNat (a1.1.getD (toNat v93) default)) default).1 a3).2:Int) != 0) with
    | true =>
     have q1:=bne_iff_ne.1 h1
     try have hr2:=hd.2.2.2.1.at (i:=toNat v93) (by have _:=h0;omega)
     have e:=Eq.refl (dN a0 a1 a2 a3 (v89,v90,v91,v92,v93,v94,v95,v96,v97,v98,v99,v100,v101,v102,v103,v104,v105,v106,v107,v108,v109));conv at e=>rhs;simp only [dN,h0,h1,aS]
     rw [aN,e]
     exact rt (t1++[.d h1]) [.cell 4 0 1,.cell 4 1 8,.cell 4 2 3,.cell 4 3 1] [12,13,14,15] hcx (by kernel_rfl)
    | false =>
     have q1:=bne_eq_false_iff_eq.1 h1
     try have hr2:=hd.2.2.2.1.at (i:=toNat v93) (by have _:=h0;omega)
     have e:=Eq.refl (dN a0 a1 a2 a3 (v89,v90,v91,v92,v93,v94,v95,v96,v97,v98,v99,v100,v101,v102,v103,v104,v105,v106,v107,v108,v109));conv at e=>rhs;simp only [dN,h0,h1,aS]
     rw [aE e]
     refine ba (t1++[.d h1,.p (show((flat lG v89).length=v89.length*2/\v89.length+1<=2 ^ 40/\(v89.length+1)*16<=2 ^ 47) from gK lH (by omega) (by omega))]) [] [0,3,5,8,10,12,13,14,15,16,19,20] [3,4,5,6,7,8,13,10] hcx (m:=n) aHp (aHq n0 n1) (aD3 a0 a1 a2 a3 (flat lG v89++(k2 (F29 (a0.getD (toNat (a1.1.getD (toNat v92) default)) default).1 (a0.getD (toNat (a1.1.getD (toNat v93) default)) default).1 a3).1)) (v89.length+1) (flat fQ v90) (v90.length) v91 v92 (W (v93+1)) v94 v95 v96 v97 v98 v99 v100 v101 v102 v103 v104 v105 v106 v107 v108 v109) (by kernel_rfl) ?_
     have z0:(W (v93+1))=(v93+1):=aJ (by omega) (by omega)
     have z1:(flat lG v89++(k2 (F29 (a0.getD (toNat (a1.1.getD (toNat v92) default)) default).1 (a0.getD (toNat (a1.1.getD (toNat v93) default)) default).1 a3).1))=(flat lG (v89++[(F29 (a0.getD (toNat (a1.1.getD (toNat v92) default)) default).1 (a0.getD (toNat (a1.1.getD (toNat v93) default)) default).1 a3).1])):=(bL (c:=lG) (l:=v89) (m:=[(F29 (a0.getD (toNat (a1.1.getD (toNat v92) default)) default).1 (a0.getD (toNat (a1.1.getD (toNat v93) default)) default).1 a3).1])).symm
     have z2:(v89.length+1)=(v89++[(F29 (a0.getD (toNat (a1.1.getD (toNat v92) default)) default).1 (a0.getD (toNat (a1.1.getD (toNat v93) default)) default).1 a3).1]).length:=gU v89 [(F29 (a0.getD (toNat (a1.1.getD (toNat v92) default)) default).1 (a0.getD (toNat (a1.1.getD (toNat v93) default)) default).1 a3).1] rfl
     rw [z0,z1,z2]
     exact ih (v89++[(F29 (a0.getD (toNat (a1.1.getD (toNat v92) default)) default).1 (a0.getD (toNat (a1.1.getD (toNat v93) default)) default).1 a3).1]) v90 v91 v92 (v93+1) v94 v95 v96 v97 v98 v99 v100 v101 v102 v103 v104 v105 v106 v107 v108 v109 (by(repeat' apply And.intro)<;>(try simp only [Ls])<;>first | omega | assumption | exact hd.2.2.2.1.part _ _ | exact hi.2.2.2.2.2.2.2.1 | exact hi.2.2.2.2.2.2.2.2.2.2.2.2.1) (by(try simp only [Ls]);omega)
   | false =>
    have q0:=cH h0
    try have hr2:=hd.2.2.2.1.at (i:=toNat v93) (by have _:=h0;omega)
    have e:=Eq.refl (dN a0 a1 a2 a3 (v89,v90,v91,v92,v93,v94,v95,v96,v97,v98,v99,v100,v101,v102,v103,v104,v105,v106,v107,v108,v109));conv at e=>rhs;simp only [dN,h0,aS]
    rw [aN,e]
    refine ba [.d h0] [] [0,3,5,8,10,12,13,14,15,16,19] [3,4,5,6,7,8,9,10] hcx (m:=n1) aAe (aAf n0) (tF a0 a1 a2 a3 (flat lG v89) (v89.length) (flat fQ v90) (v90.length) v91 (W (v92+1)) v94 v95 v96 v97 v98 v99 v100 v101 v102 v103 v104 v105 v106 v107 v108 v109) (by kernel_rfl) ?_
    have z0:(W (v92+1))=(v92+1):=aJ (by omega) (by omega)
    rw [z0]
    exact g1 v89 v90 v91 (v92+1) v94 v95 v96 v97 v98 v99 v100 v101 v102 v103 v104 v105 v106 v107 v108 v109 (by(repeat' apply And.intro)<;>(try simp only [Ls])<;>first | omega | assumption | exact hd.2.2.2.1.part _ _ | exact hi.2.2.2.2.2.2.2.1 | exact hi.2.2.2.2.2.2.2.2.2.2.2.2.1) (by(try simp only [Ls]);omega)
theorem aNs (a0:bM)(a1:List (Int)×bE)(a2:Int)(a3:Int)(l0:a0.length<=9223372036854775807)(l1_1:a1.1.length<=9223372036854775807)(l1_2:a1.2.length<=9223372036854775807) [h5:dR a0] {cx:Cx} (hcx:cx.base=3)
   (n0:Nat) (g0:∀(v3:List (List (Int×Int))) (v4:Int),(0<=v4)/\((aF a0 (a1.1,a1.2) a2).2=0)/\(v3.length=toNat v4)/\(v4<=(((aF a0 (a1.1,a1.2) a2).1.length:Nat):Int))->toNat ((((aF a0 (a1.1,a1.2) a2).1.length:Nat):Int) - v4) < n0->Aw.Good Tryz.prog none 9 (bodyPost Tryz.prog Tryz.f8 (RR cx (bif (aC (aP a0 a1 a2 a3) n0 (v3,v4)).1 then(.t [(.a [(.s 3 0 (aC (aP a0 a1 a2 a3) n0 (v3,v4)).2.1.1.1.length 1),(.s 4 0 (aC (aP a0 a1 a2 a3) n0 (v3,v4)).2.1.1.2.length 8),(.s 5 0 (aC (aP a0 a1 a2 a3) n0 (v3,v4)).2.1.2.1.length 3),(.s 6 0 (aC (aP a0 a1 a2 a3) n0 (v3,v4)).2.1.2.2.length 1)]),(iv (aC (aP a0 a1 a2 a3) n0 (v3,v4)).2.2)]) else(.t [(.a [(.s 1 0 a1.1.length 1),(.s 2 0 a1.2.length 8),(.s 3 0 (aC (aP a0 a1 a2 a3) n0 (v3,v4)).2.1.2.1.length 3),(.s 4 0 (aC (aP a0 a1 a2 a3) n0 (v3,v4)).2.1.2.2.length 1)]),(iv (aC (aP a0 a1 a2 a3) n0 (v3,v4)).2.2)])) (bif (aC (aP a0 a1 a2 a3) n0 (v3,v4)).1 then [(.live true true (flat c3 (aC (aP a0 a1 a2 a3) n0 (v3,v4)).2.1.1.1)),(.live true true (flat bT (aC (aP a0 a1 a2 a3) n0 (v3,v4)).2.1.1.2)),(.live true true (flat dU (aC (aP a0 a1 a2 a3) n0 (v3,v4)).2.1.2.1)),(.live true true (flat fQ (aC (aP a0 a1 a2 a3) n0 (v3,v4)).2.1.2.2))] else [(.live true true (flat dU (aC (aP a0 a1 a2 a3) n0 (v3,v4)).2.1.2.1)),(.live true true (flat fQ (aC (aP a0 a1 a2 a3) n0 (v3,v4)).2.1.2.2))]) [])) cx [] (.l vD n0::vE) (pE a0 a1 a2 a3 (flat fQ v3) v3.length v4)):∀(n:Nat) (v69:List (Int×Int)) (v70:List (List (Int×Int))) (v71 v72 v73 v74 v75 v76 v77 v78 v79 v80 v81 v82 v83 v84 v85 v86 v87 v88:Int),(0<=v72)/\((aF a0 (a1.1,a1.2) a2).2=0)/\(v70.length=toNat v71)/\(0<=v71)/\(v71 < (((aF a0 (a1.1,a1.2) a2).1.length:Nat):Int))/\(0<=v73)/\(v73<=v74)/\(v74<=a1.1.length)/\(0<=v81)/\(v81<=v82)/\(v82<=a1.1.length)/\(v73<=v72)/\(v72<=v74)/\(v69.length<=1+96*toNat (v72 - v73))/\((0<=v71))/\(((aF a0 (a1.1,a1.2) a2).2=0))/\((v70.length=toNat v71))/\((v71<=(((aF a0 (a1.1,a1.2) a2).1.length:Nat):Int)))/\(v71 < (((aF a0 (a1.1,a1.2) a2).1.length:Nat):Int))/\(toNat ((((aF a0 (a1.1,a1.2) a2).1.length:Nat):Int) - v71) < n0+1)->toNat (v74 - v72) < n->Aw.Good Tryz.prog none 9 (bodyPost Tryz.prog Tryz.f8 (RR cx (bif (aT (aP a0 a1 a2 a3) n0 (aC (bD a0 a1 a2 a3) n (v69,v70,v71,v72,v73,v74,v75,v76,v77,v78,v79,v80,v81,v82,v83,v84,v85,v86,v87,v88))).1 then(.t [(.a [(.s 3 0 (aT (aP a0 a1 a2 a3) n0 (aC (bD a0 a1 a2 a3) n (v69,v70,v71,v72,v73,v74,v75,v76,v77,v78,v79,v80,v81,v82,v83,v84,v85,v86,v87,v88))).2.1.1.1.length 1),(.s 4 0 (aT (aP a0 a1 a2 a3) n0 (aC (bD a0 a1 a2 a3) n (v69,v70,v71,v72,v73,v74,v75,v76,v77,v78,v79,v80,v81,v82,v83,v84,v85,v86,v87,v88))).2.1.1.2.length 8),(.s 5 0 (aT (aP a0 a1 a2 a3) n0 (aC (bD a0 a1 a2 a3) n (v69,v70,v71,v72,v73,v74,v75,v76,v77,v78,v79,v80,v81,v82,v83,v84,v85,v86,v87,v88))).2.1.2.1.length 3),(.s 6 0 (aT (aP a0 a1 a2 a3) n0 (aC (bD a0 a1 a2 a3) n (v69,v70,v71,v72,v73,v74,v75,v76,v77,v78,v79,v80,v81,v82,v83,v84,v85,v86,v87,v88))).2.1.2.2.length 1)]),(iv (aT (aP a0 a1 a2 a3) n0 (aC (bD a0 a1 a2 a3) n (v69,v70,v71,v72,v73,v74,v75,v76,v77,v78,v79,v80,v81,v82,v83,v84,v85,v86,v87,v88))).2.2)]) else(.t [(.a [(.s 1 0 a1.1.length 1),(.s 2 0 a1.2.length 8),(.s 3 0 (aT (aP a0 a1 a2 a3) n0 (aC (bD a0 a1 a2 a3) n (v69,v70,v71,v72,v73,v74,v75,v76,v77,v78,v79,v80,v81,v82,v83,v84,v85,v86,v87,v88))).2.1.2.1.length 3),(.s 4 0 (aT (aP a0 a1 a2 a3) n0 (aC (bD a0 a1 a2 a3) n (v69,v70,v71,v72,v73,v74,v75,v76,v77,v78,v79,v80,v81,v82,v83,v84,v85,v86,v87,v88))).2.1.2.2.length 1)]),(iv (aT (aP a0 a1 a2 a3) n0 (aC (bD a0 a1 a2 a3) n (v69,v70,v71,v72,v73,v74,v75,v76,v77,v78,v79,v80,v81,v82,v83,v84,v85,v86,v87,v88))).2.2)])) (bif (aT (aP a0 a1 a2 a3) n0 (aC (bD a0 a1 a2 a3) n (v69,v70,v71,v72,v73,v74,v75,v76,v77,v78,v79,v80,v81,v82,v83,v84,v85,v86,v87,v88))).1 then [(.live true true (flat c3 (aT (aP a0 a1 a2 a3) n0 (aC (bD a0 a1 a2 a3) n (v69,v70,v71,v72,v73,v74,v75,v76,v77,v78,v79,v80,v81,v82,v83,v84,v85,v86,v87,v88))).2.1.1.1)),(.live true true (flat bT (aT (aP a0 a1 a2 a3) n0 (aC (bD a0 a1 a2 a3) n (v69,v70,v71,v72,v73,v74,v75,v76,v77,v78,v79,v80,v81,v82,v83,v84,v85,v86,v87,v88))).2.1.1.2)),(.live true true (flat dU (aT (aP a0 a1 a2 a3) n0 (aC (bD a0 a1 a2 a3) n (v69,v70,v71,v72,v73,v74,v75,v76,v77,v78,v79,v80,v81,v82,v83,v84,v85,v86,v87,v88))).2.1.2.1)),(.live true true (flat fQ (aT (aP a0 a1 a2 a3) n0 (aC (bD a0 a1 a2 a3) n (v69,v70,v71,v72,v73,v74,v75,v76,v77,v78,v79,v80,v81,v82,v83,v84,v85,v86,v87,v88))).2.1.2.2))] else [(.live true true (flat dU (aT (aP a0 a1 a2 a3) n0 (aC (bD a0 a1 a2 a3) n (v69,v70,v71,v72,v73,v74,v75,v76,v77,v78,v79,v80,v81,v82,v83,v84,v85,v86,v87,v88))).2.1.2.1)),(.live true true (flat fQ (aT (aP a0 a1 a2 a3) n0 (aC (bD a0 a1 a2 a3) n (v69,v70,v71,v72,v73,v74,v75,v76,v77,v78,v79,v80,v81,v82,v83,v84,v85,v86,v87,v88))).2.1.2.2))]) [])) cx [] (.l aAe n::aAf n0) (tF a0 a1 a2 a3 (flat lG v69) v69.length (flat fQ v70) v70.length v71 v72 v73 v74 v75 v76 v77 v78 v79 v80 v81 v82 v83 v84 v85 v86 v87 v88):=by
 intro n
 induction n with
 | zero=>intro v69 v70 v71 v72 v73 v74 v75 v76 v77 v78 v79 v80 v81 v82 v83 v84 v85 v86 v87 v88 hi hn;exact absurd hn (eP _)
 | succ n ih =>
   intro v69 v70 v71 v72 v73 v74 v75 v76 v77 v78 v79 v80 v81 v82 v83 v84 v85 v86 v87 v88 hi hn
   refine aQ ?_
   have hk:=lN (l:=a0) (t:=a1) (sep:=a2) hi.2.1
   have hd:=fA (l:=a0) (t:=a1) (sep:=a2) hk.1
   have hkl:=congrArg List.length hk.2
   cases h0:(decide ((v72:Int) < v74)) with
   | true =>
    have q0:=cA h0
    let t1:List (St Tryz.prog):=[.d h0,.i v71 ((aF a0 (a1.1,a1.2) a2).1.length),.L dJ (aF a0 (a1.1,a1.2) a2).1 v71 2 1]
    cases h1:(!((aF a0 (a1.1,a1.2) a2).1.getD (toNat v71) default).2.2) with
    | true =>
     have e:=Eq.refl (bD a0 a1 a2 a3 (v69,v70,v71,v72,v73,v74,v75,v76,v77,v78,v79,v80,v81,v82,v83,v84,v85,v86,v87,v88));conv at e=>rhs;simp only [bD,h0,h1,aS]
     rw [aN,e]
     refine en (t1++[.d h1]) [] [0,3,5,8,10,12,13,14,15,16,19,20] [3,4,5,6,7,8,9,10] hcx aHp (aHq n0 n) (aD3 a0 a1 a2 a3 (flat lG v69) (v69.length) (flat fQ v70) (v70.length) v71 v72 v81 v73 v74 v75 v76 v77 v78 v79 v80 v81 v82 v83 v84 v85 v86 v87 v88) (toNat (v82 - v81)+1) (by kernel_rfl) ?_
     exact aSj a0 a1 a2 a3 l0 l1_1 l1_2 hcx n0 g0 n ih (toNat (v82 - v81)+1) v69 v70 v71 v72 v81 v73 v74 v75 v76 v77 v78 v79 v80 v81 v82 v83 v84 v85 v86 v87 v88 (by(repeat' apply And.intro)<;>(try simp only [Ls])<;>first | omega | assumption | exact hd.2.2.2.1.part _ _ | exact hi.2.2.2.2.2.2.2.1 | exact hi.2.2.2.2.2.2.2.2.2.2.2.2.1) (by(try simp only [Ls]);omega)
    | false =>
     have e:=Eq.refl (bD a0 a1 a2 a3 (v69,v70,v71,v72,v73,v74,v75,v76,v77,v78,v79,v80,v81,v82,v83,v84,v85,v86,v87,v88));conv at e=>rhs;simp only [bD,h0,h1,aS]
     rw [aN,e]
     refine ba (t1++[.d h1,.p (show((flat lG v69)).length=v69.length*2 from by first | (simp [bI lH];done) | rfl),.p (show((flat fQ v70).length=v70.length*1/\v70.length+1<=2 ^ 40/\(v70.length+1)*24<=2 ^ 47) from gK lM (by omega) (by omega))]) [] [0,3,5,8,10,12,13] [3,4,5,6,12] hcx (m:=n0) vD (vE) (pE a0 a1 a2 a3 (flat fQ v70++[(.d (flat lG v69) v69.length 2)]) (v70.length+1) (W (v71+1))) (by kernel_rfl) ?_
     have z0:(W (v71+1))=(v71+1):=aJ (by omega) (by omega)
     have z1:(flat fQ v70++[(.d (flat lG v69) v69.length 2)])=(flat fQ (v70++[v69])):=(bL (c:=fQ) (l:=v70) (m:=[v69])).symm
     have z2:(v70.length+1)=(v70++[v69]).length:=gU v70 [v69] rfl
     rw [z0,z1,z2]
     exact g0 (v70++[v69]) (v71+1) (by(repeat' apply And.intro)<;>(try simp only [Ls])<;>first | omega | assumption | exact hd.2.2.2.1.part _ _ | exact hi.2.2.2.2.2.2.2.1 | exact hi.2.2.2.2.2.2.2.2.2.2.2.2.1) (by(try simp only [Ls]);omega)
   | false =>
    have q0:=cH h0
    have e:=Eq.refl (bD a0 a1 a2 a3 (v69,v70,v71,v72,v73,v74,v75,v76,v77,v78,v79,v80,v81,v82,v83,v84,v85,v86,v87,v88));conv at e=>rhs;simp only [bD,h0,aS]
    rw [aN,e]
    refine ba [.d h0,.p (show((flat lG v69)).length=v69.length*2 from by first | (simp [bI lH];done) | rfl),.p (show((flat fQ v70).length=v70.length*1/\v70.length+1<=2 ^ 40/\(v70.length+1)*24<=2 ^ 47) from gK lM (by omega) (by omega))] [] [0,3,5,8,10,12,13] [3,4,5,6,12] hcx (m:=n0) vD (vE) (pE a0 a1 a2 a3 (flat fQ v70++[(.d (flat lG v69) v69.length 2)]) (v70.length+1) (W (v71+1))) (by kernel_rfl) ?_
    have z0:(W (v71+1))=(v71+1):=aJ (by omega) (by omega)
    have z1:(flat fQ v70++[(.d (flat lG v69) v69.length 2)])=(flat fQ (v70++[v69])):=(bL (c:=fQ) (l:=v70) (m:=[v69])).symm
    have z2:(v70.length+1)=(v70++[v69]).length:=gU v70 [v69] rfl
    rw [z0,z1,z2]
    exact g0 (v70++[v69]) (v71+1) (by(repeat' apply And.intro)<;>(try simp only [Ls])<;>first | omega | assumption | exact hd.2.2.2.1.part _ _ | exact hi.2.2.2.2.2.2.2.1 | exact hi.2.2.2.2.2.2.2.2.2.2.2.2.1) (by(try simp only [Ls]);omega)
theorem aSk (a0:bM)(a1:List (Int)×bE)(a2:Int)(a3:Int)(l0:a0.length<=9223372036854775807)(l1_1:a1.1.length<=9223372036854775807)(l1_2:a1.2.length<=9223372036854775807) [h5:dR a0] {cx:Cx} (hcx:cx.base=3):∀(n:Nat) (v3:List (List (Int×Int))) (v4:Int),(0<=v4)/\((aF a0 (a1.1,a1.2) a2).2=0)/\(v3.length=toNat v4)/\(v4<=(((aF a0 (a1.1,a1.2) a2).1.length:Nat):Int))->toNat ((((aF a0 (a1.1,a1.2) a2).1.length:Nat):Int) - v4) < n->Aw.Good Tryz.prog none 9 (bodyPost Tryz.prog Tryz.f8 (RR cx (bif (aC (aP a0 a1 a2 a3) n (v3,v4)).1 then(.t [(.a [(.s 3 0 (aC (aP a0 a1 a2 a3) n (v3,v4)).2.1.1.1.length 1),(.s 4 0 (aC (aP a0 a1 a2 a3) n (v3,v4)).2.1.1.2.length 8),(.s 5 0 (aC (aP a0 a1 a2 a3) n (v3,v4)).2.1.2.1.length 3),(.s 6 0 (aC (aP a0 a1 a2 a3) n (v3,v4)).2.1.2.2.length 1)]),(iv (aC (aP a0 a1 a2 a3) n (v3,v4)).2.2)]) else(.t [(.a [(.s 1 0 a1.1.length 1),(.s 2 0 a1.2.length 8),(.s 3 0 (aC (aP a0 a1 a2 a3) n (v3,v4)).2.1.2.1.length 3),(.s 4 0 (aC (aP a0 a1 a2 a3) n (v3,v4)).2.1.2.2.length 1)]),(iv (aC (aP a0 a1 a2 a3) n (v3,v4)).2.2)])) (bif (aC (aP a0 a1 a2 a3) n (v3,v4)).1 then [(.live true true (flat c3 (aC (aP a0 a1 a2 a3) n (v3,v4)).2.1.1.1)),(.live true true (flat bT (aC (aP a0 a1 a2 a3) n (v3,v4)).2.1.1.2)),(.live true true (flat dU (aC (aP a0 a1 a2 a3) n (v3,v4)).2.1.2.1)),(.live true true (flat fQ (aC (aP a0 a1 a2 a3) n (v3,v4)).2.1.2.2))] else [(.live true true (flat dU (aC (aP a0 a1 a2 a3) n (v3,v4)).2.1.2.1)),(.live true true (flat fQ (aC (aP a0 a1 a2 a3) n (v3,v4)).2.1.2.2))]) [])) cx [] (.l vD n::vE) (pE a0 a1 a2 a3 (flat fQ v3) v3.length v4):=by
 intro n
 induction n with
 | zero=>intro v3 v4 hi hn;exact absurd hn (eP _)
 | succ n ih =>
   intro v3 v4 hi hn
   refine aQ ?_
   have hk:=lN (l:=a0) (t:=a1) (sep:=a2) hi.2.1
   have hd:=fA (l:=a0) (t:=a1) (sep:=a2) hk.1
   have hkl:=congrArg List.length hk.2
   try have hbf:=nD (l:=a0) (t:=a1) (sep:=a2) hi.2.1 (j:=v4) hi.1 h0
   try have hb1:=hbf.1
   try have hb2:=hbf.2.1
   try have hb3:=hbf.2.2.1
   try have hb4:=hbf.2.2.2
   cases h0:(decide ((v4:Int) < (((aF a0 (a1.1,a1.2) a2).1.length:Nat):Int))) with
   | true =>
    have q0:=cA h0
    try have hbf:=nD (l:=a0) (t:=a1) (sep:=a2) hi.2.1 (j:=v4) hi.1 h0
    let t1:List (St Tryz.prog):=[.d h0,.i v4 ((aF a0 (a1.1,a1.2) a2).1.length),.L dJ (aF a0 (a1.1,a1.2) a2).1 v4 0 1,.i (((aF a0 (a1.1,a1.2) a2).1.getD (toNat v4) default).1) (a1.2.length),.L bJ a1.2 ((aF a0 (a1.1,a1.2) a2).1.getD (toNat v4) default).1 0 8,.i v4 ((aF a0 (a1.1,a1.2) a2).1.length),.L dJ (aF a0 (a1.1,a1.2) a2).1 v4 1 1,.i (((aF a0 (a1.1,a1.2) a2).1.getD (toNat v4) default).2.1) (a1.2.length),.L bJ a1.2 ((aF a0 (a1.1,a1.2) a2).1.getD (toNat v4) default).2.1 0 8,.i v4 ((aF a0 (a1.1,a1.2) a2).1.length),.L dJ (aF a0 (a1.1,a1.2) a2).1 v4 2 1]
    cases h1:((aF a0 (a1.1,a1.2) a2).1.getD (toNat v4) default).2.2 with
    | true =>
     try have hbf:=nD (l:=a0) (t:=a1) (sep:=a2) hi.2.1 (j:=v4) hi.1 h0
     let t2:List (St Tryz.prog):=(t1++[.d h1,.c [] (C28 (a1.2.getD (toNat ((aF a0 (a1.1,a1.2) a2).1.getD (toNat v4) default).1) default) (a1.2.getD (toNat ((aF a0 (a1.1,a1.2) a2).1.getD (toNat v4) default).2.1) default))])
     cases h2:(((F28 (a1.2.getD (toNat ((aF a0 (a1.1,a1.2) a2).1.getD (toNat v4) default).1) default) (a1.2.getD (toNat ((aF a0 (a1.1,a1.2) a2).1.getD (toNat v4) default).2.1) default)).2:Int) != 0) with
     | true =>
      have q2:=bne_iff_ne.1 h2
      try have hbf:=nD (l:=a0) (t:=a1) (sep:=a2) hi.2.1 (j:=v4) hi.1 h0
      have e:=Eq.refl (aP a0 a1 a2 a3 (v3,v4));conv at e=>rhs;simp only [aP,h0,h1,h2,aS]
      rw [aN,e]
      exact rt (t2++[.d h2]) [.cell 4 0 1,.cell 4 1 8,.cell 4 2 3,.cell 4 3 1] [11,12,13,14] hcx (by kernel_rfl)
     | false =>
      have q2:=bne_eq_false_iff_eq.1 h2
      try have hbf:=nD (l:=a0) (t:=a1) (sep:=a2) hi.2.1 (j:=v4) hi.1 h0
      have e:=Eq.refl (aP a0 a1 a2 a3 (v3,v4));conv at e=>rhs;simp only [aP,h0,h1,h2,aS]
      rw [aN,e]
      refine en (t2++[.d h2]) [.sym 12 true] [0,3,5,8,10,12,13,14,15,16,19] [3,4,5,6,8,9,12,7] hcx aAe (aAf n) (tF a0 a1 a2 a3 (flat lG ([(F28 (a1.2.getD (toNat ((aF a0 (a1.1,a1.2) a2).1.getD (toNat v4) default).1) default) (a1.2.getD (toNat ((aF a0 (a1.1,a1.2) a2).1.getD (toNat v4) default).2.1) default)).1]:List (Int×Int))) 1 (flat fQ v3) (v3.length) v4 ((a1.2.getD (toNat ((aF a0 (a1.1,a1.2) a2).1.getD (toNat v4) default).1) default).1) ((a1.2.getD (toNat ((aF a0 (a1.1,a1.2) a2).1.getD (toNat v4) default).1) default).1) ((a1.2.getD (toNat ((aF a0 (a1.1,a1.2) a2).1.getD (toNat v4) default).1) default).2.1) ((a1.2.getD (toNat ((aF a0 (a1.1,a1.2) a2).1.getD (toNat v4) default).1) default).2.2.1) ((a1.2.getD (toNat ((aF a0 (a1.1,a1.2) a2).1.getD (toNat v4) default).1) default).2.2.2.1) ((a1.2.getD (toNat ((aF a0 (a1.1,a1.2) a2).1.getD (toNat v4) default).1) default).2.2.2.2.1.1) ((a1.2.getD (toNat ((aF a0 (a1.1,a1.2) a2).1.getD (toNat v4) default).1) default).2.2.2.2.1.2.1) ((a1.2.getD (toNat ((aF a0 (a1.1,a1.2) a2).1.getD (toNat v4) default).1) default).2.2.2.2.1.2.2) ((a1.2.getD (toNat ((aF a0 (a1.1,a1.2) a2).1.getD (toNat v4) default).1) default).2.2.2.2.2) ((a1.2.getD (toNat ((aF a0 (a1.1,a1.2) a2).1.getD (toNat v4) default).2.1) default).1) ((a1.2.getD (toNat ((aF a0 (a1.1,a1.2) a2).1.getD (toNat v4) default).2.1) default).2.1) ((a1.2.getD (toNat ((aF a0 (a1.1,a1.2) a2).1.getD (toNat v4) default).2.1) default).2.2.1) ((a1.2.getD (toNat ((aF a0 (a1.1,a1.2) a2).1.getD (toNat v4) default).2.1) default).2.2.2.1) ((a1.2.getD (toNat ((aF a0 (a1.1,a1.2) a2).1.getD (toNat v4) default).2.1) default).2.2.2.2.1.1) ((a1.2.getD (toNat ((aF a0 (a1.1,a1.2) a2).1.getD (toNat v4) default).2.1) default).2.2.2.2.1.2.1) ((a1.2.getD (toNat ((aF a0 (a1.1,a1.2) a2).1.getD (toNat v4) default).2.1) default).2.2.2.2.1.2.2) ((a1.2.getD (toNat ((aF a0 (a1.1,a1.2) a2).1.getD (toNat v4) default).2.1) default).2.2.2.2.2)) (toNat ((a1.2.getD (toNat ((aF a0 (a1.1,a1.2) a2).1.getD (toNat v4) default).1) default).2.1 - (a1.2.getD (toNat ((aF a0 (a1.1,a1.2) a2).1.getD (toNat v4) default).1) default).1)+1) (by kernel_rfl) ?_
      exact aNs a0 a1 a2 a3 l0 l1_1 l1_2 hcx n ih (toNat ((a1.2.getD (toNat ((aF a0 (a1.1,a1.2) a2).1.getD (toNat v4) default).1) default).2.1 - (a1.2.getD (toNat ((aF a0 (a1.1,a1.2) a2).1.getD (toNat v4) default).1) default).1)+1) ([(F28 (a1.2.getD (toNat ((aF a0 (a1.1,a1.2) a2).1.getD (toNat v4) default).1) default) (a1.2.getD (toNat ((aF a0 (a1.1,a1.2) a2).1.getD (toNat v4) default).2.1) default)).1]:List (Int×Int)) v3 v4 ((a1.2.getD (toNat ((aF a0 (a1.1,a1.2) a2).1.getD (toNat v4) default).1) default).1) ((a1.2.getD (toNat ((aF a0 (a1.1,a1.2) a2).1.getD (toNat v4) default).1) default).1) ((a1.2.getD (toNat ((aF a0 (a1.1,a1.2) a2).1.getD (toNat v4) default).1) default).2.1) ((a1.2.getD (toNat ((aF a0 (a1.1,a1.2) a2).1.getD (toNat v4) default).1) default).2.2.1) ((a1.2.getD (toNat ((aF a0 (a1.1,a1.2) a2).1.getD (toNat v4) default).1) default).2.2.2.1) ((a1.2.getD (toNat ((aF a0 (a1.1,a1.2) a2).1.getD (toNat v4) default).1) default).2.2.2.2.1.1) ((a1.2.getD (toNat ((aF a0 (a1.1,a1.2) a2).1.getD (toNat v4) default).1) default).2.2.2.2.1.2.1) ((a1.2.getD (toNat ((aF a0 (a1.1,a1.2) a2).1.getD (toNat v4) default).1) default).2.2.2.2.1.2.2) ((a1.2.getD (toNat ((aF a0 (a1.1,a1.2) a2).1.getD (toNat v4) default).1) default).2.2.2.2.2) ((a1.2.getD (toNat ((aF a0 (a1.1,a1.2) a2).1.getD (toNat v4) default).2.1) default).1) ((a1.2.getD (toNat ((aF a0 (a1.1,a1.2) a2).1.getD (toNat v4) default).2.1) default).2.1) ((a1.2.getD (toNat ((aF a0 (a1.1,a1.2) a2).1.getD (toNat v4) default).2.1) default).2.2.1) ((a1.2.getD (toNat ((aF a0 (a1.1,a1.2) a2).1.getD (toNat v4) default).2.1) default).2.2.2.1) ((a1.2.getD (toNat ((aF a0 (a1.1,a1.2) a2).1.getD (toNat v4) default).2.1) default).2.2.2.2.1.1) ((a1.2.getD (toNat ((aF a0 (a1.1,a1.2) a2).1.getD (toNat v4) default).2.1) default).2.2.2.2.1.2.1) ((a1.2.getD (toNat ((aF a0 (a1.1,a1.2) a2).1.getD (toNat v4) default).2.1) default).2.2.2.2.1.2.2) ((a1.2.getD (toNat ((aF a0 (a1.1,a1.2) a2).1.getD (toNat v4) default).2.1) default).2.2.2.2.2) (by(repeat' apply And.intro)<;>(try simp only [Ls])<;>first | omega | assumption | exact hd.2.2.2.1.part _ _ | exact hi.2.2.2.2.2.2.2.1 | exact hi.2.2.2.2.2.2.2.2.2.2.2.2.1) (by(try simp only [Ls]);omega)
    | false =>
     try have hbf:=nD (l:=a0) (t:=a1) (sep:=a2) hi.2.1 (j:=v4) hi.1 h0
     have e:=Eq.refl (aP a0 a1 a2 a3 (v3,v4));conv at e=>rhs;simp only [aP,h0,h1,aS]
     rw [aN,e]
     refine en (t1++[.d h1]) [.slot 16 2] [0,3,5,8,10,12,13,14,15,16,19] [3,4,5,6,8,9,10,7] hcx aAe (aAf n) (tF a0 a1 a2 a3 (flat lG ([]:List (Int×Int))) 0 (flat fQ v3) (v3.length) v4 ((a1.2.getD (toNat ((aF a0 (a1.1,a1.2) a2).1.getD (toNat v4) default).1) default).1) ((a1.2.getD (toNat ((aF a0 (a1.1,a1.2) a2).1.getD (toNat v4) default).1) default).1) ((a1.2.getD (toNat ((aF a0 (a1.1,a1.2) a2).1.getD (toNat v4) default).1) default).2.1) ((a1.2.getD (toNat ((aF a0 (a1.1,a1.2) a2).1.getD (toNat v4) default).1) default).2.2.1) ((a1.2.getD (toNat ((aF a0 (a1.1,a1.2) a2).1.getD (toNat v4) default).1) default).2.2.2.1) ((a1.2.getD (toNat ((aF a0 (a1.1,a1.2) a2).1.getD (toNat v4) default).1) default).2.2.2.2.1.1) ((a1.2.getD (toNat ((aF a0 (a1.1,a1.2) a2).1.getD (toNat v4) default).1) default).2.2.2.2.1.2.1) ((a1.2.getD (toNat ((aF a0 (a1.1,a1.2) a2).1.getD (toNat v4) default).1) default).2.2.2.2.1.2.2) ((a1.2.getD (toNat ((aF a0 (a1.1,a1.2) a2).1.getD (toNat v4) default).1) default).2.2.2.2.2) ((a1.2.getD (toNat ((aF a0 (a1.1,a1.2) a2).1.getD (toNat v4) default).2.1) default).1) ((a1.2.getD (toNat ((aF a0 (a1.1,a1.2) a2).1.getD (toNat v4) default).2.1) default).2.1) ((a1.2.getD (toNat ((aF a0 (a1.1,a1.2) a2).1.getD (toNat v4) default).2.1) default).2.2.1) ((a1.2.getD (toNat ((aF a0 (a1.1,a1.2) a2).1.getD (toNat v4) default).2.1) default).2.2.2.1) ((a1.2.getD (toNat ((aF a0 (a1.1,a1.2) a2).1.getD (toNat v4) default).2.1) default).2.2.2.2.1.1) ((a1.2.getD (toNat ((aF a0 (a1.1,a1.2) a2).1.getD (toNat v4) default).2.1) default).2.2.2.2.1.2.1) ((a1.2.getD (toNat ((aF a0 (a1.1,a1.2) a2).1.getD (toNat v4) default).2.1) default).2.2.2.2.1.2.2) ((a1.2.getD (toNat ((aF a0 (a1.1,a1.2) a2).1.getD (toNat v4) default).2.1) default).2.2.2.2.2)) (toNat ((a1.2.getD (toNat ((aF a0 (a1.1,a1.2) a2).1.getD (toNat v4) default).1) default).2.1 - (a1.2.getD (toNat ((aF a0 (a1.1,a1.2) a2).1.getD (toNat v4) default).1) default).1)+1) (by kernel_rfl) ?_
     exact aNs a0 a1 a2 a3 l0 l1_1 l1_2 hcx n ih (toNat ((a1.2.getD (toNat ((aF a0 (a1.1,a1.2) a2).1.getD (toNat v4) default).1) default).2.1 - (a1.2.getD (toNat ((aF a0 (a1.1,a1.2) a2).1.getD (toNat v4) default).1) default).1)+1) ([]:List (Int×Int)) v3 v4 ((a1.2.getD (toNat ((aF a0 (a1.1,a1.2) a2).1.getD (toNat v4) default).1) default).1) ((a1.2.getD (toNat ((aF a0 (a1.1,a1.2) a2).1.getD (toNat v4) default).1) default).1) ((a1.2.getD (toNat ((aF a0 (a1.1,a1.2) a2).1.getD (toNat v4) default).1) default).2.1) ((a1.2.getD (toNat ((aF a0 (a1.1,a1.2) a2).1.getD (toNat v4) default).1) default).2.2.1) ((a1.2.getD (toNat ((aF a0 (a1.1,a1.2) a2).1.getD (toNat v4) default).1) default).2.2.2.1) ((a1.2.getD (toNat ((aF a0 (a1.1,a1.2) a2).1.getD (toNat v4) default).1) default).2.2.2.2.1.1) ((a1.2.getD (toNat ((aF a0 (a1.1,a1.2) a2).1.getD (toNat v4) default).1) default).2.2.2.2.1.2.1) ((a1.2.getD (toNat ((aF a0 (a1.1,a1.2) a2).1.getD (toNat v4) default).1) default).2.2.2.2.1.2.2) ((a1.2.getD (toNat ((aF a0 (a1.1,a1.2) a2).1.getD (toNat v4) default).1) default).2.2.2.2.2) ((a1.2.getD (toNat ((aF a0 (a1.1,a1.2) a2).1.getD (toNat v4) default).2.1) default).1) ((a1.2.getD (toNat ((aF a0 (a1.1,a1.2) a2).1.getD (toNat v4) default).2.1) default).2.1) ((a1.2.getD (toNat ((aF a0 (a1.1,a1.2) a2).1.getD (toNat v4) default).2.1) default).2.2.1) ((a1.2.getD (toNat ((aF a0 (a1.1,a1.2) a2).1.getD (toNat v4) default).2.1) default).2.2.2.1) ((a1.2.getD (toNat ((aF a0 (a1.1,a1.2) a2).1.getD (toNat v4) default).2.1) default).2.2.2.2.1.1) ((a1.2.getD (toNat ((aF a0 (a1.1,a1.2) a2).1.getD (toNat v4) default).2.1) default).2.2.2.2.1.2.1) ((a1.2.getD (toNat ((aF a0 (a1.1,a1.2) a2).1.getD (toNat v4) default).2.1) default).2.2.2.2.1.2.2) ((a1.2.getD (toNat ((aF a0 (a1.1,a1.2) a2).1.getD (toNat v4) default).2.1) default).2.2.2.2.2) (by(repeat' apply And.intro)<;>(try simp only [Ls])<;>first | omega | assumption | exact hd.2.2.2.1.part _ _ | exact hi.2.2.2.2.2.2.2.1 | exact hi.2.2.2.2.2.2.2.2.2.2.2.2.1) (by(try simp only [Ls]);omega)
   | false =>
    have q0:=cH h0
    try have hbf:=nD (l:=a0) (t:=a1) (sep:=a2) hi.2.1 (j:=v4) hi.1 h0
    have e:=Eq.refl (aP a0 a1 a2 a3 (v3,v4));conv at e=>rhs;simp only [aP,h0,aS]
    rw [aN,e]
    exact rt [.d h0] [] [5,7] hcx (by kernel_rfl)
def bR (a0:bM)(a1:List (Int)×bE)(a2:Int)(a3:Int):Bool×((List (Int)×bE)×(List (Int×Int×Bool))×List (List (Int×Int)))×Int :=
 (bif (((aF a0 (a1.1,a1.2) a2).2:Int) != 0) then
  (true,(((([]:List (Int)),([]:bE)),([]:List (Int×Int×Bool)),([]:List (List (Int×Int)))),(aF a0 (a1.1,a1.2) a2).2))
 else
  (bif (!(F27 a3 0 2)) then
   (true,(((([]:List (Int)),([]:bE)),([]:List (Int×Int×Bool)),([]:List (List (Int×Int)))),1))
  else
   (aC (aP a0 a1 a2 a3) (toNat ((((aF a0 (a1.1,a1.2) a2).1.length:Nat):Int) - 0)+1) (([]:List (List (Int×Int))),0))))
theorem aU8 (a0:bM)(a1:List (Int)×bE)(a2:Int)(a3:Int)(l0:a0.length<=9223372036854775807)(l1_1:a1.1.length<=9223372036854775807)(l1_2:a1.2.length<=9223372036854775807) [h5:dR a0]:Con Tryz.prog 8 [(.s 0 0 a0.length 10),(.a [(.s 1 0 a1.1.length 1),(.s 2 0 a1.2.length 8)]),(iv a2),(iv a3)] [(.live false true (flat eF a0)),(.live false true (flat c3 a1.1)),(.live false true (flat bT a1.2))] (bif (bR a0 a1 a2 a3).1 then(.t [(.a [(.s 3 0 (bR a0 a1 a2 a3).2.1.1.1.length 1),(.s 4 0 (bR a0 a1 a2 a3).2.1.1.2.length 8),(.s 5 0 (bR a0 a1 a2 a3).2.1.2.1.length 3),(.s 6 0 (bR a0 a1 a2 a3).2.1.2.2.length 1)]),(iv (bR a0 a1 a2 a3).2.2)]) else(.t [(.a [(.s 1 0 a1.1.length 1),(.s 2 0 a1.2.length 8),(.s 3 0 (bR a0 a1 a2 a3).2.1.2.1.length 3),(.s 4 0 (bR a0 a1 a2 a3).2.1.2.2.length 1)]),(iv (bR a0 a1 a2 a3).2.2)])) (bif (bR a0 a1 a2 a3).1 then [(.live true true (flat c3 (bR a0 a1 a2 a3).2.1.1.1)),(.live true true (flat bT (bR a0 a1 a2 a3).2.1.1.2)),(.live true true (flat dU (bR a0 a1 a2 a3).2.1.2.1)),(.live true true (flat fQ (bR a0 a1 a2 a3).2.1.2.2))] else [(.live true true (flat dU (bR a0 a1 a2 a3).2.1.2.1)),(.live true true (flat fQ (bR a0 a1 a2 a3).2.1.2.2))]):=by
 refine aO Tryz.func8 (by kernel_rfl) fun cx hcx=>?_
 try have hk:=lN (l:=a0) (t:=a1) (sep:=a2) (bne_eq_false_iff_eq.1 h0)
 let t0:List (St Tryz.prog):=[.c [0,1,2] (aUz a0 (a1.1,a1.2) a2 (by omega) (by(try simp only [Lt]);omega) (by(try simp only [Lt]);omega))]
 cases h0:(((aF a0 (a1.1,a1.2) a2).2:Int) != 0) with
 | true =>
  have q0:=bne_iff_ne.1 h0
  try have hk:=lN (l:=a0) (t:=a1) (sep:=a2) (bne_eq_false_iff_eq.1 h0)
  have e:=Eq.refl (bR a0 a1 a2 a3);conv at e=>rhs;simp only [bR,h0,aS]
  rw [e]
  exact rt (t0++[.d h0]) [.cell 4 0 1,.cell 4 1 8,.cell 4 2 3,.cell 4 3 1] [6,7,8,9] hcx (by kernel_rfl)
 | false =>
  have q0:=bne_eq_false_iff_eq.1 h0
  try have hk:=lN (l:=a0) (t:=a1) (sep:=a2) (bne_eq_false_iff_eq.1 h0)
  let t1:List (St Tryz.prog):=(t0++[.d h0,.c [] (C27 a3 0 2)])
  cases h1:(!(F27 a3 0 2)) with
  | true =>
   try have hk:=lN (l:=a0) (t:=a1) (sep:=a2) (bne_eq_false_iff_eq.1 h0)
   have e:=Eq.refl (bR a0 a1 a2 a3);conv at e=>rhs;simp only [bR,h0,h1,aS]
   rw [e]
   exact rt (t1++[.d h1]) [.cell 4 0 1,.cell 4 1 8,.cell 4 2 3,.cell 4 3 1] [6,7,8,9] hcx (by kernel_rfl)
  | false =>
   try have hk:=lN (l:=a0) (t:=a1) (sep:=a2) (bne_eq_false_iff_eq.1 h0)
   have e:=Eq.refl (bR a0 a1 a2 a3);conv at e=>rhs;simp only [bR,h0,h1,aS]
   rw [e]
   refine en (t1++[.d h1]) [.cell 6 3 1] [0,3,5,8,10,12,13] [3,4,5,6,7] hcx vD (vE) (pE a0 a1 a2 a3 (flat fQ ([]:List (List (Int×Int)))) 0 0) (toNat ((((aF a0 (a1.1,a1.2) a2).1.length:Nat):Int) - 0)+1) (by kernel_rfl) ?_
   exact aSk a0 a1 a2 a3 l0 l1_1 l1_2 hcx (toNat ((((aF a0 (a1.1,a1.2) a2).1.length:Nat):Int) - 0)+1) ([]:List (List (Int×Int))) 0 (by(repeat' apply And.intro)<;>(try simp only [Ls])<;>first | omega | assumption | exact hd.2.2.2.1.part _ _ | exact hi.2.2.2.2.2.2.2.1 | exact hi.2.2.2.2.2.2.2.2.2.2.2.2.1) (by(try simp only [Ls]);omega)
theorem aSl (a0:bM)(a1:List (Int)×bE)(a2:Int)(a3:Int)(l0:a0.length<=9223372036854775807)(l1_1:a1.1.length<=9223372036854775807)(l1_2:a1.2.length<=9223372036854775807) [h5:dR a0] (hw:(bR a0 a1 a2 a3).1=true):Con Tryz.prog 8 [(.s 0 0 a0.length 10),(.a [(.s 1 0 a1.1.length 1),(.s 2 0 a1.2.length 8)]),(iv a2),(iv a3)] [(.live false true (flat eF a0)),(.live false true (flat c3 a1.1)),(.live false true (flat bT a1.2))] (.t [(.a [(.s 3 0 (bR a0 a1 a2 a3).2.1.1.1.length 1),(.s 4 0 (bR a0 a1 a2 a3).2.1.1.2.length 8),(.s 5 0 (bR a0 a1 a2 a3).2.1.2.1.length 3),(.s 6 0 (bR a0 a1 a2 a3).2.1.2.2.length 1)]),(iv (bR a0 a1 a2 a3).2.2)]) [(.live true true (flat c3 (bR a0 a1 a2 a3).2.1.1.1)),(.live true true (flat bT (bR a0 a1 a2 a3).2.1.1.2)),(.live true true (flat dU (bR a0 a1 a2 a3).2.1.2.1)),(.live true true (flat fQ (bR a0 a1 a2 a3).2.1.2.2))]:=by
 have h:=aU8 a0 a1 a2 a3 l0 l1_1 l1_2
 simp only [hw,cond_true] at h
 exact h
theorem aSm (a0:bM)(a1:List (Int)×bE)(a2:Int)(a3:Int)(l0:a0.length<=9223372036854775807)(l1_1:a1.1.length<=9223372036854775807)(l1_2:a1.2.length<=9223372036854775807) [h5:dR a0] (hw:(bR a0 a1 a2 a3).1=false):Con Tryz.prog 8 [(.s 0 0 a0.length 10),(.a [(.s 1 0 a1.1.length 1),(.s 2 0 a1.2.length 8)]),(iv a2),(iv a3)] [(.live false true (flat eF a0)),(.live false true (flat c3 a1.1)),(.live false true (flat bT a1.2))] (.t [(.a [(.s 1 0 a1.1.length 1),(.s 2 0 a1.2.length 8),(.s 3 0 (bR a0 a1 a2 a3).2.1.2.1.length 3),(.s 4 0 (bR a0 a1 a2 a3).2.1.2.2.length 1)]),(iv (bR a0 a1 a2 a3).2.2)]) [(.live true true (flat dU (bR a0 a1 a2 a3).2.1.2.1)),(.live true true (flat fQ (bR a0 a1 a2 a3).2.1.2.2))]:=by
 have h:=aU8 a0 a1 a2 a3 l0 l1_1 l1_2
 simp only [hw,cond_false] at h
 exact h
end Go.Proofs.YtmihafgemmgepaaGreat
namespace Go.Proofs.YtmihafgemmgepaaGreat
open Go.Proofs Go.Aw Go.RowKit
set_option maxRecDepth 100000
section
variable {l : eW} {t : TR} {sep d : Int}
theorem aWl (out:List (List rI))(b p n0 n1 n2 n3 n4 n5 n6 n7 x0 x1 x2 x3 x4 x5 x6 x7:Int)(hx:0<=x0/\x0<=x1/\x1<=t.1.length)(v:List rI)(n:Nat)(hn:toNat (x1 - x0) < n) :
   aC (dN l t sep d) n (v,out,b,p,x0,n0,n1,n2,n3,n4,n5,n6,n7,x0,x1,x2,x3,x4,x5,x6,x7) =
     Sum.elim (fun v'=>.inl (v',out,b,p+1,n0,n1,n2,n3,n4,n5,n6,n7,x0,x1,x2,x3,x4,x5,x6,x7)) (fun e=>.inr (.inr (true,(((([]:List (Int)),[]),[],[]),e)))) (aAd l d (Aw.part t.1 x0 x1) v (t.1.getD (toNat p) default)):=by
 have hl:=Aw.part_len hx
 have key:=kI (S:=dN l t sep d) (fun(v:List rI) j=>(v,out,b,p,x0+j,n0,n1,n2,n3,n4,n5,n6,n7,x0,x1,x2,x3,x4,x5,x6,x7)) (fun v k=>bif ((btw l d (t.1.getD (toNat p) default) k).2 != 0) then .inr (btw l d (t.1.getD (toNat p) default) k).2 else .inl (v++[(btw l d (t.1.getD (toNat p) default) k).1])) (fun v'=>.inl (v',out,b,p+1,n0,n1,n2,n3,n4,n5,n6,n7,x0,x1,x2,x3,x4,x5,x6,x7)) (fun e=>.inr (.inr (true,(((([]:List (Int)),[]),[],[]),e)))) (L:=Aw.part t.1 x0 x1) (n:=n) (v:=v) ?_ ?_ (by omega)
 · simp only [Int.add_zero] at key
   exact key
 · intro j c hc v
   have hlt:=(List.getElem?_eq_some_iff.1 hc).1
   simp only [dN]
   rw [cN (show x0+(j:Int) < x1 by omega),cond_true,aJo hx.1 hc,show x0+(j:Int)+1=x0+((j+1:Nat):Int) from by omega]
   unfold btw
   cases ((F29 (l.getD (toNat (t.1.getD (toNat p) default)) default).1 (l.getD (toNat c) default).1 d).2 != 0)<;>rfl
 · intro v
   simp only [dN]
   rw [dQ (show ¬x0+(((Aw.part t.1 x0 x1).length:Nat):Int) < x1 by omega),cond_false]
theorem aWm (out:List (List rI))(b n0 n1 n2 n3 n4 n5 n6 n7 x0 x1 x2 x3 x4 x5 x6 x7:Int)(hf:((aF l (t.1,t.2) sep).1.getD (toNat b) default).2.2=false)(hy:0<=n0/\n0<=n1/\n1<=t.1.length)(hx:0<=x0/\x0<=x1/\x1<=t.1.length)(v:List rI)(n:Nat)(hn:toNat (n1 - n0) < n) :
   aC (bD l t sep d) n (v,out,b,n0,n0,n1,n2,n3,n4,n5,n6,n7,x0,x1,x2,x3,x4,x5,x6,x7) =
     Sum.elim (fun v'=>.inl (out++[v'],b+1)) (fun e=>.inr (true,(((([]:List (Int)),[]),[],[]),e))) (aFo l d (Aw.part t.1 n0 n1) (Aw.part t.1 x0 x1) v):=by
 have hl:=Aw.part_len hy
 have key:=kI (S:=bD l t sep d) (fun(v:List rI) j=>(v,out,b,n0+j,n0,n1,n2,n3,n4,n5,n6,n7,x0,x1,x2,x3,x4,x5,x6,x7)) (aAd l d (Aw.part t.1 x0 x1)) (fun v'=>.inl (out++[v'],b+1)) (fun e=>.inr (true,(((([]:List (Int)),[]),[],[]),e))) (L:=Aw.part t.1 n0 n1) (n:=n) (v:=v) ?_ ?_ (by omega)
 · simp only [Int.add_zero] at key
   exact key
 · intro j c hc v
   have hlt:=(List.getElem?_eq_some_iff.1 hc).1
   simp only [bD]
   rw [cN (show n0+(j:Int) < n1 by omega),cond_true,hf,Bool.not_false,cond_true,aWl out b (n0+(j:Int)) n0 n1 n2 n3 n4 n5 n6 n7 x0 x1 x2 x3 x4 x5 x6 x7 hx v _ (by omega),aJo hy.1 hc,show n0+(j:Int)+1=n0+((j+1:Nat):Int) from by omega]
   cases aAd l d (Aw.part t.1 x0 x1) v c<;>rfl
 · intro v
   simp only [bD]
   rw [dQ (show ¬n0+(((Aw.part t.1 n0 n1).length:Nat):Int) < n1 by omega),cond_false]
theorem aU9 (out:List (List rI))(b p n0 n1 n2 n3 n4 n5 n6 n7 x0 x1 x2 x3 x4 x5 x6 x7:Int)(hf:((aF l (t.1,t.2) sep).1.getD (toNat b) default).2.2=true)(v:List rI)(n:Nat) :
   aC (bD l t sep d) (n+1) (v,out,b,p,n0,n1,n2,n3,n4,n5,n6,n7,x0,x1,x2,x3,x4,x5,x6,x7)=.inl (out++[v],b+1):=by
 refine aY ?_
 simp only [bD]
 rw [hf]
 cases decide ((p:Int) < n1)<;>rfl
theorem aWn [dR l] (h:cW l t sep=0):aC (aP l t sep d) (toNat ((((aF l (t.1,t.2) sep).1.length:Nat):Int) - 0)+1) (([]:List (List (Int×Int))),0) =
   Sum.elim (fun out=>(false,((t,bN t sep,out),0))) (fun e=>(true,(((([]:List (Int)),[]),[],[]),e))) (aFp l t d (bN t sep)):=by
 have eb:aF l (t.1,t.2) sep=(bN t sep,0):=by
   rw [show((t.1,t.2):TR)=t from rfl,pD,h];rfl
 rw [eb]
 refine(kI (S:=aP l t sep d) (fun(out:List (List rI)) j=>(out,j)) (fun out b=>match qE l t d b with | .inl r=>.inl (out++[r]) | .inr e=>.inr e) (fun out=>(false,((t,bN t sep,out),0))) (fun e=>(true,(((([]:List (Int)),[]),[],[]),e))) (L:=bN t sep) ?_ ?_ (by show _ < toNat ((((bN t sep).length:Nat):Int) - 0)+1;omega))
 · intro j c hc out
   have hlt:=(List.getElem?_eq_some_iff.1 hc).1
   have hbf:=aDz h (j:=(j:Int)) (by omega) (by omega)
   rw [kX hc] at hbf
   obtain⟨_,_,hb3,hb4⟩:=hbf
   have hj:((aF l (t.1,t.2) sep).1.getD (toNat (j:Int)) default).2.2=c.2.2:=by rw [eb];simp only;rw [kX hc]
   simp only [aP,aWg]
   rw [eb]
   simp only
   rw [cN (by omega),cond_true,kX hc]
   unfold qE
   cases hf:c.2.2 with
   | true =>
     rw [hf] at hj
     simp only [cond_true]
     cases ((fsV (t.2.getD (toNat c.1) default) (t.2.getD (toNat c.2.1) default)).2 != 0) with
     | true=>rfl
     | false =>
       simp only [cond_false]
       rw [aU9 _ _ _ _ _ _ _ _ _ _ _ _ _ _ _ _ _ _ _ hj]
       rfl
   | false =>
     rw [hf] at hj
     simp only [cond_false]
     rw [aWm _ _ _ _ _ _ _ _ _ _ _ _ _ _ _ _ _ _ hj hb3 hb4 [] _ (by omega)]
     cases aFo l d (Aw.part t.1 (t.2.getD (toNat c.1) default).1 (t.2.getD (toNat c.1) default).2.1) (Aw.part t.1 (t.2.getD (toNat c.2.1) default).1 (t.2.getD (toNat c.2.1) default).2.1) []<;>rfl
 · intro out
   simp only [aP]
   rw [eb]
   simp only
   rw [dQ (by omega),cond_false]
end
abbrev OPT:=(TR×List BK5×List (List rI))×Int
noncomputable def oG (l:eW)(t:TR)(sep d:Int):Bool×OPT :=
 bif ((cW l t sep:Int) != 0) then(true,((([],[]),[],[]),cW l t sep))
 else bif (!rN d 0 2) then(true,((([],[]),[],[]),1))
 else match aFp l t d (bN t sep) with
   | .inl out=>(false,((t,bN t sep,out),0))
   | .inr e=>(true,((([],[]),[],[]),e))
theorem aNt (l:eW) [dR l] (t:TR)(sep d:Int):cD l t sep d=(oG l t sep d).2:=by
 unfold cD oG
 rw [show((t.1,t.2):TR)=t from rfl]
 cases h0:((cW l t sep:Int) != 0) with
 | true=>rfl
 | false =>
   simp only [cond_false]
   cases rN d 0 2 with
   | false=>rfl
   | true =>
     simp only [Bool.not_true,cond_false]
     rw [show aC (bA l t sep d) (toNat ((((bN t sep).length:Nat):Int) - 0)+1) (([]:List (List (Int×Int))),0)=_ from aWk (bne_eq_false_iff_eq.1 h0)]
     cases aFp l t d (bN t sep)<;>rfl
theorem aNu (l:eW) [dR l] (t:TR)(sep d:Int):bR l t sep d=oG l t sep d:=by
 unfold bR oG
 rw [show F27 d 0 2=rN d 0 2 from rfl]
 cases h0:((cW l t sep:Int) != 0) with
 | true =>
   rw [show aF l (t.1,t.2) sep=([],cW l t sep) from by rw [show((t.1,t.2):TR)=t from rfl,pD,h0];rfl]
   simp only [h0,cond_true]
 | false =>
   have hz:cW l t sep=0:=bne_eq_false_iff_eq.1 h0
   have eb:aF l (t.1,t.2) sep=(bN t sep,0):=by
     rw [show((t.1,t.2):TR)=t from rfl,pD,h0];rfl
   cases hw:rN d 0 2 with
   | false=>rw [eb];rfl
   | true =>
     rw [aWn hz,eb]
     cases aFp l t d (bN t sep)<;>rfl
theorem aJp (l:eW)(d i:Int):∀(ks:List Int) (v v':List rI),aAd l d ks v i=.inl v'->v'.length<=v.length+ks.length
 | [],v,v',h=>by
   unfold aAd jL at h
   cases h;simp
 | k::ks,v,v',h=>by
   unfold aAd at h
   simp only [jL] at h
   cases hb:((btw l d i k).2 != 0) with
   | true=>rw [hb,cond_true] at h;cases h
   | false =>
     rw [hb,cond_false] at h
     have:=aJp l d i ks (v++[(btw l d i k).1]) v' h
     simp only [List.length_append,List.length_cons,List.length_nil] at this ⊢
     omega
theorem aFq (l:eW)(d:Int)(ks:List Int)(hk:ks.length<=96):∀(is:List Int) (v v':List rI),aFo l d is ks v=.inl v'->v'.length<=v.length+96*is.length
 | [],v,v',h=>by
   unfold aFo jL at h
   cases h;simp
 | i::is,v,v',h=>by
   unfold aFo at h
   simp only [jL] at h
   cases hb:aAd l d ks v i with
   | inr e=>rw [hb] at h;cases h
   | inl w =>
     rw [hb] at h
     have h1:=aJp l d i ks v w hb
     have h2:=aFq l d ks hk is w v' h
     simp only [List.length_cons]
     omega
theorem aJq (l:eW)(t:TR)(d:Int)(ht:t.1.length<=96):∀(bs:List BK5) (out out':List (List rI)),(∀r∈out,r.length<=1048576)->jL (fun out b=>match qE l t d b with | .inl r=>.inl (out++[r]) | .inr e=>.inr e) bs out=(.inl out':List (List rI)⊕Int)->∀r∈out',r.length<=1048576
 | [],out,out',ho,h=>by
   unfold jL at h
   cases h;exact ho
 | b::bs,out,out',ho,h=>by
   simp only [jL] at h
   cases hb:qE l t d b with
   | inr e=>rw [hb] at h;cases h
   | inl w =>
     rw [hb] at h
     refine aJq l t d ht bs (out++[w]) out' (fun r hr=>?_) h
     rcases List.mem_append.1 hr with hr | hr
     · exact ho r hr
     · obtain rfl:=List.mem_singleton.1 hr
       unfold qE at hb
       cases hf:b.2.2 with
       | true =>
         rw [hf,cond_true] at hb
         cases he:((fsV (t.2.getD (toNat b.1) default) (t.2.getD (toNat b.2.1) default)).2 != 0) with
         | true=>rw [he,cond_true] at hb;cases hb
         | false=>rw [he,cond_false] at hb;cases hb;simp
       | false =>
         rw [hf,cond_false] at hb
         have hp:∀a c:Int,(Aw.part t.1 a c).length<=96:=fun a c=>by
           unfold Aw.part
           rw [List.length_take,List.length_drop];omega
         have:=aFq l d _ (hp _ _) _ _ _ hb
         have:=hp (t.2.getD (toNat b.1) default).1 (t.2.getD (toNat b.1) default).2.1
         simp only [List.length_nil] at *
         omega
theorem aBh (l:eW) [dR l] (t:TR)(sep d:Int):∀r∈(oG l t sep d).2.1.2.2,r.length<=1048576:=by
 unfold oG
 cases h0:((cW l t sep:Int) != 0) with
 | true=>intro r hr;simp at hr
 | false =>
   cases rN d 0 2 with
   | false=>intro r hr;simp at hr
   | true =>
     simp only [Bool.not_true,cond_false]
     cases ha:aFp l t d (bN t sep) with
     | inr e=>intro r hr;simp at hr
     | inl out =>
       have hd:=aAc (bne_eq_false_iff_eq.1 h0)
       exact aJq l t d (by omega) _ [] out (fun r hr=>by cases hr) ha
theorem aK0 (l:eW)(t:TR)(sep d:Int):((oG l t sep d).1=true->(oG l t sep d).2.1.1=([],[]))/\((oG l t sep d).1=false->(oG l t sep d).2.1.1=t):=by
 unfold oG
 cases h0:((cW l t sep:Int) != 0) with
 | true=>exact⟨fun _=>rfl,fun h=>by cases h⟩
 | false =>
   cases rN d 0 2 with
   | false=>exact⟨fun _=>rfl,fun h=>by cases h⟩
   | true =>
     simp only [Bool.not_true,cond_false]
     cases aFp l t d (bN t sep) with
     | inr e=>exact⟨fun _=>rfl,fun h=>by cases h⟩
     | inl out=>exact⟨fun h=>(by cases h),fun _=>rfl⟩
theorem aJr (l:eW) [dR l] (t:TR)(sep d:Int):∀r∈(cD l t sep d).1.2.2,r.length<=1048576:=by rw [aNt];exact aBh l t sep d
theorem aJs (l:eW) [dR l] (t:TR)(sep d:Int):∀r∈(bR l t sep d).2.1.2.2,r.length<=1048576:=by rw [aNu];exact aBh l t sep d
theorem aFr (l:eW)(t:TR)(d:Int):∀(bs:List BK5) (out out':List (List rI)),jL (fun out b=>match qE l t d b with | .inl r=>.inl (out++[r]) | .inr e=>.inr e) bs out=(.inl out':List (List rI)⊕Int)->out'.length=out.length+bs.length
 | [],out,out',h=>by
   unfold jL at h
   cases h;simp
 | b::bs,out,out',h=>by
   simp only [jL] at h
   cases hb:qE l t d b with
   | inr e=>rw [hb] at h;cases h
   | inl w =>
     rw [hb] at h
     have:=aFr l t d bs (out++[w]) out' h
     simp only [List.length_append,List.length_cons,List.length_nil] at this ⊢
     omega
theorem aFs (l:eW) [dR l] (t:TR)(sep d:Int)(h1:t.1.length<=96)(h2:t.2.length<=192):(oG l t sep d).2.1.1.1.length<=9216/\(oG l t sep d).2.1.1.2.length<=9216/\(oG l t sep d).2.1.2.1.length<=9216/\(oG l t sep d).2.1.2.2.length<=9216:=by
 unfold oG
 cases h0:((cW l t sep:Int) != 0) with
 | true=>exact⟨Nat.zero_le _,Nat.zero_le _,Nat.zero_le _,Nat.zero_le _⟩
 | false =>
   cases rN d 0 2 with
   | false=>exact⟨Nat.zero_le _,Nat.zero_le _,Nat.zero_le _,Nat.zero_le _⟩
   | true =>
     simp only [Bool.not_true,cond_false]
     cases ha:aFp l t d (bN t sep) with
     | inr e=>exact⟨Nat.zero_le _,Nat.zero_le _,Nat.zero_le _,Nat.zero_le _⟩
     | inl out =>
       have hd:=aAc (bne_eq_false_iff_eq.1 h0)
       have:=aFr l t d _ [] out ha
       simp only [List.length_nil] at this
       simp only
       omega
theorem eD (l:eW) [dR l] (t:TR)(sep d:Int)(h1:t.1.length<=96)(h2:t.2.length<=192):(cD l t sep d).1.1.1.length<=9216/\(cD l t sep d).1.1.2.length<=9216/\(cD l t sep d).1.2.1.length<=9216/\(cD l t sep d).1.2.2.length<=9216:=by rw [aNt];exact aFs l t sep d h1 h2
theorem eE (l:eW) [dR l] (t:TR)(sep d:Int)(h1:t.1.length<=96)(h2:t.2.length<=192):(bR l t sep d).2.1.1.1.length<=9216/\(bR l t sep d).2.1.1.2.length<=9216/\(bR l t sep d).2.1.2.1.length<=9216/\(bR l t sep d).2.1.2.2.length<=9216:=by rw [aNu];exact aFs l t sep d h1 h2
end Go.Proofs.YtmihafgemmgepaaGreat
namespace Go.Proofs.YtmihafgemmgepaaGreat
open Go.Proofs Go.Aw Go.RowKit
set_option maxRecDepth 100000
noncomputable def vF:Code:=(aI [1,1,0,1] [] (aL Tryz.f31) []).1
noncomputable def vG:List K:=(aI [1,1,0,1] [] (aL Tryz.f31) []).2
def rJ (a0:List (Int×Int))(a1:List (Int×Int))(v1:Int):LS:=⟨iM 26 [(0,(.s 0 0 a0.length 2)),(1,(.s 1 0 a1.length 2)),(5,(iv v1))],[(.live false true (flat lG a0)),(.live false true (flat lG a1))]⟩
def fN (a0:List (Int×Int))(a1:List (Int×Int)):Int->(Int)⊕(Bool)
 | v1 =>
  (bif (decide ((v1:Int) < (a0.length:Int))) then
   (bif (!((((a0.getD (toNat v1) default).1:Int) == (a1.getD (toNat v1) default).1)&&((((a0.getD (toNat v1) default).2:Int) == (a1.getD (toNat v1) default).2)&&true))) then
    (.inr false)
   else
    (.inl (v1+1)))
  else
   (.inr true))
theorem aK1 (a0:List (Int×Int))(a1:List (Int×Int))(l0:a0.length<=9223372036854775807)(l1:a1.length<=9223372036854775807) {cx:Cx} (hcx:cx.base=2):∀(n:Nat) (v1:Int),(0<=v1)/\(a0.length=a1.length)->toNat ((a0.length:Int) - v1) < n->Aw.Good Tryz.prog none 9 (bodyPost Tryz.prog Tryz.f31 (RR cx (.v (.bool (aC (fN a0 a1) n v1))) [] [])) cx [] (.l vF n::vG) (rJ a0 a1 v1):=by
 intro n
 induction n with
 | zero=>intro v1 hi hn;exact absurd hn (eP _)
 | succ n ih =>
   intro v1 hi hn
   refine aQ ?_
   cases h0:(decide ((v1:Int) < (a0.length:Int))) with
   | true =>
    have q0:=cA h0
    let t1:List (St Tryz.prog):=[.d h0,.i v1 (a0.length),.L lH a0 v1 0 2,.i v1 (a1.length),.L lH a1 v1 0 2]
    cases h1:(!((((a0.getD (toNat v1) default).1:Int) == (a1.getD (toNat v1) default).1)&&((((a0.getD (toNat v1) default).2:Int) == (a1.getD (toNat v1) default).2)&&true))) with
    | true =>
     have e:=Eq.refl (fN a0 a1 v1);conv at e=>rhs;simp only [fN,h0,h1,aS]
     rw [aN,e]
     exact rt (t1++[.d h1]) [] [] hcx (by kernel_rfl)
    | false =>
     have e:=Eq.refl (fN a0 a1 v1);conv at e=>rhs;simp only [fN,h0,h1,aS]
     rw [aE e]
     refine ba (t1++[.d h1]) [] [0,1,5] [] hcx (m:=n) vF (vG) (rJ a0 a1 (W (v1+1))) (by kernel_rfl) ?_
     have z0:(W (v1+1))=(v1+1):=aJ (by omega) (by omega)
     rw [z0]
     exact ih (v1+1) (by refine⟨?_,?_⟩<;>(try simp only [Ls])<;>first | omega | assumption | simp) (by(try simp only [Ls]);omega)
   | false =>
    have q0:=cH h0
    have e:=Eq.refl (fN a0 a1 v1);conv at e=>rhs;simp only [fN,h0,aS]
    rw [aN,e]
    exact rt [.d h0] [] [] hcx (by kernel_rfl)
def kA (a0:List (Int×Int))(a1:List (Int×Int)):Bool :=
 (bif (((a0.length:Int):Int) != (a1.length:Int)) then
  false
 else
  (aC (fN a0 a1) (toNat ((a0.length:Int) - 0)+1) 0))
theorem aPx (a0:List (Int×Int))(a1:List (Int×Int))(l0:a0.length<=9223372036854775807)(l1:a1.length<=9223372036854775807):Con Tryz.prog 31 [(.s 0 0 a0.length 2),(.s 1 0 a1.length 2)] [(.live false true (flat lG a0)),(.live false true (flat lG a1))] (.v (.bool (kA a0 a1))) []:=by
 refine aO Tryz.func31 (by kernel_rfl) fun cx hcx=>?_
 cases h0:(((a0.length:Int):Int) != (a1.length:Int)) with
 | true =>
  have q0:=bne_iff_ne.1 h0
  have e:=Eq.refl (kA a0 a1);conv at e=>rhs;simp only [kA,h0,aS]
  rw [e]
  exact rt [.d h0] [] [] hcx (by kernel_rfl)
 | false =>
  have q0:=bne_eq_false_iff_eq.1 h0
  have e:=Eq.refl (kA a0 a1);conv at e=>rhs;simp only [kA,h0,aS]
  rw [e]
  refine en [.d h0] [] [0,1,5] [] hcx vF (vG) (rJ a0 a1 0) (toNat ((a0.length:Int) - 0)+1) (by kernel_rfl) ?_
  exact aK1 a0 a1 l0 l1 hcx (toNat ((a0.length:Int) - 0)+1) 0 (by refine⟨?_,?_⟩<;>(try simp only [Ls])<;>first | omega | assumption | simp) (by(try simp only [Ls]);omega)
theorem aJt {l:List (List (Int×Int))} (h:∀r∈l,r.length<=1048576)(i:Nat):(l.getD i default).length<=1048576:=by
 by_cases hi:i < l.length
 · rw [eQ,List.getElem?_eq_getElem hi,Option.getD_some];exact h _ (List.getElem_mem hi)
 · rw [eQ,List.getElem?_eq_none (by omega)];exact Nat.zero_le _
section
variable {l : List (PN × Int)} {d : Int}
end
theorem aAg {S:Int->Int⊕Bool} {N:Nat} (h1:∀i:Nat,i < N->S (i:Int)=.inl ((i+1:Nat):Int))(h2:S (N:Int)=.inr true):∀(d i n:Nat),d=N - i->i<=N->d < n->aC S n (i:Int)=true
 | 0,i,n,hd,hi,hn=>by
   obtain⟨n,rfl⟩:∃m,n=m+1:=⟨n - 1,by omega⟩
   have:i=N:=by omega
   subst this
   exact aY h2
 | d+1,i,n,hd,hi,hn=>by
   obtain⟨n,rfl⟩:∃m,n=m+1:=⟨n - 1,by omega⟩
   rw [aE (h1 i (by omega))]
   exact aAg h1 h2 d (i+1) n (by omega) (by omega) (by omega)
theorem aHr (l:List (Int×Int)):kA l l=true:=by
 unfold kA
 rw [show(((l.length:Int):Int) != (l.length:Int))=false by simp,cond_false]
 refine aAg (N:=l.length) (fun i hi=>?_) ?_ l.length 0 _ (by omega) (by omega) (by omega)
 · simp only [fN]
   rw [cN (show((i:Nat):Int) < (l.length:Nat) by omega),cond_true]
   simp
 · simp only [fN]
   rw [dQ (Int.lt_irrefl _),cond_false]
section
variable {l : List (PN × Int)} {d : Int}
end
noncomputable def vH:Code:=(aI [1,1,0,1] [] (aL Tryz.f11) []).1
noncomputable def vI:List K:=(aI [1,1,0,1] [] (aL Tryz.f11) []).2
def rK (a0:List (List (Int×Int)))(a1:List (List (Int×Int)))(v1:Int):LS:=⟨iM 27 [(0,(.s 0 0 a0.length 1)),(1,(.s 1 0 a1.length 1)),(5,(iv v1))],[(.live false true (flat fQ a0)),(.live false true (flat fQ a1))]⟩
def fO (a0:List (List (Int×Int)))(a1:List (List (Int×Int))):Int->(Int)⊕(Bool)
 | v1 =>
  (bif (decide ((v1:Int) < (a0.length:Int))) then
   (bif (!(kA (a0.getD (toNat v1) default) (a1.getD (toNat v1) default))) then
    (.inr false)
   else
    (.inl (v1+1)))
  else
   (.inr true))
theorem aK2 (a0:List (List (Int×Int)))(a1:List (List (Int×Int)))(l0:a0.length<=9223372036854775807)(l1:a1.length<=9223372036854775807)(hr0:∀r∈a0,r.length<=1048576)(hr1:∀r∈a1,r.length<=1048576) {cx:Cx} (hcx:cx.base=2):∀(n:Nat) (v1:Int),(0<=v1)/\(a0.length=a1.length)->toNat ((a0.length:Int) - v1) < n->Aw.Good Tryz.prog none 9 (bodyPost Tryz.prog Tryz.f11 (RR cx (.v (.bool (aC (fO a0 a1) n v1))) [] [])) cx [] (.l vH n::vI) (rK a0 a1 v1):=by
 intro n
 induction n with
 | zero=>intro v1 hi hn;exact absurd hn (eP _)
 | succ n ih =>
   intro v1 hi hn
   refine aQ ?_
   have hq0:=aJt hr0 (toNat v1)
   have hq1:=aJt hr1 (toNat v1)
   cases h0:(decide ((v1:Int) < (a0.length:Int))) with
   | true =>
    have q0:=cA h0
    let t1:List (St Tryz.prog):=[.d h0,.i v1 (a0.length),.L lM a0 v1 0 1,.p (sE (c:=lG) (fun _=>rfl) (a0.getD (toNat v1) default)),.i v1 (a1.length),.L lM a1 v1 0 1,.p (sE (c:=lG) (fun _=>rfl) (a1.getD (toNat v1) default)),.c [2,3] (aPx (a0.getD (toNat v1) default) (a1.getD (toNat v1) default) (by(try simp only [Lt]);omega) (by(try simp only [Lt]);omega))]
    cases h1:(!(kA (a0.getD (toNat v1) default) (a1.getD (toNat v1) default))) with
    | true =>
     have e:=Eq.refl (fO a0 a1 v1);conv at e=>rhs;simp only [fO,h0,h1,aS]
     rw [aN,e]
     exact rt (t1++[.d h1]) [] [] hcx (by kernel_rfl)
    | false =>
     have e:=Eq.refl (fO a0 a1 v1);conv at e=>rhs;simp only [fO,h0,h1,aS]
     rw [aE e]
     refine ba (t1++[.d h1]) [] [0,1,5] [] hcx (m:=n) vH (vI) (rK a0 a1 (W (v1+1))) (by kernel_rfl) ?_
     have z0:(W (v1+1))=(v1+1):=aJ (by omega) (by omega)
     rw [z0]
     exact ih (v1+1) (by refine⟨?_,?_⟩<;>(try simp only [Ls])<;>first | omega | assumption | simp) (by(try simp only [Ls]);omega)
   | false =>
    have q0:=cH h0
    have e:=Eq.refl (fO a0 a1 v1);conv at e=>rhs;simp only [fO,h0,aS]
    rw [aN,e]
    exact rt [.d h0] [] [] hcx (by kernel_rfl)
def iK (a0:List (List (Int×Int)))(a1:List (List (Int×Int))):Bool :=
 (bif (((a0.length:Int):Int) != (a1.length:Int)) then
  false
 else
  (aC (fO a0 a1) (toNat ((a0.length:Int) - 0)+1) 0))
theorem aJu (a0:List (List (Int×Int)))(a1:List (List (Int×Int)))(l0:a0.length<=9223372036854775807)(l1:a1.length<=9223372036854775807)(hr0:∀r∈a0,r.length<=1048576)(hr1:∀r∈a1,r.length<=1048576):Con Tryz.prog 11 [(.s 0 0 a0.length 1),(.s 1 0 a1.length 1)] [(.live false true (flat fQ a0)),(.live false true (flat fQ a1))] (.v (.bool (iK a0 a1))) []:=by
 refine aO Tryz.func11 (by kernel_rfl) fun cx hcx=>?_
 cases h0:(((a0.length:Int):Int) != (a1.length:Int)) with
 | true =>
  have q0:=bne_iff_ne.1 h0
  have e:=Eq.refl (iK a0 a1);conv at e=>rhs;simp only [iK,h0,aS]
  rw [e]
  exact rt [.d h0] [] [] hcx (by kernel_rfl)
 | false =>
  have q0:=bne_eq_false_iff_eq.1 h0
  have e:=Eq.refl (iK a0 a1);conv at e=>rhs;simp only [iK,h0,aS]
  rw [e]
  refine en [.d h0] [] [0,1,5] [] hcx vH (vI) (rK a0 a1 0) (toNat ((a0.length:Int) - 0)+1) (by kernel_rfl) ?_
  exact aK2 a0 a1 l0 l1 hr0 hr1 hcx (toNat ((a0.length:Int) - 0)+1) 0 (by refine⟨?_,?_⟩<;>(try simp only [Ls])<;>first | omega | assumption | simp) (by(try simp only [Ls]);omega)
noncomputable def aNv:Code:=(aI [1,1,0,1] [] (aL Tryz.f12) []).1
noncomputable def aNw:List K:=(aI [1,1,0,1] [] (aL Tryz.f12) []).2
def aHs (a0:(List (Int)×bE)×(List (Int×Int×Bool))×List (List (Int×Int)))(v1 v2:Int):LS:=⟨iM 19 [(3,(iv v1)),(7,(.s 3 0 a0.2.2.length 1)),(8,(iv (a0.2.2.length:Int))),(9,(iv v2))],[(.live false true (flat c3 a0.1.1)),(.live false true (flat bT a0.1.2)),(.live false true (flat dU a0.2.1)),(.live false true (flat fQ a0.2.2))]⟩
def aAh (a0:(List (Int)×bE)×(List (Int×Int×Bool))×List (List (Int×Int))):Int×Int->(Int×Int)⊕(Int)
 | (v1,v2) =>
  (bif (decide ((v2:Int) < (a0.2.2.length:Int))) then
   (.inl ((W (v1+(((a0.2.2.getD (toNat v2) default).length:Nat):Int))),(v2+1)))
  else
   (.inr v1))
theorem aVa (a0:(List (Int)×bE)×(List (Int×Int×Bool))×List (List (Int×Int)))(l0_1_1:a0.1.1.length<=9223372036854775807)(l0_1_2:a0.1.2.length<=9223372036854775807)(l0_2_1:a0.2.1.length<=9223372036854775807)(l0_2_2:a0.2.2.length<=9223372036854775807) {cx:Cx} (hcx:cx.base=4):∀(n:Nat) (v1 v2:Int),0<=v2->toNat ((a0.2.2.length:Int) - v2) < n->Aw.Good Tryz.prog none 9 (bodyPost Tryz.prog Tryz.f12 (RR cx (iv (aC (aAh a0) n (v1,v2))) [] [])) cx [] (.l aNv n::aNw) (aHs a0 v1 v2):=by
 intro n
 induction n with
 | zero=>intro v1 v2 hi hn;exact absurd hn (eP _)
 | succ n ih =>
   intro v1 v2 hi hn
   refine aQ ?_
   cases h0:(decide ((v2:Int) < (a0.2.2.length:Int))) with
   | true =>
    have q0:=cA h0
    have e:=Eq.refl (aAh a0 (v1,v2));conv at e=>rhs;simp only [aAh,h0,aS]
    rw [aE e]
    refine ba [.d h0,.i v2 (a0.2.2.length),.L lM a0.2.2 v2 0 1,.p (sE (c:=lG) (fun _=>rfl) (a0.2.2.getD (toNat v2) default))] [] [3,7,8,9] [] hcx (m:=n) aNv (aNw) (aHs a0 (W (v1+(((a0.2.2.getD (toNat v2) default).length:Nat):Int))) (W (v2+1))) (by kernel_rfl) ?_
    have z0:(W (v2+1))=(v2+1):=aJ (by omega) (by omega)
    rw [z0]
    exact ih (W (v1+(((a0.2.2.getD (toNat v2) default).length:Nat):Int))) (v2+1) (by(try simp only [Ls]);omega) (by(try simp only [Ls]);omega)
   | false =>
    have q0:=cH h0
    have e:=Eq.refl (aAh a0 (v1,v2));conv at e=>rhs;simp only [aAh,h0,aS]
    rw [aN,e]
    exact rt [.d h0] [] [] hcx (by kernel_rfl)
def F12 (a0:(List (Int)×bE)×(List (Int×Int×Bool))×List (List (Int×Int))):Int :=
 (aC (aAh a0) (toNat ((a0.2.2.length:Int) - 0)+1) (0,0))
theorem C12 (a0:(List (Int)×bE)×(List (Int×Int×Bool))×List (List (Int×Int)))(l0_1_1:a0.1.1.length<=9223372036854775807)(l0_1_2:a0.1.2.length<=9223372036854775807)(l0_2_1:a0.2.1.length<=9223372036854775807)(l0_2_2:a0.2.2.length<=9223372036854775807):Con Tryz.prog 12 [(.a [(.s 0 0 a0.1.1.length 1),(.s 1 0 a0.1.2.length 8),(.s 2 0 a0.2.1.length 3),(.s 3 0 a0.2.2.length 1)])] [(.live false true (flat c3 a0.1.1)),(.live false true (flat bT a0.1.2)),(.live false true (flat dU a0.2.1)),(.live false true (flat fQ a0.2.2))] (iv (F12 a0)) []:=by
 refine aO Tryz.func12 (by kernel_rfl) fun cx hcx=>?_
 have e:=Eq.refl (F12 a0);conv at e=>rhs;simp only [F12]
 rw [e]
 refine en [] [] [3,7,8,9] [] hcx aNv (aNw) (aHs a0 0 0) (toNat ((a0.2.2.length:Int) - 0)+1) (by kernel_rfl) ?_
 exact aVa a0 l0_1_1 l0_1_2 l0_2_1 l0_2_2 hcx (toNat ((a0.2.2.length:Int) - 0)+1) 0 0 (by(try simp only [Ls]);omega) (by(try simp only [Ls]);omega)
noncomputable def aNx:Code:=(aI [1,1,0,1] [] (aL Tryz.f13) []).1
noncomputable def aNy:List K:=(aI [1,1,0,1] [] (aL Tryz.f13) []).2
def aHt (a0:(List (Int)×bE)×(List (Int×Int×Bool))×List (List (Int×Int)))(v1 v2:Int):LS:=⟨iM 21 [(1,(.p 4 0)),(3,(iv v1)),(4,(iv v2))],[(.live false true (flat c3 a0.1.1)),(.live false true (flat bT a0.1.2)),(.live false true (flat dU a0.2.1)),(.live false true (flat fQ a0.2.2)),(.live true false [(.s 0 0 a0.1.1.length 1),(.s 1 0 a0.1.2.length 8),(.s 2 0 a0.2.1.length 3),(.s 3 0 a0.2.2.length 1)])]⟩
def aAi (a0:(List (Int)×bE)×(List (Int×Int×Bool))×List (List (Int×Int))):Int×Int->(Int×Int)⊕(Int)
 | (v1,v2) =>
  (bif (decide ((v2:Int) < (a0.2.2.length:Int))) then
   (.inl ((W (v1+(((a0.2.2.getD (toNat v2) default).length:Nat):Int))),(v2+1)))
  else
   (.inr v1))
theorem aVb (a0:(List (Int)×bE)×(List (Int×Int×Bool))×List (List (Int×Int)))(l0_1_1:a0.1.1.length<=9223372036854775807)(l0_1_2:a0.1.2.length<=9223372036854775807)(l0_2_1:a0.2.1.length<=9223372036854775807)(l0_2_2:a0.2.2.length<=9223372036854775807) {cx:Cx} (hcx:cx.base=4):∀(n:Nat) (v1 v2:Int),0<=v2->toNat ((a0.2.2.length:Int) - v2) < n->Aw.Good Tryz.prog none 9 (bodyPost Tryz.prog Tryz.f13 (RR cx (iv (aC (aAi a0) n (v1,v2))) [] [])) cx [] (.l aNx n::aNy) (aHt a0 v1 v2):=by
 intro n
 induction n with
 | zero=>intro v1 v2 hi hn;exact absurd hn (eP _)
 | succ n ih =>
   intro v1 v2 hi hn
   refine aQ ?_
   cases h0:(decide ((v2:Int) < (a0.2.2.length:Int))) with
   | true =>
    have q0:=cA h0
    have e:=Eq.refl (aAi a0 (v1,v2));conv at e=>rhs;simp only [aAi,h0,aS]
    rw [aE e]
    refine ba [.d h0,.i v2 (a0.2.2.length),.L lM a0.2.2 v2 0 1,.p (sE (c:=lG) (fun _=>rfl) (a0.2.2.getD (toNat v2) default))] [] [1,3,4] [4] hcx (m:=n) aNx (aNy) (aHt a0 (W (v1+(((a0.2.2.getD (toNat v2) default).length:Nat):Int))) (W (v2+1))) (by kernel_rfl) ?_
    have z0:(W (v2+1))=(v2+1):=aJ (by omega) (by omega)
    rw [z0]
    exact ih (W (v1+(((a0.2.2.getD (toNat v2) default).length:Nat):Int))) (v2+1) (by(try simp only [Ls]);omega) (by(try simp only [Ls]);omega)
   | false =>
    have q0:=cH h0
    have e:=Eq.refl (aAi a0 (v1,v2));conv at e=>rhs;simp only [aAi,h0,aS]
    rw [aN,e]
    exact rt [.d h0] [] [] hcx (by kernel_rfl)
def F13 (a0:(List (Int)×bE)×(List (Int×Int×Bool))×List (List (Int×Int))):Int :=
 (aC (aAi a0) (toNat ((a0.2.2.length:Int) - 0)+1) (0,0))
theorem C13 (a0:(List (Int)×bE)×(List (Int×Int×Bool))×List (List (Int×Int)))(l0_1_1:a0.1.1.length<=9223372036854775807)(l0_1_2:a0.1.2.length<=9223372036854775807)(l0_2_1:a0.2.1.length<=9223372036854775807)(l0_2_2:a0.2.2.length<=9223372036854775807):Con Tryz.prog 13 [(.a [(.s 0 0 a0.1.1.length 1),(.s 1 0 a0.1.2.length 8),(.s 2 0 a0.2.1.length 3),(.s 3 0 a0.2.2.length 1)])] [(.live false true (flat c3 a0.1.1)),(.live false true (flat bT a0.1.2)),(.live false true (flat dU a0.2.1)),(.live false true (flat fQ a0.2.2))] (iv (F13 a0)) []:=by
 refine aO Tryz.func13 (by kernel_rfl) fun cx hcx=>?_
 have e:=Eq.refl (F13 a0);conv at e=>rhs;simp only [F13]
 rw [e]
 refine en [] [] [1,3,4] [4] hcx aNx (aNy) (aHt a0 0 0) (toNat ((a0.2.2.length:Int) - 0)+1) (by kernel_rfl) ?_
 exact aVb a0 l0_1_1 l0_1_2 l0_2_1 l0_2_2 hcx (toNat ((a0.2.2.length:Int) - 0)+1) 0 0 (by(try simp only [Ls]);omega) (by(try simp only [Ls]);omega)
def tG (a0:bM):Bool :=
 (bif (decide (((a0.length:Int):Int)<=10)) then
  true
 else
  (bif (decide (((a0.length:Int):Int) > 96)) then
   (decide (((a0.length:Int):Int)<=200))
  else
   false))
theorem aWo (a0:bM)(l0:a0.length<=9223372036854775807):Con Tryz.prog 4 [(.s 0 0 a0.length 10)] [(.live false true (flat eF a0))] (.v (.bool (tG a0))) []:=by
 refine aO Tryz.func4 (by kernel_rfl) fun cx hcx=>?_
 cases h0:(decide (((a0.length:Int):Int)<=10)) with
 | true =>
  have q0:=cA h0
  have e:=Eq.refl (tG a0);conv at e=>rhs;simp only [tG,h0,aS]
  rw [e]
  exact rt [.d h0] [] [] hcx (by kernel_rfl)
 | false =>
  have q0:=cH h0
  let t1:List (St Tryz.prog):=[.d h0]
  cases h1:(decide (((a0.length:Int):Int) > 96)) with
  | true =>
   have q1:=cA h1
   have e:=Eq.refl (tG a0);conv at e=>rhs;simp only [tG,h0,h1,aS]
   rw [e]
   exact rt (t1++[.d h1]) [] [] hcx (by kernel_rfl)
  | false =>
   have q1:=cH h1
   have e:=Eq.refl (tG a0);conv at e=>rhs;simp only [tG,h0,h1,aS]
   rw [e]
   exact rt (t1++[.d h1]) [] [] hcx (by kernel_rfl)
theorem aFt {l:List (PN×Int)} (h:tG l=true):dR l:=by
 refine⟨⟨?_⟩⟩
 unfold tG at h
 by_cases h1:(l.length:Int)<=10
 · left;omega
 · rw [dQ h1,cond_false] at h
   by_cases h2:(l.length:Int) > 96
   · right;omega
   · rw [dQ h2,cond_false] at h;cases h
theorem cY {l:List (PN×Int)} (h:(!(tG l))=false):dR l:=aFt (by cases hq:tG l with | true=>rfl | false=>rw [hq] at h;cases h)
def iL (a0:bM)(a1:Int×Zt×Zt):Bool :=
 (bif (!(tG a0)) then
  F5
 else
  (bif (bR a0 ((aG a0 a1.1).1.1,(aG a0 a1.1).1.2) a1.2.2.1 a1.2.2.2.2).1 then
   (bif (((cD a0 ((aG a0 a1.1).1.1,(aG a0 a1.1).1.2) a1.2.2.1 a1.2.2.2.2).2:Int) == (bR a0 ((aG a0 a1.1).1.1,(aG a0 a1.1).1.2) a1.2.2.1 a1.2.2.2.2).2.2) then
    (bif (F9 ((cD a0 ((aG a0 a1.1).1.1,(aG a0 a1.1).1.2) a1.2.2.1 a1.2.2.2.2).1.1.1,(cD a0 ((aG a0 a1.1).1.1,(aG a0 a1.1).1.2) a1.2.2.1 a1.2.2.2.2).1.1.2) ((bR a0 ((aG a0 a1.1).1.1,(aG a0 a1.1).1.2) a1.2.2.1 a1.2.2.2.2).2.1.1.1,(bR a0 ((aG a0 a1.1).1.1,(aG a0 a1.1).1.2) a1.2.2.1 a1.2.2.2.2).2.1.1.2)) then
     (bif (iI (cD a0 ((aG a0 a1.1).1.1,(aG a0 a1.1).1.2) a1.2.2.1 a1.2.2.2.2).1.2.1 (bR a0 ((aG a0 a1.1).1.1,(aG a0 a1.1).1.2) a1.2.2.1 a1.2.2.2.2).2.1.2.1) then
      (bif (iK (cD a0 ((aG a0 a1.1).1.1,(aG a0 a1.1).1.2) a1.2.2.1 a1.2.2.2.2).1.2.2 (bR a0 ((aG a0 a1.1).1.1,(aG a0 a1.1).1.2) a1.2.2.1 a1.2.2.2.2).2.1.2.2) then
       (bif (((F12 (((cD a0 ((aG a0 a1.1).1.1,(aG a0 a1.1).1.2) a1.2.2.1 a1.2.2.2.2).1.1.1,(cD a0 ((aG a0 a1.1).1.1,(aG a0 a1.1).1.2) a1.2.2.1 a1.2.2.2.2).1.1.2),(cD a0 ((aG a0 a1.1).1.1,(aG a0 a1.1).1.2) a1.2.2.1 a1.2.2.2.2).1.2.1,(cD a0 ((aG a0 a1.1).1.1,(aG a0 a1.1).1.2) a1.2.2.1 a1.2.2.2.2).1.2.2)):Int) == (F13 (((bR a0 ((aG a0 a1.1).1.1,(aG a0 a1.1).1.2) a1.2.2.1 a1.2.2.2.2).2.1.1.1,(bR a0 ((aG a0 a1.1).1.1,(aG a0 a1.1).1.2) a1.2.2.1 a1.2.2.2.2).2.1.1.2),(bR a0 ((aG a0 a1.1).1.1,(aG a0 a1.1).1.2) a1.2.2.1 a1.2.2.2.2).2.1.2.1,(bR a0 ((aG a0 a1.1).1.1,(aG a0 a1.1).1.2) a1.2.2.1 a1.2.2.2.2).2.1.2.2))) then
        F5
       else
        false)
      else
       false)
     else
      false)
    else
     false)
   else
    false)
  else
   (bif (((cD a0 ((aG a0 a1.1).1.1,(aG a0 a1.1).1.2) a1.2.2.1 a1.2.2.2.2).2:Int) == (bR a0 ((aG a0 a1.1).1.1,(aG a0 a1.1).1.2) a1.2.2.1 a1.2.2.2.2).2.2) then
    (bif (F9 ((cD a0 ((aG a0 a1.1).1.1,(aG a0 a1.1).1.2) a1.2.2.1 a1.2.2.2.2).1.1.1,(cD a0 ((aG a0 a1.1).1.1,(aG a0 a1.1).1.2) a1.2.2.1 a1.2.2.2.2).1.1.2) ((aG a0 a1.1).1.1,(aG a0 a1.1).1.2)) then
     (bif (iI (cD a0 ((aG a0 a1.1).1.1,(aG a0 a1.1).1.2) a1.2.2.1 a1.2.2.2.2).1.2.1 (bR a0 ((aG a0 a1.1).1.1,(aG a0 a1.1).1.2) a1.2.2.1 a1.2.2.2.2).2.1.2.1) then
      (bif (iK (cD a0 ((aG a0 a1.1).1.1,(aG a0 a1.1).1.2) a1.2.2.1 a1.2.2.2.2).1.2.2 (bR a0 ((aG a0 a1.1).1.1,(aG a0 a1.1).1.2) a1.2.2.1 a1.2.2.2.2).2.1.2.2) then
       (bif (((F12 (((cD a0 ((aG a0 a1.1).1.1,(aG a0 a1.1).1.2) a1.2.2.1 a1.2.2.2.2).1.1.1,(cD a0 ((aG a0 a1.1).1.1,(aG a0 a1.1).1.2) a1.2.2.1 a1.2.2.2.2).1.1.2),(cD a0 ((aG a0 a1.1).1.1,(aG a0 a1.1).1.2) a1.2.2.1 a1.2.2.2.2).1.2.1,(cD a0 ((aG a0 a1.1).1.1,(aG a0 a1.1).1.2) a1.2.2.1 a1.2.2.2.2).1.2.2)):Int) == (F13 (((aG a0 a1.1).1.1,(aG a0 a1.1).1.2),(bR a0 ((aG a0 a1.1).1.1,(aG a0 a1.1).1.2) a1.2.2.1 a1.2.2.2.2).2.1.2.1,(bR a0 ((aG a0 a1.1).1.1,(aG a0 a1.1).1.2) a1.2.2.1 a1.2.2.2.2).2.1.2.2))) then
        F5
       else
        false)
      else
       false)
     else
      false)
    else
     false)
   else
    false)))
theorem aWp (a0:bM)(a1:Int×Zt×Zt)(l0:a0.length<=9223372036854775807):Con Tryz.prog 3 [(.s 0 0 a0.length 10),(.a [(iv a1.1),(iv a1.2.1.1),(iv a1.2.1.2.1),(iv a1.2.1.2.2),(iv a1.2.2.1),(iv a1.2.2.2.1),(iv a1.2.2.2.2)])] [(.live false true (flat eF a0))] (.v (.bool (iL a0 a1))) []:=by
 refine aO Tryz.func3 (by kernel_rfl) fun cx hcx=>?_
 have hb2:=aG7 a0 a1.1
 try have h5f:=cY h0
 try have hx1:=(fun _=>eD a0 ((aG a0 a1.1).1.1,(aG a0 a1.1).1.2) a1.2.2.1 a1.2.2.2.2 hb2.1 hb2.2) h0
 try have hx2:=(fun _=>eE a0 ((aG a0 a1.1).1.1,(aG a0 a1.1).1.2) a1.2.2.1 a1.2.2.2.2 hb2.1 hb2.2) h0
 let t0:List (St Tryz.prog):=[.c [0] (aWo a0 (by omega))]
 cases h0:(!(tG a0)) with
 | true =>
  try have h5f:=cY h0
  try have hx1:=(fun _=>eD a0 ((aG a0 a1.1).1.1,(aG a0 a1.1).1.2) a1.2.2.1 a1.2.2.2.2 hb2.1 hb2.2) h0
  try have hx2:=(fun _=>eE a0 ((aG a0 a1.1).1.1,(aG a0 a1.1).1.2) a1.2.2.1 a1.2.2.2.2 hb2.1 hb2.2) h0
  have e:=Eq.refl (iL a0 a1);conv at e=>rhs;simp only [iL,h0,aS]
  rw [e]
  exact rt (t0++[.d h0,.c [] (C5)]) [] [] hcx (by kernel_rfl)
 | false =>
  try have h5f:=cY h0
  try have hx1:=(fun _=>eD a0 ((aG a0 a1.1).1.1,(aG a0 a1.1).1.2) a1.2.2.1 a1.2.2.2.2 hb2.1 hb2.2) h0
  try have hx2:=(fun _=>eE a0 ((aG a0 a1.1).1.1,(aG a0 a1.1).1.2) a1.2.2.1 a1.2.2.2.2 hb2.1 hb2.2) h0
  let t1:List (St Tryz.prog):=(t0++[.d h0,.c [0] (aV9 a0 a1.1 (by omega)),.c [0,2,3] (aWh a0 ((aG a0 a1.1).1.1,(aG a0 a1.1).1.2) a1.2.2.1 a1.2.2.2.2 (by(try simp only [Lt]);omega) (by(try simp only [Lt]);omega) (by(try simp only [Lt]);omega))])
  cases h1:(bR a0 ((aG a0 a1.1).1.1,(aG a0 a1.1).1.2) a1.2.2.1 a1.2.2.2.2).1 with
  | true =>
   try have h5f:=cY h0
   try have hx1:=(fun _=>eD a0 ((aG a0 a1.1).1.1,(aG a0 a1.1).1.2) a1.2.2.1 a1.2.2.2.2 hb2.1 hb2.2) h0
   try have hx2:=(fun _=>eE a0 ((aG a0 a1.1).1.1,(aG a0 a1.1).1.2) a1.2.2.1 a1.2.2.2.2 hb2.1 hb2.2) h0
   let t2:List (St Tryz.prog):=(t1++[.c [0,2,3] (aSl a0 ((aG a0 a1.1).1.1,(aG a0 a1.1).1.2) a1.2.2.1 a1.2.2.2.2 (by(try simp only [Lt]);omega) (by(try simp only [Lt]);omega) (by(try simp only [Lt]);omega) h1)])
   cases h2:(((cD a0 ((aG a0 a1.1).1.1,(aG a0 a1.1).1.2) a1.2.2.1 a1.2.2.2.2).2:Int) == (bR a0 ((aG a0 a1.1).1.1,(aG a0 a1.1).1.2) a1.2.2.1 a1.2.2.2.2).2.2) with
   | true =>
    have q2:=eq_of_beq h2
    try have h5f:=cY h0
    try have hx1:=(fun _=>eD a0 ((aG a0 a1.1).1.1,(aG a0 a1.1).1.2) a1.2.2.1 a1.2.2.2.2 hb2.1 hb2.2) h0
    try have hx2:=(fun _=>eE a0 ((aG a0 a1.1).1.1,(aG a0 a1.1).1.2) a1.2.2.1 a1.2.2.2.2 hb2.1 hb2.2) h0
    let t3:List (St Tryz.prog):=(t2++[.d h2,.c [5,6,10,11] (C9 ((cD a0 ((aG a0 a1.1).1.1,(aG a0 a1.1).1.2) a1.2.2.1 a1.2.2.2.2).1.1.1,(cD a0 ((aG a0 a1.1).1.1,(aG a0 a1.1).1.2) a1.2.2.1 a1.2.2.2.2).1.1.2) ((bR a0 ((aG a0 a1.1).1.1,(aG a0 a1.1).1.2) a1.2.2.1 a1.2.2.2.2).2.1.1.1,(bR a0 ((aG a0 a1.1).1.1,(aG a0 a1.1).1.2) a1.2.2.1 a1.2.2.2.2).2.1.1.2) (by(try simp only [Lt]);omega) (by(try simp only [Lt]);omega) (by(try simp only [Lt]);omega) (by(try simp only [Lt]);omega))])
    cases h3:(F9 ((cD a0 ((aG a0 a1.1).1.1,(aG a0 a1.1).1.2) a1.2.2.1 a1.2.2.2.2).1.1.1,(cD a0 ((aG a0 a1.1).1.1,(aG a0 a1.1).1.2) a1.2.2.1 a1.2.2.2.2).1.1.2) ((bR a0 ((aG a0 a1.1).1.1,(aG a0 a1.1).1.2) a1.2.2.1 a1.2.2.2.2).2.1.1.1,(bR a0 ((aG a0 a1.1).1.1,(aG a0 a1.1).1.2) a1.2.2.1 a1.2.2.2.2).2.1.1.2)) with
    | true =>
     try have h5f:=cY h0
     try have hx1:=(fun _=>eD a0 ((aG a0 a1.1).1.1,(aG a0 a1.1).1.2) a1.2.2.1 a1.2.2.2.2 hb2.1 hb2.2) h0
     try have hx2:=(fun _=>eE a0 ((aG a0 a1.1).1.1,(aG a0 a1.1).1.2) a1.2.2.1 a1.2.2.2.2 hb2.1 hb2.2) h0
     let t4:List (St Tryz.prog):=(t3++[.d h3,.c [7,12] (aJe (cD a0 ((aG a0 a1.1).1.1,(aG a0 a1.1).1.2) a1.2.2.1 a1.2.2.2.2).1.2.1 (bR a0 ((aG a0 a1.1).1.1,(aG a0 a1.1).1.2) a1.2.2.1 a1.2.2.2.2).2.1.2.1 (by(try simp only [Lt]);omega) (by(try simp only [Lt]);omega))])
     cases h4:(iI (cD a0 ((aG a0 a1.1).1.1,(aG a0 a1.1).1.2) a1.2.2.1 a1.2.2.2.2).1.2.1 (bR a0 ((aG a0 a1.1).1.1,(aG a0 a1.1).1.2) a1.2.2.1 a1.2.2.2.2).2.1.2.1) with
     | true =>
      try have h5f:=cY h0
      try have hx1:=(fun _=>eD a0 ((aG a0 a1.1).1.1,(aG a0 a1.1).1.2) a1.2.2.1 a1.2.2.2.2 hb2.1 hb2.2) h0
      try have hx2:=(fun _=>eE a0 ((aG a0 a1.1).1.1,(aG a0 a1.1).1.2) a1.2.2.1 a1.2.2.2.2 hb2.1 hb2.2) h0
      let t5:List (St Tryz.prog):=(t4++[.d h4,.c [8,13] (aJu (cD a0 ((aG a0 a1.1).1.1,(aG a0 a1.1).1.2) a1.2.2.1 a1.2.2.2.2).1.2.2 (bR a0 ((aG a0 a1.1).1.1,(aG a0 a1.1).1.2) a1.2.2.1 a1.2.2.2.2).2.1.2.2 (by(try simp only [Lt]);omega) (by(try simp only [Lt]);omega) (aJr _ _ _ _) (aJs _ _ _ _))])
      cases h5:(iK (cD a0 ((aG a0 a1.1).1.1,(aG a0 a1.1).1.2) a1.2.2.1 a1.2.2.2.2).1.2.2 (bR a0 ((aG a0 a1.1).1.1,(aG a0 a1.1).1.2) a1.2.2.1 a1.2.2.2.2).2.1.2.2) with
      | true =>
       try have h5f:=cY h0
       try have hx1:=(fun _=>eD a0 ((aG a0 a1.1).1.1,(aG a0 a1.1).1.2) a1.2.2.1 a1.2.2.2.2 hb2.1 hb2.2) h0
       try have hx2:=(fun _=>eE a0 ((aG a0 a1.1).1.1,(aG a0 a1.1).1.2) a1.2.2.1 a1.2.2.2.2 hb2.1 hb2.2) h0
       let t6:List (St Tryz.prog):=(t5++[.d h5,.c [5,6,7,8] (C12 (((cD a0 ((aG a0 a1.1).1.1,(aG a0 a1.1).1.2) a1.2.2.1 a1.2.2.2.2).1.1.1,(cD a0 ((aG a0 a1.1).1.1,(aG a0 a1.1).1.2) a1.2.2.1 a1.2.2.2.2).1.1.2),(cD a0 ((aG a0 a1.1).1.1,(aG a0 a1.1).1.2) a1.2.2.1 a1.2.2.2.2).1.2.1,(cD a0 ((aG a0 a1.1).1.1,(aG a0 a1.1).1.2) a1.2.2.1 a1.2.2.2.2).1.2.2) (by(try simp only [Lt]);omega) (by(try simp only [Lt]);omega) (by(try simp only [Lt]);omega) (by(try simp only [Lt]);omega)),.c [10,11,12,13] (C13 (((bR a0 ((aG a0 a1.1).1.1,(aG a0 a1.1).1.2) a1.2.2.1 a1.2.2.2.2).2.1.1.1,(bR a0 ((aG a0 a1.1).1.1,(aG a0 a1.1).1.2) a1.2.2.1 a1.2.2.2.2).2.1.1.2),(bR a0 ((aG a0 a1.1).1.1,(aG a0 a1.1).1.2) a1.2.2.1 a1.2.2.2.2).2.1.2.1,(bR a0 ((aG a0 a1.1).1.1,(aG a0 a1.1).1.2) a1.2.2.1 a1.2.2.2.2).2.1.2.2) (by(try simp only [Lt]);omega) (by(try simp only [Lt]);omega) (by(try simp only [Lt]);omega) (by(try simp only [Lt]);omega))])
       cases h6:(((F12 (((cD a0 ((aG a0 a1.1).1.1,(aG a0 a1.1).1.2) a1.2.2.1 a1.2.2.2.2).1.1.1,(cD a0 ((aG a0 a1.1).1.1,(aG a0 a1.1).1.2) a1.2.2.1 a1.2.2.2.2).1.1.2),(cD a0 ((aG a0 a1.1).1.1,(aG a0 a1.1).1.2) a1.2.2.1 a1.2.2.2.2).1.2.1,(cD a0 ((aG a0 a1.1).1.1,(aG a0 a1.1).1.2) a1.2.2.1 a1.2.2.2.2).1.2.2)):Int) == (F13 (((bR a0 ((aG a0 a1.1).1.1,(aG a0 a1.1).1.2) a1.2.2.1 a1.2.2.2.2).2.1.1.1,(bR a0 ((aG a0 a1.1).1.1,(aG a0 a1.1).1.2) a1.2.2.1 a1.2.2.2.2).2.1.1.2),(bR a0 ((aG a0 a1.1).1.1,(aG a0 a1.1).1.2) a1.2.2.1 a1.2.2.2.2).2.1.2.1,(bR a0 ((aG a0 a1.1).1.1,(aG a0 a1.1).1.2) a1.2.2.1 a1.2.2.2.2).2.1.2.2))) with
       | true =>
        have q6:=eq_of_beq h6
        try have h5f:=cY h0
        try have hx1:=(fun _=>eD a0 ((aG a0 a1.1).1.1,(aG a0 a1.1).1.2) a1.2.2.1 a1.2.2.2.2 hb2.1 hb2.2) h0
        try have hx2:=(fun _=>eE a0 ((aG a0 a1.1).1.1,(aG a0 a1.1).1.2) a1.2.2.1 a1.2.2.2.2 hb2.1 hb2.2) h0
        have e:=Eq.refl (iL a0 a1);conv at e=>rhs;simp only [iL,h0,h1,h2,h3,h4,h5,h6,aS]
        rw [e]
        exact rt (t6++[.d h6,.c [] (C5)]) [] [] hcx (by kernel_rfl)
       | false =>
        have q6:=ne_of_beq_false h6
        try have h5f:=cY h0
        try have hx1:=(fun _=>eD a0 ((aG a0 a1.1).1.1,(aG a0 a1.1).1.2) a1.2.2.1 a1.2.2.2.2 hb2.1 hb2.2) h0
        try have hx2:=(fun _=>eE a0 ((aG a0 a1.1).1.1,(aG a0 a1.1).1.2) a1.2.2.1 a1.2.2.2.2 hb2.1 hb2.2) h0
        have e:=Eq.refl (iL a0 a1);conv at e=>rhs;simp only [iL,h0,h1,h2,h3,h4,h5,h6,aS]
        rw [e]
        exact rt (t6++[.d h6]) [] [] hcx (by kernel_rfl)
      | false =>
       try have h5f:=cY h0
       try have hx1:=(fun _=>eD a0 ((aG a0 a1.1).1.1,(aG a0 a1.1).1.2) a1.2.2.1 a1.2.2.2.2 hb2.1 hb2.2) h0
       try have hx2:=(fun _=>eE a0 ((aG a0 a1.1).1.1,(aG a0 a1.1).1.2) a1.2.2.1 a1.2.2.2.2 hb2.1 hb2.2) h0
       have e:=Eq.refl (iL a0 a1);conv at e=>rhs;simp only [iL,h0,h1,h2,h3,h4,h5,aS]
       rw [e]
       exact rt (t5++[.d h5]) [] [] hcx (by kernel_rfl)
     | false =>
      try have h5f:=cY h0
      try have hx1:=(fun _=>eD a0 ((aG a0 a1.1).1.1,(aG a0 a1.1).1.2) a1.2.2.1 a1.2.2.2.2 hb2.1 hb2.2) h0
      try have hx2:=(fun _=>eE a0 ((aG a0 a1.1).1.1,(aG a0 a1.1).1.2) a1.2.2.1 a1.2.2.2.2 hb2.1 hb2.2) h0
      have e:=Eq.refl (iL a0 a1);conv at e=>rhs;simp only [iL,h0,h1,h2,h3,h4,aS]
      rw [e]
      exact rt (t4++[.d h4]) [] [] hcx (by kernel_rfl)
    | false =>
     try have h5f:=cY h0
     try have hx1:=(fun _=>eD a0 ((aG a0 a1.1).1.1,(aG a0 a1.1).1.2) a1.2.2.1 a1.2.2.2.2 hb2.1 hb2.2) h0
     try have hx2:=(fun _=>eE a0 ((aG a0 a1.1).1.1,(aG a0 a1.1).1.2) a1.2.2.1 a1.2.2.2.2 hb2.1 hb2.2) h0
     have e:=Eq.refl (iL a0 a1);conv at e=>rhs;simp only [iL,h0,h1,h2,h3,aS]
     rw [e]
     exact rt (t3++[.d h3]) [] [] hcx (by kernel_rfl)
   | false =>
    have q2:=ne_of_beq_false h2
    try have h5f:=cY h0
    try have hx1:=(fun _=>eD a0 ((aG a0 a1.1).1.1,(aG a0 a1.1).1.2) a1.2.2.1 a1.2.2.2.2 hb2.1 hb2.2) h0
    try have hx2:=(fun _=>eE a0 ((aG a0 a1.1).1.1,(aG a0 a1.1).1.2) a1.2.2.1 a1.2.2.2.2 hb2.1 hb2.2) h0
    have e:=Eq.refl (iL a0 a1);conv at e=>rhs;simp only [iL,h0,h1,h2,aS]
    rw [e]
    exact rt (t2++[.d h2]) [] [] hcx (by kernel_rfl)
  | false =>
   try have h5f:=cY h0
   try have hx1:=(fun _=>eD a0 ((aG a0 a1.1).1.1,(aG a0 a1.1).1.2) a1.2.2.1 a1.2.2.2.2 hb2.1 hb2.2) h0
   try have hx2:=(fun _=>eE a0 ((aG a0 a1.1).1.1,(aG a0 a1.1).1.2) a1.2.2.1 a1.2.2.2.2 hb2.1 hb2.2) h0
   let t2:List (St Tryz.prog):=(t1++[.c [0,2,3] (aSm a0 ((aG a0 a1.1).1.1,(aG a0 a1.1).1.2) a1.2.2.1 a1.2.2.2.2 (by(try simp only [Lt]);omega) (by(try simp only [Lt]);omega) (by(try simp only [Lt]);omega) h1)])
   cases h2:(((cD a0 ((aG a0 a1.1).1.1,(aG a0 a1.1).1.2) a1.2.2.1 a1.2.2.2.2).2:Int) == (bR a0 ((aG a0 a1.1).1.1,(aG a0 a1.1).1.2) a1.2.2.1 a1.2.2.2.2).2.2) with
   | true =>
    have q2:=eq_of_beq h2
    try have h5f:=cY h0
    try have hx1:=(fun _=>eD a0 ((aG a0 a1.1).1.1,(aG a0 a1.1).1.2) a1.2.2.1 a1.2.2.2.2 hb2.1 hb2.2) h0
    try have hx2:=(fun _=>eE a0 ((aG a0 a1.1).1.1,(aG a0 a1.1).1.2) a1.2.2.1 a1.2.2.2.2 hb2.1 hb2.2) h0
    let t3:List (St Tryz.prog):=(t2++[.d h2,.c [5,6,2,3] (C9 ((cD a0 ((aG a0 a1.1).1.1,(aG a0 a1.1).1.2) a1.2.2.1 a1.2.2.2.2).1.1.1,(cD a0 ((aG a0 a1.1).1.1,(aG a0 a1.1).1.2) a1.2.2.1 a1.2.2.2.2).1.1.2) ((aG a0 a1.1).1.1,(aG a0 a1.1).1.2) (by(try simp only [Lt]);omega) (by(try simp only [Lt]);omega) (by(try simp only [Lt]);omega) (by(try simp only [Lt]);omega))])
    cases h3:(F9 ((cD a0 ((aG a0 a1.1).1.1,(aG a0 a1.1).1.2) a1.2.2.1 a1.2.2.2.2).1.1.1,(cD a0 ((aG a0 a1.1).1.1,(aG a0 a1.1).1.2) a1.2.2.1 a1.2.2.2.2).1.1.2) ((aG a0 a1.1).1.1,(aG a0 a1.1).1.2)) with
    | true =>
     try have h5f:=cY h0
     try have hx1:=(fun _=>eD a0 ((aG a0 a1.1).1.1,(aG a0 a1.1).1.2) a1.2.2.1 a1.2.2.2.2 hb2.1 hb2.2) h0
     try have hx2:=(fun _=>eE a0 ((aG a0 a1.1).1.1,(aG a0 a1.1).1.2) a1.2.2.1 a1.2.2.2.2 hb2.1 hb2.2) h0
     let t4:List (St Tryz.prog):=(t3++[.d h3,.c [7,10] (aJe (cD a0 ((aG a0 a1.1).1.1,(aG a0 a1.1).1.2) a1.2.2.1 a1.2.2.2.2).1.2.1 (bR a0 ((aG a0 a1.1).1.1,(aG a0 a1.1).1.2) a1.2.2.1 a1.2.2.2.2).2.1.2.1 (by(try simp only [Lt]);omega) (by(try simp only [Lt]);omega))])
     cases h4:(iI (cD a0 ((aG a0 a1.1).1.1,(aG a0 a1.1).1.2) a1.2.2.1 a1.2.2.2.2).1.2.1 (bR a0 ((aG a0 a1.1).1.1,(aG a0 a1.1).1.2) a1.2.2.1 a1.2.2.2.2).2.1.2.1) with
     | true =>
      try have h5f:=cY h0
      try have hx1:=(fun _=>eD a0 ((aG a0 a1.1).1.1,(aG a0 a1.1).1.2) a1.2.2.1 a1.2.2.2.2 hb2.1 hb2.2) h0
      try have hx2:=(fun _=>eE a0 ((aG a0 a1.1).1.1,(aG a0 a1.1).1.2) a1.2.2.1 a1.2.2.2.2 hb2.1 hb2.2) h0
      let t5:List (St Tryz.prog):=(t4++[.d h4,.c [8,11] (aJu (cD a0 ((aG a0 a1.1).1.1,(aG a0 a1.1).1.2) a1.2.2.1 a1.2.2.2.2).1.2.2 (bR a0 ((aG a0 a1.1).1.1,(aG a0 a1.1).1.2) a1.2.2.1 a1.2.2.2.2).2.1.2.2 (by(try simp only [Lt]);omega) (by(try simp only [Lt]);omega) (aJr _ _ _ _) (aJs _ _ _ _))])
      cases h5:(iK (cD a0 ((aG a0 a1.1).1.1,(aG a0 a1.1).1.2) a1.2.2.1 a1.2.2.2.2).1.2.2 (bR a0 ((aG a0 a1.1).1.1,(aG a0 a1.1).1.2) a1.2.2.1 a1.2.2.2.2).2.1.2.2) with
      | true =>
       try have h5f:=cY h0
       try have hx1:=(fun _=>eD a0 ((aG a0 a1.1).1.1,(aG a0 a1.1).1.2) a1.2.2.1 a1.2.2.2.2 hb2.1 hb2.2) h0
       try have hx2:=(fun _=>eE a0 ((aG a0 a1.1).1.1,(aG a0 a1.1).1.2) a1.2.2.1 a1.2.2.2.2 hb2.1 hb2.2) h0
       let t6:List (St Tryz.prog):=(t5++[.d h5,.c [5,6,7,8] (C12 (((cD a0 ((aG a0 a1.1).1.1,(aG a0 a1.1).1.2) a1.2.2.1 a1.2.2.2.2).1.1.1,(cD a0 ((aG a0 a1.1).1.1,(aG a0 a1.1).1.2) a1.2.2.1 a1.2.2.2.2).1.1.2),(cD a0 ((aG a0 a1.1).1.1,(aG a0 a1.1).1.2) a1.2.2.1 a1.2.2.2.2).1.2.1,(cD a0 ((aG a0 a1.1).1.1,(aG a0 a1.1).1.2) a1.2.2.1 a1.2.2.2.2).1.2.2) (by(try simp only [Lt]);omega) (by(try simp only [Lt]);omega) (by(try simp only [Lt]);omega) (by(try simp only [Lt]);omega)),.c [2,3,10,11] (C13 (((aG a0 a1.1).1.1,(aG a0 a1.1).1.2),(bR a0 ((aG a0 a1.1).1.1,(aG a0 a1.1).1.2) a1.2.2.1 a1.2.2.2.2).2.1.2.1,(bR a0 ((aG a0 a1.1).1.1,(aG a0 a1.1).1.2) a1.2.2.1 a1.2.2.2.2).2.1.2.2) (by(try simp only [Lt]);omega) (by(try simp only [Lt]);omega) (by(try simp only [Lt]);omega) (by(try simp only [Lt]);omega))])
       cases h6:(((F12 (((cD a0 ((aG a0 a1.1).1.1,(aG a0 a1.1).1.2) a1.2.2.1 a1.2.2.2.2).1.1.1,(cD a0 ((aG a0 a1.1).1.1,(aG a0 a1.1).1.2) a1.2.2.1 a1.2.2.2.2).1.1.2),(cD a0 ((aG a0 a1.1).1.1,(aG a0 a1.1).1.2) a1.2.2.1 a1.2.2.2.2).1.2.1,(cD a0 ((aG a0 a1.1).1.1,(aG a0 a1.1).1.2) a1.2.2.1 a1.2.2.2.2).1.2.2)):Int) == (F13 (((aG a0 a1.1).1.1,(aG a0 a1.1).1.2),(bR a0 ((aG a0 a1.1).1.1,(aG a0 a1.1).1.2) a1.2.2.1 a1.2.2.2.2).2.1.2.1,(bR a0 ((aG a0 a1.1).1.1,(aG a0 a1.1).1.2) a1.2.2.1 a1.2.2.2.2).2.1.2.2))) with
       | true =>
        have q6:=eq_of_beq h6
        try have h5f:=cY h0
        try have hx1:=(fun _=>eD a0 ((aG a0 a1.1).1.1,(aG a0 a1.1).1.2) a1.2.2.1 a1.2.2.2.2 hb2.1 hb2.2) h0
        try have hx2:=(fun _=>eE a0 ((aG a0 a1.1).1.1,(aG a0 a1.1).1.2) a1.2.2.1 a1.2.2.2.2 hb2.1 hb2.2) h0
        have e:=Eq.refl (iL a0 a1);conv at e=>rhs;simp only [iL,h0,h1,h2,h3,h4,h5,h6,aS]
        rw [e]
        exact rt (t6++[.d h6,.c [] (C5)]) [] [] hcx (by kernel_rfl)
       | false =>
        have q6:=ne_of_beq_false h6
        try have h5f:=cY h0
        try have hx1:=(fun _=>eD a0 ((aG a0 a1.1).1.1,(aG a0 a1.1).1.2) a1.2.2.1 a1.2.2.2.2 hb2.1 hb2.2) h0
        try have hx2:=(fun _=>eE a0 ((aG a0 a1.1).1.1,(aG a0 a1.1).1.2) a1.2.2.1 a1.2.2.2.2 hb2.1 hb2.2) h0
        have e:=Eq.refl (iL a0 a1);conv at e=>rhs;simp only [iL,h0,h1,h2,h3,h4,h5,h6,aS]
        rw [e]
        exact rt (t6++[.d h6]) [] [] hcx (by kernel_rfl)
      | false =>
       try have h5f:=cY h0
       try have hx1:=(fun _=>eD a0 ((aG a0 a1.1).1.1,(aG a0 a1.1).1.2) a1.2.2.1 a1.2.2.2.2 hb2.1 hb2.2) h0
       try have hx2:=(fun _=>eE a0 ((aG a0 a1.1).1.1,(aG a0 a1.1).1.2) a1.2.2.1 a1.2.2.2.2 hb2.1 hb2.2) h0
       have e:=Eq.refl (iL a0 a1);conv at e=>rhs;simp only [iL,h0,h1,h2,h3,h4,h5,aS]
       rw [e]
       exact rt (t5++[.d h5]) [] [] hcx (by kernel_rfl)
     | false =>
      try have h5f:=cY h0
      try have hx1:=(fun _=>eD a0 ((aG a0 a1.1).1.1,(aG a0 a1.1).1.2) a1.2.2.1 a1.2.2.2.2 hb2.1 hb2.2) h0
      try have hx2:=(fun _=>eE a0 ((aG a0 a1.1).1.1,(aG a0 a1.1).1.2) a1.2.2.1 a1.2.2.2.2 hb2.1 hb2.2) h0
      have e:=Eq.refl (iL a0 a1);conv at e=>rhs;simp only [iL,h0,h1,h2,h3,h4,aS]
      rw [e]
      exact rt (t4++[.d h4]) [] [] hcx (by kernel_rfl)
    | false =>
     try have h5f:=cY h0
     try have hx1:=(fun _=>eD a0 ((aG a0 a1.1).1.1,(aG a0 a1.1).1.2) a1.2.2.1 a1.2.2.2.2 hb2.1 hb2.2) h0
     try have hx2:=(fun _=>eE a0 ((aG a0 a1.1).1.1,(aG a0 a1.1).1.2) a1.2.2.1 a1.2.2.2.2 hb2.1 hb2.2) h0
     have e:=Eq.refl (iL a0 a1);conv at e=>rhs;simp only [iL,h0,h1,h2,h3,aS]
     rw [e]
     exact rt (t3++[.d h3]) [] [] hcx (by kernel_rfl)
   | false =>
    have q2:=ne_of_beq_false h2
    try have h5f:=cY h0
    try have hx1:=(fun _=>eD a0 ((aG a0 a1.1).1.1,(aG a0 a1.1).1.2) a1.2.2.1 a1.2.2.2.2 hb2.1 hb2.2) h0
    try have hx2:=(fun _=>eE a0 ((aG a0 a1.1).1.1,(aG a0 a1.1).1.2) a1.2.2.1 a1.2.2.2.2 hb2.1 hb2.2) h0
    have e:=Eq.refl (iL a0 a1);conv at e=>rhs;simp only [iL,h0,h1,h2,aS]
    rw [e]
    exact rt (t2++[.d h2]) [] [] hcx (by kernel_rfl)
end Go.Proofs.YtmihafgemmgepaaGreat
namespace Go.Proofs.YtmihafgemmgepaaGreat
open Go.Proofs Go.Aw Go.RowKit
set_option maxRecDepth 100000
theorem aBi (l:List (List (Int×Int))):iK l l=true:=by
 unfold iK
 rw [show(((l.length:Int):Int) != (l.length:Int))=false by simp,cond_false]
 refine aAg (N:=l.length) (fun i hi=>?_) ?_ l.length 0 _ (by omega) (by omega) (by omega)
 · simp only [fO]
   rw [cN (show((i:Nat):Int) < (l.length:Nat) by omega),cond_true,aHr]
   rfl
 · simp only [fO]
   rw [dQ (Int.lt_irrefl _),cond_false]
theorem aBj (b:LBK):iI b b=true:=by
 have run:∀(d n i:Nat),b.length - i=d->i<=b.length->d < n->aC (eZ b b) n (i:Int)=true:=by
   intro d
   induction d with
   | zero =>
     intro n i hd hi hn
     obtain⟨n,rfl⟩:∃q,n=q+1:=⟨n - 1,by omega⟩
     refine aY ?_
     simp only [eZ]
     rw [dQ (show ¬(i:Int) < (b.length:Int) by omega)]
     rfl
   | succ d ih =>
     intro n i hd hi hn
     obtain⟨n,rfl⟩:∃q,n=q+1:=⟨n - 1,by omega⟩
     rw [←ih n (i+1) (by omega) (by omega) (by omega)]
     refine aE ?_
     simp only [eZ]
     rw [cN (show(i:Int) < (b.length:Int) by omega)]
     simp
 unfold iI
 rw [show(((b.length:Int):Int) != (b.length:Int))=false by simp,cond_false]
 exact run _ _ 0 rfl (Nat.zero_le _) (by omega)
theorem aNz (o:TR×List BK5×List (List rI)):F12 o=F13 o:=by
 unfold F12 F13
 rw [show aAh o=aAi o from rfl]
theorem aAj (l:eW)(a:Int×P3×Zt):iL l a=true:=by
 unfold iL
 rw [aRw]
 cases hfew:tG l with
 | false=>rfl
 | true =>
   haveI h5:dR l:=aFt hfew
   simp only [Bool.not_true,cond_false]
   generalize ((aG l a.1).1.1,(aG l a.1).1.2)=t
   rw [aNt,aNu]
   have hf:=aK0 l t a.2.2.1 a.2.2.2.2
   generalize oG l t a.2.2.1 a.2.2.2.2=c at *
   cases hc:c.1 with
   | true =>
     simp only [cond_true]
     rw [aNz,show((c.2.1.1.1,c.2.1.1.2):TR)=c.2.1.1 from rfl,zW,aBj,aBi]
     simp
   | false =>
     simp only [cond_false]
     have e:=hf.2 hc
     rw [aNz,show((c.2.1.1.1,c.2.1.1.2):TR)=t from e,zW,aBj,aBi]
     simp
end Go.Proofs.YtmihafgemmgepaaGreat
