/-
  Parts of the proofs of the laws: the executor, what functions of the program compute, and that it is what the statements ask. No premise.
-/
import Derived.Test.YtcmdknehplnpfaaGreatVPhi4
set_option linter.unusedVariables false
set_option linter.unusedSimpArgs false
set_option maxHeartbeats 4000000
open Int renaming toNat → tN
open Inhabited renaming default → dF
namespace Go.Proofs.YtcmdknehplnpfaaGreat
open Go.Proofs Go.Aw Go.RowKit
set_option maxRecDepth 100000
section
variable {α β : Type} [DecidableEq α]
theorem mJ (e:α×β)(l:List (α×β))(k:α)(d:β):aT (e::l) k d=if e.1=k then e.2 else aT l k d:=by
 unfold aT
 simp only [eH]
 by_cases h:e.1=k
 ·rw [if_pos h,if_pos h]
 ·rw [if_neg h,if_neg h]
  cases eH k l<;>rfl
theorem aK7 (e:α×β)(l:List (α×β))(k:α)(v:β):cK (e::l) k v=if e.1=k then(k,v)::l else e::cK l k v:=by
 unfold cK
 simp only [eH]
 by_cases h:e.1=k
 ·rw [if_pos h,if_pos h];rfl
 ·rw [if_neg h,if_neg h]
  cases eH k l<;>rfl
theorem aAu:∀(l:List (α×β)) (k k':α) (v d:β),aT (cK l k v) k' d=if k=k' then v else aT l k' d
 | [],k,k',v,d=>by
  show aT [(k,v)] k' d=_
  rw [mJ]
 | e::l,k,k',v,d=>by
  rw [aK7]
  by_cases h:e.1=k
  ·rw [if_pos h,mJ,mJ]
   by_cases h':k=k'
   ·rw [if_pos h',if_pos h']
   ·rw [if_neg h',if_neg h',if_neg (fun x=>h' (h▸x))]
  ·rw [if_neg h,mJ,mJ,aAu l k k' v d]
   by_cases h':k=k'
   ·rw [if_neg (fun x=>h (x.trans h'.symm)),if_pos h',if_pos h']
   ·rw [if_neg h',if_neg h']
theorem aAv (k:α)(d:β):aT ([]:List (α×β)) k d=d:=rfl
end
theorem aGm {S R:Type} [Inhabited R] {f g:S->S⊕R} (I:S->Prop)(hI:∀s,I s->f s=g s)(hp:∀s s',I s->f s=.inl s'->I s'):∀(n:Nat) (s:S),I s->aB f n s=aB g n s:=by
 intro n
 induction n with
 | zero=>intro s _;rfl
 | succ n ih =>
  intro s hs
  have e:=hI s hs
  cases h:f s with
  | inl s'=>rw [aA h,aA (e▸h)];exact ih s' (hp s s' hs h)
  | inr r=>rw [aO h,aO (e▸h)]
theorem bM {α σ R:Type} (g:σ->α->σ):∀(l:List α) (v:σ),gG (R:=R) (fun v c=>.inl (g v c)) l v=.inl (l.foldl g v)
 | [],_=>rfl
 | c::l,v=>by simp only [gG,List.foldl_cons];exact bM g l (g v c)
theorem bE {α:Type} [Inhabited α] {L:List α} {i:Nat} {c:α} (h:L[i]? = some c):L.getD (tN (i:Int)) dF=c:=by
 rw [sJ,eU,h];rfl
abbrev ME:=List P3×List P3
def tri (f:P3)(p q:Int):Int:=(if f.1=p/\f.2.1=q then 1 else 0)+(if f.2.1=p/\f.2.2=q then 1 else 0)+(if f.2.2=p/\f.1=q then 1 else 0)
def cnt:List P3->Int->Int->Int
 | [],_,_=>0
 | f::l,p,q=>tri f p q+cnt l p q
theorem aOn (f:P3)(p q:Int):0<=tri f p q/\tri f p q<=3:=by unfold tri;split<;>split<;>split<;>omega
theorem aOo (a b c d:Int):(if a=b/\c=d then(1:Int) else 0)=bif (a == b)&&(c == d) then 1 else 0:=by
 rcases Decidable.em (a=b) with h1 | h1<;>rcases Decidable.em (c=d) with h2 | h2
 ·rw [if_pos ⟨h1,h2⟩,beq_iff_eq.2 h1,beq_iff_eq.2 h2];rfl
 ·rw [if_neg (fun h=>h2 h.2),beq_eq_false_iff_ne.2 h2,Bool.and_false];rfl
 ·rw [if_neg (fun h=>h1 h.1),beq_eq_false_iff_ne.2 h1];rfl
 ·rw [if_neg (fun h=>h1 h.1),beq_eq_false_iff_ne.2 h1];rfl
theorem aXe (m:ME)(h:m.2.length<=96)(p q:Int):F43 m p q=cnt m.2 p q:=by
 unfold F43
 rw [aX (fun v i=>(v,i)) (fun v c=>.inl (v+tri c p q)) (fun v=>v) (L:=m.2) (fun i v=>0<=v/\v<=3*(i:Int)) ?_ ?_ ?_ (by omega) ⟨by omega,by omega⟩]
 ·have key:∀(l:List P3) (v:Int),l.foldl (fun v c=>v+tri c p q) v=v+cnt l p q:=by
   intro l
   induction l with
   | nil=>intro v;simp [cnt]
   | cons c l ih=>intro v;rw [List.foldl_cons,ih];simp only [cnt];omega
  rw [bM,key];simp [xH]
 ·intro i c hc v hv
  obtain⟨hlt,hce⟩:=List.getElem?_eq_some_iff.1 hc
  have w1:W (v+1)=v+1:=aF (by omega) (by omega)
  have w2:W (v+1+1)=v+1+1:=aF (by omega) (by omega)
  have w3:W (v+1+1+1)=v+1+1+1:=aF (by omega) (by omega)
  simp only [bC]
  rw [cA (by omega),cond_true,bE hc]
  unfold tri
  rw [aOo,aOo,aOo]
  generalize (c.1 == p)=b1,(c.2.1 == q)=b2,(c.2.1 == p)=b3,(c.2.2 == q)=b4,(c.2.2 == p)=b5,(c.1 == q)=b6
  have fin:∀{a b:Int},a=b->(Sum.inl (a,(i:Int)+1):(Int×Int)⊕Int)=Sum.inl (b,((i+1:Nat):Int)):=fun h=>by rw [h];rfl
  cases b1<;>cases b2<;>cases b3<;>cases b4<;>cases b5<;>cases b6<;>simp only [Bool.and_true,Bool.and_false,Bool.and_self,cond_true,cond_false,w1,w2,w3]<;>exact fin (by omega)
 ·intro i c hc v v' hv e
  have:=aOn c p q
  obtain rfl:=Sum.inl.inj e
  omega
 ·intro v _
  simp only [bC]
  rw [cT (by omega),cond_false]
def rT (v:List ((Int×Int)×Int))(s:Int×Int):List ((Int×Int)×Int):=cK v s (W (aT v s 0+1))
def aK8 (v:List ((Int×Int)×Int))(f:P3):List ((Int×Int)×Int):=rT (rT (rT v (bV f).1) (bV f).2.1) (bV f).2.2
theorem aEk {v:List ((Int×Int)×Int)} {s:Int×Int} (t:Int×Int)(h:0<=aT v s 0/\aT v s 0<=1000):aT (rT v s) t 0=aT v t 0+(if s=t then 1 else 0):=by
 unfold rT
 rw [aAu,aF (by omega) (by omega)]
 by_cases e:s=t
 ·subst e;rw [if_pos rfl,if_pos rfl]
 ·rw [if_neg e,if_neg e];omega
theorem aOp {v:List ((Int×Int)×Int)} {B:Int} (hB:∀t,0<=aT v t 0/\aT v t 0<=B)(hb:B<=900)(f:P3)(t:Int×Int):aT (aK8 v f) t 0=aT v t 0+tri f t.1 t.2:=by
 have g1:∀t,aT (rT v (bV f).1) t 0=aT v t 0+(if(bV f).1=t then 1 else 0):=fun t=>aEk t (by have:=hB (bV f).1;omega)
 have b1:∀t,0<=aT (rT v (bV f).1) t 0/\aT (rT v (bV f).1) t 0<=B+1:=fun t=>by rw [g1];have:=hB t;split<;>omega
 have g2:∀t,aT (rT (rT v (bV f).1) (bV f).2.1) t 0=aT (rT v (bV f).1) t 0+(if(bV f).2.1=t then 1 else 0):=fun t=>aEk t (by have:=b1 (bV f).2.1;omega)
 have b2:∀t,0<=aT (rT (rT v (bV f).1) (bV f).2.1) t 0/\aT (rT (rT v (bV f).1) (bV f).2.1) t 0<=B+2:=fun t=>by rw [g2];have:=b1 t;split<;>omega
 unfold aK8
 rw [aEk t (by have:=b2 (bV f).2.2;omega),g2,g1]
 unfold tri bV
 simp only [Prod.ext_iff]
 omega
theorem aJy:∀(l:List P3) (v:List ((Int×Int)×Int)) (B:Int),(∀t,0<=aT v t 0/\aT v t 0<=B)->B+3*l.length<=900->∀t:Int×Int,aT (l.foldl aK8 v) t 0=aT v t 0+cnt l t.1 t.2
 | [],v,B,_,_,t=>by simp [cnt]
 | f::l,v,B,hB,hb,t=>by
  simp only [List.length_cons] at hb
  have g:=aOp hB (by omega) f
  rw [List.foldl_cons,aJy l (aK8 v f) (B+3) (fun t=>by rw [g];have:=hB t;have:=aOn f t.1 t.2;omega) (by omega) t,g]
  simp only [cnt];omega
theorem aXf (m:ME):wT m=m.2.foldl aK8 []:=by
 unfold wT
 rw [aX (fun v i=>(v,i)) (fun v c=>.inl (aK8 v c)) (fun v=>v) (L:=m.2) (fun _ _=>True) ?_ (fun _ _ _ _ _ _ _=>trivial) ?_ (by omega) trivial]
 ·rw [bM];rfl
 ·intro i c hc v _
  obtain⟨hlt,hce⟩:=List.getElem?_eq_some_iff.1 hc
  simp only [wS]
  rw [cA (by omega),cond_true,bE hc]
  rfl
 ·intro v _
  simp only [wS]
  rw [cT (by omega),cond_false]
theorem aZl (m:ME)(h:m.2.length<=96)(t:Int×Int):aT (wT m) t 0=cnt m.2 t.1 t.2:=by
 rw [aXf,aJy m.2 [] 0 (fun t=>by rw [aAv];omega) (by omega) t,aAv];omega
theorem aXg (x y:Int):W (x+W (-1*y))=W (x - y):=by
 rw [aJe (-1*y)]
 split<;>rw [aJe,aJe]<;>split<;>split<;>omega
theorem aOq (a b:P3):zR a b=cW a b:=by
 unfold zR aKx cW
 simp only [aXg]
theorem aUh (p:PN):F88 p=kD p:=by
 unfold F88 kD
 rw [aOq,aOq];rfl
theorem aXh (m:ME):F59 m=m.2.foldl (fun v c=>W (v+F91 (mI m c))) 0:=by
 unfold F59
 rw [aX (fun v i=>(v,i)) (fun v c=>.inl (W (v+F91 c))) (fun v=>v) (L:=pY m) (fun _ _=>True) ?_ (fun _ _ _ _ _ _ _=>trivial) ?_ (by show _ < tN ((((pY m).length:Nat):Int) - 0)+1;omega) trivial]
 ·rw [bM,aEi,List.foldl_map];rfl
 ·intro i c hc v _
  obtain⟨hlt,hce⟩:=List.getElem?_eq_some_iff.1 hc
  simp only [wU]
  rw [cA (show((i:Nat):Int) < (((pY (m.1,m.2)).length:Nat):Int) from by show((i:Nat):Int) < (((pY m).length:Nat):Int);omega),cond_true,show(pY (m.1,m.2)).getD (tN (i:Int)) dF=c from bE hc]
  rfl
 ·intro v _
  simp only [wU]
  rw [cT (show ¬(((pY m).length:Nat):Int) < (((pY (m.1,m.2)).length:Nat):Int) from by show ¬(((pY m).length:Nat):Int) < (((pY m).length:Nat):Int);omega),cond_false]
theorem aXi (m:ME):F44 m=m.2.foldl (fun v c=>W (v+F91 (mI m c))) 0:=by
 unfold F44
 rw [aX (fun v i=>(v,i)) (fun v c=>.inl (W (v+F91 (mI m c)))) (fun v=>v) (L:=m.2) (fun _ _=>True) ?_ (fun _ _ _ _ _ _ _=>trivial) ?_ (by omega) trivial]
 ·rw [bM];rfl
 ·intro i c hc v _
  obtain⟨hlt,hce⟩:=List.getElem?_eq_some_iff.1 hc
  simp only [wV]
  have hp:vK (m.1,m.2) (i:Int)=mI m c:=by
   unfold vK
   simp only [bE hc];rfl
  rw [cA (by omega),cond_true,hp]
  rfl
 ·intro v _
  simp only [wV]
  rw [cT (by omega),cond_false]
theorem aUi (m:ME):F59 m=F44 m:=by rw [aXh,aXi]
theorem aUj (m:ME):∀(n:Nat) (v:List Bool) (i:Int),0<=i->aB (iZ m) n (v,(v.length:Int),i)=aB (jB m) n (v,i):=by
 intro n
 induction n with
 | zero=>intro v i _;rfl
 | succ n ih =>
  intro v i hi
  by_cases h:i < (v.length:Int)
  ·cases hb:v.getD (tN i) dF with
   | true =>
    have e1:iZ m (v,(v.length:Int),i)=.inl (v,(v.length:Int),i+1):=by
     simp only [iZ];rw [cA h,cond_true,hb];rfl
    have e2:jB m (v,i)=.inl (v,i+1):=by
     simp only [jB];rw [cA h,cond_true,hb];rfl
    rw [aA e1,aA e2];exact ih v (i+1) (by omega)
   | false =>
    have e1:iZ m (v,(v.length:Int),i)=.inr 5:=by
     simp only [iZ];rw [cA h,cond_true,hb];rfl
    have e2:jB m (v,i)=.inr 5:=by
     simp only [jB];rw [cA h,cond_true,hb];rfl
    rw [aO e1,aO e2]
  ·have e1:iZ m (v,(v.length:Int),i)=.inr (bif decide (F44 m<=0) then 8 else 0):=by
    simp only [iZ];rw [cT h,cond_false,show F59 (m.1,m.2)=F44 m from aUi m]
    cases decide (F44 m<=0)<;>rfl
   have e2:jB m (v,i)=.inr (bif decide (F44 m<=0) then 8 else 0):=by
    simp only [jB];rw [cT h,cond_false,show F44 (m.1,m.2)=F44 m from rfl]
    cases decide (F44 m<=0)<;>rfl
   rw [aO e1,aO e2]
theorem aUk (m:ME)(h:m.2.length<=96)(n:Nat)(v:List Bool):aB (gH m) n (v,0)=aB (gU m) n (v,0):=by
 refine aGm (fun s=>0<=s.2) (fun s hs=>?_) (fun s s' hs e=>?_) n (v,0) (Int.le_refl 0)
 ·obtain⟨v,i⟩:=s
  simp only at hs
  simp only [gH,gU]
  rw [aUj m _ v 0 (Int.le_refl 0)]
  have hc:∀t,aT (wT (m.1,m.2)) t 0=cnt m.2 t.1 t.2:=aZl m h
  have he:∀p q,F43 (m.1,m.2) p q=cnt m.2 p q:=aXe m h
  simp only [hc,he,bV,F58]
 ·obtain⟨v,i⟩:=s
  simp only [gH] at e
  by_cases hlt:i < (m.2.length:Int)
  ·rw [cA hlt,cond_true] at e
   simp only at hs
   have step:∀(b:Bool) (x y:(List Bool×Int)⊕Int),(bif b then x else y)=.inl s'->(∀r,x≠.inl r)->y=.inl s':=fun b x y h hx=>by
    cases b
    ·exact h
    ·exact absurd h (hx s')
   have e:=step _ _ _ e (fun r h=>by cases h)
   have e:=step _ _ _ e (fun r h=>by cases h)
   have e:=step _ _ _ e (fun r h=>by cases h)
   have e:=step _ _ _ e (fun r h=>by cases h)
   have e:=step _ _ _ e (fun r h=>by cases h)
   have e:=step _ _ _ e (fun r h=>by cases h)
   obtain rfl:=Sum.inl.inj e
   show 0<=i+1
   omega
  ·rw [cT hlt,cond_false] at e;cases e
theorem aQx {n:Nat} (x:Int)(h:n<=64):(!oR x 0 (W (((n:Nat):Int) - 1)))=(decide (x < 0) || decide (x≥((n:Nat):Int))):=by
 rw [aF (by omega) (by omega)]
 unfold oR
 by_cases h1:x < 0
 ·rw [cA h1,cT (by omega)];rfl
 ·rw [cT h1,cA (by omega),cond_true]
  by_cases h2:x≥((n:Nat):Int)
  ·rw [cA h2,cT (by omega)];rfl
  ·rw [cT h2,cA (by omega)];rfl
theorem aUl (m:ME)(h64:m.1.length<=64)(h:m.2.length<=96)(n:Nat)(v:List Bool):aB (jA m) n (v,0)=aB (eZ m) n (v,0):=by
 have main:∀s:List Bool×Int,0<=s.2->jA m s=eZ m s/\∀s',jA m s=.inl s'->0<=s'.2:=by
  rintro ⟨v,i⟩ hs
  simp only at hs
  simp only [jA,eZ]
  rw [aUk m h _ v]
  have hp:vK (m.1,m.2) i=mI (m.1,m.2) (m.2.getD (tN i) dF):=rfl
  rw [hp]
  unfold F55
  simp only [aQx _ h64,aUh]
  generalize m.2.getD (tN i) dF=c
  generalize kD (mI (m.1,m.2) c)=q
  generalize ((q.1 == 0)&&((q.2.1 == 0)&&((q.2.2 == 0)&&true)))=b7
  generalize decide (c.1 < 0)=b1,decide (c.1≥(m.1.length:Int))=b2,decide (c.2.1 < 0)=b3,decide (c.2.1≥(m.1.length:Int))=b4,decide (c.2.2 < 0)=b5,decide (c.2.2≥(m.1.length:Int))=b6,decide (i < (m.2.length:Int))=b0
  cases b0
  case false=>exact⟨rfl,fun s' e=>by cases e⟩
  cases b1
  case true=>exact⟨rfl,fun s' e=>by cases e⟩
  cases b2
  case true=>exact⟨rfl,fun s' e=>by cases e⟩
  cases b3
  case true=>exact⟨rfl,fun s' e=>by cases e⟩
  cases b4
  case true=>exact⟨rfl,fun s' e=>by cases e⟩
  cases b5
  case true=>exact⟨rfl,fun s' e=>by cases e⟩
  cases b6
  case true=>exact⟨rfl,fun s' e=>by cases e⟩
  cases b7
  case true=>exact⟨rfl,fun s' e=>by cases e⟩
  exact⟨rfl,fun s' e=>by obtain rfl:=Sum.inl.inj e;show 0<=i+1;omega⟩
 exact aGm (fun s=>0<=s.2) (fun s hs=>(main s hs).1) (fun s s' hs e=>(main s hs).2 s' e) n (v,0) (Int.le_refl 0)
theorem aUm (a b:P3):(((a.1:Int) == b.1)&&(((a.2.1:Int) == b.2.1)&&(((a.2.2:Int) == b.2.2)&&true)))=decide (a=b):=by
 rw [Bool.eq_iff_iff]
 simp only [Bool.and_eq_true,beq_iff_eq,and_true,decide_eq_true_eq,Prod.ext_iff]
theorem aXj (m:ME)(i:Nat):∀(n k:Nat),i - k < n->(∃j,k<=j/\j < i/\m.1.getD j dF=m.1.getD i dF)->aB (jL m) n ((i:Int),(k:Int))=.inr 1:=by
 intro n
 induction n with
 | zero=>intro k hk;omega
 | succ n ih =>
  intro k hk ⟨j,h1,h2,h3⟩
  by_cases e:m.1.getD i dF=m.1.getD k dF
  ·refine aO ?_
   simp only [jL]
   rw [cA (by omega),cond_true,sJ,sJ,aUm,cA e];rfl
  ·have h:jL m ((i:Int),(k:Int))=.inl ((i:Int),((k+1:Nat):Int)):=by
    simp only [jL]
    rw [cA (by omega),cond_true,sJ,sJ,aUm,cT e];rfl
   rw [aA h]
   have:j≠k:=fun x=>e (x▸h3.symm)
   exact ih (k+1) (by omega) ⟨j,by omega,h2,h3⟩
theorem aXk (m:ME)(i:Nat):∀(n k:Nat),k<=i->i - k < n->(∀j,k<=j->j < i->m.1.getD j dF≠m.1.getD i dF)->aB (jL m) n ((i:Int),(k:Int))=.inl ((i:Int)+1):=by
 intro n
 induction n with
 | zero=>intro k _ hk;omega
 | succ n ih =>
  intro k hki hk hj
  by_cases hlt:k < i
  ·have h:jL m ((i:Int),(k:Int))=.inl ((i:Int),((k+1:Nat):Int)):=by
    simp only [jL]
    rw [cA (by omega),cond_true,sJ,sJ,aUm,cT (fun e=>hj k (Nat.le_refl k) hlt e.symm)];rfl
   rw [aA h]
   exact ih (k+1) (by omega) (by omega) (fun j h1 h2=>hj j (by omega) h2)
  ·refine aO ?_
   simp only [jL]
   rw [cT (by omega),cond_false]
open Classical in
theorem aIe (p:P3):F87 p 64=F40 p 64:=by rw [kR,pP]
theorem aUn (m:ME):∀(n i:Nat) (v:List (P3×Bool)),i<=m.1.length->m.1.length - i < n->(∀q,aT v q false=true↔∃j,j < i/\m.1.getD j dF=q) ->
 aB (hZ m) n (i:Int)=bif (aB (eJ m) n (v,(i:Int)) != 0) then aB (eJ m) n (v,(i:Int)) else aB (eZ m) (tN ((m.2.length:Int) - 0)+1) ((List.replicate (tN (m.1.length:Int)) false),0):=by
 intro n
 induction n with
 | zero=>intro i v _ h;omega
 | succ n ih =>
  intro i v hi hn hv
  by_cases hlt:i < m.1.length
  ·have hw:((i:Nat):Int) < (m.1.length:Int):=by omega
   cases hr:F87 (m.1.getD i dF) 64 with
   | false =>
    have e1:eJ m (v,(i:Int))=.inr 1:=by
     simp only [eJ];rw [cA hw,cond_true,sJ,hr];rfl
    have e2:hZ m (i:Int)=.inr 1:=by
     simp only [hZ];rw [cA hw,cond_true,sJ,←aIe,hr];rfl
    rw [aO e1,aO e2];rfl
   | true =>
    cases hg:aT v (m.1.getD i dF) false with
    | true =>
     have e1:eJ m (v,(i:Int))=.inr 1:=by
      simp only [eJ];rw [cA hw,cond_true,sJ,hr,hg];rfl
     obtain⟨j,h1,h2⟩:=(hv _).1 hg
     have e2:hZ m (i:Int)=.inr 1:=by
      simp only [hZ];rw [cA hw,cond_true,sJ,←aIe,hr]
      exact aXj m i _ 0 (by omega) ⟨j,by omega,h1,h2⟩
     rw [aO e1,aO e2];rfl
    | false =>
     have e1:eJ m (v,(i:Int))=.inl (cK v (m.1.getD i dF) true,((i+1:Nat):Int)):=by
      simp only [eJ];rw [cA hw,cond_true,sJ,hr,hg];rfl
     have e2:hZ m (i:Int)=.inl ((i+1:Nat):Int):=by
      simp only [hZ];rw [cA hw,cond_true,sJ,←aIe,hr]
      exact aXk m i _ 0 (by omega) (by omega) (fun j _ h2 h3=>by
       have:=(hv _).2 ⟨j,h2,h3⟩
       rw [hg] at this;cases this)
     rw [aA e1,aA e2]
     refine ih (i+1) _ (by omega) (by omega) (fun q=>?_)
     rw [aAu]
     by_cases e:m.1.getD i dF=q
     ·rw [if_pos e];exact⟨fun _=>⟨i,by omega,e⟩,fun _=>rfl⟩
     ·rw [if_neg e,hv]
      constructor
      ·rintro ⟨j,h1,h2⟩;exact⟨j,by omega,h2⟩
      ·rintro ⟨j,h1,h2⟩
       refine⟨j,?_,h2⟩
       rcases Nat.lt_or_ge j i with h | h
       ·exact h
       ·have:j=i:=by omega
        exact absurd (this▸h2) e
  ·have hw:¬((i:Nat):Int) < (m.1.length:Int):=by omega
   have e1:eJ m (v,(i:Int))=.inr 0:=by
    simp only [eJ];rw [cT hw,cond_false]
   have e2:hZ m (i:Int)=.inr (aB (eZ m) (tN ((m.2.length:Int) - 0)+1) ((List.replicate (tN (m.1.length:Int)) false),0)):=by
    simp only [hZ];rw [cT hw,cond_false]
   rw [aO e1,aO e2];rfl
theorem aEl (m:ME):fW m=wW m:=by
 unfold fW wW
 by_cases h1:(m.1.length:Int) > 64
 ·rw [cA h1];rfl
 ·rw [cT h1,cond_false,cond_false,show F39 (m.2.length:Int) 1 96=oR (m.2.length:Int) 1 96 from rfl]
  cases h2:(!oR (m.2.length:Int) 1 96) with
  | true=>rfl
  | false =>
   rw [cond_false,cond_false]
   have g:=gN h2
   rw [aUl m (by omega) (by omega)]
   have hp:=aUn m (tN ((m.1.length:Int) - 0)+1) 0 [] (by omega) (by omega) (fun q=>by
    rw [aAv]
    constructor
    ·intro h;cases h
    ·rintro ⟨j,h,_⟩;omega)
   exact hp.symm
end Go.Proofs.YtcmdknehplnpfaaGreat
namespace Go.Proofs.YtcmdknehplnpfaaGreat
open Go.Proofs Go.Aw Go.RowKit
set_option maxRecDepth 100000
theorem okl (m:ME)(h64:m.1.length<=64):∀(n:Nat) (v:List Bool) (i:Int),0<=i->tN ((m.2.length:Int) - i) < n->aB (jA m) n (v,i)=0->∀j:Int,i<=j->j < (m.2.length:Int)->F55 m (m.2.getD (tN j) dF)=0:=by
 intro n
 induction n with
 | zero=>intro v i _ h;omega
 | succ n ih =>
  intro v i hi hn h j h1 h2
  have hlt:i < (m.2.length:Int):=by omega
  cases hf:((F55 (m.1,m.2) (m.2.getD (tN i) dF):Int) != 0) with
  | true =>
   have e:jA m (v,i)=.inr (F55 (m.1,m.2) (m.2.getD (tN i) dF)):=by
    simp only [jA];rw [cA hlt,cond_true,hf,cond_true]
   rw [aO e] at h
   exact absurd h (bne_iff_ne.1 hf)
  | false =>
   by_cases hj:j=i
   ·subst hj;exact bne_eq_false_iff_eq.1 hf
   ·have e:jA m (v,i)=.inl ((((v.set (tN (m.2.getD (tN i) dF).1) true).set (tN (m.2.getD (tN i) dF).2.1) true).set (tN (m.2.getD (tN i) dF).2.2) true),(i+1)):=by
     simp only [jA];rw [cA hlt,cond_true,hf,cond_false]
    rw [aA e] at h
    exact ih _ (i+1) (by omega) (by omega) h j (by omega) h2
theorem eL {m:ME} (h:fW m=0):m.1.length<=64/\1<=m.2.length/\m.2.length<=96/\F54 m=0/\∀j:Int,0<=j->j < (m.2.length:Int)->F55 m (m.2.getD (tN j) dF)=0:=by
 unfold fW at h
 by_cases h1:(m.1.length:Int) > 64
 ·rw [cA h1,cond_true] at h;exact absurd h (by decide)
 ·rw [cT h1,cond_false] at h
  cases h2:(!oR (m.2.length:Int) 1 96) with
  | true=>rw [h2,cond_true] at h;exact absurd h (by decide)
  | false =>
   have g:=gN h2
   rw [h2,cond_false] at h
   cases h3:((F54 (m.1,m.2):Int) != 0) with
   | true=>rw [h3,cond_true] at h;exact absurd h (bne_iff_ne.1 h3)
   | false =>
    rw [h3,cond_false] at h
    exact⟨by omega,by omega,by omega,bne_eq_false_iff_eq.1 h3,fun j h1 h2=>okl m (by omega) _ _ 0 (Int.le_refl 0) (by omega) h j h1 h2⟩
theorem nI {m:ME} (h:((fW m:Int) != 0)=false):jU m m.2.length/\m.2.length<=96:=by
 obtain⟨h1,_,h3,_,h4⟩:=eL (bne_eq_false_iff_eq.1 h)
 exact⟨fun i g1 g2=>nH (m:=m) (by rw [h4 i g1 g2];rfl) h1,h3⟩
theorem aEm {m:ME} (h:((wW m:Int) != 0)=false):jU m m.2.length/\m.2.length<=96:=by
 rw [←aEl] at h;exact nI h
def bH (a0:Zm):(List (Zt×Zt×Zt))×Int :=
 (bif (((fW (a0.1,a0.2)):Int) != 0) then
  (([]:List (Zt×Zt×Zt)),(fW (a0.1,a0.2)))
 else
  ((pY (a0.1,a0.2)),0))
theorem C63 (a0:Zm)(l0_1:a0.1.length<=2^63-1)(l0_2:a0.2.length<=2^63-1):Con Tryz.prog 63 [(.a [(.s 0 0 a0.1.length 3),(.s 1 0 a0.2.length 3)])] [(.live false true (flat dQ a0.1)),(.live false true (flat eE a0.2))] (.t [(.s 2 0 (bH a0).1.length 9),(iv (bH a0).2)]) [(.live true true (flat jR (bH a0).1))]:=by
 refine aK Tryz.func63 (by kernel_rfl) fun cx hcx=>?_
 let t0:List (St Tryz.prog):=[.c [0,1] (C27 (a0.1,a0.2) (by(try simp only [Lt]);omega) (by(try simp only [Lt]);omega))]
 cases h0:(((fW (a0.1,a0.2)):Int) != 0) with
 | true =>
  have q0:=bne_iff_ne.1 h0
  have e:=Eq.refl (bH a0);conv at e=>rhs;simp only [bH,h0,aJ]
  rw [e]
  exact rt (t0++[.d h0]) [.slot 2 9] [3] hcx (by kernel_rfl)
 | false =>
  have q0:=bne_eq_false_iff_eq.1 h0
  have e:=Eq.refl (bH a0);conv at e=>rhs;simp only [bH,h0,aJ]
  rw [e]
  exact rt (t0++[.d h0,.c [0,1] (C90 (a0.1,a0.2) (by(try simp only [Lt]);omega) (by(try simp only [Lt]);omega) (nI h0).1 (nI h0).2)]) [] [3] hcx (by kernel_rfl)
theorem aSi (m:ME):bH m=bif ((fW m:Int) != 0) then([],fW m) else(m.2.map (mI m),0):=by
 unfold bH
 rw [show pY (m.1,m.2)=m.2.map (mI m) from aEi m]
theorem pZ (m:ME):(bH m).1.length<=96:=by
 rw [aSi]
 cases h:((fW m:Int) != 0) with
 | true=>exact Nat.zero_le _
 | false=>rw [cond_false];show(m.2.map _).length<=96;rw [List.length_map];exact(nI h).2
theorem aXl {R:Type} [Inhabited R] {p:Int->Prop} [DecidablePred p] {G:Int->R} {M:Int} {S:Int×Int->(Int×Int)⊕R} (hS:∀k b,0<=k->0 < b->k+b<=M->S (k,b)=if p (k+b) then .inl (k+b,b / 2) else .inl (k,b / 2))(h0:∀k,0<=k->k<=M->S (k,0)=.inr (G k)) :
 ∀(j f:Nat) (k:Int),j+2<=f->0<=k->k+2*2 ^ j<=M->p k->¬p (k+2*2 ^ j)->∃r,0<=r/\r<=M/\p r/\¬p (r+1)/\aB S f (k,2 ^ j)=G r:=by
 intro j
 induction j with
 | zero =>
  intro f k hf hk hb h1 h2
  obtain⟨f,rfl⟩:∃g,f=g+2:=⟨f - 2,by omega⟩
  simp only [Int.pow_zero] at h2 hb ⊢
  have hs:=hS k 1 hk (by omega) (by omega)
  by_cases hc:p (k+1)
  ·rw [if_pos hc] at hs
   rw [aA hs,show((1:Int) / 2)=0 by omega,aO (h0 _ (by omega) (by omega))]
   exact⟨k+1,by omega,by omega,hc,by rw [show k+1+1=k+2*1 by omega];exact h2,rfl⟩
  ·rw [if_neg hc] at hs
   rw [aA hs,show((1:Int) / 2)=0 by omega,aO (h0 _ hk (by omega))]
   exact⟨k,hk,by omega,h1,hc,rfl⟩
 | succ j ih =>
  intro f k hf hk hb h1 h2
  obtain⟨f,rfl⟩:∃g,f=g+1:=⟨f - 1,by omega⟩
  have hp:(0:Int) < 2 ^ j:=Int.pow_pos (by omega)
  rw [Int.pow_succ] at h2 hb ⊢
  have hs:=hS k (2 ^ j*2) hk (by omega) (by omega)
  have hd:(2:Int) ^ j*2 / 2=2 ^ j:=Int.mul_ediv_cancel _ (by omega)
  rw [hd] at hs
  by_cases hc:p (k+2 ^ j*2)
  ·rw [if_pos hc] at hs
   rw [aA hs]
   refine ih f _ (by omega) (by omega) (by omega) hc ?_
   rw [show k+2 ^ j*2+2*2 ^ j=k+2*((2:Int) ^ j*2) by omega];exact h2
  ·rw [if_neg hc] at hs
   rw [aA hs]
   refine ih f _ (by omega) hk (by omega) h1 ?_
   rw [show k+2*(2:Int) ^ j=k+2 ^ j*2 by omega];exact hc
theorem aXm {R:Type} [Inhabited R] {p:Int->Prop} [DecidablePred p] {G:Int->R} {M:Int} {S:Int×Int->(Int×Int)⊕R} (hS:∀a b,0<=a->a < b->b<=M->S (a,b)=if p ((a+b+1) / 2) then .inl ((a+b+1) / 2,b) else .inl (a,(a+b+1) / 2 - 1))(h0:∀a,0<=a->a<=M->S (a,a)=.inr (G a)) :
 ∀(f:Nat) (a b:Int),0<=a->a<=b->b<=M->b - a < f->p a->¬p (b+1)->∃r,0<=r/\r<=M/\p r/\¬p (r+1)/\aB S f (a,b)=G r:=by
 intro f
 induction f with
 | zero=>intro a b _ h _ hf;omega
 | succ f ih =>
  intro a b ha hab hb hf h1 h2
  by_cases he:a=b
  ·subst he
   rw [aO (h0 a ha hb)];exact⟨a,ha,hb,h1,h2,rfl⟩
  ·have hs:=hS a b ha (by omega) hb
   by_cases hc:p ((a+b+1) / 2)
   ·rw [if_pos hc] at hs
    rw [aA hs]
    exact ih _ _ (by omega) (by omega) hb (by omega) hc h2
   ·rw [if_neg hc] at hs
    rw [aA hs]
    refine ih _ _ ha (by omega) (by omega) (by omega) h1 ?_
    rw [show(a+b+1) / 2 - 1+1=(a+b+1) / 2 by omega];exact hc
theorem um1 {a b:Int} (h:0<=a/\a<=b/\b<=1099511627776):IntKind.wrap .u64 (Int.tdiv (IntKind.wrap .u64 ((IntKind.wrap .u64 (a+b))+1)) 2)=(a+b+1) / 2:=by
 rw [tO (a+b),Int.emod_eq_of_lt (a:=a+b) (by omega) (by omega),tO (a+b+1),Int.emod_eq_of_lt (a:=a+b+1) (by omega) (by omega),Int.tdiv_eq_ediv_of_nonneg (by omega),tO,Int.emod_eq_of_lt (by omega) (by omega)]
theorem um2 {a b:Int} (h:0<=a/\a < b/\b<=1099511627776):IntKind.wrap .u64 ((IntKind.wrap .u64 (Int.tdiv (IntKind.wrap .u64 ((IntKind.wrap .u64 (a+b))+1)) 2)) - 1)=(a+b+1) / 2 - 1:=by
 rw [um1 (by omega),tO,Int.emod_eq_of_lt (by omega) (by omega)]
theorem aQy {b:Int} (h:0<=b/\b<=1099511627776):W (Int.tdiv b 2)=b / 2:=by rw [Int.tdiv_eq_ediv_of_nonneg (by omega),aF (by omega) (by omega)]
noncomputable def aJz:Code:=(aC [1,1,1,1,1,0,1] [] (aG Tryz.f29) []).1
noncomputable def aJ0:List K:=(aC [1,1,1,1,1,0,1] [] (aG Tryz.f29) []).2
def aEn (a0:Int)(v1 v2:Int):LS:=⟨fU 70 [(2,(.p 0 0)),(4,(iv (gW a0))),(5,(iv (W ((W (a0 - (W ((gW a0)*(gW a0)))))*2 ^ (min (tN 40) 64))))),(6,(iv v1)),(7,(iv v2))],[(.live true false [(iv 0),(iv 0)])]⟩
def lE (a0:Int):Int×Int->(Int×Int)⊕((Int×Int)×Int)
 | (v1,v2) =>
  (bif (decide ((v2:Int) > 0)) then
   (bif (decide (((W ((W ((W ((W (2*(gW a0)))*(W (v1+v2))))*2 ^ (min (tN 20) 64)))+(W ((W (v1+v2))*(W (v1+v2)))))):Int)<=(W ((W (a0 - (W ((gW a0)*(gW a0)))))*2 ^ (min (tN 40) 64))))) then
    (.inl ((W (v1+v2)),(W (Int.tdiv v2 2))))
   else
    (.inl (v1,(W (Int.tdiv v2 2)))))
  else
   (bif (((W ((W ((W ((W (2*(gW a0)))*v1))*2 ^ (min (tN 20) 64)))+(W (v1*v1)))):Int) == (W ((W (a0 - (W ((gW a0)*(gW a0)))))*2 ^ (min (tN 40) 64)))) then
    (.inr ((oT (W ((W ((gW a0)*2 ^ (min (tN 20) 64)))+v1)) (W ((W ((gW a0)*2 ^ (min (tN 20) 64)))+v1))).1,(oT (W ((W ((gW a0)*2 ^ (min (tN 20) 64)))+v1)) (W ((W ((gW a0)*2 ^ (min (tN 20) 64)))+v1))).2))
   else
    (.inr ((oT (W ((W ((gW a0)*2 ^ (min (tN 20) 64)))+v1)) (W ((W ((W ((gW a0)*2 ^ (min (tN 20) 64)))+v1))+1))).1,(oT (W ((W ((gW a0)*2 ^ (min (tN 20) 64)))+v1)) (W ((W ((W ((gW a0)*2 ^ (min (tN 20) 64)))+v1))+1))).2))))
theorem aXn (a0:Int) {cx:Cx} (hcx:cx.base=0):∀(n:Nat) (v1 v2:Int),(0<=v2)/\(v2<=1099511627776)->tN v2 < n->Aw.Good Tryz.prog none 9 (bodyPost Tryz.prog Tryz.f29 (RR cx (.t [(.a (k2 (aB (lE a0) n (v1,v2)).1)),(iv (aB (lE a0) n (v1,v2)).2)]) [] [])) cx [] (.l aJz n::aJ0) (aEn a0 v1 v2):=by
 intro n
 induction n with
 | zero=>intro v1 v2 hi hn;exact absurd hn (fZ _)
 | succ n ih =>
  intro v1 v2 hi hn
  refine aH ?_
  have hw1:=aQy (b:=v2) (by omega)
  cases h0:(decide ((v2:Int) > 0)) with
  | true =>
   have q0:=bS h0
   let t1:List (St Tryz.prog):=[.d h0,.p (show 0<=(20:Int) from by decide)]
   cases h1:(decide (((W ((W ((W ((W (2*(gW a0)))*(W (v1+v2))))*2 ^ (min (tN 20) 64)))+(W ((W (v1+v2))*(W (v1+v2)))))):Int)<=(W ((W (a0 - (W ((gW a0)*(gW a0)))))*2 ^ (min (tN 40) 64))))) with
   | true =>
    have q1:=bS h1
    have e:=Eq.refl (lE a0 (v1,v2));conv at e=>rhs;simp only [lE,h0,h1,aJ]
    rw [aA e]
    refine ba (t1++[.d h1,.p (show(2:Int)≠0 from by decide)]) [] [2,4,5,6,7] [0] hcx (m:=n) aJz (aJ0) (aEn a0 (W (v1+v2)) (W (Int.tdiv v2 2))) (by kernel_rfl) ?_
    exact ih (W (v1+v2)) (W (Int.tdiv v2 2)) (by refine⟨?_,?_⟩<;>(try simp only [Ls])<;>first | omega | assumption | simp) (by(try simp only [Ls]);omega)
   | false =>
    have q1:=cE h1
    have e:=Eq.refl (lE a0 (v1,v2));conv at e=>rhs;simp only [lE,h0,h1,aJ]
    rw [aA e]
    refine ba (t1++[.d h1,.p (show(2:Int)≠0 from by decide)]) [] [2,4,5,6,7] [0] hcx (m:=n) aJz (aJ0) (aEn a0 v1 (W (Int.tdiv v2 2))) (by kernel_rfl) ?_
    exact ih v1 (W (Int.tdiv v2 2)) (by refine⟨?_,?_⟩<;>(try simp only [Ls])<;>first | omega | assumption | simp) (by(try simp only [Ls]);omega)
  | false =>
   have q0:=cE h0
   let t1:List (St Tryz.prog):=[.d h0,.p (show 0<=(20:Int) from by decide),.p (show 0<=(20:Int) from by decide)]
   cases h1:(((W ((W ((W ((W (2*(gW a0)))*v1))*2 ^ (min (tN 20) 64)))+(W (v1*v1)))):Int) == (W ((W (a0 - (W ((gW a0)*(gW a0)))))*2 ^ (min (tN 40) 64)))) with
   | true =>
    have q1:=eq_of_beq h1
    have e:=Eq.refl (lE a0 (v1,v2));conv at e=>rhs;simp only [lE,h0,h1,aJ]
    rw [aD,e]
    exact rt (t1++[.d h1,.c [] (C61 (W ((W ((gW a0)*2 ^ (min (tN 20) 64)))+v1)) (W ((W ((gW a0)*2 ^ (min (tN 20) 64)))+v1)))]) [] [] hcx (by kernel_rfl)
   | false =>
    have q1:=ne_of_beq_false h1
    have e:=Eq.refl (lE a0 (v1,v2));conv at e=>rhs;simp only [lE,h0,h1,aJ]
    rw [aD,e]
    exact rt (t1++[.d h1,.c [] (C61 (W ((W ((gW a0)*2 ^ (min (tN 20) 64)))+v1)) (W ((W ((W ((gW a0)*2 ^ (min (tN 20) 64)))+v1))+1)))]) [] [] hcx (by kernel_rfl)
def F29 (a0:Int):(Int×Int)×Int :=
 (bif (decide ((a0:Int) < 0)) then
  ((0,0),1)
 else
  (bif (decide ((a0:Int) > 1099511627776)) then
   ((0,0),1)
  else
   (aB (lE a0) (tN 524288+1) (0,524288))))
theorem C29 (a0:Int):Con Tryz.prog 29 [(iv a0)] [] (.t [(.a (k2 (F29 a0).1)),(iv (F29 a0).2)]) []:=by
 refine aK Tryz.func29 (by kernel_rfl) fun cx hcx=>?_
 cases h0:(decide ((a0:Int) < 0)) with
 | true =>
  have q0:=bS h0
  have e:=Eq.refl (F29 a0);conv at e=>rhs;simp only [F29,h0,aJ]
  rw [e]
  exact rt [.d h0] [] [] hcx (by kernel_rfl)
 | false =>
  have q0:=cE h0
  let t1:List (St Tryz.prog):=[.d h0]
  cases h1:(decide ((a0:Int) > 1099511627776)) with
  | true =>
   have q1:=bS h1
   have e:=Eq.refl (F29 a0);conv at e=>rhs;simp only [F29,h0,h1,aJ]
   rw [e]
   exact rt (t1++[.d h1]) [] [] hcx (by kernel_rfl)
  | false =>
   have q1:=cE h1
   have e:=Eq.refl (F29 a0);conv at e=>rhs;simp only [F29,h0,h1,aJ]
   rw [e]
   refine en (t1++[.d h1,.c [] (C60 a0),.p (show 0<=(40:Int) from by decide)]) [] [2,4,5,6,7] [0] hcx aJz (aJ0) (aEn a0 0 524288) (tN 524288+1) (by kernel_rfl) ?_
   exact aXn a0 hcx (tN 524288+1) 0 524288 (by refine⟨?_,?_⟩<;>(try simp only [Ls])<;>first | omega | assumption | simp) (by(try simp only [Ls]);omega)
noncomputable def aCv:Code:=(aC [1,1,1,1,0] [] (aG Tryz.f52) []).1
noncomputable def aCw:List K:=(aC [1,1,1,1,0] [] (aG Tryz.f52) []).2
def vL (a0:Int)(v2 v3:Int):LS:=⟨fU 82 [(2,(.p 0 0)),(4,(.v (.int .u64 (nY (IntKind.wrap .u64 a0) 1099511627776).1))),(5,(.v (.int .u64 (nY (IntKind.wrap .u64 a0) 1099511627776).2))),(6,(.v (.int .u64 v2))),(7,(.v (.int .u64 v3)))],[(.live true false [(iv 0),(iv 0)])]⟩
def gV (a0:Int):Int×Int->(Int×Int)⊕((Int×Int)×Int)
 | (v2,v3) =>
  (bif (decide ((v2:Int) < v3)) then
   (bif (decide (((nY (IntKind.wrap .u64 (Int.tdiv (IntKind.wrap .u64 ((IntKind.wrap .u64 (v2+v3))+1)) 2)) (IntKind.wrap .u64 (Int.tdiv (IntKind.wrap .u64 ((IntKind.wrap .u64 (v2+v3))+1)) 2))).1:Int) < (nY (IntKind.wrap .u64 a0) 1099511627776).1)) then
    (.inl ((IntKind.wrap .u64 (Int.tdiv (IntKind.wrap .u64 ((IntKind.wrap .u64 (v2+v3))+1)) 2)),v3))
   else
    (bif (((nY (IntKind.wrap .u64 (Int.tdiv (IntKind.wrap .u64 ((IntKind.wrap .u64 (v2+v3))+1)) 2)) (IntKind.wrap .u64 (Int.tdiv (IntKind.wrap .u64 ((IntKind.wrap .u64 (v2+v3))+1)) 2))).1:Int) == (nY (IntKind.wrap .u64 a0) 1099511627776).1) then
     (bif (decide (((nY (IntKind.wrap .u64 (Int.tdiv (IntKind.wrap .u64 ((IntKind.wrap .u64 (v2+v3))+1)) 2)) (IntKind.wrap .u64 (Int.tdiv (IntKind.wrap .u64 ((IntKind.wrap .u64 (v2+v3))+1)) 2))).2:Int)<=(nY (IntKind.wrap .u64 a0) 1099511627776).2)) then
      (.inl ((IntKind.wrap .u64 (Int.tdiv (IntKind.wrap .u64 ((IntKind.wrap .u64 (v2+v3))+1)) 2)),v3))
     else
      (.inl (v2,(IntKind.wrap .u64 ((IntKind.wrap .u64 (Int.tdiv (IntKind.wrap .u64 ((IntKind.wrap .u64 (v2+v3))+1)) 2)) - 1)))))
    else
     (.inl (v2,(IntKind.wrap .u64 ((IntKind.wrap .u64 (Int.tdiv (IntKind.wrap .u64 ((IntKind.wrap .u64 (v2+v3))+1)) 2)) - 1))))))
  else
   (bif (((nY v2 v2).1:Int) == (nY (IntKind.wrap .u64 a0) 1099511627776).1) then
    (bif (((nY v2 v2).2:Int) == (nY (IntKind.wrap .u64 a0) 1099511627776).2) then
     (.inr ((tA (W v2) (W v2)).1,(tA (W v2) (W v2)).2))
    else
     (.inr ((tA (W v2) (W ((W v2)+1))).1,(tA (W v2) (W ((W v2)+1))).2)))
   else
    (.inr ((tA (W v2) (W ((W v2)+1))).1,(tA (W v2) (W ((W v2)+1))).2))))
theorem aXo (a0:Int) {cx:Cx} (hcx:cx.base=0):∀(n:Nat) (v2 v3:Int),(0<=v2)/\(0<=v2)/\(v2<=v3)/\(v3<=1099511627776)->tN (v3 - v2) < n->Aw.Good Tryz.prog none 9 (bodyPost Tryz.prog Tryz.f52 (RR cx (.t [(.a (k2 (aB (gV a0) n (v2,v3)).1)),(iv (aB (gV a0) n (v2,v3)).2)]) [] [])) cx [] (.l aCv n::aCw) (vL a0 v2 v3):=by
 intro n
 induction n with
 | zero=>intro v2 v3 hi hn;exact absurd hn (fZ _)
 | succ n ih =>
  intro v2 v3 hi hn
  refine aH ?_
  have hw1:=um1 (a:=v2) (b:=v3) (by omega)
  have hw2:=fun h=>um2 (a:=v2) (b:=v3) h
  cases h0:(decide ((v2:Int) < v3)) with
  | true =>
   have q0:=bS h0
   let t1:List (St Tryz.prog):=[.d h0,.p (show(2:Int)≠0 from by decide),.c [] (C85 (IntKind.wrap .u64 (Int.tdiv (IntKind.wrap .u64 ((IntKind.wrap .u64 (v2+v3))+1)) 2)) (IntKind.wrap .u64 (Int.tdiv (IntKind.wrap .u64 ((IntKind.wrap .u64 (v2+v3))+1)) 2)))]
   cases h1:(decide (((nY (IntKind.wrap .u64 (Int.tdiv (IntKind.wrap .u64 ((IntKind.wrap .u64 (v2+v3))+1)) 2)) (IntKind.wrap .u64 (Int.tdiv (IntKind.wrap .u64 ((IntKind.wrap .u64 (v2+v3))+1)) 2))).1:Int) < (nY (IntKind.wrap .u64 a0) 1099511627776).1)) with
   | true =>
    have q1:=bS h1
    have e:=Eq.refl (gV a0 (v2,v3));conv at e=>rhs;simp only [gV,h0,h1,aJ]
    rw [aA e]
    refine ba (t1++[.d h1]) [] [2,4,5,6,7] [0] hcx (m:=n) aCv (aCw) (vL a0 (IntKind.wrap .u64 (Int.tdiv (IntKind.wrap .u64 ((IntKind.wrap .u64 (v2+v3))+1)) 2)) v3) (by kernel_rfl) ?_
    exact ih (IntKind.wrap .u64 (Int.tdiv (IntKind.wrap .u64 ((IntKind.wrap .u64 (v2+v3))+1)) 2)) v3 (by refine⟨?_,?_,?_,?_⟩<;>(try simp only [Ls])<;>first | omega | assumption | simp) (by(try simp only [Ls]);omega)
   | false =>
    have q1:=cE h1
    let t2:List (St Tryz.prog):=(t1++[.d h1])
    cases h2:(((nY (IntKind.wrap .u64 (Int.tdiv (IntKind.wrap .u64 ((IntKind.wrap .u64 (v2+v3))+1)) 2)) (IntKind.wrap .u64 (Int.tdiv (IntKind.wrap .u64 ((IntKind.wrap .u64 (v2+v3))+1)) 2))).1:Int) == (nY (IntKind.wrap .u64 a0) 1099511627776).1) with
    | true =>
     have q2:=eq_of_beq h2
     let t3:List (St Tryz.prog):=(t2++[.d h2])
     cases h3:(decide (((nY (IntKind.wrap .u64 (Int.tdiv (IntKind.wrap .u64 ((IntKind.wrap .u64 (v2+v3))+1)) 2)) (IntKind.wrap .u64 (Int.tdiv (IntKind.wrap .u64 ((IntKind.wrap .u64 (v2+v3))+1)) 2))).2:Int)<=(nY (IntKind.wrap .u64 a0) 1099511627776).2)) with
     | true =>
      have q3:=bS h3
      have e:=Eq.refl (gV a0 (v2,v3));conv at e=>rhs;simp only [gV,h0,h1,h2,h3,aJ]
      rw [aA e]
      refine ba (t3++[.d h3]) [] [2,4,5,6,7] [0] hcx (m:=n) aCv (aCw) (vL a0 (IntKind.wrap .u64 (Int.tdiv (IntKind.wrap .u64 ((IntKind.wrap .u64 (v2+v3))+1)) 2)) v3) (by kernel_rfl) ?_
      exact ih (IntKind.wrap .u64 (Int.tdiv (IntKind.wrap .u64 ((IntKind.wrap .u64 (v2+v3))+1)) 2)) v3 (by refine⟨?_,?_,?_,?_⟩<;>(try simp only [Ls])<;>first | omega | assumption | simp) (by(try simp only [Ls]);omega)
     | false =>
      have q3:=cE h3
      have e:=Eq.refl (gV a0 (v2,v3));conv at e=>rhs;simp only [gV,h0,h1,h2,h3,aJ]
      rw [aA e]
      refine ba (t3++[.d h3]) [] [2,4,5,6,7] [0] hcx (m:=n) aCv (aCw) (vL a0 v2 (IntKind.wrap .u64 ((IntKind.wrap .u64 (Int.tdiv (IntKind.wrap .u64 ((IntKind.wrap .u64 (v2+v3))+1)) 2)) - 1))) (by kernel_rfl) ?_
      exact ih v2 (IntKind.wrap .u64 ((IntKind.wrap .u64 (Int.tdiv (IntKind.wrap .u64 ((IntKind.wrap .u64 (v2+v3))+1)) 2)) - 1)) (by refine⟨?_,?_,?_,?_⟩<;>(try simp only [Ls])<;>first | omega | assumption | simp) (by(try simp only [Ls]);omega)
    | false =>
     have q2:=ne_of_beq_false h2
     have e:=Eq.refl (gV a0 (v2,v3));conv at e=>rhs;simp only [gV,h0,h1,h2,aJ]
     rw [aA e]
     refine ba (t2++[.d h2]) [] [2,4,5,6,7] [0] hcx (m:=n) aCv (aCw) (vL a0 v2 (IntKind.wrap .u64 ((IntKind.wrap .u64 (Int.tdiv (IntKind.wrap .u64 ((IntKind.wrap .u64 (v2+v3))+1)) 2)) - 1))) (by kernel_rfl) ?_
     exact ih v2 (IntKind.wrap .u64 ((IntKind.wrap .u64 (Int.tdiv (IntKind.wrap .u64 ((IntKind.wrap .u64 (v2+v3))+1)) 2)) - 1)) (by refine⟨?_,?_,?_,?_⟩<;>(try simp only [Ls])<;>first | omega | assumption | simp) (by(try simp only [Ls]);omega)
  | false =>
   have q0:=cE h0
   let t1:List (St Tryz.prog):=[.d h0,.c [] (C85 v2 v2)]
   cases h1:(((nY v2 v2).1:Int) == (nY (IntKind.wrap .u64 a0) 1099511627776).1) with
   | true =>
    have q1:=eq_of_beq h1
    let t2:List (St Tryz.prog):=(t1++[.d h1])
    cases h2:(((nY v2 v2).2:Int) == (nY (IntKind.wrap .u64 a0) 1099511627776).2) with
    | true =>
     have q2:=eq_of_beq h2
     have e:=Eq.refl (gV a0 (v2,v3));conv at e=>rhs;simp only [gV,h0,h1,h2,aJ]
     rw [aD,e]
     exact rt (t2++[.d h2,.c [] (C86 (W v2) (W v2))]) [] [] hcx (by kernel_rfl)
    | false =>
     have q2:=ne_of_beq_false h2
     have e:=Eq.refl (gV a0 (v2,v3));conv at e=>rhs;simp only [gV,h0,h1,h2,aJ]
     rw [aD,e]
     exact rt (t2++[.d h2,.c [] (C86 (W v2) (W ((W v2)+1)))]) [] [] hcx (by kernel_rfl)
   | false =>
    have q1:=ne_of_beq_false h1
    have e:=Eq.refl (gV a0 (v2,v3));conv at e=>rhs;simp only [gV,h0,h1,aJ]
    rw [aD,e]
    exact rt (t1++[.d h1,.c [] (C86 (W v2) (W ((W v2)+1)))]) [] [] hcx (by kernel_rfl)
def F52 (a0:Int):(Int×Int)×Int :=
 (bif (!(F84 a0 0 1099511627776)) then
  ((0,0),1)
 else
  (aB (gV a0) (tN (1099511627776 - 0)+1) (0,1099511627776)))
theorem C52 (a0:Int):Con Tryz.prog 52 [(iv a0)] [] (.t [(.a (k2 (F52 a0).1)),(iv (F52 a0).2)]) []:=by
 refine aK Tryz.func52 (by kernel_rfl) fun cx hcx=>?_
 let t0:List (St Tryz.prog):=[.c [] (C84 a0 0 1099511627776)]
 cases h0:(!(F84 a0 0 1099511627776)) with
 | true =>
  have e:=Eq.refl (F52 a0);conv at e=>rhs;simp only [F52,h0,aJ]
  rw [e]
  exact rt (t0++[.d h0]) [] [] hcx (by kernel_rfl)
 | false =>
  have e:=Eq.refl (F52 a0);conv at e=>rhs;simp only [F52,h0,aJ]
  rw [e]
  refine en (t0++[.d h0,.c [] (C85 (IntKind.wrap .u64 a0) 1099511627776)]) [] [2,4,5,6,7] [0] hcx aCv (aCw) (vL a0 0 1099511627776) (tN (1099511627776 - 0)+1) (by kernel_rfl) ?_
  exact aXo a0 hcx (tN (1099511627776 - 0)+1) 0 1099511627776 (by refine⟨?_,?_,?_,?_⟩<;>(try simp only [Ls])<;>first | omega | assumption | simp) (by(try simp only [Ls]);omega)
def yF (n r:Int):(Int×Int)×Int:=oT r (if r*r=n*1099511627776 then r else r+1)
theorem aSj {n:Int} (h:0<=n/\n<=400000):∃r,IsRt (n*1099511627776) r/\F29 n=yF n r:=by
 have ha:=uZ (n:=n) h.1 (by omega)
 unfold F29
 rw [cT (by omega),cT (by omega),cond_false,cond_false]
 have hle:gW n<=1000:=ha.le (by omega) (by omega)
 have h0:=ha.1
 have h1:=ha.2.1
 have h2:=ha.2.2
 have p20:(2:Int) ^ (min (tN 20) 64)=1048576:=by decide
 have p40:(2:Int) ^ (min (tN 40) 64)=1099511627776:=by decide
 generalize ea:gW n=a at *
 have haa:0<=a*a:=Int.mul_nonneg h0 h0
 have ex:(a+1)*(a+1)=a*a+2*a+1:=by grind
 have key:∀f:Int,0<=f->f<=1048576->W ((W ((W ((W (2*a))*(W f)))*2 ^ (min (tN 20) 64)))+(W ((W f)*(W f))))=(a*1048576+f)*(a*1048576+f) - a*a*1099511627776:=by
  intro f f0 f1
  have m1:=bR (a:=1000) (b:=1048576) (x:=a) (y:=f) ⟨by omega,by omega⟩ ⟨by omega,by omega⟩
  have m2:=bR (a:=1048576) (b:=1048576) (x:=f) (y:=f) ⟨by omega,by omega⟩ ⟨by omega,by omega⟩
  have e1:2*a*f=2*(a*f):=by grind
  rw [p20,aF (n:=f) (by omega) (by omega),aF (n:=2*a) (by omega) (by omega),e1,aF (n:=2*(a*f)) (by omega) (by omega),aF (n:=2*(a*f)*1048576) (by omega) (by omega),aF (n:=f*f) (by omega) (by omega),aF (by omega) (by omega)]
  grind
 have rest:W ((W (n - (W (a*a))))*2 ^ (min (tN 40) 64))=n*1099511627776 - a*a*1099511627776:=by
  rw [p40,aF (n:=a*a) (by omega) (by omega),aF (n:=n - a*a) (by omega) (by omega),aF (by omega) (by omega)]
  omega
 have key0:∀f:Int,0<=f->f<=1048576->W ((W ((W ((W (2*a))*f))*2 ^ (min (tN 20) 64)))+(W (f*f)))=(a*1048576+f)*(a*1048576+f) - a*a*1099511627776:=by
  intro f f0 f1
  have:=key f f0 f1
  rwa [aF (n:=f) (by omega) (by omega)] at this
 have A20:W (a*2 ^ (min (tN 20) 64))=a*1048576:=by rw [p20,aF (by omega) (by omega)]
 obtain⟨f,f0,f1,g1,g2,e⟩:=aXl (p:=fun f=>(a*1048576+f)*(a*1048576+f)<=n*1099511627776) (G:=fun f=>yF n (a*1048576+f)) (M:=1048576) (S:=lE n) (fun k b hk hb hkb=>by
  simp only [lE,ea]
  rw [cA (show b > 0 from hb),cond_true,key (k+b) (by omega) (by omega),rest,aF (n:=k+b) (by omega) (by omega),Int.tdiv_eq_ediv_of_nonneg (by omega),aF (n:=b / 2) (by omega) (by omega)]
  by_cases hc:(a*1048576+(k+b))*(a*1048576+(k+b))<=n*1099511627776
  ·rw [if_pos hc,cA (by omega),cond_true]
  ·rw [if_neg hc,cT (by omega),cond_false])
  (fun k hk hk2=>by
   simp only [lE,ea]
   rw [cT (by omega),cond_false,key0 k hk hk2,rest,A20,aF (n:=a*1048576+k) (by omega) (by omega),aF (n:=a*1048576+k+1) (by omega) (by omega)]
   unfold yF
   by_cases hc:(a*1048576+k)*(a*1048576+k)=n*1099511627776
   ·rw [if_pos hc,hc,beq_self_eq_true,cond_true]
   ·rw [if_neg hc,beq_eq_false_iff_ne.2 (by omega),cond_false])
  19 (tN 524288+1) 0 (by decide) (by omega) (by decide) (by
   have:(a*1048576+0)*(a*1048576+0)=a*a*1099511627776:=by grind
   omega) (by
   have:(a*1048576+(0+2*2 ^ 19))*(a*1048576+(0+2*2 ^ 19))=(a+1)*(a+1)*1099511627776:=by grind
   rw [this];omega)
 refine⟨a*1048576+f,⟨by omega,g1,?_⟩,e⟩
 rw [show a*1048576+f+1=a*1048576+(f+1) by omega]
 omega
theorem aXp {n:Int} (h:0<=n/\n<=400000):∃r,IsRt (n*1099511627776) r/\F52 n=yF n r:=by
 unfold F52
 have hw:(!F84 n 0 1099511627776)=false:=by
  unfold F84
  rw [cA (show n≥0 from h.1),cA (show n<=1099511627776 by omega)];rfl
 rw [hw,cond_false]
 have un:IntKind.wrap .u64 n=n:=by rw [tO];omega
 have mm:∀k:Int,0<=k->k<=1099511627776->nY k k=(k*k / 18446744073709551616,k*k % 18446744073709551616):=fun k k0 k1=>aNj ⟨k0,k1⟩ ⟨k0,k1⟩
 have mn:nY (IntKind.wrap .u64 n) 1099511627776=(n*1099511627776 / 18446744073709551616,n*1099511627776 % 18446744073709551616):=by
  rw [un];exact aNj ⟨h.1,by omega⟩ ⟨by omega,by omega⟩
 obtain⟨r,r0,r1,g1,g2,e⟩:=aXm (p:=fun k=>k*k<=n*1099511627776) (G:=fun r=>yF n r) (M:=1099511627776) (S:=gV n) (fun a b ha hab hb=>by
  have wm:IntKind.wrap .u64 ((a+b+1) / 2 - 1)=(a+b+1) / 2 - 1:=by rw [tO,Int.emod_eq_of_lt (by omega) (by omega)]
  simp only [gV,um1 (a:=a) (b:=b) (by omega),wm,mn]
  rw [mm ((a+b+1) / 2) (by omega) (by omega),cA hab,cond_true]
  simp only
  generalize (a+b+1) / 2*((a+b+1) / 2)=X
  generalize n*1099511627776=N
  by_cases hc:X<=N
  ·rw [if_pos hc]
   by_cases c1:X / 18446744073709551616 < N / 18446744073709551616
   ·rw [cA c1,cond_true]
   ·rw [cT c1,cond_false,beq_iff_eq.2 (show X / 18446744073709551616=N / 18446744073709551616 by omega),cond_true,cA (by omega),cond_true]
  ·rw [if_neg hc,cT (by omega),cond_false]
   by_cases c1:X / 18446744073709551616=N / 18446744073709551616
   ·rw [beq_iff_eq.2 c1,cond_true,cT (by omega),cond_false]
   ·rw [beq_eq_false_iff_ne.2 c1,cond_false])
  (fun a ha ha2=>by
   simp only [gV,mn]
   rw [mm a ha ha2,cT (by omega),cond_false,aF (n:=a) (by omega) (by omega),aF (n:=a+1) (by omega) (by omega)]
   unfold yF
   simp only
   generalize a*a=X
   generalize n*1099511627776=N
   by_cases hc:X=N
   ·rw [if_pos hc,hc,beq_self_eq_true,cond_true,beq_self_eq_true,cond_true];rfl
   ·rw [if_neg hc]
    by_cases c1:X / 18446744073709551616=N / 18446744073709551616
    ·rw [beq_iff_eq.2 c1,cond_true,beq_eq_false_iff_ne.2 (by omega),cond_false];rfl
    ·rw [beq_eq_false_iff_ne.2 c1,cond_false];rfl)
  (tN (1099511627776 - 0)+1) 0 1099511627776 (by omega) (by omega) (by omega) (by omega) (by omega) (by omega)
 exact⟨r,⟨r0,g1,by omega⟩,e⟩
theorem aUo {n:Int} (h:0<=n/\n<=400000):F29 n=F52 n:=by
 obtain⟨r,h1,e1⟩:=aSj h
 obtain⟨s,h2,e2⟩:=aXp h
 rw [e1,e2,h1.eq h2]
theorem nJ {m:ME} (h:((fW m:Int) != 0)=false):1<=m.1.length/\m.1.length<=64:=by
 obtain⟨h1,h2,h3,_,h4⟩:=eL (bne_eq_false_iff_eq.1 h)
 have:=(nI h).1 0 (Int.le_refl 0) (by omega)
 exact⟨by omega,h1⟩
theorem aQz {m:ME} {k:Int} (h:jU m k)(i:Int):(0<=i/\i < k)->((0<=(m.2.getD (tN i) dF).1/\(m.2.getD (tN i) dF).1 < (m.1.length:Int))/\(0<=(m.2.getD (tN i) dF).2.1/\(m.2.getD (tN i) dF).2.1 < (m.1.length:Int))/\0<=(m.2.getD (tN i) dF).2.2/\(m.2.getD (tN i) dF).2.2 < (m.1.length:Int)):=fun g=>h i g.1 g.2
def nZ (a0:Int)(a1:Int)(a2:Int):Bool :=
 (bif (decide ((a0:Int)≥a1)) then
  (decide ((a0:Int)<=a2))
 else
  false)
theorem C28 (a0:Int)(a1:Int)(a2:Int):Con Tryz.prog 28 [(iv a0),(iv a1),(iv a2)] [] (.v (.bool (nZ a0 a1 a2))) []:=by
 refine aK Tryz.func28 (by kernel_rfl) fun cx hcx=>?_
 cases h0:(decide ((a0:Int)≥a1)) with
 | true =>
  have q0:=bS h0
  have e:=Eq.refl (nZ a0 a1 a2);conv at e=>rhs;simp only [nZ,h0,aJ]
  rw [e]
  exact rt [.d h0] [] [] hcx (by kernel_rfl)
 | false =>
  have q0:=cE h0
  have e:=Eq.refl (nZ a0 a1 a2);conv at e=>rhs;simp only [nZ,h0,aJ]
  rw [e]
  exact rt [.d h0] [] [] hcx (by kernel_rfl)
def F26 (a0:Int)(a1:Int)(a2:Int):Bool :=
 (bif (decide ((a0:Int)≥a1)) then
  (decide ((a0:Int)<=a2))
 else
  false)
theorem C26 (a0:Int)(a1:Int)(a2:Int):Con Tryz.prog 26 [(iv a0),(iv a1),(iv a2)] [] (.v (.bool (F26 a0 a1 a2))) []:=by
 refine aK Tryz.func26 (by kernel_rfl) fun cx hcx=>?_
 cases h0:(decide ((a0:Int)≥a1)) with
 | true =>
  have q0:=bS h0
  have e:=Eq.refl (F26 a0 a1 a2);conv at e=>rhs;simp only [F26,h0,aJ]
  rw [e]
  exact rt [.d h0] [] [] hcx (by kernel_rfl)
 | false =>
  have q0:=cE h0
  have e:=Eq.refl (F26 a0 a1 a2);conv at e=>rhs;simp only [F26,h0,aJ]
  rw [e]
  exact rt [.d h0] [] [] hcx (by kernel_rfl)
theorem oZ {d:Int} {a b:Int} (h:(!nZ d a b)=false):a<=d/\d<=b:=by
 unfold nZ at h
 by_cases h1:d≥a
 ·by_cases h2:d<=b
  ·exact⟨h1,h2⟩
  ·rw [cA h1,cT h2] at h;simp at h
 ·rw [cT h1] at h;simp at h
theorem aAw {d:Int} {a b:Int} (h:(!F26 d a b)=false):a<=d/\d<=b:=oZ h
noncomputable def aEo:Code:=(aC [1,1,1,1,0,1] [] (aG Tryz.f93) []).1
noncomputable def aEp:List K:=(aC [1,1,1,1,0,1] [] (aG Tryz.f93) []).2
def aAx (a0:Zm)(a1:List Int)(v1 v2:Int):LS:=⟨fU 35 [(6,(iv v1)),(20,(.s 2 0 a1.length 1)),(21,(iv (a1.length:Int))),(22,(iv v2))],[(.live false true (flat dQ a0.1)),(.live false true (flat eE a0.2)),(.live false true (flat c3 a1))]⟩
def gL (a0:Zm)(a1:List Int):Int×Int->(Int×Int)⊕(Int)
 | (v1,v2) =>
  (bif (decide ((v2:Int) < (a1.length:Int))) then
   (bif (!(nZ (a1.getD (tN v2) dF) 0 100)) then
    (.inr 1)
   else
    (.inl ((W (v1+(a1.getD (tN v2) dF))),(v2+1))))
  else
   (bif ((v1:Int) == 0) then
    (.inr 11)
   else
    (.inr 0)))
theorem aQ0 (a0:Zm)(a1:List Int)(l0_1:a0.1.length<=2^63-1)(l0_2:a0.2.length<=2^63-1)(l1:a1.length<=2^63-1) {cx:Cx} (hcx:cx.base=3):∀(n:Nat) (v1 v2:Int),0<=v2->tN ((a1.length:Int) - v2) < n->Aw.Good Tryz.prog none 9 (bodyPost Tryz.prog Tryz.f93 (RR cx (iv (aB (gL a0 a1) n (v1,v2))) [] [])) cx [] (.l aEo n::aEp) (aAx a0 a1 v1 v2):=by
 intro n
 induction n with
 | zero=>intro v1 v2 hi hn;exact absurd hn (fZ _)
 | succ n ih =>
  intro v1 v2 hi hn
  refine aH ?_
  cases h0:(decide ((v2:Int) < (a1.length:Int))) with
  | true =>
   have q0:=bS h0
   let t1:List (St Tryz.prog):=[.d h0,.i v2 (a1.length),.L dH a1 v2 0 1,.c [] (C28 (a1.getD (tN v2) dF) 0 100)]
   cases h1:(!(nZ (a1.getD (tN v2) dF) 0 100)) with
   | true =>
    have e:=Eq.refl (gL a0 a1 (v1,v2));conv at e=>rhs;simp only [gL,h0,h1,aJ]
    rw [aD,e]
    exact rt (t1++[.d h1]) [] [] hcx (by kernel_rfl)
   | false =>
    have e:=Eq.refl (gL a0 a1 (v1,v2));conv at e=>rhs;simp only [gL,h0,h1,aJ]
    rw [aA e]
    refine ba (t1++[.d h1]) [] [6,20,21,22] [] hcx (m:=n) aEo (aEp) (aAx a0 a1 (W (v1+(a1.getD (tN v2) dF))) (W (v2+1))) (by kernel_rfl) ?_
    have z0:(W (v2+1))=(v2+1):=aF (by omega) (by omega)
    rw [z0]
    exact ih (W (v1+(a1.getD (tN v2) dF))) (v2+1) (by(try simp only [Ls]);omega) (by(try simp only [Ls]);omega)
  | false =>
   have q0:=cE h0
   let t1:List (St Tryz.prog):=[.d h0]
   cases h1:((v1:Int) == 0) with
   | true =>
    have q1:=eq_of_beq h1
    have e:=Eq.refl (gL a0 a1 (v1,v2));conv at e=>rhs;simp only [gL,h0,h1,aJ]
    rw [aD,e]
    exact rt (t1++[.d h1]) [] [] hcx (by kernel_rfl)
   | false =>
    have q1:=ne_of_beq_false h1
    have e:=Eq.refl (gL a0 a1 (v1,v2));conv at e=>rhs;simp only [gL,h0,h1,aJ]
    rw [aD,e]
    exact rt (t1++[.d h1]) [] [] hcx (by kernel_rfl)
def mK (a0:Zm)(a1:List Int):Int :=
 (bif (((fW (a0.1,a0.2)):Int) != 0) then
  (fW (a0.1,a0.2))
 else
  (bif (((a1.length:Int):Int) != (a0.2.length:Int)) then
   1
  else
   (aB (gL a0 a1) (tN ((a1.length:Int) - 0)+1) (0,0))))
theorem aXq (a0:Zm)(a1:List Int)(l0_1:a0.1.length<=2^63-1)(l0_2:a0.2.length<=2^63-1)(l1:a1.length<=2^63-1):Con Tryz.prog 93 [(.a [(.s 0 0 a0.1.length 3),(.s 1 0 a0.2.length 3)]),(.s 2 0 a1.length 1)] [(.live false true (flat dQ a0.1)),(.live false true (flat eE a0.2)),(.live false true (flat c3 a1))] (iv (mK a0 a1)) []:=by
 refine aK Tryz.func93 (by kernel_rfl) fun cx hcx=>?_
 let t0:List (St Tryz.prog):=[.c [0,1] (C27 (a0.1,a0.2) (by(try simp only [Lt]);omega) (by(try simp only [Lt]);omega))]
 cases h0:(((fW (a0.1,a0.2)):Int) != 0) with
 | true =>
  have q0:=bne_iff_ne.1 h0
  have e:=Eq.refl (mK a0 a1);conv at e=>rhs;simp only [mK,h0,aJ]
  rw [e]
  exact rt (t0++[.d h0]) [] [] hcx (by kernel_rfl)
 | false =>
  have q0:=bne_eq_false_iff_eq.1 h0
  let t1:List (St Tryz.prog):=(t0++[.d h0])
  cases h1:(((a1.length:Int):Int) != (a0.2.length:Int)) with
  | true =>
   have q1:=bne_iff_ne.1 h1
   have e:=Eq.refl (mK a0 a1);conv at e=>rhs;simp only [mK,h0,h1,aJ]
   rw [e]
   exact rt (t1++[.d h1]) [] [] hcx (by kernel_rfl)
  | false =>
   have q1:=bne_eq_false_iff_eq.1 h1
   have e:=Eq.refl (mK a0 a1);conv at e=>rhs;simp only [mK,h0,h1,aJ]
   rw [e]
   refine en (t1++[.d h1]) [] [6,20,21,22] [] hcx aEo (aEp) (aAx a0 a1 0 0) (tN ((a1.length:Int) - 0)+1) (by kernel_rfl) ?_
   exact aQ0 a0 a1 l0_1 l0_2 l1 hcx (tN ((a1.length:Int) - 0)+1) 0 0 (by(try simp only [Ls]);omega) (by(try simp only [Ls]);omega)
def eQ (a0:Zm)(a1:List Int)(a2:Int):Int :=
 (bif (((mK (a0.1,a0.2) a1):Int) != 0) then
  (mK (a0.1,a0.2) a1)
 else
  (bif (!(nZ a2 0 2)) then
   1
  else
   0))
theorem aXr (a0:Zm)(a1:List Int)(a2:Int)(l0_1:a0.1.length<=2^63-1)(l0_2:a0.2.length<=2^63-1)(l1:a1.length<=2^63-1):Con Tryz.prog 62 [(.a [(.s 0 0 a0.1.length 3),(.s 1 0 a0.2.length 3)]),(.s 2 0 a1.length 1),(iv a2)] [(.live false true (flat dQ a0.1)),(.live false true (flat eE a0.2)),(.live false true (flat c3 a1))] (iv (eQ a0 a1 a2)) []:=by
 refine aK Tryz.func62 (by kernel_rfl) fun cx hcx=>?_
 let t0:List (St Tryz.prog):=[.c [0,1,2] (aXq (a0.1,a0.2) a1 (by(try simp only [Lt]);omega) (by(try simp only [Lt]);omega) (by omega))]
 cases h0:(((mK (a0.1,a0.2) a1):Int) != 0) with
 | true =>
  have q0:=bne_iff_ne.1 h0
  have e:=Eq.refl (eQ a0 a1 a2);conv at e=>rhs;simp only [eQ,h0,aJ]
  rw [e]
  exact rt (t0++[.d h0]) [] [] hcx (by kernel_rfl)
 | false =>
  have q0:=bne_eq_false_iff_eq.1 h0
  let t1:List (St Tryz.prog):=(t0++[.d h0,.c [] (C28 a2 0 2)])
  cases h1:(!(nZ a2 0 2)) with
  | true =>
   have e:=Eq.refl (eQ a0 a1 a2);conv at e=>rhs;simp only [eQ,h0,h1,aJ]
   rw [e]
   exact rt (t1++[.d h1]) [] [] hcx (by kernel_rfl)
  | false =>
   have e:=Eq.refl (eQ a0 a1 a2);conv at e=>rhs;simp only [eQ,h0,h1,aJ]
   rw [e]
   exact rt (t1++[.d h1]) [] [] hcx (by kernel_rfl)
def pA (a0:Int):Int×Int :=
 (bif (decide ((a0:Int) > 1099511627776)) then
  (0,4)
 else
  (a0,0))
theorem aUp (a0:Int):Con Tryz.prog 108 [(iv a0)] [] (.t (k2 (pA a0))) []:=by
 refine aK Tryz.func108 (by kernel_rfl) fun cx hcx=>?_
 cases h0:(decide ((a0:Int) > 1099511627776)) with
 | true =>
  have q0:=bS h0
  have e:=Eq.refl (pA a0);conv at e=>rhs;simp only [pA,h0,aJ]
  rw [e]
  exact rt [.d h0] [] [] hcx (by kernel_rfl)
 | false =>
  have q0:=cE h0
  have e:=Eq.refl (pA a0);conv at e=>rhs;simp only [pA,h0,aJ]
  rw [e]
  exact rt [.d h0] [] [] hcx (by kernel_rfl)
noncomputable def aAy:Code:=(aC [1,1,0,1] [] (aG Tryz.f109) []).1
noncomputable def aAz:List K:=(aC [1,1,0,1] [] (aG Tryz.f109) []).2
def vM (a0:List Int)(v1 v2:Int):LS:=⟨fU 19 [(3,(iv v1)),(6,(.s 0 0 a0.length 1)),(7,(iv (a0.length:Int))),(8,(iv v2))],[(.live false true (flat c3 a0))]⟩
def jC (a0:List Int):Int×Int->(Int×Int)⊕(Int)
 | (v1,v2) =>
  (bif (decide ((v2:Int) < (a0.length:Int))) then
   (.inl ((W (v1+(a0.getD (tN v2) dF))),(v2+1)))
  else
   (.inr (W ((W (v1*1048576))*1048576))))
theorem aOr (a0:List Int)(l0:a0.length<=2^63-1) {cx:Cx} (hcx:cx.base=1):∀(n:Nat) (v1 v2:Int),0<=v2->tN ((a0.length:Int) - v2) < n->Aw.Good Tryz.prog none 9 (bodyPost Tryz.prog Tryz.f109 (RR cx (iv (aB (jC a0) n (v1,v2))) [] [])) cx [] (.l aAy n::aAz) (vM a0 v1 v2):=by
 intro n
 induction n with
 | zero=>intro v1 v2 hi hn;exact absurd hn (fZ _)
 | succ n ih =>
  intro v1 v2 hi hn
  refine aH ?_
  cases h0:(decide ((v2:Int) < (a0.length:Int))) with
  | true =>
   have q0:=bS h0
   have e:=Eq.refl (jC a0 (v1,v2));conv at e=>rhs;simp only [jC,h0,aJ]
   rw [aA e]
   refine ba [.d h0,.i v2 (a0.length),.L dH a0 v2 0 1] [] [3,6,7,8] [] hcx (m:=n) aAy (aAz) (vM a0 (W (v1+(a0.getD (tN v2) dF))) (W (v2+1))) (by kernel_rfl) ?_
   have z0:(W (v2+1))=(v2+1):=aF (by omega) (by omega)
   rw [z0]
   exact ih (W (v1+(a0.getD (tN v2) dF))) (v2+1) (by(try simp only [Ls]);omega) (by(try simp only [Ls]);omega)
  | false =>
   have q0:=cE h0
   have e:=Eq.refl (jC a0 (v1,v2));conv at e=>rhs;simp only [jC,h0,aJ]
   rw [aD,e]
   exact rt [.d h0] [] [] hcx (by kernel_rfl)
def bO (a0:List Int):Int :=
 (aB (jC a0) (tN ((a0.length:Int) - 0)+1) (0,0))
theorem aIf (a0:List Int)(l0:a0.length<=2^63-1):Con Tryz.prog 109 [(.s 0 0 a0.length 1)] [(.live false true (flat c3 a0))] (iv (bO a0)) []:=by
 refine aK Tryz.func109 (by kernel_rfl) fun cx hcx=>?_
 have e:=Eq.refl (bO a0);conv at e=>rhs;simp only [bO]
 rw [e]
 refine en [] [] [3,6,7,8] [] hcx aAy (aAz) (vM a0 0 0) (tN ((a0.length:Int) - 0)+1) (by kernel_rfl) ?_
 exact aOr a0 l0 hcx (tN ((a0.length:Int) - 0)+1) 0 0 (by(try simp only [Ls]);omega) (by(try simp only [Ls]);omega)
noncomputable def aOs:Code:=(aC [1,1,1,1,0,1] [] (aG Tryz.f10) []).1
noncomputable def aOt:List K:=(aC [1,1,1,1,0,1] [] (aG Tryz.f10) []).2
def aIg (a0:Zm)(a1:Zt)(v1 v2:Int):LS:=⟨fU 82 [(3,(.p 2 0)),(9,(iv v1)),(39,(.s 0 0 a0.1.length 3)),(40,(iv (a0.1.length:Int))),(41,(iv v2))],[(.live false true (flat dQ a0.1)),(.live false true (flat eE a0.2)),(.live true false (k3 a1))]⟩
def pB (a0:Zm)(a1:Zt):Int×Int->(Int×Int)⊕(Int×Int)
 | (v1,v2) =>
  (bif (decide ((v2:Int) < (a0.1.length:Int))) then
   (.inl ((fV v1 (W ((W ((W ((W ((a0.1.getD (tN v2) dF).1 - a1.1))*(W ((a0.1.getD (tN v2) dF).1 - a1.1))))+(W ((W ((a0.1.getD (tN v2) dF).2.1 - a1.2.1))*(W ((a0.1.getD (tN v2) dF).2.1 - a1.2.1))))))+(W ((W ((a0.1.getD (tN v2) dF).2.2 - a1.2.2))*(W ((a0.1.getD (tN v2) dF).2.2 - a1.2.2))))))),(v2+1)))
  else
   (.inr ((F29 v1).1.2,(F29 v1).2)))
theorem aXs (a0:Zm)(a1:Zt)(l0_1:a0.1.length<=2^63-1)(l0_2:a0.2.length<=2^63-1) {cx:Cx} (hcx:cx.base=2):∀(n:Nat) (v1 v2:Int),0<=v2->tN ((a0.1.length:Int) - v2) < n->Aw.Good Tryz.prog none 9 (bodyPost Tryz.prog Tryz.f10 (RR cx (.t (k2 (aB (pB a0 a1) n (v1,v2)))) [] [])) cx [] (.l aOs n::aOt) (aIg a0 a1 v1 v2):=by
 intro n
 induction n with
 | zero=>intro v1 v2 hi hn;exact absurd hn (fZ _)
 | succ n ih =>
  intro v1 v2 hi hn
  refine aH ?_
  cases h0:(decide ((v2:Int) < (a0.1.length:Int))) with
  | true =>
   have q0:=bS h0
   have e:=Eq.refl (pB a0 a1 (v1,v2));conv at e=>rhs;simp only [pB,h0,aJ]
   rw [aA e]
   refine ba [.d h0,.i v2 (a0.1.length),.L bQ a0.1 v2 0 3] [] [3,9,39,40,41] [2] hcx (m:=n) aOs (aOt) (aIg a0 a1 (fV v1 (W ((W ((W ((W ((a0.1.getD (tN v2) dF).1 - a1.1))*(W ((a0.1.getD (tN v2) dF).1 - a1.1))))+(W ((W ((a0.1.getD (tN v2) dF).2.1 - a1.2.1))*(W ((a0.1.getD (tN v2) dF).2.1 - a1.2.1))))))+(W ((W ((a0.1.getD (tN v2) dF).2.2 - a1.2.2))*(W ((a0.1.getD (tN v2) dF).2.2 - a1.2.2))))))) (W (v2+1))) (by kernel_rfl) ?_
   have z0:(W (v2+1))=(v2+1):=aF (by omega) (by omega)
   rw [z0]
   exact ih (fV v1 (W ((W ((W ((W ((a0.1.getD (tN v2) dF).1 - a1.1))*(W ((a0.1.getD (tN v2) dF).1 - a1.1))))+(W ((W ((a0.1.getD (tN v2) dF).2.1 - a1.2.1))*(W ((a0.1.getD (tN v2) dF).2.1 - a1.2.1))))))+(W ((W ((a0.1.getD (tN v2) dF).2.2 - a1.2.2))*(W ((a0.1.getD (tN v2) dF).2.2 - a1.2.2))))))) (v2+1) (by(try simp only [Ls]);omega) (by(try simp only [Ls]);omega)
  | false =>
   have q0:=cE h0
   have e:=Eq.refl (pB a0 a1 (v1,v2));conv at e=>rhs;simp only [pB,h0,aJ]
   rw [aD,e]
   exact rt [.d h0,.c [] (C29 v1)] [] [] hcx (by kernel_rfl)
def F10 (a0:Zm)(a1:Zt):Int×Int :=
 (bif (((fW (a0.1,a0.2)):Int) != 0) then
  (0,(fW (a0.1,a0.2)))
 else
  (bif (!(nZ a1.1 (-256) 256)) then
   (0,1)
  else
   (bif (!(nZ a1.2.1 (-256) 256)) then
    (0,1)
   else
    (bif (!(nZ a1.2.2 (-256) 256)) then
     (0,1)
    else
     (aB (pB a0 a1) (tN ((a0.1.length:Int) - 0)+1) (0,0))))))
theorem C10 (a0:Zm)(a1:Zt)(l0_1:a0.1.length<=2^63-1)(l0_2:a0.2.length<=2^63-1):Con Tryz.prog 10 [(.a [(.s 0 0 a0.1.length 3),(.s 1 0 a0.2.length 3)]),(.a (k3 a1))] [(.live false true (flat dQ a0.1)),(.live false true (flat eE a0.2))] (.t (k2 (F10 a0 a1))) []:=by
 refine aK Tryz.func10 (by kernel_rfl) fun cx hcx=>?_
 let t0:List (St Tryz.prog):=[.c [0,1] (C27 (a0.1,a0.2) (by(try simp only [Lt]);omega) (by(try simp only [Lt]);omega))]
 cases h0:(((fW (a0.1,a0.2)):Int) != 0) with
 | true =>
  have q0:=bne_iff_ne.1 h0
  have e:=Eq.refl (F10 a0 a1);conv at e=>rhs;simp only [F10,h0,aJ]
  rw [e]
  exact rt (t0++[.d h0]) [] [] hcx (by kernel_rfl)
 | false =>
  have q0:=bne_eq_false_iff_eq.1 h0
  let t1:List (St Tryz.prog):=(t0++[.d h0,.u 200,.T,.i 0 3 (by decide),.c [] (C28 a1.1 (-256) 256)])
  cases h1:(!(nZ a1.1 (-256) 256)) with
  | true =>
   have e:=Eq.refl (F10 a0 a1);conv at e=>rhs;simp only [F10,h0,h1,aJ]
   rw [e]
   exact rt (t1++[.d h1]) [] [] hcx (by kernel_rfl)
  | false =>
   let t2:List (St Tryz.prog):=(t1++[.d h1,.u 0,.T,.i 1 3 (by decide),.c [] (C28 a1.2.1 (-256) 256)])
   cases h2:(!(nZ a1.2.1 (-256) 256)) with
   | true =>
    have e:=Eq.refl (F10 a0 a1);conv at e=>rhs;simp only [F10,h0,h1,h2,aJ]
    rw [e]
    exact rt (t2++[.d h2]) [] [] hcx (by kernel_rfl)
   | false =>
    let t3:List (St Tryz.prog):=(t2++[.d h2,.u 0,.T,.i 2 3 (by decide),.c [] (C28 a1.2.2 (-256) 256)])
    cases h3:(!(nZ a1.2.2 (-256) 256)) with
    | true =>
     have e:=Eq.refl (F10 a0 a1);conv at e=>rhs;simp only [F10,h0,h1,h2,h3,aJ]
     rw [e]
     exact rt (t3++[.d h3]) [] [] hcx (by kernel_rfl)
    | false =>
     have e:=Eq.refl (F10 a0 a1);conv at e=>rhs;simp only [F10,h0,h1,h2,h3,aJ]
     rw [e]
     refine en (t3++[.d h3,.u 0,.F]) [] [3,9,39,40,41] [3] hcx aOs (aOt) (aIg a0 a1 0 0) (tN ((a0.1.length:Int) - 0)+1) (by kernel_rfl) ?_
     exact aXs a0 a1 l0_1 l0_2 hcx (tN ((a0.1.length:Int) - 0)+1) 0 0 (by(try simp only [Ls]);omega) (by(try simp only [Ls]);omega)
noncomputable def aOu:Code:=(aC [1,1,1,0,1] [] (aG Tryz.f34) []).1
noncomputable def aOv:List K:=(aC [1,1,1,0,1] [] (aG Tryz.f34) []).2
def aIh (a0:Zm)(v1 v2 v3 v4 v5 v6 v7:Int):LS:=⟨fU 65 [(2,(.p 2 0)),(3,(.p 3 0)),(24,(.s 0 0 a0.1.length 3)),(25,(iv (a0.1.length:Int))),(26,(iv v1))],[(.live false true (flat dQ a0.1)),(.live false true (flat eE a0.2)),(.live true false [(iv v2),(iv v3),(iv v4)]),(.live true false [(iv v5),(iv v6),(iv v7)])]⟩
def pC (a0:Zm):Int×Int×Int×Int×Zt->(Int×Int×Int×Int×Zt)⊕(Zt×Zt×Int)
 | (v1,v2,v3,v4,v5,v6,v7) =>
  (bif (decide ((v1:Int) < (a0.1.length:Int))) then
   (.inl ((v1+1),(if((a0.1.getD (tN v1) dF).1:Int) < v2 then(a0.1.getD (tN v1) dF).1 else v2),(if((a0.1.getD (tN v1) dF).2.1:Int) < v3 then(a0.1.getD (tN v1) dF).2.1 else v3),(if((a0.1.getD (tN v1) dF).2.2:Int) < v4 then(a0.1.getD (tN v1) dF).2.2 else v4),(if(v5:Int) < (a0.1.getD (tN v1) dF).1 then(a0.1.getD (tN v1) dF).1 else v5),(if(v6:Int) < (a0.1.getD (tN v1) dF).2.1 then(a0.1.getD (tN v1) dF).2.1 else v6),(if(v7:Int) < (a0.1.getD (tN v1) dF).2.2 then(a0.1.getD (tN v1) dF).2.2 else v7)))
  else
   (.inr ((v2,v3,v4),(v5,v6,v7),0)))
theorem aXt (a0:Zm)(l0_1:a0.1.length<=2^63-1)(l0_2:a0.2.length<=2^63-1) {cx:Cx} (hcx:cx.base=2):∀(n:Nat) (v1 v2 v3 v4 v5 v6 v7:Int),0<=v1->tN ((a0.1.length:Int) - v1) < n->Aw.Good Tryz.prog none 9 (bodyPost Tryz.prog Tryz.f34 (RR cx (.t [(.a (k3 (aB (pC a0) n (v1,v2,v3,v4,v5,v6,v7)).1)),(.a (k3 (aB (pC a0) n (v1,v2,v3,v4,v5,v6,v7)).2.1)),(iv (aB (pC a0) n (v1,v2,v3,v4,v5,v6,v7)).2.2)]) [] [])) cx [] (.l aOu n::aOv) (aIh a0 v1 v2 v3 v4 v5 v6 v7):=by
 intro n
 induction n with
 | zero=>intro v1 v2 v3 v4 v5 v6 v7 hi hn;exact absurd hn (fZ _)
 | succ n ih =>
  intro v1 v2 v3 v4 v5 v6 v7 hi hn
  refine aH ?_
  cases h0:(decide ((v1:Int) < (a0.1.length:Int))) with
  | true =>
   have q0:=bS h0
   have e:=Eq.refl (pC a0 (v1,v2,v3,v4,v5,v6,v7));conv at e=>rhs;simp only [pC,h0,aJ]
   rw [aA e]
   refine ba [.d h0,.i v1 (a0.1.length),.L bQ a0.1 v1 0 3] [] [2,3,24,25,26] [2,3] hcx (m:=n) aOu (aOv) (aIh a0 (W (v1+1)) (if((a0.1.getD (tN v1) dF).1:Int) < v2 then(a0.1.getD (tN v1) dF).1 else v2) (if((a0.1.getD (tN v1) dF).2.1:Int) < v3 then(a0.1.getD (tN v1) dF).2.1 else v3) (if((a0.1.getD (tN v1) dF).2.2:Int) < v4 then(a0.1.getD (tN v1) dF).2.2 else v4) (if(v5:Int) < (a0.1.getD (tN v1) dF).1 then(a0.1.getD (tN v1) dF).1 else v5) (if(v6:Int) < (a0.1.getD (tN v1) dF).2.1 then(a0.1.getD (tN v1) dF).2.1 else v6) (if(v7:Int) < (a0.1.getD (tN v1) dF).2.2 then(a0.1.getD (tN v1) dF).2.2 else v7)) (by kernel_rfl) ?_
   have z0:(W (v1+1))=(v1+1):=aF (by omega) (by omega)
   rw [z0]
   exact ih (v1+1) (if((a0.1.getD (tN v1) dF).1:Int) < v2 then(a0.1.getD (tN v1) dF).1 else v2) (if((a0.1.getD (tN v1) dF).2.1:Int) < v3 then(a0.1.getD (tN v1) dF).2.1 else v3) (if((a0.1.getD (tN v1) dF).2.2:Int) < v4 then(a0.1.getD (tN v1) dF).2.2 else v4) (if(v5:Int) < (a0.1.getD (tN v1) dF).1 then(a0.1.getD (tN v1) dF).1 else v5) (if(v6:Int) < (a0.1.getD (tN v1) dF).2.1 then(a0.1.getD (tN v1) dF).2.1 else v6) (if(v7:Int) < (a0.1.getD (tN v1) dF).2.2 then(a0.1.getD (tN v1) dF).2.2 else v7) (by(try simp only [Ls]);omega) (by(try simp only [Ls]);omega)
  | false =>
   have q0:=cE h0
   have e:=Eq.refl (pC a0 (v1,v2,v3,v4,v5,v6,v7));conv at e=>rhs;simp only [pC,h0,aJ]
   rw [aD,e]
   exact rt [.d h0] [] [] hcx (by kernel_rfl)
def qU (a0:Zm):Zt×Zt×Int :=
 (bif (((fW (a0.1,a0.2)):Int) != 0) then
  ((0,0,0),(0,0,0),(fW (a0.1,a0.2)))
 else
  (aB (pC a0) (tN ((a0.1.length:Int) - 0)+1) (0,(a0.1.getD (tN 0) dF).1,(a0.1.getD (tN 0) dF).2.1,(a0.1.getD (tN 0) dF).2.2,(a0.1.getD (tN 0) dF).1,(a0.1.getD (tN 0) dF).2.1,(a0.1.getD (tN 0) dF).2.2)))
theorem C34 (a0:Zm)(l0_1:a0.1.length<=2^63-1)(l0_2:a0.2.length<=2^63-1):Con Tryz.prog 34 [(.a [(.s 0 0 a0.1.length 3),(.s 1 0 a0.2.length 3)])] [(.live false true (flat dQ a0.1)),(.live false true (flat eE a0.2))] (.t [(.a (k3 (qU a0).1)),(.a (k3 (qU a0).2.1)),(iv (qU a0).2.2)]) []:=by
 refine aK Tryz.func34 (by kernel_rfl) fun cx hcx=>?_
 try have hp1:1<=a0.1.length:=(nJ h0).1
 let t0:List (St Tryz.prog):=[.c [0,1] (C27 (a0.1,a0.2) (by(try simp only [Lt]);omega) (by(try simp only [Lt]);omega))]
 cases h0:(((fW (a0.1,a0.2)):Int) != 0) with
 | true =>
  have q0:=bne_iff_ne.1 h0
  try have hp1:1<=a0.1.length:=(nJ h0).1
  have e:=Eq.refl (qU a0);conv at e=>rhs;simp only [qU,h0,aJ]
  rw [e]
  exact rt (t0++[.d h0]) [] [] hcx (by kernel_rfl)
 | false =>
  have q0:=bne_eq_false_iff_eq.1 h0
  try have hp1:1<=a0.1.length:=(nJ h0).1
  have e:=Eq.refl (qU a0);conv at e=>rhs;simp only [qU,h0,aJ]
  rw [e]
  refine en (t0++[.d h0,.i 0 (a0.1.length),.L bQ a0.1 0 0 3,.i 0 (a0.1.length),.L bQ a0.1 0 0 3]) [] [2,3,24,25,26] [3,4] hcx aOu (aOv) (aIh a0 0 ((a0.1.getD (tN 0) dF).1) ((a0.1.getD (tN 0) dF).2.1) ((a0.1.getD (tN 0) dF).2.2) ((a0.1.getD (tN 0) dF).1) ((a0.1.getD (tN 0) dF).2.1) ((a0.1.getD (tN 0) dF).2.2)) (tN ((a0.1.length:Int) - 0)+1) (by kernel_rfl) ?_
  exact aXt a0 l0_1 l0_2 hcx (tN ((a0.1.length:Int) - 0)+1) 0 ((a0.1.getD (tN 0) dF).1) ((a0.1.getD (tN 0) dF).2.1) ((a0.1.getD (tN 0) dF).2.2) ((a0.1.getD (tN 0) dF).1) ((a0.1.getD (tN 0) dF).2.1) ((a0.1.getD (tN 0) dF).2.2) (by(try simp only [Ls]);omega) (by(try simp only [Ls]);omega)
noncomputable def aOw:Code:=(aC [1,1,0,1] [] (aG Tryz.f18) []).1
noncomputable def aOx:List K:=(aC [1,1,0,1] [] (aG Tryz.f18) []).2
def aIi (a0:Zm)(v1c:List SV)(v1n:Nat)(v2:Int):LS:=⟨fU 19 [(3,(.s 2 0 v1n 1)),(10,(iv (((tN (a0.2.length:Int)):Nat):Int))),(11,(iv v2))],[(.live false true (flat dQ a0.1)),(.live false true (flat eE a0.2)),(.live true true v1c)]⟩
def qV (a0:Zm):List Int×Int->(List Int×Int)⊕(List Int)
 | (v1,v2) =>
  (bif (decide ((v2:Int) < (((tN (a0.2.length:Int)):Nat):Int))) then
   (.inl ((v1.set (tN v2) 1),(v2+1)))
  else
   (.inr v1))
theorem aXu (a0:Zm)(l0_1:a0.1.length<=2^63-1)(l0_2:a0.2.length<=2^63-1)(hn:a0.2.length<=96) {cx:Cx} (hcx:cx.base=2):∀(n:Nat) (v1:List Int) (v2:Int),(0<=v2)/\(v1.length=a0.2.length)->tN ((((tN (a0.2.length:Int)):Nat):Int) - v2) < n->Aw.Good Tryz.prog none 9 (bodyPost Tryz.prog Tryz.f18 (RR cx (.s 2 0 (aB (qV a0) n (v1,v2)).length 1) [(.live true true (flat c3 (aB (qV a0) n (v1,v2))))] [])) cx [] (.l aOw n::aOx) (aIi a0 (flat c3 v1) v1.length v2):=by
 intro n
 induction n with
 | zero=>intro v1 v2 hi hn;exact absurd hn (fZ _)
 | succ n ih =>
  intro v1 v2 hi hn
  refine aH ?_
  cases h0:(decide ((v2:Int) < (((tN (a0.2.length:Int)):Nat):Int))) with
  | true =>
   have q0:=bS h0
   have e:=Eq.refl (qV a0 (v1,v2));conv at e=>rhs;simp only [qV,h0,aJ]
   rw [aA e]
   refine ba [.d h0,.i v2 (v1.length),.p (show((0+tN v2*1)+1<=(flat c3 v1).length) from(gT dH (by first | omega | (simp only [Lt];omega)) (o:=0) (Nb rfl)))] [] [3,10,11] [2] hcx (m:=n) aOw (aOx) (aIi a0 (splice (flat c3 v1) (0+tN v2*1) [(iv 1)]) (v1.length) (W (v2+1))) (by kernel_rfl) ?_
   have z0:(W (v2+1))=(v2+1):=aF (by omega) (by omega)
   have z1:(splice (flat c3 v1) (0+tN v2*1) [(iv 1)])=flat c3 (v1.set (tN v2) 1):=(dX dH (by first | omega | (simp only [Lt];omega)) (o:=0) (d:=dF) (Nb rfl) rfl)
   have z2:v1.length=(v1.set (tN v2) 1).length:=by simp
   rw [z0,z1,z2]
   exact ih (v1.set (tN v2) 1) (v2+1) (by refine⟨?_,?_⟩<;>(try simp only [Ls])<;>first | omega | assumption | simp) (by(try simp only [Ls]);omega)
  | false =>
   have q0:=cE h0
   have e:=Eq.refl (qV a0 (v1,v2));conv at e=>rhs;simp only [qV,h0,aJ]
   rw [aD,e]
   exact rt [.d h0] [] [2] hcx (by kernel_rfl)
def jV (a0:Zm):List Int :=
 (aB (qV a0) (tN ((((tN (a0.2.length:Int)):Nat):Int) - 0)+1) ((List.replicate (tN (a0.2.length:Int)) 0),0))
theorem C18 (a0:Zm)(l0_1:a0.1.length<=2^63-1)(l0_2:a0.2.length<=2^63-1)(hn:a0.2.length<=96):Con Tryz.prog 18 [(.a [(.s 0 0 a0.1.length 3),(.s 1 0 a0.2.length 3)])] [(.live false true (flat dQ a0.1)),(.live false true (flat eE a0.2))] (.s 2 0 (jV a0).length 1) [(.live true true (flat c3 (jV a0)))]:=by
 refine aK Tryz.func18 (by kernel_rfl) fun cx hcx=>?_
 have e:=Eq.refl (jV a0);conv at e=>rhs;simp only [jV]
 rw [e]
 refine en [.Z c3 0 [(iv 0)] (a0.2.length:Int) 8] [] [3,10,11] [3] hcx aOw (aOx) (aIi a0 (flat c3 (List.replicate (tN (a0.2.length:Int)) 0)) (tN (a0.2.length:Int)) 0) (tN ((((tN (a0.2.length:Int)):Nat):Int) - 0)+1) (by kernel_rfl) ?_
 have q:=aXu a0 l0_1 l0_2 hn hcx (tN ((((tN (a0.2.length:Int)):Nat):Int) - 0)+1) (List.replicate (tN (a0.2.length:Int)) 0) 0 (by refine⟨?_,?_⟩<;>(try simp only [Ls])<;>first | omega | assumption | simp) (by(try simp only [Ls]);omega)
 simp only [List.length_replicate] at q
 exact q
def F12 (a0:Zm)(a1:Int):Int×Int :=
 (bif (((fW (a0.1,a0.2)):Int) != 0) then
  (0,(fW (a0.1,a0.2)))
 else
  (bif (!(nZ a1 0 2)) then
   (0,1)
  else
   ((W ((W ((a0.2.length:Int)*(a0.2.length:Int)))*(W ((W (1*2 ^ (min (tN (W (2*a1))) 64)))+(W ((W (1*2 ^ (min (tN (W (2*a1))) 64)))*(W (1*2 ^ (min (tN (W (2*a1))) 64))))))))),0)))
theorem C12 (a0:Zm)(a1:Int)(l0_1:a0.1.length<=2^63-1)(l0_2:a0.2.length<=2^63-1):Con Tryz.prog 12 [(.a [(.s 0 0 a0.1.length 3),(.s 1 0 a0.2.length 3)]),(iv a1)] [(.live false true (flat dQ a0.1)),(.live false true (flat eE a0.2))] (.t (k2 (F12 a0 a1))) []:=by
 refine aK Tryz.func12 (by kernel_rfl) fun cx hcx=>?_
 try have hw1:=oZ h1
 let t0:List (St Tryz.prog):=[.c [0,1] (C27 (a0.1,a0.2) (by(try simp only [Lt]);omega) (by(try simp only [Lt]);omega))]
 cases h0:(((fW (a0.1,a0.2)):Int) != 0) with
 | true =>
  have q0:=bne_iff_ne.1 h0
  try have hw1:=oZ h1
  have e:=Eq.refl (F12 a0 a1);conv at e=>rhs;simp only [F12,h0,aJ]
  rw [e]
  exact rt (t0++[.d h0]) [] [] hcx (by kernel_rfl)
 | false =>
  have q0:=bne_eq_false_iff_eq.1 h0
  try have hw1:=oZ h1
  let t1:List (St Tryz.prog):=(t0++[.d h0,.c [] (C28 a1 0 2)])
  cases h1:(!(nZ a1 0 2)) with
  | true =>
   try have hw1:=oZ h1
   have e:=Eq.refl (F12 a0 a1);conv at e=>rhs;simp only [F12,h0,h1,aJ]
   rw [e]
   exact rt (t1++[.d h1]) [] [] hcx (by kernel_rfl)
  | false =>
   try have hw1:=oZ h1
   have e:=Eq.refl (F12 a0 a1);conv at e=>rhs;simp only [F12,h0,h1,aJ]
   rw [e]
   exact rt (t1++[.d h1,.p (show 0<=((W (2*a1)):Int) from by first | omega | (rw [aF]<;>omega) | exact dM _)]) [] [] hcx (by kernel_rfl)
noncomputable def aEq:Code:=(aC [1,1,0,1] [] (aG Tryz.f47) []).1
noncomputable def aEr:List K:=(aC [1,1,0,1] [] (aG Tryz.f47) []).2
def aA0 (a0:List Int)(v1 v2:Int):LS:=⟨fU 18 [(0,(.s 0 0 a0.length 1)),(3,(iv v1)),(4,(iv v2))],[(.live false true (flat c3 a0))]⟩
def lF (a0:List Int):Int×Int->(Int×Int)⊕(Int)
 | (v1,v2) =>
  (bif (decide ((v2:Int) < (a0.length:Int))) then
   (.inl ((W (v1+(a0.getD (tN v2) dF))),(v2+1)))
  else
   (.inr v1))
theorem aQ1 (a0:List Int)(l0:a0.length<=2^63-1) {cx:Cx} (hcx:cx.base=1):∀(n:Nat) (v1 v2:Int),0<=v2->tN ((a0.length:Int) - v2) < n->Aw.Good Tryz.prog none 9 (bodyPost Tryz.prog Tryz.f47 (RR cx (iv (aB (lF a0) n (v1,v2))) [] [])) cx [] (.l aEq n::aEr) (aA0 a0 v1 v2):=by
 intro n
 induction n with
 | zero=>intro v1 v2 hi hn;exact absurd hn (fZ _)
 | succ n ih =>
  intro v1 v2 hi hn
  refine aH ?_
  cases h0:(decide ((v2:Int) < (a0.length:Int))) with
  | true =>
   have q0:=bS h0
   have e:=Eq.refl (lF a0 (v1,v2));conv at e=>rhs;simp only [lF,h0,aJ]
   rw [aA e]
   refine ba [.d h0,.i v2 (a0.length),.L dH a0 v2 0 1] [] [0,3,4] [] hcx (m:=n) aEq (aEr) (aA0 a0 (W (v1+(a0.getD (tN v2) dF))) (W (v2+1))) (by kernel_rfl) ?_
   have z0:(W (v2+1))=(v2+1):=aF (by omega) (by omega)
   rw [z0]
   exact ih (W (v1+(a0.getD (tN v2) dF))) (v2+1) (by(try simp only [Ls]);omega) (by(try simp only [Ls]);omega)
  | false =>
   have q0:=cE h0
   have e:=Eq.refl (lF a0 (v1,v2));conv at e=>rhs;simp only [lF,h0,aJ]
   rw [aD,e]
   exact rt [.d h0] [] [] hcx (by kernel_rfl)
def dP (a0:List Int):Int :=
 (aB (lF a0) (tN ((a0.length:Int) - 0)+1) (0,0))
theorem aJ1 (a0:List Int)(l0:a0.length<=2^63-1):Con Tryz.prog 47 [(.s 0 0 a0.length 1)] [(.live false true (flat c3 a0))] (iv (dP a0)) []:=by
 refine aK Tryz.func47 (by kernel_rfl) fun cx hcx=>?_
 have e:=Eq.refl (dP a0);conv at e=>rhs;simp only [dP]
 rw [e]
 refine en [] [] [0,3,4] [] hcx aEq (aEr) (aA0 a0 0 0) (tN ((a0.length:Int) - 0)+1) (by kernel_rfl) ?_
 exact aQ1 a0 l0 hcx (tN ((a0.length:Int) - 0)+1) 0 0 (by(try simp only [Ls]);omega) (by(try simp only [Ls]);omega)
noncomputable def aA1:Code:=(aC [1,1,1,1,0,1] [] (aG Tryz.f113) []).1
noncomputable def aA2:List K:=(aC [1,1,1,1,0,1] [] (aG Tryz.f113) []).2
def vN (a0:Zm)(a1:List Int)(v1:Int):LS:=⟨fU 33 [(1,(.s 2 0 a1.length 1)),(6,(iv v1))],[(.live false true (flat dQ a0.1)),(.live false true (flat eE a0.2)),(.live false true (flat c3 a1))]⟩
def fA (a0:Zm)(a1:List Int):Int->(Int)⊕(Int)
 | v1 =>
  (bif (decide ((v1:Int) < (a1.length:Int))) then
   (bif (!(F26 (a1.getD (tN v1) dF) 0 100)) then
    (.inr 1)
   else
    (.inl (v1+1)))
  else
   (bif (((dP a1):Int) == 0) then
    (.inr 11)
   else
    (.inr 0)))
theorem aOy (a0:Zm)(a1:List Int)(l0_1:a0.1.length<=2^63-1)(l0_2:a0.2.length<=2^63-1)(l1:a1.length<=2^63-1) {cx:Cx} (hcx:cx.base=3):∀(n:Nat) (v1:Int),0<=v1->tN ((a1.length:Int) - v1) < n->Aw.Good Tryz.prog none 9 (bodyPost Tryz.prog Tryz.f113 (RR cx (iv (aB (fA a0 a1) n v1)) [] [])) cx [] (.l aA1 n::aA2) (vN a0 a1 v1):=by
 intro n
 induction n with
 | zero=>intro v1 hi hn;exact absurd hn (fZ _)
 | succ n ih =>
  intro v1 hi hn
  refine aH ?_
  cases h0:(decide ((v1:Int) < (a1.length:Int))) with
  | true =>
   have q0:=bS h0
   let t1:List (St Tryz.prog):=[.d h0,.i v1 (a1.length),.L dH a1 v1 0 1,.c [] (C26 (a1.getD (tN v1) dF) 0 100)]
   cases h1:(!(F26 (a1.getD (tN v1) dF) 0 100)) with
   | true =>
    have e:=Eq.refl (fA a0 a1 v1);conv at e=>rhs;simp only [fA,h0,h1,aJ]
    rw [aD,e]
    exact rt (t1++[.d h1]) [] [] hcx (by kernel_rfl)
   | false =>
    have e:=Eq.refl (fA a0 a1 v1);conv at e=>rhs;simp only [fA,h0,h1,aJ]
    rw [aA e]
    refine ba (t1++[.d h1]) [] [1,6] [] hcx (m:=n) aA1 (aA2) (vN a0 a1 (W (v1+1))) (by kernel_rfl) ?_
    have z0:(W (v1+1))=(v1+1):=aF (by omega) (by omega)
    rw [z0]
    exact ih (v1+1) (by(try simp only [Ls]);omega) (by(try simp only [Ls]);omega)
  | false =>
   have q0:=cE h0
   let t1:List (St Tryz.prog):=[.d h0,.c [2] (aJ1 a1 (by omega))]
   cases h1:(((dP a1):Int) == 0) with
   | true =>
    have q1:=eq_of_beq h1
    have e:=Eq.refl (fA a0 a1 v1);conv at e=>rhs;simp only [fA,h0,h1,aJ]
    rw [aD,e]
    exact rt (t1++[.d h1]) [] [] hcx (by kernel_rfl)
   | false =>
    have q1:=ne_of_beq_false h1
    have e:=Eq.refl (fA a0 a1 v1);conv at e=>rhs;simp only [fA,h0,h1,aJ]
    rw [aD,e]
    exact rt (t1++[.d h1]) [] [] hcx (by kernel_rfl)
def iS (a0:Zm)(a1:List Int):Int :=
 (bif (((wW (a0.1,a0.2)):Int) != 0) then
  (wW (a0.1,a0.2))
 else
  (bif (((a1.length:Int):Int) != (a0.2.length:Int)) then
   1
  else
   (aB (fA a0 a1) (tN ((a1.length:Int) - 0)+1) 0)))
theorem aUq (a0:Zm)(a1:List Int)(l0_1:a0.1.length<=2^63-1)(l0_2:a0.2.length<=2^63-1)(l1:a1.length<=2^63-1):Con Tryz.prog 113 [(.a [(.s 0 0 a0.1.length 3),(.s 1 0 a0.2.length 3)]),(.s 2 0 a1.length 1)] [(.live false true (flat dQ a0.1)),(.live false true (flat eE a0.2)),(.live false true (flat c3 a1))] (iv (iS a0 a1)) []:=by
 refine aK Tryz.func113 (by kernel_rfl) fun cx hcx=>?_
 let t0:List (St Tryz.prog):=[.c [0,1] (C19 (a0.1,a0.2) (by(try simp only [Lt]);omega) (by(try simp only [Lt]);omega))]
 cases h0:(((wW (a0.1,a0.2)):Int) != 0) with
 | true =>
  have q0:=bne_iff_ne.1 h0
  have e:=Eq.refl (iS a0 a1);conv at e=>rhs;simp only [iS,h0,aJ]
  rw [e]
  exact rt (t0++[.d h0]) [] [] hcx (by kernel_rfl)
 | false =>
  have q0:=bne_eq_false_iff_eq.1 h0
  let t1:List (St Tryz.prog):=(t0++[.d h0])
  cases h1:(((a1.length:Int):Int) != (a0.2.length:Int)) with
  | true =>
   have q1:=bne_iff_ne.1 h1
   have e:=Eq.refl (iS a0 a1);conv at e=>rhs;simp only [iS,h0,h1,aJ]
   rw [e]
   exact rt (t1++[.d h1]) [] [] hcx (by kernel_rfl)
  | false =>
   have q1:=bne_eq_false_iff_eq.1 h1
   have e:=Eq.refl (iS a0 a1);conv at e=>rhs;simp only [iS,h0,h1,aJ]
   rw [e]
   refine en (t1++[.d h1]) [] [1,6] [] hcx aA1 (aA2) (vN a0 a1 0) (tN ((a1.length:Int) - 0)+1) (by kernel_rfl) ?_
   exact aOy a0 a1 l0_1 l0_2 l1 hcx (tN ((a1.length:Int) - 0)+1) 0 (by(try simp only [Ls]);omega) (by(try simp only [Ls]);omega)
def iG (a0:Zm)(a1:List Int)(a2:Int):Int :=
 (bif (((iS (a0.1,a0.2) a1):Int) != 0) then
  (iS (a0.1,a0.2) a1)
 else
  (bif (!(F26 a2 0 2)) then
   1
  else
   0))
theorem aSk (a0:Zm)(a1:List Int)(a2:Int)(l0_1:a0.1.length<=2^63-1)(l0_2:a0.2.length<=2^63-1)(l1:a1.length<=2^63-1):Con Tryz.prog 77 [(.a [(.s 0 0 a0.1.length 3),(.s 1 0 a0.2.length 3)]),(.s 2 0 a1.length 1),(iv a2)] [(.live false true (flat dQ a0.1)),(.live false true (flat eE a0.2)),(.live false true (flat c3 a1))] (iv (iG a0 a1 a2)) []:=by
 refine aK Tryz.func77 (by kernel_rfl) fun cx hcx=>?_
 let t0:List (St Tryz.prog):=[.c [0,1,2] (aUq (a0.1,a0.2) a1 (by(try simp only [Lt]);omega) (by(try simp only [Lt]);omega) (by omega))]
 cases h0:(((iS (a0.1,a0.2) a1):Int) != 0) with
 | true =>
  have q0:=bne_iff_ne.1 h0
  have e:=Eq.refl (iG a0 a1 a2);conv at e=>rhs;simp only [iG,h0,aJ]
  rw [e]
  exact rt (t0++[.d h0]) [] [] hcx (by kernel_rfl)
 | false =>
  have q0:=bne_eq_false_iff_eq.1 h0
  let t1:List (St Tryz.prog):=(t0++[.d h0,.c [] (C26 a2 0 2)])
  cases h1:(!(F26 a2 0 2)) with
  | true =>
   have e:=Eq.refl (iG a0 a1 a2);conv at e=>rhs;simp only [iG,h0,h1,aJ]
   rw [e]
   exact rt (t1++[.d h1]) [] [] hcx (by kernel_rfl)
  | false =>
   have e:=Eq.refl (iG a0 a1 a2);conv at e=>rhs;simp only [iG,h0,h1,aJ]
   rw [e]
   exact rt (t1++[.d h1]) [] [] hcx (by kernel_rfl)
noncomputable def aOz:Code:=(aC [1,1,0,1] [] (aG Tryz.f78) []).1
noncomputable def aO0:List K:=(aC [1,1,0,1] [] (aG Tryz.f78) []).2
def aIj (a0:Zm)(v2c:List SV)(v2n:Nat)(v3:Int):LS:=⟨fU 41 [(1,(.p 2 0)),(3,(.s 3 0 v2n 9)),(4,(iv v3))],[(.live false true (flat dQ a0.1)),(.live false true (flat eE a0.2)),(.live true false [(.s 0 0 a0.1.length 3),(.s 1 0 a0.2.length 3)]),(.live true true v2c)]⟩
def tR (a0:Zm):(List (Zt×Zt×Zt))×Int->((List (Zt×Zt×Zt))×Int)⊕(List (Zt×Zt×Zt))
 | (v2,v3) =>
  (bif (decide ((v3:Int) < (a0.2.length:Int))) then
   (.inl ((v2++[((a0.1.getD (tN (a0.2.getD (tN v3) dF).1) dF),(a0.1.getD (tN (a0.2.getD (tN v3) dF).2.1) dF),(a0.1.getD (tN (a0.2.getD (tN v3) dF).2.2) dF))]),(v3+1)))
  else
   (.inr v2))
theorem aXv (a0:Zm)(l0_1:a0.1.length<=2^63-1)(l0_2:a0.2.length<=2^63-1)(hv:jU a0 a0.2.length)(hn:a0.2.length<=96) {cx:Cx} (hcx:cx.base=2):∀(n:Nat) (v2:List (Zt×Zt×Zt)) (v3:Int),(0<=v3)/\(v2.length=tN v3)/\(v3<=a0.2.length)->tN ((a0.2.length:Int) - v3) < n->Aw.Good Tryz.prog none 9 (bodyPost Tryz.prog Tryz.f78 (RR cx (.s 2 0 (aB (tR a0) n (v2,v3)).length 9) [(.live true true (flat jR (aB (tR a0) n (v2,v3))))] [])) cx [] (.l aOz n::aO0) (aIj a0 (flat jR v2) v2.length v3):=by
 intro n
 induction n with
 | zero=>intro v2 v3 hi hn;exact absurd hn (fZ _)
 | succ n ih =>
  intro v2 v3 hi hn
  refine aH ?_
  have hf0:=aQz hv v3
  cases h0:(decide ((v3:Int) < (a0.2.length:Int))) with
  | true =>
   have q0:=bS h0
   have e:=Eq.refl (tR a0 (v2,v3));conv at e=>rhs;simp only [tR,h0,aJ]
   rw [aA e]
   refine ba [.d h0,.i v3 (a0.2.length),.L aU a0.2 v3 0 3,.i 0 3 (by decide),.i ((a0.2.getD (tN v3) dF).1) (a0.1.length),.L bQ a0.1 (a0.2.getD (tN v3) dF).1 0 3,.i 1 3 (by decide),.i ((a0.2.getD (tN v3) dF).2.1) (a0.1.length),.L bQ a0.1 (a0.2.getD (tN v3) dF).2.1 0 3,.i 2 3 (by decide),.i ((a0.2.getD (tN v3) dF).2.2) (a0.1.length),.L bQ a0.1 (a0.2.getD (tN v3) dF).2.2 0 3,.p (show((flat jR v2).length=v2.length*9/\v2.length+1<=2 ^ 40/\(v2.length+1)*72<=2 ^ 47) from fN dT (by omega) (by omega))] [] [1,3,4] [2,6] hcx (m:=n) aOz (aO0) (aIj a0 (flat jR v2++[(iv (a0.1.getD (tN (a0.2.getD (tN v3) dF).1) dF).1),(iv (a0.1.getD (tN (a0.2.getD (tN v3) dF).1) dF).2.1),(iv (a0.1.getD (tN (a0.2.getD (tN v3) dF).1) dF).2.2),(iv (a0.1.getD (tN (a0.2.getD (tN v3) dF).2.1) dF).1),(iv (a0.1.getD (tN (a0.2.getD (tN v3) dF).2.1) dF).2.1),(iv (a0.1.getD (tN (a0.2.getD (tN v3) dF).2.1) dF).2.2),(iv (a0.1.getD (tN (a0.2.getD (tN v3) dF).2.2) dF).1),(iv (a0.1.getD (tN (a0.2.getD (tN v3) dF).2.2) dF).2.1),(iv (a0.1.getD (tN (a0.2.getD (tN v3) dF).2.2) dF).2.2)]) (v2.length+1) (W (v3+1))) (by kernel_rfl) ?_
   have z0:(W (v3+1))=(v3+1):=aF (by omega) (by omega)
   have z1:(flat jR v2++[(iv (a0.1.getD (tN (a0.2.getD (tN v3) dF).1) dF).1),(iv (a0.1.getD (tN (a0.2.getD (tN v3) dF).1) dF).2.1),(iv (a0.1.getD (tN (a0.2.getD (tN v3) dF).1) dF).2.2),(iv (a0.1.getD (tN (a0.2.getD (tN v3) dF).2.1) dF).1),(iv (a0.1.getD (tN (a0.2.getD (tN v3) dF).2.1) dF).2.1),(iv (a0.1.getD (tN (a0.2.getD (tN v3) dF).2.1) dF).2.2),(iv (a0.1.getD (tN (a0.2.getD (tN v3) dF).2.2) dF).1),(iv (a0.1.getD (tN (a0.2.getD (tN v3) dF).2.2) dF).2.1),(iv (a0.1.getD (tN (a0.2.getD (tN v3) dF).2.2) dF).2.2)])=(flat jR (v2++[((a0.1.getD (tN (a0.2.getD (tN v3) dF).1) dF),(a0.1.getD (tN (a0.2.getD (tN v3) dF).2.1) dF),(a0.1.getD (tN (a0.2.getD (tN v3) dF).2.2) dF))])):=(bK (c:=jR) (l:=v2) (m:=[((a0.1.getD (tN (a0.2.getD (tN v3) dF).1) dF),(a0.1.getD (tN (a0.2.getD (tN v3) dF).2.1) dF),(a0.1.getD (tN (a0.2.getD (tN v3) dF).2.2) dF))])).symm
   have z2:(v2.length+1)=(v2++[((a0.1.getD (tN (a0.2.getD (tN v3) dF).1) dF),(a0.1.getD (tN (a0.2.getD (tN v3) dF).2.1) dF),(a0.1.getD (tN (a0.2.getD (tN v3) dF).2.2) dF))]).length:=dW v2 [((a0.1.getD (tN (a0.2.getD (tN v3) dF).1) dF),(a0.1.getD (tN (a0.2.getD (tN v3) dF).2.1) dF),(a0.1.getD (tN (a0.2.getD (tN v3) dF).2.2) dF))] rfl
   rw [z0,z1,z2]
   exact ih (v2++[((a0.1.getD (tN (a0.2.getD (tN v3) dF).1) dF),(a0.1.getD (tN (a0.2.getD (tN v3) dF).2.1) dF),(a0.1.getD (tN (a0.2.getD (tN v3) dF).2.2) dF))]) (v3+1) (by refine⟨?_,?_,?_⟩<;>(try simp only [Ls])<;>first | omega | assumption | simp) (by(try simp only [Ls]);omega)
  | false =>
   have q0:=cE h0
   have e:=Eq.refl (tR a0 (v2,v3));conv at e=>rhs;simp only [tR,h0,aJ]
   rw [aD,e]
   exact rt [.d h0] [] [3] hcx (by kernel_rfl)
def bX (a0:Zm):List (Zt×Zt×Zt) :=
 (aB (tR a0) (tN ((a0.2.length:Int) - 0)+1) (([]:List (Zt×Zt×Zt)),0))
theorem C78 (a0:Zm)(l0_1:a0.1.length<=2^63-1)(l0_2:a0.2.length<=2^63-1)(hv:jU a0 a0.2.length)(hn:a0.2.length<=96):Con Tryz.prog 78 [(.a [(.s 0 0 a0.1.length 3),(.s 1 0 a0.2.length 3)])] [(.live false true (flat dQ a0.1)),(.live false true (flat eE a0.2))] (.s 2 0 (bX a0).length 9) [(.live true true (flat jR (bX a0)))]:=by
 refine aK Tryz.func78 (by kernel_rfl) fun cx hcx=>?_
 have e:=Eq.refl (bX a0);conv at e=>rhs;simp only [bX]
 rw [e]
 refine en [] [.slot 3 9] [1,3,4] [2,3] hcx aOz (aO0) (aIj a0 (flat jR ([]:List (Zt×Zt×Zt))) 0 0) (tN ((a0.2.length:Int) - 0)+1) (by kernel_rfl) ?_
 exact aXv a0 l0_1 l0_2 hv hn hcx (tN ((a0.2.length:Int) - 0)+1) ([]:List (Zt×Zt×Zt)) 0 (by refine⟨?_,?_,?_⟩<;>(try simp only [Ls])<;>first | omega | assumption | simp) (by(try simp only [Ls]);omega)
def F46 (a0:Int):Int×Int :=
 (bif (decide ((a0:Int) > 1099511627776)) then
  (0,4)
 else
  (a0,0))
theorem C46 (a0:Int):Con Tryz.prog 46 [(iv a0)] [] (.t (k2 (F46 a0))) []:=by
 refine aK Tryz.func46 (by kernel_rfl) fun cx hcx=>?_
 cases h0:(decide ((a0:Int) > 1099511627776)) with
 | true =>
  have q0:=bS h0
  have e:=Eq.refl (F46 a0);conv at e=>rhs;simp only [F46,h0,aJ]
  rw [e]
  exact rt [.d h0] [] [] hcx (by kernel_rfl)
 | false =>
  have q0:=cE h0
  have e:=Eq.refl (F46 a0);conv at e=>rhs;simp only [F46,h0,aJ]
  rw [e]
  exact rt [.d h0] [] [] hcx (by kernel_rfl)
noncomputable def aO1:Code:=(aC [1,1,1,1,1,0,1] [] (aG Tryz.f24) []).1
noncomputable def aO2:List K:=(aC [1,1,1,1,1,0,1] [] (aG Tryz.f24) []).2
def aIk (a0:Zm)(a1:Zt)(v1 v2:Int):LS:=⟨fU 43 [(2,(.p 2 0)),(3,(.p 3 0)),(7,(iv v1)),(8,(iv v2))],[(.live false true (flat dQ a0.1)),(.live false true (flat eE a0.2)),(.live true false [(.s 0 0 a0.1.length 3),(.s 1 0 a0.2.length 3)]),(.live true false (k3 a1))]⟩
def qW (a0:Zm)(a1:Zt):Int×Int->(Int×Int)⊕(Int×Int)
 | (v1,v2) =>
  (bif (decide ((v2:Int) < (a0.1.length:Int))) then
   (.inl ((fV v1 (F50 (F51 (a0.1.getD (tN v2) dF) a1))),(v2+1)))
  else
   (.inr ((F52 v1).1.2,(F52 v1).2)))
theorem aXw (a0:Zm)(a1:Zt)(l0_1:a0.1.length<=2^63-1)(l0_2:a0.2.length<=2^63-1) {cx:Cx} (hcx:cx.base=2):∀(n:Nat) (v1 v2:Int),0<=v2->tN ((a0.1.length:Int) - v2) < n->Aw.Good Tryz.prog none 9 (bodyPost Tryz.prog Tryz.f24 (RR cx (.t (k2 (aB (qW a0 a1) n (v1,v2)))) [] [])) cx [] (.l aO1 n::aO2) (aIk a0 a1 v1 v2):=by
 intro n
 induction n with
 | zero=>intro v1 v2 hi hn;exact absurd hn (fZ _)
 | succ n ih =>
  intro v1 v2 hi hn
  refine aH ?_
  cases h0:(decide ((v2:Int) < (a0.1.length:Int))) with
  | true =>
   have q0:=bS h0
   have e:=Eq.refl (qW a0 a1 (v1,v2));conv at e=>rhs;simp only [qW,h0,aJ]
   rw [aA e]
   refine ba [.d h0,.i v2 (a0.1.length),.L bQ a0.1 v2 0 3,.c [] (C51 (a0.1.getD (tN v2) dF) a1),.c [] (C50 (F51 (a0.1.getD (tN v2) dF) a1))] [] [2,3,7,8] [2,3] hcx (m:=n) aO1 (aO2) (aIk a0 a1 (fV v1 (F50 (F51 (a0.1.getD (tN v2) dF) a1))) (W (v2+1))) (by kernel_rfl) ?_
   have z0:(W (v2+1))=(v2+1):=aF (by omega) (by omega)
   rw [z0]
   exact ih (fV v1 (F50 (F51 (a0.1.getD (tN v2) dF) a1))) (v2+1) (by(try simp only [Ls]);omega) (by(try simp only [Ls]);omega)
  | false =>
   have q0:=cE h0
   have e:=Eq.refl (qW a0 a1 (v1,v2));conv at e=>rhs;simp only [qW,h0,aJ]
   rw [aD,e]
   exact rt [.d h0,.c [] (C52 v1)] [] [] hcx (by kernel_rfl)
def F24 (a0:Zm)(a1:Zt):Int×Int :=
 (bif (((wW (a0.1,a0.2)):Int) != 0) then
  (0,(wW (a0.1,a0.2)))
 else
  (bif (!(F49 a1 256)) then
   (0,1)
  else
   (aB (qW a0 a1) (tN ((a0.1.length:Int) - 0)+1) (0,0))))
theorem C24 (a0:Zm)(a1:Zt)(l0_1:a0.1.length<=2^63-1)(l0_2:a0.2.length<=2^63-1):Con Tryz.prog 24 [(.a [(.s 0 0 a0.1.length 3),(.s 1 0 a0.2.length 3)]),(.a (k3 a1))] [(.live false true (flat dQ a0.1)),(.live false true (flat eE a0.2))] (.t (k2 (F24 a0 a1))) []:=by
 refine aK Tryz.func24 (by kernel_rfl) fun cx hcx=>?_
 let t0:List (St Tryz.prog):=[.c [0,1] (C19 (a0.1,a0.2) (by(try simp only [Lt]);omega) (by(try simp only [Lt]);omega))]
 cases h0:(((wW (a0.1,a0.2)):Int) != 0) with
 | true =>
  have q0:=bne_iff_ne.1 h0
  have e:=Eq.refl (F24 a0 a1);conv at e=>rhs;simp only [F24,h0,aJ]
  rw [e]
  exact rt (t0++[.d h0]) [] [] hcx (by kernel_rfl)
 | false =>
  have q0:=bne_eq_false_iff_eq.1 h0
  let t1:List (St Tryz.prog):=(t0++[.d h0,.c [] (C49 a1 256)])
  cases h1:(!(F49 a1 256)) with
  | true =>
   have e:=Eq.refl (F24 a0 a1);conv at e=>rhs;simp only [F24,h0,h1,aJ]
   rw [e]
   exact rt (t1++[.d h1]) [] [] hcx (by kernel_rfl)
  | false =>
   have e:=Eq.refl (F24 a0 a1);conv at e=>rhs;simp only [F24,h0,h1,aJ]
   rw [e]
   refine en (t1++[.d h1]) [] [2,3,7,8] [2,3] hcx aO1 (aO2) (aIk a0 a1 0 0) (tN ((a0.1.length:Int) - 0)+1) (by kernel_rfl) ?_
   exact aXw a0 a1 l0_1 l0_2 hcx (tN ((a0.1.length:Int) - 0)+1) 0 0 (by(try simp only [Ls]);omega) (by(try simp only [Ls]);omega)
noncomputable def aO3:Code:=(aC [1,1,0,1] [] (aG Tryz.f25) []).1
noncomputable def aO4:List K:=(aC [1,1,0,1] [] (aG Tryz.f25) []).2
def aIl (a0:Zm)(v1 v2 v3 v4 v5 v6 v7:Int):LS:=⟨fU 78 [(1,(.p 2 0)),(2,(.p 3 0)),(3,(.p 4 0)),(4,(.p 5 0)),(5,(iv v1))],[(.live false true (flat dQ a0.1)),(.live false true (flat eE a0.2)),(.live true false [(.s 0 0 a0.1.length 3),(.s 1 0 a0.2.length 3)]),(.live true false [(iv 0),(iv 0),(iv 0)]),(.live true false [(iv v2),(iv v3),(iv v4)]),(.live true false [(iv v5),(iv v6),(iv v7)])]⟩
def tS (a0:Zm):Int×Int×Int×Int×Zt->(Int×Int×Int×Int×Zt)⊕Zt
 | (v1,v2,v3,v4,v5,v6,v7) =>
  (bif (decide ((v1:Int) < (a0.1.length:Int))) then
   (.inl ((v1+1),(nS v2 (a0.1.getD (tN v1) dF).1),(nS v3 (a0.1.getD (tN v1) dF).2.1),(nS v4 (a0.1.getD (tN v1) dF).2.2),(fV v5 (a0.1.getD (tN v1) dF).1),(fV v6 (a0.1.getD (tN v1) dF).2.1),(fV v7 (a0.1.getD (tN v1) dF).2.2)))
  else
   (.inr ((Int.fdiv (W (v2+v5)) (2 ^ (min (tN 1) 64))),(Int.fdiv (W (v3+v6)) (2 ^ (min (tN 1) 64))),(Int.fdiv (W (v4+v7)) (2 ^ (min (tN 1) 64))))))
theorem aXx (a0:Zm)(l0_1:a0.1.length<=2^63-1)(l0_2:a0.2.length<=2^63-1)(hp:1<=a0.1.length) {cx:Cx} (hcx:cx.base=2):∀(n:Nat) (v1 v2 v3 v4 v5 v6 v7:Int),0<=v1->tN ((a0.1.length:Int) - v1) < n->Aw.Good Tryz.prog none 9 (bodyPost Tryz.prog Tryz.f25 (RR cx (.a (k3 (aB (tS a0) n (v1,v2,v3,v4,v5,v6,v7)))) [] [])) cx [] (.l aO3 n::aO4) (aIl a0 v1 v2 v3 v4 v5 v6 v7):=by
 intro n
 induction n with
 | zero=>intro v1 v2 v3 v4 v5 v6 v7 hi hn;exact absurd hn (fZ _)
 | succ n ih =>
  intro v1 v2 v3 v4 v5 v6 v7 hi hn
  refine aH ?_
  cases h0:(decide ((v1:Int) < (a0.1.length:Int))) with
  | true =>
   have q0:=bS h0
   have e:=Eq.refl (tS a0 (v1,v2,v3,v4,v5,v6,v7));conv at e=>rhs;simp only [tS,h0,aJ]
   rw [aA e]
   refine ba [.d h0,.i v1 (a0.1.length),.L bQ a0.1 v1 0 3] [] [1,2,3,4,5] [2,3,4,5] hcx (m:=n) aO3 (aO4) (aIl a0 (W (v1+1)) (nS v2 (a0.1.getD (tN v1) dF).1) (nS v3 (a0.1.getD (tN v1) dF).2.1) (nS v4 (a0.1.getD (tN v1) dF).2.2) (fV v5 (a0.1.getD (tN v1) dF).1) (fV v6 (a0.1.getD (tN v1) dF).2.1) (fV v7 (a0.1.getD (tN v1) dF).2.2)) (by kernel_rfl) ?_
   have z0:(W (v1+1))=(v1+1):=aF (by omega) (by omega)
   rw [z0]
   exact ih (v1+1) (nS v2 (a0.1.getD (tN v1) dF).1) (nS v3 (a0.1.getD (tN v1) dF).2.1) (nS v4 (a0.1.getD (tN v1) dF).2.2) (fV v5 (a0.1.getD (tN v1) dF).1) (fV v6 (a0.1.getD (tN v1) dF).2.1) (fV v7 (a0.1.getD (tN v1) dF).2.2) (by(try simp only [Ls]);omega) (by(try simp only [Ls]);omega)
  | false =>
   have q0:=cE h0
   have e:=Eq.refl (tS a0 (v1,v2,v3,v4,v5,v6,v7));conv at e=>rhs;simp only [tS,h0,aJ]
   rw [aD,e]
   exact rt [.d h0,.p (show 0<=(1:Int) from by decide),.p (show 0<=(1:Int) from by decide),.p (show 0<=(1:Int) from by decide)] [] [] hcx (by kernel_rfl)
def F25 (a0:Zm):Zt :=
 (aB (tS a0) (tN ((a0.1.length:Int) - 1)+1) (1,(a0.1.getD (tN 0) dF).1,(a0.1.getD (tN 0) dF).2.1,(a0.1.getD (tN 0) dF).2.2,(a0.1.getD (tN 0) dF).1,(a0.1.getD (tN 0) dF).2.1,(a0.1.getD (tN 0) dF).2.2))
theorem C25 (a0:Zm)(l0_1:a0.1.length<=2^63-1)(l0_2:a0.2.length<=2^63-1)(hp:1<=a0.1.length):Con Tryz.prog 25 [(.a [(.s 0 0 a0.1.length 3),(.s 1 0 a0.2.length 3)])] [(.live false true (flat dQ a0.1)),(.live false true (flat eE a0.2))] (.a (k3 (F25 a0))) []:=by
 refine aK Tryz.func25 (by kernel_rfl) fun cx hcx=>?_
 have e:=Eq.refl (F25 a0);conv at e=>rhs;simp only [F25]
 rw [e]
 refine en [.i 0 (a0.1.length),.L bQ a0.1 0 0 3,.i 0 (a0.1.length),.L bQ a0.1 0 0 3] [] [1,2,3,4,5] [2,3,4,5] hcx aO3 (aO4) (aIl a0 1 ((a0.1.getD (tN 0) dF).1) ((a0.1.getD (tN 0) dF).2.1) ((a0.1.getD (tN 0) dF).2.2) ((a0.1.getD (tN 0) dF).1) ((a0.1.getD (tN 0) dF).2.1) ((a0.1.getD (tN 0) dF).2.2)) (tN ((a0.1.length:Int) - 1)+1) (by kernel_rfl) ?_
 exact aXx a0 l0_1 l0_2 hp hcx (tN ((a0.1.length:Int) - 1)+1) 1 ((a0.1.getD (tN 0) dF).1) ((a0.1.getD (tN 0) dF).2.1) ((a0.1.getD (tN 0) dF).2.2) ((a0.1.getD (tN 0) dF).1) ((a0.1.getD (tN 0) dF).2.1) ((a0.1.getD (tN 0) dF).2.2) (by(try simp only [Ls]);omega) (by(try simp only [Ls]);omega)
noncomputable def aO5:Code:=(aC [1,1,0,1] [] (aG Tryz.f20) []).1
noncomputable def aO6:List K:=(aC [1,1,0,1] [] (aG Tryz.f20) []).2
def aIm (a0:Zm)(v2c:List SV)(v2n:Nat)(v3:Int):LS:=⟨fU 16 [(1,(.p 2 0)),(3,(.s 3 0 v2n 1)),(4,(iv v3))],[(.live false true (flat dQ a0.1)),(.live false true (flat eE a0.2)),(.live true false [(.s 0 0 a0.1.length 3),(.s 1 0 a0.2.length 3)]),(.live true true v2c)]⟩
def tT (a0:Zm):List Int×Int->(List Int×Int)⊕(List Int)
 | (v2,v3) =>
  (bif (decide ((v3:Int) < (a0.2.length:Int))) then
   (.inl ((v2++[1]),(v3+1)))
  else
   (.inr v2))
theorem aXy (a0:Zm)(l0_1:a0.1.length<=2^63-1)(l0_2:a0.2.length<=2^63-1)(hn:a0.2.length<=96) {cx:Cx} (hcx:cx.base=2):∀(n:Nat) (v2:List Int) (v3:Int),(0<=v3)/\(v2.length=tN v3)/\(v3<=a0.2.length)->tN ((a0.2.length:Int) - v3) < n->Aw.Good Tryz.prog none 9 (bodyPost Tryz.prog Tryz.f20 (RR cx (.s 2 0 (aB (tT a0) n (v2,v3)).length 1) [(.live true true (flat c3 (aB (tT a0) n (v2,v3))))] [])) cx [] (.l aO5 n::aO6) (aIm a0 (flat c3 v2) v2.length v3):=by
 intro n
 induction n with
 | zero=>intro v2 v3 hi hn;exact absurd hn (fZ _)
 | succ n ih =>
  intro v2 v3 hi hn
  refine aH ?_
  cases h0:(decide ((v3:Int) < (a0.2.length:Int))) with
  | true =>
   have q0:=bS h0
   have e:=Eq.refl (tT a0 (v2,v3));conv at e=>rhs;simp only [tT,h0,aJ]
   rw [aA e]
   refine ba [.d h0,.p (show((flat c3 v2).length=v2.length*1/\v2.length+1<=2 ^ 40/\(v2.length+1)*8<=2 ^ 47) from fN dH (by omega) (by omega))] [] [1,3,4] [2,5] hcx (m:=n) aO5 (aO6) (aIm a0 (flat c3 v2++[(iv 1)]) (v2.length+1) (W (v3+1))) (by kernel_rfl) ?_
   have z0:(W (v3+1))=(v3+1):=aF (by omega) (by omega)
   have z1:(flat c3 v2++[(iv 1)])=(flat c3 (v2++[1])):=(bK (c:=c3) (l:=v2) (m:=[1])).symm
   have z2:(v2.length+1)=(v2++[1]).length:=dW v2 [1] rfl
   rw [z0,z1,z2]
   exact ih (v2++[1]) (v3+1) (by refine⟨?_,?_,?_⟩<;>(try simp only [Ls])<;>first | omega | assumption | simp) (by(try simp only [Ls]);omega)
  | false =>
   have q0:=cE h0
   have e:=Eq.refl (tT a0 (v2,v3));conv at e=>rhs;simp only [tT,h0,aJ]
   rw [aD,e]
   exact rt [.d h0] [] [3] hcx (by kernel_rfl)
def F20 (a0:Zm):List Int :=
 (aB (tT a0) (tN ((a0.2.length:Int) - 0)+1) (([]:List Int),0))
theorem C20 (a0:Zm)(l0_1:a0.1.length<=2^63-1)(l0_2:a0.2.length<=2^63-1)(hn:a0.2.length<=96):Con Tryz.prog 20 [(.a [(.s 0 0 a0.1.length 3),(.s 1 0 a0.2.length 3)])] [(.live false true (flat dQ a0.1)),(.live false true (flat eE a0.2))] (.s 2 0 (F20 a0).length 1) [(.live true true (flat c3 (F20 a0)))]:=by
 refine aK Tryz.func20 (by kernel_rfl) fun cx hcx=>?_
 have e:=Eq.refl (F20 a0);conv at e=>rhs;simp only [F20]
 rw [e]
 refine en [] [.slot 3 1] [1,3,4] [2,3] hcx aO5 (aO6) (aIm a0 (flat c3 ([]:List Int)) 0 0) (tN ((a0.2.length:Int) - 0)+1) (by kernel_rfl) ?_
 exact aXy a0 l0_1 l0_2 hn hcx (tN ((a0.2.length:Int) - 0)+1) ([]:List Int) 0 (by refine⟨?_,?_,?_⟩<;>(try simp only [Ls])<;>first | omega | assumption | simp) (by(try simp only [Ls]);omega)
noncomputable def aUr:Code:=(aC [1,1,1,1,1,0,1] [] (aG Tryz.f9) []).1
noncomputable def aUs:List K:=(aC [1,1,1,1,1,0,1] [] (aG Tryz.f9) []).2
def aO7 (a0:Zm)(a1:Int)(v1 v2 v3:Int):LS:=⟨fU 38 [(1,(iv a1)),(2,(.p 2 0)),(7,(iv v1)),(8,(iv v2)),(9,(iv v3))],[(.live false true (flat dQ a0.1)),(.live false true (flat eE a0.2)),(.live true false [(.s 0 0 a0.1.length 3),(.s 1 0 a0.2.length 3)])]⟩
def aK9 (a0:Zm)(a1:Int):Zt->Zt⊕(Int×Int)
 | (v1,v2,v3) =>
  (bif (decide ((v3:Int) < a1)) then
   (.inl ((W (v1*4)),(W (v2*16)),(v3+1)))
  else
   (.inr ((W ((W ((a0.2.length:Int)*(a0.2.length:Int)))*(W (v1+v2)))),0)))
theorem aZm (a0:Zm)(a1:Int)(l0_1:a0.1.length<=2^63-1)(l0_2:a0.2.length<=2^63-1) {cx:Cx} (hcx:cx.base=2):∀(n:Nat) (v1 v2 v3:Int),(0<=v3)/\(a1<=2)->tN (a1 - v3) < n->Aw.Good Tryz.prog none 9 (bodyPost Tryz.prog Tryz.f9 (RR cx (.t (k2 (aB (aK9 a0 a1) n (v1,v2,v3)))) [] [])) cx [] (.l aUr n::aUs) (aO7 a0 a1 v1 v2 v3):=by
 intro n
 induction n with
 | zero=>intro v1 v2 v3 hi hn;exact absurd hn (fZ _)
 | succ n ih =>
  intro v1 v2 v3 hi hn
  refine aH ?_
  cases h0:(decide ((v3:Int) < a1)) with
  | true =>
   have q0:=bS h0
   have e:=Eq.refl (aK9 a0 a1 (v1,v2,v3));conv at e=>rhs;simp only [aK9,h0,aJ]
   rw [aA e]
   refine ba [.d h0] [] [1,2,7,8,9] [2] hcx (m:=n) aUr (aUs) (aO7 a0 a1 (W (v1*4)) (W (v2*16)) (W (v3+1))) (by kernel_rfl) ?_
   have z0:(W (v3+1))=(v3+1):=aF (by omega) (by omega)
   rw [z0]
   exact ih (W (v1*4)) (W (v2*16)) (v3+1) (by refine⟨?_,?_⟩<;>(try simp only [Ls])<;>first | omega | assumption | simp) (by(try simp only [Ls]);omega)
  | false =>
   have q0:=cE h0
   have e:=Eq.refl (aK9 a0 a1 (v1,v2,v3));conv at e=>rhs;simp only [aK9,h0,aJ]
   rw [aD,e]
   exact rt [.d h0] [] [] hcx (by kernel_rfl)
def F9 (a0:Zm)(a1:Int):Int×Int :=
 (bif (((wW (a0.1,a0.2)):Int) != 0) then
  (0,(wW (a0.1,a0.2)))
 else
  (bif (!(F26 a1 0 2)) then
   (0,1)
  else
   (aB (aK9 a0 a1) (tN (a1 - 0)+1) (1,1,0))))
theorem C9 (a0:Zm)(a1:Int)(l0_1:a0.1.length<=2^63-1)(l0_2:a0.2.length<=2^63-1):Con Tryz.prog 9 [(.a [(.s 0 0 a0.1.length 3),(.s 1 0 a0.2.length 3)]),(iv a1)] [(.live false true (flat dQ a0.1)),(.live false true (flat eE a0.2))] (.t (k2 (F9 a0 a1))) []:=by
 refine aK Tryz.func9 (by kernel_rfl) fun cx hcx=>?_
 try have hw1:=aAw h1
 let t0:List (St Tryz.prog):=[.c [0,1] (C19 (a0.1,a0.2) (by(try simp only [Lt]);omega) (by(try simp only [Lt]);omega))]
 cases h0:(((wW (a0.1,a0.2)):Int) != 0) with
 | true =>
  have q0:=bne_iff_ne.1 h0
  try have hw1:=aAw h1
  have e:=Eq.refl (F9 a0 a1);conv at e=>rhs;simp only [F9,h0,aJ]
  rw [e]
  exact rt (t0++[.d h0]) [] [] hcx (by kernel_rfl)
 | false =>
  have q0:=bne_eq_false_iff_eq.1 h0
  try have hw1:=aAw h1
  let t1:List (St Tryz.prog):=(t0++[.d h0,.c [] (C26 a1 0 2)])
  cases h1:(!(F26 a1 0 2)) with
  | true =>
   try have hw1:=aAw h1
   have e:=Eq.refl (F9 a0 a1);conv at e=>rhs;simp only [F9,h0,h1,aJ]
   rw [e]
   exact rt (t1++[.d h1]) [] [] hcx (by kernel_rfl)
  | false =>
   try have hw1:=aAw h1
   have e:=Eq.refl (F9 a0 a1);conv at e=>rhs;simp only [F9,h0,h1,aJ]
   rw [e]
   refine en (t1++[.d h1]) [] [1,2,7,8,9] [2] hcx aUr (aUs) (aO7 a0 a1 1 1 0) (tN (a1 - 0)+1) (by kernel_rfl) ?_
   exact aZm a0 a1 l0_1 l0_2 hcx (tN (a1 - 0)+1) 1 1 0 (by refine⟨?_,?_⟩<;>(try simp only [Ls])<;>first | omega | assumption | simp) (by(try simp only [Ls]);omega)
def mV:Zm :=
 (([(1,0,0),((-1),0,0),(0,1,0),(0,(-1),0),(0,0,1),(0,0,(-1))]:List Zt),([(0,2,4),(2,1,4),(1,3,4),(3,0,4),(2,0,5),(1,2,5),(3,1,5),(0,3,5)]:List Zt))
theorem C11:Con Tryz.prog 11 [] [] (.a [(.s 0 0 mV.1.length 3),(.s 1 0 mV.2.length 3)]) [(.live true true (flat dQ mV.1)),(.live true true (flat eE mV.2))]:=by
 refine aK Tryz.func11 (by kernel_rfl) fun cx hcx=>?_
 have e:=Eq.refl mV;conv at e=>rhs;simp only [mV]
 rw [e]
 exact rt [] [.sym 1 true,.sym 2 true] [1,2] hcx (by kernel_rfl)
def F4 (a0:Zm)(a1:Int):Bool :=
 (bif (decide (((a0.1.length:Int):Int) > 200)) then
  true
 else
  (bif (decide (((a0.2.length:Int):Int) > 200)) then
   true
  else
   (bif (((F9 (a0.1,a0.2) a1).2:Int) == 0) then
    (decide (((F9 (a0.1,a0.2) a1).1:Int) > 20000))
   else
    false)))
theorem C4 (a0:Zm)(a1:Int)(l0_1:a0.1.length<=2^63-1)(l0_2:a0.2.length<=2^63-1):Con Tryz.prog 4 [(.a [(.s 0 0 a0.1.length 3),(.s 1 0 a0.2.length 3)]),(iv a1)] [(.live false true (flat dQ a0.1)),(.live false true (flat eE a0.2))] (.v (.bool (F4 a0 a1))) []:=by
 refine aK Tryz.func4 (by kernel_rfl) fun cx hcx=>?_
 cases h0:(decide (((a0.1.length:Int):Int) > 200)) with
 | true =>
  have q0:=bS h0
  have e:=Eq.refl (F4 a0 a1);conv at e=>rhs;simp only [F4,h0,aJ]
  rw [e]
  exact rt [.d h0] [] [] hcx (by kernel_rfl)
 | false =>
  have q0:=cE h0
  let t1:List (St Tryz.prog):=[.d h0]
  cases h1:(decide (((a0.2.length:Int):Int) > 200)) with
  | true =>
   have q1:=bS h1
   have e:=Eq.refl (F4 a0 a1);conv at e=>rhs;simp only [F4,h0,h1,aJ]
   rw [e]
   exact rt (t1++[.d h1]) [] [] hcx (by kernel_rfl)
  | false =>
   have q1:=cE h1
   let t2:List (St Tryz.prog):=(t1++[.d h1,.c [0,1] (C9 (a0.1,a0.2) a1 (by(try simp only [Lt]);omega) (by(try simp only [Lt]);omega))])
   cases h2:(((F9 (a0.1,a0.2) a1).2:Int) == 0) with
   | true =>
    have q2:=eq_of_beq h2
    have e:=Eq.refl (F4 a0 a1);conv at e=>rhs;simp only [F4,h0,h1,h2,aJ]
    rw [e]
    exact rt (t2++[.d h2]) [] [] hcx (by kernel_rfl)
   | false =>
    have q2:=ne_of_beq_false h2
    have e:=Eq.refl (F4 a0 a1);conv at e=>rhs;simp only [F4,h0,h1,h2,aJ]
    rw [e]
    exact rt (t2++[.d h2]) [] [] hcx (by kernel_rfl)
theorem aUt {s n:Int} (hs:s=1\/s=2\/s=4\/s=8)(h1:1<=n)(h2:n<=1099511627776):1<=(of1 s n).1:=by
 unfold of1
 rw [if_neg (by omega)]
 unfold inv
 have hN:1099511627776<=NN s:=by rcases hs with rfl | rfl | rfl | rfl<;>decide
 have hb:=aCr hs
 obtain⟨q1,q2,q3⟩:=lR hb.1 h1
 have hq:1<=NN s / n:=Int.le_ediv_of_mul_le (by omega) (by omega)
 have hr:=uZ (n:=NN s / n) q1 (by omega)
 exact hr.ge (by omega) (by omega)
theorem aQ2 {p c q:PN} {d:Int} (hp:vp p=0)(hd:0<=d/\d<=3)(hc:c∈bI d.toNat p):1<=fa3 c q:=by
 obtain⟨g1,g2,g3⟩:=aHr c q
 obtain⟨hb,hn⟩:=jK hp
 have h:=aNh c q.1 g1 g2 g3
 rw [aNg hb hd hc] at h
 rcases Int.lt_or_le (fa3 c q) 1 with h' | h'
 ·have h0:0<=fa3 c q:=Int.le_trans (tC _) g1
  have:fa3 c q=0:=by omega
  rw [this] at h;omega
 ·exact h'
theorem aIn {α:Type} {g:α->Int}:∀(l:List α),(∀c∈l,1<=g c)->(l.length:Int)<=(l.map g).sum
 | [],_=>by simp
 | c::l,h=>by
  have h1:=h c List.mem_cons_self
  have h2:=aIn l (fun c hc=>h c (List.mem_cons_of_mem _ hc))
  simp only [List.map_cons,List.sum_cons,List.length_cons];omega
theorem aUu {v n:Int} (hn:1<=n)(h:n<=v):1<=v / n:=Int.le_ediv_of_mul_le (by omega) (by omega)
theorem aQ3 {p q:PN} {d:Int} (hp:vp p=0)(hq:bdP 5000 q)(hd:0<=d/\d<=3):1<=(vG p q d).1:=by
 have hlen:=pT hd p
 have hc:=jG d
 unfold vG avg
 rw [aEg]
 simp only [Int.zero_add]
 refine aUu (by omega) ?_
 rw [←hlen]
 refine aIn _ (fun c hcm=>?_)
 have hcb:=(pV (jK hp).1 hd hcm).mono (show(512:Int)<=5000 by omega)
 have:=aHq hcb hq
 exact aUt (tJ d) (aQ2 hp hd hcm) (by omega)
def okP (a:Int×Int):Prop:=1<=a.1/\a.1<=a.2/\a.2<=536870913
theorem aJ2 {p q:PN} {d:Int} (hp:vp p=0)(hq:bdP 5000 q)(hd:0<=d/\d<=3):okP (vG p q d):=by
 have h1:=aQ3 hp hq hd
 have h2:=aNs (q:=q) hp hd
 unfold okE at h2
 exact⟨h1,h2.2.1,h2.2.2⟩
theorem aLa {p q:PN} {d:Int} (h:pk p q d=0):uE p q d=(vG p (tmP (sc d) q) d,0):=by
 unfold uE
 rw [xU,h]
 obtain⟨h1,h2,h3⟩:=tI h
 have hs:=aNa d
 have hq:=(jK h2).1
 have hq':=hq.mono (show(64:Int)<=4096 by omega)
 have hd:0<=d/\d<=3:=by omega
 have e1:=aNi h1 (aEc hs hq) hd
 unfold tmP at e1 ⊢
 rw [aT1 hd,aK4 hs hq'.1,aK4 hs hq'.2.1,aK4 hs hq'.2.2,e1];rfl
theorem lG {p q:PN} {d:Int} (h:pk p q d=0):(uE p q d).2=0/\okP (uE p q d).1:=by
 rw [aLa h]
 obtain⟨h1,h2,h3⟩:=tI h
 exact⟨rfl,aJ2 h1 (aEc (aNa d) (jK h2).1) (by omega)⟩
theorem rU {p q:PN} {d:Int} (h:pk p q d=0):(pW p q d).2=0/\okP (pW p q d).1:=by
 rw [aGj]
 obtain⟨h1,h2,h3⟩:=tI h
 have hd:0<=d/\d<=3:=by omega
 unfold aNt
 rw [if_pos h]
 refine⟨rfl,?_⟩
 have hl:=aAn (p:=p) (q:=q) hd
 have hc:=jG d
 have hpos:∀a∈aAm p q d,okP a:=by
  intro a ha
  obtain⟨b,hb,rfl⟩:=List.mem_map.1 ha
  exact aJ2 h1 ((pV (jK h2).1 hd hb).mono (by omega)) hd
 have hs1:sc d*sc d<=((aAm p q d).map (·.1)).sum:=by rw [←hl];exact aIn _ (fun a ha=>(hpos a ha).1)
 have key:∀l:List (Int×Int),(∀a∈l,okP a)->(l.map (·.1)).sum<=(l.map (·.2)).sum/\(l.map (·.2)).sum<=536870913*(l.length:Nat):=by
  intro l
  induction l with
  | nil=>intro _;simp
  | cons c l ih =>
   intro h
   obtain⟨a1,a2,a3⟩:=h c List.mem_cons_self
   have h2:=ih (fun c hc=>h c (List.mem_cons_of_mem _ hc))
   simp only [List.map_cons,List.sum_cons,List.length_cons];omega
 have hk:=key _ hpos
 rw [hl] at hk
 rw [aEe]
 unfold avg okP
 simp only [Int.zero_add]
 generalize ((aAm p q d).map (·.1)).sum=x at *
 generalize ((aAm p q d).map (·.2)).sum=y at *
 rcases hc with e | e | e | e<;>rw [e] at hs1 hk ⊢<;>omega
theorem aIo (m:ME):∀(n i:Nat) (v:List (P3×Bool)),m.1.length - i < n->aB (eJ m) n (v,(i:Int))=0->∀j,i<=j->j < m.1.length->bd 64 (m.1.getD j dF):=by
 intro n
 induction n with
 | zero=>intro i v h;omega
 | succ n ih =>
  intro i v hn h j h1 h2
  have hw:((i:Nat):Int) < (m.1.length:Int):=by omega
  cases hr:F87 (m.1.getD i dF) 64 with
  | false =>
   have e1:eJ m (v,(i:Int))=.inr 1:=by
    simp only [eJ];rw [cA hw,cond_true,sJ,hr];rfl
   rw [aO e1] at h;exact absurd h (by decide)
  | true =>
   cases hg:aT v (m.1.getD i dF) false with
   | true =>
    have e1:eJ m (v,(i:Int))=.inr 1:=by
     simp only [eJ];rw [cA hw,cond_true,sJ,hr,hg];rfl
    rw [aO e1] at h;exact absurd h (by decide)
   | false =>
    have e1:eJ m (v,(i:Int))=.inl (cK v (m.1.getD i dF) true,((i+1:Nat):Int)):=by
     simp only [eJ];rw [cA hw,cond_true,sJ,hr,hg];rfl
    rw [aA e1] at h
    by_cases hj:j=i
    ·subst hj
     classical
     rw [kR] at hr
     exact bS hr
    ·exact ih (i+1) _ (by omega) h j (by omega) h2
theorem aQ4 {m:ME} (h:fW m=0):∀j,j < m.1.length->bd 64 (m.1.getD j dF):=by
 obtain⟨_,_,_,h4,_⟩:=eL h
 exact fun j hj=>aIo m _ 0 [] (by omega) h4 j (Nat.zero_le _) hj
theorem aJ3 {m:ME} (h:fW m=0):∀c∈m.2,vp (mI m c)=0:=by
 intro c hc
 obtain⟨i,hi⟩:=List.getElem?_of_mem hc
 obtain⟨hlt,_⟩:=List.getElem?_eq_some_iff.1 hi
 have hpt:=aQ4 h
 obtain⟨h64,_,_,_,hf⟩:=eL h
 have hfc:=hf (i:Int) (by omega) (by omega)
 rw [bE hi] at hfc
 have hin:inF m.1.length c:=nH (m:=m) (by rw [hfc];rfl) h64
 have hb:bdP 64 (mI m c):=⟨hpt _ (by have:=hin.1;omega),hpt _ (by have:=hin.2.1;omega),hpt _ (by have:=hin.2.2;omega)⟩
 unfold F55 at hfc
 have hw:W ((m.1.length:Int) - 1)=(m.1.length:Int) - 1:=aF (by omega) (by omega)
 have fr:∀x:Int,0<=x/\x < (m.1.length:Int)->(!oR x 0 (W ((m.1.length:Int) - 1)))=false:=by
  intro x hx
  unfold oR
  rw [hw,cA hx.1,cA (show x<=(m.1.length:Int) - 1 by omega)];rfl
 rw [fr _ hin.1,fr _ hin.2.1,fr _ hin.2.2,cond_false,cond_false,cond_false,show F88 (mI (m.1,m.2) c)=nX (mI m c) from aSa hb] at hfc
 unfold vp
 rw [if_pos hb]
 generalize nX (mI m c)=q at hfc ⊢
 by_cases hz:q.1=0/\q.2.1=0/\q.2.2=0
 ·rw [hz.1,hz.2.1,hz.2.2] at hfc;exact absurd hfc (by decide)
 ·rw [if_neg hz]
theorem rV {m:ME} (h:fW m=0) {d:Int} (hd:0<=d/\d<=2) {p q:PN} (hp:p∈m.2.map (mI m))(hq:q∈m.2.map (mI m)):pk p q d=0:=by
 obtain⟨a,ha,rfl⟩:=List.mem_map.1 hp
 obtain⟨b,hb,rfl⟩:=List.mem_map.1 hq
 unfold pk
 rw [if_pos (aJ3 h a ha),if_pos (aJ3 h b hb),if_pos hd]
theorem aUv {α:Type} {n:Nat} {t:List (List α)} (h:∀r∈t,r.length=n)(j:Int):(0<=j/\j < (t.length:Int))->(t.getD (tN j) dF).length=n:=fun g=>by
 have hlt:tN j < t.length:=by omega
 rw [eU,List.getElem?_eq_getElem hlt,Option.getD_some]
 exact h _ (List.getElem_mem hlt)
theorem aUw {α:Type} {n:Nat} {t:List (List α)} (h:∀r∈t,r.length<=n)(j:Int):(0<=j/\j < (t.length:Int))->(t.getD (tN j) dF).length<=n:=fun g=>by
 have hlt:tN j < t.length:=by omega
 rw [eU,List.getElem?_eq_getElem hlt,Option.getD_some]
 exact h _ (List.getElem_mem hlt)
noncomputable def vO:Code:=(aC [1,1,0,1] [] (aG Tryz.f73) []).1
noncomputable def vP:List K:=(aC [1,1,0,1] [] (aG Tryz.f73) []).2
def rW (a0:List (Int×Int))(a1:List Int)(v2c:List SV)(v2n:Nat)(v3:Int):LS:=⟨fU 40 [(1,(.s 1 0 a1.length 1)),(4,(.p 2 0)),(6,(.s 3 0 v2n 2)),(11,(.s 0 0 a0.length 2)),(12,(iv (a0.length:Int))),(13,(iv v3))],[(.live false true (flat cM a0)),(.live false true (flat c3 a1)),(.live true false [(iv 0),(iv 0)]),(.live true true v2c)]⟩
def dV (a0:List (Int×Int))(a1:List Int):(List (Int×Int))×Int->((List (Int×Int))×Int)⊕((Int×Int)×Int)
 | (v2,v3) =>
  (bif (decide ((v3:Int) < (a0.length:Int))) then
   (bif (((fE (a0.getD (tN v3) dF) (a1.getD (tN v3) dF)).2:Int) != 0) then
    (.inr ((0,0),(fE (a0.getD (tN v3) dF) (a1.getD (tN v3) dF)).2))
   else
    (.inl ((v2++[(fE (a0.getD (tN v3) dF) (a1.getD (tN v3) dF)).1]),(v3+1))))
  else
   (.inr ((jE v2).1,(jE v2).2)))
theorem aLb (a0:List (Int×Int))(a1:List Int)(l0:a0.length<=2^63-1)(l1:a1.length<=2^63-1)(hl:a0.length<=a1.length)(hn:a0.length<=9216) {cx:Cx} (hcx:cx.base=2):∀(n:Nat) (v2:List (Int×Int)) (v3:Int),(0<=v3)/\(v2.length=tN v3)/\(v3<=a0.length)->tN ((a0.length:Int) - v3) < n->Aw.Good Tryz.prog none 9 (bodyPost Tryz.prog Tryz.f73 (RR cx (.t [(.a (k2 (aB (dV a0 a1) n (v2,v3)).1)),(iv (aB (dV a0 a1) n (v2,v3)).2)]) [] [])) cx [] (.l vO n::vP) (rW a0 a1 (flat cM v2) v2.length v3):=by
 intro n
 induction n with
 | zero=>intro v2 v3 hi hn;exact absurd hn (fZ _)
 | succ n ih =>
  intro v2 v3 hi hn
  refine aH ?_
  cases h0:(decide ((v3:Int) < (a0.length:Int))) with
  | true =>
   have q0:=bS h0
   let t1:List (St Tryz.prog):=[.d h0,.i v3 (a0.length),.L bW a0 v3 0 2,.i v3 (a1.length),.L dH a1 v3 0 1,.c [] (aZe (a0.getD (tN v3) dF) (a1.getD (tN v3) dF))]
   cases h1:(((fE (a0.getD (tN v3) dF) (a1.getD (tN v3) dF)).2:Int) != 0) with
   | true =>
    have q1:=bne_iff_ne.1 h1
    have e:=Eq.refl (dV a0 a1 (v2,v3));conv at e=>rhs;simp only [dV,h0,h1,aJ]
    rw [aD,e]
    exact rt (t1++[.d h1]) [] [] hcx (by kernel_rfl)
   | false =>
    have q1:=bne_eq_false_iff_eq.1 h1
    have e:=Eq.refl (dV a0 a1 (v2,v3));conv at e=>rhs;simp only [dV,h0,h1,aJ]
    rw [aA e]
    refine ba (t1++[.d h1,.p (show((flat cM v2).length=v2.length*2/\v2.length+1<=2 ^ 40/\(v2.length+1)*16<=2 ^ 47) from fN bW (by omega) (by omega))]) [] [1,4,6,11,12,13] [2,7] hcx (m:=n) vO (vP) (rW a0 a1 (flat cM v2++(k2 (fE (a0.getD (tN v3) dF) (a1.getD (tN v3) dF)).1)) (v2.length+1) (W (v3+1))) (by kernel_rfl) ?_
    have z0:(W (v3+1))=(v3+1):=aF (by omega) (by omega)
    have z1:(flat cM v2++(k2 (fE (a0.getD (tN v3) dF) (a1.getD (tN v3) dF)).1))=(flat cM (v2++[(fE (a0.getD (tN v3) dF) (a1.getD (tN v3) dF)).1])):=(bK (c:=cM) (l:=v2) (m:=[(fE (a0.getD (tN v3) dF) (a1.getD (tN v3) dF)).1])).symm
    have z2:(v2.length+1)=(v2++[(fE (a0.getD (tN v3) dF) (a1.getD (tN v3) dF)).1]).length:=dW v2 [(fE (a0.getD (tN v3) dF) (a1.getD (tN v3) dF)).1] rfl
    rw [z0,z1,z2]
    exact ih (v2++[(fE (a0.getD (tN v3) dF) (a1.getD (tN v3) dF)).1]) (v3+1) (by refine⟨?_,?_,?_⟩<;>(try simp only [Ls])<;>first | omega | assumption | simp) (by(try simp only [Ls]);omega)
  | false =>
   have q0:=cE h0
   have e:=Eq.refl (dV a0 a1 (v2,v3));conv at e=>rhs;simp only [dV,h0,aJ]
   rw [aD,e]
   exact rt [.d h0,.c [3] (aTh v2 (by omega))] [] [] hcx (by kernel_rfl)
def dA (a0:List (Int×Int))(a1:List Int):(Int×Int)×Int :=
 (aB (dV a0 a1) (tN ((a0.length:Int) - 0)+1) (([]:List (Int×Int)),0))
theorem aJ4 (a0:List (Int×Int))(a1:List Int)(l0:a0.length<=2^63-1)(l1:a1.length<=2^63-1)(hl:a0.length<=a1.length)(hn:a0.length<=9216):Con Tryz.prog 73 [(.s 0 0 a0.length 2),(.s 1 0 a1.length 1)] [(.live false true (flat cM a0)),(.live false true (flat c3 a1))] (.t [(.a (k2 (dA a0 a1).1)),(iv (dA a0 a1).2)]) []:=by
 refine aK Tryz.func73 (by kernel_rfl) fun cx hcx=>?_
 have e:=Eq.refl (dA a0 a1);conv at e=>rhs;simp only [dA]
 rw [e]
 refine en [] [.slot 6 2] [1,4,6,11,12,13] [2,3] hcx vO (vP) (rW a0 a1 (flat cM ([]:List (Int×Int))) 0 0) (tN ((a0.length:Int) - 0)+1) (by kernel_rfl) ?_
 exact aLb a0 a1 l0 l1 hl hn hcx (tN ((a0.length:Int) - 0)+1) ([]:List (Int×Int)) 0 (by refine⟨?_,?_,?_⟩<;>(try simp only [Ls])<;>first | omega | assumption | simp) (by(try simp only [Ls]);omega)
def iH (x:List (Int×Int)):List SV:=[(.d (flat cM x) x.length 2)]
theorem xZ (x:List (Int×Int)):(iH x).length=1:=rfl
noncomputable def vQ:Code:=(aC [1,1,1,1,0,1,0,1,1,0,1,1,0,1] [0] (aG Tryz.f31) []).1
noncomputable def vR (m0:Nat):List K:=(aC [1,1,1,1,0,1,0,1,1,0,1,1,0,1] [m0] (aG Tryz.f31) []).2
def rX (a0:Zm)(a1:Int)(v10c:List SV)(v10n:Nat)(v11c:List SV)(v11n:Nat)(v12 v13 v14 v15 v16 v17 v18 v19 v20 v21 v22:Int):LS:=⟨fU 60 [(1,(iv a1)),(2,(.v (.func (.func 32) #[] #[]))),(8,(.s 2 0 (bH (a0.1,a0.2)).1.length 9)),(10,(.s 3 0 v10n 1)),(12,(.p 4 0)),(13,(.s 5 0 v11n 2)),(26,(.s 2 0 (bH (a0.1,a0.2)).1.length 9)),(27,(iv (((bH (a0.1,a0.2)).1.length:Nat):Int))),(28,(iv v12)),(32,(.s 2 0 (bH (a0.1,a0.2)).1.length 9)),(33,(iv (((bH (a0.1,a0.2)).1.length:Nat):Int))),(34,(iv v13))],[(.live false true (flat dQ a0.1)),(.live false true (flat eE a0.2)),(.live true true (flat jR (bH (a0.1,a0.2)).1)),(.live true true v10c),(.live true false [(iv v14),(iv v15),(iv v16),(iv v17),(iv v18),(iv v19),(iv v20),(iv v21),(iv v22)]),(.live true true v11c)]⟩
def eM (a0:Zm)(a1:Int):(List (List (Int×Int)))×(List (Int×Int))×Int×Int×Int×Int×Int×Int×Int×Int×Zt->((List (List (Int×Int)))×(List (Int×Int))×Int×Int×Int×Int×Int×Int×Int×Int×Zt)⊕(((List (List (Int×Int)))×Int)⊕((List (List (Int×Int)))×Int))
 | (v10,v11,v12,v13,v14,v15,v16,v17,v18,v19,v20,v21,v22) =>
  (bif (decide ((v13:Int) < (((bH (a0.1,a0.2)).1.length:Nat):Int))) then
   (bif (((uE ((bH (a0.1,a0.2)).1.getD (tN v13) dF) ((v14,v15,v16),(v17,v18,v19),(v20,v21,v22)) a1).2:Int) != 0) then
    (.inr (.inr (([]:List (List (Int×Int))),(uE ((bH (a0.1,a0.2)).1.getD (tN v13) dF) ((v14,v15,v16),(v17,v18,v19),(v20,v21,v22)) a1).2)))
   else
    (.inl (v10,(v11++[(uE ((bH (a0.1,a0.2)).1.getD (tN v13) dF) ((v14,v15,v16),(v17,v18,v19),(v20,v21,v22)) a1).1]),v12,(v13+1),v14,v15,v16,v17,v18,v19,v20,v21,v22)))
  else
   (.inr (.inl ((v10++[v11]),(v12+1)))))
noncomputable def qA:Code:=(aC [1,1,1,1,0,1] [] (aG Tryz.f31) []).1
noncomputable def qB:List K:=(aC [1,1,1,1,0,1] [] (aG Tryz.f31) []).2
def nK (a0:Zm)(a1:Int)(v8c:List SV)(v8n:Nat)(v9:Int):LS:=⟨fU 60 [(1,(iv a1)),(2,(.v (.func (.func 32) #[] #[]))),(8,(.s 2 0 (bH (a0.1,a0.2)).1.length 9)),(10,(.s 3 0 v8n 1)),(26,(.s 2 0 (bH (a0.1,a0.2)).1.length 9)),(27,(iv (((bH (a0.1,a0.2)).1.length:Nat):Int))),(28,(iv v9))],[(.live false true (flat dQ a0.1)),(.live false true (flat eE a0.2)),(.live true true (flat jR (bH (a0.1,a0.2)).1)),(.live true true v8c)]⟩
def cY (a0:Zm)(a1:Int):(List (List (Int×Int)))×Int->((List (List (Int×Int)))×Int)⊕((List (List (Int×Int)))×Int)
 | (v8,v9) =>
  (bif (decide ((v9:Int) < (((bH (a0.1,a0.2)).1.length:Nat):Int))) then
   (aB (eM a0 a1) (tN ((((bH (a0.1,a0.2)).1.length:Nat):Int) - 0)+1) (v8,([]:List (Int×Int)),v9,0,((bH (a0.1,a0.2)).1.getD (tN v9) dF).1.1,((bH (a0.1,a0.2)).1.getD (tN v9) dF).1.2.1,((bH (a0.1,a0.2)).1.getD (tN v9) dF).1.2.2,((bH (a0.1,a0.2)).1.getD (tN v9) dF).2.1.1,((bH (a0.1,a0.2)).1.getD (tN v9) dF).2.1.2.1,((bH (a0.1,a0.2)).1.getD (tN v9) dF).2.1.2.2,((bH (a0.1,a0.2)).1.getD (tN v9) dF).2.2.1,((bH (a0.1,a0.2)).1.getD (tN v9) dF).2.2.2.1,((bH (a0.1,a0.2)).1.getD (tN v9) dF).2.2.2.2))
  else
   (.inr (v8,0)))
theorem aLc (a0:Zm)(a1:Int)(l0_1:a0.1.length<=2^63-1)(l0_2:a0.2.length<=2^63-1) {cx:Cx} (hcx:cx.base=2)
 (n0:Nat) (g0:∀(v8:List (List (Int×Int))) (v9:Int),(0<=v9)/\(v8.length=tN v9)/\(v9<=(bH (a0.1,a0.2)).1.length)->tN ((((bH (a0.1,a0.2)).1.length:Nat):Int) - v9) < n0->Aw.Good Tryz.prog none 9 (bodyPost Tryz.prog Tryz.f31 (RR cx (.t [(.s 2 0 (aB (cY a0 a1) n0 (v8,v9)).1.length 1),(iv (aB (cY a0 a1) n0 (v8,v9)).2)]) [(.live true true (flat iH (aB (cY a0 a1) n0 (v8,v9)).1))] [])) cx [] (.l qA n0::qB) (nK a0 a1 (flat iH v8) v8.length v9)):∀(n:Nat) (v10:List (List (Int×Int))) (v11:List (Int×Int)) (v12 v13 v14 v15 v16 v17 v18 v19 v20 v21 v22:Int),(0<=v13)/\(v11.length=tN v13)/\(v13<=(bH (a0.1,a0.2)).1.length)/\(v10.length=tN v12)/\(0<=v12)/\(v12 < (bH (a0.1,a0.2)).1.length)/\((0<=v12))/\((v10.length=tN v12))/\((v12<=(bH (a0.1,a0.2)).1.length))/\(v12 < (((bH (a0.1,a0.2)).1.length:Nat):Int))/\(tN ((((bH (a0.1,a0.2)).1.length:Nat):Int) - v12) < n0+1)->tN ((((bH (a0.1,a0.2)).1.length:Nat):Int) - v13) < n->Aw.Good Tryz.prog none 9 (bodyPost Tryz.prog Tryz.f31 (RR cx (.t [(.s 2 0 (fG (cY a0 a1) n0 (aB (eM a0 a1) n (v10,v11,v12,v13,v14,v15,v16,v17,v18,v19,v20,v21,v22))).1.length 1),(iv (fG (cY a0 a1) n0 (aB (eM a0 a1) n (v10,v11,v12,v13,v14,v15,v16,v17,v18,v19,v20,v21,v22))).2)]) [(.live true true (flat iH (fG (cY a0 a1) n0 (aB (eM a0 a1) n (v10,v11,v12,v13,v14,v15,v16,v17,v18,v19,v20,v21,v22))).1))] [])) cx [] (.l vQ n::vR n0) (rX a0 a1 (flat iH v10) v10.length (flat cM v11) v11.length v12 v13 v14 v15 v16 v17 v18 v19 v20 v21 v22):=by
 intro n
 induction n with
 | zero=>intro v10 v11 v12 v13 v14 v15 v16 v17 v18 v19 v20 v21 v22 hi hn;exact absurd hn (fZ _)
 | succ n ih =>
  intro v10 v11 v12 v13 v14 v15 v16 v17 v18 v19 v20 v21 v22 hi hn
  refine aH ?_
  have hpl:=pZ (a0.1,a0.2)
  cases h0:(decide ((v13:Int) < (((bH (a0.1,a0.2)).1.length:Nat):Int))) with
  | true =>
   have q0:=bS h0
   let t1:List (St Tryz.prog):=[.d h0,.i v13 ((bH (a0.1,a0.2)).1.length),.L dT (bH (a0.1,a0.2)).1 v13 0 9,.c [] (C32 ((bH (a0.1,a0.2)).1.getD (tN v13) dF) ((v14,v15,v16),(v17,v18,v19),(v20,v21,v22)) a1)]
   cases h1:(((uE ((bH (a0.1,a0.2)).1.getD (tN v13) dF) ((v14,v15,v16),(v17,v18,v19),(v20,v21,v22)) a1).2:Int) != 0) with
   | true =>
    have q1:=bne_iff_ne.1 h1
    have e:=Eq.refl (eM a0 a1 (v10,v11,v12,v13,v14,v15,v16,v17,v18,v19,v20,v21,v22));conv at e=>rhs;simp only [eM,h0,h1,aJ]
    rw [aD,e]
    exact rt (t1++[.d h1]) [.slot 6 1] [8] hcx (by kernel_rfl)
   | false =>
    have q1:=bne_eq_false_iff_eq.1 h1
    have e:=Eq.refl (eM a0 a1 (v10,v11,v12,v13,v14,v15,v16,v17,v18,v19,v20,v21,v22));conv at e=>rhs;simp only [eM,h0,h1,aJ]
    rw [aA e]
    refine ba (t1++[.d h1,.p (show((flat cM v11).length=v11.length*2/\v11.length+1<=2 ^ 40/\(v11.length+1)*16<=2 ^ 47) from fN bW (by omega) (by omega))]) [] [1,2,8,10,12,13,26,27,28,32,33,34] [2,3,4,9] hcx (m:=n) vQ (vR n0) (rX a0 a1 (flat iH v10) (v10.length) (flat cM v11++(k2 (uE ((bH (a0.1,a0.2)).1.getD (tN v13) dF) ((v14,v15,v16),(v17,v18,v19),(v20,v21,v22)) a1).1)) (v11.length+1) v12 (W (v13+1)) v14 v15 v16 v17 v18 v19 v20 v21 v22) (by kernel_rfl) ?_
    have z0:(W (v13+1))=(v13+1):=aF (by omega) (by omega)
    have z1:(flat cM v11++(k2 (uE ((bH (a0.1,a0.2)).1.getD (tN v13) dF) ((v14,v15,v16),(v17,v18,v19),(v20,v21,v22)) a1).1))=(flat cM (v11++[(uE ((bH (a0.1,a0.2)).1.getD (tN v13) dF) ((v14,v15,v16),(v17,v18,v19),(v20,v21,v22)) a1).1])):=(bK (c:=cM) (l:=v11) (m:=[(uE ((bH (a0.1,a0.2)).1.getD (tN v13) dF) ((v14,v15,v16),(v17,v18,v19),(v20,v21,v22)) a1).1])).symm
    have z2:(v11.length+1)=(v11++[(uE ((bH (a0.1,a0.2)).1.getD (tN v13) dF) ((v14,v15,v16),(v17,v18,v19),(v20,v21,v22)) a1).1]).length:=dW v11 [(uE ((bH (a0.1,a0.2)).1.getD (tN v13) dF) ((v14,v15,v16),(v17,v18,v19),(v20,v21,v22)) a1).1] rfl
    rw [z0,z1,z2]
    exact ih v10 (v11++[(uE ((bH (a0.1,a0.2)).1.getD (tN v13) dF) ((v14,v15,v16),(v17,v18,v19),(v20,v21,v22)) a1).1]) v12 (v13+1) v14 v15 v16 v17 v18 v19 v20 v21 v22 (by refine⟨?_,?_,?_,?_,?_,?_,?_,?_,?_,?_,?_⟩<;>(try simp only [Ls])<;>first | omega | assumption | exact hi.2.1 | exact hi.2.2.1 | exact hi.2.2.2.1 | exact hi.2.2.2.2.1 | exact hi.2.2.2.2.2.1 | exact hi.2.2.2.2.2.2.1 | exact hi.2.2.2.2.2.2.2.1 | exact hi.2.2.2.2.2.2.2.2.1 | exact hi.2.2.2.2.2.2.2.2.2.1 | exact hi.2.2.2.2.2.2.2.2.2.2.1 | simp) (by(try simp only [Ls]);omega)
  | false =>
   have q0:=cE h0
   have e:=Eq.refl (eM a0 a1 (v10,v11,v12,v13,v14,v15,v16,v17,v18,v19,v20,v21,v22));conv at e=>rhs;simp only [eM,h0,aJ]
   rw [aD,e]
   refine ba [.d h0,.p (show((flat cM v11)).length=v11.length*2 from by first | (simp [pX bW];done) | rfl),.p (show((flat iH v10).length=v10.length*1/\v10.length+1<=2 ^ 40/\(v10.length+1)*24<=2 ^ 47) from fN xZ (by omega) (by omega))] [] [1,2,8,10,26,27,28] [2,7] hcx (m:=n0) qA (qB) (nK a0 a1 (flat iH v10++[(.d (flat cM v11) v11.length 2)]) (v10.length+1) (W (v12+1))) (by kernel_rfl) ?_
   have z0:(W (v12+1))=(v12+1):=aF (by omega) (by omega)
   have z1:(flat iH v10++[(.d (flat cM v11) v11.length 2)])=(flat iH (v10++[v11])):=(bK (c:=iH) (l:=v10) (m:=[v11])).symm
   have z2:(v10.length+1)=(v10++[v11]).length:=dW v10 [v11] rfl
   rw [z0,z1,z2]
   exact g0 (v10++[v11]) (v12+1) (by refine⟨?_,?_,?_⟩<;>(try simp only [Ls])<;>first | omega | assumption | simp) (by(try simp only [Ls]);omega)
theorem aLd (a0:Zm)(a1:Int)(l0_1:a0.1.length<=2^63-1)(l0_2:a0.2.length<=2^63-1) {cx:Cx} (hcx:cx.base=2):∀(n:Nat) (v8:List (List (Int×Int))) (v9:Int),(0<=v9)/\(v8.length=tN v9)/\(v9<=(bH (a0.1,a0.2)).1.length)->tN ((((bH (a0.1,a0.2)).1.length:Nat):Int) - v9) < n->Aw.Good Tryz.prog none 9 (bodyPost Tryz.prog Tryz.f31 (RR cx (.t [(.s 2 0 (aB (cY a0 a1) n (v8,v9)).1.length 1),(iv (aB (cY a0 a1) n (v8,v9)).2)]) [(.live true true (flat iH (aB (cY a0 a1) n (v8,v9)).1))] [])) cx [] (.l qA n::qB) (nK a0 a1 (flat iH v8) v8.length v9):=by
 intro n
 induction n with
 | zero=>intro v8 v9 hi hn;exact absurd hn (fZ _)
 | succ n ih =>
  intro v8 v9 hi hn
  refine aH ?_
  have hpl:=pZ (a0.1,a0.2)
  cases h0:(decide ((v9:Int) < (((bH (a0.1,a0.2)).1.length:Nat):Int))) with
  | true =>
   have q0:=bS h0
   have e:=Eq.refl (cY a0 a1 (v8,v9));conv at e=>rhs;simp only [cY,h0,aJ]
   rw [aD,e]
   refine en [.d h0,.i v9 ((bH (a0.1,a0.2)).1.length),.L dT (bH (a0.1,a0.2)).1 v9 0 9] [.slot 13 2] [1,2,8,10,12,13,26,27,28,32,33,34] [2,3,4,5] hcx vQ (vR n) (rX a0 a1 (flat iH v8) (v8.length) (flat cM ([]:List (Int×Int))) 0 v9 0 (((bH (a0.1,a0.2)).1.getD (tN v9) dF).1.1) (((bH (a0.1,a0.2)).1.getD (tN v9) dF).1.2.1) (((bH (a0.1,a0.2)).1.getD (tN v9) dF).1.2.2) (((bH (a0.1,a0.2)).1.getD (tN v9) dF).2.1.1) (((bH (a0.1,a0.2)).1.getD (tN v9) dF).2.1.2.1) (((bH (a0.1,a0.2)).1.getD (tN v9) dF).2.1.2.2) (((bH (a0.1,a0.2)).1.getD (tN v9) dF).2.2.1) (((bH (a0.1,a0.2)).1.getD (tN v9) dF).2.2.2.1) (((bH (a0.1,a0.2)).1.getD (tN v9) dF).2.2.2.2)) (tN ((((bH (a0.1,a0.2)).1.length:Nat):Int) - 0)+1) (by kernel_rfl) ?_
   exact aLc a0 a1 l0_1 l0_2 hcx n ih (tN ((((bH (a0.1,a0.2)).1.length:Nat):Int) - 0)+1) v8 ([]:List (Int×Int)) v9 0 (((bH (a0.1,a0.2)).1.getD (tN v9) dF).1.1) (((bH (a0.1,a0.2)).1.getD (tN v9) dF).1.2.1) (((bH (a0.1,a0.2)).1.getD (tN v9) dF).1.2.2) (((bH (a0.1,a0.2)).1.getD (tN v9) dF).2.1.1) (((bH (a0.1,a0.2)).1.getD (tN v9) dF).2.1.2.1) (((bH (a0.1,a0.2)).1.getD (tN v9) dF).2.1.2.2) (((bH (a0.1,a0.2)).1.getD (tN v9) dF).2.2.1) (((bH (a0.1,a0.2)).1.getD (tN v9) dF).2.2.2.1) (((bH (a0.1,a0.2)).1.getD (tN v9) dF).2.2.2.2) (by refine⟨?_,?_,?_,?_,?_,?_,?_,?_,?_,?_,?_⟩<;>(try simp only [Ls])<;>first | omega | assumption | exact hi.2.1 | exact hi.2.2.1 | exact hi.2.2.2.1 | exact hi.2.2.2.2.1 | exact hi.2.2.2.2.2.1 | exact hi.2.2.2.2.2.2.1 | exact hi.2.2.2.2.2.2.2.1 | exact hi.2.2.2.2.2.2.2.2.1 | exact hi.2.2.2.2.2.2.2.2.2.1 | exact hi.2.2.2.2.2.2.2.2.2.2.1 | simp) (by(try simp only [Ls]);omega)
  | false =>
   have q0:=cE h0
   have e:=Eq.refl (cY a0 a1 (v8,v9));conv at e=>rhs;simp only [cY,h0,aJ]
   rw [aD,e]
   exact rt [.d h0] [] [3] hcx (by kernel_rfl)
def cC (a0:Zm)(a1:Int):(List (List (Int×Int)))×Int :=
 (bif (((bH (a0.1,a0.2)).2:Int) != 0) then
  (([]:List (List (Int×Int))),(bH (a0.1,a0.2)).2)
 else
  (aB (cY a0 a1) (tN ((((bH (a0.1,a0.2)).1.length:Nat):Int) - 0)+1) (([]:List (List (Int×Int))),0)))
theorem aQ5 (a0:Zm)(a1:Int)(l0_1:a0.1.length<=2^63-1)(l0_2:a0.2.length<=2^63-1):Con Tryz.prog 31 [(.a [(.s 0 0 a0.1.length 3),(.s 1 0 a0.2.length 3)]),(iv a1),(.v (.func (.func 32) #[] #[]))] [(.live false true (flat dQ a0.1)),(.live false true (flat eE a0.2))] (.t [(.s 2 0 (cC a0 a1).1.length 1),(iv (cC a0 a1).2)]) [(.live true true (flat iH (cC a0 a1).1))]:=by
 refine aK Tryz.func31 (by kernel_rfl) fun cx hcx=>?_
 have hpl:=pZ (a0.1,a0.2)
 let t0:List (St Tryz.prog):=[.c [0,1] (C63 (a0.1,a0.2) (by(try simp only [Lt]);omega) (by(try simp only [Lt]);omega))]
 cases h0:(((bH (a0.1,a0.2)).2:Int) != 0) with
 | true =>
  have q0:=bne_iff_ne.1 h0
  have e:=Eq.refl (cC a0 a1);conv at e=>rhs;simp only [cC,h0,aJ]
  rw [e]
  exact rt (t0++[.d h0]) [.slot 6 1] [4] hcx (by kernel_rfl)
 | false =>
  have q0:=bne_eq_false_iff_eq.1 h0
  have e:=Eq.refl (cC a0 a1);conv at e=>rhs;simp only [cC,h0,aJ]
  rw [e]
  refine en (t0++[.d h0]) [.slot 10 1] [1,2,8,10,26,27,28] [3,4] hcx qA (qB) (nK a0 a1 (flat iH ([]:List (List (Int×Int)))) 0 0) (tN ((((bH (a0.1,a0.2)).1.length:Nat):Int) - 0)+1) (by kernel_rfl) ?_
  exact aLd a0 a1 l0_1 l0_2 hcx (tN ((((bH (a0.1,a0.2)).1.length:Nat):Int) - 0)+1) ([]:List (List (Int×Int))) 0 (by refine⟨?_,?_,?_⟩<;>(try simp only [Ls])<;>first | omega | assumption | simp) (by(try simp only [Ls]);omega)
noncomputable def vS:Code:=(aC [1,1,1,1,0,1,0,1,1,0,1,1,0,1] [0] (aG Tryz.f31) []).1
noncomputable def vT (m0:Nat):List K:=(aC [1,1,1,1,0,1,0,1,1,0,1,1,0,1] [m0] (aG Tryz.f31) []).2
def rY (a0:Zm)(a1:Int)(v10c:List SV)(v10n:Nat)(v11c:List SV)(v11n:Nat)(v12 v13 v14 v15 v16 v17 v18 v19 v20 v21 v22:Int):LS:=⟨fU 60 [(1,(iv a1)),(2,(.v (.func (.func 33) #[] #[]))),(8,(.s 2 0 (bH (a0.1,a0.2)).1.length 9)),(10,(.s 3 0 v10n 1)),(12,(.p 4 0)),(13,(.s 5 0 v11n 2)),(26,(.s 2 0 (bH (a0.1,a0.2)).1.length 9)),(27,(iv (((bH (a0.1,a0.2)).1.length:Nat):Int))),(28,(iv v12)),(32,(.s 2 0 (bH (a0.1,a0.2)).1.length 9)),(33,(iv (((bH (a0.1,a0.2)).1.length:Nat):Int))),(34,(iv v13))],[(.live false true (flat dQ a0.1)),(.live false true (flat eE a0.2)),(.live true true (flat jR (bH (a0.1,a0.2)).1)),(.live true true v10c),(.live true false [(iv v14),(iv v15),(iv v16),(iv v17),(iv v18),(iv v19),(iv v20),(iv v21),(iv v22)]),(.live true true v11c)]⟩
def eN (a0:Zm)(a1:Int):(List (List (Int×Int)))×(List (Int×Int))×Int×Int×Int×Int×Int×Int×Int×Int×Zt->((List (List (Int×Int)))×(List (Int×Int))×Int×Int×Int×Int×Int×Int×Int×Int×Zt)⊕(((List (List (Int×Int)))×Int)⊕((List (List (Int×Int)))×Int))
 | (v10,v11,v12,v13,v14,v15,v16,v17,v18,v19,v20,v21,v22) =>
  (bif (decide ((v13:Int) < (((bH (a0.1,a0.2)).1.length:Nat):Int))) then
   (bif (((pW ((bH (a0.1,a0.2)).1.getD (tN v13) dF) ((v14,v15,v16),(v17,v18,v19),(v20,v21,v22)) a1).2:Int) != 0) then
    (.inr (.inr (([]:List (List (Int×Int))),(pW ((bH (a0.1,a0.2)).1.getD (tN v13) dF) ((v14,v15,v16),(v17,v18,v19),(v20,v21,v22)) a1).2)))
   else
    (.inl (v10,(v11++[(pW ((bH (a0.1,a0.2)).1.getD (tN v13) dF) ((v14,v15,v16),(v17,v18,v19),(v20,v21,v22)) a1).1]),v12,(v13+1),v14,v15,v16,v17,v18,v19,v20,v21,v22)))
  else
   (.inr (.inl ((v10++[v11]),(v12+1)))))
noncomputable def qC:Code:=(aC [1,1,1,1,0,1] [] (aG Tryz.f31) []).1
noncomputable def qD:List K:=(aC [1,1,1,1,0,1] [] (aG Tryz.f31) []).2
def nL (a0:Zm)(a1:Int)(v8c:List SV)(v8n:Nat)(v9:Int):LS:=⟨fU 60 [(1,(iv a1)),(2,(.v (.func (.func 33) #[] #[]))),(8,(.s 2 0 (bH (a0.1,a0.2)).1.length 9)),(10,(.s 3 0 v8n 1)),(26,(.s 2 0 (bH (a0.1,a0.2)).1.length 9)),(27,(iv (((bH (a0.1,a0.2)).1.length:Nat):Int))),(28,(iv v9))],[(.live false true (flat dQ a0.1)),(.live false true (flat eE a0.2)),(.live true true (flat jR (bH (a0.1,a0.2)).1)),(.live true true v8c)]⟩
def cZ (a0:Zm)(a1:Int):(List (List (Int×Int)))×Int->((List (List (Int×Int)))×Int)⊕((List (List (Int×Int)))×Int)
 | (v8,v9) =>
  (bif (decide ((v9:Int) < (((bH (a0.1,a0.2)).1.length:Nat):Int))) then
   (aB (eN a0 a1) (tN ((((bH (a0.1,a0.2)).1.length:Nat):Int) - 0)+1) (v8,([]:List (Int×Int)),v9,0,((bH (a0.1,a0.2)).1.getD (tN v9) dF).1.1,((bH (a0.1,a0.2)).1.getD (tN v9) dF).1.2.1,((bH (a0.1,a0.2)).1.getD (tN v9) dF).1.2.2,((bH (a0.1,a0.2)).1.getD (tN v9) dF).2.1.1,((bH (a0.1,a0.2)).1.getD (tN v9) dF).2.1.2.1,((bH (a0.1,a0.2)).1.getD (tN v9) dF).2.1.2.2,((bH (a0.1,a0.2)).1.getD (tN v9) dF).2.2.1,((bH (a0.1,a0.2)).1.getD (tN v9) dF).2.2.2.1,((bH (a0.1,a0.2)).1.getD (tN v9) dF).2.2.2.2))
  else
   (.inr (v8,0)))
theorem aLe (a0:Zm)(a1:Int)(l0_1:a0.1.length<=2^63-1)(l0_2:a0.2.length<=2^63-1) {cx:Cx} (hcx:cx.base=2)
 (n0:Nat) (g0:∀(v8:List (List (Int×Int))) (v9:Int),(0<=v9)/\(v8.length=tN v9)/\(v9<=(bH (a0.1,a0.2)).1.length)->tN ((((bH (a0.1,a0.2)).1.length:Nat):Int) - v9) < n0->Aw.Good Tryz.prog none 9 (bodyPost Tryz.prog Tryz.f31 (RR cx (.t [(.s 2 0 (aB (cZ a0 a1) n0 (v8,v9)).1.length 1),(iv (aB (cZ a0 a1) n0 (v8,v9)).2)]) [(.live true true (flat iH (aB (cZ a0 a1) n0 (v8,v9)).1))] [])) cx [] (.l qC n0::qD) (nL a0 a1 (flat iH v8) v8.length v9)):∀(n:Nat) (v10:List (List (Int×Int))) (v11:List (Int×Int)) (v12 v13 v14 v15 v16 v17 v18 v19 v20 v21 v22:Int),(0<=v13)/\(v11.length=tN v13)/\(v13<=(bH (a0.1,a0.2)).1.length)/\(v10.length=tN v12)/\(0<=v12)/\(v12 < (bH (a0.1,a0.2)).1.length)/\((0<=v12))/\((v10.length=tN v12))/\((v12<=(bH (a0.1,a0.2)).1.length))/\(v12 < (((bH (a0.1,a0.2)).1.length:Nat):Int))/\(tN ((((bH (a0.1,a0.2)).1.length:Nat):Int) - v12) < n0+1)->tN ((((bH (a0.1,a0.2)).1.length:Nat):Int) - v13) < n->Aw.Good Tryz.prog none 9 (bodyPost Tryz.prog Tryz.f31 (RR cx (.t [(.s 2 0 (fG (cZ a0 a1) n0 (aB (eN a0 a1) n (v10,v11,v12,v13,v14,v15,v16,v17,v18,v19,v20,v21,v22))).1.length 1),(iv (fG (cZ a0 a1) n0 (aB (eN a0 a1) n (v10,v11,v12,v13,v14,v15,v16,v17,v18,v19,v20,v21,v22))).2)]) [(.live true true (flat iH (fG (cZ a0 a1) n0 (aB (eN a0 a1) n (v10,v11,v12,v13,v14,v15,v16,v17,v18,v19,v20,v21,v22))).1))] [])) cx [] (.l vS n::vT n0) (rY a0 a1 (flat iH v10) v10.length (flat cM v11) v11.length v12 v13 v14 v15 v16 v17 v18 v19 v20 v21 v22):=by
 intro n
 induction n with
 | zero=>intro v10 v11 v12 v13 v14 v15 v16 v17 v18 v19 v20 v21 v22 hi hn;exact absurd hn (fZ _)
 | succ n ih =>
  intro v10 v11 v12 v13 v14 v15 v16 v17 v18 v19 v20 v21 v22 hi hn
  refine aH ?_
  have hpl:=pZ (a0.1,a0.2)
  cases h0:(decide ((v13:Int) < (((bH (a0.1,a0.2)).1.length:Nat):Int))) with
  | true =>
   have q0:=bS h0
   let t1:List (St Tryz.prog):=[.d h0,.i v13 ((bH (a0.1,a0.2)).1.length),.L dT (bH (a0.1,a0.2)).1 v13 0 9,.c [] (C33 ((bH (a0.1,a0.2)).1.getD (tN v13) dF) ((v14,v15,v16),(v17,v18,v19),(v20,v21,v22)) a1)]
   cases h1:(((pW ((bH (a0.1,a0.2)).1.getD (tN v13) dF) ((v14,v15,v16),(v17,v18,v19),(v20,v21,v22)) a1).2:Int) != 0) with
   | true =>
    have q1:=bne_iff_ne.1 h1
    have e:=Eq.refl (eN a0 a1 (v10,v11,v12,v13,v14,v15,v16,v17,v18,v19,v20,v21,v22));conv at e=>rhs;simp only [eN,h0,h1,aJ]
    rw [aD,e]
    exact rt (t1++[.d h1]) [.slot 6 1] [8] hcx (by kernel_rfl)
   | false =>
    have q1:=bne_eq_false_iff_eq.1 h1
    have e:=Eq.refl (eN a0 a1 (v10,v11,v12,v13,v14,v15,v16,v17,v18,v19,v20,v21,v22));conv at e=>rhs;simp only [eN,h0,h1,aJ]
    rw [aA e]
    refine ba (t1++[.d h1,.p (show((flat cM v11).length=v11.length*2/\v11.length+1<=2 ^ 40/\(v11.length+1)*16<=2 ^ 47) from fN bW (by omega) (by omega))]) [] [1,2,8,10,12,13,26,27,28,32,33,34] [2,3,4,9] hcx (m:=n) vS (vT n0) (rY a0 a1 (flat iH v10) (v10.length) (flat cM v11++(k2 (pW ((bH (a0.1,a0.2)).1.getD (tN v13) dF) ((v14,v15,v16),(v17,v18,v19),(v20,v21,v22)) a1).1)) (v11.length+1) v12 (W (v13+1)) v14 v15 v16 v17 v18 v19 v20 v21 v22) (by kernel_rfl) ?_
    have z0:(W (v13+1))=(v13+1):=aF (by omega) (by omega)
    have z1:(flat cM v11++(k2 (pW ((bH (a0.1,a0.2)).1.getD (tN v13) dF) ((v14,v15,v16),(v17,v18,v19),(v20,v21,v22)) a1).1))=(flat cM (v11++[(pW ((bH (a0.1,a0.2)).1.getD (tN v13) dF) ((v14,v15,v16),(v17,v18,v19),(v20,v21,v22)) a1).1])):=(bK (c:=cM) (l:=v11) (m:=[(pW ((bH (a0.1,a0.2)).1.getD (tN v13) dF) ((v14,v15,v16),(v17,v18,v19),(v20,v21,v22)) a1).1])).symm
    have z2:(v11.length+1)=(v11++[(pW ((bH (a0.1,a0.2)).1.getD (tN v13) dF) ((v14,v15,v16),(v17,v18,v19),(v20,v21,v22)) a1).1]).length:=dW v11 [(pW ((bH (a0.1,a0.2)).1.getD (tN v13) dF) ((v14,v15,v16),(v17,v18,v19),(v20,v21,v22)) a1).1] rfl
    rw [z0,z1,z2]
    exact ih v10 (v11++[(pW ((bH (a0.1,a0.2)).1.getD (tN v13) dF) ((v14,v15,v16),(v17,v18,v19),(v20,v21,v22)) a1).1]) v12 (v13+1) v14 v15 v16 v17 v18 v19 v20 v21 v22 (by refine⟨?_,?_,?_,?_,?_,?_,?_,?_,?_,?_,?_⟩<;>(try simp only [Ls])<;>first | omega | assumption | exact hi.2.1 | exact hi.2.2.1 | exact hi.2.2.2.1 | exact hi.2.2.2.2.1 | exact hi.2.2.2.2.2.1 | exact hi.2.2.2.2.2.2.1 | exact hi.2.2.2.2.2.2.2.1 | exact hi.2.2.2.2.2.2.2.2.1 | exact hi.2.2.2.2.2.2.2.2.2.1 | exact hi.2.2.2.2.2.2.2.2.2.2.1 | simp) (by(try simp only [Ls]);omega)
  | false =>
   have q0:=cE h0
   have e:=Eq.refl (eN a0 a1 (v10,v11,v12,v13,v14,v15,v16,v17,v18,v19,v20,v21,v22));conv at e=>rhs;simp only [eN,h0,aJ]
   rw [aD,e]
   refine ba [.d h0,.p (show((flat cM v11)).length=v11.length*2 from by first | (simp [pX bW];done) | rfl),.p (show((flat iH v10).length=v10.length*1/\v10.length+1<=2 ^ 40/\(v10.length+1)*24<=2 ^ 47) from fN xZ (by omega) (by omega))] [] [1,2,8,10,26,27,28] [2,7] hcx (m:=n0) qC (qD) (nL a0 a1 (flat iH v10++[(.d (flat cM v11) v11.length 2)]) (v10.length+1) (W (v12+1))) (by kernel_rfl) ?_
   have z0:(W (v12+1))=(v12+1):=aF (by omega) (by omega)
   have z1:(flat iH v10++[(.d (flat cM v11) v11.length 2)])=(flat iH (v10++[v11])):=(bK (c:=iH) (l:=v10) (m:=[v11])).symm
   have z2:(v10.length+1)=(v10++[v11]).length:=dW v10 [v11] rfl
   rw [z0,z1,z2]
   exact g0 (v10++[v11]) (v12+1) (by refine⟨?_,?_,?_⟩<;>(try simp only [Ls])<;>first | omega | assumption | simp) (by(try simp only [Ls]);omega)
theorem aLf (a0:Zm)(a1:Int)(l0_1:a0.1.length<=2^63-1)(l0_2:a0.2.length<=2^63-1) {cx:Cx} (hcx:cx.base=2):∀(n:Nat) (v8:List (List (Int×Int))) (v9:Int),(0<=v9)/\(v8.length=tN v9)/\(v9<=(bH (a0.1,a0.2)).1.length)->tN ((((bH (a0.1,a0.2)).1.length:Nat):Int) - v9) < n->Aw.Good Tryz.prog none 9 (bodyPost Tryz.prog Tryz.f31 (RR cx (.t [(.s 2 0 (aB (cZ a0 a1) n (v8,v9)).1.length 1),(iv (aB (cZ a0 a1) n (v8,v9)).2)]) [(.live true true (flat iH (aB (cZ a0 a1) n (v8,v9)).1))] [])) cx [] (.l qC n::qD) (nL a0 a1 (flat iH v8) v8.length v9):=by
 intro n
 induction n with
 | zero=>intro v8 v9 hi hn;exact absurd hn (fZ _)
 | succ n ih =>
  intro v8 v9 hi hn
  refine aH ?_
  have hpl:=pZ (a0.1,a0.2)
  cases h0:(decide ((v9:Int) < (((bH (a0.1,a0.2)).1.length:Nat):Int))) with
  | true =>
   have q0:=bS h0
   have e:=Eq.refl (cZ a0 a1 (v8,v9));conv at e=>rhs;simp only [cZ,h0,aJ]
   rw [aD,e]
   refine en [.d h0,.i v9 ((bH (a0.1,a0.2)).1.length),.L dT (bH (a0.1,a0.2)).1 v9 0 9] [.slot 13 2] [1,2,8,10,12,13,26,27,28,32,33,34] [2,3,4,5] hcx vS (vT n) (rY a0 a1 (flat iH v8) (v8.length) (flat cM ([]:List (Int×Int))) 0 v9 0 (((bH (a0.1,a0.2)).1.getD (tN v9) dF).1.1) (((bH (a0.1,a0.2)).1.getD (tN v9) dF).1.2.1) (((bH (a0.1,a0.2)).1.getD (tN v9) dF).1.2.2) (((bH (a0.1,a0.2)).1.getD (tN v9) dF).2.1.1) (((bH (a0.1,a0.2)).1.getD (tN v9) dF).2.1.2.1) (((bH (a0.1,a0.2)).1.getD (tN v9) dF).2.1.2.2) (((bH (a0.1,a0.2)).1.getD (tN v9) dF).2.2.1) (((bH (a0.1,a0.2)).1.getD (tN v9) dF).2.2.2.1) (((bH (a0.1,a0.2)).1.getD (tN v9) dF).2.2.2.2)) (tN ((((bH (a0.1,a0.2)).1.length:Nat):Int) - 0)+1) (by kernel_rfl) ?_
   exact aLe a0 a1 l0_1 l0_2 hcx n ih (tN ((((bH (a0.1,a0.2)).1.length:Nat):Int) - 0)+1) v8 ([]:List (Int×Int)) v9 0 (((bH (a0.1,a0.2)).1.getD (tN v9) dF).1.1) (((bH (a0.1,a0.2)).1.getD (tN v9) dF).1.2.1) (((bH (a0.1,a0.2)).1.getD (tN v9) dF).1.2.2) (((bH (a0.1,a0.2)).1.getD (tN v9) dF).2.1.1) (((bH (a0.1,a0.2)).1.getD (tN v9) dF).2.1.2.1) (((bH (a0.1,a0.2)).1.getD (tN v9) dF).2.1.2.2) (((bH (a0.1,a0.2)).1.getD (tN v9) dF).2.2.1) (((bH (a0.1,a0.2)).1.getD (tN v9) dF).2.2.2.1) (((bH (a0.1,a0.2)).1.getD (tN v9) dF).2.2.2.2) (by refine⟨?_,?_,?_,?_,?_,?_,?_,?_,?_,?_,?_⟩<;>(try simp only [Ls])<;>first | omega | assumption | exact hi.2.1 | exact hi.2.2.1 | exact hi.2.2.2.1 | exact hi.2.2.2.2.1 | exact hi.2.2.2.2.2.1 | exact hi.2.2.2.2.2.2.1 | exact hi.2.2.2.2.2.2.2.1 | exact hi.2.2.2.2.2.2.2.2.1 | exact hi.2.2.2.2.2.2.2.2.2.1 | exact hi.2.2.2.2.2.2.2.2.2.2.1 | simp) (by(try simp only [Ls]);omega)
  | false =>
   have q0:=cE h0
   have e:=Eq.refl (cZ a0 a1 (v8,v9));conv at e=>rhs;simp only [cZ,h0,aJ]
   rw [aD,e]
   exact rt [.d h0] [] [3] hcx (by kernel_rfl)
def cJ (a0:Zm)(a1:Int):(List (List (Int×Int)))×Int :=
 (bif (((bH (a0.1,a0.2)).2:Int) != 0) then
  (([]:List (List (Int×Int))),(bH (a0.1,a0.2)).2)
 else
  (aB (cZ a0 a1) (tN ((((bH (a0.1,a0.2)).1.length:Nat):Int) - 0)+1) (([]:List (List (Int×Int))),0)))
theorem aQ6 (a0:Zm)(a1:Int)(l0_1:a0.1.length<=2^63-1)(l0_2:a0.2.length<=2^63-1):Con Tryz.prog 31 [(.a [(.s 0 0 a0.1.length 3),(.s 1 0 a0.2.length 3)]),(iv a1),(.v (.func (.func 33) #[] #[]))] [(.live false true (flat dQ a0.1)),(.live false true (flat eE a0.2))] (.t [(.s 2 0 (cJ a0 a1).1.length 1),(iv (cJ a0 a1).2)]) [(.live true true (flat iH (cJ a0 a1).1))]:=by
 refine aK Tryz.func31 (by kernel_rfl) fun cx hcx=>?_
 have hpl:=pZ (a0.1,a0.2)
 let t0:List (St Tryz.prog):=[.c [0,1] (C63 (a0.1,a0.2) (by(try simp only [Lt]);omega) (by(try simp only [Lt]);omega))]
 cases h0:(((bH (a0.1,a0.2)).2:Int) != 0) with
 | true =>
  have q0:=bne_iff_ne.1 h0
  have e:=Eq.refl (cJ a0 a1);conv at e=>rhs;simp only [cJ,h0,aJ]
  rw [e]
  exact rt (t0++[.d h0]) [.slot 6 1] [4] hcx (by kernel_rfl)
 | false =>
  have q0:=bne_eq_false_iff_eq.1 h0
  have e:=Eq.refl (cJ a0 a1);conv at e=>rhs;simp only [cJ,h0,aJ]
  rw [e]
  refine en (t0++[.d h0]) [.slot 10 1] [1,2,8,10,26,27,28] [3,4] hcx qC (qD) (nL a0 a1 (flat iH ([]:List (List (Int×Int)))) 0 0) (tN ((((bH (a0.1,a0.2)).1.length:Nat):Int) - 0)+1) (by kernel_rfl) ?_
  exact aLf a0 a1 l0_1 l0_2 hcx (tN ((((bH (a0.1,a0.2)).1.length:Nat):Int) - 0)+1) ([]:List (List (Int×Int))) 0 (by refine⟨?_,?_,?_⟩<;>(try simp only [Ls])<;>first | omega | assumption | simp) (by(try simp only [Ls]);omega)
noncomputable def vU:Code:=(aC [1,1,0,1] [] (aG Tryz.f37) []).1
noncomputable def vV:List K:=(aC [1,1,0,1] [] (aG Tryz.f37) []).2
def rZ (a0:List (List (Int×Int)))(a1:List Int)(v2c:List SV)(v2n:Nat)(v3:Int):LS:=⟨fU 32 [(1,(.s 1 0 a1.length 1)),(6,(.s 2 0 v2n 2)),(11,(.s 0 0 a0.length 1)),(12,(iv (a0.length:Int))),(13,(iv v3))],[(.live false true (flat iH a0)),(.live false true (flat c3 a1)),(.live true true v2c)]⟩
def dR (a0:List (List (Int×Int)))(a1:List Int):(List (Int×Int))×Int->((List (Int×Int))×Int)⊕((List (Int×Int))×Int)
 | (v2,v3) =>
  (bif (decide ((v3:Int) < (a0.length:Int))) then
   (bif (((dA (a0.getD (tN v3) dF) a1).2:Int) != 0) then
    (.inr (([]:List (Int×Int)),(dA (a0.getD (tN v3) dF) a1).2))
   else
    (.inl ((v2++[(dA (a0.getD (tN v3) dF) a1).1]),(v3+1))))
  else
   (.inr (v2,0)))
theorem aLg (a0:List (List (Int×Int)))(a1:List Int)(l0:a0.length<=2^63-1)(l1:a1.length<=2^63-1)(hr:∀r∈a0,r.length<=a1.length)(hn:a0.length<=96)(hm:a1.length<=96) {cx:Cx} (hcx:cx.base=2):∀(n:Nat) (v2:List (Int×Int)) (v3:Int),(0<=v3)/\(v2.length=tN v3)/\(v3<=a0.length)->tN ((a0.length:Int) - v3) < n->Aw.Good Tryz.prog none 9 (bodyPost Tryz.prog Tryz.f37 (RR cx (.t [(.s 2 0 (aB (dR a0 a1) n (v2,v3)).1.length 2),(iv (aB (dR a0 a1) n (v2,v3)).2)]) [(.live true true (flat cM (aB (dR a0 a1) n (v2,v3)).1))] [])) cx [] (.l vU n::vV) (rZ a0 a1 (flat cM v2) v2.length v3):=by
 intro n
 induction n with
 | zero=>intro v2 v3 hi hn;exact absurd hn (fZ _)
 | succ n ih =>
  intro v2 v3 hi hn
  refine aH ?_
  have hrl:=aUw hr v3
  cases h0:(decide ((v3:Int) < (a0.length:Int))) with
  | true =>
   have q0:=bS h0
   let t1:List (St Tryz.prog):=[.d h0,.i v3 (a0.length),.L xZ a0 v3 0 1,.p (aDr (c:=cM) (fun _=>rfl) (a0.getD (tN v3) dF)),.c [3,1] (aJ4 (a0.getD (tN v3) dF) a1 (by(try simp only [Lt]);omega) (by omega) (by omega) (by omega))]
   cases h1:(((dA (a0.getD (tN v3) dF) a1).2:Int) != 0) with
   | true =>
    have q1:=bne_iff_ne.1 h1
    have e:=Eq.refl (dR a0 a1 (v2,v3));conv at e=>rhs;simp only [dR,h0,h1,aJ]
    rw [aD,e]
    exact rt (t1++[.d h1]) [.slot 4 2] [5] hcx (by kernel_rfl)
   | false =>
    have q1:=bne_eq_false_iff_eq.1 h1
    have e:=Eq.refl (dR a0 a1 (v2,v3));conv at e=>rhs;simp only [dR,h0,h1,aJ]
    rw [aA e]
    refine ba (t1++[.d h1,.p (show((flat cM v2).length=v2.length*2/\v2.length+1<=2 ^ 40/\(v2.length+1)*16<=2 ^ 47) from fN bW (by omega) (by omega))]) [] [1,6,11,12,13] [6] hcx (m:=n) vU (vV) (rZ a0 a1 (flat cM v2++(k2 (dA (a0.getD (tN v3) dF) a1).1)) (v2.length+1) (W (v3+1))) (by kernel_rfl) ?_
    have z0:(W (v3+1))=(v3+1):=aF (by omega) (by omega)
    have z1:(flat cM v2++(k2 (dA (a0.getD (tN v3) dF) a1).1))=(flat cM (v2++[(dA (a0.getD (tN v3) dF) a1).1])):=(bK (c:=cM) (l:=v2) (m:=[(dA (a0.getD (tN v3) dF) a1).1])).symm
    have z2:(v2.length+1)=(v2++[(dA (a0.getD (tN v3) dF) a1).1]).length:=dW v2 [(dA (a0.getD (tN v3) dF) a1).1] rfl
    rw [z0,z1,z2]
    exact ih (v2++[(dA (a0.getD (tN v3) dF) a1).1]) (v3+1) (by refine⟨?_,?_,?_⟩<;>(try simp only [Ls])<;>first | omega | assumption | simp) (by(try simp only [Ls]);omega)
  | false =>
   have q0:=cE h0
   have e:=Eq.refl (dR a0 a1 (v2,v3));conv at e=>rhs;simp only [dR,h0,aJ]
   rw [aD,e]
   exact rt [.d h0] [] [2] hcx (by kernel_rfl)
def aI (a0:List (List (Int×Int)))(a1:List Int):(List (Int×Int))×Int :=
 (aB (dR a0 a1) (tN ((a0.length:Int) - 0)+1) (([]:List (Int×Int)),0))
theorem aJ5 (a0:List (List (Int×Int)))(a1:List Int)(l0:a0.length<=2^63-1)(l1:a1.length<=2^63-1)(hr:∀r∈a0,r.length<=a1.length)(hn:a0.length<=96)(hm:a1.length<=96):Con Tryz.prog 37 [(.s 0 0 a0.length 1),(.s 1 0 a1.length 1)] [(.live false true (flat iH a0)),(.live false true (flat c3 a1))] (.t [(.s 2 0 (aI a0 a1).1.length 2),(iv (aI a0 a1).2)]) [(.live true true (flat cM (aI a0 a1).1))]:=by
 refine aK Tryz.func37 (by kernel_rfl) fun cx hcx=>?_
 have e:=Eq.refl (aI a0 a1);conv at e=>rhs;simp only [aI]
 rw [e]
 refine en [] [.slot 6 2] [1,6,11,12,13] [2] hcx vU (vV) (rZ a0 a1 (flat cM ([]:List (Int×Int))) 0 0) (tN ((a0.length:Int) - 0)+1) (by kernel_rfl) ?_
 exact aLg a0 a1 l0 l1 hr hn hm hcx (tN ((a0.length:Int) - 0)+1) ([]:List (Int×Int)) 0 (by refine⟨?_,?_,?_⟩<;>(try simp only [Ls])<;>first | omega | assumption | simp) (by(try simp only [Ls]);omega)
noncomputable def vW:Code:=(aC [1,1,1,0,1,0,1,1,0,1,1] [0] (aG Tryz.f70) []).1
noncomputable def vX (m0:Nat):List K:=(aC [1,1,1,0,1,0,1,1,0,1,1] [m0] (aG Tryz.f70) []).2
def sB (a0:List (List (Int×Int)))(a1:List Int)(v14c:List SV)(v14n:Nat)(v15c:List SV)(v15n:Nat)(v16 v17 v18 v19:Int):LS:=⟨fU 49 [(0,(.s 0 0 a0.length 1)),(1,(.s 1 0 a1.length 1)),(4,(.p 2 0)),(6,(.s 3 0 v14n 2)),(7,(.s 4 0 v15n 1)),(8,(iv v16)),(9,(iv v17)),(12,(.s 1 0 a1.length 1)),(13,(iv (a1.length:Int))),(14,(iv v18)),(19,(.s 1 0 a1.length 1)),(20,(iv (a1.length:Int))),(21,(iv v19))],[(.live false true (flat iH a0)),(.live false true (flat c3 a1)),(.live true false [(iv 0),(iv 0)]),(.live true true v14c),(.live true true v15c)]⟩
def eO (a0:List (List (Int×Int)))(a1:List Int):(List (Int×Int))×List Int×Int×Zt->((List (Int×Int))×List Int×Int×Zt)⊕(((List (Int×Int))×List Int×Int)⊕((Int×Int)×Int))
 | (v14,v15,v16,v17,v18,v19) =>
  (bif (decide ((v19:Int) < (a1.length:Int))) then
   (.inl ((v14++[((a0.getD (tN v19) dF).getD (tN v16) dF)]),(v15++[(W (v17*(a1.getD (tN v19) dF)))]),v16,v17,v18,(v19+1)))
  else
   (.inr (.inl (v14,v15,(v18+1)))))
noncomputable def qE:Code:=(aC [1,1,1,0,1] [] (aG Tryz.f70) []).1
noncomputable def qF:List K:=(aC [1,1,1,0,1] [] (aG Tryz.f70) []).2
def nM (a0:List (List (Int×Int)))(a1:List Int)(v11c:List SV)(v11n:Nat)(v12c:List SV)(v12n:Nat)(v13:Int):LS:=⟨fU 49 [(0,(.s 0 0 a0.length 1)),(1,(.s 1 0 a1.length 1)),(4,(.p 2 0)),(6,(.s 3 0 v11n 2)),(7,(.s 4 0 v12n 1)),(12,(.s 1 0 a1.length 1)),(13,(iv (a1.length:Int))),(14,(iv v13))],[(.live false true (flat iH a0)),(.live false true (flat c3 a1)),(.live true false [(iv 0),(iv 0)]),(.live true true v11c),(.live true true v12c)]⟩
def dG (a0:List (List (Int×Int)))(a1:List Int):(List (Int×Int))×List Int×Int->((List (Int×Int))×List Int×Int)⊕((Int×Int)×Int)
 | (v11,v12,v13) =>
  (bif (decide ((v13:Int) < (a1.length:Int))) then
   (aB (eO a0 a1) (tN ((a1.length:Int) - 0)+1) (v11,v12,v13,(a1.getD (tN v13) dF),v13,0))
  else
   (.inr ((dA v11 v12).1,(dA v11 v12).2)))
theorem aLh (a0:List (List (Int×Int)))(a1:List Int)(l0:a0.length<=2^63-1)(l1:a1.length<=2^63-1)(hl:a0.length=a1.length)(hr:∀r∈a0,r.length=a1.length)(hm:a1.length<=96) {cx:Cx} (hcx:cx.base=2)
 (n0:Nat) (g0:∀(v11:List (Int×Int)) (v12:List Int) (v13:Int),(0<=v13)/\(v11.length<=96*tN v13)/\(v12.length=v11.length)/\(v13<=a1.length)->tN ((a1.length:Int) - v13) < n0->Aw.Good Tryz.prog none 9 (bodyPost Tryz.prog Tryz.f70 (RR cx (.t [(.a (k2 (aB (dG a0 a1) n0 (v11,v12,v13)).1)),(iv (aB (dG a0 a1) n0 (v11,v12,v13)).2)]) [] [])) cx [] (.l qE n0::qF) (nM a0 a1 (flat cM v11) v11.length (flat c3 v12) v12.length v13)):∀(n:Nat) (v14:List (Int×Int)) (v15:List Int) (v16 v17 v18 v19:Int),(0<=v19)/\(v14.length<=96*tN v18+tN v19)/\(v15.length=v14.length)/\(0<=v16)/\(v16 < a1.length)/\(0<=v18)/\(v18 < a1.length)/\(v19<=a1.length)/\((0<=v18))/\((v15.length=v14.length))/\((v18<=a1.length))/\(v18 < (a1.length:Int))/\(tN ((a1.length:Int) - v18) < n0+1)->tN ((a1.length:Int) - v19) < n->Aw.Good Tryz.prog none 9 (bodyPost Tryz.prog Tryz.f70 (RR cx (.t [(.a (k2 (fG (dG a0 a1) n0 (aB (eO a0 a1) n (v14,v15,v16,v17,v18,v19))).1)),(iv (fG (dG a0 a1) n0 (aB (eO a0 a1) n (v14,v15,v16,v17,v18,v19))).2)]) [] [])) cx [] (.l vW n::vX n0) (sB a0 a1 (flat cM v14) v14.length (flat c3 v15) v15.length v16 v17 v18 v19):=by
 intro n
 induction n with
 | zero=>intro v14 v15 v16 v17 v18 v19 hi hn;exact absurd hn (fZ _)
 | succ n ih =>
  intro v14 v15 v16 v17 v18 v19 hi hn
  refine aH ?_
  have hrl:=aUv hr v19
  cases h0:(decide ((v19:Int) < (a1.length:Int))) with
  | true =>
   have q0:=bS h0
   have e:=Eq.refl (eO a0 a1 (v14,v15,v16,v17,v18,v19));conv at e=>rhs;simp only [eO,h0,aJ]
   rw [aA e]
   refine ba [.d h0,.i v19 (a1.length),.L dH a1 v19 0 1,.i v19 (a0.length),.L xZ a0 v19 0 1,.p (aDr (c:=cM) (fun _=>rfl) (a0.getD (tN v19) dF)),.i v16 ((a0.getD (tN v19) dF).length),.L bW (a0.getD (tN v19) dF) v16 0 2,.p (show((flat cM v14).length=v14.length*2/\v14.length+1<=2 ^ 40/\(v14.length+1)*16<=2 ^ 47) from fN bW (by omega) (by omega)),.p (show((flat c3 v15).length=v15.length*1/\v15.length+1<=2 ^ 40/\(v15.length+1)*8<=2 ^ 47) from fN dH (by omega) (by omega))] [] [0,1,4,6,7,8,9,12,13,14,19,20,21] [2,7,9] hcx (m:=n) vW (vX n0) (sB a0 a1 (flat cM v14++(k2 ((a0.getD (tN v19) dF).getD (tN v16) dF))) (v14.length+1) (flat c3 v15++[(iv (W (v17*(a1.getD (tN v19) dF))))]) (v15.length+1) v16 v17 v18 (W (v19+1))) (by kernel_rfl) ?_
   have z0:(W (v19+1))=(v19+1):=aF (by omega) (by omega)
   have z1:(flat cM v14++(k2 ((a0.getD (tN v19) dF).getD (tN v16) dF)))=(flat cM (v14++[((a0.getD (tN v19) dF).getD (tN v16) dF)])):=(bK (c:=cM) (l:=v14) (m:=[((a0.getD (tN v19) dF).getD (tN v16) dF)])).symm
   have z2:(v14.length+1)=(v14++[((a0.getD (tN v19) dF).getD (tN v16) dF)]).length:=dW v14 [((a0.getD (tN v19) dF).getD (tN v16) dF)] rfl
   have z3:(flat c3 v15++[(iv (W (v17*(a1.getD (tN v19) dF))))])=(flat c3 (v15++[(W (v17*(a1.getD (tN v19) dF)))])):=(bK (c:=c3) (l:=v15) (m:=[(W (v17*(a1.getD (tN v19) dF)))])).symm
   have z4:(v15.length+1)=(v15++[(W (v17*(a1.getD (tN v19) dF)))]).length:=dW v15 [(W (v17*(a1.getD (tN v19) dF)))] rfl
   rw [z0,z1,z2,z3,z4]
   exact ih (v14++[((a0.getD (tN v19) dF).getD (tN v16) dF)]) (v15++[(W (v17*(a1.getD (tN v19) dF)))]) v16 v17 v18 (v19+1) (by refine⟨?_,?_,?_,?_,?_,?_,?_,?_,?_,?_,?_,?_,?_⟩<;>(try simp only [Ls])<;>first | omega | assumption | exact hi.2.1 | exact hi.2.2.1 | exact hi.2.2.2.1 | exact hi.2.2.2.2.1 | exact hi.2.2.2.2.2.1 | exact hi.2.2.2.2.2.2.1 | exact hi.2.2.2.2.2.2.2.1 | exact hi.2.2.2.2.2.2.2.2.1 | exact hi.2.2.2.2.2.2.2.2.2.1 | exact hi.2.2.2.2.2.2.2.2.2.2.1 | exact hi.2.2.2.2.2.2.2.2.2.2.2.1 | exact hi.2.2.2.2.2.2.2.2.2.2.2.2.1 | simp) (by(try simp only [Ls]);omega)
  | false =>
   have q0:=cE h0
   have e:=Eq.refl (eO a0 a1 (v14,v15,v16,v17,v18,v19));conv at e=>rhs;simp only [eO,h0,aJ]
   rw [aD,e]
   refine ba [.d h0] [] [0,1,4,6,7,12,13,14] [2,3,4] hcx (m:=n0) qE (qF) (nM a0 a1 (flat cM v14) (v14.length) (flat c3 v15) (v15.length) (W (v18+1))) (by kernel_rfl) ?_
   have z0:(W (v18+1))=(v18+1):=aF (by omega) (by omega)
   rw [z0]
   exact g0 v14 v15 (v18+1) (by refine⟨?_,?_,?_,?_⟩<;>(try simp only [Ls])<;>first | omega | assumption | simp) (by(try simp only [Ls]);omega)
theorem aLi (a0:List (List (Int×Int)))(a1:List Int)(l0:a0.length<=2^63-1)(l1:a1.length<=2^63-1)(hl:a0.length=a1.length)(hr:∀r∈a0,r.length=a1.length)(hm:a1.length<=96) {cx:Cx} (hcx:cx.base=2):∀(n:Nat) (v11:List (Int×Int)) (v12:List Int) (v13:Int),(0<=v13)/\(v11.length<=96*tN v13)/\(v12.length=v11.length)/\(v13<=a1.length)->tN ((a1.length:Int) - v13) < n->Aw.Good Tryz.prog none 9 (bodyPost Tryz.prog Tryz.f70 (RR cx (.t [(.a (k2 (aB (dG a0 a1) n (v11,v12,v13)).1)),(iv (aB (dG a0 a1) n (v11,v12,v13)).2)]) [] [])) cx [] (.l qE n::qF) (nM a0 a1 (flat cM v11) v11.length (flat c3 v12) v12.length v13):=by
 intro n
 induction n with
 | zero=>intro v11 v12 v13 hi hn;exact absurd hn (fZ _)
 | succ n ih =>
  intro v11 v12 v13 hi hn
  refine aH ?_
  cases h0:(decide ((v13:Int) < (a1.length:Int))) with
  | true =>
   have q0:=bS h0
   have e:=Eq.refl (dG a0 a1 (v11,v12,v13));conv at e=>rhs;simp only [dG,h0,aJ]
   rw [aD,e]
   refine en [.d h0,.i v13 (a1.length),.L dH a1 v13 0 1] [] [0,1,4,6,7,8,9,12,13,14,19,20,21] [2,3,4] hcx vW (vX n) (sB a0 a1 (flat cM v11) (v11.length) (flat c3 v12) (v12.length) v13 (a1.getD (tN v13) dF) v13 0) (tN ((a1.length:Int) - 0)+1) (by kernel_rfl) ?_
   exact aLh a0 a1 l0 l1 hl hr hm hcx n ih (tN ((a1.length:Int) - 0)+1) v11 v12 v13 (a1.getD (tN v13) dF) v13 0 (by refine⟨?_,?_,?_,?_,?_,?_,?_,?_,?_,?_,?_,?_,?_⟩<;>(try simp only [Ls])<;>first | omega | assumption | exact hi.2.1 | exact hi.2.2.1 | exact hi.2.2.2.1 | exact hi.2.2.2.2.1 | exact hi.2.2.2.2.2.1 | exact hi.2.2.2.2.2.2.1 | exact hi.2.2.2.2.2.2.2.1 | exact hi.2.2.2.2.2.2.2.2.1 | exact hi.2.2.2.2.2.2.2.2.2.1 | exact hi.2.2.2.2.2.2.2.2.2.2.1 | exact hi.2.2.2.2.2.2.2.2.2.2.2.1 | exact hi.2.2.2.2.2.2.2.2.2.2.2.2.1 | simp) (by(try simp only [Ls]);omega)
  | false =>
   have q0:=cE h0
   have e:=Eq.refl (dG a0 a1 (v11,v12,v13));conv at e=>rhs;simp only [dG,h0,aJ]
   rw [aD,e]
   exact rt [.d h0,.c [3,4] (aJ4 v11 v12 (by omega) (by omega) (by omega) (by omega))] [] [] hcx (by kernel_rfl)
def cV (a0:List (List (Int×Int)))(a1:List Int):(Int×Int)×Int :=
 (aB (dG a0 a1) (tN ((a1.length:Int) - 0)+1) (([]:List (Int×Int)),([]:List Int),0))
theorem aQ7 (a0:List (List (Int×Int)))(a1:List Int)(l0:a0.length<=2^63-1)(l1:a1.length<=2^63-1)(hl:a0.length=a1.length)(hr:∀r∈a0,r.length=a1.length)(hm:a1.length<=96):Con Tryz.prog 70 [(.s 0 0 a0.length 1),(.s 1 0 a1.length 1)] [(.live false true (flat iH a0)),(.live false true (flat c3 a1))] (.t [(.a (k2 (cV a0 a1).1)),(iv (cV a0 a1).2)]) []:=by
 refine aK Tryz.func70 (by kernel_rfl) fun cx hcx=>?_
 have e:=Eq.refl (cV a0 a1);conv at e=>rhs;simp only [cV]
 rw [e]
 refine en [] [.slot 6 2,.slot 7 1] [0,1,4,6,7,12,13,14] [2,3,4] hcx qE (qF) (nM a0 a1 (flat cM ([]:List (Int×Int))) 0 (flat c3 ([]:List Int)) 0 0) (tN ((a1.length:Int) - 0)+1) (by kernel_rfl) ?_
 exact aLi a0 a1 l0 l1 hl hr hm hcx (tN ((a1.length:Int) - 0)+1) ([]:List (Int×Int)) ([]:List Int) 0 (by refine⟨?_,?_,?_,?_⟩<;>(try simp only [Ls])<;>first | omega | assumption | simp) (by(try simp only [Ls]);omega)
abbrev TB:=List (List (Int×Int))
theorem aJ6 {S1:TB×List (Int×Int)×Int×Int×Int×Int×Int×Int×Int×Int×Zt->(TB×List (Int×Int)×Int×Int×Int×Int×Int×Int×Int×Int×Zt)⊕((TB×Int)⊕(TB×Int))} {S0:TB×Int->(TB×Int)⊕(TB×Int)}
 (L:List PN) (of:PN->PN->(Int×Int)×Int) (hof:∀p∈L,∀q∈L,(of p q).2=0)
 (hS1:∀(out:TB) (row:List (Int×Int)) (i j:Int) (q:PN),S1 (out,row,i,j,q.1.1,q.1.2.1,q.1.2.2,q.2.1.1,q.2.1.2.1,q.2.1.2.2,q.2.2.1,q.2.2.2.1,q.2.2.2.2) =
  bif decide (j < (L.length:Int)) then(bif ((of (L.getD (tN j) dF) q).2 != 0) then .inr (.inr ([],(of (L.getD (tN j) dF) q).2)) else .inl (out,row++[(of (L.getD (tN j) dF) q).1],i,j+1,q.1.1,q.1.2.1,q.1.2.2,q.2.1.1,q.2.1.2.1,q.2.1.2.2,q.2.2.1,q.2.2.2.1,q.2.2.2.2)) else .inr (.inl (out++[row],i+1)))
 (hS0:∀(out:TB) (i:Int),S0 (out,i)=bif decide (i < (L.length:Int)) then aB S1 (tN ((L.length:Int) - 0)+1) (out,[],i,0,(L.getD (tN i) dF).1.1,(L.getD (tN i) dF).1.2.1,(L.getD (tN i) dF).1.2.2,(L.getD (tN i) dF).2.1.1,(L.getD (tN i) dF).2.1.2.1,(L.getD (tN i) dF).2.1.2.2,(L.getD (tN i) dF).2.2.1,(L.getD (tN i) dF).2.2.2.1,(L.getD (tN i) dF).2.2.2.2) else .inr (out,0)) :
 aB S0 (tN ((L.length:Int) - 0)+1) ([],0)=(L.map fun q=>L.map fun p=>(of p q).1,0):=by
 have snoc:∀{α β:Type} (g:α->β) (l:List α) (v:List β),l.foldl (fun v c=>v++[g c]) v=v++l.map g:=by
  intro α β g l
  induction l with
  | nil=>intro v;simp
  | cons c l ih=>intro v;rw [List.foldl_cons,ih];simp
 have inner:∀(out:TB) (i:Int) (q:PN),q∈L->aB S1 (tN ((L.length:Int) - 0)+1) (out,[],i,0,q.1.1,q.1.2.1,q.1.2.2,q.2.1.1,q.2.1.2.1,q.2.1.2.2,q.2.2.1,q.2.2.2.1,q.2.2.2.2)=.inl (out++[L.map fun p=>(of p q).1],i+1):=by
  intro out i q hq
  rw [aX (fun row j=>(out,row,i,j,q.1.1,q.1.2.1,q.1.2.2,q.2.1.1,q.2.1.2.1,q.2.1.2.2,q.2.2.1,q.2.2.2.1,q.2.2.2.2)) (fun row p=>.inl (row++[(of p q).1])) (fun row=>.inl (out++[row],i+1)) (L:=L) (fun _ _=>True) ?_ (fun _ _ _ _ _ _ _=>trivial) ?_ (by omega) trivial]
  ·rw [bM,snoc];rfl
  ·intro j c hc row _
   obtain⟨hlt,hce⟩:=List.getElem?_eq_some_iff.1 hc
   rw [hS1,cA (by omega),cond_true,bE hc,hof c (List.mem_of_getElem? hc) q hq]
   rfl
  ·intro row _
   rw [hS1,cT (by omega),cond_false]
 rw [aX (fun out i=>(out,i)) (fun out q=>.inl (out++[L.map fun p=>(of p q).1])) (fun out=>(out,0)) (L:=L) (fun _ _=>True) ?_ (fun _ _ _ _ _ _ _=>trivial) ?_ (by omega) trivial]
 ·rw [bM,snoc];rfl
 ·intro i c hc out _
  obtain⟨hlt,hce⟩:=List.getElem?_eq_some_iff.1 hc
  rw [hS0,cA (by omega),cond_true,bE hc,inner out i c (List.mem_of_getElem? hc)]
  rfl
 ·intro out _
  rw [hS0,cT (by omega),cond_false]
abbrev aZ (m:ME):List PN:=m.2.map (mI m)
theorem aSl {m:ME} (h:fW m=0):bH m=(aZ m,0):=by
 rw [aSi,h];rfl
theorem aGn {m:ME} {d:Int} (h:fW m=0)(hd:0<=d/\d<=2):cC m d=((aZ m).map fun q=>(aZ m).map fun p=>(uE p q d).1,0):=by
 have hP:=aSl h
 have g:=aJ6 (S1:=eM m d) (S0:=cY m d) (bH m).1 (fun p q=>uE p q d) (by
  rw [hP];exact fun p hp q hq=>(lG (rV h hd hp hq)).1) (fun out row i j q=>rfl) (fun out i=>rfl)
 unfold cC
 show(bif ((bH m).2 != 0) then _ else _)=_
 rw [show((bH m).2 != 0)=false from by rw [hP];rfl,cond_false]
 refine Eq.trans g ?_
 rw [hP]
theorem aJ7 {m:ME} {d:Int} (h:fW m=0)(hd:0<=d/\d<=2):cJ m d=((aZ m).map fun q=>(aZ m).map fun p=>(pW p q d).1,0):=by
 have hP:=aSl h
 have g:=aJ6 (S1:=eN m d) (S0:=cZ m d) (bH m).1 (fun p q=>pW p q d) (by
  rw [hP];exact fun p hp q hq=>(rU (rV h hd hp hq)).1) (fun out row i j q=>rfl) (fun out i=>rfl)
 unfold cJ
 show(bif ((bH m).2 != 0) then _ else _)=_
 rw [show((bH m).2 != 0)=false from by rw [hP];rfl,cond_false]
 refine Eq.trans g ?_
 rw [hP]
def okC (q:List Int):Prop:=∀c∈q,0<=c/\c<=100
def aA3 (q:List Int)(v:Int):Int:=q.foldl (fun v c=>W (v+c)) v
theorem tU:∀(q:List Int) (v:Int),okC q->0<=v->v+100*(q.length:Int)<=1000000->aA3 q v=v+q.sum/\v<=v+q.sum/\v+q.sum<=v+100*(q.length:Int)
 | [],v,_,_,_=>by simp [aA3]
 | c::q,v,h,h0,h1=>by
  have hc:=h c List.mem_cons_self
  simp only [List.length_cons] at h1
  have ih:=tU q (v+c) (fun x hx=>h x (List.mem_cons_of_mem _ hx)) (by omega) (by omega)
  have e:aA3 (c::q) v=aA3 q (v+c):=by
   show aA3 q (W (v+c))=_
   rw [aF (by omega) (by omega)]
  rw [e]
  simp only [List.sum_cons,List.length_cons]
  omega
theorem qG:∀(q:List Int) (v:Int),(gG (R:=Int) (fun v c=>bif (!nZ c 0 100) then .inr 1 else .inl (W (v+c))) q v=.inr 1/\gG (σ:=Unit) (R:=Int) (fun _ c=>bif (!nZ c 0 100) then .inr 1 else .inl ()) q ()=.inr 1) \/
 (gG (R:=Int) (fun v c=>bif (!nZ c 0 100) then .inr 1 else .inl (W (v+c))) q v=.inl (aA3 q v)/\gG (σ:=Unit) (R:=Int) (fun _ c=>bif (!nZ c 0 100) then .inr 1 else .inl ()) q ()=.inl ()/\okC q)
 | [],v=>.inr ⟨rfl,rfl,fun c hc=>by simp at hc⟩
 | c::q,v=>by
  simp only [gG]
  cases hc:(!nZ c 0 100) with
  | true=>exact .inl ⟨rfl,rfl⟩
  | false =>
   simp only [cond_false]
   rcases qG q (W (v+c)) with h | ⟨h1,h2,h3⟩
   ·exact .inl h
   ·refine .inr ⟨h1,h2,fun x hx=>?_⟩
    rcases List.mem_cons.1 hx with rfl | hx
    ·exact oZ hc
    ·exact h3 x hx
theorem aO8 (q:List Int):dP q=aA3 q 0:=by
 unfold dP
 rw [aX (fun v i=>(v,i)) (fun v c=>.inl (W (v+c))) (fun v=>v) (L:=q) (fun _ _=>True) ?_ (fun _ _ _ _ _ _ _=>trivial) ?_ (by omega) trivial]
 ·rw [bM];rfl
 ·intro i c hc v _
  obtain⟨hlt,hce⟩:=List.getElem?_eq_some_iff.1 hc
  simp only [lF]
  rw [cA (by omega),cond_true,bE hc];rfl
 ·intro v _
  simp only [lF]
  rw [cT (by omega),cond_false]
theorem aSm (q:List Int):bO q=W ((W (aA3 q 0*1048576))*1048576):=by
 unfold bO
 rw [aX (fun v i=>(v,i)) (fun v c=>.inl (W (v+c))) (fun v=>W ((W (v*1048576))*1048576)) (L:=q) (fun _ _=>True) ?_ (fun _ _ _ _ _ _ _=>trivial) ?_ (by omega) trivial]
 ·rw [bM];rfl
 ·intro i c hc v _
  obtain⟨hlt,hce⟩:=List.getElem?_eq_some_iff.1 hc
  simp only [jC]
  rw [cA (by omega),cond_true,bE hc];rfl
 ·intro v _
  simp only [jC]
  rw [cT (by omega),cond_false]
noncomputable def chV (m:ME)(q:List Int):Int:=bif ((fW m:Int) != 0) then fW m else bif (((q.length:Int):Int) != (m.2.length:Int)) then 1 else
 xH (fun v=>bif (v == 0) then 11 else 0) (gG (R:=Int) (fun v c=>bif (!nZ c 0 100) then .inr 1 else .inl (W (v+c))) q 0)
theorem aXz (m:ME)(q:List Int):mK m q=chV m q:=by
 unfold mK chV
 show(bif ((fW m:Int) != 0) then fW m else _)=_
 congr 1
 congr 1
 refine aX (fun v i=>(v,i)) _ (fun v=>bif (v == 0) then 11 else 0) (L:=q) (fun _ _=>True) ?_ (fun _ _ _ _ _ _ _=>trivial) ?_ (by omega) trivial
 ·intro i c hc v _
  obtain⟨hlt,hce⟩:=List.getElem?_eq_some_iff.1 hc
  simp only [gL]
  rw [cA (by omega),cond_true,bE hc]
  cases (!nZ c 0 100)<;>rfl
 ·intro v _
  simp only [gL]
  rw [cT (by omega),cond_false]
  cases (v == 0)<;>rfl
theorem aX0 (m:ME)(q:List Int):iS m q=chV m q:=by
 unfold iS chV
 show(bif ((wW m:Int) != 0) then wW m else _)=_
 rw [←aEl]
 congr 1
 congr 1
 refine Eq.trans (aX (σ:=Unit) (fun _ i=>i) (fun _ c=>bif (!nZ c 0 100) then .inr 1 else .inl ()) (fun _=>bif (dP q == 0) then 11 else 0) (L:=q) (v:=()) (fun _ _=>True) ?_ (fun _ _ _ _ _ _ _=>trivial) ?_ (by omega) trivial) ?_
 ·intro i c hc v _
  obtain⟨hlt,hce⟩:=List.getElem?_eq_some_iff.1 hc
  simp only [fA]
  rw [cA (by omega),cond_true,bE hc,show F26 c 0 100=nZ c 0 100 from rfl]
  cases (!nZ c 0 100)<;>rfl
 ·intro v _
  simp only [fA]
  rw [cT (by omega),cond_false]
  cases (dP q == 0)<;>rfl
 ·rcases qG q 0 with⟨h1,h2⟩ | ⟨h1,h2,_⟩
  ·rw [h1,h2];rfl
  ·rw [h1,h2,aO8];rfl
structure ChOK (m:ME) (q:List Int):Prop where
 v:fW m=0
 len:q.length=m.2.length
 ok:okC q
 pos:1<=q.sum
 le:q.sum<=9600
 n:1<=m.2.length/\m.2.length<=96
 tot:aA3 q 0=q.sum
theorem aX1 {m:ME} {q:List Int} (h:chV m q=0):ChOK m q:=by
 unfold chV at h
 cases h1:((fW m:Int) != 0) with
 | true=>rw [h1,cond_true] at h;exact absurd h (bne_iff_ne.1 h1)
 | false =>
 rw [h1,cond_false] at h
 have hv:=bne_eq_false_iff_eq.1 h1
 obtain⟨_,n1,n2,_,_⟩:=eL hv
 cases h2:(((q.length:Int):Int) != (m.2.length:Int)) with
 | true=>rw [h2,cond_true] at h;exact absurd h (by decide)
 | false =>
 rw [h2,cond_false] at h
 have hl:=bne_eq_false_iff_eq.1 h2
 rcases qG q 0 with⟨g1,_⟩ | ⟨g1,_,g3⟩
 ·rw [g1] at h;exact absurd h (by decide)
 ·rw [g1] at h
  have ht:=tU q 0 g3 (Int.le_refl 0) (by omega)
  simp only [xH] at h
  have hne:aA3 q 0≠0:=by
   intro e
   rw [e] at h;exact absurd h (by decide)
  exact⟨hv,by omega,g3,by omega,by omega,⟨n1,n2⟩,by omega⟩
noncomputable def chD (m:ME)(q:List Int)(d:Int):Int:=bif (chV m q != 0) then chV m q else bif (!nZ d 0 2) then 1 else 0
theorem wX (m:ME)(q:List Int)(d:Int):eQ m q d=chD m q d:=by
 unfold eQ chD
 rw [show mK (m.1,m.2) q=chV m q from aXz m q]
theorem aO9 (m:ME)(q:List Int)(d:Int):iG m q d=chD m q d:=by
 unfold iG chD
 rw [show iS (m.1,m.2) q=chV m q from aX0 m q]
 rfl
theorem gO {m:ME} {q:List Int} {d:Int} (h:chD m q d=0):ChOK m q/\0<=d/\d<=2:=by
 unfold chD at h
 cases h1:(chV m q != 0) with
 | true=>rw [h1,cond_true] at h;exact absurd h (bne_iff_ne.1 h1)
 | false =>
 rw [h1,cond_false] at h
 cases h2:(!nZ d 0 2) with
 | true=>rw [h2,cond_true] at h;exact absurd h (by decide)
 | false=>exact⟨aX1 (bne_eq_false_iff_eq.1 h1),oZ h2⟩
theorem aJ8 {m:ME} {d:Int} {f:PN->PN->Int×Int} {T:TB} {n:Nat} (e:T=(aZ m).map fun q=>(aZ m).map fun p=>f p q)(hn:n=m.2.length):T.length=n/\∀r∈T,r.length=n:=by
 subst e hn
 refine⟨by simp,fun r hr=>?_⟩
 obtain⟨q,_,rfl⟩:=List.mem_map.1 hr
 simp
noncomputable def sC (c:(Int×Int)×Int):(Int×Int)×Int:=fE c.1 c.2
noncomputable def fJ (l:List ((Int×Int)×Int)):(Int×Int)×Int:=qM aHy (fun e=>((0,0),e)) (mU sC l [])
theorem aIp {a:Int×Int} (h:okP a):vs a:=by unfold okP at h;unfold vs;omega
theorem aQ8 {a:Int×Int} {n:Int} (ha:okP a)(hn:0<=n/\n<=10000)(h:(fE a n).2=0):n<=(fE a n).1.1/\(fE a n).1.1<=(fE a n).1.2:=by
 rw [aJs (aIp ha) (by omega)] at h ⊢
 unfold okP at ha
 have h1:=aAl ha.1 hn.1
 have h2:=aAl ha.2.1 hn.1
 have h3:mT 1 n=n:=by unfold mT;rw [Int.one_mul,if_neg (by omega),if_neg (by omega)]
 have e:scl a n=(mT a.1 n,mT a.2 n):=by unfold scl;rw [if_neg (by omega)]
 rw [e] at h ⊢
 rcases vH (mT a.1 n) (mT a.2 n) with⟨g,_⟩ | g
 ·rw [g];simp only;omega
 ·rw [g] at h;exact absurd h (by decide)
theorem aUx {c:(Int×Int)×Int} (h:(sC c).2=0):vs (sC c).1:=aGk h
theorem aJ9 {l:List ((Int×Int)×Int)} {m:List (Int×Int)} (h:mU sC l []=.inl m)(hn:l.length<=9216):(∀a∈m,vs a)/\m.length<=10000:=by
 obtain⟨e,h0⟩:=nG h
 rw [List.nil_append] at e
 subst e
 exact⟨fun a ha=>by obtain⟨c,hc,rfl⟩:=List.mem_map.1 ha;exact aUx (h0 c hc),by rw [List.length_map];omega⟩
theorem aSn {xs:List (Int×Int)} {q:List Int} (hl:xs.length<=q.length)(hn:xs.length<=9216):dA xs q=fJ (xs.zip q):=by
 have hz:(xs.zip q).length=xs.length:=by rw [List.length_zip];omega
 unfold dA fJ
 have key:=vI (g:=sC) (S:=dV xs q) (E:=fun e=>(((0,0):Int×Int),e)) (L:=xs.zip q) (G:=fun l=>((jE l).1,(jE l).2))
  (fun i c hi l=>?_) (fun l=>?_) (xs.zip q) 0 (tN ((xs.length:Int) - 0)+1) [] rfl (Nat.zero_le _) (by omega)
 ·refine Eq.trans key ?_
  cases hs:mU sC (xs.zip q) [] with
  | inr r=>rfl
  | inl m =>
   obtain⟨hv,hm⟩:=aJ9 hs (by omega)
   simp only [qM]
   rw [aWy hv hm]
 ·obtain⟨h1,h2⟩:=List.getElem?_zip_eq_some.1 hi
  have hlt:=(List.getElem?_eq_some_iff.1 h1).1
  simp only [dV]
  rw [cA (by omega),cond_true,bE h1,bE h2]
  show _=bif ((fE c.1 c.2).2 != 0) then _ else _
  cases ((fE c.1 c.2).2 != 0)<;>rfl
 ·simp only [dV]
  rw [cT (by rw [hz];omega),cond_false]
theorem aKa {l:List ((Int×Int)×Int)} (hl:∀c∈l,okP c.1/\0<=c.2/\c.2<=10000)(h:(fJ l).2=0):(l.map (·.2)).sum<=(fJ l).1.1/\(fJ l).1.1<=(fJ l).1.2/\vs (fJ l).1:=by
 unfold fJ at h ⊢
 cases hs:mU sC l [] with
 | inr r=>rw [hs] at h;exact absurd h (xY hs)
 | inl m =>
  rw [hs] at h
  simp only [qM] at h ⊢
  obtain⟨e,hv⟩:=aUg h
  rw [e]
  obtain⟨e2,h0⟩:=nG hs
  rw [List.nil_append] at e2
  refine⟨?_,hv.2.1,hv⟩
  rw [aEe,e2]
  simp only [Int.zero_add,List.map_map]
  clear hs h e hv e2
  induction l with
  | nil=>simp
  | cons c l ih =>
   have hc:=hl c List.mem_cons_self
   have:=aQ8 hc.1 hc.2 (h0 c List.mem_cons_self)
   have ih:=ih (fun x hx=>hl x (List.mem_cons_of_mem _ hx)) (fun x hx=>h0 x (List.mem_cons_of_mem _ hx))
   simp only [List.map_cons,List.sum_cons,Function.comp] at ih ⊢
   have e:(sC c).1.1=(fE c.1 c.2).1.1:=rfl
   omega
noncomputable def aA4 (T:TB)(q:List Int):List (Int×Int)×Int:=qM (fun l=>(l,0)) (fun e=>([],e)) (mU (fun r:List (Int×Int)=>fJ (r.zip q)) T [])
theorem aPa {T:TB} {q:List Int} (hr:∀r∈T,r.length<=q.length)(hm:q.length<=96):aI T q=aA4 T q:=by
 unfold aI aA4
 refine vI (g:=fun r:List (Int×Int)=>fJ (r.zip q)) (S:=dR T q) (E:=fun e=>(([]:List (Int×Int)),e)) (L:=T) (G:=fun l=>(l,0))
  (fun i c hi l=>?_) (fun l=>?_) T 0 (tN ((T.length:Int) - 0)+1) [] rfl (Nat.zero_le _) (by omega)
 ·obtain⟨hlt,hce⟩:=List.getElem?_eq_some_iff.1 hi
  have hc:=hr c (List.mem_of_getElem? hi)
  simp only [dR]
  rw [cA (by omega),cond_true,bE hi,aSn hc (by omega)]
  cases ((fJ (c.zip q)).2 != 0)<;>rfl
 ·simp only [dR]
  rw [cT (by omega),cond_false]
theorem aKb {T:TB} {q:List Int} (hT:∀r∈T,r.length=q.length/\∀s∈r,okP s)(hq:okC q)(h:(aA4 T q).2=0) :
 (aA4 T q).1.length=T.length/\∀s∈(aA4 T q).1,q.sum<=s.1/\s.1<=s.2/\vs s:=by
 unfold aA4 at h ⊢
 cases hs:mU (fun r:List (Int×Int)=>fJ (r.zip q)) T [] with
 | inr r=>rw [hs] at h;exact absurd h (xY hs)
 | inl m =>
  simp only [qM]
  obtain⟨e,h0⟩:=nG hs
  rw [List.nil_append] at e
  subst e
  refine⟨by rw [List.length_map],fun s hsm=>?_⟩
  obtain⟨r,hr,rfl⟩:=List.mem_map.1 hsm
  obtain⟨hl,hP⟩:=hT r hr
  have hp:=aKa (l:=r.zip q) (fun c hc=>⟨hP _ (List.of_mem_zip hc).1,by have:=hq _ (List.of_mem_zip hc).2;omega⟩) (h0 r hr)
  have:(r.zip q).map (·.2)=q:=List.map_snd_zip (by omega)
  rw [this] at hp
  exact hp
theorem aQ9 {m:ME} {q:List Int} {d:Int} (h:((eQ m q d:Int) != 0)=false):(∀r∈(cC m d).1,r.length<=q.length)/\(cC m d).1.length<=96/\q.length<=96:=by
 rw [wX] at h
 obtain⟨hc,hd⟩:=gO (bne_eq_false_iff_eq.1 h)
 obtain⟨h1,h2⟩:=aJ8 (d:=d) (T:=(cC m d).1) (by rw [aGn hc.v hd]) hc.len.symm.symm
 have:=hc.n;have:=hc.len
 exact⟨fun r hr=>by rw [h2 r hr];omega,by omega,by omega⟩
theorem aUy {m:ME} {q:List Int} {d:Int} (h:((eQ m q d:Int) != 0)=false):(cJ m d).1.length=q.length/\(∀r∈(cJ m d).1,r.length=q.length)/\q.length<=96:=by
 rw [wX] at h
 obtain⟨hc,hd⟩:=gO (bne_eq_false_iff_eq.1 h)
 obtain⟨h1,h2⟩:=aJ8 (d:=d) (T:=(cJ m d).1) (by rw [aJ7 hc.v hd]) hc.len
 have:=hc.n;have:=hc.len
 exact⟨h1,h2,by omega⟩
theorem eG {m:ME} {q:List Int} {d:Int} (h:((iG m q d:Int) != 0)=false):jU m m.2.length/\m.2.length<=96/\q.length=m.2.length:=by
 rw [aO9] at h
 obtain⟨hc,hd⟩:=gO (bne_eq_false_iff_eq.1 h)
 exact⟨(nI (by rw [hc.v];rfl)).1,hc.n.2,hc.len⟩
theorem aA5 (m:ME):bX m=aZ m:=by
 unfold bX
 rw [aX (fun v i=>(v,i)) (fun v c=>.inl (v++[mI m c])) (fun v=>v) (L:=m.2) (fun _ _=>True) ?_ (fun _ _ _ _ _ _ _=>trivial) ?_ (by omega) trivial]
 ·have snoc:∀(l:List P3) (v:List PN),l.foldl (fun v c=>v++[mI m c]) v=v++l.map (mI m):=by
   intro l
   induction l with
   | nil=>intro v;simp
   | cons c l ih=>intro v;rw [List.foldl_cons,ih];simp
  rw [bM,snoc];rfl
 ·intro i c hc v _
  obtain⟨hlt,hce⟩:=List.getElem?_eq_some_iff.1 hc
  simp only [tR]
  rw [cA (by omega),cond_true,bE hc]
  rfl
 ·intro v _
  simp only [tR]
  rw [cT (by omega),cond_false]
theorem aPb (m:ME):(bX m).length=m.2.length:=by rw [aA5,List.length_map]
noncomputable def aEs:Code:=(aC [1,1,1,1,1,0,1,0,1,0,1,0,1] [0] (aG Tryz.f45) []).1
noncomputable def aEt (m0:Nat):List K:=(aC [1,1,1,1,1,0,1,0,1,0,1,0,1] [m0] (aG Tryz.f45) []).2
def aA6 (a0:Zm)(a1:List Int)(a2:Int)(v10c:List SV)(v10n:Nat)(v11c:List SV)(v11n:Nat)(v12 v13:Int):LS:=⟨fU 84 [(1,(.s 2 0 a1.length 1)),(2,(iv a2)),(9,(.s 3 0 (bX (a0.1,a0.2)).length 9)),(10,(.s 4 0 v10n 2)),(11,(iv v12)),(12,(.s 5 0 v11n 2)),(13,(iv v13))],[(.live false true (flat dQ a0.1)),(.live false true (flat eE a0.2)),(.live false true (flat c3 a1)),(.live true true (flat jR (bX (a0.1,a0.2)))),(.live true true v10c),(.live true true v11c)]⟩
def dU (a0:Zm)(a1:List Int)(a2:Int):(List (Int×Int))×(List (Int×Int))×Int×Int->((List (Int×Int))×(List (Int×Int))×Int×Int)⊕(((List (Int×Int))×Int)⊕((List (Int×Int))×Int))
 | (v10,v11,v12,v13) =>
  (bif (decide ((v13:Int) < (((bX (a0.1,a0.2)).length:Nat):Int))) then
   (bif (((F79 ((bX (a0.1,a0.2)).getD (tN v13) dF) ((bX (a0.1,a0.2)).getD (tN v12) dF) a2).2:Int) != 0) then
    (.inr (.inr (([]:List (Int×Int)),(F79 ((bX (a0.1,a0.2)).getD (tN v13) dF) ((bX (a0.1,a0.2)).getD (tN v12) dF) a2).2)))
   else
    (bif (((oX (F79 ((bX (a0.1,a0.2)).getD (tN v13) dF) ((bX (a0.1,a0.2)).getD (tN v12) dF) a2).1 (a1.getD (tN v13) dF)).2:Int) != 0) then
     (.inr (.inr (([]:List (Int×Int)),(oX (F79 ((bX (a0.1,a0.2)).getD (tN v13) dF) ((bX (a0.1,a0.2)).getD (tN v12) dF) a2).1 (a1.getD (tN v13) dF)).2)))
    else
     (.inl (v10,(v11++[(oX (F79 ((bX (a0.1,a0.2)).getD (tN v13) dF) ((bX (a0.1,a0.2)).getD (tN v12) dF) a2).1 (a1.getD (tN v13) dF)).1]),v12,(v13+1)))))
  else
   (bif (((eI v11).2:Int) != 0) then
    (.inr (.inr (([]:List (Int×Int)),(eI v11).2)))
   else
    (.inr (.inl ((v10++[(eI v11).1]),(v12+1))))))
noncomputable def yA:Code:=(aC [1,1,1,1,1,0,1] [] (aG Tryz.f45) []).1
noncomputable def yB:List K:=(aC [1,1,1,1,1,0,1] [] (aG Tryz.f45) []).2
def tV (a0:Zm)(a1:List Int)(a2:Int)(v8c:List SV)(v8n:Nat)(v9:Int):LS:=⟨fU 84 [(1,(.s 2 0 a1.length 1)),(2,(iv a2)),(9,(.s 3 0 (bX (a0.1,a0.2)).length 9)),(10,(.s 4 0 v8n 2)),(11,(iv v9))],[(.live false true (flat dQ a0.1)),(.live false true (flat eE a0.2)),(.live false true (flat c3 a1)),(.live true true (flat jR (bX (a0.1,a0.2)))),(.live true true v8c)]⟩
def eA (a0:Zm)(a1:List Int)(a2:Int):(List (Int×Int))×Int->((List (Int×Int))×Int)⊕((List (Int×Int))×Int)
 | (v8,v9) =>
  (bif (decide ((v9:Int) < (((bX (a0.1,a0.2)).length:Nat):Int))) then
   (aB (dU a0 a1 a2) (tN ((((bX (a0.1,a0.2)).length:Nat):Int) - 0)+1) (v8,([]:List (Int×Int)),v9,0))
  else
   (.inr (v8,0)))
theorem aRa (a0:Zm)(a1:List Int)(a2:Int)(l0_1:a0.1.length<=2^63-1)(l0_2:a0.2.length<=2^63-1)(l1:a1.length<=2^63-1) {cx:Cx} (hcx:cx.base=3)
 (n0:Nat) (g0:∀(v8:List (Int×Int)) (v9:Int),(0<=v9)/\(v8.length=tN v9)/\(v9<=(bX (a0.1,a0.2)).length)/\((bX (a0.1,a0.2)).length=a1.length)/\(a1.length<=96)->tN ((((bX (a0.1,a0.2)).length:Nat):Int) - v9) < n0->Aw.Good Tryz.prog none 9 (bodyPost Tryz.prog Tryz.f45 (RR cx (.t [(.s 3 0 (aB (eA a0 a1 a2) n0 (v8,v9)).1.length 2),(iv (aB (eA a0 a1 a2) n0 (v8,v9)).2)]) [(.live true true (flat cM (aB (eA a0 a1 a2) n0 (v8,v9)).1))] [])) cx [] (.l yA n0::yB) (tV a0 a1 a2 (flat cM v8) v8.length v9)):∀(n:Nat) (v10:List (Int×Int)) (v11:List (Int×Int)) (v12 v13:Int),(0<=v13)/\(v11.length=tN v13)/\(v13<=(bX (a0.1,a0.2)).length)/\(v10.length=tN v12)/\(0<=v12)/\(v12 < (bX (a0.1,a0.2)).length)/\((bX (a0.1,a0.2)).length=a1.length)/\(a1.length<=96)/\((0<=v12))/\((v10.length=tN v12))/\((v12<=(bX (a0.1,a0.2)).length))/\(((bX (a0.1,a0.2)).length=a1.length))/\((a1.length<=96))/\(v12 < (((bX (a0.1,a0.2)).length:Nat):Int))/\(tN ((((bX (a0.1,a0.2)).length:Nat):Int) - v12) < n0+1)->tN ((((bX (a0.1,a0.2)).length:Nat):Int) - v13) < n->Aw.Good Tryz.prog none 9 (bodyPost Tryz.prog Tryz.f45 (RR cx (.t [(.s 3 0 (fG (eA a0 a1 a2) n0 (aB (dU a0 a1 a2) n (v10,v11,v12,v13))).1.length 2),(iv (fG (eA a0 a1 a2) n0 (aB (dU a0 a1 a2) n (v10,v11,v12,v13))).2)]) [(.live true true (flat cM (fG (eA a0 a1 a2) n0 (aB (dU a0 a1 a2) n (v10,v11,v12,v13))).1))] [])) cx [] (.l aEs n::aEt n0) (aA6 a0 a1 a2 (flat cM v10) v10.length (flat cM v11) v11.length v12 v13):=by
 intro n
 induction n with
 | zero=>intro v10 v11 v12 v13 hi hn;exact absurd hn (fZ _)
 | succ n ih =>
  intro v10 v11 v12 v13 hi hn
  refine aH ?_
  cases h0:(decide ((v13:Int) < (((bX (a0.1,a0.2)).length:Nat):Int))) with
  | true =>
   have q0:=bS h0
   let t1:List (St Tryz.prog):=[.d h0,.i v13 ((bX (a0.1,a0.2)).length),.L dT (bX (a0.1,a0.2)) v13 0 9,.i v12 ((bX (a0.1,a0.2)).length),.L dT (bX (a0.1,a0.2)) v12 0 9,.c [] (C79 ((bX (a0.1,a0.2)).getD (tN v13) dF) ((bX (a0.1,a0.2)).getD (tN v12) dF) a2)]
   cases h1:(((F79 ((bX (a0.1,a0.2)).getD (tN v13) dF) ((bX (a0.1,a0.2)).getD (tN v12) dF) a2).2:Int) != 0) with
   | true =>
    have q1:=bne_iff_ne.1 h1
    have e:=Eq.refl (dU a0 a1 a2 (v10,v11,v12,v13));conv at e=>rhs;simp only [dU,h0,h1,aJ]
    rw [aD,e]
    exact rt (t1++[.d h1]) [.slot 6 2] [7] hcx (by kernel_rfl)
   | false =>
    have q1:=bne_eq_false_iff_eq.1 h1
    let t2:List (St Tryz.prog):=(t1++[.d h1,.i v13 (a1.length),.L dH a1 v13 0 1,.c [] (C80 (F79 ((bX (a0.1,a0.2)).getD (tN v13) dF) ((bX (a0.1,a0.2)).getD (tN v12) dF) a2).1 (a1.getD (tN v13) dF))])
    cases h2:(((oX (F79 ((bX (a0.1,a0.2)).getD (tN v13) dF) ((bX (a0.1,a0.2)).getD (tN v12) dF) a2).1 (a1.getD (tN v13) dF)).2:Int) != 0) with
    | true =>
     have q2:=bne_iff_ne.1 h2
     have e:=Eq.refl (dU a0 a1 a2 (v10,v11,v12,v13));conv at e=>rhs;simp only [dU,h0,h1,h2,aJ]
     rw [aD,e]
     exact rt (t2++[.d h2]) [.slot 6 2] [7] hcx (by kernel_rfl)
    | false =>
     have q2:=bne_eq_false_iff_eq.1 h2
     have e:=Eq.refl (dU a0 a1 a2 (v10,v11,v12,v13));conv at e=>rhs;simp only [dU,h0,h1,h2,aJ]
     rw [aA e]
     refine ba (t2++[.d h2,.p (show((flat cM v11).length=v11.length*2/\v11.length+1<=2 ^ 40/\(v11.length+1)*16<=2 ^ 47) from fN bW (by omega) (by omega))]) [] [1,2,9,10,11,12,13] [3,4,8] hcx (m:=n) aEs (aEt n0) (aA6 a0 a1 a2 (flat cM v10) (v10.length) (flat cM v11++(k2 (oX (F79 ((bX (a0.1,a0.2)).getD (tN v13) dF) ((bX (a0.1,a0.2)).getD (tN v12) dF) a2).1 (a1.getD (tN v13) dF)).1)) (v11.length+1) v12 (W (v13+1))) (by kernel_rfl) ?_
     have z0:(W (v13+1))=(v13+1):=aF (by omega) (by omega)
     have z1:(flat cM v11++(k2 (oX (F79 ((bX (a0.1,a0.2)).getD (tN v13) dF) ((bX (a0.1,a0.2)).getD (tN v12) dF) a2).1 (a1.getD (tN v13) dF)).1))=(flat cM (v11++[(oX (F79 ((bX (a0.1,a0.2)).getD (tN v13) dF) ((bX (a0.1,a0.2)).getD (tN v12) dF) a2).1 (a1.getD (tN v13) dF)).1])):=(bK (c:=cM) (l:=v11) (m:=[(oX (F79 ((bX (a0.1,a0.2)).getD (tN v13) dF) ((bX (a0.1,a0.2)).getD (tN v12) dF) a2).1 (a1.getD (tN v13) dF)).1])).symm
     have z2:(v11.length+1)=(v11++[(oX (F79 ((bX (a0.1,a0.2)).getD (tN v13) dF) ((bX (a0.1,a0.2)).getD (tN v12) dF) a2).1 (a1.getD (tN v13) dF)).1]).length:=dW v11 [(oX (F79 ((bX (a0.1,a0.2)).getD (tN v13) dF) ((bX (a0.1,a0.2)).getD (tN v12) dF) a2).1 (a1.getD (tN v13) dF)).1] rfl
     rw [z0,z1,z2]
     exact ih v10 (v11++[(oX (F79 ((bX (a0.1,a0.2)).getD (tN v13) dF) ((bX (a0.1,a0.2)).getD (tN v12) dF) a2).1 (a1.getD (tN v13) dF)).1]) v12 (v13+1) (by refine⟨?_,?_,?_,?_,?_,?_,?_,?_,?_,?_,?_,?_,?_,?_,?_⟩<;>(try simp only [Ls])<;>first | omega | assumption | exact hi.2.1 | exact hi.2.2.1 | exact hi.2.2.2.1 | exact hi.2.2.2.2.1 | exact hi.2.2.2.2.2.1 | exact hi.2.2.2.2.2.2.1 | exact hi.2.2.2.2.2.2.2.1 | exact hi.2.2.2.2.2.2.2.2.1 | exact hi.2.2.2.2.2.2.2.2.2.1 | exact hi.2.2.2.2.2.2.2.2.2.2.1 | exact hi.2.2.2.2.2.2.2.2.2.2.2.1 | exact hi.2.2.2.2.2.2.2.2.2.2.2.2.1 | exact hi.2.2.2.2.2.2.2.2.2.2.2.2.2.1 | exact hi.2.2.2.2.2.2.2.2.2.2.2.2.2.2.1 | simp) (by(try simp only [Ls]);omega)
  | false =>
   have q0:=cE h0
   let t1:List (St Tryz.prog):=[.d h0,.c [5] (aR8 v11 (by omega))]
   cases h1:(((eI v11).2:Int) != 0) with
   | true =>
    have q1:=bne_iff_ne.1 h1
    have e:=Eq.refl (dU a0 a1 a2 (v10,v11,v12,v13));conv at e=>rhs;simp only [dU,h0,h1,aJ]
    rw [aD,e]
    exact rt (t1++[.d h1]) [.slot 6 2] [7] hcx (by kernel_rfl)
   | false =>
    have q1:=bne_eq_false_iff_eq.1 h1
    have e:=Eq.refl (dU a0 a1 a2 (v10,v11,v12,v13));conv at e=>rhs;simp only [dU,h0,h1,aJ]
    rw [aD,e]
    refine ba (t1++[.d h1,.p (show((flat cM v10).length=v10.length*2/\v10.length+1<=2 ^ 40/\(v10.length+1)*16<=2 ^ 47) from fN bW (by omega) (by omega))]) [] [1,2,9,10,11] [3,8] hcx (m:=n0) yA (yB) (tV a0 a1 a2 (flat cM v10++(k2 (eI v11).1)) (v10.length+1) (W (v12+1))) (by kernel_rfl) ?_
    have z0:(W (v12+1))=(v12+1):=aF (by omega) (by omega)
    have z1:(flat cM v10++(k2 (eI v11).1))=(flat cM (v10++[(eI v11).1])):=(bK (c:=cM) (l:=v10) (m:=[(eI v11).1])).symm
    have z2:(v10.length+1)=(v10++[(eI v11).1]).length:=dW v10 [(eI v11).1] rfl
    rw [z0,z1,z2]
    exact g0 (v10++[(eI v11).1]) (v12+1) (by refine⟨?_,?_,?_,?_,?_⟩<;>(try simp only [Ls])<;>first | omega | assumption | simp) (by(try simp only [Ls]);omega)
theorem aRb (a0:Zm)(a1:List Int)(a2:Int)(l0_1:a0.1.length<=2^63-1)(l0_2:a0.2.length<=2^63-1)(l1:a1.length<=2^63-1) {cx:Cx} (hcx:cx.base=3):∀(n:Nat) (v8:List (Int×Int)) (v9:Int),(0<=v9)/\(v8.length=tN v9)/\(v9<=(bX (a0.1,a0.2)).length)/\((bX (a0.1,a0.2)).length=a1.length)/\(a1.length<=96)->tN ((((bX (a0.1,a0.2)).length:Nat):Int) - v9) < n->Aw.Good Tryz.prog none 9 (bodyPost Tryz.prog Tryz.f45 (RR cx (.t [(.s 3 0 (aB (eA a0 a1 a2) n (v8,v9)).1.length 2),(iv (aB (eA a0 a1 a2) n (v8,v9)).2)]) [(.live true true (flat cM (aB (eA a0 a1 a2) n (v8,v9)).1))] [])) cx [] (.l yA n::yB) (tV a0 a1 a2 (flat cM v8) v8.length v9):=by
 intro n
 induction n with
 | zero=>intro v8 v9 hi hn;exact absurd hn (fZ _)
 | succ n ih =>
  intro v8 v9 hi hn
  refine aH ?_
  cases h0:(decide ((v9:Int) < (((bX (a0.1,a0.2)).length:Nat):Int))) with
  | true =>
   have q0:=bS h0
   have e:=Eq.refl (eA a0 a1 a2 (v8,v9));conv at e=>rhs;simp only [eA,h0,aJ]
   rw [aD,e]
   refine en [.d h0] [.slot 12 2] [1,2,9,10,11,12,13] [3,4,5] hcx aEs (aEt n) (aA6 a0 a1 a2 (flat cM v8) (v8.length) (flat cM ([]:List (Int×Int))) 0 v9 0) (tN ((((bX (a0.1,a0.2)).length:Nat):Int) - 0)+1) (by kernel_rfl) ?_
   exact aRa a0 a1 a2 l0_1 l0_2 l1 hcx n ih (tN ((((bX (a0.1,a0.2)).length:Nat):Int) - 0)+1) v8 ([]:List (Int×Int)) v9 0 (by refine⟨?_,?_,?_,?_,?_,?_,?_,?_,?_,?_,?_,?_,?_,?_,?_⟩<;>(try simp only [Ls])<;>first | omega | assumption | exact hi.2.1 | exact hi.2.2.1 | exact hi.2.2.2.1 | exact hi.2.2.2.2.1 | exact hi.2.2.2.2.2.1 | exact hi.2.2.2.2.2.2.1 | exact hi.2.2.2.2.2.2.2.1 | exact hi.2.2.2.2.2.2.2.2.1 | exact hi.2.2.2.2.2.2.2.2.2.1 | exact hi.2.2.2.2.2.2.2.2.2.2.1 | exact hi.2.2.2.2.2.2.2.2.2.2.2.1 | exact hi.2.2.2.2.2.2.2.2.2.2.2.2.1 | exact hi.2.2.2.2.2.2.2.2.2.2.2.2.2.1 | exact hi.2.2.2.2.2.2.2.2.2.2.2.2.2.2.1 | simp) (by(try simp only [Ls]);omega)
  | false =>
   have q0:=cE h0
   have e:=Eq.refl (eA a0 a1 a2 (v8,v9));conv at e=>rhs;simp only [eA,h0,aJ]
   rw [aD,e]
   exact rt [.d h0] [] [4] hcx (by kernel_rfl)
def bD (a0:Zm)(a1:List Int)(a2:Int):(List (Int×Int))×Int :=
 (bif (((iG (a0.1,a0.2) a1 a2):Int) != 0) then
  (([]:List (Int×Int)),(iG (a0.1,a0.2) a1 a2))
 else
  (aB (eA a0 a1 a2) (tN ((((bX (a0.1,a0.2)).length:Nat):Int) - 0)+1) (([]:List (Int×Int)),0)))
theorem aSo (a0:Zm)(a1:List Int)(a2:Int)(l0_1:a0.1.length<=2^63-1)(l0_2:a0.2.length<=2^63-1)(l1:a1.length<=2^63-1):Con Tryz.prog 45 [(.a [(.s 0 0 a0.1.length 3),(.s 1 0 a0.2.length 3)]),(.s 2 0 a1.length 1),(iv a2)] [(.live false true (flat dQ a0.1)),(.live false true (flat eE a0.2)),(.live false true (flat c3 a1))] (.t [(.s 3 0 (bD a0 a1 a2).1.length 2),(iv (bD a0 a1 a2).2)]) [(.live true true (flat cM (bD a0 a1 a2).1))]:=by
 refine aK Tryz.func45 (by kernel_rfl) fun cx hcx=>?_
 try have hg1:a0.2.length<=96:=(eG h0).2.1
 try have hg2:a1.length=a0.2.length:=(eG h0).2.2
 have hg3:(bX (a0.1,a0.2)).length=a0.2.length:=aPb (a0.1,a0.2)
 let t0:List (St Tryz.prog):=[.c [0,1,2] (aSk (a0.1,a0.2) a1 a2 (by(try simp only [Lt]);omega) (by(try simp only [Lt]);omega) (by omega))]
 cases h0:(((iG (a0.1,a0.2) a1 a2):Int) != 0) with
 | true =>
  have q0:=bne_iff_ne.1 h0
  try have hg1:a0.2.length<=96:=(eG h0).2.1
  try have hg2:a1.length=a0.2.length:=(eG h0).2.2
  have e:=Eq.refl (bD a0 a1 a2);conv at e=>rhs;simp only [bD,h0,aJ]
  rw [e]
  exact rt (t0++[.d h0]) [.slot 6 2] [4] hcx (by kernel_rfl)
 | false =>
  have q0:=bne_eq_false_iff_eq.1 h0
  try have hg1:a0.2.length<=96:=(eG h0).2.1
  try have hg2:a1.length=a0.2.length:=(eG h0).2.2
  have e:=Eq.refl (bD a0 a1 a2);conv at e=>rhs;simp only [bD,h0,aJ]
  rw [e]
  refine en (t0++[.d h0,.c [0,1] (C78 (a0.1,a0.2) (by(try simp only [Lt]);omega) (by(try simp only [Lt]);omega) (eG h0).1 (eG h0).2.1)]) [.slot 10 2] [1,2,9,10,11] [4,5] hcx yA (yB) (tV a0 a1 a2 (flat cM ([]:List (Int×Int))) 0 0) (tN ((((bX (a0.1,a0.2)).length:Nat):Int) - 0)+1) (by kernel_rfl) ?_
  exact aRb a0 a1 a2 l0_1 l0_2 l1 hcx (tN ((((bX (a0.1,a0.2)).length:Nat):Int) - 0)+1) ([]:List (Int×Int)) 0 (by refine⟨?_,?_,?_,?_,?_⟩<;>(try simp only [Ls])<;>first | omega | assumption | simp) (by(try simp only [Ls]);omega)
noncomputable def aEu:Code:=(aC [1,1,1,1,1,0,1,0,1,0,1] [0] (aG Tryz.f48) []).1
noncomputable def aEv (m0:Nat):List K:=(aC [1,1,1,1,1,0,1,0,1,0,1] [m0] (aG Tryz.f48) []).2
def aA7 (a0:Zm)(a1:List Int)(a2:Int)(v9c:List SV)(v9n:Nat)(v10 v11:Int):LS:=⟨fU 80 [(1,(.s 2 0 a1.length 1)),(2,(iv a2)),(6,(.p 3 0)),(9,(.s 4 0 (bX (a0.1,a0.2)).length 9)),(10,(.s 5 0 v9n 2)),(11,(iv v10)),(12,(iv v11))],[(.live false true (flat dQ a0.1)),(.live false true (flat eE a0.2)),(.live false true (flat c3 a1)),(.live true false [(iv 0),(iv 0)]),(.live true true (flat jR (bX (a0.1,a0.2)))),(.live true true v9c)]⟩
def eT (a0:Zm)(a1:List Int)(a2:Int):(List (Int×Int))×Int×Int->((List (Int×Int))×Int×Int)⊕(((List (Int×Int))×Int)⊕((Int×Int)×Int))
 | (v9,v10,v11) =>
  (bif (decide ((v11:Int) < (((bX (a0.1,a0.2)).length:Nat):Int))) then
   (bif (((xW ((bX (a0.1,a0.2)).getD (tN v10) dF) ((bX (a0.1,a0.2)).getD (tN v11) dF) a2).2:Int) != 0) then
    (.inr (.inr ((0,0),(xW ((bX (a0.1,a0.2)).getD (tN v10) dF) ((bX (a0.1,a0.2)).getD (tN v11) dF) a2).2)))
   else
    (bif (((oX (xW ((bX (a0.1,a0.2)).getD (tN v10) dF) ((bX (a0.1,a0.2)).getD (tN v11) dF) a2).1 (W ((a1.getD (tN v10) dF)*(a1.getD (tN v11) dF)))).2:Int) != 0) then
     (.inr (.inr ((0,0),(oX (xW ((bX (a0.1,a0.2)).getD (tN v10) dF) ((bX (a0.1,a0.2)).getD (tN v11) dF) a2).1 (W ((a1.getD (tN v10) dF)*(a1.getD (tN v11) dF)))).2)))
    else
     (.inl ((v9++[(oX (xW ((bX (a0.1,a0.2)).getD (tN v10) dF) ((bX (a0.1,a0.2)).getD (tN v11) dF) a2).1 (W ((a1.getD (tN v10) dF)*(a1.getD (tN v11) dF)))).1]),v10,(v11+1)))))
  else
   (.inr (.inl (v9,(v10+1)))))
noncomputable def yC:Code:=(aC [1,1,1,1,1,0,1] [] (aG Tryz.f48) []).1
noncomputable def yD:List K:=(aC [1,1,1,1,1,0,1] [] (aG Tryz.f48) []).2
def tW (a0:Zm)(a1:List Int)(a2:Int)(v7c:List SV)(v7n:Nat)(v8:Int):LS:=⟨fU 80 [(1,(.s 2 0 a1.length 1)),(2,(iv a2)),(6,(.p 3 0)),(9,(.s 4 0 (bX (a0.1,a0.2)).length 9)),(10,(.s 5 0 v7n 2)),(11,(iv v8))],[(.live false true (flat dQ a0.1)),(.live false true (flat eE a0.2)),(.live false true (flat c3 a1)),(.live true false [(iv 0),(iv 0)]),(.live true true (flat jR (bX (a0.1,a0.2)))),(.live true true v7c)]⟩
def fH (a0:Zm)(a1:List Int)(a2:Int):(List (Int×Int))×Int->((List (Int×Int))×Int)⊕((Int×Int)×Int)
 | (v7,v8) =>
  (bif (decide ((v8:Int) < (((bX (a0.1,a0.2)).length:Nat):Int))) then
   (aB (eT a0 a1 a2) (tN ((((bX (a0.1,a0.2)).length:Nat):Int) - 0)+1) (v7,v8,0))
  else
   (.inr ((eI v7).1,(eI v7).2)))
theorem aRc (a0:Zm)(a1:List Int)(a2:Int)(l0_1:a0.1.length<=2^63-1)(l0_2:a0.2.length<=2^63-1)(l1:a1.length<=2^63-1) {cx:Cx} (hcx:cx.base=3)
 (n0:Nat) (g0:∀(v7:List (Int×Int)) (v8:Int),(0<=v8)/\(v7.length<=96*tN v8)/\(v8<=(bX (a0.1,a0.2)).length)/\((bX (a0.1,a0.2)).length=a1.length)/\(a1.length<=96)->tN ((((bX (a0.1,a0.2)).length:Nat):Int) - v8) < n0->Aw.Good Tryz.prog none 9 (bodyPost Tryz.prog Tryz.f48 (RR cx (.t [(.a (k2 (aB (fH a0 a1 a2) n0 (v7,v8)).1)),(iv (aB (fH a0 a1 a2) n0 (v7,v8)).2)]) [] [])) cx [] (.l yC n0::yD) (tW a0 a1 a2 (flat cM v7) v7.length v8)):∀(n:Nat) (v9:List (Int×Int)) (v10 v11:Int),(0<=v11)/\(v9.length<=96*tN v10+tN v11)/\(0<=v10)/\(v10 < (bX (a0.1,a0.2)).length)/\(v11<=(bX (a0.1,a0.2)).length)/\((bX (a0.1,a0.2)).length=a1.length)/\(a1.length<=96)/\((0<=v10))/\((v10<=(bX (a0.1,a0.2)).length))/\(((bX (a0.1,a0.2)).length=a1.length))/\((a1.length<=96))/\(v10 < (((bX (a0.1,a0.2)).length:Nat):Int))/\(tN ((((bX (a0.1,a0.2)).length:Nat):Int) - v10) < n0+1)->tN ((((bX (a0.1,a0.2)).length:Nat):Int) - v11) < n->Aw.Good Tryz.prog none 9 (bodyPost Tryz.prog Tryz.f48 (RR cx (.t [(.a (k2 (fG (fH a0 a1 a2) n0 (aB (eT a0 a1 a2) n (v9,v10,v11))).1)),(iv (fG (fH a0 a1 a2) n0 (aB (eT a0 a1 a2) n (v9,v10,v11))).2)]) [] [])) cx [] (.l aEu n::aEv n0) (aA7 a0 a1 a2 (flat cM v9) v9.length v10 v11):=by
 intro n
 induction n with
 | zero=>intro v9 v10 v11 hi hn;exact absurd hn (fZ _)
 | succ n ih =>
  intro v9 v10 v11 hi hn
  refine aH ?_
  cases h0:(decide ((v11:Int) < (((bX (a0.1,a0.2)).length:Nat):Int))) with
  | true =>
   have q0:=bS h0
   let t1:List (St Tryz.prog):=[.d h0,.i v10 ((bX (a0.1,a0.2)).length),.L dT (bX (a0.1,a0.2)) v10 0 9,.i v11 ((bX (a0.1,a0.2)).length),.L dT (bX (a0.1,a0.2)) v11 0 9,.c [] (C82 ((bX (a0.1,a0.2)).getD (tN v10) dF) ((bX (a0.1,a0.2)).getD (tN v11) dF) a2)]
   cases h1:(((xW ((bX (a0.1,a0.2)).getD (tN v10) dF) ((bX (a0.1,a0.2)).getD (tN v11) dF) a2).2:Int) != 0) with
   | true =>
    have q1:=bne_iff_ne.1 h1
    have e:=Eq.refl (eT a0 a1 a2 (v9,v10,v11));conv at e=>rhs;simp only [eT,h0,h1,aJ]
    rw [aD,e]
    exact rt (t1++[.d h1]) [] [] hcx (by kernel_rfl)
   | false =>
    have q1:=bne_eq_false_iff_eq.1 h1
    let t2:List (St Tryz.prog):=(t1++[.d h1,.i v10 (a1.length),.L dH a1 v10 0 1,.i v11 (a1.length),.L dH a1 v11 0 1,.c [] (C80 (xW ((bX (a0.1,a0.2)).getD (tN v10) dF) ((bX (a0.1,a0.2)).getD (tN v11) dF) a2).1 (W ((a1.getD (tN v10) dF)*(a1.getD (tN v11) dF))))])
    cases h2:(((oX (xW ((bX (a0.1,a0.2)).getD (tN v10) dF) ((bX (a0.1,a0.2)).getD (tN v11) dF) a2).1 (W ((a1.getD (tN v10) dF)*(a1.getD (tN v11) dF)))).2:Int) != 0) with
    | true =>
     have q2:=bne_iff_ne.1 h2
     have e:=Eq.refl (eT a0 a1 a2 (v9,v10,v11));conv at e=>rhs;simp only [eT,h0,h1,h2,aJ]
     rw [aD,e]
     exact rt (t2++[.d h2]) [] [] hcx (by kernel_rfl)
    | false =>
     have q2:=bne_eq_false_iff_eq.1 h2
     have e:=Eq.refl (eT a0 a1 a2 (v9,v10,v11));conv at e=>rhs;simp only [eT,h0,h1,h2,aJ]
     rw [aA e]
     refine ba (t2++[.d h2,.p (show((flat cM v9).length=v9.length*2/\v9.length+1<=2 ^ 40/\(v9.length+1)*16<=2 ^ 47) from fN bW (by omega) (by omega))]) [] [1,2,6,9,10,11,12] [3,4,8] hcx (m:=n) aEu (aEv n0) (aA7 a0 a1 a2 (flat cM v9++(k2 (oX (xW ((bX (a0.1,a0.2)).getD (tN v10) dF) ((bX (a0.1,a0.2)).getD (tN v11) dF) a2).1 (W ((a1.getD (tN v10) dF)*(a1.getD (tN v11) dF)))).1)) (v9.length+1) v10 (W (v11+1))) (by kernel_rfl) ?_
     have z0:(W (v11+1))=(v11+1):=aF (by omega) (by omega)
     have z1:(flat cM v9++(k2 (oX (xW ((bX (a0.1,a0.2)).getD (tN v10) dF) ((bX (a0.1,a0.2)).getD (tN v11) dF) a2).1 (W ((a1.getD (tN v10) dF)*(a1.getD (tN v11) dF)))).1))=(flat cM (v9++[(oX (xW ((bX (a0.1,a0.2)).getD (tN v10) dF) ((bX (a0.1,a0.2)).getD (tN v11) dF) a2).1 (W ((a1.getD (tN v10) dF)*(a1.getD (tN v11) dF)))).1])):=(bK (c:=cM) (l:=v9) (m:=[(oX (xW ((bX (a0.1,a0.2)).getD (tN v10) dF) ((bX (a0.1,a0.2)).getD (tN v11) dF) a2).1 (W ((a1.getD (tN v10) dF)*(a1.getD (tN v11) dF)))).1])).symm
     have z2:(v9.length+1)=(v9++[(oX (xW ((bX (a0.1,a0.2)).getD (tN v10) dF) ((bX (a0.1,a0.2)).getD (tN v11) dF) a2).1 (W ((a1.getD (tN v10) dF)*(a1.getD (tN v11) dF)))).1]).length:=dW v9 [(oX (xW ((bX (a0.1,a0.2)).getD (tN v10) dF) ((bX (a0.1,a0.2)).getD (tN v11) dF) a2).1 (W ((a1.getD (tN v10) dF)*(a1.getD (tN v11) dF)))).1] rfl
     rw [z0,z1,z2]
     exact ih (v9++[(oX (xW ((bX (a0.1,a0.2)).getD (tN v10) dF) ((bX (a0.1,a0.2)).getD (tN v11) dF) a2).1 (W ((a1.getD (tN v10) dF)*(a1.getD (tN v11) dF)))).1]) v10 (v11+1) (by refine⟨?_,?_,?_,?_,?_,?_,?_,?_,?_,?_,?_,?_,?_⟩<;>(try simp only [Ls])<;>first | omega | assumption | exact hi.2.1 | exact hi.2.2.1 | exact hi.2.2.2.1 | exact hi.2.2.2.2.1 | exact hi.2.2.2.2.2.1 | exact hi.2.2.2.2.2.2.1 | exact hi.2.2.2.2.2.2.2.1 | exact hi.2.2.2.2.2.2.2.2.1 | exact hi.2.2.2.2.2.2.2.2.2.1 | exact hi.2.2.2.2.2.2.2.2.2.2.1 | exact hi.2.2.2.2.2.2.2.2.2.2.2.1 | exact hi.2.2.2.2.2.2.2.2.2.2.2.2.1 | simp) (by(try simp only [Ls]);omega)
  | false =>
   have q0:=cE h0
   have e:=Eq.refl (eT a0 a1 a2 (v9,v10,v11));conv at e=>rhs;simp only [eT,h0,aJ]
   rw [aD,e]
   refine ba [.d h0] [] [1,2,6,9,10,11] [3,4,5] hcx (m:=n0) yC (yD) (tW a0 a1 a2 (flat cM v9) (v9.length) (W (v10+1))) (by kernel_rfl) ?_
   have z0:(W (v10+1))=(v10+1):=aF (by omega) (by omega)
   rw [z0]
   exact g0 v9 (v10+1) (by refine⟨?_,?_,?_,?_,?_⟩<;>(try simp only [Ls])<;>first | omega | assumption | simp) (by(try simp only [Ls]);omega)
theorem aRd (a0:Zm)(a1:List Int)(a2:Int)(l0_1:a0.1.length<=2^63-1)(l0_2:a0.2.length<=2^63-1)(l1:a1.length<=2^63-1) {cx:Cx} (hcx:cx.base=3):∀(n:Nat) (v7:List (Int×Int)) (v8:Int),(0<=v8)/\(v7.length<=96*tN v8)/\(v8<=(bX (a0.1,a0.2)).length)/\((bX (a0.1,a0.2)).length=a1.length)/\(a1.length<=96)->tN ((((bX (a0.1,a0.2)).length:Nat):Int) - v8) < n->Aw.Good Tryz.prog none 9 (bodyPost Tryz.prog Tryz.f48 (RR cx (.t [(.a (k2 (aB (fH a0 a1 a2) n (v7,v8)).1)),(iv (aB (fH a0 a1 a2) n (v7,v8)).2)]) [] [])) cx [] (.l yC n::yD) (tW a0 a1 a2 (flat cM v7) v7.length v8):=by
 intro n
 induction n with
 | zero=>intro v7 v8 hi hn;exact absurd hn (fZ _)
 | succ n ih =>
  intro v7 v8 hi hn
  refine aH ?_
  cases h0:(decide ((v8:Int) < (((bX (a0.1,a0.2)).length:Nat):Int))) with
  | true =>
   have q0:=bS h0
   have e:=Eq.refl (fH a0 a1 a2 (v7,v8));conv at e=>rhs;simp only [fH,h0,aJ]
   rw [aD,e]
   refine en [.d h0] [] [1,2,6,9,10,11,12] [3,4,5] hcx aEu (aEv n) (aA7 a0 a1 a2 (flat cM v7) (v7.length) v8 0) (tN ((((bX (a0.1,a0.2)).length:Nat):Int) - 0)+1) (by kernel_rfl) ?_
   exact aRc a0 a1 a2 l0_1 l0_2 l1 hcx n ih (tN ((((bX (a0.1,a0.2)).length:Nat):Int) - 0)+1) v7 v8 0 (by refine⟨?_,?_,?_,?_,?_,?_,?_,?_,?_,?_,?_,?_,?_⟩<;>(try simp only [Ls])<;>first | omega | assumption | exact hi.2.1 | exact hi.2.2.1 | exact hi.2.2.2.1 | exact hi.2.2.2.2.1 | exact hi.2.2.2.2.2.1 | exact hi.2.2.2.2.2.2.1 | exact hi.2.2.2.2.2.2.2.1 | exact hi.2.2.2.2.2.2.2.2.1 | exact hi.2.2.2.2.2.2.2.2.2.1 | exact hi.2.2.2.2.2.2.2.2.2.2.1 | exact hi.2.2.2.2.2.2.2.2.2.2.2.1 | exact hi.2.2.2.2.2.2.2.2.2.2.2.2.1 | simp) (by(try simp only [Ls]);omega)
  | false =>
   have q0:=cE h0
   have e:=Eq.refl (fH a0 a1 a2 (v7,v8));conv at e=>rhs;simp only [fH,h0,aJ]
   rw [aD,e]
   exact rt [.d h0,.c [5] (aR8 v7 (by omega))] [] [] hcx (by kernel_rfl)
def jD (a0:Zm)(a1:List Int)(a2:Int):(Int×Int)×Int :=
 (bif (((iG (a0.1,a0.2) a1 a2):Int) != 0) then
  ((0,0),(iG (a0.1,a0.2) a1 a2))
 else
  (aB (fH a0 a1 a2) (tN ((((bX (a0.1,a0.2)).length:Nat):Int) - 0)+1) (([]:List (Int×Int)),0)))
theorem aX2 (a0:Zm)(a1:List Int)(a2:Int)(l0_1:a0.1.length<=2^63-1)(l0_2:a0.2.length<=2^63-1)(l1:a1.length<=2^63-1):Con Tryz.prog 48 [(.a [(.s 0 0 a0.1.length 3),(.s 1 0 a0.2.length 3)]),(.s 2 0 a1.length 1),(iv a2)] [(.live false true (flat dQ a0.1)),(.live false true (flat eE a0.2)),(.live false true (flat c3 a1))] (.t [(.a (k2 (jD a0 a1 a2).1)),(iv (jD a0 a1 a2).2)]) []:=by
 refine aK Tryz.func48 (by kernel_rfl) fun cx hcx=>?_
 try have hg1:a0.2.length<=96:=(eG h0).2.1
 try have hg2:a1.length=a0.2.length:=(eG h0).2.2
 have hg3:(bX (a0.1,a0.2)).length=a0.2.length:=aPb (a0.1,a0.2)
 let t0:List (St Tryz.prog):=[.c [0,1,2] (aSk (a0.1,a0.2) a1 a2 (by(try simp only [Lt]);omega) (by(try simp only [Lt]);omega) (by omega))]
 cases h0:(((iG (a0.1,a0.2) a1 a2):Int) != 0) with
 | true =>
  have q0:=bne_iff_ne.1 h0
  try have hg1:a0.2.length<=96:=(eG h0).2.1
  try have hg2:a1.length=a0.2.length:=(eG h0).2.2
  have e:=Eq.refl (jD a0 a1 a2);conv at e=>rhs;simp only [jD,h0,aJ]
  rw [e]
  exact rt (t0++[.d h0]) [] [] hcx (by kernel_rfl)
 | false =>
  have q0:=bne_eq_false_iff_eq.1 h0
  try have hg1:a0.2.length<=96:=(eG h0).2.1
  try have hg2:a1.length=a0.2.length:=(eG h0).2.2
  have e:=Eq.refl (jD a0 a1 a2);conv at e=>rhs;simp only [jD,h0,aJ]
  rw [e]
  refine en (t0++[.d h0,.c [0,1] (C78 (a0.1,a0.2) (by(try simp only [Lt]);omega) (by(try simp only [Lt]);omega) (eG h0).1 (eG h0).2.1)]) [.slot 10 2] [1,2,6,9,10,11] [4,5,6] hcx yC (yD) (tW a0 a1 a2 (flat cM ([]:List (Int×Int))) 0 0) (tN ((((bX (a0.1,a0.2)).length:Nat):Int) - 0)+1) (by kernel_rfl) ?_
  exact aRd a0 a1 a2 l0_1 l0_2 l1 hcx (tN ((((bX (a0.1,a0.2)).length:Nat):Int) - 0)+1) ([]:List (Int×Int)) 0 (by refine⟨?_,?_,?_,?_,?_⟩<;>(try simp only [Ls])<;>first | omega | assumption | simp) (by(try simp only [Ls]);omega)
theorem qH {α β R:Type} {g:α->β×Int} {E:Int->R}:∀(l:List α) (t:List β),gG (fun t c=>bif ((g c).2 != 0) then .inr (E (g c).2) else .inl (t++[(g c).1])) l t=(match mU g l t with | .inl m=>.inl m | .inr e=>.inr (E e))
 | [],t=>rfl
 | c::l,t=>by
  unfold mU
  simp only [gG]
  by_cases h:(g c).2=0
  ·rw [if_pos h,h]
   exact qH l (t++[(g c).1])
  ·rw [if_neg h,bne_iff_ne.2 h];rfl
theorem tX {α β γ:Type} {g:α->β×Int} {g':γ->β×Int} {f:γ->α}:∀{k:List γ} {m:List β},(∀c∈k,g (f c)=g' c)->mU g (k.map f) m=mU g' k m
 | [],_,_=>rfl
 | c::k,m,h=>by
  simp only [List.map_cons,mU]
  rw [h c List.mem_cons_self,tX (k:=k) (fun x hx=>h x (List.mem_cons_of_mem _ hx))]
noncomputable def kT (m:ME)(d:Int)(pj:PN):List (Int×Int):=(aZ m).map fun p=>(uE p pj d).1
theorem aSp {α β γ:Type} (f:α->γ):∀(l:List α) (k:List β),(l.map f).zip k=(l.zip k).map (fun c=>(f c.1,c.2))
 | [],_=>by simp
 | _::_,[]=>by simp
 | a::l,b::k=>by simp [aSp f l k]
theorem aGo {a:Int×Int} {n:Int} (ha:okP a)(hn:0<=n/\n<=10000):oX a n=fE a n:=by
 rw [aJs (aIp ha) (by omega),aQr (aIp ha) (by omega)]
theorem aUz {m:ME} {q:List Int} {d:Int} (hc:ChOK m q)(hd:0<=d/\d<=2)(out:List (Int×Int))(j:Nat) {pj:PN} (hj:(aZ m)[j]? = some pj) :
 aB (dU m q d) (tN ((((aZ m).length:Nat):Int) - 0)+1) (out,[],(j:Int),0) =
  bif ((fJ ((kT m d pj).zip q)).2 != 0) then .inr ([],(fJ ((kT m d pj).zip q)).2) else .inl (out++[(fJ ((kT m d pj).zip q)).1],(j:Int)+1):=by
 have hR:bX (m.1,m.2)=aZ m:=aA5 m
 have hpl:(aZ m).length=m.2.length:=List.length_map _
 have hlen:=hc.len
 have hz:((aZ m).zip q).length=(aZ m).length:=by rw [List.length_zip];omega
 have hpj:=List.mem_of_getElem? hj
 have hn:=hc.n
 let g:PN×Int->(Int×Int)×Int:=fun c=>fE (uE c.1 pj d).1 c.2
 have key:=aX (S:=dU m q d) (fun terms i=>(out,terms,(j:Int),i)) (fun t c=>bif ((g c).2 != 0) then .inr (.inr ([],(g c).2)) else .inl (t++[(g c).1]))
  (fun terms=>bif ((eI terms).2 != 0) then .inr ([],(eI terms).2) else .inl (out++[(eI terms).1],(j:Int)+1)) (L:=(aZ m).zip q) (v:=[]) (n:=tN ((((aZ m).length:Nat):Int) - 0)+1) (fun _ _=>True) ?_ (fun _ _ _ _ _ _ _=>trivial) ?_ (by omega) trivial
 ·refine Eq.trans key ?_
  rw [qH (g:=g) (E:=fun e=>(Sum.inr (([]:List (Int×Int)),e):(List (Int×Int)×Int)⊕(List (Int×Int)×Int))) ((aZ m).zip q) []]
  have e:fJ ((kT m d pj).zip q)=qM aHy (fun e=>((0,0),e)) (mU g ((aZ m).zip q) []):=by
   unfold fJ kT
   rw [aSp,tX (g:=sC) (g':=g) (f:=fun c:PN×Int=>((uE c.1 pj d).1,c.2)) (fun c _=>rfl)]
  rw [e]
  cases hs:mU g ((aZ m).zip q) [] with
  | inr r =>
   have:=xY hs
   simp only [xH,qM]
   rw [bne_iff_ne.2 this];rfl
  | inl t =>
   simp only [xH,qM]
   obtain⟨e2,h0⟩:=nG hs
   rw [List.nil_append] at e2
   have hS:=aSh (l:=t) (fun a ha=>by
    rw [e2] at ha
    obtain⟨c,hcm,rfl⟩:=List.mem_map.1 ha
    exact aGk (h0 c hcm)) (by rw [e2,List.length_map];omega)
   rw [hS]
 ·intro i c hi terms _
  obtain⟨h1,h2⟩:=List.getElem?_zip_eq_some.1 hi
  have hlt:=(List.getElem?_eq_some_iff.1 h1).1
  have hcp:=List.mem_of_getElem? h1
  have hcq:=hc.ok _ (List.mem_of_getElem? h2)
  obtain⟨b0,bP⟩:=lG (rV hc.v hd hcp hpj)
  simp only [dU]
  rw [hR,cA (by omega),cond_true,bE h1,bE h2,bE hj,←aHu,b0,aGo bP (by omega)]
  show(bif ((g c).2 != 0) then _ else _)=_
  cases ((g c).2 != 0)<;>rfl
 ·intro terms _
  simp only [dU]
  rw [hR,cT (by omega),cond_false]
  cases ((eI terms).2 != 0)<;>rfl
noncomputable def iF (m:ME)(q:List Int)(d:Int):List (Int×Int)×Int:=bif (chD m q d != 0) then([],chD m q d) else aA4 ((aZ m).map (kT m d)) q
theorem qX (m:ME)(q:List Int)(d:Int):bD m q d=iF m q d:=by
 unfold bD iF
 rw [show iG (m.1,m.2) q d=chD m q d from aO9 m q d]
 cases h:(chD m q d != 0) with
 | true=>rfl
 | false =>
  obtain⟨hc,hd⟩:=gO (bne_eq_false_iff_eq.1 h)
  have hR:bX (m.1,m.2)=aZ m:=aA5 m
  rw [hR,cond_false,cond_false]
  have key:=aX (S:=eA m q d) (fun out j=>(out,j)) (fun out pj=>bif ((fJ ((kT m d pj).zip q)).2 != 0) then .inr ([],(fJ ((kT m d pj).zip q)).2) else .inl (out++[(fJ ((kT m d pj).zip q)).1])) (fun out=>(out,0)) (L:=aZ m) (v:=[]) (n:=tN ((((aZ m).length:Nat):Int) - 0)+1) (fun _ _=>True) ?_ (fun _ _ _ _ _ _ _=>trivial) ?_ (by omega) trivial
  ·refine Eq.trans key ?_
   rw [qH (g:=fun pj=>fJ ((kT m d pj).zip q)) (E:=fun e=>([],e)) (aZ m) []]
   unfold aA4
   rw [tX (g:=fun r:List (Int×Int)=>fJ (r.zip q)) (g':=fun pj=>fJ ((kT m d pj).zip q)) (fun c _=>rfl)]
   cases mU (fun pj=>fJ ((kT m d pj).zip q)) (aZ m) []<;>rfl
  ·intro j pj hj out _
   obtain⟨hlt,hce⟩:=List.getElem?_eq_some_iff.1 hj
   simp only [eA]
   rw [hR,cA (by omega),cond_true,aUz hc hd out j hj]
   cases ((fJ ((kT m d pj).zip q)).2 != 0)<;>rfl
  ·intro out _
   simp only [eA]
   rw [hR,cT (by omega),cond_false]
theorem aKc {α β:Type} {g:α->β×Int}:∀{k k':List α} {m:List β},mU g (k++k') m=(match mU g k m with | .inl m'=>mU g k' m' | .inr e=>.inr e)
 | [],_,_=>rfl
 | c::k,k',m=>by
  simp only [List.cons_append,mU]
  by_cases h:(g c).2=0
  ·rw [if_pos h,if_pos h];exact aKc
  ·rw [if_neg h,if_neg h]
def mapE {γ R:Type} (E:Int->R):List γ⊕Int->List γ⊕R
 | .inl m=>.inl m
 | .inr e=>.inr (E e)
theorem aA8 {α β γ R:Type} {g:β->γ×Int} {cs:α->List β} {E:Int->R}:∀(L:List α) (t:List γ),gG (fun t c=>mapE E (mU g (cs c) t)) L t=mapE E (mU g (L.flatMap cs) t)
 | [],_=>rfl
 | c::L,t=>by
  rw [List.flatMap_cons,aKc]
  simp only [gG]
  cases mU g (cs c) t with
  | inl m=>exact aA8 L m
  | inr e=>rfl
theorem aCx {α β γ:Type} (fx:α->List β)(fy:α->List γ)(hl:∀c,(fx c).length=(fy c).length):∀(L:List α) (v:List β×List γ),v.1.length=v.2.length ->
 (L.foldl (fun v c=>(v.1++fx c,v.2++fy c)) v).1.length=(L.foldl (fun v c=>(v.1++fx c,v.2++fy c)) v).2.length /\
 (L.foldl (fun v c=>(v.1++fx c,v.2++fy c)) v).1.zip (L.foldl (fun v c=>(v.1++fx c,v.2++fy c)) v).2=v.1.zip v.2++L.flatMap (fun c=>(fx c).zip (fy c))
 | [],v,h=>⟨h,by simp⟩
 | c::L,v,h=>by
  have ih:=aCx fx fy hl L (v.1++fx c,v.2++fy c) (by simp only [List.length_append];rw [h,hl c])
  rw [List.foldl_cons]
  refine⟨ih.1,ih.2.trans ?_⟩
  simp only [List.flatMap_cons]
  rw [List.zip_append h,List.append_assoc]
theorem aCy {α β γ:Type} (fx:α->List β)(fy:α->List γ)(n:Nat)(hn:∀c,(fx c).length<=n):∀(L:List α) (v:List β×List γ),(L.foldl (fun v c=>(v.1++fx c,v.2++fy c)) v).1.length<=v.1.length+n*L.length
 | [],v=>by simp
 | c::L,v=>by
  have ih:=aCy fx fy n hn L (v.1++fx c,v.2++fy c)
  have:=hn c
  rw [List.foldl_cons,List.length_cons,Nat.mul_succ]
  simp only [List.length_append] at ih
  omega
noncomputable def eC (m:ME)(q:List Int)(d:Int)(c:PN×Int):List ((Int×Int)×Int):=((aZ m).zip q).map fun e=>((pW c.1 e.1 d).1,W (c.2*e.2))
noncomputable def eX (m:ME)(q:List Int)(d:Int)(c:PN×Int):List (Int×Int):=((aZ m).zip q).map fun e=>(pW c.1 e.1 d).1
noncomputable def eY (m:ME)(q:List Int)(c:PN×Int):List Int:=((aZ m).zip q).map fun e=>W (c.2*e.2)
theorem eXY (m:ME)(q:List Int)(d:Int)(c:PN×Int):(eX m q d c).zip (eY m q c)=eC m q d c:=by
 unfold eX eY eC
 generalize (aZ m).zip q=L
 induction L with
 | nil=>rfl
 | cons e L ih=>simp only [List.map_cons,List.zip_cons_cons,ih]
theorem aX3 {α β:Type} (g:α->β)(l:List α)(v:List β):l.foldl (fun v c=>v++[g c]) v=v++l.map g:=by
 induction l generalizing v with
 | nil=>simp
 | cons c l ih=>rw [List.foldl_cons,ih];simp
theorem aU0 {α β γ:Type} (g:α->β)(h:α->γ)(l:List α)(v:List β×List γ):l.foldl (fun v c=>(v.1++[g c],v.2++[h c])) v=(v.1++l.map g,v.2++l.map h):=by
 induction l generalizing v with
 | nil=>simp
 | cons c l ih=>rw [List.foldl_cons,ih];simp
noncomputable def MT (m:ME)(d:Int):TB:=(aZ m).map fun q=>(aZ m).map fun p=>(pW p q d).1
noncomputable def EnV (m:ME)(q:List Int)(d:Int):(Int×Int)×Int:=bif (chD m q d != 0) then((0,0),chD m q d) else fJ (((aZ m).zip q).flatMap (eC m q d))
theorem aU1 {m:ME} {d:Int} {i j:Nat} {p r:PN} (hi:(aZ m)[i]? = some p)(hj:(aZ m)[j]? = some r):((MT m d).getD (tN (j:Int)) dF).getD (tN (i:Int)) dF=(pW p r d).1:=by
 have e1:(MT m d)[j]? = some ((aZ m).map fun p=>(pW p r d).1):=by unfold MT;rw [List.getElem?_map,hj];rfl
 rw [bE e1]
 have e2:((aZ m).map fun p=>(pW p r d).1)[i]? = some (pW p r d).1:=by rw [List.getElem?_map,hi];rfl
 rw [bE e2]
theorem aU2 {m:ME} {q:List Int} {d:Int} (hl:(aZ m).length=q.length)(xs:List (Int×Int))(ys:List Int)(i:Nat) {c:PN×Int} (hi:((aZ m).zip q)[i]? = some c) :
 aB (eO (MT m d) q) (tN ((q.length:Int) - 0)+1) (xs,ys,(i:Int),c.2,(i:Int),0)=.inl (xs++eX m q d c,ys++eY m q c,(i:Int)+1):=by
 obtain⟨hi1,hi2⟩:=List.getElem?_zip_eq_some.1 hi
 have hz:((aZ m).zip q).length=q.length:=by rw [List.length_zip];omega
 have key:=aX (S:=eO (MT m d) q) (fun(v:List (Int×Int)×List Int) j=>(v.1,v.2,(i:Int),c.2,(i:Int),j)) (fun v e=>.inl (v.1++[(pW c.1 e.1 d).1],v.2++[W (c.2*e.2)])) (fun v=>.inl (v.1,v.2,(i:Int)+1)) (L:=(aZ m).zip q) (v:=(xs,ys)) (n:=tN ((q.length:Int) - 0)+1) (fun _ _=>True) ?_ (fun _ _ _ _ _ _ _=>trivial) ?_ (by omega) trivial
 ·refine Eq.trans key ?_
  rw [bM,aU0];rfl
 ·intro j e hj v _
  obtain⟨h1,h2⟩:=List.getElem?_zip_eq_some.1 hj
  have hlt:=(List.getElem?_eq_some_iff.1 h2).1
  simp only [eO]
  rw [cA (by omega),cond_true,aU1 hi1 h1,bE h2]
  rfl
 ·intro v _
  simp only [eO]
  rw [cT (by omega),cond_false]
theorem aX4 {m:ME} {q:List Int} {d:Int} (hl:(aZ m).length=q.length)(hm:q.length<=96):cV (MT m d) q=fJ (((aZ m).zip q).flatMap (eC m q d)):=by
 have hz:((aZ m).zip q).length=q.length:=by rw [List.length_zip];omega
 unfold cV
 have key:=aX (S:=dG (MT m d) q) (fun(v:List (Int×Int)×List Int) i=>(v.1,v.2,i)) (fun v c=>.inl (v.1++eX m q d c,v.2++eY m q c)) (fun v=>((dA v.1 v.2).1,(dA v.1 v.2).2)) (L:=(aZ m).zip q) (v:=([],[])) (n:=tN ((q.length:Int) - 0)+1) (fun _ _=>True) ?_ (fun _ _ _ _ _ _ _=>trivial) ?_ (by omega) trivial
 ·refine Eq.trans key ?_
  rw [bM]
  obtain⟨h1,h2⟩:=aCx (eX m q d) (eY m q) (fun c=>by unfold eX eY;rw [List.length_map,List.length_map]) ((aZ m).zip q) ([],[]) rfl
  have h3:=aCy (eX m q d) (eY m q) 96 (fun c=>by unfold eX;rw [List.length_map];omega) ((aZ m).zip q) ([],[])
  simp only [List.length_nil] at h3
  simp only [xH]
  rw [aSn (by omega) (by omega),h2]
  simp only [eXY,List.zip_nil_left,List.nil_append]
 ·intro i c hi v _
  obtain⟨h1,h2⟩:=List.getElem?_zip_eq_some.1 hi
  have hlt:=(List.getElem?_eq_some_iff.1 h2).1
  simp only [dG]
  rw [cA (by omega),cond_true,bE h2,aU2 hl v.1 v.2 i hi]
  rfl
 ·intro v _
  simp only [dG]
  rw [cT (by omega),cond_false]
theorem aX5 {m:ME} {q:List Int} {d:Int} (hc:ChOK m q)(hd:0<=d/\d<=2)(i:Nat) {c:PN×Int} (hi:((aZ m).zip q)[i]? = some c)(t:List (Int×Int)) :
 aB (eT m q d) (tN ((((aZ m).length:Nat):Int) - 0)+1) (t,(i:Int),0) =
  (match mU sC (eC m q d c) t with | .inl t'=>.inl (t',(i:Int)+1) | .inr e=>.inr ((0,0),e)):=by
 have hR:bX (m.1,m.2)=aZ m:=aA5 m
 have hpl:(aZ m).length=m.2.length:=List.length_map _
 have hlen:=hc.len
 have hz:((aZ m).zip q).length=(aZ m).length:=by rw [List.length_zip];omega
 obtain⟨hi1,hi2⟩:=List.getElem?_zip_eq_some.1 hi
 have hip:=List.mem_of_getElem? hi1
 have hiq:=hc.ok _ (List.mem_of_getElem? hi2)
 let g:PN×Int->(Int×Int)×Int:=fun e=>fE (pW c.1 e.1 d).1 (W (c.2*e.2))
 have key:=aX (S:=eT m q d) (fun t j=>(t,(i:Int),j)) (fun t e=>bif ((g e).2 != 0) then .inr (.inr ((0,0),(g e).2)) else .inl (t++[(g e).1]))
  (fun t=>.inl (t,(i:Int)+1)) (L:=(aZ m).zip q) (v:=t) (n:=tN ((((aZ m).length:Nat):Int) - 0)+1) (fun _ _=>True) ?_ (fun _ _ _ _ _ _ _=>trivial) ?_ (by omega) trivial
 ·refine Eq.trans key ?_
  rw [qH (g:=g) (E:=fun e=>(Sum.inr ((0,0),e):(List (Int×Int)×Int)⊕((Int×Int)×Int))) ((aZ m).zip q) t]
  have e:mU sC (eC m q d c) t=mU g ((aZ m).zip q) t:=by
   unfold eC
   rw [tX (g:=sC) (g':=g) (f:=fun e:PN×Int=>((pW c.1 e.1 d).1,W (c.2*e.2))) (fun c _=>rfl)]
  rw [e]
  cases mU g ((aZ m).zip q) t<;>rfl
 ·intro j e hj t _
  obtain⟨h1,h2⟩:=List.getElem?_zip_eq_some.1 hj
  have hlt:=(List.getElem?_eq_some_iff.1 h1).1
  have hcp:=List.mem_of_getElem? h1
  have hcq:=hc.ok _ (List.mem_of_getElem? h2)
  obtain⟨b0,bP⟩:=rU (rV hc.v hd hip hcp)
  have hM:xW c.1 e.1 d=pW c.1 e.1 d:=by rw [aGj,aNu]
  have p0:0<=c.2*e.2:=Int.mul_nonneg hiq.1 hcq.1
  have p1:c.2*e.2<=100*100:=Int.mul_le_mul hiq.2 hcq.2 hcq.1 (by omega)
  have hW:W (c.2*e.2)=c.2*e.2:=aF (by omega) (by omega)
  simp only [eT]
  rw [hR,cA (by omega),cond_true,bE h1,bE h2,bE hi1,bE hi2,hM,b0,aGo bP (by omega)]
  show(bif ((g e).2 != 0) then _ else _)=_
  cases ((g e).2 != 0)<;>rfl
 ·intro t _
  simp only [eT]
  rw [hR,cT (by omega),cond_false]
theorem aX6 (m:ME)(q:List Int)(d:Int):jD m q d=EnV m q d:=by
 unfold jD EnV
 rw [show iG (m.1,m.2) q d=chD m q d from aO9 m q d]
 cases h:(chD m q d != 0) with
 | true=>rfl
 | false =>
  obtain⟨hc,hd⟩:=gO (bne_eq_false_iff_eq.1 h)
  have hn:=hc.n;have hlen:=hc.len
  have hR:bX (m.1,m.2)=aZ m:=aA5 m
  have hpl:(aZ m).length=m.2.length:=List.length_map _
  have hz:((aZ m).zip q).length=(aZ m).length:=by rw [List.length_zip];omega
  rw [hR,cond_false,cond_false]
  have key:=aX (S:=fH m q d) (fun t i=>(t,i)) (fun t c=>mapE (fun e=>(((0,0):Int×Int),e)) (mU sC (eC m q d c) t)) (fun t=>((eI t).1,(eI t).2)) (L:=(aZ m).zip q) (v:=[]) (n:=tN ((((aZ m).length:Nat):Int) - 0)+1) (fun _ _=>True) ?_ (fun _ _ _ _ _ _ _=>trivial) ?_ (by omega) trivial
  ·refine Eq.trans key ?_
   rw [aA8]
   unfold fJ
   have hfl:(((aZ m).zip q).flatMap (eC m q d)).length<=9216:=by
    have:∀L:List (PN×Int),(L.flatMap (eC m q d)).length<=96*L.length:=by
     intro L
     induction L with
     | nil=>simp
     | cons c L ih =>
      have:(eC m q d c).length<=96:=by unfold eC;rw [List.length_map];omega
      rw [List.flatMap_cons,List.length_append,List.length_cons];omega
    have:=this ((aZ m).zip q)
    omega
   cases hs:mU sC (((aZ m).zip q).flatMap (eC m q d)) [] with
   | inr r=>rfl
   | inl t =>
    obtain⟨hv,hm⟩:=aJ9 hs hfl
    simp only [mapE,xH,qM]
    rw [aSh hv hm]
  ·intro i c hi t _
   obtain⟨h1,h2⟩:=List.getElem?_zip_eq_some.1 hi
   have hlt:=(List.getElem?_eq_some_iff.1 h1).1
   simp only [fH]
   rw [hR,cA (by omega),cond_true,aX5 hc hd i hi t]
   cases mU sC (eC m q d c) t<;>rfl
  ·intro t _
   simp only [fH]
   rw [hR,cT (by omega),cond_false]
end Go.Proofs.YtcmdknehplnpfaaGreat
