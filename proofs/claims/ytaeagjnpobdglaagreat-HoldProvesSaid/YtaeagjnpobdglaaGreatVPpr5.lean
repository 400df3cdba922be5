/-
  Parts of the proofs of the laws: the executor, what functions of the program compute, and that it is what the statements ask. No premise.
-/
import Derived.Test.YtaeagjnpobdglaaGreatVPpr4
set_option linter.unusedVariables false
set_option linter.unusedSimpArgs false
set_option maxHeartbeats 4000000
open Int (toNat)
namespace Go.Proofs.YtaeagjnpobdglaaGreat
open Go.Proofs Go.Aw Go.RowKit
set_option maxRecDepth 100000
section
variable {α β : Type} [DecidableEq α]
theorem nU (e:α×β)(l:List (α×β))(k:α)(d:β):aV (e::l) k d=if e.1=k then e.2 else aV l k d:=by
 unfold aV
 simp only [eL]
 by_cases h:e.1=k
 · rw [if_pos h,if_pos h]
 · rw [if_neg h,if_neg h]
   cases eL k l<;>rfl
theorem aOi (e:α×β)(l:List (α×β))(k:α)(v:β):cJ (e::l) k v=if e.1=k then(k,v)::l else e::cJ l k v:=by
 unfold cJ
 simp only [eL]
 by_cases h:e.1=k
 · rw [if_pos h,if_pos h];rfl
 · rw [if_neg h,if_neg h]
   cases eL k l<;>rfl
theorem aCi:∀(l:List (α×β))(k k':α)(v d:β),aV (cJ l k v) k' d=if k=k' then v else aV l k' d
 | [],k,k',v,d=>by
   show aV [(k,v)] k' d=_
   rw [nU]
 | e::l,k,k',v,d=>by
   rw [aOi]
   by_cases h:e.1=k
   · rw [if_pos h,nU,nU]
     by_cases h':k=k'
     · rw [if_pos h',if_pos h']
     · rw [if_neg h',if_neg h',if_neg (fun x=>h' (h▸x))]
   · rw [if_neg h,nU,nU,aCi l k k' v d]
     by_cases h':k=k'
     · rw [if_neg (fun x=>h (x.trans h'.symm)),if_pos h',if_pos h']
     · rw [if_neg h',if_neg h']
theorem aCj (k:α)(d:β):aV ([]:List (α×β)) k d=d:=rfl
end
theorem aIw {S R:Type} [Inhabited R] {f g:S→S⊕R} (I:S→Prop)(hI:∀s,I s→f s=g s)(hp:∀s s',I s→f s=.inl s'→I s'):∀(n:Nat)(s:S),I s→aB f n s=aB g n s:=by
 intro n
 induction n with
 | zero=>intro s _;rfl
 | succ n ih =>
   intro s hs
   have e:=hI s hs
   cases h:f s with
   | inl s'=>rw [aA h,aA (e▸h)];exact ih s' (hp s s' hs h)
   | inr r=>rw [aO h,aO (e▸h)]
theorem bK {α σ R:Type} (g:σ→α→σ):∀(l:List α)(v:σ),iU (R:=R) (fun v c=>.inl (g v c)) l v=.inl (l.foldl g v)
 | [],_=>rfl
 | c::l,v=>by simp only [iU,List.foldl_cons];exact bK g l (g v c)
theorem bB {α:Type} [Inhabited α] {L:List α} {i:Nat} {c:α} (h:L[i]? = some c):L.getD (toNat (i:Int)) default=c:=by
 rw [uL,fO,h];rfl
abbrev ME:=List P3×List P3
def tri (f:P3)(p q:Int):Int:=(if f.1=p∧f.2.1=q then 1 else 0)+(if f.2.1=p∧f.2.2=q then 1 else 0)+(if f.2.2=p∧f.1=q then 1 else 0)
def cnt:List P3→Int→Int→Int
 | [],_,_=>0
 | f::l,p,q=>tri f p q+cnt l p q
theorem aRo (f:P3)(p q:Int):0≤tri f p q∧tri f p q≤3:=by unfold tri;split<;>split<;>split<;>omega
theorem aRp (a b c d:Int):(if a=b∧c=d then(1:Int) else 0)=bif (a == b)&&(c == d) then 1 else 0:=by
 rcases Decidable.em (a=b) with h1 | h1<;>rcases Decidable.em (c=d) with h2 | h2
 · rw [if_pos ⟨h1,h2⟩,beq_iff_eq.2 h1,beq_iff_eq.2 h2];rfl
 · rw [if_neg (fun h=>h2 h.2),beq_eq_false_iff_ne.2 h2,Bool.and_false];rfl
 · rw [if_neg (fun h=>h1 h.1),beq_eq_false_iff_ne.2 h1];rfl
 · rw [if_neg (fun h=>h1 h.1),beq_eq_false_iff_ne.2 h1];rfl
theorem bCa (m:ME)(h:m.2.length≤96)(p q:Int):F82 m p q=cnt m.2 p q:=by
 unfold F82
 rw [aZ (fun v i=>(v,i)) (fun v c=>.inl (v+tri c p q)) (fun v=>v) (L:=m.2) (fun i v=>0≤v∧v≤3*(i:Int)) ?_ ?_ ?_ (by omega) ⟨by omega,by omega⟩]
 · have key:∀(l:List P3) (v:Int),l.foldl (fun v c=>v+tri c p q) v=v+cnt l p q:=by
     intro l
     induction l with
     | nil=>intro v;simp [cnt]
     | cons c l ih=>intro v;rw [List.foldl_cons,ih];simp only [cnt];omega
   rw [bK,key];simp [aCf]
 · intro i c hc v hv
   obtain⟨hlt,hce⟩:=List.getElem?_eq_some_iff.1 hc
   have w1:W (v+1)=v+1:=aE (by omega) (by omega)
   have w2:W (v+1+1)=v+1+1:=aE (by omega) (by omega)
   have w3:W (v+1+1+1)=v+1+1+1:=aE (by omega) (by omega)
   simp only [bA]
   rw [bY (by omega),cond_true,bB hc]
   unfold tri
   rw [aRp,aRp,aRp]
   generalize (c.1 == p)=b1,(c.2.1 == q)=b2,(c.2.1 == p)=b3,(c.2.2 == q)=b4,(c.2.2 == p)=b5,(c.1 == q)=b6
   have fin:∀{a b:Int},a=b→(Sum.inl (a,(i:Int)+1):(Int×Int)⊕Int)=Sum.inl (b,((i+1:Nat):Int)):=fun h=>by rw [h];rfl
   cases b1<;>cases b2<;>cases b3<;>cases b4<;>cases b5<;>cases b6<;>simp only [Bool.and_true,Bool.and_false,Bool.and_self,cond_true,cond_false,w1,w2,w3]<;>exact fin (by omega)
 · intro i c hc v v' hv e
   have:=aRo c p q
   obtain rfl:=Sum.inl.inj e
   omega
 · intro v _
   simp only [bA]
   rw [cR (by omega),cond_false]
def tU (v:List ((Int×Int)×Int))(s:Int×Int):List ((Int×Int)×Int):=cJ v s (W (aV v s 0+1))
def aOj (v:List ((Int×Int)×Int))(f:P3):List ((Int×Int)×Int):=tU (tU (tU v (bS f).1) (bS f).2.1) (bS f).2.2
theorem aGi {v:List ((Int×Int)×Int)} {s:Int×Int} (t:Int×Int)(h:0≤aV v s 0∧aV v s 0≤1000):aV (tU v s) t 0=aV v t 0+(if s=t then 1 else 0):=by
 unfold tU
 rw [aCi,aE (by omega) (by omega)]
 by_cases e:s=t
 · subst e;rw [if_pos rfl,if_pos rfl]
 · rw [if_neg e,if_neg e];omega
theorem aRq {v:List ((Int×Int)×Int)} {B:Int} (hB:∀t,0≤aV v t 0∧aV v t 0≤B)(hb:B≤900)(f:P3)(t:Int×Int):aV (aOj v f) t 0=aV v t 0+tri f t.1 t.2:=by
 have g1:∀t,aV (tU v (bS f).1) t 0=aV v t 0+(if(bS f).1=t then 1 else 0):=fun t=>aGi t (by have:=hB (bS f).1;omega)
 have b1:∀t,0≤aV (tU v (bS f).1) t 0∧aV (tU v (bS f).1) t 0≤B+1:=fun t=>by rw [g1];have:=hB t;split<;>omega
 have g2:∀t,aV (tU (tU v (bS f).1) (bS f).2.1) t 0=aV (tU v (bS f).1) t 0+(if(bS f).2.1=t then 1 else 0):=fun t=>aGi t (by have:=b1 (bS f).2.1;omega)
 have b2:∀t,0≤aV (tU (tU v (bS f).1) (bS f).2.1) t 0∧aV (tU (tU v (bS f).1) (bS f).2.1) t 0≤B+2:=fun t=>by rw [g2];have:=b1 t;split<;>omega
 unfold aOj
 rw [aGi t (by have:=b2 (bS f).2.2;omega),g2,g1]
 unfold tri bS
 simp only [Prod.ext_iff]
 omega
theorem aM4:∀(l:List P3)(v:List ((Int×Int)×Int))(B:Int),(∀t,0≤aV v t 0∧aV v t 0≤B)→B+3*l.length≤900→∀t:Int×Int,aV (l.foldl aOj v) t 0=aV v t 0+cnt l t.1 t.2
 | [],v,B,_,_,t=>by simp [cnt]
 | f::l,v,B,hB,hb,t=>by
   simp only [List.length_cons] at hb
   have g:=aRq hB (by omega) f
   rw [List.foldl_cons,aM4 l (aOj v f) (B+3) (fun t=>by rw [g];have:=hB t;have:=aRo f t.1 t.2;omega) (by omega) t,g]
   simp only [cnt];omega
theorem bCb (m:ME):zA m=m.2.foldl aOj []:=by
 unfold zA
 rw [aZ (fun v i=>(v,i)) (fun v c=>.inl (aOj v c)) (fun v=>v) (L:=m.2) (fun _ _=>True) ?_ (fun _ _ _ _ _ _ _=>trivial) ?_ (by omega) trivial]
 · rw [bK];rfl
 · intro i c hc v _
   obtain⟨hlt,hce⟩:=List.getElem?_eq_some_iff.1 hc
   simp only [yZ]
   rw [bY (by omega),cond_true,bB hc]
   rfl
 · intro v _
   simp only [yZ]
   rw [cR (by omega),cond_false]
theorem bFa (m:ME)(h:m.2.length≤96)(t:Int×Int):aV (zA m) t 0=cnt m.2 t.1 t.2:=by
 rw [bCb,aM4 m.2 [] 0 (fun t=>by rw [aCj];omega) (by omega) t,aCj];omega
theorem bCc (x y:Int):W (x+W (-1*y))=W (x - y):=by
 rw [aMm (-1*y)]
 split<;>rw [aMm,aMm]<;>split<;>split<;>omega
theorem aRr (a b:P3):aBp a b=aT a b:=by
 unfold aBp F39 aT
 simp only [bCc]
theorem aYj (p:PN):nO p=lD p:=by
 unfold nO lD
 rw [aRr,aRr];rfl
theorem bCd (m:ME):F73 m=m.2.foldl (fun v c=>W (v+aDv (eO m c))) 0:=by
 unfold F73
 rw [aZ (fun v i=>(v,i)) (fun v c=>.inl (W (v+aDv c))) (fun v=>v) (L:=gB m) (fun _ _=>True) ?_ (fun _ _ _ _ _ _ _=>trivial) ?_ (by show _ < toNat ((((gB m).length:Nat):Int) - 0)+1;omega) trivial]
 · rw [bK,aGg,List.foldl_map];rfl
 · intro i c hc v _
   obtain⟨hlt,hce⟩:=List.getElem?_eq_some_iff.1 hc
   simp only [zB]
   rw [bY (show((i:Nat):Int) < (((gB (m.1,m.2)).length:Nat):Int) from by show((i:Nat):Int) < (((gB m).length:Nat):Int);omega),cond_true,show(gB (m.1,m.2)).getD (toNat (i:Int)) default=c from bB hc]
   rfl
 · intro v _
   simp only [zB]
   rw [cR (show ¬(((gB m).length:Nat):Int) < (((gB (m.1,m.2)).length:Nat):Int) from by show ¬(((gB m).length:Nat):Int) < (((gB m).length:Nat):Int);omega),cond_false]
theorem bCe (m:ME):F83 m=m.2.foldl (fun v c=>W (v+aDv (eO m c))) 0:=by
 unfold F83
 rw [aZ (fun v i=>(v,i)) (fun v c=>.inl (W (v+aDv (eO m c)))) (fun v=>v) (L:=m.2) (fun _ _=>True) ?_ (fun _ _ _ _ _ _ _=>trivial) ?_ (by omega) trivial]
 · rw [bK];rfl
 · intro i c hc v _
   obtain⟨hlt,hce⟩:=List.getElem?_eq_some_iff.1 hc
   simp only [zC]
   have hp:xI (m.1,m.2) (i:Int)=eO m c:=by
     unfold xI
     simp only [bB hc];rfl
   rw [bY (by omega),cond_true,hp]
   rfl
 · intro v _
   simp only [zC]
   rw [cR (by omega),cond_false]
theorem aYk (m:ME):F73 m=F83 m:=by rw [bCd,bCe]
theorem aYl (m:ME):∀(n:Nat)(v:List Bool)(i:Int),0≤i→aB (kE m) n (v,(v.length:Int),i)=aB (kG m) n (v,i):=by
 intro n
 induction n with
 | zero=>intro v i _;rfl
 | succ n ih =>
   intro v i hi
   by_cases h:i < (v.length:Int)
   · cases hb:v.getD (toNat i) default with
     | true =>
       have e1:kE m (v,(v.length:Int),i)=.inl (v,(v.length:Int),i+1):=by
         simp only [kE];rw [bY h,cond_true,hb];rfl
       have e2:kG m (v,i)=.inl (v,i+1):=by
         simp only [kG];rw [bY h,cond_true,hb];rfl
       rw [aA e1,aA e2];exact ih v (i+1) (by omega)
     | false =>
       have e1:kE m (v,(v.length:Int),i)=.inr 5:=by
         simp only [kE];rw [bY h,cond_true,hb];rfl
       have e2:kG m (v,i)=.inr 5:=by
         simp only [kG];rw [bY h,cond_true,hb];rfl
       rw [aO e1,aO e2]
   · have e1:kE m (v,(v.length:Int),i)=.inr (bif decide (F83 m≤0) then 8 else 0):=by
       simp only [kE];rw [cR h,cond_false,show F73 (m.1,m.2)=F83 m from aYk m]
       cases decide (F83 m≤0)<;>rfl
     have e2:kG m (v,i)=.inr (bif decide (F83 m≤0) then 8 else 0):=by
       simp only [kG];rw [cR h,cond_false,show F83 (m.1,m.2)=F83 m from rfl]
       cases decide (F83 m≤0)<;>rfl
     rw [aO e1,aO e2]
theorem aYm (m:ME)(h:m.2.length≤96)(n:Nat)(v:List Bool):aB (gR m) n (v,0)=aB (iF m) n (v,0):=by
 refine aIw (fun s=>0≤s.2) (fun s hs=>?_) (fun s s' hs e=>?_) n (v,0) (Int.le_refl 0)
 · obtain⟨v,i⟩:=s
   simp only at hs
   simp only [gR,iF]
   rw [aYl m _ v 0 (Int.le_refl 0)]
   have hc:∀t,aV (zA (m.1,m.2)) t 0=cnt m.2 t.1 t.2:=bFa m h
   have he:∀p q,F82 (m.1,m.2) p q=cnt m.2 p q:=bCa m h
   simp only [hc,he,bS,F72]
 · obtain⟨v,i⟩:=s
   simp only [gR] at e
   by_cases hlt:i < (m.2.length:Int)
   · rw [bY hlt,cond_true] at e
     simp only at hs
     have step:∀(b:Bool) (x y:(List Bool×Int)⊕Int),(bif b then x else y)=.inl s'→(∀r,x≠.inl r)→y=.inl s':=fun b x y h hx=>by
       cases b
       · exact h
       · exact absurd h (hx s')
     have e:=step _ _ _ e (fun r h=>by cases h)
     have e:=step _ _ _ e (fun r h=>by cases h)
     have e:=step _ _ _ e (fun r h=>by cases h)
     have e:=step _ _ _ e (fun r h=>by cases h)
     have e:=step _ _ _ e (fun r h=>by cases h)
     have e:=step _ _ _ e (fun r h=>by cases h)
     obtain rfl:=Sum.inl.inj e
     show 0≤i+1
     omega
   · rw [cR hlt,cond_false] at e;cases e
theorem aU0 {n:Nat} (x:Int)(h:n≤64):(!qG x 0 (W (((n:Nat):Int) - 1)))=(decide (x < 0) || decide (x≥((n:Nat):Int))):=by
 rw [aE (by omega) (by omega)]
 unfold qG
 by_cases h1:x < 0
 · rw [bY h1,cR (by omega)];rfl
 · rw [cR h1,bY (by omega),cond_true]
   by_cases h2:x≥((n:Nat):Int)
   · rw [bY h2,cR (by omega)];rfl
   · rw [cR h2,bY (by omega)];rfl
theorem aYn (m:ME)(h64:m.1.length≤64)(h:m.2.length≤96)(n:Nat)(v:List Bool):aB (kF m) n (v,0)=aB (fI m) n (v,0):=by
 have main:∀s:List Bool×Int,0≤s.2→kF m s=fI m s∧∀s',kF m s=.inl s'→0≤s'.2:=by
   rintro ⟨v,i⟩ hs
   simp only at hs
   simp only [kF,fI]
   rw [aYm m h _ v]
   have hp:xI (m.1,m.2) i=eO (m.1,m.2) (m.2.getD (toNat i) default):=rfl
   rw [hp]
   unfold F69
   simp only [aU0 _ h64,aYj]
   generalize m.2.getD (toNat i) default=c
   generalize lD (eO (m.1,m.2) c)=q
   generalize ((q.1 == 0)&&((q.2.1 == 0)&&((q.2.2 == 0)&&true)))=b7
   generalize decide (c.1 < 0)=b1,decide (c.1≥(m.1.length:Int))=b2,decide (c.2.1 < 0)=b3,decide (c.2.1≥(m.1.length:Int))=b4,decide (c.2.2 < 0)=b5,decide (c.2.2≥(m.1.length:Int))=b6,decide (i < (m.2.length:Int))=b0
   cases b0
   case false=>exact⟨rfl,fun s' e=>by cases e⟩
   cases b1
   case true=>exact⟨rfl,fun s' e=>by cases e⟩
   cases b2
   case true=>exact⟨rfl,fun s' e=>by cases e⟩
   cases b3
   case true=>exact⟨rfl,fun s' e=>by cases e⟩
   cases b4
   case true=>exact⟨rfl,fun s' e=>by cases e⟩
   cases b5
   case true=>exact⟨rfl,fun s' e=>by cases e⟩
   cases b6
   case true=>exact⟨rfl,fun s' e=>by cases e⟩
   cases b7
   case true=>exact⟨rfl,fun s' e=>by cases e⟩
   exact⟨rfl,fun s' e=>by obtain rfl:=Sum.inl.inj e;show 0≤i+1;omega⟩
 exact aIw (fun s=>0≤s.2) (fun s hs=>(main s hs).1) (fun s s' hs e=>(main s hs).2 s' e) n (v,0) (Int.le_refl 0)
theorem aYo (a b:P3):(((a.1:Int) == b.1)&&(((a.2.1:Int) == b.2.1)&&(((a.2.2:Int) == b.2.2)&&true)))=decide (a=b):=by
 rw [Bool.eq_iff_iff]
 simp only [Bool.and_eq_true,beq_iff_eq,and_true,decide_eq_true_eq,Prod.ext_iff]
theorem bCf (m:ME)(i:Nat):∀(n k:Nat),i - k < n→(∃j,k≤j∧j < i∧m.1.getD j default=m.1.getD i default)→aB (kR m) n ((i:Int),(k:Int))=.inr 1:=by
 intro n
 induction n with
 | zero=>intro k hk;omega
 | succ n ih =>
   intro k hk ⟨j,h1,h2,h3⟩
   by_cases e:m.1.getD i default=m.1.getD k default
   · refine aO ?_
     simp only [kR]
     rw [bY (by omega),cond_true,uL,uL,aYo,bY e];rfl
   · have h:kR m ((i:Int),(k:Int))=.inl ((i:Int),((k+1:Nat):Int)):=by
       simp only [kR]
       rw [bY (by omega),cond_true,uL,uL,aYo,cR e];rfl
     rw [aA h]
     have:j≠k:=fun x=>e (x▸h3.symm)
     exact ih (k+1) (by omega) ⟨j,by omega,h2,h3⟩
theorem bCg (m:ME)(i:Nat):∀(n k:Nat),k≤i→i - k < n→(∀j,k≤j→j < i→m.1.getD j default≠m.1.getD i default)→aB (kR m) n ((i:Int),(k:Int))=.inl ((i:Int)+1):=by
 intro n
 induction n with
 | zero=>intro k _ hk;omega
 | succ n ih =>
   intro k hki hk hj
   by_cases hlt:k < i
   · have h:kR m ((i:Int),(k:Int))=.inl ((i:Int),((k+1:Nat):Int)):=by
       simp only [kR]
       rw [bY (by omega),cond_true,uL,uL,aYo,cR (fun e=>hj k (Nat.le_refl k) hlt e.symm)];rfl
     rw [aA h]
     exact ih (k+1) (by omega) (by omega) (fun j h1 h2=>hj j (by omega) h2)
   · refine aO ?_
     simp only [kR]
     rw [cR (by omega),cond_false]
open Classical in
theorem aK8 (p:P3):F36 p 64=F79 p 64:=by rw [lU,rH]
theorem aYp (m:ME):∀(n i:Nat)(v:List (P3×Bool)),i≤m.1.length→m.1.length - i < n→(∀q,aV v q false=true↔∃j,j < i∧m.1.getD j default=q) →
   aB (iW m) n (i:Int)=bif (aB (eP m) n (v,(i:Int)) != 0) then aB (eP m) n (v,(i:Int)) else aB (fI m) (toNat ((m.2.length:Int) - 0)+1) ((List.replicate (toNat (m.1.length:Int)) false),0):=by
 intro n
 induction n with
 | zero=>intro i v _ h;omega
 | succ n ih =>
   intro i v hi hn hv
   by_cases hlt:i < m.1.length
   · have hw:((i:Nat):Int) < (m.1.length:Int):=by omega
     cases hr:F36 (m.1.getD i default) 64 with
     | false =>
       have e1:eP m (v,(i:Int))=.inr 1:=by
         simp only [eP];rw [bY hw,cond_true,uL,hr];rfl
       have e2:iW m (i:Int)=.inr 1:=by
         simp only [iW];rw [bY hw,cond_true,uL,←aK8,hr];rfl
       rw [aO e1,aO e2];rfl
     | true =>
       cases hg:aV v (m.1.getD i default) false with
       | true =>
         have e1:eP m (v,(i:Int))=.inr 1:=by
           simp only [eP];rw [bY hw,cond_true,uL,hr,hg];rfl
         obtain⟨j,h1,h2⟩:=(hv _).1 hg
         have e2:iW m (i:Int)=.inr 1:=by
           simp only [iW];rw [bY hw,cond_true,uL,←aK8,hr]
           exact bCf m i _ 0 (by omega) ⟨j,by omega,h1,h2⟩
         rw [aO e1,aO e2];rfl
       | false =>
         have e1:eP m (v,(i:Int))=.inl (cJ v (m.1.getD i default) true,((i+1:Nat):Int)):=by
           simp only [eP];rw [bY hw,cond_true,uL,hr,hg];rfl
         have e2:iW m (i:Int)=.inl ((i+1:Nat):Int):=by
           simp only [iW];rw [bY hw,cond_true,uL,←aK8,hr]
           exact bCg m i _ 0 (by omega) (by omega) (fun j _ h2 h3=>by
             have:=(hv _).2 ⟨j,h2,h3⟩
             rw [hg] at this;cases this)
         rw [aA e1,aA e2]
         refine ih (i+1) _ (by omega) (by omega) (fun q=>?_)
         rw [aCi]
         by_cases e:m.1.getD i default=q
         · rw [if_pos e];exact⟨fun _=>⟨i,by omega,e⟩,fun _=>rfl⟩
         · rw [if_neg e,hv]
           constructor
           · rintro ⟨j,h1,h2⟩;exact⟨j,by omega,h2⟩
           · rintro ⟨j,h1,h2⟩
             refine⟨j,?_,h2⟩
             rcases Nat.lt_or_ge j i with h | h
             · exact h
             · have:j=i:=by omega
               exact absurd (this▸h2) e
   · have hw:¬((i:Nat):Int) < (m.1.length:Int):=by omega
     have e1:eP m (v,(i:Int))=.inr 0:=by
       simp only [eP];rw [cR hw,cond_false]
     have e2:iW m (i:Int)=.inr (aB (fI m) (toNat ((m.2.length:Int) - 0)+1) ((List.replicate (toNat (m.1.length:Int)) false),0)):=by
       simp only [iW];rw [cR hw,cond_false]
     rw [aO e1,aO e2];rfl
theorem aRs (m:ME):fR m=F50 m:=by
 unfold fR F50
 by_cases h1:(m.1.length:Int) > 64
 · rw [bY h1];rfl
 · rw [cR h1,cond_false,cond_false,show F78 (m.2.length:Int) 1 96=qG (m.2.length:Int) 1 96 from rfl]
   cases h2:(!qG (m.2.length:Int) 1 96) with
   | true=>rfl
   | false =>
     rw [cond_false,cond_false]
     have g:=hH h2
     rw [aYn m (by omega) (by omega)]
     have hp:=aYp m (toNat ((m.1.length:Int) - 0)+1) 0 [] (by omega) (by omega) (fun q=>by
       rw [aCj]
       constructor
       · intro h;cases h
       · rintro ⟨j,h,_⟩;omega)
     exact hp.symm
end Go.Proofs.YtaeagjnpobdglaaGreat
namespace Go.Proofs.YtaeagjnpobdglaaGreat
open Go.Proofs Go.Aw Go.RowKit
set_option maxRecDepth 100000
theorem okl (m:ME)(h64:m.1.length≤64):∀(n:Nat)(v:List Bool)(i:Int),0≤i→toNat ((m.2.length:Int) - i) < n→aB (kF m) n (v,i)=0→∀j:Int,i≤j→j < (m.2.length:Int)→F69 m (m.2.getD (toNat j) default)=0:=by
 intro n
 induction n with
 | zero=>intro v i _ h;omega
 | succ n ih =>
   intro v i hi hn h j h1 h2
   have hlt:i < (m.2.length:Int):=by omega
   cases hf:((F69 (m.1,m.2) (m.2.getD (toNat i) default):Int) != 0) with
   | true =>
     have e:kF m (v,i)=.inr (F69 (m.1,m.2) (m.2.getD (toNat i) default)):=by
       simp only [kF];rw [bY hlt,cond_true,hf,cond_true]
     rw [aO e] at h
     exact absurd h (bne_iff_ne.1 hf)
   | false =>
     by_cases hj:j=i
     · subst hj;exact bne_eq_false_iff_eq.1 hf
     · have e:kF m (v,i)=.inl ((((v.set (toNat (m.2.getD (toNat i) default).1) true).set (toNat (m.2.getD (toNat i) default).2.1) true).set (toNat (m.2.getD (toNat i) default).2.2) true),(i+1)):=by
         simp only [kF];rw [bY hlt,cond_true,hf,cond_false]
       rw [aA e] at h
       exact ih _ (i+1) (by omega) (by omega) h j (by omega) h2
theorem iG {m:ME} (h:fR m=0):m.1.length≤64∧1≤m.2.length∧m.2.length≤96∧F68 m=0∧∀j:Int,0≤j→j < (m.2.length:Int)→F69 m (m.2.getD (toNat j) default)=0:=by
 unfold fR at h
 by_cases h1:(m.1.length:Int) > 64
 · rw [bY h1,cond_true] at h;exact absurd h (by decide)
 · rw [cR h1,cond_false] at h
   cases h2:(!qG (m.2.length:Int) 1 96) with
   | true=>rw [h2,cond_true] at h;exact absurd h (by decide)
   | false =>
     have g:=hH h2
     rw [h2,cond_false] at h
     cases h3:((F68 (m.1,m.2):Int) != 0) with
     | true=>rw [h3,cond_true] at h;exact absurd h (bne_iff_ne.1 h3)
     | false =>
       rw [h3,cond_false] at h
       exact⟨by omega,by omega,by omega,bne_eq_false_iff_eq.1 h3,fun j h1 h2=>okl m (by omega) _ _ 0 (Int.le_refl 0) (by omega) h j h1 h2⟩
theorem qN {m:ME} (h:((fR m:Int) != 0)=false):lZ m m.2.length∧m.2.length≤96:=by
 obtain⟨h1,_,h3,_,h4⟩:=iG (bne_eq_false_iff_eq.1 h)
 exact⟨fun i g1 g2=>mO (m:=m) (by rw [h4 i g1 g2];rfl) h1,h3⟩
def bF (a0:Zm):(List (Zt×Zt×Zt))×Int :=
 (bif (((fR (a0.1,a0.2)):Int) != 0) then
  (([]:List (Zt×Zt×Zt)),(fR (a0.1,a0.2)))
 else
  ((gB (a0.1,a0.2)),0))
theorem C90 (a0:Zm)(l0_1:a0.1.length≤9223372036854775807)(l0_2:a0.2.length≤9223372036854775807):Con Tryz.prog 90 [(.a [(.s 0 0 a0.1.length 3),(.s 1 0 a0.2.length 3)])] [(.live false true (flat dX a0.1)),(.live false true (flat fA a0.2))] (.t [(.s 2 0 (bF a0).1.length 9),(iv (bF a0).2)]) [(.live true true (flat dL (bF a0).1))]:=by
 refine aJ Tryz.func90 (by kernel_rfl) fun cx hcx=>?_
 let t0:List (St Tryz.prog):=[.c [0,1] (C35 (a0.1,a0.2) (by(try simp only [Lt]);omega) (by(try simp only [Lt]);omega))]
 cases h0:(((fR (a0.1,a0.2)):Int) != 0) with
 | true =>
  have q0:=bne_iff_ne.1 h0
  have e:=Eq.refl (bF a0);conv at e=>rhs;simp only [bF,h0,aI]
  rw [e]
  exact rt (t0++[.d h0]) [.slot 2 9] [3] hcx (by kernel_rfl)
 | false =>
  have q0:=bne_eq_false_iff_eq.1 h0
  have e:=Eq.refl (bF a0);conv at e=>rhs;simp only [bF,h0,aI]
  rw [e]
  exact rt (t0++[.d h0,.c [0,1] (bBy (a0.1,a0.2) (by(try simp only [Lt]);omega) (by(try simp only [Lt]);omega) (qN h0).1 (qN h0).2)]) [] [3] hcx (by kernel_rfl)
theorem aWl (m:ME):bF m=bif ((fR m:Int) != 0) then([],fR m) else(m.2.map (eO m),0):=by
 unfold bF
 rw [show gB (m.1,m.2)=m.2.map (eO m) from aGg m]
theorem rP (m:ME):(bF m).1.length≤96:=by
 rw [aWl]
 cases h:((fR m:Int) != 0) with
 | true=>exact Nat.zero_le _
 | false=>rw [cond_false];show(m.2.map _).length≤96;rw [List.length_map];exact(qN h).2
theorem bCh {R:Type} [Inhabited R] {p:Int→Prop} [DecidablePred p] {G:Int→R} {M:Int} {S:Int×Int→(Int×Int)⊕R} (hS:∀k b,0≤k→0 < b→k+b≤M→S (k,b)=if p (k+b) then .inl (k+b,b / 2) else .inl (k,b / 2))(h0:∀k,0≤k→k≤M→S (k,0)=.inr (G k)) :
   ∀(j f:Nat) (k:Int),j+2≤f→0≤k→k+2*2 ^ j≤M→p k→¬p (k+2*2 ^ j)→∃r,0≤r∧r≤M∧p r∧¬p (r+1)∧aB S f (k,2 ^ j)=G r:=by
 intro j
 induction j with
 | zero =>
   intro f k hf hk hb h1 h2
   obtain⟨f,rfl⟩:∃g,f=g+2:=⟨f - 2,by omega⟩
   simp only [Int.pow_zero] at h2 hb ⊢
   have hs:=hS k 1 hk (by omega) (by omega)
   by_cases hc:p (k+1)
   · rw [if_pos hc] at hs
     rw [aA hs,show((1:Int) / 2)=0 by omega,aO (h0 _ (by omega) (by omega))]
     exact⟨k+1,by omega,by omega,hc,by rw [show k+1+1=k+2*1 by omega];exact h2,rfl⟩
   · rw [if_neg hc] at hs
     rw [aA hs,show((1:Int) / 2)=0 by omega,aO (h0 _ hk (by omega))]
     exact⟨k,hk,by omega,h1,hc,rfl⟩
 | succ j ih =>
   intro f k hf hk hb h1 h2
   obtain⟨f,rfl⟩:∃g,f=g+1:=⟨f - 1,by omega⟩
   have hp:(0:Int) < 2 ^ j:=Int.pow_pos (by omega)
   rw [Int.pow_succ] at h2 hb ⊢
   have hs:=hS k (2 ^ j*2) hk (by omega) (by omega)
   have hd:(2:Int) ^ j*2 / 2=2 ^ j:=Int.mul_ediv_cancel _ (by omega)
   rw [hd] at hs
   by_cases hc:p (k+2 ^ j*2)
   · rw [if_pos hc] at hs
     rw [aA hs]
     refine ih f _ (by omega) (by omega) (by omega) hc ?_
     rw [show k+2 ^ j*2+2*2 ^ j=k+2*((2:Int) ^ j*2) by omega];exact h2
   · rw [if_neg hc] at hs
     rw [aA hs]
     refine ih f _ (by omega) hk (by omega) h1 ?_
     rw [show k+2*(2:Int) ^ j=k+2 ^ j*2 by omega];exact hc
theorem bCi {R:Type} [Inhabited R] {p:Int→Prop} [DecidablePred p] {G:Int→R} {M:Int} {S:Int×Int→(Int×Int)⊕R} (hS:∀a b,0≤a→a < b→b≤M→S (a,b)=if p ((a+b+1) / 2) then .inl ((a+b+1) / 2,b) else .inl (a,(a+b+1) / 2 - 1))(h0:∀a,0≤a→a≤M→S (a,a)=.inr (G a)) :
   ∀(f:Nat) (a b:Int),0≤a→a≤b→b≤M→b - a < f→p a→¬p (b+1)→∃r,0≤r∧r≤M∧p r∧¬p (r+1)∧aB S f (a,b)=G r:=by
 intro f
 induction f with
 | zero=>intro a b _ h _ hf;omega
 | succ f ih =>
   intro a b ha hab hb hf h1 h2
   by_cases he:a=b
   · subst he
     rw [aO (h0 a ha hb)];exact⟨a,ha,hb,h1,h2,rfl⟩
   · have hs:=hS a b ha (by omega) hb
     by_cases hc:p ((a+b+1) / 2)
     · rw [if_pos hc] at hs
       rw [aA hs]
       exact ih _ _ (by omega) (by omega) hb (by omega) hc h2
     · rw [if_neg hc] at hs
       rw [aA hs]
       refine ih _ _ ha (by omega) (by omega) (by omega) h1 ?_
       rw [show(a+b+1) / 2 - 1+1=(a+b+1) / 2 by omega];exact hc
theorem um1 {a b:Int} (h:0≤a∧a≤b∧b≤1099511627776):IntKind.wrap .u64 (Int.tdiv (IntKind.wrap .u64 ((IntKind.wrap .u64 (a+b))+1)) 2)=(a+b+1) / 2:=by
 rw [vS (a+b),Int.emod_eq_of_lt (a:=a+b) (by omega) (by omega),vS (a+b+1),Int.emod_eq_of_lt (a:=a+b+1) (by omega) (by omega),Int.tdiv_eq_ediv_of_nonneg (by omega),vS,Int.emod_eq_of_lt (by omega) (by omega)]
theorem um2 {a b:Int} (h:0≤a∧a < b∧b≤1099511627776):IntKind.wrap .u64 ((IntKind.wrap .u64 (Int.tdiv (IntKind.wrap .u64 ((IntKind.wrap .u64 (a+b))+1)) 2)) - 1)=(a+b+1) / 2 - 1:=by
 rw [um1 (by omega),vS,Int.emod_eq_of_lt (by omega) (by omega)]
theorem aU1 {b:Int} (h:0≤b∧b≤1099511627776):W (Int.tdiv b 2)=b / 2:=by rw [Int.tdiv_eq_ediv_of_nonneg (by omega),aE (by omega) (by omega)]
noncomputable def aM5:Code:=(aD [1,1,1,1,1,0,1] [] (aH Tryz.f56) []).1
noncomputable def aM6:List K:=(aD [1,1,1,1,1,0,1] [] (aH Tryz.f56) []).2
def aGj (a0:Int)(v1 v2:Int):LS:=⟨iJ 70 [(2,(.p 0 0)),(4,(iv (iI a0))),(5,(iv (W ((W (a0 - (W ((iI a0)*(iI a0)))))*2 ^ (min (toNat 40) 64))))),(6,(iv v1)),(7,(iv v2))],[(.live true false [(iv 0),(iv 0)])]⟩
def mQ (a0:Int):Int×Int→(Int×Int)⊕((Int×Int)×Int)
 | (v1,v2) =>
  (bif (decide ((v2:Int) > 0)) then
   (bif (decide (((W ((W ((W ((W (2*(iI a0)))*(W (v1+v2))))*2 ^ (min (toNat 20) 64)))+(W ((W (v1+v2))*(W (v1+v2)))))):Int)≤(W ((W (a0 - (W ((iI a0)*(iI a0)))))*2 ^ (min (toNat 40) 64))))) then
    (.inl ((W (v1+v2)),(W (Int.tdiv v2 2))))
   else
    (.inl (v1,(W (Int.tdiv v2 2)))))
  else
   (bif (((W ((W ((W ((W (2*(iI a0)))*v1))*2 ^ (min (toNat 20) 64)))+(W (v1*v1)))):Int) == (W ((W (a0 - (W ((iI a0)*(iI a0)))))*2 ^ (min (toNat 40) 64)))) then
    (.inr ((qJ (W ((W ((iI a0)*2 ^ (min (toNat 20) 64)))+v1)) (W ((W ((iI a0)*2 ^ (min (toNat 20) 64)))+v1))).1,(qJ (W ((W ((iI a0)*2 ^ (min (toNat 20) 64)))+v1)) (W ((W ((iI a0)*2 ^ (min (toNat 20) 64)))+v1))).2))
   else
    (.inr ((qJ (W ((W ((iI a0)*2 ^ (min (toNat 20) 64)))+v1)) (W ((W ((W ((iI a0)*2 ^ (min (toNat 20) 64)))+v1))+1))).1,(qJ (W ((W ((iI a0)*2 ^ (min (toNat 20) 64)))+v1)) (W ((W ((W ((iI a0)*2 ^ (min (toNat 20) 64)))+v1))+1))).2))))
theorem bCj (a0:Int) {cx:Cx} (hcx:cx.base=0):∀(n:Nat)(v1 v2:Int),(0≤v2)∧(v2≤1099511627776)→toNat v2 < n→Aw.Good Tryz.prog none 9 (bodyPost Tryz.prog Tryz.f56 (RR cx (.t [(.a (k2 (aB (mQ a0) n (v1,v2)).1)),(iv (aB (mQ a0) n (v1,v2)).2)]) [] [])) cx [] (.l aM5 n::aM6) (aGj a0 v1 v2):=by
 intro n
 induction n with
 | zero=>intro v1 v2 hi hn;exact absurd hn (hO _)
 | succ n ih =>
   intro v1 v2 hi hn
   refine aG ?_
   have hw1:=aU1 (b:=v2) (by omega)
   cases h0:(decide ((v2:Int) > 0)) with
   | true =>
    have q0:=bZ h0
    let t1:List (St Tryz.prog):=[.d h0,.p (show 0≤(20:Int) from by decide)]
    cases h1:(decide (((W ((W ((W ((W (2*(iI a0)))*(W (v1+v2))))*2 ^ (min (toNat 20) 64)))+(W ((W (v1+v2))*(W (v1+v2)))))):Int)≤(W ((W (a0 - (W ((iI a0)*(iI a0)))))*2 ^ (min (toNat 40) 64))))) with
    | true =>
     have q1:=bZ h1
     have e:=Eq.refl (mQ a0 (v1,v2));conv at e=>rhs;simp only [mQ,h0,h1,aI]
     rw [aA e]
     refine ba (t1++[.d h1,.p (show(2:Int)≠0 from by decide)]) [] [2,4,5,6,7] [0] hcx (m:=n) aM5 (aM6) (aGj a0 (W (v1+v2)) (W (Int.tdiv v2 2))) (by kernel_rfl) ?_
     exact ih (W (v1+v2)) (W (Int.tdiv v2 2)) (by refine⟨?_,?_⟩<;>(try simp only [Ls])<;>first | omega | assumption | simp) (by(try simp only [Ls]);omega)
    | false =>
     have q1:=cI h1
     have e:=Eq.refl (mQ a0 (v1,v2));conv at e=>rhs;simp only [mQ,h0,h1,aI]
     rw [aA e]
     refine ba (t1++[.d h1,.p (show(2:Int)≠0 from by decide)]) [] [2,4,5,6,7] [0] hcx (m:=n) aM5 (aM6) (aGj a0 v1 (W (Int.tdiv v2 2))) (by kernel_rfl) ?_
     exact ih v1 (W (Int.tdiv v2 2)) (by refine⟨?_,?_⟩<;>(try simp only [Ls])<;>first | omega | assumption | simp) (by(try simp only [Ls]);omega)
   | false =>
    have q0:=cI h0
    let t1:List (St Tryz.prog):=[.d h0,.p (show 0≤(20:Int) from by decide),.p (show 0≤(20:Int) from by decide)]
    cases h1:(((W ((W ((W ((W (2*(iI a0)))*v1))*2 ^ (min (toNat 20) 64)))+(W (v1*v1)))):Int) == (W ((W (a0 - (W ((iI a0)*(iI a0)))))*2 ^ (min (toNat 40) 64)))) with
    | true =>
     have q1:=eq_of_beq h1
     have e:=Eq.refl (mQ a0 (v1,v2));conv at e=>rhs;simp only [mQ,h0,h1,aI]
     rw [aF,e]
     exact rt (t1++[.d h1,.c [] (C48 (W ((W ((iI a0)*2 ^ (min (toNat 20) 64)))+v1)) (W ((W ((iI a0)*2 ^ (min (toNat 20) 64)))+v1)))]) [] [] hcx (by kernel_rfl)
    | false =>
     have q1:=ne_of_beq_false h1
     have e:=Eq.refl (mQ a0 (v1,v2));conv at e=>rhs;simp only [mQ,h0,h1,aI]
     rw [aF,e]
     exact rt (t1++[.d h1,.c [] (C48 (W ((W ((iI a0)*2 ^ (min (toNat 20) 64)))+v1)) (W ((W ((W ((iI a0)*2 ^ (min (toNat 20) 64)))+v1))+1)))]) [] [] hcx (by kernel_rfl)
def xJ (a0:Int):(Int×Int)×Int :=
 (bif (decide ((a0:Int) < 0)) then
  ((0,0),1)
 else
  (bif (decide ((a0:Int) > 1099511627776)) then
   ((0,0),1)
  else
   (aB (mQ a0) (toNat 524288+1) (0,524288))))
theorem C56 (a0:Int):Con Tryz.prog 56 [(iv a0)] [] (.t [(.a (k2 (xJ a0).1)),(iv (xJ a0).2)]) []:=by
 refine aJ Tryz.func56 (by kernel_rfl) fun cx hcx=>?_
 cases h0:(decide ((a0:Int) < 0)) with
 | true =>
  have q0:=bZ h0
  have e:=Eq.refl (xJ a0);conv at e=>rhs;simp only [xJ,h0,aI]
  rw [e]
  exact rt [.d h0] [] [] hcx (by kernel_rfl)
 | false =>
  have q0:=cI h0
  let t1:List (St Tryz.prog):=[.d h0]
  cases h1:(decide ((a0:Int) > 1099511627776)) with
  | true =>
   have q1:=bZ h1
   have e:=Eq.refl (xJ a0);conv at e=>rhs;simp only [xJ,h0,h1,aI]
   rw [e]
   exact rt (t1++[.d h1]) [] [] hcx (by kernel_rfl)
  | false =>
   have q1:=cI h1
   have e:=Eq.refl (xJ a0);conv at e=>rhs;simp only [xJ,h0,h1,aI]
   rw [e]
   refine en (t1++[.d h1,.c [] (C89 a0),.p (show 0≤(40:Int) from by decide)]) [] [2,4,5,6,7] [0] hcx aM5 (aM6) (aGj a0 0 524288) (toNat 524288+1) (by kernel_rfl) ?_
   exact bCj a0 hcx (toNat 524288+1) 0 524288 (by refine⟨?_,?_⟩<;>(try simp only [Ls])<;>first | omega | assumption | simp) (by(try simp only [Ls]);omega)
noncomputable def xK:Code:=(aD [1,1,1,1,0] [] (aH Tryz.f114) []).1
noncomputable def xL:List K:=(aD [1,1,1,1,0] [] (aH Tryz.f114) []).2
def rQ (a0:Int)(v2 v3:Int):LS:=⟨iJ 82 [(2,(.p 0 0)),(4,(.v (.int .u64 (fQ (IntKind.wrap .u64 a0) 1099511627776).1))),(5,(.v (.int .u64 (fQ (IntKind.wrap .u64 a0) 1099511627776).2))),(6,(.v (.int .u64 v2))),(7,(.v (.int .u64 v3)))],[(.live true false [(iv 0),(iv 0)])]⟩
def eR (a0:Int):Int×Int→(Int×Int)⊕((Int×Int)×Int)
 | (v2,v3) =>
  (bif (decide ((v2:Int) < v3)) then
   (bif (decide (((fQ (IntKind.wrap .u64 (Int.tdiv (IntKind.wrap .u64 ((IntKind.wrap .u64 (v2+v3))+1)) 2)) (IntKind.wrap .u64 (Int.tdiv (IntKind.wrap .u64 ((IntKind.wrap .u64 (v2+v3))+1)) 2))).1:Int) < (fQ (IntKind.wrap .u64 a0) 1099511627776).1)) then
    (.inl ((IntKind.wrap .u64 (Int.tdiv (IntKind.wrap .u64 ((IntKind.wrap .u64 (v2+v3))+1)) 2)),v3))
   else
    (bif (((fQ (IntKind.wrap .u64 (Int.tdiv (IntKind.wrap .u64 ((IntKind.wrap .u64 (v2+v3))+1)) 2)) (IntKind.wrap .u64 (Int.tdiv (IntKind.wrap .u64 ((IntKind.wrap .u64 (v2+v3))+1)) 2))).1:Int) == (fQ (IntKind.wrap .u64 a0) 1099511627776).1) then
     (bif (decide (((fQ (IntKind.wrap .u64 (Int.tdiv (IntKind.wrap .u64 ((IntKind.wrap .u64 (v2+v3))+1)) 2)) (IntKind.wrap .u64 (Int.tdiv (IntKind.wrap .u64 ((IntKind.wrap .u64 (v2+v3))+1)) 2))).2:Int)≤(fQ (IntKind.wrap .u64 a0) 1099511627776).2)) then
      (.inl ((IntKind.wrap .u64 (Int.tdiv (IntKind.wrap .u64 ((IntKind.wrap .u64 (v2+v3))+1)) 2)),v3))
     else
      (.inl (v2,(IntKind.wrap .u64 ((IntKind.wrap .u64 (Int.tdiv (IntKind.wrap .u64 ((IntKind.wrap .u64 (v2+v3))+1)) 2)) - 1)))))
    else
     (.inl (v2,(IntKind.wrap .u64 ((IntKind.wrap .u64 (Int.tdiv (IntKind.wrap .u64 ((IntKind.wrap .u64 (v2+v3))+1)) 2)) - 1))))))
  else
   (bif (((fQ v2 v2).1:Int) == (fQ (IntKind.wrap .u64 a0) 1099511627776).1) then
    (bif (((fQ v2 v2).2:Int) == (fQ (IntKind.wrap .u64 a0) 1099511627776).2) then
     (.inr ((iT (W v2) (W v2)).1,(iT (W v2) (W v2)).2))
    else
     (.inr ((iT (W v2) (W ((W v2)+1))).1,(iT (W v2) (W ((W v2)+1))).2)))
   else
    (.inr ((iT (W v2) (W ((W v2)+1))).1,(iT (W v2) (W ((W v2)+1))).2))))
theorem aYq (a0:Int) {cx:Cx} (hcx:cx.base=0):∀(n:Nat)(v2 v3:Int),(0≤v2)∧(0≤v2)∧(v2≤v3)∧(v3≤1099511627776)→toNat (v3 - v2) < n→Aw.Good Tryz.prog none 9 (bodyPost Tryz.prog Tryz.f114 (RR cx (.t [(.a (k2 (aB (eR a0) n (v2,v3)).1)),(iv (aB (eR a0) n (v2,v3)).2)]) [] [])) cx [] (.l xK n::xL) (rQ a0 v2 v3):=by
 intro n
 induction n with
 | zero=>intro v2 v3 hi hn;exact absurd hn (hO _)
 | succ n ih =>
   intro v2 v3 hi hn
   refine aG ?_
   have hw1:=um1 (a:=v2) (b:=v3) (by omega)
   have hw2:=fun h=>um2 (a:=v2) (b:=v3) h
   cases h0:(decide ((v2:Int) < v3)) with
   | true =>
    have q0:=bZ h0
    let t1:List (St Tryz.prog):=[.d h0,.p (show(2:Int)≠0 from by decide),.c [] (aUr (IntKind.wrap .u64 (Int.tdiv (IntKind.wrap .u64 ((IntKind.wrap .u64 (v2+v3))+1)) 2)) (IntKind.wrap .u64 (Int.tdiv (IntKind.wrap .u64 ((IntKind.wrap .u64 (v2+v3))+1)) 2)))]
    cases h1:(decide (((fQ (IntKind.wrap .u64 (Int.tdiv (IntKind.wrap .u64 ((IntKind.wrap .u64 (v2+v3))+1)) 2)) (IntKind.wrap .u64 (Int.tdiv (IntKind.wrap .u64 ((IntKind.wrap .u64 (v2+v3))+1)) 2))).1:Int) < (fQ (IntKind.wrap .u64 a0) 1099511627776).1)) with
    | true =>
     have q1:=bZ h1
     have e:=Eq.refl (eR a0 (v2,v3));conv at e=>rhs;simp only [eR,h0,h1,aI]
     rw [aA e]
     refine ba (t1++[.d h1]) [] [2,4,5,6,7] [0] hcx (m:=n) xK (xL) (rQ a0 (IntKind.wrap .u64 (Int.tdiv (IntKind.wrap .u64 ((IntKind.wrap .u64 (v2+v3))+1)) 2)) v3) (by kernel_rfl) ?_
     exact ih (IntKind.wrap .u64 (Int.tdiv (IntKind.wrap .u64 ((IntKind.wrap .u64 (v2+v3))+1)) 2)) v3 (by refine⟨?_,?_,?_,?_⟩<;>(try simp only [Ls])<;>first | omega | assumption | simp) (by(try simp only [Ls]);omega)
    | false =>
     have q1:=cI h1
     let t2:List (St Tryz.prog):=(t1++[.d h1])
     cases h2:(((fQ (IntKind.wrap .u64 (Int.tdiv (IntKind.wrap .u64 ((IntKind.wrap .u64 (v2+v3))+1)) 2)) (IntKind.wrap .u64 (Int.tdiv (IntKind.wrap .u64 ((IntKind.wrap .u64 (v2+v3))+1)) 2))).1:Int) == (fQ (IntKind.wrap .u64 a0) 1099511627776).1) with
     | true =>
      have q2:=eq_of_beq h2
      let t3:List (St Tryz.prog):=(t2++[.d h2])
      cases h3:(decide (((fQ (IntKind.wrap .u64 (Int.tdiv (IntKind.wrap .u64 ((IntKind.wrap .u64 (v2+v3))+1)) 2)) (IntKind.wrap .u64 (Int.tdiv (IntKind.wrap .u64 ((IntKind.wrap .u64 (v2+v3))+1)) 2))).2:Int)≤(fQ (IntKind.wrap .u64 a0) 1099511627776).2)) with
      | true =>
       have q3:=bZ h3
       have e:=Eq.refl (eR a0 (v2,v3));conv at e=>rhs;simp only [eR,h0,h1,h2,h3,aI]
       rw [aA e]
       refine ba (t3++[.d h3]) [] [2,4,5,6,7] [0] hcx (m:=n) xK (xL) (rQ a0 (IntKind.wrap .u64 (Int.tdiv (IntKind.wrap .u64 ((IntKind.wrap .u64 (v2+v3))+1)) 2)) v3) (by kernel_rfl) ?_
       exact ih (IntKind.wrap .u64 (Int.tdiv (IntKind.wrap .u64 ((IntKind.wrap .u64 (v2+v3))+1)) 2)) v3 (by refine⟨?_,?_,?_,?_⟩<;>(try simp only [Ls])<;>first | omega | assumption | simp) (by(try simp only [Ls]);omega)
      | false =>
       have q3:=cI h3
       have e:=Eq.refl (eR a0 (v2,v3));conv at e=>rhs;simp only [eR,h0,h1,h2,h3,aI]
       rw [aA e]
       refine ba (t3++[.d h3]) [] [2,4,5,6,7] [0] hcx (m:=n) xK (xL) (rQ a0 v2 (IntKind.wrap .u64 ((IntKind.wrap .u64 (Int.tdiv (IntKind.wrap .u64 ((IntKind.wrap .u64 (v2+v3))+1)) 2)) - 1))) (by kernel_rfl) ?_
       exact ih v2 (IntKind.wrap .u64 ((IntKind.wrap .u64 (Int.tdiv (IntKind.wrap .u64 ((IntKind.wrap .u64 (v2+v3))+1)) 2)) - 1)) (by refine⟨?_,?_,?_,?_⟩<;>(try simp only [Ls])<;>first | omega | assumption | simp) (by(try simp only [Ls]);omega)
     | false =>
      have q2:=ne_of_beq_false h2
      have e:=Eq.refl (eR a0 (v2,v3));conv at e=>rhs;simp only [eR,h0,h1,h2,aI]
      rw [aA e]
      refine ba (t2++[.d h2]) [] [2,4,5,6,7] [0] hcx (m:=n) xK (xL) (rQ a0 v2 (IntKind.wrap .u64 ((IntKind.wrap .u64 (Int.tdiv (IntKind.wrap .u64 ((IntKind.wrap .u64 (v2+v3))+1)) 2)) - 1))) (by kernel_rfl) ?_
      exact ih v2 (IntKind.wrap .u64 ((IntKind.wrap .u64 (Int.tdiv (IntKind.wrap .u64 ((IntKind.wrap .u64 (v2+v3))+1)) 2)) - 1)) (by refine⟨?_,?_,?_,?_⟩<;>(try simp only [Ls])<;>first | omega | assumption | simp) (by(try simp only [Ls]);omega)
   | false =>
    have q0:=cI h0
    let t1:List (St Tryz.prog):=[.d h0,.c [] (aUr v2 v2)]
    cases h1:(((fQ v2 v2).1:Int) == (fQ (IntKind.wrap .u64 a0) 1099511627776).1) with
    | true =>
     have q1:=eq_of_beq h1
     let t2:List (St Tryz.prog):=(t1++[.d h1])
     cases h2:(((fQ v2 v2).2:Int) == (fQ (IntKind.wrap .u64 a0) 1099511627776).2) with
     | true =>
      have q2:=eq_of_beq h2
      have e:=Eq.refl (eR a0 (v2,v3));conv at e=>rhs;simp only [eR,h0,h1,h2,aI]
      rw [aF,e]
      exact rt (t2++[.d h2,.c [] (aDr (W v2) (W v2))]) [] [] hcx (by kernel_rfl)
     | false =>
      have q2:=ne_of_beq_false h2
      have e:=Eq.refl (eR a0 (v2,v3));conv at e=>rhs;simp only [eR,h0,h1,h2,aI]
      rw [aF,e]
      exact rt (t2++[.d h2,.c [] (aDr (W v2) (W ((W v2)+1)))]) [] [] hcx (by kernel_rfl)
    | false =>
     have q1:=ne_of_beq_false h1
     have e:=Eq.refl (eR a0 (v2,v3));conv at e=>rhs;simp only [eR,h0,h1,aI]
     rw [aF,e]
     exact rt (t1++[.d h1,.c [] (aDr (W v2) (W ((W v2)+1)))]) [] [] hcx (by kernel_rfl)
def tV (a0:Int):(Int×Int)×Int :=
 (bif (!(nP a0 0 1099511627776)) then
  ((0,0),1)
 else
  (aB (eR a0) (toNat (1099511627776 - 0)+1) (0,1099511627776)))
theorem bFb (a0:Int):Con Tryz.prog 114 [(iv a0)] [] (.t [(.a (k2 (tV a0).1)),(iv (tV a0).2)]) []:=by
 refine aJ Tryz.func114 (by kernel_rfl) fun cx hcx=>?_
 let t0:List (St Tryz.prog):=[.c [] (aUi a0 0 1099511627776)]
 cases h0:(!(nP a0 0 1099511627776)) with
 | true =>
  have e:=Eq.refl (tV a0);conv at e=>rhs;simp only [tV,h0,aI]
  rw [e]
  exact rt (t0++[.d h0]) [] [] hcx (by kernel_rfl)
 | false =>
  have e:=Eq.refl (tV a0);conv at e=>rhs;simp only [tV,h0,aI]
  rw [e]
  refine en (t0++[.d h0,.c [] (aUr (IntKind.wrap .u64 a0) 1099511627776)]) [] [2,4,5,6,7] [0] hcx xK (xL) (rQ a0 0 1099511627776) (toNat (1099511627776 - 0)+1) (by kernel_rfl) ?_
  exact aYq a0 hcx (toNat (1099511627776 - 0)+1) 0 1099511627776 (by refine⟨?_,?_,?_,?_⟩<;>(try simp only [Ls])<;>first | omega | assumption | simp) (by(try simp only [Ls]);omega)
def zF (n r:Int):(Int×Int)×Int:=qJ r (if r*r=n*1099511627776 then r else r+1)
theorem aRt {n:Int} (h:0≤n∧n≤400000):∃r,IsRt (n*1099511627776) r∧xJ n=zF n r:=by
 have ha:=xC (n:=n) h.1 (by omega)
 unfold xJ
 rw [cR (by omega),cR (by omega),cond_false,cond_false]
 have hle:iI n≤1000:=ha.le (by omega) (by omega)
 have h0:=ha.1
 have h1:=ha.2.1
 have h2:=ha.2.2
 have p20:(2:Int) ^ (min (toNat 20) 64)=1048576:=by decide
 have p40:(2:Int) ^ (min (toNat 40) 64)=1099511627776:=by decide
 generalize ea:iI n=a at *
 have haa:0≤a*a:=Int.mul_nonneg h0 h0
 have ex:(a+1)*(a+1)=a*a+2*a+1:=by grind
 have key:∀f:Int,0≤f→f≤1048576→W ((W ((W ((W (2*a))*(W f)))*2 ^ (min (toNat 20) 64)))+(W ((W f)*(W f))))=(a*1048576+f)*(a*1048576+f) - a*a*1099511627776:=by
   intro f f0 f1
   have m1:=bD (a:=1000) (b:=1048576) (x:=a) (y:=f) ⟨by omega,by omega⟩ ⟨by omega,by omega⟩
   have m2:=bD (a:=1048576) (b:=1048576) (x:=f) (y:=f) ⟨by omega,by omega⟩ ⟨by omega,by omega⟩
   have e1:2*a*f=2*(a*f):=by grind
   rw [p20,aE (n:=f) (by omega) (by omega),aE (n:=2*a) (by omega) (by omega),e1,aE (n:=2*(a*f)) (by omega) (by omega),aE (n:=2*(a*f)*1048576) (by omega) (by omega),aE (n:=f*f) (by omega) (by omega),aE (by omega) (by omega)]
   grind
 have rest:W ((W (n - (W (a*a))))*2 ^ (min (toNat 40) 64))=n*1099511627776 - a*a*1099511627776:=by
   rw [p40,aE (n:=a*a) (by omega) (by omega),aE (n:=n - a*a) (by omega) (by omega),aE (by omega) (by omega)]
   omega
 have key0:∀f:Int,0≤f→f≤1048576→W ((W ((W ((W (2*a))*f))*2 ^ (min (toNat 20) 64)))+(W (f*f)))=(a*1048576+f)*(a*1048576+f) - a*a*1099511627776:=by
   intro f f0 f1
   have:=key f f0 f1
   rwa [aE (n:=f) (by omega) (by omega)] at this
 have A20:W (a*2 ^ (min (toNat 20) 64))=a*1048576:=by rw [p20,aE (by omega) (by omega)]
 obtain⟨f,f0,f1,g1,g2,e⟩:=bCh (p:=fun f=>(a*1048576+f)*(a*1048576+f)≤n*1099511627776) (G:=fun f=>zF n (a*1048576+f)) (M:=1048576) (S:=mQ n) (fun k b hk hb hkb=>by
     simp only [mQ,ea]
     rw [bY (show b > 0 from hb),cond_true,key (k+b) (by omega) (by omega),rest,aE (n:=k+b) (by omega) (by omega),Int.tdiv_eq_ediv_of_nonneg (by omega),aE (n:=b / 2) (by omega) (by omega)]
     by_cases hc:(a*1048576+(k+b))*(a*1048576+(k+b))≤n*1099511627776
     · rw [if_pos hc,bY (by omega),cond_true]
     · rw [if_neg hc,cR (by omega),cond_false])
   (fun k hk hk2=>by
     simp only [mQ,ea]
     rw [cR (by omega),cond_false,key0 k hk hk2,rest,A20,aE (n:=a*1048576+k) (by omega) (by omega),aE (n:=a*1048576+k+1) (by omega) (by omega)]
     unfold zF
     by_cases hc:(a*1048576+k)*(a*1048576+k)=n*1099511627776
     · rw [if_pos hc,hc,beq_self_eq_true,cond_true]
     · rw [if_neg hc,beq_eq_false_iff_ne.2 (by omega),cond_false])
   19 (toNat 524288+1) 0 (by decide) (by omega) (by decide) (by
     have:(a*1048576+0)*(a*1048576+0)=a*a*1099511627776:=by grind
     omega) (by
     have:(a*1048576+(0+2*2 ^ 19))*(a*1048576+(0+2*2 ^ 19))=(a+1)*(a+1)*1099511627776:=by grind
     rw [this];omega)
 refine⟨a*1048576+f,⟨by omega,g1,?_⟩,e⟩
 rw [show a*1048576+f+1=a*1048576+(f+1) by omega]
 omega
theorem bCk {n:Int} (h:0≤n∧n≤400000):∃r,IsRt (n*1099511627776) r∧tV n=zF n r:=by
 unfold tV
 have hw:(!nP n 0 1099511627776)=false:=by
   unfold nP
   rw [bY (show n≥0 from h.1),bY (show n≤1099511627776 by omega)];rfl
 rw [hw,cond_false]
 have un:IntKind.wrap .u64 n=n:=by rw [vS];omega
 have mm:∀k:Int,0≤k→k≤1099511627776→fQ k k=(k*k / 18446744073709551616,k*k % 18446744073709551616):=fun k k0 k1=>aQp ⟨k0,k1⟩ ⟨k0,k1⟩
 have mn:fQ (IntKind.wrap .u64 n) 1099511627776=(n*1099511627776 / 18446744073709551616,n*1099511627776 % 18446744073709551616):=by
   rw [un];exact aQp ⟨h.1,by omega⟩ ⟨by omega,by omega⟩
 obtain⟨r,r0,r1,g1,g2,e⟩:=bCi (p:=fun k=>k*k≤n*1099511627776) (G:=fun r=>zF n r) (M:=1099511627776) (S:=eR n) (fun a b ha hab hb=>by
     have wm:IntKind.wrap .u64 ((a+b+1) / 2 - 1)=(a+b+1) / 2 - 1:=by rw [vS,Int.emod_eq_of_lt (by omega) (by omega)]
     simp only [eR,um1 (a:=a) (b:=b) (by omega),wm,mn]
     rw [mm ((a+b+1) / 2) (by omega) (by omega),bY hab,cond_true]
     simp only
     generalize (a+b+1) / 2*((a+b+1) / 2)=X
     generalize n*1099511627776=N
     by_cases hc:X≤N
     · rw [if_pos hc]
       by_cases c1:X / 18446744073709551616 < N / 18446744073709551616
       · rw [bY c1,cond_true]
       · rw [cR c1,cond_false,beq_iff_eq.2 (show X / 18446744073709551616=N / 18446744073709551616 by omega),cond_true,bY (by omega),cond_true]
     · rw [if_neg hc,cR (by omega),cond_false]
       by_cases c1:X / 18446744073709551616=N / 18446744073709551616
       · rw [beq_iff_eq.2 c1,cond_true,cR (by omega),cond_false]
       · rw [beq_eq_false_iff_ne.2 c1,cond_false])
   (fun a ha ha2=>by
     simp only [eR,mn]
     rw [mm a ha ha2,cR (by omega),cond_false,aE (n:=a) (by omega) (by omega),aE (n:=a+1) (by omega) (by omega)]
     unfold zF
     simp only
     generalize a*a=X
     generalize n*1099511627776=N
     by_cases hc:X=N
     · rw [if_pos hc,hc,beq_self_eq_true,cond_true,beq_self_eq_true,cond_true];rfl
     · rw [if_neg hc]
       by_cases c1:X / 18446744073709551616=N / 18446744073709551616
       · rw [beq_iff_eq.2 c1,cond_true,beq_eq_false_iff_ne.2 (by omega),cond_false];rfl
       · rw [beq_eq_false_iff_ne.2 c1,cond_false];rfl)
   (toNat (1099511627776 - 0)+1) 0 1099511627776 (by omega) (by omega) (by omega) (by omega) (by omega) (by omega)
 exact⟨r,⟨r0,g1,by omega⟩,e⟩
theorem aYr {n:Int} (h:0≤n∧n≤400000):xJ n=tV n:=by
 obtain⟨r,h1,e1⟩:=aRt h
 obtain⟨s,h2,e2⟩:=bCk h
 rw [e1,e2,h1.eq h2]
theorem oP {m:ME} (h:((fR m:Int) != 0)=false):1≤m.1.length∧m.1.length≤64:=by
 obtain⟨h1,h2,h3,_,h4⟩:=iG (bne_eq_false_iff_eq.1 h)
 have:=(qN h).1 0 (Int.le_refl 0) (by omega)
 exact⟨by omega,h1⟩
theorem aU2 {m:ME} {k:Int} (h:lZ m k)(i:Int):(0≤i∧i < k)→((0≤(m.2.getD (toNat i) default).1∧(m.2.getD (toNat i) default).1 < (m.1.length:Int))∧(0≤(m.2.getD (toNat i) default).2.1∧(m.2.getD (toNat i) default).2.1 < (m.1.length:Int))∧0≤(m.2.getD (toNat i) default).2.2∧(m.2.getD (toNat i) default).2.2 < (m.1.length:Int)):=fun g=>h i g.1 g.2
def pD (a0:Int)(a1:Int)(a2:Int):Bool :=
 (bif (decide ((a0:Int)≥a1)) then
  (decide ((a0:Int)≤a2))
 else
  false)
theorem C55 (a0:Int)(a1:Int)(a2:Int):Con Tryz.prog 55 [(iv a0),(iv a1),(iv a2)] [] (.v (.bool (pD a0 a1 a2))) []:=by
 refine aJ Tryz.func55 (by kernel_rfl) fun cx hcx=>?_
 cases h0:(decide ((a0:Int)≥a1)) with
 | true =>
  have q0:=bZ h0
  have e:=Eq.refl (pD a0 a1 a2);conv at e=>rhs;simp only [pD,h0,aI]
  rw [e]
  exact rt [.d h0] [] [] hcx (by kernel_rfl)
 | false =>
  have q0:=cI h0
  have e:=Eq.refl (pD a0 a1 a2);conv at e=>rhs;simp only [pD,h0,aI]
  rw [e]
  exact rt [.d h0] [] [] hcx (by kernel_rfl)
def F52 (a0:Int)(a1:Int)(a2:Int):Bool :=
 (bif (decide ((a0:Int)≥a1)) then
  (decide ((a0:Int)≤a2))
 else
  false)
theorem C52 (a0:Int)(a1:Int)(a2:Int):Con Tryz.prog 52 [(iv a0),(iv a1),(iv a2)] [] (.v (.bool (F52 a0 a1 a2))) []:=by
 refine aJ Tryz.func52 (by kernel_rfl) fun cx hcx=>?_
 cases h0:(decide ((a0:Int)≥a1)) with
 | true =>
  have q0:=bZ h0
  have e:=Eq.refl (F52 a0 a1 a2);conv at e=>rhs;simp only [F52,h0,aI]
  rw [e]
  exact rt [.d h0] [] [] hcx (by kernel_rfl)
 | false =>
  have q0:=cI h0
  have e:=Eq.refl (F52 a0 a1 a2);conv at e=>rhs;simp only [F52,h0,aI]
  rw [e]
  exact rt [.d h0] [] [] hcx (by kernel_rfl)
theorem qO {d:Int} {a b:Int} (h:(!pD d a b)=false):a≤d∧d≤b:=by
 unfold pD at h
 by_cases h1:d≥a
 · by_cases h2:d≤b
   · exact⟨h1,h2⟩
   · rw [bY h1,cR h2] at h;simp at h
 · rw [cR h1] at h;simp at h
theorem aCk {d:Int} {a b:Int} (h:(!F52 d a b)=false):a≤d∧d≤b:=qO h
noncomputable def aGk:Code:=(aD [1,1,1,1,0,1] [] (aH Tryz.f58) []).1
noncomputable def aGl:List K:=(aD [1,1,1,1,0,1] [] (aH Tryz.f58) []).2
def aCl (a0:Zm)(a1:List (Int))(v1 v2:Int):LS:=⟨iJ 35 [(6,(iv v1)),(20,(.s 2 0 a1.length 1)),(21,(iv (a1.length:Int))),(22,(iv v2))],[(.live false true (flat dX a0.1)),(.live false true (flat fA a0.2)),(.live false true (flat c3 a1))]⟩
def gV (a0:Zm)(a1:List (Int)):Int×Int→(Int×Int)⊕(Int)
 | (v1,v2) =>
  (bif (decide ((v2:Int) < (a1.length:Int))) then
   (bif (!(pD (a1.getD (toNat v2) default) 0 100)) then
    (.inr 1)
   else
    (.inl ((W (v1+(a1.getD (toNat v2) default))),(v2+1))))
  else
   (bif ((v1:Int) == 0) then
    (.inr 11)
   else
    (.inr 0)))
theorem aU3 (a0:Zm)(a1:List (Int))(l0_1:a0.1.length≤9223372036854775807)(l0_2:a0.2.length≤9223372036854775807)(l1:a1.length≤9223372036854775807) {cx:Cx} (hcx:cx.base=3):∀(n:Nat)(v1 v2:Int),0≤v2→toNat ((a1.length:Int) - v2) < n→Aw.Good Tryz.prog none 9 (bodyPost Tryz.prog Tryz.f58 (RR cx (iv (aB (gV a0 a1) n (v1,v2))) [] [])) cx [] (.l aGk n::aGl) (aCl a0 a1 v1 v2):=by
 intro n
 induction n with
 | zero=>intro v1 v2 hi hn;exact absurd hn (hO _)
 | succ n ih =>
   intro v1 v2 hi hn
   refine aG ?_
   cases h0:(decide ((v2:Int) < (a1.length:Int))) with
   | true =>
    have q0:=bZ h0
    let t1:List (St Tryz.prog):=[.d h0,.i v2 (a1.length),.L dT a1 v2 0 1,.c [] (C55 (a1.getD (toNat v2) default) 0 100)]
    cases h1:(!(pD (a1.getD (toNat v2) default) 0 100)) with
    | true =>
     have e:=Eq.refl (gV a0 a1 (v1,v2));conv at e=>rhs;simp only [gV,h0,h1,aI]
     rw [aF,e]
     exact rt (t1++[.d h1]) [] [] hcx (by kernel_rfl)
    | false =>
     have e:=Eq.refl (gV a0 a1 (v1,v2));conv at e=>rhs;simp only [gV,h0,h1,aI]
     rw [aA e]
     refine ba (t1++[.d h1]) [] [6,20,21,22] [] hcx (m:=n) aGk (aGl) (aCl a0 a1 (W (v1+(a1.getD (toNat v2) default))) (W (v2+1))) (by kernel_rfl) ?_
     have z0:(W (v2+1))=(v2+1):=aE (by omega) (by omega)
     rw [z0]
     exact ih (W (v1+(a1.getD (toNat v2) default))) (v2+1) (by(try simp only [Ls]);omega) (by(try simp only [Ls]);omega)
   | false =>
    have q0:=cI h0
    let t1:List (St Tryz.prog):=[.d h0]
    cases h1:((v1:Int) == 0) with
    | true =>
     have q1:=eq_of_beq h1
     have e:=Eq.refl (gV a0 a1 (v1,v2));conv at e=>rhs;simp only [gV,h0,h1,aI]
     rw [aF,e]
     exact rt (t1++[.d h1]) [] [] hcx (by kernel_rfl)
    | false =>
     have q1:=ne_of_beq_false h1
     have e:=Eq.refl (gV a0 a1 (v1,v2));conv at e=>rhs;simp only [gV,h0,h1,aI]
     rw [aF,e]
     exact rt (t1++[.d h1]) [] [] hcx (by kernel_rfl)
def nV (a0:Zm)(a1:List (Int)):Int :=
 (bif (((fR (a0.1,a0.2)):Int) != 0) then
  (fR (a0.1,a0.2))
 else
  (bif (((a1.length:Int):Int) != (a0.2.length:Int)) then
   1
  else
   (aB (gV a0 a1) (toNat ((a1.length:Int) - 0)+1) (0,0))))
theorem bCl (a0:Zm)(a1:List (Int))(l0_1:a0.1.length≤9223372036854775807)(l0_2:a0.2.length≤9223372036854775807)(l1:a1.length≤9223372036854775807):Con Tryz.prog 58 [(.a [(.s 0 0 a0.1.length 3),(.s 1 0 a0.2.length 3)]),(.s 2 0 a1.length 1)] [(.live false true (flat dX a0.1)),(.live false true (flat fA a0.2)),(.live false true (flat c3 a1))] (iv (nV a0 a1)) []:=by
 refine aJ Tryz.func58 (by kernel_rfl) fun cx hcx=>?_
 let t0:List (St Tryz.prog):=[.c [0,1] (C35 (a0.1,a0.2) (by(try simp only [Lt]);omega) (by(try simp only [Lt]);omega))]
 cases h0:(((fR (a0.1,a0.2)):Int) != 0) with
 | true =>
  have q0:=bne_iff_ne.1 h0
  have e:=Eq.refl (nV a0 a1);conv at e=>rhs;simp only [nV,h0,aI]
  rw [e]
  exact rt (t0++[.d h0]) [] [] hcx (by kernel_rfl)
 | false =>
  have q0:=bne_eq_false_iff_eq.1 h0
  let t1:List (St Tryz.prog):=(t0++[.d h0])
  cases h1:(((a1.length:Int):Int) != (a0.2.length:Int)) with
  | true =>
   have q1:=bne_iff_ne.1 h1
   have e:=Eq.refl (nV a0 a1);conv at e=>rhs;simp only [nV,h0,h1,aI]
   rw [e]
   exact rt (t1++[.d h1]) [] [] hcx (by kernel_rfl)
  | false =>
   have q1:=bne_eq_false_iff_eq.1 h1
   have e:=Eq.refl (nV a0 a1);conv at e=>rhs;simp only [nV,h0,h1,aI]
   rw [e]
   refine en (t1++[.d h1]) [] [6,20,21,22] [] hcx aGk (aGl) (aCl a0 a1 0 0) (toNat ((a1.length:Int) - 0)+1) (by kernel_rfl) ?_
   exact aU3 a0 a1 l0_1 l0_2 l1 hcx (toNat ((a1.length:Int) - 0)+1) 0 0 (by(try simp only [Ls]);omega) (by(try simp only [Ls]);omega)
def gG (a0:Zm)(a1:List (Int))(a2:Int):Int :=
 (bif (((nV (a0.1,a0.2) a1):Int) != 0) then
  (nV (a0.1,a0.2) a1)
 else
  (bif (!(pD a2 0 2)) then
   1
  else
   0))
theorem bCm (a0:Zm)(a1:List (Int))(a2:Int)(l0_1:a0.1.length≤9223372036854775807)(l0_2:a0.2.length≤9223372036854775807)(l1:a1.length≤9223372036854775807):Con Tryz.prog 32 [(.a [(.s 0 0 a0.1.length 3),(.s 1 0 a0.2.length 3)]),(.s 2 0 a1.length 1),(iv a2)] [(.live false true (flat dX a0.1)),(.live false true (flat fA a0.2)),(.live false true (flat c3 a1))] (iv (gG a0 a1 a2)) []:=by
 refine aJ Tryz.func32 (by kernel_rfl) fun cx hcx=>?_
 let t0:List (St Tryz.prog):=[.c [0,1,2] (bCl (a0.1,a0.2) a1 (by(try simp only [Lt]);omega) (by(try simp only [Lt]);omega) (by omega))]
 cases h0:(((nV (a0.1,a0.2) a1):Int) != 0) with
 | true =>
  have q0:=bne_iff_ne.1 h0
  have e:=Eq.refl (gG a0 a1 a2);conv at e=>rhs;simp only [gG,h0,aI]
  rw [e]
  exact rt (t0++[.d h0]) [] [] hcx (by kernel_rfl)
 | false =>
  have q0:=bne_eq_false_iff_eq.1 h0
  let t1:List (St Tryz.prog):=(t0++[.d h0,.c [] (C55 a2 0 2)])
  cases h1:(!(pD a2 0 2)) with
  | true =>
   have e:=Eq.refl (gG a0 a1 a2);conv at e=>rhs;simp only [gG,h0,h1,aI]
   rw [e]
   exact rt (t1++[.d h1]) [] [] hcx (by kernel_rfl)
  | false =>
   have e:=Eq.refl (gG a0 a1 a2);conv at e=>rhs;simp only [gG,h0,h1,aI]
   rw [e]
   exact rt (t1++[.d h1]) [] [] hcx (by kernel_rfl)
def F97 (a0:Int):Int×Int :=
 (bif (decide ((a0:Int) > 1099511627776)) then
  (0,4)
 else
  (a0,0))
theorem C97 (a0:Int):Con Tryz.prog 97 [(iv a0)] [] (.t (k2 (F97 a0))) []:=by
 refine aJ Tryz.func97 (by kernel_rfl) fun cx hcx=>?_
 cases h0:(decide ((a0:Int) > 1099511627776)) with
 | true =>
  have q0:=bZ h0
  have e:=Eq.refl (F97 a0);conv at e=>rhs;simp only [F97,h0,aI]
  rw [e]
  exact rt [.d h0] [] [] hcx (by kernel_rfl)
 | false =>
  have q0:=cI h0
  have e:=Eq.refl (F97 a0);conv at e=>rhs;simp only [F97,h0,aI]
  rw [e]
  exact rt [.d h0] [] [] hcx (by kernel_rfl)
noncomputable def aGm:Code:=(aD [1,1,0,1] [] (aH Tryz.f98) []).1
noncomputable def aGn:List K:=(aD [1,1,0,1] [] (aH Tryz.f98) []).2
def aCm (a0:List (Int))(v1 v2:Int):LS:=⟨iJ 19 [(3,(iv v1)),(6,(.s 0 0 a0.length 1)),(7,(iv (a0.length:Int))),(8,(iv v2))],[(.live false true (flat c3 a0))]⟩
def mT (a0:List (Int)):Int×Int→(Int×Int)⊕(Int)
 | (v1,v2) =>
  (bif (decide ((v2:Int) < (a0.length:Int))) then
   (.inl ((W (v1+(a0.getD (toNat v2) default))),(v2+1)))
  else
   (.inr (W ((W (v1*1048576))*1048576))))
theorem aU4 (a0:List (Int))(l0:a0.length≤9223372036854775807) {cx:Cx} (hcx:cx.base=1):∀(n:Nat)(v1 v2:Int),0≤v2→toNat ((a0.length:Int) - v2) < n→Aw.Good Tryz.prog none 9 (bodyPost Tryz.prog Tryz.f98 (RR cx (iv (aB (mT a0) n (v1,v2))) [] [])) cx [] (.l aGm n::aGn) (aCm a0 v1 v2):=by
 intro n
 induction n with
 | zero=>intro v1 v2 hi hn;exact absurd hn (hO _)
 | succ n ih =>
   intro v1 v2 hi hn
   refine aG ?_
   cases h0:(decide ((v2:Int) < (a0.length:Int))) with
   | true =>
    have q0:=bZ h0
    have e:=Eq.refl (mT a0 (v1,v2));conv at e=>rhs;simp only [mT,h0,aI]
    rw [aA e]
    refine ba [.d h0,.i v2 (a0.length),.L dT a0 v2 0 1] [] [3,6,7,8] [] hcx (m:=n) aGm (aGn) (aCm a0 (W (v1+(a0.getD (toNat v2) default))) (W (v2+1))) (by kernel_rfl) ?_
    have z0:(W (v2+1))=(v2+1):=aE (by omega) (by omega)
    rw [z0]
    exact ih (W (v1+(a0.getD (toNat v2) default))) (v2+1) (by(try simp only [Ls]);omega) (by(try simp only [Ls]);omega)
   | false =>
    have q0:=cI h0
    have e:=Eq.refl (mT a0 (v1,v2));conv at e=>rhs;simp only [mT,h0,aI]
    rw [aF,e]
    exact rt [.d h0] [] [] hcx (by kernel_rfl)
def cO (a0:List (Int)):Int :=
 (aB (mT a0) (toNat ((a0.length:Int) - 0)+1) (0,0))
theorem aRu (a0:List (Int))(l0:a0.length≤9223372036854775807):Con Tryz.prog 98 [(.s 0 0 a0.length 1)] [(.live false true (flat c3 a0))] (iv (cO a0)) []:=by
 refine aJ Tryz.func98 (by kernel_rfl) fun cx hcx=>?_
 have e:=Eq.refl (cO a0);conv at e=>rhs;simp only [cO]
 rw [e]
 refine en [] [] [3,6,7,8] [] hcx aGm (aGn) (aCm a0 0 0) (toNat ((a0.length:Int) - 0)+1) (by kernel_rfl) ?_
 exact aU4 a0 l0 hcx (toNat ((a0.length:Int) - 0)+1) 0 0 (by(try simp only [Ls]);omega) (by(try simp only [Ls]);omega)
noncomputable def aRv:Code:=(aD [1,1,1,1,0,1] [] (aH Tryz.f28) []).1
noncomputable def aRw:List K:=(aD [1,1,1,1,0,1] [] (aH Tryz.f28) []).2
def aK9 (a0:Zm)(a1:Zt)(v1 v2:Int):LS:=⟨iJ 82 [(3,(.p 2 0)),(9,(iv v1)),(39,(.s 0 0 a0.1.length 3)),(40,(iv (a0.1.length:Int))),(41,(iv v2))],[(.live false true (flat dX a0.1)),(.live false true (flat fA a0.2)),(.live true false (k3 a1))]⟩
def pE (a0:Zm)(a1:Zt):Int×Int→(Int×Int)⊕(Int×Int)
 | (v1,v2) =>
  (bif (decide ((v2:Int) < (a0.1.length:Int))) then
   (.inl ((iN v1 (W ((W ((W ((W ((a0.1.getD (toNat v2) default).1 - a1.1))*(W ((a0.1.getD (toNat v2) default).1 - a1.1))))+(W ((W ((a0.1.getD (toNat v2) default).2.1 - a1.2.1))*(W ((a0.1.getD (toNat v2) default).2.1 - a1.2.1))))))+(W ((W ((a0.1.getD (toNat v2) default).2.2 - a1.2.2))*(W ((a0.1.getD (toNat v2) default).2.2 - a1.2.2))))))),(v2+1)))
  else
   (.inr ((xJ v1).1.2,(xJ v1).2)))
theorem bCn (a0:Zm)(a1:Zt)(l0_1:a0.1.length≤9223372036854775807)(l0_2:a0.2.length≤9223372036854775807) {cx:Cx} (hcx:cx.base=2):∀(n:Nat)(v1 v2:Int),0≤v2→toNat ((a0.1.length:Int) - v2) < n→Aw.Good Tryz.prog none 9 (bodyPost Tryz.prog Tryz.f28 (RR cx (.t (k2 (aB (pE a0 a1) n (v1,v2)))) [] [])) cx [] (.l aRv n::aRw) (aK9 a0 a1 v1 v2):=by
 intro n
 induction n with
 | zero=>intro v1 v2 hi hn;exact absurd hn (hO _)
 | succ n ih =>
   intro v1 v2 hi hn
   refine aG ?_
   cases h0:(decide ((v2:Int) < (a0.1.length:Int))) with
   | true =>
    have q0:=bZ h0
    have e:=Eq.refl (pE a0 a1 (v1,v2));conv at e=>rhs;simp only [pE,h0,aI]
    rw [aA e]
    refine ba [.d h0,.i v2 (a0.1.length),.L bN a0.1 v2 0 3] [] [3,9,39,40,41] [2] hcx (m:=n) aRv (aRw) (aK9 a0 a1 (iN v1 (W ((W ((W ((W ((a0.1.getD (toNat v2) default).1 - a1.1))*(W ((a0.1.getD (toNat v2) default).1 - a1.1))))+(W ((W ((a0.1.getD (toNat v2) default).2.1 - a1.2.1))*(W ((a0.1.getD (toNat v2) default).2.1 - a1.2.1))))))+(W ((W ((a0.1.getD (toNat v2) default).2.2 - a1.2.2))*(W ((a0.1.getD (toNat v2) default).2.2 - a1.2.2))))))) (W (v2+1))) (by kernel_rfl) ?_
    have z0:(W (v2+1))=(v2+1):=aE (by omega) (by omega)
    rw [z0]
    exact ih (iN v1 (W ((W ((W ((W ((a0.1.getD (toNat v2) default).1 - a1.1))*(W ((a0.1.getD (toNat v2) default).1 - a1.1))))+(W ((W ((a0.1.getD (toNat v2) default).2.1 - a1.2.1))*(W ((a0.1.getD (toNat v2) default).2.1 - a1.2.1))))))+(W ((W ((a0.1.getD (toNat v2) default).2.2 - a1.2.2))*(W ((a0.1.getD (toNat v2) default).2.2 - a1.2.2))))))) (v2+1) (by(try simp only [Ls]);omega) (by(try simp only [Ls]);omega)
   | false =>
    have q0:=cI h0
    have e:=Eq.refl (pE a0 a1 (v1,v2));conv at e=>rhs;simp only [pE,h0,aI]
    rw [aF,e]
    exact rt [.d h0,.c [] (C56 v1)] [] [] hcx (by kernel_rfl)
def tW (a0:Zm)(a1:Zt):Int×Int :=
 (bif (((fR (a0.1,a0.2)):Int) != 0) then
  (0,(fR (a0.1,a0.2)))
 else
  (bif (!(pD a1.1 (-256) 256)) then
   (0,1)
  else
   (bif (!(pD a1.2.1 (-256) 256)) then
    (0,1)
   else
    (bif (!(pD a1.2.2 (-256) 256)) then
     (0,1)
    else
     (aB (pE a0 a1) (toNat ((a0.1.length:Int) - 0)+1) (0,0))))))
theorem C28 (a0:Zm)(a1:Zt)(l0_1:a0.1.length≤9223372036854775807)(l0_2:a0.2.length≤9223372036854775807):Con Tryz.prog 28 [(.a [(.s 0 0 a0.1.length 3),(.s 1 0 a0.2.length 3)]),(.a (k3 a1))] [(.live false true (flat dX a0.1)),(.live false true (flat fA a0.2))] (.t (k2 (tW a0 a1))) []:=by
 refine aJ Tryz.func28 (by kernel_rfl) fun cx hcx=>?_
 let t0:List (St Tryz.prog):=[.c [0,1] (C35 (a0.1,a0.2) (by(try simp only [Lt]);omega) (by(try simp only [Lt]);omega))]
 cases h0:(((fR (a0.1,a0.2)):Int) != 0) with
 | true =>
  have q0:=bne_iff_ne.1 h0
  have e:=Eq.refl (tW a0 a1);conv at e=>rhs;simp only [tW,h0,aI]
  rw [e]
  exact rt (t0++[.d h0]) [] [] hcx (by kernel_rfl)
 | false =>
  have q0:=bne_eq_false_iff_eq.1 h0
  let t1:List (St Tryz.prog):=(t0++[.d h0,.u 200,.T,.i 0 3 (by decide),.c [] (C55 a1.1 (-256) 256)])
  cases h1:(!(pD a1.1 (-256) 256)) with
  | true =>
   have e:=Eq.refl (tW a0 a1);conv at e=>rhs;simp only [tW,h0,h1,aI]
   rw [e]
   exact rt (t1++[.d h1]) [] [] hcx (by kernel_rfl)
  | false =>
   let t2:List (St Tryz.prog):=(t1++[.d h1,.u 0,.T,.i 1 3 (by decide),.c [] (C55 a1.2.1 (-256) 256)])
   cases h2:(!(pD a1.2.1 (-256) 256)) with
   | true =>
    have e:=Eq.refl (tW a0 a1);conv at e=>rhs;simp only [tW,h0,h1,h2,aI]
    rw [e]
    exact rt (t2++[.d h2]) [] [] hcx (by kernel_rfl)
   | false =>
    let t3:List (St Tryz.prog):=(t2++[.d h2,.u 0,.T,.i 2 3 (by decide),.c [] (C55 a1.2.2 (-256) 256)])
    cases h3:(!(pD a1.2.2 (-256) 256)) with
    | true =>
     have e:=Eq.refl (tW a0 a1);conv at e=>rhs;simp only [tW,h0,h1,h2,h3,aI]
     rw [e]
     exact rt (t3++[.d h3]) [] [] hcx (by kernel_rfl)
    | false =>
     have e:=Eq.refl (tW a0 a1);conv at e=>rhs;simp only [tW,h0,h1,h2,h3,aI]
     rw [e]
     refine en (t3++[.d h3,.u 0,.F]) [] [3,9,39,40,41] [3] hcx aRv (aRw) (aK9 a0 a1 0 0) (toNat ((a0.1.length:Int) - 0)+1) (by kernel_rfl) ?_
     exact bCn a0 a1 l0_1 l0_2 hcx (toNat ((a0.1.length:Int) - 0)+1) 0 0 (by(try simp only [Ls]);omega) (by(try simp only [Ls]);omega)
noncomputable def aRx:Code:=(aD [1,1,1,0,1] [] (aH Tryz.f62) []).1
noncomputable def aRy:List K:=(aD [1,1,1,0,1] [] (aH Tryz.f62) []).2
def aLa (a0:Zm)(v1 v2 v3 v4 v5 v6 v7:Int):LS:=⟨iJ 65 [(2,(.p 2 0)),(3,(.p 3 0)),(24,(.s 0 0 a0.1.length 3)),(25,(iv (a0.1.length:Int))),(26,(iv v1))],[(.live false true (flat dX a0.1)),(.live false true (flat fA a0.2)),(.live true false [(iv v2),(iv v3),(iv v4)]),(.live true false [(iv v5),(iv v6),(iv v7)])]⟩
def qP (a0:Zm):Int×Int×Int×Int×Zt→(Int×Int×Int×Int×Zt)⊕(Zt×Zt×Int)
 | (v1,v2,v3,v4,v5,v6,v7) =>
  (bif (decide ((v1:Int) < (a0.1.length:Int))) then
   (.inl ((v1+1),(if((a0.1.getD (toNat v1) default).1:Int) < v2 then(a0.1.getD (toNat v1) default).1 else v2),(if((a0.1.getD (toNat v1) default).2.1:Int) < v3 then(a0.1.getD (toNat v1) default).2.1 else v3),(if((a0.1.getD (toNat v1) default).2.2:Int) < v4 then(a0.1.getD (toNat v1) default).2.2 else v4),(if(v5:Int) < (a0.1.getD (toNat v1) default).1 then(a0.1.getD (toNat v1) default).1 else v5),(if(v6:Int) < (a0.1.getD (toNat v1) default).2.1 then(a0.1.getD (toNat v1) default).2.1 else v6),(if(v7:Int) < (a0.1.getD (toNat v1) default).2.2 then(a0.1.getD (toNat v1) default).2.2 else v7)))
  else
   (.inr ((v2,v3,v4),(v5,v6,v7),0)))
theorem bCo (a0:Zm)(l0_1:a0.1.length≤9223372036854775807)(l0_2:a0.2.length≤9223372036854775807) {cx:Cx} (hcx:cx.base=2):∀(n:Nat)(v1 v2 v3 v4 v5 v6 v7:Int),0≤v1→toNat ((a0.1.length:Int) - v1) < n→Aw.Good Tryz.prog none 9 (bodyPost Tryz.prog Tryz.f62 (RR cx (.t [(.a (k3 (aB (qP a0) n (v1,v2,v3,v4,v5,v6,v7)).1)),(.a (k3 (aB (qP a0) n (v1,v2,v3,v4,v5,v6,v7)).2.1)),(iv (aB (qP a0) n (v1,v2,v3,v4,v5,v6,v7)).2.2)]) [] [])) cx [] (.l aRx n::aRy) (aLa a0 v1 v2 v3 v4 v5 v6 v7):=by
 intro n
 induction n with
 | zero=>intro v1 v2 v3 v4 v5 v6 v7 hi hn;exact absurd hn (hO _)
 | succ n ih =>
   intro v1 v2 v3 v4 v5 v6 v7 hi hn
   refine aG ?_
   cases h0:(decide ((v1:Int) < (a0.1.length:Int))) with
   | true =>
    have q0:=bZ h0
    have e:=Eq.refl (qP a0 (v1,v2,v3,v4,v5,v6,v7));conv at e=>rhs;simp only [qP,h0,aI]
    rw [aA e]
    refine ba [.d h0,.i v1 (a0.1.length),.L bN a0.1 v1 0 3] [] [2,3,24,25,26] [2,3] hcx (m:=n) aRx (aRy) (aLa a0 (W (v1+1)) (if((a0.1.getD (toNat v1) default).1:Int) < v2 then(a0.1.getD (toNat v1) default).1 else v2) (if((a0.1.getD (toNat v1) default).2.1:Int) < v3 then(a0.1.getD (toNat v1) default).2.1 else v3) (if((a0.1.getD (toNat v1) default).2.2:Int) < v4 then(a0.1.getD (toNat v1) default).2.2 else v4) (if(v5:Int) < (a0.1.getD (toNat v1) default).1 then(a0.1.getD (toNat v1) default).1 else v5) (if(v6:Int) < (a0.1.getD (toNat v1) default).2.1 then(a0.1.getD (toNat v1) default).2.1 else v6) (if(v7:Int) < (a0.1.getD (toNat v1) default).2.2 then(a0.1.getD (toNat v1) default).2.2 else v7)) (by kernel_rfl) ?_
    have z0:(W (v1+1))=(v1+1):=aE (by omega) (by omega)
    rw [z0]
    exact ih (v1+1) (if((a0.1.getD (toNat v1) default).1:Int) < v2 then(a0.1.getD (toNat v1) default).1 else v2) (if((a0.1.getD (toNat v1) default).2.1:Int) < v3 then(a0.1.getD (toNat v1) default).2.1 else v3) (if((a0.1.getD (toNat v1) default).2.2:Int) < v4 then(a0.1.getD (toNat v1) default).2.2 else v4) (if(v5:Int) < (a0.1.getD (toNat v1) default).1 then(a0.1.getD (toNat v1) default).1 else v5) (if(v6:Int) < (a0.1.getD (toNat v1) default).2.1 then(a0.1.getD (toNat v1) default).2.1 else v6) (if(v7:Int) < (a0.1.getD (toNat v1) default).2.2 then(a0.1.getD (toNat v1) default).2.2 else v7) (by(try simp only [Ls]);omega) (by(try simp only [Ls]);omega)
   | false =>
    have q0:=cI h0
    have e:=Eq.refl (qP a0 (v1,v2,v3,v4,v5,v6,v7));conv at e=>rhs;simp only [qP,h0,aI]
    rw [aF,e]
    exact rt [.d h0] [] [] hcx (by kernel_rfl)
def sT (a0:Zm):Zt×Zt×Int :=
 (bif (((fR (a0.1,a0.2)):Int) != 0) then
  ((0,0,0),(0,0,0),(fR (a0.1,a0.2)))
 else
  (aB (qP a0) (toNat ((a0.1.length:Int) - 0)+1) (0,(a0.1.getD (toNat 0) default).1,(a0.1.getD (toNat 0) default).2.1,(a0.1.getD (toNat 0) default).2.2,(a0.1.getD (toNat 0) default).1,(a0.1.getD (toNat 0) default).2.1,(a0.1.getD (toNat 0) default).2.2)))
theorem C62 (a0:Zm)(l0_1:a0.1.length≤9223372036854775807)(l0_2:a0.2.length≤9223372036854775807):Con Tryz.prog 62 [(.a [(.s 0 0 a0.1.length 3),(.s 1 0 a0.2.length 3)])] [(.live false true (flat dX a0.1)),(.live false true (flat fA a0.2))] (.t [(.a (k3 (sT a0).1)),(.a (k3 (sT a0).2.1)),(iv (sT a0).2.2)]) []:=by
 refine aJ Tryz.func62 (by kernel_rfl) fun cx hcx=>?_
 try have hp1:1≤a0.1.length:=(oP h0).1
 let t0:List (St Tryz.prog):=[.c [0,1] (C35 (a0.1,a0.2) (by(try simp only [Lt]);omega) (by(try simp only [Lt]);omega))]
 cases h0:(((fR (a0.1,a0.2)):Int) != 0) with
 | true =>
  have q0:=bne_iff_ne.1 h0
  try have hp1:1≤a0.1.length:=(oP h0).1
  have e:=Eq.refl (sT a0);conv at e=>rhs;simp only [sT,h0,aI]
  rw [e]
  exact rt (t0++[.d h0]) [] [] hcx (by kernel_rfl)
 | false =>
  have q0:=bne_eq_false_iff_eq.1 h0
  try have hp1:1≤a0.1.length:=(oP h0).1
  have e:=Eq.refl (sT a0);conv at e=>rhs;simp only [sT,h0,aI]
  rw [e]
  refine en (t0++[.d h0,.i 0 (a0.1.length),.L bN a0.1 0 0 3,.i 0 (a0.1.length),.L bN a0.1 0 0 3]) [] [2,3,24,25,26] [3,4] hcx aRx (aRy) (aLa a0 0 ((a0.1.getD (toNat 0) default).1) ((a0.1.getD (toNat 0) default).2.1) ((a0.1.getD (toNat 0) default).2.2) ((a0.1.getD (toNat 0) default).1) ((a0.1.getD (toNat 0) default).2.1) ((a0.1.getD (toNat 0) default).2.2)) (toNat ((a0.1.length:Int) - 0)+1) (by kernel_rfl) ?_
  exact bCo a0 l0_1 l0_2 hcx (toNat ((a0.1.length:Int) - 0)+1) 0 ((a0.1.getD (toNat 0) default).1) ((a0.1.getD (toNat 0) default).2.1) ((a0.1.getD (toNat 0) default).2.2) ((a0.1.getD (toNat 0) default).1) ((a0.1.getD (toNat 0) default).2.1) ((a0.1.getD (toNat 0) default).2.2) (by(try simp only [Ls]);omega) (by(try simp only [Ls]);omega)
noncomputable def aRz:Code:=(aD [1,1,0,1] [] (aH Tryz.f57) []).1
noncomputable def aR0:List K:=(aD [1,1,0,1] [] (aH Tryz.f57) []).2
def aLb (a0:Zm)(v1c:List SV)(v1n:Nat)(v2:Int):LS:=⟨iJ 19 [(3,(.s 2 0 v1n 1)),(10,(iv (((toNat (a0.2.length:Int)):Nat):Int))),(11,(iv v2))],[(.live false true (flat dX a0.1)),(.live false true (flat fA a0.2)),(.live true true v1c)]⟩
def sU (a0:Zm):List (Int)×Int→(List (Int)×Int)⊕(List (Int))
 | (v1,v2) =>
  (bif (decide ((v2:Int) < (((toNat (a0.2.length:Int)):Nat):Int))) then
   (.inl ((v1.set (toNat v2) 1),(v2+1)))
  else
   (.inr v1))
theorem bCp (a0:Zm)(l0_1:a0.1.length≤9223372036854775807)(l0_2:a0.2.length≤9223372036854775807)(hn:a0.2.length≤96) {cx:Cx} (hcx:cx.base=2):∀(n:Nat)(v1:List (Int))(v2:Int),(0≤v2)∧(v1.length=a0.2.length)→toNat ((((toNat (a0.2.length:Int)):Nat):Int) - v2) < n→Aw.Good Tryz.prog none 9 (bodyPost Tryz.prog Tryz.f57 (RR cx (.s 2 0 (aB (sU a0) n (v1,v2)).length 1) [(.live true true (flat c3 (aB (sU a0) n (v1,v2))))] [])) cx [] (.l aRz n::aR0) (aLb a0 (flat c3 v1) v1.length v2):=by
 intro n
 induction n with
 | zero=>intro v1 v2 hi hn;exact absurd hn (hO _)
 | succ n ih =>
   intro v1 v2 hi hn
   refine aG ?_
   cases h0:(decide ((v2:Int) < (((toNat (a0.2.length:Int)):Nat):Int))) with
   | true =>
    have q0:=bZ h0
    have e:=Eq.refl (sU a0 (v1,v2));conv at e=>rhs;simp only [sU,h0,aI]
    rw [aA e]
    refine ba [.d h0,.i v2 (v1.length),.p (show((0+toNat v2*1)+1≤(flat c3 v1).length) from(jQ dT (by first | omega | (simp only [Lt];omega)) (o:=0) (Nb rfl)))] [] [3,10,11] [2] hcx (m:=n) aRz (aR0) (aLb a0 (splice (flat c3 v1) (0+toNat v2*1) [(iv 1)]) (v1.length) (W (v2+1))) (by kernel_rfl) ?_
    have z0:(W (v2+1))=(v2+1):=aE (by omega) (by omega)
    have z1:(splice (flat c3 v1) (0+toNat v2*1) [(iv 1)])=flat c3 (v1.set (toNat v2) 1):=(eN dT (by first | omega | (simp only [Lt];omega)) (o:=0) (d:=default) (Nb rfl) rfl)
    have z2:v1.length=(v1.set (toNat v2) 1).length:=by simp
    rw [z0,z1,z2]
    exact ih (v1.set (toNat v2) 1) (v2+1) (by refine⟨?_,?_⟩<;>(try simp only [Ls])<;>first | omega | assumption | simp) (by(try simp only [Ls]);omega)
   | false =>
    have q0:=cI h0
    have e:=Eq.refl (sU a0 (v1,v2));conv at e=>rhs;simp only [sU,h0,aI]
    rw [aF,e]
    exact rt [.d h0] [] [2] hcx (by kernel_rfl)
def F57 (a0:Zm):List (Int) :=
 (aB (sU a0) (toNat ((((toNat (a0.2.length:Int)):Nat):Int) - 0)+1) ((List.replicate (toNat (a0.2.length:Int)) 0),0))
theorem C57 (a0:Zm)(l0_1:a0.1.length≤9223372036854775807)(l0_2:a0.2.length≤9223372036854775807)(hn:a0.2.length≤96):Con Tryz.prog 57 [(.a [(.s 0 0 a0.1.length 3),(.s 1 0 a0.2.length 3)])] [(.live false true (flat dX a0.1)),(.live false true (flat fA a0.2))] (.s 2 0 (F57 a0).length 1) [(.live true true (flat c3 (F57 a0)))]:=by
 refine aJ Tryz.func57 (by kernel_rfl) fun cx hcx=>?_
 have e:=Eq.refl (F57 a0);conv at e=>rhs;simp only [F57]
 rw [e]
 refine en [.Z c3 0 [(iv 0)] (a0.2.length:Int) 8] [] [3,10,11] [3] hcx aRz (aR0) (aLb a0 (flat c3 (List.replicate (toNat (a0.2.length:Int)) 0)) (toNat (a0.2.length:Int)) 0) (toNat ((((toNat (a0.2.length:Int)):Nat):Int) - 0)+1) (by kernel_rfl) ?_
 have q:=bCp a0 l0_1 l0_2 hn hcx (toNat ((((toNat (a0.2.length:Int)):Nat):Int) - 0)+1) (List.replicate (toNat (a0.2.length:Int)) 0) 0 (by refine⟨?_,?_⟩<;>(try simp only [Ls])<;>first | omega | assumption | simp) (by(try simp only [Ls]);omega)
 simp only [List.length_replicate] at q
 exact q
def F30 (a0:Zm)(a1:Int):Int×Int :=
 (bif (((fR (a0.1,a0.2)):Int) != 0) then
  (0,(fR (a0.1,a0.2)))
 else
  (bif (!(pD a1 0 2)) then
   (0,1)
  else
   ((W ((W ((a0.2.length:Int)*(a0.2.length:Int)))*(W ((W (1*2 ^ (min (toNat (W (2*a1))) 64)))+(W ((W (1*2 ^ (min (toNat (W (2*a1))) 64)))*(W (1*2 ^ (min (toNat (W (2*a1))) 64))))))))),0)))
theorem C30 (a0:Zm)(a1:Int)(l0_1:a0.1.length≤9223372036854775807)(l0_2:a0.2.length≤9223372036854775807):Con Tryz.prog 30 [(.a [(.s 0 0 a0.1.length 3),(.s 1 0 a0.2.length 3)]),(iv a1)] [(.live false true (flat dX a0.1)),(.live false true (flat fA a0.2))] (.t (k2 (F30 a0 a1))) []:=by
 refine aJ Tryz.func30 (by kernel_rfl) fun cx hcx=>?_
 try have hw1:=qO h1
 let t0:List (St Tryz.prog):=[.c [0,1] (C35 (a0.1,a0.2) (by(try simp only [Lt]);omega) (by(try simp only [Lt]);omega))]
 cases h0:(((fR (a0.1,a0.2)):Int) != 0) with
 | true =>
  have q0:=bne_iff_ne.1 h0
  try have hw1:=qO h1
  have e:=Eq.refl (F30 a0 a1);conv at e=>rhs;simp only [F30,h0,aI]
  rw [e]
  exact rt (t0++[.d h0]) [] [] hcx (by kernel_rfl)
 | false =>
  have q0:=bne_eq_false_iff_eq.1 h0
  try have hw1:=qO h1
  let t1:List (St Tryz.prog):=(t0++[.d h0,.c [] (C55 a1 0 2)])
  cases h1:(!(pD a1 0 2)) with
  | true =>
   try have hw1:=qO h1
   have e:=Eq.refl (F30 a0 a1);conv at e=>rhs;simp only [F30,h0,h1,aI]
   rw [e]
   exact rt (t1++[.d h1]) [] [] hcx (by kernel_rfl)
  | false =>
   try have hw1:=qO h1
   have e:=Eq.refl (F30 a0 a1);conv at e=>rhs;simp only [F30,h0,h1,aI]
   rw [e]
   exact rt (t1++[.d h1,.p (show 0≤((W (2*a1)):Int) from by first | omega | (rw [aE]<;>omega) | exact dW _)]) [] [] hcx (by kernel_rfl)
noncomputable def aCn:Code:=(aD [1,1,0,1] [] (aH Tryz.f109) []).1
noncomputable def aCo:List K:=(aD [1,1,0,1] [] (aH Tryz.f109) []).2
def xM (a0:List (Int))(v1 v2:Int):LS:=⟨iJ 18 [(0,(.s 0 0 a0.length 1)),(3,(iv v1)),(4,(iv v2))],[(.live false true (flat c3 a0))]⟩
def kH (a0:List (Int)):Int×Int→(Int×Int)⊕(Int)
 | (v1,v2) =>
  (bif (decide ((v2:Int) < (a0.length:Int))) then
   (.inl ((W (v1+(a0.getD (toNat v2) default))),(v2+1)))
  else
   (.inr v1))
theorem aR1 (a0:List (Int))(l0:a0.length≤9223372036854775807) {cx:Cx} (hcx:cx.base=1):∀(n:Nat)(v1 v2:Int),0≤v2→toNat ((a0.length:Int) - v2) < n→Aw.Good Tryz.prog none 9 (bodyPost Tryz.prog Tryz.f109 (RR cx (iv (aB (kH a0) n (v1,v2))) [] [])) cx [] (.l aCn n::aCo) (xM a0 v1 v2):=by
 intro n
 induction n with
 | zero=>intro v1 v2 hi hn;exact absurd hn (hO _)
 | succ n ih =>
   intro v1 v2 hi hn
   refine aG ?_
   cases h0:(decide ((v2:Int) < (a0.length:Int))) with
   | true =>
    have q0:=bZ h0
    have e:=Eq.refl (kH a0 (v1,v2));conv at e=>rhs;simp only [kH,h0,aI]
    rw [aA e]
    refine ba [.d h0,.i v2 (a0.length),.L dT a0 v2 0 1] [] [0,3,4] [] hcx (m:=n) aCn (aCo) (xM a0 (W (v1+(a0.getD (toNat v2) default))) (W (v2+1))) (by kernel_rfl) ?_
    have z0:(W (v2+1))=(v2+1):=aE (by omega) (by omega)
    rw [z0]
    exact ih (W (v1+(a0.getD (toNat v2) default))) (v2+1) (by(try simp only [Ls]);omega) (by(try simp only [Ls]);omega)
   | false =>
    have q0:=cI h0
    have e:=Eq.refl (kH a0 (v1,v2));conv at e=>rhs;simp only [kH,h0,aI]
    rw [aF,e]
    exact rt [.d h0] [] [] hcx (by kernel_rfl)
def cE (a0:List (Int)):Int :=
 (aB (kH a0) (toNat ((a0.length:Int) - 0)+1) (0,0))
theorem aGo (a0:List (Int))(l0:a0.length≤9223372036854775807):Con Tryz.prog 109 [(.s 0 0 a0.length 1)] [(.live false true (flat c3 a0))] (iv (cE a0)) []:=by
 refine aJ Tryz.func109 (by kernel_rfl) fun cx hcx=>?_
 have e:=Eq.refl (cE a0);conv at e=>rhs;simp only [cE]
 rw [e]
 refine en [] [] [0,3,4] [] hcx aCn (aCo) (xM a0 0 0) (toNat ((a0.length:Int) - 0)+1) (by kernel_rfl) ?_
 exact aR1 a0 l0 hcx (toNat ((a0.length:Int) - 0)+1) 0 0 (by(try simp only [Ls]);omega) (by(try simp only [Ls]);omega)
noncomputable def aCp:Code:=(aD [1,1,1,1,0,1] [] (aH Tryz.f151) []).1
noncomputable def aCq:List K:=(aD [1,1,1,1,0,1] [] (aH Tryz.f151) []).2
def xN (a0:Zm)(a1:List (Int))(v1:Int):LS:=⟨iJ 33 [(1,(.s 2 0 a1.length 1)),(6,(iv v1))],[(.live false true (flat dX a0.1)),(.live false true (flat fA a0.2)),(.live false true (flat c3 a1))]⟩
def fJ (a0:Zm)(a1:List (Int)):Int→(Int)⊕(Int)
 | v1 =>
  (bif (decide ((v1:Int) < (a1.length:Int))) then
   (bif (!(F52 (a1.getD (toNat v1) default) 0 100)) then
    (.inr 1)
   else
    (.inl (v1+1)))
  else
   (bif (((cE a1):Int) == 0) then
    (.inr 11)
   else
    (.inr 0)))
theorem aR2 (a0:Zm)(a1:List (Int))(l0_1:a0.1.length≤9223372036854775807)(l0_2:a0.2.length≤9223372036854775807)(l1:a1.length≤9223372036854775807) {cx:Cx} (hcx:cx.base=3):∀(n:Nat)(v1:Int),0≤v1→toNat ((a1.length:Int) - v1) < n→Aw.Good Tryz.prog none 9 (bodyPost Tryz.prog Tryz.f151 (RR cx (iv (aB (fJ a0 a1) n v1)) [] [])) cx [] (.l aCp n::aCq) (xN a0 a1 v1):=by
 intro n
 induction n with
 | zero=>intro v1 hi hn;exact absurd hn (hO _)
 | succ n ih =>
   intro v1 hi hn
   refine aG ?_
   cases h0:(decide ((v1:Int) < (a1.length:Int))) with
   | true =>
    have q0:=bZ h0
    let t1:List (St Tryz.prog):=[.d h0,.i v1 (a1.length),.L dT a1 v1 0 1,.c [] (C52 (a1.getD (toNat v1) default) 0 100)]
    cases h1:(!(F52 (a1.getD (toNat v1) default) 0 100)) with
    | true =>
     have e:=Eq.refl (fJ a0 a1 v1);conv at e=>rhs;simp only [fJ,h0,h1,aI]
     rw [aF,e]
     exact rt (t1++[.d h1]) [] [] hcx (by kernel_rfl)
    | false =>
     have e:=Eq.refl (fJ a0 a1 v1);conv at e=>rhs;simp only [fJ,h0,h1,aI]
     rw [aA e]
     refine ba (t1++[.d h1]) [] [1,6] [] hcx (m:=n) aCp (aCq) (xN a0 a1 (W (v1+1))) (by kernel_rfl) ?_
     have z0:(W (v1+1))=(v1+1):=aE (by omega) (by omega)
     rw [z0]
     exact ih (v1+1) (by(try simp only [Ls]);omega) (by(try simp only [Ls]);omega)
   | false =>
    have q0:=cI h0
    let t1:List (St Tryz.prog):=[.d h0,.c [2] (aGo a1 (by omega))]
    cases h1:(((cE a1):Int) == 0) with
    | true =>
     have q1:=eq_of_beq h1
     have e:=Eq.refl (fJ a0 a1 v1);conv at e=>rhs;simp only [fJ,h0,h1,aI]
     rw [aF,e]
     exact rt (t1++[.d h1]) [] [] hcx (by kernel_rfl)
    | false =>
     have q1:=ne_of_beq_false h1
     have e:=Eq.refl (fJ a0 a1 v1);conv at e=>rhs;simp only [fJ,h0,h1,aI]
     rw [aF,e]
     exact rt (t1++[.d h1]) [] [] hcx (by kernel_rfl)
def jR (a0:Zm)(a1:List (Int)):Int :=
 (bif (((F50 (a0.1,a0.2)):Int) != 0) then
  (F50 (a0.1,a0.2))
 else
  (bif (((a1.length:Int):Int) != (a0.2.length:Int)) then
   1
  else
   (aB (fJ a0 a1) (toNat ((a1.length:Int) - 0)+1) 0)))
theorem aYs (a0:Zm)(a1:List (Int))(l0_1:a0.1.length≤9223372036854775807)(l0_2:a0.2.length≤9223372036854775807)(l1:a1.length≤9223372036854775807):Con Tryz.prog 151 [(.a [(.s 0 0 a0.1.length 3),(.s 1 0 a0.2.length 3)]),(.s 2 0 a1.length 1)] [(.live false true (flat dX a0.1)),(.live false true (flat fA a0.2)),(.live false true (flat c3 a1))] (iv (jR a0 a1)) []:=by
 refine aJ Tryz.func151 (by kernel_rfl) fun cx hcx=>?_
 let t0:List (St Tryz.prog):=[.c [0,1] (C50 (a0.1,a0.2) (by(try simp only [Lt]);omega) (by(try simp only [Lt]);omega))]
 cases h0:(((F50 (a0.1,a0.2)):Int) != 0) with
 | true =>
  have q0:=bne_iff_ne.1 h0
  have e:=Eq.refl (jR a0 a1);conv at e=>rhs;simp only [jR,h0,aI]
  rw [e]
  exact rt (t0++[.d h0]) [] [] hcx (by kernel_rfl)
 | false =>
  have q0:=bne_eq_false_iff_eq.1 h0
  let t1:List (St Tryz.prog):=(t0++[.d h0])
  cases h1:(((a1.length:Int):Int) != (a0.2.length:Int)) with
  | true =>
   have q1:=bne_iff_ne.1 h1
   have e:=Eq.refl (jR a0 a1);conv at e=>rhs;simp only [jR,h0,h1,aI]
   rw [e]
   exact rt (t1++[.d h1]) [] [] hcx (by kernel_rfl)
  | false =>
   have q1:=bne_eq_false_iff_eq.1 h1
   have e:=Eq.refl (jR a0 a1);conv at e=>rhs;simp only [jR,h0,h1,aI]
   rw [e]
   refine en (t1++[.d h1]) [] [1,6] [] hcx aCp (aCq) (xN a0 a1 0) (toNat ((a1.length:Int) - 0)+1) (by kernel_rfl) ?_
   exact aR2 a0 a1 l0_1 l0_2 l1 hcx (toNat ((a1.length:Int) - 0)+1) 0 (by(try simp only [Ls]);omega) (by(try simp only [Ls]);omega)
def fN (a0:Zm)(a1:List (Int))(a2:Int):Int :=
 (bif (((jR (a0.1,a0.2) a1):Int) != 0) then
  (jR (a0.1,a0.2) a1)
 else
  (bif (!(F52 a2 0 2)) then
   1
  else
   0))
theorem aR3 (a0:Zm)(a1:List (Int))(a2:Int)(l0_1:a0.1.length≤9223372036854775807)(l0_2:a0.2.length≤9223372036854775807)(l1:a1.length≤9223372036854775807):Con Tryz.prog 133 [(.a [(.s 0 0 a0.1.length 3),(.s 1 0 a0.2.length 3)]),(.s 2 0 a1.length 1),(iv a2)] [(.live false true (flat dX a0.1)),(.live false true (flat fA a0.2)),(.live false true (flat c3 a1))] (iv (fN a0 a1 a2)) []:=by
 refine aJ Tryz.func133 (by kernel_rfl) fun cx hcx=>?_
 let t0:List (St Tryz.prog):=[.c [0,1,2] (aYs (a0.1,a0.2) a1 (by(try simp only [Lt]);omega) (by(try simp only [Lt]);omega) (by omega))]
 cases h0:(((jR (a0.1,a0.2) a1):Int) != 0) with
 | true =>
  have q0:=bne_iff_ne.1 h0
  have e:=Eq.refl (fN a0 a1 a2);conv at e=>rhs;simp only [fN,h0,aI]
  rw [e]
  exact rt (t0++[.d h0]) [] [] hcx (by kernel_rfl)
 | false =>
  have q0:=bne_eq_false_iff_eq.1 h0
  let t1:List (St Tryz.prog):=(t0++[.d h0,.c [] (C52 a2 0 2)])
  cases h1:(!(F52 a2 0 2)) with
  | true =>
   have e:=Eq.refl (fN a0 a1 a2);conv at e=>rhs;simp only [fN,h0,h1,aI]
   rw [e]
   exact rt (t1++[.d h1]) [] [] hcx (by kernel_rfl)
  | false =>
   have e:=Eq.refl (fN a0 a1 a2);conv at e=>rhs;simp only [fN,h0,h1,aI]
   rw [e]
   exact rt (t1++[.d h1]) [] [] hcx (by kernel_rfl)
noncomputable def aLc:Code:=(aD [1,1,0,1] [] (aH Tryz.f134) []).1
noncomputable def aLd:List K:=(aD [1,1,0,1] [] (aH Tryz.f134) []).2
def aGp (a0:Zm)(v2c:List SV)(v2n:Nat)(v3:Int):LS:=⟨iJ 41 [(1,(.p 2 0)),(3,(.s 3 0 v2n 9)),(4,(iv v3))],[(.live false true (flat dX a0.1)),(.live false true (flat fA a0.2)),(.live true false [(.s 0 0 a0.1.length 3),(.s 1 0 a0.2.length 3)]),(.live true true v2c)]⟩
def oQ (a0:Zm):(List (Zt×Zt×Zt))×Int→((List (Zt×Zt×Zt))×Int)⊕(List (Zt×Zt×Zt))
 | (v2,v3) =>
  (bif (decide ((v3:Int) < (a0.2.length:Int))) then
   (.inl ((v2++[((a0.1.getD (toNat (a0.2.getD (toNat v3) default).1) default),(a0.1.getD (toNat (a0.2.getD (toNat v3) default).2.1) default),(a0.1.getD (toNat (a0.2.getD (toNat v3) default).2.2) default))]),(v3+1)))
  else
   (.inr v2))
theorem aYt (a0:Zm)(l0_1:a0.1.length≤9223372036854775807)(l0_2:a0.2.length≤9223372036854775807)(hv:lZ a0 a0.2.length)(hn:a0.2.length≤96) {cx:Cx} (hcx:cx.base=2):∀(n:Nat)(v2:List (Zt×Zt×Zt))(v3:Int),(0≤v3)∧(v2.length=toNat v3)∧(v3≤a0.2.length)→toNat ((a0.2.length:Int) - v3) < n→Aw.Good Tryz.prog none 9 (bodyPost Tryz.prog Tryz.f134 (RR cx (.s 2 0 (aB (oQ a0) n (v2,v3)).length 9) [(.live true true (flat dL (aB (oQ a0) n (v2,v3))))] [])) cx [] (.l aLc n::aLd) (aGp a0 (flat dL v2) v2.length v3):=by
 intro n
 induction n with
 | zero=>intro v2 v3 hi hn;exact absurd hn (hO _)
 | succ n ih =>
   intro v2 v3 hi hn
   refine aG ?_
   have hf0:=aU2 hv v3
   cases h0:(decide ((v3:Int) < (a0.2.length:Int))) with
   | true =>
    have q0:=bZ h0
    have e:=Eq.refl (oQ a0 (v2,v3));conv at e=>rhs;simp only [oQ,h0,aI]
    rw [aA e]
    refine ba [.d h0,.i v3 (a0.2.length),.L aW a0.2 v3 0 3,.i 0 3 (by decide),.i ((a0.2.getD (toNat v3) default).1) (a0.1.length),.L bN a0.1 (a0.2.getD (toNat v3) default).1 0 3,.i 1 3 (by decide),.i ((a0.2.getD (toNat v3) default).2.1) (a0.1.length),.L bN a0.1 (a0.2.getD (toNat v3) default).2.1 0 3,.i 2 3 (by decide),.i ((a0.2.getD (toNat v3) default).2.2) (a0.1.length),.L bN a0.1 (a0.2.getD (toNat v3) default).2.2 0 3,.p (show((flat dL v2).length=v2.length*9∧v2.length+1≤2 ^ 40∧(v2.length+1)*72≤2 ^ 47) from gH cW (by omega) (by omega))] [] [1,3,4] [2,6] hcx (m:=n) aLc (aLd) (aGp a0 (flat dL v2++[(iv (a0.1.getD (toNat (a0.2.getD (toNat v3) default).1) default).1),(iv (a0.1.getD (toNat (a0.2.getD (toNat v3) default).1) default).2.1),(iv (a0.1.getD (toNat (a0.2.getD (toNat v3) default).1) default).2.2),(iv (a0.1.getD (toNat (a0.2.getD (toNat v3) default).2.1) default).1),(iv (a0.1.getD (toNat (a0.2.getD (toNat v3) default).2.1) default).2.1),(iv (a0.1.getD (toNat (a0.2.getD (toNat v3) default).2.1) default).2.2),(iv (a0.1.getD (toNat (a0.2.getD (toNat v3) default).2.2) default).1),(iv (a0.1.getD (toNat (a0.2.getD (toNat v3) default).2.2) default).2.1),(iv (a0.1.getD (toNat (a0.2.getD (toNat v3) default).2.2) default).2.2)]) (v2.length+1) (W (v3+1))) (by kernel_rfl) ?_
    have z0:(W (v3+1))=(v3+1):=aE (by omega) (by omega)
    have z1:(flat dL v2++[(iv (a0.1.getD (toNat (a0.2.getD (toNat v3) default).1) default).1),(iv (a0.1.getD (toNat (a0.2.getD (toNat v3) default).1) default).2.1),(iv (a0.1.getD (toNat (a0.2.getD (toNat v3) default).1) default).2.2),(iv (a0.1.getD (toNat (a0.2.getD (toNat v3) default).2.1) default).1),(iv (a0.1.getD (toNat (a0.2.getD (toNat v3) default).2.1) default).2.1),(iv (a0.1.getD (toNat (a0.2.getD (toNat v3) default).2.1) default).2.2),(iv (a0.1.getD (toNat (a0.2.getD (toNat v3) default).2.2) default).1),(iv (a0.1.getD (toNat (a0.2.getD (toNat v3) default).2.2) default).2.1),(iv (a0.1.getD (toNat (a0.2.getD (toNat v3) default).2.2) default).2.2)])=(flat dL (v2++[((a0.1.getD (toNat (a0.2.getD (toNat v3) default).1) default),(a0.1.getD (toNat (a0.2.getD (toNat v3) default).2.1) default),(a0.1.getD (toNat (a0.2.getD (toNat v3) default).2.2) default))])):=(bO (c:=dL) (l:=v2) (m:=[((a0.1.getD (toNat (a0.2.getD (toNat v3) default).1) default),(a0.1.getD (toNat (a0.2.getD (toNat v3) default).2.1) default),(a0.1.getD (toNat (a0.2.getD (toNat v3) default).2.2) default))])).symm
    have z2:(v2.length+1)=(v2++[((a0.1.getD (toNat (a0.2.getD (toNat v3) default).1) default),(a0.1.getD (toNat (a0.2.getD (toNat v3) default).2.1) default),(a0.1.getD (toNat (a0.2.getD (toNat v3) default).2.2) default))]).length:=eH v2 [((a0.1.getD (toNat (a0.2.getD (toNat v3) default).1) default),(a0.1.getD (toNat (a0.2.getD (toNat v3) default).2.1) default),(a0.1.getD (toNat (a0.2.getD (toNat v3) default).2.2) default))] rfl
    rw [z0,z1,z2]
    exact ih (v2++[((a0.1.getD (toNat (a0.2.getD (toNat v3) default).1) default),(a0.1.getD (toNat (a0.2.getD (toNat v3) default).2.1) default),(a0.1.getD (toNat (a0.2.getD (toNat v3) default).2.2) default))]) (v3+1) (by refine⟨?_,?_,?_⟩<;>(try simp only [Ls])<;>first | omega | assumption | simp) (by(try simp only [Ls]);omega)
   | false =>
    have q0:=cI h0
    have e:=Eq.refl (oQ a0 (v2,v3));conv at e=>rhs;simp only [oQ,h0,aI]
    rw [aF,e]
    exact rt [.d h0] [] [3] hcx (by kernel_rfl)
def aN (a0:Zm):List (Zt×Zt×Zt) :=
 (aB (oQ a0) (toNat ((a0.2.length:Int) - 0)+1) (([]:List (Zt×Zt×Zt)),0))
theorem bCq (a0:Zm)(l0_1:a0.1.length≤9223372036854775807)(l0_2:a0.2.length≤9223372036854775807)(hv:lZ a0 a0.2.length)(hn:a0.2.length≤96):Con Tryz.prog 134 [(.a [(.s 0 0 a0.1.length 3),(.s 1 0 a0.2.length 3)])] [(.live false true (flat dX a0.1)),(.live false true (flat fA a0.2))] (.s 2 0 (aN a0).length 9) [(.live true true (flat dL (aN a0)))]:=by
 refine aJ Tryz.func134 (by kernel_rfl) fun cx hcx=>?_
 have e:=Eq.refl (aN a0);conv at e=>rhs;simp only [aN]
 rw [e]
 refine en [] [.slot 3 9] [1,3,4] [2,3] hcx aLc (aLd) (aGp a0 (flat dL ([]:List (Zt×Zt×Zt))) 0 0) (toNat ((a0.2.length:Int) - 0)+1) (by kernel_rfl) ?_
 exact aYt a0 l0_1 l0_2 hv hn hcx (toNat ((a0.2.length:Int) - 0)+1) ([]:List (Zt×Zt×Zt)) 0 (by refine⟨?_,?_,?_⟩<;>(try simp only [Ls])<;>first | omega | assumption | simp) (by(try simp only [Ls]);omega)
def aCr (a0:Int):Int×Int :=
 (bif (decide ((a0:Int) > 1099511627776)) then
  (0,4)
 else
  (a0,0))
theorem aYu (a0:Int):Con Tryz.prog 108 [(iv a0)] [] (.t (k2 (aCr a0))) []:=by
 refine aJ Tryz.func108 (by kernel_rfl) fun cx hcx=>?_
 cases h0:(decide ((a0:Int) > 1099511627776)) with
 | true =>
  have q0:=bZ h0
  have e:=Eq.refl (aCr a0);conv at e=>rhs;simp only [aCr,h0,aI]
  rw [e]
  exact rt [.d h0] [] [] hcx (by kernel_rfl)
 | false =>
  have q0:=cI h0
  have e:=Eq.refl (aCr a0);conv at e=>rhs;simp only [aCr,h0,aI]
  rw [e]
  exact rt [.d h0] [] [] hcx (by kernel_rfl)
noncomputable def aR4:Code:=(aD [1,1,1,1,1,0,1] [] (aH Tryz.f87) []).1
noncomputable def aR5:List K:=(aD [1,1,1,1,1,0,1] [] (aH Tryz.f87) []).2
def aLe (a0:Zm)(a1:Zt)(v1 v2:Int):LS:=⟨iJ 43 [(2,(.p 2 0)),(3,(.p 3 0)),(7,(iv v1)),(8,(iv v2))],[(.live false true (flat dX a0.1)),(.live false true (flat fA a0.2)),(.live true false [(.s 0 0 a0.1.length 3),(.s 1 0 a0.2.length 3)]),(.live true false (k3 a1))]⟩
def sV (a0:Zm)(a1:Zt):Int×Int→(Int×Int)⊕(Int×Int)
 | (v1,v2) =>
  (bif (decide ((v2:Int) < (a0.1.length:Int))) then
   (.inl ((iN v1 (aOe (aKo (a0.1.getD (toNat v2) default) a1))),(v2+1)))
  else
   (.inr ((tV v1).1.2,(tV v1).2)))
theorem bCr (a0:Zm)(a1:Zt)(l0_1:a0.1.length≤9223372036854775807)(l0_2:a0.2.length≤9223372036854775807) {cx:Cx} (hcx:cx.base=2):∀(n:Nat)(v1 v2:Int),0≤v2→toNat ((a0.1.length:Int) - v2) < n→Aw.Good Tryz.prog none 9 (bodyPost Tryz.prog Tryz.f87 (RR cx (.t (k2 (aB (sV a0 a1) n (v1,v2)))) [] [])) cx [] (.l aR4 n::aR5) (aLe a0 a1 v1 v2):=by
 intro n
 induction n with
 | zero=>intro v1 v2 hi hn;exact absurd hn (hO _)
 | succ n ih =>
   intro v1 v2 hi hn
   refine aG ?_
   cases h0:(decide ((v2:Int) < (a0.1.length:Int))) with
   | true =>
    have q0:=bZ h0
    have e:=Eq.refl (sV a0 a1 (v1,v2));conv at e=>rhs;simp only [sV,h0,aI]
    rw [aA e]
    refine ba [.d h0,.i v2 (a0.1.length),.L bN a0.1 v2 0 3,.c [] (bE6 (a0.1.getD (toNat v2) default) a1),.c [] (bE5 (aKo (a0.1.getD (toNat v2) default) a1))] [] [2,3,7,8] [2,3] hcx (m:=n) aR4 (aR5) (aLe a0 a1 (iN v1 (aOe (aKo (a0.1.getD (toNat v2) default) a1))) (W (v2+1))) (by kernel_rfl) ?_
    have z0:(W (v2+1))=(v2+1):=aE (by omega) (by omega)
    rw [z0]
    exact ih (iN v1 (aOe (aKo (a0.1.getD (toNat v2) default) a1))) (v2+1) (by(try simp only [Ls]);omega) (by(try simp only [Ls]);omega)
   | false =>
    have q0:=cI h0
    have e:=Eq.refl (sV a0 a1 (v1,v2));conv at e=>rhs;simp only [sV,h0,aI]
    rw [aF,e]
    exact rt [.d h0,.c [] (bFb v1)] [] [] hcx (by kernel_rfl)
def F87 (a0:Zm)(a1:Zt):Int×Int :=
 (bif (((F50 (a0.1,a0.2)):Int) != 0) then
  (0,(F50 (a0.1,a0.2)))
 else
  (bif (!(oN a1 256)) then
   (0,1)
  else
   (aB (sV a0 a1) (toNat ((a0.1.length:Int) - 0)+1) (0,0))))
theorem C87 (a0:Zm)(a1:Zt)(l0_1:a0.1.length≤9223372036854775807)(l0_2:a0.2.length≤9223372036854775807):Con Tryz.prog 87 [(.a [(.s 0 0 a0.1.length 3),(.s 1 0 a0.2.length 3)]),(.a (k3 a1))] [(.live false true (flat dX a0.1)),(.live false true (flat fA a0.2))] (.t (k2 (F87 a0 a1))) []:=by
 refine aJ Tryz.func87 (by kernel_rfl) fun cx hcx=>?_
 let t0:List (St Tryz.prog):=[.c [0,1] (C50 (a0.1,a0.2) (by(try simp only [Lt]);omega) (by(try simp only [Lt]);omega))]
 cases h0:(((F50 (a0.1,a0.2)):Int) != 0) with
 | true =>
  have q0:=bne_iff_ne.1 h0
  have e:=Eq.refl (F87 a0 a1);conv at e=>rhs;simp only [F87,h0,aI]
  rw [e]
  exact rt (t0++[.d h0]) [] [] hcx (by kernel_rfl)
 | false =>
  have q0:=bne_eq_false_iff_eq.1 h0
  let t1:List (St Tryz.prog):=(t0++[.d h0,.c [] (bE4 a1 256)])
  cases h1:(!(oN a1 256)) with
  | true =>
   have e:=Eq.refl (F87 a0 a1);conv at e=>rhs;simp only [F87,h0,h1,aI]
   rw [e]
   exact rt (t1++[.d h1]) [] [] hcx (by kernel_rfl)
  | false =>
   have e:=Eq.refl (F87 a0 a1);conv at e=>rhs;simp only [F87,h0,h1,aI]
   rw [e]
   refine en (t1++[.d h1]) [] [2,3,7,8] [2,3] hcx aR4 (aR5) (aLe a0 a1 0 0) (toNat ((a0.1.length:Int) - 0)+1) (by kernel_rfl) ?_
   exact bCr a0 a1 l0_1 l0_2 hcx (toNat ((a0.1.length:Int) - 0)+1) 0 0 (by(try simp only [Ls]);omega) (by(try simp only [Ls]);omega)
noncomputable def aR6:Code:=(aD [1,1,0,1] [] (aH Tryz.f88) []).1
noncomputable def aR7:List K:=(aD [1,1,0,1] [] (aH Tryz.f88) []).2
def aLf (a0:Zm)(v1 v2 v3 v4 v5 v6 v7:Int):LS:=⟨iJ 78 [(1,(.p 2 0)),(2,(.p 3 0)),(3,(.p 4 0)),(4,(.p 5 0)),(5,(iv v1))],[(.live false true (flat dX a0.1)),(.live false true (flat fA a0.2)),(.live true false [(.s 0 0 a0.1.length 3),(.s 1 0 a0.2.length 3)]),(.live true false [(iv 0),(iv 0),(iv 0)]),(.live true false [(iv v2),(iv v3),(iv v4)]),(.live true false [(iv v5),(iv v6),(iv v7)])]⟩
def vU (a0:Zm):Int×Int×Int×Int×Zt→(Int×Int×Int×Int×Zt)⊕Zt
 | (v1,v2,v3,v4,v5,v6,v7) =>
  (bif (decide ((v1:Int) < (a0.1.length:Int))) then
   (.inl ((v1+1),(pL v2 (a0.1.getD (toNat v1) default).1),(pL v3 (a0.1.getD (toNat v1) default).2.1),(pL v4 (a0.1.getD (toNat v1) default).2.2),(iN v5 (a0.1.getD (toNat v1) default).1),(iN v6 (a0.1.getD (toNat v1) default).2.1),(iN v7 (a0.1.getD (toNat v1) default).2.2)))
  else
   (.inr ((Int.fdiv (W (v2+v5)) (2 ^ (min (toNat 1) 64))),(Int.fdiv (W (v3+v6)) (2 ^ (min (toNat 1) 64))),(Int.fdiv (W (v4+v7)) (2 ^ (min (toNat 1) 64))))))
theorem bCs (a0:Zm)(l0_1:a0.1.length≤9223372036854775807)(l0_2:a0.2.length≤9223372036854775807)(hp:1≤a0.1.length) {cx:Cx} (hcx:cx.base=2):∀(n:Nat)(v1 v2 v3 v4 v5 v6 v7:Int),0≤v1→toNat ((a0.1.length:Int) - v1) < n→Aw.Good Tryz.prog none 9 (bodyPost Tryz.prog Tryz.f88 (RR cx (.a (k3 (aB (vU a0) n (v1,v2,v3,v4,v5,v6,v7)))) [] [])) cx [] (.l aR6 n::aR7) (aLf a0 v1 v2 v3 v4 v5 v6 v7):=by
 intro n
 induction n with
 | zero=>intro v1 v2 v3 v4 v5 v6 v7 hi hn;exact absurd hn (hO _)
 | succ n ih =>
   intro v1 v2 v3 v4 v5 v6 v7 hi hn
   refine aG ?_
   cases h0:(decide ((v1:Int) < (a0.1.length:Int))) with
   | true =>
    have q0:=bZ h0
    have e:=Eq.refl (vU a0 (v1,v2,v3,v4,v5,v6,v7));conv at e=>rhs;simp only [vU,h0,aI]
    rw [aA e]
    refine ba [.d h0,.i v1 (a0.1.length),.L bN a0.1 v1 0 3] [] [1,2,3,4,5] [2,3,4,5] hcx (m:=n) aR6 (aR7) (aLf a0 (W (v1+1)) (pL v2 (a0.1.getD (toNat v1) default).1) (pL v3 (a0.1.getD (toNat v1) default).2.1) (pL v4 (a0.1.getD (toNat v1) default).2.2) (iN v5 (a0.1.getD (toNat v1) default).1) (iN v6 (a0.1.getD (toNat v1) default).2.1) (iN v7 (a0.1.getD (toNat v1) default).2.2)) (by kernel_rfl) ?_
    have z0:(W (v1+1))=(v1+1):=aE (by omega) (by omega)
    rw [z0]
    exact ih (v1+1) (pL v2 (a0.1.getD (toNat v1) default).1) (pL v3 (a0.1.getD (toNat v1) default).2.1) (pL v4 (a0.1.getD (toNat v1) default).2.2) (iN v5 (a0.1.getD (toNat v1) default).1) (iN v6 (a0.1.getD (toNat v1) default).2.1) (iN v7 (a0.1.getD (toNat v1) default).2.2) (by(try simp only [Ls]);omega) (by(try simp only [Ls]);omega)
   | false =>
    have q0:=cI h0
    have e:=Eq.refl (vU a0 (v1,v2,v3,v4,v5,v6,v7));conv at e=>rhs;simp only [vU,h0,aI]
    rw [aF,e]
    exact rt [.d h0,.p (show 0≤(1:Int) from by decide),.p (show 0≤(1:Int) from by decide),.p (show 0≤(1:Int) from by decide)] [] [] hcx (by kernel_rfl)
def F88 (a0:Zm):Zt :=
 (aB (vU a0) (toNat ((a0.1.length:Int) - 1)+1) (1,(a0.1.getD (toNat 0) default).1,(a0.1.getD (toNat 0) default).2.1,(a0.1.getD (toNat 0) default).2.2,(a0.1.getD (toNat 0) default).1,(a0.1.getD (toNat 0) default).2.1,(a0.1.getD (toNat 0) default).2.2))
theorem C88 (a0:Zm)(l0_1:a0.1.length≤9223372036854775807)(l0_2:a0.2.length≤9223372036854775807)(hp:1≤a0.1.length):Con Tryz.prog 88 [(.a [(.s 0 0 a0.1.length 3),(.s 1 0 a0.2.length 3)])] [(.live false true (flat dX a0.1)),(.live false true (flat fA a0.2))] (.a (k3 (F88 a0))) []:=by
 refine aJ Tryz.func88 (by kernel_rfl) fun cx hcx=>?_
 have e:=Eq.refl (F88 a0);conv at e=>rhs;simp only [F88]
 rw [e]
 refine en [.i 0 (a0.1.length),.L bN a0.1 0 0 3,.i 0 (a0.1.length),.L bN a0.1 0 0 3] [] [1,2,3,4,5] [2,3,4,5] hcx aR6 (aR7) (aLf a0 1 ((a0.1.getD (toNat 0) default).1) ((a0.1.getD (toNat 0) default).2.1) ((a0.1.getD (toNat 0) default).2.2) ((a0.1.getD (toNat 0) default).1) ((a0.1.getD (toNat 0) default).2.1) ((a0.1.getD (toNat 0) default).2.2)) (toNat ((a0.1.length:Int) - 1)+1) (by kernel_rfl) ?_
 exact bCs a0 l0_1 l0_2 hp hcx (toNat ((a0.1.length:Int) - 1)+1) 1 ((a0.1.getD (toNat 0) default).1) ((a0.1.getD (toNat 0) default).2.1) ((a0.1.getD (toNat 0) default).2.2) ((a0.1.getD (toNat 0) default).1) ((a0.1.getD (toNat 0) default).2.1) ((a0.1.getD (toNat 0) default).2.2) (by(try simp only [Ls]);omega) (by(try simp only [Ls]);omega)
noncomputable def aR8:Code:=(aD [1,1,1,1,1,0,1] [] (aH Tryz.f27) []).1
noncomputable def aR9:List K:=(aD [1,1,1,1,1,0,1] [] (aH Tryz.f27) []).2
def aLg (a0:Zm)(a1:Int)(v1 v2 v3:Int):LS:=⟨iJ 38 [(1,(iv a1)),(2,(.p 2 0)),(7,(iv v1)),(8,(iv v2)),(9,(iv v3))],[(.live false true (flat dX a0.1)),(.live false true (flat fA a0.2)),(.live true false [(.s 0 0 a0.1.length 3),(.s 1 0 a0.2.length 3)])]⟩
def aEq (a0:Zm)(a1:Int):Zt→Zt⊕(Int×Int)
 | (v1,v2,v3) =>
  (bif (decide ((v3:Int) < a1)) then
   (.inl ((W (v1*4)),(W (v2*16)),(v3+1)))
  else
   (.inr ((W ((W ((a0.2.length:Int)*(a0.2.length:Int)))*(W (v1+v2)))),0)))
theorem bCt (a0:Zm)(a1:Int)(l0_1:a0.1.length≤9223372036854775807)(l0_2:a0.2.length≤9223372036854775807) {cx:Cx} (hcx:cx.base=2):∀(n:Nat)(v1 v2 v3:Int),(0≤v3)∧(a1≤2)→toNat (a1 - v3) < n→Aw.Good Tryz.prog none 9 (bodyPost Tryz.prog Tryz.f27 (RR cx (.t (k2 (aB (aEq a0 a1) n (v1,v2,v3)))) [] [])) cx [] (.l aR8 n::aR9) (aLg a0 a1 v1 v2 v3):=by
 intro n
 induction n with
 | zero=>intro v1 v2 v3 hi hn;exact absurd hn (hO _)
 | succ n ih =>
   intro v1 v2 v3 hi hn
   refine aG ?_
   cases h0:(decide ((v3:Int) < a1)) with
   | true =>
    have q0:=bZ h0
    have e:=Eq.refl (aEq a0 a1 (v1,v2,v3));conv at e=>rhs;simp only [aEq,h0,aI]
    rw [aA e]
    refine ba [.d h0] [] [1,2,7,8,9] [2] hcx (m:=n) aR8 (aR9) (aLg a0 a1 (W (v1*4)) (W (v2*16)) (W (v3+1))) (by kernel_rfl) ?_
    have z0:(W (v3+1))=(v3+1):=aE (by omega) (by omega)
    rw [z0]
    exact ih (W (v1*4)) (W (v2*16)) (v3+1) (by refine⟨?_,?_⟩<;>(try simp only [Ls])<;>first | omega | assumption | simp) (by(try simp only [Ls]);omega)
   | false =>
    have q0:=cI h0
    have e:=Eq.refl (aEq a0 a1 (v1,v2,v3));conv at e=>rhs;simp only [aEq,h0,aI]
    rw [aF,e]
    exact rt [.d h0] [] [] hcx (by kernel_rfl)
def F27 (a0:Zm)(a1:Int):Int×Int :=
 (bif (((F50 (a0.1,a0.2)):Int) != 0) then
  (0,(F50 (a0.1,a0.2)))
 else
  (bif (!(F52 a1 0 2)) then
   (0,1)
  else
   (aB (aEq a0 a1) (toNat (a1 - 0)+1) (1,1,0))))
theorem C27 (a0:Zm)(a1:Int)(l0_1:a0.1.length≤9223372036854775807)(l0_2:a0.2.length≤9223372036854775807):Con Tryz.prog 27 [(.a [(.s 0 0 a0.1.length 3),(.s 1 0 a0.2.length 3)]),(iv a1)] [(.live false true (flat dX a0.1)),(.live false true (flat fA a0.2))] (.t (k2 (F27 a0 a1))) []:=by
 refine aJ Tryz.func27 (by kernel_rfl) fun cx hcx=>?_
 try have hw1:=aCk h1
 let t0:List (St Tryz.prog):=[.c [0,1] (C50 (a0.1,a0.2) (by(try simp only [Lt]);omega) (by(try simp only [Lt]);omega))]
 cases h0:(((F50 (a0.1,a0.2)):Int) != 0) with
 | true =>
  have q0:=bne_iff_ne.1 h0
  try have hw1:=aCk h1
  have e:=Eq.refl (F27 a0 a1);conv at e=>rhs;simp only [F27,h0,aI]
  rw [e]
  exact rt (t0++[.d h0]) [] [] hcx (by kernel_rfl)
 | false =>
  have q0:=bne_eq_false_iff_eq.1 h0
  try have hw1:=aCk h1
  let t1:List (St Tryz.prog):=(t0++[.d h0,.c [] (C52 a1 0 2)])
  cases h1:(!(F52 a1 0 2)) with
  | true =>
   try have hw1:=aCk h1
   have e:=Eq.refl (F27 a0 a1);conv at e=>rhs;simp only [F27,h0,h1,aI]
   rw [e]
   exact rt (t1++[.d h1]) [] [] hcx (by kernel_rfl)
  | false =>
   try have hw1:=aCk h1
   have e:=Eq.refl (F27 a0 a1);conv at e=>rhs;simp only [F27,h0,h1,aI]
   rw [e]
   refine en (t1++[.d h1]) [] [1,2,7,8,9] [2] hcx aR8 (aR9) (aLg a0 a1 1 1 0) (toNat (a1 - 0)+1) (by kernel_rfl) ?_
   exact bCt a0 a1 l0_1 l0_2 hcx (toNat (a1 - 0)+1) 1 1 0 (by refine⟨?_,?_⟩<;>(try simp only [Ls])<;>first | omega | assumption | simp) (by(try simp only [Ls]);omega)
def nZ:Zm :=
 (([(1,0,0),((-1),0,0),(0,1,0),(0,(-1),0),(0,0,1),(0,0,(-1))]:List Zt),([(0,2,4),(2,1,4),(1,3,4),(3,0,4),(2,0,5),(1,2,5),(3,1,5),(0,3,5)]:List Zt))
theorem C29:Con Tryz.prog 29 [] [] (.a [(.s 0 0 nZ.1.length 3),(.s 1 0 nZ.2.length 3)]) [(.live true true (flat dX nZ.1)),(.live true true (flat fA nZ.2))]:=by
 refine aJ Tryz.func29 (by kernel_rfl) fun cx hcx=>?_
 have e:=Eq.refl nZ;conv at e=>rhs;simp only [nZ]
 rw [e]
 exact rt [] [.sym 1 true,.sym 2 true] [1,2] hcx (by kernel_rfl)
def F9 (a0:Zm)(a1:Int):Bool :=
 (bif (decide (((a0.1.length:Int):Int) > 200)) then
  true
 else
  (bif (decide (((a0.2.length:Int):Int) > 200)) then
   true
  else
   (bif (((F27 (a0.1,a0.2) a1).2:Int) == 0) then
    (decide (((F27 (a0.1,a0.2) a1).1:Int) > 20000))
   else
    false)))
theorem C9 (a0:Zm)(a1:Int)(l0_1:a0.1.length≤9223372036854775807)(l0_2:a0.2.length≤9223372036854775807):Con Tryz.prog 9 [(.a [(.s 0 0 a0.1.length 3),(.s 1 0 a0.2.length 3)]),(iv a1)] [(.live false true (flat dX a0.1)),(.live false true (flat fA a0.2))] (.v (.bool (F9 a0 a1))) []:=by
 refine aJ Tryz.func9 (by kernel_rfl) fun cx hcx=>?_
 cases h0:(decide (((a0.1.length:Int):Int) > 200)) with
 | true =>
  have q0:=bZ h0
  have e:=Eq.refl (F9 a0 a1);conv at e=>rhs;simp only [F9,h0,aI]
  rw [e]
  exact rt [.d h0] [] [] hcx (by kernel_rfl)
 | false =>
  have q0:=cI h0
  let t1:List (St Tryz.prog):=[.d h0]
  cases h1:(decide (((a0.2.length:Int):Int) > 200)) with
  | true =>
   have q1:=bZ h1
   have e:=Eq.refl (F9 a0 a1);conv at e=>rhs;simp only [F9,h0,h1,aI]
   rw [e]
   exact rt (t1++[.d h1]) [] [] hcx (by kernel_rfl)
  | false =>
   have q1:=cI h1
   let t2:List (St Tryz.prog):=(t1++[.d h1,.c [0,1] (C27 (a0.1,a0.2) a1 (by(try simp only [Lt]);omega) (by(try simp only [Lt]);omega))])
   cases h2:(((F27 (a0.1,a0.2) a1).2:Int) == 0) with
   | true =>
    have q2:=eq_of_beq h2
    have e:=Eq.refl (F9 a0 a1);conv at e=>rhs;simp only [F9,h0,h1,h2,aI]
    rw [e]
    exact rt (t2++[.d h2]) [] [] hcx (by kernel_rfl)
   | false =>
    have q2:=ne_of_beq_false h2
    have e:=Eq.refl (F9 a0 a1);conv at e=>rhs;simp only [F9,h0,h1,h2,aI]
    rw [e]
    exact rt (t2++[.d h2]) [] [] hcx (by kernel_rfl)
theorem aYv {s n:Int} (hs:s=1∨s=2∨s=4∨s=8)(h1:1≤n)(h2:n≤1099511627776):1≤(zR s n).1:=by
 unfold zR
 rw [if_neg (by omega)]
 unfold inv
 have hN:1099511627776≤NN s:=by rcases hs with rfl | rfl | rfl | rfl<;>decide
 have hb:=aB6 hs
 obtain⟨q1,q2,q3⟩:=nB hb.1 h1
 have hq:1≤NN s / n:=Int.le_ediv_of_mul_le (by omega) (by omega)
 have hr:=xC (n:=NN s / n) q1 (by omega)
 exact hr.ge (by omega) (by omega)
theorem aM7 {p c q:PN} {d:Int} (hp:vp p=0)(hd:0≤d∧d≤3)(hc:c∈aR d.toNat p):1≤fa3 c q:=by
 obtain⟨g1,g2,g3⟩:=aKg c q
 obtain⟨hb,hn⟩:=gF hp
 have h:=aQn c q.1 g1 g2 g3
 rw [aKj hb hd hc] at h
 rcases Int.lt_or_le (fa3 c q) 1 with h' | h'
 · have h0:0≤fa3 c q:=Int.le_trans (vH _) g1
   have:fa3 c q=0:=by omega
   rw [this] at h;omega
 · exact h'
theorem aLh {α:Type} {g:α→Int}:∀(l:List α),(∀c∈l,1≤g c)→(l.length:Int)≤(l.map g).sum
 | [],_=>by simp
 | c::l,h=>by
   have h1:=h c List.mem_cons_self
   have h2:=aLh l (fun c hc=>h c (List.mem_cons_of_mem _ hc))
   simp only [List.map_cons,List.sum_cons,List.length_cons];omega
theorem aYw {v n:Int} (hn:1≤n)(h:n≤v):1≤v / n:=Int.le_ediv_of_mul_le (by omega) (by omega)
theorem aU5 {p q:PN} {d:Int} (hp:vp p=0)(hq:bdP 5000 q)(hd:0≤d∧d≤3):1≤(hG p q d).1:=by
 have hlen:=mN hd p
 have hc:=kN d
 unfold hG avg
 rw [vT]
 simp only [Int.zero_add]
 refine aYw (by omega) ?_
 rw [←hlen]
 refine aLh _ (fun c hcm=>?_)
 have hcb:=(oM (gF hp).1 hd hcm).mono (show(512:Int)≤5000 by omega)
 have:=aKf hcb hq
 exact aYv (qL d) (aM7 hp hd hcm) (by omega)
def okP (a:Int×Int):Prop:=1≤a.1∧a.1≤a.2∧a.2≤536870913
theorem aM8 {p q:PN} {d:Int} (hp:vp p=0)(hq:bdP 5000 q)(hd:0≤d∧d≤3):okP (hG p q d):=by
 have h1:=aU5 hp hq hd
 have h2:=aQw (q:=q) hp hd
 unfold okE at h2
 exact⟨h1,h2.2.1,h2.2.2⟩
theorem xO {p q:PN} {d:Int} (h:pk p q d=0):uJ p q d=(hG p (lG (sc d) q) d,0):=by
 unfold uJ
 rw [aAj,h]
 obtain⟨h1,h2,h3⟩:=vN h
 have hs:=aMw d
 have hq:=(gF h2).1
 have hq':=hq.mono (show(64:Int)≤4096 by omega)
 have hd:0≤d∧d≤3:=by omega
 have e1:=aQo h1 (aGa hs hq) hd
 unfold lG at e1 ⊢
 rw [aX0 hd,aOd hs hq'.1,aOd hs hq'.2.1,aOd hs hq'.2.2,e1];rfl
theorem kI {p q:PN} {d:Int} (h:pk p q d=0):(uJ p q d).2=0∧okP (uJ p q d).1:=by
 rw [xO h]
 obtain⟨h1,h2,h3⟩:=vN h
 exact⟨rfl,aM8 h1 (aGa (aMw d) (gF h2).1) (by omega)⟩
theorem oR {p q:PN} {d:Int} (h:pk p q d=0):(pQ p q d).2=0∧okP (pQ p q d).1:=by
 rw [aCb]
 obtain⟨h1,h2,h3⟩:=vN h
 have hd:0≤d∧d≤3:=by omega
 unfold aGe
 rw [if_pos h]
 refine⟨rfl,?_⟩
 have hl:=aCa (p:=p) (q:=q) hd
 have hc:=kN d
 have hpos:∀a∈tR p q d,okP a:=by
   intro a ha
   obtain⟨b,hb,rfl⟩:=List.mem_map.1 ha
   exact aM8 h1 ((oM (gF h2).1 hd hb).mono (by omega)) hd
 have hs1:sc d*sc d≤((tR p q d).map (·.1)).sum:=by rw [←hl];exact aLh _ (fun a ha=>(hpos a ha).1)
 have key:∀l:List (Int×Int),(∀a∈l,okP a)→(l.map (·.1)).sum≤(l.map (·.2)).sum∧(l.map (·.2)).sum≤536870913*(l.length:Nat):=by
   intro l
   induction l with
   | nil=>intro _;simp
   | cons c l ih =>
     intro h
     obtain⟨a1,a2,a3⟩:=h c List.mem_cons_self
     have h2:=ih (fun c hc=>h c (List.mem_cons_of_mem _ hc))
     simp only [List.map_cons,List.sum_cons,List.length_cons];omega
 have hk:=key _ hpos
 rw [hl] at hk
 rw [rM]
 unfold avg okP
 simp only [Int.zero_add]
 generalize ((tR p q d).map (·.1)).sum=x at *
 generalize ((tR p q d).map (·.2)).sum=y at *
 rcases hc with e | e | e | e<;>rw [e] at hs1 hk ⊢<;>omega
theorem aLi (m:ME):∀(n i:Nat)(v:List (P3×Bool)),m.1.length - i < n→aB (eP m) n (v,(i:Int))=0→∀j,i≤j→j < m.1.length→bd 64 (m.1.getD j default):=by
 intro n
 induction n with
 | zero=>intro i v h;omega
 | succ n ih =>
   intro i v hn h j h1 h2
   have hw:((i:Nat):Int) < (m.1.length:Int):=by omega
   cases hr:F36 (m.1.getD i default) 64 with
   | false =>
     have e1:eP m (v,(i:Int))=.inr 1:=by
       simp only [eP];rw [bY hw,cond_true,uL,hr];rfl
     rw [aO e1] at h;exact absurd h (by decide)
   | true =>
     cases hg:aV v (m.1.getD i default) false with
     | true =>
       have e1:eP m (v,(i:Int))=.inr 1:=by
         simp only [eP];rw [bY hw,cond_true,uL,hr,hg];rfl
       rw [aO e1] at h;exact absurd h (by decide)
     | false =>
       have e1:eP m (v,(i:Int))=.inl (cJ v (m.1.getD i default) true,((i+1:Nat):Int)):=by
         simp only [eP];rw [bY hw,cond_true,uL,hr,hg];rfl
       rw [aA e1] at h
       by_cases hj:j=i
       · subst hj
         classical
         rw [lU] at hr
         exact bZ hr
       · exact ih (i+1) _ (by omega) h j (by omega) h2
theorem aU6 {m:ME} (h:fR m=0):∀j,j < m.1.length→bd 64 (m.1.getD j default):=by
 obtain⟨_,_,_,h4,_⟩:=iG h
 exact fun j hj=>aLi m _ 0 [] (by omega) h4 j (Nat.zero_le _) hj
theorem aGq {m:ME} (h:fR m=0):∀c∈m.2,vp (eO m c)=0:=by
 intro c hc
 obtain⟨i,hi⟩:=List.getElem?_of_mem hc
 obtain⟨hlt,_⟩:=List.getElem?_eq_some_iff.1 hi
 have hpt:=aU6 h
 obtain⟨h64,_,_,_,hf⟩:=iG h
 have hfc:=hf (i:Int) (by omega) (by omega)
 rw [bB hi] at hfc
 have hin:inF m.1.length c:=mO (m:=m) (by rw [hfc];rfl) h64
 have hb:bdP 64 (eO m c):=⟨hpt _ (by have:=hin.1;omega),hpt _ (by have:=hin.2.1;omega),hpt _ (by have:=hin.2.2;omega)⟩
 unfold F69 at hfc
 have hw:W ((m.1.length:Int) - 1)=(m.1.length:Int) - 1:=aE (by omega) (by omega)
 have fr:∀x:Int,0≤x∧x < (m.1.length:Int)→(!qG x 0 (W ((m.1.length:Int) - 1)))=false:=by
   intro x hx
   unfold qG
   rw [hw,bY hx.1,bY (show x≤(m.1.length:Int) - 1 by omega)];rfl
 rw [fr _ hin.1,fr _ hin.2.1,fr _ hin.2.2,cond_false,cond_false,cond_false,show nO (eO (m.1,m.2) c)=lE (eO m c) from aWe hb] at hfc
 unfold vp
 rw [if_pos hb]
 generalize lE (eO m c)=q at hfc ⊢
 by_cases hz:q.1=0∧q.2.1=0∧q.2.2=0
 · rw [hz.1,hz.2.1,hz.2.2] at hfc;exact absurd hfc (by decide)
 · rw [if_neg hz]
theorem mA {m:ME} (h:fR m=0) {d:Int} (hd:0≤d∧d≤2) {p q:PN} (hp:p∈m.2.map (eO m))(hq:q∈m.2.map (eO m)):pk p q d=0:=by
 obtain⟨a,ha,rfl⟩:=List.mem_map.1 hp
 obtain⟨b,hb,rfl⟩:=List.mem_map.1 hq
 unfold pk
 rw [if_pos (aGq h a ha),if_pos (aGq h b hb),if_pos hd]
theorem aYx {α:Type} {n:Nat} {t:List (List α)} (h:∀r∈t,r.length=n)(j:Int):(0≤j∧j < (t.length:Int))→(t.getD (toNat j) default).length=n:=fun g=>by
 have hlt:toNat j < t.length:=by omega
 rw [fO,List.getElem?_eq_getElem hlt,Option.getD_some]
 exact h _ (List.getElem_mem hlt)
theorem aYy {α:Type} {n:Nat} {t:List (List α)} (h:∀r∈t,r.length≤n)(j:Int):(0≤j∧j < (t.length:Int))→(t.getD (toNat j) default).length≤n:=fun g=>by
 have hlt:toNat j < t.length:=by omega
 rw [fO,List.getElem?_eq_getElem hlt,Option.getD_some]
 exact h _ (List.getElem_mem hlt)
noncomputable def xP:Code:=(aD [1,1,0,1] [] (aH Tryz.f96) []).1
noncomputable def xQ:List K:=(aD [1,1,0,1] [] (aH Tryz.f96) []).2
def tX (a0:List (Int×Int))(a1:List (Int))(v2c:List SV)(v2n:Nat)(v3:Int):LS:=⟨iJ 40 [(1,(.s 1 0 a1.length 1)),(4,(.p 2 0)),(6,(.s 3 0 v2n 2)),(11,(.s 0 0 a0.length 2)),(12,(iv (a0.length:Int))),(13,(iv v3))],[(.live false true (flat cQ a0)),(.live false true (flat c3 a1)),(.live true false [(iv 0),(iv 0)]),(.live true true v2c)]⟩
def dY (a0:List (Int×Int))(a1:List (Int)):(List (Int×Int))×Int→((List (Int×Int))×Int)⊕((Int×Int)×Int)
 | (v2,v3) =>
  (bif (decide ((v3:Int) < (a0.length:Int))) then
   (bif (((nT (a0.getD (toNat v3) default) (a1.getD (toNat v3) default)).2:Int) != 0) then
    (.inr ((0,0),(nT (a0.getD (toNat v3) default) (a1.getD (toNat v3) default)).2))
   else
    (.inl ((v2++[(nT (a0.getD (toNat v3) default) (a1.getD (toNat v3) default)).1]),(v3+1))))
  else
   (.inr ((kK v2).1,(kK v2).2)))
theorem aOk (a0:List (Int×Int))(a1:List (Int))(l0:a0.length≤9223372036854775807)(l1:a1.length≤9223372036854775807)(hl:a0.length≤a1.length)(hn:a0.length≤9216) {cx:Cx} (hcx:cx.base=2):∀(n:Nat)(v2:List (Int×Int))(v3:Int),(0≤v3)∧(v2.length=toNat v3)∧(v3≤a0.length)→toNat ((a0.length:Int) - v3) < n→Aw.Good Tryz.prog none 9 (bodyPost Tryz.prog Tryz.f96 (RR cx (.t [(.a (k2 (aB (dY a0 a1) n (v2,v3)).1)),(iv (aB (dY a0 a1) n (v2,v3)).2)]) [] [])) cx [] (.l xP n::xQ) (tX a0 a1 (flat cQ v2) v2.length v3):=by
 intro n
 induction n with
 | zero=>intro v2 v3 hi hn;exact absurd hn (hO _)
 | succ n ih =>
   intro v2 v3 hi hn
   refine aG ?_
   cases h0:(decide ((v3:Int) < (a0.length:Int))) with
   | true =>
    have q0:=bZ h0
    let t1:List (St Tryz.prog):=[.d h0,.i v3 (a0.length),.L cA a0 v3 0 2,.i v3 (a1.length),.L dT a1 v3 0 1,.c [] (C17 (a0.getD (toNat v3) default) (a1.getD (toNat v3) default))]
    cases h1:(((nT (a0.getD (toNat v3) default) (a1.getD (toNat v3) default)).2:Int) != 0) with
    | true =>
     have q1:=bne_iff_ne.1 h1
     have e:=Eq.refl (dY a0 a1 (v2,v3));conv at e=>rhs;simp only [dY,h0,h1,aI]
     rw [aF,e]
     exact rt (t1++[.d h1]) [] [] hcx (by kernel_rfl)
    | false =>
     have q1:=bne_eq_false_iff_eq.1 h1
     have e:=Eq.refl (dY a0 a1 (v2,v3));conv at e=>rhs;simp only [dY,h0,h1,aI]
     rw [aA e]
     refine ba (t1++[.d h1,.p (show((flat cQ v2).length=v2.length*2∧v2.length+1≤2 ^ 40∧(v2.length+1)*16≤2 ^ 47) from gH cA (by omega) (by omega))]) [] [1,4,6,11,12,13] [2,7] hcx (m:=n) xP (xQ) (tX a0 a1 (flat cQ v2++(k2 (nT (a0.getD (toNat v3) default) (a1.getD (toNat v3) default)).1)) (v2.length+1) (W (v3+1))) (by kernel_rfl) ?_
     have z0:(W (v3+1))=(v3+1):=aE (by omega) (by omega)
     have z1:(flat cQ v2++(k2 (nT (a0.getD (toNat v3) default) (a1.getD (toNat v3) default)).1))=(flat cQ (v2++[(nT (a0.getD (toNat v3) default) (a1.getD (toNat v3) default)).1])):=(bO (c:=cQ) (l:=v2) (m:=[(nT (a0.getD (toNat v3) default) (a1.getD (toNat v3) default)).1])).symm
     have z2:(v2.length+1)=(v2++[(nT (a0.getD (toNat v3) default) (a1.getD (toNat v3) default)).1]).length:=eH v2 [(nT (a0.getD (toNat v3) default) (a1.getD (toNat v3) default)).1] rfl
     rw [z0,z1,z2]
     exact ih (v2++[(nT (a0.getD (toNat v3) default) (a1.getD (toNat v3) default)).1]) (v3+1) (by refine⟨?_,?_,?_⟩<;>(try simp only [Ls])<;>first | omega | assumption | simp) (by(try simp only [Ls]);omega)
   | false =>
    have q0:=cI h0
    have e:=Eq.refl (dY a0 a1 (v2,v3));conv at e=>rhs;simp only [dY,h0,aI]
    rw [aF,e]
    exact rt [.d h0,.c [3] (aXg v2 (by omega))] [] [] hcx (by kernel_rfl)
def dD (a0:List (Int×Int))(a1:List (Int)):(Int×Int)×Int :=
 (aB (dY a0 a1) (toNat ((a0.length:Int) - 0)+1) (([]:List (Int×Int)),0))
theorem aM9 (a0:List (Int×Int))(a1:List (Int))(l0:a0.length≤9223372036854775807)(l1:a1.length≤9223372036854775807)(hl:a0.length≤a1.length)(hn:a0.length≤9216):Con Tryz.prog 96 [(.s 0 0 a0.length 2),(.s 1 0 a1.length 1)] [(.live false true (flat cQ a0)),(.live false true (flat c3 a1))] (.t [(.a (k2 (dD a0 a1).1)),(iv (dD a0 a1).2)]) []:=by
 refine aJ Tryz.func96 (by kernel_rfl) fun cx hcx=>?_
 have e:=Eq.refl (dD a0 a1);conv at e=>rhs;simp only [dD]
 rw [e]
 refine en [] [.slot 6 2] [1,4,6,11,12,13] [2,3] hcx xP (xQ) (tX a0 a1 (flat cQ ([]:List (Int×Int))) 0 0) (toNat ((a0.length:Int) - 0)+1) (by kernel_rfl) ?_
 exact aOk a0 a1 l0 l1 hl hn hcx (toNat ((a0.length:Int) - 0)+1) ([]:List (Int×Int)) 0 (by refine⟨?_,?_,?_⟩<;>(try simp only [Ls])<;>first | omega | assumption | simp) (by(try simp only [Ls]);omega)
def eZ (x:List (Int×Int)):List SV:=[(.d (flat cQ x) x.length 2)]
theorem vV (x:List (Int×Int)):(eZ x).length=1:=rfl
noncomputable def xR:Code:=(aD [1,1,1,1,0,1,0,1,1,0,1,1,0,1] [0] (aH Tryz.f59) []).1
noncomputable def xS (m0:Nat):List K:=(aD [1,1,1,1,0,1,0,1,1,0,1,1,0,1] [m0] (aH Tryz.f59) []).2
def tY (a0:Zm)(a1:Int)(v10c:List SV)(v10n:Nat)(v11c:List SV)(v11n:Nat)(v12 v13 v14 v15 v16 v17 v18 v19 v20 v21 v22:Int):LS:=⟨iJ 60 [(1,(iv a1)),(2,(.v (.func (.func 60) #[] #[]))),(8,(.s 2 0 (bF (a0.1,a0.2)).1.length 9)),(10,(.s 3 0 v10n 1)),(12,(.p 4 0)),(13,(.s 5 0 v11n 2)),(26,(.s 2 0 (bF (a0.1,a0.2)).1.length 9)),(27,(iv (((bF (a0.1,a0.2)).1.length:Nat):Int))),(28,(iv v12)),(32,(.s 2 0 (bF (a0.1,a0.2)).1.length 9)),(33,(iv (((bF (a0.1,a0.2)).1.length:Nat):Int))),(34,(iv v13))],[(.live false true (flat dX a0.1)),(.live false true (flat fA a0.2)),(.live true true (flat dL (bF (a0.1,a0.2)).1)),(.live true true v10c),(.live true false [(iv v14),(iv v15),(iv v16),(iv v17),(iv v18),(iv v19),(iv v20),(iv v21),(iv v22)]),(.live true true v11c)]⟩
def eS (a0:Zm)(a1:Int):(List (List (Int×Int)))×(List (Int×Int))×Int×Int×Int×Int×Int×Int×Int×Int×Zt→((List (List (Int×Int)))×(List (Int×Int))×Int×Int×Int×Int×Int×Int×Int×Int×Zt)⊕(((List (List (Int×Int)))×Int)⊕((List (List (Int×Int)))×Int))
 | (v10,v11,v12,v13,v14,v15,v16,v17,v18,v19,v20,v21,v22) =>
  (bif (decide ((v13:Int) < (((bF (a0.1,a0.2)).1.length:Nat):Int))) then
   (bif (((uJ ((bF (a0.1,a0.2)).1.getD (toNat v13) default) ((v14,v15,v16),(v17,v18,v19),(v20,v21,v22)) a1).2:Int) != 0) then
    (.inr (.inr (([]:List (List (Int×Int))),(uJ ((bF (a0.1,a0.2)).1.getD (toNat v13) default) ((v14,v15,v16),(v17,v18,v19),(v20,v21,v22)) a1).2)))
   else
    (.inl (v10,(v11++[(uJ ((bF (a0.1,a0.2)).1.getD (toNat v13) default) ((v14,v15,v16),(v17,v18,v19),(v20,v21,v22)) a1).1]),v12,(v13+1),v14,v15,v16,v17,v18,v19,v20,v21,v22)))
  else
   (.inr (.inl ((v10++[v11]),(v12+1)))))
noncomputable def rR:Code:=(aD [1,1,1,1,0,1] [] (aH Tryz.f59) []).1
noncomputable def rS:List K:=(aD [1,1,1,1,0,1] [] (aH Tryz.f59) []).2
def oS (a0:Zm)(a1:Int)(v8c:List SV)(v8n:Nat)(v9:Int):LS:=⟨iJ 60 [(1,(iv a1)),(2,(.v (.func (.func 60) #[] #[]))),(8,(.s 2 0 (bF (a0.1,a0.2)).1.length 9)),(10,(.s 3 0 v8n 1)),(26,(.s 2 0 (bF (a0.1,a0.2)).1.length 9)),(27,(iv (((bF (a0.1,a0.2)).1.length:Nat):Int))),(28,(iv v9))],[(.live false true (flat dX a0.1)),(.live false true (flat fA a0.2)),(.live true true (flat dL (bF (a0.1,a0.2)).1)),(.live true true v8c)]⟩
def dB (a0:Zm)(a1:Int):(List (List (Int×Int)))×Int→((List (List (Int×Int)))×Int)⊕((List (List (Int×Int)))×Int)
 | (v8,v9) =>
  (bif (decide ((v9:Int) < (((bF (a0.1,a0.2)).1.length:Nat):Int))) then
   (aB (eS a0 a1) (toNat ((((bF (a0.1,a0.2)).1.length:Nat):Int) - 0)+1) (v8,([]:List (Int×Int)),v9,0,((bF (a0.1,a0.2)).1.getD (toNat v9) default).1.1,((bF (a0.1,a0.2)).1.getD (toNat v9) default).1.2.1,((bF (a0.1,a0.2)).1.getD (toNat v9) default).1.2.2,((bF (a0.1,a0.2)).1.getD (toNat v9) default).2.1.1,((bF (a0.1,a0.2)).1.getD (toNat v9) default).2.1.2.1,((bF (a0.1,a0.2)).1.getD (toNat v9) default).2.1.2.2,((bF (a0.1,a0.2)).1.getD (toNat v9) default).2.2.1,((bF (a0.1,a0.2)).1.getD (toNat v9) default).2.2.2.1,((bF (a0.1,a0.2)).1.getD (toNat v9) default).2.2.2.2))
  else
   (.inr (v8,0)))
theorem aOl (a0:Zm)(a1:Int)(l0_1:a0.1.length≤9223372036854775807)(l0_2:a0.2.length≤9223372036854775807) {cx:Cx} (hcx:cx.base=2)
   (n0:Nat) (g0:∀(v8:List (List (Int×Int))) (v9:Int),(0≤v9)∧(v8.length=toNat v9)∧(v9≤(bF (a0.1,a0.2)).1.length)→toNat ((((bF (a0.1,a0.2)).1.length:Nat):Int) - v9) < n0→Aw.Good Tryz.prog none 9 (bodyPost Tryz.prog Tryz.f59 (RR cx (.t [(.s 2 0 (aB (dB a0 a1) n0 (v8,v9)).1.length 1),(iv (aB (dB a0 a1) n0 (v8,v9)).2)]) [(.live true true (flat eZ (aB (dB a0 a1) n0 (v8,v9)).1))] [])) cx [] (.l rR n0::rS) (oS a0 a1 (flat eZ v8) v8.length v9)):∀(n:Nat) (v10:List (List (Int×Int))) (v11:List (Int×Int)) (v12 v13 v14 v15 v16 v17 v18 v19 v20 v21 v22:Int),(0≤v13)∧(v11.length=toNat v13)∧(v13≤(bF (a0.1,a0.2)).1.length)∧(v10.length=toNat v12)∧(0≤v12)∧(v12 < (bF (a0.1,a0.2)).1.length)∧((0≤v12))∧((v10.length=toNat v12))∧((v12≤(bF (a0.1,a0.2)).1.length))∧(v12 < (((bF (a0.1,a0.2)).1.length:Nat):Int))∧(toNat ((((bF (a0.1,a0.2)).1.length:Nat):Int) - v12) < n0+1)→toNat ((((bF (a0.1,a0.2)).1.length:Nat):Int) - v13) < n→Aw.Good Tryz.prog none 9 (bodyPost Tryz.prog Tryz.f59 (RR cx (.t [(.s 2 0 (iZ (dB a0 a1) n0 (aB (eS a0 a1) n (v10,v11,v12,v13,v14,v15,v16,v17,v18,v19,v20,v21,v22))).1.length 1),(iv (iZ (dB a0 a1) n0 (aB (eS a0 a1) n (v10,v11,v12,v13,v14,v15,v16,v17,v18,v19,v20,v21,v22))).2)]) [(.live true true (flat eZ (iZ (dB a0 a1) n0 (aB (eS a0 a1) n (v10,v11,v12,v13,v14,v15,v16,v17,v18,v19,v20,v21,v22))).1))] [])) cx [] (.l xR n::xS n0) (tY a0 a1 (flat eZ v10) v10.length (flat cQ v11) v11.length v12 v13 v14 v15 v16 v17 v18 v19 v20 v21 v22):=by
 intro n
 induction n with
 | zero=>intro v10 v11 v12 v13 v14 v15 v16 v17 v18 v19 v20 v21 v22 hi hn;exact absurd hn (hO _)
 | succ n ih =>
   intro v10 v11 v12 v13 v14 v15 v16 v17 v18 v19 v20 v21 v22 hi hn
   refine aG ?_
   have hpl:=rP (a0.1,a0.2)
   cases h0:(decide ((v13:Int) < (((bF (a0.1,a0.2)).1.length:Nat):Int))) with
   | true =>
    have q0:=bZ h0
    let t1:List (St Tryz.prog):=[.d h0,.i v13 ((bF (a0.1,a0.2)).1.length),.L cW (bF (a0.1,a0.2)).1 v13 0 9,.c [] (C60 ((bF (a0.1,a0.2)).1.getD (toNat v13) default) ((v14,v15,v16),(v17,v18,v19),(v20,v21,v22)) a1)]
    cases h1:(((uJ ((bF (a0.1,a0.2)).1.getD (toNat v13) default) ((v14,v15,v16),(v17,v18,v19),(v20,v21,v22)) a1).2:Int) != 0) with
    | true =>
     have q1:=bne_iff_ne.1 h1
     have e:=Eq.refl (eS a0 a1 (v10,v11,v12,v13,v14,v15,v16,v17,v18,v19,v20,v21,v22));conv at e=>rhs;simp only [eS,h0,h1,aI]
     rw [aF,e]
     exact rt (t1++[.d h1]) [.slot 6 1] [8] hcx (by kernel_rfl)
    | false =>
     have q1:=bne_eq_false_iff_eq.1 h1
     have e:=Eq.refl (eS a0 a1 (v10,v11,v12,v13,v14,v15,v16,v17,v18,v19,v20,v21,v22));conv at e=>rhs;simp only [eS,h0,h1,aI]
     rw [aA e]
     refine ba (t1++[.d h1,.p (show((flat cQ v11).length=v11.length*2∧v11.length+1≤2 ^ 40∧(v11.length+1)*16≤2 ^ 47) from gH cA (by omega) (by omega))]) [] [1,2,8,10,12,13,26,27,28,32,33,34] [2,3,4,9] hcx (m:=n) xR (xS n0) (tY a0 a1 (flat eZ v10) (v10.length) (flat cQ v11++(k2 (uJ ((bF (a0.1,a0.2)).1.getD (toNat v13) default) ((v14,v15,v16),(v17,v18,v19),(v20,v21,v22)) a1).1)) (v11.length+1) v12 (W (v13+1)) v14 v15 v16 v17 v18 v19 v20 v21 v22) (by kernel_rfl) ?_
     have z0:(W (v13+1))=(v13+1):=aE (by omega) (by omega)
     have z1:(flat cQ v11++(k2 (uJ ((bF (a0.1,a0.2)).1.getD (toNat v13) default) ((v14,v15,v16),(v17,v18,v19),(v20,v21,v22)) a1).1))=(flat cQ (v11++[(uJ ((bF (a0.1,a0.2)).1.getD (toNat v13) default) ((v14,v15,v16),(v17,v18,v19),(v20,v21,v22)) a1).1])):=(bO (c:=cQ) (l:=v11) (m:=[(uJ ((bF (a0.1,a0.2)).1.getD (toNat v13) default) ((v14,v15,v16),(v17,v18,v19),(v20,v21,v22)) a1).1])).symm
     have z2:(v11.length+1)=(v11++[(uJ ((bF (a0.1,a0.2)).1.getD (toNat v13) default) ((v14,v15,v16),(v17,v18,v19),(v20,v21,v22)) a1).1]).length:=eH v11 [(uJ ((bF (a0.1,a0.2)).1.getD (toNat v13) default) ((v14,v15,v16),(v17,v18,v19),(v20,v21,v22)) a1).1] rfl
     rw [z0,z1,z2]
     exact ih v10 (v11++[(uJ ((bF (a0.1,a0.2)).1.getD (toNat v13) default) ((v14,v15,v16),(v17,v18,v19),(v20,v21,v22)) a1).1]) v12 (v13+1) v14 v15 v16 v17 v18 v19 v20 v21 v22 (by refine⟨?_,?_,?_,?_,?_,?_,?_,?_,?_,?_,?_⟩<;>(try simp only [Ls])<;>first | omega | assumption | exact hi.2.1 | exact hi.2.2.1 | exact hi.2.2.2.1 | exact hi.2.2.2.2.1 | exact hi.2.2.2.2.2.1 | exact hi.2.2.2.2.2.2.1 | exact hi.2.2.2.2.2.2.2.1 | exact hi.2.2.2.2.2.2.2.2.1 | exact hi.2.2.2.2.2.2.2.2.2.1 | exact hi.2.2.2.2.2.2.2.2.2.2.1 | simp) (by(try simp only [Ls]);omega)
   | false =>
    have q0:=cI h0
    have e:=Eq.refl (eS a0 a1 (v10,v11,v12,v13,v14,v15,v16,v17,v18,v19,v20,v21,v22));conv at e=>rhs;simp only [eS,h0,aI]
    rw [aF,e]
    refine ba [.d h0,.p (show((flat cQ v11)).length=v11.length*2 from by simp [lH cA]),.p (show((flat eZ v10).length=v10.length*1∧v10.length+1≤2 ^ 40∧(v10.length+1)*24≤2 ^ 47) from gH vV (by omega) (by omega))] [] [1,2,8,10,26,27,28] [2,7] hcx (m:=n0) rR (rS) (oS a0 a1 (flat eZ v10++[(.d (flat cQ v11) v11.length 2)]) (v10.length+1) (W (v12+1))) (by kernel_rfl) ?_
    have z0:(W (v12+1))=(v12+1):=aE (by omega) (by omega)
    have z1:(flat eZ v10++[(.d (flat cQ v11) v11.length 2)])=(flat eZ (v10++[v11])):=(bO (c:=eZ) (l:=v10) (m:=[v11])).symm
    have z2:(v10.length+1)=(v10++[v11]).length:=eH v10 [v11] rfl
    rw [z0,z1,z2]
    exact g0 (v10++[v11]) (v12+1) (by refine⟨?_,?_,?_⟩<;>(try simp only [Ls])<;>first | omega | assumption | simp) (by(try simp only [Ls]);omega)
theorem aOm (a0:Zm)(a1:Int)(l0_1:a0.1.length≤9223372036854775807)(l0_2:a0.2.length≤9223372036854775807) {cx:Cx} (hcx:cx.base=2):∀(n:Nat)(v8:List (List (Int×Int)))(v9:Int),(0≤v9)∧(v8.length=toNat v9)∧(v9≤(bF (a0.1,a0.2)).1.length)→toNat ((((bF (a0.1,a0.2)).1.length:Nat):Int) - v9) < n→Aw.Good Tryz.prog none 9 (bodyPost Tryz.prog Tryz.f59 (RR cx (.t [(.s 2 0 (aB (dB a0 a1) n (v8,v9)).1.length 1),(iv (aB (dB a0 a1) n (v8,v9)).2)]) [(.live true true (flat eZ (aB (dB a0 a1) n (v8,v9)).1))] [])) cx [] (.l rR n::rS) (oS a0 a1 (flat eZ v8) v8.length v9):=by
 intro n
 induction n with
 | zero=>intro v8 v9 hi hn;exact absurd hn (hO _)
 | succ n ih =>
   intro v8 v9 hi hn
   refine aG ?_
   have hpl:=rP (a0.1,a0.2)
   cases h0:(decide ((v9:Int) < (((bF (a0.1,a0.2)).1.length:Nat):Int))) with
   | true =>
    have q0:=bZ h0
    have e:=Eq.refl (dB a0 a1 (v8,v9));conv at e=>rhs;simp only [dB,h0,aI]
    rw [aF,e]
    refine en [.d h0,.i v9 ((bF (a0.1,a0.2)).1.length),.L cW (bF (a0.1,a0.2)).1 v9 0 9] [.slot 13 2] [1,2,8,10,12,13,26,27,28,32,33,34] [2,3,4,5] hcx xR (xS n) (tY a0 a1 (flat eZ v8) (v8.length) (flat cQ ([]:List (Int×Int))) 0 v9 0 (((bF (a0.1,a0.2)).1.getD (toNat v9) default).1.1) (((bF (a0.1,a0.2)).1.getD (toNat v9) default).1.2.1) (((bF (a0.1,a0.2)).1.getD (toNat v9) default).1.2.2) (((bF (a0.1,a0.2)).1.getD (toNat v9) default).2.1.1) (((bF (a0.1,a0.2)).1.getD (toNat v9) default).2.1.2.1) (((bF (a0.1,a0.2)).1.getD (toNat v9) default).2.1.2.2) (((bF (a0.1,a0.2)).1.getD (toNat v9) default).2.2.1) (((bF (a0.1,a0.2)).1.getD (toNat v9) default).2.2.2.1) (((bF (a0.1,a0.2)).1.getD (toNat v9) default).2.2.2.2)) (toNat ((((bF (a0.1,a0.2)).1.length:Nat):Int) - 0)+1) (by kernel_rfl) ?_
    exact aOl a0 a1 l0_1 l0_2 hcx n ih (toNat ((((bF (a0.1,a0.2)).1.length:Nat):Int) - 0)+1) v8 ([]:List (Int×Int)) v9 0 (((bF (a0.1,a0.2)).1.getD (toNat v9) default).1.1) (((bF (a0.1,a0.2)).1.getD (toNat v9) default).1.2.1) (((bF (a0.1,a0.2)).1.getD (toNat v9) default).1.2.2) (((bF (a0.1,a0.2)).1.getD (toNat v9) default).2.1.1) (((bF (a0.1,a0.2)).1.getD (toNat v9) default).2.1.2.1) (((bF (a0.1,a0.2)).1.getD (toNat v9) default).2.1.2.2) (((bF (a0.1,a0.2)).1.getD (toNat v9) default).2.2.1) (((bF (a0.1,a0.2)).1.getD (toNat v9) default).2.2.2.1) (((bF (a0.1,a0.2)).1.getD (toNat v9) default).2.2.2.2) (by refine⟨?_,?_,?_,?_,?_,?_,?_,?_,?_,?_,?_⟩<;>(try simp only [Ls])<;>first | omega | assumption | exact hi.2.1 | exact hi.2.2.1 | exact hi.2.2.2.1 | exact hi.2.2.2.2.1 | exact hi.2.2.2.2.2.1 | exact hi.2.2.2.2.2.2.1 | exact hi.2.2.2.2.2.2.2.1 | exact hi.2.2.2.2.2.2.2.2.1 | exact hi.2.2.2.2.2.2.2.2.2.1 | exact hi.2.2.2.2.2.2.2.2.2.2.1 | simp) (by(try simp only [Ls]);omega)
   | false =>
    have q0:=cI h0
    have e:=Eq.refl (dB a0 a1 (v8,v9));conv at e=>rhs;simp only [dB,h0,aI]
    rw [aF,e]
    exact rt [.d h0] [] [3] hcx (by kernel_rfl)
def bT (a0:Zm)(a1:Int):(List (List (Int×Int)))×Int :=
 (bif (((bF (a0.1,a0.2)).2:Int) != 0) then
  (([]:List (List (Int×Int))),(bF (a0.1,a0.2)).2)
 else
  (aB (dB a0 a1) (toNat ((((bF (a0.1,a0.2)).1.length:Nat):Int) - 0)+1) (([]:List (List (Int×Int))),0)))
theorem aU7 (a0:Zm)(a1:Int)(l0_1:a0.1.length≤9223372036854775807)(l0_2:a0.2.length≤9223372036854775807):Con Tryz.prog 59 [(.a [(.s 0 0 a0.1.length 3),(.s 1 0 a0.2.length 3)]),(iv a1),(.v (.func (.func 60) #[] #[]))] [(.live false true (flat dX a0.1)),(.live false true (flat fA a0.2))] (.t [(.s 2 0 (bT a0 a1).1.length 1),(iv (bT a0 a1).2)]) [(.live true true (flat eZ (bT a0 a1).1))]:=by
 refine aJ Tryz.func59 (by kernel_rfl) fun cx hcx=>?_
 have hpl:=rP (a0.1,a0.2)
 let t0:List (St Tryz.prog):=[.c [0,1] (C90 (a0.1,a0.2) (by(try simp only [Lt]);omega) (by(try simp only [Lt]);omega))]
 cases h0:(((bF (a0.1,a0.2)).2:Int) != 0) with
 | true =>
  have q0:=bne_iff_ne.1 h0
  have e:=Eq.refl (bT a0 a1);conv at e=>rhs;simp only [bT,h0,aI]
  rw [e]
  exact rt (t0++[.d h0]) [.slot 6 1] [4] hcx (by kernel_rfl)
 | false =>
  have q0:=bne_eq_false_iff_eq.1 h0
  have e:=Eq.refl (bT a0 a1);conv at e=>rhs;simp only [bT,h0,aI]
  rw [e]
  refine en (t0++[.d h0]) [.slot 10 1] [1,2,8,10,26,27,28] [3,4] hcx rR (rS) (oS a0 a1 (flat eZ ([]:List (List (Int×Int)))) 0 0) (toNat ((((bF (a0.1,a0.2)).1.length:Nat):Int) - 0)+1) (by kernel_rfl) ?_
  exact aOm a0 a1 l0_1 l0_2 hcx (toNat ((((bF (a0.1,a0.2)).1.length:Nat):Int) - 0)+1) ([]:List (List (Int×Int))) 0 (by refine⟨?_,?_,?_⟩<;>(try simp only [Ls])<;>first | omega | assumption | simp) (by(try simp only [Ls]);omega)
noncomputable def xT:Code:=(aD [1,1,1,1,0,1,0,1,1,0,1,1,0,1] [0] (aH Tryz.f59) []).1
noncomputable def xU (m0:Nat):List K:=(aD [1,1,1,1,0,1,0,1,1,0,1,1,0,1] [m0] (aH Tryz.f59) []).2
def tZ (a0:Zm)(a1:Int)(v10c:List SV)(v10n:Nat)(v11c:List SV)(v11n:Nat)(v12 v13 v14 v15 v16 v17 v18 v19 v20 v21 v22:Int):LS:=⟨iJ 60 [(1,(iv a1)),(2,(.v (.func (.func 61) #[] #[]))),(8,(.s 2 0 (bF (a0.1,a0.2)).1.length 9)),(10,(.s 3 0 v10n 1)),(12,(.p 4 0)),(13,(.s 5 0 v11n 2)),(26,(.s 2 0 (bF (a0.1,a0.2)).1.length 9)),(27,(iv (((bF (a0.1,a0.2)).1.length:Nat):Int))),(28,(iv v12)),(32,(.s 2 0 (bF (a0.1,a0.2)).1.length 9)),(33,(iv (((bF (a0.1,a0.2)).1.length:Nat):Int))),(34,(iv v13))],[(.live false true (flat dX a0.1)),(.live false true (flat fA a0.2)),(.live true true (flat dL (bF (a0.1,a0.2)).1)),(.live true true v10c),(.live true false [(iv v14),(iv v15),(iv v16),(iv v17),(iv v18),(iv v19),(iv v20),(iv v21),(iv v22)]),(.live true true v11c)]⟩
def eT (a0:Zm)(a1:Int):(List (List (Int×Int)))×(List (Int×Int))×Int×Int×Int×Int×Int×Int×Int×Int×Zt→((List (List (Int×Int)))×(List (Int×Int))×Int×Int×Int×Int×Int×Int×Int×Int×Zt)⊕(((List (List (Int×Int)))×Int)⊕((List (List (Int×Int)))×Int))
 | (v10,v11,v12,v13,v14,v15,v16,v17,v18,v19,v20,v21,v22) =>
  (bif (decide ((v13:Int) < (((bF (a0.1,a0.2)).1.length:Nat):Int))) then
   (bif (((pQ ((bF (a0.1,a0.2)).1.getD (toNat v13) default) ((v14,v15,v16),(v17,v18,v19),(v20,v21,v22)) a1).2:Int) != 0) then
    (.inr (.inr (([]:List (List (Int×Int))),(pQ ((bF (a0.1,a0.2)).1.getD (toNat v13) default) ((v14,v15,v16),(v17,v18,v19),(v20,v21,v22)) a1).2)))
   else
    (.inl (v10,(v11++[(pQ ((bF (a0.1,a0.2)).1.getD (toNat v13) default) ((v14,v15,v16),(v17,v18,v19),(v20,v21,v22)) a1).1]),v12,(v13+1),v14,v15,v16,v17,v18,v19,v20,v21,v22)))
  else
   (.inr (.inl ((v10++[v11]),(v12+1)))))
noncomputable def rT:Code:=(aD [1,1,1,1,0,1] [] (aH Tryz.f59) []).1
noncomputable def rU:List K:=(aD [1,1,1,1,0,1] [] (aH Tryz.f59) []).2
def oT (a0:Zm)(a1:Int)(v8c:List SV)(v8n:Nat)(v9:Int):LS:=⟨iJ 60 [(1,(iv a1)),(2,(.v (.func (.func 61) #[] #[]))),(8,(.s 2 0 (bF (a0.1,a0.2)).1.length 9)),(10,(.s 3 0 v8n 1)),(26,(.s 2 0 (bF (a0.1,a0.2)).1.length 9)),(27,(iv (((bF (a0.1,a0.2)).1.length:Nat):Int))),(28,(iv v9))],[(.live false true (flat dX a0.1)),(.live false true (flat fA a0.2)),(.live true true (flat dL (bF (a0.1,a0.2)).1)),(.live true true v8c)]⟩
def dC (a0:Zm)(a1:Int):(List (List (Int×Int)))×Int→((List (List (Int×Int)))×Int)⊕((List (List (Int×Int)))×Int)
 | (v8,v9) =>
  (bif (decide ((v9:Int) < (((bF (a0.1,a0.2)).1.length:Nat):Int))) then
   (aB (eT a0 a1) (toNat ((((bF (a0.1,a0.2)).1.length:Nat):Int) - 0)+1) (v8,([]:List (Int×Int)),v9,0,((bF (a0.1,a0.2)).1.getD (toNat v9) default).1.1,((bF (a0.1,a0.2)).1.getD (toNat v9) default).1.2.1,((bF (a0.1,a0.2)).1.getD (toNat v9) default).1.2.2,((bF (a0.1,a0.2)).1.getD (toNat v9) default).2.1.1,((bF (a0.1,a0.2)).1.getD (toNat v9) default).2.1.2.1,((bF (a0.1,a0.2)).1.getD (toNat v9) default).2.1.2.2,((bF (a0.1,a0.2)).1.getD (toNat v9) default).2.2.1,((bF (a0.1,a0.2)).1.getD (toNat v9) default).2.2.2.1,((bF (a0.1,a0.2)).1.getD (toNat v9) default).2.2.2.2))
  else
   (.inr (v8,0)))
theorem aOn (a0:Zm)(a1:Int)(l0_1:a0.1.length≤9223372036854775807)(l0_2:a0.2.length≤9223372036854775807) {cx:Cx} (hcx:cx.base=2)
   (n0:Nat) (g0:∀(v8:List (List (Int×Int))) (v9:Int),(0≤v9)∧(v8.length=toNat v9)∧(v9≤(bF (a0.1,a0.2)).1.length)→toNat ((((bF (a0.1,a0.2)).1.length:Nat):Int) - v9) < n0→Aw.Good Tryz.prog none 9 (bodyPost Tryz.prog Tryz.f59 (RR cx (.t [(.s 2 0 (aB (dC a0 a1) n0 (v8,v9)).1.length 1),(iv (aB (dC a0 a1) n0 (v8,v9)).2)]) [(.live true true (flat eZ (aB (dC a0 a1) n0 (v8,v9)).1))] [])) cx [] (.l rT n0::rU) (oT a0 a1 (flat eZ v8) v8.length v9)):∀(n:Nat) (v10:List (List (Int×Int))) (v11:List (Int×Int)) (v12 v13 v14 v15 v16 v17 v18 v19 v20 v21 v22:Int),(0≤v13)∧(v11.length=toNat v13)∧(v13≤(bF (a0.1,a0.2)).1.length)∧(v10.length=toNat v12)∧(0≤v12)∧(v12 < (bF (a0.1,a0.2)).1.length)∧((0≤v12))∧((v10.length=toNat v12))∧((v12≤(bF (a0.1,a0.2)).1.length))∧(v12 < (((bF (a0.1,a0.2)).1.length:Nat):Int))∧(toNat ((((bF (a0.1,a0.2)).1.length:Nat):Int) - v12) < n0+1)→toNat ((((bF (a0.1,a0.2)).1.length:Nat):Int) - v13) < n→Aw.Good Tryz.prog none 9 (bodyPost Tryz.prog Tryz.f59 (RR cx (.t [(.s 2 0 (iZ (dC a0 a1) n0 (aB (eT a0 a1) n (v10,v11,v12,v13,v14,v15,v16,v17,v18,v19,v20,v21,v22))).1.length 1),(iv (iZ (dC a0 a1) n0 (aB (eT a0 a1) n (v10,v11,v12,v13,v14,v15,v16,v17,v18,v19,v20,v21,v22))).2)]) [(.live true true (flat eZ (iZ (dC a0 a1) n0 (aB (eT a0 a1) n (v10,v11,v12,v13,v14,v15,v16,v17,v18,v19,v20,v21,v22))).1))] [])) cx [] (.l xT n::xU n0) (tZ a0 a1 (flat eZ v10) v10.length (flat cQ v11) v11.length v12 v13 v14 v15 v16 v17 v18 v19 v20 v21 v22):=by
 intro n
 induction n with
 | zero=>intro v10 v11 v12 v13 v14 v15 v16 v17 v18 v19 v20 v21 v22 hi hn;exact absurd hn (hO _)
 | succ n ih =>
   intro v10 v11 v12 v13 v14 v15 v16 v17 v18 v19 v20 v21 v22 hi hn
   refine aG ?_
   have hpl:=rP (a0.1,a0.2)
   cases h0:(decide ((v13:Int) < (((bF (a0.1,a0.2)).1.length:Nat):Int))) with
   | true =>
    have q0:=bZ h0
    let t1:List (St Tryz.prog):=[.d h0,.i v13 ((bF (a0.1,a0.2)).1.length),.L cW (bF (a0.1,a0.2)).1 v13 0 9,.c [] (C61 ((bF (a0.1,a0.2)).1.getD (toNat v13) default) ((v14,v15,v16),(v17,v18,v19),(v20,v21,v22)) a1)]
    cases h1:(((pQ ((bF (a0.1,a0.2)).1.getD (toNat v13) default) ((v14,v15,v16),(v17,v18,v19),(v20,v21,v22)) a1).2:Int) != 0) with
    | true =>
     have q1:=bne_iff_ne.1 h1
     have e:=Eq.refl (eT a0 a1 (v10,v11,v12,v13,v14,v15,v16,v17,v18,v19,v20,v21,v22));conv at e=>rhs;simp only [eT,h0,h1,aI]
     rw [aF,e]
     exact rt (t1++[.d h1]) [.slot 6 1] [8] hcx (by kernel_rfl)
    | false =>
     have q1:=bne_eq_false_iff_eq.1 h1
     have e:=Eq.refl (eT a0 a1 (v10,v11,v12,v13,v14,v15,v16,v17,v18,v19,v20,v21,v22));conv at e=>rhs;simp only [eT,h0,h1,aI]
     rw [aA e]
     refine ba (t1++[.d h1,.p (show((flat cQ v11).length=v11.length*2∧v11.length+1≤2 ^ 40∧(v11.length+1)*16≤2 ^ 47) from gH cA (by omega) (by omega))]) [] [1,2,8,10,12,13,26,27,28,32,33,34] [2,3,4,9] hcx (m:=n) xT (xU n0) (tZ a0 a1 (flat eZ v10) (v10.length) (flat cQ v11++(k2 (pQ ((bF (a0.1,a0.2)).1.getD (toNat v13) default) ((v14,v15,v16),(v17,v18,v19),(v20,v21,v22)) a1).1)) (v11.length+1) v12 (W (v13+1)) v14 v15 v16 v17 v18 v19 v20 v21 v22) (by kernel_rfl) ?_
     have z0:(W (v13+1))=(v13+1):=aE (by omega) (by omega)
     have z1:(flat cQ v11++(k2 (pQ ((bF (a0.1,a0.2)).1.getD (toNat v13) default) ((v14,v15,v16),(v17,v18,v19),(v20,v21,v22)) a1).1))=(flat cQ (v11++[(pQ ((bF (a0.1,a0.2)).1.getD (toNat v13) default) ((v14,v15,v16),(v17,v18,v19),(v20,v21,v22)) a1).1])):=(bO (c:=cQ) (l:=v11) (m:=[(pQ ((bF (a0.1,a0.2)).1.getD (toNat v13) default) ((v14,v15,v16),(v17,v18,v19),(v20,v21,v22)) a1).1])).symm
     have z2:(v11.length+1)=(v11++[(pQ ((bF (a0.1,a0.2)).1.getD (toNat v13) default) ((v14,v15,v16),(v17,v18,v19),(v20,v21,v22)) a1).1]).length:=eH v11 [(pQ ((bF (a0.1,a0.2)).1.getD (toNat v13) default) ((v14,v15,v16),(v17,v18,v19),(v20,v21,v22)) a1).1] rfl
     rw [z0,z1,z2]
     exact ih v10 (v11++[(pQ ((bF (a0.1,a0.2)).1.getD (toNat v13) default) ((v14,v15,v16),(v17,v18,v19),(v20,v21,v22)) a1).1]) v12 (v13+1) v14 v15 v16 v17 v18 v19 v20 v21 v22 (by refine⟨?_,?_,?_,?_,?_,?_,?_,?_,?_,?_,?_⟩<;>(try simp only [Ls])<;>first | omega | assumption | exact hi.2.1 | exact hi.2.2.1 | exact hi.2.2.2.1 | exact hi.2.2.2.2.1 | exact hi.2.2.2.2.2.1 | exact hi.2.2.2.2.2.2.1 | exact hi.2.2.2.2.2.2.2.1 | exact hi.2.2.2.2.2.2.2.2.1 | exact hi.2.2.2.2.2.2.2.2.2.1 | exact hi.2.2.2.2.2.2.2.2.2.2.1 | simp) (by(try simp only [Ls]);omega)
   | false =>
    have q0:=cI h0
    have e:=Eq.refl (eT a0 a1 (v10,v11,v12,v13,v14,v15,v16,v17,v18,v19,v20,v21,v22));conv at e=>rhs;simp only [eT,h0,aI]
    rw [aF,e]
    refine ba [.d h0,.p (show((flat cQ v11)).length=v11.length*2 from by simp [lH cA]),.p (show((flat eZ v10).length=v10.length*1∧v10.length+1≤2 ^ 40∧(v10.length+1)*24≤2 ^ 47) from gH vV (by omega) (by omega))] [] [1,2,8,10,26,27,28] [2,7] hcx (m:=n0) rT (rU) (oT a0 a1 (flat eZ v10++[(.d (flat cQ v11) v11.length 2)]) (v10.length+1) (W (v12+1))) (by kernel_rfl) ?_
    have z0:(W (v12+1))=(v12+1):=aE (by omega) (by omega)
    have z1:(flat eZ v10++[(.d (flat cQ v11) v11.length 2)])=(flat eZ (v10++[v11])):=(bO (c:=eZ) (l:=v10) (m:=[v11])).symm
    have z2:(v10.length+1)=(v10++[v11]).length:=eH v10 [v11] rfl
    rw [z0,z1,z2]
    exact g0 (v10++[v11]) (v12+1) (by refine⟨?_,?_,?_⟩<;>(try simp only [Ls])<;>first | omega | assumption | simp) (by(try simp only [Ls]);omega)
theorem aOo (a0:Zm)(a1:Int)(l0_1:a0.1.length≤9223372036854775807)(l0_2:a0.2.length≤9223372036854775807) {cx:Cx} (hcx:cx.base=2):∀(n:Nat)(v8:List (List (Int×Int)))(v9:Int),(0≤v9)∧(v8.length=toNat v9)∧(v9≤(bF (a0.1,a0.2)).1.length)→toNat ((((bF (a0.1,a0.2)).1.length:Nat):Int) - v9) < n→Aw.Good Tryz.prog none 9 (bodyPost Tryz.prog Tryz.f59 (RR cx (.t [(.s 2 0 (aB (dC a0 a1) n (v8,v9)).1.length 1),(iv (aB (dC a0 a1) n (v8,v9)).2)]) [(.live true true (flat eZ (aB (dC a0 a1) n (v8,v9)).1))] [])) cx [] (.l rT n::rU) (oT a0 a1 (flat eZ v8) v8.length v9):=by
 intro n
 induction n with
 | zero=>intro v8 v9 hi hn;exact absurd hn (hO _)
 | succ n ih =>
   intro v8 v9 hi hn
   refine aG ?_
   have hpl:=rP (a0.1,a0.2)
   cases h0:(decide ((v9:Int) < (((bF (a0.1,a0.2)).1.length:Nat):Int))) with
   | true =>
    have q0:=bZ h0
    have e:=Eq.refl (dC a0 a1 (v8,v9));conv at e=>rhs;simp only [dC,h0,aI]
    rw [aF,e]
    refine en [.d h0,.i v9 ((bF (a0.1,a0.2)).1.length),.L cW (bF (a0.1,a0.2)).1 v9 0 9] [.slot 13 2] [1,2,8,10,12,13,26,27,28,32,33,34] [2,3,4,5] hcx xT (xU n) (tZ a0 a1 (flat eZ v8) (v8.length) (flat cQ ([]:List (Int×Int))) 0 v9 0 (((bF (a0.1,a0.2)).1.getD (toNat v9) default).1.1) (((bF (a0.1,a0.2)).1.getD (toNat v9) default).1.2.1) (((bF (a0.1,a0.2)).1.getD (toNat v9) default).1.2.2) (((bF (a0.1,a0.2)).1.getD (toNat v9) default).2.1.1) (((bF (a0.1,a0.2)).1.getD (toNat v9) default).2.1.2.1) (((bF (a0.1,a0.2)).1.getD (toNat v9) default).2.1.2.2) (((bF (a0.1,a0.2)).1.getD (toNat v9) default).2.2.1) (((bF (a0.1,a0.2)).1.getD (toNat v9) default).2.2.2.1) (((bF (a0.1,a0.2)).1.getD (toNat v9) default).2.2.2.2)) (toNat ((((bF (a0.1,a0.2)).1.length:Nat):Int) - 0)+1) (by kernel_rfl) ?_
    exact aOn a0 a1 l0_1 l0_2 hcx n ih (toNat ((((bF (a0.1,a0.2)).1.length:Nat):Int) - 0)+1) v8 ([]:List (Int×Int)) v9 0 (((bF (a0.1,a0.2)).1.getD (toNat v9) default).1.1) (((bF (a0.1,a0.2)).1.getD (toNat v9) default).1.2.1) (((bF (a0.1,a0.2)).1.getD (toNat v9) default).1.2.2) (((bF (a0.1,a0.2)).1.getD (toNat v9) default).2.1.1) (((bF (a0.1,a0.2)).1.getD (toNat v9) default).2.1.2.1) (((bF (a0.1,a0.2)).1.getD (toNat v9) default).2.1.2.2) (((bF (a0.1,a0.2)).1.getD (toNat v9) default).2.2.1) (((bF (a0.1,a0.2)).1.getD (toNat v9) default).2.2.2.1) (((bF (a0.1,a0.2)).1.getD (toNat v9) default).2.2.2.2) (by refine⟨?_,?_,?_,?_,?_,?_,?_,?_,?_,?_,?_⟩<;>(try simp only [Ls])<;>first | omega | assumption | exact hi.2.1 | exact hi.2.2.1 | exact hi.2.2.2.1 | exact hi.2.2.2.2.1 | exact hi.2.2.2.2.2.1 | exact hi.2.2.2.2.2.2.1 | exact hi.2.2.2.2.2.2.2.1 | exact hi.2.2.2.2.2.2.2.2.1 | exact hi.2.2.2.2.2.2.2.2.2.1 | exact hi.2.2.2.2.2.2.2.2.2.2.1 | simp) (by(try simp only [Ls]);omega)
   | false =>
    have q0:=cI h0
    have e:=Eq.refl (dC a0 a1 (v8,v9));conv at e=>rhs;simp only [dC,h0,aI]
    rw [aF,e]
    exact rt [.d h0] [] [3] hcx (by kernel_rfl)
def cB (a0:Zm)(a1:Int):(List (List (Int×Int)))×Int :=
 (bif (((bF (a0.1,a0.2)).2:Int) != 0) then
  (([]:List (List (Int×Int))),(bF (a0.1,a0.2)).2)
 else
  (aB (dC a0 a1) (toNat ((((bF (a0.1,a0.2)).1.length:Nat):Int) - 0)+1) (([]:List (List (Int×Int))),0)))
theorem aU8 (a0:Zm)(a1:Int)(l0_1:a0.1.length≤9223372036854775807)(l0_2:a0.2.length≤9223372036854775807):Con Tryz.prog 59 [(.a [(.s 0 0 a0.1.length 3),(.s 1 0 a0.2.length 3)]),(iv a1),(.v (.func (.func 61) #[] #[]))] [(.live false true (flat dX a0.1)),(.live false true (flat fA a0.2))] (.t [(.s 2 0 (cB a0 a1).1.length 1),(iv (cB a0 a1).2)]) [(.live true true (flat eZ (cB a0 a1).1))]:=by
 refine aJ Tryz.func59 (by kernel_rfl) fun cx hcx=>?_
 have hpl:=rP (a0.1,a0.2)
 let t0:List (St Tryz.prog):=[.c [0,1] (C90 (a0.1,a0.2) (by(try simp only [Lt]);omega) (by(try simp only [Lt]);omega))]
 cases h0:(((bF (a0.1,a0.2)).2:Int) != 0) with
 | true =>
  have q0:=bne_iff_ne.1 h0
  have e:=Eq.refl (cB a0 a1);conv at e=>rhs;simp only [cB,h0,aI]
  rw [e]
  exact rt (t0++[.d h0]) [.slot 6 1] [4] hcx (by kernel_rfl)
 | false =>
  have q0:=bne_eq_false_iff_eq.1 h0
  have e:=Eq.refl (cB a0 a1);conv at e=>rhs;simp only [cB,h0,aI]
  rw [e]
  refine en (t0++[.d h0]) [.slot 10 1] [1,2,8,10,26,27,28] [3,4] hcx rT (rU) (oT a0 a1 (flat eZ ([]:List (List (Int×Int)))) 0 0) (toNat ((((bF (a0.1,a0.2)).1.length:Nat):Int) - 0)+1) (by kernel_rfl) ?_
  exact aOo a0 a1 l0_1 l0_2 hcx (toNat ((((bF (a0.1,a0.2)).1.length:Nat):Int) - 0)+1) ([]:List (List (Int×Int))) 0 (by refine⟨?_,?_,?_⟩<;>(try simp only [Ls])<;>first | omega | assumption | simp) (by(try simp only [Ls]);omega)
noncomputable def xV:Code:=(aD [1,1,0,1] [] (aH Tryz.f63) []).1
noncomputable def xW:List K:=(aD [1,1,0,1] [] (aH Tryz.f63) []).2
def uA (a0:List (List (Int×Int)))(a1:List (Int))(v2c:List SV)(v2n:Nat)(v3:Int):LS:=⟨iJ 32 [(1,(.s 1 0 a1.length 1)),(6,(.s 2 0 v2n 2)),(11,(.s 0 0 a0.length 1)),(12,(iv (a0.length:Int))),(13,(iv v3))],[(.live false true (flat eZ a0)),(.live false true (flat c3 a1)),(.live true true v2c)]⟩
def dR (a0:List (List (Int×Int)))(a1:List (Int)):(List (Int×Int))×Int→((List (Int×Int))×Int)⊕((List (Int×Int))×Int)
 | (v2,v3) =>
  (bif (decide ((v3:Int) < (a0.length:Int))) then
   (bif (((dD (a0.getD (toNat v3) default) a1).2:Int) != 0) then
    (.inr (([]:List (Int×Int)),(dD (a0.getD (toNat v3) default) a1).2))
   else
    (.inl ((v2++[(dD (a0.getD (toNat v3) default) a1).1]),(v3+1))))
  else
   (.inr (v2,0)))
theorem aOp (a0:List (List (Int×Int)))(a1:List (Int))(l0:a0.length≤9223372036854775807)(l1:a1.length≤9223372036854775807)(hr:∀r∈a0,r.length≤a1.length)(hn:a0.length≤96)(hm:a1.length≤96) {cx:Cx} (hcx:cx.base=2):∀(n:Nat)(v2:List (Int×Int))(v3:Int),(0≤v3)∧(v2.length=toNat v3)∧(v3≤a0.length)→toNat ((a0.length:Int) - v3) < n→Aw.Good Tryz.prog none 9 (bodyPost Tryz.prog Tryz.f63 (RR cx (.t [(.s 2 0 (aB (dR a0 a1) n (v2,v3)).1.length 2),(iv (aB (dR a0 a1) n (v2,v3)).2)]) [(.live true true (flat cQ (aB (dR a0 a1) n (v2,v3)).1))] [])) cx [] (.l xV n::xW) (uA a0 a1 (flat cQ v2) v2.length v3):=by
 intro n
 induction n with
 | zero=>intro v2 v3 hi hn;exact absurd hn (hO _)
 | succ n ih =>
   intro v2 v3 hi hn
   refine aG ?_
   have hrl:=aYy hr v3
   cases h0:(decide ((v3:Int) < (a0.length:Int))) with
   | true =>
    have q0:=bZ h0
    let t1:List (St Tryz.prog):=[.d h0,.i v3 (a0.length),.L vV a0 v3 0 1,.p (aFg (c:=cQ) (fun _=>rfl) (a0.getD (toNat v3) default)),.c [3,1] (aM9 (a0.getD (toNat v3) default) a1 (by(try simp only [Lt]);omega) (by omega) (by omega) (by omega))]
    cases h1:(((dD (a0.getD (toNat v3) default) a1).2:Int) != 0) with
    | true =>
     have q1:=bne_iff_ne.1 h1
     have e:=Eq.refl (dR a0 a1 (v2,v3));conv at e=>rhs;simp only [dR,h0,h1,aI]
     rw [aF,e]
     exact rt (t1++[.d h1]) [.slot 4 2] [5] hcx (by kernel_rfl)
    | false =>
     have q1:=bne_eq_false_iff_eq.1 h1
     have e:=Eq.refl (dR a0 a1 (v2,v3));conv at e=>rhs;simp only [dR,h0,h1,aI]
     rw [aA e]
     refine ba (t1++[.d h1,.p (show((flat cQ v2).length=v2.length*2∧v2.length+1≤2 ^ 40∧(v2.length+1)*16≤2 ^ 47) from gH cA (by omega) (by omega))]) [] [1,6,11,12,13] [6] hcx (m:=n) xV (xW) (uA a0 a1 (flat cQ v2++(k2 (dD (a0.getD (toNat v3) default) a1).1)) (v2.length+1) (W (v3+1))) (by kernel_rfl) ?_
     have z0:(W (v3+1))=(v3+1):=aE (by omega) (by omega)
     have z1:(flat cQ v2++(k2 (dD (a0.getD (toNat v3) default) a1).1))=(flat cQ (v2++[(dD (a0.getD (toNat v3) default) a1).1])):=(bO (c:=cQ) (l:=v2) (m:=[(dD (a0.getD (toNat v3) default) a1).1])).symm
     have z2:(v2.length+1)=(v2++[(dD (a0.getD (toNat v3) default) a1).1]).length:=eH v2 [(dD (a0.getD (toNat v3) default) a1).1] rfl
     rw [z0,z1,z2]
     exact ih (v2++[(dD (a0.getD (toNat v3) default) a1).1]) (v3+1) (by refine⟨?_,?_,?_⟩<;>(try simp only [Ls])<;>first | omega | assumption | simp) (by(try simp only [Ls]);omega)
   | false =>
    have q0:=cI h0
    have e:=Eq.refl (dR a0 a1 (v2,v3));conv at e=>rhs;simp only [dR,h0,aI]
    rw [aF,e]
    exact rt [.d h0] [] [2] hcx (by kernel_rfl)
def bC (a0:List (List (Int×Int)))(a1:List (Int)):(List (Int×Int))×Int :=
 (aB (dR a0 a1) (toNat ((a0.length:Int) - 0)+1) (([]:List (Int×Int)),0))
theorem aU9 (a0:List (List (Int×Int)))(a1:List (Int))(l0:a0.length≤9223372036854775807)(l1:a1.length≤9223372036854775807)(hr:∀r∈a0,r.length≤a1.length)(hn:a0.length≤96)(hm:a1.length≤96):Con Tryz.prog 63 [(.s 0 0 a0.length 1),(.s 1 0 a1.length 1)] [(.live false true (flat eZ a0)),(.live false true (flat c3 a1))] (.t [(.s 2 0 (bC a0 a1).1.length 2),(iv (bC a0 a1).2)]) [(.live true true (flat cQ (bC a0 a1).1))]:=by
 refine aJ Tryz.func63 (by kernel_rfl) fun cx hcx=>?_
 have e:=Eq.refl (bC a0 a1);conv at e=>rhs;simp only [bC]
 rw [e]
 refine en [] [.slot 6 2] [1,6,11,12,13] [2] hcx xV (xW) (uA a0 a1 (flat cQ ([]:List (Int×Int))) 0 0) (toNat ((a0.length:Int) - 0)+1) (by kernel_rfl) ?_
 exact aOp a0 a1 l0 l1 hr hn hm hcx (toNat ((a0.length:Int) - 0)+1) ([]:List (Int×Int)) 0 (by refine⟨?_,?_,?_⟩<;>(try simp only [Ls])<;>first | omega | assumption | simp) (by(try simp only [Ls]);omega)
noncomputable def xX:Code:=(aD [1,1,1,0,1,0,1,1,0,1,1] [0] (aH Tryz.f65) []).1
noncomputable def xY (m0:Nat):List K:=(aD [1,1,1,0,1,0,1,1,0,1,1] [m0] (aH Tryz.f65) []).2
def uB (a0:List (List (Int×Int)))(a1:List (Int))(v14c:List SV)(v14n:Nat)(v15c:List SV)(v15n:Nat)(v16 v17 v18 v19:Int):LS:=⟨iJ 49 [(0,(.s 0 0 a0.length 1)),(1,(.s 1 0 a1.length 1)),(4,(.p 2 0)),(6,(.s 3 0 v14n 2)),(7,(.s 4 0 v15n 1)),(8,(iv v16)),(9,(iv v17)),(12,(.s 1 0 a1.length 1)),(13,(iv (a1.length:Int))),(14,(iv v18)),(19,(.s 1 0 a1.length 1)),(20,(iv (a1.length:Int))),(21,(iv v19))],[(.live false true (flat eZ a0)),(.live false true (flat c3 a1)),(.live true false [(iv 0),(iv 0)]),(.live true true v14c),(.live true true v15c)]⟩
def eU (a0:List (List (Int×Int)))(a1:List (Int)):(List (Int×Int))×List (Int)×Int×Zt→((List (Int×Int))×List (Int)×Int×Zt)⊕(((List (Int×Int))×List (Int)×Int)⊕((Int×Int)×Int))
 | (v14,v15,v16,v17,v18,v19) =>
  (bif (decide ((v19:Int) < (a1.length:Int))) then
   (.inl ((v14++[((a0.getD (toNat v19) default).getD (toNat v16) default)]),(v15++[(W (v17*(a1.getD (toNat v19) default)))]),v16,v17,v18,(v19+1)))
  else
   (.inr (.inl (v14,v15,(v18+1)))))
noncomputable def rV:Code:=(aD [1,1,1,0,1] [] (aH Tryz.f65) []).1
noncomputable def rW:List K:=(aD [1,1,1,0,1] [] (aH Tryz.f65) []).2
def oU (a0:List (List (Int×Int)))(a1:List (Int))(v11c:List SV)(v11n:Nat)(v12c:List SV)(v12n:Nat)(v13:Int):LS:=⟨iJ 49 [(0,(.s 0 0 a0.length 1)),(1,(.s 1 0 a1.length 1)),(4,(.p 2 0)),(6,(.s 3 0 v11n 2)),(7,(.s 4 0 v12n 1)),(12,(.s 1 0 a1.length 1)),(13,(iv (a1.length:Int))),(14,(iv v13))],[(.live false true (flat eZ a0)),(.live false true (flat c3 a1)),(.live true false [(iv 0),(iv 0)]),(.live true true v11c),(.live true true v12c)]⟩
def dK (a0:List (List (Int×Int)))(a1:List (Int)):(List (Int×Int))×List (Int)×Int→((List (Int×Int))×List (Int)×Int)⊕((Int×Int)×Int)
 | (v11,v12,v13) =>
  (bif (decide ((v13:Int) < (a1.length:Int))) then
   (aB (eU a0 a1) (toNat ((a1.length:Int) - 0)+1) (v11,v12,v13,(a1.getD (toNat v13) default),v13,0))
  else
   (.inr ((dD v11 v12).1,(dD v11 v12).2)))
theorem aOq (a0:List (List (Int×Int)))(a1:List (Int))(l0:a0.length≤9223372036854775807)(l1:a1.length≤9223372036854775807)(hl:a0.length=a1.length)(hr:∀r∈a0,r.length=a1.length)(hm:a1.length≤96) {cx:Cx} (hcx:cx.base=2)
   (n0:Nat) (g0:∀(v11:List (Int×Int)) (v12:List (Int)) (v13:Int),(0≤v13)∧(v11.length≤96*toNat v13)∧(v12.length=v11.length)∧(v13≤a1.length)→toNat ((a1.length:Int) - v13) < n0→Aw.Good Tryz.prog none 9 (bodyPost Tryz.prog Tryz.f65 (RR cx (.t [(.a (k2 (aB (dK a0 a1) n0 (v11,v12,v13)).1)),(iv (aB (dK a0 a1) n0 (v11,v12,v13)).2)]) [] [])) cx [] (.l rV n0::rW) (oU a0 a1 (flat cQ v11) v11.length (flat c3 v12) v12.length v13)):∀(n:Nat) (v14:List (Int×Int)) (v15:List (Int)) (v16 v17 v18 v19:Int),(0≤v19)∧(v14.length≤96*toNat v18+toNat v19)∧(v15.length=v14.length)∧(0≤v16)∧(v16 < a1.length)∧(0≤v18)∧(v18 < a1.length)∧(v19≤a1.length)∧((0≤v18))∧((v15.length=v14.length))∧((v18≤a1.length))∧(v18 < (a1.length:Int))∧(toNat ((a1.length:Int) - v18) < n0+1)→toNat ((a1.length:Int) - v19) < n→Aw.Good Tryz.prog none 9 (bodyPost Tryz.prog Tryz.f65 (RR cx (.t [(.a (k2 (iZ (dK a0 a1) n0 (aB (eU a0 a1) n (v14,v15,v16,v17,v18,v19))).1)),(iv (iZ (dK a0 a1) n0 (aB (eU a0 a1) n (v14,v15,v16,v17,v18,v19))).2)]) [] [])) cx [] (.l xX n::xY n0) (uB a0 a1 (flat cQ v14) v14.length (flat c3 v15) v15.length v16 v17 v18 v19):=by
 intro n
 induction n with
 | zero=>intro v14 v15 v16 v17 v18 v19 hi hn;exact absurd hn (hO _)
 | succ n ih =>
   intro v14 v15 v16 v17 v18 v19 hi hn
   refine aG ?_
   have hrl:=aYx hr v19
   cases h0:(decide ((v19:Int) < (a1.length:Int))) with
   | true =>
    have q0:=bZ h0
    have e:=Eq.refl (eU a0 a1 (v14,v15,v16,v17,v18,v19));conv at e=>rhs;simp only [eU,h0,aI]
    rw [aA e]
    refine ba [.d h0,.i v19 (a1.length),.L dT a1 v19 0 1,.i v19 (a0.length),.L vV a0 v19 0 1,.p (aFg (c:=cQ) (fun _=>rfl) (a0.getD (toNat v19) default)),.i v16 ((a0.getD (toNat v19) default).length),.L cA (a0.getD (toNat v19) default) v16 0 2,.p (show((flat cQ v14).length=v14.length*2∧v14.length+1≤2 ^ 40∧(v14.length+1)*16≤2 ^ 47) from gH cA (by omega) (by omega)),.p (show((flat c3 v15).length=v15.length*1∧v15.length+1≤2 ^ 40∧(v15.length+1)*8≤2 ^ 47) from gH dT (by omega) (by omega))] [] [0,1,4,6,7,8,9,12,13,14,19,20,21] [2,7,9] hcx (m:=n) xX (xY n0) (uB a0 a1 (flat cQ v14++(k2 ((a0.getD (toNat v19) default).getD (toNat v16) default))) (v14.length+1) (flat c3 v15++[(iv (W (v17*(a1.getD (toNat v19) default))))]) (v15.length+1) v16 v17 v18 (W (v19+1))) (by kernel_rfl) ?_
    have z0:(W (v19+1))=(v19+1):=aE (by omega) (by omega)
    have z1:(flat cQ v14++(k2 ((a0.getD (toNat v19) default).getD (toNat v16) default)))=(flat cQ (v14++[((a0.getD (toNat v19) default).getD (toNat v16) default)])):=(bO (c:=cQ) (l:=v14) (m:=[((a0.getD (toNat v19) default).getD (toNat v16) default)])).symm
    have z2:(v14.length+1)=(v14++[((a0.getD (toNat v19) default).getD (toNat v16) default)]).length:=eH v14 [((a0.getD (toNat v19) default).getD (toNat v16) default)] rfl
    have z3:(flat c3 v15++[(iv (W (v17*(a1.getD (toNat v19) default))))])=(flat c3 (v15++[(W (v17*(a1.getD (toNat v19) default)))])):=(bO (c:=c3) (l:=v15) (m:=[(W (v17*(a1.getD (toNat v19) default)))])).symm
    have z4:(v15.length+1)=(v15++[(W (v17*(a1.getD (toNat v19) default)))]).length:=eH v15 [(W (v17*(a1.getD (toNat v19) default)))] rfl
    rw [z0,z1,z2,z3,z4]
    exact ih (v14++[((a0.getD (toNat v19) default).getD (toNat v16) default)]) (v15++[(W (v17*(a1.getD (toNat v19) default)))]) v16 v17 v18 (v19+1) (by refine⟨?_,?_,?_,?_,?_,?_,?_,?_,?_,?_,?_,?_,?_⟩<;>(try simp only [Ls])<;>first | omega | assumption | exact hi.2.1 | exact hi.2.2.1 | exact hi.2.2.2.1 | exact hi.2.2.2.2.1 | exact hi.2.2.2.2.2.1 | exact hi.2.2.2.2.2.2.1 | exact hi.2.2.2.2.2.2.2.1 | exact hi.2.2.2.2.2.2.2.2.1 | exact hi.2.2.2.2.2.2.2.2.2.1 | exact hi.2.2.2.2.2.2.2.2.2.2.1 | exact hi.2.2.2.2.2.2.2.2.2.2.2.1 | exact hi.2.2.2.2.2.2.2.2.2.2.2.2.1 | simp) (by(try simp only [Ls]);omega)
   | false =>
    have q0:=cI h0
    have e:=Eq.refl (eU a0 a1 (v14,v15,v16,v17,v18,v19));conv at e=>rhs;simp only [eU,h0,aI]
    rw [aF,e]
    refine ba [.d h0] [] [0,1,4,6,7,12,13,14] [2,3,4] hcx (m:=n0) rV (rW) (oU a0 a1 (flat cQ v14) (v14.length) (flat c3 v15) (v15.length) (W (v18+1))) (by kernel_rfl) ?_
    have z0:(W (v18+1))=(v18+1):=aE (by omega) (by omega)
    rw [z0]
    exact g0 v14 v15 (v18+1) (by refine⟨?_,?_,?_,?_⟩<;>(try simp only [Ls])<;>first | omega | assumption | simp) (by(try simp only [Ls]);omega)
theorem aOr (a0:List (List (Int×Int)))(a1:List (Int))(l0:a0.length≤9223372036854775807)(l1:a1.length≤9223372036854775807)(hl:a0.length=a1.length)(hr:∀r∈a0,r.length=a1.length)(hm:a1.length≤96) {cx:Cx} (hcx:cx.base=2):∀(n:Nat)(v11:List (Int×Int))(v12:List (Int))(v13:Int),(0≤v13)∧(v11.length≤96*toNat v13)∧(v12.length=v11.length)∧(v13≤a1.length)→toNat ((a1.length:Int) - v13) < n→Aw.Good Tryz.prog none 9 (bodyPost Tryz.prog Tryz.f65 (RR cx (.t [(.a (k2 (aB (dK a0 a1) n (v11,v12,v13)).1)),(iv (aB (dK a0 a1) n (v11,v12,v13)).2)]) [] [])) cx [] (.l rV n::rW) (oU a0 a1 (flat cQ v11) v11.length (flat c3 v12) v12.length v13):=by
 intro n
 induction n with
 | zero=>intro v11 v12 v13 hi hn;exact absurd hn (hO _)
 | succ n ih =>
   intro v11 v12 v13 hi hn
   refine aG ?_
   cases h0:(decide ((v13:Int) < (a1.length:Int))) with
   | true =>
    have q0:=bZ h0
    have e:=Eq.refl (dK a0 a1 (v11,v12,v13));conv at e=>rhs;simp only [dK,h0,aI]
    rw [aF,e]
    refine en [.d h0,.i v13 (a1.length),.L dT a1 v13 0 1] [] [0,1,4,6,7,8,9,12,13,14,19,20,21] [2,3,4] hcx xX (xY n) (uB a0 a1 (flat cQ v11) (v11.length) (flat c3 v12) (v12.length) v13 (a1.getD (toNat v13) default) v13 0) (toNat ((a1.length:Int) - 0)+1) (by kernel_rfl) ?_
    exact aOq a0 a1 l0 l1 hl hr hm hcx n ih (toNat ((a1.length:Int) - 0)+1) v11 v12 v13 (a1.getD (toNat v13) default) v13 0 (by refine⟨?_,?_,?_,?_,?_,?_,?_,?_,?_,?_,?_,?_,?_⟩<;>(try simp only [Ls])<;>first | omega | assumption | exact hi.2.1 | exact hi.2.2.1 | exact hi.2.2.2.1 | exact hi.2.2.2.2.1 | exact hi.2.2.2.2.2.1 | exact hi.2.2.2.2.2.2.1 | exact hi.2.2.2.2.2.2.2.1 | exact hi.2.2.2.2.2.2.2.2.1 | exact hi.2.2.2.2.2.2.2.2.2.1 | exact hi.2.2.2.2.2.2.2.2.2.2.1 | exact hi.2.2.2.2.2.2.2.2.2.2.2.1 | exact hi.2.2.2.2.2.2.2.2.2.2.2.2.1 | simp) (by(try simp only [Ls]);omega)
   | false =>
    have q0:=cI h0
    have e:=Eq.refl (dK a0 a1 (v11,v12,v13));conv at e=>rhs;simp only [dK,h0,aI]
    rw [aF,e]
    exact rt [.d h0,.c [3,4] (aM9 v11 v12 (by omega) (by omega) (by omega) (by omega))] [] [] hcx (by kernel_rfl)
def cU (a0:List (List (Int×Int)))(a1:List (Int)):(Int×Int)×Int :=
 (aB (dK a0 a1) (toNat ((a1.length:Int) - 0)+1) (([]:List (Int×Int)),([]:List (Int)),0))
theorem aVa (a0:List (List (Int×Int)))(a1:List (Int))(l0:a0.length≤9223372036854775807)(l1:a1.length≤9223372036854775807)(hl:a0.length=a1.length)(hr:∀r∈a0,r.length=a1.length)(hm:a1.length≤96):Con Tryz.prog 65 [(.s 0 0 a0.length 1),(.s 1 0 a1.length 1)] [(.live false true (flat eZ a0)),(.live false true (flat c3 a1))] (.t [(.a (k2 (cU a0 a1).1)),(iv (cU a0 a1).2)]) []:=by
 refine aJ Tryz.func65 (by kernel_rfl) fun cx hcx=>?_
 have e:=Eq.refl (cU a0 a1);conv at e=>rhs;simp only [cU]
 rw [e]
 refine en [] [.slot 6 2,.slot 7 1] [0,1,4,6,7,12,13,14] [2,3,4] hcx rV (rW) (oU a0 a1 (flat cQ ([]:List (Int×Int))) 0 (flat c3 ([]:List (Int))) 0 0) (toNat ((a1.length:Int) - 0)+1) (by kernel_rfl) ?_
 exact aOr a0 a1 l0 l1 hl hr hm hcx (toNat ((a1.length:Int) - 0)+1) ([]:List (Int×Int)) ([]:List (Int)) 0 (by refine⟨?_,?_,?_,?_⟩<;>(try simp only [Ls])<;>first | omega | assumption | simp) (by(try simp only [Ls]);omega)
abbrev TB:=List (List (Int×Int))
theorem aNa {S1:TB×List (Int×Int)×Int×Int×Int×Int×Int×Int×Int×Int×Zt→(TB×List (Int×Int)×Int×Int×Int×Int×Int×Int×Int×Int×Zt)⊕((TB×Int)⊕(TB×Int))} {S0:TB×Int→(TB×Int)⊕(TB×Int)}
   (L:List PN) (of:PN→PN→(Int×Int)×Int) (hof:∀p∈L,∀q∈L,(of p q).2=0)
   (hS1:∀(out:TB) (row:List (Int×Int)) (i j:Int) (q:PN),S1 (out,row,i,j,q.1.1,q.1.2.1,q.1.2.2,q.2.1.1,q.2.1.2.1,q.2.1.2.2,q.2.2.1,q.2.2.2.1,q.2.2.2.2) =
     bif decide (j < (L.length:Int)) then(bif ((of (L.getD (toNat j) default) q).2 != 0) then .inr (.inr ([],(of (L.getD (toNat j) default) q).2)) else .inl (out,row++[(of (L.getD (toNat j) default) q).1],i,j+1,q.1.1,q.1.2.1,q.1.2.2,q.2.1.1,q.2.1.2.1,q.2.1.2.2,q.2.2.1,q.2.2.2.1,q.2.2.2.2)) else .inr (.inl (out++[row],i+1)))
   (hS0:∀(out:TB) (i:Int),S0 (out,i)=bif decide (i < (L.length:Int)) then aB S1 (toNat ((L.length:Int) - 0)+1) (out,[],i,0,(L.getD (toNat i) default).1.1,(L.getD (toNat i) default).1.2.1,(L.getD (toNat i) default).1.2.2,(L.getD (toNat i) default).2.1.1,(L.getD (toNat i) default).2.1.2.1,(L.getD (toNat i) default).2.1.2.2,(L.getD (toNat i) default).2.2.1,(L.getD (toNat i) default).2.2.2.1,(L.getD (toNat i) default).2.2.2.2) else .inr (out,0)) :
   aB S0 (toNat ((L.length:Int) - 0)+1) ([],0)=(L.map fun q=>L.map fun p=>(of p q).1,0):=by
 have snoc:∀{α β:Type} (g:α→β) (l:List α) (v:List β),l.foldl (fun v c=>v++[g c]) v=v++l.map g:=by
   intro α β g l
   induction l with
   | nil=>intro v;simp
   | cons c l ih=>intro v;rw [List.foldl_cons,ih];simp
 have inner:∀(out:TB) (i:Int) (q:PN),q∈L→aB S1 (toNat ((L.length:Int) - 0)+1) (out,[],i,0,q.1.1,q.1.2.1,q.1.2.2,q.2.1.1,q.2.1.2.1,q.2.1.2.2,q.2.2.1,q.2.2.2.1,q.2.2.2.2)=.inl (out++[L.map fun p=>(of p q).1],i+1):=by
   intro out i q hq
   rw [aZ (fun row j=>(out,row,i,j,q.1.1,q.1.2.1,q.1.2.2,q.2.1.1,q.2.1.2.1,q.2.1.2.2,q.2.2.1,q.2.2.2.1,q.2.2.2.2)) (fun row p=>.inl (row++[(of p q).1])) (fun row=>.inl (out++[row],i+1)) (L:=L) (fun _ _=>True) ?_ (fun _ _ _ _ _ _ _=>trivial) ?_ (by omega) trivial]
   · rw [bK,snoc];rfl
   · intro j c hc row _
     obtain⟨hlt,hce⟩:=List.getElem?_eq_some_iff.1 hc
     rw [hS1,bY (by omega),cond_true,bB hc,hof c (List.mem_of_getElem? hc) q hq]
     rfl
   · intro row _
     rw [hS1,cR (by omega),cond_false]
 rw [aZ (fun out i=>(out,i)) (fun out q=>.inl (out++[L.map fun p=>(of p q).1])) (fun out=>(out,0)) (L:=L) (fun _ _=>True) ?_ (fun _ _ _ _ _ _ _=>trivial) ?_ (by omega) trivial]
 · rw [bK,snoc];rfl
 · intro i c hc out _
   obtain⟨hlt,hce⟩:=List.getElem?_eq_some_iff.1 hc
   rw [hS0,bY (by omega),cond_true,bB hc,inner out i c (List.mem_of_getElem? hc)]
   rfl
 · intro out _
   rw [hS0,cR (by omega),cond_false]
abbrev aU (m:ME):List PN:=m.2.map (eO m)
theorem aWm {m:ME} (h:fR m=0):bF m=(aU m,0):=by
 rw [aWl,h];rfl
theorem aIx {m:ME} {d:Int} (h:fR m=0)(hd:0≤d∧d≤2):bT m d=((aU m).map fun q=>(aU m).map fun p=>(uJ p q d).1,0):=by
 have hP:=aWm h
 have g:=aNa (S1:=eS m d) (S0:=dB m d) (bF m).1 (fun p q=>uJ p q d) (by
   rw [hP];exact fun p hp q hq=>(kI (mA h hd hp hq)).1) (fun out row i j q=>rfl) (fun out i=>rfl)
 unfold bT
 show(bif ((bF m).2 != 0) then _ else _)=_
 rw [show((bF m).2 != 0)=false from by rw [hP];rfl,cond_false]
 refine Eq.trans g ?_
 rw [hP]
theorem aIy {m:ME} {d:Int} (h:fR m=0)(hd:0≤d∧d≤2):cB m d=((aU m).map fun q=>(aU m).map fun p=>(pQ p q d).1,0):=by
 have hP:=aWm h
 have g:=aNa (S1:=eT m d) (S0:=dC m d) (bF m).1 (fun p q=>pQ p q d) (by
   rw [hP];exact fun p hp q hq=>(oR (mA h hd hp hq)).1) (fun out row i j q=>rfl) (fun out i=>rfl)
 unfold cB
 show(bif ((bF m).2 != 0) then _ else _)=_
 rw [show((bF m).2 != 0)=false from by rw [hP];rfl,cond_false]
 refine Eq.trans g ?_
 rw [hP]
def okC (q:List Int):Prop:=∀c∈q,0≤c∧c≤100
def aDw (q:List Int)(v:Int):Int:=q.foldl (fun v c=>W (v+c)) v
theorem aAn:∀(q:List Int)(v:Int),okC q→0≤v→v+100*(q.length:Int)≤1000000→aDw q v=v+q.sum∧v≤v+q.sum∧v+q.sum≤v+100*(q.length:Int)
 | [],v,_,_,_=>by simp [aDw]
 | c::q,v,h,h0,h1=>by
   have hc:=h c List.mem_cons_self
   simp only [List.length_cons] at h1
   have ih:=aAn q (v+c) (fun x hx=>h x (List.mem_cons_of_mem _ hx)) (by omega) (by omega)
   have e:aDw (c::q) v=aDw q (v+c):=by
     show aDw q (W (v+c))=_
     rw [aE (by omega) (by omega)]
   rw [e]
   simp only [List.sum_cons,List.length_cons]
   omega
theorem xZ:∀(q:List Int)(v:Int),(iU (R:=Int) (fun v c=>bif (!pD c 0 100) then .inr 1 else .inl (W (v+c))) q v=.inr 1∧iU (σ:=Unit) (R:=Int) (fun _ c=>bif (!pD c 0 100) then .inr 1 else .inl ()) q ()=.inr 1) ∨
   (iU (R:=Int) (fun v c=>bif (!pD c 0 100) then .inr 1 else .inl (W (v+c))) q v=.inl (aDw q v)∧iU (σ:=Unit) (R:=Int) (fun _ c=>bif (!pD c 0 100) then .inr 1 else .inl ()) q ()=.inl ()∧okC q)
 | [],v=>.inr ⟨rfl,rfl,fun c hc=>by simp at hc⟩
 | c::q,v=>by
   simp only [iU]
   cases hc:(!pD c 0 100) with
   | true=>exact .inl ⟨rfl,rfl⟩
   | false =>
     simp only [cond_false]
     rcases xZ q (W (v+c)) with h | ⟨h1,h2,h3⟩
     · exact .inl h
     · refine .inr ⟨h1,h2,fun x hx=>?_⟩
       rcases List.mem_cons.1 hx with rfl | hx
       · exact qO hc
       · exact h3 x hx
theorem aSa (q:List Int):cE q=aDw q 0:=by
 unfold cE
 rw [aZ (fun v i=>(v,i)) (fun v c=>.inl (W (v+c))) (fun v=>v) (L:=q) (fun _ _=>True) ?_ (fun _ _ _ _ _ _ _=>trivial) ?_ (by omega) trivial]
 · rw [bK];rfl
 · intro i c hc v _
   obtain⟨hlt,hce⟩:=List.getElem?_eq_some_iff.1 hc
   simp only [kH]
   rw [bY (by omega),cond_true,bB hc];rfl
 · intro v _
   simp only [kH]
   rw [cR (by omega),cond_false]
theorem aWn (q:List Int):cO q=W ((W (aDw q 0*1048576))*1048576):=by
 unfold cO
 rw [aZ (fun v i=>(v,i)) (fun v c=>.inl (W (v+c))) (fun v=>W ((W (v*1048576))*1048576)) (L:=q) (fun _ _=>True) ?_ (fun _ _ _ _ _ _ _=>trivial) ?_ (by omega) trivial]
 · rw [bK];rfl
 · intro i c hc v _
   obtain⟨hlt,hce⟩:=List.getElem?_eq_some_iff.1 hc
   simp only [mT]
   rw [bY (by omega),cond_true,bB hc];rfl
 · intro v _
   simp only [mT]
   rw [cR (by omega),cond_false]
noncomputable def chV (m:ME)(q:List Int):Int:=bif ((fR m:Int) != 0) then fR m else bif (((q.length:Int):Int) != (m.2.length:Int)) then 1 else
 aCf (fun v=>bif (v == 0) then 11 else 0) (iU (R:=Int) (fun v c=>bif (!pD c 0 100) then .inr 1 else .inl (W (v+c))) q 0)
theorem bCu (m:ME)(q:List Int):nV m q=chV m q:=by
 unfold nV chV
 show(bif ((fR m:Int) != 0) then fR m else _)=_
 congr 1
 congr 1
 refine aZ (fun v i=>(v,i)) _ (fun v=>bif (v == 0) then 11 else 0) (L:=q) (fun _ _=>True) ?_ (fun _ _ _ _ _ _ _=>trivial) ?_ (by omega) trivial
 · intro i c hc v _
   obtain⟨hlt,hce⟩:=List.getElem?_eq_some_iff.1 hc
   simp only [gV]
   rw [bY (by omega),cond_true,bB hc]
   cases (!pD c 0 100)<;>rfl
 · intro v _
   simp only [gV]
   rw [cR (by omega),cond_false]
   cases (v == 0)<;>rfl
theorem bCv (m:ME)(q:List Int):jR m q=chV m q:=by
 unfold jR chV
 show(bif ((F50 m:Int) != 0) then F50 m else _)=_
 rw [←aRs]
 congr 1
 congr 1
 refine Eq.trans (aZ (σ:=Unit) (fun _ i=>i) (fun _ c=>bif (!pD c 0 100) then .inr 1 else .inl ()) (fun _=>bif (cE q == 0) then 11 else 0) (L:=q) (v:=()) (fun _ _=>True) ?_ (fun _ _ _ _ _ _ _=>trivial) ?_ (by omega) trivial) ?_
 · intro i c hc v _
   obtain⟨hlt,hce⟩:=List.getElem?_eq_some_iff.1 hc
   simp only [fJ]
   rw [bY (by omega),cond_true,bB hc,show F52 c 0 100=pD c 0 100 from rfl]
   cases (!pD c 0 100)<;>rfl
 · intro v _
   simp only [fJ]
   rw [cR (by omega),cond_false]
   cases (cE q == 0)<;>rfl
 · rcases xZ q 0 with⟨h1,h2⟩ | ⟨h1,h2,_⟩
   · rw [h1,h2];rfl
   · rw [h1,h2,aSa];rfl
structure ChOK (m:ME) (q:List Int):Prop where
 v:fR m=0
 len:q.length=m.2.length
 ok:okC q
 pos:1≤q.sum
 le:q.sum≤9600
 n:1≤m.2.length∧m.2.length≤96
 tot:aDw q 0=q.sum
theorem bCw {m:ME} {q:List Int} (h:chV m q=0):ChOK m q:=by
 unfold chV at h
 cases h1:((fR m:Int) != 0) with
 | true=>rw [h1,cond_true] at h;exact absurd h (bne_iff_ne.1 h1)
 | false =>
 rw [h1,cond_false] at h
 have hv:=bne_eq_false_iff_eq.1 h1
 obtain⟨_,n1,n2,_,_⟩:=iG hv
 cases h2:(((q.length:Int):Int) != (m.2.length:Int)) with
 | true=>rw [h2,cond_true] at h;exact absurd h (by decide)
 | false =>
 rw [h2,cond_false] at h
 have hl:=bne_eq_false_iff_eq.1 h2
 rcases xZ q 0 with⟨g1,_⟩ | ⟨g1,_,g3⟩
 · rw [g1] at h;exact absurd h (by decide)
 · rw [g1] at h
   have ht:=aAn q 0 g3 (Int.le_refl 0) (by omega)
   simp only [aCf] at h
   have hne:aDw q 0≠0:=by
     intro e
     rw [e] at h;exact absurd h (by decide)
   exact⟨hv,by omega,g3,by omega,by omega,⟨n1,n2⟩,by omega⟩
noncomputable def chD (m:ME)(q:List Int)(d:Int):Int:=bif (chV m q != 0) then chV m q else bif (!pD d 0 2) then 1 else 0
theorem zD (m:ME)(q:List Int)(d:Int):gG m q d=chD m q d:=by
 unfold gG chD
 rw [show nV (m.1,m.2) q=chV m q from bCu m q]
theorem aSb (m:ME)(q:List Int)(d:Int):fN m q d=chD m q d:=by
 unfold fN chD
 rw [show jR (m.1,m.2) q=chV m q from bCv m q]
 rfl
theorem gK {m:ME} {q:List Int} {d:Int} (h:chD m q d=0):ChOK m q∧0≤d∧d≤2:=by
 unfold chD at h
 cases h1:(chV m q != 0) with
 | true=>rw [h1,cond_true] at h;exact absurd h (bne_iff_ne.1 h1)
 | false =>
 rw [h1,cond_false] at h
 cases h2:(!pD d 0 2) with
 | true=>rw [h2,cond_true] at h;exact absurd h (by decide)
 | false=>exact⟨bCw (bne_eq_false_iff_eq.1 h1),qO h2⟩
theorem aNb {m:ME} {d:Int} {f:PN→PN→Int×Int} {T:TB} {n:Nat} (e:T=(aU m).map fun q=>(aU m).map fun p=>f p q)(hn:n=m.2.length):T.length=n∧∀r∈T,r.length=n:=by
 subst e hn
 refine⟨by simp,fun r hr=>?_⟩
 obtain⟨q,_,rfl⟩:=List.mem_map.1 hr
 simp
noncomputable def sJ (c:(Int×Int)×Int):(Int×Int)×Int:=nT c.1 c.2
noncomputable def eD (l:List ((Int×Int)×Int)):(Int×Int)×Int:=pO aKr (fun e=>((0,0),e)) (nG sJ l [])
theorem aGr {a:Int×Int} (h:okP a):vs a:=by unfold okP at h;unfold vs;omega
theorem aVb {a:Int×Int} {n:Int} (ha:okP a)(hn:0≤n∧n≤10000)(h:(nT a n).2=0):n≤(nT a n).1.1∧(nT a n).1.1≤(nT a n).1.2:=by
 rw [aGb (aGr ha) (by omega)] at h ⊢
 unfold okP at ha
 have h1:=aB9 ha.1 hn.1
 have h2:=aB9 ha.2.1 hn.1
 have h3:mB 1 n=n:=by unfold mB;rw [Int.one_mul,if_neg (by omega),if_neg (by omega)]
 have e:scl a n=(mB a.1 n,mB a.2 n):=by unfold scl;rw [if_neg (by omega)]
 rw [e] at h ⊢
 rcases rL (mB a.1 n) (mB a.2 n) with⟨g,_⟩ | g
 · rw [g];simp only;omega
 · rw [g] at h;exact absurd h (by decide)
theorem aYz {c:(Int×Int)×Int} (h:(sJ c).2=0):vs (sJ c).1:=aIu h
theorem aNc {l:List ((Int×Int)×Int)} {m:List (Int×Int)} (h:nG sJ l []=.inl m)(hn:l.length≤9216):(∀a∈m,vs a)∧m.length≤10000:=by
 obtain⟨e,h0⟩:=kW h
 rw [List.nil_append] at e
 subst e
 exact⟨fun a ha=>by obtain⟨c,hc,rfl⟩:=List.mem_map.1 ha;exact aYz (h0 c hc),by rw [List.length_map];omega⟩
theorem aWo {xs:List (Int×Int)} {q:List Int} (hl:xs.length≤q.length)(hn:xs.length≤9216):dD xs q=eD (xs.zip q):=by
 have hz:(xs.zip q).length=xs.length:=by rw [List.length_zip];omega
 unfold dD eD
 have key:=xF (g:=sJ) (S:=dY xs q) (E:=fun e=>(((0,0):Int×Int),e)) (L:=xs.zip q) (G:=fun l=>((kK l).1,(kK l).2))
   (fun i c hi l=>?_) (fun l=>?_) (xs.zip q) 0 (toNat ((xs.length:Int) - 0)+1) [] rfl (Nat.zero_le _) (by omega)
 · refine Eq.trans key ?_
   cases hs:nG sJ (xs.zip q) [] with
   | inr r=>rfl
   | inl m =>
     obtain⟨hv,hm⟩:=aNc hs (by omega)
     simp only [pO]
     rw [bBt hv hm]
 · obtain⟨h1,h2⟩:=List.getElem?_zip_eq_some.1 hi
   have hlt:=(List.getElem?_eq_some_iff.1 h1).1
   simp only [dY]
   rw [bY (by omega),cond_true,bB h1,bB h2]
   show _=bif ((nT c.1 c.2).2 != 0) then _ else _
   cases ((nT c.1 c.2).2 != 0)<;>rfl
 · simp only [dY]
   rw [cR (by rw [hz];omega),cond_false]
theorem aNd {l:List ((Int×Int)×Int)} (hl:∀c∈l,okP c.1∧0≤c.2∧c.2≤10000)(h:(eD l).2=0):(l.map (·.2)).sum≤(eD l).1.1∧(eD l).1.1≤(eD l).1.2∧vs (eD l).1:=by
 unfold eD at h ⊢
 cases hs:nG sJ l [] with
 | inr r=>rw [hs] at h;exact absurd h (rO hs)
 | inl m =>
   rw [hs] at h
   simp only [pO] at h ⊢
   obtain⟨e,hv⟩:=aQ0 h
   rw [e]
   obtain⟨e2,h0⟩:=kW hs
   rw [List.nil_append] at e2
   refine⟨?_,hv.2.1,hv⟩
   rw [rM,e2]
   simp only [Int.zero_add,List.map_map]
   clear hs h e hv e2
   induction l with
   | nil=>simp
   | cons c l ih =>
     have hc:=hl c List.mem_cons_self
     have:=aVb hc.1 hc.2 (h0 c List.mem_cons_self)
     have ih:=ih (fun x hx=>hl x (List.mem_cons_of_mem _ hx)) (fun x hx=>h0 x (List.mem_cons_of_mem _ hx))
     simp only [List.map_cons,List.sum_cons,Function.comp] at ih ⊢
     have e:(sJ c).1.1=(nT c.1 c.2).1.1:=rfl
     omega
noncomputable def pP (T:TB)(q:List Int):List (Int×Int)×Int:=pO (fun l=>(l,0)) (fun e=>([],e)) (nG (fun r:List (Int×Int)=>eD (r.zip q)) T [])
theorem aNe {T:TB} {q:List Int} (hr:∀r∈T,r.length≤q.length)(hm:q.length≤96):bC T q=pP T q:=by
 unfold bC pP
 refine xF (g:=fun r:List (Int×Int)=>eD (r.zip q)) (S:=dR T q) (E:=fun e=>(([]:List (Int×Int)),e)) (L:=T) (G:=fun l=>(l,0))
   (fun i c hi l=>?_) (fun l=>?_) T 0 (toNat ((T.length:Int) - 0)+1) [] rfl (Nat.zero_le _) (by omega)
 · obtain⟨hlt,hce⟩:=List.getElem?_eq_some_iff.1 hi
   have hc:=hr c (List.mem_of_getElem? hi)
   simp only [dR]
   rw [bY (by omega),cond_true,bB hi,aWo hc (by omega)]
   cases ((eD (c.zip q)).2 != 0)<;>rfl
 · simp only [dR]
   rw [cR (by omega),cond_false]
theorem aGs {T:TB} {q:List Int} (hT:∀r∈T,r.length=q.length∧∀s∈r,okP s)(hq:okC q)(h:(pP T q).2=0) :
   (pP T q).1.length=T.length∧∀s∈(pP T q).1,q.sum≤s.1∧s.1≤s.2∧vs s:=by
 unfold pP at h ⊢
 cases hs:nG (fun r:List (Int×Int)=>eD (r.zip q)) T [] with
 | inr r=>rw [hs] at h;exact absurd h (rO hs)
 | inl m =>
   simp only [pO]
   obtain⟨e,h0⟩:=kW hs
   rw [List.nil_append] at e
   subst e
   refine⟨by rw [List.length_map],fun s hsm=>?_⟩
   obtain⟨r,hr,rfl⟩:=List.mem_map.1 hsm
   obtain⟨hl,hP⟩:=hT r hr
   have hp:=aNd (l:=r.zip q) (fun c hc=>⟨hP _ (List.of_mem_zip hc).1,by have:=hq _ (List.of_mem_zip hc).2;omega⟩) (h0 r hr)
   have:(r.zip q).map (·.2)=q:=List.map_snd_zip (by omega)
   rw [this] at hp
   exact hp
theorem aVc {m:ME} {q:List Int} {d:Int} (h:((gG m q d:Int) != 0)=false):(∀r∈(bT m d).1,r.length≤q.length)∧(bT m d).1.length≤96∧q.length≤96:=by
 rw [zD] at h
 obtain⟨hc,hd⟩:=gK (bne_eq_false_iff_eq.1 h)
 obtain⟨h1,h2⟩:=aNb (d:=d) (T:=(bT m d).1) (by rw [aIx hc.v hd]) hc.len.symm.symm
 have:=hc.n;have:=hc.len
 exact⟨fun r hr=>by rw [h2 r hr];omega,by omega,by omega⟩
theorem aY0 {m:ME} {q:List Int} {d:Int} (h:((gG m q d:Int) != 0)=false):(cB m d).1.length=q.length∧(∀r∈(cB m d).1,r.length=q.length)∧q.length≤96:=by
 rw [zD] at h
 obtain⟨hc,hd⟩:=gK (bne_eq_false_iff_eq.1 h)
 obtain⟨h1,h2⟩:=aNb (d:=d) (T:=(cB m d).1) (by rw [aIy hc.v hd]) hc.len
 have:=hc.n;have:=hc.len
 exact⟨h1,h2,by omega⟩
theorem eK {m:ME} {q:List Int} {d:Int} (h:((fN m q d:Int) != 0)=false):lZ m m.2.length∧m.2.length≤96∧q.length=m.2.length:=by
 rw [aSb] at h
 obtain⟨hc,hd⟩:=gK (bne_eq_false_iff_eq.1 h)
 exact⟨(qN (by rw [hc.v];rfl)).1,hc.n.2,hc.len⟩
theorem aCs (m:ME):aN m=aU m:=by
 unfold aN
 rw [aZ (fun v i=>(v,i)) (fun v c=>.inl (v++[eO m c])) (fun v=>v) (L:=m.2) (fun _ _=>True) ?_ (fun _ _ _ _ _ _ _=>trivial) ?_ (by omega) trivial]
 · have snoc:∀(l:List P3) (v:List PN),l.foldl (fun v c=>v++[eO m c]) v=v++l.map (eO m):=by
     intro l
     induction l with
     | nil=>intro v;simp
     | cons c l ih=>intro v;rw [List.foldl_cons,ih];simp
   rw [bK,snoc];rfl
 · intro i c hc v _
   obtain⟨hlt,hce⟩:=List.getElem?_eq_some_iff.1 hc
   simp only [oQ]
   rw [bY (by omega),cond_true,bB hc]
   rfl
 · intro v _
   simp only [oQ]
   rw [cR (by omega),cond_false]
theorem aSc (m:ME):(aN m).length=m.2.length:=by rw [aCs,List.length_map]
noncomputable def aCt:Code:=(aD [1,1,1,1,1,0,1,0,1,0,1,0,1] [0] (aH Tryz.f107) []).1
noncomputable def aCu (m0:Nat):List K:=(aD [1,1,1,1,1,0,1,0,1,0,1,0,1] [m0] (aH Tryz.f107) []).2
def yA (a0:Zm)(a1:List (Int))(a2:Int)(v10c:List SV)(v10n:Nat)(v11c:List SV)(v11n:Nat)(v12 v13:Int):LS:=⟨iJ 84 [(1,(.s 2 0 a1.length 1)),(2,(iv a2)),(9,(.s 3 0 (aN (a0.1,a0.2)).length 9)),(10,(.s 4 0 v10n 2)),(11,(iv v12)),(12,(.s 5 0 v11n 2)),(13,(iv v13))],[(.live false true (flat dX a0.1)),(.live false true (flat fA a0.2)),(.live false true (flat c3 a1)),(.live true true (flat dL (aN (a0.1,a0.2)))),(.live true true v10c),(.live true true v11c)]⟩
def cX (a0:Zm)(a1:List (Int))(a2:Int):(List (Int×Int))×(List (Int×Int))×Int×Int→((List (Int×Int))×(List (Int×Int))×Int×Int)⊕(((List (Int×Int))×Int)⊕((List (Int×Int))×Int))
 | (v10,v11,v12,v13) =>
  (bif (decide ((v13:Int) < (((aN (a0.1,a0.2)).length:Nat):Int))) then
   (bif (((lY ((aN (a0.1,a0.2)).getD (toNat v13) default) ((aN (a0.1,a0.2)).getD (toNat v12) default) a2).2:Int) != 0) then
    (.inr (.inr (([]:List (Int×Int)),(lY ((aN (a0.1,a0.2)).getD (toNat v13) default) ((aN (a0.1,a0.2)).getD (toNat v12) default) a2).2)))
   else
    (bif (((fW (lY ((aN (a0.1,a0.2)).getD (toNat v13) default) ((aN (a0.1,a0.2)).getD (toNat v12) default) a2).1 (a1.getD (toNat v13) default)).2:Int) != 0) then
     (.inr (.inr (([]:List (Int×Int)),(fW (lY ((aN (a0.1,a0.2)).getD (toNat v13) default) ((aN (a0.1,a0.2)).getD (toNat v12) default) a2).1 (a1.getD (toNat v13) default)).2)))
    else
     (.inl (v10,(v11++[(fW (lY ((aN (a0.1,a0.2)).getD (toNat v13) default) ((aN (a0.1,a0.2)).getD (toNat v12) default) a2).1 (a1.getD (toNat v13) default)).1]),v12,(v13+1)))))
  else
   (bif (((dA v11).2:Int) != 0) then
    (.inr (.inr (([]:List (Int×Int)),(dA v11).2)))
   else
    (.inr (.inl ((v10++[(dA v11).1]),(v12+1))))))
noncomputable def vW:Code:=(aD [1,1,1,1,1,0,1] [] (aH Tryz.f107) []).1
noncomputable def vX:List K:=(aD [1,1,1,1,1,0,1] [] (aH Tryz.f107) []).2
def rX (a0:Zm)(a1:List (Int))(a2:Int)(v8c:List SV)(v8n:Nat)(v9:Int):LS:=⟨iJ 84 [(1,(.s 2 0 a1.length 1)),(2,(iv a2)),(9,(.s 3 0 (aN (a0.1,a0.2)).length 9)),(10,(.s 4 0 v8n 2)),(11,(iv v9))],[(.live false true (flat dX a0.1)),(.live false true (flat fA a0.2)),(.live false true (flat c3 a1)),(.live true true (flat dL (aN (a0.1,a0.2)))),(.live true true v8c)]⟩
def dI (a0:Zm)(a1:List (Int))(a2:Int):(List (Int×Int))×Int→((List (Int×Int))×Int)⊕((List (Int×Int))×Int)
 | (v8,v9) =>
  (bif (decide ((v9:Int) < (((aN (a0.1,a0.2)).length:Nat):Int))) then
   (aB (cX a0 a1 a2) (toNat ((((aN (a0.1,a0.2)).length:Nat):Int) - 0)+1) (v8,([]:List (Int×Int)),v9,0))
  else
   (.inr (v8,0)))
theorem aSd (a0:Zm)(a1:List (Int))(a2:Int)(l0_1:a0.1.length≤9223372036854775807)(l0_2:a0.2.length≤9223372036854775807)(l1:a1.length≤9223372036854775807) {cx:Cx} (hcx:cx.base=3)
   (n0:Nat) (g0:∀(v8:List (Int×Int)) (v9:Int),(0≤v9)∧(v8.length=toNat v9)∧(v9≤(aN (a0.1,a0.2)).length)∧((aN (a0.1,a0.2)).length=a1.length)∧(a1.length≤96)→toNat ((((aN (a0.1,a0.2)).length:Nat):Int) - v9) < n0→Aw.Good Tryz.prog none 9 (bodyPost Tryz.prog Tryz.f107 (RR cx (.t [(.s 3 0 (aB (dI a0 a1 a2) n0 (v8,v9)).1.length 2),(iv (aB (dI a0 a1 a2) n0 (v8,v9)).2)]) [(.live true true (flat cQ (aB (dI a0 a1 a2) n0 (v8,v9)).1))] [])) cx [] (.l vW n0::vX) (rX a0 a1 a2 (flat cQ v8) v8.length v9)):∀(n:Nat) (v10:List (Int×Int)) (v11:List (Int×Int)) (v12 v13:Int),(0≤v13)∧(v11.length=toNat v13)∧(v13≤(aN (a0.1,a0.2)).length)∧(v10.length=toNat v12)∧(0≤v12)∧(v12 < (aN (a0.1,a0.2)).length)∧((aN (a0.1,a0.2)).length=a1.length)∧(a1.length≤96)∧((0≤v12))∧((v10.length=toNat v12))∧((v12≤(aN (a0.1,a0.2)).length))∧(((aN (a0.1,a0.2)).length=a1.length))∧((a1.length≤96))∧(v12 < (((aN (a0.1,a0.2)).length:Nat):Int))∧(toNat ((((aN (a0.1,a0.2)).length:Nat):Int) - v12) < n0+1)→toNat ((((aN (a0.1,a0.2)).length:Nat):Int) - v13) < n→Aw.Good Tryz.prog none 9 (bodyPost Tryz.prog Tryz.f107 (RR cx (.t [(.s 3 0 (iZ (dI a0 a1 a2) n0 (aB (cX a0 a1 a2) n (v10,v11,v12,v13))).1.length 2),(iv (iZ (dI a0 a1 a2) n0 (aB (cX a0 a1 a2) n (v10,v11,v12,v13))).2)]) [(.live true true (flat cQ (iZ (dI a0 a1 a2) n0 (aB (cX a0 a1 a2) n (v10,v11,v12,v13))).1))] [])) cx [] (.l aCt n::aCu n0) (yA a0 a1 a2 (flat cQ v10) v10.length (flat cQ v11) v11.length v12 v13):=by
 intro n
 induction n with
 | zero=>intro v10 v11 v12 v13 hi hn;exact absurd hn (hO _)
 | succ n ih =>
   intro v10 v11 v12 v13 hi hn
   refine aG ?_
   cases h0:(decide ((v13:Int) < (((aN (a0.1,a0.2)).length:Nat):Int))) with
   | true =>
    have q0:=bZ h0
    let t1:List (St Tryz.prog):=[.d h0,.i v13 ((aN (a0.1,a0.2)).length),.L cW (aN (a0.1,a0.2)) v13 0 9,.i v12 ((aN (a0.1,a0.2)).length),.L cW (aN (a0.1,a0.2)) v12 0 9,.c [] (bEx ((aN (a0.1,a0.2)).getD (toNat v13) default) ((aN (a0.1,a0.2)).getD (toNat v12) default) a2)]
    cases h1:(((lY ((aN (a0.1,a0.2)).getD (toNat v13) default) ((aN (a0.1,a0.2)).getD (toNat v12) default) a2).2:Int) != 0) with
    | true =>
     have q1:=bne_iff_ne.1 h1
     have e:=Eq.refl (cX a0 a1 a2 (v10,v11,v12,v13));conv at e=>rhs;simp only [cX,h0,h1,aI]
     rw [aF,e]
     exact rt (t1++[.d h1]) [.slot 6 2] [7] hcx (by kernel_rfl)
    | false =>
     have q1:=bne_eq_false_iff_eq.1 h1
     let t2:List (St Tryz.prog):=(t1++[.d h1,.i v13 (a1.length),.L dT a1 v13 0 1,.c [] (bBl (lY ((aN (a0.1,a0.2)).getD (toNat v13) default) ((aN (a0.1,a0.2)).getD (toNat v12) default) a2).1 (a1.getD (toNat v13) default))])
     cases h2:(((fW (lY ((aN (a0.1,a0.2)).getD (toNat v13) default) ((aN (a0.1,a0.2)).getD (toNat v12) default) a2).1 (a1.getD (toNat v13) default)).2:Int) != 0) with
     | true =>
      have q2:=bne_iff_ne.1 h2
      have e:=Eq.refl (cX a0 a1 a2 (v10,v11,v12,v13));conv at e=>rhs;simp only [cX,h0,h1,h2,aI]
      rw [aF,e]
      exact rt (t2++[.d h2]) [.slot 6 2] [7] hcx (by kernel_rfl)
     | false =>
      have q2:=bne_eq_false_iff_eq.1 h2
      have e:=Eq.refl (cX a0 a1 a2 (v10,v11,v12,v13));conv at e=>rhs;simp only [cX,h0,h1,h2,aI]
      rw [aA e]
      refine ba (t2++[.d h2,.p (show((flat cQ v11).length=v11.length*2∧v11.length+1≤2 ^ 40∧(v11.length+1)*16≤2 ^ 47) from gH cA (by omega) (by omega))]) [] [1,2,9,10,11,12,13] [3,4,8] hcx (m:=n) aCt (aCu n0) (yA a0 a1 a2 (flat cQ v10) (v10.length) (flat cQ v11++(k2 (fW (lY ((aN (a0.1,a0.2)).getD (toNat v13) default) ((aN (a0.1,a0.2)).getD (toNat v12) default) a2).1 (a1.getD (toNat v13) default)).1)) (v11.length+1) v12 (W (v13+1))) (by kernel_rfl) ?_
      have z0:(W (v13+1))=(v13+1):=aE (by omega) (by omega)
      have z1:(flat cQ v11++(k2 (fW (lY ((aN (a0.1,a0.2)).getD (toNat v13) default) ((aN (a0.1,a0.2)).getD (toNat v12) default) a2).1 (a1.getD (toNat v13) default)).1))=(flat cQ (v11++[(fW (lY ((aN (a0.1,a0.2)).getD (toNat v13) default) ((aN (a0.1,a0.2)).getD (toNat v12) default) a2).1 (a1.getD (toNat v13) default)).1])):=(bO (c:=cQ) (l:=v11) (m:=[(fW (lY ((aN (a0.1,a0.2)).getD (toNat v13) default) ((aN (a0.1,a0.2)).getD (toNat v12) default) a2).1 (a1.getD (toNat v13) default)).1])).symm
      have z2:(v11.length+1)=(v11++[(fW (lY ((aN (a0.1,a0.2)).getD (toNat v13) default) ((aN (a0.1,a0.2)).getD (toNat v12) default) a2).1 (a1.getD (toNat v13) default)).1]).length:=eH v11 [(fW (lY ((aN (a0.1,a0.2)).getD (toNat v13) default) ((aN (a0.1,a0.2)).getD (toNat v12) default) a2).1 (a1.getD (toNat v13) default)).1] rfl
      rw [z0,z1,z2]
      exact ih v10 (v11++[(fW (lY ((aN (a0.1,a0.2)).getD (toNat v13) default) ((aN (a0.1,a0.2)).getD (toNat v12) default) a2).1 (a1.getD (toNat v13) default)).1]) v12 (v13+1) (by refine⟨?_,?_,?_,?_,?_,?_,?_,?_,?_,?_,?_,?_,?_,?_,?_⟩<;>(try simp only [Ls])<;>first | omega | assumption | exact hi.2.1 | exact hi.2.2.1 | exact hi.2.2.2.1 | exact hi.2.2.2.2.1 | exact hi.2.2.2.2.2.1 | exact hi.2.2.2.2.2.2.1 | exact hi.2.2.2.2.2.2.2.1 | exact hi.2.2.2.2.2.2.2.2.1 | exact hi.2.2.2.2.2.2.2.2.2.1 | exact hi.2.2.2.2.2.2.2.2.2.2.1 | exact hi.2.2.2.2.2.2.2.2.2.2.2.1 | exact hi.2.2.2.2.2.2.2.2.2.2.2.2.1 | exact hi.2.2.2.2.2.2.2.2.2.2.2.2.2.1 | exact hi.2.2.2.2.2.2.2.2.2.2.2.2.2.2.1 | simp) (by(try simp only [Ls]);omega)
   | false =>
    have q0:=cI h0
    let t1:List (St Tryz.prog):=[.d h0,.c [5] (aP1 v11 (by omega))]
    cases h1:(((dA v11).2:Int) != 0) with
    | true =>
     have q1:=bne_iff_ne.1 h1
     have e:=Eq.refl (cX a0 a1 a2 (v10,v11,v12,v13));conv at e=>rhs;simp only [cX,h0,h1,aI]
     rw [aF,e]
     exact rt (t1++[.d h1]) [.slot 6 2] [7] hcx (by kernel_rfl)
    | false =>
     have q1:=bne_eq_false_iff_eq.1 h1
     have e:=Eq.refl (cX a0 a1 a2 (v10,v11,v12,v13));conv at e=>rhs;simp only [cX,h0,h1,aI]
     rw [aF,e]
     refine ba (t1++[.d h1,.p (show((flat cQ v10).length=v10.length*2∧v10.length+1≤2 ^ 40∧(v10.length+1)*16≤2 ^ 47) from gH cA (by omega) (by omega))]) [] [1,2,9,10,11] [3,8] hcx (m:=n0) vW (vX) (rX a0 a1 a2 (flat cQ v10++(k2 (dA v11).1)) (v10.length+1) (W (v12+1))) (by kernel_rfl) ?_
     have z0:(W (v12+1))=(v12+1):=aE (by omega) (by omega)
     have z1:(flat cQ v10++(k2 (dA v11).1))=(flat cQ (v10++[(dA v11).1])):=(bO (c:=cQ) (l:=v10) (m:=[(dA v11).1])).symm
     have z2:(v10.length+1)=(v10++[(dA v11).1]).length:=eH v10 [(dA v11).1] rfl
     rw [z0,z1,z2]
     exact g0 (v10++[(dA v11).1]) (v12+1) (by refine⟨?_,?_,?_,?_,?_⟩<;>(try simp only [Ls])<;>first | omega | assumption | simp) (by(try simp only [Ls]);omega)
theorem aSe (a0:Zm)(a1:List (Int))(a2:Int)(l0_1:a0.1.length≤9223372036854775807)(l0_2:a0.2.length≤9223372036854775807)(l1:a1.length≤9223372036854775807) {cx:Cx} (hcx:cx.base=3):∀(n:Nat)(v8:List (Int×Int))(v9:Int),(0≤v9)∧(v8.length=toNat v9)∧(v9≤(aN (a0.1,a0.2)).length)∧((aN (a0.1,a0.2)).length=a1.length)∧(a1.length≤96)→toNat ((((aN (a0.1,a0.2)).length:Nat):Int) - v9) < n→Aw.Good Tryz.prog none 9 (bodyPost Tryz.prog Tryz.f107 (RR cx (.t [(.s 3 0 (aB (dI a0 a1 a2) n (v8,v9)).1.length 2),(iv (aB (dI a0 a1 a2) n (v8,v9)).2)]) [(.live true true (flat cQ (aB (dI a0 a1 a2) n (v8,v9)).1))] [])) cx [] (.l vW n::vX) (rX a0 a1 a2 (flat cQ v8) v8.length v9):=by
 intro n
 induction n with
 | zero=>intro v8 v9 hi hn;exact absurd hn (hO _)
 | succ n ih =>
   intro v8 v9 hi hn
   refine aG ?_
   cases h0:(decide ((v9:Int) < (((aN (a0.1,a0.2)).length:Nat):Int))) with
   | true =>
    have q0:=bZ h0
    have e:=Eq.refl (dI a0 a1 a2 (v8,v9));conv at e=>rhs;simp only [dI,h0,aI]
    rw [aF,e]
    refine en [.d h0] [.slot 12 2] [1,2,9,10,11,12,13] [3,4,5] hcx aCt (aCu n) (yA a0 a1 a2 (flat cQ v8) (v8.length) (flat cQ ([]:List (Int×Int))) 0 v9 0) (toNat ((((aN (a0.1,a0.2)).length:Nat):Int) - 0)+1) (by kernel_rfl) ?_
    exact aSd a0 a1 a2 l0_1 l0_2 l1 hcx n ih (toNat ((((aN (a0.1,a0.2)).length:Nat):Int) - 0)+1) v8 ([]:List (Int×Int)) v9 0 (by refine⟨?_,?_,?_,?_,?_,?_,?_,?_,?_,?_,?_,?_,?_,?_,?_⟩<;>(try simp only [Ls])<;>first | omega | assumption | exact hi.2.1 | exact hi.2.2.1 | exact hi.2.2.2.1 | exact hi.2.2.2.2.1 | exact hi.2.2.2.2.2.1 | exact hi.2.2.2.2.2.2.1 | exact hi.2.2.2.2.2.2.2.1 | exact hi.2.2.2.2.2.2.2.2.1 | exact hi.2.2.2.2.2.2.2.2.2.1 | exact hi.2.2.2.2.2.2.2.2.2.2.1 | exact hi.2.2.2.2.2.2.2.2.2.2.2.1 | exact hi.2.2.2.2.2.2.2.2.2.2.2.2.1 | exact hi.2.2.2.2.2.2.2.2.2.2.2.2.2.1 | exact hi.2.2.2.2.2.2.2.2.2.2.2.2.2.2.1 | simp) (by(try simp only [Ls]);omega)
   | false =>
    have q0:=cI h0
    have e:=Eq.refl (dI a0 a1 a2 (v8,v9));conv at e=>rhs;simp only [dI,h0,aI]
    rw [aF,e]
    exact rt [.d h0] [] [4] hcx (by kernel_rfl)
def aS (a0:Zm)(a1:List (Int))(a2:Int):(List (Int×Int))×Int :=
 (bif (((fN (a0.1,a0.2) a1 a2):Int) != 0) then
  (([]:List (Int×Int)),(fN (a0.1,a0.2) a1 a2))
 else
  (aB (dI a0 a1 a2) (toNat ((((aN (a0.1,a0.2)).length:Nat):Int) - 0)+1) (([]:List (Int×Int)),0)))
theorem aSf (a0:Zm)(a1:List (Int))(a2:Int)(l0_1:a0.1.length≤9223372036854775807)(l0_2:a0.2.length≤9223372036854775807)(l1:a1.length≤9223372036854775807):Con Tryz.prog 107 [(.a [(.s 0 0 a0.1.length 3),(.s 1 0 a0.2.length 3)]),(.s 2 0 a1.length 1),(iv a2)] [(.live false true (flat dX a0.1)),(.live false true (flat fA a0.2)),(.live false true (flat c3 a1))] (.t [(.s 3 0 (aS a0 a1 a2).1.length 2),(iv (aS a0 a1 a2).2)]) [(.live true true (flat cQ (aS a0 a1 a2).1))]:=by
 refine aJ Tryz.func107 (by kernel_rfl) fun cx hcx=>?_
 try have hg1:a0.2.length≤96:=(eK h0).2.1
 try have hg2:a1.length=a0.2.length:=(eK h0).2.2
 have hg3:(aN (a0.1,a0.2)).length=a0.2.length:=aSc (a0.1,a0.2)
 let t0:List (St Tryz.prog):=[.c [0,1,2] (aR3 (a0.1,a0.2) a1 a2 (by(try simp only [Lt]);omega) (by(try simp only [Lt]);omega) (by omega))]
 cases h0:(((fN (a0.1,a0.2) a1 a2):Int) != 0) with
 | true =>
  have q0:=bne_iff_ne.1 h0
  try have hg1:a0.2.length≤96:=(eK h0).2.1
  try have hg2:a1.length=a0.2.length:=(eK h0).2.2
  have e:=Eq.refl (aS a0 a1 a2);conv at e=>rhs;simp only [aS,h0,aI]
  rw [e]
  exact rt (t0++[.d h0]) [.slot 6 2] [4] hcx (by kernel_rfl)
 | false =>
  have q0:=bne_eq_false_iff_eq.1 h0
  try have hg1:a0.2.length≤96:=(eK h0).2.1
  try have hg2:a1.length=a0.2.length:=(eK h0).2.2
  have e:=Eq.refl (aS a0 a1 a2);conv at e=>rhs;simp only [aS,h0,aI]
  rw [e]
  refine en (t0++[.d h0,.c [0,1] (bCq (a0.1,a0.2) (by(try simp only [Lt]);omega) (by(try simp only [Lt]);omega) (eK h0).1 (eK h0).2.1)]) [.slot 10 2] [1,2,9,10,11] [4,5] hcx vW (vX) (rX a0 a1 a2 (flat cQ ([]:List (Int×Int))) 0 0) (toNat ((((aN (a0.1,a0.2)).length:Nat):Int) - 0)+1) (by kernel_rfl) ?_
  exact aSe a0 a1 a2 l0_1 l0_2 l1 hcx (toNat ((((aN (a0.1,a0.2)).length:Nat):Int) - 0)+1) ([]:List (Int×Int)) 0 (by refine⟨?_,?_,?_,?_,?_⟩<;>(try simp only [Ls])<;>first | omega | assumption | simp) (by(try simp only [Ls]);omega)
noncomputable def aCv:Code:=(aD [1,1,1,1,1,0,1,0,1,0,1] [0] (aH Tryz.f110) []).1
noncomputable def aCw (m0:Nat):List K:=(aD [1,1,1,1,1,0,1,0,1,0,1] [m0] (aH Tryz.f110) []).2
def yB (a0:Zm)(a1:List (Int))(a2:Int)(v9c:List SV)(v9n:Nat)(v10 v11:Int):LS:=⟨iJ 80 [(1,(.s 2 0 a1.length 1)),(2,(iv a2)),(6,(.p 3 0)),(9,(.s 4 0 (aN (a0.1,a0.2)).length 9)),(10,(.s 5 0 v9n 2)),(11,(iv v10)),(12,(iv v11))],[(.live false true (flat dX a0.1)),(.live false true (flat fA a0.2)),(.live false true (flat c3 a1)),(.live true false [(iv 0),(iv 0)]),(.live true true (flat dL (aN (a0.1,a0.2)))),(.live true true v9c)]⟩
def dU (a0:Zm)(a1:List (Int))(a2:Int):(List (Int×Int))×Int×Int→((List (Int×Int))×Int×Int)⊕(((List (Int×Int))×Int)⊕((Int×Int)×Int))
 | (v9,v10,v11) =>
  (bif (decide ((v11:Int) < (((aN (a0.1,a0.2)).length:Nat):Int))) then
   (bif (((kV ((aN (a0.1,a0.2)).getD (toNat v10) default) ((aN (a0.1,a0.2)).getD (toNat v11) default) a2).2:Int) != 0) then
    (.inr (.inr ((0,0),(kV ((aN (a0.1,a0.2)).getD (toNat v10) default) ((aN (a0.1,a0.2)).getD (toNat v11) default) a2).2)))
   else
    (bif (((fW (kV ((aN (a0.1,a0.2)).getD (toNat v10) default) ((aN (a0.1,a0.2)).getD (toNat v11) default) a2).1 (W ((a1.getD (toNat v10) default)*(a1.getD (toNat v11) default)))).2:Int) != 0) then
     (.inr (.inr ((0,0),(fW (kV ((aN (a0.1,a0.2)).getD (toNat v10) default) ((aN (a0.1,a0.2)).getD (toNat v11) default) a2).1 (W ((a1.getD (toNat v10) default)*(a1.getD (toNat v11) default)))).2)))
    else
     (.inl ((v9++[(fW (kV ((aN (a0.1,a0.2)).getD (toNat v10) default) ((aN (a0.1,a0.2)).getD (toNat v11) default) a2).1 (W ((a1.getD (toNat v10) default)*(a1.getD (toNat v11) default)))).1]),v10,(v11+1)))))
  else
   (.inr (.inl (v9,(v10+1)))))
noncomputable def vY:Code:=(aD [1,1,1,1,1,0,1] [] (aH Tryz.f110) []).1
noncomputable def vZ:List K:=(aD [1,1,1,1,1,0,1] [] (aH Tryz.f110) []).2
def rY (a0:Zm)(a1:List (Int))(a2:Int)(v7c:List SV)(v7n:Nat)(v8:Int):LS:=⟨iJ 80 [(1,(.s 2 0 a1.length 1)),(2,(iv a2)),(6,(.p 3 0)),(9,(.s 4 0 (aN (a0.1,a0.2)).length 9)),(10,(.s 5 0 v7n 2)),(11,(iv v8))],[(.live false true (flat dX a0.1)),(.live false true (flat fA a0.2)),(.live false true (flat c3 a1)),(.live true false [(iv 0),(iv 0)]),(.live true true (flat dL (aN (a0.1,a0.2)))),(.live true true v7c)]⟩
def eE (a0:Zm)(a1:List (Int))(a2:Int):(List (Int×Int))×Int→((List (Int×Int))×Int)⊕((Int×Int)×Int)
 | (v7,v8) =>
  (bif (decide ((v8:Int) < (((aN (a0.1,a0.2)).length:Nat):Int))) then
   (aB (dU a0 a1 a2) (toNat ((((aN (a0.1,a0.2)).length:Nat):Int) - 0)+1) (v7,v8,0))
  else
   (.inr ((dA v7).1,(dA v7).2)))
theorem aSg (a0:Zm)(a1:List (Int))(a2:Int)(l0_1:a0.1.length≤9223372036854775807)(l0_2:a0.2.length≤9223372036854775807)(l1:a1.length≤9223372036854775807) {cx:Cx} (hcx:cx.base=3)
   (n0:Nat) (g0:∀(v7:List (Int×Int)) (v8:Int),(0≤v8)∧(v7.length≤96*toNat v8)∧(v8≤(aN (a0.1,a0.2)).length)∧((aN (a0.1,a0.2)).length=a1.length)∧(a1.length≤96)→toNat ((((aN (a0.1,a0.2)).length:Nat):Int) - v8) < n0→Aw.Good Tryz.prog none 9 (bodyPost Tryz.prog Tryz.f110 (RR cx (.t [(.a (k2 (aB (eE a0 a1 a2) n0 (v7,v8)).1)),(iv (aB (eE a0 a1 a2) n0 (v7,v8)).2)]) [] [])) cx [] (.l vY n0::vZ) (rY a0 a1 a2 (flat cQ v7) v7.length v8)):∀(n:Nat) (v9:List (Int×Int)) (v10 v11:Int),(0≤v11)∧(v9.length≤96*toNat v10+toNat v11)∧(0≤v10)∧(v10 < (aN (a0.1,a0.2)).length)∧(v11≤(aN (a0.1,a0.2)).length)∧((aN (a0.1,a0.2)).length=a1.length)∧(a1.length≤96)∧((0≤v10))∧((v10≤(aN (a0.1,a0.2)).length))∧(((aN (a0.1,a0.2)).length=a1.length))∧((a1.length≤96))∧(v10 < (((aN (a0.1,a0.2)).length:Nat):Int))∧(toNat ((((aN (a0.1,a0.2)).length:Nat):Int) - v10) < n0+1)→toNat ((((aN (a0.1,a0.2)).length:Nat):Int) - v11) < n→Aw.Good Tryz.prog none 9 (bodyPost Tryz.prog Tryz.f110 (RR cx (.t [(.a (k2 (iZ (eE a0 a1 a2) n0 (aB (dU a0 a1 a2) n (v9,v10,v11))).1)),(iv (iZ (eE a0 a1 a2) n0 (aB (dU a0 a1 a2) n (v9,v10,v11))).2)]) [] [])) cx [] (.l aCv n::aCw n0) (yB a0 a1 a2 (flat cQ v9) v9.length v10 v11):=by
 intro n
 induction n with
 | zero=>intro v9 v10 v11 hi hn;exact absurd hn (hO _)
 | succ n ih =>
   intro v9 v10 v11 hi hn
   refine aG ?_
   cases h0:(decide ((v11:Int) < (((aN (a0.1,a0.2)).length:Nat):Int))) with
   | true =>
    have q0:=bZ h0
    let t1:List (St Tryz.prog):=[.d h0,.i v10 ((aN (a0.1,a0.2)).length),.L cW (aN (a0.1,a0.2)) v10 0 9,.i v11 ((aN (a0.1,a0.2)).length),.L cW (aN (a0.1,a0.2)) v11 0 9,.c [] (bE2 ((aN (a0.1,a0.2)).getD (toNat v10) default) ((aN (a0.1,a0.2)).getD (toNat v11) default) a2)]
    cases h1:(((kV ((aN (a0.1,a0.2)).getD (toNat v10) default) ((aN (a0.1,a0.2)).getD (toNat v11) default) a2).2:Int) != 0) with
    | true =>
     have q1:=bne_iff_ne.1 h1
     have e:=Eq.refl (dU a0 a1 a2 (v9,v10,v11));conv at e=>rhs;simp only [dU,h0,h1,aI]
     rw [aF,e]
     exact rt (t1++[.d h1]) [] [] hcx (by kernel_rfl)
    | false =>
     have q1:=bne_eq_false_iff_eq.1 h1
     let t2:List (St Tryz.prog):=(t1++[.d h1,.i v10 (a1.length),.L dT a1 v10 0 1,.i v11 (a1.length),.L dT a1 v11 0 1,.c [] (bBl (kV ((aN (a0.1,a0.2)).getD (toNat v10) default) ((aN (a0.1,a0.2)).getD (toNat v11) default) a2).1 (W ((a1.getD (toNat v10) default)*(a1.getD (toNat v11) default))))])
     cases h2:(((fW (kV ((aN (a0.1,a0.2)).getD (toNat v10) default) ((aN (a0.1,a0.2)).getD (toNat v11) default) a2).1 (W ((a1.getD (toNat v10) default)*(a1.getD (toNat v11) default)))).2:Int) != 0) with
     | true =>
      have q2:=bne_iff_ne.1 h2
      have e:=Eq.refl (dU a0 a1 a2 (v9,v10,v11));conv at e=>rhs;simp only [dU,h0,h1,h2,aI]
      rw [aF,e]
      exact rt (t2++[.d h2]) [] [] hcx (by kernel_rfl)
     | false =>
      have q2:=bne_eq_false_iff_eq.1 h2
      have e:=Eq.refl (dU a0 a1 a2 (v9,v10,v11));conv at e=>rhs;simp only [dU,h0,h1,h2,aI]
      rw [aA e]
      refine ba (t2++[.d h2,.p (show((flat cQ v9).length=v9.length*2∧v9.length+1≤2 ^ 40∧(v9.length+1)*16≤2 ^ 47) from gH cA (by omega) (by omega))]) [] [1,2,6,9,10,11,12] [3,4,8] hcx (m:=n) aCv (aCw n0) (yB a0 a1 a2 (flat cQ v9++(k2 (fW (kV ((aN (a0.1,a0.2)).getD (toNat v10) default) ((aN (a0.1,a0.2)).getD (toNat v11) default) a2).1 (W ((a1.getD (toNat v10) default)*(a1.getD (toNat v11) default)))).1)) (v9.length+1) v10 (W (v11+1))) (by kernel_rfl) ?_
      have z0:(W (v11+1))=(v11+1):=aE (by omega) (by omega)
      have z1:(flat cQ v9++(k2 (fW (kV ((aN (a0.1,a0.2)).getD (toNat v10) default) ((aN (a0.1,a0.2)).getD (toNat v11) default) a2).1 (W ((a1.getD (toNat v10) default)*(a1.getD (toNat v11) default)))).1))=(flat cQ (v9++[(fW (kV ((aN (a0.1,a0.2)).getD (toNat v10) default) ((aN (a0.1,a0.2)).getD (toNat v11) default) a2).1 (W ((a1.getD (toNat v10) default)*(a1.getD (toNat v11) default)))).1])):=(bO (c:=cQ) (l:=v9) (m:=[(fW (kV ((aN (a0.1,a0.2)).getD (toNat v10) default) ((aN (a0.1,a0.2)).getD (toNat v11) default) a2).1 (W ((a1.getD (toNat v10) default)*(a1.getD (toNat v11) default)))).1])).symm
      have z2:(v9.length+1)=(v9++[(fW (kV ((aN (a0.1,a0.2)).getD (toNat v10) default) ((aN (a0.1,a0.2)).getD (toNat v11) default) a2).1 (W ((a1.getD (toNat v10) default)*(a1.getD (toNat v11) default)))).1]).length:=eH v9 [(fW (kV ((aN (a0.1,a0.2)).getD (toNat v10) default) ((aN (a0.1,a0.2)).getD (toNat v11) default) a2).1 (W ((a1.getD (toNat v10) default)*(a1.getD (toNat v11) default)))).1] rfl
      rw [z0,z1,z2]
      exact ih (v9++[(fW (kV ((aN (a0.1,a0.2)).getD (toNat v10) default) ((aN (a0.1,a0.2)).getD (toNat v11) default) a2).1 (W ((a1.getD (toNat v10) default)*(a1.getD (toNat v11) default)))).1]) v10 (v11+1) (by refine⟨?_,?_,?_,?_,?_,?_,?_,?_,?_,?_,?_,?_,?_⟩<;>(try simp only [Ls])<;>first | omega | assumption | exact hi.2.1 | exact hi.2.2.1 | exact hi.2.2.2.1 | exact hi.2.2.2.2.1 | exact hi.2.2.2.2.2.1 | exact hi.2.2.2.2.2.2.1 | exact hi.2.2.2.2.2.2.2.1 | exact hi.2.2.2.2.2.2.2.2.1 | exact hi.2.2.2.2.2.2.2.2.2.1 | exact hi.2.2.2.2.2.2.2.2.2.2.1 | exact hi.2.2.2.2.2.2.2.2.2.2.2.1 | exact hi.2.2.2.2.2.2.2.2.2.2.2.2.1 | simp) (by(try simp only [Ls]);omega)
   | false =>
    have q0:=cI h0
    have e:=Eq.refl (dU a0 a1 a2 (v9,v10,v11));conv at e=>rhs;simp only [dU,h0,aI]
    rw [aF,e]
    refine ba [.d h0] [] [1,2,6,9,10,11] [3,4,5] hcx (m:=n0) vY (vZ) (rY a0 a1 a2 (flat cQ v9) (v9.length) (W (v10+1))) (by kernel_rfl) ?_
    have z0:(W (v10+1))=(v10+1):=aE (by omega) (by omega)
    rw [z0]
    exact g0 v9 (v10+1) (by refine⟨?_,?_,?_,?_,?_⟩<;>(try simp only [Ls])<;>first | omega | assumption | simp) (by(try simp only [Ls]);omega)
theorem aSh (a0:Zm)(a1:List (Int))(a2:Int)(l0_1:a0.1.length≤9223372036854775807)(l0_2:a0.2.length≤9223372036854775807)(l1:a1.length≤9223372036854775807) {cx:Cx} (hcx:cx.base=3):∀(n:Nat)(v7:List (Int×Int))(v8:Int),(0≤v8)∧(v7.length≤96*toNat v8)∧(v8≤(aN (a0.1,a0.2)).length)∧((aN (a0.1,a0.2)).length=a1.length)∧(a1.length≤96)→toNat ((((aN (a0.1,a0.2)).length:Nat):Int) - v8) < n→Aw.Good Tryz.prog none 9 (bodyPost Tryz.prog Tryz.f110 (RR cx (.t [(.a (k2 (aB (eE a0 a1 a2) n (v7,v8)).1)),(iv (aB (eE a0 a1 a2) n (v7,v8)).2)]) [] [])) cx [] (.l vY n::vZ) (rY a0 a1 a2 (flat cQ v7) v7.length v8):=by
 intro n
 induction n with
 | zero=>intro v7 v8 hi hn;exact absurd hn (hO _)
 | succ n ih =>
   intro v7 v8 hi hn
   refine aG ?_
   cases h0:(decide ((v8:Int) < (((aN (a0.1,a0.2)).length:Nat):Int))) with
   | true =>
    have q0:=bZ h0
    have e:=Eq.refl (eE a0 a1 a2 (v7,v8));conv at e=>rhs;simp only [eE,h0,aI]
    rw [aF,e]
    refine en [.d h0] [] [1,2,6,9,10,11,12] [3,4,5] hcx aCv (aCw n) (yB a0 a1 a2 (flat cQ v7) (v7.length) v8 0) (toNat ((((aN (a0.1,a0.2)).length:Nat):Int) - 0)+1) (by kernel_rfl) ?_
    exact aSg a0 a1 a2 l0_1 l0_2 l1 hcx n ih (toNat ((((aN (a0.1,a0.2)).length:Nat):Int) - 0)+1) v7 v8 0 (by refine⟨?_,?_,?_,?_,?_,?_,?_,?_,?_,?_,?_,?_,?_⟩<;>(try simp only [Ls])<;>first | omega | assumption | exact hi.2.1 | exact hi.2.2.1 | exact hi.2.2.2.1 | exact hi.2.2.2.2.1 | exact hi.2.2.2.2.2.1 | exact hi.2.2.2.2.2.2.1 | exact hi.2.2.2.2.2.2.2.1 | exact hi.2.2.2.2.2.2.2.2.1 | exact hi.2.2.2.2.2.2.2.2.2.1 | exact hi.2.2.2.2.2.2.2.2.2.2.1 | exact hi.2.2.2.2.2.2.2.2.2.2.2.1 | exact hi.2.2.2.2.2.2.2.2.2.2.2.2.1 | simp) (by(try simp only [Ls]);omega)
   | false =>
    have q0:=cI h0
    have e:=Eq.refl (eE a0 a1 a2 (v7,v8));conv at e=>rhs;simp only [eE,h0,aI]
    rw [aF,e]
    exact rt [.d h0,.c [5] (aP1 v7 (by omega))] [] [] hcx (by kernel_rfl)
def fX (a0:Zm)(a1:List (Int))(a2:Int):(Int×Int)×Int :=
 (bif (((fN (a0.1,a0.2) a1 a2):Int) != 0) then
  ((0,0),(fN (a0.1,a0.2) a1 a2))
 else
  (aB (eE a0 a1 a2) (toNat ((((aN (a0.1,a0.2)).length:Nat):Int) - 0)+1) (([]:List (Int×Int)),0)))
theorem aY1 (a0:Zm)(a1:List (Int))(a2:Int)(l0_1:a0.1.length≤9223372036854775807)(l0_2:a0.2.length≤9223372036854775807)(l1:a1.length≤9223372036854775807):Con Tryz.prog 110 [(.a [(.s 0 0 a0.1.length 3),(.s 1 0 a0.2.length 3)]),(.s 2 0 a1.length 1),(iv a2)] [(.live false true (flat dX a0.1)),(.live false true (flat fA a0.2)),(.live false true (flat c3 a1))] (.t [(.a (k2 (fX a0 a1 a2).1)),(iv (fX a0 a1 a2).2)]) []:=by
 refine aJ Tryz.func110 (by kernel_rfl) fun cx hcx=>?_
 try have hg1:a0.2.length≤96:=(eK h0).2.1
 try have hg2:a1.length=a0.2.length:=(eK h0).2.2
 have hg3:(aN (a0.1,a0.2)).length=a0.2.length:=aSc (a0.1,a0.2)
 let t0:List (St Tryz.prog):=[.c [0,1,2] (aR3 (a0.1,a0.2) a1 a2 (by(try simp only [Lt]);omega) (by(try simp only [Lt]);omega) (by omega))]
 cases h0:(((fN (a0.1,a0.2) a1 a2):Int) != 0) with
 | true =>
  have q0:=bne_iff_ne.1 h0
  try have hg1:a0.2.length≤96:=(eK h0).2.1
  try have hg2:a1.length=a0.2.length:=(eK h0).2.2
  have e:=Eq.refl (fX a0 a1 a2);conv at e=>rhs;simp only [fX,h0,aI]
  rw [e]
  exact rt (t0++[.d h0]) [] [] hcx (by kernel_rfl)
 | false =>
  have q0:=bne_eq_false_iff_eq.1 h0
  try have hg1:a0.2.length≤96:=(eK h0).2.1
  try have hg2:a1.length=a0.2.length:=(eK h0).2.2
  have e:=Eq.refl (fX a0 a1 a2);conv at e=>rhs;simp only [fX,h0,aI]
  rw [e]
  refine en (t0++[.d h0,.c [0,1] (bCq (a0.1,a0.2) (by(try simp only [Lt]);omega) (by(try simp only [Lt]);omega) (eK h0).1 (eK h0).2.1)]) [.slot 10 2] [1,2,6,9,10,11] [4,5,6] hcx vY (vZ) (rY a0 a1 a2 (flat cQ ([]:List (Int×Int))) 0 0) (toNat ((((aN (a0.1,a0.2)).length:Nat):Int) - 0)+1) (by kernel_rfl) ?_
  exact aSh a0 a1 a2 l0_1 l0_2 l1 hcx (toNat ((((aN (a0.1,a0.2)).length:Nat):Int) - 0)+1) ([]:List (Int×Int)) 0 (by refine⟨?_,?_,?_,?_,?_⟩<;>(try simp only [Ls])<;>first | omega | assumption | simp) (by(try simp only [Ls]);omega)
theorem rZ {α β R:Type} {g:α→β×Int} {E:Int→R}:∀(l:List α)(t:List β),iU (fun t c=>bif ((g c).2 != 0) then .inr (E (g c).2) else .inl (t++[(g c).1])) l t=(match nG g l t with | .inl m=>.inl m | .inr e=>.inr (E e))
 | [],t=>rfl
 | c::l,t=>by
   unfold nG
   simp only [iU]
   by_cases h:(g c).2=0
   · rw [if_pos h,h]
     exact rZ l (t++[(g c).1])
   · rw [if_neg h,bne_iff_ne.2 h];rfl
theorem wA {α β γ:Type} {g:α→β×Int} {g':γ→β×Int} {f:γ→α}:∀{k:List γ} {m:List β},(∀c∈k,g (f c)=g' c)→nG g (k.map f) m=nG g' k m
 | [],_,_=>rfl
 | c::k,m,h=>by
   simp only [List.map_cons,nG]
   rw [h c List.mem_cons_self,wA (k:=k) (fun x hx=>h x (List.mem_cons_of_mem _ hx))]
noncomputable def fY (m:ME)(d:Int)(pj:PN):List (Int×Int):=(aU m).map fun p=>(uJ p pj d).1
theorem aNf {α β γ:Type} (f:α→γ):∀(l:List α)(k:List β),(l.map f).zip k=(l.zip k).map (fun c=>(f c.1,c.2))
 | [],_=>by simp
 | _::_,[]=>by simp
 | a::l,b::k=>by simp [aNf f l k]
theorem aIz {a:Int×Int} {n:Int} (ha:okP a)(hn:0≤n∧n≤10000):fW a n=nT a n:=by
 rw [aGb (aGr ha) (by omega),aUt (aGr ha) (by omega)]
theorem aY2 {m:ME} {q:List Int} {d:Int} (hc:ChOK m q)(hd:0≤d∧d≤2)(out:List (Int×Int))(j:Nat) {pj:PN} (hj:(aU m)[j]? = some pj) :
   aB (cX m q d) (toNat ((((aU m).length:Nat):Int) - 0)+1) (out,[],(j:Int),0) =
     bif ((eD ((fY m d pj).zip q)).2 != 0) then .inr ([],(eD ((fY m d pj).zip q)).2) else .inl (out++[(eD ((fY m d pj).zip q)).1],(j:Int)+1):=by
 have hR:aN (m.1,m.2)=aU m:=aCs m
 have hpl:(aU m).length=m.2.length:=List.length_map _
 have hlen:=hc.len
 have hz:((aU m).zip q).length=(aU m).length:=by rw [List.length_zip];omega
 have hpj:=List.mem_of_getElem? hj
 have hn:=hc.n
 let g:PN×Int→(Int×Int)×Int:=fun c=>nT (uJ c.1 pj d).1 c.2
 have key:=aZ (S:=cX m q d) (fun terms i=>(out,terms,(j:Int),i)) (fun t c=>bif ((g c).2 != 0) then .inr (.inr ([],(g c).2)) else .inl (t++[(g c).1]))
   (fun terms=>bif ((dA terms).2 != 0) then .inr ([],(dA terms).2) else .inl (out++[(dA terms).1],(j:Int)+1)) (L:=(aU m).zip q) (v:=[]) (n:=toNat ((((aU m).length:Nat):Int) - 0)+1) (fun _ _=>True) ?_ (fun _ _ _ _ _ _ _=>trivial) ?_ (by omega) trivial
 · refine Eq.trans key ?_
   rw [rZ (g:=g) (E:=fun e=>(Sum.inr (([]:List (Int×Int)),e):(List (Int×Int)×Int)⊕(List (Int×Int)×Int))) ((aU m).zip q) []]
   have e:eD ((fY m d pj).zip q)=pO aKr (fun e=>((0,0),e)) (nG g ((aU m).zip q) []):=by
     unfold eD fY
     rw [aNf,wA (g:=sJ) (g':=g) (f:=fun c:PN×Int=>((uJ c.1 pj d).1,c.2)) (fun c _=>rfl)]
   rw [e]
   cases hs:nG g ((aU m).zip q) [] with
   | inr r =>
     have:=rO hs
     simp only [aCf,pO]
     rw [bne_iff_ne.2 this];rfl
   | inl t =>
     simp only [aCf,pO]
     obtain⟨e2,h0⟩:=kW hs
     rw [List.nil_append] at e2
     have hS:=aWk (l:=t) (fun a ha=>by
       rw [e2] at ha
       obtain⟨c,hcm,rfl⟩:=List.mem_map.1 ha
       exact aIu (h0 c hcm)) (by rw [e2,List.length_map];omega)
     rw [hS]
 · intro i c hi terms _
   obtain⟨h1,h2⟩:=List.getElem?_zip_eq_some.1 hi
   have hlt:=(List.getElem?_eq_some_iff.1 h1).1
   have hcp:=List.mem_of_getElem? h1
   have hcq:=hc.ok _ (List.mem_of_getElem? h2)
   obtain⟨b0,bP⟩:=kI (mA hc.v hd hcp hpj)
   simp only [cX]
   rw [hR,bY (by omega),cond_true,bB h1,bB h2,bB hj,←aKk,b0,aIz bP (by omega)]
   show(bif ((g c).2 != 0) then _ else _)=_
   cases ((g c).2 != 0)<;>rfl
 · intro terms _
   simp only [cX]
   rw [hR,cR (by omega),cond_false]
   cases ((dA terms).2 != 0)<;>rfl
noncomputable def iY (m:ME)(q:List Int)(d:Int):List (Int×Int)×Int:=bif (chD m q d != 0) then([],chD m q d) else pP ((aU m).map (fY m d)) q
theorem sW (m:ME)(q:List Int)(d:Int):aS m q d=iY m q d:=by
 unfold aS iY
 rw [show fN (m.1,m.2) q d=chD m q d from aSb m q d]
 cases h:(chD m q d != 0) with
 | true=>rfl
 | false =>
   obtain⟨hc,hd⟩:=gK (bne_eq_false_iff_eq.1 h)
   have hR:aN (m.1,m.2)=aU m:=aCs m
   rw [hR,cond_false,cond_false]
   have key:=aZ (S:=dI m q d) (fun out j=>(out,j)) (fun out pj=>bif ((eD ((fY m d pj).zip q)).2 != 0) then .inr ([],(eD ((fY m d pj).zip q)).2) else .inl (out++[(eD ((fY m d pj).zip q)).1])) (fun out=>(out,0)) (L:=aU m) (v:=[]) (n:=toNat ((((aU m).length:Nat):Int) - 0)+1) (fun _ _=>True) ?_ (fun _ _ _ _ _ _ _=>trivial) ?_ (by omega) trivial
   · refine Eq.trans key ?_
     rw [rZ (g:=fun pj=>eD ((fY m d pj).zip q)) (E:=fun e=>([],e)) (aU m) []]
     unfold pP
     rw [wA (g:=fun r:List (Int×Int)=>eD (r.zip q)) (g':=fun pj=>eD ((fY m d pj).zip q)) (fun c _=>rfl)]
     cases nG (fun pj=>eD ((fY m d pj).zip q)) (aU m) []<;>rfl
   · intro j pj hj out _
     obtain⟨hlt,hce⟩:=List.getElem?_eq_some_iff.1 hj
     simp only [dI]
     rw [hR,bY (by omega),cond_true,aY2 hc hd out j hj]
     cases ((eD ((fY m d pj).zip q)).2 != 0)<;>rfl
   · intro out _
     simp only [dI]
     rw [hR,cR (by omega),cond_false]
theorem aNg {α β:Type} {g:α→β×Int}:∀{k k':List α} {m:List β},nG g (k++k') m=(match nG g k m with | .inl m'=>nG g k' m' | .inr e=>.inr e)
 | [],_,_=>rfl
 | c::k,k',m=>by
   simp only [List.cons_append,nG]
   by_cases h:(g c).2=0
   · rw [if_pos h,if_pos h];exact aNg
   · rw [if_neg h,if_neg h]
def cZ {γ R:Type} (E:Int→R):List γ⊕Int→List γ⊕R
 | .inl m=>.inl m
 | .inr e=>.inr (E e)
theorem aCx {α β γ R:Type} {g:β→γ×Int} {cs:α→List β} {E:Int→R}:∀(L:List α)(t:List γ),iU (fun t c=>cZ E (nG g (cs c) t)) L t=cZ E (nG g (L.flatMap cs) t)
 | [],_=>rfl
 | c::L,t=>by
   rw [List.flatMap_cons,aNg]
   simp only [iU]
   cases nG g (cs c) t with
   | inl m=>exact aCx L m
   | inr e=>rfl
theorem aEr {α β γ:Type} (fx:α→List β)(fy:α→List γ)(hl:∀c,(fx c).length=(fy c).length):∀(L:List α)(v:List β×List γ),v.1.length=v.2.length →
   (L.foldl (fun v c=>(v.1++fx c,v.2++fy c)) v).1.length=(L.foldl (fun v c=>(v.1++fx c,v.2++fy c)) v).2.length ∧
   (L.foldl (fun v c=>(v.1++fx c,v.2++fy c)) v).1.zip (L.foldl (fun v c=>(v.1++fx c,v.2++fy c)) v).2=v.1.zip v.2++L.flatMap (fun c=>(fx c).zip (fy c))
 | [],v,h=>⟨h,by simp⟩
 | c::L,v,h=>by
   have ih:=aEr fx fy hl L (v.1++fx c,v.2++fy c) (by simp only [List.length_append];rw [h,hl c])
   rw [List.foldl_cons]
   refine⟨ih.1,ih.2.trans ?_⟩
   simp only [List.flatMap_cons]
   rw [List.zip_append h,List.append_assoc]
theorem aEs {α β γ:Type} (fx:α→List β)(fy:α→List γ)(n:Nat)(hn:∀c,(fx c).length≤n):∀(L:List α)(v:List β×List γ),(L.foldl (fun v c=>(v.1++fx c,v.2++fy c)) v).1.length≤v.1.length+n*L.length
 | [],v=>by simp
 | c::L,v=>by
   have ih:=aEs fx fy n hn L (v.1++fx c,v.2++fy c)
   have:=hn c
   rw [List.foldl_cons,List.length_cons,Nat.mul_succ]
   simp only [List.length_append] at ih
   omega
noncomputable def eC (m:ME)(q:List Int)(d:Int)(c:PN×Int):List ((Int×Int)×Int):=((aU m).zip q).map fun e=>((pQ c.1 e.1 d).1,W (c.2*e.2))
noncomputable def eX (m:ME)(q:List Int)(d:Int)(c:PN×Int):List (Int×Int):=((aU m).zip q).map fun e=>(pQ c.1 e.1 d).1
noncomputable def eY (m:ME)(q:List Int)(c:PN×Int):List Int:=((aU m).zip q).map fun e=>W (c.2*e.2)
theorem eXY (m:ME)(q:List Int)(d:Int)(c:PN×Int):(eX m q d c).zip (eY m q c)=eC m q d c:=by
 unfold eX eY eC
 generalize (aU m).zip q=L
 induction L with
 | nil=>rfl
 | cons e L ih=>simp only [List.map_cons,List.zip_cons_cons,ih]
theorem aY3 {α β γ:Type} (g:α→β)(h:α→γ)(l:List α)(v:List β×List γ):l.foldl (fun v c=>(v.1++[g c],v.2++[h c])) v=(v.1++l.map g,v.2++l.map h):=by
 induction l generalizing v with
 | nil=>simp
 | cons c l ih=>rw [List.foldl_cons,ih];simp
noncomputable def MT (m:ME)(d:Int):TB:=(aU m).map fun q=>(aU m).map fun p=>(pQ p q d).1
noncomputable def EnV (m:ME)(q:List Int)(d:Int):(Int×Int)×Int:=bif (chD m q d != 0) then((0,0),chD m q d) else eD (((aU m).zip q).flatMap (eC m q d))
theorem aY4 {m:ME} {d:Int} {i j:Nat} {p r:PN} (hi:(aU m)[i]? = some p)(hj:(aU m)[j]? = some r):((MT m d).getD (toNat (j:Int)) default).getD (toNat (i:Int)) default=(pQ p r d).1:=by
 have e1:(MT m d)[j]? = some ((aU m).map fun p=>(pQ p r d).1):=by unfold MT;rw [List.getElem?_map,hj];rfl
 rw [bB e1]
 have e2:((aU m).map fun p=>(pQ p r d).1)[i]? = some (pQ p r d).1:=by rw [List.getElem?_map,hi];rfl
 rw [bB e2]
theorem aY5 {m:ME} {q:List Int} {d:Int} (hl:(aU m).length=q.length)(xs:List (Int×Int))(ys:List Int)(i:Nat) {c:PN×Int} (hi:((aU m).zip q)[i]? = some c) :
   aB (eU (MT m d) q) (toNat ((q.length:Int) - 0)+1) (xs,ys,(i:Int),c.2,(i:Int),0)=.inl (xs++eX m q d c,ys++eY m q c,(i:Int)+1):=by
 obtain⟨hi1,hi2⟩:=List.getElem?_zip_eq_some.1 hi
 have hz:((aU m).zip q).length=q.length:=by rw [List.length_zip];omega
 have key:=aZ (S:=eU (MT m d) q) (fun(v:List (Int×Int)×List Int) j=>(v.1,v.2,(i:Int),c.2,(i:Int),j)) (fun v e=>.inl (v.1++[(pQ c.1 e.1 d).1],v.2++[W (c.2*e.2)])) (fun v=>.inl (v.1,v.2,(i:Int)+1)) (L:=(aU m).zip q) (v:=(xs,ys)) (n:=toNat ((q.length:Int) - 0)+1) (fun _ _=>True) ?_ (fun _ _ _ _ _ _ _=>trivial) ?_ (by omega) trivial
 · refine Eq.trans key ?_
   rw [bK,aY3];rfl
 · intro j e hj v _
   obtain⟨h1,h2⟩:=List.getElem?_zip_eq_some.1 hj
   have hlt:=(List.getElem?_eq_some_iff.1 h2).1
   simp only [eU]
   rw [bY (by omega),cond_true,aY4 hi1 h1,bB h2]
   rfl
 · intro v _
   simp only [eU]
   rw [cR (by omega),cond_false]
theorem aY6 {m:ME} {q:List Int} {d:Int} (hl:(aU m).length=q.length)(hm:q.length≤96):cU (MT m d) q=eD (((aU m).zip q).flatMap (eC m q d)):=by
 have hz:((aU m).zip q).length=q.length:=by rw [List.length_zip];omega
 unfold cU
 have key:=aZ (S:=dK (MT m d) q) (fun(v:List (Int×Int)×List Int) i=>(v.1,v.2,i)) (fun v c=>.inl (v.1++eX m q d c,v.2++eY m q c)) (fun v=>((dD v.1 v.2).1,(dD v.1 v.2).2)) (L:=(aU m).zip q) (v:=([],[])) (n:=toNat ((q.length:Int) - 0)+1) (fun _ _=>True) ?_ (fun _ _ _ _ _ _ _=>trivial) ?_ (by omega) trivial
 · refine Eq.trans key ?_
   rw [bK]
   obtain⟨h1,h2⟩:=aEr (eX m q d) (eY m q) (fun c=>by unfold eX eY;rw [List.length_map,List.length_map]) ((aU m).zip q) ([],[]) rfl
   have h3:=aEs (eX m q d) (eY m q) 96 (fun c=>by unfold eX;rw [List.length_map];omega) ((aU m).zip q) ([],[])
   simp only [List.length_nil] at h3
   simp only [aCf]
   rw [aWo (by omega) (by omega),h2]
   simp only [eXY,List.zip_nil_left,List.nil_append]
 · intro i c hi v _
   obtain⟨h1,h2⟩:=List.getElem?_zip_eq_some.1 hi
   have hlt:=(List.getElem?_eq_some_iff.1 h2).1
   simp only [dK]
   rw [bY (by omega),cond_true,bB h2,aY5 hl v.1 v.2 i hi]
   rfl
 · intro v _
   simp only [dK]
   rw [cR (by omega),cond_false]
theorem bCx {m:ME} {q:List Int} {d:Int} (hc:ChOK m q)(hd:0≤d∧d≤2)(i:Nat) {c:PN×Int} (hi:((aU m).zip q)[i]? = some c)(t:List (Int×Int)) :
   aB (dU m q d) (toNat ((((aU m).length:Nat):Int) - 0)+1) (t,(i:Int),0) =
     (match nG sJ (eC m q d c) t with | .inl t'=>.inl (t',(i:Int)+1) | .inr e=>.inr ((0,0),e)):=by
 have hR:aN (m.1,m.2)=aU m:=aCs m
 have hpl:(aU m).length=m.2.length:=List.length_map _
 have hlen:=hc.len
 have hz:((aU m).zip q).length=(aU m).length:=by rw [List.length_zip];omega
 obtain⟨hi1,hi2⟩:=List.getElem?_zip_eq_some.1 hi
 have hip:=List.mem_of_getElem? hi1
 have hiq:=hc.ok _ (List.mem_of_getElem? hi2)
 let g:PN×Int→(Int×Int)×Int:=fun e=>nT (pQ c.1 e.1 d).1 (W (c.2*e.2))
 have key:=aZ (S:=dU m q d) (fun t j=>(t,(i:Int),j)) (fun t e=>bif ((g e).2 != 0) then .inr (.inr ((0,0),(g e).2)) else .inl (t++[(g e).1]))
   (fun t=>.inl (t,(i:Int)+1)) (L:=(aU m).zip q) (v:=t) (n:=toNat ((((aU m).length:Nat):Int) - 0)+1) (fun _ _=>True) ?_ (fun _ _ _ _ _ _ _=>trivial) ?_ (by omega) trivial
 · refine Eq.trans key ?_
   rw [rZ (g:=g) (E:=fun e=>(Sum.inr ((0,0),e):(List (Int×Int)×Int)⊕((Int×Int)×Int))) ((aU m).zip q) t]
   have e:nG sJ (eC m q d c) t=nG g ((aU m).zip q) t:=by
     unfold eC
     rw [wA (g:=sJ) (g':=g) (f:=fun e:PN×Int=>((pQ c.1 e.1 d).1,W (c.2*e.2))) (fun c _=>rfl)]
   rw [e]
   cases nG g ((aU m).zip q) t<;>rfl
 · intro j e hj t _
   obtain⟨h1,h2⟩:=List.getElem?_zip_eq_some.1 hj
   have hlt:=(List.getElem?_eq_some_iff.1 h1).1
   have hcp:=List.mem_of_getElem? h1
   have hcq:=hc.ok _ (List.mem_of_getElem? h2)
   obtain⟨b0,bP⟩:=oR (mA hc.v hd hip hcp)
   have hM:kV c.1 e.1 d=pQ c.1 e.1 d:=by rw [aCb,aQx]
   have p0:0≤c.2*e.2:=Int.mul_nonneg hiq.1 hcq.1
   have p1:c.2*e.2≤100*100:=Int.mul_le_mul hiq.2 hcq.2 hcq.1 (by omega)
   have hW:W (c.2*e.2)=c.2*e.2:=aE (by omega) (by omega)
   simp only [dU]
   rw [hR,bY (by omega),cond_true,bB h1,bB h2,bB hi1,bB hi2,hM,b0,aIz bP (by omega)]
   show(bif ((g e).2 != 0) then _ else _)=_
   cases ((g e).2 != 0)<;>rfl
 · intro t _
   simp only [dU]
   rw [hR,cR (by omega),cond_false]
theorem bCy (m:ME)(q:List Int)(d:Int):fX m q d=EnV m q d:=by
 unfold fX EnV
 rw [show fN (m.1,m.2) q d=chD m q d from aSb m q d]
 cases h:(chD m q d != 0) with
 | true=>rfl
 | false =>
   obtain⟨hc,hd⟩:=gK (bne_eq_false_iff_eq.1 h)
   have hn:=hc.n;have hlen:=hc.len
   have hR:aN (m.1,m.2)=aU m:=aCs m
   have hpl:(aU m).length=m.2.length:=List.length_map _
   have hz:((aU m).zip q).length=(aU m).length:=by rw [List.length_zip];omega
   rw [hR,cond_false,cond_false]
   have key:=aZ (S:=eE m q d) (fun t i=>(t,i)) (fun t c=>cZ (fun e=>(((0,0):Int×Int),e)) (nG sJ (eC m q d c) t)) (fun t=>((dA t).1,(dA t).2)) (L:=(aU m).zip q) (v:=[]) (n:=toNat ((((aU m).length:Nat):Int) - 0)+1) (fun _ _=>True) ?_ (fun _ _ _ _ _ _ _=>trivial) ?_ (by omega) trivial
   · refine Eq.trans key ?_
     rw [aCx]
     unfold eD
     have hfl:(((aU m).zip q).flatMap (eC m q d)).length≤9216:=by
       have:∀L:List (PN×Int),(L.flatMap (eC m q d)).length≤96*L.length:=by
         intro L
         induction L with
         | nil=>simp
         | cons c L ih =>
           have:(eC m q d c).length≤96:=by unfold eC;rw [List.length_map];omega
           rw [List.flatMap_cons,List.length_append,List.length_cons];omega
       have:=this ((aU m).zip q)
       omega
     cases hs:nG sJ (((aU m).zip q).flatMap (eC m q d)) [] with
     | inr r=>rfl
     | inl t =>
       obtain⟨hv,hm⟩:=aNc hs hfl
       simp only [cZ,aCf,pO]
       rw [aWk hv hm]
   · intro i c hi t _
     obtain⟨h1,h2⟩:=List.getElem?_zip_eq_some.1 hi
     have hlt:=(List.getElem?_eq_some_iff.1 h1).1
     simp only [eE]
     rw [hR,bY (by omega),cond_true,bCx hc hd i hi t]
     cases nG sJ (eC m q d c) t<;>rfl
   · intro t _
     simp only [eE]
     rw [hR,cR (by omega),cond_false]
theorem aLj {l:List (Int×Int)} (h:∀s∈l,1≤s.2)(j:Int):(0≤j∧j < (l.length:Int))→1≤(l.getD (toNat j) default).2:=fun g=>by
 have hlt:toNat j < l.length:=by omega
 rw [fO,List.getElem?_eq_getElem hlt,Option.getD_some]
 exact h _ (List.getElem_mem hlt)
theorem aLk {l:List (Int×Int)} (h:∀s∈l,1≤s.1)(j:Int):(0≤j∧j < (l.length:Int))→1≤(l.getD (toNat j) default).1:=fun g=>by
 have hlt:toNat j < l.length:=by omega
 rw [fO,List.getElem?_eq_getElem hlt,Option.getD_some]
 exact h _ (List.getElem_mem hlt)
theorem aVd {l:List (Int×Int)} (h:∀s∈l,1≤s.2)(hl:1≤l.length):1≤(l.getD 0 default).2:=aLj h 0 (by omega)
theorem oW {l:List (Int×Int)} (h:∀s∈l,1≤s.1)(hl:1≤l.length):1≤(l.getD 0 default).1:=aLk h 0 (by omega)
theorem oX (a b:Int):a≤iN a b∧b≤iN a b∧(iN a b=a∨iN a b=b):=by unfold iN;split<;>omega
theorem uC (a b:Int):pL a b≤a∧pL a b≤b∧(pL a b=a∨pL a b=b):=by unfold pL;split<;>omega
def F99 (a0:Int)(a1:Int):Int :=
 (W (Int.tdiv (W ((W (a0+a1)) - 1)) a1))
theorem C99 (a0:Int)(a1:Int)(hd:a1≠0):Con Tryz.prog 99 [(iv a0),(iv a1)] [] (iv (F99 a0 a1)) []:=by
 refine aJ Tryz.func99 (by kernel_rfl) fun cx hcx=>?_
 have e:=Eq.refl (F99 a0 a1);conv at e=>rhs;simp only [F99]
 rw [e]
 exact rt [.p (show(a1:Int)≠0 from by first | omega | (rw [aE]<;>omega) | exact dW _)] [] [] hcx (by kernel_rfl)
noncomputable def yC:Code:=(aD [1,1,0,1] [] (aH Tryz.f64) []).1
noncomputable def yD:List K:=(aD [1,1,0,1] [] (aH Tryz.f64) []).2
def uD (a0:List (Int×Int))(a1:List (Int))(v1 v2:Int):LS:=⟨iJ 31 [(1,(.s 1 0 a1.length 1)),(6,(iv v1)),(13,(.s 0 0 a0.length 2)),(14,(iv (a0.length:Int))),(15,(iv v2))],[(.live false true (flat cQ a0)),(.live false true (flat c3 a1))]⟩
def gC (a0:List (Int×Int))(a1:List (Int)):Int×Int→(Int×Int)⊕(Int×Int)
 | (v1,v2) =>
  (bif (decide ((v2:Int) < (a0.length:Int))) then
   (.inl ((iN v1 (a0.getD (toNat v2) default).2),(v2+1)))
  else
   (.inr ((F97 (W (Int.tdiv (cO a1) v1))).1,(F97 (W (Int.tdiv (cO a1) v1))).2)))
theorem aOs (a0:List (Int×Int))(a1:List (Int))(l0:a0.length≤9223372036854775807)(l1:a1.length≤9223372036854775807)(hl:1≤a0.length)(hp:∀s∈a0,1≤s.2) {cx:Cx} (hcx:cx.base=2):∀(n:Nat)(v1 v2:Int),(0≤v2)∧(1≤v1)→toNat ((a0.length:Int) - v2) < n→Aw.Good Tryz.prog none 9 (bodyPost Tryz.prog Tryz.f64 (RR cx (.t (k2 (aB (gC a0 a1) n (v1,v2)))) [] [])) cx [] (.l yC n::yD) (uD a0 a1 v1 v2):=by
 intro n
 induction n with
 | zero=>intro v1 v2 hi hn;exact absurd hn (hO _)
 | succ n ih =>
   intro v1 v2 hi hn
   refine aG ?_
   have hps:=aLj hp v2
   have hmx:=oX v1 (a0.getD (toNat v2) default).2
   cases h0:(decide ((v2:Int) < (a0.length:Int))) with
   | true =>
    have q0:=bZ h0
    have e:=Eq.refl (gC a0 a1 (v1,v2));conv at e=>rhs;simp only [gC,h0,aI]
    rw [aA e]
    refine ba [.d h0,.i v2 (a0.length),.L cA a0 v2 0 2] [] [1,6,13,14,15] [] hcx (m:=n) yC (yD) (uD a0 a1 (iN v1 (a0.getD (toNat v2) default).2) (W (v2+1))) (by kernel_rfl) ?_
    have z0:(W (v2+1))=(v2+1):=aE (by omega) (by omega)
    rw [z0]
    exact ih (iN v1 (a0.getD (toNat v2) default).2) (v2+1) (by refine⟨?_,?_⟩<;>(try simp only [Ls])<;>first | omega | assumption | simp) (by(try simp only [Ls]);omega)
   | false =>
    have q0:=cI h0
    have e:=Eq.refl (gC a0 a1 (v1,v2));conv at e=>rhs;simp only [gC,h0,aI]
    rw [aF,e]
    exact rt [.d h0,.c [1] (aRu a1 (by omega)),.p (show(v1:Int)≠0 from by first | omega | (rw [aE]<;>omega) | exact dW _),.c [] (C97 (W (Int.tdiv (cO a1) v1)))] [] [] hcx (by kernel_rfl)
def gW (a0:List (Int×Int))(a1:List (Int)):Int×Int :=
 (aB (gC a0 a1) (toNat ((a0.length:Int) - 0)+1) ((a0.getD (toNat 0) default).2,0))
theorem aVe (a0:List (Int×Int))(a1:List (Int))(l0:a0.length≤9223372036854775807)(l1:a1.length≤9223372036854775807)(hl:1≤a0.length)(hp:∀s∈a0,1≤s.2):Con Tryz.prog 64 [(.s 0 0 a0.length 2),(.s 1 0 a1.length 1)] [(.live false true (flat cQ a0)),(.live false true (flat c3 a1))] (.t (k2 (gW a0 a1))) []:=by
 refine aJ Tryz.func64 (by kernel_rfl) fun cx hcx=>?_
 have hp0:=aVd hp hl
 have e:=Eq.refl (gW a0 a1);conv at e=>rhs;simp only [gW]
 rw [e]
 refine en [.i 0 (a0.length),.L cA a0 0 1 1] [] [1,6,13,14,15] [] hcx yC (yD) (uD a0 a1 ((a0.getD (toNat 0) default).2) 0) (toNat ((a0.length:Int) - 0)+1) (by kernel_rfl) ?_
 exact aOs a0 a1 l0 l1 hl hp hcx (toNat ((a0.length:Int) - 0)+1) ((a0.getD (toNat 0) default).2) 0 (by refine⟨?_,?_⟩<;>(try simp only [Ls])<;>first | omega | assumption | simp) (by(try simp only [Ls]);omega)
noncomputable def yE:Code:=(aD [1,1,0,1] [] (aH Tryz.f67) []).1
noncomputable def yF:List K:=(aD [1,1,0,1] [] (aH Tryz.f67) []).2
def uE (a0:List (Int×Int))(a1:List (Int))(v1 v2:Int):LS:=⟨iJ 31 [(1,(.s 1 0 a1.length 1)),(6,(iv v1)),(13,(.s 0 0 a0.length 2)),(14,(iv (a0.length:Int))),(15,(iv v2))],[(.live false true (flat cQ a0)),(.live false true (flat c3 a1))]⟩
def gD (a0:List (Int×Int))(a1:List (Int)):Int×Int→(Int×Int)⊕(Int×Int)
 | (v1,v2) =>
  (bif (decide ((v2:Int) < (a0.length:Int))) then
   (.inl ((pL v1 (a0.getD (toNat v2) default).1),(v2+1)))
  else
   (.inr ((F97 (F99 (cO a1) v1)).1,(F97 (F99 (cO a1) v1)).2)))
theorem aOt (a0:List (Int×Int))(a1:List (Int))(l0:a0.length≤9223372036854775807)(l1:a1.length≤9223372036854775807)(hl:1≤a0.length)(hp:∀s∈a0,1≤s.1) {cx:Cx} (hcx:cx.base=2):∀(n:Nat)(v1 v2:Int),(0≤v2)∧(1≤v1)→toNat ((a0.length:Int) - v2) < n→Aw.Good Tryz.prog none 9 (bodyPost Tryz.prog Tryz.f67 (RR cx (.t (k2 (aB (gD a0 a1) n (v1,v2)))) [] [])) cx [] (.l yE n::yF) (uE a0 a1 v1 v2):=by
 intro n
 induction n with
 | zero=>intro v1 v2 hi hn;exact absurd hn (hO _)
 | succ n ih =>
   intro v1 v2 hi hn
   refine aG ?_
   have hps:=aLk hp v2
   have hmx:=uC v1 (a0.getD (toNat v2) default).1
   cases h0:(decide ((v2:Int) < (a0.length:Int))) with
   | true =>
    have q0:=bZ h0
    have e:=Eq.refl (gD a0 a1 (v1,v2));conv at e=>rhs;simp only [gD,h0,aI]
    rw [aA e]
    refine ba [.d h0,.i v2 (a0.length),.L cA a0 v2 0 2] [] [1,6,13,14,15] [] hcx (m:=n) yE (yF) (uE a0 a1 (pL v1 (a0.getD (toNat v2) default).1) (W (v2+1))) (by kernel_rfl) ?_
    have z0:(W (v2+1))=(v2+1):=aE (by omega) (by omega)
    rw [z0]
    exact ih (pL v1 (a0.getD (toNat v2) default).1) (v2+1) (by refine⟨?_,?_⟩<;>(try simp only [Ls])<;>first | omega | assumption | simp) (by(try simp only [Ls]);omega)
   | false =>
    have q0:=cI h0
    have e:=Eq.refl (gD a0 a1 (v1,v2));conv at e=>rhs;simp only [gD,h0,aI]
    rw [aF,e]
    exact rt [.d h0,.c [1] (aRu a1 (by omega)),.c [] (C99 (cO a1) v1  (by omega)),.c [] (C97 (F99 (cO a1) v1))] [] [] hcx (by kernel_rfl)
def gX (a0:List (Int×Int))(a1:List (Int)):Int×Int :=
 (aB (gD a0 a1) (toNat ((a0.length:Int) - 0)+1) ((a0.getD (toNat 0) default).1,0))
theorem aVf (a0:List (Int×Int))(a1:List (Int))(l0:a0.length≤9223372036854775807)(l1:a1.length≤9223372036854775807)(hl:1≤a0.length)(hp:∀s∈a0,1≤s.1):Con Tryz.prog 67 [(.s 0 0 a0.length 2),(.s 1 0 a1.length 1)] [(.live false true (flat cQ a0)),(.live false true (flat c3 a1))] (.t (k2 (gX a0 a1))) []:=by
 refine aJ Tryz.func67 (by kernel_rfl) fun cx hcx=>?_
 have hp0:=oW hp hl
 have e:=Eq.refl (gX a0 a1);conv at e=>rhs;simp only [gX]
 rw [e]
 refine en [.i 0 (a0.length),.L cA a0 0 0 1] [] [1,6,13,14,15] [] hcx yE (yF) (uE a0 a1 ((a0.getD (toNat 0) default).1) 0) (toNat ((a0.length:Int) - 0)+1) (by kernel_rfl) ?_
 exact aOt a0 a1 l0 l1 hl hp hcx (toNat ((a0.length:Int) - 0)+1) ((a0.getD (toNat 0) default).1) 0 (by refine⟨?_,?_⟩<;>(try simp only [Ls])<;>first | omega | assumption | simp) (by(try simp only [Ls]);omega)
def pF (a0:Int×Int)(a1:List (Int)):Int×Int :=
 ((F97 (W (Int.tdiv (cO a1) (F99 a0.2 (W (Int.tdiv (W (Int.tdiv (cO a1) 1048576)) 1048576)))))).1,(F97 (W (Int.tdiv (cO a1) (F99 a0.2 (W (Int.tdiv (W (Int.tdiv (cO a1) 1048576)) 1048576)))))).2)
theorem bCz (a0:Int×Int)(a1:List (Int))(l1:a1.length≤9223372036854775807)(hq:W (Int.tdiv (W (Int.tdiv (cO a1) 1048576)) 1048576)≠0)(hw:F99 a0.2 (W (Int.tdiv (W (Int.tdiv (cO a1) 1048576)) 1048576))≠0):Con Tryz.prog 66 [(.a [(iv a0.1),(iv a0.2)]),(.s 0 0 a1.length 1)] [(.live false true (flat c3 a1))] (.t (k2 (pF a0 a1))) []:=by
 refine aJ Tryz.func66 (by kernel_rfl) fun cx hcx=>?_
 have e:=Eq.refl (pF a0 a1);conv at e=>rhs;simp only [pF]
 rw [e]
 exact rt [.c [0] (aRu a1 (by omega)),.p (show(1048576:Int)≠0 from by decide),.p (show(1048576:Int)≠0 from by decide),.c [] (C99 a0.2 (W (Int.tdiv (W (Int.tdiv (cO a1) 1048576)) 1048576))  hq),.p (show((F99 a0.2 (W (Int.tdiv (W (Int.tdiv (cO a1) 1048576)) 1048576))):Int)≠0 from by first | omega | (rw [aE]<;>omega) | exact dW _),.c [] (C97 (W (Int.tdiv (cO a1) (F99 a0.2 (W (Int.tdiv (W (Int.tdiv (cO a1) 1048576)) 1048576))))))] [] [] hcx (by kernel_rfl)
end Go.Proofs.YtaeagjnpobdglaaGreat
