/-
  Parts of the proofs of the laws: the executor, what functions of the program compute, and that it is what the statements ask. No premise.
-/
import Derived.Test.YtaeagjnpobdglaaGreatVPju4
set_option linter.unusedVariables false
set_option linter.unusedSimpArgs false
set_option maxHeartbeats 4000000
open Int (toNat)
namespace Go.Proofs.YtaeagjnpobdglaaGreat
open Go.Proofs Go.Aw Go.RowKit
set_option maxRecDepth 100000
section
variable {α β : Type} [DecidableEq α]
theorem nR (e:α×β)(l:List (α×β))(k:α)(d:β):aV (e::l) k d=if e.1=k then e.2 else aV l k d:=by
 unfold aV
 simp only [eJ]
 by_cases h:e.1=k
 · rw [if_pos h,if_pos h]
 · rw [if_neg h,if_neg h]
   cases eJ k l<;>rfl
theorem aOa (e:α×β)(l:List (α×β))(k:α)(v:β):cH (e::l) k v=if e.1=k then(k,v)::l else e::cH l k v:=by
 unfold cH
 simp only [eJ]
 by_cases h:e.1=k
 · rw [if_pos h,if_pos h];rfl
 · rw [if_neg h,if_neg h]
   cases eJ k l<;>rfl
theorem aCf:∀(l:List (α×β))(k k':α)(v d:β),aV (cH l k v) k' d=if k=k' then v else aV l k' d
 | [],k,k',v,d=>by
   show aV [(k,v)] k' d=_
   rw [nR]
 | e::l,k,k',v,d=>by
   rw [aOa]
   by_cases h:e.1=k
   · rw [if_pos h,nR,nR]
     by_cases h':k=k'
     · rw [if_pos h',if_pos h']
     · rw [if_neg h',if_neg h',if_neg (fun x=>h' (h▸x))]
   · rw [if_neg h,nR,nR,aCf l k k' v d]
     by_cases h':k=k'
     · rw [if_neg (fun x=>h (x.trans h'.symm)),if_pos h',if_pos h']
     · rw [if_neg h',if_neg h']
theorem aCg (k:α)(d:β):aV ([]:List (α×β)) k d=d:=rfl
end
theorem aIr {S R:Type} [Inhabited R] {f g:S→S⊕R} (I:S→Prop)(hI:∀s,I s→f s=g s)(hp:∀s s',I s→f s=.inl s'→I s'):∀(n:Nat)(s:S),I s→aB f n s=aB g n s:=by
 intro n
 induction n with
 | zero=>intro s _;rfl
 | succ n ih =>
   intro s hs
   have e:=hI s hs
   cases h:f s with
   | inl s'=>rw [aA h,aA (e▸h)];exact ih s' (hp s s' hs h)
   | inr r=>rw [aO h,aO (e▸h)]
theorem bM {α σ R:Type} (g:σ→α→σ):∀(l:List α)(v:σ),iQ (R:=R) (fun v c=>.inl (g v c)) l v=.inl (l.foldl g v)
 | [],_=>rfl
 | c::l,v=>by simp only [iQ,List.foldl_cons];exact bM g l (g v c)
theorem bB {α:Type} [Inhabited α] {L:List α} {i:Nat} {c:α} (h:L[i]? = some c):L.getD (toNat (i:Int)) default=c:=by
 rw [uC,fL,h];rfl
abbrev ME:=List P3×List P3
def tri (f:P3)(p q:Int):Int:=(if f.1=p∧f.2.1=q then 1 else 0)+(if f.2.1=p∧f.2.2=q then 1 else 0)+(if f.2.2=p∧f.1=q then 1 else 0)
def cnt:List P3→Int→Int→Int
 | [],_,_=>0
 | f::l,p,q=>tri f p q+cnt l p q
theorem aRg (f:P3)(p q:Int):0≤tri f p q∧tri f p q≤3:=by unfold tri;split<;>split<;>split<;>omega
theorem aRh (a b c d:Int):(if a=b∧c=d then(1:Int) else 0)=bif (a == b)&&(c == d) then 1 else 0:=by
 rcases Decidable.em (a=b) with h1 | h1<;>rcases Decidable.em (c=d) with h2 | h2
 · rw [if_pos ⟨h1,h2⟩,beq_iff_eq.2 h1,beq_iff_eq.2 h2];rfl
 · rw [if_neg (fun h=>h2 h.2),beq_eq_false_iff_ne.2 h2,Bool.and_false];rfl
 · rw [if_neg (fun h=>h1 h.1),beq_eq_false_iff_ne.2 h1];rfl
 · rw [if_neg (fun h=>h1 h.1),beq_eq_false_iff_ne.2 h1];rfl
theorem bBs (m:ME)(h:m.2.length≤96)(p q:Int):F82 m p q=cnt m.2 p q:=by
 unfold F82
 rw [aZ (fun v i=>(v,i)) (fun v c=>.inl (v+tri c p q)) (fun v=>v) (L:=m.2) (fun i v=>0≤v∧v≤3*(i:Int)) ?_ ?_ ?_ (by omega) ⟨by omega,by omega⟩]
 · have key:∀(l:List P3) (v:Int),l.foldl (fun v c=>v+tri c p q) v=v+cnt l p q:=by
     intro l
     induction l with
     | nil=>intro v;simp [cnt]
     | cons c l ih=>intro v;rw [List.foldl_cons,ih];simp only [cnt];omega
   rw [bM,key];simp [aCc]
 · intro i c hc v hv
   obtain⟨hlt,hce⟩:=List.getElem?_eq_some_iff.1 hc
   have w1:W (v+1)=v+1:=aD (by omega) (by omega)
   have w2:W (v+1+1)=v+1+1:=aD (by omega) (by omega)
   have w3:W (v+1+1+1)=v+1+1+1:=aD (by omega) (by omega)
   simp only [bA]
   rw [bV (by omega),cond_true,bB hc]
   unfold tri
   rw [aRh,aRh,aRh]
   generalize (c.1 == p)=b1,(c.2.1 == q)=b2,(c.2.1 == p)=b3,(c.2.2 == q)=b4,(c.2.2 == p)=b5,(c.1 == q)=b6
   have fin:∀{a b:Int},a=b→(Sum.inl (a,(i:Int)+1):(Int×Int)⊕Int)=Sum.inl (b,((i+1:Nat):Int)):=fun h=>by rw [h];rfl
   cases b1<;>cases b2<;>cases b3<;>cases b4<;>cases b5<;>cases b6<;>simp only [Bool.and_true,Bool.and_false,Bool.and_self,cond_true,cond_false,w1,w2,w3]<;>exact fin (by omega)
 · intro i c hc v v' hv e
   have:=aRg c p q
   obtain rfl:=Sum.inl.inj e
   omega
 · intro v _
   simp only [bA]
   rw [cJ (by omega),cond_false]
def tL (v:List ((Int×Int)×Int))(s:Int×Int):List ((Int×Int)×Int):=cH v s (W (aV v s 0+1))
def aOb (v:List ((Int×Int)×Int))(f:P3):List ((Int×Int)×Int):=tL (tL (tL v (bR f).1) (bR f).2.1) (bR f).2.2
theorem aGf {v:List ((Int×Int)×Int)} {s:Int×Int} (t:Int×Int)(h:0≤aV v s 0∧aV v s 0≤1000):aV (tL v s) t 0=aV v t 0+(if s=t then 1 else 0):=by
 unfold tL
 rw [aCf,aD (by omega) (by omega)]
 by_cases e:s=t
 · subst e;rw [if_pos rfl,if_pos rfl]
 · rw [if_neg e,if_neg e];omega
theorem aRi {v:List ((Int×Int)×Int)} {B:Int} (hB:∀t,0≤aV v t 0∧aV v t 0≤B)(hb:B≤900)(f:P3)(t:Int×Int):aV (aOb v f) t 0=aV v t 0+tri f t.1 t.2:=by
 have g1:∀t,aV (tL v (bR f).1) t 0=aV v t 0+(if(bR f).1=t then 1 else 0):=fun t=>aGf t (by have:=hB (bR f).1;omega)
 have b1:∀t,0≤aV (tL v (bR f).1) t 0∧aV (tL v (bR f).1) t 0≤B+1:=fun t=>by rw [g1];have:=hB t;split<;>omega
 have g2:∀t,aV (tL (tL v (bR f).1) (bR f).2.1) t 0=aV (tL v (bR f).1) t 0+(if(bR f).2.1=t then 1 else 0):=fun t=>aGf t (by have:=b1 (bR f).2.1;omega)
 have b2:∀t,0≤aV (tL (tL v (bR f).1) (bR f).2.1) t 0∧aV (tL (tL v (bR f).1) (bR f).2.1) t 0≤B+2:=fun t=>by rw [g2];have:=b1 t;split<;>omega
 unfold aOb
 rw [aGf t (by have:=b2 (bR f).2.2;omega),g2,g1]
 unfold tri bR
 simp only [Prod.ext_iff]
 omega
theorem aMy:∀(l:List P3)(v:List ((Int×Int)×Int))(B:Int),(∀t,0≤aV v t 0∧aV v t 0≤B)→B+3*l.length≤900→∀t:Int×Int,aV (l.foldl aOb v) t 0=aV v t 0+cnt l t.1 t.2
 | [],v,B,_,_,t=>by simp [cnt]
 | f::l,v,B,hB,hb,t=>by
   simp only [List.length_cons] at hb
   have g:=aRi hB (by omega) f
   rw [List.foldl_cons,aMy l (aOb v f) (B+3) (fun t=>by rw [g];have:=hB t;have:=aRg f t.1 t.2;omega) (by omega) t,g]
   simp only [cnt];omega
theorem bBt (m:ME):yT m=m.2.foldl aOb []:=by
 unfold yT
 rw [aZ (fun v i=>(v,i)) (fun v c=>.inl (aOb v c)) (fun v=>v) (L:=m.2) (fun _ _=>True) ?_ (fun _ _ _ _ _ _ _=>trivial) ?_ (by omega) trivial]
 · rw [bM];rfl
 · intro i c hc v _
   obtain⟨hlt,hce⟩:=List.getElem?_eq_some_iff.1 hc
   simp only [yS]
   rw [bV (by omega),cond_true,bB hc]
   rfl
 · intro v _
   simp only [yS]
   rw [cJ (by omega),cond_false]
theorem bEl (m:ME)(h:m.2.length≤96)(t:Int×Int):aV (yT m) t 0=cnt m.2 t.1 t.2:=by
 rw [bBt,aMy m.2 [] 0 (fun t=>by rw [aCg];omega) (by omega) t,aCg];omega
theorem bBu (x y:Int):W (x+W (-1*y))=W (x - y):=by
 rw [aMf (-1*y)]
 split<;>rw [aMf,aMf]<;>split<;>split<;>omega
theorem aRj (a b:P3):aBk a b=aT a b:=by
 unfold aBk F39 aT
 simp only [bBu]
theorem aX2 (p:PN):nL p=lC p:=by
 unfold nL lC
 rw [aRj,aRj];rfl
theorem bBv (m:ME):F73 m=m.2.foldl (fun v c=>W (v+aDs (eL m c))) 0:=by
 unfold F73
 rw [aZ (fun v i=>(v,i)) (fun v c=>.inl (W (v+aDs c))) (fun v=>v) (L:=fZ m) (fun _ _=>True) ?_ (fun _ _ _ _ _ _ _=>trivial) ?_ (by show _ < toNat ((((fZ m).length:Nat):Int) - 0)+1;omega) trivial]
 · rw [bM,aGd,List.foldl_map];rfl
 · intro i c hc v _
   obtain⟨hlt,hce⟩:=List.getElem?_eq_some_iff.1 hc
   simp only [yU]
   rw [bV (show((i:Nat):Int) < (((fZ (m.1,m.2)).length:Nat):Int) from by show((i:Nat):Int) < (((fZ m).length:Nat):Int);omega),cond_true,show(fZ (m.1,m.2)).getD (toNat (i:Int)) default=c from bB hc]
   rfl
 · intro v _
   simp only [yU]
   rw [cJ (show ¬(((fZ m).length:Nat):Int) < (((fZ (m.1,m.2)).length:Nat):Int) from by show ¬(((fZ m).length:Nat):Int) < (((fZ m).length:Nat):Int);omega),cond_false]
theorem bBw (m:ME):F83 m=m.2.foldl (fun v c=>W (v+aDs (eL m c))) 0:=by
 unfold F83
 rw [aZ (fun v i=>(v,i)) (fun v c=>.inl (W (v+aDs (eL m c)))) (fun v=>v) (L:=m.2) (fun _ _=>True) ?_ (fun _ _ _ _ _ _ _=>trivial) ?_ (by omega) trivial]
 · rw [bM];rfl
 · intro i c hc v _
   obtain⟨hlt,hce⟩:=List.getElem?_eq_some_iff.1 hc
   simp only [yV]
   have hp:xA (m.1,m.2) (i:Int)=eL m c:=by
     unfold xA
     simp only [bB hc];rfl
   rw [bV (by omega),cond_true,hp]
   rfl
 · intro v _
   simp only [yV]
   rw [cJ (by omega),cond_false]
theorem aX3 (m:ME):F73 m=F83 m:=by rw [bBv,bBw]
theorem aX4 (m:ME):∀(n:Nat)(v:List Bool)(i:Int),0≤i→aB (kD m) n (v,(v.length:Int),i)=aB (kF m) n (v,i):=by
 intro n
 induction n with
 | zero=>intro v i _;rfl
 | succ n ih =>
   intro v i hi
   by_cases h:i < (v.length:Int)
   · cases hb:v.getD (toNat i) default with
     | true =>
       have e1:kD m (v,(v.length:Int),i)=.inl (v,(v.length:Int),i+1):=by
         simp only [kD];rw [bV h,cond_true,hb];rfl
       have e2:kF m (v,i)=.inl (v,i+1):=by
         simp only [kF];rw [bV h,cond_true,hb];rfl
       rw [aA e1,aA e2];exact ih v (i+1) (by omega)
     | false =>
       have e1:kD m (v,(v.length:Int),i)=.inr 5:=by
         simp only [kD];rw [bV h,cond_true,hb];rfl
       have e2:kF m (v,i)=.inr 5:=by
         simp only [kF];rw [bV h,cond_true,hb];rfl
       rw [aO e1,aO e2]
   · have e1:kD m (v,(v.length:Int),i)=.inr (bif decide (F83 m≤0) then 8 else 0):=by
       simp only [kD];rw [cJ h,cond_false,show F73 (m.1,m.2)=F83 m from aX3 m]
       cases decide (F83 m≤0)<;>rfl
     have e2:kF m (v,i)=.inr (bif decide (F83 m≤0) then 8 else 0):=by
       simp only [kF];rw [cJ h,cond_false,show F83 (m.1,m.2)=F83 m from rfl]
       cases decide (F83 m≤0)<;>rfl
     rw [aO e1,aO e2]
theorem aX5 (m:ME)(h:m.2.length≤96)(n:Nat)(v:List Bool):aB (gP m) n (v,0)=aB (hO m) n (v,0):=by
 refine aIr (fun s=>0≤s.2) (fun s hs=>?_) (fun s s' hs e=>?_) n (v,0) (Int.le_refl 0)
 · obtain⟨v,i⟩:=s
   simp only at hs
   simp only [gP,hO]
   rw [aX4 m _ v 0 (Int.le_refl 0)]
   have hc:∀t,aV (yT (m.1,m.2)) t 0=cnt m.2 t.1 t.2:=bEl m h
   have he:∀p q,F82 (m.1,m.2) p q=cnt m.2 p q:=bBs m h
   simp only [hc,he,bR,F72]
 · obtain⟨v,i⟩:=s
   simp only [gP] at e
   by_cases hlt:i < (m.2.length:Int)
   · rw [bV hlt,cond_true] at e
     simp only at hs
     have step:∀(b:Bool) (x y:(List Bool×Int)⊕Int),(bif b then x else y)=.inl s'→(∀r,x≠.inl r)→y=.inl s':=fun b x y h hx=>by
       cases b
       · exact h
       · exact absurd h (hx s')
     have e:=step _ _ _ e (fun r h=>by cases h)
     have e:=step _ _ _ e (fun r h=>by cases h)
     have e:=step _ _ _ e (fun r h=>by cases h)
     have e:=step _ _ _ e (fun r h=>by cases h)
     have e:=step _ _ _ e (fun r h=>by cases h)
     have e:=step _ _ _ e (fun r h=>by cases h)
     obtain rfl:=Sum.inl.inj e
     show 0≤i+1
     omega
   · rw [cJ hlt,cond_false] at e;cases e
theorem aUl {n:Nat} (x:Int)(h:n≤64):(!qB x 0 (W (((n:Nat):Int) - 1)))=(decide (x < 0) || decide (x≥((n:Nat):Int))):=by
 rw [aD (by omega) (by omega)]
 unfold qB
 by_cases h1:x < 0
 · rw [bV h1,cJ (by omega)];rfl
 · rw [cJ h1,bV (by omega),cond_true]
   by_cases h2:x≥((n:Nat):Int)
   · rw [bV h2,cJ (by omega)];rfl
   · rw [cJ h2,bV (by omega)];rfl
theorem aX6 (m:ME)(h64:m.1.length≤64)(h:m.2.length≤96)(n:Nat)(v:List Bool):aB (kE m) n (v,0)=aB (fG m) n (v,0):=by
 have main:∀s:List Bool×Int,0≤s.2→kE m s=fG m s∧∀s',kE m s=.inl s'→0≤s'.2:=by
   rintro ⟨v,i⟩ hs
   simp only at hs
   simp only [kE,fG]
   rw [aX5 m h _ v]
   have hp:xA (m.1,m.2) i=eL (m.1,m.2) (m.2.getD (toNat i) default):=rfl
   rw [hp]
   unfold F69
   simp only [aUl _ h64,aX2]
   generalize m.2.getD (toNat i) default=c
   generalize lC (eL (m.1,m.2) c)=q
   generalize ((q.1 == 0)&&((q.2.1 == 0)&&((q.2.2 == 0)&&true)))=b7
   generalize decide (c.1 < 0)=b1,decide (c.1≥(m.1.length:Int))=b2,decide (c.2.1 < 0)=b3,decide (c.2.1≥(m.1.length:Int))=b4,decide (c.2.2 < 0)=b5,decide (c.2.2≥(m.1.length:Int))=b6,decide (i < (m.2.length:Int))=b0
   cases b0
   case false=>exact⟨rfl,fun s' e=>by cases e⟩
   cases b1
   case true=>exact⟨rfl,fun s' e=>by cases e⟩
   cases b2
   case true=>exact⟨rfl,fun s' e=>by cases e⟩
   cases b3
   case true=>exact⟨rfl,fun s' e=>by cases e⟩
   cases b4
   case true=>exact⟨rfl,fun s' e=>by cases e⟩
   cases b5
   case true=>exact⟨rfl,fun s' e=>by cases e⟩
   cases b6
   case true=>exact⟨rfl,fun s' e=>by cases e⟩
   cases b7
   case true=>exact⟨rfl,fun s' e=>by cases e⟩
   exact⟨rfl,fun s' e=>by obtain rfl:=Sum.inl.inj e;show 0≤i+1;omega⟩
 exact aIr (fun s=>0≤s.2) (fun s hs=>(main s hs).1) (fun s s' hs e=>(main s hs).2 s' e) n (v,0) (Int.le_refl 0)
theorem aX7 (a b:P3):(((a.1:Int) == b.1)&&(((a.2.1:Int) == b.2.1)&&(((a.2.2:Int) == b.2.2)&&true)))=decide (a=b):=by
 rw [Bool.eq_iff_iff]
 simp only [Bool.and_eq_true,beq_iff_eq,and_true,decide_eq_true_eq,Prod.ext_iff]
theorem bBx (m:ME)(i:Nat):∀(n k:Nat),i - k < n→(∃j,k≤j∧j < i∧m.1.getD j default=m.1.getD i default)→aB (kQ m) n ((i:Int),(k:Int))=.inr 1:=by
 intro n
 induction n with
 | zero=>intro k hk;omega
 | succ n ih =>
   intro k hk ⟨j,h1,h2,h3⟩
   by_cases e:m.1.getD i default=m.1.getD k default
   · refine aO ?_
     simp only [kQ]
     rw [bV (by omega),cond_true,uC,uC,aX7,bV e];rfl
   · have h:kQ m ((i:Int),(k:Int))=.inl ((i:Int),((k+1:Nat):Int)):=by
       simp only [kQ]
       rw [bV (by omega),cond_true,uC,uC,aX7,cJ e];rfl
     rw [aA h]
     have:j≠k:=fun x=>e (x▸h3.symm)
     exact ih (k+1) (by omega) ⟨j,by omega,h2,h3⟩
theorem bBy (m:ME)(i:Nat):∀(n k:Nat),k≤i→i - k < n→(∀j,k≤j→j < i→m.1.getD j default≠m.1.getD i default)→aB (kQ m) n ((i:Int),(k:Int))=.inl ((i:Int)+1):=by
 intro n
 induction n with
 | zero=>intro k _ hk;omega
 | succ n ih =>
   intro k hki hk hj
   by_cases hlt:k < i
   · have h:kQ m ((i:Int),(k:Int))=.inl ((i:Int),((k+1:Nat):Int)):=by
       simp only [kQ]
       rw [bV (by omega),cond_true,uC,uC,aX7,cJ (fun e=>hj k (Nat.le_refl k) hlt e.symm)];rfl
     rw [aA h]
     exact ih (k+1) (by omega) (by omega) (fun j h1 h2=>hj j (by omega) h2)
   · refine aO ?_
     simp only [kQ]
     rw [cJ (by omega),cond_false]
open Classical in
theorem aK2 (p:P3):F36 p 64=F79 p 64:=by rw [lR,qY]
theorem aX8 (m:ME):∀(n i:Nat)(v:List (P3×Bool)),i≤m.1.length→m.1.length - i < n→(∀q,aV v q false=true↔∃j,j < i∧m.1.getD j default=q) →
   aB (iU m) n (i:Int)=bif (aB (eN m) n (v,(i:Int)) != 0) then aB (eN m) n (v,(i:Int)) else aB (fG m) (toNat ((m.2.length:Int) - 0)+1) ((List.replicate (toNat (m.1.length:Int)) false),0):=by
 intro n
 induction n with
 | zero=>intro i v _ h;omega
 | succ n ih =>
   intro i v hi hn hv
   by_cases hlt:i < m.1.length
   · have hw:((i:Nat):Int) < (m.1.length:Int):=by omega
     cases hr:F36 (m.1.getD i default) 64 with
     | false =>
       have e1:eN m (v,(i:Int))=.inr 1:=by
         simp only [eN];rw [bV hw,cond_true,uC,hr];rfl
       have e2:iU m (i:Int)=.inr 1:=by
         simp only [iU];rw [bV hw,cond_true,uC,←aK2,hr];rfl
       rw [aO e1,aO e2];rfl
     | true =>
       cases hg:aV v (m.1.getD i default) false with
       | true =>
         have e1:eN m (v,(i:Int))=.inr 1:=by
           simp only [eN];rw [bV hw,cond_true,uC,hr,hg];rfl
         obtain⟨j,h1,h2⟩:=(hv _).1 hg
         have e2:iU m (i:Int)=.inr 1:=by
           simp only [iU];rw [bV hw,cond_true,uC,←aK2,hr]
           exact bBx m i _ 0 (by omega) ⟨j,by omega,h1,h2⟩
         rw [aO e1,aO e2];rfl
       | false =>
         have e1:eN m (v,(i:Int))=.inl (cH v (m.1.getD i default) true,((i+1:Nat):Int)):=by
           simp only [eN];rw [bV hw,cond_true,uC,hr,hg];rfl
         have e2:iU m (i:Int)=.inl ((i+1:Nat):Int):=by
           simp only [iU];rw [bV hw,cond_true,uC,←aK2,hr]
           exact bBy m i _ 0 (by omega) (by omega) (fun j _ h2 h3=>by
             have:=(hv _).2 ⟨j,h2,h3⟩
             rw [hg] at this;cases this)
         rw [aA e1,aA e2]
         refine ih (i+1) _ (by omega) (by omega) (fun q=>?_)
         rw [aCf]
         by_cases e:m.1.getD i default=q
         · rw [if_pos e];exact⟨fun _=>⟨i,by omega,e⟩,fun _=>rfl⟩
         · rw [if_neg e,hv]
           constructor
           · rintro ⟨j,h1,h2⟩;exact⟨j,by omega,h2⟩
           · rintro ⟨j,h1,h2⟩
             refine⟨j,?_,h2⟩
             rcases Nat.lt_or_ge j i with h | h
             · exact h
             · have:j=i:=by omega
               exact absurd (this▸h2) e
   · have hw:¬((i:Nat):Int) < (m.1.length:Int):=by omega
     have e1:eN m (v,(i:Int))=.inr 0:=by
       simp only [eN];rw [cJ hw,cond_false]
     have e2:iU m (i:Int)=.inr (aB (fG m) (toNat ((m.2.length:Int) - 0)+1) ((List.replicate (toNat (m.1.length:Int)) false),0)):=by
       simp only [iU];rw [cJ hw,cond_false]
     rw [aO e1,aO e2];rfl
theorem aK3 (m:ME):fU m=zM m:=by
 unfold fU zM
 by_cases h1:(m.1.length:Int) > 64
 · rw [bV h1];rfl
 · rw [cJ h1,cond_false,cond_false,show F78 (m.2.length:Int) 1 96=qB (m.2.length:Int) 1 96 from rfl]
   cases h2:(!qB (m.2.length:Int) 1 96) with
   | true=>rfl
   | false =>
     rw [cond_false,cond_false]
     have g:=hG h2
     rw [aX6 m (by omega) (by omega)]
     have hp:=aX8 m (toNat ((m.1.length:Int) - 0)+1) 0 [] (by omega) (by omega) (fun q=>by
       rw [aCg]
       constructor
       · intro h;cases h
       · rintro ⟨j,h,_⟩;omega)
     exact hp.symm
end Go.Proofs.YtaeagjnpobdglaaGreat
namespace Go.Proofs.YtaeagjnpobdglaaGreat
open Go.Proofs Go.Aw Go.RowKit
set_option maxRecDepth 100000
theorem okl (m:ME)(h64:m.1.length≤64):∀(n:Nat)(v:List Bool)(i:Int),0≤i→toNat ((m.2.length:Int) - i) < n→aB (kE m) n (v,i)=0→∀j:Int,i≤j→j < (m.2.length:Int)→F69 m (m.2.getD (toNat j) default)=0:=by
 intro n
 induction n with
 | zero=>intro v i _ h;omega
 | succ n ih =>
   intro v i hi hn h j h1 h2
   have hlt:i < (m.2.length:Int):=by omega
   cases hf:((F69 (m.1,m.2) (m.2.getD (toNat i) default):Int) != 0) with
   | true =>
     have e:kE m (v,i)=.inr (F69 (m.1,m.2) (m.2.getD (toNat i) default)):=by
       simp only [kE];rw [bV hlt,cond_true,hf,cond_true]
     rw [aO e] at h
     exact absurd h (bne_iff_ne.1 hf)
   | false =>
     by_cases hj:j=i
     · subst hj;exact bne_eq_false_iff_eq.1 hf
     · have e:kE m (v,i)=.inl ((((v.set (toNat (m.2.getD (toNat i) default).1) true).set (toNat (m.2.getD (toNat i) default).2.1) true).set (toNat (m.2.getD (toNat i) default).2.2) true),(i+1)):=by
         simp only [kE];rw [bV hlt,cond_true,hf,cond_false]
       rw [aA e] at h
       exact ih _ (i+1) (by omega) (by omega) h j (by omega) h2
theorem iA {m:ME} (h:fU m=0):m.1.length≤64∧1≤m.2.length∧m.2.length≤96∧F68 m=0∧∀j:Int,0≤j→j < (m.2.length:Int)→F69 m (m.2.getD (toNat j) default)=0:=by
 unfold fU at h
 by_cases h1:(m.1.length:Int) > 64
 · rw [bV h1,cond_true] at h;exact absurd h (by decide)
 · rw [cJ h1,cond_false] at h
   cases h2:(!qB (m.2.length:Int) 1 96) with
   | true=>rw [h2,cond_true] at h;exact absurd h (by decide)
   | false =>
     have g:=hG h2
     rw [h2,cond_false] at h
     cases h3:((F68 (m.1,m.2):Int) != 0) with
     | true=>rw [h3,cond_true] at h;exact absurd h (bne_iff_ne.1 h3)
     | false =>
       rw [h3,cond_false] at h
       exact⟨by omega,by omega,by omega,bne_eq_false_iff_eq.1 h3,fun j h1 h2=>okl m (by omega) _ _ 0 (Int.le_refl 0) (by omega) h j h1 h2⟩
theorem qI {m:ME} (h:((fU m:Int) != 0)=false):lW m m.2.length∧m.2.length≤96:=by
 obtain⟨h1,_,h3,_,h4⟩:=iA (bne_eq_false_iff_eq.1 h)
 exact⟨fun i g1 g2=>mL (m:=m) (by rw [h4 i g1 g2];rfl) h1,h3⟩
def bF (a0:Zm):(List (Zt×Zt×Zt))×Int :=
 (bif (((fU (a0.1,a0.2)):Int) != 0) then
  (([]:List (Zt×Zt×Zt)),(fU (a0.1,a0.2)))
 else
  ((fZ (a0.1,a0.2)),0))
theorem C90 (a0:Zm)(l0_1:a0.1.length≤9223372036854775807)(l0_2:a0.2.length≤9223372036854775807):Con Tryz.prog 90 [(.a [(.s 0 0 a0.1.length 3),(.s 1 0 a0.2.length 3)])] [(.live false true (flat dU a0.1)),(.live false true (flat eZ a0.2))] (.t [(.s 2 0 (bF a0).1.length 9),(iv (bF a0).2)]) [(.live true true (flat dK (bF a0).1))]:=by
 refine aK Tryz.func90 (by kernel_rfl) fun cx hcx=>?_
 let t0:List (St Tryz.prog):=[.c [0,1] (C35 (a0.1,a0.2) (by(try simp only [Lt]);omega) (by(try simp only [Lt]);omega))]
 cases h0:(((fU (a0.1,a0.2)):Int) != 0) with
 | true =>
  have q0:=bne_iff_ne.1 h0
  have e:=Eq.refl (bF a0);conv at e=>rhs;simp only [bF,h0,aI]
  rw [e]
  exact rt (t0++[.d h0]) [.slot 2 9] [3] hcx (by kernel_rfl)
 | false =>
  have q0:=bne_eq_false_iff_eq.1 h0
  have e:=Eq.refl (bF a0);conv at e=>rhs;simp only [bF,h0,aI]
  rw [e]
  exact rt (t0++[.d h0,.c [0,1] (bBg (a0.1,a0.2) (by(try simp only [Lt]);omega) (by(try simp only [Lt]);omega) (qI h0).1 (qI h0).2)]) [] [3] hcx (by kernel_rfl)
theorem aV4 (m:ME):bF m=bif ((fU m:Int) != 0) then([],fU m) else(m.2.map (eL m),0):=by
 unfold bF
 rw [show fZ (m.1,m.2)=m.2.map (eL m) from aGd m]
theorem rI (m:ME):(bF m).1.length≤96:=by
 rw [aV4]
 cases h:((fU m:Int) != 0) with
 | true=>exact Nat.zero_le _
 | false=>rw [cond_false];show(m.2.map _).length≤96;rw [List.length_map];exact(qI h).2
theorem bBz {R:Type} [Inhabited R] {p:Int→Prop} [DecidablePred p] {G:Int→R} {M:Int} {S:Int×Int→(Int×Int)⊕R} (hS:∀k b,0≤k→0 < b→k+b≤M→S (k,b)=if p (k+b) then .inl (k+b,b / 2) else .inl (k,b / 2))(h0:∀k,0≤k→k≤M→S (k,0)=.inr (G k)) :
   ∀(j f:Nat) (k:Int),j+2≤f→0≤k→k+2*2 ^ j≤M→p k→¬p (k+2*2 ^ j)→∃r,0≤r∧r≤M∧p r∧¬p (r+1)∧aB S f (k,2 ^ j)=G r:=by
 intro j
 induction j with
 | zero =>
   intro f k hf hk hb h1 h2
   obtain⟨f,rfl⟩:∃g,f=g+2:=⟨f - 2,by omega⟩
   simp only [Int.pow_zero] at h2 hb ⊢
   have hs:=hS k 1 hk (by omega) (by omega)
   by_cases hc:p (k+1)
   · rw [if_pos hc] at hs
     rw [aA hs,show((1:Int) / 2)=0 by omega,aO (h0 _ (by omega) (by omega))]
     exact⟨k+1,by omega,by omega,hc,by rw [show k+1+1=k+2*1 by omega];exact h2,rfl⟩
   · rw [if_neg hc] at hs
     rw [aA hs,show((1:Int) / 2)=0 by omega,aO (h0 _ hk (by omega))]
     exact⟨k,hk,by omega,h1,hc,rfl⟩
 | succ j ih =>
   intro f k hf hk hb h1 h2
   obtain⟨f,rfl⟩:∃g,f=g+1:=⟨f - 1,by omega⟩
   have hp:(0:Int) < 2 ^ j:=Int.pow_pos (by omega)
   rw [Int.pow_succ] at h2 hb ⊢
   have hs:=hS k (2 ^ j*2) hk (by omega) (by omega)
   have hd:(2:Int) ^ j*2 / 2=2 ^ j:=Int.mul_ediv_cancel _ (by omega)
   rw [hd] at hs
   by_cases hc:p (k+2 ^ j*2)
   · rw [if_pos hc] at hs
     rw [aA hs]
     refine ih f _ (by omega) (by omega) (by omega) hc ?_
     rw [show k+2 ^ j*2+2*2 ^ j=k+2*((2:Int) ^ j*2) by omega];exact h2
   · rw [if_neg hc] at hs
     rw [aA hs]
     refine ih f _ (by omega) hk (by omega) h1 ?_
     rw [show k+2*(2:Int) ^ j=k+2 ^ j*2 by omega];exact hc
theorem bB0 {R:Type} [Inhabited R] {p:Int→Prop} [DecidablePred p] {G:Int→R} {M:Int} {S:Int×Int→(Int×Int)⊕R} (hS:∀a b,0≤a→a < b→b≤M→S (a,b)=if p ((a+b+1) / 2) then .inl ((a+b+1) / 2,b) else .inl (a,(a+b+1) / 2 - 1))(h0:∀a,0≤a→a≤M→S (a,a)=.inr (G a)) :
   ∀(f:Nat) (a b:Int),0≤a→a≤b→b≤M→b - a < f→p a→¬p (b+1)→∃r,0≤r∧r≤M∧p r∧¬p (r+1)∧aB S f (a,b)=G r:=by
 intro f
 induction f with
 | zero=>intro a b _ h _ hf;omega
 | succ f ih =>
   intro a b ha hab hb hf h1 h2
   by_cases he:a=b
   · subst he
     rw [aO (h0 a ha hb)];exact⟨a,ha,hb,h1,h2,rfl⟩
   · have hs:=hS a b ha (by omega) hb
     by_cases hc:p ((a+b+1) / 2)
     · rw [if_pos hc] at hs
       rw [aA hs]
       exact ih _ _ (by omega) (by omega) hb (by omega) hc h2
     · rw [if_neg hc] at hs
       rw [aA hs]
       refine ih _ _ ha (by omega) (by omega) (by omega) h1 ?_
       rw [show(a+b+1) / 2 - 1+1=(a+b+1) / 2 by omega];exact hc
theorem um1 {a b:Int} (h:0≤a∧a≤b∧b≤1099511627776):IntKind.wrap .u64 (Int.tdiv (IntKind.wrap .u64 ((IntKind.wrap .u64 (a+b))+1)) 2)=(a+b+1) / 2:=by
 rw [vI (a+b),Int.emod_eq_of_lt (a:=a+b) (by omega) (by omega),vI (a+b+1),Int.emod_eq_of_lt (a:=a+b+1) (by omega) (by omega),Int.tdiv_eq_ediv_of_nonneg (by omega),vI,Int.emod_eq_of_lt (by omega) (by omega)]
theorem um2 {a b:Int} (h:0≤a∧a < b∧b≤1099511627776):IntKind.wrap .u64 ((IntKind.wrap .u64 (Int.tdiv (IntKind.wrap .u64 ((IntKind.wrap .u64 (a+b))+1)) 2)) - 1)=(a+b+1) / 2 - 1:=by
 rw [um1 (by omega),vI,Int.emod_eq_of_lt (by omega) (by omega)]
theorem aUm {b:Int} (h:0≤b∧b≤1099511627776):W (Int.tdiv b 2)=b / 2:=by rw [Int.tdiv_eq_ediv_of_nonneg (by omega),aD (by omega) (by omega)]
noncomputable def aMz:Code:=(aE [1,1,1,1,1,0,1] [] (aH Tryz.f56) []).1
noncomputable def aM0:List K:=(aE [1,1,1,1,1,0,1] [] (aH Tryz.f56) []).2
def aGg (a0:Int)(v1 v2:Int):LS:=⟨iJ 70 [(2,(.p 0 0)),(4,(iv (iG a0))),(5,(iv (W ((W (a0 - (W ((iG a0)*(iG a0)))))*2 ^ (min (toNat 40) 64))))),(6,(iv v1)),(7,(iv v2))],[(.live true false [(iv 0),(iv 0)])]⟩
def mM (a0:Int):Int×Int→(Int×Int)⊕((Int×Int)×Int)
 | (v1,v2) =>
  (bif (decide ((v2:Int) > 0)) then
   (bif (decide (((W ((W ((W ((W (2*(iG a0)))*(W (v1+v2))))*2 ^ (min (toNat 20) 64)))+(W ((W (v1+v2))*(W (v1+v2)))))):Int)≤(W ((W (a0 - (W ((iG a0)*(iG a0)))))*2 ^ (min (toNat 40) 64))))) then
    (.inl ((W (v1+v2)),(W (Int.tdiv v2 2))))
   else
    (.inl (v1,(W (Int.tdiv v2 2)))))
  else
   (bif (((W ((W ((W ((W (2*(iG a0)))*v1))*2 ^ (min (toNat 20) 64)))+(W (v1*v1)))):Int) == (W ((W (a0 - (W ((iG a0)*(iG a0)))))*2 ^ (min (toNat 40) 64)))) then
    (.inr ((qE (W ((W ((iG a0)*2 ^ (min (toNat 20) 64)))+v1)) (W ((W ((iG a0)*2 ^ (min (toNat 20) 64)))+v1))).1,(qE (W ((W ((iG a0)*2 ^ (min (toNat 20) 64)))+v1)) (W ((W ((iG a0)*2 ^ (min (toNat 20) 64)))+v1))).2))
   else
    (.inr ((qE (W ((W ((iG a0)*2 ^ (min (toNat 20) 64)))+v1)) (W ((W ((W ((iG a0)*2 ^ (min (toNat 20) 64)))+v1))+1))).1,(qE (W ((W ((iG a0)*2 ^ (min (toNat 20) 64)))+v1)) (W ((W ((W ((iG a0)*2 ^ (min (toNat 20) 64)))+v1))+1))).2))))
theorem bB1 (a0:Int) {cx:Cx} (hcx:cx.base=0):∀(n:Nat)(v1 v2:Int),(0≤v2)∧(v2≤1099511627776)→toNat v2 < n→Aw.Good Tryz.prog none 9 (bodyPost Tryz.prog Tryz.f56 (RR cx (.t [(.a (k2 (aB (mM a0) n (v1,v2)).1)),(iv (aB (mM a0) n (v1,v2)).2)]) [] [])) cx [] (.l aMz n::aM0) (aGg a0 v1 v2):=by
 intro n
 induction n with
 | zero=>intro v1 v2 hi hn;exact absurd hn (iF _)
 | succ n ih =>
   intro v1 v2 hi hn
   refine aG ?_
   have hw1:=aUm (b:=v2) (by omega)
   cases h0:(decide ((v2:Int) > 0)) with
   | true =>
    have q0:=bY h0
    let t1:List (St Tryz.prog):=[.d h0,.p (show 0≤(20:Int) from by decide)]
    cases h1:(decide (((W ((W ((W ((W (2*(iG a0)))*(W (v1+v2))))*2 ^ (min (toNat 20) 64)))+(W ((W (v1+v2))*(W (v1+v2)))))):Int)≤(W ((W (a0 - (W ((iG a0)*(iG a0)))))*2 ^ (min (toNat 40) 64))))) with
    | true =>
     have q1:=bY h1
     have e:=Eq.refl (mM a0 (v1,v2));conv at e=>rhs;simp only [mM,h0,h1,aI]
     rw [aA e]
     refine ba (t1++[.d h1,.p (show(2:Int)≠0 from by decide)]) [] [2,4,5,6,7] [0] hcx (m:=n) aMz (aM0) (aGg a0 (W (v1+v2)) (W (Int.tdiv v2 2))) (by kernel_rfl) ?_
     exact ih (W (v1+v2)) (W (Int.tdiv v2 2)) (by refine⟨?_,?_⟩<;>(try simp only [Ls])<;>first | omega | assumption | simp) (by(try simp only [Ls]);omega)
    | false =>
     have q1:=cG h1
     have e:=Eq.refl (mM a0 (v1,v2));conv at e=>rhs;simp only [mM,h0,h1,aI]
     rw [aA e]
     refine ba (t1++[.d h1,.p (show(2:Int)≠0 from by decide)]) [] [2,4,5,6,7] [0] hcx (m:=n) aMz (aM0) (aGg a0 v1 (W (Int.tdiv v2 2))) (by kernel_rfl) ?_
     exact ih v1 (W (Int.tdiv v2 2)) (by refine⟨?_,?_⟩<;>(try simp only [Ls])<;>first | omega | assumption | simp) (by(try simp only [Ls]);omega)
   | false =>
    have q0:=cG h0
    let t1:List (St Tryz.prog):=[.d h0,.p (show 0≤(20:Int) from by decide),.p (show 0≤(20:Int) from by decide)]
    cases h1:(((W ((W ((W ((W (2*(iG a0)))*v1))*2 ^ (min (toNat 20) 64)))+(W (v1*v1)))):Int) == (W ((W (a0 - (W ((iG a0)*(iG a0)))))*2 ^ (min (toNat 40) 64)))) with
    | true =>
     have q1:=eq_of_beq h1
     have e:=Eq.refl (mM a0 (v1,v2));conv at e=>rhs;simp only [mM,h0,h1,aI]
     rw [aF,e]
     exact rt (t1++[.d h1,.c [] (C48 (W ((W ((iG a0)*2 ^ (min (toNat 20) 64)))+v1)) (W ((W ((iG a0)*2 ^ (min (toNat 20) 64)))+v1)))]) [] [] hcx (by kernel_rfl)
    | false =>
     have q1:=ne_of_beq_false h1
     have e:=Eq.refl (mM a0 (v1,v2));conv at e=>rhs;simp only [mM,h0,h1,aI]
     rw [aF,e]
     exact rt (t1++[.d h1,.c [] (C48 (W ((W ((iG a0)*2 ^ (min (toNat 20) 64)))+v1)) (W ((W ((W ((iG a0)*2 ^ (min (toNat 20) 64)))+v1))+1)))]) [] [] hcx (by kernel_rfl)
def xB (a0:Int):(Int×Int)×Int :=
 (bif (decide ((a0:Int) < 0)) then
  ((0,0),1)
 else
  (bif (decide ((a0:Int) > 1099511627776)) then
   ((0,0),1)
  else
   (aB (mM a0) (toNat 524288+1) (0,524288))))
theorem C56 (a0:Int):Con Tryz.prog 56 [(iv a0)] [] (.t [(.a (k2 (xB a0).1)),(iv (xB a0).2)]) []:=by
 refine aK Tryz.func56 (by kernel_rfl) fun cx hcx=>?_
 cases h0:(decide ((a0:Int) < 0)) with
 | true =>
  have q0:=bY h0
  have e:=Eq.refl (xB a0);conv at e=>rhs;simp only [xB,h0,aI]
  rw [e]
  exact rt [.d h0] [] [] hcx (by kernel_rfl)
 | false =>
  have q0:=cG h0
  let t1:List (St Tryz.prog):=[.d h0]
  cases h1:(decide ((a0:Int) > 1099511627776)) with
  | true =>
   have q1:=bY h1
   have e:=Eq.refl (xB a0);conv at e=>rhs;simp only [xB,h0,h1,aI]
   rw [e]
   exact rt (t1++[.d h1]) [] [] hcx (by kernel_rfl)
  | false =>
   have q1:=cG h1
   have e:=Eq.refl (xB a0);conv at e=>rhs;simp only [xB,h0,h1,aI]
   rw [e]
   refine en (t1++[.d h1,.c [] (C89 a0),.p (show 0≤(40:Int) from by decide)]) [] [2,4,5,6,7] [0] hcx aMz (aM0) (aGg a0 0 524288) (toNat 524288+1) (by kernel_rfl) ?_
   exact bB1 a0 hcx (toNat 524288+1) 0 524288 (by refine⟨?_,?_⟩<;>(try simp only [Ls])<;>first | omega | assumption | simp) (by(try simp only [Ls]);omega)
noncomputable def xC:Code:=(aE [1,1,1,1,0] [] (aH Tryz.f114) []).1
noncomputable def xD:List K:=(aE [1,1,1,1,0] [] (aH Tryz.f114) []).2
def rJ (a0:Int)(v2 v3:Int):LS:=⟨iJ 82 [(2,(.p 0 0)),(4,(.v (.int .u64 (fN (IntKind.wrap .u64 a0) 1099511627776).1))),(5,(.v (.int .u64 (fN (IntKind.wrap .u64 a0) 1099511627776).2))),(6,(.v (.int .u64 v2))),(7,(.v (.int .u64 v3)))],[(.live true false [(iv 0),(iv 0)])]⟩
def eP (a0:Int):Int×Int→(Int×Int)⊕((Int×Int)×Int)
 | (v2,v3) =>
  (bif (decide ((v2:Int) < v3)) then
   (bif (decide (((fN (IntKind.wrap .u64 (Int.tdiv (IntKind.wrap .u64 ((IntKind.wrap .u64 (v2+v3))+1)) 2)) (IntKind.wrap .u64 (Int.tdiv (IntKind.wrap .u64 ((IntKind.wrap .u64 (v2+v3))+1)) 2))).1:Int) < (fN (IntKind.wrap .u64 a0) 1099511627776).1)) then
    (.inl ((IntKind.wrap .u64 (Int.tdiv (IntKind.wrap .u64 ((IntKind.wrap .u64 (v2+v3))+1)) 2)),v3))
   else
    (bif (((fN (IntKind.wrap .u64 (Int.tdiv (IntKind.wrap .u64 ((IntKind.wrap .u64 (v2+v3))+1)) 2)) (IntKind.wrap .u64 (Int.tdiv (IntKind.wrap .u64 ((IntKind.wrap .u64 (v2+v3))+1)) 2))).1:Int) == (fN (IntKind.wrap .u64 a0) 1099511627776).1) then
     (bif (decide (((fN (IntKind.wrap .u64 (Int.tdiv (IntKind.wrap .u64 ((IntKind.wrap .u64 (v2+v3))+1)) 2)) (IntKind.wrap .u64 (Int.tdiv (IntKind.wrap .u64 ((IntKind.wrap .u64 (v2+v3))+1)) 2))).2:Int)≤(fN (IntKind.wrap .u64 a0) 1099511627776).2)) then
      (.inl ((IntKind.wrap .u64 (Int.tdiv (IntKind.wrap .u64 ((IntKind.wrap .u64 (v2+v3))+1)) 2)),v3))
     else
      (.inl (v2,(IntKind.wrap .u64 ((IntKind.wrap .u64 (Int.tdiv (IntKind.wrap .u64 ((IntKind.wrap .u64 (v2+v3))+1)) 2)) - 1)))))
    else
     (.inl (v2,(IntKind.wrap .u64 ((IntKind.wrap .u64 (Int.tdiv (IntKind.wrap .u64 ((IntKind.wrap .u64 (v2+v3))+1)) 2)) - 1))))))
  else
   (bif (((fN v2 v2).1:Int) == (fN (IntKind.wrap .u64 a0) 1099511627776).1) then
    (bif (((fN v2 v2).2:Int) == (fN (IntKind.wrap .u64 a0) 1099511627776).2) then
     (.inr ((iO (W v2) (W v2)).1,(iO (W v2) (W v2)).2))
    else
     (.inr ((iO (W v2) (W ((W v2)+1))).1,(iO (W v2) (W ((W v2)+1))).2)))
   else
    (.inr ((iO (W v2) (W ((W v2)+1))).1,(iO (W v2) (W ((W v2)+1))).2))))
theorem aX9 (a0:Int) {cx:Cx} (hcx:cx.base=0):∀(n:Nat)(v2 v3:Int),(0≤v2)∧(0≤v2)∧(v2≤v3)∧(v3≤1099511627776)→toNat (v3 - v2) < n→Aw.Good Tryz.prog none 9 (bodyPost Tryz.prog Tryz.f114 (RR cx (.t [(.a (k2 (aB (eP a0) n (v2,v3)).1)),(iv (aB (eP a0) n (v2,v3)).2)]) [] [])) cx [] (.l xC n::xD) (rJ a0 v2 v3):=by
 intro n
 induction n with
 | zero=>intro v2 v3 hi hn;exact absurd hn (iF _)
 | succ n ih =>
   intro v2 v3 hi hn
   refine aG ?_
   have hw1:=um1 (a:=v2) (b:=v3) (by omega)
   have hw2:=fun h=>um2 (a:=v2) (b:=v3) h
   cases h0:(decide ((v2:Int) < v3)) with
   | true =>
    have q0:=bY h0
    let t1:List (St Tryz.prog):=[.d h0,.p (show(2:Int)≠0 from by decide),.c [] (aUc (IntKind.wrap .u64 (Int.tdiv (IntKind.wrap .u64 ((IntKind.wrap .u64 (v2+v3))+1)) 2)) (IntKind.wrap .u64 (Int.tdiv (IntKind.wrap .u64 ((IntKind.wrap .u64 (v2+v3))+1)) 2)))]
    cases h1:(decide (((fN (IntKind.wrap .u64 (Int.tdiv (IntKind.wrap .u64 ((IntKind.wrap .u64 (v2+v3))+1)) 2)) (IntKind.wrap .u64 (Int.tdiv (IntKind.wrap .u64 ((IntKind.wrap .u64 (v2+v3))+1)) 2))).1:Int) < (fN (IntKind.wrap .u64 a0) 1099511627776).1)) with
    | true =>
     have q1:=bY h1
     have e:=Eq.refl (eP a0 (v2,v3));conv at e=>rhs;simp only [eP,h0,h1,aI]
     rw [aA e]
     refine ba (t1++[.d h1]) [] [2,4,5,6,7] [0] hcx (m:=n) xC (xD) (rJ a0 (IntKind.wrap .u64 (Int.tdiv (IntKind.wrap .u64 ((IntKind.wrap .u64 (v2+v3))+1)) 2)) v3) (by kernel_rfl) ?_
     exact ih (IntKind.wrap .u64 (Int.tdiv (IntKind.wrap .u64 ((IntKind.wrap .u64 (v2+v3))+1)) 2)) v3 (by refine⟨?_,?_,?_,?_⟩<;>(try simp only [Ls])<;>first | omega | assumption | simp) (by(try simp only [Ls]);omega)
    | false =>
     have q1:=cG h1
     let t2:List (St Tryz.prog):=(t1++[.d h1])
     cases h2:(((fN (IntKind.wrap .u64 (Int.tdiv (IntKind.wrap .u64 ((IntKind.wrap .u64 (v2+v3))+1)) 2)) (IntKind.wrap .u64 (Int.tdiv (IntKind.wrap .u64 ((IntKind.wrap .u64 (v2+v3))+1)) 2))).1:Int) == (fN (IntKind.wrap .u64 a0) 1099511627776).1) with
     | true =>
      have q2:=eq_of_beq h2
      let t3:List (St Tryz.prog):=(t2++[.d h2])
      cases h3:(decide (((fN (IntKind.wrap .u64 (Int.tdiv (IntKind.wrap .u64 ((IntKind.wrap .u64 (v2+v3))+1)) 2)) (IntKind.wrap .u64 (Int.tdiv (IntKind.wrap .u64 ((IntKind.wrap .u64 (v2+v3))+1)) 2))).2:Int)≤(fN (IntKind.wrap .u64 a0) 1099511627776).2)) with
      | true =>
       have q3:=bY h3
       have e:=Eq.refl (eP a0 (v2,v3));conv at e=>rhs;simp only [eP,h0,h1,h2,h3,aI]
       rw [aA e]
       refine ba (t3++[.d h3]) [] [2,4,5,6,7] [0] hcx (m:=n) xC (xD) (rJ a0 (IntKind.wrap .u64 (Int.tdiv (IntKind.wrap .u64 ((IntKind.wrap .u64 (v2+v3))+1)) 2)) v3) (by kernel_rfl) ?_
       exact ih (IntKind.wrap .u64 (Int.tdiv (IntKind.wrap .u64 ((IntKind.wrap .u64 (v2+v3))+1)) 2)) v3 (by refine⟨?_,?_,?_,?_⟩<;>(try simp only [Ls])<;>first | omega | assumption | simp) (by(try simp only [Ls]);omega)
      | false =>
       have q3:=cG h3
       have e:=Eq.refl (eP a0 (v2,v3));conv at e=>rhs;simp only [eP,h0,h1,h2,h3,aI]
       rw [aA e]
       refine ba (t3++[.d h3]) [] [2,4,5,6,7] [0] hcx (m:=n) xC (xD) (rJ a0 v2 (IntKind.wrap .u64 ((IntKind.wrap .u64 (Int.tdiv (IntKind.wrap .u64 ((IntKind.wrap .u64 (v2+v3))+1)) 2)) - 1))) (by kernel_rfl) ?_
       exact ih v2 (IntKind.wrap .u64 ((IntKind.wrap .u64 (Int.tdiv (IntKind.wrap .u64 ((IntKind.wrap .u64 (v2+v3))+1)) 2)) - 1)) (by refine⟨?_,?_,?_,?_⟩<;>(try simp only [Ls])<;>first | omega | assumption | simp) (by(try simp only [Ls]);omega)
     | false =>
      have q2:=ne_of_beq_false h2
      have e:=Eq.refl (eP a0 (v2,v3));conv at e=>rhs;simp only [eP,h0,h1,h2,aI]
      rw [aA e]
      refine ba (t2++[.d h2]) [] [2,4,5,6,7] [0] hcx (m:=n) xC (xD) (rJ a0 v2 (IntKind.wrap .u64 ((IntKind.wrap .u64 (Int.tdiv (IntKind.wrap .u64 ((IntKind.wrap .u64 (v2+v3))+1)) 2)) - 1))) (by kernel_rfl) ?_
      exact ih v2 (IntKind.wrap .u64 ((IntKind.wrap .u64 (Int.tdiv (IntKind.wrap .u64 ((IntKind.wrap .u64 (v2+v3))+1)) 2)) - 1)) (by refine⟨?_,?_,?_,?_⟩<;>(try simp only [Ls])<;>first | omega | assumption | simp) (by(try simp only [Ls]);omega)
   | false =>
    have q0:=cG h0
    let t1:List (St Tryz.prog):=[.d h0,.c [] (aUc v2 v2)]
    cases h1:(((fN v2 v2).1:Int) == (fN (IntKind.wrap .u64 a0) 1099511627776).1) with
    | true =>
     have q1:=eq_of_beq h1
     let t2:List (St Tryz.prog):=(t1++[.d h1])
     cases h2:(((fN v2 v2).2:Int) == (fN (IntKind.wrap .u64 a0) 1099511627776).2) with
     | true =>
      have q2:=eq_of_beq h2
      have e:=Eq.refl (eP a0 (v2,v3));conv at e=>rhs;simp only [eP,h0,h1,h2,aI]
      rw [aF,e]
      exact rt (t2++[.d h2,.c [] (aDo (W v2) (W v2))]) [] [] hcx (by kernel_rfl)
     | false =>
      have q2:=ne_of_beq_false h2
      have e:=Eq.refl (eP a0 (v2,v3));conv at e=>rhs;simp only [eP,h0,h1,h2,aI]
      rw [aF,e]
      exact rt (t2++[.d h2,.c [] (aDo (W v2) (W ((W v2)+1)))]) [] [] hcx (by kernel_rfl)
    | false =>
     have q1:=ne_of_beq_false h1
     have e:=Eq.refl (eP a0 (v2,v3));conv at e=>rhs;simp only [eP,h0,h1,aI]
     rw [aF,e]
     exact rt (t1++[.d h1,.c [] (aDo (W v2) (W ((W v2)+1)))]) [] [] hcx (by kernel_rfl)
def tM (a0:Int):(Int×Int)×Int :=
 (bif (!(nM a0 0 1099511627776)) then
  ((0,0),1)
 else
  (aB (eP a0) (toNat (1099511627776 - 0)+1) (0,1099511627776)))
theorem bEm (a0:Int):Con Tryz.prog 114 [(iv a0)] [] (.t [(.a (k2 (tM a0).1)),(iv (tM a0).2)]) []:=by
 refine aK Tryz.func114 (by kernel_rfl) fun cx hcx=>?_
 let t0:List (St Tryz.prog):=[.c [] (aT3 a0 0 1099511627776)]
 cases h0:(!(nM a0 0 1099511627776)) with
 | true =>
  have e:=Eq.refl (tM a0);conv at e=>rhs;simp only [tM,h0,aI]
  rw [e]
  exact rt (t0++[.d h0]) [] [] hcx (by kernel_rfl)
 | false =>
  have e:=Eq.refl (tM a0);conv at e=>rhs;simp only [tM,h0,aI]
  rw [e]
  refine en (t0++[.d h0,.c [] (aUc (IntKind.wrap .u64 a0) 1099511627776)]) [] [2,4,5,6,7] [0] hcx xC (xD) (rJ a0 0 1099511627776) (toNat (1099511627776 - 0)+1) (by kernel_rfl) ?_
  exact aX9 a0 hcx (toNat (1099511627776 - 0)+1) 0 1099511627776 (by refine⟨?_,?_,?_,?_⟩<;>(try simp only [Ls])<;>first | omega | assumption | simp) (by(try simp only [Ls]);omega)
def yY (n r:Int):(Int×Int)×Int:=qE r (if r*r=n*1099511627776 then r else r+1)
theorem aRk {n:Int} (h:0≤n∧n≤400000):∃r,IsRt (n*1099511627776) r∧xB n=yY n r:=by
 have ha:=wT (n:=n) h.1 (by omega)
 unfold xB
 rw [cJ (by omega),cJ (by omega),cond_false,cond_false]
 have hle:iG n≤1000:=ha.le (by omega) (by omega)
 have h0:=ha.1
 have h1:=ha.2.1
 have h2:=ha.2.2
 have p20:(2:Int) ^ (min (toNat 20) 64)=1048576:=by decide
 have p40:(2:Int) ^ (min (toNat 40) 64)=1099511627776:=by decide
 generalize ea:iG n=a at *
 have haa:0≤a*a:=Int.mul_nonneg h0 h0
 have ex:(a+1)*(a+1)=a*a+2*a+1:=by grind
 have key:∀f:Int,0≤f→f≤1048576→W ((W ((W ((W (2*a))*(W f)))*2 ^ (min (toNat 20) 64)))+(W ((W f)*(W f))))=(a*1048576+f)*(a*1048576+f) - a*a*1099511627776:=by
   intro f f0 f1
   have m1:=bD (a:=1000) (b:=1048576) (x:=a) (y:=f) ⟨by omega,by omega⟩ ⟨by omega,by omega⟩
   have m2:=bD (a:=1048576) (b:=1048576) (x:=f) (y:=f) ⟨by omega,by omega⟩ ⟨by omega,by omega⟩
   have e1:2*a*f=2*(a*f):=by grind
   rw [p20,aD (n:=f) (by omega) (by omega),aD (n:=2*a) (by omega) (by omega),e1,aD (n:=2*(a*f)) (by omega) (by omega),aD (n:=2*(a*f)*1048576) (by omega) (by omega),aD (n:=f*f) (by omega) (by omega),aD (by omega) (by omega)]
   grind
 have rest:W ((W (n - (W (a*a))))*2 ^ (min (toNat 40) 64))=n*1099511627776 - a*a*1099511627776:=by
   rw [p40,aD (n:=a*a) (by omega) (by omega),aD (n:=n - a*a) (by omega) (by omega),aD (by omega) (by omega)]
   omega
 have key0:∀f:Int,0≤f→f≤1048576→W ((W ((W ((W (2*a))*f))*2 ^ (min (toNat 20) 64)))+(W (f*f)))=(a*1048576+f)*(a*1048576+f) - a*a*1099511627776:=by
   intro f f0 f1
   have:=key f f0 f1
   rwa [aD (n:=f) (by omega) (by omega)] at this
 have A20:W (a*2 ^ (min (toNat 20) 64))=a*1048576:=by rw [p20,aD (by omega) (by omega)]
 obtain⟨f,f0,f1,g1,g2,e⟩:=bBz (p:=fun f=>(a*1048576+f)*(a*1048576+f)≤n*1099511627776) (G:=fun f=>yY n (a*1048576+f)) (M:=1048576) (S:=mM n) (fun k b hk hb hkb=>by
     simp only [mM,ea]
     rw [bV (show b > 0 from hb),cond_true,key (k+b) (by omega) (by omega),rest,aD (n:=k+b) (by omega) (by omega),Int.tdiv_eq_ediv_of_nonneg (by omega),aD (n:=b / 2) (by omega) (by omega)]
     by_cases hc:(a*1048576+(k+b))*(a*1048576+(k+b))≤n*1099511627776
     · rw [if_pos hc,bV (by omega),cond_true]
     · rw [if_neg hc,cJ (by omega),cond_false])
   (fun k hk hk2=>by
     simp only [mM,ea]
     rw [cJ (by omega),cond_false,key0 k hk hk2,rest,A20,aD (n:=a*1048576+k) (by omega) (by omega),aD (n:=a*1048576+k+1) (by omega) (by omega)]
     unfold yY
     by_cases hc:(a*1048576+k)*(a*1048576+k)=n*1099511627776
     · rw [if_pos hc,hc,beq_self_eq_true,cond_true]
     · rw [if_neg hc,beq_eq_false_iff_ne.2 (by omega),cond_false])
   19 (toNat 524288+1) 0 (by decide) (by omega) (by decide) (by
     have:(a*1048576+0)*(a*1048576+0)=a*a*1099511627776:=by grind
     omega) (by
     have:(a*1048576+(0+2*2 ^ 19))*(a*1048576+(0+2*2 ^ 19))=(a+1)*(a+1)*1099511627776:=by grind
     rw [this];omega)
 refine⟨a*1048576+f,⟨by omega,g1,?_⟩,e⟩
 rw [show a*1048576+f+1=a*1048576+(f+1) by omega]
 omega
theorem bB2 {n:Int} (h:0≤n∧n≤400000):∃r,IsRt (n*1099511627776) r∧tM n=yY n r:=by
 unfold tM
 have hw:(!nM n 0 1099511627776)=false:=by
   unfold nM
   rw [bV (show n≥0 from h.1),bV (show n≤1099511627776 by omega)];rfl
 rw [hw,cond_false]
 have un:IntKind.wrap .u64 n=n:=by rw [vI];omega
 have mm:∀k:Int,0≤k→k≤1099511627776→fN k k=(k*k / 18446744073709551616,k*k % 18446744073709551616):=fun k k0 k1=>aQh ⟨k0,k1⟩ ⟨k0,k1⟩
 have mn:fN (IntKind.wrap .u64 n) 1099511627776=(n*1099511627776 / 18446744073709551616,n*1099511627776 % 18446744073709551616):=by
   rw [un];exact aQh ⟨h.1,by omega⟩ ⟨by omega,by omega⟩
 obtain⟨r,r0,r1,g1,g2,e⟩:=bB0 (p:=fun k=>k*k≤n*1099511627776) (G:=fun r=>yY n r) (M:=1099511627776) (S:=eP n) (fun a b ha hab hb=>by
     have wm:IntKind.wrap .u64 ((a+b+1) / 2 - 1)=(a+b+1) / 2 - 1:=by rw [vI,Int.emod_eq_of_lt (by omega) (by omega)]
     simp only [eP,um1 (a:=a) (b:=b) (by omega),wm,mn]
     rw [mm ((a+b+1) / 2) (by omega) (by omega),bV hab,cond_true]
     simp only
     generalize (a+b+1) / 2*((a+b+1) / 2)=X
     generalize n*1099511627776=N
     by_cases hc:X≤N
     · rw [if_pos hc]
       by_cases c1:X / 18446744073709551616 < N / 18446744073709551616
       · rw [bV c1,cond_true]
       · rw [cJ c1,cond_false,beq_iff_eq.2 (show X / 18446744073709551616=N / 18446744073709551616 by omega),cond_true,bV (by omega),cond_true]
     · rw [if_neg hc,cJ (by omega),cond_false]
       by_cases c1:X / 18446744073709551616=N / 18446744073709551616
       · rw [beq_iff_eq.2 c1,cond_true,cJ (by omega),cond_false]
       · rw [beq_eq_false_iff_ne.2 c1,cond_false])
   (fun a ha ha2=>by
     simp only [eP,mn]
     rw [mm a ha ha2,cJ (by omega),cond_false,aD (n:=a) (by omega) (by omega),aD (n:=a+1) (by omega) (by omega)]
     unfold yY
     simp only
     generalize a*a=X
     generalize n*1099511627776=N
     by_cases hc:X=N
     · rw [if_pos hc,hc,beq_self_eq_true,cond_true,beq_self_eq_true,cond_true];rfl
     · rw [if_neg hc]
       by_cases c1:X / 18446744073709551616=N / 18446744073709551616
       · rw [beq_iff_eq.2 c1,cond_true,beq_eq_false_iff_ne.2 (by omega),cond_false];rfl
       · rw [beq_eq_false_iff_ne.2 c1,cond_false];rfl)
   (toNat (1099511627776 - 0)+1) 0 1099511627776 (by omega) (by omega) (by omega) (by omega) (by omega) (by omega)
 exact⟨r,⟨r0,g1,by omega⟩,e⟩
theorem aYa {n:Int} (h:0≤n∧n≤400000):xB n=tM n:=by
 obtain⟨r,h1,e1⟩:=aRk h
 obtain⟨s,h2,e2⟩:=bB2 h
 rw [e1,e2,h1.eq h2]
theorem oM {m:ME} (h:((fU m:Int) != 0)=false):1≤m.1.length∧m.1.length≤64:=by
 obtain⟨h1,h2,h3,_,h4⟩:=iA (bne_eq_false_iff_eq.1 h)
 have:=(qI h).1 0 (Int.le_refl 0) (by omega)
 exact⟨by omega,h1⟩
theorem aUn {m:ME} {k:Int} (h:lW m k)(i:Int):(0≤i∧i < k)→((0≤(m.2.getD (toNat i) default).1∧(m.2.getD (toNat i) default).1 < (m.1.length:Int))∧(0≤(m.2.getD (toNat i) default).2.1∧(m.2.getD (toNat i) default).2.1 < (m.1.length:Int))∧0≤(m.2.getD (toNat i) default).2.2∧(m.2.getD (toNat i) default).2.2 < (m.1.length:Int)):=fun g=>h i g.1 g.2
def pK (a0:Int)(a1:Int)(a2:Int):Bool :=
 (bif (decide ((a0:Int)≥a1)) then
  (decide ((a0:Int)≤a2))
 else
  false)
theorem C55 (a0:Int)(a1:Int)(a2:Int):Con Tryz.prog 55 [(iv a0),(iv a1),(iv a2)] [] (.v (.bool (pK a0 a1 a2))) []:=by
 refine aK Tryz.func55 (by kernel_rfl) fun cx hcx=>?_
 cases h0:(decide ((a0:Int)≥a1)) with
 | true =>
  have q0:=bY h0
  have e:=Eq.refl (pK a0 a1 a2);conv at e=>rhs;simp only [pK,h0,aI]
  rw [e]
  exact rt [.d h0] [] [] hcx (by kernel_rfl)
 | false =>
  have q0:=cG h0
  have e:=Eq.refl (pK a0 a1 a2);conv at e=>rhs;simp only [pK,h0,aI]
  rw [e]
  exact rt [.d h0] [] [] hcx (by kernel_rfl)
def F52 (a0:Int)(a1:Int)(a2:Int):Bool :=
 (bif (decide ((a0:Int)≥a1)) then
  (decide ((a0:Int)≤a2))
 else
  false)
theorem C52 (a0:Int)(a1:Int)(a2:Int):Con Tryz.prog 52 [(iv a0),(iv a1),(iv a2)] [] (.v (.bool (F52 a0 a1 a2))) []:=by
 refine aK Tryz.func52 (by kernel_rfl) fun cx hcx=>?_
 cases h0:(decide ((a0:Int)≥a1)) with
 | true =>
  have q0:=bY h0
  have e:=Eq.refl (F52 a0 a1 a2);conv at e=>rhs;simp only [F52,h0,aI]
  rw [e]
  exact rt [.d h0] [] [] hcx (by kernel_rfl)
 | false =>
  have q0:=cG h0
  have e:=Eq.refl (F52 a0 a1 a2);conv at e=>rhs;simp only [F52,h0,aI]
  rw [e]
  exact rt [.d h0] [] [] hcx (by kernel_rfl)
theorem qJ {d:Int} {a b:Int} (h:(!pK d a b)=false):a≤d∧d≤b:=by
 unfold pK at h
 by_cases h1:d≥a
 · by_cases h2:d≤b
   · exact⟨h1,h2⟩
   · rw [bV h1,cJ h2] at h;simp at h
 · rw [cJ h1] at h;simp at h
theorem aCh {d:Int} {a b:Int} (h:(!F52 d a b)=false):a≤d∧d≤b:=qJ h
noncomputable def aGh:Code:=(aE [1,1,1,1,0,1] [] (aH Tryz.f58) []).1
noncomputable def aGi:List K:=(aE [1,1,1,1,0,1] [] (aH Tryz.f58) []).2
def aCi (a0:Zm)(a1:List (Int))(v1 v2:Int):LS:=⟨iJ 35 [(6,(iv v1)),(20,(.s 2 0 a1.length 1)),(21,(iv (a1.length:Int))),(22,(iv v2))],[(.live false true (flat dU a0.1)),(.live false true (flat eZ a0.2)),(.live false true (flat c3 a1))]⟩
def gU (a0:Zm)(a1:List (Int)):Int×Int→(Int×Int)⊕(Int)
 | (v1,v2) =>
  (bif (decide ((v2:Int) < (a1.length:Int))) then
   (bif (!(pK (a1.getD (toNat v2) default) 0 100)) then
    (.inr 1)
   else
    (.inl ((W (v1+(a1.getD (toNat v2) default))),(v2+1))))
  else
   (bif ((v1:Int) == 0) then
    (.inr 11)
   else
    (.inr 0)))
theorem aUo (a0:Zm)(a1:List (Int))(l0_1:a0.1.length≤9223372036854775807)(l0_2:a0.2.length≤9223372036854775807)(l1:a1.length≤9223372036854775807) {cx:Cx} (hcx:cx.base=3):∀(n:Nat)(v1 v2:Int),0≤v2→toNat ((a1.length:Int) - v2) < n→Aw.Good Tryz.prog none 9 (bodyPost Tryz.prog Tryz.f58 (RR cx (iv (aB (gU a0 a1) n (v1,v2))) [] [])) cx [] (.l aGh n::aGi) (aCi a0 a1 v1 v2):=by
 intro n
 induction n with
 | zero=>intro v1 v2 hi hn;exact absurd hn (iF _)
 | succ n ih =>
   intro v1 v2 hi hn
   refine aG ?_
   cases h0:(decide ((v2:Int) < (a1.length:Int))) with
   | true =>
    have q0:=bY h0
    let t1:List (St Tryz.prog):=[.d h0,.i v2 (a1.length),.L fR a1 v2 0 1,.c [] (C55 (a1.getD (toNat v2) default) 0 100)]
    cases h1:(!(pK (a1.getD (toNat v2) default) 0 100)) with
    | true =>
     have e:=Eq.refl (gU a0 a1 (v1,v2));conv at e=>rhs;simp only [gU,h0,h1,aI]
     rw [aF,e]
     exact rt (t1++[.d h1]) [] [] hcx (by kernel_rfl)
    | false =>
     have e:=Eq.refl (gU a0 a1 (v1,v2));conv at e=>rhs;simp only [gU,h0,h1,aI]
     rw [aA e]
     refine ba (t1++[.d h1]) [] [6,20,21,22] [] hcx (m:=n) aGh (aGi) (aCi a0 a1 (W (v1+(a1.getD (toNat v2) default))) (W (v2+1))) (by kernel_rfl) ?_
     have z0:(W (v2+1))=(v2+1):=aD (by omega) (by omega)
     rw [z0]
     exact ih (W (v1+(a1.getD (toNat v2) default))) (v2+1) (by(try simp only [Ls]);omega) (by(try simp only [Ls]);omega)
   | false =>
    have q0:=cG h0
    let t1:List (St Tryz.prog):=[.d h0]
    cases h1:((v1:Int) == 0) with
    | true =>
     have q1:=eq_of_beq h1
     have e:=Eq.refl (gU a0 a1 (v1,v2));conv at e=>rhs;simp only [gU,h0,h1,aI]
     rw [aF,e]
     exact rt (t1++[.d h1]) [] [] hcx (by kernel_rfl)
    | false =>
     have q1:=ne_of_beq_false h1
     have e:=Eq.refl (gU a0 a1 (v1,v2));conv at e=>rhs;simp only [gU,h0,h1,aI]
     rw [aF,e]
     exact rt (t1++[.d h1]) [] [] hcx (by kernel_rfl)
def nS (a0:Zm)(a1:List (Int)):Int :=
 (bif (((fU (a0.1,a0.2)):Int) != 0) then
  (fU (a0.1,a0.2))
 else
  (bif (((a1.length:Int):Int) != (a0.2.length:Int)) then
   1
  else
   (aB (gU a0 a1) (toNat ((a1.length:Int) - 0)+1) (0,0))))
theorem bB3 (a0:Zm)(a1:List (Int))(l0_1:a0.1.length≤9223372036854775807)(l0_2:a0.2.length≤9223372036854775807)(l1:a1.length≤9223372036854775807):Con Tryz.prog 58 [(.a [(.s 0 0 a0.1.length 3),(.s 1 0 a0.2.length 3)]),(.s 2 0 a1.length 1)] [(.live false true (flat dU a0.1)),(.live false true (flat eZ a0.2)),(.live false true (flat c3 a1))] (iv (nS a0 a1)) []:=by
 refine aK Tryz.func58 (by kernel_rfl) fun cx hcx=>?_
 let t0:List (St Tryz.prog):=[.c [0,1] (C35 (a0.1,a0.2) (by(try simp only [Lt]);omega) (by(try simp only [Lt]);omega))]
 cases h0:(((fU (a0.1,a0.2)):Int) != 0) with
 | true =>
  have q0:=bne_iff_ne.1 h0
  have e:=Eq.refl (nS a0 a1);conv at e=>rhs;simp only [nS,h0,aI]
  rw [e]
  exact rt (t0++[.d h0]) [] [] hcx (by kernel_rfl)
 | false =>
  have q0:=bne_eq_false_iff_eq.1 h0
  let t1:List (St Tryz.prog):=(t0++[.d h0])
  cases h1:(((a1.length:Int):Int) != (a0.2.length:Int)) with
  | true =>
   have q1:=bne_iff_ne.1 h1
   have e:=Eq.refl (nS a0 a1);conv at e=>rhs;simp only [nS,h0,h1,aI]
   rw [e]
   exact rt (t1++[.d h1]) [] [] hcx (by kernel_rfl)
  | false =>
   have q1:=bne_eq_false_iff_eq.1 h1
   have e:=Eq.refl (nS a0 a1);conv at e=>rhs;simp only [nS,h0,h1,aI]
   rw [e]
   refine en (t1++[.d h1]) [] [6,20,21,22] [] hcx aGh (aGi) (aCi a0 a1 0 0) (toNat ((a1.length:Int) - 0)+1) (by kernel_rfl) ?_
   exact aUo a0 a1 l0_1 l0_2 l1 hcx (toNat ((a1.length:Int) - 0)+1) 0 0 (by(try simp only [Ls]);omega) (by(try simp only [Ls]);omega)
def gE (a0:Zm)(a1:List (Int))(a2:Int):Int :=
 (bif (((nS (a0.1,a0.2) a1):Int) != 0) then
  (nS (a0.1,a0.2) a1)
 else
  (bif (!(pK a2 0 2)) then
   1
  else
   0))
theorem bB4 (a0:Zm)(a1:List (Int))(a2:Int)(l0_1:a0.1.length≤9223372036854775807)(l0_2:a0.2.length≤9223372036854775807)(l1:a1.length≤9223372036854775807):Con Tryz.prog 32 [(.a [(.s 0 0 a0.1.length 3),(.s 1 0 a0.2.length 3)]),(.s 2 0 a1.length 1),(iv a2)] [(.live false true (flat dU a0.1)),(.live false true (flat eZ a0.2)),(.live false true (flat c3 a1))] (iv (gE a0 a1 a2)) []:=by
 refine aK Tryz.func32 (by kernel_rfl) fun cx hcx=>?_
 let t0:List (St Tryz.prog):=[.c [0,1,2] (bB3 (a0.1,a0.2) a1 (by(try simp only [Lt]);omega) (by(try simp only [Lt]);omega) (by omega))]
 cases h0:(((nS (a0.1,a0.2) a1):Int) != 0) with
 | true =>
  have q0:=bne_iff_ne.1 h0
  have e:=Eq.refl (gE a0 a1 a2);conv at e=>rhs;simp only [gE,h0,aI]
  rw [e]
  exact rt (t0++[.d h0]) [] [] hcx (by kernel_rfl)
 | false =>
  have q0:=bne_eq_false_iff_eq.1 h0
  let t1:List (St Tryz.prog):=(t0++[.d h0,.c [] (C55 a2 0 2)])
  cases h1:(!(pK a2 0 2)) with
  | true =>
   have e:=Eq.refl (gE a0 a1 a2);conv at e=>rhs;simp only [gE,h0,h1,aI]
   rw [e]
   exact rt (t1++[.d h1]) [] [] hcx (by kernel_rfl)
  | false =>
   have e:=Eq.refl (gE a0 a1 a2);conv at e=>rhs;simp only [gE,h0,h1,aI]
   rw [e]
   exact rt (t1++[.d h1]) [] [] hcx (by kernel_rfl)
def F97 (a0:Int):Int×Int :=
 (bif (decide ((a0:Int) > 1099511627776)) then
  (0,4)
 else
  (a0,0))
theorem C97 (a0:Int):Con Tryz.prog 97 [(iv a0)] [] (.t (k2 (F97 a0))) []:=by
 refine aK Tryz.func97 (by kernel_rfl) fun cx hcx=>?_
 cases h0:(decide ((a0:Int) > 1099511627776)) with
 | true =>
  have q0:=bY h0
  have e:=Eq.refl (F97 a0);conv at e=>rhs;simp only [F97,h0,aI]
  rw [e]
  exact rt [.d h0] [] [] hcx (by kernel_rfl)
 | false =>
  have q0:=cG h0
  have e:=Eq.refl (F97 a0);conv at e=>rhs;simp only [F97,h0,aI]
  rw [e]
  exact rt [.d h0] [] [] hcx (by kernel_rfl)
noncomputable def aGj:Code:=(aE [1,1,0,1] [] (aH Tryz.f98) []).1
noncomputable def aGk:List K:=(aE [1,1,0,1] [] (aH Tryz.f98) []).2
def aCj (a0:List (Int))(v1 v2:Int):LS:=⟨iJ 19 [(3,(iv v1)),(6,(.s 0 0 a0.length 1)),(7,(iv (a0.length:Int))),(8,(iv v2))],[(.live false true (flat c3 a0))]⟩
def mN (a0:List (Int)):Int×Int→(Int×Int)⊕(Int)
 | (v1,v2) =>
  (bif (decide ((v2:Int) < (a0.length:Int))) then
   (.inl ((W (v1+(a0.getD (toNat v2) default))),(v2+1)))
  else
   (.inr (W ((W (v1*1048576))*1048576))))
theorem aUp (a0:List (Int))(l0:a0.length≤9223372036854775807) {cx:Cx} (hcx:cx.base=1):∀(n:Nat)(v1 v2:Int),0≤v2→toNat ((a0.length:Int) - v2) < n→Aw.Good Tryz.prog none 9 (bodyPost Tryz.prog Tryz.f98 (RR cx (iv (aB (mN a0) n (v1,v2))) [] [])) cx [] (.l aGj n::aGk) (aCj a0 v1 v2):=by
 intro n
 induction n with
 | zero=>intro v1 v2 hi hn;exact absurd hn (iF _)
 | succ n ih =>
   intro v1 v2 hi hn
   refine aG ?_
   cases h0:(decide ((v2:Int) < (a0.length:Int))) with
   | true =>
    have q0:=bY h0
    have e:=Eq.refl (mN a0 (v1,v2));conv at e=>rhs;simp only [mN,h0,aI]
    rw [aA e]
    refine ba [.d h0,.i v2 (a0.length),.L fR a0 v2 0 1] [] [3,6,7,8] [] hcx (m:=n) aGj (aGk) (aCj a0 (W (v1+(a0.getD (toNat v2) default))) (W (v2+1))) (by kernel_rfl) ?_
    have z0:(W (v2+1))=(v2+1):=aD (by omega) (by omega)
    rw [z0]
    exact ih (W (v1+(a0.getD (toNat v2) default))) (v2+1) (by(try simp only [Ls]);omega) (by(try simp only [Ls]);omega)
   | false =>
    have q0:=cG h0
    have e:=Eq.refl (mN a0 (v1,v2));conv at e=>rhs;simp only [mN,h0,aI]
    rw [aF,e]
    exact rt [.d h0] [] [] hcx (by kernel_rfl)
def cN (a0:List (Int)):Int :=
 (aB (mN a0) (toNat ((a0.length:Int) - 0)+1) (0,0))
theorem aRl (a0:List (Int))(l0:a0.length≤9223372036854775807):Con Tryz.prog 98 [(.s 0 0 a0.length 1)] [(.live false true (flat c3 a0))] (iv (cN a0)) []:=by
 refine aK Tryz.func98 (by kernel_rfl) fun cx hcx=>?_
 have e:=Eq.refl (cN a0);conv at e=>rhs;simp only [cN]
 rw [e]
 refine en [] [] [3,6,7,8] [] hcx aGj (aGk) (aCj a0 0 0) (toNat ((a0.length:Int) - 0)+1) (by kernel_rfl) ?_
 exact aUp a0 l0 hcx (toNat ((a0.length:Int) - 0)+1) 0 0 (by(try simp only [Ls]);omega) (by(try simp only [Ls]);omega)
noncomputable def aRm:Code:=(aE [1,1,1,1,0,1] [] (aH Tryz.f28) []).1
noncomputable def aRn:List K:=(aE [1,1,1,1,0,1] [] (aH Tryz.f28) []).2
def aK4 (a0:Zm)(a1:Zt)(v1 v2:Int):LS:=⟨iJ 82 [(3,(.p 2 0)),(9,(iv v1)),(39,(.s 0 0 a0.1.length 3)),(40,(iv (a0.1.length:Int))),(41,(iv v2))],[(.live false true (flat dU a0.1)),(.live false true (flat eZ a0.2)),(.live true false (k3 a1))]⟩
def pA (a0:Zm)(a1:Zt):Int×Int→(Int×Int)⊕(Int×Int)
 | (v1,v2) =>
  (bif (decide ((v2:Int) < (a0.1.length:Int))) then
   (.inl ((iK v1 (W ((W ((W ((W ((a0.1.getD (toNat v2) default).1 - a1.1))*(W ((a0.1.getD (toNat v2) default).1 - a1.1))))+(W ((W ((a0.1.getD (toNat v2) default).2.1 - a1.2.1))*(W ((a0.1.getD (toNat v2) default).2.1 - a1.2.1))))))+(W ((W ((a0.1.getD (toNat v2) default).2.2 - a1.2.2))*(W ((a0.1.getD (toNat v2) default).2.2 - a1.2.2))))))),(v2+1)))
  else
   (.inr ((xB v1).1.2,(xB v1).2)))
theorem bB5 (a0:Zm)(a1:Zt)(l0_1:a0.1.length≤9223372036854775807)(l0_2:a0.2.length≤9223372036854775807) {cx:Cx} (hcx:cx.base=2):∀(n:Nat)(v1 v2:Int),0≤v2→toNat ((a0.1.length:Int) - v2) < n→Aw.Good Tryz.prog none 9 (bodyPost Tryz.prog Tryz.f28 (RR cx (.t (k2 (aB (pA a0 a1) n (v1,v2)))) [] [])) cx [] (.l aRm n::aRn) (aK4 a0 a1 v1 v2):=by
 intro n
 induction n with
 | zero=>intro v1 v2 hi hn;exact absurd hn (iF _)
 | succ n ih =>
   intro v1 v2 hi hn
   refine aG ?_
   cases h0:(decide ((v2:Int) < (a0.1.length:Int))) with
   | true =>
    have q0:=bY h0
    have e:=Eq.refl (pA a0 a1 (v1,v2));conv at e=>rhs;simp only [pA,h0,aI]
    rw [aA e]
    refine ba [.d h0,.i v2 (a0.1.length),.L bL a0.1 v2 0 3] [] [3,9,39,40,41] [2] hcx (m:=n) aRm (aRn) (aK4 a0 a1 (iK v1 (W ((W ((W ((W ((a0.1.getD (toNat v2) default).1 - a1.1))*(W ((a0.1.getD (toNat v2) default).1 - a1.1))))+(W ((W ((a0.1.getD (toNat v2) default).2.1 - a1.2.1))*(W ((a0.1.getD (toNat v2) default).2.1 - a1.2.1))))))+(W ((W ((a0.1.getD (toNat v2) default).2.2 - a1.2.2))*(W ((a0.1.getD (toNat v2) default).2.2 - a1.2.2))))))) (W (v2+1))) (by kernel_rfl) ?_
    have z0:(W (v2+1))=(v2+1):=aD (by omega) (by omega)
    rw [z0]
    exact ih (iK v1 (W ((W ((W ((W ((a0.1.getD (toNat v2) default).1 - a1.1))*(W ((a0.1.getD (toNat v2) default).1 - a1.1))))+(W ((W ((a0.1.getD (toNat v2) default).2.1 - a1.2.1))*(W ((a0.1.getD (toNat v2) default).2.1 - a1.2.1))))))+(W ((W ((a0.1.getD (toNat v2) default).2.2 - a1.2.2))*(W ((a0.1.getD (toNat v2) default).2.2 - a1.2.2))))))) (v2+1) (by(try simp only [Ls]);omega) (by(try simp only [Ls]);omega)
   | false =>
    have q0:=cG h0
    have e:=Eq.refl (pA a0 a1 (v1,v2));conv at e=>rhs;simp only [pA,h0,aI]
    rw [aF,e]
    exact rt [.d h0,.c [] (C56 v1)] [] [] hcx (by kernel_rfl)
def tN (a0:Zm)(a1:Zt):Int×Int :=
 (bif (((fU (a0.1,a0.2)):Int) != 0) then
  (0,(fU (a0.1,a0.2)))
 else
  (bif (!(pK a1.1 (-256) 256)) then
   (0,1)
  else
   (bif (!(pK a1.2.1 (-256) 256)) then
    (0,1)
   else
    (bif (!(pK a1.2.2 (-256) 256)) then
     (0,1)
    else
     (aB (pA a0 a1) (toNat ((a0.1.length:Int) - 0)+1) (0,0))))))
theorem C28 (a0:Zm)(a1:Zt)(l0_1:a0.1.length≤9223372036854775807)(l0_2:a0.2.length≤9223372036854775807):Con Tryz.prog 28 [(.a [(.s 0 0 a0.1.length 3),(.s 1 0 a0.2.length 3)]),(.a (k3 a1))] [(.live false true (flat dU a0.1)),(.live false true (flat eZ a0.2))] (.t (k2 (tN a0 a1))) []:=by
 refine aK Tryz.func28 (by kernel_rfl) fun cx hcx=>?_
 let t0:List (St Tryz.prog):=[.c [0,1] (C35 (a0.1,a0.2) (by(try simp only [Lt]);omega) (by(try simp only [Lt]);omega))]
 cases h0:(((fU (a0.1,a0.2)):Int) != 0) with
 | true =>
  have q0:=bne_iff_ne.1 h0
  have e:=Eq.refl (tN a0 a1);conv at e=>rhs;simp only [tN,h0,aI]
  rw [e]
  exact rt (t0++[.d h0]) [] [] hcx (by kernel_rfl)
 | false =>
  have q0:=bne_eq_false_iff_eq.1 h0
  let t1:List (St Tryz.prog):=(t0++[.d h0,.u 200,.T,.i 0 3 (by decide),.c [] (C55 a1.1 (-256) 256)])
  cases h1:(!(pK a1.1 (-256) 256)) with
  | true =>
   have e:=Eq.refl (tN a0 a1);conv at e=>rhs;simp only [tN,h0,h1,aI]
   rw [e]
   exact rt (t1++[.d h1]) [] [] hcx (by kernel_rfl)
  | false =>
   let t2:List (St Tryz.prog):=(t1++[.d h1,.u 0,.T,.i 1 3 (by decide),.c [] (C55 a1.2.1 (-256) 256)])
   cases h2:(!(pK a1.2.1 (-256) 256)) with
   | true =>
    have e:=Eq.refl (tN a0 a1);conv at e=>rhs;simp only [tN,h0,h1,h2,aI]
    rw [e]
    exact rt (t2++[.d h2]) [] [] hcx (by kernel_rfl)
   | false =>
    let t3:List (St Tryz.prog):=(t2++[.d h2,.u 0,.T,.i 2 3 (by decide),.c [] (C55 a1.2.2 (-256) 256)])
    cases h3:(!(pK a1.2.2 (-256) 256)) with
    | true =>
     have e:=Eq.refl (tN a0 a1);conv at e=>rhs;simp only [tN,h0,h1,h2,h3,aI]
     rw [e]
     exact rt (t3++[.d h3]) [] [] hcx (by kernel_rfl)
    | false =>
     have e:=Eq.refl (tN a0 a1);conv at e=>rhs;simp only [tN,h0,h1,h2,h3,aI]
     rw [e]
     refine en (t3++[.d h3,.u 0,.F]) [] [3,9,39,40,41] [3] hcx aRm (aRn) (aK4 a0 a1 0 0) (toNat ((a0.1.length:Int) - 0)+1) (by kernel_rfl) ?_
     exact bB5 a0 a1 l0_1 l0_2 hcx (toNat ((a0.1.length:Int) - 0)+1) 0 0 (by(try simp only [Ls]);omega) (by(try simp only [Ls]);omega)
noncomputable def aRo:Code:=(aE [1,1,1,0,1] [] (aH Tryz.f62) []).1
noncomputable def aRp:List K:=(aE [1,1,1,0,1] [] (aH Tryz.f62) []).2
def aK5 (a0:Zm)(v1 v2 v3 v4 v5 v6 v7:Int):LS:=⟨iJ 65 [(2,(.p 2 0)),(3,(.p 3 0)),(24,(.s 0 0 a0.1.length 3)),(25,(iv (a0.1.length:Int))),(26,(iv v1))],[(.live false true (flat dU a0.1)),(.live false true (flat eZ a0.2)),(.live true false [(iv v2),(iv v3),(iv v4)]),(.live true false [(iv v5),(iv v6),(iv v7)])]⟩
def qK (a0:Zm):Int×Int×Int×Int×Zt→(Int×Int×Int×Int×Zt)⊕(Zt×Zt×Int)
 | (v1,v2,v3,v4,v5,v6,v7) =>
  (bif (decide ((v1:Int) < (a0.1.length:Int))) then
   (.inl ((v1+1),(if((a0.1.getD (toNat v1) default).1:Int) < v2 then(a0.1.getD (toNat v1) default).1 else v2),(if((a0.1.getD (toNat v1) default).2.1:Int) < v3 then(a0.1.getD (toNat v1) default).2.1 else v3),(if((a0.1.getD (toNat v1) default).2.2:Int) < v4 then(a0.1.getD (toNat v1) default).2.2 else v4),(if(v5:Int) < (a0.1.getD (toNat v1) default).1 then(a0.1.getD (toNat v1) default).1 else v5),(if(v6:Int) < (a0.1.getD (toNat v1) default).2.1 then(a0.1.getD (toNat v1) default).2.1 else v6),(if(v7:Int) < (a0.1.getD (toNat v1) default).2.2 then(a0.1.getD (toNat v1) default).2.2 else v7)))
  else
   (.inr ((v2,v3,v4),(v5,v6,v7),0)))
theorem bB6 (a0:Zm)(l0_1:a0.1.length≤9223372036854775807)(l0_2:a0.2.length≤9223372036854775807) {cx:Cx} (hcx:cx.base=2):∀(n:Nat)(v1 v2 v3 v4 v5 v6 v7:Int),0≤v1→toNat ((a0.1.length:Int) - v1) < n→Aw.Good Tryz.prog none 9 (bodyPost Tryz.prog Tryz.f62 (RR cx (.t [(.a (k3 (aB (qK a0) n (v1,v2,v3,v4,v5,v6,v7)).1)),(.a (k3 (aB (qK a0) n (v1,v2,v3,v4,v5,v6,v7)).2.1)),(iv (aB (qK a0) n (v1,v2,v3,v4,v5,v6,v7)).2.2)]) [] [])) cx [] (.l aRo n::aRp) (aK5 a0 v1 v2 v3 v4 v5 v6 v7):=by
 intro n
 induction n with
 | zero=>intro v1 v2 v3 v4 v5 v6 v7 hi hn;exact absurd hn (iF _)
 | succ n ih =>
   intro v1 v2 v3 v4 v5 v6 v7 hi hn
   refine aG ?_
   cases h0:(decide ((v1:Int) < (a0.1.length:Int))) with
   | true =>
    have q0:=bY h0
    have e:=Eq.refl (qK a0 (v1,v2,v3,v4,v5,v6,v7));conv at e=>rhs;simp only [qK,h0,aI]
    rw [aA e]
    refine ba [.d h0,.i v1 (a0.1.length),.L bL a0.1 v1 0 3] [] [2,3,24,25,26] [2,3] hcx (m:=n) aRo (aRp) (aK5 a0 (W (v1+1)) (if((a0.1.getD (toNat v1) default).1:Int) < v2 then(a0.1.getD (toNat v1) default).1 else v2) (if((a0.1.getD (toNat v1) default).2.1:Int) < v3 then(a0.1.getD (toNat v1) default).2.1 else v3) (if((a0.1.getD (toNat v1) default).2.2:Int) < v4 then(a0.1.getD (toNat v1) default).2.2 else v4) (if(v5:Int) < (a0.1.getD (toNat v1) default).1 then(a0.1.getD (toNat v1) default).1 else v5) (if(v6:Int) < (a0.1.getD (toNat v1) default).2.1 then(a0.1.getD (toNat v1) default).2.1 else v6) (if(v7:Int) < (a0.1.getD (toNat v1) default).2.2 then(a0.1.getD (toNat v1) default).2.2 else v7)) (by kernel_rfl) ?_
    have z0:(W (v1+1))=(v1+1):=aD (by omega) (by omega)
    rw [z0]
    exact ih (v1+1) (if((a0.1.getD (toNat v1) default).1:Int) < v2 then(a0.1.getD (toNat v1) default).1 else v2) (if((a0.1.getD (toNat v1) default).2.1:Int) < v3 then(a0.1.getD (toNat v1) default).2.1 else v3) (if((a0.1.getD (toNat v1) default).2.2:Int) < v4 then(a0.1.getD (toNat v1) default).2.2 else v4) (if(v5:Int) < (a0.1.getD (toNat v1) default).1 then(a0.1.getD (toNat v1) default).1 else v5) (if(v6:Int) < (a0.1.getD (toNat v1) default).2.1 then(a0.1.getD (toNat v1) default).2.1 else v6) (if(v7:Int) < (a0.1.getD (toNat v1) default).2.2 then(a0.1.getD (toNat v1) default).2.2 else v7) (by(try simp only [Ls]);omega) (by(try simp only [Ls]);omega)
   | false =>
    have q0:=cG h0
    have e:=Eq.refl (qK a0 (v1,v2,v3,v4,v5,v6,v7));conv at e=>rhs;simp only [qK,h0,aI]
    rw [aF,e]
    exact rt [.d h0] [] [] hcx (by kernel_rfl)
def sM (a0:Zm):Zt×Zt×Int :=
 (bif (((fU (a0.1,a0.2)):Int) != 0) then
  ((0,0,0),(0,0,0),(fU (a0.1,a0.2)))
 else
  (aB (qK a0) (toNat ((a0.1.length:Int) - 0)+1) (0,(a0.1.getD (toNat 0) default).1,(a0.1.getD (toNat 0) default).2.1,(a0.1.getD (toNat 0) default).2.2,(a0.1.getD (toNat 0) default).1,(a0.1.getD (toNat 0) default).2.1,(a0.1.getD (toNat 0) default).2.2)))
theorem C62 (a0:Zm)(l0_1:a0.1.length≤9223372036854775807)(l0_2:a0.2.length≤9223372036854775807):Con Tryz.prog 62 [(.a [(.s 0 0 a0.1.length 3),(.s 1 0 a0.2.length 3)])] [(.live false true (flat dU a0.1)),(.live false true (flat eZ a0.2))] (.t [(.a (k3 (sM a0).1)),(.a (k3 (sM a0).2.1)),(iv (sM a0).2.2)]) []:=by
 refine aK Tryz.func62 (by kernel_rfl) fun cx hcx=>?_
 try have hp1:1≤a0.1.length:=(oM h0).1
 let t0:List (St Tryz.prog):=[.c [0,1] (C35 (a0.1,a0.2) (by(try simp only [Lt]);omega) (by(try simp only [Lt]);omega))]
 cases h0:(((fU (a0.1,a0.2)):Int) != 0) with
 | true =>
  have q0:=bne_iff_ne.1 h0
  try have hp1:1≤a0.1.length:=(oM h0).1
  have e:=Eq.refl (sM a0);conv at e=>rhs;simp only [sM,h0,aI]
  rw [e]
  exact rt (t0++[.d h0]) [] [] hcx (by kernel_rfl)
 | false =>
  have q0:=bne_eq_false_iff_eq.1 h0
  try have hp1:1≤a0.1.length:=(oM h0).1
  have e:=Eq.refl (sM a0);conv at e=>rhs;simp only [sM,h0,aI]
  rw [e]
  refine en (t0++[.d h0,.i 0 (a0.1.length),.L bL a0.1 0 0 3,.i 0 (a0.1.length),.L bL a0.1 0 0 3]) [] [2,3,24,25,26] [3,4] hcx aRo (aRp) (aK5 a0 0 ((a0.1.getD (toNat 0) default).1) ((a0.1.getD (toNat 0) default).2.1) ((a0.1.getD (toNat 0) default).2.2) ((a0.1.getD (toNat 0) default).1) ((a0.1.getD (toNat 0) default).2.1) ((a0.1.getD (toNat 0) default).2.2)) (toNat ((a0.1.length:Int) - 0)+1) (by kernel_rfl) ?_
  exact bB6 a0 l0_1 l0_2 hcx (toNat ((a0.1.length:Int) - 0)+1) 0 ((a0.1.getD (toNat 0) default).1) ((a0.1.getD (toNat 0) default).2.1) ((a0.1.getD (toNat 0) default).2.2) ((a0.1.getD (toNat 0) default).1) ((a0.1.getD (toNat 0) default).2.1) ((a0.1.getD (toNat 0) default).2.2) (by(try simp only [Ls]);omega) (by(try simp only [Ls]);omega)
noncomputable def aRq:Code:=(aE [1,1,0,1] [] (aH Tryz.f57) []).1
noncomputable def aRr:List K:=(aE [1,1,0,1] [] (aH Tryz.f57) []).2
def aK6 (a0:Zm)(v1c:List SV)(v1n:Nat)(v2:Int):LS:=⟨iJ 19 [(3,(.s 2 0 v1n 1)),(10,(iv (((toNat (a0.2.length:Int)):Nat):Int))),(11,(iv v2))],[(.live false true (flat dU a0.1)),(.live false true (flat eZ a0.2)),(.live true true v1c)]⟩
def sN (a0:Zm):List (Int)×Int→(List (Int)×Int)⊕(List (Int))
 | (v1,v2) =>
  (bif (decide ((v2:Int) < (((toNat (a0.2.length:Int)):Nat):Int))) then
   (.inl ((v1.set (toNat v2) 1),(v2+1)))
  else
   (.inr v1))
theorem bB7 (a0:Zm)(l0_1:a0.1.length≤9223372036854775807)(l0_2:a0.2.length≤9223372036854775807)(hn:a0.2.length≤96) {cx:Cx} (hcx:cx.base=2):∀(n:Nat)(v1:List (Int))(v2:Int),(0≤v2)∧(v1.length=a0.2.length)→toNat ((((toNat (a0.2.length:Int)):Nat):Int) - v2) < n→Aw.Good Tryz.prog none 9 (bodyPost Tryz.prog Tryz.f57 (RR cx (.s 2 0 (aB (sN a0) n (v1,v2)).length 1) [(.live true true (flat c3 (aB (sN a0) n (v1,v2))))] [])) cx [] (.l aRq n::aRr) (aK6 a0 (flat c3 v1) v1.length v2):=by
 intro n
 induction n with
 | zero=>intro v1 v2 hi hn;exact absurd hn (iF _)
 | succ n ih =>
   intro v1 v2 hi hn
   refine aG ?_
   cases h0:(decide ((v2:Int) < (((toNat (a0.2.length:Int)):Nat):Int))) with
   | true =>
    have q0:=bY h0
    have e:=Eq.refl (sN a0 (v1,v2));conv at e=>rhs;simp only [sN,h0,aI]
    rw [aA e]
    refine ba [.d h0,.i v2 (v1.length),.p (show((0+toNat v2*1)+1≤(flat c3 v1).length) from(jO fR (by first | omega | (simp only [Lt];omega)) (o:=0) (Nb rfl)))] [] [3,10,11] [2] hcx (m:=n) aRq (aRr) (aK6 a0 (splice (flat c3 v1) (0+toNat v2*1) [(iv 1)]) (v1.length) (W (v2+1))) (by kernel_rfl) ?_
    have z0:(W (v2+1))=(v2+1):=aD (by omega) (by omega)
    have z1:(splice (flat c3 v1) (0+toNat v2*1) [(iv 1)])=flat c3 (v1.set (toNat v2) 1):=(eK fR (by first | omega | (simp only [Lt];omega)) (o:=0) (d:=default) (Nb rfl) rfl)
    have z2:v1.length=(v1.set (toNat v2) 1).length:=by simp
    rw [z0,z1,z2]
    exact ih (v1.set (toNat v2) 1) (v2+1) (by refine⟨?_,?_⟩<;>(try simp only [Ls])<;>first | omega | assumption | simp) (by(try simp only [Ls]);omega)
   | false =>
    have q0:=cG h0
    have e:=Eq.refl (sN a0 (v1,v2));conv at e=>rhs;simp only [sN,h0,aI]
    rw [aF,e]
    exact rt [.d h0] [] [2] hcx (by kernel_rfl)
def F57 (a0:Zm):List (Int) :=
 (aB (sN a0) (toNat ((((toNat (a0.2.length:Int)):Nat):Int) - 0)+1) ((List.replicate (toNat (a0.2.length:Int)) 0),0))
theorem C57 (a0:Zm)(l0_1:a0.1.length≤9223372036854775807)(l0_2:a0.2.length≤9223372036854775807)(hn:a0.2.length≤96):Con Tryz.prog 57 [(.a [(.s 0 0 a0.1.length 3),(.s 1 0 a0.2.length 3)])] [(.live false true (flat dU a0.1)),(.live false true (flat eZ a0.2))] (.s 2 0 (F57 a0).length 1) [(.live true true (flat c3 (F57 a0)))]:=by
 refine aK Tryz.func57 (by kernel_rfl) fun cx hcx=>?_
 have e:=Eq.refl (F57 a0);conv at e=>rhs;simp only [F57]
 rw [e]
 refine en [.Z c3 0 [(iv 0)] (a0.2.length:Int) 8] [] [3,10,11] [3] hcx aRq (aRr) (aK6 a0 (flat c3 (List.replicate (toNat (a0.2.length:Int)) 0)) (toNat (a0.2.length:Int)) 0) (toNat ((((toNat (a0.2.length:Int)):Nat):Int) - 0)+1) (by kernel_rfl) ?_
 have q:=bB7 a0 l0_1 l0_2 hn hcx (toNat ((((toNat (a0.2.length:Int)):Nat):Int) - 0)+1) (List.replicate (toNat (a0.2.length:Int)) 0) 0 (by refine⟨?_,?_⟩<;>(try simp only [Ls])<;>first | omega | assumption | simp) (by(try simp only [Ls]);omega)
 simp only [List.length_replicate] at q
 exact q
def F30 (a0:Zm)(a1:Int):Int×Int :=
 (bif (((fU (a0.1,a0.2)):Int) != 0) then
  (0,(fU (a0.1,a0.2)))
 else
  (bif (!(pK a1 0 2)) then
   (0,1)
  else
   ((W ((W ((a0.2.length:Int)*(a0.2.length:Int)))*(W ((W (1*2 ^ (min (toNat (W (2*a1))) 64)))+(W ((W (1*2 ^ (min (toNat (W (2*a1))) 64)))*(W (1*2 ^ (min (toNat (W (2*a1))) 64))))))))),0)))
theorem C30 (a0:Zm)(a1:Int)(l0_1:a0.1.length≤9223372036854775807)(l0_2:a0.2.length≤9223372036854775807):Con Tryz.prog 30 [(.a [(.s 0 0 a0.1.length 3),(.s 1 0 a0.2.length 3)]),(iv a1)] [(.live false true (flat dU a0.1)),(.live false true (flat eZ a0.2))] (.t (k2 (F30 a0 a1))) []:=by
 refine aK Tryz.func30 (by kernel_rfl) fun cx hcx=>?_
 try have hw1:=qJ h1
 let t0:List (St Tryz.prog):=[.c [0,1] (C35 (a0.1,a0.2) (by(try simp only [Lt]);omega) (by(try simp only [Lt]);omega))]
 cases h0:(((fU (a0.1,a0.2)):Int) != 0) with
 | true =>
  have q0:=bne_iff_ne.1 h0
  try have hw1:=qJ h1
  have e:=Eq.refl (F30 a0 a1);conv at e=>rhs;simp only [F30,h0,aI]
  rw [e]
  exact rt (t0++[.d h0]) [] [] hcx (by kernel_rfl)
 | false =>
  have q0:=bne_eq_false_iff_eq.1 h0
  try have hw1:=qJ h1
  let t1:List (St Tryz.prog):=(t0++[.d h0,.c [] (C55 a1 0 2)])
  cases h1:(!(pK a1 0 2)) with
  | true =>
   try have hw1:=qJ h1
   have e:=Eq.refl (F30 a0 a1);conv at e=>rhs;simp only [F30,h0,h1,aI]
   rw [e]
   exact rt (t1++[.d h1]) [] [] hcx (by kernel_rfl)
  | false =>
   try have hw1:=qJ h1
   have e:=Eq.refl (F30 a0 a1);conv at e=>rhs;simp only [F30,h0,h1,aI]
   rw [e]
   exact rt (t1++[.d h1,.p (show 0≤((W (2*a1)):Int) from by first | omega | (rw [aD]<;>omega) | exact eA _)]) [] [] hcx (by kernel_rfl)
noncomputable def aCk:Code:=(aE [1,1,0,1] [] (aH Tryz.f109) []).1
noncomputable def aCl:List K:=(aE [1,1,0,1] [] (aH Tryz.f109) []).2
def xE (a0:List (Int))(v1 v2:Int):LS:=⟨iJ 18 [(0,(.s 0 0 a0.length 1)),(3,(iv v1)),(4,(iv v2))],[(.live false true (flat c3 a0))]⟩
def kG (a0:List (Int)):Int×Int→(Int×Int)⊕(Int)
 | (v1,v2) =>
  (bif (decide ((v2:Int) < (a0.length:Int))) then
   (.inl ((W (v1+(a0.getD (toNat v2) default))),(v2+1)))
  else
   (.inr v1))
theorem aRs (a0:List (Int))(l0:a0.length≤9223372036854775807) {cx:Cx} (hcx:cx.base=1):∀(n:Nat)(v1 v2:Int),0≤v2→toNat ((a0.length:Int) - v2) < n→Aw.Good Tryz.prog none 9 (bodyPost Tryz.prog Tryz.f109 (RR cx (iv (aB (kG a0) n (v1,v2))) [] [])) cx [] (.l aCk n::aCl) (xE a0 v1 v2):=by
 intro n
 induction n with
 | zero=>intro v1 v2 hi hn;exact absurd hn (iF _)
 | succ n ih =>
   intro v1 v2 hi hn
   refine aG ?_
   cases h0:(decide ((v2:Int) < (a0.length:Int))) with
   | true =>
    have q0:=bY h0
    have e:=Eq.refl (kG a0 (v1,v2));conv at e=>rhs;simp only [kG,h0,aI]
    rw [aA e]
    refine ba [.d h0,.i v2 (a0.length),.L fR a0 v2 0 1] [] [0,3,4] [] hcx (m:=n) aCk (aCl) (xE a0 (W (v1+(a0.getD (toNat v2) default))) (W (v2+1))) (by kernel_rfl) ?_
    have z0:(W (v2+1))=(v2+1):=aD (by omega) (by omega)
    rw [z0]
    exact ih (W (v1+(a0.getD (toNat v2) default))) (v2+1) (by(try simp only [Ls]);omega) (by(try simp only [Ls]);omega)
   | false =>
    have q0:=cG h0
    have e:=Eq.refl (kG a0 (v1,v2));conv at e=>rhs;simp only [kG,h0,aI]
    rw [aF,e]
    exact rt [.d h0] [] [] hcx (by kernel_rfl)
def cC (a0:List (Int)):Int :=
 (aB (kG a0) (toNat ((a0.length:Int) - 0)+1) (0,0))
theorem aGl (a0:List (Int))(l0:a0.length≤9223372036854775807):Con Tryz.prog 109 [(.s 0 0 a0.length 1)] [(.live false true (flat c3 a0))] (iv (cC a0)) []:=by
 refine aK Tryz.func109 (by kernel_rfl) fun cx hcx=>?_
 have e:=Eq.refl (cC a0);conv at e=>rhs;simp only [cC]
 rw [e]
 refine en [] [] [0,3,4] [] hcx aCk (aCl) (xE a0 0 0) (toNat ((a0.length:Int) - 0)+1) (by kernel_rfl) ?_
 exact aRs a0 l0 hcx (toNat ((a0.length:Int) - 0)+1) 0 0 (by(try simp only [Ls]);omega) (by(try simp only [Ls]);omega)
noncomputable def aCm:Code:=(aE [1,1,1,1,0,1] [] (aH Tryz.f151) []).1
noncomputable def aCn:List K:=(aE [1,1,1,1,0,1] [] (aH Tryz.f151) []).2
def xF (a0:Zm)(a1:List (Int))(v1:Int):LS:=⟨iJ 33 [(1,(.s 2 0 a1.length 1)),(6,(iv v1))],[(.live false true (flat dU a0.1)),(.live false true (flat eZ a0.2)),(.live false true (flat c3 a1))]⟩
def fH (a0:Zm)(a1:List (Int)):Int→(Int)⊕(Int)
 | v1 =>
  (bif (decide ((v1:Int) < (a1.length:Int))) then
   (bif (!(F52 (a1.getD (toNat v1) default) 0 100)) then
    (.inr 1)
   else
    (.inl (v1+1)))
  else
   (bif (((cC a1):Int) == 0) then
    (.inr 11)
   else
    (.inr 0)))
theorem aRt (a0:Zm)(a1:List (Int))(l0_1:a0.1.length≤9223372036854775807)(l0_2:a0.2.length≤9223372036854775807)(l1:a1.length≤9223372036854775807) {cx:Cx} (hcx:cx.base=3):∀(n:Nat)(v1:Int),0≤v1→toNat ((a1.length:Int) - v1) < n→Aw.Good Tryz.prog none 9 (bodyPost Tryz.prog Tryz.f151 (RR cx (iv (aB (fH a0 a1) n v1)) [] [])) cx [] (.l aCm n::aCn) (xF a0 a1 v1):=by
 intro n
 induction n with
 | zero=>intro v1 hi hn;exact absurd hn (iF _)
 | succ n ih =>
   intro v1 hi hn
   refine aG ?_
   cases h0:(decide ((v1:Int) < (a1.length:Int))) with
   | true =>
    have q0:=bY h0
    let t1:List (St Tryz.prog):=[.d h0,.i v1 (a1.length),.L fR a1 v1 0 1,.c [] (C52 (a1.getD (toNat v1) default) 0 100)]
    cases h1:(!(F52 (a1.getD (toNat v1) default) 0 100)) with
    | true =>
     have e:=Eq.refl (fH a0 a1 v1);conv at e=>rhs;simp only [fH,h0,h1,aI]
     rw [aF,e]
     exact rt (t1++[.d h1]) [] [] hcx (by kernel_rfl)
    | false =>
     have e:=Eq.refl (fH a0 a1 v1);conv at e=>rhs;simp only [fH,h0,h1,aI]
     rw [aA e]
     refine ba (t1++[.d h1]) [] [1,6] [] hcx (m:=n) aCm (aCn) (xF a0 a1 (W (v1+1))) (by kernel_rfl) ?_
     have z0:(W (v1+1))=(v1+1):=aD (by omega) (by omega)
     rw [z0]
     exact ih (v1+1) (by(try simp only [Ls]);omega) (by(try simp only [Ls]);omega)
   | false =>
    have q0:=cG h0
    let t1:List (St Tryz.prog):=[.d h0,.c [2] (aGl a1 (by omega))]
    cases h1:(((cC a1):Int) == 0) with
    | true =>
     have q1:=eq_of_beq h1
     have e:=Eq.refl (fH a0 a1 v1);conv at e=>rhs;simp only [fH,h0,h1,aI]
     rw [aF,e]
     exact rt (t1++[.d h1]) [] [] hcx (by kernel_rfl)
    | false =>
     have q1:=ne_of_beq_false h1
     have e:=Eq.refl (fH a0 a1 v1);conv at e=>rhs;simp only [fH,h0,h1,aI]
     rw [aF,e]
     exact rt (t1++[.d h1]) [] [] hcx (by kernel_rfl)
def jQ (a0:Zm)(a1:List (Int)):Int :=
 (bif (((zM (a0.1,a0.2)):Int) != 0) then
  (zM (a0.1,a0.2))
 else
  (bif (((a1.length:Int):Int) != (a0.2.length:Int)) then
   1
  else
   (aB (fH a0 a1) (toNat ((a1.length:Int) - 0)+1) 0)))
theorem aYb (a0:Zm)(a1:List (Int))(l0_1:a0.1.length≤9223372036854775807)(l0_2:a0.2.length≤9223372036854775807)(l1:a1.length≤9223372036854775807):Con Tryz.prog 151 [(.a [(.s 0 0 a0.1.length 3),(.s 1 0 a0.2.length 3)]),(.s 2 0 a1.length 1)] [(.live false true (flat dU a0.1)),(.live false true (flat eZ a0.2)),(.live false true (flat c3 a1))] (iv (jQ a0 a1)) []:=by
 refine aK Tryz.func151 (by kernel_rfl) fun cx hcx=>?_
 let t0:List (St Tryz.prog):=[.c [0,1] (C50 (a0.1,a0.2) (by(try simp only [Lt]);omega) (by(try simp only [Lt]);omega))]
 cases h0:(((zM (a0.1,a0.2)):Int) != 0) with
 | true =>
  have q0:=bne_iff_ne.1 h0
  have e:=Eq.refl (jQ a0 a1);conv at e=>rhs;simp only [jQ,h0,aI]
  rw [e]
  exact rt (t0++[.d h0]) [] [] hcx (by kernel_rfl)
 | false =>
  have q0:=bne_eq_false_iff_eq.1 h0
  let t1:List (St Tryz.prog):=(t0++[.d h0])
  cases h1:(((a1.length:Int):Int) != (a0.2.length:Int)) with
  | true =>
   have q1:=bne_iff_ne.1 h1
   have e:=Eq.refl (jQ a0 a1);conv at e=>rhs;simp only [jQ,h0,h1,aI]
   rw [e]
   exact rt (t1++[.d h1]) [] [] hcx (by kernel_rfl)
  | false =>
   have q1:=bne_eq_false_iff_eq.1 h1
   have e:=Eq.refl (jQ a0 a1);conv at e=>rhs;simp only [jQ,h0,h1,aI]
   rw [e]
   refine en (t1++[.d h1]) [] [1,6] [] hcx aCm (aCn) (xF a0 a1 0) (toNat ((a1.length:Int) - 0)+1) (by kernel_rfl) ?_
   exact aRt a0 a1 l0_1 l0_2 l1 hcx (toNat ((a1.length:Int) - 0)+1) 0 (by(try simp only [Ls]);omega) (by(try simp only [Ls]);omega)
def fK (a0:Zm)(a1:List (Int))(a2:Int):Int :=
 (bif (((jQ (a0.1,a0.2) a1):Int) != 0) then
  (jQ (a0.1,a0.2) a1)
 else
  (bif (!(F52 a2 0 2)) then
   1
  else
   0))
theorem aRu (a0:Zm)(a1:List (Int))(a2:Int)(l0_1:a0.1.length≤9223372036854775807)(l0_2:a0.2.length≤9223372036854775807)(l1:a1.length≤9223372036854775807):Con Tryz.prog 133 [(.a [(.s 0 0 a0.1.length 3),(.s 1 0 a0.2.length 3)]),(.s 2 0 a1.length 1),(iv a2)] [(.live false true (flat dU a0.1)),(.live false true (flat eZ a0.2)),(.live false true (flat c3 a1))] (iv (fK a0 a1 a2)) []:=by
 refine aK Tryz.func133 (by kernel_rfl) fun cx hcx=>?_
 let t0:List (St Tryz.prog):=[.c [0,1,2] (aYb (a0.1,a0.2) a1 (by(try simp only [Lt]);omega) (by(try simp only [Lt]);omega) (by omega))]
 cases h0:(((jQ (a0.1,a0.2) a1):Int) != 0) with
 | true =>
  have q0:=bne_iff_ne.1 h0
  have e:=Eq.refl (fK a0 a1 a2);conv at e=>rhs;simp only [fK,h0,aI]
  rw [e]
  exact rt (t0++[.d h0]) [] [] hcx (by kernel_rfl)
 | false =>
  have q0:=bne_eq_false_iff_eq.1 h0
  let t1:List (St Tryz.prog):=(t0++[.d h0,.c [] (C52 a2 0 2)])
  cases h1:(!(F52 a2 0 2)) with
  | true =>
   have e:=Eq.refl (fK a0 a1 a2);conv at e=>rhs;simp only [fK,h0,h1,aI]
   rw [e]
   exact rt (t1++[.d h1]) [] [] hcx (by kernel_rfl)
  | false =>
   have e:=Eq.refl (fK a0 a1 a2);conv at e=>rhs;simp only [fK,h0,h1,aI]
   rw [e]
   exact rt (t1++[.d h1]) [] [] hcx (by kernel_rfl)
noncomputable def aK7:Code:=(aE [1,1,0,1] [] (aH Tryz.f134) []).1
noncomputable def aK8:List K:=(aE [1,1,0,1] [] (aH Tryz.f134) []).2
def aGm (a0:Zm)(v2c:List SV)(v2n:Nat)(v3:Int):LS:=⟨iJ 41 [(1,(.p 2 0)),(3,(.s 3 0 v2n 9)),(4,(iv v3))],[(.live false true (flat dU a0.1)),(.live false true (flat eZ a0.2)),(.live true false [(.s 0 0 a0.1.length 3),(.s 1 0 a0.2.length 3)]),(.live true true v2c)]⟩
def oN (a0:Zm):(List (Zt×Zt×Zt))×Int→((List (Zt×Zt×Zt))×Int)⊕(List (Zt×Zt×Zt))
 | (v2,v3) =>
  (bif (decide ((v3:Int) < (a0.2.length:Int))) then
   (.inl ((v2++[((a0.1.getD (toNat (a0.2.getD (toNat v3) default).1) default),(a0.1.getD (toNat (a0.2.getD (toNat v3) default).2.1) default),(a0.1.getD (toNat (a0.2.getD (toNat v3) default).2.2) default))]),(v3+1)))
  else
   (.inr v2))
theorem aYc (a0:Zm)(l0_1:a0.1.length≤9223372036854775807)(l0_2:a0.2.length≤9223372036854775807)(hv:lW a0 a0.2.length)(hn:a0.2.length≤96) {cx:Cx} (hcx:cx.base=2):∀(n:Nat)(v2:List (Zt×Zt×Zt))(v3:Int),(0≤v3)∧(v2.length=toNat v3)∧(v3≤a0.2.length)→toNat ((a0.2.length:Int) - v3) < n→Aw.Good Tryz.prog none 9 (bodyPost Tryz.prog Tryz.f134 (RR cx (.s 2 0 (aB (oN a0) n (v2,v3)).length 9) [(.live true true (flat dK (aB (oN a0) n (v2,v3))))] [])) cx [] (.l aK7 n::aK8) (aGm a0 (flat dK v2) v2.length v3):=by
 intro n
 induction n with
 | zero=>intro v2 v3 hi hn;exact absurd hn (iF _)
 | succ n ih =>
   intro v2 v3 hi hn
   refine aG ?_
   have hf0:=aUn hv v3
   cases h0:(decide ((v3:Int) < (a0.2.length:Int))) with
   | true =>
    have q0:=bY h0
    have e:=Eq.refl (oN a0 (v2,v3));conv at e=>rhs;simp only [oN,h0,aI]
    rw [aA e]
    refine ba [.d h0,.i v3 (a0.2.length),.L aW a0.2 v3 0 3,.i 0 3 (by decide),.i ((a0.2.getD (toNat v3) default).1) (a0.1.length),.L bL a0.1 (a0.2.getD (toNat v3) default).1 0 3,.i 1 3 (by decide),.i ((a0.2.getD (toNat v3) default).2.1) (a0.1.length),.L bL a0.1 (a0.2.getD (toNat v3) default).2.1 0 3,.i 2 3 (by decide),.i ((a0.2.getD (toNat v3) default).2.2) (a0.1.length),.L bL a0.1 (a0.2.getD (toNat v3) default).2.2 0 3,.p (show((flat dK v2).length=v2.length*9∧v2.length+1≤2 ^ 40∧(v2.length+1)*72≤2 ^ 47) from gF cU (by omega) (by omega))] [] [1,3,4] [2,6] hcx (m:=n) aK7 (aK8) (aGm a0 (flat dK v2++[(iv (a0.1.getD (toNat (a0.2.getD (toNat v3) default).1) default).1),(iv (a0.1.getD (toNat (a0.2.getD (toNat v3) default).1) default).2.1),(iv (a0.1.getD (toNat (a0.2.getD (toNat v3) default).1) default).2.2),(iv (a0.1.getD (toNat (a0.2.getD (toNat v3) default).2.1) default).1),(iv (a0.1.getD (toNat (a0.2.getD (toNat v3) default).2.1) default).2.1),(iv (a0.1.getD (toNat (a0.2.getD (toNat v3) default).2.1) default).2.2),(iv (a0.1.getD (toNat (a0.2.getD (toNat v3) default).2.2) default).1),(iv (a0.1.getD (toNat (a0.2.getD (toNat v3) default).2.2) default).2.1),(iv (a0.1.getD (toNat (a0.2.getD (toNat v3) default).2.2) default).2.2)]) (v2.length+1) (W (v3+1))) (by kernel_rfl) ?_
    have z0:(W (v3+1))=(v3+1):=aD (by omega) (by omega)
    have z1:(flat dK v2++[(iv (a0.1.getD (toNat (a0.2.getD (toNat v3) default).1) default).1),(iv (a0.1.getD (toNat (a0.2.getD (toNat v3) default).1) default).2.1),(iv (a0.1.getD (toNat (a0.2.getD (toNat v3) default).1) default).2.2),(iv (a0.1.getD (toNat (a0.2.getD (toNat v3) default).2.1) default).1),(iv (a0.1.getD (toNat (a0.2.getD (toNat v3) default).2.1) default).2.1),(iv (a0.1.getD (toNat (a0.2.getD (toNat v3) default).2.1) default).2.2),(iv (a0.1.getD (toNat (a0.2.getD (toNat v3) default).2.2) default).1),(iv (a0.1.getD (toNat (a0.2.getD (toNat v3) default).2.2) default).2.1),(iv (a0.1.getD (toNat (a0.2.getD (toNat v3) default).2.2) default).2.2)])=(flat dK (v2++[((a0.1.getD (toNat (a0.2.getD (toNat v3) default).1) default),(a0.1.getD (toNat (a0.2.getD (toNat v3) default).2.1) default),(a0.1.getD (toNat (a0.2.getD (toNat v3) default).2.2) default))])):=(bN (c:=dK) (l:=v2) (m:=[((a0.1.getD (toNat (a0.2.getD (toNat v3) default).1) default),(a0.1.getD (toNat (a0.2.getD (toNat v3) default).2.1) default),(a0.1.getD (toNat (a0.2.getD (toNat v3) default).2.2) default))])).symm
    have z2:(v2.length+1)=(v2++[((a0.1.getD (toNat (a0.2.getD (toNat v3) default).1) default),(a0.1.getD (toNat (a0.2.getD (toNat v3) default).2.1) default),(a0.1.getD (toNat (a0.2.getD (toNat v3) default).2.2) default))]).length:=eF v2 [((a0.1.getD (toNat (a0.2.getD (toNat v3) default).1) default),(a0.1.getD (toNat (a0.2.getD (toNat v3) default).2.1) default),(a0.1.getD (toNat (a0.2.getD (toNat v3) default).2.2) default))] rfl
    rw [z0,z1,z2]
    exact ih (v2++[((a0.1.getD (toNat (a0.2.getD (toNat v3) default).1) default),(a0.1.getD (toNat (a0.2.getD (toNat v3) default).2.1) default),(a0.1.getD (toNat (a0.2.getD (toNat v3) default).2.2) default))]) (v3+1) (by refine⟨?_,?_,?_⟩<;>(try simp only [Ls])<;>first | omega | assumption | simp) (by(try simp only [Ls]);omega)
   | false =>
    have q0:=cG h0
    have e:=Eq.refl (oN a0 (v2,v3));conv at e=>rhs;simp only [oN,h0,aI]
    rw [aF,e]
    exact rt [.d h0] [] [3] hcx (by kernel_rfl)
def aN (a0:Zm):List (Zt×Zt×Zt) :=
 (aB (oN a0) (toNat ((a0.2.length:Int) - 0)+1) (([]:List (Zt×Zt×Zt)),0))
theorem bB8 (a0:Zm)(l0_1:a0.1.length≤9223372036854775807)(l0_2:a0.2.length≤9223372036854775807)(hv:lW a0 a0.2.length)(hn:a0.2.length≤96):Con Tryz.prog 134 [(.a [(.s 0 0 a0.1.length 3),(.s 1 0 a0.2.length 3)])] [(.live false true (flat dU a0.1)),(.live false true (flat eZ a0.2))] (.s 2 0 (aN a0).length 9) [(.live true true (flat dK (aN a0)))]:=by
 refine aK Tryz.func134 (by kernel_rfl) fun cx hcx=>?_
 have e:=Eq.refl (aN a0);conv at e=>rhs;simp only [aN]
 rw [e]
 refine en [] [.slot 3 9] [1,3,4] [2,3] hcx aK7 (aK8) (aGm a0 (flat dK ([]:List (Zt×Zt×Zt))) 0 0) (toNat ((a0.2.length:Int) - 0)+1) (by kernel_rfl) ?_
 exact aYc a0 l0_1 l0_2 hv hn hcx (toNat ((a0.2.length:Int) - 0)+1) ([]:List (Zt×Zt×Zt)) 0 (by refine⟨?_,?_,?_⟩<;>(try simp only [Ls])<;>first | omega | assumption | simp) (by(try simp only [Ls]);omega)
def aCo (a0:Int):Int×Int :=
 (bif (decide ((a0:Int) > 1099511627776)) then
  (0,4)
 else
  (a0,0))
theorem aYd (a0:Int):Con Tryz.prog 108 [(iv a0)] [] (.t (k2 (aCo a0))) []:=by
 refine aK Tryz.func108 (by kernel_rfl) fun cx hcx=>?_
 cases h0:(decide ((a0:Int) > 1099511627776)) with
 | true =>
  have q0:=bY h0
  have e:=Eq.refl (aCo a0);conv at e=>rhs;simp only [aCo,h0,aI]
  rw [e]
  exact rt [.d h0] [] [] hcx (by kernel_rfl)
 | false =>
  have q0:=cG h0
  have e:=Eq.refl (aCo a0);conv at e=>rhs;simp only [aCo,h0,aI]
  rw [e]
  exact rt [.d h0] [] [] hcx (by kernel_rfl)
noncomputable def aRv:Code:=(aE [1,1,1,1,1,0,1] [] (aH Tryz.f87) []).1
noncomputable def aRw:List K:=(aE [1,1,1,1,1,0,1] [] (aH Tryz.f87) []).2
def aK9 (a0:Zm)(a1:Zt)(v1 v2:Int):LS:=⟨iJ 43 [(2,(.p 2 0)),(3,(.p 3 0)),(7,(iv v1)),(8,(iv v2))],[(.live false true (flat dU a0.1)),(.live false true (flat eZ a0.2)),(.live true false [(.s 0 0 a0.1.length 3),(.s 1 0 a0.2.length 3)]),(.live true false (k3 a1))]⟩
def sO (a0:Zm)(a1:Zt):Int×Int→(Int×Int)⊕(Int×Int)
 | (v1,v2) =>
  (bif (decide ((v2:Int) < (a0.1.length:Int))) then
   (.inl ((iK v1 (aN8 (aKj (a0.1.getD (toNat v2) default) a1))),(v2+1)))
  else
   (.inr ((tM v1).1.2,(tM v1).2)))
theorem bB9 (a0:Zm)(a1:Zt)(l0_1:a0.1.length≤9223372036854775807)(l0_2:a0.2.length≤9223372036854775807) {cx:Cx} (hcx:cx.base=2):∀(n:Nat)(v1 v2:Int),0≤v2→toNat ((a0.1.length:Int) - v2) < n→Aw.Good Tryz.prog none 9 (bodyPost Tryz.prog Tryz.f87 (RR cx (.t (k2 (aB (sO a0 a1) n (v1,v2)))) [] [])) cx [] (.l aRv n::aRw) (aK9 a0 a1 v1 v2):=by
 intro n
 induction n with
 | zero=>intro v1 v2 hi hn;exact absurd hn (iF _)
 | succ n ih =>
   intro v1 v2 hi hn
   refine aG ?_
   cases h0:(decide ((v2:Int) < (a0.1.length:Int))) with
   | true =>
    have q0:=bY h0
    have e:=Eq.refl (sO a0 a1 (v1,v2));conv at e=>rhs;simp only [sO,h0,aI]
    rw [aA e]
    refine ba [.d h0,.i v2 (a0.1.length),.L bL a0.1 v2 0 3,.c [] (bEh (a0.1.getD (toNat v2) default) a1),.c [] (bEg (aKj (a0.1.getD (toNat v2) default) a1))] [] [2,3,7,8] [2,3] hcx (m:=n) aRv (aRw) (aK9 a0 a1 (iK v1 (aN8 (aKj (a0.1.getD (toNat v2) default) a1))) (W (v2+1))) (by kernel_rfl) ?_
    have z0:(W (v2+1))=(v2+1):=aD (by omega) (by omega)
    rw [z0]
    exact ih (iK v1 (aN8 (aKj (a0.1.getD (toNat v2) default) a1))) (v2+1) (by(try simp only [Ls]);omega) (by(try simp only [Ls]);omega)
   | false =>
    have q0:=cG h0
    have e:=Eq.refl (sO a0 a1 (v1,v2));conv at e=>rhs;simp only [sO,h0,aI]
    rw [aF,e]
    exact rt [.d h0,.c [] (bEm v1)] [] [] hcx (by kernel_rfl)
def F87 (a0:Zm)(a1:Zt):Int×Int :=
 (bif (((zM (a0.1,a0.2)):Int) != 0) then
  (0,(zM (a0.1,a0.2)))
 else
  (bif (!(oK a1 256)) then
   (0,1)
  else
   (aB (sO a0 a1) (toNat ((a0.1.length:Int) - 0)+1) (0,0))))
theorem C87 (a0:Zm)(a1:Zt)(l0_1:a0.1.length≤9223372036854775807)(l0_2:a0.2.length≤9223372036854775807):Con Tryz.prog 87 [(.a [(.s 0 0 a0.1.length 3),(.s 1 0 a0.2.length 3)]),(.a (k3 a1))] [(.live false true (flat dU a0.1)),(.live false true (flat eZ a0.2))] (.t (k2 (F87 a0 a1))) []:=by
 refine aK Tryz.func87 (by kernel_rfl) fun cx hcx=>?_
 let t0:List (St Tryz.prog):=[.c [0,1] (C50 (a0.1,a0.2) (by(try simp only [Lt]);omega) (by(try simp only [Lt]);omega))]
 cases h0:(((zM (a0.1,a0.2)):Int) != 0) with
 | true =>
  have q0:=bne_iff_ne.1 h0
  have e:=Eq.refl (F87 a0 a1);conv at e=>rhs;simp only [F87,h0,aI]
  rw [e]
  exact rt (t0++[.d h0]) [] [] hcx (by kernel_rfl)
 | false =>
  have q0:=bne_eq_false_iff_eq.1 h0
  let t1:List (St Tryz.prog):=(t0++[.d h0,.c [] (bEf a1 256)])
  cases h1:(!(oK a1 256)) with
  | true =>
   have e:=Eq.refl (F87 a0 a1);conv at e=>rhs;simp only [F87,h0,h1,aI]
   rw [e]
   exact rt (t1++[.d h1]) [] [] hcx (by kernel_rfl)
  | false =>
   have e:=Eq.refl (F87 a0 a1);conv at e=>rhs;simp only [F87,h0,h1,aI]
   rw [e]
   refine en (t1++[.d h1]) [] [2,3,7,8] [2,3] hcx aRv (aRw) (aK9 a0 a1 0 0) (toNat ((a0.1.length:Int) - 0)+1) (by kernel_rfl) ?_
   exact bB9 a0 a1 l0_1 l0_2 hcx (toNat ((a0.1.length:Int) - 0)+1) 0 0 (by(try simp only [Ls]);omega) (by(try simp only [Ls]);omega)
noncomputable def aRx:Code:=(aE [1,1,0,1] [] (aH Tryz.f88) []).1
noncomputable def aRy:List K:=(aE [1,1,0,1] [] (aH Tryz.f88) []).2
def aLa (a0:Zm)(v1 v2 v3 v4 v5 v6 v7:Int):LS:=⟨iJ 78 [(1,(.p 2 0)),(2,(.p 3 0)),(3,(.p 4 0)),(4,(.p 5 0)),(5,(iv v1))],[(.live false true (flat dU a0.1)),(.live false true (flat eZ a0.2)),(.live true false [(.s 0 0 a0.1.length 3),(.s 1 0 a0.2.length 3)]),(.live true false [(iv 0),(iv 0),(iv 0)]),(.live true false [(iv v2),(iv v3),(iv v4)]),(.live true false [(iv v5),(iv v6),(iv v7)])]⟩
def vL (a0:Zm):Int×Int×Int×Int×Zt→(Int×Int×Int×Int×Zt)⊕Zt
 | (v1,v2,v3,v4,v5,v6,v7) =>
  (bif (decide ((v1:Int) < (a0.1.length:Int))) then
   (.inl ((v1+1),(pG v2 (a0.1.getD (toNat v1) default).1),(pG v3 (a0.1.getD (toNat v1) default).2.1),(pG v4 (a0.1.getD (toNat v1) default).2.2),(iK v5 (a0.1.getD (toNat v1) default).1),(iK v6 (a0.1.getD (toNat v1) default).2.1),(iK v7 (a0.1.getD (toNat v1) default).2.2)))
  else
   (.inr ((Int.fdiv (W (v2+v5)) (2 ^ (min (toNat 1) 64))),(Int.fdiv (W (v3+v6)) (2 ^ (min (toNat 1) 64))),(Int.fdiv (W (v4+v7)) (2 ^ (min (toNat 1) 64))))))
theorem bCa (a0:Zm)(l0_1:a0.1.length≤9223372036854775807)(l0_2:a0.2.length≤9223372036854775807)(hp:1≤a0.1.length) {cx:Cx} (hcx:cx.base=2):∀(n:Nat)(v1 v2 v3 v4 v5 v6 v7:Int),0≤v1→toNat ((a0.1.length:Int) - v1) < n→Aw.Good Tryz.prog none 9 (bodyPost Tryz.prog Tryz.f88 (RR cx (.a (k3 (aB (vL a0) n (v1,v2,v3,v4,v5,v6,v7)))) [] [])) cx [] (.l aRx n::aRy) (aLa a0 v1 v2 v3 v4 v5 v6 v7):=by
 intro n
 induction n with
 | zero=>intro v1 v2 v3 v4 v5 v6 v7 hi hn;exact absurd hn (iF _)
 | succ n ih =>
   intro v1 v2 v3 v4 v5 v6 v7 hi hn
   refine aG ?_
   cases h0:(decide ((v1:Int) < (a0.1.length:Int))) with
   | true =>
    have q0:=bY h0
    have e:=Eq.refl (vL a0 (v1,v2,v3,v4,v5,v6,v7));conv at e=>rhs;simp only [vL,h0,aI]
    rw [aA e]
    refine ba [.d h0,.i v1 (a0.1.length),.L bL a0.1 v1 0 3] [] [1,2,3,4,5] [2,3,4,5] hcx (m:=n) aRx (aRy) (aLa a0 (W (v1+1)) (pG v2 (a0.1.getD (toNat v1) default).1) (pG v3 (a0.1.getD (toNat v1) default).2.1) (pG v4 (a0.1.getD (toNat v1) default).2.2) (iK v5 (a0.1.getD (toNat v1) default).1) (iK v6 (a0.1.getD (toNat v1) default).2.1) (iK v7 (a0.1.getD (toNat v1) default).2.2)) (by kernel_rfl) ?_
    have z0:(W (v1+1))=(v1+1):=aD (by omega) (by omega)
    rw [z0]
    exact ih (v1+1) (pG v2 (a0.1.getD (toNat v1) default).1) (pG v3 (a0.1.getD (toNat v1) default).2.1) (pG v4 (a0.1.getD (toNat v1) default).2.2) (iK v5 (a0.1.getD (toNat v1) default).1) (iK v6 (a0.1.getD (toNat v1) default).2.1) (iK v7 (a0.1.getD (toNat v1) default).2.2) (by(try simp only [Ls]);omega) (by(try simp only [Ls]);omega)
   | false =>
    have q0:=cG h0
    have e:=Eq.refl (vL a0 (v1,v2,v3,v4,v5,v6,v7));conv at e=>rhs;simp only [vL,h0,aI]
    rw [aF,e]
    exact rt [.d h0,.p (show 0≤(1:Int) from by decide),.p (show 0≤(1:Int) from by decide),.p (show 0≤(1:Int) from by decide)] [] [] hcx (by kernel_rfl)
def F88 (a0:Zm):Zt :=
 (aB (vL a0) (toNat ((a0.1.length:Int) - 1)+1) (1,(a0.1.getD (toNat 0) default).1,(a0.1.getD (toNat 0) default).2.1,(a0.1.getD (toNat 0) default).2.2,(a0.1.getD (toNat 0) default).1,(a0.1.getD (toNat 0) default).2.1,(a0.1.getD (toNat 0) default).2.2))
theorem C88 (a0:Zm)(l0_1:a0.1.length≤9223372036854775807)(l0_2:a0.2.length≤9223372036854775807)(hp:1≤a0.1.length):Con Tryz.prog 88 [(.a [(.s 0 0 a0.1.length 3),(.s 1 0 a0.2.length 3)])] [(.live false true (flat dU a0.1)),(.live false true (flat eZ a0.2))] (.a (k3 (F88 a0))) []:=by
 refine aK Tryz.func88 (by kernel_rfl) fun cx hcx=>?_
 have e:=Eq.refl (F88 a0);conv at e=>rhs;simp only [F88]
 rw [e]
 refine en [.i 0 (a0.1.length),.L bL a0.1 0 0 3,.i 0 (a0.1.length),.L bL a0.1 0 0 3] [] [1,2,3,4,5] [2,3,4,5] hcx aRx (aRy) (aLa a0 1 ((a0.1.getD (toNat 0) default).1) ((a0.1.getD (toNat 0) default).2.1) ((a0.1.getD (toNat 0) default).2.2) ((a0.1.getD (toNat 0) default).1) ((a0.1.getD (toNat 0) default).2.1) ((a0.1.getD (toNat 0) default).2.2)) (toNat ((a0.1.length:Int) - 1)+1) (by kernel_rfl) ?_
 exact bCa a0 l0_1 l0_2 hp hcx (toNat ((a0.1.length:Int) - 1)+1) 1 ((a0.1.getD (toNat 0) default).1) ((a0.1.getD (toNat 0) default).2.1) ((a0.1.getD (toNat 0) default).2.2) ((a0.1.getD (toNat 0) default).1) ((a0.1.getD (toNat 0) default).2.1) ((a0.1.getD (toNat 0) default).2.2) (by(try simp only [Ls]);omega) (by(try simp only [Ls]);omega)
noncomputable def aRz:Code:=(aE [1,1,1,1,1,0,1] [] (aH Tryz.f27) []).1
noncomputable def aR0:List K:=(aE [1,1,1,1,1,0,1] [] (aH Tryz.f27) []).2
def aLb (a0:Zm)(a1:Int)(v1 v2 v3:Int):LS:=⟨iJ 38 [(1,(iv a1)),(2,(.p 2 0)),(7,(iv v1)),(8,(iv v2)),(9,(iv v3))],[(.live false true (flat dU a0.1)),(.live false true (flat eZ a0.2)),(.live true false [(.s 0 0 a0.1.length 3),(.s 1 0 a0.2.length 3)])]⟩
def aEp (a0:Zm)(a1:Int):Zt→Zt⊕(Int×Int)
 | (v1,v2,v3) =>
  (bif (decide ((v3:Int) < a1)) then
   (.inl ((W (v1*4)),(W (v2*16)),(v3+1)))
  else
   (.inr ((W ((W ((a0.2.length:Int)*(a0.2.length:Int)))*(W (v1+v2)))),0)))
theorem bCb (a0:Zm)(a1:Int)(l0_1:a0.1.length≤9223372036854775807)(l0_2:a0.2.length≤9223372036854775807) {cx:Cx} (hcx:cx.base=2):∀(n:Nat)(v1 v2 v3:Int),(0≤v3)∧(a1≤2)→toNat (a1 - v3) < n→Aw.Good Tryz.prog none 9 (bodyPost Tryz.prog Tryz.f27 (RR cx (.t (k2 (aB (aEp a0 a1) n (v1,v2,v3)))) [] [])) cx [] (.l aRz n::aR0) (aLb a0 a1 v1 v2 v3):=by
 intro n
 induction n with
 | zero=>intro v1 v2 v3 hi hn;exact absurd hn (iF _)
 | succ n ih =>
   intro v1 v2 v3 hi hn
   refine aG ?_
   cases h0:(decide ((v3:Int) < a1)) with
   | true =>
    have q0:=bY h0
    have e:=Eq.refl (aEp a0 a1 (v1,v2,v3));conv at e=>rhs;simp only [aEp,h0,aI]
    rw [aA e]
    refine ba [.d h0] [] [1,2,7,8,9] [2] hcx (m:=n) aRz (aR0) (aLb a0 a1 (W (v1*4)) (W (v2*16)) (W (v3+1))) (by kernel_rfl) ?_
    have z0:(W (v3+1))=(v3+1):=aD (by omega) (by omega)
    rw [z0]
    exact ih (W (v1*4)) (W (v2*16)) (v3+1) (by refine⟨?_,?_⟩<;>(try simp only [Ls])<;>first | omega | assumption | simp) (by(try simp only [Ls]);omega)
   | false =>
    have q0:=cG h0
    have e:=Eq.refl (aEp a0 a1 (v1,v2,v3));conv at e=>rhs;simp only [aEp,h0,aI]
    rw [aF,e]
    exact rt [.d h0] [] [] hcx (by kernel_rfl)
def F27 (a0:Zm)(a1:Int):Int×Int :=
 (bif (((zM (a0.1,a0.2)):Int) != 0) then
  (0,(zM (a0.1,a0.2)))
 else
  (bif (!(F52 a1 0 2)) then
   (0,1)
  else
   (aB (aEp a0 a1) (toNat (a1 - 0)+1) (1,1,0))))
theorem C27 (a0:Zm)(a1:Int)(l0_1:a0.1.length≤9223372036854775807)(l0_2:a0.2.length≤9223372036854775807):Con Tryz.prog 27 [(.a [(.s 0 0 a0.1.length 3),(.s 1 0 a0.2.length 3)]),(iv a1)] [(.live false true (flat dU a0.1)),(.live false true (flat eZ a0.2))] (.t (k2 (F27 a0 a1))) []:=by
 refine aK Tryz.func27 (by kernel_rfl) fun cx hcx=>?_
 try have hw1:=aCh h1
 let t0:List (St Tryz.prog):=[.c [0,1] (C50 (a0.1,a0.2) (by(try simp only [Lt]);omega) (by(try simp only [Lt]);omega))]
 cases h0:(((zM (a0.1,a0.2)):Int) != 0) with
 | true =>
  have q0:=bne_iff_ne.1 h0
  try have hw1:=aCh h1
  have e:=Eq.refl (F27 a0 a1);conv at e=>rhs;simp only [F27,h0,aI]
  rw [e]
  exact rt (t0++[.d h0]) [] [] hcx (by kernel_rfl)
 | false =>
  have q0:=bne_eq_false_iff_eq.1 h0
  try have hw1:=aCh h1
  let t1:List (St Tryz.prog):=(t0++[.d h0,.c [] (C52 a1 0 2)])
  cases h1:(!(F52 a1 0 2)) with
  | true =>
   try have hw1:=aCh h1
   have e:=Eq.refl (F27 a0 a1);conv at e=>rhs;simp only [F27,h0,h1,aI]
   rw [e]
   exact rt (t1++[.d h1]) [] [] hcx (by kernel_rfl)
  | false =>
   try have hw1:=aCh h1
   have e:=Eq.refl (F27 a0 a1);conv at e=>rhs;simp only [F27,h0,h1,aI]
   rw [e]
   refine en (t1++[.d h1]) [] [1,2,7,8,9] [2] hcx aRz (aR0) (aLb a0 a1 1 1 0) (toNat (a1 - 0)+1) (by kernel_rfl) ?_
   exact bCb a0 a1 l0_1 l0_2 hcx (toNat (a1 - 0)+1) 1 1 0 (by refine⟨?_,?_⟩<;>(try simp only [Ls])<;>first | omega | assumption | simp) (by(try simp only [Ls]);omega)
def nW:Zm :=
 (([(1,0,0),((-1),0,0),(0,1,0),(0,(-1),0),(0,0,1),(0,0,(-1))]:List Zt),([(0,2,4),(2,1,4),(1,3,4),(3,0,4),(2,0,5),(1,2,5),(3,1,5),(0,3,5)]:List Zt))
theorem C29:Con Tryz.prog 29 [] [] (.a [(.s 0 0 nW.1.length 3),(.s 1 0 nW.2.length 3)]) [(.live true true (flat dU nW.1)),(.live true true (flat eZ nW.2))]:=by
 refine aK Tryz.func29 (by kernel_rfl) fun cx hcx=>?_
 have e:=Eq.refl nW;conv at e=>rhs;simp only [nW]
 rw [e]
 exact rt [] [.sym 1 true,.sym 2 true] [1,2] hcx (by kernel_rfl)
def F9 (a0:Zm)(a1:Int):Bool :=
 (bif (decide (((a0.1.length:Int):Int) > 200)) then
  true
 else
  (bif (decide (((a0.2.length:Int):Int) > 200)) then
   true
  else
   (bif (((F27 (a0.1,a0.2) a1).2:Int) == 0) then
    (decide (((F27 (a0.1,a0.2) a1).1:Int) > 20000))
   else
    false)))
theorem C9 (a0:Zm)(a1:Int)(l0_1:a0.1.length≤9223372036854775807)(l0_2:a0.2.length≤9223372036854775807):Con Tryz.prog 9 [(.a [(.s 0 0 a0.1.length 3),(.s 1 0 a0.2.length 3)]),(iv a1)] [(.live false true (flat dU a0.1)),(.live false true (flat eZ a0.2))] (.v (.bool (F9 a0 a1))) []:=by
 refine aK Tryz.func9 (by kernel_rfl) fun cx hcx=>?_
 cases h0:(decide (((a0.1.length:Int):Int) > 200)) with
 | true =>
  have q0:=bY h0
  have e:=Eq.refl (F9 a0 a1);conv at e=>rhs;simp only [F9,h0,aI]
  rw [e]
  exact rt [.d h0] [] [] hcx (by kernel_rfl)
 | false =>
  have q0:=cG h0
  let t1:List (St Tryz.prog):=[.d h0]
  cases h1:(decide (((a0.2.length:Int):Int) > 200)) with
  | true =>
   have q1:=bY h1
   have e:=Eq.refl (F9 a0 a1);conv at e=>rhs;simp only [F9,h0,h1,aI]
   rw [e]
   exact rt (t1++[.d h1]) [] [] hcx (by kernel_rfl)
  | false =>
   have q1:=cG h1
   let t2:List (St Tryz.prog):=(t1++[.d h1,.c [0,1] (C27 (a0.1,a0.2) a1 (by(try simp only [Lt]);omega) (by(try simp only [Lt]);omega))])
   cases h2:(((F27 (a0.1,a0.2) a1).2:Int) == 0) with
   | true =>
    have q2:=eq_of_beq h2
    have e:=Eq.refl (F9 a0 a1);conv at e=>rhs;simp only [F9,h0,h1,h2,aI]
    rw [e]
    exact rt (t2++[.d h2]) [] [] hcx (by kernel_rfl)
   | false =>
    have q2:=ne_of_beq_false h2
    have e:=Eq.refl (F9 a0 a1);conv at e=>rhs;simp only [F9,h0,h1,h2,aI]
    rw [e]
    exact rt (t2++[.d h2]) [] [] hcx (by kernel_rfl)
theorem aYe {s n:Int} (hs:s=1∨s=2∨s=4∨s=8)(h1:1≤n)(h2:n≤1099511627776):1≤(zK s n).1:=by
 unfold zK
 rw [if_neg (by omega)]
 unfold inv
 have hN:1099511627776≤NN s:=by rcases hs with rfl | rfl | rfl | rfl<;>decide
 have hb:=aB1 hs
 obtain⟨q1,q2,q3⟩:=mW hb.1 h1
 have hq:1≤NN s / n:=Int.le_ediv_of_mul_le (by omega) (by omega)
 have hr:=wT (n:=NN s / n) q1 (by omega)
 exact hr.ge (by omega) (by omega)
theorem aM1 {p c q:PN} {d:Int} (hp:vp p=0)(hd:0≤d∧d≤3)(hc:c∈aR d.toNat p):1≤fa3 c q:=by
 obtain⟨g1,g2,g3⟩:=aKb c q
 obtain⟨hb,hn⟩:=gD hp
 have h:=aQf c q.1 g1 g2 g3
 rw [aKe hb hd hc] at h
 rcases Int.lt_or_le (fa3 c q) 1 with h' | h'
 · have h0:0≤fa3 c q:=Int.le_trans (uX _) g1
   have:fa3 c q=0:=by omega
   rw [this] at h;omega
 · exact h'
theorem aLc {α:Type} {g:α→Int}:∀(l:List α),(∀c∈l,1≤g c)→(l.length:Int)≤(l.map g).sum
 | [],_=>by simp
 | c::l,h=>by
   have h1:=h c List.mem_cons_self
   have h2:=aLc l (fun c hc=>h c (List.mem_cons_of_mem _ hc))
   simp only [List.map_cons,List.sum_cons,List.length_cons];omega
theorem aYf {v n:Int} (hn:1≤n)(h:n≤v):1≤v / n:=Int.le_ediv_of_mul_le (by omega) (by omega)
theorem aUq {p q:PN} {d:Int} (hp:vp p=0)(hq:bdP 5000 q)(hd:0≤d∧d≤3):1≤(gZ p q d).1:=by
 have hlen:=mK hd p
 have hc:=kM d
 unfold gZ avg
 rw [vJ]
 simp only [Int.zero_add]
 refine aYf (by omega) ?_
 rw [←hlen]
 refine aLc _ (fun c hcm=>?_)
 have hcb:=(oJ (gD hp).1 hd hcm).mono (show(512:Int)≤5000 by omega)
 have:=aKa hcb hq
 exact aYe (qG d) (aM1 hp hd hcm) (by omega)
def okP (a:Int×Int):Prop:=1≤a.1∧a.1≤a.2∧a.2≤536870913
theorem aM2 {p q:PN} {d:Int} (hp:vp p=0)(hq:bdP 5000 q)(hd:0≤d∧d≤3):okP (gZ p q d):=by
 have h1:=aUq hp hq hd
 have h2:=aQo (q:=q) hp hd
 unfold okE at h2
 exact⟨h1,h2.2.1,h2.2.2⟩
theorem xG {p q:PN} {d:Int} (h:pk p q d=0):uA p q d=(gZ p (lF (sc d) q) d,0):=by
 unfold uA
 rw [aAe,h]
 obtain⟨h1,h2,h3⟩:=vE h
 have hs:=aMq d
 have hq:=(gD h2).1
 have hq':=hq.mono (show(64:Int)≤4096 by omega)
 have hd:0≤d∧d≤3:=by omega
 have e1:=aQg h1 (aF7 hs hq) hd
 unfold lF at e1 ⊢
 rw [aXj hd,aN7 hs hq'.1,aN7 hs hq'.2.1,aN7 hs hq'.2.2,e1];rfl
theorem kH {p q:PN} {d:Int} (h:pk p q d=0):(uA p q d).2=0∧okP (uA p q d).1:=by
 rw [xG h]
 obtain⟨h1,h2,h3⟩:=vE h
 exact⟨rfl,aM2 h1 (aF7 (aMq d) (gD h2).1) (by omega)⟩
theorem oO {p q:PN} {d:Int} (h:pk p q d=0):(pM p q d).2=0∧okP (pM p q d).1:=by
 rw [aB7]
 obtain⟨h1,h2,h3⟩:=vE h
 have hd:0≤d∧d≤3:=by omega
 unfold aGb
 rw [if_pos h]
 refine⟨rfl,?_⟩
 have hl:=aB6 (p:=p) (q:=q) hd
 have hc:=kM d
 have hpos:∀a∈tJ p q d,okP a:=by
   intro a ha
   obtain⟨b,hb,rfl⟩:=List.mem_map.1 ha
   exact aM2 h1 ((oJ (gD h2).1 hd hb).mono (by omega)) hd
 have hs1:sc d*sc d≤((tJ p q d).map (·.1)).sum:=by rw [←hl];exact aLc _ (fun a ha=>(hpos a ha).1)
 have key:∀l:List (Int×Int),(∀a∈l,okP a)→(l.map (·.1)).sum≤(l.map (·.2)).sum∧(l.map (·.2)).sum≤536870913*(l.length:Nat):=by
   intro l
   induction l with
   | nil=>intro _;simp
   | cons c l ih =>
     intro h
     obtain⟨a1,a2,a3⟩:=h c List.mem_cons_self
     have h2:=ih (fun c hc=>h c (List.mem_cons_of_mem _ hc))
     simp only [List.map_cons,List.sum_cons,List.length_cons];omega
 have hk:=key _ hpos
 rw [hl] at hk
 rw [rG]
 unfold avg okP
 simp only [Int.zero_add]
 generalize ((tJ p q d).map (·.1)).sum=x at *
 generalize ((tJ p q d).map (·.2)).sum=y at *
 rcases hc with e | e | e | e<;>rw [e] at hs1 hk ⊢<;>omega
theorem aLd (m:ME):∀(n i:Nat)(v:List (P3×Bool)),m.1.length - i < n→aB (eN m) n (v,(i:Int))=0→∀j,i≤j→j < m.1.length→bd 64 (m.1.getD j default):=by
 intro n
 induction n with
 | zero=>intro i v h;omega
 | succ n ih =>
   intro i v hn h j h1 h2
   have hw:((i:Nat):Int) < (m.1.length:Int):=by omega
   cases hr:F36 (m.1.getD i default) 64 with
   | false =>
     have e1:eN m (v,(i:Int))=.inr 1:=by
       simp only [eN];rw [bV hw,cond_true,uC,hr];rfl
     rw [aO e1] at h;exact absurd h (by decide)
   | true =>
     cases hg:aV v (m.1.getD i default) false with
     | true =>
       have e1:eN m (v,(i:Int))=.inr 1:=by
         simp only [eN];rw [bV hw,cond_true,uC,hr,hg];rfl
       rw [aO e1] at h;exact absurd h (by decide)
     | false =>
       have e1:eN m (v,(i:Int))=.inl (cH v (m.1.getD i default) true,((i+1:Nat):Int)):=by
         simp only [eN];rw [bV hw,cond_true,uC,hr,hg];rfl
       rw [aA e1] at h
       by_cases hj:j=i
       · subst hj
         classical
         rw [lR] at hr
         exact bY hr
       · exact ih (i+1) _ (by omega) h j (by omega) h2
theorem aUr {m:ME} (h:fU m=0):∀j,j < m.1.length→bd 64 (m.1.getD j default):=by
 obtain⟨_,_,_,h4,_⟩:=iA h
 exact fun j hj=>aLd m _ 0 [] (by omega) h4 j (Nat.zero_le _) hj
theorem aGn {m:ME} (h:fU m=0):∀c∈m.2,vp (eL m c)=0:=by
 intro c hc
 obtain⟨i,hi⟩:=List.getElem?_of_mem hc
 obtain⟨hlt,_⟩:=List.getElem?_eq_some_iff.1 hi
 have hpt:=aUr h
 obtain⟨h64,_,_,_,hf⟩:=iA h
 have hfc:=hf (i:Int) (by omega) (by omega)
 rw [bB hi] at hfc
 have hin:inF m.1.length c:=mL (m:=m) (by rw [hfc];rfl) h64
 have hb:bdP 64 (eL m c):=⟨hpt _ (by have:=hin.1;omega),hpt _ (by have:=hin.2.1;omega),hpt _ (by have:=hin.2.2;omega)⟩
 unfold F69 at hfc
 have hw:W ((m.1.length:Int) - 1)=(m.1.length:Int) - 1:=aD (by omega) (by omega)
 have fr:∀x:Int,0≤x∧x < (m.1.length:Int)→(!qB x 0 (W ((m.1.length:Int) - 1)))=false:=by
   intro x hx
   unfold qB
   rw [hw,bV hx.1,bV (show x≤(m.1.length:Int) - 1 by omega)];rfl
 rw [fr _ hin.1,fr _ hin.2.1,fr _ hin.2.2,cond_false,cond_false,cond_false,show nL (eL (m.1,m.2) c)=lD (eL m c) from aVx hb] at hfc
 unfold vp
 rw [if_pos hb]
 generalize lD (eL m c)=q at hfc ⊢
 by_cases hz:q.1=0∧q.2.1=0∧q.2.2=0
 · rw [hz.1,hz.2.1,hz.2.2] at hfc;exact absurd hfc (by decide)
 · rw [if_neg hz]
theorem lX {m:ME} (h:fU m=0) {d:Int} (hd:0≤d∧d≤2) {p q:PN} (hp:p∈m.2.map (eL m))(hq:q∈m.2.map (eL m)):pk p q d=0:=by
 obtain⟨a,ha,rfl⟩:=List.mem_map.1 hp
 obtain⟨b,hb,rfl⟩:=List.mem_map.1 hq
 unfold pk
 rw [if_pos (aGn h a ha),if_pos (aGn h b hb),if_pos hd]
theorem aYg {α:Type} {n:Nat} {t:List (List α)} (h:∀r∈t,r.length=n)(j:Int):(0≤j∧j < (t.length:Int))→(t.getD (toNat j) default).length=n:=fun g=>by
 have hlt:toNat j < t.length:=by omega
 rw [fL,List.getElem?_eq_getElem hlt,Option.getD_some]
 exact h _ (List.getElem_mem hlt)
theorem aYh {α:Type} {n:Nat} {t:List (List α)} (h:∀r∈t,r.length≤n)(j:Int):(0≤j∧j < (t.length:Int))→(t.getD (toNat j) default).length≤n:=fun g=>by
 have hlt:toNat j < t.length:=by omega
 rw [fL,List.getElem?_eq_getElem hlt,Option.getD_some]
 exact h _ (List.getElem_mem hlt)
noncomputable def xH:Code:=(aE [1,1,0,1] [] (aH Tryz.f96) []).1
noncomputable def xI:List K:=(aE [1,1,0,1] [] (aH Tryz.f96) []).2
def tO (a0:List (Int×Int))(a1:List (Int))(v2c:List SV)(v2n:Nat)(v3:Int):LS:=⟨iJ 40 [(1,(.s 1 0 a1.length 1)),(4,(.p 2 0)),(6,(.s 3 0 v2n 2)),(11,(.s 0 0 a0.length 2)),(12,(iv (a0.length:Int))),(13,(iv v3))],[(.live false true (flat cO a0)),(.live false true (flat c3 a1)),(.live true false [(iv 0),(iv 0)]),(.live true true v2c)]⟩
def dV (a0:List (Int×Int))(a1:List (Int)):(List (Int×Int))×Int→((List (Int×Int))×Int)⊕((Int×Int)×Int)
 | (v2,v3) =>
  (bif (decide ((v3:Int) < (a0.length:Int))) then
   (bif (((nQ (a0.getD (toNat v3) default) (a1.getD (toNat v3) default)).2:Int) != 0) then
    (.inr ((0,0),(nQ (a0.getD (toNat v3) default) (a1.getD (toNat v3) default)).2))
   else
    (.inl ((v2++[(nQ (a0.getD (toNat v3) default) (a1.getD (toNat v3) default)).1]),(v3+1))))
  else
   (.inr ((kJ v2).1,(kJ v2).2)))
theorem aOc (a0:List (Int×Int))(a1:List (Int))(l0:a0.length≤9223372036854775807)(l1:a1.length≤9223372036854775807)(hl:a0.length≤a1.length)(hn:a0.length≤9216) {cx:Cx} (hcx:cx.base=2):∀(n:Nat)(v2:List (Int×Int))(v3:Int),(0≤v3)∧(v2.length=toNat v3)∧(v3≤a0.length)→toNat ((a0.length:Int) - v3) < n→Aw.Good Tryz.prog none 9 (bodyPost Tryz.prog Tryz.f96 (RR cx (.t [(.a (k2 (aB (dV a0 a1) n (v2,v3)).1)),(iv (aB (dV a0 a1) n (v2,v3)).2)]) [] [])) cx [] (.l xH n::xI) (tO a0 a1 (flat cO v2) v2.length v3):=by
 intro n
 induction n with
 | zero=>intro v2 v3 hi hn;exact absurd hn (iF _)
 | succ n ih =>
   intro v2 v3 hi hn
   refine aG ?_
   cases h0:(decide ((v3:Int) < (a0.length:Int))) with
   | true =>
    have q0:=bY h0
    let t1:List (St Tryz.prog):=[.d h0,.i v3 (a0.length),.L bZ a0 v3 0 2,.i v3 (a1.length),.L fR a1 v3 0 1,.c [] (C17 (a0.getD (toNat v3) default) (a1.getD (toNat v3) default))]
    cases h1:(((nQ (a0.getD (toNat v3) default) (a1.getD (toNat v3) default)).2:Int) != 0) with
    | true =>
     have q1:=bne_iff_ne.1 h1
     have e:=Eq.refl (dV a0 a1 (v2,v3));conv at e=>rhs;simp only [dV,h0,h1,aI]
     rw [aF,e]
     exact rt (t1++[.d h1]) [] [] hcx (by kernel_rfl)
    | false =>
     have q1:=bne_eq_false_iff_eq.1 h1
     have e:=Eq.refl (dV a0 a1 (v2,v3));conv at e=>rhs;simp only [dV,h0,h1,aI]
     rw [aA e]
     refine ba (t1++[.d h1,.p (show((flat cO v2).length=v2.length*2∧v2.length+1≤2 ^ 40∧(v2.length+1)*16≤2 ^ 47) from gF bZ (by omega) (by omega))]) [] [1,4,6,11,12,13] [2,7] hcx (m:=n) xH (xI) (tO a0 a1 (flat cO v2++(k2 (nQ (a0.getD (toNat v3) default) (a1.getD (toNat v3) default)).1)) (v2.length+1) (W (v3+1))) (by kernel_rfl) ?_
     have z0:(W (v3+1))=(v3+1):=aD (by omega) (by omega)
     have z1:(flat cO v2++(k2 (nQ (a0.getD (toNat v3) default) (a1.getD (toNat v3) default)).1))=(flat cO (v2++[(nQ (a0.getD (toNat v3) default) (a1.getD (toNat v3) default)).1])):=(bN (c:=cO) (l:=v2) (m:=[(nQ (a0.getD (toNat v3) default) (a1.getD (toNat v3) default)).1])).symm
     have z2:(v2.length+1)=(v2++[(nQ (a0.getD (toNat v3) default) (a1.getD (toNat v3) default)).1]).length:=eF v2 [(nQ (a0.getD (toNat v3) default) (a1.getD (toNat v3) default)).1] rfl
     rw [z0,z1,z2]
     exact ih (v2++[(nQ (a0.getD (toNat v3) default) (a1.getD (toNat v3) default)).1]) (v3+1) (by refine⟨?_,?_,?_⟩<;>(try simp only [Ls])<;>first | omega | assumption | simp) (by(try simp only [Ls]);omega)
   | false =>
    have q0:=cG h0
    have e:=Eq.refl (dV a0 a1 (v2,v3));conv at e=>rhs;simp only [dV,h0,aI]
    rw [aF,e]
    exact rt [.d h0,.c [3] (aWz v2 (by omega))] [] [] hcx (by kernel_rfl)
def dC (a0:List (Int×Int))(a1:List (Int)):(Int×Int)×Int :=
 (aB (dV a0 a1) (toNat ((a0.length:Int) - 0)+1) (([]:List (Int×Int)),0))
theorem aM3 (a0:List (Int×Int))(a1:List (Int))(l0:a0.length≤9223372036854775807)(l1:a1.length≤9223372036854775807)(hl:a0.length≤a1.length)(hn:a0.length≤9216):Con Tryz.prog 96 [(.s 0 0 a0.length 2),(.s 1 0 a1.length 1)] [(.live false true (flat cO a0)),(.live false true (flat c3 a1))] (.t [(.a (k2 (dC a0 a1).1)),(iv (dC a0 a1).2)]) []:=by
 refine aK Tryz.func96 (by kernel_rfl) fun cx hcx=>?_
 have e:=Eq.refl (dC a0 a1);conv at e=>rhs;simp only [dC]
 rw [e]
 refine en [] [.slot 6 2] [1,4,6,11,12,13] [2,3] hcx xH (xI) (tO a0 a1 (flat cO ([]:List (Int×Int))) 0 0) (toNat ((a0.length:Int) - 0)+1) (by kernel_rfl) ?_
 exact aOc a0 a1 l0 l1 hl hn hcx (toNat ((a0.length:Int) - 0)+1) ([]:List (Int×Int)) 0 (by refine⟨?_,?_,?_⟩<;>(try simp only [Ls])<;>first | omega | assumption | simp) (by(try simp only [Ls]);omega)
def eV (x:List (Int×Int)):List SV:=[(.d (flat cO x) x.length 2)]
theorem vM (x:List (Int×Int)):(eV x).length=1:=rfl
noncomputable def xJ:Code:=(aE [1,1,1,1,0,1,0,1,1,0,1,1,0,1] [0] (aH Tryz.f59) []).1
noncomputable def xK (m0:Nat):List K:=(aE [1,1,1,1,0,1,0,1,1,0,1,1,0,1] [m0] (aH Tryz.f59) []).2
def tP (a0:Zm)(a1:Int)(v10c:List SV)(v10n:Nat)(v11c:List SV)(v11n:Nat)(v12 v13 v14 v15 v16 v17 v18 v19 v20 v21 v22:Int):LS:=⟨iJ 60 [(1,(iv a1)),(2,(.v (.func (.func 60) #[] #[]))),(8,(.s 2 0 (bF (a0.1,a0.2)).1.length 9)),(10,(.s 3 0 v10n 1)),(12,(.p 4 0)),(13,(.s 5 0 v11n 2)),(26,(.s 2 0 (bF (a0.1,a0.2)).1.length 9)),(27,(iv (((bF (a0.1,a0.2)).1.length:Nat):Int))),(28,(iv v12)),(32,(.s 2 0 (bF (a0.1,a0.2)).1.length 9)),(33,(iv (((bF (a0.1,a0.2)).1.length:Nat):Int))),(34,(iv v13))],[(.live false true (flat dU a0.1)),(.live false true (flat eZ a0.2)),(.live true true (flat dK (bF (a0.1,a0.2)).1)),(.live true true v10c),(.live true false [(iv v14),(iv v15),(iv v16),(iv v17),(iv v18),(iv v19),(iv v20),(iv v21),(iv v22)]),(.live true true v11c)]⟩
def eQ (a0:Zm)(a1:Int):(List (List (Int×Int)))×(List (Int×Int))×Int×Int×Int×Int×Int×Int×Int×Int×Zt→((List (List (Int×Int)))×(List (Int×Int))×Int×Int×Int×Int×Int×Int×Int×Int×Zt)⊕(((List (List (Int×Int)))×Int)⊕((List (List (Int×Int)))×Int))
 | (v10,v11,v12,v13,v14,v15,v16,v17,v18,v19,v20,v21,v22) =>
  (bif (decide ((v13:Int) < (((bF (a0.1,a0.2)).1.length:Nat):Int))) then
   (bif (((uA ((bF (a0.1,a0.2)).1.getD (toNat v13) default) ((v14,v15,v16),(v17,v18,v19),(v20,v21,v22)) a1).2:Int) != 0) then
    (.inr (.inr (([]:List (List (Int×Int))),(uA ((bF (a0.1,a0.2)).1.getD (toNat v13) default) ((v14,v15,v16),(v17,v18,v19),(v20,v21,v22)) a1).2)))
   else
    (.inl (v10,(v11++[(uA ((bF (a0.1,a0.2)).1.getD (toNat v13) default) ((v14,v15,v16),(v17,v18,v19),(v20,v21,v22)) a1).1]),v12,(v13+1),v14,v15,v16,v17,v18,v19,v20,v21,v22)))
  else
   (.inr (.inl ((v10++[v11]),(v12+1)))))
noncomputable def rK:Code:=(aE [1,1,1,1,0,1] [] (aH Tryz.f59) []).1
noncomputable def rL:List K:=(aE [1,1,1,1,0,1] [] (aH Tryz.f59) []).2
def oP (a0:Zm)(a1:Int)(v8c:List SV)(v8n:Nat)(v9:Int):LS:=⟨iJ 60 [(1,(iv a1)),(2,(.v (.func (.func 60) #[] #[]))),(8,(.s 2 0 (bF (a0.1,a0.2)).1.length 9)),(10,(.s 3 0 v8n 1)),(26,(.s 2 0 (bF (a0.1,a0.2)).1.length 9)),(27,(iv (((bF (a0.1,a0.2)).1.length:Nat):Int))),(28,(iv v9))],[(.live false true (flat dU a0.1)),(.live false true (flat eZ a0.2)),(.live true true (flat dK (bF (a0.1,a0.2)).1)),(.live true true v8c)]⟩
def dA (a0:Zm)(a1:Int):(List (List (Int×Int)))×Int→((List (List (Int×Int)))×Int)⊕((List (List (Int×Int)))×Int)
 | (v8,v9) =>
  (bif (decide ((v9:Int) < (((bF (a0.1,a0.2)).1.length:Nat):Int))) then
   (aB (eQ a0 a1) (toNat ((((bF (a0.1,a0.2)).1.length:Nat):Int) - 0)+1) (v8,([]:List (Int×Int)),v9,0,((bF (a0.1,a0.2)).1.getD (toNat v9) default).1.1,((bF (a0.1,a0.2)).1.getD (toNat v9) default).1.2.1,((bF (a0.1,a0.2)).1.getD (toNat v9) default).1.2.2,((bF (a0.1,a0.2)).1.getD (toNat v9) default).2.1.1,((bF (a0.1,a0.2)).1.getD (toNat v9) default).2.1.2.1,((bF (a0.1,a0.2)).1.getD (toNat v9) default).2.1.2.2,((bF (a0.1,a0.2)).1.getD (toNat v9) default).2.2.1,((bF (a0.1,a0.2)).1.getD (toNat v9) default).2.2.2.1,((bF (a0.1,a0.2)).1.getD (toNat v9) default).2.2.2.2))
  else
   (.inr (v8,0)))
theorem aOd (a0:Zm)(a1:Int)(l0_1:a0.1.length≤9223372036854775807)(l0_2:a0.2.length≤9223372036854775807) {cx:Cx} (hcx:cx.base=2)
   (n0:Nat) (g0:∀(v8:List (List (Int×Int))) (v9:Int),(0≤v9)∧(v8.length=toNat v9)∧(v9≤(bF (a0.1,a0.2)).1.length)→toNat ((((bF (a0.1,a0.2)).1.length:Nat):Int) - v9) < n0→Aw.Good Tryz.prog none 9 (bodyPost Tryz.prog Tryz.f59 (RR cx (.t [(.s 2 0 (aB (dA a0 a1) n0 (v8,v9)).1.length 1),(iv (aB (dA a0 a1) n0 (v8,v9)).2)]) [(.live true true (flat eV (aB (dA a0 a1) n0 (v8,v9)).1))] [])) cx [] (.l rK n0::rL) (oP a0 a1 (flat eV v8) v8.length v9)):∀(n:Nat) (v10:List (List (Int×Int))) (v11:List (Int×Int)) (v12 v13 v14 v15 v16 v17 v18 v19 v20 v21 v22:Int),(0≤v13)∧(v11.length=toNat v13)∧(v13≤(bF (a0.1,a0.2)).1.length)∧(v10.length=toNat v12)∧(0≤v12)∧(v12 < (bF (a0.1,a0.2)).1.length)∧((0≤v12))∧((v10.length=toNat v12))∧((v12≤(bF (a0.1,a0.2)).1.length))∧(v12 < (((bF (a0.1,a0.2)).1.length:Nat):Int))∧(toNat ((((bF (a0.1,a0.2)).1.length:Nat):Int) - v12) < n0+1)→toNat ((((bF (a0.1,a0.2)).1.length:Nat):Int) - v13) < n→Aw.Good Tryz.prog none 9 (bodyPost Tryz.prog Tryz.f59 (RR cx (.t [(.s 2 0 (iX (dA a0 a1) n0 (aB (eQ a0 a1) n (v10,v11,v12,v13,v14,v15,v16,v17,v18,v19,v20,v21,v22))).1.length 1),(iv (iX (dA a0 a1) n0 (aB (eQ a0 a1) n (v10,v11,v12,v13,v14,v15,v16,v17,v18,v19,v20,v21,v22))).2)]) [(.live true true (flat eV (iX (dA a0 a1) n0 (aB (eQ a0 a1) n (v10,v11,v12,v13,v14,v15,v16,v17,v18,v19,v20,v21,v22))).1))] [])) cx [] (.l xJ n::xK n0) (tP a0 a1 (flat eV v10) v10.length (flat cO v11) v11.length v12 v13 v14 v15 v16 v17 v18 v19 v20 v21 v22):=by
 intro n
 induction n with
 | zero=>intro v10 v11 v12 v13 v14 v15 v16 v17 v18 v19 v20 v21 v22 hi hn;exact absurd hn (iF _)
 | succ n ih =>
   intro v10 v11 v12 v13 v14 v15 v16 v17 v18 v19 v20 v21 v22 hi hn
   refine aG ?_
   have hpl:=rI (a0.1,a0.2)
   cases h0:(decide ((v13:Int) < (((bF (a0.1,a0.2)).1.length:Nat):Int))) with
   | true =>
    have q0:=bY h0
    let t1:List (St Tryz.prog):=[.d h0,.i v13 ((bF (a0.1,a0.2)).1.length),.L cU (bF (a0.1,a0.2)).1 v13 0 9,.c [] (C60 ((bF (a0.1,a0.2)).1.getD (toNat v13) default) ((v14,v15,v16),(v17,v18,v19),(v20,v21,v22)) a1)]
    cases h1:(((uA ((bF (a0.1,a0.2)).1.getD (toNat v13) default) ((v14,v15,v16),(v17,v18,v19),(v20,v21,v22)) a1).2:Int) != 0) with
    | true =>
     have q1:=bne_iff_ne.1 h1
     have e:=Eq.refl (eQ a0 a1 (v10,v11,v12,v13,v14,v15,v16,v17,v18,v19,v20,v21,v22));conv at e=>rhs;simp only [eQ,h0,h1,aI]
     rw [aF,e]
     exact rt (t1++[.d h1]) [.slot 6 1] [8] hcx (by kernel_rfl)
    | false =>
     have q1:=bne_eq_false_iff_eq.1 h1
     have e:=Eq.refl (eQ a0 a1 (v10,v11,v12,v13,v14,v15,v16,v17,v18,v19,v20,v21,v22));conv at e=>rhs;simp only [eQ,h0,h1,aI]
     rw [aA e]
     refine ba (t1++[.d h1,.p (show((flat cO v11).length=v11.length*2∧v11.length+1≤2 ^ 40∧(v11.length+1)*16≤2 ^ 47) from gF bZ (by omega) (by omega))]) [] [1,2,8,10,12,13,26,27,28,32,33,34] [2,3,4,9] hcx (m:=n) xJ (xK n0) (tP a0 a1 (flat eV v10) (v10.length) (flat cO v11++(k2 (uA ((bF (a0.1,a0.2)).1.getD (toNat v13) default) ((v14,v15,v16),(v17,v18,v19),(v20,v21,v22)) a1).1)) (v11.length+1) v12 (W (v13+1)) v14 v15 v16 v17 v18 v19 v20 v21 v22) (by kernel_rfl) ?_
     have z0:(W (v13+1))=(v13+1):=aD (by omega) (by omega)
     have z1:(flat cO v11++(k2 (uA ((bF (a0.1,a0.2)).1.getD (toNat v13) default) ((v14,v15,v16),(v17,v18,v19),(v20,v21,v22)) a1).1))=(flat cO (v11++[(uA ((bF (a0.1,a0.2)).1.getD (toNat v13) default) ((v14,v15,v16),(v17,v18,v19),(v20,v21,v22)) a1).1])):=(bN (c:=cO) (l:=v11) (m:=[(uA ((bF (a0.1,a0.2)).1.getD (toNat v13) default) ((v14,v15,v16),(v17,v18,v19),(v20,v21,v22)) a1).1])).symm
     have z2:(v11.length+1)=(v11++[(uA ((bF (a0.1,a0.2)).1.getD (toNat v13) default) ((v14,v15,v16),(v17,v18,v19),(v20,v21,v22)) a1).1]).length:=eF v11 [(uA ((bF (a0.1,a0.2)).1.getD (toNat v13) default) ((v14,v15,v16),(v17,v18,v19),(v20,v21,v22)) a1).1] rfl
     rw [z0,z1,z2]
     exact ih v10 (v11++[(uA ((bF (a0.1,a0.2)).1.getD (toNat v13) default) ((v14,v15,v16),(v17,v18,v19),(v20,v21,v22)) a1).1]) v12 (v13+1) v14 v15 v16 v17 v18 v19 v20 v21 v22 (by refine⟨?_,?_,?_,?_,?_,?_,?_,?_,?_,?_,?_⟩<;>(try simp only [Ls])<;>first | omega | assumption | exact hi.2.1 | exact hi.2.2.1 | exact hi.2.2.2.1 | exact hi.2.2.2.2.1 | exact hi.2.2.2.2.2.1 | exact hi.2.2.2.2.2.2.1 | exact hi.2.2.2.2.2.2.2.1 | exact hi.2.2.2.2.2.2.2.2.1 | exact hi.2.2.2.2.2.2.2.2.2.1 | exact hi.2.2.2.2.2.2.2.2.2.2.1 | simp) (by(try simp only [Ls]);omega)
   | false =>
    have q0:=cG h0
    have e:=Eq.refl (eQ a0 a1 (v10,v11,v12,v13,v14,v15,v16,v17,v18,v19,v20,v21,v22));conv at e=>rhs;simp only [eQ,h0,aI]
    rw [aF,e]
    refine ba [.d h0,.p (show((flat cO v11)).length=v11.length*2 from by simp [aEn bZ]),.p (show((flat eV v10).length=v10.length*1∧v10.length+1≤2 ^ 40∧(v10.length+1)*24≤2 ^ 47) from gF vM (by omega) (by omega))] [] [1,2,8,10,26,27,28] [2,7] hcx (m:=n0) rK (rL) (oP a0 a1 (flat eV v10++[(.d (flat cO v11) v11.length 2)]) (v10.length+1) (W (v12+1))) (by kernel_rfl) ?_
    have z0:(W (v12+1))=(v12+1):=aD (by omega) (by omega)
    have z1:(flat eV v10++[(.d (flat cO v11) v11.length 2)])=(flat eV (v10++[v11])):=(bN (c:=eV) (l:=v10) (m:=[v11])).symm
    have z2:(v10.length+1)=(v10++[v11]).length:=eF v10 [v11] rfl
    rw [z0,z1,z2]
    exact g0 (v10++[v11]) (v12+1) (by refine⟨?_,?_,?_⟩<;>(try simp only [Ls])<;>first | omega | assumption | simp) (by(try simp only [Ls]);omega)
theorem aOe (a0:Zm)(a1:Int)(l0_1:a0.1.length≤9223372036854775807)(l0_2:a0.2.length≤9223372036854775807) {cx:Cx} (hcx:cx.base=2):∀(n:Nat)(v8:List (List (Int×Int)))(v9:Int),(0≤v9)∧(v8.length=toNat v9)∧(v9≤(bF (a0.1,a0.2)).1.length)→toNat ((((bF (a0.1,a0.2)).1.length:Nat):Int) - v9) < n→Aw.Good Tryz.prog none 9 (bodyPost Tryz.prog Tryz.f59 (RR cx (.t [(.s 2 0 (aB (dA a0 a1) n (v8,v9)).1.length 1),(iv (aB (dA a0 a1) n (v8,v9)).2)]) [(.live true true (flat eV (aB (dA a0 a1) n (v8,v9)).1))] [])) cx [] (.l rK n::rL) (oP a0 a1 (flat eV v8) v8.length v9):=by
 intro n
 induction n with
 | zero=>intro v8 v9 hi hn;exact absurd hn (iF _)
 | succ n ih =>
   intro v8 v9 hi hn
   refine aG ?_
   have hpl:=rI (a0.1,a0.2)
   cases h0:(decide ((v9:Int) < (((bF (a0.1,a0.2)).1.length:Nat):Int))) with
   | true =>
    have q0:=bY h0
    have e:=Eq.refl (dA a0 a1 (v8,v9));conv at e=>rhs;simp only [dA,h0,aI]
    rw [aF,e]
    refine en [.d h0,.i v9 ((bF (a0.1,a0.2)).1.length),.L cU (bF (a0.1,a0.2)).1 v9 0 9] [.slot 13 2] [1,2,8,10,12,13,26,27,28,32,33,34] [2,3,4,5] hcx xJ (xK n) (tP a0 a1 (flat eV v8) (v8.length) (flat cO ([]:List (Int×Int))) 0 v9 0 (((bF (a0.1,a0.2)).1.getD (toNat v9) default).1.1) (((bF (a0.1,a0.2)).1.getD (toNat v9) default).1.2.1) (((bF (a0.1,a0.2)).1.getD (toNat v9) default).1.2.2) (((bF (a0.1,a0.2)).1.getD (toNat v9) default).2.1.1) (((bF (a0.1,a0.2)).1.getD (toNat v9) default).2.1.2.1) (((bF (a0.1,a0.2)).1.getD (toNat v9) default).2.1.2.2) (((bF (a0.1,a0.2)).1.getD (toNat v9) default).2.2.1) (((bF (a0.1,a0.2)).1.getD (toNat v9) default).2.2.2.1) (((bF (a0.1,a0.2)).1.getD (toNat v9) default).2.2.2.2)) (toNat ((((bF (a0.1,a0.2)).1.length:Nat):Int) - 0)+1) (by kernel_rfl) ?_
    exact aOd a0 a1 l0_1 l0_2 hcx n ih (toNat ((((bF (a0.1,a0.2)).1.length:Nat):Int) - 0)+1) v8 ([]:List (Int×Int)) v9 0 (((bF (a0.1,a0.2)).1.getD (toNat v9) default).1.1) (((bF (a0.1,a0.2)).1.getD (toNat v9) default).1.2.1) (((bF (a0.1,a0.2)).1.getD (toNat v9) default).1.2.2) (((bF (a0.1,a0.2)).1.getD (toNat v9) default).2.1.1) (((bF (a0.1,a0.2)).1.getD (toNat v9) default).2.1.2.1) (((bF (a0.1,a0.2)).1.getD (toNat v9) default).2.1.2.2) (((bF (a0.1,a0.2)).1.getD (toNat v9) default).2.2.1) (((bF (a0.1,a0.2)).1.getD (toNat v9) default).2.2.2.1) (((bF (a0.1,a0.2)).1.getD (toNat v9) default).2.2.2.2) (by refine⟨?_,?_,?_,?_,?_,?_,?_,?_,?_,?_,?_⟩<;>(try simp only [Ls])<;>first | omega | assumption | exact hi.2.1 | exact hi.2.2.1 | exact hi.2.2.2.1 | exact hi.2.2.2.2.1 | exact hi.2.2.2.2.2.1 | exact hi.2.2.2.2.2.2.1 | exact hi.2.2.2.2.2.2.2.1 | exact hi.2.2.2.2.2.2.2.2.1 | exact hi.2.2.2.2.2.2.2.2.2.1 | exact hi.2.2.2.2.2.2.2.2.2.2.1 | simp) (by(try simp only [Ls]);omega)
   | false =>
    have q0:=cG h0
    have e:=Eq.refl (dA a0 a1 (v8,v9));conv at e=>rhs;simp only [dA,h0,aI]
    rw [aF,e]
    exact rt [.d h0] [] [3] hcx (by kernel_rfl)
def bS (a0:Zm)(a1:Int):(List (List (Int×Int)))×Int :=
 (bif (((bF (a0.1,a0.2)).2:Int) != 0) then
  (([]:List (List (Int×Int))),(bF (a0.1,a0.2)).2)
 else
  (aB (dA a0 a1) (toNat ((((bF (a0.1,a0.2)).1.length:Nat):Int) - 0)+1) (([]:List (List (Int×Int))),0)))
theorem aUs (a0:Zm)(a1:Int)(l0_1:a0.1.length≤9223372036854775807)(l0_2:a0.2.length≤9223372036854775807):Con Tryz.prog 59 [(.a [(.s 0 0 a0.1.length 3),(.s 1 0 a0.2.length 3)]),(iv a1),(.v (.func (.func 60) #[] #[]))] [(.live false true (flat dU a0.1)),(.live false true (flat eZ a0.2))] (.t [(.s 2 0 (bS a0 a1).1.length 1),(iv (bS a0 a1).2)]) [(.live true true (flat eV (bS a0 a1).1))]:=by
 refine aK Tryz.func59 (by kernel_rfl) fun cx hcx=>?_
 have hpl:=rI (a0.1,a0.2)
 let t0:List (St Tryz.prog):=[.c [0,1] (C90 (a0.1,a0.2) (by(try simp only [Lt]);omega) (by(try simp only [Lt]);omega))]
 cases h0:(((bF (a0.1,a0.2)).2:Int) != 0) with
 | true =>
  have q0:=bne_iff_ne.1 h0
  have e:=Eq.refl (bS a0 a1);conv at e=>rhs;simp only [bS,h0,aI]
  rw [e]
  exact rt (t0++[.d h0]) [.slot 6 1] [4] hcx (by kernel_rfl)
 | false =>
  have q0:=bne_eq_false_iff_eq.1 h0
  have e:=Eq.refl (bS a0 a1);conv at e=>rhs;simp only [bS,h0,aI]
  rw [e]
  refine en (t0++[.d h0]) [.slot 10 1] [1,2,8,10,26,27,28] [3,4] hcx rK (rL) (oP a0 a1 (flat eV ([]:List (List (Int×Int)))) 0 0) (toNat ((((bF (a0.1,a0.2)).1.length:Nat):Int) - 0)+1) (by kernel_rfl) ?_
  exact aOe a0 a1 l0_1 l0_2 hcx (toNat ((((bF (a0.1,a0.2)).1.length:Nat):Int) - 0)+1) ([]:List (List (Int×Int))) 0 (by refine⟨?_,?_,?_⟩<;>(try simp only [Ls])<;>first | omega | assumption | simp) (by(try simp only [Ls]);omega)
noncomputable def xL:Code:=(aE [1,1,1,1,0,1,0,1,1,0,1,1,0,1] [0] (aH Tryz.f59) []).1
noncomputable def xM (m0:Nat):List K:=(aE [1,1,1,1,0,1,0,1,1,0,1,1,0,1] [m0] (aH Tryz.f59) []).2
def tQ (a0:Zm)(a1:Int)(v10c:List SV)(v10n:Nat)(v11c:List SV)(v11n:Nat)(v12 v13 v14 v15 v16 v17 v18 v19 v20 v21 v22:Int):LS:=⟨iJ 60 [(1,(iv a1)),(2,(.v (.func (.func 61) #[] #[]))),(8,(.s 2 0 (bF (a0.1,a0.2)).1.length 9)),(10,(.s 3 0 v10n 1)),(12,(.p 4 0)),(13,(.s 5 0 v11n 2)),(26,(.s 2 0 (bF (a0.1,a0.2)).1.length 9)),(27,(iv (((bF (a0.1,a0.2)).1.length:Nat):Int))),(28,(iv v12)),(32,(.s 2 0 (bF (a0.1,a0.2)).1.length 9)),(33,(iv (((bF (a0.1,a0.2)).1.length:Nat):Int))),(34,(iv v13))],[(.live false true (flat dU a0.1)),(.live false true (flat eZ a0.2)),(.live true true (flat dK (bF (a0.1,a0.2)).1)),(.live true true v10c),(.live true false [(iv v14),(iv v15),(iv v16),(iv v17),(iv v18),(iv v19),(iv v20),(iv v21),(iv v22)]),(.live true true v11c)]⟩
def eR (a0:Zm)(a1:Int):(List (List (Int×Int)))×(List (Int×Int))×Int×Int×Int×Int×Int×Int×Int×Int×Zt→((List (List (Int×Int)))×(List (Int×Int))×Int×Int×Int×Int×Int×Int×Int×Int×Zt)⊕(((List (List (Int×Int)))×Int)⊕((List (List (Int×Int)))×Int))
 | (v10,v11,v12,v13,v14,v15,v16,v17,v18,v19,v20,v21,v22) =>
  (bif (decide ((v13:Int) < (((bF (a0.1,a0.2)).1.length:Nat):Int))) then
   (bif (((pM ((bF (a0.1,a0.2)).1.getD (toNat v13) default) ((v14,v15,v16),(v17,v18,v19),(v20,v21,v22)) a1).2:Int) != 0) then
    (.inr (.inr (([]:List (List (Int×Int))),(pM ((bF (a0.1,a0.2)).1.getD (toNat v13) default) ((v14,v15,v16),(v17,v18,v19),(v20,v21,v22)) a1).2)))
   else
    (.inl (v10,(v11++[(pM ((bF (a0.1,a0.2)).1.getD (toNat v13) default) ((v14,v15,v16),(v17,v18,v19),(v20,v21,v22)) a1).1]),v12,(v13+1),v14,v15,v16,v17,v18,v19,v20,v21,v22)))
  else
   (.inr (.inl ((v10++[v11]),(v12+1)))))
noncomputable def rM:Code:=(aE [1,1,1,1,0,1] [] (aH Tryz.f59) []).1
noncomputable def rN:List K:=(aE [1,1,1,1,0,1] [] (aH Tryz.f59) []).2
def oQ (a0:Zm)(a1:Int)(v8c:List SV)(v8n:Nat)(v9:Int):LS:=⟨iJ 60 [(1,(iv a1)),(2,(.v (.func (.func 61) #[] #[]))),(8,(.s 2 0 (bF (a0.1,a0.2)).1.length 9)),(10,(.s 3 0 v8n 1)),(26,(.s 2 0 (bF (a0.1,a0.2)).1.length 9)),(27,(iv (((bF (a0.1,a0.2)).1.length:Nat):Int))),(28,(iv v9))],[(.live false true (flat dU a0.1)),(.live false true (flat eZ a0.2)),(.live true true (flat dK (bF (a0.1,a0.2)).1)),(.live true true v8c)]⟩
def dB (a0:Zm)(a1:Int):(List (List (Int×Int)))×Int→((List (List (Int×Int)))×Int)⊕((List (List (Int×Int)))×Int)
 | (v8,v9) =>
  (bif (decide ((v9:Int) < (((bF (a0.1,a0.2)).1.length:Nat):Int))) then
   (aB (eR a0 a1) (toNat ((((bF (a0.1,a0.2)).1.length:Nat):Int) - 0)+1) (v8,([]:List (Int×Int)),v9,0,((bF (a0.1,a0.2)).1.getD (toNat v9) default).1.1,((bF (a0.1,a0.2)).1.getD (toNat v9) default).1.2.1,((bF (a0.1,a0.2)).1.getD (toNat v9) default).1.2.2,((bF (a0.1,a0.2)).1.getD (toNat v9) default).2.1.1,((bF (a0.1,a0.2)).1.getD (toNat v9) default).2.1.2.1,((bF (a0.1,a0.2)).1.getD (toNat v9) default).2.1.2.2,((bF (a0.1,a0.2)).1.getD (toNat v9) default).2.2.1,((bF (a0.1,a0.2)).1.getD (toNat v9) default).2.2.2.1,((bF (a0.1,a0.2)).1.getD (toNat v9) default).2.2.2.2))
  else
   (.inr (v8,0)))
theorem aOf (a0:Zm)(a1:Int)(l0_1:a0.1.length≤9223372036854775807)(l0_2:a0.2.length≤9223372036854775807) {cx:Cx} (hcx:cx.base=2)
   (n0:Nat) (g0:∀(v8:List (List (Int×Int))) (v9:Int),(0≤v9)∧(v8.length=toNat v9)∧(v9≤(bF (a0.1,a0.2)).1.length)→toNat ((((bF (a0.1,a0.2)).1.length:Nat):Int) - v9) < n0→Aw.Good Tryz.prog none 9 (bodyPost Tryz.prog Tryz.f59 (RR cx (.t [(.s 2 0 (aB (dB a0 a1) n0 (v8,v9)).1.length 1),(iv (aB (dB a0 a1) n0 (v8,v9)).2)]) [(.live true true (flat eV (aB (dB a0 a1) n0 (v8,v9)).1))] [])) cx [] (.l rM n0::rN) (oQ a0 a1 (flat eV v8) v8.length v9)):∀(n:Nat) (v10:List (List (Int×Int))) (v11:List (Int×Int)) (v12 v13 v14 v15 v16 v17 v18 v19 v20 v21 v22:Int),(0≤v13)∧(v11.length=toNat v13)∧(v13≤(bF (a0.1,a0.2)).1.length)∧(v10.length=toNat v12)∧(0≤v12)∧(v12 < (bF (a0.1,a0.2)).1.length)∧((0≤v12))∧((v10.length=toNat v12))∧((v12≤(bF (a0.1,a0.2)).1.length))∧(v12 < (((bF (a0.1,a0.2)).1.length:Nat):Int))∧(toNat ((((bF (a0.1,a0.2)).1.length:Nat):Int) - v12) < n0+1)→toNat ((((bF (a0.1,a0.2)).1.length:Nat):Int) - v13) < n→Aw.Good Tryz.prog none 9 (bodyPost Tryz.prog Tryz.f59 (RR cx (.t [(.s 2 0 (iX (dB a0 a1) n0 (aB (eR a0 a1) n (v10,v11,v12,v13,v14,v15,v16,v17,v18,v19,v20,v21,v22))).1.length 1),(iv (iX (dB a0 a1) n0 (aB (eR a0 a1) n (v10,v11,v12,v13,v14,v15,v16,v17,v18,v19,v20,v21,v22))).2)]) [(.live true true (flat eV (iX (dB a0 a1) n0 (aB (eR a0 a1) n (v10,v11,v12,v13,v14,v15,v16,v17,v18,v19,v20,v21,v22))).1))] [])) cx [] (.l xL n::xM n0) (tQ a0 a1 (flat eV v10) v10.length (flat cO v11) v11.length v12 v13 v14 v15 v16 v17 v18 v19 v20 v21 v22):=by
 intro n
 induction n with
 | zero=>intro v10 v11 v12 v13 v14 v15 v16 v17 v18 v19 v20 v21 v22 hi hn;exact absurd hn (iF _)
 | succ n ih =>
   intro v10 v11 v12 v13 v14 v15 v16 v17 v18 v19 v20 v21 v22 hi hn
   refine aG ?_
   have hpl:=rI (a0.1,a0.2)
   cases h0:(decide ((v13:Int) < (((bF (a0.1,a0.2)).1.length:Nat):Int))) with
   | true =>
    have q0:=bY h0
    let t1:List (St Tryz.prog):=[.d h0,.i v13 ((bF (a0.1,a0.2)).1.length),.L cU (bF (a0.1,a0.2)).1 v13 0 9,.c [] (C61 ((bF (a0.1,a0.2)).1.getD (toNat v13) default) ((v14,v15,v16),(v17,v18,v19),(v20,v21,v22)) a1)]
    cases h1:(((pM ((bF (a0.1,a0.2)).1.getD (toNat v13) default) ((v14,v15,v16),(v17,v18,v19),(v20,v21,v22)) a1).2:Int) != 0) with
    | true =>
     have q1:=bne_iff_ne.1 h1
     have e:=Eq.refl (eR a0 a1 (v10,v11,v12,v13,v14,v15,v16,v17,v18,v19,v20,v21,v22));conv at e=>rhs;simp only [eR,h0,h1,aI]
     rw [aF,e]
     exact rt (t1++[.d h1]) [.slot 6 1] [8] hcx (by kernel_rfl)
    | false =>
     have q1:=bne_eq_false_iff_eq.1 h1
     have e:=Eq.refl (eR a0 a1 (v10,v11,v12,v13,v14,v15,v16,v17,v18,v19,v20,v21,v22));conv at e=>rhs;simp only [eR,h0,h1,aI]
     rw [aA e]
     refine ba (t1++[.d h1,.p (show((flat cO v11).length=v11.length*2∧v11.length+1≤2 ^ 40∧(v11.length+1)*16≤2 ^ 47) from gF bZ (by omega) (by omega))]) [] [1,2,8,10,12,13,26,27,28,32,33,34] [2,3,4,9] hcx (m:=n) xL (xM n0) (tQ a0 a1 (flat eV v10) (v10.length) (flat cO v11++(k2 (pM ((bF (a0.1,a0.2)).1.getD (toNat v13) default) ((v14,v15,v16),(v17,v18,v19),(v20,v21,v22)) a1).1)) (v11.length+1) v12 (W (v13+1)) v14 v15 v16 v17 v18 v19 v20 v21 v22) (by kernel_rfl) ?_
     have z0:(W (v13+1))=(v13+1):=aD (by omega) (by omega)
     have z1:(flat cO v11++(k2 (pM ((bF (a0.1,a0.2)).1.getD (toNat v13) default) ((v14,v15,v16),(v17,v18,v19),(v20,v21,v22)) a1).1))=(flat cO (v11++[(pM ((bF (a0.1,a0.2)).1.getD (toNat v13) default) ((v14,v15,v16),(v17,v18,v19),(v20,v21,v22)) a1).1])):=(bN (c:=cO) (l:=v11) (m:=[(pM ((bF (a0.1,a0.2)).1.getD (toNat v13) default) ((v14,v15,v16),(v17,v18,v19),(v20,v21,v22)) a1).1])).symm
     have z2:(v11.length+1)=(v11++[(pM ((bF (a0.1,a0.2)).1.getD (toNat v13) default) ((v14,v15,v16),(v17,v18,v19),(v20,v21,v22)) a1).1]).length:=eF v11 [(pM ((bF (a0.1,a0.2)).1.getD (toNat v13) default) ((v14,v15,v16),(v17,v18,v19),(v20,v21,v22)) a1).1] rfl
     rw [z0,z1,z2]
     exact ih v10 (v11++[(pM ((bF (a0.1,a0.2)).1.getD (toNat v13) default) ((v14,v15,v16),(v17,v18,v19),(v20,v21,v22)) a1).1]) v12 (v13+1) v14 v15 v16 v17 v18 v19 v20 v21 v22 (by refine⟨?_,?_,?_,?_,?_,?_,?_,?_,?_,?_,?_⟩<;>(try simp only [Ls])<;>first | omega | assumption | exact hi.2.1 | exact hi.2.2.1 | exact hi.2.2.2.1 | exact hi.2.2.2.2.1 | exact hi.2.2.2.2.2.1 | exact hi.2.2.2.2.2.2.1 | exact hi.2.2.2.2.2.2.2.1 | exact hi.2.2.2.2.2.2.2.2.1 | exact hi.2.2.2.2.2.2.2.2.2.1 | exact hi.2.2.2.2.2.2.2.2.2.2.1 | simp) (by(try simp only [Ls]);omega)
   | false =>
    have q0:=cG h0
    have e:=Eq.refl (eR a0 a1 (v10,v11,v12,v13,v14,v15,v16,v17,v18,v19,v20,v21,v22));conv at e=>rhs;simp only [eR,h0,aI]
    rw [aF,e]
    refine ba [.d h0,.p (show((flat cO v11)).length=v11.length*2 from by simp [aEn bZ]),.p (show((flat eV v10).length=v10.length*1∧v10.length+1≤2 ^ 40∧(v10.length+1)*24≤2 ^ 47) from gF vM (by omega) (by omega))] [] [1,2,8,10,26,27,28] [2,7] hcx (m:=n0) rM (rN) (oQ a0 a1 (flat eV v10++[(.d (flat cO v11) v11.length 2)]) (v10.length+1) (W (v12+1))) (by kernel_rfl) ?_
    have z0:(W (v12+1))=(v12+1):=aD (by omega) (by omega)
    have z1:(flat eV v10++[(.d (flat cO v11) v11.length 2)])=(flat eV (v10++[v11])):=(bN (c:=eV) (l:=v10) (m:=[v11])).symm
    have z2:(v10.length+1)=(v10++[v11]).length:=eF v10 [v11] rfl
    rw [z0,z1,z2]
    exact g0 (v10++[v11]) (v12+1) (by refine⟨?_,?_,?_⟩<;>(try simp only [Ls])<;>first | omega | assumption | simp) (by(try simp only [Ls]);omega)
theorem aOg (a0:Zm)(a1:Int)(l0_1:a0.1.length≤9223372036854775807)(l0_2:a0.2.length≤9223372036854775807) {cx:Cx} (hcx:cx.base=2):∀(n:Nat)(v8:List (List (Int×Int)))(v9:Int),(0≤v9)∧(v8.length=toNat v9)∧(v9≤(bF (a0.1,a0.2)).1.length)→toNat ((((bF (a0.1,a0.2)).1.length:Nat):Int) - v9) < n→Aw.Good Tryz.prog none 9 (bodyPost Tryz.prog Tryz.f59 (RR cx (.t [(.s 2 0 (aB (dB a0 a1) n (v8,v9)).1.length 1),(iv (aB (dB a0 a1) n (v8,v9)).2)]) [(.live true true (flat eV (aB (dB a0 a1) n (v8,v9)).1))] [])) cx [] (.l rM n::rN) (oQ a0 a1 (flat eV v8) v8.length v9):=by
 intro n
 induction n with
 | zero=>intro v8 v9 hi hn;exact absurd hn (iF _)
 | succ n ih =>
   intro v8 v9 hi hn
   refine aG ?_
   have hpl:=rI (a0.1,a0.2)
   cases h0:(decide ((v9:Int) < (((bF (a0.1,a0.2)).1.length:Nat):Int))) with
   | true =>
    have q0:=bY h0
    have e:=Eq.refl (dB a0 a1 (v8,v9));conv at e=>rhs;simp only [dB,h0,aI]
    rw [aF,e]
    refine en [.d h0,.i v9 ((bF (a0.1,a0.2)).1.length),.L cU (bF (a0.1,a0.2)).1 v9 0 9] [.slot 13 2] [1,2,8,10,12,13,26,27,28,32,33,34] [2,3,4,5] hcx xL (xM n) (tQ a0 a1 (flat eV v8) (v8.length) (flat cO ([]:List (Int×Int))) 0 v9 0 (((bF (a0.1,a0.2)).1.getD (toNat v9) default).1.1) (((bF (a0.1,a0.2)).1.getD (toNat v9) default).1.2.1) (((bF (a0.1,a0.2)).1.getD (toNat v9) default).1.2.2) (((bF (a0.1,a0.2)).1.getD (toNat v9) default).2.1.1) (((bF (a0.1,a0.2)).1.getD (toNat v9) default).2.1.2.1) (((bF (a0.1,a0.2)).1.getD (toNat v9) default).2.1.2.2) (((bF (a0.1,a0.2)).1.getD (toNat v9) default).2.2.1) (((bF (a0.1,a0.2)).1.getD (toNat v9) default).2.2.2.1) (((bF (a0.1,a0.2)).1.getD (toNat v9) default).2.2.2.2)) (toNat ((((bF (a0.1,a0.2)).1.length:Nat):Int) - 0)+1) (by kernel_rfl) ?_
    exact aOf a0 a1 l0_1 l0_2 hcx n ih (toNat ((((bF (a0.1,a0.2)).1.length:Nat):Int) - 0)+1) v8 ([]:List (Int×Int)) v9 0 (((bF (a0.1,a0.2)).1.getD (toNat v9) default).1.1) (((bF (a0.1,a0.2)).1.getD (toNat v9) default).1.2.1) (((bF (a0.1,a0.2)).1.getD (toNat v9) default).1.2.2) (((bF (a0.1,a0.2)).1.getD (toNat v9) default).2.1.1) (((bF (a0.1,a0.2)).1.getD (toNat v9) default).2.1.2.1) (((bF (a0.1,a0.2)).1.getD (toNat v9) default).2.1.2.2) (((bF (a0.1,a0.2)).1.getD (toNat v9) default).2.2.1) (((bF (a0.1,a0.2)).1.getD (toNat v9) default).2.2.2.1) (((bF (a0.1,a0.2)).1.getD (toNat v9) default).2.2.2.2) (by refine⟨?_,?_,?_,?_,?_,?_,?_,?_,?_,?_,?_⟩<;>(try simp only [Ls])<;>first | omega | assumption | exact hi.2.1 | exact hi.2.2.1 | exact hi.2.2.2.1 | exact hi.2.2.2.2.1 | exact hi.2.2.2.2.2.1 | exact hi.2.2.2.2.2.2.1 | exact hi.2.2.2.2.2.2.2.1 | exact hi.2.2.2.2.2.2.2.2.1 | exact hi.2.2.2.2.2.2.2.2.2.1 | exact hi.2.2.2.2.2.2.2.2.2.2.1 | simp) (by(try simp only [Ls]);omega)
   | false =>
    have q0:=cG h0
    have e:=Eq.refl (dB a0 a1 (v8,v9));conv at e=>rhs;simp only [dB,h0,aI]
    rw [aF,e]
    exact rt [.d h0] [] [3] hcx (by kernel_rfl)
def cA (a0:Zm)(a1:Int):(List (List (Int×Int)))×Int :=
 (bif (((bF (a0.1,a0.2)).2:Int) != 0) then
  (([]:List (List (Int×Int))),(bF (a0.1,a0.2)).2)
 else
  (aB (dB a0 a1) (toNat ((((bF (a0.1,a0.2)).1.length:Nat):Int) - 0)+1) (([]:List (List (Int×Int))),0)))
theorem aUt (a0:Zm)(a1:Int)(l0_1:a0.1.length≤9223372036854775807)(l0_2:a0.2.length≤9223372036854775807):Con Tryz.prog 59 [(.a [(.s 0 0 a0.1.length 3),(.s 1 0 a0.2.length 3)]),(iv a1),(.v (.func (.func 61) #[] #[]))] [(.live false true (flat dU a0.1)),(.live false true (flat eZ a0.2))] (.t [(.s 2 0 (cA a0 a1).1.length 1),(iv (cA a0 a1).2)]) [(.live true true (flat eV (cA a0 a1).1))]:=by
 refine aK Tryz.func59 (by kernel_rfl) fun cx hcx=>?_
 have hpl:=rI (a0.1,a0.2)
 let t0:List (St Tryz.prog):=[.c [0,1] (C90 (a0.1,a0.2) (by(try simp only [Lt]);omega) (by(try simp only [Lt]);omega))]
 cases h0:(((bF (a0.1,a0.2)).2:Int) != 0) with
 | true =>
  have q0:=bne_iff_ne.1 h0
  have e:=Eq.refl (cA a0 a1);conv at e=>rhs;simp only [cA,h0,aI]
  rw [e]
  exact rt (t0++[.d h0]) [.slot 6 1] [4] hcx (by kernel_rfl)
 | false =>
  have q0:=bne_eq_false_iff_eq.1 h0
  have e:=Eq.refl (cA a0 a1);conv at e=>rhs;simp only [cA,h0,aI]
  rw [e]
  refine en (t0++[.d h0]) [.slot 10 1] [1,2,8,10,26,27,28] [3,4] hcx rM (rN) (oQ a0 a1 (flat eV ([]:List (List (Int×Int)))) 0 0) (toNat ((((bF (a0.1,a0.2)).1.length:Nat):Int) - 0)+1) (by kernel_rfl) ?_
  exact aOg a0 a1 l0_1 l0_2 hcx (toNat ((((bF (a0.1,a0.2)).1.length:Nat):Int) - 0)+1) ([]:List (List (Int×Int))) 0 (by refine⟨?_,?_,?_⟩<;>(try simp only [Ls])<;>first | omega | assumption | simp) (by(try simp only [Ls]);omega)
noncomputable def xN:Code:=(aE [1,1,0,1] [] (aH Tryz.f63) []).1
noncomputable def xO:List K:=(aE [1,1,0,1] [] (aH Tryz.f63) []).2
def tR (a0:List (List (Int×Int)))(a1:List (Int))(v2c:List SV)(v2n:Nat)(v3:Int):LS:=⟨iJ 32 [(1,(.s 1 0 a1.length 1)),(6,(.s 2 0 v2n 2)),(11,(.s 0 0 a0.length 1)),(12,(iv (a0.length:Int))),(13,(iv v3))],[(.live false true (flat eV a0)),(.live false true (flat c3 a1)),(.live true true v2c)]⟩
def dQ (a0:List (List (Int×Int)))(a1:List (Int)):(List (Int×Int))×Int→((List (Int×Int))×Int)⊕((List (Int×Int))×Int)
 | (v2,v3) =>
  (bif (decide ((v3:Int) < (a0.length:Int))) then
   (bif (((dC (a0.getD (toNat v3) default) a1).2:Int) != 0) then
    (.inr (([]:List (Int×Int)),(dC (a0.getD (toNat v3) default) a1).2))
   else
    (.inl ((v2++[(dC (a0.getD (toNat v3) default) a1).1]),(v3+1))))
  else
   (.inr (v2,0)))
theorem aOh (a0:List (List (Int×Int)))(a1:List (Int))(l0:a0.length≤9223372036854775807)(l1:a1.length≤9223372036854775807)(hr:∀r∈a0,r.length≤a1.length)(hn:a0.length≤96)(hm:a1.length≤96) {cx:Cx} (hcx:cx.base=2):∀(n:Nat)(v2:List (Int×Int))(v3:Int),(0≤v3)∧(v2.length=toNat v3)∧(v3≤a0.length)→toNat ((a0.length:Int) - v3) < n→Aw.Good Tryz.prog none 9 (bodyPost Tryz.prog Tryz.f63 (RR cx (.t [(.s 2 0 (aB (dQ a0 a1) n (v2,v3)).1.length 2),(iv (aB (dQ a0 a1) n (v2,v3)).2)]) [(.live true true (flat cO (aB (dQ a0 a1) n (v2,v3)).1))] [])) cx [] (.l xN n::xO) (tR a0 a1 (flat cO v2) v2.length v3):=by
 intro n
 induction n with
 | zero=>intro v2 v3 hi hn;exact absurd hn (iF _)
 | succ n ih =>
   intro v2 v3 hi hn
   refine aG ?_
   have hrl:=aYh hr v3
   cases h0:(decide ((v3:Int) < (a0.length:Int))) with
   | true =>
    have q0:=bY h0
    let t1:List (St Tryz.prog):=[.d h0,.i v3 (a0.length),.L vM a0 v3 0 1,.p (aFf (c:=cO) (fun _=>rfl) (a0.getD (toNat v3) default)),.c [3,1] (aM3 (a0.getD (toNat v3) default) a1 (by(try simp only [Lt]);omega) (by omega) (by omega) (by omega))]
    cases h1:(((dC (a0.getD (toNat v3) default) a1).2:Int) != 0) with
    | true =>
     have q1:=bne_iff_ne.1 h1
     have e:=Eq.refl (dQ a0 a1 (v2,v3));conv at e=>rhs;simp only [dQ,h0,h1,aI]
     rw [aF,e]
     exact rt (t1++[.d h1]) [.slot 4 2] [5] hcx (by kernel_rfl)
    | false =>
     have q1:=bne_eq_false_iff_eq.1 h1
     have e:=Eq.refl (dQ a0 a1 (v2,v3));conv at e=>rhs;simp only [dQ,h0,h1,aI]
     rw [aA e]
     refine ba (t1++[.d h1,.p (show((flat cO v2).length=v2.length*2∧v2.length+1≤2 ^ 40∧(v2.length+1)*16≤2 ^ 47) from gF bZ (by omega) (by omega))]) [] [1,6,11,12,13] [6] hcx (m:=n) xN (xO) (tR a0 a1 (flat cO v2++(k2 (dC (a0.getD (toNat v3) default) a1).1)) (v2.length+1) (W (v3+1))) (by kernel_rfl) ?_
     have z0:(W (v3+1))=(v3+1):=aD (by omega) (by omega)
     have z1:(flat cO v2++(k2 (dC (a0.getD (toNat v3) default) a1).1))=(flat cO (v2++[(dC (a0.getD (toNat v3) default) a1).1])):=(bN (c:=cO) (l:=v2) (m:=[(dC (a0.getD (toNat v3) default) a1).1])).symm
     have z2:(v2.length+1)=(v2++[(dC (a0.getD (toNat v3) default) a1).1]).length:=eF v2 [(dC (a0.getD (toNat v3) default) a1).1] rfl
     rw [z0,z1,z2]
     exact ih (v2++[(dC (a0.getD (toNat v3) default) a1).1]) (v3+1) (by refine⟨?_,?_,?_⟩<;>(try simp only [Ls])<;>first | omega | assumption | simp) (by(try simp only [Ls]);omega)
   | false =>
    have q0:=cG h0
    have e:=Eq.refl (dQ a0 a1 (v2,v3));conv at e=>rhs;simp only [dQ,h0,aI]
    rw [aF,e]
    exact rt [.d h0] [] [2] hcx (by kernel_rfl)
def bC (a0:List (List (Int×Int)))(a1:List (Int)):(List (Int×Int))×Int :=
 (aB (dQ a0 a1) (toNat ((a0.length:Int) - 0)+1) (([]:List (Int×Int)),0))
theorem aUu (a0:List (List (Int×Int)))(a1:List (Int))(l0:a0.length≤9223372036854775807)(l1:a1.length≤9223372036854775807)(hr:∀r∈a0,r.length≤a1.length)(hn:a0.length≤96)(hm:a1.length≤96):Con Tryz.prog 63 [(.s 0 0 a0.length 1),(.s 1 0 a1.length 1)] [(.live false true (flat eV a0)),(.live false true (flat c3 a1))] (.t [(.s 2 0 (bC a0 a1).1.length 2),(iv (bC a0 a1).2)]) [(.live true true (flat cO (bC a0 a1).1))]:=by
 refine aK Tryz.func63 (by kernel_rfl) fun cx hcx=>?_
 have e:=Eq.refl (bC a0 a1);conv at e=>rhs;simp only [bC]
 rw [e]
 refine en [] [.slot 6 2] [1,6,11,12,13] [2] hcx xN (xO) (tR a0 a1 (flat cO ([]:List (Int×Int))) 0 0) (toNat ((a0.length:Int) - 0)+1) (by kernel_rfl) ?_
 exact aOh a0 a1 l0 l1 hr hn hm hcx (toNat ((a0.length:Int) - 0)+1) ([]:List (Int×Int)) 0 (by refine⟨?_,?_,?_⟩<;>(try simp only [Ls])<;>first | omega | assumption | simp) (by(try simp only [Ls]);omega)
noncomputable def xP:Code:=(aE [1,1,1,0,1,0,1,1,0,1,1] [0] (aH Tryz.f65) []).1
noncomputable def xQ (m0:Nat):List K:=(aE [1,1,1,0,1,0,1,1,0,1,1] [m0] (aH Tryz.f65) []).2
def tS (a0:List (List (Int×Int)))(a1:List (Int))(v14c:List SV)(v14n:Nat)(v15c:List SV)(v15n:Nat)(v16 v17 v18 v19:Int):LS:=⟨iJ 49 [(0,(.s 0 0 a0.length 1)),(1,(.s 1 0 a1.length 1)),(4,(.p 2 0)),(6,(.s 3 0 v14n 2)),(7,(.s 4 0 v15n 1)),(8,(iv v16)),(9,(iv v17)),(12,(.s 1 0 a1.length 1)),(13,(iv (a1.length:Int))),(14,(iv v18)),(19,(.s 1 0 a1.length 1)),(20,(iv (a1.length:Int))),(21,(iv v19))],[(.live false true (flat eV a0)),(.live false true (flat c3 a1)),(.live true false [(iv 0),(iv 0)]),(.live true true v14c),(.live true true v15c)]⟩
def eS (a0:List (List (Int×Int)))(a1:List (Int)):(List (Int×Int))×List (Int)×Int×Zt→((List (Int×Int))×List (Int)×Int×Zt)⊕(((List (Int×Int))×List (Int)×Int)⊕((Int×Int)×Int))
 | (v14,v15,v16,v17,v18,v19) =>
  (bif (decide ((v19:Int) < (a1.length:Int))) then
   (.inl ((v14++[((a0.getD (toNat v19) default).getD (toNat v16) default)]),(v15++[(W (v17*(a1.getD (toNat v19) default)))]),v16,v17,v18,(v19+1)))
  else
   (.inr (.inl (v14,v15,(v18+1)))))
noncomputable def rO:Code:=(aE [1,1,1,0,1] [] (aH Tryz.f65) []).1
noncomputable def rP:List K:=(aE [1,1,1,0,1] [] (aH Tryz.f65) []).2
def oR (a0:List (List (Int×Int)))(a1:List (Int))(v11c:List SV)(v11n:Nat)(v12c:List SV)(v12n:Nat)(v13:Int):LS:=⟨iJ 49 [(0,(.s 0 0 a0.length 1)),(1,(.s 1 0 a1.length 1)),(4,(.p 2 0)),(6,(.s 3 0 v11n 2)),(7,(.s 4 0 v12n 1)),(12,(.s 1 0 a1.length 1)),(13,(iv (a1.length:Int))),(14,(iv v13))],[(.live false true (flat eV a0)),(.live false true (flat c3 a1)),(.live true false [(iv 0),(iv 0)]),(.live true true v11c),(.live true true v12c)]⟩
def dJ (a0:List (List (Int×Int)))(a1:List (Int)):(List (Int×Int))×List (Int)×Int→((List (Int×Int))×List (Int)×Int)⊕((Int×Int)×Int)
 | (v11,v12,v13) =>
  (bif (decide ((v13:Int) < (a1.length:Int))) then
   (aB (eS a0 a1) (toNat ((a1.length:Int) - 0)+1) (v11,v12,v13,(a1.getD (toNat v13) default),v13,0))
  else
   (.inr ((dC v11 v12).1,(dC v11 v12).2)))
theorem aOi (a0:List (List (Int×Int)))(a1:List (Int))(l0:a0.length≤9223372036854775807)(l1:a1.length≤9223372036854775807)(hl:a0.length=a1.length)(hr:∀r∈a0,r.length=a1.length)(hm:a1.length≤96) {cx:Cx} (hcx:cx.base=2)
   (n0:Nat) (g0:∀(v11:List (Int×Int)) (v12:List (Int)) (v13:Int),(0≤v13)∧(v11.length≤96*toNat v13)∧(v12.length=v11.length)∧(v13≤a1.length)→toNat ((a1.length:Int) - v13) < n0→Aw.Good Tryz.prog none 9 (bodyPost Tryz.prog Tryz.f65 (RR cx (.t [(.a (k2 (aB (dJ a0 a1) n0 (v11,v12,v13)).1)),(iv (aB (dJ a0 a1) n0 (v11,v12,v13)).2)]) [] [])) cx [] (.l rO n0::rP) (oR a0 a1 (flat cO v11) v11.length (flat c3 v12) v12.length v13)):∀(n:Nat) (v14:List (Int×Int)) (v15:List (Int)) (v16 v17 v18 v19:Int),(0≤v19)∧(v14.length≤96*toNat v18+toNat v19)∧(v15.length=v14.length)∧(0≤v16)∧(v16 < a1.length)∧(0≤v18)∧(v18 < a1.length)∧(v19≤a1.length)∧((0≤v18))∧((v15.length=v14.length))∧((v18≤a1.length))∧(v18 < (a1.length:Int))∧(toNat ((a1.length:Int) - v18) < n0+1)→toNat ((a1.length:Int) - v19) < n→Aw.Good Tryz.prog none 9 (bodyPost Tryz.prog Tryz.f65 (RR cx (.t [(.a (k2 (iX (dJ a0 a1) n0 (aB (eS a0 a1) n (v14,v15,v16,v17,v18,v19))).1)),(iv (iX (dJ a0 a1) n0 (aB (eS a0 a1) n (v14,v15,v16,v17,v18,v19))).2)]) [] [])) cx [] (.l xP n::xQ n0) (tS a0 a1 (flat cO v14) v14.length (flat c3 v15) v15.length v16 v17 v18 v19):=by
 intro n
 induction n with
 | zero=>intro v14 v15 v16 v17 v18 v19 hi hn;exact absurd hn (iF _)
 | succ n ih =>
   intro v14 v15 v16 v17 v18 v19 hi hn
   refine aG ?_
   have hrl:=aYg hr v19
   cases h0:(decide ((v19:Int) < (a1.length:Int))) with
   | true =>
    have q0:=bY h0
    have e:=Eq.refl (eS a0 a1 (v14,v15,v16,v17,v18,v19));conv at e=>rhs;simp only [eS,h0,aI]
    rw [aA e]
    refine ba [.d h0,.i v19 (a1.length),.L fR a1 v19 0 1,.i v19 (a0.length),.L vM a0 v19 0 1,.p (aFf (c:=cO) (fun _=>rfl) (a0.getD (toNat v19) default)),.i v16 ((a0.getD (toNat v19) default).length),.L bZ (a0.getD (toNat v19) default) v16 0 2,.p (show((flat cO v14).length=v14.length*2∧v14.length+1≤2 ^ 40∧(v14.length+1)*16≤2 ^ 47) from gF bZ (by omega) (by omega)),.p (show((flat c3 v15).length=v15.length*1∧v15.length+1≤2 ^ 40∧(v15.length+1)*8≤2 ^ 47) from gF fR (by omega) (by omega))] [] [0,1,4,6,7,8,9,12,13,14,19,20,21] [2,7,9] hcx (m:=n) xP (xQ n0) (tS a0 a1 (flat cO v14++(k2 ((a0.getD (toNat v19) default).getD (toNat v16) default))) (v14.length+1) (flat c3 v15++[(iv (W (v17*(a1.getD (toNat v19) default))))]) (v15.length+1) v16 v17 v18 (W (v19+1))) (by kernel_rfl) ?_
    have z0:(W (v19+1))=(v19+1):=aD (by omega) (by omega)
    have z1:(flat cO v14++(k2 ((a0.getD (toNat v19) default).getD (toNat v16) default)))=(flat cO (v14++[((a0.getD (toNat v19) default).getD (toNat v16) default)])):=(bN (c:=cO) (l:=v14) (m:=[((a0.getD (toNat v19) default).getD (toNat v16) default)])).symm
    have z2:(v14.length+1)=(v14++[((a0.getD (toNat v19) default).getD (toNat v16) default)]).length:=eF v14 [((a0.getD (toNat v19) default).getD (toNat v16) default)] rfl
    have z3:(flat c3 v15++[(iv (W (v17*(a1.getD (toNat v19) default))))])=(flat c3 (v15++[(W (v17*(a1.getD (toNat v19) default)))])):=(bN (c:=c3) (l:=v15) (m:=[(W (v17*(a1.getD (toNat v19) default)))])).symm
    have z4:(v15.length+1)=(v15++[(W (v17*(a1.getD (toNat v19) default)))]).length:=eF v15 [(W (v17*(a1.getD (toNat v19) default)))] rfl
    rw [z0,z1,z2,z3,z4]
    exact ih (v14++[((a0.getD (toNat v19) default).getD (toNat v16) default)]) (v15++[(W (v17*(a1.getD (toNat v19) default)))]) v16 v17 v18 (v19+1) (by refine⟨?_,?_,?_,?_,?_,?_,?_,?_,?_,?_,?_,?_,?_⟩<;>(try simp only [Ls])<;>first | omega | assumption | exact hi.2.1 | exact hi.2.2.1 | exact hi.2.2.2.1 | exact hi.2.2.2.2.1 | exact hi.2.2.2.2.2.1 | exact hi.2.2.2.2.2.2.1 | exact hi.2.2.2.2.2.2.2.1 | exact hi.2.2.2.2.2.2.2.2.1 | exact hi.2.2.2.2.2.2.2.2.2.1 | exact hi.2.2.2.2.2.2.2.2.2.2.1 | exact hi.2.2.2.2.2.2.2.2.2.2.2.1 | exact hi.2.2.2.2.2.2.2.2.2.2.2.2.1 | simp) (by(try simp only [Ls]);omega)
   | false =>
    have q0:=cG h0
    have e:=Eq.refl (eS a0 a1 (v14,v15,v16,v17,v18,v19));conv at e=>rhs;simp only [eS,h0,aI]
    rw [aF,e]
    refine ba [.d h0] [] [0,1,4,6,7,12,13,14] [2,3,4] hcx (m:=n0) rO (rP) (oR a0 a1 (flat cO v14) (v14.length) (flat c3 v15) (v15.length) (W (v18+1))) (by kernel_rfl) ?_
    have z0:(W (v18+1))=(v18+1):=aD (by omega) (by omega)
    rw [z0]
    exact g0 v14 v15 (v18+1) (by refine⟨?_,?_,?_,?_⟩<;>(try simp only [Ls])<;>first | omega | assumption | simp) (by(try simp only [Ls]);omega)
theorem aOj (a0:List (List (Int×Int)))(a1:List (Int))(l0:a0.length≤9223372036854775807)(l1:a1.length≤9223372036854775807)(hl:a0.length=a1.length)(hr:∀r∈a0,r.length=a1.length)(hm:a1.length≤96) {cx:Cx} (hcx:cx.base=2):∀(n:Nat)(v11:List (Int×Int))(v12:List (Int))(v13:Int),(0≤v13)∧(v11.length≤96*toNat v13)∧(v12.length=v11.length)∧(v13≤a1.length)→toNat ((a1.length:Int) - v13) < n→Aw.Good Tryz.prog none 9 (bodyPost Tryz.prog Tryz.f65 (RR cx (.t [(.a (k2 (aB (dJ a0 a1) n (v11,v12,v13)).1)),(iv (aB (dJ a0 a1) n (v11,v12,v13)).2)]) [] [])) cx [] (.l rO n::rP) (oR a0 a1 (flat cO v11) v11.length (flat c3 v12) v12.length v13):=by
 intro n
 induction n with
 | zero=>intro v11 v12 v13 hi hn;exact absurd hn (iF _)
 | succ n ih =>
   intro v11 v12 v13 hi hn
   refine aG ?_
   cases h0:(decide ((v13:Int) < (a1.length:Int))) with
   | true =>
    have q0:=bY h0
    have e:=Eq.refl (dJ a0 a1 (v11,v12,v13));conv at e=>rhs;simp only [dJ,h0,aI]
    rw [aF,e]
    refine en [.d h0,.i v13 (a1.length),.L fR a1 v13 0 1] [] [0,1,4,6,7,8,9,12,13,14,19,20,21] [2,3,4] hcx xP (xQ n) (tS a0 a1 (flat cO v11) (v11.length) (flat c3 v12) (v12.length) v13 (a1.getD (toNat v13) default) v13 0) (toNat ((a1.length:Int) - 0)+1) (by kernel_rfl) ?_
    exact aOi a0 a1 l0 l1 hl hr hm hcx n ih (toNat ((a1.length:Int) - 0)+1) v11 v12 v13 (a1.getD (toNat v13) default) v13 0 (by refine⟨?_,?_,?_,?_,?_,?_,?_,?_,?_,?_,?_,?_,?_⟩<;>(try simp only [Ls])<;>first | omega | assumption | exact hi.2.1 | exact hi.2.2.1 | exact hi.2.2.2.1 | exact hi.2.2.2.2.1 | exact hi.2.2.2.2.2.1 | exact hi.2.2.2.2.2.2.1 | exact hi.2.2.2.2.2.2.2.1 | exact hi.2.2.2.2.2.2.2.2.1 | exact hi.2.2.2.2.2.2.2.2.2.1 | exact hi.2.2.2.2.2.2.2.2.2.2.1 | exact hi.2.2.2.2.2.2.2.2.2.2.2.1 | exact hi.2.2.2.2.2.2.2.2.2.2.2.2.1 | simp) (by(try simp only [Ls]);omega)
   | false =>
    have q0:=cG h0
    have e:=Eq.refl (dJ a0 a1 (v11,v12,v13));conv at e=>rhs;simp only [dJ,h0,aI]
    rw [aF,e]
    exact rt [.d h0,.c [3,4] (aM3 v11 v12 (by omega) (by omega) (by omega) (by omega))] [] [] hcx (by kernel_rfl)
def cS (a0:List (List (Int×Int)))(a1:List (Int)):(Int×Int)×Int :=
 (aB (dJ a0 a1) (toNat ((a1.length:Int) - 0)+1) (([]:List (Int×Int)),([]:List (Int)),0))
theorem aUv (a0:List (List (Int×Int)))(a1:List (Int))(l0:a0.length≤9223372036854775807)(l1:a1.length≤9223372036854775807)(hl:a0.length=a1.length)(hr:∀r∈a0,r.length=a1.length)(hm:a1.length≤96):Con Tryz.prog 65 [(.s 0 0 a0.length 1),(.s 1 0 a1.length 1)] [(.live false true (flat eV a0)),(.live false true (flat c3 a1))] (.t [(.a (k2 (cS a0 a1).1)),(iv (cS a0 a1).2)]) []:=by
 refine aK Tryz.func65 (by kernel_rfl) fun cx hcx=>?_
 have e:=Eq.refl (cS a0 a1);conv at e=>rhs;simp only [cS]
 rw [e]
 refine en [] [.slot 6 2,.slot 7 1] [0,1,4,6,7,12,13,14] [2,3,4] hcx rO (rP) (oR a0 a1 (flat cO ([]:List (Int×Int))) 0 (flat c3 ([]:List (Int))) 0 0) (toNat ((a1.length:Int) - 0)+1) (by kernel_rfl) ?_
 exact aOj a0 a1 l0 l1 hl hr hm hcx (toNat ((a1.length:Int) - 0)+1) ([]:List (Int×Int)) ([]:List (Int)) 0 (by refine⟨?_,?_,?_,?_⟩<;>(try simp only [Ls])<;>first | omega | assumption | simp) (by(try simp only [Ls]);omega)
abbrev TB:=List (List (Int×Int))
theorem aM4 {S1:TB×List (Int×Int)×Int×Int×Int×Int×Int×Int×Int×Int×Zt→(TB×List (Int×Int)×Int×Int×Int×Int×Int×Int×Int×Int×Zt)⊕((TB×Int)⊕(TB×Int))} {S0:TB×Int→(TB×Int)⊕(TB×Int)}
   (L:List PN) (of:PN→PN→(Int×Int)×Int) (hof:∀p∈L,∀q∈L,(of p q).2=0)
   (hS1:∀(out:TB) (row:List (Int×Int)) (i j:Int) (q:PN),S1 (out,row,i,j,q.1.1,q.1.2.1,q.1.2.2,q.2.1.1,q.2.1.2.1,q.2.1.2.2,q.2.2.1,q.2.2.2.1,q.2.2.2.2) =
     bif decide (j < (L.length:Int)) then(bif ((of (L.getD (toNat j) default) q).2 != 0) then .inr (.inr ([],(of (L.getD (toNat j) default) q).2)) else .inl (out,row++[(of (L.getD (toNat j) default) q).1],i,j+1,q.1.1,q.1.2.1,q.1.2.2,q.2.1.1,q.2.1.2.1,q.2.1.2.2,q.2.2.1,q.2.2.2.1,q.2.2.2.2)) else .inr (.inl (out++[row],i+1)))
   (hS0:∀(out:TB) (i:Int),S0 (out,i)=bif decide (i < (L.length:Int)) then aB S1 (toNat ((L.length:Int) - 0)+1) (out,[],i,0,(L.getD (toNat i) default).1.1,(L.getD (toNat i) default).1.2.1,(L.getD (toNat i) default).1.2.2,(L.getD (toNat i) default).2.1.1,(L.getD (toNat i) default).2.1.2.1,(L.getD (toNat i) default).2.1.2.2,(L.getD (toNat i) default).2.2.1,(L.getD (toNat i) default).2.2.2.1,(L.getD (toNat i) default).2.2.2.2) else .inr (out,0)) :
   aB S0 (toNat ((L.length:Int) - 0)+1) ([],0)=(L.map fun q=>L.map fun p=>(of p q).1,0):=by
 have snoc:∀{α β:Type} (g:α→β) (l:List α) (v:List β),l.foldl (fun v c=>v++[g c]) v=v++l.map g:=by
   intro α β g l
   induction l with
   | nil=>intro v;simp
   | cons c l ih=>intro v;rw [List.foldl_cons,ih];simp
 have inner:∀(out:TB) (i:Int) (q:PN),q∈L→aB S1 (toNat ((L.length:Int) - 0)+1) (out,[],i,0,q.1.1,q.1.2.1,q.1.2.2,q.2.1.1,q.2.1.2.1,q.2.1.2.2,q.2.2.1,q.2.2.2.1,q.2.2.2.2)=.inl (out++[L.map fun p=>(of p q).1],i+1):=by
   intro out i q hq
   rw [aZ (fun row j=>(out,row,i,j,q.1.1,q.1.2.1,q.1.2.2,q.2.1.1,q.2.1.2.1,q.2.1.2.2,q.2.2.1,q.2.2.2.1,q.2.2.2.2)) (fun row p=>.inl (row++[(of p q).1])) (fun row=>.inl (out++[row],i+1)) (L:=L) (fun _ _=>True) ?_ (fun _ _ _ _ _ _ _=>trivial) ?_ (by omega) trivial]
   · rw [bM,snoc];rfl
   · intro j c hc row _
     obtain⟨hlt,hce⟩:=List.getElem?_eq_some_iff.1 hc
     rw [hS1,bV (by omega),cond_true,bB hc,hof c (List.mem_of_getElem? hc) q hq]
     rfl
   · intro row _
     rw [hS1,cJ (by omega),cond_false]
 rw [aZ (fun out i=>(out,i)) (fun out q=>.inl (out++[L.map fun p=>(of p q).1])) (fun out=>(out,0)) (L:=L) (fun _ _=>True) ?_ (fun _ _ _ _ _ _ _=>trivial) ?_ (by omega) trivial]
 · rw [bM,snoc];rfl
 · intro i c hc out _
   obtain⟨hlt,hce⟩:=List.getElem?_eq_some_iff.1 hc
   rw [hS0,bV (by omega),cond_true,bB hc,inner out i c (List.mem_of_getElem? hc)]
   rfl
 · intro out _
   rw [hS0,cJ (by omega),cond_false]
abbrev aU (m:ME):List PN:=m.2.map (eL m)
theorem aV5 {m:ME} (h:fU m=0):bF m=(aU m,0):=by
 rw [aV4,h];rfl
theorem aIs {m:ME} {d:Int} (h:fU m=0)(hd:0≤d∧d≤2):bS m d=((aU m).map fun q=>(aU m).map fun p=>(uA p q d).1,0):=by
 have hP:=aV5 h
 have g:=aM4 (S1:=eQ m d) (S0:=dA m d) (bF m).1 (fun p q=>uA p q d) (by
   rw [hP];exact fun p hp q hq=>(kH (lX h hd hp hq)).1) (fun out row i j q=>rfl) (fun out i=>rfl)
 unfold bS
 show(bif ((bF m).2 != 0) then _ else _)=_
 rw [show((bF m).2 != 0)=false from by rw [hP];rfl,cond_false]
 refine Eq.trans g ?_
 rw [hP]
theorem aIt {m:ME} {d:Int} (h:fU m=0)(hd:0≤d∧d≤2):cA m d=((aU m).map fun q=>(aU m).map fun p=>(pM p q d).1,0):=by
 have hP:=aV5 h
 have g:=aM4 (S1:=eR m d) (S0:=dB m d) (bF m).1 (fun p q=>pM p q d) (by
   rw [hP];exact fun p hp q hq=>(oO (lX h hd hp hq)).1) (fun out row i j q=>rfl) (fun out i=>rfl)
 unfold cA
 show(bif ((bF m).2 != 0) then _ else _)=_
 rw [show((bF m).2 != 0)=false from by rw [hP];rfl,cond_false]
 refine Eq.trans g ?_
 rw [hP]
def okC (q:List Int):Prop:=∀c∈q,0≤c∧c≤100
def aDt (q:List Int)(v:Int):Int:=q.foldl (fun v c=>W (v+c)) v
theorem aAi:∀(q:List Int)(v:Int),okC q→0≤v→v+100*(q.length:Int)≤1000000→aDt q v=v+q.sum∧v≤v+q.sum∧v+q.sum≤v+100*(q.length:Int)
 | [],v,_,_,_=>by simp [aDt]
 | c::q,v,h,h0,h1=>by
   have hc:=h c List.mem_cons_self
   simp only [List.length_cons] at h1
   have ih:=aAi q (v+c) (fun x hx=>h x (List.mem_cons_of_mem _ hx)) (by omega) (by omega)
   have e:aDt (c::q) v=aDt q (v+c):=by
     show aDt q (W (v+c))=_
     rw [aD (by omega) (by omega)]
   rw [e]
   simp only [List.sum_cons,List.length_cons]
   omega
theorem xR:∀(q:List Int)(v:Int),(iQ (R:=Int) (fun v c=>bif (!pK c 0 100) then .inr 1 else .inl (W (v+c))) q v=.inr 1∧iQ (σ:=Unit) (R:=Int) (fun _ c=>bif (!pK c 0 100) then .inr 1 else .inl ()) q ()=.inr 1) ∨
   (iQ (R:=Int) (fun v c=>bif (!pK c 0 100) then .inr 1 else .inl (W (v+c))) q v=.inl (aDt q v)∧iQ (σ:=Unit) (R:=Int) (fun _ c=>bif (!pK c 0 100) then .inr 1 else .inl ()) q ()=.inl ()∧okC q)
 | [],v=>.inr ⟨rfl,rfl,fun c hc=>by simp at hc⟩
 | c::q,v=>by
   simp only [iQ]
   cases hc:(!pK c 0 100) with
   | true=>exact .inl ⟨rfl,rfl⟩
   | false =>
     simp only [cond_false]
     rcases xR q (W (v+c)) with h | ⟨h1,h2,h3⟩
     · exact .inl h
     · refine .inr ⟨h1,h2,fun x hx=>?_⟩
       rcases List.mem_cons.1 hx with rfl | hx
       · exact qJ hc
       · exact h3 x hx
theorem aR1 (q:List Int):cC q=aDt q 0:=by
 unfold cC
 rw [aZ (fun v i=>(v,i)) (fun v c=>.inl (W (v+c))) (fun v=>v) (L:=q) (fun _ _=>True) ?_ (fun _ _ _ _ _ _ _=>trivial) ?_ (by omega) trivial]
 · rw [bM];rfl
 · intro i c hc v _
   obtain⟨hlt,hce⟩:=List.getElem?_eq_some_iff.1 hc
   simp only [kG]
   rw [bV (by omega),cond_true,bB hc];rfl
 · intro v _
   simp only [kG]
   rw [cJ (by omega),cond_false]
theorem aV6 (q:List Int):cN q=W ((W (aDt q 0*1048576))*1048576):=by
 unfold cN
 rw [aZ (fun v i=>(v,i)) (fun v c=>.inl (W (v+c))) (fun v=>W ((W (v*1048576))*1048576)) (L:=q) (fun _ _=>True) ?_ (fun _ _ _ _ _ _ _=>trivial) ?_ (by omega) trivial]
 · rw [bM];rfl
 · intro i c hc v _
   obtain⟨hlt,hce⟩:=List.getElem?_eq_some_iff.1 hc
   simp only [mN]
   rw [bV (by omega),cond_true,bB hc];rfl
 · intro v _
   simp only [mN]
   rw [cJ (by omega),cond_false]
noncomputable def chV (m:ME)(q:List Int):Int:=bif ((fU m:Int) != 0) then fU m else bif (((q.length:Int):Int) != (m.2.length:Int)) then 1 else
 aCc (fun v=>bif (v == 0) then 11 else 0) (iQ (R:=Int) (fun v c=>bif (!pK c 0 100) then .inr 1 else .inl (W (v+c))) q 0)
theorem bCc (m:ME)(q:List Int):nS m q=chV m q:=by
 unfold nS chV
 show(bif ((fU m:Int) != 0) then fU m else _)=_
 congr 1
 congr 1
 refine aZ (fun v i=>(v,i)) _ (fun v=>bif (v == 0) then 11 else 0) (L:=q) (fun _ _=>True) ?_ (fun _ _ _ _ _ _ _=>trivial) ?_ (by omega) trivial
 · intro i c hc v _
   obtain⟨hlt,hce⟩:=List.getElem?_eq_some_iff.1 hc
   simp only [gU]
   rw [bV (by omega),cond_true,bB hc]
   cases (!pK c 0 100)<;>rfl
 · intro v _
   simp only [gU]
   rw [cJ (by omega),cond_false]
   cases (v == 0)<;>rfl
theorem bCd (m:ME)(q:List Int):jQ m q=chV m q:=by
 unfold jQ chV
 show(bif ((zM m:Int) != 0) then zM m else _)=_
 rw [←aK3]
 congr 1
 congr 1
 refine Eq.trans (aZ (σ:=Unit) (fun _ i=>i) (fun _ c=>bif (!pK c 0 100) then .inr 1 else .inl ()) (fun _=>bif (cC q == 0) then 11 else 0) (L:=q) (v:=()) (fun _ _=>True) ?_ (fun _ _ _ _ _ _ _=>trivial) ?_ (by omega) trivial) ?_
 · intro i c hc v _
   obtain⟨hlt,hce⟩:=List.getElem?_eq_some_iff.1 hc
   simp only [fH]
   rw [bV (by omega),cond_true,bB hc,show F52 c 0 100=pK c 0 100 from rfl]
   cases (!pK c 0 100)<;>rfl
 · intro v _
   simp only [fH]
   rw [cJ (by omega),cond_false]
   cases (cC q == 0)<;>rfl
 · rcases xR q 0 with⟨h1,h2⟩ | ⟨h1,h2,_⟩
   · rw [h1,h2];rfl
   · rw [h1,h2,aR1];rfl
structure ChOK (m:ME) (q:List Int):Prop where
 v:fU m=0
 len:q.length=m.2.length
 ok:okC q
 pos:1≤q.sum
 le:q.sum≤9600
 n:1≤m.2.length∧m.2.length≤96
 tot:aDt q 0=q.sum
theorem bCe {m:ME} {q:List Int} (h:chV m q=0):ChOK m q:=by
 unfold chV at h
 cases h1:((fU m:Int) != 0) with
 | true=>rw [h1,cond_true] at h;exact absurd h (bne_iff_ne.1 h1)
 | false =>
 rw [h1,cond_false] at h
 have hv:=bne_eq_false_iff_eq.1 h1
 obtain⟨_,n1,n2,_,_⟩:=iA hv
 cases h2:(((q.length:Int):Int) != (m.2.length:Int)) with
 | true=>rw [h2,cond_true] at h;exact absurd h (by decide)
 | false =>
 rw [h2,cond_false] at h
 have hl:=bne_eq_false_iff_eq.1 h2
 rcases xR q 0 with⟨g1,_⟩ | ⟨g1,_,g3⟩
 · rw [g1] at h;exact absurd h (by decide)
 · rw [g1] at h
   have ht:=aAi q 0 g3 (Int.le_refl 0) (by omega)
   simp only [aCc] at h
   have hne:aDt q 0≠0:=by
     intro e
     rw [e] at h;exact absurd h (by decide)
   exact⟨hv,by omega,g3,by omega,by omega,⟨n1,n2⟩,by omega⟩
noncomputable def chD (m:ME)(q:List Int)(d:Int):Int:=bif (chV m q != 0) then chV m q else bif (!pK d 0 2) then 1 else 0
theorem yW (m:ME)(q:List Int)(d:Int):gE m q d=chD m q d:=by
 unfold gE chD
 rw [show nS (m.1,m.2) q=chV m q from bCc m q]
theorem aR2 (m:ME)(q:List Int)(d:Int):fK m q d=chD m q d:=by
 unfold fK chD
 rw [show jQ (m.1,m.2) q=chV m q from bCd m q]
 rfl
theorem gI {m:ME} {q:List Int} {d:Int} (h:chD m q d=0):ChOK m q∧0≤d∧d≤2:=by
 unfold chD at h
 cases h1:(chV m q != 0) with
 | true=>rw [h1,cond_true] at h;exact absurd h (bne_iff_ne.1 h1)
 | false =>
 rw [h1,cond_false] at h
 cases h2:(!pK d 0 2) with
 | true=>rw [h2,cond_true] at h;exact absurd h (by decide)
 | false=>exact⟨bCe (bne_eq_false_iff_eq.1 h1),qJ h2⟩
theorem aM5 {m:ME} {d:Int} {f:PN→PN→Int×Int} {T:TB} {n:Nat} (e:T=(aU m).map fun q=>(aU m).map fun p=>f p q)(hn:n=m.2.length):T.length=n∧∀r∈T,r.length=n:=by
 subst e hn
 refine⟨by simp,fun r hr=>?_⟩
 obtain⟨q,_,rfl⟩:=List.mem_map.1 hr
 simp
noncomputable def sC (c:(Int×Int)×Int):(Int×Int)×Int:=nQ c.1 c.2
noncomputable def dY (l:List ((Int×Int)×Int)):(Int×Int)×Int:=pJ aKm (fun e=>((0,0),e)) (nD sC l [])
theorem aGo {a:Int×Int} (h:okP a):vs a:=by unfold okP at h;unfold vs;omega
theorem aUw {a:Int×Int} {n:Int} (ha:okP a)(hn:0≤n∧n≤10000)(h:(nQ a n).2=0):n≤(nQ a n).1.1∧(nQ a n).1.1≤(nQ a n).1.2:=by
 rw [aF8 (aGo ha) (by omega)] at h ⊢
 unfold okP at ha
 have h1:=aB5 ha.1 hn.1
 have h2:=aB5 ha.2.1 hn.1
 have h3:lY 1 n=n:=by unfold lY;rw [Int.one_mul,if_neg (by omega),if_neg (by omega)]
 have e:scl a n=(lY a.1 n,lY a.2 n):=by unfold scl;rw [if_neg (by omega)]
 rw [e] at h ⊢
 rcases rB (lY a.1 n) (lY a.2 n) with⟨g,_⟩ | g
 · rw [g];simp only;omega
 · rw [g] at h;exact absurd h (by decide)
theorem aYi {c:(Int×Int)×Int} (h:(sC c).2=0):vs (sC c).1:=aIp h
theorem aM6 {l:List ((Int×Int)×Int)} {m:List (Int×Int)} (h:nD sC l []=.inl m)(hn:l.length≤9216):(∀a∈m,vs a)∧m.length≤10000:=by
 obtain⟨e,h0⟩:=kV h
 rw [List.nil_append] at e
 subst e
 exact⟨fun a ha=>by obtain⟨c,hc,rfl⟩:=List.mem_map.1 ha;exact aYi (h0 c hc),by rw [List.length_map];omega⟩
theorem aV7 {xs:List (Int×Int)} {q:List Int} (hl:xs.length≤q.length)(hn:xs.length≤9216):dC xs q=dY (xs.zip q):=by
 have hz:(xs.zip q).length=xs.length:=by rw [List.length_zip];omega
 unfold dC dY
 have key:=wX (g:=sC) (S:=dV xs q) (E:=fun e=>(((0,0):Int×Int),e)) (L:=xs.zip q) (G:=fun l=>((kJ l).1,(kJ l).2))
   (fun i c hi l=>?_) (fun l=>?_) (xs.zip q) 0 (toNat ((xs.length:Int) - 0)+1) [] rfl (Nat.zero_le _) (by omega)
 · refine Eq.trans key ?_
   cases hs:nD sC (xs.zip q) [] with
   | inr r=>rfl
   | inl m =>
     obtain⟨hv,hm⟩:=aM6 hs (by omega)
     simp only [pJ]
     rw [bBb hv hm]
 · obtain⟨h1,h2⟩:=List.getElem?_zip_eq_some.1 hi
   have hlt:=(List.getElem?_eq_some_iff.1 h1).1
   simp only [dV]
   rw [bV (by omega),cond_true,bB h1,bB h2]
   show _=bif ((nQ c.1 c.2).2 != 0) then _ else _
   cases ((nQ c.1 c.2).2 != 0)<;>rfl
 · simp only [dV]
   rw [cJ (by rw [hz];omega),cond_false]
theorem aM7 {l:List ((Int×Int)×Int)} (hl:∀c∈l,okP c.1∧0≤c.2∧c.2≤10000)(h:(dY l).2=0):(l.map (·.2)).sum≤(dY l).1.1∧(dY l).1.1≤(dY l).1.2∧vs (dY l).1:=by
 unfold dY at h ⊢
 cases hs:nD sC l [] with
 | inr r=>rw [hs] at h;exact absurd h (rH hs)
 | inl m =>
   rw [hs] at h
   simp only [pJ] at h ⊢
   obtain⟨e,hv⟩:=aQs h
   rw [e]
   obtain⟨e2,h0⟩:=kV hs
   rw [List.nil_append] at e2
   refine⟨?_,hv.2.1,hv⟩
   rw [rG,e2]
   simp only [Int.zero_add,List.map_map]
   clear hs h e hv e2
   induction l with
   | nil=>simp
   | cons c l ih =>
     have hc:=hl c List.mem_cons_self
     have:=aUw hc.1 hc.2 (h0 c List.mem_cons_self)
     have ih:=ih (fun x hx=>hl x (List.mem_cons_of_mem _ hx)) (fun x hx=>h0 x (List.mem_cons_of_mem _ hx))
     simp only [List.map_cons,List.sum_cons,Function.comp] at ih ⊢
     have e:(sC c).1.1=(nQ c.1 c.2).1.1:=rfl
     omega
noncomputable def pL (T:TB)(q:List Int):List (Int×Int)×Int:=pJ (fun l=>(l,0)) (fun e=>([],e)) (nD (fun r:List (Int×Int)=>dY (r.zip q)) T [])
theorem aM8 {T:TB} {q:List Int} (hr:∀r∈T,r.length≤q.length)(hm:q.length≤96):bC T q=pL T q:=by
 unfold bC pL
 refine wX (g:=fun r:List (Int×Int)=>dY (r.zip q)) (S:=dQ T q) (E:=fun e=>(([]:List (Int×Int)),e)) (L:=T) (G:=fun l=>(l,0))
   (fun i c hi l=>?_) (fun l=>?_) T 0 (toNat ((T.length:Int) - 0)+1) [] rfl (Nat.zero_le _) (by omega)
 · obtain⟨hlt,hce⟩:=List.getElem?_eq_some_iff.1 hi
   have hc:=hr c (List.mem_of_getElem? hi)
   simp only [dQ]
   rw [bV (by omega),cond_true,bB hi,aV7 hc (by omega)]
   cases ((dY (c.zip q)).2 != 0)<;>rfl
 · simp only [dQ]
   rw [cJ (by omega),cond_false]
theorem aGp {T:TB} {q:List Int} (hT:∀r∈T,r.length=q.length∧∀s∈r,okP s)(hq:okC q)(h:(pL T q).2=0) :
   (pL T q).1.length=T.length∧∀s∈(pL T q).1,q.sum≤s.1∧s.1≤s.2∧vs s:=by
 unfold pL at h ⊢
 cases hs:nD (fun r:List (Int×Int)=>dY (r.zip q)) T [] with
 | inr r=>rw [hs] at h;exact absurd h (rH hs)
 | inl m =>
   simp only [pJ]
   obtain⟨e,h0⟩:=kV hs
   rw [List.nil_append] at e
   subst e
   refine⟨by rw [List.length_map],fun s hsm=>?_⟩
   obtain⟨r,hr,rfl⟩:=List.mem_map.1 hsm
   obtain⟨hl,hP⟩:=hT r hr
   have hp:=aM7 (l:=r.zip q) (fun c hc=>⟨hP _ (List.of_mem_zip hc).1,by have:=hq _ (List.of_mem_zip hc).2;omega⟩) (h0 r hr)
   have:(r.zip q).map (·.2)=q:=List.map_snd_zip (by omega)
   rw [this] at hp
   exact hp
theorem aUx {m:ME} {q:List Int} {d:Int} (h:((gE m q d:Int) != 0)=false):(∀r∈(bS m d).1,r.length≤q.length)∧(bS m d).1.length≤96∧q.length≤96:=by
 rw [yW] at h
 obtain⟨hc,hd⟩:=gI (bne_eq_false_iff_eq.1 h)
 obtain⟨h1,h2⟩:=aM5 (d:=d) (T:=(bS m d).1) (by rw [aIs hc.v hd]) hc.len.symm.symm
 have:=hc.n;have:=hc.len
 exact⟨fun r hr=>by rw [h2 r hr];omega,by omega,by omega⟩
theorem aYj {m:ME} {q:List Int} {d:Int} (h:((gE m q d:Int) != 0)=false):(cA m d).1.length=q.length∧(∀r∈(cA m d).1,r.length=q.length)∧q.length≤96:=by
 rw [yW] at h
 obtain⟨hc,hd⟩:=gI (bne_eq_false_iff_eq.1 h)
 obtain⟨h1,h2⟩:=aM5 (d:=d) (T:=(cA m d).1) (by rw [aIt hc.v hd]) hc.len
 have:=hc.n;have:=hc.len
 exact⟨h1,h2,by omega⟩
theorem eI {m:ME} {q:List Int} {d:Int} (h:((fK m q d:Int) != 0)=false):lW m m.2.length∧m.2.length≤96∧q.length=m.2.length:=by
 rw [aR2] at h
 obtain⟨hc,hd⟩:=gI (bne_eq_false_iff_eq.1 h)
 exact⟨(qI (by rw [hc.v];rfl)).1,hc.n.2,hc.len⟩
theorem aCp (m:ME):aN m=aU m:=by
 unfold aN
 rw [aZ (fun v i=>(v,i)) (fun v c=>.inl (v++[eL m c])) (fun v=>v) (L:=m.2) (fun _ _=>True) ?_ (fun _ _ _ _ _ _ _=>trivial) ?_ (by omega) trivial]
 · have snoc:∀(l:List P3) (v:List PN),l.foldl (fun v c=>v++[eL m c]) v=v++l.map (eL m):=by
     intro l
     induction l with
     | nil=>intro v;simp
     | cons c l ih=>intro v;rw [List.foldl_cons,ih];simp
   rw [bM,snoc];rfl
 · intro i c hc v _
   obtain⟨hlt,hce⟩:=List.getElem?_eq_some_iff.1 hc
   simp only [oN]
   rw [bV (by omega),cond_true,bB hc]
   rfl
 · intro v _
   simp only [oN]
   rw [cJ (by omega),cond_false]
theorem aR3 (m:ME):(aN m).length=m.2.length:=by rw [aCp,List.length_map]
noncomputable def aCq:Code:=(aE [1,1,1,1,1,0,1,0,1,0,1,0,1] [0] (aH Tryz.f107) []).1
noncomputable def aCr (m0:Nat):List K:=(aE [1,1,1,1,1,0,1,0,1,0,1,0,1] [m0] (aH Tryz.f107) []).2
def xS (a0:Zm)(a1:List (Int))(a2:Int)(v10c:List SV)(v10n:Nat)(v11c:List SV)(v11n:Nat)(v12 v13:Int):LS:=⟨iJ 84 [(1,(.s 2 0 a1.length 1)),(2,(iv a2)),(9,(.s 3 0 (aN (a0.1,a0.2)).length 9)),(10,(.s 4 0 v10n 2)),(11,(iv v12)),(12,(.s 5 0 v11n 2)),(13,(iv v13))],[(.live false true (flat dU a0.1)),(.live false true (flat eZ a0.2)),(.live false true (flat c3 a1)),(.live true true (flat dK (aN (a0.1,a0.2)))),(.live true true v10c),(.live true true v11c)]⟩
def cV (a0:Zm)(a1:List (Int))(a2:Int):(List (Int×Int))×(List (Int×Int))×Int×Int→((List (Int×Int))×(List (Int×Int))×Int×Int)⊕(((List (Int×Int))×Int)⊕((List (Int×Int))×Int))
 | (v10,v11,v12,v13) =>
  (bif (decide ((v13:Int) < (((aN (a0.1,a0.2)).length:Nat):Int))) then
   (bif (((lV ((aN (a0.1,a0.2)).getD (toNat v13) default) ((aN (a0.1,a0.2)).getD (toNat v12) default) a2).2:Int) != 0) then
    (.inr (.inr (([]:List (Int×Int)),(lV ((aN (a0.1,a0.2)).getD (toNat v13) default) ((aN (a0.1,a0.2)).getD (toNat v12) default) a2).2)))
   else
    (bif (((fT (lV ((aN (a0.1,a0.2)).getD (toNat v13) default) ((aN (a0.1,a0.2)).getD (toNat v12) default) a2).1 (a1.getD (toNat v13) default)).2:Int) != 0) then
     (.inr (.inr (([]:List (Int×Int)),(fT (lV ((aN (a0.1,a0.2)).getD (toNat v13) default) ((aN (a0.1,a0.2)).getD (toNat v12) default) a2).1 (a1.getD (toNat v13) default)).2)))
    else
     (.inl (v10,(v11++[(fT (lV ((aN (a0.1,a0.2)).getD (toNat v13) default) ((aN (a0.1,a0.2)).getD (toNat v12) default) a2).1 (a1.getD (toNat v13) default)).1]),v12,(v13+1)))))
  else
   (bif (((cZ v11).2:Int) != 0) then
    (.inr (.inr (([]:List (Int×Int)),(cZ v11).2)))
   else
    (.inr (.inl ((v10++[(cZ v11).1]),(v12+1))))))
noncomputable def vN:Code:=(aE [1,1,1,1,1,0,1] [] (aH Tryz.f107) []).1
noncomputable def vO:List K:=(aE [1,1,1,1,1,0,1] [] (aH Tryz.f107) []).2
def rQ (a0:Zm)(a1:List (Int))(a2:Int)(v8c:List SV)(v8n:Nat)(v9:Int):LS:=⟨iJ 84 [(1,(.s 2 0 a1.length 1)),(2,(iv a2)),(9,(.s 3 0 (aN (a0.1,a0.2)).length 9)),(10,(.s 4 0 v8n 2)),(11,(iv v9))],[(.live false true (flat dU a0.1)),(.live false true (flat eZ a0.2)),(.live false true (flat c3 a1)),(.live true true (flat dK (aN (a0.1,a0.2)))),(.live true true v8c)]⟩
def dH (a0:Zm)(a1:List (Int))(a2:Int):(List (Int×Int))×Int→((List (Int×Int))×Int)⊕((List (Int×Int))×Int)
 | (v8,v9) =>
  (bif (decide ((v9:Int) < (((aN (a0.1,a0.2)).length:Nat):Int))) then
   (aB (cV a0 a1 a2) (toNat ((((aN (a0.1,a0.2)).length:Nat):Int) - 0)+1) (v8,([]:List (Int×Int)),v9,0))
  else
   (.inr (v8,0)))
theorem aR4 (a0:Zm)(a1:List (Int))(a2:Int)(l0_1:a0.1.length≤9223372036854775807)(l0_2:a0.2.length≤9223372036854775807)(l1:a1.length≤9223372036854775807) {cx:Cx} (hcx:cx.base=3)
   (n0:Nat) (g0:∀(v8:List (Int×Int)) (v9:Int),(0≤v9)∧(v8.length=toNat v9)∧(v9≤(aN (a0.1,a0.2)).length)∧((aN (a0.1,a0.2)).length=a1.length)∧(a1.length≤96)→toNat ((((aN (a0.1,a0.2)).length:Nat):Int) - v9) < n0→Aw.Good Tryz.prog none 9 (bodyPost Tryz.prog Tryz.f107 (RR cx (.t [(.s 3 0 (aB (dH a0 a1 a2) n0 (v8,v9)).1.length 2),(iv (aB (dH a0 a1 a2) n0 (v8,v9)).2)]) [(.live true true (flat cO (aB (dH a0 a1 a2) n0 (v8,v9)).1))] [])) cx [] (.l vN n0::vO) (rQ a0 a1 a2 (flat cO v8) v8.length v9)):∀(n:Nat) (v10:List (Int×Int)) (v11:List (Int×Int)) (v12 v13:Int),(0≤v13)∧(v11.length=toNat v13)∧(v13≤(aN (a0.1,a0.2)).length)∧(v10.length=toNat v12)∧(0≤v12)∧(v12 < (aN (a0.1,a0.2)).length)∧((aN (a0.1,a0.2)).length=a1.length)∧(a1.length≤96)∧((0≤v12))∧((v10.length=toNat v12))∧((v12≤(aN (a0.1,a0.2)).length))∧(((aN (a0.1,a0.2)).length=a1.length))∧((a1.length≤96))∧(v12 < (((aN (a0.1,a0.2)).length:Nat):Int))∧(toNat ((((aN (a0.1,a0.2)).length:Nat):Int) - v12) < n0+1)→toNat ((((aN (a0.1,a0.2)).length:Nat):Int) - v13) < n→Aw.Good Tryz.prog none 9 (bodyPost Tryz.prog Tryz.f107 (RR cx (.t [(.s 3 0 (iX (dH a0 a1 a2) n0 (aB (cV a0 a1 a2) n (v10,v11,v12,v13))).1.length 2),(iv (iX (dH a0 a1 a2) n0 (aB (cV a0 a1 a2) n (v10,v11,v12,v13))).2)]) [(.live true true (flat cO (iX (dH a0 a1 a2) n0 (aB (cV a0 a1 a2) n (v10,v11,v12,v13))).1))] [])) cx [] (.l aCq n::aCr n0) (xS a0 a1 a2 (flat cO v10) v10.length (flat cO v11) v11.length v12 v13):=by
 intro n
 induction n with
 | zero=>intro v10 v11 v12 v13 hi hn;exact absurd hn (iF _)
 | succ n ih =>
   intro v10 v11 v12 v13 hi hn
   refine aG ?_
   cases h0:(decide ((v13:Int) < (((aN (a0.1,a0.2)).length:Nat):Int))) with
   | true =>
    have q0:=bY h0
    let t1:List (St Tryz.prog):=[.d h0,.i v13 ((aN (a0.1,a0.2)).length),.L cU (aN (a0.1,a0.2)) v13 0 9,.i v12 ((aN (a0.1,a0.2)).length),.L cU (aN (a0.1,a0.2)) v12 0 9,.c [] (bD8 ((aN (a0.1,a0.2)).getD (toNat v13) default) ((aN (a0.1,a0.2)).getD (toNat v12) default) a2)]
    cases h1:(((lV ((aN (a0.1,a0.2)).getD (toNat v13) default) ((aN (a0.1,a0.2)).getD (toNat v12) default) a2).2:Int) != 0) with
    | true =>
     have q1:=bne_iff_ne.1 h1
     have e:=Eq.refl (cV a0 a1 a2 (v10,v11,v12,v13));conv at e=>rhs;simp only [cV,h0,h1,aI]
     rw [aF,e]
     exact rt (t1++[.d h1]) [.slot 6 2] [7] hcx (by kernel_rfl)
    | false =>
     have q1:=bne_eq_false_iff_eq.1 h1
     let t2:List (St Tryz.prog):=(t1++[.d h1,.i v13 (a1.length),.L fR a1 v13 0 1,.c [] (bA3 (lV ((aN (a0.1,a0.2)).getD (toNat v13) default) ((aN (a0.1,a0.2)).getD (toNat v12) default) a2).1 (a1.getD (toNat v13) default))])
     cases h2:(((fT (lV ((aN (a0.1,a0.2)).getD (toNat v13) default) ((aN (a0.1,a0.2)).getD (toNat v12) default) a2).1 (a1.getD (toNat v13) default)).2:Int) != 0) with
     | true =>
      have q2:=bne_iff_ne.1 h2
      have e:=Eq.refl (cV a0 a1 a2 (v10,v11,v12,v13));conv at e=>rhs;simp only [cV,h0,h1,h2,aI]
      rw [aF,e]
      exact rt (t2++[.d h2]) [.slot 6 2] [7] hcx (by kernel_rfl)
     | false =>
      have q2:=bne_eq_false_iff_eq.1 h2
      have e:=Eq.refl (cV a0 a1 a2 (v10,v11,v12,v13));conv at e=>rhs;simp only [cV,h0,h1,h2,aI]
      rw [aA e]
      refine ba (t2++[.d h2,.p (show((flat cO v11).length=v11.length*2∧v11.length+1≤2 ^ 40∧(v11.length+1)*16≤2 ^ 47) from gF bZ (by omega) (by omega))]) [] [1,2,9,10,11,12,13] [3,4,8] hcx (m:=n) aCq (aCr n0) (xS a0 a1 a2 (flat cO v10) (v10.length) (flat cO v11++(k2 (fT (lV ((aN (a0.1,a0.2)).getD (toNat v13) default) ((aN (a0.1,a0.2)).getD (toNat v12) default) a2).1 (a1.getD (toNat v13) default)).1)) (v11.length+1) v12 (W (v13+1))) (by kernel_rfl) ?_
      have z0:(W (v13+1))=(v13+1):=aD (by omega) (by omega)
      have z1:(flat cO v11++(k2 (fT (lV ((aN (a0.1,a0.2)).getD (toNat v13) default) ((aN (a0.1,a0.2)).getD (toNat v12) default) a2).1 (a1.getD (toNat v13) default)).1))=(flat cO (v11++[(fT (lV ((aN (a0.1,a0.2)).getD (toNat v13) default) ((aN (a0.1,a0.2)).getD (toNat v12) default) a2).1 (a1.getD (toNat v13) default)).1])):=(bN (c:=cO) (l:=v11) (m:=[(fT (lV ((aN (a0.1,a0.2)).getD (toNat v13) default) ((aN (a0.1,a0.2)).getD (toNat v12) default) a2).1 (a1.getD (toNat v13) default)).1])).symm
      have z2:(v11.length+1)=(v11++[(fT (lV ((aN (a0.1,a0.2)).getD (toNat v13) default) ((aN (a0.1,a0.2)).getD (toNat v12) default) a2).1 (a1.getD (toNat v13) default)).1]).length:=eF v11 [(fT (lV ((aN (a0.1,a0.2)).getD (toNat v13) default) ((aN (a0.1,a0.2)).getD (toNat v12) default) a2).1 (a1.getD (toNat v13) default)).1] rfl
      rw [z0,z1,z2]
      exact ih v10 (v11++[(fT (lV ((aN (a0.1,a0.2)).getD (toNat v13) default) ((aN (a0.1,a0.2)).getD (toNat v12) default) a2).1 (a1.getD (toNat v13) default)).1]) v12 (v13+1) (by refine⟨?_,?_,?_,?_,?_,?_,?_,?_,?_,?_,?_,?_,?_,?_,?_⟩<;>(try simp only [Ls])<;>first | omega | assumption | exact hi.2.1 | exact hi.2.2.1 | exact hi.2.2.2.1 | exact hi.2.2.2.2.1 | exact hi.2.2.2.2.2.1 | exact hi.2.2.2.2.2.2.1 | exact hi.2.2.2.2.2.2.2.1 | exact hi.2.2.2.2.2.2.2.2.1 | exact hi.2.2.2.2.2.2.2.2.2.1 | exact hi.2.2.2.2.2.2.2.2.2.2.1 | exact hi.2.2.2.2.2.2.2.2.2.2.2.1 | exact hi.2.2.2.2.2.2.2.2.2.2.2.2.1 | exact hi.2.2.2.2.2.2.2.2.2.2.2.2.2.1 | exact hi.2.2.2.2.2.2.2.2.2.2.2.2.2.2.1 | simp) (by(try simp only [Ls]);omega)
   | false =>
    have q0:=cG h0
    let t1:List (St Tryz.prog):=[.d h0,.c [5] (aPt v11 (by omega))]
    cases h1:(((cZ v11).2:Int) != 0) with
    | true =>
     have q1:=bne_iff_ne.1 h1
     have e:=Eq.refl (cV a0 a1 a2 (v10,v11,v12,v13));conv at e=>rhs;simp only [cV,h0,h1,aI]
     rw [aF,e]
     exact rt (t1++[.d h1]) [.slot 6 2] [7] hcx (by kernel_rfl)
    | false =>
     have q1:=bne_eq_false_iff_eq.1 h1
     have e:=Eq.refl (cV a0 a1 a2 (v10,v11,v12,v13));conv at e=>rhs;simp only [cV,h0,h1,aI]
     rw [aF,e]
     refine ba (t1++[.d h1,.p (show((flat cO v10).length=v10.length*2∧v10.length+1≤2 ^ 40∧(v10.length+1)*16≤2 ^ 47) from gF bZ (by omega) (by omega))]) [] [1,2,9,10,11] [3,8] hcx (m:=n0) vN (vO) (rQ a0 a1 a2 (flat cO v10++(k2 (cZ v11).1)) (v10.length+1) (W (v12+1))) (by kernel_rfl) ?_
     have z0:(W (v12+1))=(v12+1):=aD (by omega) (by omega)
     have z1:(flat cO v10++(k2 (cZ v11).1))=(flat cO (v10++[(cZ v11).1])):=(bN (c:=cO) (l:=v10) (m:=[(cZ v11).1])).symm
     have z2:(v10.length+1)=(v10++[(cZ v11).1]).length:=eF v10 [(cZ v11).1] rfl
     rw [z0,z1,z2]
     exact g0 (v10++[(cZ v11).1]) (v12+1) (by refine⟨?_,?_,?_,?_,?_⟩<;>(try simp only [Ls])<;>first | omega | assumption | simp) (by(try simp only [Ls]);omega)
theorem aR5 (a0:Zm)(a1:List (Int))(a2:Int)(l0_1:a0.1.length≤9223372036854775807)(l0_2:a0.2.length≤9223372036854775807)(l1:a1.length≤9223372036854775807) {cx:Cx} (hcx:cx.base=3):∀(n:Nat)(v8:List (Int×Int))(v9:Int),(0≤v9)∧(v8.length=toNat v9)∧(v9≤(aN (a0.1,a0.2)).length)∧((aN (a0.1,a0.2)).length=a1.length)∧(a1.length≤96)→toNat ((((aN (a0.1,a0.2)).length:Nat):Int) - v9) < n→Aw.Good Tryz.prog none 9 (bodyPost Tryz.prog Tryz.f107 (RR cx (.t [(.s 3 0 (aB (dH a0 a1 a2) n (v8,v9)).1.length 2),(iv (aB (dH a0 a1 a2) n (v8,v9)).2)]) [(.live true true (flat cO (aB (dH a0 a1 a2) n (v8,v9)).1))] [])) cx [] (.l vN n::vO) (rQ a0 a1 a2 (flat cO v8) v8.length v9):=by
 intro n
 induction n with
 | zero=>intro v8 v9 hi hn;exact absurd hn (iF _)
 | succ n ih =>
   intro v8 v9 hi hn
   refine aG ?_
   cases h0:(decide ((v9:Int) < (((aN (a0.1,a0.2)).length:Nat):Int))) with
   | true =>
    have q0:=bY h0
    have e:=Eq.refl (dH a0 a1 a2 (v8,v9));conv at e=>rhs;simp only [dH,h0,aI]
    rw [aF,e]
    refine en [.d h0] [.slot 12 2] [1,2,9,10,11,12,13] [3,4,5] hcx aCq (aCr n) (xS a0 a1 a2 (flat cO v8) (v8.length) (flat cO ([]:List (Int×Int))) 0 v9 0) (toNat ((((aN (a0.1,a0.2)).length:Nat):Int) - 0)+1) (by kernel_rfl) ?_
    exact aR4 a0 a1 a2 l0_1 l0_2 l1 hcx n ih (toNat ((((aN (a0.1,a0.2)).length:Nat):Int) - 0)+1) v8 ([]:List (Int×Int)) v9 0 (by refine⟨?_,?_,?_,?_,?_,?_,?_,?_,?_,?_,?_,?_,?_,?_,?_⟩<;>(try simp only [Ls])<;>first | omega | assumption | exact hi.2.1 | exact hi.2.2.1 | exact hi.2.2.2.1 | exact hi.2.2.2.2.1 | exact hi.2.2.2.2.2.1 | exact hi.2.2.2.2.2.2.1 | exact hi.2.2.2.2.2.2.2.1 | exact hi.2.2.2.2.2.2.2.2.1 | exact hi.2.2.2.2.2.2.2.2.2.1 | exact hi.2.2.2.2.2.2.2.2.2.2.1 | exact hi.2.2.2.2.2.2.2.2.2.2.2.1 | exact hi.2.2.2.2.2.2.2.2.2.2.2.2.1 | exact hi.2.2.2.2.2.2.2.2.2.2.2.2.2.1 | exact hi.2.2.2.2.2.2.2.2.2.2.2.2.2.2.1 | simp) (by(try simp only [Ls]);omega)
   | false =>
    have q0:=cG h0
    have e:=Eq.refl (dH a0 a1 a2 (v8,v9));conv at e=>rhs;simp only [dH,h0,aI]
    rw [aF,e]
    exact rt [.d h0] [] [4] hcx (by kernel_rfl)
def aS (a0:Zm)(a1:List (Int))(a2:Int):(List (Int×Int))×Int :=
 (bif (((fK (a0.1,a0.2) a1 a2):Int) != 0) then
  (([]:List (Int×Int)),(fK (a0.1,a0.2) a1 a2))
 else
  (aB (dH a0 a1 a2) (toNat ((((aN (a0.1,a0.2)).length:Nat):Int) - 0)+1) (([]:List (Int×Int)),0)))
theorem aR6 (a0:Zm)(a1:List (Int))(a2:Int)(l0_1:a0.1.length≤9223372036854775807)(l0_2:a0.2.length≤9223372036854775807)(l1:a1.length≤9223372036854775807):Con Tryz.prog 107 [(.a [(.s 0 0 a0.1.length 3),(.s 1 0 a0.2.length 3)]),(.s 2 0 a1.length 1),(iv a2)] [(.live false true (flat dU a0.1)),(.live false true (flat eZ a0.2)),(.live false true (flat c3 a1))] (.t [(.s 3 0 (aS a0 a1 a2).1.length 2),(iv (aS a0 a1 a2).2)]) [(.live true true (flat cO (aS a0 a1 a2).1))]:=by
 refine aK Tryz.func107 (by kernel_rfl) fun cx hcx=>?_
 try have hg1:a0.2.length≤96:=(eI h0).2.1
 try have hg2:a1.length=a0.2.length:=(eI h0).2.2
 have hg3:(aN (a0.1,a0.2)).length=a0.2.length:=aR3 (a0.1,a0.2)
 let t0:List (St Tryz.prog):=[.c [0,1,2] (aRu (a0.1,a0.2) a1 a2 (by(try simp only [Lt]);omega) (by(try simp only [Lt]);omega) (by omega))]
 cases h0:(((fK (a0.1,a0.2) a1 a2):Int) != 0) with
 | true =>
  have q0:=bne_iff_ne.1 h0
  try have hg1:a0.2.length≤96:=(eI h0).2.1
  try have hg2:a1.length=a0.2.length:=(eI h0).2.2
  have e:=Eq.refl (aS a0 a1 a2);conv at e=>rhs;simp only [aS,h0,aI]
  rw [e]
  exact rt (t0++[.d h0]) [.slot 6 2] [4] hcx (by kernel_rfl)
 | false =>
  have q0:=bne_eq_false_iff_eq.1 h0
  try have hg1:a0.2.length≤96:=(eI h0).2.1
  try have hg2:a1.length=a0.2.length:=(eI h0).2.2
  have e:=Eq.refl (aS a0 a1 a2);conv at e=>rhs;simp only [aS,h0,aI]
  rw [e]
  refine en (t0++[.d h0,.c [0,1] (bB8 (a0.1,a0.2) (by(try simp only [Lt]);omega) (by(try simp only [Lt]);omega) (eI h0).1 (eI h0).2.1)]) [.slot 10 2] [1,2,9,10,11] [4,5] hcx vN (vO) (rQ a0 a1 a2 (flat cO ([]:List (Int×Int))) 0 0) (toNat ((((aN (a0.1,a0.2)).length:Nat):Int) - 0)+1) (by kernel_rfl) ?_
  exact aR5 a0 a1 a2 l0_1 l0_2 l1 hcx (toNat ((((aN (a0.1,a0.2)).length:Nat):Int) - 0)+1) ([]:List (Int×Int)) 0 (by refine⟨?_,?_,?_,?_,?_⟩<;>(try simp only [Ls])<;>first | omega | assumption | simp) (by(try simp only [Ls]);omega)
noncomputable def aCs:Code:=(aE [1,1,1,1,1,0,1,0,1,0,1] [0] (aH Tryz.f110) []).1
noncomputable def aCt (m0:Nat):List K:=(aE [1,1,1,1,1,0,1,0,1,0,1] [m0] (aH Tryz.f110) []).2
def xT (a0:Zm)(a1:List (Int))(a2:Int)(v9c:List SV)(v9n:Nat)(v10 v11:Int):LS:=⟨iJ 80 [(1,(.s 2 0 a1.length 1)),(2,(iv a2)),(6,(.p 3 0)),(9,(.s 4 0 (aN (a0.1,a0.2)).length 9)),(10,(.s 5 0 v9n 2)),(11,(iv v10)),(12,(iv v11))],[(.live false true (flat dU a0.1)),(.live false true (flat eZ a0.2)),(.live false true (flat c3 a1)),(.live true false [(iv 0),(iv 0)]),(.live true true (flat dK (aN (a0.1,a0.2)))),(.live true true v9c)]⟩
def dS (a0:Zm)(a1:List (Int))(a2:Int):(List (Int×Int))×Int×Int→((List (Int×Int))×Int×Int)⊕(((List (Int×Int))×Int)⊕((Int×Int)×Int))
 | (v9,v10,v11) =>
  (bif (decide ((v11:Int) < (((aN (a0.1,a0.2)).length:Nat):Int))) then
   (bif (((kU ((aN (a0.1,a0.2)).getD (toNat v10) default) ((aN (a0.1,a0.2)).getD (toNat v11) default) a2).2:Int) != 0) then
    (.inr (.inr ((0,0),(kU ((aN (a0.1,a0.2)).getD (toNat v10) default) ((aN (a0.1,a0.2)).getD (toNat v11) default) a2).2)))
   else
    (bif (((fT (kU ((aN (a0.1,a0.2)).getD (toNat v10) default) ((aN (a0.1,a0.2)).getD (toNat v11) default) a2).1 (W ((a1.getD (toNat v10) default)*(a1.getD (toNat v11) default)))).2:Int) != 0) then
     (.inr (.inr ((0,0),(fT (kU ((aN (a0.1,a0.2)).getD (toNat v10) default) ((aN (a0.1,a0.2)).getD (toNat v11) default) a2).1 (W ((a1.getD (toNat v10) default)*(a1.getD (toNat v11) default)))).2)))
    else
     (.inl ((v9++[(fT (kU ((aN (a0.1,a0.2)).getD (toNat v10) default) ((aN (a0.1,a0.2)).getD (toNat v11) default) a2).1 (W ((a1.getD (toNat v10) default)*(a1.getD (toNat v11) default)))).1]),v10,(v11+1)))))
  else
   (.inr (.inl (v9,(v10+1)))))
noncomputable def vP:Code:=(aE [1,1,1,1,1,0,1] [] (aH Tryz.f110) []).1
noncomputable def vQ:List K:=(aE [1,1,1,1,1,0,1] [] (aH Tryz.f110) []).2
def rR (a0:Zm)(a1:List (Int))(a2:Int)(v7c:List SV)(v7n:Nat)(v8:Int):LS:=⟨iJ 80 [(1,(.s 2 0 a1.length 1)),(2,(iv a2)),(6,(.p 3 0)),(9,(.s 4 0 (aN (a0.1,a0.2)).length 9)),(10,(.s 5 0 v7n 2)),(11,(iv v8))],[(.live false true (flat dU a0.1)),(.live false true (flat eZ a0.2)),(.live false true (flat c3 a1)),(.live true false [(iv 0),(iv 0)]),(.live true true (flat dK (aN (a0.1,a0.2)))),(.live true true v7c)]⟩
def dZ (a0:Zm)(a1:List (Int))(a2:Int):(List (Int×Int))×Int→((List (Int×Int))×Int)⊕((Int×Int)×Int)
 | (v7,v8) =>
  (bif (decide ((v8:Int) < (((aN (a0.1,a0.2)).length:Nat):Int))) then
   (aB (dS a0 a1 a2) (toNat ((((aN (a0.1,a0.2)).length:Nat):Int) - 0)+1) (v7,v8,0))
  else
   (.inr ((cZ v7).1,(cZ v7).2)))
theorem aR7 (a0:Zm)(a1:List (Int))(a2:Int)(l0_1:a0.1.length≤9223372036854775807)(l0_2:a0.2.length≤9223372036854775807)(l1:a1.length≤9223372036854775807) {cx:Cx} (hcx:cx.base=3)
   (n0:Nat) (g0:∀(v7:List (Int×Int)) (v8:Int),(0≤v8)∧(v7.length≤96*toNat v8)∧(v8≤(aN (a0.1,a0.2)).length)∧((aN (a0.1,a0.2)).length=a1.length)∧(a1.length≤96)→toNat ((((aN (a0.1,a0.2)).length:Nat):Int) - v8) < n0→Aw.Good Tryz.prog none 9 (bodyPost Tryz.prog Tryz.f110 (RR cx (.t [(.a (k2 (aB (dZ a0 a1 a2) n0 (v7,v8)).1)),(iv (aB (dZ a0 a1 a2) n0 (v7,v8)).2)]) [] [])) cx [] (.l vP n0::vQ) (rR a0 a1 a2 (flat cO v7) v7.length v8)):∀(n:Nat) (v9:List (Int×Int)) (v10 v11:Int),(0≤v11)∧(v9.length≤96*toNat v10+toNat v11)∧(0≤v10)∧(v10 < (aN (a0.1,a0.2)).length)∧(v11≤(aN (a0.1,a0.2)).length)∧((aN (a0.1,a0.2)).length=a1.length)∧(a1.length≤96)∧((0≤v10))∧((v10≤(aN (a0.1,a0.2)).length))∧(((aN (a0.1,a0.2)).length=a1.length))∧((a1.length≤96))∧(v10 < (((aN (a0.1,a0.2)).length:Nat):Int))∧(toNat ((((aN (a0.1,a0.2)).length:Nat):Int) - v10) < n0+1)→toNat ((((aN (a0.1,a0.2)).length:Nat):Int) - v11) < n→Aw.Good Tryz.prog none 9 (bodyPost Tryz.prog Tryz.f110 (RR cx (.t [(.a (k2 (iX (dZ a0 a1 a2) n0 (aB (dS a0 a1 a2) n (v9,v10,v11))).1)),(iv (iX (dZ a0 a1 a2) n0 (aB (dS a0 a1 a2) n (v9,v10,v11))).2)]) [] [])) cx [] (.l aCs n::aCt n0) (xT a0 a1 a2 (flat cO v9) v9.length v10 v11):=by
 intro n
 induction n with
 | zero=>intro v9 v10 v11 hi hn;exact absurd hn (iF _)
 | succ n ih =>
   intro v9 v10 v11 hi hn
   refine aG ?_
   cases h0:(decide ((v11:Int) < (((aN (a0.1,a0.2)).length:Nat):Int))) with
   | true =>
    have q0:=bY h0
    let t1:List (St Tryz.prog):=[.d h0,.i v10 ((aN (a0.1,a0.2)).length),.L cU (aN (a0.1,a0.2)) v10 0 9,.i v11 ((aN (a0.1,a0.2)).length),.L cU (aN (a0.1,a0.2)) v11 0 9,.c [] (bEd ((aN (a0.1,a0.2)).getD (toNat v10) default) ((aN (a0.1,a0.2)).getD (toNat v11) default) a2)]
    cases h1:(((kU ((aN (a0.1,a0.2)).getD (toNat v10) default) ((aN (a0.1,a0.2)).getD (toNat v11) default) a2).2:Int) != 0) with
    | true =>
     have q1:=bne_iff_ne.1 h1
     have e:=Eq.refl (dS a0 a1 a2 (v9,v10,v11));conv at e=>rhs;simp only [dS,h0,h1,aI]
     rw [aF,e]
     exact rt (t1++[.d h1]) [] [] hcx (by kernel_rfl)
    | false =>
     have q1:=bne_eq_false_iff_eq.1 h1
     let t2:List (St Tryz.prog):=(t1++[.d h1,.i v10 (a1.length),.L fR a1 v10 0 1,.i v11 (a1.length),.L fR a1 v11 0 1,.c [] (bA3 (kU ((aN (a0.1,a0.2)).getD (toNat v10) default) ((aN (a0.1,a0.2)).getD (toNat v11) default) a2).1 (W ((a1.getD (toNat v10) default)*(a1.getD (toNat v11) default))))])
     cases h2:(((fT (kU ((aN (a0.1,a0.2)).getD (toNat v10) default) ((aN (a0.1,a0.2)).getD (toNat v11) default) a2).1 (W ((a1.getD (toNat v10) default)*(a1.getD (toNat v11) default)))).2:Int) != 0) with
     | true =>
      have q2:=bne_iff_ne.1 h2
      have e:=Eq.refl (dS a0 a1 a2 (v9,v10,v11));conv at e=>rhs;simp only [dS,h0,h1,h2,aI]
      rw [aF,e]
      exact rt (t2++[.d h2]) [] [] hcx (by kernel_rfl)
     | false =>
      have q2:=bne_eq_false_iff_eq.1 h2
      have e:=Eq.refl (dS a0 a1 a2 (v9,v10,v11));conv at e=>rhs;simp only [dS,h0,h1,h2,aI]
      rw [aA e]
      refine ba (t2++[.d h2,.p (show((flat cO v9).length=v9.length*2∧v9.length+1≤2 ^ 40∧(v9.length+1)*16≤2 ^ 47) from gF bZ (by omega) (by omega))]) [] [1,2,6,9,10,11,12] [3,4,8] hcx (m:=n) aCs (aCt n0) (xT a0 a1 a2 (flat cO v9++(k2 (fT (kU ((aN (a0.1,a0.2)).getD (toNat v10) default) ((aN (a0.1,a0.2)).getD (toNat v11) default) a2).1 (W ((a1.getD (toNat v10) default)*(a1.getD (toNat v11) default)))).1)) (v9.length+1) v10 (W (v11+1))) (by kernel_rfl) ?_
      have z0:(W (v11+1))=(v11+1):=aD (by omega) (by omega)
      have z1:(flat cO v9++(k2 (fT (kU ((aN (a0.1,a0.2)).getD (toNat v10) default) ((aN (a0.1,a0.2)).getD (toNat v11) default) a2).1 (W ((a1.getD (toNat v10) default)*(a1.getD (toNat v11) default)))).1))=(flat cO (v9++[(fT (kU ((aN (a0.1,a0.2)).getD (toNat v10) default) ((aN (a0.1,a0.2)).getD (toNat v11) default) a2).1 (W ((a1.getD (toNat v10) default)*(a1.getD (toNat v11) default)))).1])):=(bN (c:=cO) (l:=v9) (m:=[(fT (kU ((aN (a0.1,a0.2)).getD (toNat v10) default) ((aN (a0.1,a0.2)).getD (toNat v11) default) a2).1 (W ((a1.getD (toNat v10) default)*(a1.getD (toNat v11) default)))).1])).symm
      have z2:(v9.length+1)=(v9++[(fT (kU ((aN (a0.1,a0.2)).getD (toNat v10) default) ((aN (a0.1,a0.2)).getD (toNat v11) default) a2).1 (W ((a1.getD (toNat v10) default)*(a1.getD (toNat v11) default)))).1]).length:=eF v9 [(fT (kU ((aN (a0.1,a0.2)).getD (toNat v10) default) ((aN (a0.1,a0.2)).getD (toNat v11) default) a2).1 (W ((a1.getD (toNat v10) default)*(a1.getD (toNat v11) default)))).1] rfl
      rw [z0,z1,z2]
      exact ih (v9++[(fT (kU ((aN (a0.1,a0.2)).getD (toNat v10) default) ((aN (a0.1,a0.2)).getD (toNat v11) default) a2).1 (W ((a1.getD (toNat v10) default)*(a1.getD (toNat v11) default)))).1]) v10 (v11+1) (by refine⟨?_,?_,?_,?_,?_,?_,?_,?_,?_,?_,?_,?_,?_⟩<;>(try simp only [Ls])<;>first | omega | assumption | exact hi.2.1 | exact hi.2.2.1 | exact hi.2.2.2.1 | exact hi.2.2.2.2.1 | exact hi.2.2.2.2.2.1 | exact hi.2.2.2.2.2.2.1 | exact hi.2.2.2.2.2.2.2.1 | exact hi.2.2.2.2.2.2.2.2.1 | exact hi.2.2.2.2.2.2.2.2.2.1 | exact hi.2.2.2.2.2.2.2.2.2.2.1 | exact hi.2.2.2.2.2.2.2.2.2.2.2.1 | exact hi.2.2.2.2.2.2.2.2.2.2.2.2.1 | simp) (by(try simp only [Ls]);omega)
   | false =>
    have q0:=cG h0
    have e:=Eq.refl (dS a0 a1 a2 (v9,v10,v11));conv at e=>rhs;simp only [dS,h0,aI]
    rw [aF,e]
    refine ba [.d h0] [] [1,2,6,9,10,11] [3,4,5] hcx (m:=n0) vP (vQ) (rR a0 a1 a2 (flat cO v9) (v9.length) (W (v10+1))) (by kernel_rfl) ?_
    have z0:(W (v10+1))=(v10+1):=aD (by omega) (by omega)
    rw [z0]
    exact g0 v9 (v10+1) (by refine⟨?_,?_,?_,?_,?_⟩<;>(try simp only [Ls])<;>first | omega | assumption | simp) (by(try simp only [Ls]);omega)
theorem aR8 (a0:Zm)(a1:List (Int))(a2:Int)(l0_1:a0.1.length≤9223372036854775807)(l0_2:a0.2.length≤9223372036854775807)(l1:a1.length≤9223372036854775807) {cx:Cx} (hcx:cx.base=3):∀(n:Nat)(v7:List (Int×Int))(v8:Int),(0≤v8)∧(v7.length≤96*toNat v8)∧(v8≤(aN (a0.1,a0.2)).length)∧((aN (a0.1,a0.2)).length=a1.length)∧(a1.length≤96)→toNat ((((aN (a0.1,a0.2)).length:Nat):Int) - v8) < n→Aw.Good Tryz.prog none 9 (bodyPost Tryz.prog Tryz.f110 (RR cx (.t [(.a (k2 (aB (dZ a0 a1 a2) n (v7,v8)).1)),(iv (aB (dZ a0 a1 a2) n (v7,v8)).2)]) [] [])) cx [] (.l vP n::vQ) (rR a0 a1 a2 (flat cO v7) v7.length v8):=by
 intro n
 induction n with
 | zero=>intro v7 v8 hi hn;exact absurd hn (iF _)
 | succ n ih =>
   intro v7 v8 hi hn
   refine aG ?_
   cases h0:(decide ((v8:Int) < (((aN (a0.1,a0.2)).length:Nat):Int))) with
   | true =>
    have q0:=bY h0
    have e:=Eq.refl (dZ a0 a1 a2 (v7,v8));conv at e=>rhs;simp only [dZ,h0,aI]
    rw [aF,e]
    refine en [.d h0] [] [1,2,6,9,10,11,12] [3,4,5] hcx aCs (aCt n) (xT a0 a1 a2 (flat cO v7) (v7.length) v8 0) (toNat ((((aN (a0.1,a0.2)).length:Nat):Int) - 0)+1) (by kernel_rfl) ?_
    exact aR7 a0 a1 a2 l0_1 l0_2 l1 hcx n ih (toNat ((((aN (a0.1,a0.2)).length:Nat):Int) - 0)+1) v7 v8 0 (by refine⟨?_,?_,?_,?_,?_,?_,?_,?_,?_,?_,?_,?_,?_⟩<;>(try simp only [Ls])<;>first | omega | assumption | exact hi.2.1 | exact hi.2.2.1 | exact hi.2.2.2.1 | exact hi.2.2.2.2.1 | exact hi.2.2.2.2.2.1 | exact hi.2.2.2.2.2.2.1 | exact hi.2.2.2.2.2.2.2.1 | exact hi.2.2.2.2.2.2.2.2.1 | exact hi.2.2.2.2.2.2.2.2.2.1 | exact hi.2.2.2.2.2.2.2.2.2.2.1 | exact hi.2.2.2.2.2.2.2.2.2.2.2.1 | exact hi.2.2.2.2.2.2.2.2.2.2.2.2.1 | simp) (by(try simp only [Ls]);omega)
   | false =>
    have q0:=cG h0
    have e:=Eq.refl (dZ a0 a1 a2 (v7,v8));conv at e=>rhs;simp only [dZ,h0,aI]
    rw [aF,e]
    exact rt [.d h0,.c [5] (aPt v7 (by omega))] [] [] hcx (by kernel_rfl)
def fV (a0:Zm)(a1:List (Int))(a2:Int):(Int×Int)×Int :=
 (bif (((fK (a0.1,a0.2) a1 a2):Int) != 0) then
  ((0,0),(fK (a0.1,a0.2) a1 a2))
 else
  (aB (dZ a0 a1 a2) (toNat ((((aN (a0.1,a0.2)).length:Nat):Int) - 0)+1) (([]:List (Int×Int)),0)))
theorem aYk (a0:Zm)(a1:List (Int))(a2:Int)(l0_1:a0.1.length≤9223372036854775807)(l0_2:a0.2.length≤9223372036854775807)(l1:a1.length≤9223372036854775807):Con Tryz.prog 110 [(.a [(.s 0 0 a0.1.length 3),(.s 1 0 a0.2.length 3)]),(.s 2 0 a1.length 1),(iv a2)] [(.live false true (flat dU a0.1)),(.live false true (flat eZ a0.2)),(.live false true (flat c3 a1))] (.t [(.a (k2 (fV a0 a1 a2).1)),(iv (fV a0 a1 a2).2)]) []:=by
 refine aK Tryz.func110 (by kernel_rfl) fun cx hcx=>?_
 try have hg1:a0.2.length≤96:=(eI h0).2.1
 try have hg2:a1.length=a0.2.length:=(eI h0).2.2
 have hg3:(aN (a0.1,a0.2)).length=a0.2.length:=aR3 (a0.1,a0.2)
 let t0:List (St Tryz.prog):=[.c [0,1,2] (aRu (a0.1,a0.2) a1 a2 (by(try simp only [Lt]);omega) (by(try simp only [Lt]);omega) (by omega))]
 cases h0:(((fK (a0.1,a0.2) a1 a2):Int) != 0) with
 | true =>
  have q0:=bne_iff_ne.1 h0
  try have hg1:a0.2.length≤96:=(eI h0).2.1
  try have hg2:a1.length=a0.2.length:=(eI h0).2.2
  have e:=Eq.refl (fV a0 a1 a2);conv at e=>rhs;simp only [fV,h0,aI]
  rw [e]
  exact rt (t0++[.d h0]) [] [] hcx (by kernel_rfl)
 | false =>
  have q0:=bne_eq_false_iff_eq.1 h0
  try have hg1:a0.2.length≤96:=(eI h0).2.1
  try have hg2:a1.length=a0.2.length:=(eI h0).2.2
  have e:=Eq.refl (fV a0 a1 a2);conv at e=>rhs;simp only [fV,h0,aI]
  rw [e]
  refine en (t0++[.d h0,.c [0,1] (bB8 (a0.1,a0.2) (by(try simp only [Lt]);omega) (by(try simp only [Lt]);omega) (eI h0).1 (eI h0).2.1)]) [.slot 10 2] [1,2,6,9,10,11] [4,5,6] hcx vP (vQ) (rR a0 a1 a2 (flat cO ([]:List (Int×Int))) 0 0) (toNat ((((aN (a0.1,a0.2)).length:Nat):Int) - 0)+1) (by kernel_rfl) ?_
  exact aR8 a0 a1 a2 l0_1 l0_2 l1 hcx (toNat ((((aN (a0.1,a0.2)).length:Nat):Int) - 0)+1) ([]:List (Int×Int)) 0 (by refine⟨?_,?_,?_,?_,?_⟩<;>(try simp only [Ls])<;>first | omega | assumption | simp) (by(try simp only [Ls]);omega)
theorem rS {α β R:Type} {g:α→β×Int} {E:Int→R}:∀(l:List α)(t:List β),iQ (fun t c=>bif ((g c).2 != 0) then .inr (E (g c).2) else .inl (t++[(g c).1])) l t=(match nD g l t with | .inl m=>.inl m | .inr e=>.inr (E e))
 | [],t=>rfl
 | c::l,t=>by
   unfold nD
   simp only [iQ]
   by_cases h:(g c).2=0
   · rw [if_pos h,h]
     exact rS l (t++[(g c).1])
   · rw [if_neg h,bne_iff_ne.2 h];rfl
theorem vR {α β γ:Type} {g:α→β×Int} {g':γ→β×Int} {f:γ→α}:∀{k:List γ} {m:List β},(∀c∈k,g (f c)=g' c)→nD g (k.map f) m=nD g' k m
 | [],_,_=>rfl
 | c::k,m,h=>by
   simp only [List.map_cons,nD]
   rw [h c List.mem_cons_self,vR (k:=k) (fun x hx=>h x (List.mem_cons_of_mem _ hx))]
noncomputable def fW (m:ME)(d:Int)(pj:PN):List (Int×Int):=(aU m).map fun p=>(uA p pj d).1
theorem aM9 {α β γ:Type} (f:α→γ):∀(l:List α)(k:List β),(l.map f).zip k=(l.zip k).map (fun c=>(f c.1,c.2))
 | [],_=>by simp
 | _::_,[]=>by simp
 | a::l,b::k=>by simp [aM9 f l k]
theorem aIu {a:Int×Int} {n:Int} (ha:okP a)(hn:0≤n∧n≤10000):fT a n=nQ a n:=by
 rw [aF8 (aGo ha) (by omega),aUe (aGo ha) (by omega)]
theorem aYl {m:ME} {q:List Int} {d:Int} (hc:ChOK m q)(hd:0≤d∧d≤2)(out:List (Int×Int))(j:Nat) {pj:PN} (hj:(aU m)[j]? = some pj) :
   aB (cV m q d) (toNat ((((aU m).length:Nat):Int) - 0)+1) (out,[],(j:Int),0) =
     bif ((dY ((fW m d pj).zip q)).2 != 0) then .inr ([],(dY ((fW m d pj).zip q)).2) else .inl (out++[(dY ((fW m d pj).zip q)).1],(j:Int)+1):=by
 have hR:aN (m.1,m.2)=aU m:=aCp m
 have hpl:(aU m).length=m.2.length:=List.length_map _
 have hlen:=hc.len
 have hz:((aU m).zip q).length=(aU m).length:=by rw [List.length_zip];omega
 have hpj:=List.mem_of_getElem? hj
 have hn:=hc.n
 let g:PN×Int→(Int×Int)×Int:=fun c=>nQ (uA c.1 pj d).1 c.2
 have key:=aZ (S:=cV m q d) (fun terms i=>(out,terms,(j:Int),i)) (fun t c=>bif ((g c).2 != 0) then .inr (.inr ([],(g c).2)) else .inl (t++[(g c).1]))
   (fun terms=>bif ((cZ terms).2 != 0) then .inr ([],(cZ terms).2) else .inl (out++[(cZ terms).1],(j:Int)+1)) (L:=(aU m).zip q) (v:=[]) (n:=toNat ((((aU m).length:Nat):Int) - 0)+1) (fun _ _=>True) ?_ (fun _ _ _ _ _ _ _=>trivial) ?_ (by omega) trivial
 · refine Eq.trans key ?_
   rw [rS (g:=g) (E:=fun e=>(Sum.inr (([]:List (Int×Int)),e):(List (Int×Int)×Int)⊕(List (Int×Int)×Int))) ((aU m).zip q) []]
   have e:dY ((fW m d pj).zip q)=pJ aKm (fun e=>((0,0),e)) (nD g ((aU m).zip q) []):=by
     unfold dY fW
     rw [aM9,vR (g:=sC) (g':=g) (f:=fun c:PN×Int=>((uA c.1 pj d).1,c.2)) (fun c _=>rfl)]
   rw [e]
   cases hs:nD g ((aU m).zip q) [] with
   | inr r =>
     have:=rH hs
     simp only [aCc,pJ]
     rw [bne_iff_ne.2 this];rfl
   | inl t =>
     simp only [aCc,pJ]
     obtain⟨e2,h0⟩:=kV hs
     rw [List.nil_append] at e2
     have hS:=aV3 (l:=t) (fun a ha=>by
       rw [e2] at ha
       obtain⟨c,hcm,rfl⟩:=List.mem_map.1 ha
       exact aIp (h0 c hcm)) (by rw [e2,List.length_map];omega)
     rw [hS]
 · intro i c hi terms _
   obtain⟨h1,h2⟩:=List.getElem?_zip_eq_some.1 hi
   have hlt:=(List.getElem?_eq_some_iff.1 h1).1
   have hcp:=List.mem_of_getElem? h1
   have hcq:=hc.ok _ (List.mem_of_getElem? h2)
   obtain⟨b0,bP⟩:=kH (lX hc.v hd hcp hpj)
   simp only [cV]
   rw [hR,bV (by omega),cond_true,bB h1,bB h2,bB hj,←aKf,b0,aIu bP (by omega)]
   show(bif ((g c).2 != 0) then _ else _)=_
   cases ((g c).2 != 0)<;>rfl
 · intro terms _
   simp only [cV]
   rw [hR,cJ (by omega),cond_false]
   cases ((cZ terms).2 != 0)<;>rfl
noncomputable def iW (m:ME)(q:List Int)(d:Int):List (Int×Int)×Int:=bif (chD m q d != 0) then([],chD m q d) else pL ((aU m).map (fW m d)) q
theorem sP (m:ME)(q:List Int)(d:Int):aS m q d=iW m q d:=by
 unfold aS iW
 rw [show fK (m.1,m.2) q d=chD m q d from aR2 m q d]
 cases h:(chD m q d != 0) with
 | true=>rfl
 | false =>
   obtain⟨hc,hd⟩:=gI (bne_eq_false_iff_eq.1 h)
   have hR:aN (m.1,m.2)=aU m:=aCp m
   rw [hR,cond_false,cond_false]
   have key:=aZ (S:=dH m q d) (fun out j=>(out,j)) (fun out pj=>bif ((dY ((fW m d pj).zip q)).2 != 0) then .inr ([],(dY ((fW m d pj).zip q)).2) else .inl (out++[(dY ((fW m d pj).zip q)).1])) (fun out=>(out,0)) (L:=aU m) (v:=[]) (n:=toNat ((((aU m).length:Nat):Int) - 0)+1) (fun _ _=>True) ?_ (fun _ _ _ _ _ _ _=>trivial) ?_ (by omega) trivial
   · refine Eq.trans key ?_
     rw [rS (g:=fun pj=>dY ((fW m d pj).zip q)) (E:=fun e=>([],e)) (aU m) []]
     unfold pL
     rw [vR (g:=fun r:List (Int×Int)=>dY (r.zip q)) (g':=fun pj=>dY ((fW m d pj).zip q)) (fun c _=>rfl)]
     cases nD (fun pj=>dY ((fW m d pj).zip q)) (aU m) []<;>rfl
   · intro j pj hj out _
     obtain⟨hlt,hce⟩:=List.getElem?_eq_some_iff.1 hj
     simp only [dH]
     rw [hR,bV (by omega),cond_true,aYl hc hd out j hj]
     cases ((dY ((fW m d pj).zip q)).2 != 0)<;>rfl
   · intro out _
     simp only [dH]
     rw [hR,cJ (by omega),cond_false]
theorem aNa {α β:Type} {g:α→β×Int}:∀{k k':List α} {m:List β},nD g (k++k') m=(match nD g k m with | .inl m'=>nD g k' m' | .inr e=>.inr e)
 | [],_,_=>rfl
 | c::k,k',m=>by
   simp only [List.cons_append,nD]
   by_cases h:(g c).2=0
   · rw [if_pos h,if_pos h];exact aNa
   · rw [if_neg h,if_neg h]
def cY {γ R:Type} (E:Int→R):List γ⊕Int→List γ⊕R
 | .inl m=>.inl m
 | .inr e=>.inr (E e)
theorem aCu {α β γ R:Type} {g:β→γ×Int} {cs:α→List β} {E:Int→R}:∀(L:List α)(t:List γ),iQ (fun t c=>cY E (nD g (cs c) t)) L t=cY E (nD g (L.flatMap cs) t)
 | [],_=>rfl
 | c::L,t=>by
   rw [List.flatMap_cons,aNa]
   simp only [iQ]
   cases nD g (cs c) t with
   | inl m=>exact aCu L m
   | inr e=>rfl
theorem aEq {α β γ:Type} (fx:α→List β)(fy:α→List γ)(hl:∀c,(fx c).length=(fy c).length):∀(L:List α)(v:List β×List γ),v.1.length=v.2.length →
   (L.foldl (fun v c=>(v.1++fx c,v.2++fy c)) v).1.length=(L.foldl (fun v c=>(v.1++fx c,v.2++fy c)) v).2.length ∧
   (L.foldl (fun v c=>(v.1++fx c,v.2++fy c)) v).1.zip (L.foldl (fun v c=>(v.1++fx c,v.2++fy c)) v).2=v.1.zip v.2++L.flatMap (fun c=>(fx c).zip (fy c))
 | [],v,h=>⟨h,by simp⟩
 | c::L,v,h=>by
   have ih:=aEq fx fy hl L (v.1++fx c,v.2++fy c) (by simp only [List.length_append];rw [h,hl c])
   rw [List.foldl_cons]
   refine⟨ih.1,ih.2.trans ?_⟩
   simp only [List.flatMap_cons]
   rw [List.zip_append h,List.append_assoc]
theorem aEr {α β γ:Type} (fx:α→List β)(fy:α→List γ)(n:Nat)(hn:∀c,(fx c).length≤n):∀(L:List α)(v:List β×List γ),(L.foldl (fun v c=>(v.1++fx c,v.2++fy c)) v).1.length≤v.1.length+n*L.length
 | [],v=>by simp
 | c::L,v=>by
   have ih:=aEr fx fy n hn L (v.1++fx c,v.2++fy c)
   have:=hn c
   rw [List.foldl_cons,List.length_cons,Nat.mul_succ]
   simp only [List.length_append] at ih
   omega
noncomputable def eC (m:ME)(q:List Int)(d:Int)(c:PN×Int):List ((Int×Int)×Int):=((aU m).zip q).map fun e=>((pM c.1 e.1 d).1,W (c.2*e.2))
noncomputable def eX (m:ME)(q:List Int)(d:Int)(c:PN×Int):List (Int×Int):=((aU m).zip q).map fun e=>(pM c.1 e.1 d).1
noncomputable def eY (m:ME)(q:List Int)(c:PN×Int):List Int:=((aU m).zip q).map fun e=>W (c.2*e.2)
theorem eXY (m:ME)(q:List Int)(d:Int)(c:PN×Int):(eX m q d c).zip (eY m q c)=eC m q d c:=by
 unfold eX eY eC
 generalize (aU m).zip q=L
 induction L with
 | nil=>rfl
 | cons e L ih=>simp only [List.map_cons,List.zip_cons_cons,ih]
theorem aYm {α β γ:Type} (g:α→β)(h:α→γ)(l:List α)(v:List β×List γ):l.foldl (fun v c=>(v.1++[g c],v.2++[h c])) v=(v.1++l.map g,v.2++l.map h):=by
 induction l generalizing v with
 | nil=>simp
 | cons c l ih=>rw [List.foldl_cons,ih];simp
noncomputable def MT (m:ME)(d:Int):TB:=(aU m).map fun q=>(aU m).map fun p=>(pM p q d).1
noncomputable def EnV (m:ME)(q:List Int)(d:Int):(Int×Int)×Int:=bif (chD m q d != 0) then((0,0),chD m q d) else dY (((aU m).zip q).flatMap (eC m q d))
theorem aYn {m:ME} {d:Int} {i j:Nat} {p r:PN} (hi:(aU m)[i]? = some p)(hj:(aU m)[j]? = some r):((MT m d).getD (toNat (j:Int)) default).getD (toNat (i:Int)) default=(pM p r d).1:=by
 have e1:(MT m d)[j]? = some ((aU m).map fun p=>(pM p r d).1):=by unfold MT;rw [List.getElem?_map,hj];rfl
 rw [bB e1]
 have e2:((aU m).map fun p=>(pM p r d).1)[i]? = some (pM p r d).1:=by rw [List.getElem?_map,hi];rfl
 rw [bB e2]
theorem aYo {m:ME} {q:List Int} {d:Int} (hl:(aU m).length=q.length)(xs:List (Int×Int))(ys:List Int)(i:Nat) {c:PN×Int} (hi:((aU m).zip q)[i]? = some c) :
   aB (eS (MT m d) q) (toNat ((q.length:Int) - 0)+1) (xs,ys,(i:Int),c.2,(i:Int),0)=.inl (xs++eX m q d c,ys++eY m q c,(i:Int)+1):=by
 obtain⟨hi1,hi2⟩:=List.getElem?_zip_eq_some.1 hi
 have hz:((aU m).zip q).length=q.length:=by rw [List.length_zip];omega
 have key:=aZ (S:=eS (MT m d) q) (fun(v:List (Int×Int)×List Int) j=>(v.1,v.2,(i:Int),c.2,(i:Int),j)) (fun v e=>.inl (v.1++[(pM c.1 e.1 d).1],v.2++[W (c.2*e.2)])) (fun v=>.inl (v.1,v.2,(i:Int)+1)) (L:=(aU m).zip q) (v:=(xs,ys)) (n:=toNat ((q.length:Int) - 0)+1) (fun _ _=>True) ?_ (fun _ _ _ _ _ _ _=>trivial) ?_ (by omega) trivial
 · refine Eq.trans key ?_
   rw [bM,aYm];rfl
 · intro j e hj v _
   obtain⟨h1,h2⟩:=List.getElem?_zip_eq_some.1 hj
   have hlt:=(List.getElem?_eq_some_iff.1 h2).1
   simp only [eS]
   rw [bV (by omega),cond_true,aYn hi1 h1,bB h2]
   rfl
 · intro v _
   simp only [eS]
   rw [cJ (by omega),cond_false]
theorem aYp {m:ME} {q:List Int} {d:Int} (hl:(aU m).length=q.length)(hm:q.length≤96):cS (MT m d) q=dY (((aU m).zip q).flatMap (eC m q d)):=by
 have hz:((aU m).zip q).length=q.length:=by rw [List.length_zip];omega
 unfold cS
 have key:=aZ (S:=dJ (MT m d) q) (fun(v:List (Int×Int)×List Int) i=>(v.1,v.2,i)) (fun v c=>.inl (v.1++eX m q d c,v.2++eY m q c)) (fun v=>((dC v.1 v.2).1,(dC v.1 v.2).2)) (L:=(aU m).zip q) (v:=([],[])) (n:=toNat ((q.length:Int) - 0)+1) (fun _ _=>True) ?_ (fun _ _ _ _ _ _ _=>trivial) ?_ (by omega) trivial
 · refine Eq.trans key ?_
   rw [bM]
   obtain⟨h1,h2⟩:=aEq (eX m q d) (eY m q) (fun c=>by unfold eX eY;rw [List.length_map,List.length_map]) ((aU m).zip q) ([],[]) rfl
   have h3:=aEr (eX m q d) (eY m q) 96 (fun c=>by unfold eX;rw [List.length_map];omega) ((aU m).zip q) ([],[])
   simp only [List.length_nil] at h3
   simp only [aCc]
   rw [aV7 (by omega) (by omega),h2]
   simp only [eXY,List.zip_nil_left,List.nil_append]
 · intro i c hi v _
   obtain⟨h1,h2⟩:=List.getElem?_zip_eq_some.1 hi
   have hlt:=(List.getElem?_eq_some_iff.1 h2).1
   simp only [dJ]
   rw [bV (by omega),cond_true,bB h2,aYo hl v.1 v.2 i hi]
   rfl
 · intro v _
   simp only [dJ]
   rw [cJ (by omega),cond_false]
theorem bCf {m:ME} {q:List Int} {d:Int} (hc:ChOK m q)(hd:0≤d∧d≤2)(i:Nat) {c:PN×Int} (hi:((aU m).zip q)[i]? = some c)(t:List (Int×Int)) :
   aB (dS m q d) (toNat ((((aU m).length:Nat):Int) - 0)+1) (t,(i:Int),0) =
     (match nD sC (eC m q d c) t with | .inl t'=>.inl (t',(i:Int)+1) | .inr e=>.inr ((0,0),e)):=by
 have hR:aN (m.1,m.2)=aU m:=aCp m
 have hpl:(aU m).length=m.2.length:=List.length_map _
 have hlen:=hc.len
 have hz:((aU m).zip q).length=(aU m).length:=by rw [List.length_zip];omega
 obtain⟨hi1,hi2⟩:=List.getElem?_zip_eq_some.1 hi
 have hip:=List.mem_of_getElem? hi1
 have hiq:=hc.ok _ (List.mem_of_getElem? hi2)
 let g:PN×Int→(Int×Int)×Int:=fun e=>nQ (pM c.1 e.1 d).1 (W (c.2*e.2))
 have key:=aZ (S:=dS m q d) (fun t j=>(t,(i:Int),j)) (fun t e=>bif ((g e).2 != 0) then .inr (.inr ((0,0),(g e).2)) else .inl (t++[(g e).1]))
   (fun t=>.inl (t,(i:Int)+1)) (L:=(aU m).zip q) (v:=t) (n:=toNat ((((aU m).length:Nat):Int) - 0)+1) (fun _ _=>True) ?_ (fun _ _ _ _ _ _ _=>trivial) ?_ (by omega) trivial
 · refine Eq.trans key ?_
   rw [rS (g:=g) (E:=fun e=>(Sum.inr ((0,0),e):(List (Int×Int)×Int)⊕((Int×Int)×Int))) ((aU m).zip q) t]
   have e:nD sC (eC m q d c) t=nD g ((aU m).zip q) t:=by
     unfold eC
     rw [vR (g:=sC) (g':=g) (f:=fun e:PN×Int=>((pM c.1 e.1 d).1,W (c.2*e.2))) (fun c _=>rfl)]
   rw [e]
   cases nD g ((aU m).zip q) t<;>rfl
 · intro j e hj t _
   obtain⟨h1,h2⟩:=List.getElem?_zip_eq_some.1 hj
   have hlt:=(List.getElem?_eq_some_iff.1 h1).1
   have hcp:=List.mem_of_getElem? h1
   have hcq:=hc.ok _ (List.mem_of_getElem? h2)
   obtain⟨b0,bP⟩:=oO (lX hc.v hd hip hcp)
   have hM:kU c.1 e.1 d=pM c.1 e.1 d:=by rw [aB7,aQp]
   have p0:0≤c.2*e.2:=Int.mul_nonneg hiq.1 hcq.1
   have p1:c.2*e.2≤100*100:=Int.mul_le_mul hiq.2 hcq.2 hcq.1 (by omega)
   have hW:W (c.2*e.2)=c.2*e.2:=aD (by omega) (by omega)
   simp only [dS]
   rw [hR,bV (by omega),cond_true,bB h1,bB h2,bB hi1,bB hi2,hM,b0,aIu bP (by omega)]
   show(bif ((g e).2 != 0) then _ else _)=_
   cases ((g e).2 != 0)<;>rfl
 · intro t _
   simp only [dS]
   rw [hR,cJ (by omega),cond_false]
theorem bCg (m:ME)(q:List Int)(d:Int):fV m q d=EnV m q d:=by
 unfold fV EnV
 rw [show fK (m.1,m.2) q d=chD m q d from aR2 m q d]
 cases h:(chD m q d != 0) with
 | true=>rfl
 | false =>
   obtain⟨hc,hd⟩:=gI (bne_eq_false_iff_eq.1 h)
   have hn:=hc.n;have hlen:=hc.len
   have hR:aN (m.1,m.2)=aU m:=aCp m
   have hpl:(aU m).length=m.2.length:=List.length_map _
   have hz:((aU m).zip q).length=(aU m).length:=by rw [List.length_zip];omega
   rw [hR,cond_false,cond_false]
   have key:=aZ (S:=dZ m q d) (fun t i=>(t,i)) (fun t c=>cY (fun e=>(((0,0):Int×Int),e)) (nD sC (eC m q d c) t)) (fun t=>((cZ t).1,(cZ t).2)) (L:=(aU m).zip q) (v:=[]) (n:=toNat ((((aU m).length:Nat):Int) - 0)+1) (fun _ _=>True) ?_ (fun _ _ _ _ _ _ _=>trivial) ?_ (by omega) trivial
   · refine Eq.trans key ?_
     rw [aCu]
     unfold dY
     have hfl:(((aU m).zip q).flatMap (eC m q d)).length≤9216:=by
       have:∀L:List (PN×Int),(L.flatMap (eC m q d)).length≤96*L.length:=by
         intro L
         induction L with
         | nil=>simp
         | cons c L ih =>
           have:(eC m q d c).length≤96:=by unfold eC;rw [List.length_map];omega
           rw [List.flatMap_cons,List.length_append,List.length_cons];omega
       have:=this ((aU m).zip q)
       omega
     cases hs:nD sC (((aU m).zip q).flatMap (eC m q d)) [] with
     | inr r=>rfl
     | inl t =>
       obtain⟨hv,hm⟩:=aM6 hs hfl
       simp only [cY,aCc,pJ]
       rw [aV3 hv hm]
   · intro i c hi t _
     obtain⟨h1,h2⟩:=List.getElem?_zip_eq_some.1 hi
     have hlt:=(List.getElem?_eq_some_iff.1 h1).1
     simp only [dZ]
     rw [hR,bV (by omega),cond_true,bCf hc hd i hi t]
     cases nD sC (eC m q d c) t<;>rfl
   · intro t _
     simp only [dZ]
     rw [hR,cJ (by omega),cond_false]
theorem aLe {l:List (Int×Int)} (h:∀s∈l,1≤s.2)(j:Int):(0≤j∧j < (l.length:Int))→1≤(l.getD (toNat j) default).2:=fun g=>by
 have hlt:toNat j < l.length:=by omega
 rw [fL,List.getElem?_eq_getElem hlt,Option.getD_some]
 exact h _ (List.getElem_mem hlt)
theorem aLf {l:List (Int×Int)} (h:∀s∈l,1≤s.1)(j:Int):(0≤j∧j < (l.length:Int))→1≤(l.getD (toNat j) default).1:=fun g=>by
 have hlt:toNat j < l.length:=by omega
 rw [fL,List.getElem?_eq_getElem hlt,Option.getD_some]
 exact h _ (List.getElem_mem hlt)
theorem aUy {l:List (Int×Int)} (h:∀s∈l,1≤s.2)(hl:1≤l.length):1≤(l.getD 0 default).2:=aLe h 0 (by omega)
theorem oS {l:List (Int×Int)} (h:∀s∈l,1≤s.1)(hl:1≤l.length):1≤(l.getD 0 default).1:=aLf h 0 (by omega)
theorem oT (a b:Int):a≤iK a b∧b≤iK a b∧(iK a b=a∨iK a b=b):=by unfold iK;split<;>omega
theorem tT (a b:Int):pG a b≤a∧pG a b≤b∧(pG a b=a∨pG a b=b):=by unfold pG;split<;>omega
def F99 (a0:Int)(a1:Int):Int :=
 (W (Int.tdiv (W ((W (a0+a1)) - 1)) a1))
theorem C99 (a0:Int)(a1:Int)(hd:a1≠0):Con Tryz.prog 99 [(iv a0),(iv a1)] [] (iv (F99 a0 a1)) []:=by
 refine aK Tryz.func99 (by kernel_rfl) fun cx hcx=>?_
 have e:=Eq.refl (F99 a0 a1);conv at e=>rhs;simp only [F99]
 rw [e]
 exact rt [.p (show(a1:Int)≠0 from by first | omega | (rw [aD]<;>omega) | exact eA _)] [] [] hcx (by kernel_rfl)
noncomputable def xU:Code:=(aE [1,1,0,1] [] (aH Tryz.f64) []).1
noncomputable def xV:List K:=(aE [1,1,0,1] [] (aH Tryz.f64) []).2
def tU (a0:List (Int×Int))(a1:List (Int))(v1 v2:Int):LS:=⟨iJ 31 [(1,(.s 1 0 a1.length 1)),(6,(iv v1)),(13,(.s 0 0 a0.length 2)),(14,(iv (a0.length:Int))),(15,(iv v2))],[(.live false true (flat cO a0)),(.live false true (flat c3 a1))]⟩
def gA (a0:List (Int×Int))(a1:List (Int)):Int×Int→(Int×Int)⊕(Int×Int)
 | (v1,v2) =>
  (bif (decide ((v2:Int) < (a0.length:Int))) then
   (.inl ((iK v1 (a0.getD (toNat v2) default).2),(v2+1)))
  else
   (.inr ((F97 (W (Int.tdiv (cN a1) v1))).1,(F97 (W (Int.tdiv (cN a1) v1))).2)))
theorem aOk (a0:List (Int×Int))(a1:List (Int))(l0:a0.length≤9223372036854775807)(l1:a1.length≤9223372036854775807)(hl:1≤a0.length)(hp:∀s∈a0,1≤s.2) {cx:Cx} (hcx:cx.base=2):∀(n:Nat)(v1 v2:Int),(0≤v2)∧(1≤v1)→toNat ((a0.length:Int) - v2) < n→Aw.Good Tryz.prog none 9 (bodyPost Tryz.prog Tryz.f64 (RR cx (.t (k2 (aB (gA a0 a1) n (v1,v2)))) [] [])) cx [] (.l xU n::xV) (tU a0 a1 v1 v2):=by
 intro n
 induction n with
 | zero=>intro v1 v2 hi hn;exact absurd hn (iF _)
 | succ n ih =>
   intro v1 v2 hi hn
   refine aG ?_
   have hps:=aLe hp v2
   have hmx:=oT v1 (a0.getD (toNat v2) default).2
   cases h0:(decide ((v2:Int) < (a0.length:Int))) with
   | true =>
    have q0:=bY h0
    have e:=Eq.refl (gA a0 a1 (v1,v2));conv at e=>rhs;simp only [gA,h0,aI]
    rw [aA e]
    refine ba [.d h0,.i v2 (a0.length),.L bZ a0 v2 0 2] [] [1,6,13,14,15] [] hcx (m:=n) xU (xV) (tU a0 a1 (iK v1 (a0.getD (toNat v2) default).2) (W (v2+1))) (by kernel_rfl) ?_
    have z0:(W (v2+1))=(v2+1):=aD (by omega) (by omega)
    rw [z0]
    exact ih (iK v1 (a0.getD (toNat v2) default).2) (v2+1) (by refine⟨?_,?_⟩<;>(try simp only [Ls])<;>first | omega | assumption | simp) (by(try simp only [Ls]);omega)
   | false =>
    have q0:=cG h0
    have e:=Eq.refl (gA a0 a1 (v1,v2));conv at e=>rhs;simp only [gA,h0,aI]
    rw [aF,e]
    exact rt [.d h0,.c [1] (aRl a1 (by omega)),.p (show(v1:Int)≠0 from by first | omega | (rw [aD]<;>omega) | exact eA _),.c [] (C97 (W (Int.tdiv (cN a1) v1)))] [] [] hcx (by kernel_rfl)
def gV (a0:List (Int×Int))(a1:List (Int)):Int×Int :=
 (aB (gA a0 a1) (toNat ((a0.length:Int) - 0)+1) ((a0.getD (toNat 0) default).2,0))
theorem aUz (a0:List (Int×Int))(a1:List (Int))(l0:a0.length≤9223372036854775807)(l1:a1.length≤9223372036854775807)(hl:1≤a0.length)(hp:∀s∈a0,1≤s.2):Con Tryz.prog 64 [(.s 0 0 a0.length 2),(.s 1 0 a1.length 1)] [(.live false true (flat cO a0)),(.live false true (flat c3 a1))] (.t (k2 (gV a0 a1))) []:=by
 refine aK Tryz.func64 (by kernel_rfl) fun cx hcx=>?_
 have hp0:=aUy hp hl
 have e:=Eq.refl (gV a0 a1);conv at e=>rhs;simp only [gV]
 rw [e]
 refine en [.i 0 (a0.length),.L bZ a0 0 1 1] [] [1,6,13,14,15] [] hcx xU (xV) (tU a0 a1 ((a0.getD (toNat 0) default).2) 0) (toNat ((a0.length:Int) - 0)+1) (by kernel_rfl) ?_
 exact aOk a0 a1 l0 l1 hl hp hcx (toNat ((a0.length:Int) - 0)+1) ((a0.getD (toNat 0) default).2) 0 (by refine⟨?_,?_⟩<;>(try simp only [Ls])<;>first | omega | assumption | simp) (by(try simp only [Ls]);omega)
noncomputable def xW:Code:=(aE [1,1,0,1] [] (aH Tryz.f67) []).1
noncomputable def xX:List K:=(aE [1,1,0,1] [] (aH Tryz.f67) []).2
def tV (a0:List (Int×Int))(a1:List (Int))(v1 v2:Int):LS:=⟨iJ 31 [(1,(.s 1 0 a1.length 1)),(6,(iv v1)),(13,(.s 0 0 a0.length 2)),(14,(iv (a0.length:Int))),(15,(iv v2))],[(.live false true (flat cO a0)),(.live false true (flat c3 a1))]⟩
def gB (a0:List (Int×Int))(a1:List (Int)):Int×Int→(Int×Int)⊕(Int×Int)
 | (v1,v2) =>
  (bif (decide ((v2:Int) < (a0.length:Int))) then
   (.inl ((pG v1 (a0.getD (toNat v2) default).1),(v2+1)))
  else
   (.inr ((F97 (F99 (cN a1) v1)).1,(F97 (F99 (cN a1) v1)).2)))
theorem aOl (a0:List (Int×Int))(a1:List (Int))(l0:a0.length≤9223372036854775807)(l1:a1.length≤9223372036854775807)(hl:1≤a0.length)(hp:∀s∈a0,1≤s.1) {cx:Cx} (hcx:cx.base=2):∀(n:Nat)(v1 v2:Int),(0≤v2)∧(1≤v1)→toNat ((a0.length:Int) - v2) < n→Aw.Good Tryz.prog none 9 (bodyPost Tryz.prog Tryz.f67 (RR cx (.t (k2 (aB (gB a0 a1) n (v1,v2)))) [] [])) cx [] (.l xW n::xX) (tV a0 a1 v1 v2):=by
 intro n
 induction n with
 | zero=>intro v1 v2 hi hn;exact absurd hn (iF _)
 | succ n ih =>
   intro v1 v2 hi hn
   refine aG ?_
   have hps:=aLf hp v2
   have hmx:=tT v1 (a0.getD (toNat v2) default).1
   cases h0:(decide ((v2:Int) < (a0.length:Int))) with
   | true =>
    have q0:=bY h0
    have e:=Eq.refl (gB a0 a1 (v1,v2));conv at e=>rhs;simp only [gB,h0,aI]
    rw [aA e]
    refine ba [.d h0,.i v2 (a0.length),.L bZ a0 v2 0 2] [] [1,6,13,14,15] [] hcx (m:=n) xW (xX) (tV a0 a1 (pG v1 (a0.getD (toNat v2) default).1) (W (v2+1))) (by kernel_rfl) ?_
    have z0:(W (v2+1))=(v2+1):=aD (by omega) (by omega)
    rw [z0]
    exact ih (pG v1 (a0.getD (toNat v2) default).1) (v2+1) (by refine⟨?_,?_⟩<;>(try simp only [Ls])<;>first | omega | assumption | simp) (by(try simp only [Ls]);omega)
   | false =>
    have q0:=cG h0
    have e:=Eq.refl (gB a0 a1 (v1,v2));conv at e=>rhs;simp only [gB,h0,aI]
    rw [aF,e]
    exact rt [.d h0,.c [1] (aRl a1 (by omega)),.c [] (C99 (cN a1) v1  (by omega)),.c [] (C97 (F99 (cN a1) v1))] [] [] hcx (by kernel_rfl)
def gW (a0:List (Int×Int))(a1:List (Int)):Int×Int :=
 (aB (gB a0 a1) (toNat ((a0.length:Int) - 0)+1) ((a0.getD (toNat 0) default).1,0))
theorem aU0 (a0:List (Int×Int))(a1:List (Int))(l0:a0.length≤9223372036854775807)(l1:a1.length≤9223372036854775807)(hl:1≤a0.length)(hp:∀s∈a0,1≤s.1):Con Tryz.prog 67 [(.s 0 0 a0.length 2),(.s 1 0 a1.length 1)] [(.live false true (flat cO a0)),(.live false true (flat c3 a1))] (.t (k2 (gW a0 a1))) []:=by
 refine aK Tryz.func67 (by kernel_rfl) fun cx hcx=>?_
 have hp0:=oS hp hl
 have e:=Eq.refl (gW a0 a1);conv at e=>rhs;simp only [gW]
 rw [e]
 refine en [.i 0 (a0.length),.L bZ a0 0 0 1] [] [1,6,13,14,15] [] hcx xW (xX) (tV a0 a1 ((a0.getD (toNat 0) default).1) 0) (toNat ((a0.length:Int) - 0)+1) (by kernel_rfl) ?_
 exact aOl a0 a1 l0 l1 hl hp hcx (toNat ((a0.length:Int) - 0)+1) ((a0.getD (toNat 0) default).1) 0 (by refine⟨?_,?_⟩<;>(try simp only [Ls])<;>first | omega | assumption | simp) (by(try simp only [Ls]);omega)
def pB (a0:Int×Int)(a1:List (Int)):Int×Int :=
 ((F97 (W (Int.tdiv (cN a1) (F99 a0.2 (W (Int.tdiv (W (Int.tdiv (cN a1) 1048576)) 1048576)))))).1,(F97 (W (Int.tdiv (cN a1) (F99 a0.2 (W (Int.tdiv (W (Int.tdiv (cN a1) 1048576)) 1048576)))))).2)
theorem bCh (a0:Int×Int)(a1:List (Int))(l1:a1.length≤9223372036854775807)(hq:W (Int.tdiv (W (Int.tdiv (cN a1) 1048576)) 1048576)≠0)(hw:F99 a0.2 (W (Int.tdiv (W (Int.tdiv (cN a1) 1048576)) 1048576))≠0):Con Tryz.prog 66 [(.a [(iv a0.1),(iv a0.2)]),(.s 0 0 a1.length 1)] [(.live false true (flat c3 a1))] (.t (k2 (pB a0 a1))) []:=by
 refine aK Tryz.func66 (by kernel_rfl) fun cx hcx=>?_
 have e:=Eq.refl (pB a0 a1);conv at e=>rhs;simp only [pB]
 rw [e]
 exact rt [.c [0] (aRl a1 (by omega)),.p (show(1048576:Int)≠0 from by decide),.p (show(1048576:Int)≠0 from by decide),.c [] (C99 a0.2 (W (Int.tdiv (W (Int.tdiv (cN a1) 1048576)) 1048576))  hq),.p (show((F99 a0.2 (W (Int.tdiv (W (Int.tdiv (cN a1) 1048576)) 1048576))):Int)≠0 from by first | omega | (rw [aD]<;>omega) | exact eA _),.c [] (C97 (W (Int.tdiv (cN a1) (F99 a0.2 (W (Int.tdiv (W (Int.tdiv (cN a1) 1048576)) 1048576))))))] [] [] hcx (by kernel_rfl)
end Go.Proofs.YtaeagjnpobdglaaGreat
