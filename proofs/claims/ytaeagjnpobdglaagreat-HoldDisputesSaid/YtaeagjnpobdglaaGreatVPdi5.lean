/-
  Parts of the proofs of the laws: the executor, what functions of the program compute, and that it is what the statements ask. No premise.
-/
import Derived.Test.YtaeagjnpobdglaaGreatVPdi4
set_option linter.unusedVariables false
set_option linter.unusedSimpArgs false
set_option maxHeartbeats 4000000
open Int (toNat)
namespace Go.Proofs.YtaeagjnpobdglaaGreat
open Go.Proofs Go.Aw Go.RowKit
set_option maxRecDepth 100000
section
variable {α β : Type} [DecidableEq α]
theorem nX (e:α×β)(l:List (α×β))(k:α)(d:β):aV (e::l) k d=if e.1=k then e.2 else aV l k d:=by
 unfold aV
 simp only [eL]
 by_cases h:e.1=k
 · rw [if_pos h,if_pos h]
 · rw [if_neg h,if_neg h]
   cases eL k l<;>rfl
theorem aOk (e:α×β)(l:List (α×β))(k:α)(v:β):cI (e::l) k v=if e.1=k then(k,v)::l else e::cI l k v:=by
 unfold cI
 simp only [eL]
 by_cases h:e.1=k
 · rw [if_pos h,if_pos h];rfl
 · rw [if_neg h,if_neg h]
   cases eL k l<;>rfl
theorem aCi:∀(l:List (α×β))(k k':α)(v d:β),aV (cI l k v) k' d=if k=k' then v else aV l k' d
 | [],k,k',v,d=>by
   show aV [(k,v)] k' d=_
   rw [nX]
 | e::l,k,k',v,d=>by
   rw [aOk]
   by_cases h:e.1=k
   · rw [if_pos h,nX,nX]
     by_cases h':k=k'
     · rw [if_pos h',if_pos h']
     · rw [if_neg h',if_neg h',if_neg (fun x=>h' (h▸x))]
   · rw [if_neg h,nX,nX,aCi l k k' v d]
     by_cases h':k=k'
     · rw [if_neg (fun x=>h (x.trans h'.symm)),if_pos h',if_pos h']
     · rw [if_neg h',if_neg h']
theorem aCj (k:α)(d:β):aV ([]:List (α×β)) k d=d:=rfl
end
theorem aIz {S R:Type} [Inhabited R] {f g:S→S⊕R} (I:S→Prop)(hI:∀s,I s→f s=g s)(hp:∀s s',I s→f s=.inl s'→I s'):∀(n:Nat)(s:S),I s→aB f n s=aB g n s:=by
 intro n
 induction n with
 | zero=>intro s _;rfl
 | succ n ih =>
   intro s hs
   have e:=hI s hs
   cases h:f s with
   | inl s'=>rw [aA h,aA (e▸h)];exact ih s' (hp s s' hs h)
   | inr r=>rw [aO h,aO (e▸h)]
theorem bM {α σ R:Type} (g:σ→α→σ):∀(l:List α)(v:σ),iT (R:=R) (fun v c=>.inl (g v c)) l v=.inl (l.foldl g v)
 | [],_=>rfl
 | c::l,v=>by simp only [iT,List.foldl_cons];exact bM g l (g v c)
theorem bB {α:Type} [Inhabited α] {L:List α} {i:Nat} {c:α} (h:L[i]? = some c):L.getD (toNat (i:Int)) default=c:=by
 rw [uJ,fO,h];rfl
abbrev ME:=List P3×List P3
def tri (f:P3)(p q:Int):Int:=(if f.1=p∧f.2.1=q then 1 else 0)+(if f.2.1=p∧f.2.2=q then 1 else 0)+(if f.2.2=p∧f.1=q then 1 else 0)
def cnt:List P3→Int→Int→Int
 | [],_,_=>0
 | f::l,p,q=>tri f p q+cnt l p q
theorem aRq (f:P3)(p q:Int):0≤tri f p q∧tri f p q≤3:=by unfold tri;split<;>split<;>split<;>omega
theorem aRr (a b c d:Int):(if a=b∧c=d then(1:Int) else 0)=bif (a == b)&&(c == d) then 1 else 0:=by
 rcases Decidable.em (a=b) with h1 | h1<;>rcases Decidable.em (c=d) with h2 | h2
 · rw [if_pos ⟨h1,h2⟩,beq_iff_eq.2 h1,beq_iff_eq.2 h2];rfl
 · rw [if_neg (fun h=>h2 h.2),beq_eq_false_iff_ne.2 h2,Bool.and_false];rfl
 · rw [if_neg (fun h=>h1 h.1),beq_eq_false_iff_ne.2 h1];rfl
 · rw [if_neg (fun h=>h1 h.1),beq_eq_false_iff_ne.2 h1];rfl
theorem bCa (m:ME)(h:m.2.length≤96)(p q:Int):F82 m p q=cnt m.2 p q:=by
 unfold F82
 rw [aZ (fun v i=>(v,i)) (fun v c=>.inl (v+tri c p q)) (fun v=>v) (L:=m.2) (fun i v=>0≤v∧v≤3*(i:Int)) ?_ ?_ ?_ (by omega) ⟨by omega,by omega⟩]
 · have key:∀(l:List P3) (v:Int),l.foldl (fun v c=>v+tri c p q) v=v+cnt l p q:=by
     intro l
     induction l with
     | nil=>intro v;simp [cnt]
     | cons c l ih=>intro v;rw [List.foldl_cons,ih];simp only [cnt];omega
   rw [bM,key];simp [aCf]
 · intro i c hc v hv
   obtain⟨hlt,hce⟩:=List.getElem?_eq_some_iff.1 hc
   have w1:W (v+1)=v+1:=aD (by omega) (by omega)
   have w2:W (v+1+1)=v+1+1:=aD (by omega) (by omega)
   have w3:W (v+1+1+1)=v+1+1+1:=aD (by omega) (by omega)
   simp only [bA]
   rw [bW (by omega),cond_true,bB hc]
   unfold tri
   rw [aRr,aRr,aRr]
   generalize (c.1 == p)=b1,(c.2.1 == q)=b2,(c.2.1 == p)=b3,(c.2.2 == q)=b4,(c.2.2 == p)=b5,(c.1 == q)=b6
   have fin:∀{a b:Int},a=b→(Sum.inl (a,(i:Int)+1):(Int×Int)⊕Int)=Sum.inl (b,((i+1:Nat):Int)):=fun h=>by rw [h];rfl
   cases b1<;>cases b2<;>cases b3<;>cases b4<;>cases b5<;>cases b6<;>simp only [Bool.and_true,Bool.and_false,Bool.and_self,cond_true,cond_false,w1,w2,w3]<;>exact fin (by omega)
 · intro i c hc v v' hv e
   have:=aRq c p q
   obtain rfl:=Sum.inl.inj e
   omega
 · intro v _
   simp only [bA]
   rw [cK (by omega),cond_false]
def tQ (v:List ((Int×Int)×Int))(s:Int×Int):List ((Int×Int)×Int):=cI v s (W (aV v s 0+1))
def aOl (v:List ((Int×Int)×Int))(f:P3):List ((Int×Int)×Int):=tQ (tQ (tQ v (bR f).1) (bR f).2.1) (bR f).2.2
theorem aGl {v:List ((Int×Int)×Int)} {s:Int×Int} (t:Int×Int)(h:0≤aV v s 0∧aV v s 0≤1000):aV (tQ v s) t 0=aV v t 0+(if s=t then 1 else 0):=by
 unfold tQ
 rw [aCi,aD (by omega) (by omega)]
 by_cases e:s=t
 · subst e;rw [if_pos rfl,if_pos rfl]
 · rw [if_neg e,if_neg e];omega
theorem aRs {v:List ((Int×Int)×Int)} {B:Int} (hB:∀t,0≤aV v t 0∧aV v t 0≤B)(hb:B≤900)(f:P3)(t:Int×Int):aV (aOl v f) t 0=aV v t 0+tri f t.1 t.2:=by
 have g1:∀t,aV (tQ v (bR f).1) t 0=aV v t 0+(if(bR f).1=t then 1 else 0):=fun t=>aGl t (by have:=hB (bR f).1;omega)
 have b1:∀t,0≤aV (tQ v (bR f).1) t 0∧aV (tQ v (bR f).1) t 0≤B+1:=fun t=>by rw [g1];have:=hB t;split<;>omega
 have g2:∀t,aV (tQ (tQ v (bR f).1) (bR f).2.1) t 0=aV (tQ v (bR f).1) t 0+(if(bR f).2.1=t then 1 else 0):=fun t=>aGl t (by have:=b1 (bR f).2.1;omega)
 have b2:∀t,0≤aV (tQ (tQ v (bR f).1) (bR f).2.1) t 0∧aV (tQ (tQ v (bR f).1) (bR f).2.1) t 0≤B+2:=fun t=>by rw [g2];have:=b1 t;split<;>omega
 unfold aOl
 rw [aGl t (by have:=b2 (bR f).2.2;omega),g2,g1]
 unfold tri bR
 simp only [Prod.ext_iff]
 omega
theorem aM7:∀(l:List P3)(v:List ((Int×Int)×Int))(B:Int),(∀t,0≤aV v t 0∧aV v t 0≤B)→B+3*l.length≤900→∀t:Int×Int,aV (l.foldl aOl v) t 0=aV v t 0+cnt l t.1 t.2
 | [],v,B,_,_,t=>by simp [cnt]
 | f::l,v,B,hB,hb,t=>by
   simp only [List.length_cons] at hb
   have g:=aRs hB (by omega) f
   rw [List.foldl_cons,aM7 l (aOl v f) (B+3) (fun t=>by rw [g];have:=hB t;have:=aRq f t.1 t.2;omega) (by omega) t,g]
   simp only [cnt];omega
theorem bCb (m:ME):zD m=m.2.foldl aOl []:=by
 unfold zD
 rw [aZ (fun v i=>(v,i)) (fun v c=>.inl (aOl v c)) (fun v=>v) (L:=m.2) (fun _ _=>True) ?_ (fun _ _ _ _ _ _ _=>trivial) ?_ (by omega) trivial]
 · rw [bM];rfl
 · intro i c hc v _
   obtain⟨hlt,hce⟩:=List.getElem?_eq_some_iff.1 hc
   simp only [zC]
   rw [bW (by omega),cond_true,bB hc]
   rfl
 · intro v _
   simp only [zC]
   rw [cK (by omega),cond_false]
theorem bE3 (m:ME)(h:m.2.length≤96)(t:Int×Int):aV (zD m) t 0=cnt m.2 t.1 t.2:=by
 rw [bCb,aM7 m.2 [] 0 (fun t=>by rw [aCj];omega) (by omega) t,aCj];omega
theorem bCc (x y:Int):W (x+W (-1*y))=W (x - y):=by
 rw [aMp (-1*y)]
 split<;>rw [aMp,aMp]<;>split<;>split<;>omega
theorem aRt (a b:P3):aBp a b=aT a b:=by
 unfold aBp F39 aT
 simp only [bCc]
theorem aYm (p:PN):nR p=lF p:=by
 unfold nR lF
 rw [aRt,aRt];rfl
theorem bCd (m:ME):F73 m=m.2.foldl (fun v c=>W (v+aDw (eO m c))) 0:=by
 unfold F73
 rw [aZ (fun v i=>(v,i)) (fun v c=>.inl (W (v+aDw c))) (fun v=>v) (L:=gA m) (fun _ _=>True) ?_ (fun _ _ _ _ _ _ _=>trivial) ?_ (by show _ < toNat ((((gA m).length:Nat):Int) - 0)+1;omega) trivial]
 · rw [bM,aGj,List.foldl_map];rfl
 · intro i c hc v _
   obtain⟨hlt,hce⟩:=List.getElem?_eq_some_iff.1 hc
   simp only [zE]
   rw [bW (show((i:Nat):Int) < (((gA (m.1,m.2)).length:Nat):Int) from by show((i:Nat):Int) < (((gA m).length:Nat):Int);omega),cond_true,show(gA (m.1,m.2)).getD (toNat (i:Int)) default=c from bB hc]
   rfl
 · intro v _
   simp only [zE]
   rw [cK (show ¬(((gA m).length:Nat):Int) < (((gA (m.1,m.2)).length:Nat):Int) from by show ¬(((gA m).length:Nat):Int) < (((gA m).length:Nat):Int);omega),cond_false]
theorem bCe (m:ME):F83 m=m.2.foldl (fun v c=>W (v+aDw (eO m c))) 0:=by
 unfold F83
 rw [aZ (fun v i=>(v,i)) (fun v c=>.inl (W (v+aDw (eO m c)))) (fun v=>v) (L:=m.2) (fun _ _=>True) ?_ (fun _ _ _ _ _ _ _=>trivial) ?_ (by omega) trivial]
 · rw [bM];rfl
 · intro i c hc v _
   obtain⟨hlt,hce⟩:=List.getElem?_eq_some_iff.1 hc
   simp only [zF]
   have hp:xM (m.1,m.2) (i:Int)=eO m c:=by
     unfold xM
     simp only [bB hc];rfl
   rw [bW (by omega),cond_true,hp]
   rfl
 · intro v _
   simp only [zF]
   rw [cK (by omega),cond_false]
theorem aYn (m:ME):F73 m=F83 m:=by rw [bCd,bCe]
theorem aYo (m:ME):∀(n:Nat)(v:List Bool)(i:Int),0≤i→aB (kG m) n (v,(v.length:Int),i)=aB (kI m) n (v,i):=by
 intro n
 induction n with
 | zero=>intro v i _;rfl
 | succ n ih =>
   intro v i hi
   by_cases h:i < (v.length:Int)
   · cases hb:v.getD (toNat i) default with
     | true =>
       have e1:kG m (v,(v.length:Int),i)=.inl (v,(v.length:Int),i+1):=by
         simp only [kG];rw [bW h,cond_true,hb];rfl
       have e2:kI m (v,i)=.inl (v,i+1):=by
         simp only [kI];rw [bW h,cond_true,hb];rfl
       rw [aA e1,aA e2];exact ih v (i+1) (by omega)
     | false =>
       have e1:kG m (v,(v.length:Int),i)=.inr 5:=by
         simp only [kG];rw [bW h,cond_true,hb];rfl
       have e2:kI m (v,i)=.inr 5:=by
         simp only [kI];rw [bW h,cond_true,hb];rfl
       rw [aO e1,aO e2]
   · have e1:kG m (v,(v.length:Int),i)=.inr (bif decide (F83 m≤0) then 8 else 0):=by
       simp only [kG];rw [cK h,cond_false,show F73 (m.1,m.2)=F83 m from aYn m]
       cases decide (F83 m≤0)<;>rfl
     have e2:kI m (v,i)=.inr (bif decide (F83 m≤0) then 8 else 0):=by
       simp only [kI];rw [cK h,cond_false,show F83 (m.1,m.2)=F83 m from rfl]
       cases decide (F83 m≤0)<;>rfl
     rw [aO e1,aO e2]
theorem aYp (m:ME)(h:m.2.length≤96)(n:Nat)(v:List Bool):aB (gQ m) n (v,0)=aB (iA m) n (v,0):=by
 refine aIz (fun s=>0≤s.2) (fun s hs=>?_) (fun s s' hs e=>?_) n (v,0) (Int.le_refl 0)
 · obtain⟨v,i⟩:=s
   simp only at hs
   simp only [gQ,iA]
   rw [aYo m _ v 0 (Int.le_refl 0)]
   have hc:∀t,aV (zD (m.1,m.2)) t 0=cnt m.2 t.1 t.2:=bE3 m h
   have he:∀p q,F82 (m.1,m.2) p q=cnt m.2 p q:=bCa m h
   simp only [hc,he,bR,F72]
 · obtain⟨v,i⟩:=s
   simp only [gQ] at e
   by_cases hlt:i < (m.2.length:Int)
   · rw [bW hlt,cond_true] at e
     simp only at hs
     have step:∀(b:Bool) (x y:(List Bool×Int)⊕Int),(bif b then x else y)=.inl s'→(∀r,x≠.inl r)→y=.inl s':=fun b x y h hx=>by
       cases b
       · exact h
       · exact absurd h (hx s')
     have e:=step _ _ _ e (fun r h=>by cases h)
     have e:=step _ _ _ e (fun r h=>by cases h)
     have e:=step _ _ _ e (fun r h=>by cases h)
     have e:=step _ _ _ e (fun r h=>by cases h)
     have e:=step _ _ _ e (fun r h=>by cases h)
     have e:=step _ _ _ e (fun r h=>by cases h)
     obtain rfl:=Sum.inl.inj e
     show 0≤i+1
     omega
   · rw [cK hlt,cond_false] at e;cases e
theorem aU2 {n:Nat} (x:Int)(h:n≤64):(!qF x 0 (W (((n:Nat):Int) - 1)))=(decide (x < 0) || decide (x≥((n:Nat):Int))):=by
 rw [aD (by omega) (by omega)]
 unfold qF
 by_cases h1:x < 0
 · rw [bW h1,cK (by omega)];rfl
 · rw [cK h1,bW (by omega),cond_true]
   by_cases h2:x≥((n:Nat):Int)
   · rw [bW h2,cK (by omega)];rfl
   · rw [cK h2,bW (by omega)];rfl
theorem aYq (m:ME)(h64:m.1.length≤64)(h:m.2.length≤96)(n:Nat)(v:List Bool):aB (kH m) n (v,0)=aB (fJ m) n (v,0):=by
 have main:∀s:List Bool×Int,0≤s.2→kH m s=fJ m s∧∀s',kH m s=.inl s'→0≤s'.2:=by
   rintro ⟨v,i⟩ hs
   simp only at hs
   simp only [kH,fJ]
   rw [aYp m h _ v]
   have hp:xM (m.1,m.2) i=eO (m.1,m.2) (m.2.getD (toNat i) default):=rfl
   rw [hp]
   unfold F69
   simp only [aU2 _ h64,aYm]
   generalize m.2.getD (toNat i) default=c
   generalize lF (eO (m.1,m.2) c)=q
   generalize ((q.1 == 0)&&((q.2.1 == 0)&&((q.2.2 == 0)&&true)))=b7
   generalize decide (c.1 < 0)=b1,decide (c.1≥(m.1.length:Int))=b2,decide (c.2.1 < 0)=b3,decide (c.2.1≥(m.1.length:Int))=b4,decide (c.2.2 < 0)=b5,decide (c.2.2≥(m.1.length:Int))=b6,decide (i < (m.2.length:Int))=b0
   cases b0
   case false=>exact⟨rfl,fun s' e=>by cases e⟩
   cases b1
   case true=>exact⟨rfl,fun s' e=>by cases e⟩
   cases b2
   case true=>exact⟨rfl,fun s' e=>by cases e⟩
   cases b3
   case true=>exact⟨rfl,fun s' e=>by cases e⟩
   cases b4
   case true=>exact⟨rfl,fun s' e=>by cases e⟩
   cases b5
   case true=>exact⟨rfl,fun s' e=>by cases e⟩
   cases b6
   case true=>exact⟨rfl,fun s' e=>by cases e⟩
   cases b7
   case true=>exact⟨rfl,fun s' e=>by cases e⟩
   exact⟨rfl,fun s' e=>by obtain rfl:=Sum.inl.inj e;show 0≤i+1;omega⟩
 exact aIz (fun s=>0≤s.2) (fun s hs=>(main s hs).1) (fun s s' hs e=>(main s hs).2 s' e) n (v,0) (Int.le_refl 0)
theorem aYr (a b:P3):(((a.1:Int) == b.1)&&(((a.2.1:Int) == b.2.1)&&(((a.2.2:Int) == b.2.2)&&true)))=decide (a=b):=by
 rw [Bool.eq_iff_iff]
 simp only [Bool.and_eq_true,beq_iff_eq,and_true,decide_eq_true_eq,Prod.ext_iff]
theorem bCf (m:ME)(i:Nat):∀(n k:Nat),i - k < n→(∃j,k≤j∧j < i∧m.1.getD j default=m.1.getD i default)→aB (kT m) n ((i:Int),(k:Int))=.inr 1:=by
 intro n
 induction n with
 | zero=>intro k hk;omega
 | succ n ih =>
   intro k hk ⟨j,h1,h2,h3⟩
   by_cases e:m.1.getD i default=m.1.getD k default
   · refine aO ?_
     simp only [kT]
     rw [bW (by omega),cond_true,uJ,uJ,aYr,bW e];rfl
   · have h:kT m ((i:Int),(k:Int))=.inl ((i:Int),((k+1:Nat):Int)):=by
       simp only [kT]
       rw [bW (by omega),cond_true,uJ,uJ,aYr,cK e];rfl
     rw [aA h]
     have:j≠k:=fun x=>e (x▸h3.symm)
     exact ih (k+1) (by omega) ⟨j,by omega,h2,h3⟩
theorem bCg (m:ME)(i:Nat):∀(n k:Nat),k≤i→i - k < n→(∀j,k≤j→j < i→m.1.getD j default≠m.1.getD i default)→aB (kT m) n ((i:Int),(k:Int))=.inl ((i:Int)+1):=by
 intro n
 induction n with
 | zero=>intro k _ hk;omega
 | succ n ih =>
   intro k hki hk hj
   by_cases hlt:k < i
   · have h:kT m ((i:Int),(k:Int))=.inl ((i:Int),((k+1:Nat):Int)):=by
       simp only [kT]
       rw [bW (by omega),cond_true,uJ,uJ,aYr,cK (fun e=>hj k (Nat.le_refl k) hlt e.symm)];rfl
     rw [aA h]
     exact ih (k+1) (by omega) (by omega) (fun j h1 h2=>hj j (by omega) h2)
   · refine aO ?_
     simp only [kT]
     rw [cK (by omega),cond_false]
open Classical in
theorem aLd (p:P3):F36 p 64=F79 p 64:=by rw [lU,rA]
theorem aYs (m:ME):∀(n i:Nat)(v:List (P3×Bool)),i≤m.1.length→m.1.length - i < n→(∀q,aV v q false=true↔∃j,j < i∧m.1.getD j default=q) →
   aB (iV m) n (i:Int)=bif (aB (eP m) n (v,(i:Int)) != 0) then aB (eP m) n (v,(i:Int)) else aB (fJ m) (toNat ((m.2.length:Int) - 0)+1) ((List.replicate (toNat (m.1.length:Int)) false),0):=by
 intro n
 induction n with
 | zero=>intro i v _ h;omega
 | succ n ih =>
   intro i v hi hn hv
   by_cases hlt:i < m.1.length
   · have hw:((i:Nat):Int) < (m.1.length:Int):=by omega
     cases hr:F36 (m.1.getD i default) 64 with
     | false =>
       have e1:eP m (v,(i:Int))=.inr 1:=by
         simp only [eP];rw [bW hw,cond_true,uJ,hr];rfl
       have e2:iV m (i:Int)=.inr 1:=by
         simp only [iV];rw [bW hw,cond_true,uJ,←aLd,hr];rfl
       rw [aO e1,aO e2];rfl
     | true =>
       cases hg:aV v (m.1.getD i default) false with
       | true =>
         have e1:eP m (v,(i:Int))=.inr 1:=by
           simp only [eP];rw [bW hw,cond_true,uJ,hr,hg];rfl
         obtain⟨j,h1,h2⟩:=(hv _).1 hg
         have e2:iV m (i:Int)=.inr 1:=by
           simp only [iV];rw [bW hw,cond_true,uJ,←aLd,hr]
           exact bCf m i _ 0 (by omega) ⟨j,by omega,h1,h2⟩
         rw [aO e1,aO e2];rfl
       | false =>
         have e1:eP m (v,(i:Int))=.inl (cI v (m.1.getD i default) true,((i+1:Nat):Int)):=by
           simp only [eP];rw [bW hw,cond_true,uJ,hr,hg];rfl
         have e2:iV m (i:Int)=.inl ((i+1:Nat):Int):=by
           simp only [iV];rw [bW hw,cond_true,uJ,←aLd,hr]
           exact bCg m i _ 0 (by omega) (by omega) (fun j _ h2 h3=>by
             have:=(hv _).2 ⟨j,h2,h3⟩
             rw [hg] at this;cases this)
         rw [aA e1,aA e2]
         refine ih (i+1) _ (by omega) (by omega) (fun q=>?_)
         rw [aCi]
         by_cases e:m.1.getD i default=q
         · rw [if_pos e];exact⟨fun _=>⟨i,by omega,e⟩,fun _=>rfl⟩
         · rw [if_neg e,hv]
           constructor
           · rintro ⟨j,h1,h2⟩;exact⟨j,by omega,h2⟩
           · rintro ⟨j,h1,h2⟩
             refine⟨j,?_,h2⟩
             rcases Nat.lt_or_ge j i with h | h
             · exact h
             · have:j=i:=by omega
               exact absurd (this▸h2) e
   · have hw:¬((i:Nat):Int) < (m.1.length:Int):=by omega
     have e1:eP m (v,(i:Int))=.inr 0:=by
       simp only [eP];rw [cK hw,cond_false]
     have e2:iV m (i:Int)=.inr (aB (fJ m) (toNat ((m.2.length:Int) - 0)+1) ((List.replicate (toNat (m.1.length:Int)) false),0)):=by
       simp only [iV];rw [cK hw,cond_false]
     rw [aO e1,aO e2];rfl
theorem aGm (m:ME):fB m=vU m:=by
 unfold fB vU
 by_cases h1:(m.1.length:Int) > 64
 · rw [bW h1];rfl
 · rw [cK h1,cond_false,cond_false,show F78 (m.2.length:Int) 1 96=qF (m.2.length:Int) 1 96 from rfl]
   cases h2:(!qF (m.2.length:Int) 1 96) with
   | true=>rfl
   | false =>
     rw [cond_false,cond_false]
     have g:=hH h2
     rw [aYq m (by omega) (by omega)]
     have hp:=aYs m (toNat ((m.1.length:Int) - 0)+1) 0 [] (by omega) (by omega) (fun q=>by
       rw [aCj]
       constructor
       · intro h;cases h
       · rintro ⟨j,h,_⟩;omega)
     exact hp.symm
end Go.Proofs.YtaeagjnpobdglaaGreat
namespace Go.Proofs.YtaeagjnpobdglaaGreat
open Go.Proofs Go.Aw Go.RowKit
set_option maxRecDepth 100000
theorem okl (m:ME)(h64:m.1.length≤64):∀(n:Nat)(v:List Bool)(i:Int),0≤i→toNat ((m.2.length:Int) - i) < n→aB (kH m) n (v,i)=0→∀j:Int,i≤j→j < (m.2.length:Int)→F69 m (m.2.getD (toNat j) default)=0:=by
 intro n
 induction n with
 | zero=>intro v i _ h;omega
 | succ n ih =>
   intro v i hi hn h j h1 h2
   have hlt:i < (m.2.length:Int):=by omega
   cases hf:((F69 (m.1,m.2) (m.2.getD (toNat i) default):Int) != 0) with
   | true =>
     have e:kH m (v,i)=.inr (F69 (m.1,m.2) (m.2.getD (toNat i) default)):=by
       simp only [kH];rw [bW hlt,cond_true,hf,cond_true]
     rw [aO e] at h
     exact absurd h (bne_iff_ne.1 hf)
   | false =>
     by_cases hj:j=i
     · subst hj;exact bne_eq_false_iff_eq.1 hf
     · have e:kH m (v,i)=.inl ((((v.set (toNat (m.2.getD (toNat i) default).1) true).set (toNat (m.2.getD (toNat i) default).2.1) true).set (toNat (m.2.getD (toNat i) default).2.2) true),(i+1)):=by
         simp only [kH];rw [bW hlt,cond_true,hf,cond_false]
       rw [aA e] at h
       exact ih _ (i+1) (by omega) (by omega) h j (by omega) h2
theorem iF {m:ME} (h:fB m=0):m.1.length≤64∧1≤m.2.length∧m.2.length≤96∧F68 m=0∧∀j:Int,0≤j→j < (m.2.length:Int)→F69 m (m.2.getD (toNat j) default)=0:=by
 unfold fB at h
 by_cases h1:(m.1.length:Int) > 64
 · rw [bW h1,cond_true] at h;exact absurd h (by decide)
 · rw [cK h1,cond_false] at h
   cases h2:(!qF (m.2.length:Int) 1 96) with
   | true=>rw [h2,cond_true] at h;exact absurd h (by decide)
   | false =>
     have g:=hH h2
     rw [h2,cond_false] at h
     cases h3:((F68 (m.1,m.2):Int) != 0) with
     | true=>rw [h3,cond_true] at h;exact absurd h (bne_iff_ne.1 h3)
     | false =>
       rw [h3,cond_false] at h
       exact⟨by omega,by omega,by omega,bne_eq_false_iff_eq.1 h3,fun j h1 h2=>okl m (by omega) _ _ 0 (Int.le_refl 0) (by omega) h j h1 h2⟩
theorem qM {m:ME} (h:((fB m:Int) != 0)=false):lZ m m.2.length∧m.2.length≤96:=by
 obtain⟨h1,_,h3,_,h4⟩:=iF (bne_eq_false_iff_eq.1 h)
 exact⟨fun i g1 g2=>mN (m:=m) (by rw [h4 i g1 g2];rfl) h1,h3⟩
def bF (a0:Zm):(List (Zt×Zt×Zt))×Int :=
 (bif (((fB (a0.1,a0.2)):Int) != 0) then
  (([]:List (Zt×Zt×Zt)),(fB (a0.1,a0.2)))
 else
  ((gA (a0.1,a0.2)),0))
theorem C90 (a0:Zm)(l0_1:a0.1.length≤9223372036854775807)(l0_2:a0.2.length≤9223372036854775807):Con Tryz.prog 90 [(.a [(.s 0 0 a0.1.length 3),(.s 1 0 a0.2.length 3)])] [(.live false true (flat dT a0.1)),(.live false true (flat eZ a0.2))] (.t [(.s 2 0 (bF a0).1.length 9),(iv (bF a0).2)]) [(.live true true (flat dK (bF a0).1))]:=by
 refine aJ Tryz.func90 (by kernel_rfl) fun cx hcx=>?_
 let t0:List (St Tryz.prog):=[.c [0,1] (C35 (a0.1,a0.2) (by(try simp only [Lt]);omega) (by(try simp only [Lt]);omega))]
 cases h0:(((fB (a0.1,a0.2)):Int) != 0) with
 | true =>
  have q0:=bne_iff_ne.1 h0
  have e:=Eq.refl (bF a0);conv at e=>rhs;simp only [bF,h0,aH]
  rw [e]
  exact rt (t0++[.d h0]) [.slot 2 9] [3] hcx (by kernel_rfl)
 | false =>
  have q0:=bne_eq_false_iff_eq.1 h0
  have e:=Eq.refl (bF a0);conv at e=>rhs;simp only [bF,h0,aH]
  rw [e]
  exact rt (t0++[.d h0,.c [0,1] (bBy (a0.1,a0.2) (by(try simp only [Lt]);omega) (by(try simp only [Lt]);omega) (qM h0).1 (qM h0).2)]) [] [3] hcx (by kernel_rfl)
theorem aWm (m:ME):bF m=bif ((fB m:Int) != 0) then([],fB m) else(m.2.map (eO m),0):=by
 unfold bF
 rw [show gA (m.1,m.2)=m.2.map (eO m) from aGj m]
theorem rL (m:ME):(bF m).1.length≤96:=by
 rw [aWm]
 cases h:((fB m:Int) != 0) with
 | true=>exact Nat.zero_le _
 | false=>rw [cond_false];show(m.2.map _).length≤96;rw [List.length_map];exact(qM h).2
theorem bCh {R:Type} [Inhabited R] {p:Int→Prop} [DecidablePred p] {G:Int→R} {M:Int} {S:Int×Int→(Int×Int)⊕R} (hS:∀k b,0≤k→0 < b→k+b≤M→S (k,b)=if p (k+b) then .inl (k+b,b / 2) else .inl (k,b / 2))(h0:∀k,0≤k→k≤M→S (k,0)=.inr (G k)) :
   ∀(j f:Nat) (k:Int),j+2≤f→0≤k→k+2*2 ^ j≤M→p k→¬p (k+2*2 ^ j)→∃r,0≤r∧r≤M∧p r∧¬p (r+1)∧aB S f (k,2 ^ j)=G r:=by
 intro j
 induction j with
 | zero =>
   intro f k hf hk hb h1 h2
   obtain⟨f,rfl⟩:∃g,f=g+2:=⟨f - 2,by omega⟩
   simp only [Int.pow_zero] at h2 hb ⊢
   have hs:=hS k 1 hk (by omega) (by omega)
   by_cases hc:p (k+1)
   · rw [if_pos hc] at hs
     rw [aA hs,show((1:Int) / 2)=0 by omega,aO (h0 _ (by omega) (by omega))]
     exact⟨k+1,by omega,by omega,hc,by rw [show k+1+1=k+2*1 by omega];exact h2,rfl⟩
   · rw [if_neg hc] at hs
     rw [aA hs,show((1:Int) / 2)=0 by omega,aO (h0 _ hk (by omega))]
     exact⟨k,hk,by omega,h1,hc,rfl⟩
 | succ j ih =>
   intro f k hf hk hb h1 h2
   obtain⟨f,rfl⟩:∃g,f=g+1:=⟨f - 1,by omega⟩
   have hp:(0:Int) < 2 ^ j:=Int.pow_pos (by omega)
   rw [Int.pow_succ] at h2 hb ⊢
   have hs:=hS k (2 ^ j*2) hk (by omega) (by omega)
   have hd:(2:Int) ^ j*2 / 2=2 ^ j:=Int.mul_ediv_cancel _ (by omega)
   rw [hd] at hs
   by_cases hc:p (k+2 ^ j*2)
   · rw [if_pos hc] at hs
     rw [aA hs]
     refine ih f _ (by omega) (by omega) (by omega) hc ?_
     rw [show k+2 ^ j*2+2*2 ^ j=k+2*((2:Int) ^ j*2) by omega];exact h2
   · rw [if_neg hc] at hs
     rw [aA hs]
     refine ih f _ (by omega) hk (by omega) h1 ?_
     rw [show k+2*(2:Int) ^ j=k+2 ^ j*2 by omega];exact hc
theorem bCi {R:Type} [Inhabited R] {p:Int→Prop} [DecidablePred p] {G:Int→R} {M:Int} {S:Int×Int→(Int×Int)⊕R} (hS:∀a b,0≤a→a < b→b≤M→S (a,b)=if p ((a+b+1) / 2) then .inl ((a+b+1) / 2,b) else .inl (a,(a+b+1) / 2 - 1))(h0:∀a,0≤a→a≤M→S (a,a)=.inr (G a)) :
   ∀(f:Nat) (a b:Int),0≤a→a≤b→b≤M→b - a < f→p a→¬p (b+1)→∃r,0≤r∧r≤M∧p r∧¬p (r+1)∧aB S f (a,b)=G r:=by
 intro f
 induction f with
 | zero=>intro a b _ h _ hf;omega
 | succ f ih =>
   intro a b ha hab hb hf h1 h2
   by_cases he:a=b
   · subst he
     rw [aO (h0 a ha hb)];exact⟨a,ha,hb,h1,h2,rfl⟩
   · have hs:=hS a b ha (by omega) hb
     by_cases hc:p ((a+b+1) / 2)
     · rw [if_pos hc] at hs
       rw [aA hs]
       exact ih _ _ (by omega) (by omega) hb (by omega) hc h2
     · rw [if_neg hc] at hs
       rw [aA hs]
       refine ih _ _ ha (by omega) (by omega) (by omega) h1 ?_
       rw [show(a+b+1) / 2 - 1+1=(a+b+1) / 2 by omega];exact hc
theorem um1 {a b:Int} (h:0≤a∧a≤b∧b≤1099511627776):IntKind.wrap .u64 (Int.tdiv (IntKind.wrap .u64 ((IntKind.wrap .u64 (a+b))+1)) 2)=(a+b+1) / 2:=by
 rw [vQ (a+b),Int.emod_eq_of_lt (a:=a+b) (by omega) (by omega),vQ (a+b+1),Int.emod_eq_of_lt (a:=a+b+1) (by omega) (by omega),Int.tdiv_eq_ediv_of_nonneg (by omega),vQ,Int.emod_eq_of_lt (by omega) (by omega)]
theorem um2 {a b:Int} (h:0≤a∧a < b∧b≤1099511627776):IntKind.wrap .u64 ((IntKind.wrap .u64 (Int.tdiv (IntKind.wrap .u64 ((IntKind.wrap .u64 (a+b))+1)) 2)) - 1)=(a+b+1) / 2 - 1:=by
 rw [um1 (by omega),vQ,Int.emod_eq_of_lt (by omega) (by omega)]
theorem aU3 {b:Int} (h:0≤b∧b≤1099511627776):W (Int.tdiv b 2)=b / 2:=by rw [Int.tdiv_eq_ediv_of_nonneg (by omega),aD (by omega) (by omega)]
noncomputable def aM8:Code:=(aE [1,1,1,1,1,0,1] [] (aG Tryz.f56) []).1
noncomputable def aM9:List K:=(aE [1,1,1,1,1,0,1] [] (aG Tryz.f56) []).2
def aGn (a0:Int)(v1 v2:Int):LS:=⟨iH 70 [(2,(.p 0 0)),(4,(iv (iI a0))),(5,(iv (W ((W (a0 - (W ((iI a0)*(iI a0)))))*2 ^ (min (toNat 40) 64))))),(6,(iv v1)),(7,(iv v2))],[(.live true false [(iv 0),(iv 0)])]⟩
def mO (a0:Int):Int×Int→(Int×Int)⊕((Int×Int)×Int)
 | (v1,v2) =>
  (bif (decide ((v2:Int) > 0)) then
   (bif (decide (((W ((W ((W ((W (2*(iI a0)))*(W (v1+v2))))*2 ^ (min (toNat 20) 64)))+(W ((W (v1+v2))*(W (v1+v2)))))):Int)≤(W ((W (a0 - (W ((iI a0)*(iI a0)))))*2 ^ (min (toNat 40) 64))))) then
    (.inl ((W (v1+v2)),(W (Int.tdiv v2 2))))
   else
    (.inl (v1,(W (Int.tdiv v2 2)))))
  else
   (bif (((W ((W ((W ((W (2*(iI a0)))*v1))*2 ^ (min (toNat 20) 64)))+(W (v1*v1)))):Int) == (W ((W (a0 - (W ((iI a0)*(iI a0)))))*2 ^ (min (toNat 40) 64)))) then
    (.inr ((qI (W ((W ((iI a0)*2 ^ (min (toNat 20) 64)))+v1)) (W ((W ((iI a0)*2 ^ (min (toNat 20) 64)))+v1))).1,(qI (W ((W ((iI a0)*2 ^ (min (toNat 20) 64)))+v1)) (W ((W ((iI a0)*2 ^ (min (toNat 20) 64)))+v1))).2))
   else
    (.inr ((qI (W ((W ((iI a0)*2 ^ (min (toNat 20) 64)))+v1)) (W ((W ((W ((iI a0)*2 ^ (min (toNat 20) 64)))+v1))+1))).1,(qI (W ((W ((iI a0)*2 ^ (min (toNat 20) 64)))+v1)) (W ((W ((W ((iI a0)*2 ^ (min (toNat 20) 64)))+v1))+1))).2))))
theorem bCj (a0:Int) {cx:Cx} (hcx:cx.base=0):∀(n:Nat)(v1 v2:Int),(0≤v2)∧(v2≤1099511627776)→toNat v2 < n→Aw.Good Tryz.prog none 9 (bodyPost Tryz.prog Tryz.f56 (RR cx (.t [(.a (k2 (aB (mO a0) n (v1,v2)).1)),(iv (aB (mO a0) n (v1,v2)).2)]) [] [])) cx [] (.l aM8 n::aM9) (aGn a0 v1 v2):=by
 intro n
 induction n with
 | zero=>intro v1 v2 hi hn;exact absurd hn (iG _)
 | succ n ih =>
   intro v1 v2 hi hn
   refine aI ?_
   have hw1:=aU3 (b:=v2) (by omega)
   cases h0:(decide ((v2:Int) > 0)) with
   | true =>
    have q0:=bY h0
    let t1:List (St Tryz.prog):=[.d h0,.p (show 0≤(20:Int) from by decide)]
    cases h1:(decide (((W ((W ((W ((W (2*(iI a0)))*(W (v1+v2))))*2 ^ (min (toNat 20) 64)))+(W ((W (v1+v2))*(W (v1+v2)))))):Int)≤(W ((W (a0 - (W ((iI a0)*(iI a0)))))*2 ^ (min (toNat 40) 64))))) with
    | true =>
     have q1:=bY h1
     have e:=Eq.refl (mO a0 (v1,v2));conv at e=>rhs;simp only [mO,h0,h1,aH]
     rw [aA e]
     refine ba (t1++[.d h1,.p (show(2:Int)≠0 from by decide)]) [] [2,4,5,6,7] [0] hcx (m:=n) aM8 (aM9) (aGn a0 (W (v1+v2)) (W (Int.tdiv v2 2))) (by kernel_rfl) ?_
     exact ih (W (v1+v2)) (W (Int.tdiv v2 2)) (by refine⟨?_,?_⟩<;>(try simp only [Ls])<;>first | omega | assumption | simp) (by(try simp only [Ls]);omega)
    | false =>
     have q1:=cF h1
     have e:=Eq.refl (mO a0 (v1,v2));conv at e=>rhs;simp only [mO,h0,h1,aH]
     rw [aA e]
     refine ba (t1++[.d h1,.p (show(2:Int)≠0 from by decide)]) [] [2,4,5,6,7] [0] hcx (m:=n) aM8 (aM9) (aGn a0 v1 (W (Int.tdiv v2 2))) (by kernel_rfl) ?_
     exact ih v1 (W (Int.tdiv v2 2)) (by refine⟨?_,?_⟩<;>(try simp only [Ls])<;>first | omega | assumption | simp) (by(try simp only [Ls]);omega)
   | false =>
    have q0:=cF h0
    let t1:List (St Tryz.prog):=[.d h0,.p (show 0≤(20:Int) from by decide),.p (show 0≤(20:Int) from by decide)]
    cases h1:(((W ((W ((W ((W (2*(iI a0)))*v1))*2 ^ (min (toNat 20) 64)))+(W (v1*v1)))):Int) == (W ((W (a0 - (W ((iI a0)*(iI a0)))))*2 ^ (min (toNat 40) 64)))) with
    | true =>
     have q1:=eq_of_beq h1
     have e:=Eq.refl (mO a0 (v1,v2));conv at e=>rhs;simp only [mO,h0,h1,aH]
     rw [aF,e]
     exact rt (t1++[.d h1,.c [] (C48 (W ((W ((iI a0)*2 ^ (min (toNat 20) 64)))+v1)) (W ((W ((iI a0)*2 ^ (min (toNat 20) 64)))+v1)))]) [] [] hcx (by kernel_rfl)
    | false =>
     have q1:=ne_of_beq_false h1
     have e:=Eq.refl (mO a0 (v1,v2));conv at e=>rhs;simp only [mO,h0,h1,aH]
     rw [aF,e]
     exact rt (t1++[.d h1,.c [] (C48 (W ((W ((iI a0)*2 ^ (min (toNat 20) 64)))+v1)) (W ((W ((W ((iI a0)*2 ^ (min (toNat 20) 64)))+v1))+1)))]) [] [] hcx (by kernel_rfl)
def xN (a0:Int):(Int×Int)×Int :=
 (bif (decide ((a0:Int) < 0)) then
  ((0,0),1)
 else
  (bif (decide ((a0:Int) > 1099511627776)) then
   ((0,0),1)
  else
   (aB (mO a0) (toNat 524288+1) (0,524288))))
theorem C56 (a0:Int):Con Tryz.prog 56 [(iv a0)] [] (.t [(.a (k2 (xN a0).1)),(iv (xN a0).2)]) []:=by
 refine aJ Tryz.func56 (by kernel_rfl) fun cx hcx=>?_
 cases h0:(decide ((a0:Int) < 0)) with
 | true =>
  have q0:=bY h0
  have e:=Eq.refl (xN a0);conv at e=>rhs;simp only [xN,h0,aH]
  rw [e]
  exact rt [.d h0] [] [] hcx (by kernel_rfl)
 | false =>
  have q0:=cF h0
  let t1:List (St Tryz.prog):=[.d h0]
  cases h1:(decide ((a0:Int) > 1099511627776)) with
  | true =>
   have q1:=bY h1
   have e:=Eq.refl (xN a0);conv at e=>rhs;simp only [xN,h0,h1,aH]
   rw [e]
   exact rt (t1++[.d h1]) [] [] hcx (by kernel_rfl)
  | false =>
   have q1:=cF h1
   have e:=Eq.refl (xN a0);conv at e=>rhs;simp only [xN,h0,h1,aH]
   rw [e]
   refine en (t1++[.d h1,.c [] (C89 a0),.p (show 0≤(40:Int) from by decide)]) [] [2,4,5,6,7] [0] hcx aM8 (aM9) (aGn a0 0 524288) (toNat 524288+1) (by kernel_rfl) ?_
   exact bCj a0 hcx (toNat 524288+1) 0 524288 (by refine⟨?_,?_⟩<;>(try simp only [Ls])<;>first | omega | assumption | simp) (by(try simp only [Ls]);omega)
noncomputable def xO:Code:=(aE [1,1,1,1,0] [] (aG Tryz.f114) []).1
noncomputable def xP:List K:=(aE [1,1,1,1,0] [] (aG Tryz.f114) []).2
def rM (a0:Int)(v2 v3:Int):LS:=⟨iH 82 [(2,(.p 0 0)),(4,(.v (.int .u64 (fQ (IntKind.wrap .u64 a0) 1099511627776).1))),(5,(.v (.int .u64 (fQ (IntKind.wrap .u64 a0) 1099511627776).2))),(6,(.v (.int .u64 v2))),(7,(.v (.int .u64 v3)))],[(.live true false [(iv 0),(iv 0)])]⟩
def eR (a0:Int):Int×Int→(Int×Int)⊕((Int×Int)×Int)
 | (v2,v3) =>
  (bif (decide ((v2:Int) < v3)) then
   (bif (decide (((fQ (IntKind.wrap .u64 (Int.tdiv (IntKind.wrap .u64 ((IntKind.wrap .u64 (v2+v3))+1)) 2)) (IntKind.wrap .u64 (Int.tdiv (IntKind.wrap .u64 ((IntKind.wrap .u64 (v2+v3))+1)) 2))).1:Int) < (fQ (IntKind.wrap .u64 a0) 1099511627776).1)) then
    (.inl ((IntKind.wrap .u64 (Int.tdiv (IntKind.wrap .u64 ((IntKind.wrap .u64 (v2+v3))+1)) 2)),v3))
   else
    (bif (((fQ (IntKind.wrap .u64 (Int.tdiv (IntKind.wrap .u64 ((IntKind.wrap .u64 (v2+v3))+1)) 2)) (IntKind.wrap .u64 (Int.tdiv (IntKind.wrap .u64 ((IntKind.wrap .u64 (v2+v3))+1)) 2))).1:Int) == (fQ (IntKind.wrap .u64 a0) 1099511627776).1) then
     (bif (decide (((fQ (IntKind.wrap .u64 (Int.tdiv (IntKind.wrap .u64 ((IntKind.wrap .u64 (v2+v3))+1)) 2)) (IntKind.wrap .u64 (Int.tdiv (IntKind.wrap .u64 ((IntKind.wrap .u64 (v2+v3))+1)) 2))).2:Int)≤(fQ (IntKind.wrap .u64 a0) 1099511627776).2)) then
      (.inl ((IntKind.wrap .u64 (Int.tdiv (IntKind.wrap .u64 ((IntKind.wrap .u64 (v2+v3))+1)) 2)),v3))
     else
      (.inl (v2,(IntKind.wrap .u64 ((IntKind.wrap .u64 (Int.tdiv (IntKind.wrap .u64 ((IntKind.wrap .u64 (v2+v3))+1)) 2)) - 1)))))
    else
     (.inl (v2,(IntKind.wrap .u64 ((IntKind.wrap .u64 (Int.tdiv (IntKind.wrap .u64 ((IntKind.wrap .u64 (v2+v3))+1)) 2)) - 1))))))
  else
   (bif (((fQ v2 v2).1:Int) == (fQ (IntKind.wrap .u64 a0) 1099511627776).1) then
    (bif (((fQ v2 v2).2:Int) == (fQ (IntKind.wrap .u64 a0) 1099511627776).2) then
     (.inr ((iQ (W v2) (W v2)).1,(iQ (W v2) (W v2)).2))
    else
     (.inr ((iQ (W v2) (W ((W v2)+1))).1,(iQ (W v2) (W ((W v2)+1))).2)))
   else
    (.inr ((iQ (W v2) (W ((W v2)+1))).1,(iQ (W v2) (W ((W v2)+1))).2))))
theorem aYt (a0:Int) {cx:Cx} (hcx:cx.base=0):∀(n:Nat)(v2 v3:Int),(0≤v2)∧(0≤v2)∧(v2≤v3)∧(v3≤1099511627776)→toNat (v3 - v2) < n→Aw.Good Tryz.prog none 9 (bodyPost Tryz.prog Tryz.f114 (RR cx (.t [(.a (k2 (aB (eR a0) n (v2,v3)).1)),(iv (aB (eR a0) n (v2,v3)).2)]) [] [])) cx [] (.l xO n::xP) (rM a0 v2 v3):=by
 intro n
 induction n with
 | zero=>intro v2 v3 hi hn;exact absurd hn (iG _)
 | succ n ih =>
   intro v2 v3 hi hn
   refine aI ?_
   have hw1:=um1 (a:=v2) (b:=v3) (by omega)
   have hw2:=fun h=>um2 (a:=v2) (b:=v3) h
   cases h0:(decide ((v2:Int) < v3)) with
   | true =>
    have q0:=bY h0
    let t1:List (St Tryz.prog):=[.d h0,.p (show(2:Int)≠0 from by decide),.c [] (aUt (IntKind.wrap .u64 (Int.tdiv (IntKind.wrap .u64 ((IntKind.wrap .u64 (v2+v3))+1)) 2)) (IntKind.wrap .u64 (Int.tdiv (IntKind.wrap .u64 ((IntKind.wrap .u64 (v2+v3))+1)) 2)))]
    cases h1:(decide (((fQ (IntKind.wrap .u64 (Int.tdiv (IntKind.wrap .u64 ((IntKind.wrap .u64 (v2+v3))+1)) 2)) (IntKind.wrap .u64 (Int.tdiv (IntKind.wrap .u64 ((IntKind.wrap .u64 (v2+v3))+1)) 2))).1:Int) < (fQ (IntKind.wrap .u64 a0) 1099511627776).1)) with
    | true =>
     have q1:=bY h1
     have e:=Eq.refl (eR a0 (v2,v3));conv at e=>rhs;simp only [eR,h0,h1,aH]
     rw [aA e]
     refine ba (t1++[.d h1]) [] [2,4,5,6,7] [0] hcx (m:=n) xO (xP) (rM a0 (IntKind.wrap .u64 (Int.tdiv (IntKind.wrap .u64 ((IntKind.wrap .u64 (v2+v3))+1)) 2)) v3) (by kernel_rfl) ?_
     exact ih (IntKind.wrap .u64 (Int.tdiv (IntKind.wrap .u64 ((IntKind.wrap .u64 (v2+v3))+1)) 2)) v3 (by refine⟨?_,?_,?_,?_⟩<;>(try simp only [Ls])<;>first | omega | assumption | simp) (by(try simp only [Ls]);omega)
    | false =>
     have q1:=cF h1
     let t2:List (St Tryz.prog):=(t1++[.d h1])
     cases h2:(((fQ (IntKind.wrap .u64 (Int.tdiv (IntKind.wrap .u64 ((IntKind.wrap .u64 (v2+v3))+1)) 2)) (IntKind.wrap .u64 (Int.tdiv (IntKind.wrap .u64 ((IntKind.wrap .u64 (v2+v3))+1)) 2))).1:Int) == (fQ (IntKind.wrap .u64 a0) 1099511627776).1) with
     | true =>
      have q2:=eq_of_beq h2
      let t3:List (St Tryz.prog):=(t2++[.d h2])
      cases h3:(decide (((fQ (IntKind.wrap .u64 (Int.tdiv (IntKind.wrap .u64 ((IntKind.wrap .u64 (v2+v3))+1)) 2)) (IntKind.wrap .u64 (Int.tdiv (IntKind.wrap .u64 ((IntKind.wrap .u64 (v2+v3))+1)) 2))).2:Int)≤(fQ (IntKind.wrap .u64 a0) 1099511627776).2)) with
      | true =>
       have q3:=bY h3
       have e:=Eq.refl (eR a0 (v2,v3));conv at e=>rhs;simp only [eR,h0,h1,h2,h3,aH]
       rw [aA e]
       refine ba (t3++[.d h3]) [] [2,4,5,6,7] [0] hcx (m:=n) xO (xP) (rM a0 (IntKind.wrap .u64 (Int.tdiv (IntKind.wrap .u64 ((IntKind.wrap .u64 (v2+v3))+1)) 2)) v3) (by kernel_rfl) ?_
       exact ih (IntKind.wrap .u64 (Int.tdiv (IntKind.wrap .u64 ((IntKind.wrap .u64 (v2+v3))+1)) 2)) v3 (by refine⟨?_,?_,?_,?_⟩<;>(try simp only [Ls])<;>first | omega | assumption | simp) (by(try simp only [Ls]);omega)
      | false =>
       have q3:=cF h3
       have e:=Eq.refl (eR a0 (v2,v3));conv at e=>rhs;simp only [eR,h0,h1,h2,h3,aH]
       rw [aA e]
       refine ba (t3++[.d h3]) [] [2,4,5,6,7] [0] hcx (m:=n) xO (xP) (rM a0 v2 (IntKind.wrap .u64 ((IntKind.wrap .u64 (Int.tdiv (IntKind.wrap .u64 ((IntKind.wrap .u64 (v2+v3))+1)) 2)) - 1))) (by kernel_rfl) ?_
       exact ih v2 (IntKind.wrap .u64 ((IntKind.wrap .u64 (Int.tdiv (IntKind.wrap .u64 ((IntKind.wrap .u64 (v2+v3))+1)) 2)) - 1)) (by refine⟨?_,?_,?_,?_⟩<;>(try simp only [Ls])<;>first | omega | assumption | simp) (by(try simp only [Ls]);omega)
     | false =>
      have q2:=ne_of_beq_false h2
      have e:=Eq.refl (eR a0 (v2,v3));conv at e=>rhs;simp only [eR,h0,h1,h2,aH]
      rw [aA e]
      refine ba (t2++[.d h2]) [] [2,4,5,6,7] [0] hcx (m:=n) xO (xP) (rM a0 v2 (IntKind.wrap .u64 ((IntKind.wrap .u64 (Int.tdiv (IntKind.wrap .u64 ((IntKind.wrap .u64 (v2+v3))+1)) 2)) - 1))) (by kernel_rfl) ?_
      exact ih v2 (IntKind.wrap .u64 ((IntKind.wrap .u64 (Int.tdiv (IntKind.wrap .u64 ((IntKind.wrap .u64 (v2+v3))+1)) 2)) - 1)) (by refine⟨?_,?_,?_,?_⟩<;>(try simp only [Ls])<;>first | omega | assumption | simp) (by(try simp only [Ls]);omega)
   | false =>
    have q0:=cF h0
    let t1:List (St Tryz.prog):=[.d h0,.c [] (aUt v2 v2)]
    cases h1:(((fQ v2 v2).1:Int) == (fQ (IntKind.wrap .u64 a0) 1099511627776).1) with
    | true =>
     have q1:=eq_of_beq h1
     let t2:List (St Tryz.prog):=(t1++[.d h1])
     cases h2:(((fQ v2 v2).2:Int) == (fQ (IntKind.wrap .u64 a0) 1099511627776).2) with
     | true =>
      have q2:=eq_of_beq h2
      have e:=Eq.refl (eR a0 (v2,v3));conv at e=>rhs;simp only [eR,h0,h1,h2,aH]
      rw [aF,e]
      exact rt (t2++[.d h2,.c [] (aDs (W v2) (W v2))]) [] [] hcx (by kernel_rfl)
     | false =>
      have q2:=ne_of_beq_false h2
      have e:=Eq.refl (eR a0 (v2,v3));conv at e=>rhs;simp only [eR,h0,h1,h2,aH]
      rw [aF,e]
      exact rt (t2++[.d h2,.c [] (aDs (W v2) (W ((W v2)+1)))]) [] [] hcx (by kernel_rfl)
    | false =>
     have q1:=ne_of_beq_false h1
     have e:=Eq.refl (eR a0 (v2,v3));conv at e=>rhs;simp only [eR,h0,h1,aH]
     rw [aF,e]
     exact rt (t1++[.d h1,.c [] (aDs (W v2) (W ((W v2)+1)))]) [] [] hcx (by kernel_rfl)
def tR (a0:Int):(Int×Int)×Int :=
 (bif (!(nS a0 0 1099511627776)) then
  ((0,0),1)
 else
  (aB (eR a0) (toNat (1099511627776 - 0)+1) (0,1099511627776)))
theorem bE4 (a0:Int):Con Tryz.prog 114 [(iv a0)] [] (.t [(.a (k2 (tR a0).1)),(iv (tR a0).2)]) []:=by
 refine aJ Tryz.func114 (by kernel_rfl) fun cx hcx=>?_
 let t0:List (St Tryz.prog):=[.c [] (aUk a0 0 1099511627776)]
 cases h0:(!(nS a0 0 1099511627776)) with
 | true =>
  have e:=Eq.refl (tR a0);conv at e=>rhs;simp only [tR,h0,aH]
  rw [e]
  exact rt (t0++[.d h0]) [] [] hcx (by kernel_rfl)
 | false =>
  have e:=Eq.refl (tR a0);conv at e=>rhs;simp only [tR,h0,aH]
  rw [e]
  refine en (t0++[.d h0,.c [] (aUt (IntKind.wrap .u64 a0) 1099511627776)]) [] [2,4,5,6,7] [0] hcx xO (xP) (rM a0 0 1099511627776) (toNat (1099511627776 - 0)+1) (by kernel_rfl) ?_
  exact aYt a0 hcx (toNat (1099511627776 - 0)+1) 0 1099511627776 (by refine⟨?_,?_,?_,?_⟩<;>(try simp only [Ls])<;>first | omega | assumption | simp) (by(try simp only [Ls]);omega)
def zK (n r:Int):(Int×Int)×Int:=qI r (if r*r=n*1099511627776 then r else r+1)
theorem aRu {n:Int} (h:0≤n∧n≤400000):∃r,IsRt (n*1099511627776) r∧xN n=zK n r:=by
 have ha:=xF (n:=n) h.1 (by omega)
 unfold xN
 rw [cK (by omega),cK (by omega),cond_false,cond_false]
 have hle:iI n≤1000:=ha.le (by omega) (by omega)
 have h0:=ha.1
 have h1:=ha.2.1
 have h2:=ha.2.2
 have p20:(2:Int) ^ (min (toNat 20) 64)=1048576:=by decide
 have p40:(2:Int) ^ (min (toNat 40) 64)=1099511627776:=by decide
 generalize ea:iI n=a at *
 have haa:0≤a*a:=Int.mul_nonneg h0 h0
 have ex:(a+1)*(a+1)=a*a+2*a+1:=by grind
 have key:∀f:Int,0≤f→f≤1048576→W ((W ((W ((W (2*a))*(W f)))*2 ^ (min (toNat 20) 64)))+(W ((W f)*(W f))))=(a*1048576+f)*(a*1048576+f) - a*a*1099511627776:=by
   intro f f0 f1
   have m1:=bD (a:=1000) (b:=1048576) (x:=a) (y:=f) ⟨by omega,by omega⟩ ⟨by omega,by omega⟩
   have m2:=bD (a:=1048576) (b:=1048576) (x:=f) (y:=f) ⟨by omega,by omega⟩ ⟨by omega,by omega⟩
   have e1:2*a*f=2*(a*f):=by grind
   rw [p20,aD (n:=f) (by omega) (by omega),aD (n:=2*a) (by omega) (by omega),e1,aD (n:=2*(a*f)) (by omega) (by omega),aD (n:=2*(a*f)*1048576) (by omega) (by omega),aD (n:=f*f) (by omega) (by omega),aD (by omega) (by omega)]
   grind
 have rest:W ((W (n - (W (a*a))))*2 ^ (min (toNat 40) 64))=n*1099511627776 - a*a*1099511627776:=by
   rw [p40,aD (n:=a*a) (by omega) (by omega),aD (n:=n - a*a) (by omega) (by omega),aD (by omega) (by omega)]
   omega
 have key0:∀f:Int,0≤f→f≤1048576→W ((W ((W ((W (2*a))*f))*2 ^ (min (toNat 20) 64)))+(W (f*f)))=(a*1048576+f)*(a*1048576+f) - a*a*1099511627776:=by
   intro f f0 f1
   have:=key f f0 f1
   rwa [aD (n:=f) (by omega) (by omega)] at this
 have A20:W (a*2 ^ (min (toNat 20) 64))=a*1048576:=by rw [p20,aD (by omega) (by omega)]
 obtain⟨f,f0,f1,g1,g2,e⟩:=bCh (p:=fun f=>(a*1048576+f)*(a*1048576+f)≤n*1099511627776) (G:=fun f=>zK n (a*1048576+f)) (M:=1048576) (S:=mO n) (fun k b hk hb hkb=>by
     simp only [mO,ea]
     rw [bW (show b > 0 from hb),cond_true,key (k+b) (by omega) (by omega),rest,aD (n:=k+b) (by omega) (by omega),Int.tdiv_eq_ediv_of_nonneg (by omega),aD (n:=b / 2) (by omega) (by omega)]
     by_cases hc:(a*1048576+(k+b))*(a*1048576+(k+b))≤n*1099511627776
     · rw [if_pos hc,bW (by omega),cond_true]
     · rw [if_neg hc,cK (by omega),cond_false])
   (fun k hk hk2=>by
     simp only [mO,ea]
     rw [cK (by omega),cond_false,key0 k hk hk2,rest,A20,aD (n:=a*1048576+k) (by omega) (by omega),aD (n:=a*1048576+k+1) (by omega) (by omega)]
     unfold zK
     by_cases hc:(a*1048576+k)*(a*1048576+k)=n*1099511627776
     · rw [if_pos hc,hc,beq_self_eq_true,cond_true]
     · rw [if_neg hc,beq_eq_false_iff_ne.2 (by omega),cond_false])
   19 (toNat 524288+1) 0 (by decide) (by omega) (by decide) (by
     have:(a*1048576+0)*(a*1048576+0)=a*a*1099511627776:=by grind
     omega) (by
     have:(a*1048576+(0+2*2 ^ 19))*(a*1048576+(0+2*2 ^ 19))=(a+1)*(a+1)*1099511627776:=by grind
     rw [this];omega)
 refine⟨a*1048576+f,⟨by omega,g1,?_⟩,e⟩
 rw [show a*1048576+f+1=a*1048576+(f+1) by omega]
 omega
theorem bCk {n:Int} (h:0≤n∧n≤400000):∃r,IsRt (n*1099511627776) r∧tR n=zK n r:=by
 unfold tR
 have hw:(!nS n 0 1099511627776)=false:=by
   unfold nS
   rw [bW (show n≥0 from h.1),bW (show n≤1099511627776 by omega)];rfl
 rw [hw,cond_false]
 have un:IntKind.wrap .u64 n=n:=by rw [vQ];omega
 have mm:∀k:Int,0≤k→k≤1099511627776→fQ k k=(k*k / 18446744073709551616,k*k % 18446744073709551616):=fun k k0 k1=>aQr ⟨k0,k1⟩ ⟨k0,k1⟩
 have mn:fQ (IntKind.wrap .u64 n) 1099511627776=(n*1099511627776 / 18446744073709551616,n*1099511627776 % 18446744073709551616):=by
   rw [un];exact aQr ⟨h.1,by omega⟩ ⟨by omega,by omega⟩
 obtain⟨r,r0,r1,g1,g2,e⟩:=bCi (p:=fun k=>k*k≤n*1099511627776) (G:=fun r=>zK n r) (M:=1099511627776) (S:=eR n) (fun a b ha hab hb=>by
     have wm:IntKind.wrap .u64 ((a+b+1) / 2 - 1)=(a+b+1) / 2 - 1:=by rw [vQ,Int.emod_eq_of_lt (by omega) (by omega)]
     simp only [eR,um1 (a:=a) (b:=b) (by omega),wm,mn]
     rw [mm ((a+b+1) / 2) (by omega) (by omega),bW hab,cond_true]
     simp only
     generalize (a+b+1) / 2*((a+b+1) / 2)=X
     generalize n*1099511627776=N
     by_cases hc:X≤N
     · rw [if_pos hc]
       by_cases c1:X / 18446744073709551616 < N / 18446744073709551616
       · rw [bW c1,cond_true]
       · rw [cK c1,cond_false,beq_iff_eq.2 (show X / 18446744073709551616=N / 18446744073709551616 by omega),cond_true,bW (by omega),cond_true]
     · rw [if_neg hc,cK (by omega),cond_false]
       by_cases c1:X / 18446744073709551616=N / 18446744073709551616
       · rw [beq_iff_eq.2 c1,cond_true,cK (by omega),cond_false]
       · rw [beq_eq_false_iff_ne.2 c1,cond_false])
   (fun a ha ha2=>by
     simp only [eR,mn]
     rw [mm a ha ha2,cK (by omega),cond_false,aD (n:=a) (by omega) (by omega),aD (n:=a+1) (by omega) (by omega)]
     unfold zK
     simp only
     generalize a*a=X
     generalize n*1099511627776=N
     by_cases hc:X=N
     · rw [if_pos hc,hc,beq_self_eq_true,cond_true,beq_self_eq_true,cond_true];rfl
     · rw [if_neg hc]
       by_cases c1:X / 18446744073709551616=N / 18446744073709551616
       · rw [beq_iff_eq.2 c1,cond_true,beq_eq_false_iff_ne.2 (by omega),cond_false];rfl
       · rw [beq_eq_false_iff_ne.2 c1,cond_false];rfl)
   (toNat (1099511627776 - 0)+1) 0 1099511627776 (by omega) (by omega) (by omega) (by omega) (by omega) (by omega)
 exact⟨r,⟨r0,g1,by omega⟩,e⟩
theorem aYu {n:Int} (h:0≤n∧n≤400000):xN n=tR n:=by
 obtain⟨r,h1,e1⟩:=aRu h
 obtain⟨s,h2,e2⟩:=bCk h
 rw [e1,e2,h1.eq h2]
theorem oS {m:ME} (h:((fB m:Int) != 0)=false):1≤m.1.length∧m.1.length≤64:=by
 obtain⟨h1,h2,h3,_,h4⟩:=iF (bne_eq_false_iff_eq.1 h)
 have:=(qM h).1 0 (Int.le_refl 0) (by omega)
 exact⟨by omega,h1⟩
theorem aU4 {m:ME} {k:Int} (h:lZ m k)(i:Int):(0≤i∧i < k)→((0≤(m.2.getD (toNat i) default).1∧(m.2.getD (toNat i) default).1 < (m.1.length:Int))∧(0≤(m.2.getD (toNat i) default).2.1∧(m.2.getD (toNat i) default).2.1 < (m.1.length:Int))∧0≤(m.2.getD (toNat i) default).2.2∧(m.2.getD (toNat i) default).2.2 < (m.1.length:Int)):=fun g=>h i g.1 g.2
def oT (a0:Int)(a1:Int)(a2:Int):Bool :=
 (bif (decide ((a0:Int)≥a1)) then
  (decide ((a0:Int)≤a2))
 else
  false)
theorem C55 (a0:Int)(a1:Int)(a2:Int):Con Tryz.prog 55 [(iv a0),(iv a1),(iv a2)] [] (.v (.bool (oT a0 a1 a2))) []:=by
 refine aJ Tryz.func55 (by kernel_rfl) fun cx hcx=>?_
 cases h0:(decide ((a0:Int)≥a1)) with
 | true =>
  have q0:=bY h0
  have e:=Eq.refl (oT a0 a1 a2);conv at e=>rhs;simp only [oT,h0,aH]
  rw [e]
  exact rt [.d h0] [] [] hcx (by kernel_rfl)
 | false =>
  have q0:=cF h0
  have e:=Eq.refl (oT a0 a1 a2);conv at e=>rhs;simp only [oT,h0,aH]
  rw [e]
  exact rt [.d h0] [] [] hcx (by kernel_rfl)
def F52 (a0:Int)(a1:Int)(a2:Int):Bool :=
 (bif (decide ((a0:Int)≥a1)) then
  (decide ((a0:Int)≤a2))
 else
  false)
theorem C52 (a0:Int)(a1:Int)(a2:Int):Con Tryz.prog 52 [(iv a0),(iv a1),(iv a2)] [] (.v (.bool (F52 a0 a1 a2))) []:=by
 refine aJ Tryz.func52 (by kernel_rfl) fun cx hcx=>?_
 cases h0:(decide ((a0:Int)≥a1)) with
 | true =>
  have q0:=bY h0
  have e:=Eq.refl (F52 a0 a1 a2);conv at e=>rhs;simp only [F52,h0,aH]
  rw [e]
  exact rt [.d h0] [] [] hcx (by kernel_rfl)
 | false =>
  have q0:=cF h0
  have e:=Eq.refl (F52 a0 a1 a2);conv at e=>rhs;simp only [F52,h0,aH]
  rw [e]
  exact rt [.d h0] [] [] hcx (by kernel_rfl)
theorem qN {d:Int} {a b:Int} (h:(!oT d a b)=false):a≤d∧d≤b:=by
 unfold oT at h
 by_cases h1:d≥a
 · by_cases h2:d≤b
   · exact⟨h1,h2⟩
   · rw [bW h1,cK h2] at h;simp at h
 · rw [cK h1] at h;simp at h
theorem aCk {d:Int} {a b:Int} (h:(!F52 d a b)=false):a≤d∧d≤b:=qN h
noncomputable def aGo:Code:=(aE [1,1,1,1,0,1] [] (aG Tryz.f58) []).1
noncomputable def aGp:List K:=(aE [1,1,1,1,0,1] [] (aG Tryz.f58) []).2
def aCl (a0:Zm)(a1:List (Int))(v1 v2:Int):LS:=⟨iH 35 [(6,(iv v1)),(20,(.s 2 0 a1.length 1)),(21,(iv (a1.length:Int))),(22,(iv v2))],[(.live false true (flat dT a0.1)),(.live false true (flat eZ a0.2)),(.live false true (flat c3 a1))]⟩
def gV (a0:Zm)(a1:List (Int)):Int×Int→(Int×Int)⊕(Int)
 | (v1,v2) =>
  (bif (decide ((v2:Int) < (a1.length:Int))) then
   (bif (!(oT (a1.getD (toNat v2) default) 0 100)) then
    (.inr 1)
   else
    (.inl ((W (v1+(a1.getD (toNat v2) default))),(v2+1))))
  else
   (bif ((v1:Int) == 0) then
    (.inr 11)
   else
    (.inr 0)))
theorem aU5 (a0:Zm)(a1:List (Int))(l0_1:a0.1.length≤9223372036854775807)(l0_2:a0.2.length≤9223372036854775807)(l1:a1.length≤9223372036854775807) {cx:Cx} (hcx:cx.base=3):∀(n:Nat)(v1 v2:Int),0≤v2→toNat ((a1.length:Int) - v2) < n→Aw.Good Tryz.prog none 9 (bodyPost Tryz.prog Tryz.f58 (RR cx (iv (aB (gV a0 a1) n (v1,v2))) [] [])) cx [] (.l aGo n::aGp) (aCl a0 a1 v1 v2):=by
 intro n
 induction n with
 | zero=>intro v1 v2 hi hn;exact absurd hn (iG _)
 | succ n ih =>
   intro v1 v2 hi hn
   refine aI ?_
   cases h0:(decide ((v2:Int) < (a1.length:Int))) with
   | true =>
    have q0:=bY h0
    let t1:List (St Tryz.prog):=[.d h0,.i v2 (a1.length),.L fU a1 v2 0 1,.c [] (C55 (a1.getD (toNat v2) default) 0 100)]
    cases h1:(!(oT (a1.getD (toNat v2) default) 0 100)) with
    | true =>
     have e:=Eq.refl (gV a0 a1 (v1,v2));conv at e=>rhs;simp only [gV,h0,h1,aH]
     rw [aF,e]
     exact rt (t1++[.d h1]) [] [] hcx (by kernel_rfl)
    | false =>
     have e:=Eq.refl (gV a0 a1 (v1,v2));conv at e=>rhs;simp only [gV,h0,h1,aH]
     rw [aA e]
     refine ba (t1++[.d h1]) [] [6,20,21,22] [] hcx (m:=n) aGo (aGp) (aCl a0 a1 (W (v1+(a1.getD (toNat v2) default))) (W (v2+1))) (by kernel_rfl) ?_
     have z0:(W (v2+1))=(v2+1):=aD (by omega) (by omega)
     rw [z0]
     exact ih (W (v1+(a1.getD (toNat v2) default))) (v2+1) (by(try simp only [Ls]);omega) (by(try simp only [Ls]);omega)
   | false =>
    have q0:=cF h0
    let t1:List (St Tryz.prog):=[.d h0]
    cases h1:((v1:Int) == 0) with
    | true =>
     have q1:=eq_of_beq h1
     have e:=Eq.refl (gV a0 a1 (v1,v2));conv at e=>rhs;simp only [gV,h0,h1,aH]
     rw [aF,e]
     exact rt (t1++[.d h1]) [] [] hcx (by kernel_rfl)
    | false =>
     have q1:=ne_of_beq_false h1
     have e:=Eq.refl (gV a0 a1 (v1,v2));conv at e=>rhs;simp only [gV,h0,h1,aH]
     rw [aF,e]
     exact rt (t1++[.d h1]) [] [] hcx (by kernel_rfl)
def nY (a0:Zm)(a1:List (Int)):Int :=
 (bif (((fB (a0.1,a0.2)):Int) != 0) then
  (fB (a0.1,a0.2))
 else
  (bif (((a1.length:Int):Int) != (a0.2.length:Int)) then
   1
  else
   (aB (gV a0 a1) (toNat ((a1.length:Int) - 0)+1) (0,0))))
theorem bCl (a0:Zm)(a1:List (Int))(l0_1:a0.1.length≤9223372036854775807)(l0_2:a0.2.length≤9223372036854775807)(l1:a1.length≤9223372036854775807):Con Tryz.prog 58 [(.a [(.s 0 0 a0.1.length 3),(.s 1 0 a0.2.length 3)]),(.s 2 0 a1.length 1)] [(.live false true (flat dT a0.1)),(.live false true (flat eZ a0.2)),(.live false true (flat c3 a1))] (iv (nY a0 a1)) []:=by
 refine aJ Tryz.func58 (by kernel_rfl) fun cx hcx=>?_
 let t0:List (St Tryz.prog):=[.c [0,1] (C35 (a0.1,a0.2) (by(try simp only [Lt]);omega) (by(try simp only [Lt]);omega))]
 cases h0:(((fB (a0.1,a0.2)):Int) != 0) with
 | true =>
  have q0:=bne_iff_ne.1 h0
  have e:=Eq.refl (nY a0 a1);conv at e=>rhs;simp only [nY,h0,aH]
  rw [e]
  exact rt (t0++[.d h0]) [] [] hcx (by kernel_rfl)
 | false =>
  have q0:=bne_eq_false_iff_eq.1 h0
  let t1:List (St Tryz.prog):=(t0++[.d h0])
  cases h1:(((a1.length:Int):Int) != (a0.2.length:Int)) with
  | true =>
   have q1:=bne_iff_ne.1 h1
   have e:=Eq.refl (nY a0 a1);conv at e=>rhs;simp only [nY,h0,h1,aH]
   rw [e]
   exact rt (t1++[.d h1]) [] [] hcx (by kernel_rfl)
  | false =>
   have q1:=bne_eq_false_iff_eq.1 h1
   have e:=Eq.refl (nY a0 a1);conv at e=>rhs;simp only [nY,h0,h1,aH]
   rw [e]
   refine en (t1++[.d h1]) [] [6,20,21,22] [] hcx aGo (aGp) (aCl a0 a1 0 0) (toNat ((a1.length:Int) - 0)+1) (by kernel_rfl) ?_
   exact aU5 a0 a1 l0_1 l0_2 l1 hcx (toNat ((a1.length:Int) - 0)+1) 0 0 (by(try simp only [Ls]);omega) (by(try simp only [Ls]);omega)
def gF (a0:Zm)(a1:List (Int))(a2:Int):Int :=
 (bif (((nY (a0.1,a0.2) a1):Int) != 0) then
  (nY (a0.1,a0.2) a1)
 else
  (bif (!(oT a2 0 2)) then
   1
  else
   0))
theorem bCm (a0:Zm)(a1:List (Int))(a2:Int)(l0_1:a0.1.length≤9223372036854775807)(l0_2:a0.2.length≤9223372036854775807)(l1:a1.length≤9223372036854775807):Con Tryz.prog 32 [(.a [(.s 0 0 a0.1.length 3),(.s 1 0 a0.2.length 3)]),(.s 2 0 a1.length 1),(iv a2)] [(.live false true (flat dT a0.1)),(.live false true (flat eZ a0.2)),(.live false true (flat c3 a1))] (iv (gF a0 a1 a2)) []:=by
 refine aJ Tryz.func32 (by kernel_rfl) fun cx hcx=>?_
 let t0:List (St Tryz.prog):=[.c [0,1,2] (bCl (a0.1,a0.2) a1 (by(try simp only [Lt]);omega) (by(try simp only [Lt]);omega) (by omega))]
 cases h0:(((nY (a0.1,a0.2) a1):Int) != 0) with
 | true =>
  have q0:=bne_iff_ne.1 h0
  have e:=Eq.refl (gF a0 a1 a2);conv at e=>rhs;simp only [gF,h0,aH]
  rw [e]
  exact rt (t0++[.d h0]) [] [] hcx (by kernel_rfl)
 | false =>
  have q0:=bne_eq_false_iff_eq.1 h0
  let t1:List (St Tryz.prog):=(t0++[.d h0,.c [] (C55 a2 0 2)])
  cases h1:(!(oT a2 0 2)) with
  | true =>
   have e:=Eq.refl (gF a0 a1 a2);conv at e=>rhs;simp only [gF,h0,h1,aH]
   rw [e]
   exact rt (t1++[.d h1]) [] [] hcx (by kernel_rfl)
  | false =>
   have e:=Eq.refl (gF a0 a1 a2);conv at e=>rhs;simp only [gF,h0,h1,aH]
   rw [e]
   exact rt (t1++[.d h1]) [] [] hcx (by kernel_rfl)
def F97 (a0:Int):Int×Int :=
 (bif (decide ((a0:Int) > 1099511627776)) then
  (0,4)
 else
  (a0,0))
theorem C97 (a0:Int):Con Tryz.prog 97 [(iv a0)] [] (.t (k2 (F97 a0))) []:=by
 refine aJ Tryz.func97 (by kernel_rfl) fun cx hcx=>?_
 cases h0:(decide ((a0:Int) > 1099511627776)) with
 | true =>
  have q0:=bY h0
  have e:=Eq.refl (F97 a0);conv at e=>rhs;simp only [F97,h0,aH]
  rw [e]
  exact rt [.d h0] [] [] hcx (by kernel_rfl)
 | false =>
  have q0:=cF h0
  have e:=Eq.refl (F97 a0);conv at e=>rhs;simp only [F97,h0,aH]
  rw [e]
  exact rt [.d h0] [] [] hcx (by kernel_rfl)
noncomputable def aGq:Code:=(aE [1,1,0,1] [] (aG Tryz.f98) []).1
noncomputable def aGr:List K:=(aE [1,1,0,1] [] (aG Tryz.f98) []).2
def aCm (a0:List (Int))(v1 v2:Int):LS:=⟨iH 19 [(3,(iv v1)),(6,(.s 0 0 a0.length 1)),(7,(iv (a0.length:Int))),(8,(iv v2))],[(.live false true (flat c3 a0))]⟩
def mQ (a0:List (Int)):Int×Int→(Int×Int)⊕(Int)
 | (v1,v2) =>
  (bif (decide ((v2:Int) < (a0.length:Int))) then
   (.inl ((W (v1+(a0.getD (toNat v2) default))),(v2+1)))
  else
   (.inr (W ((W (v1*1048576))*1048576))))
theorem aU6 (a0:List (Int))(l0:a0.length≤9223372036854775807) {cx:Cx} (hcx:cx.base=1):∀(n:Nat)(v1 v2:Int),0≤v2→toNat ((a0.length:Int) - v2) < n→Aw.Good Tryz.prog none 9 (bodyPost Tryz.prog Tryz.f98 (RR cx (iv (aB (mQ a0) n (v1,v2))) [] [])) cx [] (.l aGq n::aGr) (aCm a0 v1 v2):=by
 intro n
 induction n with
 | zero=>intro v1 v2 hi hn;exact absurd hn (iG _)
 | succ n ih =>
   intro v1 v2 hi hn
   refine aI ?_
   cases h0:(decide ((v2:Int) < (a0.length:Int))) with
   | true =>
    have q0:=bY h0
    have e:=Eq.refl (mQ a0 (v1,v2));conv at e=>rhs;simp only [mQ,h0,aH]
    rw [aA e]
    refine ba [.d h0,.i v2 (a0.length),.L fU a0 v2 0 1] [] [3,6,7,8] [] hcx (m:=n) aGq (aGr) (aCm a0 (W (v1+(a0.getD (toNat v2) default))) (W (v2+1))) (by kernel_rfl) ?_
    have z0:(W (v2+1))=(v2+1):=aD (by omega) (by omega)
    rw [z0]
    exact ih (W (v1+(a0.getD (toNat v2) default))) (v2+1) (by(try simp only [Ls]);omega) (by(try simp only [Ls]);omega)
   | false =>
    have q0:=cF h0
    have e:=Eq.refl (mQ a0 (v1,v2));conv at e=>rhs;simp only [mQ,h0,aH]
    rw [aF,e]
    exact rt [.d h0] [] [] hcx (by kernel_rfl)
def cO (a0:List (Int)):Int :=
 (aB (mQ a0) (toNat ((a0.length:Int) - 0)+1) (0,0))
theorem aRv (a0:List (Int))(l0:a0.length≤9223372036854775807):Con Tryz.prog 98 [(.s 0 0 a0.length 1)] [(.live false true (flat c3 a0))] (iv (cO a0)) []:=by
 refine aJ Tryz.func98 (by kernel_rfl) fun cx hcx=>?_
 have e:=Eq.refl (cO a0);conv at e=>rhs;simp only [cO]
 rw [e]
 refine en [] [] [3,6,7,8] [] hcx aGq (aGr) (aCm a0 0 0) (toNat ((a0.length:Int) - 0)+1) (by kernel_rfl) ?_
 exact aU6 a0 l0 hcx (toNat ((a0.length:Int) - 0)+1) 0 0 (by(try simp only [Ls]);omega) (by(try simp only [Ls]);omega)
noncomputable def aRw:Code:=(aE [1,1,1,1,0,1] [] (aG Tryz.f28) []).1
noncomputable def aRx:List K:=(aE [1,1,1,1,0,1] [] (aG Tryz.f28) []).2
def aLe (a0:Zm)(a1:Zt)(v1 v2:Int):LS:=⟨iH 82 [(3,(.p 2 0)),(9,(iv v1)),(39,(.s 0 0 a0.1.length 3)),(40,(iv (a0.1.length:Int))),(41,(iv v2))],[(.live false true (flat dT a0.1)),(.live false true (flat eZ a0.2)),(.live true false (k3 a1))]⟩
def pI (a0:Zm)(a1:Zt):Int×Int→(Int×Int)⊕(Int×Int)
 | (v1,v2) =>
  (bif (decide ((v2:Int) < (a0.1.length:Int))) then
   (.inl ((iL v1 (W ((W ((W ((W ((a0.1.getD (toNat v2) default).1 - a1.1))*(W ((a0.1.getD (toNat v2) default).1 - a1.1))))+(W ((W ((a0.1.getD (toNat v2) default).2.1 - a1.2.1))*(W ((a0.1.getD (toNat v2) default).2.1 - a1.2.1))))))+(W ((W ((a0.1.getD (toNat v2) default).2.2 - a1.2.2))*(W ((a0.1.getD (toNat v2) default).2.2 - a1.2.2))))))),(v2+1)))
  else
   (.inr ((xN v1).1.2,(xN v1).2)))
theorem bCn (a0:Zm)(a1:Zt)(l0_1:a0.1.length≤9223372036854775807)(l0_2:a0.2.length≤9223372036854775807) {cx:Cx} (hcx:cx.base=2):∀(n:Nat)(v1 v2:Int),0≤v2→toNat ((a0.1.length:Int) - v2) < n→Aw.Good Tryz.prog none 9 (bodyPost Tryz.prog Tryz.f28 (RR cx (.t (k2 (aB (pI a0 a1) n (v1,v2)))) [] [])) cx [] (.l aRw n::aRx) (aLe a0 a1 v1 v2):=by
 intro n
 induction n with
 | zero=>intro v1 v2 hi hn;exact absurd hn (iG _)
 | succ n ih =>
   intro v1 v2 hi hn
   refine aI ?_
   cases h0:(decide ((v2:Int) < (a0.1.length:Int))) with
   | true =>
    have q0:=bY h0
    have e:=Eq.refl (pI a0 a1 (v1,v2));conv at e=>rhs;simp only [pI,h0,aH]
    rw [aA e]
    refine ba [.d h0,.i v2 (a0.1.length),.L bL a0.1 v2 0 3] [] [3,9,39,40,41] [2] hcx (m:=n) aRw (aRx) (aLe a0 a1 (iL v1 (W ((W ((W ((W ((a0.1.getD (toNat v2) default).1 - a1.1))*(W ((a0.1.getD (toNat v2) default).1 - a1.1))))+(W ((W ((a0.1.getD (toNat v2) default).2.1 - a1.2.1))*(W ((a0.1.getD (toNat v2) default).2.1 - a1.2.1))))))+(W ((W ((a0.1.getD (toNat v2) default).2.2 - a1.2.2))*(W ((a0.1.getD (toNat v2) default).2.2 - a1.2.2))))))) (W (v2+1))) (by kernel_rfl) ?_
    have z0:(W (v2+1))=(v2+1):=aD (by omega) (by omega)
    rw [z0]
    exact ih (iL v1 (W ((W ((W ((W ((a0.1.getD (toNat v2) default).1 - a1.1))*(W ((a0.1.getD (toNat v2) default).1 - a1.1))))+(W ((W ((a0.1.getD (toNat v2) default).2.1 - a1.2.1))*(W ((a0.1.getD (toNat v2) default).2.1 - a1.2.1))))))+(W ((W ((a0.1.getD (toNat v2) default).2.2 - a1.2.2))*(W ((a0.1.getD (toNat v2) default).2.2 - a1.2.2))))))) (v2+1) (by(try simp only [Ls]);omega) (by(try simp only [Ls]);omega)
   | false =>
    have q0:=cF h0
    have e:=Eq.refl (pI a0 a1 (v1,v2));conv at e=>rhs;simp only [pI,h0,aH]
    rw [aF,e]
    exact rt [.d h0,.c [] (C56 v1)] [] [] hcx (by kernel_rfl)
def tS (a0:Zm)(a1:Zt):Int×Int :=
 (bif (((fB (a0.1,a0.2)):Int) != 0) then
  (0,(fB (a0.1,a0.2)))
 else
  (bif (!(oT a1.1 (-256) 256)) then
   (0,1)
  else
   (bif (!(oT a1.2.1 (-256) 256)) then
    (0,1)
   else
    (bif (!(oT a1.2.2 (-256) 256)) then
     (0,1)
    else
     (aB (pI a0 a1) (toNat ((a0.1.length:Int) - 0)+1) (0,0))))))
theorem C28 (a0:Zm)(a1:Zt)(l0_1:a0.1.length≤9223372036854775807)(l0_2:a0.2.length≤9223372036854775807):Con Tryz.prog 28 [(.a [(.s 0 0 a0.1.length 3),(.s 1 0 a0.2.length 3)]),(.a (k3 a1))] [(.live false true (flat dT a0.1)),(.live false true (flat eZ a0.2))] (.t (k2 (tS a0 a1))) []:=by
 refine aJ Tryz.func28 (by kernel_rfl) fun cx hcx=>?_
 let t0:List (St Tryz.prog):=[.c [0,1] (C35 (a0.1,a0.2) (by(try simp only [Lt]);omega) (by(try simp only [Lt]);omega))]
 cases h0:(((fB (a0.1,a0.2)):Int) != 0) with
 | true =>
  have q0:=bne_iff_ne.1 h0
  have e:=Eq.refl (tS a0 a1);conv at e=>rhs;simp only [tS,h0,aH]
  rw [e]
  exact rt (t0++[.d h0]) [] [] hcx (by kernel_rfl)
 | false =>
  have q0:=bne_eq_false_iff_eq.1 h0
  let t1:List (St Tryz.prog):=(t0++[.d h0,.u 200,.T,.i 0 3 (by decide),.c [] (C55 a1.1 (-256) 256)])
  cases h1:(!(oT a1.1 (-256) 256)) with
  | true =>
   have e:=Eq.refl (tS a0 a1);conv at e=>rhs;simp only [tS,h0,h1,aH]
   rw [e]
   exact rt (t1++[.d h1]) [] [] hcx (by kernel_rfl)
  | false =>
   let t2:List (St Tryz.prog):=(t1++[.d h1,.u 0,.T,.i 1 3 (by decide),.c [] (C55 a1.2.1 (-256) 256)])
   cases h2:(!(oT a1.2.1 (-256) 256)) with
   | true =>
    have e:=Eq.refl (tS a0 a1);conv at e=>rhs;simp only [tS,h0,h1,h2,aH]
    rw [e]
    exact rt (t2++[.d h2]) [] [] hcx (by kernel_rfl)
   | false =>
    let t3:List (St Tryz.prog):=(t2++[.d h2,.u 0,.T,.i 2 3 (by decide),.c [] (C55 a1.2.2 (-256) 256)])
    cases h3:(!(oT a1.2.2 (-256) 256)) with
    | true =>
     have e:=Eq.refl (tS a0 a1);conv at e=>rhs;simp only [tS,h0,h1,h2,h3,aH]
     rw [e]
     exact rt (t3++[.d h3]) [] [] hcx (by kernel_rfl)
    | false =>
     have e:=Eq.refl (tS a0 a1);conv at e=>rhs;simp only [tS,h0,h1,h2,h3,aH]
     rw [e]
     refine en (t3++[.d h3,.u 0,.F]) [] [3,9,39,40,41] [3] hcx aRw (aRx) (aLe a0 a1 0 0) (toNat ((a0.1.length:Int) - 0)+1) (by kernel_rfl) ?_
     exact bCn a0 a1 l0_1 l0_2 hcx (toNat ((a0.1.length:Int) - 0)+1) 0 0 (by(try simp only [Ls]);omega) (by(try simp only [Ls]);omega)
noncomputable def aRy:Code:=(aE [1,1,1,0,1] [] (aG Tryz.f62) []).1
noncomputable def aRz:List K:=(aE [1,1,1,0,1] [] (aG Tryz.f62) []).2
def aLf (a0:Zm)(v1 v2 v3 v4 v5 v6 v7:Int):LS:=⟨iH 65 [(2,(.p 2 0)),(3,(.p 3 0)),(24,(.s 0 0 a0.1.length 3)),(25,(iv (a0.1.length:Int))),(26,(iv v1))],[(.live false true (flat dT a0.1)),(.live false true (flat eZ a0.2)),(.live true false [(iv v2),(iv v3),(iv v4)]),(.live true false [(iv v5),(iv v6),(iv v7)])]⟩
def qO (a0:Zm):Int×Int×Int×Int×Zt→(Int×Int×Int×Int×Zt)⊕(Zt×Zt×Int)
 | (v1,v2,v3,v4,v5,v6,v7) =>
  (bif (decide ((v1:Int) < (a0.1.length:Int))) then
   (.inl ((v1+1),(if((a0.1.getD (toNat v1) default).1:Int) < v2 then(a0.1.getD (toNat v1) default).1 else v2),(if((a0.1.getD (toNat v1) default).2.1:Int) < v3 then(a0.1.getD (toNat v1) default).2.1 else v3),(if((a0.1.getD (toNat v1) default).2.2:Int) < v4 then(a0.1.getD (toNat v1) default).2.2 else v4),(if(v5:Int) < (a0.1.getD (toNat v1) default).1 then(a0.1.getD (toNat v1) default).1 else v5),(if(v6:Int) < (a0.1.getD (toNat v1) default).2.1 then(a0.1.getD (toNat v1) default).2.1 else v6),(if(v7:Int) < (a0.1.getD (toNat v1) default).2.2 then(a0.1.getD (toNat v1) default).2.2 else v7)))
  else
   (.inr ((v2,v3,v4),(v5,v6,v7),0)))
theorem bCo (a0:Zm)(l0_1:a0.1.length≤9223372036854775807)(l0_2:a0.2.length≤9223372036854775807) {cx:Cx} (hcx:cx.base=2):∀(n:Nat)(v1 v2 v3 v4 v5 v6 v7:Int),0≤v1→toNat ((a0.1.length:Int) - v1) < n→Aw.Good Tryz.prog none 9 (bodyPost Tryz.prog Tryz.f62 (RR cx (.t [(.a (k3 (aB (qO a0) n (v1,v2,v3,v4,v5,v6,v7)).1)),(.a (k3 (aB (qO a0) n (v1,v2,v3,v4,v5,v6,v7)).2.1)),(iv (aB (qO a0) n (v1,v2,v3,v4,v5,v6,v7)).2.2)]) [] [])) cx [] (.l aRy n::aRz) (aLf a0 v1 v2 v3 v4 v5 v6 v7):=by
 intro n
 induction n with
 | zero=>intro v1 v2 v3 v4 v5 v6 v7 hi hn;exact absurd hn (iG _)
 | succ n ih =>
   intro v1 v2 v3 v4 v5 v6 v7 hi hn
   refine aI ?_
   cases h0:(decide ((v1:Int) < (a0.1.length:Int))) with
   | true =>
    have q0:=bY h0
    have e:=Eq.refl (qO a0 (v1,v2,v3,v4,v5,v6,v7));conv at e=>rhs;simp only [qO,h0,aH]
    rw [aA e]
    refine ba [.d h0,.i v1 (a0.1.length),.L bL a0.1 v1 0 3] [] [2,3,24,25,26] [2,3] hcx (m:=n) aRy (aRz) (aLf a0 (W (v1+1)) (if((a0.1.getD (toNat v1) default).1:Int) < v2 then(a0.1.getD (toNat v1) default).1 else v2) (if((a0.1.getD (toNat v1) default).2.1:Int) < v3 then(a0.1.getD (toNat v1) default).2.1 else v3) (if((a0.1.getD (toNat v1) default).2.2:Int) < v4 then(a0.1.getD (toNat v1) default).2.2 else v4) (if(v5:Int) < (a0.1.getD (toNat v1) default).1 then(a0.1.getD (toNat v1) default).1 else v5) (if(v6:Int) < (a0.1.getD (toNat v1) default).2.1 then(a0.1.getD (toNat v1) default).2.1 else v6) (if(v7:Int) < (a0.1.getD (toNat v1) default).2.2 then(a0.1.getD (toNat v1) default).2.2 else v7)) (by kernel_rfl) ?_
    have z0:(W (v1+1))=(v1+1):=aD (by omega) (by omega)
    rw [z0]
    exact ih (v1+1) (if((a0.1.getD (toNat v1) default).1:Int) < v2 then(a0.1.getD (toNat v1) default).1 else v2) (if((a0.1.getD (toNat v1) default).2.1:Int) < v3 then(a0.1.getD (toNat v1) default).2.1 else v3) (if((a0.1.getD (toNat v1) default).2.2:Int) < v4 then(a0.1.getD (toNat v1) default).2.2 else v4) (if(v5:Int) < (a0.1.getD (toNat v1) default).1 then(a0.1.getD (toNat v1) default).1 else v5) (if(v6:Int) < (a0.1.getD (toNat v1) default).2.1 then(a0.1.getD (toNat v1) default).2.1 else v6) (if(v7:Int) < (a0.1.getD (toNat v1) default).2.2 then(a0.1.getD (toNat v1) default).2.2 else v7) (by(try simp only [Ls]);omega) (by(try simp only [Ls]);omega)
   | false =>
    have q0:=cF h0
    have e:=Eq.refl (qO a0 (v1,v2,v3,v4,v5,v6,v7));conv at e=>rhs;simp only [qO,h0,aH]
    rw [aF,e]
    exact rt [.d h0] [] [] hcx (by kernel_rfl)
def sQ (a0:Zm):Zt×Zt×Int :=
 (bif (((fB (a0.1,a0.2)):Int) != 0) then
  ((0,0,0),(0,0,0),(fB (a0.1,a0.2)))
 else
  (aB (qO a0) (toNat ((a0.1.length:Int) - 0)+1) (0,(a0.1.getD (toNat 0) default).1,(a0.1.getD (toNat 0) default).2.1,(a0.1.getD (toNat 0) default).2.2,(a0.1.getD (toNat 0) default).1,(a0.1.getD (toNat 0) default).2.1,(a0.1.getD (toNat 0) default).2.2)))
theorem C62 (a0:Zm)(l0_1:a0.1.length≤9223372036854775807)(l0_2:a0.2.length≤9223372036854775807):Con Tryz.prog 62 [(.a [(.s 0 0 a0.1.length 3),(.s 1 0 a0.2.length 3)])] [(.live false true (flat dT a0.1)),(.live false true (flat eZ a0.2))] (.t [(.a (k3 (sQ a0).1)),(.a (k3 (sQ a0).2.1)),(iv (sQ a0).2.2)]) []:=by
 refine aJ Tryz.func62 (by kernel_rfl) fun cx hcx=>?_
 try have hp1:1≤a0.1.length:=(oS h0).1
 let t0:List (St Tryz.prog):=[.c [0,1] (C35 (a0.1,a0.2) (by(try simp only [Lt]);omega) (by(try simp only [Lt]);omega))]
 cases h0:(((fB (a0.1,a0.2)):Int) != 0) with
 | true =>
  have q0:=bne_iff_ne.1 h0
  try have hp1:1≤a0.1.length:=(oS h0).1
  have e:=Eq.refl (sQ a0);conv at e=>rhs;simp only [sQ,h0,aH]
  rw [e]
  exact rt (t0++[.d h0]) [] [] hcx (by kernel_rfl)
 | false =>
  have q0:=bne_eq_false_iff_eq.1 h0
  try have hp1:1≤a0.1.length:=(oS h0).1
  have e:=Eq.refl (sQ a0);conv at e=>rhs;simp only [sQ,h0,aH]
  rw [e]
  refine en (t0++[.d h0,.i 0 (a0.1.length),.L bL a0.1 0 0 3,.i 0 (a0.1.length),.L bL a0.1 0 0 3]) [] [2,3,24,25,26] [3,4] hcx aRy (aRz) (aLf a0 0 ((a0.1.getD (toNat 0) default).1) ((a0.1.getD (toNat 0) default).2.1) ((a0.1.getD (toNat 0) default).2.2) ((a0.1.getD (toNat 0) default).1) ((a0.1.getD (toNat 0) default).2.1) ((a0.1.getD (toNat 0) default).2.2)) (toNat ((a0.1.length:Int) - 0)+1) (by kernel_rfl) ?_
  exact bCo a0 l0_1 l0_2 hcx (toNat ((a0.1.length:Int) - 0)+1) 0 ((a0.1.getD (toNat 0) default).1) ((a0.1.getD (toNat 0) default).2.1) ((a0.1.getD (toNat 0) default).2.2) ((a0.1.getD (toNat 0) default).1) ((a0.1.getD (toNat 0) default).2.1) ((a0.1.getD (toNat 0) default).2.2) (by(try simp only [Ls]);omega) (by(try simp only [Ls]);omega)
noncomputable def aR0:Code:=(aE [1,1,0,1] [] (aG Tryz.f57) []).1
noncomputable def aR1:List K:=(aE [1,1,0,1] [] (aG Tryz.f57) []).2
def aLg (a0:Zm)(v1c:List SV)(v1n:Nat)(v2:Int):LS:=⟨iH 19 [(3,(.s 2 0 v1n 1)),(10,(iv (((toNat (a0.2.length:Int)):Nat):Int))),(11,(iv v2))],[(.live false true (flat dT a0.1)),(.live false true (flat eZ a0.2)),(.live true true v1c)]⟩
def sR (a0:Zm):List (Int)×Int→(List (Int)×Int)⊕(List (Int))
 | (v1,v2) =>
  (bif (decide ((v2:Int) < (((toNat (a0.2.length:Int)):Nat):Int))) then
   (.inl ((v1.set (toNat v2) 1),(v2+1)))
  else
   (.inr v1))
theorem bCp (a0:Zm)(l0_1:a0.1.length≤9223372036854775807)(l0_2:a0.2.length≤9223372036854775807)(hn:a0.2.length≤96) {cx:Cx} (hcx:cx.base=2):∀(n:Nat)(v1:List (Int))(v2:Int),(0≤v2)∧(v1.length=a0.2.length)→toNat ((((toNat (a0.2.length:Int)):Nat):Int) - v2) < n→Aw.Good Tryz.prog none 9 (bodyPost Tryz.prog Tryz.f57 (RR cx (.s 2 0 (aB (sR a0) n (v1,v2)).length 1) [(.live true true (flat c3 (aB (sR a0) n (v1,v2))))] [])) cx [] (.l aR0 n::aR1) (aLg a0 (flat c3 v1) v1.length v2):=by
 intro n
 induction n with
 | zero=>intro v1 v2 hi hn;exact absurd hn (iG _)
 | succ n ih =>
   intro v1 v2 hi hn
   refine aI ?_
   cases h0:(decide ((v2:Int) < (((toNat (a0.2.length:Int)):Nat):Int))) with
   | true =>
    have q0:=bY h0
    have e:=Eq.refl (sR a0 (v1,v2));conv at e=>rhs;simp only [sR,h0,aH]
    rw [aA e]
    refine ba [.d h0,.i v2 (v1.length),.p (show((0+toNat v2*1)+1≤(flat c3 v1).length) from(jQ fU (by first | omega | (simp only [Lt];omega)) (o:=0) (Nb rfl)))] [] [3,10,11] [2] hcx (m:=n) aR0 (aR1) (aLg a0 (splice (flat c3 v1) (0+toNat v2*1) [(iv 1)]) (v1.length) (W (v2+1))) (by kernel_rfl) ?_
    have z0:(W (v2+1))=(v2+1):=aD (by omega) (by omega)
    have z1:(splice (flat c3 v1) (0+toNat v2*1) [(iv 1)])=flat c3 (v1.set (toNat v2) 1):=(eN fU (by first | omega | (simp only [Lt];omega)) (o:=0) (d:=default) (Nb rfl) rfl)
    have z2:v1.length=(v1.set (toNat v2) 1).length:=by simp
    rw [z0,z1,z2]
    exact ih (v1.set (toNat v2) 1) (v2+1) (by refine⟨?_,?_⟩<;>(try simp only [Ls])<;>first | omega | assumption | simp) (by(try simp only [Ls]);omega)
   | false =>
    have q0:=cF h0
    have e:=Eq.refl (sR a0 (v1,v2));conv at e=>rhs;simp only [sR,h0,aH]
    rw [aF,e]
    exact rt [.d h0] [] [2] hcx (by kernel_rfl)
def F57 (a0:Zm):List (Int) :=
 (aB (sR a0) (toNat ((((toNat (a0.2.length:Int)):Nat):Int) - 0)+1) ((List.replicate (toNat (a0.2.length:Int)) 0),0))
theorem C57 (a0:Zm)(l0_1:a0.1.length≤9223372036854775807)(l0_2:a0.2.length≤9223372036854775807)(hn:a0.2.length≤96):Con Tryz.prog 57 [(.a [(.s 0 0 a0.1.length 3),(.s 1 0 a0.2.length 3)])] [(.live false true (flat dT a0.1)),(.live false true (flat eZ a0.2))] (.s 2 0 (F57 a0).length 1) [(.live true true (flat c3 (F57 a0)))]:=by
 refine aJ Tryz.func57 (by kernel_rfl) fun cx hcx=>?_
 have e:=Eq.refl (F57 a0);conv at e=>rhs;simp only [F57]
 rw [e]
 refine en [.Z c3 0 [(iv 0)] (a0.2.length:Int) 8] [] [3,10,11] [3] hcx aR0 (aR1) (aLg a0 (flat c3 (List.replicate (toNat (a0.2.length:Int)) 0)) (toNat (a0.2.length:Int)) 0) (toNat ((((toNat (a0.2.length:Int)):Nat):Int) - 0)+1) (by kernel_rfl) ?_
 have q:=bCp a0 l0_1 l0_2 hn hcx (toNat ((((toNat (a0.2.length:Int)):Nat):Int) - 0)+1) (List.replicate (toNat (a0.2.length:Int)) 0) 0 (by refine⟨?_,?_⟩<;>(try simp only [Ls])<;>first | omega | assumption | simp) (by(try simp only [Ls]);omega)
 simp only [List.length_replicate] at q
 exact q
def F30 (a0:Zm)(a1:Int):Int×Int :=
 (bif (((fB (a0.1,a0.2)):Int) != 0) then
  (0,(fB (a0.1,a0.2)))
 else
  (bif (!(oT a1 0 2)) then
   (0,1)
  else
   ((W ((W ((a0.2.length:Int)*(a0.2.length:Int)))*(W ((W (1*2 ^ (min (toNat (W (2*a1))) 64)))+(W ((W (1*2 ^ (min (toNat (W (2*a1))) 64)))*(W (1*2 ^ (min (toNat (W (2*a1))) 64))))))))),0)))
theorem C30 (a0:Zm)(a1:Int)(l0_1:a0.1.length≤9223372036854775807)(l0_2:a0.2.length≤9223372036854775807):Con Tryz.prog 30 [(.a [(.s 0 0 a0.1.length 3),(.s 1 0 a0.2.length 3)]),(iv a1)] [(.live false true (flat dT a0.1)),(.live false true (flat eZ a0.2))] (.t (k2 (F30 a0 a1))) []:=by
 refine aJ Tryz.func30 (by kernel_rfl) fun cx hcx=>?_
 try have hw1:=qN h1
 let t0:List (St Tryz.prog):=[.c [0,1] (C35 (a0.1,a0.2) (by(try simp only [Lt]);omega) (by(try simp only [Lt]);omega))]
 cases h0:(((fB (a0.1,a0.2)):Int) != 0) with
 | true =>
  have q0:=bne_iff_ne.1 h0
  try have hw1:=qN h1
  have e:=Eq.refl (F30 a0 a1);conv at e=>rhs;simp only [F30,h0,aH]
  rw [e]
  exact rt (t0++[.d h0]) [] [] hcx (by kernel_rfl)
 | false =>
  have q0:=bne_eq_false_iff_eq.1 h0
  try have hw1:=qN h1
  let t1:List (St Tryz.prog):=(t0++[.d h0,.c [] (C55 a1 0 2)])
  cases h1:(!(oT a1 0 2)) with
  | true =>
   try have hw1:=qN h1
   have e:=Eq.refl (F30 a0 a1);conv at e=>rhs;simp only [F30,h0,h1,aH]
   rw [e]
   exact rt (t1++[.d h1]) [] [] hcx (by kernel_rfl)
  | false =>
   try have hw1:=qN h1
   have e:=Eq.refl (F30 a0 a1);conv at e=>rhs;simp only [F30,h0,h1,aH]
   rw [e]
   exact rt (t1++[.d h1,.p (show 0≤((W (2*a1)):Int) from by first | omega | (rw [aD]<;>omega) | exact eD _)]) [] [] hcx (by kernel_rfl)
noncomputable def aCn:Code:=(aE [1,1,0,1] [] (aG Tryz.f109) []).1
noncomputable def aCo:List K:=(aE [1,1,0,1] [] (aG Tryz.f109) []).2
def xQ (a0:List (Int))(v1 v2:Int):LS:=⟨iH 18 [(0,(.s 0 0 a0.length 1)),(3,(iv v1)),(4,(iv v2))],[(.live false true (flat c3 a0))]⟩
def kJ (a0:List (Int)):Int×Int→(Int×Int)⊕(Int)
 | (v1,v2) =>
  (bif (decide ((v2:Int) < (a0.length:Int))) then
   (.inl ((W (v1+(a0.getD (toNat v2) default))),(v2+1)))
  else
   (.inr v1))
theorem aR2 (a0:List (Int))(l0:a0.length≤9223372036854775807) {cx:Cx} (hcx:cx.base=1):∀(n:Nat)(v1 v2:Int),0≤v2→toNat ((a0.length:Int) - v2) < n→Aw.Good Tryz.prog none 9 (bodyPost Tryz.prog Tryz.f109 (RR cx (iv (aB (kJ a0) n (v1,v2))) [] [])) cx [] (.l aCn n::aCo) (xQ a0 v1 v2):=by
 intro n
 induction n with
 | zero=>intro v1 v2 hi hn;exact absurd hn (iG _)
 | succ n ih =>
   intro v1 v2 hi hn
   refine aI ?_
   cases h0:(decide ((v2:Int) < (a0.length:Int))) with
   | true =>
    have q0:=bY h0
    have e:=Eq.refl (kJ a0 (v1,v2));conv at e=>rhs;simp only [kJ,h0,aH]
    rw [aA e]
    refine ba [.d h0,.i v2 (a0.length),.L fU a0 v2 0 1] [] [0,3,4] [] hcx (m:=n) aCn (aCo) (xQ a0 (W (v1+(a0.getD (toNat v2) default))) (W (v2+1))) (by kernel_rfl) ?_
    have z0:(W (v2+1))=(v2+1):=aD (by omega) (by omega)
    rw [z0]
    exact ih (W (v1+(a0.getD (toNat v2) default))) (v2+1) (by(try simp only [Ls]);omega) (by(try simp only [Ls]);omega)
   | false =>
    have q0:=cF h0
    have e:=Eq.refl (kJ a0 (v1,v2));conv at e=>rhs;simp only [kJ,h0,aH]
    rw [aF,e]
    exact rt [.d h0] [] [] hcx (by kernel_rfl)
def cD (a0:List (Int)):Int :=
 (aB (kJ a0) (toNat ((a0.length:Int) - 0)+1) (0,0))
theorem aGs (a0:List (Int))(l0:a0.length≤9223372036854775807):Con Tryz.prog 109 [(.s 0 0 a0.length 1)] [(.live false true (flat c3 a0))] (iv (cD a0)) []:=by
 refine aJ Tryz.func109 (by kernel_rfl) fun cx hcx=>?_
 have e:=Eq.refl (cD a0);conv at e=>rhs;simp only [cD]
 rw [e]
 refine en [] [] [0,3,4] [] hcx aCn (aCo) (xQ a0 0 0) (toNat ((a0.length:Int) - 0)+1) (by kernel_rfl) ?_
 exact aR2 a0 l0 hcx (toNat ((a0.length:Int) - 0)+1) 0 0 (by(try simp only [Ls]);omega) (by(try simp only [Ls]);omega)
noncomputable def aCp:Code:=(aE [1,1,1,1,0,1] [] (aG Tryz.f151) []).1
noncomputable def aCq:List K:=(aE [1,1,1,1,0,1] [] (aG Tryz.f151) []).2
def xR (a0:Zm)(a1:List (Int))(v1:Int):LS:=⟨iH 33 [(1,(.s 2 0 a1.length 1)),(6,(iv v1))],[(.live false true (flat dT a0.1)),(.live false true (flat eZ a0.2)),(.live false true (flat c3 a1))]⟩
def fK (a0:Zm)(a1:List (Int)):Int→(Int)⊕(Int)
 | v1 =>
  (bif (decide ((v1:Int) < (a1.length:Int))) then
   (bif (!(F52 (a1.getD (toNat v1) default) 0 100)) then
    (.inr 1)
   else
    (.inl (v1+1)))
  else
   (bif (((cD a1):Int) == 0) then
    (.inr 11)
   else
    (.inr 0)))
theorem aR3 (a0:Zm)(a1:List (Int))(l0_1:a0.1.length≤9223372036854775807)(l0_2:a0.2.length≤9223372036854775807)(l1:a1.length≤9223372036854775807) {cx:Cx} (hcx:cx.base=3):∀(n:Nat)(v1:Int),0≤v1→toNat ((a1.length:Int) - v1) < n→Aw.Good Tryz.prog none 9 (bodyPost Tryz.prog Tryz.f151 (RR cx (iv (aB (fK a0 a1) n v1)) [] [])) cx [] (.l aCp n::aCq) (xR a0 a1 v1):=by
 intro n
 induction n with
 | zero=>intro v1 hi hn;exact absurd hn (iG _)
 | succ n ih =>
   intro v1 hi hn
   refine aI ?_
   cases h0:(decide ((v1:Int) < (a1.length:Int))) with
   | true =>
    have q0:=bY h0
    let t1:List (St Tryz.prog):=[.d h0,.i v1 (a1.length),.L fU a1 v1 0 1,.c [] (C52 (a1.getD (toNat v1) default) 0 100)]
    cases h1:(!(F52 (a1.getD (toNat v1) default) 0 100)) with
    | true =>
     have e:=Eq.refl (fK a0 a1 v1);conv at e=>rhs;simp only [fK,h0,h1,aH]
     rw [aF,e]
     exact rt (t1++[.d h1]) [] [] hcx (by kernel_rfl)
    | false =>
     have e:=Eq.refl (fK a0 a1 v1);conv at e=>rhs;simp only [fK,h0,h1,aH]
     rw [aA e]
     refine ba (t1++[.d h1]) [] [1,6] [] hcx (m:=n) aCp (aCq) (xR a0 a1 (W (v1+1))) (by kernel_rfl) ?_
     have z0:(W (v1+1))=(v1+1):=aD (by omega) (by omega)
     rw [z0]
     exact ih (v1+1) (by(try simp only [Ls]);omega) (by(try simp only [Ls]);omega)
   | false =>
    have q0:=cF h0
    let t1:List (St Tryz.prog):=[.d h0,.c [2] (aGs a1 (by omega))]
    cases h1:(((cD a1):Int) == 0) with
    | true =>
     have q1:=eq_of_beq h1
     have e:=Eq.refl (fK a0 a1 v1);conv at e=>rhs;simp only [fK,h0,h1,aH]
     rw [aF,e]
     exact rt (t1++[.d h1]) [] [] hcx (by kernel_rfl)
    | false =>
     have q1:=ne_of_beq_false h1
     have e:=Eq.refl (fK a0 a1 v1);conv at e=>rhs;simp only [fK,h0,h1,aH]
     rw [aF,e]
     exact rt (t1++[.d h1]) [] [] hcx (by kernel_rfl)
def jR (a0:Zm)(a1:List (Int)):Int :=
 (bif (((vU (a0.1,a0.2)):Int) != 0) then
  (vU (a0.1,a0.2))
 else
  (bif (((a1.length:Int):Int) != (a0.2.length:Int)) then
   1
  else
   (aB (fK a0 a1) (toNat ((a1.length:Int) - 0)+1) 0)))
theorem aYv (a0:Zm)(a1:List (Int))(l0_1:a0.1.length≤9223372036854775807)(l0_2:a0.2.length≤9223372036854775807)(l1:a1.length≤9223372036854775807):Con Tryz.prog 151 [(.a [(.s 0 0 a0.1.length 3),(.s 1 0 a0.2.length 3)]),(.s 2 0 a1.length 1)] [(.live false true (flat dT a0.1)),(.live false true (flat eZ a0.2)),(.live false true (flat c3 a1))] (iv (jR a0 a1)) []:=by
 refine aJ Tryz.func151 (by kernel_rfl) fun cx hcx=>?_
 let t0:List (St Tryz.prog):=[.c [0,1] (C50 (a0.1,a0.2) (by(try simp only [Lt]);omega) (by(try simp only [Lt]);omega))]
 cases h0:(((vU (a0.1,a0.2)):Int) != 0) with
 | true =>
  have q0:=bne_iff_ne.1 h0
  have e:=Eq.refl (jR a0 a1);conv at e=>rhs;simp only [jR,h0,aH]
  rw [e]
  exact rt (t0++[.d h0]) [] [] hcx (by kernel_rfl)
 | false =>
  have q0:=bne_eq_false_iff_eq.1 h0
  let t1:List (St Tryz.prog):=(t0++[.d h0])
  cases h1:(((a1.length:Int):Int) != (a0.2.length:Int)) with
  | true =>
   have q1:=bne_iff_ne.1 h1
   have e:=Eq.refl (jR a0 a1);conv at e=>rhs;simp only [jR,h0,h1,aH]
   rw [e]
   exact rt (t1++[.d h1]) [] [] hcx (by kernel_rfl)
  | false =>
   have q1:=bne_eq_false_iff_eq.1 h1
   have e:=Eq.refl (jR a0 a1);conv at e=>rhs;simp only [jR,h0,h1,aH]
   rw [e]
   refine en (t1++[.d h1]) [] [1,6] [] hcx aCp (aCq) (xR a0 a1 0) (toNat ((a1.length:Int) - 0)+1) (by kernel_rfl) ?_
   exact aR3 a0 a1 l0_1 l0_2 l1 hcx (toNat ((a1.length:Int) - 0)+1) 0 (by(try simp only [Ls]);omega) (by(try simp only [Ls]);omega)
def fN (a0:Zm)(a1:List (Int))(a2:Int):Int :=
 (bif (((jR (a0.1,a0.2) a1):Int) != 0) then
  (jR (a0.1,a0.2) a1)
 else
  (bif (!(F52 a2 0 2)) then
   1
  else
   0))
theorem aR4 (a0:Zm)(a1:List (Int))(a2:Int)(l0_1:a0.1.length≤9223372036854775807)(l0_2:a0.2.length≤9223372036854775807)(l1:a1.length≤9223372036854775807):Con Tryz.prog 133 [(.a [(.s 0 0 a0.1.length 3),(.s 1 0 a0.2.length 3)]),(.s 2 0 a1.length 1),(iv a2)] [(.live false true (flat dT a0.1)),(.live false true (flat eZ a0.2)),(.live false true (flat c3 a1))] (iv (fN a0 a1 a2)) []:=by
 refine aJ Tryz.func133 (by kernel_rfl) fun cx hcx=>?_
 let t0:List (St Tryz.prog):=[.c [0,1,2] (aYv (a0.1,a0.2) a1 (by(try simp only [Lt]);omega) (by(try simp only [Lt]);omega) (by omega))]
 cases h0:(((jR (a0.1,a0.2) a1):Int) != 0) with
 | true =>
  have q0:=bne_iff_ne.1 h0
  have e:=Eq.refl (fN a0 a1 a2);conv at e=>rhs;simp only [fN,h0,aH]
  rw [e]
  exact rt (t0++[.d h0]) [] [] hcx (by kernel_rfl)
 | false =>
  have q0:=bne_eq_false_iff_eq.1 h0
  let t1:List (St Tryz.prog):=(t0++[.d h0,.c [] (C52 a2 0 2)])
  cases h1:(!(F52 a2 0 2)) with
  | true =>
   have e:=Eq.refl (fN a0 a1 a2);conv at e=>rhs;simp only [fN,h0,h1,aH]
   rw [e]
   exact rt (t1++[.d h1]) [] [] hcx (by kernel_rfl)
  | false =>
   have e:=Eq.refl (fN a0 a1 a2);conv at e=>rhs;simp only [fN,h0,h1,aH]
   rw [e]
   exact rt (t1++[.d h1]) [] [] hcx (by kernel_rfl)
noncomputable def aLh:Code:=(aE [1,1,0,1] [] (aG Tryz.f134) []).1
noncomputable def aLi:List K:=(aE [1,1,0,1] [] (aG Tryz.f134) []).2
def aGt (a0:Zm)(v2c:List SV)(v2n:Nat)(v3:Int):LS:=⟨iH 41 [(1,(.p 2 0)),(3,(.s 3 0 v2n 9)),(4,(iv v3))],[(.live false true (flat dT a0.1)),(.live false true (flat eZ a0.2)),(.live true false [(.s 0 0 a0.1.length 3),(.s 1 0 a0.2.length 3)]),(.live true true v2c)]⟩
def oU (a0:Zm):(List (Zt×Zt×Zt))×Int→((List (Zt×Zt×Zt))×Int)⊕(List (Zt×Zt×Zt))
 | (v2,v3) =>
  (bif (decide ((v3:Int) < (a0.2.length:Int))) then
   (.inl ((v2++[((a0.1.getD (toNat (a0.2.getD (toNat v3) default).1) default),(a0.1.getD (toNat (a0.2.getD (toNat v3) default).2.1) default),(a0.1.getD (toNat (a0.2.getD (toNat v3) default).2.2) default))]),(v3+1)))
  else
   (.inr v2))
theorem aYw (a0:Zm)(l0_1:a0.1.length≤9223372036854775807)(l0_2:a0.2.length≤9223372036854775807)(hv:lZ a0 a0.2.length)(hn:a0.2.length≤96) {cx:Cx} (hcx:cx.base=2):∀(n:Nat)(v2:List (Zt×Zt×Zt))(v3:Int),(0≤v3)∧(v2.length=toNat v3)∧(v3≤a0.2.length)→toNat ((a0.2.length:Int) - v3) < n→Aw.Good Tryz.prog none 9 (bodyPost Tryz.prog Tryz.f134 (RR cx (.s 2 0 (aB (oU a0) n (v2,v3)).length 9) [(.live true true (flat dK (aB (oU a0) n (v2,v3))))] [])) cx [] (.l aLh n::aLi) (aGt a0 (flat dK v2) v2.length v3):=by
 intro n
 induction n with
 | zero=>intro v2 v3 hi hn;exact absurd hn (iG _)
 | succ n ih =>
   intro v2 v3 hi hn
   refine aI ?_
   have hf0:=aU4 hv v3
   cases h0:(decide ((v3:Int) < (a0.2.length:Int))) with
   | true =>
    have q0:=bY h0
    have e:=Eq.refl (oU a0 (v2,v3));conv at e=>rhs;simp only [oU,h0,aH]
    rw [aA e]
    refine ba [.d h0,.i v3 (a0.2.length),.L aW a0.2 v3 0 3,.i 0 3 (by decide),.i ((a0.2.getD (toNat v3) default).1) (a0.1.length),.L bL a0.1 (a0.2.getD (toNat v3) default).1 0 3,.i 1 3 (by decide),.i ((a0.2.getD (toNat v3) default).2.1) (a0.1.length),.L bL a0.1 (a0.2.getD (toNat v3) default).2.1 0 3,.i 2 3 (by decide),.i ((a0.2.getD (toNat v3) default).2.2) (a0.1.length),.L bL a0.1 (a0.2.getD (toNat v3) default).2.2 0 3,.p (show((flat dK v2).length=v2.length*9∧v2.length+1≤2 ^ 40∧(v2.length+1)*72≤2 ^ 47) from gG cV (by omega) (by omega))] [] [1,3,4] [2,6] hcx (m:=n) aLh (aLi) (aGt a0 (flat dK v2++[(iv (a0.1.getD (toNat (a0.2.getD (toNat v3) default).1) default).1),(iv (a0.1.getD (toNat (a0.2.getD (toNat v3) default).1) default).2.1),(iv (a0.1.getD (toNat (a0.2.getD (toNat v3) default).1) default).2.2),(iv (a0.1.getD (toNat (a0.2.getD (toNat v3) default).2.1) default).1),(iv (a0.1.getD (toNat (a0.2.getD (toNat v3) default).2.1) default).2.1),(iv (a0.1.getD (toNat (a0.2.getD (toNat v3) default).2.1) default).2.2),(iv (a0.1.getD (toNat (a0.2.getD (toNat v3) default).2.2) default).1),(iv (a0.1.getD (toNat (a0.2.getD (toNat v3) default).2.2) default).2.1),(iv (a0.1.getD (toNat (a0.2.getD (toNat v3) default).2.2) default).2.2)]) (v2.length+1) (W (v3+1))) (by kernel_rfl) ?_
    have z0:(W (v3+1))=(v3+1):=aD (by omega) (by omega)
    have z1:(flat dK v2++[(iv (a0.1.getD (toNat (a0.2.getD (toNat v3) default).1) default).1),(iv (a0.1.getD (toNat (a0.2.getD (toNat v3) default).1) default).2.1),(iv (a0.1.getD (toNat (a0.2.getD (toNat v3) default).1) default).2.2),(iv (a0.1.getD (toNat (a0.2.getD (toNat v3) default).2.1) default).1),(iv (a0.1.getD (toNat (a0.2.getD (toNat v3) default).2.1) default).2.1),(iv (a0.1.getD (toNat (a0.2.getD (toNat v3) default).2.1) default).2.2),(iv (a0.1.getD (toNat (a0.2.getD (toNat v3) default).2.2) default).1),(iv (a0.1.getD (toNat (a0.2.getD (toNat v3) default).2.2) default).2.1),(iv (a0.1.getD (toNat (a0.2.getD (toNat v3) default).2.2) default).2.2)])=(flat dK (v2++[((a0.1.getD (toNat (a0.2.getD (toNat v3) default).1) default),(a0.1.getD (toNat (a0.2.getD (toNat v3) default).2.1) default),(a0.1.getD (toNat (a0.2.getD (toNat v3) default).2.2) default))])):=(bN (c:=dK) (l:=v2) (m:=[((a0.1.getD (toNat (a0.2.getD (toNat v3) default).1) default),(a0.1.getD (toNat (a0.2.getD (toNat v3) default).2.1) default),(a0.1.getD (toNat (a0.2.getD (toNat v3) default).2.2) default))])).symm
    have z2:(v2.length+1)=(v2++[((a0.1.getD (toNat (a0.2.getD (toNat v3) default).1) default),(a0.1.getD (toNat (a0.2.getD (toNat v3) default).2.1) default),(a0.1.getD (toNat (a0.2.getD (toNat v3) default).2.2) default))]).length:=eH v2 [((a0.1.getD (toNat (a0.2.getD (toNat v3) default).1) default),(a0.1.getD (toNat (a0.2.getD (toNat v3) default).2.1) default),(a0.1.getD (toNat (a0.2.getD (toNat v3) default).2.2) default))] rfl
    rw [z0,z1,z2]
    exact ih (v2++[((a0.1.getD (toNat (a0.2.getD (toNat v3) default).1) default),(a0.1.getD (toNat (a0.2.getD (toNat v3) default).2.1) default),(a0.1.getD (toNat (a0.2.getD (toNat v3) default).2.2) default))]) (v3+1) (by refine⟨?_,?_,?_⟩<;>(try simp only [Ls])<;>first | omega | assumption | simp) (by(try simp only [Ls]);omega)
   | false =>
    have q0:=cF h0
    have e:=Eq.refl (oU a0 (v2,v3));conv at e=>rhs;simp only [oU,h0,aH]
    rw [aF,e]
    exact rt [.d h0] [] [3] hcx (by kernel_rfl)
def aN (a0:Zm):List (Zt×Zt×Zt) :=
 (aB (oU a0) (toNat ((a0.2.length:Int) - 0)+1) (([]:List (Zt×Zt×Zt)),0))
theorem bCq (a0:Zm)(l0_1:a0.1.length≤9223372036854775807)(l0_2:a0.2.length≤9223372036854775807)(hv:lZ a0 a0.2.length)(hn:a0.2.length≤96):Con Tryz.prog 134 [(.a [(.s 0 0 a0.1.length 3),(.s 1 0 a0.2.length 3)])] [(.live false true (flat dT a0.1)),(.live false true (flat eZ a0.2))] (.s 2 0 (aN a0).length 9) [(.live true true (flat dK (aN a0)))]:=by
 refine aJ Tryz.func134 (by kernel_rfl) fun cx hcx=>?_
 have e:=Eq.refl (aN a0);conv at e=>rhs;simp only [aN]
 rw [e]
 refine en [] [.slot 3 9] [1,3,4] [2,3] hcx aLh (aLi) (aGt a0 (flat dK ([]:List (Zt×Zt×Zt))) 0 0) (toNat ((a0.2.length:Int) - 0)+1) (by kernel_rfl) ?_
 exact aYw a0 l0_1 l0_2 hv hn hcx (toNat ((a0.2.length:Int) - 0)+1) ([]:List (Zt×Zt×Zt)) 0 (by refine⟨?_,?_,?_⟩<;>(try simp only [Ls])<;>first | omega | assumption | simp) (by(try simp only [Ls]);omega)
def aCr (a0:Int):Int×Int :=
 (bif (decide ((a0:Int) > 1099511627776)) then
  (0,4)
 else
  (a0,0))
theorem aYx (a0:Int):Con Tryz.prog 108 [(iv a0)] [] (.t (k2 (aCr a0))) []:=by
 refine aJ Tryz.func108 (by kernel_rfl) fun cx hcx=>?_
 cases h0:(decide ((a0:Int) > 1099511627776)) with
 | true =>
  have q0:=bY h0
  have e:=Eq.refl (aCr a0);conv at e=>rhs;simp only [aCr,h0,aH]
  rw [e]
  exact rt [.d h0] [] [] hcx (by kernel_rfl)
 | false =>
  have q0:=cF h0
  have e:=Eq.refl (aCr a0);conv at e=>rhs;simp only [aCr,h0,aH]
  rw [e]
  exact rt [.d h0] [] [] hcx (by kernel_rfl)
noncomputable def aR5:Code:=(aE [1,1,1,1,1,0,1] [] (aG Tryz.f87) []).1
noncomputable def aR6:List K:=(aE [1,1,1,1,1,0,1] [] (aG Tryz.f87) []).2
def aLj (a0:Zm)(a1:Zt)(v1 v2:Int):LS:=⟨iH 43 [(2,(.p 2 0)),(3,(.p 3 0)),(7,(iv v1)),(8,(iv v2))],[(.live false true (flat dT a0.1)),(.live false true (flat eZ a0.2)),(.live true false [(.s 0 0 a0.1.length 3),(.s 1 0 a0.2.length 3)]),(.live true false (k3 a1))]⟩
def sS (a0:Zm)(a1:Zt):Int×Int→(Int×Int)⊕(Int×Int)
 | (v1,v2) =>
  (bif (decide ((v2:Int) < (a0.1.length:Int))) then
   (.inl ((iL v1 (aOi (aKu (a0.1.getD (toNat v2) default) a1))),(v2+1)))
  else
   (.inr ((tR v1).1.2,(tR v1).2)))
theorem bCr (a0:Zm)(a1:Zt)(l0_1:a0.1.length≤9223372036854775807)(l0_2:a0.2.length≤9223372036854775807) {cx:Cx} (hcx:cx.base=2):∀(n:Nat)(v1 v2:Int),0≤v2→toNat ((a0.1.length:Int) - v2) < n→Aw.Good Tryz.prog none 9 (bodyPost Tryz.prog Tryz.f87 (RR cx (.t (k2 (aB (sS a0 a1) n (v1,v2)))) [] [])) cx [] (.l aR5 n::aR6) (aLj a0 a1 v1 v2):=by
 intro n
 induction n with
 | zero=>intro v1 v2 hi hn;exact absurd hn (iG _)
 | succ n ih =>
   intro v1 v2 hi hn
   refine aI ?_
   cases h0:(decide ((v2:Int) < (a0.1.length:Int))) with
   | true =>
    have q0:=bY h0
    have e:=Eq.refl (sS a0 a1 (v1,v2));conv at e=>rhs;simp only [sS,h0,aH]
    rw [aA e]
    refine ba [.d h0,.i v2 (a0.1.length),.L bL a0.1 v2 0 3,.c [] (bEz (a0.1.getD (toNat v2) default) a1),.c [] (bEy (aKu (a0.1.getD (toNat v2) default) a1))] [] [2,3,7,8] [2,3] hcx (m:=n) aR5 (aR6) (aLj a0 a1 (iL v1 (aOi (aKu (a0.1.getD (toNat v2) default) a1))) (W (v2+1))) (by kernel_rfl) ?_
    have z0:(W (v2+1))=(v2+1):=aD (by omega) (by omega)
    rw [z0]
    exact ih (iL v1 (aOi (aKu (a0.1.getD (toNat v2) default) a1))) (v2+1) (by(try simp only [Ls]);omega) (by(try simp only [Ls]);omega)
   | false =>
    have q0:=cF h0
    have e:=Eq.refl (sS a0 a1 (v1,v2));conv at e=>rhs;simp only [sS,h0,aH]
    rw [aF,e]
    exact rt [.d h0,.c [] (bE4 v1)] [] [] hcx (by kernel_rfl)
def F87 (a0:Zm)(a1:Zt):Int×Int :=
 (bif (((vU (a0.1,a0.2)):Int) != 0) then
  (0,(vU (a0.1,a0.2)))
 else
  (bif (!(oQ a1 256)) then
   (0,1)
  else
   (aB (sS a0 a1) (toNat ((a0.1.length:Int) - 0)+1) (0,0))))
theorem C87 (a0:Zm)(a1:Zt)(l0_1:a0.1.length≤9223372036854775807)(l0_2:a0.2.length≤9223372036854775807):Con Tryz.prog 87 [(.a [(.s 0 0 a0.1.length 3),(.s 1 0 a0.2.length 3)]),(.a (k3 a1))] [(.live false true (flat dT a0.1)),(.live false true (flat eZ a0.2))] (.t (k2 (F87 a0 a1))) []:=by
 refine aJ Tryz.func87 (by kernel_rfl) fun cx hcx=>?_
 let t0:List (St Tryz.prog):=[.c [0,1] (C50 (a0.1,a0.2) (by(try simp only [Lt]);omega) (by(try simp only [Lt]);omega))]
 cases h0:(((vU (a0.1,a0.2)):Int) != 0) with
 | true =>
  have q0:=bne_iff_ne.1 h0
  have e:=Eq.refl (F87 a0 a1);conv at e=>rhs;simp only [F87,h0,aH]
  rw [e]
  exact rt (t0++[.d h0]) [] [] hcx (by kernel_rfl)
 | false =>
  have q0:=bne_eq_false_iff_eq.1 h0
  let t1:List (St Tryz.prog):=(t0++[.d h0,.c [] (bEx a1 256)])
  cases h1:(!(oQ a1 256)) with
  | true =>
   have e:=Eq.refl (F87 a0 a1);conv at e=>rhs;simp only [F87,h0,h1,aH]
   rw [e]
   exact rt (t1++[.d h1]) [] [] hcx (by kernel_rfl)
  | false =>
   have e:=Eq.refl (F87 a0 a1);conv at e=>rhs;simp only [F87,h0,h1,aH]
   rw [e]
   refine en (t1++[.d h1]) [] [2,3,7,8] [2,3] hcx aR5 (aR6) (aLj a0 a1 0 0) (toNat ((a0.1.length:Int) - 0)+1) (by kernel_rfl) ?_
   exact bCr a0 a1 l0_1 l0_2 hcx (toNat ((a0.1.length:Int) - 0)+1) 0 0 (by(try simp only [Ls]);omega) (by(try simp only [Ls]);omega)
noncomputable def aR7:Code:=(aE [1,1,0,1] [] (aG Tryz.f88) []).1
noncomputable def aR8:List K:=(aE [1,1,0,1] [] (aG Tryz.f88) []).2
def aLk (a0:Zm)(v1 v2 v3 v4 v5 v6 v7:Int):LS:=⟨iH 78 [(1,(.p 2 0)),(2,(.p 3 0)),(3,(.p 4 0)),(4,(.p 5 0)),(5,(iv v1))],[(.live false true (flat dT a0.1)),(.live false true (flat eZ a0.2)),(.live true false [(.s 0 0 a0.1.length 3),(.s 1 0 a0.2.length 3)]),(.live true false [(iv 0),(iv 0),(iv 0)]),(.live true false [(iv v2),(iv v3),(iv v4)]),(.live true false [(iv v5),(iv v6),(iv v7)])]⟩
def vV (a0:Zm):Int×Int×Int×Int×Zt→(Int×Int×Int×Int×Zt)⊕Zt
 | (v1,v2,v3,v4,v5,v6,v7) =>
  (bif (decide ((v1:Int) < (a0.1.length:Int))) then
   (.inl ((v1+1),(pL v2 (a0.1.getD (toNat v1) default).1),(pL v3 (a0.1.getD (toNat v1) default).2.1),(pL v4 (a0.1.getD (toNat v1) default).2.2),(iL v5 (a0.1.getD (toNat v1) default).1),(iL v6 (a0.1.getD (toNat v1) default).2.1),(iL v7 (a0.1.getD (toNat v1) default).2.2)))
  else
   (.inr ((Int.fdiv (W (v2+v5)) (2 ^ (min (toNat 1) 64))),(Int.fdiv (W (v3+v6)) (2 ^ (min (toNat 1) 64))),(Int.fdiv (W (v4+v7)) (2 ^ (min (toNat 1) 64))))))
theorem bCs (a0:Zm)(l0_1:a0.1.length≤9223372036854775807)(l0_2:a0.2.length≤9223372036854775807)(hp:1≤a0.1.length) {cx:Cx} (hcx:cx.base=2):∀(n:Nat)(v1 v2 v3 v4 v5 v6 v7:Int),0≤v1→toNat ((a0.1.length:Int) - v1) < n→Aw.Good Tryz.prog none 9 (bodyPost Tryz.prog Tryz.f88 (RR cx (.a (k3 (aB (vV a0) n (v1,v2,v3,v4,v5,v6,v7)))) [] [])) cx [] (.l aR7 n::aR8) (aLk a0 v1 v2 v3 v4 v5 v6 v7):=by
 intro n
 induction n with
 | zero=>intro v1 v2 v3 v4 v5 v6 v7 hi hn;exact absurd hn (iG _)
 | succ n ih =>
   intro v1 v2 v3 v4 v5 v6 v7 hi hn
   refine aI ?_
   cases h0:(decide ((v1:Int) < (a0.1.length:Int))) with
   | true =>
    have q0:=bY h0
    have e:=Eq.refl (vV a0 (v1,v2,v3,v4,v5,v6,v7));conv at e=>rhs;simp only [vV,h0,aH]
    rw [aA e]
    refine ba [.d h0,.i v1 (a0.1.length),.L bL a0.1 v1 0 3] [] [1,2,3,4,5] [2,3,4,5] hcx (m:=n) aR7 (aR8) (aLk a0 (W (v1+1)) (pL v2 (a0.1.getD (toNat v1) default).1) (pL v3 (a0.1.getD (toNat v1) default).2.1) (pL v4 (a0.1.getD (toNat v1) default).2.2) (iL v5 (a0.1.getD (toNat v1) default).1) (iL v6 (a0.1.getD (toNat v1) default).2.1) (iL v7 (a0.1.getD (toNat v1) default).2.2)) (by kernel_rfl) ?_
    have z0:(W (v1+1))=(v1+1):=aD (by omega) (by omega)
    rw [z0]
    exact ih (v1+1) (pL v2 (a0.1.getD (toNat v1) default).1) (pL v3 (a0.1.getD (toNat v1) default).2.1) (pL v4 (a0.1.getD (toNat v1) default).2.2) (iL v5 (a0.1.getD (toNat v1) default).1) (iL v6 (a0.1.getD (toNat v1) default).2.1) (iL v7 (a0.1.getD (toNat v1) default).2.2) (by(try simp only [Ls]);omega) (by(try simp only [Ls]);omega)
   | false =>
    have q0:=cF h0
    have e:=Eq.refl (vV a0 (v1,v2,v3,v4,v5,v6,v7));conv at e=>rhs;simp only [vV,h0,aH]
    rw [aF,e]
    exact rt [.d h0,.p (show 0≤(1:Int) from by decide),.p (show 0≤(1:Int) from by decide),.p (show 0≤(1:Int) from by decide)] [] [] hcx (by kernel_rfl)
def F88 (a0:Zm):Zt :=
 (aB (vV a0) (toNat ((a0.1.length:Int) - 1)+1) (1,(a0.1.getD (toNat 0) default).1,(a0.1.getD (toNat 0) default).2.1,(a0.1.getD (toNat 0) default).2.2,(a0.1.getD (toNat 0) default).1,(a0.1.getD (toNat 0) default).2.1,(a0.1.getD (toNat 0) default).2.2))
theorem C88 (a0:Zm)(l0_1:a0.1.length≤9223372036854775807)(l0_2:a0.2.length≤9223372036854775807)(hp:1≤a0.1.length):Con Tryz.prog 88 [(.a [(.s 0 0 a0.1.length 3),(.s 1 0 a0.2.length 3)])] [(.live false true (flat dT a0.1)),(.live false true (flat eZ a0.2))] (.a (k3 (F88 a0))) []:=by
 refine aJ Tryz.func88 (by kernel_rfl) fun cx hcx=>?_
 have e:=Eq.refl (F88 a0);conv at e=>rhs;simp only [F88]
 rw [e]
 refine en [.i 0 (a0.1.length),.L bL a0.1 0 0 3,.i 0 (a0.1.length),.L bL a0.1 0 0 3] [] [1,2,3,4,5] [2,3,4,5] hcx aR7 (aR8) (aLk a0 1 ((a0.1.getD (toNat 0) default).1) ((a0.1.getD (toNat 0) default).2.1) ((a0.1.getD (toNat 0) default).2.2) ((a0.1.getD (toNat 0) default).1) ((a0.1.getD (toNat 0) default).2.1) ((a0.1.getD (toNat 0) default).2.2)) (toNat ((a0.1.length:Int) - 1)+1) (by kernel_rfl) ?_
 exact bCs a0 l0_1 l0_2 hp hcx (toNat ((a0.1.length:Int) - 1)+1) 1 ((a0.1.getD (toNat 0) default).1) ((a0.1.getD (toNat 0) default).2.1) ((a0.1.getD (toNat 0) default).2.2) ((a0.1.getD (toNat 0) default).1) ((a0.1.getD (toNat 0) default).2.1) ((a0.1.getD (toNat 0) default).2.2) (by(try simp only [Ls]);omega) (by(try simp only [Ls]);omega)
noncomputable def aR9:Code:=(aE [1,1,1,1,1,0,1] [] (aG Tryz.f27) []).1
noncomputable def aSa:List K:=(aE [1,1,1,1,1,0,1] [] (aG Tryz.f27) []).2
def aLl (a0:Zm)(a1:Int)(v1 v2 v3:Int):LS:=⟨iH 38 [(1,(iv a1)),(2,(.p 2 0)),(7,(iv v1)),(8,(iv v2)),(9,(iv v3))],[(.live false true (flat dT a0.1)),(.live false true (flat eZ a0.2)),(.live true false [(.s 0 0 a0.1.length 3),(.s 1 0 a0.2.length 3)])]⟩
def aEs (a0:Zm)(a1:Int):Zt→Zt⊕(Int×Int)
 | (v1,v2,v3) =>
  (bif (decide ((v3:Int) < a1)) then
   (.inl ((W (v1*4)),(W (v2*16)),(v3+1)))
  else
   (.inr ((W ((W ((a0.2.length:Int)*(a0.2.length:Int)))*(W (v1+v2)))),0)))
theorem bCt (a0:Zm)(a1:Int)(l0_1:a0.1.length≤9223372036854775807)(l0_2:a0.2.length≤9223372036854775807) {cx:Cx} (hcx:cx.base=2):∀(n:Nat)(v1 v2 v3:Int),(0≤v3)∧(a1≤2)→toNat (a1 - v3) < n→Aw.Good Tryz.prog none 9 (bodyPost Tryz.prog Tryz.f27 (RR cx (.t (k2 (aB (aEs a0 a1) n (v1,v2,v3)))) [] [])) cx [] (.l aR9 n::aSa) (aLl a0 a1 v1 v2 v3):=by
 intro n
 induction n with
 | zero=>intro v1 v2 v3 hi hn;exact absurd hn (iG _)
 | succ n ih =>
   intro v1 v2 v3 hi hn
   refine aI ?_
   cases h0:(decide ((v3:Int) < a1)) with
   | true =>
    have q0:=bY h0
    have e:=Eq.refl (aEs a0 a1 (v1,v2,v3));conv at e=>rhs;simp only [aEs,h0,aH]
    rw [aA e]
    refine ba [.d h0] [] [1,2,7,8,9] [2] hcx (m:=n) aR9 (aSa) (aLl a0 a1 (W (v1*4)) (W (v2*16)) (W (v3+1))) (by kernel_rfl) ?_
    have z0:(W (v3+1))=(v3+1):=aD (by omega) (by omega)
    rw [z0]
    exact ih (W (v1*4)) (W (v2*16)) (v3+1) (by refine⟨?_,?_⟩<;>(try simp only [Ls])<;>first | omega | assumption | simp) (by(try simp only [Ls]);omega)
   | false =>
    have q0:=cF h0
    have e:=Eq.refl (aEs a0 a1 (v1,v2,v3));conv at e=>rhs;simp only [aEs,h0,aH]
    rw [aF,e]
    exact rt [.d h0] [] [] hcx (by kernel_rfl)
def F27 (a0:Zm)(a1:Int):Int×Int :=
 (bif (((vU (a0.1,a0.2)):Int) != 0) then
  (0,(vU (a0.1,a0.2)))
 else
  (bif (!(F52 a1 0 2)) then
   (0,1)
  else
   (aB (aEs a0 a1) (toNat (a1 - 0)+1) (1,1,0))))
theorem C27 (a0:Zm)(a1:Int)(l0_1:a0.1.length≤9223372036854775807)(l0_2:a0.2.length≤9223372036854775807):Con Tryz.prog 27 [(.a [(.s 0 0 a0.1.length 3),(.s 1 0 a0.2.length 3)]),(iv a1)] [(.live false true (flat dT a0.1)),(.live false true (flat eZ a0.2))] (.t (k2 (F27 a0 a1))) []:=by
 refine aJ Tryz.func27 (by kernel_rfl) fun cx hcx=>?_
 try have hw1:=aCk h1
 let t0:List (St Tryz.prog):=[.c [0,1] (C50 (a0.1,a0.2) (by(try simp only [Lt]);omega) (by(try simp only [Lt]);omega))]
 cases h0:(((vU (a0.1,a0.2)):Int) != 0) with
 | true =>
  have q0:=bne_iff_ne.1 h0
  try have hw1:=aCk h1
  have e:=Eq.refl (F27 a0 a1);conv at e=>rhs;simp only [F27,h0,aH]
  rw [e]
  exact rt (t0++[.d h0]) [] [] hcx (by kernel_rfl)
 | false =>
  have q0:=bne_eq_false_iff_eq.1 h0
  try have hw1:=aCk h1
  let t1:List (St Tryz.prog):=(t0++[.d h0,.c [] (C52 a1 0 2)])
  cases h1:(!(F52 a1 0 2)) with
  | true =>
   try have hw1:=aCk h1
   have e:=Eq.refl (F27 a0 a1);conv at e=>rhs;simp only [F27,h0,h1,aH]
   rw [e]
   exact rt (t1++[.d h1]) [] [] hcx (by kernel_rfl)
  | false =>
   try have hw1:=aCk h1
   have e:=Eq.refl (F27 a0 a1);conv at e=>rhs;simp only [F27,h0,h1,aH]
   rw [e]
   refine en (t1++[.d h1]) [] [1,2,7,8,9] [2] hcx aR9 (aSa) (aLl a0 a1 1 1 0) (toNat (a1 - 0)+1) (by kernel_rfl) ?_
   exact bCt a0 a1 l0_1 l0_2 hcx (toNat (a1 - 0)+1) 1 1 0 (by refine⟨?_,?_⟩<;>(try simp only [Ls])<;>first | omega | assumption | simp) (by(try simp only [Ls]);omega)
def oC:Zm :=
 (([(1,0,0),((-1),0,0),(0,1,0),(0,(-1),0),(0,0,1),(0,0,(-1))]:List Zt),([(0,2,4),(2,1,4),(1,3,4),(3,0,4),(2,0,5),(1,2,5),(3,1,5),(0,3,5)]:List Zt))
theorem C29:Con Tryz.prog 29 [] [] (.a [(.s 0 0 oC.1.length 3),(.s 1 0 oC.2.length 3)]) [(.live true true (flat dT oC.1)),(.live true true (flat eZ oC.2))]:=by
 refine aJ Tryz.func29 (by kernel_rfl) fun cx hcx=>?_
 have e:=Eq.refl oC;conv at e=>rhs;simp only [oC]
 rw [e]
 exact rt [] [.sym 1 true,.sym 2 true] [1,2] hcx (by kernel_rfl)
def F9 (a0:Zm)(a1:Int):Bool :=
 (bif (decide (((a0.1.length:Int):Int) > 200)) then
  true
 else
  (bif (decide (((a0.2.length:Int):Int) > 200)) then
   true
  else
   (bif (((F27 (a0.1,a0.2) a1).2:Int) == 0) then
    (decide (((F27 (a0.1,a0.2) a1).1:Int) > 20000))
   else
    false)))
theorem C9 (a0:Zm)(a1:Int)(l0_1:a0.1.length≤9223372036854775807)(l0_2:a0.2.length≤9223372036854775807):Con Tryz.prog 9 [(.a [(.s 0 0 a0.1.length 3),(.s 1 0 a0.2.length 3)]),(iv a1)] [(.live false true (flat dT a0.1)),(.live false true (flat eZ a0.2))] (.v (.bool (F9 a0 a1))) []:=by
 refine aJ Tryz.func9 (by kernel_rfl) fun cx hcx=>?_
 cases h0:(decide (((a0.1.length:Int):Int) > 200)) with
 | true =>
  have q0:=bY h0
  have e:=Eq.refl (F9 a0 a1);conv at e=>rhs;simp only [F9,h0,aH]
  rw [e]
  exact rt [.d h0] [] [] hcx (by kernel_rfl)
 | false =>
  have q0:=cF h0
  let t1:List (St Tryz.prog):=[.d h0]
  cases h1:(decide (((a0.2.length:Int):Int) > 200)) with
  | true =>
   have q1:=bY h1
   have e:=Eq.refl (F9 a0 a1);conv at e=>rhs;simp only [F9,h0,h1,aH]
   rw [e]
   exact rt (t1++[.d h1]) [] [] hcx (by kernel_rfl)
  | false =>
   have q1:=cF h1
   let t2:List (St Tryz.prog):=(t1++[.d h1,.c [0,1] (C27 (a0.1,a0.2) a1 (by(try simp only [Lt]);omega) (by(try simp only [Lt]);omega))])
   cases h2:(((F27 (a0.1,a0.2) a1).2:Int) == 0) with
   | true =>
    have q2:=eq_of_beq h2
    have e:=Eq.refl (F9 a0 a1);conv at e=>rhs;simp only [F9,h0,h1,h2,aH]
    rw [e]
    exact rt (t2++[.d h2]) [] [] hcx (by kernel_rfl)
   | false =>
    have q2:=ne_of_beq_false h2
    have e:=Eq.refl (F9 a0 a1);conv at e=>rhs;simp only [F9,h0,h1,h2,aH]
    rw [e]
    exact rt (t2++[.d h2]) [] [] hcx (by kernel_rfl)
theorem aYy {s n:Int} (hs:s=1∨s=2∨s=4∨s=8)(h1:1≤n)(h2:n≤1099511627776):1≤(zW s n).1:=by
 unfold zW
 rw [if_neg (by omega)]
 unfold inv
 have hN:1099511627776≤NN s:=by rcases hs with rfl | rfl | rfl | rfl<;>decide
 have hb:=aB6 hs
 obtain⟨q1,q2,q3⟩:=nE hb.1 h1
 have hq:1≤NN s / n:=Int.le_ediv_of_mul_le (by omega) (by omega)
 have hr:=xF (n:=NN s / n) q1 (by omega)
 exact hr.ge (by omega) (by omega)
theorem aNa {p c q:PN} {d:Int} (hp:vp p=0)(hd:0≤d∧d≤3)(hc:c∈aR d.toNat p):1≤fa3 c q:=by
 obtain⟨g1,g2,g3⟩:=aKm c q
 obtain⟨hb,hn⟩:=gE hp
 have h:=aQp c q.1 g1 g2 g3
 rw [aKp hb hd hc] at h
 rcases Int.lt_or_le (fa3 c q) 1 with h' | h'
 · have h0:0≤fa3 c q:=Int.le_trans (vF _) g1
   have:fa3 c q=0:=by omega
   rw [this] at h;omega
 · exact h'
theorem aLm {α:Type} {g:α→Int}:∀(l:List α),(∀c∈l,1≤g c)→(l.length:Int)≤(l.map g).sum
 | [],_=>by simp
 | c::l,h=>by
   have h1:=h c List.mem_cons_self
   have h2:=aLm l (fun c hc=>h c (List.mem_cons_of_mem _ hc))
   simp only [List.map_cons,List.sum_cons,List.length_cons];omega
theorem aYz {v n:Int} (hn:1≤n)(h:n≤v):1≤v / n:=Int.le_ediv_of_mul_le (by omega) (by omega)
theorem aU7 {p q:PN} {d:Int} (hp:vp p=0)(hq:bdP 5000 q)(hd:0≤d∧d≤3):1≤(hG p q d).1:=by
 have hlen:=mM hd p
 have hc:=kP d
 unfold hG avg
 rw [vR]
 simp only [Int.zero_add]
 refine aYz (by omega) ?_
 rw [←hlen]
 refine aLm _ (fun c hcm=>?_)
 have hcb:=(oP (gE hp).1 hd hcm).mono (show(512:Int)≤5000 by omega)
 have:=aKl hcb hq
 exact aYy (qK d) (aNa hp hd hcm) (by omega)
def okP (a:Int×Int):Prop:=1≤a.1∧a.1≤a.2∧a.2≤536870913
theorem aNb {p q:PN} {d:Int} (hp:vp p=0)(hq:bdP 5000 q)(hd:0≤d∧d≤3):okP (hG p q d):=by
 have h1:=aU7 hp hq hd
 have h2:=aQy (q:=q) hp hd
 unfold okE at h2
 exact⟨h1,h2.2.1,h2.2.2⟩
theorem xS {p q:PN} {d:Int} (h:pk p q d=0):uH p q d=(hG p (lI (sc d) q) d,0):=by
 unfold uH
 rw [aAk,h]
 obtain⟨h1,h2,h3⟩:=vL h
 have hs:=aMz d
 have hq:=(gE h2).1
 have hq':=hq.mono (show(64:Int)≤4096 by omega)
 have hd:0≤d∧d≤3:=by omega
 have e1:=aQq h1 (aGd hs hq) hd
 unfold lI at e1 ⊢
 rw [aX3 hd,aOh hs hq'.1,aOh hs hq'.2.1,aOh hs hq'.2.2,e1];rfl
theorem kK {p q:PN} {d:Int} (h:pk p q d=0):(uH p q d).2=0∧okP (uH p q d).1:=by
 rw [xS h]
 obtain⟨h1,h2,h3⟩:=vL h
 exact⟨rfl,aNb h1 (aGd (aMz d) (gE h2).1) (by omega)⟩
theorem oW {p q:PN} {d:Int} (h:pk p q d=0):(pQ p q d).2=0∧okP (pQ p q d).1:=by
 rw [aCb]
 obtain⟨h1,h2,h3⟩:=vL h
 have hd:0≤d∧d≤3:=by omega
 unfold aGh
 rw [if_pos h]
 refine⟨rfl,?_⟩
 have hl:=aCa (p:=p) (q:=q) hd
 have hc:=kP d
 have hpos:∀a∈tN p q d,okP a:=by
   intro a ha
   obtain⟨b,hb,rfl⟩:=List.mem_map.1 ha
   exact aNb h1 ((oP (gE h2).1 hd hb).mono (by omega)) hd
 have hs1:sc d*sc d≤((tN p q d).map (·.1)).sum:=by rw [←hl];exact aLm _ (fun a ha=>(hpos a ha).1)
 have key:∀l:List (Int×Int),(∀a∈l,okP a)→(l.map (·.1)).sum≤(l.map (·.2)).sum∧(l.map (·.2)).sum≤536870913*(l.length:Nat):=by
   intro l
   induction l with
   | nil=>intro _;simp
   | cons c l ih =>
     intro h
     obtain⟨a1,a2,a3⟩:=h c List.mem_cons_self
     have h2:=ih (fun c hc=>h c (List.mem_cons_of_mem _ hc))
     simp only [List.map_cons,List.sum_cons,List.length_cons];omega
 have hk:=key _ hpos
 rw [hl] at hk
 rw [rI]
 unfold avg okP
 simp only [Int.zero_add]
 generalize ((tN p q d).map (·.1)).sum=x at *
 generalize ((tN p q d).map (·.2)).sum=y at *
 rcases hc with e | e | e | e<;>rw [e] at hs1 hk ⊢<;>omega
theorem aLn (m:ME):∀(n i:Nat)(v:List (P3×Bool)),m.1.length - i < n→aB (eP m) n (v,(i:Int))=0→∀j,i≤j→j < m.1.length→bd 64 (m.1.getD j default):=by
 intro n
 induction n with
 | zero=>intro i v h;omega
 | succ n ih =>
   intro i v hn h j h1 h2
   have hw:((i:Nat):Int) < (m.1.length:Int):=by omega
   cases hr:F36 (m.1.getD i default) 64 with
   | false =>
     have e1:eP m (v,(i:Int))=.inr 1:=by
       simp only [eP];rw [bW hw,cond_true,uJ,hr];rfl
     rw [aO e1] at h;exact absurd h (by decide)
   | true =>
     cases hg:aV v (m.1.getD i default) false with
     | true =>
       have e1:eP m (v,(i:Int))=.inr 1:=by
         simp only [eP];rw [bW hw,cond_true,uJ,hr,hg];rfl
       rw [aO e1] at h;exact absurd h (by decide)
     | false =>
       have e1:eP m (v,(i:Int))=.inl (cI v (m.1.getD i default) true,((i+1:Nat):Int)):=by
         simp only [eP];rw [bW hw,cond_true,uJ,hr,hg];rfl
       rw [aA e1] at h
       by_cases hj:j=i
       · subst hj
         classical
         rw [lU] at hr
         exact bY hr
       · exact ih (i+1) _ (by omega) h j (by omega) h2
theorem aU8 {m:ME} (h:fB m=0):∀j,j < m.1.length→bd 64 (m.1.getD j default):=by
 obtain⟨_,_,_,h4,_⟩:=iF h
 exact fun j hj=>aLn m _ 0 [] (by omega) h4 j (Nat.zero_le _) hj
theorem aGu {m:ME} (h:fB m=0):∀c∈m.2,vp (eO m c)=0:=by
 intro c hc
 obtain⟨i,hi⟩:=List.getElem?_of_mem hc
 obtain⟨hlt,_⟩:=List.getElem?_eq_some_iff.1 hi
 have hpt:=aU8 h
 obtain⟨h64,_,_,_,hf⟩:=iF h
 have hfc:=hf (i:Int) (by omega) (by omega)
 rw [bB hi] at hfc
 have hin:inF m.1.length c:=mN (m:=m) (by rw [hfc];rfl) h64
 have hb:bdP 64 (eO m c):=⟨hpt _ (by have:=hin.1;omega),hpt _ (by have:=hin.2.1;omega),hpt _ (by have:=hin.2.2;omega)⟩
 unfold F69 at hfc
 have hw:W ((m.1.length:Int) - 1)=(m.1.length:Int) - 1:=aD (by omega) (by omega)
 have fr:∀x:Int,0≤x∧x < (m.1.length:Int)→(!qF x 0 (W ((m.1.length:Int) - 1)))=false:=by
   intro x hx
   unfold qF
   rw [hw,bW hx.1,bW (show x≤(m.1.length:Int) - 1 by omega)];rfl
 rw [fr _ hin.1,fr _ hin.2.1,fr _ hin.2.2,cond_false,cond_false,cond_false,show nR (eO (m.1,m.2) c)=lG (eO m c) from aWf hb] at hfc
 unfold vp
 rw [if_pos hb]
 generalize lG (eO m c)=q at hfc ⊢
 by_cases hz:q.1=0∧q.2.1=0∧q.2.2=0
 · rw [hz.1,hz.2.1,hz.2.2] at hfc;exact absurd hfc (by decide)
 · rw [if_neg hz]
theorem mA {m:ME} (h:fB m=0) {d:Int} (hd:0≤d∧d≤2) {p q:PN} (hp:p∈m.2.map (eO m))(hq:q∈m.2.map (eO m)):pk p q d=0:=by
 obtain⟨a,ha,rfl⟩:=List.mem_map.1 hp
 obtain⟨b,hb,rfl⟩:=List.mem_map.1 hq
 unfold pk
 rw [if_pos (aGu h a ha),if_pos (aGu h b hb),if_pos hd]
theorem aY0 {α:Type} {n:Nat} {t:List (List α)} (h:∀r∈t,r.length=n)(j:Int):(0≤j∧j < (t.length:Int))→(t.getD (toNat j) default).length=n:=fun g=>by
 have hlt:toNat j < t.length:=by omega
 rw [fO,List.getElem?_eq_getElem hlt,Option.getD_some]
 exact h _ (List.getElem_mem hlt)
theorem aY1 {α:Type} {n:Nat} {t:List (List α)} (h:∀r∈t,r.length≤n)(j:Int):(0≤j∧j < (t.length:Int))→(t.getD (toNat j) default).length≤n:=fun g=>by
 have hlt:toNat j < t.length:=by omega
 rw [fO,List.getElem?_eq_getElem hlt,Option.getD_some]
 exact h _ (List.getElem_mem hlt)
noncomputable def xT:Code:=(aE [1,1,0,1] [] (aG Tryz.f96) []).1
noncomputable def xU:List K:=(aE [1,1,0,1] [] (aG Tryz.f96) []).2
def tT (a0:List (Int×Int))(a1:List (Int))(v2c:List SV)(v2n:Nat)(v3:Int):LS:=⟨iH 40 [(1,(.s 1 0 a1.length 1)),(4,(.p 2 0)),(6,(.s 3 0 v2n 2)),(11,(.s 0 0 a0.length 2)),(12,(iv (a0.length:Int))),(13,(iv v3))],[(.live false true (flat cQ a0)),(.live false true (flat c3 a1)),(.live true false [(iv 0),(iv 0)]),(.live true true v2c)]⟩
def dV (a0:List (Int×Int))(a1:List (Int)):(List (Int×Int))×Int→((List (Int×Int))×Int)⊕((Int×Int)×Int)
 | (v2,v3) =>
  (bif (decide ((v3:Int) < (a0.length:Int))) then
   (bif (((nW (a0.getD (toNat v3) default) (a1.getD (toNat v3) default)).2:Int) != 0) then
    (.inr ((0,0),(nW (a0.getD (toNat v3) default) (a1.getD (toNat v3) default)).2))
   else
    (.inl ((v2++[(nW (a0.getD (toNat v3) default) (a1.getD (toNat v3) default)).1]),(v3+1))))
  else
   (.inr ((kM v2).1,(kM v2).2)))
theorem aOm (a0:List (Int×Int))(a1:List (Int))(l0:a0.length≤9223372036854775807)(l1:a1.length≤9223372036854775807)(hl:a0.length≤a1.length)(hn:a0.length≤9216) {cx:Cx} (hcx:cx.base=2):∀(n:Nat)(v2:List (Int×Int))(v3:Int),(0≤v3)∧(v2.length=toNat v3)∧(v3≤a0.length)→toNat ((a0.length:Int) - v3) < n→Aw.Good Tryz.prog none 9 (bodyPost Tryz.prog Tryz.f96 (RR cx (.t [(.a (k2 (aB (dV a0 a1) n (v2,v3)).1)),(iv (aB (dV a0 a1) n (v2,v3)).2)]) [] [])) cx [] (.l xT n::xU) (tT a0 a1 (flat cQ v2) v2.length v3):=by
 intro n
 induction n with
 | zero=>intro v2 v3 hi hn;exact absurd hn (iG _)
 | succ n ih =>
   intro v2 v3 hi hn
   refine aI ?_
   cases h0:(decide ((v3:Int) < (a0.length:Int))) with
   | true =>
    have q0:=bY h0
    let t1:List (St Tryz.prog):=[.d h0,.i v3 (a0.length),.L cA a0 v3 0 2,.i v3 (a1.length),.L fU a1 v3 0 1,.c [] (C17 (a0.getD (toNat v3) default) (a1.getD (toNat v3) default))]
    cases h1:(((nW (a0.getD (toNat v3) default) (a1.getD (toNat v3) default)).2:Int) != 0) with
    | true =>
     have q1:=bne_iff_ne.1 h1
     have e:=Eq.refl (dV a0 a1 (v2,v3));conv at e=>rhs;simp only [dV,h0,h1,aH]
     rw [aF,e]
     exact rt (t1++[.d h1]) [] [] hcx (by kernel_rfl)
    | false =>
     have q1:=bne_eq_false_iff_eq.1 h1
     have e:=Eq.refl (dV a0 a1 (v2,v3));conv at e=>rhs;simp only [dV,h0,h1,aH]
     rw [aA e]
     refine ba (t1++[.d h1,.p (show((flat cQ v2).length=v2.length*2∧v2.length+1≤2 ^ 40∧(v2.length+1)*16≤2 ^ 47) from gG cA (by omega) (by omega))]) [] [1,4,6,11,12,13] [2,7] hcx (m:=n) xT (xU) (tT a0 a1 (flat cQ v2++(k2 (nW (a0.getD (toNat v3) default) (a1.getD (toNat v3) default)).1)) (v2.length+1) (W (v3+1))) (by kernel_rfl) ?_
     have z0:(W (v3+1))=(v3+1):=aD (by omega) (by omega)
     have z1:(flat cQ v2++(k2 (nW (a0.getD (toNat v3) default) (a1.getD (toNat v3) default)).1))=(flat cQ (v2++[(nW (a0.getD (toNat v3) default) (a1.getD (toNat v3) default)).1])):=(bN (c:=cQ) (l:=v2) (m:=[(nW (a0.getD (toNat v3) default) (a1.getD (toNat v3) default)).1])).symm
     have z2:(v2.length+1)=(v2++[(nW (a0.getD (toNat v3) default) (a1.getD (toNat v3) default)).1]).length:=eH v2 [(nW (a0.getD (toNat v3) default) (a1.getD (toNat v3) default)).1] rfl
     rw [z0,z1,z2]
     exact ih (v2++[(nW (a0.getD (toNat v3) default) (a1.getD (toNat v3) default)).1]) (v3+1) (by refine⟨?_,?_,?_⟩<;>(try simp only [Ls])<;>first | omega | assumption | simp) (by(try simp only [Ls]);omega)
   | false =>
    have q0:=cF h0
    have e:=Eq.refl (dV a0 a1 (v2,v3));conv at e=>rhs;simp only [dV,h0,aH]
    rw [aF,e]
    exact rt [.d h0,.c [3] (aXj v2 (by omega))] [] [] hcx (by kernel_rfl)
def dC (a0:List (Int×Int))(a1:List (Int)):(Int×Int)×Int :=
 (aB (dV a0 a1) (toNat ((a0.length:Int) - 0)+1) (([]:List (Int×Int)),0))
theorem aNc (a0:List (Int×Int))(a1:List (Int))(l0:a0.length≤9223372036854775807)(l1:a1.length≤9223372036854775807)(hl:a0.length≤a1.length)(hn:a0.length≤9216):Con Tryz.prog 96 [(.s 0 0 a0.length 2),(.s 1 0 a1.length 1)] [(.live false true (flat cQ a0)),(.live false true (flat c3 a1))] (.t [(.a (k2 (dC a0 a1).1)),(iv (dC a0 a1).2)]) []:=by
 refine aJ Tryz.func96 (by kernel_rfl) fun cx hcx=>?_
 have e:=Eq.refl (dC a0 a1);conv at e=>rhs;simp only [dC]
 rw [e]
 refine en [] [.slot 6 2] [1,4,6,11,12,13] [2,3] hcx xT (xU) (tT a0 a1 (flat cQ ([]:List (Int×Int))) 0 0) (toNat ((a0.length:Int) - 0)+1) (by kernel_rfl) ?_
 exact aOm a0 a1 l0 l1 hl hn hcx (toNat ((a0.length:Int) - 0)+1) ([]:List (Int×Int)) 0 (by refine⟨?_,?_,?_⟩<;>(try simp only [Ls])<;>first | omega | assumption | simp) (by(try simp only [Ls]);omega)
def fA (x:List (Int×Int)):List SV:=[(.d (flat cQ x) x.length 2)]
theorem vW (x:List (Int×Int)):(fA x).length=1:=rfl
noncomputable def xV:Code:=(aE [1,1,1,1,0,1,0,1,1,0,1,1,0,1] [0] (aG Tryz.f59) []).1
noncomputable def xW (m0:Nat):List K:=(aE [1,1,1,1,0,1,0,1,1,0,1,1,0,1] [m0] (aG Tryz.f59) []).2
def tU (a0:Zm)(a1:Int)(v10c:List SV)(v10n:Nat)(v11c:List SV)(v11n:Nat)(v12 v13 v14 v15 v16 v17 v18 v19 v20 v21 v22:Int):LS:=⟨iH 60 [(1,(iv a1)),(2,(.v (.func (.func 60) #[] #[]))),(8,(.s 2 0 (bF (a0.1,a0.2)).1.length 9)),(10,(.s 3 0 v10n 1)),(12,(.p 4 0)),(13,(.s 5 0 v11n 2)),(26,(.s 2 0 (bF (a0.1,a0.2)).1.length 9)),(27,(iv (((bF (a0.1,a0.2)).1.length:Nat):Int))),(28,(iv v12)),(32,(.s 2 0 (bF (a0.1,a0.2)).1.length 9)),(33,(iv (((bF (a0.1,a0.2)).1.length:Nat):Int))),(34,(iv v13))],[(.live false true (flat dT a0.1)),(.live false true (flat eZ a0.2)),(.live true true (flat dK (bF (a0.1,a0.2)).1)),(.live true true v10c),(.live true false [(iv v14),(iv v15),(iv v16),(iv v17),(iv v18),(iv v19),(iv v20),(iv v21),(iv v22)]),(.live true true v11c)]⟩
def eS (a0:Zm)(a1:Int):(List (List (Int×Int)))×(List (Int×Int))×Int×Int×Int×Int×Int×Int×Int×Int×Zt→((List (List (Int×Int)))×(List (Int×Int))×Int×Int×Int×Int×Int×Int×Int×Int×Zt)⊕(((List (List (Int×Int)))×Int)⊕((List (List (Int×Int)))×Int))
 | (v10,v11,v12,v13,v14,v15,v16,v17,v18,v19,v20,v21,v22) =>
  (bif (decide ((v13:Int) < (((bF (a0.1,a0.2)).1.length:Nat):Int))) then
   (bif (((uH ((bF (a0.1,a0.2)).1.getD (toNat v13) default) ((v14,v15,v16),(v17,v18,v19),(v20,v21,v22)) a1).2:Int) != 0) then
    (.inr (.inr (([]:List (List (Int×Int))),(uH ((bF (a0.1,a0.2)).1.getD (toNat v13) default) ((v14,v15,v16),(v17,v18,v19),(v20,v21,v22)) a1).2)))
   else
    (.inl (v10,(v11++[(uH ((bF (a0.1,a0.2)).1.getD (toNat v13) default) ((v14,v15,v16),(v17,v18,v19),(v20,v21,v22)) a1).1]),v12,(v13+1),v14,v15,v16,v17,v18,v19,v20,v21,v22)))
  else
   (.inr (.inl ((v10++[v11]),(v12+1)))))
noncomputable def rN:Code:=(aE [1,1,1,1,0,1] [] (aG Tryz.f59) []).1
noncomputable def rO:List K:=(aE [1,1,1,1,0,1] [] (aG Tryz.f59) []).2
def oX (a0:Zm)(a1:Int)(v8c:List SV)(v8n:Nat)(v9:Int):LS:=⟨iH 60 [(1,(iv a1)),(2,(.v (.func (.func 60) #[] #[]))),(8,(.s 2 0 (bF (a0.1,a0.2)).1.length 9)),(10,(.s 3 0 v8n 1)),(26,(.s 2 0 (bF (a0.1,a0.2)).1.length 9)),(27,(iv (((bF (a0.1,a0.2)).1.length:Nat):Int))),(28,(iv v9))],[(.live false true (flat dT a0.1)),(.live false true (flat eZ a0.2)),(.live true true (flat dK (bF (a0.1,a0.2)).1)),(.live true true v8c)]⟩
def dA (a0:Zm)(a1:Int):(List (List (Int×Int)))×Int→((List (List (Int×Int)))×Int)⊕((List (List (Int×Int)))×Int)
 | (v8,v9) =>
  (bif (decide ((v9:Int) < (((bF (a0.1,a0.2)).1.length:Nat):Int))) then
   (aB (eS a0 a1) (toNat ((((bF (a0.1,a0.2)).1.length:Nat):Int) - 0)+1) (v8,([]:List (Int×Int)),v9,0,((bF (a0.1,a0.2)).1.getD (toNat v9) default).1.1,((bF (a0.1,a0.2)).1.getD (toNat v9) default).1.2.1,((bF (a0.1,a0.2)).1.getD (toNat v9) default).1.2.2,((bF (a0.1,a0.2)).1.getD (toNat v9) default).2.1.1,((bF (a0.1,a0.2)).1.getD (toNat v9) default).2.1.2.1,((bF (a0.1,a0.2)).1.getD (toNat v9) default).2.1.2.2,((bF (a0.1,a0.2)).1.getD (toNat v9) default).2.2.1,((bF (a0.1,a0.2)).1.getD (toNat v9) default).2.2.2.1,((bF (a0.1,a0.2)).1.getD (toNat v9) default).2.2.2.2))
  else
   (.inr (v8,0)))
theorem aOn (a0:Zm)(a1:Int)(l0_1:a0.1.length≤9223372036854775807)(l0_2:a0.2.length≤9223372036854775807) {cx:Cx} (hcx:cx.base=2)
   (n0:Nat) (g0:∀(v8:List (List (Int×Int))) (v9:Int),(0≤v9)∧(v8.length=toNat v9)∧(v9≤(bF (a0.1,a0.2)).1.length)→toNat ((((bF (a0.1,a0.2)).1.length:Nat):Int) - v9) < n0→Aw.Good Tryz.prog none 9 (bodyPost Tryz.prog Tryz.f59 (RR cx (.t [(.s 2 0 (aB (dA a0 a1) n0 (v8,v9)).1.length 1),(iv (aB (dA a0 a1) n0 (v8,v9)).2)]) [(.live true true (flat fA (aB (dA a0 a1) n0 (v8,v9)).1))] [])) cx [] (.l rN n0::rO) (oX a0 a1 (flat fA v8) v8.length v9)):∀(n:Nat) (v10:List (List (Int×Int))) (v11:List (Int×Int)) (v12 v13 v14 v15 v16 v17 v18 v19 v20 v21 v22:Int),(0≤v13)∧(v11.length=toNat v13)∧(v13≤(bF (a0.1,a0.2)).1.length)∧(v10.length=toNat v12)∧(0≤v12)∧(v12 < (bF (a0.1,a0.2)).1.length)∧((0≤v12))∧((v10.length=toNat v12))∧((v12≤(bF (a0.1,a0.2)).1.length))∧(v12 < (((bF (a0.1,a0.2)).1.length:Nat):Int))∧(toNat ((((bF (a0.1,a0.2)).1.length:Nat):Int) - v12) < n0+1)→toNat ((((bF (a0.1,a0.2)).1.length:Nat):Int) - v13) < n→Aw.Good Tryz.prog none 9 (bodyPost Tryz.prog Tryz.f59 (RR cx (.t [(.s 2 0 (iY (dA a0 a1) n0 (aB (eS a0 a1) n (v10,v11,v12,v13,v14,v15,v16,v17,v18,v19,v20,v21,v22))).1.length 1),(iv (iY (dA a0 a1) n0 (aB (eS a0 a1) n (v10,v11,v12,v13,v14,v15,v16,v17,v18,v19,v20,v21,v22))).2)]) [(.live true true (flat fA (iY (dA a0 a1) n0 (aB (eS a0 a1) n (v10,v11,v12,v13,v14,v15,v16,v17,v18,v19,v20,v21,v22))).1))] [])) cx [] (.l xV n::xW n0) (tU a0 a1 (flat fA v10) v10.length (flat cQ v11) v11.length v12 v13 v14 v15 v16 v17 v18 v19 v20 v21 v22):=by
 intro n
 induction n with
 | zero=>intro v10 v11 v12 v13 v14 v15 v16 v17 v18 v19 v20 v21 v22 hi hn;exact absurd hn (iG _)
 | succ n ih =>
   intro v10 v11 v12 v13 v14 v15 v16 v17 v18 v19 v20 v21 v22 hi hn
   refine aI ?_
   have hpl:=rL (a0.1,a0.2)
   cases h0:(decide ((v13:Int) < (((bF (a0.1,a0.2)).1.length:Nat):Int))) with
   | true =>
    have q0:=bY h0
    let t1:List (St Tryz.prog):=[.d h0,.i v13 ((bF (a0.1,a0.2)).1.length),.L cV (bF (a0.1,a0.2)).1 v13 0 9,.c [] (C60 ((bF (a0.1,a0.2)).1.getD (toNat v13) default) ((v14,v15,v16),(v17,v18,v19),(v20,v21,v22)) a1)]
    cases h1:(((uH ((bF (a0.1,a0.2)).1.getD (toNat v13) default) ((v14,v15,v16),(v17,v18,v19),(v20,v21,v22)) a1).2:Int) != 0) with
    | true =>
     have q1:=bne_iff_ne.1 h1
     have e:=Eq.refl (eS a0 a1 (v10,v11,v12,v13,v14,v15,v16,v17,v18,v19,v20,v21,v22));conv at e=>rhs;simp only [eS,h0,h1,aH]
     rw [aF,e]
     exact rt (t1++[.d h1]) [.slot 6 1] [8] hcx (by kernel_rfl)
    | false =>
     have q1:=bne_eq_false_iff_eq.1 h1
     have e:=Eq.refl (eS a0 a1 (v10,v11,v12,v13,v14,v15,v16,v17,v18,v19,v20,v21,v22));conv at e=>rhs;simp only [eS,h0,h1,aH]
     rw [aA e]
     refine ba (t1++[.d h1,.p (show((flat cQ v11).length=v11.length*2∧v11.length+1≤2 ^ 40∧(v11.length+1)*16≤2 ^ 47) from gG cA (by omega) (by omega))]) [] [1,2,8,10,12,13,26,27,28,32,33,34] [2,3,4,9] hcx (m:=n) xV (xW n0) (tU a0 a1 (flat fA v10) (v10.length) (flat cQ v11++(k2 (uH ((bF (a0.1,a0.2)).1.getD (toNat v13) default) ((v14,v15,v16),(v17,v18,v19),(v20,v21,v22)) a1).1)) (v11.length+1) v12 (W (v13+1)) v14 v15 v16 v17 v18 v19 v20 v21 v22) (by kernel_rfl) ?_
     have z0:(W (v13+1))=(v13+1):=aD (by omega) (by omega)
     have z1:(flat cQ v11++(k2 (uH ((bF (a0.1,a0.2)).1.getD (toNat v13) default) ((v14,v15,v16),(v17,v18,v19),(v20,v21,v22)) a1).1))=(flat cQ (v11++[(uH ((bF (a0.1,a0.2)).1.getD (toNat v13) default) ((v14,v15,v16),(v17,v18,v19),(v20,v21,v22)) a1).1])):=(bN (c:=cQ) (l:=v11) (m:=[(uH ((bF (a0.1,a0.2)).1.getD (toNat v13) default) ((v14,v15,v16),(v17,v18,v19),(v20,v21,v22)) a1).1])).symm
     have z2:(v11.length+1)=(v11++[(uH ((bF (a0.1,a0.2)).1.getD (toNat v13) default) ((v14,v15,v16),(v17,v18,v19),(v20,v21,v22)) a1).1]).length:=eH v11 [(uH ((bF (a0.1,a0.2)).1.getD (toNat v13) default) ((v14,v15,v16),(v17,v18,v19),(v20,v21,v22)) a1).1] rfl
     rw [z0,z1,z2]
     exact ih v10 (v11++[(uH ((bF (a0.1,a0.2)).1.getD (toNat v13) default) ((v14,v15,v16),(v17,v18,v19),(v20,v21,v22)) a1).1]) v12 (v13+1) v14 v15 v16 v17 v18 v19 v20 v21 v22 (by refine⟨?_,?_,?_,?_,?_,?_,?_,?_,?_,?_,?_⟩<;>(try simp only [Ls])<;>first | omega | assumption | exact hi.2.1 | exact hi.2.2.1 | exact hi.2.2.2.1 | exact hi.2.2.2.2.1 | exact hi.2.2.2.2.2.1 | exact hi.2.2.2.2.2.2.1 | exact hi.2.2.2.2.2.2.2.1 | exact hi.2.2.2.2.2.2.2.2.1 | exact hi.2.2.2.2.2.2.2.2.2.1 | exact hi.2.2.2.2.2.2.2.2.2.2.1 | simp) (by(try simp only [Ls]);omega)
   | false =>
    have q0:=cF h0
    have e:=Eq.refl (eS a0 a1 (v10,v11,v12,v13,v14,v15,v16,v17,v18,v19,v20,v21,v22));conv at e=>rhs;simp only [eS,h0,aH]
    rw [aF,e]
    refine ba [.d h0,.p (show((flat cQ v11)).length=v11.length*2 from by simp [aEr cA]),.p (show((flat fA v10).length=v10.length*1∧v10.length+1≤2 ^ 40∧(v10.length+1)*24≤2 ^ 47) from gG vW (by omega) (by omega))] [] [1,2,8,10,26,27,28] [2,7] hcx (m:=n0) rN (rO) (oX a0 a1 (flat fA v10++[(.d (flat cQ v11) v11.length 2)]) (v10.length+1) (W (v12+1))) (by kernel_rfl) ?_
    have z0:(W (v12+1))=(v12+1):=aD (by omega) (by omega)
    have z1:(flat fA v10++[(.d (flat cQ v11) v11.length 2)])=(flat fA (v10++[v11])):=(bN (c:=fA) (l:=v10) (m:=[v11])).symm
    have z2:(v10.length+1)=(v10++[v11]).length:=eH v10 [v11] rfl
    rw [z0,z1,z2]
    exact g0 (v10++[v11]) (v12+1) (by refine⟨?_,?_,?_⟩<;>(try simp only [Ls])<;>first | omega | assumption | simp) (by(try simp only [Ls]);omega)
theorem aOo (a0:Zm)(a1:Int)(l0_1:a0.1.length≤9223372036854775807)(l0_2:a0.2.length≤9223372036854775807) {cx:Cx} (hcx:cx.base=2):∀(n:Nat)(v8:List (List (Int×Int)))(v9:Int),(0≤v9)∧(v8.length=toNat v9)∧(v9≤(bF (a0.1,a0.2)).1.length)→toNat ((((bF (a0.1,a0.2)).1.length:Nat):Int) - v9) < n→Aw.Good Tryz.prog none 9 (bodyPost Tryz.prog Tryz.f59 (RR cx (.t [(.s 2 0 (aB (dA a0 a1) n (v8,v9)).1.length 1),(iv (aB (dA a0 a1) n (v8,v9)).2)]) [(.live true true (flat fA (aB (dA a0 a1) n (v8,v9)).1))] [])) cx [] (.l rN n::rO) (oX a0 a1 (flat fA v8) v8.length v9):=by
 intro n
 induction n with
 | zero=>intro v8 v9 hi hn;exact absurd hn (iG _)
 | succ n ih =>
   intro v8 v9 hi hn
   refine aI ?_
   have hpl:=rL (a0.1,a0.2)
   cases h0:(decide ((v9:Int) < (((bF (a0.1,a0.2)).1.length:Nat):Int))) with
   | true =>
    have q0:=bY h0
    have e:=Eq.refl (dA a0 a1 (v8,v9));conv at e=>rhs;simp only [dA,h0,aH]
    rw [aF,e]
    refine en [.d h0,.i v9 ((bF (a0.1,a0.2)).1.length),.L cV (bF (a0.1,a0.2)).1 v9 0 9] [.slot 13 2] [1,2,8,10,12,13,26,27,28,32,33,34] [2,3,4,5] hcx xV (xW n) (tU a0 a1 (flat fA v8) (v8.length) (flat cQ ([]:List (Int×Int))) 0 v9 0 (((bF (a0.1,a0.2)).1.getD (toNat v9) default).1.1) (((bF (a0.1,a0.2)).1.getD (toNat v9) default).1.2.1) (((bF (a0.1,a0.2)).1.getD (toNat v9) default).1.2.2) (((bF (a0.1,a0.2)).1.getD (toNat v9) default).2.1.1) (((bF (a0.1,a0.2)).1.getD (toNat v9) default).2.1.2.1) (((bF (a0.1,a0.2)).1.getD (toNat v9) default).2.1.2.2) (((bF (a0.1,a0.2)).1.getD (toNat v9) default).2.2.1) (((bF (a0.1,a0.2)).1.getD (toNat v9) default).2.2.2.1) (((bF (a0.1,a0.2)).1.getD (toNat v9) default).2.2.2.2)) (toNat ((((bF (a0.1,a0.2)).1.length:Nat):Int) - 0)+1) (by kernel_rfl) ?_
    exact aOn a0 a1 l0_1 l0_2 hcx n ih (toNat ((((bF (a0.1,a0.2)).1.length:Nat):Int) - 0)+1) v8 ([]:List (Int×Int)) v9 0 (((bF (a0.1,a0.2)).1.getD (toNat v9) default).1.1) (((bF (a0.1,a0.2)).1.getD (toNat v9) default).1.2.1) (((bF (a0.1,a0.2)).1.getD (toNat v9) default).1.2.2) (((bF (a0.1,a0.2)).1.getD (toNat v9) default).2.1.1) (((bF (a0.1,a0.2)).1.getD (toNat v9) default).2.1.2.1) (((bF (a0.1,a0.2)).1.getD (toNat v9) default).2.1.2.2) (((bF (a0.1,a0.2)).1.getD (toNat v9) default).2.2.1) (((bF (a0.1,a0.2)).1.getD (toNat v9) default).2.2.2.1) (((bF (a0.1,a0.2)).1.getD (toNat v9) default).2.2.2.2) (by refine⟨?_,?_,?_,?_,?_,?_,?_,?_,?_,?_,?_⟩<;>(try simp only [Ls])<;>first | omega | assumption | exact hi.2.1 | exact hi.2.2.1 | exact hi.2.2.2.1 | exact hi.2.2.2.2.1 | exact hi.2.2.2.2.2.1 | exact hi.2.2.2.2.2.2.1 | exact hi.2.2.2.2.2.2.2.1 | exact hi.2.2.2.2.2.2.2.2.1 | exact hi.2.2.2.2.2.2.2.2.2.1 | exact hi.2.2.2.2.2.2.2.2.2.2.1 | simp) (by(try simp only [Ls]);omega)
   | false =>
    have q0:=cF h0
    have e:=Eq.refl (dA a0 a1 (v8,v9));conv at e=>rhs;simp only [dA,h0,aH]
    rw [aF,e]
    exact rt [.d h0] [] [3] hcx (by kernel_rfl)
def bS (a0:Zm)(a1:Int):(List (List (Int×Int)))×Int :=
 (bif (((bF (a0.1,a0.2)).2:Int) != 0) then
  (([]:List (List (Int×Int))),(bF (a0.1,a0.2)).2)
 else
  (aB (dA a0 a1) (toNat ((((bF (a0.1,a0.2)).1.length:Nat):Int) - 0)+1) (([]:List (List (Int×Int))),0)))
theorem aU9 (a0:Zm)(a1:Int)(l0_1:a0.1.length≤9223372036854775807)(l0_2:a0.2.length≤9223372036854775807):Con Tryz.prog 59 [(.a [(.s 0 0 a0.1.length 3),(.s 1 0 a0.2.length 3)]),(iv a1),(.v (.func (.func 60) #[] #[]))] [(.live false true (flat dT a0.1)),(.live false true (flat eZ a0.2))] (.t [(.s 2 0 (bS a0 a1).1.length 1),(iv (bS a0 a1).2)]) [(.live true true (flat fA (bS a0 a1).1))]:=by
 refine aJ Tryz.func59 (by kernel_rfl) fun cx hcx=>?_
 have hpl:=rL (a0.1,a0.2)
 let t0:List (St Tryz.prog):=[.c [0,1] (C90 (a0.1,a0.2) (by(try simp only [Lt]);omega) (by(try simp only [Lt]);omega))]
 cases h0:(((bF (a0.1,a0.2)).2:Int) != 0) with
 | true =>
  have q0:=bne_iff_ne.1 h0
  have e:=Eq.refl (bS a0 a1);conv at e=>rhs;simp only [bS,h0,aH]
  rw [e]
  exact rt (t0++[.d h0]) [.slot 6 1] [4] hcx (by kernel_rfl)
 | false =>
  have q0:=bne_eq_false_iff_eq.1 h0
  have e:=Eq.refl (bS a0 a1);conv at e=>rhs;simp only [bS,h0,aH]
  rw [e]
  refine en (t0++[.d h0]) [.slot 10 1] [1,2,8,10,26,27,28] [3,4] hcx rN (rO) (oX a0 a1 (flat fA ([]:List (List (Int×Int)))) 0 0) (toNat ((((bF (a0.1,a0.2)).1.length:Nat):Int) - 0)+1) (by kernel_rfl) ?_
  exact aOo a0 a1 l0_1 l0_2 hcx (toNat ((((bF (a0.1,a0.2)).1.length:Nat):Int) - 0)+1) ([]:List (List (Int×Int))) 0 (by refine⟨?_,?_,?_⟩<;>(try simp only [Ls])<;>first | omega | assumption | simp) (by(try simp only [Ls]);omega)
noncomputable def xX:Code:=(aE [1,1,1,1,0,1,0,1,1,0,1,1,0,1] [0] (aG Tryz.f59) []).1
noncomputable def xY (m0:Nat):List K:=(aE [1,1,1,1,0,1,0,1,1,0,1,1,0,1] [m0] (aG Tryz.f59) []).2
def tV (a0:Zm)(a1:Int)(v10c:List SV)(v10n:Nat)(v11c:List SV)(v11n:Nat)(v12 v13 v14 v15 v16 v17 v18 v19 v20 v21 v22:Int):LS:=⟨iH 60 [(1,(iv a1)),(2,(.v (.func (.func 61) #[] #[]))),(8,(.s 2 0 (bF (a0.1,a0.2)).1.length 9)),(10,(.s 3 0 v10n 1)),(12,(.p 4 0)),(13,(.s 5 0 v11n 2)),(26,(.s 2 0 (bF (a0.1,a0.2)).1.length 9)),(27,(iv (((bF (a0.1,a0.2)).1.length:Nat):Int))),(28,(iv v12)),(32,(.s 2 0 (bF (a0.1,a0.2)).1.length 9)),(33,(iv (((bF (a0.1,a0.2)).1.length:Nat):Int))),(34,(iv v13))],[(.live false true (flat dT a0.1)),(.live false true (flat eZ a0.2)),(.live true true (flat dK (bF (a0.1,a0.2)).1)),(.live true true v10c),(.live true false [(iv v14),(iv v15),(iv v16),(iv v17),(iv v18),(iv v19),(iv v20),(iv v21),(iv v22)]),(.live true true v11c)]⟩
def eT (a0:Zm)(a1:Int):(List (List (Int×Int)))×(List (Int×Int))×Int×Int×Int×Int×Int×Int×Int×Int×Zt→((List (List (Int×Int)))×(List (Int×Int))×Int×Int×Int×Int×Int×Int×Int×Int×Zt)⊕(((List (List (Int×Int)))×Int)⊕((List (List (Int×Int)))×Int))
 | (v10,v11,v12,v13,v14,v15,v16,v17,v18,v19,v20,v21,v22) =>
  (bif (decide ((v13:Int) < (((bF (a0.1,a0.2)).1.length:Nat):Int))) then
   (bif (((pQ ((bF (a0.1,a0.2)).1.getD (toNat v13) default) ((v14,v15,v16),(v17,v18,v19),(v20,v21,v22)) a1).2:Int) != 0) then
    (.inr (.inr (([]:List (List (Int×Int))),(pQ ((bF (a0.1,a0.2)).1.getD (toNat v13) default) ((v14,v15,v16),(v17,v18,v19),(v20,v21,v22)) a1).2)))
   else
    (.inl (v10,(v11++[(pQ ((bF (a0.1,a0.2)).1.getD (toNat v13) default) ((v14,v15,v16),(v17,v18,v19),(v20,v21,v22)) a1).1]),v12,(v13+1),v14,v15,v16,v17,v18,v19,v20,v21,v22)))
  else
   (.inr (.inl ((v10++[v11]),(v12+1)))))
noncomputable def rP:Code:=(aE [1,1,1,1,0,1] [] (aG Tryz.f59) []).1
noncomputable def rQ:List K:=(aE [1,1,1,1,0,1] [] (aG Tryz.f59) []).2
def oZ (a0:Zm)(a1:Int)(v8c:List SV)(v8n:Nat)(v9:Int):LS:=⟨iH 60 [(1,(iv a1)),(2,(.v (.func (.func 61) #[] #[]))),(8,(.s 2 0 (bF (a0.1,a0.2)).1.length 9)),(10,(.s 3 0 v8n 1)),(26,(.s 2 0 (bF (a0.1,a0.2)).1.length 9)),(27,(iv (((bF (a0.1,a0.2)).1.length:Nat):Int))),(28,(iv v9))],[(.live false true (flat dT a0.1)),(.live false true (flat eZ a0.2)),(.live true true (flat dK (bF (a0.1,a0.2)).1)),(.live true true v8c)]⟩
def dB (a0:Zm)(a1:Int):(List (List (Int×Int)))×Int→((List (List (Int×Int)))×Int)⊕((List (List (Int×Int)))×Int)
 | (v8,v9) =>
  (bif (decide ((v9:Int) < (((bF (a0.1,a0.2)).1.length:Nat):Int))) then
   (aB (eT a0 a1) (toNat ((((bF (a0.1,a0.2)).1.length:Nat):Int) - 0)+1) (v8,([]:List (Int×Int)),v9,0,((bF (a0.1,a0.2)).1.getD (toNat v9) default).1.1,((bF (a0.1,a0.2)).1.getD (toNat v9) default).1.2.1,((bF (a0.1,a0.2)).1.getD (toNat v9) default).1.2.2,((bF (a0.1,a0.2)).1.getD (toNat v9) default).2.1.1,((bF (a0.1,a0.2)).1.getD (toNat v9) default).2.1.2.1,((bF (a0.1,a0.2)).1.getD (toNat v9) default).2.1.2.2,((bF (a0.1,a0.2)).1.getD (toNat v9) default).2.2.1,((bF (a0.1,a0.2)).1.getD (toNat v9) default).2.2.2.1,((bF (a0.1,a0.2)).1.getD (toNat v9) default).2.2.2.2))
  else
   (.inr (v8,0)))
theorem aOp (a0:Zm)(a1:Int)(l0_1:a0.1.length≤9223372036854775807)(l0_2:a0.2.length≤9223372036854775807) {cx:Cx} (hcx:cx.base=2)
   (n0:Nat) (g0:∀(v8:List (List (Int×Int))) (v9:Int),(0≤v9)∧(v8.length=toNat v9)∧(v9≤(bF (a0.1,a0.2)).1.length)→toNat ((((bF (a0.1,a0.2)).1.length:Nat):Int) - v9) < n0→Aw.Good Tryz.prog none 9 (bodyPost Tryz.prog Tryz.f59 (RR cx (.t [(.s 2 0 (aB (dB a0 a1) n0 (v8,v9)).1.length 1),(iv (aB (dB a0 a1) n0 (v8,v9)).2)]) [(.live true true (flat fA (aB (dB a0 a1) n0 (v8,v9)).1))] [])) cx [] (.l rP n0::rQ) (oZ a0 a1 (flat fA v8) v8.length v9)):∀(n:Nat) (v10:List (List (Int×Int))) (v11:List (Int×Int)) (v12 v13 v14 v15 v16 v17 v18 v19 v20 v21 v22:Int),(0≤v13)∧(v11.length=toNat v13)∧(v13≤(bF (a0.1,a0.2)).1.length)∧(v10.length=toNat v12)∧(0≤v12)∧(v12 < (bF (a0.1,a0.2)).1.length)∧((0≤v12))∧((v10.length=toNat v12))∧((v12≤(bF (a0.1,a0.2)).1.length))∧(v12 < (((bF (a0.1,a0.2)).1.length:Nat):Int))∧(toNat ((((bF (a0.1,a0.2)).1.length:Nat):Int) - v12) < n0+1)→toNat ((((bF (a0.1,a0.2)).1.length:Nat):Int) - v13) < n→Aw.Good Tryz.prog none 9 (bodyPost Tryz.prog Tryz.f59 (RR cx (.t [(.s 2 0 (iY (dB a0 a1) n0 (aB (eT a0 a1) n (v10,v11,v12,v13,v14,v15,v16,v17,v18,v19,v20,v21,v22))).1.length 1),(iv (iY (dB a0 a1) n0 (aB (eT a0 a1) n (v10,v11,v12,v13,v14,v15,v16,v17,v18,v19,v20,v21,v22))).2)]) [(.live true true (flat fA (iY (dB a0 a1) n0 (aB (eT a0 a1) n (v10,v11,v12,v13,v14,v15,v16,v17,v18,v19,v20,v21,v22))).1))] [])) cx [] (.l xX n::xY n0) (tV a0 a1 (flat fA v10) v10.length (flat cQ v11) v11.length v12 v13 v14 v15 v16 v17 v18 v19 v20 v21 v22):=by
 intro n
 induction n with
 | zero=>intro v10 v11 v12 v13 v14 v15 v16 v17 v18 v19 v20 v21 v22 hi hn;exact absurd hn (iG _)
 | succ n ih =>
   intro v10 v11 v12 v13 v14 v15 v16 v17 v18 v19 v20 v21 v22 hi hn
   refine aI ?_
   have hpl:=rL (a0.1,a0.2)
   cases h0:(decide ((v13:Int) < (((bF (a0.1,a0.2)).1.length:Nat):Int))) with
   | true =>
    have q0:=bY h0
    let t1:List (St Tryz.prog):=[.d h0,.i v13 ((bF (a0.1,a0.2)).1.length),.L cV (bF (a0.1,a0.2)).1 v13 0 9,.c [] (C61 ((bF (a0.1,a0.2)).1.getD (toNat v13) default) ((v14,v15,v16),(v17,v18,v19),(v20,v21,v22)) a1)]
    cases h1:(((pQ ((bF (a0.1,a0.2)).1.getD (toNat v13) default) ((v14,v15,v16),(v17,v18,v19),(v20,v21,v22)) a1).2:Int) != 0) with
    | true =>
     have q1:=bne_iff_ne.1 h1
     have e:=Eq.refl (eT a0 a1 (v10,v11,v12,v13,v14,v15,v16,v17,v18,v19,v20,v21,v22));conv at e=>rhs;simp only [eT,h0,h1,aH]
     rw [aF,e]
     exact rt (t1++[.d h1]) [.slot 6 1] [8] hcx (by kernel_rfl)
    | false =>
     have q1:=bne_eq_false_iff_eq.1 h1
     have e:=Eq.refl (eT a0 a1 (v10,v11,v12,v13,v14,v15,v16,v17,v18,v19,v20,v21,v22));conv at e=>rhs;simp only [eT,h0,h1,aH]
     rw [aA e]
     refine ba (t1++[.d h1,.p (show((flat cQ v11).length=v11.length*2∧v11.length+1≤2 ^ 40∧(v11.length+1)*16≤2 ^ 47) from gG cA (by omega) (by omega))]) [] [1,2,8,10,12,13,26,27,28,32,33,34] [2,3,4,9] hcx (m:=n) xX (xY n0) (tV a0 a1 (flat fA v10) (v10.length) (flat cQ v11++(k2 (pQ ((bF (a0.1,a0.2)).1.getD (toNat v13) default) ((v14,v15,v16),(v17,v18,v19),(v20,v21,v22)) a1).1)) (v11.length+1) v12 (W (v13+1)) v14 v15 v16 v17 v18 v19 v20 v21 v22) (by kernel_rfl) ?_
     have z0:(W (v13+1))=(v13+1):=aD (by omega) (by omega)
     have z1:(flat cQ v11++(k2 (pQ ((bF (a0.1,a0.2)).1.getD (toNat v13) default) ((v14,v15,v16),(v17,v18,v19),(v20,v21,v22)) a1).1))=(flat cQ (v11++[(pQ ((bF (a0.1,a0.2)).1.getD (toNat v13) default) ((v14,v15,v16),(v17,v18,v19),(v20,v21,v22)) a1).1])):=(bN (c:=cQ) (l:=v11) (m:=[(pQ ((bF (a0.1,a0.2)).1.getD (toNat v13) default) ((v14,v15,v16),(v17,v18,v19),(v20,v21,v22)) a1).1])).symm
     have z2:(v11.length+1)=(v11++[(pQ ((bF (a0.1,a0.2)).1.getD (toNat v13) default) ((v14,v15,v16),(v17,v18,v19),(v20,v21,v22)) a1).1]).length:=eH v11 [(pQ ((bF (a0.1,a0.2)).1.getD (toNat v13) default) ((v14,v15,v16),(v17,v18,v19),(v20,v21,v22)) a1).1] rfl
     rw [z0,z1,z2]
     exact ih v10 (v11++[(pQ ((bF (a0.1,a0.2)).1.getD (toNat v13) default) ((v14,v15,v16),(v17,v18,v19),(v20,v21,v22)) a1).1]) v12 (v13+1) v14 v15 v16 v17 v18 v19 v20 v21 v22 (by refine⟨?_,?_,?_,?_,?_,?_,?_,?_,?_,?_,?_⟩<;>(try simp only [Ls])<;>first | omega | assumption | exact hi.2.1 | exact hi.2.2.1 | exact hi.2.2.2.1 | exact hi.2.2.2.2.1 | exact hi.2.2.2.2.2.1 | exact hi.2.2.2.2.2.2.1 | exact hi.2.2.2.2.2.2.2.1 | exact hi.2.2.2.2.2.2.2.2.1 | exact hi.2.2.2.2.2.2.2.2.2.1 | exact hi.2.2.2.2.2.2.2.2.2.2.1 | simp) (by(try simp only [Ls]);omega)
   | false =>
    have q0:=cF h0
    have e:=Eq.refl (eT a0 a1 (v10,v11,v12,v13,v14,v15,v16,v17,v18,v19,v20,v21,v22));conv at e=>rhs;simp only [eT,h0,aH]
    rw [aF,e]
    refine ba [.d h0,.p (show((flat cQ v11)).length=v11.length*2 from by simp [aEr cA]),.p (show((flat fA v10).length=v10.length*1∧v10.length+1≤2 ^ 40∧(v10.length+1)*24≤2 ^ 47) from gG vW (by omega) (by omega))] [] [1,2,8,10,26,27,28] [2,7] hcx (m:=n0) rP (rQ) (oZ a0 a1 (flat fA v10++[(.d (flat cQ v11) v11.length 2)]) (v10.length+1) (W (v12+1))) (by kernel_rfl) ?_
    have z0:(W (v12+1))=(v12+1):=aD (by omega) (by omega)
    have z1:(flat fA v10++[(.d (flat cQ v11) v11.length 2)])=(flat fA (v10++[v11])):=(bN (c:=fA) (l:=v10) (m:=[v11])).symm
    have z2:(v10.length+1)=(v10++[v11]).length:=eH v10 [v11] rfl
    rw [z0,z1,z2]
    exact g0 (v10++[v11]) (v12+1) (by refine⟨?_,?_,?_⟩<;>(try simp only [Ls])<;>first | omega | assumption | simp) (by(try simp only [Ls]);omega)
theorem aOq (a0:Zm)(a1:Int)(l0_1:a0.1.length≤9223372036854775807)(l0_2:a0.2.length≤9223372036854775807) {cx:Cx} (hcx:cx.base=2):∀(n:Nat)(v8:List (List (Int×Int)))(v9:Int),(0≤v9)∧(v8.length=toNat v9)∧(v9≤(bF (a0.1,a0.2)).1.length)→toNat ((((bF (a0.1,a0.2)).1.length:Nat):Int) - v9) < n→Aw.Good Tryz.prog none 9 (bodyPost Tryz.prog Tryz.f59 (RR cx (.t [(.s 2 0 (aB (dB a0 a1) n (v8,v9)).1.length 1),(iv (aB (dB a0 a1) n (v8,v9)).2)]) [(.live true true (flat fA (aB (dB a0 a1) n (v8,v9)).1))] [])) cx [] (.l rP n::rQ) (oZ a0 a1 (flat fA v8) v8.length v9):=by
 intro n
 induction n with
 | zero=>intro v8 v9 hi hn;exact absurd hn (iG _)
 | succ n ih =>
   intro v8 v9 hi hn
   refine aI ?_
   have hpl:=rL (a0.1,a0.2)
   cases h0:(decide ((v9:Int) < (((bF (a0.1,a0.2)).1.length:Nat):Int))) with
   | true =>
    have q0:=bY h0
    have e:=Eq.refl (dB a0 a1 (v8,v9));conv at e=>rhs;simp only [dB,h0,aH]
    rw [aF,e]
    refine en [.d h0,.i v9 ((bF (a0.1,a0.2)).1.length),.L cV (bF (a0.1,a0.2)).1 v9 0 9] [.slot 13 2] [1,2,8,10,12,13,26,27,28,32,33,34] [2,3,4,5] hcx xX (xY n) (tV a0 a1 (flat fA v8) (v8.length) (flat cQ ([]:List (Int×Int))) 0 v9 0 (((bF (a0.1,a0.2)).1.getD (toNat v9) default).1.1) (((bF (a0.1,a0.2)).1.getD (toNat v9) default).1.2.1) (((bF (a0.1,a0.2)).1.getD (toNat v9) default).1.2.2) (((bF (a0.1,a0.2)).1.getD (toNat v9) default).2.1.1) (((bF (a0.1,a0.2)).1.getD (toNat v9) default).2.1.2.1) (((bF (a0.1,a0.2)).1.getD (toNat v9) default).2.1.2.2) (((bF (a0.1,a0.2)).1.getD (toNat v9) default).2.2.1) (((bF (a0.1,a0.2)).1.getD (toNat v9) default).2.2.2.1) (((bF (a0.1,a0.2)).1.getD (toNat v9) default).2.2.2.2)) (toNat ((((bF (a0.1,a0.2)).1.length:Nat):Int) - 0)+1) (by kernel_rfl) ?_
    exact aOp a0 a1 l0_1 l0_2 hcx n ih (toNat ((((bF (a0.1,a0.2)).1.length:Nat):Int) - 0)+1) v8 ([]:List (Int×Int)) v9 0 (((bF (a0.1,a0.2)).1.getD (toNat v9) default).1.1) (((bF (a0.1,a0.2)).1.getD (toNat v9) default).1.2.1) (((bF (a0.1,a0.2)).1.getD (toNat v9) default).1.2.2) (((bF (a0.1,a0.2)).1.getD (toNat v9) default).2.1.1) (((bF (a0.1,a0.2)).1.getD (toNat v9) default).2.1.2.1) (((bF (a0.1,a0.2)).1.getD (toNat v9) default).2.1.2.2) (((bF (a0.1,a0.2)).1.getD (toNat v9) default).2.2.1) (((bF (a0.1,a0.2)).1.getD (toNat v9) default).2.2.2.1) (((bF (a0.1,a0.2)).1.getD (toNat v9) default).2.2.2.2) (by refine⟨?_,?_,?_,?_,?_,?_,?_,?_,?_,?_,?_⟩<;>(try simp only [Ls])<;>first | omega | assumption | exact hi.2.1 | exact hi.2.2.1 | exact hi.2.2.2.1 | exact hi.2.2.2.2.1 | exact hi.2.2.2.2.2.1 | exact hi.2.2.2.2.2.2.1 | exact hi.2.2.2.2.2.2.2.1 | exact hi.2.2.2.2.2.2.2.2.1 | exact hi.2.2.2.2.2.2.2.2.2.1 | exact hi.2.2.2.2.2.2.2.2.2.2.1 | simp) (by(try simp only [Ls]);omega)
   | false =>
    have q0:=cF h0
    have e:=Eq.refl (dB a0 a1 (v8,v9));conv at e=>rhs;simp only [dB,h0,aH]
    rw [aF,e]
    exact rt [.d h0] [] [3] hcx (by kernel_rfl)
def cB (a0:Zm)(a1:Int):(List (List (Int×Int)))×Int :=
 (bif (((bF (a0.1,a0.2)).2:Int) != 0) then
  (([]:List (List (Int×Int))),(bF (a0.1,a0.2)).2)
 else
  (aB (dB a0 a1) (toNat ((((bF (a0.1,a0.2)).1.length:Nat):Int) - 0)+1) (([]:List (List (Int×Int))),0)))
theorem aVa (a0:Zm)(a1:Int)(l0_1:a0.1.length≤9223372036854775807)(l0_2:a0.2.length≤9223372036854775807):Con Tryz.prog 59 [(.a [(.s 0 0 a0.1.length 3),(.s 1 0 a0.2.length 3)]),(iv a1),(.v (.func (.func 61) #[] #[]))] [(.live false true (flat dT a0.1)),(.live false true (flat eZ a0.2))] (.t [(.s 2 0 (cB a0 a1).1.length 1),(iv (cB a0 a1).2)]) [(.live true true (flat fA (cB a0 a1).1))]:=by
 refine aJ Tryz.func59 (by kernel_rfl) fun cx hcx=>?_
 have hpl:=rL (a0.1,a0.2)
 let t0:List (St Tryz.prog):=[.c [0,1] (C90 (a0.1,a0.2) (by(try simp only [Lt]);omega) (by(try simp only [Lt]);omega))]
 cases h0:(((bF (a0.1,a0.2)).2:Int) != 0) with
 | true =>
  have q0:=bne_iff_ne.1 h0
  have e:=Eq.refl (cB a0 a1);conv at e=>rhs;simp only [cB,h0,aH]
  rw [e]
  exact rt (t0++[.d h0]) [.slot 6 1] [4] hcx (by kernel_rfl)
 | false =>
  have q0:=bne_eq_false_iff_eq.1 h0
  have e:=Eq.refl (cB a0 a1);conv at e=>rhs;simp only [cB,h0,aH]
  rw [e]
  refine en (t0++[.d h0]) [.slot 10 1] [1,2,8,10,26,27,28] [3,4] hcx rP (rQ) (oZ a0 a1 (flat fA ([]:List (List (Int×Int)))) 0 0) (toNat ((((bF (a0.1,a0.2)).1.length:Nat):Int) - 0)+1) (by kernel_rfl) ?_
  exact aOq a0 a1 l0_1 l0_2 hcx (toNat ((((bF (a0.1,a0.2)).1.length:Nat):Int) - 0)+1) ([]:List (List (Int×Int))) 0 (by refine⟨?_,?_,?_⟩<;>(try simp only [Ls])<;>first | omega | assumption | simp) (by(try simp only [Ls]);omega)
noncomputable def xZ:Code:=(aE [1,1,0,1] [] (aG Tryz.f63) []).1
noncomputable def yA:List K:=(aE [1,1,0,1] [] (aG Tryz.f63) []).2
def tW (a0:List (List (Int×Int)))(a1:List (Int))(v2c:List SV)(v2n:Nat)(v3:Int):LS:=⟨iH 32 [(1,(.s 1 0 a1.length 1)),(6,(.s 2 0 v2n 2)),(11,(.s 0 0 a0.length 1)),(12,(iv (a0.length:Int))),(13,(iv v3))],[(.live false true (flat fA a0)),(.live false true (flat c3 a1)),(.live true true v2c)]⟩
def dQ (a0:List (List (Int×Int)))(a1:List (Int)):(List (Int×Int))×Int→((List (Int×Int))×Int)⊕((List (Int×Int))×Int)
 | (v2,v3) =>
  (bif (decide ((v3:Int) < (a0.length:Int))) then
   (bif (((dC (a0.getD (toNat v3) default) a1).2:Int) != 0) then
    (.inr (([]:List (Int×Int)),(dC (a0.getD (toNat v3) default) a1).2))
   else
    (.inl ((v2++[(dC (a0.getD (toNat v3) default) a1).1]),(v3+1))))
  else
   (.inr (v2,0)))
theorem aOr (a0:List (List (Int×Int)))(a1:List (Int))(l0:a0.length≤9223372036854775807)(l1:a1.length≤9223372036854775807)(hr:∀r∈a0,r.length≤a1.length)(hn:a0.length≤96)(hm:a1.length≤96) {cx:Cx} (hcx:cx.base=2):∀(n:Nat)(v2:List (Int×Int))(v3:Int),(0≤v3)∧(v2.length=toNat v3)∧(v3≤a0.length)→toNat ((a0.length:Int) - v3) < n→Aw.Good Tryz.prog none 9 (bodyPost Tryz.prog Tryz.f63 (RR cx (.t [(.s 2 0 (aB (dQ a0 a1) n (v2,v3)).1.length 2),(iv (aB (dQ a0 a1) n (v2,v3)).2)]) [(.live true true (flat cQ (aB (dQ a0 a1) n (v2,v3)).1))] [])) cx [] (.l xZ n::yA) (tW a0 a1 (flat cQ v2) v2.length v3):=by
 intro n
 induction n with
 | zero=>intro v2 v3 hi hn;exact absurd hn (iG _)
 | succ n ih =>
   intro v2 v3 hi hn
   refine aI ?_
   have hrl:=aY1 hr v3
   cases h0:(decide ((v3:Int) < (a0.length:Int))) with
   | true =>
    have q0:=bY h0
    let t1:List (St Tryz.prog):=[.d h0,.i v3 (a0.length),.L vW a0 v3 0 1,.p (aFj (c:=cQ) (fun _=>rfl) (a0.getD (toNat v3) default)),.c [3,1] (aNc (a0.getD (toNat v3) default) a1 (by(try simp only [Lt]);omega) (by omega) (by omega) (by omega))]
    cases h1:(((dC (a0.getD (toNat v3) default) a1).2:Int) != 0) with
    | true =>
     have q1:=bne_iff_ne.1 h1
     have e:=Eq.refl (dQ a0 a1 (v2,v3));conv at e=>rhs;simp only [dQ,h0,h1,aH]
     rw [aF,e]
     exact rt (t1++[.d h1]) [.slot 4 2] [5] hcx (by kernel_rfl)
    | false =>
     have q1:=bne_eq_false_iff_eq.1 h1
     have e:=Eq.refl (dQ a0 a1 (v2,v3));conv at e=>rhs;simp only [dQ,h0,h1,aH]
     rw [aA e]
     refine ba (t1++[.d h1,.p (show((flat cQ v2).length=v2.length*2∧v2.length+1≤2 ^ 40∧(v2.length+1)*16≤2 ^ 47) from gG cA (by omega) (by omega))]) [] [1,6,11,12,13] [6] hcx (m:=n) xZ (yA) (tW a0 a1 (flat cQ v2++(k2 (dC (a0.getD (toNat v3) default) a1).1)) (v2.length+1) (W (v3+1))) (by kernel_rfl) ?_
     have z0:(W (v3+1))=(v3+1):=aD (by omega) (by omega)
     have z1:(flat cQ v2++(k2 (dC (a0.getD (toNat v3) default) a1).1))=(flat cQ (v2++[(dC (a0.getD (toNat v3) default) a1).1])):=(bN (c:=cQ) (l:=v2) (m:=[(dC (a0.getD (toNat v3) default) a1).1])).symm
     have z2:(v2.length+1)=(v2++[(dC (a0.getD (toNat v3) default) a1).1]).length:=eH v2 [(dC (a0.getD (toNat v3) default) a1).1] rfl
     rw [z0,z1,z2]
     exact ih (v2++[(dC (a0.getD (toNat v3) default) a1).1]) (v3+1) (by refine⟨?_,?_,?_⟩<;>(try simp only [Ls])<;>first | omega | assumption | simp) (by(try simp only [Ls]);omega)
   | false =>
    have q0:=cF h0
    have e:=Eq.refl (dQ a0 a1 (v2,v3));conv at e=>rhs;simp only [dQ,h0,aH]
    rw [aF,e]
    exact rt [.d h0] [] [2] hcx (by kernel_rfl)
def bC (a0:List (List (Int×Int)))(a1:List (Int)):(List (Int×Int))×Int :=
 (aB (dQ a0 a1) (toNat ((a0.length:Int) - 0)+1) (([]:List (Int×Int)),0))
theorem aVb (a0:List (List (Int×Int)))(a1:List (Int))(l0:a0.length≤9223372036854775807)(l1:a1.length≤9223372036854775807)(hr:∀r∈a0,r.length≤a1.length)(hn:a0.length≤96)(hm:a1.length≤96):Con Tryz.prog 63 [(.s 0 0 a0.length 1),(.s 1 0 a1.length 1)] [(.live false true (flat fA a0)),(.live false true (flat c3 a1))] (.t [(.s 2 0 (bC a0 a1).1.length 2),(iv (bC a0 a1).2)]) [(.live true true (flat cQ (bC a0 a1).1))]:=by
 refine aJ Tryz.func63 (by kernel_rfl) fun cx hcx=>?_
 have e:=Eq.refl (bC a0 a1);conv at e=>rhs;simp only [bC]
 rw [e]
 refine en [] [.slot 6 2] [1,6,11,12,13] [2] hcx xZ (yA) (tW a0 a1 (flat cQ ([]:List (Int×Int))) 0 0) (toNat ((a0.length:Int) - 0)+1) (by kernel_rfl) ?_
 exact aOr a0 a1 l0 l1 hr hn hm hcx (toNat ((a0.length:Int) - 0)+1) ([]:List (Int×Int)) 0 (by refine⟨?_,?_,?_⟩<;>(try simp only [Ls])<;>first | omega | assumption | simp) (by(try simp only [Ls]);omega)
noncomputable def yB:Code:=(aE [1,1,1,0,1,0,1,1,0,1,1] [0] (aG Tryz.f65) []).1
noncomputable def yC (m0:Nat):List K:=(aE [1,1,1,0,1,0,1,1,0,1,1] [m0] (aG Tryz.f65) []).2
def tX (a0:List (List (Int×Int)))(a1:List (Int))(v14c:List SV)(v14n:Nat)(v15c:List SV)(v15n:Nat)(v16 v17 v18 v19:Int):LS:=⟨iH 49 [(0,(.s 0 0 a0.length 1)),(1,(.s 1 0 a1.length 1)),(4,(.p 2 0)),(6,(.s 3 0 v14n 2)),(7,(.s 4 0 v15n 1)),(8,(iv v16)),(9,(iv v17)),(12,(.s 1 0 a1.length 1)),(13,(iv (a1.length:Int))),(14,(iv v18)),(19,(.s 1 0 a1.length 1)),(20,(iv (a1.length:Int))),(21,(iv v19))],[(.live false true (flat fA a0)),(.live false true (flat c3 a1)),(.live true false [(iv 0),(iv 0)]),(.live true true v14c),(.live true true v15c)]⟩
def eU (a0:List (List (Int×Int)))(a1:List (Int)):(List (Int×Int))×List (Int)×Int×Zt→((List (Int×Int))×List (Int)×Int×Zt)⊕(((List (Int×Int))×List (Int)×Int)⊕((Int×Int)×Int))
 | (v14,v15,v16,v17,v18,v19) =>
  (bif (decide ((v19:Int) < (a1.length:Int))) then
   (.inl ((v14++[((a0.getD (toNat v19) default).getD (toNat v16) default)]),(v15++[(W (v17*(a1.getD (toNat v19) default)))]),v16,v17,v18,(v19+1)))
  else
   (.inr (.inl (v14,v15,(v18+1)))))
noncomputable def rR:Code:=(aE [1,1,1,0,1] [] (aG Tryz.f65) []).1
noncomputable def rS:List K:=(aE [1,1,1,0,1] [] (aG Tryz.f65) []).2
def pA (a0:List (List (Int×Int)))(a1:List (Int))(v11c:List SV)(v11n:Nat)(v12c:List SV)(v12n:Nat)(v13:Int):LS:=⟨iH 49 [(0,(.s 0 0 a0.length 1)),(1,(.s 1 0 a1.length 1)),(4,(.p 2 0)),(6,(.s 3 0 v11n 2)),(7,(.s 4 0 v12n 1)),(12,(.s 1 0 a1.length 1)),(13,(iv (a1.length:Int))),(14,(iv v13))],[(.live false true (flat fA a0)),(.live false true (flat c3 a1)),(.live true false [(iv 0),(iv 0)]),(.live true true v11c),(.live true true v12c)]⟩
def dJ (a0:List (List (Int×Int)))(a1:List (Int)):(List (Int×Int))×List (Int)×Int→((List (Int×Int))×List (Int)×Int)⊕((Int×Int)×Int)
 | (v11,v12,v13) =>
  (bif (decide ((v13:Int) < (a1.length:Int))) then
   (aB (eU a0 a1) (toNat ((a1.length:Int) - 0)+1) (v11,v12,v13,(a1.getD (toNat v13) default),v13,0))
  else
   (.inr ((dC v11 v12).1,(dC v11 v12).2)))
theorem aOs (a0:List (List (Int×Int)))(a1:List (Int))(l0:a0.length≤9223372036854775807)(l1:a1.length≤9223372036854775807)(hl:a0.length=a1.length)(hr:∀r∈a0,r.length=a1.length)(hm:a1.length≤96) {cx:Cx} (hcx:cx.base=2)
   (n0:Nat) (g0:∀(v11:List (Int×Int)) (v12:List (Int)) (v13:Int),(0≤v13)∧(v11.length≤96*toNat v13)∧(v12.length=v11.length)∧(v13≤a1.length)→toNat ((a1.length:Int) - v13) < n0→Aw.Good Tryz.prog none 9 (bodyPost Tryz.prog Tryz.f65 (RR cx (.t [(.a (k2 (aB (dJ a0 a1) n0 (v11,v12,v13)).1)),(iv (aB (dJ a0 a1) n0 (v11,v12,v13)).2)]) [] [])) cx [] (.l rR n0::rS) (pA a0 a1 (flat cQ v11) v11.length (flat c3 v12) v12.length v13)):∀(n:Nat) (v14:List (Int×Int)) (v15:List (Int)) (v16 v17 v18 v19:Int),(0≤v19)∧(v14.length≤96*toNat v18+toNat v19)∧(v15.length=v14.length)∧(0≤v16)∧(v16 < a1.length)∧(0≤v18)∧(v18 < a1.length)∧(v19≤a1.length)∧((0≤v18))∧((v15.length=v14.length))∧((v18≤a1.length))∧(v18 < (a1.length:Int))∧(toNat ((a1.length:Int) - v18) < n0+1)→toNat ((a1.length:Int) - v19) < n→Aw.Good Tryz.prog none 9 (bodyPost Tryz.prog Tryz.f65 (RR cx (.t [(.a (k2 (iY (dJ a0 a1) n0 (aB (eU a0 a1) n (v14,v15,v16,v17,v18,v19))).1)),(iv (iY (dJ a0 a1) n0 (aB (eU a0 a1) n (v14,v15,v16,v17,v18,v19))).2)]) [] [])) cx [] (.l yB n::yC n0) (tX a0 a1 (flat cQ v14) v14.length (flat c3 v15) v15.length v16 v17 v18 v19):=by
 intro n
 induction n with
 | zero=>intro v14 v15 v16 v17 v18 v19 hi hn;exact absurd hn (iG _)
 | succ n ih =>
   intro v14 v15 v16 v17 v18 v19 hi hn
   refine aI ?_
   have hrl:=aY0 hr v19
   cases h0:(decide ((v19:Int) < (a1.length:Int))) with
   | true =>
    have q0:=bY h0
    have e:=Eq.refl (eU a0 a1 (v14,v15,v16,v17,v18,v19));conv at e=>rhs;simp only [eU,h0,aH]
    rw [aA e]
    refine ba [.d h0,.i v19 (a1.length),.L fU a1 v19 0 1,.i v19 (a0.length),.L vW a0 v19 0 1,.p (aFj (c:=cQ) (fun _=>rfl) (a0.getD (toNat v19) default)),.i v16 ((a0.getD (toNat v19) default).length),.L cA (a0.getD (toNat v19) default) v16 0 2,.p (show((flat cQ v14).length=v14.length*2∧v14.length+1≤2 ^ 40∧(v14.length+1)*16≤2 ^ 47) from gG cA (by omega) (by omega)),.p (show((flat c3 v15).length=v15.length*1∧v15.length+1≤2 ^ 40∧(v15.length+1)*8≤2 ^ 47) from gG fU (by omega) (by omega))] [] [0,1,4,6,7,8,9,12,13,14,19,20,21] [2,7,9] hcx (m:=n) yB (yC n0) (tX a0 a1 (flat cQ v14++(k2 ((a0.getD (toNat v19) default).getD (toNat v16) default))) (v14.length+1) (flat c3 v15++[(iv (W (v17*(a1.getD (toNat v19) default))))]) (v15.length+1) v16 v17 v18 (W (v19+1))) (by kernel_rfl) ?_
    have z0:(W (v19+1))=(v19+1):=aD (by omega) (by omega)
    have z1:(flat cQ v14++(k2 ((a0.getD (toNat v19) default).getD (toNat v16) default)))=(flat cQ (v14++[((a0.getD (toNat v19) default).getD (toNat v16) default)])):=(bN (c:=cQ) (l:=v14) (m:=[((a0.getD (toNat v19) default).getD (toNat v16) default)])).symm
    have z2:(v14.length+1)=(v14++[((a0.getD (toNat v19) default).getD (toNat v16) default)]).length:=eH v14 [((a0.getD (toNat v19) default).getD (toNat v16) default)] rfl
    have z3:(flat c3 v15++[(iv (W (v17*(a1.getD (toNat v19) default))))])=(flat c3 (v15++[(W (v17*(a1.getD (toNat v19) default)))])):=(bN (c:=c3) (l:=v15) (m:=[(W (v17*(a1.getD (toNat v19) default)))])).symm
    have z4:(v15.length+1)=(v15++[(W (v17*(a1.getD (toNat v19) default)))]).length:=eH v15 [(W (v17*(a1.getD (toNat v19) default)))] rfl
    rw [z0,z1,z2,z3,z4]
    exact ih (v14++[((a0.getD (toNat v19) default).getD (toNat v16) default)]) (v15++[(W (v17*(a1.getD (toNat v19) default)))]) v16 v17 v18 (v19+1) (by refine⟨?_,?_,?_,?_,?_,?_,?_,?_,?_,?_,?_,?_,?_⟩<;>(try simp only [Ls])<;>first | omega | assumption | exact hi.2.1 | exact hi.2.2.1 | exact hi.2.2.2.1 | exact hi.2.2.2.2.1 | exact hi.2.2.2.2.2.1 | exact hi.2.2.2.2.2.2.1 | exact hi.2.2.2.2.2.2.2.1 | exact hi.2.2.2.2.2.2.2.2.1 | exact hi.2.2.2.2.2.2.2.2.2.1 | exact hi.2.2.2.2.2.2.2.2.2.2.1 | exact hi.2.2.2.2.2.2.2.2.2.2.2.1 | exact hi.2.2.2.2.2.2.2.2.2.2.2.2.1 | simp) (by(try simp only [Ls]);omega)
   | false =>
    have q0:=cF h0
    have e:=Eq.refl (eU a0 a1 (v14,v15,v16,v17,v18,v19));conv at e=>rhs;simp only [eU,h0,aH]
    rw [aF,e]
    refine ba [.d h0] [] [0,1,4,6,7,12,13,14] [2,3,4] hcx (m:=n0) rR (rS) (pA a0 a1 (flat cQ v14) (v14.length) (flat c3 v15) (v15.length) (W (v18+1))) (by kernel_rfl) ?_
    have z0:(W (v18+1))=(v18+1):=aD (by omega) (by omega)
    rw [z0]
    exact g0 v14 v15 (v18+1) (by refine⟨?_,?_,?_,?_⟩<;>(try simp only [Ls])<;>first | omega | assumption | simp) (by(try simp only [Ls]);omega)
theorem aOt (a0:List (List (Int×Int)))(a1:List (Int))(l0:a0.length≤9223372036854775807)(l1:a1.length≤9223372036854775807)(hl:a0.length=a1.length)(hr:∀r∈a0,r.length=a1.length)(hm:a1.length≤96) {cx:Cx} (hcx:cx.base=2):∀(n:Nat)(v11:List (Int×Int))(v12:List (Int))(v13:Int),(0≤v13)∧(v11.length≤96*toNat v13)∧(v12.length=v11.length)∧(v13≤a1.length)→toNat ((a1.length:Int) - v13) < n→Aw.Good Tryz.prog none 9 (bodyPost Tryz.prog Tryz.f65 (RR cx (.t [(.a (k2 (aB (dJ a0 a1) n (v11,v12,v13)).1)),(iv (aB (dJ a0 a1) n (v11,v12,v13)).2)]) [] [])) cx [] (.l rR n::rS) (pA a0 a1 (flat cQ v11) v11.length (flat c3 v12) v12.length v13):=by
 intro n
 induction n with
 | zero=>intro v11 v12 v13 hi hn;exact absurd hn (iG _)
 | succ n ih =>
   intro v11 v12 v13 hi hn
   refine aI ?_
   cases h0:(decide ((v13:Int) < (a1.length:Int))) with
   | true =>
    have q0:=bY h0
    have e:=Eq.refl (dJ a0 a1 (v11,v12,v13));conv at e=>rhs;simp only [dJ,h0,aH]
    rw [aF,e]
    refine en [.d h0,.i v13 (a1.length),.L fU a1 v13 0 1] [] [0,1,4,6,7,8,9,12,13,14,19,20,21] [2,3,4] hcx yB (yC n) (tX a0 a1 (flat cQ v11) (v11.length) (flat c3 v12) (v12.length) v13 (a1.getD (toNat v13) default) v13 0) (toNat ((a1.length:Int) - 0)+1) (by kernel_rfl) ?_
    exact aOs a0 a1 l0 l1 hl hr hm hcx n ih (toNat ((a1.length:Int) - 0)+1) v11 v12 v13 (a1.getD (toNat v13) default) v13 0 (by refine⟨?_,?_,?_,?_,?_,?_,?_,?_,?_,?_,?_,?_,?_⟩<;>(try simp only [Ls])<;>first | omega | assumption | exact hi.2.1 | exact hi.2.2.1 | exact hi.2.2.2.1 | exact hi.2.2.2.2.1 | exact hi.2.2.2.2.2.1 | exact hi.2.2.2.2.2.2.1 | exact hi.2.2.2.2.2.2.2.1 | exact hi.2.2.2.2.2.2.2.2.1 | exact hi.2.2.2.2.2.2.2.2.2.1 | exact hi.2.2.2.2.2.2.2.2.2.2.1 | exact hi.2.2.2.2.2.2.2.2.2.2.2.1 | exact hi.2.2.2.2.2.2.2.2.2.2.2.2.1 | simp) (by(try simp only [Ls]);omega)
   | false =>
    have q0:=cF h0
    have e:=Eq.refl (dJ a0 a1 (v11,v12,v13));conv at e=>rhs;simp only [dJ,h0,aH]
    rw [aF,e]
    exact rt [.d h0,.c [3,4] (aNc v11 v12 (by omega) (by omega) (by omega) (by omega))] [] [] hcx (by kernel_rfl)
def cT (a0:List (List (Int×Int)))(a1:List (Int)):(Int×Int)×Int :=
 (aB (dJ a0 a1) (toNat ((a1.length:Int) - 0)+1) (([]:List (Int×Int)),([]:List (Int)),0))
theorem aVc (a0:List (List (Int×Int)))(a1:List (Int))(l0:a0.length≤9223372036854775807)(l1:a1.length≤9223372036854775807)(hl:a0.length=a1.length)(hr:∀r∈a0,r.length=a1.length)(hm:a1.length≤96):Con Tryz.prog 65 [(.s 0 0 a0.length 1),(.s 1 0 a1.length 1)] [(.live false true (flat fA a0)),(.live false true (flat c3 a1))] (.t [(.a (k2 (cT a0 a1).1)),(iv (cT a0 a1).2)]) []:=by
 refine aJ Tryz.func65 (by kernel_rfl) fun cx hcx=>?_
 have e:=Eq.refl (cT a0 a1);conv at e=>rhs;simp only [cT]
 rw [e]
 refine en [] [.slot 6 2,.slot 7 1] [0,1,4,6,7,12,13,14] [2,3,4] hcx rR (rS) (pA a0 a1 (flat cQ ([]:List (Int×Int))) 0 (flat c3 ([]:List (Int))) 0 0) (toNat ((a1.length:Int) - 0)+1) (by kernel_rfl) ?_
 exact aOt a0 a1 l0 l1 hl hr hm hcx (toNat ((a1.length:Int) - 0)+1) ([]:List (Int×Int)) ([]:List (Int)) 0 (by refine⟨?_,?_,?_,?_⟩<;>(try simp only [Ls])<;>first | omega | assumption | simp) (by(try simp only [Ls]);omega)
abbrev TB:=List (List (Int×Int))
theorem aNd {S1:TB×List (Int×Int)×Int×Int×Int×Int×Int×Int×Int×Int×Zt→(TB×List (Int×Int)×Int×Int×Int×Int×Int×Int×Int×Int×Zt)⊕((TB×Int)⊕(TB×Int))} {S0:TB×Int→(TB×Int)⊕(TB×Int)}
   (L:List PN) (of:PN→PN→(Int×Int)×Int) (hof:∀p∈L,∀q∈L,(of p q).2=0)
   (hS1:∀(out:TB) (row:List (Int×Int)) (i j:Int) (q:PN),S1 (out,row,i,j,q.1.1,q.1.2.1,q.1.2.2,q.2.1.1,q.2.1.2.1,q.2.1.2.2,q.2.2.1,q.2.2.2.1,q.2.2.2.2) =
     bif decide (j < (L.length:Int)) then(bif ((of (L.getD (toNat j) default) q).2 != 0) then .inr (.inr ([],(of (L.getD (toNat j) default) q).2)) else .inl (out,row++[(of (L.getD (toNat j) default) q).1],i,j+1,q.1.1,q.1.2.1,q.1.2.2,q.2.1.1,q.2.1.2.1,q.2.1.2.2,q.2.2.1,q.2.2.2.1,q.2.2.2.2)) else .inr (.inl (out++[row],i+1)))
   (hS0:∀(out:TB) (i:Int),S0 (out,i)=bif decide (i < (L.length:Int)) then aB S1 (toNat ((L.length:Int) - 0)+1) (out,[],i,0,(L.getD (toNat i) default).1.1,(L.getD (toNat i) default).1.2.1,(L.getD (toNat i) default).1.2.2,(L.getD (toNat i) default).2.1.1,(L.getD (toNat i) default).2.1.2.1,(L.getD (toNat i) default).2.1.2.2,(L.getD (toNat i) default).2.2.1,(L.getD (toNat i) default).2.2.2.1,(L.getD (toNat i) default).2.2.2.2) else .inr (out,0)) :
   aB S0 (toNat ((L.length:Int) - 0)+1) ([],0)=(L.map fun q=>L.map fun p=>(of p q).1,0):=by
 have snoc:∀{α β:Type} (g:α→β) (l:List α) (v:List β),l.foldl (fun v c=>v++[g c]) v=v++l.map g:=by
   intro α β g l
   induction l with
   | nil=>intro v;simp
   | cons c l ih=>intro v;rw [List.foldl_cons,ih];simp
 have inner:∀(out:TB) (i:Int) (q:PN),q∈L→aB S1 (toNat ((L.length:Int) - 0)+1) (out,[],i,0,q.1.1,q.1.2.1,q.1.2.2,q.2.1.1,q.2.1.2.1,q.2.1.2.2,q.2.2.1,q.2.2.2.1,q.2.2.2.2)=.inl (out++[L.map fun p=>(of p q).1],i+1):=by
   intro out i q hq
   rw [aZ (fun row j=>(out,row,i,j,q.1.1,q.1.2.1,q.1.2.2,q.2.1.1,q.2.1.2.1,q.2.1.2.2,q.2.2.1,q.2.2.2.1,q.2.2.2.2)) (fun row p=>.inl (row++[(of p q).1])) (fun row=>.inl (out++[row],i+1)) (L:=L) (fun _ _=>True) ?_ (fun _ _ _ _ _ _ _=>trivial) ?_ (by omega) trivial]
   · rw [bM,snoc];rfl
   · intro j c hc row _
     obtain⟨hlt,hce⟩:=List.getElem?_eq_some_iff.1 hc
     rw [hS1,bW (by omega),cond_true,bB hc,hof c (List.mem_of_getElem? hc) q hq]
     rfl
   · intro row _
     rw [hS1,cK (by omega),cond_false]
 rw [aZ (fun out i=>(out,i)) (fun out q=>.inl (out++[L.map fun p=>(of p q).1])) (fun out=>(out,0)) (L:=L) (fun _ _=>True) ?_ (fun _ _ _ _ _ _ _=>trivial) ?_ (by omega) trivial]
 · rw [bM,snoc];rfl
 · intro i c hc out _
   obtain⟨hlt,hce⟩:=List.getElem?_eq_some_iff.1 hc
   rw [hS0,bW (by omega),cond_true,bB hc,inner out i c (List.mem_of_getElem? hc)]
   rfl
 · intro out _
   rw [hS0,cK (by omega),cond_false]
abbrev aU (m:ME):List PN:=m.2.map (eO m)
theorem aWn {m:ME} (h:fB m=0):bF m=(aU m,0):=by
 rw [aWm,h];rfl
theorem aI0 {m:ME} {d:Int} (h:fB m=0)(hd:0≤d∧d≤2):bS m d=((aU m).map fun q=>(aU m).map fun p=>(uH p q d).1,0):=by
 have hP:=aWn h
 have g:=aNd (S1:=eS m d) (S0:=dA m d) (bF m).1 (fun p q=>uH p q d) (by
   rw [hP];exact fun p hp q hq=>(kK (mA h hd hp hq)).1) (fun out row i j q=>rfl) (fun out i=>rfl)
 unfold bS
 show(bif ((bF m).2 != 0) then _ else _)=_
 rw [show((bF m).2 != 0)=false from by rw [hP];rfl,cond_false]
 refine Eq.trans g ?_
 rw [hP]
theorem aI1 {m:ME} {d:Int} (h:fB m=0)(hd:0≤d∧d≤2):cB m d=((aU m).map fun q=>(aU m).map fun p=>(pQ p q d).1,0):=by
 have hP:=aWn h
 have g:=aNd (S1:=eT m d) (S0:=dB m d) (bF m).1 (fun p q=>pQ p q d) (by
   rw [hP];exact fun p hp q hq=>(oW (mA h hd hp hq)).1) (fun out row i j q=>rfl) (fun out i=>rfl)
 unfold cB
 show(bif ((bF m).2 != 0) then _ else _)=_
 rw [show((bF m).2 != 0)=false from by rw [hP];rfl,cond_false]
 refine Eq.trans g ?_
 rw [hP]
def okC (q:List Int):Prop:=∀c∈q,0≤c∧c≤100
def aDx (q:List Int)(v:Int):Int:=q.foldl (fun v c=>W (v+c)) v
theorem aAn:∀(q:List Int)(v:Int),okC q→0≤v→v+100*(q.length:Int)≤1000000→aDx q v=v+q.sum∧v≤v+q.sum∧v+q.sum≤v+100*(q.length:Int)
 | [],v,_,_,_=>by simp [aDx]
 | c::q,v,h,h0,h1=>by
   have hc:=h c List.mem_cons_self
   simp only [List.length_cons] at h1
   have ih:=aAn q (v+c) (fun x hx=>h x (List.mem_cons_of_mem _ hx)) (by omega) (by omega)
   have e:aDx (c::q) v=aDx q (v+c):=by
     show aDx q (W (v+c))=_
     rw [aD (by omega) (by omega)]
   rw [e]
   simp only [List.sum_cons,List.length_cons]
   omega
theorem yD:∀(q:List Int)(v:Int),(iT (R:=Int) (fun v c=>bif (!oT c 0 100) then .inr 1 else .inl (W (v+c))) q v=.inr 1∧iT (σ:=Unit) (R:=Int) (fun _ c=>bif (!oT c 0 100) then .inr 1 else .inl ()) q ()=.inr 1) ∨
   (iT (R:=Int) (fun v c=>bif (!oT c 0 100) then .inr 1 else .inl (W (v+c))) q v=.inl (aDx q v)∧iT (σ:=Unit) (R:=Int) (fun _ c=>bif (!oT c 0 100) then .inr 1 else .inl ()) q ()=.inl ()∧okC q)
 | [],v=>.inr ⟨rfl,rfl,fun c hc=>by simp at hc⟩
 | c::q,v=>by
   simp only [iT]
   cases hc:(!oT c 0 100) with
   | true=>exact .inl ⟨rfl,rfl⟩
   | false =>
     simp only [cond_false]
     rcases yD q (W (v+c)) with h | ⟨h1,h2,h3⟩
     · exact .inl h
     · refine .inr ⟨h1,h2,fun x hx=>?_⟩
       rcases List.mem_cons.1 hx with rfl | hx
       · exact qN hc
       · exact h3 x hx
theorem aSb (q:List Int):cD q=aDx q 0:=by
 unfold cD
 rw [aZ (fun v i=>(v,i)) (fun v c=>.inl (W (v+c))) (fun v=>v) (L:=q) (fun _ _=>True) ?_ (fun _ _ _ _ _ _ _=>trivial) ?_ (by omega) trivial]
 · rw [bM];rfl
 · intro i c hc v _
   obtain⟨hlt,hce⟩:=List.getElem?_eq_some_iff.1 hc
   simp only [kJ]
   rw [bW (by omega),cond_true,bB hc];rfl
 · intro v _
   simp only [kJ]
   rw [cK (by omega),cond_false]
theorem aWo (q:List Int):cO q=W ((W (aDx q 0*1048576))*1048576):=by
 unfold cO
 rw [aZ (fun v i=>(v,i)) (fun v c=>.inl (W (v+c))) (fun v=>W ((W (v*1048576))*1048576)) (L:=q) (fun _ _=>True) ?_ (fun _ _ _ _ _ _ _=>trivial) ?_ (by omega) trivial]
 · rw [bM];rfl
 · intro i c hc v _
   obtain⟨hlt,hce⟩:=List.getElem?_eq_some_iff.1 hc
   simp only [mQ]
   rw [bW (by omega),cond_true,bB hc];rfl
 · intro v _
   simp only [mQ]
   rw [cK (by omega),cond_false]
noncomputable def chV (m:ME)(q:List Int):Int:=bif ((fB m:Int) != 0) then fB m else bif (((q.length:Int):Int) != (m.2.length:Int)) then 1 else
 aCf (fun v=>bif (v == 0) then 11 else 0) (iT (R:=Int) (fun v c=>bif (!oT c 0 100) then .inr 1 else .inl (W (v+c))) q 0)
theorem bCu (m:ME)(q:List Int):nY m q=chV m q:=by
 unfold nY chV
 show(bif ((fB m:Int) != 0) then fB m else _)=_
 congr 1
 congr 1
 refine aZ (fun v i=>(v,i)) _ (fun v=>bif (v == 0) then 11 else 0) (L:=q) (fun _ _=>True) ?_ (fun _ _ _ _ _ _ _=>trivial) ?_ (by omega) trivial
 · intro i c hc v _
   obtain⟨hlt,hce⟩:=List.getElem?_eq_some_iff.1 hc
   simp only [gV]
   rw [bW (by omega),cond_true,bB hc]
   cases (!oT c 0 100)<;>rfl
 · intro v _
   simp only [gV]
   rw [cK (by omega),cond_false]
   cases (v == 0)<;>rfl
theorem bCv (m:ME)(q:List Int):jR m q=chV m q:=by
 unfold jR chV
 show(bif ((vU m:Int) != 0) then vU m else _)=_
 rw [←aGm]
 congr 1
 congr 1
 refine Eq.trans (aZ (σ:=Unit) (fun _ i=>i) (fun _ c=>bif (!oT c 0 100) then .inr 1 else .inl ()) (fun _=>bif (cD q == 0) then 11 else 0) (L:=q) (v:=()) (fun _ _=>True) ?_ (fun _ _ _ _ _ _ _=>trivial) ?_ (by omega) trivial) ?_
 · intro i c hc v _
   obtain⟨hlt,hce⟩:=List.getElem?_eq_some_iff.1 hc
   simp only [fK]
   rw [bW (by omega),cond_true,bB hc,show F52 c 0 100=oT c 0 100 from rfl]
   cases (!oT c 0 100)<;>rfl
 · intro v _
   simp only [fK]
   rw [cK (by omega),cond_false]
   cases (cD q == 0)<;>rfl
 · rcases yD q 0 with⟨h1,h2⟩ | ⟨h1,h2,_⟩
   · rw [h1,h2];rfl
   · rw [h1,h2,aSb];rfl
structure ChOK (m:ME) (q:List Int):Prop where
 v:fB m=0
 len:q.length=m.2.length
 ok:okC q
 pos:1≤q.sum
 le:q.sum≤9600
 n:1≤m.2.length∧m.2.length≤96
 tot:aDx q 0=q.sum
theorem bCw {m:ME} {q:List Int} (h:chV m q=0):ChOK m q:=by
 unfold chV at h
 cases h1:((fB m:Int) != 0) with
 | true=>rw [h1,cond_true] at h;exact absurd h (bne_iff_ne.1 h1)
 | false =>
 rw [h1,cond_false] at h
 have hv:=bne_eq_false_iff_eq.1 h1
 obtain⟨_,n1,n2,_,_⟩:=iF hv
 cases h2:(((q.length:Int):Int) != (m.2.length:Int)) with
 | true=>rw [h2,cond_true] at h;exact absurd h (by decide)
 | false =>
 rw [h2,cond_false] at h
 have hl:=bne_eq_false_iff_eq.1 h2
 rcases yD q 0 with⟨g1,_⟩ | ⟨g1,_,g3⟩
 · rw [g1] at h;exact absurd h (by decide)
 · rw [g1] at h
   have ht:=aAn q 0 g3 (Int.le_refl 0) (by omega)
   simp only [aCf] at h
   have hne:aDx q 0≠0:=by
     intro e
     rw [e] at h;exact absurd h (by decide)
   exact⟨hv,by omega,g3,by omega,by omega,⟨n1,n2⟩,by omega⟩
noncomputable def chD (m:ME)(q:List Int)(d:Int):Int:=bif (chV m q != 0) then chV m q else bif (!oT d 0 2) then 1 else 0
theorem zG (m:ME)(q:List Int)(d:Int):gF m q d=chD m q d:=by
 unfold gF chD
 rw [show nY (m.1,m.2) q=chV m q from bCu m q]
theorem aSc (m:ME)(q:List Int)(d:Int):fN m q d=chD m q d:=by
 unfold fN chD
 rw [show jR (m.1,m.2) q=chV m q from bCv m q]
 rfl
theorem gJ {m:ME} {q:List Int} {d:Int} (h:chD m q d=0):ChOK m q∧0≤d∧d≤2:=by
 unfold chD at h
 cases h1:(chV m q != 0) with
 | true=>rw [h1,cond_true] at h;exact absurd h (bne_iff_ne.1 h1)
 | false =>
 rw [h1,cond_false] at h
 cases h2:(!oT d 0 2) with
 | true=>rw [h2,cond_true] at h;exact absurd h (by decide)
 | false=>exact⟨bCw (bne_eq_false_iff_eq.1 h1),qN h2⟩
theorem aNe {m:ME} {d:Int} {f:PN→PN→Int×Int} {T:TB} {n:Nat} (e:T=(aU m).map fun q=>(aU m).map fun p=>f p q)(hn:n=m.2.length):T.length=n∧∀r∈T,r.length=n:=by
 subst e hn
 refine⟨by simp,fun r hr=>?_⟩
 obtain⟨q,_,rfl⟩:=List.mem_map.1 hr
 simp
noncomputable def sF (c:(Int×Int)×Int):(Int×Int)×Int:=nW c.1 c.2
noncomputable def dZ (l:List ((Int×Int)×Int)):(Int×Int)×Int:=pO aKx (fun e=>((0,0),e)) (nJ sF l [])
theorem aGv {a:Int×Int} (h:okP a):vs a:=by unfold okP at h;unfold vs;omega
theorem aVd {a:Int×Int} {n:Int} (ha:okP a)(hn:0≤n∧n≤10000)(h:(nW a n).2=0):n≤(nW a n).1.1∧(nW a n).1.1≤(nW a n).1.2:=by
 rw [aGe (aGv ha) (by omega)] at h ⊢
 unfold okP at ha
 have h1:=aB9 ha.1 hn.1
 have h2:=aB9 ha.2.1 hn.1
 have h3:mB 1 n=n:=by unfold mB;rw [Int.one_mul,if_neg (by omega),if_neg (by omega)]
 have e:scl a n=(mB a.1 n,mB a.2 n):=by unfold scl;rw [if_neg (by omega)]
 rw [e] at h ⊢
 rcases rH (mB a.1 n) (mB a.2 n) with⟨g,_⟩ | g
 · rw [g];simp only;omega
 · rw [g] at h;exact absurd h (by decide)
theorem aY2 {c:(Int×Int)×Int} (h:(sF c).2=0):vs (sF c).1:=aIx h
theorem aNf {l:List ((Int×Int)×Int)} {m:List (Int×Int)} (h:nJ sF l []=.inl m)(hn:l.length≤9216):(∀a∈m,vs a)∧m.length≤10000:=by
 obtain⟨e,h0⟩:=kY h
 rw [List.nil_append] at e
 subst e
 exact⟨fun a ha=>by obtain⟨c,hc,rfl⟩:=List.mem_map.1 ha;exact aY2 (h0 c hc),by rw [List.length_map];omega⟩
theorem aWp {xs:List (Int×Int)} {q:List Int} (hl:xs.length≤q.length)(hn:xs.length≤9216):dC xs q=dZ (xs.zip q):=by
 have hz:(xs.zip q).length=xs.length:=by rw [List.length_zip];omega
 unfold dC dZ
 have key:=xJ (g:=sF) (S:=dV xs q) (E:=fun e=>(((0,0):Int×Int),e)) (L:=xs.zip q) (G:=fun l=>((kM l).1,(kM l).2))
   (fun i c hi l=>?_) (fun l=>?_) (xs.zip q) 0 (toNat ((xs.length:Int) - 0)+1) [] rfl (Nat.zero_le _) (by omega)
 · refine Eq.trans key ?_
   cases hs:nJ sF (xs.zip q) [] with
   | inr r=>rfl
   | inl m =>
     obtain⟨hv,hm⟩:=aNf hs (by omega)
     simp only [pO]
     rw [bBt hv hm]
 · obtain⟨h1,h2⟩:=List.getElem?_zip_eq_some.1 hi
   have hlt:=(List.getElem?_eq_some_iff.1 h1).1
   simp only [dV]
   rw [bW (by omega),cond_true,bB h1,bB h2]
   show _=bif ((nW c.1 c.2).2 != 0) then _ else _
   cases ((nW c.1 c.2).2 != 0)<;>rfl
 · simp only [dV]
   rw [cK (by rw [hz];omega),cond_false]
theorem aNg {l:List ((Int×Int)×Int)} (hl:∀c∈l,okP c.1∧0≤c.2∧c.2≤10000)(h:(dZ l).2=0):(l.map (·.2)).sum≤(dZ l).1.1∧(dZ l).1.1≤(dZ l).1.2∧vs (dZ l).1:=by
 unfold dZ at h ⊢
 cases hs:nJ sF l [] with
 | inr r=>rw [hs] at h;exact absurd h (rK hs)
 | inl m =>
   rw [hs] at h
   simp only [pO] at h ⊢
   obtain⟨e,hv⟩:=aQ2 h
   rw [e]
   obtain⟨e2,h0⟩:=kY hs
   rw [List.nil_append] at e2
   refine⟨?_,hv.2.1,hv⟩
   rw [rI,e2]
   simp only [Int.zero_add,List.map_map]
   clear hs h e hv e2
   induction l with
   | nil=>simp
   | cons c l ih =>
     have hc:=hl c List.mem_cons_self
     have:=aVd hc.1 hc.2 (h0 c List.mem_cons_self)
     have ih:=ih (fun x hx=>hl x (List.mem_cons_of_mem _ hx)) (fun x hx=>h0 x (List.mem_cons_of_mem _ hx))
     simp only [List.map_cons,List.sum_cons,Function.comp] at ih ⊢
     have e:(sF c).1.1=(nW c.1 c.2).1.1:=rfl
     omega
noncomputable def pP (T:TB)(q:List Int):List (Int×Int)×Int:=pO (fun l=>(l,0)) (fun e=>([],e)) (nJ (fun r:List (Int×Int)=>dZ (r.zip q)) T [])
theorem aNh {T:TB} {q:List Int} (hr:∀r∈T,r.length≤q.length)(hm:q.length≤96):bC T q=pP T q:=by
 unfold bC pP
 refine xJ (g:=fun r:List (Int×Int)=>dZ (r.zip q)) (S:=dQ T q) (E:=fun e=>(([]:List (Int×Int)),e)) (L:=T) (G:=fun l=>(l,0))
   (fun i c hi l=>?_) (fun l=>?_) T 0 (toNat ((T.length:Int) - 0)+1) [] rfl (Nat.zero_le _) (by omega)
 · obtain⟨hlt,hce⟩:=List.getElem?_eq_some_iff.1 hi
   have hc:=hr c (List.mem_of_getElem? hi)
   simp only [dQ]
   rw [bW (by omega),cond_true,bB hi,aWp hc (by omega)]
   cases ((dZ (c.zip q)).2 != 0)<;>rfl
 · simp only [dQ]
   rw [cK (by omega),cond_false]
theorem aGw {T:TB} {q:List Int} (hT:∀r∈T,r.length=q.length∧∀s∈r,okP s)(hq:okC q)(h:(pP T q).2=0) :
   (pP T q).1.length=T.length∧∀s∈(pP T q).1,q.sum≤s.1∧s.1≤s.2∧vs s:=by
 unfold pP at h ⊢
 cases hs:nJ (fun r:List (Int×Int)=>dZ (r.zip q)) T [] with
 | inr r=>rw [hs] at h;exact absurd h (rK hs)
 | inl m =>
   simp only [pO]
   obtain⟨e,h0⟩:=kY hs
   rw [List.nil_append] at e
   subst e
   refine⟨by rw [List.length_map],fun s hsm=>?_⟩
   obtain⟨r,hr,rfl⟩:=List.mem_map.1 hsm
   obtain⟨hl,hP⟩:=hT r hr
   have hp:=aNg (l:=r.zip q) (fun c hc=>⟨hP _ (List.of_mem_zip hc).1,by have:=hq _ (List.of_mem_zip hc).2;omega⟩) (h0 r hr)
   have:(r.zip q).map (·.2)=q:=List.map_snd_zip (by omega)
   rw [this] at hp
   exact hp
theorem aVe {m:ME} {q:List Int} {d:Int} (h:((gF m q d:Int) != 0)=false):(∀r∈(bS m d).1,r.length≤q.length)∧(bS m d).1.length≤96∧q.length≤96:=by
 rw [zG] at h
 obtain⟨hc,hd⟩:=gJ (bne_eq_false_iff_eq.1 h)
 obtain⟨h1,h2⟩:=aNe (d:=d) (T:=(bS m d).1) (by rw [aI0 hc.v hd]) hc.len.symm.symm
 have:=hc.n;have:=hc.len
 exact⟨fun r hr=>by rw [h2 r hr];omega,by omega,by omega⟩
theorem aY3 {m:ME} {q:List Int} {d:Int} (h:((gF m q d:Int) != 0)=false):(cB m d).1.length=q.length∧(∀r∈(cB m d).1,r.length=q.length)∧q.length≤96:=by
 rw [zG] at h
 obtain⟨hc,hd⟩:=gJ (bne_eq_false_iff_eq.1 h)
 obtain⟨h1,h2⟩:=aNe (d:=d) (T:=(cB m d).1) (by rw [aI1 hc.v hd]) hc.len
 have:=hc.n;have:=hc.len
 exact⟨h1,h2,by omega⟩
theorem eK {m:ME} {q:List Int} {d:Int} (h:((fN m q d:Int) != 0)=false):lZ m m.2.length∧m.2.length≤96∧q.length=m.2.length:=by
 rw [aSc] at h
 obtain⟨hc,hd⟩:=gJ (bne_eq_false_iff_eq.1 h)
 exact⟨(qM (by rw [hc.v];rfl)).1,hc.n.2,hc.len⟩
theorem aCs (m:ME):aN m=aU m:=by
 unfold aN
 rw [aZ (fun v i=>(v,i)) (fun v c=>.inl (v++[eO m c])) (fun v=>v) (L:=m.2) (fun _ _=>True) ?_ (fun _ _ _ _ _ _ _=>trivial) ?_ (by omega) trivial]
 · have snoc:∀(l:List P3) (v:List PN),l.foldl (fun v c=>v++[eO m c]) v=v++l.map (eO m):=by
     intro l
     induction l with
     | nil=>intro v;simp
     | cons c l ih=>intro v;rw [List.foldl_cons,ih];simp
   rw [bM,snoc];rfl
 · intro i c hc v _
   obtain⟨hlt,hce⟩:=List.getElem?_eq_some_iff.1 hc
   simp only [oU]
   rw [bW (by omega),cond_true,bB hc]
   rfl
 · intro v _
   simp only [oU]
   rw [cK (by omega),cond_false]
theorem aSd (m:ME):(aN m).length=m.2.length:=by rw [aCs,List.length_map]
noncomputable def aCt:Code:=(aE [1,1,1,1,1,0,1,0,1,0,1,0,1] [0] (aG Tryz.f107) []).1
noncomputable def aCu (m0:Nat):List K:=(aE [1,1,1,1,1,0,1,0,1,0,1,0,1] [m0] (aG Tryz.f107) []).2
def yE (a0:Zm)(a1:List (Int))(a2:Int)(v10c:List SV)(v10n:Nat)(v11c:List SV)(v11n:Nat)(v12 v13:Int):LS:=⟨iH 84 [(1,(.s 2 0 a1.length 1)),(2,(iv a2)),(9,(.s 3 0 (aN (a0.1,a0.2)).length 9)),(10,(.s 4 0 v10n 2)),(11,(iv v12)),(12,(.s 5 0 v11n 2)),(13,(iv v13))],[(.live false true (flat dT a0.1)),(.live false true (flat eZ a0.2)),(.live false true (flat c3 a1)),(.live true true (flat dK (aN (a0.1,a0.2)))),(.live true true v10c),(.live true true v11c)]⟩
def cW (a0:Zm)(a1:List (Int))(a2:Int):(List (Int×Int))×(List (Int×Int))×Int×Int→((List (Int×Int))×(List (Int×Int))×Int×Int)⊕(((List (Int×Int))×Int)⊕((List (Int×Int))×Int))
 | (v10,v11,v12,v13) =>
  (bif (decide ((v13:Int) < (((aN (a0.1,a0.2)).length:Nat):Int))) then
   (bif (((lY ((aN (a0.1,a0.2)).getD (toNat v13) default) ((aN (a0.1,a0.2)).getD (toNat v12) default) a2).2:Int) != 0) then
    (.inr (.inr (([]:List (Int×Int)),(lY ((aN (a0.1,a0.2)).getD (toNat v13) default) ((aN (a0.1,a0.2)).getD (toNat v12) default) a2).2)))
   else
    (bif (((fW (lY ((aN (a0.1,a0.2)).getD (toNat v13) default) ((aN (a0.1,a0.2)).getD (toNat v12) default) a2).1 (a1.getD (toNat v13) default)).2:Int) != 0) then
     (.inr (.inr (([]:List (Int×Int)),(fW (lY ((aN (a0.1,a0.2)).getD (toNat v13) default) ((aN (a0.1,a0.2)).getD (toNat v12) default) a2).1 (a1.getD (toNat v13) default)).2)))
    else
     (.inl (v10,(v11++[(fW (lY ((aN (a0.1,a0.2)).getD (toNat v13) default) ((aN (a0.1,a0.2)).getD (toNat v12) default) a2).1 (a1.getD (toNat v13) default)).1]),v12,(v13+1)))))
  else
   (bif (((cZ v11).2:Int) != 0) then
    (.inr (.inr (([]:List (Int×Int)),(cZ v11).2)))
   else
    (.inr (.inl ((v10++[(cZ v11).1]),(v12+1))))))
noncomputable def vX:Code:=(aE [1,1,1,1,1,0,1] [] (aG Tryz.f107) []).1
noncomputable def vY:List K:=(aE [1,1,1,1,1,0,1] [] (aG Tryz.f107) []).2
def rT (a0:Zm)(a1:List (Int))(a2:Int)(v8c:List SV)(v8n:Nat)(v9:Int):LS:=⟨iH 84 [(1,(.s 2 0 a1.length 1)),(2,(iv a2)),(9,(.s 3 0 (aN (a0.1,a0.2)).length 9)),(10,(.s 4 0 v8n 2)),(11,(iv v9))],[(.live false true (flat dT a0.1)),(.live false true (flat eZ a0.2)),(.live false true (flat c3 a1)),(.live true true (flat dK (aN (a0.1,a0.2)))),(.live true true v8c)]⟩
def dH (a0:Zm)(a1:List (Int))(a2:Int):(List (Int×Int))×Int→((List (Int×Int))×Int)⊕((List (Int×Int))×Int)
 | (v8,v9) =>
  (bif (decide ((v9:Int) < (((aN (a0.1,a0.2)).length:Nat):Int))) then
   (aB (cW a0 a1 a2) (toNat ((((aN (a0.1,a0.2)).length:Nat):Int) - 0)+1) (v8,([]:List (Int×Int)),v9,0))
  else
   (.inr (v8,0)))
theorem aSe (a0:Zm)(a1:List (Int))(a2:Int)(l0_1:a0.1.length≤9223372036854775807)(l0_2:a0.2.length≤9223372036854775807)(l1:a1.length≤9223372036854775807) {cx:Cx} (hcx:cx.base=3)
   (n0:Nat) (g0:∀(v8:List (Int×Int)) (v9:Int),(0≤v9)∧(v8.length=toNat v9)∧(v9≤(aN (a0.1,a0.2)).length)∧((aN (a0.1,a0.2)).length=a1.length)∧(a1.length≤96)→toNat ((((aN (a0.1,a0.2)).length:Nat):Int) - v9) < n0→Aw.Good Tryz.prog none 9 (bodyPost Tryz.prog Tryz.f107 (RR cx (.t [(.s 3 0 (aB (dH a0 a1 a2) n0 (v8,v9)).1.length 2),(iv (aB (dH a0 a1 a2) n0 (v8,v9)).2)]) [(.live true true (flat cQ (aB (dH a0 a1 a2) n0 (v8,v9)).1))] [])) cx [] (.l vX n0::vY) (rT a0 a1 a2 (flat cQ v8) v8.length v9)):∀(n:Nat) (v10:List (Int×Int)) (v11:List (Int×Int)) (v12 v13:Int),(0≤v13)∧(v11.length=toNat v13)∧(v13≤(aN (a0.1,a0.2)).length)∧(v10.length=toNat v12)∧(0≤v12)∧(v12 < (aN (a0.1,a0.2)).length)∧((aN (a0.1,a0.2)).length=a1.length)∧(a1.length≤96)∧((0≤v12))∧((v10.length=toNat v12))∧((v12≤(aN (a0.1,a0.2)).length))∧(((aN (a0.1,a0.2)).length=a1.length))∧((a1.length≤96))∧(v12 < (((aN (a0.1,a0.2)).length:Nat):Int))∧(toNat ((((aN (a0.1,a0.2)).length:Nat):Int) - v12) < n0+1)→toNat ((((aN (a0.1,a0.2)).length:Nat):Int) - v13) < n→Aw.Good Tryz.prog none 9 (bodyPost Tryz.prog Tryz.f107 (RR cx (.t [(.s 3 0 (iY (dH a0 a1 a2) n0 (aB (cW a0 a1 a2) n (v10,v11,v12,v13))).1.length 2),(iv (iY (dH a0 a1 a2) n0 (aB (cW a0 a1 a2) n (v10,v11,v12,v13))).2)]) [(.live true true (flat cQ (iY (dH a0 a1 a2) n0 (aB (cW a0 a1 a2) n (v10,v11,v12,v13))).1))] [])) cx [] (.l aCt n::aCu n0) (yE a0 a1 a2 (flat cQ v10) v10.length (flat cQ v11) v11.length v12 v13):=by
 intro n
 induction n with
 | zero=>intro v10 v11 v12 v13 hi hn;exact absurd hn (iG _)
 | succ n ih =>
   intro v10 v11 v12 v13 hi hn
   refine aI ?_
   cases h0:(decide ((v13:Int) < (((aN (a0.1,a0.2)).length:Nat):Int))) with
   | true =>
    have q0:=bY h0
    let t1:List (St Tryz.prog):=[.d h0,.i v13 ((aN (a0.1,a0.2)).length),.L cV (aN (a0.1,a0.2)) v13 0 9,.i v12 ((aN (a0.1,a0.2)).length),.L cV (aN (a0.1,a0.2)) v12 0 9,.c [] (bEq ((aN (a0.1,a0.2)).getD (toNat v13) default) ((aN (a0.1,a0.2)).getD (toNat v12) default) a2)]
    cases h1:(((lY ((aN (a0.1,a0.2)).getD (toNat v13) default) ((aN (a0.1,a0.2)).getD (toNat v12) default) a2).2:Int) != 0) with
    | true =>
     have q1:=bne_iff_ne.1 h1
     have e:=Eq.refl (cW a0 a1 a2 (v10,v11,v12,v13));conv at e=>rhs;simp only [cW,h0,h1,aH]
     rw [aF,e]
     exact rt (t1++[.d h1]) [.slot 6 2] [7] hcx (by kernel_rfl)
    | false =>
     have q1:=bne_eq_false_iff_eq.1 h1
     let t2:List (St Tryz.prog):=(t1++[.d h1,.i v13 (a1.length),.L fU a1 v13 0 1,.c [] (bBl (lY ((aN (a0.1,a0.2)).getD (toNat v13) default) ((aN (a0.1,a0.2)).getD (toNat v12) default) a2).1 (a1.getD (toNat v13) default))])
     cases h2:(((fW (lY ((aN (a0.1,a0.2)).getD (toNat v13) default) ((aN (a0.1,a0.2)).getD (toNat v12) default) a2).1 (a1.getD (toNat v13) default)).2:Int) != 0) with
     | true =>
      have q2:=bne_iff_ne.1 h2
      have e:=Eq.refl (cW a0 a1 a2 (v10,v11,v12,v13));conv at e=>rhs;simp only [cW,h0,h1,h2,aH]
      rw [aF,e]
      exact rt (t2++[.d h2]) [.slot 6 2] [7] hcx (by kernel_rfl)
     | false =>
      have q2:=bne_eq_false_iff_eq.1 h2
      have e:=Eq.refl (cW a0 a1 a2 (v10,v11,v12,v13));conv at e=>rhs;simp only [cW,h0,h1,h2,aH]
      rw [aA e]
      refine ba (t2++[.d h2,.p (show((flat cQ v11).length=v11.length*2∧v11.length+1≤2 ^ 40∧(v11.length+1)*16≤2 ^ 47) from gG cA (by omega) (by omega))]) [] [1,2,9,10,11,12,13] [3,4,8] hcx (m:=n) aCt (aCu n0) (yE a0 a1 a2 (flat cQ v10) (v10.length) (flat cQ v11++(k2 (fW (lY ((aN (a0.1,a0.2)).getD (toNat v13) default) ((aN (a0.1,a0.2)).getD (toNat v12) default) a2).1 (a1.getD (toNat v13) default)).1)) (v11.length+1) v12 (W (v13+1))) (by kernel_rfl) ?_
      have z0:(W (v13+1))=(v13+1):=aD (by omega) (by omega)
      have z1:(flat cQ v11++(k2 (fW (lY ((aN (a0.1,a0.2)).getD (toNat v13) default) ((aN (a0.1,a0.2)).getD (toNat v12) default) a2).1 (a1.getD (toNat v13) default)).1))=(flat cQ (v11++[(fW (lY ((aN (a0.1,a0.2)).getD (toNat v13) default) ((aN (a0.1,a0.2)).getD (toNat v12) default) a2).1 (a1.getD (toNat v13) default)).1])):=(bN (c:=cQ) (l:=v11) (m:=[(fW (lY ((aN (a0.1,a0.2)).getD (toNat v13) default) ((aN (a0.1,a0.2)).getD (toNat v12) default) a2).1 (a1.getD (toNat v13) default)).1])).symm
      have z2:(v11.length+1)=(v11++[(fW (lY ((aN (a0.1,a0.2)).getD (toNat v13) default) ((aN (a0.1,a0.2)).getD (toNat v12) default) a2).1 (a1.getD (toNat v13) default)).1]).length:=eH v11 [(fW (lY ((aN (a0.1,a0.2)).getD (toNat v13) default) ((aN (a0.1,a0.2)).getD (toNat v12) default) a2).1 (a1.getD (toNat v13) default)).1] rfl
      rw [z0,z1,z2]
      exact ih v10 (v11++[(fW (lY ((aN (a0.1,a0.2)).getD (toNat v13) default) ((aN (a0.1,a0.2)).getD (toNat v12) default) a2).1 (a1.getD (toNat v13) default)).1]) v12 (v13+1) (by refine⟨?_,?_,?_,?_,?_,?_,?_,?_,?_,?_,?_,?_,?_,?_,?_⟩<;>(try simp only [Ls])<;>first | omega | assumption | exact hi.2.1 | exact hi.2.2.1 | exact hi.2.2.2.1 | exact hi.2.2.2.2.1 | exact hi.2.2.2.2.2.1 | exact hi.2.2.2.2.2.2.1 | exact hi.2.2.2.2.2.2.2.1 | exact hi.2.2.2.2.2.2.2.2.1 | exact hi.2.2.2.2.2.2.2.2.2.1 | exact hi.2.2.2.2.2.2.2.2.2.2.1 | exact hi.2.2.2.2.2.2.2.2.2.2.2.1 | exact hi.2.2.2.2.2.2.2.2.2.2.2.2.1 | exact hi.2.2.2.2.2.2.2.2.2.2.2.2.2.1 | exact hi.2.2.2.2.2.2.2.2.2.2.2.2.2.2.1 | simp) (by(try simp only [Ls]);omega)
   | false =>
    have q0:=cF h0
    let t1:List (St Tryz.prog):=[.d h0,.c [5] (aP3 v11 (by omega))]
    cases h1:(((cZ v11).2:Int) != 0) with
    | true =>
     have q1:=bne_iff_ne.1 h1
     have e:=Eq.refl (cW a0 a1 a2 (v10,v11,v12,v13));conv at e=>rhs;simp only [cW,h0,h1,aH]
     rw [aF,e]
     exact rt (t1++[.d h1]) [.slot 6 2] [7] hcx (by kernel_rfl)
    | false =>
     have q1:=bne_eq_false_iff_eq.1 h1
     have e:=Eq.refl (cW a0 a1 a2 (v10,v11,v12,v13));conv at e=>rhs;simp only [cW,h0,h1,aH]
     rw [aF,e]
     refine ba (t1++[.d h1,.p (show((flat cQ v10).length=v10.length*2∧v10.length+1≤2 ^ 40∧(v10.length+1)*16≤2 ^ 47) from gG cA (by omega) (by omega))]) [] [1,2,9,10,11] [3,8] hcx (m:=n0) vX (vY) (rT a0 a1 a2 (flat cQ v10++(k2 (cZ v11).1)) (v10.length+1) (W (v12+1))) (by kernel_rfl) ?_
     have z0:(W (v12+1))=(v12+1):=aD (by omega) (by omega)
     have z1:(flat cQ v10++(k2 (cZ v11).1))=(flat cQ (v10++[(cZ v11).1])):=(bN (c:=cQ) (l:=v10) (m:=[(cZ v11).1])).symm
     have z2:(v10.length+1)=(v10++[(cZ v11).1]).length:=eH v10 [(cZ v11).1] rfl
     rw [z0,z1,z2]
     exact g0 (v10++[(cZ v11).1]) (v12+1) (by refine⟨?_,?_,?_,?_,?_⟩<;>(try simp only [Ls])<;>first | omega | assumption | simp) (by(try simp only [Ls]);omega)
theorem aSf (a0:Zm)(a1:List (Int))(a2:Int)(l0_1:a0.1.length≤9223372036854775807)(l0_2:a0.2.length≤9223372036854775807)(l1:a1.length≤9223372036854775807) {cx:Cx} (hcx:cx.base=3):∀(n:Nat)(v8:List (Int×Int))(v9:Int),(0≤v9)∧(v8.length=toNat v9)∧(v9≤(aN (a0.1,a0.2)).length)∧((aN (a0.1,a0.2)).length=a1.length)∧(a1.length≤96)→toNat ((((aN (a0.1,a0.2)).length:Nat):Int) - v9) < n→Aw.Good Tryz.prog none 9 (bodyPost Tryz.prog Tryz.f107 (RR cx (.t [(.s 3 0 (aB (dH a0 a1 a2) n (v8,v9)).1.length 2),(iv (aB (dH a0 a1 a2) n (v8,v9)).2)]) [(.live true true (flat cQ (aB (dH a0 a1 a2) n (v8,v9)).1))] [])) cx [] (.l vX n::vY) (rT a0 a1 a2 (flat cQ v8) v8.length v9):=by
 intro n
 induction n with
 | zero=>intro v8 v9 hi hn;exact absurd hn (iG _)
 | succ n ih =>
   intro v8 v9 hi hn
   refine aI ?_
   cases h0:(decide ((v9:Int) < (((aN (a0.1,a0.2)).length:Nat):Int))) with
   | true =>
    have q0:=bY h0
    have e:=Eq.refl (dH a0 a1 a2 (v8,v9));conv at e=>rhs;simp only [dH,h0,aH]
    rw [aF,e]
    refine en [.d h0] [.slot 12 2] [1,2,9,10,11,12,13] [3,4,5] hcx aCt (aCu n) (yE a0 a1 a2 (flat cQ v8) (v8.length) (flat cQ ([]:List (Int×Int))) 0 v9 0) (toNat ((((aN (a0.1,a0.2)).length:Nat):Int) - 0)+1) (by kernel_rfl) ?_
    exact aSe a0 a1 a2 l0_1 l0_2 l1 hcx n ih (toNat ((((aN (a0.1,a0.2)).length:Nat):Int) - 0)+1) v8 ([]:List (Int×Int)) v9 0 (by refine⟨?_,?_,?_,?_,?_,?_,?_,?_,?_,?_,?_,?_,?_,?_,?_⟩<;>(try simp only [Ls])<;>first | omega | assumption | exact hi.2.1 | exact hi.2.2.1 | exact hi.2.2.2.1 | exact hi.2.2.2.2.1 | exact hi.2.2.2.2.2.1 | exact hi.2.2.2.2.2.2.1 | exact hi.2.2.2.2.2.2.2.1 | exact hi.2.2.2.2.2.2.2.2.1 | exact hi.2.2.2.2.2.2.2.2.2.1 | exact hi.2.2.2.2.2.2.2.2.2.2.1 | exact hi.2.2.2.2.2.2.2.2.2.2.2.1 | exact hi.2.2.2.2.2.2.2.2.2.2.2.2.1 | exact hi.2.2.2.2.2.2.2.2.2.2.2.2.2.1 | exact hi.2.2.2.2.2.2.2.2.2.2.2.2.2.2.1 | simp) (by(try simp only [Ls]);omega)
   | false =>
    have q0:=cF h0
    have e:=Eq.refl (dH a0 a1 a2 (v8,v9));conv at e=>rhs;simp only [dH,h0,aH]
    rw [aF,e]
    exact rt [.d h0] [] [4] hcx (by kernel_rfl)
def aS (a0:Zm)(a1:List (Int))(a2:Int):(List (Int×Int))×Int :=
 (bif (((fN (a0.1,a0.2) a1 a2):Int) != 0) then
  (([]:List (Int×Int)),(fN (a0.1,a0.2) a1 a2))
 else
  (aB (dH a0 a1 a2) (toNat ((((aN (a0.1,a0.2)).length:Nat):Int) - 0)+1) (([]:List (Int×Int)),0)))
theorem aSg (a0:Zm)(a1:List (Int))(a2:Int)(l0_1:a0.1.length≤9223372036854775807)(l0_2:a0.2.length≤9223372036854775807)(l1:a1.length≤9223372036854775807):Con Tryz.prog 107 [(.a [(.s 0 0 a0.1.length 3),(.s 1 0 a0.2.length 3)]),(.s 2 0 a1.length 1),(iv a2)] [(.live false true (flat dT a0.1)),(.live false true (flat eZ a0.2)),(.live false true (flat c3 a1))] (.t [(.s 3 0 (aS a0 a1 a2).1.length 2),(iv (aS a0 a1 a2).2)]) [(.live true true (flat cQ (aS a0 a1 a2).1))]:=by
 refine aJ Tryz.func107 (by kernel_rfl) fun cx hcx=>?_
 try have hg1:a0.2.length≤96:=(eK h0).2.1
 try have hg2:a1.length=a0.2.length:=(eK h0).2.2
 have hg3:(aN (a0.1,a0.2)).length=a0.2.length:=aSd (a0.1,a0.2)
 let t0:List (St Tryz.prog):=[.c [0,1,2] (aR4 (a0.1,a0.2) a1 a2 (by(try simp only [Lt]);omega) (by(try simp only [Lt]);omega) (by omega))]
 cases h0:(((fN (a0.1,a0.2) a1 a2):Int) != 0) with
 | true =>
  have q0:=bne_iff_ne.1 h0
  try have hg1:a0.2.length≤96:=(eK h0).2.1
  try have hg2:a1.length=a0.2.length:=(eK h0).2.2
  have e:=Eq.refl (aS a0 a1 a2);conv at e=>rhs;simp only [aS,h0,aH]
  rw [e]
  exact rt (t0++[.d h0]) [.slot 6 2] [4] hcx (by kernel_rfl)
 | false =>
  have q0:=bne_eq_false_iff_eq.1 h0
  try have hg1:a0.2.length≤96:=(eK h0).2.1
  try have hg2:a1.length=a0.2.length:=(eK h0).2.2
  have e:=Eq.refl (aS a0 a1 a2);conv at e=>rhs;simp only [aS,h0,aH]
  rw [e]
  refine en (t0++[.d h0,.c [0,1] (bCq (a0.1,a0.2) (by(try simp only [Lt]);omega) (by(try simp only [Lt]);omega) (eK h0).1 (eK h0).2.1)]) [.slot 10 2] [1,2,9,10,11] [4,5] hcx vX (vY) (rT a0 a1 a2 (flat cQ ([]:List (Int×Int))) 0 0) (toNat ((((aN (a0.1,a0.2)).length:Nat):Int) - 0)+1) (by kernel_rfl) ?_
  exact aSf a0 a1 a2 l0_1 l0_2 l1 hcx (toNat ((((aN (a0.1,a0.2)).length:Nat):Int) - 0)+1) ([]:List (Int×Int)) 0 (by refine⟨?_,?_,?_,?_,?_⟩<;>(try simp only [Ls])<;>first | omega | assumption | simp) (by(try simp only [Ls]);omega)
noncomputable def aCv:Code:=(aE [1,1,1,1,1,0,1,0,1,0,1] [0] (aG Tryz.f110) []).1
noncomputable def aCw (m0:Nat):List K:=(aE [1,1,1,1,1,0,1,0,1,0,1] [m0] (aG Tryz.f110) []).2
def yF (a0:Zm)(a1:List (Int))(a2:Int)(v9c:List SV)(v9n:Nat)(v10 v11:Int):LS:=⟨iH 80 [(1,(.s 2 0 a1.length 1)),(2,(iv a2)),(6,(.p 3 0)),(9,(.s 4 0 (aN (a0.1,a0.2)).length 9)),(10,(.s 5 0 v9n 2)),(11,(iv v10)),(12,(iv v11))],[(.live false true (flat dT a0.1)),(.live false true (flat eZ a0.2)),(.live false true (flat c3 a1)),(.live true false [(iv 0),(iv 0)]),(.live true true (flat dK (aN (a0.1,a0.2)))),(.live true true v9c)]⟩
def dS (a0:Zm)(a1:List (Int))(a2:Int):(List (Int×Int))×Int×Int→((List (Int×Int))×Int×Int)⊕(((List (Int×Int))×Int)⊕((Int×Int)×Int))
 | (v9,v10,v11) =>
  (bif (decide ((v11:Int) < (((aN (a0.1,a0.2)).length:Nat):Int))) then
   (bif (((kX ((aN (a0.1,a0.2)).getD (toNat v10) default) ((aN (a0.1,a0.2)).getD (toNat v11) default) a2).2:Int) != 0) then
    (.inr (.inr ((0,0),(kX ((aN (a0.1,a0.2)).getD (toNat v10) default) ((aN (a0.1,a0.2)).getD (toNat v11) default) a2).2)))
   else
    (bif (((fW (kX ((aN (a0.1,a0.2)).getD (toNat v10) default) ((aN (a0.1,a0.2)).getD (toNat v11) default) a2).1 (W ((a1.getD (toNat v10) default)*(a1.getD (toNat v11) default)))).2:Int) != 0) then
     (.inr (.inr ((0,0),(fW (kX ((aN (a0.1,a0.2)).getD (toNat v10) default) ((aN (a0.1,a0.2)).getD (toNat v11) default) a2).1 (W ((a1.getD (toNat v10) default)*(a1.getD (toNat v11) default)))).2)))
    else
     (.inl ((v9++[(fW (kX ((aN (a0.1,a0.2)).getD (toNat v10) default) ((aN (a0.1,a0.2)).getD (toNat v11) default) a2).1 (W ((a1.getD (toNat v10) default)*(a1.getD (toNat v11) default)))).1]),v10,(v11+1)))))
  else
   (.inr (.inl (v9,(v10+1)))))
noncomputable def vZ:Code:=(aE [1,1,1,1,1,0,1] [] (aG Tryz.f110) []).1
noncomputable def wA:List K:=(aE [1,1,1,1,1,0,1] [] (aG Tryz.f110) []).2
def rU (a0:Zm)(a1:List (Int))(a2:Int)(v7c:List SV)(v7n:Nat)(v8:Int):LS:=⟨iH 80 [(1,(.s 2 0 a1.length 1)),(2,(iv a2)),(6,(.p 3 0)),(9,(.s 4 0 (aN (a0.1,a0.2)).length 9)),(10,(.s 5 0 v7n 2)),(11,(iv v8))],[(.live false true (flat dT a0.1)),(.live false true (flat eZ a0.2)),(.live false true (flat c3 a1)),(.live true false [(iv 0),(iv 0)]),(.live true true (flat dK (aN (a0.1,a0.2)))),(.live true true v7c)]⟩
def eA (a0:Zm)(a1:List (Int))(a2:Int):(List (Int×Int))×Int→((List (Int×Int))×Int)⊕((Int×Int)×Int)
 | (v7,v8) =>
  (bif (decide ((v8:Int) < (((aN (a0.1,a0.2)).length:Nat):Int))) then
   (aB (dS a0 a1 a2) (toNat ((((aN (a0.1,a0.2)).length:Nat):Int) - 0)+1) (v7,v8,0))
  else
   (.inr ((cZ v7).1,(cZ v7).2)))
theorem aSh (a0:Zm)(a1:List (Int))(a2:Int)(l0_1:a0.1.length≤9223372036854775807)(l0_2:a0.2.length≤9223372036854775807)(l1:a1.length≤9223372036854775807) {cx:Cx} (hcx:cx.base=3)
   (n0:Nat) (g0:∀(v7:List (Int×Int)) (v8:Int),(0≤v8)∧(v7.length≤96*toNat v8)∧(v8≤(aN (a0.1,a0.2)).length)∧((aN (a0.1,a0.2)).length=a1.length)∧(a1.length≤96)→toNat ((((aN (a0.1,a0.2)).length:Nat):Int) - v8) < n0→Aw.Good Tryz.prog none 9 (bodyPost Tryz.prog Tryz.f110 (RR cx (.t [(.a (k2 (aB (eA a0 a1 a2) n0 (v7,v8)).1)),(iv (aB (eA a0 a1 a2) n0 (v7,v8)).2)]) [] [])) cx [] (.l vZ n0::wA) (rU a0 a1 a2 (flat cQ v7) v7.length v8)):∀(n:Nat) (v9:List (Int×Int)) (v10 v11:Int),(0≤v11)∧(v9.length≤96*toNat v10+toNat v11)∧(0≤v10)∧(v10 < (aN (a0.1,a0.2)).length)∧(v11≤(aN (a0.1,a0.2)).length)∧((aN (a0.1,a0.2)).length=a1.length)∧(a1.length≤96)∧((0≤v10))∧((v10≤(aN (a0.1,a0.2)).length))∧(((aN (a0.1,a0.2)).length=a1.length))∧((a1.length≤96))∧(v10 < (((aN (a0.1,a0.2)).length:Nat):Int))∧(toNat ((((aN (a0.1,a0.2)).length:Nat):Int) - v10) < n0+1)→toNat ((((aN (a0.1,a0.2)).length:Nat):Int) - v11) < n→Aw.Good Tryz.prog none 9 (bodyPost Tryz.prog Tryz.f110 (RR cx (.t [(.a (k2 (iY (eA a0 a1 a2) n0 (aB (dS a0 a1 a2) n (v9,v10,v11))).1)),(iv (iY (eA a0 a1 a2) n0 (aB (dS a0 a1 a2) n (v9,v10,v11))).2)]) [] [])) cx [] (.l aCv n::aCw n0) (yF a0 a1 a2 (flat cQ v9) v9.length v10 v11):=by
 intro n
 induction n with
 | zero=>intro v9 v10 v11 hi hn;exact absurd hn (iG _)
 | succ n ih =>
   intro v9 v10 v11 hi hn
   refine aI ?_
   cases h0:(decide ((v11:Int) < (((aN (a0.1,a0.2)).length:Nat):Int))) with
   | true =>
    have q0:=bY h0
    let t1:List (St Tryz.prog):=[.d h0,.i v10 ((aN (a0.1,a0.2)).length),.L cV (aN (a0.1,a0.2)) v10 0 9,.i v11 ((aN (a0.1,a0.2)).length),.L cV (aN (a0.1,a0.2)) v11 0 9,.c [] (bEv ((aN (a0.1,a0.2)).getD (toNat v10) default) ((aN (a0.1,a0.2)).getD (toNat v11) default) a2)]
    cases h1:(((kX ((aN (a0.1,a0.2)).getD (toNat v10) default) ((aN (a0.1,a0.2)).getD (toNat v11) default) a2).2:Int) != 0) with
    | true =>
     have q1:=bne_iff_ne.1 h1
     have e:=Eq.refl (dS a0 a1 a2 (v9,v10,v11));conv at e=>rhs;simp only [dS,h0,h1,aH]
     rw [aF,e]
     exact rt (t1++[.d h1]) [] [] hcx (by kernel_rfl)
    | false =>
     have q1:=bne_eq_false_iff_eq.1 h1
     let t2:List (St Tryz.prog):=(t1++[.d h1,.i v10 (a1.length),.L fU a1 v10 0 1,.i v11 (a1.length),.L fU a1 v11 0 1,.c [] (bBl (kX ((aN (a0.1,a0.2)).getD (toNat v10) default) ((aN (a0.1,a0.2)).getD (toNat v11) default) a2).1 (W ((a1.getD (toNat v10) default)*(a1.getD (toNat v11) default))))])
     cases h2:(((fW (kX ((aN (a0.1,a0.2)).getD (toNat v10) default) ((aN (a0.1,a0.2)).getD (toNat v11) default) a2).1 (W ((a1.getD (toNat v10) default)*(a1.getD (toNat v11) default)))).2:Int) != 0) with
     | true =>
      have q2:=bne_iff_ne.1 h2
      have e:=Eq.refl (dS a0 a1 a2 (v9,v10,v11));conv at e=>rhs;simp only [dS,h0,h1,h2,aH]
      rw [aF,e]
      exact rt (t2++[.d h2]) [] [] hcx (by kernel_rfl)
     | false =>
      have q2:=bne_eq_false_iff_eq.1 h2
      have e:=Eq.refl (dS a0 a1 a2 (v9,v10,v11));conv at e=>rhs;simp only [dS,h0,h1,h2,aH]
      rw [aA e]
      refine ba (t2++[.d h2,.p (show((flat cQ v9).length=v9.length*2∧v9.length+1≤2 ^ 40∧(v9.length+1)*16≤2 ^ 47) from gG cA (by omega) (by omega))]) [] [1,2,6,9,10,11,12] [3,4,8] hcx (m:=n) aCv (aCw n0) (yF a0 a1 a2 (flat cQ v9++(k2 (fW (kX ((aN (a0.1,a0.2)).getD (toNat v10) default) ((aN (a0.1,a0.2)).getD (toNat v11) default) a2).1 (W ((a1.getD (toNat v10) default)*(a1.getD (toNat v11) default)))).1)) (v9.length+1) v10 (W (v11+1))) (by kernel_rfl) ?_
      have z0:(W (v11+1))=(v11+1):=aD (by omega) (by omega)
      have z1:(flat cQ v9++(k2 (fW (kX ((aN (a0.1,a0.2)).getD (toNat v10) default) ((aN (a0.1,a0.2)).getD (toNat v11) default) a2).1 (W ((a1.getD (toNat v10) default)*(a1.getD (toNat v11) default)))).1))=(flat cQ (v9++[(fW (kX ((aN (a0.1,a0.2)).getD (toNat v10) default) ((aN (a0.1,a0.2)).getD (toNat v11) default) a2).1 (W ((a1.getD (toNat v10) default)*(a1.getD (toNat v11) default)))).1])):=(bN (c:=cQ) (l:=v9) (m:=[(fW (kX ((aN (a0.1,a0.2)).getD (toNat v10) default) ((aN (a0.1,a0.2)).getD (toNat v11) default) a2).1 (W ((a1.getD (toNat v10) default)*(a1.getD (toNat v11) default)))).1])).symm
      have z2:(v9.length+1)=(v9++[(fW (kX ((aN (a0.1,a0.2)).getD (toNat v10) default) ((aN (a0.1,a0.2)).getD (toNat v11) default) a2).1 (W ((a1.getD (toNat v10) default)*(a1.getD (toNat v11) default)))).1]).length:=eH v9 [(fW (kX ((aN (a0.1,a0.2)).getD (toNat v10) default) ((aN (a0.1,a0.2)).getD (toNat v11) default) a2).1 (W ((a1.getD (toNat v10) default)*(a1.getD (toNat v11) default)))).1] rfl
      rw [z0,z1,z2]
      exact ih (v9++[(fW (kX ((aN (a0.1,a0.2)).getD (toNat v10) default) ((aN (a0.1,a0.2)).getD (toNat v11) default) a2).1 (W ((a1.getD (toNat v10) default)*(a1.getD (toNat v11) default)))).1]) v10 (v11+1) (by refine⟨?_,?_,?_,?_,?_,?_,?_,?_,?_,?_,?_,?_,?_⟩<;>(try simp only [Ls])<;>first | omega | assumption | exact hi.2.1 | exact hi.2.2.1 | exact hi.2.2.2.1 | exact hi.2.2.2.2.1 | exact hi.2.2.2.2.2.1 | exact hi.2.2.2.2.2.2.1 | exact hi.2.2.2.2.2.2.2.1 | exact hi.2.2.2.2.2.2.2.2.1 | exact hi.2.2.2.2.2.2.2.2.2.1 | exact hi.2.2.2.2.2.2.2.2.2.2.1 | exact hi.2.2.2.2.2.2.2.2.2.2.2.1 | exact hi.2.2.2.2.2.2.2.2.2.2.2.2.1 | simp) (by(try simp only [Ls]);omega)
   | false =>
    have q0:=cF h0
    have e:=Eq.refl (dS a0 a1 a2 (v9,v10,v11));conv at e=>rhs;simp only [dS,h0,aH]
    rw [aF,e]
    refine ba [.d h0] [] [1,2,6,9,10,11] [3,4,5] hcx (m:=n0) vZ (wA) (rU a0 a1 a2 (flat cQ v9) (v9.length) (W (v10+1))) (by kernel_rfl) ?_
    have z0:(W (v10+1))=(v10+1):=aD (by omega) (by omega)
    rw [z0]
    exact g0 v9 (v10+1) (by refine⟨?_,?_,?_,?_,?_⟩<;>(try simp only [Ls])<;>first | omega | assumption | simp) (by(try simp only [Ls]);omega)
theorem aSi (a0:Zm)(a1:List (Int))(a2:Int)(l0_1:a0.1.length≤9223372036854775807)(l0_2:a0.2.length≤9223372036854775807)(l1:a1.length≤9223372036854775807) {cx:Cx} (hcx:cx.base=3):∀(n:Nat)(v7:List (Int×Int))(v8:Int),(0≤v8)∧(v7.length≤96*toNat v8)∧(v8≤(aN (a0.1,a0.2)).length)∧((aN (a0.1,a0.2)).length=a1.length)∧(a1.length≤96)→toNat ((((aN (a0.1,a0.2)).length:Nat):Int) - v8) < n→Aw.Good Tryz.prog none 9 (bodyPost Tryz.prog Tryz.f110 (RR cx (.t [(.a (k2 (aB (eA a0 a1 a2) n (v7,v8)).1)),(iv (aB (eA a0 a1 a2) n (v7,v8)).2)]) [] [])) cx [] (.l vZ n::wA) (rU a0 a1 a2 (flat cQ v7) v7.length v8):=by
 intro n
 induction n with
 | zero=>intro v7 v8 hi hn;exact absurd hn (iG _)
 | succ n ih =>
   intro v7 v8 hi hn
   refine aI ?_
   cases h0:(decide ((v8:Int) < (((aN (a0.1,a0.2)).length:Nat):Int))) with
   | true =>
    have q0:=bY h0
    have e:=Eq.refl (eA a0 a1 a2 (v7,v8));conv at e=>rhs;simp only [eA,h0,aH]
    rw [aF,e]
    refine en [.d h0] [] [1,2,6,9,10,11,12] [3,4,5] hcx aCv (aCw n) (yF a0 a1 a2 (flat cQ v7) (v7.length) v8 0) (toNat ((((aN (a0.1,a0.2)).length:Nat):Int) - 0)+1) (by kernel_rfl) ?_
    exact aSh a0 a1 a2 l0_1 l0_2 l1 hcx n ih (toNat ((((aN (a0.1,a0.2)).length:Nat):Int) - 0)+1) v7 v8 0 (by refine⟨?_,?_,?_,?_,?_,?_,?_,?_,?_,?_,?_,?_,?_⟩<;>(try simp only [Ls])<;>first | omega | assumption | exact hi.2.1 | exact hi.2.2.1 | exact hi.2.2.2.1 | exact hi.2.2.2.2.1 | exact hi.2.2.2.2.2.1 | exact hi.2.2.2.2.2.2.1 | exact hi.2.2.2.2.2.2.2.1 | exact hi.2.2.2.2.2.2.2.2.1 | exact hi.2.2.2.2.2.2.2.2.2.1 | exact hi.2.2.2.2.2.2.2.2.2.2.1 | exact hi.2.2.2.2.2.2.2.2.2.2.2.1 | exact hi.2.2.2.2.2.2.2.2.2.2.2.2.1 | simp) (by(try simp only [Ls]);omega)
   | false =>
    have q0:=cF h0
    have e:=Eq.refl (eA a0 a1 a2 (v7,v8));conv at e=>rhs;simp only [eA,h0,aH]
    rw [aF,e]
    exact rt [.d h0,.c [5] (aP3 v7 (by omega))] [] [] hcx (by kernel_rfl)
def fX (a0:Zm)(a1:List (Int))(a2:Int):(Int×Int)×Int :=
 (bif (((fN (a0.1,a0.2) a1 a2):Int) != 0) then
  ((0,0),(fN (a0.1,a0.2) a1 a2))
 else
  (aB (eA a0 a1 a2) (toNat ((((aN (a0.1,a0.2)).length:Nat):Int) - 0)+1) (([]:List (Int×Int)),0)))
theorem aY4 (a0:Zm)(a1:List (Int))(a2:Int)(l0_1:a0.1.length≤9223372036854775807)(l0_2:a0.2.length≤9223372036854775807)(l1:a1.length≤9223372036854775807):Con Tryz.prog 110 [(.a [(.s 0 0 a0.1.length 3),(.s 1 0 a0.2.length 3)]),(.s 2 0 a1.length 1),(iv a2)] [(.live false true (flat dT a0.1)),(.live false true (flat eZ a0.2)),(.live false true (flat c3 a1))] (.t [(.a (k2 (fX a0 a1 a2).1)),(iv (fX a0 a1 a2).2)]) []:=by
 refine aJ Tryz.func110 (by kernel_rfl) fun cx hcx=>?_
 try have hg1:a0.2.length≤96:=(eK h0).2.1
 try have hg2:a1.length=a0.2.length:=(eK h0).2.2
 have hg3:(aN (a0.1,a0.2)).length=a0.2.length:=aSd (a0.1,a0.2)
 let t0:List (St Tryz.prog):=[.c [0,1,2] (aR4 (a0.1,a0.2) a1 a2 (by(try simp only [Lt]);omega) (by(try simp only [Lt]);omega) (by omega))]
 cases h0:(((fN (a0.1,a0.2) a1 a2):Int) != 0) with
 | true =>
  have q0:=bne_iff_ne.1 h0
  try have hg1:a0.2.length≤96:=(eK h0).2.1
  try have hg2:a1.length=a0.2.length:=(eK h0).2.2
  have e:=Eq.refl (fX a0 a1 a2);conv at e=>rhs;simp only [fX,h0,aH]
  rw [e]
  exact rt (t0++[.d h0]) [] [] hcx (by kernel_rfl)
 | false =>
  have q0:=bne_eq_false_iff_eq.1 h0
  try have hg1:a0.2.length≤96:=(eK h0).2.1
  try have hg2:a1.length=a0.2.length:=(eK h0).2.2
  have e:=Eq.refl (fX a0 a1 a2);conv at e=>rhs;simp only [fX,h0,aH]
  rw [e]
  refine en (t0++[.d h0,.c [0,1] (bCq (a0.1,a0.2) (by(try simp only [Lt]);omega) (by(try simp only [Lt]);omega) (eK h0).1 (eK h0).2.1)]) [.slot 10 2] [1,2,6,9,10,11] [4,5,6] hcx vZ (wA) (rU a0 a1 a2 (flat cQ ([]:List (Int×Int))) 0 0) (toNat ((((aN (a0.1,a0.2)).length:Nat):Int) - 0)+1) (by kernel_rfl) ?_
  exact aSi a0 a1 a2 l0_1 l0_2 l1 hcx (toNat ((((aN (a0.1,a0.2)).length:Nat):Int) - 0)+1) ([]:List (Int×Int)) 0 (by refine⟨?_,?_,?_,?_,?_⟩<;>(try simp only [Ls])<;>first | omega | assumption | simp) (by(try simp only [Ls]);omega)
theorem rV {α β R:Type} {g:α→β×Int} {E:Int→R}:∀(l:List α)(t:List β),iT (fun t c=>bif ((g c).2 != 0) then .inr (E (g c).2) else .inl (t++[(g c).1])) l t=(match nJ g l t with | .inl m=>.inl m | .inr e=>.inr (E e))
 | [],t=>rfl
 | c::l,t=>by
   unfold nJ
   simp only [iT]
   by_cases h:(g c).2=0
   · rw [if_pos h,h]
     exact rV l (t++[(g c).1])
   · rw [if_neg h,bne_iff_ne.2 h];rfl
theorem wB {α β γ:Type} {g:α→β×Int} {g':γ→β×Int} {f:γ→α}:∀{k:List γ} {m:List β},(∀c∈k,g (f c)=g' c)→nJ g (k.map f) m=nJ g' k m
 | [],_,_=>rfl
 | c::k,m,h=>by
   simp only [List.map_cons,nJ]
   rw [h c List.mem_cons_self,wB (k:=k) (fun x hx=>h x (List.mem_cons_of_mem _ hx))]
noncomputable def fY (m:ME)(d:Int)(pj:PN):List (Int×Int):=(aU m).map fun p=>(uH p pj d).1
theorem aNi {α β γ:Type} (f:α→γ):∀(l:List α)(k:List β),(l.map f).zip k=(l.zip k).map (fun c=>(f c.1,c.2))
 | [],_=>by simp
 | _::_,[]=>by simp
 | a::l,b::k=>by simp [aNi f l k]
theorem aI2 {a:Int×Int} {n:Int} (ha:okP a)(hn:0≤n∧n≤10000):fW a n=nW a n:=by
 rw [aGe (aGv ha) (by omega),aUv (aGv ha) (by omega)]
theorem aY5 {m:ME} {q:List Int} {d:Int} (hc:ChOK m q)(hd:0≤d∧d≤2)(out:List (Int×Int))(j:Nat) {pj:PN} (hj:(aU m)[j]? = some pj) :
   aB (cW m q d) (toNat ((((aU m).length:Nat):Int) - 0)+1) (out,[],(j:Int),0) =
     bif ((dZ ((fY m d pj).zip q)).2 != 0) then .inr ([],(dZ ((fY m d pj).zip q)).2) else .inl (out++[(dZ ((fY m d pj).zip q)).1],(j:Int)+1):=by
 have hR:aN (m.1,m.2)=aU m:=aCs m
 have hpl:(aU m).length=m.2.length:=List.length_map _
 have hlen:=hc.len
 have hz:((aU m).zip q).length=(aU m).length:=by rw [List.length_zip];omega
 have hpj:=List.mem_of_getElem? hj
 have hn:=hc.n
 let g:PN×Int→(Int×Int)×Int:=fun c=>nW (uH c.1 pj d).1 c.2
 have key:=aZ (S:=cW m q d) (fun terms i=>(out,terms,(j:Int),i)) (fun t c=>bif ((g c).2 != 0) then .inr (.inr ([],(g c).2)) else .inl (t++[(g c).1]))
   (fun terms=>bif ((cZ terms).2 != 0) then .inr ([],(cZ terms).2) else .inl (out++[(cZ terms).1],(j:Int)+1)) (L:=(aU m).zip q) (v:=[]) (n:=toNat ((((aU m).length:Nat):Int) - 0)+1) (fun _ _=>True) ?_ (fun _ _ _ _ _ _ _=>trivial) ?_ (by omega) trivial
 · refine Eq.trans key ?_
   rw [rV (g:=g) (E:=fun e=>(Sum.inr (([]:List (Int×Int)),e):(List (Int×Int)×Int)⊕(List (Int×Int)×Int))) ((aU m).zip q) []]
   have e:dZ ((fY m d pj).zip q)=pO aKx (fun e=>((0,0),e)) (nJ g ((aU m).zip q) []):=by
     unfold dZ fY
     rw [aNi,wB (g:=sF) (g':=g) (f:=fun c:PN×Int=>((uH c.1 pj d).1,c.2)) (fun c _=>rfl)]
   rw [e]
   cases hs:nJ g ((aU m).zip q) [] with
   | inr r =>
     have:=rK hs
     simp only [aCf,pO]
     rw [bne_iff_ne.2 this];rfl
   | inl t =>
     simp only [aCf,pO]
     obtain⟨e2,h0⟩:=kY hs
     rw [List.nil_append] at e2
     have hS:=aWl (l:=t) (fun a ha=>by
       rw [e2] at ha
       obtain⟨c,hcm,rfl⟩:=List.mem_map.1 ha
       exact aIx (h0 c hcm)) (by rw [e2,List.length_map];omega)
     rw [hS]
 · intro i c hi terms _
   obtain⟨h1,h2⟩:=List.getElem?_zip_eq_some.1 hi
   have hlt:=(List.getElem?_eq_some_iff.1 h1).1
   have hcp:=List.mem_of_getElem? h1
   have hcq:=hc.ok _ (List.mem_of_getElem? h2)
   obtain⟨b0,bP⟩:=kK (mA hc.v hd hcp hpj)
   simp only [cW]
   rw [hR,bW (by omega),cond_true,bB h1,bB h2,bB hj,←aKq,b0,aI2 bP (by omega)]
   show(bif ((g c).2 != 0) then _ else _)=_
   cases ((g c).2 != 0)<;>rfl
 · intro terms _
   simp only [cW]
   rw [hR,cK (by omega),cond_false]
   cases ((cZ terms).2 != 0)<;>rfl
noncomputable def iX (m:ME)(q:List Int)(d:Int):List (Int×Int)×Int:=bif (chD m q d != 0) then([],chD m q d) else pP ((aU m).map (fY m d)) q
theorem sT (m:ME)(q:List Int)(d:Int):aS m q d=iX m q d:=by
 unfold aS iX
 rw [show fN (m.1,m.2) q d=chD m q d from aSc m q d]
 cases h:(chD m q d != 0) with
 | true=>rfl
 | false =>
   obtain⟨hc,hd⟩:=gJ (bne_eq_false_iff_eq.1 h)
   have hR:aN (m.1,m.2)=aU m:=aCs m
   rw [hR,cond_false,cond_false]
   have key:=aZ (S:=dH m q d) (fun out j=>(out,j)) (fun out pj=>bif ((dZ ((fY m d pj).zip q)).2 != 0) then .inr ([],(dZ ((fY m d pj).zip q)).2) else .inl (out++[(dZ ((fY m d pj).zip q)).1])) (fun out=>(out,0)) (L:=aU m) (v:=[]) (n:=toNat ((((aU m).length:Nat):Int) - 0)+1) (fun _ _=>True) ?_ (fun _ _ _ _ _ _ _=>trivial) ?_ (by omega) trivial
   · refine Eq.trans key ?_
     rw [rV (g:=fun pj=>dZ ((fY m d pj).zip q)) (E:=fun e=>([],e)) (aU m) []]
     unfold pP
     rw [wB (g:=fun r:List (Int×Int)=>dZ (r.zip q)) (g':=fun pj=>dZ ((fY m d pj).zip q)) (fun c _=>rfl)]
     cases nJ (fun pj=>dZ ((fY m d pj).zip q)) (aU m) []<;>rfl
   · intro j pj hj out _
     obtain⟨hlt,hce⟩:=List.getElem?_eq_some_iff.1 hj
     simp only [dH]
     rw [hR,bW (by omega),cond_true,aY5 hc hd out j hj]
     cases ((dZ ((fY m d pj).zip q)).2 != 0)<;>rfl
   · intro out _
     simp only [dH]
     rw [hR,cK (by omega),cond_false]
theorem aNj {α β:Type} {g:α→β×Int}:∀{k k':List α} {m:List β},nJ g (k++k') m=(match nJ g k m with | .inl m'=>nJ g k' m' | .inr e=>.inr e)
 | [],_,_=>rfl
 | c::k,k',m=>by
   simp only [List.cons_append,nJ]
   by_cases h:(g c).2=0
   · rw [if_pos h,if_pos h];exact aNj
   · rw [if_neg h,if_neg h]
def cY {γ R:Type} (E:Int→R):List γ⊕Int→List γ⊕R
 | .inl m=>.inl m
 | .inr e=>.inr (E e)
theorem aCx {α β γ R:Type} {g:β→γ×Int} {cs:α→List β} {E:Int→R}:∀(L:List α)(t:List γ),iT (fun t c=>cY E (nJ g (cs c) t)) L t=cY E (nJ g (L.flatMap cs) t)
 | [],_=>rfl
 | c::L,t=>by
   rw [List.flatMap_cons,aNj]
   simp only [iT]
   cases nJ g (cs c) t with
   | inl m=>exact aCx L m
   | inr e=>rfl
theorem aEt {α β γ:Type} (fx:α→List β)(fy:α→List γ)(hl:∀c,(fx c).length=(fy c).length):∀(L:List α)(v:List β×List γ),v.1.length=v.2.length →
   (L.foldl (fun v c=>(v.1++fx c,v.2++fy c)) v).1.length=(L.foldl (fun v c=>(v.1++fx c,v.2++fy c)) v).2.length ∧
   (L.foldl (fun v c=>(v.1++fx c,v.2++fy c)) v).1.zip (L.foldl (fun v c=>(v.1++fx c,v.2++fy c)) v).2=v.1.zip v.2++L.flatMap (fun c=>(fx c).zip (fy c))
 | [],v,h=>⟨h,by simp⟩
 | c::L,v,h=>by
   have ih:=aEt fx fy hl L (v.1++fx c,v.2++fy c) (by simp only [List.length_append];rw [h,hl c])
   rw [List.foldl_cons]
   refine⟨ih.1,ih.2.trans ?_⟩
   simp only [List.flatMap_cons]
   rw [List.zip_append h,List.append_assoc]
theorem aEu {α β γ:Type} (fx:α→List β)(fy:α→List γ)(n:Nat)(hn:∀c,(fx c).length≤n):∀(L:List α)(v:List β×List γ),(L.foldl (fun v c=>(v.1++fx c,v.2++fy c)) v).1.length≤v.1.length+n*L.length
 | [],v=>by simp
 | c::L,v=>by
   have ih:=aEu fx fy n hn L (v.1++fx c,v.2++fy c)
   have:=hn c
   rw [List.foldl_cons,List.length_cons,Nat.mul_succ]
   simp only [List.length_append] at ih
   omega
noncomputable def eC (m:ME)(q:List Int)(d:Int)(c:PN×Int):List ((Int×Int)×Int):=((aU m).zip q).map fun e=>((pQ c.1 e.1 d).1,W (c.2*e.2))
noncomputable def eX (m:ME)(q:List Int)(d:Int)(c:PN×Int):List (Int×Int):=((aU m).zip q).map fun e=>(pQ c.1 e.1 d).1
noncomputable def eY (m:ME)(q:List Int)(c:PN×Int):List Int:=((aU m).zip q).map fun e=>W (c.2*e.2)
theorem eXY (m:ME)(q:List Int)(d:Int)(c:PN×Int):(eX m q d c).zip (eY m q c)=eC m q d c:=by
 unfold eX eY eC
 generalize (aU m).zip q=L
 induction L with
 | nil=>rfl
 | cons e L ih=>simp only [List.map_cons,List.zip_cons_cons,ih]
theorem aY6 {α β γ:Type} (g:α→β)(h:α→γ)(l:List α)(v:List β×List γ):l.foldl (fun v c=>(v.1++[g c],v.2++[h c])) v=(v.1++l.map g,v.2++l.map h):=by
 induction l generalizing v with
 | nil=>simp
 | cons c l ih=>rw [List.foldl_cons,ih];simp
noncomputable def MT (m:ME)(d:Int):TB:=(aU m).map fun q=>(aU m).map fun p=>(pQ p q d).1
noncomputable def EnV (m:ME)(q:List Int)(d:Int):(Int×Int)×Int:=bif (chD m q d != 0) then((0,0),chD m q d) else dZ (((aU m).zip q).flatMap (eC m q d))
theorem aY7 {m:ME} {d:Int} {i j:Nat} {p r:PN} (hi:(aU m)[i]? = some p)(hj:(aU m)[j]? = some r):((MT m d).getD (toNat (j:Int)) default).getD (toNat (i:Int)) default=(pQ p r d).1:=by
 have e1:(MT m d)[j]? = some ((aU m).map fun p=>(pQ p r d).1):=by unfold MT;rw [List.getElem?_map,hj];rfl
 rw [bB e1]
 have e2:((aU m).map fun p=>(pQ p r d).1)[i]? = some (pQ p r d).1:=by rw [List.getElem?_map,hi];rfl
 rw [bB e2]
theorem aY8 {m:ME} {q:List Int} {d:Int} (hl:(aU m).length=q.length)(xs:List (Int×Int))(ys:List Int)(i:Nat) {c:PN×Int} (hi:((aU m).zip q)[i]? = some c) :
   aB (eU (MT m d) q) (toNat ((q.length:Int) - 0)+1) (xs,ys,(i:Int),c.2,(i:Int),0)=.inl (xs++eX m q d c,ys++eY m q c,(i:Int)+1):=by
 obtain⟨hi1,hi2⟩:=List.getElem?_zip_eq_some.1 hi
 have hz:((aU m).zip q).length=q.length:=by rw [List.length_zip];omega
 have key:=aZ (S:=eU (MT m d) q) (fun(v:List (Int×Int)×List Int) j=>(v.1,v.2,(i:Int),c.2,(i:Int),j)) (fun v e=>.inl (v.1++[(pQ c.1 e.1 d).1],v.2++[W (c.2*e.2)])) (fun v=>.inl (v.1,v.2,(i:Int)+1)) (L:=(aU m).zip q) (v:=(xs,ys)) (n:=toNat ((q.length:Int) - 0)+1) (fun _ _=>True) ?_ (fun _ _ _ _ _ _ _=>trivial) ?_ (by omega) trivial
 · refine Eq.trans key ?_
   rw [bM,aY6];rfl
 · intro j e hj v _
   obtain⟨h1,h2⟩:=List.getElem?_zip_eq_some.1 hj
   have hlt:=(List.getElem?_eq_some_iff.1 h2).1
   simp only [eU]
   rw [bW (by omega),cond_true,aY7 hi1 h1,bB h2]
   rfl
 · intro v _
   simp only [eU]
   rw [cK (by omega),cond_false]
theorem aY9 {m:ME} {q:List Int} {d:Int} (hl:(aU m).length=q.length)(hm:q.length≤96):cT (MT m d) q=dZ (((aU m).zip q).flatMap (eC m q d)):=by
 have hz:((aU m).zip q).length=q.length:=by rw [List.length_zip];omega
 unfold cT
 have key:=aZ (S:=dJ (MT m d) q) (fun(v:List (Int×Int)×List Int) i=>(v.1,v.2,i)) (fun v c=>.inl (v.1++eX m q d c,v.2++eY m q c)) (fun v=>((dC v.1 v.2).1,(dC v.1 v.2).2)) (L:=(aU m).zip q) (v:=([],[])) (n:=toNat ((q.length:Int) - 0)+1) (fun _ _=>True) ?_ (fun _ _ _ _ _ _ _=>trivial) ?_ (by omega) trivial
 · refine Eq.trans key ?_
   rw [bM]
   obtain⟨h1,h2⟩:=aEt (eX m q d) (eY m q) (fun c=>by unfold eX eY;rw [List.length_map,List.length_map]) ((aU m).zip q) ([],[]) rfl
   have h3:=aEu (eX m q d) (eY m q) 96 (fun c=>by unfold eX;rw [List.length_map];omega) ((aU m).zip q) ([],[])
   simp only [List.length_nil] at h3
   simp only [aCf]
   rw [aWp (by omega) (by omega),h2]
   simp only [eXY,List.zip_nil_left,List.nil_append]
 · intro i c hi v _
   obtain⟨h1,h2⟩:=List.getElem?_zip_eq_some.1 hi
   have hlt:=(List.getElem?_eq_some_iff.1 h2).1
   simp only [dJ]
   rw [bW (by omega),cond_true,bB h2,aY8 hl v.1 v.2 i hi]
   rfl
 · intro v _
   simp only [dJ]
   rw [cK (by omega),cond_false]
theorem bCx {m:ME} {q:List Int} {d:Int} (hc:ChOK m q)(hd:0≤d∧d≤2)(i:Nat) {c:PN×Int} (hi:((aU m).zip q)[i]? = some c)(t:List (Int×Int)) :
   aB (dS m q d) (toNat ((((aU m).length:Nat):Int) - 0)+1) (t,(i:Int),0) =
     (match nJ sF (eC m q d c) t with | .inl t'=>.inl (t',(i:Int)+1) | .inr e=>.inr ((0,0),e)):=by
 have hR:aN (m.1,m.2)=aU m:=aCs m
 have hpl:(aU m).length=m.2.length:=List.length_map _
 have hlen:=hc.len
 have hz:((aU m).zip q).length=(aU m).length:=by rw [List.length_zip];omega
 obtain⟨hi1,hi2⟩:=List.getElem?_zip_eq_some.1 hi
 have hip:=List.mem_of_getElem? hi1
 have hiq:=hc.ok _ (List.mem_of_getElem? hi2)
 let g:PN×Int→(Int×Int)×Int:=fun e=>nW (pQ c.1 e.1 d).1 (W (c.2*e.2))
 have key:=aZ (S:=dS m q d) (fun t j=>(t,(i:Int),j)) (fun t e=>bif ((g e).2 != 0) then .inr (.inr ((0,0),(g e).2)) else .inl (t++[(g e).1]))
   (fun t=>.inl (t,(i:Int)+1)) (L:=(aU m).zip q) (v:=t) (n:=toNat ((((aU m).length:Nat):Int) - 0)+1) (fun _ _=>True) ?_ (fun _ _ _ _ _ _ _=>trivial) ?_ (by omega) trivial
 · refine Eq.trans key ?_
   rw [rV (g:=g) (E:=fun e=>(Sum.inr ((0,0),e):(List (Int×Int)×Int)⊕((Int×Int)×Int))) ((aU m).zip q) t]
   have e:nJ sF (eC m q d c) t=nJ g ((aU m).zip q) t:=by
     unfold eC
     rw [wB (g:=sF) (g':=g) (f:=fun e:PN×Int=>((pQ c.1 e.1 d).1,W (c.2*e.2))) (fun c _=>rfl)]
   rw [e]
   cases nJ g ((aU m).zip q) t<;>rfl
 · intro j e hj t _
   obtain⟨h1,h2⟩:=List.getElem?_zip_eq_some.1 hj
   have hlt:=(List.getElem?_eq_some_iff.1 h1).1
   have hcp:=List.mem_of_getElem? h1
   have hcq:=hc.ok _ (List.mem_of_getElem? h2)
   obtain⟨b0,bP⟩:=oW (mA hc.v hd hip hcp)
   have hM:kX c.1 e.1 d=pQ c.1 e.1 d:=by rw [aCb,aQz]
   have p0:0≤c.2*e.2:=Int.mul_nonneg hiq.1 hcq.1
   have p1:c.2*e.2≤100*100:=Int.mul_le_mul hiq.2 hcq.2 hcq.1 (by omega)
   have hW:W (c.2*e.2)=c.2*e.2:=aD (by omega) (by omega)
   simp only [dS]
   rw [hR,bW (by omega),cond_true,bB h1,bB h2,bB hi1,bB hi2,hM,b0,aI2 bP (by omega)]
   show(bif ((g e).2 != 0) then _ else _)=_
   cases ((g e).2 != 0)<;>rfl
 · intro t _
   simp only [dS]
   rw [hR,cK (by omega),cond_false]
theorem bCy (m:ME)(q:List Int)(d:Int):fX m q d=EnV m q d:=by
 unfold fX EnV
 rw [show fN (m.1,m.2) q d=chD m q d from aSc m q d]
 cases h:(chD m q d != 0) with
 | true=>rfl
 | false =>
   obtain⟨hc,hd⟩:=gJ (bne_eq_false_iff_eq.1 h)
   have hn:=hc.n;have hlen:=hc.len
   have hR:aN (m.1,m.2)=aU m:=aCs m
   have hpl:(aU m).length=m.2.length:=List.length_map _
   have hz:((aU m).zip q).length=(aU m).length:=by rw [List.length_zip];omega
   rw [hR,cond_false,cond_false]
   have key:=aZ (S:=eA m q d) (fun t i=>(t,i)) (fun t c=>cY (fun e=>(((0,0):Int×Int),e)) (nJ sF (eC m q d c) t)) (fun t=>((cZ t).1,(cZ t).2)) (L:=(aU m).zip q) (v:=[]) (n:=toNat ((((aU m).length:Nat):Int) - 0)+1) (fun _ _=>True) ?_ (fun _ _ _ _ _ _ _=>trivial) ?_ (by omega) trivial
   · refine Eq.trans key ?_
     rw [aCx]
     unfold dZ
     have hfl:(((aU m).zip q).flatMap (eC m q d)).length≤9216:=by
       have:∀L:List (PN×Int),(L.flatMap (eC m q d)).length≤96*L.length:=by
         intro L
         induction L with
         | nil=>simp
         | cons c L ih =>
           have:(eC m q d c).length≤96:=by unfold eC;rw [List.length_map];omega
           rw [List.flatMap_cons,List.length_append,List.length_cons];omega
       have:=this ((aU m).zip q)
       omega
     cases hs:nJ sF (((aU m).zip q).flatMap (eC m q d)) [] with
     | inr r=>rfl
     | inl t =>
       obtain⟨hv,hm⟩:=aNf hs hfl
       simp only [cY,aCf,pO]
       rw [aWl hv hm]
   · intro i c hi t _
     obtain⟨h1,h2⟩:=List.getElem?_zip_eq_some.1 hi
     have hlt:=(List.getElem?_eq_some_iff.1 h1).1
     simp only [eA]
     rw [hR,bW (by omega),cond_true,bCx hc hd i hi t]
     cases nJ sF (eC m q d c) t<;>rfl
   · intro t _
     simp only [eA]
     rw [hR,cK (by omega),cond_false]
theorem aLo {l:List (Int×Int)} (h:∀s∈l,1≤s.2)(j:Int):(0≤j∧j < (l.length:Int))→1≤(l.getD (toNat j) default).2:=fun g=>by
 have hlt:toNat j < l.length:=by omega
 rw [fO,List.getElem?_eq_getElem hlt,Option.getD_some]
 exact h _ (List.getElem_mem hlt)
theorem aLp {l:List (Int×Int)} (h:∀s∈l,1≤s.1)(j:Int):(0≤j∧j < (l.length:Int))→1≤(l.getD (toNat j) default).1:=fun g=>by
 have hlt:toNat j < l.length:=by omega
 rw [fO,List.getElem?_eq_getElem hlt,Option.getD_some]
 exact h _ (List.getElem_mem hlt)
theorem aVf {l:List (Int×Int)} (h:∀s∈l,1≤s.2)(hl:1≤l.length):1≤(l.getD 0 default).2:=aLo h 0 (by omega)
theorem pB {l:List (Int×Int)} (h:∀s∈l,1≤s.1)(hl:1≤l.length):1≤(l.getD 0 default).1:=aLp h 0 (by omega)
theorem pC (a b:Int):a≤iL a b∧b≤iL a b∧(iL a b=a∨iL a b=b):=by unfold iL;split<;>omega
theorem tY (a b:Int):pL a b≤a∧pL a b≤b∧(pL a b=a∨pL a b=b):=by unfold pL;split<;>omega
def F99 (a0:Int)(a1:Int):Int :=
 (W (Int.tdiv (W ((W (a0+a1)) - 1)) a1))
theorem C99 (a0:Int)(a1:Int)(hd:a1≠0):Con Tryz.prog 99 [(iv a0),(iv a1)] [] (iv (F99 a0 a1)) []:=by
 refine aJ Tryz.func99 (by kernel_rfl) fun cx hcx=>?_
 have e:=Eq.refl (F99 a0 a1);conv at e=>rhs;simp only [F99]
 rw [e]
 exact rt [.p (show(a1:Int)≠0 from by first | omega | (rw [aD]<;>omega) | exact eD _)] [] [] hcx (by kernel_rfl)
noncomputable def yG:Code:=(aE [1,1,0,1] [] (aG Tryz.f64) []).1
noncomputable def yH:List K:=(aE [1,1,0,1] [] (aG Tryz.f64) []).2
def tZ (a0:List (Int×Int))(a1:List (Int))(v1 v2:Int):LS:=⟨iH 31 [(1,(.s 1 0 a1.length 1)),(6,(iv v1)),(13,(.s 0 0 a0.length 2)),(14,(iv (a0.length:Int))),(15,(iv v2))],[(.live false true (flat cQ a0)),(.live false true (flat c3 a1))]⟩
def gB (a0:List (Int×Int))(a1:List (Int)):Int×Int→(Int×Int)⊕(Int×Int)
 | (v1,v2) =>
  (bif (decide ((v2:Int) < (a0.length:Int))) then
   (.inl ((iL v1 (a0.getD (toNat v2) default).2),(v2+1)))
  else
   (.inr ((F97 (W (Int.tdiv (cO a1) v1))).1,(F97 (W (Int.tdiv (cO a1) v1))).2)))
theorem aOu (a0:List (Int×Int))(a1:List (Int))(l0:a0.length≤9223372036854775807)(l1:a1.length≤9223372036854775807)(hl:1≤a0.length)(hp:∀s∈a0,1≤s.2) {cx:Cx} (hcx:cx.base=2):∀(n:Nat)(v1 v2:Int),(0≤v2)∧(1≤v1)→toNat ((a0.length:Int) - v2) < n→Aw.Good Tryz.prog none 9 (bodyPost Tryz.prog Tryz.f64 (RR cx (.t (k2 (aB (gB a0 a1) n (v1,v2)))) [] [])) cx [] (.l yG n::yH) (tZ a0 a1 v1 v2):=by
 intro n
 induction n with
 | zero=>intro v1 v2 hi hn;exact absurd hn (iG _)
 | succ n ih =>
   intro v1 v2 hi hn
   refine aI ?_
   have hps:=aLo hp v2
   have hmx:=pC v1 (a0.getD (toNat v2) default).2
   cases h0:(decide ((v2:Int) < (a0.length:Int))) with
   | true =>
    have q0:=bY h0
    have e:=Eq.refl (gB a0 a1 (v1,v2));conv at e=>rhs;simp only [gB,h0,aH]
    rw [aA e]
    refine ba [.d h0,.i v2 (a0.length),.L cA a0 v2 0 2] [] [1,6,13,14,15] [] hcx (m:=n) yG (yH) (tZ a0 a1 (iL v1 (a0.getD (toNat v2) default).2) (W (v2+1))) (by kernel_rfl) ?_
    have z0:(W (v2+1))=(v2+1):=aD (by omega) (by omega)
    rw [z0]
    exact ih (iL v1 (a0.getD (toNat v2) default).2) (v2+1) (by refine⟨?_,?_⟩<;>(try simp only [Ls])<;>first | omega | assumption | simp) (by(try simp only [Ls]);omega)
   | false =>
    have q0:=cF h0
    have e:=Eq.refl (gB a0 a1 (v1,v2));conv at e=>rhs;simp only [gB,h0,aH]
    rw [aF,e]
    exact rt [.d h0,.c [1] (aRv a1 (by omega)),.p (show(v1:Int)≠0 from by first | omega | (rw [aD]<;>omega) | exact eD _),.c [] (C97 (W (Int.tdiv (cO a1) v1)))] [] [] hcx (by kernel_rfl)
def gW (a0:List (Int×Int))(a1:List (Int)):Int×Int :=
 (aB (gB a0 a1) (toNat ((a0.length:Int) - 0)+1) ((a0.getD (toNat 0) default).2,0))
theorem aVg (a0:List (Int×Int))(a1:List (Int))(l0:a0.length≤9223372036854775807)(l1:a1.length≤9223372036854775807)(hl:1≤a0.length)(hp:∀s∈a0,1≤s.2):Con Tryz.prog 64 [(.s 0 0 a0.length 2),(.s 1 0 a1.length 1)] [(.live false true (flat cQ a0)),(.live false true (flat c3 a1))] (.t (k2 (gW a0 a1))) []:=by
 refine aJ Tryz.func64 (by kernel_rfl) fun cx hcx=>?_
 have hp0:=aVf hp hl
 have e:=Eq.refl (gW a0 a1);conv at e=>rhs;simp only [gW]
 rw [e]
 refine en [.i 0 (a0.length),.L cA a0 0 1 1] [] [1,6,13,14,15] [] hcx yG (yH) (tZ a0 a1 ((a0.getD (toNat 0) default).2) 0) (toNat ((a0.length:Int) - 0)+1) (by kernel_rfl) ?_
 exact aOu a0 a1 l0 l1 hl hp hcx (toNat ((a0.length:Int) - 0)+1) ((a0.getD (toNat 0) default).2) 0 (by refine⟨?_,?_⟩<;>(try simp only [Ls])<;>first | omega | assumption | simp) (by(try simp only [Ls]);omega)
noncomputable def yI:Code:=(aE [1,1,0,1] [] (aG Tryz.f67) []).1
noncomputable def yJ:List K:=(aE [1,1,0,1] [] (aG Tryz.f67) []).2
def uA (a0:List (Int×Int))(a1:List (Int))(v1 v2:Int):LS:=⟨iH 31 [(1,(.s 1 0 a1.length 1)),(6,(iv v1)),(13,(.s 0 0 a0.length 2)),(14,(iv (a0.length:Int))),(15,(iv v2))],[(.live false true (flat cQ a0)),(.live false true (flat c3 a1))]⟩
def gC (a0:List (Int×Int))(a1:List (Int)):Int×Int→(Int×Int)⊕(Int×Int)
 | (v1,v2) =>
  (bif (decide ((v2:Int) < (a0.length:Int))) then
   (.inl ((pL v1 (a0.getD (toNat v2) default).1),(v2+1)))
  else
   (.inr ((F97 (F99 (cO a1) v1)).1,(F97 (F99 (cO a1) v1)).2)))
theorem aOv (a0:List (Int×Int))(a1:List (Int))(l0:a0.length≤9223372036854775807)(l1:a1.length≤9223372036854775807)(hl:1≤a0.length)(hp:∀s∈a0,1≤s.1) {cx:Cx} (hcx:cx.base=2):∀(n:Nat)(v1 v2:Int),(0≤v2)∧(1≤v1)→toNat ((a0.length:Int) - v2) < n→Aw.Good Tryz.prog none 9 (bodyPost Tryz.prog Tryz.f67 (RR cx (.t (k2 (aB (gC a0 a1) n (v1,v2)))) [] [])) cx [] (.l yI n::yJ) (uA a0 a1 v1 v2):=by
 intro n
 induction n with
 | zero=>intro v1 v2 hi hn;exact absurd hn (iG _)
 | succ n ih =>
   intro v1 v2 hi hn
   refine aI ?_
   have hps:=aLp hp v2
   have hmx:=tY v1 (a0.getD (toNat v2) default).1
   cases h0:(decide ((v2:Int) < (a0.length:Int))) with
   | true =>
    have q0:=bY h0
    have e:=Eq.refl (gC a0 a1 (v1,v2));conv at e=>rhs;simp only [gC,h0,aH]
    rw [aA e]
    refine ba [.d h0,.i v2 (a0.length),.L cA a0 v2 0 2] [] [1,6,13,14,15] [] hcx (m:=n) yI (yJ) (uA a0 a1 (pL v1 (a0.getD (toNat v2) default).1) (W (v2+1))) (by kernel_rfl) ?_
    have z0:(W (v2+1))=(v2+1):=aD (by omega) (by omega)
    rw [z0]
    exact ih (pL v1 (a0.getD (toNat v2) default).1) (v2+1) (by refine⟨?_,?_⟩<;>(try simp only [Ls])<;>first | omega | assumption | simp) (by(try simp only [Ls]);omega)
   | false =>
    have q0:=cF h0
    have e:=Eq.refl (gC a0 a1 (v1,v2));conv at e=>rhs;simp only [gC,h0,aH]
    rw [aF,e]
    exact rt [.d h0,.c [1] (aRv a1 (by omega)),.c [] (C99 (cO a1) v1  (by omega)),.c [] (C97 (F99 (cO a1) v1))] [] [] hcx (by kernel_rfl)
def gX (a0:List (Int×Int))(a1:List (Int)):Int×Int :=
 (aB (gC a0 a1) (toNat ((a0.length:Int) - 0)+1) ((a0.getD (toNat 0) default).1,0))
theorem aVh (a0:List (Int×Int))(a1:List (Int))(l0:a0.length≤9223372036854775807)(l1:a1.length≤9223372036854775807)(hl:1≤a0.length)(hp:∀s∈a0,1≤s.1):Con Tryz.prog 67 [(.s 0 0 a0.length 2),(.s 1 0 a1.length 1)] [(.live false true (flat cQ a0)),(.live false true (flat c3 a1))] (.t (k2 (gX a0 a1))) []:=by
 refine aJ Tryz.func67 (by kernel_rfl) fun cx hcx=>?_
 have hp0:=pB hp hl
 have e:=Eq.refl (gX a0 a1);conv at e=>rhs;simp only [gX]
 rw [e]
 refine en [.i 0 (a0.length),.L cA a0 0 0 1] [] [1,6,13,14,15] [] hcx yI (yJ) (uA a0 a1 ((a0.getD (toNat 0) default).1) 0) (toNat ((a0.length:Int) - 0)+1) (by kernel_rfl) ?_
 exact aOv a0 a1 l0 l1 hl hp hcx (toNat ((a0.length:Int) - 0)+1) ((a0.getD (toNat 0) default).1) 0 (by refine⟨?_,?_⟩<;>(try simp only [Ls])<;>first | omega | assumption | simp) (by(try simp only [Ls]);omega)
def pJ (a0:Int×Int)(a1:List (Int)):Int×Int :=
 ((F97 (W (Int.tdiv (cO a1) (F99 a0.2 (W (Int.tdiv (W (Int.tdiv (cO a1) 1048576)) 1048576)))))).1,(F97 (W (Int.tdiv (cO a1) (F99 a0.2 (W (Int.tdiv (W (Int.tdiv (cO a1) 1048576)) 1048576)))))).2)
theorem bCz (a0:Int×Int)(a1:List (Int))(l1:a1.length≤9223372036854775807)(hq:W (Int.tdiv (W (Int.tdiv (cO a1) 1048576)) 1048576)≠0)(hw:F99 a0.2 (W (Int.tdiv (W (Int.tdiv (cO a1) 1048576)) 1048576))≠0):Con Tryz.prog 66 [(.a [(iv a0.1),(iv a0.2)]),(.s 0 0 a1.length 1)] [(.live false true (flat c3 a1))] (.t (k2 (pJ a0 a1))) []:=by
 refine aJ Tryz.func66 (by kernel_rfl) fun cx hcx=>?_
 have e:=Eq.refl (pJ a0 a1);conv at e=>rhs;simp only [pJ]
 rw [e]
 exact rt [.c [0] (aRv a1 (by omega)),.p (show(1048576:Int)≠0 from by decide),.p (show(1048576:Int)≠0 from by decide),.c [] (C99 a0.2 (W (Int.tdiv (W (Int.tdiv (cO a1) 1048576)) 1048576))  hq),.p (show((F99 a0.2 (W (Int.tdiv (W (Int.tdiv (cO a1) 1048576)) 1048576))):Int)≠0 from by first | omega | (rw [aD]<;>omega) | exact eD _),.c [] (C97 (W (Int.tdiv (cO a1) (F99 a0.2 (W (Int.tdiv (W (Int.tdiv (cO a1) 1048576)) 1048576))))))] [] [] hcx (by kernel_rfl)
end Go.Proofs.YtaeagjnpobdglaaGreat
