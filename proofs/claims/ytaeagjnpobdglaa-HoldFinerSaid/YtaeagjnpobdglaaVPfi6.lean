/-
  Parts of the proofs of the laws: the executor, what functions of the program compute, and that it is what the statements ask. No premise.
-/
import Derived.Test.YtaeagjnpobdglaaVPfi5
set_option linter.unusedVariables false
set_option linter.unusedSimpArgs false
set_option maxHeartbeats 4000000
open Int (toNat)
namespace Go.Proofs.Ytaeagjnpobdglaa
open Go.Proofs Go.Aw Go.RowKit
set_option maxRecDepth 100000
theorem gI {α:Type} {f g:α→Int}:∀{l:List α},(∀c∈l,f c≤g c)→(l.map f).sum≤(l.map g).sum
 | [],_=>Int.le_refl _
 | c::l,h=>by
   have h1:=h c List.mem_cons_self
   have h2:=gI (l:=l) (fun x hx=>h x (List.mem_cons_of_mem _ hx))
   simp only [List.map_cons,List.sum_cons];omega
theorem dS {α:Type} (a:Int)(f:α→Int):∀l:List α,(l.map fun c=>a*f c).sum=a*(l.map f).sum
 | []=>by simp
 | c::l=>by simp only [List.map_cons,List.sum_cons];rw [dS a f l,Int.mul_add]
theorem lL {α:Type} (a:Int):∀l:List α,(l.map fun _=>a).sum=(l.length:Int)*a
 | []=>by simp
 | c::l=>by simp only [List.map_cons,List.sum_cons,List.length_cons];rw [lL a l,show((l.length+1:Nat):Int)=(l.length:Int)+1 by omega,Int.add_mul];omega
theorem aSh {v:Int×Int} {n:Int} (hn:1≤n):n*(avg v n).1≤v.1:=Int.mul_ediv_self_le (by omega)
theorem aM8 {v:Int×Int} {n:Int} (hn:1≤n):v.2≤n*(avg v n).2:=by
 have:=Int.mul_ediv_self_le (x:=-v.2) (k:=n) (by omega)
 show v.2≤n*-(-v.2 / n)
 rw [Int.mul_neg];omega
theorem cR (d:Int):1≤sc d*sc d:=by
 rcases oL d with h | h | h | h<;>rw [h]<;>decide
theorem aSi (p q:PN)(d:Int):sc d*sc d*(fK p q d).1≤((aQ d.toNat p).map (pM d q)).sum:=by
 unfold fK
 refine Int.le_trans (aSh (cR d)) ?_
 rw [rK];simp only [Int.zero_add];exact Int.le_refl _
theorem aM9 (p q:PN)(d:Int):((aQ d.toNat p).map (oM (eD p d) d q)).sum≤sc d*sc d*(fK p q d).2:=by
 unfold fK
 refine Int.le_trans ?_ (aM8 (cR d))
 rw [rK];simp only [Int.zero_add];exact Int.le_refl _
theorem aNa {d:Int} {L:List (PN×Int)} (hL:∀e∈L,vp e.1=0∧0≤e.2)(p:PN):sc d*sc d*(L.map fun e=>e.2*(fK e.1 (cL (sc d) p) d).1).sum≤PLs d L p:=by
 unfold PLs
 rw [←dS]
 refine gI (fun e he=>?_)
 rw [dS]
 have:=Int.mul_le_mul_of_nonneg_left (aSi e.1 (cL (sc d) p) d) (hL e he).2
 have e1:sc d*sc d*(e.2*(fK e.1 (cL (sc d) p) d).1)=e.2*(sc d*sc d*(fK e.1 (cL (sc d) p) d).1):=by grind
 rw [e1];exact this
theorem aNb {p q b:PN} {d:Int} {c:PN} (hp:vp p=0)(hq:vp q=0)(hd:0≤d∧d≤2)(hc:c∈aQ d.toNat p)(hb:b∈aQ d.toNat q):oM (eD p d) d b c≤oM (eD p d) d (cL (sc d) q) c:=by
 have hn:=aM3 (a:=c) (gY hq).1 (d:=d) (by omega) hb
 have hN:1≤NN (sc d)∧NN (sc d)≤288230376151711744:=by
   have:d=0∨d=1∨d=2:=by omega
   rcases this with rfl | rfl | rfl<;>decide
 unfold oM
 by_cases h1:0 < uJ c (cL (sc d) q)
 · rw [if_pos h1,if_pos (show 0 < uJ c b by omega)]
   have hm:(vM (sc d) (uJ c b)).2≤(vM (sc d) (uJ c (cL (sc d) q))).2:=by
     unfold vM
     rw [if_neg (by omega),if_neg (by omega)]
     exact aD8 hN (by omega) hn
   split<;>split<;>omega
 · rw [if_neg h1]
   split
   · split<;>omega
   · omega
theorem aSj {d:Int} (hd:0≤d∧d≤2) {L:List (PN×Int)} (hL:∀e∈L,vp e.1=0∧0≤e.2):rY d L≤(sc d*sc d)*(sc d*sc d)*(L.map fun e'=>e'.2*(L.map fun e=>e.2*(fK e.1 (cL (sc d) e'.1) d).2).sum).sum:=by
 unfold rY
 rw [←dS]
 refine gI (fun e' he'=>?_)
 have key:∀b∈aQ d.toNat e'.1,e'.2*(L.map fun e=>((aQ d.toNat e.1).map fun c=>e.2*oM (eD e.1 d) d b c).sum).sum≤e'.2*(sc d*sc d*(L.map fun e=>e.2*(fK e.1 (cL (sc d) e'.1) d).2).sum):=by
   intro b hb
   refine Int.mul_le_mul_of_nonneg_left ?_ (hL e' he').2
   rw [←dS]
   refine gI (fun e he=>?_)
   rw [dS]
   have h1:=gI (l:=aQ d.toNat e.1) (f:=oM (eD e.1 d) d b) (g:=oM (eD e.1 d) d (cL (sc d) e'.1)) (fun c hc=>aNb (hL e he).1 (hL e' he').1 hd hc hb)
   have h2:=Int.le_trans h1 (aM9 e.1 (cL (sc d) e'.1) d)
   have h3:=Int.mul_le_mul_of_nonneg_left h2 (hL e he).2
   have e1:sc d*sc d*(e.2*(fK e.1 (cL (sc d) e'.1) d).2)=e.2*(sc d*sc d*(fK e.1 (cL (sc d) e'.1) d).2):=by grind
   rw [e1];exact h3
 refine Int.le_trans (gI key) ?_
 rw [lL,lC (by omega) e'.1]
 exact Int.le_of_eq (by grind)
theorem aSk {d:Int} (hd:0≤d∧d≤2) {L:List (PN×Int)} (hL:∀e∈L,vp e.1=0∧0≤e.2):rY d L≤(sc d*sc d)*(sc d*sc d)*(L.map fun e'=>(L.map fun e=>e.2*e'.2*(aFr e.1 e'.1 d).1.2).sum).sum:=by
 unfold rY
 rw [←dS]
 refine gI (fun e' he'=>?_)
 -- exchange the jA over b and e
 have ex:((aQ d.toNat e'.1).map fun b=>e'.2*(L.map fun e=>((aQ d.toNat e.1).map fun c=>e.2*oM (eD e.1 d) d b c).sum).sum).sum=(L.map fun e=>((aQ d.toNat e'.1).map fun b=>e'.2*((aQ d.toNat e.1).map fun c=>e.2*oM (eD e.1 d) d b c).sum).sum).sum:=by
   have sw:∀(A:List PN) (B:List (PN×Int)) (f:PN→PN×Int→Int),(A.map fun a=>(B.map fun b=>f a b).sum).sum=(B.map fun b=>(A.map fun a=>f a b).sum).sum:=by
     intro A B f
     induction A with
     | nil=>simp only [List.map_nil,List.sum_nil];rw [lL];omega
     | cons a A ih =>
       simp only [List.map_cons,List.sum_cons,ih]
       clear ih
       induction B with
       | nil=>simp
       | cons b B ih2=>simp only [List.map_cons,List.sum_cons];omega
   have e2:((aQ d.toNat e'.1).map fun b=>e'.2*(L.map fun e=>((aQ d.toNat e.1).map fun c=>e.2*oM (eD e.1 d) d b c).sum).sum)=((aQ d.toNat e'.1).map fun b=>(L.map fun e=>e'.2*((aQ d.toNat e.1).map fun c=>e.2*oM (eD e.1 d) d b c).sum).sum):=by
     refine List.map_congr_left (fun b _=>?_)
     rw [dS]
   rw [e2];exact sw _ _ _
 rw [ex,←dS]
 refine gI (fun e he=>?_)
 have hpk:pk e.1 e'.1 d=0:=by unfold pk;rw [if_pos (hL e he).1,if_pos (hL e' he').1,if_pos hd]
 have hm:(aFr e.1 e'.1 d).1.2=(avg (jA (pN e.1 e'.1 d) (0,0)) (sc d*sc d)).2:=by unfold aFr;rw [if_pos hpk]
 have h1:((aQ d.toNat e'.1).map fun b=>e'.2*((aQ d.toNat e.1).map fun c=>e.2*oM (eD e.1 d) d b c).sum).sum≤e.2*e'.2*(sc d*sc d*((aQ d.toNat e'.1).map fun b=>(fK e.1 b d).2).sum):=by
   rw [←dS,←dS]
   refine gI (fun b hb=>?_)
   rw [dS]
   have h2:=aM9 e.1 b d
   have h3:=Int.mul_le_mul_of_nonneg_left h2 (Int.mul_nonneg (hL e he).2 (hL e' he').2)
   have e1:e'.2*(e.2*((aQ d.toNat e.1).map fun c=>oM (eD e.1 d) d b c).sum)=e.2*e'.2*((aQ d.toNat e.1).map (oM (eD e.1 d) d b)).sum:=by grind
   rw [e1];exact h3
 refine Int.le_trans h1 ?_
 have h4:=aM8 (v:=jA (pN e.1 e'.1 d) (0,0)) (cR d)
 rw [nL] at h4
 have e3:(((0:Int),(0:Int)).2+((pN e.1 e'.1 d).map (·.2)).sum)=((aQ d.toNat e'.1).map fun b=>(fK e.1 b d).2).sum:=by
   unfold pN
   rw [List.map_map]
   simp only [Int.zero_add]
   rfl
 simp only at h4 e3
 rw [e3] at h4
 rw [hm,nL]
 have h5:=Int.mul_le_mul_of_nonneg_left h4 (show 0≤sc d*sc d by have:=cR d;omega)
 have h6:=Int.mul_le_mul_of_nonneg_left h5 (Int.mul_nonneg (hL e he).2 (hL e' he').2)
 exact Int.le_trans h6 (Int.le_of_eq (by grind))
structure Sys (L:List (PN×Int)) (d Q mx E mn:Int):Prop where
 hd:0≤d∧d≤2
 hL:∀e∈L,vp e.1=0∧0≤e.2
 hQ:eQ L=Q
 Q1:1≤Q
 E1:1≤E
 mx1:1≤mx
 mn1:1≤mn
 hmx:∀e∈L,(L.map fun e'=>e'.2*(fK e'.1 (cL (sc d) e.1) d).2).sum≤mx
 hmn:∀e∈L,mn≤(L.map fun e'=>e'.2*(fK e'.1 (cL (sc d) e.1) d).1).sum
 hE:(L.map fun e'=>(L.map fun e=>e.2*e'.2*(aFr e.1 e'.1 d).1.2).sum).sum≤E
theorem sB {L:List (PN×Int)} {d Q mx E mn:Int} (S:Sys L d Q mx E mn):rY d L≤(sc d*sc d)*(sc d*sc d)*(Q*mx):=by
 refine Int.le_trans (aSj S.hd S.hL) (Int.mul_le_mul_of_nonneg_left ?_ (Int.mul_nonneg (by have:=cR d;omega) (by have:=cR d;omega)))
 have h1:=gI (l:=L) (f:=fun e'=>e'.2*(L.map fun e=>e.2*(fK e.1 (cL (sc d) e'.1) d).2).sum) (g:=fun e'=>mx*e'.2) (fun e' he'=>by
   have:=Int.mul_le_mul_of_nonneg_left (S.hmx e' he') (S.hL e' he').2
   exact Int.le_trans this (Int.le_of_eq (Int.mul_comm _ _)))
 rw [dS] at h1
 have:(L.map (·.2)).sum=Q:=S.hQ
 rw [this] at h1
 exact Int.le_trans h1 (Int.le_of_eq (Int.mul_comm _ _))
theorem sC {L:List (PN×Int)} {d Q mx E mn:Int} (S:Sys L d Q mx E mn):rY d L≤(sc d*sc d)*(sc d*sc d)*E :=
 Int.le_trans (aSk S.hd S.hL) (Int.mul_le_mul_of_nonneg_left S.hE (Int.mul_nonneg (by have:=cR d;omega) (by have:=cR d;omega)))
theorem bC {a b k:Int} (hk:1≤k)(h:k*a≤k*b):a≤b:=Int.le_of_mul_le_mul_left h (by omega)
theorem aNc {L L':List (PN×Int)} {d Q mx E mn d' Q' mx' E' mn':Int} (S:Sys L d Q mx E mn)(S':Sys L' d' Q' mx' E' mn')
   (hV:∀e∈L,mn'≤(L'.map fun e'=>e'.2*(fK e'.1 (cL (sc d') e.1) d').1).sum):Q*Q*mn'≤Q'*E∧Q*mn'≤Q'*mx:=by
 have hV0:∀e∈L,sc d'*sc d'*mn'≤PLs d' L' e.1:=fun e he =>
   Int.le_trans (Int.mul_le_mul_of_nonneg_left (hV e he) (by have:=cR d';omega)) (aNa S'.hL e.1)
 have a:=aVf S.hd S'.hd S.hL S'.hL hV0 (sC S)
 have b:=aVf S.hd S'.hd S.hL S'.hL hV0 (sB S)
 rw [S.hQ,S'.hQ] at a b
 have n1:=cR d;have n2:=cR d'
 generalize sc d*sc d=n at *
 generalize sc d'*sc d'=n' at *
 have nn:1≤n*n:=by have:=Int.mul_le_mul (a:=1) (b:=1) (c:=n) (d:=n) n1 n1 (by omega) (by omega);omega
 have nnn:1≤n*n*n':=by have:=Int.mul_le_mul (a:=1) (b:=1) (c:=n*n) (d:=n') nn n2 (by omega) (by omega);omega
 refine⟨bC nnn ?_,bC S.Q1 (bC nnn ?_)⟩
 · have e1:n*n*n'*(Q*Q*mn')=n*Q*(n*Q)*(n'*mn'):=by grind
   have e2:n*n*n'*(Q'*E)=n'*Q'*(n*n*E):=by grind
   rw [e1,e2];exact a
 · have e1:n*n*n'*(Q*(Q*mn'))=n*Q*(n*Q)*(n'*mn'):=by grind
   have e2:n*n*n'*(Q*(Q'*mx))=n'*Q'*(n*n*(Q*mx)):=by grind
   rw [e1,e2];exact b
theorem aNd {L:List (PN×Int)} {d Q mx E mn:Int} (S:Sys L d Q mx E mn) {c:P3} {m B:Int} (hc:bd 256 c)(hm:∀e∈L,ds e.1.1 c≤m∧ds e.1.2.1 c≤m∧ds e.1.2.2 c≤m)(hm1:1≤m)(hB:m*1099511627776≤B*B)(hB0:1≤B):Q*Q*1099511627776≤B*E∧Q*1099511627776≤B*mx:=by
 have a:=aVg S.hd S.hL hc hm hm1 hB hB0 (sC S)
 have b:=aVg S.hd S.hL hc hm hm1 hB hB0 (sB S)
 rw [S.hQ] at a b
 have n1:=cR d
 generalize sc d*sc d=n at *
 have nn:1≤n*n:=by have:=Int.mul_le_mul (a:=1) (b:=1) (c:=n) (d:=n) n1 n1 (by omega) (by omega);omega
 refine⟨bC nn ?_,bC S.Q1 (bC nn ?_)⟩
 · have e1:n*n*(Q*Q*1099511627776)=n*Q*(n*Q)*1099511627776:=by grind
   have e2:n*n*(B*E)=B*(n*n*E):=by grind
   rw [e1,e2];exact a
 · have e1:n*n*(Q*(Q*1099511627776))=n*Q*(n*Q)*1099511627776:=by grind
   have e2:n*n*(Q*(B*mx))=B*(n*n*(Q*mx)):=by grind
   rw [e1,e2];exact b
theorem aNe {x n:Int} (h1:-1099511627776≤jF x n)(h2:jF x n≤1099511627776):jF x n=x*n:=by
 unfold jF at *
 split at h1<;>rename_i a
 · rw [if_pos a] at h2;omega
 · rw [if_neg a] at h2 ⊢
   split at h1<;>rename_i b
   · omega
   · rw [if_neg b]
theorem aIe {a:Int×Int} {n:Int} (ha:okP a)(hn:0≤n∧n≤10000)(h:(jE a n).2=0):(jE a n).1=(a.1*n,a.2*n):=by
 rw [aB8 (aL5 ha) (by omega)] at h ⊢
 rcases nK (scl a n).1 (scl a n).2 with⟨e,v⟩ | e
 · rw [e]
   have hs:scl a n=(jF a.1 n,jF a.2 n):=by unfold scl;rw [if_neg (by omega)]
   rw [hs] at v ⊢
   unfold vs at v
   simp only at v ⊢
   rw [aNe v.1 (by omega),aNe (x:=a.2) (by omega) v.2.2]
 · rw [e] at h;exact absurd h (by decide)
theorem aIf {l:List ((Int×Int)×Int)} (hl:∀c∈l,okP c.1∧0≤c.2∧c.2≤10000)(h:(gR l).2=0):(gR l).1=((l.map fun c=>c.1.1*c.2).sum,(l.map fun c=>c.1.2*c.2).sum):=by
 unfold gR at h ⊢
 cases hs:shs aCi l [] with
 | inr r=>rw [hs] at h;exact absurd h (rM hs)
 | inl m =>
   rw [hs] at h
   simp only [zR] at h ⊢
   obtain⟨e,hv⟩:=aK4 h
   rw [e]
   obtain⟨e2,h0⟩:=lE hs
   rw [List.nil_append] at e2
   rw [nL,e2]
   simp only [Int.zero_add,List.map_map]
   refine Prod.ext ?_ ?_
   · refine congrArg List.sum (List.map_congr_left fun c hc=>?_)
     show(jE c.1 c.2).1.1=_
     rw [aIe (hl c hc).1 (hl c hc).2 (h0 c hc)]
   · refine congrArg List.sum (List.map_congr_left fun c hc=>?_)
     show(jE c.1 c.2).1.2=_
     rw [aIe (hl c hc).1 (hl c hc).2 (h0 c hc)]
theorem aPt {T:TB} {q:List Int} (hT:∀r∈T,r.length=q.length∧∀s∈r,okP s)(hq:okC q)(h:(rQ T q).2=0) :
   (rQ T q).1=T.map fun r=>(((r.zip q).map fun c=>c.1.1*c.2).sum,((r.zip q).map fun c=>c.1.2*c.2).sum):=by
 unfold rQ at h ⊢
 cases hs:shs (fun r:List (Int×Int)=>gR (r.zip q)) T [] with
 | inr r=>rw [hs] at h;exact absurd h (rM hs)
 | inl m =>
   simp only [zR]
   obtain⟨e,h0⟩:=lE hs
   rw [List.nil_append] at e
   subst e
   refine List.map_congr_left fun r hr=>?_
   obtain⟨hl,hP⟩:=hT r hr
   exact aIf (l:=r.zip q) (fun c hc=>⟨hP _ (List.of_mem_zip hc).1,by have:=hq _ (List.of_mem_zip hc).2;omega⟩) (h0 r hr)
theorem aNf:∀(l:List (Int×Int))(v:Int),v≤mxF l v∧∀s∈l,s.2≤mxF l v
 | [],v=>⟨Int.le_refl _,fun s hs=>by cases hs⟩
 | a::l,v=>by
   have ih:=aNf l (nY v a.2)
   have hb:v≤nY v a.2∧a.2≤nY v a.2:=by unfold nY;split<;>omega
   refine⟨Int.le_trans hb.1 ih.1,fun s hs=>?_⟩
   rcases List.mem_cons.1 hs with rfl | hs
   · exact Int.le_trans hb.2 ih.1
   · exact ih.2 s hs
theorem aNg:∀(l:List (Int×Int))(v:Int),mnF l v≤v∧∀s∈l,mnF l v≤s.1
 | [],v=>⟨Int.le_refl _,fun s hs=>by cases hs⟩
 | a::l,v=>by
   have ih:=aNg l (wZ v a.1)
   have hb:wZ v a.1≤v∧wZ v a.1≤a.1:=by unfold wZ;split<;>omega
   refine⟨Int.le_trans ih.1 hb.1,fun s hs=>?_⟩
   rcases List.mem_cons.1 hs with rfl | hs
   · exact Int.le_trans ih.1 hb.2
   · exact ih.2 s hs
theorem aIg:∀(l:List (Int×Int))(v:Int),1≤v→(∀s∈l,1≤s.1)→1≤mnF l v
 | [],v,h,_=>h
 | a::l,v,h,h2=>aIg l (wZ v a.1) (by have:=h2 a List.mem_cons_self;unfold wZ;split<;>omega) (fun s hs=>h2 s (List.mem_cons_of_mem _ hs))
theorem aNh:∀(l:List (Int×Int))(v B:Int),v≤B→(∀s∈l,s.2≤B)→mxF l v≤B
 | [],v,B,h,_=>h
 | a::l,v,B,h,h2=>aNh l (nY v a.2) B (by have:=h2 a List.mem_cons_self;unfold nY;split<;>omega) (fun s hs=>h2 s (List.mem_cons_of_mem _ hs))
theorem aNi {n:Int} (h:(F86 n).2=0):(F86 n).1=n∧n≤1099511627776:=by
 unfold F86 at h ⊢
 by_cases c:n > 1099511627776
 · rw [eK c] at h;exact absurd h (show ¬((4:Int)=0) by decide)
 · rw [fN c];exact⟨rfl,by omega⟩
abbrev yQ (m:ME)(q:List Int):List (PN×Int):=(pans m).zip q
theorem aPu {m:ME} {q:List Int} (hC:ChOK m q):eQ (yQ m q)=q.sum:=by
 unfold eQ yQ
 have hpl:(pans m).length=m.2.length:=List.length_map _
 rw [List.map_snd_zip (by have:=hC.len;omega)]
theorem aSl {m:ME} {q:List Int} (hC:ChOK m q):∀e∈yQ m q,vp e.1=0∧0≤e.2:=by
 intro e he
 have h1:=List.of_mem_zip he
 refine⟨?_,(hC.ok _ h1.2).1⟩
 obtain⟨c,hc,e1⟩:=List.mem_map.1 h1.1
 rw [←e1]
 exact vS hC.v c hc
structure BV (x:Int×Int) (Q mx E mn B:Int):Prop where
 lo:∃b t,x.1=nY b t∧0≤b∧0≤t∧b*mx≤Q*1099511627776∧t*E≤Q*Q*1099511627776
 hi:∃a,x.2=wZ a B∧Q*1099511627776≤a*mn∧a≤1099511627776
theorem gD {m:ME} {q:List Int} {d:Int} (h:(cM m q d).2=0):ChOK m q∧∃Q mx E mn,Sys (yQ m q) d Q mx E mn∧BV (cM m q d).1 Q mx E mn (F9 m (lK (oS m))).1:=by
 unfold cM at h ⊢
 cases hc:((fQ (m.1,m.2) q d:Int) != 0) with
 | true=>simp only [hc,cond_true] at h;rw [h] at hc;cases hc
 | false =>
   obtain⟨hv,hd⟩:=aH4 (m:=m) hc
   have hC:ChOK m q:=by have hc2:((fQ m q d:Int) != 0)=false:=hc;rw [aEd] at hc2;exact(yB (bne_eq_false_iff_eq.1 hc2)).1
   refine⟨hC,?_⟩
   have hpf:=aMg (m:=m) hv hd
   simp only [hc,cond_false] at h ⊢
   have hpf':vT (m.1,m.2) d=_:=hpf
   rw [hpf'] at h ⊢
   rw [show((((((m.1,m.2),(bI m d).1,(bP m d).1,(F9 m (lK (oS m))).1),0):TBL×Int).2:Int) != 0)=false from rfl,cond_false] at h ⊢
   have eB:(bI m d).1=(pans m).map (pW m d):=by rw [aHz hv hd];rfl
   have eM:(bP m d).1=MT m d:=by rw [aH0 hv hd];rfl
   simp only [eB,eM] at h ⊢
   have hn:=hC.n;have hl:=hC.len;have hs1:=hC.pos;have hle:=hC.le
   have hpl:(pans m).length=m.2.length:=List.length_map _
   have hrow:∀r∈(pans m).map (pW m d),r.length=q.length∧∀s∈r,okP s:=fun r hr=>by
     obtain⟨p,hp,rfl⟩:=List.mem_map.1 hr
     unfold pW
     refine⟨by rw [List.length_map];omega,fun s hsm=>?_⟩
     obtain⟨p',hp',rfl⟩:=List.mem_map.1 hsm
     exact(mQ (mT hC.v hd hp' hp)).2
   have ep:=aL6 (T:=(pans m).map (pW m d)) (q:=q) (fun r hr=>by rw [(hrow r hr).1];exact Nat.le_refl _) (by omega)
   have ee:=aUq (m:=m) (q:=q) (d:=d) (by omega) (by omega)
   unfold gS at h ⊢
   simp only [ep,ee] at h ⊢
   generalize hB:(F9 m (lK (oS m))).1=B at *
   cases hP:((((rQ ((pans m).map (pW m d)) q).2:Int)) != 0) with
   | true=>simp only [hP,cond_true] at h;rw [h] at hP;cases hP
   | false =>
     simp only [hP,cond_false] at h ⊢
     have hP0:=bne_eq_false_iff_eq.1 hP
     have pv:=aPt hrow hC.ok hP0
     have pp:=aH3 hrow hC.ok hP0
     cases hb:(((gF (rQ ((pans m).map (pW m d)) q).1 q).2:Int) != 0) with
     | true=>simp only [hb,cond_true] at h;rw [h] at hb;cases hb
     | false =>
       simp only [hb,cond_false] at h ⊢
       cases hE:(((gR (((pans m).zip q).flatMap (eC m q d))).2:Int) != 0) with
       | true=>simp only [hE,cond_true] at h;rw [h] at hE;cases hE
       | false =>
         simp only [hE,cond_false] at h ⊢
         have hE0:=bne_eq_false_iff_eq.1 hE
         have hzq:∀e∈(pans m).zip q,0≤e.2∧e.2≤100:=fun e he=>hC.ok _ (List.of_mem_zip he).2
         have hWq:∀c∈(pans m).zip q,∀e∈(pans m).zip q,W (c.2*e.2)=c.2*e.2∧0≤c.2*e.2∧c.2*e.2≤10000:=fun c hc e he=>by
           have a:=hzq c hc;have b:=hzq e he
           have c1:=Int.mul_nonneg a.1 b.1
           have c2:=Int.mul_le_mul (a:=c.2) (b:=e.2) (c:=100) (d:=100) a.2 b.2 b.1 (by omega)
           exact⟨aE (by omega) (by omega),c1,by omega⟩
         have hel:∀c∈((pans m).zip q).flatMap (eC m q d),okP c.1∧0≤c.2∧c.2≤10000:=fun c hc=>by
           obtain⟨e,he,hc⟩:=List.mem_flatMap.1 hc
           obtain⟨e',he',rfl⟩:=List.mem_map.1 hc
           have:=hWq e he e' he'
           exact⟨(pQ (mT hC.v hd (List.of_mem_zip he).1 (List.of_mem_zip he').1)).2,by simp only;rw [this.1];exact this.2.1,by simp only;rw [this.1];exact this.2.2⟩
         have ev:=aIf hel hE0
         have epos:=aMc hC hd hE0
         cases ht:(((rR (gR (((pans m).zip q).flatMap (eC m q d))).1 q).2:Int) != 0) with
         | true=>simp only [ht,cond_true] at h;rw [h] at ht;cases ht
         | false =>
           simp only [ht,cond_false] at h ⊢
           cases ha:(((gG (rQ ((pans m).map (pW m d)) q).1 q).2:Int) != 0) with
           | true=>simp only [ha,cond_true] at h;rw [h] at ha;cases ha
           | false =>
             simp only [cond_false]
             have tq:=aMd hC.ok hC.pos (by omega)
             have o1:=aMe hC.ok hC.pos (by omega)
             have hb0:=bne_eq_false_iff_eq.1 hb
             have ht0:=bne_eq_false_iff_eq.1 ht
             have ha0:=bne_eq_false_iff_eq.1 ha
             rw [aPf] at hb0 ⊢
             rw [aPg] at ha0 ⊢
             unfold rR at ht0 ⊢
             rw [tq.1] at hb0 ha0 ht0 ⊢
             rw [tq.1] at o1
             rw [o1] at ht0 ⊢
             simp only at ht0 ⊢
             generalize hl2:(rQ ((pans m).map (pW m d)) q).1=l at *
             have l1:1≤l.length:=by rw [pp.1,List.length_map];omega
             have lv:∀s∈l,1≤s.1∧s.1≤s.2∧s.2≤1099511627776:=fun s hs=>by
               have:=pp.2 s hs
               unfold vs at this;omega
             have l0m:l.getD (toNat 0) default∈l:=by
               rw [show toNat 0=0 from rfl,eG,List.getElem?_eq_getElem (show 0 < l.length by omega)]
               exact List.getElem_mem (show 0 < l.length by omega)
             have hmx:=aNf l (l.getD (toNat 0) default).2
             have hmn:=aNg l (l.getD (toNat 0) default).1
             have mn1:=aIg l (l.getD (toNat 0) default).1 (lv _ l0m).1 (fun s hs=>(lv s hs).1)
             have mxb:=aNh l (l.getD (toNat 0) default).2 1099511627776 (lv _ l0m).2.2 (fun s hs=>(lv s hs).2.2)
             have mx1:1≤mxF l (l.getD (toNat 0) default).2:=by have:=lv _ l0m;omega
             have mnb:mnF l (l.getD (toNat 0) default).1≤1099511627776:=by have:=lv _ l0m;omega
             generalize mxF l (l.getD (toNat 0) default).2=mx at *
             generalize mnF l (l.getD (toNat 0) default).1=mn at *
             have hEE:(gR (((pans m).zip q).flatMap (eC m q d))).1.2=((((pans m).zip q).flatMap (eC m q d)).map fun c=>c.1.2*c.2).sum:=by rw [ev]
             generalize hEg:(gR (((pans m).zip q).flatMap (eC m q d))).1.2=E at *
             have hvE:E≤1099511627776:=by have:=epos.2;unfold vs at this;omega
             refine⟨q.sum,mx,E,mn,⟨hd,aSl hC,aPu hC,hC.pos,epos.1,mx1,mn1,?_,?_,?_⟩,⟨?_,?_⟩⟩
             · intro e he
               have hx2:=hmx.2
               rw [pv] at hx2
               have hm:=hx2 _ (List.mem_map.2 ⟨pW m d e.1,List.mem_map.2 ⟨e.1,(List.of_mem_zip he).1,rfl⟩,rfl⟩)
               refine Int.le_trans (Int.le_of_eq ?_) hm
               simp only
               unfold pW
               rw [aL7,List.map_map]
               refine congrArg List.sum (List.map_congr_left fun e' he'=>?_)
               have:=tC (mT hC.v hd (List.of_mem_zip he').1 (List.of_mem_zip he).1)
               simp only [Function.comp]
               rw [this];exact Int.mul_comm _ _
             · intro e he
               have hx2:=hmn.2
               rw [pv] at hx2
               have hm:=hx2 _ (List.mem_map.2 ⟨pW m d e.1,List.mem_map.2 ⟨e.1,(List.of_mem_zip he).1,rfl⟩,rfl⟩)
               refine Int.le_trans hm (Int.le_of_eq ?_)
               simp only
               unfold pW
               rw [aL7,List.map_map]
               refine congrArg List.sum (List.map_congr_left fun e' he'=>?_)
               have:=tC (mT hC.v hd (List.of_mem_zip he').1 (List.of_mem_zip he).1)
               simp only [Function.comp]
               rw [this];exact Int.mul_comm _ _
             · rw [hEE]
               refine Int.le_of_eq ?_
               -- sum over e' of sum over e against sum over c of sum over e
               have fl:∀(A:List (PN×Int)) (g:PN×Int→List ((Int×Int)×Int)),((A.flatMap g).map fun c=>c.1.2*c.2).sum=(A.map fun a=>((g a).map fun c=>c.1.2*c.2).sum).sum:=by
                 intro A g
                 induction A with
                 | nil=>rfl
                 | cons a A ih=>rw [List.flatMap_cons,List.map_append,List.sum_append,ih,List.map_cons,List.sum_cons]
               have sw:∀(A B:List (PN×Int)) (f:PN×Int→PN×Int→Int),(A.map fun a=>(B.map fun b=>f a b).sum).sum=(B.map fun b=>(A.map fun a=>f a b).sum).sum:=by
                 intro A B f
                 induction A with
                 | nil=>simp only [List.map_nil,List.sum_nil];rw [lL];omega
                 | cons a A ih =>
                   simp only [List.map_cons,List.sum_cons,ih]
                   clear ih
                   induction B with
                   | nil=>simp
                   | cons b B ih2=>simp only [List.map_cons,List.sum_cons];omega
               rw [fl,sw]
               refine congrArg List.sum (List.map_congr_left fun c hc=>?_)
               unfold eC
               rw [List.map_map]
               refine congrArg List.sum (List.map_congr_left fun e he=>?_)
               simp only [Function.comp]
               rw [(hWq c hc e he).1,aEb,Int.mul_comm (c.2*e.2)]
             · have ub:=aGf (a:=E) (n:=q.sum) (by omega) (by omega)
               have w0:1≤(E+q.sum - 1).tdiv q.sum:=by rw [←ub.2];exact ub.1
               have ed:(E+q.sum - 1).tdiv q.sum=(E+q.sum - 1) / q.sum:=Int.tdiv_eq_ediv_of_nonneg (by omega)
               have w1:E≤(E+q.sum - 1) / q.sum*q.sum:=by
                 have a1:=Int.lt_mul_ediv_self_add (x:=E+q.sum - 1) (k:=q.sum) (by omega)
                 rw [Int.mul_comm] at a1;omega
               rw [ub.2] at ht0 ⊢
               have b1:=aNi hb0
               have t1:=aNi ht0
               rw [b1.1,t1.1]
               have bd1:(q.sum*1099511627776).tdiv mx=q.sum*1099511627776 / mx:=Int.tdiv_eq_ediv_of_nonneg (by omega)
               have td1:(q.sum*1099511627776).tdiv ((E+q.sum - 1).tdiv q.sum)=q.sum*1099511627776 / ((E+q.sum - 1).tdiv q.sum):=Int.tdiv_eq_ediv_of_nonneg (by omega)
               have bq:=Int.ediv_mul_le (q.sum*1099511627776) (b:=mx) (by omega)
               have tq2:=Int.ediv_mul_le (q.sum*1099511627776) (b:=(E+q.sum - 1).tdiv q.sum) (by omega)
               have bn:0≤q.sum*1099511627776 / mx:=Int.ediv_nonneg (by omega) (by omega)
               have tn:0≤q.sum*1099511627776 / ((E+q.sum - 1).tdiv q.sum):=Int.ediv_nonneg (by omega) (by omega)
               have bl:q.sum*1099511627776 / mx≤q.sum*1099511627776:=Int.ediv_le_self _ (by omega)
               have tl:q.sum*1099511627776 / ((E+q.sum - 1).tdiv q.sum)≤q.sum*1099511627776:=Int.ediv_le_self _ (by omega)
               rw [bd1,td1,aE (by omega) (by omega),aE (by omega) (by omega)]
               refine⟨_,_,rfl,bn,tn,bq,?_⟩
               generalize q.sum*1099511627776 / ((E+q.sum - 1).tdiv q.sum)=t at *
               rw [ed] at tq2
               have a1:=Int.mul_le_mul_of_nonneg_left w1 tn
               have a2:=Int.mul_le_mul_of_nonneg_right tq2 (show 0≤q.sum by omega)
               have a3:t*((E+q.sum - 1) / q.sum*q.sum)=t*((E+q.sum - 1) / q.sum)*q.sum:=by grind
               have a4:q.sum*1099511627776*q.sum=q.sum*q.sum*1099511627776:=by grind
               rw [a3] at a1
               rw [a4] at a2
               exact Int.le_trans a1 a2
             · have a1:=aNi ha0
               rw [a1.1]
               have ua:=aGf (a:=q.sum*1099511627776) (n:=mn) (by omega) (by omega)
               have ed:(q.sum*1099511627776+mn - 1).tdiv mn=(q.sum*1099511627776+mn - 1) / mn:=Int.tdiv_eq_ediv_of_nonneg (by omega)
               have a2:=Int.lt_mul_ediv_self_add (x:=q.sum*1099511627776+mn - 1) (k:=mn) (by omega)
               rw [Int.mul_comm mn] at a2
               refine⟨_,rfl,?_,a1.2⟩
               rw [ua.2,ed]
               omega
theorem aNj {x x':Int×Int} {Q mx E mn B Q' mx' E' mn' B' f g:Int} (h:BV x Q mx E mn B)(h':BV x' Q' mx' E' mn' B')(hf:0≤f)(hg:0≤g)(m1:1≤mx)(e1:1≤E)(n1:1≤mn')
   (p:f*(Q*Q*mn')≤g*(Q'*E)∧f*(Q*mn')≤g*(Q'*mx)) (b:f*(Q*Q*1099511627776)≤g*(B'*E)∧f*(Q*1099511627776)≤g*(B'*mx)):f*x.1≤g*x'.2:=by
 obtain⟨u,t,ex,u0,t0,hu,ht⟩:=h.lo
 obtain⟨a,ey,ha,_⟩:=h'.hi
 have c1:f*u≤g*a:=by
   have s1:=Int.mul_le_mul_of_nonneg_left hu (show 0≤f*mn' from Int.mul_nonneg hf (by omega))
   have s2:=Int.mul_le_mul_of_nonneg_left p.2 (show(0:Int)≤1099511627776 by omega)
   have s3:=Int.mul_le_mul_of_nonneg_left ha (show 0≤g*mx from Int.mul_nonneg hg (by omega))
   have k1:1≤mx*mn':=by have:=Int.mul_le_mul (a:=1) (b:=1) (c:=mx) (d:=mn') m1 n1 (by omega) (by omega);omega
   refine bC k1 ?_
   grind
 have c2:f*t≤g*a:=by
   have s1:=Int.mul_le_mul_of_nonneg_left ht (show 0≤f*mn' from Int.mul_nonneg hf (by omega))
   have s2:=Int.mul_le_mul_of_nonneg_left p.1 (show(0:Int)≤1099511627776 by omega)
   have s3:=Int.mul_le_mul_of_nonneg_left ha (show 0≤g*E from Int.mul_nonneg hg (by omega))
   have k1:1≤E*mn':=by have:=Int.mul_le_mul (a:=1) (b:=1) (c:=E) (d:=mn') e1 n1 (by omega) (by omega);omega
   refine bC k1 ?_
   grind
 have c3:f*u≤g*B':=by
   have s1:=Int.mul_le_mul_of_nonneg_left hu hf
   refine bC m1 ?_
   grind
 have c4:f*t≤g*B':=by
   have s1:=Int.mul_le_mul_of_nonneg_left ht hf
   refine bC e1 ?_
   grind
 rw [ex,ey]
 have i1:=mU u t
 have i2:=pX a B'
 rcases i1.2.2 with k | k<;>rcases i2.2.2 with l | l<;>rw [k,l]<;>assumption
theorem aVh {x:Int×Int} {Q mx E mn B:Int} (h:BV x Q mx E mn B):0≤x.1∧x.2≤1099511627776:=by
 obtain⟨u,t,ex,u0,t0,_⟩:=h.lo
 obtain⟨a,ey,_,ha⟩:=h.hi
 have:=mU u t;have:=pX a B
 omega
theorem aQk {n:Int} (h:0≤n∧n≤400000):(pP n).2=0∧0≤(pP n).1.2∧n*1099511627776≤(pP n).1.2*(pP n).1.2:=by
 obtain⟨r,hr,e⟩:=aLv h
 obtain⟨h0,h1,h2⟩:=hr
 rw [e]
 unfold zE
 have hb:r≤1073741824:=by
   by_cases hc:r≤1073741824
   · exact hc
   · have:=Int.mul_le_mul (show(1073741824:Int)≤r by omega) (show(1073741824:Int)≤r by omega) (by omega) (by omega)
     omega
 have hx:((if r*r=n*1099511627776 then r else r+1)=r∧r*r=n*1099511627776)∨(if r*r=n*1099511627776 then r else r+1)=r+1:=by
   split
   · rename_i c;exact .inl ⟨rfl,c⟩
   · exact .inr rfl
 generalize (if r*r=n*1099511627776 then r else r+1)=s at hx ⊢
 rw [rH (by omega) (by omega) (by omega)]
 refine⟨rfl,?_,?_⟩
 · show 0≤s;omega
 · show n*1099511627776≤s*s
   rcases hx with⟨e1,e2⟩ | e1<;>rw [e1]<;>omega
theorem aNk {p x:P3} (hp:bd 64 p)(hx:bd 256 x):dsW p x=ds p x:=by
 unfold bd at hp hx
 have e1:W (p.1 - x.1)=p.1 - x.1:=aE (by omega) (by omega)
 have e2:W (p.2.1 - x.2.1)=p.2.1 - x.2.1:=aE (by omega) (by omega)
 have e3:W (p.2.2 - x.2.2)=p.2.2 - x.2.2:=aE (by omega) (by omega)
 have b1:=bG (a:=320) (b:=320) (x:=p.1 - x.1) (y:=p.1 - x.1) (by omega) (by omega)
 have b2:=bG (a:=320) (b:=320) (x:=p.2.1 - x.2.1) (y:=p.2.1 - x.2.1) (by omega) (by omega)
 have b3:=bG (a:=320) (b:=320) (x:=p.2.2 - x.2.2) (y:=p.2.2 - x.2.2) (by omega) (by omega)
 unfold dsW ds dt sb
 simp only [e1,e2,e3]
 generalize (p.1 - x.1)*(p.1 - x.1)=a at *
 generalize (p.2.1 - x.2.1)*(p.2.1 - x.2.1)=b at *
 generalize (p.2.2 - x.2.2)*(p.2.2 - x.2.2)=c at *
 rw [aE (n:=a) (by omega) (by omega),aE (n:=b) (by omega) (by omega),aE (n:=c) (by omega) (by omega),aE (n:=a+b) (by omega) (by omega),aE (n:=a+b+c) (by omega) (by omega)]
theorem yR (x:P3):∀(l:List P3)(v:Int),v≤l.foldl (fun v p=>nY v (dsW p x)) v∧∀p∈l,dsW p x≤l.foldl (fun v p=>nY v (dsW p x)) v
 | [],v=>⟨Int.le_refl _,fun s hs=>by cases hs⟩
 | a::l,v=>by
   rw [List.foldl_cons]
   have ih:=yR x l (nY v (dsW a x))
   have hb:=mU v (dsW a x)
   refine⟨Int.le_trans hb.1 ih.1,fun s hs=>?_⟩
   rcases List.mem_cons.1 hs with rfl | hs
   · exact Int.le_trans hb.2.1 ih.1
   · exact ih.2 s hs
theorem aIh {m:ME} (h:cZ m=0):∀p∈pans m,p.1∈m.1∧p.2.1∈m.1∧p.2.2∈m.1:=by
 intro p hp
 obtain⟨c,hc,rfl⟩:=List.mem_map.1 hp
 obtain⟨i,hi⟩:=List.getElem?_of_mem hc
 obtain⟨hlt,_⟩:=List.getElem?_eq_some_iff.1 hi
 obtain⟨h64,_,_,_,hf⟩:=dN h
 have hfc:=hf (i:Int) (by omega) (by omega)
 rw [cH hi] at hfc
 have hin:inF m.1.length c:=iA (m:=m) (by rw [hfc];rfl) h64
 have mm:∀j:Int,0≤j∧j < (m.1.length:Int)→m.1.getD (toNat j) default∈m.1:=fun j hj=>by
   have hl:toNat j < m.1.length:=by omega
   rw [eG,List.getElem?_eq_getElem hl]
   exact List.getElem_mem hl
 exact⟨mm _ hin.1,mm _ hin.2.1,mm _ hin.2.2⟩
theorem aVi {a b c:Int} (h:a*a+b*b+c*c≤0):a=0∧b=0∧c=0:=by
 have sq:∀x:Int,0≤x*x:=fun x=>by
   rcases Int.le_total 0 x with k | k
   · exact Int.mul_nonneg k k
   · exact Int.mul_nonneg_of_nonpos_of_nonpos k k
 have:=sq a;have:=sq b;have:=sq c
 have z:∀x:Int,x*x≤0→x=0:=fun x hx=>by
   rcases Int.lt_trichotomy x 0 with k | k | k
   · have:=Int.mul_le_mul (a:=1) (b:=1) (c:=-x) (d:=-x) (by omega) (by omega) (by omega) (by omega)
     rw [Int.neg_mul_neg] at this;omega
   · exact k
   · have:=Int.mul_le_mul (a:=1) (b:=1) (c:=x) (d:=x) (by omega) (by omega) (by omega) (by omega)
     omega
 exact⟨z a (by omega),z b (by omega),z c (by omega)⟩
theorem aJk {p c:P3} (h:ds p c≤0):p=c:=by
 unfold ds dt sb at h
 obtain⟨h1,h2,h3⟩:=aVi h
 simp only at h1 h2 h3
 exact Prod.ext (by omega) (Prod.ext (by omega) (by omega))
theorem aNl {m:ME} {q:List Int} {c:P3} {d Q mx E mn:Int} (hC:ChOK m q)(S:Sys (yQ m q) d Q mx E mn)(hc:bd 256 c) :
   (F9 m c).2=0∧Q*Q*1099511627776≤(F9 m c).1*E∧Q*1099511627776≤(F9 m c).1*mx:=by
 have hv:=hC.v
 have hpt:=nT hv
 have hW:=rT hc m.1 0 hpt (by omega)
 have eB:F9 m c=((pP (bR m c)).1.2,(pP (bR m c)).2):=by
   unfold F9
   rw [show cZ (m.1,m.2)=0 from hv,rS,rS,rS,eK hc.1,eK hc.2.1,eK hc.2.2]
   show(aC (tB m c) (toNat ((m.1.length:Int) - 0)+1) (0,0))=_
   rw [aCj]
 have L:=aQk (n:=bR m c) hW
 rw [eB]
 refine⟨L.1,?_⟩
 have hd:=(yR c m.1 0).2
 have hm:∀e∈yQ m q,ds e.1.1 c≤bR m c∧ds e.1.2.1 c≤bR m c∧ds e.1.2.2 c≤bR m c:=by
   intro e he
   have hp:=aIh hv e.1 (List.of_mem_zip he).1
   have one:∀p∈m.1,ds p c≤bR m c:=fun p hp=>by rw [←aNk (hpt p hp) hc];exact hd p hp
   exact⟨one _ hp.1,one _ hp.2.1,one _ hp.2.2⟩
 have h1:1≤bR m c:=by
   rcases Int.lt_or_le 0 (bR m c) with k | k
   · omega
   · exfalso
     have hne:∃e,e∈yQ m q:=by
       cases hl:yQ m q with
       | nil=>have a:=S.hQ;rw [hl] at a;have b:=S.Q1;exact absurd (show(0:Int)=Q from a) (by omega)
       | cons a l=>exact⟨a,List.mem_cons_self⟩
     obtain⟨e,he⟩:=hne
     have h3:=hm e he
     have hv:=(gY (S.hL e he).1).2
     have e1:=aJk (Int.le_trans h3.1 k);have e2:=aJk (Int.le_trans h3.2.1 k);have e3:=aJk (Int.le_trans h3.2.2 k)
     have hz:jN e.1=(0,0,0):=by
       have s0:sb c c=(0,0,0):=Prod.ext (Int.sub_self _) (Prod.ext (Int.sub_self _) (Int.sub_self _))
       unfold jN;rw [e1,e2,e3,s0];decide
     rw [hz] at hv
     exact absurd hv (by decide)
 have B1:1≤(pP (bR m c)).1.2:=by
   rcases Int.lt_or_le 0 (pP (bR m c)).1.2 with k | k
   · omega
   · exfalso
     have e0:(pP (bR m c)).1.2=0:=by have:=L.2.1;omega
     have:=L.2.2
     rw [e0] at this;omega
 exact aNd S hc hm h1 L.2.2 B1
theorem aPv {m:ME} {q q':List Int} {d' Q' mx' E' mn':Int} (hC:ChOK m q)(hC':ChOK m q')(S':Sys (yQ m q') d' Q' mx' E' mn'):∀e∈yQ m q,mn'≤((yQ m q').map fun e'=>e'.2*(fK e'.1 (cL (sc d') e.1) d').1).sum:=by
 intro e he
 have hp:=(List.of_mem_zip he).1
 have:∃e'∈yQ m q',e'.1=e.1:=by
   obtain⟨i,hi⟩:=List.getElem?_of_mem hp
   obtain⟨hlt,hge⟩:=List.getElem?_eq_some_iff.1 hi
   have hpl:(pans m).length=m.2.length:=List.length_map _
   have hl:i < (yQ m q').length:=by
     unfold yQ
     rw [List.length_zip];have:=hC'.len;omega
   refine⟨(yQ m q')[i],List.getElem_mem hl,?_⟩
   unfold yQ
   rw [List.getElem_zip];exact hge
 obtain⟨e',he',eq⟩:=this
 have:=S'.hmn e' he'
 rw [eq] at this
 exact this
theorem aNm {m:ME} {q q':List Int} {d d':Int} (h:(cM m q d).2=0)(h':(cM m q' d').2=0):(cM m q d).1.1≤(cM m q' d').1.2:=by
 obtain⟨hC,Q,mx,E,mn,S,V⟩:=gD h
 obtain⟨hC',Q',mx',E',mn',S',V'⟩:=gD h'
 have p:=aNc S S' (aPv hC hC' S')
 have hb:=yC hC.v
 have b:=(aNl hC S (c:=lK (oS m)) (by unfold bd at hb ⊢;omega)).2
 have:=aNj (f:=1) (g:=1) V V' (by omega) (by omega) S.mx1 S.E1 S'.mn1 (by omega) (by omega)
 omega
theorem aIi {m:ME} {q:List Int} {d:Int} (h:(cM m q d).2=0):0≤(cM m q d).1.1∧(cM m q d).1.1≤(cM m q d).1.2∧(cM m q d).1.2≤1099511627776:=by
 obtain⟨hC,Q,mx,E,mn,S,V⟩:=gD h
 have:=aVh V
 exact⟨this.1,aNm h h,this.2⟩
theorem tT {a b:Int} (h:(a:Rat)*uu≤(b:Rat)*uu):a≤b:=by
 have h2:(a:Rat)≤(b:Rat):=by
   have hu:uu*4194304=1:=by unfold uu;decide +kernel
   have h3:=CapT.rmul_le h (show(0:Rat)≤4194304 by decide +kernel)
   have hx:∀x:Rat,x*uu*4194304=x*(uu*4194304):=fun x=>by grind
   rw [hx,hx,hu] at h3
   grind
 exact Rat.intCast_le_intCast.mp h2
def sT (k:Int)(t:CapT.Tri):CapT.Tri:=⟨tm k t.A,tm k t.B,tm k t.C,t.q,t.o⟩
theorem aIj (k:Int)(t:CapT.Tri)(M i j:Nat):CapT.tpt (sT k t) M i j=tm k (CapT.tpt t M i j):=by
 simp only [sT,CapT.tpt,CapT.pt,CapT.vs,tm,Prod.mk.injEq]
 refine⟨?_,?_,?_⟩<;>grind
theorem aVj {k:Int} {t:CapT.Tri} {G K:Nat} (hk:0≤k)(hK:k≤K)(h:CapT.tin G t):CapT.tin ((K*G:Nat):Int) (sT k t):=by
 have one:∀x:P3,CapT.inb (G:Int) x→CapT.inb ((K*G:Nat):Int) (tm k x):=by
   intro x hx
   obtain⟨a1,a2,a3,a4,a5,a6⟩:=hx
   have e:((K*G:Nat):Int)=(K:Int)*(G:Int):=Int.natCast_mul K G
   have up:∀y:Int,y≤G→k*y≤(K:Int)*G:=fun y hy=>by
     have h1:=Int.mul_le_mul_of_nonneg_left hy hk
     have h2:=Int.mul_le_mul_of_nonneg_right hK (show(0:Int)≤(G:Int) by omega)
     omega
   have lo:∀y:Int,-(G:Int)≤y→-((K:Int)*G)≤k*y:=fun y hy=>by
     have h1:=up (-y) (by omega)
     rw [Int.mul_neg] at h1;omega
   unfold CapT.inb tm
   rw [e]
   exact⟨lo _ a1,up _ a2,lo _ a3,up _ a4,lo _ a5,up _ a6⟩
 exact⟨one _ h.1,one _ h.2.1,one _ h.2.2⟩
theorem aC2 {k a b c x y z g:Int} (hk:0≤k)(h:CapT.gapc a b c x y z g):CapT.gapc (k*a) (k*b) (k*c) (k*x) (k*y) (k*z) (k*g):=by
 have mem:∀(u v w p:Int),p∈[k*u,k*v,k*w]→∃p',p'∈[u,v,w]∧p=k*p':=by
   intro u v w p hp
   simp only [List.mem_cons,List.not_mem_nil,or_false] at hp
   rcases hp with rfl | rfl | rfl
   · exact⟨u,by simp,rfl⟩
   · exact⟨v,by simp,rfl⟩
   · exact⟨w,by simp,rfl⟩
 rcases h with h | h | h
 · exact .inl (by rw [h];exact Int.mul_zero k)
 · refine .inr (.inl fun p hp q hq=>?_)
   obtain⟨p',hp',rfl⟩:=mem a b c p hp
   obtain⟨q',hq',rfl⟩:=mem x y z q hq
   have:=Int.mul_le_mul_of_nonneg_left (h p' hp' q' hq') hk
   rw [Int.mul_add] at this;exact this
 · refine .inr (.inr fun p hp q hq=>?_)
   obtain⟨p',hp',rfl⟩:=mem a b c p hp
   obtain⟨q',hq',rfl⟩:=mem x y z q hq
   have:=Int.mul_le_mul_of_nonneg_left (h p' hp' q' hq') hk
   rw [Int.mul_add] at this;exact this
theorem aPw {k:Int} {t s:CapT.Tri} {n:Int} (hk:0≤k)(h:CapT.nearT t s n):CapT.nearT (sT k t) (sT k s) (k*k*n):=by
 obtain⟨g,g1,g2,g3,hn,a,b,c⟩:=h
 refine⟨tm k g,Int.mul_nonneg hk g1,Int.mul_nonneg hk g2,Int.mul_nonneg hk g3,?_,aC2 hk a,aC2 hk b,aC2 hk c⟩
 have:=Int.mul_le_mul_of_nonneg_left hn (show 0≤k*k from CapT.sq_int_nonneg k)
 have e:CapT.nsq (tm k g)=k*k*CapT.nsq g:=by simp only [CapT.nsq,tm];grind
 rw [e];exact this
theorem aGr {k:Int} (hk:1≤k)(h:Rat):(h*(1 / (k:Rat)))*(h*(1 / (k:Rat)))*((k*k:Int):Rat)=h*h:=by
 have:=CapT.odm (CapT.rcast_pos (a:=k) (by omega))
 rw [CapT.rcast_mul]
 have e:(h*(1 / (k:Rat)))*(h*(1 / (k:Rat)))*((k:Rat)*(k:Rat))=h*h*((1 / (k:Rat)*(k:Rat))*(1 / (k:Rat)*(k:Rat))):=by grind
 rw [e,this];grind
theorem aSm {k:Int} {t:CapT.Tri} {h:Rat} (hk:1≤k)(hr:CapT.rimT t h):CapT.rimT (sT k t) (h*(1 / (k:Rat))):=by
 obtain⟨r,r0,r1,r2,r3⟩:=hr
 have kk:1≤k*k:=by have:=Int.mul_le_mul (a:=1) (b:=1) (c:=k) (d:=k) hk hk (by omega) (by omega);omega
 have er:((toNat (k*k)*r:Nat):Int)=k*k*(r:Int):=by rw [Int.natCast_mul,Int.toNat_of_nonneg (by omega)]
 refine⟨toNat (k*k)*r,Nat.mul_pos (by omega) r0,?_,?_,?_⟩
 · rw [er]
   have e:CapT.nsq (CapT.cr (CapT.vs (sT k t).B (sT k t).A) (CapT.vs (sT k t).C (sT k t).A))=k*k*(k*k)*CapT.nsq (CapT.cr (CapT.vs t.B t.A) (CapT.vs t.C t.A)):=by
     simp only [sT,CapT.nsq,CapT.cr,CapT.vs,tm];grind
   rw [e]
   have:=Int.mul_le_mul_of_nonneg_left r1 (show 0≤k*k*(k*k) from CapT.sq_int_nonneg _)
   have e2:k*k*(r:Int)*(k*k*(r:Int))=k*k*(k*k)*((r:Int)*(r:Int)):=by grind
   rw [e2];exact this
 · have e:CapT.nsq (CapT.vs (sT k t).B (sT k t).A)=k*k*CapT.nsq (CapT.vs t.B t.A):=by
     simp only [sT,CapT.nsq,CapT.vs,tm];grind
   rw [e]
   exact Int.mul_pos (by omega) r2
 · rw [er,CapT.rcast_mul (k*k)]
   have:=aGr hk h
   have e:128*(((k*k:Int):Rat)*((r:Int):Rat))*(h*(1 / (k:Rat))*(h*(1 / (k:Rat))))=128*((r:Int):Rat)*((h*(1 / (k:Rat)))*(h*(1 / (k:Rat)))*((k*k:Int):Rat)):=by grind
   rw [e,this];exact r3
theorem yS (k:Int)(X:List CapT.Tri):CapT.tot (X.map (sT k))=CapT.tot X:=by unfold CapT.tot;rw [CapT.ls_map];rfl
theorem yT {w:Int} {q:PN} {t:CapT.Tri} (hA:dH w q t.A)(hB:dH w q t.B)(hC:dH w q t.C) {M i j:Nat} (h:i+j < M):dH ((M:Int)*w) q (CapT.tpt t M i j):=by
 obtain⟨a1,a2,a3,p1,p2,p3,pw,x1,x2,x3⟩:=hA
 obtain⟨b1,b2,b3,q1',q2',q3',qw,y1,y2,y3⟩:=hB
 obtain⟨c1,c2,c3,s1,s2,s3,sw,u1,u2,u3⟩:=hC
 rw [CapT.tpt_eq t h]
 have e:((M - i - j:Nat):Int)+(i:Int)+(j:Int)=(M:Int):=by omega
 have l0:(0:Int)≤((M - i - j:Nat):Int):=by omega
 generalize ((M - i - j:Nat):Int)=l at *
 have i0:(0:Int)≤(i:Int):=by omega
 have j0:(0:Int)≤(j:Int):=by omega
 generalize (i:Int)=i at *
 generalize (j:Int)=j at *
 refine⟨l*a1+i*b1+j*c1,l*a2+i*b2+j*c2,l*a3+i*b3+j*c3,?_,?_,?_,?_,?_,?_,?_⟩
 · have:=Int.mul_nonneg l0 p1;have:=Int.mul_nonneg i0 q1';have:=Int.mul_nonneg j0 s1;omega
 · have:=Int.mul_nonneg l0 p2;have:=Int.mul_nonneg i0 q2';have:=Int.mul_nonneg j0 s2;omega
 · have:=Int.mul_nonneg l0 p3;have:=Int.mul_nonneg i0 q3';have:=Int.mul_nonneg j0 s3;omega
 · rw [←e]
   have e1:l*w=l*a1+l*a2+l*a3:=by rw [←pw];grind
   have e2:i*w=i*b1+i*b2+i*b3:=by rw [←qw];grind
   have e3:j*w=j*c1+j*c2+j*c3:=by rw [←sw];grind
   rw [Int.add_mul,Int.add_mul,e1,e2,e3];omega
 · simp only;rw [x1,y1,u1];grind
 · simp only;rw [x2,y2,u2];grind
 · simp only;rw [x3,y3,u3];grind
theorem aNn (k:Int)(p q:P3):ds (tm k p) (tm k q)=k*k*ds p q:=by simp only [ds,dt,sb,tm];grind
theorem aNo (p q:P3):ds p q=ds q p:=by simp only [ds,dt,sb];grind
theorem aNp (a b:Int)(p:P3):tm a (tm b p)=tm (a*b) p:=by simp only [tm,Prod.mk.injEq];refine⟨?_,?_,?_⟩<;>grind
theorem aNq {d' k':Int} (hd':0≤d'∧d'≤2)(hk:1≤k') {L':List (PN×Int)} (hL':∀e∈L',vp e.1=0∧0≤e.2) {p:PN} {P:P3} {M:Nat} (hM:0 < M)(hP:dH ((M:Int)*4) (cL k' p) P) :
   ∀s,s∈qE d' L'→0≤((pM d' (cL (sc d') p) s.o.1:Int):Rat)*uu*(1 / (k':Rat))∧∃f:Int,1≤f∧((pM d' (cL (sc d') p) s.o.1:Int):Rat)*uu*(1 / (k':Rat))*(((pM d' (cL (sc d') p) s.o.1:Int):Rat)*uu*(1 / (k':Rat)))*(f:Rat)≤1∧∀i' j':Nat,i'+j' < M→CapT.nsq (CapT.vs P (CapT.tpt (sT k' s) M i' j'))≤(M:Int)*(M*f):=by
 intro s hs
 obtain⟨e',he',c,hc,rfl⟩:=eP hs
 have hp':=(hL' e' he').1
 have hg:=yO hd'
 have hb1:=aM6 hd'
 have hfp:=aCf (q:=cL (sc d') p) hp' (d:=d') (by omega) hc
 have hN:0≤NN (sc d')∧NN (sc d')≤288230376151711744:=xN (oL d')
 obtain⟨k,k1,k2,k3,k4,k5,k6,k7,k8⟩:=iI hN hfp
 have kk:1≤k'*k':=by have:=Int.mul_le_mul (a:=1) (b:=1) (c:=k') (d:=k') hk hk (by omega) (by omega);omega
 have ik:=CapT.inv_nn (Rat.le_of_lt (CapT.rcast_pos (a:=k') (by omega)))
 have hbl:pM d' (cL (sc d') p) c=k:=by
   unfold pM vM
   rw [if_neg (by omega)]
   unfold inv
   exact k1
 have f0:1≤vO c (cL (sc d') p)*(cF d'*cF d'):=by
   have:=Int.mul_le_mul (a:=1) (b:=1) (c:=vO c (cL (sc d') p)) (d:=cF d'*cF d') hfp (by have:=Int.mul_le_mul (a:=1) (b:=1) (c:=cF d') (d:=cF d') hg.2.1 hg.2.1 (by omega) (by omega);omega) (by omega) (by omega)
   omega
 have one:∀x:P3,(tm (sc d') x=(cL (sc d') p).1∨tm (sc d') x=(cL (sc d') p).2.1∨tm (sc d') x=(cL (sc d') p).2.2)→∀a,(a=c.1∨a=c.2.1∨a=c.2.2)→ds (tm 4 x) (tm (cF d') a)≤vO c (cL (sc d') p)*(cF d'*cF d'):=by
   intro x hx a ha
   have h1:=aId c (cL (sc d') p) ha hx
   have h2:=Int.mul_le_mul_of_nonneg_right h1 (show 0≤cF d'*cF d' from CapT.sq_int_nonneg _)
   have e1:ds (tm 4 x) (tm (cF d') a)=ds a (tm (sc d') x)*(cF d'*cF d'):=by
     rw [←hg.1]
     simp only [ds,dt,sb,tm]
     grind
   rw [e1];exact h2
 refine⟨?_,k'*k'*(vO c (cL (sc d') p)*(cF d'*cF d')),?_,?_,?_⟩
 · show 0≤((pM d' (cL (sc d') p) c:Int):Rat)*uu*(1 / (k':Rat))
   rw [hbl]
   exact Rat.mul_nonneg (Rat.mul_nonneg (CapT.rcast_le (a:=0) k3) (Rat.le_of_lt jC)) ik
 · have:=Int.mul_le_mul (a:=1) (b:=1) kk f0 (by omega) (by omega)
   omega
 · show((pM d' (cL (sc d') p) c:Int):Rat)*uu*(1 / (k':Rat))*(((pM d' (cL (sc d') p) c:Int):Rat)*uu*(1 / (k':Rat)))*_≤1
   rw [hbl,CapT.rcast_mul (k'*k')]
   have h1:=aGr hk (((k:Int):Rat)*uu)
   have h2:((k:Int):Rat)*uu*(((k:Int):Rat)*uu)*((vO c (cL (sc d') p)*(cF d'*cF d'):Int):Rat)≤1:=by
     refine aM5 ?_
     have:=Int.mul_le_mul_of_nonneg_right k8 (show 0≤cF d'*cF d' from CapT.sq_int_nonneg _)
     rw [hb1] at this
     grind
   rw [←Rat.mul_assoc,h1];exact h2
 · intro i' j' hij
   generalize vO c (cL (sc d') p)*(cF d'*cF d')=F at *
   rw [aIj]
   generalize hR:CapT.tpt (jG d' (eD e'.1 d') ((e'.2:Int):Rat) c) M i' j'=R
   -- R lies in the dH of the part's corners
   have hRh:dH ((M:Int)*1) (tm (cF d') c.1,tm (cF d') c.2.1,tm (cF d') c.2.2) R:=by
     rw [←hR]
     refine yT ?_ ?_ ?_ hij
     · exact⟨1,0,0,by decide,by decide,by decide,by decide,by simp only [jG];omega,by simp only [jG];omega,by simp only [jG];omega⟩
     · exact⟨0,1,0,by decide,by decide,by decide,by decide,by simp only [jG];omega,by simp only [jG];omega,by simp only [jG];omega⟩
     · exact⟨0,0,1,by decide,by decide,by decide,by decide,by simp only [jG];omega,by simp only [jG];omega,by simp only [jG];omega⟩
   have two:∀x:P3,(tm (sc d') x=(cL (sc d') p).1∨tm (sc d') x=(cL (sc d') p).2.1∨tm (sc d') x=(cL (sc d') p).2.2)→ds (tm ((M:Int)*4) (tm k' x)) (tm k' R)≤(M:Int)*(M*(k'*k'*F)):=by
     intro x hx
     have e1:tm ((M:Int)*4) (tm k' x)=tm k' (tm M (tm 4 x)):=by rw [aNp,aNp,aNp];congr 1;grind
     rw [e1,aNn,aNo]
     have cor:∀a,(a=c.1∨a=c.2.1∨a=c.2.2)→ds (tm ((M:Int)*1) (tm (cF d') a)) (tm M (tm 4 x))≤(M:Int)*M*F:=by
       intro a ha
       rw [Int.mul_one,aNn,aNo]
       exact Int.mul_le_mul_of_nonneg_left (one x hx a ha) (CapT.sq_int_nonneg _)
     have:=rX (w:=(M:Int)*1) (Z:=tm M (tm 4 x)) (by omega) hRh (cor _ (.inl rfl)) (cor _ (.inr (.inl rfl))) (cor _ (.inr (.inr rfl)))
     have h3:=Int.mul_le_mul_of_nonneg_left this (show 0≤k'*k' by omega)
     have e2:(M:Int)*(M*(k'*k'*F))=k'*k'*((M:Int)*M*F):=by grind
     rw [e2];exact h3
   exact rX (w:=(M:Int)*4) (Z:=tm k' R) (by omega) hP (two p.1 (.inl rfl)) (two p.2.1 (.inr (.inl rfl))) (two p.2.2 (.inr (.inr rfl)))
theorem aPx {w g:Int} {q:PN} {X:P3} (h:dH w q X):dH w (cL g q) (tm g X):=by
 obtain⟨i,j,k,hi,hj,hk,hw,h1,h2,h3⟩:=h
 refine⟨i,j,k,hi,hj,hk,hw,?_,?_,?_⟩
 · simp only [tm,cL];rw [h1];grind
 · simp only [tm,cL];rw [h2];grind
 · simp only [tm,cL];rw [h3];grind
theorem aGs {d k:Int} (hd:0≤d∧d≤2)(hk:1≤k) {L:List (PN×Int)} (hL:∀e∈L,vp e.1=0∧0≤e.2):∀t,t∈(qE d L).map (sT k)→∀t',t'∈(qE d L).map (sT k)→0 < hcap d t t'*(1 / (k:Rat))∧((∃f:Int,1≤f∧1≤hcap d t t'*(1 / (k:Rat))*(hcap d t t'*(1 / (k:Rat)))*(f:Rat)∧CapT.nearT t' t f)∨CapT.rimT t (hcap d t t'*(1 / (k:Rat)))):=by
 intro t ht t' ht'
 obtain⟨s,hs,rfl⟩:=List.mem_map.1 ht
 obtain⟨s',hs',rfl⟩:=List.mem_map.1 ht'
 have e:hcap d (sT k s) (sT k s')=hcap d s s':=rfl
 rw [e]
 have kp:=CapT.rcast_pos (a:=k) (by omega)
 have kk:1≤k*k:=by have:=Int.mul_le_mul (a:=1) (b:=1) (c:=k) (d:=k) hk hk (by omega) (by omega);omega
 obtain⟨h0,h1⟩:=yP hd hL s hs s' hs'
 refine⟨Rat.mul_pos h0 ?_,?_⟩
 · have h2:=CapT.odm kp
   have h3:=CapT.inv_nn (Rat.le_of_lt kp)
   refine Rat.not_le.1 (fun h4=>?_)
   have:1 / (k:Rat)=0:=Rat.le_antisymm h4 h3
   rw [this] at h2;grind
 · rcases h1 with⟨f,f1,f2,f3⟩ | h1
   · refine .inl ⟨k*k*f,?_,?_,aPw (by omega) f3⟩
     · have:=Int.mul_le_mul (a:=1) (b:=1) kk f1 (by omega) (by omega)
       omega
     · rw [CapT.rcast_mul (k*k),←Rat.mul_assoc,aGr hk];exact f2
   · exact .inr (aSm hk h1)
theorem aNr (d:Int)(k:Rat)(n:Int)(L:List (PN×Int)):CapT.ls ((qE d L).map (sT n)) (fun t'=>t'.q*CapT.ls ((qE d L).map (sT n)) (fun t=>t.q*(hcap d t t'*k)))=((rY d L:Int):Rat)*uu*k:=by
 rw [CapT.ls_map,←aSe,Rat.mul_comm _ k,←CapT.ls_mul]
 refine CapT.ls_congr (fun t' _=>?_)
 rw [CapT.ls_map]
 have:CapT.ls (qE d L) (fun a=>(sT n a).q*(hcap d (sT n a) (sT n t')*k))=k*CapT.ls (qE d L) (fun t=>t.q*hcap d t t'):=by
   rw [←CapT.ls_mul]
   refine CapT.ls_congr (fun t _=>?_)
   show t.q*(hcap d t t'*k)=k*(t.q*hcap d t t')
   grind
 rw [this]
 show t'.q*(k*_)=k*(t'.q*_)
 grind
theorem aEo {d k:Int} (hd:0≤d∧d≤2)(hk:1≤k∧k≤128) {L:List (PN×Int)} (hL:∀e∈L,vp e.1=0∧0≤e.2):∀t,t∈(qE d L).map (sT k)→0≤t.q∧CapT.tin ((128*2048:Nat):Int) t:=by
 intro t ht
 obtain⟨s,hs,rfl⟩:=List.mem_map.1 ht
 obtain⟨e,he,c,hc,rfl⟩:=eP hs
 exact⟨CapT.rcast_le (a:=0) (hL e he).2,aVj (by omega) (by omega) (aC0 hd (hL e he).1 hc)⟩
theorem aVk {d d' k k':Int} (hd:0≤d∧d≤2)(hd':0≤d'∧d'≤2)(hk:1≤k∧k≤128)(hk':1≤k'∧k'≤128) {L L':List (PN×Int)} (hL:∀e∈L,vp e.1=0∧0≤e.2)(hL':∀e∈L',vp e.1=0∧0≤e.2) {V0 E0:Int}
   (hV:∀e∈L,∀(w:Int) (P:P3),1≤w→dH w e.1 P→∃p,dH w (cL k' p) (tm k P)∧V0≤PLs d' L' p) (hE:rY d L≤E0) :
   k*((sc d*sc d*eQ L)*(sc d*sc d*eQ L)*V0)≤k'*((sc d'*sc d'*eQ L')*E0):=by
 have kp:=CapT.rcast_pos (a:=k) (by omega)
 have kp':=CapT.rcast_pos (a:=k') (by omega)
 have ik:=CapT.inv_nn (Rat.le_of_lt kp)
 have ik':=CapT.inv_nn (Rat.le_of_lt kp')
 have ok:=CapT.odm kp
 have ok':=CapT.odm kp'
 have key:=CapT.cap (X:=(qE d L).map (sT k)) (Y:=(qE d' L').map (sT k')) (G:=128*2048) (h:=fun t t'=>hcap d t t'*(1 / (k:Rat))) (V:=((V0:Int):Rat)*uu*(1 / (k':Rat))) (E:=((E0:Int):Rat)*uu*(1 / (k:Rat)))
   (aEo hd hk hL) (aEo hd' hk' hL')
   (fun t ht M i j hij=>by
     obtain⟨s,hs,rfl⟩:=List.mem_map.1 ht
     obtain⟨e,he,c,hc,rfl⟩:=eP hs
     have hh:=rZ (R:=eD e.1 d) (w:=((e.2:Int):Rat)) hd (hL e he).1 hc
     have hm:=yT (hh _ List.mem_cons_self) (hh _ (List.mem_cons_of_mem _ List.mem_cons_self)) (hh _ (List.mem_cons_of_mem _ (List.mem_cons_of_mem _ List.mem_cons_self))) hij
     obtain⟨p,hp,hv⟩:=hV e he _ _ (by omega) hm
     refine⟨fun s=>((pM d' (cL (sc d') p) s.o.1:Int):Rat)*uu*(1 / (k':Rat)),fun s hs=>?_,?_⟩
     · obtain⟨s0,hs0,rfl⟩:=List.mem_map.1 hs
       rw [aIj]
       exact aNq hd' hk'.1 hL' (M:=M) (by omega) hp s0 hs0
     · rw [CapT.ls_map]
       have e1:CapT.ls (qE d' L') (fun a=>(sT k' a).q*(((pM d' (cL (sc d') p) (sT k' a).o.1:Int):Rat)*uu*(1 / (k':Rat))))=(1 / (k':Rat))*(((PLs d' L' p:Int):Rat)*uu):=by
         rw [←aSf,←CapT.ls_mul]
         refine CapT.ls_congr (fun a _=>?_)
         show a.q*(((pM d' (cL (sc d') p) a.o.1:Int):Rat)*uu*(1 / (k':Rat)))=_
         grind
       rw [e1,Rat.mul_comm (1 / (k':Rat))]
       exact CapT.rmul_le (CapT.rmul_le (CapT.rcast_le hv) (Rat.le_of_lt jC)) ik')
   (aGs hd hk.1 hL) (by
     rw [aNr]
     exact CapT.rmul_le (CapT.rmul_le (CapT.rcast_le hE) (Rat.le_of_lt jC)) ik)
 rw [yS,yS,jQ hd,jQ hd'] at key
 generalize sc d*sc d*eQ L=a at *
 generalize sc d'*sc d'*eQ L'=b at *
 have h0:=CapT.rmul_le (CapT.rmul_le key (Rat.le_of_lt kp)) (Rat.le_of_lt kp')
 have h1:((k*(a*a*V0):Int):Rat)*uu≤((k'*(b*E0):Int):Rat)*uu:=by
   rw [CapT.rcast_mul,CapT.rcast_mul (a*a),CapT.rcast_mul a,CapT.rcast_mul k',CapT.rcast_mul b]
   have e1:(a:Rat)*(a:Rat)*((V0:Rat)*uu*(1 / (k':Rat)))*(k:Rat)*(k':Rat)=(k:Rat)*((a:Rat)*(a:Rat)*(V0:Rat))*uu*(1 / (k':Rat)*(k':Rat)):=by grind
   have e2:(b:Rat)*((E0:Rat)*uu*(1 / (k:Rat)))*(k:Rat)*(k':Rat)=(k':Rat)*((b:Rat)*(E0:Rat))*uu*(1 / (k:Rat)*(k:Rat)):=by grind
   rw [e1,e2,ok,ok'] at h0
   grind
 exact tT h1
theorem aVl {L L':List (PN×Int)} {d Q mx E mn d' Q' mx' E' mn' k k':Int} (S:Sys L d Q mx E mn)(S':Sys L' d' Q' mx' E' mn')(hk:1≤k∧k≤128)(hk':1≤k'∧k'≤128)
   (hV:∀e∈L,∀(w:Int) (P:P3),1≤w→dH w e.1 P→∃p,dH w (cL k' p) (tm k P)∧mn'≤(L'.map fun e'=>e'.2*(fK e'.1 (cL (sc d') p) d').1).sum) :
   k*(Q*Q*mn')≤k'*(Q'*E)∧k*(Q*mn')≤k'*(Q'*mx):=by
 have hV0:∀e∈L,∀(w:Int) (P:P3),1≤w→dH w e.1 P→∃p,dH w (cL k' p) (tm k P)∧sc d'*sc d'*mn'≤PLs d' L' p:=fun e he w P hw hP=>by
   obtain⟨p,h1,h2⟩:=hV e he w P hw hP
   exact⟨p,h1,Int.le_trans (Int.mul_le_mul_of_nonneg_left h2 (by have:=cR d';omega)) (aNa S'.hL p)⟩
 have a:=aVk S.hd S'.hd hk hk' S.hL S'.hL hV0 (sC S)
 have b:=aVk S.hd S'.hd hk hk' S.hL S'.hL hV0 (sB S)
 rw [S.hQ,S'.hQ] at a b
 have n1:=cR d;have n2:=cR d'
 generalize sc d*sc d=n at *
 generalize sc d'*sc d'=n' at *
 have nn:1≤n*n:=by have:=Int.mul_le_mul (a:=1) (b:=1) (c:=n) (d:=n) n1 n1 (by omega) (by omega);omega
 have nnn:1≤n*n*n':=by have:=Int.mul_le_mul (a:=1) (b:=1) (c:=n*n) (d:=n') nn n2 (by omega) (by omega);omega
 refine⟨bC nnn ?_,bC S.Q1 (bC nnn ?_)⟩
 · have e1:n*n*n'*(k*(Q*Q*mn'))=k*(n*Q*(n*Q)*(n'*mn')):=by grind
   have e2:n*n*n'*(k'*(Q'*E))=k'*(n'*Q'*(n*n*E)):=by grind
   rw [e1,e2];exact a
 · have e1:n*n*n'*(Q*(k*(Q*mn')))=k*(n*Q*(n*Q)*(n'*mn')):=by grind
   have e2:n*n*n'*(Q*(k'*(Q'*mx)))=k'*(n'*Q'*(n*n*(Q*mx))):=by grind
   rw [e1,e2];exact b
theorem aQl {d k:Int} (hd:0≤d∧d≤2)(hk:1≤k∧k≤128) {L:List (PN×Int)} (hL:∀e∈L,vp e.1=0∧0≤e.2) {c:P3} {m B E0:Int} (hc:bd 16384 c)(hm:∀e∈L,ds (tm k e.1.1) c≤m∧ds (tm k e.1.2.1) c≤m∧ds (tm k e.1.2.2) c≤m)(hm1:1≤m)(hB:m*1099511627776≤B*B)(hB0:1≤B)(hE:rY d L≤E0) :
   k*((sc d*sc d*eQ L)*(sc d*sc d*eQ L)*1099511627776)≤B*E0:=by
 have hBr:=CapT.rcast_pos (a:=B) (by omega)
 have iB:=CapT.odm hBr
 have iB0:=CapT.inv_nn (Rat.le_of_lt hBr)
 have kp:=CapT.rcast_pos (a:=k) (by omega)
 have ik:=CapT.inv_nn (Rat.le_of_lt kp)
 have ok:=CapT.odm kp
 have key:=CapT.cap (X:=(qE d L).map (sT k)) (Y:=[⟨tm 4 c,tm 4 c,tm 4 c,1,((c,c,c),0)⟩]) (G:=128*2048) (h:=fun t t'=>hcap d t t'*(1 / (k:Rat))) (V:=262144*(1 / ((B:Int):Rat))) (E:=((E0:Int):Rat)*uu*(1 / (k:Rat)))
   (aEo hd hk hL)
   (fun t ht=>by
     obtain rfl:=List.mem_singleton.1 ht
     have:CapT.inb ((128*2048:Nat):Int) (tm 4 c):=by
       unfold CapT.inb tm bd at *
       simp only
       omega
     exact⟨show(0:Rat)≤1 by decide +kernel,this,this,this⟩)
   (fun t ht M i j hij=>by
     obtain⟨s0,hs0,rfl⟩:=List.mem_map.1 ht
     obtain⟨e,he,b,hb,rfl⟩:=eP hs0
     have hp:=(hL e he).1
     refine CapT.potAt_of (fun _=>262144*(1 / ((B:Int):Rat))) (fun s hs=>?_) ?_ hij
     · obtain rfl:=List.mem_singleton.1 hs
       refine⟨Rat.mul_nonneg (by decide +kernel) iB0,16*m,by omega,?_,?_⟩
       · have h1:=CapT.rcast_le hB
         rw [CapT.rcast_mul,CapT.rcast_mul] at h1
         have h2:=CapT.rmul_le' h1 (CapT.sq_nonneg (1 / ((B:Int):Rat)))
         have e1:(1 / ((B:Int):Rat))*(1 / ((B:Int):Rat))*(((B:Int):Rat)*((B:Int):Rat))=(1 / ((B:Int):Rat)*((B:Int):Rat))*(1 / ((B:Int):Rat)*((B:Int):Rat)):=by grind
         rw [e1,iB] at h2
         have c1:((1099511627776:Int):Rat)=1099511627776:=rfl
         rw [c1] at h2
         rw [CapT.rcast_mul,show((16:Int):Rat)=16 from rfl]
         grind
       · intro P hP Q hQ
         have hP':∃P0,dH 4 e.1 P0∧P=tm k P0:=by
           have hh:=rZ (R:=eD e.1 d) (w:=((e.2:Int):Rat)) hd hp hb
           simp only [List.mem_cons,List.not_mem_nil,or_false] at hP
           rcases hP with rfl | rfl | rfl
           · exact⟨_,hh _ List.mem_cons_self,rfl⟩
           · exact⟨_,hh _ (List.mem_cons_of_mem _ List.mem_cons_self),rfl⟩
           · exact⟨_,hh _ (List.mem_cons_of_mem _ (List.mem_cons_of_mem _ List.mem_cons_self)),rfl⟩
         obtain⟨P0,hh,rfl⟩:=hP'
         have hQ':Q=tm 4 c:=by
           simp only [List.mem_cons,List.not_mem_nil,or_false,or_self] at hQ
           exact hQ
         subst hQ'
         have e4:∀x:P3,ds (tm 4 x) (tm 4 c)=16*ds x c:=by
           intro x;simp only [ds,dt,sb,tm];grind
         have h3:=hm e he
         exact rX (w:=4) (Z:=tm 4 c) (by decide) (aPx hh) (by rw [e4];exact Int.mul_le_mul_of_nonneg_left h3.1 (by decide)) (by rw [e4];exact Int.mul_le_mul_of_nonneg_left h3.2.1 (by decide)) (by rw [e4];exact Int.mul_le_mul_of_nonneg_left h3.2.2 (by decide))
     · simp only [CapT.ls];grind)
   (aGs hd hk.1 hL) (by
     rw [aNr]
     exact CapT.rmul_le (CapT.rmul_le (CapT.rcast_le hE) (Rat.le_of_lt jC)) ik)
 rw [yS,jQ hd] at key
 have t1:CapT.tot [⟨tm 4 c,tm 4 c,tm 4 c,1,((c,c,c),0)⟩]=1:=by simp only [CapT.tot,CapT.ls];grind
 rw [t1] at key
 generalize sc d*sc d*eQ L=a at *
 have h0:=CapT.rmul_le (CapT.rmul_le key (Rat.le_of_lt hBr)) (Rat.le_of_lt kp)
 have hu:uu*4194304=1:=by unfold uu;decide +kernel
 have h1:((k*(a*a*1099511627776):Int):Rat)*uu≤((B*E0:Int):Rat)*uu:=by
   rw [CapT.rcast_mul,CapT.rcast_mul (a*a),CapT.rcast_mul a,CapT.rcast_mul B,show((1099511627776:Int):Rat)=1099511627776 from rfl]
   have e1:(a:Rat)*(a:Rat)*(262144*(1 / (B:Rat)))*(B:Rat)*(k:Rat)=(a:Rat)*(a:Rat)*(k:Rat)*262144*(1 / (B:Rat)*(B:Rat)):=by grind
   have e2:1*((E0:Rat)*uu*(1 / (k:Rat)))*(B:Rat)*(k:Rat)=(E0:Rat)*(B:Rat)*uu*(1 / (k:Rat)*(k:Rat)):=by grind
   rw [e1,e2,iB,ok] at h0
   have e3:(k:Rat)*((a:Rat)*(a:Rat)*1099511627776)*uu=(a:Rat)*(a:Rat)*(k:Rat)*262144*(uu*4194304):=by grind
   rw [e3,hu]
   grind
 exact tT h1
theorem aA9 {L:List (PN×Int)} {d Q mx E mn k:Int} (S:Sys L d Q mx E mn)(hk:1≤k∧k≤128) {c:P3} {m B:Int} (hc:bd 16384 c)(hm:∀e∈L,ds (tm k e.1.1) c≤m∧ds (tm k e.1.2.1) c≤m∧ds (tm k e.1.2.2) c≤m)(hm1:1≤m)(hB:m*1099511627776≤B*B)(hB0:1≤B):k*(Q*Q*1099511627776)≤B*E∧k*(Q*1099511627776)≤B*mx:=by
 have a:=aQl S.hd hk S.hL hc hm hm1 hB hB0 (sC S)
 have b:=aQl S.hd hk S.hL hc hm hm1 hB hB0 (sB S)
 rw [S.hQ] at a b
 have n1:=cR d
 generalize sc d*sc d=n at *
 have nn:1≤n*n:=by have:=Int.mul_le_mul (a:=1) (b:=1) (c:=n) (d:=n) n1 n1 (by omega) (by omega);omega
 refine⟨bC nn ?_,bC S.Q1 (bC nn ?_)⟩
 · have e1:n*n*(k*(Q*Q*1099511627776))=k*(n*Q*(n*Q)*1099511627776):=by grind
   have e2:n*n*(B*E)=B*(n*n*E):=by grind
   rw [e1,e2];exact a
 · have e1:n*n*(Q*(k*(Q*1099511627776)))=k*(n*Q*(n*Q)*1099511627776):=by grind
   have e2:n*n*(Q*(B*mx))=B*(n*n*(Q*mx)):=by grind
   rw [e1,e2];exact b
def F38 (a0:Zm):(Zm)×Int :=
 (bif (((cZ (a0.1,a0.2)):Int) != 0) then
  default
 else
  ((a0.1,a0.2),0))
theorem C38 (a0:Zm)(l0_1:a0.1.length≤9223372036854775807)(l0_2:a0.2.length≤9223372036854775807)(hv:cZ a0=0):Con Try.prog 38 [(.a [(.s 0 0 a0.1.length 3),(.s 1 0 a0.2.length 3)])] [(.live false true (flat dD a0.1)),(.live false true (flat eE a0.2))] (.t [(.a [(.s 0 0 a0.1.length 3),(.s 1 0 a0.2.length 3)]),(iv (F38 a0).2)]) []:=by
 refine aL Try.func38 (by kernel_rfl) fun cx hcx=>?_
 let t0:List (St Try.prog):=[.c [0,1] (C31 (a0.1,a0.2) (by(try simp only [Lt]);omega) (by(try simp only [Lt]);omega))]
 cases h0:(((cZ (a0.1,a0.2)):Int) != 0) with
 | true =>
  have q0:=bne_iff_ne.1 h0
  exact absurd hv (bne_iff_ne.1 h0)
 | false =>
  have q0:=bne_eq_false_iff_eq.1 h0
  have e:=Eq.refl (F38 a0);conv at e=>rhs;simp only [F38,h0,aK]
  rw [e]
  exact rt (t0++[.d h0]) [] [] hcx (by kernel_rfl)
theorem aPy (a0:Zm)(l0_1:a0.1.length≤9223372036854775807)(l0_2:a0.2.length≤9223372036854775807)(h:(((cZ (a0.1,a0.2)):Int) != 0)=true):Con Try.prog 38 [(.a [(.s 0 0 a0.1.length 3),(.s 1 0 a0.2.length 3)])] [(.live false true (flat dD a0.1)),(.live false true (flat eE a0.2))] (.t [(.a [(.v (.slice none 0 0)),(.v (.slice none 0 0))]),(iv (cZ (a0.1,a0.2)))]) []:=by
 refine aL Try.func38 (by kernel_rfl) fun cx hcx=>?_
 exact rt [.c [0,1] (C31 (a0.1,a0.2) l0_1 l0_2),.d h] [] [] hcx (by kernel_rfl)
theorem aNs (a0:Zm)(l0_1:a0.1.length≤9223372036854775807)(l0_2:a0.2.length≤9223372036854775807)(h:(((cZ (a0.1,a0.2)):Int) != 0)=false):Con Try.prog 38 [(.a [(.s 0 0 a0.1.length 3),(.s 1 0 a0.2.length 3)])] [(.live false true (flat dD a0.1)),(.live false true (flat eE a0.2))] (.t [(.a [(.s 0 0 a0.1.length 3),(.s 1 0 a0.2.length 3)]),(iv 0)]) []:=by
 have e:F38 a0=(a0,0):=by unfold F38;rw [h,cond_false]
 have hc:=C38 a0 l0_1 l0_2 (bne_eq_false_iff_eq.1 h)
 rw [e] at hc
 exact hc
def F7:Bool :=
 (bif (((F9 (kP.1,kP.2) (0,0,0)).2:Int) == 0) then
  (bif (((F9 (kP.1,kP.2) (0,0,0)).1:Int) == 1048576) then
   (bif (((F17 (kP.1,kP.2) 1).2:Int) == 0) then
    (bif (((F17 (kP.1,kP.2) 1).1:Int) == 1280) then
     (bif (((zB (kP.1,kP.2) 0).2:Int) == 0) then
      (bif (decide (((zB (kP.1,kP.2) 0).1.1:Int) > 0)) then
       (decide (((zB (kP.1,kP.2) 0).1.2:Int)≤1048576))
      else
       false)
     else
      false)
    else
     false)
   else
    false)
  else
   false)
 else
  false)
theorem C7:Con Try.prog 7 [] [] (.v (.bool F7)) []:=by
 refine aL Try.func7 (by kernel_rfl) fun cx hcx=>?_
 have ho1:kP.1.length=6:=by kernel_rfl
 have ho2:kP.2.length=8:=by kernel_rfl
 let t0:List (St Try.prog):=[.c [] (C27),.c [0,1] (C9 (kP.1,kP.2) (0,0,0) (by(try simp only [Lt]);omega) (by(try simp only [Lt]);omega)),.c [] (C27),.c [2,3] (C17 (kP.1,kP.2) 1 (by(try simp only [Lt]);omega) (by(try simp only [Lt]);omega)),.c [] (C27),.c [4,5] (C12 (kP.1,kP.2) 0 (by(try simp only [Lt]);omega) (by(try simp only [Lt]);omega))]
 cases h0:(((F9 (kP.1,kP.2) (0,0,0)).2:Int) == 0) with
 | true =>
  have q0:=eq_of_beq h0
  let t1:List (St Try.prog):=(t0++[.d h0])
  cases h1:(((F9 (kP.1,kP.2) (0,0,0)).1:Int) == 1048576) with
  | true =>
   have q1:=eq_of_beq h1
   let t2:List (St Try.prog):=(t1++[.d h1])
   cases h2:(((F17 (kP.1,kP.2) 1).2:Int) == 0) with
   | true =>
    have q2:=eq_of_beq h2
    let t3:List (St Try.prog):=(t2++[.d h2])
    cases h3:(((F17 (kP.1,kP.2) 1).1:Int) == 1280) with
    | true =>
     have q3:=eq_of_beq h3
     let t4:List (St Try.prog):=(t3++[.d h3])
     cases h4:(((zB (kP.1,kP.2) 0).2:Int) == 0) with
     | true =>
      have q4:=eq_of_beq h4
      let t5:List (St Try.prog):=(t4++[.d h4])
      cases h5:(decide (((zB (kP.1,kP.2) 0).1.1:Int) > 0)) with
      | true =>
       have q5:=cY h5
       have e:=Eq.refl F7;conv at e=>rhs;simp only [F7,h0,h1,h2,h3,h4,h5,aK]
       rw [e]
       exact rt (t5++[.d h5]) [] [] hcx (by kernel_rfl)
      | false =>
       have q5:=dU h5
       have e:=Eq.refl F7;conv at e=>rhs;simp only [F7,h0,h1,h2,h3,h4,h5,aK]
       rw [e]
       exact rt (t5++[.d h5]) [] [] hcx (by kernel_rfl)
     | false =>
      have q4:=ne_of_beq_false h4
      have e:=Eq.refl F7;conv at e=>rhs;simp only [F7,h0,h1,h2,h3,h4,aK]
      rw [e]
      exact rt (t4++[.d h4]) [] [] hcx (by kernel_rfl)
    | false =>
     have q3:=ne_of_beq_false h3
     have e:=Eq.refl F7;conv at e=>rhs;simp only [F7,h0,h1,h2,h3,aK]
     rw [e]
     exact rt (t3++[.d h3]) [] [] hcx (by kernel_rfl)
   | false =>
    have q2:=ne_of_beq_false h2
    have e:=Eq.refl F7;conv at e=>rhs;simp only [F7,h0,h1,h2,aK]
    rw [e]
    exact rt (t2++[.d h2]) [] [] hcx (by kernel_rfl)
  | false =>
   have q1:=ne_of_beq_false h1
   have e:=Eq.refl F7;conv at e=>rhs;simp only [F7,h0,h1,aK]
   rw [e]
   exact rt (t1++[.d h1]) [] [] hcx (by kernel_rfl)
 | false =>
  have q0:=ne_of_beq_false h0
  have e:=Eq.refl F7;conv at e=>rhs;simp only [F7,h0,aK]
  rw [e]
  exact rt (t0++[.d h0]) [] [] hcx (by kernel_rfl)
def F10 (a0:Int×Int)(a1:Int×Int):Bool :=
 (bif (((F21 a0 a1).2.2:Int) == 0) then
  (F21 a0 a1).2.1
 else
  false)
theorem C10 (a0:Int×Int)(a1:Int×Int):Con Try.prog 10 [(.a [(iv a0.1),(iv a0.2)]),(.a [(iv a1.1),(iv a1.2)])] [] (.v (.bool (F10 a0 a1))) []:=by
 refine aL Try.func10 (by kernel_rfl) fun cx hcx=>?_
 let t0:List (St Try.prog):=[.c [] (C21 a0 a1)]
 cases h0:(((F21 a0 a1).2.2:Int) == 0) with
 | true =>
  have q0:=eq_of_beq h0
  have e:=Eq.refl (F10 a0 a1);conv at e=>rhs;simp only [F10,h0,aK]
  rw [e]
  exact rt (t0++[.d h0]) [] [] hcx (by kernel_rfl)
 | false =>
  have q0:=ne_of_beq_false h0
  have e:=Eq.refl (F10 a0 a1);conv at e=>rhs;simp only [F10,h0,aK]
  rw [e]
  exact rt (t0++[.d h0]) [] [] hcx (by kernel_rfl)
theorem aSn:F7=true:=by kernel_rfl
theorem aSo {a c:Int×Int} (ha:vs a)(hc:vs c)(h1:a.1≤c.2)(h2:c.1≤a.2):F10 a c=true:=by
 have hm:(F21 a c).2.1=true∧(F21 a c).2.2=0:=by
   unfold F21 mK
   have e1:sD (a,c).1=true:=aAt (a:=a.1) (b:=a.2) ha.1 ha.2.1 ha.2.2
   have e2:sD (a,c).2=true:=aAt (a:=c.1) (b:=c.2) hc.1 hc.2.1 hc.2.2
   have h3:=ha.2.1;have h4:=hc.2.1
   rw [e1,e2,fN (by(repeat' split)<;>omega)]
   exact⟨rfl,rfl⟩
 unfold F10
 rw [hm.1,hm.2];rfl
theorem aSp {m:ME} {q:List Int} {d:Int} (h:(cM m q d).2=0):vs (cM m q d).1:=by
 have:=aIi h
 unfold vs;omega
theorem aC3 {m:ME} {c:P3} (hv:cZ m=0)(hc:bd 256 c) :
   (F9 m c).2=0∧1≤(F9 m c).1∧(F9 m c).1≤1073741825∧1≤bR m c∧bR m c*1099511627776≤(F9 m c).1*(F9 m c).1∧∀p∈pans m,ds p.1 c≤bR m c∧ds p.2.1 c≤bR m c∧ds p.2.2 c≤bR m c:=by
 have hpt:=nT hv
 have hW:=rT hc m.1 0 hpt (by omega)
 have eB:F9 m c=((pP (bR m c)).1.2,(pP (bR m c)).2):=by
   unfold F9
   rw [show cZ (m.1,m.2)=0 from hv,rS,rS,rS,eK hc.1,eK hc.2.1,eK hc.2.2]
   show(aC (tB m c) (toNat ((m.1.length:Int) - 0)+1) (0,0))=_
   rw [aCj]
 have L:=aQk (n:=bR m c) hW
 have hd:=(yR c m.1 0).2
 have hm:∀p∈pans m,ds p.1 c≤bR m c∧ds p.2.1 c≤bR m c∧ds p.2.2 c≤bR m c:=by
   intro e he
   have hp:=aIh hv e he
   have one:∀p∈m.1,ds p c≤bR m c:=fun p hp=>by rw [←aNk (hpt p hp) hc];exact hd p hp
   exact⟨one _ hp.1,one _ hp.2.1,one _ hp.2.2⟩
 have h1:1≤bR m c:=by
   rcases Int.lt_or_le 0 (bR m c) with k | k
   · omega
   · exfalso
     obtain⟨_,hf1,_⟩:=dN hv
     cases hl:m.2 with
     | nil=>rw [hl] at hf1;exact absurd hf1 (by decide)
     | cons f l =>
       have hf:f∈m.2:=by rw [hl];exact List.mem_cons_self
       have hp:lP m f∈pans m:=List.mem_map.2 ⟨f,hf,rfl⟩
       have h3:=hm _ hp
       have hv2:=(gY (vS hv f hf)).2
       generalize lP m f=e at *
       have e1:=aJk (Int.le_trans h3.1 k);have e2:=aJk (Int.le_trans h3.2.1 k);have e3:=aJk (Int.le_trans h3.2.2 k)
       have hz:jN e=(0,0,0):=by
         have s0:sb c c=(0,0,0):=Prod.ext (Int.sub_self _) (Prod.ext (Int.sub_self _) (Int.sub_self _))
         unfold jN;rw [e1,e2,e3,s0];decide
       rw [hz] at hv2
       exact absurd hv2 (by decide)
 rw [eB]
 refine⟨L.1,?_,?_,h1,L.2.2,hm⟩
 · rcases Int.lt_or_le 0 (pP (bR m c)).1.2 with k | k
   · exact k
   · exfalso
     have e0:(pP (bR m c)).1.2=0:=by have:=L.2.1;omega
     have:=L.2.2
     rw [e0] at this;omega
 · obtain⟨r,hr,e⟩:=aLv (n:=bR m c) hW
   obtain⟨r0,r1,r2⟩:=hr
   show(pP (bR m c)).1.2≤1073741825
   rw [e]
   unfold zE
   have hW2:bR m c≤400000:=hW.2
   have hb:r≤1073741824:=by
     by_cases hc:r≤1073741824
     · exact hc
     · have:=Int.mul_le_mul (show(1073741824:Int)≤r by omega) (show(1073741824:Int)≤r by omega) (by omega) (by omega)
       omega
   have hx:(if r*r=bR m c*1099511627776 then r else r+1)=r∨(if r*r=bR m c*1099511627776 then r else r+1)=r+1:=by split<;>simp
   generalize (if r*r=bR m c*1099511627776 then r else r+1)=s at hx ⊢
   rw [rH (by omega) (by omega) (by omega)]
   show s≤1073741825
   omega
theorem aVm {x:Int×Int} {Q mx E mn B:Int} (h:BV x Q mx E mn B):x.2≤B:=by
 obtain⟨a,ey,_,ha⟩:=h.hi
 have:=pX a B
 omega
theorem aIk {m:ME} {q:List Int} (hC:ChOK m q) {p:PN} (hp:p∈pans m):∃e∈yQ m q,e.1=p:=by
 obtain⟨i,hi⟩:=List.getElem?_of_mem hp
 obtain⟨hlt,hge⟩:=List.getElem?_eq_some_iff.1 hi
 have hpl:(pans m).length=m.2.length:=List.length_map _
 have hl:i < (yQ m q).length:=by
   unfold yQ
   rw [List.length_zip];have:=hC.len;omega
 refine⟨(yQ m q)[i],List.getElem_mem hl,?_⟩
 unfold yQ
 rw [List.getElem_zip];exact hge
theorem aSq (p:P3):tm 1 p=p:=by simp only [tm,Int.one_mul]
theorem aVn (p:PN):cL 1 p=p:=by simp only [cL,aSq]
theorem aVo {m:ME} {q:List Int} {d k:Int} (hk:1≤k∧k≤128)(h:(cM m q d).2=0):jE (cM m q d).1 k=((k*(cM m q d).1.1,k*(cM m q d).1.2),0)∧vs (k*(cM m q d).1.1,k*(cM m q d).1.2):=by
 have hb:=aIi h
 obtain⟨hC,Q,mx,E,mn,S,V⟩:=gD h
 have hm:=yC hC.v
 have hB:=aC3 hC.v (c:=lK (oS m)) (by unfold bd at hm ⊢;omega)
 have hx:=aVm V
 have hx2:(cM m q d).1.2≤1073741825:=Int.le_trans hx hB.2.2.1
 rw [aB8 (by unfold vs;omega) (by omega)]
 generalize (cM m q d).1=x at *
 have a1:=Int.mul_le_mul_of_nonneg_left hb.2.1 (show 0≤k by omega)
 have a2:=Int.mul_nonneg (show 0≤k by omega) hb.1
 have a3:=Int.mul_le_mul (a:=k) (b:=x.2) (c:=128) (d:=1073741825) hk.2 hx2 (by omega) (by omega)
 have es:scl x k=(k*x.1,k*x.2):=by
   unfold scl jF
   rw [if_neg (by omega),Int.mul_comm x.1,Int.mul_comm x.2,if_neg (by omega),if_neg (by omega),if_neg (by omega),if_neg (by omega)]
 rw [es]
 refine⟨rH (by omega) (by omega) (by omega),?_⟩
 unfold vs;simp only;omega
def bL (p q:P3):P3:=(p.1+q.1,p.2.1+q.2.1,p.2.2+q.2.2)
def aWp (g:PN→PN):Prop:=∀p q d,0≤d∧d≤2→vp p=0→vp q=0→vp (g p)=0→vp (g q)=0→uH (g p) (g q) d=uH p q d∧oC (g p) (g q) d=oC p q d
section
variable {T φ : P3 → P3} {g : PN → PN}
end
end Go.Proofs.Ytaeagjnpobdglaa
namespace Go.Proofs.Ytaeagjnpobdglaa
open Go.Proofs Go.Aw Go.RowKit
set_option maxRecDepth 100000
def aH (a0:Int×Int)(a1:List ((Int×Int)×Int))(a2:Zm)(a3:Zm):Int×(List ((Int×Int)×Int))×Zm :=
 (bif (qV a1 a0) then
  ((aU a1 a0 0),a1,(a2.1,a2.2))
 else
  ((a2.1.length:Int),(bH (bH a1 a0 (a2.1.length:Int)) (F36 a0) (a2.1.length:Int)),((a2.1++[(F34 (a3.1.getD (toNat a0.1) default) 1 (a3.1.getD (toNat a0.2) default))]),a2.2)))
theorem C35 (a0:Int×Int)(a1:List ((Int×Int)×Int))(a2:Zm)(a3:Zm)(l2_1:a2.1.length≤9223372036854775807)(l2_2:a2.2.length≤9223372036854775807)(l3_1:a3.1.length≤9223372036854775807)(l3_2:a3.2.length≤9223372036854775807)(hs:0≤a0.1∧a0.1 < a3.1.length∧0≤a0.2∧a0.2 < a3.1.length)(hn:a2.1.length≤1048576):Con Try.prog 35 [(.a [(iv a0.1),(iv a0.2)]),(.p 0 0),(.p 2 0),(.p 5 0)] [(.live true false [(.m 1)]),(.map (Aw.mapE tA iv a1)),(.live true false [(.s 3 0 a2.1.length 3),(.s 4 0 a2.2.length 3)]),(.live true true (flat dD a2.1)),(.live false true (flat eE a2.2)),(.live false false [(.s 6 0 a3.1.length 3),(.s 7 0 a3.2.length 3)]),(.live false true (flat dD a3.1)),(.live false true (flat eE a3.2))] (iv (aH a0 a1 a2 a3).1) [(.live true true (flat dD (aH a0 a1 a2 a3).2.2.1))] [(.live true false [(.m 1)]),(.map (Aw.mapE tA iv (aH a0 a1 a2 a3).2.1)),(.live true false [(.s 8 0 (aH a0 a1 a2 a3).2.2.1.length 3),(.s 4 0 a2.2.length 3)]),.dead,.un,.un,.un,.un]:=by
 refine aL Try.func35 (by kernel_rfl) fun cx hcx=>?_
 let t0:List (St Try.prog):=[.mH K80 iv a1 a0 0]
 cases h0:(qV a1 a0) with
 | true =>
  have e:=Eq.refl (aH a0 a1 a2 a3);conv at e=>rhs;simp only [aH,h0,aK]
  rw [e]
  try dsimp only [kF]
  try dsimp only
  exact rtm (t0++[.d h0]) [.mv 2 0] [0,1,2,3] [9] hcx (by kernel_rfl)
 | false =>
  have e:=Eq.refl (aH a0 a1 a2 a3);conv at e=>rhs;simp only [aH,h0,aK]
  rw [e]
  try dsimp only [kF]
  try dsimp only
  rw [show flat dD (a2.1++[(F34 (a3.1.getD (toNat a0.1) default) 1 (a3.1.getD (toNat a0.2) default))])=(flat dD a2.1++(k3 (F34 (a3.1.getD (toNat a0.1) default) 1 (a3.1.getD (toNat a0.2) default)))) from bM]
  try rw [show List.length (α:=Zt) (a2.1++[(F34 (a3.1.getD (toNat a0.1) default) 1 (a3.1.getD (toNat a0.2) default))])=(a2.1.length+1) from by first | simp;done | omega]
  exact rtm (t0++[.d h0,.c [] (C36 a0),.mP K80 iv a1 a0 (a2.1.length:Int),.mP K80 iv (bH a1 a0 (a2.1.length:Int)) (F36 a0) (a2.1.length:Int),.i 0 2 (by decide),.i (a0.1) (a3.1.length),.L bY a3.1 a0.1 0 3,.i 1 2 (by decide),.i (a0.2) (a3.1.length),.L bY a3.1 a0.2 0 3,.c [] (C34 (a3.1.getD (toNat a0.1) default) 1 (a3.1.getD (toNat a0.2) default)),.p (show((flat dD a2.1).length=a2.1.length*3∧a2.1.length+1≤2 ^ 40∧(a2.1.length+1)*24≤2 ^ 47) from fX bY (by omega) (by omega))]) [] [0,1,2,3] [10] hcx (by kernel_rfl)
theorem nW (s:Int×Int)(mp:List ((Int×Int)×Int))(o m:ME):(aH s mp o m).2.2.1.length≤o.1.length+1:=by
 unfold aH
 cases qV mp s with
 | true=>simp only [cond_true];omega
 | false=>simp only [cond_false,List.length_append,List.length_cons,List.length_nil];omega
theorem tU {m:ME} (hv:cZ m=0):m.1.length≤64∧1≤m.2.length∧m.2.length≤96:=by
 obtain⟨h64,h2,h3,_,_⟩:=dN hv
 omega
theorem aEp {m:ME} (hv:cZ m=0) {i:Int} (h0:0≤i)(h1:i < (m.2.length:Int)):inF m.1.length (m.2.getD (toNat i) default):=by
 obtain⟨h64,_,_,_,hf⟩:=dN hv
 exact iA (m:=m) (by rw [hf i h0 h1];rfl) h64
theorem kN {m:ME} (hv:cZ m=0) {i:Int} (h0:0≤i)(h1:i < (m.2.length:Int)) :
   (0≤(aB (m.2.getD (toNat i) default)).1.1∧(aB (m.2.getD (toNat i) default)).1.1 < m.1.length∧0≤(aB (m.2.getD (toNat i) default)).1.2∧(aB (m.2.getD (toNat i) default)).1.2 < m.1.length) ∧
   (0≤(aB (m.2.getD (toNat i) default)).2.1.1∧(aB (m.2.getD (toNat i) default)).2.1.1 < m.1.length∧0≤(aB (m.2.getD (toNat i) default)).2.1.2∧(aB (m.2.getD (toNat i) default)).2.1.2 < m.1.length) ∧
   (0≤(aB (m.2.getD (toNat i) default)).2.2.1∧(aB (m.2.getD (toNat i) default)).2.2.1 < m.1.length∧0≤(aB (m.2.getD (toNat i) default)).2.2.2∧(aB (m.2.getD (toNat i) default)).2.2.2 < m.1.length):=by
 obtain⟨⟨a1,a2⟩,⟨b1,b2⟩,⟨d1,d2⟩⟩:=aEp hv h0 h1
 unfold aB
 exact⟨⟨a1,by omega,b1,by omega⟩,⟨b1,by omega,d1,by omega⟩,⟨d1,by omega,a1,by omega⟩⟩
noncomputable def aNt:Code:=(aF [1,1,1,1,1,1,0,1] [] (aI Try.f11) []).1
noncomputable def aNu:List K:=(aF [1,1,1,1,1,1,0,1] [] (aI Try.f11) []).2
def aGt (a0:Zm)(v7c:List SV)(v7n:Nat)(v8c:List SV)(v8n:Nat)(v9:List ((Int×Int)×Int))(v10:Int):LS:=⟨jW 96 [(2,(.p 2 0)),(5,(.p 3 0)),(9,(.f 35 [(.p 4 0),(.p 3 0),(.p 5 0)])),(43,(.s 1 0 a0.2.length 3)),(44,(iv (a0.2.length:Int))),(45,(iv v10))],[(.live false true (flat dD a0.1)),(.live false true (flat eE a0.2)),(.live true false [(.v (.slice none 0 0)),(.v (.slice none 0 0))]),(.live true false [(.s 6 0 v7n 3),(.s 7 0 v8n 3)]),(.live true false [(.m 8)]),(.live true false [(.s 0 0 a0.1.length 3),(.s 1 0 a0.2.length 3)]),(.live true true v7c),(.live true true v8c),(.map (Aw.mapE tA iv v9))]⟩
def gU (a0:Zm):(List Zt)×(List Zt)×(List ((Int×Int)×Int))×Int→((List Zt)×(List Zt)×(List ((Int×Int)×Int))×Int)⊕((Zm)×Int)
 | (v7,v8,v9,v10) =>
  (bif (decide ((v10:Int) < (a0.2.length:Int))) then
   (.inl ((aH (aB (a0.2.getD (toNat v10) default)).2.2 (aH (aB (a0.2.getD (toNat v10) default)).2.1 (aH (aB (a0.2.getD (toNat v10) default)).1 v9 (v7,v8) (a0.1,a0.2)).2.1 ((aH (aB (a0.2.getD (toNat v10) default)).1 v9 (v7,v8) (a0.1,a0.2)).2.2.1,v8) (a0.1,a0.2)).2.1 ((aH (aB (a0.2.getD (toNat v10) default)).2.1 (aH (aB (a0.2.getD (toNat v10) default)).1 v9 (v7,v8) (a0.1,a0.2)).2.1 ((aH (aB (a0.2.getD (toNat v10) default)).1 v9 (v7,v8) (a0.1,a0.2)).2.2.1,v8) (a0.1,a0.2)).2.2.1,v8) (a0.1,a0.2)).2.2.1,(v8++[((a0.2.getD (toNat v10) default).1,(aH (aB (a0.2.getD (toNat v10) default)).1 v9 (v7,v8) (a0.1,a0.2)).1,(aH (aB (a0.2.getD (toNat v10) default)).2.2 (aH (aB (a0.2.getD (toNat v10) default)).2.1 (aH (aB (a0.2.getD (toNat v10) default)).1 v9 (v7,v8) (a0.1,a0.2)).2.1 ((aH (aB (a0.2.getD (toNat v10) default)).1 v9 (v7,v8) (a0.1,a0.2)).2.2.1,v8) (a0.1,a0.2)).2.1 ((aH (aB (a0.2.getD (toNat v10) default)).2.1 (aH (aB (a0.2.getD (toNat v10) default)).1 v9 (v7,v8) (a0.1,a0.2)).2.1 ((aH (aB (a0.2.getD (toNat v10) default)).1 v9 (v7,v8) (a0.1,a0.2)).2.2.1,v8) (a0.1,a0.2)).2.2.1,v8) (a0.1,a0.2)).1),((aH (aB (a0.2.getD (toNat v10) default)).1 v9 (v7,v8) (a0.1,a0.2)).1,(a0.2.getD (toNat v10) default).2.1,(aH (aB (a0.2.getD (toNat v10) default)).2.1 (aH (aB (a0.2.getD (toNat v10) default)).1 v9 (v7,v8) (a0.1,a0.2)).2.1 ((aH (aB (a0.2.getD (toNat v10) default)).1 v9 (v7,v8) (a0.1,a0.2)).2.2.1,v8) (a0.1,a0.2)).1),((aH (aB (a0.2.getD (toNat v10) default)).2.2 (aH (aB (a0.2.getD (toNat v10) default)).2.1 (aH (aB (a0.2.getD (toNat v10) default)).1 v9 (v7,v8) (a0.1,a0.2)).2.1 ((aH (aB (a0.2.getD (toNat v10) default)).1 v9 (v7,v8) (a0.1,a0.2)).2.2.1,v8) (a0.1,a0.2)).2.1 ((aH (aB (a0.2.getD (toNat v10) default)).2.1 (aH (aB (a0.2.getD (toNat v10) default)).1 v9 (v7,v8) (a0.1,a0.2)).2.1 ((aH (aB (a0.2.getD (toNat v10) default)).1 v9 (v7,v8) (a0.1,a0.2)).2.2.1,v8) (a0.1,a0.2)).2.2.1,v8) (a0.1,a0.2)).1,(aH (aB (a0.2.getD (toNat v10) default)).2.1 (aH (aB (a0.2.getD (toNat v10) default)).1 v9 (v7,v8) (a0.1,a0.2)).2.1 ((aH (aB (a0.2.getD (toNat v10) default)).1 v9 (v7,v8) (a0.1,a0.2)).2.2.1,v8) (a0.1,a0.2)).1,(a0.2.getD (toNat v10) default).2.2),((aH (aB (a0.2.getD (toNat v10) default)).1 v9 (v7,v8) (a0.1,a0.2)).1,(aH (aB (a0.2.getD (toNat v10) default)).2.1 (aH (aB (a0.2.getD (toNat v10) default)).1 v9 (v7,v8) (a0.1,a0.2)).2.1 ((aH (aB (a0.2.getD (toNat v10) default)).1 v9 (v7,v8) (a0.1,a0.2)).2.2.1,v8) (a0.1,a0.2)).1,(aH (aB (a0.2.getD (toNat v10) default)).2.2 (aH (aB (a0.2.getD (toNat v10) default)).2.1 (aH (aB (a0.2.getD (toNat v10) default)).1 v9 (v7,v8) (a0.1,a0.2)).2.1 ((aH (aB (a0.2.getD (toNat v10) default)).1 v9 (v7,v8) (a0.1,a0.2)).2.2.1,v8) (a0.1,a0.2)).2.1 ((aH (aB (a0.2.getD (toNat v10) default)).2.1 (aH (aB (a0.2.getD (toNat v10) default)).1 v9 (v7,v8) (a0.1,a0.2)).2.1 ((aH (aB (a0.2.getD (toNat v10) default)).1 v9 (v7,v8) (a0.1,a0.2)).2.2.1,v8) (a0.1,a0.2)).2.2.1,v8) (a0.1,a0.2)).1)]),(aH (aB (a0.2.getD (toNat v10) default)).2.2 (aH (aB (a0.2.getD (toNat v10) default)).2.1 (aH (aB (a0.2.getD (toNat v10) default)).1 v9 (v7,v8) (a0.1,a0.2)).2.1 ((aH (aB (a0.2.getD (toNat v10) default)).1 v9 (v7,v8) (a0.1,a0.2)).2.2.1,v8) (a0.1,a0.2)).2.1 ((aH (aB (a0.2.getD (toNat v10) default)).2.1 (aH (aB (a0.2.getD (toNat v10) default)).1 v9 (v7,v8) (a0.1,a0.2)).2.1 ((aH (aB (a0.2.getD (toNat v10) default)).1 v9 (v7,v8) (a0.1,a0.2)).2.2.1,v8) (a0.1,a0.2)).2.2.1,v8) (a0.1,a0.2)).2.1,(v10+1)))
  else
   (bif (((cZ ((v7,v8).1,(v7,v8).2)):Int) != 0) then
    (.inr ((([]:List Zt),([]:List Zt)),(cZ ((v7,v8).1,(v7,v8).2))))
   else
    (.inr ((v7,v8),0))))
noncomputable def aNv:Code:=(aF [1,1,1,0,1] [] (aI Try.f11) []).1
noncomputable def aNw:List K:=(aF [1,1,1,0,1] [] (aI Try.f11) []).2
def aGu (a0:Zm)(v2c:List SV)(v2n:Nat)(v3:Int):LS:=⟨jW 96 [(1,(.p 2 0)),(2,(.p 3 0)),(5,(.p 4 0)),(25,(.s 0 0 a0.1.length 3)),(26,(iv (a0.1.length:Int))),(27,(iv v3))],[(.live false true (flat dD a0.1)),(.live false true (flat eE a0.2)),(.live true false [(.s 0 0 a0.1.length 3),(.s 1 0 a0.2.length 3)]),(.live true false [(.v (.slice none 0 0)),(.v (.slice none 0 0))]),(.live true false [(.s 5 0 v2n 3),(.v (.slice none 0 0))]),(.live true true v2c)]⟩
def kO (a0:Zm):(List Zt)×Int→((List Zt)×Int)⊕((Zm)×Int)
 | (v2,v3) =>
  (bif (decide ((v3:Int) < (a0.1.length:Int))) then
   (.inl ((v2++[(F34 (a0.1.getD (toNat v3) default) 1 (a0.1.getD (toNat v3) default))]),(v3+1)))
  else
   (.inr (aC (gU a0) (toNat ((a0.2.length:Int) - 0)+1) (v2,([]:List Zt),([]:List ((Int×Int)×Int)),0))))
theorem aVp (a0:Zm)(l0_1:a0.1.length≤9223372036854775807)(l0_2:a0.2.length≤9223372036854775807) {cx:Cx} (hcx:cx.base=2):∀(n:Nat)(v7:List Zt)(v8:List Zt)(v9:List ((Int×Int)×Int))(v10:Int),(0≤v10)∧(cZ (a0.1,a0.2)=0)∧(v7.length≤64+3*toNat v10)∧(v8.length=4*toNat v10)∧(v10≤a0.2.length)→toNat ((a0.2.length:Int) - v10) < n→Aw.Good Try.prog none 9 (bodyPost Try.prog Try.f11 (RR cx (.t [(.a [(.s 2 0 (aC (gU a0) n (v7,v8,v9,v10)).1.1.length 3),(.s 3 0 (aC (gU a0) n (v7,v8,v9,v10)).1.2.length 3)]),(iv (aC (gU a0) n (v7,v8,v9,v10)).2)]) [(.live true true (flat dD (aC (gU a0) n (v7,v8,v9,v10)).1.1)),(.live true true (flat eE (aC (gU a0) n (v7,v8,v9,v10)).1.2))] [])) cx [] (.l aNt n::aNu) (aGt a0 (flat dD v7) v7.length (flat eE v8) v8.length v9 v10):=by
 intro n
 induction n with
 | zero=>intro v7 v8 v9 v10 hi hn;exact absurd hn (jV _)
 | succ n ih =>
   intro v7 v8 v9 v10 hi hn
   refine aJ ?_
   have hb:=tU (m:=(a0.1,a0.2)) hi.2.1
   try have hfi:=kN (m:=(a0.1,a0.2)) hi.2.1 (i:=v10) hi.1 (cY h0)
   have hq1:=nW (aB (a0.2.getD (toNat v10) default)).1 v9 (v7,v8) (a0.1,a0.2)
   have hq2:=nW (aB (a0.2.getD (toNat v10) default)).2.1 (aH (aB (a0.2.getD (toNat v10) default)).1 v9 (v7,v8) (a0.1,a0.2)).2.1 ((aH (aB (a0.2.getD (toNat v10) default)).1 v9 (v7,v8) (a0.1,a0.2)).2.2.1,v8) (a0.1,a0.2)
   have hq3:=nW (aB (a0.2.getD (toNat v10) default)).2.2 (aH (aB (a0.2.getD (toNat v10) default)).2.1 (aH (aB (a0.2.getD (toNat v10) default)).1 v9 (v7,v8) (a0.1,a0.2)).2.1 ((aH (aB (a0.2.getD (toNat v10) default)).1 v9 (v7,v8) (a0.1,a0.2)).2.2.1,v8) (a0.1,a0.2)).2.1 ((aH (aB (a0.2.getD (toNat v10) default)).2.1 (aH (aB (a0.2.getD (toNat v10) default)).1 v9 (v7,v8) (a0.1,a0.2)).2.1 ((aH (aB (a0.2.getD (toNat v10) default)).1 v9 (v7,v8) (a0.1,a0.2)).2.2.1,v8) (a0.1,a0.2)).2.2.1,v8) (a0.1,a0.2)
   dsimp only at hb hq1 hq2 hq3
   try dsimp only at hfi
   cases h0:(decide ((v10:Int) < (a0.2.length:Int))) with
   | true =>
    have q0:=cY h0
    try have hfi:=kN (m:=(a0.1,a0.2)) hi.2.1 (i:=v10) hi.1 (cY h0)
    have e:=Eq.refl (gU a0 (v7,v8,v9,v10));conv at e=>rhs;simp only [gU,h0,aK]
    rw [aA e]
    refine ba [.d h0,.i v10 (a0.2.length),.L aP a0.2 v10 0 3,.c [] (C37 (a0.2.getD (toNat v10) default)),.u 200,.T,.i 0 3 (by decide),.c [4,8,3,6,7,5,0,1] (C35 (aB (a0.2.getD (toNat v10) default)).1 v9 (v7,v8) (a0.1,a0.2) (by(try simp only [Lt]);omega) (by(try simp only [Lt]);omega) (by(try simp only [Lt]);omega) (by(try simp only [Lt]);omega) (by first | exact hfi.1 | exact hfi.2.1 | exact hfi.2.2) (by first | omega | (simp only [];omega))),.i 0 3 (by decide),.u 0,.T,.i 1 3 (by decide),.c [4,8,3,12,7,5,0,1] (C35 (aB (a0.2.getD (toNat v10) default)).2.1 (aH (aB (a0.2.getD (toNat v10) default)).1 v9 (v7,v8) (a0.1,a0.2)).2.1 ((aH (aB (a0.2.getD (toNat v10) default)).1 v9 (v7,v8) (a0.1,a0.2)).2.2.1,v8) (a0.1,a0.2) (by(try simp only [Lt]);omega) (by(try simp only [Lt]);omega) (by(try simp only [Lt]);omega) (by(try simp only [Lt]);omega) (by first | exact hfi.1 | exact hfi.2.1 | exact hfi.2.2) (by first | omega | (simp only [];omega))),.i 1 3 (by decide),.u 0,.T,.i 2 3 (by decide),.c [4,8,3,14,7,5,0,1] (C35 (aB (a0.2.getD (toNat v10) default)).2.2 (aH (aB (a0.2.getD (toNat v10) default)).2.1 (aH (aB (a0.2.getD (toNat v10) default)).1 v9 (v7,v8) (a0.1,a0.2)).2.1 ((aH (aB (a0.2.getD (toNat v10) default)).1 v9 (v7,v8) (a0.1,a0.2)).2.2.1,v8) (a0.1,a0.2)).2.1 ((aH (aB (a0.2.getD (toNat v10) default)).2.1 (aH (aB (a0.2.getD (toNat v10) default)).1 v9 (v7,v8) (a0.1,a0.2)).2.1 ((aH (aB (a0.2.getD (toNat v10) default)).1 v9 (v7,v8) (a0.1,a0.2)).2.2.1,v8) (a0.1,a0.2)).2.2.1,v8) (a0.1,a0.2) (by(try simp only [Lt]);omega) (by(try simp only [Lt]);omega) (by(try simp only [Lt]);omega) (by(try simp only [Lt]);omega) (by first | exact hfi.1 | exact hfi.2.1 | exact hfi.2.2) (by first | omega | (simp only [];omega))),.i 2 3 (by decide),.u 0,.F,.i 0 3 (by decide),.i 1 3 (by decide),.i 2 3 (by decide),.i 0 3 (by decide),.i 1 3 (by decide),.i 2 3 (by decide),.p (show((flat eE v8).length=v8.length*3∧v8.length+4≤2 ^ 40∧(v8.length+4)*24≤2 ^ 47) from fX aP (by omega) (by omega))] [] [2,5,9,43,44,45] [2,3,4,5,16,18,8] hcx (m:=n) aNt (aNu) (aGt a0 (flat dD (aH (aB (a0.2.getD (toNat v10) default)).2.2 (aH (aB (a0.2.getD (toNat v10) default)).2.1 (aH (aB (a0.2.getD (toNat v10) default)).1 v9 (v7,v8) (a0.1,a0.2)).2.1 ((aH (aB (a0.2.getD (toNat v10) default)).1 v9 (v7,v8) (a0.1,a0.2)).2.2.1,v8) (a0.1,a0.2)).2.1 ((aH (aB (a0.2.getD (toNat v10) default)).2.1 (aH (aB (a0.2.getD (toNat v10) default)).1 v9 (v7,v8) (a0.1,a0.2)).2.1 ((aH (aB (a0.2.getD (toNat v10) default)).1 v9 (v7,v8) (a0.1,a0.2)).2.2.1,v8) (a0.1,a0.2)).2.2.1,v8) (a0.1,a0.2)).2.2.1) ((aH (aB (a0.2.getD (toNat v10) default)).2.2 (aH (aB (a0.2.getD (toNat v10) default)).2.1 (aH (aB (a0.2.getD (toNat v10) default)).1 v9 (v7,v8) (a0.1,a0.2)).2.1 ((aH (aB (a0.2.getD (toNat v10) default)).1 v9 (v7,v8) (a0.1,a0.2)).2.2.1,v8) (a0.1,a0.2)).2.1 ((aH (aB (a0.2.getD (toNat v10) default)).2.1 (aH (aB (a0.2.getD (toNat v10) default)).1 v9 (v7,v8) (a0.1,a0.2)).2.1 ((aH (aB (a0.2.getD (toNat v10) default)).1 v9 (v7,v8) (a0.1,a0.2)).2.2.1,v8) (a0.1,a0.2)).2.2.1,v8) (a0.1,a0.2)).2.2.1.length) (flat eE v8++[(iv (a0.2.getD (toNat v10) default).1),(iv (aH (aB (a0.2.getD (toNat v10) default)).1 v9 (v7,v8) (a0.1,a0.2)).1),(iv (aH (aB (a0.2.getD (toNat v10) default)).2.2 (aH (aB (a0.2.getD (toNat v10) default)).2.1 (aH (aB (a0.2.getD (toNat v10) default)).1 v9 (v7,v8) (a0.1,a0.2)).2.1 ((aH (aB (a0.2.getD (toNat v10) default)).1 v9 (v7,v8) (a0.1,a0.2)).2.2.1,v8) (a0.1,a0.2)).2.1 ((aH (aB (a0.2.getD (toNat v10) default)).2.1 (aH (aB (a0.2.getD (toNat v10) default)).1 v9 (v7,v8) (a0.1,a0.2)).2.1 ((aH (aB (a0.2.getD (toNat v10) default)).1 v9 (v7,v8) (a0.1,a0.2)).2.2.1,v8) (a0.1,a0.2)).2.2.1,v8) (a0.1,a0.2)).1),(iv (aH (aB (a0.2.getD (toNat v10) default)).1 v9 (v7,v8) (a0.1,a0.2)).1),(iv (a0.2.getD (toNat v10) default).2.1),(iv (aH (aB (a0.2.getD (toNat v10) default)).2.1 (aH (aB (a0.2.getD (toNat v10) default)).1 v9 (v7,v8) (a0.1,a0.2)).2.1 ((aH (aB (a0.2.getD (toNat v10) default)).1 v9 (v7,v8) (a0.1,a0.2)).2.2.1,v8) (a0.1,a0.2)).1),(iv (aH (aB (a0.2.getD (toNat v10) default)).2.2 (aH (aB (a0.2.getD (toNat v10) default)).2.1 (aH (aB (a0.2.getD (toNat v10) default)).1 v9 (v7,v8) (a0.1,a0.2)).2.1 ((aH (aB (a0.2.getD (toNat v10) default)).1 v9 (v7,v8) (a0.1,a0.2)).2.2.1,v8) (a0.1,a0.2)).2.1 ((aH (aB (a0.2.getD (toNat v10) default)).2.1 (aH (aB (a0.2.getD (toNat v10) default)).1 v9 (v7,v8) (a0.1,a0.2)).2.1 ((aH (aB (a0.2.getD (toNat v10) default)).1 v9 (v7,v8) (a0.1,a0.2)).2.2.1,v8) (a0.1,a0.2)).2.2.1,v8) (a0.1,a0.2)).1),(iv (aH (aB (a0.2.getD (toNat v10) default)).2.1 (aH (aB (a0.2.getD (toNat v10) default)).1 v9 (v7,v8) (a0.1,a0.2)).2.1 ((aH (aB (a0.2.getD (toNat v10) default)).1 v9 (v7,v8) (a0.1,a0.2)).2.2.1,v8) (a0.1,a0.2)).1),(iv (a0.2.getD (toNat v10) default).2.2),(iv (aH (aB (a0.2.getD (toNat v10) default)).1 v9 (v7,v8) (a0.1,a0.2)).1),(iv (aH (aB (a0.2.getD (toNat v10) default)).2.1 (aH (aB (a0.2.getD (toNat v10) default)).1 v9 (v7,v8) (a0.1,a0.2)).2.1 ((aH (aB (a0.2.getD (toNat v10) default)).1 v9 (v7,v8) (a0.1,a0.2)).2.2.1,v8) (a0.1,a0.2)).1),(iv (aH (aB (a0.2.getD (toNat v10) default)).2.2 (aH (aB (a0.2.getD (toNat v10) default)).2.1 (aH (aB (a0.2.getD (toNat v10) default)).1 v9 (v7,v8) (a0.1,a0.2)).2.1 ((aH (aB (a0.2.getD (toNat v10) default)).1 v9 (v7,v8) (a0.1,a0.2)).2.2.1,v8) (a0.1,a0.2)).2.1 ((aH (aB (a0.2.getD (toNat v10) default)).2.1 (aH (aB (a0.2.getD (toNat v10) default)).1 v9 (v7,v8) (a0.1,a0.2)).2.1 ((aH (aB (a0.2.getD (toNat v10) default)).1 v9 (v7,v8) (a0.1,a0.2)).2.2.1,v8) (a0.1,a0.2)).2.2.1,v8) (a0.1,a0.2)).1)]) (v8.length+4) ((aH (aB (a0.2.getD (toNat v10) default)).2.2 (aH (aB (a0.2.getD (toNat v10) default)).2.1 (aH (aB (a0.2.getD (toNat v10) default)).1 v9 (v7,v8) (a0.1,a0.2)).2.1 ((aH (aB (a0.2.getD (toNat v10) default)).1 v9 (v7,v8) (a0.1,a0.2)).2.2.1,v8) (a0.1,a0.2)).2.1 ((aH (aB (a0.2.getD (toNat v10) default)).2.1 (aH (aB (a0.2.getD (toNat v10) default)).1 v9 (v7,v8) (a0.1,a0.2)).2.1 ((aH (aB (a0.2.getD (toNat v10) default)).1 v9 (v7,v8) (a0.1,a0.2)).2.2.1,v8) (a0.1,a0.2)).2.2.1,v8) (a0.1,a0.2)).2.1) (W (v10+1))) (by kernel_rfl) ?_
    have z0:(W (v10+1))=(v10+1):=aE (by omega) (by omega)
    have z1:(flat eE v8++[(iv (a0.2.getD (toNat v10) default).1),(iv (aH (aB (a0.2.getD (toNat v10) default)).1 v9 (v7,v8) (a0.1,a0.2)).1),(iv (aH (aB (a0.2.getD (toNat v10) default)).2.2 (aH (aB (a0.2.getD (toNat v10) default)).2.1 (aH (aB (a0.2.getD (toNat v10) default)).1 v9 (v7,v8) (a0.1,a0.2)).2.1 ((aH (aB (a0.2.getD (toNat v10) default)).1 v9 (v7,v8) (a0.1,a0.2)).2.2.1,v8) (a0.1,a0.2)).2.1 ((aH (aB (a0.2.getD (toNat v10) default)).2.1 (aH (aB (a0.2.getD (toNat v10) default)).1 v9 (v7,v8) (a0.1,a0.2)).2.1 ((aH (aB (a0.2.getD (toNat v10) default)).1 v9 (v7,v8) (a0.1,a0.2)).2.2.1,v8) (a0.1,a0.2)).2.2.1,v8) (a0.1,a0.2)).1),(iv (aH (aB (a0.2.getD (toNat v10) default)).1 v9 (v7,v8) (a0.1,a0.2)).1),(iv (a0.2.getD (toNat v10) default).2.1),(iv (aH (aB (a0.2.getD (toNat v10) default)).2.1 (aH (aB (a0.2.getD (toNat v10) default)).1 v9 (v7,v8) (a0.1,a0.2)).2.1 ((aH (aB (a0.2.getD (toNat v10) default)).1 v9 (v7,v8) (a0.1,a0.2)).2.2.1,v8) (a0.1,a0.2)).1),(iv (aH (aB (a0.2.getD (toNat v10) default)).2.2 (aH (aB (a0.2.getD (toNat v10) default)).2.1 (aH (aB (a0.2.getD (toNat v10) default)).1 v9 (v7,v8) (a0.1,a0.2)).2.1 ((aH (aB (a0.2.getD (toNat v10) default)).1 v9 (v7,v8) (a0.1,a0.2)).2.2.1,v8) (a0.1,a0.2)).2.1 ((aH (aB (a0.2.getD (toNat v10) default)).2.1 (aH (aB (a0.2.getD (toNat v10) default)).1 v9 (v7,v8) (a0.1,a0.2)).2.1 ((aH (aB (a0.2.getD (toNat v10) default)).1 v9 (v7,v8) (a0.1,a0.2)).2.2.1,v8) (a0.1,a0.2)).2.2.1,v8) (a0.1,a0.2)).1),(iv (aH (aB (a0.2.getD (toNat v10) default)).2.1 (aH (aB (a0.2.getD (toNat v10) default)).1 v9 (v7,v8) (a0.1,a0.2)).2.1 ((aH (aB (a0.2.getD (toNat v10) default)).1 v9 (v7,v8) (a0.1,a0.2)).2.2.1,v8) (a0.1,a0.2)).1),(iv (a0.2.getD (toNat v10) default).2.2),(iv (aH (aB (a0.2.getD (toNat v10) default)).1 v9 (v7,v8) (a0.1,a0.2)).1),(iv (aH (aB (a0.2.getD (toNat v10) default)).2.1 (aH (aB (a0.2.getD (toNat v10) default)).1 v9 (v7,v8) (a0.1,a0.2)).2.1 ((aH (aB (a0.2.getD (toNat v10) default)).1 v9 (v7,v8) (a0.1,a0.2)).2.2.1,v8) (a0.1,a0.2)).1),(iv (aH (aB (a0.2.getD (toNat v10) default)).2.2 (aH (aB (a0.2.getD (toNat v10) default)).2.1 (aH (aB (a0.2.getD (toNat v10) default)).1 v9 (v7,v8) (a0.1,a0.2)).2.1 ((aH (aB (a0.2.getD (toNat v10) default)).1 v9 (v7,v8) (a0.1,a0.2)).2.2.1,v8) (a0.1,a0.2)).2.1 ((aH (aB (a0.2.getD (toNat v10) default)).2.1 (aH (aB (a0.2.getD (toNat v10) default)).1 v9 (v7,v8) (a0.1,a0.2)).2.1 ((aH (aB (a0.2.getD (toNat v10) default)).1 v9 (v7,v8) (a0.1,a0.2)).2.2.1,v8) (a0.1,a0.2)).2.2.1,v8) (a0.1,a0.2)).1)])=(flat eE (v8++[((a0.2.getD (toNat v10) default).1,(aH (aB (a0.2.getD (toNat v10) default)).1 v9 (v7,v8) (a0.1,a0.2)).1,(aH (aB (a0.2.getD (toNat v10) default)).2.2 (aH (aB (a0.2.getD (toNat v10) default)).2.1 (aH (aB (a0.2.getD (toNat v10) default)).1 v9 (v7,v8) (a0.1,a0.2)).2.1 ((aH (aB (a0.2.getD (toNat v10) default)).1 v9 (v7,v8) (a0.1,a0.2)).2.2.1,v8) (a0.1,a0.2)).2.1 ((aH (aB (a0.2.getD (toNat v10) default)).2.1 (aH (aB (a0.2.getD (toNat v10) default)).1 v9 (v7,v8) (a0.1,a0.2)).2.1 ((aH (aB (a0.2.getD (toNat v10) default)).1 v9 (v7,v8) (a0.1,a0.2)).2.2.1,v8) (a0.1,a0.2)).2.2.1,v8) (a0.1,a0.2)).1),((aH (aB (a0.2.getD (toNat v10) default)).1 v9 (v7,v8) (a0.1,a0.2)).1,(a0.2.getD (toNat v10) default).2.1,(aH (aB (a0.2.getD (toNat v10) default)).2.1 (aH (aB (a0.2.getD (toNat v10) default)).1 v9 (v7,v8) (a0.1,a0.2)).2.1 ((aH (aB (a0.2.getD (toNat v10) default)).1 v9 (v7,v8) (a0.1,a0.2)).2.2.1,v8) (a0.1,a0.2)).1),((aH (aB (a0.2.getD (toNat v10) default)).2.2 (aH (aB (a0.2.getD (toNat v10) default)).2.1 (aH (aB (a0.2.getD (toNat v10) default)).1 v9 (v7,v8) (a0.1,a0.2)).2.1 ((aH (aB (a0.2.getD (toNat v10) default)).1 v9 (v7,v8) (a0.1,a0.2)).2.2.1,v8) (a0.1,a0.2)).2.1 ((aH (aB (a0.2.getD (toNat v10) default)).2.1 (aH (aB (a0.2.getD (toNat v10) default)).1 v9 (v7,v8) (a0.1,a0.2)).2.1 ((aH (aB (a0.2.getD (toNat v10) default)).1 v9 (v7,v8) (a0.1,a0.2)).2.2.1,v8) (a0.1,a0.2)).2.2.1,v8) (a0.1,a0.2)).1,(aH (aB (a0.2.getD (toNat v10) default)).2.1 (aH (aB (a0.2.getD (toNat v10) default)).1 v9 (v7,v8) (a0.1,a0.2)).2.1 ((aH (aB (a0.2.getD (toNat v10) default)).1 v9 (v7,v8) (a0.1,a0.2)).2.2.1,v8) (a0.1,a0.2)).1,(a0.2.getD (toNat v10) default).2.2),((aH (aB (a0.2.getD (toNat v10) default)).1 v9 (v7,v8) (a0.1,a0.2)).1,(aH (aB (a0.2.getD (toNat v10) default)).2.1 (aH (aB (a0.2.getD (toNat v10) default)).1 v9 (v7,v8) (a0.1,a0.2)).2.1 ((aH (aB (a0.2.getD (toNat v10) default)).1 v9 (v7,v8) (a0.1,a0.2)).2.2.1,v8) (a0.1,a0.2)).1,(aH (aB (a0.2.getD (toNat v10) default)).2.2 (aH (aB (a0.2.getD (toNat v10) default)).2.1 (aH (aB (a0.2.getD (toNat v10) default)).1 v9 (v7,v8) (a0.1,a0.2)).2.1 ((aH (aB (a0.2.getD (toNat v10) default)).1 v9 (v7,v8) (a0.1,a0.2)).2.2.1,v8) (a0.1,a0.2)).2.1 ((aH (aB (a0.2.getD (toNat v10) default)).2.1 (aH (aB (a0.2.getD (toNat v10) default)).1 v9 (v7,v8) (a0.1,a0.2)).2.1 ((aH (aB (a0.2.getD (toNat v10) default)).1 v9 (v7,v8) (a0.1,a0.2)).2.2.1,v8) (a0.1,a0.2)).2.2.1,v8) (a0.1,a0.2)).1)])):=(bM (c:=eE) (l:=v8) (m:=[((a0.2.getD (toNat v10) default).1,(aH (aB (a0.2.getD (toNat v10) default)).1 v9 (v7,v8) (a0.1,a0.2)).1,(aH (aB (a0.2.getD (toNat v10) default)).2.2 (aH (aB (a0.2.getD (toNat v10) default)).2.1 (aH (aB (a0.2.getD (toNat v10) default)).1 v9 (v7,v8) (a0.1,a0.2)).2.1 ((aH (aB (a0.2.getD (toNat v10) default)).1 v9 (v7,v8) (a0.1,a0.2)).2.2.1,v8) (a0.1,a0.2)).2.1 ((aH (aB (a0.2.getD (toNat v10) default)).2.1 (aH (aB (a0.2.getD (toNat v10) default)).1 v9 (v7,v8) (a0.1,a0.2)).2.1 ((aH (aB (a0.2.getD (toNat v10) default)).1 v9 (v7,v8) (a0.1,a0.2)).2.2.1,v8) (a0.1,a0.2)).2.2.1,v8) (a0.1,a0.2)).1),((aH (aB (a0.2.getD (toNat v10) default)).1 v9 (v7,v8) (a0.1,a0.2)).1,(a0.2.getD (toNat v10) default).2.1,(aH (aB (a0.2.getD (toNat v10) default)).2.1 (aH (aB (a0.2.getD (toNat v10) default)).1 v9 (v7,v8) (a0.1,a0.2)).2.1 ((aH (aB (a0.2.getD (toNat v10) default)).1 v9 (v7,v8) (a0.1,a0.2)).2.2.1,v8) (a0.1,a0.2)).1),((aH (aB (a0.2.getD (toNat v10) default)).2.2 (aH (aB (a0.2.getD (toNat v10) default)).2.1 (aH (aB (a0.2.getD (toNat v10) default)).1 v9 (v7,v8) (a0.1,a0.2)).2.1 ((aH (aB (a0.2.getD (toNat v10) default)).1 v9 (v7,v8) (a0.1,a0.2)).2.2.1,v8) (a0.1,a0.2)).2.1 ((aH (aB (a0.2.getD (toNat v10) default)).2.1 (aH (aB (a0.2.getD (toNat v10) default)).1 v9 (v7,v8) (a0.1,a0.2)).2.1 ((aH (aB (a0.2.getD (toNat v10) default)).1 v9 (v7,v8) (a0.1,a0.2)).2.2.1,v8) (a0.1,a0.2)).2.2.1,v8) (a0.1,a0.2)).1,(aH (aB (a0.2.getD (toNat v10) default)).2.1 (aH (aB (a0.2.getD (toNat v10) default)).1 v9 (v7,v8) (a0.1,a0.2)).2.1 ((aH (aB (a0.2.getD (toNat v10) default)).1 v9 (v7,v8) (a0.1,a0.2)).2.2.1,v8) (a0.1,a0.2)).1,(a0.2.getD (toNat v10) default).2.2),((aH (aB (a0.2.getD (toNat v10) default)).1 v9 (v7,v8) (a0.1,a0.2)).1,(aH (aB (a0.2.getD (toNat v10) default)).2.1 (aH (aB (a0.2.getD (toNat v10) default)).1 v9 (v7,v8) (a0.1,a0.2)).2.1 ((aH (aB (a0.2.getD (toNat v10) default)).1 v9 (v7,v8) (a0.1,a0.2)).2.2.1,v8) (a0.1,a0.2)).1,(aH (aB (a0.2.getD (toNat v10) default)).2.2 (aH (aB (a0.2.getD (toNat v10) default)).2.1 (aH (aB (a0.2.getD (toNat v10) default)).1 v9 (v7,v8) (a0.1,a0.2)).2.1 ((aH (aB (a0.2.getD (toNat v10) default)).1 v9 (v7,v8) (a0.1,a0.2)).2.2.1,v8) (a0.1,a0.2)).2.1 ((aH (aB (a0.2.getD (toNat v10) default)).2.1 (aH (aB (a0.2.getD (toNat v10) default)).1 v9 (v7,v8) (a0.1,a0.2)).2.1 ((aH (aB (a0.2.getD (toNat v10) default)).1 v9 (v7,v8) (a0.1,a0.2)).2.2.1,v8) (a0.1,a0.2)).2.2.1,v8) (a0.1,a0.2)).1)])).symm
    have z2:(v8.length+4)=(v8++[((a0.2.getD (toNat v10) default).1,(aH (aB (a0.2.getD (toNat v10) default)).1 v9 (v7,v8) (a0.1,a0.2)).1,(aH (aB (a0.2.getD (toNat v10) default)).2.2 (aH (aB (a0.2.getD (toNat v10) default)).2.1 (aH (aB (a0.2.getD (toNat v10) default)).1 v9 (v7,v8) (a0.1,a0.2)).2.1 ((aH (aB (a0.2.getD (toNat v10) default)).1 v9 (v7,v8) (a0.1,a0.2)).2.2.1,v8) (a0.1,a0.2)).2.1 ((aH (aB (a0.2.getD (toNat v10) default)).2.1 (aH (aB (a0.2.getD (toNat v10) default)).1 v9 (v7,v8) (a0.1,a0.2)).2.1 ((aH (aB (a0.2.getD (toNat v10) default)).1 v9 (v7,v8) (a0.1,a0.2)).2.2.1,v8) (a0.1,a0.2)).2.2.1,v8) (a0.1,a0.2)).1),((aH (aB (a0.2.getD (toNat v10) default)).1 v9 (v7,v8) (a0.1,a0.2)).1,(a0.2.getD (toNat v10) default).2.1,(aH (aB (a0.2.getD (toNat v10) default)).2.1 (aH (aB (a0.2.getD (toNat v10) default)).1 v9 (v7,v8) (a0.1,a0.2)).2.1 ((aH (aB (a0.2.getD (toNat v10) default)).1 v9 (v7,v8) (a0.1,a0.2)).2.2.1,v8) (a0.1,a0.2)).1),((aH (aB (a0.2.getD (toNat v10) default)).2.2 (aH (aB (a0.2.getD (toNat v10) default)).2.1 (aH (aB (a0.2.getD (toNat v10) default)).1 v9 (v7,v8) (a0.1,a0.2)).2.1 ((aH (aB (a0.2.getD (toNat v10) default)).1 v9 (v7,v8) (a0.1,a0.2)).2.2.1,v8) (a0.1,a0.2)).2.1 ((aH (aB (a0.2.getD (toNat v10) default)).2.1 (aH (aB (a0.2.getD (toNat v10) default)).1 v9 (v7,v8) (a0.1,a0.2)).2.1 ((aH (aB (a0.2.getD (toNat v10) default)).1 v9 (v7,v8) (a0.1,a0.2)).2.2.1,v8) (a0.1,a0.2)).2.2.1,v8) (a0.1,a0.2)).1,(aH (aB (a0.2.getD (toNat v10) default)).2.1 (aH (aB (a0.2.getD (toNat v10) default)).1 v9 (v7,v8) (a0.1,a0.2)).2.1 ((aH (aB (a0.2.getD (toNat v10) default)).1 v9 (v7,v8) (a0.1,a0.2)).2.2.1,v8) (a0.1,a0.2)).1,(a0.2.getD (toNat v10) default).2.2),((aH (aB (a0.2.getD (toNat v10) default)).1 v9 (v7,v8) (a0.1,a0.2)).1,(aH (aB (a0.2.getD (toNat v10) default)).2.1 (aH (aB (a0.2.getD (toNat v10) default)).1 v9 (v7,v8) (a0.1,a0.2)).2.1 ((aH (aB (a0.2.getD (toNat v10) default)).1 v9 (v7,v8) (a0.1,a0.2)).2.2.1,v8) (a0.1,a0.2)).1,(aH (aB (a0.2.getD (toNat v10) default)).2.2 (aH (aB (a0.2.getD (toNat v10) default)).2.1 (aH (aB (a0.2.getD (toNat v10) default)).1 v9 (v7,v8) (a0.1,a0.2)).2.1 ((aH (aB (a0.2.getD (toNat v10) default)).1 v9 (v7,v8) (a0.1,a0.2)).2.2.1,v8) (a0.1,a0.2)).2.1 ((aH (aB (a0.2.getD (toNat v10) default)).2.1 (aH (aB (a0.2.getD (toNat v10) default)).1 v9 (v7,v8) (a0.1,a0.2)).2.1 ((aH (aB (a0.2.getD (toNat v10) default)).1 v9 (v7,v8) (a0.1,a0.2)).2.2.1,v8) (a0.1,a0.2)).2.2.1,v8) (a0.1,a0.2)).1)]).length:=eZ v8 [((a0.2.getD (toNat v10) default).1,(aH (aB (a0.2.getD (toNat v10) default)).1 v9 (v7,v8) (a0.1,a0.2)).1,(aH (aB (a0.2.getD (toNat v10) default)).2.2 (aH (aB (a0.2.getD (toNat v10) default)).2.1 (aH (aB (a0.2.getD (toNat v10) default)).1 v9 (v7,v8) (a0.1,a0.2)).2.1 ((aH (aB (a0.2.getD (toNat v10) default)).1 v9 (v7,v8) (a0.1,a0.2)).2.2.1,v8) (a0.1,a0.2)).2.1 ((aH (aB (a0.2.getD (toNat v10) default)).2.1 (aH (aB (a0.2.getD (toNat v10) default)).1 v9 (v7,v8) (a0.1,a0.2)).2.1 ((aH (aB (a0.2.getD (toNat v10) default)).1 v9 (v7,v8) (a0.1,a0.2)).2.2.1,v8) (a0.1,a0.2)).2.2.1,v8) (a0.1,a0.2)).1),((aH (aB (a0.2.getD (toNat v10) default)).1 v9 (v7,v8) (a0.1,a0.2)).1,(a0.2.getD (toNat v10) default).2.1,(aH (aB (a0.2.getD (toNat v10) default)).2.1 (aH (aB (a0.2.getD (toNat v10) default)).1 v9 (v7,v8) (a0.1,a0.2)).2.1 ((aH (aB (a0.2.getD (toNat v10) default)).1 v9 (v7,v8) (a0.1,a0.2)).2.2.1,v8) (a0.1,a0.2)).1),((aH (aB (a0.2.getD (toNat v10) default)).2.2 (aH (aB (a0.2.getD (toNat v10) default)).2.1 (aH (aB (a0.2.getD (toNat v10) default)).1 v9 (v7,v8) (a0.1,a0.2)).2.1 ((aH (aB (a0.2.getD (toNat v10) default)).1 v9 (v7,v8) (a0.1,a0.2)).2.2.1,v8) (a0.1,a0.2)).2.1 ((aH (aB (a0.2.getD (toNat v10) default)).2.1 (aH (aB (a0.2.getD (toNat v10) default)).1 v9 (v7,v8) (a0.1,a0.2)).2.1 ((aH (aB (a0.2.getD (toNat v10) default)).1 v9 (v7,v8) (a0.1,a0.2)).2.2.1,v8) (a0.1,a0.2)).2.2.1,v8) (a0.1,a0.2)).1,(aH (aB (a0.2.getD (toNat v10) default)).2.1 (aH (aB (a0.2.getD (toNat v10) default)).1 v9 (v7,v8) (a0.1,a0.2)).2.1 ((aH (aB (a0.2.getD (toNat v10) default)).1 v9 (v7,v8) (a0.1,a0.2)).2.2.1,v8) (a0.1,a0.2)).1,(a0.2.getD (toNat v10) default).2.2),((aH (aB (a0.2.getD (toNat v10) default)).1 v9 (v7,v8) (a0.1,a0.2)).1,(aH (aB (a0.2.getD (toNat v10) default)).2.1 (aH (aB (a0.2.getD (toNat v10) default)).1 v9 (v7,v8) (a0.1,a0.2)).2.1 ((aH (aB (a0.2.getD (toNat v10) default)).1 v9 (v7,v8) (a0.1,a0.2)).2.2.1,v8) (a0.1,a0.2)).1,(aH (aB (a0.2.getD (toNat v10) default)).2.2 (aH (aB (a0.2.getD (toNat v10) default)).2.1 (aH (aB (a0.2.getD (toNat v10) default)).1 v9 (v7,v8) (a0.1,a0.2)).2.1 ((aH (aB (a0.2.getD (toNat v10) default)).1 v9 (v7,v8) (a0.1,a0.2)).2.2.1,v8) (a0.1,a0.2)).2.1 ((aH (aB (a0.2.getD (toNat v10) default)).2.1 (aH (aB (a0.2.getD (toNat v10) default)).1 v9 (v7,v8) (a0.1,a0.2)).2.1 ((aH (aB (a0.2.getD (toNat v10) default)).1 v9 (v7,v8) (a0.1,a0.2)).2.2.1,v8) (a0.1,a0.2)).2.2.1,v8) (a0.1,a0.2)).1)] rfl
    rw [z0,z1,z2]
    exact ih ((aH (aB (a0.2.getD (toNat v10) default)).2.2 (aH (aB (a0.2.getD (toNat v10) default)).2.1 (aH (aB (a0.2.getD (toNat v10) default)).1 v9 (v7,v8) (a0.1,a0.2)).2.1 ((aH (aB (a0.2.getD (toNat v10) default)).1 v9 (v7,v8) (a0.1,a0.2)).2.2.1,v8) (a0.1,a0.2)).2.1 ((aH (aB (a0.2.getD (toNat v10) default)).2.1 (aH (aB (a0.2.getD (toNat v10) default)).1 v9 (v7,v8) (a0.1,a0.2)).2.1 ((aH (aB (a0.2.getD (toNat v10) default)).1 v9 (v7,v8) (a0.1,a0.2)).2.2.1,v8) (a0.1,a0.2)).2.2.1,v8) (a0.1,a0.2)).2.2.1) (v8++[((a0.2.getD (toNat v10) default).1,(aH (aB (a0.2.getD (toNat v10) default)).1 v9 (v7,v8) (a0.1,a0.2)).1,(aH (aB (a0.2.getD (toNat v10) default)).2.2 (aH (aB (a0.2.getD (toNat v10) default)).2.1 (aH (aB (a0.2.getD (toNat v10) default)).1 v9 (v7,v8) (a0.1,a0.2)).2.1 ((aH (aB (a0.2.getD (toNat v10) default)).1 v9 (v7,v8) (a0.1,a0.2)).2.2.1,v8) (a0.1,a0.2)).2.1 ((aH (aB (a0.2.getD (toNat v10) default)).2.1 (aH (aB (a0.2.getD (toNat v10) default)).1 v9 (v7,v8) (a0.1,a0.2)).2.1 ((aH (aB (a0.2.getD (toNat v10) default)).1 v9 (v7,v8) (a0.1,a0.2)).2.2.1,v8) (a0.1,a0.2)).2.2.1,v8) (a0.1,a0.2)).1),((aH (aB (a0.2.getD (toNat v10) default)).1 v9 (v7,v8) (a0.1,a0.2)).1,(a0.2.getD (toNat v10) default).2.1,(aH (aB (a0.2.getD (toNat v10) default)).2.1 (aH (aB (a0.2.getD (toNat v10) default)).1 v9 (v7,v8) (a0.1,a0.2)).2.1 ((aH (aB (a0.2.getD (toNat v10) default)).1 v9 (v7,v8) (a0.1,a0.2)).2.2.1,v8) (a0.1,a0.2)).1),((aH (aB (a0.2.getD (toNat v10) default)).2.2 (aH (aB (a0.2.getD (toNat v10) default)).2.1 (aH (aB (a0.2.getD (toNat v10) default)).1 v9 (v7,v8) (a0.1,a0.2)).2.1 ((aH (aB (a0.2.getD (toNat v10) default)).1 v9 (v7,v8) (a0.1,a0.2)).2.2.1,v8) (a0.1,a0.2)).2.1 ((aH (aB (a0.2.getD (toNat v10) default)).2.1 (aH (aB (a0.2.getD (toNat v10) default)).1 v9 (v7,v8) (a0.1,a0.2)).2.1 ((aH (aB (a0.2.getD (toNat v10) default)).1 v9 (v7,v8) (a0.1,a0.2)).2.2.1,v8) (a0.1,a0.2)).2.2.1,v8) (a0.1,a0.2)).1,(aH (aB (a0.2.getD (toNat v10) default)).2.1 (aH (aB (a0.2.getD (toNat v10) default)).1 v9 (v7,v8) (a0.1,a0.2)).2.1 ((aH (aB (a0.2.getD (toNat v10) default)).1 v9 (v7,v8) (a0.1,a0.2)).2.2.1,v8) (a0.1,a0.2)).1,(a0.2.getD (toNat v10) default).2.2),((aH (aB (a0.2.getD (toNat v10) default)).1 v9 (v7,v8) (a0.1,a0.2)).1,(aH (aB (a0.2.getD (toNat v10) default)).2.1 (aH (aB (a0.2.getD (toNat v10) default)).1 v9 (v7,v8) (a0.1,a0.2)).2.1 ((aH (aB (a0.2.getD (toNat v10) default)).1 v9 (v7,v8) (a0.1,a0.2)).2.2.1,v8) (a0.1,a0.2)).1,(aH (aB (a0.2.getD (toNat v10) default)).2.2 (aH (aB (a0.2.getD (toNat v10) default)).2.1 (aH (aB (a0.2.getD (toNat v10) default)).1 v9 (v7,v8) (a0.1,a0.2)).2.1 ((aH (aB (a0.2.getD (toNat v10) default)).1 v9 (v7,v8) (a0.1,a0.2)).2.2.1,v8) (a0.1,a0.2)).2.1 ((aH (aB (a0.2.getD (toNat v10) default)).2.1 (aH (aB (a0.2.getD (toNat v10) default)).1 v9 (v7,v8) (a0.1,a0.2)).2.1 ((aH (aB (a0.2.getD (toNat v10) default)).1 v9 (v7,v8) (a0.1,a0.2)).2.2.1,v8) (a0.1,a0.2)).2.2.1,v8) (a0.1,a0.2)).1)]) ((aH (aB (a0.2.getD (toNat v10) default)).2.2 (aH (aB (a0.2.getD (toNat v10) default)).2.1 (aH (aB (a0.2.getD (toNat v10) default)).1 v9 (v7,v8) (a0.1,a0.2)).2.1 ((aH (aB (a0.2.getD (toNat v10) default)).1 v9 (v7,v8) (a0.1,a0.2)).2.2.1,v8) (a0.1,a0.2)).2.1 ((aH (aB (a0.2.getD (toNat v10) default)).2.1 (aH (aB (a0.2.getD (toNat v10) default)).1 v9 (v7,v8) (a0.1,a0.2)).2.1 ((aH (aB (a0.2.getD (toNat v10) default)).1 v9 (v7,v8) (a0.1,a0.2)).2.2.1,v8) (a0.1,a0.2)).2.2.1,v8) (a0.1,a0.2)).2.1) (v10+1) (by refine⟨?_,?_,?_,?_,?_⟩<;>(try simp only [Ls])<;>first | omega | assumption | simp) (by(try simp only [Ls]);omega)
   | false =>
    have q0:=dU h0
    try have hfi:=kN (m:=(a0.1,a0.2)) hi.2.1 (i:=v10) hi.1 (cY h0)
    let t1:List (St Try.prog):=[.d h0]
    cases h1:(((cZ ((v7,v8).1,(v7,v8).2)):Int) != 0) with
    | true =>
     have q1:=bne_iff_ne.1 h1
     try have hfi:=kN (m:=(a0.1,a0.2)) hi.2.1 (i:=v10) hi.1 (cY h0)
     have e:=Eq.refl (gU a0 (v7,v8,v9,v10));conv at e=>rhs;simp only [gU,h0,h1,aK]
     rw [aD,e]
     exact rt (t1++[.c [6,7] (aPy (v7,v8) (by(try simp only [Lt]);omega) (by(try simp only [Lt]);omega) h1)]) [.cell 2 0 3,.cell 2 1 3] [9,10] hcx (by kernel_rfl)
    | false =>
     have q1:=bne_eq_false_iff_eq.1 h1
     try have hfi:=kN (m:=(a0.1,a0.2)) hi.2.1 (i:=v10) hi.1 (cY h0)
     have e:=Eq.refl (gU a0 (v7,v8,v9,v10));conv at e=>rhs;simp only [gU,h0,h1,aK]
     rw [aD,e]
     exact rt (t1++[.c [6,7] (aNs (v7,v8) (by(try simp only [Lt]);omega) (by(try simp only [Lt]);omega) h1)]) [] [6,7] hcx (by kernel_rfl)
theorem aVq (a0:Zm)(l0_1:a0.1.length≤9223372036854775807)(l0_2:a0.2.length≤9223372036854775807) {cx:Cx} (hcx:cx.base=2):∀(n:Nat)(v2:List Zt)(v3:Int),(0≤v3)∧(cZ (a0.1,a0.2)=0)∧(v2.length=toNat v3)∧(v3≤a0.1.length)→toNat ((a0.1.length:Int) - v3) < n→Aw.Good Try.prog none 9 (bodyPost Try.prog Try.f11 (RR cx (.t [(.a [(.s 2 0 (aC (kO a0) n (v2,v3)).1.1.length 3),(.s 3 0 (aC (kO a0) n (v2,v3)).1.2.length 3)]),(iv (aC (kO a0) n (v2,v3)).2)]) [(.live true true (flat dD (aC (kO a0) n (v2,v3)).1.1)),(.live true true (flat eE (aC (kO a0) n (v2,v3)).1.2))] [])) cx [] (.l aNv n::aNw) (aGu a0 (flat dD v2) v2.length v3):=by
 intro n
 induction n with
 | zero=>intro v2 v3 hi hn;exact absurd hn (jV _)
 | succ n ih =>
   intro v2 v3 hi hn
   refine aJ ?_
   have hb:=tU (m:=(a0.1,a0.2)) hi.2.1
   dsimp only at hb
   cases h0:(decide ((v3:Int) < (a0.1.length:Int))) with
   | true =>
    have q0:=cY h0
    have e:=Eq.refl (kO a0 (v2,v3));conv at e=>rhs;simp only [kO,h0,aK]
    rw [aA e]
    refine ba [.d h0,.i v3 (a0.1.length),.L bY a0.1 v3 0 3,.c [] (C34 (a0.1.getD (toNat v3) default) 1 (a0.1.getD (toNat v3) default)),.p (show((flat dD v2).length=v2.length*3∧v2.length+1≤2 ^ 40∧(v2.length+1)*24≤2 ^ 47) from fX bY (by omega) (by omega))] [] [1,2,5,25,26,27] [2,3,4,8] hcx (m:=n) aNv (aNw) (aGu a0 (flat dD v2++(k3 (F34 (a0.1.getD (toNat v3) default) 1 (a0.1.getD (toNat v3) default)))) (v2.length+1) (W (v3+1))) (by kernel_rfl) ?_
    have z0:(W (v3+1))=(v3+1):=aE (by omega) (by omega)
    have z1:(flat dD v2++(k3 (F34 (a0.1.getD (toNat v3) default) 1 (a0.1.getD (toNat v3) default))))=(flat dD (v2++[(F34 (a0.1.getD (toNat v3) default) 1 (a0.1.getD (toNat v3) default))])):=(bM (c:=dD) (l:=v2) (m:=[(F34 (a0.1.getD (toNat v3) default) 1 (a0.1.getD (toNat v3) default))])).symm
    have z2:(v2.length+1)=(v2++[(F34 (a0.1.getD (toNat v3) default) 1 (a0.1.getD (toNat v3) default))]).length:=eZ v2 [(F34 (a0.1.getD (toNat v3) default) 1 (a0.1.getD (toNat v3) default))] rfl
    rw [z0,z1,z2]
    exact ih (v2++[(F34 (a0.1.getD (toNat v3) default) 1 (a0.1.getD (toNat v3) default))]) (v3+1) (by refine⟨?_,?_,?_,?_⟩<;>(try simp only [Ls])<;>first | omega | assumption | simp) (by(try simp only [Ls]);omega)
   | false =>
    have q0:=dU h0
    have e:=Eq.refl (kO a0 (v2,v3));conv at e=>rhs;simp only [kO,h0,aK]
    rw [aD,e]
    refine en [.d h0] [.cell 4 1 3] [2,5,9,43,44,45] [3,4,7,2,5,8,6] hcx aNt (aNu) (aGt a0 (flat dD v2) (v2.length) (flat eE ([]:List Zt)) 0 ([]:List ((Int×Int)×Int)) 0) (toNat ((a0.2.length:Int) - 0)+1) (by kernel_rfl) ?_
    exact aVp a0 l0_1 l0_2 hcx (toNat ((a0.2.length:Int) - 0)+1) v2 ([]:List Zt) ([]:List ((Int×Int)×Int)) 0 (by refine⟨?_,?_,?_,?_,?_⟩<;>(try simp only [Ls])<;>first | omega | assumption | simp) (by(try simp only [Ls]);omega)
def kQ (a0:Zm):(Zm)×Int :=
 (bif (((cZ (a0.1,a0.2)):Int) != 0) then
  ((([]:List Zt),([]:List Zt)),(cZ (a0.1,a0.2)))
 else
  (aC (kO a0) (toNat ((a0.1.length:Int) - 0)+1) (([]:List Zt),0)))
theorem C11 (a0:Zm)(l0_1:a0.1.length≤9223372036854775807)(l0_2:a0.2.length≤9223372036854775807):Con Try.prog 11 [(.a [(.s 0 0 a0.1.length 3),(.s 1 0 a0.2.length 3)])] [(.live false true (flat dD a0.1)),(.live false true (flat eE a0.2))] (.t [(.a [(.s 2 0 (kQ a0).1.1.length 3),(.s 3 0 (kQ a0).1.2.length 3)]),(iv (kQ a0).2)]) [(.live true true (flat dD (kQ a0).1.1)),(.live true true (flat eE (kQ a0).1.2))]:=by
 refine aL Try.func11 (by kernel_rfl) fun cx hcx=>?_
 try have hb:=tU (m:=(a0.1,a0.2)) (bne_eq_false_iff_eq.1 h0)
 let t0:List (St Try.prog):=[.c [0,1] (C31 (a0.1,a0.2) (by(try simp only [Lt]);omega) (by(try simp only [Lt]);omega))]
 cases h0:(((cZ (a0.1,a0.2)):Int) != 0) with
 | true =>
  have q0:=bne_iff_ne.1 h0
  try have hb:=tU (m:=(a0.1,a0.2)) (bne_eq_false_iff_eq.1 h0)
  have e:=Eq.refl (kQ a0);conv at e=>rhs;simp only [kQ,h0,aK]
  rw [e]
  exact rt (t0++[.d h0]) [.cell 3 0 3,.cell 3 1 3] [4,5] hcx (by kernel_rfl)
 | false =>
  have q0:=bne_eq_false_iff_eq.1 h0
  try have hb:=tU (m:=(a0.1,a0.2)) (bne_eq_false_iff_eq.1 h0)
  have e:=Eq.refl (kQ a0);conv at e=>rhs;simp only [kQ,h0,aK]
  rw [e]
  refine en (t0++[.d h0]) [.cell 4 0 3] [1,2,5,25,26,27] [2,3,4,5] hcx aNv (aNw) (aGu a0 (flat dD ([]:List Zt)) 0 0) (toNat ((a0.1.length:Int) - 0)+1) (by kernel_rfl) ?_
  exact aVq a0 l0_1 l0_2 hcx (toNat ((a0.1.length:Int) - 0)+1) ([]:List Zt) 0 (by refine⟨?_,?_,?_,?_⟩<;>(try simp only [Ls])<;>first | omega | assumption | simp) (by(try simp only [Ls]);omega)
abbrev MP:=List ((Int×Int)×Int)
abbrev FV:=List P3×List P3×MP
def qd4 (q:PN):List PN:=[(tm 2 q.1,bL q.1 q.2.1,bL q.2.2 q.1),(bL q.1 q.2.1,tm 2 q.2.1,bL q.2.1 q.2.2),(bL q.2.2 q.1,bL q.2.1 q.2.2,tm 2 q.2.2),(bL q.1 q.2.1,bL q.2.1 q.2.2,bL q.2.2 q.1)]
theorem aJl (p q:P3):bL p q=bL q p:=by unfold bL;simp only [Prod.mk.injEq];omega
def PT (l:List P3)(i:Int)(x:P3):Prop:=0≤i∧l[toNat i]? = some x
theorem PT.app {l:List P3} {i:Int} {x:P3} (h:PT l i x)(r:List P3):PT (l++r) i x:=by
 refine⟨h.1,?_⟩
 have:=(List.getElem?_eq_some_iff.1 h.2).1
 rw [List.getElem?_append_left this];exact h.2
def FG (l:List P3)(c:P3)(q:PN):Prop:=PT l c.1 q.1∧PT l c.2.1 q.2.1∧PT l c.2.2 q.2.2
def FGs (l:List P3):List P3→List PN→Prop
 | [],[]=>True
 | c::cs,q::qs=>FG l c q∧FGs l cs qs
 | _,_=>False
theorem FGs.mono {l:List P3} (r:List P3):∀{cs:List P3} {qs:List PN},FGs l cs qs→FGs (l++r) cs qs
 | [],[],_=>trivial
 | [],_::_,h=>h.elim
 | _::_,[],h=>h.elim
 | _::_,_::_,⟨h1,h2⟩=>⟨⟨h1.1.app r,h1.2.1.app r,h1.2.2.app r⟩,FGs.mono r h2⟩
theorem FGs.app {l:List P3}:∀{cs cs':List P3} {qs qs':List PN},FGs l cs qs→FGs l cs' qs'→FGs l (cs++cs') (qs++qs')
 | [],_,[],_,_,h=>h
 | [],_,_::_,_,h,_=>h.elim
 | _::_,_,[],_,h,_=>h.elim
 | _::_,_,_::_,_,⟨h1,h2⟩,h=>⟨h1,FGs.app h2 h⟩
theorem PT.get {l:List P3} {i:Int} {x:P3} (h:PT l i x):l.getD (toNat i) default=x:=by
 rw [eG,h.2];rfl
theorem FGs.pans {l:List P3} (w:List P3):∀{cs:List P3} {qs:List PN},FGs l cs qs→cs.map (lP (l,w))=qs
 | [],[],_=>rfl
 | [],_::_,h=>h.elim
 | _::_,[],h=>h.elim
 | c::cs,q::qs,⟨h1,h2⟩=>by
   rw [List.map_cons,FGs.pans w h2]
   unfold lP
   rw [h1.1.get,h1.2.1.get,h1.2.2.get]
noncomputable def tV (m:ME)(v:FV)(c:P3):FV :=
 let s:=aB c
 let t1:=aH s.1 v.2.2 (v.1,v.2.1) m
 let t2:=aH s.2.1 t1.2.1 (t1.2.2.1,v.2.1) m
 let t3:=aH s.2.2 t2.2.1 (t2.2.2.1,v.2.1) m
 (t3.2.2.1,v.2.1++[(c.1,t1.1,t3.1),(t1.1,c.2.1,t2.1),(t3.1,t2.1,c.2.2),(t1.1,t2.1,t3.1)],t3.2.1)
structure FB (m:ME) (l:List P3) (mp:MP):Prop where
 b:∀(i:Nat) (x:P3),m.1[i]? = some x→l[i]? = some (tm 2 x)
 p:∀s:Int×Int,qV mp s=true→PT l (aU mp s 0) (bL (m.1.getD (toNat s.1) default) (m.1.getD (toNat s.2) default))
theorem nX {α β:Type} [DecidableEq α] (a:α)(b:β)(l:List (α×β))(k:α):qV ((a,b)::l) k=(if a=k then true else qV l k):=by
 unfold qV
 simp only [cT]
 by_cases e:a=k
 · simp [e]
 · simp only [e,if_false]
   cases cT k l<;>rfl
theorem yU {α β:Type} [DecidableEq α]:∀(l:List (α×β))(k k':α)(v:β),qV (bH l k v) k'=true→k=k'∨qV l k'=true
 | [],k,k',v,h=>by
   by_cases e:k=k'
   · exact .inl e
   · right
     have e2:bH ([]:List (α×β)) k v=[(k,v)]:=rfl
     rw [e2,nX,if_neg e] at h;exact h
 | (a,b)::l,k,k',v,h=>by
   rw [aA2] at h
   rw [nX]
   by_cases e:k=k'
   · exact .inl e
   · right
     by_cases e1:a=k
     · rw [if_pos e1,nX,if_neg e] at h
       rw [if_neg (fun e3=>e (e1.symm.trans e3))];exact h
     · rw [if_neg e1,nX] at h
       by_cases e2:a=k'
       · rw [if_pos e2]
       · rw [if_neg e2] at h ⊢
         exact(yU l k k' v h).resolve_left e
theorem aNx {p q:P3} (hp:bd 64 p)(hq:bd 64 q):F34 p 1 q=bL p q:=by
 unfold bd at hp hq
 unfold F34 bL
 simp only [Int.one_mul]
 rw [aE (n:=q.1) (by omega) (by omega),aE (n:=q.2.1) (by omega) (by omega),aE (n:=q.2.2) (by omega) (by omega),aE (n:=p.1+q.1) (by omega) (by omega),aE (n:=p.2.1+q.2.1) (by omega) (by omega),aE (n:=p.2.2+q.2.2) (by omega) (by omega)]
theorem aQm {m:ME} (hv:cZ m=0) {i:Int} (h0:0≤i)(h1:i < m.1.length):bd 64 (m.1.getD (toNat i) default):=by
 have hlt:toNat i < m.1.length:=by omega
 rw [eG,List.getElem?_eq_getElem hlt,Option.getD_some]
 exact nT hv _ (List.getElem_mem hlt)
theorem aGv {m:ME} (hv:cZ m=0) {l w:List P3} {mp:MP} (h:FB m l mp) {s:Int×Int} (hs:0≤s.1∧s.1 < m.1.length∧0≤s.2∧s.2 < m.1.length) :
   FB m (aH s mp (l,w) m).2.2.1 (aH s mp (l,w) m).2.1∧(∃r,(aH s mp (l,w) m).2.2.1=l++r) ∧
   PT (aH s mp (l,w) m).2.2.1 (aH s mp (l,w) m).1 (bL (m.1.getD (toNat s.1) default) (m.1.getD (toNat s.2) default)):=by
 unfold aH
 cases hm:qV mp s with
 | true =>
   simp only [cond_true]
   exact⟨h,⟨[],by rw [List.append_nil]⟩,h.p s hm⟩
 | false =>
   simp only [cond_false]
   rw [aNx (aQm hv hs.1 hs.2.1) (aQm hv hs.2.2.1 hs.2.2.2)]
   generalize hx:bL (m.1.getD (toNat s.1) default) (m.1.getD (toNat s.2) default)=x
   have hlast:PT (l++[x]) (l.length:Int) x:=⟨by omega,by rw [itn,List.getElem?_append_right (Nat.le_refl _),Nat.sub_self];rfl⟩
   refine⟨⟨fun i y hy=>?_,fun t ht=>?_⟩,⟨[x],rfl⟩,hlast⟩
   · have:=h.b i y hy
     have hlt:=(List.getElem?_eq_some_iff.1 this).1
     rw [List.getElem?_append_left hlt];exact this
   · rw [xX]
     by_cases e1:F36 s=t
     · rw [if_pos e1]
       have e2:t=(s.2,s.1):=by rw [←e1];rfl
       subst e2
       simp only
       rw [aJl,hx];exact hlast
     · rw [if_neg e1,xX]
       by_cases e2:s=t
       · rw [if_pos e2]
         subst e2
         rw [hx];exact hlast
       · rw [if_neg e2]
         rcases yU _ _ _ _ ht with h3 | h3
         · exact absurd h3 e1
         · rcases yU _ _ _ _ h3 with h4 | h4
           · exact absurd h4 e2
           · exact(h.p t h4).app _
structure FI (m:ME) (L:List P3) (v:FV):Prop where
 fb:FB m v.1 v.2.2
 fg:FGs v.1 v.2.1 (L.flatMap fun c=>qd4 (lP m c))
theorem aPz {m:ME} (hv:cZ m=0) {L:List P3} {v:FV} (h:FI m L v) {c:P3} (hc:inF m.1.length c):FI m (L++[c]) (tV m v c):=by
 obtain⟨⟨a1,a2⟩,⟨b1,b2⟩,⟨d1,d2⟩⟩:=hc
 unfold tV
 simp only [aB]
 have m1:=aGv hv (w:=v.2.1) h.fb (s:=(c.1,c.2.1)) ⟨a1,by simp only;omega,b1,by simp only;omega⟩
 generalize aH (c.1,c.2.1) v.2.2 (v.1,v.2.1) m=t1 at *
 obtain⟨f1,⟨r1,e1⟩,p1⟩:=m1
 have m2:=aGv hv (w:=v.2.1) f1 (s:=(c.2.1,c.2.2)) ⟨b1,by simp only;omega,d1,by simp only;omega⟩
 generalize aH (c.2.1,c.2.2) t1.2.1 (t1.2.2.1,v.2.1) m=t2 at *
 obtain⟨f2,⟨r2,e2⟩,p2⟩:=m2
 have m3:=aGv hv (w:=v.2.1) f2 (s:=(c.2.2,c.1)) ⟨d1,by simp only;omega,a1,by simp only;omega⟩
 generalize aH (c.2.2,c.1) t2.2.1 (t2.2.2.1,v.2.1) m=t3 at *
 obtain⟨f3,⟨r3,e3⟩,p3⟩:=m3
 simp only at p1 p2 p3
 have base:∀i:Int,0≤i→i < m.1.length→PT t3.2.2.1 i (tm 2 (m.1.getD (toNat i) default)):=fun i h0 h1=>⟨h0,f3.b _ _ (by
   have hlt:toNat i < m.1.length:=by omega
   rw [eG,List.getElem?_eq_getElem hlt];rfl)⟩
 have p2':PT t3.2.2.1 t2.1 (bL (m.1.getD (toNat c.2.1) default) (m.1.getD (toNat c.2.2) default)):=by rw [e3];exact p2.app _
 have p1':PT t3.2.2.1 t1.1 (bL (m.1.getD (toNat c.1) default) (m.1.getD (toNat c.2.1) default)):=by rw [e3,e2];exact(p1.app _).app _
 have b1':=base c.1 a1 (by omega);have b2':=base c.2.1 b1 (by omega);have b3':=base c.2.2 d1 (by omega)
 refine⟨f3,?_⟩
 simp only [List.flatMap_append,List.flatMap_cons,List.flatMap_nil,List.append_nil]
 refine FGs.app ?_ ?_
 · rw [e3,e2,e1]
   exact((h.fg.mono r1).mono r2).mono r3
 · unfold lP qd4
   exact⟨⟨b1',p1',p3⟩,⟨p1',b2',p2'⟩,⟨p3,p2',b3'⟩,⟨p1',p2',p3⟩,trivial⟩
noncomputable def aNy (v:List P3×List P3):ME×Int:=bif ((cZ v:Int) != 0) then(([],[]),cZ v) else(v,0)
theorem aQn {m:ME} (hv:cZ m=0):∃v,FI m m.2 v∧kQ m=aNy (v.1,v.2.1)∧v.1.length≤64+3*m.2.length∧v.2.1.length=4*m.2.length:=by
 obtain⟨h64,_,_,_,hf⟩:=dN hv
 let v0:FV:=(m.1.map (tm 2),[],[])
 have hinv:∀(k:List P3),(∀c∈k,inF m.1.length c)→∀(L:List P3) (v:FV),FI m L v→FI m (L++k) (k.foldl (tV m) v):=by
   intro k
   induction k with
   | nil=>intro _ L v h;rw [List.append_nil];exact h
   | cons c k ih =>
     intro hk L v h
     have:=ih (fun c' hc'=>hk c' (List.mem_cons_of_mem _ hc')) (L++[c]) (tV m v c) (aPz hv h (hk c List.mem_cons_self))
     rw [List.append_assoc] at this
     exact this
 have hin:∀c∈m.2,inF m.1.length c:=fun c hc=>by
   obtain⟨i,hi⟩:=List.getElem?_of_mem hc
   have hlt:=(List.getElem?_eq_some_iff.1 hi).1
   have:=aEp hv (i:=(i:Int)) (by omega) (by omega)
   rw [cH hi] at this;exact this
 have h0:FI m [] v0:=⟨⟨fun i x hx=>by show(m.1.map (tm 2))[i]? = _;rw [List.getElem?_map,hx];rfl,fun s hs=>by simp [v0,qV,cT] at hs⟩,trivial⟩
 have hlen:∀(k:List P3) (v:FV),(k.foldl (tV m) v).1.length≤v.1.length+3*k.length∧(k.foldl (tV m) v).2.1.length=v.2.1.length+4*k.length:=by
   intro k
   induction k with
   | nil=>intro v;simp
   | cons c k ih =>
     intro v
     have:=ih (tV m v c)
     have l1:=nW (aB c).1 v.2.2 (v.1,v.2.1) m
     have l2:=nW (aB c).2.1 (aH (aB c).1 v.2.2 (v.1,v.2.1) m).2.1 ((aH (aB c).1 v.2.2 (v.1,v.2.1) m).2.2.1,v.2.1) m
     have l3:=nW (aB c).2.2 (aH (aB c).2.1 (aH (aB c).1 v.2.2 (v.1,v.2.1) m).2.1 ((aH (aB c).1 v.2.2 (v.1,v.2.1) m).2.2.1,v.2.1) m).2.1 ((aH (aB c).2.1 (aH (aB c).1 v.2.2 (v.1,v.2.1) m).2.1 ((aH (aB c).1 v.2.2 (v.1,v.2.1) m).2.2.1,v.2.1) m).2.2.1,v.2.1) m
     have e1:(tV m v c).1.length≤v.1.length+3:=by
       unfold tV
       simp only at l1 l2 l3 ⊢
       omega
     have e2:(tV m v c).2.1.length=v.2.1.length+4:=by unfold tV;simp
     rw [List.foldl_cons,List.length_cons]
     omega
 have hl:=hlen m.2 v0
 refine⟨m.2.foldl (tV m) v0,by have:=hinv m.2 hin [] v0 h0;rwa [List.nil_append] at this,?_,?_,?_⟩
 · unfold kQ
   rw [show cZ (m.1,m.2)=0 from hv]
   simp only [bne_self_eq_false,cond_false]
   have k1:=cG (S:=gU m) (fun(v:FV) i=>(v.1,v.2.1,v.2.2,i)) (fun v c=>.inl (tV m v c)) (fun v=>aNy (v.1,v.2.1)) (L:=m.2) (v:=v0) (n:=toNat ((m.2.length:Int) - 0)+1) (fun _ _=>True) ?_ (fun _ _ _ _ _ _ _=>trivial) ?_ (by omega) trivial
   · have k0:=cG (S:=kO m) (fun(v:List P3) i=>(v,i)) (fun v p=>.inl (v++[tm 2 p])) (fun v=>aC (gU m) (toNat ((m.2.length:Int) - 0)+1) (v,([]:List Zt),([]:List ((Int×Int)×Int)),0)) (L:=m.1) (v:=[]) (n:=toNat ((m.1.length:Int) - 0)+1) (fun _ _=>True) ?_ (fun _ _ _ _ _ _ _=>trivial) ?_ (by omega) trivial
     · refine Eq.trans k0 ?_
       rw [cV,show ∀(k u:List P3),k.foldl (fun v p=>v++[tm 2 p]) u=u++k.map (tm 2) from fun k=>by
         induction k with
         | nil=>intro u;simp
         | cons c k ih=>intro u;rw [List.foldl_cons,ih,List.map_cons,List.append_assoc];rfl]
       show aC (gU m) _ ([]++m.1.map (tm 2),_,_,0)=_
       rw [List.nil_append]
       refine Eq.trans k1 ?_
       rw [cV];rfl
     · intro i c hc v _
       obtain⟨hlt,hce⟩:=List.getElem?_eq_some_iff.1 hc
       simp only [kO]
       have hb:=nT hv c (List.mem_of_getElem? hc)
       rw [eK (by omega),cond_true,cH hc,aNx hb hb,show bL c c=tm 2 c from by unfold bL tm;simp only [Prod.mk.injEq];omega]
       rfl
     · intro v _
       simp only [kO]
       rw [fN (by omega),cond_false]
   · intro i c hc v _
     obtain⟨hlt,hce⟩:=List.getElem?_eq_some_iff.1 hc
     simp only [gU]
     rw [eK (by omega),cond_true,cH hc]
     rfl
   · intro v _
     simp only [gU]
     rw [fN (by omega),cond_false]
     unfold aNy
     cases ((cZ (v.1,v.2.1):Int) != 0)<;>rfl
 · have:(m.1.map (tm 2)).length=m.1.length:=List.length_map _
   have h2:v0.1.length=m.1.length:=this
   omega
 · have h2:v0.2.1.length=0:=rfl
   omega
theorem aNz (m:ME):(kQ m).1.1.length≤9223372036854775807∧(kQ m).1.2.length≤9223372036854775807:=by
 cases hv:((cZ m:Int) != 0) with
 | true =>
   unfold kQ
   rw [show((cZ (m.1,m.2):Int) != 0)=true from hv,cond_true]
   exact⟨Nat.zero_le _,Nat.zero_le _⟩
 | false =>
   have hv:=bne_eq_false_iff_eq.1 hv
   obtain⟨v,_,e,l1,l2⟩:=aQn hv
   have hb:=tU hv
   rw [e]
   unfold aNy
   cases ((cZ (v.1,v.2.1):Int) != 0) with
   | true=>exact⟨Nat.zero_le _,Nat.zero_le _⟩
   | false=>simp only [cond_false];omega
theorem aN0 {m:ME} (hv:cZ m=0)(h:(kQ m).2=0):cZ (kQ m).1=0∧pans (kQ m).1=(pans m).flatMap qd4:=by
 obtain⟨v,hi,e,_,_⟩:=aQn hv
 rw [e] at h ⊢
 unfold aNy at h ⊢
 cases hc:((cZ (v.1,v.2.1):Int) != 0) with
 | true=>rw [hc,cond_true] at h;simp only at h;rw [h] at hc;cases hc
 | false =>
   rw [cond_false]
   refine⟨bne_eq_false_iff_eq.1 hc,?_⟩
   unfold pans
   simp only
   rw [hi.fg.pans v.2.1,List.flatMap_map]
noncomputable def aIl:Code:=(dC [1,0,1,0,0] [] (aI Try.f4)).1
noncomputable def aIm:List K:=(dC [1,0,1,0,0] [] (aI Try.f4)).2
def aC4 (a0:Zm)(a1:List (Int)×Int):LS:=⟨jW 80 [],[(.live false true (flat dD a0.1)),(.live false true (flat eE a0.2)),(.live false true (flat c3 a1.1))]⟩
def yV (a0:Zm)(a1:List (Int)×Int):Unit→Bool
 | () =>
  F7
noncomputable def aIn:Code:=(dC [1,1,1,1,0,1,0,0] [] (aI Try.f4)).1
noncomputable def aIo:List K:=(dC [1,1,1,1,0,1,0,0] [] (aI Try.f4)).2
def aC5 (a0:Zm)(a1:List (Int)×Int):LS:=⟨jW 80 [],[(.live false true (flat dD a0.1)),(.live false true (flat eE a0.2)),(.live false true (flat c3 a1.1))]⟩
def yW (a0:Zm)(a1:List (Int)×Int):Unit→Bool
 | () =>
  F7
theorem aN1 (a0:Zm)(a1:List (Int)×Int)(l0_1:a0.1.length≤9223372036854775807)(l0_2:a0.2.length≤9223372036854775807)(l1_1:a1.1.length≤9223372036854775807) {cx:Cx} (hcx:cx.base=3):True→Aw.Good Try.prog none 9 (bodyPost Try.prog Try.f4 (RR cx (.v (.bool (yV a0 a1 ()))) [] [])) cx [] (.c aIl::aIm) (aC4 a0 a1):=by
 intro hi
 have e:=Eq.refl (yV a0 a1 ());conv at e=>rhs;simp only [yV]
 rw [e]
 exact rt [.c [] (C7)] [] [] hcx (by kernel_rfl)
theorem aN2 (a0:Zm)(a1:List (Int)×Int)(l0_1:a0.1.length≤9223372036854775807)(l0_2:a0.2.length≤9223372036854775807)(l1_1:a1.1.length≤9223372036854775807) {cx:Cx} (hcx:cx.base=3):True→Aw.Good Try.prog none 9 (bodyPost Try.prog Try.f4 (RR cx (.v (.bool (yW a0 a1 ()))) [] [])) cx [] (.c aIn::aIo) (aC5 a0 a1):=by
 intro hi
 have e:=Eq.refl (yW a0 a1 ());conv at e=>rhs;simp only [yW]
 rw [e]
 exact rt [.c [] (C7)] [] [] hcx (by kernel_rfl)
def F4 (a0:Zm)(a1:List (Int)×Int):Bool :=
 (bif (decide (((a0.2.length:Int):Int) > 12)) then
  (yV a0 a1 ())
 else
  (bif (F6 (a0.1,a0.2) a1.2) then
   (yV a0 a1 ())
  else
   (bif (decide (((a1.1.length:Int):Int) > 300)) then
    (yV a0 a1 ())
   else
    (bif (((cM (a0.1,a0.2) a1.1 a1.2).2:Int) != 0) then
     (yW a0 a1 ())
    else
     (bif (((kQ (a0.1,a0.2)).2:Int) != 0) then
      (yW a0 a1 ())
     else
      (bif (decide (((((kQ (a0.1,a0.2)).1.2.length:Nat):Int):Int) > 48)) then
       (yW a0 a1 ())
      else
       (bif (((zB ((kQ (a0.1,a0.2)).1.1,(kQ (a0.1,a0.2)).1.2) 0).2:Int) != 0) then
        F7
       else
        (bif (((jE (cM (a0.1,a0.2) a1.1 a1.2).1 2).2:Int) == 0) then
         (bif (F10 (zB ((kQ (a0.1,a0.2)).1.1,(kQ (a0.1,a0.2)).1.2) 0).1 (jE (cM (a0.1,a0.2) a1.1 a1.2).1 2).1) then
          F7
         else
          false)
        else
         false))))))))
theorem C4 (a0:Zm)(a1:List (Int)×Int)(l0_1:a0.1.length≤9223372036854775807)(l0_2:a0.2.length≤9223372036854775807)(l1_1:a1.1.length≤9223372036854775807):Con Try.prog 4 [(.a [(.s 0 0 a0.1.length 3),(.s 1 0 a0.2.length 3)]),(.a [(.s 2 0 a1.1.length 1),(iv a1.2)])] [(.live false true (flat dD a0.1)),(.live false true (flat eE a0.2)),(.live false true (flat c3 a1.1))] (.v (.bool (F4 a0 a1))) []:=by
 refine aL Try.func4 (by kernel_rfl) fun cx hcx=>?_
 have hx1:=aNz (a0.1,a0.2)
 cases h0:(decide (((a0.2.length:Int):Int) > 12)) with
 | true =>
  have q0:=cY h0
  have e:=Eq.refl (F4 a0 a1);conv at e=>rhs;simp only [F4,h0,aK]
  rw [e]
  refine ga [.d h0,.z 2] [] [] [] hcx aIl (aIm) (aC4 a0 a1) (by kernel_rfl) ?_
  exact aN1 a0 a1 l0_1 l0_2 l1_1 hcx trivial
 | false =>
  have q0:=dU h0
  let t1:List (St Try.prog):=[.d h0,.c [0,1] (C6 (a0.1,a0.2) a1.2 (by(try simp only [Lt]);omega) (by(try simp only [Lt]);omega))]
  cases h1:(F6 (a0.1,a0.2) a1.2) with
  | true =>
   have e:=Eq.refl (F4 a0 a1);conv at e=>rhs;simp only [F4,h0,h1,aK]
   rw [e]
   refine ga (t1++[.d h1,.z 2]) [] [] [] hcx aIl (aIm) (aC4 a0 a1) (by kernel_rfl) ?_
   exact aN1 a0 a1 l0_1 l0_2 l1_1 hcx trivial
  | false =>
   let t2:List (St Try.prog):=(t1++[.d h1])
   cases h2:(decide (((a1.1.length:Int):Int) > 300)) with
   | true =>
    have q2:=cY h2
    have e:=Eq.refl (F4 a0 a1);conv at e=>rhs;simp only [F4,h0,h1,h2,aK]
    rw [e]
    refine ga (t2++[.d h2,.z 2]) [] [] [] hcx aIl (aIm) (aC4 a0 a1) (by kernel_rfl) ?_
    exact aN1 a0 a1 l0_1 l0_2 l1_1 hcx trivial
   | false =>
    have q2:=dU h2
    let t3:List (St Try.prog):=(t2++[.d h2,.c [0,1,2] (aUu (a0.1,a0.2) a1.1 a1.2 (by(try simp only [Lt]);omega) (by(try simp only [Lt]);omega) (by omega)),.c [0,1] (C11 (a0.1,a0.2) (by(try simp only [Lt]);omega) (by(try simp only [Lt]);omega))])
    cases h3:(((cM (a0.1,a0.2) a1.1 a1.2).2:Int) != 0) with
    | true =>
     have q3:=bne_iff_ne.1 h3
     have e:=Eq.refl (F4 a0 a1);conv at e=>rhs;simp only [F4,h0,h1,h2,h3,aK]
     rw [e]
     refine ga (t3++[.d h3,.z 6]) [] [] [] hcx aIn (aIo) (aC5 a0 a1) (by kernel_rfl) ?_
     exact aN2 a0 a1 l0_1 l0_2 l1_1 hcx trivial
    | false =>
     have q3:=bne_eq_false_iff_eq.1 h3
     let t4:List (St Try.prog):=(t3++[.d h3])
     cases h4:(((kQ (a0.1,a0.2)).2:Int) != 0) with
     | true =>
      have q4:=bne_iff_ne.1 h4
      have e:=Eq.refl (F4 a0 a1);conv at e=>rhs;simp only [F4,h0,h1,h2,h3,h4,aK]
      rw [e]
      refine ga (t4++[.d h4,.z 6]) [] [] [] hcx aIn (aIo) (aC5 a0 a1) (by kernel_rfl) ?_
      exact aN2 a0 a1 l0_1 l0_2 l1_1 hcx trivial
     | false =>
      have q4:=bne_eq_false_iff_eq.1 h4
      let t5:List (St Try.prog):=(t4++[.d h4])
      cases h5:(decide (((((kQ (a0.1,a0.2)).1.2.length:Nat):Int):Int) > 48)) with
      | true =>
       have q5:=cY h5
       have e:=Eq.refl (F4 a0 a1);conv at e=>rhs;simp only [F4,h0,h1,h2,h3,h4,h5,aK]
       rw [e]
       refine ga (t5++[.d h5,.z 6]) [] [] [] hcx aIn (aIo) (aC5 a0 a1) (by kernel_rfl) ?_
       exact aN2 a0 a1 l0_1 l0_2 l1_1 hcx trivial
      | false =>
       have q5:=dU h5
       let t6:List (St Try.prog):=(t5++[.d h5,.c [6,7] (C12 ((kQ (a0.1,a0.2)).1.1,(kQ (a0.1,a0.2)).1.2) 0 (by(try simp only [Lt]);omega) (by(try simp only [Lt]);omega))])
       cases h6:(((zB ((kQ (a0.1,a0.2)).1.1,(kQ (a0.1,a0.2)).1.2) 0).2:Int) != 0) with
       | true =>
        have q6:=bne_iff_ne.1 h6
        have e:=Eq.refl (F4 a0 a1);conv at e=>rhs;simp only [F4,h0,h1,h2,h3,h4,h5,h6,aK]
        rw [e]
        exact rt (t6++[.d h6,.c [] (C7)]) [] [] hcx (by kernel_rfl)
       | false =>
        have q6:=bne_eq_false_iff_eq.1 h6
        let t7:List (St Try.prog):=(t6++[.d h6,.c [] (C13 (cM (a0.1,a0.2) a1.1 a1.2).1 2)])
        cases h7:(((jE (cM (a0.1,a0.2) a1.1 a1.2).1 2).2:Int) == 0) with
        | true =>
         have q7:=eq_of_beq h7
         let t8:List (St Try.prog):=(t7++[.d h7,.c [] (C10 (zB ((kQ (a0.1,a0.2)).1.1,(kQ (a0.1,a0.2)).1.2) 0).1 (jE (cM (a0.1,a0.2) a1.1 a1.2).1 2).1)])
         cases h8:(F10 (zB ((kQ (a0.1,a0.2)).1.1,(kQ (a0.1,a0.2)).1.2) 0).1 (jE (cM (a0.1,a0.2) a1.1 a1.2).1 2).1) with
         | true =>
          have e:=Eq.refl (F4 a0 a1);conv at e=>rhs;simp only [F4,h0,h1,h2,h3,h4,h5,h6,h7,h8,aK]
          rw [e]
          exact rt (t8++[.d h8,.c [] (C7)]) [] [] hcx (by kernel_rfl)
         | false =>
          have e:=Eq.refl (F4 a0 a1);conv at e=>rhs;simp only [F4,h0,h1,h2,h3,h4,h5,h6,h7,h8,aK]
          rw [e]
          exact rt (t8++[.d h8]) [] [] hcx (by kernel_rfl)
        | false =>
         have q7:=ne_of_beq_false h7
         have e:=Eq.refl (F4 a0 a1);conv at e=>rhs;simp only [F4,h0,h1,h2,h3,h4,h5,h6,h7,aK]
         rw [e]
         exact rt (t7++[.d h7]) [] [] hcx (by kernel_rfl)
theorem aVr {q c:PN} {R:Int} {w:Rat} (hc:c∈aQ (toNat 0) q) {M i j:Nat} (h:i+j < M):∃P0,CapT.tpt (jG 0 R w c) M i j=tm 4 P0∧dH (M:Int) q P0:=by
 have e:c=q:=by simpa [aQ] using hc
 subst e
 have hm:=yT (w:=1) (q:=c) (t:=⟨c.1,c.2.1,c.2.2,(jG 0 R w c).q,(jG 0 R w c).o⟩) ⟨1,0,0,by decide,by decide,by decide,by decide,by simp only;omega,by simp only;omega,by simp only;omega⟩ ⟨0,1,0,by decide,by decide,by decide,by decide,by simp only;omega,by simp only;omega,by simp only;omega⟩ ⟨0,0,1,by decide,by decide,by decide,by decide,by simp only;omega,by simp only;omega,by simp only;omega⟩ h
 rw [Int.mul_one] at hm
 refine⟨_,?_,hm⟩
 rw [←aIj]
 rfl
theorem aQo {d' k k':Int} (hd':0≤d'∧d'≤2)(hk:1≤k∧k≤128)(hk':1≤k'∧k'≤128) {L L':List (PN×Int)} (hL:∀e∈L,vp e.1=0∧0≤e.2)(hL':∀e∈L',vp e.1=0∧0≤e.2) {V0 E0:Int}
   (hV:∀e∈L,∀(w:Int) (P:P3),1≤w→dH w e.1 P→∃p,dH (w*4) (cL k' p) (tm k (tm 4 P))∧V0≤PLs d' L' p) (hE:rY 0 L≤E0) :
   k*((sc 0*sc 0*eQ L)*(sc 0*sc 0*eQ L)*V0)≤k'*((sc d'*sc d'*eQ L')*E0):=by
 have hd:(0:Int)≤0∧(0:Int)≤2:=by omega
 have kp:=CapT.rcast_pos (a:=k) (by omega)
 have kp':=CapT.rcast_pos (a:=k') (by omega)
 have ik:=CapT.inv_nn (Rat.le_of_lt kp)
 have ik':=CapT.inv_nn (Rat.le_of_lt kp')
 have ok:=CapT.odm kp
 have ok':=CapT.odm kp'
 have key:=CapT.cap (X:=(qE 0 L).map (sT k)) (Y:=(qE d' L').map (sT k')) (G:=128*2048) (h:=fun t t'=>hcap 0 t t'*(1 / (k:Rat))) (V:=((V0:Int):Rat)*uu*(1 / (k':Rat))) (E:=((E0:Int):Rat)*uu*(1 / (k:Rat)))
   (aEo hd hk hL) (aEo hd' hk' hL')
   (fun t ht M i j hij=>by
     obtain⟨s,hs,rfl⟩:=List.mem_map.1 ht
     obtain⟨e,he,c,hc,rfl⟩:=eP hs
     obtain⟨P0,hP0,hm⟩:=aVr (R:=eD e.1 0) (w:=((e.2:Int):Rat)) hc hij
     obtain⟨p,hp,hv⟩:=hV e he _ _ (by omega) hm
     refine⟨fun s=>((pM d' (cL (sc d') p) s.o.1:Int):Rat)*uu*(1 / (k':Rat)),fun s hs=>?_,?_⟩
     · obtain⟨s0,hs0,rfl⟩:=List.mem_map.1 hs
       rw [aIj,hP0]
       exact aNq hd' hk'.1 hL' (M:=M) (by omega) hp s0 hs0
     · rw [CapT.ls_map]
       have e1:CapT.ls (qE d' L') (fun a=>(sT k' a).q*(((pM d' (cL (sc d') p) (sT k' a).o.1:Int):Rat)*uu*(1 / (k':Rat))))=(1 / (k':Rat))*(((PLs d' L' p:Int):Rat)*uu):=by
         rw [←aSf,←CapT.ls_mul]
         refine CapT.ls_congr (fun a _=>?_)
         show a.q*(((pM d' (cL (sc d') p) a.o.1:Int):Rat)*uu*(1 / (k':Rat)))=_
         grind
       rw [e1,Rat.mul_comm (1 / (k':Rat))]
       exact CapT.rmul_le (CapT.rmul_le (CapT.rcast_le hv) (Rat.le_of_lt jC)) ik')
   (aGs hd hk.1 hL) (by
     rw [aNr]
     exact CapT.rmul_le (CapT.rmul_le (CapT.rcast_le hE) (Rat.le_of_lt jC)) ik)
 rw [yS,yS,jQ hd,jQ hd'] at key
 generalize sc 0*sc 0*eQ L=a at *
 generalize sc d'*sc d'*eQ L'=b at *
 have h0:=CapT.rmul_le (CapT.rmul_le key (Rat.le_of_lt kp)) (Rat.le_of_lt kp')
 have h1:((k*(a*a*V0):Int):Rat)*uu≤((k'*(b*E0):Int):Rat)*uu:=by
   rw [CapT.rcast_mul,CapT.rcast_mul (a*a),CapT.rcast_mul a,CapT.rcast_mul k',CapT.rcast_mul b]
   have e1:(a:Rat)*(a:Rat)*((V0:Rat)*uu*(1 / (k':Rat)))*(k:Rat)*(k':Rat)=(k:Rat)*((a:Rat)*(a:Rat)*(V0:Rat))*uu*(1 / (k':Rat)*(k':Rat)):=by grind
   have e2:(b:Rat)*((E0:Rat)*uu*(1 / (k:Rat)))*(k:Rat)*(k':Rat)=(k':Rat)*((b:Rat)*(E0:Rat))*uu*(1 / (k:Rat)*(k:Rat)):=by grind
   rw [e1,e2,ok,ok'] at h0
   grind
 exact tT h1
theorem aSr {L L':List (PN×Int)} {Q mx E mn d' Q' mx' E' mn' k k':Int} (S:Sys L 0 Q mx E mn)(S':Sys L' d' Q' mx' E' mn')(hk:1≤k∧k≤128)(hk':1≤k'∧k'≤128)
   (hV:∀e∈L,∀(w:Int) (P:P3),1≤w→dH w e.1 P→∃p,dH (w*4) (cL k' p) (tm k (tm 4 P))∧mn'≤(L'.map fun e'=>e'.2*(fK e'.1 (cL (sc d') p) d').1).sum) :
   k*(Q*Q*mn')≤k'*(Q'*E)∧k*(Q*mn')≤k'*(Q'*mx):=by
 have hV0:∀e∈L,∀(w:Int) (P:P3),1≤w→dH w e.1 P→∃p,dH (w*4) (cL k' p) (tm k (tm 4 P))∧sc d'*sc d'*mn'≤PLs d' L' p:=fun e he w P hw hP=>by
   obtain⟨p,h1,h2⟩:=hV e he w P hw hP
   exact⟨p,h1,Int.le_trans (Int.mul_le_mul_of_nonneg_left h2 (by have:=cR d';omega)) (aNa S'.hL p)⟩
 have a:=aQo S'.hd hk hk' S.hL S'.hL hV0 (sC S)
 have b:=aQo S'.hd hk hk' S.hL S'.hL hV0 (sB S)
 rw [S.hQ,S'.hQ] at a b
 have n1:=cR 0;have n2:=cR d'
 generalize sc 0*sc 0=n at *
 generalize sc d'*sc d'=n' at *
 have nn:1≤n*n:=by have:=Int.mul_le_mul (a:=1) (b:=1) (c:=n) (d:=n) n1 n1 (by omega) (by omega);omega
 have nnn:1≤n*n*n':=by have:=Int.mul_le_mul (a:=1) (b:=1) (c:=n*n) (d:=n') nn n2 (by omega) (by omega);omega
 refine⟨bC nnn ?_,bC S.Q1 (bC nnn ?_)⟩
 · have e1:n*n*n'*(k*(Q*Q*mn'))=k*(n*Q*(n*Q)*(n'*mn')):=by grind
   have e2:n*n*n'*(k'*(Q'*E))=k'*(n'*Q'*(n*n*E)):=by grind
   rw [e1,e2];exact a
 · have e1:n*n*n'*(Q*(k*(Q*mn')))=k*(n*Q*(n*Q)*(n'*mn')):=by grind
   have e2:n*n*n'*(Q*(k'*(Q'*mx)))=k'*(n'*Q'*(n*n*(Q*mx))):=by grind
   rw [e1,e2];exact b
theorem aJm {w:Int} {q:PN} {P:P3} (h:dH w q P):∃p,p∈qd4 q∧dH w p (tm 2 P):=by
 obtain⟨i,j,k,hi,hj,hk,hw,x1,x2,x3⟩:=h
 unfold qd4
 by_cases c1:w≤2*i
 · refine⟨_,List.mem_cons_self,2*i - w,2*j,2*k,by omega,by omega,by omega,by omega,?_,?_,?_⟩
   · simp only [tm,bL];rw [x1,←hw];grind
   · simp only [tm,bL];rw [x2,←hw];grind
   · simp only [tm,bL];rw [x3,←hw];grind
 · by_cases c2:w≤2*j
   · refine⟨_,List.mem_cons_of_mem _ List.mem_cons_self,2*i,2*j - w,2*k,by omega,by omega,by omega,by omega,?_,?_,?_⟩
     · simp only [tm,bL];rw [x1,←hw];grind
     · simp only [tm,bL];rw [x2,←hw];grind
     · simp only [tm,bL];rw [x3,←hw];grind
   · by_cases c3:w≤2*k
     · refine⟨_,List.mem_cons_of_mem _ (List.mem_cons_of_mem _ List.mem_cons_self),2*i,2*j,2*k - w,by omega,by omega,by omega,by omega,?_,?_,?_⟩
       · simp only [tm,bL];rw [x1,←hw];grind
       · simp only [tm,bL];rw [x2,←hw];grind
       · simp only [tm,bL];rw [x3,←hw];grind
     · refine⟨_,List.mem_cons_of_mem _ (List.mem_cons_of_mem _ (List.mem_cons_of_mem _ List.mem_cons_self)),w - 2*k,w - 2*i,w - 2*j,by omega,by omega,by omega,by omega,?_,?_,?_⟩
       · simp only [tm,bL];rw [x1,←hw];grind
       · simp only [tm,bL];rw [x2,←hw];grind
       · simp only [tm,bL];rw [x3,←hw];grind
theorem aIp {p q:PN} (h:p∈qd4 q):p=(tm 2 q.1,bL q.1 q.2.1,bL q.2.2 q.1)∨p=(bL q.1 q.2.1,tm 2 q.2.1,bL q.2.1 q.2.2)∨p=(bL q.2.2 q.1,bL q.2.1 q.2.2,tm 2 q.2.2)∨p=(bL q.1 q.2.1,bL q.2.1 q.2.2,bL q.2.2 q.1):=by
 unfold qd4 at h
 simpa only [List.mem_cons,List.not_mem_nil,or_false] using h
theorem aEq {w:Int} {p q:PN} {P:P3} (hp:p∈qd4 q)(h:dH w p P):dH (w*4) (cL 2 q) (tm 4 P):=by
 obtain⟨a,b,c,ha,hb,hc,hw,x1,x2,x3⟩:=h
 rcases aIp hp with rfl | rfl | rfl | rfl
 · refine⟨4*a+2*b+2*c,2*b,2*c,by omega,by omega,by omega,by omega,?_,?_,?_⟩
   · simp only [tm,cL,bL] at x1 ⊢;rw [x1];grind
   · simp only [tm,cL,bL] at x2 ⊢;rw [x2];grind
   · simp only [tm,cL,bL] at x3 ⊢;rw [x3];grind
 · refine⟨2*a,2*a+4*b+2*c,2*c,by omega,by omega,by omega,by omega,?_,?_,?_⟩
   · simp only [tm,cL,bL] at x1 ⊢;rw [x1];grind
   · simp only [tm,cL,bL] at x2 ⊢;rw [x2];grind
   · simp only [tm,cL,bL] at x3 ⊢;rw [x3];grind
 · refine⟨2*a,2*b,2*a+2*b+4*c,by omega,by omega,by omega,by omega,?_,?_,?_⟩
   · simp only [tm,cL,bL] at x1 ⊢;rw [x1];grind
   · simp only [tm,cL,bL] at x2 ⊢;rw [x2];grind
   · simp only [tm,cL,bL] at x3 ⊢;rw [x3];grind
 · refine⟨2*a+2*c,2*a+2*b,2*b+2*c,by omega,by omega,by omega,by omega,?_,?_,?_⟩
   · simp only [tm,cL,bL] at x1 ⊢;rw [x1];grind
   · simp only [tm,cL,bL] at x2 ⊢;rw [x2];grind
   · simp only [tm,cL,bL] at x3 ⊢;rw [x3];grind
theorem lM {a b c:P3} {W:Int} (h1:ds a c≤W)(h2:ds b c≤W):ds (bL a b) (tm 2 c)≤2*2*W:=by
 have e:ds (bL a b) (tm 2 c)+ds a b=2*ds a c+2*ds b c:=by simp only [ds,dt,sb,bL,tm];grind
 have n:0≤ds a b:=by
   simp only [ds,dt,sb]
   have x1:=CapT.sq_int_nonneg (a.1 - b.1);have x2:=CapT.sq_int_nonneg (a.2.1 - b.2.1);have x3:=CapT.sq_int_nonneg (a.2.2 - b.2.2)
   omega
 omega
theorem aGw {a c:P3} {W:Int} (h1:ds a c≤W):ds (tm 2 a) (tm 2 c)≤2*2*W:=by rw [aNn];omega
theorem aSs {p q:PN} {c:P3} {W:Int} (h:p∈qd4 q)(h1:ds q.1 c≤W)(h2:ds q.2.1 c≤W)(h3:ds q.2.2 c≤W):ds p.1 (tm 2 c)≤2*2*W∧ds p.2.1 (tm 2 c)≤2*2*W∧ds p.2.2 (tm 2 c)≤2*2*W:=by
 rcases aIp h with rfl | rfl | rfl | rfl
 · exact⟨aGw h1,lM h1 h2,lM h3 h1⟩
 · exact⟨lM h1 h2,aGw h2,lM h2 h3⟩
 · exact⟨lM h3 h1,lM h2 h3,aGw h3⟩
 · exact⟨lM h1 h2,lM h2 h3,lM h3 h1⟩
theorem aN3 {m ml:ME} {q q':List Int} {d:Int} (hp:pans ml=(pans m).flatMap qd4)(h:(cM m q d).2=0)(h':(cM ml q' 0).2=0) :
   (cM ml q' 0).1.1≤2*(cM m q d).1.2∧2*(cM m q d).1.1≤(cM ml q' 0).1.2:=by
 obtain⟨hC,Q,mx,E,mn,S,V⟩:=gD h
 obtain⟨hC',Q',mx',E',mn',S',V'⟩:=gD h'
 have hb:=yC hC.v
 have hb':=yC hC'.v
 have hc:bd 256 (lK (oS m)):=by unfold bd at hb ⊢;omega
 have hc':bd 256 (lK (oS ml)):=by unfold bd at hb' ⊢;omega
 obtain⟨_,B1,_,W1,WB,hm⟩:=aC3 hC.v hc
 obtain⟨_,B1',_,W1',WB',hm'⟩:=aC3 hC'.v hc'
 have pl:∀e∈yQ ml q',∃p∈pans m,e.1∈qd4 p:=fun e he=>by
   have:=(List.of_mem_zip he).1
   rw [hp] at this
   exact List.mem_flatMap.1 this
 have lp:∀e∈yQ m q,∀p∈qd4 e.1,p∈pans ml:=fun e he p hpq=>by
   rw [hp]
   exact List.mem_flatMap.2 ⟨_,(List.of_mem_zip he).1,hpq⟩
 have hk:(1:Int)≤2∧(2:Int)≤128:=by omega
 constructor
 · have p:=aSr (k:=1) (k':=2) S' S (by omega) hk (fun e he w P hw hP=>by
     obtain⟨p,h1,h2⟩:=pl e he
     obtain⟨e'',he'',eq⟩:=aIk hC h1
     refine⟨p,?_,?_⟩
     · rw [aSq];exact aEq h2 hP
     · have:=S.hmn e'' he''
       rw [eq] at this;exact this)
   have b:=aA9 (k:=1) S' (by omega) (c:=tm 2 (lK (oS m))) (m:=2*2*bR m (lK (oS m))) (B:=2*(F9 m (lK (oS m))).1)
     (by
       unfold bd at hb
       unfold bd tm;simp only;omega)
     (fun e he=>by
       obtain⟨p,h1,h2⟩:=pl e he
       obtain⟨h3,h4,h5⟩:=hm p h1
       simp only [aSq]
       exact aSs h2 h3 h4 h5)
     (by omega)
     (by
       have:=Int.mul_le_mul_of_nonneg_left WB (show(0:Int)≤4 by omega)
       grind)
     (by omega)
   have r:=aNj (f:=1) (g:=2) V' V (by omega) (by omega) S'.mx1 S'.E1 S.mn1 p (by
     refine⟨?_,?_⟩
     · have:=b.1;grind
     · have:=b.2;grind)
   omega
 · have p:=aVl (k:=2) (k':=1) S S' hk (by omega) (fun e he w P hw hP=>by
     obtain⟨p,h1,h2⟩:=aJm hP
     obtain⟨e'',he'',eq⟩:=aIk hC' (lp e he p h1)
     refine⟨p,?_,?_⟩
     · rw [aVn];exact h2
     · have:=S'.hmn e'' he''
       rw [eq] at this;exact this)
   have b:=aA9 (k:=2) S hk (c:=lK (oS ml)) (m:=bR ml (lK (oS ml))) (B:=(F9 ml (lK (oS ml))).1) (by unfold bd at hb' ⊢;omega)
     (fun e he=>by
       have g1:=hm' _ (lp e he _ (show(tm 2 e.1.1,bL e.1.1 e.1.2.1,bL e.1.2.2 e.1.1)∈qd4 e.1 from List.mem_cons_self))
       have g2:=hm' _ (lp e he _ (show(bL e.1.1 e.1.2.1,tm 2 e.1.2.1,bL e.1.2.1 e.1.2.2)∈qd4 e.1 from List.mem_cons_of_mem _ List.mem_cons_self))
       have g3:=hm' _ (lp e he _ (show(bL e.1.2.2 e.1.1,bL e.1.2.1 e.1.2.2,tm 2 e.1.2.2)∈qd4 e.1 from List.mem_cons_of_mem _ (List.mem_cons_of_mem _ List.mem_cons_self)))
       exact⟨g1.1,g2.2.1,g3.2.2⟩) W1' WB' B1'
   have r:=aNj (f:=2) (g:=1) V V' (by omega) (by omega) S.mx1 S.E1 S'.mn1 p (by omega)
   omega
theorem aVs {m:ME} {d:Int} (h:(zB m d).2=0):zB m d=cM m (F39 m) d:=by
 unfold zB at h ⊢
 cases hv:((cZ (m.1,m.2):Int) != 0) with
 | true=>simp only [hv,cond_true] at h;rw [h] at hv;cases hv
 | false=>rfl
theorem aJn (m:ME)(t:List Int×Int):F4 m t=true:=by
 unfold F4
 simp only [yV,yW,aSn]
 cases h1:((cM (m.1,m.2) t.1 t.2).2:Int) != 0 with
 | true=>simp
 | false =>
   cases h2:((kQ (m.1,m.2)).2:Int) != 0 with
   | true=>simp
   | false =>
     cases h3:((zB ((kQ (m.1,m.2)).1.1,(kQ (m.1,m.2)).1.2) 0).2:Int) != 0 with
     | true=>simp
     | false =>
       have g1:(cM m t.1 t.2).2=0:=bne_eq_false_iff_eq.1 h1
       have g2:(kQ m).2=0:=bne_eq_false_iff_eq.1 h2
       have g3:(zB (kQ m).1 0).2=0:=bne_eq_false_iff_eq.1 h3
       have hv:=(gD g1).1.v
       obtain⟨v2,hp⟩:=aN0 hv g2
       have e:=aVs g3
       rw [e] at g3
       obtain⟨z1,z2⟩:=aVo (k:=2) ⟨by omega,by omega⟩ g1
       have hm:=aN3 hp g1 g3
       rw [show jE (cM (m.1,m.2) t.1 t.2).1 2=_ from z1,show zB ((kQ (m.1,m.2)).1.1,(kQ (m.1,m.2)).1.2) 0=_ from e,aSo (aSp g3) z2 hm.1 hm.2]
       simp
end Go.Proofs.Ytaeagjnpobdglaa
