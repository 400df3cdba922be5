/-
  Parts of the proofs of the laws: the executor, what functions of the program compute, and that it is what the statements ask. No premise.
-/
import Derived.Test.YtaeagjnpobdglaaGreatVPna6
import Derived.ProofKit
import Derived.OpenShut
set_option linter.unusedVariables false
set_option linter.unusedSimpArgs false
set_option maxHeartbeats 4000000
open Int (toNat)
namespace Go.Proofs.YtaeagjnpobdglaaGreat
open Go.Proofs Go.Aw Go.RowKit
set_option maxRecDepth 100000
theorem jZ {α:Type} {f g:α->Int}:∀{l:List α},(∀c∈l,f c<=g c)->(l.map f).sum<=(l.map g).sum
 | [],_=>Int.le_refl _
 | c::l,h=>by
   have h1:=h c List.mem_cons_self
   have h2:=jZ (l:=l) (fun x hx=>h x (List.mem_cons_of_mem _ hx))
   simp only [List.map_cons,List.sum_cons];omega
theorem eW {α:Type} (a:Int)(f:α->Int):∀l:List α,(l.map fun c=>a*f c).sum=a*(l.map f).sum
 | []=>by simp
 | c::l=>by simp only [List.map_cons,List.sum_cons];rw [eW a f l,Int.mul_add]
theorem pI {α:Type} (a:Int):∀l:List α,(l.map fun _=>a).sum=(l.length:Int)*a
 | []=>by simp
 | c::l=>by simp only [List.map_cons,List.sum_cons,List.length_cons];rw [pI a l,show((l.length+1:Nat):Int)=(l.length:Int)+1 by omega,Int.add_mul];omega
theorem bAh {v:Int×Int} {n:Int} (hn:1<=n):n*(avg v n).1<=v.1:=Int.mul_ediv_self_le (by omega)
theorem aTx {v:Int×Int} {n:Int} (hn:1<=n):v.2<=n*(avg v n).2:=by
 have:=Int.mul_ediv_self_le (x:=-v.2) (k:=n) (by omega)
 show v.2<=n*-(-v.2 / n)
 rw [Int.mul_neg];omega
theorem iG (d:Int):1<=sc d*sc d:=by
 rcases qN d with h | h | h | h<;>rw [h]<;>decide
theorem bAi (p q:PN)(d:Int):sc d*sc d*(iK p q d).1<=((aR d.toNat p).map (bLo d q)).sum:=by
 unfold iK
 refine Int.le_trans (bAh (iG d)) ?_
 rw [vT];simp only [Int.zero_add];exact Int.le_refl _
theorem aTy (p q:PN)(d:Int):((aR d.toNat p).map (sI (bY p d) d q)).sum<=sc d*sc d*(iK p q d).2:=by
 unfold iK
 refine Int.le_trans ?_ (aTx (iG d))
 rw [vT];simp only [Int.zero_add];exact Int.le_refl _
theorem bEi {d:Int} {L:List (PN×Int)} (hL:∀e∈L,vp e.1=0/\0<=e.2)(p:PN):sc d*sc d*(L.map fun e=>e.2*(iK e.1 (lN (sc d) p) d).1).sum<=PLs d L p:=by
 unfold PLs
 rw [←eW]
 refine jZ (fun e he=>?_)
 rw [eW]
 have:=Int.mul_le_mul_of_nonneg_left (bAi e.1 (lN (sc d) p) d) (hL e he).2
 have e1:sc d*sc d*(e.2*(iK e.1 (lN (sc d) p) d).1)=e.2*(sc d*sc d*(iK e.1 (lN (sc d) p) d).1):=by grind
 rw [e1];exact this
theorem aTz {p q b:PN} {d:Int} {c:PN} (hp:vp p=0)(hq:vp q=0)(hd:0<=d/\d<=2)(hc:c∈aR d.toNat p)(hb:b∈aR d.toNat q):sI (bY p d) d b c<=sI (bY p d) d (lN (sc d) q) c:=by
 have hn:=aTu (a:=c) (gH hq).1 (d:=d) (by omega) hb
 have hN:1<=NN (sc d)/\NN (sc d)<=288230376151711744:=by
   have:d=0\/d=1\/d=2:=by omega
   rcases this with rfl | rfl | rfl<;>decide
 unfold sI
 by_cases h1:0 < uL c (lN (sc d) q)
 · rw [if_pos h1,if_pos (show 0 < uL c b by omega)]
   have hm:(of1 (sc d) (uL c b)).2<=(of1 (sc d) (uL c (lN (sc d) q))).2:=by
     unfold of1
     rw [if_neg (by omega),if_neg (by omega)]
     exact aIz hN (by omega) hn
   split<;>split<;>omega
 · rw [if_neg h1]
   split
   · split<;>omega
   · omega
theorem bAj {d:Int} (hd:0<=d/\d<=2) {L:List (PN×Int)} (hL:∀e∈L,vp e.1=0/\0<=e.2):aD4 d L<=(sc d*sc d)*(sc d*sc d)*(L.map fun e'=>e'.2*(L.map fun e=>e.2*(iK e.1 (lN (sc d) e'.1) d).2).sum).sum:=by
 unfold aD4
 rw [←eW]
 refine jZ (fun e' he'=>?_)
 have key:∀b∈aR d.toNat e'.1,e'.2*(L.map fun e=>((aR d.toNat e.1).map fun c=>e.2*sI (bY e.1 d) d b c).sum).sum<=e'.2*(sc d*sc d*(L.map fun e=>e.2*(iK e.1 (lN (sc d) e'.1) d).2).sum):=by
   intro b hb
   refine Int.mul_le_mul_of_nonneg_left ?_ (hL e' he').2
   rw [←eW]
   refine jZ (fun e he=>?_)
   rw [eW]
   have h1:=jZ (l:=aR d.toNat e.1) (f:=sI (bY e.1 d) d b) (g:=sI (bY e.1 d) d (lN (sc d) e'.1)) (fun c hc=>aTz (hL e he).1 (hL e' he').1 hd hc hb)
   have h2:=Int.le_trans h1 (aTy e.1 (lN (sc d) e'.1) d)
   have h3:=Int.mul_le_mul_of_nonneg_left h2 (hL e he).2
   have e1:sc d*sc d*(e.2*(iK e.1 (lN (sc d) e'.1) d).2)=e.2*(sc d*sc d*(iK e.1 (lN (sc d) e'.1) d).2):=by grind
   rw [e1];exact h3
 refine Int.le_trans (jZ key) ?_
 rw [pI,mV (by omega) e'.1]
 exact Int.le_of_eq (by grind)
theorem bAk {d:Int} (hd:0<=d/\d<=2) {L:List (PN×Int)} (hL:∀e∈L,vp e.1=0/\0<=e.2):aD4 d L<=(sc d*sc d)*(sc d*sc d)*(L.map fun e'=>(L.map fun e=>e.2*e'.2*(aGi e.1 e'.1 d).1.2).sum).sum:=by
 unfold aD4
 rw [←eW]
 refine jZ (fun e' he'=>?_)
 -- exchange the jC over b and e
 have ex:((aR d.toNat e'.1).map fun b=>e'.2*(L.map fun e=>((aR d.toNat e.1).map fun c=>e.2*sI (bY e.1 d) d b c).sum).sum).sum=(L.map fun e=>((aR d.toNat e'.1).map fun b=>e'.2*((aR d.toNat e.1).map fun c=>e.2*sI (bY e.1 d) d b c).sum).sum).sum:=by
   have sw:∀(A:List PN) (B:List (PN×Int)) (f:PN->PN×Int->Int),(A.map fun a=>(B.map fun b=>f a b).sum).sum=(B.map fun b=>(A.map fun a=>f a b).sum).sum:=by
     intro A B f
     induction A with
     | nil=>simp only [List.map_nil,List.sum_nil];rw [pI];omega
     | cons a A ih =>
       simp only [List.map_cons,List.sum_cons,ih]
       clear ih
       induction B with
       | nil=>simp
       | cons b B ih2=>simp only [List.map_cons,List.sum_cons];omega
   have e2:((aR d.toNat e'.1).map fun b=>e'.2*(L.map fun e=>((aR d.toNat e.1).map fun c=>e.2*sI (bY e.1 d) d b c).sum).sum)=((aR d.toNat e'.1).map fun b=>(L.map fun e=>e'.2*((aR d.toNat e.1).map fun c=>e.2*sI (bY e.1 d) d b c).sum).sum):=by
     refine List.map_congr_left (fun b _=>?_)
     rw [eW]
   rw [e2];exact sw _ _ _
 rw [ex,←eW]
 refine jZ (fun e he=>?_)
 have hpk:pk e.1 e'.1 d=0:=by unfold pk;rw [if_pos (hL e he).1,if_pos (hL e' he').1,if_pos hd]
 have hm:(aGi e.1 e'.1 d).1.2=(avg (jC (tR e.1 e'.1 d) (0,0)) (sc d*sc d)).2:=by unfold aGi;rw [if_pos hpk]
 have h1:((aR d.toNat e'.1).map fun b=>e'.2*((aR d.toNat e.1).map fun c=>e.2*sI (bY e.1 d) d b c).sum).sum<=e.2*e'.2*(sc d*sc d*((aR d.toNat e'.1).map fun b=>(iK e.1 b d).2).sum):=by
   rw [←eW,←eW]
   refine jZ (fun b hb=>?_)
   rw [eW]
   have h2:=aTy e.1 b d
   have h3:=Int.mul_le_mul_of_nonneg_left h2 (Int.mul_nonneg (hL e he).2 (hL e' he').2)
   have e1:e'.2*(e.2*((aR d.toNat e.1).map fun c=>sI (bY e.1 d) d b c).sum)=e.2*e'.2*((aR d.toNat e.1).map (sI (bY e.1 d) d b)).sum:=by grind
   rw [e1];exact h3
 refine Int.le_trans h1 ?_
 have h4:=aTx (v:=jC (tR e.1 e'.1 d) (0,0)) (iG d)
 rw [rM] at h4
 have e3:(((0:Int),(0:Int)).2+((tR e.1 e'.1 d).map (·.2)).sum)=((aR d.toNat e'.1).map fun b=>(iK e.1 b d).2).sum:=by
   unfold tR
   rw [List.map_map]
   simp only [Int.zero_add]
   rfl
 simp only at h4 e3
 rw [e3] at h4
 rw [hm,rM]
 have h5:=Int.mul_le_mul_of_nonneg_left h4 (show 0<=sc d*sc d by have:=iG d;omega)
 have h6:=Int.mul_le_mul_of_nonneg_left h5 (Int.mul_nonneg (hL e he).2 (hL e' he').2)
 exact Int.le_trans h6 (Int.le_of_eq (by grind))
structure Sys (L:List (PN×Int)) (d Q mx E mn:Int):Prop where
 hd:0<=d/\d<=2
 hL:∀e∈L,vp e.1=0/\0<=e.2
 hQ:nK L=Q
 Q1:1<=Q
 E1:1<=E
 mx1:1<=mx
 mn1:1<=mn
 hmx:∀e∈L,(L.map fun e'=>e'.2*(iK e'.1 (lN (sc d) e.1) d).2).sum<=mx
 hmn:∀e∈L,mn<=(L.map fun e'=>e'.2*(iK e'.1 (lN (sc d) e.1) d).1).sum
 hE:(L.map fun e'=>(L.map fun e=>e.2*e'.2*(aGi e.1 e'.1 d).1.2).sum).sum<=E
theorem aN5 {L:List (PN×Int)} {d Q mx E mn:Int} (S:Sys L d Q mx E mn):aD4 d L<=(sc d*sc d)*(sc d*sc d)*(Q*mx):=by
 refine Int.le_trans (bAj S.hd S.hL) (Int.mul_le_mul_of_nonneg_left ?_ (Int.mul_nonneg (by have:=iG d;omega) (by have:=iG d;omega)))
 have h1:=jZ (l:=L) (f:=fun e'=>e'.2*(L.map fun e=>e.2*(iK e.1 (lN (sc d) e'.1) d).2).sum) (g:=fun e'=>mx*e'.2) (fun e' he'=>by
   have:=Int.mul_le_mul_of_nonneg_left (S.hmx e' he') (S.hL e' he').2
   exact Int.le_trans this (Int.le_of_eq (Int.mul_comm _ _)))
 rw [eW] at h1
 have:(L.map (·.2)).sum=Q:=S.hQ
 rw [this] at h1
 exact Int.le_trans h1 (Int.le_of_eq (Int.mul_comm _ _))
theorem aN6 {L:List (PN×Int)} {d Q mx E mn:Int} (S:Sys L d Q mx E mn):aD4 d L<=(sc d*sc d)*(sc d*sc d)*E :=
 Int.le_trans (bAk S.hd S.hL) (Int.mul_le_mul_of_nonneg_left S.hE (Int.mul_nonneg (by have:=iG d;omega) (by have:=iG d;omega)))
theorem eF {a b k:Int} (hk:1<=k)(h:k*a<=k*b):a<=b:=Int.le_of_mul_le_mul_left h (by omega)
theorem aT0 {L L':List (PN×Int)} {d Q mx E mn d' Q' mx' E' mn':Int} (S:Sys L d Q mx E mn)(S':Sys L' d' Q' mx' E' mn')
   (hV:∀e∈L,mn'<=(L'.map fun e'=>e'.2*(iK e'.1 (lN (sc d') e.1) d').1).sum):Q*Q*mn'<=Q'*E/\Q*mn'<=Q'*mx:=by
 have hV0:∀e∈L,sc d'*sc d'*mn'<=PLs d' L' e.1:=fun e he =>
   Int.le_trans (Int.mul_le_mul_of_nonneg_left (hV e he) (by have:=iG d';omega)) (bEi S'.hL e.1)
 have a:=bEg S.hd S'.hd S.hL S'.hL hV0 (aN6 S)
 have b:=bEg S.hd S'.hd S.hL S'.hL hV0 (aN5 S)
 rw [S.hQ,S'.hQ] at a b
 have n1:=iG d;have n2:=iG d'
 generalize sc d*sc d=n at *
 generalize sc d'*sc d'=n' at *
 have nn:1<=n*n:=by have:=Int.mul_le_mul (a:=1) (b:=1) (c:=n) (d:=n) n1 n1 (by omega) (by omega);omega
 have nnn:1<=n*n*n':=by have:=Int.mul_le_mul (a:=1) (b:=1) (c:=n*n) (d:=n') nn n2 (by omega) (by omega);omega
 refine⟨eF nnn ?_,eF S.Q1 (eF nnn ?_)⟩
 · have e1:n*n*n'*(Q*Q*mn')=n*Q*(n*Q)*(n'*mn'):=by grind
   have e2:n*n*n'*(Q'*E)=n'*Q'*(n*n*E):=by grind
   rw [e1,e2];exact a
 · have e1:n*n*n'*(Q*(Q*mn'))=n*Q*(n*Q)*(n'*mn'):=by grind
   have e2:n*n*n'*(Q*(Q'*mx))=n'*Q'*(n*n*(Q*mx)):=by grind
   rw [e1,e2];exact b
theorem aT1 {L:List (PN×Int)} {d Q mx E mn:Int} (S:Sys L d Q mx E mn) {c:P3} {m B:Int} (hc:bd 256 c)(hm:∀e∈L,ds e.1.1 c<=m/\ds e.1.2.1 c<=m/\ds e.1.2.2 c<=m)(hm1:1<=m)(hB:m*1099511627776<=B*B)(hB0:1<=B):Q*Q*1099511627776<=B*E/\Q*1099511627776<=B*mx:=by
 have a:=bEh S.hd S.hL hc hm hm1 hB hB0 (aN6 S)
 have b:=bEh S.hd S.hL hc hm hm1 hB hB0 (aN5 S)
 rw [S.hQ] at a b
 have n1:=iG d
 generalize sc d*sc d=n at *
 have nn:1<=n*n:=by have:=Int.mul_le_mul (a:=1) (b:=1) (c:=n) (d:=n) n1 n1 (by omega) (by omega);omega
 refine⟨eF nn ?_,eF S.Q1 (eF nn ?_)⟩
 · have e1:n*n*(Q*Q*1099511627776)=n*Q*(n*Q)*1099511627776:=by grind
   have e2:n*n*(B*E)=B*(n*n*E):=by grind
   rw [e1,e2];exact a
 · have e1:n*n*(Q*(Q*1099511627776))=n*Q*(n*Q)*1099511627776:=by grind
   have e2:n*n*(Q*(B*mx))=B*(n*n*(Q*mx)):=by grind
   rw [e1,e2];exact b
theorem aT2 {x n:Int} (h1:-1099511627776<=mI x n)(h2:mI x n<=1099511627776):mI x n=x*n:=by
 unfold mI at *
 split at h1<;>rename_i a
 · rw [if_pos a] at h2;omega
 · rw [if_neg a] at h2 ⊢
   split at h1<;>rename_i b
   · omega
   · rw [if_neg b]
theorem aN7 {a:Int×Int} {n:Int} (ha:okP a)(hn:0<=n/\n<=10000)(h:(oA a n).2=0):(oA a n).1=(a.1*n,a.2*n):=by
 rw [aGf (aGw ha) (by omega)] at h ⊢
 rcases rL (scl a n).1 (scl a n).2 with⟨e,v⟩ | e
 · rw [e]
   have hs:scl a n=(mI a.1 n,mI a.2 n):=by unfold scl;rw [if_neg (by omega)]
   rw [hs] at v ⊢
   unfold vs at v
   simp only at v ⊢
   rw [aT2 v.1 (by omega),aT2 (x:=a.2) (by omega) v.2.2]
 · rw [e] at h;exact absurd h (by decide)
theorem aN8 {l:List ((Int×Int)×Int)} (hl:∀c∈l,okP c.1/\0<=c.2/\c.2<=10000)(h:(eA l).2=0):(eA l).1=((l.map fun c=>c.1.1*c.2).sum,(l.map fun c=>c.1.2*c.2).sum):=by
 unfold eA at h ⊢
 cases hs:nL sK l [] with
 | inr r=>rw [hs] at h;exact absurd h (rN hs)
 | inl m =>
   rw [hs] at h
   simp only [pR] at h ⊢
   obtain⟨e,hv⟩:=aRi h
   rw [e]
   obtain⟨e2,h0⟩:=lC hs
   rw [List.nil_append] at e2
   rw [rM,e2]
   simp only [Int.zero_add,List.map_map]
   refine Prod.ext ?_ ?_
   · refine congrArg List.sum (List.map_congr_left fun c hc=>?_)
     show(oA c.1 c.2).1.1=_
     rw [aN7 (hl c hc).1 (hl c hc).2 (h0 c hc)]
   · refine congrArg List.sum (List.map_congr_left fun c hc=>?_)
     show(oA c.1 c.2).1.2=_
     rw [aN7 (hl c hc).1 (hl c hc).2 (h0 c hc)]
theorem aWg {T:TB} {q:List Int} (hT:∀r∈T,r.length=q.length/\∀s∈r,okP s)(hq:okC q)(h:(pS T q).2=0) :
   (pS T q).1=T.map fun r=>(((r.zip q).map fun c=>c.1.1*c.2).sum,((r.zip q).map fun c=>c.1.2*c.2).sum):=by
 unfold pS at h ⊢
 cases hs:nL (fun r:List (Int×Int)=>eA (r.zip q)) T [] with
 | inr r=>rw [hs] at h;exact absurd h (rN hs)
 | inl m =>
   simp only [pR]
   obtain⟨e,h0⟩:=lC hs
   rw [List.nil_append] at e
   subst e
   refine List.map_congr_left fun r hr=>?_
   obtain⟨hl,hP⟩:=hT r hr
   exact aN8 (l:=r.zip q) (fun c hc=>⟨hP _ (List.of_mem_zip hc).1,by have:=hq _ (List.of_mem_zip hc).2;omega⟩) (h0 r hr)
theorem aT3:∀(l:List (Int×Int))(v:Int),v<=mxF l v/\∀s∈l,s.2<=mxF l v
 | [],v=>⟨Int.le_refl _,fun s hs=>by cases hs⟩
 | a::l,v=>by
   have ih:=aT3 l (iI v a.2)
   have hb:v<=iI v a.2/\a.2<=iI v a.2:=by unfold iI;split<;>omega
   refine⟨Int.le_trans hb.1 ih.1,fun s hs=>?_⟩
   rcases List.mem_cons.1 hs with rfl | hs
   · exact Int.le_trans hb.2 ih.1
   · exact ih.2 s hs
theorem aT4:∀(l:List (Int×Int))(v:Int),mnF l v<=v/\∀s∈l,mnF l v<=s.1
 | [],v=>⟨Int.le_refl _,fun s hs=>by cases hs⟩
 | a::l,v=>by
   have ih:=aT4 l (nU v a.1)
   have hb:nU v a.1<=v/\nU v a.1<=a.1:=by unfold nU;split<;>omega
   refine⟨Int.le_trans ih.1 hb.1,fun s hs=>?_⟩
   rcases List.mem_cons.1 hs with rfl | hs
   · exact Int.le_trans ih.1 hb.2
   · exact ih.2 s hs
theorem aN9:∀(l:List (Int×Int))(v:Int),1<=v->(∀s∈l,1<=s.1)->1<=mnF l v
 | [],v,h,_=>h
 | a::l,v,h,h2=>aN9 l (nU v a.1) (by have:=h2 a List.mem_cons_self;unfold nU;split<;>omega) (fun s hs=>h2 s (List.mem_cons_of_mem _ hs))
theorem aT5:∀(l:List (Int×Int))(v B:Int),v<=B->(∀s∈l,s.2<=B)->mxF l v<=B
 | [],v,B,h,_=>h
 | a::l,v,B,h,h2=>aT5 l (iI v a.2) B (by have:=h2 a List.mem_cons_self;unfold iI;split<;>omega) (fun s hs=>h2 s (List.mem_cons_of_mem _ hs))
theorem aT6 {n:Int} (h:(F97 n).2=0):(F97 n).1=n/\n<=1099511627776:=by
 unfold F97 at h ⊢
 by_cases c:n > 1099511627776
 · rw [bT c] at h;exact absurd h (show ¬((4:Int)=0) by decide)
 · rw [cJ c];exact⟨rfl,by omega⟩
abbrev chg (m:ME)(q:List Int):List (PN×Int):=(aU m).zip q
theorem aWh {m:ME} {q:List Int} (hC:ChOK m q):nK (chg m q)=q.sum:=by
 unfold nK chg
 have hpl:(aU m).length=m.2.length:=List.length_map _
 rw [List.map_snd_zip (by have:=hC.len;omega)]
theorem bAl {m:ME} {q:List Int} (hC:ChOK m q):∀e∈chg m q,vp e.1=0/\0<=e.2:=by
 intro e he
 have h1:=List.of_mem_zip he
 refine⟨?_,(hC.ok _ h1.2).1⟩
 obtain⟨c,hc,e1⟩:=List.mem_map.1 h1.1
 rw [←e1]
 exact aGv hC.v c hc
structure BV (x:Int×Int) (Q mx E mn B:Int):Prop where
 lo:∃b t,x.1=iI b t/\0<=b/\0<=t/\b*mx<=Q*1099511627776/\t*E<=Q*Q*1099511627776
 hi:∃a,x.2=nU a B/\Q*1099511627776<=a*mn/\a<=1099511627776
theorem yP {m:ME} {q:List Int} {d:Int} (h:(bW m q d).2=0):ChOK m q/\∃Q mx E mn,Sys (chg m q) d Q mx E mn/\BV (bW m q d).1 Q mx E mn (tV m (yM (bxV m))).1:=by
 unfold bW at h ⊢
 cases hc:((gI (m.1,m.2) q d:Int) != 0) with
 | true=>simp only [hc,cond_true] at h;rw [h] at hc;cases hc
 | false =>
   obtain⟨hv,hd⟩:=aI8 (m:=m) hc
   have hC:ChOK m q:=by have hc2:((gI m q d:Int) != 0)=false:=hc;rw [zJ] at hc2;exact(gO (bne_eq_false_iff_eq.1 hc2)).1
   refine⟨hC,?_⟩
   have hpf:=aLv (m:=m) hv hd
   simp only [hc,cond_false] at h ⊢
   have hpf':F33 (m.1,m.2) d=_:=hpf
   rw [hpf'] at h ⊢
   rw [show((((((m.1,m.2),(bU m d).1,(cD m d).1,(tV m (yM (bxV m))).1),0):TBL×Int).2:Int) != 0)=false from rfl,cond_false] at h ⊢
   have eB:(bU m d).1=(aU m).map (gB m d):=by rw [aI4 hv hd];rfl
   have eM:(cD m d).1=MT m d:=by rw [aI5 hv hd];rfl
   simp only [eB,eM] at h ⊢
   have hn:=hC.n;have hl:=hC.len;have hs1:=hC.pos;have hle:=hC.le
   have hpl:(aU m).length=m.2.length:=List.length_map _
   have hrow:∀r∈(aU m).map (gB m d),r.length=q.length/\∀s∈r,okP s:=fun r hr=>by
     obtain⟨p,hp,rfl⟩:=List.mem_map.1 hr
     unfold gB
     refine⟨by rw [List.length_map];omega,fun s hsm=>?_⟩
     obtain⟨p',hp',rfl⟩:=List.mem_map.1 hsm
     exact(kN (mH hC.v hd hp' hp)).2
   have ep:=aNq (T:=(aU m).map (gB m d)) (q:=q) (fun r hr=>by rw [(hrow r hr).1];exact Nat.le_refl _) (by omega)
   have ee:=aZy (m:=m) (q:=q) (d:=d) (by omega) (by omega)
   unfold jG at h ⊢
   simp only [ep,ee] at h ⊢
   generalize hB:(tV m (yM (bxV m))).1=B at *
   cases hP:((((pS ((aU m).map (gB m d)) q).2:Int)) != 0) with
   | true=>simp only [hP,cond_true] at h;rw [h] at hP;cases hP
   | false =>
     simp only [hP,cond_false] at h ⊢
     have hP0:=bne_eq_false_iff_eq.1 hP
     have pv:=aWg hrow hC.ok hP0
     have pp:=aGx hrow hC.ok hP0
     cases hb:(((iA (pS ((aU m).map (gB m d)) q).1 q).2:Int) != 0) with
     | true=>simp only [hb,cond_true] at h;rw [h] at hb;cases hb
     | false =>
       simp only [hb,cond_false] at h ⊢
       cases hE:(((eA (((aU m).zip q).flatMap (eC m q d))).2:Int) != 0) with
       | true=>simp only [hE,cond_true] at h;rw [h] at hE;cases hE
       | false =>
         simp only [hE,cond_false] at h ⊢
         have hE0:=bne_eq_false_iff_eq.1 hE
         have hzq:∀e∈(aU m).zip q,0<=e.2/\e.2<=100:=fun e he=>hC.ok _ (List.of_mem_zip he).2
         have hWq:∀c∈(aU m).zip q,∀e∈(aU m).zip q,W (c.2*e.2)=c.2*e.2/\0<=c.2*e.2/\c.2*e.2<=10000:=fun c hc e he=>by
           have a:=hzq c hc;have b:=hzq e he
           have c1:=Int.mul_nonneg a.1 b.1
           have c2:=Int.mul_le_mul (a:=c.2) (b:=e.2) (c:=100) (d:=100) a.2 b.2 b.1 (by omega)
           exact⟨aE (by omega) (by omega),c1,by omega⟩
         have hel:∀c∈((aU m).zip q).flatMap (eC m q d),okP c.1/\0<=c.2/\c.2<=10000:=fun c hc=>by
           obtain⟨e,he,hc⟩:=List.mem_flatMap.1 hc
           obtain⟨e',he',rfl⟩:=List.mem_map.1 hc
           have:=hWq e he e' he'
           exact⟨(pC (mH hC.v hd (List.of_mem_zip he).1 (List.of_mem_zip he').1)).2,by simp only;rw [this.1];exact this.2.1,by simp only;rw [this.1];exact this.2.2⟩
         have ev:=aN8 hel hE0
         have epos:=aLu hC hd hE0
         cases ht:(((pN (eA (((aU m).zip q).flatMap (eC m q d))).1 q).2:Int) != 0) with
         | true=>simp only [ht,cond_true] at h;rw [h] at ht;cases ht
         | false =>
           simp only [ht,cond_false] at h ⊢
           cases ha:(((iF (pS ((aU m).map (gB m d)) q).1 q).2:Int) != 0) with
           | true=>simp only [ha,cond_true] at h;rw [h] at ha;cases ha
           | false =>
             simp only [cond_false]
             have tq:=aS1 hC.ok hC.pos (by omega)
             have o1:=aC3 hC.ok hC.pos (by omega)
             have hb0:=bne_eq_false_iff_eq.1 hb
             have ht0:=bne_eq_false_iff_eq.1 ht
             have ha0:=bne_eq_false_iff_eq.1 ha
             rw [aNu] at hb0 ⊢
             rw [aNv] at ha0 ⊢
             unfold pN at ht0 ⊢
             rw [tq.1] at hb0 ha0 ht0 ⊢
             rw [tq.1] at o1
             rw [o1] at ht0 ⊢
             simp only at ht0 ⊢
             generalize hl2:(pS ((aU m).map (gB m d)) q).1=l at *
             have l1:1<=l.length:=by rw [pp.1,List.length_map];omega
             have lv:∀s∈l,1<=s.1/\s.1<=s.2/\s.2<=1099511627776:=fun s hs=>by
               have:=pp.2 s hs
               unfold vs at this;omega
             have l0m:l.getD (toNat 0) default∈l:=by
               rw [show toNat 0=0 from rfl,eZ,List.getElem?_eq_getElem (show 0 < l.length by omega)]
               exact List.getElem_mem (show 0 < l.length by omega)
             have hmx:=aT3 l (l.getD (toNat 0) default).2
             have hmn:=aT4 l (l.getD (toNat 0) default).1
             have mn1:=aN9 l (l.getD (toNat 0) default).1 (lv _ l0m).1 (fun s hs=>(lv s hs).1)
             have mxb:=aT5 l (l.getD (toNat 0) default).2 1099511627776 (lv _ l0m).2.2 (fun s hs=>(lv s hs).2.2)
             have mx1:1<=mxF l (l.getD (toNat 0) default).2:=by have:=lv _ l0m;omega
             have mnb:mnF l (l.getD (toNat 0) default).1<=1099511627776:=by have:=lv _ l0m;omega
             generalize mxF l (l.getD (toNat 0) default).2=mx at *
             generalize mnF l (l.getD (toNat 0) default).1=mn at *
             have hEE:(eA (((aU m).zip q).flatMap (eC m q d))).1.2=((((aU m).zip q).flatMap (eC m q d)).map fun c=>c.1.2*c.2).sum:=by rw [ev]
             generalize hEg:(eA (((aU m).zip q).flatMap (eC m q d))).1.2=E at *
             have hvE:E<=1099511627776:=by have:=epos.2;unfold vs at this;omega
             refine⟨q.sum,mx,E,mn,⟨hd,bAl hC,aWh hC,hC.pos,epos.1,mx1,mn1,?_,?_,?_⟩,⟨?_,?_⟩⟩
             · intro e he
               have hx2:=hmx.2
               rw [pv] at hx2
               have hm:=hx2 _ (List.mem_map.2 ⟨gB m d e.1,List.mem_map.2 ⟨e.1,(List.of_mem_zip he).1,rfl⟩,rfl⟩)
               refine Int.le_trans (Int.le_of_eq ?_) hm
               simp only
               unfold gB
               rw [aNr,List.map_map]
               refine congrArg List.sum (List.map_congr_left fun e' he'=>?_)
               have:=xU (mH hC.v hd (List.of_mem_zip he').1 (List.of_mem_zip he).1)
               simp only [Function.comp]
               rw [this];exact Int.mul_comm _ _
             · intro e he
               have hx2:=hmn.2
               rw [pv] at hx2
               have hm:=hx2 _ (List.mem_map.2 ⟨gB m d e.1,List.mem_map.2 ⟨e.1,(List.of_mem_zip he).1,rfl⟩,rfl⟩)
               refine Int.le_trans hm (Int.le_of_eq ?_)
               simp only
               unfold gB
               rw [aNr,List.map_map]
               refine congrArg List.sum (List.map_congr_left fun e' he'=>?_)
               have:=xU (mH hC.v hd (List.of_mem_zip he').1 (List.of_mem_zip he).1)
               simp only [Function.comp]
               rw [this];exact Int.mul_comm _ _
             · rw [hEE]
               refine Int.le_of_eq ?_
               -- sum over e' of sum over e against sum over c of sum over e
               have fl:∀(A:List (PN×Int)) (g:PN×Int->List ((Int×Int)×Int)),((A.flatMap g).map fun c=>c.1.2*c.2).sum=(A.map fun a=>((g a).map fun c=>c.1.2*c.2).sum).sum:=by
                 intro A g
                 induction A with
                 | nil=>rfl
                 | cons a A ih=>rw [List.flatMap_cons,List.map_append,List.sum_append,ih,List.map_cons,List.sum_cons]
               have sw:∀(A B:List (PN×Int)) (f:PN×Int->PN×Int->Int),(A.map fun a=>(B.map fun b=>f a b).sum).sum=(B.map fun b=>(A.map fun a=>f a b).sum).sum:=by
                 intro A B f
                 induction A with
                 | nil=>simp only [List.map_nil,List.sum_nil];rw [pI];omega
                 | cons a A ih =>
                   simp only [List.map_cons,List.sum_cons,ih]
                   clear ih
                   induction B with
                   | nil=>simp
                   | cons b B ih2=>simp only [List.map_cons,List.sum_cons];omega
               rw [fl,sw]
               refine congrArg List.sum (List.map_congr_left fun c hc=>?_)
               unfold eC
               rw [List.map_map]
               refine congrArg List.sum (List.map_congr_left fun e he=>?_)
               simp only [Function.comp]
               rw [(hWq c hc e he).1,aCi,Int.mul_comm (c.2*e.2)]
             · have ub:=aGy (a:=E) (n:=q.sum) (by omega) (by omega)
               have w0:1<=(E+q.sum - 1).tdiv q.sum:=by rw [←ub.2];exact ub.1
               have ed:(E+q.sum - 1).tdiv q.sum=(E+q.sum - 1) / q.sum:=Int.tdiv_eq_ediv_of_nonneg (by omega)
               have w1:E<=(E+q.sum - 1) / q.sum*q.sum:=by
                 have a1:=Int.lt_mul_ediv_self_add (x:=E+q.sum - 1) (k:=q.sum) (by omega)
                 rw [Int.mul_comm] at a1;omega
               rw [ub.2] at ht0 ⊢
               have b1:=aT6 hb0
               have t1:=aT6 ht0
               rw [b1.1,t1.1]
               have bd1:(q.sum*1099511627776).tdiv mx=q.sum*1099511627776 / mx:=Int.tdiv_eq_ediv_of_nonneg (by omega)
               have td1:(q.sum*1099511627776).tdiv ((E+q.sum - 1).tdiv q.sum)=q.sum*1099511627776 / ((E+q.sum - 1).tdiv q.sum):=Int.tdiv_eq_ediv_of_nonneg (by omega)
               have bq:=Int.ediv_mul_le (q.sum*1099511627776) (b:=mx) (by omega)
               have tq2:=Int.ediv_mul_le (q.sum*1099511627776) (b:=(E+q.sum - 1).tdiv q.sum) (by omega)
               have bn:0<=q.sum*1099511627776 / mx:=Int.ediv_nonneg (by omega) (by omega)
               have tn:0<=q.sum*1099511627776 / ((E+q.sum - 1).tdiv q.sum):=Int.ediv_nonneg (by omega) (by omega)
               have bl:q.sum*1099511627776 / mx<=q.sum*1099511627776:=Int.ediv_le_self _ (by omega)
               have tl:q.sum*1099511627776 / ((E+q.sum - 1).tdiv q.sum)<=q.sum*1099511627776:=Int.ediv_le_self _ (by omega)
               rw [bd1,td1,aE (by omega) (by omega),aE (by omega) (by omega)]
               refine⟨_,_,rfl,bn,tn,bq,?_⟩
               generalize q.sum*1099511627776 / ((E+q.sum - 1).tdiv q.sum)=t at *
               rw [ed] at tq2
               have a1:=Int.mul_le_mul_of_nonneg_left w1 tn
               have a2:=Int.mul_le_mul_of_nonneg_right tq2 (show 0<=q.sum by omega)
               have a3:t*((E+q.sum - 1) / q.sum*q.sum)=t*((E+q.sum - 1) / q.sum)*q.sum:=by grind
               have a4:q.sum*1099511627776*q.sum=q.sum*q.sum*1099511627776:=by grind
               rw [a3] at a1
               rw [a4] at a2
               exact Int.le_trans a1 a2
             · have a1:=aT6 ha0
               rw [a1.1]
               have ua:=aGy (a:=q.sum*1099511627776) (n:=mn) (by omega) (by omega)
               have ed:(q.sum*1099511627776+mn - 1).tdiv mn=(q.sum*1099511627776+mn - 1) / mn:=Int.tdiv_eq_ediv_of_nonneg (by omega)
               have a2:=Int.lt_mul_ediv_self_add (x:=q.sum*1099511627776+mn - 1) (k:=mn) (by omega)
               rw [Int.mul_comm mn] at a2
               refine⟨_,rfl,?_,a1.2⟩
               rw [ua.2,ed]
               omega
theorem bEj {x x':Int×Int} {Q mx E mn B Q' mx' E' mn' B' f g:Int} (h:BV x Q mx E mn B)(h':BV x' Q' mx' E' mn' B')(hf:0<=f)(hg:0<=g)(m1:1<=mx)(e1:1<=E)(n1:1<=mn')
   (p:f*(Q*Q*mn')<=g*(Q'*E)/\f*(Q*mn')<=g*(Q'*mx)) (b:f*(Q*Q*1099511627776)<=g*(B'*E)/\f*(Q*1099511627776)<=g*(B'*mx)):f*x.1<=g*x'.2:=by
 obtain⟨u,t,ex,u0,t0,hu,ht⟩:=h.lo
 obtain⟨a,ey,ha,_⟩:=h'.hi
 have c1:f*u<=g*a:=by
   have s1:=Int.mul_le_mul_of_nonneg_left hu (show 0<=f*mn' from Int.mul_nonneg hf (by omega))
   have s2:=Int.mul_le_mul_of_nonneg_left p.2 (show(0:Int)<=1099511627776 by omega)
   have s3:=Int.mul_le_mul_of_nonneg_left ha (show 0<=g*mx from Int.mul_nonneg hg (by omega))
   have k1:1<=mx*mn':=by have:=Int.mul_le_mul (a:=1) (b:=1) (c:=mx) (d:=mn') m1 n1 (by omega) (by omega);omega
   refine eF k1 ?_
   grind
 have c2:f*t<=g*a:=by
   have s1:=Int.mul_le_mul_of_nonneg_left ht (show 0<=f*mn' from Int.mul_nonneg hf (by omega))
   have s2:=Int.mul_le_mul_of_nonneg_left p.1 (show(0:Int)<=1099511627776 by omega)
   have s3:=Int.mul_le_mul_of_nonneg_left ha (show 0<=g*E from Int.mul_nonneg hg (by omega))
   have k1:1<=E*mn':=by have:=Int.mul_le_mul (a:=1) (b:=1) (c:=E) (d:=mn') e1 n1 (by omega) (by omega);omega
   refine eF k1 ?_
   grind
 have c3:f*u<=g*B':=by
   have s1:=Int.mul_le_mul_of_nonneg_left hu hf
   refine eF m1 ?_
   grind
 have c4:f*t<=g*B':=by
   have s1:=Int.mul_le_mul_of_nonneg_left ht hf
   refine eF e1 ?_
   grind
 rw [ex,ey]
 have i1:=pH u t
 have i2:=uB a B'
 rcases i1.2.2 with k | k<;>rcases i2.2.2 with l | l<;>rw [k,l]<;>assumption
theorem bEk {x:Int×Int} {Q mx E mn B:Int} (h:BV x Q mx E mn B):0<=x.1/\x.2<=1099511627776:=by
 obtain⟨u,t,ex,u0,t0,_⟩:=h.lo
 obtain⟨a,ey,_,ha⟩:=h.hi
 have:=pH u t;have:=uB a B
 omega
theorem bEl {n:Int} (h:0<=n/\n<=400000):(xP n).2=0/\0<=(xP n).1.2/\n*1099511627776<=(xP n).1.2*(xP n).1.2:=by
 obtain⟨r,hr,e⟩:=aSa h
 obtain⟨h0,h1,h2⟩:=hr
 rw [e]
 unfold zO
 have hb:r<=1073741824:=by
   by_cases hc:r<=1073741824
   · exact hc
   · have:=Int.mul_le_mul (show(1073741824:Int)<=r by omega) (show(1073741824:Int)<=r by omega) (by omega) (by omega)
     omega
 have hx:((if r*r=n*1099511627776 then r else r+1)=r/\r*r=n*1099511627776)\/(if r*r=n*1099511627776 then r else r+1)=r+1:=by
   split
   · rename_i c;exact .inl ⟨rfl,c⟩
   · exact .inr rfl
 generalize (if r*r=n*1099511627776 then r else r+1)=s at hx ⊢
 rw [aCb (by omega) (by omega) (by omega)]
 refine⟨rfl,?_,?_⟩
 · show 0<=s;omega
 · show n*1099511627776<=s*s
   rcases hx with⟨e1,e2⟩ | e1<;>rw [e1]<;>omega
theorem bAm {p x:P3} (hp:bd 64 p)(hx:bd 256 x):dsW p x=ds p x:=by
 unfold bd at hp hx
 have e1:W (p.1 - x.1)=p.1 - x.1:=aE (by omega) (by omega)
 have e2:W (p.2.1 - x.2.1)=p.2.1 - x.2.1:=aE (by omega) (by omega)
 have e3:W (p.2.2 - x.2.2)=p.2.2 - x.2.2:=aE (by omega) (by omega)
 have b1:=bD (a:=320) (b:=320) (x:=p.1 - x.1) (y:=p.1 - x.1) (by omega) (by omega)
 have b2:=bD (a:=320) (b:=320) (x:=p.2.1 - x.2.1) (y:=p.2.1 - x.2.1) (by omega) (by omega)
 have b3:=bD (a:=320) (b:=320) (x:=p.2.2 - x.2.2) (y:=p.2.2 - x.2.2) (by omega) (by omega)
 unfold dsW ds dt sb
 simp only [e1,e2,e3]
 generalize (p.1 - x.1)*(p.1 - x.1)=a at *
 generalize (p.2.1 - x.2.1)*(p.2.1 - x.2.1)=b at *
 generalize (p.2.2 - x.2.2)*(p.2.2 - x.2.2)=c at *
 rw [aE (n:=a) (by omega) (by omega),aE (n:=b) (by omega) (by omega),aE (n:=c) (by omega) (by omega),aE (n:=a+b) (by omega) (by omega),aE (n:=a+b+c) (by omega) (by omega)]
theorem aJk (x:P3):∀(l:List P3)(v:Int),v<=l.foldl (fun v p=>iI v (dsW p x)) v/\∀p∈l,dsW p x<=l.foldl (fun v p=>iI v (dsW p x)) v
 | [],v=>⟨Int.le_refl _,fun s hs=>by cases hs⟩
 | a::l,v=>by
   rw [List.foldl_cons]
   have ih:=aJk x l (iI v (dsW a x))
   have hb:=pH v (dsW a x)
   refine⟨Int.le_trans hb.1 ih.1,fun s hs=>?_⟩
   rcases List.mem_cons.1 hs with rfl | hs
   · exact Int.le_trans hb.2.1 ih.1
   · exact ih.2 s hs
theorem aWi {m:ME} (h:fB m=0):∀p∈aU m,p.1∈m.1/\p.2.1∈m.1/\p.2.2∈m.1:=by
 intro p hp
 obtain⟨c,hc,rfl⟩:=List.mem_map.1 hp
 obtain⟨i,hi⟩:=List.getElem?_of_mem hc
 obtain⟨hlt,_⟩:=List.getElem?_eq_some_iff.1 hi
 obtain⟨h64,_,_,_,hf⟩:=iT h
 have hfc:=hf (i:Int) (by omega) (by omega)
 rw [bA hi] at hfc
 have hin:inF m.1.length c:=mW (m:=m) (by rw [hfc];rfl) h64
 have mm:∀j:Int,0<=j/\j < (m.1.length:Int)->m.1.getD (toNat j) default∈m.1:=fun j hj=>by
   have hl:toNat j < m.1.length:=by omega
   rw [eZ,List.getElem?_eq_getElem hl]
   exact List.getElem_mem hl
 exact⟨mm _ hin.1,mm _ hin.2.1,mm _ hin.2.2⟩
theorem bEm {a b c:Int} (h:a*a+b*b+c*c<=0):a=0/\b=0/\c=0:=by
 have sq:∀x:Int,0<=x*x:=fun x=>by
   rcases Int.le_total 0 x with k | k
   · exact Int.mul_nonneg k k
   · exact Int.mul_nonneg_of_nonpos_of_nonpos k k
 have:=sq a;have:=sq b;have:=sq c
 have z:∀x:Int,x*x<=0->x=0:=fun x hx=>by
   rcases Int.lt_trichotomy x 0 with k | k | k
   · have:=Int.mul_le_mul (a:=1) (b:=1) (c:=-x) (d:=-x) (by omega) (by omega) (by omega) (by omega)
     rw [Int.neg_mul_neg] at this;omega
   · exact k
   · have:=Int.mul_le_mul (a:=1) (b:=1) (c:=x) (d:=x) (by omega) (by omega) (by omega) (by omega)
     omega
 exact⟨z a (by omega),z b (by omega),z c (by omega)⟩
theorem bAn {p c:P3} (h:ds p c<=0):p=c:=by
 unfold ds dt sb at h
 obtain⟨h1,h2,h3⟩:=bEm h
 simp only at h1 h2 h3
 exact Prod.ext (by omega) (Prod.ext (by omega) (by omega))
theorem aT7 {m:ME} {q:List Int} {c:P3} {d Q mx E mn:Int} (hC:ChOK m q)(S:Sys (chg m q) d Q mx E mn)(hc:bd 256 c) :
   (tV m c).2=0/\Q*Q*1099511627776<=(tV m c).1*E/\Q*1099511627776<=(tV m c).1*mx:=by
 have hv:=hC.v
 have hpt:=aG9 hv
 have hW:=wE hc m.1 0 hpt (by omega)
 have eB:tV m c=((xP (jH m c)).1.2,(xP (jH m c)).2):=by
   unfold tV
   rw [show fB (m.1,m.2)=0 from hv,wD,wD,wD,bT hc.1,bT hc.2.1,bT hc.2.2]
   show(aB (pM m c) (toNat ((m.1.length:Int) - 0)+1) (0,0))=_
   rw [aG6]
 have L:=bEl (n:=jH m c) hW
 rw [eB]
 refine⟨L.1,?_⟩
 have hd:=(aJk c m.1 0).2
 have hm:∀e∈chg m q,ds e.1.1 c<=jH m c/\ds e.1.2.1 c<=jH m c/\ds e.1.2.2 c<=jH m c:=by
   intro e he
   have hp:=aWi hv e.1 (List.of_mem_zip he).1
   have one:∀p∈m.1,ds p c<=jH m c:=fun p hp=>by rw [←bAm (hpt p hp) hc];exact hd p hp
   exact⟨one _ hp.1,one _ hp.2.1,one _ hp.2.2⟩
 have h1:1<=jH m c:=by
   rcases Int.lt_or_le 0 (jH m c) with k | k
   · omega
   · exfalso
     have hne:∃e,e∈chg m q:=by
       cases hl:chg m q with
       | nil=>have a:=S.hQ;rw [hl] at a;have b:=S.Q1;exact absurd (show(0:Int)=Q from a) (by omega)
       | cons a l=>exact⟨a,List.mem_cons_self⟩
     obtain⟨e,he⟩:=hne
     have h3:=hm e he
     have hv:=(gH (S.hL e he).1).2
     have e1:=bAn (Int.le_trans h3.1 k);have e2:=bAn (Int.le_trans h3.2.1 k);have e3:=bAn (Int.le_trans h3.2.2 k)
     have hz:lL e.1=(0,0,0):=by
       have s0:sb c c=(0,0,0):=Prod.ext (Int.sub_self _) (Prod.ext (Int.sub_self _) (Int.sub_self _))
       unfold lL;rw [e1,e2,e3,s0];decide
     rw [hz] at hv
     exact absurd hv (by decide)
 have B1:1<=(xP (jH m c)).1.2:=by
   rcases Int.lt_or_le 0 (xP (jH m c)).1.2 with k | k
   · omega
   · exfalso
     have e0:(xP (jH m c)).1.2=0:=by have:=L.2.1;omega
     have:=L.2.2
     rw [e0] at this;omega
 exact aT1 S hc hm h1 L.2.2 B1
theorem aWj {m:ME} {q q':List Int} {d' Q' mx' E' mn':Int} (hC:ChOK m q)(hC':ChOK m q')(S':Sys (chg m q') d' Q' mx' E' mn'):∀e∈chg m q,mn'<=((chg m q').map fun e'=>e'.2*(iK e'.1 (lN (sc d') e.1) d').1).sum:=by
 intro e he
 have hp:=(List.of_mem_zip he).1
 have:∃e'∈chg m q',e'.1=e.1:=by
   obtain⟨i,hi⟩:=List.getElem?_of_mem hp
   obtain⟨hlt,hge⟩:=List.getElem?_eq_some_iff.1 hi
   have hpl:(aU m).length=m.2.length:=List.length_map _
   have hl:i < (chg m q').length:=by
     unfold chg
     rw [List.length_zip];have:=hC'.len;omega
   refine⟨(chg m q')[i],List.getElem_mem hl,?_⟩
   unfold chg
   rw [List.getElem_zip];exact hge
 obtain⟨e',he',eq⟩:=this
 have:=S'.hmn e' he'
 rw [eq] at this
 exact this
theorem aJl {m:ME} {q q':List Int} {d d':Int} (h:(bW m q d).2=0)(h':(bW m q' d').2=0):(bW m q d).1.1<=(bW m q' d').1.2:=by
 obtain⟨hC,Q,mx,E,mn,S,V⟩:=yP h
 obtain⟨hC',Q',mx',E',mn',S',V'⟩:=yP h'
 have p:=aT0 S S' (aWj hC hC' S')
 have hb:=aS6 hC.v
 have b:=(aT7 hC S (c:=yM (bxV m)) (by unfold bd at hb ⊢;omega)).2
 have:=bEj (f:=1) (g:=1) V V' (by omega) (by omega) S.mx1 S.E1 S'.mn1 (by omega) (by omega)
 omega
theorem aWk {m:ME} {q:List Int} {d:Int} (h:(bW m q d).2=0):0<=(bW m q d).1.1/\(bW m q d).1.1<=(bW m q d).1.2/\(bW m q d).1.2<=1099511627776:=by
 obtain⟨hC,Q,mx,E,mn,S,V⟩:=yP h
 have:=bEk V
 exact⟨this.1,aJl h h,this.2⟩
def F10:Bool :=
 (bif (((tV (oI.1,oI.2) (0,0,0)).2:Int) == 0) then
  (bif (((tV (oI.1,oI.2) (0,0,0)).1:Int) == 1048576) then
   (bif (((F30 (oI.1,oI.2) 1).2:Int) == 0) then
    (bif (((F30 (oI.1,oI.2) 1).1:Int) == 1280) then
     (bif (((F31 (oI.1,oI.2) 0).2:Int) == 0) then
      (bif (decide (((F31 (oI.1,oI.2) 0).1.1:Int) > 0)) then
       (decide (((F31 (oI.1,oI.2) 0).1.2:Int)<=1048576))
      else
       false)
     else
      false)
    else
     false)
   else
    false)
  else
   false)
 else
  false)
theorem C10:Con Tryz.prog 10 [] [] (.v (.bool F10)) []:=by
 refine aJ Tryz.func10 (by kernel_rfl) fun cx hcx=>?_
 have ho1:oI.1.length=6:=by kernel_rfl
 have ho2:oI.2.length=8:=by kernel_rfl
 let t0:List (St Tryz.prog):=[.c [] (C29),.c [0,1] (C28 (oI.1,oI.2) (0,0,0) (by(try simp only [Lt]);omega) (by(try simp only [Lt]);omega)),.c [] (C29),.c [2,3] (C30 (oI.1,oI.2) 1 (by(try simp only [Lt]);omega) (by(try simp only [Lt]);omega)),.c [] (C29),.c [4,5] (C31 (oI.1,oI.2) 0 (by(try simp only [Lt]);omega) (by(try simp only [Lt]);omega))]
 cases h0:(((tV (oI.1,oI.2) (0,0,0)).2:Int) == 0) with
 | true =>
  have q0:=eq_of_beq h0
  let t1:List (St Tryz.prog):=(t0++[.d h0])
  cases h1:(((tV (oI.1,oI.2) (0,0,0)).1:Int) == 1048576) with
  | true =>
   have q1:=eq_of_beq h1
   let t2:List (St Tryz.prog):=(t1++[.d h1])
   cases h2:(((F30 (oI.1,oI.2) 1).2:Int) == 0) with
   | true =>
    have q2:=eq_of_beq h2
    let t3:List (St Tryz.prog):=(t2++[.d h2])
    cases h3:(((F30 (oI.1,oI.2) 1).1:Int) == 1280) with
    | true =>
     have q3:=eq_of_beq h3
     let t4:List (St Tryz.prog):=(t3++[.d h3])
     cases h4:(((F31 (oI.1,oI.2) 0).2:Int) == 0) with
     | true =>
      have q4:=eq_of_beq h4
      let t5:List (St Tryz.prog):=(t4++[.d h4])
      cases h5:(decide (((F31 (oI.1,oI.2) 0).1.1:Int) > 0)) with
      | true =>
       have q5:=bO h5
       have e:=Eq.refl F10;conv at e=>rhs;simp only [F10,h0,h1,h2,h3,h4,h5,aI]
       rw [e]
       exact rt (t5++[.d h5]) [] [] hcx (by kernel_rfl)
      | false =>
       have q5:=cA h5
       have e:=Eq.refl F10;conv at e=>rhs;simp only [F10,h0,h1,h2,h3,h4,h5,aI]
       rw [e]
       exact rt (t5++[.d h5]) [] [] hcx (by kernel_rfl)
     | false =>
      have q4:=ne_of_beq_false h4
      have e:=Eq.refl F10;conv at e=>rhs;simp only [F10,h0,h1,h2,h3,h4,aI]
      rw [e]
      exact rt (t4++[.d h4]) [] [] hcx (by kernel_rfl)
    | false =>
     have q3:=ne_of_beq_false h3
     have e:=Eq.refl F10;conv at e=>rhs;simp only [F10,h0,h1,h2,h3,aI]
     rw [e]
     exact rt (t3++[.d h3]) [] [] hcx (by kernel_rfl)
   | false =>
    have q2:=ne_of_beq_false h2
    have e:=Eq.refl F10;conv at e=>rhs;simp only [F10,h0,h1,h2,aI]
    rw [e]
    exact rt (t2++[.d h2]) [] [] hcx (by kernel_rfl)
  | false =>
   have q1:=ne_of_beq_false h1
   have e:=Eq.refl F10;conv at e=>rhs;simp only [F10,h0,h1,aI]
   rw [e]
   exact rt (t1++[.d h1]) [] [] hcx (by kernel_rfl)
 | false =>
  have q0:=ne_of_beq_false h0
  have e:=Eq.refl F10;conv at e=>rhs;simp only [F10,h0,aI]
  rw [e]
  exact rt (t0++[.d h0]) [] [] hcx (by kernel_rfl)
theorem aT8:F10=true:=by kernel_rfl
theorem aT9 {m:ME} {q:List Int} {d:Int} (h:(bW m q d).2=0):vs (bW m q d).1:=by
 have:=aWk h
 unfold vs;omega
def bF8 (g:PN->PN):Prop:=∀p q d,0<=d/\d<=2->vp p=0->vp q=0->vp (g p)=0->vp (g q)=0->uK (g p) (g q) d=uK p q d/\pU (g p) (g q) d=pU p q d
section
variable {T φ : P3 → P3} {g : PN → PN}
end
end Go.Proofs.YtaeagjnpobdglaaGreat
namespace Go.Proofs.YtaeagjnpobdglaaGreat
open Go.Proofs Go.Aw Go.RowKit
set_option maxRecDepth 100000
theorem aWl (m:ME)(q:List Int)(d:Int):oD m q d=bif (((jD m q d).2:Int) != 0) then(0,(jD m q d).2) else iA (jD m q d).1 q:=by
 obtain⟨m1,m2⟩:=m
 unfold oD
 dsimp only
 rw [sX]
 cases h:(((jD (m1,m2) q d).2:Int) != 0) with
 | true=>rfl
 | false =>
   obtain⟨h1,h2,h3⟩:=aE0 h
   rw [cond_false,cond_false,aNu,aS3 h1 h3]
   have key:=aZ (S:=lD (m1,m2) q d) (fun v i=>(v,i)) (fun v s=>.inl (iI v s.2)) (fun v=>F97 (W (Int.tdiv (cO q) v))) (L:=(jD (m1,m2) q d).1) (v:=0) (n:=toNat ((((jD (m1,m2) q d).1.length:Nat):Int) - 0)+1) (fun _ _=>True) ?_ (fun _ _ _ _ _ _ _=>trivial) ?_ (by omega) trivial
   · refine(Eq.trans key ?_)
     rw [bI];rfl
   · intro i c hc v _
     obtain⟨hlt,hce⟩:=List.getElem?_eq_some_iff.1 hc
     simp only [lD]
     rw [sX,bT (by omega),cond_true,bA hc];rfl
   · intro v _
     simp only [lD]
     rw [sX,cJ (by omega),cond_false,aG7];rfl
theorem aWm (m:ME)(q:List Int)(d:Int):qS m q d=bif (((jD m q d).2:Int) != 0) then(0,(jD m q d).2) else iF (jD m q d).1 q:=by
 obtain⟨m1,m2⟩:=m
 unfold qS
 dsimp only
 rw [sX]
 cases h:(((jD (m1,m2) q d).2:Int) != 0) with
 | true=>rfl
 | false =>
   rw [cond_false,cond_false,aNv]
   have key:=aZ (S:=lE (m1,m2) q d) (fun v i=>(v,i)) (fun v s=>.inl (nU v s.1)) (fun v=>F97 (F99 (cO q) v)) (L:=(jD (m1,m2) q d).1) (v:=((jD (m1,m2) q d).1.getD (toNat 0) default).1) (n:=toNat ((((jD (m1,m2) q d).1.length:Nat):Int) - 0)+1) (fun _ _=>True) ?_ (fun _ _ _ _ _ _ _=>trivial) ?_ (by omega) trivial
   · refine(Eq.trans key ?_)
     rw [bI];rfl
   · intro i c hc v _
     obtain⟨hlt,hce⟩:=List.getElem?_eq_some_iff.1 hc
     simp only [lE]
     rw [sX,bT (by omega),cond_true,bA hc];rfl
   · intro v _
     simp only [lE]
     rw [sX,cJ (by omega),cond_false,aG7];rfl
theorem aPf (m:ME)(q:List Int)(d:Int):qT m q d=bif (((EnV m q d).2:Int) != 0) then(0,(EnV m q d).2) else pN (EnV m q d).1 q:=by
 obtain⟨m1,m2⟩:=m
 unfold qT
 dsimp only
 rw [bDm]
 cases h:(((EnV (m1,m2) q d).2:Int) != 0) with
 | true=>rfl
 | false =>
   rw [cond_false,cond_false]
   have h':=h
   unfold EnV at h'
   cases hc:(chD (m1,m2) q d != 0) with
   | true=>rw [hc,cond_true] at h';rw [hc] at h';exact absurd h' (by decide)
   | false =>
     obtain⟨hC,hd⟩:=gO (bne_eq_false_iff_eq.1 hc)
     have hn:=hC.n;have hl:=hC.len
     unfold pN F99
     rw [aC3 hC.ok hC.pos (by omega),aG7,aNt hC.ok (by omega)]
     rfl
theorem bAo {m:ME} {q:List Int} {d:Int} (h:((gI m q d:Int) != 0)=false):jD m q d=bC (bU m d).1 q:=by
 rw [zJ] at h
 obtain⟨hc,hd⟩:=gO (bne_eq_false_iff_eq.1 h)
 have hn:=hc.n;have hl:=hc.len
 unfold jD
 rw [h,cond_false,show(bU m d).1=(aU m).map (gB m d) from by rw [aI4 hc.v hd];rfl]
 exact(aNq (T:=(aU m).map (gB m d)) (q:=q) (fun r hr=>by
     obtain⟨p,_,rfl⟩:=List.mem_map.1 hr
     have hpl:(aU m).length=m.2.length:=List.length_map _
     unfold gB;rw [List.length_map];omega) (by omega)).symm
theorem bEn {m:ME} {q:List Int} {d:Int} (h:((gI m q d:Int) != 0)=false):EnV m q d=cU (cD m d).1 q:=by
 rw [zJ] at h
 obtain⟨hc,hd⟩:=gO (bne_eq_false_iff_eq.1 h)
 have hn:=hc.n;have hl:=hc.len
 have hpl:(aU m).length=m.2.length:=List.length_map _
 unfold EnV
 rw [h,cond_false,show(cD m d).1=MT m d from by rw [aI5 hc.v hd];rfl,aZy (by omega) (by omega)]
theorem bEo (m:ME)(q:List Int)(d:Int):bW m q d=gX m q d:=by
 obtain⟨m1,m2⟩:=m
 unfold bW gX
 dsimp only
 rw [aWl,aPf,aWm,←aV2]
 cases hc:((gI (m1,m2) q d:Int) != 0) with
 | true =>
   have e:jD (m1,m2) q d=([],gI (m1,m2) q d):=by
     unfold jD
     rw [←zJ,hc,cond_true]
   rw [e]
   simp only [hc,cond_true]
 | false =>
   obtain⟨hv,hd⟩:=aI8 hc
   have hp1:=(oZ (m:=(m1,m2)) (by rw [hv];rfl)).1
   rw [aLv hv hd,bAo hc,bEn hc,aS4 hp1]
   have hB:=aS7 hv
   unfold jG
   simp only [cond_false]
   generalize bC (bU (m1,m2) d).1 q=P
   generalize cU (cD (m1,m2) d).1 q=E
   generalize iA P.1 q=b
   generalize iF P.1 q=a
   generalize pN E.1 q=t
   generalize tV (m1,m2) (yM (bxV (m1,m2)))=B at hB
   rw [hB]
   have h0:(((0:Int)) != 0)=false:=rfl
   cases hP:((P.2:Int) != 0) with
   | true=>simp only [hP,h0,aI]
   | false =>
     cases hb:((b.2:Int) != 0) with
     | true=>simp only [hP,hb,h0,aI]
     | false =>
       cases hE:((E.2:Int) != 0) with
       | true=>simp only [hP,hb,hE,h0,aI]
       | false =>
         cases ht:((t.2:Int) != 0) with
         | true=>simp only [hP,hb,hE,ht,h0,aI]
         | false =>
           cases ha:((a.2:Int) != 0) with
           | true=>simp only [hP,hb,hE,ht,ha,h0,aI]
           | false=>simp only [hP,hb,hE,ht,ha,h0,aI]
def F77 (a0:Int×Int)(a1:Int×Int):Bool×Int :=
 (bif (((kG (a0,a1)):Int) == 0) then
  (bif (decide ((a0.1:Int)≥a1.1)) then
   ((decide ((a0.2:Int)<=a1.2)),(kG (a0,a1)))
  else
   (false,(kG (a0,a1))))
 else
  (false,(kG (a0,a1))))
theorem C77 (a0:Int×Int)(a1:Int×Int):Con Tryz.prog 77 [(.a [(iv a0.1),(iv a0.2)]),(.a [(iv a1.1),(iv a1.2)])] [] (.t [(.v (.bool (F77 a0 a1).1)),(iv (F77 a0 a1).2)]) []:=by
 refine aJ Tryz.func77 (by kernel_rfl) fun cx hcx=>?_
 let t0:List (St Tryz.prog):=[.c [2] (aWx (a0,a1))]
 cases h0:(((kG (a0,a1)):Int) == 0) with
 | true =>
  have q0:=eq_of_beq h0
  let t1:List (St Tryz.prog):=(t0++[.d h0])
  cases h1:(decide ((a0.1:Int)≥a1.1)) with
  | true =>
   have q1:=bO h1
   have e:=Eq.refl (F77 a0 a1);conv at e=>rhs;simp only [F77,h0,h1,aI]
   rw [e]
   exact rt (t1++[.d h1]) [] [] hcx (by kernel_rfl)
  | false =>
   have q1:=cA h1
   have e:=Eq.refl (F77 a0 a1);conv at e=>rhs;simp only [F77,h0,h1,aI]
   rw [e]
   exact rt (t1++[.d h1]) [] [] hcx (by kernel_rfl)
 | false =>
  have q0:=ne_of_beq_false h0
  have e:=Eq.refl (F77 a0 a1);conv at e=>rhs;simp only [F77,h0,aI]
  rw [e]
  exact rt (t0++[.d h0]) [] [] hcx (by kernel_rfl)
def V84 (x:Bool×Zt):Value:=bif x.1 then(.iface 87 (.agg [(.int .i64 x.2.1)].toArray)) else(.iface 91 (.agg [(.int .i64 x.2.2.1),(.int .i64 x.2.2.2)].toArray))
def kP (a0:Zm)(a1:List (Int)×Zt):Bool×Zt :=
 (bif (!(pT a1.2.2)) then
  (true,1,(0,0))
 else
  (bif (!(pA a1.2.1 0 2)) then
   (true,1,(0,0))
  else
   (bif (((bW (a0.1,a0.2) a1.1 a1.2.1).2:Int) != 0) then
    (true,(bW (a0.1,a0.2) a1.1 a1.2.1).2,(0,0))
   else
    (bif (!(F77 (bW (a0.1,a0.2) a1.1 a1.2.1).1 a1.2.2).1) then
     (true,12,(0,0))
    else
     (false,0,a1.2.2)))))
theorem C49 (a0:Zm)(a1:List (Int)×Zt)(l0_1:a0.1.length<=9223372036854775807)(l0_2:a0.2.length<=9223372036854775807)(l1_1:a1.1.length<=9223372036854775807):Con Tryz.prog 49 [(.a [(.s 0 0 a0.1.length 3),(.s 1 0 a0.2.length 3)]),(.a [(.s 2 0 a1.1.length 1),(iv a1.2.1),(iv a1.2.2.1),(iv a1.2.2.2)])] [(.live false true (flat dL a0.1)),(.live false true (flat dW a0.2)),(.live false true (flat c3 a1.1))] (.v (V84 (kP a0 a1))) []:=by
 refine aJ Tryz.func49 (by kernel_rfl) fun cx hcx=>?_
 let t0:List (St Tryz.prog):=[.c [] (C76 a1.2.2)]
 cases h0:(!(pT a1.2.2)) with
 | true =>
  have e:=Eq.refl (kP a0 a1);conv at e=>rhs;simp only [kP,h0,aI]
  rw [e]
  exact rt (t0++[.d h0]) [] [] hcx (by kernel_rfl)
 | false =>
  let t1:List (St Tryz.prog):=(t0++[.d h0,.c [] (C55 a1.2.1 0 2)])
  cases h1:(!(pA a1.2.1 0 2)) with
  | true =>
   have e:=Eq.refl (kP a0 a1);conv at e=>rhs;simp only [kP,h0,h1,aI]
   rw [e]
   exact rt (t1++[.d h1]) [] [] hcx (by kernel_rfl)
  | false =>
   let t2:List (St Tryz.prog):=(t1++[.d h1,.c [0,1,2] (aXb (a0.1,a0.2) a1.1 a1.2.1 (by(try simp only [Lt]);omega) (by(try simp only [Lt]);omega) (by omega))])
   cases h2:(((bW (a0.1,a0.2) a1.1 a1.2.1).2:Int) != 0) with
   | true =>
    have q2:=bne_iff_ne.1 h2
    have e:=Eq.refl (kP a0 a1);conv at e=>rhs;simp only [kP,h0,h1,h2,aI]
    rw [e]
    exact rt (t2++[.d h2]) [] [] hcx (by kernel_rfl)
   | false =>
    have q2:=bne_eq_false_iff_eq.1 h2
    let t3:List (St Tryz.prog):=(t2++[.d h2,.c [] (C77 (bW (a0.1,a0.2) a1.1 a1.2.1).1 a1.2.2)])
    cases h3:(!(F77 (bW (a0.1,a0.2) a1.1 a1.2.1).1 a1.2.2).1) with
    | true =>
     have e:=Eq.refl (kP a0 a1);conv at e=>rhs;simp only [kP,h0,h1,h2,h3,aI]
     rw [e]
     exact rt (t3++[.d h3]) [] [] hcx (by kernel_rfl)
    | false =>
     have e:=Eq.refl (kP a0 a1);conv at e=>rhs;simp only [kP,h0,h1,h2,h3,aI]
     rw [e]
     exact rt (t3++[.d h3]) [] [] hcx (by kernel_rfl)
theorem bEp (a0:Zm)(a1:List (Int)×Zt)(l0_1:a0.1.length<=9223372036854775807)(l0_2:a0.2.length<=9223372036854775807)(l1_1:a1.1.length<=9223372036854775807)(hw:(kP a0 a1).1=true):Con Tryz.prog 49 [(.a [(.s 0 0 a0.1.length 3),(.s 1 0 a0.2.length 3)]),(.a [(.s 2 0 a1.1.length 1),(iv a1.2.1),(iv a1.2.2.1),(iv a1.2.2.2)])] [(.live false true (flat dL a0.1)),(.live false true (flat dW a0.2)),(.live false true (flat c3 a1.1))] (.v (.iface 87 (.agg [(.int .i64 (kP a0 a1).2.1)].toArray))) []:=by
 have h:=C49 a0 a1 l0_1 l0_2 l1_1
 rw [show V84 (kP a0 a1)=(.iface 87 (.agg [(.int .i64 (kP a0 a1).2.1)].toArray)) from by simp only [V84,hw,cond_true]] at h
 exact h
theorem bEq (a0:Zm)(a1:List (Int)×Zt)(l0_1:a0.1.length<=9223372036854775807)(l0_2:a0.2.length<=9223372036854775807)(l1_1:a1.1.length<=9223372036854775807)(hw:(kP a0 a1).1=false):Con Tryz.prog 49 [(.a [(.s 0 0 a0.1.length 3),(.s 1 0 a0.2.length 3)]),(.a [(.s 2 0 a1.1.length 1),(iv a1.2.1),(iv a1.2.2.1),(iv a1.2.2.2)])] [(.live false true (flat dL a0.1)),(.live false true (flat dW a0.2)),(.live false true (flat c3 a1.1))] (.v (.iface 91 (.agg [(.int .i64 (kP a0 a1).2.2.1),(.int .i64 (kP a0 a1).2.2.2)].toArray))) []:=by
 have h:=C49 a0 a1 l0_1 l0_2 l1_1
 rw [show V84 (kP a0 a1)=(.iface 91 (.agg [(.int .i64 (kP a0 a1).2.2.1),(.int .i64 (kP a0 a1).2.2.2)].toArray)) from by simp only [V84,hw,cond_false]] at h
 exact h
def F18 (a0:Zm)(a1:List (Int)×Zt):Int :=
 (bif (((fB (a0.1,a0.2)):Int) != 0) then
  (fB (a0.1,a0.2))
 else
  (bif ((kP (a0.1,a0.2) (a1.1,a1.2.1,a1.2.2)).1) then
   (kP (a0.1,a0.2) (a1.1,a1.2.1,a1.2.2)).2.1
  else
   0))
def F19 (a0:Zm)(a1:List (Int)×Zt):Int :=
 (bif (((vU (a0.1,a0.2)):Int) != 0) then
  (vU (a0.1,a0.2))
 else
  (bif (!(F51 a1.2.2)) then
   1
  else
   (bif (!(F52 a1.2.1 0 2)) then
    1
   else
    (bif (((gX (a0.1,a0.2) a1.1 a1.2.1).2:Int) != 0) then
     (gX (a0.1,a0.2) a1.1 a1.2.1).2
    else
     (bif (decide (((gX (a0.1,a0.2) a1.1 a1.2.1).1.1:Int) < a1.2.2.1)) then
      12
     else
      (bif (decide (((gX (a0.1,a0.2) a1.1 a1.2.1).1.2:Int) > a1.2.2.2)) then
       12
      else
       0))))))
theorem C19 (a0:Zm)(a1:List (Int)×Zt)(l0_1:a0.1.length<=9223372036854775807)(l0_2:a0.2.length<=9223372036854775807)(l1_1:a1.1.length<=9223372036854775807):Con Tryz.prog 19 [(.a [(.s 0 0 a0.1.length 3),(.s 1 0 a0.2.length 3)]),(.a [(.s 2 0 a1.1.length 1),(iv a1.2.1),(iv a1.2.2.1),(iv a1.2.2.2)])] [(.live false true (flat dL a0.1)),(.live false true (flat dW a0.2)),(.live false true (flat c3 a1.1))] (iv (F19 a0 a1)) []:=by
 refine aJ Tryz.func19 (by kernel_rfl) fun cx hcx=>?_
 let t0:List (St Tryz.prog):=[.c [0,1] (C50 (a0.1,a0.2) (by(try simp only [Lt]);omega) (by(try simp only [Lt]);omega))]
 cases h0:(((vU (a0.1,a0.2)):Int) != 0) with
 | true =>
  have q0:=bne_iff_ne.1 h0
  have e:=Eq.refl (F19 a0 a1);conv at e=>rhs;simp only [F19,h0,aI]
  rw [e]
  exact rt (t0++[.d h0]) [] [] hcx (by kernel_rfl)
 | false =>
  have q0:=bne_eq_false_iff_eq.1 h0
  let t1:List (St Tryz.prog):=(t0++[.d h0,.c [] (C51 a1.2.2)])
  cases h1:(!(F51 a1.2.2)) with
  | true =>
   have e:=Eq.refl (F19 a0 a1);conv at e=>rhs;simp only [F19,h0,h1,aI]
   rw [e]
   exact rt (t1++[.d h1]) [] [] hcx (by kernel_rfl)
  | false =>
   let t2:List (St Tryz.prog):=(t1++[.d h1,.c [] (C52 a1.2.1 0 2)])
   cases h2:(!(F52 a1.2.1 0 2)) with
   | true =>
    have e:=Eq.refl (F19 a0 a1);conv at e=>rhs;simp only [F19,h0,h1,h2,aI]
    rw [e]
    exact rt (t2++[.d h2]) [] [] hcx (by kernel_rfl)
   | false =>
    let t3:List (St Tryz.prog):=(t2++[.d h2,.c [0,1,2] (bDr (a0.1,a0.2) a1.1 a1.2.1 (by(try simp only [Lt]);omega) (by(try simp only [Lt]);omega) (by omega))])
    cases h3:(((gX (a0.1,a0.2) a1.1 a1.2.1).2:Int) != 0) with
    | true =>
     have q3:=bne_iff_ne.1 h3
     have e:=Eq.refl (F19 a0 a1);conv at e=>rhs;simp only [F19,h0,h1,h2,h3,aI]
     rw [e]
     exact rt (t3++[.d h3]) [] [] hcx (by kernel_rfl)
    | false =>
     have q3:=bne_eq_false_iff_eq.1 h3
     let t4:List (St Tryz.prog):=(t3++[.d h3])
     cases h4:(decide (((gX (a0.1,a0.2) a1.1 a1.2.1).1.1:Int) < a1.2.2.1)) with
     | true =>
      have q4:=bO h4
      have e:=Eq.refl (F19 a0 a1);conv at e=>rhs;simp only [F19,h0,h1,h2,h3,h4,aI]
      rw [e]
      exact rt (t4++[.d h4]) [] [] hcx (by kernel_rfl)
     | false =>
      have q4:=cA h4
      let t5:List (St Tryz.prog):=(t4++[.d h4])
      cases h5:(decide (((gX (a0.1,a0.2) a1.1 a1.2.1).1.2:Int) > a1.2.2.2)) with
      | true =>
       have q5:=bO h5
       have e:=Eq.refl (F19 a0 a1);conv at e=>rhs;simp only [F19,h0,h1,h2,h3,h4,h5,aI]
       rw [e]
       exact rt (t5++[.d h5]) [] [] hcx (by kernel_rfl)
      | false =>
       have q5:=cA h5
       have e:=Eq.refl (F19 a0 a1);conv at e=>rhs;simp only [F19,h0,h1,h2,h3,h4,h5,aI]
       rw [e]
       exact rt (t5++[.d h5]) [] [] hcx (by kernel_rfl)
theorem aUa {s:Int×Int} (h:pT s=true):vs s:=by
 unfold pT at h
 unfold vs
 by_cases h1:s.1≥-1099511627776<;>by_cases h2:s.1<=s.2<;>by_cases h3:s.2<=1099511627776<;>simp [h1,h2,h3] at h
 exact⟨by omega,h2,h3⟩
theorem aUb {a c:Int×Int} (ha:vs a)(hc:vs c):kG (a,c)=0:=by
 unfold kG
 have e1:pT (a,c).1=true:=aCd (a:=a.1) (b:=a.2) ha.1 ha.2.1 ha.2.2
 have e2:pT (a,c).2=true:=aCd (a:=c.1) (b:=c.2) hc.1 hc.2.1 hc.2.2
 rw [e1,e2];rfl
theorem aUc {a c:Int×Int} (ha:vs a)(hc:vs c):(F77 a c).1=(decide (c.1<=a.1)&&decide (a.2<=c.2)):=by
 unfold F77
 rw [aUb ha hc]
 by_cases h1:c.1<=a.1<;>simp [h1]
abbrev CT:=List Int×Zt
theorem bAp {m:ME} {c:CT} (h:(kP m c).1=true):(kP m c).2.1≠0:=by
 unfold kP at h ⊢
 cases h1:(!(pT c.2.2)) with
 | true=>simp only [h1,cond_true];decide
 | false =>
   cases h2:(!(pA c.2.1 0 2)) with
   | true=>simp only [h1,h2,aI];decide
   | false =>
     cases h3:(((bW (m.1,m.2) c.1 c.2.1).2:Int) != 0) with
     | true=>simp only [h1,h2,h3,aI];exact bne_iff_ne.1 h3
     | false =>
       cases h4:(!(F77 (bW (m.1,m.2) c.1 c.2.1).1 c.2.2).1) with
       | true=>simp only [h1,h2,h3,h4,aI];decide
       | false=>simp only [h1,h2,h3,h4,cond_false] at h;cases h
theorem qW {m:ME} {c:CT} (h:(kP m c).1=false):(bW m c.1 c.2.1).2=0/\vs c.2.2/\c.2.2.1<=(bW m c.1 c.2.1).1.1/\(bW m c.1 c.2.1).1.2<=c.2.2.2/\kP m c=(false,0,c.2.2):=by
 unfold kP at h ⊢
 cases h1:(!(pT c.2.2)) with
 | true=>simp only [h1,cond_true] at h;cases h
 | false =>
   cases h2:(!(pA c.2.1 0 2)) with
   | true=>simp only [h1,h2,aI] at h;cases h
   | false =>
     cases h3:(((bW (m.1,m.2) c.1 c.2.1).2:Int) != 0) with
     | true=>simp only [h1,h2,h3,aI] at h;cases h
     | false =>
       cases h4:(!(F77 (bW (m.1,m.2) c.1 c.2.1).1 c.2.2).1) with
       | true=>simp only [h1,h2,h3,h4,aI] at h;cases h
       | false =>
         simp only [cond_false]
         have hb:(bW m c.1 c.2.1).2=0:=bne_eq_false_iff_eq.1 h3
         have hs:=aUa (s:=c.2.2) (by simpa using h1)
         rw [show(m.1,m.2)=m from rfl,aUc (aT9 hb) hs] at h4
         have h5:decide (c.2.2.1<=(bW m c.1 c.2.1).1.1)=true/\decide ((bW m c.1 c.2.1).1.2<=c.2.2.2)=true:=by simpa using h4
         exact⟨hb,hs,bO h5.1,bO h5.2,trivial⟩
theorem bEr {m:ME} (hv:fB m=0)(c:CT):F18 m c=(bif (kP m c).1 then(kP m c).2.1 else 0):=by
 unfold F18
 rw [show fB (m.1,m.2)=0 from hv]
 rfl
theorem bEs {m:ME} (hv:fB m=0)(c:CT):((F18 m c:Int) == 0)=!(kP m c).1:=by
 rw [bEr hv]
 cases h:(kP m c).1 with
 | false=>rfl
 | true =>
   rw [cond_true]
   exact beq_false_of_ne (bAp h)
theorem bAq (m:ME)(c:CT):F18 m c=F19 m c:=by
 obtain⟨m1,m2⟩:=m
 obtain⟨q,d,s⟩:=c
 unfold F18 F19
 dsimp only
 rw [show vU (m1,m2)=fB (m1,m2) from(aGn (m1,m2)).symm,←bEo,show F51 s=pT s from rfl,show F52 d 0 2=pA d 0 2 from rfl]
 cases h0:((fB (m1,m2):Int) != 0) with
 | true=>simp only [cond_true]
 | false =>
   simp only [cond_false]
   unfold kP
   dsimp only
   cases h1:pT s with
   | false=>rfl
   | true =>
     cases h2:pA d 0 2 with
     | false=>rfl
     | true =>
       simp only [Bool.not_true,cond_false]
       cases h3:(((bW (m1,m2) q d).2:Int) != 0) with
       | true=>simp only [cond_true]
       | false =>
         have hb:(bW (m1,m2) q d).2=0:=bne_eq_false_iff_eq.1 h3
         simp only [cond_false]
         rw [aUc (aT9 hb) (aUa h1)]
         by_cases g1:s.1<=(bW (m1,m2) q d).1.1
         · by_cases g2:(bW (m1,m2) q d).1.2<=s.2
           · rw [bT g1,bT g2,cJ (by omega),cJ (by omega)];rfl
           · rw [bT g1,cJ g2,cJ (by omega),bT (by omega)];rfl
         · rw [cJ g1,bT (show(bW (m1,m2) q d).1.1 < s.1 by omega)];rfl
theorem aJm {m:ME} {a b:CT} (ha:(kP m a).1=false)(hb:(kP m b).1=false):a.2.2.1<=b.2.2.2:=by
 obtain⟨a1,a2,a3,a4,_⟩:=qW ha
 obtain⟨b1,b2,b3,b4,_⟩:=qW hb
 have:=aJl a1 b1
 omega
theorem aWn {ρ:Env} {W:World} {M:Nat->Prop} {cells:List SV} {len es:Nat} {y:Value} (hW:∀b o,ρ.fz b=some o->W.heap[b]? = some o.obj)(hpl:Plain cells)(hr:Rel ρ (.d cells len es) y) :
   ∃q,∀(k:Nat) (ρ2:Env),ρ2 k=q->ρ2.fz=ρ.fz->Rel ρ2 (.s k 0 len es) y/\BRep ρ2 M W k (.live false true cells):=by
 simp only [Rel] at hr
 rcases hr with⟨rfl,rfl,qa,rfl⟩ | ⟨b,o',cap,c,ty,fr',vs,rfl,hcap,hfz,hrel,hlen,hcell⟩
 · cases qa with
   | none =>
     refine⟨none,fun k ρ2 hq hf=>⟨?_,.inl ⟨hq,rfl⟩⟩⟩
     simp [Rel,hq]
   | some q =>
     refine⟨some (q.block,q.off,0),fun k ρ2 hq hf=>⟨?_,.inr ⟨q.block,q.off,0,[],hq,⟨by simp,fun hne=>absurd rfl hne⟩,trivial,fun i x hi=>by simp at hi⟩⟩⟩
     simp only [Rel];exact .inr ⟨q.block,q.off,0,0,0,q.spot,hq,rfl,Nat.le_refl _,by omega,fun h=>absurd rfl h⟩
 · refine⟨some (b,o',cap*es),fun k ρ2 hq hf=>⟨?_,.inr ⟨b,o',cap*es,vs,hq,⟨by rw [hlen];exact Nat.mul_le_mul_right _ hcap,fun _ _=>⟨_,by rw [hf];exact hfz⟩⟩,Plain.congr (ρ:=⟨fun _=>none,ρ.fz⟩) (fun b o ho=>by rw [hf];exact ho) hpl hrel,fun i x hx=>?_⟩⟩⟩
   · simp only [Rel];exact .inr ⟨b,o',cap*es,cap,0,none,hq,rfl,hcap,by omega,fun _=>⟨rfl,rfl⟩⟩
   · have:=hcell i x hx
     simp [World.cell?,hW b _ hfz,FC.obj,this]
theorem Con.frozen {P:Program} {f:Nat} {pre post ys:List SV} {bs:List BK} {res:SV} {α:Type} {c:α->List SV} {es:Nat} {l:List α} (hpf:Plain (flat c l))
   (hno:(!SV.hasBl bs.length pre&&!SV.hasBl bs.length post&&!SV.hasBl bs.length ys&&bs.all (fun x=>!x.hasB bs.length)&&!res.hasB bs.length)=true)
   (h:Con P f (pre++.a (.s bs.length 0 l.length es::ys)::post) (bs++[.live false true (flat c l)]) res []) :
   Con P f (pre++.a (.d (flat c l) l.length es::ys)::post) bs res []:=by
 simp only [Bool.and_eq_true,Bool.not_eq_true',List.all_eq_true] at hno
 obtain⟨⟨⟨⟨n1,n2⟩,n7⟩,n3⟩,n6⟩:=hno
 refine⟨h.1,fun ρ W vs hr hb hpl hap hfz=>?_⟩
 obtain⟨y,hy,hry⟩:=aMx hr
 obtain⟨zs,rfl,hzs⟩:∃zs,y=.agg zs.toArray/\Rels ρ (.d (flat c l) l.length es::ys) zs:=by
   simp only [Rel] at hry
   obtain⟨zs,h1,h2⟩:=hry
   exact⟨zs,h1,h2⟩
 obtain⟨z,zt,rfl,hz,hzt⟩:∃z zt,zs=z::zt/\Rel ρ (.d (flat c l) l.length es) z/\Rels ρ ys zt:=by
   cases zs with
   | nil=>simp [Rels] at hzs
   | cons z zt=>exact⟨z,zt,rfl,hzs.1,hzs.2⟩
 obtain⟨q,hq⟩:=aWn (M:=(dK ρ W bs).mine) (W:=W) (fun b o ho=>(hfz b o ho).1) hpf hz
 have hne:∀j,j≠bs.length->(ρ.set bs.length q) j=ρ j:=fun j hj=>by rw [Env.set_loc,if_neg hj]
 have hat:(ρ.set bs.length q) bs.length=q:=by rw [Env.set_loc,if_pos rfl]
 have hend:bs.getD bs.length .un=.un:=by rw [eZ,List.getElem?_eq_none (Nat.le_refl _)];rfl
 have hown:aAw (ρ.set bs.length q) (bs++[.live false true (flat c l)])=aAw ρ bs:=by
   funext b0
   apply propext
   unfold aAw
   constructor
   · rintro ⟨j,n,h1,h2⟩
     rw [lI] at h1
     by_cases hj:j=bs.length
     · rw [if_pos hj] at h1;exact h1.elim
     · rw [if_neg hj] at h1
       exact⟨j,n,h1,by rw [←hne j hj];exact h2⟩
   · rintro ⟨j,n,h1,h2⟩
     have hj:j≠bs.length:=fun e=>by rw [e,hend] at h1;exact h1
     exact⟨j,n,by rw [lI,if_neg hj];exact h1,by rw [hne j hj];exact h2⟩
 have hmine:(dK (ρ.set bs.length q) W (bs++[.live false true (flat c l)])).mine=(dK ρ W bs).mine:=by
   funext b0
   unfold Cx.mine dK
   simp only [hown]
 obtain⟨g1,g2⟩:=hq bs.length (ρ.set bs.length q) hat rfl
 have nohas:∀j,¬(bs.getD j .un).has bs.length:=fun j hk=>by
   have hB:=bEx (hpl j) hk
   by_cases hlt:j < bs.length
   · rw [eZ,List.getElem?_eq_getElem hlt,Option.getD_some] at hB
     rw [n3 _ (List.getElem_mem hlt)] at hB;cases hB
   · rw [eZ,List.getElem?_eq_none (by omega),Option.getD_none] at hB;cases hB
 have nol:∀{m:List SV},SV.hasBl bs.length m=false->∀j,SV.hasl j m->j≠bs.length:=fun hm j hj e=>by
   subst e;rw [hasl_B _ hj] at hm;cases hm
 have hcall:=h.2 (ρ.set bs.length q) W vs ?_ ?_ ?_ ?_ ?_
 · refine hcall.mono fun e W' hR=>?_
   obtain⟨ρ',v,r1,r2,r3,r4,r5,r6,r7,r8,r9⟩:=hR
   have un1:∀j,fU (dK ρ W bs).base [] [] j=.un:=fun j=>by unfold fU;simp
   have un2:∀j,fU (dK (ρ.set bs.length q) W (bs++[.live false true (flat c l)])).base [] [] j=.un:=fun j=>by unfold fU;simp
   refine⟨ρ',v,r1,fun j hj=>?_,r3,?_,fun j=>?_,fun j=>?_,fun j k b1 m1 b2 m2 hjk o1 o2 e1 e2=>?_,r8,fun b0 o0 hf0=>?_⟩
   · have hj':j < bs.length:=hj
     rw [r2 j (by simp [dK];omega)];exact hne j (by omega)
   · have:(dK (ρ.set bs.length q) W (bs++[.live false true (flat c l)])).own=(dK ρ W bs).own:=hown
     rw [this] at r4;exact r4
   · rw [un1];trivial
   · rw [un1];trivial
   · rw [un1] at o1;exact o1.elim
   · obtain⟨t1,t2,t3⟩:=r9 b0 o0 hf0
     rw [hmine] at t3
     exact⟨t1,fun j n hj=>by rw [un1] at hj;exact hj.elim,t3⟩
 · refine aEo hr (ρ.le_set _ _) (fun j hj=>hne j ?_) ⟨_,hy,by
     simp only [Rel]
     exact⟨_,rfl,g1,Rels.congr (ρ.le_set _ _) _ _ (fun j hj=>hne j (nol n7 j hj)) hzt⟩⟩
   rcases hj with hj | hj
   · exact nol n1 j hj
   · exact nol n2 j hj
 · intro j
   rw [hmine,lI]
   by_cases hj:j=bs.length
   · rw [if_pos hj,hj];exact g2
   · rw [if_neg hj]
     exact BRep.congr (ρ.le_set _ _) (hne j hj) (fun k hk=>hne k (fun e=>by subst e;exact nohas j hk)) (hb j)
 · intro j
   rw [lI]
   by_cases hj:j=bs.length
   · rw [if_pos hj]
     exact hpf
   · rw [if_neg hj];exact hpl j
 · intro j k b1 m1 b2 m2 hjk o1 o2 e1 e2
   rw [lI] at o1 o2
   have hj:j≠bs.length:=fun e=>by rw [if_pos e] at o1;exact o1
   have hk:k≠bs.length:=fun e=>by rw [if_pos e] at o2;exact o2
   rw [if_neg hj] at o1
   rw [if_neg hk] at o2
   rw [hne j hj] at e1
   rw [hne k hk] at e2
   exact hap j k b1 m1 b2 m2 hjk o1 o2 e1 e2
 · intro b0 o0 hf0
   obtain⟨t1,t2⟩:=hfz b0 o0 hf0
   refine⟨t1,fun j n hj=>?_⟩
   rw [lI] at hj
   have hji:j≠bs.length:=fun e=>by rw [if_pos e] at hj;exact hj
   rw [if_neg hji] at hj
   rw [hne j hji]
   exact t2 j n hj
theorem aOa {l:List CT} {B:Nat} (h:∀c∈l,c.1.length<=B)(i:Nat):(l.getD i default).1.length<=B:=by
 by_cases hi:i < l.length
 · rw [eZ,List.getElem?_eq_getElem hi,Option.getD_some]
   exact h _ (List.getElem_mem hi)
 · rw [eZ,List.getElem?_eq_none (by omega),Option.getD_none]
   exact Nat.zero_le _
def NHI (l:List CT)(i:Int):Prop:=∀j:Nat,j < toNat i->(l.getD j default).1.length<=300
theorem aXh (l:List CT):NHI l 0:=fun j h=>by simp at h
theorem aXi {l:List CT} {i:Int} (h:NHI l i)(h0:0<=i)(hn:(l.getD (toNat i) default).1.length<=300):NHI l (i+1):=fun j hj=>by
 by_cases e:j=toNat i
 · rw [e];exact hn
 · exact h j (by omega)
theorem aOb {l:List CT} {i:Int} (h:NHI l i)(he:(l.length:Int)<=i):∀c∈l,c.1.length<=9223372036854775807:=fun c hc=>by
 obtain⟨j,hj,rfl⟩:=List.mem_iff_getElem.1 hc
 have:=h j (by omega)
 rw [eZ,List.getElem?_eq_getElem hj,Option.getD_some] at this
 omega
def c47 (x:List (Int)×Zt):List SV:=[(.d (flat c3 x.1) x.1.length 1),(iv x.2.1),(iv x.2.2.1),(iv x.2.2.2)]
theorem sC (x:List (Int)×Zt):(c47 x).length=4:=rfl
noncomputable def aAq:Code:=(aD [1,1,1,1,1,0,1] [] (aG Tryz.f25) []).1
noncomputable def aAr:List K:=(aD [1,1,1,1,1,0,1] [] (aG Tryz.f25) []).2
def wI (a0:Zm)(a1:List (List (Int)×Zt))(v2:Bool)(v3 v4 v5:Int):LS:=⟨iH 48 [(2,(.p 3 0)),(4,(.p 4 0)),(7,(.p 5 0)),(8,(.v (.bool v2))),(23,(.s 2 0 a1.length 4)),(24,(iv (a1.length:Int))),(25,(iv v3))],[(.live false true (flat dL a0.1)),(.live false true (flat dW a0.2)),(.live false true (flat c47 a1)),(.live true false [(.s 0 0 a0.1.length 3),(.s 1 0 a0.2.length 3)]),(.live true false [(iv 0),(iv 0)]),(.live true false [(iv v4),(iv v5)])]⟩
def fI (a0:Zm)(a1:List (List (Int)×Zt)):Bool×Zt->(Bool×Zt)⊕((Int×Int)×Int)
 | (v2,v3,v4,v5) =>
  (bif (decide ((v3:Int) < (a1.length:Int))) then
   (bif ((kP (a0.1,a0.2) ((a1.getD (toNat v3) default).1,(a1.getD (toNat v3) default).2.1,(a1.getD (toNat v3) default).2.2)).1) then
    (.inl (v2,(v3+1),v4,v5))
   else
    (.inl (true,(v3+1),(F42 (v4,v5) (kP (a0.1,a0.2) ((a1.getD (toNat v3) default).1,(a1.getD (toNat v3) default).2.1,(a1.getD (toNat v3) default).2.2)).2.2).1.1,(F42 (v4,v5) (kP (a0.1,a0.2) ((a1.getD (toNat v3) default).1,(a1.getD (toNat v3) default).2.1,(a1.getD (toNat v3) default).2.2)).2.2).1.2)))
  else
   (bif (!v2) then
    (.inr ((0,0),12))
   else
    (.inr ((v4,v5),0))))
theorem aWo (a0:Zm)(a1:List (List (Int)×Zt))(l0_1:a0.1.length<=9223372036854775807)(l0_2:a0.2.length<=9223372036854775807)(l1:a1.length<=9223372036854775807)(hl:a1.length<=16->∀c∈a1,c.1.length<=9223372036854775807) {cx:Cx} (hcx:cx.base=3):∀(n:Nat)(v2:Bool)(v3 v4 v5:Int),(0<=v3)/\(a1.length<=16)->toNat ((a1.length:Int) - v3) < n->Aw.Good Tryz.prog none 9 (bodyPost Tryz.prog Tryz.f25 (RR cx (.t [(.a (k2 (aB (fI a0 a1) n (v2,v3,v4,v5)).1)),(iv (aB (fI a0 a1) n (v2,v3,v4,v5)).2)]) [] [])) cx [] (.l aAq n::aAr) (wI a0 a1 v2 v3 v4 v5):=by
 intro n
 induction n with
 | zero=>intro v2 v3 v4 v5 hi hn;exact absurd hn (gP _)
 | succ n ih =>
   intro v2 v3 v4 v5 hi hn
   refine aH ?_
   have hli:=aOa (hl hi.2) (toNat v3)
   cases h0:(decide ((v3:Int) < (a1.length:Int))) with
   | true =>
    have q0:=bO h0
    let t1:List (St Tryz.prog):=[.d h0,.i v3 (a1.length),.L sC a1 v3 0 4]
    cases h1:((kP (a0.1,a0.2) ((a1.getD (toNat v3) default).1,(a1.getD (toNat v3) default).2.1,(a1.getD (toNat v3) default).2.2)).1) with
    | true =>
     have e:=Eq.refl (fI a0 a1 (v2,v3,v4,v5));conv at e=>rhs;simp only [fI,h0,h1,aI]
     rw [aA e]
     refine ba (t1++[.c [0,1] (show Con Tryz.prog 49 [(.a [(.s 0 0 a0.1.length 3),(.s 1 0 a0.2.length 3)]),(.a [(.d (flat c3 (a1.getD (toNat v3) default).1) (a1.getD (toNat v3) default).1.length 1),(iv (a1.getD (toNat v3) default).2.1),(iv (a1.getD (toNat v3) default).2.2.1),(iv (a1.getD (toNat v3) default).2.2.2)])] [(.live false true (flat dL a0.1)),(.live false true (flat dW a0.2))] (.v (.iface 87 (.agg [(.int .i64 (kP (a0.1,a0.2) ((a1.getD (toNat v3) default).1,(a1.getD (toNat v3) default).2.1,(a1.getD (toNat v3) default).2.2)).2.1)].toArray))) [] from Con.frozen (c:=c3) (l:=(a1.getD (toNat v3) default).1) (es:=1) (ys:=(k3 (a1.getD (toNat v3) default).2)) (pre:=[(.a [(.s 0 0 a0.1.length 3),(.s 1 0 a0.2.length 3)])]) (post:=[]) (bs:=[(.live false true (flat dL a0.1)),(.live false true (flat dW a0.2))]) (fD (fun _=>rfl)) (by rfl) (bEp (a0.1,a0.2) ((a1.getD (toNat v3) default).1,(a1.getD (toNat v3) default).2.1,(a1.getD (toNat v3) default).2.2) (by(try simp only [Lt]);omega) (by(try simp only [Lt]);omega) (by(try simp only [Lt]);omega) h1))]) [] [2,4,7,8,23,24,25] [3,4,5] hcx (m:=n) aAq (aAr) (wI a0 a1 v2 (W (v3+1)) v4 v5) (by kernel_rfl) ?_
     have z0:(W (v3+1))=(v3+1):=aE (by omega) (by omega)
     rw [z0]
     exact ih v2 (v3+1) v4 v5 (by refine⟨?_,?_⟩<;>(try simp only [Ls])<;>first | omega | assumption | simp) (by(try simp only [Ls]);omega)
    | false =>
     have e:=Eq.refl (fI a0 a1 (v2,v3,v4,v5));conv at e=>rhs;simp only [fI,h0,h1,aI]
     rw [aA e]
     refine ba (t1++[.c [0,1] (show Con Tryz.prog 49 [(.a [(.s 0 0 a0.1.length 3),(.s 1 0 a0.2.length 3)]),(.a [(.d (flat c3 (a1.getD (toNat v3) default).1) (a1.getD (toNat v3) default).1.length 1),(iv (a1.getD (toNat v3) default).2.1),(iv (a1.getD (toNat v3) default).2.2.1),(iv (a1.getD (toNat v3) default).2.2.2)])] [(.live false true (flat dL a0.1)),(.live false true (flat dW a0.2))] (.v (.iface 91 (.agg [(.int .i64 (kP (a0.1,a0.2) ((a1.getD (toNat v3) default).1,(a1.getD (toNat v3) default).2.1,(a1.getD (toNat v3) default).2.2)).2.2.1),(.int .i64 (kP (a0.1,a0.2) ((a1.getD (toNat v3) default).1,(a1.getD (toNat v3) default).2.1,(a1.getD (toNat v3) default).2.2)).2.2.2)].toArray))) [] from Con.frozen (c:=c3) (l:=(a1.getD (toNat v3) default).1) (es:=1) (ys:=(k3 (a1.getD (toNat v3) default).2)) (pre:=[(.a [(.s 0 0 a0.1.length 3),(.s 1 0 a0.2.length 3)])]) (post:=[]) (bs:=[(.live false true (flat dL a0.1)),(.live false true (flat dW a0.2))]) (fD (fun _=>rfl)) (by rfl) (bEq (a0.1,a0.2) ((a1.getD (toNat v3) default).1,(a1.getD (toNat v3) default).2.1,(a1.getD (toNat v3) default).2.2) (by(try simp only [Lt]);omega) (by(try simp only [Lt]);omega) (by(try simp only [Lt]);omega) h1)),.c [] (C42 (v4,v5) (kP (a0.1,a0.2) ((a1.getD (toNat v3) default).1,(a1.getD (toNat v3) default).2.1,(a1.getD (toNat v3) default).2.2)).2.2)]) [] [2,4,7,8,23,24,25] [3,4,5] hcx (m:=n) aAq (aAr) (wI a0 a1 true (W (v3+1)) ((F42 (v4,v5) (kP (a0.1,a0.2) ((a1.getD (toNat v3) default).1,(a1.getD (toNat v3) default).2.1,(a1.getD (toNat v3) default).2.2)).2.2).1.1) ((F42 (v4,v5) (kP (a0.1,a0.2) ((a1.getD (toNat v3) default).1,(a1.getD (toNat v3) default).2.1,(a1.getD (toNat v3) default).2.2)).2.2).1.2)) (by kernel_rfl) ?_
     have z0:(W (v3+1))=(v3+1):=aE (by omega) (by omega)
     rw [z0]
     exact ih true (v3+1) ((F42 (v4,v5) (kP (a0.1,a0.2) ((a1.getD (toNat v3) default).1,(a1.getD (toNat v3) default).2.1,(a1.getD (toNat v3) default).2.2)).2.2).1.1) ((F42 (v4,v5) (kP (a0.1,a0.2) ((a1.getD (toNat v3) default).1,(a1.getD (toNat v3) default).2.1,(a1.getD (toNat v3) default).2.2)).2.2).1.2) (by refine⟨?_,?_⟩<;>(try simp only [Ls])<;>first | omega | assumption | simp) (by(try simp only [Ls]);omega)
   | false =>
    have q0:=cA h0
    let t1:List (St Tryz.prog):=[.d h0]
    cases h1:(!v2) with
    | true =>
     have e:=Eq.refl (fI a0 a1 (v2,v3,v4,v5));conv at e=>rhs;simp only [fI,h0,h1,aI]
     rw [aC,e]
     exact rt (t1++[.d h1]) [] [] hcx (by kernel_rfl)
    | false =>
     have e:=Eq.refl (fI a0 a1 (v2,v3,v4,v5));conv at e=>rhs;simp only [fI,h0,h1,aI]
     rw [aC,e]
     exact rt (t1++[.d h1]) [] [] hcx (by kernel_rfl)
def gJ (a0:Zm)(a1:List (List (Int)×Zt)):(Int×Int)×Int :=
 (bif (((fB (a0.1,a0.2)):Int) != 0) then
  ((0,0),(fB (a0.1,a0.2)))
 else
  (bif (decide (((a1.length:Int):Int) > 16)) then
   ((0,0),4)
  else
   (aB (fI a0 a1) (toNat ((a1.length:Int) - 0)+1) (false,0,(-1099511627776),1099511627776))))
theorem aXj (a0:Zm)(a1:List (List (Int)×Zt))(l0_1:a0.1.length<=9223372036854775807)(l0_2:a0.2.length<=9223372036854775807)(l1:a1.length<=9223372036854775807)(hl:a1.length<=16->∀c∈a1,c.1.length<=9223372036854775807):Con Tryz.prog 25 [(.a [(.s 0 0 a0.1.length 3),(.s 1 0 a0.2.length 3)]),(.s 2 0 a1.length 4)] [(.live false true (flat dL a0.1)),(.live false true (flat dW a0.2)),(.live false true (flat c47 a1))] (.t [(.a (k2 (gJ a0 a1).1)),(iv (gJ a0 a1).2)]) []:=by
 refine aJ Tryz.func25 (by kernel_rfl) fun cx hcx=>?_
 let t0:List (St Tryz.prog):=[.c [0,1] (C35 (a0.1,a0.2) (by(try simp only [Lt]);omega) (by(try simp only [Lt]);omega))]
 cases h0:(((fB (a0.1,a0.2)):Int) != 0) with
 | true =>
  have q0:=bne_iff_ne.1 h0
  have e:=Eq.refl (gJ a0 a1);conv at e=>rhs;simp only [gJ,h0,aI]
  rw [e]
  exact rt (t0++[.d h0]) [] [] hcx (by kernel_rfl)
 | false =>
  have q0:=bne_eq_false_iff_eq.1 h0
  let t1:List (St Tryz.prog):=(t0++[.d h0])
  cases h1:(decide (((a1.length:Int):Int) > 16)) with
  | true =>
   have q1:=bO h1
   have e:=Eq.refl (gJ a0 a1);conv at e=>rhs;simp only [gJ,h0,h1,aI]
   rw [e]
   exact rt (t1++[.d h1]) [] [] hcx (by kernel_rfl)
  | false =>
   have q1:=cA h1
   have e:=Eq.refl (gJ a0 a1);conv at e=>rhs;simp only [gJ,h0,h1,aI]
   rw [e]
   refine en (t1++[.d h1]) [] [2,4,7,8,23,24,25] [3,4,5] hcx aAq (aAr) (wI a0 a1 false 0 (-1099511627776) 1099511627776) (toNat ((a1.length:Int) - 0)+1) (by kernel_rfl) ?_
   exact aWo a0 a1 l0_1 l0_2 l1 hl hcx (toNat ((a1.length:Int) - 0)+1) false 0 (-1099511627776) 1099511627776 (by refine⟨?_,?_⟩<;>(try simp only [Ls])<;>first | omega | assumption | simp) (by(try simp only [Ls]);omega)
noncomputable def aAs:Code:=(aD [1,1,1,1,1,1,0,1] [] (aG Tryz.f26) []).1
noncomputable def aAt:List K:=(aD [1,1,1,1,1,1,0,1] [] (aG Tryz.f26) []).2
def wJ (a0:Zm)(a1:List (List (Int)×Zt))(v1:Bool)(v2 v3 v4:Int):LS:=⟨iH 58 [(1,(.s 2 0 a1.length 4)),(2,(.p 3 0)),(4,(.p 4 0)),(7,(.p 5 0)),(8,(.v (.bool v1))),(9,(iv v2))],[(.live false true (flat dL a0.1)),(.live false true (flat dW a0.2)),(.live false true (flat c47 a1)),(.live true false [(.s 0 0 a0.1.length 3),(.s 1 0 a0.2.length 3)]),(.live true false [(iv 0),(iv 0)]),(.live true false [(iv v3),(iv v4)])]⟩
def fJ (a0:Zm)(a1:List (List (Int)×Zt)):Bool×Zt->(Bool×Zt)⊕((Int×Int)×Int)
 | (v1,v2,v3,v4) =>
  (bif (decide ((v2:Int) < (a1.length:Int))) then
   (bif (((F19 (a0.1,a0.2) ((a1.getD (toNat v2) default).1,(a1.getD (toNat v2) default).2.1,(a1.getD (toNat v2) default).2.2)):Int) == 0) then
    (.inl (true,(v2+1),(iI v3 (a1.getD (toNat v2) default).2.2.1),(nU v4 (a1.getD (toNat v2) default).2.2.2)))
   else
    (.inl (v1,(v2+1),v3,v4)))
  else
   (bif (!v1) then
    (.inr ((0,0),12))
   else
    (.inr ((v3,v4),0))))
theorem aWp (a0:Zm)(a1:List (List (Int)×Zt))(l0_1:a0.1.length<=9223372036854775807)(l0_2:a0.2.length<=9223372036854775807)(l1:a1.length<=9223372036854775807)(hl:a1.length<=16->∀c∈a1,c.1.length<=9223372036854775807) {cx:Cx} (hcx:cx.base=3):∀(n:Nat)(v1:Bool)(v2 v3 v4:Int),(0<=v2)/\(a1.length<=16)->toNat ((a1.length:Int) - v2) < n->Aw.Good Tryz.prog none 9 (bodyPost Tryz.prog Tryz.f26 (RR cx (.t [(.a (k2 (aB (fJ a0 a1) n (v1,v2,v3,v4)).1)),(iv (aB (fJ a0 a1) n (v1,v2,v3,v4)).2)]) [] [])) cx [] (.l aAs n::aAt) (wJ a0 a1 v1 v2 v3 v4):=by
 intro n
 induction n with
 | zero=>intro v1 v2 v3 v4 hi hn;exact absurd hn (gP _)
 | succ n ih =>
   intro v1 v2 v3 v4 hi hn
   refine aH ?_
   have hli:=aOa (hl hi.2) (toNat v2)
   cases h0:(decide ((v2:Int) < (a1.length:Int))) with
   | true =>
    have q0:=bO h0
    let t1:List (St Tryz.prog):=[.d h0,.i v2 (a1.length),.L sC a1 v2 0 4,.c [0,1] (show Con Tryz.prog 19 [(.a [(.s 0 0 a0.1.length 3),(.s 1 0 a0.2.length 3)]),(.a [(.d (flat c3 (a1.getD (toNat v2) default).1) (a1.getD (toNat v2) default).1.length 1),(iv (a1.getD (toNat v2) default).2.1),(iv (a1.getD (toNat v2) default).2.2.1),(iv (a1.getD (toNat v2) default).2.2.2)])] [(.live false true (flat dL a0.1)),(.live false true (flat dW a0.2))] (iv (F19 (a0.1,a0.2) ((a1.getD (toNat v2) default).1,(a1.getD (toNat v2) default).2.1,(a1.getD (toNat v2) default).2.2))) [] from Con.frozen (c:=c3) (l:=(a1.getD (toNat v2) default).1) (es:=1) (ys:=(k3 (a1.getD (toNat v2) default).2)) (pre:=[(.a [(.s 0 0 a0.1.length 3),(.s 1 0 a0.2.length 3)])]) (post:=[]) (bs:=[(.live false true (flat dL a0.1)),(.live false true (flat dW a0.2))]) (fD (fun _=>rfl)) (by rfl) (C19 (a0.1,a0.2) ((a1.getD (toNat v2) default).1,(a1.getD (toNat v2) default).2.1,(a1.getD (toNat v2) default).2.2) (by(try simp only [Lt]);omega) (by(try simp only [Lt]);omega) (by(try simp only [Lt]);omega)))]
    cases h1:(((F19 (a0.1,a0.2) ((a1.getD (toNat v2) default).1,(a1.getD (toNat v2) default).2.1,(a1.getD (toNat v2) default).2.2)):Int) == 0) with
    | true =>
     have q1:=eq_of_beq h1
     have e:=Eq.refl (fJ a0 a1 (v1,v2,v3,v4));conv at e=>rhs;simp only [fJ,h0,h1,aI]
     rw [aA e]
     refine ba (t1++[.d h1,.i v2 (a1.length),.L sC a1 v2 2 1,.i v2 (a1.length),.L sC a1 v2 3 1]) [] [1,2,4,7,8,9] [3,4,5] hcx (m:=n) aAs (aAt) (wJ a0 a1 true (W (v2+1)) (iI v3 (a1.getD (toNat v2) default).2.2.1) (nU v4 (a1.getD (toNat v2) default).2.2.2)) (by kernel_rfl) ?_
     have z0:(W (v2+1))=(v2+1):=aE (by omega) (by omega)
     rw [z0]
     exact ih true (v2+1) (iI v3 (a1.getD (toNat v2) default).2.2.1) (nU v4 (a1.getD (toNat v2) default).2.2.2) (by refine⟨?_,?_⟩<;>(try simp only [Ls])<;>first | omega | assumption | simp) (by(try simp only [Ls]);omega)
    | false =>
     have q1:=ne_of_beq_false h1
     have e:=Eq.refl (fJ a0 a1 (v1,v2,v3,v4));conv at e=>rhs;simp only [fJ,h0,h1,aI]
     rw [aA e]
     refine ba (t1++[.d h1]) [] [1,2,4,7,8,9] [3,4,5] hcx (m:=n) aAs (aAt) (wJ a0 a1 v1 (W (v2+1)) v3 v4) (by kernel_rfl) ?_
     have z0:(W (v2+1))=(v2+1):=aE (by omega) (by omega)
     rw [z0]
     exact ih v1 (v2+1) v3 v4 (by refine⟨?_,?_⟩<;>(try simp only [Ls])<;>first | omega | assumption | simp) (by(try simp only [Ls]);omega)
   | false =>
    have q0:=cA h0
    let t1:List (St Tryz.prog):=[.d h0]
    cases h1:(!v1) with
    | true =>
     have e:=Eq.refl (fJ a0 a1 (v1,v2,v3,v4));conv at e=>rhs;simp only [fJ,h0,h1,aI]
     rw [aC,e]
     exact rt (t1++[.d h1]) [] [] hcx (by kernel_rfl)
    | false =>
     have e:=Eq.refl (fJ a0 a1 (v1,v2,v3,v4));conv at e=>rhs;simp only [fJ,h0,h1,aI]
     rw [aC,e]
     exact rt (t1++[.d h1]) [] [] hcx (by kernel_rfl)
def gK (a0:Zm)(a1:List (List (Int)×Zt)):(Int×Int)×Int :=
 (bif (((vU (a0.1,a0.2)):Int) != 0) then
  ((0,0),(vU (a0.1,a0.2)))
 else
  (bif (decide (((a1.length:Int):Int) > 16)) then
   ((0,0),4)
  else
   (aB (fJ a0 a1) (toNat ((a1.length:Int) - 0)+1) (false,0,(-1099511627776),1099511627776))))
theorem aXk (a0:Zm)(a1:List (List (Int)×Zt))(l0_1:a0.1.length<=9223372036854775807)(l0_2:a0.2.length<=9223372036854775807)(l1:a1.length<=9223372036854775807)(hl:a1.length<=16->∀c∈a1,c.1.length<=9223372036854775807):Con Tryz.prog 26 [(.a [(.s 0 0 a0.1.length 3),(.s 1 0 a0.2.length 3)]),(.s 2 0 a1.length 4)] [(.live false true (flat dL a0.1)),(.live false true (flat dW a0.2)),(.live false true (flat c47 a1))] (.t [(.a (k2 (gK a0 a1).1)),(iv (gK a0 a1).2)]) []:=by
 refine aJ Tryz.func26 (by kernel_rfl) fun cx hcx=>?_
 let t0:List (St Tryz.prog):=[.c [0,1] (C50 (a0.1,a0.2) (by(try simp only [Lt]);omega) (by(try simp only [Lt]);omega))]
 cases h0:(((vU (a0.1,a0.2)):Int) != 0) with
 | true =>
  have q0:=bne_iff_ne.1 h0
  have e:=Eq.refl (gK a0 a1);conv at e=>rhs;simp only [gK,h0,aI]
  rw [e]
  exact rt (t0++[.d h0]) [] [] hcx (by kernel_rfl)
 | false =>
  have q0:=bne_eq_false_iff_eq.1 h0
  let t1:List (St Tryz.prog):=(t0++[.d h0])
  cases h1:(decide (((a1.length:Int):Int) > 16)) with
  | true =>
   have q1:=bO h1
   have e:=Eq.refl (gK a0 a1);conv at e=>rhs;simp only [gK,h0,h1,aI]
   rw [e]
   exact rt (t1++[.d h1]) [] [] hcx (by kernel_rfl)
  | false =>
   have q1:=cA h1
   have e:=Eq.refl (gK a0 a1);conv at e=>rhs;simp only [gK,h0,h1,aI]
   rw [e]
   refine en (t1++[.d h1]) [] [1,2,4,7,8,9] [3,4,5] hcx aAs (aAt) (wJ a0 a1 false 0 (-1099511627776) 1099511627776) (toNat ((a1.length:Int) - 0)+1) (by kernel_rfl) ?_
   exact aWp a0 a1 l0_1 l0_2 l1 hl hcx (toNat ((a1.length:Int) - 0)+1) false 0 (-1099511627776) 1099511627776 (by refine⟨?_,?_⟩<;>(try simp only [Ls])<;>first | omega | assumption | simp) (by(try simp only [Ls]);omega)
noncomputable def aL8:Code:=(aD [1,1,0,1] [] (aG Tryz.f8) []).1
noncomputable def aL9:List K:=(aD [1,1,0,1] [] (aG Tryz.f8) []).2
def aHt (a0:Zm)(a1:List (List (Int)×Zt))(v1:Int):LS:=⟨iH 78 [(1,(.s 2 0 a1.length 4)),(2,(.p 3 0)),(5,(iv v1))],[(.live false true (flat dL a0.1)),(.live false true (flat dW a0.2)),(.live false true (flat c47 a1)),(.live true false [(.s 0 0 a0.1.length 3),(.s 1 0 a0.2.length 3)])]⟩
def cS (a0:Zm)(a1:List (List (Int)×Zt)):Int->(Int)⊕(Bool)
 | v1 =>
  (bif (decide ((v1:Int) < (a1.length:Int))) then
   (bif (decide (((a1.length:Int):Int)<=5)) then
    (bif (F9 (a0.1,a0.2) (a1.getD (toNat v1) default).2.1) then
     (.inr F10)
    else
     (bif (decide (((((a1.getD (toNat v1) default).1.length:Nat):Int):Int) > 300)) then
      (.inr F10)
     else
      (.inl (v1+1))))
   else
    (bif (F9 (a0.1,a0.2) (-1)) then
     (.inr F10)
    else
     (bif ((((gJ (a0.1,a0.2) a1).1.1:Int) == (gK (a0.1,a0.2) a1).1.1)&&((((gJ (a0.1,a0.2) a1).1.2:Int) == (gK (a0.1,a0.2) a1).1.2)&&true)) then
      (bif (((gJ (a0.1,a0.2) a1).2:Int) == (gK (a0.1,a0.2) a1).2) then
       (.inr F10)
      else
       (.inr false))
     else
      (.inr false))))
  else
   (bif (F9 (a0.1,a0.2) (-1)) then
    (.inr F10)
   else
    (bif ((((gJ (a0.1,a0.2) a1).1.1:Int) == (gK (a0.1,a0.2) a1).1.1)&&((((gJ (a0.1,a0.2) a1).1.2:Int) == (gK (a0.1,a0.2) a1).1.2)&&true)) then
     (bif (((gJ (a0.1,a0.2) a1).2:Int) == (gK (a0.1,a0.2) a1).2) then
      (.inr F10)
     else
      (.inr false))
    else
     (.inr false))))
noncomputable def aHu:Code:=(fE [1,1,0,0] [] (aG Tryz.f8)).1
noncomputable def aHv:List K:=(fE [1,1,0,0] [] (aG Tryz.f8)).2
def aDk (a0:Zm)(a1:List (List (Int)×Zt)):LS:=⟨iH 78 [(1,(.s 2 0 a1.length 4)),(2,(.p 3 0))],[(.live false true (flat dL a0.1)),(.live false true (flat dW a0.2)),(.live false true (flat c47 a1)),(.live true false [(.s 0 0 a0.1.length 3),(.s 1 0 a0.2.length 3)])]⟩
def sD (a0:Zm)(a1:List (List (Int)×Zt)):Unit->Bool
 | () =>
  (aB (cS a0 a1) (toNat ((a1.length:Int) - 0)+1) 0)
theorem bAr (a0:Zm)(a1:List (List (Int)×Zt))(l0_1:a0.1.length<=9223372036854775807)(l0_2:a0.2.length<=9223372036854775807)(l1:a1.length<=9223372036854775807) {cx:Cx} (hcx:cx.base=3):∀(n:Nat)(v1:Int),(0<=v1)/\(a1.length<=5\/16 < a1.length)/\(NHI a1 v1)->toNat ((a1.length:Int) - v1) < n->Aw.Good Tryz.prog none 9 (bodyPost Tryz.prog Tryz.f8 (RR cx (.v (.bool (aB (cS a0 a1) n v1))) [] [])) cx [] (.l aL8 n::aL9) (aHt a0 a1 v1):=by
 intro n
 induction n with
 | zero=>intro v1 hi hn;exact absurd hn (gP _)
 | succ n ih =>
   intro v1 hi hn
   refine aH ?_
   cases h0:(decide ((v1:Int) < (a1.length:Int))) with
   | true =>
    have q0:=bO h0
    let t1:List (St Tryz.prog):=[.d h0]
    cases h1:(decide (((a1.length:Int):Int)<=5)) with
    | true =>
     have q1:=bO h1
     let t2:List (St Tryz.prog):=(t1++[.d h1,.i v1 (a1.length),.L sC a1 v1 1 1,.c [0,1] (C9 (a0.1,a0.2) (a1.getD (toNat v1) default).2.1 (by(try simp only [Lt]);omega) (by(try simp only [Lt]);omega))])
     cases h2:(F9 (a0.1,a0.2) (a1.getD (toNat v1) default).2.1) with
     | true =>
      have e:=Eq.refl (cS a0 a1 v1);conv at e=>rhs;simp only [cS,h0,h1,h2,aI]
      rw [aC,e]
      exact rt (t2++[.d h2,.c [] (C10)]) [] [] hcx (by kernel_rfl)
     | false =>
      let t3:List (St Tryz.prog):=(t2++[.d h2,.i v1 (a1.length),.L sC a1 v1 0 1,.p (aAf (c:=c3) (fun _=>rfl) (a1.getD (toNat v1) default).1)])
      cases h3:(decide (((((a1.getD (toNat v1) default).1.length:Nat):Int):Int) > 300)) with
      | true =>
       have q3:=bO h3
       have e:=Eq.refl (cS a0 a1 v1);conv at e=>rhs;simp only [cS,h0,h1,h2,h3,aI]
       rw [aC,e]
       exact rt (t3++[.d h3,.c [] (C10)]) [] [] hcx (by kernel_rfl)
      | false =>
       have q3:=cA h3
       have e:=Eq.refl (cS a0 a1 v1);conv at e=>rhs;simp only [cS,h0,h1,h2,h3,aI]
       rw [aA e]
       refine ba (t3++[.d h3]) [] [1,2,5] [3] hcx (m:=n) aL8 (aL9) (aHt a0 a1 (W (v1+1))) (by kernel_rfl) ?_
       have z0:(W (v1+1))=(v1+1):=aE (by omega) (by omega)
       rw [z0]
       exact ih (v1+1) (by refine⟨?_,?_,?_⟩<;>first | omega | exact aXh _ | exact aXi hi.2.2 hi.1 (by omega)) (by(try simp only [Ls]);omega)
    | false =>
     have q1:=cA h1
     let t2:List (St Tryz.prog):=(t1++[.d h1,.c [0,1] (C9 (a0.1,a0.2) (-1) (by(try simp only [Lt]);omega) (by(try simp only [Lt]);omega))])
     cases h2:(F9 (a0.1,a0.2) (-1)) with
     | true =>
      have e:=Eq.refl (cS a0 a1 v1);conv at e=>rhs;simp only [cS,h0,h1,h2,aI]
      rw [aC,e]
      exact rt (t2++[.d h2,.c [] (C10)]) [] [] hcx (by kernel_rfl)
     | false =>
      let t3:List (St Tryz.prog):=(t2++[.d h2,.c [0,1,2] (aXj (a0.1,a0.2) a1 (by(try simp only [Lt]);omega) (by(try simp only [Lt]);omega) (by omega) (fun hx=>by first | exact aOb hi.2.2 (by omega) | (exfalso;omega))),.c [0,1,2] (aXk (a0.1,a0.2) a1 (by(try simp only [Lt]);omega) (by(try simp only [Lt]);omega) (by omega) (fun hx=>by first | exact aOb hi.2.2 (by omega) | (exfalso;omega)))])
      cases h3:((((gJ (a0.1,a0.2) a1).1.1:Int) == (gK (a0.1,a0.2) a1).1.1)&&((((gJ (a0.1,a0.2) a1).1.2:Int) == (gK (a0.1,a0.2) a1).1.2)&&true)) with
      | true =>
       let t4:List (St Tryz.prog):=(t3++[.d h3])
       cases h4:(((gJ (a0.1,a0.2) a1).2:Int) == (gK (a0.1,a0.2) a1).2) with
       | true =>
        have q4:=eq_of_beq h4
        have e:=Eq.refl (cS a0 a1 v1);conv at e=>rhs;simp only [cS,h0,h1,h2,h3,h4,aI]
        rw [aC,e]
        exact rt (t4++[.d h4,.c [] (C10)]) [] [] hcx (by kernel_rfl)
       | false =>
        have q4:=ne_of_beq_false h4
        have e:=Eq.refl (cS a0 a1 v1);conv at e=>rhs;simp only [cS,h0,h1,h2,h3,h4,aI]
        rw [aC,e]
        exact rt (t4++[.d h4]) [] [] hcx (by kernel_rfl)
      | false =>
       have e:=Eq.refl (cS a0 a1 v1);conv at e=>rhs;simp only [cS,h0,h1,h2,h3,aI]
       rw [aC,e]
       exact rt (t3++[.d h3]) [] [] hcx (by kernel_rfl)
   | false =>
    have q0:=cA h0
    let t1:List (St Tryz.prog):=[.d h0,.c [0,1] (C9 (a0.1,a0.2) (-1) (by(try simp only [Lt]);omega) (by(try simp only [Lt]);omega))]
    cases h1:(F9 (a0.1,a0.2) (-1)) with
    | true =>
     have e:=Eq.refl (cS a0 a1 v1);conv at e=>rhs;simp only [cS,h0,h1,aI]
     rw [aC,e]
     exact rt (t1++[.d h1,.c [] (C10)]) [] [] hcx (by kernel_rfl)
    | false =>
     let t2:List (St Tryz.prog):=(t1++[.d h1,.c [0,1,2] (aXj (a0.1,a0.2) a1 (by(try simp only [Lt]);omega) (by(try simp only [Lt]);omega) (by omega) (fun hx=>by first | exact aOb hi.2.2 (by omega) | (exfalso;omega))),.c [0,1,2] (aXk (a0.1,a0.2) a1 (by(try simp only [Lt]);omega) (by(try simp only [Lt]);omega) (by omega) (fun hx=>by first | exact aOb hi.2.2 (by omega) | (exfalso;omega)))])
     cases h2:((((gJ (a0.1,a0.2) a1).1.1:Int) == (gK (a0.1,a0.2) a1).1.1)&&((((gJ (a0.1,a0.2) a1).1.2:Int) == (gK (a0.1,a0.2) a1).1.2)&&true)) with
     | true =>
      let t3:List (St Tryz.prog):=(t2++[.d h2])
      cases h3:(((gJ (a0.1,a0.2) a1).2:Int) == (gK (a0.1,a0.2) a1).2) with
      | true =>
       have q3:=eq_of_beq h3
       have e:=Eq.refl (cS a0 a1 v1);conv at e=>rhs;simp only [cS,h0,h1,h2,h3,aI]
       rw [aC,e]
       exact rt (t3++[.d h3,.c [] (C10)]) [] [] hcx (by kernel_rfl)
      | false =>
       have q3:=ne_of_beq_false h3
       have e:=Eq.refl (cS a0 a1 v1);conv at e=>rhs;simp only [cS,h0,h1,h2,h3,aI]
       rw [aC,e]
       exact rt (t3++[.d h3]) [] [] hcx (by kernel_rfl)
     | false =>
      have e:=Eq.refl (cS a0 a1 v1);conv at e=>rhs;simp only [cS,h0,h1,h2,aI]
      rw [aC,e]
      exact rt (t2++[.d h2]) [] [] hcx (by kernel_rfl)
theorem aOc (a0:Zm)(a1:List (List (Int)×Zt))(l0_1:a0.1.length<=9223372036854775807)(l0_2:a0.2.length<=9223372036854775807)(l1:a1.length<=9223372036854775807) {cx:Cx} (hcx:cx.base=3):a1.length<=5\/16 < a1.length->Aw.Good Tryz.prog none 9 (bodyPost Tryz.prog Tryz.f8 (RR cx (.v (.bool (sD a0 a1 ()))) [] [])) cx [] (.c aHu::aHv) (aDk a0 a1):=by
 intro hi
 have e:=Eq.refl (sD a0 a1 ());conv at e=>rhs;simp only [sD]
 rw [e]
 refine en [] [] [1,2,5] [3] hcx aL8 (aL9) (aHt a0 a1 0) (toNat ((a1.length:Int) - 0)+1) (by kernel_rfl) ?_
 exact bAr a0 a1 l0_1 l0_2 l1 hcx (toNat ((a1.length:Int) - 0)+1) 0 (by refine⟨?_,?_,?_⟩<;>first | omega | exact aXh _ | exact aXi hi.2.2 hi.1 (by omega)) (by(try simp only [Ls]);omega)
def yQ (a0:Zm)(a1:List (List (Int)×Zt)):Bool :=
 (bif (decide (((a1.length:Int):Int) > 5)) then
  (bif (decide (((a1.length:Int):Int)<=16)) then
   F10
  else
   (bif (decide (((a1.length:Int):Int) > 40)) then
    F10
   else
    (sD a0 a1 ())))
 else
  (bif (decide (((a1.length:Int):Int) > 40)) then
   F10
  else
   (sD a0 a1 ())))
theorem bF5 (a0:Zm)(a1:List (List (Int)×Zt))(l0_1:a0.1.length<=9223372036854775807)(l0_2:a0.2.length<=9223372036854775807)(l1:a1.length<=9223372036854775807):Con Tryz.prog 8 [(.a [(.s 0 0 a0.1.length 3),(.s 1 0 a0.2.length 3)]),(.s 2 0 a1.length 4)] [(.live false true (flat dL a0.1)),(.live false true (flat dW a0.2)),(.live false true (flat c47 a1))] (.v (.bool (yQ a0 a1))) []:=by
 refine aJ Tryz.func8 (by kernel_rfl) fun cx hcx=>?_
 cases h0:(decide (((a1.length:Int):Int) > 5)) with
 | true =>
  have q0:=bO h0
  let t1:List (St Tryz.prog):=[.d h0]
  cases h1:(decide (((a1.length:Int):Int)<=16)) with
  | true =>
   have q1:=bO h1
   have e:=Eq.refl (yQ a0 a1);conv at e=>rhs;simp only [yQ,h0,h1,aI]
   rw [e]
   exact rt (t1++[.d h1,.c [] (C10)]) [] [] hcx (by kernel_rfl)
  | false =>
   have q1:=cA h1
   let t2:List (St Tryz.prog):=(t1++[.d h1])
   cases h2:(decide (((a1.length:Int):Int) > 40)) with
   | true =>
    have q2:=bO h2
    have e:=Eq.refl (yQ a0 a1);conv at e=>rhs;simp only [yQ,h0,h1,h2,aI]
    rw [e]
    exact rt (t2++[.d h2,.c [] (C10)]) [] [] hcx (by kernel_rfl)
   | false =>
    have q2:=cA h2
    have e:=Eq.refl (yQ a0 a1);conv at e=>rhs;simp only [yQ,h0,h1,h2,aI]
    rw [e]
    refine ga (t2++[.d h2,.z 3]) [] [1,2] [3] hcx aHu (aHv) (aDk a0 a1) (by kernel_rfl) ?_
    exact aOc a0 a1 l0_1 l0_2 l1 hcx (by omega)
 | false =>
  have q0:=cA h0
  let t1:List (St Tryz.prog):=[.d h0]
  cases h1:(decide (((a1.length:Int):Int) > 40)) with
  | true =>
   have q1:=bO h1
   have e:=Eq.refl (yQ a0 a1);conv at e=>rhs;simp only [yQ,h0,h1,aI]
   rw [e]
   exact rt (t1++[.d h1,.c [] (C10)]) [] [] hcx (by kernel_rfl)
  | false =>
   have q1:=cA h1
   have e:=Eq.refl (yQ a0 a1);conv at e=>rhs;simp only [yQ,h0,h1,aI]
   rw [e]
   refine ga (t1++[.d h1,.z 3]) [] [1,2] [3] hcx aHu (aHv) (aDk a0 a1) (by kernel_rfl) ?_
   exact aOc a0 a1 l0_1 l0_2 l1 hcx (by omega)
theorem aWq {a c:Int×Int} (ha:vs a)(hc:vs c)(h1:a.1<=c.2)(h2:c.1<=a.2):F42 a c=(((if(a.1:Int) < c.1 then c.1 else a.1),(if(c.2:Int) < a.2 then c.2 else a.2)),true,0):=by
 unfold F42
 have h3:=ha.2.1;have h4:=hc.2.1
 rw [aUb ha hc,cJ (by(repeat' split)<;>omega)]
 rfl
abbrev NV:=Bool×Int×Int
noncomputable def nst (m:ME)(v:NV)(c:CT):NV:=bif (kP m c).1 then v else(true,(if v.2.1 < c.2.2.1 then c.2.2.1 else v.2.1),(if c.2.2.2 < v.2.2 then c.2.2.2 else v.2.2))
structure NI (m:ME) (v:NV):Prop where
 sv:vs (v.2.1,v.2.2)
 sc:∀c:CT,(kP m c).1=false->v.2.1<=c.2.2.2/\c.2.2.1<=v.2.2
theorem bF6 (m:ME):NI m (false,(-1099511627776),1099511627776) where
 sv:=by unfold vs;simp only;omega
 sc:=fun c h=>by
   have:=(qW h).2.1
   unfold vs at this
   simp only;omega
theorem bF7 {m:ME} {v:NV} (h:NI m v)(c:CT):NI m (nst m v c):=by
 unfold nst
 cases hc:(kP m c).1 with
 | true=>exact h
 | false =>
   rw [cond_false]
   have h1:=h.sv;have h2:=h.sc c hc;have h3:=(qW hc).2.1
   unfold vs at h1 h3
   simp only at h1
   refine⟨?_,fun c' hc'=>?_⟩
   · unfold vs;simp only;(repeat' split)<;>omega
   · have h4:=h.sc c' hc'
     have h5:=aJm hc hc'
     have h6:=aJm hc' hc
     simp only
     (repeat' split)<;>omega
noncomputable def aPg (v:NV):(Int×Int)×Int:=bif (!v.1) then((0,0),12) else((v.2.1,v.2.2),0)
theorem bEt (m:ME)(l:List CT):aB (fI m l) (toNat ((l.length:Int) - 0)+1) (false,0,(-1099511627776),1099511627776)=aPg (l.foldl (nst m) (false,(-1099511627776),1099511627776)):=by
 have key:=aZ (S:=fI m l) (fun(v:NV) i=>(v.1,i,v.2.1,v.2.2)) (fun v c=>.inl (nst m v c)) aPg (L:=l) (v:=(false,(-1099511627776),1099511627776)) (n:=toNat ((l.length:Int) - 0)+1) (fun _ v=>NI m v) ?_ (fun _ c _ v v' h e=>by cases e;exact bF7 h c) ?_ (by omega) (bF6 m)
 · refine Eq.trans key ?_
   rw [bI];rfl
 · intro i c hc v hI
   obtain⟨hlt,hce⟩:=List.getElem?_eq_some_iff.1 hc
   simp only [fI]
   rw [bT (by omega),cond_true,bA hc]
   have e:((c.1,c.2.1,c.2.2):CT)=c:=rfl
   have em:((m.1,m.2):ME)=m:=rfl
   rw [e,em]
   unfold nst
   cases hj:(kP m c).1 with
   | true=>rfl
   | false =>
     obtain⟨_,k2,_,_,k5⟩:=qW hj
     have k6:=hI.sc c hj
     rw [k5]
     simp only [cond_false]
     rw [aWq (a:=(v.2.1,v.2.2)) hI.sv k2 k6.1 k6.2]
     rfl
 · intro v _
   simp only [fI]
   rw [cJ (by omega),cond_false]
   unfold aPg
   cases v.1<;>rfl
theorem bEu {m:ME} (hv:fB m=0)(l:List CT):aB (fJ m l) (toNat ((l.length:Int) - 0)+1) (false,0,(-1099511627776),1099511627776)=aPg (l.foldl (nst m) (false,(-1099511627776),1099511627776)):=by
 have key:=aZ (S:=fJ m l) (fun(v:NV) i=>(v.1,i,v.2.1,v.2.2)) (fun v c=>.inl (nst m v c)) aPg (L:=l) (v:=(false,(-1099511627776),1099511627776)) (n:=toNat ((l.length:Int) - 0)+1) (fun _ _=>True) ?_ (fun _ _ _ _ _ _ _=>trivial) ?_ (by omega) trivial
 · refine Eq.trans key ?_
   rw [bI];rfl
 · intro i c hc v hI
   obtain⟨hlt,hce⟩:=List.getElem?_eq_some_iff.1 hc
   simp only [fJ]
   rw [bT (by omega),cond_true,bA hc]
   have e:((c.1,c.2.1,c.2.2):CT)=c:=rfl
   have em:((m.1,m.2):ME)=m:=rfl
   rw [e,em,←bAq,bEs hv]
   unfold nst
   cases hj:(kP m c).1 with
   | true=>rfl
   | false=>unfold iI nU;rfl
 · intro v _
   simp only [fJ]
   rw [cJ (by omega),cond_false]
   unfold aPg
   cases v.1<;>rfl
theorem bAs (m:ME)(l:List CT):gJ m l=gK m l:=by
 unfold gJ gK
 rw [show vU (m.1,m.2)=fB (m.1,m.2) from(aGn m).symm]
 cases h0:((fB (m.1,m.2):Int) != 0) with
 | true=>rfl
 | false =>
   have hv:fB m=0:=bne_eq_false_iff_eq.1 h0
   rw [bEt,bEu hv]
theorem aJn (m:ME)(l:List CT):yQ m l=true:=by
 have e1:∀a:(Int×Int)×Int,(bif (((a.1.1:Int) == a.1.1)&&(((a.1.2:Int) == a.1.2)&&true)) then(bif ((a.2:Int) == a.2) then true else false) else false)=true:=fun a=>by simp
 have e2:∀(n:Nat) (i:Int),toNat ((l.length:Int) - i) < n->0<=i->aB (cS m l) n i=true:=by
   intro n
   induction n with
   | zero=>intro i hn;exact absurd hn (gP _)
   | succ n ih =>
     intro i hn hi
     have hs:cS m l i=.inr true\/(i < (l.length:Int)/\cS m l i=.inl (i+1)):=by
       simp only [cS,aT8]
       rw [←bAs]
       cases h1:decide ((i:Int) < (l.length:Int)) with
       | false =>
         simp only [cond_false]
         cases F9 (m.1,m.2) (-1) with
         | true=>exact .inl rfl
         | false=>left;simp
       | true =>
         have hlt:=bO h1
         simp only [cond_true]
         cases decide (((l.length:Int):Int)<=5) with
         | false =>
           simp only [cond_false]
           cases F9 (m.1,m.2) (-1) with
           | true=>exact .inl rfl
           | false=>left;simp
         | true =>
           simp only [cond_true]
           cases F9 (m.1,m.2) (l.getD (toNat i) default).2.1 with
           | true=>exact .inl rfl
           | false =>
             simp only [cond_false]
             cases decide (((((l.getD (toNat i) default).1.length:Nat):Int):Int) > 300) with
             | true=>exact .inl rfl
             | false=>exact .inr ⟨hlt,rfl⟩
     rcases hs with hs | ⟨hlt,hs⟩
     · rw [aO hs]
     · rw [aA hs]
       exact ih (i+1) (by omega) (by omega)
 have e3:=e2 (toNat ((l.length:Int) - 0)+1) 0 (by omega) (by omega)
 unfold yQ
 simp only [sD,aT8]
 rw [e3]
 simp
open Go.ChangeShapes Go.WideShapes Go.ChangeAt
inductive XK where
 | i | b | s
def kx (P:Program):Nat->TypeId->Option (List XK)
 | 0,_=>none
 | k+1,t=>match P.underlying t with
   | some (.int .i64)=>some [.i]
   | some .bool=>some [.b]
   | some (.slice e)=>match P.underlying e with
     | some (.int .i64)=>bif P.cellsOf e == 1 then some [.s] else none
     | _=>none
   | some (.array n e)=>match kx P k e with
     | some ks=>bif ks.length == P.cellsOf e&&P.cellsOf t == n*P.cellsOf e then some (List.replicate n ks).flatten else none
     | none=>none
   | some (.struct fs)=>fs.toList.foldr (fun f r o=>bif f.offset == o then match kx P k f.type with
       | some a=>bif a.length == P.cellsOf f.type then(r (o+P.cellsOf f.type)).map (a++·) else none
       | none=>none else none) (fun o=>bif o == P.cellsOf t then some [] else none) 0
   | _=>none
def Sh:XK->SV->Prop
 | .i,x=>∃n:Int,x=iv n
 | .b,x=>∃c:Bool,x=.v (.bool c)
 | .s,x=>∃ns:List Int,x=.d (ns.map iv) ns.length 1
def Shs:List XK->List SV->Prop
 | [],[]=>True
 | k::ks,x::xs=>Sh k x/\Shs ks xs
 | _,_=>False
def fzW (w:World):Nat->Option FC:=fun b=>match w.heap[b]? with
 | some (.cells c t f)=>some (c,t,f)
 | _=>none
theorem Shs.app:∀{ks ks':List XK} {xs xs':List SV},Shs ks xs->Shs ks' xs'->Shs (ks++ks') (xs++xs')
 | [],_,[],_,_,h=>h
 | [],_,_::_,_,h,_=>h.elim
 | _::_,_,[],_,h,_=>h.elim
 | _::_,_,_::_,_,⟨h1,h2⟩,h=>⟨h1,Shs.app h2 h⟩
theorem Shs.len:∀{ks:List XK} {xs:List SV},Shs ks xs->xs.length=ks.length
 | [],[],_=>rfl
 | [],_::_,h=>h.elim
 | _::_,[],h=>h.elim
 | _::_,_::_,⟨_,h⟩=>by rw [List.length_cons,List.length_cons,Shs.len h]
theorem gY {k:XK} {ks:List XK} {xs:List SV} (h:Shs (k::ks) xs):∃x ys,xs=x::ys/\Sh k x/\Shs ks ys:=by
 cases xs with
 | nil=>exact h.elim
 | cons x ys=>exact⟨x,ys,rfl,h.1,h.2⟩
theorem aHw {xs:List SV} (h:Shs [] xs):xs=[]:=by
 cases xs with
 | nil=>rfl
 | cons x ys=>exact h.elim
theorem aJo:∀{ks:List XK} {xs:List SV},Shs ks xs->∀k,¬SV.hasl k xs
 | [],[],_,k,h=>by simp [SV.hasl] at h
 | [],_::_,h,_,_=>h.elim
 | _::_,[],h,_,_=>h.elim
 | c::ks,x::xs,⟨h1,h2⟩,k,h=>by
   simp only [SV.hasl] at h
   rcases h with h | h
   · cases c with
     | i=>obtain⟨n,rfl⟩:=h1;simp [iv,SV.has] at h
     | b=>obtain⟨n,rfl⟩:=h1;simp [SV.has] at h
     | s=>obtain⟨n,rfl⟩:=h1;simp [SV.has] at h
   · exact aJo h2 k h
theorem wK {ρ:Env}:∀{xs ys:List SV} {vs ws:List Value},Rels ρ xs vs->Rels ρ ys ws->Rels ρ (xs++ys) (vs++ws)
 | [],_,[],_,_,h=>h
 | [],_,_::_,_,h,_=>by simp [Rels] at h
 | _::_,_,[],_,h,_=>by simp [Rels] at h
 | _::_,_,_::_,_,h,h2=>⟨h.1,wK h.2 h2⟩
theorem aDl {ρ:Env}:∀{xs:List SV} {vs:List Value},Rels ρ xs vs->vs.length=xs.length
 | [],[],_=>rfl
 | [],_::_,h=>by simp [Rels] at h
 | _::_,[],h=>by simp [Rels] at h
 | _::_,_::_,h=>by rw [List.length_cons,List.length_cons,aDl h.2]
section
variable {H : Type} {enc : TypeId × Value → H} {P : Program} {w : World}
theorem aJp {ρ:Env}:∀l:List Int,Rels ρ (l.map iv) (l.map (Value.int .i64))
 | []=>trivial
 | n::l=>⟨rfl,aJp l⟩
theorem aOd {a:Addr} {v:Value} (h:w.cell? a=some v):a.spot=none/\∃c t f,w.heap[a.block]? = some (.cells c t f)/\c[a.off]? = some v:=by
 unfold World.cell? at h
 split at h
 · rename_i c t f hh
   split at h
   · cases h
   · rename_i hs
     exact⟨by cases hsp:a.spot with
       | none=>rfl
       | some q=>rw [hsp] at hs;exact absurd rfl hs,c,t,f,hh,h⟩
 · cases h
theorem aPh {t e:TypeId} {fuel:Nat} {cs:List Value} {x:DataW H×List MemPlace} (ht:P.underlying t=some (.slice e))(he:P.underlying e=some (.int .i64))(hce:P.cellsOf e=1)
   (hx:DataW.trod enc P w 0 (fun _=>true) true fuel t cs=some x):∃xs,Shs [XK.s] xs/\∀ρ:Env,ρ.fz=fzW w->Rels ρ xs cs:=by
 rcases Go.Deep.open_slice ht hx with⟨hc,_⟩ | ⟨a',len',cap',m,n,D,Pl,hc,hb,hl,hm,hmm,_,hall⟩
 · subst hc
   refine⟨[.d [] 0 1],⟨⟨[],rfl⟩,trivial⟩,fun ρ _=>⟨?_,trivial⟩⟩
   simp only [Rel];exact .inl ⟨trivial,trivial,none,rfl⟩
 · subst hc
   by_cases hcap:cap'=0
   · have hl0:len'=0:=by omega
     subst hcap hl0
     refine⟨[.d [] 0 1],⟨⟨[],rfl⟩,trivial⟩,fun ρ _=>⟨?_,trivial⟩⟩
     simp only [Rel];exact .inl ⟨trivial,trivial,some a',rfl⟩
   · simp only [if_true] at hmm
     have hone:∀i,i < m->∃q:Int,w.cell? (a'.add i)=some (.int .i64 q):=fun i hi=>by
       obtain⟨cs',h1,h2⟩:=hall i hi
       obtain⟨q,hq,_⟩:=DataW.trod_int he h2
       subst hq
       obtain⟨_,hlen,hcell⟩:=World.cells?_some h1
       rw [hce] at hcell
       have:=hcell 0 (by omega)
       refine⟨q,?_⟩
       rw [Nat.mul_one] at this
       simpa [Addr.add] using this
     obtain⟨N,hN⟩:=Go.Deep.choose_lt (α:=Int) (p:=fun i q=>w.cell? (a'.add i)=some (.int .i64 q)) (n:=m) hone
     have h0:=hN 0 (by omega)
     rw [show a'.add 0=a' from rfl] at h0
     obtain⟨hsp,c,ty,fr,hh,_⟩:=aOd h0
     obtain⟨b,o,sp⟩:=a'
     simp only at hsp hh
     subst hsp
     refine⟨[.d (((List.range len').map N).map iv) len' 1],⟨⟨(List.range len').map N,by simp⟩,trivial⟩,fun ρ hρ=>⟨?_,trivial⟩⟩
     simp only [Rel]
     refine .inr ⟨b,o,cap',c,ty,fr,((List.range len').map N).map (Value.int .i64),rfl,hl,by rw [hρ];unfold fzW;rw [hh],aJp _,by simp,fun i x hi=>?_⟩
     have hil:=(List.getElem?_eq_some_iff.1 hi).1
     simp only [List.length_map,List.length_range] at hil
     rw [List.getElem?_map,List.getElem?_map,List.getElem?_range hil] at hi
     have:=hN i (by omega)
     rw [Go.Aw.add_eq] at this
     obtain⟨_,c2,t2,f2,g1,g2⟩:=aOd this
     simp only at g1 g2
     rw [hh] at g1
     cases g1
     rw [g2];exact hi
theorem aHx:∀(k:Nat)(t:TypeId)(ks:List XK)(fuel:Nat)(cs:List Value)(x:DataW H×List MemPlace),kx P k t=some ks ->
   DataW.trod enc P w 0 (fun _=>true) true fuel t cs=some x->∃xs,Shs ks xs/\∀ρ:Env,ρ.fz=fzW w->Rels ρ xs cs
 | 0,_,_,_,_,_,h,_=>by simp [kx] at h
 | k+1,t,ks,fuel,cs,x,h,hx=>by
   unfold kx at h
   split at h
   · rename_i ht
     obtain⟨n,rfl,rfl,_⟩:=DataW.trod_int ht hx
     obtain rfl:[XK.i]=ks:=Option.some.inj h
     exact⟨[iv n],⟨⟨n,rfl⟩,trivial⟩,fun ρ _=>⟨rfl,trivial⟩⟩
   · rename_i ht
     obtain⟨n,rfl,rfl⟩:=DataW.trod_bool ht hx
     obtain rfl:[XK.b]=ks:=Option.some.inj h
     exact⟨[.v (.bool n)],⟨⟨n,rfl⟩,trivial⟩,fun ρ _=>⟨rfl,trivial⟩⟩
   · rename_i e ht
     split at h
     · rename_i he
       cases hce:P.cellsOf e == 1 with
       | false=>rw [hce] at h;cases h
       | true =>
         rw [hce] at h
         obtain rfl:[XK.s]=ks:=Option.some.inj h
         exact aPh ht he (beq_iff_eq.1 hce) hx
     · cases h
   · rename_i n e ht
     split at h
     · rename_i ke hke
       cases hc:ke.length == P.cellsOf e&&P.cellsOf t == n*P.cellsOf e with
       | false=>rw [hc] at h;cases h
       | true =>
         rw [hc] at h
         obtain rfl:(List.replicate n ke).flatten=ks:=Option.some.inj h
         simp only [Bool.and_eq_true,beq_iff_eq] at hc
         obtain⟨xs,m,rfl,rfl,hl,hlen,hf⟩:=DataW.trod_array ht hx
         have key:∀j,j<=n->∃ys,Shs (List.replicate j ke).flatten ys/\∀ρ:Env,ρ.fz=fzW w->Rels ρ ys (cs.drop ((n - j)*P.cellsOf e)):=by
           intro j
           induction j with
           | zero=>intro _;exact⟨[],trivial,fun ρ _=>by rw [Nat.sub_zero,←hc.2,←hl,List.drop_length];trivial⟩
           | succ j ih =>
             intro hj
             obtain⟨ys,h2,h3⟩:=ih (by omega)
             have h1:=hf (n - (j+1)) (by omega)
             have hil:n - (j+1) < xs.length:=by rw [hlen];omega
             rw [List.getElem?_eq_getElem hil] at h1
             obtain⟨zs,h4,h5⟩:=aHx k e ke m _ _ hke h1
             refine⟨zs++ys,by rw [List.replicate_succ,List.flatten_cons];exact h4.app h2,fun ρ hρ=>?_⟩
             have:=wK (h5 ρ hρ) (h3 ρ hρ)
             rwa [show(n - j)*P.cellsOf e=(n - (j+1))*P.cellsOf e+P.cellsOf e by rw [show n - j=(n - (j+1))+1 by omega,Nat.add_mul,Nat.one_mul],←List.drop_drop,List.take_append_drop] at this
         obtain⟨ys,h1,h2⟩:=key n (Nat.le_refl _)
         exact⟨ys,h1,fun ρ hρ=>by simpa using h2 ρ hρ⟩
     · cases h
   · rename_i fs ht
     obtain⟨xs,m,rfl,rfl,hl,hlen,hF⟩:=DataW.trod_struct ht hx
     have key:∀(l:List Field) (o:Nat) (ks:List XK),
         l.foldr (fun f r o=>bif f.offset == o then match kx P k f.type with
           | some a=>bif a.length == P.cellsOf f.type then(r (o+P.cellsOf f.type)).map (a++·) else none
           | none=>none else none) (fun o=>bif o == P.cellsOf t then some [] else none) o=some ks ->
         (∀f∈l,∃y,DataW.trod enc P w 0 (fun _=>true) true m f.type ((cs.drop f.offset).take (P.cellsOf f.type))=some y)->∃xs,Shs ks xs/\∀ρ:Env,ρ.fz=fzW w->Rels ρ xs (cs.drop o):=by
       intro l
       induction l with
       | nil =>
         intro o ks h _
         simp only [List.foldr_nil] at h
         cases ho:o == P.cellsOf t with
         | false=>rw [ho] at h;cases h
         | true =>
           rw [ho] at h
           obtain rfl:[]=ks:=Option.some.inj h
           refine⟨[],trivial,fun ρ _=>?_⟩
           rw [beq_iff_eq.1 ho,←hl,List.drop_length];trivial
       | cons f l ih =>
         intro o ks h hy
         simp only [List.foldr_cons] at h
         cases ho:f.offset == o with
         | false=>rw [ho] at h;cases h
         | true =>
           rw [ho] at h
           simp only [cond_true] at h
           split at h
           · rename_i a ha
             cases hc:a.length == P.cellsOf f.type with
             | false=>rw [hc] at h;cases h
             | true =>
               rw [hc] at h
               simp only [cond_true,Option.map_eq_some_iff] at h
               obtain⟨ks',h1,rfl⟩:=h
               obtain⟨y,hy0⟩:=hy f List.mem_cons_self
               rw [beq_iff_eq.1 ho] at hy0
               obtain⟨gz1,g1,r1⟩:=aHx k f.type a m _ y ha hy0
               obtain⟨gz2,g2,r2⟩:=ih _ _ h1 (fun f' hf'=>hy f' (List.mem_cons_of_mem _ hf'))
               refine⟨gz1++gz2,g1.app g2,fun ρ hρ=>?_⟩
               have:=wK (r1 ρ hρ) (r2 ρ hρ)
               rwa [←List.drop_drop,List.take_append_drop] at this
           · cases h
     obtain⟨ys,h1,h2⟩:=key fs.toList 0 ks h (fun f hf=>by
       obtain⟨i,hi⟩:=List.getElem?_of_mem hf
       have:=hF i f (by simpa using hi)
       have hil:i < xs.length:=by rw [hlen];have:=(List.getElem?_eq_some_iff.1 hi).1;simpa using this
       rw [List.getElem?_eq_getElem hil] at this
       exact⟨_,this⟩)
     exact⟨ys,h1,fun ρ hρ=>by simpa using h2 ρ hρ⟩
   · cases h
def yR (w:World)(ks:List XK)(v:Value)(xss:List (List SV)):Prop :=
 (∀xs∈xss,Shs ks xs)/\xss.length<=9223372036854775807 /\
 ((v=.slice none 0 0/\xss=[])\/∃b o cap vs,v=.slice (some ⟨b,o,none⟩) xss.length cap/\xss.length<=cap/\(∀ρ:Env,ρ.fz=fzW w->Rels ρ xss.flatten vs)/\∀(i:Nat) (x:Value),vs[i]? = some x->w.cell? ⟨b,o+i,none⟩=some x)
theorem zL {es b:Nat}:∀(vss:List (List Value))(o:Nat),(∀(j:Nat)(ns:List Value),vss[j]? = some ns->ns.length=es/\∀(q:Nat)(x:Value),ns[q]? = some x->w.cell? ⟨b,o+j*es+q,none⟩=some x) ->
   ∀(i:Nat) (x:Value),(vss.flatten)[i]? = some x->w.cell? ⟨b,o+i,none⟩=some x
 | [],o,_,i,x,hi=>by simp at hi
 | ns::l,o,h,i,x,hi=>by
   obtain⟨h1,h2⟩:=h 0 ns rfl
   rw [List.flatten_cons] at hi
   by_cases hlt:i < ns.length
   · rw [List.getElem?_append_left hlt] at hi
     have:=h2 i x hi
     simpa using this
   · rw [List.getElem?_append_right (by omega)] at hi
     have:=zL l (o+es) (fun j ms hj=>⟨(h (j+1) ms hj).1,fun q y hq=>by
       have:=(h (j+1) ms hj).2 q y hq
       rw [show o+es+j*es+q=o+(j+1)*es+q by rw [Nat.add_mul];omega];exact this⟩) (i - es) x (by simpa [h1] using hi)
     rw [show o+es+(i - es)=o+i by omega] at this;exact this
theorem aXl {ρ:Env}:∀{xss:List (List SV)} {vss:List (List Value)},xss.length=vss.length->(∀(j:Nat)(xs:List SV)(vs:List Value),xss[j]? = some xs->vss[j]? = some vs->Rels ρ xs vs)->Rels ρ xss.flatten vss.flatten
 | [],[],_,_=>trivial
 | [],_::_,h,_=>by simp at h
 | _::_,[],h,_=>by simp at h
 | _::_,_::_,h,h2=>by
   rw [List.flatten_cons,List.flatten_cons]
   exact wK (h2 0 _ _ rfl rfl) (aXl (by simpa using h) (fun j xs vs h3 h4=>h2 (j+1) xs vs h3 h4))
theorem zM {t e:TypeId} {ks:List XK} {v:Value} {fuel:Nat} {x:DataW H×List MemPlace} (ht:P.underlying t=some (.slice e))(hk:kx P 6 e=some ks)(hes:P.cellsOf e=ks.length)
   (hsp:∀a len cap,v=.slice (some a) len cap->a.spot=none) (hx:DataW.trod enc P w 0 (fun _=>true) true fuel t [v]=some x):∃xss,yR w ks v xss:=by
 rcases Go.Deep.open_slice ht hx with⟨hc,_⟩ | ⟨a',len',cap',m,n,D,Pl,hc,hb,hl,hm,hmm,_,hall⟩
 · simp only [List.cons.injEq,and_true] at hc
   exact⟨[],fun ns h=>by simp at h,by simp,.inl ⟨hc,rfl⟩⟩
 · simp only [List.cons.injEq,and_true] at hc
   subst hc
   have hsp:=hsp a' len' cap' rfl
   obtain⟨b,o,sp⟩:=a'
   simp only at hsp
   subst hsp
   simp only [if_true] at hmm
   obtain⟨N,hN⟩:=Go.Deep.choose_lt (α:=List SV×List Value) (p:=fun i q=>Shs ks q.1/\(∀ρ:Env,ρ.fz=fzW w->Rels ρ q.1 q.2)/\∀(j:Nat) (x:Value),q.2[j]? = some x->w.cell? ⟨b,o+i*ks.length+j,none⟩=some x) (n:=len') (fun i hi=>by
     obtain⟨cs',h1,h2⟩:=hall i (by omega)
     obtain⟨xs,g1,g2⟩:=aHx 6 e ks n cs' _ hk h2
     obtain⟨_,hlen,hcell⟩:=World.cells?_some h1
     rw [hes] at hlen hcell
     refine⟨(xs,cs'),g1,g2,fun q x hq=>?_⟩
     have hq':=(List.getElem?_eq_some_iff.1 hq).1
     have:=hcell q (by rw [←hlen];exact hq')
     rw [Go.Aw.add_eq,Go.Aw.add_eq] at this
     rw [this,hq])
   refine⟨(List.range len').map fun i=>(N i).1,fun ns h=>?_,?_,.inr ⟨b,o,cap',((List.range len').map fun i=>(N i).2).flatten,?_,?_,fun ρ hρ=>?_,?_⟩⟩
   · obtain⟨i,hi,rfl⟩:=List.mem_map.1 h
     exact(hN i (by simpa using hi)).1
   · have:maxLen=9223372036854775807:=rfl
     simp;omega
   · simp
   · simpa using hl
   · refine aXl (by simp) (fun j xs vs h1 h2=>?_)
     have hj:=(List.getElem?_eq_some_iff.1 h1).1
     simp only [List.length_map,List.length_range] at hj
     rw [List.getElem?_map,List.getElem?_range hj] at h1 h2
     cases h1;cases h2
     exact(hN j hj).2.1 ρ hρ
   · refine zL (es:=ks.length) _ o (fun j ns hj=>?_)
     have hjl:=(List.getElem?_eq_some_iff.1 hj).1
     simp only [List.length_map,List.length_range] at hjl
     rw [List.getElem?_map,List.getElem?_range hjl] at hj
     cases hj
     have:=hN j hjl
     exact⟨by rw [aDl (this.2.1 ⟨fun _=>none,fzW w⟩ rfl),Shs.len this.1],this.2.2⟩
theorem aMa {r:Reach} {b0:Nat} {t e:TypeId} {v:Value} {d:DataW H} {ps:List MemPlace} (ks:List XK)(ht:P.underlying t=some (.slice e))(hk:kx P 6 e=some ks)(hes:P.cellsOf e=ks.length)
   (hval:Value.okWide P w r b0 t v) (hd:DataW.Trod enc P w 0 (fun _=>true) true t v d ps):(∃xss,yR w ks v xss)/\∀x∈ps,x.block < w.heap.size:=by
 obtain⟨fuel,hx⟩:=hd
 refine⟨?_,DataW.trod_lt fuel t _ _ hx⟩
 obtain⟨a,len,cap,rfl⟩:=okWide_slice ht hval
 refine zM ht hk hes (fun a' len' cap' h=>?_) (by simpa [Value.cells] using hx)
 simp only [Value.slice.injEq] at h
 obtain⟨rfl,rfl,rfl⟩:=h
 simp only [Value.okWide,ht,Cell.okWide,Cell.ok,World.has] at hval
 exact hval.2.2.2.1
theorem uI {ks:List XK} {es:Nat} {v:Value} {xss:List (List SV)} {ρ:Env} {k:Nat} (h:yR w ks v xss)(hes:ks.length=es)(hk:ρ k=rho es v):Rel ρ (.s k 0 xss.length es) v:=by
 subst hes
 obtain⟨h1,h2,⟨rfl,rfl⟩ | ⟨b,o,cap,vs,rfl,h3,h4⟩⟩:=h
 · simp only [Rel];exact .inl ⟨hk,rfl,trivial⟩
 · simp only [Rel];exact .inr ⟨b,o,cap*ks.length,cap,0,none,hk,rfl,h3,by omega,fun _=>⟨rfl,rfl⟩⟩
theorem wL {ks:List XK}:∀{xss:List (List SV)},(∀xs∈xss,Shs ks xs)->xss.flatten.length=xss.length*ks.length
 | [],_=>by simp
 | xs::l,h=>by
   rw [List.flatten_cons,List.length_append,wL (fun m hm=>h m (List.mem_cons_of_mem _ hm)),Shs.len (h xs List.mem_cons_self),List.length_cons,Nat.add_mul];omega
theorem aJq {ks:List XK} {es:Nat} {v:Value} {xss:List (List SV)} {ρ:Env} {k:Nat} {M:Nat->Prop} (h:yR w ks v xss)(hes:ks.length=es)(hk:ρ k=rho es v)(hf:ρ.fz=fzW w)(hM:∀b,M b->w.heap.size<=b):BRep ρ M w k (.live false true xss.flatten):=by
 subst hes
 obtain⟨h1,h2,⟨rfl,rfl⟩ | ⟨b,o,cap,vs,rfl,h3,h4,h5⟩⟩:=h
 · exact .inl ⟨hk,rfl⟩
 · have hlen:=wL h1
   refine .inr ⟨b,o,cap*ks.length,vs,hk,⟨?_,fun hne hm=>?_⟩,h4 ρ hf,h5⟩
   · rw [aDl (h4 ρ hf),hlen];exact Nat.mul_le_mul_right _ h3
   · have hb:=hM b hm
     obtain⟨x,hx⟩:=List.exists_mem_of_ne_nil _ hne
     obtain⟨i,hi⟩:=List.getElem?_of_mem hx
     have:=World.block_lt_of_cell? w ⟨b,o+i,none⟩ (h5 i x hi)
     exact absurd this (Nat.not_lt_of_le hb)
theorem aUd {ks:List XK}:∀{xss:List (List SV)},(∀xs∈xss,Shs ks xs)->Plain xss.flatten
 | [],_,k,hk=>by simp [SV.hasl] at hk
 | xs::l,h,k,hk=>by
   rw [List.flatten_cons,cB] at hk
   obtain⟨x,hx,hk⟩:=hk
   rcases List.mem_append.1 hx with hx | hx
   · exact aJo (h xs List.mem_cons_self) k (cB.2 ⟨x,hx,hk⟩)
   · exact aUd (xss:=l) (fun m hm=>h m (List.mem_cons_of_mem _ hm)) k (cB.2 ⟨x,hx,hk⟩)
theorem wM {α:Type} {c:α->List SV} {f:List SV->α} {ks:List XK} (hc:∀xs:List SV,Shs ks xs->c (f xs)=xs):∀{xss:List (List SV)},(∀xs∈xss,Shs ks xs)->flat c (xss.map f)=xss.flatten
 | [],_=>rfl
 | xs::l,h=>by
   have:=wM hc (xss:=l) (fun m hm=>h m (List.mem_cons_of_mem _ hm))
   unfold flat at *
   rw [List.map_cons,List.flatMap_cons,this,hc xs (h xs List.mem_cons_self),List.flatten_cons]
end
inductive AK where
 | i | b | s (ks:List XK)
def aXm (w:World):AK->Value->Prop
 | .i,v=>∃n:Int,v=.int .i64 n
 | .b,v=>∃x:Bool,v=.bool x
 | .s ks,v=>∃xss,yR w ks v xss
def CellsX (w:World):List AK->List Value->Prop
 | [],[]=>True
 | k::ks,v::vs=>aXm w k v/\CellsX w ks vs
 | _,_=>False
def ka (P:Program):Nat->TypeId->Option (List AK)
 | 0,_=>none
 | k+1,t=>match P.underlying t with
   | some (.int .i64)=>some [.i]
   | some .bool=>some [.b]
   | some (.slice e)=>match kx P 6 e with
     | some ks=>bif P.cellsOf e == ks.length then some [.s ks] else none
     | none=>none
   | some (.struct fs)=>fs.toList.foldr (fun f r o=>bif f.offset == o then match ka P k f.type with
       | some a=>bif a.length == P.cellsOf f.type then(r (o+P.cellsOf f.type)).map (a++·) else none
       | none=>none else none) (fun o=>bif o == P.cellsOf t then some [] else none) 0
   | _=>none
section
variable {H : Type} {enc : TypeId × Value → H} {P : Program} {w : World}
theorem CellsX.app:∀{ks ks':List AK} {vs vs':List Value},CellsX w ks vs->CellsX w ks' vs'->CellsX w (ks++ks') (vs++vs')
 | [],_,[],_,_,h=>h
 | [],_,_::_,_,h,_=>h.elim
 | _::_,_,[],_,h,_=>h.elim
 | _::_,_,_::_,_,⟨h1,h2⟩,h=>⟨h1,CellsX.app h2 h⟩
theorem aOe:∀(k:Nat)(t:TypeId)(ks:List AK)(fuel:Nat)(cs:List Value)(x:DataW H×List MemPlace),ka P k t=some ks ->
   (∀v∈cs,∀a len cap,v=.slice (some a) len cap->a.spot=none)->DataW.trod enc P w 0 (fun _=>true) true fuel t cs=some x->CellsX w ks cs
 | 0,_,_,_,_,_,h,_,_=>by simp [ka] at h
 | k+1,t,ks,fuel,cs,x,h,hsp,hx=>by
   unfold ka at h
   split at h
   · rename_i ht
     obtain⟨n,rfl,rfl,_⟩:=DataW.trod_int ht hx
     obtain rfl:[AK.i]=ks:=Option.some.inj h
     exact⟨⟨n,rfl⟩,trivial⟩
   · rename_i ht
     obtain⟨n,rfl,rfl⟩:=DataW.trod_bool ht hx
     obtain rfl:[AK.b]=ks:=Option.some.inj h
     exact⟨⟨n,rfl⟩,trivial⟩
   · rename_i e ht
     split at h
     · rename_i ke hke
       cases hf:P.cellsOf e == ke.length with
       | false=>rw [hf] at h;cases h
       | true =>
         rw [hf] at h
         obtain rfl:[AK.s ke]=ks:=Option.some.inj h
         have:∃v,cs=[v]:=by
           rcases Go.Deep.open_slice ht hx with⟨hc,_⟩ | ⟨a',len',cap',m,n,D,Pl,hc,_⟩<;>exact⟨_,hc⟩
         obtain⟨v,rfl⟩:=this
         exact⟨zM ht hke (beq_iff_eq.1 hf) (hsp v List.mem_cons_self) hx,trivial⟩
     · cases h
   · rename_i fs ht
     obtain⟨xs,m,rfl,rfl,hl,hlen,hF⟩:=DataW.trod_struct ht hx
     have key:∀(l:List Field) (o:Nat) (ks:List AK),
         l.foldr (fun f r o=>bif f.offset == o then match ka P k f.type with
           | some a=>bif a.length == P.cellsOf f.type then(r (o+P.cellsOf f.type)).map (a++·) else none
           | none=>none else none) (fun o=>bif o == P.cellsOf t then some [] else none) o=some ks ->
         (∀f∈l,∃y,DataW.trod enc P w 0 (fun _=>true) true m f.type ((cs.drop f.offset).take (P.cellsOf f.type))=some y)->CellsX w ks (cs.drop o):=by
       intro l
       induction l with
       | nil =>
         intro o ks h _
         simp only [List.foldr_nil] at h
         cases ho:o == P.cellsOf t with
         | false=>rw [ho] at h;cases h
         | true =>
           rw [ho] at h
           obtain rfl:[]=ks:=Option.some.inj h
           rw [beq_iff_eq.1 ho,←hl,List.drop_length];trivial
       | cons f l ih =>
         intro o ks h hy
         simp only [List.foldr_cons] at h
         cases ho:f.offset == o with
         | false=>rw [ho] at h;cases h
         | true =>
           rw [ho] at h
           simp only [cond_true] at h
           split at h
           · rename_i a ha
             cases hc:a.length == P.cellsOf f.type with
             | false=>rw [hc] at h;cases h
             | true =>
               rw [hc] at h
               simp only [cond_true,Option.map_eq_some_iff] at h
               obtain⟨ks',h1,rfl⟩:=h
               obtain⟨y,hy0⟩:=hy f List.mem_cons_self
               rw [beq_iff_eq.1 ho] at hy0
               have g1:=aOe k f.type a m _ y ha (fun v hv=>hsp v (List.mem_of_mem_drop (List.mem_of_mem_take hv))) hy0
               have g2:=ih _ _ h1 (fun f' hf'=>hy f' (List.mem_cons_of_mem _ hf'))
               have:=g1.app g2
               rwa [←List.drop_drop,List.take_append_drop] at this
           · cases h
     have:=key fs.toList 0 ks h (fun f hf=>by
       obtain⟨i,hi⟩:=List.getElem?_of_mem hf
       have:=hF i f (by simpa using hi)
       have hil:i < xs.length:=by rw [hlen];have:=(List.getElem?_eq_some_iff.1 hi).1;simpa using this
       rw [List.getElem?_eq_getElem hil] at this
       exact⟨_,this⟩)
     simpa using this
   · cases h
theorem aMb {r:Reach} {b0:Nat} {u:TypeId} {a:Addr} {len cap:Nat} (h:Cell.okWide P w r b0 u (.slice (some a) len cap)):a.spot=none:=by
 unfold Cell.okWide at h
 split at h<;>try (exact h.elim)
 all_goals try (simp_all;done)
 unfold Cell.ok at h
 split at h<;>simp_all [World.has]
theorem aJr {r:Reach} {b0:Nat} {t:TypeId} {fs:Array Field} {v:Value} {d:DataW H} {ps:List MemPlace} (ks:List AK)(ht:P.underlying t=some (.struct fs))(hk:ka P 6 t=some ks)
   (hval:Value.okWide P w r b0 t v) (hd:DataW.Trod enc P w 0 (fun _=>true) true t v d ps):(∃cs,v=.agg cs.toArray/\CellsX w ks cs)/\∀x∈ps,x.block < w.heap.size:=by
 obtain⟨fuel,hx⟩:=hd
 refine⟨?_,DataW.trod_lt fuel t _ _ hx⟩
 simp only [Value.okWide,ht] at hval
 obtain⟨cs,rfl,hs,ts,_,_,hall⟩:=hval
 refine⟨cs.toList,by simp,aOe 6 t ks fuel _ _ hk (fun v hv a len cap e=>?_) (by simpa [Value.cells] using hx)⟩
 obtain⟨i,hi⟩:=List.getElem?_of_mem hv
 obtain⟨u,_,hu⟩:=hall i v (by simpa using hi)
 subst e
 exact aMb hu
theorem zN {k:AK} {ks:List AK} {cs:List Value} (h:CellsX w (k::ks) cs):∃v vs,cs=v::vs/\aXm w k v/\CellsX w ks vs:=by
 cases cs with
 | nil=>exact h.elim
 | cons v vs=>exact⟨v,vs,rfl,h.1,h.2⟩
theorem aMc {cs:List Value} (h:CellsX w [] cs):cs=[]:=by
 cases cs with
 | nil=>rfl
 | cons v vs=>exact h.elim
end
def svI:SV->Int
 | .v (.int _ n)=>n
 | _=>0
def svS:SV->List Int
 | .d cs _ _=>cs.map svI
 | _=>[]
theorem bEv (ns:List Int)(n es:Nat):svS (.d (ns.map iv) n es)=ns:=by
 show(ns.map iv).map svI=ns
 rw [List.map_map]
 exact(List.map_congr_left fun _ _=>rfl).trans (List.map_id _)
theorem aOf {c:Int->List SV} (hc:∀n,c n=[iv n]):∀ns:List Int,flat c ns=ns.map iv
 | []=>rfl
 | n::ns=>by rw [iO,hc,aOf hc ns];rfl
def aWr (W:World)(l:List (List XK×Nat×Value×List (List SV))):Env:=⟨fun k=>match l[k]? with
 | some x=>rho x.2.1 x.2.2.1
 | none=>none,fzW W⟩
theorem aMd {P:Program} {f:Nat} {args:List SV} {vs:List Value} {x:Value} {W:World} (l:List (List XK×Nat×Value×List (List SV)))
   (hc:Con P f args (l.map fun y=>.live false true y.2.2.2.flatten) (.v x) []) (hs:∀y∈l,yR W y.1 y.2.2.1 y.2.2.2/\y.1.length=y.2.1) (hr:Rels (aWr W l) args vs) :
   Calls P f vs.toArray W fun e W'=>e=.returned x/\Below W.heap.size W W':=by
 have hget:∀i,((l.map fun y=>BK.live false true y.2.2.2.flatten).getD i .un=.un)\/∃y,l[i]? = some y/\(l.map fun y=>BK.live false true y.2.2.2.flatten).getD i .un=.live false true y.2.2.2.flatten:=by
   intro i
   rw [eZ,List.getElem?_map]
   cases h:l[i]? with
   | none=>exact .inl rfl
   | some y=>exact .inr ⟨y,rfl,rfl⟩
 have hown:∀i,¬((l.map fun y=>BK.live false true y.2.2.2.flatten).getD i .un).own:=fun i=>by
   rcases hget i with h | ⟨y,_,h⟩<;>rw [h]<;>simp [BK.own]
 have hM:∀b,(dK (aWr W l) W (l.map fun y=>BK.live false true y.2.2.2.flatten)).mine b->W.heap.size<=b:=by
   rintro b (h | ⟨i,n,hi,_⟩)
   · exact h
   · exact absurd hi (hown i)
 refine(hc.2 (aWr W l) W vs hr (fun i=>?_) (fun i=>?_) (fun i j b n b' n' _ h=>absurd h (hown i)) (fun b o h=>⟨?_,fun i n hi=>absurd hi (hown i)⟩)).mono fun e W' h=>?_
 · rcases hget i with h | ⟨y,h1,h⟩
   · rw [h];simp [BRep]
   · rw [h]
     exact aJq (hs y (List.mem_of_getElem? h1)).1 (hs y (List.mem_of_getElem? h1)).2 (by simp only [aWr,h1]) rfl hM
 · rcases hget i with h | ⟨y,h1,h⟩
   · rw [h];simp [BK.pl]
   · rw [h];exact aUd (hs y (List.mem_of_getElem? h1)).1.1
 · have h2:fzW W b=some o:=h
   unfold fzW at h2
   split at h2
   · rename_i c t fr e
     cases h2
     exact e
   · cases h2
 · obtain⟨ρ',v,rfl,_,hv,hk,_⟩:=h
   refine⟨by rw [show v=x from hv],hk.os,hk.tape,hk.output,hk.size,fun k hk'=>hk.block k hk' ?_⟩
   rintro ⟨i,n,hi,_⟩
   exact hown i hi
end Go.Proofs.YtaeagjnpobdglaaGreat
