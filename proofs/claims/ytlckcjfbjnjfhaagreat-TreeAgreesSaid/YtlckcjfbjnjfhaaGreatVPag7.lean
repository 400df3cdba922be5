/-
  Parts of the proofs of the laws: the executor, what functions of the program compute, and that it is what the statements ask. No premise.
-/
import Derived.Test.YtlckcjfbjnjfhaaGreatVPag6
set_option linter.unusedVariables false
set_option linter.unusedSimpArgs false
set_option maxHeartbeats 4000000
open Int renaming toNat → tN
open Inhabited renaming default → dF
namespace Go.Proofs.YtlckcjfbjnjfhaaGreat
open Go.Proofs Go.Aw Go.RowKit
set_option maxRecDepth 100000
theorem bAu (u v:P3):dt (cr u v) (cr u v)<=dt u u*dt v v:=by
 have h:=dM (dt u v)
 have e:dt (cr u v) (cr u v)+dt u v*dt u v=dt u u*dt v v:=by
  unfold dt cr;grind
 omega
theorem aXw {a b x:P3} {U:Int} (h1:ds a x<=U)(h2:ds b x<=U):dt (sb a b) (sb a b)<=4*U:=by
 have k:∀s t y:Int,(s - t)*(s - t)<=2*((s - y)*(s - y))+2*((t - y)*(t - y)):=by
  intro s t y
  have:=dM (s+t - 2*y)
  grind
 have k1:=k a.1 b.1 x.1;have k2:=k a.2.1 b.2.1 x.2.1;have k3:=k a.2.2 b.2.2 x.2.2
 unfold ds dt sb at *;simp only at *;omega
theorem aU9 {N n:Int} (hN:0<=N/\N<=288230376151711744)(hn:1<=n):∃k:Int,0<=k/\k*k*n<=N/\∀t:Int,0<=t->t*t*n<=N->t<=k:=by
 obtain⟨k,_,hr,k0,_,_,_,_,k5⟩:=iC hN hn
 exact⟨k,k0,k5,fun t ht h=>hr.ge ht (Int.le_ediv_of_mul_le (by omega) h)⟩
section
variable {p : PN} {w U : Int} {x : P3}
theorem aRm (i i' j:Int):dt (sb (pt p w i j) (pt p w i' j)) (sb (pt p w i j) (pt p w i' j))=(i - i')*(i - i')*dt (sb p.2.1 p.1) (sb p.2.1 p.1):=by
 unfold dt sb pt;grind
theorem bAv (i j i' j':Int):cr (sb (pt p w i j) (pt p w i' j')) (sb p.2.1 p.1)=(-((j - j')*(lL p).1),-((j - j')*(lL p).2.1),-((j - j')*(lL p).2.2)):=by
 unfold lL cr sb pt;simp only [cW];refine⟨?_,?_,?_⟩<;>grind
theorem aXx (t:Int)(n:P3):dt (-(t*n.1),-(t*n.2.1),-(t*n.2.2)) (-(t*n.1),-(t*n.2.1),-(t*n.2.2))=t*t*dt n n:=by
 unfold dt;grind
noncomputable def aF0 (p:PN)(w:Int)(x:P3)(U:Int)(c:Cd):Bool:=decide (fa (mQ p w c) x<=U)
theorem aF1 {c:Cd} (h:aF0 p w x U c=true):ds (mQ p w c).1 x<=U/\ds (mQ p w c).2.1 x<=U/\ds (mQ p w c).2.2 x<=U:=by
 have h:=dB h
 exact⟨Int.le_trans (lW _ x _ (Or.inl rfl)) h,Int.le_trans (lW _ x _ (Or.inr (Or.inl rfl))) h,Int.le_trans (lW _ x _ (Or.inr (Or.inr rfl))) h⟩
theorem aRn (hp:bdP 512 p) {r:Int} (hr:IsRt (dt (lL p) (lL p)) r)(h1:1<=dt (lL p) (lL p))(hU:0<=U/\U<=300000000) {d:Nat} (hd:d<=3) :
 ((((KL d (0,0,false)).map (one (aF0 p w x U))).sum+1) / 2)*r<=4*U:=by
 have hu:=kC hp.2.1 hp.1
 have hub:=(aO9 hu hu).2
 have hu0:1<=dt (sb p.2.1 p.1) (sb p.2.1 p.1):=by
  have h0:=lU (sb p.2.1 p.1)
  have hl:=bAu (sb p.2.1 p.1) (sb p.2.2 p.1)
  rcases Int.lt_or_le (dt (sb p.2.1 p.1) (sb p.2.1 p.1)) 1 with h | h
  ·have e:dt (sb p.2.1 p.1) (sb p.2.1 p.1)=0:=by omega
   rw [e,Int.zero_mul] at hl
   have:dt (lL p) (lL p)=dt (cr (sb p.2.1 p.1) (sb p.2.2 p.1)) (cr (sb p.2.1 p.1) (sb p.2.2 p.1)):=rfl
   omega
  ·exact h
 generalize hw2:dt (sb p.2.1 p.1) (sb p.2.1 p.1)=q at *
 have hq:=cK (a:=1200000000) (b:=3145728) (x:=4*U) (y:=q) (by omega) (by omega)
 have hq0:0<=4*U*q:=Int.mul_nonneg (by omega) (by omega)
 obtain⟨M,M0,M1,M2⟩:=aU9 (N:=4*U) (n:=q) (by omega) hu0
 obtain⟨S,S0,S1,S2⟩:=aU9 (N:=4*U*q) (n:=dt (lL p) (lL p)) (by omega) h1
 have hc:ct (aF0 p w x U) 8<=2*M*S:=by
  refine bAt M0 S0 (fun i i' j o hi t1 t2=>?_) (fun i i' j j' o o' hj t1 t2=>?_)
  ·refine M2 _ (by omega) ?_
   have c1:=aF1 t1;have c2:=aF1 t2
   cases o
   ·have:=aXw (a:=pt p w (i'+1) j) (b:=pt p w i j) c2.2.1 c1.1
    rw [aRm,hw2] at this;exact this
   ·have:=aXw (a:=pt p w (i'+1) (j+1)) (b:=pt p w i (j+1)) c2.2.1 c1.2.2
    rw [aRm,hw2] at this;exact this
  ·refine S2 _ (by omega) ?_
   have c1:=aF1 t1;have c2:=aF1 t2
   have k2:ds (pt p w i' (j'+1)) x<=U:=by cases o'<;>exact c2.2.2
   have k1:∃a,ds (pt p w a j) x<=U:=by
    cases o
    ·exact⟨i,c1.1⟩
    ·exact⟨i+1,c1.1⟩
   obtain⟨a,k1⟩:=k1
   have h4:=aXw k2 k1
   have h5:=bAu (sb (pt p w i' (j'+1)) (pt p w a j)) (sb p.2.1 p.1)
   rw [bAv,aXx,hw2] at h5
   exact Int.le_trans h5 (Int.mul_le_mul_of_nonneg_right h4 (by omega))
 have hk:=bAs (aF0 p w x U) hd
 have hk0:=aKq (aF0 p w x U) (KL d (0,0,false))
 generalize ((KL d (0,0,false)).map (one (aF0 p w x U))).sum=k at *
 have e1:2*M*S=2*(M*S):=by rw [Int.mul_assoc]
 have hms:0<=M*S:=Int.mul_nonneg M0 S0
 have h3:(k+1) / 2<=M*S:=by omega
 refine Int.le_trans (Int.mul_le_mul_of_nonneg_right h3 hr.1) ?_
 have e2:(M*S*r)*(M*S*r)*q<=(4*U)*(4*U)*q:=by
  have f1:(M*S*r)*(M*S*r)*q=(M*M*q)*(S*S*(r*r)):=by grind
  have f2:(4*U)*(4*U)*q=(4*U)*(4*U*q):=by grind
  rw [f1,f2]
  have f3:S*S*(r*r)<=S*S*dt (lL p) (lL p):=Int.mul_le_mul_of_nonneg_left hr.2.1 (Int.mul_nonneg S0 S0)
  exact Int.mul_le_mul M1 (Int.le_trans f3 S1) (Int.mul_nonneg (Int.mul_nonneg S0 S0) (Int.mul_nonneg hr.1 hr.1)) (by omega)
 have e3:=Int.le_of_mul_le_mul_right e2 (by omega)
 rcases Int.lt_or_le (4*U) (M*S*r) with h | h
 ·have:=Int.mul_le_mul (show 4*U+1<=M*S*r by omega) (show 4*U+1<=M*S*r by omega) (by omega) (by omega)
  have e:(4*U+1)*(4*U+1)=(4*U)*(4*U)+8*U+1:=by grind
  omega
 ·exact h
end
def cnU (l:List Int)(U:Int):Int:=(l.map fun u=>if u<=U then(1:Int) else 0).sum
def A32:List Int:=[398942,282095,230330,199471,178413,162868,150786,141048,132981,126157,120286,115165,110647,106622,103007,99736,96758,94032,91524,89207,87057,85055,83186,81434,79789,78239,76777,75393,74082,72837,71653,70524]
def al (k:Nat):Int:=A32.getD ((k+1) / 2 - 1) 0
def xI:Nat->Int
 | 0=>0
 | k+1=>xI k+al (k+1)
theorem bAw:∀k:Nat,k < 64->0<=al (k+1)/\512000000000000<=al (k+1)*al (k+1)*(((k+2) / 2:Nat):Int)*3217:=by decide +kernel
theorem aRo:∀(l:List Int),l≠[]->∃u∈l,∀y∈l,y<=u
 | [u],_=>⟨u,by simp,fun y hy=>by simp at hy;omega⟩
 | u::v::l,_=>by
  obtain⟨z,hz,h⟩:=aRo (v::l) (by simp)
  by_cases hc:u<=z
  ·exact⟨z,List.mem_cons_of_mem _ hz,fun y hy=>by
    rcases List.mem_cons.1 hy with rfl | hy
    ·exact hc
    ·exact h y hy⟩
  ·exact⟨u,List.mem_cons_self,fun y hy=>by
    rcases List.mem_cons.1 hy with rfl | hy
    ·exact Int.le_refl _
    ·have:=h y hy;omega⟩
theorem aMu {U:Int}:∀{l:List Int},(∀y∈l,y<=U)->cnU l U=(l.length:Nat)
 | [],_=>rfl
 | u::l,h=>by
  have:=aMu (l:=l) (fun y hy=>h y (List.mem_cons_of_mem _ hy))
  unfold cnU at *
  simp only [List.map_cons,List.sum_cons,if_pos (h u List.mem_cons_self),this,List.length_cons];omega
theorem aRp {s r R N:Int} {f:Int->Int} (hs:0<=s)(hR:0<=R)(hr:1<=r)(hRr:3217*N<=R*R*(128*r))(hf0:∀u,0<=f u)(hf:∀u,1<=u->f u*f u*u<=s*s*N) :
 ∀(k:Nat) (l:List Int),l.length=k->k<=64->(∀U∈l,(cnU l U+1) / 2*r<=4*U)->1000000*(l.map f).sum<=xI k*(s*R)
 | 0,l,h,_,_=>by
  have:l=[]:=List.length_eq_zero_iff.1 h
  subst this;simp [xI]
 | k+1,l,h,hk,hc=>by
  obtain⟨u,hu,hm⟩:=aRo l (by intro e;rw [e] at h;cases h)
  have hp:=List.perm_cons_erase hu
  have hlen:(l.erase u).length=k:=by rw [List.length_erase_of_mem hu,h];rfl
  have hsub:∀U,cnU (l.erase u) U<=cnU l U:=by
   intro U
   have e:cnU l U=(if u<=U then 1 else 0)+cnU (l.erase u) U:=by
    unfold cnU
    rw [aCc (hp.map _)];rfl
   rw [e];split<;>omega
  have ih:=aRp hs hR hr hRr hf0 hf k (l.erase u) hlen (by omega) (fun U hU=>by
   have h1:=hc U (List.mem_of_mem_erase hU)
   have h2:=hsub U
   have:=Int.mul_le_mul_of_nonneg_right (show(cnU (l.erase u) U+1) / 2<=(cnU l U+1) / 2 by omega) (show 0<=r by omega)
   omega)
  have e:(l.map f).sum=f u+((l.erase u).map f).sum:=by rw [aCc (hp.map f)];rfl
  have hcu:=hc u hu
  rw [aMu hm,h] at hcu
  obtain⟨a0,a1⟩:=bAw k (by omega)
  have hm1:(((k+1:Nat):Int)+1) / 2=(((k+2) / 2:Nat):Int):=by omega
  rw [hm1] at hcu
  generalize hmm:(((k+2) / 2:Nat):Int)=m at *
  have m1:1<=m:=by omega
  have hmr:1<=m*r:=by have:=Int.mul_le_mul m1 hr (by omega) (by omega);omega
  have hu1:1<=u:=by omega
  have hfu:=hf u hu1
  have key:1000000*f u<=al (k+1)*(s*R):=by
   generalize f u=t at *
   have t0:0<=t\/t < 0:=by omega
   have ht:0<=t*t:=dM t
   have hR2:0<=R*R:=dM R
   have hs2:0<=s*s:=dM s
   -- t^2 m r <= 4 s^2 2^40
   have g1:t*t*(m*r)<=4*(s*s*N):=by
    have:=Int.mul_le_mul_of_nonneg_left hcu ht
    have e1:t*t*(4*u)=4*(t*t*u):=by grind
    omega
   -- t^2 m 3217 <= 512 s^2 R^2
   have g2:t*t*m*3217<=512*(s*s)*(R*R):=by
    have h5:=Int.mul_le_mul_of_nonneg_left hRr (show 0<=4*(s*s) by omega)
    have e1:4*(s*s)*(3217*N)=3217*(4*(s*s*N)):=by grind
    have e2:4*(s*s)*(R*R*(128*r))=512*(s*s)*(R*R)*r:=by grind
    have e3:t*t*m*3217*r=3217*(t*t*(m*r)):=by grind
    exact Int.le_of_mul_le_mul_right (a:=r) (by omega) (by omega)
   have g3:(1000000*t)*(1000000*t)*(m*3217)<=(al (k+1)*(s*R))*(al (k+1)*(s*R))*(m*3217):=by
    have e1:(1000000*t)*(1000000*t)*(m*3217)=1000000000000*(t*t*m*3217):=by grind
    have e2:(al (k+1)*(s*R))*(al (k+1)*(s*R))*(m*3217)=(al (k+1)*al (k+1)*m*3217)*((s*s)*(R*R)):=by grind
    have h6:=Int.mul_le_mul_of_nonneg_right a1 (Int.mul_nonneg hs2 hR2)
    have e3:512000000000000*(s*s*(R*R))=1000000000000*(512*(s*s)*(R*R)):=by grind
    omega
   have g4:=Int.le_of_mul_le_mul_right g3 (by omega)
   have hB:0<=al (k+1)*(s*R):=Int.mul_nonneg a0 (Int.mul_nonneg hs hR)
   generalize al (k+1)*(s*R)=B at *
   rcases Int.lt_or_le B (1000000*t) with h | h
   ·have:=Int.mul_le_mul (show B+1<=1000000*t by omega) (show B+1<=1000000*t by omega) (by omega) (by omega)
    have e:(B+1)*(B+1)=B*B+2*B+1:=by grind
    omega
   ·exact h
  rw [e]
  have e5:xI (k+1)*(s*R)=xI k*(s*R)+al (k+1)*(s*R):=by rw [xI,Int.add_mul]
  omega
theorem bAx (u w:P3):dt u w*dt u w<=dt u u*dt w w:=by
 obtain⟨a,b,c⟩:=u
 obtain⟨x,y,z⟩:=w
 simp only [dt]
 have h1:=dM (a*y - b*x);have h2:=dM (a*z - c*x);have h3:=dM (b*z - c*y)
 have e:(a*a+b*b+c*c)*(x*x+y*y+z*z)=(a*x+b*y+c*z)*(a*x+b*y+c*z)+((a*y - b*x)*(a*y - b*x)+(a*z - c*x)*(a*z - c*x)+(b*z - c*y)*(b*z - c*y)):=by grind
 omega
theorem aVa {a b:Int} (hb:0<=b)(h:a*a<=b*b):a<=b:=by
 rcases Int.lt_or_le b a with h' | h'
 ·have:=Int.mul_le_mul (show b+1<=a by omega) (show b+1<=a by omega) (by omega) (by omega)
  have e:(b+1)*(b+1)=b*b+2*b+1:=by grind
  omega
 ·exact h'
theorem aRq {u w:P3} {U α η:Int} (hU:0<=U)(ha:0<=α)(he:0<=η)(h1:dt u u*U<=α*α)(h2:dt w w*U<=η*η):dt u w*U<=α*η:=by
 refine aVa (Int.mul_nonneg ha he) ?_
 have c1:=Int.mul_le_mul_of_nonneg_right (bAx u w) (Int.mul_nonneg hU hU)
 have c2:=Int.mul_le_mul h1 h2 (Int.mul_nonneg (lU w) hU) (Int.mul_nonneg ha ha)
 have e1:dt u w*U*(dt u w*U)=dt u w*dt u w*(U*U):=by grind
 have e2:dt u u*U*(dt w w*U)=dt u u*dt w w*(U*U):=by grind
 have e3:α*α*(η*η)=α*η*(α*η):=by grind
 omega
theorem bAy {u v w:P3} {U α β η:Int} (hU:0<=U)(ha:0<=α)(hb:0<=β)(he:0<=η)(h1:dt u u*U<=α*α)(h2:dt v v*U<=β*β)(h3:dt w w*U<=η*η) :
 dt (ad (ad u w) v) (ad (ad u w) v)*U<=α*α+β*β+dt w w*U+2*(α*β)+2*(α*η)+2*(β*η):=by
 have c1:=aRq hU ha hb h1 h2
 have c2:=aRq hU ha he h1 h3
 have c3:=aRq hU hb he h2 h3
 have e:dt (ad (ad u w) v) (ad (ad u w) v)*U=dt u u*U+dt v v*U+dt w w*U+2*(dt u v*U)+2*(dt u w*U)+2*(dt v w*U):=by
  simp only [dt,ad];grind
 omega
theorem aVb (α β η:Int):(η+α+β)*(η+α+β)=α*α+β*β+η*η+2*(α*β)+2*(α*η)+2*(β*η):=by grind
theorem aXy {x y a b:P3} {U α β η:Int} (hU:0<=U)(ha:0<=α)(hb:0<=β)(he:0<=η)(h1:ds a x*U<=α*α)(h2:ds y b*U<=β*β)(h3:(η+α+β)*(η+α+β)<=ds a b*U):η*η<=ds x y*U:=by
 rcases Int.lt_or_le (ds x y*U) (η*η) with h | h
 ·have t:=bAy (u:=sb a x) (v:=sb y b) (w:=sb x y) hU ha hb he h1 h2 (Int.le_of_lt h)
  have e:ad (ad (sb a x) (sb x y)) (sb y b)=sb a b:=by
   obtain⟨a1,a2,a4⟩:=a;obtain⟨b1,b2,b4⟩:=b;obtain⟨x1,x2,x4⟩:=x;obtain⟨y1,y2,y4⟩:=y
   simp only [ad,sb,cW];omega
  rw [e] at t
  change ds a b*U<=α*α+β*β+ds x y*U+2*(α*β)+2*(α*η)+2*(β*η) at t
  have:=aVb α β η
  omega
 ·exact h
theorem aT1 {x y a b:P3} {U α β η:Int} (hU:0<=U)(ha:0<=α)(hb:0<=β)(he:0<=η)(h1:ds x a*U<=α*α)(h2:ds b y*U<=β*β)(h3:ds a b*U<=η*η):ds x y*U<=(η+α+β)*(η+α+β):=by
 have t:=bAy (u:=sb x a) (v:=sb b y) (w:=sb a b) hU ha hb he h1 h2 h3
 have e:ad (ad (sb x a) (sb a b)) (sb b y)=sb x y:=by
  obtain⟨a1,a2,a4⟩:=a;obtain⟨b1,b2,b4⟩:=b;obtain⟨x1,x2,x4⟩:=x;obtain⟨y1,y2,y4⟩:=y
  simp only [ad,sb,cW];omega
 rw [e] at t
 change ds x y*U<=α*α+β*β+ds a b*U+2*(α*β)+2*(α*η)+2*(β*η) at t
 change ds a b*U<=η*η at h3
 have:=aVb α β η
 omega
theorem aRr (U:Int):∀l:List Int,0<=cnU l U/\cnU l U<=(l.length:Nat)
 | []=>⟨Int.le_refl _,Int.le_refl _⟩
 | u::l=>by
  have:=aRr U l
  unfold cnU at *
  simp only [List.map_cons,List.sum_cons,List.length_cons]
  split<;>omega
theorem aXz (c:Cd):∀d:Nat,(KL d c).length=4 ^ d:=by
 intro d
 induction d generalizing c with
 | zero=>rfl
 | succ d ih=>simp only [KL,List.length_append,ih,Nat.pow_succ];omega
theorem aT2:xI 1*1<=1000000/\xI 4*2<=4000000/\xI 16*4<=16000000/\xI 64*8<=64000000:=by decide +kernel
noncomputable def lsm (p:PN)(x:P3):Int:=((bH 3 p).map fun f=>(oT 8 (fa f (tm 8 x))).1).sum
def MT (s:Int×Int)(m:Int):Prop:=64*s.1<=m/\m<=64*s.2
theorem aCd (a:Nat):∀(b:Nat) (p:PN),bH (a+b) p=(bH a p).flatMap (bH b)
 | 0,p=>by
  show bH a p=(bH a p).flatMap (fun c=>[c])
  simp
 | b+1,p=>by
  rw [←Nat.add_assoc,eF,aCd a b,List.flatMap_assoc]
  exact congrArg (fun f=>(bH a p).flatMap f) (funext fun c=>(eF b c).symm)
theorem aRs (g:PN->Int)(h:PN->List PN):∀l:List PN,((l.flatMap h).map g).sum=(l.map fun c=>((h c).map g).sum).sum
 | []=>rfl
 | c::l=>by simp only [List.flatMap_cons,List.map_append,List.sum_append,List.map_cons,List.sum_cons,aRs g h l]
theorem aF2 {g:PN->Int} {m:Int}:∀{l:List PN},(∀c∈l,m<=g c)->(l.length:Int)*m<=(l.map g).sum
 | [],_=>by simp
 | c::l,h=>by
  have h1:=aF2 (l:=l) (fun c hc=>h c (List.mem_cons_of_mem _ hc))
  have h2:=h c List.mem_cons_self
  rw [show(((c::l).length:Nat):Int)=(l.length:Nat)+1 from by simp,Int.add_mul,Int.one_mul,List.map_cons,List.sum_cons]
  omega
theorem aF3 {g:PN->Int} {m:Int}:∀{l:List PN},(∀c∈l,g c<=m)->(l.map g).sum<=(l.length:Int)*m
 | [],_=>by simp
 | c::l,h=>by
  have h1:=aF3 (l:=l) (fun c hc=>h c (List.mem_cons_of_mem _ hc))
  have h2:=h c List.mem_cons_self
  rw [show(((c::l).length:Nat):Int)=(l.length:Nat)+1 from by simp,Int.add_mul,Int.one_mul,List.map_cons,List.sum_cons]
  omega
theorem aMv {f g:PN->Int} {k:Int}:∀{l:List PN},(∀c∈l,k*f c<=g c)->k*(l.map f).sum<=(l.map g).sum
 | [],_=>by simp
 | c::l,h=>by
  have h1:=aMv (l:=l) (fun c hc=>h c (List.mem_cons_of_mem _ hc))
  have h2:=h c List.mem_cons_self
  rw [List.map_cons,List.sum_cons,List.map_cons,List.sum_cons,Int.mul_add]
  omega
theorem aMw {f g:PN->Int} {k:Int}:∀{l:List PN},(∀c∈l,g c<=k*f c)->(l.map g).sum<=k*(l.map f).sum
 | [],_=>by simp
 | c::l,h=>by
  have h1:=aMw (l:=l) (fun c hc=>h c (List.mem_cons_of_mem _ hc))
  have h2:=h c List.mem_cons_self
  rw [List.map_cons,List.sum_cons,List.map_cons,List.sum_cons,Int.mul_add]
  omega
theorem aVc (a b:Int)(x:P3):tm a (tm b x)=tm (a*b) x:=by unfold tm;simp only [Int.mul_assoc]
theorem aRt:∀(k:Nat) {m:Int} {c f:PN} (x:P3),bdP m c->m*2 ^ k<=100000->0<=m->f∈bH k c->fa f (tm (2 ^ k) x)<=4 ^ k*fa c x/\4 ^ k*ne c x<=ne f (tm (2 ^ k) x)
 | 0,m,c,f,x,_,_,_,h=>by
  simp only [bH,List.mem_singleton] at h
  subst h
  have e:tm (2 ^ 0) x=x:=by unfold tm;simp
  rw [e]
  simp only [Int.pow_zero,Int.one_mul]
  exact⟨Int.le_refl _,Int.le_refl _⟩
 | k+1,m,c,f,x,hb,hm,h0,hf=>by
  rw [eF,List.mem_flatMap] at hf
  obtain⟨y,hy,hf⟩:=hf
  have hp:(0:Int) < 2 ^ k:=Int.pow_pos (by omega)
  have hle:m*2 ^ k<=m*2 ^ (k+1):=Int.mul_le_mul_of_nonneg_left (by rw [Int.pow_succ];omega) h0
  have hyb:=(qN k hb (by omega) h0 hy).mono (show m*2 ^ k<=100000 by omega)
  obtain⟨i1,i2⟩:=aRt k x hb (by omega) h0 hy
  have g1:=aSu (x:=tm (2 ^ k) x) hyb hf
  have g2:=aSv (x:=tm (2 ^ k) x) hyb hf
  have e0:(2:Int)*2 ^ k=2 ^ (k+1):=by rw [Int.pow_succ,Int.mul_comm]
  rw [aVc,e0] at g1 g2
  have e1:(4:Int) ^ (k+1)*fa c x=4*(4 ^ k*fa c x):=by rw [Int.pow_succ];grind
  have e2:(4:Int) ^ (k+1)*ne c x=4*(4 ^ k*ne c x):=by rw [Int.pow_succ];grind
  rw [e1,e2]
  exact⟨by omega,by omega⟩
theorem aVd {K n:Int} (hK:0 < K)(hn:1<=n):1<=K*n:=by
 have:=Int.mul_le_mul (show 1<=K by omega) hn (by omega) (by omega)
 omega
theorem aVe {K s n:Int} (hK:0 < K)(e:NN 8=K*NN s)(hn:1<=n):oT 8 (K*n)=oT s n:=by
 have:=aVd hK hn
 unfold oT
 rw [if_neg (by omega),if_neg (by omega),e,aSw hK]
theorem dk {d:Int} (hd:0<=d/\d<=3):∃k:Nat,3=d.toNat+k/\k<=3/\NN 8=4 ^ k*NN (sc d)/\sc d*sc d*4 ^ k=64/\2 ^ k*sc d=8/\(512:Int)*2 ^ k<=100000/\8*8=(2:Int) ^ k*2 ^ k*(sc d*sc d):=by
 rcases d4 hd with rfl | rfl | rfl | rfl
 ·exact⟨3,by decide,by decide,by decide,by decide,by decide,by decide,by decide⟩
 ·exact⟨2,by decide,by decide,by decide,by decide,by decide,by decide,by decide⟩
 ·exact⟨1,by decide,by decide,by decide,by decide,by decide,by decide,by decide⟩
 ·exact⟨0,by decide,by decide,by decide,by decide,by decide,by decide,by decide⟩
theorem aVf (f:PN)(x:P3):0<=fa f x:=Int.le_trans (dC 0 _) (Int.le_trans (dC _ _) (dC _ _))
theorem aRu {p f:PN} (hp:vp p=0)(hf:f∈bH 3 p)(x:P3):1<=fa f x:=by
 have h:=aPs f x (R:=fa f x) (lW f x _ (Or.inl rfl)) (lW f x _ (Or.inr (Or.inl rfl))) (lW f x _ (Or.inr (Or.inr rfl)))
 rw [aJk (d:=3) (lV hp).1 (by omega) hf] at h
 have h2:=(lV hp).2
 have h3:=aVf f x
 rcases Int.lt_or_le (fa f x) 1 with h4 | h4
 ·rw [show fa f x=0 by omega] at h;omega
 ·exact h4
theorem aT3 {p c:PN} {d:Int} (hp:vp p=0)(hd:0<=d/\d<=3)(hc:c∈bH d.toNat p) {k:Nat} (hk:k<=3)(e8:8*8=(2:Int) ^ k*2 ^ k*(sc d*sc d))(x:P3):((bH k c).map fun f=>(oT 8 (fa f x)).1).sum<=4 ^ k*eZ p d:=by
 obtain⟨r,hr,r1,r2,hu,_⟩:=uF hp hd
 obtain⟨hb,hn⟩:=lV hp
 have hcb:=zE hb hd hc
 have hnc:=aJk hb hd hc
 have hR:=hu.1
 have ho:=aJf (s:=8) (by omega)
 obtain⟨u1,_⟩:=pR (t:=rQ d) (b:=128*r) (by omega)
 have hRr:3217*(1099511627776*(sc d*sc d))<=eZ p d*eZ p d*(128*r):=by
  have h1:=Int.mul_le_mul_of_nonneg_right hu.2.1 (show 0<=128*r by omega)
  unfold rQ at u1 h1
  omega
 generalize eZ p d=R at *
 have hs2:(0:Int) < 2 ^ k:=Int.pow_pos (by omega)
 have hsum:((bH k c).map fun f=>(oT 8 (fa f x)).1).sum=(((KL k (0,0,false)).map fun f=>fa (mQ c (2 ^ k) f) x).map fun u=>(oT 8 u).1).sum:=by
  rw [List.map_map]
  exact aN3 (g:=fun f=>(oT 8 (fa f x)).1) (fun q=>by rw [(aWr q x).1]) (fun q=>by rw [(aWr q x).2.1]) (fun q=>by rw [(aWr q x).2.2]) hcb hk
 rw [hsum]
 have hlen:((KL k (0,0,false)).map fun f=>fa (mQ c (2 ^ k) f) x).length=4 ^ k:=by rw [List.length_map,aXz]
 have hk4:k=0\/k=1\/k=2\/k=3:=by omega
 have h64:4 ^ k<=64:=by rcases hk4 with rfl | rfl | rfl | rfl<;>decide
 have key:=aRp (s:=2 ^ k) (r:=r) (R:=R) (f:=fun u=>(oT 8 u).1) (by omega) hR r1 hRr (fun u=>ho.lo u) (fun u hu=>by
  unfold oT
  rw [if_neg (by omega)]
  obtain⟨j,hj,_,_,_,_,_,_,k5⟩:=iC (aBc (s:=8) (by omega)) hu
  unfold inv
  simp only
  rw [hj]
  have e9:2 ^ k*2 ^ k*(1099511627776*(sc d*sc d))=NN 8:=by
   rw [show(2:Int) ^ k*2 ^ k*(1099511627776*(sc d*sc d))=2 ^ k*2 ^ k*(sc d*sc d)*1099511627776 by grind,←e8];rfl
  rw [e9];exact k5) (4 ^ k) _ hlen h64 (fun U hU=>by
  obtain⟨f,_,hf⟩:=List.mem_map.1 hU
  have hU0:0<=U:=by rw [←hf];exact aVf _ _
  by_cases hbig:U<=300000000
  ·have h:=aRn (p:=c) (w:=2 ^ k) (x:=x) hcb (by rw [hnc];exact hr) (by rw [hnc];exact hn) ⟨hU0,hbig⟩ (d:=k) hk
   have e:cnU ((KL k (0,0,false)).map fun f=>fa (mQ c (2 ^ k) f) x) U=((KL k (0,0,false)).map (one (aF0 c (2 ^ k) x U))).sum:=by
    unfold cnU
    rw [List.map_map]
    congr 1
    refine List.map_congr_left (fun f _=>?_)
    show(if fa (mQ c (2 ^ k) f) x<=U then(1:Int) else 0)=one (aF0 c (2 ^ k) x U) f
    unfold one aF0
    by_cases h:fa (mQ c (2 ^ k) f) x<=U
    ·rw [if_pos h,bQ h];rfl
    ·rw [if_neg h,cG h];rfl
   rw [e];exact h
  ·have h:=aRr U ((KL k (0,0,false)).map fun f=>fa (mQ c (2 ^ k) f) x)
   rw [hlen] at h
   have h2:(cnU ((KL k (0,0,false)).map fun f=>fa (mQ c (2 ^ k) f) x) U+1) / 2<=32:=by omega
   have:=Int.mul_le_mul_of_nonneg_right h2 (show 0<=r by omega)
   omega)
 generalize (((KL k (0,0,false)).map fun f=>fa (mQ c (2 ^ k) f) x).map fun u=>(oT 8 u).1).sum=v at *
 obtain⟨s0,s1,s2,s3⟩:=aT2
 have fin:xI (4 ^ k)*2 ^ k<=1000000*4 ^ k:=by
  rcases hk4 with rfl | rfl | rfl | rfl
  ·exact s0
  ·exact s1
  ·exact s2
  ·exact s3
 have h1:=Int.mul_le_mul_of_nonneg_right fin hR
 have e1:xI (4 ^ k)*2 ^ k*R=xI (4 ^ k)*(2 ^ k*R):=Int.mul_assoc _ _ _
 have e2:1000000*4 ^ k*R=1000000*(4 ^ k*R):=Int.mul_assoc _ _ _
 omega
theorem aX0 (c q:PN):fa c q.1<=fa3 c q:=by
 obtain⟨h1,h2,h3⟩:=aJh c q
 exact jR (jR (jR (Int.le_trans (lU _) h1) h1) h2) h3
theorem aX1 (c q:PN):ne3 c q<=ne c q.1:=by
 have h:=in3 (c:=q) (a:=q.1) (Or.inl rfl)
 have gm:∀e f l h x:Int,l<=x->x<=h->gp e f l h*gp e f l h<=gp e f x x*gp e f x x:=by
  intro e f l h x e1 e2
  have:gp e f l h<=gp e f x x:=by unfold gp mx;(repeat' split)<;>omega
  exact Int.mul_le_mul this this (aBa _ _ _ _) (aBa _ _ _ _)
 exact Int.add_le_add (Int.add_le_add (gm _ _ _ _ _ h.1 h.2.1) (gm _ _ _ _ _ h.2.2.1 h.2.2.2.1)) (gm _ _ _ _ _ h.2.2.2.2.1 h.2.2.2.2.2)
section
variable {p q c : PN} {d : Int}
theorem aMx (hp:vp p=0)(hd:0<=d/\d<=3)(hc:c∈bH d.toNat p) {k:Nat} (h3:3=d.toNat+k)(eN:NN 8=4 ^ k*NN (sc d))(e8:2 ^ k*sc d=8)(hm:(512:Int)*2 ^ k<=100000) {f:PN} (hf:f∈bH k c) :
 bLo d (tmP (sc d) q) c<=(oT 8 (fa f (tm 8 q.1))).1/\(0 < ne3 c (tmP (sc d) q)->(oT 8 (fa f (tm 8 q.1))).1<=(oT (sc d) (ne3 c (tmP (sc d) q))).2):=by
 have hcb:=zE (lV hp).1 hd hc
 have hfp:f∈bH 3 p:=by rw [h3,aCd];exact List.mem_flatMap.2 ⟨c,hc,hf⟩
 have h1:=aRu hp hfp (tm 8 q.1)
 obtain⟨g1,g2⟩:=aRt k (tm (sc d) q.1) hcb hm (by omega) hf
 rw [aVc,e8] at g1 g2
 have hK:(0:Int) < 4 ^ k:=Int.pow_pos (by omega)
 have ho:=aJf (s:=8) (by omega)
 have a1:fa c (tm (sc d) q.1)<=fa3 c (tmP (sc d) q):=aX0 c (tmP (sc d) q)
 have a2:ne3 c (tmP (sc d) q)<=ne c (tm (sc d) q.1):=aX1 c (tmP (sc d) q)
 have hc4:=Int.mul_le_mul_of_nonneg_left a1 (Int.le_of_lt hK)
 have hc5:=Int.mul_le_mul_of_nonneg_left a2 (Int.le_of_lt hK)
 constructor
 ·have h4:1<=fa3 c (tmP (sc d) q):=by
   rcases Int.lt_or_le (fa3 c (tmP (sc d) q)) 1 with h | h
   ·have:=Int.mul_le_mul_of_nonneg_left (show fa3 c (tmP (sc d) q)<=0 by omega) (Int.le_of_lt hK);omega
   ·exact h
  unfold bLo
  rw [←aVe hK eN h4]
  exact ho.mono _ _ h1 (by omega)
 ·intro hz
  have h5:=aVd hK (show 1<=ne3 c (tmP (sc d) q) by omega)
  have h6:=(aZi f (tm 8 q.1)).2
  rw [←aVe hK eN (show 1<=ne3 c (tmP (sc d) q) by omega)]
  refine Int.le_trans (ho.mono (ne f (tm 8 q.1)) _ (by omega) h6) (Int.le_trans (ho.le _) ?_)
  unfold oT
  rw [if_neg (by omega),if_neg (by omega)]
  exact aHc (by decide) h5 (by omega)
theorem aX2 (hp:vp p=0)(hd:0<=d/\d<=3):MT (aE2 p (tmP (sc d) q) d) (lsm p q.1):=by
 obtain⟨k,h3,hk,eN,e64,e8,hm,e88⟩:=dk hd
 have hK:(0:Int) < 4 ^ k:=Int.pow_pos (by omega)
 have hn:=pQ d
 have hl:∀c:PN,(((bH k c).length:Nat):Int)=4 ^ k:=fun c=>by rw [uC];simp
 have hsum:lsm p q.1=((bH d.toNat p).map fun c=>((bH k c).map fun f=>(oT 8 (fa f (tm 8 q.1))).1).sum).sum:=by
  unfold lsm
  rw [h3,aCd,aRs]
 have hlo:4 ^ k*((bH d.toNat p).map (bLo d (tmP (sc d) q))).sum<=lsm p q.1:=by
  rw [hsum]
  refine aMv (fun c hc=>?_)
  rw [←hl c]
  exact aF2 (fun f hf=>(aMx hp hd hc h3 eN e8 hm hf).1)
 have hhi:lsm p q.1<=4 ^ k*((bH d.toNat p).map (bHi (eZ p d) d (tmP (sc d) q))).sum:=by
  rw [hsum]
  refine aMw (fun c hc=>?_)
  have hr:=aT3 hp hd hc hk e88 (tm 8 q.1)
  unfold bHi
  split
  ·rename_i hz
   split
   ·rw [←hl c]
    exact aF3 (fun f hf=>(aMx hp hd hc h3 eN e8 hm hf).2 hz)
   ·exact hr
  ·exact hr
 unfold aE2 MT
 rw [aE4]
 simp only [avg,Int.zero_add]
 generalize ((bH d.toNat p).map (bLo d (tmP (sc d) q))).sum=A at *
 generalize ((bH d.toNat p).map (bHi (eZ p d) d (tmP (sc d) q))).sum=B at *
 have i1:=Int.ediv_mul_le A (show sc d*sc d≠0 by omega)
 have i2:=Int.ediv_mul_le (-B) (show sc d*sc d≠0 by omega)
 have j1:=Int.mul_le_mul_of_nonneg_left i1 (Int.le_of_lt hK)
 have j2:=Int.mul_le_mul_of_nonneg_left i2 (Int.le_of_lt hK)
 have e1:4 ^ k*(A / (sc d*sc d)*(sc d*sc d))=64*(A / (sc d*sc d)):=by rw [←e64];grind
 have e2:4 ^ k*(-B / (sc d*sc d)*(sc d*sc d))=64*(-B / (sc d*sc d)):=by rw [←e64];grind
 have e3:4 ^ k*-B=-(4 ^ k*B):=by grind
 omega
end
theorem aX3 {n:Int} (h0:0<=n)(h:n<=288230376151711744):0<=gU n/\n<=gU n*gU n/\(gU n=lY n\/gU n=lY n+1):=by
 have r1:=aKd h0 (by omega)
 have hl:=r1.le (m:=536870912) (by omega) (by omega)
 have hn:=r1.1
 have hq:=xY (a:=lY n) hn (by omega)
 have h2:=r1.2.2
 unfold gU
 rw [aH (n:=lY n*lY n) (by omega) (by omega),aH (n:=lY n+1) (by omega) (by omega),Bool.cond_eq_ite]
 split
 ·exact⟨by omega,by omega,.inr rfl⟩
 ·rename_i hc
  exact⟨hn,by simpa using hc,.inl rfl⟩
def InB (c:P3)(R:Int)(p:PN):Prop:=ds p.1 c<=R/\ds p.2.1 c<=R/\ds p.2.2 c<=R
theorem aMy (s:Int)(a b:P3):ds (tm s a) (tm s b)=s*s*ds a b:=by unfold ds dt sb tm;grind
theorem aX4 {p f:PN} {c:P3} {R:Int} (hp:bdP 64 p)(hf:f∈bH 3 p)(h:InB c R p):InB (tm 8 c) (64*R) f:=by
 obtain⟨a1,a2,a4⟩:=aId 3 (m:=64) hp (by decide) (by decide) hf
 have key:∀y,aFx (2 ^ 3) p y->ds y (tm 8 c)<=64*R:=fun y hy=>by
  have e:(2:Int) ^ 3=8:=by decide
  rw [e] at hy
  refine aT0 (by omega) hy ?_ ?_ ?_<;>rw [aMy]
  ·have:=h.1;omega
  ·have:=h.2.1;omega
  ·have:=h.2.2;omega
 exact⟨key _ a1,key _ a2,key _ a4⟩
theorem bAz (c:PN)(x:P3):fa c x=0\/fa c x=ds c.1 x\/fa c x=ds c.2.1 x\/fa c x=ds c.2.2 x:=by
 unfold fa mx
 (repeat' split)<;>first | exact .inl rfl | exact .inr (.inl rfl) | exact .inr (.inr (.inl rfl)) | exact .inr (.inr (.inr rfl))
theorem aRv {f:PN} {x ca cb:P3} {Ra Rb U A B D h n:Int} (hU:0 < U)(hA:0<=A)(hB:0<=B)(hD:0<=D)(hh:0 < h)(eA:Ra*U<=A*A)(eB:Rb*U<=B*B)(eD:n*U<=D*D)(eh:(h+A+B)*(h+A+B)<=n*U)(hn:ds ca cb=n)
 (hf:InB (tm 8 ca) (64*Ra) f) (hx:ds x (tm 8 cb)<=64*Rb):fa f x*U<=64*((D+(A+B))*(D+(A+B)))/\64*(h*h)<=fa f x*U:=by
 have g1:∀y,ds y (tm 8 ca)<=64*Ra->ds y x*U<=64*((D+(A+B))*(D+(A+B))):=fun y hy=>by
  have t:=aT1 (x:=y) (y:=x) (a:=tm 8 ca) (b:=tm 8 cb) (U:=U) (α:=8*A) (β:=8*B) (η:=8*D) (by omega) (by omega) (by omega) (by omega)
   (by
    have:=Int.mul_le_mul_of_nonneg_right hy (show 0<=U by omega);have e:64*Ra*U=64*(Ra*U):=by grind
    have e2:8*A*(8*A)=64*(A*A):=by grind
    omega)
   (by
    rw [aLr];have:=Int.mul_le_mul_of_nonneg_right hx (show 0<=U by omega);have e:64*Rb*U=64*(Rb*U):=by grind
    have e2:8*B*(8*B)=64*(B*B):=by grind
    omega)
   (by
    rw [aMy,hn];have e:8*8*n*U=64*(n*U):=by grind
    have e2:8*D*(8*D)=64*(D*D):=by grind
    omega)
  have e3:(8*D+8*A+8*B)*(8*D+8*A+8*B)=64*((D+(A+B))*(D+(A+B))):=by grind
  omega
 constructor
 ·have h0:0<=(D+(A+B))*(D+(A+B)):=dM _
  rcases bAz f x with e | e | e | e<;>rw [e]
  ·omega
  ·exact g1 _ hf.1
  ·exact g1 _ hf.2.1
  ·exact g1 _ hf.2.2
 ·have t:=aXy (x:=f.1) (y:=x) (a:=tm 8 ca) (b:=tm 8 cb) (U:=U) (α:=8*A) (β:=8*B) (η:=8*h) (by omega) (by omega) (by omega) (by omega)
   (by
    rw [aLr];have:=Int.mul_le_mul_of_nonneg_right hf.1 (show 0<=U by omega);have e:64*Ra*U=64*(Ra*U):=by grind
    have e2:8*A*(8*A)=64*(A*A):=by grind
    omega)
   (by
    have:=Int.mul_le_mul_of_nonneg_right hx (show 0<=U by omega);have e:64*Rb*U=64*(Rb*U):=by grind
    have e2:8*B*(8*B)=64*(B*B):=by grind
    omega)
   (by
    rw [aMy,hn];have e:8*8*n*U=64*(n*U):=by grind
    have e2:(8*h+8*A+8*B)*(8*h+8*A+8*B)=64*((h+A+B)*(h+A+B)):=by grind
    omega)
  have e3:8*h*(8*h)=64*(h*h):=by grind
  have h1:=Int.mul_le_mul_of_nonneg_right (lW f x _ (Or.inl rfl)) (show 0<=U by omega)
  omega
theorem aX5 {F U T h:Int} (hU:U=1099511627776)(hF:1<=F)(hT:0 < T)(hh:0 < h)(h1:F*U<=64*(T*T))(h2:64*(h*h)<=F*U):U / T<=(oT 8 F).1/\(oT 8 F).1<=(U+h - 1) / h:=by
 unfold oT
 rw [if_neg (by omega)]
 obtain⟨k,hk,hr,k0,k1,k2,k3,k4,k5⟩:=iC (aBc (s:=8) (by omega)) hF
 unfold inv
 rw [hk]
 simp only
 have eN:NN 8=64*U:=by rw [hU];decide
 rw [eN] at k5 hr
 constructor
 ·have l0:0<=U / T:=Int.ediv_nonneg (by omega) (by omega)
  have l1:=Int.ediv_mul_le U (show T≠0 by omega)
  generalize U / T=L at *
  refine hr.ge l0 (Int.le_ediv_of_mul_le (by omega) ?_)
  have a1:=Int.mul_le_mul l1 l1 (Int.mul_nonneg l0 (by omega)) (by omega)
  have a2:=Int.mul_le_mul_of_nonneg_left h1 (dM L)
  have e1:L*L*(64*(T*T))=64*(L*T*(L*T)):=by grind
  have e2:L*L*(F*U)=L*L*F*U:=by grind
  have e3:64*(U*U)=64*U*U:=by grind
  exact Int.le_of_mul_le_mul_right (show L*L*F*U<=64*U*U by omega) (by omega)
 ·refine Int.le_ediv_of_mul_le hh ?_
  have a1:=Int.mul_le_mul_of_nonneg_left h2 k2
  have a2:=Int.mul_le_mul_of_nonneg_right k5 (show 0<=U by omega)
  have e1:k*k*(64*(h*h))=64*(k*h*(k*h)):=by grind
  have e2:k*k*(F*U)=k*k*F*U:=by grind
  have e3:64*U*U=64*(U*U):=by grind
  have:=aVa (a:=k*h) (b:=U) (by omega) (by omega)
  omega
theorem aX6 {a b:ND} {p:PN} {x:P3} (h:(fsV a b).2=0)(hp:vp p=0)(ha:InB a.2.2.2.2.1 a.2.2.2.2.2 p)(hb:ds x b.2.2.2.2.1<=b.2.2.2.2.2):MT (fsV a b).1 (lsm p x):=by
 unfold fsV at h ⊢
 by_cases hk:knw a/\knw b
 ·rw [if_pos hk] at h ⊢
  simp only at h ⊢
  obtain⟨_,d0,d1⟩:=aXo hk.1.2 hk.2.2
  have na:=hk.1.1;have nb:=hk.2.1
  have uA:=aX3 (n:=a.2.2.2.2.2*1099511627776) (by omega) (by omega)
  have uB:=aX3 (n:=b.2.2.2.2.2*1099511627776) (by omega) (by omega)
  have uD:=aX3 (n:=ds a.2.2.2.2.1 b.2.2.2.2.1*1099511627776) (by omega) (by omega)
  have hA:=rt2 (n:=a.2.2.2.2.2*1099511627776) (by omega) (by omega)
  have hB:=rt2 (n:=b.2.2.2.2.2*1099511627776) (by omega) (by omega)
  have hD:=rt2 (n:=ds a.2.2.2.2.1 b.2.2.2.2.1*1099511627776) (by omega) (by omega)
  have rD:=aKd (n:=ds a.2.2.2.2.1 b.2.2.2.2.1*1099511627776) (by omega) (by omega)
  generalize hn:ds a.2.2.2.2.1 b.2.2.2.2.1=n at *
  generalize gU (a.2.2.2.2.2*1099511627776)=A at *
  generalize gU (b.2.2.2.2.2*1099511627776)=B at *
  generalize gU (n*1099511627776)=D at *
  generalize lY (n*1099511627776)=d at *
  by_cases hc:d<=A+B
  ·rw [if_pos hc] at h;cases h
  ·rw [if_neg hc]
   generalize hT:D+(A+B)=T
   generalize hh:d - (A+B)=g
   have T0:0 < T:=by omega
   have g0:0 < g:=by omega
   have hb1:1099511627776+d - (A+B) - 1=1099511627776+g - 1:=by omega
   have l0:0<=(1099511627776:Int) / T:=Int.ediv_nonneg (by omega) (by omega)
   have l1:(1099511627776:Int) / T<=1099511627776:=Int.ediv_le_self _ (by omega)
   have m0:0<=(1099511627776+g - 1) / g:=Int.ediv_nonneg (by omega) (by omega)
   have m1:(1099511627776+g - 1) / g<=1099511627776+g - 1:=Int.ediv_le_self _ (by omega)
   rw [hb1,Int.tdiv_eq_ediv_of_nonneg (by omega),Int.tdiv_eq_ediv_of_nonneg (by omega),aH (n:=1099511627776 / T) (by omega) (by omega),aH (n:=(1099511627776+g - 1) / g) (by omega) (by omega)]
   have key:∀f∈bH 3 p,1099511627776 / T<=(oT 8 (fa f (tm 8 x))).1/\(oT 8 (fa f (tm 8 x))).1<=(1099511627776+g - 1) / g:=fun f hf=>by
    have q:=aRv (f:=f) (x:=tm 8 x) (ca:=a.2.2.2.2.1) (cb:=b.2.2.2.2.1) (U:=1099511627776) (A:=A) (B:=B) (D:=D) (h:=g) (n:=n) (by omega) uA.1 uB.1 uD.1 g0 uA.2.1 uB.2.1 uD.2.1
     (by rw [show g+A+B=d by omega];exact rD.2.1) hn (aX4 (lV hp).1 hf ha) (by rw [aMy];omega)
    rw [hT] at q
    exact aX5 rfl (aRu hp hf _) T0 g0 q.1 q.2
   have hl:(((bH 3 p).length:Nat):Int)=64:=by rw [uC];rfl
   have s1:=aF2 (l:=bH 3 p) (fun f hf=>(key f hf).1)
   have s2:=aF3 (l:=bH 3 p) (fun f hf=>(key f hf).2)
   rw [hl] at s1 s2
   exact⟨s1,s2⟩
 ·rw [if_neg hk] at h;cases h
end Go.Proofs.YtlckcjfbjnjfhaaGreat
namespace Go.Proofs.YtlckcjfbjnjfhaaGreat
open Go.Proofs Go.Aw Go.RowKit
set_option maxRecDepth 100000
theorem bA0 {m:cN} (h:VCH m):eI m=0:=by
 have lp:∀(d i n:Nat),d=m.length - i->i<=m.length->d < n->aA (dV m) n (i:Int)=0:=by
  intro d
  induction d with
  | zero =>
   intro i n hd hi hn
   obtain⟨n,rfl⟩:∃k,n=k+1:=⟨n - 1,by omega⟩
   refine aG ?_
   simp only [dV]
   rw [cG (show ¬((i:Nat):Int) < (m.length:Int) by omega),cond_false]
  | succ d ih =>
   intro i n hd hi hn
   obtain⟨n,rfl⟩:∃k,n=k+1:=⟨n - 1,by omega⟩
   obtain⟨g1,g2,g3⟩:=h.2 i (by omega)
   have e:dV m (i:Int)=bif (((sR (m.getD i dF).1):Int) != 0) then .inr (sR (m.getD i dF).1) else bif (!(F59 (m.getD i dF).2 (-100) 100)) then .inr 1 else .inl ((i+1:Nat):Int):=by
    simp only [dV,fW]
    rw [bQ (show((i:Nat):Int) < (m.length:Int) by omega),cond_true];rfl
   rw [aI9,g1,aDf,bQ (show -100<=(m.getD i dF).2/\(m.getD i dF).2<=100 from⟨g2,g3⟩)] at e
   rw [aB (e.trans rfl)]
   exact ih (i+1) n (by omega) (by omega) (by omega)
 unfold eI
 rw [cG (show ¬(m.length:Int) > 96 by have:=h.1;omega),cond_false]
 exact lp m.length 0 _ (by omega) (by omega) (by omega)
theorem aMz {m:cN} (hm:∀j,j < m.length->bdP 64 (m.getD j dF).1) {c:P3} (hc:bd 64 c):∀(d i n:Nat) (v:Int),d=m.length - i->i<=m.length->d < n ->
 v<=(aA (jT m c) n (v,(i:Int))).1/\∀j,i<=j->j < m.length->InB c (aA (jT m c) n (v,(i:Int))).1 (m.getD j dF).1
 | 0,i,n,v,hd,hi,hn=>by
  obtain⟨n,rfl⟩:∃k,n=k+1:=⟨n - 1,by omega⟩
  have e:jT m c (v,(i:Int))=.inr (v,0):=by
   simp only [jT]
   rw [cG (by omega),cond_false]
  rw [aG e]
  exact⟨Int.le_refl _,fun j h1 h2=>absurd h2 (by omega)⟩
 | d+1,i,n,v,hd,hi,hn=>by
  obtain⟨n,rfl⟩:∃k,n=k+1:=⟨n - 1,by omega⟩
  have hb:=hm i (by omega)
  have e:jT m c (v,(i:Int))=.inl (mx (mx (mx v (ds (m.getD i dF).1.1 c)) (ds (m.getD i dF).1.2.1 c)) (ds (m.getD i dF).1.2.2 c),((i+1:Nat):Int)):=by
   simp only [jT,fW]
   rw [bQ (by omega),cond_true,aXp hb.1 hc,aXp hb.2.1 hc,aXp hb.2.2 hc];rfl
  rw [aB e]
  obtain⟨k1,k2⟩:=aMz hm hc d (i+1) n (mx (mx (mx v (ds (m.getD i dF).1.1 c)) (ds (m.getD i dF).1.2.1 c)) (ds (m.getD i dF).1.2.2 c)) (by omega) (by omega) (by omega)
  have m1:=dC v (ds (m.getD i dF).1.1 c);have m2:=mE v (ds (m.getD i dF).1.1 c)
  have m3:=dC (mx v (ds (m.getD i dF).1.1 c)) (ds (m.getD i dF).1.2.1 c);have m4:=mE (mx v (ds (m.getD i dF).1.1 c)) (ds (m.getD i dF).1.2.1 c)
  have m5:=dC (mx (mx v (ds (m.getD i dF).1.1 c)) (ds (m.getD i dF).1.2.1 c)) (ds (m.getD i dF).1.2.2 c);have m6:=mE (mx (mx v (ds (m.getD i dF).1.1 c)) (ds (m.getD i dF).1.2.1 c)) (ds (m.getD i dF).1.2.2 c)
  refine⟨by omega,fun j h1 h2=>?_⟩
  by_cases hj:j=i
  ·subst hj
   exact⟨by omega,by omega,by omega⟩
  ·exact k2 j (by omega) h2
theorem aX7 {m:cN} (hv:VCH m) {c:P3} (hc:bd 64 c) {j:Nat} (hj:j < m.length):InB c (mL m c).1 (m.getD j dF).1:=by
 have e:wR m c=0:=by
  unfold wR
  rw [←pY,bA0 hv,(aHv c).2 hc];rfl
 unfold mL
 rw [e,show(((0:Int):Int) != 0)=false from rfl,cond_false]
 exact(aMz (fun k hk=>aJx hv hk) hc m.length 0 _ 0 (by omega) (by omega) (by omega)).2 j (Nat.zero_le _) hj
theorem aIe (l:cN)(ns:List Int):gR l ns=ns.map (fun a=>l.getD (tN a) dF):=aJr l ns
theorem aT4 {l:cN} {ns:List Int} (hv:VCH l)(hi:InR l.length ns)(hn:ns.length<=96) {x:Int} (hx:x∈ns):InB (aJy l ns) (mL (gR l ns) (aJy l ns)).1 (l.getD (tN x) dF).1:=by
 obtain⟨j,hj,rfl⟩:=List.mem_iff_getElem.1 hx
 have hg:∀k,k < ns.length->(gR l ns).getD k dF=l.getD (tN (ns.getD k dF)) dF:=fun k hk=>by
  rw [aIe];simp [cY,hk]
 have hlen:(gR l ns).length=ns.length:=by rw [aIe];simp
 have hvp:VCH (gR l ns):=by
  refine⟨by omega,fun k hk=>?_⟩
  rw [hlen] at hk
  rw [hg k hk]
  have:=hi.at hk
  exact hv.2 _ (by omega)
 have:=aX7 hvp (c:=aJy l ns) ⟨wS hv hi 0,wS hv hi 1,wS hv hi 2⟩ (j:=j) (by omega)
 have e:ns.getD j dF=ns[j]:=by rw [cY,List.getElem?_eq_getElem hj];rfl
 rw [hg j hj,e] at this
 exact this
def NBL (l:cN)(ord:List Int)(fr up:Int)(N:NDE):Prop:=(fr<=N.1/\N.1<=N.2.1/\N.2.1<=up)/\∀p:Int,N.1<=p->p < N.2.1->InB N.2.2.2.2.1 N.2.2.2.2.2 (l.getD (tN (ord.getD (tN (p - fr)) dF)) dF).1
theorem aCe {l:List Int} {i:Nat} (h:i < l.length):l.getD i dF∈l:=by
 rw [cY,List.getElem?_eq_getElem h]
 exact List.getElem_mem h
theorem rC {α:Type} [Inhabited α] {a b:List α} {i:Nat} (h:i < a.length):(a++b).getD i dF=a.getD i dF:=by
 rw [cY,List.getElem?_append_left h,←cY]
theorem rE {α:Type} [Inhabited α] {a b:List α} {i:Nat} (h:a.length<=i):(a++b).getD i dF=b.getD (i - a.length) dF:=by
 rw [cY,List.getElem?_append_right h,←cY]
theorem aF4 {l:cN} (hv:VCH l) {leaf:Int} (hl:1<=leaf):∀(n:Nat) (ns:List Int) (fr a:Int),ns.length < n->InR l.length ns->ns.length<=96->∀N∈(GT l leaf n ns fr a).2,NBL l (GT l leaf n ns fr a).1 fr (fr+ns.length) N
 | 0,_,_,_,h,_,_=>absurd h (fJ _)
 | n+1,ns,fr,a,h,hi,hn=>by
  have hroot:∀lt rt:Int,NBL l (GT l leaf (n+1) ns fr a).1 fr (fr+ns.length) (ndR l ns fr lt rt):=fun lt rt=>by
   have hp:=zI l hl (n+1) ns fr a h
   have hlen:=hp.length_eq
   refine⟨⟨Int.le_refl _,by simp only [ndR];omega,Int.le_refl _⟩,fun p h1 h2=>?_⟩
   simp only [ndR] at h1 h2 ⊢
   exact aT4 hv hi hn (hp.mem_iff.1 (aCe (by omega)))
  intro N hN
  by_cases h0:(ns.length:Int)<=leaf
  ·have hr:=hroot (-1) (-1)
   rw [kK h0] at hN hr ⊢
   rw [List.mem_singleton.1 hN]
   exact hr
  ·have hr:=hroot
   rw [kL h0] at hN hr ⊢
   have hsl:=kJ l (aF l ns) ns
   have hsp:(nH l (aF l ns) ns).Perm ns:=List.mergeSort_perm ns _
   generalize nH l (aF l ns) ns=s at *
   have hd:(ns.length+1) / 2<=ns.length:=by omega
   have i1:InR l.length (s.take ((ns.length+1) / 2)):=fun x hx=>hi x (hsp.mem_iff.1 (List.mem_of_mem_take hx))
   have i2:InR l.length (s.drop ((ns.length+1) / 2)):=fun x hx=>hi x (hsp.mem_iff.1 (List.mem_of_mem_drop hx))
   have l1:(s.take ((ns.length+1) / 2)).length=(ns.length+1) / 2:=by rw [List.length_take];omega
   have l2:(s.drop ((ns.length+1) / 2)).length=ns.length - (ns.length+1) / 2:=by rw [List.length_drop];omega
   have g1:=wT l hl n (s.take ((ns.length+1) / 2)) fr (a+1) (by omega)
   rcases List.mem_cons.1 hN with rfl | hN
   ·exact hr _ _
   ·rcases List.mem_append.1 hN with hN | hN
    ·obtain⟨⟨b1,b2,b3⟩,b4⟩:=aF4 hv hl n _ _ _ (by omega) i1 (by omega) N hN
     refine⟨⟨b1,b2,by omega⟩,fun p h1 h2=>?_⟩
     have:=b4 p h1 h2
     simp only
     rw [rC (by omega)]
     exact this
    ·obtain⟨⟨b1,b2,b3⟩,b4⟩:=aF4 hv hl n _ _ _ (by omega) i2 (by omega) N hN
     refine⟨⟨by omega,b2,by omega⟩,fun p h1 h2=>?_⟩
     have:=b4 p h1 h2
     simp only
     rw [rE (by omega),show tN (p - fr) - (GT l leaf n (s.take ((ns.length+1) / 2)) fr (a+1)).1.length=tN (p - (fr+((ns.length+1) / 2:Nat))) by omega]
     exact this
theorem aM0 {l:cN} (hv:VCH l) {leaf:Int} (hl:1<=leaf) {N:NDE} (hN:N∈(BT l leaf).2):NBL l (BT l leaf).1 0 l.length N:=by
 unfold BT at hN ⊢
 by_cases h0:l.length=0
 ·rw [if_pos h0] at hN;cases hN
 ·rw [if_neg h0] at hN ⊢
  have:=aF4 hv hl (l.length+1) (iM l.length) 0 0 (by rw [cX];omega) (uH _) (by rw [cX];exact hv.1) N hN
  rw [cX,Int.zero_add] at this
  exact this
theorem aVg {l:cN} {d i:Int}:∀{ks:List Int} {v v':List lH},yW l d ks v i=.inl v'->v'=v++ks.map (fun k=>(btw l d i k).1)/\∀k∈ks,(btw l d i k).2=0
 | [],v,v',h=>by
  unfold yW eY at h
  cases h
  exact⟨by simp,fun k hk=>(by cases hk)⟩
 | k::ks,v,v',h=>by
  unfold yW at h
  simp only [eY] at h
  cases hb:((btw l d i k).2 != 0) with
  | true=>rw [hb,cond_true] at h;cases h
  | false =>
   rw [hb,cond_false] at h
   obtain⟨g1,g2⟩:=aVg (ks:=ks) (v:=v++[(btw l d i k).1]) h
   refine⟨by rw [g1];simp,fun x hx=>?_⟩
   rcases List.mem_cons.1 hx with rfl | hx
   ·exact bne_eq_false_iff_eq.1 hb
   ·exact g2 x hx
theorem aVh {l:cN} {d:Int} {ks:List Int}:∀{is:List Int} {v v':List lH},aFn l d is ks v=.inl v'->v'=v++is.flatMap (fun i=>ks.map (fun k=>(btw l d i k).1))/\∀i∈is,∀k∈ks,(btw l d i k).2=0
 | [],v,v',h=>by
  unfold aFn eY at h
  cases h
  exact⟨by simp,fun k hk=>(by cases hk)⟩
 | i::is,v,v',h=>by
  unfold aFn at h
  simp only [eY] at h
  cases hr:yW l d ks v i with
  | inr e=>rw [hr] at h;cases h
  | inl w =>
   rw [hr] at h
   obtain⟨g1,g2⟩:=aVg hr
   obtain⟨k1,k2⟩:=aVh (is:=is) (v:=w) h
   refine⟨by rw [k1,g1];simp,fun x hx=>?_⟩
   rcases List.mem_cons.1 hx with rfl | hx
   ·exact g2
   ·exact k2 x hx
theorem aVi {l:cN} {t:TR} {d:Int}:∀{bs:List BK5} {out v:List (List lH)},eY (fun(out:List (List lH)) b=>match kD l t d b with | .inl r=>.inl (out++[r]) | .inr e=>.inr e) bs out=(.inl v:List (List lH)⊕Int) ->
 v.length=out.length+bs.length/\(∀j,j < out.length->v.getD j dF=out.getD j dF)/\∀j,j < bs.length->kD l t d (bs.getD j dF)=.inl (v.getD (out.length+j) dF)
 | [],out,v,h=>by
  simp only [eY] at h
  cases h
  exact⟨rfl,fun j _=>rfl,fun j hj=>absurd hj (fJ _)⟩
 | b::bs,out,v,h=>by
  simp only [eY] at h
  cases hc:kD l t d b with
  | inr e=>rw [hc] at h;cases h
  | inl r =>
   rw [hc] at h
   obtain⟨k1,k2,k3⟩:=aVi (bs:=bs) (out:=out++[r]) (v:=v) h
   rw [List.length_append,List.length_singleton] at k1 k2 k3
   refine⟨by rw [k1,List.length_cons];omega,fun j hj=>by rw [k2 j (by omega),rC hj],fun j hj=>?_⟩
   cases j with
   | zero =>
    have e:=k2 out.length (by omega)
    rw [rE (Nat.le_refl _),Nat.sub_self] at e
    rw [Nat.add_zero,e]
    exact hc
   | succ j =>
    have:=k3 j (by rw [List.length_cons] at hj;omega)
    rw [show out.length+1+j=out.length+(j+1) by omega] at this
    exact this
theorem aRw {α:Type} [Inhabited α] {f:Int->List α} {L:Nat} (hL:∀i,(f i).length=L):∀(is:List Int) (a b:Nat),a < is.length->b < L->(is.flatMap f).getD (a*L+b) dF=(f (is.getD a dF)).getD b dF
 | [],a,b,h,_=>absurd h (fJ _)
 | i::is,0,b,_,hb=>by
  rw [List.flatMap_cons,Nat.zero_mul,Nat.zero_add,rC (by rw [hL];exact hb)];rfl
 | i::is,a+1,b,h,hb=>by
  have e:(a+1)*L+b=L+(a*L+b):=by rw [Nat.add_mul,Nat.one_mul];omega
  rw [List.flatMap_cons,e,rE (by rw [hL];omega),hL,Nat.add_sub_cancel_left]
  exact aRw hL is a b (by simpa using h) hb
theorem aDu {L:List Int} {a b p:Int} (h0:0<=a)(h1:a<=p)(h2:p < b)(h3:b<=L.length):(Aw.part L a b).getD (tN (p - a)) dF=L.getD (tN p) dF:=by
 unfold Aw.part
 rw [cY,List.getElem?_take_of_lt (by omega),List.getElem?_drop,show tN a+tN (p - a)=tN p by omega,←cY]
def ixV (far:Bool)(p q L:Int):Nat:=tN (bif far then 0 else p*L+q)
def lo1 (t:TR)(b:BK5):Int:=(t.2.getD (tN b.1) dF).1
def hi1 (t:TR)(b:BK5):Int:=(t.2.getD (tN b.1) dF).2.1
def yX (t:TR)(b:BK5):Int:=(t.2.getD (tN b.2.1) dF).1
def hi2 (t:TR)(b:BK5):Int:=(t.2.getD (tN b.2.1) dF).2.1
theorem aX8 {l:cN} {t:TR} {d:Int} {b:BK5} {r:List lH} (h:kD l t d b=.inl r)(a1:0<=lo1 t b/\hi1 t b<=t.1.length)(a2:0<=yX t b/\hi2 t b<=t.1.length) {p q:Int} (hp:lo1 t b<=p/\p < hi1 t b)(hq:yX t b<=q/\q < hi2 t b) :
 (b.2.2=true/\(fsV (t.2.getD (tN b.1) dF) (t.2.getD (tN b.2.1) dF)).2=0/\r.getD (ixV b.2.2 (p - lo1 t b) (q - yX t b) (hi2 t b - yX t b)) dF=(fsV (t.2.getD (tN b.1) dF) (t.2.getD (tN b.2.1) dF)).1) \/
 (b.2.2=false/\(btw l d (t.1.getD (tN p) dF) (t.1.getD (tN q) dF)).2=0/\r.getD (ixV b.2.2 (p - lo1 t b) (q - yX t b) (hi2 t b - yX t b)) dF=(btw l d (t.1.getD (tN p) dF) (t.1.getD (tN q) dF)).1):=by
 unfold kD at h
 unfold ixV
 cases hf:b.2.2 with
 | true =>
  rw [hf,cond_true] at h
  cases hz:((fsV (t.2.getD (tN b.1) dF) (t.2.getD (tN b.2.1) dF)).2 != 0) with
  | true=>rw [hz,cond_true] at h;cases h
  | false =>
   rw [hz,cond_false] at h
   cases h
   exact .inl ⟨rfl,bne_eq_false_iff_eq.1 hz,rfl⟩
 | false =>
  rw [hf,cond_false] at h
  obtain⟨g1,g2⟩:=aVh h
  rw [List.nil_append] at g1
  have e1:=aDu (L:=t.1) (a:=lo1 t b) (b:=hi1 t b) (p:=p) a1.1 hp.1 hp.2 a1.2
  have e2:=aDu (L:=t.1) (a:=yX t b) (b:=hi2 t b) (p:=q) a2.1 hq.1 hq.2 a2.2
  have n1:=Aw.part_len (l:=t.1) (a:=lo1 t b) (b:=hi1 t b) (by omega)
  have n2:=Aw.part_len (l:=t.1) (a:=yX t b) (b:=hi2 t b) (by omega)
  have m1:t.1.getD (tN p) dF∈Aw.part t.1 (lo1 t b) (hi1 t b):=by rw [←e1];exact aCe (by omega)
  have m2:t.1.getD (tN q) dF∈Aw.part t.1 (yX t b) (hi2 t b):=by rw [←e2];exact aCe (by omega)
  refine .inr ⟨rfl,g2 _ m1 _ m2,?_⟩
  have hL:((tN (p - lo1 t b)*(Aw.part t.1 (yX t b) (hi2 t b)).length+tN (q - yX t b):Nat):Int)=(p - lo1 t b)*(hi2 t b - yX t b)+(q - yX t b):=by
   rw [Int.natCast_add,Int.natCast_mul,n2,Int.toNat_of_nonneg (by omega),Int.toNat_of_nonneg (by omega),show(((hi2 t b).toNat - (yX t b).toNat:Nat):Int)=hi2 t b - yX t b by omega]
  have hix:tN (bif false then 0 else(p - lo1 t b)*(hi2 t b - yX t b)+(q - yX t b))=tN (p - lo1 t b)*(Aw.part t.1 (yX t b) (hi2 t b)).length+tN (q - yX t b):=by
   rw [cond_false,←hL,fW]
  rw [hix,g1]
  refine(aRw (f:=fun i=>(Aw.part t.1 (yX t b) (hi2 t b)).map (fun k=>(btw l d i k).1)) (fun i=>by simp) (Aw.part t.1 (lo1 t b) (hi1 t b)) _ _ (by omega) (by omega)).trans ?_
  have hm:∀(g:Int->lH) (ks:List Int) (j:Nat),j < ks.length->(ks.map g).getD j dF=g (ks.getD j dF):=fun g ks j hj=>by
   simp [cY,hj]
  rw [e1,hm _ _ _ (by omega),e2]
theorem bA1 {G:Nat->Nat->lH->Prop} {t:List (List lH)} {C:Nat->Nat->Prop} {n k0 m0:Nat} {v:lH} (ht:TL n t n)(hk:k0 < n)(hm:m0 < n)(hv:G k0 m0 v)(h:∀k m,C k m->G k m ((t.getD k []).getD m dF)) :
 ∀k m,(C k m\/(k=k0/\m=m0))->G k m (((t.set k0 ((t.getD k0 []).set m0 v)).getD k []).getD m dF):=by
 intro k m hc
 rw [vC]
 by_cases e:k=k0/\k0 < t.length
 ·rw [if_pos e,vC]
  by_cases e2:m=m0/\m0 < (t.getD k0 []).length
  ·rw [if_pos e2,e.1,e2.1];exact hv
  ·rw [if_neg e2]
   have hml:m0 < (t.getD k0 []).length:=by rw [ht.2 k0 hk];exact hm
   rcases hc with hc | hc
   ·rw [←e.1];exact h k m hc
   ·exact absurd ⟨hc.2,hml⟩ e2
 ·rw [if_neg e]
  rcases hc with hc | hc
  ·exact h k m hc
  ·exact absurd ⟨hc.1,by rw [ht.1];exact hk⟩ e
section
variable {G : Nat → Nat → lH → Prop} {l : cN} {o : oW} {j lo hi s b0 b1 c0 c1 c2 c3 c4 c5 c6 c7 : Int} {far : Bool}
theorem aRx {k i s2 pi:Int} (he:EOV l o)(h0:0 < l.length)(hc:0<=c0)(hk:0<=k/\k < l.length)(hs2:s2=c1 - c0)(hpi:0<=pi*(c1 - c0)/\pi*(c1 - c0)+(c1 - c0)<=1000000)
 (hg:∀q,c0<=q->q < c1->G (tN k) (tN (o.1.1.getD (tN q) dF)) ((o.2.2.getD (tN j) dF).getD (ixV far pi (q - c0) (c1 - c0)) dF)) :
 ∀(d n:Nat) (t:List (List lH)) (a q:Int),q+d=c1->c0<=q->d < n->EV l.length t->(a=bif far then 0 else pi*(c1 - c0)+(q - c0))->∃t2,EV l.length t2 /\
   aA (iL l.length o) n (t,j,a,k,j,lo,hi,s,i,c0,c1,s2,q - c0,b0,b1,far,c0,c1,c2,c3,c4,c5,c6,c7)=.inl (t2,j,(bif far then 0 else pi*(c1 - c0)+(c1 - c0)),j,lo,hi,s,i+1,b0,b1,far,c0,c1,c2,c3,c4,c5,c6,c7) /\
   ∀C:Nat->Nat->Prop,(∀x y,C x y->G x y ((t.getD x []).getD y dF))->∀x y,(C x y\/∃q',q<=q'/\q' < c1/\x=tN k/\y=tN (o.1.1.getD (tN q') dF))->G x y ((t2.getD x []).getD y dF)
 | 0,n,t,a,q,hq,hcq,hn,ht,ha=>by
  obtain⟨n,rfl⟩:∃x,n=x+1:=⟨n - 1,by omega⟩
  refine⟨t,ht,?_,fun C hC x y hx=>?_⟩
  ·refine aG ?_
   simp only [iL]
   rw [cG (by omega),cond_false,ha,show q - c0=c1 - c0 by omega]
  ·rcases hx with hx | ⟨q',h1,h2,_⟩
   ·exact hC x y hx
   ·omega
 | d+1,n,t,a,q,hq,hcq,hn,ht,ha=>by
  obtain⟨n,rfl⟩:∃x,n=x+1:=⟨n - 1,by omega⟩
  have hqr:=he.ok.ord.atD (by omega) (tN q)
  rw [fW] at hqr
  have ht2:EV l.length (t.set (tN k) ((t.getD (tN k) []).set (tN (o.1.1.getD (tN q) dF)) ((o.2.2.getD (tN j) dF).getD (tN a) dF))):=ht.put (by omega) (he.vo _ _)
  have ha2:(bif !far then W (a+1) else a)=bif far then 0 else pi*(c1 - c0)+(q+1 - c0):=by
   rw [ha]
   cases far with
   | true=>rfl
   | false =>
    simp only [Bool.not_false,aX]
    rw [aH (by omega) (by omega)];omega
  have e1:iL l.length o (t,j,a,k,j,lo,hi,s,i,c0,c1,s2,q - c0,b0,b1,far,c0,c1,c2,c3,c4,c5,c6,c7) =
   .inl (t.set (tN k) ((t.getD (tN k) []).set (tN (o.1.1.getD (tN q) dF)) ((o.2.2.getD (tN j) dF).getD (tN a) dF)),j,(bif !far then W (a+1) else a),k,j,lo,hi,s,i,c0,c1,s2,q+1 - c0,b0,b1,far,c0,c1,c2,c3,c4,c5,c6,c7):=by
   simp only [iL,oF,kM]
   rw [bQ (by omega),cond_true,show tN c0+tN (q - c0)=tN q from by omega,show q - c0+1=q+1 - c0 from by omega]
   cases far<;>rfl
  obtain⟨t2,f1,f2,f3⟩:=aRx (i:=i) he h0 hc hk hs2 hpi hg d n _ _ (q+1) (by omega) (by omega) (by omega) ht2 ha2
  refine⟨t2,f1,by rw [aB e1];exact f2,fun C hC x y hx=>?_⟩
  have hv:=hg q hcq (by omega)
  have hix:ixV far pi (q - c0) (c1 - c0)=tN a:=by rw [ha];rfl
  rw [hix] at hv
  refine f3 (fun x y=>C x y\/(x=tN k/\y=tN (o.1.1.getD (tN q) dF))) (bA1 ht.tl (by omega) (by omega) hv hC) x y ?_
  rcases hx with hx | ⟨q',h1,h2,h3,h4⟩
  ·exact .inl (.inl hx)
  ·by_cases hqq:q'=q
   ·subst hqq;exact .inl (.inr ⟨h3,h4⟩)
   ·exact .inr ⟨q',by omega,h2,h3,h4⟩
theorem aRy (he:EOV l o)(h0:0 < l.length)(hc:0<=c0/\c0<=c1/\c1 - c0<=96)(hlo:0<=lo/\hi - lo<=96)(hs:s=hi - lo)
 (hg:∀p q,lo<=p->p < hi->c0<=q->q < c1->G (tN (o.1.1.getD (tN p) dF)) (tN (o.1.1.getD (tN q) dF)) ((o.2.2.getD (tN j) dF).getD (ixV far (p - lo) (q - c0) (c1 - c0)) dF)) :
 ∀(d n:Nat) (t:List (List lH)) (a p:Int),p+d=hi->lo<=p->d < n->EV l.length t->(a=bif far then 0 else(p - lo)*(c1 - c0))->∃t2,EV l.length t2 /\
   aA (gV l.length o) n (t,j,a,j,lo,hi,s,p - lo,b0,b1,far,c0,c1,c2,c3,c4,c5,c6,c7)=.inl (t2,j+1) /\
   ∀C:Nat->Nat->Prop,(∀x y,C x y->G x y ((t.getD x []).getD y dF))->∀x y,(C x y\/∃p' q',p<=p'/\p' < hi/\c0<=q'/\q' < c1/\x=tN (o.1.1.getD (tN p') dF)/\y=tN (o.1.1.getD (tN q') dF))->G x y ((t2.getD x []).getD y dF)
 | 0,n,t,a,p,hq,hcq,hn,ht,ha=>by
  obtain⟨n,rfl⟩:∃x,n=x+1:=⟨n - 1,by omega⟩
  refine⟨t,ht,?_,fun C hC x y hx=>?_⟩
  ·refine aG ?_
   simp only [gV]
   rw [cG (by omega),cond_false]
  ·rcases hx with hx | ⟨p',q',h1,h2,_⟩
   ·exact hC x y hx
   ·omega
 | d+1,n,t,a,p,hq,hcq,hn,ht,ha=>by
  obtain⟨n,rfl⟩:∃x,n=x+1:=⟨n - 1,by omega⟩
  have hkr:=he.ok.ord.atD (by omega) (tN p)
  rw [fW] at hkr
  have hm1:=Int.mul_le_mul (show p - lo<=96 by omega) (show c1 - c0<=96 by omega) (by omega) (by omega)
  have hm0:=Int.mul_nonneg (show 0<=p - lo by omega) (show 0<=c1 - c0 by omega)
  obtain⟨t2,g1,g2,g3⟩:=aRx (G:=G) (lo:=lo) (hi:=hi) (i:=p - lo) (s:=s) (b0:=b0) (b1:=b1) (c1:=c1) (c2:=c2) (c3:=c3) (c4:=c4) (c5:=c5) (c6:=c6) (c7:=c7) (far:=far) (j:=j) (k:=o.1.1.getD (tN p) dF) (pi:=p - lo) he h0 hc.1 hkr (s2:=((tN c1 - tN c0:Nat):Int)) (by omega) (by omega) (fun q h1 h2=>hg p q hcq (by omega) h1 h2)
   (tN (c1 - c0)) (tN (((tN c1 - tN c0:Nat):Int) - 0)+1) t a c0 (by omega) (Int.le_refl _) (by omega) ht (by rw [ha,Int.sub_self,Int.add_zero])
  rw [Int.sub_self] at g2
  have e1:gV l.length o (t,j,a,j,lo,hi,s,p - lo,b0,b1,far,c0,c1,c2,c3,c4,c5,c6,c7)=.inl (t2,j,(bif far then 0 else(p - lo)*(c1 - c0)+(c1 - c0)),j,lo,hi,s,p+1 - lo,b0,b1,far,c0,c1,c2,c3,c4,c5,c6,c7):=by
   simp only [gV]
   rw [bQ (by omega),cond_true,show tN lo+tN (p - lo)=tN p from by omega,g2,show p - lo+1=p+1 - lo from by omega]
  obtain⟨t3,f1,f2,f3⟩:=aRy he h0 hc hlo hs hg d n t2 (bif far then 0 else(p - lo)*(c1 - c0)+(c1 - c0)) (p+1) (by omega) (by omega) (by omega) g1 (by rw [show p+1 - lo=p - lo+1 by omega,Int.add_mul,Int.one_mul])
  refine⟨t3,f1,by rw [aB e1];exact f2,fun C hC x y hx=>?_⟩
  refine f3 (fun x y=>C x y\/∃q',c0<=q'/\q' < c1/\x=tN (o.1.1.getD (tN p) dF)/\y=tN (o.1.1.getD (tN q') dF)) (fun x y h=>g3 C hC x y h) x y ?_
  rcases hx with hx | ⟨p',q',h1,h2,h3,h4,h5,h6⟩
  ·exact .inl (.inl hx)
  ·by_cases hpp:p'=p
   ·subst hpp;exact .inl (.inr ⟨q',h3,h4,h5,h6⟩)
   ·exact .inr ⟨p',q',by omega,h2,h3,h4,h5,h6⟩
end
def aN4 (t:TR)(b:BK5)(p q:Int):Prop:=(lo1 t b<=p/\p < hi1 t b)/\(yX t b<=q/\q < hi2 t b)
def GdB (G:Nat->Nat->lH->Prop)(o:oW)(j:Nat):Prop:=∀p q,aN4 o.1 (o.2.1.getD j dF) p q->G (tN (o.1.1.getD (tN p) dF)) (tN (o.1.1.getD (tN q) dF))
 ((o.2.2.getD j dF).getD (ixV (o.2.1.getD j dF).2.2 (p - lo1 o.1 (o.2.1.getD j dF)) (q - yX o.1 (o.2.1.getD j dF)) (hi2 o.1 (o.2.1.getD j dF) - yX o.1 (o.2.1.getD j dF))) dF)
theorem aRz {G:Nat->Nat->lH->Prop} {l:cN} {o:oW} (he:EOV l o)(hg:∀j,j < o.2.1.length->GdB G o j):∀(d n:Nat) (t:List (List lH)) (j:Int),j+d=o.2.1.length->0<=j->d < n->EV l.length t->∃t2,EV l.length t2 /\
 aA (fU l.length o) n (t,j)=t2 /\
 ∀C:Nat->Nat->Prop,(∀x y,C x y->G x y ((t.getD x []).getD y dF))->∀x y,(C x y\/∃(k:Nat) (p q:Int),j<=k/\k < o.2.1.length/\aN4 o.1 (o.2.1.getD k dF) p q/\x=tN (o.1.1.getD (tN p) dF)/\y=tN (o.1.1.getD (tN q) dF))->G x y ((t2.getD x []).getD y dF)
 | 0,n,t,j,hj,h0,hn,ht=>by
  obtain⟨n,rfl⟩:∃x,n=x+1:=⟨n - 1,by omega⟩
  refine⟨t,ht,?_,fun C hC x y hx=>?_⟩
  ·refine aG ?_
   simp only [fU]
   rw [cG (by omega),cond_false];rfl
  ·rcases hx with hx | ⟨k,p,q,h1,h2,_⟩
   ·exact hC x y hx
   ·omega
 | d+1,n,t,j,hj,h0,hn,ht=>by
  obtain⟨n,rfl⟩:∃x,n=x+1:=⟨n - 1,by omega⟩
  have hb:=he.ok.blk j h0 (by omega)
  have hl:=he.ok.nz (by omega)
  have hol:=he.ok.ol
  have hgj:=hg (tN j) (by omega)
  unfold GdB aN4 lo1 hi1 yX hi2 at hgj
  obtain⟨b1,b2,b3,b4,_⟩:=hb
  have hib:∀p q,aN4 o.1 (o.2.1.getD (tN j) dF) p q↔((o.1.2.getD (tN (o.2.1.getD (tN j) dF).1) dF).1<=p/\p < (o.1.2.getD (tN (o.2.1.getD (tN j) dF).1) dF).2.1)/\((o.1.2.getD (tN (o.2.1.getD (tN j) dF).2.1) dF).1<=q/\q < (o.1.2.getD (tN (o.2.1.getD (tN j) dF).2.1) dF).2.1):=fun p q=>Iff.rfl
  generalize hN1:o.1.2.getD (tN (o.2.1.getD (tN j) dF).1) dF=N1 at b3 hgj hib
  generalize hN2:o.1.2.getD (tN (o.2.1.getD (tN j) dF).2.1) dF=N2 at b4 hgj hib
  obtain⟨t2,g1,g2,g3⟩:=aRy (G:=G) (b0:=(o.2.1.getD (tN j) dF).1) (b1:=(o.2.1.getD (tN j) dF).2.1) (far:=(o.2.1.getD (tN j) dF).2.2) (c0:=N2.1) (c1:=N2.2.1) (c2:=N2.2.2.1) (c3:=N2.2.2.2.1) (c4:=N2.2.2.2.2.1.1) (c5:=N2.2.2.2.2.1.2.1) (c6:=N2.2.2.2.2.1.2.2) (c7:=N2.2.2.2.2.2)
   he (by omega) ⟨b4.1,b4.2.1,by omega⟩ (lo:=N1.1) ⟨b3.1,by omega⟩ (s:=((tN N1.2.1 - tN N1.1:Nat):Int)) (hi:=N1.2.1) (by omega) (j:=j) (fun p q h1 h2 h3 h4=>hgj p q ⟨⟨h1,h2⟩,⟨h3,h4⟩⟩)
   (tN (N1.2.1 - N1.1)) (tN (((tN N1.2.1 - tN N1.1:Nat):Int) - 0)+1) t 0 N1.1 (by omega) (Int.le_refl _) (by omega) ht (by rw [Int.sub_self,Int.zero_mul];cases (o.2.1.getD (tN j) dF).2.2<;>rfl)
  rw [Int.sub_self] at g2
  have e1:fU l.length o (t,j)=.inl (t2,j+1):=by
   simp only [fU]
   rw [bQ (by omega),cond_true,hN1,hN2]
   exact g2
  obtain⟨t3,f1,f2,f3⟩:=aRz he hg d n t2 (j+1) (by omega) (by omega) (by omega) g1
  refine⟨t3,f1,by rw [aB e1];exact f2,fun C hC x y hx=>?_⟩
  refine f3 _ (g3 C hC) x y ?_
  rcases hx with hx | ⟨k,p,q,h1,h2,h3,h4,h5⟩
  ·exact .inl (.inl hx)
  ·by_cases hkj:(k:Int)=j
   ·have hk2:tN j=k:=by omega
    rw [←hk2,hib] at h3
    exact .inl (.inr ⟨p,q,h3.1.1,h3.1.2,h3.2.1,h3.2.2,h4,h5⟩)
   ·exact .inr ⟨k,p,q,by omega,h2,h3,h4,h5⟩
theorem bA2 {G:Nat->Nat->lH->Prop} {l:cN} {o:oW} (he:EOV l o)(hg:∀j,j < o.2.1.length->GdB G o j) {x y:Nat}
 (hx:∃(k:Nat) (p q:Int),k < o.2.1.length/\aN4 o.1 (o.2.1.getD k dF) p q/\x=tN (o.1.1.getD (tN p) dF)/\y=tN (o.1.1.getD (tN q) dF)):G x y (((F43 l.length o).getD x []).getD y dF):=by
 obtain⟨t2,g1,g2,g3⟩:=aRz he hg o.2.1.length (tN ((o.2.1.length:Int) - 0)+1) _ 0 (by omega) (Int.le_refl _) (by omega) (EV.rep l.length)
 have e1:=aRi l o l.length 0 (tN ((((tN (l.length:Int)):Nat):Int) - 0)+1) (by omega) (by rw [fW];omega)
 have f1:F43 l.length o=t2:=by
  unfold F43
  rw [g2] at e1
  exact e1
 rw [f1]
 obtain⟨k,p,q,h1,h2,h3,h4⟩:=hx
 exact g3 (fun _ _=>False) (fun _ _ h=>h.elim) x y (.inr ⟨k,p,q,by omega,h1,h2,h3,h4⟩)
theorem aR0 {f u x:Int} (h:f<=x/\x < u):x∈rg f u:=by
 unfold rg
 exact List.mem_map.2 ⟨tN (x - f),List.mem_range.2 (by omega),by omega⟩
theorem aT5 {n f u f' u' p q:Int} (h1:f<=p/\p < u)(h2:f'<=q/\q < u'):p*n+q∈cel n f u f' u':=by
 unfold cel row
 exact List.mem_flatMap.2 ⟨p,aR0 h1,List.mem_map.2 ⟨q,aR0 h2,rfl⟩⟩
theorem aT6 {n f u f' u' p q:Int} (h:p*n+q∈cel n f u f' u')(hq:0<=q/\q < n)(h':0<=f'/\u'<=n):(f<=p/\p < u)/\(f'<=q/\q < u'):=by
 unfold cel row at h
 obtain⟨a,ha,h⟩:=List.mem_flatMap.1 h
 obtain⟨b,hb,e⟩:=List.mem_map.1 h
 have ra:=aQv ha
 have rb:=aQv hb
 have hap:a=p:=by
  rcases Int.lt_or_le a p with h1 | h1
  ·have:=Int.mul_le_mul_of_nonneg_right (show 1<=p - a by omega) (show 0<=n by omega)
   rw [Int.sub_mul] at this;omega
  ·rcases Int.lt_or_le p a with h2 | h2
   ·have:=Int.mul_le_mul_of_nonneg_right (show 1<=a - p by omega) (show 0<=n by omega)
    rw [Int.sub_mul] at this;omega
   ·omega
 subst hap
 have:b=q:=by omega
 subst this
 exact⟨ra,rb⟩
theorem aT7 {l:cN} {t:TR} {sep:Int} (h:fA l t=0) {p q:Int} (hp:0<=p/\p < l.length)(hq:0<=q/\q < l.length):∃k:Nat,k < (F85 t sep).length/\aN4 t ((F85 t sep).getD k dF) p q:=by
 obtain⟨c1,c2,_⟩:=qW sep h
 obtain⟨k1,k2,k3,k4⟩:=uM h
 have hm:=c1.mem_iff.2 (aT5 (n:=l.length) hp hq)
 obtain⟨b,hb,hc⟩:=List.mem_flatMap.1 hm
 obtain⟨k,hk,rfl⟩:=List.mem_iff_getElem.1 hb
 have hx:=c2 _ hb
 have n2:=k4.2.2 (tN (F85 t sep)[k].2.1) (by omega)
 rw [k1] at n2
 refine⟨k,hk,?_⟩
 have e:(F85 t sep).getD k dF=(F85 t sep)[k]:=by
  rw [cY,List.getElem?_eq_getElem hk];rfl
 rw [e]
 exact aT6 (n:=l.length) hc hq ⟨n2.1,n2.2.2⟩
theorem aM1 {l:cN} {t:TR} (h:fA l t=0) {k:Nat} (hk:k < l.length):∃p:Int,(0<=p/\p < l.length)/\k=tN (t.1.getD (tN p) dF):=by
 have k1:=(uM h).1
 obtain⟨_,leaf,h1,_,e⟩:=nZ h
 have hm:(k:Int)∈t.1:=by
  rw [e]
  refine(aL6 l h1).mem_iff.2 ?_
  unfold iM
  exact List.mem_map.2 ⟨k,List.mem_range.2 hk,rfl⟩
 obtain⟨j,hj,hv⟩:=List.mem_iff_getElem.1 hm
 refine⟨j,⟨by omega,by omega⟩,?_⟩
 rw [fW,cY,List.getElem?_eq_getElem hj,Option.getD_some,hv];rfl
theorem vD {α σ:Type} {f:σ->α->σ⊕Int} (h:∀v c e,f v c=.inr e->e≠0):∀{l:List α} {v:σ} {e:Int},eY f l v=.inr e->e≠0
 | [],v,e,he=>by simp only [eY] at he;cases he
 | c::l,v,e,he=>by
  simp only [eY] at he
  cases hf:f v c with
  | inl w=>rw [hf] at he;exact vD h he
  | inr r=>rw [hf] at he;cases he;exact h v c _ hf
theorem aT8 {l:cN} {t:TR} {d:Int} {b:BK5} {e:Int} (h:kD l t d b=.inr e):e≠0:=by
 unfold kD at h
 cases hf:b.2.2 with
 | true =>
  rw [hf,cond_true] at h
  cases hz:((fsV (t.2.getD (tN b.1) dF) (t.2.getD (tN b.2.1) dF)).2 != 0) with
  | true=>rw [hz,cond_true] at h;cases h;exact bne_iff_ne.1 hz
  | false=>rw [hz,cond_false] at h;cases h
 | false =>
  rw [hf,cond_false] at h
  refine vD (fun v i e he=>?_) h
  refine vD (fun v k e he=>?_) he
  cases hz:((btw l d i k).2 != 0) with
  | true=>rw [hz,cond_true] at he;cases he;exact bne_iff_ne.1 hz
  | false=>rw [hz,cond_false] at he;cases he
theorem aVj {l:cN} [dR l] {t:TR} {sep d:Int} {o:oW} (h:aL l t sep d=(o,0)):dP l t sep=0/\nY d 0 2=true/\o.1=t/\o.2.1=bL t sep/\aKg l t d o.2.1=.inl o.2.2:=by
 rw [aQz] at h
 unfold aCy at h
 cases h0:((dP l t sep:Int) != 0) with
 | true =>
  rw [h0,cond_true] at h
  have:=congrArg Prod.snd h
  simp only at this
  exact absurd this (bne_iff_ne.1 h0)
 | false =>
  rw [h0,cond_false] at h
  cases h1:nY d 0 2 with
  | false =>
   rw [h1,Bool.not_false,cond_true] at h
   exact absurd (show(1:Int)=0 from congrArg Prod.snd h) (by decide)
  | true =>
   rw [h1,Bool.not_true,cond_false] at h
   cases ha:aKg l t d (bL t sep) with
   | inl out =>
    rw [ha] at h
    have:=congrArg Prod.fst h
    simp only at this
    rw [←this]
    exact⟨bne_eq_false_iff_eq.1 h0,rfl,rfl,rfl,ha⟩
   | inr e =>
    rw [ha] at h
    have:=congrArg Prod.snd h
    simp only at this
    refine absurd this (vD (fun v b e he=>?_) ha)
    cases hc:kD l t d b with
    | inl r=>rw [hc] at he;cases he
    | inr e2=>rw [hc] at he;cases he;exact aT8 hc
theorem aVk {p q:PN} {d:Int} (h:(oX p q d).2=0):vp p=0/\vp q=0/\(0<=d/\d<=2)/\oX p q d=(aE2 p (tmP (sc d) q) d,0):=by
 unfold oX at h ⊢
 rw [aEw] at h ⊢
 by_cases h0:pk p q d=0
 ·obtain⟨h1,h2,h3⟩:=aPl h0
  have hs:=aUj d
  have hq:=(lV h2).1
  have hq':=hq.mono (show(64:Int)<=4096 by omega)
  have hd:0<=d/\d<=3:=by omega
  refine⟨h1,h2,h3,?_⟩
  rw [h0,show(((0:Int):Int) != 0)=false from rfl,cond_false,aWj hd,aNm hs hq'.1,aNm hs hq'.2.1,aNm hs hq'.2.2]
  have e1:=aUp h1 (aJl hs hq) hd
  unfold tmP at e1 ⊢
  rw [e1]
 ·rw [bne_iff_ne.2 h0,cond_true] at h
  exact absurd h h0
def GdM (l:cN)(x y:Nat)(s:lH):Prop:=MT s (lsm (l.getD x dF).1 (l.getD y dF).1.1)
theorem aR1 {p q:PN} {d:Int} (h:(oX p q d).2=0):MT (oX p q d).1 (lsm p q.1):=by
 obtain⟨h1,h2,h3,e⟩:=aVk h
 rw [e]
 exact aX2 h1 (by omega)
theorem aR2 {l:cN} [dR l] {t:TR} {sep d:Int} {o:oW} (h:aL l t sep d=(o,0)):∀j,j < o.2.1.length->GdB (GdM l) o j:=by
 obtain⟨hc,_,e1,e2,ha⟩:=aVj h
 have hck:=uP hc
 obtain⟨hv,leaf,hl,_,et⟩:=nZ hck
 obtain⟨k1,k2,k3,k4⟩:=uM hck
 have ho:=(uQ hc).2.2.2.1
 obtain⟨_,_,hal⟩:=aVi ha
 subst e1
 intro j hj p q hpq
 have hbf:=aKe hc (j:=(j:Int)) (by omega) (by rw [←e2];omega)
 rw [fW,←e2] at hbf
 have hcl:=hal j hj
 rw [List.length_nil,Nat.zero_add] at hcl
 generalize o.2.1.getD j dF=b at *
 obtain⟨x1,x2,x3,x4⟩:=hbf
 have hpr:=ho.at (i:=tN p) (by have:=hpq.1;unfold lo1 hi1 at this;omega)
 have hqr:=ho.at (i:=tN q) (by have:=hpq.2;unfold yX hi2 at this;omega)
 have v1:=(hv.2 (tN (o.1.1.getD (tN p) dF)) (by omega)).1
 rcases aX8 hcl ⟨x3.1,x3.2.2⟩ ⟨x4.1,x4.2.2⟩ hpq.1 hpq.2 with⟨_,g1,g2⟩ | ⟨_,g1,g2⟩
 ·have m1:o.1.2.getD (tN b.1) dF∈(BT l leaf).2:=by rw [←et];rw [cY,List.getElem?_eq_getElem (show tN b.1 < o.1.2.length by omega)];exact List.getElem_mem _
  have m2:o.1.2.getD (tN b.2.1) dF∈(BT l leaf).2:=by rw [←et];rw [cY,List.getElem?_eq_getElem (show tN b.2.1 < o.1.2.length by omega)];exact List.getElem_mem _
  have n1:=(aM0 hv hl m1).2 p hpq.1.1 hpq.1.2
  have n2:=(aM0 hv hl m2).2 q hpq.2.1 hpq.2.2
  rw [←et,Int.sub_zero] at n1 n2
  unfold GdM
  rw [g2]
  exact aX6 g1 v1 n1 n2.1
 ·unfold GdM
  rw [g2]
  unfold btw at g1 ⊢
  rw [←aBf] at g1 ⊢
  exact aR1 g1
theorem aT9 {l:cN} [dR l] {t:TR} {sep d:Int} {o:oW} (h:aL l t sep d=(o,0)) {l':cN} (hl:l'.length=l.length)(he:EOV l' o) {x y:Nat} (hx:x < l.length)(hy:y < l.length):GdM l x y (((F43 l'.length o).getD x []).getD y dF):=by
 obtain⟨hc,_,e1,e2,ha⟩:=aVj h
 have hck:=uP hc
 refine bA2 he (aR2 h) ?_
 obtain⟨p,hp,ep⟩:=aM1 hck hx
 obtain⟨q,hq,eq⟩:=aM1 hck hy
 obtain⟨k,hk,hb⟩:=aT7 (sep:=sep) hck hp hq
 rw [←qT sep hck,←e2] at hk hb
 exact⟨k,p,q,hk,by rw [e1];exact hb,by rw [e1];exact ep,by rw [e1];exact eq⟩
end Go.Proofs.YtlckcjfbjnjfhaaGreat
namespace Go.Proofs.YtlckcjfbjnjfhaaGreat
open Go.Proofs Go.Aw Go.RowKit
set_option maxRecDepth 100000
def aCz (l:cN)(M:Nat->Int):Nat->Int
 | 0=>0
 | i+1=>aCz l M i+(l.getD i dF).2*M i
theorem aF5 {x n:Int} (h:-1099511627776<=oZ x n/\oZ x n<=1099511627776):oZ x n=x*n:=by
 unfold oZ at *
 split at h
 ·omega
 ·rename_i h1
  rw [if_neg h1]
  split at h
  ·omega
  ·rename_i h2
   rw [if_neg h2]
theorem aX9 {a:Int×Int} {n m:Int} (hv:vs ((scl a n).1,(scl a n).2))(h:MT a m):MT ((scl a n).1,(scl a n).2) (n*m):=by
 unfold vs at hv
 unfold scl MT at *
 by_cases hn:n < 0
 ·simp only [if_pos hn] at hv ⊢
  rw [aF5 (x:=a.2) (by omega),aF5 (x:=a.1) (by omega)]
  have h1:=Int.mul_le_mul_of_nonneg_left h.1 (show 0<=-n by omega)
  have h2:=Int.mul_le_mul_of_nonneg_left h.2 (show 0<=-n by omega)
  have e1:-n*(64*a.1)=-(64*(a.1*n)):=by grind
  have e2:-n*(64*a.2)=-(64*(a.2*n)):=by grind
  have e3:-n*m=-(n*m):=by grind
  omega
 ·simp only [if_neg hn] at hv ⊢
  rw [aF5 (x:=a.2) (by omega),aF5 (x:=a.1) (by omega)]
  have h1:=Int.mul_le_mul_of_nonneg_left h.1 (show 0<=n by omega)
  have h2:=Int.mul_le_mul_of_nonneg_left h.2 (show 0<=n by omega)
  have e1:n*(64*a.1)=64*(a.1*n):=by grind
  have e2:n*(64*a.2)=64*(a.2*n):=by grind
  omega
theorem bA3 {lo hi:Int} (h:(iV lo hi).2=0):iV lo hi=((lo,hi),0)/\vs (lo,hi):=by
 rcases aDi lo hi with⟨e,hv⟩ | e
 ·exact⟨e,hv⟩
 ·rw [e] at h;exact absurd h (by decide)
theorem aYa {a:Int×Int} {n m:Int} (ha:vs a)(hn:-100<=n/\n<=100)(h0:(yC a n).2=0)(h:MT a m):vs (yC a n).1/\MT (yC a n).1 (n*m):=by
 rw [aSt ha (by omega)] at h0 ⊢
 obtain⟨e,hv⟩:=bA3 h0
 rw [e]
 exact⟨hv,aX9 hv h⟩
section
variable {l : cN} {m : List (List (Int × Int))} {M : Nat → Nat → Int}
theorem aYb (hm:EV l.length m)(hl:l.length<=96)(hq:∀i,i < l.length->-100<=(l.getD i dF).2/\(l.getD i dF).2<=100) {j:Nat} (hM:∀i,i < l.length->MT ((m.getD i []).getD j dF) (M i j))(v:List (Int×Int))(n:Nat)(hn:l.length < n) :
 (∃s:Int×Int,aA (cF l m) n (v,[],(j:Int),(j:Int),0)=.inl (v++[s],((j+1:Nat):Int))/\vs s/\MT s (aCz l (fun i=>M i j) l.length))\/∃e:Int,e≠0/\aA (cF l m) n (v,[],(j:Int),(j:Int),0)=.inr ([],e):=by
 refine jA (S:=cF l m) (fun x=>l.length - tN x.2.2.2.2) (fun x=>x.1=v/\x.2.2.1=(j:Int)/\x.2.2.2.1=(j:Int)/\0<=x.2.2.2.2/\x.2.2.2.2<=(l.length:Int)/\x.2.1.length=tN x.2.2.2.2/\(∀a∈x.2.1,vs a)/\MT (mF x.2.1 (0,0)) (aCz l (fun i=>M i j) (tN x.2.2.2.2)))
  (fun r=>(∃s:Int×Int,r=.inl (v++[s],((j+1:Nat):Int))/\vs s/\MT s (aCz l (fun i=>M i j) l.length))\/∃e:Int,e≠0/\r=.inr ([],e)) ?_ n (v,[],(j:Int),(j:Int),0) ⟨rfl,rfl,rfl,Int.le_refl _,by simp only;omega,rfl,fun a ha=>(by cases ha),by simp [mF,aCz,MT]⟩ (by simp only;omega)
 rintro ⟨x1,x2,x3,x4,x5⟩ ⟨h1,h2,h3,h5,h6,h7,h8,h9⟩
 simp only at h1 h2 h3 h5 h6 h7 h8 h9
 subst h1 h2 h3
 simp only [cF]
 by_cases hb:x5 < (l.length:Int)
 ·rw [bQ hb,cond_true,fW]
  have hc:=hq (tN x5) (by omega)
  have hv:=hm.val (tN x5) j
  have hg:=hM (tN x5) (by omega)
  change vs ((m.getD (tN x5) dF).getD j dF) at hv
  change MT ((m.getD (tN x5) dF).getD j dF) _ at hg
  cases hz:((yC ((m.getD (tN x5) dF).getD j dF) (l.getD (tN x5) dF).2).2 != 0) with
  | true=>exact .inr ⟨_,rfl,.inr ⟨_,bne_iff_ne.1 hz,rfl⟩⟩
  | false =>
   obtain⟨s1,s2⟩:=aYa hv hc (bne_eq_false_iff_eq.1 hz) hg
   refine .inl ⟨_,rfl,⟨rfl,rfl,rfl,by simp only;omega,by simp only;omega,by simp only [List.length_append,List.length_singleton];omega,fun a ha=>?_,?_⟩,by simp only;omega⟩
   ·rcases List.mem_append.1 ha with ha | ha
    ·exact h8 a ha
    ·rw [List.mem_singleton.1 ha];exact s1
   ·simp only
    rw [aP0,show tN (x5+1)=tN x5+1 by omega]
    simp only [aCz,mF,Int.zero_add]
    unfold MT at *
    simp only
    omega
 ·have hx:tN x5=l.length:=by omega
  rw [cG hb,cond_false,aZy h8 (by omega)]
  rw [hx] at h9
  cases hz:((aPz x2).2 != 0) with
  | true=>exact .inr ⟨_,rfl,.inr ⟨_,bne_iff_ne.1 hz,rfl⟩⟩
  | false =>
   obtain⟨e,hv⟩:=aWw (bne_eq_false_iff_eq.1 hz)
   exact .inr ⟨_,rfl,.inl ⟨_,rfl,by rw [e];exact hv,by rw [e];exact h9⟩⟩
theorem aVl (hm:EV l.length m)(hl:l.length<=96)(hq:∀i,i < l.length->-100<=(l.getD i dF).2/\(l.getD i dF).2<=100)(hM:∀i j,i < l.length->j < l.length->MT ((m.getD i []).getD j dF) (M i j))(h:(fE l m).2=0) :
 (fE l m).1.length=l.length/\∀j,j < l.length->vs ((fE l m).1.getD j dF)/\MT ((fE l m).1.getD j dF) (aCz l (fun i=>M i j) l.length):=by
 have key:∀(d n j:Nat) (v:List (Int×Int)),j+d=l.length->d < n->v.length=j->(∀i,i < j->vs (v.getD i dF)/\MT (v.getD i dF) (aCz l (fun k=>M k i) l.length)) ->
  (aA (bP l m) n (v,(j:Int))).2=0->(aA (bP l m) n (v,(j:Int))).1.length=l.length/\∀i,i < l.length->vs ((aA (bP l m) n (v,(j:Int))).1.getD i dF)/\MT ((aA (bP l m) n (v,(j:Int))).1.getD i dF) (aCz l (fun k=>M k i) l.length):=by
  intro d
  induction d with
  | zero =>
   intro n j v hj hn hv hI h
   obtain⟨n,rfl⟩:∃x,n=x+1:=⟨n - 1,by omega⟩
   have e:bP l m (v,(j:Int))=.inr (v,0):=by
    simp only [bP]
    rw [cG (by omega),cond_false]
   rw [aG e]
   exact⟨by simp only;omega,fun i hi=>hI i (by omega)⟩
  | succ d ih =>
   intro n j v hj hn hv hI h
   obtain⟨n,rfl⟩:∃x,n=x+1:=⟨n - 1,by omega⟩
   have e:bP l m (v,(j:Int))=aA (cF l m) (tN ((l.length:Int) - 0)+1) (v,([]:List (Int×Int)),(j:Int),(j:Int),0):=by
    simp only [bP]
    rw [bQ (by omega),cond_true]
   rcases aYb hm hl hq (j:=j) (fun i hi=>hM i j hi (by omega)) v (tN ((l.length:Int) - 0)+1) (by omega) with⟨s,e2,s1,s2⟩ | ⟨er,e0,e2⟩
   ·rw [e2] at e
    rw [aB e] at h ⊢
    refine ih n (j+1) _ (by omega) (by omega) (by rw [List.length_append,List.length_singleton];omega) (fun i hi=>?_) h
    by_cases hij:i < j
    ·rw [rC (by omega)];exact hI i hij
    ·have:i=v.length:=by omega
     subst this
     rw [rE (Nat.le_refl _),Nat.sub_self,hv]
     exact⟨s1,s2⟩
   ·rw [e2] at e
    rw [aG e] at h
    exact absurd h e0
 exact key l.length _ 0 [] (by omega) (by omega) rfl (fun i hi=>absurd hi (fJ _)) h
end
end Go.Proofs.YtlckcjfbjnjfhaaGreat
namespace Go.Proofs.YtlckcjfbjnjfhaaGreat
open Go.Proofs Go.Aw Go.RowKit
set_option maxRecDepth 100000
noncomputable def aF6:Code:=(aP [1,1,1,1,0,1,0,1,1,0,1,1,0,1] [0] (aN Tryz.f44) []).1
noncomputable def aF7 (m0:Nat):List K:=(aP [1,1,1,1,0,1,0,1,1,0,1,1,0,1] [m0] (aN Tryz.f44) []).2
def aCf (a0:bK)(a1:Int)(v10c:List SV)(v10n:Nat)(v11c:List SV)(v11n:Nat)(v12 v13 v14 v15 v16 v17 v18 v19 v20 v21 v22 v23:Int):LS:=⟨kG 58 [(0,(.s 0 0 a0.length 10)),(1,(iv a1)),(7,(.s 1 0 v10n 1)),(9,(.p 2 0)),(10,(.s 3 0 v11n 2)),(23,(.s 0 0 a0.length 10)),(24,(iv (a0.length:Int))),(25,(iv v12)),(29,(.s 0 0 a0.length 10)),(30,(iv (a0.length:Int))),(31,(iv v13))],[(.live false true (flat gB a0)),(.live true true v10c),(.live true false [(iv v14),(iv v15),(iv v16),(iv v17),(iv v18),(iv v19),(iv v20),(iv v21),(iv v22),(iv v23)]),(.live true true v11c)]⟩
def eU (a0:bK)(a1:Int):(List (List (Int×Int)))×(List (Int×Int))×Int×Int×Int×Int×Int×Int×Int×Int×Int×Zt->((List (List (Int×Int)))×(List (Int×Int))×Int×Int×Int×Int×Int×Int×Int×Int×Int×Zt)⊕(((List (List (Int×Int)))×Int)⊕((List (List (Int×Int)))×Int))
 | (v10,v11,v12,v13,v14,v15,v16,v17,v18,v19,v20,v21,v22,v23) =>
  (bif (decide ((v13:Int) < (a0.length:Int))) then
   (bif (((oX ((v14,v15,v16),(v17,v18,v19),(v20,v21,v22)) (a0.getD (tN v13) dF).1 a1).2:Int) != 0) then
    (.inr (.inr (([]:List (List (Int×Int))),(oX ((v14,v15,v16),(v17,v18,v19),(v20,v21,v22)) (a0.getD (tN v13) dF).1 a1).2)))
   else
    (.inl (v10,(v11++[(oX ((v14,v15,v16),(v17,v18,v19),(v20,v21,v22)) (a0.getD (tN v13) dF).1 a1).1]),v12,(v13+1),v14,v15,v16,v17,v18,v19,v20,v21,v22,v23)))
  else
   (.inr (.inl ((v10++[v11]),(v12+1)))))
noncomputable def zN:Code:=(aP [1,1,1,1,0,1] [] (aN Tryz.f44) []).1
noncomputable def zO:List K:=(aP [1,1,1,1,0,1] [] (aN Tryz.f44) []).2
def vE (a0:bK)(a1:Int)(v8c:List SV)(v8n:Nat)(v9:Int):LS:=⟨kG 58 [(0,(.s 0 0 a0.length 10)),(1,(iv a1)),(7,(.s 1 0 v8n 1)),(23,(.s 0 0 a0.length 10)),(24,(iv (a0.length:Int))),(25,(iv v9))],[(.live false true (flat gB a0)),(.live true true v8c)]⟩
def dG (a0:bK)(a1:Int):(List (List (Int×Int)))×Int->((List (List (Int×Int)))×Int)⊕((List (List (Int×Int)))×Int)
 | (v8,v9) =>
  (bif (decide ((v9:Int) < (a0.length:Int))) then
   (aA (eU a0 a1) (tN ((a0.length:Int) - 0)+1) (v8,([]:List (Int×Int)),v9,0,(a0.getD (tN v9) dF).1.1.1,(a0.getD (tN v9) dF).1.1.2.1,(a0.getD (tN v9) dF).1.1.2.2,(a0.getD (tN v9) dF).1.2.1.1,(a0.getD (tN v9) dF).1.2.1.2.1,(a0.getD (tN v9) dF).1.2.1.2.2,(a0.getD (tN v9) dF).1.2.2.1,(a0.getD (tN v9) dF).1.2.2.2.1,(a0.getD (tN v9) dF).1.2.2.2.2,(a0.getD (tN v9) dF).2))
  else
   (.inr (v8,0)))
theorem aUa (a0:bK)(a1:Int)(l0:a0.length<=2^63-1) {cx:Cx} (hcx:cx.base=1)
 (n0:Nat) (g0:∀(v8:List (List (Int×Int))) (v9:Int),(0<=v9)/\(v8.length=tN v9)/\(v9<=a0.length)/\(a0.length<=96)->tN ((a0.length:Int) - v9) < n0->Aw.Good Tryz.prog none 9 (bodyPost Tryz.prog Tryz.f44 (RR cx (.t [(.s 1 0 (aA (dG a0 a1) n0 (v8,v9)).1.length 1),(iv (aA (dG a0 a1) n0 (v8,v9)).2)]) [(.live true true (flat fX (aA (dG a0 a1) n0 (v8,v9)).1))] [])) cx [] (.l zN n0::zO) (vE a0 a1 (flat fX v8) v8.length v9)):∀(n:Nat) (v10:List (List (Int×Int))) (v11:List (Int×Int)) (v12 v13 v14 v15 v16 v17 v18 v19 v20 v21 v22 v23:Int),(0<=v13)/\(v11.length=tN v13)/\(v13<=a0.length)/\(v10.length=tN v12)/\(0<=v12)/\(v12 < a0.length)/\(a0.length<=96)/\((0<=v12))/\((v10.length=tN v12))/\((v12<=a0.length))/\((a0.length<=96))/\(v12 < (a0.length:Int))/\(tN ((a0.length:Int) - v12) < n0+1)->tN ((a0.length:Int) - v13) < n->Aw.Good Tryz.prog none 9 (bodyPost Tryz.prog Tryz.f44 (RR cx (.t [(.s 1 0 (bD (dG a0 a1) n0 (aA (eU a0 a1) n (v10,v11,v12,v13,v14,v15,v16,v17,v18,v19,v20,v21,v22,v23))).1.length 1),(iv (bD (dG a0 a1) n0 (aA (eU a0 a1) n (v10,v11,v12,v13,v14,v15,v16,v17,v18,v19,v20,v21,v22,v23))).2)]) [(.live true true (flat fX (bD (dG a0 a1) n0 (aA (eU a0 a1) n (v10,v11,v12,v13,v14,v15,v16,v17,v18,v19,v20,v21,v22,v23))).1))] [])) cx [] (.l aF6 n::aF7 n0) (aCf a0 a1 (flat fX v10) v10.length (flat eL v11) v11.length v12 v13 v14 v15 v16 v17 v18 v19 v20 v21 v22 v23):=by
 intro n
 induction n with
 | zero=>intro v10 v11 v12 v13 v14 v15 v16 v17 v18 v19 v20 v21 v22 v23 hi hn;exact absurd hn (fJ _)
 | succ n ih =>
  intro v10 v11 v12 v13 v14 v15 v16 v17 v18 v19 v20 v21 v22 v23 hi hn
  refine aU ?_
  cases h0:(decide ((v13:Int) < (a0.length:Int))) with
  | true =>
   have q0:=dB h0
   let t1:List (St Tryz.prog):=[.d h0,.i v13 (a0.length),.L fS a0 v13 0 10,.c [] (C40 ((v14,v15,v16),(v17,v18,v19),(v20,v21,v22)) (a0.getD (tN v13) dF).1 a1)]
   cases h1:(((oX ((v14,v15,v16),(v17,v18,v19),(v20,v21,v22)) (a0.getD (tN v13) dF).1 a1).2:Int) != 0) with
   | true =>
    have q1:=bne_iff_ne.1 h1
    have e:=Eq.refl (eU a0 a1 (v10,v11,v12,v13,v14,v15,v16,v17,v18,v19,v20,v21,v22,v23));conv at e=>rhs;simp only [eU,h0,h1,aX]
    rw [aQ,e]
    exact rt (t1++[.d h1]) [.slot 4 1] [6] hcx (by kernel_rfl)
   | false =>
    have q1:=bne_eq_false_iff_eq.1 h1
    have e:=Eq.refl (eU a0 a1 (v10,v11,v12,v13,v14,v15,v16,v17,v18,v19,v20,v21,v22,v23));conv at e=>rhs;simp only [eU,h0,h1,aX]
    rw [aB e]
    refine ba (t1++[.d h1,.p (show((flat eL v11).length=v11.length*2/\v11.length+1<=2 ^ 40/\(v11.length+1)*16<=2 ^ 47) from jW dU (by omega) (by omega))]) [] [0,1,7,9,10,23,24,25,29,30,31] [1,2,7] hcx (m:=n) aF6 (aF7 n0) (aCf a0 a1 (flat fX v10) (v10.length) (flat eL v11++(k2 (oX ((v14,v15,v16),(v17,v18,v19),(v20,v21,v22)) (a0.getD (tN v13) dF).1 a1).1)) (v11.length+1) v12 (W (v13+1)) v14 v15 v16 v17 v18 v19 v20 v21 v22 v23) (by kernel_rfl) ?_
    have z0:(W (v13+1))=(v13+1):=aH (by omega) (by omega)
    have z1:(flat eL v11++(k2 (oX ((v14,v15,v16),(v17,v18,v19),(v20,v21,v22)) (a0.getD (tN v13) dF).1 a1).1))=(flat eL (v11++[(oX ((v14,v15,v16),(v17,v18,v19),(v20,v21,v22)) (a0.getD (tN v13) dF).1 a1).1])):=(cJ (c:=eL) (l:=v11) (m:=[(oX ((v14,v15,v16),(v17,v18,v19),(v20,v21,v22)) (a0.getD (tN v13) dF).1 a1).1])).symm
    have z2:(v11.length+1)=(v11++[(oX ((v14,v15,v16),(v17,v18,v19),(v20,v21,v22)) (a0.getD (tN v13) dF).1 a1).1]).length:=jD v11 [(oX ((v14,v15,v16),(v17,v18,v19),(v20,v21,v22)) (a0.getD (tN v13) dF).1 a1).1] rfl
    rw [z0,z1,z2]
    exact ih v10 (v11++[(oX ((v14,v15,v16),(v17,v18,v19),(v20,v21,v22)) (a0.getD (tN v13) dF).1 a1).1]) v12 (v13+1) v14 v15 v16 v17 v18 v19 v20 v21 v22 v23 (by refine⟨?_,?_,?_,?_,?_,?_,?_,?_,?_,?_,?_,?_,?_⟩<;>(try simp only [Ls])<;>first | omega | assumption | exact hi.2.1 | exact hi.2.2.1 | exact hi.2.2.2.1 | exact hi.2.2.2.2.1 | exact hi.2.2.2.2.2.1 | exact hi.2.2.2.2.2.2.1 | exact hi.2.2.2.2.2.2.2.1 | exact hi.2.2.2.2.2.2.2.2.1 | exact hi.2.2.2.2.2.2.2.2.2.1 | exact hi.2.2.2.2.2.2.2.2.2.2.1 | exact hi.2.2.2.2.2.2.2.2.2.2.2.1 | exact hi.2.2.2.2.2.2.2.2.2.2.2.2.1 | simp) (by(try simp only [Ls]);omega)
  | false =>
   have q0:=eC h0
   have e:=Eq.refl (eU a0 a1 (v10,v11,v12,v13,v14,v15,v16,v17,v18,v19,v20,v21,v22,v23));conv at e=>rhs;simp only [eU,h0,aX]
   rw [aQ,e]
   refine ba [.d h0,.p (show((flat eL v11)).length=v11.length*2 from by first | (simp [eV dU];done) | rfl),.p (show((flat fX v10).length=v10.length*1/\v10.length+1<=2 ^ 40/\(v10.length+1)*24<=2 ^ 47) from jW oE (by omega) (by omega))] [] [0,1,7,23,24,25] [5] hcx (m:=n0) zN (zO) (vE a0 a1 (flat fX v10++[(.d (flat eL v11) v11.length 2)]) (v10.length+1) (W (v12+1))) (by kernel_rfl) ?_
   have z0:(W (v12+1))=(v12+1):=aH (by omega) (by omega)
   have z1:(flat fX v10++[(.d (flat eL v11) v11.length 2)])=(flat fX (v10++[v11])):=(cJ (c:=fX) (l:=v10) (m:=[v11])).symm
   have z2:(v10.length+1)=(v10++[v11]).length:=jD v10 [v11] rfl
   rw [z0,z1,z2]
   exact g0 (v10++[v11]) (v12+1) (by refine⟨?_,?_,?_,?_⟩<;>(try simp only [Ls])<;>first | omega | assumption | simp) (by(try simp only [Ls]);omega)
theorem aUb (a0:bK)(a1:Int)(l0:a0.length<=2^63-1) {cx:Cx} (hcx:cx.base=1):∀(n:Nat) (v8:List (List (Int×Int))) (v9:Int),(0<=v9)/\(v8.length=tN v9)/\(v9<=a0.length)/\(a0.length<=96)->tN ((a0.length:Int) - v9) < n->Aw.Good Tryz.prog none 9 (bodyPost Tryz.prog Tryz.f44 (RR cx (.t [(.s 1 0 (aA (dG a0 a1) n (v8,v9)).1.length 1),(iv (aA (dG a0 a1) n (v8,v9)).2)]) [(.live true true (flat fX (aA (dG a0 a1) n (v8,v9)).1))] [])) cx [] (.l zN n::zO) (vE a0 a1 (flat fX v8) v8.length v9):=by
 intro n
 induction n with
 | zero=>intro v8 v9 hi hn;exact absurd hn (fJ _)
 | succ n ih =>
  intro v8 v9 hi hn
  refine aU ?_
  cases h0:(decide ((v9:Int) < (a0.length:Int))) with
  | true =>
   have q0:=dB h0
   have e:=Eq.refl (dG a0 a1 (v8,v9));conv at e=>rhs;simp only [dG,h0,aX]
   rw [aQ,e]
   refine en [.d h0,.i v9 (a0.length),.L fS a0 v9 0 10] [.slot 10 2] [0,1,7,9,10,23,24,25,29,30,31] [1,2,3] hcx aF6 (aF7 n) (aCf a0 a1 (flat fX v8) (v8.length) (flat eL ([]:List (Int×Int))) 0 v9 0 ((a0.getD (tN v9) dF).1.1.1) ((a0.getD (tN v9) dF).1.1.2.1) ((a0.getD (tN v9) dF).1.1.2.2) ((a0.getD (tN v9) dF).1.2.1.1) ((a0.getD (tN v9) dF).1.2.1.2.1) ((a0.getD (tN v9) dF).1.2.1.2.2) ((a0.getD (tN v9) dF).1.2.2.1) ((a0.getD (tN v9) dF).1.2.2.2.1) ((a0.getD (tN v9) dF).1.2.2.2.2) ((a0.getD (tN v9) dF).2)) (tN ((a0.length:Int) - 0)+1) (by kernel_rfl) ?_
   exact aUa a0 a1 l0 hcx n ih (tN ((a0.length:Int) - 0)+1) v8 ([]:List (Int×Int)) v9 0 ((a0.getD (tN v9) dF).1.1.1) ((a0.getD (tN v9) dF).1.1.2.1) ((a0.getD (tN v9) dF).1.1.2.2) ((a0.getD (tN v9) dF).1.2.1.1) ((a0.getD (tN v9) dF).1.2.1.2.1) ((a0.getD (tN v9) dF).1.2.1.2.2) ((a0.getD (tN v9) dF).1.2.2.1) ((a0.getD (tN v9) dF).1.2.2.2.1) ((a0.getD (tN v9) dF).1.2.2.2.2) ((a0.getD (tN v9) dF).2) (by refine⟨?_,?_,?_,?_,?_,?_,?_,?_,?_,?_,?_,?_,?_⟩<;>(try simp only [Ls])<;>first | omega | assumption | exact hi.2.1 | exact hi.2.2.1 | exact hi.2.2.2.1 | exact hi.2.2.2.2.1 | exact hi.2.2.2.2.2.1 | exact hi.2.2.2.2.2.2.1 | exact hi.2.2.2.2.2.2.2.1 | exact hi.2.2.2.2.2.2.2.2.1 | exact hi.2.2.2.2.2.2.2.2.2.1 | exact hi.2.2.2.2.2.2.2.2.2.2.1 | exact hi.2.2.2.2.2.2.2.2.2.2.2.1 | exact hi.2.2.2.2.2.2.2.2.2.2.2.2.1 | simp) (by(try simp only [Ls]);omega)
  | false =>
   have q0:=eC h0
   have e:=Eq.refl (dG a0 a1 (v8,v9));conv at e=>rhs;simp only [dG,h0,aX]
   rw [aQ,e]
   exact rt [.d h0] [] [1] hcx (by kernel_rfl)
def eK (a0:bK)(a1:Int):(List (List (Int×Int)))×Int :=
 (bif (((eI a0):Int) != 0) then
  (([]:List (List (Int×Int))),(eI a0))
 else
  (bif (!(nY a1 0 2)) then
   (([]:List (List (Int×Int))),1)
  else
   (aA (dG a0 a1) (tN ((a0.length:Int) - 0)+1) (([]:List (List (Int×Int))),0))))
theorem bA4 (a0:bK)(a1:Int)(l0:a0.length<=2^63-1):Con Tryz.prog 44 [(.s 0 0 a0.length 10),(iv a1)] [(.live false true (flat gB a0))] (.t [(.s 1 0 (eK a0 a1).1.length 1),(iv (eK a0 a1).2)]) [(.live true true (flat fX (eK a0 a1).1))]:=by
 refine aT Tryz.func44 (by kernel_rfl) fun cx hcx=>?_
 try have hvl:=jE (l:=a0) (bne_eq_false_iff_eq.1 h0)
 let t0:List (St Tryz.prog):=[.c [0] (aLj a0 (by omega))]
 cases h0:(((eI a0):Int) != 0) with
 | true =>
  have q0:=bne_iff_ne.1 h0
  try have hvl:=jE (l:=a0) (bne_eq_false_iff_eq.1 h0)
  have e:=Eq.refl (eK a0 a1);conv at e=>rhs;simp only [eK,h0,aX]
  rw [e]
  exact rt (t0++[.d h0]) [.slot 4 1] [1] hcx (by kernel_rfl)
 | false =>
  have q0:=bne_eq_false_iff_eq.1 h0
  try have hvl:=jE (l:=a0) (bne_eq_false_iff_eq.1 h0)
  let t1:List (St Tryz.prog):=(t0++[.d h0,.c [] (C34 a1 0 2)])
  cases h1:(!(nY a1 0 2)) with
  | true =>
   try have hvl:=jE (l:=a0) (bne_eq_false_iff_eq.1 h0)
   have e:=Eq.refl (eK a0 a1);conv at e=>rhs;simp only [eK,h0,h1,aX]
   rw [e]
   exact rt (t1++[.d h1]) [.slot 4 1] [1] hcx (by kernel_rfl)
  | false =>
   try have hvl:=jE (l:=a0) (bne_eq_false_iff_eq.1 h0)
   have e:=Eq.refl (eK a0 a1);conv at e=>rhs;simp only [eK,h0,h1,aX]
   rw [e]
   refine en (t1++[.d h1]) [.slot 7 1] [0,1,7,23,24,25] [1] hcx zN (zO) (vE a0 a1 (flat fX ([]:List (List (Int×Int)))) 0 0) (tN ((a0.length:Int) - 0)+1) (by kernel_rfl) ?_
   exact aUb a0 a1 l0 hcx (tN ((a0.length:Int) - 0)+1) ([]:List (List (Int×Int))) 0 (by refine⟨?_,?_,?_,?_⟩<;>(try simp only [Ls])<;>first | omega | assumption | simp) (by(try simp only [Ls]);omega)
def BW (l:cN)(d:Int)(i j:Nat):lH×Int:=oX (l.getD i dF).1 (l.getD j dF).1 d
theorem aVm {l:cN} {d:Int} (out:List (List lH)) {i:Nat} (hi:i < l.length):∀(k n j:Nat) (r:List lH),j+k=l.length->k < n->r.length=j->(∀c,c < j->(BW l d i c).2=0/\r.getD c dF=(BW l d i c).1) ->
 (∃r':List lH,r'.length=l.length/\(∀c,c < l.length->(BW l d i c).2=0/\r'.getD c dF=(BW l d i c).1)/\aA (eU l d) n (out,r,(i:Int),(j:Int),(l.getD i dF).1.1.1,(l.getD i dF).1.1.2.1,(l.getD i dF).1.1.2.2,(l.getD i dF).1.2.1.1,(l.getD i dF).1.2.1.2.1,(l.getD i dF).1.2.1.2.2,(l.getD i dF).1.2.2.1,(l.getD i dF).1.2.2.2.1,(l.getD i dF).1.2.2.2.2,(l.getD i dF).2)=.inl (out++[r'],((i+1:Nat):Int))) \/
 ∃e:Int,e≠0/\aA (eU l d) n (out,r,(i:Int),(j:Int),(l.getD i dF).1.1.1,(l.getD i dF).1.1.2.1,(l.getD i dF).1.1.2.2,(l.getD i dF).1.2.1.1,(l.getD i dF).1.2.1.2.1,(l.getD i dF).1.2.1.2.2,(l.getD i dF).1.2.2.1,(l.getD i dF).1.2.2.2.1,(l.getD i dF).1.2.2.2.2,(l.getD i dF).2)=.inr ([],e)
 | 0,n,j,r,hj,hn,hr,hI=>by
  obtain⟨n,rfl⟩:∃x,n=x+1:=⟨n - 1,by omega⟩
  refine .inl ⟨r,by omega,fun c hc=>hI c (by omega),?_⟩
  refine aG ?_
  simp only [eU]
  rw [cG (by omega),cond_false];rfl
 | k+1,n,j,r,hj,hn,hr,hI=>by
  obtain⟨n,rfl⟩:∃x,n=x+1:=⟨n - 1,by omega⟩
  have e:eU l d (out,r,(i:Int),(j:Int),(l.getD i dF).1.1.1,(l.getD i dF).1.1.2.1,(l.getD i dF).1.1.2.2,(l.getD i dF).1.2.1.1,(l.getD i dF).1.2.1.2.1,(l.getD i dF).1.2.1.2.2,(l.getD i dF).1.2.2.1,(l.getD i dF).1.2.2.2.1,(l.getD i dF).1.2.2.2.2,(l.getD i dF).2) =
   bif ((BW l d i j).2 != 0) then .inr (.inr ([],(BW l d i j).2)) else .inl (out,r++[(BW l d i j).1],(i:Int),((j+1:Nat):Int),(l.getD i dF).1.1.1,(l.getD i dF).1.1.2.1,(l.getD i dF).1.1.2.2,(l.getD i dF).1.2.1.1,(l.getD i dF).1.2.1.2.1,(l.getD i dF).1.2.1.2.2,(l.getD i dF).1.2.2.1,(l.getD i dF).1.2.2.2.1,(l.getD i dF).1.2.2.2.2,(l.getD i dF).2):=by
   simp only [eU,fW]
   rw [bQ (by omega),cond_true];rfl
  cases hz:((BW l d i j).2 != 0) with
  | true =>
   rw [hz,cond_true] at e
   exact .inr ⟨_,bne_iff_ne.1 hz,aG e⟩
  | false =>
   rw [hz,cond_false] at e
   rw [aB e]
   refine aVm out hi k n (j+1) _ (by omega) (by omega) (by rw [List.length_append,List.length_singleton];omega) (fun c hc=>?_)
   by_cases hcj:c < j
   ·rw [rC (by omega)];exact hI c hcj
   ·have:c=j:=by omega
    subst this
    rw [rE (by omega),hr,Nat.sub_self]
    exact⟨bne_eq_false_iff_eq.1 hz,rfl⟩
theorem aVn {l:cN} {d:Int}:∀(k n i:Nat) (out:List (List lH)),i+k=l.length->k < n->out.length=i->(∀c,c < i->(out.getD c []).length=l.length/\∀e,e < l.length->(BW l d c e).2=0/\(out.getD c []).getD e dF=(BW l d c e).1) ->
 (aA (dG l d) n (out,(i:Int))).2=0->(aA (dG l d) n (out,(i:Int))).1.length=l.length/\∀c,c < l.length->((aA (dG l d) n (out,(i:Int))).1.getD c []).length=l.length/\∀e,e < l.length->(BW l d c e).2=0/\((aA (dG l d) n (out,(i:Int))).1.getD c []).getD e dF=(BW l d c e).1
 | 0,n,i,out,hi,hn,ho,hI,h=>by
  obtain⟨n,rfl⟩:∃x,n=x+1:=⟨n - 1,by omega⟩
  have e:dG l d (out,(i:Int))=.inr (out,0):=by
   simp only [dG]
   rw [cG (by omega),cond_false]
  rw [aG e]
  exact⟨by simp only;omega,fun c hc=>hI c (by omega)⟩
 | k+1,n,i,out,hi,hn,ho,hI,h=>by
  obtain⟨n,rfl⟩:∃x,n=x+1:=⟨n - 1,by omega⟩
  have e:dG l d (out,(i:Int))=aA (eU l d) (tN ((l.length:Int) - 0)+1) (out,([]:List lH),(i:Int),((0:Nat):Int),(l.getD i dF).1.1.1,(l.getD i dF).1.1.2.1,(l.getD i dF).1.1.2.2,(l.getD i dF).1.2.1.1,(l.getD i dF).1.2.1.2.1,(l.getD i dF).1.2.1.2.2,(l.getD i dF).1.2.2.1,(l.getD i dF).1.2.2.2.1,(l.getD i dF).1.2.2.2.2,(l.getD i dF).2):=by
   simp only [dG,fW]
   rw [bQ (by omega),cond_true];rfl
  rcases aVm (l:=l) (d:=d) out (i:=i) (by omega) l.length (tN ((l.length:Int) - 0)+1) 0 [] (by omega) (by omega) rfl (fun c hc=>absurd hc (fJ _)) with⟨r,r1,r2,e2⟩ | ⟨er,e0,e2⟩
  ·rw [e2] at e
   rw [aB e] at h ⊢
   refine aVn k n (i+1) _ (by omega) (by omega) (by rw [List.length_append,List.length_singleton];omega) (fun c hc=>?_) h
   by_cases hci:c < i
   ·rw [show(out++[r]).getD c []=out.getD c [] from rC (by omega)];exact hI c hci
   ·have:c=out.length:=by omega
    subst this
    rw [show(out++[r]).getD out.length []=r from(rE (Nat.le_refl _)).trans (by rw [Nat.sub_self];rfl),ho]
    exact⟨r1,r2⟩
  ·rw [e2] at e
   rw [aG e] at h
   exact absurd h e0
theorem aR3 {l:cN} {d:Int} (h:(eK l d).2=0):VCH l/\(eK l d).1.length=l.length/\∀c,c < l.length->((eK l d).1.getD c []).length=l.length/\∀e,e < l.length->(BW l d c e).2=0/\((eK l d).1.getD c []).getD e dF=(BW l d c e).1:=by
 unfold eK at h ⊢
 cases h0:((eI l:Int) != 0) with
 | true=>rw [h0,cond_true] at h;exact absurd h (bne_iff_ne.1 h0)
 | false =>
  rw [h0,cond_false] at h
  rw [cond_false]
  cases h1:(!(nY d 0 2)) with
  | true=>rw [h1,cond_true] at h;exact absurd h (by decide)
  | false =>
   rw [h1,cond_false] at h
   rw [cond_false]
   exact⟨aBz (bne_eq_false_iff_eq.1 h0),aVn l.length _ 0 [] (by omega) (by omega) rfl (fun c hc=>absurd hc (fJ _)) h⟩
theorem vF {l:cN} {d:Int} (h:(((eK l d).2:Int) != 0)=false):l.length<=96/\(eK l d).1.length=l.length/\∀j:Nat,j < l.length->((eK l d).1.getD j dF).length=l.length:=by
 obtain⟨hv,h1,h2⟩:=aR3 (bne_eq_false_iff_eq.1 h)
 exact⟨hv.1,h1,fun j hj=>(h2 j hj).1⟩
theorem aYc {a:Int×Int} (h:okE a):vs a:=by unfold okE at h;unfold vs;omega
theorem aYd {l:cN} {d:Int} (h:(eK l d).2=0):EV l.length (eK l d).1:=by
 obtain⟨hv,h1,h2⟩:=aR3 h
 refine⟨⟨h1,fun j hj=>(h2 j hj).1⟩,fun i j=>?_⟩
 by_cases hi:i < l.length
 ·obtain⟨g1,g2⟩:=h2 i hi
  by_cases hj:j < l.length
  ·obtain⟨k1,k2⟩:=g2 j hj
   rw [k2]
   obtain⟨p1,p2,p3,e⟩:=aVk k1
   unfold BW
   rw [e]
   exact aYc (aWs p1 (by omega))
  ·rw [cY (l:=(eK l d).1.getD i []),List.getElem?_eq_none (by omega)];exact aCa
 ·rw [cY (l:=(eK l d).1),List.getElem?_eq_none (by omega)];exact aCa
def eP (a0:bK)(a1:Int):(List (Int×Int))×Int :=
 (bif (((eK a0 a1).2:Int) != 0) then
  (([]:List (Int×Int)),(eK a0 a1).2)
 else
  ((fE a0 (eK a0 a1).1).1,(fE a0 (eK a0 a1).1).2))
theorem bA5 (a0:bK)(a1:Int)(l0:a0.length<=2^63-1):Con Tryz.prog 12 [(.s 0 0 a0.length 10),(iv a1)] [(.live false true (flat gB a0))] (.t [(.s 1 0 (eP a0 a1).1.length 2),(iv (eP a0 a1).2)]) [(.live true true (flat eL (eP a0 a1).1))]:=by
 refine aT Tryz.func12 (by kernel_rfl) fun cx hcx=>?_
 try have hdm:=(fun _=>vF h0) h0
 try have hd1:=(fun _=>hdm.1) h0
 try have hd2:=(fun _=>hdm.2.1) h0
 let t0:List (St Tryz.prog):=[.c [0] (bA4 a0 a1 (by omega))]
 cases h0:(((eK a0 a1).2:Int) != 0) with
 | true =>
  have q0:=bne_iff_ne.1 h0
  try have hdm:=(fun _=>vF h0) h0
  try have hd1:=(fun _=>hdm.1) h0
  try have hd2:=(fun _=>hdm.2.1) h0
  have e:=Eq.refl (eP a0 a1);conv at e=>rhs;simp only [eP,h0,aX]
  rw [e]
  exact rt (t0++[.d h0]) [.slot 4 2] [2] hcx (by kernel_rfl)
 | false =>
  have q0:=bne_eq_false_iff_eq.1 h0
  try have hdm:=(fun _=>vF h0) h0
  try have hd1:=(fun _=>hdm.1) h0
  try have hd2:=(fun _=>hdm.2.1) h0
  have e:=Eq.refl (eP a0 a1);conv at e=>rhs;simp only [eP,h0,aX]
  rw [e]
  exact rt (t0++[.d h0,.c [0,1] (aMt a0 (eK a0 a1).1 (by omega) (by(try simp only [Lt]);omega) (vF h0))]) [] [2] hcx (by kernel_rfl)
theorem aM2 {l:cN} {m:List (List (Int×Int))}:(fE l m).1.length<=l.length:=by
 unfold fE
 refine jA (S:=bP l m) (fun x=>tN ((l.length:Int) - x.2)) (fun x=>0<=x.2/\x.1.length=tN x.2/\x.2<=(l.length:Int)) (fun r=>r.1.length<=l.length) ?_ _ _ ⟨Int.le_refl _,rfl,by simp only;omega⟩ (by simp only;omega)
 rintro ⟨v,j⟩ ⟨h1,h2,h3⟩
 simp only at h1 h2 h3
 simp only [bP]
 by_cases hj:j < (l.length:Int)
 ·rw [bQ hj,cond_true]
  have key:∀r,r=aA (cF l m) (tN ((l.length:Int) - 0)+1) (v,[],j,j,0)->(∃s,r=.inl (v++[s],j+1))\/∃e:Int,r=.inr ([],e):=by
   rintro r rfl
   refine jA (S:=cF l m) (fun x=>tN ((l.length:Int) - x.2.2.2.2)) (fun x=>x.1=v/\x.2.2.2.1=j) (fun r=>(∃s,r=.inl (v++[s],j+1))\/∃e:Int,r=.inr ([],e)) ?_ _ _ ⟨rfl,rfl⟩ (by simp only;omega)
   rintro ⟨x1,x2,x3,x5,x4⟩ ⟨rfl,rfl⟩
   simp only [cF]
   by_cases hx:x4 < (l.length:Int)
   ·rw [bQ hx,cond_true]
    cases ((yC ((m.getD (tN x4) dF).getD (tN x3) dF) (l.getD (tN x4) dF).2).2 != 0) with
    | true=>exact .inr ⟨_,rfl,.inr ⟨_,rfl⟩⟩
    | false=>exact .inl ⟨_,rfl,⟨rfl,rfl⟩,by simp only;omega⟩
   ·rw [cG hx,cond_false]
    cases ((iB x2).2 != 0) with
    | true=>exact .inr ⟨_,rfl,.inr ⟨_,rfl⟩⟩
    | false=>exact .inr ⟨_,rfl,.inl ⟨_,rfl⟩⟩
  rcases key _ rfl with⟨s,e⟩ | ⟨e0,e⟩
  ·rw [e]
   exact .inl ⟨_,rfl,⟨by simp only;omega,by simp only [List.length_append,List.length_singleton];omega,by simp only;omega⟩,by simp only;omega⟩
  ·rw [e];exact .inr ⟨_,rfl,Nat.zero_le _⟩
 ·rw [cG hj,cond_false]
  exact .inr ⟨_,rfl,by simp only;omega⟩
theorem fG {l:cN} [dR l] {o:oW}:(dN l o).1.length<=l.length:=by
 unfold dN
 cases ((oO l ((o.1.1,o.1.2),o.2.1,o.2.2):Int) != 0) with
 | true=>exact Nat.zero_le _
 | false=>exact aM2
theorem fH {l:cN} {d:Int}:(eP l d).1.length<=l.length:=by
 unfold eP
 cases ((eK l d).2 != 0) with
 | true=>exact Nat.zero_le _
 | false=>exact aM2
noncomputable def PM (l:cN)(j:Nat):Int:=aCz l (fun i=>lsm (l.getD i dF).1 (l.getD j dF).1.1) l.length
def GdV (l:cN)(x:List lH):Prop:=x.length=l.length/\∀j,j < l.length->vs (x.getD j dF)/\MT (x.getD j dF) (PM l j)
def bCf (l l':cN):Prop:=l'.length=l.length/\∀i,(l'.getD i dF).1=(l.getD i dF).1
theorem bA6 {l l':cN} [dR l] [dR l'] (hs:bCf l l') {t:TR} {sep d:Int} {o:oW} (h:aL l t sep d=(o,0))(hsl:∀j:Nat,(o.2.2.getD j dF).length<=10000)(h0:(dN l' o).2=0):GdV l' (dN l' o).1:=by
 unfold dN at h0 ⊢
 rw [show(((o.1.1,o.1.2),o.2.1,o.2.2):oW)=o from rfl] at h0 ⊢
 cases ha:((oO l' o:Int) != 0) with
 | true=>rw [ha,cond_true] at h0;exact absurd h0 (bne_iff_ne.1 ha)
 | false =>
  rw [ha,cond_false] at h0
  rw [cond_false]
  have hr:qD l' o=0:=by rw [←aFw];exact bne_eq_false_iff_eq.1 ha
  have he:=aRh hr hsl
  obtain⟨e1,hev⟩:=aRj he
  rw [←e1] at hev
  have hv:=(nZ (aKp hr).1.chk).1
  exact aVl hev hv.1 (fun i hi=>(hv.2 i hi).2) (fun i j hi hj=>by
   have:=aT9 h hs.1 he (x:=i) (y:=j) (by have:=hs.1;omega) (by have:=hs.1;omega)
   unfold GdM at this
   rw [←hs.2 i,←hs.2 j] at this
   exact this) h0
theorem bA7 {l:cN} {d:Int} (h0:(eP l d).2=0):GdV l (eP l d).1:=by
 unfold eP at h0 ⊢
 cases ha:((eK l d).2 != 0) with
 | true=>rw [ha,cond_true] at h0;exact absurd h0 (bne_iff_ne.1 ha)
 | false =>
  rw [ha,cond_false] at h0
  rw [cond_false]
  have hz:=bne_eq_false_iff_eq.1 ha
  obtain⟨hv,h1,h2⟩:=aR3 hz
  exact aVl (aYd hz) hv.1 (fun i hi=>(hv.2 i hi).2) (fun i j hi hj=>by
   obtain⟨g1,g2⟩:=(h2 i hi).2 j hj
   rw [g2]
   exact aR1 g1) h0
theorem GdV.meet {l:cN} {x y:List lH} (hx:GdV l x)(hy:GdV l y) {j:Nat} (hj:j < l.length):vs (x.getD j dF)/\vs (y.getD j dF)/\(x.getD j dF).1<=(y.getD j dF).2/\(y.getD j dF).1<=(x.getD j dF).2:=by
 obtain⟨a1,a2,a3⟩:=hx.2 j hj
 obtain⟨b1,b2,b3⟩:=hy.2 j hj
 exact⟨a1,b1,by omega,by omega⟩
def vG (a0:bK):Bool :=
 (bif (decide (((a0.length:Int):Int)<=10)) then
  true
 else
  (bif (decide (((a0.length:Int):Int) > 96)) then
   (decide (((a0.length:Int):Int)<=200))
  else
   false))
theorem bCg (a0:bK)(l0:a0.length<=2^63-1):Con Tryz.prog 7 [(.s 0 0 a0.length 10)] [(.live false true (flat gB a0))] (.v (.bool (vG a0))) []:=by
 refine aT Tryz.func7 (by kernel_rfl) fun cx hcx=>?_
 cases h0:(decide (((a0.length:Int):Int)<=10)) with
 | true =>
  have q0:=dB h0
  have e:=Eq.refl (vG a0);conv at e=>rhs;simp only [vG,h0,aX]
  rw [e]
  exact rt [.d h0] [] [] hcx (by kernel_rfl)
 | false =>
  have q0:=eC h0
  let t1:List (St Tryz.prog):=[.d h0]
  cases h1:(decide (((a0.length:Int):Int) > 96)) with
  | true =>
   have q1:=dB h1
   have e:=Eq.refl (vG a0);conv at e=>rhs;simp only [vG,h0,h1,aX]
   rw [e]
   exact rt (t1++[.d h1]) [] [] hcx (by kernel_rfl)
  | false =>
   have q1:=eC h1
   have e:=Eq.refl (vG a0);conv at e=>rhs;simp only [vG,h0,h1,aX]
   rw [e]
   exact rt (t1++[.d h1]) [] [] hcx (by kernel_rfl)
theorem aIf {l:List (PN×Int)} (h:vG l=true):dR l:=by
 refine⟨⟨?_⟩⟩
 unfold vG at h
 by_cases h1:(l.length:Int)<=10
 ·left;omega
 ·rw [cG h1,cond_false] at h
  by_cases h2:(l.length:Int) > 96
  ·right;omega
  ·rw [cG h2,cond_false] at h;cases h
theorem fI {l:List (PN×Int)} (h:(!(vG l))=false):dR l:=aIf (by cases hq:vG l with | true=>rfl | false=>rw [hq] at h;cases h)
noncomputable def aKr:Code:=(aP [1,1,1,1,1,1,1,1,0,1] [] (aN Tryz.f3) []).1
noncomputable def aKs:List K:=(aP [1,1,1,1,1,1,1,1,0,1] [] (aN Tryz.f3) []).2
def aF8 (a0:bK)(a1:Int×Zt×Zt)(a2:Int)(v1:Int):LS:=⟨kG 105 [(11,(.s 1 0 (dN a0 (((aL a0 ((aC a0 a1.1).1.1,(aC a0 a1.1).1.2) a1.2.2.1 a1.2.2.2.2).1.1.1,(aL a0 ((aC a0 a1.1).1.1,(aC a0 a1.1).1.2) a1.2.2.1 a1.2.2.2.2).1.1.2),(aL a0 ((aC a0 a1.1).1.1,(aC a0 a1.1).1.2) a1.2.2.1 a1.2.2.2.2).1.2.1,(aL a0 ((aC a0 a1.1).1.1,(aC a0 a1.1).1.2) a1.2.2.1 a1.2.2.2.2).1.2.2)).1.length 2)),(13,(.s 2 0 (eP a0 a2).1.length 2)),(15,(iv v1))],[(.live false true (flat gB a0)),(.live true true (flat eL (dN a0 (((aL a0 ((aC a0 a1.1).1.1,(aC a0 a1.1).1.2) a1.2.2.1 a1.2.2.2.2).1.1.1,(aL a0 ((aC a0 a1.1).1.1,(aC a0 a1.1).1.2) a1.2.2.1 a1.2.2.2.2).1.1.2),(aL a0 ((aC a0 a1.1).1.1,(aC a0 a1.1).1.2) a1.2.2.1 a1.2.2.2.2).1.2.1,(aL a0 ((aC a0 a1.1).1.1,(aC a0 a1.1).1.2) a1.2.2.1 a1.2.2.2.2).1.2.2)).1)),(.live true true (flat eL (eP a0 a2).1))]⟩
def jB (a0:bK)(a1:Int×Zt×Zt)(a2:Int):Int->(Int)⊕(Bool)
 | v1 =>
  (bif (decide ((v1:Int) < (((dN a0 (((aL a0 ((aC a0 a1.1).1.1,(aC a0 a1.1).1.2) a1.2.2.1 a1.2.2.2.2).1.1.1,(aL a0 ((aC a0 a1.1).1.1,(aC a0 a1.1).1.2) a1.2.2.1 a1.2.2.2.2).1.1.2),(aL a0 ((aC a0 a1.1).1.1,(aC a0 a1.1).1.2) a1.2.2.1 a1.2.2.2.2).1.2.1,(aL a0 ((aC a0 a1.1).1.1,(aC a0 a1.1).1.2) a1.2.2.1 a1.2.2.2.2).1.2.2)).1.length:Nat):Int))) then
   (bif (((F13 ((dN a0 (((aL a0 ((aC a0 a1.1).1.1,(aC a0 a1.1).1.2) a1.2.2.1 a1.2.2.2.2).1.1.1,(aL a0 ((aC a0 a1.1).1.1,(aC a0 a1.1).1.2) a1.2.2.1 a1.2.2.2.2).1.1.2),(aL a0 ((aC a0 a1.1).1.1,(aC a0 a1.1).1.2) a1.2.2.1 a1.2.2.2.2).1.2.1,(aL a0 ((aC a0 a1.1).1.1,(aC a0 a1.1).1.2) a1.2.2.1 a1.2.2.2.2).1.2.2)).1.getD (tN v1) dF) ((eP a0 a2).1.getD (tN v1) dF)).2.2:Int) != 0) then
    (.inr false)
   else
    (bif (!(F13 ((dN a0 (((aL a0 ((aC a0 a1.1).1.1,(aC a0 a1.1).1.2) a1.2.2.1 a1.2.2.2.2).1.1.1,(aL a0 ((aC a0 a1.1).1.1,(aC a0 a1.1).1.2) a1.2.2.1 a1.2.2.2.2).1.1.2),(aL a0 ((aC a0 a1.1).1.1,(aC a0 a1.1).1.2) a1.2.2.1 a1.2.2.2.2).1.2.1,(aL a0 ((aC a0 a1.1).1.1,(aC a0 a1.1).1.2) a1.2.2.1 a1.2.2.2.2).1.2.2)).1.getD (tN v1) dF) ((eP a0 a2).1.getD (tN v1) dF)).2.1) then
     (.inr false)
    else
     (.inl (v1+1))))
  else
   (.inr F8))
theorem aYe (a0:bK)(a1:Int×Zt×Zt)(a2:Int)(l0:a0.length<=2^63-1) {cx:Cx} (hcx:cx.base=1):∀(n:Nat) (v1:Int),(0<=v1)/\((dN a0 (((aL a0 ((aC a0 a1.1).1.1,(aC a0 a1.1).1.2) a1.2.2.1 a1.2.2.2.2).1.1.1,(aL a0 ((aC a0 a1.1).1.1,(aC a0 a1.1).1.2) a1.2.2.1 a1.2.2.2.2).1.1.2),(aL a0 ((aC a0 a1.1).1.1,(aC a0 a1.1).1.2) a1.2.2.1 a1.2.2.2.2).1.2.1,(aL a0 ((aC a0 a1.1).1.1,(aC a0 a1.1).1.2) a1.2.2.1 a1.2.2.2.2).1.2.2)).1.length<=a0.length)/\((eP a0 a2).1.length=(dN a0 (((aL a0 ((aC a0 a1.1).1.1,(aC a0 a1.1).1.2) a1.2.2.1 a1.2.2.2.2).1.1.1,(aL a0 ((aC a0 a1.1).1.1,(aC a0 a1.1).1.2) a1.2.2.1 a1.2.2.2.2).1.1.2),(aL a0 ((aC a0 a1.1).1.1,(aC a0 a1.1).1.2) a1.2.2.1 a1.2.2.2.2).1.2.1,(aL a0 ((aC a0 a1.1).1.1,(aC a0 a1.1).1.2) a1.2.2.1 a1.2.2.2.2).1.2.2)).1.length)->tN ((((dN a0 (((aL a0 ((aC a0 a1.1).1.1,(aC a0 a1.1).1.2) a1.2.2.1 a1.2.2.2.2).1.1.1,(aL a0 ((aC a0 a1.1).1.1,(aC a0 a1.1).1.2) a1.2.2.1 a1.2.2.2.2).1.1.2),(aL a0 ((aC a0 a1.1).1.1,(aC a0 a1.1).1.2) a1.2.2.1 a1.2.2.2.2).1.2.1,(aL a0 ((aC a0 a1.1).1.1,(aC a0 a1.1).1.2) a1.2.2.1 a1.2.2.2.2).1.2.2)).1.length:Nat):Int) - v1) < n->Aw.Good Tryz.prog none 9 (bodyPost Tryz.prog Tryz.f3 (RR cx (.v (.bool (aA (jB a0 a1 a2) n v1))) [] [])) cx [] (.l aKr n::aKs) (aF8 a0 a1 a2 v1):=by
 intro n
 induction n with
 | zero=>intro v1 hi hn;exact absurd hn (fJ _)
 | succ n ih =>
  intro v1 hi hn
  refine aU ?_
  cases h0:(decide ((v1:Int) < (((dN a0 (((aL a0 ((aC a0 a1.1).1.1,(aC a0 a1.1).1.2) a1.2.2.1 a1.2.2.2.2).1.1.1,(aL a0 ((aC a0 a1.1).1.1,(aC a0 a1.1).1.2) a1.2.2.1 a1.2.2.2.2).1.1.2),(aL a0 ((aC a0 a1.1).1.1,(aC a0 a1.1).1.2) a1.2.2.1 a1.2.2.2.2).1.2.1,(aL a0 ((aC a0 a1.1).1.1,(aC a0 a1.1).1.2) a1.2.2.1 a1.2.2.2.2).1.2.2)).1.length:Nat):Int))) with
  | true =>
   have q0:=dB h0
   let t1:List (St Tryz.prog):=[.d h0,.i v1 ((dN a0 (((aL a0 ((aC a0 a1.1).1.1,(aC a0 a1.1).1.2) a1.2.2.1 a1.2.2.2.2).1.1.1,(aL a0 ((aC a0 a1.1).1.1,(aC a0 a1.1).1.2) a1.2.2.1 a1.2.2.2.2).1.1.2),(aL a0 ((aC a0 a1.1).1.1,(aC a0 a1.1).1.2) a1.2.2.1 a1.2.2.2.2).1.2.1,(aL a0 ((aC a0 a1.1).1.1,(aC a0 a1.1).1.2) a1.2.2.1 a1.2.2.2.2).1.2.2)).1.length),.L dU (dN a0 (((aL a0 ((aC a0 a1.1).1.1,(aC a0 a1.1).1.2) a1.2.2.1 a1.2.2.2.2).1.1.1,(aL a0 ((aC a0 a1.1).1.1,(aC a0 a1.1).1.2) a1.2.2.1 a1.2.2.2.2).1.1.2),(aL a0 ((aC a0 a1.1).1.1,(aC a0 a1.1).1.2) a1.2.2.1 a1.2.2.2.2).1.2.1,(aL a0 ((aC a0 a1.1).1.1,(aC a0 a1.1).1.2) a1.2.2.1 a1.2.2.2.2).1.2.2)).1 v1 0 2,.i v1 ((eP a0 a2).1.length),.L dU (eP a0 a2).1 v1 0 2,.c [] (C13 ((dN a0 (((aL a0 ((aC a0 a1.1).1.1,(aC a0 a1.1).1.2) a1.2.2.1 a1.2.2.2.2).1.1.1,(aL a0 ((aC a0 a1.1).1.1,(aC a0 a1.1).1.2) a1.2.2.1 a1.2.2.2.2).1.1.2),(aL a0 ((aC a0 a1.1).1.1,(aC a0 a1.1).1.2) a1.2.2.1 a1.2.2.2.2).1.2.1,(aL a0 ((aC a0 a1.1).1.1,(aC a0 a1.1).1.2) a1.2.2.1 a1.2.2.2.2).1.2.2)).1.getD (tN v1) dF) ((eP a0 a2).1.getD (tN v1) dF))]
   cases h1:(((F13 ((dN a0 (((aL a0 ((aC a0 a1.1).1.1,(aC a0 a1.1).1.2) a1.2.2.1 a1.2.2.2.2).1.1.1,(aL a0 ((aC a0 a1.1).1.1,(aC a0 a1.1).1.2) a1.2.2.1 a1.2.2.2.2).1.1.2),(aL a0 ((aC a0 a1.1).1.1,(aC a0 a1.1).1.2) a1.2.2.1 a1.2.2.2.2).1.2.1,(aL a0 ((aC a0 a1.1).1.1,(aC a0 a1.1).1.2) a1.2.2.1 a1.2.2.2.2).1.2.2)).1.getD (tN v1) dF) ((eP a0 a2).1.getD (tN v1) dF)).2.2:Int) != 0) with
   | true =>
    have q1:=bne_iff_ne.1 h1
    have e:=Eq.refl (jB a0 a1 a2 v1);conv at e=>rhs;simp only [jB,h0,h1,aX]
    rw [aQ,e]
    exact rt (t1++[.d h1]) [] [] hcx (by kernel_rfl)
   | false =>
    have q1:=bne_eq_false_iff_eq.1 h1
    let t2:List (St Tryz.prog):=(t1++[.d h1])
    cases h2:(!(F13 ((dN a0 (((aL a0 ((aC a0 a1.1).1.1,(aC a0 a1.1).1.2) a1.2.2.1 a1.2.2.2.2).1.1.1,(aL a0 ((aC a0 a1.1).1.1,(aC a0 a1.1).1.2) a1.2.2.1 a1.2.2.2.2).1.1.2),(aL a0 ((aC a0 a1.1).1.1,(aC a0 a1.1).1.2) a1.2.2.1 a1.2.2.2.2).1.2.1,(aL a0 ((aC a0 a1.1).1.1,(aC a0 a1.1).1.2) a1.2.2.1 a1.2.2.2.2).1.2.2)).1.getD (tN v1) dF) ((eP a0 a2).1.getD (tN v1) dF)).2.1) with
    | true =>
     have e:=Eq.refl (jB a0 a1 a2 v1);conv at e=>rhs;simp only [jB,h0,h1,h2,aX]
     rw [aQ,e]
     exact rt (t2++[.d h2]) [] [] hcx (by kernel_rfl)
    | false =>
     have e:=Eq.refl (jB a0 a1 a2 v1);conv at e=>rhs;simp only [jB,h0,h1,h2,aX]
     rw [aB e]
     refine ba (t2++[.d h2]) [] [11,13,15] [1,2] hcx (m:=n) aKr (aKs) (aF8 a0 a1 a2 (W (v1+1))) (by kernel_rfl) ?_
     have z0:(W (v1+1))=(v1+1):=aH (by omega) (by omega)
     rw [z0]
     exact ih (v1+1) (by refine⟨?_,?_,?_⟩<;>(try simp only [Ls])<;>first | omega | assumption | simp) (by(try simp only [Ls]);omega)
  | false =>
   have q0:=eC h0
   have e:=Eq.refl (jB a0 a1 a2 v1);conv at e=>rhs;simp only [jB,h0,aX]
   rw [aQ,e]
   exact rt [.d h0,.c [] (C8)] [] [] hcx (by kernel_rfl)
def oK (a0:bK)(a1:Int×Zt×Zt)(a2:Int):Bool :=
 (bif (!(vG a0)) then
  F8
 else
  (bif (((aC a0 a1.1).2:Int) != 0) then
   F8
  else
   (bif (((aL a0 ((aC a0 a1.1).1.1,(aC a0 a1.1).1.2) a1.2.2.1 a1.2.2.2.2).2:Int) != 0) then
    F8
   else
    (bif (((dN a0 (((aL a0 ((aC a0 a1.1).1.1,(aC a0 a1.1).1.2) a1.2.2.1 a1.2.2.2.2).1.1.1,(aL a0 ((aC a0 a1.1).1.1,(aC a0 a1.1).1.2) a1.2.2.1 a1.2.2.2.2).1.1.2),(aL a0 ((aC a0 a1.1).1.1,(aC a0 a1.1).1.2) a1.2.2.1 a1.2.2.2.2).1.2.1,(aL a0 ((aC a0 a1.1).1.1,(aC a0 a1.1).1.2) a1.2.2.1 a1.2.2.2.2).1.2.2)).2:Int) != 0) then
     F8
    else
     (bif (((eP a0 a2).2:Int) != 0) then
      F8
     else
      (bif (((((dN a0 (((aL a0 ((aC a0 a1.1).1.1,(aC a0 a1.1).1.2) a1.2.2.1 a1.2.2.2.2).1.1.1,(aL a0 ((aC a0 a1.1).1.1,(aC a0 a1.1).1.2) a1.2.2.1 a1.2.2.2.2).1.1.2),(aL a0 ((aC a0 a1.1).1.1,(aC a0 a1.1).1.2) a1.2.2.1 a1.2.2.2.2).1.2.1,(aL a0 ((aC a0 a1.1).1.1,(aC a0 a1.1).1.2) a1.2.2.1 a1.2.2.2.2).1.2.2)).1.length:Nat):Int):Int) != (a0.length:Int)) then
       false
      else
       (bif (((((eP a0 a2).1.length:Nat):Int):Int) != (a0.length:Int)) then
        false
       else
        (aA (jB a0 a1 a2) (tN ((((dN a0 (((aL a0 ((aC a0 a1.1).1.1,(aC a0 a1.1).1.2) a1.2.2.1 a1.2.2.2.2).1.1.1,(aL a0 ((aC a0 a1.1).1.1,(aC a0 a1.1).1.2) a1.2.2.1 a1.2.2.2.2).1.1.2),(aL a0 ((aC a0 a1.1).1.1,(aC a0 a1.1).1.2) a1.2.2.1 a1.2.2.2.2).1.2.1,(aL a0 ((aC a0 a1.1).1.1,(aC a0 a1.1).1.2) a1.2.2.1 a1.2.2.2.2).1.2.2)).1.length:Nat):Int) - 0)+1) 0))))))))
theorem bCh (a0:bK)(a1:Int×Zt×Zt)(a2:Int)(l0:a0.length<=2^63-1):Con Tryz.prog 3 [(.s 0 0 a0.length 10),(.a [(iv a1.1),(iv a1.2.1.1),(iv a1.2.1.2.1),(iv a1.2.1.2.2),(iv a1.2.2.1),(iv a1.2.2.2.1),(iv a1.2.2.2.2)]),(iv a2)] [(.live false true (flat gB a0))] (.v (.bool (oK a0 a1 a2))) []:=by
 refine aT Tryz.func3 (by kernel_rfl) fun cx hcx=>?_
 try have h5f:=fI h0
 try have hb2:=(fun _=>dJ a0 a1.1) h0
 try have hx1:=(fun _=>hG a0 ((aC a0 a1.1).1.1,(aC a0 a1.1).1.2) a1.2.2.1 a1.2.2.2.2 hb2.1 hb2.2) h0
 try have hx3:=(fun _=>fG (l:=a0) (o:=(aL a0 ((aC a0 a1.1).1.1,(aC a0 a1.1).1.2) a1.2.2.1 a1.2.2.2.2).1)) h0
 try have hx4:=(fun _=>fH (l:=a0) (d:=a2)) h0
 let t0:List (St Tryz.prog):=[.c [0] (bCg a0 (by omega))]
 cases h0:(!(vG a0)) with
 | true =>
  try have h5f:=fI h0
  try have hb2:=(fun _=>dJ a0 a1.1) h0
  try have hx1:=(fun _=>hG a0 ((aC a0 a1.1).1.1,(aC a0 a1.1).1.2) a1.2.2.1 a1.2.2.2.2 hb2.1 hb2.2) h0
  try have hx3:=(fun _=>fG (l:=a0) (o:=(aL a0 ((aC a0 a1.1).1.1,(aC a0 a1.1).1.2) a1.2.2.1 a1.2.2.2.2).1)) h0
  try have hx4:=(fun _=>fH (l:=a0) (d:=a2)) h0
  have e:=Eq.refl (oK a0 a1 a2);conv at e=>rhs;simp only [oK,h0,aX]
  rw [e]
  exact rt (t0++[.d h0,.c [] (C8)]) [] [] hcx (by kernel_rfl)
 | false =>
  try have h5f:=fI h0
  try have hb2:=(fun _=>dJ a0 a1.1) h0
  try have hx1:=(fun _=>hG a0 ((aC a0 a1.1).1.1,(aC a0 a1.1).1.2) a1.2.2.1 a1.2.2.2.2 hb2.1 hb2.2) h0
  try have hx3:=(fun _=>fG (l:=a0) (o:=(aL a0 ((aC a0 a1.1).1.1,(aC a0 a1.1).1.2) a1.2.2.1 a1.2.2.2.2).1)) h0
  try have hx4:=(fun _=>fH (l:=a0) (d:=a2)) h0
  let t1:List (St Tryz.prog):=(t0++[.d h0,.c [0] (aZ5 a0 a1.1 (by omega)),.c [0,2,3] (bAj a0 ((aC a0 a1.1).1.1,(aC a0 a1.1).1.2) a1.2.2.1 a1.2.2.2.2 (by(try simp only [Lt]);omega) (by(try simp only [Lt]);omega) (by(try simp only [Lt]);omega)),.c [0,5,6,7,8] (bAq a0 (((aL a0 ((aC a0 a1.1).1.1,(aC a0 a1.1).1.2) a1.2.2.1 a1.2.2.2.2).1.1.1,(aL a0 ((aC a0 a1.1).1.1,(aC a0 a1.1).1.2) a1.2.2.1 a1.2.2.2.2).1.1.2),(aL a0 ((aC a0 a1.1).1.1,(aC a0 a1.1).1.2) a1.2.2.1 a1.2.2.2.2).1.2.1,(aL a0 ((aC a0 a1.1).1.1,(aC a0 a1.1).1.2) a1.2.2.1 a1.2.2.2.2).1.2.2) (by(try simp only [Lt]);omega) (by(try simp only [Lt]);omega) (by(try simp only [Lt]);omega) (by(try simp only [Lt]);omega) (by(try simp only [Lt]);omega) (aUz _ _ _ _)),.c [0] (bA5 a0 a2 (by omega))])
  cases h1:(((aC a0 a1.1).2:Int) != 0) with
  | true =>
   have q1:=bne_iff_ne.1 h1
   try have h5f:=fI h0
   try have hb2:=(fun _=>dJ a0 a1.1) h0
   try have hx1:=(fun _=>hG a0 ((aC a0 a1.1).1.1,(aC a0 a1.1).1.2) a1.2.2.1 a1.2.2.2.2 hb2.1 hb2.2) h0
   try have hx3:=(fun _=>fG (l:=a0) (o:=(aL a0 ((aC a0 a1.1).1.1,(aC a0 a1.1).1.2) a1.2.2.1 a1.2.2.2.2).1)) h0
   try have hx4:=(fun _=>fH (l:=a0) (d:=a2)) h0
   have e:=Eq.refl (oK a0 a1 a2);conv at e=>rhs;simp only [oK,h0,h1,aX]
   rw [e]
   exact rt (t1++[.d h1,.c [] (C8)]) [] [] hcx (by kernel_rfl)
  | false =>
   have q1:=bne_eq_false_iff_eq.1 h1
   try have h5f:=fI h0
   try have hb2:=(fun _=>dJ a0 a1.1) h0
   try have hx1:=(fun _=>hG a0 ((aC a0 a1.1).1.1,(aC a0 a1.1).1.2) a1.2.2.1 a1.2.2.2.2 hb2.1 hb2.2) h0
   try have hx3:=(fun _=>fG (l:=a0) (o:=(aL a0 ((aC a0 a1.1).1.1,(aC a0 a1.1).1.2) a1.2.2.1 a1.2.2.2.2).1)) h0
   try have hx4:=(fun _=>fH (l:=a0) (d:=a2)) h0
   let t2:List (St Tryz.prog):=(t1++[.d h1])
   cases h2:(((aL a0 ((aC a0 a1.1).1.1,(aC a0 a1.1).1.2) a1.2.2.1 a1.2.2.2.2).2:Int) != 0) with
   | true =>
    have q2:=bne_iff_ne.1 h2
    try have h5f:=fI h0
    try have hb2:=(fun _=>dJ a0 a1.1) h0
    try have hx1:=(fun _=>hG a0 ((aC a0 a1.1).1.1,(aC a0 a1.1).1.2) a1.2.2.1 a1.2.2.2.2 hb2.1 hb2.2) h0
    try have hx3:=(fun _=>fG (l:=a0) (o:=(aL a0 ((aC a0 a1.1).1.1,(aC a0 a1.1).1.2) a1.2.2.1 a1.2.2.2.2).1)) h0
    try have hx4:=(fun _=>fH (l:=a0) (d:=a2)) h0
    have e:=Eq.refl (oK a0 a1 a2);conv at e=>rhs;simp only [oK,h0,h1,h2,aX]
    rw [e]
    exact rt (t2++[.d h2,.c [] (C8)]) [] [] hcx (by kernel_rfl)
   | false =>
    have q2:=bne_eq_false_iff_eq.1 h2
    try have h5f:=fI h0
    try have hb2:=(fun _=>dJ a0 a1.1) h0
    try have hx1:=(fun _=>hG a0 ((aC a0 a1.1).1.1,(aC a0 a1.1).1.2) a1.2.2.1 a1.2.2.2.2 hb2.1 hb2.2) h0
    try have hx3:=(fun _=>fG (l:=a0) (o:=(aL a0 ((aC a0 a1.1).1.1,(aC a0 a1.1).1.2) a1.2.2.1 a1.2.2.2.2).1)) h0
    try have hx4:=(fun _=>fH (l:=a0) (d:=a2)) h0
    let t3:List (St Tryz.prog):=(t2++[.d h2])
    cases h3:(((dN a0 (((aL a0 ((aC a0 a1.1).1.1,(aC a0 a1.1).1.2) a1.2.2.1 a1.2.2.2.2).1.1.1,(aL a0 ((aC a0 a1.1).1.1,(aC a0 a1.1).1.2) a1.2.2.1 a1.2.2.2.2).1.1.2),(aL a0 ((aC a0 a1.1).1.1,(aC a0 a1.1).1.2) a1.2.2.1 a1.2.2.2.2).1.2.1,(aL a0 ((aC a0 a1.1).1.1,(aC a0 a1.1).1.2) a1.2.2.1 a1.2.2.2.2).1.2.2)).2:Int) != 0) with
    | true =>
     have q3:=bne_iff_ne.1 h3
     try have h5f:=fI h0
     try have hb2:=(fun _=>dJ a0 a1.1) h0
     try have hx1:=(fun _=>hG a0 ((aC a0 a1.1).1.1,(aC a0 a1.1).1.2) a1.2.2.1 a1.2.2.2.2 hb2.1 hb2.2) h0
     try have hx3:=(fun _=>fG (l:=a0) (o:=(aL a0 ((aC a0 a1.1).1.1,(aC a0 a1.1).1.2) a1.2.2.1 a1.2.2.2.2).1)) h0
     try have hx4:=(fun _=>fH (l:=a0) (d:=a2)) h0
     have e:=Eq.refl (oK a0 a1 a2);conv at e=>rhs;simp only [oK,h0,h1,h2,h3,aX]
     rw [e]
     exact rt (t3++[.d h3,.c [] (C8)]) [] [] hcx (by kernel_rfl)
    | false =>
     have q3:=bne_eq_false_iff_eq.1 h3
     try have h5f:=fI h0
     try have hb2:=(fun _=>dJ a0 a1.1) h0
     try have hx1:=(fun _=>hG a0 ((aC a0 a1.1).1.1,(aC a0 a1.1).1.2) a1.2.2.1 a1.2.2.2.2 hb2.1 hb2.2) h0
     try have hx3:=(fun _=>fG (l:=a0) (o:=(aL a0 ((aC a0 a1.1).1.1,(aC a0 a1.1).1.2) a1.2.2.1 a1.2.2.2.2).1)) h0
     try have hx4:=(fun _=>fH (l:=a0) (d:=a2)) h0
     let t4:List (St Tryz.prog):=(t3++[.d h3])
     cases h4:(((eP a0 a2).2:Int) != 0) with
     | true =>
      have q4:=bne_iff_ne.1 h4
      try have h5f:=fI h0
      try have hb2:=(fun _=>dJ a0 a1.1) h0
      try have hx1:=(fun _=>hG a0 ((aC a0 a1.1).1.1,(aC a0 a1.1).1.2) a1.2.2.1 a1.2.2.2.2 hb2.1 hb2.2) h0
      try have hx3:=(fun _=>fG (l:=a0) (o:=(aL a0 ((aC a0 a1.1).1.1,(aC a0 a1.1).1.2) a1.2.2.1 a1.2.2.2.2).1)) h0
      try have hx4:=(fun _=>fH (l:=a0) (d:=a2)) h0
      have e:=Eq.refl (oK a0 a1 a2);conv at e=>rhs;simp only [oK,h0,h1,h2,h3,h4,aX]
      rw [e]
      exact rt (t4++[.d h4,.c [] (C8)]) [] [] hcx (by kernel_rfl)
     | false =>
      have q4:=bne_eq_false_iff_eq.1 h4
      try have h5f:=fI h0
      try have hb2:=(fun _=>dJ a0 a1.1) h0
      try have hx1:=(fun _=>hG a0 ((aC a0 a1.1).1.1,(aC a0 a1.1).1.2) a1.2.2.1 a1.2.2.2.2 hb2.1 hb2.2) h0
      try have hx3:=(fun _=>fG (l:=a0) (o:=(aL a0 ((aC a0 a1.1).1.1,(aC a0 a1.1).1.2) a1.2.2.1 a1.2.2.2.2).1)) h0
      try have hx4:=(fun _=>fH (l:=a0) (d:=a2)) h0
      let t5:List (St Tryz.prog):=(t4++[.d h4])
      cases h5:(((((dN a0 (((aL a0 ((aC a0 a1.1).1.1,(aC a0 a1.1).1.2) a1.2.2.1 a1.2.2.2.2).1.1.1,(aL a0 ((aC a0 a1.1).1.1,(aC a0 a1.1).1.2) a1.2.2.1 a1.2.2.2.2).1.1.2),(aL a0 ((aC a0 a1.1).1.1,(aC a0 a1.1).1.2) a1.2.2.1 a1.2.2.2.2).1.2.1,(aL a0 ((aC a0 a1.1).1.1,(aC a0 a1.1).1.2) a1.2.2.1 a1.2.2.2.2).1.2.2)).1.length:Nat):Int):Int) != (a0.length:Int)) with
      | true =>
       have q5:=bne_iff_ne.1 h5
       try have h5f:=fI h0
       try have hb2:=(fun _=>dJ a0 a1.1) h0
       try have hx1:=(fun _=>hG a0 ((aC a0 a1.1).1.1,(aC a0 a1.1).1.2) a1.2.2.1 a1.2.2.2.2 hb2.1 hb2.2) h0
       try have hx3:=(fun _=>fG (l:=a0) (o:=(aL a0 ((aC a0 a1.1).1.1,(aC a0 a1.1).1.2) a1.2.2.1 a1.2.2.2.2).1)) h0
       try have hx4:=(fun _=>fH (l:=a0) (d:=a2)) h0
       have e:=Eq.refl (oK a0 a1 a2);conv at e=>rhs;simp only [oK,h0,h1,h2,h3,h4,h5,aX]
       rw [e]
       exact rt (t5++[.d h5]) [] [] hcx (by kernel_rfl)
      | false =>
       have q5:=bne_eq_false_iff_eq.1 h5
       try have h5f:=fI h0
       try have hb2:=(fun _=>dJ a0 a1.1) h0
       try have hx1:=(fun _=>hG a0 ((aC a0 a1.1).1.1,(aC a0 a1.1).1.2) a1.2.2.1 a1.2.2.2.2 hb2.1 hb2.2) h0
       try have hx3:=(fun _=>fG (l:=a0) (o:=(aL a0 ((aC a0 a1.1).1.1,(aC a0 a1.1).1.2) a1.2.2.1 a1.2.2.2.2).1)) h0
       try have hx4:=(fun _=>fH (l:=a0) (d:=a2)) h0
       let t6:List (St Tryz.prog):=(t5++[.d h5])
       cases h6:(((((eP a0 a2).1.length:Nat):Int):Int) != (a0.length:Int)) with
       | true =>
        have q6:=bne_iff_ne.1 h6
        try have h5f:=fI h0
        try have hb2:=(fun _=>dJ a0 a1.1) h0
        try have hx1:=(fun _=>hG a0 ((aC a0 a1.1).1.1,(aC a0 a1.1).1.2) a1.2.2.1 a1.2.2.2.2 hb2.1 hb2.2) h0
        try have hx3:=(fun _=>fG (l:=a0) (o:=(aL a0 ((aC a0 a1.1).1.1,(aC a0 a1.1).1.2) a1.2.2.1 a1.2.2.2.2).1)) h0
        try have hx4:=(fun _=>fH (l:=a0) (d:=a2)) h0
        have e:=Eq.refl (oK a0 a1 a2);conv at e=>rhs;simp only [oK,h0,h1,h2,h3,h4,h5,h6,aX]
        rw [e]
        exact rt (t6++[.d h6]) [] [] hcx (by kernel_rfl)
       | false =>
        have q6:=bne_eq_false_iff_eq.1 h6
        try have h5f:=fI h0
        try have hb2:=(fun _=>dJ a0 a1.1) h0
        try have hx1:=(fun _=>hG a0 ((aC a0 a1.1).1.1,(aC a0 a1.1).1.2) a1.2.2.1 a1.2.2.2.2 hb2.1 hb2.2) h0
        try have hx3:=(fun _=>fG (l:=a0) (o:=(aL a0 ((aC a0 a1.1).1.1,(aC a0 a1.1).1.2) a1.2.2.1 a1.2.2.2.2).1)) h0
        try have hx4:=(fun _=>fH (l:=a0) (d:=a2)) h0
        have e:=Eq.refl (oK a0 a1 a2);conv at e=>rhs;simp only [oK,h0,h1,h2,h3,h4,h5,h6,aX]
        rw [e]
        refine en (t6++[.d h6]) [] [11,13,15] [10,11] hcx aKr (aKs) (aF8 a0 a1 a2 0) (tN ((((dN a0 (((aL a0 ((aC a0 a1.1).1.1,(aC a0 a1.1).1.2) a1.2.2.1 a1.2.2.2.2).1.1.1,(aL a0 ((aC a0 a1.1).1.1,(aC a0 a1.1).1.2) a1.2.2.1 a1.2.2.2.2).1.1.2),(aL a0 ((aC a0 a1.1).1.1,(aC a0 a1.1).1.2) a1.2.2.1 a1.2.2.2.2).1.2.1,(aL a0 ((aC a0 a1.1).1.1,(aC a0 a1.1).1.2) a1.2.2.1 a1.2.2.2.2).1.2.2)).1.length:Nat):Int) - 0)+1) (by kernel_rfl) ?_
        exact aYe a0 a1 a2 l0 hcx (tN ((((dN a0 (((aL a0 ((aC a0 a1.1).1.1,(aC a0 a1.1).1.2) a1.2.2.1 a1.2.2.2.2).1.1.1,(aL a0 ((aC a0 a1.1).1.1,(aC a0 a1.1).1.2) a1.2.2.1 a1.2.2.2.2).1.1.2),(aL a0 ((aC a0 a1.1).1.1,(aC a0 a1.1).1.2) a1.2.2.1 a1.2.2.2.2).1.2.1,(aL a0 ((aC a0 a1.1).1.1,(aC a0 a1.1).1.2) a1.2.2.1 a1.2.2.2.2).1.2.2)).1.length:Nat):Int) - 0)+1) 0 (by refine⟨?_,?_,?_⟩<;>(try simp only [Ls])<;>first | omega | assumption | simp) (by(try simp only [Ls]);omega)
theorem aIg {S:Int->Int⊕Bool} {N:Nat} (h1:∀i:Nat,i < N->S (i:Int)=.inl ((i+1:Nat):Int))(h2:S (N:Int)=.inr true):∀(d i n:Nat),d=N - i->i<=N->d < n->aA S n (i:Int)=true
 | 0,i,n,hd,hi,hn=>by
  obtain⟨n,rfl⟩:∃m,n=m+1:=⟨n - 1,by omega⟩
  have:i=N:=by omega
  subst this
  exact aG h2
 | d+1,i,n,hd,hi,hn=>by
  obtain⟨n,rfl⟩:∃m,n=m+1:=⟨n - 1,by omega⟩
  rw [aB (h1 i (by omega))]
  exact aIg h1 h2 d (i+1) n (by omega) (by omega) (by omega)
theorem bA8 {a c:Int×Int} (ha:vs a)(hc:vs c)(h1:a.1<=c.2)(h2:c.1<=a.2):(F13 a c).2.1=true/\(F13 a c).2.2=0:=by
 unfold F13 pO
 have e1:vI (a,c).1=true:=aHa (a:=a.1) (b:=a.2) ha.1 ha.2.1 ha.2.2
 have e2:vI (a,c).2=true:=aHa (a:=c.1) (b:=c.2) hc.1 hc.2.1 hc.2.2
 rw [e1,e2]
 have g1:=ha.2.1;have g2:=hc.2.1
 have h:¬((if(a.1:Int) < c.1 then c.1 else a.1) > (if(c.2:Int) < a.2 then c.2 else a.2)):=by(repeat' split)<;>omega
 simp [h]
theorem aKt (l:cN)(a:Int×P3×Zt)(depth:Int):oK l a depth=true:=by
 unfold oK
 rw [aQd]
 cases hfew:vG l with
 | false=>rfl
 | true =>
  haveI h5:dR l:=aIf hfew
  rw [Bool.not_true,cond_false]
  generalize hX:dN l (((aL l ((aC l a.1).1.1,(aC l a.1).1.2) a.2.2.1 a.2.2.2.2).1.1.1,(aL l ((aC l a.1).1.1,(aC l a.1).1.2) a.2.2.1 a.2.2.2.2).1.1.2),(aL l ((aC l a.1).1.1,(aC l a.1).1.2) a.2.2.1 a.2.2.2.2).1.2.1,(aL l ((aC l a.1).1.1,(aC l a.1).1.2) a.2.2.1 a.2.2.2.2).1.2.2)=X
  cases h1:((aC l a.1).2 != 0) with
  | true=>rfl
  | false =>
   rw [cond_false]
   cases h2:((aL l ((aC l a.1).1.1,(aC l a.1).1.2) a.2.2.1 a.2.2.2.2).2 != 0) with
   | true=>rfl
   | false =>
    rw [cond_false]
    cases h3:((X.2:Int) != 0) with
    | true=>rfl
    | false =>
     rw [cond_false]
     cases h4:((eP l depth).2 != 0) with
     | true=>rfl
     | false =>
      have hco:aL l ((aC l a.1).1.1,(aC l a.1).1.2) a.2.2.1 a.2.2.2.2=((aL l ((aC l a.1).1.1,(aC l a.1).1.2) a.2.2.1 a.2.2.2.2).1,0):=Prod.ext rfl (bne_eq_false_iff_eq.1 h2)
      have gx:=bA6 (l:=l) (l':=l) ⟨rfl,fun _=>rfl⟩ hco (aUz _ _ _ _) (by
       have:=bne_eq_false_iff_eq.1 h3
       rw [←hX] at this
       exact this)
      have gy:=bA7 (bne_eq_false_iff_eq.1 h4)
      change GdV l (dN l (((aL l ((aC l a.1).1.1,(aC l a.1).1.2) a.2.2.1 a.2.2.2.2).1.1.1,(aL l ((aC l a.1).1.1,(aC l a.1).1.2) a.2.2.1 a.2.2.2.2).1.1.2),(aL l ((aC l a.1).1.1,(aC l a.1).1.2) a.2.2.1 a.2.2.2.2).1.2.1,(aL l ((aC l a.1).1.1,(aC l a.1).1.2) a.2.2.1 a.2.2.2.2).1.2.2)).1 at gx
      rw [hX] at gx
      rw [cond_false,show((((X.1.length:Int):Int) != (l.length:Int)))=false from bne_eq_false_iff_eq.2 (by rw [gx.1]),cond_false,
       show((((((eP l depth).1.length:Nat):Int):Int) != (l.length:Int)))=false from bne_eq_false_iff_eq.2 (by rw [gy.1]),cond_false]
      refine aIg (S:=jB l a depth) (N:=l.length) (fun i hi=>?_) ?_ l.length 0 _ (by omega) (by omega) (by rw [gx.1];omega)
      ·obtain⟨m1,m2,m3,m4⟩:=gx.meet gy hi
       obtain⟨k1,k2⟩:=bA8 m1 m2 m3 m4
       simp only [jB,fW,hX]
       rw [bQ (by rw [gx.1];omega),cond_true,k2,k1];rfl
      ·simp only [jB,hX]
       rw [cG (by rw [gx.1];omega),cond_false,aQd]
end Go.Proofs.YtlckcjfbjnjfhaaGreat
