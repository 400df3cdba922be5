/-
  Parts of the proofs of the laws: the executor, what functions of the program compute, and that it is what the statements ask. No premise.
-/
import Derived.Test.YtlckcjfbjnjfhaaGreatVPtb6
set_option linter.unusedVariables false
set_option linter.unusedSimpArgs false
set_option maxHeartbeats 4000000
open Int renaming toNat → tN
open Inhabited renaming default → dF
namespace Go.Proofs.YtlckcjfbjnjfhaaGreat
open Go.Proofs Go.Aw Go.RowKit
set_option maxRecDepth 100000
theorem bD4 (u v:P3):dt (cr u v) (cr u v)<=dt u u*dt v v:=by
 have h:=dP (dt u v)
 have e:dt (cr u v) (cr u v)+dt u v*dt u v=dt u u*dt v v:=by
  unfold dt cr;grind
 omega
theorem bAy {a b x:P3} {U:Int} (h1:ds a x<=U)(h2:ds b x<=U):dt (sb a b) (sb a b)<=4*U:=by
 have k:∀s t y:Int,(s - t)*(s - t)<=2*((s - y)*(s - y))+2*((t - y)*(t - y)):=by
  intro s t y
  have:=dP (s+t - 2*y)
  grind
 have k1:=k a.1 b.1 x.1;have k2:=k a.2.1 b.2.1 x.2.1;have k3:=k a.2.2 b.2.2 x.2.2
 unfold ds dt sb at *;simp only at *;omega
theorem aYg {N n:Int} (hN:0<=N/\N<=288230376151711744)(hn:1<=n):∃k:Int,0<=k/\k*k*n<=N/\∀t:Int,0<=t->t*t*n<=N->t<=k:=by
 obtain⟨k,_,hr,k0,_,_,_,_,k5⟩:=iM hN hn
 exact⟨k,k0,k5,fun t ht h=>hr.ge ht (Int.le_ediv_of_mul_le (by omega) h)⟩
section
variable {p : PN} {w U : Int} {x : P3}
theorem aT3 (i i' j:Int):dt (sb (pt p w i j) (pt p w i' j)) (sb (pt p w i j) (pt p w i' j))=(i - i')*(i - i')*dt (sb p.2.1 p.1) (sb p.2.1 p.1):=by
 unfold dt sb pt;grind
theorem bD5 (i j i' j':Int):cr (sb (pt p w i j) (pt p w i' j')) (sb p.2.1 p.1)=(-((j - j')*(mI p).1),-((j - j')*(mI p).2.1),-((j - j')*(mI p).2.2)):=by
 unfold mI cr sb pt;simp only [dE];refine⟨?_,?_,?_⟩<;>grind
theorem bAz (t:Int)(n:P3):dt (-(t*n.1),-(t*n.2.1),-(t*n.2.2)) (-(t*n.1),-(t*n.2.1),-(t*n.2.2))=t*t*dt n n:=by
 unfold dt;grind
noncomputable def aHf (p:PN)(w:Int)(x:P3)(U:Int)(c:Cd):Bool:=decide (fa (nV p w c) x<=U)
theorem aHg {c:Cd} (h:aHf p w x U c=true):ds (nV p w c).1 x<=U/\ds (nV p w c).2.1 x<=U/\ds (nV p w c).2.2 x<=U:=by
 have h:=dL h
 exact⟨Int.le_trans (mX _ x _ (Or.inl rfl)) h,Int.le_trans (mX _ x _ (Or.inr (Or.inl rfl))) h,Int.le_trans (mX _ x _ (Or.inr (Or.inr rfl))) h⟩
theorem aT4 (hp:bdP 512 p) {r:Int} (hr:IsRt (dt (mI p) (mI p)) r)(h1:1<=dt (mI p) (mI p))(hU:0<=U/\U<=300000000) {d:Nat} (hd:d<=3) :
 ((((KL d (0,0,false)).map (one (aHf p w x U))).sum+1) / 2)*r<=4*U:=by
 have hu:=kW hp.2.1 hp.1
 have hub:=(aRo hu hu).2
 have hu0:1<=dt (sb p.2.1 p.1) (sb p.2.1 p.1):=by
  have h0:=mV (sb p.2.1 p.1)
  have hl:=bD4 (sb p.2.1 p.1) (sb p.2.2 p.1)
  rcases Int.lt_or_le (dt (sb p.2.1 p.1) (sb p.2.1 p.1)) 1 with h | h
  ·have e:dt (sb p.2.1 p.1) (sb p.2.1 p.1)=0:=by omega
   rw [e,Int.zero_mul] at hl
   have:dt (mI p) (mI p)=dt (cr (sb p.2.1 p.1) (sb p.2.2 p.1)) (cr (sb p.2.1 p.1) (sb p.2.2 p.1)):=rfl
   omega
  ·exact h
 generalize hw2:dt (sb p.2.1 p.1) (sb p.2.1 p.1)=q at *
 have hq:=cL (a:=1200000000) (b:=3145728) (x:=4*U) (y:=q) (by omega) (by omega)
 have hq0:0<=4*U*q:=Int.mul_nonneg (by omega) (by omega)
 obtain⟨M,M0,M1,M2⟩:=aYg (N:=4*U) (n:=q) (by omega) hu0
 obtain⟨S,S0,S1,S2⟩:=aYg (N:=4*U*q) (n:=dt (mI p) (mI p)) (by omega) h1
 have hc:ct (aHf p w x U) 8<=2*M*S:=by
  refine bD3 M0 S0 (fun i i' j o hi t1 t2=>?_) (fun i i' j j' o o' hj t1 t2=>?_)
  ·refine M2 _ (by omega) ?_
   have c1:=aHg t1;have c2:=aHg t2
   cases o
   ·have:=bAy (a:=pt p w (i'+1) j) (b:=pt p w i j) c2.2.1 c1.1
    rw [aT3,hw2] at this;exact this
   ·have:=bAy (a:=pt p w (i'+1) (j+1)) (b:=pt p w i (j+1)) c2.2.1 c1.2.2
    rw [aT3,hw2] at this;exact this
  ·refine S2 _ (by omega) ?_
   have c1:=aHg t1;have c2:=aHg t2
   have k2:ds (pt p w i' (j'+1)) x<=U:=by cases o'<;>exact c2.2.2
   have k1:∃a,ds (pt p w a j) x<=U:=by
    cases o
    ·exact⟨i,c1.1⟩
    ·exact⟨i+1,c1.1⟩
   obtain⟨a,k1⟩:=k1
   have h4:=bAy k2 k1
   have h5:=bD4 (sb (pt p w i' (j'+1)) (pt p w a j)) (sb p.2.1 p.1)
   rw [bD5,bAz,hw2] at h5
   exact Int.le_trans h5 (Int.mul_le_mul_of_nonneg_right h4 (by omega))
 have hk:=bD2 (aHf p w x U) hd
 have hk0:=aMk (aHf p w x U) (KL d (0,0,false))
 generalize ((KL d (0,0,false)).map (one (aHf p w x U))).sum=k at *
 have e1:2*M*S=2*(M*S):=by rw [Int.mul_assoc]
 have hms:0<=M*S:=Int.mul_nonneg M0 S0
 have h3:(k+1) / 2<=M*S:=by omega
 refine Int.le_trans (Int.mul_le_mul_of_nonneg_right h3 hr.1) ?_
 have e2:(M*S*r)*(M*S*r)*q<=(4*U)*(4*U)*q:=by
  have f1:(M*S*r)*(M*S*r)*q=(M*M*q)*(S*S*(r*r)):=by grind
  have f2:(4*U)*(4*U)*q=(4*U)*(4*U*q):=by grind
  rw [f1,f2]
  have f3:S*S*(r*r)<=S*S*dt (mI p) (mI p):=Int.mul_le_mul_of_nonneg_left hr.2.1 (Int.mul_nonneg S0 S0)
  exact Int.mul_le_mul M1 (Int.le_trans f3 S1) (Int.mul_nonneg (Int.mul_nonneg S0 S0) (Int.mul_nonneg hr.1 hr.1)) (by omega)
 have e3:=Int.le_of_mul_le_mul_right e2 (by omega)
 rcases Int.lt_or_le (4*U) (M*S*r) with h | h
 ·have:=Int.mul_le_mul (show 4*U+1<=M*S*r by omega) (show 4*U+1<=M*S*r by omega) (by omega) (by omega)
  have e:(4*U+1)*(4*U+1)=(4*U)*(4*U)+8*U+1:=by grind
  omega
 ·exact h
end
def cnU (l:List Int)(U:Int):Int:=(l.map fun u=>if u<=U then(1:Int) else 0).sum
def A32:List Int:=[398942,282095,230330,199471,178413,162868,150786,141048,132981,126157,120286,115165,110647,106622,103007,99736,96758,94032,91524,89207,87057,85055,83186,81434,79789,78239,76777,75393,74082,72837,71653,70524]
def al (k:Nat):Int:=A32.getD ((k+1) / 2 - 1) 0
def yW:Nat->Int
 | 0=>0
 | k+1=>yW k+al (k+1)
theorem bD6:∀k:Nat,k < 64->0<=al (k+1)/\512000000000000<=al (k+1)*al (k+1)*(((k+2) / 2:Nat):Int)*3217:=by decide +kernel
theorem aT5:∀(l:List Int),l≠[]->∃u∈l,∀y∈l,y<=u
 | [u],_=>⟨u,by simp,fun y hy=>by simp at hy;omega⟩
 | u::v::l,_=>by
  obtain⟨z,hz,h⟩:=aT5 (v::l) (by simp)
  by_cases hc:u<=z
  ·exact⟨z,List.mem_cons_of_mem _ hz,fun y hy=>by
    rcases List.mem_cons.1 hy with rfl | hy
    ·exact hc
    ·exact h y hy⟩
  ·exact⟨u,List.mem_cons_self,fun y hy=>by
    rcases List.mem_cons.1 hy with rfl | hy
    ·exact Int.le_refl _
    ·have:=h y hy;omega⟩
theorem aOo {U:Int}:∀{l:List Int},(∀y∈l,y<=U)->cnU l U=(l.length:Nat)
 | [],_=>rfl
 | u::l,h=>by
  have:=aOo (l:=l) (fun y hy=>h y (List.mem_cons_of_mem _ hy))
  unfold cnU at *
  simp only [List.map_cons,List.sum_cons,if_pos (h u List.mem_cons_self),this,List.length_cons];omega
theorem aT6 {s r R N:Int} {f:Int->Int} (hs:0<=s)(hR:0<=R)(hr:1<=r)(hRr:3217*N<=R*R*(128*r))(hf0:∀u,0<=f u)(hf:∀u,1<=u->f u*f u*u<=s*s*N) :
 ∀(k:Nat) (l:List Int),l.length=k->k<=64->(∀U∈l,(cnU l U+1) / 2*r<=4*U)->1000000*(l.map f).sum<=yW k*(s*R)
 | 0,l,h,_,_=>by
  have:l=[]:=List.length_eq_zero_iff.1 h
  subst this;simp [yW]
 | k+1,l,h,hk,hc=>by
  obtain⟨u,hu,hm⟩:=aT5 l (by intro e;rw [e] at h;cases h)
  have hp:=List.perm_cons_erase hu
  have hlen:(l.erase u).length=k:=by rw [List.length_erase_of_mem hu,h];rfl
  have hsub:∀U,cnU (l.erase u) U<=cnU l U:=by
   intro U
   have e:cnU l U=(if u<=U then 1 else 0)+cnU (l.erase u) U:=by
    unfold cnU
    rw [aDm (hp.map _)];rfl
   rw [e];split<;>omega
  have ih:=aT6 hs hR hr hRr hf0 hf k (l.erase u) hlen (by omega) (fun U hU=>by
   have h1:=hc U (List.mem_of_mem_erase hU)
   have h2:=hsub U
   have:=Int.mul_le_mul_of_nonneg_right (show(cnU (l.erase u) U+1) / 2<=(cnU l U+1) / 2 by omega) (show 0<=r by omega)
   omega)
  have e:(l.map f).sum=f u+((l.erase u).map f).sum:=by rw [aDm (hp.map f)];rfl
  have hcu:=hc u hu
  rw [aOo hm,h] at hcu
  obtain⟨a0,a1⟩:=bD6 k (by omega)
  have hm1:(((k+1:Nat):Int)+1) / 2=(((k+2) / 2:Nat):Int):=by omega
  rw [hm1] at hcu
  generalize hmm:(((k+2) / 2:Nat):Int)=m at *
  have m1:1<=m:=by omega
  have hmr:1<=m*r:=by have:=Int.mul_le_mul m1 hr (by omega) (by omega);omega
  have hu1:1<=u:=by omega
  have hfu:=hf u hu1
  have key:1000000*f u<=al (k+1)*(s*R):=by
   generalize f u=t at *
   have t0:0<=t\/t < 0:=by omega
   have ht:0<=t*t:=dP t
   have hR2:0<=R*R:=dP R
   have hs2:0<=s*s:=dP s
   -- t^2 m r <= 4 s^2 2^40
   have g1:t*t*(m*r)<=4*(s*s*N):=by
    have:=Int.mul_le_mul_of_nonneg_left hcu ht
    have e1:t*t*(4*u)=4*(t*t*u):=by grind
    omega
   -- t^2 m 3217 <= 512 s^2 R^2
   have g2:t*t*m*3217<=512*(s*s)*(R*R):=by
    have h5:=Int.mul_le_mul_of_nonneg_left hRr (show 0<=4*(s*s) by omega)
    have e1:4*(s*s)*(3217*N)=3217*(4*(s*s*N)):=by grind
    have e2:4*(s*s)*(R*R*(128*r))=512*(s*s)*(R*R)*r:=by grind
    have e3:t*t*m*3217*r=3217*(t*t*(m*r)):=by grind
    exact Int.le_of_mul_le_mul_right (a:=r) (by omega) (by omega)
   have g3:(1000000*t)*(1000000*t)*(m*3217)<=(al (k+1)*(s*R))*(al (k+1)*(s*R))*(m*3217):=by
    have e1:(1000000*t)*(1000000*t)*(m*3217)=1000000000000*(t*t*m*3217):=by grind
    have e2:(al (k+1)*(s*R))*(al (k+1)*(s*R))*(m*3217)=(al (k+1)*al (k+1)*m*3217)*((s*s)*(R*R)):=by grind
    have h6:=Int.mul_le_mul_of_nonneg_right a1 (Int.mul_nonneg hs2 hR2)
    have e3:512000000000000*(s*s*(R*R))=1000000000000*(512*(s*s)*(R*R)):=by grind
    omega
   have g4:=Int.le_of_mul_le_mul_right g3 (by omega)
   have hB:0<=al (k+1)*(s*R):=Int.mul_nonneg a0 (Int.mul_nonneg hs hR)
   generalize al (k+1)*(s*R)=B at *
   rcases Int.lt_or_le B (1000000*t) with h | h
   ·have:=Int.mul_le_mul (show B+1<=1000000*t by omega) (show B+1<=1000000*t by omega) (by omega) (by omega)
    have e:(B+1)*(B+1)=B*B+2*B+1:=by grind
    omega
   ·exact h
  rw [e]
  have e5:yW (k+1)*(s*R)=yW k*(s*R)+al (k+1)*(s*R):=by rw [yW,Int.add_mul]
  omega
theorem bD7 (u w:P3):dt u w*dt u w<=dt u u*dt w w:=by
 obtain⟨a,b,c⟩:=u
 obtain⟨x,y,z⟩:=w
 simp only [dt]
 have h1:=dP (a*y - b*x);have h2:=dP (a*z - c*x);have h3:=dP (b*z - c*y)
 have e:(a*a+b*b+c*c)*(x*x+y*y+z*z)=(a*x+b*y+c*z)*(a*x+b*y+c*z)+((a*y - b*x)*(a*y - b*x)+(a*z - c*x)*(a*z - c*x)+(b*z - c*y)*(b*z - c*y)):=by grind
 omega
theorem aYh {a b:Int} (hb:0<=b)(h:a*a<=b*b):a<=b:=by
 rcases Int.lt_or_le b a with h' | h'
 ·have:=Int.mul_le_mul (show b+1<=a by omega) (show b+1<=a by omega) (by omega) (by omega)
  have e:(b+1)*(b+1)=b*b+2*b+1:=by grind
  omega
 ·exact h'
theorem aT7 {u w:P3} {U α η:Int} (hU:0<=U)(ha:0<=α)(he:0<=η)(h1:dt u u*U<=α*α)(h2:dt w w*U<=η*η):dt u w*U<=α*η:=by
 refine aYh (Int.mul_nonneg ha he) ?_
 have c1:=Int.mul_le_mul_of_nonneg_right (bD7 u w) (Int.mul_nonneg hU hU)
 have c2:=Int.mul_le_mul h1 h2 (Int.mul_nonneg (mV w) hU) (Int.mul_nonneg ha ha)
 have e1:dt u w*U*(dt u w*U)=dt u w*dt u w*(U*U):=by grind
 have e2:dt u u*U*(dt w w*U)=dt u u*dt w w*(U*U):=by grind
 have e3:α*α*(η*η)=α*η*(α*η):=by grind
 omega
theorem bD8 {u v w:P3} {U α β η:Int} (hU:0<=U)(ha:0<=α)(hb:0<=β)(he:0<=η)(h1:dt u u*U<=α*α)(h2:dt v v*U<=β*β)(h3:dt w w*U<=η*η) :
 dt (ad (ad u w) v) (ad (ad u w) v)*U<=α*α+β*β+dt w w*U+2*(α*β)+2*(α*η)+2*(β*η):=by
 have c1:=aT7 hU ha hb h1 h2
 have c2:=aT7 hU ha he h1 h3
 have c3:=aT7 hU hb he h2 h3
 have e:dt (ad (ad u w) v) (ad (ad u w) v)*U=dt u u*U+dt v v*U+dt w w*U+2*(dt u v*U)+2*(dt u w*U)+2*(dt v w*U):=by
  simp only [dt,ad];grind
 omega
theorem aYi (α β η:Int):(η+α+β)*(η+α+β)=α*α+β*β+η*η+2*(α*β)+2*(α*η)+2*(β*η):=by grind
theorem bA0 {x y a b:P3} {U α β η:Int} (hU:0<=U)(ha:0<=α)(hb:0<=β)(he:0<=η)(h1:ds a x*U<=α*α)(h2:ds y b*U<=β*β)(h3:(η+α+β)*(η+α+β)<=ds a b*U):η*η<=ds x y*U:=by
 rcases Int.lt_or_le (ds x y*U) (η*η) with h | h
 ·have t:=bD8 (u:=sb a x) (v:=sb y b) (w:=sb x y) hU ha hb he h1 h2 (Int.le_of_lt h)
  have e:ad (ad (sb a x) (sb x y)) (sb y b)=sb a b:=by
   obtain⟨a1,a2,a4⟩:=a;obtain⟨b1,b2,b4⟩:=b;obtain⟨x1,x2,x4⟩:=x;obtain⟨y1,y2,y4⟩:=y
   simp only [ad,sb,dE];omega
  rw [e] at t
  change ds a b*U<=α*α+β*β+ds x y*U+2*(α*β)+2*(α*η)+2*(β*η) at t
  have:=aYi α β η
  omega
 ·exact h
theorem aWz {x y a b:P3} {U α β η:Int} (hU:0<=U)(ha:0<=α)(hb:0<=β)(he:0<=η)(h1:ds x a*U<=α*α)(h2:ds b y*U<=β*β)(h3:ds a b*U<=η*η):ds x y*U<=(η+α+β)*(η+α+β):=by
 have t:=bD8 (u:=sb x a) (v:=sb b y) (w:=sb a b) hU ha hb he h1 h2 h3
 have e:ad (ad (sb x a) (sb a b)) (sb b y)=sb x y:=by
  obtain⟨a1,a2,a4⟩:=a;obtain⟨b1,b2,b4⟩:=b;obtain⟨x1,x2,x4⟩:=x;obtain⟨y1,y2,y4⟩:=y
  simp only [ad,sb,dE];omega
 rw [e] at t
 change ds x y*U<=α*α+β*β+ds a b*U+2*(α*β)+2*(α*η)+2*(β*η) at t
 change ds a b*U<=η*η at h3
 have:=aYi α β η
 omega
theorem aT8 (U:Int):∀l:List Int,0<=cnU l U/\cnU l U<=(l.length:Nat)
 | []=>⟨Int.le_refl _,Int.le_refl _⟩
 | u::l=>by
  have:=aT8 U l
  unfold cnU at *
  simp only [List.map_cons,List.sum_cons,List.length_cons]
  split<;>omega
theorem bA1 (c:Cd):∀d:Nat,(KL d c).length=4 ^ d:=by
 intro d
 induction d generalizing c with
 | zero=>rfl
 | succ d ih=>simp only [KL,List.length_append,ih,Nat.pow_succ];omega
theorem aW0:yW 1*1<=1000000/\yW 4*2<=4000000/\yW 16*4<=16000000/\yW 64*8<=64000000:=by decide +kernel
noncomputable def lsm (p:PN)(x:P3):Int:=((bI 3 p).map fun f=>(qC 8 (fa f (tm 8 x))).1).sum
def MT (s:Int×Int)(m:Int):Prop:=64*s.1<=m/\m<=64*s.2
theorem aDn (a:Nat):∀(b:Nat) (p:PN),bI (a+b) p=(bI a p).flatMap (bI b)
 | 0,p=>by
  show bI a p=(bI a p).flatMap (fun c=>[c])
  simp
 | b+1,p=>by
  rw [←Nat.add_assoc,eR,aDn a b,List.flatMap_assoc]
  exact congrArg (fun f=>(bI a p).flatMap f) (funext fun c=>(eR b c).symm)
theorem aT9 (g:PN->Int)(h:PN->List PN):∀l:List PN,((l.flatMap h).map g).sum=(l.map fun c=>((h c).map g).sum).sum
 | []=>rfl
 | c::l=>by simp only [List.flatMap_cons,List.map_append,List.sum_append,List.map_cons,List.sum_cons,aT9 g h l]
theorem aHh {g:PN->Int} {m:Int}:∀{l:List PN},(∀c∈l,m<=g c)->(l.length:Int)*m<=(l.map g).sum
 | [],_=>by simp
 | c::l,h=>by
  have h1:=aHh (l:=l) (fun c hc=>h c (List.mem_cons_of_mem _ hc))
  have h2:=h c List.mem_cons_self
  rw [show(((c::l).length:Nat):Int)=(l.length:Nat)+1 from by simp,Int.add_mul,Int.one_mul,List.map_cons,List.sum_cons]
  omega
theorem aHi {g:PN->Int} {m:Int}:∀{l:List PN},(∀c∈l,g c<=m)->(l.map g).sum<=(l.length:Int)*m
 | [],_=>by simp
 | c::l,h=>by
  have h1:=aHi (l:=l) (fun c hc=>h c (List.mem_cons_of_mem _ hc))
  have h2:=h c List.mem_cons_self
  rw [show(((c::l).length:Nat):Int)=(l.length:Nat)+1 from by simp,Int.add_mul,Int.one_mul,List.map_cons,List.sum_cons]
  omega
theorem aOp {f g:PN->Int} {k:Int}:∀{l:List PN},(∀c∈l,k*f c<=g c)->k*(l.map f).sum<=(l.map g).sum
 | [],_=>by simp
 | c::l,h=>by
  have h1:=aOp (l:=l) (fun c hc=>h c (List.mem_cons_of_mem _ hc))
  have h2:=h c List.mem_cons_self
  rw [List.map_cons,List.sum_cons,List.map_cons,List.sum_cons,Int.mul_add]
  omega
theorem aOq {f g:PN->Int} {k:Int}:∀{l:List PN},(∀c∈l,g c<=k*f c)->(l.map g).sum<=k*(l.map f).sum
 | [],_=>by simp
 | c::l,h=>by
  have h1:=aOq (l:=l) (fun c hc=>h c (List.mem_cons_of_mem _ hc))
  have h2:=h c List.mem_cons_self
  rw [List.map_cons,List.sum_cons,List.map_cons,List.sum_cons,Int.mul_add]
  omega
theorem aYj (a b:Int)(x:P3):tm a (tm b x)=tm (a*b) x:=by unfold tm;simp only [Int.mul_assoc]
theorem aUa:∀(k:Nat) {m:Int} {c f:PN} (x:P3),bdP m c->m*2 ^ k<=100000->0<=m->f∈bI k c->fa f (tm (2 ^ k) x)<=4 ^ k*fa c x/\4 ^ k*ne c x<=ne f (tm (2 ^ k) x)
 | 0,m,c,f,x,_,_,_,h=>by
  simp only [bI,List.mem_singleton] at h
  subst h
  have e:tm (2 ^ 0) x=x:=by unfold tm;simp
  rw [e]
  simp only [Int.pow_zero,Int.one_mul]
  exact⟨Int.le_refl _,Int.le_refl _⟩
 | k+1,m,c,f,x,hb,hm,h0,hf=>by
  rw [eR,List.mem_flatMap] at hf
  obtain⟨y,hy,hf⟩:=hf
  have hp:(0:Int) < 2 ^ k:=Int.pow_pos (by omega)
  have hle:m*2 ^ k<=m*2 ^ (k+1):=Int.mul_le_mul_of_nonneg_left (by rw [Int.pow_succ];omega) h0
  have hyb:=(rW k hb (by omega) h0 hy).mono (show m*2 ^ k<=100000 by omega)
  obtain⟨i1,i2⟩:=aUa k x hb (by omega) h0 hy
  have g1:=aVp (x:=tm (2 ^ k) x) hyb hf
  have g2:=aVq (x:=tm (2 ^ k) x) hyb hf
  have e0:(2:Int)*2 ^ k=2 ^ (k+1):=by rw [Int.pow_succ,Int.mul_comm]
  rw [aYj,e0] at g1 g2
  have e1:(4:Int) ^ (k+1)*fa c x=4*(4 ^ k*fa c x):=by rw [Int.pow_succ];grind
  have e2:(4:Int) ^ (k+1)*ne c x=4*(4 ^ k*ne c x):=by rw [Int.pow_succ];grind
  rw [e1,e2]
  exact⟨by omega,by omega⟩
theorem aYk {K n:Int} (hK:0 < K)(hn:1<=n):1<=K*n:=by
 have:=Int.mul_le_mul (show 1<=K by omega) hn (by omega) (by omega)
 omega
theorem aYl {K s n:Int} (hK:0 < K)(e:NN 8=K*NN s)(hn:1<=n):qC 8 (K*n)=qC s n:=by
 have:=aYk hK hn
 unfold qC
 rw [if_neg (by omega),if_neg (by omega),e,aVr hK]
theorem dk {d:Int} (hd:0<=d/\d<=3):∃k:Nat,3=d.toNat+k/\k<=3/\NN 8=4 ^ k*NN (sc d)/\sc d*sc d*4 ^ k=64/\2 ^ k*sc d=8/\(512:Int)*2 ^ k<=100000/\8*8=(2:Int) ^ k*2 ^ k*(sc d*sc d):=by
 rcases d4 hd with rfl | rfl | rfl | rfl
 ·exact⟨3,by decide,by decide,by decide,by decide,by decide,by decide,by decide⟩
 ·exact⟨2,by decide,by decide,by decide,by decide,by decide,by decide,by decide⟩
 ·exact⟨1,by decide,by decide,by decide,by decide,by decide,by decide,by decide⟩
 ·exact⟨0,by decide,by decide,by decide,by decide,by decide,by decide,by decide⟩
theorem aYm (f:PN)(x:P3):0<=fa f x:=Int.le_trans (dH 0 _) (Int.le_trans (dH _ _) (dH _ _))
theorem aUb {p f:PN} (hp:vp p=0)(hf:f∈bI 3 p)(x:P3):1<=fa f x:=by
 have h:=aR7 f x (R:=fa f x) (mX f x _ (Or.inl rfl)) (mX f x _ (Or.inr (Or.inl rfl))) (mX f x _ (Or.inr (Or.inr rfl)))
 rw [aLb (d:=3) (mW hp).1 (by omega) hf] at h
 have h2:=(mW hp).2
 have h3:=aYm f x
 rcases Int.lt_or_le (fa f x) 1 with h4 | h4
 ·rw [show fa f x=0 by omega] at h;omega
 ·exact h4
theorem aW1 {p c:PN} {d:Int} (hp:vp p=0)(hd:0<=d/\d<=3)(hc:c∈bI d.toNat p) {k:Nat} (hk:k<=3)(e8:8*8=(2:Int) ^ k*2 ^ k*(sc d*sc d))(x:P3):((bI k c).map fun f=>(qC 8 (fa f x)).1).sum<=4 ^ k*fP p d:=by
 obtain⟨r,hr,r1,r2,hu,_⟩:=vS hp hd
 obtain⟨hb,hn⟩:=mW hp
 have hcb:=aAu hb hd hc
 have hnc:=aLb hb hd hc
 have hR:=hu.1
 have ho:=aK6 (s:=8) (by omega)
 obtain⟨u1,_⟩:=qV (t:=tB d) (b:=128*r) (by omega)
 have hRr:3217*(1099511627776*(sc d*sc d))<=fP p d*fP p d*(128*r):=by
  have h1:=Int.mul_le_mul_of_nonneg_right hu.2.1 (show 0<=128*r by omega)
  unfold tB at u1 h1
  omega
 generalize fP p d=R at *
 have hs2:(0:Int) < 2 ^ k:=Int.pow_pos (by omega)
 have hsum:((bI k c).map fun f=>(qC 8 (fa f x)).1).sum=(((KL k (0,0,false)).map fun f=>fa (nV c (2 ^ k) f) x).map fun u=>(qC 8 u).1).sum:=by
  rw [List.map_map]
  exact aQc (g:=fun f=>(qC 8 (fa f x)).1) (fun q=>by rw [(aZx q x).1]) (fun q=>by rw [(aZx q x).2.1]) (fun q=>by rw [(aZx q x).2.2]) hcb hk
 rw [hsum]
 have hlen:((KL k (0,0,false)).map fun f=>fa (nV c (2 ^ k) f) x).length=4 ^ k:=by rw [List.length_map,bA1]
 have hk4:k=0\/k=1\/k=2\/k=3:=by omega
 have h64:4 ^ k<=64:=by rcases hk4 with rfl | rfl | rfl | rfl<;>decide
 have key:=aT6 (s:=2 ^ k) (r:=r) (R:=R) (f:=fun u=>(qC 8 u).1) (by omega) hR r1 hRr (fun u=>ho.lo u) (fun u hu=>by
  unfold qC
  rw [if_neg (by omega)]
  obtain⟨j,hj,_,_,_,_,_,_,k5⟩:=iM (aCj (s:=8) (by omega)) hu
  unfold inv
  simp only
  rw [hj]
  have e9:2 ^ k*2 ^ k*(1099511627776*(sc d*sc d))=NN 8:=by
   rw [show(2:Int) ^ k*2 ^ k*(1099511627776*(sc d*sc d))=2 ^ k*2 ^ k*(sc d*sc d)*1099511627776 by grind,←e8];rfl
  rw [e9];exact k5) (4 ^ k) _ hlen h64 (fun U hU=>by
  obtain⟨f,_,hf⟩:=List.mem_map.1 hU
  have hU0:0<=U:=by rw [←hf];exact aYm _ _
  by_cases hbig:U<=300000000
  ·have h:=aT4 (p:=c) (w:=2 ^ k) (x:=x) hcb (by rw [hnc];exact hr) (by rw [hnc];exact hn) ⟨hU0,hbig⟩ (d:=k) hk
   have e:cnU ((KL k (0,0,false)).map fun f=>fa (nV c (2 ^ k) f) x) U=((KL k (0,0,false)).map (one (aHf c (2 ^ k) x U))).sum:=by
    unfold cnU
    rw [List.map_map]
    congr 1
    refine List.map_congr_left (fun f _=>?_)
    show(if fa (nV c (2 ^ k) f) x<=U then(1:Int) else 0)=one (aHf c (2 ^ k) x U) f
    unfold one aHf
    by_cases h:fa (nV c (2 ^ k) f) x<=U
    ·rw [if_pos h,bG h];rfl
    ·rw [if_neg h,cC h];rfl
   rw [e];exact h
  ·have h:=aT8 U ((KL k (0,0,false)).map fun f=>fa (nV c (2 ^ k) f) x)
   rw [hlen] at h
   have h2:(cnU ((KL k (0,0,false)).map fun f=>fa (nV c (2 ^ k) f) x) U+1) / 2<=32:=by omega
   have:=Int.mul_le_mul_of_nonneg_right h2 (show 0<=r by omega)
   omega)
 generalize (((KL k (0,0,false)).map fun f=>fa (nV c (2 ^ k) f) x).map fun u=>(qC 8 u).1).sum=v at *
 obtain⟨s0,s1,s2,s3⟩:=aW0
 have fin:yW (4 ^ k)*2 ^ k<=1000000*4 ^ k:=by
  rcases hk4 with rfl | rfl | rfl | rfl
  ·exact s0
  ·exact s1
  ·exact s2
  ·exact s3
 have h1:=Int.mul_le_mul_of_nonneg_right fin hR
 have e1:yW (4 ^ k)*2 ^ k*R=yW (4 ^ k)*(2 ^ k*R):=Int.mul_assoc _ _ _
 have e2:1000000*4 ^ k*R=1000000*(4 ^ k*R):=Int.mul_assoc _ _ _
 omega
theorem bA2 (c q:PN):fa c q.1<=fa3 c q:=by
 obtain⟨h1,h2,h3⟩:=aK8 c q
 exact kK (kK (kK (Int.le_trans (mV _) h1) h1) h2) h3
theorem bA3 (c q:PN):ne3 c q<=ne c q.1:=by
 have h:=in3 (c:=q) (a:=q.1) (Or.inl rfl)
 have gm:∀e f l h x:Int,l<=x->x<=h->gp e f l h*gp e f l h<=gp e f x x*gp e f x x:=by
  intro e f l h x e1 e2
  have:gp e f l h<=gp e f x x:=by unfold gp mx;(repeat' split)<;>omega
  exact Int.mul_le_mul this this (aCg _ _ _ _) (aCg _ _ _ _)
 exact Int.add_le_add (Int.add_le_add (gm _ _ _ _ _ h.1 h.2.1) (gm _ _ _ _ _ h.2.2.1 h.2.2.2.1)) (gm _ _ _ _ _ h.2.2.2.2.1 h.2.2.2.2.2)
section
variable {p q c : PN} {d : Int}
theorem aOr (hp:vp p=0)(hd:0<=d/\d<=3)(hc:c∈bI d.toNat p) {k:Nat} (h3:3=d.toNat+k)(eN:NN 8=4 ^ k*NN (sc d))(e8:2 ^ k*sc d=8)(hm:(512:Int)*2 ^ k<=100000) {f:PN} (hf:f∈bI k c) :
 bLo d (tmP (sc d) q) c<=(qC 8 (fa f (tm 8 q.1))).1/\(0 < ne3 c (tmP (sc d) q)->(qC 8 (fa f (tm 8 q.1))).1<=(qC (sc d) (ne3 c (tmP (sc d) q))).2):=by
 have hcb:=aAu (mW hp).1 hd hc
 have hfp:f∈bI 3 p:=by rw [h3,aDn];exact List.mem_flatMap.2 ⟨c,hc,hf⟩
 have h1:=aUb hp hfp (tm 8 q.1)
 obtain⟨g1,g2⟩:=aUa k (tm (sc d) q.1) hcb hm (by omega) hf
 rw [aYj,e8] at g1 g2
 have hK:(0:Int) < 4 ^ k:=Int.pow_pos (by omega)
 have ho:=aK6 (s:=8) (by omega)
 have a1:fa c (tm (sc d) q.1)<=fa3 c (tmP (sc d) q):=bA2 c (tmP (sc d) q)
 have a2:ne3 c (tmP (sc d) q)<=ne c (tm (sc d) q.1):=bA3 c (tmP (sc d) q)
 have hc4:=Int.mul_le_mul_of_nonneg_left a1 (Int.le_of_lt hK)
 have hc5:=Int.mul_le_mul_of_nonneg_left a2 (Int.le_of_lt hK)
 constructor
 ·have h4:1<=fa3 c (tmP (sc d) q):=by
   rcases Int.lt_or_le (fa3 c (tmP (sc d) q)) 1 with h | h
   ·have:=Int.mul_le_mul_of_nonneg_left (show fa3 c (tmP (sc d) q)<=0 by omega) (Int.le_of_lt hK);omega
   ·exact h
  unfold bLo
  rw [←aYl hK eN h4]
  exact ho.mono _ _ h1 (by omega)
 ·intro hz
  have h5:=aYk hK (show 1<=ne3 c (tmP (sc d) q) by omega)
  have h6:=(bCq f (tm 8 q.1)).2
  rw [←aYl hK eN (show 1<=ne3 c (tmP (sc d) q) by omega)]
  refine Int.le_trans (ho.mono (ne f (tm 8 q.1)) _ (by omega) h6) (Int.le_trans (ho.le _) ?_)
  unfold qC
  rw [if_neg (by omega),if_neg (by omega)]
  exact aIv (by decide) h5 (by omega)
theorem bA4 (hp:vp p=0)(hd:0<=d/\d<=3):MT (aGi p (tmP (sc d) q) d) (lsm p q.1):=by
 obtain⟨k,h3,hk,eN,e64,e8,hm,e88⟩:=dk hd
 have hK:(0:Int) < 4 ^ k:=Int.pow_pos (by omega)
 have hn:=qU d
 have hl:∀c:PN,(((bI k c).length:Nat):Int)=4 ^ k:=fun c=>by rw [vQ];simp
 have hsum:lsm p q.1=((bI d.toNat p).map fun c=>((bI k c).map fun f=>(qC 8 (fa f (tm 8 q.1))).1).sum).sum:=by
  unfold lsm
  rw [h3,aDn,aT9]
 have hlo:4 ^ k*((bI d.toNat p).map (bLo d (tmP (sc d) q))).sum<=lsm p q.1:=by
  rw [hsum]
  refine aOp (fun c hc=>?_)
  rw [←hl c]
  exact aHh (fun f hf=>(aOr hp hd hc h3 eN e8 hm hf).1)
 have hhi:lsm p q.1<=4 ^ k*((bI d.toNat p).map (bHi (fP p d) d (tmP (sc d) q))).sum:=by
  rw [hsum]
  refine aOq (fun c hc=>?_)
  have hr:=aW1 hp hd hc hk e88 (tm 8 q.1)
  unfold bHi
  split
  ·rename_i hz
   split
   ·rw [←hl c]
    exact aHi (fun f hf=>(aOr hp hd hc h3 eN e8 hm hf).2 hz)
   ·exact hr
  ·exact hr
 unfold aGi MT
 rw [aGk]
 simp only [avg,Int.zero_add]
 generalize ((bI d.toNat p).map (bLo d (tmP (sc d) q))).sum=A at *
 generalize ((bI d.toNat p).map (bHi (fP p d) d (tmP (sc d) q))).sum=B at *
 have i1:=Int.ediv_mul_le A (show sc d*sc d≠0 by omega)
 have i2:=Int.ediv_mul_le (-B) (show sc d*sc d≠0 by omega)
 have j1:=Int.mul_le_mul_of_nonneg_left i1 (Int.le_of_lt hK)
 have j2:=Int.mul_le_mul_of_nonneg_left i2 (Int.le_of_lt hK)
 have e1:4 ^ k*(A / (sc d*sc d)*(sc d*sc d))=64*(A / (sc d*sc d)):=by rw [←e64];grind
 have e2:4 ^ k*(-B / (sc d*sc d)*(sc d*sc d))=64*(-B / (sc d*sc d)):=by rw [←e64];grind
 have e3:4 ^ k*-B=-(4 ^ k*B):=by grind
 omega
end
theorem aQd {n:Int} (h0:0<=n)(h:n<=288230376151711744):0<=gU n/\n<=gU n*gU n/\(gU n=mJ n\/gU n=mJ n+1):=by
 have r1:=yJ h0 (by omega)
 have hl:=r1.le (m:=536870912) (by omega) (by omega)
 have hn:=r1.1
 have hq:=zN (a:=mJ n) hn (by omega)
 have h2:=r1.2.2
 unfold gU
 rw [aH (n:=mJ n*mJ n) (by omega) (by omega),aH (n:=mJ n+1) (by omega) (by omega),Bool.cond_eq_ite]
 split
 ·exact⟨by omega,by omega,.inr rfl⟩
 ·rename_i hc
  exact⟨hn,by simpa using hc,.inl rfl⟩
def InB (c:P3)(R:Int)(p:PN):Prop:=ds p.1 c<=R/\ds p.2.1 c<=R/\ds p.2.2 c<=R
theorem aOs (s:Int)(a b:P3):ds (tm s a) (tm s b)=s*s*ds a b:=by unfold ds dt sb tm;grind
theorem bA5 {p f:PN} {c:P3} {R:Int} (hp:bdP 64 p)(hf:f∈bI 3 p)(h:InB c R p):InB (tm 8 c) (64*R) f:=by
 obtain⟨a1,a2,a4⟩:=aJy 3 (m:=64) hp (by decide) (by decide) hf
 have key:∀y,aHc (2 ^ 3) p y->ds y (tm 8 c)<=64*R:=fun y hy=>by
  have e:(2:Int) ^ 3=8:=by decide
  rw [e] at hy
  refine aWy (by omega) hy ?_ ?_ ?_<;>rw [aOs]
  ·have:=h.1;omega
  ·have:=h.2.1;omega
  ·have:=h.2.2;omega
 exact⟨key _ a1,key _ a2,key _ a4⟩
theorem bD9 (c:PN)(x:P3):fa c x=0\/fa c x=ds c.1 x\/fa c x=ds c.2.1 x\/fa c x=ds c.2.2 x:=by
 unfold fa mx
 (repeat' split)<;>first | exact .inl rfl | exact .inr (.inl rfl) | exact .inr (.inr (.inl rfl)) | exact .inr (.inr (.inr rfl))
theorem aUc {f:PN} {x ca cb:P3} {Ra Rb U A B D h n:Int} (hU:0 < U)(hA:0<=A)(hB:0<=B)(hD:0<=D)(hh:0 < h)(eA:Ra*U<=A*A)(eB:Rb*U<=B*B)(eD:n*U<=D*D)(eh:(h+A+B)*(h+A+B)<=n*U)(hn:ds ca cb=n)
 (hf:InB (tm 8 ca) (64*Ra) f) (hx:ds x (tm 8 cb)<=64*Rb):fa f x*U<=64*((D+(A+B))*(D+(A+B)))/\64*(h*h)<=fa f x*U:=by
 have g1:∀y,ds y (tm 8 ca)<=64*Ra->ds y x*U<=64*((D+(A+B))*(D+(A+B))):=fun y hy=>by
  have t:=aWz (x:=y) (y:=x) (a:=tm 8 ca) (b:=tm 8 cb) (U:=U) (α:=8*A) (β:=8*B) (η:=8*D) (by omega) (by omega) (by omega) (by omega)
   (by
    have:=Int.mul_le_mul_of_nonneg_right hy (show 0<=U by omega);have e:64*Ra*U=64*(Ra*U):=by grind
    have e2:8*A*(8*A)=64*(A*A):=by grind
    omega)
   (by
    rw [aNl];have:=Int.mul_le_mul_of_nonneg_right hx (show 0<=U by omega);have e:64*Rb*U=64*(Rb*U):=by grind
    have e2:8*B*(8*B)=64*(B*B):=by grind
    omega)
   (by
    rw [aOs,hn];have e:8*8*n*U=64*(n*U):=by grind
    have e2:8*D*(8*D)=64*(D*D):=by grind
    omega)
  have e3:(8*D+8*A+8*B)*(8*D+8*A+8*B)=64*((D+(A+B))*(D+(A+B))):=by grind
  omega
 constructor
 ·have h0:0<=(D+(A+B))*(D+(A+B)):=dP _
  rcases bD9 f x with e | e | e | e<;>rw [e]
  ·omega
  ·exact g1 _ hf.1
  ·exact g1 _ hf.2.1
  ·exact g1 _ hf.2.2
 ·have t:=bA0 (x:=f.1) (y:=x) (a:=tm 8 ca) (b:=tm 8 cb) (U:=U) (α:=8*A) (β:=8*B) (η:=8*h) (by omega) (by omega) (by omega) (by omega)
   (by
    rw [aNl];have:=Int.mul_le_mul_of_nonneg_right hf.1 (show 0<=U by omega);have e:64*Ra*U=64*(Ra*U):=by grind
    have e2:8*A*(8*A)=64*(A*A):=by grind
    omega)
   (by
    have:=Int.mul_le_mul_of_nonneg_right hx (show 0<=U by omega);have e:64*Rb*U=64*(Rb*U):=by grind
    have e2:8*B*(8*B)=64*(B*B):=by grind
    omega)
   (by
    rw [aOs,hn];have e:8*8*n*U=64*(n*U):=by grind
    have e2:(8*h+8*A+8*B)*(8*h+8*A+8*B)=64*((h+A+B)*(h+A+B)):=by grind
    omega)
  have e3:8*h*(8*h)=64*(h*h):=by grind
  have h1:=Int.mul_le_mul_of_nonneg_right (mX f x _ (Or.inl rfl)) (show 0<=U by omega)
  omega
theorem bA6 {F U T h:Int} (hU:U=1099511627776)(hF:1<=F)(hT:0 < T)(hh:0 < h)(h1:F*U<=64*(T*T))(h2:64*(h*h)<=F*U):U / T<=(qC 8 F).1/\(qC 8 F).1<=(U+h - 1) / h:=by
 unfold qC
 rw [if_neg (by omega)]
 obtain⟨k,hk,hr,k0,k1,k2,k3,k4,k5⟩:=iM (aCj (s:=8) (by omega)) hF
 unfold inv
 rw [hk]
 simp only
 have eN:NN 8=64*U:=by rw [hU];decide
 rw [eN] at k5 hr
 constructor
 ·have l0:0<=U / T:=Int.ediv_nonneg (by omega) (by omega)
  have l1:=Int.ediv_mul_le U (show T≠0 by omega)
  generalize U / T=L at *
  refine hr.ge l0 (Int.le_ediv_of_mul_le (by omega) ?_)
  have a1:=Int.mul_le_mul l1 l1 (Int.mul_nonneg l0 (by omega)) (by omega)
  have a2:=Int.mul_le_mul_of_nonneg_left h1 (dP L)
  have e1:L*L*(64*(T*T))=64*(L*T*(L*T)):=by grind
  have e2:L*L*(F*U)=L*L*F*U:=by grind
  have e3:64*(U*U)=64*U*U:=by grind
  exact Int.le_of_mul_le_mul_right (show L*L*F*U<=64*U*U by omega) (by omega)
 ·refine Int.le_ediv_of_mul_le hh ?_
  have a1:=Int.mul_le_mul_of_nonneg_left h2 k2
  have a2:=Int.mul_le_mul_of_nonneg_right k5 (show 0<=U by omega)
  have e1:k*k*(64*(h*h))=64*(k*h*(k*h)):=by grind
  have e2:k*k*(F*U)=k*k*F*U:=by grind
  have e3:64*U*U=64*(U*U):=by grind
  have:=aYh (a:=k*h) (b:=U) (by omega) (by omega)
  omega
theorem bA7 {a b:ND} {p:PN} {x:P3} (h:(fsV a b).2=0)(hp:vp p=0)(ha:InB a.2.2.2.2.1 a.2.2.2.2.2 p)(hb:ds x b.2.2.2.2.1<=b.2.2.2.2.2):MT (fsV a b).1 (lsm p x):=by
 unfold fsV at h ⊢
 by_cases hk:knw a/\knw b
 ·rw [if_pos hk] at h ⊢
  simp only at h ⊢
  obtain⟨_,d0,d1⟩:=aWf hk.1.2 hk.2.2
  have na:=hk.1.1;have nb:=hk.2.1
  have uA:=aQd (n:=a.2.2.2.2.2*1099511627776) (by omega) (by omega)
  have uB:=aQd (n:=b.2.2.2.2.2*1099511627776) (by omega) (by omega)
  have uD:=aQd (n:=ds a.2.2.2.2.1 b.2.2.2.2.1*1099511627776) (by omega) (by omega)
  have hA:=rt2 (n:=a.2.2.2.2.2*1099511627776) (by omega) (by omega)
  have hB:=rt2 (n:=b.2.2.2.2.2*1099511627776) (by omega) (by omega)
  have hD:=rt2 (n:=ds a.2.2.2.2.1 b.2.2.2.2.1*1099511627776) (by omega) (by omega)
  have rD:=yJ (n:=ds a.2.2.2.2.1 b.2.2.2.2.1*1099511627776) (by omega) (by omega)
  generalize hn:ds a.2.2.2.2.1 b.2.2.2.2.1=n at *
  generalize gU (a.2.2.2.2.2*1099511627776)=A at *
  generalize gU (b.2.2.2.2.2*1099511627776)=B at *
  generalize gU (n*1099511627776)=D at *
  generalize mJ (n*1099511627776)=d at *
  by_cases hc:d<=A+B
  ·rw [if_pos hc] at h;cases h
  ·rw [if_neg hc]
   generalize hT:D+(A+B)=T
   generalize hh:d - (A+B)=g
   have T0:0 < T:=by omega
   have g0:0 < g:=by omega
   have hb1:1099511627776+d - (A+B) - 1=1099511627776+g - 1:=by omega
   have l0:0<=(1099511627776:Int) / T:=Int.ediv_nonneg (by omega) (by omega)
   have l1:(1099511627776:Int) / T<=1099511627776:=Int.ediv_le_self _ (by omega)
   have m0:0<=(1099511627776+g - 1) / g:=Int.ediv_nonneg (by omega) (by omega)
   have m1:(1099511627776+g - 1) / g<=1099511627776+g - 1:=Int.ediv_le_self _ (by omega)
   rw [hb1,Int.tdiv_eq_ediv_of_nonneg (by omega),Int.tdiv_eq_ediv_of_nonneg (by omega),aH (n:=1099511627776 / T) (by omega) (by omega),aH (n:=(1099511627776+g - 1) / g) (by omega) (by omega)]
   have key:∀f∈bI 3 p,1099511627776 / T<=(qC 8 (fa f (tm 8 x))).1/\(qC 8 (fa f (tm 8 x))).1<=(1099511627776+g - 1) / g:=fun f hf=>by
    have q:=aUc (f:=f) (x:=tm 8 x) (ca:=a.2.2.2.2.1) (cb:=b.2.2.2.2.1) (U:=1099511627776) (A:=A) (B:=B) (D:=D) (h:=g) (n:=n) (by omega) uA.1 uB.1 uD.1 g0 uA.2.1 uB.2.1 uD.2.1
     (by rw [show g+A+B=d by omega];exact rD.2.1) hn (bA5 (mW hp).1 hf ha) (by rw [aOs];omega)
    rw [hT] at q
    exact bA6 rfl (aUb hp hf _) T0 g0 q.1 q.2
   have hl:(((bI 3 p).length:Nat):Int)=64:=by rw [vQ];rfl
   have s1:=aHh (l:=bI 3 p) (fun f hf=>(key f hf).1)
   have s2:=aHi (l:=bI 3 p) (fun f hf=>(key f hf).2)
   rw [hl] at s1 s2
   exact⟨s1,s2⟩
 ·rw [if_neg hk] at h;cases h
end Go.Proofs.YtlckcjfbjnjfhaaGreat
namespace Go.Proofs.YtlckcjfbjnjfhaaGreat
open Go.Proofs Go.Aw Go.RowKit
set_option maxRecDepth 100000
theorem aOt {m:bR} (h:sR m):eU m=0:=by
 have lp:∀(d i n:Nat),d=m.length - i->i<=m.length->d < n->aA (eC m) n (i:Int)=0:=by
  intro d
  induction d with
  | zero =>
   intro i n hd hi hn
   obtain⟨n,rfl⟩:∃k,n=k+1:=⟨n - 1,by omega⟩
   refine aC ?_
   simp only [eC]
   rw [cC (show ¬((i:Nat):Int) < (m.length:Int) by omega),cond_false]
  | succ d ih =>
   intro i n hd hi hn
   obtain⟨n,rfl⟩:∃k,n=k+1:=⟨n - 1,by omega⟩
   obtain⟨g1,g2,g3⟩:=h.2 i (by omega)
   have e:eC m (i:Int)=bif (((uG (m.getD i dF).1):Int) != 0) then .inr (uG (m.getD i dF).1) else bif (!(F59 (m.getD i dF).2 (-100) 100)) then .inr 1 else .inl ((i+1:Nat):Int):=by
    simp only [eC,eX]
    rw [bG (show((i:Nat):Int) < (m.length:Int) by omega),cond_true];rfl
   rw [aK0,g1,aEx,bG (show -100<=(m.getD i dF).2/\(m.getD i dF).2<=100 from⟨g2,g3⟩)] at e
   rw [aB (e.trans rfl)]
   exact ih (i+1) n (by omega) (by omega) (by omega)
 unfold eU
 rw [cC (show ¬(m.length:Int) > 96 by have:=h.1;omega),cond_false]
 exact lp m.length 0 _ (by omega) (by omega) (by omega)
theorem aOu {m:bR} (hm:∀j,j < m.length->bdP 64 (m.getD j dF).1) {c:P3} (hc:bd 64 c):∀(d i n:Nat) (v:Int),d=m.length - i->i<=m.length->d < n ->
 v<=(aA (gM m c) n (v,(i:Int))).1/\∀j,i<=j->j < m.length->InB c (aA (gM m c) n (v,(i:Int))).1 (m.getD j dF).1
 | 0,i,n,v,hd,hi,hn=>by
  obtain⟨n,rfl⟩:∃k,n=k+1:=⟨n - 1,by omega⟩
  have e:gM m c (v,(i:Int))=.inr (v,0):=by
   simp only [gM]
   rw [cC (by omega),cond_false]
  rw [aC e]
  exact⟨Int.le_refl _,fun j h1 h2=>absurd h2 (by omega)⟩
 | d+1,i,n,v,hd,hi,hn=>by
  obtain⟨n,rfl⟩:∃k,n=k+1:=⟨n - 1,by omega⟩
  have hb:=hm i (by omega)
  have e:gM m c (v,(i:Int))=.inl (mx (mx (mx v (ds (m.getD i dF).1.1 c)) (ds (m.getD i dF).1.2.1 c)) (ds (m.getD i dF).1.2.2 c),((i+1:Nat):Int)):=by
   simp only [gM,eX]
   rw [bG (by omega),cond_true,aWg hb.1 hc,aWg hb.2.1 hc,aWg hb.2.2 hc];rfl
  rw [aB e]
  obtain⟨k1,k2⟩:=aOu hm hc d (i+1) n (mx (mx (mx v (ds (m.getD i dF).1.1 c)) (ds (m.getD i dF).1.2.1 c)) (ds (m.getD i dF).1.2.2 c)) (by omega) (by omega) (by omega)
  have m1:=dH v (ds (m.getD i dF).1.1 c);have m2:=nI v (ds (m.getD i dF).1.1 c)
  have m3:=dH (mx v (ds (m.getD i dF).1.1 c)) (ds (m.getD i dF).1.2.1 c);have m4:=nI (mx v (ds (m.getD i dF).1.1 c)) (ds (m.getD i dF).1.2.1 c)
  have m5:=dH (mx (mx v (ds (m.getD i dF).1.1 c)) (ds (m.getD i dF).1.2.1 c)) (ds (m.getD i dF).1.2.2 c);have m6:=nI (mx (mx v (ds (m.getD i dF).1.1 c)) (ds (m.getD i dF).1.2.1 c)) (ds (m.getD i dF).1.2.2 c)
  refine⟨by omega,fun j h1 h2=>?_⟩
  by_cases hj:j=i
  ·subst hj
   exact⟨by omega,by omega,by omega⟩
  ·exact k2 j (by omega) h2
theorem bA8 {m:bR} (hv:sR m) {c:P3} (hc:bd 64 c) {j:Nat} (hj:j < m.length):InB c (jT m c).1 (m.getD j dF).1:=by
 have e:rC m c=0:=by
  unfold rC
  rw [←nO,aOt hv,(zX c).2 hc];rfl
 unfold jT
 rw [e,show(((0:Int):Int) != 0)=false from rfl,cond_false]
 exact(aOu (fun k hk=>aLo hv hk) hc m.length 0 _ 0 (by omega) (by omega) (by omega)).2 j (Nat.zero_le _) hj
theorem kP (l:bR)(ns:List Int):cN l ns=ns.map (fun a=>l.getD (tN a) dF):=aLj l ns
theorem aW2 {l:bR} {ns:List Int} (hv:sR l)(hi:InR l.length ns)(hn:ns.length<=96) {x:Int} (hx:x∈ns):InB (sS l ns) (jT (cN l ns) (sS l ns)).1 (l.getD (tN x) dF).1:=by
 obtain⟨j,hj,rfl⟩:=List.mem_iff_getElem.1 hx
 have hg:∀k,k < ns.length->(cN l ns).getD k dF=l.getD (tN (ns.getD k dF)) dF:=fun k hk=>by
  rw [kP];simp [cV,hk]
 have hlen:(cN l ns).length=ns.length:=by rw [kP];simp
 have hvp:sR (cN l ns):=by
  refine⟨by omega,fun k hk=>?_⟩
  rw [hlen] at hk
  rw [hg k hk]
  have:=hi.at hk
  exact hv.2 _ (by omega)
 have:=bA8 hvp (c:=sS l ns) ⟨pJ hv hi 0,pJ hv hi 1,pJ hv hi 2⟩ (j:=j) (by omega)
 have e:ns.getD j dF=ns[j]:=by rw [cV,List.getElem?_eq_getElem hj];rfl
 rw [hg j hj,e] at this
 exact this
def NBL (l:bR)(ord:List Int)(fr up:Int)(N:NDE):Prop:=(fr<=N.1/\N.1<=N.2.1/\N.2.1<=up)/\∀p:Int,N.1<=p->p < N.2.1->InB N.2.2.2.2.1 N.2.2.2.2.2 (l.getD (tN (ord.getD (tN (p - fr)) dF)) dF).1
theorem aDo {l:List Int} {i:Nat} (h:i < l.length):l.getD i dF∈l:=by
 rw [cV,List.getElem?_eq_getElem h]
 exact List.getElem_mem h
theorem sL {α:Type} [Inhabited α] {a b:List α} {i:Nat} (h:i < a.length):(a++b).getD i dF=a.getD i dF:=by
 rw [cV,List.getElem?_append_left h,←cV]
theorem sM {α:Type} [Inhabited α] {a b:List α} {i:Nat} (h:a.length<=i):(a++b).getD i dF=b.getD (i - a.length) dF:=by
 rw [cV,List.getElem?_append_right h,←cV]
theorem aHj {l:bR} (hv:sR l) {leaf:Int} (hl:1<=leaf):∀(n:Nat) (ns:List Int) (fr a:Int),ns.length < n->InR l.length ns->ns.length<=96->∀N∈(GT l leaf n ns fr a).2,NBL l (GT l leaf n ns fr a).1 fr (fr+ns.length) N
 | 0,_,_,_,h,_,_=>absurd h (fO _)
 | n+1,ns,fr,a,h,hi,hn=>by
  have hroot:∀lt rt:Int,NBL l (GT l leaf (n+1) ns fr a).1 fr (fr+ns.length) (zW l ns fr lt rt):=fun lt rt=>by
   have hp:=aAz l hl (n+1) ns fr a h
   have hlen:=hp.length_eq
   refine⟨⟨Int.le_refl _,by simp only [zW];omega,Int.le_refl _⟩,fun p h1 h2=>?_⟩
   simp only [zW] at h1 h2 ⊢
   exact aW2 hv hi hn (hp.mem_iff.1 (aDo (by omega)))
  intro N hN
  by_cases h0:(ns.length:Int)<=leaf
  ·have hr:=hroot (-1) (-1)
   rw [iZ h0] at hN hr ⊢
   rw [List.mem_singleton.1 hN]
   exact hr
  ·have hr:=hroot
   rw [jA h0] at hN hr ⊢
   have hsl:=jY l (aG l ns) ns
   have hsp:(mM l (aG l ns) ns).Perm ns:=List.mergeSort_perm ns _
   generalize mM l (aG l ns) ns=s at *
   have hd:(ns.length+1) / 2<=ns.length:=by omega
   have i1:InR l.length (s.take ((ns.length+1) / 2)):=fun x hx=>hi x (hsp.mem_iff.1 (List.mem_of_mem_take hx))
   have i2:InR l.length (s.drop ((ns.length+1) / 2)):=fun x hx=>hi x (hsp.mem_iff.1 (List.mem_of_mem_drop hx))
   have l1:(s.take ((ns.length+1) / 2)).length=(ns.length+1) / 2:=by rw [List.length_take];omega
   have l2:(s.drop ((ns.length+1) / 2)).length=ns.length - (ns.length+1) / 2:=by rw [List.length_drop];omega
   have g1:=yC l hl n (s.take ((ns.length+1) / 2)) fr (a+1) (by omega)
   rcases List.mem_cons.1 hN with rfl | hN
   ·exact hr _ _
   ·rcases List.mem_append.1 hN with hN | hN
    ·obtain⟨⟨b1,b2,b3⟩,b4⟩:=aHj hv hl n _ _ _ (by omega) i1 (by omega) N hN
     refine⟨⟨b1,b2,by omega⟩,fun p h1 h2=>?_⟩
     have:=b4 p h1 h2
     simp only
     rw [sL (by omega)]
     exact this
    ·obtain⟨⟨b1,b2,b3⟩,b4⟩:=aHj hv hl n _ _ _ (by omega) i2 (by omega) N hN
     refine⟨⟨by omega,b2,by omega⟩,fun p h1 h2=>?_⟩
     have:=b4 p h1 h2
     simp only
     rw [sM (by omega),show tN (p - fr) - (GT l leaf n (s.take ((ns.length+1) / 2)) fr (a+1)).1.length=tN (p - (fr+((ns.length+1) / 2:Nat))) by omega]
     exact this
theorem aOv {l:bR} (hv:sR l) {leaf:Int} (hl:1<=leaf) {N:NDE} (hN:N∈(BT l leaf).2):NBL l (BT l leaf).1 0 l.length N:=by
 unfold BT at hN ⊢
 by_cases h0:l.length=0
 ·rw [if_pos h0] at hN;cases hN
 ·rw [if_neg h0] at hN ⊢
  have:=aHj hv hl (l.length+1) (jF l.length) 0 0 (by rw [dA];omega) (rG _) (by rw [dA];exact hv.1) N hN
  rw [dA,Int.zero_add] at this
  exact this
theorem aYn {l:bR} {d i:Int}:∀{ks:List Int} {v v':List iU},aAm l d ks v i=.inl v'->v'=v++ks.map (fun k=>(btw l d i k).1)/\∀k∈ks,(btw l d i k).2=0
 | [],v,v',h=>by
  unfold aAm fN at h
  cases h
  exact⟨by simp,fun k hk=>(by cases hk)⟩
 | k::ks,v,v',h=>by
  unfold aAm at h
  simp only [fN] at h
  cases hb:((btw l d i k).2 != 0) with
  | true=>rw [hb,cond_true] at h;cases h
  | false =>
   rw [hb,cond_false] at h
   obtain⟨g1,g2⟩:=aYn (ks:=ks) (v:=v++[(btw l d i k).1]) h
   refine⟨by rw [g1];simp,fun x hx=>?_⟩
   rcases List.mem_cons.1 hx with rfl | hx
   ·exact bne_eq_false_iff_eq.1 hb
   ·exact g2 x hx
theorem aOw {l:bR} {d:Int} {ks:List Int}:∀{is:List Int} {v v':List iU},aG3 l d is ks v=.inl v'->v'=v++is.flatMap (fun i=>ks.map (fun k=>(btw l d i k).1))/\∀i∈is,∀k∈ks,(btw l d i k).2=0
 | [],v,v',h=>by
  unfold aG3 fN at h
  cases h
  exact⟨by simp,fun k hk=>(by cases hk)⟩
 | i::is,v,v',h=>by
  unfold aG3 at h
  simp only [fN] at h
  cases hr:aAm l d ks v i with
  | inr e=>rw [hr] at h;cases h
  | inl w =>
   rw [hr] at h
   obtain⟨g1,g2⟩:=aYn hr
   obtain⟨k1,k2⟩:=aOw (is:=is) (v:=w) h
   refine⟨by rw [k1,g1];simp,fun x hx=>?_⟩
   rcases List.mem_cons.1 hx with rfl | hx
   ·exact g2
   ·exact k2 x hx
theorem aJz {l:bR} {t:TR} {d:Int}:∀{bs:List BK5} {out v:List (List iU)},fN (fun(out:List (List iU)) b=>match iP l t d b with | .inl r=>.inl (out++[r]) | .inr e=>.inr e) bs out=(.inl v:List (List iU)⊕Int) ->
 v.length=out.length+bs.length/\(∀j,j < out.length->v.getD j dF=out.getD j dF)/\∀j,j < bs.length->iP l t d (bs.getD j dF)=.inl (v.getD (out.length+j) dF)
 | [],out,v,h=>by
  simp only [fN] at h
  cases h
  exact⟨rfl,fun j _=>rfl,fun j hj=>absurd hj (fO _)⟩
 | b::bs,out,v,h=>by
  simp only [fN] at h
  cases hc:iP l t d b with
  | inr e=>rw [hc] at h;cases h
  | inl r =>
   rw [hc] at h
   obtain⟨k1,k2,k3⟩:=aJz (bs:=bs) (out:=out++[r]) (v:=v) h
   rw [List.length_append,List.length_singleton] at k1 k2 k3
   refine⟨by rw [k1,List.length_cons];omega,fun j hj=>by rw [k2 j (by omega),sL hj],fun j hj=>?_⟩
   cases j with
   | zero =>
    have e:=k2 out.length (by omega)
    rw [sM (Nat.le_refl _),Nat.sub_self] at e
    rw [Nat.add_zero,e]
    exact hc
   | succ j =>
    have:=k3 j (by rw [List.length_cons] at hj;omega)
    rw [show out.length+1+j=out.length+(j+1) by omega] at this
    exact this
theorem aUd {α:Type} [Inhabited α] {f:Int->List α} {L:Nat} (hL:∀i,(f i).length=L):∀(is:List Int) (a b:Nat),a < is.length->b < L->(is.flatMap f).getD (a*L+b) dF=(f (is.getD a dF)).getD b dF
 | [],a,b,h,_=>absurd h (fO _)
 | i::is,0,b,_,hb=>by
  rw [List.flatMap_cons,Nat.zero_mul,Nat.zero_add,sL (by rw [hL];exact hb)];rfl
 | i::is,a+1,b,h,hb=>by
  have e:(a+1)*L+b=L+(a*L+b):=by rw [Nat.add_mul,Nat.one_mul];omega
  rw [List.flatMap_cons,e,sM (by rw [hL];omega),hL,Nat.add_sub_cancel_left]
  exact aUd hL is a b (by simpa using h) hb
theorem aFa {L:List Int} {a b p:Int} (h0:0<=a)(h1:a<=p)(h2:p < b)(h3:b<=L.length):(Aw.part L a b).getD (tN (p - a)) dF=L.getD (tN p) dF:=by
 unfold Aw.part
 rw [cV,List.getElem?_take_of_lt (by omega),List.getElem?_drop,show tN a+tN (p - a)=tN p by omega,←cV]
def ixV (far:Bool)(p q L:Int):Nat:=tN (bif far then 0 else p*L+q)
def wV (t:TR)(b:BK5):Int:=(t.2.getD (tN b.1) dF).1
def hi1 (t:TR)(b:BK5):Int:=(t.2.getD (tN b.1) dF).2.1
def pY (t:TR)(b:BK5):Int:=(t.2.getD (tN b.2.1) dF).1
def hi2 (t:TR)(b:BK5):Int:=(t.2.getD (tN b.2.1) dF).2.1
theorem aUe {l:bR} {t:TR} {d:Int} {b:BK5} {r:List iU} (h:iP l t d b=.inl r)(a1:0<=wV t b/\hi1 t b<=t.1.length)(a2:0<=pY t b/\hi2 t b<=t.1.length) {p q:Int} (hp:wV t b<=p/\p < hi1 t b)(hq:pY t b<=q/\q < hi2 t b) :
 (b.2.2=true/\(fsV (t.2.getD (tN b.1) dF) (t.2.getD (tN b.2.1) dF)).2=0/\r.getD (ixV b.2.2 (p - wV t b) (q - pY t b) (hi2 t b - pY t b)) dF=(fsV (t.2.getD (tN b.1) dF) (t.2.getD (tN b.2.1) dF)).1) \/
 (b.2.2=false/\(btw l d (t.1.getD (tN p) dF) (t.1.getD (tN q) dF)).2=0/\r.getD (ixV b.2.2 (p - wV t b) (q - pY t b) (hi2 t b - pY t b)) dF=(btw l d (t.1.getD (tN p) dF) (t.1.getD (tN q) dF)).1):=by
 unfold iP at h
 unfold ixV
 cases hf:b.2.2 with
 | true =>
  rw [hf,cond_true] at h
  cases hz:((fsV (t.2.getD (tN b.1) dF) (t.2.getD (tN b.2.1) dF)).2 != 0) with
  | true=>rw [hz,cond_true] at h;cases h
  | false =>
   rw [hz,cond_false] at h
   cases h
   exact .inl ⟨rfl,bne_eq_false_iff_eq.1 hz,rfl⟩
 | false =>
  rw [hf,cond_false] at h
  obtain⟨g1,g2⟩:=aOw h
  rw [List.nil_append] at g1
  have e1:=aFa (L:=t.1) (a:=wV t b) (b:=hi1 t b) (p:=p) a1.1 hp.1 hp.2 a1.2
  have e2:=aFa (L:=t.1) (a:=pY t b) (b:=hi2 t b) (p:=q) a2.1 hq.1 hq.2 a2.2
  have n1:=Aw.part_len (l:=t.1) (a:=wV t b) (b:=hi1 t b) (by omega)
  have n2:=Aw.part_len (l:=t.1) (a:=pY t b) (b:=hi2 t b) (by omega)
  have m1:t.1.getD (tN p) dF∈Aw.part t.1 (wV t b) (hi1 t b):=by rw [←e1];exact aDo (by omega)
  have m2:t.1.getD (tN q) dF∈Aw.part t.1 (pY t b) (hi2 t b):=by rw [←e2];exact aDo (by omega)
  refine .inr ⟨rfl,g2 _ m1 _ m2,?_⟩
  have hL:((tN (p - wV t b)*(Aw.part t.1 (pY t b) (hi2 t b)).length+tN (q - pY t b):Nat):Int)=(p - wV t b)*(hi2 t b - pY t b)+(q - pY t b):=by
   rw [Int.natCast_add,Int.natCast_mul,n2,Int.toNat_of_nonneg (by omega),Int.toNat_of_nonneg (by omega),show(((hi2 t b).toNat - (pY t b).toNat:Nat):Int)=hi2 t b - pY t b by omega]
  have hix:tN (bif false then 0 else(p - wV t b)*(hi2 t b - pY t b)+(q - pY t b))=tN (p - wV t b)*(Aw.part t.1 (pY t b) (hi2 t b)).length+tN (q - pY t b):=by
   rw [cond_false,←hL,eX]
  rw [hix,g1]
  refine(aUd (f:=fun i=>(Aw.part t.1 (pY t b) (hi2 t b)).map (fun k=>(btw l d i k).1)) (fun i=>by simp) (Aw.part t.1 (wV t b) (hi1 t b)) _ _ (by omega) (by omega)).trans ?_
  have hm:∀(g:Int->iU) (ks:List Int) (j:Nat),j < ks.length->(ks.map g).getD j dF=g (ks.getD j dF):=fun g ks j hj=>by
   simp [cV,hj]
  rw [e1,hm _ _ _ (by omega),e2]
theorem bEa {G:Nat->Nat->iU->Prop} {t:List (List iU)} {C:Nat->Nat->Prop} {n k0 m0:Nat} {v:iU} (ht:TL n t n)(hk:k0 < n)(hm:m0 < n)(hv:G k0 m0 v)(h:∀k m,C k m->G k m ((t.getD k []).getD m dF)) :
 ∀k m,(C k m\/(k=k0/\m=m0))->G k m (((t.set k0 ((t.getD k0 []).set m0 v)).getD k []).getD m dF):=by
 intro k m hc
 rw [oO]
 by_cases e:k=k0/\k0 < t.length
 ·rw [if_pos e,oO]
  by_cases e2:m=m0/\m0 < (t.getD k0 []).length
  ·rw [if_pos e2,e.1,e2.1];exact hv
  ·rw [if_neg e2]
   have hml:m0 < (t.getD k0 []).length:=by rw [ht.2 k0 hk];exact hm
   rcases hc with hc | hc
   ·rw [←e.1];exact h k m hc
   ·exact absurd ⟨hc.2,hml⟩ e2
 ·rw [if_neg e]
  rcases hc with hc | hc
  ·exact h k m hc
  ·exact absurd ⟨hc.1,by rw [ht.1];exact hk⟩ e
section
variable {G : Nat → Nat → iU → Prop} {l : bR} {o : lI} {j lo hi s b0 b1 c0 c1 c2 c3 c4 c5 c6 c7 : Int} {far : Bool}
theorem aUf {k i s2 pi:Int} (he:EOV l o)(h0:0 < l.length)(hc:0<=c0)(hk:0<=k/\k < l.length)(hs2:s2=c1 - c0)(hpi:0<=pi*(c1 - c0)/\pi*(c1 - c0)+(c1 - c0)<=1000000)
 (hg:∀q,c0<=q->q < c1->G (tN k) (tN (o.1.1.getD (tN q) dF)) ((o.2.2.getD (tN j) dF).getD (ixV far pi (q - c0) (c1 - c0)) dF)) :
 ∀(d n:Nat) (t:List (List iU)) (a q:Int),q+d=c1->c0<=q->d < n->EV l.length t->(a=bif far then 0 else pi*(c1 - c0)+(q - c0))->∃t2,EV l.length t2 /\
   aA (jE l.length o) n (t,j,a,k,j,lo,hi,s,i,c0,c1,s2,q - c0,b0,b1,far,c0,c1,c2,c3,c4,c5,c6,c7)=.inl (t2,j,(bif far then 0 else pi*(c1 - c0)+(c1 - c0)),j,lo,hi,s,i+1,b0,b1,far,c0,c1,c2,c3,c4,c5,c6,c7) /\
   ∀C:Nat->Nat->Prop,(∀x y,C x y->G x y ((t.getD x []).getD y dF))->∀x y,(C x y\/∃q',q<=q'/\q' < c1/\x=tN k/\y=tN (o.1.1.getD (tN q') dF))->G x y ((t2.getD x []).getD y dF)
 | 0,n,t,a,q,hq,hcq,hn,ht,ha=>by
  obtain⟨n,rfl⟩:∃x,n=x+1:=⟨n - 1,by omega⟩
  refine⟨t,ht,?_,fun C hC x y hx=>?_⟩
  ·refine aC ?_
   simp only [jE]
   rw [cC (by omega),cond_false,ha,show q - c0=c1 - c0 by omega]
  ·rcases hx with hx | ⟨q',h1,h2,_⟩
   ·exact hC x y hx
   ·omega
 | d+1,n,t,a,q,hq,hcq,hn,ht,ha=>by
  obtain⟨n,rfl⟩:∃x,n=x+1:=⟨n - 1,by omega⟩
  have hqr:=he.ok.ord.atD (by omega) (tN q)
  rw [eX] at hqr
  have ht2:EV l.length (t.set (tN k) ((t.getD (tN k) []).set (tN (o.1.1.getD (tN q) dF)) ((o.2.2.getD (tN j) dF).getD (tN a) dF))):=ht.put (by omega) (he.vo _ _)
  have ha2:(bif !far then W (a+1) else a)=bif far then 0 else pi*(c1 - c0)+(q+1 - c0):=by
   rw [ha]
   cases far with
   | true=>rfl
   | false =>
    simp only [Bool.not_false,aW]
    rw [aH (by omega) (by omega)];omega
  have e1:jE l.length o (t,j,a,k,j,lo,hi,s,i,c0,c1,s2,q - c0,b0,b1,far,c0,c1,c2,c3,c4,c5,c6,c7) =
   .inl (t.set (tN k) ((t.getD (tN k) []).set (tN (o.1.1.getD (tN q) dF)) ((o.2.2.getD (tN j) dF).getD (tN a) dF)),j,(bif !far then W (a+1) else a),k,j,lo,hi,s,i,c0,c1,s2,q+1 - c0,b0,b1,far,c0,c1,c2,c3,c4,c5,c6,c7):=by
   simp only [jE,pO,lC]
   rw [bG (by omega),cond_true,show tN c0+tN (q - c0)=tN q from by omega,show q - c0+1=q+1 - c0 from by omega]
   cases far<;>rfl
  obtain⟨t2,f1,f2,f3⟩:=aUf (i:=i) he h0 hc hk hs2 hpi hg d n _ _ (q+1) (by omega) (by omega) (by omega) ht2 ha2
  refine⟨t2,f1,by rw [aB e1];exact f2,fun C hC x y hx=>?_⟩
  have hv:=hg q hcq (by omega)
  have hix:ixV far pi (q - c0) (c1 - c0)=tN a:=by rw [ha];rfl
  rw [hix] at hv
  refine f3 (fun x y=>C x y\/(x=tN k/\y=tN (o.1.1.getD (tN q) dF))) (bEa ht.tl (by omega) (by omega) hv hC) x y ?_
  rcases hx with hx | ⟨q',h1,h2,h3,h4⟩
  ·exact .inl (.inl hx)
  ·by_cases hqq:q'=q
   ·subst hqq;exact .inl (.inr ⟨h3,h4⟩)
   ·exact .inr ⟨q',by omega,h2,h3,h4⟩
theorem aUg (he:EOV l o)(h0:0 < l.length)(hc:0<=c0/\c0<=c1/\c1 - c0<=96)(hlo:0<=lo/\hi - lo<=96)(hs:s=hi - lo)
 (hg:∀p q,lo<=p->p < hi->c0<=q->q < c1->G (tN (o.1.1.getD (tN p) dF)) (tN (o.1.1.getD (tN q) dF)) ((o.2.2.getD (tN j) dF).getD (ixV far (p - lo) (q - c0) (c1 - c0)) dF)) :
 ∀(d n:Nat) (t:List (List iU)) (a p:Int),p+d=hi->lo<=p->d < n->EV l.length t->(a=bif far then 0 else(p - lo)*(c1 - c0))->∃t2,EV l.length t2 /\
   aA (iC l.length o) n (t,j,a,j,lo,hi,s,p - lo,b0,b1,far,c0,c1,c2,c3,c4,c5,c6,c7)=.inl (t2,j+1) /\
   ∀C:Nat->Nat->Prop,(∀x y,C x y->G x y ((t.getD x []).getD y dF))->∀x y,(C x y\/∃p' q',p<=p'/\p' < hi/\c0<=q'/\q' < c1/\x=tN (o.1.1.getD (tN p') dF)/\y=tN (o.1.1.getD (tN q') dF))->G x y ((t2.getD x []).getD y dF)
 | 0,n,t,a,p,hq,hcq,hn,ht,ha=>by
  obtain⟨n,rfl⟩:∃x,n=x+1:=⟨n - 1,by omega⟩
  refine⟨t,ht,?_,fun C hC x y hx=>?_⟩
  ·refine aC ?_
   simp only [iC]
   rw [cC (by omega),cond_false]
  ·rcases hx with hx | ⟨p',q',h1,h2,_⟩
   ·exact hC x y hx
   ·omega
 | d+1,n,t,a,p,hq,hcq,hn,ht,ha=>by
  obtain⟨n,rfl⟩:∃x,n=x+1:=⟨n - 1,by omega⟩
  have hkr:=he.ok.ord.atD (by omega) (tN p)
  rw [eX] at hkr
  have hm1:=Int.mul_le_mul (show p - lo<=96 by omega) (show c1 - c0<=96 by omega) (by omega) (by omega)
  have hm0:=Int.mul_nonneg (show 0<=p - lo by omega) (show 0<=c1 - c0 by omega)
  obtain⟨t2,g1,g2,g3⟩:=aUf (G:=G) (lo:=lo) (hi:=hi) (i:=p - lo) (s:=s) (b0:=b0) (b1:=b1) (c1:=c1) (c2:=c2) (c3:=c3) (c4:=c4) (c5:=c5) (c6:=c6) (c7:=c7) (far:=far) (j:=j) (k:=o.1.1.getD (tN p) dF) (pi:=p - lo) he h0 hc.1 hkr (s2:=((tN c1 - tN c0:Nat):Int)) (by omega) (by omega) (fun q h1 h2=>hg p q hcq (by omega) h1 h2)
   (tN (c1 - c0)) (tN (((tN c1 - tN c0:Nat):Int) - 0)+1) t a c0 (by omega) (Int.le_refl _) (by omega) ht (by rw [ha,Int.sub_self,Int.add_zero])
  rw [Int.sub_self] at g2
  have e1:iC l.length o (t,j,a,j,lo,hi,s,p - lo,b0,b1,far,c0,c1,c2,c3,c4,c5,c6,c7)=.inl (t2,j,(bif far then 0 else(p - lo)*(c1 - c0)+(c1 - c0)),j,lo,hi,s,p+1 - lo,b0,b1,far,c0,c1,c2,c3,c4,c5,c6,c7):=by
   simp only [iC]
   rw [bG (by omega),cond_true,show tN lo+tN (p - lo)=tN p from by omega,g2,show p - lo+1=p+1 - lo from by omega]
  obtain⟨t3,f1,f2,f3⟩:=aUg he h0 hc hlo hs hg d n t2 (bif far then 0 else(p - lo)*(c1 - c0)+(c1 - c0)) (p+1) (by omega) (by omega) (by omega) g1 (by rw [show p+1 - lo=p - lo+1 by omega,Int.add_mul,Int.one_mul])
  refine⟨t3,f1,by rw [aB e1];exact f2,fun C hC x y hx=>?_⟩
  refine f3 (fun x y=>C x y\/∃q',c0<=q'/\q' < c1/\x=tN (o.1.1.getD (tN p) dF)/\y=tN (o.1.1.getD (tN q') dF)) (fun x y h=>g3 C hC x y h) x y ?_
  rcases hx with hx | ⟨p',q',h1,h2,h3,h4,h5,h6⟩
  ·exact .inl (.inl hx)
  ·by_cases hpp:p'=p
   ·subst hpp;exact .inl (.inr ⟨q',h3,h4,h5,h6⟩)
   ·exact .inr ⟨p',q',by omega,h2,h3,h4,h5,h6⟩
end
def aQe (t:TR)(b:BK5)(p q:Int):Prop:=(wV t b<=p/\p < hi1 t b)/\(pY t b<=q/\q < hi2 t b)
def GdB (G:Nat->Nat->iU->Prop)(o:lI)(j:Nat):Prop:=∀p q,aQe o.1 (o.2.1.getD j dF) p q->G (tN (o.1.1.getD (tN p) dF)) (tN (o.1.1.getD (tN q) dF))
 ((o.2.2.getD j dF).getD (ixV (o.2.1.getD j dF).2.2 (p - wV o.1 (o.2.1.getD j dF)) (q - pY o.1 (o.2.1.getD j dF)) (hi2 o.1 (o.2.1.getD j dF) - pY o.1 (o.2.1.getD j dF))) dF)
theorem aUh {G:Nat->Nat->iU->Prop} {l:bR} {o:lI} (he:EOV l o)(hg:∀j,j < o.2.1.length->GdB G o j):∀(d n:Nat) (t:List (List iU)) (j:Int),j+d=o.2.1.length->0<=j->d < n->EV l.length t->∃t2,EV l.length t2 /\
 aA (gF l.length o) n (t,j)=t2 /\
 ∀C:Nat->Nat->Prop,(∀x y,C x y->G x y ((t.getD x []).getD y dF))->∀x y,(C x y\/∃(k:Nat) (p q:Int),j<=k/\k < o.2.1.length/\aQe o.1 (o.2.1.getD k dF) p q/\x=tN (o.1.1.getD (tN p) dF)/\y=tN (o.1.1.getD (tN q) dF))->G x y ((t2.getD x []).getD y dF)
 | 0,n,t,j,hj,h0,hn,ht=>by
  obtain⟨n,rfl⟩:∃x,n=x+1:=⟨n - 1,by omega⟩
  refine⟨t,ht,?_,fun C hC x y hx=>?_⟩
  ·refine aC ?_
   simp only [gF]
   rw [cC (by omega),cond_false];rfl
  ·rcases hx with hx | ⟨k,p,q,h1,h2,_⟩
   ·exact hC x y hx
   ·omega
 | d+1,n,t,j,hj,h0,hn,ht=>by
  obtain⟨n,rfl⟩:∃x,n=x+1:=⟨n - 1,by omega⟩
  have hb:=he.ok.blk j h0 (by omega)
  have hl:=he.ok.nz (by omega)
  have hol:=he.ok.ol
  have hgj:=hg (tN j) (by omega)
  unfold GdB aQe wV hi1 pY hi2 at hgj
  obtain⟨b1,b2,b3,b4,_⟩:=hb
  have hib:∀p q,aQe o.1 (o.2.1.getD (tN j) dF) p q↔((o.1.2.getD (tN (o.2.1.getD (tN j) dF).1) dF).1<=p/\p < (o.1.2.getD (tN (o.2.1.getD (tN j) dF).1) dF).2.1)/\((o.1.2.getD (tN (o.2.1.getD (tN j) dF).2.1) dF).1<=q/\q < (o.1.2.getD (tN (o.2.1.getD (tN j) dF).2.1) dF).2.1):=fun p q=>Iff.rfl
  generalize hN1:o.1.2.getD (tN (o.2.1.getD (tN j) dF).1) dF=N1 at b3 hgj hib
  generalize hN2:o.1.2.getD (tN (o.2.1.getD (tN j) dF).2.1) dF=N2 at b4 hgj hib
  obtain⟨t2,g1,g2,g3⟩:=aUg (G:=G) (b0:=(o.2.1.getD (tN j) dF).1) (b1:=(o.2.1.getD (tN j) dF).2.1) (far:=(o.2.1.getD (tN j) dF).2.2) (c0:=N2.1) (c1:=N2.2.1) (c2:=N2.2.2.1) (c3:=N2.2.2.2.1) (c4:=N2.2.2.2.2.1.1) (c5:=N2.2.2.2.2.1.2.1) (c6:=N2.2.2.2.2.1.2.2) (c7:=N2.2.2.2.2.2)
   he (by omega) ⟨b4.1,b4.2.1,by omega⟩ (lo:=N1.1) ⟨b3.1,by omega⟩ (s:=((tN N1.2.1 - tN N1.1:Nat):Int)) (hi:=N1.2.1) (by omega) (j:=j) (fun p q h1 h2 h3 h4=>hgj p q ⟨⟨h1,h2⟩,⟨h3,h4⟩⟩)
   (tN (N1.2.1 - N1.1)) (tN (((tN N1.2.1 - tN N1.1:Nat):Int) - 0)+1) t 0 N1.1 (by omega) (Int.le_refl _) (by omega) ht (by rw [Int.sub_self,Int.zero_mul];cases (o.2.1.getD (tN j) dF).2.2<;>rfl)
  rw [Int.sub_self] at g2
  have e1:gF l.length o (t,j)=.inl (t2,j+1):=by
   simp only [gF]
   rw [bG (by omega),cond_true,hN1,hN2]
   exact g2
  obtain⟨t3,f1,f2,f3⟩:=aUh he hg d n t2 (j+1) (by omega) (by omega) (by omega) g1
  refine⟨t3,f1,by rw [aB e1];exact f2,fun C hC x y hx=>?_⟩
  refine f3 _ (g3 C hC) x y ?_
  rcases hx with hx | ⟨k,p,q,h1,h2,h3,h4,h5⟩
  ·exact .inl (.inl hx)
  ·by_cases hkj:(k:Int)=j
   ·have hk2:tN j=k:=by omega
    rw [←hk2,hib] at h3
    exact .inl (.inr ⟨p,q,h3.1.1,h3.1.2,h3.2.1,h3.2.2,h4,h5⟩)
   ·exact .inr ⟨k,p,q,by omega,h2,h3,h4,h5⟩
theorem aYo {G:Nat->Nat->iU->Prop} {l:bR} {o:lI} (he:EOV l o)(hg:∀j,j < o.2.1.length->GdB G o j) {x y:Nat}
 (hx:∃(k:Nat) (p q:Int),k < o.2.1.length/\aQe o.1 (o.2.1.getD k dF) p q/\x=tN (o.1.1.getD (tN p) dF)/\y=tN (o.1.1.getD (tN q) dF)):G x y (((F43 l.length o).getD x []).getD y dF):=by
 obtain⟨t2,g1,g2,g3⟩:=aUh he hg o.2.1.length (tN ((o.2.1.length:Int) - 0)+1) _ 0 (by omega) (Int.le_refl _) (by omega) (EV.rep l.length)
 have e1:=aTz l o l.length 0 (tN ((((tN (l.length:Int)):Nat):Int) - 0)+1) (by omega) (by rw [eX];omega)
 have f1:F43 l.length o=t2:=by
  unfold F43
  rw [g2] at e1
  exact e1
 rw [f1]
 obtain⟨k,p,q,h1,h2,h3,h4⟩:=hx
 exact g3 (fun _ _=>False) (fun _ _ h=>h.elim) x y (.inr ⟨k,p,q,by omega,h1,h2,h3,h4⟩)
theorem aUi {f u x:Int} (h:f<=x/\x < u):x∈rg f u:=by
 unfold rg
 exact List.mem_map.2 ⟨tN (x - f),List.mem_range.2 (by omega),by omega⟩
theorem aW3 {n f u f' u' p q:Int} (h1:f<=p/\p < u)(h2:f'<=q/\q < u'):p*n+q∈cel n f u f' u':=by
 unfold cel row
 exact List.mem_flatMap.2 ⟨p,aUi h1,List.mem_map.2 ⟨q,aUi h2,rfl⟩⟩
theorem aW4 {n f u f' u' p q:Int} (h:p*n+q∈cel n f u f' u')(hq:0<=q/\q < n)(h':0<=f'/\u'<=n):(f<=p/\p < u)/\(f'<=q/\q < u'):=by
 unfold cel row at h
 obtain⟨a,ha,h⟩:=List.mem_flatMap.1 h
 obtain⟨b,hb,e⟩:=List.mem_map.1 h
 have ra:=yI ha
 have rb:=yI hb
 have hap:a=p:=by
  rcases Int.lt_or_le a p with h1 | h1
  ·have:=Int.mul_le_mul_of_nonneg_right (show 1<=p - a by omega) (show 0<=n by omega)
   rw [Int.sub_mul] at this;omega
  ·rcases Int.lt_or_le p a with h2 | h2
   ·have:=Int.mul_le_mul_of_nonneg_right (show 1<=a - p by omega) (show 0<=n by omega)
    rw [Int.sub_mul] at this;omega
   ·omega
 subst hap
 have:b=q:=by omega
 subst this
 exact⟨ra,rb⟩
theorem aOx {l:bR} {t:TR} {sep:Int} (h:eG l t=0) {p q:Int} (hp:0<=p/\p < l.length)(hq:0<=q/\q < l.length):∃k:Nat,k < (F85 t sep).length/\aQe t ((F85 t sep).getD k dF) p q:=by
 obtain⟨c1,c2,_⟩:=nB sep h
 obtain⟨k1,k2,k3,k4⟩:=kO h
 have hm:=c1.mem_iff.2 (aW3 (n:=l.length) hp hq)
 obtain⟨b,hb,hc⟩:=List.mem_flatMap.1 hm
 obtain⟨k,hk,rfl⟩:=List.mem_iff_getElem.1 hb
 have hx:=c2 _ hb
 have n2:=k4.2.2 (tN (F85 t sep)[k].2.1) (by omega)
 rw [k1] at n2
 refine⟨k,hk,?_⟩
 have e:(F85 t sep).getD k dF=(F85 t sep)[k]:=by
  rw [cV,List.getElem?_eq_getElem hk];rfl
 rw [e]
 exact aW4 (n:=l.length) hc hq ⟨n2.1,n2.2.2⟩
theorem aA5 {l:bR} {t:TR} (h:eG l t=0) {k:Nat} (hk:k < l.length):∃p:Int,(0<=p/\p < l.length)/\k=tN (t.1.getD (tN p) dF):=by
 have k1:=(kO h).1
 obtain⟨_,leaf,h1,_,e⟩:=mA h
 have hm:(k:Int)∈t.1:=by
  rw [e]
  refine(aNz l h1).mem_iff.2 ?_
  unfold jF
  exact List.mem_map.2 ⟨k,List.mem_range.2 hk,rfl⟩
 obtain⟨j,hj,hv⟩:=List.mem_iff_getElem.1 hm
 refine⟨j,⟨by omega,by omega⟩,?_⟩
 rw [eX,cV,List.getElem?_eq_getElem hj,Option.getD_some,hv];rfl
theorem wM {α σ:Type} {f:σ->α->σ⊕Int} (h:∀v c e,f v c=.inr e->e≠0):∀{l:List α} {v:σ} {e:Int},fN f l v=.inr e->e≠0
 | [],v,e,he=>by simp only [fN] at he;cases he
 | c::l,v,e,he=>by
  simp only [fN] at he
  cases hf:f v c with
  | inl w=>rw [hf] at he;exact wM h he
  | inr r=>rw [hf] at he;cases he;exact h v c _ hf
theorem aW5 {l:bR} {t:TR} {d:Int} {b:BK5} {e:Int} (h:iP l t d b=.inr e):e≠0:=by
 unfold iP at h
 cases hf:b.2.2 with
 | true =>
  rw [hf,cond_true] at h
  cases hz:((fsV (t.2.getD (tN b.1) dF) (t.2.getD (tN b.2.1) dF)).2 != 0) with
  | true=>rw [hz,cond_true] at h;cases h;exact bne_iff_ne.1 hz
  | false=>rw [hz,cond_false] at h;cases h
 | false =>
  rw [hf,cond_false] at h
  refine wM (fun v i e he=>?_) h
  refine wM (fun v k e he=>?_) he
  cases hz:((btw l d i k).2 != 0) with
  | true=>rw [hz,cond_true] at he;cases he;exact bne_iff_ne.1 hz
  | false=>rw [hz,cond_false] at he;cases he
theorem aDp {l:bR} [bL l] {t:TR} {sep d:Int} {o:lI} (h:aQ l t sep d=(o,0)):dR l t sep=0/\kM d 0 2=true/\o.1=t/\o.2.1=bN t sep/\aL8 l t d o.2.1=.inl o.2.2:=by
 rw [aTe] at h
 unfold aEg at h
 cases h0:((dR l t sep:Int) != 0) with
 | true =>
  rw [h0,cond_true] at h
  have:=congrArg Prod.snd h
  simp only at this
  exact absurd this (bne_iff_ne.1 h0)
 | false =>
  rw [h0,cond_false] at h
  cases h1:kM d 0 2 with
  | false =>
   rw [h1,Bool.not_false,cond_true] at h
   exact absurd (show(1:Int)=0 from congrArg Prod.snd h) (by decide)
  | true =>
   rw [h1,Bool.not_true,cond_false] at h
   cases ha:aL8 l t d (bN t sep) with
   | inl out =>
    rw [ha] at h
    have:=congrArg Prod.fst h
    simp only at this
    rw [←this]
    exact⟨bne_eq_false_iff_eq.1 h0,rfl,rfl,rfl,ha⟩
   | inr e =>
    rw [ha] at h
    have:=congrArg Prod.snd h
    simp only at this
    refine absurd this (wM (fun v b e he=>?_) ha)
    cases hc:iP l t d b with
    | inl r=>rw [hc] at he;cases he
    | inr e2=>rw [hc] at he;cases he;exact aW5 hc
theorem aJ0 {p q:PN} {d:Int} (h:(oQ p q d).2=0):vp p=0/\vp q=0/\(0<=d/\d<=2)/\oQ p q d=(aGi p (tmP (sc d) q) d,0):=by
 unfold oQ at h ⊢
 rw [aAt] at h ⊢
 by_cases h0:pk p q d=0
 ·obtain⟨h1,h2,h3⟩:=aR0 h0
  have hs:=aXs d
  have hq:=(mW h2).1
  have hq':=hq.mono (show(64:Int)<=4096 by omega)
  have hd:0<=d/\d<=3:=by omega
  refine⟨h1,h2,h3,?_⟩
  rw [h0,show(((0:Int):Int) != 0)=false from rfl,cond_false,aZp hd,aPr hs hq'.1,aPr hs hq'.2.1,aPr hs hq'.2.2]
  have e1:=aXy h1 (aLc hs hq) hd
  unfold tmP at e1 ⊢
  rw [e1]
 ·rw [bne_iff_ne.2 h0,cond_true] at h
  exact absurd h h0
def GdM (l:bR)(x y:Nat)(s:iU):Prop:=MT s (lsm (l.getD x dF).1 (l.getD y dF).1.1)
theorem aUj {p q:PN} {d:Int} (h:(oQ p q d).2=0):MT (oQ p q d).1 (lsm p q.1):=by
 obtain⟨h1,h2,h3,e⟩:=aJ0 h
 rw [e]
 exact bA4 h1 (by omega)
theorem aUk {l:bR} [bL l] {t:TR} {sep d:Int} {o:lI} (h:aQ l t sep d=(o,0)):∀j,j < o.2.1.length->GdB (GdM l) o j:=by
 obtain⟨hc,_,e1,e2,ha⟩:=aDp h
 have hck:=kA hc
 obtain⟨hv,leaf,hl,_,et⟩:=mA hck
 obtain⟨k1,k2,k3,k4⟩:=kO hck
 have ho:=(mE hc).2.2.2.1
 obtain⟨_,_,hal⟩:=aJz ha
 subst e1
 intro j hj p q hpq
 have hbf:=yK hc (j:=(j:Int)) (by omega) (by rw [←e2];omega)
 rw [eX,←e2] at hbf
 have hcl:=hal j hj
 rw [List.length_nil,Nat.zero_add] at hcl
 generalize o.2.1.getD j dF=b at *
 obtain⟨x1,x2,x3,x4⟩:=hbf
 have hpr:=ho.at (i:=tN p) (by have:=hpq.1;unfold wV hi1 at this;omega)
 have hqr:=ho.at (i:=tN q) (by have:=hpq.2;unfold pY hi2 at this;omega)
 have v1:=(hv.2 (tN (o.1.1.getD (tN p) dF)) (by omega)).1
 rcases aUe hcl ⟨x3.1,x3.2.2⟩ ⟨x4.1,x4.2.2⟩ hpq.1 hpq.2 with⟨_,g1,g2⟩ | ⟨_,g1,g2⟩
 ·have m1:o.1.2.getD (tN b.1) dF∈(BT l leaf).2:=by rw [←et];rw [cV,List.getElem?_eq_getElem (show tN b.1 < o.1.2.length by omega)];exact List.getElem_mem _
  have m2:o.1.2.getD (tN b.2.1) dF∈(BT l leaf).2:=by rw [←et];rw [cV,List.getElem?_eq_getElem (show tN b.2.1 < o.1.2.length by omega)];exact List.getElem_mem _
  have n1:=(aOv hv hl m1).2 p hpq.1.1 hpq.1.2
  have n2:=(aOv hv hl m2).2 q hpq.2.1 hpq.2.2
  rw [←et,Int.sub_zero] at n1 n2
  unfold GdM
  rw [g2]
  exact bA7 g1 v1 n1 n2.1
 ·unfold GdM
  rw [g2]
  unfold btw at g1 ⊢
  rw [←pF] at g1 ⊢
  exact aUj g1
theorem aW6 {l:bR} [bL l] {t:TR} {sep d:Int} {o:lI} (h:aQ l t sep d=(o,0)) {l':bR} (hl:l'.length=l.length)(he:EOV l' o) {x y:Nat} (hx:x < l.length)(hy:y < l.length):GdM l x y (((F43 l'.length o).getD x []).getD y dF):=by
 obtain⟨hc,_,e1,e2,ha⟩:=aDp h
 have hck:=kA hc
 refine aYo he (aUk h) ?_
 obtain⟨p,hp,ep⟩:=aA5 hck hx
 obtain⟨q,hq,eq⟩:=aA5 hck hy
 obtain⟨k,hk,hb⟩:=aOx (sep:=sep) hck hp hq
 rw [←jC sep hck,←e2] at hk hb
 exact⟨k,p,q,hk,by rw [e1];exact hb,by rw [e1];exact ep,by rw [e1];exact eq⟩
end Go.Proofs.YtlckcjfbjnjfhaaGreat
namespace Go.Proofs.YtlckcjfbjnjfhaaGreat
open Go.Proofs Go.Aw Go.RowKit
set_option maxRecDepth 100000
def aEh (l:bR)(M:Nat->Int):Nat->Int
 | 0=>0
 | i+1=>aEh l M i+(l.getD i dF).2*M i
theorem aHk {x n:Int} (h:-1099511627776<=pV x n/\pV x n<=1099511627776):pV x n=x*n:=by
 unfold pV at *
 split at h
 ·omega
 ·rename_i h1
  rw [if_neg h1]
  split at h
  ·omega
  ·rename_i h2
   rw [if_neg h2]
theorem bA9 {a:Int×Int} {n m:Int} (hv:vs ((scl a n).1,(scl a n).2))(h:MT a m):MT ((scl a n).1,(scl a n).2) (n*m):=by
 unfold vs at hv
 unfold scl MT at *
 by_cases hn:n < 0
 ·simp only [if_pos hn] at hv ⊢
  rw [aHk (x:=a.2) (by omega),aHk (x:=a.1) (by omega)]
  have h1:=Int.mul_le_mul_of_nonneg_left h.1 (show 0<=-n by omega)
  have h2:=Int.mul_le_mul_of_nonneg_left h.2 (show 0<=-n by omega)
  have e1:-n*(64*a.1)=-(64*(a.1*n)):=by grind
  have e2:-n*(64*a.2)=-(64*(a.2*n)):=by grind
  have e3:-n*m=-(n*m):=by grind
  omega
 ·simp only [if_neg hn] at hv ⊢
  rw [aHk (x:=a.2) (by omega),aHk (x:=a.1) (by omega)]
  have h1:=Int.mul_le_mul_of_nonneg_left h.1 (show 0<=n by omega)
  have h2:=Int.mul_le_mul_of_nonneg_left h.2 (show 0<=n by omega)
  have e1:n*(64*a.1)=64*(a.1*n):=by grind
  have e2:n*(64*a.2)=64*(a.2*n):=by grind
  omega
theorem bEb {lo hi:Int} (h:(jQ lo hi).2=0):jQ lo hi=((lo,hi),0)/\vs (lo,hi):=by
 rcases aE0 lo hi with⟨e,hv⟩ | e
 ·exact⟨e,hv⟩
 ·rw [e] at h;exact absurd h (by decide)
theorem bBa {a:Int×Int} {n m:Int} (ha:vs a)(hn:-100<=n/\n<=100)(h0:(xT a n).2=0)(h:MT a m):vs (xT a n).1/\MT (xT a n).1 (n*m):=by
 rw [aNj ha (by omega)] at h0 ⊢
 obtain⟨e,hv⟩:=bEb h0
 rw [e]
 exact⟨hv,bA9 hv h⟩
section
variable {l : bR} {m : List (List (Int × Int))} {M : Nat → Nat → Int}
theorem bBb (hm:EV l.length m)(hl:l.length<=96)(hq:∀i,i < l.length->-100<=(l.getD i dF).2/\(l.getD i dF).2<=100) {j:Nat} (hM:∀i,i < l.length->MT ((m.getD i []).getD j dF) (M i j))(v:List (Int×Int))(n:Nat)(hn:l.length < n) :
 (∃s:Int×Int,aA (bU l m) n (v,[],(j:Int),(j:Int),0)=.inl (v++[s],((j+1:Nat):Int))/\vs s/\MT s (aEh l (fun i=>M i j) l.length))\/∃e:Int,e≠0/\aA (bU l m) n (v,[],(j:Int),(j:Int),0)=.inr ([],e):=by
 refine iR (S:=bU l m) (fun x=>l.length - tN x.2.2.2.2) (fun x=>x.1=v/\x.2.2.1=(j:Int)/\x.2.2.2.1=(j:Int)/\0<=x.2.2.2.2/\x.2.2.2.2<=(l.length:Int)/\x.2.1.length=tN x.2.2.2.2/\(∀a∈x.2.1,vs a)/\MT (iG x.2.1 (0,0)) (aEh l (fun i=>M i j) (tN x.2.2.2.2)))
  (fun r=>(∃s:Int×Int,r=.inl (v++[s],((j+1:Nat):Int))/\vs s/\MT s (aEh l (fun i=>M i j) l.length))\/∃e:Int,e≠0/\r=.inr ([],e)) ?_ n (v,[],(j:Int),(j:Int),0) ⟨rfl,rfl,rfl,Int.le_refl _,by simp only;omega,rfl,fun a ha=>(by cases ha),by simp [iG,aEh,MT]⟩ (by simp only;omega)
 rintro ⟨x1,x2,x3,x4,x5⟩ ⟨h1,h2,h3,h5,h6,h7,h8,h9⟩
 simp only at h1 h2 h3 h5 h6 h7 h8 h9
 subst h1 h2 h3
 simp only [bU]
 by_cases hb:x5 < (l.length:Int)
 ·rw [bG hb,cond_true,eX]
  have hc:=hq (tN x5) (by omega)
  have hv:=hm.val (tN x5) j
  have hg:=hM (tN x5) (by omega)
  change vs ((m.getD (tN x5) dF).getD j dF) at hv
  change MT ((m.getD (tN x5) dF).getD j dF) _ at hg
  cases hz:((xT ((m.getD (tN x5) dF).getD j dF) (l.getD (tN x5) dF).2).2 != 0) with
  | true=>exact .inr ⟨_,rfl,.inr ⟨_,bne_iff_ne.1 hz,rfl⟩⟩
  | false =>
   obtain⟨s1,s2⟩:=bBa hv hc (bne_eq_false_iff_eq.1 hz) hg
   refine .inl ⟨_,rfl,⟨rfl,rfl,rfl,by simp only;omega,by simp only;omega,by simp only [List.length_append,List.length_singleton];omega,fun a ha=>?_,?_⟩,by simp only;omega⟩
   ·rcases List.mem_append.1 ha with ha | ha
    ·exact h8 a ha
    ·rw [List.mem_singleton.1 ha];exact s1
   ·simp only
    rw [aIw,show tN (x5+1)=tN x5+1 by omega]
    simp only [aEh,iG,Int.zero_add]
    unfold MT at *
    simp only
    omega
 ·have hx:tN x5=l.length:=by omega
  rw [cC hb,cond_false,aX0 h8 (by omega)]
  rw [hx] at h9
  cases hz:((aLh x2).2 != 0) with
  | true=>exact .inr ⟨_,rfl,.inr ⟨_,bne_iff_ne.1 hz,rfl⟩⟩
  | false =>
   obtain⟨e,hv⟩:=aZ1 (bne_eq_false_iff_eq.1 hz)
   exact .inr ⟨_,rfl,.inl ⟨_,rfl,by rw [e];exact hv,by rw [e];exact h9⟩⟩
theorem aYp (hm:EV l.length m)(hl:l.length<=96)(hq:∀i,i < l.length->-100<=(l.getD i dF).2/\(l.getD i dF).2<=100)(hM:∀i j,i < l.length->j < l.length->MT ((m.getD i []).getD j dF) (M i j))(h:(fI l m).2=0) :
 (fI l m).1.length=l.length/\∀j,j < l.length->vs ((fI l m).1.getD j dF)/\MT ((fI l m).1.getD j dF) (aEh l (fun i=>M i j) l.length):=by
 have key:∀(d n j:Nat) (v:List (Int×Int)),j+d=l.length->d < n->v.length=j->(∀i,i < j->vs (v.getD i dF)/\MT (v.getD i dF) (aEh l (fun k=>M k i) l.length)) ->
  (aA (bF l m) n (v,(j:Int))).2=0->(aA (bF l m) n (v,(j:Int))).1.length=l.length/\∀i,i < l.length->vs ((aA (bF l m) n (v,(j:Int))).1.getD i dF)/\MT ((aA (bF l m) n (v,(j:Int))).1.getD i dF) (aEh l (fun k=>M k i) l.length):=by
  intro d
  induction d with
  | zero =>
   intro n j v hj hn hv hI h
   obtain⟨n,rfl⟩:∃x,n=x+1:=⟨n - 1,by omega⟩
   have e:bF l m (v,(j:Int))=.inr (v,0):=by
    simp only [bF]
    rw [cC (by omega),cond_false]
   rw [aC e]
   exact⟨by simp only;omega,fun i hi=>hI i (by omega)⟩
  | succ d ih =>
   intro n j v hj hn hv hI h
   obtain⟨n,rfl⟩:∃x,n=x+1:=⟨n - 1,by omega⟩
   have e:bF l m (v,(j:Int))=aA (bU l m) (tN ((l.length:Int) - 0)+1) (v,([]:List (Int×Int)),(j:Int),(j:Int),0):=by
    simp only [bF]
    rw [bG (by omega),cond_true]
   rcases bBb hm hl hq (j:=j) (fun i hi=>hM i j hi (by omega)) v (tN ((l.length:Int) - 0)+1) (by omega) with⟨s,e2,s1,s2⟩ | ⟨er,e0,e2⟩
   ·rw [e2] at e
    rw [aB e] at h ⊢
    refine ih n (j+1) _ (by omega) (by omega) (by rw [List.length_append,List.length_singleton];omega) (fun i hi=>?_) h
    by_cases hij:i < j
    ·rw [sL (by omega)];exact hI i hij
    ·have:i=v.length:=by omega
     subst this
     rw [sM (Nat.le_refl _),Nat.sub_self,hv]
     exact⟨s1,s2⟩
   ·rw [e2] at e
    rw [aC e] at h
    exact absurd h e0
 exact key l.length _ 0 [] (by omega) (by omega) rfl (fun i hi=>absurd hi (fO _)) h
end
end Go.Proofs.YtlckcjfbjnjfhaaGreat
namespace Go.Proofs.YtlckcjfbjnjfhaaGreat
open Go.Proofs Go.Aw Go.RowKit
set_option maxRecDepth 100000
noncomputable def aHl:Code:=(aO [1,1,1,1,0,1,0,1,1,0,1,1,0,1] [0] (aI Tryz.f44) []).1
noncomputable def aHm (m0:Nat):List K:=(aO [1,1,1,1,0,1,0,1,1,0,1,1,0,1] [m0] (aI Tryz.f44) []).2
def aDq (a0:bE)(a1:Int)(v10c:List SV)(v10n:Nat)(v11c:List SV)(v11n:Nat)(v12 v13 v14 v15 v16 v17 v18 v19 v20 v21 v22 v23:Int):LS:=⟨jH 58 [(0,(.s 0 0 a0.length 10)),(1,(iv a1)),(7,(.s 1 0 v10n 1)),(9,(.p 2 0)),(10,(.s 3 0 v11n 2)),(23,(.s 0 0 a0.length 10)),(24,(iv (a0.length:Int))),(25,(iv v12)),(29,(.s 0 0 a0.length 10)),(30,(iv (a0.length:Int))),(31,(iv v13))],[(.live false true (flat fK a0)),(.live true true v10c),(.live true false [(iv v14),(iv v15),(iv v16),(iv v17),(iv v18),(iv v19),(iv v20),(iv v21),(iv v22),(iv v23)]),(.live true true v11c)]⟩
def dT (a0:bE)(a1:Int):(List (List (Int×Int)))×(List (Int×Int))×Int×Int×Int×Int×Int×Int×Int×Int×Int×Zt->((List (List (Int×Int)))×(List (Int×Int))×Int×Int×Int×Int×Int×Int×Int×Int×Int×Zt)⊕(((List (List (Int×Int)))×Int)⊕((List (List (Int×Int)))×Int))
 | (v10,v11,v12,v13,v14,v15,v16,v17,v18,v19,v20,v21,v22,v23) =>
  (bif (decide ((v13:Int) < (a0.length:Int))) then
   (bif (((oQ ((v14,v15,v16),(v17,v18,v19),(v20,v21,v22)) (a0.getD (tN v13) dF).1 a1).2:Int) != 0) then
    (.inr (.inr (([]:List (List (Int×Int))),(oQ ((v14,v15,v16),(v17,v18,v19),(v20,v21,v22)) (a0.getD (tN v13) dF).1 a1).2)))
   else
    (.inl (v10,(v11++[(oQ ((v14,v15,v16),(v17,v18,v19),(v20,v21,v22)) (a0.getD (tN v13) dF).1 a1).1]),v12,(v13+1),v14,v15,v16,v17,v18,v19,v20,v21,v22,v23)))
  else
   (.inr (.inl ((v10++[v11]),(v12+1)))))
noncomputable def aA6:Code:=(aO [1,1,1,1,0,1] [] (aI Tryz.f44) []).1
noncomputable def aA7:List K:=(aO [1,1,1,1,0,1] [] (aI Tryz.f44) []).2
def wO (a0:bE)(a1:Int)(v8c:List SV)(v8n:Nat)(v9:Int):LS:=⟨jH 58 [(0,(.s 0 0 a0.length 10)),(1,(iv a1)),(7,(.s 1 0 v8n 1)),(23,(.s 0 0 a0.length 10)),(24,(iv (a0.length:Int))),(25,(iv v9))],[(.live false true (flat fK a0)),(.live true true v8c)]⟩
def cU (a0:bE)(a1:Int):(List (List (Int×Int)))×Int->((List (List (Int×Int)))×Int)⊕((List (List (Int×Int)))×Int)
 | (v8,v9) =>
  (bif (decide ((v9:Int) < (a0.length:Int))) then
   (aA (dT a0 a1) (tN ((a0.length:Int) - 0)+1) (v8,([]:List (Int×Int)),v9,0,(a0.getD (tN v9) dF).1.1.1,(a0.getD (tN v9) dF).1.1.2.1,(a0.getD (tN v9) dF).1.1.2.2,(a0.getD (tN v9) dF).1.2.1.1,(a0.getD (tN v9) dF).1.2.1.2.1,(a0.getD (tN v9) dF).1.2.1.2.2,(a0.getD (tN v9) dF).1.2.2.1,(a0.getD (tN v9) dF).1.2.2.2.1,(a0.getD (tN v9) dF).1.2.2.2.2,(a0.getD (tN v9) dF).2))
  else
   (.inr (v8,0)))
theorem aW7 (a0:bE)(a1:Int)(l0:a0.length<=2^63-1) {cx:Cx} (hcx:cx.base=1)
 (n0:Nat) (g0:∀(v8:List (List (Int×Int))) (v9:Int),(0<=v9)/\(v8.length=tN v9)/\(v9<=a0.length)/\(a0.length<=96)->tN ((a0.length:Int) - v9) < n0->Aw.Good Tryz.prog none 9 (bodyPost Tryz.prog Tryz.f44 (RR cx (.t [(.s 1 0 (aA (cU a0 a1) n0 (v8,v9)).1.length 1),(iv (aA (cU a0 a1) n0 (v8,v9)).2)]) [(.live true true (flat fW (aA (cU a0 a1) n0 (v8,v9)).1))] [])) cx [] (.l aA6 n0::aA7) (wO a0 a1 (flat fW v8) v8.length v9)):∀(n:Nat) (v10:List (List (Int×Int))) (v11:List (Int×Int)) (v12 v13 v14 v15 v16 v17 v18 v19 v20 v21 v22 v23:Int),(0<=v13)/\(v11.length=tN v13)/\(v13<=a0.length)/\(v10.length=tN v12)/\(0<=v12)/\(v12 < a0.length)/\(a0.length<=96)/\((0<=v12))/\((v10.length=tN v12))/\((v12<=a0.length))/\((a0.length<=96))/\(v12 < (a0.length:Int))/\(tN ((a0.length:Int) - v12) < n0+1)->tN ((a0.length:Int) - v13) < n->Aw.Good Tryz.prog none 9 (bodyPost Tryz.prog Tryz.f44 (RR cx (.t [(.s 1 0 (bB (cU a0 a1) n0 (aA (dT a0 a1) n (v10,v11,v12,v13,v14,v15,v16,v17,v18,v19,v20,v21,v22,v23))).1.length 1),(iv (bB (cU a0 a1) n0 (aA (dT a0 a1) n (v10,v11,v12,v13,v14,v15,v16,v17,v18,v19,v20,v21,v22,v23))).2)]) [(.live true true (flat fW (bB (cU a0 a1) n0 (aA (dT a0 a1) n (v10,v11,v12,v13,v14,v15,v16,v17,v18,v19,v20,v21,v22,v23))).1))] [])) cx [] (.l aHl n::aHm n0) (aDq a0 a1 (flat fW v10) v10.length (flat eP v11) v11.length v12 v13 v14 v15 v16 v17 v18 v19 v20 v21 v22 v23):=by
 intro n
 induction n with
 | zero=>intro v10 v11 v12 v13 v14 v15 v16 v17 v18 v19 v20 v21 v22 v23 hi hn;exact absurd hn (fO _)
 | succ n ih =>
  intro v10 v11 v12 v13 v14 v15 v16 v17 v18 v19 v20 v21 v22 v23 hi hn
  refine aT ?_
  cases h0:(decide ((v13:Int) < (a0.length:Int))) with
  | true =>
   have q0:=dL h0
   let t1:List (St Tryz.prog):=[.d h0,.i v13 (a0.length),.L eO a0 v13 0 10,.c [] (C40 ((v14,v15,v16),(v17,v18,v19),(v20,v21,v22)) (a0.getD (tN v13) dF).1 a1)]
   cases h1:(((oQ ((v14,v15,v16),(v17,v18,v19),(v20,v21,v22)) (a0.getD (tN v13) dF).1 a1).2:Int) != 0) with
   | true =>
    have q1:=bne_iff_ne.1 h1
    have e:=Eq.refl (dT a0 a1 (v10,v11,v12,v13,v14,v15,v16,v17,v18,v19,v20,v21,v22,v23));conv at e=>rhs;simp only [dT,h0,h1,aW]
    rw [aN,e]
    exact rt (t1++[.d h1]) [.slot 4 1] [6] hcx (by kernel_rfl)
   | false =>
    have q1:=bne_eq_false_iff_eq.1 h1
    have e:=Eq.refl (dT a0 a1 (v10,v11,v12,v13,v14,v15,v16,v17,v18,v19,v20,v21,v22,v23));conv at e=>rhs;simp only [dT,h0,h1,aW]
    rw [aB e]
    refine ba (t1++[.d h1,.p (show((flat eP v11).length=v11.length*2/\v11.length+1<=2 ^ 40/\(v11.length+1)*16<=2 ^ 47) from lQ dZ (by omega) (by omega))]) [] [0,1,7,9,10,23,24,25,29,30,31] [1,2,7] hcx (m:=n) aHl (aHm n0) (aDq a0 a1 (flat fW v10) (v10.length) (flat eP v11++(k2 (oQ ((v14,v15,v16),(v17,v18,v19),(v20,v21,v22)) (a0.getD (tN v13) dF).1 a1).1)) (v11.length+1) v12 (W (v13+1)) v14 v15 v16 v17 v18 v19 v20 v21 v22 v23) (by kernel_rfl) ?_
    have z0:(W (v13+1))=(v13+1):=aH (by omega) (by omega)
    have z1:(flat eP v11++(k2 (oQ ((v14,v15,v16),(v17,v18,v19),(v20,v21,v22)) (a0.getD (tN v13) dF).1 a1).1))=(flat eP (v11++[(oQ ((v14,v15,v16),(v17,v18,v19),(v20,v21,v22)) (a0.getD (tN v13) dF).1 a1).1])):=(cW (c:=eP) (l:=v11) (m:=[(oQ ((v14,v15,v16),(v17,v18,v19),(v20,v21,v22)) (a0.getD (tN v13) dF).1 a1).1])).symm
    have z2:(v11.length+1)=(v11++[(oQ ((v14,v15,v16),(v17,v18,v19),(v20,v21,v22)) (a0.getD (tN v13) dF).1 a1).1]).length:=kZ v11 [(oQ ((v14,v15,v16),(v17,v18,v19),(v20,v21,v22)) (a0.getD (tN v13) dF).1 a1).1] rfl
    rw [z0,z1,z2]
    exact ih v10 (v11++[(oQ ((v14,v15,v16),(v17,v18,v19),(v20,v21,v22)) (a0.getD (tN v13) dF).1 a1).1]) v12 (v13+1) v14 v15 v16 v17 v18 v19 v20 v21 v22 v23 (by refine⟨?_,?_,?_,?_,?_,?_,?_,?_,?_,?_,?_,?_,?_⟩<;>(try simp only [Ls])<;>first | omega | assumption | exact hi.2.1 | exact hi.2.2.1 | exact hi.2.2.2.1 | exact hi.2.2.2.2.1 | exact hi.2.2.2.2.2.1 | exact hi.2.2.2.2.2.2.1 | exact hi.2.2.2.2.2.2.2.1 | exact hi.2.2.2.2.2.2.2.2.1 | exact hi.2.2.2.2.2.2.2.2.2.1 | exact hi.2.2.2.2.2.2.2.2.2.2.1 | exact hi.2.2.2.2.2.2.2.2.2.2.2.1 | exact hi.2.2.2.2.2.2.2.2.2.2.2.2.1 | simp) (by(try simp only [Ls]);omega)
  | false =>
   have q0:=eH h0
   have e:=Eq.refl (dT a0 a1 (v10,v11,v12,v13,v14,v15,v16,v17,v18,v19,v20,v21,v22,v23));conv at e=>rhs;simp only [dT,h0,aW]
   rw [aN,e]
   refine ba [.d h0,.p (show((flat eP v11)).length=v11.length*2 from by first | (simp [eJ dZ];done) | rfl),.p (show((flat fW v10).length=v10.length*1/\v10.length+1<=2 ^ 40/\(v10.length+1)*24<=2 ^ 47) from lQ nC (by omega) (by omega))] [] [0,1,7,23,24,25] [5] hcx (m:=n0) aA6 (aA7) (wO a0 a1 (flat fW v10++[(.d (flat eP v11) v11.length 2)]) (v10.length+1) (W (v12+1))) (by kernel_rfl) ?_
   have z0:(W (v12+1))=(v12+1):=aH (by omega) (by omega)
   have z1:(flat fW v10++[(.d (flat eP v11) v11.length 2)])=(flat fW (v10++[v11])):=(cW (c:=fW) (l:=v10) (m:=[v11])).symm
   have z2:(v10.length+1)=(v10++[v11]).length:=kZ v10 [v11] rfl
   rw [z0,z1,z2]
   exact g0 (v10++[v11]) (v12+1) (by refine⟨?_,?_,?_,?_⟩<;>(try simp only [Ls])<;>first | omega | assumption | simp) (by(try simp only [Ls]);omega)
theorem aW8 (a0:bE)(a1:Int)(l0:a0.length<=2^63-1) {cx:Cx} (hcx:cx.base=1):∀(n:Nat) (v8:List (List (Int×Int))) (v9:Int),(0<=v9)/\(v8.length=tN v9)/\(v9<=a0.length)/\(a0.length<=96)->tN ((a0.length:Int) - v9) < n->Aw.Good Tryz.prog none 9 (bodyPost Tryz.prog Tryz.f44 (RR cx (.t [(.s 1 0 (aA (cU a0 a1) n (v8,v9)).1.length 1),(iv (aA (cU a0 a1) n (v8,v9)).2)]) [(.live true true (flat fW (aA (cU a0 a1) n (v8,v9)).1))] [])) cx [] (.l aA6 n::aA7) (wO a0 a1 (flat fW v8) v8.length v9):=by
 intro n
 induction n with
 | zero=>intro v8 v9 hi hn;exact absurd hn (fO _)
 | succ n ih =>
  intro v8 v9 hi hn
  refine aT ?_
  cases h0:(decide ((v9:Int) < (a0.length:Int))) with
  | true =>
   have q0:=dL h0
   have e:=Eq.refl (cU a0 a1 (v8,v9));conv at e=>rhs;simp only [cU,h0,aW]
   rw [aN,e]
   refine en [.d h0,.i v9 (a0.length),.L eO a0 v9 0 10] [.slot 10 2] [0,1,7,9,10,23,24,25,29,30,31] [1,2,3] hcx aHl (aHm n) (aDq a0 a1 (flat fW v8) (v8.length) (flat eP ([]:List (Int×Int))) 0 v9 0 ((a0.getD (tN v9) dF).1.1.1) ((a0.getD (tN v9) dF).1.1.2.1) ((a0.getD (tN v9) dF).1.1.2.2) ((a0.getD (tN v9) dF).1.2.1.1) ((a0.getD (tN v9) dF).1.2.1.2.1) ((a0.getD (tN v9) dF).1.2.1.2.2) ((a0.getD (tN v9) dF).1.2.2.1) ((a0.getD (tN v9) dF).1.2.2.2.1) ((a0.getD (tN v9) dF).1.2.2.2.2) ((a0.getD (tN v9) dF).2)) (tN ((a0.length:Int) - 0)+1) (by kernel_rfl) ?_
   exact aW7 a0 a1 l0 hcx n ih (tN ((a0.length:Int) - 0)+1) v8 ([]:List (Int×Int)) v9 0 ((a0.getD (tN v9) dF).1.1.1) ((a0.getD (tN v9) dF).1.1.2.1) ((a0.getD (tN v9) dF).1.1.2.2) ((a0.getD (tN v9) dF).1.2.1.1) ((a0.getD (tN v9) dF).1.2.1.2.1) ((a0.getD (tN v9) dF).1.2.1.2.2) ((a0.getD (tN v9) dF).1.2.2.1) ((a0.getD (tN v9) dF).1.2.2.2.1) ((a0.getD (tN v9) dF).1.2.2.2.2) ((a0.getD (tN v9) dF).2) (by refine⟨?_,?_,?_,?_,?_,?_,?_,?_,?_,?_,?_,?_,?_⟩<;>(try simp only [Ls])<;>first | omega | assumption | exact hi.2.1 | exact hi.2.2.1 | exact hi.2.2.2.1 | exact hi.2.2.2.2.1 | exact hi.2.2.2.2.2.1 | exact hi.2.2.2.2.2.2.1 | exact hi.2.2.2.2.2.2.2.1 | exact hi.2.2.2.2.2.2.2.2.1 | exact hi.2.2.2.2.2.2.2.2.2.1 | exact hi.2.2.2.2.2.2.2.2.2.2.1 | exact hi.2.2.2.2.2.2.2.2.2.2.2.1 | exact hi.2.2.2.2.2.2.2.2.2.2.2.2.1 | simp) (by(try simp only [Ls]);omega)
  | false =>
   have q0:=eH h0
   have e:=Eq.refl (cU a0 a1 (v8,v9));conv at e=>rhs;simp only [cU,h0,aW]
   rw [aN,e]
   exact rt [.d h0] [] [1] hcx (by kernel_rfl)
def eM (a0:bE)(a1:Int):(List (List (Int×Int)))×Int :=
 (bif (((eU a0):Int) != 0) then
  (([]:List (List (Int×Int))),(eU a0))
 else
  (bif (!(kM a1 0 2)) then
   (([]:List (List (Int×Int))),1)
  else
   (aA (cU a0 a1) (tN ((a0.length:Int) - 0)+1) (([]:List (List (Int×Int))),0))))
theorem bEc (a0:bE)(a1:Int)(l0:a0.length<=2^63-1):Con Tryz.prog 44 [(.s 0 0 a0.length 10),(iv a1)] [(.live false true (flat fK a0))] (.t [(.s 1 0 (eM a0 a1).1.length 1),(iv (eM a0 a1).2)]) [(.live true true (flat fW (eM a0 a1).1))]:=by
 refine aU Tryz.func44 (by kernel_rfl) fun cx hcx=>?_
 try have hvl:=jX (l:=a0) (bne_eq_false_iff_eq.1 h0)
 let t0:List (St Tryz.prog):=[.c [0] (aNd a0 (by omega))]
 cases h0:(((eU a0):Int) != 0) with
 | true =>
  have q0:=bne_iff_ne.1 h0
  try have hvl:=jX (l:=a0) (bne_eq_false_iff_eq.1 h0)
  have e:=Eq.refl (eM a0 a1);conv at e=>rhs;simp only [eM,h0,aW]
  rw [e]
  exact rt (t0++[.d h0]) [.slot 4 1] [1] hcx (by kernel_rfl)
 | false =>
  have q0:=bne_eq_false_iff_eq.1 h0
  try have hvl:=jX (l:=a0) (bne_eq_false_iff_eq.1 h0)
  let t1:List (St Tryz.prog):=(t0++[.d h0,.c [] (C34 a1 0 2)])
  cases h1:(!(kM a1 0 2)) with
  | true =>
   try have hvl:=jX (l:=a0) (bne_eq_false_iff_eq.1 h0)
   have e:=Eq.refl (eM a0 a1);conv at e=>rhs;simp only [eM,h0,h1,aW]
   rw [e]
   exact rt (t1++[.d h1]) [.slot 4 1] [1] hcx (by kernel_rfl)
  | false =>
   try have hvl:=jX (l:=a0) (bne_eq_false_iff_eq.1 h0)
   have e:=Eq.refl (eM a0 a1);conv at e=>rhs;simp only [eM,h0,h1,aW]
   rw [e]
   refine en (t1++[.d h1]) [.slot 7 1] [0,1,7,23,24,25] [1] hcx aA6 (aA7) (wO a0 a1 (flat fW ([]:List (List (Int×Int)))) 0 0) (tN ((a0.length:Int) - 0)+1) (by kernel_rfl) ?_
   exact aW8 a0 a1 l0 hcx (tN ((a0.length:Int) - 0)+1) ([]:List (List (Int×Int))) 0 (by refine⟨?_,?_,?_,?_⟩<;>(try simp only [Ls])<;>first | omega | assumption | simp) (by(try simp only [Ls]);omega)
def BW (l:bR)(d:Int)(i j:Nat):iU×Int:=oQ (l.getD i dF).1 (l.getD j dF).1 d
theorem aYq {l:bR} {d:Int} (out:List (List iU)) {i:Nat} (hi:i < l.length):∀(k n j:Nat) (r:List iU),j+k=l.length->k < n->r.length=j->(∀c,c < j->(BW l d i c).2=0/\r.getD c dF=(BW l d i c).1) ->
 (∃r':List iU,r'.length=l.length/\(∀c,c < l.length->(BW l d i c).2=0/\r'.getD c dF=(BW l d i c).1)/\aA (dT l d) n (out,r,(i:Int),(j:Int),(l.getD i dF).1.1.1,(l.getD i dF).1.1.2.1,(l.getD i dF).1.1.2.2,(l.getD i dF).1.2.1.1,(l.getD i dF).1.2.1.2.1,(l.getD i dF).1.2.1.2.2,(l.getD i dF).1.2.2.1,(l.getD i dF).1.2.2.2.1,(l.getD i dF).1.2.2.2.2,(l.getD i dF).2)=.inl (out++[r'],((i+1:Nat):Int))) \/
 ∃e:Int,e≠0/\aA (dT l d) n (out,r,(i:Int),(j:Int),(l.getD i dF).1.1.1,(l.getD i dF).1.1.2.1,(l.getD i dF).1.1.2.2,(l.getD i dF).1.2.1.1,(l.getD i dF).1.2.1.2.1,(l.getD i dF).1.2.1.2.2,(l.getD i dF).1.2.2.1,(l.getD i dF).1.2.2.2.1,(l.getD i dF).1.2.2.2.2,(l.getD i dF).2)=.inr ([],e)
 | 0,n,j,r,hj,hn,hr,hI=>by
  obtain⟨n,rfl⟩:∃x,n=x+1:=⟨n - 1,by omega⟩
  refine .inl ⟨r,by omega,fun c hc=>hI c (by omega),?_⟩
  refine aC ?_
  simp only [dT]
  rw [cC (by omega),cond_false];rfl
 | k+1,n,j,r,hj,hn,hr,hI=>by
  obtain⟨n,rfl⟩:∃x,n=x+1:=⟨n - 1,by omega⟩
  have e:dT l d (out,r,(i:Int),(j:Int),(l.getD i dF).1.1.1,(l.getD i dF).1.1.2.1,(l.getD i dF).1.1.2.2,(l.getD i dF).1.2.1.1,(l.getD i dF).1.2.1.2.1,(l.getD i dF).1.2.1.2.2,(l.getD i dF).1.2.2.1,(l.getD i dF).1.2.2.2.1,(l.getD i dF).1.2.2.2.2,(l.getD i dF).2) =
   bif ((BW l d i j).2 != 0) then .inr (.inr ([],(BW l d i j).2)) else .inl (out,r++[(BW l d i j).1],(i:Int),((j+1:Nat):Int),(l.getD i dF).1.1.1,(l.getD i dF).1.1.2.1,(l.getD i dF).1.1.2.2,(l.getD i dF).1.2.1.1,(l.getD i dF).1.2.1.2.1,(l.getD i dF).1.2.1.2.2,(l.getD i dF).1.2.2.1,(l.getD i dF).1.2.2.2.1,(l.getD i dF).1.2.2.2.2,(l.getD i dF).2):=by
   simp only [dT,eX]
   rw [bG (by omega),cond_true];rfl
  cases hz:((BW l d i j).2 != 0) with
  | true =>
   rw [hz,cond_true] at e
   exact .inr ⟨_,bne_iff_ne.1 hz,aC e⟩
  | false =>
   rw [hz,cond_false] at e
   rw [aB e]
   refine aYq out hi k n (j+1) _ (by omega) (by omega) (by rw [List.length_append,List.length_singleton];omega) (fun c hc=>?_)
   by_cases hcj:c < j
   ·rw [sL (by omega)];exact hI c hcj
   ·have:c=j:=by omega
    subst this
    rw [sM (by omega),hr,Nat.sub_self]
    exact⟨bne_eq_false_iff_eq.1 hz,rfl⟩
theorem aYr {l:bR} {d:Int}:∀(k n i:Nat) (out:List (List iU)),i+k=l.length->k < n->out.length=i->(∀c,c < i->(out.getD c []).length=l.length/\∀e,e < l.length->(BW l d c e).2=0/\(out.getD c []).getD e dF=(BW l d c e).1) ->
 (aA (cU l d) n (out,(i:Int))).2=0->(aA (cU l d) n (out,(i:Int))).1.length=l.length/\∀c,c < l.length->((aA (cU l d) n (out,(i:Int))).1.getD c []).length=l.length/\∀e,e < l.length->(BW l d c e).2=0/\((aA (cU l d) n (out,(i:Int))).1.getD c []).getD e dF=(BW l d c e).1
 | 0,n,i,out,hi,hn,ho,hI,h=>by
  obtain⟨n,rfl⟩:∃x,n=x+1:=⟨n - 1,by omega⟩
  have e:cU l d (out,(i:Int))=.inr (out,0):=by
   simp only [cU]
   rw [cC (by omega),cond_false]
  rw [aC e]
  exact⟨by simp only;omega,fun c hc=>hI c (by omega)⟩
 | k+1,n,i,out,hi,hn,ho,hI,h=>by
  obtain⟨n,rfl⟩:∃x,n=x+1:=⟨n - 1,by omega⟩
  have e:cU l d (out,(i:Int))=aA (dT l d) (tN ((l.length:Int) - 0)+1) (out,([]:List iU),(i:Int),((0:Nat):Int),(l.getD i dF).1.1.1,(l.getD i dF).1.1.2.1,(l.getD i dF).1.1.2.2,(l.getD i dF).1.2.1.1,(l.getD i dF).1.2.1.2.1,(l.getD i dF).1.2.1.2.2,(l.getD i dF).1.2.2.1,(l.getD i dF).1.2.2.2.1,(l.getD i dF).1.2.2.2.2,(l.getD i dF).2):=by
   simp only [cU,eX]
   rw [bG (by omega),cond_true];rfl
  rcases aYq (l:=l) (d:=d) out (i:=i) (by omega) l.length (tN ((l.length:Int) - 0)+1) 0 [] (by omega) (by omega) rfl (fun c hc=>absurd hc (fO _)) with⟨r,r1,r2,e2⟩ | ⟨er,e0,e2⟩
  ·rw [e2] at e
   rw [aB e] at h ⊢
   refine aYr k n (i+1) _ (by omega) (by omega) (by rw [List.length_append,List.length_singleton];omega) (fun c hc=>?_) h
   by_cases hci:c < i
   ·rw [show(out++[r]).getD c []=out.getD c [] from sL (by omega)];exact hI c hci
   ·have:c=out.length:=by omega
    subst this
    rw [show(out++[r]).getD out.length []=r from(sM (Nat.le_refl _)).trans (by rw [Nat.sub_self];rfl),ho]
    exact⟨r1,r2⟩
  ·rw [e2] at e
   rw [aC e] at h
   exact absurd h e0
theorem aOy {l:bR} {d:Int} (h:(eM l d).2=0):sR l/\(eM l d).1.length=l.length/\∀c,c < l.length->((eM l d).1.getD c []).length=l.length/\∀e,e < l.length->(BW l d c e).2=0/\((eM l d).1.getD c []).getD e dF=(BW l d c e).1:=by
 unfold eM at h ⊢
 cases h0:((eU l:Int) != 0) with
 | true=>rw [h0,cond_true] at h;exact absurd h (bne_iff_ne.1 h0)
 | false =>
  rw [h0,cond_false] at h
  rw [cond_false]
  cases h1:(!(kM d 0 2)) with
  | true=>rw [h1,cond_true] at h;exact absurd h (by decide)
  | false =>
   rw [h1,cond_false] at h
   rw [cond_false]
   exact⟨aC4 (bne_eq_false_iff_eq.1 h0),aYr l.length _ 0 [] (by omega) (by omega) rfl (fun c hc=>absurd hc (fO _)) h⟩
theorem wP {l:bR} {d:Int} (h:(((eM l d).2:Int) != 0)=false):l.length<=96/\(eM l d).1.length=l.length/\∀j:Nat,j < l.length->((eM l d).1.getD j dF).length=l.length:=by
 obtain⟨hv,h1,h2⟩:=aOy (bne_eq_false_iff_eq.1 h)
 exact⟨hv.1,h1,fun j hj=>(h2 j hj).1⟩
theorem aUl {a:Int×Int} (h:okE a):vs a:=by unfold okE at h;unfold vs;omega
theorem bBc {l:bR} {d:Int} (h:(eM l d).2=0):EV l.length (eM l d).1:=by
 obtain⟨hv,h1,h2⟩:=aOy h
 refine⟨⟨h1,fun j hj=>(h2 j hj).1⟩,fun i j=>?_⟩
 by_cases hi:i < l.length
 ·obtain⟨g1,g2⟩:=h2 i hi
  by_cases hj:j < l.length
  ·obtain⟨k1,k2⟩:=g2 j hj
   rw [k2]
   obtain⟨p1,p2,p3,e⟩:=aJ0 k1
   unfold BW
   rw [e]
   exact aUl (aGl p1 (by omega))
  ·rw [cV (l:=(eM l d).1.getD i []),List.getElem?_eq_none (by omega)];exact aDk
 ·rw [cV (l:=(eM l d).1),List.getElem?_eq_none (by omega)];exact aDk
def gT (a0:bE)(a1:Int):(List (Int×Int))×Int :=
 (bif (((eM a0 a1).2:Int) != 0) then
  (([]:List (Int×Int)),(eM a0 a1).2)
 else
  ((fI a0 (eM a0 a1).1).1,(fI a0 (eM a0 a1).1).2))
theorem bEd (a0:bE)(a1:Int)(l0:a0.length<=2^63-1):Con Tryz.prog 12 [(.s 0 0 a0.length 10),(iv a1)] [(.live false true (flat fK a0))] (.t [(.s 1 0 (gT a0 a1).1.length 2),(iv (gT a0 a1).2)]) [(.live true true (flat eP (gT a0 a1).1))]:=by
 refine aU Tryz.func12 (by kernel_rfl) fun cx hcx=>?_
 try have hdm:=(fun _=>wP h0) h0
 try have hd1:=(fun _=>hdm.1) h0
 try have hd2:=(fun _=>hdm.2.1) h0
 let t0:List (St Tryz.prog):=[.c [0] (bEc a0 a1 (by omega))]
 cases h0:(((eM a0 a1).2:Int) != 0) with
 | true =>
  have q0:=bne_iff_ne.1 h0
  try have hdm:=(fun _=>wP h0) h0
  try have hd1:=(fun _=>hdm.1) h0
  try have hd2:=(fun _=>hdm.2.1) h0
  have e:=Eq.refl (gT a0 a1);conv at e=>rhs;simp only [gT,h0,aW]
  rw [e]
  exact rt (t0++[.d h0]) [.slot 4 2] [2] hcx (by kernel_rfl)
 | false =>
  have q0:=bne_eq_false_iff_eq.1 h0
  try have hdm:=(fun _=>wP h0) h0
  try have hd1:=(fun _=>hdm.1) h0
  try have hd2:=(fun _=>hdm.2.1) h0
  have e:=Eq.refl (gT a0 a1);conv at e=>rhs;simp only [gT,h0,aW]
  rw [e]
  exact rt (t0++[.d h0,.c [0,1] (aOm a0 (eM a0 a1).1 (by omega) (by(try simp only [Lt]);omega) (wP h0))]) [] [2] hcx (by kernel_rfl)
theorem aOz {l:bR} {m:List (List (Int×Int))}:(fI l m).1.length<=l.length:=by
 unfold fI
 refine iR (S:=bF l m) (fun x=>tN ((l.length:Int) - x.2)) (fun x=>0<=x.2/\x.1.length=tN x.2/\x.2<=(l.length:Int)) (fun r=>r.1.length<=l.length) ?_ _ _ ⟨Int.le_refl _,rfl,by simp only;omega⟩ (by simp only;omega)
 rintro ⟨v,j⟩ ⟨h1,h2,h3⟩
 simp only at h1 h2 h3
 simp only [bF]
 by_cases hj:j < (l.length:Int)
 ·rw [bG hj,cond_true]
  have key:∀r,r=aA (bU l m) (tN ((l.length:Int) - 0)+1) (v,[],j,j,0)->(∃s,r=.inl (v++[s],j+1))\/∃e:Int,r=.inr ([],e):=by
   rintro r rfl
   refine iR (S:=bU l m) (fun x=>tN ((l.length:Int) - x.2.2.2.2)) (fun x=>x.1=v/\x.2.2.2.1=j) (fun r=>(∃s,r=.inl (v++[s],j+1))\/∃e:Int,r=.inr ([],e)) ?_ _ _ ⟨rfl,rfl⟩ (by simp only;omega)
   rintro ⟨x1,x2,x3,x5,x4⟩ ⟨rfl,rfl⟩
   simp only [bU]
   by_cases hx:x4 < (l.length:Int)
   ·rw [bG hx,cond_true]
    cases ((xT ((m.getD (tN x4) dF).getD (tN x3) dF) (l.getD (tN x4) dF).2).2 != 0) with
    | true=>exact .inr ⟨_,rfl,.inr ⟨_,rfl⟩⟩
    | false=>exact .inl ⟨_,rfl,⟨rfl,rfl⟩,by simp only;omega⟩
   ·rw [cC hx,cond_false]
    cases ((iL x2).2 != 0) with
    | true=>exact .inr ⟨_,rfl,.inr ⟨_,rfl⟩⟩
    | false=>exact .inr ⟨_,rfl,.inl ⟨_,rfl⟩⟩
  rcases key _ rfl with⟨s,e⟩ | ⟨e0,e⟩
  ·rw [e]
   exact .inl ⟨_,rfl,⟨by simp only;omega,by simp only [List.length_append,List.length_singleton];omega,by simp only;omega⟩,by simp only;omega⟩
  ·rw [e];exact .inr ⟨_,rfl,Nat.zero_le _⟩
 ·rw [cC hj,cond_false]
  exact .inr ⟨_,rfl,by simp only;omega⟩
theorem aW9 {l:bR} [bL l] {o:lI}:(gS l o).1.length<=l.length:=by
 unfold gS
 cases ((pX l ((o.1.1,o.1.2),o.2.1,o.2.2):Int) != 0) with
 | true=>exact Nat.zero_le _
 | false=>exact aOz
theorem aXa {l:bR} {d:Int}:(gT l d).1.length<=l.length:=by
 unfold gT
 cases ((eM l d).2 != 0) with
 | true=>exact Nat.zero_le _
 | false=>exact aOz
noncomputable def PM (l:bR)(j:Nat):Int:=aEh l (fun i=>lsm (l.getD i dF).1 (l.getD j dF).1.1) l.length
def GdV (l:bR)(x:List iU):Prop:=x.length=l.length/\∀j,j < l.length->vs (x.getD j dF)/\MT (x.getD j dF) (PM l j)
def aJ1 (l l':bR):Prop:=l'.length=l.length/\∀i,(l'.getD i dF).1=(l.getD i dF).1
theorem bEe {l l':bR} [bL l] [bL l'] (hs:aJ1 l l') {t:TR} {sep d:Int} {o:lI} (h:aQ l t sep d=(o,0))(hsl:∀j:Nat,(o.2.2.getD j dF).length<=10000)(h0:(gS l' o).2=0):GdV l' (gS l' o).1:=by
 unfold gS at h0 ⊢
 rw [show(((o.1.1,o.1.2),o.2.1,o.2.2):lI)=o from rfl] at h0 ⊢
 cases ha:((pX l' o:Int) != 0) with
 | true=>rw [ha,cond_true] at h0;exact absurd h0 (bne_iff_ne.1 ha)
 | false =>
  rw [ha,cond_false] at h0
  rw [cond_false]
  have hr:nD l' o=0:=by rw [←aDj];exact bne_eq_false_iff_eq.1 ha
  have he:=aMj hr hsl
  obtain⟨e1,hev⟩:=aT0 he
  rw [←e1] at hev
  have hv:=(mA (aMi hr).1.chk).1
  exact aYp hev hv.1 (fun i hi=>(hv.2 i hi).2) (fun i j hi hj=>by
   have:=aW6 h hs.1 he (x:=i) (y:=j) (by have:=hs.1;omega) (by have:=hs.1;omega)
   unfold GdM at this
   rw [←hs.2 i,←hs.2 j] at this
   exact this) h0
theorem bEf {l:bR} {d:Int} (h0:(gT l d).2=0):GdV l (gT l d).1:=by
 unfold gT at h0 ⊢
 cases ha:((eM l d).2 != 0) with
 | true=>rw [ha,cond_true] at h0;exact absurd h0 (bne_iff_ne.1 ha)
 | false =>
  rw [ha,cond_false] at h0
  rw [cond_false]
  have hz:=bne_eq_false_iff_eq.1 ha
  obtain⟨hv,h1,h2⟩:=aOy hz
  exact aYp (bBc hz) hv.1 (fun i hi=>(hv.2 i hi).2) (fun i j hi hj=>by
   obtain⟨g1,g2⟩:=(h2 i hi).2 j hj
   rw [g2]
   exact aUj g1) h0
theorem GdV.meet {l:bR} {x y:List iU} (hx:GdV l x)(hy:GdV l y) {j:Nat} (hj:j < l.length):vs (x.getD j dF)/\vs (y.getD j dF)/\(x.getD j dF).1<=(y.getD j dF).2/\(y.getD j dF).1<=(x.getD j dF).2:=by
 obtain⟨a1,a2,a3⟩:=hx.2 j hj
 obtain⟨b1,b2,b3⟩:=hy.2 j hj
 exact⟨a1,b1,by omega,by omega⟩
theorem bT {l:List (PN×Int)} (h:l.length<=12):bL l:=⟨⟨.inl h⟩⟩
theorem uW {l:List (PN×Int)} (h:(decide (((l.length:Int):Int) > 8))=false):bL l:=bT (by have:=eH h;omega)
def F15:Bool :=
 (bif (((aF ([(((0,0,0),(1,0,0),(0,1,0)),0)]:bE) 1).2:Int) == 0) then
  (bif (((((aF ([(((0,0,0),(1,0,0),(0,1,0)),0)]:bE) 1).1.2.length:Nat):Int):Int) == 1) then
   ((((aF ([(((0,0,0),(1,0,0),(0,1,0)),0)]:bE) 1).1.2.getD (tN 0) dF).2.2.1:Int) == (-1))
  else
   false)
 else
  false)
theorem C15:Con Tryz.prog 15 [] [] (.v (.bool F15)) []:=by
 refine aU Tryz.func15 (by kernel_rfl) fun cx hcx=>?_
 have h5s:bL ([(((0,0,0),(1,0,0),0,1,0),0)]:bE):=bT (by decide)
 have hbl:(aF [(((0,0,0),(1,0,0),0,1,0),0)] 1).1.2.length=1:=by kernel_rfl
 have hbo:(aF [(((0,0,0),(1,0,0),0,1,0),0)] 1).1.1.length=1:=by kernel_rfl
 let t0:List (St Tryz.prog):=[.c [0] (Con.flags (bs':=[(.live false false [(iv 0),(iv 0),(iv 0),(iv 1),(iv 0),(iv 0),(iv 0),(iv 1),(iv 0),(iv 0)])]) (bDa ([(((0,0,0),(1,0,0),(0,1,0)),0)]:bE) 1 (by(try simp only [Lt]);omega)) rfl ⟨jM (fun _=>rfl),trivial⟩)]
 cases h0:(((aF ([(((0,0,0),(1,0,0),(0,1,0)),0)]:bE) 1).2:Int) == 0) with
 | true =>
  have q0:=eq_of_beq h0
  have h5s:bL ([(((0,0,0),(1,0,0),0,1,0),0)]:bE):=bT (by decide)
  let t1:List (St Tryz.prog):=(t0++[.d h0])
  cases h1:(((((aF ([(((0,0,0),(1,0,0),(0,1,0)),0)]:bE) 1).1.2.length:Nat):Int):Int) == 1) with
  | true =>
   have q1:=eq_of_beq h1
   have h5s:bL ([(((0,0,0),(1,0,0),0,1,0),0)]:bE):=bT (by decide)
   have e:=Eq.refl F15;conv at e=>rhs;simp only [F15,h0,h1,aW]
   rw [e]
   exact rt (t1++[.d h1,.i 0 ((aF ([(((0,0,0),(1,0,0),(0,1,0)),0)]:bE) 1).1.2.length),.L dS (aF ([(((0,0,0),(1,0,0),(0,1,0)),0)]:bE) 1).1.2 0 2 1]) [] [] hcx (by kernel_rfl)
  | false =>
   have q1:=ne_of_beq_false h1
   have h5s:bL ([(((0,0,0),(1,0,0),0,1,0),0)]:bE):=bT (by decide)
   have e:=Eq.refl F15;conv at e=>rhs;simp only [F15,h0,h1,aW]
   rw [e]
   exact rt (t1++[.d h1]) [] [] hcx (by kernel_rfl)
 | false =>
  have q0:=ne_of_beq_false h0
  have h5s:bL ([(((0,0,0),(1,0,0),0,1,0),0)]:bE):=bT (by decide)
  have e:=Eq.refl F15;conv at e=>rhs;simp only [F15,h0,aW]
  rw [e]
  exact rt (t0++[.d h0]) [] [] hcx (by kernel_rfl)
def F17 (a0:Int×Int)(a1:Int×Int):Bool :=
 (bif (((F13 a0 a1).2.2:Int) == 0) then
  (F13 a0 a1).2.1
 else
  false)
theorem C17 (a0:Int×Int)(a1:Int×Int):Con Tryz.prog 17 [(.a [(iv a0.1),(iv a0.2)]),(.a [(iv a1.1),(iv a1.2)])] [] (.v (.bool (F17 a0 a1))) []:=by
 refine aU Tryz.func17 (by kernel_rfl) fun cx hcx=>?_
 let t0:List (St Tryz.prog):=[.c [] (C13 a0 a1)]
 cases h0:(((F13 a0 a1).2.2:Int) == 0) with
 | true =>
  have q0:=eq_of_beq h0
  have e:=Eq.refl (F17 a0 a1);conv at e=>rhs;simp only [F17,h0,aW]
  rw [e]
  exact rt (t0++[.d h0]) [] [] hcx (by kernel_rfl)
 | false =>
  have q0:=ne_of_beq_false h0
  have e:=Eq.refl (F17 a0 a1);conv at e=>rhs;simp only [F17,h0,aW]
  rw [e]
  exact rt (t0++[.d h0]) [] [] hcx (by kernel_rfl)
def lJ (a0:(List Int×aY)×(List (Int×Int×Bool))×List (List (Int×Int))):Int :=
 0
theorem aQf (a0:(List Int×aY)×(List (Int×Int×Bool))×List (List (Int×Int)))(l0_1_1:a0.1.1.length<=2^63-1)(l0_1_2:a0.1.2.length<=2^63-1)(l0_2_1:a0.2.1.length<=2^63-1)(l0_2_2:a0.2.2.length<=2^63-1):Con Tryz.prog 14 [(.a [(.v (.slice none 0 0)),(.v (.slice none 0 0)),(.v (.slice none 0 0)),(.v (.slice none 0 0))])] [] (iv (lJ a0)) []:=by
 refine aU Tryz.func14 (by kernel_rfl) fun cx hcx=>?_
 have e:=Eq.refl (lJ a0);conv at e=>rhs;simp only [lJ]
 rw [e]
 exact rt [.u 200,.F] [] [] hcx (by kernel_rfl)
noncomputable def aHn:Code:=(bO [1,0,1,0,0] [] (aI Tryz.f4)).1
noncomputable def aHo:List K:=(bO [1,0,1,0,0] [] (aI Tryz.f4)).2
def aDr (a0:bE)(a1:Int×Zt×Zt)(a2:Bool):LS:=⟨jH 147 [],[(.live false true (flat fK a0))]⟩
def wQ (a0:bE)(a1:Int×Zt×Zt)(a2:Bool):Unit->Bool
 | () =>
  false
noncomputable def wR:Code:=(bO [1,1,1,1,1,1,1,0,1,0,0] [] (aI Tryz.f4)).1
noncomputable def wS:List K:=(bO [1,1,1,1,1,1,1,0,1,0,0] [] (aI Tryz.f4)).2
def sN (a0:bE)(a1:Int×Zt×Zt)(a2:Bool):LS:=⟨jH 147 [],[(.live false true (flat fK a0))]⟩
def oP (a0:bE)(a1:Int×Zt×Zt)(a2:Bool):Unit->Bool
 | () =>
  false
noncomputable def aMl:Code:=(aO [1,1,1,1,1,1,1,1,1,1,1,1,1,0,1] [] (aI Tryz.f4) []).1
noncomputable def aMm:List K:=(aO [1,1,1,1,1,1,1,1,1,1,1,1,1,0,1] [] (aI Tryz.f4) []).2
def aHp (a0:bE)(a1:Int×Zt×Zt)(a2:Bool)(v6c:List SV)(v6n:Nat)(v7c:List SV)(v7n:Nat)(v8:Int):LS:=⟨jH 147 [(0,(.s 0 0 a0.length 10)),(15,(.s 1 0 v6n 2)),(17,(.s 2 0 v7n 2)),(19,(iv v8))],[(.live false true (flat fK a0)),(.live true true v6c),(.live true true v7c)]⟩
def kT (a0:bE)(a1:Int×Zt×Zt)(a2:Bool):(List (Int×Int))×(List (Int×Int))×Int->((List (Int×Int))×(List (Int×Int))×Int)⊕(Bool)
 | (v6,v7,v8) =>
  (bif (decide ((v8:Int) < (a0.length:Int))) then
   (bif (!(F17 (v6.getD (tN v8) dF) (v7.getD (tN v8) dF))) then
    (.inr false)
   else
    (.inl (v6,v7,(v8+1))))
  else
   (.inr true))
noncomputable def aDs:Code:=(bO [1,1,1,1,1,1,1,1,1,1,0] [] (aI Tryz.f4)).1
noncomputable def aDt:List K:=(bO [1,1,1,1,1,1,1,1,1,1,0] [] (aI Tryz.f4)).2
def yX (a0:bE)(a1:Int×Zt×Zt)(a2:Bool)(v3c:List SV)(v3n:Nat):LS:=⟨jH 147 [(0,(.s 0 0 a0.length 10)),(9,(.p 1 0)),(13,(.s 2 0 v3n 10))],[(.live false true (flat fK a0)),(.live true false [(.s 3 0 (aQ a0 ((aF a0 a1.1).1.1,(aF a0 a1.1).1.2) a1.2.2.1 (bV a1.2.2.2.2 1)).1.1.1.length 1),(.s 4 0 (aQ a0 ((aF a0 a1.1).1.1,(aF a0 a1.1).1.2) a1.2.2.1 (bV a1.2.2.2.2 1)).1.1.2.length 8),(.s 5 0 (aQ a0 ((aF a0 a1.1).1.1,(aF a0 a1.1).1.2) a1.2.2.1 (bV a1.2.2.2.2 1)).1.2.1.length 3),(.s 6 0 (aQ a0 ((aF a0 a1.1).1.1,(aF a0 a1.1).1.2) a1.2.2.1 (bV a1.2.2.2.2 1)).1.2.2.length 1)]),(.live true true v3c),(.live true true (flat c3 (aQ a0 ((aF a0 a1.1).1.1,(aF a0 a1.1).1.2) a1.2.2.1 (bV a1.2.2.2.2 1)).1.1.1)),(.live true true (flat dM (aQ a0 ((aF a0 a1.1).1.1,(aF a0 a1.1).1.2) a1.2.2.1 (bV a1.2.2.2.2 1)).1.1.2)),(.live true true (flat iT (aQ a0 ((aF a0 a1.1).1.1,(aF a0 a1.1).1.2) a1.2.2.1 (bV a1.2.2.2.2 1)).1.2.1)),(.live true true (flat fW (aQ a0 ((aF a0 a1.1).1.1,(aF a0 a1.1).1.2) a1.2.2.1 (bV a1.2.2.2.2 1)).1.2.2))]⟩
def dV (a0:bE)(a1:Int×Zt×Zt)(a2:Bool):bE->Bool
 | v3 =>
  (bif (((gS v3 (((aQ a0 ((aF a0 a1.1).1.1,(aF a0 a1.1).1.2) a1.2.2.1 (bV a1.2.2.2.2 1)).1.1.1,(aQ a0 ((aF a0 a1.1).1.1,(aF a0 a1.1).1.2) a1.2.2.1 (bV a1.2.2.2.2 1)).1.1.2),(aQ a0 ((aF a0 a1.1).1.1,(aF a0 a1.1).1.2) a1.2.2.1 (bV a1.2.2.2.2 1)).1.2.1,(aQ a0 ((aF a0 a1.1).1.1,(aF a0 a1.1).1.2) a1.2.2.1 (bV a1.2.2.2.2 1)).1.2.2)).2:Int) != 0) then
   false
  else
   (bif (((gT v3 0).2:Int) != 0) then
    false
   else
    (bif (((((gS v3 (((aQ a0 ((aF a0 a1.1).1.1,(aF a0 a1.1).1.2) a1.2.2.1 (bV a1.2.2.2.2 1)).1.1.1,(aQ a0 ((aF a0 a1.1).1.1,(aF a0 a1.1).1.2) a1.2.2.1 (bV a1.2.2.2.2 1)).1.1.2),(aQ a0 ((aF a0 a1.1).1.1,(aF a0 a1.1).1.2) a1.2.2.1 (bV a1.2.2.2.2 1)).1.2.1,(aQ a0 ((aF a0 a1.1).1.1,(aF a0 a1.1).1.2) a1.2.2.1 (bV a1.2.2.2.2 1)).1.2.2)).1.length:Nat):Int):Int) != (a0.length:Int)) then
     false
    else
     (bif (((((gT v3 0).1.length:Nat):Int):Int) != (a0.length:Int)) then
      false
     else
      (aA (kT a0 a1 a2) (tN ((a0.length:Int) - 0)+1) ((gS v3 (((aQ a0 ((aF a0 a1.1).1.1,(aF a0 a1.1).1.2) a1.2.2.1 (bV a1.2.2.2.2 1)).1.1.1,(aQ a0 ((aF a0 a1.1).1.1,(aF a0 a1.1).1.2) a1.2.2.1 (bV a1.2.2.2.2 1)).1.1.2),(aQ a0 ((aF a0 a1.1).1.1,(aF a0 a1.1).1.2) a1.2.2.1 (bV a1.2.2.2.2 1)).1.2.1,(aQ a0 ((aF a0 a1.1).1.1,(aF a0 a1.1).1.2) a1.2.2.1 (bV a1.2.2.2.2 1)).1.2.2)).1,(gT v3 0).1,0))))))
noncomputable def aMn:Code:=(aO [1,1,1,1,1,1,1,1,1,0,1] [] (aI Tryz.f4) []).1
noncomputable def aMo:List K:=(aO [1,1,1,1,1,1,1,1,1,0,1] [] (aI Tryz.f4) []).2
def aHq (a0:bE)(a1:Int×Zt×Zt)(a2:Bool)(v1c:List SV)(v1n:Nat)(v2:Int):LS:=⟨jH 147 [(0,(.s 0 0 a0.length 10)),(2,(.v (.bool a2))),(9,(.p 1 0)),(13,(.s 2 0 v1n 10)),(14,(iv v2))],[(.live false true (flat fK a0)),(.live true false [(.s 3 0 (aQ a0 ((aF a0 a1.1).1.1,(aF a0 a1.1).1.2) a1.2.2.1 (bV a1.2.2.2.2 1)).1.1.1.length 1),(.s 4 0 (aQ a0 ((aF a0 a1.1).1.1,(aF a0 a1.1).1.2) a1.2.2.1 (bV a1.2.2.2.2 1)).1.1.2.length 8),(.s 5 0 (aQ a0 ((aF a0 a1.1).1.1,(aF a0 a1.1).1.2) a1.2.2.1 (bV a1.2.2.2.2 1)).1.2.1.length 3),(.s 6 0 (aQ a0 ((aF a0 a1.1).1.1,(aF a0 a1.1).1.2) a1.2.2.1 (bV a1.2.2.2.2 1)).1.2.2.length 1)]),(.live true true v1c),(.live true true (flat c3 (aQ a0 ((aF a0 a1.1).1.1,(aF a0 a1.1).1.2) a1.2.2.1 (bV a1.2.2.2.2 1)).1.1.1)),(.live true true (flat dM (aQ a0 ((aF a0 a1.1).1.1,(aF a0 a1.1).1.2) a1.2.2.1 (bV a1.2.2.2.2 1)).1.1.2)),(.live true true (flat iT (aQ a0 ((aF a0 a1.1).1.1,(aF a0 a1.1).1.2) a1.2.2.1 (bV a1.2.2.2.2 1)).1.2.1)),(.live true true (flat fW (aQ a0 ((aF a0 a1.1).1.1,(aF a0 a1.1).1.2) a1.2.2.1 (bV a1.2.2.2.2 1)).1.2.2))]⟩
def jV (a0:bE)(a1:Int×Zt×Zt)(a2:Bool):bE×Int->(bE×Int)⊕(Bool)
 | (v1,v2) =>
  (bif (decide ((v2:Int) < (v1.length:Int))) then
   (bif a2 then
    (.inl ((v1.set (tN v2) ((v1.getD (tN v2) dF).1,(W (0 - (v1.getD (tN v2) dF).2)))),(v2+1)))
   else
    (.inr (dV a0 a1 a2 v1)))
  else
   (.inr (dV a0 a1 a2 v1)))
noncomputable def aO0:Code:=(bO [1,1,1,1,1,0,0] [] (aI Tryz.f4)).1
noncomputable def aO1:List K:=(bO [1,1,1,1,1,0,0] [] (aI Tryz.f4)).2
def aJ2 (a0:bE)(a1:Int×Zt×Zt)(a2:Bool):LS:=⟨jH 147 [(0,(.s 0 0 a0.length 10)),(2,(.v (.bool a2))),(7,(.p 1 0)),(8,(iv (aF a0 a1.1).2)),(9,(.p 2 0)),(10,(iv (aQ a0 ((aF a0 a1.1).1.1,(aF a0 a1.1).1.2) a1.2.2.1 (bV a1.2.2.2.2 1)).2))],[(.live false true (flat fK a0)),(.live true false [(.s 3 0 (aF a0 a1.1).1.1.length 1),(.s 4 0 (aF a0 a1.1).1.2.length 8)]),(.live true false [(.s 5 0 (aQ a0 ((aF a0 a1.1).1.1,(aF a0 a1.1).1.2) a1.2.2.1 (bV a1.2.2.2.2 1)).1.1.1.length 1),(.s 6 0 (aQ a0 ((aF a0 a1.1).1.1,(aF a0 a1.1).1.2) a1.2.2.1 (bV a1.2.2.2.2 1)).1.1.2.length 8),(.s 7 0 (aQ a0 ((aF a0 a1.1).1.1,(aF a0 a1.1).1.2) a1.2.2.1 (bV a1.2.2.2.2 1)).1.2.1.length 3),(.s 8 0 (aQ a0 ((aF a0 a1.1).1.1,(aF a0 a1.1).1.2) a1.2.2.1 (bV a1.2.2.2.2 1)).1.2.2.length 1)]),(.live true true (flat c3 (aF a0 a1.1).1.1)),(.live true true (flat dM (aF a0 a1.1).1.2)),(.live true true (flat c3 (aQ a0 ((aF a0 a1.1).1.1,(aF a0 a1.1).1.2) a1.2.2.1 (bV a1.2.2.2.2 1)).1.1.1)),(.live true true (flat dM (aQ a0 ((aF a0 a1.1).1.1,(aF a0 a1.1).1.2) a1.2.2.1 (bV a1.2.2.2.2 1)).1.1.2)),(.live true true (flat iT (aQ a0 ((aF a0 a1.1).1.1,(aF a0 a1.1).1.2) a1.2.2.1 (bV a1.2.2.2.2 1)).1.2.1)),(.live true true (flat fW (aQ a0 ((aF a0 a1.1).1.1,(aF a0 a1.1).1.2) a1.2.2.1 (bV a1.2.2.2.2 1)).1.2.2))]⟩
def fJ (a0:bE)(a1:Int×Zt×Zt)(a2:Bool):Unit->Bool
 | () =>
  (bif (((aF a0 a1.1).2:Int) != 0) then
   true
  else
   (bif (((aQ a0 ((aF a0 a1.1).1.1,(aF a0 a1.1).1.2) a1.2.2.1 (bV a1.2.2.2.2 1)).2:Int) != 0) then
    true
   else
    (bif (((gE a0 ((aF a0 a1.1).1.1,(aF a0 a1.1).1.2) (aQ a0 ((aF a0 a1.1).1.1,(aF a0 a1.1).1.2) a1.2.2.1 (bV a1.2.2.2.2 1)).1.2.1).2:Int) != 0) then
     (oP a0 a1 a2 ())
    else
     (bif (!(gE a0 ((aF a0 a1.1).1.1,(aF a0 a1.1).1.2) (aQ a0 ((aF a0 a1.1).1.1,(aF a0 a1.1).1.2) a1.2.2.1 (bV a1.2.2.2.2 1)).1.2.1).1) then
      (oP a0 a1 a2 ())
     else
      (bif (decide (((F14 (((aQ a0 ((aF a0 a1.1).1.1,(aF a0 a1.1).1.2) a1.2.2.1 (bV a1.2.2.2.2 1)).1.1.1,(aQ a0 ((aF a0 a1.1).1.1,(aF a0 a1.1).1.2) a1.2.2.1 (bV a1.2.2.2.2 1)).1.1.2),(aQ a0 ((aF a0 a1.1).1.1,(aF a0 a1.1).1.2) a1.2.2.1 (bV a1.2.2.2.2 1)).1.2.1,(aQ a0 ((aF a0 a1.1).1.1,(aF a0 a1.1).1.2) a1.2.2.1 (bV a1.2.2.2.2 1)).1.2.2)):Int) > (W ((a0.length:Int)*(a0.length:Int))))) then
       (oP a0 a1 a2 ())
      else
       (aA (jV a0 a1 a2) (tN ((((([]:bE)++a0).length:Nat):Int) - 0)+1) ((([]:bE)++a0),0)))))))
theorem aO2 (a0:bE)(a1:Int×Zt×Zt)(a2:Bool)(l0:a0.length<=2^63-1) {cx:Cx} (hcx:cx.base=1):True->Aw.Good Tryz.prog none 9 (bodyPost Tryz.prog Tryz.f4 (RR cx (.v (.bool (wQ a0 a1 a2 ()))) [] [])) cx [] (.c aHn::aHo) (aDr a0 a1 a2):=by
 intro hi
 have e:=Eq.refl (wQ a0 a1 a2 ());conv at e=>rhs;simp only [wQ]
 rw [e]
 exact rt [] [] [] hcx (by kernel_rfl)
theorem aDu (a0:bE)(a1:Int×Zt×Zt)(a2:Bool)(l0:a0.length<=2^63-1) {cx:Cx} (hcx:cx.base=1):True->Aw.Good Tryz.prog none 9 (bodyPost Tryz.prog Tryz.f4 (RR cx (.v (.bool (oP a0 a1 a2 ()))) [] [])) cx [] (.c wR::wS) (sN a0 a1 a2):=by
 intro hi
 have e:=Eq.refl (oP a0 a1 a2 ());conv at e=>rhs;simp only [oP]
 rw [e]
 exact rt [] [] [] hcx (by kernel_rfl)
theorem bBd (a0:bE)(a1:Int×Zt×Zt)(a2:Bool)(l0:a0.length<=2^63-1) {cx:Cx} (hcx:cx.base=1):∀(n:Nat) (v6:List (Int×Int)) (v7:List (Int×Int)) (v8:Int),(0<=v8)/\(a0.length<=8)/\(v6.length=a0.length)/\(v7.length=a0.length)->tN ((a0.length:Int) - v8) < n->Aw.Good Tryz.prog none 9 (bodyPost Tryz.prog Tryz.f4 (RR cx (.v (.bool (aA (kT a0 a1 a2) n (v6,v7,v8)))) [] [])) cx [] (.l aMl n::aMm) (aHp a0 a1 a2 (flat eP v6) v6.length (flat eP v7) v7.length v8):=by
 intro n
 induction n with
 | zero=>intro v6 v7 v8 hi hn;exact absurd hn (fO _)
 | succ n ih =>
  intro v6 v7 v8 hi hn
  refine aT ?_
  cases h0:(decide ((v8:Int) < (a0.length:Int))) with
  | true =>
   have q0:=dL h0
   let t1:List (St Tryz.prog):=[.d h0,.i v8 (v6.length),.L dZ v6 v8 0 2,.i v8 (v7.length),.L dZ v7 v8 0 2,.c [] (C17 (v6.getD (tN v8) dF) (v7.getD (tN v8) dF))]
   cases h1:(!(F17 (v6.getD (tN v8) dF) (v7.getD (tN v8) dF))) with
   | true =>
    have e:=Eq.refl (kT a0 a1 a2 (v6,v7,v8));conv at e=>rhs;simp only [kT,h0,h1,aW]
    rw [aN,e]
    exact rt (t1++[.d h1]) [] [] hcx (by kernel_rfl)
   | false =>
    have e:=Eq.refl (kT a0 a1 a2 (v6,v7,v8));conv at e=>rhs;simp only [kT,h0,h1,aW]
    rw [aB e]
    refine ba (t1++[.d h1]) [] [0,15,17,19] [1,2] hcx (m:=n) aMl (aMm) (aHp a0 a1 a2 (flat eP v6) (v6.length) (flat eP v7) (v7.length) (W (v8+1))) (by kernel_rfl) ?_
    have z0:(W (v8+1))=(v8+1):=aH (by omega) (by omega)
    rw [z0]
    exact ih v6 v7 (v8+1) (by refine⟨?_,?_,?_,?_⟩<;>(try simp only [Ls])<;>first | omega | assumption | simp) (by(try simp only [Ls]);omega)
  | false =>
   have q0:=eH h0
   have e:=Eq.refl (kT a0 a1 a2 (v6,v7,v8));conv at e=>rhs;simp only [kT,h0,aW]
   rw [aN,e]
   exact rt [.d h0] [] [] hcx (by kernel_rfl)
theorem aJ3 (a0:bE)(a1:Int×Zt×Zt)(a2:Bool)(l0:a0.length<=2^63-1) {cx:Cx} (hcx:cx.base=1)(v3:bE):(v3.length=a0.length)/\(a0.length<=8)->Aw.Good Tryz.prog none 9 (bodyPost Tryz.prog Tryz.f4 (RR cx (.v (.bool (dV a0 a1 a2 v3))) [] [])) cx [] (.c aDs::aDt) (yX a0 a1 a2 (flat fK v3) v3.length):=by
 intro hi
 have h5f:bL a0:=bT (by omega)
 have hb2:=fX a0 a1.1
 have hx1:=nT a0 ((aF a0 a1.1).1.1,(aF a0 a1.1).1.2) a1.2.2.1 (bV a1.2.2.2.2 1) hb2.1 hb2.2
 have h5v:bL v3:=bT (by omega)
 have hx3:=aW9 (l:=v3) (o:=(aQ a0 ((aF a0 a1.1).1.1,(aF a0 a1.1).1.2) a1.2.2.1 (bV a1.2.2.2.2 1)).1)
 have hx4:=aXa (l:=v3) (d:=0)
 let t0:List (St Tryz.prog):=[.c [2,3,4,5,6] (bD0 v3 (((aQ a0 ((aF a0 a1.1).1.1,(aF a0 a1.1).1.2) a1.2.2.1 (bV a1.2.2.2.2 1)).1.1.1,(aQ a0 ((aF a0 a1.1).1.1,(aF a0 a1.1).1.2) a1.2.2.1 (bV a1.2.2.2.2 1)).1.1.2),(aQ a0 ((aF a0 a1.1).1.1,(aF a0 a1.1).1.2) a1.2.2.1 (bV a1.2.2.2.2 1)).1.2.1,(aQ a0 ((aF a0 a1.1).1.1,(aF a0 a1.1).1.2) a1.2.2.1 (bV a1.2.2.2.2 1)).1.2.2) (by(try simp only [Lt]);omega) (by(try simp only [Lt]);omega) (by(try simp only [Lt]);omega) (by(try simp only [Lt]);omega) (by(try simp only [Lt]);omega) (aTf _ _ _ _)),.c [2] (bEd v3 0 (by omega))]
 cases h0:(((gS v3 (((aQ a0 ((aF a0 a1.1).1.1,(aF a0 a1.1).1.2) a1.2.2.1 (bV a1.2.2.2.2 1)).1.1.1,(aQ a0 ((aF a0 a1.1).1.1,(aF a0 a1.1).1.2) a1.2.2.1 (bV a1.2.2.2.2 1)).1.1.2),(aQ a0 ((aF a0 a1.1).1.1,(aF a0 a1.1).1.2) a1.2.2.1 (bV a1.2.2.2.2 1)).1.2.1,(aQ a0 ((aF a0 a1.1).1.1,(aF a0 a1.1).1.2) a1.2.2.1 (bV a1.2.2.2.2 1)).1.2.2)).2:Int) != 0) with
 | true =>
  have q0:=bne_iff_ne.1 h0
  have h5f:bL a0:=bT (by omega)
  have h5v:bL v3:=bT (by omega)
  have e:=Eq.refl (dV a0 a1 a2 v3);conv at e=>rhs;simp only [dV,h0,aW]
  rw [e]
  exact rt (t0++[.d h0]) [] [] hcx (by kernel_rfl)
 | false =>
  have q0:=bne_eq_false_iff_eq.1 h0
  have h5f:bL a0:=bT (by omega)
  have h5v:bL v3:=bT (by omega)
  let t1:List (St Tryz.prog):=(t0++[.d h0])
  cases h1:(((gT v3 0).2:Int) != 0) with
  | true =>
   have q1:=bne_iff_ne.1 h1
   have h5f:bL a0:=bT (by omega)
   have h5v:bL v3:=bT (by omega)
   have e:=Eq.refl (dV a0 a1 a2 v3);conv at e=>rhs;simp only [dV,h0,h1,aW]
   rw [e]
   exact rt (t1++[.d h1]) [] [] hcx (by kernel_rfl)
  | false =>
   have q1:=bne_eq_false_iff_eq.1 h1
   have h5f:bL a0:=bT (by omega)
   have h5v:bL v3:=bT (by omega)
   let t2:List (St Tryz.prog):=(t1++[.d h1])
   cases h2:(((((gS v3 (((aQ a0 ((aF a0 a1.1).1.1,(aF a0 a1.1).1.2) a1.2.2.1 (bV a1.2.2.2.2 1)).1.1.1,(aQ a0 ((aF a0 a1.1).1.1,(aF a0 a1.1).1.2) a1.2.2.1 (bV a1.2.2.2.2 1)).1.1.2),(aQ a0 ((aF a0 a1.1).1.1,(aF a0 a1.1).1.2) a1.2.2.1 (bV a1.2.2.2.2 1)).1.2.1,(aQ a0 ((aF a0 a1.1).1.1,(aF a0 a1.1).1.2) a1.2.2.1 (bV a1.2.2.2.2 1)).1.2.2)).1.length:Nat):Int):Int) != (a0.length:Int)) with
   | true =>
    have q2:=bne_iff_ne.1 h2
    have h5f:bL a0:=bT (by omega)
    have h5v:bL v3:=bT (by omega)
    have e:=Eq.refl (dV a0 a1 a2 v3);conv at e=>rhs;simp only [dV,h0,h1,h2,aW]
    rw [e]
    exact rt (t2++[.d h2]) [] [] hcx (by kernel_rfl)
   | false =>
    have q2:=bne_eq_false_iff_eq.1 h2
    have h5f:bL a0:=bT (by omega)
    have h5v:bL v3:=bT (by omega)
    let t3:List (St Tryz.prog):=(t2++[.d h2])
    cases h3:(((((gT v3 0).1.length:Nat):Int):Int) != (a0.length:Int)) with
    | true =>
     have q3:=bne_iff_ne.1 h3
     have h5f:bL a0:=bT (by omega)
     have h5v:bL v3:=bT (by omega)
     have e:=Eq.refl (dV a0 a1 a2 v3);conv at e=>rhs;simp only [dV,h0,h1,h2,h3,aW]
     rw [e]
     exact rt (t3++[.d h3]) [] [] hcx (by kernel_rfl)
    | false =>
     have q3:=bne_eq_false_iff_eq.1 h3
     have h5f:bL a0:=bT (by omega)
     have h5v:bL v3:=bT (by omega)
     have e:=Eq.refl (dV a0 a1 a2 v3);conv at e=>rhs;simp only [dV,h0,h1,h2,h3,aW]
     rw [e]
     refine en (t3++[.d h3]) [] [0,15,17,19] [7,8] hcx aMl (aMm) (aHp a0 a1 a2 (flat eP (gS v3 (((aQ a0 ((aF a0 a1.1).1.1,(aF a0 a1.1).1.2) a1.2.2.1 (bV a1.2.2.2.2 1)).1.1.1,(aQ a0 ((aF a0 a1.1).1.1,(aF a0 a1.1).1.2) a1.2.2.1 (bV a1.2.2.2.2 1)).1.1.2),(aQ a0 ((aF a0 a1.1).1.1,(aF a0 a1.1).1.2) a1.2.2.1 (bV a1.2.2.2.2 1)).1.2.1,(aQ a0 ((aF a0 a1.1).1.1,(aF a0 a1.1).1.2) a1.2.2.1 (bV a1.2.2.2.2 1)).1.2.2)).1) ((gS v3 (((aQ a0 ((aF a0 a1.1).1.1,(aF a0 a1.1).1.2) a1.2.2.1 (bV a1.2.2.2.2 1)).1.1.1,(aQ a0 ((aF a0 a1.1).1.1,(aF a0 a1.1).1.2) a1.2.2.1 (bV a1.2.2.2.2 1)).1.1.2),(aQ a0 ((aF a0 a1.1).1.1,(aF a0 a1.1).1.2) a1.2.2.1 (bV a1.2.2.2.2 1)).1.2.1,(aQ a0 ((aF a0 a1.1).1.1,(aF a0 a1.1).1.2) a1.2.2.1 (bV a1.2.2.2.2 1)).1.2.2)).1.length) (flat eP (gT v3 0).1) ((gT v3 0).1.length) 0) (tN ((a0.length:Int) - 0)+1) (by kernel_rfl) ?_
     exact bBd a0 a1 a2 l0 hcx (tN ((a0.length:Int) - 0)+1) ((gS v3 (((aQ a0 ((aF a0 a1.1).1.1,(aF a0 a1.1).1.2) a1.2.2.1 (bV a1.2.2.2.2 1)).1.1.1,(aQ a0 ((aF a0 a1.1).1.1,(aF a0 a1.1).1.2) a1.2.2.1 (bV a1.2.2.2.2 1)).1.1.2),(aQ a0 ((aF a0 a1.1).1.1,(aF a0 a1.1).1.2) a1.2.2.1 (bV a1.2.2.2.2 1)).1.2.1,(aQ a0 ((aF a0 a1.1).1.1,(aF a0 a1.1).1.2) a1.2.2.1 (bV a1.2.2.2.2 1)).1.2.2)).1) ((gT v3 0).1) 0 (by refine⟨?_,?_,?_,?_⟩<;>(try simp only [Ls])<;>first | omega | assumption | simp) (by(try simp only [Ls]);omega)
theorem bBe (a0:bE)(a1:Int×Zt×Zt)(a2:Bool)(l0:a0.length<=2^63-1) {cx:Cx} (hcx:cx.base=1):∀(n:Nat) (v1:bE) (v2:Int),(0<=v2)/\(v1.length=a0.length)/\(a0.length<=8)->tN ((v1.length:Int) - v2) < n->Aw.Good Tryz.prog none 9 (bodyPost Tryz.prog Tryz.f4 (RR cx (.v (.bool (aA (jV a0 a1 a2) n (v1,v2)))) [] [])) cx [] (.l aMn n::aMo) (aHq a0 a1 a2 (flat fK v1) v1.length v2):=by
 intro n
 induction n with
 | zero=>intro v1 v2 hi hn;exact absurd hn (fO _)
 | succ n ih =>
  intro v1 v2 hi hn
  refine aT ?_
  have h5f:bL a0:=bT (by omega)
  have hb2:=fX a0 a1.1
  have hx1:=nT a0 ((aF a0 a1.1).1.1,(aF a0 a1.1).1.2) a1.2.2.1 (bV a1.2.2.2.2 1) hb2.1 hb2.2
  cases h0:(decide ((v2:Int) < (v1.length:Int))) with
  | true =>
   have q0:=dL h0
   have h5f:bL a0:=bT (by omega)
   let t1:List (St Tryz.prog):=[.d h0]
   rcases aFv a2 with h1 | h1
   ·skip
    have h5f:bL a0:=bT (by omega)
    have e:=Eq.refl (jV a0 a1 a2 (v1,v2));conv at e=>rhs;simp only [jV,h0,h1,aW]
    rw [aB e]
    refine ba (t1++[.d h1,.i v2 (v1.length),.L eO v1 v2 9 1,.i v2 (v1.length),.p (show((0+tN v2*10+9)+1<=(flat fK v1).length) from(oG eO (by first | omega | (simp only [Lt];omega)) (o:=9) (Nb rfl)))]) [] [0,2,9,13,14] [1,2,3,4,5,6] hcx (m:=n) aMn (aMo) (aHq a0 a1 a2 (splice (flat fK v1) (0+tN v2*10+9) [(iv (W (0 - (v1.getD (tN v2) dF).2)))]) (v1.length) (W (v2+1))) (by kernel_rfl) ?_
    have z0:(W (v2+1))=(v2+1):=aH (by omega) (by omega)
    have z1:(splice (flat fK v1) (0+tN v2*10+9) [(iv (W (0 - (v1.getD (tN v2) dF).2)))])=flat fK (v1.set (tN v2) ((v1.getD (tN v2) dF).1,(W (0 - (v1.getD (tN v2) dF).2)))):=(iY eO (by first | omega | (simp only [Lt];omega)) (o:=9) (d:=dF) (Nb rfl) rfl)
    have z2:v1.length=(v1.set (tN v2) ((v1.getD (tN v2) dF).1,(W (0 - (v1.getD (tN v2) dF).2)))).length:=by simp
    rw [z0,z1,z2]
    exact ih (v1.set (tN v2) ((v1.getD (tN v2) dF).1,(W (0 - (v1.getD (tN v2) dF).2)))) (v2+1) (by refine⟨?_,?_,?_⟩<;>(try simp only [Ls])<;>first | omega | assumption | simp) (by(try simp only [Ls]);omega)
   ·skip
    have h5f:bL a0:=bT (by omega)
    have e:jV a0 a1 a2 (v1,v2)=(.inr (dV a0 a1 a2 v1)):=by simp only [jV,h0,h1,aW]
    rw [aN,e]
    refine ga (t1++[.d h1,.z 17]) [] [0,9,13] [1,2,3,4,5,6] hcx aDs (aDt) (yX a0 a1 a2 (flat fK v1) (v1.length)) (by kernel_rfl) ?_
    exact aJ3 a0 a1 a2 l0 hcx v1 (by refine⟨?_,?_⟩<;>(try simp only [Ls])<;>first | omega | assumption | simp)
  | false =>
   have q0:=eH h0
   have h5f:bL a0:=bT (by omega)
   have e:=Eq.refl (jV a0 a1 a2 (v1,v2));conv at e=>rhs;simp only [jV,h0,aW]
   rw [aN,e]
   refine ga [.d h0,.z 17] [] [0,9,13] [1,2,3,4,5,6] hcx aDs (aDt) (yX a0 a1 a2 (flat fK v1) (v1.length)) (by kernel_rfl) ?_
   exact aJ3 a0 a1 a2 l0 hcx v1 (by refine⟨?_,?_⟩<;>(try simp only [Ls])<;>first | omega | assumption | simp)
theorem aXb (a0:bE)(a1:Int×Zt×Zt)(a2:Bool)(l0:a0.length<=2^63-1) {cx:Cx} (hcx:cx.base=1):a0.length<=8->Aw.Good Tryz.prog none 9 (bodyPost Tryz.prog Tryz.f4 (RR cx (.v (.bool (fJ a0 a1 a2 ()))) [] [])) cx [] (.c aO0::aO1) (aJ2 a0 a1 a2):=by
 intro hi
 have h5f:bL a0:=bT (by omega)
 have hb2:=fX a0 a1.1
 have hx1:=nT a0 ((aF a0 a1.1).1.1,(aF a0 a1.1).1.2) a1.2.2.1 (bV a1.2.2.2.2 1) hb2.1 hb2.2
 have h88:=(dD (n:=a0.length) (by omega)).1
 have h89:=(dD (n:=a0.length) (by omega)).2.2.1
 cases h0:(((aF a0 a1.1).2:Int) != 0) with
 | true =>
  have q0:=bne_iff_ne.1 h0
  have h5f:bL a0:=bT (by omega)
  have h88:=(dD (n:=a0.length) (by omega)).1
  have h89:=(dD (n:=a0.length) (by omega)).2.2.1
  have e:=Eq.refl (fJ a0 a1 a2 ());conv at e=>rhs;simp only [fJ,h0,aW]
  rw [e]
  exact rt [.d h0] [] [] hcx (by kernel_rfl)
 | false =>
  have q0:=bne_eq_false_iff_eq.1 h0
  have h5f:bL a0:=bT (by omega)
  have h88:=(dD (n:=a0.length) (by omega)).1
  have h89:=(dD (n:=a0.length) (by omega)).2.2.1
  let t1:List (St Tryz.prog):=[.d h0]
  cases h1:(((aQ a0 ((aF a0 a1.1).1.1,(aF a0 a1.1).1.2) a1.2.2.1 (bV a1.2.2.2.2 1)).2:Int) != 0) with
  | true =>
   have q1:=bne_iff_ne.1 h1
   have h5f:bL a0:=bT (by omega)
   have h88:=(dD (n:=a0.length) (by omega)).1
   have h89:=(dD (n:=a0.length) (by omega)).2.2.1
   have e:=Eq.refl (fJ a0 a1 a2 ());conv at e=>rhs;simp only [fJ,h0,h1,aW]
   rw [e]
   exact rt (t1++[.d h1]) [] [] hcx (by kernel_rfl)
  | false =>
   have q1:=bne_eq_false_iff_eq.1 h1
   have h5f:bL a0:=bT (by omega)
   have h88:=(dD (n:=a0.length) (by omega)).1
   have h89:=(dD (n:=a0.length) (by omega)).2.2.1
   let t2:List (St Tryz.prog):=(t1++[.d h1,.c [0,3,4,7] (aWb a0 ((aF a0 a1.1).1.1,(aF a0 a1.1).1.2) (aQ a0 ((aF a0 a1.1).1.1,(aF a0 a1.1).1.2) a1.2.2.1 (bV a1.2.2.2.2 1)).1.2.1 (by(try simp only [Lt]);omega) (by(try simp only [Lt]);omega) (by(try simp only [Lt]);omega) (by(try simp only [Lt]);omega))])
   cases h2:(((gE a0 ((aF a0 a1.1).1.1,(aF a0 a1.1).1.2) (aQ a0 ((aF a0 a1.1).1.1,(aF a0 a1.1).1.2) a1.2.2.1 (bV a1.2.2.2.2 1)).1.2.1).2:Int) != 0) with
   | true =>
    have q2:=bne_iff_ne.1 h2
    have h5f:bL a0:=bT (by omega)
    have h88:=(dD (n:=a0.length) (by omega)).1
    have h89:=(dD (n:=a0.length) (by omega)).2.2.1
    have e:=Eq.refl (fJ a0 a1 a2 ());conv at e=>rhs;simp only [fJ,h0,h1,h2,aW]
    rw [e]
    refine ga (t2++[.d h2,.z 11]) [] [] [] hcx wR (wS) (sN a0 a1 a2) (by kernel_rfl) ?_
    exact aDu a0 a1 a2 l0 hcx trivial
   | false =>
    have q2:=bne_eq_false_iff_eq.1 h2
    have h5f:bL a0:=bT (by omega)
    have h88:=(dD (n:=a0.length) (by omega)).1
    have h89:=(dD (n:=a0.length) (by omega)).2.2.1
    let t3:List (St Tryz.prog):=(t2++[.d h2])
    cases h3:(!(gE a0 ((aF a0 a1.1).1.1,(aF a0 a1.1).1.2) (aQ a0 ((aF a0 a1.1).1.1,(aF a0 a1.1).1.2) a1.2.2.1 (bV a1.2.2.2.2 1)).1.2.1).1) with
    | true =>
     have h5f:bL a0:=bT (by omega)
     have h88:=(dD (n:=a0.length) (by omega)).1
     have h89:=(dD (n:=a0.length) (by omega)).2.2.1
     have e:=Eq.refl (fJ a0 a1 a2 ());conv at e=>rhs;simp only [fJ,h0,h1,h2,h3,aW]
     rw [e]
     refine ga (t3++[.d h3,.z 11]) [] [] [] hcx wR (wS) (sN a0 a1 a2) (by kernel_rfl) ?_
     exact aDu a0 a1 a2 l0 hcx trivial
    | false =>
     have h5f:bL a0:=bT (by omega)
     have h88:=(dD (n:=a0.length) (by omega)).1
     have h89:=(dD (n:=a0.length) (by omega)).2.2.1
     let t4:List (St Tryz.prog):=(t3++[.d h3,.c [5,6,7,8] (C14 (((aQ a0 ((aF a0 a1.1).1.1,(aF a0 a1.1).1.2) a1.2.2.1 (bV a1.2.2.2.2 1)).1.1.1,(aQ a0 ((aF a0 a1.1).1.1,(aF a0 a1.1).1.2) a1.2.2.1 (bV a1.2.2.2.2 1)).1.1.2),(aQ a0 ((aF a0 a1.1).1.1,(aF a0 a1.1).1.2) a1.2.2.1 (bV a1.2.2.2.2 1)).1.2.1,(aQ a0 ((aF a0 a1.1).1.1,(aF a0 a1.1).1.2) a1.2.2.1 (bV a1.2.2.2.2 1)).1.2.2) (by(try simp only [Lt]);omega) (by(try simp only [Lt]);omega) (by(try simp only [Lt]);omega) (by(try simp only [Lt]);omega))])
     cases h4:(decide (((F14 (((aQ a0 ((aF a0 a1.1).1.1,(aF a0 a1.1).1.2) a1.2.2.1 (bV a1.2.2.2.2 1)).1.1.1,(aQ a0 ((aF a0 a1.1).1.1,(aF a0 a1.1).1.2) a1.2.2.1 (bV a1.2.2.2.2 1)).1.1.2),(aQ a0 ((aF a0 a1.1).1.1,(aF a0 a1.1).1.2) a1.2.2.1 (bV a1.2.2.2.2 1)).1.2.1,(aQ a0 ((aF a0 a1.1).1.1,(aF a0 a1.1).1.2) a1.2.2.1 (bV a1.2.2.2.2 1)).1.2.2)):Int) > (W ((a0.length:Int)*(a0.length:Int))))) with
     | true =>
      have q4:=dL h4
      have h5f:bL a0:=bT (by omega)
      have h88:=(dD (n:=a0.length) (by omega)).1
      have h89:=(dD (n:=a0.length) (by omega)).2.2.1
      have e:=Eq.refl (fJ a0 a1 a2 ());conv at e=>rhs;simp only [fJ,h0,h1,h2,h3,h4,aW]
      rw [e]
      refine ga (t4++[.d h4,.z 11]) [] [] [] hcx wR (wS) (sN a0 a1 a2) (by kernel_rfl) ?_
      exact aDu a0 a1 a2 l0 hcx trivial
     | false =>
      have q4:=eH h4
      have h5f:bL a0:=bT (by omega)
      have h88:=(dD (n:=a0.length) (by omega)).1
      have h89:=(dD (n:=a0.length) (by omega)).2.2.1
      have e:=Eq.refl (fJ a0 a1 a2 ());conv at e=>rhs;simp only [fJ,h0,h1,h2,h3,h4,aW]
      rw [e]
      refine en (t4++[.d h4,.p (show(([]:List SV).length=0*10/\(flat fK a0).length=a0.length*10/\(flat fK a0).all SV.one=true/\0+a0.length<=2 ^ 40/\(0+a0.length)*80<=2 ^ 47) from by refine⟨?_,?_,?_,?_,?_⟩<;>first | omega | exact aCo (fun _=>rfl) | (simp [eJ eO];done) | (simp [eJ eO];omega))]) [] [0,2,9,13,14] [2,10,5,6,7,8] hcx aMn (aMo) (aHq a0 a1 a2 (([]:List SV)++(flat fK a0)) (0+a0.length) 0) (tN ((((([]:bE)++a0).length:Nat):Int) - 0)+1) (by kernel_rfl) ?_
      have z0:(([]:List SV)++(flat fK a0))=flat fK (([]:bE)++a0):=(by simp [flat])
      have z1:(0+a0.length)=(([]:bE)++a0).length:=by simp
      rw [z0,z1]
      exact bBe a0 a1 a2 l0 hcx (tN ((((([]:bE)++a0).length:Nat):Int) - 0)+1) (([]:bE)++a0) 0 (by refine⟨?_,?_,?_⟩<;>(try simp only [Ls])<;>first | omega | assumption | simp) (by(try simp only [Ls]);omega)
def aDv (a0:bE)(a1:Int×Zt×Zt)(a2:Bool):Bool :=
 (bif (((lJ ((([]:List Int),([]:aY)),([]:List (Int×Int×Bool)),([]:List (List (Int×Int))))):Int) != 0) then
  (wQ a0 a1 a2 ())
 else
  (bif (!F15) then
   (wQ a0 a1 a2 ())
  else
   (bif (decide (((a0.length:Int):Int) > 8)) then
    true
   else
    (fJ a0 a1 a2 ()))))
theorem bFr (a0:bE)(a1:Int×Zt×Zt)(a2:Bool)(l0:a0.length<=2^63-1):Con Tryz.prog 4 [(.s 0 0 a0.length 10),(.a [(iv a1.1),(iv a1.2.1.1),(iv a1.2.1.2.1),(iv a1.2.1.2.2),(iv a1.2.2.1),(iv a1.2.2.2.1),(iv a1.2.2.2.2)]),(.v (.bool a2))] [(.live false true (flat fK a0))] (.v (.bool (aDv a0 a1 a2))) []:=by
 refine aU Tryz.func4 (by kernel_rfl) fun cx hcx=>?_
 try have h5f:=uW h2
 try have h8:=eH h2
 try have hb2:=(fun _=>fX a0 a1.1) h2
 try have hx1:=(fun _=>nT a0 ((aF a0 a1.1).1.1,(aF a0 a1.1).1.2) a1.2.2.1 (bV a1.2.2.2.2 1) hb2.1 hb2.2) h2
 let t0:List (St Tryz.prog):=[.c [] (aQf ((([]:List Int),([]:aY)),([]:List (Int×Int×Bool)),([]:List (List (Int×Int)))) (by(try simp only [Lt]);omega) (by(try simp only [Lt]);omega) (by(try simp only [Lt]);omega) (by(try simp only [Lt]);omega))]
 cases h0:(((lJ ((([]:List Int),([]:aY)),([]:List (Int×Int×Bool)),([]:List (List (Int×Int))))):Int) != 0) with
 | true =>
  have q0:=bne_iff_ne.1 h0
  try have h5f:=uW h2
  try have h8:=eH h2
  try have hb2:=(fun _=>fX a0 a1.1) h2
  try have hx1:=(fun _=>nT a0 ((aF a0 a1.1).1.1,(aF a0 a1.1).1.2) a1.2.2.1 (bV a1.2.2.2.2 1) hb2.1 hb2.2) h2
  have e:=Eq.refl (aDv a0 a1 a2);conv at e=>rhs;simp only [aDv,h0,aW]
  rw [e]
  refine ga (t0++[.d h0,.z 2]) [] [] [] hcx aHn (aHo) (aDr a0 a1 a2) (by kernel_rfl) ?_
  exact aO2 a0 a1 a2 l0 hcx trivial
 | false =>
  have q0:=bne_eq_false_iff_eq.1 h0
  try have h5f:=uW h2
  try have h8:=eH h2
  try have hb2:=(fun _=>fX a0 a1.1) h2
  try have hx1:=(fun _=>nT a0 ((aF a0 a1.1).1.1,(aF a0 a1.1).1.2) a1.2.2.1 (bV a1.2.2.2.2 1) hb2.1 hb2.2) h2
  let t1:List (St Tryz.prog):=(t0++[.d h0,.c [] (C15)])
  cases h1:(!F15) with
  | true =>
   try have h5f:=uW h2
   try have h8:=eH h2
   try have hb2:=(fun _=>fX a0 a1.1) h2
   try have hx1:=(fun _=>nT a0 ((aF a0 a1.1).1.1,(aF a0 a1.1).1.2) a1.2.2.1 (bV a1.2.2.2.2 1) hb2.1 hb2.2) h2
   have e:=Eq.refl (aDv a0 a1 a2);conv at e=>rhs;simp only [aDv,h0,h1,aW]
   rw [e]
   refine ga (t1++[.d h1,.z 2]) [] [] [] hcx aHn (aHo) (aDr a0 a1 a2) (by kernel_rfl) ?_
   exact aO2 a0 a1 a2 l0 hcx trivial
  | false =>
   try have h5f:=uW h2
   try have h8:=eH h2
   try have hb2:=(fun _=>fX a0 a1.1) h2
   try have hx1:=(fun _=>nT a0 ((aF a0 a1.1).1.1,(aF a0 a1.1).1.2) a1.2.2.1 (bV a1.2.2.2.2 1) hb2.1 hb2.2) h2
   let t2:List (St Tryz.prog):=(t1++[.d h1])
   cases h2:(decide (((a0.length:Int):Int) > 8)) with
   | true =>
    have q2:=dL h2
    try have h5f:=uW h2
    try have h8:=eH h2
    try have hb2:=(fun _=>fX a0 a1.1) h2
    try have hx1:=(fun _=>nT a0 ((aF a0 a1.1).1.1,(aF a0 a1.1).1.2) a1.2.2.1 (bV a1.2.2.2.2 1) hb2.1 hb2.2) h2
    have e:=Eq.refl (aDv a0 a1 a2);conv at e=>rhs;simp only [aDv,h0,h1,h2,aW]
    rw [e]
    exact rt (t2++[.d h2]) [] [] hcx (by kernel_rfl)
   | false =>
    have q2:=eH h2
    try have h5f:=uW h2
    try have h8:=eH h2
    try have hb2:=(fun _=>fX a0 a1.1) h2
    try have hx1:=(fun _=>nT a0 ((aF a0 a1.1).1.1,(aF a0 a1.1).1.2) a1.2.2.1 (bV a1.2.2.2.2 1) hb2.1 hb2.2) h2
    have e:=Eq.refl (aDv a0 a1 a2);conv at e=>rhs;simp only [aDv,h0,h1,h2,aW]
    rw [e]
    refine ga (t2++[.d h2,.c [0] (bDa a0 a1.1 (by omega)),.c [0,2,3] (bDs a0 ((aF a0 a1.1).1.1,(aF a0 a1.1).1.2) a1.2.2.1 (bV a1.2.2.2.2 1) (by(try simp only [Lt]);omega) (by(try simp only [Lt]);omega) (by(try simp only [Lt]);omega)),.z 7]) [] [0,2,7,8,9,10] [4,9,2,3,5,6,7,8] hcx aO0 (aO1) (aJ2 a0 a1 a2) (by kernel_rfl) ?_
    exact aXb a0 a1 a2 l0 hcx (by(try simp only [Ls]);omega)
theorem aXc {n:Nat} (m:Nat)(c:Nat):(row n m 0 n).count (c:Int)=if m*n<=c/\c < m*n+n then 1 else 0:=by
 have key:∀d:Nat,(((List.range d).map (fun j:Nat=>(0:Int)+(j:Int))).map (fun k=>(m:Int)*(n:Int)+k)).count (c:Int)=if m*n<=c/\c < m*n+d then 1 else 0:=by
  intro d
  induction d with
  | zero=>rw [if_neg (by omega)];rfl
  | succ d ih =>
   rw [List.range_succ,List.map_append,List.map_append,List.count_append,ih]
   simp only [List.map_cons,List.map_nil,List.count_cons,List.count_nil]
   have e:(m:Int)*(n:Int)=((m*n:Nat):Int):=(Int.natCast_mul m n).symm
   by_cases h:c=m*n+d
   ·rw [if_neg (by omega),if_pos (by rw [beq_iff_eq,e];omega),if_pos (by omega)]
   ·rw [if_neg (c:=((m:Int)*(n:Int)+(0+(d:Int)) == (c:Int))=true) (by rw [beq_iff_eq,e];omega)]
    split<;>split<;>omega
 unfold row rg
 rw [show tN ((n:Int) - 0)=n by omega]
 exact key n
theorem aXd {n:Nat} (m:Nat)(c:Nat):((rg 0 (m:Int)).flatMap fun a=>row n a 0 n).count (c:Int)=if c < m*n then 1 else 0:=by
 induction m with
 | zero=>rw [aDb (by omega),if_neg (by omega)];rfl
 | succ m ih =>
  rw [←aL6 (f:=0) (c:=(m:Int)) (u:=((m+1:Nat):Int)) (by omega),List.flatMap_append,List.count_append,ih,vZ (f:=(m:Int)) (by omega),aDb (by omega),List.flatMap_cons,List.flatMap_nil,List.append_nil,aXc,Nat.succ_mul]
  split<;>split<;>split<;>omega
theorem aUm {l:bR} [bL l] {t:TR} {b:LBK} (hc:eG l (t.1,t.2)=0)(hall:∀x∈b,okb t x=true)(h1:∀c:Nat,c < l.length*l.length->(b.flatMap (mN l.length t.2)).count (c:Int)=1):gE l t b=(true,0):=by
 obtain⟨ht,hl,_,hk⟩:=kO (t:=t) hc
 have hq:=dD (n:=l.length) hl
 unfold gE
 rw [lZ,hc,show((0:Int) != 0)=false from rfl,cond_false,hq.1]
 have hN:tN ((l.length:Int)*(l.length:Int))=l.length*l.length:=by omega
 rw [hN]
 have r1:=aS9 (l:=l) (t:=t) (b:=b) hl ht hk _ _ (List.replicate (l.length*l.length) 0) 0 rfl (Nat.zero_le _) (show b.length - 0 < tN ((b.length:Int) - 0)+1 by omega)
 rw [List.drop_zero] at r1
 refine r1.trans ?_
 rw [aTa b _ hall]
 have e2:∀c∈b.flatMap (mN l.length t.2),0<=c/\c < (l.length:Int)*l.length:=by
  intro c hc
  obtain⟨x,hx,hc⟩:=List.mem_flatMap.1 hc
  exact(aTb ht hk (hall x hx)).2 c hc
 generalize b.flatMap (mN l.length t.2)=L at *
 have zr:∀i:Nat,(List.replicate (l.length*l.length) (0:Int)).getD i dF=0:=by
  intro i;rw [cV,List.getElem?_replicate];split<;>rfl
 have hp1:=aJg L (List.replicate (l.length*l.length) 0) (fun c hc=>by rw [List.length_replicate];have:=e2 c hc;omega) (fun i _=>by rw [zr i];omega)
 cases c:nS L (List.replicate (l.length*l.length) 0) with
 | none =>
  rw [c] at hp1
  obtain⟨i,g1,g2⟩:=hp1
  rw [List.length_replicate] at g1
  rw [zr,h1 i g1] at g2
  omega
 | some D' =>
  rw [c] at hp1
  obtain⟨g1,g2,g3⟩:=hp1
  rw [List.length_replicate] at g1
  show((!(tL D' 0)),(0:Int))=(true,0)
  cases hc3:tL D' 0 with
  | false=>rfl
  | true =>
   obtain⟨j,hj,e⟩:=aWd.1 hc3
   rw [g2,zr,h1 j (by omega)] at e
   omega
theorem aQg (b:LBK):nA b b=true:=by
 have run:∀(d n i:Nat),b.length - i=d->i<=b.length->d < n->aA (oJ b b) n (i:Int)=true:=by
  intro d
  induction d with
  | zero =>
   intro n i hd hi hn
   obtain⟨n,rfl⟩:∃q,n=q+1:=⟨n - 1,by omega⟩
   refine aC ?_
   simp only [oJ]
   rw [cC (show ¬(i:Int) < (b.length:Int) by omega)]
   rfl
  | succ d ih =>
   intro n i hd hi hn
   obtain⟨n,rfl⟩:∃q,n=q+1:=⟨n - 1,by omega⟩
   rw [←ih n (i+1) (by omega) (by omega) (by omega)]
   refine aB ?_
   simp only [oJ]
   rw [bG (show(i:Int) < (b.length:Int) by omega)]
   simp
 unfold nA
 rw [show(((b.length:Int):Int) != (b.length:Int))=false by simp,cond_false]
 exact run _ _ 0 rfl (Nat.zero_le _) (by omega)
section
variable {l l' : bR} (hs : aJ1 l l')
include hs
theorem aUn (k:Int)(ns:List Int):mM l' k ns=mM l k ns:=by
 have e:∀x y,sP (cOf l' k) x y=sP (cOf l k) x y:=fun x y=>by
  have hk:∀z,kk (cOf l' k) z=kk (cOf l k) z:=fun z=>by
   simp only [kk,cOf,gI,hs.2]
  cases h:sP (cOf l k) x y with
  | true=>rw [aAw] at h ⊢;rw [hk,hk];exact h
  | false=>rw [aI1] at h ⊢;rw [hk,hk];exact h
 unfold mM
 rw [show(fun x y=>!sP (cOf l' k) y x)=(fun x y=>!sP (cOf l k) y x) from funext fun x=>funext fun y=>by rw [e]]
theorem yY (ns:List Int)(k:Int):bC l' ns k=bC l ns k:=by
 have e:cH l' ns k=cH l ns k:=by
  funext ⟨v1,v2,v3⟩
  simp only [cH,hs.2]
 unfold bC
 rw [e]
theorem aUo (ns:List Int):aG l' ns=aG l ns:=by
 have hk:∀(i:Nat) (k:Int),iS (l'.getD i dF) k=iS (l.getD i dF) k:=fun i k=>by
  simp only [iS,hs.2]
 have e1:dC l' ns=dC l ns:=by
  funext ⟨v1,v2,v3,v4,v5,v6⟩
  simp only [dC,hk]
 have e:fA l' ns=fA l ns:=by
  funext ⟨v1,v2,v3⟩
  simp only [fA,hk,e1]
 unfold aG
 rw [e]
theorem aQh (ns:List Int):sS l' ns=sS l ns:=by
 unfold sS
 rw [yY hs,yY hs,yY hs]
end
theorem aJ4 {l:bR} {ns:List Int} (hv:sR l)(hi:InR l.length ns)(hn:ns.length<=96):sR (cN l ns)/\rC (cN l ns) (sS l ns)=0:=by
 have hlen:(cN l ns).length=ns.length:=by rw [kP];simp
 have hvp:sR (cN l ns):=by
  refine⟨by omega,fun k hk=>?_⟩
  rw [hlen] at hk
  rw [show(cN l ns).getD k dF=l.getD (tN (ns.getD k dF)) dF from by rw [kP];simp [cV,hk]]
  have:=hi.at hk
  exact hv.2 _ (by omega)
 refine⟨hvp,?_⟩
 unfold rC
 rw [←nO,aOt hvp,(zX (sS l ns)).2 ⟨pJ hv hi 0,pJ hv hi 1,pJ hv hi 2⟩];rfl
theorem aJ5 {l l':bR} (hs:aJ1 l l')(hv:sR l)(hv':sR l') {ns:List Int} (hi:InR l.length ns)(hn:ns.length<=96)(fr lt rt:Int):zW l' ns fr lt rt=zW l ns fr lt rt:=by
 have g:=(aJ4 hv hi hn).2
 have g':=(aJ4 hv' (by rw [hs.1];exact hi) hn).2
 have hp:∀j:Nat,((cN l' ns).getD j dF).1=((cN l ns).getD j dF).1:=fun j=>by
  rw [kP,kP]
  by_cases hj:j < ns.length
  ·have e:∀q:bR,(ns.map (fun a=>q.getD (tN a) dF)).getD j dF=q.getD (tN (ns.getD j dF)) dF:=fun q=>by simp [cV,hj]
   rw [e,e];exact hs.2 _
  ·have e:∀q:bR,(ns.map (fun a=>q.getD (tN a) dF)).getD j dF=dF:=fun q=>by
    rw [cV,List.getElem?_eq_none (by rw [List.length_map];omega)];rfl
   rw [e,e]
 have hl:(cN l' ns).length=(cN l ns).length:=by rw [kP,kP];simp
 unfold zW
 rw [aQh hs] at g' ⊢
 have e:jT (cN l' ns) (sS l ns)=jT (cN l ns) (sS l ns):=by
  have es:gM (cN l' ns) (sS l ns)=gM (cN l ns) (sS l ns):=by
   funext ⟨v1,v2⟩
   simp only [gM,hp,hl]
  unfold jT
  rw [g,g',es,hl]
 rw [e]
theorem aHr {l l':bR} (hs:aJ1 l l')(hv:sR l)(hv':sR l') {leaf:Int}:∀(n:Nat) (ns:List Int) (fr a:Int),InR l.length ns->ns.length<=96->GT l' leaf n ns fr a=GT l leaf n ns fr a
 | 0,_,_,_,_,_=>rfl
 | n+1,ns,fr,a,hi,hn=>by
  by_cases h0:(ns.length:Int)<=leaf
  ·rw [iZ h0,iZ h0,aJ5 hs hv hv' hi hn]
  ·rw [jA h0,jA h0,aUo hs,aUn hs]
   have hsl:=jY l (aG l ns) ns
   have hir:InR l.length (mM l (aG l ns) ns):=aNs hi
   generalize mM l (aG l ns) ns=s at *
   have i1:InR l.length (s.take ((ns.length+1) / 2)):=fun x hx=>hir x (List.mem_of_mem_take hx)
   have i2:InR l.length (s.drop ((ns.length+1) / 2)):=fun x hx=>hir x (List.mem_of_mem_drop hx)
   rw [aHr hs hv hv' n _ _ _ i1 (by rw [List.length_take];omega),aHr hs hv hv' n _ _ _ i2 (by rw [List.length_drop];omega),aJ5 hs hv hv' hi hn]
theorem aXe {l l':bR} (hs:aJ1 l l')(hv:sR l)(hv':sR l')(leaf:Int):BT l' leaf=BT l leaf:=by
 unfold BT
 rw [hs.1,aHr hs hv hv' _ _ _ _ (rG _) (by rw [dA];exact hv.1)]
theorem bEg {l:bR} (hv:sR l) {leaf:Int} (h1:1<=leaf)(h2:leaf<=16):eG l (BT l leaf)=0:=by
 unfold eG
 rw [←nO,aOt hv,show(((0:Int):Int) != 0)=false from rfl,cond_false]
 have lp:∀(d n:Nat) (v:Int),v+d=leaf->1<=v->d < n->aA (eW l (BT l leaf)) n v=0:=by
  intro d
  induction d with
  | zero =>
   intro n v hv1 hv2 hn
   obtain⟨n,rfl⟩:∃x,n=x+1:=⟨n - 1,by omega⟩
   obtain rfl:v=leaf:=by omega
   refine aC ?_
   simp only [eW]
   rw [bG (by omega),cond_true,aC5 l hv.1 h1,show F20 ((BT l v).1,(BT l v).2) ((BT l v).1,(BT l v).2)=true from aLu _,cond_true]
  | succ d ih =>
   intro n v hv1 hv2 hn
   obtain⟨n,rfl⟩:∃x,n=x+1:=⟨n - 1,by omega⟩
   cases hc:F20 ((BT l leaf).1,(BT l leaf).2) ((vV l v).1,(vV l v).2) with
   | true =>
    refine aC ?_
    simp only [eW]
    rw [bG (by omega),cond_true,hc,cond_true]
   | false =>
    have e:eW l (BT l leaf) v=.inl (v+1):=by
     simp only [eW]
     rw [bG (by omega),cond_true,hc,cond_false]
    rw [aB e]
    exact ih n (v+1) (by omega) (by omega) (by omega)
 exact lp (tN (leaf - 1)) _ 1 (by omega) (Int.le_refl _) (by omega)
end Go.Proofs.YtlckcjfbjnjfhaaGreat
namespace Go.Proofs.YtlckcjfbjnjfhaaGreat
open Go.Proofs Go.Aw Go.RowKit
set_option maxRecDepth 100000
theorem aXf {a:iU} (h:vs a):F94 a=true:=by
 unfold F94
 rw [bG (show a.1≥-1099511627776 from h.1),bG h.2.1,bG h.2.2];rfl
section
variable {l : bR} {o : lI}
theorem aUp (v:Int)(hg:∀i,i < (o.2.2.getD (tN v) dF).length->F94 ((o.2.2.getD (tN v) dF).getD i dF)=true) :
 ∀(d n k:Nat),k+d=(o.2.2.getD (tN v) dF).length->d < n->aA (gG l o) n (v,(k:Int))=.inl (v+1)
 | 0,n,k,hk,hn=>by
  obtain⟨n,rfl⟩:∃x,n=x+1:=⟨n - 1,by omega⟩
  refine aC ?_
  simp only [gG]
  rw [cC (by omega),cond_false]
 | d+1,n,k,hk,hn=>by
  obtain⟨n,rfl⟩:∃x,n=x+1:=⟨n - 1,by omega⟩
  have e:gG l o (v,(k:Int))=.inl (v,((k+1:Nat):Int)):=by
   simp only [gG,eX]
   rw [bG (by omega),cond_true,hg k (by omega)];rfl
  rw [aB e]
  exact aUp v hg d n (k+1) (by omega) (by omega)
theorem aUq (hg:∀j,j < o.2.2.length->GD o j):∀(d n j:Nat),j+d=o.2.2.length->d < n->aA (gX l o) n (j:Int)=0
 | 0,n,j,hj,hn=>by
  obtain⟨n,rfl⟩:∃x,n=x+1:=⟨n - 1,by omega⟩
  refine aC ?_
  simp only [gX]
  rw [cC (by omega),cond_false]
 | d+1,n,j,hj,hn=>by
  obtain⟨n,rfl⟩:∃x,n=x+1:=⟨n - 1,by omega⟩
  obtain⟨g1,g2⟩:=hg j (by omega)
  have e:gX l o (j:Int)=.inl ((j+1:Nat):Int):=by
   simp only [gX]
   rw [bG (by omega),cond_true,show(((((o.2.2.getD (tN (j:Int)) dF).length:Nat):Int):Int) != (F93 (o.1.1,o.1.2) (o.2.1.getD (tN (j:Int)) dF)))=false from bne_eq_false_iff_eq.2 (by rw [eX];exact g1),cond_false]
   exact aUp (l:=l) (j:Int) (by rw [eX];exact g2) (o.2.2.getD (tN (j:Int)) dF).length _ 0 (by omega) (by omega)
  rw [aB e]
  exact aUq hg d n (j+1) (by omega) (by omega)
theorem aUr {sep:Int} (hb:o.2.1=F85 (o.1.1,o.1.2) sep)(h16:sep<=16)(hl:o.2.2.length=o.2.1.length)(hg:∀j,j < o.2.2.length->GD o j) :
 ∀(n:Nat) (v1:Bool) (v2:Int),(v1=true\/v2<=sep)->tN (17 - v2) < n->aA (lD l o) n (v1,v2)=0
 | 0,_,_,_,hn=>absurd hn (fO _)
 | n+1,v1,v2,hv,hn=>by
  have h1:=aUq (l:=l) hg o.2.2.length (tN ((o.2.2.length:Int) - 0)+1) 0 (by omega) (by omega)
  have hne:(((o.2.2.length:Int):Int) != (o.2.1.length:Int))=false:=bne_eq_false_iff_eq.2 (by rw [hl])
  cases v1 with
  | true =>
   refine aC ?_
   simp only [lD]
   rw [Bool.not_true,cond_false,cond_false,hne,cond_false]
   rw [show aA (gX l o) (tN ((o.2.2.length:Int) - 0)+1) 0=0 from h1]
   cases decide (v2<=16)<;>rfl
  | false =>
   have hv2:v2<=sep:=by
    rcases hv with h | h
    ·cases h
    ·exact h
   have e:lD l o (false,v2)=.inl (nA o.2.1 (F85 (o.1.1,o.1.2) v2),v2+1):=by
    simp only [lD]
    rw [bG (by omega),cond_true];rfl
   rw [aB e]
   refine aUr hb h16 hl hg n _ _ ?_ (by omega)
   by_cases h:v2=sep
   ·left;rw [h,←hb];exact aQg _
   ·right;omega
end
theorem bEh {l:bR} {o:lI} {sep:Int} (hc:eG l o.1=0)(hb:o.2.1=F85 o.1 sep)(h1:1<=sep)(h16:sep<=16)(hl:o.2.2.length=o.2.1.length)(hg:∀j,j < o.2.2.length->GD o j):nD l o=0:=by
 unfold nD
 rw [show eG l (o.1.1,o.1.2)=0 from hc,show(((0:Int):Int) != 0)=false from rfl,cond_false]
 exact aUr hb h16 hl hg _ false 1 (.inr h1) (by decide)
def aQi (t:TR)(sep:Int)(x:BK5):Prop:=W ((W ((W ((W ((t.2.getD (tN x.1) dF).2.2.2.2.2+(t.2.getD (tN x.2.1) dF).2.2.2.2.2))*4))*sep))*sep)<=F87 (t.2.getD (tN x.1) dF) (t.2.getD (tN x.2.1) dF)/\F87 (t.2.getD (tN x.1) dF) (t.2.getD (tN x.2.1) dF) > 0
theorem wT (sep:Int):∀(nr:Nat) (t:TR) (i k:Int),∀x∈eE nr t i k sep,x.2.2=true->aQi t sep x
 | 0,_,_,_,x,hx,_=>by
  have:x∈([]:List BK5):=hx
  cases this
 | nr+1,t,i,k,x,hx,hf=>by
  have hA:∀y∈nQ (eE nr) t i k sep++nR (eE nr) t i k sep,y.2.2=true->aQi t sep y:=fun y hy h=>by
   rcases List.mem_append.1 hy with hy | hy
   ·exact wT sep nr t _ _ y hy h
   ·exact wT sep nr t _ _ y hy h
  have hB:∀y∈mB (eE nr) t i k sep++mC (eE nr) t i k sep,y.2.2=true->aQi t sep y:=fun y hy h=>by
   rcases List.mem_append.1 hy with hy | hy
   ·exact wT sep nr t _ _ y hy h
   ·exact wT sep nr t _ _ y hy h
  have hJ:∀y∈iF (eE nr) t i k sep (),y.2.2=true->aQi t sep y:=fun y hy h=>by
   simp only [iF,Bool.cond_eq_ite] at hy
   (repeat' split at hy)<;>first | exact hA y hy h | exact hB y hy h | (rw [List.mem_singleton.1 hy] at h;cases h)
  simp only [eE] at hx
  cases h1:decide (((W ((W ((W ((W ((t.2.getD (tN i) dF).2.2.2.2.2+(t.2.getD (tN k) dF).2.2.2.2.2))*4))*sep))*sep)):Int)<=(rJ t i k sep)) with
  | false=>rw [h1,cond_false] at hx;exact hJ x hx hf
  | true =>
   rw [h1,cond_true] at hx
   cases h2:decide (((rJ t i k sep):Int) > 0) with
   | false=>rw [h2,cond_false] at hx;exact hJ x hx hf
   | true =>
    rw [h2,cond_true] at hx
    rw [List.mem_singleton.1 hx]
    exact⟨dL h1,dL h2⟩
theorem aO3 {t:TR} {sep:Int} {x:BK5} (hx:x∈F85 t sep)(hf:x.2.2=true):aQi t sep x:=by
 unfold F85 at hx
 rw [Bool.cond_eq_ite] at hx
 split at hx
 ·cases hx
 ·exact wT sep _ t 0 0 x hx hf
theorem aUs {Ra Rb n A B d a b:Int} (hR:0<=Ra/\0<=Rb)(hn:4*(Ra+Rb)<=n)(h1:1<=n)(ha:0<=a/\a*a<=Ra*1099511627776)(hb:0<=b/\b*b<=Rb*1099511627776)(hA:A<=a+1)(hB:B<=b+1)(hd:0<=d/\n*1099511627776 < (d+1)*(d+1)):1000<=d - (A+B):=by
 have e1:(d+1)*(d+1)=d*d+2*d+1:=by grind
 have d0:1048576<=d:=by
  rcases Int.lt_or_le d 1048576 with h | h
  ·have:=Int.mul_le_mul (show d+1<=1048576 by omega) (show d+1<=1048576 by omega) (by omega) (by omega)
   omega
  ·exact h
 have dd:=Int.mul_le_mul_of_nonneg_right d0 hd.1
 rcases Int.lt_or_le (d - (A+B)) 1000 with h | h
 ·exfalso
  have h2:=Int.mul_le_mul (show d - 1001<=a+b by omega) (show d - 1001<=a+b by omega) (by omega) (by omega)
  have e2:(d - 1001)*(d - 1001)=d*d - 2002*d+1002001:=by grind
  have e3:(a+b)*(a+b)+(a - b)*(a - b)=2*(a*a)+2*(b*b):=by grind
  have e4:=dP (a - b)
  omega
 ·exact h
def SmS (s:iU):Prop:=0<=s.1/\s.1<=s.2/\s.2<=1100000000
theorem SmS.val {s:iU} (h:SmS s):vs s:=by unfold SmS at h;unfold vs;omega
theorem aUt {a b:ND} {sep:Int} (h:(fsV a b).2=0)(hs:1<=sep/\sep<=16)(hf:W ((W ((W ((W (a.2.2.2.2.2+b.2.2.2.2.2))*4))*sep))*sep)<=F87 a b/\F87 a b > 0):SmS (fsV a b).1:=by
 unfold fsV at h ⊢
 by_cases hk:knw a/\knw b
 ·rw [if_pos hk] at h ⊢
  simp only at h ⊢
  obtain⟨_,d0,d1⟩:=aWf hk.1.2 hk.2.2
  have na:=hk.1.1;have nb:=hk.2.1
  have ea:F87 a b=ds a.2.2.2.2.1 b.2.2.2.2.1:=aWg hk.1.2 hk.2.2
  rw [ea] at hf
  have m1:=Int.mul_le_mul_of_nonneg_left hs.2 (show 0<=(a.2.2.2.2.2+b.2.2.2.2.2)*4 by omega)
  have m2:=Int.mul_le_mul_of_nonneg_left hs.1 (show 0<=(a.2.2.2.2.2+b.2.2.2.2.2)*4 by omega)
  have m3:=Int.mul_le_mul_of_nonneg_left hs.2 (show 0<=(a.2.2.2.2.2+b.2.2.2.2.2)*4*sep by omega)
  have m4:=Int.mul_le_mul_of_nonneg_left hs.1 (show 0<=(a.2.2.2.2.2+b.2.2.2.2.2)*4*sep by omega)
  rw [aH (n:=a.2.2.2.2.2+b.2.2.2.2.2) (by omega) (by omega),aH (n:=(a.2.2.2.2.2+b.2.2.2.2.2)*4) (by omega) (by omega),aH (n:=(a.2.2.2.2.2+b.2.2.2.2.2)*4*sep) (by omega) (by omega),aH (n:=(a.2.2.2.2.2+b.2.2.2.2.2)*4*sep*sep) (by omega) (by omega)] at hf
  have uA:=aQd (n:=a.2.2.2.2.2*1099511627776) (by omega) (by omega)
  have uB:=aQd (n:=b.2.2.2.2.2*1099511627776) (by omega) (by omega)
  have uD:=aQd (n:=ds a.2.2.2.2.1 b.2.2.2.2.1*1099511627776) (by omega) (by omega)
  have rA:=yJ (n:=a.2.2.2.2.2*1099511627776) (by omega) (by omega)
  have rB:=yJ (n:=b.2.2.2.2.2*1099511627776) (by omega) (by omega)
  have rD:=yJ (n:=ds a.2.2.2.2.1 b.2.2.2.2.1*1099511627776) (by omega) (by omega)
  have hA:=rt2 (n:=a.2.2.2.2.2*1099511627776) (by omega) (by omega)
  have hB:=rt2 (n:=b.2.2.2.2.2*1099511627776) (by omega) (by omega)
  have hD:=rt2 (n:=ds a.2.2.2.2.1 b.2.2.2.2.1*1099511627776) (by omega) (by omega)
  generalize hn:ds a.2.2.2.2.1 b.2.2.2.2.1=n at *
  have gap:=aUs (Ra:=a.2.2.2.2.2) (Rb:=b.2.2.2.2.2) (n:=n) (A:=gU (a.2.2.2.2.2*1099511627776)) (B:=gU (b.2.2.2.2.2*1099511627776)) (d:=mJ (n*1099511627776)) (by omega) (by omega) (by omega) ⟨rA.1,rA.2.1⟩ ⟨rB.1,rB.2.1⟩ (by omega) (by omega) ⟨rD.1,rD.2.2⟩
  generalize gU (a.2.2.2.2.2*1099511627776)=A at *
  generalize gU (b.2.2.2.2.2*1099511627776)=B at *
  generalize gU (n*1099511627776)=D at *
  generalize mJ (n*1099511627776)=d at *
  by_cases hc:d<=A+B
  ·rw [if_pos hc] at h;cases h
  ·rw [if_neg hc]
   generalize hT:D+(A+B)=T
   generalize hh:d - (A+B)=g at *
   have T0:0 < T:=by omega
   have g0:0 < g:=by omega
   have hb1:1099511627776+d - (A+B) - 1=1099511627776+g - 1:=by omega
   have l0:0<=(1099511627776:Int) / T:=Int.ediv_nonneg (by omega) (by omega)
   have l1:(1099511627776:Int) / T<=1099511627776:=Int.ediv_le_self _ (by omega)
   have m0:0<=(1099511627776+g - 1) / g:=Int.ediv_nonneg (by omega) (by omega)
   have mu:(1099511627776+g - 1) / g < 1100000001:=Int.ediv_lt_of_lt_mul g0 (by omega)
   rw [hb1,Int.tdiv_eq_ediv_of_nonneg (by omega),Int.tdiv_eq_ediv_of_nonneg (by omega),aH (n:=1099511627776 / T) (by omega) (by omega),aH (n:=(1099511627776+g - 1) / g) (by omega) (by omega)]
   refine⟨l0,?_,by simp only;omega⟩
   have k1:=Int.ediv_mul_le (1099511627776:Int) (show T≠0 by omega)
   have k2:(1099511627776:Int) / T*g<=1099511627776 / T*T:=Int.mul_le_mul_of_nonneg_left (by omega) l0
   show(1099511627776:Int) / T<=(1099511627776+g - 1) / g
   exact Int.le_ediv_of_mul_le g0 (by omega)
 ·rw [if_neg hk] at h;cases h
theorem bBf {l:bR} [bL l] {t:TR} {sep d:Int} {o:lI} (h:aQ l t sep d=(o,0))(hsep:1<=sep/\sep<=16):∀j,j < o.2.1.length->GdB (fun _ _ s=>SmS s) o j:=by
 obtain⟨hc,_,e1,e2,ha⟩:=aDp h
 have hck:=kA hc
 have ho:=(mE hc).2.2.2.1
 obtain⟨_,_,hal⟩:=aJz ha
 subst e1
 intro j hj p q hpq
 have hbf:=yK hc (j:=(j:Int)) (by omega) (by rw [←e2];omega)
 rw [eX,←e2] at hbf
 have hcl:=hal j hj
 rw [List.length_nil,Nat.zero_add] at hcl
 have hbm:o.2.1.getD j dF∈F85 o.1 sep:=by
  rw [←jC sep hck,←e2,cV,List.getElem?_eq_getElem hj]
  exact List.getElem_mem hj
 generalize o.2.1.getD j dF=b at *
 obtain⟨x1,x2,x3,x4⟩:=hbf
 rcases aUe hcl ⟨x3.1,x3.2.2⟩ ⟨x4.1,x4.2.2⟩ hpq.1 hpq.2 with⟨g0,g1,g2⟩ | ⟨_,g1,g2⟩
 ·rw [g2]
  exact aUt g1 hsep (aO3 hbm g0)
 ·rw [g2]
  unfold btw at g1 ⊢
  rw [←pF] at g1 ⊢
  obtain⟨p1,p2,p3,e⟩:=aJ0 g1
  rw [e]
  have:=aGl (q:=tmP (sc d) (l.getD (tN (o.1.1.getD (tN q) dF)) dF).1) p1 (show 0<=d/\d<=3 by omega)
  unfold okE at this
  exact⟨this.1,this.2.1,by simp only;omega⟩
end Go.Proofs.YtlckcjfbjnjfhaaGreat
namespace Go.Proofs.YtlckcjfbjnjfhaaGreat
open Go.Proofs Go.Aw Go.RowKit
set_option maxRecDepth 100000
theorem aUu {x n:Int} (hx:0<=x/\x<=1100000000)(hn:-100<=n/\n<=100):pV x n=x*n/\-110000000000<=x*n/\x*n<=110000000000:=by
 have h:=cL (a:=1100000000) (b:=100) (x:=x) (y:=n) (by omega) (by omega)
 refine⟨?_,by omega,by omega⟩
 unfold pV
 rw [if_neg (by omega),if_neg (by omega)]
theorem bBg {a:iU} {n:Int} (h:SmS a)(hn:-100<=n/\n<=100):∃s:iU,xT a n=(s,0)/\vs s/\-110000000000<=s.1/\s.2<=110000000000:=by
 obtain⟨h1,h2,h3⟩:=h
 obtain⟨a1,a2,a4⟩:=aUu (x:=a.1) (by omega) hn
 obtain⟨b1,b2,b4⟩:=aUu (x:=a.2) (by omega) hn
 rw [aNj (a:=a) (by unfold vs;omega) (by omega)]
 unfold scl
 by_cases hz:n < 0
 ·rw [if_pos hz,a1,b1]
  have:=Int.mul_le_mul_of_nonpos_right h2 (show n<=0 by omega)
  exact⟨(a.2*n,a.1*n),aCi (by simp only;omega) (by simp only;omega) (by simp only;omega),⟨by simp only;omega,by simp only;omega,by simp only;omega⟩,by simp only;omega,by simp only;omega⟩
 ·rw [if_neg hz,a1,b1]
  have:=Int.mul_le_mul_of_nonneg_right h2 (show 0<=n by omega)
  exact⟨(a.1*n,a.2*n),aCi (by simp only;omega) (by simp only;omega) (by simp only;omega),⟨by simp only;omega,by simp only;omega,by simp only;omega⟩,by simp only;omega,by simp only;omega⟩
section
variable {l : bR} {m : List (List (Int × Int))}
theorem aXg (hl:l.length<=8)(hq:∀i,i < l.length->-100<=(l.getD i dF).2/\(l.getD i dF).2<=100) {j:Nat} (hm:∀i,i < l.length->SmS ((m.getD i []).getD j dF))(v:List (Int×Int))(n:Nat)(hn:l.length < n) :
 ∃s:Int×Int,aA (bU l m) n (v,[],(j:Int),(j:Int),0)=.inl (v++[s],((j+1:Nat):Int)):=by
 refine iR (S:=bU l m) (fun x=>l.length - tN x.2.2.2.2) (fun x=>x.1=v/\x.2.2.1=(j:Int)/\x.2.2.2.1=(j:Int)/\0<=x.2.2.2.2/\x.2.2.2.2<=(l.length:Int)/\x.2.1.length=tN x.2.2.2.2/\(∀a∈x.2.1,vs a)/\-110000000000*x.2.2.2.2<=(iG x.2.1 (0,0)).1/\(iG x.2.1 (0,0)).1<=(iG x.2.1 (0,0)).2/\(iG x.2.1 (0,0)).2<=110000000000*x.2.2.2.2)
  (fun r=>∃s:Int×Int,r=.inl (v++[s],((j+1:Nat):Int))) ?_ n (v,[],(j:Int),(j:Int),0) ⟨rfl,rfl,rfl,Int.le_refl _,by simp only;omega,rfl,fun a ha=>(by cases ha),by simp [iG],by simp [iG],by simp [iG]⟩ (by simp only;omega)
 rintro ⟨x1,x2,x3,x4,x5⟩ ⟨h1,h2,h3,h5,h6,h7,h8,h9,h10,h11⟩
 simp only at h1 h2 h3 h5 h6 h7 h8 h9 h10 h11
 subst h1 h2 h3
 simp only [bU]
 by_cases hb:x5 < (l.length:Int)
 ·rw [bG hb,cond_true,eX]
  have hg:=hm (tN x5) (by omega)
  change SmS ((m.getD (tN x5) dF).getD j dF) at hg
  obtain⟨s,e,s1,s2,s3⟩:=bBg hg (hq (tN x5) (by omega))
  rw [e]
  refine .inl ⟨(x1,x2++[s],(j:Int),(j:Int),x5+1),rfl,⟨rfl,rfl,rfl,by simp only;omega,by simp only;omega,by simp only [List.length_append,List.length_singleton];omega,fun a ha=>?_,?_⟩,by simp only;omega⟩
  ·rcases List.mem_append.1 ha with ha | ha
   ·exact h8 a ha
   ·rw [List.mem_singleton.1 ha];exact s1
  ·have:=s1.2.1
   simp only
   rw [aIw]
   simp only [iG,Int.zero_add]
   refine⟨by omega,by omega,by omega⟩
 ·have hx:x5=(l.length:Int):=by omega
  rw [cC hb,cond_false,aX0 h8 (by omega)]
  have e:aLh x2=(((iG x2 (0,0)).1,(iG x2 (0,0)).2),0):=by
   unfold aLh
   exact aCi (by omega) h10 (by omega)
  rw [e]
  exact .inr ⟨_,rfl,_,rfl⟩
theorem aUv (hl:l.length<=8)(hq:∀i,i < l.length->-100<=(l.getD i dF).2/\(l.getD i dF).2<=100)(hm:∀i j,i < l.length->j < l.length->SmS ((m.getD i []).getD j dF)):(fI l m).2=0:=by
 have key:∀(d n j:Nat) (v:List (Int×Int)),j+d=l.length->d < n->(aA (bF l m) n (v,(j:Int))).2=0:=by
  intro d
  induction d with
  | zero =>
   intro n j v hj hn
   obtain⟨n,rfl⟩:∃x,n=x+1:=⟨n - 1,by omega⟩
   have e:bF l m (v,(j:Int))=.inr (v,0):=by
    simp only [bF]
    rw [cC (by omega),cond_false]
   rw [aC e]
  | succ d ih =>
   intro n j v hj hn
   obtain⟨n,rfl⟩:∃x,n=x+1:=⟨n - 1,by omega⟩
   have e:bF l m (v,(j:Int))=aA (bU l m) (tN ((l.length:Int) - 0)+1) (v,([]:List (Int×Int)),(j:Int),(j:Int),0):=by
    simp only [bF]
    rw [bG (by omega),cond_true]
   obtain⟨s,e2⟩:=aXg hl hq (j:=j) (fun i hi=>hm i j hi (by omega)) v (tN ((l.length:Int) - 0)+1) (by omega)
   rw [e2] at e
   rw [aB e]
   exact ih n (j+1) _ (by omega) (by omega)
 exact key l.length _ 0 [] (by omega) (by omega)
end
theorem aUw {f:Int->List iU} {L:Nat} (hL:∀i,(f i).length=L):∀is:List Int,(is.flatMap f).length=is.length*L
 | []=>by simp
 | i::is=>by rw [List.flatMap_cons,List.length_append,hL,aUw hL is,List.length_cons,Nat.add_mul,Nat.one_mul];omega
theorem aJ6 {l:bR} {t:TR} {d:Int} {b:BK5} {r:List iU} (h:iP l t d b=.inl r)(a1:0<=wV t b/\wV t b<=hi1 t b/\hi1 t b<=t.1.length)(a2:0<=pY t b/\pY t b<=hi2 t b/\hi2 t b<=t.1.length) :
 (r.length:Int)=bif b.2.2 then 1 else(hi1 t b - wV t b)*(hi2 t b - pY t b):=by
 unfold iP at h
 cases hf:b.2.2 with
 | true =>
  rw [hf,cond_true] at h
  cases hz:((fsV (t.2.getD (tN b.1) dF) (t.2.getD (tN b.2.1) dF)).2 != 0) with
  | true=>rw [hz,cond_true] at h;cases h
  | false=>rw [hz,cond_false] at h;cases h;rfl
 | false =>
  rw [hf,cond_false] at h
  obtain⟨g1,_⟩:=aOw h
  have n1:=Aw.part_len (l:=t.1) (a:=wV t b) (b:=hi1 t b) (by omega)
  have n2:=Aw.part_len (l:=t.1) (a:=pY t b) (b:=hi2 t b) (by omega)
  rw [g1,List.nil_append,cond_false]
  have e:=aUw (f:=fun i=>(Aw.part t.1 (pY t b) (hi2 t b)).map (fun k=>(btw l d i k).1)) (L:=(Aw.part t.1 (pY t b) (hi2 t b)).length) (fun i=>by simp) (Aw.part t.1 (wV t b) (hi1 t b))
  refine(congrArg (fun q:Nat=>(q:Int)) e).trans ?_
  rw [Int.natCast_mul,n1,n2,show(((hi1 t b).toNat - (wV t b).toNat:Nat):Int)=hi1 t b - wV t b by omega,show(((hi2 t b).toNat - (pY t b).toNat:Nat):Int)=hi2 t b - pY t b by omega]
theorem aXh {l:bR} {t:TR} {d sep:Int} {b:BK5} {r:List iU} (h:iP l t d b=.inl r)(hs:1<=sep/\sep<=16)(hf:b.2.2=true->aQi t sep b):∀s∈r,vs s:=by
 unfold iP at h
 cases hz:b.2.2 with
 | true =>
  rw [hz,cond_true] at h
  cases h0:((fsV (t.2.getD (tN b.1) dF) (t.2.getD (tN b.2.1) dF)).2 != 0) with
  | true=>rw [h0,cond_true] at h;cases h
  | false =>
   rw [h0,cond_false] at h
   cases h
   intro s hs1
   rw [List.mem_singleton.1 hs1]
   exact(aUt (bne_eq_false_iff_eq.1 h0) hs (hf hz)).val
 | false =>
  rw [hz,cond_false] at h
  obtain⟨g1,g2⟩:=aOw h
  intro s hs1
  rw [g1,List.nil_append] at hs1
  obtain⟨i,hi,hs1⟩:=List.mem_flatMap.1 hs1
  obtain⟨k,hk,rfl⟩:=List.mem_map.1 hs1
  have:=g2 i hi k hk
  unfold btw at this ⊢
  rw [←pF] at this ⊢
  obtain⟨p1,p2,p3,e⟩:=aJ0 this
  rw [e]
  exact aUl (aGl p1 (by omega))
theorem aO4 {l:bR} {t:TR} {sep:Int} (h:dR l t sep=0):1<=sep/\sep<=16:=by
 unfold dR at h
 cases h0:((fC l (t.1,t.2):Int) != 0) with
 | true=>rw [h0,cond_true] at h;exact absurd h (bne_iff_ne.1 h0)
 | false =>
  rw [h0,cond_false] at h
  cases h1:(!(kM sep 1 16)) with
  | true=>rw [h1,cond_true] at h;exact absurd h (by decide)
  | false=>exact rL h1
theorem aQj {l l':bR} [bL l] (hs:aJ1 l l')(hv':sR l') {t:TR} {sep d:Int} {o:lI} (h:aQ l t sep d=(o,0)):nD l' o=0:=by
 obtain⟨hc,_,e1,e2,ha⟩:=aDp h
 have hck:=kA hc
 obtain⟨hv,leaf,hl1,hl2,et⟩:=mA hck
 have hsep:=aO4 hc
 have hd:=mE hc
 obtain⟨al,_,hal⟩:=aJz ha
 subst e1
 have hbl:=jC sep hck
 refine bEh (sep:=sep) ?_ (by rw [e2,hbl]) hsep.1 hsep.2 (by rw [al,List.length_nil,Nat.zero_add]) (fun j hj=>?_)
 ·rw [et,←aXe hs hv hv' leaf]
  exact bEg hv' hl1 hl2
 ·have hj2:j < o.2.1.length:=by rw [al,List.length_nil,Nat.zero_add] at hj;exact hj
  have hbf:=yK hc (j:=(j:Int)) (by omega) (by rw [←e2];omega)
  rw [eX,←e2] at hbf
  have hcl:=hal j hj2
  rw [List.length_nil,Nat.zero_add] at hcl
  have hbm:o.2.1.getD j dF∈F85 o.1 sep:=by
   rw [←hbl,←e2,cV,List.getElem?_eq_getElem hj2]
   exact List.getElem_mem hj2
  unfold GD
  generalize o.2.1.getD j dF=b at *
  obtain⟨x1,x2,x3,x4⟩:=hbf
  refine⟨?_,fun i hi=>aXf (aXh hcl hsep (fun hf=>aO3 hbm hf) _ ?_)⟩
  ·rw [aJ6 hcl x3 x4]
   exact(aOn (t:=(o.1.1,o.1.2)) (b:=b) ⟨x3.1,x3.2.1,by have:=x3.2.2;simp only;omega⟩ ⟨x4.1,x4.2.1,by have:=x4.2.2;simp only;omega⟩).symm
  ·rw [cV (l:=o.2.2.getD j dF),List.getElem?_eq_getElem hi]
   exact List.getElem_mem hi
end Go.Proofs.YtlckcjfbjnjfhaaGreat
namespace Go.Proofs.YtlckcjfbjnjfhaaGreat
open Go.Proofs Go.Aw Go.RowKit
set_option maxRecDepth 100000
def aUx (ss:List (List iU)):Nat:=(ss.map List.length).sum
theorem aUy {o:lI} (h1:o.2.2.length<=9216)(h2:∀r∈o.2.2,r.length<=10000):∀(d n k:Nat) (v:Int),k+d=o.2.2.length->d < n->0<=v->v<=10000*k->aA (rK o) n (v,(k:Int))=v+(aUx (o.2.2.drop k):Nat)
 | 0,n,k,v,hk,hn,v0,v1=>by
  obtain⟨n,rfl⟩:∃x,n=x+1:=⟨n - 1,by omega⟩
  have e:rK o (v,(k:Int))=.inr v:=by
   simp only [rK]
   rw [cC (by omega),cond_false]
  rw [aC e,List.drop_eq_nil_of_le (by omega)]
  simp [aUx]
 | d+1,n,k,v,hk,hn,v0,v1=>by
  obtain⟨n,rfl⟩:∃x,n=x+1:=⟨n - 1,by omega⟩
  have hlt:k < o.2.2.length:=by omega
  have hr:=h2 _ (List.getElem_mem hlt)
  have hg:o.2.2.getD k dF=o.2.2[k]:=by rw [cV,List.getElem?_eq_getElem hlt];rfl
  have e:rK o (v,(k:Int))=.inl (v+(o.2.2[k].length:Nat),((k+1:Nat):Int)):=by
   simp only [rK,eX]
   rw [bG (by omega),cond_true,hg,aH (by omega) (by omega)];rfl
  rw [aB e,aUy h1 h2 d n (k+1) _ (by omega) (by omega) (by omega) (by omega),List.drop_eq_getElem_cons hlt]
  unfold aUx
  rw [List.map_cons,List.sum_cons]
  omega
theorem aXi {o:lI} (h1:o.2.2.length<=9216)(h2:∀r∈o.2.2,r.length<=10000):F14 o=(aUx o.2.2:Nat):=by
 have h:=aUy h1 h2 o.2.2.length (tN ((o.2.2.length:Int) - 0)+1) 0 0 (by omega) (by omega) (Int.le_refl _) (by omega)
 rw [Int.zero_add,List.drop_zero] at h
 exact h
theorem aO5 {α β:Type} [Inhabited α] [Inhabited β] (f:α->Nat)(g:β->Nat):∀(a:List α) (b:List β),a.length=b.length->(∀j,j < a.length->f (a.getD j dF)<=g (b.getD j dF))->(a.map f).sum<=(b.map g).sum
 | [],[],_,_=>Nat.le_refl _
 | x::a,y::b,h,hj=>by
  have h0:=hj 0 (by simp)
  have ih:=aO5 f g a b (by simpa using h) (fun j hlt=>hj (j+1) (by simpa using hlt))
  rw [List.map_cons,List.map_cons,List.sum_cons,List.sum_cons]
  exact Nat.add_le_add h0 ih
theorem aO6 {f:Int->List Int} {L:Nat} (hL:∀i,(f i).length=L):∀is:List Int,(is.flatMap f).length=is.length*L
 | []=>by simp
 | i::is=>by rw [List.flatMap_cons,List.length_append,hL,aO6 hL is,List.length_cons,Nat.add_mul,Nat.one_mul];omega
theorem aO7 (n f u f' u':Int):(cel n f u f' u').length=tN (u - f)*tN (u' - f'):=by
 unfold cel
 rw [aO6 (L:=tN (u' - f')) (fun i=>by unfold row;rw [List.length_map,aS6]),aS6]
theorem bBh {l:bR} [bL l] {t:TR} {sep d:Int} {o:lI} (h:aQ l t sep d=(o,0)):F14 o<=(l.length:Int)*l.length:=by
 obtain⟨hc,_,e1,e2,ha⟩:=aDp h
 have hck:=kA hc
 have hd:=mE hc
 obtain⟨al,_,hal⟩:=aJz ha
 rw [List.length_nil,Nat.zero_add] at al
 have hbl:=jC sep hck
 have hrk:=kO hck
 subst e1
 have hrow:∀r∈o.2.2,r.length<=10000:=fun r hr=>by
  obtain⟨j,hj,rfl⟩:=List.mem_iff_getElem.1 hr
  have:=aTf l o.1 sep d j
  rw [h] at this
  simp only at this
  rw [cV,List.getElem?_eq_getElem hj] at this
  exact this
 rw [aXi (by rw [al,e2];exact hd.2.2.2.2) hrow]
 have hs:=aO5 List.length (fun b=>(mN l.length o.1.2 b).length) o.2.2 o.2.1 al (fun j hj=>by
  have hj2:j < o.2.1.length:=by rw [al] at hj;exact hj
  have hbf:=yK hc (j:=(j:Int)) (by omega) (by rw [←e2];omega)
  rw [eX,←e2] at hbf
  have hcl:=hal j hj2
  rw [List.length_nil,Nat.zero_add] at hcl
  generalize o.2.1.getD j dF=b at *
  obtain⟨x1,x2,x3,x4⟩:=hbf
  have n1:=hrk.2.2.2.2.2 (tN b.1) (by omega)
  have n2:=hrk.2.2.2.2.2 (tN b.2.1) (by omega)
  have hl:=aJ6 hcl x3 x4
  have hb:(mN l.length o.1.2 b).length=tN (hi1 o.1 b - wV o.1 b)*tN (hi2 o.1 b - pY o.1 b):=aO7 _ _ _ _ _
  rw [hb]
  have k1:1<=hi1 o.1 b - wV o.1 b:=by unfold hi1 wV;omega
  have k2:1<=hi2 o.1 b - pY o.1 b:=by unfold hi2 pY;omega
  have hm:((tN (hi1 o.1 b - wV o.1 b)*tN (hi2 o.1 b - pY o.1 b):Nat):Int)=(hi1 o.1 b - wV o.1 b)*(hi2 o.1 b - pY o.1 b):=by
   rw [Int.natCast_mul,Int.toNat_of_nonneg (by omega),Int.toNat_of_nonneg (by omega)]
  have hm1:=Int.mul_le_mul k1 k2 (by omega) (by omega)
  cases hf:b.2.2 with
  | true=>rw [hf,cond_true] at hl;omega
  | false=>rw [hf,cond_false] at hl;omega)
 have hp:=(nB sep hck).1.length_eq
 rw [←hbl,←e2,List.length_flatMap,aO7] at hp
 have hn:tN ((l.length:Int) - 0)=l.length:=by omega
 rw [hn] at hp
 have hz:((l.length*l.length:Nat):Int)=(l.length:Int)*l.length:=Int.natCast_mul _ _
 unfold aUx
 omega
theorem aXj {l:bR} [bL l] {t:TR} {sep:Int} {b:LBK} (hc:eG l (t.1,t.2)=0)(hb:b=F85 t sep):gE l (t.1,t.2) b=(true,0):=by
 have q:=nB (t:=(t.1,t.2)) sep hc
 have hd:=kO (t:=(t.1,t.2)) hc
 rw [hb]
 refine aUm (t:=(t.1,t.2)) hc (fun x hx=>?_) (fun c hcl=>?_)
 ·have:=q.2.1 x hx
  have hk2:=hd.2.2.1
  unfold okb kM
  have hW:W ((t.2.length:Int) - 1)=(t.2.length:Int) - 1:=aH (by simp only at hk2;omega) (by simp only at hk2;omega)
  simp only [hW]
  simp only at this
  rw [bG (show x.1≥0 by omega),bG (show x.2.1≥0 by omega),bG (show x.1<=(t.2.length:Int) - 1 by omega),bG (show x.2.1<=(t.2.length:Int) - 1 by omega)]
  rfl
 ·have:=q.1.count_eq (c:Int)
  simp only at this
  exact this.trans ((aXd l.length c).trans (if_pos hcl))
theorem aXk {p q:PN} {d:Int} (hp:vp p=0)(hq:vp q=0)(hd:0<=d/\d<=2):(oQ p q d).2=0:=by
 unfold oQ
 rw [aAt,show pk p q d=0 by unfold pk;rw [if_pos hp,if_pos hq,if_pos hd]]
 rfl
theorem bBi {p q:PN} {d:Int} (h:(oQ p q d).2=0):SmS (oQ p q d).1:=by
 obtain⟨p1,p2,p3,e⟩:=aJ0 h
 rw [e]
 have:=aGl (q:=tmP (sc d) q) p1 (show 0<=d/\d<=3 by omega)
 unfold okE at this
 exact⟨this.1,this.2.1,by simp only;omega⟩
theorem bBj {l:bR} (hv:sR l) {d:Int} (hd:0<=d/\d<=2):(eM l d).2=0:=by
 have hB:∀i j,i < l.length->j < l.length->(BW l d i j).2=0:=fun i j hi hj=>aXk (hv.2 i hi).1 (hv.2 j hj).1 hd
 have key:∀(k n i:Nat) (out:List (List iU)),i+k=l.length->k < n->(aA (cU l d) n (out,(i:Int))).2=0:=by
  intro k
  induction k with
  | zero =>
   intro n i out hi hn
   obtain⟨n,rfl⟩:∃x,n=x+1:=⟨n - 1,by omega⟩
   have e:cU l d (out,(i:Int))=.inr (out,0):=by
    simp only [cU]
    rw [cC (by omega),cond_false]
   rw [aC e]
  | succ k ih =>
   intro n i out hi hn
   obtain⟨n,rfl⟩:∃x,n=x+1:=⟨n - 1,by omega⟩
   have e:cU l d (out,(i:Int))=aA (dT l d) (tN ((l.length:Int) - 0)+1) (out,([]:List iU),(i:Int),((0:Nat):Int),(l.getD i dF).1.1.1,(l.getD i dF).1.1.2.1,(l.getD i dF).1.1.2.2,(l.getD i dF).1.2.1.1,(l.getD i dF).1.2.1.2.1,(l.getD i dF).1.2.1.2.2,(l.getD i dF).1.2.2.1,(l.getD i dF).1.2.2.2.1,(l.getD i dF).1.2.2.2.2,(l.getD i dF).2):=by
    simp only [cU,eX]
    rw [bG (by omega),cond_true];rfl
   have inner:∀(k n j:Nat) (r:List iU),j+k=l.length->k < n->∃r':List iU,aA (dT l d) n (out,r,(i:Int),(j:Int),(l.getD i dF).1.1.1,(l.getD i dF).1.1.2.1,(l.getD i dF).1.1.2.2,(l.getD i dF).1.2.1.1,(l.getD i dF).1.2.1.2.1,(l.getD i dF).1.2.1.2.2,(l.getD i dF).1.2.2.1,(l.getD i dF).1.2.2.2.1,(l.getD i dF).1.2.2.2.2,(l.getD i dF).2)=.inl (out++[r'],((i+1:Nat):Int)):=by
    intro k
    induction k with
    | zero =>
     intro n j r hj hn
     obtain⟨n,rfl⟩:∃x,n=x+1:=⟨n - 1,by omega⟩
     refine⟨r,aC ?_⟩
     simp only [dT]
     rw [cC (by omega),cond_false];rfl
    | succ k ih2 =>
     intro n j r hj hn
     obtain⟨n,rfl⟩:∃x,n=x+1:=⟨n - 1,by omega⟩
     have e:dT l d (out,r,(i:Int),(j:Int),(l.getD i dF).1.1.1,(l.getD i dF).1.1.2.1,(l.getD i dF).1.1.2.2,(l.getD i dF).1.2.1.1,(l.getD i dF).1.2.1.2.1,(l.getD i dF).1.2.1.2.2,(l.getD i dF).1.2.2.1,(l.getD i dF).1.2.2.2.1,(l.getD i dF).1.2.2.2.2,(l.getD i dF).2) =
      bif ((BW l d i j).2 != 0) then .inr (.inr ([],(BW l d i j).2)) else .inl (out,r++[(BW l d i j).1],(i:Int),((j+1:Nat):Int),(l.getD i dF).1.1.1,(l.getD i dF).1.1.2.1,(l.getD i dF).1.1.2.2,(l.getD i dF).1.2.1.1,(l.getD i dF).1.2.1.2.1,(l.getD i dF).1.2.1.2.2,(l.getD i dF).1.2.2.1,(l.getD i dF).1.2.2.2.1,(l.getD i dF).1.2.2.2.2,(l.getD i dF).2):=by
      simp only [dT,eX]
      rw [bG (by omega),cond_true];rfl
     rw [hB i j (by omega) (by omega),show(((0:Int):Int) != 0)=false from rfl,cond_false] at e
     rw [aB e]
     exact ih2 n (j+1) _ (by omega) (by omega)
   obtain⟨r,e2⟩:=inner l.length (tN ((l.length:Int) - 0)+1) 0 [] (by omega) (by omega)
   rw [e2] at e
   rw [aB e]
   exact ih n (i+1) _ (by omega) (by omega)
 unfold eM
 rw [aOt hv,show(((0:Int):Int) != 0)=false from rfl,cond_false,bDn,bG hd,Bool.not_true,cond_false]
 exact key l.length _ 0 [] (by omega) (by omega)
theorem bBk {l:bR} (hv:sR l)(h8:l.length<=8) {d:Int} (hd:0<=d/\d<=2):(gT l d).2=0:=by
 have hz:=bBj hv hd
 unfold gT
 rw [hz,show(((0:Int):Int) != 0)=false from rfl,cond_false]
 obtain⟨_,h1,h2⟩:=aOy hz
 exact aUv h8 (fun i hi=>(hv.2 i hi).2) (fun i j hi hj=>by
  obtain⟨g1,g2⟩:=(h2 i hi).2 j hj
  rw [g2]
  exact bBi g1)
theorem aUz {l:bR} [bL l] {t:TR} {sep d:Int} {o:lI} (h:aQ l t sep d=(o,0)) {l':bR} (he:EOV l' o) {x y:Nat} (hx:x < l.length)(hy:y < l.length):SmS (((F43 l'.length o).getD x []).getD y dF):=by
 obtain⟨hc,_,e1,e2,ha⟩:=aDp h
 have hck:=kA hc
 refine aYo (G:=fun _ _ s=>SmS s) he (bBf h (aO4 hc)) ?_
 obtain⟨p,hp,ep⟩:=aA5 hck hx
 obtain⟨q,hq,eq⟩:=aA5 hck hy
 obtain⟨k,hk,hb⟩:=aOx (sep:=sep) hck hp hq
 rw [←jC sep hck,←e2] at hk hb
 exact⟨k,p,q,hk,by rw [e1];exact hb,by rw [e1];exact ep,by rw [e1];exact eq⟩
theorem bBl {l l':bR} [bL l] [bL l'] (hs:aJ1 l l')(hv':sR l')(h8:l'.length<=8) {t:TR} {sep d:Int} {o:lI} (h:aQ l t sep d=(o,0))(hsl:∀j:Nat,(o.2.2.getD j dF).length<=10000):(gS l' o).2=0:=by
 have hr:=aQj hs hv' h
 have he:=aMj hr hsl
 unfold gS
 rw [show(((o.1.1,o.1.2),o.2.1,o.2.2):lI)=o from rfl,aDj,hr,show(((0:Int):Int) != 0)=false from rfl,cond_false]
 exact aUv h8 (fun i hi=>(hv'.2 i hi).2) (fun i j hi hj=>aUz h he (by have:=hs.1;omega) (by have:=hs.1;omega))
theorem bEi {a c:Int×Int} (ha:vs a)(hc:vs c)(h1:a.1<=c.2)(h2:c.1<=a.2):F17 a c=true:=by
 have e:(F13 a c).2.1=true/\(F13 a c).2.2=0:=by
  unfold F13 qS
  have e1:wU (a,c).1=true:=aIt (a:=a.1) (b:=a.2) ha.1 ha.2.1 ha.2.2
  have e2:wU (a,c).2=true:=aIt (a:=c.1) (b:=c.2) hc.1 hc.2.1 hc.2.2
  rw [e1,e2]
  have g1:=ha.2.1;have g2:=hc.2.1
  have h:¬((if(a.1:Int) < c.1 then c.1 else a.1) > (if(c.2:Int) < a.2 then c.2 else a.2)):=by(repeat' split)<;>omega
  simp [h]
 unfold F17
 rw [e.1,e.2];rfl
theorem aYs {l:bR} {a:Int×P3×Zt} {turned:Bool} {x y:List iU} (h:∀i,i < l.length->vs (x.getD i dF)/\vs (y.getD i dF)/\(x.getD i dF).1<=(y.getD i dF).2/\(y.getD i dF).1<=(x.getD i dF).2) :
 ∀(d n i:Nat),i+d=l.length->d < n->aA (kT l a turned) n (x,y,(i:Int))=true
 | 0,n,i,hi,hn=>by
  obtain⟨n,rfl⟩:∃k,n=k+1:=⟨n - 1,by omega⟩
  refine aC ?_
  simp only [kT]
  rw [cC (by omega),cond_false]
 | d+1,n,i,hi,hn=>by
  obtain⟨n,rfl⟩:∃k,n=k+1:=⟨n - 1,by omega⟩
  obtain⟨m1,m2,m3,m4⟩:=h i (by omega)
  have e:kT l a turned (x,y,(i:Int))=.inl (x,y,((i+1:Nat):Int)):=by
   simp only [kT,eX]
   rw [bG (by omega),cond_true,bEi m1 m2 m3 m4];rfl
  rw [aB e]
  exact aYs h d n (i+1) (by omega) (by omega)
def OthC (l v:bR):Prop:=aJ1 l v/\∀i,i < v.length->-100<=(v.getD i dF).2/\(v.getD i dF).2<=100
theorem OthC.vch {l v:bR} (h:OthC l v)(hv:sR l):sR v :=
 ⟨by rw [h.1.1];exact hv.1,fun i hi=>⟨by rw [h.1.2 i];exact(hv.2 i (by have:=h.1.1;omega)).1,h.2 i hi⟩⟩
theorem bBm {l:bR} (hv:sR l)(h8:l.length<=8) {a:Int×P3×Zt} {turned:Bool} (h2:(aQ l ((aF l a.1).1.1,(aF l a.1).1.2) a.2.2.1 (bV a.2.2.2.2 1)).2=0) {v:bR} (ho:OthC l v):dV l a turned v=true:=by
 haveI i1:bL l:=bT (by omega)
 haveI i2:bL v:=bT (by have:=ho.1.1;omega)
 have hv':=ho.vch hv
 have hlen:=ho.1.1
 have hco:aQ l ((aF l a.1).1.1,(aF l a.1).1.2) a.2.2.1 (bV a.2.2.2.2 1)=((aQ l ((aF l a.1).1.1,(aF l a.1).1.2) a.2.2.1 (bV a.2.2.2.2 1)).1,0):=Prod.ext rfl h2
 have hsl:=aTf l ((aF l a.1).1.1,(aF l a.1).1.2) a.2.2.1 (bV a.2.2.2.2 1)
 simp only [dV]
 generalize (aQ l ((aF l a.1).1.1,(aF l a.1).1.2) a.2.2.1 (bV a.2.2.2.2 1)).1=o at *
 have hA:=bBl ho.1 hv' (by omega) hco hsl
 have hD:=bBk hv' (by omega) (d:=0) (by omega)
 have gx:=bEe ho.1 hco hsl hA
 have gy:=bEf hD
 rw [show(((o.1.1,o.1.2),o.2.1,o.2.2):lI)=o from rfl,hA,hD,show(((0:Int):Int) != 0)=false from rfl,cond_false,cond_false,
  show(((((gS v o).1.length:Nat):Int):Int) != (l.length:Int))=false from bne_eq_false_iff_eq.2 (by rw [gx.1,hlen]),cond_false,
  show(((((gT v 0).1.length:Nat):Int):Int) != (l.length:Int))=false from bne_eq_false_iff_eq.2 (by rw [gy.1,hlen]),cond_false]
 exact aYs (fun i hi=>gx.meet gy (by omega)) l.length _ 0 (by omega) (by omega)
theorem aYt {l:bR} {a:Int×P3×Zt} {turned:Bool} (hj:∀v,OthC l v->dV l a turned v=true):∀(n:Nat) (v1:bR) (v2:Int),OthC l v1->0<=v2->tN (l.length - v2) < n->aA (jV l a turned) n (v1,v2)=true
 | 0,_,_,_,_,hn=>absurd hn (fO _)
 | n+1,v1,v2,ho,h0,hn=>by
  have hlen:=ho.1.1
  by_cases hb:v2 < (v1.length:Int)
  ·cases turned with
   | false =>
    refine aC ?_
    simp only [jV]
    rw [bG hb,cond_true,cond_false,hj v1 ho]
   | true =>
    have hq:=ho.2 (tN v2) (by omega)
    have e:jV l a true (v1,v2)=.inl (v1.set (tN v2) ((v1.getD (tN v2) dF).1,-(v1.getD (tN v2) dF).2),v2+1):=by
     simp only [jV]
     rw [bG hb,cond_true,cond_true,aH (by omega) (by omega),Int.zero_sub]
    rw [aB e]
    refine aYt hj n _ (v2+1) ⟨⟨by rw [List.length_set];exact hlen,fun i=>?_⟩,fun i hi=>?_⟩ (by omega) (by omega)
    ·rw [oO]
     split
     ·rename_i hk;rw [hk.1];exact ho.1.2 _
     ·exact ho.1.2 i
    ·rw [List.length_set] at hi
     rw [oO]
     split
     ·simp only;omega
     ·exact ho.2 i hi
  ·refine aC ?_
   simp only [jV]
   rw [cC hb,cond_false,hj v1 ho]
theorem bEj {l:bR} (h8:l.length<=8)(a:Int×P3×Zt)(turned:Bool):fJ l a turned ()=true:=by
 haveI i1:bL l:=bT (by omega)
 simp only [fJ]
 cases h1:((aF l a.1).2 != 0) with
 | true=>rfl
 | false =>
  rw [cond_false]
  cases h2:((aQ l ((aF l a.1).1.1,(aF l a.1).1.2) a.2.2.1 (bV a.2.2.2.2 1)).2 != 0) with
  | true=>rfl
  | false =>
   rw [cond_false]
   have hz:=bne_eq_false_iff_eq.1 h2
   have hco:aQ l ((aF l a.1).1.1,(aF l a.1).1.2) a.2.2.1 (bV a.2.2.2.2 1)=((aQ l ((aF l a.1).1.1,(aF l a.1).1.2) a.2.2.1 (bV a.2.2.2.2 1)).1,0):=Prod.ext rfl hz
   obtain⟨hc,_,_,e2,_⟩:=aDp hco
   have hck:=kA hc
   have hv:=(mA hck).1
   have hcov:=aXj (t:=((aF l a.1).1.1,(aF l a.1).1.2)) hck (e2.trans (jC _ hck))
   have hst:=bBh hco
   have hw:=(dD (n:=l.length) (by omega)).1
   rw [show gE l ((aF l a.1).1.1,(aF l a.1).1.2) (aQ l ((aF l a.1).1.1,(aF l a.1).1.2) a.2.2.1 (bV a.2.2.2.2 1)).1.2.1=(true,0) from hcov,show(((0:Int):Int) != 0)=false from rfl,cond_false,Bool.not_true,cond_false,hw,cC (by
    have:=hst
    change ¬F14 (aQ l ((aF l a.1).1.1,(aF l a.1).1.2) a.2.2.1 (bV a.2.2.2.2 1)).1 > _
    omega),cond_false]
   exact aYt (fun v ho=>bBm hv h8 hz ho) _ _ 0 ⟨⟨by simp,fun i=>by simp⟩,fun i hi=>by
    rw [List.nil_append] at hi ⊢
    exact(hv.2 i hi).2⟩ (Int.le_refl _) (by simp only [List.nil_append];omega)
theorem aJ7 (l:bR)(a:Int×P3×Zt)(turned:Bool):aDv l a turned=true:=by
 unfold aDv
 rw [show lJ ((([]:List Int),([]:aY)),([]:List (Int×Int×Bool)),([]:List (List (Int×Int))))=0 by kernel_rfl,show F15=true by kernel_rfl,
  show(((0:Int):Int) != 0)=false from rfl,cond_false,Bool.not_true,cond_false]
 by_cases h8:(((l.length:Int):Int) > 8)
 ·rw [bG h8,cond_true]
 ·rw [cC h8,cond_false]
  exact bEj (by omega) a turned
end Go.Proofs.YtlckcjfbjnjfhaaGreat
