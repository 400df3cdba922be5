/-
  Parts of the proofs of the laws: the executor, what functions of the program compute, and that it is what the statements ask. No premise.
-/
import Derived.Test.YtmihafgemmgepaaGreatVPcm3
import Derived.Deep.Slices
import Derived.ProofKit
import Derived.RowKit
import Derived.Shelf.SlSortCmp.Xorshift
import Derived.Sort.AssemblyPlain
set_option linter.unusedVariables false
set_option linter.unusedSimpArgs false
set_option maxHeartbeats 4000000
open Int (toNat)
namespace Go.Proofs.YtmihafgemmgepaaGreat
open Go.Proofs Go.Aw Go.RowKit
set_option maxRecDepth 100000
def sc (d:Int):Int:=if d=0 then 1 else if d=1 then 2 else if d=2 then 4 else 8
theorem d4 {d:Int} (h:0<=d/\d<=3):d=0\/d=1\/d=2\/d=3:=by omega
theorem aTn {d:Int} (h:0<=d/\d<=3):W (1*2 ^ (min (toNat d) 64))=sc d:=by
 rcases d4 h with rfl | rfl | rfl | rfl<;>kernel_rfl
theorem aTo {d:Int} (h:0<=d/\d<=3):W (1*2 ^ (min (toNat (IntKind.wrap .u64 d)) 64))=sc d:=by
 rcases d4 h with rfl | rfl | rfl | rfl<;>kernel_rfl
theorem aTp {d:Int} (h:0<=d/\d<=3):W (1*2 ^ (min (toNat (W (2*d))) 64))=sc d*sc d:=by
 rcases d4 h with rfl | rfl | rfl | rfl<;>kernel_rfl
theorem aIv {d:Int} (h:0<=d/\d<=3)(p:PN):(((dD d.toNat p).length:Nat):Int)=sc d*sc d:=by
 rw [aE4];rcases d4 h with rfl | rfl | rfl | rfl<;>kernel_rfl
theorem vX (d:Int):sc d=1\/sc d=2\/sc d=4\/sc d=8:=by unfold sc;(repeat' split)<;>simp
theorem aTq (d:Int):1<=sc d/\sc d<=8:=by have:=vX d;omega
def tm (s:Int)(p:P3):P3:=(s*p.1,s*p.2.1,s*p.2.2)
theorem aIw {s m:Int} {p:P3} (hs:1<=s/\s<=8)(hm:0<=m)(hp:bd m p):bd (8*m) (tm s p):=by
 have h1:=cL (a:=8) (b:=m) (x:=s) (y:=p.1) (by omega) hp.1
 have h2:=cL (a:=8) (b:=m) (x:=s) (y:=p.2.1) (by omega) hp.2.1
 have h3:=cL (a:=8) (b:=m) (x:=s) (y:=p.2.2) (by omega) hp.2.2
 exact⟨h1,h2,h3⟩
theorem aTr {s:Int} {p:P3} (hs:1<=s/\s<=8)(hp:bd 4096 p):((W (s*p.1)),(W (s*p.2.1)),(W (s*p.2.2)))=tm s p:=by
 have h:=aIw hs (by omega) hp
 have h1:=h.1;have h2:=h.2.1;have h3:=h.2.2
 simp only [tm] at h1 h2 h3
 unfold tm
 rw [aJ (n:=s*p.1) (by omega) (by omega),aJ (n:=s*p.2.1) (by omega) (by omega),aJ (n:=s*p.2.2) (by omega) (by omega)]
theorem aRc {s:Int} {p:P3} (hs:1<=s/\s<=8)(hp:bd 4096 p):pF p s=tm s p:=aTr hs hp
theorem aRd {s:Int} {p:P3} (hs:1<=s/\s<=8)(hp:bd 4096 p):aZ p s=tm s p:=aTr hs hp
theorem aMl {a b:Int} (h1:-1099511627776<=a)(h2:a<=b)(h3:b<=1099511627776):sK a b=((a,b),0):=by
 unfold sK sJ
 rw [cN (show(a,b).1≥-1099511627776 from h1),cN (show(a,b).1<=(a,b).2 from h2),cN (show(a,b).2<=1099511627776 from h3)];rfl
theorem aP4 {a b:Int} (h1:-1099511627776<=a)(h2:a<=b)(h3:b<=1099511627776):sM a b=((a,b),0):=by
 unfold sM aAw
 rw [cN (show(a,b).1≥-1099511627776 from h1),cN (show(a,b).1<=(a,b).2 from h2),cN (show(a,b).2<=1099511627776 from h3)];rfl
theorem aTs {n:Int} (h0:0<=n)(h:n < 4611686018427387904):iB n=gP n:=(aL7 h0 h).eq (aCk h0 h)
noncomputable def inv (N n:Int):Int×Int :=
 (gP (N / n),if gP (N / n)*gP (N / n)*n=N then gP (N / n) else gP (N / n)+1)
theorem nZ {N n:Int} (hN:0<=N)(hn:1<=n):0<=N / n/\N / n<=N/\(N / n)*n<=N:=by
 have h1:0<=N / n:=Int.ediv_nonneg hN (by omega)
 have h2:(N / n)*n<=N:=Int.ediv_mul_le N (by omega)
 have h3:(N / n)*1<=(N / n)*n:=Int.mul_le_mul_of_nonneg_left hn h1
 omega
theorem oX {N n:Int} (hN:0<=N/\N<=288230376151711744)(hn:1<=n) :
   ∃k,gP (N / n)=k/\IsRt (N / n) k/\0<=k/\k<=536870912/\0<=k*k/\k*k<=N / n/\0<=k*k*n/\k*k*n<=N:=by
 obtain⟨h1,h2,h3⟩:=nZ hN.1 hn
 have h:=aCk (n:=N / n) h1 (by omega)
 have h4:=h.le (m:=536870912) (by omega) (by omega)
 have h5:0<=gP (N / n)*gP (N / n):=Int.mul_nonneg h.1 h.1
 exact⟨_,rfl,h,h.1,h4,h5,h.2.1,Int.mul_nonneg h5 (by omega),Int.le_trans (Int.mul_le_mul_of_nonneg_right h.2.1 (by omega)) h3⟩
theorem aTt {N n:Int} (hN:0<=N/\N<=288230376151711744)(hn:1<=n):aAv N n=(inv N n,0):=by
 obtain⟨k,hk,_,k0,k1,k2,k3,k4,k5⟩:=oX hN hn
 obtain⟨h1,h2,h3⟩:=nZ hN.1 hn
 unfold aAv inv
 rw [Int.tdiv_eq_ediv_of_nonneg hN.1,aJ (n:=N / n) (by omega) (by omega),hk,aJ (n:=k*k) (by omega) (by omega),aJ (n:=k*k*n) (by omega) (by omega),aJ (n:=k+1) (by omega) (by omega),
   aMl (by omega) (Int.le_refl k) (by omega),aMl (by omega) (by omega) (by omega)]
 by_cases h:k*k*n=N
 · rw [if_pos h,beq_iff_eq.2 h];rfl
 · rw [if_neg h,beq_eq_false_iff_ne.2 h];rfl
theorem aTu {N n:Int} (hN:0<=N/\N<=288230376151711744)(hn:1<=n):wQ N n=(inv N n,0):=by
 obtain⟨k,hk,_,k0,k1,k2,k3,k4,k5⟩:=oX hN hn
 obtain⟨h1,h2,h3⟩:=nZ hN.1 hn
 unfold wQ inv
 rw [Int.tdiv_eq_ediv_of_nonneg hN.1,aJ (n:=N / n) (by omega) (by omega),aTs h1 (by omega),hk,aJ (n:=k*k) (by omega) (by omega),aJ (n:=k+1) (by omega) (by omega),
   aP4 (by omega) (Int.le_refl k) (by omega),aP4 (by omega) (by omega) (by omega),Int.tmod_eq_emod_of_nonneg hN.1]
 have hdm:n*(N / n)+N % n=N:=Int.mul_ediv_add_emod N n
 by_cases h0:N % n=0
 · rw [beq_iff_eq.2 h0,cond_true]
   by_cases h:k*k=N / n
   · rw [beq_iff_eq.2 h,cond_true,if_pos (by rw [h,Int.mul_comm];omega)]
   · rw [beq_eq_false_iff_ne.2 h,cond_false,if_neg]
     intro h'
     rw [h0,Int.add_zero,Int.mul_comm] at hdm
     exact h (Int.eq_of_mul_eq_mul_right (by omega) (h'.trans hdm.symm))
 · rw [beq_eq_false_iff_ne.2 h0,cond_false,if_neg]
   intro h'
   rw [←h'] at h0
   exact h0 (Int.mul_emod_left _ _)
theorem aRe {N n:Int} (hN:0<=N/\N<=288230376151711744)(hn:1<=n):0<=(inv N n).1/\(inv N n).1<=(inv N n).2/\(inv N n).2<=536870913:=by
 obtain⟨k,hk,_,k0,k1,_⟩:=oX hN hn
 unfold inv
 rw [hk]
 simp only
 split<;>omega
theorem aMm {N n m:Int} (hN:0<=N/\N<=288230376151711744)(hn:1<=n)(hm:n<=m):(inv N m).1<=(inv N n).1:=by
 obtain⟨h1,h2,h3⟩:=nZ hN.1 hn
 obtain⟨g1,g2,g3⟩:=nZ (n:=m) hN.1 (by omega)
 have h:N / m<=N / n:=by
   refine Int.le_ediv_of_mul_le (by omega) (Int.le_trans (Int.mul_le_mul_of_nonneg_left hm g1) g3)
 exact(aCk g1 (by omega)).mono (aCk h1 (by omega)) h
def NN (s:Int):Int:=s*s*1099511627776
theorem aE6 {s:Int} (h:s=1\/s=2\/s=4\/s=8):0<=NN s/\NN s<=288230376151711744:=by rcases h with rfl | rfl | rfl | rfl<;>decide
noncomputable def of1 (s n:Int):Int×Int:=if n < 1 then(0,0) else inv (NN s) n
theorem aV0 {s:Int} (h:s=1\/s=2\/s=4\/s=8):decide (s < 1)=false/\decide (s > 8)=false:=by
 rcases h with rfl | rfl | rfl | rfl<;>decide
theorem lt8 {s:Int} (h:s=1\/s=2\/s=4\/s=8):decide (s < 1)=false/\decide (s > 8)=false/\sL s 1 8=true:=by
 rcases h with rfl | rfl | rfl | rfl<;>decide
theorem aP5 {s n:Int} (hs:s=1\/s=2\/s=4\/s=8)(hn:n<=1000000000):(nG n s).1=of1 s n:=by
 obtain⟨e1,e2⟩:=aV0 hs
 unfold nG of1
 by_cases h:n < 1
 · rw [cN h,cond_true,if_pos h]
 · have e:W ((W (s*s))*2 ^ (min (toNat 40) 64))=NN s:=by rcases hs with rfl | rfl | rfl | rfl<;>kernel_rfl
   rw [dQ h,cond_false,dQ (show ¬n > 1099511627776 by omega),cond_false,e1,cond_false,e2,cond_false,if_neg h,e,aTt (aE6 hs) (by omega)]
theorem aP6 {s n:Int} (hs:s=1\/s=2\/s=4\/s=8)(hn:n<=1000000000):(F82 n s).1=of1 s n:=by
 obtain⟨_,_,e3⟩:=lt8 hs
 unfold F82 of1
 by_cases h:n < 1
 · rw [yW,dQ (show ¬(1<=n/\n<=1099511627776) by omega),if_pos h];rfl
 · have e:W ((W ((W (1048576*s))*1048576))*s)=NN s:=by rcases hs with rfl | rfl | rfl | rfl<;>kernel_rfl
   rw [e3,yW,cN (show(1<=n/\n<=1099511627776) by omega),if_neg h,e,aTu (aE6 hs) (by omega)];rfl
structure OfOk (of:Int->Int×Int):Prop where
 lo:∀n,0<=(of n).1
 le:∀n,(of n).1<=(of n).2
 hi:∀n,(of n).2<=536870913
 mono:∀n m,1<=n->n<=m->(of m).1<=(of n).1
theorem aRf {s:Int} (hs:s=1\/s=2\/s=4\/s=8):OfOk (of1 s):=by
 have hb:∀n,0<=(of1 s n).1/\(of1 s n).1<=(of1 s n).2/\(of1 s n).2<=536870913:=by
   intro n
   unfold of1
   split
   · simp
   · exact aRe (aE6 hs) (by omega)
 refine⟨fun n=>(hb n).1,fun n=>(hb n).2.1,fun n=>(hb n).2.2,fun n m h1 h2=>?_⟩
 unfold of1
 rw [if_neg (by omega),if_neg (by omega)]
 exact aMm (aE6 hs) h1 h2
def fa (c:PN)(x:P3):Int:=mx (mx (mx 0 (ds c.1 x)) (ds c.2.1 x)) (ds c.2.2 x)
def ne (c:PN)(x:P3):Int:=nr (yY c) (yZ c) x x
theorem sS {p q:P3} (hp:bd 5000 p)(hq:bd 5000 q):0<=ds p q/\ds p q<=300000000:=by
 have h:=kU hp hq
 have:=aP2 h h
 exact⟨wY _,by unfold ds;omega⟩
theorem aTv {a b:Int} (ha:0<=a)(h:a<=b\/a<=-b):a*a<=b*b:=by
 rcases h with h | h
 · exact Int.mul_le_mul h h ha (by omega)
 · have:=Int.mul_le_mul h h ha (by omega)
   rwa [Int.neg_mul_neg] at this
theorem aTw (a b c d:P3):0<=nr a b c d:=by
 have h1:=gR (gp a.1 b.1 c.1 d.1);have h2:=gR (gp a.2.1 b.2.1 c.2.1 d.2.1);have h3:=gR (gp a.2.2 b.2.2 c.2.2 d.2.2)
 unfold nr;omega
noncomputable def acc (of:Int->Int×Int)(x:P3):List PN->Int×Int->(Int×Int)⊕((Int×Int)×Int)
 | [],v=>.inl v
 | c::l,v=>if ne c x=0 then .inr ((0,0),10) else acc of x l (v.1+(of (fa c x)).1,v.2+(of (ne c x)).2)
def okv (v:Int×Int)(n:Nat):Prop:=0<=v.1/\v.1<=v.2/\v.2+536870913*n<=34359738432
theorem aTx {a n:Int} (hn:n=1\/n=4\/n=16\/n=64)(ha:-1099511627776<=a/\a<=1099511627776):uC a n=a / n:=by
 unfold uC
 have h0:∀b:Int,decide (n < 0)=false:=fun _=>dQ (by omega)
 rw [h0 0]
 have key:(bif ((Int.tmod a n:Int) != 0) then(bif (!(decide (a < 0) == false)) then W (W (Int.tdiv a n) - 1) else W (Int.tdiv a n)) else W (Int.tdiv a n))=if Int.tmod a n≠0/\a < 0 then W (W (Int.tdiv a n) - 1) else W (Int.tdiv a n):=by
   by_cases h1:Int.tmod a n=0
   · rw [h1];simp
   · by_cases h2:a < 0
     · rw [bne_iff_ne.2 h1,cN h2,if_pos ⟨h1,h2⟩];rfl
     · rw [bne_iff_ne.2 h1,dQ h2,if_neg (fun h=>h2 h.2)];rfl
 rw [key]
 rcases Int.lt_or_le a 0 with h | h
 · obtain⟨b,rfl⟩:∃b:Int,a=-b:=⟨-a,by omega⟩
   have hb:0<=b:=by omega
   rw [Int.neg_tdiv,Int.neg_tmod,Int.tdiv_eq_ediv_of_nonneg hb,Int.tmod_eq_emod_of_nonneg hb]
   rcases hn with rfl | rfl | rfl | rfl <;>
   · rw [aJ (n:=-(b / _)) (by omega) (by omega)]
     split
     · rw [aJ (by omega) (by omega)];omega
     · omega
 · rw [if_neg (by omega),Int.tdiv_eq_ediv_of_nonneg h]
   rcases hn with rfl | rfl | rfl | rfl<;>exact aJ (by omega) (by omega)
theorem aTy {a n:Int} (hn:n=1\/n=4\/n=16\/n=64)(ha:-1099511627776<=a/\a<=1099511627776):F85 a n=a / n:=by
 unfold F85
 rcases Int.lt_or_le a 0 with h | h
 · obtain⟨b,rfl⟩:∃b:Int,a=-b:=⟨-a,by omega⟩
   have hb:0<=b:=by omega
   rw [Int.neg_tdiv,Int.neg_tmod,Int.tdiv_eq_ediv_of_nonneg hb,Int.tmod_eq_emod_of_nonneg hb]
   by_cases h1:-(b % n) < (0:Int)
   · rw [cN h1,cond_true]
     rcases hn with rfl | rfl | rfl | rfl <;>
     · rw [aJ (n:=-(b / _)) (by omega) (by omega),aJ (by omega) (by omega)];omega
   · rw [dQ h1,cond_false]
     rcases hn with rfl | rfl | rfl | rfl <;>
     · rw [aJ (n:=-(b / _)) (by omega) (by omega)];omega
 · rw [Int.tdiv_eq_ediv_of_nonneg h,Int.tmod_eq_emod_of_nonneg h]
   have:¬a % n < 0:=by have:=Int.emod_nonneg a (show n≠0 by omega);omega
   rw [dQ this,cond_false]
   rcases hn with rfl | rfl | rfl | rfl<;>exact aJ (by omega) (by omega)
theorem aV1 {a n:Int} (hn:n=1\/n=4\/n=16\/n=64)(ha:-1099511627776<=a/\a<=1099511627776):aE1 a n=-(-a / n):=by
 unfold aE1
 rw [aJ (n:=0 - a) (by omega) (by omega),aTx hn (by omega),Int.zero_sub]
 rcases hn with rfl | rfl | rfl | rfl<;>exact(aJ (by omega) (by omega)).trans (by omega)
theorem aV2 {a n:Int} (hn:n=1\/n=4\/n=16\/n=64)(ha:-1099511627776<=a/\a<=1099511627776):F86 a n=-(-a / n):=by
 unfold F86
 rw [aJ (n:=0 - a) (by omega) (by omega),aTy hn (by omega),Int.zero_sub]
 rcases hn with rfl | rfl | rfl | rfl<;>exact(aJ (by omega) (by omega)).trans (by omega)
def avg (v:Int×Int)(n:Int):Int×Int:=(v.1 / n,-(-v.2 / n))
theorem aTz {a b:Int} (h1:-1099511627776<=a)(h2:a<=b)(h3:b<=1099511627776):sJ (a,b)=true:=by
 unfold sJ
 rw [cN (show(a,b).1≥-1099511627776 from h1),cN (show(a,b).1<=(a,b).2 from h2),cN (show(a,b).2<=1099511627776 from h3)];rfl
theorem aT0 {v:Int×Int} {n:Int} (hn:n=1\/n=4\/n=16\/n=64)(h:okv v 0):F75 v.1 v.2 n=avg v n:=by
 unfold okv at h
 unfold F75 wP mV
 rw [aTz (by omega) (by omega) (by omega)]
 simp only [Bool.not_true,cond_false,bne_self_eq_false]
 rw [dQ (show ¬n < 1 by omega),dQ (show ¬n > 1099511627776 by omega),cond_false,cond_false,aTx hn (by omega),aV1 hn (by omega)]
 have:v.1 / n<=-(-v.2 / n)/\-1099511627776<=v.1 / n/\-(-v.2 / n)<=1099511627776:=by
   rcases hn with rfl | rfl | rfl | rfl<;>omega
 rw [aMl this.2.1 this.1 this.2.2];rfl
theorem uK (d:Int):sc d*sc d=1\/sc d*sc d=4\/sc d*sc d=16\/sc d*sc d=64:=by
 rcases vX d with h | h | h | h<;>rw [h]<;>decide
theorem aIx {p c:PN} {d:Int} (hp:bdP 64 p)(hd:0<=d/\d<=3)(hc:c∈dD d.toNat p):bdP 512 c:=by
 have key:∀k:Nat,k<=3->c∈dD k p->bdP 512 c:=by
   intro k hk hc
   have:k=0\/k=1\/k=2\/k=3:=by omega
   rcases this with rfl | rfl | rfl | rfl<;>exact(wZ (m:=64) _ hp (by decide) (by decide) hc).mono (by decide)
 exact key _ (by omega) hc
theorem aP7 {p:PN} {d:Int} (hd:0<=d/\d<=3):okv (0,0) (dD d.toNat p).length:=by
 have h:=aIv hd p
 have h1:=uK d
 unfold okv;simp only;omega
section
variable {p : PN} {x : P3} {d : Int}
end
end Go.Proofs.YtmihafgemmgepaaGreat
namespace Go.Proofs.YtmihafgemmgepaaGreat
open Go.Proofs Go.Aw Go.RowKit
set_option maxRecDepth 100000
def IsUp (T r:Int):Prop:=0<=r/\T<=r*r/\(r=0\/(r - 1)*(r - 1) < T)
theorem IsUp.le {T r m:Int} (h:IsUp T r)(hm:0<=m)(h':T<=m*m):r<=m:=by
 rcases Int.lt_or_le m r with hlt | hle
 · rcases h.2.2 with h0 | h0
   · omega
   · have:=Int.mul_le_mul (show m<=r - 1 by omega) (show m<=r - 1 by omega) hm (by omega)
     omega
 · exact hle
theorem IsUp.eq {T a b:Int} (h:IsUp T a)(h':IsUp T b):a=b:=Int.le_antisymm (h.le h'.1 h'.2.1) (h'.le h.1 h.2.1)
theorem aGs {T:Int} {S:Int×Int->(Int×Int)⊕Int} (hS:∀a b,0<=a->a < b->b<=268435456->S (a,b)=if T<=((a+b) / 2)*((a+b) / 2) then .inl (a,(a+b) / 2) else .inl ((a+b) / 2+1,b))(h0:∀a,S (a,a)=.inr a) :
   ∀(f:Nat) (a b:Int),0<=a->a<=b->b<=268435456->b - a < f->T<=b*b->(a=0\/(a - 1)*(a - 1) < T)->IsUp T (aC S f (a,b)):=by
 intro f
 induction f with
 | zero=>intro a b _ h _ hf;omega
 | succ f ih =>
   intro a b ha hab hb hf h1 h2
   by_cases he:a=b
   · subst he
     rw [aY (h0 a)];exact⟨ha,h1,h2⟩
   · have hs:=hS a b ha (by omega) hb
     by_cases hc:T<=((a+b) / 2)*((a+b) / 2)
     · rw [if_pos hc] at hs
       rw [aE hs]
       exact ih _ _ ha (by omega) (by omega) (by omega) hc h2
     · rw [if_neg hc] at hs
       rw [aE hs]
       refine ih _ _ (by omega) (by omega) hb (by omega) h1 (Or.inr ?_)
       rw [show(a+b) / 2+1 - 1=(a+b) / 2 by omega];omega
def rM (d:Int):Int:=3537128906555392*(sc d*sc d)
theorem aT1 {d:Int} (h:0<=d/\d<=3):W (3537128906555392*2 ^ (min (toNat (W (2*d))) 64))=rM d:=by
 rcases d4 h with rfl | rfl | rfl | rfl<;>kernel_rfl
theorem aT2 {d:Int} (h:0<=d/\d<=3):W ((W ((W (1099511627776*(W (1*2 ^ (min (toNat (IntKind.wrap .u64 d)) 64)))))*(W (1*2 ^ (min (toNat (IntKind.wrap .u64 d)) 64)))))*3217)=rM d:=by
 rcases d4 h with rfl | rfl | rfl | rfl<;>kernel_rfl
theorem aMn (d:Int):3537128906555392<=rM d/\rM d<=226376250019545088:=by
 unfold rM;have:=uK d;omega
def cq (t b:Int):Int:=-(-t / b)
theorem sT {t b:Int} (hb:1<=b):t<=cq t b*b/\(cq t b - 1)*b < t:=by
 have h1:=Int.mul_ediv_add_emod (-t) b
 have h2:=Int.emod_nonneg (-t) (show b≠0 by omega)
 have h3:=Int.emod_lt_of_pos (-t) (show 0 < b by omega)
 unfold cq
 have e:-(-t / b)*b=-(b*(-t / b)):=by rw [Int.neg_mul,Int.mul_comm]
 have e2:(-(-t / b) - 1)*b=-(b*(-t / b)) - b:=by rw [Int.sub_mul,e,Int.one_mul]
 omega
theorem aRg {a n:Int} (hn:1<=n)(ha:-1152921504606846976<=a/\a<=1152921504606846976):F85 a n=a / n:=by
 unfold F85
 rcases Int.lt_or_le a 0 with h | h
 · obtain⟨b,rfl⟩:∃b:Int,a=-b:=⟨-a,by omega⟩
   have hb:0<=b:=by omega
   obtain⟨h1,h2,_⟩:=nZ hb hn
   have hd:=Int.mul_ediv_add_emod b n
   have hm0:=Int.emod_nonneg b (show n≠0 by omega)
   have hm1:=Int.emod_lt_of_pos b (show 0 < n by omega)
   rw [Int.neg_tdiv,Int.neg_tmod,Int.tdiv_eq_ediv_of_nonneg hb,Int.tmod_eq_emod_of_nonneg hb,aJ (n:=-(b / n)) (by omega) (by omega)]
   by_cases h3:-(b % n) < (0:Int)
   · rw [cN h3,cond_true,aJ (by omega) (by omega)]
     refine(((Int.ediv_emod_unique (a:=-b) (b:=n) (q:=-(b / n) - 1) (r:=n - b % n) (by omega)).2 ⟨?_,by omega,by omega⟩).1).symm
     rw [Int.mul_sub,Int.mul_neg,Int.mul_one];omega
   · rw [dQ h3,cond_false]
     refine(((Int.ediv_emod_unique (a:=-b) (b:=n) (q:=-(b / n)) (r:=0) (by omega)).2 ⟨?_,by omega,by omega⟩).1).symm
     rw [Int.mul_neg];omega
 · rw [Int.tdiv_eq_ediv_of_nonneg h,Int.tmod_eq_emod_of_nonneg h]
   have:=Int.emod_nonneg a (show n≠0 by omega)
   rw [dQ (by omega),cond_false]
   obtain⟨h1,h2,_⟩:=nZ h hn
   exact aJ (by omega) (by omega)
theorem aRh {a n:Int} (hn:1<=n)(ha:0<=a/\a<=1152921504606846976):F86 a n=cq a n:=by
 unfold F86 cq
 have h1:=sT (t:=a) hn
 rw [aJ (n:=0 - a) (by omega) (by omega),aRg hn (by omega),Int.zero_sub,Int.zero_sub]
 have h2:0<=cq a n:=by
   rcases Int.lt_or_le (cq a n) 0 with h | h
   · have:=Int.mul_le_mul_of_nonneg_right (show cq a n<=-1 by omega) (show 0<=n by omega);omega
   · exact h
 have h3:cq a n<=a+1:=by
   rcases Int.lt_or_le (a+1) (cq a n) with h | h
   · have:=Int.mul_le_mul_of_nonneg_left hn (show 0<=cq a n - 1 by omega);omega
   · exact h
 unfold cq at h2 h3
 exact aJ (by omega) (by omega)
theorem zB {p:PN} {d:Int} (hp:vp p=0)(hd:0<=d/\d<=3) :
   ∃r,IsRt (dt (oU p) (oU p)) r/\1<=r/\r<=56755/\IsUp (cq (rM d) (128*r)) (rL p d)/\rL p d<=67108864:=by
 obtain⟨r,e,hr,r1,r2⟩:=aMb hp
 have ht:=aMn d
 obtain⟨q1,q2,q3⟩:=nZ (N:=rM d) (n:=128*r) (by omega) (by omega)
 have hqb:rM d / (128*r)<=1768564453277696:=by
   rcases Int.lt_or_le 1768564453277696 (rM d / (128*r)) with h | h
   · have:=Int.mul_le_mul_of_nonneg_left (show 128<=128*r by omega) q1;omega
   · exact h
 have hk:=aIl (n:=rM d / (128*r)) q1 (by omega)
 have hkb:=hk.le (m:=42054304) (by omega) (by omega)
 obtain⟨u1,u2⟩:=sT (t:=rM d) (b:=128*r) (by omega)
 have hm:=Int.mul_ediv_add_emod (rM d) (128*r)
 have hm1:=Int.emod_lt_of_pos (rM d) (show 0 < 128*r by omega)
 refine⟨r,hr,r1,r2,?_⟩
 unfold rL
 rw [e,aJ (n:=128*r) (by omega) (by omega),aT1 hd,Int.tdiv_eq_ediv_of_nonneg (by omega),aJ (n:=rM d / (128*r)) (by omega) (by omega)]
 generalize jU (rM d / (128*r))=k at *
 have k0:=hk.1;have k1:=hk.2.1;have k2:=hk.2.2
 have k3:0<=k*k:=Int.mul_nonneg k0 k0
 have k4:k*k*(128*r)<=rM d / (128*r)*(128*r):=Int.mul_le_mul_of_nonneg_right k1 (by omega)
 have k5:0<=k*k*(128*r):=Int.mul_nonneg k3 (by omega)
 rw [aJ (n:=k*k) (by omega) (by omega),aJ (n:=k*k*(128*r)) (by omega) (by omega),aJ (n:=k+1) (by omega) (by omega)]
 generalize rM d / (128*r)=q at *
 generalize cq (rM d) (128*r)=T at *
 have hb:0 < 128*r:=by omega
 generalize 128*r=b at *
 have hqT:q<=T:=Int.le_of_mul_le_mul_right (Int.le_trans q3 u1) hb
 have hTq:T<=q+1:=by
   have:(T - 1)*b < (q+1)*b:=by rw [Int.add_mul,Int.mul_comm q b];omega
   have:=Int.lt_of_mul_lt_mul_right this (by omega);omega
 by_cases h:k*k*b < rM d
 · rw [cN h,cond_true]
   refine⟨⟨by omega,by omega,Or.inr ?_⟩,by omega⟩
   rw [show k+1 - 1=k by omega]
   exact Int.lt_of_mul_lt_mul_right (Int.lt_of_lt_of_le h u1) (by omega)
 · rw [dQ h,cond_false]
   refine⟨⟨k0,?_,?_⟩,by omega⟩
   · have:(T - 1)*b < k*k*b:=by omega
     have:=Int.lt_of_mul_lt_mul_right this (by omega);omega
   · rcases Int.lt_or_le 0 k with h0 | h0
     · right
       have:(k - 1)*(k - 1)<=(k - 1)*k:=Int.mul_le_mul_of_nonneg_left (by omega) (by omega)
       have e:(k - 1)*k=k*k - k:=by rw [Int.sub_mul,Int.one_mul]
       omega
     · left;omega
theorem aRi {p:PN} {d:Int} (hp:vp p=0)(hd:0<=d/\d<=3):F81 p d=rL p d:=by
 obtain⟨r,hr,r1,r2,hu,hb⟩:=zB hp hd
 obtain⟨hb',hd'⟩:=sN hp
 obtain⟨hn,hn2⟩:=aMa hb'
 have ht:=aMn d
 have er:qQ (dB (nL p) (nL p))=r:=by
   rw [aL8 hb',rdt (hn.mono (by omega)) (hn.mono (by omega))]
   exact(aL7 (n:=dt (oU p) (oU p)) (by omega) (by omega)).eq hr
 obtain⟨u1,u2⟩:=sT (t:=rM d) (b:=128*r) (by omega)
 have hT:cq (rM d) (128*r)<=1768564453277697:=by
   rcases Int.lt_or_le 1768564453277697 (cq (rM d) (128*r)) with h | h
   · have:=Int.mul_le_mul_of_nonneg_left (show 128<=128*r by omega) (show 0<=cq (rM d) (128*r) - 1 by omega);omega
   · exact h
 refine IsUp.eq ?_ hu
 unfold F81
 refine aGs (T:=cq (rM d) (128*r)) (fun a b ha hab hb=>?_) (fun a=>?_) _ 0 268435456 (by omega) (by omega) (by omega) (by decide) (by omega) (Or.inl rfl)
 · have h2:decide (a < b)=true:=cN hab
   have hq:=yV (a:=(a+b) / 2) (by omega) (by omega)
   simp only [pR]
   rw [h2,cond_true,aT2 hd,er,aJ (n:=128*r) (by omega) (by omega),aRh (by omega) (by omega),aIf (by omega),aB7 (by omega),aJ (n:=(a+b) / 2*((a+b) / 2)) (by omega) (by omega)]
   by_cases hc:cq (rM d) (128*r)<=(a+b) / 2*((a+b) / 2)
   · rw [cN (show(a+b) / 2*((a+b) / 2)≥cq (rM d) (128*r) from hc),if_pos hc];rfl
   · rw [dQ (show ¬(a+b) / 2*((a+b) / 2)≥cq (rM d) (128*r) from hc),if_neg hc];rfl
 · simp [pR]
def fa3 (c q:PN):Int:=mx (mx (mx (mx (mx (mx (mx (mx (mx 0 (ds c.1 q.1)) (ds c.1 q.2.1)) (ds c.1 q.2.2)) (ds c.2.1 q.1)) (ds c.2.1 q.2.1)) (ds c.2.1 q.2.2)) (ds c.2.2 q.1)) (ds c.2.2 q.2.1)) (ds c.2.2 q.2.2)
def ne3 (c q:PN):Int:=nr (yY c) (yZ c) (yY q) (yZ q)
theorem aT3 {c q:PN} (hc:bdP 5000 c)(hq:bdP 5000 q):cI [(bG c).1,(bG c).2.1,(bG c).2.2] [(bG q).1,(bG q).2.1,(bG q).2.2]=fa3 c q:=by
 refine(aTk c q.1 q.2.1 q.2.2).trans ?_
 rw [sQ hc.1 hq.1,sQ hc.1 hq.2.1,sQ hc.1 hq.2.2,sQ hc.2.1 hq.1,sQ hc.2.1 hq.2.1,sQ hc.2.1 hq.2.2,sQ hc.2.2 hq.1,sQ hc.2.2 hq.2.1,sQ hc.2.2 hq.2.2];rfl
theorem aT4 {c q:PN} (hc:bdP 5000 c)(hq:bdP 5000 q):mH c [q.1,q.2.1,q.2.2]=fa3 c q:=by
 rw [aTl,sR hc.1 hq.1,sR hc.1 hq.2.1,sR hc.1 hq.2.2,sR hc.2.1 hq.1,sR hc.2.1 hq.2.1,sR hc.2.1 hq.2.2,sR hc.2.2 hq.1,sR hc.2.2 hq.2.1,sR hc.2.2 hq.2.2,aMh];rfl
theorem aT5 {c q:PN} (hc:bdP 5000 c)(hq:bdP 5000 q):cO (bG c) (bG q)=ne3 c q:=aQ9 hc hq
theorem aT6 {c q:PN} (hc:bdP 5000 c)(hq:bdP 5000 q):kT c q=ne3 c q:=aRb hc hq
theorem aMo {c q:PN} (hc:bdP 5000 c)(hq:bdP 5000 q):fa3 c q<=300000000 :=
 nY (nY (nY (nY (nY (nY (nY (nY (nY (by omega) (sS hc.1 hq.1).2) (sS hc.1 hq.2.1).2) (sS hc.1 hq.2.2).2) (sS hc.2.1 hq.1).2) (sS hc.2.1 hq.2.1).2) (sS hc.2.1 hq.2.2).2) (sS hc.2.2 hq.1).2) (sS hc.2.2 hq.2.1).2) (sS hc.2.2 hq.2.2).2
theorem aMp (c q:PN):ds c.1 q.1<=fa3 c q/\ds c.2.1 q.1<=fa3 c q/\ds c.2.2 q.1<=fa3 c q:=by
 refine⟨?_,?_,?_⟩
 · exact Int.le_trans (aGn _ _) (Int.le_trans (fW _ _) (Int.le_trans (fW _ _) (Int.le_trans (fW _ _) (Int.le_trans (fW _ _) (Int.le_trans (fW _ _) (Int.le_trans (fW _ _) (Int.le_trans (fW _ _) (fW _ _))))))))
 · exact Int.le_trans (aGn _ _) (Int.le_trans (fW _ _) (Int.le_trans (fW _ _) (Int.le_trans (fW _ _) (Int.le_trans (fW _ _) (fW _ _)))))
 · exact Int.le_trans (aGn _ _) (Int.le_trans (fW _ _) (fW _ _))
theorem aGt {a b c d x y:Int} (h1:a<=x)(h2:x<=b)(h3:c<=y)(h4:y<=d):gp a b c d*gp a b c d<=(x - y)*(x - y):=by
 refine aTv (aP3 _ _ _ _) ?_
 unfold gp mx
 (repeat' split)<;>omega
theorem aGu (c q:PN):0<=ne3 c q/\ne3 c q<=fa3 c q:=by
 refine⟨aTw _ _ _ _,Int.le_trans ?_ (aMp c q).1⟩
 have h1:=aGt (uH c.1.1 c.2.1.1 c.2.2.1).1 (uI c.1.1 c.2.1.1 c.2.2.1).1 (uH q.1.1 q.2.1.1 q.2.2.1).1 (uI q.1.1 q.2.1.1 q.2.2.1).1
 have h2:=aGt (uH c.1.2.1 c.2.1.2.1 c.2.2.2.1).1 (uI c.1.2.1 c.2.1.2.1 c.2.2.2.1).1 (uH q.1.2.1 q.2.1.2.1 q.2.2.2.1).1 (uI q.1.2.1 q.2.1.2.1 q.2.2.2.1).1
 have h3:=aGt (uH c.1.2.2 c.2.1.2.2 c.2.2.2.2).1 (uI c.1.2.2 c.2.1.2.2 c.2.2.2.2).1 (uH q.1.2.2 q.2.1.2.2 q.2.2.2.2).1 (uI q.1.2.2 q.2.1.2.2 q.2.2.2.2).1
 unfold ne3 nr ds dt sb
 simp only [yY,yZ]
 omega
theorem aMq {x y:PN} (h:bdP 100000 x)(hy:y∈aCm x):oU y=oU x:=by
 unfold aCm q1 q2 q3 q4 at hy
 rw [sP h.1 h.2.1,sP h.2.2 h.1,sP h.2.1 h.2.2,jW h.1,jW h.2.1,jW h.2.2] at hy
 simp only [List.mem_cons,List.mem_nil_iff,or_false] at hy
 unfold oU cr sb
 rcases hy with rfl | rfl | rfl | rfl<;>simp only [Prod.mk.injEq]<;>refine⟨?_,?_,?_⟩<;>grind
theorem aIy:∀(d:Nat) {m:Int} {p x:PN},bdP m p->m*2 ^ d<=100000->0<=m->x∈dD d p->oU x=oU p
 | 0,m,p,x,h,_,_,hx=>by simp [dD] at hx;subst hx;rfl
 | d+1,m,p,x,h,hm,h0,hx=>by
   rw [hO,List.mem_flatMap] at hx
   obtain⟨y,hy,hx⟩:=hx
   have hp:(0:Int) < 2 ^ d:=Int.pow_pos (by omega)
   have hle:m*2 ^ d<=m*2 ^ (d+1):=Int.mul_le_mul_of_nonneg_left (by rw [Int.pow_succ];omega) h0
   have hb:=wZ d h (by omega) h0 hy
   rw [aMq (hb.mono (by omega)) hx,aIy d h (by omega) h0 hy]
theorem aRj {p c:PN} {d:Int} (hp:bdP 64 p)(hd:0<=d/\d<=3)(hc:c∈dD d.toNat p):oU c=oU p:=by
 have:d.toNat=0\/d.toNat=1\/d.toNat=2\/d.toNat=3:=by omega
 rcases this with h | h | h | h<;>rw [h] at hc<;>exact aIy (m:=64) _ hp (by decide) (by decide) hc
theorem aRk (c:PN)(x:P3) {R:Int} (h1:ds c.1 x<=R)(h2:ds c.2.1 x<=R)(h3:ds c.2.2 x<=R):dt (oU c) (oU c)<=(4*R)*(4*R):=by
 have lag:∀u v:P3,dt (cr u v) (cr u v)<=dt u u*dt v v:=by
   intro u v
   have h:=gR (dt u v)
   have e:dt (cr u v) (cr u v)+dt u v*dt u v=dt u u*dt v v:=by
     unfold dt cr;grind
   omega
 have par:∀a b:P3,dt (sb a b) (sb a b)<=2*ds a x+2*ds b x:=by
   intro a b
   have k:∀s t y:Int,(s - t)*(s - t)<=2*((s - y)*(s - y))+2*((t - y)*(t - y)):=by
     intro s t y
     have:=gR (s+t - 2*y)
     grind
   have k1:=k a.1 b.1 x.1;have k2:=k a.2.1 b.2.1 x.2.1;have k3:=k a.2.2 b.2.2 x.2.2
   unfold ds dt sb;simp only;omega
 have p1:=par c.2.1 c.1;have p2:=par c.2.2 c.1
 refine Int.le_trans (lag _ _) (Int.mul_le_mul (by omega) (by omega) (wY _) ?_)
 have:=wY (sb c.1 x)
 unfold ds at *;omega
theorem aT7 (d:Int):NN (sc d)=sc d*sc d*1099511627776:=rfl
theorem aOr {p c:PN} {d:Int} (hp:vp p=0)(hd:0<=d/\d<=3)(hc:c∈dD d.toNat p)(x:P3) {R:Int} (h1:ds c.1 x<=R)(h2:ds c.2.1 x<=R)(h3:ds c.2.2 x<=R):(of1 (sc d) R).1<=rL p d:=by
 obtain⟨r,hr,r1,r2,hu,_⟩:=zB hp hd
 have hR:0<=R:=Int.le_trans (wY _) h1
 have hn:=aRk c x h1 h2 h3
 rw [aRj (sN hp).1 hd hc] at hn
 have h4:r<=4*R:=by
   rcases Int.lt_or_le (4*R) r with h | h
   · have:=Int.mul_le_mul (show 4*R+1<=r by omega) (show 4*R+1<=r by omega) (by omega) hr.1
     have e:(4*R+1)*(4*R+1)=(4*R)*(4*R)+8*R+1:=by grind
     have:=hr.2.1;omega
   · exact h
 unfold of1
 rw [if_neg (by omega)]
 obtain⟨k,hk,_,k0,k1,k2,k3,k4,k5⟩:=oX (aE6 (vX d)) (show 1<=R by omega)
 unfold inv
 rw [hk]
 simp only
 rcases Int.lt_or_le (rL p d) k with h | h
 · exfalso
   obtain⟨u1,_⟩:=sT (t:=rM d) (b:=128*r) (by omega)
   have v0:=hu.1;have v1:=hu.2.1
   generalize rL p d=m at *
   have e1:cq (rM d) (128*r)*(128*r)<=m*m*(128*r):=Int.mul_le_mul_of_nonneg_right v1 (by omega)
   have e2:m*m<=k*k:=Int.mul_le_mul (by omega) (by omega) v0 k0
   have e3:m*m*(128*r)<=k*k*(512*R):=Int.mul_le_mul e2 (by omega) (by omega) k2
   have e4:k*k*(512*R)=512*(k*k*R):=by grind
   rw [aT7] at k5
   have:=uK d
   unfold rM at *
   omega
 · exact h
def aMr (lo hi:PN->Int):List PN->Int×Int->Int×Int
 | [],v=>v
 | c::l,v=>aMr lo hi l (v.1+lo c,v.2+hi c)
theorem aCs {lo hi:Int} {v:Int×Int} {n:Nat} (h:okv v (n+1))(h1:0<=lo/\lo<=hi/\hi<=536870913):okv (v.1+lo,v.2+hi) n:=by
 unfold okv at *;simp only;omega
theorem aCt {lo hi:PN->Int}:∀{l:List PN} {v:Int×Int},(∀c∈l,0<=lo c/\lo c<=hi c/\hi c<=536870913)->okv v l.length->okv (aMr lo hi l v) 0
 | [],v,_,h=>h
 | c::l,v,hl,h=>aCt (l:=l) (fun c hc=>hl c (List.mem_cons_of_mem _ hc)) (aCs h (hl c List.mem_cons_self))
theorem zC {lo hi:PN->Int} {S:Int×Int->PN->Int×Int}:∀{l:List PN} {v:Int×Int},(∀c∈l,0<=lo c/\lo c<=hi c/\hi c<=536870913) ->
   (∀c∈l,∀v:Int×Int,S v c=(W (v.1+lo c),W (v.2+hi c)))->okv v l.length->l.foldl S v=aMr lo hi l v
 | [],v,_,_,_=>rfl
 | c::l,v,hl,hS,h=>by
   have h1:=aCs h (hl c List.mem_cons_self)
   have h2:=h1
   unfold okv at h2;simp only at h2
   rw [List.foldl_cons,hS c List.mem_cons_self v,aJ (by omega) (by omega),aJ (by omega) (by omega)]
   exact zC (l:=l) (fun c hc=>hl c (List.mem_cons_of_mem _ hc)) (fun c hc=>hS c (List.mem_cons_of_mem _ hc)) h1
theorem zD {lo hi:PN->Int} {S:Zt->Zt⊕(Int×Int)} {G:Int×Int->Int×Int} {L:List PN} (hl:∀c∈L,0<=lo c/\lo c<=hi c/\hi c<=536870913)
   (hS:∀(i:Nat) (c:PN),L[i]? = some c->∀v1 v2:Int,S (v1,v2,(i:Int))=.inl (W (v1+lo c),W (v2+hi c),((i+1:Nat):Int)))
   (hE:∀v1 v2:Int,S (v1,v2,(L.length:Int))=.inr (G (v1,v2))) :
   ∀(l:List PN) (i n:Nat) (v:Int×Int),L.drop i=l->i<=L.length->l.length < n->okv v l.length->aC S n (v.1,v.2,(i:Int))=G (aMr lo hi l v)
 | [],i,n,v,hd,hi',hn,h=>by
   have:i=L.length:=by have:=List.drop_eq_nil_iff.1 hd;omega
   obtain⟨n,rfl⟩:∃m,n=m+1:=⟨n - 1,by simp only [List.length_nil] at hn;omega⟩
   subst this
   rw [aY (hE _ _)];rfl
 | c::l,i,n,v,hd,hi',hn,h=>by
   have hc:L[i]? = some c:=by
     have:(L.drop i)[0]? = some c:=by rw [hd];rfl
     simpa using this
   obtain⟨hlt,hce⟩:=List.getElem?_eq_some_iff.1 hc
   obtain⟨n,rfl⟩:∃m,n=m+1:=⟨n - 1,by omega⟩
   have h1:=aCs h (hl c (hce▸List.getElem_mem hlt))
   have h2:=h1
   unfold okv at h2;simp only at h2
   rw [aE (hS i c hc v.1 v.2),aJ (by omega) (by omega),aJ (by omega) (by omega)]
   exact zD hl hS hE l (i+1) n _ (by rw [←List.drop_drop,hd];rfl) (by omega) (by simp only [List.length_cons] at hn;omega) h1
noncomputable def bLo (d:Int)(q c:PN):Int:=(of1 (sc d) (fa3 c q)).1
noncomputable def bHi (R d:Int)(q c:PN):Int:=if 0 < ne3 c q then(if(of1 (sc d) (ne3 c q)).2 < R then(of1 (sc d) (ne3 c q)).2 else R) else R
theorem aT8 {p q:PN} {d:Int} (hp:vp p=0)(hd:0<=d/\d<=3):∀c∈dD d.toNat p,0<=bLo d q c/\bLo d q c<=bHi (rL p d) d q c/\bHi (rL p d) d q c<=536870913:=by
 intro c hc
 obtain⟨_,_,_,_,_,hub⟩:=zB hp hd
 have ho:=aRf (vX d)
 obtain⟨g1,g2,g3⟩:=aMp c q
 have hl:=aOr hp hd hc q.1 g1 g2 g3
 have hn:=aGu c q
 have h0:=ho.lo (fa3 c q)
 unfold bLo bHi
 split
 · rename_i hz
   have h1:=ho.mono (ne3 c q) (fa3 c q) (by omega) hn.2;have h2:=ho.le (ne3 c q)
   split<;>omega
 · omega
noncomputable def aOs (p q:PN)(d:Int):Int×Int:=avg (aMr (bLo d q) (bHi (rL p d) d q) (dD d.toNat p) (0,0)) (sc d*sc d)
section
variable {p q : PN} {d : Int}
theorem aT9 (hp:vp p=0)(hq:bdP 5000 q)(hd:0<=d/\d<=3):F47 p q d=aOs p q d:=by
 have hk:=aP7 (p:=p) hd
 have hb:=aT8 (q:=q) hp hd
 unfold F47 aOs
 rw [zC hb (fun c hc v=>?_) hk]
 · show F75 _ _ _=_
   rw [aTp hd,aT0 (uK d) (aCt hb hk)]
 · have hcb:=(aIx (sN hp).1 hd hc).mono (show(512:Int)<=5000 by omega)
   obtain⟨v1,v2⟩:=v
   have h1:=aMo hcb hq;have h2:=aGu c q
   simp only [vW]
   rw [aTn hd,aT5 hcb hq,aT3 hcb hq,aP5 (vX d) (by omega),aP5 (vX d) (by omega)]
   unfold bLo bHi
   by_cases h:0 < ne3 c q
   · rw [if_pos h,cN (show ne3 c q > 0 from h),cond_true]
   · rw [if_neg h,dQ (show ¬ne3 c q > 0 from h),cond_false]
theorem aUa (hp:vp p=0)(hq:bdP 5000 q)(hd:0<=d/\d<=3):F56 p d q=aOs p q d:=by
 have hk:=aP7 (p:=p) hd
 have hb:=aT8 (q:=q) hp hd
 have hL:=aVw (sN hp).1 hd
 have hl:=aIv hd p
 unfold F56 aOs
 rw [show((0,0,0):Zt)=(((0,0):Int×Int).1,((0,0):Int×Int).2,((0:Nat):Int)) from rfl,
   zD hb (S:=nX p d q) (G:=fun v=>(F85 v.1 (sc d*sc d),F86 v.2 (sc d*sc d))) (fun i c hi v1 v2=>?_) (fun v1 v2=>?_) (dD d.toNat p) 0 _ (0,0) rfl (Nat.zero_le _) (by rw [hL];omega) hk]
 · have hu:=aCt hb hk
   unfold okv at hu
   rw [aTy (uK d) (by omega),aV2 (uK d) (by omega)];rfl
 · obtain⟨hlt,hc⟩:=List.getElem?_eq_some_iff.1 hi
   have hm:c∈dD d.toNat p:=hc▸List.getElem_mem hlt
   have hcb:=(aIx (sN hp).1 hd hm).mono (show(512:Int)<=5000 by omega)
   have hg:(dD d.toNat p).getD i default=c:=by rw [eQ,hi];rfl
   have h1:=aMo hcb hq;have h2:=aGu c q
   simp only [nX]
   rw [hL,cN (show((i:Nat):Int) < ((dD d.toNat p).length:Nat) by omega),cond_true,jM,hg,aTo hd,aT6 hcb hq,aT4 hcb hq,aP6 (vX d) (by omega),aP6 (vX d) (by omega),aRi hp hd]
   unfold bLo bHi
   by_cases h:0 < ne3 c q
   · rw [if_pos h,cN (show ne3 c q > 0 from h),cond_true];rfl
   · rw [if_neg h,dQ (show ¬ne3 c q > 0 from h),cond_false];rfl
 · simp only [nX]
   rw [hL,dQ (Int.lt_irrefl _),cond_false,hl]
end
def tmP (s:Int)(q:PN):PN:=(tm s q.1,tm s q.2.1,tm s q.2.2)
theorem aMs {q:PN} {s:Int} (hs:1<=s/\s<=8)(hq:bdP 64 q):bdP 5000 (tmP s q) :=
 ⟨(aIw hs (by omega) hq.1).mono (by omega),(aIw hs (by omega) hq.2.1).mono (by omega),(aIw hs (by omega) hq.2.2).mono (by omega)⟩
theorem aGv (p q:PN)(d:Int):F25 p q d=F29 p q d:=by
 unfold F25 F29
 rw [aIr,uJ]
 by_cases h:pk p q d=0
 · obtain⟨h1,h2,h3⟩:=aIs h
   have hs:=aTq d
   have hq:=(sN h2).1
   have hq':=hq.mono (show(64:Int)<=4096 by omega)
   have hd:0<=d/\d<=3:=by omega
   rw [aTn hd,aTo hd,aRc hs hq'.1,aRc hs hq'.2.1,aRc hs hq'.2.2,aRd hs hq'.1,aRd hs hq'.2.1,aRd hs hq'.2.2]
   have e1:=aT9 h1 (aMs hs hq) hd
   have e2:=aUa h1 (aMs hs hq) hd
   unfold tmP at e1 e2
   rw [e1,e2]
 · rw [bne_iff_ne.2 h,cond_true,cond_true]
end Go.Proofs.YtmihafgemmgepaaGreat
namespace Go.Proofs.YtmihafgemmgepaaGreat
open Go.Proofs Go.Aw Go.RowKit
set_option maxRecDepth 100000
def vs (a:Int×Int):Prop:=-1099511627776<=a.1/\a.1<=a.2/\a.2<=1099511627776
def ht (p:PN)(x:P3):Int:=dt (sb p.1 x) (cr (sb p.2.1 x) (sb p.2.2 x))
def lG (x:Int×Int):List SV:=[(iv x.1),(iv x.2)]
theorem lH (x:Int×Int):(lG x).length=2:=rfl
def aV3:List (Int×Int)->Int×Int->Int×Int
 | [],v=>v
 | a::l,v=>aV3 l (v.1+a.1,v.2+a.2)
section
variable {l : List (Int × Int)}
end
end Go.Proofs.YtmihafgemmgepaaGreat
namespace Go.Proofs.YtmihafgemmgepaaGreat
open Go.Proofs Go.Aw Go.RowKit
set_option maxRecDepth 100000
def F77 (a0:Int):Int :=
 (if(a0:Int) < (W (0 - a0)) then(W (0 - a0)) else a0)
theorem C77 (a0:Int):Con Tryz.prog 77 [(iv a0)] [] (iv (F77 a0)) []:=by
 refine aO Tryz.func77 (by kernel_rfl) fun cx hcx=>?_
 have e:=Eq.refl (F77 a0);conv at e=>rhs;simp only [F77]
 rw [e]
 exact rt [] [] [] hcx (by kernel_rfl)
def tH (a0:Zt)(a1:Int):Bool :=
 (bif (decide (((F77 a0.1):Int)<=a1)) then
  (bif (decide (((F77 a0.2.1):Int)<=a1)) then
   (bif (decide (((F77 a0.2.2):Int)<=a1)) then
    (bif (decide ((a0.1:Int)≥(W (0 - a1)))) then
     (bif (decide ((a0.2.1:Int)≥(W (0 - a1)))) then
      (decide ((a0.2.2:Int)≥(W (0 - a1))))
     else
      false)
    else
     false)
   else
    false)
  else
   false)
 else
  false)
theorem C51 (a0:Zt)(a1:Int):Con Tryz.prog 51 [(.a (k3 a0)),(iv a1)] [] (.v (.bool (tH a0 a1))) []:=by
 refine aO Tryz.func51 (by kernel_rfl) fun cx hcx=>?_
 let t0:List (St Tryz.prog):=[.c [] (C77 a0.1)]
 cases h0:(decide (((F77 a0.1):Int)<=a1)) with
 | true =>
  have q0:=cA h0
  let t1:List (St Tryz.prog):=(t0++[.d h0,.c [] (C77 a0.2.1)])
  cases h1:(decide (((F77 a0.2.1):Int)<=a1)) with
  | true =>
   have q1:=cA h1
   let t2:List (St Tryz.prog):=(t1++[.d h1,.c [] (C77 a0.2.2)])
   cases h2:(decide (((F77 a0.2.2):Int)<=a1)) with
   | true =>
    have q2:=cA h2
    let t3:List (St Tryz.prog):=(t2++[.d h2])
    cases h3:(decide ((a0.1:Int)≥(W (0 - a1)))) with
    | true =>
     have q3:=cA h3
     let t4:List (St Tryz.prog):=(t3++[.d h3])
     cases h4:(decide ((a0.2.1:Int)≥(W (0 - a1)))) with
     | true =>
      have q4:=cA h4
      have e:=Eq.refl (tH a0 a1);conv at e=>rhs;simp only [tH,h0,h1,h2,h3,h4,aS]
      rw [e]
      exact rt (t4++[.d h4]) [] [] hcx (by kernel_rfl)
     | false =>
      have q4:=cH h4
      have e:=Eq.refl (tH a0 a1);conv at e=>rhs;simp only [tH,h0,h1,h2,h3,h4,aS]
      rw [e]
      exact rt (t4++[.d h4]) [] [] hcx (by kernel_rfl)
    | false =>
     have q3:=cH h3
     have e:=Eq.refl (tH a0 a1);conv at e=>rhs;simp only [tH,h0,h1,h2,h3,aS]
     rw [e]
     exact rt (t3++[.d h3]) [] [] hcx (by kernel_rfl)
   | false =>
    have q2:=cH h2
    have e:=Eq.refl (tH a0 a1);conv at e=>rhs;simp only [tH,h0,h1,h2,aS]
    rw [e]
    exact rt (t2++[.d h2]) [] [] hcx (by kernel_rfl)
  | false =>
   have q1:=cH h1
   have e:=Eq.refl (tH a0 a1);conv at e=>rhs;simp only [tH,h0,h1,aS]
   rw [e]
   exact rt (t1++[.d h1]) [] [] hcx (by kernel_rfl)
 | false =>
  have q0:=cH h0
  have e:=Eq.refl (tH a0 a1);conv at e=>rhs;simp only [tH,h0,aS]
  rw [e]
  exact rt (t0++[.d h0]) [] [] hcx (by kernel_rfl)
def jQ (a0:Zt):Int :=
 (W ((W ((W (a0.1*a0.1))+(W (a0.2.1*a0.2.1))))+(W (a0.2.2*a0.2.2))))
theorem C78 (a0:Zt):Con Tryz.prog 78 [(.a (k3 a0))] [] (iv (jQ a0)) []:=by
 refine aO Tryz.func78 (by kernel_rfl) fun cx hcx=>?_
 have e:=Eq.refl (jQ a0);conv at e=>rhs;simp only [jQ]
 rw [e]
 exact rt [] [] [] hcx (by kernel_rfl)
def jB (a0:Zt)(a1:Zt):Zt :=
 ((W (a0.1 - a1.1)),(W (a0.2.1 - a1.2.1)),(W (a0.2.2 - a1.2.2)))
theorem C79 (a0:Zt)(a1:Zt):Con Tryz.prog 79 [(.a (k3 a0)),(.a (k3 a1))] [] (.a (k3 (jB a0 a1))) []:=by
 refine aO Tryz.func79 (by kernel_rfl) fun cx hcx=>?_
 have e:=Eq.refl (jB a0 a1);conv at e=>rhs;simp only [jB]
 rw [e]
 exact rt [] [] [] hcx (by kernel_rfl)
theorem aUb {v:P3} (h:bd 10000 v):jQ v=dt v v:=by
 have h1:=cL h.1 h.1;have h2:=cL h.2.1 h.2.1;have h3:=cL h.2.2 h.2.2
 have n1:=gR v.1;have n2:=gR v.2.1;have n3:=gR v.2.2
 unfold jQ
 rw [aJ (n:=v.1*v.1) (by omega) (by omega),aJ (n:=v.2.1*v.2.1) (by omega) (by omega),aJ (n:=v.2.2*v.2.2) (by omega) (by omega),aRa (by omega) (by omega) (by omega)];rfl
theorem aUc {p q:P3} (hp:bd 5000 p)(hq:bd 5000 q):jB p q=sb p q:=by
 unfold bd at hp hq
 unfold jB
 rw [aJ (n:=p.1 - q.1) (by omega) (by omega),aJ (n:=p.2.1 - q.2.1) (by omega) (by omega),aJ (n:=p.2.2 - q.2.2) (by omega) (by omega)];rfl
theorem aRl {p q:P3} (hp:bd 5000 p)(hq:bd 5000 q):jQ (jB p q)=ds p q:=by
 rw [aUc hp hq,aUb (kU hp hq)];rfl
section
variable {n s t : Int}
end
end Go.Proofs.YtmihafgemmgepaaGreat
namespace Go.Proofs.YtmihafgemmgepaaGreat
open Go.Proofs Go.Aw Go.RowKit
set_option maxRecDepth 100000
open Go.ChangeShapes Go.WideShapes Go.ChangeAt
section
variable {H : Type} {enc : TypeId × Value → H} {P : Program} {w : World}
def mW (w:World)(es:Nat)(v:Value)(nss:List (List Int)):Prop :=
 (∀ns∈nss,ns.length=es)/\nss.length<=9223372036854775807 /\
 ((v=.slice none 0 0/\nss=[])\/∃b o cap,v=.slice (some ⟨b,o,none⟩) nss.length cap/\nss.length<=cap/\∀(i:Nat) (x:Value),((nss.flatten).map (Value.int .i64))[i]? = some x->w.cell? ⟨b,o+i,none⟩=some x)
theorem qT {es b:Nat}:∀(nss:List (List Int)) (o:Nat),(∀(j:Nat) (ns:List Int),nss[j]? = some ns->ns.length=es/\∀(q:Nat) (x:Value),(ns.map (Value.int .i64))[q]? = some x->w.cell? ⟨b,o+j*es+q,none⟩=some x) ->
   ∀(i:Nat) (x:Value),((nss.flatten).map (Value.int .i64))[i]? = some x->w.cell? ⟨b,o+i,none⟩=some x
 | [],o,_,i,x,hi=>by simp at hi
 | ns::l,o,h,i,x,hi=>by
   obtain⟨h1,h2⟩:=h 0 ns rfl
   rw [List.flatten_cons,List.map_append] at hi
   by_cases hlt:i < ns.length
   · rw [List.getElem?_append_left (by simpa using hlt)] at hi
     have:=h2 i x hi
     simpa using this
   · rw [List.getElem?_append_right (by simpa using hlt)] at hi
     have:=qT l (o+es) (fun j ms hj=>⟨(h (j+1) ms hj).1,fun q y hq=>by
       have:=(h (j+1) ms hj).2 q y hq
       rw [show o+es+j*es+q=o+(j+1)*es+q by rw [Nat.add_mul];omega];exact this⟩) (i - es) x (by simpa [h1] using hi)
     rw [show o+es+(i - es)=o+i by omega] at this;exact this
theorem aKi {r:Reach} {b0:Nat} {t e:TypeId} {es:Nat} {v:Value} {d:DataW H} {ps:List MemPlace} (ht:P.underlying t=some (.slice e))(hf:pS P 6 e=true)(hes:P.cellsOf e=es)
   (hval:Value.okWide P w r b0 t v) (hd:DataW.Trod enc P w 0 (fun _=>true) true t v d ps):(∃nss,mW w es v nss)/\∀x∈ps,x.block < w.heap.size:=by
 obtain⟨fuel,hx⟩:=hd
 refine⟨?_,DataW.trod_lt fuel t _ _ hx⟩
 obtain⟨a,len,cap,rfl⟩:=okWide_slice ht hval
 rcases Go.Deep.open_slice ht hx with⟨hc,_⟩ | ⟨a',len',cap',m,n,D,Pl,hc,hb,hl,hm,hmm,_,hall⟩
 · simp only [Value.cells,List.cons.injEq,and_true] at hc
   exact⟨[],fun ns h=>by simp at h,by simp,.inl ⟨hc,rfl⟩⟩
 · simp only [Value.cells,List.cons.injEq,and_true,Value.slice.injEq] at hc
   obtain⟨rfl,rfl,rfl⟩:=hc
   simp only [Value.okWide,ht,Cell.okWide,Cell.ok,World.has] at hval
   have hsp:a'.spot=none:=hval.2.2.2.1
   obtain⟨b,o,sp⟩:=a'
   simp only at hsp
   subst hsp
   simp only [if_true] at hmm
   obtain⟨N,hN⟩:=Go.Deep.choose_lt (α:=List Int) (p:=fun i ns=>ns.length=es/\∀(q:Nat) (x:Value),(ns.map (Value.int .i64))[q]? = some x->w.cell? ⟨b,o+i*es+q,none⟩=some x) (n:=len) (fun i hi=>by
     obtain⟨cs',h1,h2⟩:=hall i (by omega)
     obtain⟨_,ns,rfl⟩:=mJ 6 e n cs' _ hf h2
     obtain⟨_,hlen,hcell⟩:=World.cells?_some h1
     rw [hes] at hlen hcell
     refine⟨ns,by simpa using hlen,fun q x hq=>?_⟩
     have hq':=(List.getElem?_eq_some_iff.1 hq).1
     have:=hcell q (by omega)
     rw [Go.Aw.add_eq,Go.Aw.add_eq] at this
     rw [this,hq])
   refine⟨(List.range len).map N,fun ns h=>?_,?_,.inr ⟨b,o,cap,?_,?_,?_⟩⟩
   · obtain⟨i,hi,rfl⟩:=List.mem_map.1 h
     exact(hN i (by simpa using hi)).1
   · have:maxLen=9223372036854775807:=rfl
     simp;omega
   · simp
   · simpa using hl
   · refine qT (es:=es) _ o (fun j ns hj=>?_)
     have hjl:=(List.getElem?_eq_some_iff.1 hj).1
     simp only [List.length_map,List.length_range] at hjl
     have:N j=ns:=by simpa [hjl] using hj
     subst this
     exact hN j hjl
def rho (es:Nat):Value->Option (Nat×Nat×Nat)
 | .slice (some a) _ cap=>some (a.block,a.off,cap*es)
 | _=>none
theorem aKj {es:Nat} {v:Value} {nss:List (List Int)} {ρ:Env} {k:Nat} (h:mW w es v nss)(hk:ρ k=rho es v):Rel ρ (.s k 0 nss.length es) v:=by
 obtain⟨h1,h2,⟨rfl,rfl⟩ | ⟨b,o,cap,rfl,h3,h4⟩⟩:=h
 · simp only [Rel];exact .inl ⟨hk,rfl,trivial⟩
 · simp only [Rel];exact .inr ⟨b,o,cap*es,cap,0,none,hk,rfl,h3,by omega,fun _=>⟨rfl,rfl⟩⟩
theorem vY {es:Nat}:∀{nss:List (List Int)},(∀ns∈nss,ns.length=es)->nss.flatten.length=nss.length*es
 | [],_=>by simp
 | ns::l,h=>by
   rw [List.flatten_cons,List.length_append,vY (fun m hm=>h m (List.mem_cons_of_mem _ hm)),h ns List.mem_cons_self,List.length_cons,Nat.add_mul];omega
theorem zE {es:Nat} {v:Value} {nss:List (List Int)} {ρ:Env} {k:Nat} {M:Nat->Prop} (h:mW w es v nss)(hk:ρ k=rho es v)(hM:∀b,M b->w.heap.size<=b):BRep ρ M w k (.live false true ((nss.flatten).map iv)):=by
 obtain⟨h1,h2,⟨rfl,rfl⟩ | ⟨b,o,cap,rfl,h3,h4⟩⟩:=h
 · exact .inl ⟨hk,rfl⟩
 · have hlen:=vY h1
   refine .inr ⟨b,o,cap*es,(nss.flatten).map (Value.int .i64),hk,⟨?_,fun hne hm=>?_⟩,aCr _,h4⟩
   · rw [List.length_map,hlen];exact Nat.mul_le_mul_right _ h3
   · have hb:=hM b hm
     obtain⟨x,hx⟩:=List.exists_mem_of_ne_nil _ hne
     obtain⟨i,hi⟩:=List.getElem?_of_mem hx
     have:=World.block_lt_of_cell? w ⟨b,o+i,none⟩ (h4 i x hi)
     exact absurd this (Nat.not_lt_of_le hb)
theorem aIz {α:Type} {c:α->List SV} {f:List Int->α} {es:Nat} (hc:∀ns:List Int,ns.length=es->c (f ns)=ns.map iv):∀{nss:List (List Int)},(∀ns∈nss,ns.length=es)->flat c (nss.map f)=(nss.flatten).map iv
 | [],_=>rfl
 | ns::l,h=>by
   have:=aIz hc (nss:=l) (fun m hm=>h m (List.mem_cons_of_mem _ hm))
   unfold flat at *
   rw [List.map_cons,List.flatMap_cons,this,hc ns (h ns List.mem_cons_self),List.flatten_cons,List.map_append]
end
theorem uL:∀ns:List Int,Plain (ns.map iv)
 | []=>fun k hk=>by simp [SV.hasl] at hk
 | n::l=>fun k hk=>by
   simp only [List.map_cons,SV.hasl] at hk
   rcases hk with hk | hk
   · simp [iv,SV.has] at hk
   · exact uL l k hk
theorem zF {P:Program} {f:Nat} {args:List SV} {vs:List Value} {x:Value} {bs:List BK} (hc:Con P f args bs (.v x) []) (ρ:Env) {W:World} (hr:Rels ρ args vs)(hown:∀i,¬(bs.getD i .un).own)
   (hb:(∀b,(bB ρ W bs).mine b->W.heap.size<=b)->∀i,BRep ρ (bB ρ W bs).mine W i (bs.getD i .un)) (hpl:∀i,(bs.getD i .un).pl) (hnf:∀b,ρ.fz b=none) :
   Calls P f vs.toArray W fun e W'=>e=.returned x/\Below W.heap.size W W':=by
 have hM:∀b,(bB ρ W bs).mine b->W.heap.size<=b:=by
   rintro b (h | ⟨i,n,hi,_⟩)
   · exact h
   · exact absurd hi (hown i)
 refine(hc.2 ρ W vs hr (hb hM) hpl (fun i j b n b' n' _ h=>absurd h (hown i)) (fun b o h=>by rw [hnf b] at h;cases h)).mono fun e W' h=>?_
 obtain⟨ρ',v,rfl,_,hv,hk,_⟩:=h
 refine⟨by rw [show v=x from hv],hk.os,hk.tape,hk.output,hk.size,fun k hk'=>hk.block k hk' ?_⟩
 rintro ⟨i,n,hi,_⟩
 exact hown i hi
def aV4 (e:Nat)(v:Value):Env:=⟨fun k=>if k=0 then rho e v else none,fun _=>none⟩
theorem aGw {P:Program} {f es0:Nat} {args:List SV} {vs:List Value} {x v0:Value} {nss0:List (List Int)} {W:World} (hc:Con P f args [.live false true ((nss0.flatten).map iv)] (.v x) [])
   (s0:mW W es0 v0 nss0) (hr:Rels (aV4 es0 v0) args vs):Calls P f vs.toArray W fun e W'=>e=.returned x/\Below W.heap.size W W':=by
 refine zF hc _ hr (fun i=>?_) (fun hM i=>?_) (fun i=>?_) (fun _=>rfl)
 · rcases i with _ | i<;>simp [BK.own]
 · rcases i with _ | i
   · exact zE s0 rfl hM
   · simp [BRep]
 · rcases i with _ | i
   · exact uL _
   · simp [BK.pl]
end Go.Proofs.YtmihafgemmgepaaGreat
namespace Go.Proofs.YtmihafgemmgepaaGreat
open Go.Proofs Go.Aw Go.RowKit
set_option maxRecDepth 100000
theorem eX {α:Type} {c:α->List SV} (hc:∀x,(c x).all SV.one=true) {l:List α}:(flat c l).all SV.one=true:=by
 rw [List.all_eq_true]
 intro x hx
 obtain⟨a,_,ha⟩:=List.mem_flatMap.1 hx
 exact List.all_eq_true.1 (hc a) x ha
theorem bI {α:Type} {c:α->List SV} {es:Nat} (hc:∀x,(c x).length=es)(l:List α):(flat c l).length=l.length*es:=nT hc l
section
variable {l : List (Int × Int)}
end
end Go.Proofs.YtmihafgemmgepaaGreat
namespace Go.Proofs.YtmihafgemmgepaaGreat
open Go.Proofs Go.Aw Go.RowKit
set_option maxRecDepth 100000
theorem sU {l:List (PN×Int)} (h:gH l=0):l.length<=96:=by
 rcases Nat.lt_or_ge 96 l.length with h' | h'
 · exfalso
   unfold gH at h
   rw [cN (by omega),cond_true] at h
   exact absurd h (by decide)
 · exact h'
theorem aW {α:Type} {c:α->List SV} {es:Nat} (hc:∀x,(c x).length=es) {L:List α} {i o:Nat} {xs:List SV} {d y:α} (hi:i < L.length)(ho:o+xs.length<=es)(hy:c y=splice (c (L.getD i d)) o xs) :
   splice (flat c L) (0+i*es+o) xs=flat c (L.set i y):=by
 induction L generalizing i with
 | nil=>simp at hi
 | cons x L ih =>
   cases i with
   | zero =>
     have hy':c y=splice (c x) o xs:=hy
     have hx:=hc x
     simp only [flat,List.flatMap_cons,List.set_cons_zero,hy']
     unfold splice
     simp only [Nat.zero_mul,Nat.zero_add]
     rw [List.take_append_of_le_length (by omega),List.drop_append_of_le_length (by omega)]
     simp [List.append_assoc]
   | succ i =>
     have h:=ih (i:=i) (by simpa using hi) hy
     have hx:=hc x
     simp only [flat,List.flatMap_cons,List.set_cons_succ] at h ⊢
     rw [←h]
     unfold splice
     have e1:0+(i+1)*es+o=(c x).length+(0+i*es+o):=by rw [hx,Nat.add_mul];omega
     rw [e1,List.take_length_add_append,show(c x).length+(0+i*es+o)+xs.length=(c x).length+(0+i*es+o+xs.length) by omega,List.drop_length_add_append]
     simp [List.append_assoc]
theorem cS {α:Type} {c:α->List SV} {es:Nat} (hc:∀x,(c x).length=es) {L:List α} {i o n:Nat} (hi:i < L.length)(ho:o+n<=es):0+i*es+o+n<=(flat c L).length:=by
 rw [nT hc]
 have:=Nat.mul_le_mul_right es (show i+1<=L.length by omega)
 rw [Nat.add_mul] at this
 omega
theorem aRm (w i es x:Nat):0+w*es+i*es+x=0+(w+i)*es+x:=by rw [Nat.add_mul];omega
theorem uM {α:Type} {c:α->List SV} {es:Nat} (hc:∀x,(c x).length=es) {L:List α} {w i o:Nat} {xs:List SV} {d y:α} (hi:w+i < L.length)(ho:o+xs.length<=es)(hy:c y=splice (c (L.getD (w+i) d)) o xs) :
 splice (flat c L) (0+w*es+i*es+o) xs=flat c (L.set (w+i) y):=by rw [aRm];exact aW hc hi ho hy
theorem zG {α:Type} {c:α->List SV} {es:Nat} (hc:∀x,(c x).length=es) {L:List α} {w i o n:Nat} (hi:w+i < L.length)(ho:o+n<=es):0+w*es+i*es+o+n<=(flat c L).length:=by rw [aRm];exact cS hc hi ho
theorem ldw {α:Type} [Inhabited α] {c:α->List SV} {es:Nat} (hc:∀x,(c x).length=es)(l:List α)(w:Nat)(i:Int)(o n:Nat)(h:w+i.toNat < l.length)(ho:o+n<=es) :
   ((flat c l).drop (0+w*es+i.toNat*es+o)).take n=((c (l.getD (w+i.toNat) default)).drop o).take n:=by
 rw [aRm]
 have:=aId hc l ((w+i.toNat:Nat):Int) o n ⟨by omega,by omega⟩ ho
 rw [jM] at this
 exact this
def aOt {P:Program} {α:Type} [Inhabited α] {c:α->List SV} {es:Nat} (hc:∀x,(c x).length=es)(l:List α)(w:Nat)(i:Int)(o n:Nat)(h:w+i.toNat < l.length:=by first | omega | (simp only [Lt];omega)) (ho:o+n<=es:=by decide):St P :=
 St.l (l:=flat c l) (o:=0+w*es+i.toNat*es+o) (n:=n) (((c (l.getD (w+i.toNat) default)).drop o).take n) (ldw hc l w i o n h ho)
def InR (n:Nat)(l:List Int):Prop:=∀x∈l,0<=x/\x < (n:Int)
theorem InR.at {n:Nat} {l:List Int} (h:InR n l) {i:Nat} (hi:i < l.length):0<=l.getD i default/\l.getD i default < (n:Int):=by
 rw [eQ,List.getElem?_eq_getElem hi,Option.getD_some]
 exact h _ (List.getElem_mem hi)
theorem InR.set {n:Nat} {l:List Int} (h:InR n l) {i:Nat} {x:Int} (hx:0<=x/\x < (n:Int)):InR n (l.set i x):=fun y hy=>by
 rcases List.mem_or_eq_of_mem_set hy with hy | rfl
 · exact h y hy
 · exact hx
theorem InR.swap {n:Nat} {l:List Int} (h:InR n l) {i j p q:Nat} (hp:p < l.length)(hq:q < l.length):InR n ((l.set i (l.getD p default)).set j (l.getD q default)):=(h.set (h.at hp)).set (h.at hq)
def bT (x:Int×Int×Int×Int×Zt×Int):List SV:=[(iv x.1),(iv x.2.1),(iv x.2.2.1),(iv x.2.2.2.1),(iv x.2.2.2.2.1.1),(iv x.2.2.2.2.1.2.1),(iv x.2.2.2.2.1.2.2),(iv x.2.2.2.2.2)]
theorem bJ (x:Int×Int×Int×Int×Zt×Int):(bT x).length=8:=rfl
def fX (a0:bM×Int×List (Int)×bE)(a1:Int)(a2:Int):Int :=
 (bif ((a2:Int) == 0) then
  (W ((W ((a0.1.getD (toNat a1) default).1.1.1+(a0.1.getD (toNat a1) default).1.2.1.1))+(a0.1.getD (toNat a1) default).1.2.2.1))
 else
  (bif ((a2:Int) == 1) then
   (W ((W ((a0.1.getD (toNat a1) default).1.1.2.1+(a0.1.getD (toNat a1) default).1.2.1.2.1))+(a0.1.getD (toNat a1) default).1.2.2.2.1))
  else
   (W ((W ((a0.1.getD (toNat a1) default).1.1.2.2+(a0.1.getD (toNat a1) default).1.2.1.2.2))+(a0.1.getD (toNat a1) default).1.2.2.2.2))))
theorem aKk (a0:bM×Int×List (Int)×bE)(a1:Int)(a2:Int)(l0_1:a0.1.length<=9223372036854775807)(l0_2_2_1:a0.2.2.1.length<=9223372036854775807)(l0_2_2_2:a0.2.2.2.length<=9223372036854775807)(hi:0<=a1/\a1 < (a0.1.length:Int)):Con Tryz.prog 132 [(.p 0 0),(iv a1),(iv a2)] [(.live false false [(.s 1 0 a0.1.length 10),(iv a0.2.1),(.s 2 0 a0.2.2.1.length 1),(.s 3 0 a0.2.2.2.length 8)]),(.live false true (flat eF a0.1)),(.live false true (flat c3 a0.2.2.1)),(.live false true (flat bT a0.2.2.2))] (iv (fX a0 a1 a2)) []:=by
 refine aO Tryz.func132 (by kernel_rfl) fun cx hcx=>?_
 let t0:List (St Tryz.prog):=[.i a1 (a0.1.length),.L cJ a0.1 a1 0 9]
 cases h0:((a2:Int) == 0) with
 | true =>
  have q0:=eq_of_beq h0
  have e:=Eq.refl (fX a0 a1 a2);conv at e=>rhs;simp only [fX,h0,aS]
  rw [e]
  exact rt (t0++[.d h0]) [] [] hcx (by kernel_rfl)
 | false =>
  have q0:=ne_of_beq_false h0
  let t1:List (St Tryz.prog):=(t0++[.d h0])
  cases h1:((a2:Int) == 1) with
  | true =>
   have q1:=eq_of_beq h1
   have e:=Eq.refl (fX a0 a1 a2);conv at e=>rhs;simp only [fX,h0,h1,aS]
   rw [e]
   exact rt (t1++[.d h1]) [] [] hcx (by kernel_rfl)
  | false =>
   have q1:=ne_of_beq_false h1
   have e:=Eq.refl (fX a0 a1 a2);conv at e=>rhs;simp only [fX,h0,h1,aS]
   rw [e]
   exact rt (t1++[.d h1]) [] [] hcx (by kernel_rfl)
def zH (a0:Int):Bool :=
 ((a0:Int) != a0)
theorem aUd (a0:Int):Con Tryz.prog 156 [(iv a0)] [] (.v (.bool (zH a0))) []:=by
 refine aO Tryz.func156 (by kernel_rfl) fun cx hcx=>?_
 have e:=Eq.refl (zH a0);conv at e=>rhs;simp only [zH]
 rw [e]
 exact rt [] [] [] hcx (by kernel_rfl)
def lS (a0:Int)(a1:Int):Int :=
 (bif (zH a0) then
  (bif (zH a1) then
   0
  else
   (-1))
 else
  (bif (zH a1) then
   1
  else
   (bif (decide ((a0:Int) < a1)) then
    (-1)
   else
    (bif (decide ((a0:Int) > a1)) then
     1
    else
     0))))
theorem aUe (a0:Int)(a1:Int):Con Tryz.prog 134 [(iv a0),(iv a1)] [] (iv (lS a0 a1)) []:=by
 refine aO Tryz.func134 (by kernel_rfl) fun cx hcx=>?_
 let t0:List (St Tryz.prog):=[.c [] (aUd a0),.c [] (aUd a1)]
 cases h0:(zH a0) with
 | true =>
  let t1:List (St Tryz.prog):=(t0++[.d h0])
  cases h1:(zH a1) with
  | true =>
   have e:=Eq.refl (lS a0 a1);conv at e=>rhs;simp only [lS,h0,h1,aS]
   rw [e]
   exact rt (t1++[.d h1]) [] [] hcx (by kernel_rfl)
  | false =>
   have e:=Eq.refl (lS a0 a1);conv at e=>rhs;simp only [lS,h0,h1,aS]
   rw [e]
   exact rt (t1++[.d h1]) [] [] hcx (by kernel_rfl)
 | false =>
  let t1:List (St Tryz.prog):=(t0++[.d h0])
  cases h1:(zH a1) with
  | true =>
   have e:=Eq.refl (lS a0 a1);conv at e=>rhs;simp only [lS,h0,h1,aS]
   rw [e]
   exact rt (t1++[.d h1]) [] [] hcx (by kernel_rfl)
  | false =>
   let t2:List (St Tryz.prog):=(t1++[.d h1])
   cases h2:(decide ((a0:Int) < a1)) with
   | true =>
    have q2:=cA h2
    have e:=Eq.refl (lS a0 a1);conv at e=>rhs;simp only [lS,h0,h1,h2,aS]
    rw [e]
    exact rt (t2++[.d h2]) [] [] hcx (by kernel_rfl)
   | false =>
    have q2:=cH h2
    let t3:List (St Tryz.prog):=(t2++[.d h2])
    cases h3:(decide ((a0:Int) > a1)) with
    | true =>
     have q3:=cA h3
     have e:=Eq.refl (lS a0 a1);conv at e=>rhs;simp only [lS,h0,h1,h2,h3,aS]
     rw [e]
     exact rt (t3++[.d h3]) [] [] hcx (by kernel_rfl)
    | false =>
     have q3:=cH h3
     have e:=Eq.refl (lS a0 a1);conv at e=>rhs;simp only [lS,h0,h1,h2,h3,aS]
     rw [e]
     exact rt (t3++[.d h3]) [] [] hcx (by kernel_rfl)
def lT (a0:(Int)×(Int)):Int :=
 (bif ((a0.1:Int) != 0) then
  a0.1
 else
  (bif ((a0.2:Int) != 0) then
   a0.2
  else
   0))
theorem aRn (a0:(Int)×(Int)):Con Tryz.prog 133 [(.s 0 0 2 1)] [(.live false false [(iv a0.1),(iv a0.2)])] (iv (lT a0)) []:=by
 refine aO Tryz.func133 (by kernel_rfl) fun cx hcx=>?_
 let t0:List (St Tryz.prog):=[.u 200,.T,.i 0 2 (by decide)]
 cases h0:((a0.1:Int) != 0) with
 | true =>
  have q0:=bne_iff_ne.1 h0
  have e:=Eq.refl (lT a0);conv at e=>rhs;simp only [lT,h0,aS]
  rw [e]
  exact rt (t0++[.d h0]) [] [] hcx (by kernel_rfl)
 | false =>
  have q0:=bne_eq_false_iff_eq.1 h0
  let t1:List (St Tryz.prog):=(t0++[.d h0,.u 0,.T,.i 1 2 (by decide)])
  cases h1:((a0.2:Int) != 0) with
  | true =>
   have q1:=bne_iff_ne.1 h1
   have e:=Eq.refl (lT a0);conv at e=>rhs;simp only [lT,h0,h1,aS]
   rw [e]
   exact rt (t1++[.d h1]) [] [] hcx (by kernel_rfl)
  | false =>
   have q1:=bne_eq_false_iff_eq.1 h1
   have e:=Eq.refl (lT a0);conv at e=>rhs;simp only [lT,h0,h1,aS]
   rw [e]
   exact rt (t1++[.d h1,.u 0,.F]) [] [] hcx (by kernel_rfl)
def F94 (a0:xE×Int)(a1:Int)(a2:Int):Int :=
 (lT ((lS (fX (a0.1.1,a0.1.2.1,(a0.1.2.2.1,a0.1.2.2.2)) a1 a0.2) (fX (a0.1.1,a0.1.2.1,(a0.1.2.2.1,a0.1.2.2.2)) a2 a0.2)),(lS a1 a2)))
theorem C94 (a0:xE×Int)(a1:Int)(a2:Int)(l0_1_1:a0.1.1.length<=9223372036854775807)(l0_1_2_2_1:a0.1.2.2.1.length<=9223372036854775807)(l0_1_2_2_2:a0.1.2.2.2.length<=9223372036854775807)(hi:0<=a1/\a1 < (a0.1.1.length:Int))(hk:0<=a2/\a2 < (a0.1.1.length:Int)):Con Tryz.prog 94 [(.a [(.p 0 0),(iv a0.2)]),(iv a1),(iv a2)] [(.live false false [(.s 1 0 a0.1.1.length 10),(iv a0.1.2.1),(.s 2 0 a0.1.2.2.1.length 1),(.s 3 0 a0.1.2.2.2.length 8)]),(.live false true (flat eF a0.1.1)),(.live false true (flat c3 a0.1.2.2.1)),(.live false true (flat bT a0.1.2.2.2))] (iv (F94 a0 a1 a2)) []:=by
 refine aO Tryz.func94 (by kernel_rfl) fun cx hcx=>?_
 have e:=Eq.refl (F94 a0 a1 a2);conv at e=>rhs;simp only [F94]
 rw [e]
 exact rt [.c [0,1,2,3] (aKk (a0.1.1,a0.1.2.1,(a0.1.2.2.1,a0.1.2.2.2)) a1 a0.2 (by(try simp only [Lt]);omega) (by(try simp only [Lt]);omega) (by(try simp only [Lt]);omega) (by first | exact hi | exact hk)),.c [0,1,2,3] (aKk (a0.1.1,a0.1.2.1,(a0.1.2.2.1,a0.1.2.2.2)) a2 a0.2 (by(try simp only [Lt]);omega) (by(try simp only [Lt]);omega) (by(try simp only [Lt]);omega) (by first | exact hi | exact hk)),.c [] (aUe (fX (a0.1.1,a0.1.2.1,(a0.1.2.2.1,a0.1.2.2.2)) a1 a0.2) (fX (a0.1.1,a0.1.2.1,(a0.1.2.2.1,a0.1.2.2.2)) a2 a0.2)),.c [] (aUe a1 a2),.c [5] (aRn ((lS (fX (a0.1.1,a0.1.2.1,(a0.1.2.2.1,a0.1.2.2.2)) a1 a0.2) (fX (a0.1.1,a0.1.2.1,(a0.1.2.2.1,a0.1.2.2.2)) a2 a0.2)),(lS a1 a2)))] [] [] hcx (by kernel_rfl)
noncomputable def mX:Code:=(aI [1,0,1,0,1] [0] (aL Tryz.f146) []).1
noncomputable def mY (m0:Nat):List K:=(aI [1,0,1,0,1] [m0] (aL Tryz.f146) []).2
def lU (a0:List (Int))(a0_o:Nat)(a0_n:Nat)(a1:Int)(a2:Int)(a3:xE×Int)(v5c:List SV)(v5n:Nat)(v6 v7:Int):LS:=⟨iM 53 [(0,(.s 0 (0+a0_o*1) a0_n 1)),(1,(iv a1)),(2,(iv a2)),(3,(.f 1000094 [(.a [(.p 1 0),(iv a3.2)])])),(8,(iv v6)),(9,(iv v7))],[(.live true true v5c),(.live false false [(.s 2 0 a3.1.1.length 10),(iv a3.1.2.1),(.s 0 0 v5n 1),(.s 3 0 a3.1.2.2.2.length 8)]),(.live false true (flat eF a3.1.1)),(.live false true (flat bT a3.1.2.2.2))]⟩
def cC (a0:List (Int))(a0_o:Nat)(a0_n:Nat)(a1:Int)(a2:Int)(a3:xE×Int):List (Int)×Int×Int->(List (Int)×Int×Int)⊕((List (Int)×Int)⊕(List (Int)))
 | (v5,v6,v7) =>
  (bif (decide ((v7:Int) > a1)) then
   (bif (decide (((F94 ((a3.1.1,a3.1.2.1,(v5,a3.1.2.2.2)),a3.2) (v5.getD (a0_o+toNat v7) default) (v5.getD (a0_o+toNat (W (v7 - 1))) default)):Int) < 0)) then
    (.inl (((v5.set (a0_o+toNat v7) (v5.getD (a0_o+toNat (W (v7 - 1))) default)).set (a0_o+toNat (W (v7 - 1))) (v5.getD (a0_o+toNat v7) default)),v6,(W (v7 - 1))))
   else
    (.inr (.inl (v5,(v6+1)))))
  else
   (.inr (.inl (v5,(v6+1)))))
noncomputable def iC:Code:=(aI [1] [] (aL Tryz.f146) []).1
noncomputable def iD:List K:=(aI [1] [] (aL Tryz.f146) []).2
def gS (a0:List (Int))(a0_o:Nat)(a0_n:Nat)(a1:Int)(a2:Int)(a3:xE×Int)(v3c:List SV)(v3n:Nat)(v4:Int):LS:=⟨iM 53 [(0,(.s 0 (0+a0_o*1) a0_n 1)),(1,(iv a1)),(2,(iv a2)),(3,(.f 1000094 [(.a [(.p 1 0),(iv a3.2)])])),(8,(iv v4))],[(.live true true v3c),(.live false false [(.s 2 0 a3.1.1.length 10),(iv a3.1.2.1),(.s 0 0 v3n 1),(.s 3 0 a3.1.2.2.2.length 8)]),(.live false true (flat eF a3.1.1)),(.live false true (flat bT a3.1.2.2.2))]⟩
def cX (a0:List (Int))(a0_o:Nat)(a0_n:Nat)(a1:Int)(a2:Int)(a3:xE×Int):List (Int)×Int->(List (Int)×Int)⊕(List (Int))
 | (v3,v4) =>
  (bif (decide ((v4:Int) < a2)) then
   (aC (cC a0 a0_o a0_n a1 a2 a3) (toNat (v4 - a1)+1) (v3,v4,v4))
  else
   (.inr v3))
theorem aCu (a0:List (Int))(a0_o:Nat)(a0_n:Nat)(a1:Int)(a2:Int)(a3:xE×Int)(l0:a0.length<=9223372036854775807)(l3_1_1:a3.1.1.length<=9223372036854775807)(l3_1_2_2_1:a3.1.2.2.1.length<=9223372036854775807)(l3_1_2_2_2:a3.1.2.2.2.length<=9223372036854775807)(hw:a0_o+a0_n<=a0.length/\a0.length<=1048576)(hr:InR a3.1.1.length a0)(hab:0<=a1/\a1<=a2/\a2<=↑a0_n) {cx:Cx} (hcx:cx.base=4)
   (n0:Nat) (g0:∀(v3:List (Int)) (v4:Int),(0<=v4)/\(v3.length=a0.length)/\(InR a3.1.1.length v3)/\(a1 < v4)/\(v4<=a2+1)->toNat (a2 - v4) < n0->Aw.Good Tryz.prog none 9 (bodyPost Tryz.prog Tryz.f146 (RR cx (.t []) [] [(.live true true (flat c3 (aC (cX a0 a0_o a0_n a1 a2 a3) n0 (v3,v4)))),.un,.un,.un])) cx [] (.l iC n0::iD) (gS a0 a0_o a0_n a1 a2 a3 (flat c3 v3) v3.length v4)):∀(n:Nat) (v5:List (Int)) (v6 v7:Int),(v5.length=a0.length)/\(InR a3.1.1.length v5)/\(a1<=v7)/\(v7<=v6)/\(a1 < v6)/\(v6 < a2)/\((0<=v6))/\((v5.length=a0.length))/\((InR a3.1.1.length v5))/\((a1 < v6))/\((v6<=a2+1))/\(v6 < a2)/\(toNat (a2 - v6) < n0+1)->toNat (v7 - a1) < n->Aw.Good Tryz.prog none 9 (bodyPost Tryz.prog Tryz.f146 (RR cx (.t []) [] [(.live true true (flat c3 (aT (cX a0 a0_o a0_n a1 a2 a3) n0 (aC (cC a0 a0_o a0_n a1 a2 a3) n (v5,v6,v7))))),.un,.un,.un])) cx [] (.l mX n::mY n0) (lU a0 a0_o a0_n a1 a2 a3 (flat c3 v5) v5.length v6 v7):=by
 intro n
 induction n with
 | zero=>intro v5 v6 v7 hi hn;exact absurd hn (eP _)
 | succ n ih =>
   intro v5 v6 v7 hi hn
   refine aQ ?_
   have hw_s9m1:=aJ (n:=v7 - 1) (by omega) (by omega)
   cases h0:(decide ((v7:Int) > a1)) with
   | true =>
    have q0:=cA h0
    let t1:List (St Tryz.prog):=[.d h0,.i v7 a0_n,aOt aM v5 a0_o v7 0 1,.i (W (v7 - 1)) a0_n,aOt aM v5 a0_o (W (v7 - 1)) 0 1,.c [1,2,0,3] (C94 ((a3.1.1,a3.1.2.1,(v5,a3.1.2.2.2)),a3.2) (v5.getD (a0_o+toNat v7) default) (v5.getD (a0_o+toNat (W (v7 - 1))) default) (by(try simp only [Lt]);omega) (by(try simp only [Lt]);omega) (by(try simp only [Lt]);omega) (hi.2.1.at (by omega)) (hi.2.1.at (by omega)))]
    cases h1:(decide (((F94 ((a3.1.1,a3.1.2.1,(v5,a3.1.2.2.2)),a3.2) (v5.getD (a0_o+toNat v7) default) (v5.getD (a0_o+toNat (W (v7 - 1))) default)):Int) < 0)) with
    | true =>
     have q1:=cA h1
     have e:=Eq.refl (cC a0 a0_o a0_n a1 a2 a3 (v5,v6,v7));conv at e=>rhs;simp only [cC,h0,h1,aS]
     rw [aE e]
     refine ba (t1++[.d h1,.i (W (v7 - 1)) a0_n,aOt aM v5 a0_o (W (v7 - 1)) 0 1,.i v7 a0_n,aOt aM v5 a0_o v7 0 1,.i v7 a0_n,.p (show((0+a0_o*1+toNat v7*1)+1<=(flat c3 v5).length) from(zG aM (by first | omega | (simp only [Lt];omega)) (o:=0) (Nb rfl))),.i (W (v7 - 1)) a0_n,.p (show((0+a0_o*1+toNat (W (v7 - 1))*1)+1<=(splice (flat c3 v5) (0+a0_o*1+toNat v7*1) [(iv (v5.getD (a0_o+toNat (W (v7 - 1))) default))]).length) from(by rw [show(splice (flat c3 v5) (0+a0_o*1+toNat v7*1) [(iv (v5.getD (a0_o+toNat (W (v7 - 1))) default))])=flat c3 (v5.set (a0_o+toNat v7) (v5.getD (a0_o+toNat (W (v7 - 1))) default)) from(uM aM (by first | omega | (simp only [Lt];omega)) (o:=0) (d:=default) (Nb rfl) rfl)];exact zG aM (by first | omega | (simp only [Lt];omega)) (o:=0) (Nb rfl)))]) [] [0,1,2,3,8,9] [] hcx (m:=n) mX (mY n0) (lU a0 a0_o a0_n a1 a2 a3 (splice (splice (flat c3 v5) (0+a0_o*1+toNat v7*1) [(iv (v5.getD (a0_o+toNat (W (v7 - 1))) default))]) (0+a0_o*1+toNat (W (v7 - 1))*1) [(iv (v5.getD (a0_o+toNat v7) default))]) (v5.length) v6 (W (v7 - 1))) (by kernel_rfl) ?_
     have z0:(splice (splice (flat c3 v5) (0+a0_o*1+toNat v7*1) [(iv (v5.getD (a0_o+toNat (W (v7 - 1))) default))]) (0+a0_o*1+toNat (W (v7 - 1))*1) [(iv (v5.getD (a0_o+toNat v7) default))])=flat c3 ((v5.set (a0_o+toNat v7) (v5.getD (a0_o+toNat (W (v7 - 1))) default)).set (a0_o+toNat (W (v7 - 1))) (v5.getD (a0_o+toNat v7) default)):=(by rw [show(splice (flat c3 v5) (0+a0_o*1+toNat v7*1) [(iv (v5.getD (a0_o+toNat (W (v7 - 1))) default))])=flat c3 (v5.set (a0_o+toNat v7) (v5.getD (a0_o+toNat (W (v7 - 1))) default)) from(uM aM (by first | omega | (simp only [Lt];omega)) (o:=0) (d:=default) (Nb rfl) rfl)];exact uM aM (by first | omega | (simp only [Lt];omega)) (o:=0) (d:=default) (Nb rfl) rfl)
     have z1:v5.length=((v5.set (a0_o+toNat v7) (v5.getD (a0_o+toNat (W (v7 - 1))) default)).set (a0_o+toNat (W (v7 - 1))) (v5.getD (a0_o+toNat v7) default)).length:=by simp
     rw [z0,z1]
     exact ih ((v5.set (a0_o+toNat v7) (v5.getD (a0_o+toNat (W (v7 - 1))) default)).set (a0_o+toNat (W (v7 - 1))) (v5.getD (a0_o+toNat v7) default)) v6 (W (v7 - 1)) (by refine⟨?_,?_,?_,?_,?_,?_,?_,?_,?_,?_,?_,?_,?_⟩<;>first | omega | assumption | exact hi.2.1 | exact hi.2.2.1 | (simp only [Lt];omega) | exact InR.swap hi.2.1 (by omega) (by omega)) (by(try simp only [Ls]);omega)
    | false =>
     have q1:=cH h1
     have e:=Eq.refl (cC a0 a0_o a0_n a1 a2 a3 (v5,v6,v7));conv at e=>rhs;simp only [cC,h0,h1,aS]
     rw [aN,e]
     refine ba (t1++[.d h1]) [] [0,1,2,3,8] [] hcx (m:=n0) iC (iD) (gS a0 a0_o a0_n a1 a2 a3 (flat c3 v5) (v5.length) (W (v6+1))) (by kernel_rfl) ?_
     have z0:(W (v6+1))=(v6+1):=aJ (by omega) (by omega)
     rw [z0]
     exact g0 v5 (v6+1) (by refine⟨?_,?_,?_,?_⟩<;>first | omega | assumption | exact hi.2.1 | exact hi.2.2.1 | (simp only [Lt];omega) | exact InR.swap hi.2.1 (by omega) (by omega)) (by(try simp only [Ls]);omega)
   | false =>
    have q0:=cH h0
    have e:=Eq.refl (cC a0 a0_o a0_n a1 a2 a3 (v5,v6,v7));conv at e=>rhs;simp only [cC,h0,aS]
    rw [aN,e]
    refine ba [.d h0] [] [0,1,2,3,8] [] hcx (m:=n0) iC (iD) (gS a0 a0_o a0_n a1 a2 a3 (flat c3 v5) (v5.length) (W (v6+1))) (by kernel_rfl) ?_
    have z0:(W (v6+1))=(v6+1):=aJ (by omega) (by omega)
    rw [z0]
    exact g0 v5 (v6+1) (by refine⟨?_,?_,?_,?_⟩<;>first | omega | assumption | exact hi.2.1 | exact hi.2.2.1 | (simp only [Lt];omega) | exact InR.swap hi.2.1 (by omega) (by omega)) (by(try simp only [Ls]);omega)
theorem aCv (a0:List (Int))(a0_o:Nat)(a0_n:Nat)(a1:Int)(a2:Int)(a3:xE×Int)(l0:a0.length<=9223372036854775807)(l3_1_1:a3.1.1.length<=9223372036854775807)(l3_1_2_2_1:a3.1.2.2.1.length<=9223372036854775807)(l3_1_2_2_2:a3.1.2.2.2.length<=9223372036854775807)(hw:a0_o+a0_n<=a0.length/\a0.length<=1048576)(hr:InR a3.1.1.length a0)(hab:0<=a1/\a1<=a2/\a2<=↑a0_n) {cx:Cx} (hcx:cx.base=4):∀(n:Nat) (v3:List (Int)) (v4:Int),(0<=v4)/\(v3.length=a0.length)/\(InR a3.1.1.length v3)/\(a1 < v4)/\(v4<=a2+1)->toNat (a2 - v4) < n->Aw.Good Tryz.prog none 9 (bodyPost Tryz.prog Tryz.f146 (RR cx (.t []) [] [(.live true true (flat c3 (aC (cX a0 a0_o a0_n a1 a2 a3) n (v3,v4)))),.un,.un,.un])) cx [] (.l iC n::iD) (gS a0 a0_o a0_n a1 a2 a3 (flat c3 v3) v3.length v4):=by
 intro n
 induction n with
 | zero=>intro v3 v4 hi hn;exact absurd hn (eP _)
 | succ n ih =>
   intro v3 v4 hi hn
   refine aQ ?_
   have hw_s8p1:=aJ (n:=v4+1) (by omega) (by omega)
   cases h0:(decide ((v4:Int) < a2)) with
   | true =>
    have q0:=cA h0
    have e:=Eq.refl (cX a0 a0_o a0_n a1 a2 a3 (v3,v4));conv at e=>rhs;simp only [cX,h0,aS]
    rw [aN,e]
    refine en [.d h0] [] [0,1,2,3,8,9] [] hcx mX (mY n) (lU a0 a0_o a0_n a1 a2 a3 (flat c3 v3) (v3.length) v4 v4) (toNat (v4 - a1)+1) (by kernel_rfl) ?_
    exact aCu a0 a0_o a0_n a1 a2 a3 l0 l3_1_1 l3_1_2_2_1 l3_1_2_2_2 hw hr hab hcx n ih (toNat (v4 - a1)+1) v3 v4 v4 (by refine⟨?_,?_,?_,?_,?_,?_,?_,?_,?_,?_,?_,?_,?_⟩<;>first | omega | assumption | exact hi.2.1 | exact hi.2.2.1 | (simp only [Lt];omega) | exact InR.swap hi.2.1 (by omega) (by omega)) (by(try simp only [Ls]);omega)
   | false =>
    have q0:=cH h0
    have e:=Eq.refl (cX a0 a0_o a0_n a1 a2 a3 (v3,v4));conv at e=>rhs;simp only [cX,h0,aS]
    rw [aN,e]
    try dsimp only [aT]
    try dsimp only
    exact rtn [.d h0] [] [0] [] hcx (by kernel_rfl)
def eO (a0:List (Int))(a0_o:Nat)(a0_n:Nat)(a1:Int)(a2:Int)(a3:xE×Int):List (Int) :=
 (aC (cX a0 a0_o a0_n a1 a2 a3) (toNat (a2 - (W (a1+1)))+1) (a0,(W (a1+1))))
theorem aGx (a0:List (Int))(a0_o:Nat)(a0_n:Nat)(a1:Int)(a2:Int)(a3:xE×Int)(l0:a0.length<=9223372036854775807)(l3_1_1:a3.1.1.length<=9223372036854775807)(l3_1_2_2_1:a3.1.2.2.1.length<=9223372036854775807)(l3_1_2_2_2:a3.1.2.2.2.length<=9223372036854775807)(hw:a0_o+a0_n<=a0.length/\a0.length<=1048576)(hr:InR a3.1.1.length a0)(hab:0<=a1/\a1<=a2/\a2<=↑a0_n):Con Tryz.prog 146 [(.s 0 (0+a0_o*1) a0_n 1),(iv a1),(iv a2),(.f 1000094 [(.a [(.p 1 0),(iv a3.2)])])] [(.live true true (flat c3 a0)),(.live false false [(.s 2 0 a3.1.1.length 10),(iv a3.1.2.1),(.s 0 0 a0.length 1),(.s 3 0 a3.1.2.2.2.length 8)]),(.live false true (flat eF a3.1.1)),(.live false true (flat bT a3.1.2.2.2))] (.t []) [] [(.live true true (flat c3 (eO a0 a0_o a0_n a1 a2 a3))),.un,.un,.un]:=by
 refine aO Tryz.func146 (by kernel_rfl) fun cx hcx=>?_
 have hw_a:=aJ (n:=a1+1) (by omega) (by omega)
 have e:=Eq.refl (eO a0 a0_o a0_n a1 a2 a3);conv at e=>rhs;simp only [eO]
 rw [e]
 refine en [] [] [0,1,2,3,8] [] hcx iC (iD) (gS a0 a0_o a0_n a1 a2 a3 (flat c3 a0) (a0.length) (W (a1+1))) (toNat (a2 - (W (a1+1)))+1) (by kernel_rfl) ?_
 exact aCv a0 a0_o a0_n a1 a2 a3 l0 l3_1_1 l3_1_2_2_1 l3_1_2_2_2 hw hr hab hcx (toNat (a2 - (W (a1+1)))+1) a0 (W (a1+1)) (by refine⟨?_,?_,?_,?_⟩<;>first | omega | assumption | exact hi.2.1 | exact hi.2.2.1 | (simp only [Lt];omega) | exact InR.swap hi.2.1 (by omega) (by omega)) (by(try simp only [Ls]);omega)
def vZ:Go.Shelf.Ren:=⟨fun | 15=>131 | 28=>154 | 29=>155 | n=>n,fun | 39=>92 | 3=>3 | 53=>153 | 55=>155 | 4=>4 | 5=>5 | 9=>9 | n=>n,fun | n=>n⟩
theorem aOu:Go.Proofs.SlLaysF0.n15 Tryz.prog vZ:={
 mixed:=by kernel_rfl
 f15:=Tryz.func131.trans (congrArg some (by kernel_rfl))
 f28:=Tryz.func154.trans (congrArg some (by kernel_rfl))
 f29:=Tryz.func155.trans (congrArg some (by kernel_rfl))
 t3:=Tryz.underlying3
 a3:=Tryz.isAgg3
 z3:=Tryz.sizeOf3
 v3:=Tryz.zeroValue3
 t4:=Tryz.underlying4
 a4:=Tryz.isAgg4
 z4:=Tryz.sizeOf4
 v4:=Tryz.zeroValue4
 t5:=Tryz.underlying5
 a5:=Tryz.isAgg5
 z5:=Tryz.sizeOf5
 v5:=Tryz.zeroValue5
 t9:=Tryz.underlying9
 a9:=Tryz.isAgg9
 z9:=Tryz.sizeOf9
 v9:=Tryz.zeroValue9
 t39:=Tryz.underlying92
 a39:=Tryz.isAgg92
 z39:=Tryz.sizeOf92
 v39:=Tryz.zeroValue92
 t53:=Tryz.underlying153
 a53:=Tryz.isAgg153
 z53:=Tryz.sizeOf153
 v53:=Tryz.zeroValue153
 t55:=Tryz.underlying155
 a55:=Tryz.isAgg155
 z55:=Tryz.sizeOf155
 v55:=Tryz.zeroValue155 }
def aOv (n:Int):Int:=(Lib.bitLen n.toNat:Nat)
theorem aV5 (a0:Int)(hn:0<=a0/\a0<=18446744073709551615):Con Tryz.prog 131 [.v (.int .u64 a0)] [] (iv (aOv a0)) []:=by
 refine⟨ent Tryz.func131 (by kernel_rfl) rfl,fun ρ W vs hr hb hpl hap hfz=>?_⟩
 match vs,hr with
 | [],hr=>simp [Rels] at hr
 | _::_::_,hr=>simp [Rels] at hr
 | [v1],hr =>
 simp only [Rels,and_true,Rel] at hr
 subst hr
 have h:=Any.bits_Len (SlLaysF0.n15.bits (ρ:=vZ) aOu) a0 W hn.1 hn.2
 refine h.mono fun e w' ⟨he,hw⟩=>?_
 subst hw
 have un1:∀m j,bX m ([]:List BK) [] j=.un:=fun m j=>by unfold bX;simp
 exact⟨ρ,_,he,fun _ _=>rfl,by simp only [iv,Rel];rfl,Kept.refl _ _,fun j=>by rw [un1];trivial,fun j=>by rw [un1];trivial,fun i j b n b' n' _ o1=>by rw [un1] at o1;exact o1.elim,ρ.le_refl,fun b o hb=>⟨(hfz b o hb).1,fun j m o1=>by rw [un1] at o1;exact o1.elim,.inl hb⟩⟩
noncomputable def sV:Code:=(aI [1,1] [] (aL Tryz.f130) []).1
noncomputable def sW:List K:=(aI [1,1] [] (aL Tryz.f130) []).2
def pT (a0:List (Int))(a0_o:Nat)(a0_n:Nat)(a1:Int)(a2:Int)(a3:Int)(a4:xE×Int):LS:=⟨iM 148 [(0,(.s 0 (0+a0_o*1) a0_n 1)),(1,(iv a1)),(2,(iv a2)),(3,(iv a3)),(4,(.f 1000094 [(.a [(.p 1 0),(iv a4.2)])])),(10,(.v (.bool true))),(11,(.v (.bool true)))],[(.live true true (flat c3 a0)),(.live false false [(.s 2 0 a4.1.1.length 10),(iv a4.1.2.1),(.s 0 0 a0.length 1),(.s 3 0 a4.1.2.2.2.length 8)]),(.live false true (flat eF a4.1.1)),(.live false true (flat bT a4.1.2.2.2))]⟩
def iE (a0:List (Int))(a0_o:Nat)(a0_n:Nat)(a1:Int)(a2:Int)(a3:Int)(a4:xE×Int):Unit->(Unit)⊕(List (Int))
 | () =>
  (bif (decide (((W (a2 - a1)):Int)<=12)) then
   (.inr (eO a0 a0_o a0_n a1 a2 ((a4.1.1,a4.1.2.1,(a0,a4.1.2.2.2)),a4.2)))
  else
   (.inr default))
theorem aCw (a0:List (Int))(a0_o:Nat)(a0_n:Nat)(a1:Int)(a2:Int)(a3:Int)(a4:xE×Int)(l0:a0.length<=9223372036854775807)(l4_1_1:a4.1.1.length<=9223372036854775807)(l4_1_2_2_1:a4.1.2.2.1.length<=9223372036854775807)(l4_1_2_2_2:a4.1.2.2.2.length<=9223372036854775807)(hw:a0_o+a0_n<=a0.length/\a0.length<=1048576)(hr:InR a4.1.1.length a0)(hab:0<=a1/\a1<=a2/\a2<=↑a0_n)(h12:a2 - a1<=12) {cx:Cx} (hcx:cx.base=4):∀(n:Nat),True->0 < n->Aw.Good Tryz.prog none 9 (bodyPost Tryz.prog Tryz.f130 (RR cx (.t []) [] [(.live true true (flat c3 (aC (iE a0 a0_o a0_n a1 a2 a3 a4) n ()))),.un,.un,.un])) cx [] (.l sV n::sW) (pT a0 a0_o a0_n a1 a2 a3 a4):=by
 intro n
 induction n with
 | zero=>intro hi hn;exact absurd hn (eP _)
 | succ n ih =>
   intro hi hn
   refine aQ ?_
   cases h0:(decide (((W (a2 - a1)):Int)<=12)) with
   | true =>
    have q0:=cA h0
    have e:=Eq.refl (iE a0 a0_o a0_n a1 a2 a3 a4 ());conv at e=>rhs;simp only [iE,h0,aS]
    rw [aN,e]
    try dsimp only [aT]
    try dsimp only
    try rw [show List.length (α:=Int) (eO a0 a0_o a0_n a1 a2 ((a4.1.1,a4.1.2.1,(a0,a4.1.2.2.2)),a4.2))=a0.length from by first | simp;done | omega]
    exact rtm [.d h0,.c [0,1,2,3] (aGx a0 a0_o a0_n a1 a2 ((a4.1.1,a4.1.2.1,(a0,a4.1.2.2.2)),a4.2) (by(try simp only [Lt]);omega) (by(try simp only [Lt]);omega) (by(try simp only [Lt]);omega) (by(try simp only [Lt]);omega) hw hr hab)] [] [0] [] hcx (by kernel_rfl)
   | false =>
    have q0:=cH h0
    exfalso;have hw_l:=aJ (n:=a2 - a1) (by omega) (by omega);omega
def iU (a0:List (Int))(a0_o:Nat)(a0_n:Nat)(a1:Int)(a2:Int)(a3:Int)(a4:xE×Int):List (Int) :=
 (aC (iE a0 a0_o a0_n a1 a2 a3 a4) (0+1) ())
theorem aGy (a0:List (Int))(a0_o:Nat)(a0_n:Nat)(a1:Int)(a2:Int)(a3:Int)(a4:xE×Int)(l0:a0.length<=9223372036854775807)(l4_1_1:a4.1.1.length<=9223372036854775807)(l4_1_2_2_1:a4.1.2.2.1.length<=9223372036854775807)(l4_1_2_2_2:a4.1.2.2.2.length<=9223372036854775807)(hw:a0_o+a0_n<=a0.length/\a0.length<=1048576)(hr:InR a4.1.1.length a0)(hab:0<=a1/\a1<=a2/\a2<=↑a0_n)(h12:a2 - a1<=12):Con Tryz.prog 130 [(.s 0 (0+a0_o*1) a0_n 1),(iv a1),(iv a2),(iv a3),(.f 1000094 [(.a [(.p 1 0),(iv a4.2)])])] [(.live true true (flat c3 a0)),(.live false false [(.s 2 0 a4.1.1.length 10),(iv a4.1.2.1),(.s 0 0 a0.length 1),(.s 3 0 a4.1.2.2.2.length 8)]),(.live false true (flat eF a4.1.1)),(.live false true (flat bT a4.1.2.2.2))] (.t []) [] [(.live true true (flat c3 (iU a0 a0_o a0_n a1 a2 a3 a4))),.un,.un,.un]:=by
 refine aO Tryz.func130 (by kernel_rfl) fun cx hcx=>?_
 have e:=Eq.refl (iU a0 a0_o a0_n a1 a2 a3 a4);conv at e=>rhs;simp only [iU]
 rw [e]
 refine en [] [] [0,1,2,3,4,10,11] [] hcx sV (sW) (pT a0 a0_o a0_n a1 a2 a3 a4) (0+1) (by kernel_rfl) ?_
 exact aCw a0 a0_o a0_n a1 a2 a3 a4 l0 l4_1_1 l4_1_2_2_1 l4_1_2_2_2 hw hr hab h12 hcx (0+1) trivial (by(try simp only [Ls]);omega)
def gD (a0:List (Int))(a0_o:Nat)(a0_n:Nat)(a1:xE×Int):List (Int) :=
 (iU a0 a0_o a0_n 0 ((a0_n:Nat):Int) (aOv (IntKind.wrap .u64 ((a0_n:Nat):Int))) ((a1.1.1,a1.1.2.1,(a0,a1.1.2.2.2)),a1.2))
theorem aKl (a0:List (Int))(a0_o:Nat)(a0_n:Nat)(a1:xE×Int)(l0:a0.length<=9223372036854775807)(l1_1_1:a1.1.1.length<=9223372036854775807)(l1_1_2_2_1:a1.1.2.2.1.length<=9223372036854775807)(l1_1_2_2_2:a1.1.2.2.2.length<=9223372036854775807)(hw:a0_o+a0_n<=a0.length/\a0.length<=1048576)(hr:InR a1.1.1.length a0)(h12:a0_n<=12):Con Tryz.prog 92 [(.s 0 (0+a0_o*1) a0_n 1),(.f 1000094 [(.a [(.p 1 0),(iv a1.2)])])] [(.live true true (flat c3 a0)),(.live false false [(.s 2 0 a1.1.1.length 10),(iv a1.1.2.1),(.s 0 0 a0.length 1),(.s 3 0 a1.1.2.2.2.length 8)]),(.live false true (flat eF a1.1.1)),(.live false true (flat bT a1.1.2.2.2))] (.t []) [] [(.live true true (flat c3 (gD a0 a0_o a0_n a1))),.un,.un,.un]:=by
 refine aO Tryz.func92 (by kernel_rfl) fun cx hcx=>?_
 have e:=Eq.refl (gD a0 a0_o a0_n a1);conv at e=>rhs;simp only [gD]
 rw [e]
 try dsimp only [aT]
 try dsimp only
 try rw [show List.length (α:=Int) (iU a0 a0_o a0_n 0 ((a0_n:Nat):Int) (aOv (IntKind.wrap .u64 ((a0_n:Nat):Int))) ((a1.1.1,a1.1.2.1,(a0,a1.1.2.2.2)),a1.2))=a0.length from by first | simp;done | omega]
 exact rtn [.c [] (aV5 (IntKind.wrap .u64 ((a0_n:Nat):Int))  (by rw [IntKind.wrap_u64];omega)),.c [0,1,2,3] (aGy a0 a0_o a0_n 0 ((a0_n:Nat):Int) (aOv (IntKind.wrap .u64 ((a0_n:Nat):Int))) ((a1.1.1,a1.1.2.1,(a0,a1.1.2.2.2)),a1.2) (by(try simp only [Lt]);omega) (by(try simp only [Lt]);omega) (by(try simp only [Lt]);omega) (by(try simp only [Lt]);omega) hw hr (by omega) (by omega))] [] [0] [] hcx (by kernel_rfl)
abbrev SBC:=xE×Int
def tI (c:SBC)(x y:Int):Bool:=decide (F94 c x y < 0)
theorem aOw (c:SBC)(v:List Int)(x y:Int):F94 ((c.1.1,c.1.2.1,(v,c.1.2.2.2)),c.2) x y=F94 c x y:=rfl
theorem aOx (c:SBC)(x y:Int):decide (F94 c x y < 0)=tI c x y:=rfl
def wp (l:List Int)(o:Nat)(d:Array Int):List Int:=l.take o++d.toList++l.drop (o+d.size)
def pG (l:List Int)(o n:Nat):Array Int:=((l.drop o).take n).toArray
theorem kF {l:List Int} {o n:Nat} (h:o+n<=l.length):(pG l o n).size=n:=by unfold pG;simp;omega
section
variable {l : List Int} {o : Nat} {d : Array Int}
theorem aMt (h:o+d.size<=l.length):(wp l o d).length=l.length:=by unfold wp;simp;omega
theorem uN (h:o+d.size<=l.length) {i:Nat} (hi:i < d.size):(wp l o d).getD (o+i) default=d[i]! := by
 unfold wp
 have h1:(l.take o++d.toList).length=o+d.size:=by simp;omega
 rw [eQ,List.getElem?_append_left (by omega),List.getElem?_append_right (by simp;omega)]
 rw [show o+i - (l.take o).length=i by simp;omega]
 rw [getElem!_pos d i hi]
 simp [hi]
theorem aMu (h:o+d.size<=l.length) {i:Nat} (hi:i < d.size)(x:Int):(wp l o d).set (o+i) x=wp l o (d.setIfInBounds i x):=by
 unfold wp
 have h0:(l.take o).length=o:=by simp;omega
 rw [List.append_assoc,List.set_append_right _ _ (by omega),h0,show o+i - o=i by omega,List.set_append_left _ _ (by simpa using hi),List.append_assoc,Array.toList_setIfInBounds,Array.size_setIfInBounds]
theorem aMv (h:o+d.size<=l.length) {i j:Nat} (hi:i < d.size)(hj:j < d.size) :
   ((wp l o d).set (o+i) ((wp l o d).getD (o+j) default)).set (o+j) ((wp l o d).getD (o+i) default)=wp l o (Go.Sort.swp d i j):=by
 rw [uN h hi,uN h hj,aMu h hi,aMu (by simpa using h) (by simpa using hj)]
 rfl
theorem aGz {n:Nat} (h:o+n<=l.length):wp l o (pG l o n)=l:=by
 unfold wp
 rw [kF h]
 unfold pG
 have:(l.drop o).drop n=l.drop (o+n):=by rw [List.drop_drop]
 rw [←this,List.append_assoc]
 show l.take o++((l.drop o).take n++(l.drop o).drop n)=l
 rw [List.take_append_drop,List.take_append_drop]
theorem aE7 (d:Array Int)(i j:Nat):(Go.Sort.swp d i j).size=d.size:=by simp [Go.Sort.swp]
theorem wN {x:Int} {n:Nat} (h:x=(n:Int))(hn:n<=4611686018427387904):W x=(n:Int):=by rw [h];exact aJ (by omega) (by omega)
end
section
variable {o n : Nat} {l l0 : List Int} {c : SBC}
theorem lV (lt:Int->Int->Bool)(a:Nat):∀(j:Nat) (d:Array Int),(Go.Sort.insInner lt a j d).size=d.size
 | 0,d=>rfl
 | j+1,d=>by
   rw [Go.Sort.insInner]
   split
   · rw [lV lt a j,aE7]
   · rfl
theorem aI0 (hl:o+n<=l.length)(hn:n<=1048576) {a:Nat} {a2:Int}:∀(m:Nat) (d:Array Int) (j:Nat) (w:Int),d.size=n->j < n->j - a < m ->
   aC (cC l0 o n (a:Int) a2 c) m (wp l o d,w,(j:Int))=.inl (wp l o (Go.Sort.insInner (tI c) a j d),w+1)
 | 0,_,_,_,_,_,h=>absurd h (eP _)
 | m+1,d,0,w,hd,hj,hm=>by
   refine aY ?_
   simp only [cC]
   rw [dQ (by omega),cond_false];rfl
 | m+1,d,j+1,w,hd,hj,hm=>by
   have hl':o+d.size<=l.length:=by omega
   have e1:W (((j+1:Nat):Int) - 1)=((j:Nat):Int):=wN (by omega) (by omega)
   rw [Go.Sort.insInner]
   by_cases h1:j+1 > a
   · have e:cC l0 o n (a:Int) a2 c (wp l o d,w,((j+1:Nat):Int))=bif tI c d[j+1]! d[j]! then .inl (wp l o (Go.Sort.swp d (j+1) j),w,(j:Int)) else .inr (.inl (wp l o d,w+1)):=by
       simp only [cC,e1,jM,aOw,aOx]
       rw [cN (by omega),cond_true,aMv hl' (i:=j+1) (j:=j) (by omega) (by omega),uN hl' (i:=j+1) (by omega),uN hl' (i:=j) (by omega)]
     rw [cN h1,Bool.true_and]
     cases q:tI c d[j+1]! d[j]! with
     | true =>
       rw [q,cond_true] at e
       rw [aE e]
       exact aI0 hl hn m _ j w (by rw [aE7];exact hd) (by omega) (by omega)
     | false=>rw [q,cond_false] at e;exact aY e
   · rw [dQ h1,Bool.false_and]
     refine aY ?_
     simp only [cC]
     rw [dQ (by omega),cond_false];rfl
theorem aI1 (hl:o+n<=l.length)(hn:n<=1048576) {a b:Nat} (hb:b<=n):∀(m:Nat) (d:Array Int) (i:Nat),d.size=n->b - i < m ->
   aC (cX l0 o n (a:Int) (b:Int) c) m (wp l o d,(i:Int))=wp l o (Go.Sort.insOuter (tI c) a b i d)
 | 0,_,_,_,h=>absurd h (eP _)
 | m+1,d,i,hd,hm=>by
   rw [Go.Sort.insOuter]
   by_cases h1:i < b
   · rw [if_pos h1]
     have e:cX l0 o n (a:Int) (b:Int) c (wp l o d,(i:Int))=aC (cC l0 o n (a:Int) (b:Int) c) (toNat ((i:Int) - a)+1) (wp l o d,(i:Int),(i:Int)):=by
       simp only [cX];rw [cN (by omega),cond_true]
     rw [aE (e.trans (aI0 hl hn _ d i _ hd (by omega) (by omega)))]
     exact aI1 hl hn hb m _ (i+1) (by rw [lV];exact hd) (by omega)
   · rw [if_neg h1]
     refine aY ?_
     simp only [cX];rw [dQ (by omega),cond_false]
theorem aMw {d:Array Int} (hl:o+n<=l.length)(hn:n<=1048576) {a b:Nat} (hb:b<=n)(ha:a<=n)(hd:d.size=n):eO (wp l o d) o n (a:Int) (b:Int) c=wp l o (Go.Sort.insertionSort (tI c) d a b):=by
 unfold eO
 rw [wN (n:=a+1) (by omega) (by omega)]
 exact aI1 hl hn hb _ d (a+1) hd (by omega)
end
section
open Go.Sort
theorem aI2 (x y:Int):lS x y=if x < y then -1 else if y < x then 1 else 0:=by
 have hn:∀z:Int,zH z=false:=fun z=>by unfold zH;simp
 unfold lS
 rw [hn,hn,cond_false,cond_false]
 by_cases h:x < y
 · rw [cN h,if_pos h];rfl
 · rw [dQ h,if_neg h,cond_false]
   by_cases h2:y < x
   · rw [cN (show x > y from h2),if_pos h2];rfl
   · rw [dQ (show ¬x > y from h2),if_neg h2];rfl
def kk (c:SBC)(x:Int):Int:=fX c.1 x c.2
theorem aCx (c:SBC)(x y:Int):tI c x y=true↔kk c x < kk c y\/kk c x=kk c y/\x < y:=by
 have e:F94 c x y=lT (lS (kk c x) (kk c y),lS x y):=rfl
 unfold tI
 rw [decide_eq_true_iff,e,aI2,aI2]
 unfold lT
 by_cases h1:kk c x < kk c y
 · simp [h1]
 · by_cases h2:kk c y < kk c x
   · simp [h1,h2];omega
   · by_cases h3:x < y
     · simp [h1,h2,h3];omega
     · by_cases h4:y < x
       · simp [h1,h2,h3,h4]
       · simp [h1,h2,h3,h4]
theorem aI3 (c:SBC)(x y:Int):tI c x y=false↔¬(kk c x < kk c y\/kk c x=kk c y/\x < y):=by
 rw [←aCx];simp
theorem xA (c:SBC):SWO (tI c) where
 irrefl x:=by rw [aI3];omega
 trans x y z h1 h2:=by rw [aCx] at *;omega
 ntrans x y z h1 h2:=by rw [aI3] at *;omega
theorem aOy (c:SBC)(x y:Int)(h1:tI c x y=false)(h2:tI c y x=false):x=y:=by
 rw [aI3] at *;omega
def Al (p:Int->Prop)(d:Array Int):Prop:=∀i,i < d.size->p d[i]!
variable {p : Int → Prop} {d d' : Array Int} {N o n : Nat} {l v : List Int} {c : SBC}
theorem Al.perm (h:Al p d) {a b:Nat} (hb:b<=d.size)(hp:PermIn a b d d'):Al p d':=fun k hk=>by
 by_cases hin:a<=k/\k < b
 · exact permIn_all d d' a b p hb hp (fun i h1 h2=>h i (by omega)) k hin.1 hin.2
 · rw [hp.2.1 k (by omega)];exact h k (by rw [←hp.1];exact hk)
theorem aRo (h:o+d.size<=l.length):InR N (wp l o d)↔(∀x∈l.take o++l.drop (o+d.size),0<=x/\x < (N:Int))/\Al (fun x=>0<=x/\x < (N:Int)) d:=by
 unfold InR wp Al
 constructor
 · intro hx
   refine⟨fun x hm=>hx x ?_,fun i hi=>hx _ ?_⟩
   · rcases List.mem_append.1 hm with hm | hm
     · exact List.mem_append_left _ (List.mem_append_left _ hm)
     · exact List.mem_append_right _ hm
   · refine List.mem_append_left _ (List.mem_append_right _ ?_)
     rw [getElem!_pos d i hi]
     exact Array.mem_toList_iff.2 (Array.getElem_mem hi)
 · rintro ⟨h1,h2⟩ x hm
   rcases List.mem_append.1 hm with hm | hm
   · rcases List.mem_append.1 hm with hm | hm
     · exact h1 x (List.mem_append_left _ hm)
     · obtain⟨i,hi,rfl⟩:=List.getElem_of_mem hm
       have hi':i < d.size:=by simpa using hi
       have:=h2 i hi'
       rw [getElem!_pos d i hi'] at this
       simpa using this
   · exact h1 x (List.mem_append_right _ hm)
theorem aRp (hl:o+n<=v.length)(hi:InR N v) {f:Array Int->Array Int} (hs:(f (pG v o n)).size=n)(hf:∀p,Al p (pG v o n)->Al p (f (pG v o n))):(wp v o (f (pG v o n))).length=v.length/\InR N (wp v o (f (pG v o n))):=by
 refine⟨aMt (by omega),?_⟩
 have hz:(pG v o n).size=n:=kF hl
 have h0:InR N (wp v o (pG v o n)):=by rw [aGz hl];exact hi
 rw [aRo (by omega)] at h0 ⊢
 rw [hs];rw [hz] at h0
 exact⟨h0.1,hf _ h0.2⟩
theorem aMx (hl:o+n<=v.length)(hi:InR N v) {a b:Nat} (hb:b<=n)(hp:PermIn a b (pG v o n) d'):(wp v o d').length=v.length/\InR N (wp v o d') :=
 aRp (f:=fun _=>d') hl hi (by rw [hp.1];exact kF hl) (fun p h=>h.perm (by rw [kF hl];exact hb) hp)
variable {a b q : Int}
theorem aUf (hw:o+n<=v.length/\v.length<=1048576)(hi:InR N v)(h:0<=a/\a<=b/\b<=(n:Int)) :
   (eO v o n a b c).length=v.length/\InR N (eO v o n a b c):=by
 obtain⟨a,rfl⟩:∃k:Nat,a=k:=⟨a.toNat,by omega⟩
 obtain⟨b,rfl⟩:∃k:Nat,b=k:=⟨b.toNat,by omega⟩
 have hz:=kF hw.1
 have e:=aMw (l:=v) (c:=c) (d:=pG v o n) hw.1 (by omega) (a:=a) (b:=b) (by omega) (by omega) hz
 rw [aGz hw.1] at e
 rw [e]
 exact aMx hw.1 hi (a:=a) (b:=b) (by omega) (insertionSort_holds (xA c) _ a b (by omega) (by omega)).1
end
theorem aMy {o n:Nat} {v:List Int} {c:SBC} (h12:n<=12):gD v o n c=eO v o n ((0:Nat):Int) ((n:Nat):Int) ((c.1.1,c.1.2.1,(v,c.1.2.2.2)),c.2):=by
 unfold gD iU
 refine aY ?_
 simp only [iE]
 rw [aJ (n:=((n:Nat):Int) - 0) (by omega) (by omega),cN (show((n:Nat):Int) - 0<=12 by omega),cond_true]
 rfl
end Go.Proofs.YtmihafgemmgepaaGreat
namespace Go.Proofs.YtmihafgemmgepaaGreat
open Go.Proofs Go.Aw Go.RowKit
set_option maxRecDepth 100000
def dG (a0:Zt×Zt×Zt):Zt×Zt×Zt :=
 a0
theorem aV6 (a0:Zt×Zt×Zt):Con Tryz.prog 125 [(.a (k9 a0))] [] (.a (k9 (dG a0))) []:=by
 refine aO Tryz.func125 (by kernel_rfl) fun cx hcx=>?_
 have e:=Eq.refl (dG a0);conv at e=>rhs;simp only [dG]
 rw [e]
 exact rt [] [] [] hcx (by kernel_rfl)
def aKm (a0:Int):Int :=
 (Int.fdiv a0 (2 ^ (min (toNat 1) 64)))
theorem aRq (a0:Int):Con Tryz.prog 126 [(iv a0)] [] (iv (aKm a0)) []:=by
 refine aO Tryz.func126 (by kernel_rfl) fun cx hcx=>?_
 have e:=Eq.refl (aKm a0);conv at e=>rhs;simp only [aKm]
 rw [e]
 exact rt [.p (show 0<=(1:Int) from by decide)] [] [] hcx (by kernel_rfl)
noncomputable def uO:Code:=(aI [1,1,0,1] [] (aL Tryz.f89) []).1
noncomputable def uP:List K:=(aI [1,1,0,1] [] (aL Tryz.f89) []).2
def qU (a0:bM)(a1:List (Int))(v2c:List SV)(v2n:Nat)(v3:Int):LS:=⟨iM 23 [(0,(.s 0 0 a0.length 10)),(5,(.s 2 0 v2n 10)),(8,(.s 1 0 a1.length 1)),(9,(iv (a1.length:Int))),(10,(iv v3))],[(.live false true (flat eF a0)),(.live false true (flat c3 a1)),(.live true true v2c)]⟩
def eM (a0:bM)(a1:List (Int)):bM×Int->(bM×Int)⊕bM
 | (v2,v3) =>
  (bif (decide ((v3:Int) < (a1.length:Int))) then
   (.inl ((v2++[(a0.getD (toNat (a1.getD (toNat v3) default)) default)]),(v3+1)))
  else
   (.inr v2))
theorem aKn (a0:bM)(a1:List (Int))(l0:a0.length<=9223372036854775807)(l1:a1.length<=9223372036854775807)(hir:InR a0.length a1)(hl:a1.length<=1048576) {cx:Cx} (hcx:cx.base=2):∀(n:Nat) (v2:bM) (v3:Int),(0<=v3)/\(v2.length=toNat v3)/\(v3<=a1.length)->toNat ((a1.length:Int) - v3) < n->Aw.Good Tryz.prog none 9 (bodyPost Tryz.prog Tryz.f89 (RR cx (.s 2 0 (aC (eM a0 a1) n (v2,v3)).length 10) [(.live true true (flat eF (aC (eM a0 a1) n (v2,v3))))] [])) cx [] (.l uO n::uP) (qU a0 a1 (flat eF v2) v2.length v3):=by
 intro n
 induction n with
 | zero=>intro v2 v3 hi hn;exact absurd hn (eP _)
 | succ n ih =>
   intro v2 v3 hi hn
   refine aQ ?_
   try have hr1:=hir.at (i:=toNat v3) (by have _:=h0;omega)
   cases h0:(decide ((v3:Int) < (a1.length:Int))) with
   | true =>
    have q0:=cA h0
    try have hr1:=hir.at (i:=toNat v3) (by have _:=h0;omega)
    have e:=Eq.refl (eM a0 a1 (v2,v3));conv at e=>rhs;simp only [eM,h0,aS]
    rw [aE e]
    refine ba [.d h0,.i v3 (a1.length),.L aM a1 v3 0 1,.i (a1.getD (toNat v3) default) (a0.length),.L cJ a0 (a1.getD (toNat v3) default) 0 10,.p (show((flat eF v2).length=v2.length*10/\v2.length+1<=2 ^ 40/\(v2.length+1)*80<=2 ^ 47) from gK cJ (by omega) (by omega))] [] [0,5,8,9,10] [4] hcx (m:=n) uO (uP) (qU a0 a1 (flat eF v2++[(iv (a0.getD (toNat (a1.getD (toNat v3) default)) default).1.1.1),(iv (a0.getD (toNat (a1.getD (toNat v3) default)) default).1.1.2.1),(iv (a0.getD (toNat (a1.getD (toNat v3) default)) default).1.1.2.2),(iv (a0.getD (toNat (a1.getD (toNat v3) default)) default).1.2.1.1),(iv (a0.getD (toNat (a1.getD (toNat v3) default)) default).1.2.1.2.1),(iv (a0.getD (toNat (a1.getD (toNat v3) default)) default).1.2.1.2.2),(iv (a0.getD (toNat (a1.getD (toNat v3) default)) default).1.2.2.1),(iv (a0.getD (toNat (a1.getD (toNat v3) default)) default).1.2.2.2.1),(iv (a0.getD (toNat (a1.getD (toNat v3) default)) default).1.2.2.2.2),(iv (a0.getD (toNat (a1.getD (toNat v3) default)) default).2)]) (v2.length+1) (W (v3+1))) (by kernel_rfl) ?_
    have z0:(W (v3+1))=(v3+1):=aJ (by omega) (by omega)
    have z1:(flat eF v2++[(iv (a0.getD (toNat (a1.getD (toNat v3) default)) default).1.1.1),(iv (a0.getD (toNat (a1.getD (toNat v3) default)) default).1.1.2.1),(iv (a0.getD (toNat (a1.getD (toNat v3) default)) default).1.1.2.2),(iv (a0.getD (toNat (a1.getD (toNat v3) default)) default).1.2.1.1),(iv (a0.getD (toNat (a1.getD (toNat v3) default)) default).1.2.1.2.1),(iv (a0.getD (toNat (a1.getD (toNat v3) default)) default).1.2.1.2.2),(iv (a0.getD (toNat (a1.getD (toNat v3) default)) default).1.2.2.1),(iv (a0.getD (toNat (a1.getD (toNat v3) default)) default).1.2.2.2.1),(iv (a0.getD (toNat (a1.getD (toNat v3) default)) default).1.2.2.2.2),(iv (a0.getD (toNat (a1.getD (toNat v3) default)) default).2)])=(flat eF (v2++[(a0.getD (toNat (a1.getD (toNat v3) default)) default)])):=(bL (c:=eF) (l:=v2) (m:=[(a0.getD (toNat (a1.getD (toNat v3) default)) default)])).symm
    have z2:(v2.length+1)=(v2++[(a0.getD (toNat (a1.getD (toNat v3) default)) default)]).length:=gU v2 [(a0.getD (toNat (a1.getD (toNat v3) default)) default)] rfl
    rw [z0,z1,z2]
    exact ih (v2++[(a0.getD (toNat (a1.getD (toNat v3) default)) default)]) (v3+1) (by refine⟨?_,?_,?_⟩<;>(try simp only [Ls])<;>first | omega | assumption | simp) (by(try simp only [Ls]);omega)
   | false =>
    have q0:=cH h0
    try have hr1:=hir.at (i:=toNat v3) (by have _:=h0;omega)
    have e:=Eq.refl (eM a0 a1 (v2,v3));conv at e=>rhs;simp only [eM,h0,aS]
    rw [aN,e]
    exact rt [.d h0] [] [2] hcx (by kernel_rfl)
def eU (a0:bM)(a1:List (Int)):bM :=
 (aC (eM a0 a1) (toNat ((a1.length:Int) - 0)+1) (([]:bM),0))
theorem aOz (a0:bM)(a1:List (Int))(l0:a0.length<=9223372036854775807)(l1:a1.length<=9223372036854775807)(hir:InR a0.length a1)(hl:a1.length<=1048576):Con Tryz.prog 89 [(.s 0 0 a0.length 10),(.s 1 0 a1.length 1)] [(.live false true (flat eF a0)),(.live false true (flat c3 a1))] (.s 2 0 (eU a0 a1).length 10) [(.live true true (flat eF (eU a0 a1)))]:=by
 refine aO Tryz.func89 (by kernel_rfl) fun cx hcx=>?_
 have e:=Eq.refl (eU a0 a1);conv at e=>rhs;simp only [eU]
 rw [e]
 refine en [] [.slot 5 10] [0,5,8,9,10] [2] hcx uO (uP) (qU a0 a1 (flat eF ([]:bM)) 0 0) (toNat ((a1.length:Int) - 0)+1) (by kernel_rfl) ?_
 exact aKn a0 a1 l0 l1 hir hl hcx (toNat ((a1.length:Int) - 0)+1) ([]:bM) 0 (by refine⟨?_,?_,?_⟩<;>(try simp only [Ls])<;>first | omega | assumption | simp) (by(try simp only [Ls]);omega)
noncomputable def aCy:Code:=(aI [1,1,0,1] [] (aL Tryz.f90) []).1
noncomputable def aCz:List K:=(aI [1,1,0,1] [] (aL Tryz.f90) []).2
def zI (a0:bM)(v1 v2 v3 v4 v5 v6 v7:Int):LS:=⟨iM 84 [(2,(.p 1 0)),(3,(.p 2 0)),(4,(.p 3 0)),(19,(.s 0 0 a0.length 10)),(20,(iv (a0.length:Int))),(21,(iv v1))],[(.live false true (flat eF a0)),(.live true false [(iv 0),(iv 0),(iv 0)]),(.live true false [(iv v2),(iv v3),(iv v4)]),(.live true false [(iv v5),(iv v6),(iv v7)])]⟩
def gE (a0:bM):Int×Int×Int×Int×Zt->(Int×Int×Int×Int×Zt)⊕Zt
 | (v1,v2,v3,v4,v5,v6,v7) =>
  (bif (decide ((v1:Int) < (a0.length:Int))) then
   (.inl ((v1+1),(fE (fE (fE v2 (dG (a0.getD (toNat v1) default).1).1.1) (dG (a0.getD (toNat v1) default).1).2.1.1) (dG (a0.getD (toNat v1) default).1).2.2.1),(fE (fE (fE v3 (dG (a0.getD (toNat v1) default).1).1.2.1) (dG (a0.getD (toNat v1) default).1).2.1.2.1) (dG (a0.getD (toNat v1) default).1).2.2.2.1),(fE (fE (fE v4 (dG (a0.getD (toNat v1) default).1).1.2.2) (dG (a0.getD (toNat v1) default).1).2.1.2.2) (dG (a0.getD (toNat v1) default).1).2.2.2.2),(bY (bY (bY v5 (dG (a0.getD (toNat v1) default).1).1.1) (dG (a0.getD (toNat v1) default).1).2.1.1) (dG (a0.getD (toNat v1) default).1).2.2.1),(bY (bY (bY v6 (dG (a0.getD (toNat v1) default).1).1.2.1) (dG (a0.getD (toNat v1) default).1).2.1.2.1) (dG (a0.getD (toNat v1) default).1).2.2.2.1),(bY (bY (bY v7 (dG (a0.getD (toNat v1) default).1).1.2.2) (dG (a0.getD (toNat v1) default).1).2.1.2.2) (dG (a0.getD (toNat v1) default).1).2.2.2.2)))
  else
   (.inr ((aKm (W (v2+v5))),(aKm (W (v3+v6))),(aKm (W (v4+v7))))))
theorem aO0 (a0:bM)(l0:a0.length<=9223372036854775807)(hl:1<=a0.length/\a0.length<=1048576) {cx:Cx} (hcx:cx.base=1):∀(n:Nat) (v1 v2 v3 v4 v5 v6 v7:Int),(0<=v1)/\(v1<=a0.length)->toNat ((a0.length:Int) - v1) < n->Aw.Good Tryz.prog none 9 (bodyPost Tryz.prog Tryz.f90 (RR cx (.a (k3 (aC (gE a0) n (v1,v2,v3,v4,v5,v6,v7)))) [] [])) cx [] (.l aCy n::aCz) (zI a0 v1 v2 v3 v4 v5 v6 v7):=by
 intro n
 induction n with
 | zero=>intro v1 v2 v3 v4 v5 v6 v7 hi hn;exact absurd hn (eP _)
 | succ n ih =>
   intro v1 v2 v3 v4 v5 v6 v7 hi hn
   refine aQ ?_
   cases h0:(decide ((v1:Int) < (a0.length:Int))) with
   | true =>
    have q0:=cA h0
    have e:=Eq.refl (gE a0 (v1,v2,v3,v4,v5,v6,v7));conv at e=>rhs;simp only [gE,h0,aS]
    rw [aE e]
    refine ba [.d h0,.i v1 (a0.length),.L cJ a0 v1 0 10,.c [] (aV6 (a0.getD (toNat v1) default).1),.u 200,.T,.i 0 3 (by decide),.u 0,.T,.i 1 3 (by decide),.u 0,.T,.i 2 3 (by decide),.u 0,.F] [] [2,3,4,19,20,21] [1,2,3] hcx (m:=n) aCy (aCz) (zI a0 (W (v1+1)) (fE (fE (fE v2 (dG (a0.getD (toNat v1) default).1).1.1) (dG (a0.getD (toNat v1) default).1).2.1.1) (dG (a0.getD (toNat v1) default).1).2.2.1) (fE (fE (fE v3 (dG (a0.getD (toNat v1) default).1).1.2.1) (dG (a0.getD (toNat v1) default).1).2.1.2.1) (dG (a0.getD (toNat v1) default).1).2.2.2.1) (fE (fE (fE v4 (dG (a0.getD (toNat v1) default).1).1.2.2) (dG (a0.getD (toNat v1) default).1).2.1.2.2) (dG (a0.getD (toNat v1) default).1).2.2.2.2) (bY (bY (bY v5 (dG (a0.getD (toNat v1) default).1).1.1) (dG (a0.getD (toNat v1) default).1).2.1.1) (dG (a0.getD (toNat v1) default).1).2.2.1) (bY (bY (bY v6 (dG (a0.getD (toNat v1) default).1).1.2.1) (dG (a0.getD (toNat v1) default).1).2.1.2.1) (dG (a0.getD (toNat v1) default).1).2.2.2.1) (bY (bY (bY v7 (dG (a0.getD (toNat v1) default).1).1.2.2) (dG (a0.getD (toNat v1) default).1).2.1.2.2) (dG (a0.getD (toNat v1) default).1).2.2.2.2)) (by kernel_rfl) ?_
    have z0:(W (v1+1))=(v1+1):=aJ (by omega) (by omega)
    rw [z0]
    exact ih (v1+1) (fE (fE (fE v2 (dG (a0.getD (toNat v1) default).1).1.1) (dG (a0.getD (toNat v1) default).1).2.1.1) (dG (a0.getD (toNat v1) default).1).2.2.1) (fE (fE (fE v3 (dG (a0.getD (toNat v1) default).1).1.2.1) (dG (a0.getD (toNat v1) default).1).2.1.2.1) (dG (a0.getD (toNat v1) default).1).2.2.2.1) (fE (fE (fE v4 (dG (a0.getD (toNat v1) default).1).1.2.2) (dG (a0.getD (toNat v1) default).1).2.1.2.2) (dG (a0.getD (toNat v1) default).1).2.2.2.2) (bY (bY (bY v5 (dG (a0.getD (toNat v1) default).1).1.1) (dG (a0.getD (toNat v1) default).1).2.1.1) (dG (a0.getD (toNat v1) default).1).2.2.1) (bY (bY (bY v6 (dG (a0.getD (toNat v1) default).1).1.2.1) (dG (a0.getD (toNat v1) default).1).2.1.2.1) (dG (a0.getD (toNat v1) default).1).2.2.2.1) (bY (bY (bY v7 (dG (a0.getD (toNat v1) default).1).1.2.2) (dG (a0.getD (toNat v1) default).1).2.1.2.2) (dG (a0.getD (toNat v1) default).1).2.2.2.2) (by refine⟨?_,?_⟩<;>(try simp only [Ls])<;>first | omega | assumption | simp) (by(try simp only [Ls]);omega)
   | false =>
    have q0:=cH h0
    have e:=Eq.refl (gE a0 (v1,v2,v3,v4,v5,v6,v7));conv at e=>rhs;simp only [gE,h0,aS]
    rw [aN,e]
    exact rt [.d h0,.c [] (aRq (W (v2+v5))),.c [] (aRq (W (v3+v6))),.c [] (aRq (W (v4+v7)))] [] [] hcx (by kernel_rfl)
def cU (a0:bM):Zt :=
 (aC (gE a0) (toNat ((a0.length:Int) - 0)+1) (0,(a0.getD (toNat 0) default).1.1.1,(a0.getD (toNat 0) default).1.1.2.1,(a0.getD (toNat 0) default).1.1.2.2,(a0.getD (toNat 0) default).1.1.1,(a0.getD (toNat 0) default).1.1.2.1,(a0.getD (toNat 0) default).1.1.2.2))
theorem aUg (a0:bM)(l0:a0.length<=9223372036854775807)(hl:1<=a0.length/\a0.length<=1048576):Con Tryz.prog 90 [(.s 0 0 a0.length 10)] [(.live false true (flat eF a0))] (.a (k3 (cU a0))) []:=by
 refine aO Tryz.func90 (by kernel_rfl) fun cx hcx=>?_
 have e:=Eq.refl (cU a0);conv at e=>rhs;simp only [cU]
 rw [e]
 refine en [.i 0 (a0.length),.L cJ a0 0 0 3,.i 0 (a0.length),.L cJ a0 0 0 3] [] [2,3,4,19,20,21] [1,2,3] hcx aCy (aCz) (zI a0 0 ((a0.getD (toNat 0) default).1.1.1) ((a0.getD (toNat 0) default).1.1.2.1) ((a0.getD (toNat 0) default).1.1.2.2) ((a0.getD (toNat 0) default).1.1.1) ((a0.getD (toNat 0) default).1.1.2.1) ((a0.getD (toNat 0) default).1.1.2.2)) (toNat ((a0.length:Int) - 0)+1) (by kernel_rfl) ?_
 exact aO0 a0 l0 hl hcx (toNat ((a0.length:Int) - 0)+1) 0 ((a0.getD (toNat 0) default).1.1.1) ((a0.getD (toNat 0) default).1.1.2.1) ((a0.getD (toNat 0) default).1.1.2.2) ((a0.getD (toNat 0) default).1.1.1) ((a0.getD (toNat 0) default).1.1.2.1) ((a0.getD (toNat 0) default).1.1.2.2) (by refine⟨?_,?_⟩<;>(try simp only [Ls])<;>first | omega | assumption | simp) (by(try simp only [Ls]);omega)
def zJ (a0:Int)(a1:Int)(a2:Int):Bool :=
 (bif (decide ((a1:Int)<=a0)) then
  (decide ((a0:Int)<=a2))
 else
  false)
theorem aRr (a0:Int)(a1:Int)(a2:Int):Con Tryz.prog 159 [(iv a0),(iv a1),(iv a2)] [] (.v (.bool (zJ a0 a1 a2))) []:=by
 refine aO Tryz.func159 (by kernel_rfl) fun cx hcx=>?_
 cases h0:(decide ((a1:Int)<=a0)) with
 | true =>
  have q0:=cA h0
  have e:=Eq.refl (zJ a0 a1 a2);conv at e=>rhs;simp only [zJ,h0,aS]
  rw [e]
  exact rt [.d h0] [] [] hcx (by kernel_rfl)
 | false =>
  have q0:=cH h0
  have e:=Eq.refl (zJ a0 a1 a2);conv at e=>rhs;simp only [zJ,h0,aS]
  rw [e]
  exact rt [.d h0] [] [] hcx (by kernel_rfl)
def zK (a0:Zt)(a1:Int):Bool :=
 (bif (zJ a0.1 (W (0 - a1)) a1) then
  (bif (zJ a0.2.1 (W (0 - a1)) a1) then
   (zJ a0.2.2 (W (0 - a1)) a1)
  else
   false)
 else
  false)
theorem aV7 (a0:Zt)(a1:Int):Con Tryz.prog 145 [(.a (k3 a0)),(iv a1)] [] (.v (.bool (zK a0 a1))) []:=by
 refine aO Tryz.func145 (by kernel_rfl) fun cx hcx=>?_
 let t0:List (St Tryz.prog):=[.c [] (aRr a0.1 (W (0 - a1)) a1)]
 cases h0:(zJ a0.1 (W (0 - a1)) a1) with
 | true =>
  let t1:List (St Tryz.prog):=(t0++[.d h0,.c [] (aRr a0.2.1 (W (0 - a1)) a1)])
  cases h1:(zJ a0.2.1 (W (0 - a1)) a1) with
  | true =>
   have e:=Eq.refl (zK a0 a1);conv at e=>rhs;simp only [zK,h0,h1,aS]
   rw [e]
   exact rt (t1++[.d h1,.c [] (aRr a0.2.2 (W (0 - a1)) a1)]) [] [] hcx (by kernel_rfl)
  | false =>
   have e:=Eq.refl (zK a0 a1);conv at e=>rhs;simp only [zK,h0,h1,aS]
   rw [e]
   exact rt (t1++[.d h1]) [] [] hcx (by kernel_rfl)
 | false =>
  have e:=Eq.refl (zK a0 a1);conv at e=>rhs;simp only [zK,h0,aS]
  rw [e]
  exact rt (t0++[.d h0]) [] [] hcx (by kernel_rfl)
def iV (a0:Zt)(a1:Zt):Zt :=
 ((W (a0.1 - a1.1)),(W (a0.2.1 - a1.2.1)),(W (a0.2.2 - a1.2.2)))
theorem aRs (a0:Zt)(a1:Zt):Con Tryz.prog 128 [(.a (k3 a0)),(.a (k3 a1))] [] (.a (k3 (iV a0 a1))) []:=by
 refine aO Tryz.func128 (by kernel_rfl) fun cx hcx=>?_
 have e:=Eq.refl (iV a0 a1);conv at e=>rhs;simp only [iV]
 rw [e]
 exact rt [] [] [] hcx (by kernel_rfl)
def wR (a0:Zt)(a1:Zt):Int :=
 (W ((W ((W (a0.1*a1.1))+(W (a0.2.1*a1.2.1))))+(W (a0.2.2*a1.2.2))))
theorem aRt (a0:Zt)(a1:Zt):Con Tryz.prog 129 [(.a (k3 a0)),(.a (k3 a1))] [] (iv (wR a0 a1)) []:=by
 refine aO Tryz.func129 (by kernel_rfl) fun cx hcx=>?_
 have e:=Eq.refl (wR a0 a1);conv at e=>rhs;simp only [wR]
 rw [e]
 exact rt [] [] [] hcx (by kernel_rfl)
def jN (a0:bM)(a1:Zt):Int :=
 (bif (((gH a0):Int) != 0) then
  (gH a0)
 else
  (bif (!(zK a1 64)) then
   1
  else
   0))
theorem aRu (a0:bM)(a1:Zt)(l0:a0.length<=9223372036854775807):Con Tryz.prog 127 [(.s 0 0 a0.length 10),(.a (k3 a1))] [(.live false true (flat eF a0))] (iv (jN a0 a1)) []:=by
 refine aO Tryz.func127 (by kernel_rfl) fun cx hcx=>?_
 let t0:List (St Tryz.prog):=[.c [0] (aL0 a0 (by omega))]
 cases h0:(((gH a0):Int) != 0) with
 | true =>
  have q0:=bne_iff_ne.1 h0
  have e:=Eq.refl (jN a0 a1);conv at e=>rhs;simp only [jN,h0,aS]
  rw [e]
  exact rt (t0++[.d h0]) [] [] hcx (by kernel_rfl)
 | false =>
  have q0:=bne_eq_false_iff_eq.1 h0
  let t1:List (St Tryz.prog):=(t0++[.d h0,.c [] (aV7 a1 64)])
  cases h1:(!(zK a1 64)) with
  | true =>
   have e:=Eq.refl (jN a0 a1);conv at e=>rhs;simp only [jN,h0,h1,aS]
   rw [e]
   exact rt (t1++[.d h1]) [] [] hcx (by kernel_rfl)
  | false =>
   have e:=Eq.refl (jN a0 a1);conv at e=>rhs;simp only [jN,h0,h1,aS]
   rw [e]
   exact rt (t1++[.d h1]) [] [] hcx (by kernel_rfl)
noncomputable def aC0:Code:=(aI [1,1,1,0,1] [] (aL Tryz.f91) []).1
noncomputable def aC1:List K:=(aI [1,1,1,0,1] [] (aL Tryz.f91) []).2
def zL (a0:bM)(a1:Zt)(v1 v2:Int):LS:=⟨iM 49 [(3,(.p 1 0)),(7,(iv v1)),(19,(.s 0 0 a0.length 10)),(20,(iv (a0.length:Int))),(21,(iv v2))],[(.live false true (flat eF a0)),(.live true false (k3 a1))]⟩
def mZ (a0:bM)(a1:Zt):Int×Int->(Int×Int)⊕(Int×Int)
 | (v1,v2) =>
  (bif (decide ((v2:Int) < (a0.length:Int))) then
   (.inl ((bY (bY (bY v1 (wR (iV (a0.getD (toNat v2) default).1.1 a1) (iV (a0.getD (toNat v2) default).1.1 a1))) (wR (iV (a0.getD (toNat v2) default).1.2.1 a1) (iV (a0.getD (toNat v2) default).1.2.1 a1))) (wR (iV (a0.getD (toNat v2) default).1.2.2 a1) (iV (a0.getD (toNat v2) default).1.2.2 a1))),(v2+1)))
  else
   (.inr (v1,0)))
theorem aO1 (a0:bM)(a1:Zt)(l0:a0.length<=9223372036854775807)(hl:a0.length<=1048576) {cx:Cx} (hcx:cx.base=1):∀(n:Nat) (v1 v2:Int),(0<=v2)/\(v2<=a0.length)->toNat ((a0.length:Int) - v2) < n->Aw.Good Tryz.prog none 9 (bodyPost Tryz.prog Tryz.f91 (RR cx (.t (k2 (aC (mZ a0 a1) n (v1,v2)))) [] [])) cx [] (.l aC0 n::aC1) (zL a0 a1 v1 v2):=by
 intro n
 induction n with
 | zero=>intro v1 v2 hi hn;exact absurd hn (eP _)
 | succ n ih =>
   intro v1 v2 hi hn
   refine aQ ?_
   cases h0:(decide ((v2:Int) < (a0.length:Int))) with
   | true =>
    have q0:=cA h0
    have e:=Eq.refl (mZ a0 a1 (v1,v2));conv at e=>rhs;simp only [mZ,h0,aS]
    rw [aE e]
    refine ba [.d h0,.i v2 (a0.length),.L cJ a0 v2 0 10,.u 200,.T,.i 0 3 (by decide),.c [] (aRs (a0.getD (toNat v2) default).1.1 a1),.c [] (aRt (iV (a0.getD (toNat v2) default).1.1 a1) (iV (a0.getD (toNat v2) default).1.1 a1)),.u 0,.T,.i 1 3 (by decide),.c [] (aRs (a0.getD (toNat v2) default).1.2.1 a1),.c [] (aRt (iV (a0.getD (toNat v2) default).1.2.1 a1) (iV (a0.getD (toNat v2) default).1.2.1 a1)),.u 0,.T,.i 2 3 (by decide),.c [] (aRs (a0.getD (toNat v2) default).1.2.2 a1),.c [] (aRt (iV (a0.getD (toNat v2) default).1.2.2 a1) (iV (a0.getD (toNat v2) default).1.2.2 a1)),.u 0,.F] [] [3,7,19,20,21] [1] hcx (m:=n) aC0 (aC1) (zL a0 a1 (bY (bY (bY v1 (wR (iV (a0.getD (toNat v2) default).1.1 a1) (iV (a0.getD (toNat v2) default).1.1 a1))) (wR (iV (a0.getD (toNat v2) default).1.2.1 a1) (iV (a0.getD (toNat v2) default).1.2.1 a1))) (wR (iV (a0.getD (toNat v2) default).1.2.2 a1) (iV (a0.getD (toNat v2) default).1.2.2 a1))) (W (v2+1))) (by kernel_rfl) ?_
    have z0:(W (v2+1))=(v2+1):=aJ (by omega) (by omega)
    rw [z0]
    exact ih (bY (bY (bY v1 (wR (iV (a0.getD (toNat v2) default).1.1 a1) (iV (a0.getD (toNat v2) default).1.1 a1))) (wR (iV (a0.getD (toNat v2) default).1.2.1 a1) (iV (a0.getD (toNat v2) default).1.2.1 a1))) (wR (iV (a0.getD (toNat v2) default).1.2.2 a1) (iV (a0.getD (toNat v2) default).1.2.2 a1))) (v2+1) (by refine⟨?_,?_⟩<;>(try simp only [Ls])<;>first | omega | assumption | simp) (by(try simp only [Ls]);omega)
   | false =>
    have q0:=cH h0
    have e:=Eq.refl (mZ a0 a1 (v1,v2));conv at e=>rhs;simp only [mZ,h0,aS]
    rw [aN,e]
    exact rt [.d h0] [] [] hcx (by kernel_rfl)
def wA (a0:bM)(a1:Zt):Int×Int :=
 (bif (((jN a0 a1):Int) != 0) then
  (0,(jN a0 a1))
 else
  (aC (mZ a0 a1) (toNat ((a0.length:Int) - 0)+1) (0,0)))
theorem aUh (a0:bM)(a1:Zt)(l0:a0.length<=9223372036854775807)(hl:a0.length<=1048576):Con Tryz.prog 91 [(.s 0 0 a0.length 10),(.a (k3 a1))] [(.live false true (flat eF a0))] (.t (k2 (wA a0 a1))) []:=by
 refine aO Tryz.func91 (by kernel_rfl) fun cx hcx=>?_
 let t0:List (St Tryz.prog):=[.c [0] (aRu a0 a1 (by omega))]
 cases h0:(((jN a0 a1):Int) != 0) with
 | true =>
  have q0:=bne_iff_ne.1 h0
  have e:=Eq.refl (wA a0 a1);conv at e=>rhs;simp only [wA,h0,aS]
  rw [e]
  exact rt (t0++[.d h0]) [] [] hcx (by kernel_rfl)
 | false =>
  have q0:=bne_eq_false_iff_eq.1 h0
  have e:=Eq.refl (wA a0 a1);conv at e=>rhs;simp only [wA,h0,aS]
  rw [e]
  refine en (t0++[.d h0]) [] [3,7,19,20,21] [1] hcx aC0 (aC1) (zL a0 a1 0 0) (toNat ((a0.length:Int) - 0)+1) (by kernel_rfl) ?_
  exact aO1 a0 a1 l0 hl hcx (toNat ((a0.length:Int) - 0)+1) 0 0 (by refine⟨?_,?_⟩<;>(try simp only [Ls])<;>first | omega | assumption | simp) (by(try simp only [Ls]);omega)
noncomputable def aC2:Code:=(aI [1,1,0,1,0,1,1,0,1,1,0,1] [0] (aL Tryz.f93) []).1
noncomputable def aC3 (m0:Nat):List K:=(aI [1,1,0,1,0,1,1,0,1,1,0,1] [m0] (aL Tryz.f93) []).2
def zM (a0:bM×Int×List (Int)×bE)(a1:List (Int))(v15 v16 v17 v18 v19 v20 v21:Int):LS:=⟨iM 59 [(0,(.p 0 0)),(1,(.s 4 0 a1.length 1)),(4,(.p 5 0)),(5,(iv v15)),(6,(iv v16)),(7,(iv v17)),(8,(iv v18)),(9,(iv v19)),(12,(iv v20)),(27,(.s 4 0 a1.length 1)),(28,(iv (a1.length:Int))),(29,(iv v21))],[(.live false false [(.s 1 0 a0.1.length 10),(iv a0.2.1),(.s 2 0 a0.2.2.1.length 1),(.s 3 0 a0.2.2.2.length 8)]),(.live false true (flat eF a0.1)),(.live false true (flat c3 a0.2.2.1)),(.live false true (flat bT a0.2.2.2)),(.live false true (flat c3 a1)),(.live true false [(.v (.pointer none)),(iv 0)])]⟩
def eV (a0:bM×Int×List (Int)×bE)(a1:List (Int)):Int×Int×Int×Int×Zt->(Int×Int×Int×Int×Zt)⊕(Zt⊕TyS)
 | (v15,v16,v17,v18,v19,v20,v21) =>
  (bif (decide ((v21:Int) < (a1.length:Int))) then
   (.inl (v15,v16,v17,(if((fX (a0.1,a0.2.1,(a0.2.2.1,a0.2.2.2)) (a1.getD (toNat v21) default) v17):Int) < v18 then(fX (a0.1,a0.2.1,(a0.2.2.1,a0.2.2.2)) (a1.getD (toNat v21) default) v17) else v18),(if(v19:Int) < (fX (a0.1,a0.2.1,(a0.2.2.1,a0.2.2.2)) (a1.getD (toNat v21) default) v17) then(fX (a0.1,a0.2.1,(a0.2.2.1,a0.2.2.2)) (a1.getD (toNat v21) default) v17) else v19),v20,(v21+1)))
  else
   (bif (decide (((W (v19 - v18)):Int) > v16)) then
    (.inr (.inl (v17,(W (v19 - v18)),(v20+1))))
   else
    (.inr (.inl (v15,v16,(v20+1))))))
noncomputable def sX:Code:=(aI [1,1,0,1] [] (aL Tryz.f93) []).1
noncomputable def sY:List K:=(aI [1,1,0,1] [] (aL Tryz.f93) []).2
def oA (a0:bM×Int×List (Int)×bE)(a1:List (Int))(v12 v13 v14:Int):LS:=⟨iM 59 [(0,(.p 0 0)),(1,(.s 4 0 a1.length 1)),(4,(.p 5 0)),(5,(iv v12)),(6,(iv v13)),(12,(iv v14))],[(.live false false [(.s 1 0 a0.1.length 10),(iv a0.2.1),(.s 2 0 a0.2.2.1.length 1),(.s 3 0 a0.2.2.2.length 8)]),(.live false true (flat eF a0.1)),(.live false true (flat c3 a0.2.2.1)),(.live false true (flat bT a0.2.2.2)),(.live false true (flat c3 a1)),(.live true false [(.v (.pointer none)),(iv 0)])]⟩
def gF (a0:bM×Int×List (Int)×bE)(a1:List (Int)):Zt->Zt⊕TyS
 | (v12,v13,v14) =>
  (bif (decide ((v14:Int) < 3)) then
   (aC (eV a0 a1) (toNat ((a1.length:Int) - 0)+1) (v12,v13,v14,(fX (a0.1,a0.2.1,(a0.2.2.1,a0.2.2.2)) (a1.getD (toNat 0) default) v14),(fX (a0.1,a0.2.1,(a0.2.2.1,a0.2.2.2)) (a1.getD (toNat 0) default) v14),v14,0))
  else
   (.inr ((a0.1,a0.2.1,(a0.2.2.1,a0.2.2.2)),v12)))
theorem aO2 (a0:bM×Int×List (Int)×bE)(a1:List (Int))(l0_1:a0.1.length<=9223372036854775807)(l0_2_2_1:a0.2.2.1.length<=9223372036854775807)(l0_2_2_2:a0.2.2.2.length<=9223372036854775807)(l1:a1.length<=9223372036854775807)(hir:InR a0.1.length a1)(hl:1<=a1.length/\a1.length<=1048576) {cx:Cx} (hcx:cx.base=5)
   (n0:Nat) (g0:∀(v12 v13 v14:Int),(0<=v14)/\(v14<=3)->toNat (3 - v14) < n0->Aw.Good Tryz.prog none 9 (bodyPost Tryz.prog Tryz.f93 (RR cx (.a [(.p 0 0),(iv (aC (gF a0 a1) n0 (v12,v13,v14)).2)]) [] [])) cx [] (.l sX n0::sY) (oA a0 a1 v12 v13 v14)):∀(n:Nat) (v15 v16 v17 v18 v19 v20 v21:Int),(0<=v21)/\(v21<=a1.length)/\((0<=v20))/\((v20<=3))/\(v20 < 3)/\(toNat (3 - v20) < n0+1)->toNat ((a1.length:Int) - v21) < n->Aw.Good Tryz.prog none 9 (bodyPost Tryz.prog Tryz.f93 (RR cx (.a [(.p 0 0),(iv (aT (gF a0 a1) n0 (aC (eV a0 a1) n (v15,v16,v17,v18,v19,v20,v21))).2)]) [] [])) cx [] (.l aC2 n::aC3 n0) (zM a0 a1 v15 v16 v17 v18 v19 v20 v21):=by
 intro n
 induction n with
 | zero=>intro v15 v16 v17 v18 v19 v20 v21 hi hn;exact absurd hn (eP _)
 | succ n ih =>
   intro v15 v16 v17 v18 v19 v20 v21 hi hn
   refine aQ ?_
   try have hr1:=hir.at (i:=toNat v21) (by have _:=h0;omega)
   cases h0:(decide ((v21:Int) < (a1.length:Int))) with
   | true =>
    have q0:=cA h0
    try have hr1:=hir.at (i:=toNat v21) (by have _:=h0;omega)
    have e:=Eq.refl (eV a0 a1 (v15,v16,v17,v18,v19,v20,v21));conv at e=>rhs;simp only [eV,h0,aS]
    rw [aE e]
    refine ba [.d h0,.i v21 (a1.length),.L aM a1 v21 0 1,.c [0,1,2,3] (aKk (a0.1,a0.2.1,(a0.2.2.1,a0.2.2.2)) (a1.getD (toNat v21) default) v17 (by(try simp only [Lt]);omega) (by(try simp only [Lt]);omega) (by(try simp only [Lt]);omega) (by(try simp only [Lt]);omega)),.c [0,1,2,3] (aKk (a0.1,a0.2.1,(a0.2.2.1,a0.2.2.2)) (a1.getD (toNat v21) default) v17 (by(try simp only [Lt]);omega) (by(try simp only [Lt]);omega) (by(try simp only [Lt]);omega) (by(try simp only [Lt]);omega))] [] [0,1,4,5,6,7,8,9,12,27,28,29] [5] hcx (m:=n) aC2 (aC3 n0) (zM a0 a1 v15 v16 v17 (if((fX (a0.1,a0.2.1,(a0.2.2.1,a0.2.2.2)) (a1.getD (toNat v21) default) v17):Int) < v18 then(fX (a0.1,a0.2.1,(a0.2.2.1,a0.2.2.2)) (a1.getD (toNat v21) default) v17) else v18) (if(v19:Int) < (fX (a0.1,a0.2.1,(a0.2.2.1,a0.2.2.2)) (a1.getD (toNat v21) default) v17) then(fX (a0.1,a0.2.1,(a0.2.2.1,a0.2.2.2)) (a1.getD (toNat v21) default) v17) else v19) v20 (W (v21+1))) (by kernel_rfl) ?_
    have z0:(W (v21+1))=(v21+1):=aJ (by omega) (by omega)
    rw [z0]
    exact ih v15 v16 v17 (if((fX (a0.1,a0.2.1,(a0.2.2.1,a0.2.2.2)) (a1.getD (toNat v21) default) v17):Int) < v18 then(fX (a0.1,a0.2.1,(a0.2.2.1,a0.2.2.2)) (a1.getD (toNat v21) default) v17) else v18) (if(v19:Int) < (fX (a0.1,a0.2.1,(a0.2.2.1,a0.2.2.2)) (a1.getD (toNat v21) default) v17) then(fX (a0.1,a0.2.1,(a0.2.2.1,a0.2.2.2)) (a1.getD (toNat v21) default) v17) else v19) v20 (v21+1) (by refine⟨?_,?_,?_,?_,?_,?_⟩<;>(try simp only [Ls])<;>first | omega | assumption | exact hi.2.1 | exact hi.2.2.1 | exact hi.2.2.2.1 | exact hi.2.2.2.2.1 | exact hi.2.2.2.2.2.1 | simp) (by(try simp only [Ls]);omega)
   | false =>
    have q0:=cH h0
    try have hr1:=hir.at (i:=toNat v21) (by have _:=h0;omega)
    let t1:List (St Tryz.prog):=[.d h0]
    cases h1:(decide (((W (v19 - v18)):Int) > v16)) with
    | true =>
     have q1:=cA h1
     try have hr1:=hir.at (i:=toNat v21) (by have _:=h0;omega)
     have e:=Eq.refl (eV a0 a1 (v15,v16,v17,v18,v19,v20,v21));conv at e=>rhs;simp only [eV,h0,h1,aS]
     rw [aN,e]
     refine ba (t1++[.d h1]) [] [0,1,4,5,6,12] [5] hcx (m:=n0) sX (sY) (oA a0 a1 v17 (W (v19 - v18)) (W (v20+1))) (by kernel_rfl) ?_
     have z0:(W (v20+1))=(v20+1):=aJ (by omega) (by omega)
     rw [z0]
     exact g0 v17 (W (v19 - v18)) (v20+1) (by refine⟨?_,?_⟩<;>(try simp only [Ls])<;>first | omega | assumption | simp) (by(try simp only [Ls]);omega)
    | false =>
     have q1:=cH h1
     try have hr1:=hir.at (i:=toNat v21) (by have _:=h0;omega)
     have e:=Eq.refl (eV a0 a1 (v15,v16,v17,v18,v19,v20,v21));conv at e=>rhs;simp only [eV,h0,h1,aS]
     rw [aN,e]
     refine ba (t1++[.d h1]) [] [0,1,4,5,6,12] [5] hcx (m:=n0) sX (sY) (oA a0 a1 v15 v16 (W (v20+1))) (by kernel_rfl) ?_
     have z0:(W (v20+1))=(v20+1):=aJ (by omega) (by omega)
     rw [z0]
     exact g0 v15 v16 (v20+1) (by refine⟨?_,?_⟩<;>(try simp only [Ls])<;>first | omega | assumption | simp) (by(try simp only [Ls]);omega)
theorem aO3 (a0:bM×Int×List (Int)×bE)(a1:List (Int))(l0_1:a0.1.length<=9223372036854775807)(l0_2_2_1:a0.2.2.1.length<=9223372036854775807)(l0_2_2_2:a0.2.2.2.length<=9223372036854775807)(l1:a1.length<=9223372036854775807)(hir:InR a0.1.length a1)(hl:1<=a1.length/\a1.length<=1048576) {cx:Cx} (hcx:cx.base=5):∀(n:Nat) (v12 v13 v14:Int),(0<=v14)/\(v14<=3)->toNat (3 - v14) < n->Aw.Good Tryz.prog none 9 (bodyPost Tryz.prog Tryz.f93 (RR cx (.a [(.p 0 0),(iv (aC (gF a0 a1) n (v12,v13,v14)).2)]) [] [])) cx [] (.l sX n::sY) (oA a0 a1 v12 v13 v14):=by
 intro n
 induction n with
 | zero=>intro v12 v13 v14 hi hn;exact absurd hn (eP _)
 | succ n ih =>
   intro v12 v13 v14 hi hn
   refine aQ ?_
   have hr0:=hir.at (i:=0) (by omega)
   cases h0:(decide ((v14:Int) < 3)) with
   | true =>
    have q0:=cA h0
    have e:=Eq.refl (gF a0 a1 (v12,v13,v14));conv at e=>rhs;simp only [gF,h0,aS]
    rw [aN,e]
    refine en [.d h0,.i 0 (a1.length),.L aM a1 0 0 1,.c [0,1,2,3] (aKk (a0.1,a0.2.1,(a0.2.2.1,a0.2.2.2)) (a1.getD (toNat 0) default) v14 (by(try simp only [Lt]);omega) (by(try simp only [Lt]);omega) (by(try simp only [Lt]);omega) (by(try simp only [Lt]);omega)),.i 0 (a1.length),.L aM a1 0 0 1,.c [0,1,2,3] (aKk (a0.1,a0.2.1,(a0.2.2.1,a0.2.2.2)) (a1.getD (toNat 0) default) v14 (by(try simp only [Lt]);omega) (by(try simp only [Lt]);omega) (by(try simp only [Lt]);omega) (by(try simp only [Lt]);omega))] [] [0,1,4,5,6,7,8,9,12,27,28,29] [5] hcx aC2 (aC3 n) (zM a0 a1 v12 v13 v14 (fX (a0.1,a0.2.1,(a0.2.2.1,a0.2.2.2)) (a1.getD (toNat 0) default) v14) (fX (a0.1,a0.2.1,(a0.2.2.1,a0.2.2.2)) (a1.getD (toNat 0) default) v14) v14 0) (toNat ((a1.length:Int) - 0)+1) (by kernel_rfl) ?_
    exact aO2 a0 a1 l0_1 l0_2_2_1 l0_2_2_2 l1 hir hl hcx n ih (toNat ((a1.length:Int) - 0)+1) v12 v13 v14 (fX (a0.1,a0.2.1,(a0.2.2.1,a0.2.2.2)) (a1.getD (toNat 0) default) v14) (fX (a0.1,a0.2.1,(a0.2.2.1,a0.2.2.2)) (a1.getD (toNat 0) default) v14) v14 0 (by refine⟨?_,?_,?_,?_,?_,?_⟩<;>(try simp only [Ls])<;>first | omega | assumption | exact hi.2.1 | exact hi.2.2.1 | exact hi.2.2.2.1 | exact hi.2.2.2.2.1 | exact hi.2.2.2.2.2.1 | simp) (by(try simp only [Ls]);omega)
   | false =>
    have q0:=cH h0
    have e:=Eq.refl (gF a0 a1 (v12,v13,v14));conv at e=>rhs;simp only [gF,h0,aS]
    rw [aN,e]
    exact rt [.d h0] [] [] hcx (by kernel_rfl)
def aE8 (a0:bM×Int×List (Int)×bE)(a1:List (Int)):xE×Int :=
 (aC (gF a0 a1) (toNat (3 - 0)+1) (0,(-1),0))
theorem aUi (a0:bM×Int×List (Int)×bE)(a1:List (Int))(l0_1:a0.1.length<=9223372036854775807)(l0_2_2_1:a0.2.2.1.length<=9223372036854775807)(l0_2_2_2:a0.2.2.2.length<=9223372036854775807)(l1:a1.length<=9223372036854775807)(hir:InR a0.1.length a1)(hl:1<=a1.length/\a1.length<=1048576):Con Tryz.prog 93 [(.p 0 0),(.s 4 0 a1.length 1)] [(.live false false [(.s 1 0 a0.1.length 10),(iv a0.2.1),(.s 2 0 a0.2.2.1.length 1),(.s 3 0 a0.2.2.2.length 8)]),(.live false true (flat eF a0.1)),(.live false true (flat c3 a0.2.2.1)),(.live false true (flat bT a0.2.2.2)),(.live false true (flat c3 a1))] (.a [(.p 0 0),(iv (aE8 a0 a1).2)]) []:=by
 refine aO Tryz.func93 (by kernel_rfl) fun cx hcx=>?_
 have e:=Eq.refl (aE8 a0 a1);conv at e=>rhs;simp only [aE8]
 rw [e]
 refine en [] [] [0,1,4,5,6,12] [5] hcx sX (sY) (oA a0 a1 0 (-1) 0) (toNat (3 - 0)+1) (by kernel_rfl) ?_
 exact aO3 a0 a1 l0_1 l0_2_2_1 l0_2_2_2 l1 hir hl hcx (toNat (3 - 0)+1) 0 (-1) 0 (by refine⟨?_,?_⟩<;>(try simp only [Ls])<;>first | omega | assumption | simp) (by(try simp only [Ls]);omega)
abbrev BU:=(List (((Zt×Zt×Zt)×Int)))×Int×List Int×bE
structure PADD (b:BU) (i k:Int):Prop where
 inr:InR b.1.length b.2.2.1
 rng:0<=i/\i < k/\k<=b.2.2.1.length/\b.2.2.1.length<=1048576
 nds:b.2.2.2.length+2*(k - i)<=4194304
 lf:1<=b.2.1
 sm:k - i<=12
theorem InR.part {n:Nat} {l:List Int} (h:InR n l)(a b:Int):InR n (Aw.part l a b):=fun x hx=>h x (List.mem_of_mem_drop (List.mem_of_mem_take hx))
theorem aE9 {a0:bM} {a1:List Int}:∀(d i n:Nat) (m:bM),d=a1.length - i->i<=a1.length->d < n ->
   aC (eM a0 a1) n (m,(i:Int))=m++(a1.drop i).map (fun a=>a0.getD (toNat a) default)
 | 0,i,n,m,hd,hi,hn=>by
   obtain⟨n,rfl⟩:∃m,n=m+1:=⟨n - 1,by omega⟩
   have:i=a1.length:=by omega
   subst this
   have e:eM a0 a1 (m,(a1.length:Int))=.inr m:=by
     simp only [eM];rw [dQ (Int.lt_irrefl _),cond_false]
   rw [aY e];simp
 | d+1,i,n,m,hd,hi,hn=>by
   obtain⟨n,rfl⟩:∃m,n=m+1:=⟨n - 1,by omega⟩
   have e:eM a0 a1 (m,(i:Int))=.inl (m++[a0.getD (toNat (a1.getD i default)) default],((i+1:Nat):Int)):=by
     simp only [eM]
     rw [cN (show((i:Nat):Int) < (a1.length:Nat) by omega),cond_true,jM];rfl
   rw [aE e,aE9 d (i+1) n _ (by omega) (by omega) (by omega),List.drop_eq_getElem_cons (show i < a1.length by omega),List.map_cons]
   simp [eQ,List.getElem?_eq_getElem (show i < a1.length by omega)]
theorem aMz (a0:bM)(a1:List Int):eU a0 a1=a1.map (fun a=>a0.getD (toNat a) default):=by
 have:=aE9 (a0:=a0) (a1:=a1) a1.length 0 (toNat ((a1.length:Int) - 0)+1) [] (by omega) (by omega) (by omega)
 exact this
theorem xB (a0:bM)(a1:List Int):(eU a0 a1).length=a1.length:=by rw [aMz];simp
theorem aRv {N:Nat} {l:List Int} {o m:Nat} {c:BU×Int} (hw:o+m<=l.length/\l.length<=1048576)(hi:InR N l)(h12:m<=12):(gD l o m c).length=l.length/\InR N (gD l o m c):=by
 rw [aMy h12]
 exact aUf hw hi (by omega)
theorem zN {i k:Int} (h:0<=i/\i < k/\k<=1048576):(W (i+(W (Int.tdiv (W ((W (k - i))+1)) 2))))=i+(k - i+1) / 2:=by
 rw [aJ (n:=k - i) (by omega) (by omega),aJ (n:=k - i+1) (by omega) (by omega),Int.tdiv_eq_ediv_of_nonneg (by omega),aJ (n:=(k - i+1) / 2) (by omega) (by omega),aJ (by omega) (by omega)]
def cQ (a0:bM×Int×List (Int)×bE)(a1:Int)(a2:Int):=(eU a0.1 (Aw.part (a0.2.2.1) a1 a2))
def fL (a0:bM×Int×List (Int)×bE)(a1:Int)(a2:Int):=(wA (cQ a0 a1 a2) (cU (cQ a0 a1 a2)))
def aFa (a0:bM×Int×List (Int)×bE)(a1:Int)(a2:Int):=(aE8 (a0.1,a0.2.1,(a0.2.2.1,(a0.2.2.2++[(a1,a2,(-1),(-1),(cU (cQ a0 a1 a2)),(fL a0 a1 a2).1)]))) (Aw.part (a0.2.2.1) a1 a2))
def wB (a0:bM×Int×List (Int)×bE)(a1:Int)(a2:Int):=(gD (a0.2.2.1) (toNat a1) (toNat a2 - toNat a1) ((a0.1,a0.2.1,(a0.2.2.1,(a0.2.2.2++[(a1,a2,(-1),(-1),(cU (cQ a0 a1 a2)),(fL a0 a1 a2).1)]))),(aFa a0 a1 a2).2))
def dO (rr:xE->(Int)->(Int)->Int×bM×Int×List (Int)×bE)(a0:bM×Int×List (Int)×bE)(a1:Int)(a2:Int):=(rr (a0.1,a0.2.1,((wB a0 a1 a2),(a0.2.2.2++[(a1,a2,(-1),(-1),(cU (cQ a0 a1 a2)),(fL a0 a1 a2).1)]))) a1 (W (a1+(W (Int.tdiv (W ((W (a2 - a1))+1)) 2)))))
def aR (rr:xE->(Int)->(Int)->Int×bM×Int×List (Int)×bE)(a0:bM×Int×List (Int)×bE)(a1:Int)(a2:Int):=(rr (a0.1,(dO (rr) a0 a1 a2).2.2.1,((dO (rr) a0 a1 a2).2.2.2.1,(dO (rr) a0 a1 a2).2.2.2.2)) (W (a1+(W (Int.tdiv (W ((W (a2 - a1))+1)) 2)))) a2)
def bP:Nat->xE->(Int)->(Int)->Int×bM×Int×List (Int)×bE
 | 0,_,_,_=>default
 | nr+1,a0,a1,a2 =>
 (bif (decide (((W (a2 - a1)):Int) > a0.2.1)) then
  ((a0.2.2.2.length:Int),(a0.1,(aR (bP nr) a0 a1 a2).2.2.1,((aR (bP nr) a0 a1 a2).2.2.2.1,(((aR (bP nr) a0 a1 a2).2.2.2.2.set (toNat (a0.2.2.2.length:Int)) (((aR (bP nr) a0 a1 a2).2.2.2.2.getD (toNat (a0.2.2.2.length:Int)) default).1,((aR (bP nr) a0 a1 a2).2.2.2.2.getD (toNat (a0.2.2.2.length:Int)) default).2.1,(dO (bP nr) a0 a1 a2).1,((aR (bP nr) a0 a1 a2).2.2.2.2.getD (toNat (a0.2.2.2.length:Int)) default).2.2.2.1,((aR (bP nr) a0 a1 a2).2.2.2.2.getD (toNat (a0.2.2.2.length:Int)) default).2.2.2.2.1,((aR (bP nr) a0 a1 a2).2.2.2.2.getD (toNat (a0.2.2.2.length:Int)) default).2.2.2.2.2)).set (toNat (a0.2.2.2.length:Int)) ((((aR (bP nr) a0 a1 a2).2.2.2.2.set (toNat (a0.2.2.2.length:Int)) (((aR (bP nr) a0 a1 a2).2.2.2.2.getD (toNat (a0.2.2.2.length:Int)) default).1,((aR (bP nr) a0 a1 a2).2.2.2.2.getD (toNat (a0.2.2.2.length:Int)) default).2.1,(dO (bP nr) a0 a1 a2).1,((aR (bP nr) a0 a1 a2).2.2.2.2.getD (toNat (a0.2.2.2.length:Int)) default).2.2.2.1,((aR (bP nr) a0 a1 a2).2.2.2.2.getD (toNat (a0.2.2.2.length:Int)) default).2.2.2.2.1,((aR (bP nr) a0 a1 a2).2.2.2.2.getD (toNat (a0.2.2.2.length:Int)) default).2.2.2.2.2)).getD (toNat (a0.2.2.2.length:Int)) default).1,(((aR (bP nr) a0 a1 a2).2.2.2.2.set (toNat (a0.2.2.2.length:Int)) (((aR (bP nr) a0 a1 a2).2.2.2.2.getD (toNat (a0.2.2.2.length:Int)) default).1,((aR (bP nr) a0 a1 a2).2.2.2.2.getD (toNat (a0.2.2.2.length:Int)) default).2.1,(dO (bP nr) a0 a1 a2).1,((aR (bP nr) a0 a1 a2).2.2.2.2.getD (toNat (a0.2.2.2.length:Int)) default).2.2.2.1,((aR (bP nr) a0 a1 a2).2.2.2.2.getD (toNat (a0.2.2.2.length:Int)) default).2.2.2.2.1,((aR (bP nr) a0 a1 a2).2.2.2.2.getD (toNat (a0.2.2.2.length:Int)) default).2.2.2.2.2)).getD (toNat (a0.2.2.2.length:Int)) default).2.1,(((aR (bP nr) a0 a1 a2).2.2.2.2.set (toNat (a0.2.2.2.length:Int)) (((aR (bP nr) a0 a1 a2).2.2.2.2.getD (toNat (a0.2.2.2.length:Int)) default).1,((aR (bP nr) a0 a1 a2).2.2.2.2.getD (toNat (a0.2.2.2.length:Int)) default).2.1,(dO (bP nr) a0 a1 a2).1,((aR (bP nr) a0 a1 a2).2.2.2.2.getD (toNat (a0.2.2.2.length:Int)) default).2.2.2.1,((aR (bP nr) a0 a1 a2).2.2.2.2.getD (toNat (a0.2.2.2.length:Int)) default).2.2.2.2.1,((aR (bP nr) a0 a1 a2).2.2.2.2.getD (toNat (a0.2.2.2.length:Int)) default).2.2.2.2.2)).getD (toNat (a0.2.2.2.length:Int)) default).2.2.1,(aR (bP nr) a0 a1 a2).1,(((aR (bP nr) a0 a1 a2).2.2.2.2.set (toNat (a0.2.2.2.length:Int)) (((aR (bP nr) a0 a1 a2).2.2.2.2.getD (toNat (a0.2.2.2.length:Int)) default).1,((aR (bP nr) a0 a1 a2).2.2.2.2.getD (toNat (a0.2.2.2.length:Int)) default).2.1,(dO (bP nr) a0 a1 a2).1,((aR (bP nr) a0 a1 a2).2.2.2.2.getD (toNat (a0.2.2.2.length:Int)) default).2.2.2.1,((aR (bP nr) a0 a1 a2).2.2.2.2.getD (toNat (a0.2.2.2.length:Int)) default).2.2.2.2.1,((aR (bP nr) a0 a1 a2).2.2.2.2.getD (toNat (a0.2.2.2.length:Int)) default).2.2.2.2.2)).getD (toNat (a0.2.2.2.length:Int)) default).2.2.2.2.1,(((aR (bP nr) a0 a1 a2).2.2.2.2.set (toNat (a0.2.2.2.length:Int)) (((aR (bP nr) a0 a1 a2).2.2.2.2.getD (toNat (a0.2.2.2.length:Int)) default).1,((aR (bP nr) a0 a1 a2).2.2.2.2.getD (toNat (a0.2.2.2.length:Int)) default).2.1,(dO (bP nr) a0 a1 a2).1,((aR (bP nr) a0 a1 a2).2.2.2.2.getD (toNat (a0.2.2.2.length:Int)) default).2.2.2.1,((aR (bP nr) a0 a1 a2).2.2.2.2.getD (toNat (a0.2.2.2.length:Int)) default).2.2.2.2.1,((aR (bP nr) a0 a1 a2).2.2.2.2.getD (toNat (a0.2.2.2.length:Int)) default).2.2.2.2.2)).getD (toNat (a0.2.2.2.length:Int)) default).2.2.2.2.2)))))
 else
  ((a0.2.2.2.length:Int),(a0.1,a0.2.1,(a0.2.2.1,(a0.2.2.2++[(a1,a2,(-1),(-1),(cU (cQ a0 a1 a2)),(fL a0 a1 a2).1)])))))
def F60 (a0:bM×Int×List (Int)×bE)(a1:Int)(a2:Int):Int×bM×Int×List (Int)×bE:=bP (toNat (a2 - a1)+1) a0 a1 a2
structure ADDR (b r:BU) (i k:Int):Prop where
 pan:r.1=b.1
 leaf:r.2.1=b.2.1
 ol:r.2.2.1.length=b.2.2.1.length
 oi:InR b.1.length r.2.2.1
 lo:b.2.2.2.length < r.2.2.2.length
 hi:r.2.2.2.length<=b.2.2.2.length+2*(k - i) - 1
section
variable {nr : Nat} {b : BU} {i k : Int} (hp : PADD b i k)
include hp
theorem nI:(wB b i k).length=b.2.2.1.length/\InR b.1.length (wB b i k) :=
 aRv (by have:=hp.rng;omega) hp.inr (by have:=hp.rng;have:=hp.sm;omega)
theorem aFb {x:Int×Int×Int×Int×Zt×Int} (h2:2<=k - i):PADD (b.1,b.2.1,(wB b i k),b.2.2.2++[x]) i (W (i+(W (Int.tdiv (W ((W (k - i))+1)) 2)))):=by
 have h:=hp.rng;have hn:=hp.nds
 rw [zN ⟨h.1,h.2.1,by omega⟩]
 have h4:=nI hp
 exact⟨h4.2,⟨h.1,by omega,by rw [h4.1];omega,by rw [h4.1];omega⟩,by simp only [List.length_append,List.length_cons,List.length_nil];omega,hp.lf,by have:=hp.sm;omega⟩
end
theorem aG0 {b r:BU} {i k:Int} {o:List Int} {x:Int×Int×Int×Int×Zt×Int} (hp:PADD b i k)(ho:o.length=b.2.2.1.length)(h2:2<=k - i)(hr:ADDR (b.1,b.2.1,o,b.2.2.2++[x]) r i (W (i+(W (Int.tdiv (W ((W (k - i))+1)) 2))))) :
   PADD (b.1,r.2.1,r.2.2.1,r.2.2.2) (W (i+(W (Int.tdiv (W ((W (k - i))+1)) 2)))) k:=by
 have h:=hp.rng;have hn:=hp.nds
 obtain⟨g1,g2,g3,g4,g5,g6⟩:=hr
 rw [zN ⟨h.1,h.2.1,by omega⟩] at g6 ⊢
 simp only [List.length_append,List.length_cons,List.length_nil] at g3 g5 g6 g2
 exact⟨g4,⟨by omega,by omega,by rw [g3];omega,by rw [g3];omega⟩,by simp only;omega,by rw [g2];exact hp.lf,by have:=hp.sm;omega⟩
theorem jX:∀(nr:Nat) (b:BU) (i k:Int),PADD b i k->toNat (k - i) < nr->ADDR b (bP nr b i k).2 i k
 | 0,b,i,k,_,hn=>absurd hn (eP _)
 | nr+1,b,i,k,hp,hn=>by
   have h:=hp.rng;have hn2:=hp.nds;have hl:=hp.lf
   have hW:W (k - i)=k - i:=aJ (by omega) (by omega)
   simp only [bP]
   by_cases h0:W (k - i) > b.2.1
   · rw [cN h0,cond_true]
     have h2:2<=k - i:=by omega
     have hm:=zN ⟨h.1,h.2.1,by omega⟩
     have h5:ADDR _ (dO (bP nr) b i k).2 i _:=jX nr _ _ _ (aFb hp h2) (by rw [hm];omega)
     have h6:ADDR _ (aR (bP nr) b i k).2 _ k:=jX nr _ _ _ (aG0 hp (nI hp).1 h2 h5) (by rw [hm];omega)
     have g3:=h5.ol;have g5:=h5.lo;have g6:=h5.hi;have f3:=h6.ol;have f5:=h6.lo;have f6:=h6.hi
     rw [hm] at g6 f6
     simp only [List.length_append,List.length_cons,List.length_nil] at g3 g5 g6 f3 f5 f6
     refine⟨rfl,h6.leaf.trans h5.leaf,?_,h6.oi,?_,?_⟩
     · show(aR (bP nr) b i k).2.2.2.1.length=_
       rw [f3,g3];exact(nI hp).1
     · simp only [List.length_set];omega
     · simp only [List.length_set];omega
   · rw [dQ h0,cond_false]
     exact⟨rfl,rfl,rfl,hp.inr,by simp,by simp;omega⟩
theorem aV8:∀(nr:Nat) (a0:bM×Int×List (Int)×bE) (a1:Int) (a2:Int) (l0_1:a0.1.length<=9223372036854775807) (l0_2_2_1:a0.2.2.1.length<=9223372036854775807) (l0_2_2_2:a0.2.2.2.length<=9223372036854775807) (hp:PADD a0 a1 a2),toNat (a2 - a1) < nr->Con Tryz.prog 60 [(.p 0 0),(iv a1),(iv a2)] [(.live true false [(.s 1 0 a0.1.length 10),(iv a0.2.1),(.s 2 0 a0.2.2.1.length 1),(.s 3 0 a0.2.2.2.length 8)]),(.live false true (flat eF a0.1)),(.live true true (flat c3 a0.2.2.1)),(.live true true (flat bT a0.2.2.2))] (iv (bP nr a0 a1 a2).1) [(.live true true (flat bT (bP nr a0 a1 a2).2.2.2.2))] [(.live true false [(.s 1 0 a0.1.length 10),(iv (bP nr a0 a1 a2).2.2.1),(.s 2 0 (bP nr a0 a1 a2).2.2.2.1.length 1),(.s 4 0 (bP nr a0 a1 a2).2.2.2.2.length 8)]),.un,(.live true true (flat c3 (bP nr a0 a1 a2).2.2.2.1)),.dead]:=by
 intro nr
 induction nr with
 | zero=>intro a0 a1 a2 l0_1 l0_2_2_1 l0_2_2_2 hp hlt;exact absurd hlt (eP _)
 | succ nr ihr =>
 intro a0 a1 a2 l0_1 l0_2_2_1 l0_2_2_2 hp hlt
 refine aO Tryz.func60 (by kernel_rfl) fun cx hcx=>?_
 have hps:=hp.sm
 have hpr:=hp.rng
 have hpn:=hp.nds
 have hpl:=hp.lf
 have hpt:=part_len (l:=a0.2.2.1) (a:=a1) (b:=a2) (by omega)
 have hm1:(cQ a0 a1 a2).length=_:=xB a0.1 (Aw.part a0.2.2.1 a1 a2)
 have hW:W (a2 - a1)=a2 - a1:=aJ (by omega) (by omega)
 have hmid:=zN (i:=a1) (k:=a2) (by omega)
 have h4:=nI hp
 try have h2:2<=a2 - a1:=(fun _=>by omega) h0
 try have h5:ADDR _ (dO (bP nr) a0 a1 a2).2 a1 _:=(fun _=>jX nr _ _ _ (aFb hp h2) (by rw [hmid];omega)) h0
 try have h6:ADDR _ (aR (bP nr) a0 a1 a2).2 _ a2:=(fun _=>jX nr _ _ _ (aG0 hp (nI hp).1 h2 h5) (by rw [hmid];omega)) h0
 try have g5:=(fun _=>h5.lo) h0
 try have g6:=(fun _=>h5.hi) h0
 try have g3:=(fun _=>h5.ol) h0
 try have f5:=(fun _=>h6.lo) h0
 try have f6:=(fun _=>h6.hi) h0
 try have f3:=(fun _=>h6.ol) h0
 try (have _:=h0;rw [hmid] at g6 f6;simp only [List.length_append,List.length_cons,List.length_nil] at g3 g5 g6 f3 f5 f6)
 let t0:List (St Tryz.prog):=[.sub a1 a2 (a0.2.2.1.length),.c [1,2] (show Con Tryz.prog 89 [(.s 0 0 a0.1.length 10),(.s 1 (0+toNat a1*1) (toNat a2 - toNat a1) 1)] [(.live false true (flat eF a0.1)),(.live false true (flat c3 a0.2.2.1))] (.s 2 0 (cQ a0 a1 a2).length 10) [(.live true true (flat eF (cQ a0 a1 a2)))] from Con.part (l:=a0.2.2.1) (a:=a1) (b:=a2) (c:=c3) (pre:=[(.s 0 0 a0.1.length 10)]) (post:=[]) (bs1:=[(.live false true (flat eF a0.1))]) (bs2:=[]) 1 aM (by omega) rfl (by rfl) (aOz a0.1 (Aw.part (a0.2.2.1) a1 a2) (by omega) (by(try simp only [Lt]);omega) (hp.inr.part a1 a2) (by omega))),.c [4] (aUg (cQ a0 a1 a2) (by(try simp only [Lt]);omega) (by omega)),.c [4] (aUh (cQ a0 a1 a2) (cU (cQ a0 a1 a2)) (by(try simp only [Lt]);omega) (by omega)),.p (show((flat bT a0.2.2.2).length=a0.2.2.2.length*8/\a0.2.2.2.length+1<=2 ^ 40/\(a0.2.2.2.length+1)*64<=2 ^ 47) from gK bJ (by omega) (by omega))]
 cases h0:(decide (((W (a2 - a1)):Int) > a0.2.1)) with
 | true =>
  have q0:=cA h0
  have h4:=nI hp
  try have h2:2<=a2 - a1:=(fun _=>by omega) h0
  try have h5:ADDR _ (dO (bP nr) a0 a1 a2).2 a1 _:=(fun _=>jX nr _ _ _ (aFb hp h2) (by rw [hmid];omega)) h0
  try have h6:ADDR _ (aR (bP nr) a0 a1 a2).2 _ a2:=(fun _=>jX nr _ _ _ (aG0 hp (nI hp).1 h2 h5) (by rw [hmid];omega)) h0
  try have g5:=(fun _=>h5.lo) h0
  try have g6:=(fun _=>h5.hi) h0
  try have g3:=(fun _=>h5.ol) h0
  try have f5:=(fun _=>h6.lo) h0
  try have f6:=(fun _=>h6.hi) h0
  try have f3:=(fun _=>h6.ol) h0
  try (have _:=h0;rw [hmid] at g6 f6;simp only [List.length_append,List.length_cons,List.length_nil] at g3 g5 g6 f3 f5 f6)
  have e:=Eq.refl (bP (nr+1) a0 a1 a2);conv at e=>rhs;simp only [bP,h0,aS]
  rw [e]
  try dsimp only [aT]
  try dsimp only
  rw [show flat bT (((aR (bP nr) a0 a1 a2).2.2.2.2.set (toNat (a0.2.2.2.length:Int)) (((aR (bP nr) a0 a1 a2).2.2.2.2.getD (toNat (a0.2.2.2.length:Int)) default).1,((aR (bP nr) a0 a1 a2).2.2.2.2.getD (toNat (a0.2.2.2.length:Int)) default).2.1,(dO (bP nr) a0 a1 a2).1,((aR (bP nr) a0 a1 a2).2.2.2.2.getD (toNat (a0.2.2.2.length:Int)) default).2.2.2.1,((aR (bP nr) a0 a1 a2).2.2.2.2.getD (toNat (a0.2.2.2.length:Int)) default).2.2.2.2.1,((aR (bP nr) a0 a1 a2).2.2.2.2.getD (toNat (a0.2.2.2.length:Int)) default).2.2.2.2.2)).set (toNat (a0.2.2.2.length:Int)) ((((aR (bP nr) a0 a1 a2).2.2.2.2.set (toNat (a0.2.2.2.length:Int)) (((aR (bP nr) a0 a1 a2).2.2.2.2.getD (toNat (a0.2.2.2.length:Int)) default).1,((aR (bP nr) a0 a1 a2).2.2.2.2.getD (toNat (a0.2.2.2.length:Int)) default).2.1,(dO (bP nr) a0 a1 a2).1,((aR (bP nr) a0 a1 a2).2.2.2.2.getD (toNat (a0.2.2.2.length:Int)) default).2.2.2.1,((aR (bP nr) a0 a1 a2).2.2.2.2.getD (toNat (a0.2.2.2.length:Int)) default).2.2.2.2.1,((aR (bP nr) a0 a1 a2).2.2.2.2.getD (toNat (a0.2.2.2.length:Int)) default).2.2.2.2.2)).getD (toNat (a0.2.2.2.length:Int)) default).1,(((aR (bP nr) a0 a1 a2).2.2.2.2.set (toNat (a0.2.2.2.length:Int)) (((aR (bP nr) a0 a1 a2).2.2.2.2.getD (toNat (a0.2.2.2.length:Int)) default).1,((aR (bP nr) a0 a1 a2).2.2.2.2.getD (toNat (a0.2.2.2.length:Int)) default).2.1,(dO (bP nr) a0 a1 a2).1,((aR (bP nr) a0 a1 a2).2.2.2.2.getD (toNat (a0.2.2.2.length:Int)) default).2.2.2.1,((aR (bP nr) a0 a1 a2).2.2.2.2.getD (toNat (a0.2.2.2.length:Int)) default).2.2.2.2.1,((aR (bP nr) a0 a1 a2).2.2.2.2.getD (toNat (a0.2.2.2.length:Int)) default).2.2.2.2.2)).getD (toNat (a0.2.2.2.length:Int)) default).2.1,(((aR (bP nr) a0 a1 a2).2.2.2.2.set (toNat (a0.2.2.2.length:Int)) (((aR (bP nr) a0 a1 a2).2.2.2.2.getD (toNat (a0.2.2.2.length:Int)) default).1,((aR (bP nr) a0 a1 a2).2.2.2.2.getD (toNat (a0.2.2.2.length:Int)) default).2.1,(dO (bP nr) a0 a1 a2).1,((aR (bP nr) a0 a1 a2).2.2.2.2.getD (toNat (a0.2.2.2.length:Int)) default).2.2.2.1,((aR (bP nr) a0 a1 a2).2.2.2.2.getD (toNat (a0.2.2.2.length:Int)) default).2.2.2.2.1,((aR (bP nr) a0 a1 a2).2.2.2.2.getD (toNat (a0.2.2.2.length:Int)) default).2.2.2.2.2)).getD (toNat (a0.2.2.2.length:Int)) default).2.2.1,(aR (bP nr) a0 a1 a2).1,(((aR (bP nr) a0 a1 a2).2.2.2.2.set (toNat (a0.2.2.2.length:Int)) (((aR (bP nr) a0 a1 a2).2.2.2.2.getD (toNat (a0.2.2.2.length:Int)) default).1,((aR (bP nr) a0 a1 a2).2.2.2.2.getD (toNat (a0.2.2.2.length:Int)) default).2.1,(dO (bP nr) a0 a1 a2).1,((aR (bP nr) a0 a1 a2).2.2.2.2.getD (toNat (a0.2.2.2.length:Int)) default).2.2.2.1,((aR (bP nr) a0 a1 a2).2.2.2.2.getD (toNat (a0.2.2.2.length:Int)) default).2.2.2.2.1,((aR (bP nr) a0 a1 a2).2.2.2.2.getD (toNat (a0.2.2.2.length:Int)) default).2.2.2.2.2)).getD (toNat (a0.2.2.2.length:Int)) default).2.2.2.2.1,(((aR (bP nr) a0 a1 a2).2.2.2.2.set (toNat (a0.2.2.2.length:Int)) (((aR (bP nr) a0 a1 a2).2.2.2.2.getD (toNat (a0.2.2.2.length:Int)) default).1,((aR (bP nr) a0 a1 a2).2.2.2.2.getD (toNat (a0.2.2.2.length:Int)) default).2.1,(dO (bP nr) a0 a1 a2).1,((aR (bP nr) a0 a1 a2).2.2.2.2.getD (toNat (a0.2.2.2.length:Int)) default).2.2.2.1,((aR (bP nr) a0 a1 a2).2.2.2.2.getD (toNat (a0.2.2.2.length:Int)) default).2.2.2.2.1,((aR (bP nr) a0 a1 a2).2.2.2.2.getD (toNat (a0.2.2.2.length:Int)) default).2.2.2.2.2)).getD (toNat (a0.2.2.2.length:Int)) default).2.2.2.2.2))=(splice (splice (flat bT (aR (bP nr) a0 a1 a2).2.2.2.2) (0+toNat (a0.2.2.2.length:Int)*8+2) [(iv (dO (bP nr) a0 a1 a2).1)]) (0+toNat (a0.2.2.2.length:Int)*8+3) [(iv (aR (bP nr) a0 a1 a2).1)]) from Eq.symm (by rw [show(splice (flat bT (aR (bP nr) a0 a1 a2).2.2.2.2) (0+toNat (a0.2.2.2.length:Int)*8+2) [(iv (dO (bP nr) a0 a1 a2).1)])=flat bT ((aR (bP nr) a0 a1 a2).2.2.2.2.set (toNat (a0.2.2.2.length:Int)) (((aR (bP nr) a0 a1 a2).2.2.2.2.getD (toNat (a0.2.2.2.length:Int)) default).1,((aR (bP nr) a0 a1 a2).2.2.2.2.getD (toNat (a0.2.2.2.length:Int)) default).2.1,(dO (bP nr) a0 a1 a2).1,((aR (bP nr) a0 a1 a2).2.2.2.2.getD (toNat (a0.2.2.2.length:Int)) default).2.2.2.1,((aR (bP nr) a0 a1 a2).2.2.2.2.getD (toNat (a0.2.2.2.length:Int)) default).2.2.2.2.1,((aR (bP nr) a0 a1 a2).2.2.2.2.getD (toNat (a0.2.2.2.length:Int)) default).2.2.2.2.2)) from(aW bJ (by first | omega | (simp only [Lt];omega)) (o:=2) (d:=default) (Nb rfl) rfl)];exact aW bJ (by first | omega | (simp only [Lt];omega)) (o:=3) (d:=default) (Nb rfl) rfl)]
  try rw [show List.length (α:=Int×Int×Int×Int×Zt×Int) (((aR (bP nr) a0 a1 a2).2.2.2.2.set (toNat (a0.2.2.2.length:Int)) (((aR (bP nr) a0 a1 a2).2.2.2.2.getD (toNat (a0.2.2.2.length:Int)) default).1,((aR (bP nr) a0 a1 a2).2.2.2.2.getD (toNat (a0.2.2.2.length:Int)) default).2.1,(dO (bP nr) a0 a1 a2).1,((aR (bP nr) a0 a1 a2).2.2.2.2.getD (toNat (a0.2.2.2.length:Int)) default).2.2.2.1,((aR (bP nr) a0 a1 a2).2.2.2.2.getD (toNat (a0.2.2.2.length:Int)) default).2.2.2.2.1,((aR (bP nr) a0 a1 a2).2.2.2.2.getD (toNat (a0.2.2.2.length:Int)) default).2.2.2.2.2)).set (toNat (a0.2.2.2.length:Int)) ((((aR (bP nr) a0 a1 a2).2.2.2.2.set (toNat (a0.2.2.2.length:Int)) (((aR (bP nr) a0 a1 a2).2.2.2.2.getD (toNat (a0.2.2.2.length:Int)) default).1,((aR (bP nr) a0 a1 a2).2.2.2.2.getD (toNat (a0.2.2.2.length:Int)) default).2.1,(dO (bP nr) a0 a1 a2).1,((aR (bP nr) a0 a1 a2).2.2.2.2.getD (toNat (a0.2.2.2.length:Int)) default).2.2.2.1,((aR (bP nr) a0 a1 a2).2.2.2.2.getD (toNat (a0.2.2.2.length:Int)) default).2.2.2.2.1,((aR (bP nr) a0 a1 a2).2.2.2.2.getD (toNat (a0.2.2.2.length:Int)) default).2.2.2.2.2)).getD (toNat (a0.2.2.2.length:Int)) default).1,(((aR (bP nr) a0 a1 a2).2.2.2.2.set (toNat (a0.2.2.2.length:Int)) (((aR (bP nr) a0 a1 a2).2.2.2.2.getD (toNat (a0.2.2.2.length:Int)) default).1,((aR (bP nr) a0 a1 a2).2.2.2.2.getD (toNat (a0.2.2.2.length:Int)) default).2.1,(dO (bP nr) a0 a1 a2).1,((aR (bP nr) a0 a1 a2).2.2.2.2.getD (toNat (a0.2.2.2.length:Int)) default).2.2.2.1,((aR (bP nr) a0 a1 a2).2.2.2.2.getD (toNat (a0.2.2.2.length:Int)) default).2.2.2.2.1,((aR (bP nr) a0 a1 a2).2.2.2.2.getD (toNat (a0.2.2.2.length:Int)) default).2.2.2.2.2)).getD (toNat (a0.2.2.2.length:Int)) default).2.1,(((aR (bP nr) a0 a1 a2).2.2.2.2.set (toNat (a0.2.2.2.length:Int)) (((aR (bP nr) a0 a1 a2).2.2.2.2.getD (toNat (a0.2.2.2.length:Int)) default).1,((aR (bP nr) a0 a1 a2).2.2.2.2.getD (toNat (a0.2.2.2.length:Int)) default).2.1,(dO (bP nr) a0 a1 a2).1,((aR (bP nr) a0 a1 a2).2.2.2.2.getD (toNat (a0.2.2.2.length:Int)) default).2.2.2.1,((aR (bP nr) a0 a1 a2).2.2.2.2.getD (toNat (a0.2.2.2.length:Int)) default).2.2.2.2.1,((aR (bP nr) a0 a1 a2).2.2.2.2.getD (toNat (a0.2.2.2.length:Int)) default).2.2.2.2.2)).getD (toNat (a0.2.2.2.length:Int)) default).2.2.1,(aR (bP nr) a0 a1 a2).1,(((aR (bP nr) a0 a1 a2).2.2.2.2.set (toNat (a0.2.2.2.length:Int)) (((aR (bP nr) a0 a1 a2).2.2.2.2.getD (toNat (a0.2.2.2.length:Int)) default).1,((aR (bP nr) a0 a1 a2).2.2.2.2.getD (toNat (a0.2.2.2.length:Int)) default).2.1,(dO (bP nr) a0 a1 a2).1,((aR (bP nr) a0 a1 a2).2.2.2.2.getD (toNat (a0.2.2.2.length:Int)) default).2.2.2.1,((aR (bP nr) a0 a1 a2).2.2.2.2.getD (toNat (a0.2.2.2.length:Int)) default).2.2.2.2.1,((aR (bP nr) a0 a1 a2).2.2.2.2.getD (toNat (a0.2.2.2.length:Int)) default).2.2.2.2.2)).getD (toNat (a0.2.2.2.length:Int)) default).2.2.2.2.1,(((aR (bP nr) a0 a1 a2).2.2.2.2.set (toNat (a0.2.2.2.length:Int)) (((aR (bP nr) a0 a1 a2).2.2.2.2.getD (toNat (a0.2.2.2.length:Int)) default).1,((aR (bP nr) a0 a1 a2).2.2.2.2.getD (toNat (a0.2.2.2.length:Int)) default).2.1,(dO (bP nr) a0 a1 a2).1,((aR (bP nr) a0 a1 a2).2.2.2.2.getD (toNat (a0.2.2.2.length:Int)) default).2.2.2.1,((aR (bP nr) a0 a1 a2).2.2.2.2.getD (toNat (a0.2.2.2.length:Int)) default).2.2.2.2.1,((aR (bP nr) a0 a1 a2).2.2.2.2.getD (toNat (a0.2.2.2.length:Int)) default).2.2.2.2.2)).getD (toNat (a0.2.2.2.length:Int)) default).2.2.2.2.2))=(aR (bP nr) a0 a1 a2).2.2.2.2.length from by first | simp;done | omega]
  exact rtm (t0++[.d h0,.sub a1 a2 (a0.2.2.1.length),.sub a1 a2 (a0.2.2.1.length),.c [0,1,2,7] (show Con Tryz.prog 93 [(.p 0 0),(.s 2 (0+toNat a1*1) (toNat a2 - toNat a1) 1)] [(.live false false [(.s 1 0 a0.1.length 10),(iv a0.2.1),(.s 2 0 a0.2.2.1.length 1),(.s 3 0 (a0.2.2.2.length+1) 8)]),(.live false true (flat eF a0.1)),(.live false true (flat c3 a0.2.2.1)),(.live false true (flat bT a0.2.2.2++[(iv a1),(iv a2),(iv (-1)),(iv (-1)),(iv (cU (cQ a0 a1 a2)).1),(iv (cU (cQ a0 a1 a2)).2.1),(iv (cU (cQ a0 a1 a2)).2.2),(iv (fL a0 a1 a2).1)]))] (.a [(.p 0 0),(iv (aFa a0 a1 a2).2)]) [] from Con.alias (l:=a0.2.2.1) (a:=a1) (b:=a2) (c:=c3) (pre:=[(.p 0 0)]) (post:=[]) (bs:=[(.live false false [(.s 1 0 a0.1.length 10),(iv a0.2.1),(.s 2 0 a0.2.2.1.length 1),(.s 3 0 (a0.2.2.2.length+1) 8)]),(.live false true (flat eF a0.1)),(.live false true (flat c3 a0.2.2.1)),(.live false true (flat bT a0.2.2.2++[(iv a1),(iv a2),(iv (-1)),(iv (-1)),(iv (cU (cQ a0 a1 a2)).1),(iv (cU (cQ a0 a1 a2)).2.1),(iv (cU (cQ a0 a1 a2)).2.2),(iv (fL a0 a1 a2).1)]))]) 2 aM (by omega) rfl (by rfl) (by have q:=(aUi (a0.1,a0.2.1,(a0.2.2.1,(a0.2.2.2++[(a1,a2,(-1),(-1),(cU (cQ a0 a1 a2)),(fL a0 a1 a2).1)]))) (Aw.part (a0.2.2.1) a1 a2) (by(try simp only [Lt]);omega) (by(try simp only [Lt]);omega) (by(try simp only [Lt]);omega) (by(try simp only [Lt]);omega) (hp.inr.part a1 a2) (by omega));(try dsimp only at q);rw [show flat bT (a0.2.2.2++[(a1,a2,(-1),(-1),(cU (cQ a0 a1 a2)),(fL a0 a1 a2).1)])=(flat bT a0.2.2.2++[(iv a1),(iv a2),(iv (-1)),(iv (-1)),(iv (cU (cQ a0 a1 a2)).1),(iv (cU (cQ a0 a1 a2)).2.1),(iv (cU (cQ a0 a1 a2)).2.2),(iv (fL a0 a1 a2).1)]) from bL] at q;(try rw [show List.length (α:=Int×Int×Int×Int×Zt×Int) (a0.2.2.2++[(a1,a2,(-1),(-1),(cU (cQ a0 a1 a2)),(fL a0 a1 a2).1)])=(a0.2.2.2.length+1) from by first | simp;done | omega] at q);exact q)),.c [2,0,1,7] (by have q:=(aKl (a0.2.2.1) (toNat a1) (toNat a2 - toNat a1) ((a0.1,a0.2.1,(a0.2.2.1,(a0.2.2.2++[(a1,a2,(-1),(-1),(cU (cQ a0 a1 a2)),(fL a0 a1 a2).1)]))),(aFa a0 a1 a2).2) (by(try simp only [Lt]);omega) (by(try simp only [Lt]);omega) (by(try simp only [Lt]);omega) (by(try simp only [Lt]);omega) (by omega) hp.inr (by omega));(try dsimp only at q);rw [show flat bT (a0.2.2.2++[(a1,a2,(-1),(-1),(cU (cQ a0 a1 a2)),(fL a0 a1 a2).1)])=(flat bT a0.2.2.2++[(iv a1),(iv a2),(iv (-1)),(iv (-1)),(iv (cU (cQ a0 a1 a2)).1),(iv (cU (cQ a0 a1 a2)).2.1),(iv (cU (cQ a0 a1 a2)).2.2),(iv (fL a0 a1 a2).1)]) from bL] at q;(try rw [show List.length (α:=Int×Int×Int×Int×Zt×Int) (a0.2.2.2++[(a1,a2,(-1),(-1),(cU (cQ a0 a1 a2)),(fL a0 a1 a2).1)])=(a0.2.2.2.length+1) from by first | simp;done | omega] at q);exact q),.p (show(2:Int)≠0 from by decide),.c [0,1,2,7] (by have q:=(ihr (a0.1,a0.2.1,((wB a0 a1 a2),(a0.2.2.2++[(a1,a2,(-1),(-1),(cU (cQ a0 a1 a2)),(fL a0 a1 a2).1)]))) a1 (W (a1+(W (Int.tdiv (W ((W (a2 - a1))+1)) 2)))) (by(try simp only [Lt]);omega) (by(try simp only [Lt]);omega) (by(try simp only [Lt]);omega) (by first | exact aFb hp h2 | exact aG0 hp (nI hp).1 h2 h5) (by rw [hmid];omega));(try dsimp only at q);rw [show flat bT (a0.2.2.2++[(a1,a2,(-1),(-1),(cU (cQ a0 a1 a2)),(fL a0 a1 a2).1)])=(flat bT a0.2.2.2++[(iv a1),(iv a2),(iv (-1)),(iv (-1)),(iv (cU (cQ a0 a1 a2)).1),(iv (cU (cQ a0 a1 a2)).2.1),(iv (cU (cQ a0 a1 a2)).2.2),(iv (fL a0 a1 a2).1)]) from bL] at q;(try rw [show List.length (α:=Int) (wB a0 a1 a2)=a0.2.2.1.length from by first | simp;done | omega] at q);(try rw [show List.length (α:=Int×Int×Int×Int×Zt×Int) (a0.2.2.2++[(a1,a2,(-1),(-1),(cU (cQ a0 a1 a2)),(fL a0 a1 a2).1)])=(a0.2.2.2.length+1) from by first | simp;done | omega] at q);exact q),.c [0,1,2,8] (ihr (a0.1,(dO (bP nr) a0 a1 a2).2.2.1,((dO (bP nr) a0 a1 a2).2.2.2.1,(dO (bP nr) a0 a1 a2).2.2.2.2)) (W (a1+(W (Int.tdiv (W ((W (a2 - a1))+1)) 2)))) a2 (by(try simp only [Lt]);omega) (by(try simp only [Lt]);omega) (by(try simp only [Lt]);omega) (by first | exact aFb hp h2 | exact aG0 hp (nI hp).1 h2 h5) (by rw [hmid];omega)),.i (a0.2.2.2.length:Int) ((aR (bP nr) a0 a1 a2).2.2.2.2.length),.p (show((0+toNat (a0.2.2.2.length:Int)*8+2)+1<=(flat bT (aR (bP nr) a0 a1 a2).2.2.2.2).length) from(cS bJ (by first | omega | (simp only [Lt];omega)) (o:=2) (Nb rfl))),.i (a0.2.2.2.length:Int) ((aR (bP nr) a0 a1 a2).2.2.2.2.length),.p (show((0+toNat (a0.2.2.2.length:Int)*8+3)+1<=(splice (flat bT (aR (bP nr) a0 a1 a2).2.2.2.2) (0+toNat (a0.2.2.2.length:Int)*8+2) [(iv (dO (bP nr) a0 a1 a2).1)]).length) from(by rw [show(splice (flat bT (aR (bP nr) a0 a1 a2).2.2.2.2) (0+toNat (a0.2.2.2.length:Int)*8+2) [(iv (dO (bP nr) a0 a1 a2).1)])=flat bT ((aR (bP nr) a0 a1 a2).2.2.2.2.set (toNat (a0.2.2.2.length:Int)) (((aR (bP nr) a0 a1 a2).2.2.2.2.getD (toNat (a0.2.2.2.length:Int)) default).1,((aR (bP nr) a0 a1 a2).2.2.2.2.getD (toNat (a0.2.2.2.length:Int)) default).2.1,(dO (bP nr) a0 a1 a2).1,((aR (bP nr) a0 a1 a2).2.2.2.2.getD (toNat (a0.2.2.2.length:Int)) default).2.2.2.1,((aR (bP nr) a0 a1 a2).2.2.2.2.getD (toNat (a0.2.2.2.length:Int)) default).2.2.2.2.1,((aR (bP nr) a0 a1 a2).2.2.2.2.getD (toNat (a0.2.2.2.length:Int)) default).2.2.2.2.2)) from(aW bJ (by first | omega | (simp only [Lt];omega)) (o:=2) (d:=default) (Nb rfl) rfl)];exact cS bJ (by first | omega | (simp only [Lt];omega)) (o:=3) (Nb rfl)))]) [] [0,2,3] [9] hcx (by kernel_rfl)
 | false =>
  have q0:=cH h0
  have h4:=nI hp
  try have h2:2<=a2 - a1:=(fun _=>by omega) h0
  try have h5:ADDR _ (dO (bP nr) a0 a1 a2).2 a1 _:=(fun _=>jX nr _ _ _ (aFb hp h2) (by rw [hmid];omega)) h0
  try have h6:ADDR _ (aR (bP nr) a0 a1 a2).2 _ a2:=(fun _=>jX nr _ _ _ (aG0 hp (nI hp).1 h2 h5) (by rw [hmid];omega)) h0
  try have g5:=(fun _=>h5.lo) h0
  try have g6:=(fun _=>h5.hi) h0
  try have g3:=(fun _=>h5.ol) h0
  try have f5:=(fun _=>h6.lo) h0
  try have f6:=(fun _=>h6.hi) h0
  try have f3:=(fun _=>h6.ol) h0
  try (have _:=h0;rw [hmid] at g6 f6;simp only [List.length_append,List.length_cons,List.length_nil] at g3 g5 g6 f3 f5 f6)
  have e:=Eq.refl (bP (nr+1) a0 a1 a2);conv at e=>rhs;simp only [bP,h0,aS]
  rw [e]
  try dsimp only [aT]
  try dsimp only
  rw [show flat bT (a0.2.2.2++[(a1,a2,(-1),(-1),(cU (cQ a0 a1 a2)),(fL a0 a1 a2).1)])=(flat bT a0.2.2.2++[(iv a1),(iv a2),(iv (-1)),(iv (-1)),(iv (cU (cQ a0 a1 a2)).1),(iv (cU (cQ a0 a1 a2)).2.1),(iv (cU (cQ a0 a1 a2)).2.2),(iv (fL a0 a1 a2).1)]) from bL]
  try rw [show List.length (α:=Int×Int×Int×Int×Zt×Int) (a0.2.2.2++[(a1,a2,(-1),(-1),(cU (cQ a0 a1 a2)),(fL a0 a1 a2).1)])=(a0.2.2.2.length+1) from by first | simp;done | omega]
  exact rtm (t0++[.d h0]) [] [0,2,3] [7] hcx (by kernel_rfl)
theorem C60 (a0:bM×Int×List (Int)×bE)(a1:Int)(a2:Int)(l0_1:a0.1.length<=9223372036854775807)(l0_2_2_1:a0.2.2.1.length<=9223372036854775807)(l0_2_2_2:a0.2.2.2.length<=9223372036854775807)(hp:PADD a0 a1 a2):Con Tryz.prog 60 [(.p 0 0),(iv a1),(iv a2)] [(.live true false [(.s 1 0 a0.1.length 10),(iv a0.2.1),(.s 2 0 a0.2.2.1.length 1),(.s 3 0 a0.2.2.2.length 8)]),(.live false true (flat eF a0.1)),(.live true true (flat c3 a0.2.2.1)),(.live true true (flat bT a0.2.2.2))] (iv (F60 a0 a1 a2).1) [(.live true true (flat bT (F60 a0 a1 a2).2.2.2.2))] [(.live true false [(.s 1 0 a0.1.length 10),(iv (F60 a0 a1 a2).2.2.1),(.s 2 0 (F60 a0 a1 a2).2.2.2.1.length 1),(.s 4 0 (F60 a0 a1 a2).2.2.2.2.length 8)]),.un,(.live true true (flat c3 (F60 a0 a1 a2).2.2.2.1)),.dead]:=aV8 (toNat (a2 - a1)+1) a0 a1 a2 l0_1 l0_2_2_1 l0_2_2_2 hp (lss _)
end Go.Proofs.YtmihafgemmgepaaGreat
namespace Go.Proofs.YtmihafgemmgepaaGreat
open Go.Proofs Go.Aw Go.RowKit
set_option maxRecDepth 100000
theorem InR.add {n:Nat} {l:List Int} (h:InR n l) {x:Int} (hx:0<=x/\x < (n:Int)):InR n (l++[x]):=fun y hy=>by
 rcases List.mem_append.1 hy with hy | hy
 · exact h y hy
 · rw [List.mem_singleton.1 hy];exact hx
theorem InR.nil (n:Nat):InR n []:=fun y hy=>by simp at hy
noncomputable def aC4:Code:=(aI [1,1,0,1] [] (aL Tryz.f33) []).1
noncomputable def aC5:List K:=(aI [1,1,0,1] [] (aL Tryz.f33) []).2
def zO (a0:bM)(a1:Int)(v3c:List SV)(v3n:Nat)(v4c:List SV)(v4n:Nat)(v5:Int):LS:=⟨iM 40 [(0,(.s 0 0 a0.length 10)),(4,(.p 1 0)),(5,(.p 2 0)),(12,(iv (a0.length:Int))),(13,(iv v5))],[(.live false true (flat eF a0)),(.live true false [(.v (.slice none 0 0)),(.v (.slice none 0 0))]),(.live true false [(.s 0 0 a0.length 10),(iv a1),(.s 3 0 v3n 1),(.s 4 0 v4n 8)]),(.live true true v3c),(.live true true v4c)]⟩
def fI (a0:bM)(a1:Int):List (Int)×bE×Int->(List (Int)×bE×Int)⊕(List (Int)×bE)
 | (v3,v4,v5) =>
  (bif (decide ((v5:Int) < (a0.length:Int))) then
   (.inl ((v3++[v5]),v4,(v5+1)))
  else
   (bif (decide (((a0.length:Int):Int) > 0)) then
    (.inr ((F60 (a0,a1,(v3,v4)) 0 (a0.length:Int)).2.2.2.1,(F60 (a0,a1,(v3,v4)) 0 (a0.length:Int)).2.2.2.2))
   else
    (.inr (v3,v4))))
theorem aO4 (a0:bM)(a1:Int)(l0:a0.length<=9223372036854775807)(hl:a0.length<=12)(hf:1<=a1) {cx:Cx} (hcx:cx.base=1):∀(n:Nat) (v3:List (Int)) (v4:bE) (v5:Int),(0<=v5)/\(v3.length=toNat v5)/\(InR a0.length v3)/\(v4.length=0)/\(v5<=a0.length)/\(a0.length<=12)/\(1<=a1)->toNat ((a0.length:Int) - v5) < n->Aw.Good Tryz.prog none 9 (bodyPost Tryz.prog Tryz.f33 (RR cx (.a [(.s 1 0 (aC (fI a0 a1) n (v3,v4,v5)).1.length 1),(.s 2 0 (aC (fI a0 a1) n (v3,v4,v5)).2.length 8)]) [(.live true true (flat c3 (aC (fI a0 a1) n (v3,v4,v5)).1)),(.live true true (flat bT (aC (fI a0 a1) n (v3,v4,v5)).2))] [])) cx [] (.l aC4 n::aC5) (zO a0 a1 (flat c3 v3) v3.length (flat bT v4) v4.length v5):=by
 intro n
 induction n with
 | zero=>intro v3 v4 v5 hi hn;exact absurd hn (eP _)
 | succ n ih =>
   intro v3 v4 v5 hi hn
   refine aQ ?_
   cases h0:(decide ((v5:Int) < (a0.length:Int))) with
   | true =>
    have q0:=cA h0
    have e:=Eq.refl (fI a0 a1 (v3,v4,v5));conv at e=>rhs;simp only [fI,h0,aS]
    rw [aE e]
    refine ba [.d h0,.p (show((flat c3 v3).length=v3.length*1/\v3.length+1<=2 ^ 40/\(v3.length+1)*8<=2 ^ 47) from gK aM (by omega) (by omega))] [] [0,4,5,12,13] [1,2,6,4] hcx (m:=n) aC4 (aC5) (zO a0 a1 (flat c3 v3++[(iv v5)]) (v3.length+1) (flat bT v4) (v4.length) (W (v5+1))) (by kernel_rfl) ?_
    have z0:(W (v5+1))=(v5+1):=aJ (by omega) (by omega)
    have z1:(flat c3 v3++[(iv v5)])=(flat c3 (v3++[v5])):=(bL (c:=c3) (l:=v3) (m:=[v5])).symm
    have z2:(v3.length+1)=(v3++[v5]).length:=gU v3 [v5] rfl
    rw [z0,z1,z2]
    exact ih (v3++[v5]) v4 (v5+1) (by refine⟨?_,?_,?_,?_,?_,?_,?_⟩<;>first | omega | assumption | exact InR.nil _ | exact hi.2.2.1 | exact hi.2.2.1.add (by omega) | (simp only [Ls];omega) | simp) (by(try simp only [Ls]);omega)
   | false =>
    have q0:=cH h0
    let t1:List (St Tryz.prog):=[.d h0]
    cases h1:(decide (((a0.length:Int):Int) > 0)) with
    | true =>
     have q1:=cA h1
     have e:=Eq.refl (fI a0 a1 (v3,v4,v5));conv at e=>rhs;simp only [fI,h0,h1,aS]
     rw [aN,e]
     exact rt (t1++[.d h1,.c [2,0,3,4] (C60 (a0,a1,(v3,v4)) 0 (a0.length:Int) (by(try simp only [Lt]);omega) (by(try simp only [Lt]);omega) (by(try simp only [Lt]);omega) (by refine⟨?_,?_,?_,?_,?_⟩<;>first | exact hi.2.2.1 | (simp only [];omega) | omega))]) [] [3,5] hcx (by kernel_rfl)
    | false =>
     have q1:=cH h1
     have e:=Eq.refl (fI a0 a1 (v3,v4,v5));conv at e=>rhs;simp only [fI,h0,h1,aS]
     rw [aN,e]
     exact rt (t1++[.d h1]) [] [3,4] hcx (by kernel_rfl)
def jI (a0:bM)(a1:Int):List (Int)×bE :=
 (aC (fI a0 a1) (toNat ((a0.length:Int) - 0)+1) (([]:List (Int)),([]:bE),0))
theorem aP8 (a0:bM)(a1:Int)(l0:a0.length<=9223372036854775807)(hl:a0.length<=12)(hf:1<=a1):Con Tryz.prog 33 [(.s 0 0 a0.length 10),(iv a1)] [(.live false true (flat eF a0))] (.a [(.s 1 0 (jI a0 a1).1.length 1),(.s 2 0 (jI a0 a1).2.length 8)]) [(.live true true (flat c3 (jI a0 a1).1)),(.live true true (flat bT (jI a0 a1).2))]:=by
 refine aO Tryz.func33 (by kernel_rfl) fun cx hcx=>?_
 have e:=Eq.refl (jI a0 a1);conv at e=>rhs;simp only [jI]
 rw [e]
 refine en [] [.cell 2 2 1,.cell 2 3 8] [0,4,5,12,13] [1,2,3,4] hcx aC4 (aC5) (zO a0 a1 (flat c3 ([]:List (Int))) 0 (flat bT ([]:bE)) 0 0) (toNat ((a0.length:Int) - 0)+1) (by kernel_rfl) ?_
 exact aO4 a0 a1 l0 hl hf hcx (toNat ((a0.length:Int) - 0)+1) ([]:List (Int)) ([]:bE) 0 (by refine⟨?_,?_,?_,?_,?_,?_,?_⟩<;>first | omega | assumption | exact InR.nil _ | exact hi.2.2.1 | exact hi.2.2.1.add (by omega) | (simp only [Ls];omega) | simp) (by(try simp only [Ls]);omega)
noncomputable def aI4:Code:=(aI [1,1,0,1] [] (aL Tryz.f17) []).1
noncomputable def aI5:List K:=(aI [1,1,0,1] [] (aL Tryz.f17) []).2
def aC6 (a0:List (Int)×bE)(v1 v2:Int):LS:=⟨iM 20 [(3,(iv v1)),(7,(.s 1 0 a0.2.length 8)),(8,(iv (a0.2.length:Int))),(9,(iv v2))],[(.live false true (flat c3 a0.1)),(.live false true (flat bT a0.2))]⟩
def wC (a0:List (Int)×bE):Int×Int->(Int×Int)⊕(Int)
 | (v1,v2) =>
  (bif (decide ((v2:Int) < (a0.2.length:Int))) then
   (bif (decide (((a0.2.getD (toNat v2) default).2.2.1:Int) < 0)) then
    (.inl ((W (v1+1)),(v2+1)))
   else
    (.inl (v1,(v2+1))))
  else
   (.inr v1))
theorem aUj (a0:List (Int)×bE)(l0_1:a0.1.length<=9223372036854775807)(l0_2:a0.2.length<=9223372036854775807)(hl:a0.2.length<=1048576) {cx:Cx} (hcx:cx.base=2):∀(n:Nat) (v1 v2:Int),0<=v2->toNat ((a0.2.length:Int) - v2) < n->Aw.Good Tryz.prog none 9 (bodyPost Tryz.prog Tryz.f17 (RR cx (iv (aC (wC a0) n (v1,v2))) [] [])) cx [] (.l aI4 n::aI5) (aC6 a0 v1 v2):=by
 intro n
 induction n with
 | zero=>intro v1 v2 hi hn;exact absurd hn (eP _)
 | succ n ih =>
   intro v1 v2 hi hn
   refine aQ ?_
   cases h0:(decide ((v2:Int) < (a0.2.length:Int))) with
   | true =>
    have q0:=cA h0
    let t1:List (St Tryz.prog):=[.d h0,.i v2 (a0.2.length),.L bJ a0.2 v2 0 8]
    cases h1:(decide (((a0.2.getD (toNat v2) default).2.2.1:Int) < 0)) with
    | true =>
     have q1:=cA h1
     have e:=Eq.refl (wC a0 (v1,v2));conv at e=>rhs;simp only [wC,h0,h1,aS]
     rw [aE e]
     refine ba (t1++[.d h1]) [] [3,7,8,9] [] hcx (m:=n) aI4 (aI5) (aC6 a0 (W (v1+1)) (W (v2+1))) (by kernel_rfl) ?_
     have z0:(W (v2+1))=(v2+1):=aJ (by omega) (by omega)
     rw [z0]
     exact ih (W (v1+1)) (v2+1) (by(try simp only [Ls]);omega) (by(try simp only [Ls]);omega)
    | false =>
     have q1:=cH h1
     have e:=Eq.refl (wC a0 (v1,v2));conv at e=>rhs;simp only [wC,h0,h1,aS]
     rw [aE e]
     refine ba (t1++[.d h1]) [] [3,7,8,9] [] hcx (m:=n) aI4 (aI5) (aC6 a0 v1 (W (v2+1))) (by kernel_rfl) ?_
     have z0:(W (v2+1))=(v2+1):=aJ (by omega) (by omega)
     rw [z0]
     exact ih v1 (v2+1) (by(try simp only [Ls]);omega) (by(try simp only [Ls]);omega)
   | false =>
    have q0:=cH h0
    have e:=Eq.refl (wC a0 (v1,v2));conv at e=>rhs;simp only [wC,h0,aS]
    rw [aN,e]
    exact rt [.d h0] [] [] hcx (by kernel_rfl)
def F17 (a0:List (Int)×bE):Int :=
 (aC (wC a0) (toNat ((a0.2.length:Int) - 0)+1) (0,0))
theorem C17 (a0:List (Int)×bE)(l0_1:a0.1.length<=9223372036854775807)(l0_2:a0.2.length<=9223372036854775807)(hl:a0.2.length<=1048576):Con Tryz.prog 17 [(.a [(.s 0 0 a0.1.length 1),(.s 1 0 a0.2.length 8)])] [(.live false true (flat c3 a0.1)),(.live false true (flat bT a0.2))] (iv (F17 a0)) []:=by
 refine aO Tryz.func17 (by kernel_rfl) fun cx hcx=>?_
 have e:=Eq.refl (F17 a0);conv at e=>rhs;simp only [F17]
 rw [e]
 refine en [] [] [3,7,8,9] [] hcx aI4 (aI5) (aC6 a0 0 0) (toNat ((a0.2.length:Int) - 0)+1) (by kernel_rfl) ?_
 exact aUj a0 l0_1 l0_2 hl hcx (toNat ((a0.2.length:Int) - 0)+1) 0 0 (by(try simp only [Ls]);omega) (by(try simp only [Ls]);omega)
noncomputable def aM0:Code:=(aI [1,1,0,1] [] (aL Tryz.f15) []).1
noncomputable def aM1:List K:=(aI [1,1,0,1] [] (aL Tryz.f15) []).2
def aG1 (v2c:List SV)(v2n:Nat)(v3:Int):LS:=⟨iM 23 [(1,(.s 0 0 v2n 10)),(2,(iv v3))],[(.live true true v2c)]⟩
def zP:bM×Int->(bM×Int)⊕bM
 | (v2,v3) =>
  (bif (decide ((v3:Int) < 4)) then
   (.inl ((v2++[((((W (9*v3)),0,0),((W ((W (9*v3))+1)),0,0),((W (9*v3)),1,0)),1)]),(v3+1)))
  else
   (.inr v2))
theorem aUk {cx:Cx} (hcx:cx.base=0):∀(n:Nat) (v2:bM) (v3:Int),(0<=v3)/\(v2.length=toNat v3)/\(v3<=4)->toNat (4 - v3) < n->Aw.Good Tryz.prog none 9 (bodyPost Tryz.prog Tryz.f15 (RR cx (.s 0 0 (aC (zP) n (v2,v3)).length 10) [(.live true true (flat eF (aC (zP) n (v2,v3))))] [])) cx [] (.l aM0 n::aM1) (aG1 (flat eF v2) v2.length v3):=by
 intro n
 induction n with
 | zero=>intro v2 v3 hi hn;exact absurd hn (eP _)
 | succ n ih =>
   intro v2 v3 hi hn
   refine aQ ?_
   cases h0:(decide ((v3:Int) < 4)) with
   | true =>
    have q0:=cA h0
    have e:=Eq.refl (zP (v2,v3));conv at e=>rhs;simp only [zP,h0,aS]
    rw [aE e]
    refine ba [.d h0,.p (show((flat eF v2).length=v2.length*10/\v2.length+1<=2 ^ 40/\(v2.length+1)*80<=2 ^ 47) from gK cJ (by omega) (by omega))] [] [1,2] [2] hcx (m:=n) aM0 (aM1) (aG1 (flat eF v2++[(iv (W (9*v3))),(iv 0),(iv 0),(iv (W ((W (9*v3))+1))),(iv 0),(iv 0),(iv (W (9*v3))),(iv 1),(iv 0),(iv 1)]) (v2.length+1) (W (v3+1))) (by kernel_rfl) ?_
    have z0:(W (v3+1))=(v3+1):=aJ (by omega) (by omega)
    have z1:(flat eF v2++[(iv (W (9*v3))),(iv 0),(iv 0),(iv (W ((W (9*v3))+1))),(iv 0),(iv 0),(iv (W (9*v3))),(iv 1),(iv 0),(iv 1)])=(flat eF (v2++[((((W (9*v3)),0,0),((W ((W (9*v3))+1)),0,0),((W (9*v3)),1,0)),1)])):=(bL (c:=eF) (l:=v2) (m:=[((((W (9*v3)),0,0),((W ((W (9*v3))+1)),0,0),((W (9*v3)),1,0)),1)])).symm
    have z2:(v2.length+1)=(v2++[((((W (9*v3)),0,0),((W ((W (9*v3))+1)),0,0),((W (9*v3)),1,0)),1)]).length:=gU v2 [((((W (9*v3)),0,0),((W ((W (9*v3))+1)),0,0),((W (9*v3)),1,0)),1)] rfl
    rw [z0,z1,z2]
    exact ih (v2++[((((W (9*v3)),0,0),((W ((W (9*v3))+1)),0,0),((W (9*v3)),1,0)),1)]) (v3+1) (by refine⟨?_,?_,?_⟩<;>(try simp only [Ls])<;>first | omega | assumption | simp) (by(try simp only [Ls]);omega)
   | false =>
    have q0:=cH h0
    have e:=Eq.refl (zP (v2,v3));conv at e=>rhs;simp only [zP,h0,aS]
    rw [aN,e]
    exact rt [.d h0] [] [0] hcx (by kernel_rfl)
def lX:bM :=
 (aC (zP) (toNat (4 - 0)+1) (([]:bM),0))
theorem C15:Con Tryz.prog 15 [] [] (.s 0 0 lX.length 10) [(.live true true (flat eF lX))]:=by
 refine aO Tryz.func15 (by kernel_rfl) fun cx hcx=>?_
 have e:=Eq.refl lX;conv at e=>rhs;simp only [lX]
 rw [e]
 refine en [] [.slot 1 10] [1,2] [0] hcx aM0 (aM1) (aG1 (flat eF ([]:bM)) 0 0) (toNat (4 - 0)+1) (by kernel_rfl) ?_
 exact aUk hcx (toNat (4 - 0)+1) ([]:bM) 0 (by refine⟨?_,?_,?_⟩<;>(try simp only [Ls])<;>first | omega | assumption | simp) (by(try simp only [Ls]);omega)
def rN (a0:Int)(a1:Int)(a2:Int):Bool :=
 (bif (decide ((a0:Int)≥a1)) then
  (decide ((a0:Int)<=a2))
 else
  false)
theorem C21 (a0:Int)(a1:Int)(a2:Int):Con Tryz.prog 21 [(iv a0),(iv a1),(iv a2)] [] (.v (.bool (rN a0 a1 a2))) []:=by
 refine aO Tryz.func21 (by kernel_rfl) fun cx hcx=>?_
 cases h0:(decide ((a0:Int)≥a1)) with
 | true =>
  have q0:=cA h0
  have e:=Eq.refl (rN a0 a1 a2);conv at e=>rhs;simp only [rN,h0,aS]
  rw [e]
  exact rt [.d h0] [] [] hcx (by kernel_rfl)
 | false =>
  have q0:=cH h0
  have e:=Eq.refl (rN a0 a1 a2);conv at e=>rhs;simp only [rN,h0,aS]
  rw [e]
  exact rt [.d h0] [] [] hcx (by kernel_rfl)
theorem aUl {n m k:Int} (h:(!(rN n k m))=false):k<=n:=by
 simp only [rN] at h
 by_cases h1:n≥k
 · exact h1
 · rw [dQ h1] at h;simp at h
abbrev dR (l:List (PN×Int)):Prop:=Nonempty (PLift (l.length<=12\/96 < l.length))
theorem aG2 {l:List (PN×Int)} [h:dR l] (h1:l.length<=96):l.length<=12:=by
 obtain⟨⟨h⟩⟩:=h
 omega
def dP (a0:bM)(a1:Int):(List (Int)×bE)×Int :=
 (bif (((gH a0):Int) != 0) then
  ((([]:List (Int)),([]:bE)),(gH a0))
 else
  (bif (!(rN a1 1 16)) then
   ((([]:List (Int)),([]:bE)),1)
  else
   (((jI a0 a1).1,(jI a0 a1).2),0)))
theorem aUm (a0:bM)(a1:Int)(l0:a0.length<=9223372036854775807) [h5:dR a0]:Con Tryz.prog 14 [(.s 0 0 a0.length 10),(iv a1)] [(.live false true (flat eF a0))] (.t [(.a [(.s 1 0 (dP a0 a1).1.1.length 1),(.s 2 0 (dP a0 a1).1.2.length 8)]),(iv (dP a0 a1).2)]) [(.live true true (flat c3 (dP a0 a1).1.1)),(.live true true (flat bT (dP a0 a1).1.2))]:=by
 refine aO Tryz.func14 (by kernel_rfl) fun cx hcx=>?_
 let t0:List (St Tryz.prog):=[.c [0] (aL0 a0 (by omega))]
 cases h0:(((gH a0):Int) != 0) with
 | true =>
  have q0:=bne_iff_ne.1 h0
  have e:=Eq.refl (dP a0 a1);conv at e=>rhs;simp only [dP,h0,aS]
  rw [e]
  exact rt (t0++[.d h0]) [.cell 1 0 1,.cell 1 1 8] [2,3] hcx (by kernel_rfl)
 | false =>
  have q0:=bne_eq_false_iff_eq.1 h0
  let t1:List (St Tryz.prog):=(t0++[.d h0,.c [] (C21 a1 1 16)])
  cases h1:(!(rN a1 1 16)) with
  | true =>
   have e:=Eq.refl (dP a0 a1);conv at e=>rhs;simp only [dP,h0,h1,aS]
   rw [e]
   exact rt (t1++[.d h1]) [.cell 1 0 1,.cell 1 1 8] [2,3] hcx (by kernel_rfl)
  | false =>
   have e:=Eq.refl (dP a0 a1);conv at e=>rhs;simp only [dP,h0,h1,aS]
   rw [e]
   exact rt (t1++[.d h1,.c [0] (aP8 a0 a1 (by omega) (aG2 (sU (l:=a0) (bne_eq_false_iff_eq.1 h0))) (aUl h1))]) [] [2,3] hcx (by kernel_rfl)
noncomputable def oB:Code:=(aI [1,1,0,1] [] (aL Tryz.f16) []).1
noncomputable def oC:List K:=(aI [1,1,0,1] [] (aL Tryz.f16) []).2
def kV (a0:List (Int)×bE)(v1c:List SV)(v1n:Nat)(v2:Int):LS:=⟨iM 69 [(1,(.p 2 0)),(3,(.s 3 0 v1n 1)),(4,(iv v2))],[(.live false true (flat c3 a0.1)),(.live false true (flat bT a0.2)),(.live true false [(.s 0 0 a0.1.length 1),(.s 1 0 a0.2.length 8)]),(.live true true v1c)]⟩
def fS (a0:List (Int)×bE):List (Int)×Int->(List (Int)×Int)⊕(Int)
 | (v1,v2) =>
  (bif (decide ((v2:Int)≥0)) then
   (bif (decide (((a0.2.getD (toNat v2) default).2.2.1:Int) > v2)) then
    (bif (decide (((a0.2.getD (toNat v2) default).2.2.1:Int) < (v1.length:Int))) then
     (bif (decide (((a0.2.getD (toNat v2) default).2.2.2.1:Int) > v2)) then
      (bif (decide (((a0.2.getD (toNat v2) default).2.2.2.1:Int) < (v1.length:Int))) then
       (.inl ((((v1.set (toNat v2) 1).set (toNat v2) (bY ((v1.set (toNat v2) 1).getD (toNat v2) default) (W (((v1.set (toNat v2) 1).getD (toNat (a0.2.getD (toNat v2) default).2.2.1) default)+1)))).set (toNat v2) (bY (((v1.set (toNat v2) 1).set (toNat v2) (bY ((v1.set (toNat v2) 1).getD (toNat v2) default) (W (((v1.set (toNat v2) 1).getD (toNat (a0.2.getD (toNat v2) default).2.2.1) default)+1)))).getD (toNat v2) default) (W ((((v1.set (toNat v2) 1).set (toNat v2) (bY ((v1.set (toNat v2) 1).getD (toNat v2) default) (W (((v1.set (toNat v2) 1).getD (toNat (a0.2.getD (toNat v2) default).2.2.1) default)+1)))).getD (toNat (a0.2.getD (toNat v2) default).2.2.2.1) default)+1)))),(W (v2 - 1))))
      else
       (.inl (((v1.set (toNat v2) 1).set (toNat v2) (bY ((v1.set (toNat v2) 1).getD (toNat v2) default) (W (((v1.set (toNat v2) 1).getD (toNat (a0.2.getD (toNat v2) default).2.2.1) default)+1)))),(W (v2 - 1)))))
     else
      (.inl (((v1.set (toNat v2) 1).set (toNat v2) (bY ((v1.set (toNat v2) 1).getD (toNat v2) default) (W (((v1.set (toNat v2) 1).getD (toNat (a0.2.getD (toNat v2) default).2.2.1) default)+1)))),(W (v2 - 1)))))
    else
     (bif (decide (((a0.2.getD (toNat v2) default).2.2.2.1:Int) > v2)) then
      (bif (decide (((a0.2.getD (toNat v2) default).2.2.2.1:Int) < (v1.length:Int))) then
       (.inl (((v1.set (toNat v2) 1).set (toNat v2) (bY ((v1.set (toNat v2) 1).getD (toNat v2) default) (W (((v1.set (toNat v2) 1).getD (toNat (a0.2.getD (toNat v2) default).2.2.2.1) default)+1)))),(W (v2 - 1))))
      else
       (.inl ((v1.set (toNat v2) 1),(W (v2 - 1)))))
     else
      (.inl ((v1.set (toNat v2) 1),(W (v2 - 1))))))
   else
    (bif (decide (((a0.2.getD (toNat v2) default).2.2.2.1:Int) > v2)) then
     (bif (decide (((a0.2.getD (toNat v2) default).2.2.2.1:Int) < (v1.length:Int))) then
      (.inl (((v1.set (toNat v2) 1).set (toNat v2) (bY ((v1.set (toNat v2) 1).getD (toNat v2) default) (W (((v1.set (toNat v2) 1).getD (toNat (a0.2.getD (toNat v2) default).2.2.2.1) default)+1)))),(W (v2 - 1))))
     else
      (.inl ((v1.set (toNat v2) 1),(W (v2 - 1)))))
    else
     (.inl ((v1.set (toNat v2) 1),(W (v2 - 1))))))
  else
   (bif (((v1.length:Int):Int) == 0) then
    (.inr 0)
   else
    (.inr (v1.getD (toNat 0) default))))
theorem aUn (a0:List (Int)×bE)(l0_1:a0.1.length<=9223372036854775807)(l0_2:a0.2.length<=9223372036854775807)(hl:a0.2.length<=1048576) {cx:Cx} (hcx:cx.base=2):∀(n:Nat) (v1:List (Int)) (v2:Int),(v1.length=a0.2.length)/\(-1<=v2)/\(v2 < a0.2.length)->toNat (v2+1) < n->Aw.Good Tryz.prog none 9 (bodyPost Tryz.prog Tryz.f16 (RR cx (iv (aC (fS a0) n (v1,v2))) [] [])) cx [] (.l oB n::oC) (kV a0 (flat c3 v1) v1.length v2):=by
 intro n
 induction n with
 | zero=>intro v1 v2 hi hn;exact absurd hn (eP _)
 | succ n ih =>
   intro v1 v2 hi hn
   refine aQ ?_
   have hw_i:=aJ (n:=v2 - 1) (by omega) (by omega)
   cases h0:(decide ((v2:Int)≥0)) with
   | true =>
    have q0:=cA h0
    let t1:List (St Tryz.prog):=[.d h0,.i v2 (v1.length),.p (show((0+toNat v2*1)+1<=(flat c3 v1).length) from(cS aM (by first | omega | (simp only [Lt];omega)) (o:=0) (Nb rfl))),.i v2 (a0.2.length),.L bJ a0.2 v2 2 1,.i v2 (a0.2.length),.L bJ a0.2 v2 3 1,.u 200,.T,.i 0 2 (by decide)]
    cases h1:(decide (((a0.2.getD (toNat v2) default).2.2.1:Int) > v2)) with
    | true =>
     have q1:=cA h1
     let t2:List (St Tryz.prog):=(t1++[.d h1])
     cases h2:(decide (((a0.2.getD (toNat v2) default).2.2.1:Int) < (v1.length:Int))) with
     | true =>
      have q2:=cA h2
      let t3:List (St Tryz.prog):=(t2++[.d h2,.i v2 (v1.length),.R aM (v1.set (toNat v2) 1) v2 0 1 (show(splice (flat c3 v1) (0+toNat v2*1) [(iv 1)])=flat c3 (v1.set (toNat v2) 1) from(aW aM (by first | omega | (simp only [Lt];omega)) (o:=0) (d:=default) (Nb rfl) rfl)),.i ((a0.2.getD (toNat v2) default).2.2.1) (v1.length),.R aM (v1.set (toNat v2) 1) (a0.2.getD (toNat v2) default).2.2.1 0 1 (show(splice (flat c3 v1) (0+toNat v2*1) [(iv 1)])=flat c3 (v1.set (toNat v2) 1) from(aW aM (by first | omega | (simp only [Lt];omega)) (o:=0) (d:=default) (Nb rfl) rfl)),.i v2 (v1.length),.p (show((0+toNat v2*1)+1<=(splice (flat c3 v1) (0+toNat v2*1) [(iv 1)]).length) from(by rw [show(splice (flat c3 v1) (0+toNat v2*1) [(iv 1)])=flat c3 (v1.set (toNat v2) 1) from(aW aM (by first | omega | (simp only [Lt];omega)) (o:=0) (d:=default) (Nb rfl) rfl)];exact cS aM (by first | omega | (simp only [Lt];omega)) (o:=0) (Nb rfl))),.u 0,.T,.i 1 2 (by decide)])
      cases h3:(decide (((a0.2.getD (toNat v2) default).2.2.2.1:Int) > v2)) with
      | true =>
       have q3:=cA h3
       let t4:List (St Tryz.prog):=(t3++[.d h3])
       cases h4:(decide (((a0.2.getD (toNat v2) default).2.2.2.1:Int) < (v1.length:Int))) with
       | true =>
        have q4:=cA h4
        have e:=Eq.refl (fS a0 (v1,v2));conv at e=>rhs;simp only [fS,h0,h1,h2,h3,h4,aS]
        rw [aE e]
        refine ba (t4++[.d h4,.i v2 (v1.length),.R aM ((v1.set (toNat v2) 1).set (toNat v2) (bY ((v1.set (toNat v2) 1).getD (toNat v2) default) (W (((v1.set (toNat v2) 1).getD (toNat (a0.2.getD (toNat v2) default).2.2.1) default)+1)))) v2 0 1 (show(splice (splice (flat c3 v1) (0+toNat v2*1) [(iv 1)]) (0+toNat v2*1) [(iv (bY ((v1.set (toNat v2) 1).getD (toNat v2) default) (W (((v1.set (toNat v2) 1).getD (toNat (a0.2.getD (toNat v2) default).2.2.1) default)+1))))])=flat c3 ((v1.set (toNat v2) 1).set (toNat v2) (bY ((v1.set (toNat v2) 1).getD (toNat v2) default) (W (((v1.set (toNat v2) 1).getD (toNat (a0.2.getD (toNat v2) default).2.2.1) default)+1)))) from(by rw [show(splice (flat c3 v1) (0+toNat v2*1) [(iv 1)])=flat c3 (v1.set (toNat v2) 1) from(aW aM (by first | omega | (simp only [Lt];omega)) (o:=0) (d:=default) (Nb rfl) rfl)];exact aW aM (by first | omega | (simp only [Lt];omega)) (o:=0) (d:=default) (Nb rfl) rfl)),.i ((a0.2.getD (toNat v2) default).2.2.2.1) (v1.length),.R aM ((v1.set (toNat v2) 1).set (toNat v2) (bY ((v1.set (toNat v2) 1).getD (toNat v2) default) (W (((v1.set (toNat v2) 1).getD (toNat (a0.2.getD (toNat v2) default).2.2.1) default)+1)))) (a0.2.getD (toNat v2) default).2.2.2.1 0 1 (show(splice (splice (flat c3 v1) (0+toNat v2*1) [(iv 1)]) (0+toNat v2*1) [(iv (bY ((v1.set (toNat v2) 1).getD (toNat v2) default) (W (((v1.set (toNat v2) 1).getD (toNat (a0.2.getD (toNat v2) default).2.2.1) default)+1))))])=flat c3 ((v1.set (toNat v2) 1).set (toNat v2) (bY ((v1.set (toNat v2) 1).getD (toNat v2) default) (W (((v1.set (toNat v2) 1).getD (toNat (a0.2.getD (toNat v2) default).2.2.1) default)+1)))) from(by rw [show(splice (flat c3 v1) (0+toNat v2*1) [(iv 1)])=flat c3 (v1.set (toNat v2) 1) from(aW aM (by first | omega | (simp only [Lt];omega)) (o:=0) (d:=default) (Nb rfl) rfl)];exact aW aM (by first | omega | (simp only [Lt];omega)) (o:=0) (d:=default) (Nb rfl) rfl)),.i v2 (v1.length),.p (show((0+toNat v2*1)+1<=(splice (splice (flat c3 v1) (0+toNat v2*1) [(iv 1)]) (0+toNat v2*1) [(iv (bY ((v1.set (toNat v2) 1).getD (toNat v2) default) (W (((v1.set (toNat v2) 1).getD (toNat (a0.2.getD (toNat v2) default).2.2.1) default)+1))))]).length) from(by rw [show(splice (splice (flat c3 v1) (0+toNat v2*1) [(iv 1)]) (0+toNat v2*1) [(iv (bY ((v1.set (toNat v2) 1).getD (toNat v2) default) (W (((v1.set (toNat v2) 1).getD (toNat (a0.2.getD (toNat v2) default).2.2.1) default)+1))))])=flat c3 ((v1.set (toNat v2) 1).set (toNat v2) (bY ((v1.set (toNat v2) 1).getD (toNat v2) default) (W (((v1.set (toNat v2) 1).getD (toNat (a0.2.getD (toNat v2) default).2.2.1) default)+1)))) from(by rw [show(splice (flat c3 v1) (0+toNat v2*1) [(iv 1)])=flat c3 (v1.set (toNat v2) 1) from(aW aM (by first | omega | (simp only [Lt];omega)) (o:=0) (d:=default) (Nb rfl) rfl)];exact aW aM (by first | omega | (simp only [Lt];omega)) (o:=0) (d:=default) (Nb rfl) rfl)];exact cS aM (by first | omega | (simp only [Lt];omega)) (o:=0) (Nb rfl))),.u 0,.F]) [] [1,3,4] [2,3] hcx (m:=n) oB (oC) (kV a0 (splice (splice (splice (flat c3 v1) (0+toNat v2*1) [(iv 1)]) (0+toNat v2*1) [(iv (bY ((v1.set (toNat v2) 1).getD (toNat v2) default) (W (((v1.set (toNat v2) 1).getD (toNat (a0.2.getD (toNat v2) default).2.2.1) default)+1))))]) (0+toNat v2*1) [(iv (bY (((v1.set (toNat v2) 1).set (toNat v2) (bY ((v1.set (toNat v2) 1).getD (toNat v2) default) (W (((v1.set (toNat v2) 1).getD (toNat (a0.2.getD (toNat v2) default).2.2.1) default)+1)))).getD (toNat v2) default) (W ((((v1.set (toNat v2) 1).set (toNat v2) (bY ((v1.set (toNat v2) 1).getD (toNat v2) default) (W (((v1.set (toNat v2) 1).getD (toNat (a0.2.getD (toNat v2) default).2.2.1) default)+1)))).getD (toNat (a0.2.getD (toNat v2) default).2.2.2.1) default)+1))))]) (v1.length) (W (v2 - 1))) (by kernel_rfl) ?_
        have z0:(splice (splice (splice (flat c3 v1) (0+toNat v2*1) [(iv 1)]) (0+toNat v2*1) [(iv (bY ((v1.set (toNat v2) 1).getD (toNat v2) default) (W (((v1.set (toNat v2) 1).getD (toNat (a0.2.getD (toNat v2) default).2.2.1) default)+1))))]) (0+toNat v2*1) [(iv (bY (((v1.set (toNat v2) 1).set (toNat v2) (bY ((v1.set (toNat v2) 1).getD (toNat v2) default) (W (((v1.set (toNat v2) 1).getD (toNat (a0.2.getD (toNat v2) default).2.2.1) default)+1)))).getD (toNat v2) default) (W ((((v1.set (toNat v2) 1).set (toNat v2) (bY ((v1.set (toNat v2) 1).getD (toNat v2) default) (W (((v1.set (toNat v2) 1).getD (toNat (a0.2.getD (toNat v2) default).2.2.1) default)+1)))).getD (toNat (a0.2.getD (toNat v2) default).2.2.2.1) default)+1))))])=flat c3 (((v1.set (toNat v2) 1).set (toNat v2) (bY ((v1.set (toNat v2) 1).getD (toNat v2) default) (W (((v1.set (toNat v2) 1).getD (toNat (a0.2.getD (toNat v2) default).2.2.1) default)+1)))).set (toNat v2) (bY (((v1.set (toNat v2) 1).set (toNat v2) (bY ((v1.set (toNat v2) 1).getD (toNat v2) default) (W (((v1.set (toNat v2) 1).getD (toNat (a0.2.getD (toNat v2) default).2.2.1) default)+1)))).getD (toNat v2) default) (W ((((v1.set (toNat v2) 1).set (toNat v2) (bY ((v1.set (toNat v2) 1).getD (toNat v2) default) (W (((v1.set (toNat v2) 1).getD (toNat (a0.2.getD (toNat v2) default).2.2.1) default)+1)))).getD (toNat (a0.2.getD (toNat v2) default).2.2.2.1) default)+1)))):=(by rw [show(splice (splice (flat c3 v1) (0+toNat v2*1) [(iv 1)]) (0+toNat v2*1) [(iv (bY ((v1.set (toNat v2) 1).getD (toNat v2) default) (W (((v1.set (toNat v2) 1).getD (toNat (a0.2.getD (toNat v2) default).2.2.1) default)+1))))])=flat c3 ((v1.set (toNat v2) 1).set (toNat v2) (bY ((v1.set (toNat v2) 1).getD (toNat v2) default) (W (((v1.set (toNat v2) 1).getD (toNat (a0.2.getD (toNat v2) default).2.2.1) default)+1)))) from(by rw [show(splice (flat c3 v1) (0+toNat v2*1) [(iv 1)])=flat c3 (v1.set (toNat v2) 1) from(aW aM (by first | omega | (simp only [Lt];omega)) (o:=0) (d:=default) (Nb rfl) rfl)];exact aW aM (by first | omega | (simp only [Lt];omega)) (o:=0) (d:=default) (Nb rfl) rfl)];exact aW aM (by first | omega | (simp only [Lt];omega)) (o:=0) (d:=default) (Nb rfl) rfl)
        have z1:v1.length=(((v1.set (toNat v2) 1).set (toNat v2) (bY ((v1.set (toNat v2) 1).getD (toNat v2) default) (W (((v1.set (toNat v2) 1).getD (toNat (a0.2.getD (toNat v2) default).2.2.1) default)+1)))).set (toNat v2) (bY (((v1.set (toNat v2) 1).set (toNat v2) (bY ((v1.set (toNat v2) 1).getD (toNat v2) default) (W (((v1.set (toNat v2) 1).getD (toNat (a0.2.getD (toNat v2) default).2.2.1) default)+1)))).getD (toNat v2) default) (W ((((v1.set (toNat v2) 1).set (toNat v2) (bY ((v1.set (toNat v2) 1).getD (toNat v2) default) (W (((v1.set (toNat v2) 1).getD (toNat (a0.2.getD (toNat v2) default).2.2.1) default)+1)))).getD (toNat (a0.2.getD (toNat v2) default).2.2.2.1) default)+1)))).length:=by simp
        rw [z0,z1]
        exact ih (((v1.set (toNat v2) 1).set (toNat v2) (bY ((v1.set (toNat v2) 1).getD (toNat v2) default) (W (((v1.set (toNat v2) 1).getD (toNat (a0.2.getD (toNat v2) default).2.2.1) default)+1)))).set (toNat v2) (bY (((v1.set (toNat v2) 1).set (toNat v2) (bY ((v1.set (toNat v2) 1).getD (toNat v2) default) (W (((v1.set (toNat v2) 1).getD (toNat (a0.2.getD (toNat v2) default).2.2.1) default)+1)))).getD (toNat v2) default) (W ((((v1.set (toNat v2) 1).set (toNat v2) (bY ((v1.set (toNat v2) 1).getD (toNat v2) default) (W (((v1.set (toNat v2) 1).getD (toNat (a0.2.getD (toNat v2) default).2.2.1) default)+1)))).getD (toNat (a0.2.getD (toNat v2) default).2.2.2.1) default)+1)))) (W (v2 - 1)) (by refine⟨?_,?_,?_⟩<;>(try simp only [Ls])<;>first | omega | assumption | simp) (by(try simp only [Ls]);omega)
       | false =>
        have q4:=cH h4
        have e:=Eq.refl (fS a0 (v1,v2));conv at e=>rhs;simp only [fS,h0,h1,h2,h3,h4,aS]
        rw [aE e]
        refine ba (t4++[.d h4,.u 0,.F]) [] [1,3,4] [2,3] hcx (m:=n) oB (oC) (kV a0 (splice (splice (flat c3 v1) (0+toNat v2*1) [(iv 1)]) (0+toNat v2*1) [(iv (bY ((v1.set (toNat v2) 1).getD (toNat v2) default) (W (((v1.set (toNat v2) 1).getD (toNat (a0.2.getD (toNat v2) default).2.2.1) default)+1))))]) (v1.length) (W (v2 - 1))) (by kernel_rfl) ?_
        have z0:(splice (splice (flat c3 v1) (0+toNat v2*1) [(iv 1)]) (0+toNat v2*1) [(iv (bY ((v1.set (toNat v2) 1).getD (toNat v2) default) (W (((v1.set (toNat v2) 1).getD (toNat (a0.2.getD (toNat v2) default).2.2.1) default)+1))))])=flat c3 ((v1.set (toNat v2) 1).set (toNat v2) (bY ((v1.set (toNat v2) 1).getD (toNat v2) default) (W (((v1.set (toNat v2) 1).getD (toNat (a0.2.getD (toNat v2) default).2.2.1) default)+1)))):=(by rw [show(splice (flat c3 v1) (0+toNat v2*1) [(iv 1)])=flat c3 (v1.set (toNat v2) 1) from(aW aM (by first | omega | (simp only [Lt];omega)) (o:=0) (d:=default) (Nb rfl) rfl)];exact aW aM (by first | omega | (simp only [Lt];omega)) (o:=0) (d:=default) (Nb rfl) rfl)
        have z1:v1.length=((v1.set (toNat v2) 1).set (toNat v2) (bY ((v1.set (toNat v2) 1).getD (toNat v2) default) (W (((v1.set (toNat v2) 1).getD (toNat (a0.2.getD (toNat v2) default).2.2.1) default)+1)))).length:=by simp
        rw [z0,z1]
        exact ih ((v1.set (toNat v2) 1).set (toNat v2) (bY ((v1.set (toNat v2) 1).getD (toNat v2) default) (W (((v1.set (toNat v2) 1).getD (toNat (a0.2.getD (toNat v2) default).2.2.1) default)+1)))) (W (v2 - 1)) (by refine⟨?_,?_,?_⟩<;>(try simp only [Ls])<;>first | omega | assumption | simp) (by(try simp only [Ls]);omega)
      | false =>
       have q3:=cH h3
       have e:=Eq.refl (fS a0 (v1,v2));conv at e=>rhs;simp only [fS,h0,h1,h2,h3,aS]
       rw [aE e]
       refine ba (t3++[.d h3,.u 0,.F]) [] [1,3,4] [2,3] hcx (m:=n) oB (oC) (kV a0 (splice (splice (flat c3 v1) (0+toNat v2*1) [(iv 1)]) (0+toNat v2*1) [(iv (bY ((v1.set (toNat v2) 1).getD (toNat v2) default) (W (((v1.set (toNat v2) 1).getD (toNat (a0.2.getD (toNat v2) default).2.2.1) default)+1))))]) (v1.length) (W (v2 - 1))) (by kernel_rfl) ?_
       have z0:(splice (splice (flat c3 v1) (0+toNat v2*1) [(iv 1)]) (0+toNat v2*1) [(iv (bY ((v1.set (toNat v2) 1).getD (toNat v2) default) (W (((v1.set (toNat v2) 1).getD (toNat (a0.2.getD (toNat v2) default).2.2.1) default)+1))))])=flat c3 ((v1.set (toNat v2) 1).set (toNat v2) (bY ((v1.set (toNat v2) 1).getD (toNat v2) default) (W (((v1.set (toNat v2) 1).getD (toNat (a0.2.getD (toNat v2) default).2.2.1) default)+1)))):=(by rw [show(splice (flat c3 v1) (0+toNat v2*1) [(iv 1)])=flat c3 (v1.set (toNat v2) 1) from(aW aM (by first | omega | (simp only [Lt];omega)) (o:=0) (d:=default) (Nb rfl) rfl)];exact aW aM (by first | omega | (simp only [Lt];omega)) (o:=0) (d:=default) (Nb rfl) rfl)
       have z1:v1.length=((v1.set (toNat v2) 1).set (toNat v2) (bY ((v1.set (toNat v2) 1).getD (toNat v2) default) (W (((v1.set (toNat v2) 1).getD (toNat (a0.2.getD (toNat v2) default).2.2.1) default)+1)))).length:=by simp
       rw [z0,z1]
       exact ih ((v1.set (toNat v2) 1).set (toNat v2) (bY ((v1.set (toNat v2) 1).getD (toNat v2) default) (W (((v1.set (toNat v2) 1).getD (toNat (a0.2.getD (toNat v2) default).2.2.1) default)+1)))) (W (v2 - 1)) (by refine⟨?_,?_,?_⟩<;>(try simp only [Ls])<;>first | omega | assumption | simp) (by(try simp only [Ls]);omega)
     | false =>
      have q2:=cH h2
      let t3:List (St Tryz.prog):=(t2++[.d h2,.u 0,.T,.i 1 2 (by decide)])
      cases h3:(decide (((a0.2.getD (toNat v2) default).2.2.2.1:Int) > v2)) with
      | true =>
       have q3:=cA h3
       let t4:List (St Tryz.prog):=(t3++[.d h3])
       cases h4:(decide (((a0.2.getD (toNat v2) default).2.2.2.1:Int) < (v1.length:Int))) with
       | true =>
        have q4:=cA h4
        have e:=Eq.refl (fS a0 (v1,v2));conv at e=>rhs;simp only [fS,h0,h1,h2,h3,h4,aS]
        rw [aE e]
        refine ba (t4++[.d h4,.i v2 (v1.length),.R aM (v1.set (toNat v2) 1) v2 0 1 (show(splice (flat c3 v1) (0+toNat v2*1) [(iv 1)])=flat c3 (v1.set (toNat v2) 1) from(aW aM (by first | omega | (simp only [Lt];omega)) (o:=0) (d:=default) (Nb rfl) rfl)),.i ((a0.2.getD (toNat v2) default).2.2.2.1) (v1.length),.R aM (v1.set (toNat v2) 1) (a0.2.getD (toNat v2) default).2.2.2.1 0 1 (show(splice (flat c3 v1) (0+toNat v2*1) [(iv 1)])=flat c3 (v1.set (toNat v2) 1) from(aW aM (by first | omega | (simp only [Lt];omega)) (o:=0) (d:=default) (Nb rfl) rfl)),.i v2 (v1.length),.p (show((0+toNat v2*1)+1<=(splice (flat c3 v1) (0+toNat v2*1) [(iv 1)]).length) from(by rw [show(splice (flat c3 v1) (0+toNat v2*1) [(iv 1)])=flat c3 (v1.set (toNat v2) 1) from(aW aM (by first | omega | (simp only [Lt];omega)) (o:=0) (d:=default) (Nb rfl) rfl)];exact cS aM (by first | omega | (simp only [Lt];omega)) (o:=0) (Nb rfl))),.u 0,.F]) [] [1,3,4] [2,3] hcx (m:=n) oB (oC) (kV a0 (splice (splice (flat c3 v1) (0+toNat v2*1) [(iv 1)]) (0+toNat v2*1) [(iv (bY ((v1.set (toNat v2) 1).getD (toNat v2) default) (W (((v1.set (toNat v2) 1).getD (toNat (a0.2.getD (toNat v2) default).2.2.2.1) default)+1))))]) (v1.length) (W (v2 - 1))) (by kernel_rfl) ?_
        have z0:(splice (splice (flat c3 v1) (0+toNat v2*1) [(iv 1)]) (0+toNat v2*1) [(iv (bY ((v1.set (toNat v2) 1).getD (toNat v2) default) (W (((v1.set (toNat v2) 1).getD (toNat (a0.2.getD (toNat v2) default).2.2.2.1) default)+1))))])=flat c3 ((v1.set (toNat v2) 1).set (toNat v2) (bY ((v1.set (toNat v2) 1).getD (toNat v2) default) (W (((v1.set (toNat v2) 1).getD (toNat (a0.2.getD (toNat v2) default).2.2.2.1) default)+1)))):=(by rw [show(splice (flat c3 v1) (0+toNat v2*1) [(iv 1)])=flat c3 (v1.set (toNat v2) 1) from(aW aM (by first | omega | (simp only [Lt];omega)) (o:=0) (d:=default) (Nb rfl) rfl)];exact aW aM (by first | omega | (simp only [Lt];omega)) (o:=0) (d:=default) (Nb rfl) rfl)
        have z1:v1.length=((v1.set (toNat v2) 1).set (toNat v2) (bY ((v1.set (toNat v2) 1).getD (toNat v2) default) (W (((v1.set (toNat v2) 1).getD (toNat (a0.2.getD (toNat v2) default).2.2.2.1) default)+1)))).length:=by simp
        rw [z0,z1]
        exact ih ((v1.set (toNat v2) 1).set (toNat v2) (bY ((v1.set (toNat v2) 1).getD (toNat v2) default) (W (((v1.set (toNat v2) 1).getD (toNat (a0.2.getD (toNat v2) default).2.2.2.1) default)+1)))) (W (v2 - 1)) (by refine⟨?_,?_,?_⟩<;>(try simp only [Ls])<;>first | omega | assumption | simp) (by(try simp only [Ls]);omega)
       | false =>
        have q4:=cH h4
        have e:=Eq.refl (fS a0 (v1,v2));conv at e=>rhs;simp only [fS,h0,h1,h2,h3,h4,aS]
        rw [aE e]
        refine ba (t4++[.d h4,.u 0,.F]) [] [1,3,4] [2,3] hcx (m:=n) oB (oC) (kV a0 (splice (flat c3 v1) (0+toNat v2*1) [(iv 1)]) (v1.length) (W (v2 - 1))) (by kernel_rfl) ?_
        have z0:(splice (flat c3 v1) (0+toNat v2*1) [(iv 1)])=flat c3 (v1.set (toNat v2) 1):=(aW aM (by first | omega | (simp only [Lt];omega)) (o:=0) (d:=default) (Nb rfl) rfl)
        have z1:v1.length=(v1.set (toNat v2) 1).length:=by simp
        rw [z0,z1]
        exact ih (v1.set (toNat v2) 1) (W (v2 - 1)) (by refine⟨?_,?_,?_⟩<;>(try simp only [Ls])<;>first | omega | assumption | simp) (by(try simp only [Ls]);omega)
      | false =>
       have q3:=cH h3
       have e:=Eq.refl (fS a0 (v1,v2));conv at e=>rhs;simp only [fS,h0,h1,h2,h3,aS]
       rw [aE e]
       refine ba (t3++[.d h3,.u 0,.F]) [] [1,3,4] [2,3] hcx (m:=n) oB (oC) (kV a0 (splice (flat c3 v1) (0+toNat v2*1) [(iv 1)]) (v1.length) (W (v2 - 1))) (by kernel_rfl) ?_
       have z0:(splice (flat c3 v1) (0+toNat v2*1) [(iv 1)])=flat c3 (v1.set (toNat v2) 1):=(aW aM (by first | omega | (simp only [Lt];omega)) (o:=0) (d:=default) (Nb rfl) rfl)
       have z1:v1.length=(v1.set (toNat v2) 1).length:=by simp
       rw [z0,z1]
       exact ih (v1.set (toNat v2) 1) (W (v2 - 1)) (by refine⟨?_,?_,?_⟩<;>(try simp only [Ls])<;>first | omega | assumption | simp) (by(try simp only [Ls]);omega)
    | false =>
     have q1:=cH h1
     let t2:List (St Tryz.prog):=(t1++[.d h1,.u 0,.T,.i 1 2 (by decide)])
     cases h2:(decide (((a0.2.getD (toNat v2) default).2.2.2.1:Int) > v2)) with
     | true =>
      have q2:=cA h2
      let t3:List (St Tryz.prog):=(t2++[.d h2])
      cases h3:(decide (((a0.2.getD (toNat v2) default).2.2.2.1:Int) < (v1.length:Int))) with
      | true =>
       have q3:=cA h3
       have e:=Eq.refl (fS a0 (v1,v2));conv at e=>rhs;simp only [fS,h0,h1,h2,h3,aS]
       rw [aE e]
       refine ba (t3++[.d h3,.i v2 (v1.length),.R aM (v1.set (toNat v2) 1) v2 0 1 (show(splice (flat c3 v1) (0+toNat v2*1) [(iv 1)])=flat c3 (v1.set (toNat v2) 1) from(aW aM (by first | omega | (simp only [Lt];omega)) (o:=0) (d:=default) (Nb rfl) rfl)),.i ((a0.2.getD (toNat v2) default).2.2.2.1) (v1.length),.R aM (v1.set (toNat v2) 1) (a0.2.getD (toNat v2) default).2.2.2.1 0 1 (show(splice (flat c3 v1) (0+toNat v2*1) [(iv 1)])=flat c3 (v1.set (toNat v2) 1) from(aW aM (by first | omega | (simp only [Lt];omega)) (o:=0) (d:=default) (Nb rfl) rfl)),.i v2 (v1.length),.p (show((0+toNat v2*1)+1<=(splice (flat c3 v1) (0+toNat v2*1) [(iv 1)]).length) from(by rw [show(splice (flat c3 v1) (0+toNat v2*1) [(iv 1)])=flat c3 (v1.set (toNat v2) 1) from(aW aM (by first | omega | (simp only [Lt];omega)) (o:=0) (d:=default) (Nb rfl) rfl)];exact cS aM (by first | omega | (simp only [Lt];omega)) (o:=0) (Nb rfl))),.u 0,.F]) [] [1,3,4] [2,3] hcx (m:=n) oB (oC) (kV a0 (splice (splice (flat c3 v1) (0+toNat v2*1) [(iv 1)]) (0+toNat v2*1) [(iv (bY ((v1.set (toNat v2) 1).getD (toNat v2) default) (W (((v1.set (toNat v2) 1).getD (toNat (a0.2.getD (toNat v2) default).2.2.2.1) default)+1))))]) (v1.length) (W (v2 - 1))) (by kernel_rfl) ?_
       have z0:(splice (splice (flat c3 v1) (0+toNat v2*1) [(iv 1)]) (0+toNat v2*1) [(iv (bY ((v1.set (toNat v2) 1).getD (toNat v2) default) (W (((v1.set (toNat v2) 1).getD (toNat (a0.2.getD (toNat v2) default).2.2.2.1) default)+1))))])=flat c3 ((v1.set (toNat v2) 1).set (toNat v2) (bY ((v1.set (toNat v2) 1).getD (toNat v2) default) (W (((v1.set (toNat v2) 1).getD (toNat (a0.2.getD (toNat v2) default).2.2.2.1) default)+1)))):=(by rw [show(splice (flat c3 v1) (0+toNat v2*1) [(iv 1)])=flat c3 (v1.set (toNat v2) 1) from(aW aM (by first | omega | (simp only [Lt];omega)) (o:=0) (d:=default) (Nb rfl) rfl)];exact aW aM (by first | omega | (simp only [Lt];omega)) (o:=0) (d:=default) (Nb rfl) rfl)
       have z1:v1.length=((v1.set (toNat v2) 1).set (toNat v2) (bY ((v1.set (toNat v2) 1).getD (toNat v2) default) (W (((v1.set (toNat v2) 1).getD (toNat (a0.2.getD (toNat v2) default).2.2.2.1) default)+1)))).length:=by simp
       rw [z0,z1]
       exact ih ((v1.set (toNat v2) 1).set (toNat v2) (bY ((v1.set (toNat v2) 1).getD (toNat v2) default) (W (((v1.set (toNat v2) 1).getD (toNat (a0.2.getD (toNat v2) default).2.2.2.1) default)+1)))) (W (v2 - 1)) (by refine⟨?_,?_,?_⟩<;>(try simp only [Ls])<;>first | omega | assumption | simp) (by(try simp only [Ls]);omega)
      | false =>
       have q3:=cH h3
       have e:=Eq.refl (fS a0 (v1,v2));conv at e=>rhs;simp only [fS,h0,h1,h2,h3,aS]
       rw [aE e]
       refine ba (t3++[.d h3,.u 0,.F]) [] [1,3,4] [2,3] hcx (m:=n) oB (oC) (kV a0 (splice (flat c3 v1) (0+toNat v2*1) [(iv 1)]) (v1.length) (W (v2 - 1))) (by kernel_rfl) ?_
       have z0:(splice (flat c3 v1) (0+toNat v2*1) [(iv 1)])=flat c3 (v1.set (toNat v2) 1):=(aW aM (by first | omega | (simp only [Lt];omega)) (o:=0) (d:=default) (Nb rfl) rfl)
       have z1:v1.length=(v1.set (toNat v2) 1).length:=by simp
       rw [z0,z1]
       exact ih (v1.set (toNat v2) 1) (W (v2 - 1)) (by refine⟨?_,?_,?_⟩<;>(try simp only [Ls])<;>first | omega | assumption | simp) (by(try simp only [Ls]);omega)
     | false =>
      have q2:=cH h2
      have e:=Eq.refl (fS a0 (v1,v2));conv at e=>rhs;simp only [fS,h0,h1,h2,aS]
      rw [aE e]
      refine ba (t2++[.d h2,.u 0,.F]) [] [1,3,4] [2,3] hcx (m:=n) oB (oC) (kV a0 (splice (flat c3 v1) (0+toNat v2*1) [(iv 1)]) (v1.length) (W (v2 - 1))) (by kernel_rfl) ?_
      have z0:(splice (flat c3 v1) (0+toNat v2*1) [(iv 1)])=flat c3 (v1.set (toNat v2) 1):=(aW aM (by first | omega | (simp only [Lt];omega)) (o:=0) (d:=default) (Nb rfl) rfl)
      have z1:v1.length=(v1.set (toNat v2) 1).length:=by simp
      rw [z0,z1]
      exact ih (v1.set (toNat v2) 1) (W (v2 - 1)) (by refine⟨?_,?_,?_⟩<;>(try simp only [Ls])<;>first | omega | assumption | simp) (by(try simp only [Ls]);omega)
   | false =>
    have q0:=cH h0
    let t1:List (St Tryz.prog):=[.d h0]
    cases h1:(((v1.length:Int):Int) == 0) with
    | true =>
     have q1:=eq_of_beq h1
     have e:=Eq.refl (fS a0 (v1,v2));conv at e=>rhs;simp only [fS,h0,h1,aS]
     rw [aN,e]
     exact rt (t1++[.d h1]) [] [] hcx (by kernel_rfl)
    | false =>
     have q1:=ne_of_beq_false h1
     have e:=Eq.refl (fS a0 (v1,v2));conv at e=>rhs;simp only [fS,h0,h1,aS]
     rw [aN,e]
     exact rt (t1++[.d h1,.i 0 (v1.length),.L aM v1 0 0 1]) [] [] hcx (by kernel_rfl)
def F16 (a0:List (Int)×bE):Int :=
 (aC (fS a0) (toNat ((W ((a0.2.length:Int) - 1))+1)+1) ((List.replicate (toNat (a0.2.length:Int)) 0),(W ((a0.2.length:Int) - 1))))
theorem C16 (a0:List (Int)×bE)(l0_1:a0.1.length<=9223372036854775807)(l0_2:a0.2.length<=9223372036854775807)(hl:a0.2.length<=1048576):Con Tryz.prog 16 [(.a [(.s 0 0 a0.1.length 1),(.s 1 0 a0.2.length 8)])] [(.live false true (flat c3 a0.1)),(.live false true (flat bT a0.2))] (iv (F16 a0)) []:=by
 refine aO Tryz.func16 (by kernel_rfl) fun cx hcx=>?_
 have hw_i:=aJ (n:=(a0.2.length:Int) - 1) (by omega) (by omega)
 have e:=Eq.refl (F16 a0);conv at e=>rhs;simp only [F16]
 rw [e]
 refine en [.Z c3 0 [(iv 0)] (a0.2.length:Int) 8] [] [1,3,4] [2,3] hcx oB (oC) (kV a0 (flat c3 (List.replicate (toNat (a0.2.length:Int)) 0)) (toNat (a0.2.length:Int)) (W ((a0.2.length:Int) - 1))) (toNat ((W ((a0.2.length:Int) - 1))+1)+1) (by kernel_rfl) ?_
 have q:=aUn a0 l0_1 l0_2 hl hcx (toNat ((W ((a0.2.length:Int) - 1))+1)+1) (List.replicate (toNat (a0.2.length:Int)) 0) (W ((a0.2.length:Int) - 1)) (by refine⟨?_,?_,?_⟩<;>(try simp only [Ls])<;>first | omega | assumption | simp) (by(try simp only [Ls]);omega)
 simp only [List.length_replicate] at q
 exact q
def F5:Bool :=
 (bif (((dP lX 1).2:Int) == 0) then
  (bif (((((dP lX 1).1.2.length:Nat):Int):Int) == 7) then
   (bif (((F16 ((dP lX 1).1.1,(dP lX 1).1.2)):Int) == 3) then
    (bif (((F17 ((dP lX 1).1.1,(dP lX 1).1.2)):Int) == 4) then
     (bif ((((dP lX 1).1.2.getD (toNat 0) default).2.2.1:Int) == 1) then
      ((((dP lX 1).1.2.getD (toNat 0) default).2.2.2.1:Int) == 4)
     else
      false)
    else
     false)
   else
    false)
  else
   false)
 else
  false)
theorem C5:Con Tryz.prog 5 [] [] (.v (.bool F5)) []:=by
 refine aO Tryz.func5 (by kernel_rfl) fun cx hcx=>?_
 have hrl:lX.length=4:=by kernel_rfl
 have h5r:dR lX:=⟨⟨Or.inl (by rw [hrl];decide)⟩⟩
 have hbl:(dP lX 1).1.2.length=7:=by kernel_rfl
 have hbo:(dP lX 1).1.1.length=4:=by kernel_rfl
 let t0:List (St Tryz.prog):=[.c [] (C15),.c [0] (aUm lX 1 (by omega))]
 cases h0:(((dP lX 1).2:Int) == 0) with
 | true =>
  have q0:=eq_of_beq h0
  have h5r:dR lX:=⟨⟨Or.inl (by rw [hrl];decide)⟩⟩
  let t1:List (St Tryz.prog):=(t0++[.d h0])
  cases h1:(((((dP lX 1).1.2.length:Nat):Int):Int) == 7) with
  | true =>
   have q1:=eq_of_beq h1
   have h5r:dR lX:=⟨⟨Or.inl (by rw [hrl];decide)⟩⟩
   let t2:List (St Tryz.prog):=(t1++[.d h1,.c [1,2] (C16 ((dP lX 1).1.1,(dP lX 1).1.2) (by(try simp only [Lt]);omega) (by(try simp only [Lt]);omega) (by(try simp only [Lt]);omega))])
   cases h2:(((F16 ((dP lX 1).1.1,(dP lX 1).1.2)):Int) == 3) with
   | true =>
    have q2:=eq_of_beq h2
    have h5r:dR lX:=⟨⟨Or.inl (by rw [hrl];decide)⟩⟩
    let t3:List (St Tryz.prog):=(t2++[.d h2,.c [1,2] (C17 ((dP lX 1).1.1,(dP lX 1).1.2) (by(try simp only [Lt]);omega) (by(try simp only [Lt]);omega) (by(try simp only [Lt]);omega))])
    cases h3:(((F17 ((dP lX 1).1.1,(dP lX 1).1.2)):Int) == 4) with
    | true =>
     have q3:=eq_of_beq h3
     have h5r:dR lX:=⟨⟨Or.inl (by rw [hrl];decide)⟩⟩
     let t4:List (St Tryz.prog):=(t3++[.d h3,.i 0 ((dP lX 1).1.2.length),.L bJ (dP lX 1).1.2 0 2 1])
     cases h4:((((dP lX 1).1.2.getD (toNat 0) default).2.2.1:Int) == 1) with
     | true =>
      have q4:=eq_of_beq h4
      have h5r:dR lX:=⟨⟨Or.inl (by rw [hrl];decide)⟩⟩
      have e:=Eq.refl F5;conv at e=>rhs;simp only [F5,h0,h1,h2,h3,h4,aS]
      rw [e]
      exact rt (t4++[.d h4,.i 0 ((dP lX 1).1.2.length),.L bJ (dP lX 1).1.2 0 3 1]) [] [] hcx (by kernel_rfl)
     | false =>
      have q4:=ne_of_beq_false h4
      have h5r:dR lX:=⟨⟨Or.inl (by rw [hrl];decide)⟩⟩
      have e:=Eq.refl F5;conv at e=>rhs;simp only [F5,h0,h1,h2,h3,h4,aS]
      rw [e]
      exact rt (t4++[.d h4]) [] [] hcx (by kernel_rfl)
    | false =>
     have q3:=ne_of_beq_false h3
     have h5r:dR lX:=⟨⟨Or.inl (by rw [hrl];decide)⟩⟩
     have e:=Eq.refl F5;conv at e=>rhs;simp only [F5,h0,h1,h2,h3,aS]
     rw [e]
     exact rt (t3++[.d h3]) [] [] hcx (by kernel_rfl)
   | false =>
    have q2:=ne_of_beq_false h2
    have h5r:dR lX:=⟨⟨Or.inl (by rw [hrl];decide)⟩⟩
    have e:=Eq.refl F5;conv at e=>rhs;simp only [F5,h0,h1,h2,aS]
    rw [e]
    exact rt (t2++[.d h2]) [] [] hcx (by kernel_rfl)
  | false =>
   have q1:=ne_of_beq_false h1
   have h5r:dR lX:=⟨⟨Or.inl (by rw [hrl];decide)⟩⟩
   have e:=Eq.refl F5;conv at e=>rhs;simp only [F5,h0,h1,aS]
   rw [e]
   exact rt (t1++[.d h1]) [] [] hcx (by kernel_rfl)
 | false =>
  have q0:=ne_of_beq_false h0
  have h5r:dR lX:=⟨⟨Or.inl (by rw [hrl];decide)⟩⟩
  have e:=Eq.refl F5;conv at e=>rhs;simp only [F5,h0,aS]
  rw [e]
  exact rt (t0++[.d h0]) [] [] hcx (by kernel_rfl)
theorem aRw:F5=true:=by kernel_rfl
theorem aO5 (n lo hi:Int):F59 n lo hi=F35 n lo hi:=by
 unfold F59 F35
 by_cases h1:lo<=n<;>by_cases h2:n<=hi<;>simp [h1,h2]
theorem zQ (l:List (PN×Int)):gH l=gI l:=by
 have e:fH l=gV l:=by
   funext v
   simp only [fH,gV,aKe,aL9,aO5]
 unfold gH gI
 rw [e]
theorem sZ {l:List (PN×Int)} (h:gI l=0):l.length<=96:=sU (by rw [zQ];exact h)
end Go.Proofs.YtmihafgemmgepaaGreat
