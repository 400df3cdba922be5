/-
  Parts of the proofs of the laws: the executor, what functions of the program compute, and that it is what the statements ask. No premise.
-/
import Derived.Test.YtaeagjnpobdglaaGreatVPna3
import Derived.ProofKit
import Derived.OpenShut
import Derived.Deep.Slices
import Derived.RowKit
set_option linter.unusedVariables false
set_option linter.unusedSimpArgs false
set_option maxHeartbeats 4000000
open Int (toNat)
namespace Go.Proofs.YtaeagjnpobdglaaGreat
open Go.Proofs Go.Aw Go.RowKit
set_option maxRecDepth 100000
theorem aIy:∀(d:Nat)(p:PN),(aR d p).length=4 ^ d
 | 0,p=>rfl
 | d+1,p=>by
   rw [gC]
   have:∀l:List PN,(l.flatMap aB7).length=4*l.length:=fun l=>by
     induction l with
     | nil=>rfl
     | cons x l ih=>rw [List.flatMap_cons,List.length_append,ih];show 4+_=_;simp only [List.length_cons];omega
   rw [this,aIy d p,Nat.pow_succ];omega
open Go.ChangeShapes Go.WideShapes Go.ChangeAt
section
variable {H : Type} {enc : TypeId × Value → H} {P : Program} {w : World} {base : Nat} {spare : Nat → Bool} {held : Bool}
end
theorem aKp {H:Type} {enc:TypeId×Value->H} {P:Program} {f:Func} {s:ChangeSpec} {apart fresh handsOn:Bool} {W W':World} {args:Array Value} {v:Value} {ds gs:List (DataW H)} {before:List MemPlace}
   (hW:DataW.Whole enc P f.params.toList s.vars apart W args.toList ds gs before) (hb:Below W.heap.size W W')
   (hres:∀(b:Nat) (sp:Nat->Bool) (hd:Bool),DataW.TrodAll enc P W' b sp hd f.resultTypes.toList (v.resultList f.resultTypes.size) (s.fn H (ds++gs)).results [])
   (hargs:DataW.TrodAll enc P W' 0 (fun b=>decide (b < W.heap.size)) true f.params.toList args.toList (s.fn H (ds++gs)).args before)
   (hvars:DataW.TrodVars enc P W' (fun b=>decide (b < W.heap.size)) s.vars (s.fn H (ds++gs)).vars []) :
   s.post enc P f apart fresh handsOn false W args v W' :=
 ⟨ds,gs,before,[],before,[],hW,hres _ _ _,hargs,hvars,hb.frame _,fun h=>by cases h⟩
theorem aKq {H:Type} {enc:TypeId×Value->H} {P:Program} {w:World} {base:Nat} {spare:Nat->Bool} {held:Bool} {t:TypeId} {ts:List TypeId} {v:Value} {vs:List Value} {d:DataW H} {ds:List (DataW H)} {p p':List MemPlace}
 (h:DataW.Trod enc P w base spare held t v d p) (h':DataW.TrodAll enc P w base spare held ts vs ds p'):DataW.TrodAll enc P w base spare held (t::ts) (v::vs) (d::ds) (p++p'):=⟨p,p',h,h',rfl⟩
theorem own:ownKnob Tryz.prog.godebug=none:=by kernel_rfl
theorem aM7:laidOutB Tryz.prog=true:=by kernel_rfl
end Go.Proofs.YtaeagjnpobdglaaGreat
namespace Go.Proofs.YtaeagjnpobdglaaGreat
open Go.Proofs Go.Aw Go.RowKit
set_option maxRecDepth 100000
def sc (d:Int):Int:=if d=0 then 1 else if d=1 then 2 else if d=2 then 4 else 8
theorem d4 {d:Int} (h:0<=d/\d<=3):d=0\/d=1\/d=2\/d=3:=by omega
theorem aYr {d:Int} (h:0<=d/\d<=3):W (1*2 ^ (min (toNat d) 64))=sc d:=by
 rcases d4 h with rfl | rfl | rfl | rfl<;>kernel_rfl
theorem bBr {d:Int} (h:0<=d/\d<=3):W (1*2 ^ (min (toNat (IntKind.wrap .u64 d)) 64))=sc d:=by
 rcases d4 h with rfl | rfl | rfl | rfl<;>kernel_rfl
theorem bBs {d:Int} (h:0<=d/\d<=3):W (1*2 ^ (min (toNat (W (2*d))) 64))=sc d*sc d:=by
 rcases d4 h with rfl | rfl | rfl | rfl<;>kernel_rfl
theorem mV {d:Int} (h:0<=d/\d<=3)(p:PN):(((aR d.toNat p).length:Nat):Int)=sc d*sc d:=by
 rw [aIy];rcases d4 h with rfl | rfl | rfl | rfl<;>kernel_rfl
theorem qN (d:Int):sc d=1\/sc d=2\/sc d=4\/sc d=8:=by unfold sc;(repeat' split)<;>simp
theorem aM8 (d:Int):1<=sc d/\sc d<=8:=by have:=qN d;omega
def tm (s:Int)(p:P3):P3:=(s*p.1,s*p.2.1,s*p.2.2)
theorem aM9 {s m:Int} {p:P3} (hs:1<=s/\s<=8)(hm:0<=m)(hp:bd m p):bd (8*m) (tm s p):=by
 have h1:=bD (a:=8) (b:=m) (x:=s) (y:=p.1) (by omega) hp.1
 have h2:=bD (a:=8) (b:=m) (x:=s) (y:=p.2.1) (by omega) hp.2.1
 have h3:=bD (a:=8) (b:=m) (x:=s) (y:=p.2.2) (by omega) hp.2.2
 exact⟨h1,h2,h3⟩
theorem bBt {s:Int} {p:P3} (hs:1<=s/\s<=8)(hp:bd 4096 p):((W (s*p.1)),(W (s*p.2.1)),(W (s*p.2.2)))=tm s p:=by
 have h:=aM9 hs (by omega) hp
 have h1:=h.1;have h2:=h.2.1;have h3:=h.2.2
 simp only [tm] at h1 h2 h3
 unfold tm
 rw [aE (n:=s*p.1) (by omega) (by omega),aE (n:=s*p.2.1) (by omega) (by omega),aE (n:=s*p.2.2) (by omega) (by omega)]
theorem aOv {s:Int} {p:P3} (hs:1<=s/\s<=8)(hp:bd 4096 p):sE p s=tm s p:=bBt hs hp
theorem aYs {s:Int} {p:P3} (hs:1<=s/\s<=8)(hp:bd 4096 p):aF p s=tm s p:=bBt hs hp
theorem aCb {a b:Int} (h1:-1099511627776<=a)(h2:a<=b)(h3:b<=1099511627776):qL a b=((a,b),0):=by
 unfold qL pT
 rw [bT (show(a,b).1≥-1099511627776 from h1),bT (show(a,b).1<=(a,b).2 from h2),bT (show(a,b).2<=1099511627776 from h3)];rfl
theorem aQ1 {a b:Int} (h1:-1099511627776<=a)(h2:a<=b)(h3:b<=1099511627776):iY a b=((a,b),0):=by
 unfold iY F51
 rw [bT (show(a,b).1≥-1099511627776 from h1),bT (show(a,b).1<=(a,b).2 from h2),bT (show(a,b).2<=1099511627776 from h3)];rfl
theorem bBu {n:Int} (h0:0<=n)(h:n < 4611686018427387904):iX n=iU n:=(aQn h0 h).eq (xK h0 h)
noncomputable def inv (N n:Int):Int×Int :=
 (iU (N / n),if iU (N / n)*iU (N / n)*n=N then iU (N / n) else iU (N / n)+1)
theorem nG {N n:Int} (hN:0<=N)(hn:1<=n):0<=N / n/\N / n<=N/\(N / n)*n<=N:=by
 have h1:0<=N / n:=Int.ediv_nonneg hN (by omega)
 have h2:(N / n)*n<=N:=Int.ediv_mul_le N (by omega)
 have h3:(N / n)*1<=(N / n)*n:=Int.mul_le_mul_of_nonneg_left hn h1
 omega
theorem lM {N n:Int} (hN:0<=N/\N<=288230376151711744)(hn:1<=n) :
   ∃k,iU (N / n)=k/\IsRt (N / n) k/\0<=k/\k<=536870912/\0<=k*k/\k*k<=N / n/\0<=k*k*n/\k*k*n<=N:=by
 obtain⟨h1,h2,h3⟩:=nG hN.1 hn
 have h:=xK (n:=N / n) h1 (by omega)
 have h4:=h.le (m:=536870912) (by omega) (by omega)
 have h5:0<=iU (N / n)*iU (N / n):=Int.mul_nonneg h.1 h.1
 exact⟨_,rfl,h,h.1,h4,h5,h.2.1,Int.mul_nonneg h5 (by omega),Int.le_trans (Int.mul_le_mul_of_nonneg_right h.2.1 (by omega)) h3⟩
theorem bBv {N n:Int} (hN:0<=N/\N<=288230376151711744)(hn:1<=n):aDx N n=(inv N n,0):=by
 obtain⟨k,hk,_,k0,k1,k2,k3,k4,k5⟩:=lM hN hn
 obtain⟨h1,h2,h3⟩:=nG hN.1 hn
 unfold aDx inv
 rw [Int.tdiv_eq_ediv_of_nonneg hN.1,aE (n:=N / n) (by omega) (by omega),hk,aE (n:=k*k) (by omega) (by omega),aE (n:=k*k*n) (by omega) (by omega),aE (n:=k+1) (by omega) (by omega),
   aCb (by omega) (Int.le_refl k) (by omega),aCb (by omega) (by omega) (by omega)]
 by_cases h:k*k*n=N
 · rw [if_pos h,beq_iff_eq.2 h];rfl
 · rw [if_neg h,beq_eq_false_iff_ne.2 h];rfl
theorem bBw {N n:Int} (hN:0<=N/\N<=288230376151711744)(hn:1<=n):zX N n=(inv N n,0):=by
 obtain⟨k,hk,_,k0,k1,k2,k3,k4,k5⟩:=lM hN hn
 obtain⟨h1,h2,h3⟩:=nG hN.1 hn
 unfold zX inv
 rw [Int.tdiv_eq_ediv_of_nonneg hN.1,aE (n:=N / n) (by omega) (by omega),bBu h1 (by omega),hk,aE (n:=k*k) (by omega) (by omega),aE (n:=k+1) (by omega) (by omega),
   aQ1 (by omega) (Int.le_refl k) (by omega),aQ1 (by omega) (by omega) (by omega),Int.tmod_eq_emod_of_nonneg hN.1]
 have hdm:n*(N / n)+N % n=N:=Int.mul_ediv_add_emod N n
 by_cases h0:N % n=0
 · rw [beq_iff_eq.2 h0,cond_true]
   by_cases h:k*k=N / n
   · rw [beq_iff_eq.2 h,cond_true,if_pos (by rw [h,Int.mul_comm];omega)]
   · rw [beq_eq_false_iff_ne.2 h,cond_false,if_neg]
     intro h'
     rw [h0,Int.add_zero,Int.mul_comm] at hdm
     exact h (Int.eq_of_mul_eq_mul_right (by omega) (h'.trans hdm.symm))
 · rw [beq_eq_false_iff_ne.2 h0,cond_false,if_neg]
   intro h'
   rw [←h'] at h0
   exact h0 (Int.mul_emod_left _ _)
theorem aYt {N n:Int} (hN:0<=N/\N<=288230376151711744)(hn:1<=n):0<=(inv N n).1/\(inv N n).1<=(inv N n).2/\(inv N n).2<=536870913:=by
 obtain⟨k,hk,_,k0,k1,_⟩:=lM hN hn
 unfold inv
 rw [hk]
 simp only
 split<;>omega
theorem aQ2 {N n m:Int} (hN:0<=N/\N<=288230376151711744)(hn:1<=n)(hm:n<=m):(inv N m).1<=(inv N n).1:=by
 obtain⟨h1,h2,h3⟩:=nG hN.1 hn
 obtain⟨g1,g2,g3⟩:=nG (n:=m) hN.1 (by omega)
 have h:N / m<=N / n:=by
   refine Int.le_ediv_of_mul_le (by omega) (Int.le_trans (Int.mul_le_mul_of_nonneg_left hm g1) g3)
 exact(xK g1 (by omega)).mono (xK h1 (by omega)) h
def NN (s:Int):Int:=s*s*1099511627776
theorem aCc {s:Int} (h:s=1\/s=2\/s=4\/s=8):0<=NN s/\NN s<=288230376151711744:=by rcases h with rfl | rfl | rfl | rfl<;>decide
noncomputable def of1 (s n:Int):Int×Int:=if n < 1 then(0,0) else inv (NN s) n
theorem bFl {s:Int} (h:s=1\/s=2\/s=4\/s=8):decide (s < 1)=false/\decide (s > 8)=false:=by
 rcases h with rfl | rfl | rfl | rfl<;>decide
theorem lt8 {s:Int} (h:s=1\/s=2\/s=4\/s=8):decide (s < 1)=false/\decide (s > 8)=false/\nW s 1 8=true:=by
 rcases h with rfl | rfl | rfl | rfl<;>decide
theorem aW0 {s n:Int} (hs:s=1\/s=2\/s=4\/s=8)(hn:n<=1000000000):(fL n s).1=of1 s n:=by
 obtain⟨e1,e2⟩:=bFl hs
 unfold fL of1
 by_cases h:n < 1
 · rw [bT h,cond_true,if_pos h]
 · have e:W ((W (s*s))*2 ^ (min (toNat 40) 64))=NN s:=by rcases hs with rfl | rfl | rfl | rfl<;>kernel_rfl
   rw [cJ h,cond_false,cJ (show ¬n > 1099511627776 by omega),cond_false,e1,cond_false,e2,cond_false,if_neg h,e,bBv (aCc hs) (by omega)]
theorem aW1 {s n:Int} (hs:s=1\/s=2\/s=4\/s=8)(hn:n<=1000000000):(mK n s).1=of1 s n:=by
 obtain⟨_,_,e3⟩:=lt8 hs
 unfold mK of1
 by_cases h:n < 1
 · rw [tN,cJ (show ¬(1<=n/\n<=1099511627776) by omega),if_pos h];rfl
 · have e:W ((W ((W (1048576*s))*1048576))*s)=NN s:=by rcases hs with rfl | rfl | rfl | rfl<;>kernel_rfl
   rw [e3,tN,bT (show(1<=n/\n<=1099511627776) by omega),if_neg h,e,bBw (aCc hs) (by omega)];rfl
structure OfOk (of:Int->Int×Int):Prop where
 lo:∀n,0<=(of n).1
 le:∀n,(of n).1<=(of n).2
 hi:∀n,(of n).2<=536870913
 mono:∀n m,1<=n->n<=m->(of m).1<=(of n).1
theorem aYu {s:Int} (hs:s=1\/s=2\/s=4\/s=8):OfOk (of1 s):=by
 have hb:∀n,0<=(of1 s n).1/\(of1 s n).1<=(of1 s n).2/\(of1 s n).2<=536870913:=by
   intro n
   unfold of1
   split
   · simp
   · exact aYt (aCc hs) (by omega)
 refine⟨fun n=>(hb n).1,fun n=>(hb n).2.1,fun n=>(hb n).2.2,fun n m h1 h2=>?_⟩
 unfold of1
 rw [if_neg (by omega),if_neg (by omega)]
 exact aQ2 (aCc hs) h1 h2
def fa (c:PN)(x:P3):Int:=mx (mx (mx 0 (ds c.1 x)) (ds c.2.1 x)) (ds c.2.2 x)
def ne (c:PN)(x:P3):Int:=nr (oS c) (oT c) x x
theorem vP {p q:P3} (hp:bd 5000 p)(hq:bd 5000 q):0<=ds p q/\ds p q<=300000000:=by
 have h:=nZ hp hq
 have:=aWy h h
 exact⟨vI _,by unfold ds;omega⟩
theorem bBx {a b:Int} (ha:0<=a)(h:a<=b\/a<=-b):a*a<=b*b:=by
 rcases h with h | h
 · exact Int.mul_le_mul h h ha (by omega)
 · have:=Int.mul_le_mul h h ha (by omega)
   rwa [Int.neg_mul_neg] at this
theorem bBy (a b c d:P3):0<=nr a b c d:=by
 have h1:=jF (gp a.1 b.1 c.1 d.1);have h2:=jF (gp a.2.1 b.2.1 c.2.1 d.2.1);have h3:=jF (gp a.2.2 b.2.2 c.2.2 d.2.2)
 unfold nr;omega
noncomputable def acc (of:Int->Int×Int)(x:P3):List PN->Int×Int->(Int×Int)⊕((Int×Int)×Int)
 | [],v=>.inl v
 | c::l,v=>if ne c x=0 then .inr ((0,0),10) else acc of x l (v.1+(of (fa c x)).1,v.2+(of (ne c x)).2)
def okv (v:Int×Int)(n:Nat):Prop:=0<=v.1/\v.1<=v.2/\v.2+536870913*n<=34359738432
theorem aYv {a n:Int} (hn:n=1\/n=4\/n=16\/n=64)(ha:-1099511627776<=a/\a<=1099511627776):sF a n=a / n:=by
 unfold sF
 have h0:∀b:Int,decide (n < 0)=false:=fun _=>cJ (by omega)
 rw [h0 0]
 have key:(bif ((Int.tmod a n:Int) != 0) then(bif (!(decide (a < 0) == false)) then W (W (Int.tdiv a n) - 1) else W (Int.tdiv a n)) else W (Int.tdiv a n))=if Int.tmod a n≠0/\a < 0 then W (W (Int.tdiv a n) - 1) else W (Int.tdiv a n):=by
   by_cases h1:Int.tmod a n=0
   · rw [h1];simp
   · by_cases h2:a < 0
     · rw [bne_iff_ne.2 h1,bT h2,if_pos ⟨h1,h2⟩];rfl
     · rw [bne_iff_ne.2 h1,cJ h2,if_neg (fun h=>h2 h.2)];rfl
 rw [key]
 rcases Int.lt_or_le a 0 with h | h
 · obtain⟨b,rfl⟩:∃b:Int,a=-b:=⟨-a,by omega⟩
   have hb:0<=b:=by omega
   rw [Int.neg_tdiv,Int.neg_tmod,Int.tdiv_eq_ediv_of_nonneg hb,Int.tmod_eq_emod_of_nonneg hb]
   rcases hn with rfl | rfl | rfl | rfl <;>
   · rw [aE (n:=-(b / _)) (by omega) (by omega)]
     split
     · rw [aE (by omega) (by omega)];omega
     · omega
 · rw [if_neg (by omega),Int.tdiv_eq_ediv_of_nonneg h]
   rcases hn with rfl | rfl | rfl | rfl<;>exact aE (by omega) (by omega)
theorem aYw {a n:Int} (hn:n=1\/n=4\/n=16\/n=64)(ha:-1099511627776<=a/\a<=1099511627776):tM a n=a / n:=by
 unfold tM
 rcases Int.lt_or_le a 0 with h | h
 · obtain⟨b,rfl⟩:∃b:Int,a=-b:=⟨-a,by omega⟩
   have hb:0<=b:=by omega
   rw [Int.neg_tdiv,Int.neg_tmod,Int.tdiv_eq_ediv_of_nonneg hb,Int.tmod_eq_emod_of_nonneg hb]
   by_cases h1:-(b % n) < (0:Int)
   · rw [bT h1,cond_true]
     rcases hn with rfl | rfl | rfl | rfl <;>
     · rw [aE (n:=-(b / _)) (by omega) (by omega),aE (by omega) (by omega)];omega
   · rw [cJ h1,cond_false]
     rcases hn with rfl | rfl | rfl | rfl <;>
     · rw [aE (n:=-(b / _)) (by omega) (by omega)];omega
 · rw [Int.tdiv_eq_ediv_of_nonneg h,Int.tmod_eq_emod_of_nonneg h]
   have:¬a % n < 0:=by have:=Int.emod_nonneg a (show n≠0 by omega);omega
   rw [cJ this,cond_false]
   rcases hn with rfl | rfl | rfl | rfl<;>exact aE (by omega) (by omega)
theorem bBz {a n:Int} (hn:n=1\/n=4\/n=16\/n=64)(ha:-1099511627776<=a/\a<=1099511627776):aBy a n=-(-a / n):=by
 unfold aBy
 rw [aE (n:=0 - a) (by omega) (by omega),aYv hn (by omega),Int.zero_sub]
 rcases hn with rfl | rfl | rfl | rfl<;>exact(aE (by omega) (by omega)).trans (by omega)
theorem bB0 {a n:Int} (hn:n=1\/n=4\/n=16\/n=64)(ha:-1099511627776<=a/\a<=1099511627776):vH a n=-(-a / n):=by
 unfold vH
 rw [aE (n:=0 - a) (by omega) (by omega),aYw hn (by omega),Int.zero_sub]
 rcases hn with rfl | rfl | rfl | rfl<;>exact(aE (by omega) (by omega)).trans (by omega)
def avg (v:Int×Int)(n:Int):Int×Int:=(v.1 / n,-(-v.2 / n))
theorem aCd {a b:Int} (h1:-1099511627776<=a)(h2:a<=b)(h3:b<=1099511627776):pT (a,b)=true:=by
 unfold pT
 rw [bT (show(a,b).1≥-1099511627776 from h1),bT (show(a,b).1<=(a,b).2 from h2),bT (show(a,b).2<=1099511627776 from h3)];rfl
theorem bB1 {v:Int×Int} {n:Int} (hn:n=1\/n=4\/n=16\/n=64)(h:okv v 0):aD0 v.1 v.2 n=avg v n:=by
 unfold okv at h
 unfold aD0 zW kF
 rw [aCd (by omega) (by omega) (by omega)]
 simp only [Bool.not_true,cond_false,bne_self_eq_false]
 rw [cJ (show ¬n < 1 by omega),cJ (show ¬n > 1099511627776 by omega),cond_false,cond_false,aYv hn (by omega),bBz hn (by omega)]
 have:v.1 / n<=-(-v.2 / n)/\-1099511627776<=v.1 / n/\-(-v.2 / n)<=1099511627776:=by
   rcases hn with rfl | rfl | rfl | rfl<;>omega
 rw [aCb this.2.1 this.1 this.2.2];rfl
theorem kT (d:Int):sc d*sc d=1\/sc d*sc d=4\/sc d*sc d=16\/sc d*sc d=64:=by
 rcases qN d with h | h | h | h<;>rw [h]<;>decide
theorem oU {p c:PN} {d:Int} (hp:bdP 64 p)(hd:0<=d/\d<=3)(hc:c∈aR d.toNat p):bdP 512 c:=by
 have key:∀k:Nat,k<=3->c∈aR k p->bdP 512 c:=by
   intro k hk hc
   have:k=0\/k=1\/k=2\/k=3:=by omega
   rcases this with rfl | rfl | rfl | rfl<;>exact(vK (m:=64) _ hp (by decide) (by decide) hc).mono (by decide)
 exact key _ (by omega) hc
theorem aQ3 {p:PN} {d:Int} (hd:0<=d/\d<=3):okv (0,0) (aR d.toNat p).length:=by
 have h:=mV hd p
 have h1:=kT d
 unfold okv;simp only;omega
section
variable {p : PN} {x : P3} {d : Int}
end
end Go.Proofs.YtaeagjnpobdglaaGreat
namespace Go.Proofs.YtaeagjnpobdglaaGreat
open Go.Proofs Go.Aw Go.RowKit
set_option maxRecDepth 100000
def IsUp (T r:Int):Prop:=0<=r/\T<=r*r/\(r=0\/(r - 1)*(r - 1) < T)
theorem IsUp.le {T r m:Int} (h:IsUp T r)(hm:0<=m)(h':T<=m*m):r<=m:=by
 rcases Int.lt_or_le m r with hlt | hle
 · rcases h.2.2 with h0 | h0
   · omega
   · have:=Int.mul_le_mul (show m<=r - 1 by omega) (show m<=r - 1 by omega) hm (by omega)
     omega
 · exact hle
theorem IsUp.eq {T a b:Int} (h:IsUp T a)(h':IsUp T b):a=b:=Int.le_antisymm (h.le h'.1 h'.2.1) (h'.le h.1 h.2.1)
theorem aKr {T:Int} {S:Int×Int->(Int×Int)⊕Int} (hS:∀a b,0<=a->a < b->b<=268435456->S (a,b)=if T<=((a+b) / 2)*((a+b) / 2) then .inl (a,(a+b) / 2) else .inl ((a+b) / 2+1,b))(h0:∀a,S (a,a)=.inr a) :
   ∀(f:Nat) (a b:Int),0<=a->a<=b->b<=268435456->b - a < f->T<=b*b->(a=0\/(a - 1)*(a - 1) < T)->IsUp T (aB S f (a,b)):=by
 intro f
 induction f with
 | zero=>intro a b _ h _ hf;omega
 | succ f ih =>
   intro a b ha hab hb hf h1 h2
   by_cases he:a=b
   · subst he
     rw [aO (h0 a)];exact⟨ha,h1,h2⟩
   · have hs:=hS a b ha (by omega) hb
     by_cases hc:T<=((a+b) / 2)*((a+b) / 2)
     · rw [if_pos hc] at hs
       rw [aA hs]
       exact ih _ _ ha (by omega) (by omega) (by omega) hc h2
     · rw [if_neg hc] at hs
       rw [aA hs]
       refine ih _ _ (by omega) (by omega) hb (by omega) h1 (Or.inr ?_)
       rw [show(a+b) / 2+1 - 1=(a+b) / 2 by omega];omega
def sH (d:Int):Int:=3537128906555392*(sc d*sc d)
theorem bB2 {d:Int} (h:0<=d/\d<=3):W (3537128906555392*2 ^ (min (toNat (W (2*d))) 64))=sH d:=by
 rcases d4 h with rfl | rfl | rfl | rfl<;>kernel_rfl
theorem bB3 {d:Int} (h:0<=d/\d<=3):W ((W ((W (1099511627776*(W (1*2 ^ (min (toNat (IntKind.wrap .u64 d)) 64)))))*(W (1*2 ^ (min (toNat (IntKind.wrap .u64 d)) 64)))))*3217)=sH d:=by
 rcases d4 h with rfl | rfl | rfl | rfl<;>kernel_rfl
theorem aKs (d:Int):3537128906555392<=sH d/\sH d<=226376250019545088:=by
 unfold sH;have:=kT d;omega
def cq (t b:Int):Int:=-(-t / b)
theorem qO {t b:Int} (hb:1<=b):t<=cq t b*b/\(cq t b - 1)*b < t:=by
 have h1:=Int.mul_ediv_add_emod (-t) b
 have h2:=Int.emod_nonneg (-t) (show b≠0 by omega)
 have h3:=Int.emod_lt_of_pos (-t) (show 0 < b by omega)
 unfold cq
 have e:-(-t / b)*b=-(b*(-t / b)):=by rw [Int.neg_mul,Int.mul_comm]
 have e2:(-(-t / b) - 1)*b=-(b*(-t / b)) - b:=by rw [Int.sub_mul,e,Int.one_mul]
 omega
theorem aYx {a n:Int} (hn:1<=n)(ha:-1152921504606846976<=a/\a<=1152921504606846976):tM a n=a / n:=by
 unfold tM
 rcases Int.lt_or_le a 0 with h | h
 · obtain⟨b,rfl⟩:∃b:Int,a=-b:=⟨-a,by omega⟩
   have hb:0<=b:=by omega
   obtain⟨h1,h2,_⟩:=nG hb hn
   have hd:=Int.mul_ediv_add_emod b n
   have hm0:=Int.emod_nonneg b (show n≠0 by omega)
   have hm1:=Int.emod_lt_of_pos b (show 0 < n by omega)
   rw [Int.neg_tdiv,Int.neg_tmod,Int.tdiv_eq_ediv_of_nonneg hb,Int.tmod_eq_emod_of_nonneg hb,aE (n:=-(b / n)) (by omega) (by omega)]
   by_cases h3:-(b % n) < (0:Int)
   · rw [bT h3,cond_true,aE (by omega) (by omega)]
     refine(((Int.ediv_emod_unique (a:=-b) (b:=n) (q:=-(b / n) - 1) (r:=n - b % n) (by omega)).2 ⟨?_,by omega,by omega⟩).1).symm
     rw [Int.mul_sub,Int.mul_neg,Int.mul_one];omega
   · rw [cJ h3,cond_false]
     refine(((Int.ediv_emod_unique (a:=-b) (b:=n) (q:=-(b / n)) (r:=0) (by omega)).2 ⟨?_,by omega,by omega⟩).1).symm
     rw [Int.mul_neg];omega
 · rw [Int.tdiv_eq_ediv_of_nonneg h,Int.tmod_eq_emod_of_nonneg h]
   have:=Int.emod_nonneg a (show n≠0 by omega)
   rw [cJ (by omega),cond_false]
   obtain⟨h1,h2,_⟩:=nG h hn
   exact aE (by omega) (by omega)
theorem aYy {a n:Int} (hn:1<=n)(ha:0<=a/\a<=1152921504606846976):vH a n=cq a n:=by
 unfold vH cq
 have h1:=qO (t:=a) hn
 rw [aE (n:=0 - a) (by omega) (by omega),aYx hn (by omega),Int.zero_sub,Int.zero_sub]
 have h2:0<=cq a n:=by
   rcases Int.lt_or_le (cq a n) 0 with h | h
   · have:=Int.mul_le_mul_of_nonneg_right (show cq a n<=-1 by omega) (show 0<=n by omega);omega
   · exact h
 have h3:cq a n<=a+1:=by
   rcases Int.lt_or_le (a+1) (cq a n) with h | h
   · have:=Int.mul_le_mul_of_nonneg_left hn (show 0<=cq a n - 1 by omega);omega
   · exact h
 unfold cq at h2 h3
 exact aE (by omega) (by omega)
theorem vQ {p:PN} {d:Int} (hp:vp p=0)(hd:0<=d/\d<=3) :
   ∃r,IsRt (dt (lL p) (lL p)) r/\1<=r/\r<=56755/\IsUp (cq (sH d) (128*r)) (bY p d)/\bY p d<=67108864:=by
 obtain⟨r,e,hr,r1,r2⟩:=aQq hp
 have ht:=aKs d
 obtain⟨q1,q2,q3⟩:=nG (N:=sH d) (n:=128*r) (by omega) (by omega)
 have hqb:sH d / (128*r)<=1768564453277696:=by
   rcases Int.lt_or_le 1768564453277696 (sH d / (128*r)) with h | h
   · have:=Int.mul_le_mul_of_nonneg_left (show 128<=128*r by omega) q1;omega
   · exact h
 have hk:=aM3 (n:=sH d / (128*r)) q1 (by omega)
 have hkb:=hk.le (m:=42054304) (by omega) (by omega)
 obtain⟨u1,u2⟩:=qO (t:=sH d) (b:=128*r) (by omega)
 have hm:=Int.mul_ediv_add_emod (sH d) (128*r)
 have hm1:=Int.emod_lt_of_pos (sH d) (show 0 < 128*r by omega)
 refine⟨r,hr,r1,r2,?_⟩
 unfold bY
 rw [e,aE (n:=128*r) (by omega) (by omega),bB2 hd,Int.tdiv_eq_ediv_of_nonneg (by omega),aE (n:=sH d / (128*r)) (by omega) (by omega)]
 generalize lA (sH d / (128*r))=k at *
 have k0:=hk.1;have k1:=hk.2.1;have k2:=hk.2.2
 have k3:0<=k*k:=Int.mul_nonneg k0 k0
 have k4:k*k*(128*r)<=sH d / (128*r)*(128*r):=Int.mul_le_mul_of_nonneg_right k1 (by omega)
 have k5:0<=k*k*(128*r):=Int.mul_nonneg k3 (by omega)
 rw [aE (n:=k*k) (by omega) (by omega),aE (n:=k*k*(128*r)) (by omega) (by omega),aE (n:=k+1) (by omega) (by omega)]
 generalize sH d / (128*r)=q at *
 generalize cq (sH d) (128*r)=T at *
 have hb:0 < 128*r:=by omega
 generalize 128*r=b at *
 have hqT:q<=T:=Int.le_of_mul_le_mul_right (Int.le_trans q3 u1) hb
 have hTq:T<=q+1:=by
   have:(T - 1)*b < (q+1)*b:=by rw [Int.add_mul,Int.mul_comm q b];omega
   have:=Int.lt_of_mul_lt_mul_right this (by omega);omega
 by_cases h:k*k*b < sH d
 · rw [bT h,cond_true]
   refine⟨⟨by omega,by omega,Or.inr ?_⟩,by omega⟩
   rw [show k+1 - 1=k by omega]
   exact Int.lt_of_mul_lt_mul_right (Int.lt_of_lt_of_le h u1) (by omega)
 · rw [cJ h,cond_false]
   refine⟨⟨k0,?_,?_⟩,by omega⟩
   · have:(T - 1)*b < k*k*b:=by omega
     have:=Int.lt_of_mul_lt_mul_right this (by omega);omega
   · rcases Int.lt_or_le 0 k with h0 | h0
     · right
       have:(k - 1)*(k - 1)<=(k - 1)*k:=Int.mul_le_mul_of_nonneg_left (by omega) (by omega)
       have e:(k - 1)*k=k*k - k:=by rw [Int.sub_mul,Int.one_mul]
       omega
     · left;omega
theorem aYz {p:PN} {d:Int} (hp:vp p=0)(hd:0<=d/\d<=3):tP p d=bY p d:=by
 obtain⟨r,hr,r1,r2,hu,hb⟩:=vQ hp hd
 obtain⟨hb',hd'⟩:=gH hp
 obtain⟨hn,hn2⟩:=aQp hb'
 have ht:=aKs d
 have er:sG (cE (lK p) (lK p))=r:=by
   rw [aQo hb',rdt (hn.mono (by omega)) (hn.mono (by omega))]
   exact(aQn (n:=dt (lL p) (lL p)) (by omega) (by omega)).eq hr
 obtain⟨u1,u2⟩:=qO (t:=sH d) (b:=128*r) (by omega)
 have hT:cq (sH d) (128*r)<=1768564453277697:=by
   rcases Int.lt_or_le 1768564453277697 (cq (sH d) (128*r)) with h | h
   · have:=Int.mul_le_mul_of_nonneg_left (show 128<=128*r by omega) (show 0<=cq (sH d) (128*r) - 1 by omega);omega
   · exact h
 refine IsUp.eq ?_ hu
 unfold tP
 refine aKr (T:=cq (sH d) (128*r)) (fun a b ha hab hb=>?_) (fun a=>?_) _ 0 268435456 (by omega) (by omega) (by omega) (by decide) (by omega) (Or.inl rfl)
 · have h2:decide (a < b)=true:=bT hab
   have hq:=aM2 (a:=(a+b) / 2) (by omega) (by omega)
   simp only [nF]
   rw [h2,cond_true,bB3 hd,er,aE (n:=128*r) (by omega) (by omega),aYy (by omega) (by omega),aM0 (by omega),aFp (by omega),aE (n:=(a+b) / 2*((a+b) / 2)) (by omega) (by omega)]
   by_cases hc:cq (sH d) (128*r)<=(a+b) / 2*((a+b) / 2)
   · rw [bT (show(a+b) / 2*((a+b) / 2)≥cq (sH d) (128*r) from hc),if_pos hc];rfl
   · rw [cJ (show ¬(a+b) / 2*((a+b) / 2)≥cq (sH d) (128*r) from hc),if_neg hc];rfl
 · simp [nF]
def fa3 (c q:PN):Int:=mx (mx (mx (mx (mx (mx (mx (mx (mx 0 (ds c.1 q.1)) (ds c.1 q.2.1)) (ds c.1 q.2.2)) (ds c.2.1 q.1)) (ds c.2.1 q.2.1)) (ds c.2.1 q.2.2)) (ds c.2.2 q.1)) (ds c.2.2 q.2.1)) (ds c.2.2 q.2.2)
def uL (c q:PN):Int:=nr (oS c) (oT c) (oS q) (oT q)
theorem bB4 {c q:PN} (hc:bdP 5000 c)(hq:bdP 5000 q):bH [(aK c).1,(aK c).2.1,(aK c).2.2] [(aK q).1,(aK q).2.1,(aK q).2.2]=fa3 c q:=by
 refine(bBo c q.1 q.2.1 q.2.2).trans ?_
 rw [vM hc.1 hq.1,vM hc.1 hq.2.1,vM hc.1 hq.2.2,vM hc.2.1 hq.1,vM hc.2.1 hq.2.1,vM hc.2.1 hq.2.2,vM hc.2.2 hq.1,vM hc.2.2 hq.2.1,vM hc.2.2 hq.2.2];rfl
theorem bB5 {c q:PN} (hc:bdP 5000 c)(hq:bdP 5000 q):jR c [q.1,q.2.1,q.2.2]=fa3 c q:=by
 rw [bBp,vN hc.1 hq.1,vN hc.1 hq.2.1,vN hc.1 hq.2.2,vN hc.2.1 hq.1,vN hc.2.1 hq.2.1,vN hc.2.1 hq.2.2,vN hc.2.2 hq.1,vN hc.2.2 hq.2.1,vN hc.2.2 hq.2.2,aQx];rfl
theorem bB6 {c q:PN} (hc:bdP 5000 c)(hq:bdP 5000 q):bK (aK c) (aK q)=uL c q:=aYp hc hq
theorem bB7 {c q:PN} (hc:bdP 5000 c)(hq:bdP 5000 q):iJ c q=uL c q:=aYq hc hq
theorem aKt {c q:PN} (hc:bdP 5000 c)(hq:bdP 5000 q):fa3 c q<=300000000 :=
 qM (qM (qM (qM (qM (qM (qM (qM (qM (by omega) (vP hc.1 hq.1).2) (vP hc.1 hq.2.1).2) (vP hc.1 hq.2.2).2) (vP hc.2.1 hq.1).2) (vP hc.2.1 hq.2.1).2) (vP hc.2.1 hq.2.2).2) (vP hc.2.2 hq.1).2) (vP hc.2.2 hq.2.1).2) (vP hc.2.2 hq.2.2).2
theorem aKu (c q:PN):ds c.1 q.1<=fa3 c q/\ds c.2.1 q.1<=fa3 c q/\ds c.2.2 q.1<=fa3 c q:=by
 refine⟨?_,?_,?_⟩
 · exact Int.le_trans (kS _ _) (Int.le_trans (dG _ _) (Int.le_trans (dG _ _) (Int.le_trans (dG _ _) (Int.le_trans (dG _ _) (Int.le_trans (dG _ _) (Int.le_trans (dG _ _) (Int.le_trans (dG _ _) (dG _ _))))))))
 · exact Int.le_trans (kS _ _) (Int.le_trans (dG _ _) (Int.le_trans (dG _ _) (Int.le_trans (dG _ _) (Int.le_trans (dG _ _) (dG _ _)))))
 · exact Int.le_trans (kS _ _) (Int.le_trans (dG _ _) (dG _ _))
theorem aKv {a b c d x y:Int} (h1:a<=x)(h2:x<=b)(h3:c<=y)(h4:y<=d):gp a b c d*gp a b c d<=(x - y)*(x - y):=by
 refine bBx (aB9 _ _ _ _) ?_
 unfold gp mx
 (repeat' split)<;>omega
theorem aKw (c q:PN):0<=uL c q/\uL c q<=fa3 c q:=by
 refine⟨bBy _ _ _ _,Int.le_trans ?_ (aKu c q).1⟩
 have h1:=aKv (mB c.1.1 c.2.1.1 c.2.2.1).1 (mC c.1.1 c.2.1.1 c.2.2.1).1 (mB q.1.1 q.2.1.1 q.2.2.1).1 (mC q.1.1 q.2.1.1 q.2.2.1).1
 have h2:=aKv (mB c.1.2.1 c.2.1.2.1 c.2.2.2.1).1 (mC c.1.2.1 c.2.1.2.1 c.2.2.2.1).1 (mB q.1.2.1 q.2.1.2.1 q.2.2.2.1).1 (mC q.1.2.1 q.2.1.2.1 q.2.2.2.1).1
 have h3:=aKv (mB c.1.2.2 c.2.1.2.2 c.2.2.2.2).1 (mC c.1.2.2 c.2.1.2.2 c.2.2.2.2).1 (mB q.1.2.2 q.2.1.2.2 q.2.2.2.2).1 (mC q.1.2.2 q.2.1.2.2 q.2.2.2.2).1
 unfold uL nr ds dt sb
 simp only [oS,oT]
 omega
theorem aQ4 {x y:PN} (h:bdP 100000 x)(hy:y∈aB7 x):lL y=lL x:=by
 unfold aB7 q1 q2 q3 q4 at hy
 rw [pL h.1 h.2.1,pL h.2.2 h.1,pL h.2.1 h.2.2,hG h.1,hG h.2.1,hG h.2.2] at hy
 simp only [List.mem_cons,List.mem_nil_iff,or_false] at hy
 unfold lL cr sb
 rcases hy with rfl | rfl | rfl | rfl<;>simp only [Prod.mk.injEq]<;>refine⟨?_,?_,?_⟩<;>grind
theorem aNa:∀(d:Nat) {m:Int} {p x:PN},bdP m p->m*2 ^ d<=100000->0<=m->x∈aR d p->lL x=lL p
 | 0,m,p,x,h,_,_,hx=>by simp [aR] at hx;subst hx;rfl
 | d+1,m,p,x,h,hm,h0,hx=>by
   rw [gC,List.mem_flatMap] at hx
   obtain⟨y,hy,hx⟩:=hx
   have hp:(0:Int) < 2 ^ d:=Int.pow_pos (by omega)
   have hle:m*2 ^ d<=m*2 ^ (d+1):=Int.mul_le_mul_of_nonneg_left (by rw [Int.pow_succ];omega) h0
   have hb:=vK d h (by omega) h0 hy
   rw [aQ4 (hb.mono (by omega)) hx,aNa d h (by omega) h0 hy]
theorem aKx {p c:PN} {d:Int} (hp:bdP 64 p)(hd:0<=d/\d<=3)(hc:c∈aR d.toNat p):lL c=lL p:=by
 have:d.toNat=0\/d.toNat=1\/d.toNat=2\/d.toNat=3:=by omega
 rcases this with h | h | h | h<;>rw [h] at hc<;>exact aNa (m:=64) _ hp (by decide) (by decide) hc
theorem aQ5 (c:PN)(x:P3) {R:Int} (h1:ds c.1 x<=R)(h2:ds c.2.1 x<=R)(h3:ds c.2.2 x<=R):dt (lL c) (lL c)<=(4*R)*(4*R):=by
 have lag:∀u v:P3,dt (cr u v) (cr u v)<=dt u u*dt v v:=by
   intro u v
   have h:=jF (dt u v)
   have e:dt (cr u v) (cr u v)+dt u v*dt u v=dt u u*dt v v:=by
     unfold dt cr;grind
   omega
 have par:∀a b:P3,dt (sb a b) (sb a b)<=2*ds a x+2*ds b x:=by
   intro a b
   have k:∀s t y:Int,(s - t)*(s - t)<=2*((s - y)*(s - y))+2*((t - y)*(t - y)):=by
     intro s t y
     have:=jF (s+t - 2*y)
     grind
   have k1:=k a.1 b.1 x.1;have k2:=k a.2.1 b.2.1 x.2.1;have k3:=k a.2.2 b.2.2 x.2.2
   unfold ds dt sb;simp only;omega
 have p1:=par c.2.1 c.1;have p2:=par c.2.2 c.1
 refine Int.le_trans (lag _ _) (Int.mul_le_mul (by omega) (by omega) (vI _) ?_)
 have:=vI (sb c.1 x)
 unfold ds at *;omega
theorem bB8 (d:Int):NN (sc d)=sc d*sc d*1099511627776:=rfl
theorem aU6 {p c:PN} {d:Int} (hp:vp p=0)(hd:0<=d/\d<=3)(hc:c∈aR d.toNat p)(x:P3) {R:Int} (h1:ds c.1 x<=R)(h2:ds c.2.1 x<=R)(h3:ds c.2.2 x<=R):(of1 (sc d) R).1<=bY p d:=by
 obtain⟨r,hr,r1,r2,hu,_⟩:=vQ hp hd
 have hR:0<=R:=Int.le_trans (vI _) h1
 have hn:=aQ5 c x h1 h2 h3
 rw [aKx (gH hp).1 hd hc] at hn
 have h4:r<=4*R:=by
   rcases Int.lt_or_le (4*R) r with h | h
   · have:=Int.mul_le_mul (show 4*R+1<=r by omega) (show 4*R+1<=r by omega) (by omega) hr.1
     have e:(4*R+1)*(4*R+1)=(4*R)*(4*R)+8*R+1:=by grind
     have:=hr.2.1;omega
   · exact h
 unfold of1
 rw [if_neg (by omega)]
 obtain⟨k,hk,_,k0,k1,k2,k3,k4,k5⟩:=lM (aCc (qN d)) (show 1<=R by omega)
 unfold inv
 rw [hk]
 simp only
 rcases Int.lt_or_le (bY p d) k with h | h
 · exfalso
   obtain⟨u1,_⟩:=qO (t:=sH d) (b:=128*r) (by omega)
   have v0:=hu.1;have v1:=hu.2.1
   generalize bY p d=m at *
   have e1:cq (sH d) (128*r)*(128*r)<=m*m*(128*r):=Int.mul_le_mul_of_nonneg_right v1 (by omega)
   have e2:m*m<=k*k:=Int.mul_le_mul (by omega) (by omega) v0 k0
   have e3:m*m*(128*r)<=k*k*(512*R):=Int.mul_le_mul e2 (by omega) (by omega) k2
   have e4:k*k*(512*R)=512*(k*k*R):=by grind
   rw [bB8] at k5
   have:=kT d
   unfold sH at *
   omega
 · exact h
def aD1 (lo hi:PN->Int):List PN->Int×Int->Int×Int
 | [],v=>v
 | c::l,v=>aD1 lo hi l (v.1+lo c,v.2+hi c)
theorem vR {lo hi:Int} {v:Int×Int} {n:Nat} (h:okv v (n+1))(h1:0<=lo/\lo<=hi/\hi<=536870913):okv (v.1+lo,v.2+hi) n:=by
 unfold okv at *;simp only;omega
theorem aAm {lo hi:PN->Int}:∀{l:List PN} {v:Int×Int},(∀c∈l,0<=lo c/\lo c<=hi c/\hi c<=536870913)->okv v l.length->okv (aD1 lo hi l v) 0
 | [],v,_,h=>h
 | c::l,v,hl,h=>aAm (l:=l) (fun c hc=>hl c (List.mem_cons_of_mem _ hc)) (vR h (hl c List.mem_cons_self))
theorem aCe {lo hi:PN->Int} {S:Int×Int->PN->Int×Int}:∀{l:List PN} {v:Int×Int},(∀c∈l,0<=lo c/\lo c<=hi c/\hi c<=536870913) ->
   (∀c∈l,∀v:Int×Int,S v c=(W (v.1+lo c),W (v.2+hi c)))->okv v l.length->l.foldl S v=aD1 lo hi l v
 | [],v,_,_,_=>rfl
 | c::l,v,hl,hS,h=>by
   have h1:=vR h (hl c List.mem_cons_self)
   have h2:=h1
   unfold okv at h2;simp only at h2
   rw [List.foldl_cons,hS c List.mem_cons_self v,aE (by omega) (by omega),aE (by omega) (by omega)]
   exact aCe (l:=l) (fun c hc=>hl c (List.mem_cons_of_mem _ hc)) (fun c hc=>hS c (List.mem_cons_of_mem _ hc)) h1
theorem aCf {lo hi:PN->Int} {S:Zt->Zt⊕(Int×Int)} {G:Int×Int->Int×Int} {L:List PN} (hl:∀c∈L,0<=lo c/\lo c<=hi c/\hi c<=536870913)
   (hS:∀(i:Nat) (c:PN),L[i]? = some c->∀v1 v2:Int,S (v1,v2,(i:Int))=.inl (W (v1+lo c),W (v2+hi c),((i+1:Nat):Int)))
   (hE:∀v1 v2:Int,S (v1,v2,(L.length:Int))=.inr (G (v1,v2))) :
   ∀(l:List PN) (i n:Nat) (v:Int×Int),L.drop i=l->i<=L.length->l.length < n->okv v l.length->aB S n (v.1,v.2,(i:Int))=G (aD1 lo hi l v)
 | [],i,n,v,hd,hi',hn,h=>by
   have:i=L.length:=by have:=List.drop_eq_nil_iff.1 hd;omega
   obtain⟨n,rfl⟩:∃m,n=m+1:=⟨n - 1,by simp only [List.length_nil] at hn;omega⟩
   subst this
   rw [aO (hE _ _)];rfl
 | c::l,i,n,v,hd,hi',hn,h=>by
   have hc:L[i]? = some c:=by
     have:(L.drop i)[0]? = some c:=by rw [hd];rfl
     simpa using this
   obtain⟨hlt,hce⟩:=List.getElem?_eq_some_iff.1 hc
   obtain⟨n,rfl⟩:∃m,n=m+1:=⟨n - 1,by omega⟩
   have h1:=vR h (hl c (hce▸List.getElem_mem hlt))
   have h2:=h1
   unfold okv at h2;simp only at h2
   rw [aA (hS i c hc v.1 v.2),aE (by omega) (by omega),aE (by omega) (by omega)]
   exact aCf hl hS hE l (i+1) n _ (by rw [←List.drop_drop,hd];rfl) (by omega) (by simp only [List.length_cons] at hn;omega) h1
noncomputable def bLo (d:Int)(q c:PN):Int:=(of1 (sc d) (fa3 c q)).1
noncomputable def sI (R d:Int)(q c:PN):Int:=if 0 < uL c q then(if(of1 (sc d) (uL c q)).2 < R then(of1 (sc d) (uL c q)).2 else R) else R
theorem aY0 {p q:PN} {d:Int} (hp:vp p=0)(hd:0<=d/\d<=3):∀c∈aR d.toNat p,0<=bLo d q c/\bLo d q c<=sI (bY p d) d q c/\sI (bY p d) d q c<=536870913:=by
 intro c hc
 obtain⟨_,_,_,_,_,hub⟩:=vQ hp hd
 have ho:=aYu (qN d)
 obtain⟨g1,g2,g3⟩:=aKu c q
 have hl:=aU6 hp hd hc q.1 g1 g2 g3
 have hn:=aKw c q
 have h0:=ho.lo (fa3 c q)
 unfold bLo sI
 split
 · rename_i hz
   have h1:=ho.mono (uL c q) (fa3 c q) (by omega) hn.2;have h2:=ho.le (uL c q)
   split<;>omega
 · omega
noncomputable def iK (p q:PN)(d:Int):Int×Int:=avg (aD1 (bLo d q) (sI (bY p d) d q) (aR d.toNat p) (0,0)) (sc d*sc d)
section
variable {p q : PN} {d : Int}
theorem aQ6 (hp:vp p=0)(hq:bdP 5000 q)(hd:0<=d/\d<=3):F92 p q d=iK p q d:=by
 have hk:=aQ3 (p:=p) hd
 have hb:=aY0 (q:=q) hp hd
 unfold F92 iK
 rw [aCe hb (fun c hc v=>?_) hk]
 · show aD0 _ _ _=_
   rw [bBs hd,bB1 (kT d) (aAm hb hk)]
 · have hcb:=(oU (gH hp).1 hd hc).mono (show(512:Int)<=5000 by omega)
   obtain⟨v1,v2⟩:=v
   have h1:=aKt hcb hq;have h2:=aKw c q
   simp only [zE]
   rw [aYr hd,bB6 hcb hq,bB4 hcb hq,aW0 (qN d) (by omega),aW0 (qN d) (by omega)]
   unfold bLo sI
   by_cases h:0 < uL c q
   · rw [if_pos h,bT (show uL c q > 0 from h),cond_true]
   · rw [if_neg h,cJ (show ¬uL c q > 0 from h),cond_false]
theorem aW2 (hp:vp p=0)(hq:bdP 5000 q)(hd:0<=d/\d<=3):vL p d q=iK p q d:=by
 have hk:=aQ3 (p:=p) hd
 have hb:=aY0 (q:=q) hp hd
 have hL:=bBl (gH hp).1 hd
 have hl:=mV hd p
 unfold vL iK
 rw [show((0,0,0):Zt)=(((0,0):Int×Int).1,((0,0):Int×Int).2,((0:Nat):Int)) from rfl,
   aCf hb (S:=mA p d q) (G:=fun v=>(tM v.1 (sc d*sc d),vH v.2 (sc d*sc d))) (fun i c hi v1 v2=>?_) (fun v1 v2=>?_) (aR d.toNat p) 0 _ (0,0) rfl (Nat.zero_le _) (by rw [hL];omega) hk]
 · have hu:=aAm hb hk
   unfold okv at hu
   rw [aYw (kT d) (by omega),bB0 (kT d) (by omega)];rfl
 · obtain⟨hlt,hc⟩:=List.getElem?_eq_some_iff.1 hi
   have hm:c∈aR d.toNat p:=hc▸List.getElem_mem hlt
   have hcb:=(oU (gH hp).1 hd hm).mono (show(512:Int)<=5000 by omega)
   have hg:(aR d.toNat p).getD i default=c:=by rw [eZ,hi];rfl
   have h1:=aKt hcb hq;have h2:=aKw c q
   simp only [mA]
   rw [hL,bT (show((i:Nat):Int) < ((aR d.toNat p).length:Nat) by omega),cond_true,uM,hg,bBr hd,bB7 hcb hq,bB5 hcb hq,aW1 (qN d) (by omega),aW1 (qN d) (by omega),aYz hp hd]
   unfold bLo sI
   by_cases h:0 < uL c q
   · rw [if_pos h,bT (show uL c q > 0 from h),cond_true];rfl
   · rw [if_neg h,cJ (show ¬uL c q > 0 from h),cond_false];rfl
 · simp only [mA]
   rw [hL,cJ (Int.lt_irrefl _),cond_false,hl]
end
def lN (s:Int)(q:PN):PN:=(tm s q.1,tm s q.2.1,tm s q.2.2)
theorem aGe {q:PN} {s:Int} (hs:1<=s/\s<=8)(hq:bdP 64 q):bdP 5000 (lN s q) :=
 ⟨(aM9 hs (by omega) hq.1).mono (by omega),(aM9 hs (by omega) hq.2.1).mono (by omega),(aM9 hs (by omega) hq.2.2).mono (by omega)⟩
theorem aKy (p q:PN)(d:Int):uK p q d=mD p q d:=by
 unfold uK mD
 rw [aAl,rK]
 by_cases h:pk p q d=0
 · obtain⟨h1,h2,h3⟩:=vO h
   have hs:=aM8 d
   have hq:=(gH h2).1
   have hq':=hq.mono (show(64:Int)<=4096 by omega)
   have hd:0<=d/\d<=3:=by omega
   rw [aYr hd,bBr hd,aOv hs hq'.1,aOv hs hq'.2.1,aOv hs hq'.2.2,aYs hs hq'.1,aYs hs hq'.2.1,aYs hs hq'.2.2]
   have e1:=aQ6 h1 (aGe hs hq) hd
   have e2:=aW2 h1 (aGe hs hq) hd
   unfold lN at e1 e2
   rw [e1,e2]
 · rw [bne_iff_ne.2 h,cond_true,cond_true]
end Go.Proofs.YtaeagjnpobdglaaGreat
namespace Go.Proofs.YtaeagjnpobdglaaGreat
open Go.Proofs Go.Aw Go.RowKit
set_option maxRecDepth 100000
theorem aW3 {a:Int×Int} (h:((kF a:Int) != 0)=false):-1099511627776<=a.1/\a.1<=a.2/\a.2<=1099511627776:=by
 have h:kF a=0:=by simpa using h
 unfold kF at h
 cases h0:pT a with
 | false=>rw [h0] at h;cases h
 | true =>
   unfold pT at h0
   by_cases h1:a.1≥-1099511627776
   · by_cases h2:a.1<=a.2
     · rw [bT h1,cond_true,bT h2,cond_true] at h0
       exact⟨h1,h2,bO h0⟩
     · rw [bT h1,cond_true,cJ h2,cond_false] at h0;cases h0
   · rw [cJ h1,cond_false] at h0;cases h0
def F46 (a0:Int):Bool :=
 (bif (decide ((a0:Int)≥(-1099511627776))) then
  (decide ((a0:Int)<=1099511627776))
 else
  false)
theorem C46 (a0:Int):Con Tryz.prog 46 [(iv a0)] [] (.v (.bool (F46 a0))) []:=by
 refine aJ Tryz.func46 (by kernel_rfl) fun cx hcx=>?_
 cases h0:(decide ((a0:Int)≥(-1099511627776))) with
 | true =>
  have q0:=bO h0
  have e:=Eq.refl (F46 a0);conv at e=>rhs;simp only [F46,h0,aI]
  rw [e]
  exact rt [.d h0] [] [] hcx (by kernel_rfl)
 | false =>
  have q0:=cA h0
  have e:=Eq.refl (F46 a0);conv at e=>rhs;simp only [F46,h0,aI]
  rw [e]
  exact rt [.d h0] [] [] hcx (by kernel_rfl)
def oA (a0:Int×Int)(a1:Int):(Int×Int)×Int :=
 (bif (((kF a0):Int) != 0) then
  ((0,0),(kF a0))
 else
  (bif (!(F46 a1)) then
   ((0,0),1)
  else
   ((qL (if((pQ a0.2 a1):Int) < (pQ a0.1 a1) then(pQ a0.2 a1) else(pQ a0.1 a1)) (if((pQ a0.1 a1):Int) < (pQ a0.2 a1) then(pQ a0.2 a1) else(pQ a0.1 a1))).1,(qL (if((pQ a0.2 a1):Int) < (pQ a0.1 a1) then(pQ a0.2 a1) else(pQ a0.1 a1)) (if((pQ a0.1 a1):Int) < (pQ a0.2 a1) then(pQ a0.2 a1) else(pQ a0.1 a1))).2)))
theorem C17 (a0:Int×Int)(a1:Int):Con Tryz.prog 17 [(.a [(iv a0.1),(iv a0.2)]),(iv a1)] [] (.t [(.a (k2 (oA a0 a1).1)),(iv (oA a0 a1).2)]) []:=by
 refine aJ Tryz.func17 (by kernel_rfl) fun cx hcx=>?_
 let t0:List (St Tryz.prog):=[.c [2] (aWw a0)]
 cases h0:(((kF a0):Int) != 0) with
 | true =>
  have q0:=bne_iff_ne.1 h0
  have e:=Eq.refl (oA a0 a1);conv at e=>rhs;simp only [oA,h0,aI]
  rw [e]
  exact rt (t0++[.d h0]) [] [] hcx (by kernel_rfl)
 | false =>
  have q0:=bne_eq_false_iff_eq.1 h0
  let t1:List (St Tryz.prog):=(t0++[.d h0,.c [] (C46 a1)])
  cases h1:(!(F46 a1)) with
  | true =>
   have e:=Eq.refl (oA a0 a1);conv at e=>rhs;simp only [oA,h0,h1,aI]
   rw [e]
   exact rt (t1++[.d h1]) [] [] hcx (by kernel_rfl)
  | false =>
   have e:=Eq.refl (oA a0 a1);conv at e=>rhs;simp only [oA,h0,h1,aI]
   rw [e]
   exact rt (t1++[.d h1,.c [] (C47 a0.1 a1  (by have:=aW3 h0;omega)),.c [] (C47 a0.2 a1  (by have:=aW3 h0;omega)),.c [] (C48 (if((pQ a0.2 a1):Int) < (pQ a0.1 a1) then(pQ a0.2 a1) else(pQ a0.1 a1)) (if((pQ a0.1 a1):Int) < (pQ a0.2 a1) then(pQ a0.2 a1) else(pQ a0.1 a1)))]) [] [] hcx (by kernel_rfl)
def nH (a0:Int):Int :=
 (bif (decide ((a0:Int) < 0)) then
  (IntKind.wrap .u64 (W (0 - a0)))
 else
  (IntKind.wrap .u64 a0))
theorem bB9 (a0:Int):Con Tryz.prog 168 [(iv a0)] [] (.v (.int .u64 (nH a0))) []:=by
 refine aJ Tryz.func168 (by kernel_rfl) fun cx hcx=>?_
 cases h0:(decide ((a0:Int) < 0)) with
 | true =>
  have q0:=bO h0
  have e:=Eq.refl (nH a0);conv at e=>rhs;simp only [nH,h0,aI]
  rw [e]
  exact rt [.d h0] [] [] hcx (by kernel_rfl)
 | false =>
  have q0:=cA h0
  have e:=Eq.refl (nH a0);conv at e=>rhs;simp only [nH,h0,aI]
  rw [e]
  exact rt [.d h0] [] [] hcx (by kernel_rfl)
def fS (a0:Int)(a1:Int):Int×Int :=
 ((IntKind.wrap .u64 ((IntKind.wrap .u64 ((IntKind.wrap .u64 ((Int.fdiv a0 (2 ^ (min (toNat 32) 64)))*(Int.fdiv a1 (2 ^ (min (toNat 32) 64)))))+(Int.fdiv (IntKind.wrap .u64 ((IntKind.wrap .u64 ((Int.fdiv a0 (2 ^ (min (toNat 32) 64)))*(IntKind.wrap .u64 ((BitVec.ofInt 64 a1 &&& BitVec.ofInt 64 4294967295).toNat:Int))))+(Int.fdiv (IntKind.wrap .u64 ((IntKind.wrap .u64 ((BitVec.ofInt 64 a0 &&& BitVec.ofInt 64 4294967295).toNat:Int))*(IntKind.wrap .u64 ((BitVec.ofInt 64 a1 &&& BitVec.ofInt 64 4294967295).toNat:Int)))) (2 ^ (min (toNat 32) 64))))) (2 ^ (min (toNat 32) 64)))))+(Int.fdiv (IntKind.wrap .u64 ((IntKind.wrap .u64 ((BitVec.ofInt 64 (IntKind.wrap .u64 ((IntKind.wrap .u64 ((Int.fdiv a0 (2 ^ (min (toNat 32) 64)))*(IntKind.wrap .u64 ((BitVec.ofInt 64 a1 &&& BitVec.ofInt 64 4294967295).toNat:Int))))+(Int.fdiv (IntKind.wrap .u64 ((IntKind.wrap .u64 ((BitVec.ofInt 64 a0 &&& BitVec.ofInt 64 4294967295).toNat:Int))*(IntKind.wrap .u64 ((BitVec.ofInt 64 a1 &&& BitVec.ofInt 64 4294967295).toNat:Int)))) (2 ^ (min (toNat 32) 64))))) &&& BitVec.ofInt 64 4294967295).toNat:Int))+(IntKind.wrap .u64 ((IntKind.wrap .u64 ((BitVec.ofInt 64 a0 &&& BitVec.ofInt 64 4294967295).toNat:Int))*(Int.fdiv a1 (2 ^ (min (toNat 32) 64))))))) (2 ^ (min (toNat 32) 64))))),(IntKind.wrap .u64 (a0*a1)))
theorem aU7 (a0:Int)(a1:Int):Con Tryz.prog 141 [(.v (.int .u64 a0)),(.v (.int .u64 a1))] [] (.t [(.v (.int .u64 (fS a0 a1).1)),(.v (.int .u64 (fS a0 a1).2))]) []:=by
 refine aJ Tryz.func141 (by kernel_rfl) fun cx hcx=>?_
 have e:=Eq.refl (fS a0 a1);conv at e=>rhs;simp only [fS]
 rw [e]
 exact rt [.p (show 0<=(32:Int) from by decide),.p (show 0<=(32:Int) from by decide),.p (show 0<=(32:Int) from by decide),.p (show 0<=(32:Int) from by decide),.p (show 0<=(32:Int) from by decide)] [] [] hcx (by kernel_rfl)
def jS (a0:Int)(a1:Int):Int :=
 (bif (((fS (nH a0) (nH a1)).1:Int) == 0) then
  (bif (decide (((fS (nH a0) (nH a1)).2:Int)<=1099511627776)) then
   (bif (!((decide ((a0:Int) < 0)) == (decide ((a1:Int) < 0)))) then
    (W (0 - (W (fS (nH a0) (nH a1)).2)))
   else
    (W (fS (nH a0) (nH a1)).2))
  else
   (bif (!((decide ((a0:Int) < 0)) == (decide ((a1:Int) < 0)))) then
    (-1099511627777)
   else
    1099511627777))
 else
  (bif (!((decide ((a0:Int) < 0)) == (decide ((a1:Int) < 0)))) then
   (-1099511627777)
  else
   1099511627777))
theorem aU8 (a0:Int)(a1:Int):Con Tryz.prog 155 [(iv a0),(iv a1)] [] (iv (jS a0 a1)) []:=by
 refine aJ Tryz.func155 (by kernel_rfl) fun cx hcx=>?_
 let t0:List (St Tryz.prog):=[.c [] (bB9 a0),.c [] (bB9 a1),.c [] (aU7 (nH a0) (nH a1))]
 cases h0:(((fS (nH a0) (nH a1)).1:Int) == 0) with
 | true =>
  have q0:=eq_of_beq h0
  let t1:List (St Tryz.prog):=(t0++[.d h0])
  cases h1:(decide (((fS (nH a0) (nH a1)).2:Int)<=1099511627776)) with
  | true =>
   have q1:=bO h1
   let t2:List (St Tryz.prog):=(t1++[.d h1])
   cases h2:(!((decide ((a0:Int) < 0)) == (decide ((a1:Int) < 0)))) with
   | true =>
    have e:=Eq.refl (jS a0 a1);conv at e=>rhs;simp only [jS,h0,h1,h2,aI]
    rw [e]
    exact rt (t2++[.d h2]) [] [] hcx (by kernel_rfl)
   | false =>
    have e:=Eq.refl (jS a0 a1);conv at e=>rhs;simp only [jS,h0,h1,h2,aI]
    rw [e]
    exact rt (t2++[.d h2]) [] [] hcx (by kernel_rfl)
  | false =>
   have q1:=cA h1
   let t2:List (St Tryz.prog):=(t1++[.d h1])
   cases h2:(!((decide ((a0:Int) < 0)) == (decide ((a1:Int) < 0)))) with
   | true =>
    have e:=Eq.refl (jS a0 a1);conv at e=>rhs;simp only [jS,h0,h1,h2,aI]
    rw [e]
    exact rt (t2++[.d h2]) [] [] hcx (by kernel_rfl)
   | false =>
    have e:=Eq.refl (jS a0 a1);conv at e=>rhs;simp only [jS,h0,h1,h2,aI]
    rw [e]
    exact rt (t2++[.d h2]) [] [] hcx (by kernel_rfl)
 | false =>
  have q0:=ne_of_beq_false h0
  let t1:List (St Tryz.prog):=(t0++[.d h0])
  cases h1:(!((decide ((a0:Int) < 0)) == (decide ((a1:Int) < 0)))) with
  | true =>
   have e:=Eq.refl (jS a0 a1);conv at e=>rhs;simp only [jS,h0,h1,aI]
   rw [e]
   exact rt (t1++[.d h1]) [] [] hcx (by kernel_rfl)
  | false =>
   have e:=Eq.refl (jS a0 a1);conv at e=>rhs;simp only [jS,h0,h1,aI]
   rw [e]
   exact rt (t1++[.d h1]) [] [] hcx (by kernel_rfl)
def fZ (a0:Int×Int)(a1:Int):(Int×Int)×Int :=
 (bif (!(F51 a0)) then
  ((0,0),1)
 else
  (bif (!(nW a1 (-1099511627776) 1099511627776)) then
   ((0,0),1)
  else
   (bif (decide ((a1:Int) < 0)) then
    ((iY (jS a0.2 a1) (jS a0.1 a1)).1,(iY (jS a0.2 a1) (jS a0.1 a1)).2)
   else
    ((iY (jS a0.1 a1) (jS a0.2 a1)).1,(iY (jS a0.1 a1) (jS a0.2 a1)).2))))
theorem bCa (a0:Int×Int)(a1:Int):Con Tryz.prog 136 [(.a [(iv a0.1),(iv a0.2)]),(iv a1)] [] (.t [(.a (k2 (fZ a0 a1).1)),(iv (fZ a0 a1).2)]) []:=by
 refine aJ Tryz.func136 (by kernel_rfl) fun cx hcx=>?_
 let t0:List (St Tryz.prog):=[.c [] (C51 a0)]
 cases h0:(!(F51 a0)) with
 | true =>
  have e:=Eq.refl (fZ a0 a1);conv at e=>rhs;simp only [fZ,h0,aI]
  rw [e]
  exact rt (t0++[.d h0]) [] [] hcx (by kernel_rfl)
 | false =>
  let t1:List (St Tryz.prog):=(t0++[.d h0,.c [] (aUy a1 (-1099511627776) 1099511627776)])
  cases h1:(!(nW a1 (-1099511627776) 1099511627776)) with
  | true =>
   have e:=Eq.refl (fZ a0 a1);conv at e=>rhs;simp only [fZ,h0,h1,aI]
   rw [e]
   exact rt (t1++[.d h1]) [] [] hcx (by kernel_rfl)
  | false =>
   let t2:List (St Tryz.prog):=(t1++[.d h1])
   cases h2:(decide ((a1:Int) < 0)) with
   | true =>
    have q2:=bO h2
    have e:=Eq.refl (fZ a0 a1);conv at e=>rhs;simp only [fZ,h0,h1,h2,aI]
    rw [e]
    exact rt (t2++[.d h2,.c [] (aU8 a0.2 a1),.c [] (aU8 a0.1 a1),.c [] (aDy (jS a0.2 a1) (jS a0.1 a1))]) [] [] hcx (by kernel_rfl)
   | false =>
    have q2:=cA h2
    have e:=Eq.refl (fZ a0 a1);conv at e=>rhs;simp only [fZ,h0,h1,h2,aI]
    rw [e]
    exact rt (t2++[.d h2,.c [] (aU8 a0.1 a1),.c [] (aU8 a0.2 a1),.c [] (aDy (jS a0.1 a1) (jS a0.2 a1))]) [] [] hcx (by kernel_rfl)
theorem vS (n:Int):IntKind.wrap .u64 n=n % 18446744073709551616:=by
 simp [IntKind.wrap,IntKind.bits,IntKind.signed]
theorem aY1 (a:Int):Int.fdiv a (2 ^ (min (toNat 32) 64))=a / 4294967296:=by
 rw [show(2:Int) ^ (min (toNat 32) 64)=4294967296 from by kernel_rfl]
 exact Int.fdiv_eq_ediv_of_nonneg _ (by omega)
theorem bCb (a:Int):((BitVec.ofInt 64 a &&& BitVec.ofInt 64 4294967295).toNat:Int)=a % 4294967296:=by
 rw [BitVec.toNat_and,show(BitVec.ofInt 64 4294967295).toNat=2 ^ 32 - 1 from by kernel_rfl,Nat.and_two_pow_sub_one_eq_mod,BitVec.toNat_ofInt]
 have h0:=Int.emod_nonneg a (show(18446744073709551616:Int)≠0 by omega)
 rw [show((2 ^ 64:Nat):Int)=18446744073709551616 from by kernel_rfl]
 have h1:(((a % 18446744073709551616).toNat:Nat):Int)=a % 18446744073709551616:=Int.toNat_of_nonneg h0
 rw [Int.natCast_emod,h1]
 show a % 18446744073709551616 % 4294967296=_
 omega
theorem aQ7 {x y:Int} (hx:0<=x/\x<=1099511627776)(hy:0<=y/\y<=1099511627776):fS x y=(x*y / 18446744073709551616,x*y % 18446744073709551616):=by
 unfold fS
 simp only [vS,aY1,bCb]
 have e0:∀n:Int,n % 4294967296 % 18446744073709551616=n % 4294967296:=fun n=>by omega
 simp only [e0]
 have key:x*y=(x / 4294967296*(y / 4294967296))*18446744073709551616+(x / 4294967296*(y % 4294967296)+x % 4294967296*(y / 4294967296))*4294967296+x % 4294967296*(y % 4294967296):=by
   have h1:=Int.mul_ediv_add_emod x 4294967296
   have h2:=Int.mul_ediv_add_emod y 4294967296
   generalize x / 4294967296=x1 at *
   generalize x % 4294967296=x0 at *
   generalize y / 4294967296=y1 at *
   generalize y % 4294967296=y0 at *
   subst h1;subst h2;grind
 have b1:=bD (a:=256) (b:=256) (x:=x / 4294967296) (y:=y / 4294967296) (by omega) (by omega)
 have b2:=bD (a:=256) (b:=4294967295) (x:=x / 4294967296) (y:=y % 4294967296) (by omega) (by omega)
 have b3:=bD (a:=4294967295) (b:=256) (x:=x % 4294967296) (y:=y / 4294967296) (by omega) (by omega)
 have b4:=bD (a:=4294967295) (b:=4294967295) (x:=x % 4294967296) (y:=y % 4294967296) (by omega) (by omega)
 have n1:0<=x / 4294967296*(y / 4294967296):=Int.mul_nonneg (by omega) (by omega)
 have n2:0<=x / 4294967296*(y % 4294967296):=Int.mul_nonneg (by omega) (by omega)
 have n3:0<=x % 4294967296*(y / 4294967296):=Int.mul_nonneg (by omega) (by omega)
 have n4:0<=x % 4294967296*(y % 4294967296):=Int.mul_nonneg (by omega) (by omega)
 generalize x*y=m at *
 generalize x / 4294967296*(y / 4294967296)=d at *
 generalize x / 4294967296*(y % 4294967296)=b at *
 generalize x % 4294967296*(y / 4294967296)=c at *
 generalize x % 4294967296*(y % 4294967296)=a at *
 rw [Prod.mk.injEq]
 exact⟨by omega,rfl⟩
def mI (x n:Int):Int:=if 1099511627776 < x*n then 1099511627777 else if x*n < -1099511627776 then -1099511627777 else x*n
theorem aQ8 (x n:Int):(x*n=(if x < 0 then 0 - x else x)*(if n < 0 then 0 - n else n)/\((x < 0)=(n < 0)))\/(x*n=-((if x < 0 then 0 - x else x)*(if n < 0 then 0 - n else n))/\¬((x < 0)=(n < 0))):=by
 by_cases h1:x < 0
 · by_cases h2:n < 0
   · left;rw [if_pos h1,if_pos h2];exact⟨by grind,by simp [h1,h2]⟩
   · right;rw [if_pos h1,if_neg h2];exact⟨by grind,by simp [h1,h2]⟩
 · by_cases h2:n < 0
   · right;rw [if_neg h1,if_pos h2];exact⟨by grind,by simp [h1,h2]⟩
   · left;rw [if_neg h1,if_neg h2];exact⟨by grind,by simp [h1,h2]⟩
theorem aQ9 {x n:Int} (hx:-1099511627776<=x/\x<=1099511627776)(hn:-1099511627776<=n/\n<=1099511627776):jS x n=mI x n:=by
 have hsz:∀z:Int,-1099511627776<=z/\z<=1099511627776->nH z=if z < 0 then 0 - z else z:=by
   intro z hz
   unfold nH
   by_cases h:z < 0
   · rw [bT h,cond_true,if_pos h,aE (by omega) (by omega),vS];omega
   · rw [cJ h,cond_false,if_neg h,vS];omega
 unfold jS mI
 rw [hsz x hx,hsz n hn,aQ7 (by split<;>omega) (by split<;>omega)]
 have hm:=aQ8 x n
 have hnn:0<=(if x < 0 then 0 - x else x)*(if n < 0 then 0 - n else n):=Int.mul_nonneg (by split<;>omega) (by split<;>omega)
 generalize (if x < 0 then 0 - x else x)*(if n < 0 then 0 - n else n)=m at *
 have e:(!(decide (x < 0) == decide (n < 0)))=decide (x*n=-m/\¬((x < 0)=(n < 0))):=by
   by_cases h1:x < 0<;>by_cases h2:n < 0<;>simp [h1,h2] at hm ⊢<;>omega
 rw [e]
 simp only
 by_cases h1:m / 18446744073709551616=0
 · rw [beq_iff_eq.2 h1,cond_true]
   have h2:m % 18446744073709551616=m:=by omega
   rw [h2]
   by_cases h3:m<=1099511627776
   · rw [bT h3,cond_true,aE (n:=m) (by omega) (by omega),aE (n:=0 - m) (by omega) (by omega)]
     rcases hm with⟨q1,q2⟩ | ⟨q1,q2⟩
     · rw [cJ (fun h=>h.2 q2),cond_false,q1,if_neg (by omega),if_neg (by omega)]
     · rw [bT ⟨q1,q2⟩,cond_true,q1,if_neg (by omega),if_neg (by omega)];omega
   · rw [cJ h3,cond_false]
     rcases hm with⟨q1,q2⟩ | ⟨q1,q2⟩
     · rw [cJ (fun h=>h.2 q2),cond_false,q1,if_pos (by omega)]
     · rw [bT ⟨q1,q2⟩,cond_true,q1,if_neg (by omega),if_pos (by omega)]
 · rw [beq_eq_false_iff_ne.2 h1,cond_false]
   rcases hm with⟨q1,q2⟩ | ⟨q1,q2⟩
   · rw [cJ (fun h=>h.2 q2),cond_false,q1,if_pos (by omega)]
   · rw [bT ⟨q1,q2⟩,cond_true,q1,if_neg (by omega),if_pos (by omega)]
theorem aRa {x n:Int} (hx:-1099511627776<=x/\x<=1099511627776)(hn:-1099511627776<=n/\n<=1099511627776):pQ x n=mI x n:=by
 have hm:=aQ8 x n
 have ha:∀z:Int,(-1099511627776<=z/\z<=1099511627776)->(if(z:Int) < (W (0 - z)) then(W (0 - z)) else z)=if z < 0 then 0 - z else z:=by
   intro z hz
   rw [aE (n:=0 - z) (by omega) (by omega)]
   (repeat' split)<;>omega
 unfold pQ mI
 rw [ha x hx,ha n hn]
 by_cases hx0:x=0
 · subst hx0;simp [aE]
 by_cases hn0:n=0
 · subst hn0;simp [aE]
 rw [bne_iff_ne.2 hx0,bne_iff_ne.2 hn0,cond_true,cond_true]
 have a1:1<=(if x < 0 then 0 - x else x)/\(if x < 0 then 0 - x else x)<=1099511627776:=by split<;>omega
 have a2:1<=(if n < 0 then 0 - n else n)/\(if n < 0 then 0 - n else n)<=1099511627776:=by split<;>omega
 have e:(!(decide (x < 0) == decide (n < 0)))=decide (x*n=-((if x < 0 then 0 - x else x)*(if n < 0 then 0 - n else n))/\¬((x < 0)=(n < 0))):=by
   by_cases h1:x < 0<;>by_cases h2:n < 0<;>simp [h1,h2] at hm ⊢<;>omega
 rw [e]
 generalize (if x < 0 then 0 - x else x)=ax at *
 generalize (if n < 0 then 0 - n else n)=an at *
 rw [Int.tdiv_eq_ediv_of_nonneg (by omega)]
 obtain⟨d1,d2,d3⟩:=nG (N:=1099511627776) (n:=ax) (by omega) (by omega)
 have d4:=Int.mul_ediv_add_emod 1099511627776 ax
 have d5:=Int.emod_lt_of_pos 1099511627776 (show 0 < ax by omega)
 rw [aE (n:=1099511627776 / ax) (by omega) (by omega)]
 have hbig:an > 1099511627776 / ax↔1099511627776 < ax*an:=by
   constructor
   · intro h
     have:=Int.mul_le_mul_of_nonneg_left (show 1099511627776 / ax+1<=an by omega) (show 0<=ax by omega)
     rw [Int.mul_add,Int.mul_one] at this;omega
   · intro h
     rcases Int.lt_or_le (1099511627776 / ax) an with h' | h'
     · exact h'
     · have:=Int.mul_le_mul_of_nonneg_left h' (show 0<=ax by omega)
       rw [Int.mul_comm] at d3;omega
 by_cases hb:an > 1099511627776 / ax
 · rw [bT hb,cond_true]
   have:=hbig.1 hb
   rcases hm with⟨q1,q2⟩ | ⟨q1,q2⟩
   · rw [cJ (fun h=>h.2 q2),cond_false,q1,if_pos (by omega)]
   · rw [bT ⟨q1,q2⟩,cond_true,q1,if_neg (by omega),if_pos (by omega)]
 · rw [cJ hb,cond_false]
   have h1:ax*an<=1099511627776:=by
     rcases Int.lt_or_le 1099511627776 (ax*an) with h | h
     · exact absurd (hbig.2 h) hb
     · exact h
   have h2:0<=ax*an:=Int.mul_nonneg (by omega) (by omega)
   rcases hm with⟨q1,q2⟩ | ⟨q1,q2⟩<;>rw [q1,if_neg (by omega),if_neg (by omega)]<;>exact aE (by omega) (by omega)
theorem aCg {x y n:Int} (h:x<=y)(hn:0<=n):mI x n<=mI y n:=by
 have:=Int.mul_le_mul_of_nonneg_right h hn
 unfold mI;(repeat' split)<;>omega
theorem aRb {x y n:Int} (h:x<=y)(hn:n<=0):mI y n<=mI x n:=by
 have:=Int.mul_le_mul_of_nonpos_right h hn
 unfold mI;(repeat' split)<;>omega
def scl (a:Int×Int)(n:Int):Int×Int:=if n < 0 then(mI a.2 n,mI a.1 n) else(mI a.1 n,mI a.2 n)
def vs (a:Int×Int):Prop:=-1099511627776<=a.1/\a.1<=a.2/\a.2<=1099511627776
theorem aGf {a:Int×Int} {n:Int} (ha:vs a)(hn:-1099511627776<=n/\n<=1099511627776):oA a n=qL (scl a n).1 (scl a n).2:=by
 obtain⟨h1,h2,h3⟩:=ha
 unfold oA kF F46
 rw [aCd (a:=a.1) (b:=a.2) h1 h2 h3,bT (show n≥-1099511627776 from hn.1),bT hn.2,aRa (x:=a.1) (by omega) hn,aRa (x:=a.2) (by omega) hn]
 show((qL _ _).1,(qL _ _).2)=_
 unfold scl
 by_cases h:n < 0
 · have:=aRb h2 (show n<=0 by omega)
   rw [if_pos h]
   simp only
   rw [show(if(mI a.2 n:Int) < mI a.1 n then mI a.2 n else mI a.1 n)=mI a.2 n by split<;>omega,show(if(mI a.1 n:Int) < mI a.2 n then mI a.2 n else mI a.1 n)=mI a.1 n by split<;>omega]
 · have:=aCg h2 (show 0<=n by omega)
   rw [if_neg h]
   simp only
   rw [show(if(mI a.2 n:Int) < mI a.1 n then mI a.2 n else mI a.1 n)=mI a.1 n by split<;>omega,show(if(mI a.1 n:Int) < mI a.2 n then mI a.2 n else mI a.1 n)=mI a.2 n by split<;>omega]
theorem bCc {a b:Int} (h1:-1099511627776<=a)(h2:a<=b)(h3:b<=1099511627776):F51 (a,b)=true:=aCd h1 h2 h3
theorem aNb (a b:Int):iY a b=qL a b:=rfl
theorem aU9 {a:Int×Int} {n:Int} (ha:vs a)(hn:-1099511627776<=n/\n<=1099511627776):fZ a n=qL (scl a n).1 (scl a n).2:=by
 obtain⟨h1,h2,h3⟩:=ha
 unfold fZ
 rw [bCc (a:=a.1) (b:=a.2) h1 h2 h3,tN,bT hn,aQ9 (x:=a.1) (by omega) hn,aQ9 (x:=a.2) (by omega) hn,aNb,aNb]
 unfold scl
 by_cases h:n < 0
 · rw [if_pos h,bT h];rfl
 · rw [if_neg h,cJ h];rfl
theorem rL (a b:Int):(qL a b=((a,b),0)/\vs (a,b))\/qL a b=((0,0),4):=by
 by_cases h:vs (a,b)
 · exact Or.inl ⟨aCb h.1 h.2.1 h.2.2,h⟩
 · right
   unfold qL
   have:pT (a,b)=false:=by
     unfold pT
     by_cases h1:(a,b).1≥-1099511627776
     · by_cases h2:(a,b).1<=(a,b).2
       · rw [bT h1,bT h2,cond_true,cond_true];exact cJ (fun h3=>h ⟨h1,h2,h3⟩)
       · rw [bT h1,cJ h2];rfl
     · rw [cJ h1];rfl
   rw [this];rfl
def ht (p:PN)(x:P3):Int:=dt (sb p.1 x) (cr (sb p.2.1 x) (sb p.2.2 x))
def ad (p q:P3):P3:=(p.1+q.1,p.2.1+q.2.1,p.2.2+q.2.2)
theorem aVa {c y:PN} (h:bdP 100000 c)(hy:y∈aB7 c):∃a1 b1 a2 b2 a3 b3:P3,(a1=c.1\/a1=c.2.1\/a1=c.2.2)/\(b1=c.1\/b1=c.2.1\/b1=c.2.2)/\(a2=c.1\/a2=c.2.1\/a2=c.2.2)/\(b2=c.1\/b2=c.2.1\/b2=c.2.2)/\(a3=c.1\/a3=c.2.1\/a3=c.2.2)/\(b3=c.1\/b3=c.2.1\/b3=c.2.2)/\y=(ad a1 b1,ad a2 b2,ad a3 b3):=by
 unfold aB7 q1 q2 q3 q4 at hy
 rw [pL h.1 h.2.1,pL h.2.2 h.1,pL h.2.1 h.2.2,hG h.1,hG h.2.1,hG h.2.2] at hy
 have e:∀p:P3,(2*p.1,2*p.2.1,2*p.2.2)=ad p p:=fun p=>by unfold ad;simp only [Prod.mk.injEq];omega
 rw [e,e,e] at hy
 simp only [List.mem_cons,List.mem_nil_iff,or_false] at hy
 rcases hy with rfl | rfl | rfl | rfl
 · exact⟨c.1,c.1,c.1,c.2.1,c.2.2,c.1,by simp,by simp,by simp,by simp,by simp,by simp,rfl⟩
 · exact⟨c.1,c.2.1,c.2.1,c.2.1,c.2.1,c.2.2,by simp,by simp,by simp,by simp,by simp,by simp,rfl⟩
 · exact⟨c.2.2,c.1,c.2.1,c.2.2,c.2.2,c.2.2,by simp,by simp,by simp,by simp,by simp,by simp,rfl⟩
 · exact⟨c.1,c.2.1,c.2.1,c.2.2,c.2.2,c.1,by simp,by simp,by simp,by simp,by simp,by simp,rfl⟩
theorem in3 {c:PN} {a:P3} (h:a=c.1\/a=c.2.1\/a=c.2.2):(oS c).1<=a.1/\a.1<=(oT c).1/\(oS c).2.1<=a.2.1/\a.2.1<=(oT c).2.1/\(oS c).2.2<=a.2.2/\a.2.2<=(oT c).2.2:=by
 have l1:=mB c.1.1 c.2.1.1 c.2.2.1;have l2:=mB c.1.2.1 c.2.1.2.1 c.2.2.2.1;have l3:=mB c.1.2.2 c.2.1.2.2 c.2.2.2.2
 have m1:=mC c.1.1 c.2.1.1 c.2.2.1;have m2:=mC c.1.2.1 c.2.1.2.1 c.2.2.2.1;have m3:=mC c.1.2.2 c.2.1.2.2 c.2.2.2.2
 unfold oS oT
 rcases h with rfl | rfl | rfl
 · exact⟨l1.1,m1.1,l2.1,m2.1,l3.1,m3.1⟩
 · exact⟨l1.2.1,m1.2.1,l2.2.1,m2.2.1,l3.2.1,m3.2.1⟩
 · exact⟨l1.2.2,m1.2.2,l2.2.2,m2.2.2,l3.2.2,m3.2.2⟩
theorem aKz {N n:Int} (hN:1<=N/\N<=288230376151711744)(hn:1<=n):1<=(inv N n).2/\N<=(inv N n).2*(inv N n).2*n/\((inv N n).2 - 1)*((inv N n).2 - 1)*n < N:=by
 obtain⟨k,hk,hr,k0,k1,k2,k3,k4,k5⟩:=lM (N:=N) ⟨by omega,hN.2⟩ hn
 have h:=hr.2.2
 have hm:=Int.mul_ediv_add_emod N n
 have hm1:=Int.emod_lt_of_pos N (show 0 < n by omega)
 have h2:N < (k+1)*(k+1)*n:=by
   have:=Int.mul_le_mul_of_nonneg_right (show N / n+1<=(k+1)*(k+1) by omega) (show 0<=n by omega)
   rw [Int.add_mul,Int.one_mul,Int.mul_comm (N / n) n] at this;omega
 unfold inv
 rw [hk]
 simp only
 split
 · rename_i he
   have h1:1<=k:=by
     rcases Int.lt_or_le k 1 with h | h
     · have:k=0:=by omega
       subst this;simp at he;omega
     · exact h
   refine⟨h1,by omega,?_⟩
   have e:(k - 1)*(k - 1)<=k*k - 1:=by
     have e1:(k - 1)*(k - 1)=k*k - 2*k+1:=by grind
     omega
   have e2:=Int.mul_le_mul_of_nonneg_right e (show 0<=n by omega)
   rw [show(k*k - 1)*n=k*k*n - n by rw [Int.sub_mul,Int.one_mul]] at e2;omega
 · rename_i he
   refine⟨by omega,by omega,?_⟩
   rw [show k+1 - 1=k by omega];omega
theorem aIz {N n m:Int} (hN:1<=N/\N<=288230376151711744)(hn:1<=n)(hm:n<=m):(inv N m).2<=(inv N n).2:=by
 obtain⟨a1,a2,a3⟩:=aKz hN hn
 obtain⟨b1,b2,b3⟩:=aKz hN (show 1<=m by omega)
 rcases Int.lt_or_le (inv N n).2 (inv N m).2 with h | h
 · exfalso
   have e:=Int.mul_le_mul (Int.mul_le_mul (show(inv N n).2<=(inv N m).2 - 1 by omega) (show(inv N n).2<=(inv N m).2 - 1 by omega) (by omega) (by omega)) hm (by omega) (Int.mul_nonneg (by omega) (by omega))
   omega
 · exact h
theorem bCd (p:PN) {d:Int} (h:0<=d/\d<=3):(aR (toNat d) p).length<=64:=by
 have h1:=mV h p;have h2:=kT d;omega
theorem aRc {p q:PN} {d:Int} (h:mL p q d=0):0<=d/\d<=3:=xM (p:=p) (q:=q) (by rw [h];rfl)
theorem aY2 {p q:PN} {d:Int} (h:mL p q d=0):W (128*sG (cE (lK p) (lK p)))≠0:=aEu (p:=p) (q:=q) (by rw [h];rfl)
noncomputable def bFm:Code:=match (fE [1,1,1,0,1,0] [] (Tryz.f61.body.getD .skip)).1 with
 | .rangeFunc _ _ a b=>a
 | _=>.skip
noncomputable def bFn:Code:=match (fE [1,1,1,0,1,0] [] (Tryz.f61.body.getD .skip)).1 with
 | .rangeFunc _ _ a b=>b
 | _=>.skip
noncomputable def bFo:List K:=(fE [1,1,1,0,1,0] [] (Tryz.f61.body.getD .skip)).2
def aY3 (a0:Zt×Zt×Zt)(a1:Zt×Zt×Zt)(a2:Int):List (Int×Int)->LS
 | v1=>⟨[.u,.u,.u,(.p 0 0),.u,(.p 1 0),(.p 2 0),.u,.u,(.p 3 0),.u,.u,.u,.u,.u,.u,.u,.u,.u,.u,.u,(.f 123 [(.p 4 0),(.p 5 0)]),.u,.u,.u,.u,.u,.u,.u,.u,.u,.u,.u,.u],[(.live true false (k9 a0)),(.live true false [(iv a2)]),(.live true false [(iv 0),(iv 0)]),(.live true false [(.s 6 0 v1.length 2)]),(.live true false (k9 a1)),(.live true false [(iv a2)]),(.live true true (flat cQ v1))]⟩
def bCe (a0:Zt×Zt×Zt)(a1:Zt×Zt×Zt)(a2:Int):List (Int×Int)->Zt×Zt×Zt->LS
 | v1,x=>⟨[.u,.u,.u,(.p 0 0),.u,(.p 1 0),.u,.u,.u,(.p 3 0),(.p 6 0),.u,.u,.u,.u,.u,.u,.u,.u,.u,.u,.u,.u,.u,.u,.u,.u,.u,.u,.u,.u,.u,.u,.u],[(.live true false (k9 a0)),(.live true false [(iv a2)]),(.live true false [(iv 0),(iv 0)]),(.live true false [(.s 7 0 v1.length 2)]),(.live true false (k9 a1)),(.live true false [(iv a2)]),(.live true false (k9 x)),(.live true true (flat cQ v1))]⟩
def aEv (a0:Zt×Zt×Zt)(a1:Zt×Zt×Zt)(a2:Int):List (Int×Int)->Zt×Zt×Zt->List (Int×Int)
 | v1,x =>
  (v1++[(F92 a0 x a2)])
def G61 (a0:Zt×Zt×Zt)(a1:Zt×Zt×Zt)(a2:Int):List (Int×Int)->(Int×Int)×Int
 | v1 =>
  ((iW v1).1,(iW v1).2)
def aI0 (a0:Zt×Zt×Zt)(a1:Zt×Zt×Zt)(a2:Int):Nat->List (Int×Int)->Prop
 | i,v1=>(v1.length=i)
def pU (a0:Zt×Zt×Zt)(a1:Zt×Zt×Zt)(a2:Int):(Int×Int)×Int :=
 (bif (((xF a0 a1 a2):Int) != 0) then
  ((0,0),(xF a0 a1 a2))
 else
  (G61 a0 a1 a2 ((aR (toNat a2) a1).foldl (aEv a0 a1 a2) ([]:List (Int×Int)))))
theorem C61 (a0:Zt×Zt×Zt)(a1:Zt×Zt×Zt)(a2:Int):Con Tryz.prog 61 [(.a (k9 a0)),(.a (k9 a1)),(iv a2)] [] (.t [(.a (k2 (pU a0 a1 a2).1)),(iv (pU a0 a1 a2).2)]) []:=by
 cases h0:(((xF a0 a1 a2):Int) != 0) with
 | true =>
   have q0:=bne_iff_ne.1 h0
   have e:(pU a0 a1 a2)=((0,0),(xF a0 a1 a2)):=by simp only [pU,h0,aI]
   rw [e]
   refine qD (n:=9) Tryz.func61 rfl (ent Tryz.func61 (by kernel_rfl) rfl) (by show 3<=Tryz.f61.ntmps;decide) (by kernel_rfl) trivial (fun cx hcx=>?_)
   exact aUt (T:=T0) hT hm (f:=5000) (orc:=[.call [] (iv (xF a0 a1 a2)) [],.d true]) [] [] [] hcx
     (obs:=[.call 91 [(.a (k9 a0)),(.a (k9 a1)),(iv a2)] [] (iv (xF a0 a1 a2)) [],.eq (((xF a0 a1 a2):Int) != 0) true]) (by kernel_rfl) ⟨(C91 a0 a1 a2),h0,trivial⟩
 | false =>
   have q0:=bne_eq_false_iff_eq.1 h0
   have e:(pU a0 a1 a2)=(G61 a0 a1 a2 ((aR (toNat a2) a1).foldl (aEv a0 a1 a2) ([]:List (Int×Int)))):=by simp only [pU,h0,aI]
   rw [e]
   refine qD (n:=9) Tryz.func61 rfl (ent Tryz.func61 (by kernel_rfl) rfl) (by show 3<=Tryz.f61.ntmps;decide) (by kernel_rfl) trivial (fun cx hcx=>?_)
   refine uZ (T:=T0) hT hm (f:=5000) (orc:=[.call [] (iv (xF a0 a1 a2)) [],.d false,.call [] (.f 123 [(.p 0 0),(.p 1 0)]) [(.live true false (k9 a1)),(.live true false [(iv a2)])]]) [.cell 4 0 2] [3,5,6,9,21] [0,2,3,4,5,6,7] hcx (x:=.rangeFunc (.tmp 21) #[22] bFm bFn) (k':=bFo) (s':=aY3 a0 a1 a2 ([]:List (Int×Int)))
     (obs:=[.call 91 [(.a (k9 a0)),(.a (k9 a1)),(iv a2)] [] (iv (xF a0 a1 a2)) [],.eq (((xF a0 a1 a2):Int) != 0) false,.call 94 [(.a (k9 a1)),(iv a2)] [] (.f 123 [(.p 0 0),(.p 1 0)]) [(.live true false (k9 a1)),(.live true false [(iv a2)])]]) (by kernel_rfl) ⟨(C91 a0 a1 a2),h0,(C94 a1 a2),trivial⟩ ?_
   refine aIt (xs:=aR (toNat a2) a1) (enc:=aDw) (V:=List (Int×Int)) (R':=Empty) hcx rfl (by decide) [4,5] [(.p 0 0),(.p 1 0)] [(.live false false (k9 a1)),(.live false false [(iv a2)])] rfl rfl (aEq a1 a2 (by first | omega | exact pair_le h0)) (fun x=>SV.a (cP x)) aBt aP8 6 (Nb rfl) (bO (by kernel_rfl))
     (aY3 a0 a1 a2) ([]:List (Int×Int)) rfl (fun v1=>(by kernel_rfl)) (by kernel_rfl) (fun v v'=>(cY (cY (cY (cY (cY (cY (cY aEk)))))))) (fun v1=>(by kernel_rfl)) (fun v1=>(by kernel_rfl)) (fun v1=>(Nat.le_of_ble_eq_true (by kernel_rfl)))
     (fun v x=>.inl (aEv a0 a1 a2 v x)) (fun r=>r.elim) (fun v r=>r.elim) (fun r=>r.elim)
     (aI0 a0 a1 a2) (by simp [aI0]) (bCe a0 a1 a2) (fun v1 x=>(by kernel_rfl)) (fun v1 x=>(by kernel_rfl)) (fun v1 x=>(Nat.le_of_ble_eq_true (by kernel_rfl)))
     (fun cx' l i v1 x QA hcx' hx hinv hg=>vA (T:=T0) hT hm (f:=5000) (orc:=[]) [] [3,5,9,10] [7,6] hcx' (obs:=[]) (by kernel_rfl) trivial hg)
     (fun cx' l i v1 x QB hcx' hx hinv hb1 hb2=>?_) (fun cx' d v1 hh hv hinv=>?_) (fun cx' d r hh hv=>?_)
   · show Aw.Good _ _ _ _ _ _ _ (bCe a0 a1 a2 v1 x)
     simp only [aI0] at hinv
     have ha:=pair_le h0
     have hlt:=aXz ha hx
     have e:(Sum.inl (aEv a0 a1 a2 v1 x):(List (Int×Int))⊕Empty)=.inl (v1++[(F92 a0 x a2)]):=by simp only [aEv]
     refine vA (T:=T0) hT hm (f:=5000) (orc:=[.call [] (.a (k2 (F92 a0 x a2))) []]) [] [] [9] hcx' (s':=⟨List.replicate 34 .u,[(.live true false (k9 a0)),(.live true false [(iv a2)]),(.live true false [(iv 0),(iv 0)]),(.live true false [(.s 6 0 (v1.length+1) 2)]),(.live true false (k9 a1)),(.live true false [(iv a2)]),(.live true true (flat cQ v1++(k2 (F92 a0 x a2))))]⟩)
       (obs:=[.call 92 [(.a (k9 a0)),(.a (k9 x)),(iv a2)] [] (.a (k2 (F92 a0 x a2))) [],.pr ((flat cQ v1).length=v1.length*2/\v1.length+1<=2 ^ 40/\(v1.length+1)*16<=2 ^ 47)]) (by kernel_rfl) ⟨(C92 a0 x a2  (aM6 h0) (pair_le h0)),(show((flat cQ v1).length=v1.length*2/\v1.length+1<=2 ^ 40/\(v1.length+1)*16<=2 ^ 47) from gL cC (by omega) (by omega)),trivial⟩ ?_
     have z0:(flat cQ v1++(k2 (F92 a0 x a2)))=(flat cQ (v1++[(F92 a0 x a2)])):=(bN (c:=cQ) (l:=v1) (m:=[(F92 a0 x a2)])).symm
     have z1:(v1.length+1)=(v1++[(F92 a0 x a2)]).length:=eH v1 [(F92 a0 x a2)] rfl
     rw [z0,z1]
     exact hb1 _ e (by simp only [aI0,List.length_append,List.length_cons,List.length_nil];omega)
   · rw [tI,Sum.inl.injEq] at hv;rw [hv]
     show Aw.Good _ _ _ _ _ _ _ (aY3 a0 a1 a2 v1)
     simp only [aI0] at hinv
     have hcl:=bCd a1 (pair_le h0)
     have e:G61 a0 a1 a2 v1=((iW v1).1,(iW v1).2):=by simp only [G61]
     rw [e]
     exact aMv (T:=T0) hT hm (f:=5000) (orc:=[.call [6] (.t [(.a (k2 (iW v1).1)),(iv (iW v1).2)]) []]) [] [] [] hh hcx
       (obs:=[.call 95 [(.s 0 0 v1.length 2)] [(.live false true (flat cQ v1))] (.t [(.a (k2 (iW v1).1)),(iv (iW v1).2)]) []]) (by kernel_rfl) ⟨(bBb v1 (by omega)),trivial⟩
   · exact r.elim
noncomputable def aK0:Code:=(aD [1,1,1,1,0,1] [] (aG Tryz.f138) []).1
noncomputable def aK1:List K:=(aD [1,1,1,1,0,1] [] (aG Tryz.f138) []).2
def aGg (a0:Zt×Zt×Zt)(a1:Zt×Zt×Zt)(a2:Int)(v2c:List SV)(v2n:Nat)(v3:Int):LS:=⟨iH 43 [(2,(iv a2)),(3,(.p 0 0)),(6,(.p 1 0)),(9,(.s 2 0 v2n 2)),(10,(.s 3 0 (cG a1 a2).length 9)),(11,(iv v3))],[(.live true false (k9 a0)),(.live true false [(iv 0),(iv 0)]),(.live true true v2c),(.live true true (flat dM (cG a1 a2)))]⟩
def kU (a0:Zt×Zt×Zt)(a1:Zt×Zt×Zt)(a2:Int):(List (Int×Int))×Int->((List (Int×Int))×Int)⊕((Int×Int)×Int)
 | (v2,v3) =>
  (bif (decide ((v3:Int) < (((cG a1 a2).length:Nat):Int))) then
   (.inl ((v2++[(vL a0 a2 ((cG a1 a2).getD (toNat v3) default))]),(v3+1)))
  else
   (.inr ((jQ v2).1,(jQ v2).2)))
theorem aY4 (a0:Zt×Zt×Zt)(a1:Zt×Zt×Zt)(a2:Int) {cx:Cx} (hcx:cx.base=0):∀(n:Nat)(v2:List (Int×Int))(v3:Int),(0<=v3)/\(mL a0 a1 a2=0)/\(v2.length=toNat v3)/\(v3<=(cG a1 a2).length)->toNat ((((cG a1 a2).length:Nat):Int) - v3) < n->Aw.Good Tryz.prog none 9 (bodyPost Tryz.prog Tryz.f138 (RR cx (.t [(.a (k2 (aB (kU a0 a1 a2) n (v2,v3)).1)),(iv (aB (kU a0 a1 a2) n (v2,v3)).2)]) [] [])) cx [] (.l aK0 n::aK1) (aGg a0 a1 a2 (flat cQ v2) v2.length v3):=by
 intro n
 induction n with
 | zero=>intro v2 v3 hi hn;exact absurd hn (gP _)
 | succ n ih =>
   intro v2 v3 hi hn
   refine aH ?_
   have hcl:=aQt (p:=a1) (aRc (p:=a0) (q:=a1) (d:=a2) (by omega))
   cases h0:(decide ((v3:Int) < (((cG a1 a2).length:Nat):Int))) with
   | true =>
    have q0:=bO h0
    have e:=Eq.refl (kU a0 a1 a2 (v2,v3));conv at e=>rhs;simp only [kU,h0,aI]
    rw [aA e]
    refine ba [.d h0,.i v3 ((cG a1 a2).length),.L cW (cG a1 a2) v3 0 9,.c [] (bBn a0 a2 ((cG a1 a2).getD (toNat v3) default)  (aRc (p:=a0) (q:=a1) (d:=a2) (by omega)) (aY2 (p:=a0) (q:=a1) (d:=a2) (by omega))),.p (show((flat cQ v2).length=v2.length*2/\v2.length+1<=2 ^ 40/\(v2.length+1)*16<=2 ^ 47) from gL cC (by omega) (by omega))] [] [2,3,6,9,10,11] [0,1,5,3] hcx (m:=n) aK0 (aK1) (aGg a0 a1 a2 (flat cQ v2++(k2 (vL a0 a2 ((cG a1 a2).getD (toNat v3) default)))) (v2.length+1) (W (v3+1))) (by kernel_rfl) ?_
    have z0:(W (v3+1))=(v3+1):=aE (by omega) (by omega)
    have z1:(flat cQ v2++(k2 (vL a0 a2 ((cG a1 a2).getD (toNat v3) default))))=(flat cQ (v2++[(vL a0 a2 ((cG a1 a2).getD (toNat v3) default))])):=(bN (c:=cQ) (l:=v2) (m:=[(vL a0 a2 ((cG a1 a2).getD (toNat v3) default))])).symm
    have z2:(v2.length+1)=(v2++[(vL a0 a2 ((cG a1 a2).getD (toNat v3) default))]).length:=eH v2 [(vL a0 a2 ((cG a1 a2).getD (toNat v3) default))] rfl
    rw [z0,z1,z2]
    exact ih (v2++[(vL a0 a2 ((cG a1 a2).getD (toNat v3) default))]) (v3+1) (by refine⟨?_,?_,?_,?_⟩<;>(try simp only [Ls])<;>first | omega | assumption | simp) (by(try simp only [Ls]);omega)
   | false =>
    have q0:=cA h0
    have e:=Eq.refl (kU a0 a1 a2 (v2,v3));conv at e=>rhs;simp only [kU,h0,aI]
    rw [aC,e]
    exact rt [.d h0,.c [2] (aYf v2 (by omega))] [] [] hcx (by kernel_rfl)
def lB (a0:Zt×Zt×Zt)(a1:Zt×Zt×Zt)(a2:Int):(Int×Int)×Int :=
 (bif (((mL a0 a1 a2):Int) != 0) then
  ((0,0),(mL a0 a1 a2))
 else
  (aB (kU a0 a1 a2) (toNat ((((cG a1 a2).length:Nat):Int) - 0)+1) (([]:List (Int×Int)),0)))
theorem bFp (a0:Zt×Zt×Zt)(a1:Zt×Zt×Zt)(a2:Int):Con Tryz.prog 138 [(.a (k9 a0)),(.a (k9 a1)),(iv a2)] [] (.t [(.a (k2 (lB a0 a1 a2).1)),(iv (lB a0 a1 a2).2)]) []:=by
 refine aJ Tryz.func138 (by kernel_rfl) fun cx hcx=>?_
 let t0:List (St Tryz.prog):=[.c [] (bBg a0 a1 a2)]
 cases h0:(((mL a0 a1 a2):Int) != 0) with
 | true =>
  have q0:=bne_iff_ne.1 h0
  have e:=Eq.refl (lB a0 a1 a2);conv at e=>rhs;simp only [lB,h0,aI]
  rw [e]
  exact rt (t0++[.d h0]) [] [] hcx (by kernel_rfl)
 | false =>
  have q0:=bne_eq_false_iff_eq.1 h0
  have e:=Eq.refl (lB a0 a1 a2);conv at e=>rhs;simp only [lB,h0,aI]
  rw [e]
  refine en (t0++[.d h0,.c [] (bBh a1 a2  (xM h0))]) [.slot 9 2] [2,3,6,9,10,11] [0,2,4,3] hcx aK0 (aK1) (aGg a0 a1 a2 (flat cQ ([]:List (Int×Int))) 0 0) (toNat ((((cG a1 a2).length:Nat):Int) - 0)+1) (by kernel_rfl) ?_
  exact aY4 a0 a1 a2 hcx (toNat ((((cG a1 a2).length:Nat):Int) - 0)+1) ([]:List (Int×Int)) 0 (by refine⟨?_,?_,?_,?_⟩<;>(try simp only [Ls])<;>first | omega | assumption | simp) (by(try simp only [Ls]);omega)
def jC:List (Int×Int)->Int×Int->Int×Int
 | [],v=>v
 | a::l,v=>jC l (v.1+a.1,v.2+a.2)
theorem rM:∀(l:List (Int×Int))(v:Int×Int),jC l v=(v.1+(l.map (·.1)).sum,v.2+(l.map (·.2)).sum)
 | [],v=>by simp [jC]
 | a::l,v=>by rw [jC,rM l];simp only [List.map_cons,List.sum_cons,Int.add_assoc]
def okE (a:Int×Int):Prop:=0<=a.1/\a.1<=a.2/\a.2<=536870913
theorem aGh:∀{l:List (Int×Int)} {v:Int×Int},(∀a∈l,okE a)->okv v l.length->okv (jC l v) 0
 | [],v,_,h=>h
 | a::l,v,hl,h=>aGh (l:=l) (fun c hc=>hl c (List.mem_cons_of_mem _ hc)) (vR h (hl a List.mem_cons_self))
theorem tQ {R:Type} [Inhabited R] {S:Zt->Zt⊕R} {G:Int×Int->R} {L:List (Int×Int)} (hl:∀a∈L,okE a)
   (hS:∀(i:Nat) (a:Int×Int),L[i]? = some a->∀v1 v2:Int,S (v1,v2,(i:Int))=.inl (W (v1+a.1),W (v2+a.2),((i+1:Nat):Int)))
   (hE:∀v1 v2:Int,S (v1,v2,(L.length:Int))=.inr (G (v1,v2))) :
   ∀(l:List (Int×Int)) (i n:Nat) (v:Int×Int),L.drop i=l->i<=L.length->l.length < n->okv v l.length->aB S n (v.1,v.2,(i:Int))=G (jC l v)
 | [],i,n,v,hd,hi',hn,h=>by
   have:i=L.length:=by have:=List.drop_eq_nil_iff.1 hd;omega
   obtain⟨n,rfl⟩:∃m,n=m+1:=⟨n - 1,by simp only [List.length_nil] at hn;omega⟩
   subst this
   rw [aO (hE _ _)];rfl
 | c::l,i,n,v,hd,hi',hn,h=>by
   have hc:L[i]? = some c:=by
     have:(L.drop i)[0]? = some c:=by rw [hd];rfl
     simpa using this
   obtain⟨hlt,hce⟩:=List.getElem?_eq_some_iff.1 hc
   obtain⟨n,rfl⟩:∃m,n=m+1:=⟨n - 1,by omega⟩
   have h1:=vR h (hl c (hce▸List.getElem_mem hlt))
   have h2:=h1
   unfold okv at h2;simp only at h2
   rw [aA (hS i c hc v.1 v.2),aE (by omega) (by omega),aE (by omega) (by omega)]
   exact tQ hl hS hE l (i+1) n _ (by rw [←List.drop_drop,hd];rfl) (by omega) (by simp only [List.length_cons] at hn;omega) h1
section
variable {l : List (Int × Int)}
theorem aNc {a:Int×Int} (h:okE a):pT a=true:=aCd (a:=a.1) (b:=a.2) (by have:=h.1;omega) h.2.1 (by have:=h.2.2;omega)
theorem aAn (hn:l.length<=64):okv (0,0) l.length:=by unfold okv;simp only;omega
theorem bFq (hl:∀a∈l,okE a):sR l=0:=by
 have key:∀(m:List (Int×Int)) (i n:Nat),l.drop i=m->i<=l.length->m.length < n->aB (eJ l) n (i:Int)=0:=by
   intro m
   induction m with
   | nil =>
     intro i n hd hi hn
     have:i=l.length:=by have:=List.drop_eq_nil_iff.1 hd;omega
     obtain⟨n,rfl⟩:∃m,n=m+1:=⟨n - 1,by simp only [List.length_nil] at hn;omega⟩
     subst this
     refine aO ?_
     simp only [eJ]
     rw [cJ (Int.lt_irrefl _),cond_false]
   | cons c m ih =>
     intro i n hd hi hn
     have hc:l[i]? = some c:=by
       have:(l.drop i)[0]? = some c:=by rw [hd];rfl
       simpa using this
     obtain⟨hlt,hce⟩:=List.getElem?_eq_some_iff.1 hc
     obtain⟨n,rfl⟩:∃m,n=m+1:=⟨n - 1,by omega⟩
     have hg:l.getD i default=c:=by rw [eZ,hc];rfl
     have e:eJ l (i:Int)=.inl ((i+1:Nat):Int):=by
       simp only [eJ]
       rw [bT (show((i:Nat):Int) < (l.length:Nat) by omega),cond_true,uM,hg,aNc (hl c (hce▸List.getElem_mem hlt))];rfl
     rw [aA e]
     exact ih (i+1) n (by rw [←List.drop_drop,hd];rfl) (by omega) (by simp only [List.length_cons] at hn;omega)
 unfold sR
 exact key l 0 _ rfl (Nat.zero_le _) (by omega)
theorem bCf (hl:∀a∈l,okE a)(hn:l.length<=64):cI l=((jC l (0,0)).1,(jC l (0,0)).2,0):=by
 unfold cI
 rw [cJ (by omega),cond_false,bFq hl]
 show aB _ _ (((0,0):Int×Int).1,((0,0):Int×Int).2,((0:Nat):Int))=_
 refine tQ (G:=fun v=>(v.1,v.2,0)) hl (fun i a hi v1 v2=>?_) (fun v1 v2=>?_) l 0 _ (0,0) rfl (Nat.zero_le _) (by omega) (aAn hn)
 · obtain⟨hlt,hce⟩:=List.getElem?_eq_some_iff.1 hi
   have hg:l.getD i default=a:=by rw [eZ,hi];rfl
   simp only [gT]
   rw [bT (show((i:Nat):Int) < (l.length:Nat) by omega),cond_true,uM,hg];rfl
 · simp only [gT]
   rw [cJ (Int.lt_irrefl _),cond_false]
theorem bCg (hl:∀a∈l,okE a)(hn:l.length<=64):cM l=((jC l (0,0)).1,(jC l (0,0)).2,0):=by
 unfold cM
 rw [cJ (by omega),cond_false]
 show aB _ _ (((0,0):Int×Int).1,((0,0):Int×Int).2,((0:Nat):Int))=_
 refine tQ (G:=fun v=>(v.1,v.2,0)) hl (fun i a hi v1 v2=>?_) (fun v1 v2=>?_) l 0 _ (0,0) rfl (Nat.zero_le _) (by omega) (aAn hn)
 · obtain⟨hlt,hce⟩:=List.getElem?_eq_some_iff.1 hi
   have hg:l.getD i default=a:=by rw [eZ,hi];rfl
   simp only [fM]
   rw [bT (show((i:Nat):Int) < (l.length:Nat) by omega),cond_true,uM,hg,show F51 a=true from aNc (hl a (hce▸List.getElem_mem hlt))];rfl
 · simp only [fM]
   rw [cJ (Int.lt_irrefl _),cond_false]
theorem aRd {v:Int×Int} {n:Int} (hn:n=1\/n=4\/n=16\/n=64)(h:okv v 0):-1099511627776<=v.1 / n/\v.1 / n<=-(-v.2 / n)/\-(-v.2 / n)<=1099511627776:=by
 unfold okv at h;rcases hn with rfl | rfl | rfl | rfl<;>omega
theorem aVb (hl:∀a∈l,okE a) {n:Int} (hn:n=1\/n=4\/n=16\/n=64)(hk:(l.length:Int)=n):iW l=(avg (jC l (0,0)) n,0):=by
 have h64:l.length<=64:=by omega
 have ho:=aGh hl (aAn h64)
 have hb:=aRd hn ho
 unfold okv at ho
 unfold iW
 rw [bCf hl h64,hk,beq_eq_false_iff_ne.2 (show n≠0 by omega),aYv hn (by simp only;omega),bBz hn (by simp only;omega),aCb hb.1 hb.2.1 hb.2.2];rfl
theorem aVc (hl:∀a∈l,okE a) {n:Int} (hn:n=1\/n=4\/n=16\/n=64)(hk:(l.length:Int)=n):jQ l=(avg (jC l (0,0)) n,0):=by
 have h64:l.length<=64:=by omega
 have ho:=aGh hl (aAn h64)
 have hb:=aRd hn ho
 unfold okv at ho
 unfold jQ
 rw [bCg hl h64,hk,beq_eq_false_iff_ne.2 (show n≠0 by omega),aYw hn (by simp only;omega),bB0 hn (by simp only;omega),aQ1 hb.1 hb.2.1 hb.2.2];rfl
end
theorem vT (lo hi:PN->Int):∀(l:List PN)(v:Int×Int),aD1 lo hi l v=(v.1+(l.map lo).sum,v.2+(l.map hi).sum)
 | [],v=>by simp [aD1]
 | a::l,v=>by rw [aD1,vT lo hi l];simp only [List.map_cons,List.sum_cons,Int.add_assoc]
theorem aRe {p q:PN} {d:Int} (hp:vp p=0)(hd:0<=d/\d<=3):okE (iK p q d):=by
 have hb:=aY0 (q:=q) hp hd
 have hk:=aQ3 (p:=p) hd
 have ho:=aAm hb hk
 have hs:(aD1 (bLo d q) (sI (bY p d) d q) (aR d.toNat p) (0,0)).2<=536870913*(sc d*sc d):=by
   rw [vT,←mV hd p]
   simp only [Int.zero_add]
   have key:∀l:List PN,(∀c∈l,sI (bY p d) d q c<=536870913)->(l.map (sI (bY p d) d q)).sum<=536870913*(l.length:Nat):=by
     intro l
     induction l with
     | nil=>intro _;simp
     | cons c l ih =>
       intro h
       have h1:=h c List.mem_cons_self;have h2:=ih (fun c hc=>h c (List.mem_cons_of_mem _ hc))
       simp only [List.map_cons,List.sum_cons,List.length_cons];omega
   exact key _ (fun c hc=>(hb c hc).2.2)
 unfold iK okE avg
 unfold okv at ho
 have hn:=kT d
 generalize aD1 (bLo d q) (sI (bY p d) d q) (aR d.toNat p) (0,0)=v at *
 simp only
 rcases hn with h | h | h | h<;>rw [h] at hs ⊢<;>omega
theorem foldl_map {α β:Type} (g:α->β):∀(l:List α)(a:List β),l.foldl (fun v x=>v++[g x]) a=a++l.map g
 | [],a=>by simp
 | x::l,a=>by rw [List.foldl_cons,foldl_map g l];simp
noncomputable def tR (p q:PN)(d:Int):List (Int×Int):=(aR d.toNat q).map fun b=>iK p b d
noncomputable def aGi (p q:PN)(d:Int):(Int×Int)×Int:=if pk p q d=0 then(avg (jC (tR p q d) (0,0)) (sc d*sc d),0) else((0,0),pk p q d)
theorem aNd {p q:PN} {d:Int} (hp:vp p=0)(hd:0<=d/\d<=3):∀a∈tR p q d,okE a:=by
 intro a ha
 obtain⟨b,_,rfl⟩:=List.mem_map.1 ha
 exact aRe hp hd
theorem aCh {p q:PN} {d:Int} (hd:0<=d/\d<=3):(((tR p q d).length:Nat):Int)=sc d*sc d:=by
 unfold tR;rw [List.length_map];exact mV hd q
theorem aCi (p q:PN)(d:Int):pU p q d=aGi p q d:=by
 unfold pU aGi
 rw [aAl]
 by_cases h:pk p q d=0
 · obtain⟨h1,h2,h3⟩:=vO h
   have hd:0<=d/\d<=3:=by omega
   rw [if_pos h,h]
   have e:(aR d.toNat q).foldl (aEv p q d) []=tR p q d:=by
     have:=foldl_map (fun b=>F92 p b d) (aR d.toNat q) []
     rw [List.nil_append] at this
     refine Eq.trans this ?_
     unfold tR
     exact List.map_congr_left (fun b hb=>aQ6 h1 ((oU (gH h2).1 hd hb).mono (by omega)) hd)
   rw [e]
   show(iW (tR p q d))=_
   exact aVb (aNd h1 hd) (kT d) (aCh hd)
 · rw [if_neg h,bne_iff_ne.2 h,cond_true]
theorem aRf (p q:PN)(d:Int):lB p q d=aGi p q d:=by
 unfold lB aGi
 rw [rK]
 by_cases h:pk p q d=0
 · obtain⟨h1,h2,h3⟩:=vO h
   have hd:0<=d/\d<=3:=by omega
   have hL:=bBl (gH h2).1 hd
   rw [if_pos h,h]
   have key:∀(m:List PN) (i n:Nat) (v:List (Int×Int)),(aR d.toNat q).drop i=m->i<=(aR d.toNat q).length->m.length < n ->
       aB (kU p q d) n (v,(i:Int))=jQ (v++m.map fun b=>iK p b d):=by
     intro m
     induction m with
     | nil =>
       intro i n v hdr hi hn
       have:i=(aR d.toNat q).length:=by have:=List.drop_eq_nil_iff.1 hdr;omega
       obtain⟨n,rfl⟩:∃m,n=m+1:=⟨n - 1,by simp only [List.length_nil] at hn;omega⟩
       subst this
       refine aO ?_
       simp only [kU]
       rw [hL,cJ (Int.lt_irrefl _),cond_false,List.map_nil,List.append_nil]
     | cons c m ih =>
       intro i n v hdr hi hn
       have hc:(aR d.toNat q)[i]? = some c:=by
         have:((aR d.toNat q).drop i)[0]? = some c:=by rw [hdr];rfl
         simpa using this
       obtain⟨hlt,hce⟩:=List.getElem?_eq_some_iff.1 hc
       have hm:c∈aR d.toNat q:=hce▸List.getElem_mem hlt
       obtain⟨n,rfl⟩:∃m,n=m+1:=⟨n - 1,by omega⟩
       have hg:(aR d.toNat q).getD i default=c:=by rw [eZ,hc];rfl
       have e:kU p q d (v,(i:Int))=.inl (v++[iK p c d],((i+1:Nat):Int)):=by
         simp only [kU]
         rw [hL,bT (show((i:Nat):Int) < ((aR d.toNat q).length:Nat) by omega),cond_true,uM,hg,aW2 h1 ((oU (gH h2).1 hd hm).mono (by omega)) hd];rfl
       rw [aA e,ih (i+1) n _ (by rw [←List.drop_drop,hdr];rfl) (by omega) (by simp only [List.length_cons] at hn;omega)]
       simp only [List.map_cons,List.append_assoc,List.singleton_append]
   show aB (kU p q d) _ ([],((0:Nat):Int))=_
   rw [key (aR d.toNat q) 0 _ [] rfl (Nat.zero_le _) (by rw [hL];omega),List.nil_append]
   exact aVc (aNd h1 hd) (kT d) (aCh hd)
 · rw [if_neg h,bne_iff_ne.2 h,cond_true]
end Go.Proofs.YtaeagjnpobdglaaGreat
namespace Go.Proofs.YtaeagjnpobdglaaGreat
open Go.Proofs Go.Aw Go.RowKit
set_option maxRecDepth 100000
def sJ (a0:Int):Int :=
 (if(a0:Int) < (W (0 - a0)) then(W (0 - a0)) else a0)
theorem aY5 (a0:Int):Con Tryz.prog 139 [(iv a0)] [] (iv (sJ a0)) []:=by
 refine aJ Tryz.func139 (by kernel_rfl) fun cx hcx=>?_
 have e:=Eq.refl (sJ a0);conv at e=>rhs;simp only [sJ]
 rw [e]
 exact rt [] [] [] hcx (by kernel_rfl)
def oW (a0:Zt)(a1:Int):Bool :=
 (bif (decide (((sJ a0.1):Int)<=a1)) then
  (bif (decide (((sJ a0.2.1):Int)<=a1)) then
   (bif (decide (((sJ a0.2.2):Int)<=a1)) then
    (bif (decide ((a0.1:Int)≥(W (0 - a1)))) then
     (bif (decide ((a0.2.1:Int)≥(W (0 - a1)))) then
      (decide ((a0.2.2:Int)≥(W (0 - a1))))
     else
      false)
    else
     false)
   else
    false)
  else
   false)
 else
  false)
theorem bFr (a0:Zt)(a1:Int):Con Tryz.prog 111 [(.a (k3 a0)),(iv a1)] [] (.v (.bool (oW a0 a1))) []:=by
 refine aJ Tryz.func111 (by kernel_rfl) fun cx hcx=>?_
 let t0:List (St Tryz.prog):=[.c [] (aY5 a0.1)]
 cases h0:(decide (((sJ a0.1):Int)<=a1)) with
 | true =>
  have q0:=bO h0
  let t1:List (St Tryz.prog):=(t0++[.d h0,.c [] (aY5 a0.2.1)])
  cases h1:(decide (((sJ a0.2.1):Int)<=a1)) with
  | true =>
   have q1:=bO h1
   let t2:List (St Tryz.prog):=(t1++[.d h1,.c [] (aY5 a0.2.2)])
   cases h2:(decide (((sJ a0.2.2):Int)<=a1)) with
   | true =>
    have q2:=bO h2
    let t3:List (St Tryz.prog):=(t2++[.d h2])
    cases h3:(decide ((a0.1:Int)≥(W (0 - a1)))) with
    | true =>
     have q3:=bO h3
     let t4:List (St Tryz.prog):=(t3++[.d h3])
     cases h4:(decide ((a0.2.1:Int)≥(W (0 - a1)))) with
     | true =>
      have q4:=bO h4
      have e:=Eq.refl (oW a0 a1);conv at e=>rhs;simp only [oW,h0,h1,h2,h3,h4,aI]
      rw [e]
      exact rt (t4++[.d h4]) [] [] hcx (by kernel_rfl)
     | false =>
      have q4:=cA h4
      have e:=Eq.refl (oW a0 a1);conv at e=>rhs;simp only [oW,h0,h1,h2,h3,h4,aI]
      rw [e]
      exact rt (t4++[.d h4]) [] [] hcx (by kernel_rfl)
    | false =>
     have q3:=cA h3
     have e:=Eq.refl (oW a0 a1);conv at e=>rhs;simp only [oW,h0,h1,h2,h3,aI]
     rw [e]
     exact rt (t3++[.d h3]) [] [] hcx (by kernel_rfl)
   | false =>
    have q2:=cA h2
    have e:=Eq.refl (oW a0 a1);conv at e=>rhs;simp only [oW,h0,h1,h2,aI]
    rw [e]
    exact rt (t2++[.d h2]) [] [] hcx (by kernel_rfl)
  | false =>
   have q1:=cA h1
   have e:=Eq.refl (oW a0 a1);conv at e=>rhs;simp only [oW,h0,h1,aI]
   rw [e]
   exact rt (t1++[.d h1]) [] [] hcx (by kernel_rfl)
 | false =>
  have q0:=cA h0
  have e:=Eq.refl (oW a0 a1);conv at e=>rhs;simp only [oW,h0,aI]
  rw [e]
  exact rt (t0++[.d h0]) [] [] hcx (by kernel_rfl)
def aOw (a0:Zt):Int :=
 (W ((W ((W (a0.1*a0.1))+(W (a0.2.1*a0.2.1))))+(W (a0.2.2*a0.2.2))))
theorem bFs (a0:Zt):Con Tryz.prog 112 [(.a (k3 a0))] [] (iv (aOw a0)) []:=by
 refine aJ Tryz.func112 (by kernel_rfl) fun cx hcx=>?_
 have e:=Eq.refl (aOw a0);conv at e=>rhs;simp only [aOw]
 rw [e]
 exact rt [] [] [] hcx (by kernel_rfl)
def aK2 (a0:Zt)(a1:Zt):Zt :=
 ((W (a0.1 - a1.1)),(W (a0.2.1 - a1.2.1)),(W (a0.2.2 - a1.2.2)))
theorem bFt (a0:Zt)(a1:Zt):Con Tryz.prog 113 [(.a (k3 a0)),(.a (k3 a1))] [] (.a (k3 (aK2 a0 a1))) []:=by
 refine aJ Tryz.func113 (by kernel_rfl) fun cx hcx=>?_
 have e:=Eq.refl (aK2 a0 a1);conv at e=>rhs;simp only [aK2]
 rw [e]
 exact rt [] [] [] hcx (by kernel_rfl)
abbrev PU:=PN×Int×Int
noncomputable def pv (p:PU):Int:=if vp p.1=0 then(if(0<=p.2.1/\p.2.1<=1000)/\(-100<=p.2.2/\p.2.2<=100) then 0 else 1) else vp p.1
section
variable {n s t : Int}
end
end Go.Proofs.YtaeagjnpobdglaaGreat
namespace Go.Proofs.YtaeagjnpobdglaaGreat
open Go.Proofs Go.Aw Go.RowKit
set_option maxRecDepth 100000
def nL {α β:Type} (g:α->β×Int):List α->List β->List β⊕Int
 | [],l=>.inl l
 | c::m,l=>if(g c).2=0 then nL g m (l++[(g c).1]) else .inr (g c).2
def pR {β R:Type} (G:List β->R)(E:Int->R):List β⊕Int->R
 | .inl m=>G m
 | .inr e=>E e
theorem xN {α β R:Type} [Inhabited R] {g:α->β×Int} {S:List β×Int->(List β×Int)⊕R} {G:List β->R} {E:Int->R} {L:List α}
   (hS:∀(i:Nat) (c:α),L[i]? = some c->∀l:List β,S (l,(i:Int))=bif ((g c).2 != 0) then .inr (E (g c).2) else .inl (l++[(g c).1],((i+1:Nat):Int)))
   (hE:∀l:List β,S (l,(L.length:Int))=.inr (G l)) :
   ∀(k:List α) (i n:Nat) (l:List β),L.drop i=k->i<=L.length->k.length < n->aB S n (l,(i:Int))=pR G E (nL g k l)
 | [],i,n,l,hd,hi',hn=>by
   have:i=L.length:=by have:=List.drop_eq_nil_iff.1 hd;omega
   obtain⟨n,rfl⟩:∃m,n=m+1:=⟨n - 1,by simp only [List.length_nil] at hn;omega⟩
   subst this
   rw [aO (hE _)];rfl
 | c::k,i,n,l,hd,hi',hn=>by
   have hc:L[i]? = some c:=by
     have:(L.drop i)[0]? = some c:=by rw [hd];rfl
     simpa using this
   obtain⟨hlt,hce⟩:=List.getElem?_eq_some_iff.1 hc
   obtain⟨n,rfl⟩:∃m,n=m+1:=⟨n - 1,by omega⟩
   have h1:=hS i c hc l
   unfold nL
   by_cases h:(g c).2=0
   · rw [h] at h1
     rw [aA h1,if_pos h]
     exact xN hS hE k (i+1) n _ (by rw [←List.drop_drop,hd];rfl) (by omega) (by simp only [List.length_cons] at hn;omega)
   · rw [bne_iff_ne.2 h,cond_true] at h1
     rw [aO h1,if_neg h];rfl
theorem lC {α β:Type} {g:α->β×Int}:∀{k:List α} {l m:List β},nL g k l=.inl m->m=l++k.map (fun c=>(g c).1)/\∀c∈k,(g c).2=0
 | [],l,m,h=>by simp only [nL] at h;cases h;simp
 | c::k,l,m,h=>by
   unfold nL at h
   split at h
   · rename_i h0
     obtain⟨h1,h2⟩:=lC h
     refine⟨by rw [h1];simp,fun x hx=>?_⟩
     rcases List.mem_cons.1 hx with rfl | hx
     · exact h0
     · exact h2 x hx
   · cases h
open Go.ChangeShapes Go.WideShapes Go.ChangeAt
section
variable {H : Type} {enc : TypeId × Value → H} {P : Program} {w : World}
def aVd (w:World)(es:Nat)(v:Value)(nss:List (List Int)):Prop :=
 (∀ns∈nss,ns.length=es)/\nss.length<=9223372036854775807 /\
 ((v=.slice none 0 0/\nss=[])\/∃b o cap,v=.slice (some ⟨b,o,none⟩) nss.length cap/\nss.length<=cap/\∀(i:Nat) (x:Value),((nss.flatten).map (Value.int .i64))[i]? = some x->w.cell? ⟨b,o+i,none⟩=some x)
def rho (es:Nat):Value->Option (Nat×Nat×Nat)
 | .slice (some a) _ cap=>some (a.block,a.off,cap*es)
 | _=>none
end
end Go.Proofs.YtaeagjnpobdglaaGreat
namespace Go.Proofs.YtaeagjnpobdglaaGreat
open Go.Proofs Go.Aw Go.RowKit
set_option maxRecDepth 100000
theorem aEw {α:Type} {c:α->List SV} {es:Nat} (hc:∀x,(c x).length=es)(l:List α):(flat c l).length=l.length*es:=qB hc l
def okw (v:Int×Int)(n:Nat):Prop:=(-4611686018427387904+1099511627776*n<=v.1/\v.1+1099511627776*n<=4611686018427387904)/\(-4611686018427387904+1099511627776*n<=v.2/\v.2+1099511627776*n<=4611686018427387904)
theorem aRg {v a:Int×Int} {n:Nat} (h:okw v (n+1))(ha:vs a):okw (v.1+a.1,v.2+a.2) n:=by unfold okw vs at *;simp only;omega
theorem bCh {v:Int×Int} {n:Nat} (h:okw v n):W v.1=v.1/\W v.2=v.2:=by unfold okw at h;exact⟨aE (by omega) (by omega),aE (by omega) (by omega)⟩
theorem aW4 {n:Nat} (h:n<=10000):okw (0,0) n:=by unfold okw;simp only;omega
theorem aCj {R:Type} [Inhabited R] {S:Zt->Zt⊕R} {G:Int×Int->R} {L:List (Int×Int)} (hl:∀a∈L,vs a)
   (hS:∀(i:Nat) (a:Int×Int),L[i]? = some a->∀v1 v2:Int,S (v1,v2,(i:Int))=.inl (W (v1+a.1),W (v2+a.2),((i+1:Nat):Int)))
   (hE:∀v1 v2:Int,S (v1,v2,(L.length:Int))=.inr (G (v1,v2))) :
   ∀(l:List (Int×Int)) (i n:Nat) (v:Int×Int),L.drop i=l->i<=L.length->l.length < n->okw v l.length->aB S n (v.1,v.2,(i:Int))=G (jC l v):=by
 intro l
 induction l with
 | nil =>
   intro i n v hd hi' hn h
   have:i=L.length:=by have:=List.drop_eq_nil_iff.1 hd;omega
   obtain⟨n,rfl⟩:∃m,n=m+1:=⟨n - 1,by simp only [List.length_nil] at hn;omega⟩
   subst this
   rw [aO (hE _ _)];rfl
 | cons c l ih =>
   intro i n v hd hi' hn h
   have hc:L[i]? = some c:=by
     have:(L.drop i)[0]? = some c:=by rw [hd];rfl
     simpa using this
   obtain⟨hlt,hce⟩:=List.getElem?_eq_some_iff.1 hc
   obtain⟨n,rfl⟩:∃m,n=m+1:=⟨n - 1,by omega⟩
   have h1:okw (v.1+c.1,v.2+c.2) l.length:=aRg h (hl c (hce▸List.getElem_mem hlt))
   have hw:=bCh h1
   simp only at hw
   rw [aA (hS i c hc v.1 v.2),hw.1,hw.2]
   exact ih (i+1) n (v.1+c.1,v.2+c.2) (by rw [←List.drop_drop,hd];rfl) (by omega) (by simp only [List.length_cons] at hn;omega) h1
section
variable {l : List (Int × Int)}
theorem aRh {a:Int×Int} (h:vs a):pT a=true:=aCd (a:=a.1) (b:=a.2) h.1 h.2.1 h.2.2
theorem bFu (hl:∀a∈l,vs a):sR l=0:=by
 have key:∀(m:List (Int×Int)) (i n:Nat),l.drop i=m->i<=l.length->m.length < n->aB (eJ l) n (i:Int)=0:=by
   intro m
   induction m with
   | nil =>
     intro i n hd hi hn
     have:i=l.length:=by have:=List.drop_eq_nil_iff.1 hd;omega
     obtain⟨n,rfl⟩:∃m,n=m+1:=⟨n - 1,by simp only [List.length_nil] at hn;omega⟩
     subst this
     refine aO ?_
     simp only [eJ]
     rw [cJ (Int.lt_irrefl _),cond_false]
   | cons c m ih =>
     intro i n hd hi hn
     have hc:l[i]? = some c:=by
       have:(l.drop i)[0]? = some c:=by rw [hd];rfl
       simpa using this
     obtain⟨hlt,hce⟩:=List.getElem?_eq_some_iff.1 hc
     obtain⟨n,rfl⟩:∃m,n=m+1:=⟨n - 1,by omega⟩
     have hg:l.getD i default=c:=by rw [eZ,hc];rfl
     have e:eJ l (i:Int)=.inl ((i+1:Nat):Int):=by
       simp only [eJ]
       rw [bT (show((i:Nat):Int) < (l.length:Nat) by omega),cond_true,uM,hg,aRh (hl c (hce▸List.getElem_mem hlt))];rfl
     rw [aA e]
     exact ih (i+1) n (by rw [←List.drop_drop,hd];rfl) (by omega) (by simp only [List.length_cons] at hn;omega)
 unfold sR
 exact key l 0 _ rfl (Nat.zero_le _) (by omega)
theorem aY6 (hl:∀a∈l,vs a)(hn:l.length<=10000):cI l=((jC l (0,0)).1,(jC l (0,0)).2,0):=by
 unfold cI
 rw [cJ (by omega),cond_false,bFu hl]
 show aB _ _ (((0,0):Int×Int).1,((0,0):Int×Int).2,((0:Nat):Int))=_
 refine aCj (G:=fun v=>(v.1,v.2,0)) hl (fun i a hi v1 v2=>?_) (fun v1 v2=>?_) l 0 _ (0,0) rfl (Nat.zero_le _) (by omega) (aW4 hn)
 · obtain⟨hlt,hce⟩:=List.getElem?_eq_some_iff.1 hi
   have hg:l.getD i default=a:=by rw [eZ,hi];rfl
   simp only [gT]
   rw [bT (show((i:Nat):Int) < (l.length:Nat) by omega),cond_true,uM,hg];rfl
 · simp only [gT]
   rw [cJ (Int.lt_irrefl _),cond_false]
theorem aY7 (hl:∀a∈l,vs a)(hn:l.length<=10000):cM l=((jC l (0,0)).1,(jC l (0,0)).2,0):=by
 unfold cM
 rw [cJ (by omega),cond_false]
 show aB _ _ (((0,0):Int×Int).1,((0,0):Int×Int).2,((0:Nat):Int))=_
 refine aCj (G:=fun v=>(v.1,v.2,0)) hl (fun i a hi v1 v2=>?_) (fun v1 v2=>?_) l 0 _ (0,0) rfl (Nat.zero_le _) (by omega) (aW4 hn)
 · obtain⟨hlt,hce⟩:=List.getElem?_eq_some_iff.1 hi
   have hg:l.getD i default=a:=by rw [eZ,hi];rfl
   simp only [fM]
   rw [bT (show((i:Nat):Int) < (l.length:Nat) by omega),cond_true,uM,hg,show F51 a=true from aRh (hl a (hce▸List.getElem_mem hlt))];rfl
 · simp only [fM]
   rw [cJ (Int.lt_irrefl _),cond_false]
noncomputable def aK3 (l:List (Int×Int)):(Int×Int)×Int:=qL (jC l (0,0)).1 (jC l (0,0)).2
theorem bCi (hl:∀a∈l,vs a)(hn:l.length<=10000):kQ l=aK3 l:=by
 unfold kQ
 rw [aY6 hl hn];rfl
theorem aW5 (hl:∀a∈l,vs a)(hn:l.length<=10000):cZ l=aK3 l:=by
 unfold cZ
 rw [aY7 hl hn];rfl
end
theorem aRi {l:List (Int×Int)} (h:(aK3 l).2=0):aK3 l=(jC l (0,0),0)/\vs (jC l (0,0)):=by
 unfold aK3 at *
 rcases rL (jC l (0,0)).1 (jC l (0,0)).2 with⟨h1,h2⟩ | h1
 · exact⟨h1,h2⟩
 · rw [h1] at h;exact absurd h (by decide)
theorem aI1 {a:Int×Int} {n:Int} (h:(oA a n).2=0):vs (oA a n).1:=by
 have h0:=h
 unfold oA at h0
 cases h1:((kF a:Int) != 0) with
 | true=>rw [h1,cond_true] at h0;exact absurd h0 (bne_iff_ne.1 h1)
 | false =>
   rw [h1,cond_false] at h0
   cases h2:(!(F46 n)) with
   | true=>rw [h2,cond_true] at h0;exact absurd h0 (by decide)
   | false =>
     obtain⟨x,y,e⟩:∃x y,oA a n=qL x y:=⟨_,_,by unfold oA;rw [h1,cond_false,h2,cond_false]⟩
     rw [e] at h ⊢
     rcases rL x y with⟨e1,e2⟩ | e1
     · rw [e1];exact e2
     · rw [e1] at h;exact absurd h (by decide)
theorem rN {α β:Type} {g:α->β×Int}:∀{k:List α} {l:List β} {e:Int},nL g k l=.inr e->e≠0
 | [],l,e,h=>by simp only [nL] at h;cases h
 | c::k,l,e,h=>by
   unfold nL at h
   split at h
   · exact rN h
   · rename_i h0;cases h;exact h0
end Go.Proofs.YtaeagjnpobdglaaGreat
namespace Go.Proofs.YtaeagjnpobdglaaGreat
open Go.Proofs Go.Aw Go.RowKit
set_option maxRecDepth 100000
theorem eN {α:Type} {c:α->List SV} {es:Nat} (hc:∀x,(c x).length=es) {L:List α} {i o:Nat} {xs:List SV} {d y:α} (hi:i < L.length)(ho:o+xs.length<=es)(hy:c y=splice (c (L.getD i d)) o xs) :
   splice (flat c L) (0+i*es+o) xs=flat c (L.set i y):=by
 induction L generalizing i with
 | nil=>simp at hi
 | cons x L ih =>
   cases i with
   | zero =>
     have hy':c y=splice (c x) o xs:=hy
     have hx:=hc x
     simp only [flat,List.flatMap_cons,List.set_cons_zero,hy']
     unfold splice
     simp only [Nat.zero_mul,Nat.zero_add]
     rw [List.take_append_of_le_length (by omega),List.drop_append_of_le_length (by omega)]
     simp [List.append_assoc]
   | succ i =>
     have h:=ih (i:=i) (by simpa using hi) hy
     have hx:=hc x
     simp only [flat,List.flatMap_cons,List.set_cons_succ] at h ⊢
     rw [←h]
     unfold splice
     have e1:0+(i+1)*es+o=(c x).length+(0+i*es+o):=by rw [hx,Nat.add_mul];omega
     rw [e1,List.take_length_add_append,show(c x).length+(0+i*es+o)+xs.length=(c x).length+(0+i*es+o+xs.length) by omega,List.drop_length_add_append]
     simp [List.append_assoc]
theorem jT {α:Type} {c:α->List SV} {es:Nat} (hc:∀x,(c x).length=es) {L:List α} {i o n:Nat} (hi:i < L.length)(ho:o+n<=es):0+i*es+o+n<=(flat c L).length:=by
 rw [qB hc]
 have:=Nat.mul_le_mul_right es (show i+1<=L.length by omega)
 rw [Nat.add_mul] at this
 omega
open Go.ChangeShapes Go.WideShapes Go.ChangeAt
inductive CK where
 | i | b | s (es:Nat)
deriving DecidableEq
section
variable {H : Type} {enc : TypeId × Value → H} {P : Program} {w : World}
def aY8 (w:World):CK->Value->Prop
 | .i,v=>∃n:Int,v=.int .i64 n
 | .b,v=>∃x:Bool,v=.bool x
 | .s es,v=>∃nss,aVd w es v nss
def aRj (w:World):List CK->List Value->Prop
 | [],[]=>True
 | k::ks,v::vs=>aY8 w k v/\aRj w ks vs
 | _,_=>False
end
def iZ {α σ R:Type} (f:σ->α->σ⊕R):List α->σ->σ⊕R
 | [],v=>.inl v
 | c::l,v=>match f v c with
   | .inl v'=>iZ f l v'
   | .inr r=>.inr r
def aCk {σ R:Type} (G:σ->R):σ⊕R->R
 | .inl v=>G v
 | .inr r=>r
theorem aCl {α σ T R:Type} [Inhabited R] (pk:σ->Int->T) {S:T->T⊕R} (f:σ->α->σ⊕R)(G:σ->R) {L:List α} (I:Nat->σ->Prop)
   (hS:∀(i:Nat) (c:α),L[i]? = some c->∀v,I i v->S (pk v (i:Int))=match f v c with | .inl v'=>.inl (pk v' ((i+1:Nat):Int)) | .inr r=>.inr r)
   (hI:∀(i:Nat) (c:α),L[i]? = some c->∀v v',I i v->f v c=.inl v'->I (i+1) v')
   (hE:∀v,I L.length v->S (pk v (L.length:Int))=.inr (G v)) :
   ∀(k:List α) (i n:Nat) (v:σ),L.drop i=k->i<=L.length->k.length < n->I i v->aB S n (pk v (i:Int))=aCk G (iZ f k v):=by
 intro k
 induction k with
 | nil =>
   intro i n v hd hi' hn hv
   have:i=L.length:=by have:=List.drop_eq_nil_iff.1 hd;omega
   obtain⟨n,rfl⟩:∃m,n=m+1:=⟨n - 1,by simp only [List.length_nil] at hn;omega⟩
   subst this
   rw [aO (hE _ hv)];rfl
 | cons c k ih =>
   intro i n v hd hi' hn hv
   have hc:L[i]? = some c:=by
     have:(L.drop i)[0]? = some c:=by rw [hd];rfl
     simpa using this
   obtain⟨hlt,hce⟩:=List.getElem?_eq_some_iff.1 hc
   obtain⟨n,rfl⟩:∃m,n=m+1:=⟨n - 1,by omega⟩
   have hs:=hS i c hc v hv
   unfold iZ
   cases hf:f v c with
   | inl v' =>
     rw [hf] at hs
     rw [aA hs]
     exact ih (i+1) n v' (by rw [←List.drop_drop,hd];rfl) (by omega) (by simp only [List.length_cons] at hn;omega) (hI i c hc v v' hv hf)
   | inr r =>
     rw [hf] at hs
     rw [aO hs];rfl
theorem aZ {α σ T R:Type} [Inhabited R] (pk:σ->Int->T) {S:T->T⊕R} (f:σ->α->σ⊕R)(G:σ->R) {L:List α} (I:Nat->σ->Prop) {n:Nat} {v:σ}
   (hS:∀(i:Nat) (c:α),L[i]? = some c->∀v,I i v->S (pk v (i:Int))=match f v c with | .inl v'=>.inl (pk v' ((i+1:Nat):Int)) | .inr r=>.inr r)
   (hI:∀(i:Nat) (c:α),L[i]? = some c->∀v v',I i v->f v c=.inl v'->I (i+1) v')
   (hE:∀v,I L.length v->S (pk v (L.length:Int))=.inr (G v)) (hn:L.length < n) (hv:I 0 v):aB S n (pk v 0)=aCk G (iZ f L v) :=
 aCl pk f G I hS hI hE L 0 n v rfl (Nat.zero_le _) hn hv
abbrev inF (n:Nat)(f:Zt):Prop:=(0<=f.1/\f.1 < (n:Int))/\(0<=f.2.1/\f.2.1 < (n:Int))/\0<=f.2.2/\f.2.2 < (n:Int)
def mF (m:List Zt×List Zt)(k:Int):Prop:=∀i:Int,0<=i->i < k->inF m.1.length (m.2.getD (toNat i) default)
theorem kV {m:List Zt×List Zt}:mF m 0:=fun i h1 h2=>absurd h1 (by omega)
theorem dN {m:List Zt×List Zt} {k:Int} (h:mF m k)(hf:inF m.1.length (m.2.getD (toNat k) default)):mF m (k+1):=fun i h1 h2=>by
 by_cases e:i=k
 · subst e;exact hf
 · exact h i h1 (by omega)
theorem hH {m:List Zt×List Zt} {k j:Int} (h:mF m k)(hj:j<=k):mF m j:=fun i h1 h2=>h i h1 (by omega)
theorem aI2 {m:List Zt×List Zt} {k i:Int} (h:mF m k)(h1:0<=i)(h2:i < k):inF m.1.length (m.2.getD (toNat i) default):=h i h1 h2
end Go.Proofs.YtaeagjnpobdglaaGreat
namespace Go.Proofs.YtaeagjnpobdglaaGreat
open Go.Proofs Go.Aw Go.RowKit
set_option maxRecDepth 100000
theorem iL {a b c:Int} (h:(!qI a b c)=false):b<=a/\a<=c:=by
 unfold qI at h
 by_cases h1:b<=a
 · by_cases h2:a<=c
   · exact⟨h1,h2⟩
   · rw [bT h1,cJ h2] at h;simp at h
 · rw [cJ h1] at h;simp at h
theorem aCm {a b c:Int} (h:(!F78 a b c)=false):b<=a/\a<=c:=by
 unfold F78 at h
 by_cases h1:b<=a
 · by_cases h2:a<=c
   · exact⟨h1,h2⟩
   · rw [bT (show a≥b from h1),cJ h2] at h;simp at h
 · rw [cJ (show ¬a≥b from h1)] at h;simp at h
theorem jA {n:Nat} {f:Zt} (hn:n<=64)(h0:(!qI f.1 0 (W ((n:Int) - 1)))=false)(h1:(!qI f.2.1 0 (W ((n:Int) - 1)))=false)(h2:(!qI f.2.2 0 (W ((n:Int) - 1)))=false):inF n f:=by
 have hw:W ((n:Int) - 1)=(n:Int) - 1:=aE (by omega) (by omega)
 have g0:=iL h0;have g1:=iL h1;have g2:=iL h2
 rw [hw] at g0 g1 g2
 exact⟨⟨g0.1,by omega⟩,⟨g1.1,by omega⟩,g2.1,by omega⟩
def dW (x:Zt):List SV:=[(iv x.1),(iv x.2.1),(iv x.2.2)]
theorem aW (x:Zt):(dW x).length=3:=rfl
def eO (a0:Zm)(a1:Zt):Zt×Zt×Zt :=
 ((a0.1.getD (toNat a1.1) default),(a0.1.getD (toNat a1.2.1) default),(a0.1.getD (toNat a1.2.2) default))
theorem bCj (a0:Zm)(a1:Zt)(l0_1:a0.1.length<=9223372036854775807)(l0_2:a0.2.length<=9223372036854775807)(hf:inF a0.1.length a1):Con Tryz.prog 101 [(.a [(.s 0 0 a0.1.length 3),(.s 1 0 a0.2.length 3)]),(.a (k3 a1))] [(.live false true (flat dL a0.1)),(.live false true (flat dW a0.2))] (.a (k9 (eO a0 a1))) []:=by
 refine aJ Tryz.func101 (by kernel_rfl) fun cx hcx=>?_
 have e:=Eq.refl (eO a0 a1);conv at e=>rhs;simp only [eO]
 rw [e]
 exact rt [.i 0 3 (by decide),.i (a1.1) (a0.1.length),.L bM a0.1 a1.1 0 3,.i 1 3 (by decide),.i (a1.2.1) (a0.1.length),.L bM a0.1 a1.2.1 0 3,.i 2 3 (by decide),.i (a1.2.2) (a0.1.length),.L bM a0.1 a1.2.2 0 3] [] [] hcx (by kernel_rfl)
def F69 (a0:Zm)(a1:Zt):Int :=
 (bif (!(qI a1.1 0 (W ((a0.1.length:Int) - 1)))) then
  5
 else
  (bif (!(qI a1.2.1 0 (W ((a0.1.length:Int) - 1)))) then
   5
  else
   (bif (!(qI a1.2.2 0 (W ((a0.1.length:Int) - 1)))) then
    5
   else
    (bif ((((nV (eO (a0.1,a0.2) a1)).1:Int) == 0)&&((((nV (eO (a0.1,a0.2) a1)).2.1:Int) == 0)&&((((nV (eO (a0.1,a0.2) a1)).2.2:Int) == 0)&&true))) then
     6
    else
     0))))
theorem C69 (a0:Zm)(a1:Zt)(l0_1:a0.1.length<=9223372036854775807)(l0_2:a0.2.length<=9223372036854775807)(hn:a0.1.length<=64):Con Tryz.prog 69 [(.a [(.s 0 0 a0.1.length 3),(.s 1 0 a0.2.length 3)]),(.a (k3 a1))] [(.live false true (flat dL a0.1)),(.live false true (flat dW a0.2))] (iv (F69 a0 a1)) []:=by
 refine aJ Tryz.func69 (by kernel_rfl) fun cx hcx=>?_
 try have hfi:=jA hn h0 h1 h2
 let t0:List (St Tryz.prog):=[.u 200,.T,.i 0 3 (by decide),.c [] (C43 a1.1 0 (W ((a0.1.length:Int) - 1)))]
 cases h0:(!(qI a1.1 0 (W ((a0.1.length:Int) - 1)))) with
 | true =>
  try have hfi:=jA hn h0 h1 h2
  have e:=Eq.refl (F69 a0 a1);conv at e=>rhs;simp only [F69,h0,aI]
  rw [e]
  exact rt (t0++[.d h0]) [] [] hcx (by kernel_rfl)
 | false =>
  try have hfi:=jA hn h0 h1 h2
  let t1:List (St Tryz.prog):=(t0++[.d h0,.u 0,.T,.i 1 3 (by decide),.c [] (C43 a1.2.1 0 (W ((a0.1.length:Int) - 1)))])
  cases h1:(!(qI a1.2.1 0 (W ((a0.1.length:Int) - 1)))) with
  | true =>
   try have hfi:=jA hn h0 h1 h2
   have e:=Eq.refl (F69 a0 a1);conv at e=>rhs;simp only [F69,h0,h1,aI]
   rw [e]
   exact rt (t1++[.d h1]) [] [] hcx (by kernel_rfl)
  | false =>
   try have hfi:=jA hn h0 h1 h2
   let t2:List (St Tryz.prog):=(t1++[.d h1,.u 0,.T,.i 2 3 (by decide),.c [] (C43 a1.2.2 0 (W ((a0.1.length:Int) - 1)))])
   cases h2:(!(qI a1.2.2 0 (W ((a0.1.length:Int) - 1)))) with
   | true =>
    try have hfi:=jA hn h0 h1 h2
    have e:=Eq.refl (F69 a0 a1);conv at e=>rhs;simp only [F69,h0,h1,h2,aI]
    rw [e]
    exact rt (t2++[.d h2]) [] [] hcx (by kernel_rfl)
   | false =>
    try have hfi:=jA hn h0 h1 h2
    let t3:List (St Tryz.prog):=(t2++[.d h2,.u 0,.F,.c [0,1] (bCj (a0.1,a0.2) a1 (by(try simp only [Lt]);omega) (by(try simp only [Lt]);omega) hfi),.c [] (bA5 (eO (a0.1,a0.2) a1))])
    cases h3:((((nV (eO (a0.1,a0.2) a1)).1:Int) == 0)&&((((nV (eO (a0.1,a0.2) a1)).2.1:Int) == 0)&&((((nV (eO (a0.1,a0.2) a1)).2.2:Int) == 0)&&true))) with
    | true =>
     try have hfi:=jA hn h0 h1 h2
     have e:=Eq.refl (F69 a0 a1);conv at e=>rhs;simp only [F69,h0,h1,h2,h3,aI]
     rw [e]
     exact rt (t3++[.d h3]) [] [] hcx (by kernel_rfl)
    | false =>
     try have hfi:=jA hn h0 h1 h2
     have e:=Eq.refl (F69 a0 a1);conv at e=>rhs;simp only [F69,h0,h1,h2,h3,aI]
     rw [e]
     exact rt (t3++[.d h3]) [] [] hcx (by kernel_rfl)
theorem mW {m:List Zt×List Zt} {f:Zt} (h:(F69 m f != 0)=false)(hl:m.1.length<=64):inF m.1.length f:=by
 have hw:W ((m.1.length:Int) - 1)=(m.1.length:Int) - 1:=aE (by omega) (by omega)
 unfold F69 at h
 cases h0:(!qI f.1 0 (W ((m.1.length:Int) - 1))) with
 | true=>rw [h0,cond_true] at h;exact absurd h (by decide)
 | false =>
   cases h1:(!qI f.2.1 0 (W ((m.1.length:Int) - 1))) with
   | true=>rw [h0,h1,cond_false,cond_true] at h;exact absurd h (by decide)
   | false =>
     cases h2:(!qI f.2.2 0 (W ((m.1.length:Int) - 1))) with
     | true=>rw [h0,h1,h2,cond_false,cond_false,cond_true] at h;exact absurd h (by decide)
     | false =>
       have g0:=iL h0;have g1:=iL h1;have g2:=iL h2
       rw [hw] at g0 g1 g2
       exact⟨⟨g0.1,by omega⟩,⟨g1.1,by omega⟩,g2.1,by omega⟩
def aVe (x:Zt):SV:=.a (dL x)
theorem K30:KeyOK T0 30 aVe :=
 ⟨fun x=>by kernel_rfl,fun x y=>⟨(((x.1:Int) == y.1)&&(((x.2.1:Int) == y.2.1)&&(((x.2.2:Int) == y.2.2)&&true))),by kernel_rfl,by
     simp only [aVe,dL,iv,SV.a.injEq,List.cons.injEq,SV.v.injEq,Value.int.injEq,Bool.and_eq_true,beq_iff_eq,true_and,and_true]
     constructor<;>intro h<;>omega⟩,fun x y h=>by
     simp only [aVe,dL,iv,SV.a.injEq,List.cons.injEq,SV.v.injEq,Value.int.injEq,true_and,and_true] at h
     simp only [Prod.ext_iff];omega,fun x=>rfl⟩
noncomputable def aRk:Code:=(aD [1,1,0,1] [] (aG Tryz.f68) []).1
noncomputable def aRl:List K:=(aD [1,1,0,1] [] (aG Tryz.f68) []).2
def aK4 (a0:Zm)(v1:List (Zt×Bool))(v2:Int):LS:=⟨iH 25 [(3,(.m 2)),(8,(.s 0 0 a0.1.length 3)),(9,(iv (a0.1.length:Int))),(10,(iv v2))],[(.live false true (flat dL a0.1)),(.live false true (flat dW a0.2)),(.map (Aw.mapE aVe vB v1))]⟩
def eP (a0:Zm):(List (Zt×Bool))×Int->((List (Zt×Bool))×Int)⊕(Int)
 | (v1,v2) =>
  (bif (decide ((v2:Int) < (a0.1.length:Int))) then
   (bif (!(F36 (a0.1.getD (toNat v2) default) 64)) then
    (.inr 1)
   else
    (bif (aV v1 (a0.1.getD (toNat v2) default) false) then
     (.inr 1)
    else
     (.inl ((cK v1 (a0.1.getD (toNat v2) default) true),(v2+1)))))
  else
   (.inr 0))
theorem bCk (a0:Zm)(l0_1:a0.1.length<=9223372036854775807)(l0_2:a0.2.length<=9223372036854775807) {cx:Cx} (hcx:cx.base=2):∀(n:Nat)(v1:List (Zt×Bool))(v2:Int),0<=v2->toNat ((a0.1.length:Int) - v2) < n->Aw.Good Tryz.prog none 9 (bodyPost Tryz.prog Tryz.f68 (RR cx (iv (aB (eP a0) n (v1,v2))) [] [])) cx [] (.l aRk n::aRl) (aK4 a0 v1 v2):=by
 intro n
 induction n with
 | zero=>intro v1 v2 hi hn;exact absurd hn (gP _)
 | succ n ih =>
   intro v1 v2 hi hn
   refine aH ?_
   cases h0:(decide ((v2:Int) < (a0.1.length:Int))) with
   | true =>
    have q0:=bO h0
    let t1:List (St Tryz.prog):=[.d h0,.i v2 (a0.1.length),.L bM a0.1 v2 0 3,.c [] (C36 (a0.1.getD (toNat v2) default) 64)]
    cases h1:(!(F36 (a0.1.getD (toNat v2) default) 64)) with
    | true =>
     have e:=Eq.refl (eP a0 (v1,v2));conv at e=>rhs;simp only [eP,h0,h1,aI]
     rw [aC,e]
     exact rt (t1++[.d h1]) [] [] hcx (by kernel_rfl)
    | false =>
     let t2:List (St Tryz.prog):=(t1++[.d h1,.mG K30 vB v1 (a0.1.getD (toNat v2) default) false])
     cases h2:(aV v1 (a0.1.getD (toNat v2) default) false) with
     | true =>
      have e:=Eq.refl (eP a0 (v1,v2));conv at e=>rhs;simp only [eP,h0,h1,h2,aI]
      rw [aC,e]
      exact rt (t2++[.d h2]) [] [] hcx (by kernel_rfl)
     | false =>
      have e:=Eq.refl (eP a0 (v1,v2));conv at e=>rhs;simp only [eP,h0,h1,h2,aI]
      rw [aA e]
      refine ba (t2++[.d h2,.mP K30 vB v1 (a0.1.getD (toNat v2) default) true]) [] [3,8,9,10] [2] hcx (m:=n) aRk (aRl) (aK4 a0 (cK v1 (a0.1.getD (toNat v2) default) true) (W (v2+1))) (by kernel_rfl) ?_
      have z0:(W (v2+1))=(v2+1):=aE (by omega) (by omega)
      rw [z0]
      exact ih (cK v1 (a0.1.getD (toNat v2) default) true) (v2+1) (by(try simp only [Ls]);omega) (by(try simp only [Ls]);omega)
   | false =>
    have q0:=cA h0
    have e:=Eq.refl (eP a0 (v1,v2));conv at e=>rhs;simp only [eP,h0,aI]
    rw [aC,e]
    exact rt [.d h0] [] [] hcx (by kernel_rfl)
def F68 (a0:Zm):Int :=
 (aB (eP a0) (toNat ((a0.1.length:Int) - 0)+1) (([]:List (Zt×Bool)),0))
theorem C68 (a0:Zm)(l0_1:a0.1.length<=9223372036854775807)(l0_2:a0.2.length<=9223372036854775807):Con Tryz.prog 68 [(.a [(.s 0 0 a0.1.length 3),(.s 1 0 a0.2.length 3)])] [(.live false true (flat dL a0.1)),(.live false true (flat dW a0.2))] (iv (F68 a0)) []:=by
 refine aJ Tryz.func68 (by kernel_rfl) fun cx hcx=>?_
 have e:=Eq.refl (F68 a0);conv at e=>rhs;simp only [F68]
 rw [e]
 refine en [] [] [3,8,9,10] [3] hcx aRk (aRl) (aK4 a0 ([]:List (Zt×Bool)) 0) (toNat ((a0.1.length:Int) - 0)+1) (by kernel_rfl) ?_
 exact bCk a0 l0_1 l0_2 hcx (toNat ((a0.1.length:Int) - 0)+1) ([]:List (Zt×Bool)) 0 (by(try simp only [Ls]);omega) (by(try simp only [Ls]);omega)
def bS (a0:Zt):(Int×Int)×(Int×Int)×Int×Int :=
 ((a0.1,a0.2.1),a0.2,(a0.2.2,a0.1))
theorem C71 (a0:Zt):Con Tryz.prog 71 [(.a (k3 a0))] [] (.a [(iv (bS a0).1.1),(iv (bS a0).1.2),(iv (bS a0).2.1.1),(iv (bS a0).2.1.2),(iv (bS a0).2.2.1),(iv (bS a0).2.2.2)]) []:=by
 refine aJ Tryz.func71 (by kernel_rfl) fun cx hcx=>?_
 have e:=Eq.refl (bS a0);conv at e=>rhs;simp only [bS]
 rw [e]
 exact rt [.i 0 3 (by decide),.i 1 3 (by decide),.i 1 3 (by decide),.i 2 3 (by decide),.i 2 3 (by decide),.i 0 3 (by decide)] [] [] hcx (by kernel_rfl)
def aY9 (x:Int×Int):List SV:=[(iv x.1),(iv x.2)]
def sT (x:Int×Int):SV:=.a (aY9 x)
theorem tS:KeyOK T0 114 sT :=
 ⟨fun x=>by kernel_rfl,fun x y=>⟨(((x.1:Int) == y.1)&&(((x.2:Int) == y.2)&&true)),by kernel_rfl,by
     simp only [sT,aY9,iv,SV.a.injEq,List.cons.injEq,SV.v.injEq,Value.int.injEq,Bool.and_eq_true,beq_iff_eq,true_and,and_true]
     constructor<;>intro h<;>omega⟩,fun x y h=>by
     simp only [sT,aY9,iv,SV.a.injEq,List.cons.injEq,SV.v.injEq,Value.int.injEq,true_and,and_true] at h
     simp only [Prod.ext_iff];omega,fun x=>rfl⟩
noncomputable def aRm:Code:=(aD [1,1,0,1] [] (aG Tryz.f70) []).1
noncomputable def aRn:List K:=(aD [1,1,0,1] [] (aG Tryz.f70) []).2
def aK5 (a0:Zm)(v1:List ((Int×Int)×Int))(v2:Int):LS:=⟨iH 30 [(3,(.m 2)),(10,(.s 1 0 a0.2.length 3)),(11,(iv (a0.2.length:Int))),(12,(iv v2))],[(.live false true (flat dL a0.1)),(.live false true (flat dW a0.2)),(.map (Aw.mapE sT iv v1))]⟩
def zF (a0:Zm):(List ((Int×Int)×Int))×Int->((List ((Int×Int)×Int))×Int)⊕(List ((Int×Int)×Int))
 | (v1,v2) =>
  (bif (decide ((v2:Int) < (a0.2.length:Int))) then
   (.inl ((cK (cK (cK v1 ((bS (a0.2.getD (toNat v2) default)).1) (W ((aV v1 ((bS (a0.2.getD (toNat v2) default)).1) 0)+1))) ((bS (a0.2.getD (toNat v2) default)).2.1) (W ((aV (cK v1 ((bS (a0.2.getD (toNat v2) default)).1) (W ((aV v1 ((bS (a0.2.getD (toNat v2) default)).1) 0)+1))) ((bS (a0.2.getD (toNat v2) default)).2.1) 0)+1))) ((bS (a0.2.getD (toNat v2) default)).2.2) (W ((aV (cK (cK v1 ((bS (a0.2.getD (toNat v2) default)).1) (W ((aV v1 ((bS (a0.2.getD (toNat v2) default)).1) 0)+1))) ((bS (a0.2.getD (toNat v2) default)).2.1) (W ((aV (cK v1 ((bS (a0.2.getD (toNat v2) default)).1) (W ((aV v1 ((bS (a0.2.getD (toNat v2) default)).1) 0)+1))) ((bS (a0.2.getD (toNat v2) default)).2.1) 0)+1))) ((bS (a0.2.getD (toNat v2) default)).2.2) 0)+1))),(v2+1)))
  else
   (.inr v1))
theorem bCl (a0:Zm)(l0_1:a0.1.length<=9223372036854775807)(l0_2:a0.2.length<=9223372036854775807) {cx:Cx} (hcx:cx.base=2):∀(n:Nat)(v1:List ((Int×Int)×Int))(v2:Int),0<=v2->toNat ((a0.2.length:Int) - v2) < n->Aw.Good Tryz.prog none 9 (bodyPost Tryz.prog Tryz.f70 (RR cx (.m 2) [(.map (Aw.mapE sT iv (aB (zF a0) n (v1,v2))))] [])) cx [] (.l aRm n::aRn) (aK5 a0 v1 v2):=by
 intro n
 induction n with
 | zero=>intro v1 v2 hi hn;exact absurd hn (gP _)
 | succ n ih =>
   intro v1 v2 hi hn
   refine aH ?_
   cases h0:(decide ((v2:Int) < (a0.2.length:Int))) with
   | true =>
    have q0:=bO h0
    have e:=Eq.refl (zF a0 (v1,v2));conv at e=>rhs;simp only [zF,h0,aI]
    rw [aA e]
    refine ba [.d h0,.i v2 (a0.2.length),.L aW a0.2 v2 0 3,.c [] (C71 (a0.2.getD (toNat v2) default)),.u 200,.T,.i 0 3 (by decide),.mGa tS iv v1 ((bS (a0.2.getD (toNat v2) default)).1) 0 2,.mE tS iv v1 ((bS (a0.2.getD (toNat v2) default)).1) 0,.mS tS iv v1 ((bS (a0.2.getD (toNat v2) default)).1) 0 (W ((aV v1 ((bS (a0.2.getD (toNat v2) default)).1) 0)+1)),.mR sT iv v1 ((bS (a0.2.getD (toNat v2) default)).1) 0,.u 0,.T,.i 1 3 (by decide),.mGa tS iv (cK v1 ((bS (a0.2.getD (toNat v2) default)).1) (W ((aV v1 ((bS (a0.2.getD (toNat v2) default)).1) 0)+1))) ((bS (a0.2.getD (toNat v2) default)).2.1) 0 2,.mE tS iv (cK v1 ((bS (a0.2.getD (toNat v2) default)).1) (W ((aV v1 ((bS (a0.2.getD (toNat v2) default)).1) 0)+1))) ((bS (a0.2.getD (toNat v2) default)).2.1) 0,.mS tS iv (cK v1 ((bS (a0.2.getD (toNat v2) default)).1) (W ((aV v1 ((bS (a0.2.getD (toNat v2) default)).1) 0)+1))) ((bS (a0.2.getD (toNat v2) default)).2.1) 0 (W ((aV (cK v1 ((bS (a0.2.getD (toNat v2) default)).1) (W ((aV v1 ((bS (a0.2.getD (toNat v2) default)).1) 0)+1))) ((bS (a0.2.getD (toNat v2) default)).2.1) 0)+1)),.mR sT iv (cK v1 ((bS (a0.2.getD (toNat v2) default)).1) (W ((aV v1 ((bS (a0.2.getD (toNat v2) default)).1) 0)+1))) ((bS (a0.2.getD (toNat v2) default)).2.1) 0,.u 0,.T,.i 2 3 (by decide),.mGa tS iv (cK (cK v1 ((bS (a0.2.getD (toNat v2) default)).1) (W ((aV v1 ((bS (a0.2.getD (toNat v2) default)).1) 0)+1))) ((bS (a0.2.getD (toNat v2) default)).2.1) (W ((aV (cK v1 ((bS (a0.2.getD (toNat v2) default)).1) (W ((aV v1 ((bS (a0.2.getD (toNat v2) default)).1) 0)+1))) ((bS (a0.2.getD (toNat v2) default)).2.1) 0)+1))) ((bS (a0.2.getD (toNat v2) default)).2.2) 0 2,.mE tS iv (cK (cK v1 ((bS (a0.2.getD (toNat v2) default)).1) (W ((aV v1 ((bS (a0.2.getD (toNat v2) default)).1) 0)+1))) ((bS (a0.2.getD (toNat v2) default)).2.1) (W ((aV (cK v1 ((bS (a0.2.getD (toNat v2) default)).1) (W ((aV v1 ((bS (a0.2.getD (toNat v2) default)).1) 0)+1))) ((bS (a0.2.getD (toNat v2) default)).2.1) 0)+1))) ((bS (a0.2.getD (toNat v2) default)).2.2) 0,.mS tS iv (cK (cK v1 ((bS (a0.2.getD (toNat v2) default)).1) (W ((aV v1 ((bS (a0.2.getD (toNat v2) default)).1) 0)+1))) ((bS (a0.2.getD (toNat v2) default)).2.1) (W ((aV (cK v1 ((bS (a0.2.getD (toNat v2) default)).1) (W ((aV v1 ((bS (a0.2.getD (toNat v2) default)).1) 0)+1))) ((bS (a0.2.getD (toNat v2) default)).2.1) 0)+1))) ((bS (a0.2.getD (toNat v2) default)).2.2) 0 (W ((aV (cK (cK v1 ((bS (a0.2.getD (toNat v2) default)).1) (W ((aV v1 ((bS (a0.2.getD (toNat v2) default)).1) 0)+1))) ((bS (a0.2.getD (toNat v2) default)).2.1) (W ((aV (cK v1 ((bS (a0.2.getD (toNat v2) default)).1) (W ((aV v1 ((bS (a0.2.getD (toNat v2) default)).1) 0)+1))) ((bS (a0.2.getD (toNat v2) default)).2.1) 0)+1))) ((bS (a0.2.getD (toNat v2) default)).2.2) 0)+1)),.mR sT iv (cK (cK v1 ((bS (a0.2.getD (toNat v2) default)).1) (W ((aV v1 ((bS (a0.2.getD (toNat v2) default)).1) 0)+1))) ((bS (a0.2.getD (toNat v2) default)).2.1) (W ((aV (cK v1 ((bS (a0.2.getD (toNat v2) default)).1) (W ((aV v1 ((bS (a0.2.getD (toNat v2) default)).1) 0)+1))) ((bS (a0.2.getD (toNat v2) default)).2.1) 0)+1))) ((bS (a0.2.getD (toNat v2) default)).2.2) 0,.u 0,.F] [] [3,10,11,12] [2] hcx (m:=n) aRm (aRn) (aK5 a0 (cK (cK (cK v1 ((bS (a0.2.getD (toNat v2) default)).1) (W ((aV v1 ((bS (a0.2.getD (toNat v2) default)).1) 0)+1))) ((bS (a0.2.getD (toNat v2) default)).2.1) (W ((aV (cK v1 ((bS (a0.2.getD (toNat v2) default)).1) (W ((aV v1 ((bS (a0.2.getD (toNat v2) default)).1) 0)+1))) ((bS (a0.2.getD (toNat v2) default)).2.1) 0)+1))) ((bS (a0.2.getD (toNat v2) default)).2.2) (W ((aV (cK (cK v1 ((bS (a0.2.getD (toNat v2) default)).1) (W ((aV v1 ((bS (a0.2.getD (toNat v2) default)).1) 0)+1))) ((bS (a0.2.getD (toNat v2) default)).2.1) (W ((aV (cK v1 ((bS (a0.2.getD (toNat v2) default)).1) (W ((aV v1 ((bS (a0.2.getD (toNat v2) default)).1) 0)+1))) ((bS (a0.2.getD (toNat v2) default)).2.1) 0)+1))) ((bS (a0.2.getD (toNat v2) default)).2.2) 0)+1))) (W (v2+1))) (by kernel_rfl) ?_
    have z0:(W (v2+1))=(v2+1):=aE (by omega) (by omega)
    rw [z0]
    exact ih (cK (cK (cK v1 ((bS (a0.2.getD (toNat v2) default)).1) (W ((aV v1 ((bS (a0.2.getD (toNat v2) default)).1) 0)+1))) ((bS (a0.2.getD (toNat v2) default)).2.1) (W ((aV (cK v1 ((bS (a0.2.getD (toNat v2) default)).1) (W ((aV v1 ((bS (a0.2.getD (toNat v2) default)).1) 0)+1))) ((bS (a0.2.getD (toNat v2) default)).2.1) 0)+1))) ((bS (a0.2.getD (toNat v2) default)).2.2) (W ((aV (cK (cK v1 ((bS (a0.2.getD (toNat v2) default)).1) (W ((aV v1 ((bS (a0.2.getD (toNat v2) default)).1) 0)+1))) ((bS (a0.2.getD (toNat v2) default)).2.1) (W ((aV (cK v1 ((bS (a0.2.getD (toNat v2) default)).1) (W ((aV v1 ((bS (a0.2.getD (toNat v2) default)).1) 0)+1))) ((bS (a0.2.getD (toNat v2) default)).2.1) 0)+1))) ((bS (a0.2.getD (toNat v2) default)).2.2) 0)+1))) (v2+1) (by(try simp only [Ls]);omega) (by(try simp only [Ls]);omega)
   | false =>
    have q0:=cA h0
    have e:=Eq.refl (zF a0 (v1,v2));conv at e=>rhs;simp only [zF,h0,aI]
    rw [aC,e]
    exact rt [.d h0] [] [2] hcx (by kernel_rfl)
def zG (a0:Zm):List ((Int×Int)×Int) :=
 (aB (zF a0) (toNat ((a0.2.length:Int) - 0)+1) (([]:List ((Int×Int)×Int)),0))
theorem C70 (a0:Zm)(l0_1:a0.1.length<=9223372036854775807)(l0_2:a0.2.length<=9223372036854775807):Con Tryz.prog 70 [(.a [(.s 0 0 a0.1.length 3),(.s 1 0 a0.2.length 3)])] [(.live false true (flat dL a0.1)),(.live false true (flat dW a0.2))] (.m 2) [(.map (Aw.mapE sT iv (zG a0)))]:=by
 refine aJ Tryz.func70 (by kernel_rfl) fun cx hcx=>?_
 have e:=Eq.refl (zG a0);conv at e=>rhs;simp only [zG]
 rw [e]
 refine en [] [] [3,10,11,12] [3] hcx aRm (aRn) (aK5 a0 ([]:List ((Int×Int)×Int)) 0) (toNat ((a0.2.length:Int) - 0)+1) (by kernel_rfl) ?_
 exact bCl a0 l0_1 l0_2 hcx (toNat ((a0.2.length:Int) - 0)+1) ([]:List ((Int×Int)×Int)) 0 (by(try simp only [Ls]);omega) (by(try simp only [Ls]);omega)
noncomputable def aK6:Code:=(aD [1,1,0,1] [] (aG Tryz.f102) []).1
noncomputable def aK7:List K:=(aD [1,1,0,1] [] (aG Tryz.f102) []).2
def aGj (a0:Zm)(v2c:List SV)(v2n:Nat)(v3:Int):LS:=⟨iH 21 [(1,(.p 2 0)),(3,(.s 3 0 v2n 9)),(7,(.s 1 0 a0.2.length 3)),(8,(iv (a0.2.length:Int))),(9,(iv v3))],[(.live false true (flat dL a0.1)),(.live false true (flat dW a0.2)),(.live true false [(.s 0 0 a0.1.length 3),(.s 1 0 a0.2.length 3)]),(.live true true v2c)]⟩
def oX (a0:Zm):(List (Zt×Zt×Zt))×Int->((List (Zt×Zt×Zt))×Int)⊕(List (Zt×Zt×Zt))
 | (v2,v3) =>
  (bif (decide ((v3:Int) < (a0.2.length:Int))) then
   (.inl ((v2++[(eO (a0.1,a0.2) (a0.2.getD (toNat v3) default))]),(v3+1)))
  else
   (.inr v2))
theorem aZa (a0:Zm)(l0_1:a0.1.length<=9223372036854775807)(l0_2:a0.2.length<=9223372036854775807)(hv:mF a0 a0.2.length)(hn:a0.2.length<=96) {cx:Cx} (hcx:cx.base=2):∀(n:Nat)(v2:List (Zt×Zt×Zt))(v3:Int),(0<=v3)/\(v2.length=toNat v3)/\(v3<=a0.2.length)->toNat ((a0.2.length:Int) - v3) < n->Aw.Good Tryz.prog none 9 (bodyPost Tryz.prog Tryz.f102 (RR cx (.s 2 0 (aB (oX a0) n (v2,v3)).length 9) [(.live true true (flat dM (aB (oX a0) n (v2,v3))))] [])) cx [] (.l aK6 n::aK7) (aGj a0 (flat dM v2) v2.length v3):=by
 intro n
 induction n with
 | zero=>intro v2 v3 hi hn;exact absurd hn (gP _)
 | succ n ih =>
   intro v2 v3 hi hn
   refine aH ?_
   cases h0:(decide ((v3:Int) < (a0.2.length:Int))) with
   | true =>
    have q0:=bO h0
    have e:=Eq.refl (oX a0 (v2,v3));conv at e=>rhs;simp only [oX,h0,aI]
    rw [aA e]
    refine ba [.d h0,.i v3 (a0.2.length),.L aW a0.2 v3 0 3,.c [0,1] (bCj (a0.1,a0.2) (a0.2.getD (toNat v3) default) (by(try simp only [Lt]);omega) (by(try simp only [Lt]);omega) (aI2 hv (by omega) (by omega))),.p (show((flat dM v2).length=v2.length*9/\v2.length+1<=2 ^ 40/\(v2.length+1)*72<=2 ^ 47) from gL cW (by omega) (by omega))] [] [1,3,7,8,9] [2,6] hcx (m:=n) aK6 (aK7) (aGj a0 (flat dM v2++(k9 (eO (a0.1,a0.2) (a0.2.getD (toNat v3) default)))) (v2.length+1) (W (v3+1))) (by kernel_rfl) ?_
    have z0:(W (v3+1))=(v3+1):=aE (by omega) (by omega)
    have z1:(flat dM v2++(k9 (eO (a0.1,a0.2) (a0.2.getD (toNat v3) default))))=(flat dM (v2++[(eO (a0.1,a0.2) (a0.2.getD (toNat v3) default))])):=(bN (c:=dM) (l:=v2) (m:=[(eO (a0.1,a0.2) (a0.2.getD (toNat v3) default))])).symm
    have z2:(v2.length+1)=(v2++[(eO (a0.1,a0.2) (a0.2.getD (toNat v3) default))]).length:=eH v2 [(eO (a0.1,a0.2) (a0.2.getD (toNat v3) default))] rfl
    rw [z0,z1,z2]
    exact ih (v2++[(eO (a0.1,a0.2) (a0.2.getD (toNat v3) default))]) (v3+1) (by refine⟨?_,?_,?_⟩<;>(try simp only [Ls])<;>first | omega | assumption | simp) (by(try simp only [Ls]);omega)
   | false =>
    have q0:=cA h0
    have e:=Eq.refl (oX a0 (v2,v3));conv at e=>rhs;simp only [oX,h0,aI]
    rw [aC,e]
    exact rt [.d h0] [] [3] hcx (by kernel_rfl)
def gD (a0:Zm):List (Zt×Zt×Zt) :=
 (aB (oX a0) (toNat ((a0.2.length:Int) - 0)+1) (([]:List (Zt×Zt×Zt)),0))
theorem bCm (a0:Zm)(l0_1:a0.1.length<=9223372036854775807)(l0_2:a0.2.length<=9223372036854775807)(hv:mF a0 a0.2.length)(hn:a0.2.length<=96):Con Tryz.prog 102 [(.a [(.s 0 0 a0.1.length 3),(.s 1 0 a0.2.length 3)])] [(.live false true (flat dL a0.1)),(.live false true (flat dW a0.2))] (.s 2 0 (gD a0).length 9) [(.live true true (flat dM (gD a0)))]:=by
 refine aJ Tryz.func102 (by kernel_rfl) fun cx hcx=>?_
 have e:=Eq.refl (gD a0);conv at e=>rhs;simp only [gD]
 rw [e]
 refine en [] [.slot 3 9] [1,3,7,8,9] [2,3] hcx aK6 (aK7) (aGj a0 (flat dM ([]:List (Zt×Zt×Zt))) 0 0) (toNat ((a0.2.length:Int) - 0)+1) (by kernel_rfl) ?_
 exact aZa a0 l0_1 l0_2 hv hn hcx (toNat ((a0.2.length:Int) - 0)+1) ([]:List (Zt×Zt×Zt)) 0 (by refine⟨?_,?_,?_⟩<;>(try simp only [Ls])<;>first | omega | assumption | simp) (by(try simp only [Ls]);omega)
theorem aGk (m:List Zt×List Zt):gD m=m.2.map (eO m):=by
 unfold gD
 rw [show(toNat ((m.2.length:Int) - 0)+1)=m.2.length+1 by omega]
 rw [aZ (fun v i=>(v,i)) (fun v c=>.inl (v++[eO m c])) (fun v=>v) (L:=m.2) (fun _ _=>True) ?_ (fun _ _ _ _ _ _ _=>trivial) ?_ (by omega) trivial]
 · have key:∀(l:List Zt) (v:List (Zt×Zt×Zt)),iZ (σ:=List (Zt×Zt×Zt)) (R:=List (Zt×Zt×Zt)) (fun v c=>.inl (v++[eO m c])) l v=.inl (v++l.map (eO m)):=by
     intro l
     induction l with
     | nil=>intro v;simp [iZ]
     | cons c l ih=>intro v;simp only [iZ];rw [ih];simp
   rw [key];simp [aCk]
 · intro i c hc v _
   obtain⟨hlt,hce⟩:=List.getElem?_eq_some_iff.1 hc
   simp only [oX]
   rw [bT (by omega),cond_true,uM,eZ,hc]
   rfl
 · intro v _
   simp only [oX]
   rw [cJ (by omega),cond_false]
theorem aVf (m:List Zt×List Zt):(gD m).length=m.2.length:=by rw [aGk,List.length_map]
def aVg (a0:Zt)(a1:Zt):Int :=
 (W ((W ((W (a0.1*a1.1))+(W (a0.2.1*a1.2.1))))+(W (a0.2.2*a1.2.2))))
theorem bFv (a0:Zt)(a1:Zt):Con Tryz.prog 132 [(.a (k3 a0)),(.a (k3 a1))] [] (iv (aVg a0 a1)) []:=by
 refine aJ Tryz.func132 (by kernel_rfl) fun cx hcx=>?_
 have e:=Eq.refl (aVg a0 a1);conv at e=>rhs;simp only [aVg]
 rw [e]
 exact rt [] [] [] hcx (by kernel_rfl)
def aD2 (a0:Zt×Zt×Zt):Int :=
 (aVg a0.1 (aKj a0.2.1 a0.2.2))
theorem bFw (a0:Zt×Zt×Zt):Con Tryz.prog 103 [(.a (k9 a0))] [] (iv (aD2 a0)) []:=by
 refine aJ Tryz.func103 (by kernel_rfl) fun cx hcx=>?_
 have e:=Eq.refl (aD2 a0);conv at e=>rhs;simp only [aD2]
 rw [e]
 exact rt [.c [] (bA4 a0.2.1 a0.2.2),.c [] (bFv a0.1 (aKj a0.2.1 a0.2.2))] [] [] hcx (by kernel_rfl)
noncomputable def aRo:Code:=(aD [1,1,0,1] [] (aG Tryz.f73) []).1
noncomputable def aRp:List K:=(aD [1,1,0,1] [] (aG Tryz.f73) []).2
def aK8 (a0:Zm)(v1 v2:Int):LS:=⟨iH 19 [(3,(iv v1)),(7,(.s 2 0 (gD (a0.1,a0.2)).length 9)),(8,(iv (((gD (a0.1,a0.2)).length:Nat):Int))),(9,(iv v2))],[(.live false true (flat dL a0.1)),(.live false true (flat dW a0.2)),(.live true true (flat dM (gD (a0.1,a0.2))))]⟩
def zH (a0:Zm):Int×Int->(Int×Int)⊕(Int)
 | (v1,v2) =>
  (bif (decide ((v2:Int) < (((gD (a0.1,a0.2)).length:Nat):Int))) then
   (.inl ((W (v1+(aD2 ((gD (a0.1,a0.2)).getD (toNat v2) default)))),(v2+1)))
  else
   (.inr v1))
theorem bCn (a0:Zm)(l0_1:a0.1.length<=9223372036854775807)(l0_2:a0.2.length<=9223372036854775807)(hv:mF a0 a0.2.length)(hn:a0.2.length<=96) {cx:Cx} (hcx:cx.base=2):∀(n:Nat)(v1 v2:Int),0<=v2->toNat ((((gD (a0.1,a0.2)).length:Nat):Int) - v2) < n->Aw.Good Tryz.prog none 9 (bodyPost Tryz.prog Tryz.f73 (RR cx (iv (aB (zH a0) n (v1,v2))) [] [])) cx [] (.l aRo n::aRp) (aK8 a0 v1 v2):=by
 intro n
 induction n with
 | zero=>intro v1 v2 hi hn;exact absurd hn (gP _)
 | succ n ih =>
   intro v1 v2 hi hn
   refine aH ?_
   have hpl:(gD (a0.1,a0.2)).length=a0.2.length:=aVf a0
   cases h0:(decide ((v2:Int) < (((gD (a0.1,a0.2)).length:Nat):Int))) with
   | true =>
    have q0:=bO h0
    have e:=Eq.refl (zH a0 (v1,v2));conv at e=>rhs;simp only [zH,h0,aI]
    rw [aA e]
    refine ba [.d h0,.i v2 ((gD (a0.1,a0.2)).length),.L cW (gD (a0.1,a0.2)) v2 0 9,.c [] (bFw ((gD (a0.1,a0.2)).getD (toNat v2) default))] [] [3,7,8,9] [2] hcx (m:=n) aRo (aRp) (aK8 a0 (W (v1+(aD2 ((gD (a0.1,a0.2)).getD (toNat v2) default)))) (W (v2+1))) (by kernel_rfl) ?_
    have z0:(W (v2+1))=(v2+1):=aE (by omega) (by omega)
    rw [z0]
    exact ih (W (v1+(aD2 ((gD (a0.1,a0.2)).getD (toNat v2) default)))) (v2+1) (by(try simp only [Ls]);omega) (by(try simp only [Ls]);omega)
   | false =>
    have q0:=cA h0
    have e:=Eq.refl (zH a0 (v1,v2));conv at e=>rhs;simp only [zH,h0,aI]
    rw [aC,e]
    exact rt [.d h0] [] [] hcx (by kernel_rfl)
def F73 (a0:Zm):Int :=
 (aB (zH a0) (toNat ((((gD (a0.1,a0.2)).length:Nat):Int) - 0)+1) (0,0))
theorem C73 (a0:Zm)(l0_1:a0.1.length<=9223372036854775807)(l0_2:a0.2.length<=9223372036854775807)(hv:mF a0 a0.2.length)(hn:a0.2.length<=96):Con Tryz.prog 73 [(.a [(.s 0 0 a0.1.length 3),(.s 1 0 a0.2.length 3)])] [(.live false true (flat dL a0.1)),(.live false true (flat dW a0.2))] (iv (F73 a0)) []:=by
 refine aJ Tryz.func73 (by kernel_rfl) fun cx hcx=>?_
 have e:=Eq.refl (F73 a0);conv at e=>rhs;simp only [F73]
 rw [e]
 refine en [.c [0,1] (bCm (a0.1,a0.2) (by(try simp only [Lt]);omega) (by(try simp only [Lt]);omega) hv hn)] [] [3,7,8,9] [3] hcx aRo (aRp) (aK8 a0 0 0) (toNat ((((gD (a0.1,a0.2)).length:Nat):Int) - 0)+1) (by kernel_rfl) ?_
 exact bCn a0 l0_1 l0_2 hv hn hcx (toNat ((((gD (a0.1,a0.2)).length:Nat):Int) - 0)+1) 0 0 (by(try simp only [Ls]);omega) (by(try simp only [Ls]);omega)
def c4 (x:Bool):List SV:=[(.v (.bool x))]
theorem eQ (x:Bool):(c4 x).length=1:=rfl
def F72 (a0:Int×Int):Int×Int :=
 (a0.2,a0.1)
theorem C72 (a0:Int×Int):Con Tryz.prog 72 [(.a [(iv a0.1),(iv a0.2)])] [] (.a (k2 (F72 a0))) []:=by
 refine aJ Tryz.func72 (by kernel_rfl) fun cx hcx=>?_
 have e:=Eq.refl (F72 a0);conv at e=>rhs;simp only [F72]
 rw [e]
 exact rt [.i 1 2 (by decide),.i 0 2 (by decide)] [] [] hcx (by kernel_rfl)
noncomputable def aRq:Code:=(aD [1,1,1,1,1,1,1,0,1] [] (aG Tryz.f35) []).1
noncomputable def aRr:List K:=(aD [1,1,1,1,1,1,1,0,1] [] (aG Tryz.f35) []).2
def aK9 (a0:Zm)(v8c:List SV)(v8n:Nat)(v9 v10:Int):LS:=⟨iH 98 [(1,(.p 2 0)),(86,(.s 3 0 v8n 1)),(87,(iv v9)),(88,(iv v10))],[(.live false true (flat dL a0.1)),(.live false true (flat dW a0.2)),(.live true false [(.s 0 0 a0.1.length 3),(.s 1 0 a0.2.length 3)]),(.live true true v8c)]⟩
def kJ (a0:Zm):List (Bool)×Int×Int->(List (Bool)×Int×Int)⊕(Int)
 | (v8,v9,v10) =>
  (bif (decide ((v10:Int) < v9)) then
   (bif (!(v8.getD (toNat v10) default)) then
    (.inr 5)
   else
    (.inl (v8,v9,(v10+1))))
  else
   (bif (decide (((F73 (a0.1,a0.2)):Int)<=0)) then
    (.inr 8)
   else
    (.inr 0)))
noncomputable def aRs:Code:=(aD [1,1,1,1,1,1,0,1] [] (aG Tryz.f35) []).1
noncomputable def aRt:List K:=(aD [1,1,1,1,1,1,0,1] [] (aG Tryz.f35) []).2
def aLa (a0:Zm)(v4c:List SV)(v4n:Nat)(v5:Int):LS:=⟨iH 98 [(1,(.p 2 0)),(4,(.s 3 0 v4n 1)),(10,(.m 4)),(62,(.s 1 0 a0.2.length 3)),(63,(iv (a0.2.length:Int))),(64,(iv v5))],[(.live false true (flat dL a0.1)),(.live false true (flat dW a0.2)),(.live true false [(.s 0 0 a0.1.length 3),(.s 1 0 a0.2.length 3)]),(.live true true v4c),(.map (Aw.mapE sT iv (zG (a0.1,a0.2))))]⟩
def gW (a0:Zm):List (Bool)×Int->(List (Bool)×Int)⊕(Int)
 | (v4,v5) =>
  (bif (decide ((v5:Int) < (a0.2.length:Int))) then
   (bif (((aV (zG (a0.1,a0.2)) ((bS (a0.2.getD (toNat v5) default)).1) 0):Int) != 1) then
    (.inr 7)
   else
    (bif (((aV (zG (a0.1,a0.2)) (F72 (bS (a0.2.getD (toNat v5) default)).1) 0):Int) != 1) then
     (.inr 7)
    else
     (bif (((aV (zG (a0.1,a0.2)) ((bS (a0.2.getD (toNat v5) default)).2.1) 0):Int) != 1) then
      (.inr 7)
     else
      (bif (((aV (zG (a0.1,a0.2)) (F72 (bS (a0.2.getD (toNat v5) default)).2.1) 0):Int) != 1) then
       (.inr 7)
      else
       (bif (((aV (zG (a0.1,a0.2)) ((bS (a0.2.getD (toNat v5) default)).2.2) 0):Int) != 1) then
        (.inr 7)
       else
        (bif (((aV (zG (a0.1,a0.2)) (F72 (bS (a0.2.getD (toNat v5) default)).2.2) 0):Int) != 1) then
         (.inr 7)
        else
         (.inl (v4,(v5+1)))))))))
  else
   (.inr (aB (kJ a0) (toNat ((v4.length:Int) - 0)+1) (v4,(v4.length:Int),0))))
noncomputable def aRu:Code:=(aD [1,1,1,1,0,1] [] (aG Tryz.f35) []).1
noncomputable def aRv:List K:=(aD [1,1,1,1,0,1] [] (aG Tryz.f35) []).2
def aLb (a0:Zm)(v1c:List SV)(v1n:Nat)(v2:Int):LS:=⟨iH 98 [(1,(.p 2 0)),(4,(.s 3 0 v1n 1)),(38,(.s 1 0 a0.2.length 3)),(39,(iv (a0.2.length:Int))),(40,(iv v2))],[(.live false true (flat dL a0.1)),(.live false true (flat dW a0.2)),(.live true false [(.s 0 0 a0.1.length 3),(.s 1 0 a0.2.length 3)]),(.live true true v1c)]⟩
def kK (a0:Zm):List (Bool)×Int->(List (Bool)×Int)⊕(Int)
 | (v1,v2) =>
  (bif (decide ((v2:Int) < (a0.2.length:Int))) then
   (bif (((F69 (a0.1,a0.2) (a0.2.getD (toNat v2) default)):Int) != 0) then
    (.inr (F69 (a0.1,a0.2) (a0.2.getD (toNat v2) default)))
   else
    (.inl ((((v1.set (toNat (a0.2.getD (toNat v2) default).1) true).set (toNat (a0.2.getD (toNat v2) default).2.1) true).set (toNat (a0.2.getD (toNat v2) default).2.2) true),(v2+1))))
  else
   (.inr (aB (gW a0) (toNat ((a0.2.length:Int) - 0)+1) (v1,0))))
theorem bCo (a0:Zm)(l0_1:a0.1.length<=9223372036854775807)(l0_2:a0.2.length<=9223372036854775807) {cx:Cx} (hcx:cx.base=2):∀(n:Nat)(v8:List (Bool))(v9 v10:Int),(0<=v10)/\(mF a0 a0.2.length)/\(a0.1.length<=64)/\(a0.2.length<=96)/\(v9=(v8.length:Int))/\(v8.length=a0.1.length)->toNat (v9 - v10) < n->Aw.Good Tryz.prog none 9 (bodyPost Tryz.prog Tryz.f35 (RR cx (iv (aB (kJ a0) n (v8,v9,v10))) [] [])) cx [] (.l aRq n::aRr) (aK9 a0 (flat c4 v8) v8.length v9 v10):=by
 intro n
 induction n with
 | zero=>intro v8 v9 v10 hi hn;exact absurd hn (gP _)
 | succ n ih =>
   intro v8 v9 v10 hi hn
   refine aH ?_
   cases h0:(decide ((v10:Int) < v9)) with
   | true =>
    have q0:=bO h0
    let t1:List (St Tryz.prog):=[.d h0,.i v10 (v8.length),.L eQ v8 v10 0 1]
    cases h1:(!(v8.getD (toNat v10) default)) with
    | true =>
     have e:=Eq.refl (kJ a0 (v8,v9,v10));conv at e=>rhs;simp only [kJ,h0,h1,aI]
     rw [aC,e]
     exact rt (t1++[.d h1]) [] [] hcx (by kernel_rfl)
    | false =>
     have e:=Eq.refl (kJ a0 (v8,v9,v10));conv at e=>rhs;simp only [kJ,h0,h1,aI]
     rw [aA e]
     refine ba (t1++[.d h1]) [] [1,86,87,88] [2,3] hcx (m:=n) aRq (aRr) (aK9 a0 (flat c4 v8) (v8.length) v9 (W (v10+1))) (by kernel_rfl) ?_
     have z0:(W (v10+1))=(v10+1):=aE (by omega) (by omega)
     rw [z0]
     exact ih v8 v9 (v10+1) (by refine⟨?_,?_,?_,?_,?_,?_⟩<;>first | omega | assumption | exact kV | exact hi.2.1 | exact hi.2.2.1 | exact hH hi.2.2.1 (by omega) | exact dN hi.2.2.1 hfo | exact dN hi.2.2.1 (by refine⟨⟨?_,?_⟩,⟨?_,?_⟩,?_,?_⟩<;>omega) | (simp only [List.length_replicate,List.length_set];omega)) (by(try simp only [Ls]);omega)
   | false =>
    have q0:=cA h0
    let t1:List (St Tryz.prog):=[.d h0,.c [0,1] (C73 (a0.1,a0.2) (by(try simp only [Lt]);omega) (by(try simp only [Lt]);omega) hi.2.1 (by show a0.2.length<=96;omega))]
    cases h1:(decide (((F73 (a0.1,a0.2)):Int)<=0)) with
    | true =>
     have q1:=bO h1
     have e:=Eq.refl (kJ a0 (v8,v9,v10));conv at e=>rhs;simp only [kJ,h0,h1,aI]
     rw [aC,e]
     exact rt (t1++[.d h1]) [] [] hcx (by kernel_rfl)
    | false =>
     have q1:=cA h1
     have e:=Eq.refl (kJ a0 (v8,v9,v10));conv at e=>rhs;simp only [kJ,h0,h1,aI]
     rw [aC,e]
     exact rt (t1++[.d h1]) [] [] hcx (by kernel_rfl)
theorem bCp (a0:Zm)(l0_1:a0.1.length<=9223372036854775807)(l0_2:a0.2.length<=9223372036854775807) {cx:Cx} (hcx:cx.base=2):∀(n:Nat)(v4:List (Bool))(v5:Int),(0<=v5)/\(mF a0 a0.2.length)/\(a0.1.length<=64)/\(a0.2.length<=96)/\(v4.length=a0.1.length)->toNat ((a0.2.length:Int) - v5) < n->Aw.Good Tryz.prog none 9 (bodyPost Tryz.prog Tryz.f35 (RR cx (iv (aB (gW a0) n (v4,v5))) [] [])) cx [] (.l aRs n::aRt) (aLa a0 (flat c4 v4) v4.length v5):=by
 intro n
 induction n with
 | zero=>intro v4 v5 hi hn;exact absurd hn (gP _)
 | succ n ih =>
   intro v4 v5 hi hn
   refine aH ?_
   cases h0:(decide ((v5:Int) < (a0.2.length:Int))) with
   | true =>
    have q0:=bO h0
    let t1:List (St Tryz.prog):=[.d h0,.i v5 (a0.2.length),.L aW a0.2 v5 0 3,.c [] (C71 (a0.2.getD (toNat v5) default)),.u 200,.T,.i 0 3 (by decide),.mG tS iv (zG (a0.1,a0.2)) ((bS (a0.2.getD (toNat v5) default)).1) 0]
    cases h1:(((aV (zG (a0.1,a0.2)) ((bS (a0.2.getD (toNat v5) default)).1) 0):Int) != 1) with
    | true =>
     have q1:=bne_iff_ne.1 h1
     have e:=Eq.refl (gW a0 (v4,v5));conv at e=>rhs;simp only [gW,h0,h1,aI]
     rw [aC,e]
     exact rt (t1++[.d h1]) [] [] hcx (by kernel_rfl)
    | false =>
     have q1:=bne_eq_false_iff_eq.1 h1
     let t2:List (St Tryz.prog):=(t1++[.d h1,.c [] (C72 (bS (a0.2.getD (toNat v5) default)).1),.mG tS iv (zG (a0.1,a0.2)) (F72 (bS (a0.2.getD (toNat v5) default)).1) 0])
     cases h2:(((aV (zG (a0.1,a0.2)) (F72 (bS (a0.2.getD (toNat v5) default)).1) 0):Int) != 1) with
     | true =>
      have q2:=bne_iff_ne.1 h2
      have e:=Eq.refl (gW a0 (v4,v5));conv at e=>rhs;simp only [gW,h0,h1,h2,aI]
      rw [aC,e]
      exact rt (t2++[.d h2]) [] [] hcx (by kernel_rfl)
     | false =>
      have q2:=bne_eq_false_iff_eq.1 h2
      let t3:List (St Tryz.prog):=(t2++[.d h2,.u 0,.T,.i 1 3 (by decide),.mG tS iv (zG (a0.1,a0.2)) ((bS (a0.2.getD (toNat v5) default)).2.1) 0])
      cases h3:(((aV (zG (a0.1,a0.2)) ((bS (a0.2.getD (toNat v5) default)).2.1) 0):Int) != 1) with
      | true =>
       have q3:=bne_iff_ne.1 h3
       have e:=Eq.refl (gW a0 (v4,v5));conv at e=>rhs;simp only [gW,h0,h1,h2,h3,aI]
       rw [aC,e]
       exact rt (t3++[.d h3]) [] [] hcx (by kernel_rfl)
      | false =>
       have q3:=bne_eq_false_iff_eq.1 h3
       let t4:List (St Tryz.prog):=(t3++[.d h3,.c [] (C72 (bS (a0.2.getD (toNat v5) default)).2.1),.mG tS iv (zG (a0.1,a0.2)) (F72 (bS (a0.2.getD (toNat v5) default)).2.1) 0])
       cases h4:(((aV (zG (a0.1,a0.2)) (F72 (bS (a0.2.getD (toNat v5) default)).2.1) 0):Int) != 1) with
       | true =>
        have q4:=bne_iff_ne.1 h4
        have e:=Eq.refl (gW a0 (v4,v5));conv at e=>rhs;simp only [gW,h0,h1,h2,h3,h4,aI]
        rw [aC,e]
        exact rt (t4++[.d h4]) [] [] hcx (by kernel_rfl)
       | false =>
        have q4:=bne_eq_false_iff_eq.1 h4
        let t5:List (St Tryz.prog):=(t4++[.d h4,.u 0,.T,.i 2 3 (by decide),.mG tS iv (zG (a0.1,a0.2)) ((bS (a0.2.getD (toNat v5) default)).2.2) 0])
        cases h5:(((aV (zG (a0.1,a0.2)) ((bS (a0.2.getD (toNat v5) default)).2.2) 0):Int) != 1) with
        | true =>
         have q5:=bne_iff_ne.1 h5
         have e:=Eq.refl (gW a0 (v4,v5));conv at e=>rhs;simp only [gW,h0,h1,h2,h3,h4,h5,aI]
         rw [aC,e]
         exact rt (t5++[.d h5]) [] [] hcx (by kernel_rfl)
        | false =>
         have q5:=bne_eq_false_iff_eq.1 h5
         let t6:List (St Tryz.prog):=(t5++[.d h5,.c [] (C72 (bS (a0.2.getD (toNat v5) default)).2.2),.mG tS iv (zG (a0.1,a0.2)) (F72 (bS (a0.2.getD (toNat v5) default)).2.2) 0])
         cases h6:(((aV (zG (a0.1,a0.2)) (F72 (bS (a0.2.getD (toNat v5) default)).2.2) 0):Int) != 1) with
         | true =>
          have q6:=bne_iff_ne.1 h6
          have e:=Eq.refl (gW a0 (v4,v5));conv at e=>rhs;simp only [gW,h0,h1,h2,h3,h4,h5,h6,aI]
          rw [aC,e]
          exact rt (t6++[.d h6]) [] [] hcx (by kernel_rfl)
         | false =>
          have q6:=bne_eq_false_iff_eq.1 h6
          have e:=Eq.refl (gW a0 (v4,v5));conv at e=>rhs;simp only [gW,h0,h1,h2,h3,h4,h5,h6,aI]
          rw [aA e]
          refine ba (t6++[.d h6,.u 0,.F]) [] [1,4,10,62,63,64] [2,3,4] hcx (m:=n) aRs (aRt) (aLa a0 (flat c4 v4) (v4.length) (W (v5+1))) (by kernel_rfl) ?_
          have z0:(W (v5+1))=(v5+1):=aE (by omega) (by omega)
          rw [z0]
          exact ih v4 (v5+1) (by refine⟨?_,?_,?_,?_,?_⟩<;>first | omega | assumption | exact kV | exact hi.2.1 | exact hi.2.2.1 | exact hH hi.2.2.1 (by omega) | exact dN hi.2.2.1 hfo | exact dN hi.2.2.1 (by refine⟨⟨?_,?_⟩,⟨?_,?_⟩,?_,?_⟩<;>omega) | (simp only [List.length_replicate,List.length_set];omega)) (by(try simp only [Ls]);omega)
   | false =>
    have q0:=cA h0
    have e:=Eq.refl (gW a0 (v4,v5));conv at e=>rhs;simp only [gW,h0,aI]
    rw [aC,e]
    refine en [.d h0] [] [1,86,87,88] [2,3] hcx aRq (aRr) (aK9 a0 (flat c4 v4) (v4.length) (v4.length:Int) 0) (toNat ((v4.length:Int) - 0)+1) (by kernel_rfl) ?_
    exact bCo a0 l0_1 l0_2 hcx (toNat ((v4.length:Int) - 0)+1) v4 (v4.length:Int) 0 (by refine⟨?_,?_,?_,?_,?_,?_⟩<;>first | omega | assumption | exact kV | exact hi.2.1 | exact hi.2.2.1 | exact hH hi.2.2.1 (by omega) | exact dN hi.2.2.1 hfo | exact dN hi.2.2.1 (by refine⟨⟨?_,?_⟩,⟨?_,?_⟩,?_,?_⟩<;>omega) | (simp only [List.length_replicate,List.length_set];omega)) (by(try simp only [Ls]);omega)
theorem bCq (a0:Zm)(l0_1:a0.1.length<=9223372036854775807)(l0_2:a0.2.length<=9223372036854775807) {cx:Cx} (hcx:cx.base=2):∀(n:Nat)(v1:List (Bool))(v2:Int),(0<=v2)/\(v1.length=a0.1.length)/\(mF a0 v2)/\(v2<=a0.2.length)/\(a0.1.length<=64)/\(a0.2.length<=96)->toNat ((a0.2.length:Int) - v2) < n->Aw.Good Tryz.prog none 9 (bodyPost Tryz.prog Tryz.f35 (RR cx (iv (aB (kK a0) n (v1,v2))) [] [])) cx [] (.l aRu n::aRv) (aLb a0 (flat c4 v1) v1.length v2):=by
 intro n
 induction n with
 | zero=>intro v1 v2 hi hn;exact absurd hn (gP _)
 | succ n ih =>
   intro v1 v2 hi hn
   refine aH ?_
   try have hfo:inF a0.1.length (a0.2.getD (toNat v2) default):=mW (m:=a0) h1 (by omega)
   try have hfo2:=hfo
   try obtain⟨⟨hf1,hf2⟩,⟨hf3,hf4⟩,hf5,hf6⟩:=hfo2
   cases h0:(decide ((v2:Int) < (a0.2.length:Int))) with
   | true =>
    have q0:=bO h0
    try have hfo:inF a0.1.length (a0.2.getD (toNat v2) default):=mW (m:=a0) h1 (by omega)
    let t1:List (St Tryz.prog):=[.d h0,.i v2 (a0.2.length),.L aW a0.2 v2 0 3,.c [0,1] (C69 (a0.1,a0.2) (a0.2.getD (toNat v2) default) (by(try simp only [Lt]);omega) (by(try simp only [Lt]);omega) (by(try simp only [Lt]);omega))]
    cases h1:(((F69 (a0.1,a0.2) (a0.2.getD (toNat v2) default)):Int) != 0) with
    | true =>
     have q1:=bne_iff_ne.1 h1
     try have hfo:inF a0.1.length (a0.2.getD (toNat v2) default):=mW (m:=a0) h1 (by omega)
     have e:=Eq.refl (kK a0 (v1,v2));conv at e=>rhs;simp only [kK,h0,h1,aI]
     rw [aC,e]
     exact rt (t1++[.d h1]) [] [] hcx (by kernel_rfl)
    | false =>
     have q1:=bne_eq_false_iff_eq.1 h1
     try have hfo:inF a0.1.length (a0.2.getD (toNat v2) default):=mW (m:=a0) h1 (by omega)
     have e:=Eq.refl (kK a0 (v1,v2));conv at e=>rhs;simp only [kK,h0,h1,aI]
     rw [aA e]
     refine ba (t1++[.d h1,.u 200,.T,.i 0 3 (by decide),.i ((a0.2.getD (toNat v2) default).1) (v1.length),.p (show((0+toNat (a0.2.getD (toNat v2) default).1*1)+1<=(flat c4 v1).length) from(jT eQ (by first | omega | (simp only [Lt];omega)) (o:=0) (Nb rfl))),.u 0,.T,.i 1 3 (by decide),.i ((a0.2.getD (toNat v2) default).2.1) (v1.length),.p (show((0+toNat (a0.2.getD (toNat v2) default).2.1*1)+1<=(splice (flat c4 v1) (0+toNat (a0.2.getD (toNat v2) default).1*1) [(.v (.bool true))]).length) from(by rw [show(splice (flat c4 v1) (0+toNat (a0.2.getD (toNat v2) default).1*1) [(.v (.bool true))])=flat c4 (v1.set (toNat (a0.2.getD (toNat v2) default).1) true) from(eN eQ (by first | omega | (simp only [Lt];omega)) (o:=0) (d:=default) (Nb rfl) rfl)];exact jT eQ (by first | omega | (simp only [Lt];omega)) (o:=0) (Nb rfl))),.u 0,.T,.i 2 3 (by decide),.i ((a0.2.getD (toNat v2) default).2.2) (v1.length),.p (show((0+toNat (a0.2.getD (toNat v2) default).2.2*1)+1<=(splice (splice (flat c4 v1) (0+toNat (a0.2.getD (toNat v2) default).1*1) [(.v (.bool true))]) (0+toNat (a0.2.getD (toNat v2) default).2.1*1) [(.v (.bool true))]).length) from(by rw [show(splice (splice (flat c4 v1) (0+toNat (a0.2.getD (toNat v2) default).1*1) [(.v (.bool true))]) (0+toNat (a0.2.getD (toNat v2) default).2.1*1) [(.v (.bool true))])=flat c4 ((v1.set (toNat (a0.2.getD (toNat v2) default).1) true).set (toNat (a0.2.getD (toNat v2) default).2.1) true) from(by rw [show(splice (flat c4 v1) (0+toNat (a0.2.getD (toNat v2) default).1*1) [(.v (.bool true))])=flat c4 (v1.set (toNat (a0.2.getD (toNat v2) default).1) true) from(eN eQ (by first | omega | (simp only [Lt];omega)) (o:=0) (d:=default) (Nb rfl) rfl)];exact eN eQ (by first | omega | (simp only [Lt];omega)) (o:=0) (d:=default) (Nb rfl) rfl)];exact jT eQ (by first | omega | (simp only [Lt];omega)) (o:=0) (Nb rfl))),.u 0,.F]) [] [1,4,38,39,40] [2,3] hcx (m:=n) aRu (aRv) (aLb a0 (splice (splice (splice (flat c4 v1) (0+toNat (a0.2.getD (toNat v2) default).1*1) [(.v (.bool true))]) (0+toNat (a0.2.getD (toNat v2) default).2.1*1) [(.v (.bool true))]) (0+toNat (a0.2.getD (toNat v2) default).2.2*1) [(.v (.bool true))]) (v1.length) (W (v2+1))) (by kernel_rfl) ?_
     have z0:(W (v2+1))=(v2+1):=aE (by omega) (by omega)
     have z1:(splice (splice (splice (flat c4 v1) (0+toNat (a0.2.getD (toNat v2) default).1*1) [(.v (.bool true))]) (0+toNat (a0.2.getD (toNat v2) default).2.1*1) [(.v (.bool true))]) (0+toNat (a0.2.getD (toNat v2) default).2.2*1) [(.v (.bool true))])=flat c4 (((v1.set (toNat (a0.2.getD (toNat v2) default).1) true).set (toNat (a0.2.getD (toNat v2) default).2.1) true).set (toNat (a0.2.getD (toNat v2) default).2.2) true):=(by rw [show(splice (splice (flat c4 v1) (0+toNat (a0.2.getD (toNat v2) default).1*1) [(.v (.bool true))]) (0+toNat (a0.2.getD (toNat v2) default).2.1*1) [(.v (.bool true))])=flat c4 ((v1.set (toNat (a0.2.getD (toNat v2) default).1) true).set (toNat (a0.2.getD (toNat v2) default).2.1) true) from(by rw [show(splice (flat c4 v1) (0+toNat (a0.2.getD (toNat v2) default).1*1) [(.v (.bool true))])=flat c4 (v1.set (toNat (a0.2.getD (toNat v2) default).1) true) from(eN eQ (by first | omega | (simp only [Lt];omega)) (o:=0) (d:=default) (Nb rfl) rfl)];exact eN eQ (by first | omega | (simp only [Lt];omega)) (o:=0) (d:=default) (Nb rfl) rfl)];exact eN eQ (by first | omega | (simp only [Lt];omega)) (o:=0) (d:=default) (Nb rfl) rfl)
     have z2:v1.length=(((v1.set (toNat (a0.2.getD (toNat v2) default).1) true).set (toNat (a0.2.getD (toNat v2) default).2.1) true).set (toNat (a0.2.getD (toNat v2) default).2.2) true).length:=by simp
     rw [z0,z1,z2]
     exact ih (((v1.set (toNat (a0.2.getD (toNat v2) default).1) true).set (toNat (a0.2.getD (toNat v2) default).2.1) true).set (toNat (a0.2.getD (toNat v2) default).2.2) true) (v2+1) (by refine⟨?_,?_,?_,?_,?_,?_⟩<;>first | omega | assumption | exact kV | exact hi.2.1 | exact hi.2.2.1 | exact hH hi.2.2.1 (by omega) | exact dN hi.2.2.1 hfo | exact dN hi.2.2.1 (by refine⟨⟨?_,?_⟩,⟨?_,?_⟩,?_,?_⟩<;>omega) | (simp only [List.length_replicate,List.length_set];omega)) (by(try simp only [Ls]);omega)
   | false =>
    have q0:=cA h0
    try have hfo:inF a0.1.length (a0.2.getD (toNat v2) default):=mW (m:=a0) h1 (by omega)
    have e:=Eq.refl (kK a0 (v1,v2));conv at e=>rhs;simp only [kK,h0,aI]
    rw [aC,e]
    refine en [.d h0,.c [0,1] (C70 (a0.1,a0.2) (by(try simp only [Lt]);omega) (by(try simp only [Lt]);omega))] [] [1,4,10,62,63,64] [2,3,4] hcx aRs (aRt) (aLa a0 (flat c4 v1) (v1.length) 0) (toNat ((a0.2.length:Int) - 0)+1) (by kernel_rfl) ?_
    exact bCp a0 l0_1 l0_2 hcx (toNat ((a0.2.length:Int) - 0)+1) v1 0 (by refine⟨?_,?_,?_,?_,?_⟩<;>first | omega | assumption | exact kV | exact hi.2.1 | exact hi.2.2.1 | exact hH hi.2.2.1 (by omega) | exact dN hi.2.2.1 hfo | exact dN hi.2.2.1 (by refine⟨⟨?_,?_⟩,⟨?_,?_⟩,?_,?_⟩<;>omega) | (simp only [List.length_replicate,List.length_set];omega)) (by(try simp only [Ls]);omega)
def fB (a0:Zm):Int :=
 (bif (decide (((a0.1.length:Int):Int) > 64)) then
  4
 else
  (bif (!(qI (a0.2.length:Int) 1 96)) then
   4
  else
   (bif (((F68 (a0.1,a0.2)):Int) != 0) then
    (F68 (a0.1,a0.2))
   else
    (aB (kK a0) (toNat ((a0.2.length:Int) - 0)+1) ((List.replicate (toNat (a0.1.length:Int)) false),0)))))
theorem C35 (a0:Zm)(l0_1:a0.1.length<=9223372036854775807)(l0_2:a0.2.length<=9223372036854775807):Con Tryz.prog 35 [(.a [(.s 0 0 a0.1.length 3),(.s 1 0 a0.2.length 3)])] [(.live false true (flat dL a0.1)),(.live false true (flat dW a0.2))] (iv (fB a0)) []:=by
 refine aJ Tryz.func35 (by kernel_rfl) fun cx hcx=>?_
 try have hl96:=iL h1
 cases h0:(decide (((a0.1.length:Int):Int) > 64)) with
 | true =>
  have q0:=bO h0
  try have hl96:=iL h1
  have e:=Eq.refl (fB a0);conv at e=>rhs;simp only [fB,h0,aI]
  rw [e]
  exact rt [.d h0] [] [] hcx (by kernel_rfl)
 | false =>
  have q0:=cA h0
  try have hl96:=iL h1
  let t1:List (St Tryz.prog):=[.d h0,.c [] (C43 (a0.2.length:Int) 1 96)]
  cases h1:(!(qI (a0.2.length:Int) 1 96)) with
  | true =>
   try have hl96:=iL h1
   have e:=Eq.refl (fB a0);conv at e=>rhs;simp only [fB,h0,h1,aI]
   rw [e]
   exact rt (t1++[.d h1]) [] [] hcx (by kernel_rfl)
  | false =>
   try have hl96:=iL h1
   let t2:List (St Tryz.prog):=(t1++[.d h1,.c [0,1] (C68 (a0.1,a0.2) (by(try simp only [Lt]);omega) (by(try simp only [Lt]);omega))])
   cases h2:(((F68 (a0.1,a0.2)):Int) != 0) with
   | true =>
    have q2:=bne_iff_ne.1 h2
    try have hl96:=iL h1
    have e:=Eq.refl (fB a0);conv at e=>rhs;simp only [fB,h0,h1,h2,aI]
    rw [e]
    exact rt (t2++[.d h2]) [] [] hcx (by kernel_rfl)
   | false =>
    have q2:=bne_eq_false_iff_eq.1 h2
    try have hl96:=iL h1
    have e:=Eq.refl (fB a0);conv at e=>rhs;simp only [fB,h0,h1,h2,aI]
    rw [e]
    refine en (t2++[.d h2,.Z c4 false [(.v (.bool false))] (a0.1.length:Int) 1]) [] [1,4,38,39,40] [2,3] hcx aRu (aRv) (aLb a0 (flat c4 (List.replicate (toNat (a0.1.length:Int)) false)) (toNat (a0.1.length:Int)) 0) (toNat ((a0.2.length:Int) - 0)+1) (by kernel_rfl) ?_
    have q:=bCq a0 l0_1 l0_2 hcx (toNat ((a0.2.length:Int) - 0)+1) (List.replicate (toNat (a0.1.length:Int)) false) 0 (by refine⟨?_,?_,?_,?_,?_,?_⟩<;>first | omega | assumption | exact kV | exact hi.2.1 | exact hi.2.2.1 | exact hH hi.2.2.1 (by omega) | exact dN hi.2.2.1 hfo | exact dN hi.2.2.1 (by refine⟨⟨?_,?_⟩,⟨?_,?_⟩,?_,?_⟩<;>omega) | (simp only [List.length_replicate,List.length_set];omega)) (by(try simp only [Ls]);omega)
    simp only [List.length_replicate] at q
    exact q
def xO (a0:Zm)(a1:Int):Zt×Zt×Zt :=
 ((a0.1.getD (toNat (a0.2.getD (toNat a1) default).1) default),(a0.1.getD (toNat (a0.2.getD (toNat a1) default).2.1) default),(a0.1.getD (toNat (a0.2.getD (toNat a1) default).2.2) default))
theorem C81 (a0:Zm)(a1:Int)(l0_1:a0.1.length<=9223372036854775807)(l0_2:a0.2.length<=9223372036854775807)(hi:0<=a1/\a1 < (a0.2.length:Int))(hf:inF a0.1.length (a0.2.getD (toNat a1) default)):Con Tryz.prog 81 [(.a [(.s 0 0 a0.1.length 3),(.s 1 0 a0.2.length 3)]),(iv a1)] [(.live false true (flat dL a0.1)),(.live false true (flat dW a0.2))] (.a (k9 (xO a0 a1))) []:=by
 refine aJ Tryz.func81 (by kernel_rfl) fun cx hcx=>?_
 have e:=Eq.refl (xO a0 a1);conv at e=>rhs;simp only [xO]
 rw [e]
 exact rt [.i a1 (a0.2.length),.L aW a0.2 a1 0 3,.i 0 3 (by decide),.i ((a0.2.getD (toNat a1) default).1) (a0.1.length),.L bM a0.1 (a0.2.getD (toNat a1) default).1 0 3,.i 1 3 (by decide),.i ((a0.2.getD (toNat a1) default).2.1) (a0.1.length),.L bM a0.1 (a0.2.getD (toNat a1) default).2.1 0 3,.i 2 3 (by decide),.i ((a0.2.getD (toNat a1) default).2.2) (a0.1.length),.L bM a0.1 (a0.2.getD (toNat a1) default).2.2 0 3] [] [] hcx (by kernel_rfl)
noncomputable def dY:Code:=(aD [1,1,0,1] [] (aG Tryz.f82) []).1
noncomputable def dZ:List K:=(aD [1,1,0,1] [] (aG Tryz.f82) []).2
def cN (a0:Zm)(a1:Int)(a2:Int)(v1 v2:Int):LS:=⟨iH 46 [(1,(iv a1)),(2,(iv a2)),(3,(.p 2 0)),(7,(iv v1)),(8,(iv v2))],[(.live false true (flat dL a0.1)),(.live false true (flat dW a0.2)),(.live true false [(.s 0 0 a0.1.length 3),(.s 1 0 a0.2.length 3)])]⟩
def bB (a0:Zm)(a1:Int)(a2:Int):Int×Int->(Int×Int)⊕(Int)
 | (v1,v2) =>
  (bif (decide ((v2:Int) < (a0.2.length:Int))) then
   (bif (((a0.2.getD (toNat v2) default).1:Int) == a1) then
    (bif (((a0.2.getD (toNat v2) default).2.1:Int) == a2) then
     (bif (((a0.2.getD (toNat v2) default).2.1:Int) == a1) then
      (bif (((a0.2.getD (toNat v2) default).2.2:Int) == a2) then
       (bif (((a0.2.getD (toNat v2) default).2.2:Int) == a1) then
        (bif (((a0.2.getD (toNat v2) default).1:Int) == a2) then
         (.inl ((W ((W ((W (v1+1))+1))+1)),(v2+1)))
        else
         (.inl ((W ((W (v1+1))+1)),(v2+1))))
       else
        (.inl ((W ((W (v1+1))+1)),(v2+1))))
      else
       (bif (((a0.2.getD (toNat v2) default).2.2:Int) == a1) then
        (bif (((a0.2.getD (toNat v2) default).1:Int) == a2) then
         (.inl ((W ((W (v1+1))+1)),(v2+1)))
        else
         (.inl ((W (v1+1)),(v2+1))))
       else
        (.inl ((W (v1+1)),(v2+1)))))
     else
      (bif (((a0.2.getD (toNat v2) default).2.2:Int) == a1) then
       (bif (((a0.2.getD (toNat v2) default).1:Int) == a2) then
        (.inl ((W ((W (v1+1))+1)),(v2+1)))
       else
        (.inl ((W (v1+1)),(v2+1))))
      else
       (.inl ((W (v1+1)),(v2+1)))))
    else
     (bif (((a0.2.getD (toNat v2) default).2.1:Int) == a1) then
      (bif (((a0.2.getD (toNat v2) default).2.2:Int) == a2) then
       (bif (((a0.2.getD (toNat v2) default).2.2:Int) == a1) then
        (bif (((a0.2.getD (toNat v2) default).1:Int) == a2) then
         (.inl ((W ((W (v1+1))+1)),(v2+1)))
        else
         (.inl ((W (v1+1)),(v2+1))))
       else
        (.inl ((W (v1+1)),(v2+1))))
      else
       (bif (((a0.2.getD (toNat v2) default).2.2:Int) == a1) then
        (bif (((a0.2.getD (toNat v2) default).1:Int) == a2) then
         (.inl ((W (v1+1)),(v2+1)))
        else
         (.inl (v1,(v2+1))))
       else
        (.inl (v1,(v2+1)))))
     else
      (bif (((a0.2.getD (toNat v2) default).2.2:Int) == a1) then
       (bif (((a0.2.getD (toNat v2) default).1:Int) == a2) then
        (.inl ((W (v1+1)),(v2+1)))
       else
        (.inl (v1,(v2+1))))
      else
       (.inl (v1,(v2+1))))))
   else
    (bif (((a0.2.getD (toNat v2) default).2.1:Int) == a1) then
     (bif (((a0.2.getD (toNat v2) default).2.2:Int) == a2) then
      (bif (((a0.2.getD (toNat v2) default).2.2:Int) == a1) then
       (bif (((a0.2.getD (toNat v2) default).1:Int) == a2) then
        (.inl ((W ((W (v1+1))+1)),(v2+1)))
       else
        (.inl ((W (v1+1)),(v2+1))))
      else
       (.inl ((W (v1+1)),(v2+1))))
     else
      (bif (((a0.2.getD (toNat v2) default).2.2:Int) == a1) then
       (bif (((a0.2.getD (toNat v2) default).1:Int) == a2) then
        (.inl ((W (v1+1)),(v2+1)))
       else
        (.inl (v1,(v2+1))))
      else
       (.inl (v1,(v2+1)))))
    else
     (bif (((a0.2.getD (toNat v2) default).2.2:Int) == a1) then
      (bif (((a0.2.getD (toNat v2) default).1:Int) == a2) then
       (.inl ((W (v1+1)),(v2+1)))
      else
       (.inl (v1,(v2+1))))
     else
      (.inl (v1,(v2+1))))))
  else
   (.inr v1))
theorem bCr (a0:Zm)(a1:Int)(a2:Int)(l0_1:a0.1.length<=9223372036854775807)(l0_2:a0.2.length<=9223372036854775807) {cx:Cx} (hcx:cx.base=2):∀(n:Nat)(v1 v2:Int),0<=v2->toNat ((a0.2.length:Int) - v2) < n->Aw.Good Tryz.prog none 9 (bodyPost Tryz.prog Tryz.f82 (RR cx (iv (aB (bB a0 a1 a2) n (v1,v2))) [] [])) cx [] (.l dY n::dZ) (cN a0 a1 a2 v1 v2):=by
 intro n
 induction n with
 | zero=>intro v1 v2 hi hn;exact absurd hn (gP _)
 | succ n ih =>
   intro v1 v2 hi hn
   refine aH ?_
   cases h0:(decide ((v2:Int) < (a0.2.length:Int))) with
   | true =>
    have q0:=bO h0
    let t1:List (St Tryz.prog):=[.d h0,.u 200,.T,.i v2 (a0.2.length),.i 0 3 (by decide),.L aW a0.2 v2 0 1]
    cases h1:(((a0.2.getD (toNat v2) default).1:Int) == a1) with
    | true =>
     have q1:=eq_of_beq h1
     let t2:List (St Tryz.prog):=(t1++[.d h1,.p (show(3:Int)≠0 from by decide),.i v2 (a0.2.length),.i 1 3 (by decide),.L aW a0.2 v2 1 1])
     cases h2:(((a0.2.getD (toNat v2) default).2.1:Int) == a2) with
     | true =>
      have q2:=eq_of_beq h2
      let t3:List (St Tryz.prog):=(t2++[.d h2,.u 0,.T,.i v2 (a0.2.length),.i 1 3 (by decide),.L aW a0.2 v2 1 1])
      cases h3:(((a0.2.getD (toNat v2) default).2.1:Int) == a1) with
      | true =>
       have q3:=eq_of_beq h3
       let t4:List (St Tryz.prog):=(t3++[.d h3,.p (show(3:Int)≠0 from by decide),.i v2 (a0.2.length),.i 2 3 (by decide),.L aW a0.2 v2 2 1])
       cases h4:(((a0.2.getD (toNat v2) default).2.2:Int) == a2) with
       | true =>
        have q4:=eq_of_beq h4
        let t5:List (St Tryz.prog):=(t4++[.d h4,.u 0,.T,.i v2 (a0.2.length),.i 2 3 (by decide),.L aW a0.2 v2 2 1])
        cases h5:(((a0.2.getD (toNat v2) default).2.2:Int) == a1) with
        | true =>
         have q5:=eq_of_beq h5
         let t6:List (St Tryz.prog):=(t5++[.d h5,.p (show(3:Int)≠0 from by decide),.i v2 (a0.2.length),.i 0 3 (by decide),.L aW a0.2 v2 0 1])
         cases h6:(((a0.2.getD (toNat v2) default).1:Int) == a2) with
         | true =>
          have q6:=eq_of_beq h6
          have e:=Eq.refl (bB a0 a1 a2 (v1,v2));conv at e=>rhs;simp only [bB,h0,h1,h2,h3,h4,h5,h6,aI]
          rw [aA e]
          refine ba (t6++[.d h6,.u 0,.F]) [] [1,2,3,7,8] [2] hcx (m:=n) dY (dZ) (cN a0 a1 a2 (W ((W ((W (v1+1))+1))+1)) (W (v2+1))) (by kernel_rfl) ?_
          have z0:(W (v2+1))=(v2+1):=aE (by omega) (by omega)
          rw [z0]
          exact ih (W ((W ((W (v1+1))+1))+1)) (v2+1) (by(try simp only [Ls]);omega) (by(try simp only [Ls]);omega)
         | false =>
          have q6:=ne_of_beq_false h6
          have e:=Eq.refl (bB a0 a1 a2 (v1,v2));conv at e=>rhs;simp only [bB,h0,h1,h2,h3,h4,h5,h6,aI]
          rw [aA e]
          refine ba (t6++[.d h6,.u 0,.F]) [] [1,2,3,7,8] [2] hcx (m:=n) dY (dZ) (cN a0 a1 a2 (W ((W (v1+1))+1)) (W (v2+1))) (by kernel_rfl) ?_
          have z0:(W (v2+1))=(v2+1):=aE (by omega) (by omega)
          rw [z0]
          exact ih (W ((W (v1+1))+1)) (v2+1) (by(try simp only [Ls]);omega) (by(try simp only [Ls]);omega)
        | false =>
         have q5:=ne_of_beq_false h5
         have e:=Eq.refl (bB a0 a1 a2 (v1,v2));conv at e=>rhs;simp only [bB,h0,h1,h2,h3,h4,h5,aI]
         rw [aA e]
         refine ba (t5++[.d h5,.u 0,.F]) [] [1,2,3,7,8] [2] hcx (m:=n) dY (dZ) (cN a0 a1 a2 (W ((W (v1+1))+1)) (W (v2+1))) (by kernel_rfl) ?_
         have z0:(W (v2+1))=(v2+1):=aE (by omega) (by omega)
         rw [z0]
         exact ih (W ((W (v1+1))+1)) (v2+1) (by(try simp only [Ls]);omega) (by(try simp only [Ls]);omega)
       | false =>
        have q4:=ne_of_beq_false h4
        let t5:List (St Tryz.prog):=(t4++[.d h4,.u 0,.T,.i v2 (a0.2.length),.i 2 3 (by decide),.L aW a0.2 v2 2 1])
        cases h5:(((a0.2.getD (toNat v2) default).2.2:Int) == a1) with
        | true =>
         have q5:=eq_of_beq h5
         let t6:List (St Tryz.prog):=(t5++[.d h5,.p (show(3:Int)≠0 from by decide),.i v2 (a0.2.length),.i 0 3 (by decide),.L aW a0.2 v2 0 1])
         cases h6:(((a0.2.getD (toNat v2) default).1:Int) == a2) with
         | true =>
          have q6:=eq_of_beq h6
          have e:=Eq.refl (bB a0 a1 a2 (v1,v2));conv at e=>rhs;simp only [bB,h0,h1,h2,h3,h4,h5,h6,aI]
          rw [aA e]
          refine ba (t6++[.d h6,.u 0,.F]) [] [1,2,3,7,8] [2] hcx (m:=n) dY (dZ) (cN a0 a1 a2 (W ((W (v1+1))+1)) (W (v2+1))) (by kernel_rfl) ?_
          have z0:(W (v2+1))=(v2+1):=aE (by omega) (by omega)
          rw [z0]
          exact ih (W ((W (v1+1))+1)) (v2+1) (by(try simp only [Ls]);omega) (by(try simp only [Ls]);omega)
         | false =>
          have q6:=ne_of_beq_false h6
          have e:=Eq.refl (bB a0 a1 a2 (v1,v2));conv at e=>rhs;simp only [bB,h0,h1,h2,h3,h4,h5,h6,aI]
          rw [aA e]
          refine ba (t6++[.d h6,.u 0,.F]) [] [1,2,3,7,8] [2] hcx (m:=n) dY (dZ) (cN a0 a1 a2 (W (v1+1)) (W (v2+1))) (by kernel_rfl) ?_
          have z0:(W (v2+1))=(v2+1):=aE (by omega) (by omega)
          rw [z0]
          exact ih (W (v1+1)) (v2+1) (by(try simp only [Ls]);omega) (by(try simp only [Ls]);omega)
        | false =>
         have q5:=ne_of_beq_false h5
         have e:=Eq.refl (bB a0 a1 a2 (v1,v2));conv at e=>rhs;simp only [bB,h0,h1,h2,h3,h4,h5,aI]
         rw [aA e]
         refine ba (t5++[.d h5,.u 0,.F]) [] [1,2,3,7,8] [2] hcx (m:=n) dY (dZ) (cN a0 a1 a2 (W (v1+1)) (W (v2+1))) (by kernel_rfl) ?_
         have z0:(W (v2+1))=(v2+1):=aE (by omega) (by omega)
         rw [z0]
         exact ih (W (v1+1)) (v2+1) (by(try simp only [Ls]);omega) (by(try simp only [Ls]);omega)
      | false =>
       have q3:=ne_of_beq_false h3
       let t4:List (St Tryz.prog):=(t3++[.d h3,.u 0,.T,.i v2 (a0.2.length),.i 2 3 (by decide),.L aW a0.2 v2 2 1])
       cases h4:(((a0.2.getD (toNat v2) default).2.2:Int) == a1) with
       | true =>
        have q4:=eq_of_beq h4
        let t5:List (St Tryz.prog):=(t4++[.d h4,.p (show(3:Int)≠0 from by decide),.i v2 (a0.2.length),.i 0 3 (by decide),.L aW a0.2 v2 0 1])
        cases h5:(((a0.2.getD (toNat v2) default).1:Int) == a2) with
        | true =>
         have q5:=eq_of_beq h5
         have e:=Eq.refl (bB a0 a1 a2 (v1,v2));conv at e=>rhs;simp only [bB,h0,h1,h2,h3,h4,h5,aI]
         rw [aA e]
         refine ba (t5++[.d h5,.u 0,.F]) [] [1,2,3,7,8] [2] hcx (m:=n) dY (dZ) (cN a0 a1 a2 (W ((W (v1+1))+1)) (W (v2+1))) (by kernel_rfl) ?_
         have z0:(W (v2+1))=(v2+1):=aE (by omega) (by omega)
         rw [z0]
         exact ih (W ((W (v1+1))+1)) (v2+1) (by(try simp only [Ls]);omega) (by(try simp only [Ls]);omega)
        | false =>
         have q5:=ne_of_beq_false h5
         have e:=Eq.refl (bB a0 a1 a2 (v1,v2));conv at e=>rhs;simp only [bB,h0,h1,h2,h3,h4,h5,aI]
         rw [aA e]
         refine ba (t5++[.d h5,.u 0,.F]) [] [1,2,3,7,8] [2] hcx (m:=n) dY (dZ) (cN a0 a1 a2 (W (v1+1)) (W (v2+1))) (by kernel_rfl) ?_
         have z0:(W (v2+1))=(v2+1):=aE (by omega) (by omega)
         rw [z0]
         exact ih (W (v1+1)) (v2+1) (by(try simp only [Ls]);omega) (by(try simp only [Ls]);omega)
       | false =>
        have q4:=ne_of_beq_false h4
        have e:=Eq.refl (bB a0 a1 a2 (v1,v2));conv at e=>rhs;simp only [bB,h0,h1,h2,h3,h4,aI]
        rw [aA e]
        refine ba (t4++[.d h4,.u 0,.F]) [] [1,2,3,7,8] [2] hcx (m:=n) dY (dZ) (cN a0 a1 a2 (W (v1+1)) (W (v2+1))) (by kernel_rfl) ?_
        have z0:(W (v2+1))=(v2+1):=aE (by omega) (by omega)
        rw [z0]
        exact ih (W (v1+1)) (v2+1) (by(try simp only [Ls]);omega) (by(try simp only [Ls]);omega)
     | false =>
      have q2:=ne_of_beq_false h2
      let t3:List (St Tryz.prog):=(t2++[.d h2,.u 0,.T,.i v2 (a0.2.length),.i 1 3 (by decide),.L aW a0.2 v2 1 1])
      cases h3:(((a0.2.getD (toNat v2) default).2.1:Int) == a1) with
      | true =>
       have q3:=eq_of_beq h3
       let t4:List (St Tryz.prog):=(t3++[.d h3,.p (show(3:Int)≠0 from by decide),.i v2 (a0.2.length),.i 2 3 (by decide),.L aW a0.2 v2 2 1])
       cases h4:(((a0.2.getD (toNat v2) default).2.2:Int) == a2) with
       | true =>
        have q4:=eq_of_beq h4
        let t5:List (St Tryz.prog):=(t4++[.d h4,.u 0,.T,.i v2 (a0.2.length),.i 2 3 (by decide),.L aW a0.2 v2 2 1])
        cases h5:(((a0.2.getD (toNat v2) default).2.2:Int) == a1) with
        | true =>
         have q5:=eq_of_beq h5
         let t6:List (St Tryz.prog):=(t5++[.d h5,.p (show(3:Int)≠0 from by decide),.i v2 (a0.2.length),.i 0 3 (by decide),.L aW a0.2 v2 0 1])
         cases h6:(((a0.2.getD (toNat v2) default).1:Int) == a2) with
         | true =>
          have q6:=eq_of_beq h6
          have e:=Eq.refl (bB a0 a1 a2 (v1,v2));conv at e=>rhs;simp only [bB,h0,h1,h2,h3,h4,h5,h6,aI]
          rw [aA e]
          refine ba (t6++[.d h6,.u 0,.F]) [] [1,2,3,7,8] [2] hcx (m:=n) dY (dZ) (cN a0 a1 a2 (W ((W (v1+1))+1)) (W (v2+1))) (by kernel_rfl) ?_
          have z0:(W (v2+1))=(v2+1):=aE (by omega) (by omega)
          rw [z0]
          exact ih (W ((W (v1+1))+1)) (v2+1) (by(try simp only [Ls]);omega) (by(try simp only [Ls]);omega)
         | false =>
          have q6:=ne_of_beq_false h6
          have e:=Eq.refl (bB a0 a1 a2 (v1,v2));conv at e=>rhs;simp only [bB,h0,h1,h2,h3,h4,h5,h6,aI]
          rw [aA e]
          refine ba (t6++[.d h6,.u 0,.F]) [] [1,2,3,7,8] [2] hcx (m:=n) dY (dZ) (cN a0 a1 a2 (W (v1+1)) (W (v2+1))) (by kernel_rfl) ?_
          have z0:(W (v2+1))=(v2+1):=aE (by omega) (by omega)
          rw [z0]
          exact ih (W (v1+1)) (v2+1) (by(try simp only [Ls]);omega) (by(try simp only [Ls]);omega)
        | false =>
         have q5:=ne_of_beq_false h5
         have e:=Eq.refl (bB a0 a1 a2 (v1,v2));conv at e=>rhs;simp only [bB,h0,h1,h2,h3,h4,h5,aI]
         rw [aA e]
         refine ba (t5++[.d h5,.u 0,.F]) [] [1,2,3,7,8] [2] hcx (m:=n) dY (dZ) (cN a0 a1 a2 (W (v1+1)) (W (v2+1))) (by kernel_rfl) ?_
         have z0:(W (v2+1))=(v2+1):=aE (by omega) (by omega)
         rw [z0]
         exact ih (W (v1+1)) (v2+1) (by(try simp only [Ls]);omega) (by(try simp only [Ls]);omega)
       | false =>
        have q4:=ne_of_beq_false h4
        let t5:List (St Tryz.prog):=(t4++[.d h4,.u 0,.T,.i v2 (a0.2.length),.i 2 3 (by decide),.L aW a0.2 v2 2 1])
        cases h5:(((a0.2.getD (toNat v2) default).2.2:Int) == a1) with
        | true =>
         have q5:=eq_of_beq h5
         let t6:List (St Tryz.prog):=(t5++[.d h5,.p (show(3:Int)≠0 from by decide),.i v2 (a0.2.length),.i 0 3 (by decide),.L aW a0.2 v2 0 1])
         cases h6:(((a0.2.getD (toNat v2) default).1:Int) == a2) with
         | true =>
          have q6:=eq_of_beq h6
          have e:=Eq.refl (bB a0 a1 a2 (v1,v2));conv at e=>rhs;simp only [bB,h0,h1,h2,h3,h4,h5,h6,aI]
          rw [aA e]
          refine ba (t6++[.d h6,.u 0,.F]) [] [1,2,3,7,8] [2] hcx (m:=n) dY (dZ) (cN a0 a1 a2 (W (v1+1)) (W (v2+1))) (by kernel_rfl) ?_
          have z0:(W (v2+1))=(v2+1):=aE (by omega) (by omega)
          rw [z0]
          exact ih (W (v1+1)) (v2+1) (by(try simp only [Ls]);omega) (by(try simp only [Ls]);omega)
         | false =>
          have q6:=ne_of_beq_false h6
          have e:=Eq.refl (bB a0 a1 a2 (v1,v2));conv at e=>rhs;simp only [bB,h0,h1,h2,h3,h4,h5,h6,aI]
          rw [aA e]
          refine ba (t6++[.d h6,.u 0,.F]) [] [1,2,3,7,8] [2] hcx (m:=n) dY (dZ) (cN a0 a1 a2 v1 (W (v2+1))) (by kernel_rfl) ?_
          have z0:(W (v2+1))=(v2+1):=aE (by omega) (by omega)
          rw [z0]
          exact ih v1 (v2+1) (by(try simp only [Ls]);omega) (by(try simp only [Ls]);omega)
        | false =>
         have q5:=ne_of_beq_false h5
         have e:=Eq.refl (bB a0 a1 a2 (v1,v2));conv at e=>rhs;simp only [bB,h0,h1,h2,h3,h4,h5,aI]
         rw [aA e]
         refine ba (t5++[.d h5,.u 0,.F]) [] [1,2,3,7,8] [2] hcx (m:=n) dY (dZ) (cN a0 a1 a2 v1 (W (v2+1))) (by kernel_rfl) ?_
         have z0:(W (v2+1))=(v2+1):=aE (by omega) (by omega)
         rw [z0]
         exact ih v1 (v2+1) (by(try simp only [Ls]);omega) (by(try simp only [Ls]);omega)
      | false =>
       have q3:=ne_of_beq_false h3
       let t4:List (St Tryz.prog):=(t3++[.d h3,.u 0,.T,.i v2 (a0.2.length),.i 2 3 (by decide),.L aW a0.2 v2 2 1])
       cases h4:(((a0.2.getD (toNat v2) default).2.2:Int) == a1) with
       | true =>
        have q4:=eq_of_beq h4
        let t5:List (St Tryz.prog):=(t4++[.d h4,.p (show(3:Int)≠0 from by decide),.i v2 (a0.2.length),.i 0 3 (by decide),.L aW a0.2 v2 0 1])
        cases h5:(((a0.2.getD (toNat v2) default).1:Int) == a2) with
        | true =>
         have q5:=eq_of_beq h5
         have e:=Eq.refl (bB a0 a1 a2 (v1,v2));conv at e=>rhs;simp only [bB,h0,h1,h2,h3,h4,h5,aI]
         rw [aA e]
         refine ba (t5++[.d h5,.u 0,.F]) [] [1,2,3,7,8] [2] hcx (m:=n) dY (dZ) (cN a0 a1 a2 (W (v1+1)) (W (v2+1))) (by kernel_rfl) ?_
         have z0:(W (v2+1))=(v2+1):=aE (by omega) (by omega)
         rw [z0]
         exact ih (W (v1+1)) (v2+1) (by(try simp only [Ls]);omega) (by(try simp only [Ls]);omega)
        | false =>
         have q5:=ne_of_beq_false h5
         have e:=Eq.refl (bB a0 a1 a2 (v1,v2));conv at e=>rhs;simp only [bB,h0,h1,h2,h3,h4,h5,aI]
         rw [aA e]
         refine ba (t5++[.d h5,.u 0,.F]) [] [1,2,3,7,8] [2] hcx (m:=n) dY (dZ) (cN a0 a1 a2 v1 (W (v2+1))) (by kernel_rfl) ?_
         have z0:(W (v2+1))=(v2+1):=aE (by omega) (by omega)
         rw [z0]
         exact ih v1 (v2+1) (by(try simp only [Ls]);omega) (by(try simp only [Ls]);omega)
       | false =>
        have q4:=ne_of_beq_false h4
        have e:=Eq.refl (bB a0 a1 a2 (v1,v2));conv at e=>rhs;simp only [bB,h0,h1,h2,h3,h4,aI]
        rw [aA e]
        refine ba (t4++[.d h4,.u 0,.F]) [] [1,2,3,7,8] [2] hcx (m:=n) dY (dZ) (cN a0 a1 a2 v1 (W (v2+1))) (by kernel_rfl) ?_
        have z0:(W (v2+1))=(v2+1):=aE (by omega) (by omega)
        rw [z0]
        exact ih v1 (v2+1) (by(try simp only [Ls]);omega) (by(try simp only [Ls]);omega)
    | false =>
     have q1:=ne_of_beq_false h1
     let t2:List (St Tryz.prog):=(t1++[.d h1,.u 0,.T,.i v2 (a0.2.length),.i 1 3 (by decide),.L aW a0.2 v2 1 1])
     cases h2:(((a0.2.getD (toNat v2) default).2.1:Int) == a1) with
     | true =>
      have q2:=eq_of_beq h2
      let t3:List (St Tryz.prog):=(t2++[.d h2,.p (show(3:Int)≠0 from by decide),.i v2 (a0.2.length),.i 2 3 (by decide),.L aW a0.2 v2 2 1])
      cases h3:(((a0.2.getD (toNat v2) default).2.2:Int) == a2) with
      | true =>
       have q3:=eq_of_beq h3
       let t4:List (St Tryz.prog):=(t3++[.d h3,.u 0,.T,.i v2 (a0.2.length),.i 2 3 (by decide),.L aW a0.2 v2 2 1])
       cases h4:(((a0.2.getD (toNat v2) default).2.2:Int) == a1) with
       | true =>
        have q4:=eq_of_beq h4
        let t5:List (St Tryz.prog):=(t4++[.d h4,.p (show(3:Int)≠0 from by decide),.i v2 (a0.2.length),.i 0 3 (by decide),.L aW a0.2 v2 0 1])
        cases h5:(((a0.2.getD (toNat v2) default).1:Int) == a2) with
        | true =>
         have q5:=eq_of_beq h5
         have e:=Eq.refl (bB a0 a1 a2 (v1,v2));conv at e=>rhs;simp only [bB,h0,h1,h2,h3,h4,h5,aI]
         rw [aA e]
         refine ba (t5++[.d h5,.u 0,.F]) [] [1,2,3,7,8] [2] hcx (m:=n) dY (dZ) (cN a0 a1 a2 (W ((W (v1+1))+1)) (W (v2+1))) (by kernel_rfl) ?_
         have z0:(W (v2+1))=(v2+1):=aE (by omega) (by omega)
         rw [z0]
         exact ih (W ((W (v1+1))+1)) (v2+1) (by(try simp only [Ls]);omega) (by(try simp only [Ls]);omega)
        | false =>
         have q5:=ne_of_beq_false h5
         have e:=Eq.refl (bB a0 a1 a2 (v1,v2));conv at e=>rhs;simp only [bB,h0,h1,h2,h3,h4,h5,aI]
         rw [aA e]
         refine ba (t5++[.d h5,.u 0,.F]) [] [1,2,3,7,8] [2] hcx (m:=n) dY (dZ) (cN a0 a1 a2 (W (v1+1)) (W (v2+1))) (by kernel_rfl) ?_
         have z0:(W (v2+1))=(v2+1):=aE (by omega) (by omega)
         rw [z0]
         exact ih (W (v1+1)) (v2+1) (by(try simp only [Ls]);omega) (by(try simp only [Ls]);omega)
       | false =>
        have q4:=ne_of_beq_false h4
        have e:=Eq.refl (bB a0 a1 a2 (v1,v2));conv at e=>rhs;simp only [bB,h0,h1,h2,h3,h4,aI]
        rw [aA e]
        refine ba (t4++[.d h4,.u 0,.F]) [] [1,2,3,7,8] [2] hcx (m:=n) dY (dZ) (cN a0 a1 a2 (W (v1+1)) (W (v2+1))) (by kernel_rfl) ?_
        have z0:(W (v2+1))=(v2+1):=aE (by omega) (by omega)
        rw [z0]
        exact ih (W (v1+1)) (v2+1) (by(try simp only [Ls]);omega) (by(try simp only [Ls]);omega)
      | false =>
       have q3:=ne_of_beq_false h3
       let t4:List (St Tryz.prog):=(t3++[.d h3,.u 0,.T,.i v2 (a0.2.length),.i 2 3 (by decide),.L aW a0.2 v2 2 1])
       cases h4:(((a0.2.getD (toNat v2) default).2.2:Int) == a1) with
       | true =>
        have q4:=eq_of_beq h4
        let t5:List (St Tryz.prog):=(t4++[.d h4,.p (show(3:Int)≠0 from by decide),.i v2 (a0.2.length),.i 0 3 (by decide),.L aW a0.2 v2 0 1])
        cases h5:(((a0.2.getD (toNat v2) default).1:Int) == a2) with
        | true =>
         have q5:=eq_of_beq h5
         have e:=Eq.refl (bB a0 a1 a2 (v1,v2));conv at e=>rhs;simp only [bB,h0,h1,h2,h3,h4,h5,aI]
         rw [aA e]
         refine ba (t5++[.d h5,.u 0,.F]) [] [1,2,3,7,8] [2] hcx (m:=n) dY (dZ) (cN a0 a1 a2 (W (v1+1)) (W (v2+1))) (by kernel_rfl) ?_
         have z0:(W (v2+1))=(v2+1):=aE (by omega) (by omega)
         rw [z0]
         exact ih (W (v1+1)) (v2+1) (by(try simp only [Ls]);omega) (by(try simp only [Ls]);omega)
        | false =>
         have q5:=ne_of_beq_false h5
         have e:=Eq.refl (bB a0 a1 a2 (v1,v2));conv at e=>rhs;simp only [bB,h0,h1,h2,h3,h4,h5,aI]
         rw [aA e]
         refine ba (t5++[.d h5,.u 0,.F]) [] [1,2,3,7,8] [2] hcx (m:=n) dY (dZ) (cN a0 a1 a2 v1 (W (v2+1))) (by kernel_rfl) ?_
         have z0:(W (v2+1))=(v2+1):=aE (by omega) (by omega)
         rw [z0]
         exact ih v1 (v2+1) (by(try simp only [Ls]);omega) (by(try simp only [Ls]);omega)
       | false =>
        have q4:=ne_of_beq_false h4
        have e:=Eq.refl (bB a0 a1 a2 (v1,v2));conv at e=>rhs;simp only [bB,h0,h1,h2,h3,h4,aI]
        rw [aA e]
        refine ba (t4++[.d h4,.u 0,.F]) [] [1,2,3,7,8] [2] hcx (m:=n) dY (dZ) (cN a0 a1 a2 v1 (W (v2+1))) (by kernel_rfl) ?_
        have z0:(W (v2+1))=(v2+1):=aE (by omega) (by omega)
        rw [z0]
        exact ih v1 (v2+1) (by(try simp only [Ls]);omega) (by(try simp only [Ls]);omega)
     | false =>
      have q2:=ne_of_beq_false h2
      let t3:List (St Tryz.prog):=(t2++[.d h2,.u 0,.T,.i v2 (a0.2.length),.i 2 3 (by decide),.L aW a0.2 v2 2 1])
      cases h3:(((a0.2.getD (toNat v2) default).2.2:Int) == a1) with
      | true =>
       have q3:=eq_of_beq h3
       let t4:List (St Tryz.prog):=(t3++[.d h3,.p (show(3:Int)≠0 from by decide),.i v2 (a0.2.length),.i 0 3 (by decide),.L aW a0.2 v2 0 1])
       cases h4:(((a0.2.getD (toNat v2) default).1:Int) == a2) with
       | true =>
        have q4:=eq_of_beq h4
        have e:=Eq.refl (bB a0 a1 a2 (v1,v2));conv at e=>rhs;simp only [bB,h0,h1,h2,h3,h4,aI]
        rw [aA e]
        refine ba (t4++[.d h4,.u 0,.F]) [] [1,2,3,7,8] [2] hcx (m:=n) dY (dZ) (cN a0 a1 a2 (W (v1+1)) (W (v2+1))) (by kernel_rfl) ?_
        have z0:(W (v2+1))=(v2+1):=aE (by omega) (by omega)
        rw [z0]
        exact ih (W (v1+1)) (v2+1) (by(try simp only [Ls]);omega) (by(try simp only [Ls]);omega)
       | false =>
        have q4:=ne_of_beq_false h4
        have e:=Eq.refl (bB a0 a1 a2 (v1,v2));conv at e=>rhs;simp only [bB,h0,h1,h2,h3,h4,aI]
        rw [aA e]
        refine ba (t4++[.d h4,.u 0,.F]) [] [1,2,3,7,8] [2] hcx (m:=n) dY (dZ) (cN a0 a1 a2 v1 (W (v2+1))) (by kernel_rfl) ?_
        have z0:(W (v2+1))=(v2+1):=aE (by omega) (by omega)
        rw [z0]
        exact ih v1 (v2+1) (by(try simp only [Ls]);omega) (by(try simp only [Ls]);omega)
      | false =>
       have q3:=ne_of_beq_false h3
       have e:=Eq.refl (bB a0 a1 a2 (v1,v2));conv at e=>rhs;simp only [bB,h0,h1,h2,h3,aI]
       rw [aA e]
       refine ba (t3++[.d h3,.u 0,.F]) [] [1,2,3,7,8] [2] hcx (m:=n) dY (dZ) (cN a0 a1 a2 v1 (W (v2+1))) (by kernel_rfl) ?_
       have z0:(W (v2+1))=(v2+1):=aE (by omega) (by omega)
       rw [z0]
       exact ih v1 (v2+1) (by(try simp only [Ls]);omega) (by(try simp only [Ls]);omega)
   | false =>
    have q0:=cA h0
    have e:=Eq.refl (bB a0 a1 a2 (v1,v2));conv at e=>rhs;simp only [bB,h0,aI]
    rw [aC,e]
    exact rt [.d h0] [] [] hcx (by kernel_rfl)
def F82 (a0:Zm)(a1:Int)(a2:Int):Int :=
 (aB (bB a0 a1 a2) (toNat ((a0.2.length:Int) - 0)+1) (0,0))
theorem C82 (a0:Zm)(a1:Int)(a2:Int)(l0_1:a0.1.length<=9223372036854775807)(l0_2:a0.2.length<=9223372036854775807):Con Tryz.prog 82 [(.a [(.s 0 0 a0.1.length 3),(.s 1 0 a0.2.length 3)]),(iv a1),(iv a2)] [(.live false true (flat dL a0.1)),(.live false true (flat dW a0.2))] (iv (F82 a0 a1 a2)) []:=by
 refine aJ Tryz.func82 (by kernel_rfl) fun cx hcx=>?_
 have e:=Eq.refl (F82 a0 a1 a2);conv at e=>rhs;simp only [F82]
 rw [e]
 refine en [] [] [1,2,3,7,8] [2] hcx dY (dZ) (cN a0 a1 a2 0 0) (toNat ((a0.2.length:Int) - 0)+1) (by kernel_rfl) ?_
 exact bCr a0 a1 a2 l0_1 l0_2 hcx (toNat ((a0.2.length:Int) - 0)+1) 0 0 (by(try simp only [Ls]);omega) (by(try simp only [Ls]);omega)
noncomputable def aRw:Code:=(aD [1,1,0,1] [] (aG Tryz.f83) []).1
noncomputable def aRx:List K:=(aD [1,1,0,1] [] (aG Tryz.f83) []).2
def aLc (a0:Zm)(v1 v2:Int):LS:=⟨iH 27 [(1,(.p 2 0)),(3,(iv v1)),(4,(iv v2))],[(.live false true (flat dL a0.1)),(.live false true (flat dW a0.2)),(.live true false [(.s 0 0 a0.1.length 3),(.s 1 0 a0.2.length 3)])]⟩
def zI (a0:Zm):Int×Int->(Int×Int)⊕(Int)
 | (v1,v2) =>
  (bif (decide ((v2:Int) < (a0.2.length:Int))) then
   (.inl ((W (v1+(cE (xO (a0.1,a0.2) v2).1 (aFz (xO (a0.1,a0.2) v2).2.1 (xO (a0.1,a0.2) v2).2.2)))),(v2+1)))
  else
   (.inr v1))
theorem bCs (a0:Zm)(l0_1:a0.1.length<=9223372036854775807)(l0_2:a0.2.length<=9223372036854775807)(hv:mF a0 a0.2.length)(hn:a0.2.length<=96) {cx:Cx} (hcx:cx.base=2):∀(n:Nat)(v1 v2:Int),0<=v2->toNat ((a0.2.length:Int) - v2) < n->Aw.Good Tryz.prog none 9 (bodyPost Tryz.prog Tryz.f83 (RR cx (iv (aB (zI a0) n (v1,v2))) [] [])) cx [] (.l aRw n::aRx) (aLc a0 v1 v2):=by
 intro n
 induction n with
 | zero=>intro v1 v2 hi hn;exact absurd hn (gP _)
 | succ n ih =>
   intro v1 v2 hi hn
   refine aH ?_
   cases h0:(decide ((v2:Int) < (a0.2.length:Int))) with
   | true =>
    have q0:=bO h0
    have e:=Eq.refl (zI a0 (v1,v2));conv at e=>rhs;simp only [zI,h0,aI]
    rw [aA e]
    refine ba [.d h0,.c [0,1] (C81 (a0.1,a0.2) v2 (by(try simp only [Lt]);omega) (by(try simp only [Lt]);omega) (by show 0<=_/\_ < (a0.2.length:Int);omega) (aI2 hv (by omega) (by omega))),.c [] (bBe (xO (a0.1,a0.2) v2).2.1 (xO (a0.1,a0.2) v2).2.2),.c [] (aF0 (xO (a0.1,a0.2) v2).1 (aFz (xO (a0.1,a0.2) v2).2.1 (xO (a0.1,a0.2) v2).2.2))] [] [1,3,4] [2] hcx (m:=n) aRw (aRx) (aLc a0 (W (v1+(cE (xO (a0.1,a0.2) v2).1 (aFz (xO (a0.1,a0.2) v2).2.1 (xO (a0.1,a0.2) v2).2.2)))) (W (v2+1))) (by kernel_rfl) ?_
    have z0:(W (v2+1))=(v2+1):=aE (by omega) (by omega)
    rw [z0]
    exact ih (W (v1+(cE (xO (a0.1,a0.2) v2).1 (aFz (xO (a0.1,a0.2) v2).2.1 (xO (a0.1,a0.2) v2).2.2)))) (v2+1) (by(try simp only [Ls]);omega) (by(try simp only [Ls]);omega)
   | false =>
    have q0:=cA h0
    have e:=Eq.refl (zI a0 (v1,v2));conv at e=>rhs;simp only [zI,h0,aI]
    rw [aC,e]
    exact rt [.d h0] [] [] hcx (by kernel_rfl)
def F83 (a0:Zm):Int :=
 (aB (zI a0) (toNat ((a0.2.length:Int) - 0)+1) (0,0))
theorem C83 (a0:Zm)(l0_1:a0.1.length<=9223372036854775807)(l0_2:a0.2.length<=9223372036854775807)(hv:mF a0 a0.2.length)(hn:a0.2.length<=96):Con Tryz.prog 83 [(.a [(.s 0 0 a0.1.length 3),(.s 1 0 a0.2.length 3)])] [(.live false true (flat dL a0.1)),(.live false true (flat dW a0.2))] (iv (F83 a0)) []:=by
 refine aJ Tryz.func83 (by kernel_rfl) fun cx hcx=>?_
 have e:=Eq.refl (F83 a0);conv at e=>rhs;simp only [F83]
 rw [e]
 refine en [] [] [1,3,4] [2] hcx aRw (aRx) (aLc a0 0 0) (toNat ((a0.2.length:Int) - 0)+1) (by kernel_rfl) ?_
 exact bCs a0 l0_1 l0_2 hv hn hcx (toNat ((a0.2.length:Int) - 0)+1) 0 0 (by(try simp only [Ls]);omega) (by(try simp only [Ls]);omega)
noncomputable def aRy:Code:=(aD [1,1,0,1,0,1,0,1,1] [0] (aG Tryz.f50) []).1
noncomputable def aRz (m0:Nat):List K:=(aD [1,1,0,1,0,1,0,1,1] [m0] (aG Tryz.f50) []).2
def aLd (a0:Zm)(v3 v4:Int):LS:=⟨iH 148 [(1,(.p 2 0)),(3,(iv v3)),(4,(iv v4))],[(.live false true (flat dL a0.1)),(.live false true (flat dW a0.2)),(.live true false [(.s 0 0 a0.1.length 3),(.s 1 0 a0.2.length 3)])]⟩
def kX (a0:Zm):Int×Int->(Int×Int)⊕((Int)⊕(Int))
 | (v3,v4) =>
  (bif (decide ((v4:Int) < v3)) then
   (bif ((((a0.1.getD (toNat v3) default).1:Int) == (a0.1.getD (toNat v4) default).1)&&((((a0.1.getD (toNat v3) default).2.1:Int) == (a0.1.getD (toNat v4) default).2.1)&&((((a0.1.getD (toNat v3) default).2.2:Int) == (a0.1.getD (toNat v4) default).2.2)&&true))) then
    (.inr (.inr 1))
   else
    (.inl (v3,(v4+1))))
  else
   (.inr (.inl (v3+1))))
noncomputable def aR0:Code:=(aD [1,1,1,1,1,1,0,1] [] (aG Tryz.f50) []).1
noncomputable def aR1:List K:=(aD [1,1,1,1,1,1,0,1] [] (aG Tryz.f50) []).2
def aLe (a0:Zm)(v11c:List SV)(v11n:Nat)(v12:Int):LS:=⟨iH 148 [(1,(.p 2 0)),(5,(.s 3 0 v11n 1)),(13,(iv v12))],[(.live false true (flat dL a0.1)),(.live false true (flat dW a0.2)),(.live true false [(.s 0 0 a0.1.length 3),(.s 1 0 a0.2.length 3)]),(.live true true v11c)]⟩
def kL (a0:Zm):List (Bool)×Int->(List (Bool)×Int)⊕(Int)
 | (v11,v12) =>
  (bif (decide ((v12:Int) < (v11.length:Int))) then
   (bif (!(v11.getD (toNat v12) default)) then
    (.inr 5)
   else
    (.inl (v11,(v12+1))))
  else
   (bif (decide (((F83 (a0.1,a0.2)):Int)<=0)) then
    (.inr 8)
   else
    (.inr 0)))
noncomputable def aR2:Code:=(aD [1,1,1,1,1,0,1] [] (aG Tryz.f50) []).1
noncomputable def aR3:List K:=(aD [1,1,1,1,1,0,1] [] (aG Tryz.f50) []).2
def aLf (a0:Zm)(v8c:List SV)(v8n:Nat)(v9:Int):LS:=⟨iH 148 [(1,(.p 2 0)),(5,(.s 3 0 v8n 1)),(9,(iv v9))],[(.live false true (flat dL a0.1)),(.live false true (flat dW a0.2)),(.live true false [(.s 0 0 a0.1.length 3),(.s 1 0 a0.2.length 3)]),(.live true true v8c)]⟩
def iQ (a0:Zm):List (Bool)×Int->(List (Bool)×Int)⊕(Int)
 | (v8,v9) =>
  (bif (decide ((v9:Int) < (a0.2.length:Int))) then
   (bif (((F82 (a0.1,a0.2) (a0.2.getD (toNat v9) default).1 (a0.2.getD (toNat v9) default).2.1):Int) != 1) then
    (.inr 7)
   else
    (bif (((F82 (a0.1,a0.2) (a0.2.getD (toNat v9) default).2.1 (a0.2.getD (toNat v9) default).1):Int) != 1) then
     (.inr 7)
    else
     (bif (((F82 (a0.1,a0.2) (a0.2.getD (toNat v9) default).2.1 (a0.2.getD (toNat v9) default).2.2):Int) != 1) then
      (.inr 7)
     else
      (bif (((F82 (a0.1,a0.2) (a0.2.getD (toNat v9) default).2.2 (a0.2.getD (toNat v9) default).2.1):Int) != 1) then
       (.inr 7)
      else
       (bif (((F82 (a0.1,a0.2) (a0.2.getD (toNat v9) default).2.2 (a0.2.getD (toNat v9) default).1):Int) != 1) then
        (.inr 7)
       else
        (bif (((F82 (a0.1,a0.2) (a0.2.getD (toNat v9) default).1 (a0.2.getD (toNat v9) default).2.2):Int) != 1) then
         (.inr 7)
        else
         (.inl (v8,(v9+1)))))))))
  else
   (.inr (aB (kL a0) (toNat ((v8.length:Int) - 0)+1) (v8,0))))
noncomputable def aR4:Code:=(aD [1,1,1,1,0,1] [] (aG Tryz.f50) []).1
noncomputable def aR5:List K:=(aD [1,1,1,1,0,1] [] (aG Tryz.f50) []).2
def aLg (a0:Zm)(v5c:List SV)(v5n:Nat)(v6:Int):LS:=⟨iH 148 [(1,(.p 2 0)),(5,(.s 3 0 v5n 1)),(6,(iv v6))],[(.live false true (flat dL a0.1)),(.live false true (flat dW a0.2)),(.live true false [(.s 0 0 a0.1.length 3),(.s 1 0 a0.2.length 3)]),(.live true true v5c)]⟩
def fN (a0:Zm):List (Bool)×Int->(List (Bool)×Int)⊕(Int)
 | (v5,v6) =>
  (bif (decide ((v6:Int) < (a0.2.length:Int))) then
   (bif (decide (((a0.2.getD (toNat v6) default).1:Int) < 0)) then
    (.inr 5)
   else
    (bif (decide (((a0.2.getD (toNat v6) default).1:Int)≥(a0.1.length:Int))) then
     (.inr 5)
    else
     (bif (decide (((a0.2.getD (toNat v6) default).2.1:Int) < 0)) then
      (.inr 5)
     else
      (bif (decide (((a0.2.getD (toNat v6) default).2.1:Int)≥(a0.1.length:Int))) then
       (.inr 5)
      else
       (bif (decide (((a0.2.getD (toNat v6) default).2.2:Int) < 0)) then
        (.inr 5)
       else
        (bif (decide (((a0.2.getD (toNat v6) default).2.2:Int)≥(a0.1.length:Int))) then
         (.inr 5)
        else
         (bif ((((lK (xO (a0.1,a0.2) v6)).1:Int) == 0)&&((((lK (xO (a0.1,a0.2) v6)).2.1:Int) == 0)&&((((lK (xO (a0.1,a0.2) v6)).2.2:Int) == 0)&&true))) then
          (.inr 6)
         else
          (.inl ((((v5.set (toNat (a0.2.getD (toNat v6) default).1) true).set (toNat (a0.2.getD (toNat v6) default).2.1) true).set (toNat (a0.2.getD (toNat v6) default).2.2) true),(v6+1))))))))))
  else
   (.inr (aB (iQ a0) (toNat ((a0.2.length:Int) - 0)+1) (v5,0))))
noncomputable def aNe:Code:=(aD [1,1,0,1] [] (aG Tryz.f50) []).1
noncomputable def aNf:List K:=(aD [1,1,0,1] [] (aG Tryz.f50) []).2
def aGl (a0:Zm)(v1:Int):LS:=⟨iH 148 [(1,(.p 2 0)),(3,(iv v1))],[(.live false true (flat dL a0.1)),(.live false true (flat dW a0.2)),(.live true false [(.s 0 0 a0.1.length 3),(.s 1 0 a0.2.length 3)])]⟩
def jB (a0:Zm):Int->(Int)⊕(Int)
 | v1 =>
  (bif (decide ((v1:Int) < (a0.1.length:Int))) then
   (bif (!(F79 (a0.1.getD (toNat v1) default) 64)) then
    (.inr 1)
   else
    (aB (kX a0) (toNat (v1 - 0)+1) (v1,0)))
  else
   (.inr (aB (fN a0) (toNat ((a0.2.length:Int) - 0)+1) ((List.replicate (toNat (a0.1.length:Int)) false),0))))
theorem bCt (a0:Zm)(l0_1:a0.1.length<=9223372036854775807)(l0_2:a0.2.length<=9223372036854775807) {cx:Cx} (hcx:cx.base=2)
   (n0:Nat) (g0:∀(v1:Int),(0<=v1)/\(a0.1.length<=64)/\(a0.2.length<=96)->toNat ((a0.1.length:Int) - v1) < n0->Aw.Good Tryz.prog none 9 (bodyPost Tryz.prog Tryz.f50 (RR cx (iv (aB (jB a0) n0 v1)) [] [])) cx [] (.l aNe n0::aNf) (aGl a0 v1)):∀(n:Nat) (v3 v4:Int),(0<=v4)/\((0<=v3))/\((a0.1.length<=64))/\((a0.2.length<=96))/\(v3 < (a0.1.length:Int))/\(toNat ((a0.1.length:Int) - v3) < n0+1)->toNat (v3 - v4) < n->Aw.Good Tryz.prog none 9 (bodyPost Tryz.prog Tryz.f50 (RR cx (iv (jE (jB a0) n0 (aB (kX a0) n (v3,v4)))) [] [])) cx [] (.l aRy n::aRz n0) (aLd a0 v3 v4):=by
 intro n
 induction n with
 | zero=>intro v3 v4 hi hn;exact absurd hn (gP _)
 | succ n ih =>
   intro v3 v4 hi hn
   refine aH ?_
   cases h0:(decide ((v4:Int) < v3)) with
   | true =>
    have q0:=bO h0
    let t1:List (St Tryz.prog):=[.d h0,.i v3 (a0.1.length),.L bM a0.1 v3 0 3,.i v4 (a0.1.length),.L bM a0.1 v4 0 3]
    cases h1:((((a0.1.getD (toNat v3) default).1:Int) == (a0.1.getD (toNat v4) default).1)&&((((a0.1.getD (toNat v3) default).2.1:Int) == (a0.1.getD (toNat v4) default).2.1)&&((((a0.1.getD (toNat v3) default).2.2:Int) == (a0.1.getD (toNat v4) default).2.2)&&true))) with
    | true =>
     have e:=Eq.refl (kX a0 (v3,v4));conv at e=>rhs;simp only [kX,h0,h1,aI]
     rw [aC,e]
     exact rt (t1++[.d h1]) [] [] hcx (by kernel_rfl)
    | false =>
     have e:=Eq.refl (kX a0 (v3,v4));conv at e=>rhs;simp only [kX,h0,h1,aI]
     rw [aA e]
     refine ba (t1++[.d h1]) [] [1,3,4] [2] hcx (m:=n) aRy (aRz n0) (aLd a0 v3 (W (v4+1))) (by kernel_rfl) ?_
     have z0:(W (v4+1))=(v4+1):=aE (by omega) (by omega)
     rw [z0]
     exact ih v3 (v4+1) (by refine⟨?_,?_,?_,?_,?_,?_⟩<;>(try simp only [Ls])<;>first | omega | assumption | exact hi.2.1 | exact hi.2.2.1 | exact hi.2.2.2.1 | exact hi.2.2.2.2.1 | exact hi.2.2.2.2.2.1 | simp) (by(try simp only [Ls]);omega)
   | false =>
    have q0:=cA h0
    have e:=Eq.refl (kX a0 (v3,v4));conv at e=>rhs;simp only [kX,h0,aI]
    rw [aC,e]
    refine ba [.d h0] [] [1,3] [2] hcx (m:=n0) aNe (aNf) (aGl a0 (W (v3+1))) (by kernel_rfl) ?_
    have z0:(W (v3+1))=(v3+1):=aE (by omega) (by omega)
    rw [z0]
    exact g0 (v3+1) (by refine⟨?_,?_,?_⟩<;>(try simp only [Ls])<;>first | omega | assumption | simp) (by(try simp only [Ls]);omega)
theorem bCu (a0:Zm)(l0_1:a0.1.length<=9223372036854775807)(l0_2:a0.2.length<=9223372036854775807) {cx:Cx} (hcx:cx.base=2):∀(n:Nat)(v11:List (Bool))(v12:Int),(0<=v12)/\(mF a0 a0.2.length)/\(a0.1.length<=64)/\(a0.2.length<=96)/\(v11.length=a0.1.length)->toNat ((v11.length:Int) - v12) < n->Aw.Good Tryz.prog none 9 (bodyPost Tryz.prog Tryz.f50 (RR cx (iv (aB (kL a0) n (v11,v12))) [] [])) cx [] (.l aR0 n::aR1) (aLe a0 (flat c4 v11) v11.length v12):=by
 intro n
 induction n with
 | zero=>intro v11 v12 hi hn;exact absurd hn (gP _)
 | succ n ih =>
   intro v11 v12 hi hn
   refine aH ?_
   cases h0:(decide ((v12:Int) < (v11.length:Int))) with
   | true =>
    have q0:=bO h0
    let t1:List (St Tryz.prog):=[.d h0,.i v12 (v11.length),.L eQ v11 v12 0 1]
    cases h1:(!(v11.getD (toNat v12) default)) with
    | true =>
     have e:=Eq.refl (kL a0 (v11,v12));conv at e=>rhs;simp only [kL,h0,h1,aI]
     rw [aC,e]
     exact rt (t1++[.d h1]) [] [] hcx (by kernel_rfl)
    | false =>
     have e:=Eq.refl (kL a0 (v11,v12));conv at e=>rhs;simp only [kL,h0,h1,aI]
     rw [aA e]
     refine ba (t1++[.d h1]) [] [1,5,13] [2,3] hcx (m:=n) aR0 (aR1) (aLe a0 (flat c4 v11) (v11.length) (W (v12+1))) (by kernel_rfl) ?_
     have z0:(W (v12+1))=(v12+1):=aE (by omega) (by omega)
     rw [z0]
     exact ih v11 (v12+1) (by refine⟨?_,?_,?_,?_,?_⟩<;>first | omega | assumption | exact kV | exact hi.2.1 | exact hi.2.2.1 | exact hH hi.2.2.1 (by omega) | exact dN hi.2.2.1 hfo | exact dN hi.2.2.1 (by refine⟨⟨?_,?_⟩,⟨?_,?_⟩,?_,?_⟩<;>omega) | (simp only [List.length_replicate,List.length_set];omega)) (by(try simp only [Ls]);omega)
   | false =>
    have q0:=cA h0
    let t1:List (St Tryz.prog):=[.d h0,.c [0,1] (C83 (a0.1,a0.2) (by(try simp only [Lt]);omega) (by(try simp only [Lt]);omega) hi.2.1 (by show a0.2.length<=96;omega))]
    cases h1:(decide (((F83 (a0.1,a0.2)):Int)<=0)) with
    | true =>
     have q1:=bO h1
     have e:=Eq.refl (kL a0 (v11,v12));conv at e=>rhs;simp only [kL,h0,h1,aI]
     rw [aC,e]
     exact rt (t1++[.d h1]) [] [] hcx (by kernel_rfl)
    | false =>
     have q1:=cA h1
     have e:=Eq.refl (kL a0 (v11,v12));conv at e=>rhs;simp only [kL,h0,h1,aI]
     rw [aC,e]
     exact rt (t1++[.d h1]) [] [] hcx (by kernel_rfl)
theorem bCv (a0:Zm)(l0_1:a0.1.length<=9223372036854775807)(l0_2:a0.2.length<=9223372036854775807) {cx:Cx} (hcx:cx.base=2):∀(n:Nat)(v8:List (Bool))(v9:Int),(0<=v9)/\(mF a0 a0.2.length)/\(a0.1.length<=64)/\(a0.2.length<=96)/\(v8.length=a0.1.length)->toNat ((a0.2.length:Int) - v9) < n->Aw.Good Tryz.prog none 9 (bodyPost Tryz.prog Tryz.f50 (RR cx (iv (aB (iQ a0) n (v8,v9))) [] [])) cx [] (.l aR2 n::aR3) (aLf a0 (flat c4 v8) v8.length v9):=by
 intro n
 induction n with
 | zero=>intro v8 v9 hi hn;exact absurd hn (gP _)
 | succ n ih =>
   intro v8 v9 hi hn
   refine aH ?_
   cases h0:(decide ((v9:Int) < (a0.2.length:Int))) with
   | true =>
    have q0:=bO h0
    let t1:List (St Tryz.prog):=[.d h0,.u 200,.T,.i v9 (a0.2.length),.i 0 3 (by decide),.L aW a0.2 v9 0 1,.p (show(3:Int)≠0 from by decide),.i v9 (a0.2.length),.i 1 3 (by decide),.L aW a0.2 v9 1 1,.c [0,1] (C82 (a0.1,a0.2) (a0.2.getD (toNat v9) default).1 (a0.2.getD (toNat v9) default).2.1 (by(try simp only [Lt]);omega) (by(try simp only [Lt]);omega))]
    cases h1:(((F82 (a0.1,a0.2) (a0.2.getD (toNat v9) default).1 (a0.2.getD (toNat v9) default).2.1):Int) != 1) with
    | true =>
     have q1:=bne_iff_ne.1 h1
     have e:=Eq.refl (iQ a0 (v8,v9));conv at e=>rhs;simp only [iQ,h0,h1,aI]
     rw [aC,e]
     exact rt (t1++[.d h1]) [] [] hcx (by kernel_rfl)
    | false =>
     have q1:=bne_eq_false_iff_eq.1 h1
     let t2:List (St Tryz.prog):=(t1++[.d h1,.c [0,1] (C82 (a0.1,a0.2) (a0.2.getD (toNat v9) default).2.1 (a0.2.getD (toNat v9) default).1 (by(try simp only [Lt]);omega) (by(try simp only [Lt]);omega))])
     cases h2:(((F82 (a0.1,a0.2) (a0.2.getD (toNat v9) default).2.1 (a0.2.getD (toNat v9) default).1):Int) != 1) with
     | true =>
      have q2:=bne_iff_ne.1 h2
      have e:=Eq.refl (iQ a0 (v8,v9));conv at e=>rhs;simp only [iQ,h0,h1,h2,aI]
      rw [aC,e]
      exact rt (t2++[.d h2]) [] [] hcx (by kernel_rfl)
     | false =>
      have q2:=bne_eq_false_iff_eq.1 h2
      let t3:List (St Tryz.prog):=(t2++[.d h2,.u 0,.T,.i v9 (a0.2.length),.i 1 3 (by decide),.L aW a0.2 v9 1 1,.p (show(3:Int)≠0 from by decide),.i v9 (a0.2.length),.i 2 3 (by decide),.L aW a0.2 v9 2 1,.c [0,1] (C82 (a0.1,a0.2) (a0.2.getD (toNat v9) default).2.1 (a0.2.getD (toNat v9) default).2.2 (by(try simp only [Lt]);omega) (by(try simp only [Lt]);omega))])
      cases h3:(((F82 (a0.1,a0.2) (a0.2.getD (toNat v9) default).2.1 (a0.2.getD (toNat v9) default).2.2):Int) != 1) with
      | true =>
       have q3:=bne_iff_ne.1 h3
       have e:=Eq.refl (iQ a0 (v8,v9));conv at e=>rhs;simp only [iQ,h0,h1,h2,h3,aI]
       rw [aC,e]
       exact rt (t3++[.d h3]) [] [] hcx (by kernel_rfl)
      | false =>
       have q3:=bne_eq_false_iff_eq.1 h3
       let t4:List (St Tryz.prog):=(t3++[.d h3,.c [0,1] (C82 (a0.1,a0.2) (a0.2.getD (toNat v9) default).2.2 (a0.2.getD (toNat v9) default).2.1 (by(try simp only [Lt]);omega) (by(try simp only [Lt]);omega))])
       cases h4:(((F82 (a0.1,a0.2) (a0.2.getD (toNat v9) default).2.2 (a0.2.getD (toNat v9) default).2.1):Int) != 1) with
       | true =>
        have q4:=bne_iff_ne.1 h4
        have e:=Eq.refl (iQ a0 (v8,v9));conv at e=>rhs;simp only [iQ,h0,h1,h2,h3,h4,aI]
        rw [aC,e]
        exact rt (t4++[.d h4]) [] [] hcx (by kernel_rfl)
       | false =>
        have q4:=bne_eq_false_iff_eq.1 h4
        let t5:List (St Tryz.prog):=(t4++[.d h4,.u 0,.T,.i v9 (a0.2.length),.i 2 3 (by decide),.L aW a0.2 v9 2 1,.p (show(3:Int)≠0 from by decide),.i v9 (a0.2.length),.i 0 3 (by decide),.L aW a0.2 v9 0 1,.c [0,1] (C82 (a0.1,a0.2) (a0.2.getD (toNat v9) default).2.2 (a0.2.getD (toNat v9) default).1 (by(try simp only [Lt]);omega) (by(try simp only [Lt]);omega))])
        cases h5:(((F82 (a0.1,a0.2) (a0.2.getD (toNat v9) default).2.2 (a0.2.getD (toNat v9) default).1):Int) != 1) with
        | true =>
         have q5:=bne_iff_ne.1 h5
         have e:=Eq.refl (iQ a0 (v8,v9));conv at e=>rhs;simp only [iQ,h0,h1,h2,h3,h4,h5,aI]
         rw [aC,e]
         exact rt (t5++[.d h5]) [] [] hcx (by kernel_rfl)
        | false =>
         have q5:=bne_eq_false_iff_eq.1 h5
         let t6:List (St Tryz.prog):=(t5++[.d h5,.c [0,1] (C82 (a0.1,a0.2) (a0.2.getD (toNat v9) default).1 (a0.2.getD (toNat v9) default).2.2 (by(try simp only [Lt]);omega) (by(try simp only [Lt]);omega))])
         cases h6:(((F82 (a0.1,a0.2) (a0.2.getD (toNat v9) default).1 (a0.2.getD (toNat v9) default).2.2):Int) != 1) with
         | true =>
          have q6:=bne_iff_ne.1 h6
          have e:=Eq.refl (iQ a0 (v8,v9));conv at e=>rhs;simp only [iQ,h0,h1,h2,h3,h4,h5,h6,aI]
          rw [aC,e]
          exact rt (t6++[.d h6]) [] [] hcx (by kernel_rfl)
         | false =>
          have q6:=bne_eq_false_iff_eq.1 h6
          have e:=Eq.refl (iQ a0 (v8,v9));conv at e=>rhs;simp only [iQ,h0,h1,h2,h3,h4,h5,h6,aI]
          rw [aA e]
          refine ba (t6++[.d h6,.u 0,.F]) [] [1,5,9] [2,3] hcx (m:=n) aR2 (aR3) (aLf a0 (flat c4 v8) (v8.length) (W (v9+1))) (by kernel_rfl) ?_
          have z0:(W (v9+1))=(v9+1):=aE (by omega) (by omega)
          rw [z0]
          exact ih v8 (v9+1) (by refine⟨?_,?_,?_,?_,?_⟩<;>first | omega | assumption | exact kV | exact hi.2.1 | exact hi.2.2.1 | exact hH hi.2.2.1 (by omega) | exact dN hi.2.2.1 hfo | exact dN hi.2.2.1 (by refine⟨⟨?_,?_⟩,⟨?_,?_⟩,?_,?_⟩<;>omega) | (simp only [List.length_replicate,List.length_set];omega)) (by(try simp only [Ls]);omega)
   | false =>
    have q0:=cA h0
    have e:=Eq.refl (iQ a0 (v8,v9));conv at e=>rhs;simp only [iQ,h0,aI]
    rw [aC,e]
    refine en [.d h0] [] [1,5,13] [2,3] hcx aR0 (aR1) (aLe a0 (flat c4 v8) (v8.length) 0) (toNat ((v8.length:Int) - 0)+1) (by kernel_rfl) ?_
    exact bCu a0 l0_1 l0_2 hcx (toNat ((v8.length:Int) - 0)+1) v8 0 (by refine⟨?_,?_,?_,?_,?_⟩<;>first | omega | assumption | exact kV | exact hi.2.1 | exact hi.2.2.1 | exact hH hi.2.2.1 (by omega) | exact dN hi.2.2.1 hfo | exact dN hi.2.2.1 (by refine⟨⟨?_,?_⟩,⟨?_,?_⟩,?_,?_⟩<;>omega) | (simp only [List.length_replicate,List.length_set];omega)) (by(try simp only [Ls]);omega)
theorem bCw (a0:Zm)(l0_1:a0.1.length<=9223372036854775807)(l0_2:a0.2.length<=9223372036854775807) {cx:Cx} (hcx:cx.base=2):∀(n:Nat)(v5:List (Bool))(v6:Int),(0<=v6)/\(v5.length=a0.1.length)/\(mF a0 v6)/\(v6<=a0.2.length)/\(a0.1.length<=64)/\(a0.2.length<=96)->toNat ((a0.2.length:Int) - v6) < n->Aw.Good Tryz.prog none 9 (bodyPost Tryz.prog Tryz.f50 (RR cx (iv (aB (fN a0) n (v5,v6))) [] [])) cx [] (.l aR4 n::aR5) (aLg a0 (flat c4 v5) v5.length v6):=by
 intro n
 induction n with
 | zero=>intro v5 v6 hi hn;exact absurd hn (gP _)
 | succ n ih =>
   intro v5 v6 hi hn
   refine aH ?_
   cases h0:(decide ((v6:Int) < (a0.2.length:Int))) with
   | true =>
    have q0:=bO h0
    let t1:List (St Tryz.prog):=[.d h0,.u 200,.T,.i v6 (a0.2.length),.i 0 3 (by decide),.L aW a0.2 v6 0 1]
    cases h1:(decide (((a0.2.getD (toNat v6) default).1:Int) < 0)) with
    | true =>
     have q1:=bO h1
     have e:=Eq.refl (fN a0 (v5,v6));conv at e=>rhs;simp only [fN,h0,h1,aI]
     rw [aC,e]
     exact rt (t1++[.d h1]) [] [] hcx (by kernel_rfl)
    | false =>
     have q1:=cA h1
     let t2:List (St Tryz.prog):=(t1++[.d h1])
     cases h2:(decide (((a0.2.getD (toNat v6) default).1:Int)≥(a0.1.length:Int))) with
     | true =>
      have q2:=bO h2
      have e:=Eq.refl (fN a0 (v5,v6));conv at e=>rhs;simp only [fN,h0,h1,h2,aI]
      rw [aC,e]
      exact rt (t2++[.d h2]) [] [] hcx (by kernel_rfl)
     | false =>
      have q2:=cA h2
      let t3:List (St Tryz.prog):=(t2++[.d h2,.i ((a0.2.getD (toNat v6) default).1) (v5.length),.p (show((0+toNat (a0.2.getD (toNat v6) default).1*1)+1<=(flat c4 v5).length) from(jT eQ (by first | omega | (simp only [Lt];omega)) (o:=0) (Nb rfl))),.u 0,.T,.i v6 (a0.2.length),.i 1 3 (by decide),.L aW a0.2 v6 1 1])
      cases h3:(decide (((a0.2.getD (toNat v6) default).2.1:Int) < 0)) with
      | true =>
       have q3:=bO h3
       have e:=Eq.refl (fN a0 (v5,v6));conv at e=>rhs;simp only [fN,h0,h1,h2,h3,aI]
       rw [aC,e]
       exact rt (t3++[.d h3]) [] [] hcx (by kernel_rfl)
      | false =>
       have q3:=cA h3
       let t4:List (St Tryz.prog):=(t3++[.d h3])
       cases h4:(decide (((a0.2.getD (toNat v6) default).2.1:Int)≥(a0.1.length:Int))) with
       | true =>
        have q4:=bO h4
        have e:=Eq.refl (fN a0 (v5,v6));conv at e=>rhs;simp only [fN,h0,h1,h2,h3,h4,aI]
        rw [aC,e]
        exact rt (t4++[.d h4]) [] [] hcx (by kernel_rfl)
       | false =>
        have q4:=cA h4
        let t5:List (St Tryz.prog):=(t4++[.d h4,.i ((a0.2.getD (toNat v6) default).2.1) (v5.length),.p (show((0+toNat (a0.2.getD (toNat v6) default).2.1*1)+1<=(splice (flat c4 v5) (0+toNat (a0.2.getD (toNat v6) default).1*1) [(.v (.bool true))]).length) from(by rw [show(splice (flat c4 v5) (0+toNat (a0.2.getD (toNat v6) default).1*1) [(.v (.bool true))])=flat c4 (v5.set (toNat (a0.2.getD (toNat v6) default).1) true) from(eN eQ (by first | omega | (simp only [Lt];omega)) (o:=0) (d:=default) (Nb rfl) rfl)];exact jT eQ (by first | omega | (simp only [Lt];omega)) (o:=0) (Nb rfl))),.u 0,.T,.i v6 (a0.2.length),.i 2 3 (by decide),.L aW a0.2 v6 2 1])
        cases h5:(decide (((a0.2.getD (toNat v6) default).2.2:Int) < 0)) with
        | true =>
         have q5:=bO h5
         have e:=Eq.refl (fN a0 (v5,v6));conv at e=>rhs;simp only [fN,h0,h1,h2,h3,h4,h5,aI]
         rw [aC,e]
         exact rt (t5++[.d h5]) [] [] hcx (by kernel_rfl)
        | false =>
         have q5:=cA h5
         let t6:List (St Tryz.prog):=(t5++[.d h5])
         cases h6:(decide (((a0.2.getD (toNat v6) default).2.2:Int)≥(a0.1.length:Int))) with
         | true =>
          have q6:=bO h6
          have e:=Eq.refl (fN a0 (v5,v6));conv at e=>rhs;simp only [fN,h0,h1,h2,h3,h4,h5,h6,aI]
          rw [aC,e]
          exact rt (t6++[.d h6]) [] [] hcx (by kernel_rfl)
         | false =>
          have q6:=cA h6
          let t7:List (St Tryz.prog):=(t6++[.d h6,.i ((a0.2.getD (toNat v6) default).2.2) (v5.length),.p (show((0+toNat (a0.2.getD (toNat v6) default).2.2*1)+1<=(splice (splice (flat c4 v5) (0+toNat (a0.2.getD (toNat v6) default).1*1) [(.v (.bool true))]) (0+toNat (a0.2.getD (toNat v6) default).2.1*1) [(.v (.bool true))]).length) from(by rw [show(splice (splice (flat c4 v5) (0+toNat (a0.2.getD (toNat v6) default).1*1) [(.v (.bool true))]) (0+toNat (a0.2.getD (toNat v6) default).2.1*1) [(.v (.bool true))])=flat c4 ((v5.set (toNat (a0.2.getD (toNat v6) default).1) true).set (toNat (a0.2.getD (toNat v6) default).2.1) true) from(by rw [show(splice (flat c4 v5) (0+toNat (a0.2.getD (toNat v6) default).1*1) [(.v (.bool true))])=flat c4 (v5.set (toNat (a0.2.getD (toNat v6) default).1) true) from(eN eQ (by first | omega | (simp only [Lt];omega)) (o:=0) (d:=default) (Nb rfl) rfl)];exact eN eQ (by first | omega | (simp only [Lt];omega)) (o:=0) (d:=default) (Nb rfl) rfl)];exact jT eQ (by first | omega | (simp only [Lt];omega)) (o:=0) (Nb rfl))),.u 0,.F,.c [0,1] (C81 (a0.1,a0.2) v6 (by(try simp only [Lt]);omega) (by(try simp only [Lt]);omega) (by show 0<=_/\_ < (a0.2.length:Int);omega) (by show inF a0.1.length (a0.2.getD _ default);refine⟨⟨?_,?_⟩,⟨?_,?_⟩,?_,?_⟩<;>omega)),.c [] (C80 (xO (a0.1,a0.2) v6))])
          cases h7:((((lK (xO (a0.1,a0.2) v6)).1:Int) == 0)&&((((lK (xO (a0.1,a0.2) v6)).2.1:Int) == 0)&&((((lK (xO (a0.1,a0.2) v6)).2.2:Int) == 0)&&true))) with
          | true =>
           have e:=Eq.refl (fN a0 (v5,v6));conv at e=>rhs;simp only [fN,h0,h1,h2,h3,h4,h5,h6,h7,aI]
           rw [aC,e]
           exact rt (t7++[.d h7]) [] [] hcx (by kernel_rfl)
          | false =>
           have e:=Eq.refl (fN a0 (v5,v6));conv at e=>rhs;simp only [fN,h0,h1,h2,h3,h4,h5,h6,h7,aI]
           rw [aA e]
           refine ba (t7++[.d h7]) [] [1,5,6] [2,3] hcx (m:=n) aR4 (aR5) (aLg a0 (splice (splice (splice (flat c4 v5) (0+toNat (a0.2.getD (toNat v6) default).1*1) [(.v (.bool true))]) (0+toNat (a0.2.getD (toNat v6) default).2.1*1) [(.v (.bool true))]) (0+toNat (a0.2.getD (toNat v6) default).2.2*1) [(.v (.bool true))]) (v5.length) (W (v6+1))) (by kernel_rfl) ?_
           have z0:(W (v6+1))=(v6+1):=aE (by omega) (by omega)
           have z1:(splice (splice (splice (flat c4 v5) (0+toNat (a0.2.getD (toNat v6) default).1*1) [(.v (.bool true))]) (0+toNat (a0.2.getD (toNat v6) default).2.1*1) [(.v (.bool true))]) (0+toNat (a0.2.getD (toNat v6) default).2.2*1) [(.v (.bool true))])=flat c4 (((v5.set (toNat (a0.2.getD (toNat v6) default).1) true).set (toNat (a0.2.getD (toNat v6) default).2.1) true).set (toNat (a0.2.getD (toNat v6) default).2.2) true):=(by rw [show(splice (splice (flat c4 v5) (0+toNat (a0.2.getD (toNat v6) default).1*1) [(.v (.bool true))]) (0+toNat (a0.2.getD (toNat v6) default).2.1*1) [(.v (.bool true))])=flat c4 ((v5.set (toNat (a0.2.getD (toNat v6) default).1) true).set (toNat (a0.2.getD (toNat v6) default).2.1) true) from(by rw [show(splice (flat c4 v5) (0+toNat (a0.2.getD (toNat v6) default).1*1) [(.v (.bool true))])=flat c4 (v5.set (toNat (a0.2.getD (toNat v6) default).1) true) from(eN eQ (by first | omega | (simp only [Lt];omega)) (o:=0) (d:=default) (Nb rfl) rfl)];exact eN eQ (by first | omega | (simp only [Lt];omega)) (o:=0) (d:=default) (Nb rfl) rfl)];exact eN eQ (by first | omega | (simp only [Lt];omega)) (o:=0) (d:=default) (Nb rfl) rfl)
           have z2:v5.length=(((v5.set (toNat (a0.2.getD (toNat v6) default).1) true).set (toNat (a0.2.getD (toNat v6) default).2.1) true).set (toNat (a0.2.getD (toNat v6) default).2.2) true).length:=by simp
           rw [z0,z1,z2]
           exact ih (((v5.set (toNat (a0.2.getD (toNat v6) default).1) true).set (toNat (a0.2.getD (toNat v6) default).2.1) true).set (toNat (a0.2.getD (toNat v6) default).2.2) true) (v6+1) (by refine⟨?_,?_,?_,?_,?_,?_⟩<;>first | omega | assumption | exact kV | exact hi.2.1 | exact hi.2.2.1 | exact hH hi.2.2.1 (by omega) | exact dN hi.2.2.1 hfo | exact dN hi.2.2.1 (by refine⟨⟨?_,?_⟩,⟨?_,?_⟩,?_,?_⟩<;>omega) | (simp only [List.length_replicate,List.length_set];omega)) (by(try simp only [Ls]);omega)
   | false =>
    have q0:=cA h0
    have e:=Eq.refl (fN a0 (v5,v6));conv at e=>rhs;simp only [fN,h0,aI]
    rw [aC,e]
    refine en [.d h0] [] [1,5,9] [2,3] hcx aR2 (aR3) (aLf a0 (flat c4 v5) (v5.length) 0) (toNat ((a0.2.length:Int) - 0)+1) (by kernel_rfl) ?_
    exact bCv a0 l0_1 l0_2 hcx (toNat ((a0.2.length:Int) - 0)+1) v5 0 (by refine⟨?_,?_,?_,?_,?_⟩<;>first | omega | assumption | exact kV | exact hi.2.1 | exact hi.2.2.1 | exact hH hi.2.2.1 (by omega) | exact dN hi.2.2.1 hfo | exact dN hi.2.2.1 (by refine⟨⟨?_,?_⟩,⟨?_,?_⟩,?_,?_⟩<;>omega) | (simp only [List.length_replicate,List.length_set];omega)) (by(try simp only [Ls]);omega)
theorem bCx (a0:Zm)(l0_1:a0.1.length<=9223372036854775807)(l0_2:a0.2.length<=9223372036854775807) {cx:Cx} (hcx:cx.base=2):∀(n:Nat)(v1:Int),(0<=v1)/\(a0.1.length<=64)/\(a0.2.length<=96)->toNat ((a0.1.length:Int) - v1) < n->Aw.Good Tryz.prog none 9 (bodyPost Tryz.prog Tryz.f50 (RR cx (iv (aB (jB a0) n v1)) [] [])) cx [] (.l aNe n::aNf) (aGl a0 v1):=by
 intro n
 induction n with
 | zero=>intro v1 hi hn;exact absurd hn (gP _)
 | succ n ih =>
   intro v1 hi hn
   refine aH ?_
   cases h0:(decide ((v1:Int) < (a0.1.length:Int))) with
   | true =>
    have q0:=bO h0
    let t1:List (St Tryz.prog):=[.d h0,.i v1 (a0.1.length),.L bM a0.1 v1 0 3,.c [] (C79 (a0.1.getD (toNat v1) default) 64)]
    cases h1:(!(F79 (a0.1.getD (toNat v1) default) 64)) with
    | true =>
     have e:=Eq.refl (jB a0 v1);conv at e=>rhs;simp only [jB,h0,h1,aI]
     rw [aC,e]
     exact rt (t1++[.d h1]) [] [] hcx (by kernel_rfl)
    | false =>
     have e:=Eq.refl (jB a0 v1);conv at e=>rhs;simp only [jB,h0,h1,aI]
     rw [aC,e]
     refine en (t1++[.d h1]) [] [1,3,4] [2] hcx aRy (aRz n) (aLd a0 v1 0) (toNat (v1 - 0)+1) (by kernel_rfl) ?_
     exact bCt a0 l0_1 l0_2 hcx n ih (toNat (v1 - 0)+1) v1 0 (by refine⟨?_,?_,?_,?_,?_,?_⟩<;>(try simp only [Ls])<;>first | omega | assumption | exact hi.2.1 | exact hi.2.2.1 | exact hi.2.2.2.1 | exact hi.2.2.2.2.1 | exact hi.2.2.2.2.2.1 | simp) (by(try simp only [Ls]);omega)
   | false =>
    have q0:=cA h0
    have e:=Eq.refl (jB a0 v1);conv at e=>rhs;simp only [jB,h0,aI]
    rw [aC,e]
    refine en [.d h0,.Z c4 false [(.v (.bool false))] (a0.1.length:Int) 1] [] [1,5,6] [2,3] hcx aR4 (aR5) (aLg a0 (flat c4 (List.replicate (toNat (a0.1.length:Int)) false)) (toNat (a0.1.length:Int)) 0) (toNat ((a0.2.length:Int) - 0)+1) (by kernel_rfl) ?_
    have q:=bCw a0 l0_1 l0_2 hcx (toNat ((a0.2.length:Int) - 0)+1) (List.replicate (toNat (a0.1.length:Int)) false) 0 (by refine⟨?_,?_,?_,?_,?_,?_⟩<;>first | omega | assumption | exact kV | exact hi.2.1 | exact hi.2.2.1 | exact hH hi.2.2.1 (by omega) | exact dN hi.2.2.1 hfo | exact dN hi.2.2.1 (by refine⟨⟨?_,?_⟩,⟨?_,?_⟩,?_,?_⟩<;>omega) | (simp only [List.length_replicate,List.length_set];omega)) (by(try simp only [Ls]);omega)
    simp only [List.length_replicate] at q
    exact q
def vU (a0:Zm):Int :=
 (bif (decide (((a0.1.length:Int):Int) > 64)) then
  4
 else
  (bif (!(F78 (a0.2.length:Int) 1 96)) then
   4
  else
   (aB (jB a0) (toNat ((a0.1.length:Int) - 0)+1) 0)))
theorem C50 (a0:Zm)(l0_1:a0.1.length<=9223372036854775807)(l0_2:a0.2.length<=9223372036854775807):Con Tryz.prog 50 [(.a [(.s 0 0 a0.1.length 3),(.s 1 0 a0.2.length 3)])] [(.live false true (flat dL a0.1)),(.live false true (flat dW a0.2))] (iv (vU a0)) []:=by
 refine aJ Tryz.func50 (by kernel_rfl) fun cx hcx=>?_
 try have hl96:=aCm h1
 cases h0:(decide (((a0.1.length:Int):Int) > 64)) with
 | true =>
  have q0:=bO h0
  try have hl96:=aCm h1
  have e:=Eq.refl (vU a0);conv at e=>rhs;simp only [vU,h0,aI]
  rw [e]
  exact rt [.d h0] [] [] hcx (by kernel_rfl)
 | false =>
  have q0:=cA h0
  try have hl96:=aCm h1
  let t1:List (St Tryz.prog):=[.d h0,.c [] (C78 (a0.2.length:Int) 1 96)]
  cases h1:(!(F78 (a0.2.length:Int) 1 96)) with
  | true =>
   try have hl96:=aCm h1
   have e:=Eq.refl (vU a0);conv at e=>rhs;simp only [vU,h0,h1,aI]
   rw [e]
   exact rt (t1++[.d h1]) [] [] hcx (by kernel_rfl)
  | false =>
   try have hl96:=aCm h1
   have e:=Eq.refl (vU a0);conv at e=>rhs;simp only [vU,h0,h1,aI]
   rw [e]
   refine en (t1++[.d h1]) [] [1,3] [2] hcx aNe (aNf) (aGl a0 0) (toNat ((a0.1.length:Int) - 0)+1) (by kernel_rfl) ?_
   exact bCx a0 l0_1 l0_2 hcx (toNat ((a0.1.length:Int) - 0)+1) 0 (by refine⟨?_,?_,?_⟩<;>(try simp only [Ls])<;>first | omega | assumption | simp) (by(try simp only [Ls]);omega)
section
variable {α β : Type} [DecidableEq α]
theorem oB (e:α×β)(l:List (α×β))(k:α)(d:β):aV (e::l) k d=if e.1=k then e.2 else aV l k d:=by
 unfold aV
 simp only [eL]
 by_cases h:e.1=k
 · rw [if_pos h,if_pos h]
 · rw [if_neg h,if_neg h]
   cases eL k l<;>rfl
theorem aOx (e:α×β)(l:List (α×β))(k:α)(v:β):cK (e::l) k v=if e.1=k then(k,v)::l else e::cK l k v:=by
 unfold cK
 simp only [eL]
 by_cases h:e.1=k
 · rw [if_pos h,if_pos h];rfl
 · rw [if_neg h,if_neg h]
   cases eL k l<;>rfl
theorem aCn:∀(l:List (α×β))(k k':α)(v d:β),aV (cK l k v) k' d=if k=k' then v else aV l k' d
 | [],k,k',v,d=>by
   show aV [(k,v)] k' d=_
   rw [oB]
 | e::l,k,k',v,d=>by
   rw [aOx]
   by_cases h:e.1=k
   · rw [if_pos h,oB,oB]
     by_cases h':k=k'
     · rw [if_pos h',if_pos h']
     · rw [if_neg h',if_neg h',if_neg (fun x=>h' (h▸x))]
   · rw [if_neg h,oB,oB,aCn l k k' v d]
     by_cases h':k=k'
     · rw [if_neg (fun x=>h (x.trans h'.symm)),if_pos h',if_pos h']
     · rw [if_neg h',if_neg h']
theorem aCo (k:α)(d:β):aV ([]:List (α×β)) k d=d:=rfl
end
theorem aI3 {S R:Type} [Inhabited R] {f g:S->S⊕R} (I:S->Prop)(hI:∀s,I s->f s=g s)(hp:∀s s',I s->f s=.inl s'->I s'):∀(n:Nat)(s:S),I s->aB f n s=aB g n s:=by
 intro n
 induction n with
 | zero=>intro s _;rfl
 | succ n ih =>
   intro s hs
   have e:=hI s hs
   cases h:f s with
   | inl s'=>rw [aA h,aA (e▸h)];exact ih s' (hp s s' hs h)
   | inr r=>rw [aO h,aO (e▸h)]
theorem bI {α σ R:Type} (g:σ->α->σ):∀(l:List α)(v:σ),iZ (R:=R) (fun v c=>.inl (g v c)) l v=.inl (l.foldl g v)
 | [],_=>rfl
 | c::l,v=>by simp only [iZ,List.foldl_cons];exact bI g l (g v c)
theorem bA {α:Type} [Inhabited α] {L:List α} {i:Nat} {c:α} (h:L[i]? = some c):L.getD (toNat (i:Int)) default=c:=by
 rw [uM,eZ,h];rfl
abbrev ME:=List P3×List P3
def tri (f:P3)(p q:Int):Int:=(if f.1=p/\f.2.1=q then 1 else 0)+(if f.2.1=p/\f.2.2=q then 1 else 0)+(if f.2.2=p/\f.1=q then 1 else 0)
def cnt:List P3->Int->Int->Int
 | [],_,_=>0
 | f::l,p,q=>tri f p q+cnt l p q
theorem aR6 (f:P3)(p q:Int):0<=tri f p q/\tri f p q<=3:=by unfold tri;split<;>split<;>split<;>omega
theorem aR7 (a b c d:Int):(if a=b/\c=d then(1:Int) else 0)=bif (a == b)&&(c == d) then 1 else 0:=by
 rcases Decidable.em (a=b) with h1 | h1<;>rcases Decidable.em (c=d) with h2 | h2
 · rw [if_pos ⟨h1,h2⟩,beq_iff_eq.2 h1,beq_iff_eq.2 h2];rfl
 · rw [if_neg (fun h=>h2 h.2),beq_eq_false_iff_ne.2 h2,Bool.and_false];rfl
 · rw [if_neg (fun h=>h1 h.1),beq_eq_false_iff_ne.2 h1];rfl
 · rw [if_neg (fun h=>h1 h.1),beq_eq_false_iff_ne.2 h1];rfl
theorem bCy (m:ME)(h:m.2.length<=96)(p q:Int):F82 m p q=cnt m.2 p q:=by
 unfold F82
 rw [aZ (fun v i=>(v,i)) (fun v c=>.inl (v+tri c p q)) (fun v=>v) (L:=m.2) (fun i v=>0<=v/\v<=3*(i:Int)) ?_ ?_ ?_ (by omega) ⟨by omega,by omega⟩]
 · have key:∀(l:List P3) (v:Int),l.foldl (fun v c=>v+tri c p q) v=v+cnt l p q:=by
     intro l
     induction l with
     | nil=>intro v;simp [cnt]
     | cons c l ih=>intro v;rw [List.foldl_cons,ih];simp only [cnt];omega
   rw [bI,key];simp [aCk]
 · intro i c hc v hv
   obtain⟨hlt,hce⟩:=List.getElem?_eq_some_iff.1 hc
   have w1:W (v+1)=v+1:=aE (by omega) (by omega)
   have w2:W (v+1+1)=v+1+1:=aE (by omega) (by omega)
   have w3:W (v+1+1+1)=v+1+1+1:=aE (by omega) (by omega)
   simp only [bB]
   rw [bT (by omega),cond_true,bA hc]
   unfold tri
   rw [aR7,aR7,aR7]
   generalize (c.1 == p)=b1,(c.2.1 == q)=b2,(c.2.1 == p)=b3,(c.2.2 == q)=b4,(c.2.2 == p)=b5,(c.1 == q)=b6
   have fin:∀{a b:Int},a=b->(Sum.inl (a,(i:Int)+1):(Int×Int)⊕Int)=Sum.inl (b,((i+1:Nat):Int)):=fun h=>by rw [h];rfl
   cases b1<;>cases b2<;>cases b3<;>cases b4<;>cases b5<;>cases b6<;>simp only [Bool.and_true,Bool.and_false,Bool.and_self,cond_true,cond_false,w1,w2,w3]<;>exact fin (by omega)
 · intro i c hc v v' hv e
   have:=aR6 c p q
   obtain rfl:=Sum.inl.inj e
   omega
 · intro v _
   simp only [bB]
   rw [cJ (by omega),cond_false]
def tT (v:List ((Int×Int)×Int))(s:Int×Int):List ((Int×Int)×Int):=cK v s (W (aV v s 0+1))
def aOy (v:List ((Int×Int)×Int))(f:P3):List ((Int×Int)×Int):=tT (tT (tT v (bS f).1) (bS f).2.1) (bS f).2.2
theorem aGm {v:List ((Int×Int)×Int)} {s:Int×Int} (t:Int×Int)(h:0<=aV v s 0/\aV v s 0<=1000):aV (tT v s) t 0=aV v t 0+(if s=t then 1 else 0):=by
 unfold tT
 rw [aCn,aE (by omega) (by omega)]
 by_cases e:s=t
 · subst e;rw [if_pos rfl,if_pos rfl]
 · rw [if_neg e,if_neg e];omega
theorem aR8 {v:List ((Int×Int)×Int)} {B:Int} (hB:∀t,0<=aV v t 0/\aV v t 0<=B)(hb:B<=900)(f:P3)(t:Int×Int):aV (aOy v f) t 0=aV v t 0+tri f t.1 t.2:=by
 have g1:∀t,aV (tT v (bS f).1) t 0=aV v t 0+(if(bS f).1=t then 1 else 0):=fun t=>aGm t (by have:=hB (bS f).1;omega)
 have b1:∀t,0<=aV (tT v (bS f).1) t 0/\aV (tT v (bS f).1) t 0<=B+1:=fun t=>by rw [g1];have:=hB t;split<;>omega
 have g2:∀t,aV (tT (tT v (bS f).1) (bS f).2.1) t 0=aV (tT v (bS f).1) t 0+(if(bS f).2.1=t then 1 else 0):=fun t=>aGm t (by have:=b1 (bS f).2.1;omega)
 have b2:∀t,0<=aV (tT (tT v (bS f).1) (bS f).2.1) t 0/\aV (tT (tT v (bS f).1) (bS f).2.1) t 0<=B+2:=fun t=>by rw [g2];have:=b1 t;split<;>omega
 unfold aOy
 rw [aGm t (by have:=b2 (bS f).2.2;omega),g2,g1]
 unfold tri bS
 simp only [Prod.ext_iff]
 omega
theorem aNg:∀(l:List P3)(v:List ((Int×Int)×Int))(B:Int),(∀t,0<=aV v t 0/\aV v t 0<=B)->B+3*l.length<=900->∀t:Int×Int,aV (l.foldl aOy v) t 0=aV v t 0+cnt l t.1 t.2
 | [],v,B,_,_,t=>by simp [cnt]
 | f::l,v,B,hB,hb,t=>by
   simp only [List.length_cons] at hb
   have g:=aR8 hB (by omega) f
   rw [List.foldl_cons,aNg l (aOy v f) (B+3) (fun t=>by rw [g];have:=hB t;have:=aR6 f t.1 t.2;omega) (by omega) t,g]
   simp only [cnt];omega
theorem bCz (m:ME):zG m=m.2.foldl aOy []:=by
 unfold zG
 rw [aZ (fun v i=>(v,i)) (fun v c=>.inl (aOy v c)) (fun v=>v) (L:=m.2) (fun _ _=>True) ?_ (fun _ _ _ _ _ _ _=>trivial) ?_ (by omega) trivial]
 · rw [bI];rfl
 · intro i c hc v _
   obtain⟨hlt,hce⟩:=List.getElem?_eq_some_iff.1 hc
   simp only [zF]
   rw [bT (by omega),cond_true,bA hc]
   rfl
 · intro v _
   simp only [zF]
   rw [cJ (by omega),cond_false]
theorem bFx (m:ME)(h:m.2.length<=96)(t:Int×Int):aV (zG m) t 0=cnt m.2 t.1 t.2:=by
 rw [bCz,aNg m.2 [] 0 (fun t=>by rw [aCo];omega) (by omega) t,aCo];omega
theorem bC0 (x y:Int):W (x+W (-1*y))=W (x - y):=by
 rw [aMy (-1*y)]
 split<;>rw [aMy,aMy]<;>split<;>split<;>omega
theorem aR9 (a b:P3):aBv a b=aT a b:=by
 unfold aBv F39 aT
 simp only [bC0]
theorem aZb (p:PN):nV p=lK p:=by
 unfold nV lK
 rw [aR9,aR9];rfl
theorem bC1 (m:ME):F73 m=m.2.foldl (fun v c=>W (v+aD2 (eO m c))) 0:=by
 unfold F73
 rw [aZ (fun v i=>(v,i)) (fun v c=>.inl (W (v+aD2 c))) (fun v=>v) (L:=gD m) (fun _ _=>True) ?_ (fun _ _ _ _ _ _ _=>trivial) ?_ (by show _ < toNat ((((gD m).length:Nat):Int) - 0)+1;omega) trivial]
 · rw [bI,aGk,List.foldl_map];rfl
 · intro i c hc v _
   obtain⟨hlt,hce⟩:=List.getElem?_eq_some_iff.1 hc
   simp only [zH]
   rw [bT (show((i:Nat):Int) < (((gD (m.1,m.2)).length:Nat):Int) from by show((i:Nat):Int) < (((gD m).length:Nat):Int);omega),cond_true,show(gD (m.1,m.2)).getD (toNat (i:Int)) default=c from bA hc]
   rfl
 · intro v _
   simp only [zH]
   rw [cJ (show ¬(((gD m).length:Nat):Int) < (((gD (m.1,m.2)).length:Nat):Int) from by show ¬(((gD m).length:Nat):Int) < (((gD m).length:Nat):Int);omega),cond_false]
theorem bC2 (m:ME):F83 m=m.2.foldl (fun v c=>W (v+aD2 (eO m c))) 0:=by
 unfold F83
 rw [aZ (fun v i=>(v,i)) (fun v c=>.inl (W (v+aD2 (eO m c)))) (fun v=>v) (L:=m.2) (fun _ _=>True) ?_ (fun _ _ _ _ _ _ _=>trivial) ?_ (by omega) trivial]
 · rw [bI];rfl
 · intro i c hc v _
   obtain⟨hlt,hce⟩:=List.getElem?_eq_some_iff.1 hc
   simp only [zI]
   have hp:xO (m.1,m.2) (i:Int)=eO m c:=by
     unfold xO
     simp only [bA hc];rfl
   rw [bT (by omega),cond_true,hp]
   rfl
 · intro v _
   simp only [zI]
   rw [cJ (by omega),cond_false]
theorem aZc (m:ME):F73 m=F83 m:=by rw [bC1,bC2]
theorem aZd (m:ME):∀(n:Nat)(v:List Bool)(i:Int),0<=i->aB (kJ m) n (v,(v.length:Int),i)=aB (kL m) n (v,i):=by
 intro n
 induction n with
 | zero=>intro v i _;rfl
 | succ n ih =>
   intro v i hi
   by_cases h:i < (v.length:Int)
   · cases hb:v.getD (toNat i) default with
     | true =>
       have e1:kJ m (v,(v.length:Int),i)=.inl (v,(v.length:Int),i+1):=by
         simp only [kJ];rw [bT h,cond_true,hb];rfl
       have e2:kL m (v,i)=.inl (v,i+1):=by
         simp only [kL];rw [bT h,cond_true,hb];rfl
       rw [aA e1,aA e2];exact ih v (i+1) (by omega)
     | false =>
       have e1:kJ m (v,(v.length:Int),i)=.inr 5:=by
         simp only [kJ];rw [bT h,cond_true,hb];rfl
       have e2:kL m (v,i)=.inr 5:=by
         simp only [kL];rw [bT h,cond_true,hb];rfl
       rw [aO e1,aO e2]
   · have e1:kJ m (v,(v.length:Int),i)=.inr (bif decide (F83 m<=0) then 8 else 0):=by
       simp only [kJ];rw [cJ h,cond_false,show F73 (m.1,m.2)=F83 m from aZc m]
       cases decide (F83 m<=0)<;>rfl
     have e2:kL m (v,i)=.inr (bif decide (F83 m<=0) then 8 else 0):=by
       simp only [kL];rw [cJ h,cond_false,show F83 (m.1,m.2)=F83 m from rfl]
       cases decide (F83 m<=0)<;>rfl
     rw [aO e1,aO e2]
theorem aZe (m:ME)(h:m.2.length<=96)(n:Nat)(v:List Bool):aB (gW m) n (v,0)=aB (iQ m) n (v,0):=by
 refine aI3 (fun s=>0<=s.2) (fun s hs=>?_) (fun s s' hs e=>?_) n (v,0) (Int.le_refl 0)
 · obtain⟨v,i⟩:=s
   simp only at hs
   simp only [gW,iQ]
   rw [aZd m _ v 0 (Int.le_refl 0)]
   have hc:∀t,aV (zG (m.1,m.2)) t 0=cnt m.2 t.1 t.2:=bFx m h
   have he:∀p q,F82 (m.1,m.2) p q=cnt m.2 p q:=bCy m h
   simp only [hc,he,bS,F72]
 · obtain⟨v,i⟩:=s
   simp only [gW] at e
   by_cases hlt:i < (m.2.length:Int)
   · rw [bT hlt,cond_true] at e
     simp only at hs
     have step:∀(b:Bool) (x y:(List Bool×Int)⊕Int),(bif b then x else y)=.inl s'->(∀r,x≠.inl r)->y=.inl s':=fun b x y h hx=>by
       cases b
       · exact h
       · exact absurd h (hx s')
     have e:=step _ _ _ e (fun r h=>by cases h)
     have e:=step _ _ _ e (fun r h=>by cases h)
     have e:=step _ _ _ e (fun r h=>by cases h)
     have e:=step _ _ _ e (fun r h=>by cases h)
     have e:=step _ _ _ e (fun r h=>by cases h)
     have e:=step _ _ _ e (fun r h=>by cases h)
     obtain rfl:=Sum.inl.inj e
     show 0<=i+1
     omega
   · rw [cJ hlt,cond_false] at e;cases e
theorem aVh {n:Nat} (x:Int)(h:n<=64):(!qI x 0 (W (((n:Nat):Int) - 1)))=(decide (x < 0) || decide (x≥((n:Nat):Int))):=by
 rw [aE (by omega) (by omega)]
 unfold qI
 by_cases h1:x < 0
 · rw [bT h1,cJ (by omega)];rfl
 · rw [cJ h1,bT (by omega),cond_true]
   by_cases h2:x≥((n:Nat):Int)
   · rw [bT h2,cJ (by omega)];rfl
   · rw [cJ h2,bT (by omega)];rfl
theorem aZf (m:ME)(h64:m.1.length<=64)(h:m.2.length<=96)(n:Nat)(v:List Bool):aB (kK m) n (v,0)=aB (fN m) n (v,0):=by
 have main:∀s:List Bool×Int,0<=s.2->kK m s=fN m s/\∀s',kK m s=.inl s'->0<=s'.2:=by
   rintro ⟨v,i⟩ hs
   simp only at hs
   simp only [kK,fN]
   rw [aZe m h _ v]
   have hp:xO (m.1,m.2) i=eO (m.1,m.2) (m.2.getD (toNat i) default):=rfl
   rw [hp]
   unfold F69
   simp only [aVh _ h64,aZb]
   generalize m.2.getD (toNat i) default=c
   generalize lK (eO (m.1,m.2) c)=q
   generalize ((q.1 == 0)&&((q.2.1 == 0)&&((q.2.2 == 0)&&true)))=b7
   generalize decide (c.1 < 0)=b1,decide (c.1≥(m.1.length:Int))=b2,decide (c.2.1 < 0)=b3,decide (c.2.1≥(m.1.length:Int))=b4,decide (c.2.2 < 0)=b5,decide (c.2.2≥(m.1.length:Int))=b6,decide (i < (m.2.length:Int))=b0
   cases b0
   case false=>exact⟨rfl,fun s' e=>by cases e⟩
   cases b1
   case true=>exact⟨rfl,fun s' e=>by cases e⟩
   cases b2
   case true=>exact⟨rfl,fun s' e=>by cases e⟩
   cases b3
   case true=>exact⟨rfl,fun s' e=>by cases e⟩
   cases b4
   case true=>exact⟨rfl,fun s' e=>by cases e⟩
   cases b5
   case true=>exact⟨rfl,fun s' e=>by cases e⟩
   cases b6
   case true=>exact⟨rfl,fun s' e=>by cases e⟩
   cases b7
   case true=>exact⟨rfl,fun s' e=>by cases e⟩
   exact⟨rfl,fun s' e=>by obtain rfl:=Sum.inl.inj e;show 0<=i+1;omega⟩
 exact aI3 (fun s=>0<=s.2) (fun s hs=>(main s hs).1) (fun s s' hs e=>(main s hs).2 s' e) n (v,0) (Int.le_refl 0)
theorem aZg (a b:P3):(((a.1:Int) == b.1)&&(((a.2.1:Int) == b.2.1)&&(((a.2.2:Int) == b.2.2)&&true)))=decide (a=b):=by
 rw [Bool.eq_iff_iff]
 simp only [Bool.and_eq_true,beq_iff_eq,and_true,decide_eq_true_eq,Prod.ext_iff]
theorem bC3 (m:ME)(i:Nat):∀(n k:Nat),i - k < n->(∃j,k<=j/\j < i/\m.1.getD j default=m.1.getD i default)->aB (kX m) n ((i:Int),(k:Int))=.inr 1:=by
 intro n
 induction n with
 | zero=>intro k hk;omega
 | succ n ih =>
   intro k hk ⟨j,h1,h2,h3⟩
   by_cases e:m.1.getD i default=m.1.getD k default
   · refine aO ?_
     simp only [kX]
     rw [bT (by omega),cond_true,uM,uM,aZg,bT e];rfl
   · have h:kX m ((i:Int),(k:Int))=.inl ((i:Int),((k+1:Nat):Int)):=by
       simp only [kX]
       rw [bT (by omega),cond_true,uM,uM,aZg,cJ e];rfl
     rw [aA h]
     have:j≠k:=fun x=>e (x▸h3.symm)
     exact ih (k+1) (by omega) ⟨j,by omega,h2,h3⟩
theorem bC4 (m:ME)(i:Nat):∀(n k:Nat),k<=i->i - k < n->(∀j,k<=j->j < i->m.1.getD j default≠m.1.getD i default)->aB (kX m) n ((i:Int),(k:Int))=.inl ((i:Int)+1):=by
 intro n
 induction n with
 | zero=>intro k _ hk;omega
 | succ n ih =>
   intro k hki hk hj
   by_cases hlt:k < i
   · have h:kX m ((i:Int),(k:Int))=.inl ((i:Int),((k+1:Nat):Int)):=by
       simp only [kX]
       rw [bT (by omega),cond_true,uM,uM,aZg,cJ (fun e=>hj k (Nat.le_refl k) hlt e.symm)];rfl
     rw [aA h]
     exact ih (k+1) (by omega) (by omega) (fun j h1 h2=>hj j (by omega) h2)
   · refine aO ?_
     simp only [kX]
     rw [cJ (by omega),cond_false]
open Classical in
theorem aLh (p:P3):F36 p 64=F79 p 64:=by rw [lZ,rI]
theorem aZh (m:ME):∀(n i:Nat)(v:List (P3×Bool)),i<=m.1.length->m.1.length - i < n->(∀q,aV v q false=true↔∃j,j < i/\m.1.getD j default=q) ->
   aB (jB m) n (i:Int)=bif (aB (eP m) n (v,(i:Int)) != 0) then aB (eP m) n (v,(i:Int)) else aB (fN m) (toNat ((m.2.length:Int) - 0)+1) ((List.replicate (toNat (m.1.length:Int)) false),0):=by
 intro n
 induction n with
 | zero=>intro i v _ h;omega
 | succ n ih =>
   intro i v hi hn hv
   by_cases hlt:i < m.1.length
   · have hw:((i:Nat):Int) < (m.1.length:Int):=by omega
     cases hr:F36 (m.1.getD i default) 64 with
     | false =>
       have e1:eP m (v,(i:Int))=.inr 1:=by
         simp only [eP];rw [bT hw,cond_true,uM,hr];rfl
       have e2:jB m (i:Int)=.inr 1:=by
         simp only [jB];rw [bT hw,cond_true,uM,←aLh,hr];rfl
       rw [aO e1,aO e2];rfl
     | true =>
       cases hg:aV v (m.1.getD i default) false with
       | true =>
         have e1:eP m (v,(i:Int))=.inr 1:=by
           simp only [eP];rw [bT hw,cond_true,uM,hr,hg];rfl
         obtain⟨j,h1,h2⟩:=(hv _).1 hg
         have e2:jB m (i:Int)=.inr 1:=by
           simp only [jB];rw [bT hw,cond_true,uM,←aLh,hr]
           exact bC3 m i _ 0 (by omega) ⟨j,by omega,h1,h2⟩
         rw [aO e1,aO e2];rfl
       | false =>
         have e1:eP m (v,(i:Int))=.inl (cK v (m.1.getD i default) true,((i+1:Nat):Int)):=by
           simp only [eP];rw [bT hw,cond_true,uM,hr,hg];rfl
         have e2:jB m (i:Int)=.inl ((i+1:Nat):Int):=by
           simp only [jB];rw [bT hw,cond_true,uM,←aLh,hr]
           exact bC4 m i _ 0 (by omega) (by omega) (fun j _ h2 h3=>by
             have:=(hv _).2 ⟨j,h2,h3⟩
             rw [hg] at this;cases this)
         rw [aA e1,aA e2]
         refine ih (i+1) _ (by omega) (by omega) (fun q=>?_)
         rw [aCn]
         by_cases e:m.1.getD i default=q
         · rw [if_pos e];exact⟨fun _=>⟨i,by omega,e⟩,fun _=>rfl⟩
         · rw [if_neg e,hv]
           constructor
           · rintro ⟨j,h1,h2⟩;exact⟨j,by omega,h2⟩
           · rintro ⟨j,h1,h2⟩
             refine⟨j,?_,h2⟩
             rcases Nat.lt_or_ge j i with h | h
             · exact h
             · have:j=i:=by omega
               exact absurd (this▸h2) e
   · have hw:¬((i:Nat):Int) < (m.1.length:Int):=by omega
     have e1:eP m (v,(i:Int))=.inr 0:=by
       simp only [eP];rw [cJ hw,cond_false]
     have e2:jB m (i:Int)=.inr (aB (fN m) (toNat ((m.2.length:Int) - 0)+1) ((List.replicate (toNat (m.1.length:Int)) false),0)):=by
       simp only [jB];rw [cJ hw,cond_false]
     rw [aO e1,aO e2];rfl
theorem aGn (m:ME):fB m=vU m:=by
 unfold fB vU
 by_cases h1:(m.1.length:Int) > 64
 · rw [bT h1];rfl
 · rw [cJ h1,cond_false,cond_false,show F78 (m.2.length:Int) 1 96=qI (m.2.length:Int) 1 96 from rfl]
   cases h2:(!qI (m.2.length:Int) 1 96) with
   | true=>rfl
   | false =>
     rw [cond_false,cond_false]
     have g:=iL h2
     rw [aZf m (by omega) (by omega)]
     have hp:=aZh m (toNat ((m.1.length:Int) - 0)+1) 0 [] (by omega) (by omega) (fun q=>by
       rw [aCo]
       constructor
       · intro h;cases h
       · rintro ⟨j,h,_⟩;omega)
     exact hp.symm
end Go.Proofs.YtaeagjnpobdglaaGreat
