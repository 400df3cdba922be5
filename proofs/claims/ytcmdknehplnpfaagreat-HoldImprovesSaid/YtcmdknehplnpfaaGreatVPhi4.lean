/-
  Parts of the proofs of the laws: the executor, what functions of the program compute, and that it is what the statements ask. No premise.
-/
import Derived.Test.YtcmdknehplnpfaaGreatVPhi3
import Derived.ProofKit
import Derived.OpenShut
import Derived.Deep.Slices
import Derived.RowKit
set_option linter.unusedVariables false
set_option linter.unusedSimpArgs false
set_option maxHeartbeats 4000000
open Int renaming toNat → tN
open Inhabited renaming default → dF
namespace Go.Proofs.YtcmdknehplnpfaaGreat
open Go.Proofs Go.Aw Go.RowKit
set_option maxRecDepth 100000
open Go.ChangeShapes Go.WideShapes Go.ChangeAt
def aGg (P:Program)(ok:TypeId->Bool)(n:Nat):List Field->Nat->Bool
 | [],o=>o == n
 | f::l,o=>f.offset == o&&ok f.type&&aGg P ok n l (o+P.cellsOf f.type)
def wQ (P:Program):Nat->TypeId->Bool
 | 0,_=>false
 | k+1,t=>match P.underlying t with
  | some (.int .i64)=>true
  | some (.struct fs)=>aGg P (wQ P k) (P.cellsOf t) fs.toList 0
  | some (.array n e)=>wQ P k e&&P.cellsOf t == n*P.cellsOf e
  | _=>false
section
variable {H : Type} {enc : TypeId × Value → H} {P : Program} {w : World} {base : Nat} {spare : Nat → Bool} {held : Bool}
theorem aCp {ok:TypeId->Bool} {n fuel:Nat} {cs:List Value}
 (hok:∀t cs x,ok t=true->DataW.trod enc P w base spare held fuel t cs=some x->x.2=[]/\∃ns:List Int,cs=ns.map (Value.int .i64)) (hn:cs.length=n) :
 ∀(l:List Field) (o:Nat) (ys:List (DataW H×List MemPlace)),aGg P ok n l o=true->ys.length=l.length ->
   (∀(j:Nat) (f:Field),l[j]? = some f->DataW.trod enc P w base spare held fuel f.type ((cs.drop f.offset).take (P.cellsOf f.type))=ys[j]?) ->
   (∀y∈ys,y.2=[])/\∃ns:List Int,cs.drop o=ns.map (Value.int .i64)
 | [],o,ys,hc,hl,_=>by
  have:ys=[]:=List.length_eq_zero_iff.1 hl
  subst this
  simp only [aGg,beq_iff_eq] at hc
  exact⟨fun y hy=>by simp at hy,[],by rw [hc,←hn,List.drop_length];rfl⟩
 | f::l,o,ys,hc,hl,hf=>by
  cases ys with
  | nil=>simp at hl
  | cons y ys =>
   simp only [aGg,Bool.and_eq_true,beq_iff_eq] at hc
   obtain⟨⟨h1,h2⟩,h3⟩:=hc
   have g0:=hf 0 f rfl
   rw [h1] at g0
   obtain⟨e1,n1,e2⟩:=hok f.type _ y h2 g0
   obtain⟨e3,n2,e4⟩:=aCp hok hn l _ ys h3 (by simpa using hl) (fun j g hg=>hf (j+1) g hg)
   refine⟨fun z hz=>?_,n1++n2,?_⟩
   ·rcases List.mem_cons.1 hz with rfl | hz
    ·exact e1
    ·exact e3 z hz
   ·rw [List.map_append,←e2,←e4,←List.drop_drop,List.take_append_drop]
theorem vF:∀(k:Nat) (t:TypeId) (fuel:Nat) (cs:List Value) (x:DataW H×List MemPlace),wQ P k t=true->DataW.trod enc P w base spare held fuel t cs=some x ->
 x.2=[]/\∃ns:List Int,cs=ns.map (Value.int .i64)
 | 0,_,_,_,_,h,_=>by simp [wQ] at h
 | k+1,t,fuel,cs,x,h,hx=>by
  unfold wQ at h
  split at h
  ·rename_i ht
   obtain⟨n,rfl,rfl,_⟩:=DataW.trod_int ht hx
   exact⟨rfl,[n],rfl⟩
  ·rename_i fs ht
   obtain⟨xs,m,rfl,rfl,hl,hlen,hf⟩:=DataW.trod_struct ht hx
   obtain⟨e1,ns,e2⟩:=aCp (fun t cs x h hx=>vF k t m cs x h hx) hl fs.toList 0 xs h (by simpa using hlen) (fun j f hj=>hf j f (by simpa using hj))
   refine⟨?_,ns,by simpa using e2⟩
   simp only
   induction xs with
   | nil=>rfl
   | cons y l _=>rw [List.flatMap_eq_nil_iff];exact e1
  ·rename_i n e ht
   simp only [Bool.and_eq_true,beq_iff_eq] at h
   obtain⟨xs,m,rfl,rfl,hl,hlen,hf⟩:=DataW.trod_array ht hx
   have hi:∀i,i < n->∃y,xs[i]? = some y/\y.2=[]/\∃ns:List Int,(cs.drop (i*P.cellsOf e)).take (P.cellsOf e)=ns.map (Value.int .i64):=fun i hi=>by
    have h1:=hf i hi
    have hil:i < xs.length:=by rw [hlen];exact hi
    rw [List.getElem?_eq_getElem hil] at h1
    obtain⟨e1,e2⟩:=vF k e m _ _ h.1 h1
    exact⟨_,List.getElem?_eq_getElem hil,e1,e2⟩
   refine⟨?_,?_⟩
   ·simp only
    rw [List.flatMap_eq_nil_iff]
    intro y hy
    obtain⟨i,hy⟩:=List.getElem?_of_mem hy
    have hil:=(List.getElem?_eq_some_iff.1 hy).1
    obtain⟨y',h1,h2,_⟩:=hi i (by rw [←hlen];exact hil)
    rw [h1] at hy
    exact Option.some.inj hy▸h2
   ·have key:∀j,j<=n->∃ns:List Int,cs.drop ((n - j)*P.cellsOf e)=ns.map (Value.int .i64):=by
     intro j
     induction j with
     | zero=>intro _;exact⟨[],by rw [Nat.sub_zero,←h.2,←hl,List.drop_length];rfl⟩
     | succ j ih =>
      intro hj
      obtain⟨n2,h2⟩:=ih (by omega)
      obtain⟨_,_,_,n1,h1⟩:=hi (n - (j+1)) (by omega)
      refine⟨n1++n2,?_⟩
      rw [List.map_append,←h1,←h2,show(n - j)*P.cellsOf e=(n - (j+1))*P.cellsOf e+P.cellsOf e by rw [show n - j=(n - (j+1))+1 by omega,Nat.add_mul,Nat.one_mul],←List.drop_drop,List.take_append_drop]
    obtain⟨ns,hns⟩:=key n (Nat.le_refl _)
    exact⟨ns,by simpa using hns⟩
  ·cases h
end
theorem aJo {ρ:Env}:∀ns:List Int,Rels ρ (ns.map iv) (ns.map (Value.int .i64))
 | []=>trivial
 | n::l=>⟨rfl,aJo l⟩
theorem aHn {H:Type} {enc:TypeId×Value->H} {P:Program} {f:Func} {s:ChangeSpec} {apart fresh handsOn:Bool} {W W':World} {args:Array Value} {v:Value} {ds gs:List (DataW H)} {before:List MemPlace}
 (hW:DataW.Whole enc P f.params.toList s.vars apart W args.toList ds gs before) (hb:Below W.heap.size W W')
 (hres:∀(b:Nat) (sp:Nat->Bool) (hd:Bool),DataW.TrodAll enc P W' b sp hd f.resultTypes.toList (v.resultList f.resultTypes.size) (s.fn H (ds++gs)).results [])
 (hargs:DataW.TrodAll enc P W' 0 (fun b=>decide (b < W.heap.size)) true f.params.toList args.toList (s.fn H (ds++gs)).args before)
 (hvars:DataW.TrodVars enc P W' (fun b=>decide (b < W.heap.size)) s.vars (s.fn H (ds++gs)).vars []) :
 s.post enc P f apart fresh handsOn false W args v W' :=
 ⟨ds,gs,before,[],before,[],hW,hres _ _ _,hargs,hvars,hb.frame _,fun h=>by cases h⟩
theorem aHo {H:Type} {enc:TypeId×Value->H} {P:Program} {w:World} {base:Nat} {spare:Nat->Bool} {held:Bool} {t:TypeId} {ts:List TypeId} {v:Value} {vs:List Value} {d:DataW H} {ds:List (DataW H)} {p p':List MemPlace}
 (h:DataW.Trod enc P w base spare held t v d p) (h':DataW.TrodAll enc P w base spare held ts vs ds p'):DataW.TrodAll enc P w base spare held (t::ts) (v::vs) (d::ds) (p++p'):=⟨p,p',h,h',rfl⟩
theorem own:ownKnob Tryz.prog.godebug=none:=by kernel_rfl
theorem aJp:laidOutB Tryz.prog=true:=by kernel_rfl
end Go.Proofs.YtcmdknehplnpfaaGreat
namespace Go.Proofs.YtcmdknehplnpfaaGreat
open Go.Proofs Go.Aw Go.RowKit
set_option maxRecDepth 100000
def sc (d:Int):Int:=if d=0 then 1 else if d=1 then 2 else if d=2 then 4 else 8
theorem d4 {d:Int} (h:0<=d/\d<=3):d=0\/d=1\/d=2\/d=3:=by omega
theorem aT1 {d:Int} (h:0<=d/\d<=3):W (1*2 ^ (min (tN d) 64))=sc d:=by
 rcases d4 h with rfl | rfl | rfl | rfl<;>kernel_rfl
theorem aV7 {d:Int} (h:0<=d/\d<=3):W (1*2 ^ (min (tN (IntKind.wrap .u64 d)) 64))=sc d:=by
 rcases d4 h with rfl | rfl | rfl | rfl<;>kernel_rfl
theorem aV8 {d:Int} (h:0<=d/\d<=3):W (1*2 ^ (min (tN (W (2*d))) 64))=sc d*sc d:=by
 rcases d4 h with rfl | rfl | rfl | rfl<;>kernel_rfl
theorem pT {d:Int} (h:0<=d/\d<=3)(p:PN):(((bI d.toNat p).length:Nat):Int)=sc d*sc d:=by
 rw [aGf];rcases d4 h with rfl | rfl | rfl | rfl<;>kernel_rfl
theorem tJ (d:Int):sc d=1\/sc d=2\/sc d=4\/sc d=8:=by unfold sc;(repeat' split)<;>simp
theorem aNa (d:Int):1<=sc d/\sc d<=8:=by have:=tJ d;omega
def tm (s:Int)(p:P3):P3:=(s*p.1,s*p.2.1,s*p.2.2)
theorem aJq {s m:Int} {p:P3} (hs:1<=s/\s<=8)(hm:0<=m)(hp:bd m p):bd (8*m) (tm s p):=by
 have h1:=bR (a:=8) (b:=m) (x:=s) (y:=p.1) (by omega) hp.1
 have h2:=bR (a:=8) (b:=m) (x:=s) (y:=p.2.1) (by omega) hp.2.1
 have h3:=bR (a:=8) (b:=m) (x:=s) (y:=p.2.2) (by omega) hp.2.2
 exact⟨h1,h2,h3⟩
theorem aV9 {s:Int} {p:P3} (hs:1<=s/\s<=8)(hp:bd 4096 p):((W (s*p.1)),(W (s*p.2.1)),(W (s*p.2.2)))=tm s p:=by
 have h:=aJq hs (by omega) hp
 have h1:=h.1;have h2:=h.2.1;have h3:=h.2.2
 simp only [tm] at h1 h2 h3
 unfold tm
 rw [aF (n:=s*p.1) (by omega) (by omega),aF (n:=s*p.2.1) (by omega) (by omega),aF (n:=s*p.2.2) (by omega) (by omega)]
theorem aK4 {s:Int} {p:P3} (hs:1<=s/\s<=8)(hp:bd 4096 p):qJ p s=tm s p:=aV9 hs hp
theorem aT2 {s:Int} {p:P3} (hs:1<=s/\s<=8)(hp:bd 4096 p):aE p s=tm s p:=aV9 hs hp
theorem aCq {a b:Int} (h1:-1099511627776<=a)(h2:a<=b)(h3:b<=1099511627776):oT a b=((a,b),0):=by
 unfold oT F92
 rw [cA (show(a,b).1≥-1099511627776 from h1),cA (show(a,b).1<=(a,b).2 from h2),cA (show(a,b).2<=1099511627776 from h3)];rfl
theorem aNb {a b:Int} (h1:-1099511627776<=a)(h2:a<=b)(h3:b<=1099511627776):tA a b=((a,b),0):=by
 unfold tA oU
 rw [cA (show(a,b).1≥-1099511627776 from h1),cA (show(a,b).1<=(a,b).2 from h2),cA (show(a,b).2<=1099511627776 from h3)];rfl
theorem aWa {n:Int} (h0:0<=n)(h:n < 4611686018427387904):hO n=gW n:=(aMw h0 h).eq (uZ h0 h)
noncomputable def inv (N n:Int):Int×Int :=
 (gW (N / n),if gW (N / n)*gW (N / n)*n=N then gW (N / n) else gW (N / n)+1)
theorem lR {N n:Int} (hN:0<=N)(hn:1<=n):0<=N / n/\N / n<=N/\(N / n)*n<=N:=by
 have h1:0<=N / n:=Int.ediv_nonneg hN (by omega)
 have h2:(N / n)*n<=N:=Int.ediv_mul_le N (by omega)
 have h3:(N / n)*1<=(N / n)*n:=Int.mul_le_mul_of_nonneg_left hn h1
 omega
theorem pU {N n:Int} (hN:0<=N/\N<=288230376151711744)(hn:1<=n) :
 ∃k,gW (N / n)=k/\IsRt (N / n) k/\0<=k/\k<=536870912/\0<=k*k/\k*k<=N / n/\0<=k*k*n/\k*k*n<=N:=by
 obtain⟨h1,h2,h3⟩:=lR hN.1 hn
 have h:=uZ (n:=N / n) h1 (by omega)
 have h4:=h.le (m:=536870912) (by omega) (by omega)
 have h5:0<=gW (N / n)*gW (N / n):=Int.mul_nonneg h.1 h.1
 exact⟨_,rfl,h,h.1,h4,h5,h.2.1,Int.mul_nonneg h5 (by omega),Int.le_trans (Int.mul_le_mul_of_nonneg_right h.2.1 (by omega)) h3⟩
theorem aWb {N n:Int} (hN:0<=N/\N<=288230376151711744)(hn:1<=n):aBv N n=(inv N n,0):=by
 obtain⟨k,hk,_,k0,k1,k2,k3,k4,k5⟩:=pU hN hn
 obtain⟨h1,h2,h3⟩:=lR hN.1 hn
 unfold aBv inv
 rw [Int.tdiv_eq_ediv_of_nonneg hN.1,aF (n:=N / n) (by omega) (by omega),hk,aF (n:=k*k) (by omega) (by omega),aF (n:=k*k*n) (by omega) (by omega),aF (n:=k+1) (by omega) (by omega),
  aCq (by omega) (Int.le_refl k) (by omega),aCq (by omega) (by omega) (by omega)]
 by_cases h:k*k*n=N
 ·rw [if_pos h,beq_iff_eq.2 h];rfl
 ·rw [if_neg h,beq_eq_false_iff_ne.2 h];rfl
theorem aWc {N n:Int} (hN:0<=N/\N<=288230376151711744)(hn:1<=n):xF N n=(inv N n,0):=by
 obtain⟨k,hk,_,k0,k1,k2,k3,k4,k5⟩:=pU hN hn
 obtain⟨h1,h2,h3⟩:=lR hN.1 hn
 unfold xF inv
 rw [Int.tdiv_eq_ediv_of_nonneg hN.1,aF (n:=N / n) (by omega) (by omega),aWa h1 (by omega),hk,aF (n:=k*k) (by omega) (by omega),aF (n:=k+1) (by omega) (by omega),
  aNb (by omega) (Int.le_refl k) (by omega),aNb (by omega) (by omega) (by omega),Int.tmod_eq_emod_of_nonneg hN.1]
 have hdm:n*(N / n)+N % n=N:=Int.mul_ediv_add_emod N n
 by_cases h0:N % n=0
 ·rw [beq_iff_eq.2 h0,cond_true]
  by_cases h:k*k=N / n
  ·rw [beq_iff_eq.2 h,cond_true,if_pos (by rw [h,Int.mul_comm];omega)]
  ·rw [beq_eq_false_iff_ne.2 h,cond_false,if_neg]
   intro h'
   rw [h0,Int.add_zero,Int.mul_comm] at hdm
   exact h (Int.eq_of_mul_eq_mul_right (by omega) (h'.trans hdm.symm))
 ·rw [beq_eq_false_iff_ne.2 h0,cond_false,if_neg]
  intro h'
  rw [←h'] at h0
  exact h0 (Int.mul_emod_left _ _)
theorem aT3 {N n:Int} (hN:0<=N/\N<=288230376151711744)(hn:1<=n):0<=(inv N n).1/\(inv N n).1<=(inv N n).2/\(inv N n).2<=536870913:=by
 obtain⟨k,hk,_,k0,k1,_⟩:=pU hN hn
 unfold inv
 rw [hk]
 simp only
 split<;>omega
theorem aNc {N n m:Int} (hN:0<=N/\N<=288230376151711744)(hn:1<=n)(hm:n<=m):(inv N m).1<=(inv N n).1:=by
 obtain⟨h1,h2,h3⟩:=lR hN.1 hn
 obtain⟨g1,g2,g3⟩:=lR (n:=m) hN.1 (by omega)
 have h:N / m<=N / n:=by
  refine Int.le_ediv_of_mul_le (by omega) (Int.le_trans (Int.mul_le_mul_of_nonneg_left hm g1) g3)
 exact(uZ g1 (by omega)).mono (uZ h1 (by omega)) h
def NN (s:Int):Int:=s*s*1099511627776
theorem aCr {s:Int} (h:s=1\/s=2\/s=4\/s=8):0<=NN s/\NN s<=288230376151711744:=by rcases h with rfl | rfl | rfl | rfl<;>decide
noncomputable def of1 (s n:Int):Int×Int:=if n < 1 then(0,0) else inv (NN s) n
theorem aZc {s:Int} (h:s=1\/s=2\/s=4\/s=8):decide (s < 1)=false/\decide (s > 8)=false:=by
 rcases h with rfl | rfl | rfl | rfl<;>decide
theorem lt8 {s:Int} (h:s=1\/s=2\/s=4\/s=8):decide (s < 1)=false/\decide (s > 8)=false/\F84 s 1 8=true:=by
 rcases h with rfl | rfl | rfl | rfl<;>decide
theorem aSc {s n:Int} (hs:s=1\/s=2\/s=4\/s=8)(hn:n<=1000000000):(nT n s).1=of1 s n:=by
 obtain⟨e1,e2⟩:=aZc hs
 unfold nT of1
 by_cases h:n < 1
 ·rw [cA h,cond_true,if_pos h]
 ·have e:W ((W (s*s))*2 ^ (min (tN 40) 64))=NN s:=by rcases hs with rfl | rfl | rfl | rfl<;>kernel_rfl
  rw [cT h,cond_false,cT (show ¬n > 1099511627776 by omega),cond_false,e1,cond_false,e2,cond_false,if_neg h,e,aWb (aCr hs) (by omega)]
theorem aSd {s n:Int} (hs:s=1\/s=2\/s=4\/s=8)(hn:n<=1000000000):(kV n s).1=of1 s n:=by
 obtain⟨_,_,e3⟩:=lt8 hs
 unfold kV of1
 by_cases h:n < 1
 ·rw [rP,cT (show ¬(1<=n/\n<=1099511627776) by omega),if_pos h];rfl
 ·have e:W ((W ((W (1048576*s))*1048576))*s)=NN s:=by rcases hs with rfl | rfl | rfl | rfl<;>kernel_rfl
  rw [e3,rP,cA (show(1<=n/\n<=1099511627776) by omega),if_neg h,e,aWc (aCr hs) (by omega)];rfl
structure OfOk (of:Int->Int×Int):Prop where
 lo:∀n,0<=(of n).1
 le:∀n,(of n).1<=(of n).2
 hi:∀n,(of n).2<=536870913
 mono:∀n m,1<=n->n<=m->(of m).1<=(of n).1
theorem aT4 {s:Int} (hs:s=1\/s=2\/s=4\/s=8):OfOk (of1 s):=by
 have hb:∀n,0<=(of1 s n).1/\(of1 s n).1<=(of1 s n).2/\(of1 s n).2<=536870913:=by
  intro n
  unfold of1
  split
  ·simp
  ·exact aT3 (aCr hs) (by omega)
 refine⟨fun n=>(hb n).1,fun n=>(hb n).2.1,fun n=>(hb n).2.2,fun n m h1 h2=>?_⟩
 unfold of1
 rw [if_neg (by omega),if_neg (by omega)]
 exact aNc (aCr hs) h1 h2
def fa (c:PN)(x:P3):Int:=mx (mx (mx 0 (ds c.1 x)) (ds c.2.1 x)) (ds c.2.2 x)
def ne (c:PN)(x:P3):Int:=nr (blo c) (bhi c) x x
theorem tK {p q:P3} (hp:bd 5000 p)(hq:bd 5000 q):0<=ds p q/\ds p q<=300000000:=by
 have h:=mH hp hq
 have:=aR9 h h
 exact⟨tC _,by unfold ds;omega⟩
theorem aWd {a b:Int} (ha:0<=a)(h:a<=b\/a<=-b):a*a<=b*b:=by
 rcases h with h | h
 ·exact Int.mul_le_mul h h ha (by omega)
 ·have:=Int.mul_le_mul h h ha (by omega)
  rwa [Int.neg_mul_neg] at this
theorem aWe (a b c d:P3):0<=nr a b c d:=by
 have h1:=kQ (gp a.1 b.1 c.1 d.1);have h2:=kQ (gp a.2.1 b.2.1 c.2.1 d.2.1);have h3:=kQ (gp a.2.2 b.2.2 c.2.2 d.2.2)
 unfold nr;omega
noncomputable def acc (of:Int->Int×Int)(x:P3):List PN->Int×Int->(Int×Int)⊕((Int×Int)×Int)
 | [],v=>.inl v
 | c::l,v=>if ne c x=0 then .inr ((0,0),10) else acc of x l (v.1+(of (fa c x)).1,v.2+(of (ne c x)).2)
def xG (v:Int×Int)(n:Nat):Prop:=0<=v.1/\v.1<=v.2/\v.2+536870913*n<=34359738432
theorem aT5 {a n:Int} (hn:n=1\/n=4\/n=16\/n=64)(ha:-1099511627776<=a/\a<=1099511627776):qK a n=a / n:=by
 unfold qK
 have h0:∀b:Int,decide (n < 0)=false:=fun _=>cT (by omega)
 rw [h0 0]
 have key:(bif ((Int.tmod a n:Int) != 0) then(bif (!(decide (a < 0) == false)) then W (W (Int.tdiv a n) - 1) else W (Int.tdiv a n)) else W (Int.tdiv a n))=if Int.tmod a n≠0/\a < 0 then W (W (Int.tdiv a n) - 1) else W (Int.tdiv a n):=by
  by_cases h1:Int.tmod a n=0
  ·rw [h1];simp
  ·by_cases h2:a < 0
   ·rw [bne_iff_ne.2 h1,cA h2,if_pos ⟨h1,h2⟩];rfl
   ·rw [bne_iff_ne.2 h1,cT h2,if_neg (fun h=>h2 h.2)];rfl
 rw [key]
 rcases Int.lt_or_le a 0 with h | h
 ·obtain⟨b,rfl⟩:∃b:Int,a=-b:=⟨-a,by omega⟩
  have hb:0<=b:=by omega
  rw [Int.neg_tdiv,Int.neg_tmod,Int.tdiv_eq_ediv_of_nonneg hb,Int.tmod_eq_emod_of_nonneg hb]
  rcases hn with rfl | rfl | rfl | rfl <;>
  ·rw [aF (n:=-(b / _)) (by omega) (by omega)]
   split
   ·rw [aF (by omega) (by omega)];omega
   ·omega
 ·rw [if_neg (by omega),Int.tdiv_eq_ediv_of_nonneg h]
  rcases hn with rfl | rfl | rfl | rfl<;>exact aF (by omega) (by omega)
theorem aT6 {a n:Int} (hn:n=1\/n=4\/n=16\/n=64)(ha:-1099511627776<=a/\a<=1099511627776):rO a n=a / n:=by
 unfold rO
 rcases Int.lt_or_le a 0 with h | h
 ·obtain⟨b,rfl⟩:∃b:Int,a=-b:=⟨-a,by omega⟩
  have hb:0<=b:=by omega
  rw [Int.neg_tdiv,Int.neg_tmod,Int.tdiv_eq_ediv_of_nonneg hb,Int.tmod_eq_emod_of_nonneg hb]
  by_cases h1:-(b % n) < (0:Int)
  ·rw [cA h1,cond_true]
   rcases hn with rfl | rfl | rfl | rfl <;>
   ·rw [aF (n:=-(b / _)) (by omega) (by omega),aF (by omega) (by omega)];omega
  ·rw [cT h1,cond_false]
   rcases hn with rfl | rfl | rfl | rfl <;>
   ·rw [aF (n:=-(b / _)) (by omega) (by omega)];omega
 ·rw [Int.tdiv_eq_ediv_of_nonneg h,Int.tmod_eq_emod_of_nonneg h]
  have:¬a % n < 0:=by have:=Int.emod_nonneg a (show n≠0 by omega);omega
  rw [cT this,cond_false]
  rcases hn with rfl | rfl | rfl | rfl<;>exact aF (by omega) (by omega)
theorem aWf {a n:Int} (hn:n=1\/n=4\/n=16\/n=64)(ha:-1099511627776<=a/\a<=1099511627776):zV a n=-(-a / n):=by
 unfold zV
 rw [aF (n:=0 - a) (by omega) (by omega),aT5 hn (by omega),Int.zero_sub]
 rcases hn with rfl | rfl | rfl | rfl<;>exact(aF (by omega) (by omega)).trans (by omega)
theorem aWg {a n:Int} (hn:n=1\/n=4\/n=16\/n=64)(ha:-1099511627776<=a/\a<=1099511627776):tB a n=-(-a / n):=by
 unfold tB
 rw [aF (n:=0 - a) (by omega) (by omega),aT6 hn (by omega),Int.zero_sub]
 rcases hn with rfl | rfl | rfl | rfl<;>exact(aF (by omega) (by omega)).trans (by omega)
def avg (v:Int×Int)(n:Int):Int×Int:=(v.1 / n,-(-v.2 / n))
theorem aGh {a b:Int} (h1:-1099511627776<=a)(h2:a<=b)(h3:b<=1099511627776):F92 (a,b)=true:=by
 unfold F92
 rw [cA (show(a,b).1≥-1099511627776 from h1),cA (show(a,b).1<=(a,b).2 from h2),cA (show(a,b).2<=1099511627776 from h3)];rfl
theorem aWh {v:Int×Int} {n:Int} (hn:n=1\/n=4\/n=16\/n=64)(h:xG v 0):aBx v.1 v.2 n=avg v n:=by
 unfold xG at h
 unfold aBx xE fO
 rw [aGh (by omega) (by omega) (by omega)]
 simp only [Bool.not_true,cond_false,bne_self_eq_false]
 rw [cT (show ¬n < 1 by omega),cT (show ¬n > 1099511627776 by omega),cond_false,cond_false,aT5 hn (by omega),aWf hn (by omega)]
 have:v.1 / n<=-(-v.2 / n)/\-1099511627776<=v.1 / n/\-(-v.2 / n)<=1099511627776:=by
  rcases hn with rfl | rfl | rfl | rfl<;>omega
 rw [aCq this.2.1 this.1 this.2.2];rfl
theorem jG (d:Int):sc d*sc d=1\/sc d*sc d=4\/sc d*sc d=16\/sc d*sc d=64:=by
 rcases tJ d with h | h | h | h<;>rw [h]<;>decide
theorem pV {p c:PN} {d:Int} (hp:bdP 64 p)(hd:0<=d/\d<=3)(hc:c∈bI d.toNat p):bdP 512 c:=by
 have key:∀k:Nat,k<=3->c∈bI k p->bdP 512 c:=by
  intro k hk hc
  have:k=0\/k=1\/k=2\/k=3:=by omega
  rcases this with rfl | rfl | rfl | rfl<;>exact(xR (m:=64) _ hp (by decide) (by decide) hc).mono (by decide)
 exact key _ (by omega) hc
theorem aNd {p:PN} {d:Int} (hd:0<=d/\d<=3):xG (0,0) (bI d.toNat p).length:=by
 have h:=pT hd p
 have h1:=jG d
 unfold xG;simp only;omega
section
variable {p : PN} {x : P3} {d : Int}
end
end Go.Proofs.YtcmdknehplnpfaaGreat
namespace Go.Proofs.YtcmdknehplnpfaaGreat
open Go.Proofs Go.Aw Go.RowKit
set_option maxRecDepth 100000
def IsUp (T r:Int):Prop:=0<=r/\T<=r*r/\(r=0\/(r - 1)*(r - 1) < T)
theorem IsUp.le {T r m:Int} (h:IsUp T r)(hm:0<=m)(h':T<=m*m):r<=m:=by
 rcases Int.lt_or_le m r with hlt | hle
 ·rcases h.2.2 with h0 | h0
  ·omega
  ·have:=Int.mul_le_mul (show m<=r - 1 by omega) (show m<=r - 1 by omega) hm (by omega)
   omega
 ·exact hle
theorem IsUp.eq {T a b:Int} (h:IsUp T a)(h':IsUp T b):a=b:=Int.le_antisymm (h.le h'.1 h'.2.1) (h'.le h.1 h.2.1)
theorem aHp {T:Int} {S:Int×Int->(Int×Int)⊕Int} (hS:∀a b,0<=a->a < b->b<=268435456->S (a,b)=if T<=((a+b) / 2)*((a+b) / 2) then .inl (a,(a+b) / 2) else .inl ((a+b) / 2+1,b))(h0:∀a,S (a,a)=.inr a) :
 ∀(f:Nat) (a b:Int),0<=a->a<=b->b<=268435456->b - a < f->T<=b*b->(a=0\/(a - 1)*(a - 1) < T)->IsUp T (aB S f (a,b)):=by
 intro f
 induction f with
 | zero=>intro a b _ h _ hf;omega
 | succ f ih =>
  intro a b ha hab hb hf h1 h2
  by_cases he:a=b
  ·subst he
   rw [aO (h0 a)];exact⟨ha,h1,h2⟩
  ·have hs:=hS a b ha (by omega) hb
   by_cases hc:T<=((a+b) / 2)*((a+b) / 2)
   ·rw [if_pos hc] at hs
    rw [aA hs]
    exact ih _ _ ha (by omega) (by omega) (by omega) hc h2
   ·rw [if_neg hc] at hs
    rw [aA hs]
    refine ih _ _ (by omega) (by omega) hb (by omega) h1 (Or.inr ?_)
    rw [show(a+b) / 2+1 - 1=(a+b) / 2 by omega];omega
def sH (d:Int):Int:=3537128906555392*(sc d*sc d)
theorem aWi {d:Int} (h:0<=d/\d<=3):W (3537128906555392*2 ^ (min (tN (W (2*d))) 64))=sH d:=by
 rcases d4 h with rfl | rfl | rfl | rfl<;>kernel_rfl
theorem aWj {d:Int} (h:0<=d/\d<=3):W ((W ((W (1099511627776*(W (1*2 ^ (min (tN (IntKind.wrap .u64 d)) 64)))))*(W (1*2 ^ (min (tN (IntKind.wrap .u64 d)) 64)))))*3217)=sH d:=by
 rcases d4 h with rfl | rfl | rfl | rfl<;>kernel_rfl
theorem aNe (d:Int):3537128906555392<=sH d/\sH d<=226376250019545088:=by
 unfold sH;have:=jG d;omega
def cq (t b:Int):Int:=-(-t / b)
theorem tL {t b:Int} (hb:1<=b):t<=cq t b*b/\(cq t b - 1)*b < t:=by
 have h1:=Int.mul_ediv_add_emod (-t) b
 have h2:=Int.emod_nonneg (-t) (show b≠0 by omega)
 have h3:=Int.emod_lt_of_pos (-t) (show 0 < b by omega)
 unfold cq
 have e:-(-t / b)*b=-(b*(-t / b)):=by rw [Int.neg_mul,Int.mul_comm]
 have e2:(-(-t / b) - 1)*b=-(b*(-t / b)) - b:=by rw [Int.sub_mul,e,Int.one_mul]
 omega
theorem aT7 {a n:Int} (hn:1<=n)(ha:-1152921504606846976<=a/\a<=1152921504606846976):rO a n=a / n:=by
 unfold rO
 rcases Int.lt_or_le a 0 with h | h
 ·obtain⟨b,rfl⟩:∃b:Int,a=-b:=⟨-a,by omega⟩
  have hb:0<=b:=by omega
  obtain⟨h1,h2,_⟩:=lR hb hn
  have hd:=Int.mul_ediv_add_emod b n
  have hm0:=Int.emod_nonneg b (show n≠0 by omega)
  have hm1:=Int.emod_lt_of_pos b (show 0 < n by omega)
  rw [Int.neg_tdiv,Int.neg_tmod,Int.tdiv_eq_ediv_of_nonneg hb,Int.tmod_eq_emod_of_nonneg hb,aF (n:=-(b / n)) (by omega) (by omega)]
  by_cases h3:-(b % n) < (0:Int)
  ·rw [cA h3,cond_true,aF (by omega) (by omega)]
   refine(((Int.ediv_emod_unique (a:=-b) (b:=n) (q:=-(b / n) - 1) (r:=n - b % n) (by omega)).2 ⟨?_,by omega,by omega⟩).1).symm
   rw [Int.mul_sub,Int.mul_neg,Int.mul_one];omega
  ·rw [cT h3,cond_false]
   refine(((Int.ediv_emod_unique (a:=-b) (b:=n) (q:=-(b / n)) (r:=0) (by omega)).2 ⟨?_,by omega,by omega⟩).1).symm
   rw [Int.mul_neg];omega
 ·rw [Int.tdiv_eq_ediv_of_nonneg h,Int.tmod_eq_emod_of_nonneg h]
  have:=Int.emod_nonneg a (show n≠0 by omega)
  rw [cT (by omega),cond_false]
  obtain⟨h1,h2,_⟩:=lR h hn
  exact aF (by omega) (by omega)
theorem aT8 {a n:Int} (hn:1<=n)(ha:0<=a/\a<=1152921504606846976):tB a n=cq a n:=by
 unfold tB cq
 have h1:=tL (t:=a) hn
 rw [aF (n:=0 - a) (by omega) (by omega),aT7 hn (by omega),Int.zero_sub,Int.zero_sub]
 have h2:0<=cq a n:=by
  rcases Int.lt_or_le (cq a n) 0 with h | h
  ·have:=Int.mul_le_mul_of_nonneg_right (show cq a n<=-1 by omega) (show 0<=n by omega);omega
  ·exact h
 have h3:cq a n<=a+1:=by
  rcases Int.lt_or_le (a+1) (cq a n) with h | h
  ·have:=Int.mul_le_mul_of_nonneg_left hn (show 0<=cq a n - 1 by omega);omega
  ·exact h
 unfold cq at h2 h3
 exact aF (by omega) (by omega)
theorem aAi {p:PN} {d:Int} (hp:vp p=0)(hd:0<=d/\d<=3) :
 ∃r,IsRt (dt (nX p) (nX p)) r/\1<=r/\r<=56755/\IsUp (cq (sH d) (128*r)) (pQ p d)/\pQ p d<=67108864:=by
 obtain⟨r,e,hr,r1,r2⟩:=aMz hp
 have ht:=aNe d
 obtain⟨q1,q2,q3⟩:=lR (N:=sH d) (n:=128*r) (by omega) (by omega)
 have hqb:sH d / (128*r)<=1768564453277696:=by
  rcases Int.lt_or_le 1768564453277696 (sH d / (128*r)) with h | h
  ·have:=Int.mul_le_mul_of_nonneg_left (show 128<=128*r by omega) q1;omega
  ·exact h
 have hk:=aJk (n:=sH d / (128*r)) q1 (by omega)
 have hkb:=hk.le (m:=42054304) (by omega) (by omega)
 obtain⟨u1,u2⟩:=tL (t:=sH d) (b:=128*r) (by omega)
 have hm:=Int.mul_ediv_add_emod (sH d) (128*r)
 have hm1:=Int.emod_lt_of_pos (sH d) (show 0 < 128*r by omega)
 refine⟨r,hr,r1,r2,?_⟩
 unfold pQ
 rw [e,aF (n:=128*r) (by omega) (by omega),aWi hd,Int.tdiv_eq_ediv_of_nonneg (by omega),aF (n:=sH d / (128*r)) (by omega) (by omega)]
 generalize jQ (sH d / (128*r))=k at *
 have k0:=hk.1;have k1:=hk.2.1;have k2:=hk.2.2
 have k3:0<=k*k:=Int.mul_nonneg k0 k0
 have k4:k*k*(128*r)<=sH d / (128*r)*(128*r):=Int.mul_le_mul_of_nonneg_right k1 (by omega)
 have k5:0<=k*k*(128*r):=Int.mul_nonneg k3 (by omega)
 rw [aF (n:=k*k) (by omega) (by omega),aF (n:=k*k*(128*r)) (by omega) (by omega),aF (n:=k+1) (by omega) (by omega)]
 generalize sH d / (128*r)=q at *
 generalize cq (sH d) (128*r)=T at *
 have hb:0 < 128*r:=by omega
 generalize 128*r=b at *
 have hqT:q<=T:=Int.le_of_mul_le_mul_right (Int.le_trans q3 u1) hb
 have hTq:T<=q+1:=by
  have:(T - 1)*b < (q+1)*b:=by rw [Int.add_mul,Int.mul_comm q b];omega
  have:=Int.lt_of_mul_lt_mul_right this (by omega);omega
 by_cases h:k*k*b < sH d
 ·rw [cA h,cond_true]
  refine⟨⟨by omega,by omega,Or.inr ?_⟩,by omega⟩
  rw [show k+1 - 1=k by omega]
  exact Int.lt_of_mul_lt_mul_right (Int.lt_of_lt_of_le h u1) (by omega)
 ·rw [cT h,cond_false]
  refine⟨⟨k0,?_,?_⟩,by omega⟩
  ·have:(T - 1)*b < k*k*b:=by omega
   have:=Int.lt_of_mul_lt_mul_right this (by omega);omega
  ·rcases Int.lt_or_le 0 k with h0 | h0
   ·right
    have:(k - 1)*(k - 1)<=(k - 1)*k:=Int.mul_le_mul_of_nonneg_left (by omega) (by omega)
    have e:(k - 1)*k=k*k - k:=by rw [Int.sub_mul,Int.one_mul]
    omega
   ·left;omega
theorem aT9 {p:PN} {d:Int} (hp:vp p=0)(hd:0<=d/\d<=3):rR p d=pQ p d:=by
 obtain⟨r,hr,r1,r2,hu,hb⟩:=aAi hp hd
 obtain⟨hb',hd'⟩:=jK hp
 obtain⟨hn,hn2⟩:=aMy hb'
 have ht:=aNe d
 have er:qL (gD (kD p) (kD p))=r:=by
  rw [aMx hb',rdt (hn.mono (by omega)) (hn.mono (by omega))]
  exact(aMw (n:=dt (nX p) (nX p)) (by omega) (by omega)).eq hr
 obtain⟨u1,u2⟩:=tL (t:=sH d) (b:=128*r) (by omega)
 have hT:cq (sH d) (128*r)<=1768564453277697:=by
  rcases Int.lt_or_le 1768564453277697 (cq (sH d) (128*r)) with h | h
  ·have:=Int.mul_le_mul_of_nonneg_left (show 128<=128*r by omega) (show 0<=cq (sH d) (128*r) - 1 by omega);omega
  ·exact h
 refine IsUp.eq ?_ hu
 unfold rR
 refine aHp (T:=cq (sH d) (128*r)) (fun a b ha hab hb=>?_) (fun a=>?_) _ 0 268435456 (by omega) (by omega) (by omega) (by decide) (by omega) (Or.inl rfl)
 ·have h2:decide (a < b)=true:=cA hab
  have hq:=aJj (a:=(a+b) / 2) (by omega) (by omega)
  simp only [lQ]
  rw [h2,cond_true,aWj hd,er,aF (n:=128*r) (by omega) (by omega),aT8 (by omega) (by omega),aJg (by omega),aDu (by omega),aF (n:=(a+b) / 2*((a+b) / 2)) (by omega) (by omega)]
  by_cases hc:cq (sH d) (128*r)<=(a+b) / 2*((a+b) / 2)
  ·rw [cA (show(a+b) / 2*((a+b) / 2)≥cq (sH d) (128*r) from hc),if_pos hc];rfl
  ·rw [cT (show ¬(a+b) / 2*((a+b) / 2)≥cq (sH d) (128*r) from hc),if_neg hc];rfl
 ·simp [lQ]
def fa3 (c q:PN):Int:=mx (mx (mx (mx (mx (mx (mx (mx (mx 0 (ds c.1 q.1)) (ds c.1 q.2.1)) (ds c.1 q.2.2)) (ds c.2.1 q.1)) (ds c.2.1 q.2.1)) (ds c.2.1 q.2.2)) (ds c.2.2 q.1)) (ds c.2.2 q.2.1)) (ds c.2.2 q.2.2)
def ne3 (c q:PN):Int:=nr (blo c) (bhi c) (blo q) (bhi q)
theorem aWk {c q:PN} (hc:bdP 5000 c)(hq:bdP 5000 q):bY [(aS c).1,(aS c).2.1,(aS c).2.2] [(aS q).1,(aS q).2.1,(aS q).2.2]=fa3 c q:=by
 refine(aV4 c q.1 q.2.1 q.2.2).trans ?_
 rw [tG hc.1 hq.1,tG hc.1 hq.2.1,tG hc.1 hq.2.2,tG hc.2.1 hq.1,tG hc.2.1 hq.2.1,tG hc.2.1 hq.2.2,tG hc.2.2 hq.1,tG hc.2.2 hq.2.1,tG hc.2.2 hq.2.2];rfl
theorem aWl {c q:PN} (hc:bdP 5000 c)(hq:bdP 5000 q):iQ c [q.1,q.2.1,q.2.2]=fa3 c q:=by
 rw [aV5,tH hc.1 hq.1,tH hc.1 hq.2.1,tH hc.1 hq.2.2,tH hc.2.1 hq.1,tH hc.2.1 hq.2.1,tH hc.2.1 hq.2.2,tH hc.2.2 hq.1,tH hc.2.2 hq.2.1,tH hc.2.2 hq.2.2,aM6];rfl
theorem aWm {c q:PN} (hc:bdP 5000 c)(hq:bdP 5000 q):bL (aS c) (aS q)=ne3 c q:=aTz hc hq
theorem aWn {c q:PN} (hc:bdP 5000 c)(hq:bdP 5000 q):gM c q=ne3 c q:=aT0 hc hq
theorem aHq {c q:PN} (hc:bdP 5000 c)(hq:bdP 5000 q):fa3 c q<=300000000 :=
 oW (oW (oW (oW (oW (oW (oW (oW (oW (by omega) (tK hc.1 hq.1).2) (tK hc.1 hq.2.1).2) (tK hc.1 hq.2.2).2) (tK hc.2.1 hq.1).2) (tK hc.2.1 hq.2.1).2) (tK hc.2.1 hq.2.2).2) (tK hc.2.2 hq.1).2) (tK hc.2.2 hq.2.1).2) (tK hc.2.2 hq.2.2).2
theorem aHr (c q:PN):ds c.1 q.1<=fa3 c q/\ds c.2.1 q.1<=fa3 c q/\ds c.2.2 q.1<=fa3 c q:=by
 refine⟨?_,?_,?_⟩
 ·exact Int.le_trans (aHk _ _) (Int.le_trans (fQ _ _) (Int.le_trans (fQ _ _) (Int.le_trans (fQ _ _) (Int.le_trans (fQ _ _) (Int.le_trans (fQ _ _) (Int.le_trans (fQ _ _) (Int.le_trans (fQ _ _) (fQ _ _))))))))
 ·exact Int.le_trans (aHk _ _) (Int.le_trans (fQ _ _) (Int.le_trans (fQ _ _) (Int.le_trans (fQ _ _) (Int.le_trans (fQ _ _) (fQ _ _)))))
 ·exact Int.le_trans (aHk _ _) (Int.le_trans (fQ _ _) (fQ _ _))
theorem aHs {a b c d x y:Int} (h1:a<=x)(h2:x<=b)(h3:c<=y)(h4:y<=d):gp a b c d*gp a b c d<=(x - y)*(x - y):=by
 refine aWd (aSb _ _ _ _) ?_
 unfold gp mx
 (repeat' split)<;>omega
theorem aHt (c q:PN):0<=ne3 c q/\ne3 c q<=fa3 c q:=by
 refine⟨aWe _ _ _ _,Int.le_trans ?_ (aHr c q).1⟩
 have h1:=aHs (vC c.1.1 c.2.1.1 c.2.2.1).1 (vD c.1.1 c.2.1.1 c.2.2.1).1 (vC q.1.1 q.2.1.1 q.2.2.1).1 (vD q.1.1 q.2.1.1 q.2.2.1).1
 have h2:=aHs (vC c.1.2.1 c.2.1.2.1 c.2.2.2.1).1 (vD c.1.2.1 c.2.1.2.1 c.2.2.2.1).1 (vC q.1.2.1 q.2.1.2.1 q.2.2.2.1).1 (vD q.1.2.1 q.2.1.2.1 q.2.2.2.1).1
 have h3:=aHs (vC c.1.2.2 c.2.1.2.2 c.2.2.2.2).1 (vD c.1.2.2 c.2.1.2.2 c.2.2.2.2).1 (vC q.1.2.2 q.2.1.2.2 q.2.2.2.2).1 (vD q.1.2.2 q.2.1.2.2 q.2.2.2.2).1
 unfold ne3 nr ds dt sb
 simp only [blo,bhi]
 omega
theorem aNf {x y:PN} (h:bdP 100000 x)(hy:y∈aD5 x):nX y=nX x:=by
 unfold aD5 q1 q2 q3 q4 at hy
 rw [tE h.1 h.2.1,tE h.2.2 h.1,tE h.2.1 h.2.2,jS h.1,jS h.2.1,jS h.2.2] at hy
 simp only [List.mem_cons,List.mem_nil_iff,or_false] at hy
 unfold nX cr sb
 rcases hy with rfl | rfl | rfl | rfl<;>simp only [cI]<;>refine⟨?_,?_,?_⟩<;>grind
theorem aJr:∀(d:Nat) {m:Int} {p x:PN},bdP m p->m*2 ^ d<=100000->0<=m->x∈bI d p->nX x=nX p
 | 0,m,p,x,h,_,_,hx=>by simp [bI] at hx;subst hx;rfl
 | d+1,m,p,x,h,hm,h0,hx=>by
  rw [gS,List.mem_flatMap] at hx
  obtain⟨y,hy,hx⟩:=hx
  have hp:(0:Int) < 2 ^ d:=Int.pow_pos (by omega)
  have hle:m*2 ^ d<=m*2 ^ (d+1):=Int.mul_le_mul_of_nonneg_left (by rw [Int.pow_succ];omega) h0
  have hb:=xR d h (by omega) h0 hy
  rw [aNf (hb.mono (by omega)) hx,aJr d h (by omega) h0 hy]
theorem aNg {p c:PN} {d:Int} (hp:bdP 64 p)(hd:0<=d/\d<=3)(hc:c∈bI d.toNat p):nX c=nX p:=by
 have:d.toNat=0\/d.toNat=1\/d.toNat=2\/d.toNat=3:=by omega
 rcases this with h | h | h | h<;>rw [h] at hc<;>exact aJr (m:=64) _ hp (by decide) (by decide) hc
theorem aNh (c:PN)(x:P3) {R:Int} (h1:ds c.1 x<=R)(h2:ds c.2.1 x<=R)(h3:ds c.2.2 x<=R):dt (nX c) (nX c)<=(4*R)*(4*R):=by
 have lag:∀u v:P3,dt (cr u v) (cr u v)<=dt u u*dt v v:=by
  intro u v
  have h:=kQ (dt u v)
  have e:dt (cr u v) (cr u v)+dt u v*dt u v=dt u u*dt v v:=by
   unfold dt cr;grind
  omega
 have par:∀a b:P3,dt (sb a b) (sb a b)<=2*ds a x+2*ds b x:=by
  intro a b
  have k:∀s t y:Int,(s - t)*(s - t)<=2*((s - y)*(s - y))+2*((t - y)*(t - y)):=by
   intro s t y
   have:=kQ (s+t - 2*y)
   grind
  have k1:=k a.1 b.1 x.1;have k2:=k a.2.1 b.2.1 x.2.1;have k3:=k a.2.2 b.2.2 x.2.2
  unfold ds dt sb;simp only;omega
 have p1:=par c.2.1 c.1;have p2:=par c.2.2 c.1
 refine Int.le_trans (lag _ _) (Int.mul_le_mul (by omega) (by omega) (tC _) ?_)
 have:=tC (sb c.1 x)
 unfold ds at *;omega
theorem aWo (d:Int):NN (sc d)=sc d*sc d*1099511627776:=rfl
theorem aQp {p c:PN} {d:Int} (hp:vp p=0)(hd:0<=d/\d<=3)(hc:c∈bI d.toNat p)(x:P3) {R:Int} (h1:ds c.1 x<=R)(h2:ds c.2.1 x<=R)(h3:ds c.2.2 x<=R):(of1 (sc d) R).1<=pQ p d:=by
 obtain⟨r,hr,r1,r2,hu,_⟩:=aAi hp hd
 have hR:0<=R:=Int.le_trans (tC _) h1
 have hn:=aNh c x h1 h2 h3
 rw [aNg (jK hp).1 hd hc] at hn
 have h4:r<=4*R:=by
  rcases Int.lt_or_le (4*R) r with h | h
  ·have:=Int.mul_le_mul (show 4*R+1<=r by omega) (show 4*R+1<=r by omega) (by omega) hr.1
   have e:(4*R+1)*(4*R+1)=(4*R)*(4*R)+8*R+1:=by grind
   have:=hr.2.1;omega
  ·exact h
 unfold of1
 rw [if_neg (by omega)]
 obtain⟨k,hk,_,k0,k1,k2,k3,k4,k5⟩:=pU (aCr (tJ d)) (show 1<=R by omega)
 unfold inv
 rw [hk]
 simp only
 rcases Int.lt_or_le (pQ p d) k with h | h
 ·exfalso
  obtain⟨u1,_⟩:=tL (t:=sH d) (b:=128*r) (by omega)
  have v0:=hu.1;have v1:=hu.2.1
  generalize pQ p d=m at *
  have e1:cq (sH d) (128*r)*(128*r)<=m*m*(128*r):=Int.mul_le_mul_of_nonneg_right v1 (by omega)
  have e2:m*m<=k*k:=Int.mul_le_mul (by omega) (by omega) v0 k0
  have e3:m*m*(128*r)<=k*k*(512*R):=Int.mul_le_mul e2 (by omega) (by omega) k2
  have e4:k*k*(512*R)=512*(k*k*R):=by grind
  rw [aWo] at k5
  have:=jG d
  unfold sH at *
  omega
 ·exact h
def aBy (lo hi:PN->Int):List PN->Int×Int->Int×Int
 | [],v=>v
 | c::l,v=>aBy lo hi l (v.1+lo c,v.2+hi c)
theorem tM {lo hi:Int} {v:Int×Int} {n:Nat} (h:xG v (n+1))(h1:0<=lo/\lo<=hi/\hi<=536870913):xG (v.1+lo,v.2+hi) n:=by
 unfold xG at *;simp only;omega
theorem xV {lo hi:PN->Int}:∀{l:List PN} {v:Int×Int},(∀c∈l,0<=lo c/\lo c<=hi c/\hi c<=536870913)->xG v l.length->xG (aBy lo hi l v) 0
 | [],v,_,h=>h
 | c::l,v,hl,h=>xV (l:=l) (fun c hc=>hl c (List.mem_cons_of_mem _ hc)) (tM h (hl c List.mem_cons_self))
theorem aAj {lo hi:PN->Int} {S:Int×Int->PN->Int×Int}:∀{l:List PN} {v:Int×Int},(∀c∈l,0<=lo c/\lo c<=hi c/\hi c<=536870913) ->
 (∀c∈l,∀v:Int×Int,S v c=(W (v.1+lo c),W (v.2+hi c)))->xG v l.length->l.foldl S v=aBy lo hi l v
 | [],v,_,_,_=>rfl
 | c::l,v,hl,hS,h=>by
  have h1:=tM h (hl c List.mem_cons_self)
  have h2:=h1
  unfold xG at h2;simp only at h2
  rw [List.foldl_cons,hS c List.mem_cons_self v,aF (by omega) (by omega),aF (by omega) (by omega)]
  exact aAj (l:=l) (fun c hc=>hl c (List.mem_cons_of_mem _ hc)) (fun c hc=>hS c (List.mem_cons_of_mem _ hc)) h1
theorem aAk {lo hi:PN->Int} {S:Zt->Zt⊕(Int×Int)} {G:Int×Int->Int×Int} {L:List PN} (hl:∀c∈L,0<=lo c/\lo c<=hi c/\hi c<=536870913)
 (hS:∀(i:Nat) (c:PN),L[i]? = some c->∀v1 v2:Int,S (v1,v2,(i:Int))=.inl (W (v1+lo c),W (v2+hi c),((i+1:Nat):Int)))
 (hE:∀v1 v2:Int,S (v1,v2,(L.length:Int))=.inr (G (v1,v2))) :
 ∀(l:List PN) (i n:Nat) (v:Int×Int),L.drop i=l->i<=L.length->l.length < n->xG v l.length->aB S n (v.1,v.2,(i:Int))=G (aBy lo hi l v)
 | [],i,n,v,hd,hi',hn,h=>by
  have:i=L.length:=by have:=List.drop_eq_nil_iff.1 hd;omega
  obtain⟨n,rfl⟩:∃m,n=m+1:=⟨n - 1,by simp only [List.length_nil] at hn;omega⟩
  subst this
  rw [aO (hE _ _)];rfl
 | c::l,i,n,v,hd,hi',hn,h=>by
  have hc:L[i]? = some c:=by
   have:(L.drop i)[0]? = some c:=by rw [hd];rfl
   simpa using this
  obtain⟨hlt,hce⟩:=List.getElem?_eq_some_iff.1 hc
  obtain⟨n,rfl⟩:∃m,n=m+1:=⟨n - 1,by omega⟩
  have h1:=tM h (hl c (hce▸List.getElem_mem hlt))
  have h2:=h1
  unfold xG at h2;simp only at h2
  rw [aA (hS i c hc v.1 v.2),aF (by omega) (by omega),aF (by omega) (by omega)]
  exact aAk hl hS hE l (i+1) n _ (by rw [←List.drop_drop,hd];rfl) (by omega) (by simp only [List.length_cons] at hn;omega) h1
noncomputable def bLo (d:Int)(q c:PN):Int:=(of1 (sc d) (fa3 c q)).1
noncomputable def bHi (R d:Int)(q c:PN):Int:=if 0 < ne3 c q then(if(of1 (sc d) (ne3 c q)).2 < R then(of1 (sc d) (ne3 c q)).2 else R) else R
theorem aUa {p q:PN} {d:Int} (hp:vp p=0)(hd:0<=d/\d<=3):∀c∈bI d.toNat p,0<=bLo d q c/\bLo d q c<=bHi (pQ p d) d q c/\bHi (pQ p d) d q c<=536870913:=by
 intro c hc
 obtain⟨_,_,_,_,_,hub⟩:=aAi hp hd
 have ho:=aT4 (tJ d)
 obtain⟨g1,g2,g3⟩:=aHr c q
 have hl:=aQp hp hd hc q.1 g1 g2 g3
 have hn:=aHt c q
 have h0:=ho.lo (fa3 c q)
 unfold bLo bHi
 split
 ·rename_i hz
  have h1:=ho.mono (ne3 c q) (fa3 c q) (by omega) hn.2;have h2:=ho.le (ne3 c q)
  split<;>omega
 ·omega
noncomputable def vG (p q:PN)(d:Int):Int×Int:=avg (aBy (bLo d q) (bHi (pQ p d) d q) (bI d.toNat p) (0,0)) (sc d*sc d)
section
variable {p q : PN} {d : Int}
theorem aNi (hp:vp p=0)(hq:bdP 5000 q)(hd:0<=d/\d<=3):F65 p q d=vG p q d:=by
 have hk:=aNd (p:=p) hd
 have hb:=aUa (q:=q) hp hd
 unfold F65 vG
 rw [aAj hb (fun c hc v=>?_) hk]
 ·show aBx _ _ _=_
  rw [aV8 hd,aWh (jG d) (xV hb hk)]
 ·have hcb:=(pV (jK hp).1 hd hc).mono (show(512:Int)<=5000 by omega)
  obtain⟨v1,v2⟩:=v
  have h1:=aHq hcb hq;have h2:=aHt c q
  simp only [wP]
  rw [aT1 hd,aWm hcb hq,aWk hcb hq,aSc (tJ d) (by omega),aSc (tJ d) (by omega)]
  unfold bLo bHi
  by_cases h:0 < ne3 c q
  ·rw [if_pos h,cA (show ne3 c q > 0 from h),cond_true]
  ·rw [if_neg h,cT (show ¬ne3 c q > 0 from h),cond_false]
theorem aSe (hp:vp p=0)(hq:bdP 5000 q)(hd:0<=d/\d<=3):tF p d q=vG p q d:=by
 have hk:=aNd (p:=p) hd
 have hb:=aUa (q:=q) hp hd
 have hL:=aV1 (jK hp).1 hd
 have hl:=pT hd p
 unfold tF vG
 rw [show((0,0,0):Zt)=(((0,0):Int×Int).1,((0,0):Int×Int).2,((0:Nat):Int)) from rfl,
  aAk hb (S:=kS p d q) (G:=fun v=>(rO v.1 (sc d*sc d),tB v.2 (sc d*sc d))) (fun i c hi v1 v2=>?_) (fun v1 v2=>?_) (bI d.toNat p) 0 _ (0,0) rfl (Nat.zero_le _) (by rw [hL];omega) hk]
 ·have hu:=xV hb hk
  unfold xG at hu
  rw [aT6 (jG d) (by omega),aWg (jG d) (by omega)];rfl
 ·obtain⟨hlt,hc⟩:=List.getElem?_eq_some_iff.1 hi
  have hm:c∈bI d.toNat p:=hc▸List.getElem_mem hlt
  have hcb:=(pV (jK hp).1 hd hm).mono (show(512:Int)<=5000 by omega)
  have hg:(bI d.toNat p).getD i dF=c:=by rw [eU,hi];rfl
  have h1:=aHq hcb hq;have h2:=aHt c q
  simp only [kS]
  rw [hL,cA (show((i:Nat):Int) < ((bI d.toNat p).length:Nat) by omega),cond_true,sJ,hg,aV7 hd,aWn hcb hq,aWl hcb hq,aSd (tJ d) (by omega),aSd (tJ d) (by omega),aT9 hp hd]
  unfold bLo bHi
  by_cases h:0 < ne3 c q
  ·rw [if_pos h,cA (show ne3 c q > 0 from h),cond_true];rfl
  ·rw [if_neg h,cT (show ¬ne3 c q > 0 from h),cond_false];rfl
 ·simp only [kS]
  rw [hL,cT (Int.lt_irrefl _),cond_false,hl]
end
def tmP (s:Int)(q:PN):PN:=(tm s q.1,tm s q.2.1,tm s q.2.2)
theorem aEc {q:PN} {s:Int} (hs:1<=s/\s<=8)(hq:bdP 64 q):bdP 5000 (tmP s q) :=
 ⟨(aJq hs (by omega) hq.1).mono (by omega),(aJq hs (by omega) hq.2.1).mono (by omega),(aJq hs (by omega) hq.2.2).mono (by omega)⟩
theorem aHu (p q:PN)(d:Int):uE p q d=F79 p q d:=by
 unfold uE F79
 rw [xU,pS]
 by_cases h:pk p q d=0
 ·obtain⟨h1,h2,h3⟩:=tI h
  have hs:=aNa d
  have hq:=(jK h2).1
  have hq':=hq.mono (show(64:Int)<=4096 by omega)
  have hd:0<=d/\d<=3:=by omega
  rw [aT1 hd,aV7 hd,aK4 hs hq'.1,aK4 hs hq'.2.1,aK4 hs hq'.2.2,aT2 hs hq'.1,aT2 hs hq'.2.1,aT2 hs hq'.2.2]
  have e1:=aNi h1 (aEc hs hq) hd
  have e2:=aSe h1 (aEc hs hq) hd
  unfold tmP at e1 e2
  rw [e1,e2]
 ·rw [bne_iff_ne.2 h,cond_true,cond_true]
end Go.Proofs.YtcmdknehplnpfaaGreat
namespace Go.Proofs.YtcmdknehplnpfaaGreat
open Go.Proofs Go.Aw Go.RowKit
set_option maxRecDepth 100000
theorem aSf {a:Int×Int} (h:((fO a:Int) != 0)=false):-1099511627776<=a.1/\a.1<=a.2/\a.2<=1099511627776:=by
 have h:fO a=0:=by simpa using h
 unfold fO at h
 cases h0:F92 a with
 | false=>rw [h0] at h;cases h
 | true =>
  unfold F92 at h0
  by_cases h1:a.1≥-1099511627776
  ·by_cases h2:a.1<=a.2
   ·rw [cA h1,cond_true,cA h2,cond_true] at h0
    exact⟨h1,h2,bS h0⟩
   ·rw [cA h1,cond_true,cT h2,cond_false] at h0;cases h0
  ·rw [cT h1,cond_false] at h0;cases h0
def aEd (a0:Int):Bool :=
 (bif (decide ((a0:Int)≥(-1099511627776))) then
  (decide ((a0:Int)<=1099511627776))
 else
  false)
theorem aZd (a0:Int):Con Tryz.prog 134 [(iv a0)] [] (.v (.bool (aEd a0))) []:=by
 refine aK Tryz.func134 (by kernel_rfl) fun cx hcx=>?_
 cases h0:(decide ((a0:Int)≥(-1099511627776))) with
 | true =>
  have q0:=bS h0
  have e:=Eq.refl (aEd a0);conv at e=>rhs;simp only [aEd,h0,aJ]
  rw [e]
  exact rt [.d h0] [] [] hcx (by kernel_rfl)
 | false =>
  have q0:=cE h0
  have e:=Eq.refl (aEd a0);conv at e=>rhs;simp only [aEd,h0,aJ]
  rw [e]
  exact rt [.d h0] [] [] hcx (by kernel_rfl)
def fE (a0:Int×Int)(a1:Int):(Int×Int)×Int :=
 (bif (((fO a0):Int) != 0) then
  ((0,0),(fO a0))
 else
  (bif (!(aEd a1)) then
   ((0,0),1)
  else
   ((oT (if((fD a0.2 a1):Int) < (fD a0.1 a1) then(fD a0.2 a1) else(fD a0.1 a1)) (if((fD a0.1 a1):Int) < (fD a0.2 a1) then(fD a0.2 a1) else(fD a0.1 a1))).1,(oT (if((fD a0.2 a1):Int) < (fD a0.1 a1) then(fD a0.2 a1) else(fD a0.1 a1)) (if((fD a0.1 a1):Int) < (fD a0.2 a1) then(fD a0.2 a1) else(fD a0.1 a1))).2)))
theorem aZe (a0:Int×Int)(a1:Int):Con Tryz.prog 111 [(.a [(iv a0.1),(iv a0.2)]),(iv a1)] [] (.t [(.a (k2 (fE a0 a1).1)),(iv (fE a0 a1).2)]) []:=by
 refine aK Tryz.func111 (by kernel_rfl) fun cx hcx=>?_
 let t0:List (St Tryz.prog):=[.c [2] (aMm a0)]
 cases h0:(((fO a0):Int) != 0) with
 | true =>
  have q0:=bne_iff_ne.1 h0
  have e:=Eq.refl (fE a0 a1);conv at e=>rhs;simp only [fE,h0,aJ]
  rw [e]
  exact rt (t0++[.d h0]) [] [] hcx (by kernel_rfl)
 | false =>
  have q0:=bne_eq_false_iff_eq.1 h0
  let t1:List (St Tryz.prog):=(t0++[.d h0,.c [] (aZd a1)])
  cases h1:(!(aEd a1)) with
  | true =>
   have e:=Eq.refl (fE a0 a1);conv at e=>rhs;simp only [fE,h0,h1,aJ]
   rw [e]
   exact rt (t1++[.d h1]) [] [] hcx (by kernel_rfl)
  | false =>
   have e:=Eq.refl (fE a0 a1);conv at e=>rhs;simp only [fE,h0,h1,aJ]
   rw [e]
   exact rt (t1++[.d h1,.c [] (aVs a0.1 a1  (by have:=aSf h0;omega)),.c [] (aVs a0.2 a1  (by have:=aSf h0;omega)),.c [] (C61 (if((fD a0.2 a1):Int) < (fD a0.1 a1) then(fD a0.2 a1) else(fD a0.1 a1)) (if((fD a0.1 a1):Int) < (fD a0.2 a1) then(fD a0.2 a1) else(fD a0.1 a1)))]) [] [] hcx (by kernel_rfl)
def lS (a0:Int):Int :=
 (bif (decide ((a0:Int) < 0)) then
  (IntKind.wrap .u64 (W (0 - a0)))
 else
  (IntKind.wrap .u64 a0))
theorem aWp (a0:Int):Con Tryz.prog 144 [(iv a0)] [] (.v (.int .u64 (lS a0))) []:=by
 refine aK Tryz.func144 (by kernel_rfl) fun cx hcx=>?_
 cases h0:(decide ((a0:Int) < 0)) with
 | true =>
  have q0:=bS h0
  have e:=Eq.refl (lS a0);conv at e=>rhs;simp only [lS,h0,aJ]
  rw [e]
  exact rt [.d h0] [] [] hcx (by kernel_rfl)
 | false =>
  have q0:=cE h0
  have e:=Eq.refl (lS a0);conv at e=>rhs;simp only [lS,h0,aJ]
  rw [e]
  exact rt [.d h0] [] [] hcx (by kernel_rfl)
def nY (a0:Int)(a1:Int):Int×Int :=
 ((IntKind.wrap .u64 ((IntKind.wrap .u64 ((IntKind.wrap .u64 ((Int.fdiv a0 (2 ^ (min (tN 32) 64)))*(Int.fdiv a1 (2 ^ (min (tN 32) 64)))))+(Int.fdiv (IntKind.wrap .u64 ((IntKind.wrap .u64 ((Int.fdiv a0 (2 ^ (min (tN 32) 64)))*(IntKind.wrap .u64 ((BitVec.ofInt 64 a1 &&& BitVec.ofInt 64 4294967295).toNat:Int))))+(Int.fdiv (IntKind.wrap .u64 ((IntKind.wrap .u64 ((BitVec.ofInt 64 a0 &&& BitVec.ofInt 64 4294967295).toNat:Int))*(IntKind.wrap .u64 ((BitVec.ofInt 64 a1 &&& BitVec.ofInt 64 4294967295).toNat:Int)))) (2 ^ (min (tN 32) 64))))) (2 ^ (min (tN 32) 64)))))+(Int.fdiv (IntKind.wrap .u64 ((IntKind.wrap .u64 ((BitVec.ofInt 64 (IntKind.wrap .u64 ((IntKind.wrap .u64 ((Int.fdiv a0 (2 ^ (min (tN 32) 64)))*(IntKind.wrap .u64 ((BitVec.ofInt 64 a1 &&& BitVec.ofInt 64 4294967295).toNat:Int))))+(Int.fdiv (IntKind.wrap .u64 ((IntKind.wrap .u64 ((BitVec.ofInt 64 a0 &&& BitVec.ofInt 64 4294967295).toNat:Int))*(IntKind.wrap .u64 ((BitVec.ofInt 64 a1 &&& BitVec.ofInt 64 4294967295).toNat:Int)))) (2 ^ (min (tN 32) 64))))) &&& BitVec.ofInt 64 4294967295).toNat:Int))+(IntKind.wrap .u64 ((IntKind.wrap .u64 ((BitVec.ofInt 64 a0 &&& BitVec.ofInt 64 4294967295).toNat:Int))*(Int.fdiv a1 (2 ^ (min (tN 32) 64))))))) (2 ^ (min (tN 32) 64))))),(IntKind.wrap .u64 (a0*a1)))
theorem C85 (a0:Int)(a1:Int):Con Tryz.prog 85 [(.v (.int .u64 a0)),(.v (.int .u64 a1))] [] (.t [(.v (.int .u64 (nY a0 a1).1)),(.v (.int .u64 (nY a0 a1).2))]) []:=by
 refine aK Tryz.func85 (by kernel_rfl) fun cx hcx=>?_
 have e:=Eq.refl (nY a0 a1);conv at e=>rhs;simp only [nY]
 rw [e]
 exact rt [.p (show 0<=(32:Int) from by decide),.p (show 0<=(32:Int) from by decide),.p (show 0<=(32:Int) from by decide),.p (show 0<=(32:Int) from by decide),.p (show 0<=(32:Int) from by decide)] [] [] hcx (by kernel_rfl)
def iR (a0:Int)(a1:Int):Int :=
 (bif (((nY (lS a0) (lS a1)).1:Int) == 0) then
  (bif (decide (((nY (lS a0) (lS a1)).2:Int)<=1099511627776)) then
   (bif (!((decide ((a0:Int) < 0)) == (decide ((a1:Int) < 0)))) then
    (W (0 - (W (nY (lS a0) (lS a1)).2)))
   else
    (W (nY (lS a0) (lS a1)).2))
  else
   (bif (!((decide ((a0:Int) < 0)) == (decide ((a1:Int) < 0)))) then
    (-1099511627777)
   else
    1099511627777))
 else
  (bif (!((decide ((a0:Int) < 0)) == (decide ((a1:Int) < 0)))) then
   (-1099511627777)
  else
   1099511627777))
theorem aQq (a0:Int)(a1:Int):Con Tryz.prog 118 [(iv a0),(iv a1)] [] (iv (iR a0 a1)) []:=by
 refine aK Tryz.func118 (by kernel_rfl) fun cx hcx=>?_
 let t0:List (St Tryz.prog):=[.c [] (aWp a0),.c [] (aWp a1),.c [] (C85 (lS a0) (lS a1))]
 cases h0:(((nY (lS a0) (lS a1)).1:Int) == 0) with
 | true =>
  have q0:=eq_of_beq h0
  let t1:List (St Tryz.prog):=(t0++[.d h0])
  cases h1:(decide (((nY (lS a0) (lS a1)).2:Int)<=1099511627776)) with
  | true =>
   have q1:=bS h1
   let t2:List (St Tryz.prog):=(t1++[.d h1])
   cases h2:(!((decide ((a0:Int) < 0)) == (decide ((a1:Int) < 0)))) with
   | true =>
    have e:=Eq.refl (iR a0 a1);conv at e=>rhs;simp only [iR,h0,h1,h2,aJ]
    rw [e]
    exact rt (t2++[.d h2]) [] [] hcx (by kernel_rfl)
   | false =>
    have e:=Eq.refl (iR a0 a1);conv at e=>rhs;simp only [iR,h0,h1,h2,aJ]
    rw [e]
    exact rt (t2++[.d h2]) [] [] hcx (by kernel_rfl)
  | false =>
   have q1:=cE h1
   let t2:List (St Tryz.prog):=(t1++[.d h1])
   cases h2:(!((decide ((a0:Int) < 0)) == (decide ((a1:Int) < 0)))) with
   | true =>
    have e:=Eq.refl (iR a0 a1);conv at e=>rhs;simp only [iR,h0,h1,h2,aJ]
    rw [e]
    exact rt (t2++[.d h2]) [] [] hcx (by kernel_rfl)
   | false =>
    have e:=Eq.refl (iR a0 a1);conv at e=>rhs;simp only [iR,h0,h1,h2,aJ]
    rw [e]
    exact rt (t2++[.d h2]) [] [] hcx (by kernel_rfl)
 | false =>
  have q0:=ne_of_beq_false h0
  let t1:List (St Tryz.prog):=(t0++[.d h0])
  cases h1:(!((decide ((a0:Int) < 0)) == (decide ((a1:Int) < 0)))) with
  | true =>
   have e:=Eq.refl (iR a0 a1);conv at e=>rhs;simp only [iR,h0,h1,aJ]
   rw [e]
   exact rt (t1++[.d h1]) [] [] hcx (by kernel_rfl)
  | false =>
   have e:=Eq.refl (iR a0 a1);conv at e=>rhs;simp only [iR,h0,h1,aJ]
   rw [e]
   exact rt (t1++[.d h1]) [] [] hcx (by kernel_rfl)
def oX (a0:Int×Int)(a1:Int):(Int×Int)×Int :=
 (bif (!(oU a0)) then
  ((0,0),1)
 else
  (bif (!(F84 a1 (-1099511627776) 1099511627776)) then
   ((0,0),1)
  else
   (bif (decide ((a1:Int) < 0)) then
    ((tA (iR a0.2 a1) (iR a0.1 a1)).1,(tA (iR a0.2 a1) (iR a0.1 a1)).2)
   else
    ((tA (iR a0.1 a1) (iR a0.2 a1)).1,(tA (iR a0.1 a1) (iR a0.2 a1)).2))))
theorem C80 (a0:Int×Int)(a1:Int):Con Tryz.prog 80 [(.a [(iv a0.1),(iv a0.2)]),(iv a1)] [] (.t [(.a (k2 (oX a0 a1).1)),(iv (oX a0 a1).2)]) []:=by
 refine aK Tryz.func80 (by kernel_rfl) fun cx hcx=>?_
 let t0:List (St Tryz.prog):=[.c [] (aTi a0)]
 cases h0:(!(oU a0)) with
 | true =>
  have e:=Eq.refl (oX a0 a1);conv at e=>rhs;simp only [oX,h0,aJ]
  rw [e]
  exact rt (t0++[.d h0]) [] [] hcx (by kernel_rfl)
 | false =>
  let t1:List (St Tryz.prog):=(t0++[.d h0,.c [] (C84 a1 (-1099511627776) 1099511627776)])
  cases h1:(!(F84 a1 (-1099511627776) 1099511627776)) with
  | true =>
   have e:=Eq.refl (oX a0 a1);conv at e=>rhs;simp only [oX,h0,h1,aJ]
   rw [e]
   exact rt (t1++[.d h1]) [] [] hcx (by kernel_rfl)
  | false =>
   let t2:List (St Tryz.prog):=(t1++[.d h1])
   cases h2:(decide ((a1:Int) < 0)) with
   | true =>
    have q2:=bS h2
    have e:=Eq.refl (oX a0 a1);conv at e=>rhs;simp only [oX,h0,h1,h2,aJ]
    rw [e]
    exact rt (t2++[.d h2,.c [] (aQq a0.2 a1),.c [] (aQq a0.1 a1),.c [] (C86 (iR a0.2 a1) (iR a0.1 a1))]) [] [] hcx (by kernel_rfl)
   | false =>
    have q2:=cE h2
    have e:=Eq.refl (oX a0 a1);conv at e=>rhs;simp only [oX,h0,h1,h2,aJ]
    rw [e]
    exact rt (t2++[.d h2,.c [] (aQq a0.1 a1),.c [] (aQq a0.2 a1),.c [] (C86 (iR a0.1 a1) (iR a0.2 a1))]) [] [] hcx (by kernel_rfl)
theorem tO (n:Int):IntKind.wrap .u64 n=n % 18446744073709551616:=by
 simp [IntKind.wrap,IntKind.bits,IntKind.signed]
theorem aUb (a:Int):Int.fdiv a (2 ^ (min (tN 32) 64))=a / 4294967296:=by
 rw [show(2:Int) ^ (min (tN 32) 64)=4294967296 from by kernel_rfl]
 exact Int.fdiv_eq_ediv_of_nonneg _ (by omega)
theorem aWq (a:Int):((BitVec.ofInt 64 a &&& BitVec.ofInt 64 4294967295).toNat:Int)=a % 4294967296:=by
 rw [BitVec.toNat_and,show(BitVec.ofInt 64 4294967295).toNat=2 ^ 32 - 1 from by kernel_rfl,Nat.and_two_pow_sub_one_eq_mod,BitVec.toNat_ofInt]
 have h0:=Int.emod_nonneg a (show(18446744073709551616:Int)≠0 by omega)
 rw [show((2 ^ 64:Nat):Int)=18446744073709551616 from by kernel_rfl]
 have h1:(((a % 18446744073709551616).toNat:Nat):Int)=a % 18446744073709551616:=Int.toNat_of_nonneg h0
 rw [Int.natCast_emod,h1]
 show a % 18446744073709551616 % 4294967296=_
 omega
theorem aNj {x y:Int} (hx:0<=x/\x<=1099511627776)(hy:0<=y/\y<=1099511627776):nY x y=(x*y / 18446744073709551616,x*y % 18446744073709551616):=by
 unfold nY
 simp only [tO,aUb,aWq]
 have e0:∀n:Int,n % 4294967296 % 18446744073709551616=n % 4294967296:=fun n=>by omega
 simp only [e0]
 have key:x*y=(x / 4294967296*(y / 4294967296))*18446744073709551616+(x / 4294967296*(y % 4294967296)+x % 4294967296*(y / 4294967296))*4294967296+x % 4294967296*(y % 4294967296):=by
  have h1:=Int.mul_ediv_add_emod x 4294967296
  have h2:=Int.mul_ediv_add_emod y 4294967296
  generalize x / 4294967296=x1 at *
  generalize x % 4294967296=x0 at *
  generalize y / 4294967296=y1 at *
  generalize y % 4294967296=y0 at *
  subst h1;subst h2;grind
 have b1:=bR (a:=256) (b:=256) (x:=x / 4294967296) (y:=y / 4294967296) (by omega) (by omega)
 have b2:=bR (a:=256) (b:=4294967295) (x:=x / 4294967296) (y:=y % 4294967296) (by omega) (by omega)
 have b3:=bR (a:=4294967295) (b:=256) (x:=x % 4294967296) (y:=y / 4294967296) (by omega) (by omega)
 have b4:=bR (a:=4294967295) (b:=4294967295) (x:=x % 4294967296) (y:=y % 4294967296) (by omega) (by omega)
 have n1:0<=x / 4294967296*(y / 4294967296):=Int.mul_nonneg (by omega) (by omega)
 have n2:0<=x / 4294967296*(y % 4294967296):=Int.mul_nonneg (by omega) (by omega)
 have n3:0<=x % 4294967296*(y / 4294967296):=Int.mul_nonneg (by omega) (by omega)
 have n4:0<=x % 4294967296*(y % 4294967296):=Int.mul_nonneg (by omega) (by omega)
 generalize x*y=m at *
 generalize x / 4294967296*(y / 4294967296)=d at *
 generalize x / 4294967296*(y % 4294967296)=b at *
 generalize x % 4294967296*(y / 4294967296)=c at *
 generalize x % 4294967296*(y % 4294967296)=a at *
 rw [cI]
 exact⟨by omega,rfl⟩
def mT (x n:Int):Int:=if 1099511627776 < x*n then 1099511627777 else if x*n < -1099511627776 then -1099511627777 else x*n
theorem aNk (x n:Int):(x*n=(if x < 0 then 0 - x else x)*(if n < 0 then 0 - n else n)/\((x < 0)=(n < 0)))\/(x*n=-((if x < 0 then 0 - x else x)*(if n < 0 then 0 - n else n))/\¬((x < 0)=(n < 0))):=by
 by_cases h1:x < 0
 ·by_cases h2:n < 0
  ·left;rw [if_pos h1,if_pos h2];exact⟨by grind,by simp [h1,h2]⟩
  ·right;rw [if_pos h1,if_neg h2];exact⟨by grind,by simp [h1,h2]⟩
 ·by_cases h2:n < 0
  ·right;rw [if_neg h1,if_pos h2];exact⟨by grind,by simp [h1,h2]⟩
  ·left;rw [if_neg h1,if_neg h2];exact⟨by grind,by simp [h1,h2]⟩
theorem aNl {x n:Int} (hx:-1099511627776<=x/\x<=1099511627776)(hn:-1099511627776<=n/\n<=1099511627776):iR x n=mT x n:=by
 have hsz:∀z:Int,-1099511627776<=z/\z<=1099511627776->lS z=if z < 0 then 0 - z else z:=by
  intro z hz
  unfold lS
  by_cases h:z < 0
  ·rw [cA h,cond_true,if_pos h,aF (by omega) (by omega),tO];omega
  ·rw [cT h,cond_false,if_neg h,tO];omega
 unfold iR mT
 rw [hsz x hx,hsz n hn,aNj (by split<;>omega) (by split<;>omega)]
 have hm:=aNk x n
 have hnn:0<=(if x < 0 then 0 - x else x)*(if n < 0 then 0 - n else n):=Int.mul_nonneg (by split<;>omega) (by split<;>omega)
 generalize (if x < 0 then 0 - x else x)*(if n < 0 then 0 - n else n)=m at *
 have e:(!(decide (x < 0) == decide (n < 0)))=decide (x*n=-m/\¬((x < 0)=(n < 0))):=by
  by_cases h1:x < 0<;>by_cases h2:n < 0<;>simp [h1,h2] at hm ⊢<;>omega
 rw [e]
 simp only
 by_cases h1:m / 18446744073709551616=0
 ·rw [beq_iff_eq.2 h1,cond_true]
  have h2:m % 18446744073709551616=m:=by omega
  rw [h2]
  by_cases h3:m<=1099511627776
  ·rw [cA h3,cond_true,aF (n:=m) (by omega) (by omega),aF (n:=0 - m) (by omega) (by omega)]
   rcases hm with⟨qq1,qq2⟩ | ⟨qq1,qq2⟩
   ·rw [cT (fun h=>h.2 qq2),cond_false,qq1,if_neg (by omega),if_neg (by omega)]
   ·rw [cA ⟨qq1,qq2⟩,cond_true,qq1,if_neg (by omega),if_neg (by omega)];omega
  ·rw [cT h3,cond_false]
   rcases hm with⟨qq1,qq2⟩ | ⟨qq1,qq2⟩
   ·rw [cT (fun h=>h.2 qq2),cond_false,qq1,if_pos (by omega)]
   ·rw [cA ⟨qq1,qq2⟩,cond_true,qq1,if_neg (by omega),if_pos (by omega)]
 ·rw [beq_eq_false_iff_ne.2 h1,cond_false]
  rcases hm with⟨qq1,qq2⟩ | ⟨qq1,qq2⟩
  ·rw [cT (fun h=>h.2 qq2),cond_false,qq1,if_pos (by omega)]
  ·rw [cA ⟨qq1,qq2⟩,cond_true,qq1,if_neg (by omega),if_pos (by omega)]
theorem aNm {x n:Int} (hx:-1099511627776<=x/\x<=1099511627776)(hn:-1099511627776<=n/\n<=1099511627776):fD x n=mT x n:=by
 have hm:=aNk x n
 have ha:∀z:Int,(-1099511627776<=z/\z<=1099511627776)->(if(z:Int) < (W (0 - z)) then(W (0 - z)) else z)=if z < 0 then 0 - z else z:=by
  intro z hz
  rw [aF (n:=0 - z) (by omega) (by omega)]
  (repeat' split)<;>omega
 unfold fD mT
 rw [ha x hx,ha n hn]
 by_cases hx0:x=0
 ·subst hx0;simp [aF]
 by_cases hn0:n=0
 ·subst hn0;simp [aF]
 rw [bne_iff_ne.2 hx0,bne_iff_ne.2 hn0,cond_true,cond_true]
 have a1:1<=(if x < 0 then 0 - x else x)/\(if x < 0 then 0 - x else x)<=1099511627776:=by split<;>omega
 have a2:1<=(if n < 0 then 0 - n else n)/\(if n < 0 then 0 - n else n)<=1099511627776:=by split<;>omega
 have e:(!(decide (x < 0) == decide (n < 0)))=decide (x*n=-((if x < 0 then 0 - x else x)*(if n < 0 then 0 - n else n))/\¬((x < 0)=(n < 0))):=by
  by_cases h1:x < 0<;>by_cases h2:n < 0<;>simp [h1,h2] at hm ⊢<;>omega
 rw [e]
 generalize (if x < 0 then 0 - x else x)=ax at *
 generalize (if n < 0 then 0 - n else n)=an at *
 rw [Int.tdiv_eq_ediv_of_nonneg (by omega)]
 obtain⟨d1,d2,d3⟩:=lR (N:=1099511627776) (n:=ax) (by omega) (by omega)
 have d4:=Int.mul_ediv_add_emod 1099511627776 ax
 have d5:=Int.emod_lt_of_pos 1099511627776 (show 0 < ax by omega)
 rw [aF (n:=1099511627776 / ax) (by omega) (by omega)]
 have hbig:an > 1099511627776 / ax↔1099511627776 < ax*an:=by
  constructor
  ·intro h
   have:=Int.mul_le_mul_of_nonneg_left (show 1099511627776 / ax+1<=an by omega) (show 0<=ax by omega)
   rw [Int.mul_add,Int.mul_one] at this;omega
  ·intro h
   rcases Int.lt_or_le (1099511627776 / ax) an with h' | h'
   ·exact h'
   ·have:=Int.mul_le_mul_of_nonneg_left h' (show 0<=ax by omega)
    rw [Int.mul_comm] at d3;omega
 by_cases hb:an > 1099511627776 / ax
 ·rw [cA hb,cond_true]
  have:=hbig.1 hb
  rcases hm with⟨qq1,qq2⟩ | ⟨qq1,qq2⟩
  ·rw [cT (fun h=>h.2 qq2),cond_false,qq1,if_pos (by omega)]
  ·rw [cA ⟨qq1,qq2⟩,cond_true,qq1,if_neg (by omega),if_pos (by omega)]
 ·rw [cT hb,cond_false]
  have h1:ax*an<=1099511627776:=by
   rcases Int.lt_or_le 1099511627776 (ax*an) with h | h
   ·exact absurd (hbig.2 h) hb
   ·exact h
  have h2:0<=ax*an:=Int.mul_nonneg (by omega) (by omega)
  rcases hm with⟨qq1,qq2⟩ | ⟨qq1,qq2⟩<;>rw [qq1,if_neg (by omega),if_neg (by omega)]<;>exact aF (by omega) (by omega)
theorem aAl {x y n:Int} (h:x<=y)(hn:0<=n):mT x n<=mT y n:=by
 have:=Int.mul_le_mul_of_nonneg_right h hn
 unfold mT;(repeat' split)<;>omega
theorem aNn {x y n:Int} (h:x<=y)(hn:n<=0):mT y n<=mT x n:=by
 have:=Int.mul_le_mul_of_nonpos_right h hn
 unfold mT;(repeat' split)<;>omega
def scl (a:Int×Int)(n:Int):Int×Int:=if n < 0 then(mT a.2 n,mT a.1 n) else(mT a.1 n,mT a.2 n)
def vs (a:Int×Int):Prop:=-1099511627776<=a.1/\a.1<=a.2/\a.2<=1099511627776
theorem aJs {a:Int×Int} {n:Int} (ha:vs a)(hn:-1099511627776<=n/\n<=1099511627776):fE a n=oT (scl a n).1 (scl a n).2:=by
 obtain⟨h1,h2,h3⟩:=ha
 unfold fE fO aEd
 rw [aGh (a:=a.1) (b:=a.2) h1 h2 h3,cA (show n≥-1099511627776 from hn.1),cA hn.2,aNm (x:=a.1) (by omega) hn,aNm (x:=a.2) (by omega) hn]
 show((oT _ _).1,(oT _ _).2)=_
 unfold scl
 by_cases h:n < 0
 ·have:=aNn h2 (show n<=0 by omega)
  rw [if_pos h]
  simp only
  rw [show(if(mT a.2 n:Int) < mT a.1 n then mT a.2 n else mT a.1 n)=mT a.2 n by split<;>omega,show(if(mT a.1 n:Int) < mT a.2 n then mT a.2 n else mT a.1 n)=mT a.1 n by split<;>omega]
 ·have:=aAl h2 (show 0<=n by omega)
  rw [if_neg h]
  simp only
  rw [show(if(mT a.2 n:Int) < mT a.1 n then mT a.2 n else mT a.1 n)=mT a.1 n by split<;>omega,show(if(mT a.1 n:Int) < mT a.2 n then mT a.2 n else mT a.1 n)=mT a.2 n by split<;>omega]
theorem aWr {a b:Int} (h1:-1099511627776<=a)(h2:a<=b)(h3:b<=1099511627776):oU (a,b)=true:=aGh h1 h2 h3
theorem aJt (a b:Int):tA a b=oT a b:=rfl
theorem aQr {a:Int×Int} {n:Int} (ha:vs a)(hn:-1099511627776<=n/\n<=1099511627776):oX a n=oT (scl a n).1 (scl a n).2:=by
 obtain⟨h1,h2,h3⟩:=ha
 unfold oX
 rw [aWr (a:=a.1) (b:=a.2) h1 h2 h3,rP,cA hn,aNl (x:=a.1) (by omega) hn,aNl (x:=a.2) (by omega) hn,aJt,aJt]
 unfold scl
 by_cases h:n < 0
 ·rw [if_pos h,cA h];rfl
 ·rw [if_neg h,cT h];rfl
theorem vH (a b:Int):(oT a b=((a,b),0)/\vs (a,b))\/oT a b=((0,0),4):=by
 by_cases h:vs (a,b)
 ·exact Or.inl ⟨aCq h.1 h.2.1 h.2.2,h⟩
 ·right
  unfold oT
  have:F92 (a,b)=false:=by
   unfold F92
   by_cases h1:(a,b).1≥-1099511627776
   ·by_cases h2:(a,b).1<=(a,b).2
    ·rw [cA h1,cA h2,cond_true,cond_true];exact cT (fun h3=>h ⟨h1,h2,h3⟩)
    ·rw [cA h1,cT h2];rfl
   ·rw [cT h1];rfl
  rw [this];rfl
def ht (p:PN)(x:P3):Int:=dt (sb p.1 x) (cr (sb p.2.1 x) (sb p.2.2 x))
theorem aWs (p:PN) {d:Int} (h:0<=d/\d<=3):(bI (tN d) p).length<=64:=by
 have h1:=pT h p;have h2:=jG d;omega
theorem aNo {p q:PN} {d:Int} (h:kW p q d=0):0<=d/\d<=3:=vE (p:=p) (q:=q) (by rw [h];rfl)
theorem aUc {p q:PN} {d:Int} (h:kW p q d=0):W (128*qL (gD (kD p) (kD p)))≠0:=aCo (p:=p) (q:=q) (by rw [h];rfl)
noncomputable def aZf:Code:=match (dL [1,1,1,0,1,0] [] (Tryz.f33.body.getD .skip)).1 with
 | .rangeFunc _ _ a b=>a
 | _=>.skip
noncomputable def aZg:Code:=match (dL [1,1,1,0,1,0] [] (Tryz.f33.body.getD .skip)).1 with
 | .rangeFunc _ _ a b=>b
 | _=>.skip
noncomputable def aZh:List K:=(dL [1,1,1,0,1,0] [] (Tryz.f33.body.getD .skip)).2
def aUd (a0:Zt×Zt×Zt)(a1:Zt×Zt×Zt)(a2:Int):List (Int×Int)->LS
 | v1=>⟨[.u,.u,.u,(.p 0 0),.u,(.p 1 0),(.p 2 0),.u,.u,(.p 3 0),.u,.u,.u,.u,.u,.u,.u,.u,.u,.u,.u,(.f 102 [(.p 4 0),(.p 5 0)]),.u,.u,.u,.u,.u,.u,.u,.u,.u,.u,.u,.u],[(.live true false (k9 a0)),(.live true false [(iv a2)]),(.live true false [(iv 0),(iv 0)]),(.live true false [(.s 6 0 v1.length 2)]),(.live true false (k9 a1)),(.live true false [(iv a2)]),(.live true true (flat cM v1))]⟩
def aWt (a0:Zt×Zt×Zt)(a1:Zt×Zt×Zt)(a2:Int):List (Int×Int)->Zt×Zt×Zt->LS
 | v1,x=>⟨[.u,.u,.u,(.p 0 0),.u,(.p 1 0),.u,.u,.u,(.p 3 0),(.p 6 0),.u,.u,.u,.u,.u,.u,.u,.u,.u,.u,.u,.u,.u,.u,.u,.u,.u,.u,.u,.u,.u,.u,.u],[(.live true false (k9 a0)),(.live true false [(iv a2)]),(.live true false [(iv 0),(iv 0)]),(.live true false [(.s 7 0 v1.length 2)]),(.live true false (k9 a1)),(.live true false [(iv a2)]),(.live true false (k9 x)),(.live true true (flat cM v1))]⟩
def aCs (a0:Zt×Zt×Zt)(a1:Zt×Zt×Zt)(a2:Int):List (Int×Int)->Zt×Zt×Zt->List (Int×Int)
 | v1,x =>
  (v1++[(F65 a0 x a2)])
def G33 (a0:Zt×Zt×Zt)(a1:Zt×Zt×Zt)(a2:Int):List (Int×Int)->(Int×Int)×Int
 | v1 =>
  ((hH v1).1,(hH v1).2)
def aGi (a0:Zt×Zt×Zt)(a1:Zt×Zt×Zt)(a2:Int):Nat->List (Int×Int)->Prop
 | i,v1=>(v1.length=i)
def pW (a0:Zt×Zt×Zt)(a1:Zt×Zt×Zt)(a2:Int):(Int×Int)×Int :=
 (bif (((uR a0 a1 a2):Int) != 0) then
  ((0,0),(uR a0 a1 a2))
 else
  (G33 a0 a1 a2 ((bI (tN a2) a1).foldl (aCs a0 a1 a2) ([]:List (Int×Int)))))
theorem C33 (a0:Zt×Zt×Zt)(a1:Zt×Zt×Zt)(a2:Int):Con Tryz.prog 33 [(.a (k9 a0)),(.a (k9 a1)),(iv a2)] [] (.t [(.a (k2 (pW a0 a1 a2).1)),(iv (pW a0 a1 a2).2)]) []:=by
 cases h0:(((uR a0 a1 a2):Int) != 0) with
 | true =>
  have q0:=bne_iff_ne.1 h0
  have e:(pW a0 a1 a2)=((0,0),(uR a0 a1 a2)):=by simp only [pW,h0,aJ]
  rw [e]
  refine oL (n:=9) Tryz.func33 rfl (ent Tryz.func33 (by kernel_rfl) rfl) (by show 3<=Tryz.f33.ntmps;decide) (by kernel_rfl) trivial (fun cx hcx=>?_)
  exact aQd (T:=T0) hT hm (f:=5000) (orc:=[.call [] (iv (uR a0 a1 a2)) [],.d true]) [] [] [] hcx
   (obs:=[.call 64 [(.a (k9 a0)),(.a (k9 a1)),(iv a2)] [] (iv (uR a0 a1 a2)) [],.eq (((uR a0 a1 a2):Int) != 0) true]) (by kernel_rfl) ⟨(C64 a0 a1 a2),h0,trivial⟩
 | false =>
  have q0:=bne_eq_false_iff_eq.1 h0
  have e:(pW a0 a1 a2)=(G33 a0 a1 a2 ((bI (tN a2) a1).foldl (aCs a0 a1 a2) ([]:List (Int×Int)))):=by simp only [pW,h0,aJ]
  rw [e]
  refine oL (n:=9) Tryz.func33 rfl (ent Tryz.func33 (by kernel_rfl) rfl) (by show 3<=Tryz.f33.ntmps;decide) (by kernel_rfl) trivial (fun cx hcx=>?_)
  refine sU (T:=T0) hT hm (f:=5000) (orc:=[.call [] (iv (uR a0 a1 a2)) [],.d false,.call [] (.f 102 [(.p 0 0),(.p 1 0)]) [(.live true false (k9 a1)),(.live true false [(iv a2)])]]) [.cell 4 0 2] [3,5,6,9,21] [0,2,3,4,5,6,7] hcx (x:=.rangeFunc (.tmp 21) #[22] aZf aZg) (k':=aZh) (s':=aUd a0 a1 a2 ([]:List (Int×Int)))
   (obs:=[.call 64 [(.a (k9 a0)),(.a (k9 a1)),(iv a2)] [] (iv (uR a0 a1 a2)) [],.eq (((uR a0 a1 a2):Int) != 0) false,.call 67 [(.a (k9 a1)),(iv a2)] [] (.f 102 [(.p 0 0),(.p 1 0)]) [(.live true false (k9 a1)),(.live true false [(iv a2)])]]) (by kernel_rfl) ⟨(C64 a0 a1 a2),h0,(C67 a1 a2),trivial⟩ ?_
  refine aGb (xs:=bI (tN a2) a1) (enc:=aBu) (V:=List (Int×Int)) (R':=Empty) hcx rfl (by decide) [4,5] [(.p 0 0),(.p 1 0)] [(.live false false (k9 a1)),(.live false false [(iv a2)])] rfl rfl (aCk a1 a2 (by first | omega | exact pair_le h0)) (fun x=>SV.a (cP x)) zP aMg 6 (Nb rfl) (bS (by kernel_rfl))
   (aUd a0 a1 a2) ([]:List (Int×Int)) rfl (fun v1=>(by kernel_rfl)) (by kernel_rfl) (fun v v'=>(cX (cX (cX (cX (cX (cX (cX aCf)))))))) (fun v1=>(by kernel_rfl)) (fun v1=>(by kernel_rfl)) (fun v1=>(Nat.le_of_ble_eq_true (by kernel_rfl)))
   (fun v x=>.inl (aCs a0 a1 a2 v x)) (fun r=>r.elim) (fun v r=>r.elim) (fun r=>r.elim)
   (aGi a0 a1 a2) (by simp [aGi]) (aWt a0 a1 a2) (fun v1 x=>(by kernel_rfl)) (fun v1 x=>(by kernel_rfl)) (fun v1 x=>(Nat.le_of_ble_eq_true (by kernel_rfl)))
   (fun cx' l i v1 x QA hcx' hx hinv hg=>sV (T:=T0) hT hm (f:=5000) (orc:=[]) [] [3,5,9,10] [7,6] hcx' (obs:=[]) (by kernel_rfl) trivial hg)
   (fun cx' l i v1 x QB hcx' hx hinv hb1 hb2=>?_) (fun cx' d v1 hh hv hinv=>?_) (fun cx' d r hh hv=>?_)
  ·show Aw.Good _ _ _ _ _ _ _ (aWt a0 a1 a2 v1 x)
   simp only [aGi] at hinv
   have ha:=pair_le h0
   have hlt:=aS9 ha hx
   have e:(Sum.inl (aCs a0 a1 a2 v1 x):(List (Int×Int))⊕Empty)=.inl (v1++[(F65 a0 x a2)]):=by simp only [aCs]
   refine sV (T:=T0) hT hm (f:=5000) (orc:=[.call [] (.a (k2 (F65 a0 x a2))) []]) [] [] [9] hcx' (s':=⟨List.replicate 34 .u,[(.live true false (k9 a0)),(.live true false [(iv a2)]),(.live true false [(iv 0),(iv 0)]),(.live true false [(.s 6 0 (v1.length+1) 2)]),(.live true false (k9 a1)),(.live true false [(iv a2)]),(.live true true (flat cM v1++(k2 (F65 a0 x a2))))]⟩)
    (obs:=[.call 65 [(.a (k9 a0)),(.a (k9 x)),(iv a2)] [] (.a (k2 (F65 a0 x a2))) [],.pr ((flat cM v1).length=v1.length*2/\v1.length+1<=2 ^ 40/\(v1.length+1)*16<=2 ^ 47)]) (by kernel_rfl) ⟨(C65 a0 x a2  (aJn h0) (pair_le h0)),(show((flat cM v1).length=v1.length*2/\v1.length+1<=2 ^ 40/\(v1.length+1)*16<=2 ^ 47) from fN bW (by omega) (by omega)),trivial⟩ ?_
   have z0:(flat cM v1++(k2 (F65 a0 x a2)))=(flat cM (v1++[(F65 a0 x a2)])):=(bK (c:=cM) (l:=v1) (m:=[(F65 a0 x a2)])).symm
   have z1:(v1.length+1)=(v1++[(F65 a0 x a2)]).length:=dW v1 [(F65 a0 x a2)] rfl
   rw [z0,z1]
   exact hb1 _ e (by simp only [aGi,List.length_append,List.length_cons,List.length_nil];omega)
  ·rw [rL,Sum.inl.injEq] at hv;rw [hv]
   show Aw.Good _ _ _ _ _ _ _ (aUd a0 a1 a2 v1)
   simp only [aGi] at hinv
   have hcl:=aWs a1 (pair_le h0)
   have e:G33 a0 a1 a2 v1=((hH v1).1,(hH v1).2):=by simp only [G33]
   rw [e]
   exact aJc (T:=T0) hT hm (f:=5000) (orc:=[.call [6] (.t [(.a (k2 (hH v1).1)),(iv (hH v1).2)]) []]) [] [] [] hh hcx
    (obs:=[.call 68 [(.s 0 0 v1.length 2)] [(.live false true (flat cM v1))] (.t [(.a (k2 (hH v1).1)),(iv (hH v1).2)]) []]) (by kernel_rfl) ⟨(aVr v1 (by omega)),trivial⟩
  ·exact r.elim
noncomputable def aNp:Code:=(aC [1,1,1,1,0,1] [] (aG Tryz.f82) []).1
noncomputable def aNq:List K:=(aC [1,1,1,1,0,1] [] (aG Tryz.f82) []).2
def aHv (a0:Zt×Zt×Zt)(a1:Zt×Zt×Zt)(a2:Int)(v2c:List SV)(v2n:Nat)(v3:Int):LS:=⟨fU 43 [(2,(iv a2)),(3,(.p 0 0)),(6,(.p 1 0)),(9,(.s 2 0 v2n 2)),(10,(.s 3 0 (cF a1 a2).length 9)),(11,(iv v3))],[(.live true false (k9 a0)),(.live true false [(iv 0),(iv 0)]),(.live true true v2c),(.live true true (flat jR (cF a1 a2)))]⟩
def nU (a0:Zt×Zt×Zt)(a1:Zt×Zt×Zt)(a2:Int):(List (Int×Int))×Int->((List (Int×Int))×Int)⊕((Int×Int)×Int)
 | (v2,v3) =>
  (bif (decide ((v3:Int) < (((cF a1 a2).length:Nat):Int))) then
   (.inl ((v2++[(tF a0 a2 ((cF a1 a2).getD (tN v3) dF))]),(v3+1)))
  else
   (.inr ((iP v2).1,(iP v2).2)))
theorem aWu (a0:Zt×Zt×Zt)(a1:Zt×Zt×Zt)(a2:Int) {cx:Cx} (hcx:cx.base=0):∀(n:Nat) (v2:List (Int×Int)) (v3:Int),(0<=v3)/\(kW a0 a1 a2=0)/\(v2.length=tN v3)/\(v3<=(cF a1 a2).length)->tN ((((cF a1 a2).length:Nat):Int) - v3) < n->Aw.Good Tryz.prog none 9 (bodyPost Tryz.prog Tryz.f82 (RR cx (.t [(.a (k2 (aB (nU a0 a1 a2) n (v2,v3)).1)),(iv (aB (nU a0 a1 a2) n (v2,v3)).2)]) [] [])) cx [] (.l aNp n::aNq) (aHv a0 a1 a2 (flat cM v2) v2.length v3):=by
 intro n
 induction n with
 | zero=>intro v2 v3 hi hn;exact absurd hn (fZ _)
 | succ n ih =>
  intro v2 v3 hi hn
  refine aH ?_
  have hcl:=aM2 (p:=a1) (aNo (p:=a0) (q:=a1) (d:=a2) (by omega))
  cases h0:(decide ((v3:Int) < (((cF a1 a2).length:Nat):Int))) with
  | true =>
   have q0:=bS h0
   have e:=Eq.refl (nU a0 a1 a2 (v2,v3));conv at e=>rhs;simp only [nU,h0,aJ]
   rw [aA e]
   refine ba [.d h0,.i v3 ((cF a1 a2).length),.L dT (cF a1 a2) v3 0 9,.c [] (aV3 a0 a2 ((cF a1 a2).getD (tN v3) dF)  (aNo (p:=a0) (q:=a1) (d:=a2) (by omega)) (aUc (p:=a0) (q:=a1) (d:=a2) (by omega))),.p (show((flat cM v2).length=v2.length*2/\v2.length+1<=2 ^ 40/\(v2.length+1)*16<=2 ^ 47) from fN bW (by omega) (by omega))] [] [2,3,6,9,10,11] [0,1,5,3] hcx (m:=n) aNp (aNq) (aHv a0 a1 a2 (flat cM v2++(k2 (tF a0 a2 ((cF a1 a2).getD (tN v3) dF)))) (v2.length+1) (W (v3+1))) (by kernel_rfl) ?_
   have z0:(W (v3+1))=(v3+1):=aF (by omega) (by omega)
   have z1:(flat cM v2++(k2 (tF a0 a2 ((cF a1 a2).getD (tN v3) dF))))=(flat cM (v2++[(tF a0 a2 ((cF a1 a2).getD (tN v3) dF))])):=(bK (c:=cM) (l:=v2) (m:=[(tF a0 a2 ((cF a1 a2).getD (tN v3) dF))])).symm
   have z2:(v2.length+1)=(v2++[(tF a0 a2 ((cF a1 a2).getD (tN v3) dF))]).length:=dW v2 [(tF a0 a2 ((cF a1 a2).getD (tN v3) dF))] rfl
   rw [z0,z1,z2]
   exact ih (v2++[(tF a0 a2 ((cF a1 a2).getD (tN v3) dF))]) (v3+1) (by refine⟨?_,?_,?_,?_⟩<;>(try simp only [Ls])<;>first | omega | assumption | simp) (by(try simp only [Ls]);omega)
  | false =>
   have q0:=cE h0
   have e:=Eq.refl (nU a0 a1 a2 (v2,v3));conv at e=>rhs;simp only [nU,h0,aJ]
   rw [aD,e]
   exact rt [.d h0,.c [2] (aTq v2 (by omega))] [] [] hcx (by kernel_rfl)
def xW (a0:Zt×Zt×Zt)(a1:Zt×Zt×Zt)(a2:Int):(Int×Int)×Int :=
 (bif (((kW a0 a1 a2):Int) != 0) then
  ((0,0),(kW a0 a1 a2))
 else
  (aB (nU a0 a1 a2) (tN ((((cF a1 a2).length:Nat):Int) - 0)+1) (([]:List (Int×Int)),0)))
theorem C82 (a0:Zt×Zt×Zt)(a1:Zt×Zt×Zt)(a2:Int):Con Tryz.prog 82 [(.a (k9 a0)),(.a (k9 a1)),(iv a2)] [] (.t [(.a (k2 (xW a0 a1 a2).1)),(iv (xW a0 a1 a2).2)]) []:=by
 refine aK Tryz.func82 (by kernel_rfl) fun cx hcx=>?_
 let t0:List (St Tryz.prog):=[.c [] (aVw a0 a1 a2)]
 cases h0:(((kW a0 a1 a2):Int) != 0) with
 | true =>
  have q0:=bne_iff_ne.1 h0
  have e:=Eq.refl (xW a0 a1 a2);conv at e=>rhs;simp only [xW,h0,aJ]
  rw [e]
  exact rt (t0++[.d h0]) [] [] hcx (by kernel_rfl)
 | false =>
  have q0:=bne_eq_false_iff_eq.1 h0
  have e:=Eq.refl (xW a0 a1 a2);conv at e=>rhs;simp only [xW,h0,aJ]
  rw [e]
  refine en (t0++[.d h0,.c [] (aVx a1 a2  (vE h0))]) [.slot 9 2] [2,3,6,9,10,11] [0,2,4,3] hcx aNp (aNq) (aHv a0 a1 a2 (flat cM ([]:List (Int×Int))) 0 0) (tN ((((cF a1 a2).length:Nat):Int) - 0)+1) (by kernel_rfl) ?_
  exact aWu a0 a1 a2 hcx (tN ((((cF a1 a2).length:Nat):Int) - 0)+1) ([]:List (Int×Int)) 0 (by refine⟨?_,?_,?_,?_⟩<;>(try simp only [Ls])<;>first | omega | assumption | simp) (by(try simp only [Ls]);omega)
def jT:List (Int×Int)->Int×Int->Int×Int
 | [],v=>v
 | a::l,v=>jT l (v.1+a.1,v.2+a.2)
theorem aEe:∀(l:List (Int×Int)) (v:Int×Int),jT l v=(v.1+(l.map (·.1)).sum,v.2+(l.map (·.2)).sum)
 | [],v=>by simp [jT]
 | a::l,v=>by rw [jT,aEe l];simp only [List.map_cons,List.sum_cons,Int.add_assoc]
def okE (a:Int×Int):Prop:=0<=a.1/\a.1<=a.2/\a.2<=536870913
theorem aEf:∀{l:List (Int×Int)} {v:Int×Int},(∀a∈l,okE a)->xG v l.length->xG (jT l v) 0
 | [],v,_,h=>h
 | a::l,v,hl,h=>aEf (l:=l) (fun c hc=>hl c (List.mem_cons_of_mem _ hc)) (tM h (hl a List.mem_cons_self))
theorem rS {R:Type} [Inhabited R] {S:Zt->Zt⊕R} {G:Int×Int->R} {L:List (Int×Int)} (hl:∀a∈L,okE a)
 (hS:∀(i:Nat) (a:Int×Int),L[i]? = some a->∀v1 v2:Int,S (v1,v2,(i:Int))=.inl (W (v1+a.1),W (v2+a.2),((i+1:Nat):Int)))
 (hE:∀v1 v2:Int,S (v1,v2,(L.length:Int))=.inr (G (v1,v2))) :
 ∀(l:List (Int×Int)) (i n:Nat) (v:Int×Int),L.drop i=l->i<=L.length->l.length < n->xG v l.length->aB S n (v.1,v.2,(i:Int))=G (jT l v)
 | [],i,n,v,hd,hi',hn,h=>by
  have:i=L.length:=by have:=List.drop_eq_nil_iff.1 hd;omega
  obtain⟨n,rfl⟩:∃m,n=m+1:=⟨n - 1,by simp only [List.length_nil] at hn;omega⟩
  subst this
  rw [aO (hE _ _)];rfl
 | c::l,i,n,v,hd,hi',hn,h=>by
  have hc:L[i]? = some c:=by
   have:(L.drop i)[0]? = some c:=by rw [hd];rfl
   simpa using this
  obtain⟨hlt,hce⟩:=List.getElem?_eq_some_iff.1 hc
  obtain⟨n,rfl⟩:∃m,n=m+1:=⟨n - 1,by omega⟩
  have h1:=tM h (hl c (hce▸List.getElem_mem hlt))
  have h2:=h1
  unfold xG at h2;simp only at h2
  rw [aA (hS i c hc v.1 v.2),aF (by omega) (by omega),aF (by omega) (by omega)]
  exact rS hl hS hE l (i+1) n _ (by rw [←List.drop_drop,hd];rfl) (by omega) (by simp only [List.length_cons] at hn;omega) h1
section
variable {l : List (Int × Int)}
theorem aJu {a:Int×Int} (h:okE a):F92 a=true:=aGh (a:=a.1) (b:=a.2) (by have:=h.1;omega) h.2.1 (by have:=h.2.2;omega)
theorem xX (hn:l.length<=64):xG (0,0) l.length:=by unfold xG;simp only;omega
theorem aZi (hl:∀a∈l,okE a):lO l=0:=by
 have key:∀(m:List (Int×Int)) (i n:Nat),l.drop i=m->i<=l.length->m.length < n->aB (dI l) n (i:Int)=0:=by
  intro m
  induction m with
  | nil =>
   intro i n hd hi hn
   have:i=l.length:=by have:=List.drop_eq_nil_iff.1 hd;omega
   obtain⟨n,rfl⟩:∃m,n=m+1:=⟨n - 1,by simp only [List.length_nil] at hn;omega⟩
   subst this
   refine aO ?_
   simp only [dI]
   rw [cT (Int.lt_irrefl _),cond_false]
  | cons c m ih =>
   intro i n hd hi hn
   have hc:l[i]? = some c:=by
    have:(l.drop i)[0]? = some c:=by rw [hd];rfl
    simpa using this
   obtain⟨hlt,hce⟩:=List.getElem?_eq_some_iff.1 hc
   obtain⟨n,rfl⟩:∃m,n=m+1:=⟨n - 1,by omega⟩
   have hg:l.getD i dF=c:=by rw [eU,hc];rfl
   have e:dI l (i:Int)=.inl ((i+1:Nat):Int):=by
    simp only [dI]
    rw [cA (show((i:Nat):Int) < (l.length:Nat) by omega),cond_true,sJ,hg,aJu (hl c (hce▸List.getElem_mem hlt))];rfl
   rw [aA e]
   exact ih (i+1) n (by rw [←List.drop_drop,hd];rfl) (by omega) (by simp only [List.length_cons] at hn;omega)
 unfold lO
 exact key l 0 _ rfl (Nat.zero_le _) (by omega)
theorem aWv (hl:∀a∈l,okE a)(hn:l.length<=64):cH l=((jT l (0,0)).1,(jT l (0,0)).2,0):=by
 unfold cH
 rw [cT (by omega),cond_false,aZi hl]
 show aB _ _ (((0,0):Int×Int).1,((0,0):Int×Int).2,((0:Nat):Int))=_
 refine rS (G:=fun v=>(v.1,v.2,0)) hl (fun i a hi v1 v2=>?_) (fun v1 v2=>?_) l 0 _ (0,0) rfl (Nat.zero_le _) (by omega) (xX hn)
 ·obtain⟨hlt,hce⟩:=List.getElem?_eq_some_iff.1 hi
  have hg:l.getD i dF=a:=by rw [eU,hi];rfl
  simp only [gC]
  rw [cA (show((i:Nat):Int) < (l.length:Nat) by omega),cond_true,sJ,hg];rfl
 ·simp only [gC]
  rw [cT (Int.lt_irrefl _),cond_false]
theorem aWw (hl:∀a∈l,okE a)(hn:l.length<=64):cO l=((jT l (0,0)).1,(jT l (0,0)).2,0):=by
 unfold cO
 rw [cT (by omega),cond_false]
 show aB _ _ (((0,0):Int×Int).1,((0,0):Int×Int).2,((0:Nat):Int))=_
 refine rS (G:=fun v=>(v.1,v.2,0)) hl (fun i a hi v1 v2=>?_) (fun v1 v2=>?_) l 0 _ (0,0) rfl (Nat.zero_le _) (by omega) (xX hn)
 ·obtain⟨hlt,hce⟩:=List.getElem?_eq_some_iff.1 hi
  have hg:l.getD i dF=a:=by rw [eU,hi];rfl
  simp only [eW]
  rw [cA (show((i:Nat):Int) < (l.length:Nat) by omega),cond_true,sJ,hg,show oU a=true from aJu (hl a (hce▸List.getElem_mem hlt))];rfl
 ·simp only [eW]
  rw [cT (Int.lt_irrefl _),cond_false]
theorem aNr {v:Int×Int} {n:Int} (hn:n=1\/n=4\/n=16\/n=64)(h:xG v 0):-1099511627776<=v.1 / n/\v.1 / n<=-(-v.2 / n)/\-(-v.2 / n)<=1099511627776:=by
 unfold xG at h;rcases hn with rfl | rfl | rfl | rfl<;>omega
theorem aQs (hl:∀a∈l,okE a) {n:Int} (hn:n=1\/n=4\/n=16\/n=64)(hk:(l.length:Int)=n):hH l=(avg (jT l (0,0)) n,0):=by
 have h64:l.length<=64:=by omega
 have ho:=aEf hl (xX h64)
 have hb:=aNr hn ho
 unfold xG at ho
 unfold hH
 rw [aWv hl h64,hk,beq_eq_false_iff_ne.2 (show n≠0 by omega),aT5 hn (by simp only;omega),aWf hn (by simp only;omega),aCq hb.1 hb.2.1 hb.2.2];rfl
theorem aQt (hl:∀a∈l,okE a) {n:Int} (hn:n=1\/n=4\/n=16\/n=64)(hk:(l.length:Int)=n):iP l=(avg (jT l (0,0)) n,0):=by
 have h64:l.length<=64:=by omega
 have ho:=aEf hl (xX h64)
 have hb:=aNr hn ho
 unfold xG at ho
 unfold iP
 rw [aWw hl h64,hk,beq_eq_false_iff_ne.2 (show n≠0 by omega),aT6 hn (by simp only;omega),aWg hn (by simp only;omega),aNb hb.1 hb.2.1 hb.2.2];rfl
end
theorem aEg (lo hi:PN->Int):∀(l:List PN) (v:Int×Int),aBy lo hi l v=(v.1+(l.map lo).sum,v.2+(l.map hi).sum)
 | [],v=>by simp [aBy]
 | a::l,v=>by rw [aBy,aEg lo hi l];simp only [List.map_cons,List.sum_cons,Int.add_assoc]
theorem aNs {p q:PN} {d:Int} (hp:vp p=0)(hd:0<=d/\d<=3):okE (vG p q d):=by
 have hb:=aUa (q:=q) hp hd
 have hk:=aNd (p:=p) hd
 have ho:=xV hb hk
 have hs:(aBy (bLo d q) (bHi (pQ p d) d q) (bI d.toNat p) (0,0)).2<=536870913*(sc d*sc d):=by
  rw [aEg,←pT hd p]
  simp only [Int.zero_add]
  have key:∀l:List PN,(∀c∈l,bHi (pQ p d) d q c<=536870913)->(l.map (bHi (pQ p d) d q)).sum<=536870913*(l.length:Nat):=by
   intro l
   induction l with
   | nil=>intro _;simp
   | cons c l ih =>
    intro h
    have h1:=h c List.mem_cons_self;have h2:=ih (fun c hc=>h c (List.mem_cons_of_mem _ hc))
    simp only [List.map_cons,List.sum_cons,List.length_cons];omega
  exact key _ (fun c hc=>(hb c hc).2.2)
 unfold vG okE avg
 unfold xG at ho
 have hn:=jG d
 generalize aBy (bLo d q) (bHi (pQ p d) d q) (bI d.toNat p) (0,0)=v at *
 simp only
 rcases hn with h | h | h | h<;>rw [h] at hs ⊢<;>omega
theorem foldl_map {α β:Type} (g:α->β):∀(l:List α) (a:List β),l.foldl (fun v x=>v++[g x]) a=a++l.map g
 | [],a=>by simp
 | x::l,a=>by rw [List.foldl_cons,foldl_map g l];simp
noncomputable def aAm (p q:PN)(d:Int):List (Int×Int):=(bI d.toNat q).map fun b=>vG p b d
noncomputable def aNt (p q:PN)(d:Int):(Int×Int)×Int:=if pk p q d=0 then(avg (jT (aAm p q d) (0,0)) (sc d*sc d),0) else((0,0),pk p q d)
theorem aJv {p q:PN} {d:Int} (hp:vp p=0)(hd:0<=d/\d<=3):∀a∈aAm p q d,okE a:=by
 intro a ha
 obtain⟨b,_,rfl⟩:=List.mem_map.1 ha
 exact aNs hp hd
theorem aAn {p q:PN} {d:Int} (hd:0<=d/\d<=3):(((aAm p q d).length:Nat):Int)=sc d*sc d:=by
 unfold aAm;rw [List.length_map];exact pT hd q
theorem aGj (p q:PN)(d:Int):pW p q d=aNt p q d:=by
 unfold pW aNt
 rw [xU]
 by_cases h:pk p q d=0
 ·obtain⟨h1,h2,h3⟩:=tI h
  have hd:0<=d/\d<=3:=by omega
  rw [if_pos h,h]
  have e:(bI d.toNat q).foldl (aCs p q d) []=aAm p q d:=by
   have:=foldl_map (fun b=>F65 p b d) (bI d.toNat q) []
   rw [List.nil_append] at this
   refine Eq.trans this ?_
   unfold aAm
   exact List.map_congr_left (fun b hb=>aNi h1 ((pV (jK h2).1 hd hb).mono (by omega)) hd)
  rw [e]
  show(hH (aAm p q d))=_
  exact aQs (aJv h1 hd) (jG d) (aAn hd)
 ·rw [if_neg h,bne_iff_ne.2 h,cond_true]
theorem aNu (p q:PN)(d:Int):xW p q d=aNt p q d:=by
 unfold xW aNt
 rw [pS]
 by_cases h:pk p q d=0
 ·obtain⟨h1,h2,h3⟩:=tI h
  have hd:0<=d/\d<=3:=by omega
  have hL:=aV1 (jK h2).1 hd
  rw [if_pos h,h]
  have key:∀(m:List PN) (i n:Nat) (v:List (Int×Int)),(bI d.toNat q).drop i=m->i<=(bI d.toNat q).length->m.length < n ->
   aB (nU p q d) n (v,(i:Int))=iP (v++m.map fun b=>vG p b d):=by
   intro m
   induction m with
   | nil =>
    intro i n v hdr hi hn
    have:i=(bI d.toNat q).length:=by have:=List.drop_eq_nil_iff.1 hdr;omega
    obtain⟨n,rfl⟩:∃m,n=m+1:=⟨n - 1,by simp only [List.length_nil] at hn;omega⟩
    subst this
    refine aO ?_
    simp only [nU]
    rw [hL,cT (Int.lt_irrefl _),cond_false,List.map_nil,List.append_nil]
   | cons c m ih =>
    intro i n v hdr hi hn
    have hc:(bI d.toNat q)[i]? = some c:=by
     have:((bI d.toNat q).drop i)[0]? = some c:=by rw [hdr];rfl
     simpa using this
    obtain⟨hlt,hce⟩:=List.getElem?_eq_some_iff.1 hc
    have hm:c∈bI d.toNat q:=hce▸List.getElem_mem hlt
    obtain⟨n,rfl⟩:∃m,n=m+1:=⟨n - 1,by omega⟩
    have hg:(bI d.toNat q).getD i dF=c:=by rw [eU,hc];rfl
    have e:nU p q d (v,(i:Int))=.inl (v++[vG p c d],((i+1:Nat):Int)):=by
     simp only [nU]
     rw [hL,cA (show((i:Nat):Int) < ((bI d.toNat q).length:Nat) by omega),cond_true,sJ,hg,aSe h1 ((pV (jK h2).1 hd hm).mono (by omega)) hd];rfl
    rw [aA e,ih (i+1) n _ (by rw [←List.drop_drop,hdr];rfl) (by omega) (by simp only [List.length_cons] at hn;omega)]
    simp only [List.map_cons,List.append_assoc,List.singleton_append]
  show aB (nU p q d) _ ([],((0:Nat):Int))=_
  rw [key (bI d.toNat q) 0 _ [] rfl (Nat.zero_le _) (by rw [hL];omega),List.nil_append]
  exact aQt (aJv h1 hd) (jG d) (aAn hd)
 ·rw [if_neg h,bne_iff_ne.2 h,cond_true]
end Go.Proofs.YtcmdknehplnpfaaGreat
namespace Go.Proofs.YtcmdknehplnpfaaGreat
open Go.Proofs Go.Aw Go.RowKit
set_option maxRecDepth 100000
def F83 (a0:Int):Int :=
 (if(a0:Int) < (W (0 - a0)) then(W (0 - a0)) else a0)
theorem C83 (a0:Int):Con Tryz.prog 83 [(iv a0)] [] (iv (F83 a0)) []:=by
 refine aK Tryz.func83 (by kernel_rfl) fun cx hcx=>?_
 have e:=Eq.refl (F83 a0);conv at e=>rhs;simp only [F83]
 rw [e]
 exact rt [] [] [] hcx (by kernel_rfl)
def F49 (a0:Zt)(a1:Int):Bool :=
 (bif (decide (((F83 a0.1):Int)<=a1)) then
  (bif (decide (((F83 a0.2.1):Int)<=a1)) then
   (bif (decide (((F83 a0.2.2):Int)<=a1)) then
    (bif (decide ((a0.1:Int)≥(W (0 - a1)))) then
     (bif (decide ((a0.2.1:Int)≥(W (0 - a1)))) then
      (decide ((a0.2.2:Int)≥(W (0 - a1))))
     else
      false)
    else
     false)
   else
    false)
  else
   false)
 else
  false)
theorem C49 (a0:Zt)(a1:Int):Con Tryz.prog 49 [(.a (k3 a0)),(iv a1)] [] (.v (.bool (F49 a0 a1))) []:=by
 refine aK Tryz.func49 (by kernel_rfl) fun cx hcx=>?_
 let t0:List (St Tryz.prog):=[.c [] (C83 a0.1)]
 cases h0:(decide (((F83 a0.1):Int)<=a1)) with
 | true =>
  have q0:=bS h0
  let t1:List (St Tryz.prog):=(t0++[.d h0,.c [] (C83 a0.2.1)])
  cases h1:(decide (((F83 a0.2.1):Int)<=a1)) with
  | true =>
   have q1:=bS h1
   let t2:List (St Tryz.prog):=(t1++[.d h1,.c [] (C83 a0.2.2)])
   cases h2:(decide (((F83 a0.2.2):Int)<=a1)) with
   | true =>
    have q2:=bS h2
    let t3:List (St Tryz.prog):=(t2++[.d h2])
    cases h3:(decide ((a0.1:Int)≥(W (0 - a1)))) with
    | true =>
     have q3:=bS h3
     let t4:List (St Tryz.prog):=(t3++[.d h3])
     cases h4:(decide ((a0.2.1:Int)≥(W (0 - a1)))) with
     | true =>
      have q4:=bS h4
      have e:=Eq.refl (F49 a0 a1);conv at e=>rhs;simp only [F49,h0,h1,h2,h3,h4,aJ]
      rw [e]
      exact rt (t4++[.d h4]) [] [] hcx (by kernel_rfl)
     | false =>
      have q4:=cE h4
      have e:=Eq.refl (F49 a0 a1);conv at e=>rhs;simp only [F49,h0,h1,h2,h3,h4,aJ]
      rw [e]
      exact rt (t4++[.d h4]) [] [] hcx (by kernel_rfl)
    | false =>
     have q3:=cE h3
     have e:=Eq.refl (F49 a0 a1);conv at e=>rhs;simp only [F49,h0,h1,h2,h3,aJ]
     rw [e]
     exact rt (t3++[.d h3]) [] [] hcx (by kernel_rfl)
   | false =>
    have q2:=cE h2
    have e:=Eq.refl (F49 a0 a1);conv at e=>rhs;simp only [F49,h0,h1,h2,aJ]
    rw [e]
    exact rt (t2++[.d h2]) [] [] hcx (by kernel_rfl)
  | false =>
   have q1:=cE h1
   have e:=Eq.refl (F49 a0 a1);conv at e=>rhs;simp only [F49,h0,h1,aJ]
   rw [e]
   exact rt (t1++[.d h1]) [] [] hcx (by kernel_rfl)
 | false =>
  have q0:=cE h0
  have e:=Eq.refl (F49 a0 a1);conv at e=>rhs;simp only [F49,h0,aJ]
  rw [e]
  exact rt (t0++[.d h0]) [] [] hcx (by kernel_rfl)
def F50 (a0:Zt):Int :=
 (W ((W ((W (a0.1*a0.1))+(W (a0.2.1*a0.2.1))))+(W (a0.2.2*a0.2.2))))
theorem C50 (a0:Zt):Con Tryz.prog 50 [(.a (k3 a0))] [] (iv (F50 a0)) []:=by
 refine aK Tryz.func50 (by kernel_rfl) fun cx hcx=>?_
 have e:=Eq.refl (F50 a0);conv at e=>rhs;simp only [F50]
 rw [e]
 exact rt [] [] [] hcx (by kernel_rfl)
def F51 (a0:Zt)(a1:Zt):Zt :=
 ((W (a0.1 - a1.1)),(W (a0.2.1 - a1.2.1)),(W (a0.2.2 - a1.2.2)))
theorem C51 (a0:Zt)(a1:Zt):Con Tryz.prog 51 [(.a (k3 a0)),(.a (k3 a1))] [] (.a (k3 (F51 a0 a1))) []:=by
 refine aK Tryz.func51 (by kernel_rfl) fun cx hcx=>?_
 have e:=Eq.refl (F51 a0 a1);conv at e=>rhs;simp only [F51]
 rw [e]
 exact rt [] [] [] hcx (by kernel_rfl)
abbrev PU:=PN×Int×Int
noncomputable def pv (p:PU):Int:=if vp p.1=0 then(if(0<=p.2.1/\p.2.1<=1000)/\(-100<=p.2.2/\p.2.2<=100) then 0 else 1) else vp p.1
section
variable {n s t : Int}
end
end Go.Proofs.YtcmdknehplnpfaaGreat
namespace Go.Proofs.YtcmdknehplnpfaaGreat
open Go.Proofs Go.Aw Go.RowKit
set_option maxRecDepth 100000
def mU {α β:Type} (g:α->β×Int):List α->List β->List β⊕Int
 | [],l=>.inl l
 | c::m,l=>if(g c).2=0 then mU g m (l++[(g c).1]) else .inr (g c).2
def qM {β R:Type} (G:List β->R)(E:Int->R):List β⊕Int->R
 | .inl m=>G m
 | .inr e=>E e
theorem vI {α β R:Type} [Inhabited R] {g:α->β×Int} {S:List β×Int->(List β×Int)⊕R} {G:List β->R} {E:Int->R} {L:List α}
 (hS:∀(i:Nat) (c:α),L[i]? = some c->∀l:List β,S (l,(i:Int))=bif ((g c).2 != 0) then .inr (E (g c).2) else .inl (l++[(g c).1],((i+1:Nat):Int)))
 (hE:∀l:List β,S (l,(L.length:Int))=.inr (G l)) :
 ∀(k:List α) (i n:Nat) (l:List β),L.drop i=k->i<=L.length->k.length < n->aB S n (l,(i:Int))=qM G E (mU g k l)
 | [],i,n,l,hd,hi',hn=>by
  have:i=L.length:=by have:=List.drop_eq_nil_iff.1 hd;omega
  obtain⟨n,rfl⟩:∃m,n=m+1:=⟨n - 1,by simp only [List.length_nil] at hn;omega⟩
  subst this
  rw [aO (hE _)];rfl
 | c::k,i,n,l,hd,hi',hn=>by
  have hc:L[i]? = some c:=by
   have:(L.drop i)[0]? = some c:=by rw [hd];rfl
   simpa using this
  obtain⟨hlt,hce⟩:=List.getElem?_eq_some_iff.1 hc
  obtain⟨n,rfl⟩:∃m,n=m+1:=⟨n - 1,by omega⟩
  have h1:=hS i c hc l
  unfold mU
  by_cases h:(g c).2=0
  ·rw [h] at h1
   rw [aA h1,if_pos h]
   exact vI hS hE k (i+1) n _ (by rw [←List.drop_drop,hd];rfl) (by omega) (by simp only [List.length_cons] at hn;omega)
  ·rw [bne_iff_ne.2 h,cond_true] at h1
   rw [aO h1,if_neg h];rfl
theorem nG {α β:Type} {g:α->β×Int}:∀{k:List α} {l m:List β},mU g k l=.inl m->m=l++k.map (fun c=>(g c).1)/\∀c∈k,(g c).2=0
 | [],l,m,h=>by simp only [mU] at h;cases h;simp
 | c::k,l,m,h=>by
  unfold mU at h
  split at h
  ·rename_i h0
   obtain⟨h1,h2⟩:=nG h
   refine⟨by rw [h1];simp,fun x hx=>?_⟩
   rcases List.mem_cons.1 hx with rfl | hx
   ·exact h0
   ·exact h2 x hx
  ·cases h
open Go.ChangeShapes Go.WideShapes Go.ChangeAt
section
variable {H : Type} {enc : TypeId × Value → H} {P : Program} {w : World}
def tP (w:World)(es:Nat)(v:Value)(nss:List (List Int)):Prop :=
 (∀ns∈nss,ns.length=es)/\nss.length<=2^63-1 /\
 ((v=.slice none 0 0/\nss=[])\/∃b o cap,v=.slice (some ⟨b,o,none⟩) nss.length cap/\nss.length<=cap/\∀(i:Nat) (x:Value),((nss.flatten).map (Value.int .i64))[i]? = some x->w.cell? ⟨b,o+i,none⟩=some x)
theorem aAo {es b:Nat}:∀(nss:List (List Int)) (o:Nat),(∀(j:Nat) (ns:List Int),nss[j]? = some ns->ns.length=es/\∀(q:Nat) (x:Value),(ns.map (Value.int .i64))[q]? = some x->w.cell? ⟨b,o+j*es+q,none⟩=some x) ->
 ∀(i:Nat) (x:Value),((nss.flatten).map (Value.int .i64))[i]? = some x->w.cell? ⟨b,o+i,none⟩=some x
 | [],o,_,i,x,hi=>by simp at hi
 | ns::l,o,h,i,x,hi=>by
  obtain⟨h1,h2⟩:=h 0 ns rfl
  rw [List.flatten_cons,List.map_append] at hi
  by_cases hlt:i < ns.length
  ·rw [List.getElem?_append_left (by simpa using hlt)] at hi
   have:=h2 i x hi
   simpa using this
  ·rw [List.getElem?_append_right (by simpa using hlt)] at hi
   have:=aAo l (o+es) (fun j ms hj=>⟨(h (j+1) ms hj).1,fun q y hq=>by
    have:=(h (j+1) ms hj).2 q y hq
    rw [show o+es+j*es+q=o+(j+1)*es+q by rw [Nat.add_mul];omega];exact this⟩) (i - es) x (by simpa [h1] using hi)
   rw [show o+es+(i - es)=o+i by omega] at this;exact this
def rho (es:Nat):Value->Option (Nat×Nat×Nat)
 | .slice (some a) _ cap=>some (a.block,a.off,cap*es)
 | _=>none
theorem aCt {es:Nat} {v:Value} {nss:List (List Int)} {ρ:Env} {k:Nat} (h:tP w es v nss)(hk:ρ k=rho es v):Rel ρ (.s k 0 nss.length es) v:=by
 obtain⟨h1,h2,⟨rfl,rfl⟩ | ⟨b,o,cap,rfl,h3,h4⟩⟩:=h
 ·simp only [Rel];exact .inl ⟨hk,rfl,trivial⟩
 ·simp only [Rel];exact .inr ⟨b,o,cap*es,cap,0,none,hk,rfl,h3,by omega,fun _=>⟨rfl,rfl⟩⟩
theorem wR {es:Nat}:∀{nss:List (List Int)},(∀ns∈nss,ns.length=es)->nss.flatten.length=nss.length*es
 | [],_=>by simp
 | ns::l,h=>by
  rw [List.flatten_cons,List.length_append,wR (fun m hm=>h m (List.mem_cons_of_mem _ hm)),h ns List.mem_cons_self,List.length_cons,Nat.add_mul];omega
theorem aHw {es:Nat} {v:Value} {nss:List (List Int)} {ρ:Env} {k:Nat} {M:Nat->Prop} (h:tP w es v nss)(hk:ρ k=rho es v)(hM:∀b,M b->w.heap.size<=b):BRep ρ M w k (.live false true ((nss.flatten).map iv)):=by
 obtain⟨h1,h2,⟨rfl,rfl⟩ | ⟨b,o,cap,rfl,h3,h4⟩⟩:=h
 ·exact .inl ⟨hk,rfl⟩
 ·have hlen:=wR h1
  refine .inr ⟨b,o,cap*es,(nss.flatten).map (Value.int .i64),hk,⟨?_,fun hne hm=>?_⟩,aJo _,h4⟩
  ·rw [List.length_map,hlen];exact Nat.mul_le_mul_right _ h3
  ·have hb:=hM b hm
   obtain⟨x,hx⟩:=List.exists_mem_of_ne_nil _ hne
   obtain⟨i,hi⟩:=List.getElem?_of_mem hx
   have:=World.block_lt_of_cell? w ⟨b,o+i,none⟩ (h4 i x hi)
   exact absurd this (Nat.not_lt_of_le hb)
theorem aEh {α:Type} {c:α->List SV} {f:List Int->α} {es:Nat} (hc:∀ns:List Int,ns.length=es->c (f ns)=ns.map iv):∀{nss:List (List Int)},(∀ns∈nss,ns.length=es)->flat c (nss.map f)=(nss.flatten).map iv
 | [],_=>rfl
 | ns::l,h=>by
  have:=aEh hc (nss:=l) (fun m hm=>h m (List.mem_cons_of_mem _ hm))
  unfold flat at *
  rw [List.map_cons,List.flatMap_cons,this,hc ns (h ns List.mem_cons_self),List.flatten_cons,List.map_append]
end
theorem aCu:∀ns:List Int,Plain (ns.map iv)
 | []=>fun k hk=>by simp [SV.hasl] at hk
 | n::l=>fun k hk=>by
  simp only [List.map_cons,SV.hasl] at hk
  rcases hk with hk | hk
  ·simp [iv,SV.has] at hk
  ·exact aCu l k hk
theorem aHx {P:Program} {f:Nat} {args:List SV} {vs:List Value} {x:Value} {bs:List BK} (hc:Con P f args bs (.v x) []) (ρ:Env) {W:World} (hr:Rels ρ args vs)(hown:∀i,¬(bs.getD i .un).own)
 (hb:(∀b,(dC ρ W bs).mine b->W.heap.size<=b)->∀i,BRep ρ (dC ρ W bs).mine W i (bs.getD i .un)) (hpl:∀i,(bs.getD i .un).pl) (hnf:∀b,ρ.fz b=none) :
 Calls P f vs.toArray W fun e W'=>e=.returned x/\Below W.heap.size W W':=by
 have hM:∀b,(dC ρ W bs).mine b->W.heap.size<=b:=by
  rintro b (h | ⟨i,n,hi,_⟩)
  ·exact h
  ·exact absurd hi (hown i)
 refine(hc.2 ρ W vs hr (hb hM) hpl (fun i j b n b' n' _ h=>absurd h (hown i)) (fun b o h=>by rw [hnf b] at h;cases h)).mono fun e W' h=>?_
 obtain⟨ρ',v,rfl,_,hv,hk,_⟩:=h
 refine⟨by rw [show v=x from hv],hk.os,hk.tape,hk.output,hk.size,fun k hk'=>hk.block k hk' ?_⟩
 rintro ⟨i,n,hi,_⟩
 exact hown i hi
end Go.Proofs.YtcmdknehplnpfaaGreat
namespace Go.Proofs.YtcmdknehplnpfaaGreat
open Go.Proofs Go.Aw Go.RowKit
set_option maxRecDepth 100000
theorem aNv {α:Type} {c:α->List SV} (hc:∀x,(c x).all SV.one=true) {l:List α}:(flat c l).all SV.one=true:=by
 rw [List.all_eq_true]
 intro x hx
 obtain⟨a,_,ha⟩:=List.mem_flatMap.1 hx
 exact List.all_eq_true.1 (hc a) x ha
theorem pX {α:Type} {c:α->List SV} {es:Nat} (hc:∀x,(c x).length=es)(l:List α):(flat c l).length=l.length*es:=oJ hc l
def okw (v:Int×Int)(n:Nat):Prop:=(-4611686018427387904+1099511627776*n<=v.1/\v.1+1099511627776*n<=4611686018427387904)/\(-4611686018427387904+1099511627776*n<=v.2/\v.2+1099511627776*n<=4611686018427387904)
theorem aNw {v a:Int×Int} {n:Nat} (h:okw v (n+1))(ha:vs a):okw (v.1+a.1,v.2+a.2) n:=by unfold okw vs at *;simp only;omega
theorem aWx {v:Int×Int} {n:Nat} (h:okw v n):W v.1=v.1/\W v.2=v.2:=by unfold okw at h;exact⟨aF (by omega) (by omega),aF (by omega) (by omega)⟩
theorem aSg {n:Nat} (h:n<=10000):okw (0,0) n:=by unfold okw;simp only;omega
theorem aAp {R:Type} [Inhabited R] {S:Zt->Zt⊕R} {G:Int×Int->R} {L:List (Int×Int)} (hl:∀a∈L,vs a)
 (hS:∀(i:Nat) (a:Int×Int),L[i]? = some a->∀v1 v2:Int,S (v1,v2,(i:Int))=.inl (W (v1+a.1),W (v2+a.2),((i+1:Nat):Int)))
 (hE:∀v1 v2:Int,S (v1,v2,(L.length:Int))=.inr (G (v1,v2))) :
 ∀(l:List (Int×Int)) (i n:Nat) (v:Int×Int),L.drop i=l->i<=L.length->l.length < n->okw v l.length->aB S n (v.1,v.2,(i:Int))=G (jT l v):=by
 intro l
 induction l with
 | nil =>
  intro i n v hd hi' hn h
  have:i=L.length:=by have:=List.drop_eq_nil_iff.1 hd;omega
  obtain⟨n,rfl⟩:∃m,n=m+1:=⟨n - 1,by simp only [List.length_nil] at hn;omega⟩
  subst this
  rw [aO (hE _ _)];rfl
 | cons c l ih =>
  intro i n v hd hi' hn h
  have hc:L[i]? = some c:=by
   have:(L.drop i)[0]? = some c:=by rw [hd];rfl
   simpa using this
  obtain⟨hlt,hce⟩:=List.getElem?_eq_some_iff.1 hc
  obtain⟨n,rfl⟩:∃m,n=m+1:=⟨n - 1,by omega⟩
  have h1:okw (v.1+c.1,v.2+c.2) l.length:=aNw h (hl c (hce▸List.getElem_mem hlt))
  have hw:=aWx h1
  simp only at hw
  rw [aA (hS i c hc v.1 v.2),hw.1,hw.2]
  exact ih (i+1) n (v.1+c.1,v.2+c.2) (by rw [←List.drop_drop,hd];rfl) (by omega) (by simp only [List.length_cons] at hn;omega) h1
section
variable {l : List (Int × Int)}
theorem aNx {a:Int×Int} (h:vs a):F92 a=true:=aGh (a:=a.1) (b:=a.2) h.1 h.2.1 h.2.2
theorem aZj (hl:∀a∈l,vs a):lO l=0:=by
 have key:∀(m:List (Int×Int)) (i n:Nat),l.drop i=m->i<=l.length->m.length < n->aB (dI l) n (i:Int)=0:=by
  intro m
  induction m with
  | nil =>
   intro i n hd hi hn
   have:i=l.length:=by have:=List.drop_eq_nil_iff.1 hd;omega
   obtain⟨n,rfl⟩:∃m,n=m+1:=⟨n - 1,by simp only [List.length_nil] at hn;omega⟩
   subst this
   refine aO ?_
   simp only [dI]
   rw [cT (Int.lt_irrefl _),cond_false]
  | cons c m ih =>
   intro i n hd hi hn
   have hc:l[i]? = some c:=by
    have:(l.drop i)[0]? = some c:=by rw [hd];rfl
    simpa using this
   obtain⟨hlt,hce⟩:=List.getElem?_eq_some_iff.1 hc
   obtain⟨n,rfl⟩:∃m,n=m+1:=⟨n - 1,by omega⟩
   have hg:l.getD i dF=c:=by rw [eU,hc];rfl
   have e:dI l (i:Int)=.inl ((i+1:Nat):Int):=by
    simp only [dI]
    rw [cA (show((i:Nat):Int) < (l.length:Nat) by omega),cond_true,sJ,hg,aNx (hl c (hce▸List.getElem_mem hlt))];rfl
   rw [aA e]
   exact ih (i+1) n (by rw [←List.drop_drop,hd];rfl) (by omega) (by simp only [List.length_cons] at hn;omega)
 unfold lO
 exact key l 0 _ rfl (Nat.zero_le _) (by omega)
theorem aUe (hl:∀a∈l,vs a)(hn:l.length<=10000):cH l=((jT l (0,0)).1,(jT l (0,0)).2,0):=by
 unfold cH
 rw [cT (by omega),cond_false,aZj hl]
 show aB _ _ (((0,0):Int×Int).1,((0,0):Int×Int).2,((0:Nat):Int))=_
 refine aAp (G:=fun v=>(v.1,v.2,0)) hl (fun i a hi v1 v2=>?_) (fun v1 v2=>?_) l 0 _ (0,0) rfl (Nat.zero_le _) (by omega) (aSg hn)
 ·obtain⟨hlt,hce⟩:=List.getElem?_eq_some_iff.1 hi
  have hg:l.getD i dF=a:=by rw [eU,hi];rfl
  simp only [gC]
  rw [cA (show((i:Nat):Int) < (l.length:Nat) by omega),cond_true,sJ,hg];rfl
 ·simp only [gC]
  rw [cT (Int.lt_irrefl _),cond_false]
theorem aUf (hl:∀a∈l,vs a)(hn:l.length<=10000):cO l=((jT l (0,0)).1,(jT l (0,0)).2,0):=by
 unfold cO
 rw [cT (by omega),cond_false]
 show aB _ _ (((0,0):Int×Int).1,((0,0):Int×Int).2,((0:Nat):Int))=_
 refine aAp (G:=fun v=>(v.1,v.2,0)) hl (fun i a hi v1 v2=>?_) (fun v1 v2=>?_) l 0 _ (0,0) rfl (Nat.zero_le _) (by omega) (aSg hn)
 ·obtain⟨hlt,hce⟩:=List.getElem?_eq_some_iff.1 hi
  have hg:l.getD i dF=a:=by rw [eU,hi];rfl
  simp only [eW]
  rw [cA (show((i:Nat):Int) < (l.length:Nat) by omega),cond_true,sJ,hg,show oU a=true from aNx (hl a (hce▸List.getElem_mem hlt))];rfl
 ·simp only [eW]
  rw [cT (Int.lt_irrefl _),cond_false]
noncomputable def aHy (l:List (Int×Int)):(Int×Int)×Int:=oT (jT l (0,0)).1 (jT l (0,0)).2
theorem aWy (hl:∀a∈l,vs a)(hn:l.length<=10000):jE l=aHy l:=by
 unfold jE
 rw [aUe hl hn];rfl
theorem aSh (hl:∀a∈l,vs a)(hn:l.length<=10000):eI l=aHy l:=by
 unfold eI
 rw [aUf hl hn];rfl
end
theorem aUg {l:List (Int×Int)} (h:(aHy l).2=0):aHy l=(jT l (0,0),0)/\vs (jT l (0,0)):=by
 unfold aHy at *
 rcases vH (jT l (0,0)).1 (jT l (0,0)).2 with⟨h1,h2⟩ | h1
 ·exact⟨h1,h2⟩
 ·rw [h1] at h;exact absurd h (by decide)
theorem aGk {a:Int×Int} {n:Int} (h:(fE a n).2=0):vs (fE a n).1:=by
 have h0:=h
 unfold fE at h0
 cases h1:((fO a:Int) != 0) with
 | true=>rw [h1,cond_true] at h0;exact absurd h0 (bne_iff_ne.1 h1)
 | false =>
  rw [h1,cond_false] at h0
  cases h2:(!(aEd n)) with
  | true=>rw [h2,cond_true] at h0;exact absurd h0 (by decide)
  | false =>
   obtain⟨x,y,e⟩:∃x y,fE a n=oT x y:=⟨_,_,by unfold fE;rw [h1,cond_false,h2,cond_false]⟩
   rw [e] at h ⊢
   rcases vH x y with⟨e1,e2⟩ | e1
   ·rw [e1];exact e2
   ·rw [e1] at h;exact absurd h (by decide)
theorem xY {α β:Type} {g:α->β×Int}:∀{k:List α} {l:List β} {e:Int},mU g k l=.inr e->e≠0
 | [],l,e,h=>by simp only [mU] at h;cases h
 | c::k,l,e,h=>by
  unfold mU at h
  split at h
  ·exact xY h
  ·rename_i h0;cases h;exact h0
end Go.Proofs.YtcmdknehplnpfaaGreat
namespace Go.Proofs.YtcmdknehplnpfaaGreat
open Go.Proofs Go.Aw Go.RowKit
set_option maxRecDepth 100000
theorem dX {α:Type} {c:α->List SV} {es:Nat} (hc:∀x,(c x).length=es) {L:List α} {i o:Nat} {xs:List SV} {d y:α} (hi:i < L.length)(ho:o+xs.length<=es)(hy:c y=splice (c (L.getD i d)) o xs) :
 splice (flat c L) (0+i*es+o) xs=flat c (L.set i y):=by
 induction L generalizing i with
 | nil=>simp at hi
 | cons x L ih =>
  cases i with
  | zero =>
   have hy':c y=splice (c x) o xs:=hy
   have hx:=hc x
   simp only [flat,List.flatMap_cons,List.set_cons_zero,hy']
   unfold splice
   simp only [Nat.zero_mul,Nat.zero_add]
   rw [List.take_append_of_le_length (by omega),List.drop_append_of_le_length (by omega)]
   simp [List.append_assoc]
  | succ i =>
   have h:=ih (i:=i) (by simpa using hi) hy
   have hx:=hc x
   simp only [flat,List.flatMap_cons,List.set_cons_succ] at h ⊢
   rw [←h]
   unfold splice
   have e1:0+(i+1)*es+o=(c x).length+(0+i*es+o):=by rw [hx,Nat.add_mul];omega
   rw [e1,List.take_length_add_append,show(c x).length+(0+i*es+o)+xs.length=(c x).length+(0+i*es+o+xs.length) by omega,List.drop_length_add_append]
   simp [List.append_assoc]
theorem gT {α:Type} {c:α->List SV} {es:Nat} (hc:∀x,(c x).length=es) {L:List α} {i o n:Nat} (hi:i < L.length)(ho:o+n<=es):0+i*es+o+n<=(flat c L).length:=by
 rw [oJ hc]
 have:=Nat.mul_le_mul_right es (show i+1<=L.length by omega)
 rw [Nat.add_mul] at this
 omega
open Go.ChangeShapes Go.WideShapes Go.ChangeAt
inductive CK where
 | i | b | s (es:Nat)
deriving DecidableEq
def vJ (P:Program):Nat->TypeId->Option (List CK)
 | 0,_=>none
 | k+1,t=>match P.underlying t with
  | some (.int .i64)=>some [.i]
  | some .bool=>some [.b]
  | some (.slice e)=>bif wQ P 6 e then some [.s (P.cellsOf e)] else none
  | some (.struct fs)=>fs.toList.foldr (fun f r o=>bif f.offset == o then match vJ P k f.type with
   | some a=>bif a.length == P.cellsOf f.type then(r (o+P.cellsOf f.type)).map (a++·) else none
   | none=>none else none) (fun o=>bif o == P.cellsOf t then some [] else none) 0
  | _=>none
section
variable {H : Type} {enc : TypeId × Value → H} {P : Program} {w : World}
theorem aHz {e:TypeId} {t:TypeId} {v:Value} {fuel:Nat} {x:DataW H×List MemPlace} (ht:P.underlying t=some (.slice e))(hf:wQ P 6 e=true)
 (hsp:∀a len cap,v=.slice (some a) len cap->a.spot=none) (hx:DataW.trod enc P w 0 (fun _=>true) true fuel t [v]=some x):∃nss,tP w (P.cellsOf e) v nss:=by
 rcases Go.Deep.open_slice ht hx with⟨hc,_⟩ | ⟨a',len',cap',m,n,D,Pl,hc,hb,hl,hm,hmm,_,hall⟩
 ·simp only [List.cons.injEq,and_true] at hc
  exact⟨[],fun ns h=>by simp at h,by simp,.inl ⟨hc,rfl⟩⟩
 ·simp only [List.cons.injEq,and_true] at hc
  subst hc
  have hsp:=hsp a' len' cap' rfl
  obtain⟨b,o,sp⟩:=a'
  simp only at hsp
  subst hsp
  simp only [if_true] at hmm
  obtain⟨N,hN⟩:=Go.Deep.choose_lt (α:=List Int) (p:=fun i ns=>ns.length=P.cellsOf e/\∀(q:Nat) (x:Value),(ns.map (Value.int .i64))[q]? = some x->w.cell? ⟨b,o+i*P.cellsOf e+q,none⟩=some x) (n:=len') (fun i hi=>by
   obtain⟨cs',h1,h2⟩:=hall i (by omega)
   obtain⟨_,ns,rfl⟩:=vF 6 e n cs' _ hf h2
   obtain⟨_,hlen,hcell⟩:=World.cells?_some h1
   refine⟨ns,by simpa using hlen,fun q x hq=>?_⟩
   have hq':=(List.getElem?_eq_some_iff.1 hq).1
   have:=hcell q (by rw [←hlen];omega)
   rw [Go.Aw.add_eq,Go.Aw.add_eq] at this
   rw [this,hq])
  refine⟨(List.range len').map N,fun ns h=>?_,?_,.inr ⟨b,o,cap',?_,?_,?_⟩⟩
  ·obtain⟨i,hi,rfl⟩:=List.mem_map.1 h
   exact(hN i (by simpa using hi)).1
  ·have:maxLen=9223372036854775807:=rfl
   simp;omega
  ·simp
  ·simpa using hl
  ·refine aAo (es:=P.cellsOf e) _ o (fun j ns hj=>?_)
   have hjl:=(List.getElem?_eq_some_iff.1 hj).1
   simp only [List.length_map,List.length_range] at hjl
   have:N j=ns:=by simpa [hjl] using hj
   subst this
   exact hN j hjl
def aNy (w:World):CK->Value->Prop
 | .i,v=>∃n:Int,v=.int .i64 n
 | .b,v=>∃x:Bool,v=.bool x
 | .s es,v=>∃nss,tP w es v nss
def CellsAre (w:World):List CK->List Value->Prop
 | [],[]=>True
 | k::ks,v::vs=>aNy w k v/\CellsAre w ks vs
 | _,_=>False
theorem CellsAre.app:∀{ks ks':List CK} {vs vs':List Value},CellsAre w ks vs->CellsAre w ks' vs'->CellsAre w (ks++ks') (vs++vs')
 | [],_,[],_,_,h=>h
 | [],_,_::_,_,h,_=>h.elim
 | _::_,_,[],_,h,_=>h.elim
 | _::_,_,_::_,_,⟨h1,h2⟩,h=>⟨h1,CellsAre.app h2 h⟩
theorem aAq:∀(k:Nat) (t:TypeId) (ks:List CK) (fuel:Nat) (cs:List Value) (x:DataW H×List MemPlace),vJ P k t=some ks ->
 (∀v∈cs,∀a len cap,v=.slice (some a) len cap->a.spot=none)->DataW.trod enc P w 0 (fun _=>true) true fuel t cs=some x->CellsAre w ks cs
 | 0,_,_,_,_,_,h,_,_=>by simp [vJ] at h
 | k+1,t,ks,fuel,cs,x,h,hsp,hx=>by
  unfold vJ at h
  split at h
  ·rename_i ht
   obtain⟨n,rfl,rfl,_⟩:=DataW.trod_int ht hx
   obtain rfl:[CK.i]=ks:=Option.some.inj h
   exact⟨⟨n,rfl⟩,trivial⟩
  ·rename_i ht
   obtain⟨n,rfl,rfl⟩:=DataW.trod_bool ht hx
   obtain rfl:[CK.b]=ks:=Option.some.inj h
   exact⟨⟨n,rfl⟩,trivial⟩
  ·rename_i e ht
   cases hf:wQ P 6 e with
   | false=>rw [hf] at h;cases h
   | true =>
    rw [hf] at h
    obtain rfl:[CK.s (P.cellsOf e)]=ks:=Option.some.inj h
    have:∃v,cs=[v]:=by
     rcases Go.Deep.open_slice ht hx with⟨hc,_⟩ | ⟨a',len',cap',m,n,D,Pl,hc,_⟩<;>exact⟨_,hc⟩
    obtain⟨v,rfl⟩:=this
    exact⟨aHz ht hf (hsp v List.mem_cons_self) hx,trivial⟩
  ·rename_i fs ht
   obtain⟨xs,m,rfl,rfl,hl,hlen,hF⟩:=DataW.trod_struct ht hx
   have key:∀(l:List Field) (o:Nat) (ks:List CK),
    l.foldr (fun f r o=>bif f.offset == o then match vJ P k f.type with
     | some a=>bif a.length == P.cellsOf f.type then(r (o+P.cellsOf f.type)).map (a++·) else none
     | none=>none else none) (fun o=>bif o == P.cellsOf t then some [] else none) o=some ks ->
    (∀f∈l,∃y,DataW.trod enc P w 0 (fun _=>true) true m f.type ((cs.drop f.offset).take (P.cellsOf f.type))=some y)->CellsAre w ks (cs.drop o):=by
    intro l
    induction l with
    | nil =>
     intro o ks h _
     simp only [List.foldr_nil] at h
     cases ho:o == P.cellsOf t with
     | false=>rw [ho] at h;cases h
     | true =>
      rw [ho] at h
      obtain rfl:[]=ks:=Option.some.inj h
      rw [beq_iff_eq.1 ho,←hl,List.drop_length];trivial
    | cons f l ih =>
     intro o ks h hy
     simp only [List.foldr_cons] at h
     cases ho:f.offset == o with
     | false=>rw [ho] at h;cases h
     | true =>
      rw [ho] at h
      simp only [cond_true] at h
      split at h
      ·rename_i a ha
       cases hc:a.length == P.cellsOf f.type with
       | false=>rw [hc] at h;cases h
       | true =>
        rw [hc] at h
        simp only [cond_true,Option.map_eq_some_iff] at h
        obtain⟨ks',h1,rfl⟩:=h
        obtain⟨y,hy0⟩:=hy f List.mem_cons_self
        rw [beq_iff_eq.1 ho] at hy0
        have g1:=aAq k f.type a m _ y ha (fun v hv=>hsp v (List.mem_of_mem_drop (List.mem_of_mem_take hv))) hy0
        have g2:=ih _ _ h1 (fun f' hf'=>hy f' (List.mem_cons_of_mem _ hf'))
        have:=g1.app g2
        rwa [←List.drop_drop,List.take_append_drop] at this
      ·cases h
   have:=key fs.toList 0 ks h (fun f hf=>by
    obtain⟨i,hi⟩:=List.getElem?_of_mem hf
    have:=hF i f (by simpa using hi)
    have hil:i < xs.length:=by rw [hlen];have:=(List.getElem?_eq_some_iff.1 hi).1;simpa using this
    rw [List.getElem?_eq_getElem hil] at this
    exact⟨_,this⟩)
   simpa using this
  ·cases h
theorem aK5 {r:Reach} {b0:Nat} {u:TypeId} {a:Addr} {len cap:Nat} (h:Cell.okWide P w r b0 u (.slice (some a) len cap)):a.spot=none:=by
 unfold Cell.okWide at h
 split at h<;>try (exact h.elim)
 all_goals try (simp_all;done)
 unfold Cell.ok at h
 split at h<;>simp_all [World.has]
theorem aH0 {r:Reach} {b0:Nat} {t:TypeId} {fs:Array Field} {v:Value} {d:DataW H} {ps:List MemPlace} (ks:List CK)(ht:P.underlying t=some (.struct fs))(hk:vJ P 6 t=some ks)
 (hval:Value.okWide P w r b0 t v) (hd:DataW.Trod enc P w 0 (fun _=>true) true t v d ps):(∃cs,v=.agg cs.toArray/\CellsAre w ks cs)/\∀x∈ps,x.block < w.heap.size:=by
 obtain⟨fuel,hx⟩:=hd
 refine⟨?_,DataW.trod_lt fuel t _ _ hx⟩
 simp only [Value.okWide,ht] at hval
 obtain⟨cs,rfl,hs,ts,_,_,hall⟩:=hval
 refine⟨cs.toList,by simp,aAq 6 t ks fuel _ _ hk (fun v hv a len cap e=>?_) (by simpa [Value.cells] using hx)⟩
 obtain⟨i,hi⟩:=List.getElem?_of_mem hv
 obtain⟨u,_,hu⟩:=hall i v (by simpa using hi)
 subst e
 exact aK5 hu
theorem aAr {k:CK} {ks:List CK} {cs:List Value} (h:CellsAre w (k::ks) cs):∃v vs,cs=v::vs/\aNy w k v/\CellsAre w ks vs:=by
 cases cs with
 | nil=>exact h.elim
 | cons v vs=>exact⟨v,vs,rfl,h.1,h.2⟩
theorem aK6 {cs:List Value} (h:CellsAre w [] cs):cs=[]:=by
 cases cs with
 | nil=>rfl
 | cons v vs=>exact h.elim
end
def aWz (l:List (Nat×Value×List (List Int))):Env:=⟨fun k=>match l[k]? with
 | some x=>rho x.1 x.2.1
 | none=>none,fun _=>none⟩
theorem aH1 {P:Program} {f:Nat} {args:List SV} {vs:List Value} {x:Value} {W:World} (l:List (Nat×Value×List (List Int)))
 (hc:Con P f args (l.map fun y=>.live false true ((y.2.2.flatten).map iv)) (.v x) []) (hs:∀y∈l,tP W y.1 y.2.1 y.2.2) (hr:Rels (aWz l) args vs) :
 Calls P f vs.toArray W fun e W'=>e=.returned x/\Below W.heap.size W W':=by
 have hget:∀i,((l.map fun y=>BK.live false true ((y.2.2.flatten).map iv)).getD i .un=.un)\/∃y,l[i]? = some y/\(l.map fun y=>BK.live false true ((y.2.2.flatten).map iv)).getD i .un=.live false true ((y.2.2.flatten).map iv):=by
  intro i
  rw [eU,List.getElem?_map]
  cases h:l[i]? with
  | none=>exact .inl rfl
  | some y=>exact .inr ⟨y,rfl,rfl⟩
 refine aHx hc _ hr (fun i=>?_) (fun hM i=>?_) (fun i=>?_) (fun _=>rfl)
 ·rcases hget i with h | ⟨y,_,h⟩<;>rw [h]<;>simp [BK.own]
 ·rcases hget i with h | ⟨y,h1,h⟩
  ·rw [h];simp [BRep]
  ·rw [h]
   exact aHw (hs y (List.mem_of_getElem? h1)) (by simp only [aWz,h1]) hM
 ·rcases hget i with h | ⟨y,_,h⟩
  ·rw [h];simp [BK.pl]
  ·rw [h];exact aCu _
def gG {α σ R:Type} (f:σ->α->σ⊕R):List α->σ->σ⊕R
 | [],v=>.inl v
 | c::l,v=>match f v c with
  | .inl v'=>gG f l v'
  | .inr r=>.inr r
def xH {σ R:Type} (G:σ->R):σ⊕R->R
 | .inl v=>G v
 | .inr r=>r
theorem aAs {α σ T R:Type} [Inhabited R] (pk:σ->Int->T) {S:T->T⊕R} (f:σ->α->σ⊕R)(G:σ->R) {L:List α} (I:Nat->σ->Prop)
 (hS:∀(i:Nat) (c:α),L[i]? = some c->∀v,I i v->S (pk v (i:Int))=match f v c with | .inl v'=>.inl (pk v' ((i+1:Nat):Int)) | .inr r=>.inr r)
 (hI:∀(i:Nat) (c:α),L[i]? = some c->∀v v',I i v->f v c=.inl v'->I (i+1) v')
 (hE:∀v,I L.length v->S (pk v (L.length:Int))=.inr (G v)) :
 ∀(k:List α) (i n:Nat) (v:σ),L.drop i=k->i<=L.length->k.length < n->I i v->aB S n (pk v (i:Int))=xH G (gG f k v):=by
 intro k
 induction k with
 | nil =>
  intro i n v hd hi' hn hv
  have:i=L.length:=by have:=List.drop_eq_nil_iff.1 hd;omega
  obtain⟨n,rfl⟩:∃m,n=m+1:=⟨n - 1,by simp only [List.length_nil] at hn;omega⟩
  subst this
  rw [aO (hE _ hv)];rfl
 | cons c k ih =>
  intro i n v hd hi' hn hv
  have hc:L[i]? = some c:=by
   have:(L.drop i)[0]? = some c:=by rw [hd];rfl
   simpa using this
  obtain⟨hlt,hce⟩:=List.getElem?_eq_some_iff.1 hc
  obtain⟨n,rfl⟩:∃m,n=m+1:=⟨n - 1,by omega⟩
  have hs:=hS i c hc v hv
  unfold gG
  cases hf:f v c with
  | inl v' =>
   rw [hf] at hs
   rw [aA hs]
   exact ih (i+1) n v' (by rw [←List.drop_drop,hd];rfl) (by omega) (by simp only [List.length_cons] at hn;omega) (hI i c hc v v' hv hf)
  | inr r =>
   rw [hf] at hs
   rw [aO hs];rfl
theorem aX {α σ T R:Type} [Inhabited R] (pk:σ->Int->T) {S:T->T⊕R} (f:σ->α->σ⊕R)(G:σ->R) {L:List α} (I:Nat->σ->Prop) {n:Nat} {v:σ}
 (hS:∀(i:Nat) (c:α),L[i]? = some c->∀v,I i v->S (pk v (i:Int))=match f v c with | .inl v'=>.inl (pk v' ((i+1:Nat):Int)) | .inr r=>.inr r)
 (hI:∀(i:Nat) (c:α),L[i]? = some c->∀v v',I i v->f v c=.inl v'->I (i+1) v')
 (hE:∀v,I L.length v->S (pk v (L.length:Int))=.inr (G v)) (hn:L.length < n) (hv:I 0 v):aB S n (pk v 0)=xH G (gG f L v) :=
 aAs pk f G I hS hI hE L 0 n v rfl (Nat.zero_le _) hn hv
abbrev inF (n:Nat)(f:Zt):Prop:=(0<=f.1/\f.1 < (n:Int))/\(0<=f.2.1/\f.2.1 < (n:Int))/\0<=f.2.2/\f.2.2 < (n:Int)
def jU (m:List Zt×List Zt)(k:Int):Prop:=∀i:Int,0<=i->i < k->inF m.1.length (m.2.getD (tN i) dF)
theorem jH {m:List Zt×List Zt}:jU m 0:=fun i h1 h2=>absurd h1 (by omega)
theorem dN {m:List Zt×List Zt} {k:Int} (h:jU m k)(hf:inF m.1.length (m.2.getD (tN k) dF)):jU m (k+1):=fun i h1 h2=>by
 by_cases e:i=k
 ·subst e;exact hf
 ·exact h i h1 (by omega)
theorem gK {m:List Zt×List Zt} {k j:Int} (h:jU m k)(hj:j<=k):jU m j:=fun i h1 h2=>h i h1 (by omega)
theorem aGl {m:List Zt×List Zt} {k i:Int} (h:jU m k)(h1:0<=i)(h2:i < k):inF m.1.length (m.2.getD (tN i) dF):=h i h1 h2
end Go.Proofs.YtcmdknehplnpfaaGreat
namespace Go.Proofs.YtcmdknehplnpfaaGreat
open Go.Proofs Go.Aw Go.RowKit
set_option maxRecDepth 100000
theorem gN {a b c:Int} (h:(!oR a b c)=false):b<=a/\a<=c:=by
 unfold oR at h
 by_cases h1:b<=a
 ·by_cases h2:a<=c
  ·exact⟨h1,h2⟩
  ·rw [cA h1,cT h2] at h;simp at h
 ·rw [cT h1] at h;simp at h
theorem aAt {a b c:Int} (h:(!F39 a b c)=false):b<=a/\a<=c:=by
 unfold F39 at h
 by_cases h1:b<=a
 ·by_cases h2:a<=c
  ·exact⟨h1,h2⟩
  ·rw [cA (show a≥b from h1),cT h2] at h;simp at h
 ·rw [cT (show ¬a≥b from h1)] at h;simp at h
theorem hU {n:Nat} {f:Zt} (hn:n<=64)(h0:(!oR f.1 0 (W ((n:Int) - 1)))=false)(h1:(!oR f.2.1 0 (W ((n:Int) - 1)))=false)(h2:(!oR f.2.2 0 (W ((n:Int) - 1)))=false):inF n f:=by
 have hw:W ((n:Int) - 1)=(n:Int) - 1:=aF (by omega) (by omega)
 have g0:=gN h0;have g1:=gN h1;have g2:=gN h2
 rw [hw] at g0 g1 g2
 exact⟨⟨g0.1,by omega⟩,⟨g1.1,by omega⟩,g2.1,by omega⟩
def eE (x:Zt):List SV:=[(iv x.1),(iv x.2.1),(iv x.2.2)]
theorem aU (x:Zt):(eE x).length=3:=rfl
def mI (a0:Zm)(a1:Zt):Zt×Zt×Zt :=
 ((a0.1.getD (tN a1.1) dF),(a0.1.getD (tN a1.2.1) dF),(a0.1.getD (tN a1.2.2) dF))
theorem C89 (a0:Zm)(a1:Zt)(l0_1:a0.1.length<=2^63-1)(l0_2:a0.2.length<=2^63-1)(hf:inF a0.1.length a1):Con Tryz.prog 89 [(.a [(.s 0 0 a0.1.length 3),(.s 1 0 a0.2.length 3)]),(.a (k3 a1))] [(.live false true (flat dQ a0.1)),(.live false true (flat eE a0.2))] (.a (k9 (mI a0 a1))) []:=by
 refine aK Tryz.func89 (by kernel_rfl) fun cx hcx=>?_
 have e:=Eq.refl (mI a0 a1);conv at e=>rhs;simp only [mI]
 rw [e]
 exact rt [.i 0 3 (by decide),.i (a1.1) (a0.1.length),.L bQ a0.1 a1.1 0 3,.i 1 3 (by decide),.i (a1.2.1) (a0.1.length),.L bQ a0.1 a1.2.1 0 3,.i 2 3 (by decide),.i (a1.2.2) (a0.1.length),.L bQ a0.1 a1.2.2 0 3] [] [] hcx (by kernel_rfl)
def F55 (a0:Zm)(a1:Zt):Int :=
 (bif (!(oR a1.1 0 (W ((a0.1.length:Int) - 1)))) then
  5
 else
  (bif (!(oR a1.2.1 0 (W ((a0.1.length:Int) - 1)))) then
   5
  else
   (bif (!(oR a1.2.2 0 (W ((a0.1.length:Int) - 1)))) then
    5
   else
    (bif ((((F88 (mI (a0.1,a0.2) a1)).1:Int) == 0)&&((((F88 (mI (a0.1,a0.2) a1)).2.1:Int) == 0)&&((((F88 (mI (a0.1,a0.2) a1)).2.2:Int) == 0)&&true))) then
     6
    else
     0))))
theorem C55 (a0:Zm)(a1:Zt)(l0_1:a0.1.length<=2^63-1)(l0_2:a0.2.length<=2^63-1)(hn:a0.1.length<=64):Con Tryz.prog 55 [(.a [(.s 0 0 a0.1.length 3),(.s 1 0 a0.2.length 3)]),(.a (k3 a1))] [(.live false true (flat dQ a0.1)),(.live false true (flat eE a0.2))] (iv (F55 a0 a1)) []:=by
 refine aK Tryz.func55 (by kernel_rfl) fun cx hcx=>?_
 try have hfi:=hU hn h0 h1 h2
 let t0:List (St Tryz.prog):=[.u 200,.T,.i 0 3 (by decide),.c [] (C53 a1.1 0 (W ((a0.1.length:Int) - 1)))]
 cases h0:(!(oR a1.1 0 (W ((a0.1.length:Int) - 1)))) with
 | true =>
  try have hfi:=hU hn h0 h1 h2
  have e:=Eq.refl (F55 a0 a1);conv at e=>rhs;simp only [F55,h0,aJ]
  rw [e]
  exact rt (t0++[.d h0]) [] [] hcx (by kernel_rfl)
 | false =>
  try have hfi:=hU hn h0 h1 h2
  let t1:List (St Tryz.prog):=(t0++[.d h0,.u 0,.T,.i 1 3 (by decide),.c [] (C53 a1.2.1 0 (W ((a0.1.length:Int) - 1)))])
  cases h1:(!(oR a1.2.1 0 (W ((a0.1.length:Int) - 1)))) with
  | true =>
   try have hfi:=hU hn h0 h1 h2
   have e:=Eq.refl (F55 a0 a1);conv at e=>rhs;simp only [F55,h0,h1,aJ]
   rw [e]
   exact rt (t1++[.d h1]) [] [] hcx (by kernel_rfl)
  | false =>
   try have hfi:=hU hn h0 h1 h2
   let t2:List (St Tryz.prog):=(t1++[.d h1,.u 0,.T,.i 2 3 (by decide),.c [] (C53 a1.2.2 0 (W ((a0.1.length:Int) - 1)))])
   cases h2:(!(oR a1.2.2 0 (W ((a0.1.length:Int) - 1)))) with
   | true =>
    try have hfi:=hU hn h0 h1 h2
    have e:=Eq.refl (F55 a0 a1);conv at e=>rhs;simp only [F55,h0,h1,h2,aJ]
    rw [e]
    exact rt (t2++[.d h2]) [] [] hcx (by kernel_rfl)
   | false =>
    try have hfi:=hU hn h0 h1 h2
    let t3:List (St Tryz.prog):=(t2++[.d h2,.u 0,.F,.c [0,1] (C89 (a0.1,a0.2) a1 (by(try simp only [Lt]);omega) (by(try simp only [Lt]);omega) hfi),.c [] (C88 (mI (a0.1,a0.2) a1))])
    cases h3:((((F88 (mI (a0.1,a0.2) a1)).1:Int) == 0)&&((((F88 (mI (a0.1,a0.2) a1)).2.1:Int) == 0)&&((((F88 (mI (a0.1,a0.2) a1)).2.2:Int) == 0)&&true))) with
    | true =>
     try have hfi:=hU hn h0 h1 h2
     have e:=Eq.refl (F55 a0 a1);conv at e=>rhs;simp only [F55,h0,h1,h2,h3,aJ]
     rw [e]
     exact rt (t3++[.d h3]) [] [] hcx (by kernel_rfl)
    | false =>
     try have hfi:=hU hn h0 h1 h2
     have e:=Eq.refl (F55 a0 a1);conv at e=>rhs;simp only [F55,h0,h1,h2,h3,aJ]
     rw [e]
     exact rt (t3++[.d h3]) [] [] hcx (by kernel_rfl)
theorem nH {m:List Zt×List Zt} {f:Zt} (h:(F55 m f != 0)=false)(hl:m.1.length<=64):inF m.1.length f:=by
 have hw:W ((m.1.length:Int) - 1)=(m.1.length:Int) - 1:=aF (by omega) (by omega)
 unfold F55 at h
 cases h0:(!oR f.1 0 (W ((m.1.length:Int) - 1))) with
 | true=>rw [h0,cond_true] at h;exact absurd h (by decide)
 | false =>
  cases h1:(!oR f.2.1 0 (W ((m.1.length:Int) - 1))) with
  | true=>rw [h0,h1,cond_false,cond_true] at h;exact absurd h (by decide)
  | false =>
   cases h2:(!oR f.2.2 0 (W ((m.1.length:Int) - 1))) with
   | true=>rw [h0,h1,h2,cond_false,cond_false,cond_true] at h;exact absurd h (by decide)
   | false =>
    have g0:=gN h0;have g1:=gN h1;have g2:=gN h2
    rw [hw] at g0 g1 g2
    exact⟨⟨g0.1,by omega⟩,⟨g1.1,by omega⟩,g2.1,by omega⟩
def aQu (x:Zt):SV:=.a (dQ x)
theorem K42:KeyOK T0 42 aQu :=
 ⟨fun x=>by kernel_rfl,fun x y=>⟨(((x.1:Int) == y.1)&&(((x.2.1:Int) == y.2.1)&&(((x.2.2:Int) == y.2.2)&&true))),by kernel_rfl,by
  simp only [aQu,dQ,iv,SV.a.injEq,List.cons.injEq,SV.v.injEq,Value.int.injEq,Bool.and_eq_true,beq_iff_eq,true_and,and_true]
  constructor<;>intro h<;>omega⟩,fun x y h=>by
  simp only [aQu,dQ,iv,SV.a.injEq,List.cons.injEq,SV.v.injEq,Value.int.injEq,true_and,and_true] at h
  simp only [Prod.ext_iff];omega,fun x=>rfl⟩
noncomputable def aNz:Code:=(aC [1,1,0,1] [] (aG Tryz.f54) []).1
noncomputable def aN0:List K:=(aC [1,1,0,1] [] (aG Tryz.f54) []).2
def aH2 (a0:Zm)(v1:List (Zt×Bool))(v2:Int):LS:=⟨fU 25 [(3,(.m 2)),(8,(.s 0 0 a0.1.length 3)),(9,(iv (a0.1.length:Int))),(10,(iv v2))],[(.live false true (flat dQ a0.1)),(.live false true (flat eE a0.2)),(.map (Aw.mapE aQu vB v1))]⟩
def eJ (a0:Zm):(List (Zt×Bool))×Int->((List (Zt×Bool))×Int)⊕(Int)
 | (v1,v2) =>
  (bif (decide ((v2:Int) < (a0.1.length:Int))) then
   (bif (!(F87 (a0.1.getD (tN v2) dF) 64)) then
    (.inr 1)
   else
    (bif (aT v1 (a0.1.getD (tN v2) dF) false) then
     (.inr 1)
    else
     (.inl ((cK v1 (a0.1.getD (tN v2) dF) true),(v2+1)))))
  else
   (.inr 0))
theorem aW0 (a0:Zm)(l0_1:a0.1.length<=2^63-1)(l0_2:a0.2.length<=2^63-1) {cx:Cx} (hcx:cx.base=2):∀(n:Nat) (v1:List (Zt×Bool)) (v2:Int),0<=v2->tN ((a0.1.length:Int) - v2) < n->Aw.Good Tryz.prog none 9 (bodyPost Tryz.prog Tryz.f54 (RR cx (iv (aB (eJ a0) n (v1,v2))) [] [])) cx [] (.l aNz n::aN0) (aH2 a0 v1 v2):=by
 intro n
 induction n with
 | zero=>intro v1 v2 hi hn;exact absurd hn (fZ _)
 | succ n ih =>
  intro v1 v2 hi hn
  refine aH ?_
  cases h0:(decide ((v2:Int) < (a0.1.length:Int))) with
  | true =>
   have q0:=bS h0
   let t1:List (St Tryz.prog):=[.d h0,.i v2 (a0.1.length),.L bQ a0.1 v2 0 3,.c [] (C87 (a0.1.getD (tN v2) dF) 64)]
   cases h1:(!(F87 (a0.1.getD (tN v2) dF) 64)) with
   | true =>
    have e:=Eq.refl (eJ a0 (v1,v2));conv at e=>rhs;simp only [eJ,h0,h1,aJ]
    rw [aD,e]
    exact rt (t1++[.d h1]) [] [] hcx (by kernel_rfl)
   | false =>
    let t2:List (St Tryz.prog):=(t1++[.d h1,.mG K42 vB v1 (a0.1.getD (tN v2) dF) false])
    cases h2:(aT v1 (a0.1.getD (tN v2) dF) false) with
    | true =>
     have e:=Eq.refl (eJ a0 (v1,v2));conv at e=>rhs;simp only [eJ,h0,h1,h2,aJ]
     rw [aD,e]
     exact rt (t2++[.d h2]) [] [] hcx (by kernel_rfl)
    | false =>
     have e:=Eq.refl (eJ a0 (v1,v2));conv at e=>rhs;simp only [eJ,h0,h1,h2,aJ]
     rw [aA e]
     refine ba (t2++[.d h2,.mP K42 vB v1 (a0.1.getD (tN v2) dF) true]) [] [3,8,9,10] [2] hcx (m:=n) aNz (aN0) (aH2 a0 (cK v1 (a0.1.getD (tN v2) dF) true) (W (v2+1))) (by kernel_rfl) ?_
     have z0:(W (v2+1))=(v2+1):=aF (by omega) (by omega)
     rw [z0]
     exact ih (cK v1 (a0.1.getD (tN v2) dF) true) (v2+1) (by(try simp only [Ls]);omega) (by(try simp only [Ls]);omega)
  | false =>
   have q0:=cE h0
   have e:=Eq.refl (eJ a0 (v1,v2));conv at e=>rhs;simp only [eJ,h0,aJ]
   rw [aD,e]
   exact rt [.d h0] [] [] hcx (by kernel_rfl)
def F54 (a0:Zm):Int :=
 (aB (eJ a0) (tN ((a0.1.length:Int) - 0)+1) (([]:List (Zt×Bool)),0))
theorem C54 (a0:Zm)(l0_1:a0.1.length<=2^63-1)(l0_2:a0.2.length<=2^63-1):Con Tryz.prog 54 [(.a [(.s 0 0 a0.1.length 3),(.s 1 0 a0.2.length 3)])] [(.live false true (flat dQ a0.1)),(.live false true (flat eE a0.2))] (iv (F54 a0)) []:=by
 refine aK Tryz.func54 (by kernel_rfl) fun cx hcx=>?_
 have e:=Eq.refl (F54 a0);conv at e=>rhs;simp only [F54]
 rw [e]
 refine en [] [] [3,8,9,10] [3] hcx aNz (aN0) (aH2 a0 ([]:List (Zt×Bool)) 0) (tN ((a0.1.length:Int) - 0)+1) (by kernel_rfl) ?_
 exact aW0 a0 l0_1 l0_2 hcx (tN ((a0.1.length:Int) - 0)+1) ([]:List (Zt×Bool)) 0 (by(try simp only [Ls]);omega) (by(try simp only [Ls]);omega)
def bV (a0:Zt):(Int×Int)×(Int×Int)×Int×Int :=
 ((a0.1,a0.2.1),a0.2,(a0.2.2,a0.1))
theorem C57 (a0:Zt):Con Tryz.prog 57 [(.a (k3 a0))] [] (.a [(iv (bV a0).1.1),(iv (bV a0).1.2),(iv (bV a0).2.1.1),(iv (bV a0).2.1.2),(iv (bV a0).2.2.1),(iv (bV a0).2.2.2)]) []:=by
 refine aK Tryz.func57 (by kernel_rfl) fun cx hcx=>?_
 have e:=Eq.refl (bV a0);conv at e=>rhs;simp only [bV]
 rw [e]
 exact rt [.i 0 3 (by decide),.i 1 3 (by decide),.i 1 3 (by decide),.i 2 3 (by decide),.i 2 3 (by decide),.i 0 3 (by decide)] [] [] hcx (by kernel_rfl)
def c87 (x:Int×Int):List SV:=[(iv x.1),(iv x.2)]
def aBz (x:Int×Int):SV:=.a (c87 x)
theorem K87:KeyOK T0 87 aBz :=
 ⟨fun x=>by kernel_rfl,fun x y=>⟨(((x.1:Int) == y.1)&&(((x.2:Int) == y.2)&&true)),by kernel_rfl,by
  simp only [aBz,c87,iv,SV.a.injEq,List.cons.injEq,SV.v.injEq,Value.int.injEq,Bool.and_eq_true,beq_iff_eq,true_and,and_true]
  constructor<;>intro h<;>omega⟩,fun x y h=>by
  simp only [aBz,c87,iv,SV.a.injEq,List.cons.injEq,SV.v.injEq,Value.int.injEq,true_and,and_true] at h
  simp only [Prod.ext_iff];omega,fun x=>rfl⟩
noncomputable def aN1:Code:=(aC [1,1,0,1] [] (aG Tryz.f56) []).1
noncomputable def aN2:List K:=(aC [1,1,0,1] [] (aG Tryz.f56) []).2
def aH3 (a0:Zm)(v1:List ((Int×Int)×Int))(v2:Int):LS:=⟨fU 30 [(3,(.m 2)),(10,(.s 1 0 a0.2.length 3)),(11,(iv (a0.2.length:Int))),(12,(iv v2))],[(.live false true (flat dQ a0.1)),(.live false true (flat eE a0.2)),(.map (Aw.mapE aBz iv v1))]⟩
def wS (a0:Zm):(List ((Int×Int)×Int))×Int->((List ((Int×Int)×Int))×Int)⊕(List ((Int×Int)×Int))
 | (v1,v2) =>
  (bif (decide ((v2:Int) < (a0.2.length:Int))) then
   (.inl ((cK (cK (cK v1 ((bV (a0.2.getD (tN v2) dF)).1) (W ((aT v1 ((bV (a0.2.getD (tN v2) dF)).1) 0)+1))) ((bV (a0.2.getD (tN v2) dF)).2.1) (W ((aT (cK v1 ((bV (a0.2.getD (tN v2) dF)).1) (W ((aT v1 ((bV (a0.2.getD (tN v2) dF)).1) 0)+1))) ((bV (a0.2.getD (tN v2) dF)).2.1) 0)+1))) ((bV (a0.2.getD (tN v2) dF)).2.2) (W ((aT (cK (cK v1 ((bV (a0.2.getD (tN v2) dF)).1) (W ((aT v1 ((bV (a0.2.getD (tN v2) dF)).1) 0)+1))) ((bV (a0.2.getD (tN v2) dF)).2.1) (W ((aT (cK v1 ((bV (a0.2.getD (tN v2) dF)).1) (W ((aT v1 ((bV (a0.2.getD (tN v2) dF)).1) 0)+1))) ((bV (a0.2.getD (tN v2) dF)).2.1) 0)+1))) ((bV (a0.2.getD (tN v2) dF)).2.2) 0)+1))),(v2+1)))
  else
   (.inr v1))
theorem aW1 (a0:Zm)(l0_1:a0.1.length<=2^63-1)(l0_2:a0.2.length<=2^63-1) {cx:Cx} (hcx:cx.base=2):∀(n:Nat) (v1:List ((Int×Int)×Int)) (v2:Int),0<=v2->tN ((a0.2.length:Int) - v2) < n->Aw.Good Tryz.prog none 9 (bodyPost Tryz.prog Tryz.f56 (RR cx (.m 2) [(.map (Aw.mapE aBz iv (aB (wS a0) n (v1,v2))))] [])) cx [] (.l aN1 n::aN2) (aH3 a0 v1 v2):=by
 intro n
 induction n with
 | zero=>intro v1 v2 hi hn;exact absurd hn (fZ _)
 | succ n ih =>
  intro v1 v2 hi hn
  refine aH ?_
  cases h0:(decide ((v2:Int) < (a0.2.length:Int))) with
  | true =>
   have q0:=bS h0
   have e:=Eq.refl (wS a0 (v1,v2));conv at e=>rhs;simp only [wS,h0,aJ]
   rw [aA e]
   refine ba [.d h0,.i v2 (a0.2.length),.L aU a0.2 v2 0 3,.c [] (C57 (a0.2.getD (tN v2) dF)),.u 200,.T,.i 0 3 (by decide),.mGa K87 iv v1 ((bV (a0.2.getD (tN v2) dF)).1) 0 2,.mE K87 iv v1 ((bV (a0.2.getD (tN v2) dF)).1) 0,.mS K87 iv v1 ((bV (a0.2.getD (tN v2) dF)).1) 0 (W ((aT v1 ((bV (a0.2.getD (tN v2) dF)).1) 0)+1)),.mR aBz iv v1 ((bV (a0.2.getD (tN v2) dF)).1) 0,.u 0,.T,.i 1 3 (by decide),.mGa K87 iv (cK v1 ((bV (a0.2.getD (tN v2) dF)).1) (W ((aT v1 ((bV (a0.2.getD (tN v2) dF)).1) 0)+1))) ((bV (a0.2.getD (tN v2) dF)).2.1) 0 2,.mE K87 iv (cK v1 ((bV (a0.2.getD (tN v2) dF)).1) (W ((aT v1 ((bV (a0.2.getD (tN v2) dF)).1) 0)+1))) ((bV (a0.2.getD (tN v2) dF)).2.1) 0,.mS K87 iv (cK v1 ((bV (a0.2.getD (tN v2) dF)).1) (W ((aT v1 ((bV (a0.2.getD (tN v2) dF)).1) 0)+1))) ((bV (a0.2.getD (tN v2) dF)).2.1) 0 (W ((aT (cK v1 ((bV (a0.2.getD (tN v2) dF)).1) (W ((aT v1 ((bV (a0.2.getD (tN v2) dF)).1) 0)+1))) ((bV (a0.2.getD (tN v2) dF)).2.1) 0)+1)),.mR aBz iv (cK v1 ((bV (a0.2.getD (tN v2) dF)).1) (W ((aT v1 ((bV (a0.2.getD (tN v2) dF)).1) 0)+1))) ((bV (a0.2.getD (tN v2) dF)).2.1) 0,.u 0,.T,.i 2 3 (by decide),.mGa K87 iv (cK (cK v1 ((bV (a0.2.getD (tN v2) dF)).1) (W ((aT v1 ((bV (a0.2.getD (tN v2) dF)).1) 0)+1))) ((bV (a0.2.getD (tN v2) dF)).2.1) (W ((aT (cK v1 ((bV (a0.2.getD (tN v2) dF)).1) (W ((aT v1 ((bV (a0.2.getD (tN v2) dF)).1) 0)+1))) ((bV (a0.2.getD (tN v2) dF)).2.1) 0)+1))) ((bV (a0.2.getD (tN v2) dF)).2.2) 0 2,.mE K87 iv (cK (cK v1 ((bV (a0.2.getD (tN v2) dF)).1) (W ((aT v1 ((bV (a0.2.getD (tN v2) dF)).1) 0)+1))) ((bV (a0.2.getD (tN v2) dF)).2.1) (W ((aT (cK v1 ((bV (a0.2.getD (tN v2) dF)).1) (W ((aT v1 ((bV (a0.2.getD (tN v2) dF)).1) 0)+1))) ((bV (a0.2.getD (tN v2) dF)).2.1) 0)+1))) ((bV (a0.2.getD (tN v2) dF)).2.2) 0,.mS K87 iv (cK (cK v1 ((bV (a0.2.getD (tN v2) dF)).1) (W ((aT v1 ((bV (a0.2.getD (tN v2) dF)).1) 0)+1))) ((bV (a0.2.getD (tN v2) dF)).2.1) (W ((aT (cK v1 ((bV (a0.2.getD (tN v2) dF)).1) (W ((aT v1 ((bV (a0.2.getD (tN v2) dF)).1) 0)+1))) ((bV (a0.2.getD (tN v2) dF)).2.1) 0)+1))) ((bV (a0.2.getD (tN v2) dF)).2.2) 0 (W ((aT (cK (cK v1 ((bV (a0.2.getD (tN v2) dF)).1) (W ((aT v1 ((bV (a0.2.getD (tN v2) dF)).1) 0)+1))) ((bV (a0.2.getD (tN v2) dF)).2.1) (W ((aT (cK v1 ((bV (a0.2.getD (tN v2) dF)).1) (W ((aT v1 ((bV (a0.2.getD (tN v2) dF)).1) 0)+1))) ((bV (a0.2.getD (tN v2) dF)).2.1) 0)+1))) ((bV (a0.2.getD (tN v2) dF)).2.2) 0)+1)),.mR aBz iv (cK (cK v1 ((bV (a0.2.getD (tN v2) dF)).1) (W ((aT v1 ((bV (a0.2.getD (tN v2) dF)).1) 0)+1))) ((bV (a0.2.getD (tN v2) dF)).2.1) (W ((aT (cK v1 ((bV (a0.2.getD (tN v2) dF)).1) (W ((aT v1 ((bV (a0.2.getD (tN v2) dF)).1) 0)+1))) ((bV (a0.2.getD (tN v2) dF)).2.1) 0)+1))) ((bV (a0.2.getD (tN v2) dF)).2.2) 0,.u 0,.F] [] [3,10,11,12] [2] hcx (m:=n) aN1 (aN2) (aH3 a0 (cK (cK (cK v1 ((bV (a0.2.getD (tN v2) dF)).1) (W ((aT v1 ((bV (a0.2.getD (tN v2) dF)).1) 0)+1))) ((bV (a0.2.getD (tN v2) dF)).2.1) (W ((aT (cK v1 ((bV (a0.2.getD (tN v2) dF)).1) (W ((aT v1 ((bV (a0.2.getD (tN v2) dF)).1) 0)+1))) ((bV (a0.2.getD (tN v2) dF)).2.1) 0)+1))) ((bV (a0.2.getD (tN v2) dF)).2.2) (W ((aT (cK (cK v1 ((bV (a0.2.getD (tN v2) dF)).1) (W ((aT v1 ((bV (a0.2.getD (tN v2) dF)).1) 0)+1))) ((bV (a0.2.getD (tN v2) dF)).2.1) (W ((aT (cK v1 ((bV (a0.2.getD (tN v2) dF)).1) (W ((aT v1 ((bV (a0.2.getD (tN v2) dF)).1) 0)+1))) ((bV (a0.2.getD (tN v2) dF)).2.1) 0)+1))) ((bV (a0.2.getD (tN v2) dF)).2.2) 0)+1))) (W (v2+1))) (by kernel_rfl) ?_
   have z0:(W (v2+1))=(v2+1):=aF (by omega) (by omega)
   rw [z0]
   exact ih (cK (cK (cK v1 ((bV (a0.2.getD (tN v2) dF)).1) (W ((aT v1 ((bV (a0.2.getD (tN v2) dF)).1) 0)+1))) ((bV (a0.2.getD (tN v2) dF)).2.1) (W ((aT (cK v1 ((bV (a0.2.getD (tN v2) dF)).1) (W ((aT v1 ((bV (a0.2.getD (tN v2) dF)).1) 0)+1))) ((bV (a0.2.getD (tN v2) dF)).2.1) 0)+1))) ((bV (a0.2.getD (tN v2) dF)).2.2) (W ((aT (cK (cK v1 ((bV (a0.2.getD (tN v2) dF)).1) (W ((aT v1 ((bV (a0.2.getD (tN v2) dF)).1) 0)+1))) ((bV (a0.2.getD (tN v2) dF)).2.1) (W ((aT (cK v1 ((bV (a0.2.getD (tN v2) dF)).1) (W ((aT v1 ((bV (a0.2.getD (tN v2) dF)).1) 0)+1))) ((bV (a0.2.getD (tN v2) dF)).2.1) 0)+1))) ((bV (a0.2.getD (tN v2) dF)).2.2) 0)+1))) (v2+1) (by(try simp only [Ls]);omega) (by(try simp only [Ls]);omega)
  | false =>
   have q0:=cE h0
   have e:=Eq.refl (wS a0 (v1,v2));conv at e=>rhs;simp only [wS,h0,aJ]
   rw [aD,e]
   exact rt [.d h0] [] [2] hcx (by kernel_rfl)
def wT (a0:Zm):List ((Int×Int)×Int) :=
 (aB (wS a0) (tN ((a0.2.length:Int) - 0)+1) (([]:List ((Int×Int)×Int)),0))
theorem C56 (a0:Zm)(l0_1:a0.1.length<=2^63-1)(l0_2:a0.2.length<=2^63-1):Con Tryz.prog 56 [(.a [(.s 0 0 a0.1.length 3),(.s 1 0 a0.2.length 3)])] [(.live false true (flat dQ a0.1)),(.live false true (flat eE a0.2))] (.m 2) [(.map (Aw.mapE aBz iv (wT a0)))]:=by
 refine aK Tryz.func56 (by kernel_rfl) fun cx hcx=>?_
 have e:=Eq.refl (wT a0);conv at e=>rhs;simp only [wT]
 rw [e]
 refine en [] [] [3,10,11,12] [3] hcx aN1 (aN2) (aH3 a0 ([]:List ((Int×Int)×Int)) 0) (tN ((a0.2.length:Int) - 0)+1) (by kernel_rfl) ?_
 exact aW1 a0 l0_1 l0_2 hcx (tN ((a0.2.length:Int) - 0)+1) ([]:List ((Int×Int)×Int)) 0 (by(try simp only [Ls]);omega) (by(try simp only [Ls]);omega)
noncomputable def aN3:Code:=(aC [1,1,0,1] [] (aG Tryz.f90) []).1
noncomputable def aN4:List K:=(aC [1,1,0,1] [] (aG Tryz.f90) []).2
def aH4 (a0:Zm)(v2c:List SV)(v2n:Nat)(v3:Int):LS:=⟨fU 21 [(1,(.p 2 0)),(3,(.s 3 0 v2n 9)),(7,(.s 1 0 a0.2.length 3)),(8,(iv (a0.2.length:Int))),(9,(iv v3))],[(.live false true (flat dQ a0.1)),(.live false true (flat eE a0.2)),(.live true false [(.s 0 0 a0.1.length 3),(.s 1 0 a0.2.length 3)]),(.live true true v2c)]⟩
def tQ (a0:Zm):(List (Zt×Zt×Zt))×Int->((List (Zt×Zt×Zt))×Int)⊕(List (Zt×Zt×Zt))
 | (v2,v3) =>
  (bif (decide ((v3:Int) < (a0.2.length:Int))) then
   (.inl ((v2++[(mI (a0.1,a0.2) (a0.2.getD (tN v3) dF))]),(v3+1)))
  else
   (.inr v2))
theorem aW2 (a0:Zm)(l0_1:a0.1.length<=2^63-1)(l0_2:a0.2.length<=2^63-1)(hv:jU a0 a0.2.length)(hn:a0.2.length<=96) {cx:Cx} (hcx:cx.base=2):∀(n:Nat) (v2:List (Zt×Zt×Zt)) (v3:Int),(0<=v3)/\(v2.length=tN v3)/\(v3<=a0.2.length)->tN ((a0.2.length:Int) - v3) < n->Aw.Good Tryz.prog none 9 (bodyPost Tryz.prog Tryz.f90 (RR cx (.s 2 0 (aB (tQ a0) n (v2,v3)).length 9) [(.live true true (flat jR (aB (tQ a0) n (v2,v3))))] [])) cx [] (.l aN3 n::aN4) (aH4 a0 (flat jR v2) v2.length v3):=by
 intro n
 induction n with
 | zero=>intro v2 v3 hi hn;exact absurd hn (fZ _)
 | succ n ih =>
  intro v2 v3 hi hn
  refine aH ?_
  cases h0:(decide ((v3:Int) < (a0.2.length:Int))) with
  | true =>
   have q0:=bS h0
   have e:=Eq.refl (tQ a0 (v2,v3));conv at e=>rhs;simp only [tQ,h0,aJ]
   rw [aA e]
   refine ba [.d h0,.i v3 (a0.2.length),.L aU a0.2 v3 0 3,.c [0,1] (C89 (a0.1,a0.2) (a0.2.getD (tN v3) dF) (by(try simp only [Lt]);omega) (by(try simp only [Lt]);omega) (aGl hv (by omega) (by omega))),.p (show((flat jR v2).length=v2.length*9/\v2.length+1<=2 ^ 40/\(v2.length+1)*72<=2 ^ 47) from fN dT (by omega) (by omega))] [] [1,3,7,8,9] [2,6] hcx (m:=n) aN3 (aN4) (aH4 a0 (flat jR v2++(k9 (mI (a0.1,a0.2) (a0.2.getD (tN v3) dF)))) (v2.length+1) (W (v3+1))) (by kernel_rfl) ?_
   have z0:(W (v3+1))=(v3+1):=aF (by omega) (by omega)
   have z1:(flat jR v2++(k9 (mI (a0.1,a0.2) (a0.2.getD (tN v3) dF))))=(flat jR (v2++[(mI (a0.1,a0.2) (a0.2.getD (tN v3) dF))])):=(bK (c:=jR) (l:=v2) (m:=[(mI (a0.1,a0.2) (a0.2.getD (tN v3) dF))])).symm
   have z2:(v2.length+1)=(v2++[(mI (a0.1,a0.2) (a0.2.getD (tN v3) dF))]).length:=dW v2 [(mI (a0.1,a0.2) (a0.2.getD (tN v3) dF))] rfl
   rw [z0,z1,z2]
   exact ih (v2++[(mI (a0.1,a0.2) (a0.2.getD (tN v3) dF))]) (v3+1) (by refine⟨?_,?_,?_⟩<;>(try simp only [Ls])<;>first | omega | assumption | simp) (by(try simp only [Ls]);omega)
  | false =>
   have q0:=cE h0
   have e:=Eq.refl (tQ a0 (v2,v3));conv at e=>rhs;simp only [tQ,h0,aJ]
   rw [aD,e]
   exact rt [.d h0] [] [3] hcx (by kernel_rfl)
def pY (a0:Zm):List (Zt×Zt×Zt) :=
 (aB (tQ a0) (tN ((a0.2.length:Int) - 0)+1) (([]:List (Zt×Zt×Zt)),0))
theorem C90 (a0:Zm)(l0_1:a0.1.length<=2^63-1)(l0_2:a0.2.length<=2^63-1)(hv:jU a0 a0.2.length)(hn:a0.2.length<=96):Con Tryz.prog 90 [(.a [(.s 0 0 a0.1.length 3),(.s 1 0 a0.2.length 3)])] [(.live false true (flat dQ a0.1)),(.live false true (flat eE a0.2))] (.s 2 0 (pY a0).length 9) [(.live true true (flat jR (pY a0)))]:=by
 refine aK Tryz.func90 (by kernel_rfl) fun cx hcx=>?_
 have e:=Eq.refl (pY a0);conv at e=>rhs;simp only [pY]
 rw [e]
 refine en [] [.slot 3 9] [1,3,7,8,9] [2,3] hcx aN3 (aN4) (aH4 a0 (flat jR ([]:List (Zt×Zt×Zt))) 0 0) (tN ((a0.2.length:Int) - 0)+1) (by kernel_rfl) ?_
 exact aW2 a0 l0_1 l0_2 hv hn hcx (tN ((a0.2.length:Int) - 0)+1) ([]:List (Zt×Zt×Zt)) 0 (by refine⟨?_,?_,?_⟩<;>(try simp only [Ls])<;>first | omega | assumption | simp) (by(try simp only [Ls]);omega)
theorem aEi (m:List Zt×List Zt):pY m=m.2.map (mI m):=by
 unfold pY
 rw [show(tN ((m.2.length:Int) - 0)+1)=m.2.length+1 by omega]
 rw [aX (fun v i=>(v,i)) (fun v c=>.inl (v++[mI m c])) (fun v=>v) (L:=m.2) (fun _ _=>True) ?_ (fun _ _ _ _ _ _ _=>trivial) ?_ (by omega) trivial]
 ·have key:∀(l:List Zt) (v:List (Zt×Zt×Zt)),gG (σ:=List (Zt×Zt×Zt)) (R:=List (Zt×Zt×Zt)) (fun v c=>.inl (v++[mI m c])) l v=.inl (v++l.map (mI m)):=by
   intro l
   induction l with
   | nil=>intro v;simp [gG]
   | cons c l ih=>intro v;simp only [gG];rw [ih];simp
  rw [key];simp [xH]
 ·intro i c hc v _
  obtain⟨hlt,hce⟩:=List.getElem?_eq_some_iff.1 hc
  simp only [tQ]
  rw [cA (by omega),cond_true,sJ,eU,hc]
  rfl
 ·intro v _
  simp only [tQ]
  rw [cT (by omega),cond_false]
theorem aQv (m:List Zt×List Zt):(pY m).length=m.2.length:=by rw [aEi,List.length_map]
def aQw (a0:Zt)(a1:Zt):Int :=
 (W ((W ((W (a0.1*a1.1))+(W (a0.2.1*a1.2.1))))+(W (a0.2.2*a1.2.2))))
theorem aZk (a0:Zt)(a1:Zt):Con Tryz.prog 124 [(.a (k3 a0)),(.a (k3 a1))] [] (iv (aQw a0 a1)) []:=by
 refine aK Tryz.func124 (by kernel_rfl) fun cx hcx=>?_
 have e:=Eq.refl (aQw a0 a1);conv at e=>rhs;simp only [aQw]
 rw [e]
 exact rt [] [] [] hcx (by kernel_rfl)
def F91 (a0:Zt×Zt×Zt):Int :=
 (aQw a0.1 (aHg a0.2.1 a0.2.2))
theorem C91 (a0:Zt×Zt×Zt):Con Tryz.prog 91 [(.a (k9 a0))] [] (iv (F91 a0)) []:=by
 refine aK Tryz.func91 (by kernel_rfl) fun cx hcx=>?_
 have e:=Eq.refl (F91 a0);conv at e=>rhs;simp only [F91]
 rw [e]
 exact rt [.c [] (aVn a0.2.1 a0.2.2),.c [] (aZk a0.1 (aHg a0.2.1 a0.2.2))] [] [] hcx (by kernel_rfl)
noncomputable def aN5:Code:=(aC [1,1,0,1] [] (aG Tryz.f59) []).1
noncomputable def aN6:List K:=(aC [1,1,0,1] [] (aG Tryz.f59) []).2
def aH5 (a0:Zm)(v1 v2:Int):LS:=⟨fU 19 [(3,(iv v1)),(7,(.s 2 0 (pY (a0.1,a0.2)).length 9)),(8,(iv (((pY (a0.1,a0.2)).length:Nat):Int))),(9,(iv v2))],[(.live false true (flat dQ a0.1)),(.live false true (flat eE a0.2)),(.live true true (flat jR (pY (a0.1,a0.2))))]⟩
def wU (a0:Zm):Int×Int->(Int×Int)⊕(Int)
 | (v1,v2) =>
  (bif (decide ((v2:Int) < (((pY (a0.1,a0.2)).length:Nat):Int))) then
   (.inl ((W (v1+(F91 ((pY (a0.1,a0.2)).getD (tN v2) dF)))),(v2+1)))
  else
   (.inr v1))
theorem aW3 (a0:Zm)(l0_1:a0.1.length<=2^63-1)(l0_2:a0.2.length<=2^63-1)(hv:jU a0 a0.2.length)(hn:a0.2.length<=96) {cx:Cx} (hcx:cx.base=2):∀(n:Nat) (v1 v2:Int),0<=v2->tN ((((pY (a0.1,a0.2)).length:Nat):Int) - v2) < n->Aw.Good Tryz.prog none 9 (bodyPost Tryz.prog Tryz.f59 (RR cx (iv (aB (wU a0) n (v1,v2))) [] [])) cx [] (.l aN5 n::aN6) (aH5 a0 v1 v2):=by
 intro n
 induction n with
 | zero=>intro v1 v2 hi hn;exact absurd hn (fZ _)
 | succ n ih =>
  intro v1 v2 hi hn
  refine aH ?_
  have hpl:(pY (a0.1,a0.2)).length=a0.2.length:=aQv a0
  cases h0:(decide ((v2:Int) < (((pY (a0.1,a0.2)).length:Nat):Int))) with
  | true =>
   have q0:=bS h0
   have e:=Eq.refl (wU a0 (v1,v2));conv at e=>rhs;simp only [wU,h0,aJ]
   rw [aA e]
   refine ba [.d h0,.i v2 ((pY (a0.1,a0.2)).length),.L dT (pY (a0.1,a0.2)) v2 0 9,.c [] (C91 ((pY (a0.1,a0.2)).getD (tN v2) dF))] [] [3,7,8,9] [2] hcx (m:=n) aN5 (aN6) (aH5 a0 (W (v1+(F91 ((pY (a0.1,a0.2)).getD (tN v2) dF)))) (W (v2+1))) (by kernel_rfl) ?_
   have z0:(W (v2+1))=(v2+1):=aF (by omega) (by omega)
   rw [z0]
   exact ih (W (v1+(F91 ((pY (a0.1,a0.2)).getD (tN v2) dF)))) (v2+1) (by(try simp only [Ls]);omega) (by(try simp only [Ls]);omega)
  | false =>
   have q0:=cE h0
   have e:=Eq.refl (wU a0 (v1,v2));conv at e=>rhs;simp only [wU,h0,aJ]
   rw [aD,e]
   exact rt [.d h0] [] [] hcx (by kernel_rfl)
def F59 (a0:Zm):Int :=
 (aB (wU a0) (tN ((((pY (a0.1,a0.2)).length:Nat):Int) - 0)+1) (0,0))
theorem C59 (a0:Zm)(l0_1:a0.1.length<=2^63-1)(l0_2:a0.2.length<=2^63-1)(hv:jU a0 a0.2.length)(hn:a0.2.length<=96):Con Tryz.prog 59 [(.a [(.s 0 0 a0.1.length 3),(.s 1 0 a0.2.length 3)])] [(.live false true (flat dQ a0.1)),(.live false true (flat eE a0.2))] (iv (F59 a0)) []:=by
 refine aK Tryz.func59 (by kernel_rfl) fun cx hcx=>?_
 have e:=Eq.refl (F59 a0);conv at e=>rhs;simp only [F59]
 rw [e]
 refine en [.c [0,1] (C90 (a0.1,a0.2) (by(try simp only [Lt]);omega) (by(try simp only [Lt]);omega) hv hn)] [] [3,7,8,9] [3] hcx aN5 (aN6) (aH5 a0 0 0) (tN ((((pY (a0.1,a0.2)).length:Nat):Int) - 0)+1) (by kernel_rfl) ?_
 exact aW3 a0 l0_1 l0_2 hv hn hcx (tN ((((pY (a0.1,a0.2)).length:Nat):Int) - 0)+1) 0 0 (by(try simp only [Ls]);omega) (by(try simp only [Ls]);omega)
def c4 (x:Bool):List SV:=[(.v (.bool x))]
theorem eK (x:Bool):(c4 x).length=1:=rfl
def F58 (a0:Int×Int):Int×Int :=
 (a0.2,a0.1)
theorem C58 (a0:Int×Int):Con Tryz.prog 58 [(.a [(iv a0.1),(iv a0.2)])] [] (.a (k2 (F58 a0))) []:=by
 refine aK Tryz.func58 (by kernel_rfl) fun cx hcx=>?_
 have e:=Eq.refl (F58 a0);conv at e=>rhs;simp only [F58]
 rw [e]
 exact rt [.i 1 2 (by decide),.i 0 2 (by decide)] [] [] hcx (by kernel_rfl)
noncomputable def aN7:Code:=(aC [1,1,1,1,1,1,1,0,1] [] (aG Tryz.f27) []).1
noncomputable def aN8:List K:=(aC [1,1,1,1,1,1,1,0,1] [] (aG Tryz.f27) []).2
def aH6 (a0:Zm)(v8c:List SV)(v8n:Nat)(v9 v10:Int):LS:=⟨fU 98 [(1,(.p 2 0)),(86,(.s 3 0 v8n 1)),(87,(iv v9)),(88,(iv v10))],[(.live false true (flat dQ a0.1)),(.live false true (flat eE a0.2)),(.live true false [(.s 0 0 a0.1.length 3),(.s 1 0 a0.2.length 3)]),(.live true true v8c)]⟩
def iZ (a0:Zm):List (Bool)×Int×Int->(List (Bool)×Int×Int)⊕(Int)
 | (v8,v9,v10) =>
  (bif (decide ((v10:Int) < v9)) then
   (bif (!(v8.getD (tN v10) dF)) then
    (.inr 5)
   else
    (.inl (v8,v9,(v10+1))))
  else
   (bif (decide (((F59 (a0.1,a0.2)):Int)<=0)) then
    (.inr 8)
   else
    (.inr 0)))
noncomputable def aN9:Code:=(aC [1,1,1,1,1,1,0,1] [] (aG Tryz.f27) []).1
noncomputable def aOa:List K:=(aC [1,1,1,1,1,1,0,1] [] (aG Tryz.f27) []).2
def aH7 (a0:Zm)(v4c:List SV)(v4n:Nat)(v5:Int):LS:=⟨fU 98 [(1,(.p 2 0)),(4,(.s 3 0 v4n 1)),(10,(.m 4)),(62,(.s 1 0 a0.2.length 3)),(63,(iv (a0.2.length:Int))),(64,(iv v5))],[(.live false true (flat dQ a0.1)),(.live false true (flat eE a0.2)),(.live true false [(.s 0 0 a0.1.length 3),(.s 1 0 a0.2.length 3)]),(.live true true v4c),(.map (Aw.mapE aBz iv (wT (a0.1,a0.2))))]⟩
def gH (a0:Zm):List (Bool)×Int->(List (Bool)×Int)⊕(Int)
 | (v4,v5) =>
  (bif (decide ((v5:Int) < (a0.2.length:Int))) then
   (bif (((aT (wT (a0.1,a0.2)) ((bV (a0.2.getD (tN v5) dF)).1) 0):Int) != 1) then
    (.inr 7)
   else
    (bif (((aT (wT (a0.1,a0.2)) (F58 (bV (a0.2.getD (tN v5) dF)).1) 0):Int) != 1) then
     (.inr 7)
    else
     (bif (((aT (wT (a0.1,a0.2)) ((bV (a0.2.getD (tN v5) dF)).2.1) 0):Int) != 1) then
      (.inr 7)
     else
      (bif (((aT (wT (a0.1,a0.2)) (F58 (bV (a0.2.getD (tN v5) dF)).2.1) 0):Int) != 1) then
       (.inr 7)
      else
       (bif (((aT (wT (a0.1,a0.2)) ((bV (a0.2.getD (tN v5) dF)).2.2) 0):Int) != 1) then
        (.inr 7)
       else
        (bif (((aT (wT (a0.1,a0.2)) (F58 (bV (a0.2.getD (tN v5) dF)).2.2) 0):Int) != 1) then
         (.inr 7)
        else
         (.inl (v4,(v5+1)))))))))
  else
   (.inr (aB (iZ a0) (tN ((v4.length:Int) - 0)+1) (v4,(v4.length:Int),0))))
noncomputable def aOb:Code:=(aC [1,1,1,1,0,1] [] (aG Tryz.f27) []).1
noncomputable def aOc:List K:=(aC [1,1,1,1,0,1] [] (aG Tryz.f27) []).2
def aH8 (a0:Zm)(v1c:List SV)(v1n:Nat)(v2:Int):LS:=⟨fU 98 [(1,(.p 2 0)),(4,(.s 3 0 v1n 1)),(38,(.s 1 0 a0.2.length 3)),(39,(iv (a0.2.length:Int))),(40,(iv v2))],[(.live false true (flat dQ a0.1)),(.live false true (flat eE a0.2)),(.live true false [(.s 0 0 a0.1.length 3),(.s 1 0 a0.2.length 3)]),(.live true true v1c)]⟩
def jA (a0:Zm):List (Bool)×Int->(List (Bool)×Int)⊕(Int)
 | (v1,v2) =>
  (bif (decide ((v2:Int) < (a0.2.length:Int))) then
   (bif (((F55 (a0.1,a0.2) (a0.2.getD (tN v2) dF)):Int) != 0) then
    (.inr (F55 (a0.1,a0.2) (a0.2.getD (tN v2) dF)))
   else
    (.inl ((((v1.set (tN (a0.2.getD (tN v2) dF).1) true).set (tN (a0.2.getD (tN v2) dF).2.1) true).set (tN (a0.2.getD (tN v2) dF).2.2) true),(v2+1))))
  else
   (.inr (aB (gH a0) (tN ((a0.2.length:Int) - 0)+1) (v1,0))))
theorem aW4 (a0:Zm)(l0_1:a0.1.length<=2^63-1)(l0_2:a0.2.length<=2^63-1) {cx:Cx} (hcx:cx.base=2):∀(n:Nat) (v8:List (Bool)) (v9 v10:Int),(0<=v10)/\(jU a0 a0.2.length)/\(a0.1.length<=64)/\(a0.2.length<=96)/\(v9=(v8.length:Int))/\(v8.length=a0.1.length)->tN (v9 - v10) < n->Aw.Good Tryz.prog none 9 (bodyPost Tryz.prog Tryz.f27 (RR cx (iv (aB (iZ a0) n (v8,v9,v10))) [] [])) cx [] (.l aN7 n::aN8) (aH6 a0 (flat c4 v8) v8.length v9 v10):=by
 intro n
 induction n with
 | zero=>intro v8 v9 v10 hi hn;exact absurd hn (fZ _)
 | succ n ih =>
  intro v8 v9 v10 hi hn
  refine aH ?_
  cases h0:(decide ((v10:Int) < v9)) with
  | true =>
   have q0:=bS h0
   let t1:List (St Tryz.prog):=[.d h0,.i v10 (v8.length),.L eK v8 v10 0 1]
   cases h1:(!(v8.getD (tN v10) dF)) with
   | true =>
    have e:=Eq.refl (iZ a0 (v8,v9,v10));conv at e=>rhs;simp only [iZ,h0,h1,aJ]
    rw [aD,e]
    exact rt (t1++[.d h1]) [] [] hcx (by kernel_rfl)
   | false =>
    have e:=Eq.refl (iZ a0 (v8,v9,v10));conv at e=>rhs;simp only [iZ,h0,h1,aJ]
    rw [aA e]
    refine ba (t1++[.d h1]) [] [1,86,87,88] [2,3] hcx (m:=n) aN7 (aN8) (aH6 a0 (flat c4 v8) (v8.length) v9 (W (v10+1))) (by kernel_rfl) ?_
    have z0:(W (v10+1))=(v10+1):=aF (by omega) (by omega)
    rw [z0]
    exact ih v8 v9 (v10+1) (by refine⟨?_,?_,?_,?_,?_,?_⟩<;>first | omega | assumption | exact jH | exact hi.2.1 | exact hi.2.2.1 | exact gK hi.2.2.1 (by omega) | exact dN hi.2.2.1 hfo | exact dN hi.2.2.1 (by refine⟨⟨?_,?_⟩,⟨?_,?_⟩,?_,?_⟩<;>omega) | (simp only [List.length_replicate,List.length_set];omega)) (by(try simp only [Ls]);omega)
  | false =>
   have q0:=cE h0
   let t1:List (St Tryz.prog):=[.d h0,.c [0,1] (C59 (a0.1,a0.2) (by(try simp only [Lt]);omega) (by(try simp only [Lt]);omega) hi.2.1 (by show a0.2.length<=96;omega))]
   cases h1:(decide (((F59 (a0.1,a0.2)):Int)<=0)) with
   | true =>
    have q1:=bS h1
    have e:=Eq.refl (iZ a0 (v8,v9,v10));conv at e=>rhs;simp only [iZ,h0,h1,aJ]
    rw [aD,e]
    exact rt (t1++[.d h1]) [] [] hcx (by kernel_rfl)
   | false =>
    have q1:=cE h1
    have e:=Eq.refl (iZ a0 (v8,v9,v10));conv at e=>rhs;simp only [iZ,h0,h1,aJ]
    rw [aD,e]
    exact rt (t1++[.d h1]) [] [] hcx (by kernel_rfl)
theorem aW5 (a0:Zm)(l0_1:a0.1.length<=2^63-1)(l0_2:a0.2.length<=2^63-1) {cx:Cx} (hcx:cx.base=2):∀(n:Nat) (v4:List (Bool)) (v5:Int),(0<=v5)/\(jU a0 a0.2.length)/\(a0.1.length<=64)/\(a0.2.length<=96)/\(v4.length=a0.1.length)->tN ((a0.2.length:Int) - v5) < n->Aw.Good Tryz.prog none 9 (bodyPost Tryz.prog Tryz.f27 (RR cx (iv (aB (gH a0) n (v4,v5))) [] [])) cx [] (.l aN9 n::aOa) (aH7 a0 (flat c4 v4) v4.length v5):=by
 intro n
 induction n with
 | zero=>intro v4 v5 hi hn;exact absurd hn (fZ _)
 | succ n ih =>
  intro v4 v5 hi hn
  refine aH ?_
  cases h0:(decide ((v5:Int) < (a0.2.length:Int))) with
  | true =>
   have q0:=bS h0
   let t1:List (St Tryz.prog):=[.d h0,.i v5 (a0.2.length),.L aU a0.2 v5 0 3,.c [] (C57 (a0.2.getD (tN v5) dF)),.u 200,.T,.i 0 3 (by decide),.mG K87 iv (wT (a0.1,a0.2)) ((bV (a0.2.getD (tN v5) dF)).1) 0]
   cases h1:(((aT (wT (a0.1,a0.2)) ((bV (a0.2.getD (tN v5) dF)).1) 0):Int) != 1) with
   | true =>
    have q1:=bne_iff_ne.1 h1
    have e:=Eq.refl (gH a0 (v4,v5));conv at e=>rhs;simp only [gH,h0,h1,aJ]
    rw [aD,e]
    exact rt (t1++[.d h1]) [] [] hcx (by kernel_rfl)
   | false =>
    have q1:=bne_eq_false_iff_eq.1 h1
    let t2:List (St Tryz.prog):=(t1++[.d h1,.c [] (C58 (bV (a0.2.getD (tN v5) dF)).1),.mG K87 iv (wT (a0.1,a0.2)) (F58 (bV (a0.2.getD (tN v5) dF)).1) 0])
    cases h2:(((aT (wT (a0.1,a0.2)) (F58 (bV (a0.2.getD (tN v5) dF)).1) 0):Int) != 1) with
    | true =>
     have q2:=bne_iff_ne.1 h2
     have e:=Eq.refl (gH a0 (v4,v5));conv at e=>rhs;simp only [gH,h0,h1,h2,aJ]
     rw [aD,e]
     exact rt (t2++[.d h2]) [] [] hcx (by kernel_rfl)
    | false =>
     have q2:=bne_eq_false_iff_eq.1 h2
     let t3:List (St Tryz.prog):=(t2++[.d h2,.u 0,.T,.i 1 3 (by decide),.mG K87 iv (wT (a0.1,a0.2)) ((bV (a0.2.getD (tN v5) dF)).2.1) 0])
     cases h3:(((aT (wT (a0.1,a0.2)) ((bV (a0.2.getD (tN v5) dF)).2.1) 0):Int) != 1) with
     | true =>
      have q3:=bne_iff_ne.1 h3
      have e:=Eq.refl (gH a0 (v4,v5));conv at e=>rhs;simp only [gH,h0,h1,h2,h3,aJ]
      rw [aD,e]
      exact rt (t3++[.d h3]) [] [] hcx (by kernel_rfl)
     | false =>
      have q3:=bne_eq_false_iff_eq.1 h3
      let t4:List (St Tryz.prog):=(t3++[.d h3,.c [] (C58 (bV (a0.2.getD (tN v5) dF)).2.1),.mG K87 iv (wT (a0.1,a0.2)) (F58 (bV (a0.2.getD (tN v5) dF)).2.1) 0])
      cases h4:(((aT (wT (a0.1,a0.2)) (F58 (bV (a0.2.getD (tN v5) dF)).2.1) 0):Int) != 1) with
      | true =>
       have q4:=bne_iff_ne.1 h4
       have e:=Eq.refl (gH a0 (v4,v5));conv at e=>rhs;simp only [gH,h0,h1,h2,h3,h4,aJ]
       rw [aD,e]
       exact rt (t4++[.d h4]) [] [] hcx (by kernel_rfl)
      | false =>
       have q4:=bne_eq_false_iff_eq.1 h4
       let t5:List (St Tryz.prog):=(t4++[.d h4,.u 0,.T,.i 2 3 (by decide),.mG K87 iv (wT (a0.1,a0.2)) ((bV (a0.2.getD (tN v5) dF)).2.2) 0])
       cases h5:(((aT (wT (a0.1,a0.2)) ((bV (a0.2.getD (tN v5) dF)).2.2) 0):Int) != 1) with
       | true =>
        have q5:=bne_iff_ne.1 h5
        have e:=Eq.refl (gH a0 (v4,v5));conv at e=>rhs;simp only [gH,h0,h1,h2,h3,h4,h5,aJ]
        rw [aD,e]
        exact rt (t5++[.d h5]) [] [] hcx (by kernel_rfl)
       | false =>
        have q5:=bne_eq_false_iff_eq.1 h5
        let t6:List (St Tryz.prog):=(t5++[.d h5,.c [] (C58 (bV (a0.2.getD (tN v5) dF)).2.2),.mG K87 iv (wT (a0.1,a0.2)) (F58 (bV (a0.2.getD (tN v5) dF)).2.2) 0])
        cases h6:(((aT (wT (a0.1,a0.2)) (F58 (bV (a0.2.getD (tN v5) dF)).2.2) 0):Int) != 1) with
        | true =>
         have q6:=bne_iff_ne.1 h6
         have e:=Eq.refl (gH a0 (v4,v5));conv at e=>rhs;simp only [gH,h0,h1,h2,h3,h4,h5,h6,aJ]
         rw [aD,e]
         exact rt (t6++[.d h6]) [] [] hcx (by kernel_rfl)
        | false =>
         have q6:=bne_eq_false_iff_eq.1 h6
         have e:=Eq.refl (gH a0 (v4,v5));conv at e=>rhs;simp only [gH,h0,h1,h2,h3,h4,h5,h6,aJ]
         rw [aA e]
         refine ba (t6++[.d h6,.u 0,.F]) [] [1,4,10,62,63,64] [2,3,4] hcx (m:=n) aN9 (aOa) (aH7 a0 (flat c4 v4) (v4.length) (W (v5+1))) (by kernel_rfl) ?_
         have z0:(W (v5+1))=(v5+1):=aF (by omega) (by omega)
         rw [z0]
         exact ih v4 (v5+1) (by refine⟨?_,?_,?_,?_,?_⟩<;>first | omega | assumption | exact jH | exact hi.2.1 | exact hi.2.2.1 | exact gK hi.2.2.1 (by omega) | exact dN hi.2.2.1 hfo | exact dN hi.2.2.1 (by refine⟨⟨?_,?_⟩,⟨?_,?_⟩,?_,?_⟩<;>omega) | (simp only [List.length_replicate,List.length_set];omega)) (by(try simp only [Ls]);omega)
  | false =>
   have q0:=cE h0
   have e:=Eq.refl (gH a0 (v4,v5));conv at e=>rhs;simp only [gH,h0,aJ]
   rw [aD,e]
   refine en [.d h0] [] [1,86,87,88] [2,3] hcx aN7 (aN8) (aH6 a0 (flat c4 v4) (v4.length) (v4.length:Int) 0) (tN ((v4.length:Int) - 0)+1) (by kernel_rfl) ?_
   exact aW4 a0 l0_1 l0_2 hcx (tN ((v4.length:Int) - 0)+1) v4 (v4.length:Int) 0 (by refine⟨?_,?_,?_,?_,?_,?_⟩<;>first | omega | assumption | exact jH | exact hi.2.1 | exact hi.2.2.1 | exact gK hi.2.2.1 (by omega) | exact dN hi.2.2.1 hfo | exact dN hi.2.2.1 (by refine⟨⟨?_,?_⟩,⟨?_,?_⟩,?_,?_⟩<;>omega) | (simp only [List.length_replicate,List.length_set];omega)) (by(try simp only [Ls]);omega)
theorem aW6 (a0:Zm)(l0_1:a0.1.length<=2^63-1)(l0_2:a0.2.length<=2^63-1) {cx:Cx} (hcx:cx.base=2):∀(n:Nat) (v1:List (Bool)) (v2:Int),(0<=v2)/\(v1.length=a0.1.length)/\(jU a0 v2)/\(v2<=a0.2.length)/\(a0.1.length<=64)/\(a0.2.length<=96)->tN ((a0.2.length:Int) - v2) < n->Aw.Good Tryz.prog none 9 (bodyPost Tryz.prog Tryz.f27 (RR cx (iv (aB (jA a0) n (v1,v2))) [] [])) cx [] (.l aOb n::aOc) (aH8 a0 (flat c4 v1) v1.length v2):=by
 intro n
 induction n with
 | zero=>intro v1 v2 hi hn;exact absurd hn (fZ _)
 | succ n ih =>
  intro v1 v2 hi hn
  refine aH ?_
  try have hfo:inF a0.1.length (a0.2.getD (tN v2) dF):=nH (m:=a0) h1 (by omega)
  try have hfo2:=hfo
  try obtain⟨⟨hf1,hf2⟩,⟨hf3,hf4⟩,hf5,hf6⟩:=hfo2
  cases h0:(decide ((v2:Int) < (a0.2.length:Int))) with
  | true =>
   have q0:=bS h0
   try have hfo:inF a0.1.length (a0.2.getD (tN v2) dF):=nH (m:=a0) h1 (by omega)
   let t1:List (St Tryz.prog):=[.d h0,.i v2 (a0.2.length),.L aU a0.2 v2 0 3,.c [0,1] (C55 (a0.1,a0.2) (a0.2.getD (tN v2) dF) (by(try simp only [Lt]);omega) (by(try simp only [Lt]);omega) (by(try simp only [Lt]);omega))]
   cases h1:(((F55 (a0.1,a0.2) (a0.2.getD (tN v2) dF)):Int) != 0) with
   | true =>
    have q1:=bne_iff_ne.1 h1
    try have hfo:inF a0.1.length (a0.2.getD (tN v2) dF):=nH (m:=a0) h1 (by omega)
    have e:=Eq.refl (jA a0 (v1,v2));conv at e=>rhs;simp only [jA,h0,h1,aJ]
    rw [aD,e]
    exact rt (t1++[.d h1]) [] [] hcx (by kernel_rfl)
   | false =>
    have q1:=bne_eq_false_iff_eq.1 h1
    try have hfo:inF a0.1.length (a0.2.getD (tN v2) dF):=nH (m:=a0) h1 (by omega)
    have e:=Eq.refl (jA a0 (v1,v2));conv at e=>rhs;simp only [jA,h0,h1,aJ]
    rw [aA e]
    refine ba (t1++[.d h1,.u 200,.T,.i 0 3 (by decide),.i ((a0.2.getD (tN v2) dF).1) (v1.length),.p (show((0+tN (a0.2.getD (tN v2) dF).1*1)+1<=(flat c4 v1).length) from(gT eK (by first | omega | (simp only [Lt];omega)) (o:=0) (Nb rfl))),.u 0,.T,.i 1 3 (by decide),.i ((a0.2.getD (tN v2) dF).2.1) (v1.length),.p (show((0+tN (a0.2.getD (tN v2) dF).2.1*1)+1<=(splice (flat c4 v1) (0+tN (a0.2.getD (tN v2) dF).1*1) [(.v (.bool true))]).length) from(by rw [show(splice (flat c4 v1) (0+tN (a0.2.getD (tN v2) dF).1*1) [(.v (.bool true))])=flat c4 (v1.set (tN (a0.2.getD (tN v2) dF).1) true) from(dX eK (by first | omega | (simp only [Lt];omega)) (o:=0) (d:=dF) (Nb rfl) rfl)];exact gT eK (by first | omega | (simp only [Lt];omega)) (o:=0) (Nb rfl))),.u 0,.T,.i 2 3 (by decide),.i ((a0.2.getD (tN v2) dF).2.2) (v1.length),.p (show((0+tN (a0.2.getD (tN v2) dF).2.2*1)+1<=(splice (splice (flat c4 v1) (0+tN (a0.2.getD (tN v2) dF).1*1) [(.v (.bool true))]) (0+tN (a0.2.getD (tN v2) dF).2.1*1) [(.v (.bool true))]).length) from(by rw [show(splice (splice (flat c4 v1) (0+tN (a0.2.getD (tN v2) dF).1*1) [(.v (.bool true))]) (0+tN (a0.2.getD (tN v2) dF).2.1*1) [(.v (.bool true))])=flat c4 ((v1.set (tN (a0.2.getD (tN v2) dF).1) true).set (tN (a0.2.getD (tN v2) dF).2.1) true) from(by rw [show(splice (flat c4 v1) (0+tN (a0.2.getD (tN v2) dF).1*1) [(.v (.bool true))])=flat c4 (v1.set (tN (a0.2.getD (tN v2) dF).1) true) from(dX eK (by first | omega | (simp only [Lt];omega)) (o:=0) (d:=dF) (Nb rfl) rfl)];exact dX eK (by first | omega | (simp only [Lt];omega)) (o:=0) (d:=dF) (Nb rfl) rfl)];exact gT eK (by first | omega | (simp only [Lt];omega)) (o:=0) (Nb rfl))),.u 0,.F]) [] [1,4,38,39,40] [2,3] hcx (m:=n) aOb (aOc) (aH8 a0 (splice (splice (splice (flat c4 v1) (0+tN (a0.2.getD (tN v2) dF).1*1) [(.v (.bool true))]) (0+tN (a0.2.getD (tN v2) dF).2.1*1) [(.v (.bool true))]) (0+tN (a0.2.getD (tN v2) dF).2.2*1) [(.v (.bool true))]) (v1.length) (W (v2+1))) (by kernel_rfl) ?_
    have z0:(W (v2+1))=(v2+1):=aF (by omega) (by omega)
    have z1:(splice (splice (splice (flat c4 v1) (0+tN (a0.2.getD (tN v2) dF).1*1) [(.v (.bool true))]) (0+tN (a0.2.getD (tN v2) dF).2.1*1) [(.v (.bool true))]) (0+tN (a0.2.getD (tN v2) dF).2.2*1) [(.v (.bool true))])=flat c4 (((v1.set (tN (a0.2.getD (tN v2) dF).1) true).set (tN (a0.2.getD (tN v2) dF).2.1) true).set (tN (a0.2.getD (tN v2) dF).2.2) true):=(by rw [show(splice (splice (flat c4 v1) (0+tN (a0.2.getD (tN v2) dF).1*1) [(.v (.bool true))]) (0+tN (a0.2.getD (tN v2) dF).2.1*1) [(.v (.bool true))])=flat c4 ((v1.set (tN (a0.2.getD (tN v2) dF).1) true).set (tN (a0.2.getD (tN v2) dF).2.1) true) from(by rw [show(splice (flat c4 v1) (0+tN (a0.2.getD (tN v2) dF).1*1) [(.v (.bool true))])=flat c4 (v1.set (tN (a0.2.getD (tN v2) dF).1) true) from(dX eK (by first | omega | (simp only [Lt];omega)) (o:=0) (d:=dF) (Nb rfl) rfl)];exact dX eK (by first | omega | (simp only [Lt];omega)) (o:=0) (d:=dF) (Nb rfl) rfl)];exact dX eK (by first | omega | (simp only [Lt];omega)) (o:=0) (d:=dF) (Nb rfl) rfl)
    have z2:v1.length=(((v1.set (tN (a0.2.getD (tN v2) dF).1) true).set (tN (a0.2.getD (tN v2) dF).2.1) true).set (tN (a0.2.getD (tN v2) dF).2.2) true).length:=by simp
    rw [z0,z1,z2]
    exact ih (((v1.set (tN (a0.2.getD (tN v2) dF).1) true).set (tN (a0.2.getD (tN v2) dF).2.1) true).set (tN (a0.2.getD (tN v2) dF).2.2) true) (v2+1) (by refine⟨?_,?_,?_,?_,?_,?_⟩<;>first | omega | assumption | exact jH | exact hi.2.1 | exact hi.2.2.1 | exact gK hi.2.2.1 (by omega) | exact dN hi.2.2.1 hfo | exact dN hi.2.2.1 (by refine⟨⟨?_,?_⟩,⟨?_,?_⟩,?_,?_⟩<;>omega) | (simp only [List.length_replicate,List.length_set];omega)) (by(try simp only [Ls]);omega)
  | false =>
   have q0:=cE h0
   try have hfo:inF a0.1.length (a0.2.getD (tN v2) dF):=nH (m:=a0) h1 (by omega)
   have e:=Eq.refl (jA a0 (v1,v2));conv at e=>rhs;simp only [jA,h0,aJ]
   rw [aD,e]
   refine en [.d h0,.c [0,1] (C56 (a0.1,a0.2) (by(try simp only [Lt]);omega) (by(try simp only [Lt]);omega))] [] [1,4,10,62,63,64] [2,3,4] hcx aN9 (aOa) (aH7 a0 (flat c4 v1) (v1.length) 0) (tN ((a0.2.length:Int) - 0)+1) (by kernel_rfl) ?_
   exact aW5 a0 l0_1 l0_2 hcx (tN ((a0.2.length:Int) - 0)+1) v1 0 (by refine⟨?_,?_,?_,?_,?_⟩<;>first | omega | assumption | exact jH | exact hi.2.1 | exact hi.2.2.1 | exact gK hi.2.2.1 (by omega) | exact dN hi.2.2.1 hfo | exact dN hi.2.2.1 (by refine⟨⟨?_,?_⟩,⟨?_,?_⟩,?_,?_⟩<;>omega) | (simp only [List.length_replicate,List.length_set];omega)) (by(try simp only [Ls]);omega)
def fW (a0:Zm):Int :=
 (bif (decide (((a0.1.length:Int):Int) > 64)) then
  4
 else
  (bif (!(oR (a0.2.length:Int) 1 96)) then
   4
  else
   (bif (((F54 (a0.1,a0.2)):Int) != 0) then
    (F54 (a0.1,a0.2))
   else
    (aB (jA a0) (tN ((a0.2.length:Int) - 0)+1) ((List.replicate (tN (a0.1.length:Int)) false),0)))))
theorem C27 (a0:Zm)(l0_1:a0.1.length<=2^63-1)(l0_2:a0.2.length<=2^63-1):Con Tryz.prog 27 [(.a [(.s 0 0 a0.1.length 3),(.s 1 0 a0.2.length 3)])] [(.live false true (flat dQ a0.1)),(.live false true (flat eE a0.2))] (iv (fW a0)) []:=by
 refine aK Tryz.func27 (by kernel_rfl) fun cx hcx=>?_
 try have hl96:=gN h1
 cases h0:(decide (((a0.1.length:Int):Int) > 64)) with
 | true =>
  have q0:=bS h0
  try have hl96:=gN h1
  have e:=Eq.refl (fW a0);conv at e=>rhs;simp only [fW,h0,aJ]
  rw [e]
  exact rt [.d h0] [] [] hcx (by kernel_rfl)
 | false =>
  have q0:=cE h0
  try have hl96:=gN h1
  let t1:List (St Tryz.prog):=[.d h0,.c [] (C53 (a0.2.length:Int) 1 96)]
  cases h1:(!(oR (a0.2.length:Int) 1 96)) with
  | true =>
   try have hl96:=gN h1
   have e:=Eq.refl (fW a0);conv at e=>rhs;simp only [fW,h0,h1,aJ]
   rw [e]
   exact rt (t1++[.d h1]) [] [] hcx (by kernel_rfl)
  | false =>
   try have hl96:=gN h1
   let t2:List (St Tryz.prog):=(t1++[.d h1,.c [0,1] (C54 (a0.1,a0.2) (by(try simp only [Lt]);omega) (by(try simp only [Lt]);omega))])
   cases h2:(((F54 (a0.1,a0.2)):Int) != 0) with
   | true =>
    have q2:=bne_iff_ne.1 h2
    try have hl96:=gN h1
    have e:=Eq.refl (fW a0);conv at e=>rhs;simp only [fW,h0,h1,h2,aJ]
    rw [e]
    exact rt (t2++[.d h2]) [] [] hcx (by kernel_rfl)
   | false =>
    have q2:=bne_eq_false_iff_eq.1 h2
    try have hl96:=gN h1
    have e:=Eq.refl (fW a0);conv at e=>rhs;simp only [fW,h0,h1,h2,aJ]
    rw [e]
    refine en (t2++[.d h2,.Z c4 false [(.v (.bool false))] (a0.1.length:Int) 1]) [] [1,4,38,39,40] [2,3] hcx aOb (aOc) (aH8 a0 (flat c4 (List.replicate (tN (a0.1.length:Int)) false)) (tN (a0.1.length:Int)) 0) (tN ((a0.2.length:Int) - 0)+1) (by kernel_rfl) ?_
    have q:=aW6 a0 l0_1 l0_2 hcx (tN ((a0.2.length:Int) - 0)+1) (List.replicate (tN (a0.1.length:Int)) false) 0 (by refine⟨?_,?_,?_,?_,?_,?_⟩<;>first | omega | assumption | exact jH | exact hi.2.1 | exact hi.2.2.1 | exact gK hi.2.2.1 (by omega) | exact dN hi.2.2.1 hfo | exact dN hi.2.2.1 (by refine⟨⟨?_,?_⟩,⟨?_,?_⟩,?_,?_⟩<;>omega) | (simp only [List.length_replicate,List.length_set];omega)) (by(try simp only [Ls]);omega)
    simp only [List.length_replicate] at q
    exact q
def vK (a0:Zm)(a1:Int):Zt×Zt×Zt :=
 ((a0.1.getD (tN (a0.2.getD (tN a1) dF).1) dF),(a0.1.getD (tN (a0.2.getD (tN a1) dF).2.1) dF),(a0.1.getD (tN (a0.2.getD (tN a1) dF).2.2) dF))
theorem C42 (a0:Zm)(a1:Int)(l0_1:a0.1.length<=2^63-1)(l0_2:a0.2.length<=2^63-1)(hi:0<=a1/\a1 < (a0.2.length:Int))(hf:inF a0.1.length (a0.2.getD (tN a1) dF)):Con Tryz.prog 42 [(.a [(.s 0 0 a0.1.length 3),(.s 1 0 a0.2.length 3)]),(iv a1)] [(.live false true (flat dQ a0.1)),(.live false true (flat eE a0.2))] (.a (k9 (vK a0 a1))) []:=by
 refine aK Tryz.func42 (by kernel_rfl) fun cx hcx=>?_
 have e:=Eq.refl (vK a0 a1);conv at e=>rhs;simp only [vK]
 rw [e]
 exact rt [.i a1 (a0.2.length),.L aU a0.2 a1 0 3,.i 0 3 (by decide),.i ((a0.2.getD (tN a1) dF).1) (a0.1.length),.L bQ a0.1 (a0.2.getD (tN a1) dF).1 0 3,.i 1 3 (by decide),.i ((a0.2.getD (tN a1) dF).2.1) (a0.1.length),.L bQ a0.1 (a0.2.getD (tN a1) dF).2.1 0 3,.i 2 3 (by decide),.i ((a0.2.getD (tN a1) dF).2.2) (a0.1.length),.L bQ a0.1 (a0.2.getD (tN a1) dF).2.2 0 3] [] [] hcx (by kernel_rfl)
noncomputable def dY:Code:=(aC [1,1,0,1] [] (aG Tryz.f43) []).1
noncomputable def dZ:List K:=(aC [1,1,0,1] [] (aG Tryz.f43) []).2
def cQ (a0:Zm)(a1:Int)(a2:Int)(v1 v2:Int):LS:=⟨fU 46 [(1,(iv a1)),(2,(iv a2)),(3,(.p 2 0)),(7,(iv v1)),(8,(iv v2))],[(.live false true (flat dQ a0.1)),(.live false true (flat eE a0.2)),(.live true false [(.s 0 0 a0.1.length 3),(.s 1 0 a0.2.length 3)])]⟩
def bC (a0:Zm)(a1:Int)(a2:Int):Int×Int->(Int×Int)⊕(Int)
 | (v1,v2) =>
  (bif (decide ((v2:Int) < (a0.2.length:Int))) then
   (bif (((a0.2.getD (tN v2) dF).1:Int) == a1) then
    (bif (((a0.2.getD (tN v2) dF).2.1:Int) == a2) then
     (bif (((a0.2.getD (tN v2) dF).2.1:Int) == a1) then
      (bif (((a0.2.getD (tN v2) dF).2.2:Int) == a2) then
       (bif (((a0.2.getD (tN v2) dF).2.2:Int) == a1) then
        (bif (((a0.2.getD (tN v2) dF).1:Int) == a2) then
         (.inl ((W ((W ((W (v1+1))+1))+1)),(v2+1)))
        else
         (.inl ((W ((W (v1+1))+1)),(v2+1))))
       else
        (.inl ((W ((W (v1+1))+1)),(v2+1))))
      else
       (bif (((a0.2.getD (tN v2) dF).2.2:Int) == a1) then
        (bif (((a0.2.getD (tN v2) dF).1:Int) == a2) then
         (.inl ((W ((W (v1+1))+1)),(v2+1)))
        else
         (.inl ((W (v1+1)),(v2+1))))
       else
        (.inl ((W (v1+1)),(v2+1)))))
     else
      (bif (((a0.2.getD (tN v2) dF).2.2:Int) == a1) then
       (bif (((a0.2.getD (tN v2) dF).1:Int) == a2) then
        (.inl ((W ((W (v1+1))+1)),(v2+1)))
       else
        (.inl ((W (v1+1)),(v2+1))))
      else
       (.inl ((W (v1+1)),(v2+1)))))
    else
     (bif (((a0.2.getD (tN v2) dF).2.1:Int) == a1) then
      (bif (((a0.2.getD (tN v2) dF).2.2:Int) == a2) then
       (bif (((a0.2.getD (tN v2) dF).2.2:Int) == a1) then
        (bif (((a0.2.getD (tN v2) dF).1:Int) == a2) then
         (.inl ((W ((W (v1+1))+1)),(v2+1)))
        else
         (.inl ((W (v1+1)),(v2+1))))
       else
        (.inl ((W (v1+1)),(v2+1))))
      else
       (bif (((a0.2.getD (tN v2) dF).2.2:Int) == a1) then
        (bif (((a0.2.getD (tN v2) dF).1:Int) == a2) then
         (.inl ((W (v1+1)),(v2+1)))
        else
         (.inl (v1,(v2+1))))
       else
        (.inl (v1,(v2+1)))))
     else
      (bif (((a0.2.getD (tN v2) dF).2.2:Int) == a1) then
       (bif (((a0.2.getD (tN v2) dF).1:Int) == a2) then
        (.inl ((W (v1+1)),(v2+1)))
       else
        (.inl (v1,(v2+1))))
      else
       (.inl (v1,(v2+1))))))
   else
    (bif (((a0.2.getD (tN v2) dF).2.1:Int) == a1) then
     (bif (((a0.2.getD (tN v2) dF).2.2:Int) == a2) then
      (bif (((a0.2.getD (tN v2) dF).2.2:Int) == a1) then
       (bif (((a0.2.getD (tN v2) dF).1:Int) == a2) then
        (.inl ((W ((W (v1+1))+1)),(v2+1)))
       else
        (.inl ((W (v1+1)),(v2+1))))
      else
       (.inl ((W (v1+1)),(v2+1))))
     else
      (bif (((a0.2.getD (tN v2) dF).2.2:Int) == a1) then
       (bif (((a0.2.getD (tN v2) dF).1:Int) == a2) then
        (.inl ((W (v1+1)),(v2+1)))
       else
        (.inl (v1,(v2+1))))
      else
       (.inl (v1,(v2+1)))))
    else
     (bif (((a0.2.getD (tN v2) dF).2.2:Int) == a1) then
      (bif (((a0.2.getD (tN v2) dF).1:Int) == a2) then
       (.inl ((W (v1+1)),(v2+1)))
      else
       (.inl (v1,(v2+1))))
     else
      (.inl (v1,(v2+1))))))
  else
   (.inr v1))
theorem aW7 (a0:Zm)(a1:Int)(a2:Int)(l0_1:a0.1.length<=2^63-1)(l0_2:a0.2.length<=2^63-1) {cx:Cx} (hcx:cx.base=2):∀(n:Nat) (v1 v2:Int),0<=v2->tN ((a0.2.length:Int) - v2) < n->Aw.Good Tryz.prog none 9 (bodyPost Tryz.prog Tryz.f43 (RR cx (iv (aB (bC a0 a1 a2) n (v1,v2))) [] [])) cx [] (.l dY n::dZ) (cQ a0 a1 a2 v1 v2):=by
 intro n
 induction n with
 | zero=>intro v1 v2 hi hn;exact absurd hn (fZ _)
 | succ n ih =>
  intro v1 v2 hi hn
  refine aH ?_
  cases h0:(decide ((v2:Int) < (a0.2.length:Int))) with
  | true =>
   have q0:=bS h0
   let t1:List (St Tryz.prog):=[.d h0,.u 200,.T,.i v2 (a0.2.length),.i 0 3 (by decide),.L aU a0.2 v2 0 1]
   cases h1:(((a0.2.getD (tN v2) dF).1:Int) == a1) with
   | true =>
    have q1:=eq_of_beq h1
    let t2:List (St Tryz.prog):=(t1++[.d h1,.p (show(3:Int)≠0 from by decide),.i v2 (a0.2.length),.i 1 3 (by decide),.L aU a0.2 v2 1 1])
    cases h2:(((a0.2.getD (tN v2) dF).2.1:Int) == a2) with
    | true =>
     have q2:=eq_of_beq h2
     let t3:List (St Tryz.prog):=(t2++[.d h2,.u 0,.T,.i v2 (a0.2.length),.i 1 3 (by decide),.L aU a0.2 v2 1 1])
     cases h3:(((a0.2.getD (tN v2) dF).2.1:Int) == a1) with
     | true =>
      have q3:=eq_of_beq h3
      let t4:List (St Tryz.prog):=(t3++[.d h3,.p (show(3:Int)≠0 from by decide),.i v2 (a0.2.length),.i 2 3 (by decide),.L aU a0.2 v2 2 1])
      cases h4:(((a0.2.getD (tN v2) dF).2.2:Int) == a2) with
      | true =>
       have q4:=eq_of_beq h4
       let t5:List (St Tryz.prog):=(t4++[.d h4,.u 0,.T,.i v2 (a0.2.length),.i 2 3 (by decide),.L aU a0.2 v2 2 1])
       cases h5:(((a0.2.getD (tN v2) dF).2.2:Int) == a1) with
       | true =>
        have q5:=eq_of_beq h5
        let t6:List (St Tryz.prog):=(t5++[.d h5,.p (show(3:Int)≠0 from by decide),.i v2 (a0.2.length),.i 0 3 (by decide),.L aU a0.2 v2 0 1])
        cases h6:(((a0.2.getD (tN v2) dF).1:Int) == a2) with
        | true =>
         have q6:=eq_of_beq h6
         have e:=Eq.refl (bC a0 a1 a2 (v1,v2));conv at e=>rhs;simp only [bC,h0,h1,h2,h3,h4,h5,h6,aJ]
         rw [aA e]
         refine ba (t6++[.d h6,.u 0,.F]) [] [1,2,3,7,8] [2] hcx (m:=n) dY (dZ) (cQ a0 a1 a2 (W ((W ((W (v1+1))+1))+1)) (W (v2+1))) (by kernel_rfl) ?_
         have z0:(W (v2+1))=(v2+1):=aF (by omega) (by omega)
         rw [z0]
         exact ih (W ((W ((W (v1+1))+1))+1)) (v2+1) (by(try simp only [Ls]);omega) (by(try simp only [Ls]);omega)
        | false =>
         have q6:=ne_of_beq_false h6
         have e:=Eq.refl (bC a0 a1 a2 (v1,v2));conv at e=>rhs;simp only [bC,h0,h1,h2,h3,h4,h5,h6,aJ]
         rw [aA e]
         refine ba (t6++[.d h6,.u 0,.F]) [] [1,2,3,7,8] [2] hcx (m:=n) dY (dZ) (cQ a0 a1 a2 (W ((W (v1+1))+1)) (W (v2+1))) (by kernel_rfl) ?_
         have z0:(W (v2+1))=(v2+1):=aF (by omega) (by omega)
         rw [z0]
         exact ih (W ((W (v1+1))+1)) (v2+1) (by(try simp only [Ls]);omega) (by(try simp only [Ls]);omega)
       | false =>
        have q5:=ne_of_beq_false h5
        have e:=Eq.refl (bC a0 a1 a2 (v1,v2));conv at e=>rhs;simp only [bC,h0,h1,h2,h3,h4,h5,aJ]
        rw [aA e]
        refine ba (t5++[.d h5,.u 0,.F]) [] [1,2,3,7,8] [2] hcx (m:=n) dY (dZ) (cQ a0 a1 a2 (W ((W (v1+1))+1)) (W (v2+1))) (by kernel_rfl) ?_
        have z0:(W (v2+1))=(v2+1):=aF (by omega) (by omega)
        rw [z0]
        exact ih (W ((W (v1+1))+1)) (v2+1) (by(try simp only [Ls]);omega) (by(try simp only [Ls]);omega)
      | false =>
       have q4:=ne_of_beq_false h4
       let t5:List (St Tryz.prog):=(t4++[.d h4,.u 0,.T,.i v2 (a0.2.length),.i 2 3 (by decide),.L aU a0.2 v2 2 1])
       cases h5:(((a0.2.getD (tN v2) dF).2.2:Int) == a1) with
       | true =>
        have q5:=eq_of_beq h5
        let t6:List (St Tryz.prog):=(t5++[.d h5,.p (show(3:Int)≠0 from by decide),.i v2 (a0.2.length),.i 0 3 (by decide),.L aU a0.2 v2 0 1])
        cases h6:(((a0.2.getD (tN v2) dF).1:Int) == a2) with
        | true =>
         have q6:=eq_of_beq h6
         have e:=Eq.refl (bC a0 a1 a2 (v1,v2));conv at e=>rhs;simp only [bC,h0,h1,h2,h3,h4,h5,h6,aJ]
         rw [aA e]
         refine ba (t6++[.d h6,.u 0,.F]) [] [1,2,3,7,8] [2] hcx (m:=n) dY (dZ) (cQ a0 a1 a2 (W ((W (v1+1))+1)) (W (v2+1))) (by kernel_rfl) ?_
         have z0:(W (v2+1))=(v2+1):=aF (by omega) (by omega)
         rw [z0]
         exact ih (W ((W (v1+1))+1)) (v2+1) (by(try simp only [Ls]);omega) (by(try simp only [Ls]);omega)
        | false =>
         have q6:=ne_of_beq_false h6
         have e:=Eq.refl (bC a0 a1 a2 (v1,v2));conv at e=>rhs;simp only [bC,h0,h1,h2,h3,h4,h5,h6,aJ]
         rw [aA e]
         refine ba (t6++[.d h6,.u 0,.F]) [] [1,2,3,7,8] [2] hcx (m:=n) dY (dZ) (cQ a0 a1 a2 (W (v1+1)) (W (v2+1))) (by kernel_rfl) ?_
         have z0:(W (v2+1))=(v2+1):=aF (by omega) (by omega)
         rw [z0]
         exact ih (W (v1+1)) (v2+1) (by(try simp only [Ls]);omega) (by(try simp only [Ls]);omega)
       | false =>
        have q5:=ne_of_beq_false h5
        have e:=Eq.refl (bC a0 a1 a2 (v1,v2));conv at e=>rhs;simp only [bC,h0,h1,h2,h3,h4,h5,aJ]
        rw [aA e]
        refine ba (t5++[.d h5,.u 0,.F]) [] [1,2,3,7,8] [2] hcx (m:=n) dY (dZ) (cQ a0 a1 a2 (W (v1+1)) (W (v2+1))) (by kernel_rfl) ?_
        have z0:(W (v2+1))=(v2+1):=aF (by omega) (by omega)
        rw [z0]
        exact ih (W (v1+1)) (v2+1) (by(try simp only [Ls]);omega) (by(try simp only [Ls]);omega)
     | false =>
      have q3:=ne_of_beq_false h3
      let t4:List (St Tryz.prog):=(t3++[.d h3,.u 0,.T,.i v2 (a0.2.length),.i 2 3 (by decide),.L aU a0.2 v2 2 1])
      cases h4:(((a0.2.getD (tN v2) dF).2.2:Int) == a1) with
      | true =>
       have q4:=eq_of_beq h4
       let t5:List (St Tryz.prog):=(t4++[.d h4,.p (show(3:Int)≠0 from by decide),.i v2 (a0.2.length),.i 0 3 (by decide),.L aU a0.2 v2 0 1])
       cases h5:(((a0.2.getD (tN v2) dF).1:Int) == a2) with
       | true =>
        have q5:=eq_of_beq h5
        have e:=Eq.refl (bC a0 a1 a2 (v1,v2));conv at e=>rhs;simp only [bC,h0,h1,h2,h3,h4,h5,aJ]
        rw [aA e]
        refine ba (t5++[.d h5,.u 0,.F]) [] [1,2,3,7,8] [2] hcx (m:=n) dY (dZ) (cQ a0 a1 a2 (W ((W (v1+1))+1)) (W (v2+1))) (by kernel_rfl) ?_
        have z0:(W (v2+1))=(v2+1):=aF (by omega) (by omega)
        rw [z0]
        exact ih (W ((W (v1+1))+1)) (v2+1) (by(try simp only [Ls]);omega) (by(try simp only [Ls]);omega)
       | false =>
        have q5:=ne_of_beq_false h5
        have e:=Eq.refl (bC a0 a1 a2 (v1,v2));conv at e=>rhs;simp only [bC,h0,h1,h2,h3,h4,h5,aJ]
        rw [aA e]
        refine ba (t5++[.d h5,.u 0,.F]) [] [1,2,3,7,8] [2] hcx (m:=n) dY (dZ) (cQ a0 a1 a2 (W (v1+1)) (W (v2+1))) (by kernel_rfl) ?_
        have z0:(W (v2+1))=(v2+1):=aF (by omega) (by omega)
        rw [z0]
        exact ih (W (v1+1)) (v2+1) (by(try simp only [Ls]);omega) (by(try simp only [Ls]);omega)
      | false =>
       have q4:=ne_of_beq_false h4
       have e:=Eq.refl (bC a0 a1 a2 (v1,v2));conv at e=>rhs;simp only [bC,h0,h1,h2,h3,h4,aJ]
       rw [aA e]
       refine ba (t4++[.d h4,.u 0,.F]) [] [1,2,3,7,8] [2] hcx (m:=n) dY (dZ) (cQ a0 a1 a2 (W (v1+1)) (W (v2+1))) (by kernel_rfl) ?_
       have z0:(W (v2+1))=(v2+1):=aF (by omega) (by omega)
       rw [z0]
       exact ih (W (v1+1)) (v2+1) (by(try simp only [Ls]);omega) (by(try simp only [Ls]);omega)
    | false =>
     have q2:=ne_of_beq_false h2
     let t3:List (St Tryz.prog):=(t2++[.d h2,.u 0,.T,.i v2 (a0.2.length),.i 1 3 (by decide),.L aU a0.2 v2 1 1])
     cases h3:(((a0.2.getD (tN v2) dF).2.1:Int) == a1) with
     | true =>
      have q3:=eq_of_beq h3
      let t4:List (St Tryz.prog):=(t3++[.d h3,.p (show(3:Int)≠0 from by decide),.i v2 (a0.2.length),.i 2 3 (by decide),.L aU a0.2 v2 2 1])
      cases h4:(((a0.2.getD (tN v2) dF).2.2:Int) == a2) with
      | true =>
       have q4:=eq_of_beq h4
       let t5:List (St Tryz.prog):=(t4++[.d h4,.u 0,.T,.i v2 (a0.2.length),.i 2 3 (by decide),.L aU a0.2 v2 2 1])
       cases h5:(((a0.2.getD (tN v2) dF).2.2:Int) == a1) with
       | true =>
        have q5:=eq_of_beq h5
        let t6:List (St Tryz.prog):=(t5++[.d h5,.p (show(3:Int)≠0 from by decide),.i v2 (a0.2.length),.i 0 3 (by decide),.L aU a0.2 v2 0 1])
        cases h6:(((a0.2.getD (tN v2) dF).1:Int) == a2) with
        | true =>
         have q6:=eq_of_beq h6
         have e:=Eq.refl (bC a0 a1 a2 (v1,v2));conv at e=>rhs;simp only [bC,h0,h1,h2,h3,h4,h5,h6,aJ]
         rw [aA e]
         refine ba (t6++[.d h6,.u 0,.F]) [] [1,2,3,7,8] [2] hcx (m:=n) dY (dZ) (cQ a0 a1 a2 (W ((W (v1+1))+1)) (W (v2+1))) (by kernel_rfl) ?_
         have z0:(W (v2+1))=(v2+1):=aF (by omega) (by omega)
         rw [z0]
         exact ih (W ((W (v1+1))+1)) (v2+1) (by(try simp only [Ls]);omega) (by(try simp only [Ls]);omega)
        | false =>
         have q6:=ne_of_beq_false h6
         have e:=Eq.refl (bC a0 a1 a2 (v1,v2));conv at e=>rhs;simp only [bC,h0,h1,h2,h3,h4,h5,h6,aJ]
         rw [aA e]
         refine ba (t6++[.d h6,.u 0,.F]) [] [1,2,3,7,8] [2] hcx (m:=n) dY (dZ) (cQ a0 a1 a2 (W (v1+1)) (W (v2+1))) (by kernel_rfl) ?_
         have z0:(W (v2+1))=(v2+1):=aF (by omega) (by omega)
         rw [z0]
         exact ih (W (v1+1)) (v2+1) (by(try simp only [Ls]);omega) (by(try simp only [Ls]);omega)
       | false =>
        have q5:=ne_of_beq_false h5
        have e:=Eq.refl (bC a0 a1 a2 (v1,v2));conv at e=>rhs;simp only [bC,h0,h1,h2,h3,h4,h5,aJ]
        rw [aA e]
        refine ba (t5++[.d h5,.u 0,.F]) [] [1,2,3,7,8] [2] hcx (m:=n) dY (dZ) (cQ a0 a1 a2 (W (v1+1)) (W (v2+1))) (by kernel_rfl) ?_
        have z0:(W (v2+1))=(v2+1):=aF (by omega) (by omega)
        rw [z0]
        exact ih (W (v1+1)) (v2+1) (by(try simp only [Ls]);omega) (by(try simp only [Ls]);omega)
      | false =>
       have q4:=ne_of_beq_false h4
       let t5:List (St Tryz.prog):=(t4++[.d h4,.u 0,.T,.i v2 (a0.2.length),.i 2 3 (by decide),.L aU a0.2 v2 2 1])
       cases h5:(((a0.2.getD (tN v2) dF).2.2:Int) == a1) with
       | true =>
        have q5:=eq_of_beq h5
        let t6:List (St Tryz.prog):=(t5++[.d h5,.p (show(3:Int)≠0 from by decide),.i v2 (a0.2.length),.i 0 3 (by decide),.L aU a0.2 v2 0 1])
        cases h6:(((a0.2.getD (tN v2) dF).1:Int) == a2) with
        | true =>
         have q6:=eq_of_beq h6
         have e:=Eq.refl (bC a0 a1 a2 (v1,v2));conv at e=>rhs;simp only [bC,h0,h1,h2,h3,h4,h5,h6,aJ]
         rw [aA e]
         refine ba (t6++[.d h6,.u 0,.F]) [] [1,2,3,7,8] [2] hcx (m:=n) dY (dZ) (cQ a0 a1 a2 (W (v1+1)) (W (v2+1))) (by kernel_rfl) ?_
         have z0:(W (v2+1))=(v2+1):=aF (by omega) (by omega)
         rw [z0]
         exact ih (W (v1+1)) (v2+1) (by(try simp only [Ls]);omega) (by(try simp only [Ls]);omega)
        | false =>
         have q6:=ne_of_beq_false h6
         have e:=Eq.refl (bC a0 a1 a2 (v1,v2));conv at e=>rhs;simp only [bC,h0,h1,h2,h3,h4,h5,h6,aJ]
         rw [aA e]
         refine ba (t6++[.d h6,.u 0,.F]) [] [1,2,3,7,8] [2] hcx (m:=n) dY (dZ) (cQ a0 a1 a2 v1 (W (v2+1))) (by kernel_rfl) ?_
         have z0:(W (v2+1))=(v2+1):=aF (by omega) (by omega)
         rw [z0]
         exact ih v1 (v2+1) (by(try simp only [Ls]);omega) (by(try simp only [Ls]);omega)
       | false =>
        have q5:=ne_of_beq_false h5
        have e:=Eq.refl (bC a0 a1 a2 (v1,v2));conv at e=>rhs;simp only [bC,h0,h1,h2,h3,h4,h5,aJ]
        rw [aA e]
        refine ba (t5++[.d h5,.u 0,.F]) [] [1,2,3,7,8] [2] hcx (m:=n) dY (dZ) (cQ a0 a1 a2 v1 (W (v2+1))) (by kernel_rfl) ?_
        have z0:(W (v2+1))=(v2+1):=aF (by omega) (by omega)
        rw [z0]
        exact ih v1 (v2+1) (by(try simp only [Ls]);omega) (by(try simp only [Ls]);omega)
     | false =>
      have q3:=ne_of_beq_false h3
      let t4:List (St Tryz.prog):=(t3++[.d h3,.u 0,.T,.i v2 (a0.2.length),.i 2 3 (by decide),.L aU a0.2 v2 2 1])
      cases h4:(((a0.2.getD (tN v2) dF).2.2:Int) == a1) with
      | true =>
       have q4:=eq_of_beq h4
       let t5:List (St Tryz.prog):=(t4++[.d h4,.p (show(3:Int)≠0 from by decide),.i v2 (a0.2.length),.i 0 3 (by decide),.L aU a0.2 v2 0 1])
       cases h5:(((a0.2.getD (tN v2) dF).1:Int) == a2) with
       | true =>
        have q5:=eq_of_beq h5
        have e:=Eq.refl (bC a0 a1 a2 (v1,v2));conv at e=>rhs;simp only [bC,h0,h1,h2,h3,h4,h5,aJ]
        rw [aA e]
        refine ba (t5++[.d h5,.u 0,.F]) [] [1,2,3,7,8] [2] hcx (m:=n) dY (dZ) (cQ a0 a1 a2 (W (v1+1)) (W (v2+1))) (by kernel_rfl) ?_
        have z0:(W (v2+1))=(v2+1):=aF (by omega) (by omega)
        rw [z0]
        exact ih (W (v1+1)) (v2+1) (by(try simp only [Ls]);omega) (by(try simp only [Ls]);omega)
       | false =>
        have q5:=ne_of_beq_false h5
        have e:=Eq.refl (bC a0 a1 a2 (v1,v2));conv at e=>rhs;simp only [bC,h0,h1,h2,h3,h4,h5,aJ]
        rw [aA e]
        refine ba (t5++[.d h5,.u 0,.F]) [] [1,2,3,7,8] [2] hcx (m:=n) dY (dZ) (cQ a0 a1 a2 v1 (W (v2+1))) (by kernel_rfl) ?_
        have z0:(W (v2+1))=(v2+1):=aF (by omega) (by omega)
        rw [z0]
        exact ih v1 (v2+1) (by(try simp only [Ls]);omega) (by(try simp only [Ls]);omega)
      | false =>
       have q4:=ne_of_beq_false h4
       have e:=Eq.refl (bC a0 a1 a2 (v1,v2));conv at e=>rhs;simp only [bC,h0,h1,h2,h3,h4,aJ]
       rw [aA e]
       refine ba (t4++[.d h4,.u 0,.F]) [] [1,2,3,7,8] [2] hcx (m:=n) dY (dZ) (cQ a0 a1 a2 v1 (W (v2+1))) (by kernel_rfl) ?_
       have z0:(W (v2+1))=(v2+1):=aF (by omega) (by omega)
       rw [z0]
       exact ih v1 (v2+1) (by(try simp only [Ls]);omega) (by(try simp only [Ls]);omega)
   | false =>
    have q1:=ne_of_beq_false h1
    let t2:List (St Tryz.prog):=(t1++[.d h1,.u 0,.T,.i v2 (a0.2.length),.i 1 3 (by decide),.L aU a0.2 v2 1 1])
    cases h2:(((a0.2.getD (tN v2) dF).2.1:Int) == a1) with
    | true =>
     have q2:=eq_of_beq h2
     let t3:List (St Tryz.prog):=(t2++[.d h2,.p (show(3:Int)≠0 from by decide),.i v2 (a0.2.length),.i 2 3 (by decide),.L aU a0.2 v2 2 1])
     cases h3:(((a0.2.getD (tN v2) dF).2.2:Int) == a2) with
     | true =>
      have q3:=eq_of_beq h3
      let t4:List (St Tryz.prog):=(t3++[.d h3,.u 0,.T,.i v2 (a0.2.length),.i 2 3 (by decide),.L aU a0.2 v2 2 1])
      cases h4:(((a0.2.getD (tN v2) dF).2.2:Int) == a1) with
      | true =>
       have q4:=eq_of_beq h4
       let t5:List (St Tryz.prog):=(t4++[.d h4,.p (show(3:Int)≠0 from by decide),.i v2 (a0.2.length),.i 0 3 (by decide),.L aU a0.2 v2 0 1])
       cases h5:(((a0.2.getD (tN v2) dF).1:Int) == a2) with
       | true =>
        have q5:=eq_of_beq h5
        have e:=Eq.refl (bC a0 a1 a2 (v1,v2));conv at e=>rhs;simp only [bC,h0,h1,h2,h3,h4,h5,aJ]
        rw [aA e]
        refine ba (t5++[.d h5,.u 0,.F]) [] [1,2,3,7,8] [2] hcx (m:=n) dY (dZ) (cQ a0 a1 a2 (W ((W (v1+1))+1)) (W (v2+1))) (by kernel_rfl) ?_
        have z0:(W (v2+1))=(v2+1):=aF (by omega) (by omega)
        rw [z0]
        exact ih (W ((W (v1+1))+1)) (v2+1) (by(try simp only [Ls]);omega) (by(try simp only [Ls]);omega)
       | false =>
        have q5:=ne_of_beq_false h5
        have e:=Eq.refl (bC a0 a1 a2 (v1,v2));conv at e=>rhs;simp only [bC,h0,h1,h2,h3,h4,h5,aJ]
        rw [aA e]
        refine ba (t5++[.d h5,.u 0,.F]) [] [1,2,3,7,8] [2] hcx (m:=n) dY (dZ) (cQ a0 a1 a2 (W (v1+1)) (W (v2+1))) (by kernel_rfl) ?_
        have z0:(W (v2+1))=(v2+1):=aF (by omega) (by omega)
        rw [z0]
        exact ih (W (v1+1)) (v2+1) (by(try simp only [Ls]);omega) (by(try simp only [Ls]);omega)
      | false =>
       have q4:=ne_of_beq_false h4
       have e:=Eq.refl (bC a0 a1 a2 (v1,v2));conv at e=>rhs;simp only [bC,h0,h1,h2,h3,h4,aJ]
       rw [aA e]
       refine ba (t4++[.d h4,.u 0,.F]) [] [1,2,3,7,8] [2] hcx (m:=n) dY (dZ) (cQ a0 a1 a2 (W (v1+1)) (W (v2+1))) (by kernel_rfl) ?_
       have z0:(W (v2+1))=(v2+1):=aF (by omega) (by omega)
       rw [z0]
       exact ih (W (v1+1)) (v2+1) (by(try simp only [Ls]);omega) (by(try simp only [Ls]);omega)
     | false =>
      have q3:=ne_of_beq_false h3
      let t4:List (St Tryz.prog):=(t3++[.d h3,.u 0,.T,.i v2 (a0.2.length),.i 2 3 (by decide),.L aU a0.2 v2 2 1])
      cases h4:(((a0.2.getD (tN v2) dF).2.2:Int) == a1) with
      | true =>
       have q4:=eq_of_beq h4
       let t5:List (St Tryz.prog):=(t4++[.d h4,.p (show(3:Int)≠0 from by decide),.i v2 (a0.2.length),.i 0 3 (by decide),.L aU a0.2 v2 0 1])
       cases h5:(((a0.2.getD (tN v2) dF).1:Int) == a2) with
       | true =>
        have q5:=eq_of_beq h5
        have e:=Eq.refl (bC a0 a1 a2 (v1,v2));conv at e=>rhs;simp only [bC,h0,h1,h2,h3,h4,h5,aJ]
        rw [aA e]
        refine ba (t5++[.d h5,.u 0,.F]) [] [1,2,3,7,8] [2] hcx (m:=n) dY (dZ) (cQ a0 a1 a2 (W (v1+1)) (W (v2+1))) (by kernel_rfl) ?_
        have z0:(W (v2+1))=(v2+1):=aF (by omega) (by omega)
        rw [z0]
        exact ih (W (v1+1)) (v2+1) (by(try simp only [Ls]);omega) (by(try simp only [Ls]);omega)
       | false =>
        have q5:=ne_of_beq_false h5
        have e:=Eq.refl (bC a0 a1 a2 (v1,v2));conv at e=>rhs;simp only [bC,h0,h1,h2,h3,h4,h5,aJ]
        rw [aA e]
        refine ba (t5++[.d h5,.u 0,.F]) [] [1,2,3,7,8] [2] hcx (m:=n) dY (dZ) (cQ a0 a1 a2 v1 (W (v2+1))) (by kernel_rfl) ?_
        have z0:(W (v2+1))=(v2+1):=aF (by omega) (by omega)
        rw [z0]
        exact ih v1 (v2+1) (by(try simp only [Ls]);omega) (by(try simp only [Ls]);omega)
      | false =>
       have q4:=ne_of_beq_false h4
       have e:=Eq.refl (bC a0 a1 a2 (v1,v2));conv at e=>rhs;simp only [bC,h0,h1,h2,h3,h4,aJ]
       rw [aA e]
       refine ba (t4++[.d h4,.u 0,.F]) [] [1,2,3,7,8] [2] hcx (m:=n) dY (dZ) (cQ a0 a1 a2 v1 (W (v2+1))) (by kernel_rfl) ?_
       have z0:(W (v2+1))=(v2+1):=aF (by omega) (by omega)
       rw [z0]
       exact ih v1 (v2+1) (by(try simp only [Ls]);omega) (by(try simp only [Ls]);omega)
    | false =>
     have q2:=ne_of_beq_false h2
     let t3:List (St Tryz.prog):=(t2++[.d h2,.u 0,.T,.i v2 (a0.2.length),.i 2 3 (by decide),.L aU a0.2 v2 2 1])
     cases h3:(((a0.2.getD (tN v2) dF).2.2:Int) == a1) with
     | true =>
      have q3:=eq_of_beq h3
      let t4:List (St Tryz.prog):=(t3++[.d h3,.p (show(3:Int)≠0 from by decide),.i v2 (a0.2.length),.i 0 3 (by decide),.L aU a0.2 v2 0 1])
      cases h4:(((a0.2.getD (tN v2) dF).1:Int) == a2) with
      | true =>
       have q4:=eq_of_beq h4
       have e:=Eq.refl (bC a0 a1 a2 (v1,v2));conv at e=>rhs;simp only [bC,h0,h1,h2,h3,h4,aJ]
       rw [aA e]
       refine ba (t4++[.d h4,.u 0,.F]) [] [1,2,3,7,8] [2] hcx (m:=n) dY (dZ) (cQ a0 a1 a2 (W (v1+1)) (W (v2+1))) (by kernel_rfl) ?_
       have z0:(W (v2+1))=(v2+1):=aF (by omega) (by omega)
       rw [z0]
       exact ih (W (v1+1)) (v2+1) (by(try simp only [Ls]);omega) (by(try simp only [Ls]);omega)
      | false =>
       have q4:=ne_of_beq_false h4
       have e:=Eq.refl (bC a0 a1 a2 (v1,v2));conv at e=>rhs;simp only [bC,h0,h1,h2,h3,h4,aJ]
       rw [aA e]
       refine ba (t4++[.d h4,.u 0,.F]) [] [1,2,3,7,8] [2] hcx (m:=n) dY (dZ) (cQ a0 a1 a2 v1 (W (v2+1))) (by kernel_rfl) ?_
       have z0:(W (v2+1))=(v2+1):=aF (by omega) (by omega)
       rw [z0]
       exact ih v1 (v2+1) (by(try simp only [Ls]);omega) (by(try simp only [Ls]);omega)
     | false =>
      have q3:=ne_of_beq_false h3
      have e:=Eq.refl (bC a0 a1 a2 (v1,v2));conv at e=>rhs;simp only [bC,h0,h1,h2,h3,aJ]
      rw [aA e]
      refine ba (t3++[.d h3,.u 0,.F]) [] [1,2,3,7,8] [2] hcx (m:=n) dY (dZ) (cQ a0 a1 a2 v1 (W (v2+1))) (by kernel_rfl) ?_
      have z0:(W (v2+1))=(v2+1):=aF (by omega) (by omega)
      rw [z0]
      exact ih v1 (v2+1) (by(try simp only [Ls]);omega) (by(try simp only [Ls]);omega)
  | false =>
   have q0:=cE h0
   have e:=Eq.refl (bC a0 a1 a2 (v1,v2));conv at e=>rhs;simp only [bC,h0,aJ]
   rw [aD,e]
   exact rt [.d h0] [] [] hcx (by kernel_rfl)
def F43 (a0:Zm)(a1:Int)(a2:Int):Int :=
 (aB (bC a0 a1 a2) (tN ((a0.2.length:Int) - 0)+1) (0,0))
theorem C43 (a0:Zm)(a1:Int)(a2:Int)(l0_1:a0.1.length<=2^63-1)(l0_2:a0.2.length<=2^63-1):Con Tryz.prog 43 [(.a [(.s 0 0 a0.1.length 3),(.s 1 0 a0.2.length 3)]),(iv a1),(iv a2)] [(.live false true (flat dQ a0.1)),(.live false true (flat eE a0.2))] (iv (F43 a0 a1 a2)) []:=by
 refine aK Tryz.func43 (by kernel_rfl) fun cx hcx=>?_
 have e:=Eq.refl (F43 a0 a1 a2);conv at e=>rhs;simp only [F43]
 rw [e]
 refine en [] [] [1,2,3,7,8] [2] hcx dY (dZ) (cQ a0 a1 a2 0 0) (tN ((a0.2.length:Int) - 0)+1) (by kernel_rfl) ?_
 exact aW7 a0 a1 a2 l0_1 l0_2 hcx (tN ((a0.2.length:Int) - 0)+1) 0 0 (by(try simp only [Ls]);omega) (by(try simp only [Ls]);omega)
noncomputable def aOd:Code:=(aC [1,1,0,1] [] (aG Tryz.f44) []).1
noncomputable def aOe:List K:=(aC [1,1,0,1] [] (aG Tryz.f44) []).2
def aH9 (a0:Zm)(v1 v2:Int):LS:=⟨fU 27 [(1,(.p 2 0)),(3,(iv v1)),(4,(iv v2))],[(.live false true (flat dQ a0.1)),(.live false true (flat eE a0.2)),(.live true false [(.s 0 0 a0.1.length 3),(.s 1 0 a0.2.length 3)])]⟩
def wV (a0:Zm):Int×Int->(Int×Int)⊕(Int)
 | (v1,v2) =>
  (bif (decide ((v2:Int) < (a0.2.length:Int))) then
   (.inl ((W (v1+(gD (vK (a0.1,a0.2) v2).1 (F74 (vK (a0.1,a0.2) v2).2.1 (vK (a0.1,a0.2) v2).2.2)))),(v2+1)))
  else
   (.inr v1))
theorem aW8 (a0:Zm)(l0_1:a0.1.length<=2^63-1)(l0_2:a0.2.length<=2^63-1)(hv:jU a0 a0.2.length)(hn:a0.2.length<=96) {cx:Cx} (hcx:cx.base=2):∀(n:Nat) (v1 v2:Int),0<=v2->tN ((a0.2.length:Int) - v2) < n->Aw.Good Tryz.prog none 9 (bodyPost Tryz.prog Tryz.f44 (RR cx (iv (aB (wV a0) n (v1,v2))) [] [])) cx [] (.l aOd n::aOe) (aH9 a0 v1 v2):=by
 intro n
 induction n with
 | zero=>intro v1 v2 hi hn;exact absurd hn (fZ _)
 | succ n ih =>
  intro v1 v2 hi hn
  refine aH ?_
  cases h0:(decide ((v2:Int) < (a0.2.length:Int))) with
  | true =>
   have q0:=bS h0
   have e:=Eq.refl (wV a0 (v1,v2));conv at e=>rhs;simp only [wV,h0,aJ]
   rw [aA e]
   refine ba [.d h0,.c [0,1] (C42 (a0.1,a0.2) v2 (by(try simp only [Lt]);omega) (by(try simp only [Lt]);omega) (by show 0<=_/\_ < (a0.2.length:Int);omega) (aGl hv (by omega) (by omega))),.c [] (C74 (vK (a0.1,a0.2) v2).2.1 (vK (a0.1,a0.2) v2).2.2),.c [] (C76 (vK (a0.1,a0.2) v2).1 (F74 (vK (a0.1,a0.2) v2).2.1 (vK (a0.1,a0.2) v2).2.2))] [] [1,3,4] [2] hcx (m:=n) aOd (aOe) (aH9 a0 (W (v1+(gD (vK (a0.1,a0.2) v2).1 (F74 (vK (a0.1,a0.2) v2).2.1 (vK (a0.1,a0.2) v2).2.2)))) (W (v2+1))) (by kernel_rfl) ?_
   have z0:(W (v2+1))=(v2+1):=aF (by omega) (by omega)
   rw [z0]
   exact ih (W (v1+(gD (vK (a0.1,a0.2) v2).1 (F74 (vK (a0.1,a0.2) v2).2.1 (vK (a0.1,a0.2) v2).2.2)))) (v2+1) (by(try simp only [Ls]);omega) (by(try simp only [Ls]);omega)
  | false =>
   have q0:=cE h0
   have e:=Eq.refl (wV a0 (v1,v2));conv at e=>rhs;simp only [wV,h0,aJ]
   rw [aD,e]
   exact rt [.d h0] [] [] hcx (by kernel_rfl)
def F44 (a0:Zm):Int :=
 (aB (wV a0) (tN ((a0.2.length:Int) - 0)+1) (0,0))
theorem C44 (a0:Zm)(l0_1:a0.1.length<=2^63-1)(l0_2:a0.2.length<=2^63-1)(hv:jU a0 a0.2.length)(hn:a0.2.length<=96):Con Tryz.prog 44 [(.a [(.s 0 0 a0.1.length 3),(.s 1 0 a0.2.length 3)])] [(.live false true (flat dQ a0.1)),(.live false true (flat eE a0.2))] (iv (F44 a0)) []:=by
 refine aK Tryz.func44 (by kernel_rfl) fun cx hcx=>?_
 have e:=Eq.refl (F44 a0);conv at e=>rhs;simp only [F44]
 rw [e]
 refine en [] [] [1,3,4] [2] hcx aOd (aOe) (aH9 a0 0 0) (tN ((a0.2.length:Int) - 0)+1) (by kernel_rfl) ?_
 exact aW8 a0 l0_1 l0_2 hv hn hcx (tN ((a0.2.length:Int) - 0)+1) 0 0 (by(try simp only [Ls]);omega) (by(try simp only [Ls]);omega)
noncomputable def aOf:Code:=(aC [1,1,0,1,0,1,0,1,1] [0] (aG Tryz.f19) []).1
noncomputable def aOg (m0:Nat):List K:=(aC [1,1,0,1,0,1,0,1,1] [m0] (aG Tryz.f19) []).2
def aIa (a0:Zm)(v3 v4:Int):LS:=⟨fU 148 [(1,(.p 2 0)),(3,(iv v3)),(4,(iv v4))],[(.live false true (flat dQ a0.1)),(.live false true (flat eE a0.2)),(.live true false [(.s 0 0 a0.1.length 3),(.s 1 0 a0.2.length 3)])]⟩
def jL (a0:Zm):Int×Int->(Int×Int)⊕((Int)⊕(Int))
 | (v3,v4) =>
  (bif (decide ((v4:Int) < v3)) then
   (bif ((((a0.1.getD (tN v3) dF).1:Int) == (a0.1.getD (tN v4) dF).1)&&((((a0.1.getD (tN v3) dF).2.1:Int) == (a0.1.getD (tN v4) dF).2.1)&&((((a0.1.getD (tN v3) dF).2.2:Int) == (a0.1.getD (tN v4) dF).2.2)&&true))) then
    (.inr (.inr 1))
   else
    (.inl (v3,(v4+1))))
  else
   (.inr (.inl (v3+1))))
noncomputable def aOh:Code:=(aC [1,1,1,1,1,1,0,1] [] (aG Tryz.f19) []).1
noncomputable def aOi:List K:=(aC [1,1,1,1,1,1,0,1] [] (aG Tryz.f19) []).2
def aIb (a0:Zm)(v11c:List SV)(v11n:Nat)(v12:Int):LS:=⟨fU 148 [(1,(.p 2 0)),(5,(.s 3 0 v11n 1)),(13,(iv v12))],[(.live false true (flat dQ a0.1)),(.live false true (flat eE a0.2)),(.live true false [(.s 0 0 a0.1.length 3),(.s 1 0 a0.2.length 3)]),(.live true true v11c)]⟩
def jB (a0:Zm):List (Bool)×Int->(List (Bool)×Int)⊕(Int)
 | (v11,v12) =>
  (bif (decide ((v12:Int) < (v11.length:Int))) then
   (bif (!(v11.getD (tN v12) dF)) then
    (.inr 5)
   else
    (.inl (v11,(v12+1))))
  else
   (bif (decide (((F44 (a0.1,a0.2)):Int)<=0)) then
    (.inr 8)
   else
    (.inr 0)))
noncomputable def aOj:Code:=(aC [1,1,1,1,1,0,1] [] (aG Tryz.f19) []).1
noncomputable def aOk:List K:=(aC [1,1,1,1,1,0,1] [] (aG Tryz.f19) []).2
def aIc (a0:Zm)(v8c:List SV)(v8n:Nat)(v9:Int):LS:=⟨fU 148 [(1,(.p 2 0)),(5,(.s 3 0 v8n 1)),(9,(iv v9))],[(.live false true (flat dQ a0.1)),(.live false true (flat eE a0.2)),(.live true false [(.s 0 0 a0.1.length 3),(.s 1 0 a0.2.length 3)]),(.live true true v8c)]⟩
def gU (a0:Zm):List (Bool)×Int->(List (Bool)×Int)⊕(Int)
 | (v8,v9) =>
  (bif (decide ((v9:Int) < (a0.2.length:Int))) then
   (bif (((F43 (a0.1,a0.2) (a0.2.getD (tN v9) dF).1 (a0.2.getD (tN v9) dF).2.1):Int) != 1) then
    (.inr 7)
   else
    (bif (((F43 (a0.1,a0.2) (a0.2.getD (tN v9) dF).2.1 (a0.2.getD (tN v9) dF).1):Int) != 1) then
     (.inr 7)
    else
     (bif (((F43 (a0.1,a0.2) (a0.2.getD (tN v9) dF).2.1 (a0.2.getD (tN v9) dF).2.2):Int) != 1) then
      (.inr 7)
     else
      (bif (((F43 (a0.1,a0.2) (a0.2.getD (tN v9) dF).2.2 (a0.2.getD (tN v9) dF).2.1):Int) != 1) then
       (.inr 7)
      else
       (bif (((F43 (a0.1,a0.2) (a0.2.getD (tN v9) dF).2.2 (a0.2.getD (tN v9) dF).1):Int) != 1) then
        (.inr 7)
       else
        (bif (((F43 (a0.1,a0.2) (a0.2.getD (tN v9) dF).1 (a0.2.getD (tN v9) dF).2.2):Int) != 1) then
         (.inr 7)
        else
         (.inl (v8,(v9+1)))))))))
  else
   (.inr (aB (jB a0) (tN ((v8.length:Int) - 0)+1) (v8,0))))
noncomputable def aOl:Code:=(aC [1,1,1,1,0,1] [] (aG Tryz.f19) []).1
noncomputable def aOm:List K:=(aC [1,1,1,1,0,1] [] (aG Tryz.f19) []).2
def aId (a0:Zm)(v5c:List SV)(v5n:Nat)(v6:Int):LS:=⟨fU 148 [(1,(.p 2 0)),(5,(.s 3 0 v5n 1)),(6,(iv v6))],[(.live false true (flat dQ a0.1)),(.live false true (flat eE a0.2)),(.live true false [(.s 0 0 a0.1.length 3),(.s 1 0 a0.2.length 3)]),(.live true true v5c)]⟩
def eZ (a0:Zm):List (Bool)×Int->(List (Bool)×Int)⊕(Int)
 | (v5,v6) =>
  (bif (decide ((v6:Int) < (a0.2.length:Int))) then
   (bif (decide (((a0.2.getD (tN v6) dF).1:Int) < 0)) then
    (.inr 5)
   else
    (bif (decide (((a0.2.getD (tN v6) dF).1:Int)≥(a0.1.length:Int))) then
     (.inr 5)
    else
     (bif (decide (((a0.2.getD (tN v6) dF).2.1:Int) < 0)) then
      (.inr 5)
     else
      (bif (decide (((a0.2.getD (tN v6) dF).2.1:Int)≥(a0.1.length:Int))) then
       (.inr 5)
      else
       (bif (decide (((a0.2.getD (tN v6) dF).2.2:Int) < 0)) then
        (.inr 5)
       else
        (bif (decide (((a0.2.getD (tN v6) dF).2.2:Int)≥(a0.1.length:Int))) then
         (.inr 5)
        else
         (bif ((((kD (vK (a0.1,a0.2) v6)).1:Int) == 0)&&((((kD (vK (a0.1,a0.2) v6)).2.1:Int) == 0)&&((((kD (vK (a0.1,a0.2) v6)).2.2:Int) == 0)&&true))) then
          (.inr 6)
         else
          (.inl ((((v5.set (tN (a0.2.getD (tN v6) dF).1) true).set (tN (a0.2.getD (tN v6) dF).2.1) true).set (tN (a0.2.getD (tN v6) dF).2.2) true),(v6+1))))))))))
  else
   (.inr (aB (gU a0) (tN ((a0.2.length:Int) - 0)+1) (v5,0))))
noncomputable def aJw:Code:=(aC [1,1,0,1] [] (aG Tryz.f19) []).1
noncomputable def aJx:List K:=(aC [1,1,0,1] [] (aG Tryz.f19) []).2
def aEj (a0:Zm)(v1:Int):LS:=⟨fU 148 [(1,(.p 2 0)),(3,(iv v1))],[(.live false true (flat dQ a0.1)),(.live false true (flat eE a0.2)),(.live true false [(.s 0 0 a0.1.length 3),(.s 1 0 a0.2.length 3)])]⟩
def hZ (a0:Zm):Int->(Int)⊕(Int)
 | v1 =>
  (bif (decide ((v1:Int) < (a0.1.length:Int))) then
   (bif (!(F40 (a0.1.getD (tN v1) dF) 64)) then
    (.inr 1)
   else
    (aB (jL a0) (tN (v1 - 0)+1) (v1,0)))
  else
   (.inr (aB (eZ a0) (tN ((a0.2.length:Int) - 0)+1) ((List.replicate (tN (a0.1.length:Int)) false),0))))
theorem aW9 (a0:Zm)(l0_1:a0.1.length<=2^63-1)(l0_2:a0.2.length<=2^63-1) {cx:Cx} (hcx:cx.base=2)
 (n0:Nat) (g0:∀(v1:Int),(0<=v1)/\(a0.1.length<=64)/\(a0.2.length<=96)->tN ((a0.1.length:Int) - v1) < n0->Aw.Good Tryz.prog none 9 (bodyPost Tryz.prog Tryz.f19 (RR cx (iv (aB (hZ a0) n0 v1)) [] [])) cx [] (.l aJw n0::aJx) (aEj a0 v1)):∀(n:Nat) (v3 v4:Int),(0<=v4)/\((0<=v3))/\((a0.1.length<=64))/\((a0.2.length<=96))/\(v3 < (a0.1.length:Int))/\(tN ((a0.1.length:Int) - v3) < n0+1)->tN (v3 - v4) < n->Aw.Good Tryz.prog none 9 (bodyPost Tryz.prog Tryz.f19 (RR cx (iv (fG (hZ a0) n0 (aB (jL a0) n (v3,v4)))) [] [])) cx [] (.l aOf n::aOg n0) (aIa a0 v3 v4):=by
 intro n
 induction n with
 | zero=>intro v3 v4 hi hn;exact absurd hn (fZ _)
 | succ n ih =>
  intro v3 v4 hi hn
  refine aH ?_
  cases h0:(decide ((v4:Int) < v3)) with
  | true =>
   have q0:=bS h0
   let t1:List (St Tryz.prog):=[.d h0,.i v3 (a0.1.length),.L bQ a0.1 v3 0 3,.i v4 (a0.1.length),.L bQ a0.1 v4 0 3]
   cases h1:((((a0.1.getD (tN v3) dF).1:Int) == (a0.1.getD (tN v4) dF).1)&&((((a0.1.getD (tN v3) dF).2.1:Int) == (a0.1.getD (tN v4) dF).2.1)&&((((a0.1.getD (tN v3) dF).2.2:Int) == (a0.1.getD (tN v4) dF).2.2)&&true))) with
   | true =>
    have e:=Eq.refl (jL a0 (v3,v4));conv at e=>rhs;simp only [jL,h0,h1,aJ]
    rw [aD,e]
    exact rt (t1++[.d h1]) [] [] hcx (by kernel_rfl)
   | false =>
    have e:=Eq.refl (jL a0 (v3,v4));conv at e=>rhs;simp only [jL,h0,h1,aJ]
    rw [aA e]
    refine ba (t1++[.d h1]) [] [1,3,4] [2] hcx (m:=n) aOf (aOg n0) (aIa a0 v3 (W (v4+1))) (by kernel_rfl) ?_
    have z0:(W (v4+1))=(v4+1):=aF (by omega) (by omega)
    rw [z0]
    exact ih v3 (v4+1) (by refine⟨?_,?_,?_,?_,?_,?_⟩<;>(try simp only [Ls])<;>first | omega | assumption | exact hi.2.1 | exact hi.2.2.1 | exact hi.2.2.2.1 | exact hi.2.2.2.2.1 | exact hi.2.2.2.2.2.1 | simp) (by(try simp only [Ls]);omega)
  | false =>
   have q0:=cE h0
   have e:=Eq.refl (jL a0 (v3,v4));conv at e=>rhs;simp only [jL,h0,aJ]
   rw [aD,e]
   refine ba [.d h0] [] [1,3] [2] hcx (m:=n0) aJw (aJx) (aEj a0 (W (v3+1))) (by kernel_rfl) ?_
   have z0:(W (v3+1))=(v3+1):=aF (by omega) (by omega)
   rw [z0]
   exact g0 (v3+1) (by refine⟨?_,?_,?_⟩<;>(try simp only [Ls])<;>first | omega | assumption | simp) (by(try simp only [Ls]);omega)
theorem aXa (a0:Zm)(l0_1:a0.1.length<=2^63-1)(l0_2:a0.2.length<=2^63-1) {cx:Cx} (hcx:cx.base=2):∀(n:Nat) (v11:List (Bool)) (v12:Int),(0<=v12)/\(jU a0 a0.2.length)/\(a0.1.length<=64)/\(a0.2.length<=96)/\(v11.length=a0.1.length)->tN ((v11.length:Int) - v12) < n->Aw.Good Tryz.prog none 9 (bodyPost Tryz.prog Tryz.f19 (RR cx (iv (aB (jB a0) n (v11,v12))) [] [])) cx [] (.l aOh n::aOi) (aIb a0 (flat c4 v11) v11.length v12):=by
 intro n
 induction n with
 | zero=>intro v11 v12 hi hn;exact absurd hn (fZ _)
 | succ n ih =>
  intro v11 v12 hi hn
  refine aH ?_
  cases h0:(decide ((v12:Int) < (v11.length:Int))) with
  | true =>
   have q0:=bS h0
   let t1:List (St Tryz.prog):=[.d h0,.i v12 (v11.length),.L eK v11 v12 0 1]
   cases h1:(!(v11.getD (tN v12) dF)) with
   | true =>
    have e:=Eq.refl (jB a0 (v11,v12));conv at e=>rhs;simp only [jB,h0,h1,aJ]
    rw [aD,e]
    exact rt (t1++[.d h1]) [] [] hcx (by kernel_rfl)
   | false =>
    have e:=Eq.refl (jB a0 (v11,v12));conv at e=>rhs;simp only [jB,h0,h1,aJ]
    rw [aA e]
    refine ba (t1++[.d h1]) [] [1,5,13] [2,3] hcx (m:=n) aOh (aOi) (aIb a0 (flat c4 v11) (v11.length) (W (v12+1))) (by kernel_rfl) ?_
    have z0:(W (v12+1))=(v12+1):=aF (by omega) (by omega)
    rw [z0]
    exact ih v11 (v12+1) (by refine⟨?_,?_,?_,?_,?_⟩<;>first | omega | assumption | exact jH | exact hi.2.1 | exact hi.2.2.1 | exact gK hi.2.2.1 (by omega) | exact dN hi.2.2.1 hfo | exact dN hi.2.2.1 (by refine⟨⟨?_,?_⟩,⟨?_,?_⟩,?_,?_⟩<;>omega) | (simp only [List.length_replicate,List.length_set];omega)) (by(try simp only [Ls]);omega)
  | false =>
   have q0:=cE h0
   let t1:List (St Tryz.prog):=[.d h0,.c [0,1] (C44 (a0.1,a0.2) (by(try simp only [Lt]);omega) (by(try simp only [Lt]);omega) hi.2.1 (by show a0.2.length<=96;omega))]
   cases h1:(decide (((F44 (a0.1,a0.2)):Int)<=0)) with
   | true =>
    have q1:=bS h1
    have e:=Eq.refl (jB a0 (v11,v12));conv at e=>rhs;simp only [jB,h0,h1,aJ]
    rw [aD,e]
    exact rt (t1++[.d h1]) [] [] hcx (by kernel_rfl)
   | false =>
    have q1:=cE h1
    have e:=Eq.refl (jB a0 (v11,v12));conv at e=>rhs;simp only [jB,h0,h1,aJ]
    rw [aD,e]
    exact rt (t1++[.d h1]) [] [] hcx (by kernel_rfl)
theorem aXb (a0:Zm)(l0_1:a0.1.length<=2^63-1)(l0_2:a0.2.length<=2^63-1) {cx:Cx} (hcx:cx.base=2):∀(n:Nat) (v8:List (Bool)) (v9:Int),(0<=v9)/\(jU a0 a0.2.length)/\(a0.1.length<=64)/\(a0.2.length<=96)/\(v8.length=a0.1.length)->tN ((a0.2.length:Int) - v9) < n->Aw.Good Tryz.prog none 9 (bodyPost Tryz.prog Tryz.f19 (RR cx (iv (aB (gU a0) n (v8,v9))) [] [])) cx [] (.l aOj n::aOk) (aIc a0 (flat c4 v8) v8.length v9):=by
 intro n
 induction n with
 | zero=>intro v8 v9 hi hn;exact absurd hn (fZ _)
 | succ n ih =>
  intro v8 v9 hi hn
  refine aH ?_
  cases h0:(decide ((v9:Int) < (a0.2.length:Int))) with
  | true =>
   have q0:=bS h0
   let t1:List (St Tryz.prog):=[.d h0,.u 200,.T,.i v9 (a0.2.length),.i 0 3 (by decide),.L aU a0.2 v9 0 1,.p (show(3:Int)≠0 from by decide),.i v9 (a0.2.length),.i 1 3 (by decide),.L aU a0.2 v9 1 1,.c [0,1] (C43 (a0.1,a0.2) (a0.2.getD (tN v9) dF).1 (a0.2.getD (tN v9) dF).2.1 (by(try simp only [Lt]);omega) (by(try simp only [Lt]);omega))]
   cases h1:(((F43 (a0.1,a0.2) (a0.2.getD (tN v9) dF).1 (a0.2.getD (tN v9) dF).2.1):Int) != 1) with
   | true =>
    have q1:=bne_iff_ne.1 h1
    have e:=Eq.refl (gU a0 (v8,v9));conv at e=>rhs;simp only [gU,h0,h1,aJ]
    rw [aD,e]
    exact rt (t1++[.d h1]) [] [] hcx (by kernel_rfl)
   | false =>
    have q1:=bne_eq_false_iff_eq.1 h1
    let t2:List (St Tryz.prog):=(t1++[.d h1,.c [0,1] (C43 (a0.1,a0.2) (a0.2.getD (tN v9) dF).2.1 (a0.2.getD (tN v9) dF).1 (by(try simp only [Lt]);omega) (by(try simp only [Lt]);omega))])
    cases h2:(((F43 (a0.1,a0.2) (a0.2.getD (tN v9) dF).2.1 (a0.2.getD (tN v9) dF).1):Int) != 1) with
    | true =>
     have q2:=bne_iff_ne.1 h2
     have e:=Eq.refl (gU a0 (v8,v9));conv at e=>rhs;simp only [gU,h0,h1,h2,aJ]
     rw [aD,e]
     exact rt (t2++[.d h2]) [] [] hcx (by kernel_rfl)
    | false =>
     have q2:=bne_eq_false_iff_eq.1 h2
     let t3:List (St Tryz.prog):=(t2++[.d h2,.u 0,.T,.i v9 (a0.2.length),.i 1 3 (by decide),.L aU a0.2 v9 1 1,.p (show(3:Int)≠0 from by decide),.i v9 (a0.2.length),.i 2 3 (by decide),.L aU a0.2 v9 2 1,.c [0,1] (C43 (a0.1,a0.2) (a0.2.getD (tN v9) dF).2.1 (a0.2.getD (tN v9) dF).2.2 (by(try simp only [Lt]);omega) (by(try simp only [Lt]);omega))])
     cases h3:(((F43 (a0.1,a0.2) (a0.2.getD (tN v9) dF).2.1 (a0.2.getD (tN v9) dF).2.2):Int) != 1) with
     | true =>
      have q3:=bne_iff_ne.1 h3
      have e:=Eq.refl (gU a0 (v8,v9));conv at e=>rhs;simp only [gU,h0,h1,h2,h3,aJ]
      rw [aD,e]
      exact rt (t3++[.d h3]) [] [] hcx (by kernel_rfl)
     | false =>
      have q3:=bne_eq_false_iff_eq.1 h3
      let t4:List (St Tryz.prog):=(t3++[.d h3,.c [0,1] (C43 (a0.1,a0.2) (a0.2.getD (tN v9) dF).2.2 (a0.2.getD (tN v9) dF).2.1 (by(try simp only [Lt]);omega) (by(try simp only [Lt]);omega))])
      cases h4:(((F43 (a0.1,a0.2) (a0.2.getD (tN v9) dF).2.2 (a0.2.getD (tN v9) dF).2.1):Int) != 1) with
      | true =>
       have q4:=bne_iff_ne.1 h4
       have e:=Eq.refl (gU a0 (v8,v9));conv at e=>rhs;simp only [gU,h0,h1,h2,h3,h4,aJ]
       rw [aD,e]
       exact rt (t4++[.d h4]) [] [] hcx (by kernel_rfl)
      | false =>
       have q4:=bne_eq_false_iff_eq.1 h4
       let t5:List (St Tryz.prog):=(t4++[.d h4,.u 0,.T,.i v9 (a0.2.length),.i 2 3 (by decide),.L aU a0.2 v9 2 1,.p (show(3:Int)≠0 from by decide),.i v9 (a0.2.length),.i 0 3 (by decide),.L aU a0.2 v9 0 1,.c [0,1] (C43 (a0.1,a0.2) (a0.2.getD (tN v9) dF).2.2 (a0.2.getD (tN v9) dF).1 (by(try simp only [Lt]);omega) (by(try simp only [Lt]);omega))])
       cases h5:(((F43 (a0.1,a0.2) (a0.2.getD (tN v9) dF).2.2 (a0.2.getD (tN v9) dF).1):Int) != 1) with
       | true =>
        have q5:=bne_iff_ne.1 h5
        have e:=Eq.refl (gU a0 (v8,v9));conv at e=>rhs;simp only [gU,h0,h1,h2,h3,h4,h5,aJ]
        rw [aD,e]
        exact rt (t5++[.d h5]) [] [] hcx (by kernel_rfl)
       | false =>
        have q5:=bne_eq_false_iff_eq.1 h5
        let t6:List (St Tryz.prog):=(t5++[.d h5,.c [0,1] (C43 (a0.1,a0.2) (a0.2.getD (tN v9) dF).1 (a0.2.getD (tN v9) dF).2.2 (by(try simp only [Lt]);omega) (by(try simp only [Lt]);omega))])
        cases h6:(((F43 (a0.1,a0.2) (a0.2.getD (tN v9) dF).1 (a0.2.getD (tN v9) dF).2.2):Int) != 1) with
        | true =>
         have q6:=bne_iff_ne.1 h6
         have e:=Eq.refl (gU a0 (v8,v9));conv at e=>rhs;simp only [gU,h0,h1,h2,h3,h4,h5,h6,aJ]
         rw [aD,e]
         exact rt (t6++[.d h6]) [] [] hcx (by kernel_rfl)
        | false =>
         have q6:=bne_eq_false_iff_eq.1 h6
         have e:=Eq.refl (gU a0 (v8,v9));conv at e=>rhs;simp only [gU,h0,h1,h2,h3,h4,h5,h6,aJ]
         rw [aA e]
         refine ba (t6++[.d h6,.u 0,.F]) [] [1,5,9] [2,3] hcx (m:=n) aOj (aOk) (aIc a0 (flat c4 v8) (v8.length) (W (v9+1))) (by kernel_rfl) ?_
         have z0:(W (v9+1))=(v9+1):=aF (by omega) (by omega)
         rw [z0]
         exact ih v8 (v9+1) (by refine⟨?_,?_,?_,?_,?_⟩<;>first | omega | assumption | exact jH | exact hi.2.1 | exact hi.2.2.1 | exact gK hi.2.2.1 (by omega) | exact dN hi.2.2.1 hfo | exact dN hi.2.2.1 (by refine⟨⟨?_,?_⟩,⟨?_,?_⟩,?_,?_⟩<;>omega) | (simp only [List.length_replicate,List.length_set];omega)) (by(try simp only [Ls]);omega)
  | false =>
   have q0:=cE h0
   have e:=Eq.refl (gU a0 (v8,v9));conv at e=>rhs;simp only [gU,h0,aJ]
   rw [aD,e]
   refine en [.d h0] [] [1,5,13] [2,3] hcx aOh (aOi) (aIb a0 (flat c4 v8) (v8.length) 0) (tN ((v8.length:Int) - 0)+1) (by kernel_rfl) ?_
   exact aXa a0 l0_1 l0_2 hcx (tN ((v8.length:Int) - 0)+1) v8 0 (by refine⟨?_,?_,?_,?_,?_⟩<;>first | omega | assumption | exact jH | exact hi.2.1 | exact hi.2.2.1 | exact gK hi.2.2.1 (by omega) | exact dN hi.2.2.1 hfo | exact dN hi.2.2.1 (by refine⟨⟨?_,?_⟩,⟨?_,?_⟩,?_,?_⟩<;>omega) | (simp only [List.length_replicate,List.length_set];omega)) (by(try simp only [Ls]);omega)
theorem aXc (a0:Zm)(l0_1:a0.1.length<=2^63-1)(l0_2:a0.2.length<=2^63-1) {cx:Cx} (hcx:cx.base=2):∀(n:Nat) (v5:List (Bool)) (v6:Int),(0<=v6)/\(v5.length=a0.1.length)/\(jU a0 v6)/\(v6<=a0.2.length)/\(a0.1.length<=64)/\(a0.2.length<=96)->tN ((a0.2.length:Int) - v6) < n->Aw.Good Tryz.prog none 9 (bodyPost Tryz.prog Tryz.f19 (RR cx (iv (aB (eZ a0) n (v5,v6))) [] [])) cx [] (.l aOl n::aOm) (aId a0 (flat c4 v5) v5.length v6):=by
 intro n
 induction n with
 | zero=>intro v5 v6 hi hn;exact absurd hn (fZ _)
 | succ n ih =>
  intro v5 v6 hi hn
  refine aH ?_
  cases h0:(decide ((v6:Int) < (a0.2.length:Int))) with
  | true =>
   have q0:=bS h0
   let t1:List (St Tryz.prog):=[.d h0,.u 200,.T,.i v6 (a0.2.length),.i 0 3 (by decide),.L aU a0.2 v6 0 1]
   cases h1:(decide (((a0.2.getD (tN v6) dF).1:Int) < 0)) with
   | true =>
    have q1:=bS h1
    have e:=Eq.refl (eZ a0 (v5,v6));conv at e=>rhs;simp only [eZ,h0,h1,aJ]
    rw [aD,e]
    exact rt (t1++[.d h1]) [] [] hcx (by kernel_rfl)
   | false =>
    have q1:=cE h1
    let t2:List (St Tryz.prog):=(t1++[.d h1])
    cases h2:(decide (((a0.2.getD (tN v6) dF).1:Int)≥(a0.1.length:Int))) with
    | true =>
     have q2:=bS h2
     have e:=Eq.refl (eZ a0 (v5,v6));conv at e=>rhs;simp only [eZ,h0,h1,h2,aJ]
     rw [aD,e]
     exact rt (t2++[.d h2]) [] [] hcx (by kernel_rfl)
    | false =>
     have q2:=cE h2
     let t3:List (St Tryz.prog):=(t2++[.d h2,.i ((a0.2.getD (tN v6) dF).1) (v5.length),.p (show((0+tN (a0.2.getD (tN v6) dF).1*1)+1<=(flat c4 v5).length) from(gT eK (by first | omega | (simp only [Lt];omega)) (o:=0) (Nb rfl))),.u 0,.T,.i v6 (a0.2.length),.i 1 3 (by decide),.L aU a0.2 v6 1 1])
     cases h3:(decide (((a0.2.getD (tN v6) dF).2.1:Int) < 0)) with
     | true =>
      have q3:=bS h3
      have e:=Eq.refl (eZ a0 (v5,v6));conv at e=>rhs;simp only [eZ,h0,h1,h2,h3,aJ]
      rw [aD,e]
      exact rt (t3++[.d h3]) [] [] hcx (by kernel_rfl)
     | false =>
      have q3:=cE h3
      let t4:List (St Tryz.prog):=(t3++[.d h3])
      cases h4:(decide (((a0.2.getD (tN v6) dF).2.1:Int)≥(a0.1.length:Int))) with
      | true =>
       have q4:=bS h4
       have e:=Eq.refl (eZ a0 (v5,v6));conv at e=>rhs;simp only [eZ,h0,h1,h2,h3,h4,aJ]
       rw [aD,e]
       exact rt (t4++[.d h4]) [] [] hcx (by kernel_rfl)
      | false =>
       have q4:=cE h4
       let t5:List (St Tryz.prog):=(t4++[.d h4,.i ((a0.2.getD (tN v6) dF).2.1) (v5.length),.p (show((0+tN (a0.2.getD (tN v6) dF).2.1*1)+1<=(splice (flat c4 v5) (0+tN (a0.2.getD (tN v6) dF).1*1) [(.v (.bool true))]).length) from(by rw [show(splice (flat c4 v5) (0+tN (a0.2.getD (tN v6) dF).1*1) [(.v (.bool true))])=flat c4 (v5.set (tN (a0.2.getD (tN v6) dF).1) true) from(dX eK (by first | omega | (simp only [Lt];omega)) (o:=0) (d:=dF) (Nb rfl) rfl)];exact gT eK (by first | omega | (simp only [Lt];omega)) (o:=0) (Nb rfl))),.u 0,.T,.i v6 (a0.2.length),.i 2 3 (by decide),.L aU a0.2 v6 2 1])
       cases h5:(decide (((a0.2.getD (tN v6) dF).2.2:Int) < 0)) with
       | true =>
        have q5:=bS h5
        have e:=Eq.refl (eZ a0 (v5,v6));conv at e=>rhs;simp only [eZ,h0,h1,h2,h3,h4,h5,aJ]
        rw [aD,e]
        exact rt (t5++[.d h5]) [] [] hcx (by kernel_rfl)
       | false =>
        have q5:=cE h5
        let t6:List (St Tryz.prog):=(t5++[.d h5])
        cases h6:(decide (((a0.2.getD (tN v6) dF).2.2:Int)≥(a0.1.length:Int))) with
        | true =>
         have q6:=bS h6
         have e:=Eq.refl (eZ a0 (v5,v6));conv at e=>rhs;simp only [eZ,h0,h1,h2,h3,h4,h5,h6,aJ]
         rw [aD,e]
         exact rt (t6++[.d h6]) [] [] hcx (by kernel_rfl)
        | false =>
         have q6:=cE h6
         let t7:List (St Tryz.prog):=(t6++[.d h6,.i ((a0.2.getD (tN v6) dF).2.2) (v5.length),.p (show((0+tN (a0.2.getD (tN v6) dF).2.2*1)+1<=(splice (splice (flat c4 v5) (0+tN (a0.2.getD (tN v6) dF).1*1) [(.v (.bool true))]) (0+tN (a0.2.getD (tN v6) dF).2.1*1) [(.v (.bool true))]).length) from(by rw [show(splice (splice (flat c4 v5) (0+tN (a0.2.getD (tN v6) dF).1*1) [(.v (.bool true))]) (0+tN (a0.2.getD (tN v6) dF).2.1*1) [(.v (.bool true))])=flat c4 ((v5.set (tN (a0.2.getD (tN v6) dF).1) true).set (tN (a0.2.getD (tN v6) dF).2.1) true) from(by rw [show(splice (flat c4 v5) (0+tN (a0.2.getD (tN v6) dF).1*1) [(.v (.bool true))])=flat c4 (v5.set (tN (a0.2.getD (tN v6) dF).1) true) from(dX eK (by first | omega | (simp only [Lt];omega)) (o:=0) (d:=dF) (Nb rfl) rfl)];exact dX eK (by first | omega | (simp only [Lt];omega)) (o:=0) (d:=dF) (Nb rfl) rfl)];exact gT eK (by first | omega | (simp only [Lt];omega)) (o:=0) (Nb rfl))),.u 0,.F,.c [0,1] (C42 (a0.1,a0.2) v6 (by(try simp only [Lt]);omega) (by(try simp only [Lt]);omega) (by show 0<=_/\_ < (a0.2.length:Int);omega) (by show inF a0.1.length (a0.2.getD _ dF);refine⟨⟨?_,?_⟩,⟨?_,?_⟩,?_,?_⟩<;>omega)),.c [] (C41 (vK (a0.1,a0.2) v6))])
         cases h7:((((kD (vK (a0.1,a0.2) v6)).1:Int) == 0)&&((((kD (vK (a0.1,a0.2) v6)).2.1:Int) == 0)&&((((kD (vK (a0.1,a0.2) v6)).2.2:Int) == 0)&&true))) with
         | true =>
          have e:=Eq.refl (eZ a0 (v5,v6));conv at e=>rhs;simp only [eZ,h0,h1,h2,h3,h4,h5,h6,h7,aJ]
          rw [aD,e]
          exact rt (t7++[.d h7]) [] [] hcx (by kernel_rfl)
         | false =>
          have e:=Eq.refl (eZ a0 (v5,v6));conv at e=>rhs;simp only [eZ,h0,h1,h2,h3,h4,h5,h6,h7,aJ]
          rw [aA e]
          refine ba (t7++[.d h7]) [] [1,5,6] [2,3] hcx (m:=n) aOl (aOm) (aId a0 (splice (splice (splice (flat c4 v5) (0+tN (a0.2.getD (tN v6) dF).1*1) [(.v (.bool true))]) (0+tN (a0.2.getD (tN v6) dF).2.1*1) [(.v (.bool true))]) (0+tN (a0.2.getD (tN v6) dF).2.2*1) [(.v (.bool true))]) (v5.length) (W (v6+1))) (by kernel_rfl) ?_
          have z0:(W (v6+1))=(v6+1):=aF (by omega) (by omega)
          have z1:(splice (splice (splice (flat c4 v5) (0+tN (a0.2.getD (tN v6) dF).1*1) [(.v (.bool true))]) (0+tN (a0.2.getD (tN v6) dF).2.1*1) [(.v (.bool true))]) (0+tN (a0.2.getD (tN v6) dF).2.2*1) [(.v (.bool true))])=flat c4 (((v5.set (tN (a0.2.getD (tN v6) dF).1) true).set (tN (a0.2.getD (tN v6) dF).2.1) true).set (tN (a0.2.getD (tN v6) dF).2.2) true):=(by rw [show(splice (splice (flat c4 v5) (0+tN (a0.2.getD (tN v6) dF).1*1) [(.v (.bool true))]) (0+tN (a0.2.getD (tN v6) dF).2.1*1) [(.v (.bool true))])=flat c4 ((v5.set (tN (a0.2.getD (tN v6) dF).1) true).set (tN (a0.2.getD (tN v6) dF).2.1) true) from(by rw [show(splice (flat c4 v5) (0+tN (a0.2.getD (tN v6) dF).1*1) [(.v (.bool true))])=flat c4 (v5.set (tN (a0.2.getD (tN v6) dF).1) true) from(dX eK (by first | omega | (simp only [Lt];omega)) (o:=0) (d:=dF) (Nb rfl) rfl)];exact dX eK (by first | omega | (simp only [Lt];omega)) (o:=0) (d:=dF) (Nb rfl) rfl)];exact dX eK (by first | omega | (simp only [Lt];omega)) (o:=0) (d:=dF) (Nb rfl) rfl)
          have z2:v5.length=(((v5.set (tN (a0.2.getD (tN v6) dF).1) true).set (tN (a0.2.getD (tN v6) dF).2.1) true).set (tN (a0.2.getD (tN v6) dF).2.2) true).length:=by simp
          rw [z0,z1,z2]
          exact ih (((v5.set (tN (a0.2.getD (tN v6) dF).1) true).set (tN (a0.2.getD (tN v6) dF).2.1) true).set (tN (a0.2.getD (tN v6) dF).2.2) true) (v6+1) (by refine⟨?_,?_,?_,?_,?_,?_⟩<;>first | omega | assumption | exact jH | exact hi.2.1 | exact hi.2.2.1 | exact gK hi.2.2.1 (by omega) | exact dN hi.2.2.1 hfo | exact dN hi.2.2.1 (by refine⟨⟨?_,?_⟩,⟨?_,?_⟩,?_,?_⟩<;>omega) | (simp only [List.length_replicate,List.length_set];omega)) (by(try simp only [Ls]);omega)
  | false =>
   have q0:=cE h0
   have e:=Eq.refl (eZ a0 (v5,v6));conv at e=>rhs;simp only [eZ,h0,aJ]
   rw [aD,e]
   refine en [.d h0] [] [1,5,9] [2,3] hcx aOj (aOk) (aIc a0 (flat c4 v5) (v5.length) 0) (tN ((a0.2.length:Int) - 0)+1) (by kernel_rfl) ?_
   exact aXb a0 l0_1 l0_2 hcx (tN ((a0.2.length:Int) - 0)+1) v5 0 (by refine⟨?_,?_,?_,?_,?_⟩<;>first | omega | assumption | exact jH | exact hi.2.1 | exact hi.2.2.1 | exact gK hi.2.2.1 (by omega) | exact dN hi.2.2.1 hfo | exact dN hi.2.2.1 (by refine⟨⟨?_,?_⟩,⟨?_,?_⟩,?_,?_⟩<;>omega) | (simp only [List.length_replicate,List.length_set];omega)) (by(try simp only [Ls]);omega)
theorem aXd (a0:Zm)(l0_1:a0.1.length<=2^63-1)(l0_2:a0.2.length<=2^63-1) {cx:Cx} (hcx:cx.base=2):∀(n:Nat) (v1:Int),(0<=v1)/\(a0.1.length<=64)/\(a0.2.length<=96)->tN ((a0.1.length:Int) - v1) < n->Aw.Good Tryz.prog none 9 (bodyPost Tryz.prog Tryz.f19 (RR cx (iv (aB (hZ a0) n v1)) [] [])) cx [] (.l aJw n::aJx) (aEj a0 v1):=by
 intro n
 induction n with
 | zero=>intro v1 hi hn;exact absurd hn (fZ _)
 | succ n ih =>
  intro v1 hi hn
  refine aH ?_
  cases h0:(decide ((v1:Int) < (a0.1.length:Int))) with
  | true =>
   have q0:=bS h0
   let t1:List (St Tryz.prog):=[.d h0,.i v1 (a0.1.length),.L bQ a0.1 v1 0 3,.c [] (C40 (a0.1.getD (tN v1) dF) 64)]
   cases h1:(!(F40 (a0.1.getD (tN v1) dF) 64)) with
   | true =>
    have e:=Eq.refl (hZ a0 v1);conv at e=>rhs;simp only [hZ,h0,h1,aJ]
    rw [aD,e]
    exact rt (t1++[.d h1]) [] [] hcx (by kernel_rfl)
   | false =>
    have e:=Eq.refl (hZ a0 v1);conv at e=>rhs;simp only [hZ,h0,h1,aJ]
    rw [aD,e]
    refine en (t1++[.d h1]) [] [1,3,4] [2] hcx aOf (aOg n) (aIa a0 v1 0) (tN (v1 - 0)+1) (by kernel_rfl) ?_
    exact aW9 a0 l0_1 l0_2 hcx n ih (tN (v1 - 0)+1) v1 0 (by refine⟨?_,?_,?_,?_,?_,?_⟩<;>(try simp only [Ls])<;>first | omega | assumption | exact hi.2.1 | exact hi.2.2.1 | exact hi.2.2.2.1 | exact hi.2.2.2.2.1 | exact hi.2.2.2.2.2.1 | simp) (by(try simp only [Ls]);omega)
  | false =>
   have q0:=cE h0
   have e:=Eq.refl (hZ a0 v1);conv at e=>rhs;simp only [hZ,h0,aJ]
   rw [aD,e]
   refine en [.d h0,.Z c4 false [(.v (.bool false))] (a0.1.length:Int) 1] [] [1,5,6] [2,3] hcx aOl (aOm) (aId a0 (flat c4 (List.replicate (tN (a0.1.length:Int)) false)) (tN (a0.1.length:Int)) 0) (tN ((a0.2.length:Int) - 0)+1) (by kernel_rfl) ?_
   have q:=aXc a0 l0_1 l0_2 hcx (tN ((a0.2.length:Int) - 0)+1) (List.replicate (tN (a0.1.length:Int)) false) 0 (by refine⟨?_,?_,?_,?_,?_,?_⟩<;>first | omega | assumption | exact jH | exact hi.2.1 | exact hi.2.2.1 | exact gK hi.2.2.1 (by omega) | exact dN hi.2.2.1 hfo | exact dN hi.2.2.1 (by refine⟨⟨?_,?_⟩,⟨?_,?_⟩,?_,?_⟩<;>omega) | (simp only [List.length_replicate,List.length_set];omega)) (by(try simp only [Ls]);omega)
   simp only [List.length_replicate] at q
   exact q
def wW (a0:Zm):Int :=
 (bif (decide (((a0.1.length:Int):Int) > 64)) then
  4
 else
  (bif (!(F39 (a0.2.length:Int) 1 96)) then
   4
  else
   (aB (hZ a0) (tN ((a0.1.length:Int) - 0)+1) 0)))
theorem C19 (a0:Zm)(l0_1:a0.1.length<=2^63-1)(l0_2:a0.2.length<=2^63-1):Con Tryz.prog 19 [(.a [(.s 0 0 a0.1.length 3),(.s 1 0 a0.2.length 3)])] [(.live false true (flat dQ a0.1)),(.live false true (flat eE a0.2))] (iv (wW a0)) []:=by
 refine aK Tryz.func19 (by kernel_rfl) fun cx hcx=>?_
 try have hl96:=aAt h1
 cases h0:(decide (((a0.1.length:Int):Int) > 64)) with
 | true =>
  have q0:=bS h0
  try have hl96:=aAt h1
  have e:=Eq.refl (wW a0);conv at e=>rhs;simp only [wW,h0,aJ]
  rw [e]
  exact rt [.d h0] [] [] hcx (by kernel_rfl)
 | false =>
  have q0:=cE h0
  try have hl96:=aAt h1
  let t1:List (St Tryz.prog):=[.d h0,.c [] (C39 (a0.2.length:Int) 1 96)]
  cases h1:(!(F39 (a0.2.length:Int) 1 96)) with
  | true =>
   try have hl96:=aAt h1
   have e:=Eq.refl (wW a0);conv at e=>rhs;simp only [wW,h0,h1,aJ]
   rw [e]
   exact rt (t1++[.d h1]) [] [] hcx (by kernel_rfl)
  | false =>
   try have hl96:=aAt h1
   have e:=Eq.refl (wW a0);conv at e=>rhs;simp only [wW,h0,h1,aJ]
   rw [e]
   refine en (t1++[.d h1]) [] [1,3] [2] hcx aJw (aJx) (aEj a0 0) (tN ((a0.1.length:Int) - 0)+1) (by kernel_rfl) ?_
   exact aXd a0 l0_1 l0_2 hcx (tN ((a0.1.length:Int) - 0)+1) 0 (by refine⟨?_,?_,?_⟩<;>(try simp only [Ls])<;>first | omega | assumption | simp) (by(try simp only [Ls]);omega)
end Go.Proofs.YtcmdknehplnpfaaGreat
