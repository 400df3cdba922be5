/-
  Parts of the proofs of the laws: the executor, what functions of the program compute, and that it is what the statements ask. No premise.
-/
import Derived.Test.YtaeagjnpobdglaaGreatVPdi3
import Derived.ProofKit
import Derived.OpenShut
import Derived.Deep.Slices
import Derived.RowKit
set_option linter.unusedVariables false
set_option linter.unusedSimpArgs false
set_option maxHeartbeats 4000000
open Int (toNat)
namespace Go.Proofs.YtaeagjnpobdglaaGreat
open Go.Proofs Go.Aw Go.RowKit
set_option maxRecDepth 100000
open Go.ChangeShapes Go.WideShapes Go.ChangeAt
def aIu (P:Program)(ok:TypeId→Bool)(n:Nat):List Field→Nat→Bool
 | [],o=>o == n
 | f::l,o=>f.offset == o&&ok f.type&&aIu P ok n l (o+P.cellsOf f.type)
def zA (P:Program):Nat→TypeId→Bool
 | 0,_=>false
 | k+1,t=>match P.underlying t with
   | some (.int .i64)=>true
   | some (.struct fs)=>aIu P (zA P k) (P.cellsOf t) fs.toList 0
   | some (.array n e)=>zA P k e&&P.cellsOf t == n*P.cellsOf e
   | _=>false
section
variable {H : Type} {enc : TypeId × Value → H} {P : Program} {w : World} {base : Nat} {spare : Nat → Bool} {held : Bool}
theorem aEo {ok:TypeId→Bool} {n fuel:Nat} {cs:List Value}
   (hok:∀t cs x,ok t=true→DataW.trod enc P w base spare held fuel t cs=some x→x.2=[]∧∃ns:List Int,cs=ns.map (Value.int .i64)) (hn:cs.length=n) :
   ∀(l:List Field) (o:Nat) (ys:List (DataW H×List MemPlace)),aIu P ok n l o=true→ys.length=l.length →
     (∀(j:Nat) (f:Field),l[j]? = some f→DataW.trod enc P w base spare held fuel f.type ((cs.drop f.offset).take (P.cellsOf f.type))=ys[j]?) →
     (∀y∈ys,y.2=[])∧∃ns:List Int,cs.drop o=ns.map (Value.int .i64)
 | [],o,ys,hc,hl,_=>by
   have:ys=[]:=List.length_eq_zero_iff.1 hl
   subst this
   simp only [aIu,beq_iff_eq] at hc
   exact⟨fun y hy=>by simp at hy,[],by rw [hc,←hn,List.drop_length];rfl⟩
 | f::l,o,ys,hc,hl,hf=>by
   cases ys with
   | nil=>simp at hl
   | cons y ys =>
     simp only [aIu,Bool.and_eq_true,beq_iff_eq] at hc
     obtain⟨⟨h1,h2⟩,h3⟩:=hc
     have g0:=hf 0 f rfl
     rw [h1] at g0
     obtain⟨e1,n1,e2⟩:=hok f.type _ y h2 g0
     obtain⟨e3,n2,e4⟩:=aEo hok hn l _ ys h3 (by simpa using hl) (fun j g hg=>hf (j+1) g hg)
     refine⟨fun z hz=>?_,n1++n2,?_⟩
     · rcases List.mem_cons.1 hz with rfl | hz
       · exact e1
       · exact e3 z hz
     · rw [List.map_append,←e2,←e4,←List.drop_drop,List.take_append_drop]
theorem xI:∀(k:Nat)(t:TypeId)(fuel:Nat)(cs:List Value)(x:DataW H×List MemPlace),zA P k t=true→DataW.trod enc P w base spare held fuel t cs=some x →
   x.2=[]∧∃ns:List Int,cs=ns.map (Value.int .i64)
 | 0,_,_,_,_,h,_=>by simp [zA] at h
 | k+1,t,fuel,cs,x,h,hx=>by
   unfold zA at h
   split at h
   · rename_i ht
     obtain⟨n,rfl,rfl,_⟩:=DataW.trod_int ht hx
     exact⟨rfl,[n],rfl⟩
   · rename_i fs ht
     obtain⟨xs,m,rfl,rfl,hl,hlen,hf⟩:=DataW.trod_struct ht hx
     obtain⟨e1,ns,e2⟩:=aEo (fun t cs x h hx=>xI k t m cs x h hx) hl fs.toList 0 xs h (by simpa using hlen) (fun j f hj=>hf j f (by simpa using hj))
     refine⟨?_,ns,by simpa using e2⟩
     simp only
     induction xs with
     | nil=>rfl
     | cons y l _=>rw [List.flatMap_eq_nil_iff];exact e1
   · rename_i n e ht
     simp only [Bool.and_eq_true,beq_iff_eq] at h
     obtain⟨xs,m,rfl,rfl,hl,hlen,hf⟩:=DataW.trod_array ht hx
     have hi:∀i,i < n→∃y,xs[i]? = some y∧y.2=[]∧∃ns:List Int,(cs.drop (i*P.cellsOf e)).take (P.cellsOf e)=ns.map (Value.int .i64):=fun i hi=>by
       have h1:=hf i hi
       have hil:i < xs.length:=by rw [hlen];exact hi
       rw [List.getElem?_eq_getElem hil] at h1
       obtain⟨e1,e2⟩:=xI k e m _ _ h.1 h1
       exact⟨_,List.getElem?_eq_getElem hil,e1,e2⟩
     refine⟨?_,?_⟩
     · simp only
       rw [List.flatMap_eq_nil_iff]
       intro y hy
       obtain⟨i,hy⟩:=List.getElem?_of_mem hy
       have hil:=(List.getElem?_eq_some_iff.1 hy).1
       obtain⟨y',h1,h2,_⟩:=hi i (by rw [←hlen];exact hil)
       rw [h1] at hy
       exact Option.some.inj hy▸h2
     · have key:∀j,j≤n→∃ns:List Int,cs.drop ((n - j)*P.cellsOf e)=ns.map (Value.int .i64):=by
         intro j
         induction j with
         | zero=>intro _;exact⟨[],by rw [Nat.sub_zero,←h.2,←hl,List.drop_length];rfl⟩
         | succ j ih =>
           intro hj
           obtain⟨n2,h2⟩:=ih (by omega)
           obtain⟨_,_,_,n1,h1⟩:=hi (n - (j+1)) (by omega)
           refine⟨n1++n2,?_⟩
           rw [List.map_append,←h1,←h2,show(n - j)*P.cellsOf e=(n - (j+1))*P.cellsOf e+P.cellsOf e by rw [show n - j=(n - (j+1))+1 by omega,Nat.add_mul,Nat.one_mul],←List.drop_drop,List.take_append_drop]
       obtain⟨ns,hns⟩:=key n (Nat.le_refl _)
       exact⟨ns,by simpa using hns⟩
   · cases h
end
theorem aMy {ρ:Env}:∀ns:List Int,Rels ρ (ns.map iv) (ns.map (Value.int .i64))
 | []=>trivial
 | n::l=>⟨rfl,aMy l⟩
theorem aKi {H:Type} {enc:TypeId×Value→H} {P:Program} {f:Func} {s:ChangeSpec} {apart fresh handsOn:Bool} {W W':World} {args:Array Value} {v:Value} {ds gs:List (DataW H)} {before:List MemPlace}
   (hW:DataW.Whole enc P f.params.toList s.vars apart W args.toList ds gs before) (hb:Below W.heap.size W W')
   (hres:∀(b:Nat) (sp:Nat→Bool) (hd:Bool),DataW.TrodAll enc P W' b sp hd f.resultTypes.toList (v.resultList f.resultTypes.size) (s.fn H (ds++gs)).results [])
   (hargs:DataW.TrodAll enc P W' 0 (fun b=>decide (b < W.heap.size)) true f.params.toList args.toList (s.fn H (ds++gs)).args before)
   (hvars:DataW.TrodVars enc P W' (fun b=>decide (b < W.heap.size)) s.vars (s.fn H (ds++gs)).vars []) :
   s.post enc P f apart fresh handsOn false W args v W' :=
 ⟨ds,gs,before,[],before,[],hW,hres _ _ _,hargs,hvars,hb.frame _,fun h=>by cases h⟩
theorem aGb {H:Type} {enc:TypeId×Value→H} {P:Program} {w:World} {base:Nat} {spare:Nat→Bool} {held:Bool} {t:TypeId} {ts:List TypeId} {v:Value} {vs:List Value} {d:DataW H} {ds:List (DataW H)} {p p':List MemPlace}
 (h:DataW.Trod enc P w base spare held t v d p) (h':DataW.TrodAll enc P w base spare held ts vs ds p'):DataW.TrodAll enc P w base spare held (t::ts) (v::vs) (d::ds) (p++p'):=⟨p,p',h,h',rfl⟩
theorem own:ownKnob Tryz.prog.godebug=none:=by kernel_rfl
theorem aGc:laidOutB Tryz.prog=true:=by kernel_rfl
end Go.Proofs.YtaeagjnpobdglaaGreat
namespace Go.Proofs.YtaeagjnpobdglaaGreat
open Go.Proofs Go.Aw Go.RowKit
set_option maxRecDepth 100000
def sc (d:Int):Int:=if d=0 then 1 else if d=1 then 2 else if d=2 then 4 else 8
theorem d4 {d:Int} (h:0≤d∧d≤3):d=0∨d=1∨d=2∨d=3:=by omega
theorem aX3 {d:Int} (h:0≤d∧d≤3):W (1*2 ^ (min (toNat d) 64))=sc d:=by
 rcases d4 h with rfl | rfl | rfl | rfl<;>kernel_rfl
theorem bA2 {d:Int} (h:0≤d∧d≤3):W (1*2 ^ (min (toNat (IntKind.wrap .u64 d)) 64))=sc d:=by
 rcases d4 h with rfl | rfl | rfl | rfl<;>kernel_rfl
theorem bA3 {d:Int} (h:0≤d∧d≤3):W (1*2 ^ (min (toNat (W (2*d))) 64))=sc d*sc d:=by
 rcases d4 h with rfl | rfl | rfl | rfl<;>kernel_rfl
theorem mM {d:Int} (h:0≤d∧d≤3)(p:PN):(((aR d.toNat p).length:Nat):Int)=sc d*sc d:=by
 rw [aIt];rcases d4 h with rfl | rfl | rfl | rfl<;>kernel_rfl
theorem qK (d:Int):sc d=1∨sc d=2∨sc d=4∨sc d=8:=by unfold sc;(repeat' split)<;>simp
theorem aMz (d:Int):1≤sc d∧sc d≤8:=by have:=qK d;omega
def tm (s:Int)(p:P3):P3:=(s*p.1,s*p.2.1,s*p.2.2)
theorem aM0 {s m:Int} {p:P3} (hs:1≤s∧s≤8)(hm:0≤m)(hp:bd m p):bd (8*m) (tm s p):=by
 have h1:=bD (a:=8) (b:=m) (x:=s) (y:=p.1) (by omega) hp.1
 have h2:=bD (a:=8) (b:=m) (x:=s) (y:=p.2.1) (by omega) hp.2.1
 have h3:=bD (a:=8) (b:=m) (x:=s) (y:=p.2.2) (by omega) hp.2.2
 exact⟨h1,h2,h3⟩
theorem bA4 {s:Int} {p:P3} (hs:1≤s∧s≤8)(hp:bd 4096 p):((W (s*p.1)),(W (s*p.2.1)),(W (s*p.2.2)))=tm s p:=by
 have h:=aM0 hs (by omega) hp
 have h1:=h.1;have h2:=h.2.1;have h3:=h.2.2
 simp only [tm] at h1 h2 h3
 unfold tm
 rw [aD (n:=s*p.1) (by omega) (by omega),aD (n:=s*p.2.1) (by omega) (by omega),aD (n:=s*p.2.2) (by omega) (by omega)]
theorem aOh {s:Int} {p:P3} (hs:1≤s∧s≤8)(hp:bd 4096 p):rY p s=tm s p:=bA4 hs hp
theorem aX4 {s:Int} {p:P3} (hs:1≤s∧s≤8)(hp:bd 4096 p):aC p s=tm s p:=bA4 hs hp
theorem aB5 {a b:Int} (h1:-1099511627776≤a)(h2:a≤b)(h3:b≤1099511627776):qI a b=((a,b),0):=by
 unfold qI pG
 rw [bW (show(a,b).1≥-1099511627776 from h1),bW (show(a,b).1≤(a,b).2 from h2),bW (show(a,b).2≤1099511627776 from h3)];rfl
theorem aQl {a b:Int} (h1:-1099511627776≤a)(h2:a≤b)(h3:b≤1099511627776):iQ a b=((a,b),0):=by
 unfold iQ F51
 rw [bW (show(a,b).1≥-1099511627776 from h1),bW (show(a,b).1≤(a,b).2 from h2),bW (show(a,b).2≤1099511627776 from h3)];rfl
theorem bA5 {n:Int} (h0:0≤n)(h:n < 4611686018427387904):iO n=iI n:=(aP7 h0 h).eq (xF h0 h)
noncomputable def inv (N n:Int):Int×Int :=
 (iI (N / n),if iI (N / n)*iI (N / n)*n=N then iI (N / n) else iI (N / n)+1)
theorem nE {N n:Int} (hN:0≤N)(hn:1≤n):0≤N / n∧N / n≤N∧(N / n)*n≤N:=by
 have h1:0≤N / n:=Int.ediv_nonneg hN (by omega)
 have h2:(N / n)*n≤N:=Int.ediv_mul_le N (by omega)
 have h3:(N / n)*1≤(N / n)*n:=Int.mul_le_mul_of_nonneg_left hn h1
 omega
theorem lH {N n:Int} (hN:0≤N∧N≤288230376151711744)(hn:1≤n) :
   ∃k,iI (N / n)=k∧IsRt (N / n) k∧0≤k∧k≤536870912∧0≤k*k∧k*k≤N / n∧0≤k*k*n∧k*k*n≤N:=by
 obtain⟨h1,h2,h3⟩:=nE hN.1 hn
 have h:=xF (n:=N / n) h1 (by omega)
 have h4:=h.le (m:=536870912) (by omega) (by omega)
 have h5:0≤iI (N / n)*iI (N / n):=Int.mul_nonneg h.1 h.1
 exact⟨_,rfl,h,h.1,h4,h5,h.2.1,Int.mul_nonneg h5 (by omega),Int.le_trans (Int.mul_le_mul_of_nonneg_right h.2.1 (by omega)) h3⟩
theorem bA6 {N n:Int} (hN:0≤N∧N≤288230376151711744)(hn:1≤n):aDr N n=(inv N n,0):=by
 obtain⟨k,hk,_,k0,k1,k2,k3,k4,k5⟩:=lH hN hn
 obtain⟨h1,h2,h3⟩:=nE hN.1 hn
 unfold aDr inv
 rw [Int.tdiv_eq_ediv_of_nonneg hN.1,aD (n:=N / n) (by omega) (by omega),hk,aD (n:=k*k) (by omega) (by omega),aD (n:=k*k*n) (by omega) (by omega),aD (n:=k+1) (by omega) (by omega),
   aB5 (by omega) (Int.le_refl k) (by omega),aB5 (by omega) (by omega) (by omega)]
 by_cases h:k*k*n=N
 · rw [if_pos h,beq_iff_eq.2 h];rfl
 · rw [if_neg h,beq_eq_false_iff_ne.2 h];rfl
theorem bA7 {N n:Int} (hN:0≤N∧N≤288230376151711744)(hn:1≤n):zT N n=(inv N n,0):=by
 obtain⟨k,hk,_,k0,k1,k2,k3,k4,k5⟩:=lH hN hn
 obtain⟨h1,h2,h3⟩:=nE hN.1 hn
 unfold zT inv
 rw [Int.tdiv_eq_ediv_of_nonneg hN.1,aD (n:=N / n) (by omega) (by omega),bA5 h1 (by omega),hk,aD (n:=k*k) (by omega) (by omega),aD (n:=k+1) (by omega) (by omega),
   aQl (by omega) (Int.le_refl k) (by omega),aQl (by omega) (by omega) (by omega),Int.tmod_eq_emod_of_nonneg hN.1]
 have hdm:n*(N / n)+N % n=N:=Int.mul_ediv_add_emod N n
 by_cases h0:N % n=0
 · rw [beq_iff_eq.2 h0,cond_true]
   by_cases h:k*k=N / n
   · rw [beq_iff_eq.2 h,cond_true,if_pos (by rw [h,Int.mul_comm];omega)]
   · rw [beq_eq_false_iff_ne.2 h,cond_false,if_neg]
     intro h'
     rw [h0,Int.add_zero,Int.mul_comm] at hdm
     exact h (Int.eq_of_mul_eq_mul_right (by omega) (h'.trans hdm.symm))
 · rw [beq_eq_false_iff_ne.2 h0,cond_false,if_neg]
   intro h'
   rw [←h'] at h0
   exact h0 (Int.mul_emod_left _ _)
theorem aX5 {N n:Int} (hN:0≤N∧N≤288230376151711744)(hn:1≤n):0≤(inv N n).1∧(inv N n).1≤(inv N n).2∧(inv N n).2≤536870913:=by
 obtain⟨k,hk,_,k0,k1,_⟩:=lH hN hn
 unfold inv
 rw [hk]
 simp only
 split<;>omega
theorem aQm {N n m:Int} (hN:0≤N∧N≤288230376151711744)(hn:1≤n)(hm:n≤m):(inv N m).1≤(inv N n).1:=by
 obtain⟨h1,h2,h3⟩:=nE hN.1 hn
 obtain⟨g1,g2,g3⟩:=nE (n:=m) hN.1 (by omega)
 have h:N / m≤N / n:=by
   refine Int.le_ediv_of_mul_le (by omega) (Int.le_trans (Int.mul_le_mul_of_nonneg_left hm g1) g3)
 exact(xF g1 (by omega)).mono (xF h1 (by omega)) h
def NN (s:Int):Int:=s*s*1099511627776
theorem aB6 {s:Int} (h:s=1∨s=2∨s=4∨s=8):0≤NN s∧NN s≤288230376151711744:=by rcases h with rfl | rfl | rfl | rfl<;>decide
noncomputable def zW (s n:Int):Int×Int:=if n < 1 then(0,0) else inv (NN s) n
theorem bEr {s:Int} (h:s=1∨s=2∨s=4∨s=8):decide (s < 1)=false∧decide (s > 8)=false:=by
 rcases h with rfl | rfl | rfl | rfl<;>decide
theorem lt8 {s:Int} (h:s=1∨s=2∨s=4∨s=8):decide (s < 1)=false∧decide (s > 8)=false∧nS s 1 8=true:=by
 rcases h with rfl | rfl | rfl | rfl<;>decide
theorem aWg {s n:Int} (hs:s=1∨s=2∨s=4∨s=8)(hn:n≤1000000000):(fH n s).1=zW s n:=by
 obtain⟨e1,e2⟩:=bEr hs
 unfold fH zW
 by_cases h:n < 1
 · rw [bW h,cond_true,if_pos h]
 · have e:W ((W (s*s))*2 ^ (min (toNat 40) 64))=NN s:=by rcases hs with rfl | rfl | rfl | rfl<;>kernel_rfl
   rw [cK h,cond_false,cK (show ¬n > 1099511627776 by omega),cond_false,e1,cond_false,e2,cond_false,if_neg h,e,bA6 (aB6 hs) (by omega)]
theorem aWh {s n:Int} (hs:s=1∨s=2∨s=4∨s=8)(hn:n≤1000000000):(mC n s).1=zW s n:=by
 obtain⟨_,_,e3⟩:=lt8 hs
 unfold mC zW
 by_cases h:n < 1
 · rw [tJ,cK (show ¬(1≤n∧n≤1099511627776) by omega),if_pos h];rfl
 · have e:W ((W ((W (1048576*s))*1048576))*s)=NN s:=by rcases hs with rfl | rfl | rfl | rfl<;>kernel_rfl
   rw [e3,tJ,bW (show(1≤n∧n≤1099511627776) by omega),if_neg h,e,bA7 (aB6 hs) (by omega)];rfl
structure OfOk (of:Int→Int×Int):Prop where
 lo:∀n,0≤(of n).1
 le:∀n,(of n).1≤(of n).2
 hi:∀n,(of n).2≤536870913
 mono:∀n m,1≤n→n≤m→(of m).1≤(of n).1
theorem aX6 {s:Int} (hs:s=1∨s=2∨s=4∨s=8):OfOk (zW s):=by
 have hb:∀n,0≤(zW s n).1∧(zW s n).1≤(zW s n).2∧(zW s n).2≤536870913:=by
   intro n
   unfold zW
   split
   · simp
   · exact aX5 (aB6 hs) (by omega)
 refine⟨fun n=>(hb n).1,fun n=>(hb n).2.1,fun n=>(hb n).2.2,fun n m h1 h2=>?_⟩
 unfold zW
 rw [if_neg (by omega),if_neg (by omega)]
 exact aQm (aB6 hs) h1 h2
def fa (c:PN)(x:P3):Int:=mx (mx (mx 0 (ds c.1 x)) (ds c.2.1 x)) (ds c.2.2 x)
def ne (c:PN)(x:P3):Int:=nr (oN c) (oO c) x x
theorem vM {p q:P3} (hp:bd 5000 p)(hq:bd 5000 q):0≤ds p q∧ds p q≤300000000:=by
 have h:=nV hp hq
 have:=aWe h h
 exact⟨vF _,by unfold ds;omega⟩
theorem bA8 {a b:Int} (ha:0≤a)(h:a≤b∨a≤-b):a*a≤b*b:=by
 rcases h with h | h
 · exact Int.mul_le_mul h h ha (by omega)
 · have:=Int.mul_le_mul h h ha (by omega)
   rwa [Int.neg_mul_neg] at this
theorem bA9 (a b c d:P3):0≤nr a b c d:=by
 have h1:=jA (gp a.1 b.1 c.1 d.1);have h2:=jA (gp a.2.1 b.2.1 c.2.1 d.2.1);have h3:=jA (gp a.2.2 b.2.2 c.2.2 d.2.2)
 unfold nr;omega
noncomputable def acc (of:Int→Int×Int)(x:P3):List PN→Int×Int→(Int×Int)⊕((Int×Int)×Int)
 | [],v=>.inl v
 | c::l,v=>if ne c x=0 then .inr ((0,0),10) else acc of x l (v.1+(of (fa c x)).1,v.2+(of (ne c x)).2)
def zX (v:Int×Int)(n:Nat):Prop:=0≤v.1∧v.1≤v.2∧v.2+536870913*n≤34359738432
theorem aX7 {a n:Int} (hn:n=1∨n=4∨n=16∨n=64)(ha:-1099511627776≤a∧a≤1099511627776):rZ a n=a / n:=by
 unfold rZ
 have h0:∀b:Int,decide (n < 0)=false:=fun _=>cK (by omega)
 rw [h0 0]
 have key:(bif ((Int.tmod a n:Int) != 0) then(bif (!(decide (a < 0) == false)) then W (W (Int.tdiv a n) - 1) else W (Int.tdiv a n)) else W (Int.tdiv a n))=if Int.tmod a n≠0∧a < 0 then W (W (Int.tdiv a n) - 1) else W (Int.tdiv a n):=by
   by_cases h1:Int.tmod a n=0
   · rw [h1];simp
   · by_cases h2:a < 0
     · rw [bne_iff_ne.2 h1,bW h2,if_pos ⟨h1,h2⟩];rfl
     · rw [bne_iff_ne.2 h1,cK h2,if_neg (fun h=>h2 h.2)];rfl
 rw [key]
 rcases Int.lt_or_le a 0 with h | h
 · obtain⟨b,rfl⟩:∃b:Int,a=-b:=⟨-a,by omega⟩
   have hb:0≤b:=by omega
   rw [Int.neg_tdiv,Int.neg_tmod,Int.tdiv_eq_ediv_of_nonneg hb,Int.tmod_eq_emod_of_nonneg hb]
   rcases hn with rfl | rfl | rfl | rfl <;>
   · rw [aD (n:=-(b / _)) (by omega) (by omega)]
     split
     · rw [aD (by omega) (by omega)];omega
     · omega
 · rw [if_neg (by omega),Int.tdiv_eq_ediv_of_nonneg h]
   rcases hn with rfl | rfl | rfl | rfl<;>exact aD (by omega) (by omega)
theorem aX8 {a n:Int} (hn:n=1∨n=4∨n=16∨n=64)(ha:-1099511627776≤a∧a≤1099511627776):tI a n=a / n:=by
 unfold tI
 rcases Int.lt_or_le a 0 with h | h
 · obtain⟨b,rfl⟩:∃b:Int,a=-b:=⟨-a,by omega⟩
   have hb:0≤b:=by omega
   rw [Int.neg_tdiv,Int.neg_tmod,Int.tdiv_eq_ediv_of_nonneg hb,Int.tmod_eq_emod_of_nonneg hb]
   by_cases h1:-(b % n) < (0:Int)
   · rw [bW h1,cond_true]
     rcases hn with rfl | rfl | rfl | rfl <;>
     · rw [aD (n:=-(b / _)) (by omega) (by omega),aD (by omega) (by omega)];omega
   · rw [cK h1,cond_false]
     rcases hn with rfl | rfl | rfl | rfl <;>
     · rw [aD (n:=-(b / _)) (by omega) (by omega)];omega
 · rw [Int.tdiv_eq_ediv_of_nonneg h,Int.tmod_eq_emod_of_nonneg h]
   have:¬a % n < 0:=by have:=Int.emod_nonneg a (show n≠0 by omega);omega
   rw [cK this,cond_false]
   rcases hn with rfl | rfl | rfl | rfl<;>exact aD (by omega) (by omega)
theorem bBa {a n:Int} (hn:n=1∨n=4∨n=16∨n=64)(ha:-1099511627776≤a∧a≤1099511627776):aBs a n=-(-a / n):=by
 unfold aBs
 rw [aD (n:=0 - a) (by omega) (by omega),aX7 hn (by omega),Int.zero_sub]
 rcases hn with rfl | rfl | rfl | rfl<;>exact(aD (by omega) (by omega)).trans (by omega)
theorem bBb {a n:Int} (hn:n=1∨n=4∨n=16∨n=64)(ha:-1099511627776≤a∧a≤1099511627776):vE a n=-(-a / n):=by
 unfold vE
 rw [aD (n:=0 - a) (by omega) (by omega),aX8 hn (by omega),Int.zero_sub]
 rcases hn with rfl | rfl | rfl | rfl<;>exact(aD (by omega) (by omega)).trans (by omega)
def avg (v:Int×Int)(n:Int):Int×Int:=(v.1 / n,-(-v.2 / n))
theorem vN {a b:Int} (h1:-1099511627776≤a)(h2:a≤b)(h3:b≤1099511627776):pG (a,b)=true:=by
 unfold pG
 rw [bW (show(a,b).1≥-1099511627776 from h1),bW (show(a,b).1≤(a,b).2 from h2),bW (show(a,b).2≤1099511627776 from h3)];rfl
theorem bBc {v:Int×Int} {n:Int} (hn:n=1∨n=4∨n=16∨n=64)(h:zX v 0):aDu v.1 v.2 n=avg v n:=by
 unfold zX at h
 unfold aDu zS kD
 rw [vN (by omega) (by omega) (by omega)]
 simp only [Bool.not_true,cond_false,bne_self_eq_false]
 rw [cK (show ¬n < 1 by omega),cK (show ¬n > 1099511627776 by omega),cond_false,cond_false,aX7 hn (by omega),bBa hn (by omega)]
 have:v.1 / n≤-(-v.2 / n)∧-1099511627776≤v.1 / n∧-(-v.2 / n)≤1099511627776:=by
   rcases hn with rfl | rfl | rfl | rfl<;>omega
 rw [aB5 this.2.1 this.1 this.2.2];rfl
theorem kP (d:Int):sc d*sc d=1∨sc d*sc d=4∨sc d*sc d=16∨sc d*sc d=64:=by
 rcases qK d with h | h | h | h<;>rw [h]<;>decide
theorem oP {p c:PN} {d:Int} (hp:bdP 64 p)(hd:0≤d∧d≤3)(hc:c∈aR d.toNat p):bdP 512 c:=by
 have key:∀k:Nat,k≤3→c∈aR k p→bdP 512 c:=by
   intro k hk hc
   have:k=0∨k=1∨k=2∨k=3:=by omega
   rcases this with rfl | rfl | rfl | rfl<;>exact(vH (m:=64) _ hp (by decide) (by decide) hc).mono (by decide)
 exact key _ (by omega) hc
theorem aQn {p:PN} {d:Int} (hd:0≤d∧d≤3):zX (0,0) (aR d.toNat p).length:=by
 have h:=mM hd p
 have h1:=kP d
 unfold zX;simp only;omega
section
variable {p : PN} {x : P3} {d : Int}
end
end Go.Proofs.YtaeagjnpobdglaaGreat
namespace Go.Proofs.YtaeagjnpobdglaaGreat
open Go.Proofs Go.Aw Go.RowKit
set_option maxRecDepth 100000
def IsUp (T r:Int):Prop:=0≤r∧T≤r*r∧(r=0∨(r - 1)*(r - 1) < T)
theorem IsUp.le {T r m:Int} (h:IsUp T r)(hm:0≤m)(h':T≤m*m):r≤m:=by
 rcases Int.lt_or_le m r with hlt | hle
 · rcases h.2.2 with h0 | h0
   · omega
   · have:=Int.mul_le_mul (show m≤r - 1 by omega) (show m≤r - 1 by omega) hm (by omega)
     omega
 · exact hle
theorem IsUp.eq {T a b:Int} (h:IsUp T a)(h':IsUp T b):a=b:=Int.le_antisymm (h.le h'.1 h'.2.1) (h'.le h.1 h.2.1)
theorem aKj {T:Int} {S:Int×Int→(Int×Int)⊕Int} (hS:∀a b,0≤a→a < b→b≤268435456→S (a,b)=if T≤((a+b) / 2)*((a+b) / 2) then .inl (a,(a+b) / 2) else .inl ((a+b) / 2+1,b))(h0:∀a,S (a,a)=.inr a) :
   ∀(f:Nat) (a b:Int),0≤a→a≤b→b≤268435456→b - a < f→T≤b*b→(a=0∨(a - 1)*(a - 1) < T)→IsUp T (aB S f (a,b)):=by
 intro f
 induction f with
 | zero=>intro a b _ h _ hf;omega
 | succ f ih =>
   intro a b ha hab hb hf h1 h2
   by_cases he:a=b
   · subst he
     rw [aO (h0 a)];exact⟨ha,h1,h2⟩
   · have hs:=hS a b ha (by omega) hb
     by_cases hc:T≤((a+b) / 2)*((a+b) / 2)
     · rw [if_pos hc] at hs
       rw [aA hs]
       exact ih _ _ ha (by omega) (by omega) (by omega) hc h2
     · rw [if_neg hc] at hs
       rw [aA hs]
       refine ih _ _ (by omega) (by omega) hb (by omega) h1 (Or.inr ?_)
       rw [show(a+b) / 2+1 - 1=(a+b) / 2 by omega];omega
def sC (d:Int):Int:=3537128906555392*(sc d*sc d)
theorem bBd {d:Int} (h:0≤d∧d≤3):W (3537128906555392*2 ^ (min (toNat (W (2*d))) 64))=sC d:=by
 rcases d4 h with rfl | rfl | rfl | rfl<;>kernel_rfl
theorem bBe {d:Int} (h:0≤d∧d≤3):W ((W ((W (1099511627776*(W (1*2 ^ (min (toNat (IntKind.wrap .u64 d)) 64)))))*(W (1*2 ^ (min (toNat (IntKind.wrap .u64 d)) 64)))))*3217)=sC d:=by
 rcases d4 h with rfl | rfl | rfl | rfl<;>kernel_rfl
theorem aKk (d:Int):3537128906555392≤sC d∧sC d≤226376250019545088:=by
 unfold sC;have:=kP d;omega
def cq (t b:Int):Int:=-(-t / b)
theorem qL {t b:Int} (hb:1≤b):t≤cq t b*b∧(cq t b - 1)*b < t:=by
 have h1:=Int.mul_ediv_add_emod (-t) b
 have h2:=Int.emod_nonneg (-t) (show b≠0 by omega)
 have h3:=Int.emod_lt_of_pos (-t) (show 0 < b by omega)
 unfold cq
 have e:-(-t / b)*b=-(b*(-t / b)):=by rw [Int.neg_mul,Int.mul_comm]
 have e2:(-(-t / b) - 1)*b=-(b*(-t / b)) - b:=by rw [Int.sub_mul,e,Int.one_mul]
 omega
theorem aX9 {a n:Int} (hn:1≤n)(ha:-1152921504606846976≤a∧a≤1152921504606846976):tI a n=a / n:=by
 unfold tI
 rcases Int.lt_or_le a 0 with h | h
 · obtain⟨b,rfl⟩:∃b:Int,a=-b:=⟨-a,by omega⟩
   have hb:0≤b:=by omega
   obtain⟨h1,h2,_⟩:=nE hb hn
   have hd:=Int.mul_ediv_add_emod b n
   have hm0:=Int.emod_nonneg b (show n≠0 by omega)
   have hm1:=Int.emod_lt_of_pos b (show 0 < n by omega)
   rw [Int.neg_tdiv,Int.neg_tmod,Int.tdiv_eq_ediv_of_nonneg hb,Int.tmod_eq_emod_of_nonneg hb,aD (n:=-(b / n)) (by omega) (by omega)]
   by_cases h3:-(b % n) < (0:Int)
   · rw [bW h3,cond_true,aD (by omega) (by omega)]
     refine(((Int.ediv_emod_unique (a:=-b) (b:=n) (q:=-(b / n) - 1) (r:=n - b % n) (by omega)).2 ⟨?_,by omega,by omega⟩).1).symm
     rw [Int.mul_sub,Int.mul_neg,Int.mul_one];omega
   · rw [cK h3,cond_false]
     refine(((Int.ediv_emod_unique (a:=-b) (b:=n) (q:=-(b / n)) (r:=0) (by omega)).2 ⟨?_,by omega,by omega⟩).1).symm
     rw [Int.mul_neg];omega
 · rw [Int.tdiv_eq_ediv_of_nonneg h,Int.tmod_eq_emod_of_nonneg h]
   have:=Int.emod_nonneg a (show n≠0 by omega)
   rw [cK (by omega),cond_false]
   obtain⟨h1,h2,_⟩:=nE h hn
   exact aD (by omega) (by omega)
theorem aYa {a n:Int} (hn:1≤n)(ha:0≤a∧a≤1152921504606846976):vE a n=cq a n:=by
 unfold vE cq
 have h1:=qL (t:=a) hn
 rw [aD (n:=0 - a) (by omega) (by omega),aX9 hn (by omega),Int.zero_sub,Int.zero_sub]
 have h2:0≤cq a n:=by
   rcases Int.lt_or_le (cq a n) 0 with h | h
   · have:=Int.mul_le_mul_of_nonneg_right (show cq a n≤-1 by omega) (show 0≤n by omega);omega
   · exact h
 have h3:cq a n≤a+1:=by
   rcases Int.lt_or_le (a+1) (cq a n) with h | h
   · have:=Int.mul_le_mul_of_nonneg_left hn (show 0≤cq a n - 1 by omega);omega
   · exact h
 unfold cq at h2 h3
 exact aD (by omega) (by omega)
theorem vO {p:PN} {d:Int} (hp:vp p=0)(hd:0≤d∧d≤3) :
   ∃r,IsRt (dt (lG p) (lG p)) r∧1≤r∧r≤56755∧IsUp (cq (sC d) (128*r)) (bX p d)∧bX p d≤67108864:=by
 obtain⟨r,e,hr,r1,r2⟩:=aQa hp
 have ht:=aKk d
 obtain⟨q1,q2,q3⟩:=nE (N:=sC d) (n:=128*r) (by omega) (by omega)
 have hqb:sC d / (128*r)≤1768564453277696:=by
   rcases Int.lt_or_le 1768564453277696 (sC d / (128*r)) with h | h
   · have:=Int.mul_le_mul_of_nonneg_left (show 128≤128*r by omega) q1;omega
   · exact h
 have hk:=aMu (n:=sC d / (128*r)) q1 (by omega)
 have hkb:=hk.le (m:=42054304) (by omega) (by omega)
 obtain⟨u1,u2⟩:=qL (t:=sC d) (b:=128*r) (by omega)
 have hm:=Int.mul_ediv_add_emod (sC d) (128*r)
 have hm1:=Int.emod_lt_of_pos (sC d) (show 0 < 128*r by omega)
 refine⟨r,hr,r1,r2,?_⟩
 unfold bX
 rw [e,aD (n:=128*r) (by omega) (by omega),bBd hd,Int.tdiv_eq_ediv_of_nonneg (by omega),aD (n:=sC d / (128*r)) (by omega) (by omega)]
 generalize kW (sC d / (128*r))=k at *
 have k0:=hk.1;have k1:=hk.2.1;have k2:=hk.2.2
 have k3:0≤k*k:=Int.mul_nonneg k0 k0
 have k4:k*k*(128*r)≤sC d / (128*r)*(128*r):=Int.mul_le_mul_of_nonneg_right k1 (by omega)
 have k5:0≤k*k*(128*r):=Int.mul_nonneg k3 (by omega)
 rw [aD (n:=k*k) (by omega) (by omega),aD (n:=k*k*(128*r)) (by omega) (by omega),aD (n:=k+1) (by omega) (by omega)]
 generalize sC d / (128*r)=q at *
 generalize cq (sC d) (128*r)=T at *
 have hb:0 < 128*r:=by omega
 generalize 128*r=b at *
 have hqT:q≤T:=Int.le_of_mul_le_mul_right (Int.le_trans q3 u1) hb
 have hTq:T≤q+1:=by
   have:(T - 1)*b < (q+1)*b:=by rw [Int.add_mul,Int.mul_comm q b];omega
   have:=Int.lt_of_mul_lt_mul_right this (by omega);omega
 by_cases h:k*k*b < sC d
 · rw [bW h,cond_true]
   refine⟨⟨by omega,by omega,Or.inr ?_⟩,by omega⟩
   rw [show k+1 - 1=k by omega]
   exact Int.lt_of_mul_lt_mul_right (Int.lt_of_lt_of_le h u1) (by omega)
 · rw [cK h,cond_false]
   refine⟨⟨k0,?_,?_⟩,by omega⟩
   · have:(T - 1)*b < k*k*b:=by omega
     have:=Int.lt_of_mul_lt_mul_right this (by omega);omega
   · rcases Int.lt_or_le 0 k with h0 | h0
     · right
       have:(k - 1)*(k - 1)≤(k - 1)*k:=Int.mul_le_mul_of_nonneg_left (by omega) (by omega)
       have e:(k - 1)*k=k*k - k:=by rw [Int.sub_mul,Int.one_mul]
       omega
     · left;omega
theorem aYb {p:PN} {d:Int} (hp:vp p=0)(hd:0≤d∧d≤3):tL p d=bX p d:=by
 obtain⟨r,hr,r1,r2,hu,hb⟩:=vO hp hd
 obtain⟨hb',hd'⟩:=gE hp
 obtain⟨hn,hn2⟩:=aP9 hb'
 have ht:=aKk d
 have er:sB (cC (lF p) (lF p))=r:=by
   rw [aP8 hb',rdt (hn.mono (by omega)) (hn.mono (by omega))]
   exact(aP7 (n:=dt (lG p) (lG p)) (by omega) (by omega)).eq hr
 obtain⟨u1,u2⟩:=qL (t:=sC d) (b:=128*r) (by omega)
 have hT:cq (sC d) (128*r)≤1768564453277697:=by
   rcases Int.lt_or_le 1768564453277697 (cq (sC d) (128*r)) with h | h
   · have:=Int.mul_le_mul_of_nonneg_left (show 128≤128*r by omega) (show 0≤cq (sC d) (128*r) - 1 by omega);omega
   · exact h
 refine IsUp.eq ?_ hu
 unfold tL
 refine aKj (T:=cq (sC d) (128*r)) (fun a b ha hab hb=>?_) (fun a=>?_) _ 0 268435456 (by omega) (by omega) (by omega) (by decide) (by omega) (Or.inl rfl)
 · have h2:decide (a < b)=true:=bW hab
   have hq:=aMt (a:=(a+b) / 2) (by omega) (by omega)
   simp only [nD]
   rw [h2,cond_true,bBe hd,er,aD (n:=128*r) (by omega) (by omega),aYa (by omega) (by omega),aMr (by omega),aFm (by omega),aD (n:=(a+b) / 2*((a+b) / 2)) (by omega) (by omega)]
   by_cases hc:cq (sC d) (128*r)≤(a+b) / 2*((a+b) / 2)
   · rw [bW (show(a+b) / 2*((a+b) / 2)≥cq (sC d) (128*r) from hc),if_pos hc];rfl
   · rw [cK (show ¬(a+b) / 2*((a+b) / 2)≥cq (sC d) (128*r) from hc),if_neg hc];rfl
 · simp [nD]
def fa3 (c q:PN):Int:=mx (mx (mx (mx (mx (mx (mx (mx (mx 0 (ds c.1 q.1)) (ds c.1 q.2.1)) (ds c.1 q.2.2)) (ds c.2.1 q.1)) (ds c.2.1 q.2.1)) (ds c.2.1 q.2.2)) (ds c.2.2 q.1)) (ds c.2.2 q.2.1)) (ds c.2.2 q.2.2)
def uI (c q:PN):Int:=nr (oN c) (oO c) (oN q) (oO q)
theorem bBf {c q:PN} (hc:bdP 5000 c)(hq:bdP 5000 q):bH [(aK c).1,(aK c).2.1,(aK c).2.2] [(aK q).1,(aK q).2.1,(aK q).2.2]=fa3 c q:=by
 refine(bAz c q.1 q.2.1 q.2.2).trans ?_
 rw [vJ hc.1 hq.1,vJ hc.1 hq.2.1,vJ hc.1 hq.2.2,vJ hc.2.1 hq.1,vJ hc.2.1 hq.2.1,vJ hc.2.1 hq.2.2,vJ hc.2.2 hq.1,vJ hc.2.2 hq.2.1,vJ hc.2.2 hq.2.2];rfl
theorem bBg {c q:PN} (hc:bdP 5000 c)(hq:bdP 5000 q):jO c [q.1,q.2.1,q.2.2]=fa3 c q:=by
 rw [bA0,vK hc.1 hq.1,vK hc.1 hq.2.1,vK hc.1 hq.2.2,vK hc.2.1 hq.1,vK hc.2.1 hq.2.1,vK hc.2.1 hq.2.2,vK hc.2.2 hq.1,vK hc.2.2 hq.2.1,vK hc.2.2 hq.2.2,aQh];rfl
theorem bBh {c q:PN} (hc:bdP 5000 c)(hq:bdP 5000 q):bJ (aK c) (aK q)=uI c q:=aX1 hc hq
theorem bBi {c q:PN} (hc:bdP 5000 c)(hq:bdP 5000 q):gZ c q=uI c q:=aX2 hc hq
theorem aKl {c q:PN} (hc:bdP 5000 c)(hq:bdP 5000 q):fa3 c q≤300000000 :=
 qJ (qJ (qJ (qJ (qJ (qJ (qJ (qJ (qJ (by omega) (vM hc.1 hq.1).2) (vM hc.1 hq.2.1).2) (vM hc.1 hq.2.2).2) (vM hc.2.1 hq.1).2) (vM hc.2.1 hq.2.1).2) (vM hc.2.1 hq.2.2).2) (vM hc.2.2 hq.1).2) (vM hc.2.2 hq.2.1).2) (vM hc.2.2 hq.2.2).2
theorem aKm (c q:PN):ds c.1 q.1≤fa3 c q∧ds c.2.1 q.1≤fa3 c q∧ds c.2.2 q.1≤fa3 c q:=by
 refine⟨?_,?_,?_⟩
 · exact Int.le_trans (kO _ _) (Int.le_trans (dG _ _) (Int.le_trans (dG _ _) (Int.le_trans (dG _ _) (Int.le_trans (dG _ _) (Int.le_trans (dG _ _) (Int.le_trans (dG _ _) (Int.le_trans (dG _ _) (dG _ _))))))))
 · exact Int.le_trans (kO _ _) (Int.le_trans (dG _ _) (Int.le_trans (dG _ _) (Int.le_trans (dG _ _) (Int.le_trans (dG _ _) (dG _ _)))))
 · exact Int.le_trans (kO _ _) (Int.le_trans (dG _ _) (dG _ _))
theorem aKn {a b c d x y:Int} (h1:a≤x)(h2:x≤b)(h3:c≤y)(h4:y≤d):gp a b c d*gp a b c d≤(x - y)*(x - y):=by
 refine bA8 (aB3 _ _ _ _) ?_
 unfold gp mx
 (repeat' split)<;>omega
theorem aKo (c q:PN):0≤uI c q∧uI c q≤fa3 c q:=by
 refine⟨bA9 _ _ _ _,Int.le_trans ?_ (aKm c q).1⟩
 have h1:=aKn (lW c.1.1 c.2.1.1 c.2.2.1).1 (lX c.1.1 c.2.1.1 c.2.2.1).1 (lW q.1.1 q.2.1.1 q.2.2.1).1 (lX q.1.1 q.2.1.1 q.2.2.1).1
 have h2:=aKn (lW c.1.2.1 c.2.1.2.1 c.2.2.2.1).1 (lX c.1.2.1 c.2.1.2.1 c.2.2.2.1).1 (lW q.1.2.1 q.2.1.2.1 q.2.2.2.1).1 (lX q.1.2.1 q.2.1.2.1 q.2.2.2.1).1
 have h3:=aKn (lW c.1.2.2 c.2.1.2.2 c.2.2.2.2).1 (lX c.1.2.2 c.2.1.2.2 c.2.2.2.2).1 (lW q.1.2.2 q.2.1.2.2 q.2.2.2.2).1 (lX q.1.2.2 q.2.1.2.2 q.2.2.2.2).1
 unfold uI nr ds dt sb
 simp only [oN,oO]
 omega
theorem aQo {x y:PN} (h:bdP 100000 x)(hy:y∈aB1 x):lG y=lG x:=by
 unfold aB1 q1 q2 q3 q4 at hy
 rw [pH h.1 h.2.1,pH h.2.2 h.1,pH h.2.1 h.2.2,gT h.1,gT h.2.1,gT h.2.2] at hy
 simp only [List.mem_cons,List.mem_nil_iff,or_false] at hy
 unfold lG cr sb
 rcases hy with rfl | rfl | rfl | rfl<;>simp only [Prod.mk.injEq]<;>refine⟨?_,?_,?_⟩<;>grind
theorem aM1:∀(d:Nat) {m:Int} {p x:PN},bdP m p→m*2 ^ d≤100000→0≤m→x∈aR d p→lG x=lG p
 | 0,m,p,x,h,_,_,hx=>by simp [aR] at hx;subst hx;rfl
 | d+1,m,p,x,h,hm,h0,hx=>by
   rw [fZ,List.mem_flatMap] at hx
   obtain⟨y,hy,hx⟩:=hx
   have hp:(0:Int) < 2 ^ d:=Int.pow_pos (by omega)
   have hle:m*2 ^ d≤m*2 ^ (d+1):=Int.mul_le_mul_of_nonneg_left (by rw [Int.pow_succ];omega) h0
   have hb:=vH d h (by omega) h0 hy
   rw [aQo (hb.mono (by omega)) hx,aM1 d h (by omega) h0 hy]
theorem aKp {p c:PN} {d:Int} (hp:bdP 64 p)(hd:0≤d∧d≤3)(hc:c∈aR d.toNat p):lG c=lG p:=by
 have:d.toNat=0∨d.toNat=1∨d.toNat=2∨d.toNat=3:=by omega
 rcases this with h | h | h | h<;>rw [h] at hc<;>exact aM1 (m:=64) _ hp (by decide) (by decide) hc
theorem aQp (c:PN)(x:P3) {R:Int} (h1:ds c.1 x≤R)(h2:ds c.2.1 x≤R)(h3:ds c.2.2 x≤R):dt (lG c) (lG c)≤(4*R)*(4*R):=by
 have lag:∀u v:P3,dt (cr u v) (cr u v)≤dt u u*dt v v:=by
   intro u v
   have h:=jA (dt u v)
   have e:dt (cr u v) (cr u v)+dt u v*dt u v=dt u u*dt v v:=by
     unfold dt cr;grind
   omega
 have par:∀a b:P3,dt (sb a b) (sb a b)≤2*ds a x+2*ds b x:=by
   intro a b
   have k:∀s t y:Int,(s - t)*(s - t)≤2*((s - y)*(s - y))+2*((t - y)*(t - y)):=by
     intro s t y
     have:=jA (s+t - 2*y)
     grind
   have k1:=k a.1 b.1 x.1;have k2:=k a.2.1 b.2.1 x.2.1;have k3:=k a.2.2 b.2.2 x.2.2
   unfold ds dt sb;simp only;omega
 have p1:=par c.2.1 c.1;have p2:=par c.2.2 c.1
 refine Int.le_trans (lag _ _) (Int.mul_le_mul (by omega) (by omega) (vF _) ?_)
 have:=vF (sb c.1 x)
 unfold ds at *;omega
theorem bBj (d:Int):NN (sc d)=sc d*sc d*1099511627776:=rfl
theorem aUs {p c:PN} {d:Int} (hp:vp p=0)(hd:0≤d∧d≤3)(hc:c∈aR d.toNat p)(x:P3) {R:Int} (h1:ds c.1 x≤R)(h2:ds c.2.1 x≤R)(h3:ds c.2.2 x≤R):(zW (sc d) R).1≤bX p d:=by
 obtain⟨r,hr,r1,r2,hu,_⟩:=vO hp hd
 have hR:0≤R:=Int.le_trans (vF _) h1
 have hn:=aQp c x h1 h2 h3
 rw [aKp (gE hp).1 hd hc] at hn
 have h4:r≤4*R:=by
   rcases Int.lt_or_le (4*R) r with h | h
   · have:=Int.mul_le_mul (show 4*R+1≤r by omega) (show 4*R+1≤r by omega) (by omega) hr.1
     have e:(4*R+1)*(4*R+1)=(4*R)*(4*R)+8*R+1:=by grind
     have:=hr.2.1;omega
   · exact h
 unfold zW
 rw [if_neg (by omega)]
 obtain⟨k,hk,_,k0,k1,k2,k3,k4,k5⟩:=lH (aB6 (qK d)) (show 1≤R by omega)
 unfold inv
 rw [hk]
 simp only
 rcases Int.lt_or_le (bX p d) k with h | h
 · exfalso
   obtain⟨u1,_⟩:=qL (t:=sC d) (b:=128*r) (by omega)
   have v0:=hu.1;have v1:=hu.2.1
   generalize bX p d=m at *
   have e1:cq (sC d) (128*r)*(128*r)≤m*m*(128*r):=Int.mul_le_mul_of_nonneg_right v1 (by omega)
   have e2:m*m≤k*k:=Int.mul_le_mul (by omega) (by omega) v0 k0
   have e3:m*m*(128*r)≤k*k*(512*R):=Int.mul_le_mul e2 (by omega) (by omega) k2
   have e4:k*k*(512*R)=512*(k*k*R):=by grind
   rw [bBj] at k5
   have:=kP d
   unfold sC at *
   omega
 · exact h
def aDv (lo hi:PN→Int):List PN→Int×Int→Int×Int
 | [],v=>v
 | c::l,v=>aDv lo hi l (v.1+lo c,v.2+hi c)
theorem vP {lo hi:Int} {v:Int×Int} {n:Nat} (h:zX v (n+1))(h1:0≤lo∧lo≤hi∧hi≤536870913):zX (v.1+lo,v.2+hi) n:=by
 unfold zX at *;simp only;omega
theorem aAl {lo hi:PN→Int}:∀{l:List PN} {v:Int×Int},(∀c∈l,0≤lo c∧lo c≤hi c∧hi c≤536870913)→zX v l.length→zX (aDv lo hi l v) 0
 | [],v,_,h=>h
 | c::l,v,hl,h=>aAl (l:=l) (fun c hc=>hl c (List.mem_cons_of_mem _ hc)) (vP h (hl c List.mem_cons_self))
theorem aB7 {lo hi:PN→Int} {S:Int×Int→PN→Int×Int}:∀{l:List PN} {v:Int×Int},(∀c∈l,0≤lo c∧lo c≤hi c∧hi c≤536870913) →
   (∀c∈l,∀v:Int×Int,S v c=(W (v.1+lo c),W (v.2+hi c)))→zX v l.length→l.foldl S v=aDv lo hi l v
 | [],v,_,_,_=>rfl
 | c::l,v,hl,hS,h=>by
   have h1:=vP h (hl c List.mem_cons_self)
   have h2:=h1
   unfold zX at h2;simp only at h2
   rw [List.foldl_cons,hS c List.mem_cons_self v,aD (by omega) (by omega),aD (by omega) (by omega)]
   exact aB7 (l:=l) (fun c hc=>hl c (List.mem_cons_of_mem _ hc)) (fun c hc=>hS c (List.mem_cons_of_mem _ hc)) h1
theorem aB8 {lo hi:PN→Int} {S:Zt→Zt⊕(Int×Int)} {G:Int×Int→Int×Int} {L:List PN} (hl:∀c∈L,0≤lo c∧lo c≤hi c∧hi c≤536870913)
   (hS:∀(i:Nat) (c:PN),L[i]? = some c→∀v1 v2:Int,S (v1,v2,(i:Int))=.inl (W (v1+lo c),W (v2+hi c),((i+1:Nat):Int)))
   (hE:∀v1 v2:Int,S (v1,v2,(L.length:Int))=.inr (G (v1,v2))) :
   ∀(l:List PN) (i n:Nat) (v:Int×Int),L.drop i=l→i≤L.length→l.length < n→zX v l.length→aB S n (v.1,v.2,(i:Int))=G (aDv lo hi l v)
 | [],i,n,v,hd,hi',hn,h=>by
   have:i=L.length:=by have:=List.drop_eq_nil_iff.1 hd;omega
   obtain⟨n,rfl⟩:∃m,n=m+1:=⟨n - 1,by simp only [List.length_nil] at hn;omega⟩
   subst this
   rw [aO (hE _ _)];rfl
 | c::l,i,n,v,hd,hi',hn,h=>by
   have hc:L[i]? = some c:=by
     have:(L.drop i)[0]? = some c:=by rw [hd];rfl
     simpa using this
   obtain⟨hlt,hce⟩:=List.getElem?_eq_some_iff.1 hc
   obtain⟨n,rfl⟩:∃m,n=m+1:=⟨n - 1,by omega⟩
   have h1:=vP h (hl c (hce▸List.getElem_mem hlt))
   have h2:=h1
   unfold zX at h2;simp only at h2
   rw [aA (hS i c hc v.1 v.2),aD (by omega) (by omega),aD (by omega) (by omega)]
   exact aB8 hl hS hE l (i+1) n _ (by rw [←List.drop_drop,hd];rfl) (by omega) (by simp only [List.length_cons] at hn;omega) h1
noncomputable def bLo (d:Int)(q c:PN):Int:=(zW (sc d) (fa3 c q)).1
noncomputable def sD (R d:Int)(q c:PN):Int:=if 0 < uI c q then(if(zW (sc d) (uI c q)).2 < R then(zW (sc d) (uI c q)).2 else R) else R
theorem aYc {p q:PN} {d:Int} (hp:vp p=0)(hd:0≤d∧d≤3):∀c∈aR d.toNat p,0≤bLo d q c∧bLo d q c≤sD (bX p d) d q c∧sD (bX p d) d q c≤536870913:=by
 intro c hc
 obtain⟨_,_,_,_,_,hub⟩:=vO hp hd
 have ho:=aX6 (qK d)
 obtain⟨g1,g2,g3⟩:=aKm c q
 have hl:=aUs hp hd hc q.1 g1 g2 g3
 have hn:=aKo c q
 have h0:=ho.lo (fa3 c q)
 unfold bLo sD
 split
 · rename_i hz
   have h1:=ho.mono (uI c q) (fa3 c q) (by omega) hn.2;have h2:=ho.le (uI c q)
   split<;>omega
 · omega
noncomputable def hG (p q:PN)(d:Int):Int×Int:=avg (aDv (bLo d q) (sD (bX p d) d q) (aR d.toNat p) (0,0)) (sc d*sc d)
section
variable {p q : PN} {d : Int}
theorem aQq (hp:vp p=0)(hq:bdP 5000 q)(hd:0≤d∧d≤3):F92 p q d=hG p q d:=by
 have hk:=aQn (p:=p) hd
 have hb:=aYc (q:=q) hp hd
 unfold F92 hG
 rw [aB7 hb (fun c hc v=>?_) hk]
 · show aDu _ _ _=_
   rw [bA3 hd,bBc (kP d) (aAl hb hk)]
 · have hcb:=(oP (gE hp).1 hd hc).mono (show(512:Int)≤5000 by omega)
   obtain⟨v1,v2⟩:=v
   have h1:=aKl hcb hq;have h2:=aKo c q
   simp only [yZ]
   rw [aX3 hd,bBh hcb hq,bBf hcb hq,aWg (qK d) (by omega),aWg (qK d) (by omega)]
   unfold bLo sD
   by_cases h:0 < uI c q
   · rw [if_pos h,bW (show uI c q > 0 from h),cond_true]
   · rw [if_neg h,cK (show ¬uI c q > 0 from h),cond_false]
theorem aWi (hp:vp p=0)(hq:bdP 5000 q)(hd:0≤d∧d≤3):vI p d q=hG p q d:=by
 have hk:=aQn (p:=p) hd
 have hb:=aYc (q:=q) hp hd
 have hL:=bAw (gE hp).1 hd
 have hl:=mM hd p
 unfold vI hG
 rw [show((0,0,0):Zt)=(((0,0):Int×Int).1,((0,0):Int×Int).2,((0:Nat):Int)) from rfl,
   aB8 hb (S:=lV p d q) (G:=fun v=>(tI v.1 (sc d*sc d),vE v.2 (sc d*sc d))) (fun i c hi v1 v2=>?_) (fun v1 v2=>?_) (aR d.toNat p) 0 _ (0,0) rfl (Nat.zero_le _) (by rw [hL];omega) hk]
 · have hu:=aAl hb hk
   unfold zX at hu
   rw [aX8 (kP d) (by omega),bBb (kP d) (by omega)];rfl
 · obtain⟨hlt,hc⟩:=List.getElem?_eq_some_iff.1 hi
   have hm:c∈aR d.toNat p:=hc▸List.getElem_mem hlt
   have hcb:=(oP (gE hp).1 hd hm).mono (show(512:Int)≤5000 by omega)
   have hg:(aR d.toNat p).getD i default=c:=by rw [fO,hi];rfl
   have h1:=aKl hcb hq;have h2:=aKo c q
   simp only [lV]
   rw [hL,bW (show((i:Nat):Int) < ((aR d.toNat p).length:Nat) by omega),cond_true,uJ,hg,bA2 hd,bBi hcb hq,bBg hcb hq,aWh (qK d) (by omega),aWh (qK d) (by omega),aYb hp hd]
   unfold bLo sD
   by_cases h:0 < uI c q
   · rw [if_pos h,bW (show uI c q > 0 from h),cond_true];rfl
   · rw [if_neg h,cK (show ¬uI c q > 0 from h),cond_false];rfl
 · simp only [lV]
   rw [hL,cK (Int.lt_irrefl _),cond_false,hl]
end
def lI (s:Int)(q:PN):PN:=(tm s q.1,tm s q.2.1,tm s q.2.2)
theorem aGd {q:PN} {s:Int} (hs:1≤s∧s≤8)(hq:bdP 64 q):bdP 5000 (lI s q) :=
 ⟨(aM0 hs (by omega) hq.1).mono (by omega),(aM0 hs (by omega) hq.2.1).mono (by omega),(aM0 hs (by omega) hq.2.2).mono (by omega)⟩
theorem aKq (p q:PN)(d:Int):uH p q d=lY p q d:=by
 unfold uH lY
 rw [aAk,rG]
 by_cases h:pk p q d=0
 · obtain⟨h1,h2,h3⟩:=vL h
   have hs:=aMz d
   have hq:=(gE h2).1
   have hq':=hq.mono (show(64:Int)≤4096 by omega)
   have hd:0≤d∧d≤3:=by omega
   rw [aX3 hd,bA2 hd,aOh hs hq'.1,aOh hs hq'.2.1,aOh hs hq'.2.2,aX4 hs hq'.1,aX4 hs hq'.2.1,aX4 hs hq'.2.2]
   have e1:=aQq h1 (aGd hs hq) hd
   have e2:=aWi h1 (aGd hs hq) hd
   unfold lI at e1 e2
   rw [e1,e2]
 · rw [bne_iff_ne.2 h,cond_true,cond_true]
end Go.Proofs.YtaeagjnpobdglaaGreat
namespace Go.Proofs.YtaeagjnpobdglaaGreat
open Go.Proofs Go.Aw Go.RowKit
set_option maxRecDepth 100000
theorem aWj {a:Int×Int} (h:((kD a:Int) != 0)=false):-1099511627776≤a.1∧a.1≤a.2∧a.2≤1099511627776:=by
 have h:kD a=0:=by simpa using h
 unfold kD at h
 cases h0:pG a with
 | false=>rw [h0] at h;cases h
 | true =>
   unfold pG at h0
   by_cases h1:a.1≥-1099511627776
   · by_cases h2:a.1≤a.2
     · rw [bW h1,cond_true,bW h2,cond_true] at h0
       exact⟨h1,h2,bY h0⟩
     · rw [bW h1,cond_true,cK h2,cond_false] at h0;cases h0
   · rw [cK h1,cond_false] at h0;cases h0
def F46 (a0:Int):Bool :=
 (bif (decide ((a0:Int)≥(-1099511627776))) then
  (decide ((a0:Int)≤1099511627776))
 else
  false)
theorem C46 (a0:Int):Con Tryz.prog 46 [(iv a0)] [] (.v (.bool (F46 a0))) []:=by
 refine aJ Tryz.func46 (by kernel_rfl) fun cx hcx=>?_
 cases h0:(decide ((a0:Int)≥(-1099511627776))) with
 | true =>
  have q0:=bY h0
  have e:=Eq.refl (F46 a0);conv at e=>rhs;simp only [F46,h0,aH]
  rw [e]
  exact rt [.d h0] [] [] hcx (by kernel_rfl)
 | false =>
  have q0:=cF h0
  have e:=Eq.refl (F46 a0);conv at e=>rhs;simp only [F46,h0,aH]
  rw [e]
  exact rt [.d h0] [] [] hcx (by kernel_rfl)
def nW (a0:Int×Int)(a1:Int):(Int×Int)×Int :=
 (bif (((kD a0):Int) != 0) then
  ((0,0),(kD a0))
 else
  (bif (!(F46 a1)) then
   ((0,0),1)
  else
   ((qI (if((pN a0.2 a1):Int) < (pN a0.1 a1) then(pN a0.2 a1) else(pN a0.1 a1)) (if((pN a0.1 a1):Int) < (pN a0.2 a1) then(pN a0.2 a1) else(pN a0.1 a1))).1,(qI (if((pN a0.2 a1):Int) < (pN a0.1 a1) then(pN a0.2 a1) else(pN a0.1 a1)) (if((pN a0.1 a1):Int) < (pN a0.2 a1) then(pN a0.2 a1) else(pN a0.1 a1))).2)))
theorem C17 (a0:Int×Int)(a1:Int):Con Tryz.prog 17 [(.a [(iv a0.1),(iv a0.2)]),(iv a1)] [] (.t [(.a (k2 (nW a0 a1).1)),(iv (nW a0 a1).2)]) []:=by
 refine aJ Tryz.func17 (by kernel_rfl) fun cx hcx=>?_
 let t0:List (St Tryz.prog):=[.c [2] (aWc a0)]
 cases h0:(((kD a0):Int) != 0) with
 | true =>
  have q0:=bne_iff_ne.1 h0
  have e:=Eq.refl (nW a0 a1);conv at e=>rhs;simp only [nW,h0,aH]
  rw [e]
  exact rt (t0++[.d h0]) [] [] hcx (by kernel_rfl)
 | false =>
  have q0:=bne_eq_false_iff_eq.1 h0
  let t1:List (St Tryz.prog):=(t0++[.d h0,.c [] (C46 a1)])
  cases h1:(!(F46 a1)) with
  | true =>
   have e:=Eq.refl (nW a0 a1);conv at e=>rhs;simp only [nW,h0,h1,aH]
   rw [e]
   exact rt (t1++[.d h1]) [] [] hcx (by kernel_rfl)
  | false =>
   have e:=Eq.refl (nW a0 a1);conv at e=>rhs;simp only [nW,h0,h1,aH]
   rw [e]
   exact rt (t1++[.d h1,.c [] (C47 a0.1 a1  (by have:=aWj h0;omega)),.c [] (C47 a0.2 a1  (by have:=aWj h0;omega)),.c [] (C48 (if((pN a0.2 a1):Int) < (pN a0.1 a1) then(pN a0.2 a1) else(pN a0.1 a1)) (if((pN a0.1 a1):Int) < (pN a0.2 a1) then(pN a0.2 a1) else(pN a0.1 a1)))]) [] [] hcx (by kernel_rfl)
def nF (a0:Int):Int :=
 (bif (decide ((a0:Int) < 0)) then
  (IntKind.wrap .u64 (W (0 - a0)))
 else
  (IntKind.wrap .u64 a0))
theorem bBk (a0:Int):Con Tryz.prog 168 [(iv a0)] [] (.v (.int .u64 (nF a0))) []:=by
 refine aJ Tryz.func168 (by kernel_rfl) fun cx hcx=>?_
 cases h0:(decide ((a0:Int) < 0)) with
 | true =>
  have q0:=bY h0
  have e:=Eq.refl (nF a0);conv at e=>rhs;simp only [nF,h0,aH]
  rw [e]
  exact rt [.d h0] [] [] hcx (by kernel_rfl)
 | false =>
  have q0:=cF h0
  have e:=Eq.refl (nF a0);conv at e=>rhs;simp only [nF,h0,aH]
  rw [e]
  exact rt [.d h0] [] [] hcx (by kernel_rfl)
def fQ (a0:Int)(a1:Int):Int×Int :=
 ((IntKind.wrap .u64 ((IntKind.wrap .u64 ((IntKind.wrap .u64 ((Int.fdiv a0 (2 ^ (min (toNat 32) 64)))*(Int.fdiv a1 (2 ^ (min (toNat 32) 64)))))+(Int.fdiv (IntKind.wrap .u64 ((IntKind.wrap .u64 ((Int.fdiv a0 (2 ^ (min (toNat 32) 64)))*(IntKind.wrap .u64 ((BitVec.ofInt 64 a1 &&& BitVec.ofInt 64 4294967295).toNat:Int))))+(Int.fdiv (IntKind.wrap .u64 ((IntKind.wrap .u64 ((BitVec.ofInt 64 a0 &&& BitVec.ofInt 64 4294967295).toNat:Int))*(IntKind.wrap .u64 ((BitVec.ofInt 64 a1 &&& BitVec.ofInt 64 4294967295).toNat:Int)))) (2 ^ (min (toNat 32) 64))))) (2 ^ (min (toNat 32) 64)))))+(Int.fdiv (IntKind.wrap .u64 ((IntKind.wrap .u64 ((BitVec.ofInt 64 (IntKind.wrap .u64 ((IntKind.wrap .u64 ((Int.fdiv a0 (2 ^ (min (toNat 32) 64)))*(IntKind.wrap .u64 ((BitVec.ofInt 64 a1 &&& BitVec.ofInt 64 4294967295).toNat:Int))))+(Int.fdiv (IntKind.wrap .u64 ((IntKind.wrap .u64 ((BitVec.ofInt 64 a0 &&& BitVec.ofInt 64 4294967295).toNat:Int))*(IntKind.wrap .u64 ((BitVec.ofInt 64 a1 &&& BitVec.ofInt 64 4294967295).toNat:Int)))) (2 ^ (min (toNat 32) 64))))) &&& BitVec.ofInt 64 4294967295).toNat:Int))+(IntKind.wrap .u64 ((IntKind.wrap .u64 ((BitVec.ofInt 64 a0 &&& BitVec.ofInt 64 4294967295).toNat:Int))*(Int.fdiv a1 (2 ^ (min (toNat 32) 64))))))) (2 ^ (min (toNat 32) 64))))),(IntKind.wrap .u64 (a0*a1)))
theorem aUt (a0:Int)(a1:Int):Con Tryz.prog 141 [(.v (.int .u64 a0)),(.v (.int .u64 a1))] [] (.t [(.v (.int .u64 (fQ a0 a1).1)),(.v (.int .u64 (fQ a0 a1).2))]) []:=by
 refine aJ Tryz.func141 (by kernel_rfl) fun cx hcx=>?_
 have e:=Eq.refl (fQ a0 a1);conv at e=>rhs;simp only [fQ]
 rw [e]
 exact rt [.p (show 0≤(32:Int) from by decide),.p (show 0≤(32:Int) from by decide),.p (show 0≤(32:Int) from by decide),.p (show 0≤(32:Int) from by decide),.p (show 0≤(32:Int) from by decide)] [] [] hcx (by kernel_rfl)
def jP (a0:Int)(a1:Int):Int :=
 (bif (((fQ (nF a0) (nF a1)).1:Int) == 0) then
  (bif (decide (((fQ (nF a0) (nF a1)).2:Int)≤1099511627776)) then
   (bif (!((decide ((a0:Int) < 0)) == (decide ((a1:Int) < 0)))) then
    (W (0 - (W (fQ (nF a0) (nF a1)).2)))
   else
    (W (fQ (nF a0) (nF a1)).2))
  else
   (bif (!((decide ((a0:Int) < 0)) == (decide ((a1:Int) < 0)))) then
    (-1099511627777)
   else
    1099511627777))
 else
  (bif (!((decide ((a0:Int) < 0)) == (decide ((a1:Int) < 0)))) then
   (-1099511627777)
  else
   1099511627777))
theorem aUu (a0:Int)(a1:Int):Con Tryz.prog 155 [(iv a0),(iv a1)] [] (iv (jP a0 a1)) []:=by
 refine aJ Tryz.func155 (by kernel_rfl) fun cx hcx=>?_
 let t0:List (St Tryz.prog):=[.c [] (bBk a0),.c [] (bBk a1),.c [] (aUt (nF a0) (nF a1))]
 cases h0:(((fQ (nF a0) (nF a1)).1:Int) == 0) with
 | true =>
  have q0:=eq_of_beq h0
  let t1:List (St Tryz.prog):=(t0++[.d h0])
  cases h1:(decide (((fQ (nF a0) (nF a1)).2:Int)≤1099511627776)) with
  | true =>
   have q1:=bY h1
   let t2:List (St Tryz.prog):=(t1++[.d h1])
   cases h2:(!((decide ((a0:Int) < 0)) == (decide ((a1:Int) < 0)))) with
   | true =>
    have e:=Eq.refl (jP a0 a1);conv at e=>rhs;simp only [jP,h0,h1,h2,aH]
    rw [e]
    exact rt (t2++[.d h2]) [] [] hcx (by kernel_rfl)
   | false =>
    have e:=Eq.refl (jP a0 a1);conv at e=>rhs;simp only [jP,h0,h1,h2,aH]
    rw [e]
    exact rt (t2++[.d h2]) [] [] hcx (by kernel_rfl)
  | false =>
   have q1:=cF h1
   let t2:List (St Tryz.prog):=(t1++[.d h1])
   cases h2:(!((decide ((a0:Int) < 0)) == (decide ((a1:Int) < 0)))) with
   | true =>
    have e:=Eq.refl (jP a0 a1);conv at e=>rhs;simp only [jP,h0,h1,h2,aH]
    rw [e]
    exact rt (t2++[.d h2]) [] [] hcx (by kernel_rfl)
   | false =>
    have e:=Eq.refl (jP a0 a1);conv at e=>rhs;simp only [jP,h0,h1,h2,aH]
    rw [e]
    exact rt (t2++[.d h2]) [] [] hcx (by kernel_rfl)
 | false =>
  have q0:=ne_of_beq_false h0
  let t1:List (St Tryz.prog):=(t0++[.d h0])
  cases h1:(!((decide ((a0:Int) < 0)) == (decide ((a1:Int) < 0)))) with
  | true =>
   have e:=Eq.refl (jP a0 a1);conv at e=>rhs;simp only [jP,h0,h1,aH]
   rw [e]
   exact rt (t1++[.d h1]) [] [] hcx (by kernel_rfl)
  | false =>
   have e:=Eq.refl (jP a0 a1);conv at e=>rhs;simp only [jP,h0,h1,aH]
   rw [e]
   exact rt (t1++[.d h1]) [] [] hcx (by kernel_rfl)
def fW (a0:Int×Int)(a1:Int):(Int×Int)×Int :=
 (bif (!(F51 a0)) then
  ((0,0),1)
 else
  (bif (!(nS a1 (-1099511627776) 1099511627776)) then
   ((0,0),1)
  else
   (bif (decide ((a1:Int) < 0)) then
    ((iQ (jP a0.2 a1) (jP a0.1 a1)).1,(iQ (jP a0.2 a1) (jP a0.1 a1)).2)
   else
    ((iQ (jP a0.1 a1) (jP a0.2 a1)).1,(iQ (jP a0.1 a1) (jP a0.2 a1)).2))))
theorem bBl (a0:Int×Int)(a1:Int):Con Tryz.prog 136 [(.a [(iv a0.1),(iv a0.2)]),(iv a1)] [] (.t [(.a (k2 (fW a0 a1).1)),(iv (fW a0 a1).2)]) []:=by
 refine aJ Tryz.func136 (by kernel_rfl) fun cx hcx=>?_
 let t0:List (St Tryz.prog):=[.c [] (C51 a0)]
 cases h0:(!(F51 a0)) with
 | true =>
  have e:=Eq.refl (fW a0 a1);conv at e=>rhs;simp only [fW,h0,aH]
  rw [e]
  exact rt (t0++[.d h0]) [] [] hcx (by kernel_rfl)
 | false =>
  let t1:List (St Tryz.prog):=(t0++[.d h0,.c [] (aUk a1 (-1099511627776) 1099511627776)])
  cases h1:(!(nS a1 (-1099511627776) 1099511627776)) with
  | true =>
   have e:=Eq.refl (fW a0 a1);conv at e=>rhs;simp only [fW,h0,h1,aH]
   rw [e]
   exact rt (t1++[.d h1]) [] [] hcx (by kernel_rfl)
  | false =>
   let t2:List (St Tryz.prog):=(t1++[.d h1])
   cases h2:(decide ((a1:Int) < 0)) with
   | true =>
    have q2:=bY h2
    have e:=Eq.refl (fW a0 a1);conv at e=>rhs;simp only [fW,h0,h1,h2,aH]
    rw [e]
    exact rt (t2++[.d h2,.c [] (aUu a0.2 a1),.c [] (aUu a0.1 a1),.c [] (aDs (jP a0.2 a1) (jP a0.1 a1))]) [] [] hcx (by kernel_rfl)
   | false =>
    have q2:=cF h2
    have e:=Eq.refl (fW a0 a1);conv at e=>rhs;simp only [fW,h0,h1,h2,aH]
    rw [e]
    exact rt (t2++[.d h2,.c [] (aUu a0.1 a1),.c [] (aUu a0.2 a1),.c [] (aDs (jP a0.1 a1) (jP a0.2 a1))]) [] [] hcx (by kernel_rfl)
theorem vQ (n:Int):IntKind.wrap .u64 n=n % 18446744073709551616:=by
 simp [IntKind.wrap,IntKind.bits,IntKind.signed]
theorem aYd (a:Int):Int.fdiv a (2 ^ (min (toNat 32) 64))=a / 4294967296:=by
 rw [show(2:Int) ^ (min (toNat 32) 64)=4294967296 from by kernel_rfl]
 exact Int.fdiv_eq_ediv_of_nonneg _ (by omega)
theorem bBm (a:Int):((BitVec.ofInt 64 a &&& BitVec.ofInt 64 4294967295).toNat:Int)=a % 4294967296:=by
 rw [BitVec.toNat_and,show(BitVec.ofInt 64 4294967295).toNat=2 ^ 32 - 1 from by kernel_rfl,Nat.and_two_pow_sub_one_eq_mod,BitVec.toNat_ofInt]
 have h0:=Int.emod_nonneg a (show(18446744073709551616:Int)≠0 by omega)
 rw [show((2 ^ 64:Nat):Int)=18446744073709551616 from by kernel_rfl]
 have h1:(((a % 18446744073709551616).toNat:Nat):Int)=a % 18446744073709551616:=Int.toNat_of_nonneg h0
 rw [Int.natCast_emod,h1]
 show a % 18446744073709551616 % 4294967296=_
 omega
theorem aQr {x y:Int} (hx:0≤x∧x≤1099511627776)(hy:0≤y∧y≤1099511627776):fQ x y=(x*y / 18446744073709551616,x*y % 18446744073709551616):=by
 unfold fQ
 simp only [vQ,aYd,bBm]
 have e0:∀n:Int,n % 4294967296 % 18446744073709551616=n % 4294967296:=fun n=>by omega
 simp only [e0]
 have key:x*y=(x / 4294967296*(y / 4294967296))*18446744073709551616+(x / 4294967296*(y % 4294967296)+x % 4294967296*(y / 4294967296))*4294967296+x % 4294967296*(y % 4294967296):=by
   have h1:=Int.mul_ediv_add_emod x 4294967296
   have h2:=Int.mul_ediv_add_emod y 4294967296
   generalize x / 4294967296=x1 at *
   generalize x % 4294967296=x0 at *
   generalize y / 4294967296=y1 at *
   generalize y % 4294967296=y0 at *
   subst h1;subst h2;grind
 have b1:=bD (a:=256) (b:=256) (x:=x / 4294967296) (y:=y / 4294967296) (by omega) (by omega)
 have b2:=bD (a:=256) (b:=4294967295) (x:=x / 4294967296) (y:=y % 4294967296) (by omega) (by omega)
 have b3:=bD (a:=4294967295) (b:=256) (x:=x % 4294967296) (y:=y / 4294967296) (by omega) (by omega)
 have b4:=bD (a:=4294967295) (b:=4294967295) (x:=x % 4294967296) (y:=y % 4294967296) (by omega) (by omega)
 have n1:0≤x / 4294967296*(y / 4294967296):=Int.mul_nonneg (by omega) (by omega)
 have n2:0≤x / 4294967296*(y % 4294967296):=Int.mul_nonneg (by omega) (by omega)
 have n3:0≤x % 4294967296*(y / 4294967296):=Int.mul_nonneg (by omega) (by omega)
 have n4:0≤x % 4294967296*(y % 4294967296):=Int.mul_nonneg (by omega) (by omega)
 generalize x*y=m at *
 generalize x / 4294967296*(y / 4294967296)=d at *
 generalize x / 4294967296*(y % 4294967296)=b at *
 generalize x % 4294967296*(y / 4294967296)=c at *
 generalize x % 4294967296*(y % 4294967296)=a at *
 rw [Prod.mk.injEq]
 exact⟨by omega,rfl⟩
def mB (x n:Int):Int:=if 1099511627776 < x*n then 1099511627777 else if x*n < -1099511627776 then -1099511627777 else x*n
theorem aQs (x n:Int):(x*n=(if x < 0 then 0 - x else x)*(if n < 0 then 0 - n else n)∧((x < 0)=(n < 0)))∨(x*n=-((if x < 0 then 0 - x else x)*(if n < 0 then 0 - n else n))∧¬((x < 0)=(n < 0))):=by
 by_cases h1:x < 0
 · by_cases h2:n < 0
   · left;rw [if_pos h1,if_pos h2];exact⟨by grind,by simp [h1,h2]⟩
   · right;rw [if_pos h1,if_neg h2];exact⟨by grind,by simp [h1,h2]⟩
 · by_cases h2:n < 0
   · right;rw [if_neg h1,if_pos h2];exact⟨by grind,by simp [h1,h2]⟩
   · left;rw [if_neg h1,if_neg h2];exact⟨by grind,by simp [h1,h2]⟩
theorem aQt {x n:Int} (hx:-1099511627776≤x∧x≤1099511627776)(hn:-1099511627776≤n∧n≤1099511627776):jP x n=mB x n:=by
 have hsz:∀z:Int,-1099511627776≤z∧z≤1099511627776→nF z=if z < 0 then 0 - z else z:=by
   intro z hz
   unfold nF
   by_cases h:z < 0
   · rw [bW h,cond_true,if_pos h,aD (by omega) (by omega),vQ];omega
   · rw [cK h,cond_false,if_neg h,vQ];omega
 unfold jP mB
 rw [hsz x hx,hsz n hn,aQr (by split<;>omega) (by split<;>omega)]
 have hm:=aQs x n
 have hnn:0≤(if x < 0 then 0 - x else x)*(if n < 0 then 0 - n else n):=Int.mul_nonneg (by split<;>omega) (by split<;>omega)
 generalize (if x < 0 then 0 - x else x)*(if n < 0 then 0 - n else n)=m at *
 have e:(!(decide (x < 0) == decide (n < 0)))=decide (x*n=-m∧¬((x < 0)=(n < 0))):=by
   by_cases h1:x < 0<;>by_cases h2:n < 0<;>simp [h1,h2] at hm ⊢<;>omega
 rw [e]
 simp only
 by_cases h1:m / 18446744073709551616=0
 · rw [beq_iff_eq.2 h1,cond_true]
   have h2:m % 18446744073709551616=m:=by omega
   rw [h2]
   by_cases h3:m≤1099511627776
   · rw [bW h3,cond_true,aD (n:=m) (by omega) (by omega),aD (n:=0 - m) (by omega) (by omega)]
     rcases hm with⟨q1,q2⟩ | ⟨q1,q2⟩
     · rw [cK (fun h=>h.2 q2),cond_false,q1,if_neg (by omega),if_neg (by omega)]
     · rw [bW ⟨q1,q2⟩,cond_true,q1,if_neg (by omega),if_neg (by omega)];omega
   · rw [cK h3,cond_false]
     rcases hm with⟨q1,q2⟩ | ⟨q1,q2⟩
     · rw [cK (fun h=>h.2 q2),cond_false,q1,if_pos (by omega)]
     · rw [bW ⟨q1,q2⟩,cond_true,q1,if_neg (by omega),if_pos (by omega)]
 · rw [beq_eq_false_iff_ne.2 h1,cond_false]
   rcases hm with⟨q1,q2⟩ | ⟨q1,q2⟩
   · rw [cK (fun h=>h.2 q2),cond_false,q1,if_pos (by omega)]
   · rw [bW ⟨q1,q2⟩,cond_true,q1,if_neg (by omega),if_pos (by omega)]
theorem aQu {x n:Int} (hx:-1099511627776≤x∧x≤1099511627776)(hn:-1099511627776≤n∧n≤1099511627776):pN x n=mB x n:=by
 have hm:=aQs x n
 have ha:∀z:Int,(-1099511627776≤z∧z≤1099511627776)→(if(z:Int) < (W (0 - z)) then(W (0 - z)) else z)=if z < 0 then 0 - z else z:=by
   intro z hz
   rw [aD (n:=0 - z) (by omega) (by omega)]
   (repeat' split)<;>omega
 unfold pN mB
 rw [ha x hx,ha n hn]
 by_cases hx0:x=0
 · subst hx0;simp [aD]
 by_cases hn0:n=0
 · subst hn0;simp [aD]
 rw [bne_iff_ne.2 hx0,bne_iff_ne.2 hn0,cond_true,cond_true]
 have a1:1≤(if x < 0 then 0 - x else x)∧(if x < 0 then 0 - x else x)≤1099511627776:=by split<;>omega
 have a2:1≤(if n < 0 then 0 - n else n)∧(if n < 0 then 0 - n else n)≤1099511627776:=by split<;>omega
 have e:(!(decide (x < 0) == decide (n < 0)))=decide (x*n=-((if x < 0 then 0 - x else x)*(if n < 0 then 0 - n else n))∧¬((x < 0)=(n < 0))):=by
   by_cases h1:x < 0<;>by_cases h2:n < 0<;>simp [h1,h2] at hm ⊢<;>omega
 rw [e]
 generalize (if x < 0 then 0 - x else x)=ax at *
 generalize (if n < 0 then 0 - n else n)=an at *
 rw [Int.tdiv_eq_ediv_of_nonneg (by omega)]
 obtain⟨d1,d2,d3⟩:=nE (N:=1099511627776) (n:=ax) (by omega) (by omega)
 have d4:=Int.mul_ediv_add_emod 1099511627776 ax
 have d5:=Int.emod_lt_of_pos 1099511627776 (show 0 < ax by omega)
 rw [aD (n:=1099511627776 / ax) (by omega) (by omega)]
 have hbig:an > 1099511627776 / ax↔1099511627776 < ax*an:=by
   constructor
   · intro h
     have:=Int.mul_le_mul_of_nonneg_left (show 1099511627776 / ax+1≤an by omega) (show 0≤ax by omega)
     rw [Int.mul_add,Int.mul_one] at this;omega
   · intro h
     rcases Int.lt_or_le (1099511627776 / ax) an with h' | h'
     · exact h'
     · have:=Int.mul_le_mul_of_nonneg_left h' (show 0≤ax by omega)
       rw [Int.mul_comm] at d3;omega
 by_cases hb:an > 1099511627776 / ax
 · rw [bW hb,cond_true]
   have:=hbig.1 hb
   rcases hm with⟨q1,q2⟩ | ⟨q1,q2⟩
   · rw [cK (fun h=>h.2 q2),cond_false,q1,if_pos (by omega)]
   · rw [bW ⟨q1,q2⟩,cond_true,q1,if_neg (by omega),if_pos (by omega)]
 · rw [cK hb,cond_false]
   have h1:ax*an≤1099511627776:=by
     rcases Int.lt_or_le 1099511627776 (ax*an) with h | h
     · exact absurd (hbig.2 h) hb
     · exact h
   have h2:0≤ax*an:=Int.mul_nonneg (by omega) (by omega)
   rcases hm with⟨q1,q2⟩ | ⟨q1,q2⟩<;>rw [q1,if_neg (by omega),if_neg (by omega)]<;>exact aD (by omega) (by omega)
theorem aB9 {x y n:Int} (h:x≤y)(hn:0≤n):mB x n≤mB y n:=by
 have:=Int.mul_le_mul_of_nonneg_right h hn
 unfold mB;(repeat' split)<;>omega
theorem aQv {x y n:Int} (h:x≤y)(hn:n≤0):mB y n≤mB x n:=by
 have:=Int.mul_le_mul_of_nonpos_right h hn
 unfold mB;(repeat' split)<;>omega
def scl (a:Int×Int)(n:Int):Int×Int:=if n < 0 then(mB a.2 n,mB a.1 n) else(mB a.1 n,mB a.2 n)
def vs (a:Int×Int):Prop:=-1099511627776≤a.1∧a.1≤a.2∧a.2≤1099511627776
theorem aGe {a:Int×Int} {n:Int} (ha:vs a)(hn:-1099511627776≤n∧n≤1099511627776):nW a n=qI (scl a n).1 (scl a n).2:=by
 obtain⟨h1,h2,h3⟩:=ha
 unfold nW kD F46
 rw [vN (a:=a.1) (b:=a.2) h1 h2 h3,bW (show n≥-1099511627776 from hn.1),bW hn.2,aQu (x:=a.1) (by omega) hn,aQu (x:=a.2) (by omega) hn]
 show((qI _ _).1,(qI _ _).2)=_
 unfold scl
 by_cases h:n < 0
 · have:=aQv h2 (show n≤0 by omega)
   rw [if_pos h]
   simp only
   rw [show(if(mB a.2 n:Int) < mB a.1 n then mB a.2 n else mB a.1 n)=mB a.2 n by split<;>omega,show(if(mB a.1 n:Int) < mB a.2 n then mB a.2 n else mB a.1 n)=mB a.1 n by split<;>omega]
 · have:=aB9 h2 (show 0≤n by omega)
   rw [if_neg h]
   simp only
   rw [show(if(mB a.2 n:Int) < mB a.1 n then mB a.2 n else mB a.1 n)=mB a.1 n by split<;>omega,show(if(mB a.1 n:Int) < mB a.2 n then mB a.2 n else mB a.1 n)=mB a.2 n by split<;>omega]
theorem bBn {a b:Int} (h1:-1099511627776≤a)(h2:a≤b)(h3:b≤1099511627776):F51 (a,b)=true:=vN h1 h2 h3
theorem aM2 (a b:Int):iQ a b=qI a b:=rfl
theorem aUv {a:Int×Int} {n:Int} (ha:vs a)(hn:-1099511627776≤n∧n≤1099511627776):fW a n=qI (scl a n).1 (scl a n).2:=by
 obtain⟨h1,h2,h3⟩:=ha
 unfold fW
 rw [bBn (a:=a.1) (b:=a.2) h1 h2 h3,tJ,bW hn,aQt (x:=a.1) (by omega) hn,aQt (x:=a.2) (by omega) hn,aM2,aM2]
 unfold scl
 by_cases h:n < 0
 · rw [if_pos h,bW h];rfl
 · rw [if_neg h,cK h];rfl
theorem rH (a b:Int):(qI a b=((a,b),0)∧vs (a,b))∨qI a b=((0,0),4):=by
 by_cases h:vs (a,b)
 · exact Or.inl ⟨aB5 h.1 h.2.1 h.2.2,h⟩
 · right
   unfold qI
   have:pG (a,b)=false:=by
     unfold pG
     by_cases h1:(a,b).1≥-1099511627776
     · by_cases h2:(a,b).1≤(a,b).2
       · rw [bW h1,bW h2,cond_true,cond_true];exact cK (fun h3=>h ⟨h1,h2,h3⟩)
       · rw [bW h1,cK h2];rfl
     · rw [cK h1];rfl
   rw [this];rfl
def ht (p:PN)(x:P3):Int:=dt (sb p.1 x) (cr (sb p.2.1 x) (sb p.2.2 x))
def ad (p q:P3):P3:=(p.1+q.1,p.2.1+q.2.1,p.2.2+q.2.2)
theorem aUw {c y:PN} (h:bdP 100000 c)(hy:y∈aB1 c):∃a1 b1 a2 b2 a3 b3:P3,(a1=c.1∨a1=c.2.1∨a1=c.2.2)∧(b1=c.1∨b1=c.2.1∨b1=c.2.2)∧(a2=c.1∨a2=c.2.1∨a2=c.2.2)∧(b2=c.1∨b2=c.2.1∨b2=c.2.2)∧(a3=c.1∨a3=c.2.1∨a3=c.2.2)∧(b3=c.1∨b3=c.2.1∨b3=c.2.2)∧y=(ad a1 b1,ad a2 b2,ad a3 b3):=by
 unfold aB1 q1 q2 q3 q4 at hy
 rw [pH h.1 h.2.1,pH h.2.2 h.1,pH h.2.1 h.2.2,gT h.1,gT h.2.1,gT h.2.2] at hy
 have e:∀p:P3,(2*p.1,2*p.2.1,2*p.2.2)=ad p p:=fun p=>by unfold ad;simp only [Prod.mk.injEq];omega
 rw [e,e,e] at hy
 simp only [List.mem_cons,List.mem_nil_iff,or_false] at hy
 rcases hy with rfl | rfl | rfl | rfl
 · exact⟨c.1,c.1,c.1,c.2.1,c.2.2,c.1,by simp,by simp,by simp,by simp,by simp,by simp,rfl⟩
 · exact⟨c.1,c.2.1,c.2.1,c.2.1,c.2.1,c.2.2,by simp,by simp,by simp,by simp,by simp,by simp,rfl⟩
 · exact⟨c.2.2,c.1,c.2.1,c.2.2,c.2.2,c.2.2,by simp,by simp,by simp,by simp,by simp,by simp,rfl⟩
 · exact⟨c.1,c.2.1,c.2.1,c.2.2,c.2.2,c.1,by simp,by simp,by simp,by simp,by simp,by simp,rfl⟩
theorem in3 {c:PN} {a:P3} (h:a=c.1∨a=c.2.1∨a=c.2.2):(oN c).1≤a.1∧a.1≤(oO c).1∧(oN c).2.1≤a.2.1∧a.2.1≤(oO c).2.1∧(oN c).2.2≤a.2.2∧a.2.2≤(oO c).2.2:=by
 have l1:=lW c.1.1 c.2.1.1 c.2.2.1;have l2:=lW c.1.2.1 c.2.1.2.1 c.2.2.2.1;have l3:=lW c.1.2.2 c.2.1.2.2 c.2.2.2.2
 have m1:=lX c.1.1 c.2.1.1 c.2.2.1;have m2:=lX c.1.2.1 c.2.1.2.1 c.2.2.2.1;have m3:=lX c.1.2.2 c.2.1.2.2 c.2.2.2.2
 unfold oN oO
 rcases h with rfl | rfl | rfl
 · exact⟨l1.1,m1.1,l2.1,m2.1,l3.1,m3.1⟩
 · exact⟨l1.2.1,m1.2.1,l2.2.1,m2.2.1,l3.2.1,m3.2.1⟩
 · exact⟨l1.2.2,m1.2.2,l2.2.2,m2.2.2,l3.2.2,m3.2.2⟩
theorem aKr {N n:Int} (hN:1≤N∧N≤288230376151711744)(hn:1≤n):1≤(inv N n).2∧N≤(inv N n).2*(inv N n).2*n∧((inv N n).2 - 1)*((inv N n).2 - 1)*n < N:=by
 obtain⟨k,hk,hr,k0,k1,k2,k3,k4,k5⟩:=lH (N:=N) ⟨by omega,hN.2⟩ hn
 have h:=hr.2.2
 have hm:=Int.mul_ediv_add_emod N n
 have hm1:=Int.emod_lt_of_pos N (show 0 < n by omega)
 have h2:N < (k+1)*(k+1)*n:=by
   have:=Int.mul_le_mul_of_nonneg_right (show N / n+1≤(k+1)*(k+1) by omega) (show 0≤n by omega)
   rw [Int.add_mul,Int.one_mul,Int.mul_comm (N / n) n] at this;omega
 unfold inv
 rw [hk]
 simp only
 split
 · rename_i he
   have h1:1≤k:=by
     rcases Int.lt_or_le k 1 with h | h
     · have:k=0:=by omega
       subst this;simp at he;omega
     · exact h
   refine⟨h1,by omega,?_⟩
   have e:(k - 1)*(k - 1)≤k*k - 1:=by
     have e1:(k - 1)*(k - 1)=k*k - 2*k+1:=by grind
     omega
   have e2:=Int.mul_le_mul_of_nonneg_right e (show 0≤n by omega)
   rw [show(k*k - 1)*n=k*k*n - n by rw [Int.sub_mul,Int.one_mul]] at e2;omega
 · rename_i he
   refine⟨by omega,by omega,?_⟩
   rw [show k+1 - 1=k by omega];omega
theorem aIv {N n m:Int} (hN:1≤N∧N≤288230376151711744)(hn:1≤n)(hm:n≤m):(inv N m).2≤(inv N n).2:=by
 obtain⟨a1,a2,a3⟩:=aKr hN hn
 obtain⟨b1,b2,b3⟩:=aKr hN (show 1≤m by omega)
 rcases Int.lt_or_le (inv N n).2 (inv N m).2 with h | h
 · exfalso
   have e:=Int.mul_le_mul (Int.mul_le_mul (show(inv N n).2≤(inv N m).2 - 1 by omega) (show(inv N n).2≤(inv N m).2 - 1 by omega) (by omega) (by omega)) hm (by omega) (Int.mul_nonneg (by omega) (by omega))
   omega
 · exact h
theorem bBo (p:PN) {d:Int} (h:0≤d∧d≤3):(aR (toNat d) p).length≤64:=by
 have h1:=mM h p;have h2:=kP d;omega
theorem aQw {p q:PN} {d:Int} (h:mD p q d=0):0≤d∧d≤3:=xH (p:=p) (q:=q) (by rw [h];rfl)
theorem aYe {p q:PN} {d:Int} (h:mD p q d=0):W (128*sB (cC (lF p) (lF p)))≠0:=aEn (p:=p) (q:=q) (by rw [h];rfl)
noncomputable def bEs:Code:=match (dW [1,1,1,0,1,0] [] (Tryz.f61.body.getD .skip)).1 with
 | .rangeFunc _ _ a b=>a
 | _=>.skip
noncomputable def bEt:Code:=match (dW [1,1,1,0,1,0] [] (Tryz.f61.body.getD .skip)).1 with
 | .rangeFunc _ _ a b=>b
 | _=>.skip
noncomputable def bEu:List K:=(dW [1,1,1,0,1,0] [] (Tryz.f61.body.getD .skip)).2
def aYf (a0:Zt×Zt×Zt)(a1:Zt×Zt×Zt)(a2:Int):List (Int×Int)→LS
 | v1=>⟨[.u,.u,.u,(.p 0 0),.u,(.p 1 0),(.p 2 0),.u,.u,(.p 3 0),.u,.u,.u,.u,.u,.u,.u,.u,.u,.u,.u,(.f 123 [(.p 4 0),(.p 5 0)]),.u,.u,.u,.u,.u,.u,.u,.u,.u,.u,.u,.u],[(.live true false (k9 a0)),(.live true false [(iv a2)]),(.live true false [(iv 0),(iv 0)]),(.live true false [(.s 6 0 v1.length 2)]),(.live true false (k9 a1)),(.live true false [(iv a2)]),(.live true true (flat cQ v1))]⟩
def bBp (a0:Zt×Zt×Zt)(a1:Zt×Zt×Zt)(a2:Int):List (Int×Int)→Zt×Zt×Zt→LS
 | v1,x=>⟨[.u,.u,.u,(.p 0 0),.u,(.p 1 0),.u,.u,.u,(.p 3 0),(.p 6 0),.u,.u,.u,.u,.u,.u,.u,.u,.u,.u,.u,.u,.u,.u,.u,.u,.u,.u,.u,.u,.u,.u,.u],[(.live true false (k9 a0)),(.live true false [(iv a2)]),(.live true false [(iv 0),(iv 0)]),(.live true false [(.s 7 0 v1.length 2)]),(.live true false (k9 a1)),(.live true false [(iv a2)]),(.live true false (k9 x)),(.live true true (flat cQ v1))]⟩
def aEp (a0:Zt×Zt×Zt)(a1:Zt×Zt×Zt)(a2:Int):List (Int×Int)→Zt×Zt×Zt→List (Int×Int)
 | v1,x =>
  (v1++[(F92 a0 x a2)])
def G61 (a0:Zt×Zt×Zt)(a1:Zt×Zt×Zt)(a2:Int):List (Int×Int)→(Int×Int)×Int
 | v1 =>
  ((iN v1).1,(iN v1).2)
def aIw (a0:Zt×Zt×Zt)(a1:Zt×Zt×Zt)(a2:Int):Nat→List (Int×Int)→Prop
 | i,v1=>(v1.length=i)
def pQ (a0:Zt×Zt×Zt)(a1:Zt×Zt×Zt)(a2:Int):(Int×Int)×Int :=
 (bif (((xA a0 a1 a2):Int) != 0) then
  ((0,0),(xA a0 a1 a2))
 else
  (G61 a0 a1 a2 ((aR (toNat a2) a1).foldl (aEp a0 a1 a2) ([]:List (Int×Int)))))
theorem C61 (a0:Zt×Zt×Zt)(a1:Zt×Zt×Zt)(a2:Int):Con Tryz.prog 61 [(.a (k9 a0)),(.a (k9 a1)),(iv a2)] [] (.t [(.a (k2 (pQ a0 a1 a2).1)),(iv (pQ a0 a1 a2).2)]) []:=by
 cases h0:(((xA a0 a1 a2):Int) != 0) with
 | true =>
   have q0:=bne_iff_ne.1 h0
   have e:(pQ a0 a1 a2)=((0,0),(xA a0 a1 a2)):=by simp only [pQ,h0,aH]
   rw [e]
   refine qA (n:=9) Tryz.func61 rfl (ent Tryz.func61 (by kernel_rfl) rfl) (by show 3≤Tryz.f61.ntmps;decide) (by kernel_rfl) trivial (fun cx hcx=>?_)
   exact aUf (T:=T0) hT hm (f:=5000) (orc:=[.call [] (iv (xA a0 a1 a2)) [],.d true]) [] [] [] hcx
     (obs:=[.call 91 [(.a (k9 a0)),(.a (k9 a1)),(iv a2)] [] (iv (xA a0 a1 a2)) [],.eq (((xA a0 a1 a2):Int) != 0) true]) (by kernel_rfl) ⟨(C91 a0 a1 a2),h0,trivial⟩
 | false =>
   have q0:=bne_eq_false_iff_eq.1 h0
   have e:(pQ a0 a1 a2)=(G61 a0 a1 a2 ((aR (toNat a2) a1).foldl (aEp a0 a1 a2) ([]:List (Int×Int)))):=by simp only [pQ,h0,aH]
   rw [e]
   refine qA (n:=9) Tryz.func61 rfl (ent Tryz.func61 (by kernel_rfl) rfl) (by show 3≤Tryz.f61.ntmps;decide) (by kernel_rfl) trivial (fun cx hcx=>?_)
   refine uW (T:=T0) hT hm (f:=5000) (orc:=[.call [] (iv (xA a0 a1 a2)) [],.d false,.call [] (.f 123 [(.p 0 0),(.p 1 0)]) [(.live true false (k9 a1)),(.live true false [(iv a2)])]]) [.cell 4 0 2] [3,5,6,9,21] [0,2,3,4,5,6,7] hcx (x:=.rangeFunc (.tmp 21) #[22] bEs bEt) (k':=bEu) (s':=aYf a0 a1 a2 ([]:List (Int×Int)))
     (obs:=[.call 91 [(.a (k9 a0)),(.a (k9 a1)),(iv a2)] [] (iv (xA a0 a1 a2)) [],.eq (((xA a0 a1 a2):Int) != 0) false,.call 94 [(.a (k9 a1)),(iv a2)] [] (.f 123 [(.p 0 0),(.p 1 0)]) [(.live true false (k9 a1)),(.live true false [(iv a2)])]]) (by kernel_rfl) ⟨(C91 a0 a1 a2),h0,(C94 a1 a2),trivial⟩ ?_
   refine aIo (xs:=aR (toNat a2) a1) (enc:=aDq) (V:=List (Int×Int)) (R':=Empty) hcx rfl (by decide) [4,5] [(.p 0 0),(.p 1 0)] [(.live false false (k9 a1)),(.live false false [(iv a2)])] rfl rfl (aEj a1 a2 (by first | omega | exact pair_le h0)) (fun x=>SV.a (cP x)) aBn aPs 6 (Nb rfl) (bY (by kernel_rfl))
     (aYf a0 a1 a2) ([]:List (Int×Int)) rfl (fun v1=>(by kernel_rfl)) (by kernel_rfl) (fun v v'=>(cX (cX (cX (cX (cX (cX (cX aEe)))))))) (fun v1=>(by kernel_rfl)) (fun v1=>(by kernel_rfl)) (fun v1=>(Nat.le_of_ble_eq_true (by kernel_rfl)))
     (fun v x=>.inl (aEp a0 a1 a2 v x)) (fun r=>r.elim) (fun v r=>r.elim) (fun r=>r.elim)
     (aIw a0 a1 a2) (by simp [aIw]) (bBp a0 a1 a2) (fun v1 x=>(by kernel_rfl)) (fun v1 x=>(by kernel_rfl)) (fun v1 x=>(Nat.le_of_ble_eq_true (by kernel_rfl)))
     (fun cx' l i v1 x QA hcx' hx hinv hg=>uX (T:=T0) hT hm (f:=5000) (orc:=[]) [] [3,5,9,10] [7,6] hcx' (obs:=[]) (by kernel_rfl) trivial hg)
     (fun cx' l i v1 x QB hcx' hx hinv hb1 hb2=>?_) (fun cx' d v1 hh hv hinv=>?_) (fun cx' d r hh hv=>?_)
   · show Aw.Good _ _ _ _ _ _ _ (bBp a0 a1 a2 v1 x)
     simp only [aIw] at hinv
     have ha:=pair_le h0
     have hlt:=aXb ha hx
     have e:(Sum.inl (aEp a0 a1 a2 v1 x):(List (Int×Int))⊕Empty)=.inl (v1++[(F92 a0 x a2)]):=by simp only [aEp]
     refine uX (T:=T0) hT hm (f:=5000) (orc:=[.call [] (.a (k2 (F92 a0 x a2))) []]) [] [] [9] hcx' (s':=⟨List.replicate 34 .u,[(.live true false (k9 a0)),(.live true false [(iv a2)]),(.live true false [(iv 0),(iv 0)]),(.live true false [(.s 6 0 (v1.length+1) 2)]),(.live true false (k9 a1)),(.live true false [(iv a2)]),(.live true true (flat cQ v1++(k2 (F92 a0 x a2))))]⟩)
       (obs:=[.call 92 [(.a (k9 a0)),(.a (k9 x)),(iv a2)] [] (.a (k2 (F92 a0 x a2))) [],.pr ((flat cQ v1).length=v1.length*2∧v1.length+1≤2 ^ 40∧(v1.length+1)*16≤2 ^ 47)]) (by kernel_rfl) ⟨(C92 a0 x a2  (aMx h0) (pair_le h0)),(show((flat cQ v1).length=v1.length*2∧v1.length+1≤2 ^ 40∧(v1.length+1)*16≤2 ^ 47) from gG cA (by omega) (by omega)),trivial⟩ ?_
     have z0:(flat cQ v1++(k2 (F92 a0 x a2)))=(flat cQ (v1++[(F92 a0 x a2)])):=(bN (c:=cQ) (l:=v1) (m:=[(F92 a0 x a2)])).symm
     have z1:(v1.length+1)=(v1++[(F92 a0 x a2)]).length:=eH v1 [(F92 a0 x a2)] rfl
     rw [z0,z1]
     exact hb1 _ e (by simp only [aIw,List.length_append,List.length_cons,List.length_nil];omega)
   · rw [tE,Sum.inl.injEq] at hv;rw [hv]
     show Aw.Good _ _ _ _ _ _ _ (aYf a0 a1 a2 v1)
     simp only [aIw] at hinv
     have hcl:=bBo a1 (pair_le h0)
     have e:G61 a0 a1 a2 v1=((iN v1).1,(iN v1).2):=by simp only [G61]
     rw [e]
     exact aMn (T:=T0) hT hm (f:=5000) (orc:=[.call [6] (.t [(.a (k2 (iN v1).1)),(iv (iN v1).2)]) []]) [] [] [] hh hcx
       (obs:=[.call 95 [(.s 0 0 v1.length 2)] [(.live false true (flat cQ v1))] (.t [(.a (k2 (iN v1).1)),(iv (iN v1).2)]) []]) (by kernel_rfl) ⟨(bAm v1 (by omega)),trivial⟩
   · exact r.elim
noncomputable def aKs:Code:=(aE [1,1,1,1,0,1] [] (aG Tryz.f138) []).1
noncomputable def aKt:List K:=(aE [1,1,1,1,0,1] [] (aG Tryz.f138) []).2
def aGf (a0:Zt×Zt×Zt)(a1:Zt×Zt×Zt)(a2:Int)(v2c:List SV)(v2n:Nat)(v3:Int):LS:=⟨iH 43 [(2,(iv a2)),(3,(.p 0 0)),(6,(.p 1 0)),(9,(.s 2 0 v2n 2)),(10,(.s 3 0 (cE a1 a2).length 9)),(11,(iv v3))],[(.live true false (k9 a0)),(.live true false [(iv 0),(iv 0)]),(.live true true v2c),(.live true true (flat dK (cE a1 a2)))]⟩
def kQ (a0:Zt×Zt×Zt)(a1:Zt×Zt×Zt)(a2:Int):(List (Int×Int))×Int→((List (Int×Int))×Int)⊕((Int×Int)×Int)
 | (v2,v3) =>
  (bif (decide ((v3:Int) < (((cE a1 a2).length:Nat):Int))) then
   (.inl ((v2++[(vI a0 a2 ((cE a1 a2).getD (toNat v3) default))]),(v3+1)))
  else
   (.inr ((jN v2).1,(jN v2).2)))
theorem aYg (a0:Zt×Zt×Zt)(a1:Zt×Zt×Zt)(a2:Int) {cx:Cx} (hcx:cx.base=0):∀(n:Nat)(v2:List (Int×Int))(v3:Int),(0≤v3)∧(mD a0 a1 a2=0)∧(v2.length=toNat v3)∧(v3≤(cE a1 a2).length)→toNat ((((cE a1 a2).length:Nat):Int) - v3) < n→Aw.Good Tryz.prog none 9 (bodyPost Tryz.prog Tryz.f138 (RR cx (.t [(.a (k2 (aB (kQ a0 a1 a2) n (v2,v3)).1)),(iv (aB (kQ a0 a1 a2) n (v2,v3)).2)]) [] [])) cx [] (.l aKs n::aKt) (aGf a0 a1 a2 (flat cQ v2) v2.length v3):=by
 intro n
 induction n with
 | zero=>intro v2 v3 hi hn;exact absurd hn (iG _)
 | succ n ih =>
   intro v2 v3 hi hn
   refine aI ?_
   have hcl:=aQd (p:=a1) (aQw (p:=a0) (q:=a1) (d:=a2) (by omega))
   cases h0:(decide ((v3:Int) < (((cE a1 a2).length:Nat):Int))) with
   | true =>
    have q0:=bY h0
    have e:=Eq.refl (kQ a0 a1 a2 (v2,v3));conv at e=>rhs;simp only [kQ,h0,aH]
    rw [aA e]
    refine ba [.d h0,.i v3 ((cE a1 a2).length),.L cV (cE a1 a2) v3 0 9,.c [] (bAy a0 a2 ((cE a1 a2).getD (toNat v3) default)  (aQw (p:=a0) (q:=a1) (d:=a2) (by omega)) (aYe (p:=a0) (q:=a1) (d:=a2) (by omega))),.p (show((flat cQ v2).length=v2.length*2∧v2.length+1≤2 ^ 40∧(v2.length+1)*16≤2 ^ 47) from gG cA (by omega) (by omega))] [] [2,3,6,9,10,11] [0,1,5,3] hcx (m:=n) aKs (aKt) (aGf a0 a1 a2 (flat cQ v2++(k2 (vI a0 a2 ((cE a1 a2).getD (toNat v3) default)))) (v2.length+1) (W (v3+1))) (by kernel_rfl) ?_
    have z0:(W (v3+1))=(v3+1):=aD (by omega) (by omega)
    have z1:(flat cQ v2++(k2 (vI a0 a2 ((cE a1 a2).getD (toNat v3) default))))=(flat cQ (v2++[(vI a0 a2 ((cE a1 a2).getD (toNat v3) default))])):=(bN (c:=cQ) (l:=v2) (m:=[(vI a0 a2 ((cE a1 a2).getD (toNat v3) default))])).symm
    have z2:(v2.length+1)=(v2++[(vI a0 a2 ((cE a1 a2).getD (toNat v3) default))]).length:=eH v2 [(vI a0 a2 ((cE a1 a2).getD (toNat v3) default))] rfl
    rw [z0,z1,z2]
    exact ih (v2++[(vI a0 a2 ((cE a1 a2).getD (toNat v3) default))]) (v3+1) (by refine⟨?_,?_,?_,?_⟩<;>(try simp only [Ls])<;>first | omega | assumption | simp) (by(try simp only [Ls]);omega)
   | false =>
    have q0:=cF h0
    have e:=Eq.refl (kQ a0 a1 a2 (v2,v3));conv at e=>rhs;simp only [kQ,h0,aH]
    rw [aF,e]
    exact rt [.d h0,.c [2] (aXr v2 (by omega))] [] [] hcx (by kernel_rfl)
def kX (a0:Zt×Zt×Zt)(a1:Zt×Zt×Zt)(a2:Int):(Int×Int)×Int :=
 (bif (((mD a0 a1 a2):Int) != 0) then
  ((0,0),(mD a0 a1 a2))
 else
  (aB (kQ a0 a1 a2) (toNat ((((cE a1 a2).length:Nat):Int) - 0)+1) (([]:List (Int×Int)),0)))
theorem bEv (a0:Zt×Zt×Zt)(a1:Zt×Zt×Zt)(a2:Int):Con Tryz.prog 138 [(.a (k9 a0)),(.a (k9 a1)),(iv a2)] [] (.t [(.a (k2 (kX a0 a1 a2).1)),(iv (kX a0 a1 a2).2)]) []:=by
 refine aJ Tryz.func138 (by kernel_rfl) fun cx hcx=>?_
 let t0:List (St Tryz.prog):=[.c [] (bAr a0 a1 a2)]
 cases h0:(((mD a0 a1 a2):Int) != 0) with
 | true =>
  have q0:=bne_iff_ne.1 h0
  have e:=Eq.refl (kX a0 a1 a2);conv at e=>rhs;simp only [kX,h0,aH]
  rw [e]
  exact rt (t0++[.d h0]) [] [] hcx (by kernel_rfl)
 | false =>
  have q0:=bne_eq_false_iff_eq.1 h0
  have e:=Eq.refl (kX a0 a1 a2);conv at e=>rhs;simp only [kX,h0,aH]
  rw [e]
  refine en (t0++[.d h0,.c [] (bAs a1 a2  (xH h0))]) [.slot 9 2] [2,3,6,9,10,11] [0,2,4,3] hcx aKs (aKt) (aGf a0 a1 a2 (flat cQ ([]:List (Int×Int))) 0 0) (toNat ((((cE a1 a2).length:Nat):Int) - 0)+1) (by kernel_rfl) ?_
  exact aYg a0 a1 a2 hcx (toNat ((((cE a1 a2).length:Nat):Int) - 0)+1) ([]:List (Int×Int)) 0 (by refine⟨?_,?_,?_,?_⟩<;>(try simp only [Ls])<;>first | omega | assumption | simp) (by(try simp only [Ls]);omega)
def iW:List (Int×Int)→Int×Int→Int×Int
 | [],v=>v
 | a::l,v=>iW l (v.1+a.1,v.2+a.2)
theorem rI:∀(l:List (Int×Int))(v:Int×Int),iW l v=(v.1+(l.map (·.1)).sum,v.2+(l.map (·.2)).sum)
 | [],v=>by simp [iW]
 | a::l,v=>by rw [iW,rI l];simp only [List.map_cons,List.sum_cons,Int.add_assoc]
def okE (a:Int×Int):Prop:=0≤a.1∧a.1≤a.2∧a.2≤536870913
theorem aGg:∀{l:List (Int×Int)} {v:Int×Int},(∀a∈l,okE a)→zX v l.length→zX (iW l v) 0
 | [],v,_,h=>h
 | a::l,v,hl,h=>aGg (l:=l) (fun c hc=>hl c (List.mem_cons_of_mem _ hc)) (vP h (hl a List.mem_cons_self))
theorem tM {R:Type} [Inhabited R] {S:Zt→Zt⊕R} {G:Int×Int→R} {L:List (Int×Int)} (hl:∀a∈L,okE a)
   (hS:∀(i:Nat) (a:Int×Int),L[i]? = some a→∀v1 v2:Int,S (v1,v2,(i:Int))=.inl (W (v1+a.1),W (v2+a.2),((i+1:Nat):Int)))
   (hE:∀v1 v2:Int,S (v1,v2,(L.length:Int))=.inr (G (v1,v2))) :
   ∀(l:List (Int×Int)) (i n:Nat) (v:Int×Int),L.drop i=l→i≤L.length→l.length < n→zX v l.length→aB S n (v.1,v.2,(i:Int))=G (iW l v)
 | [],i,n,v,hd,hi',hn,h=>by
   have:i=L.length:=by have:=List.drop_eq_nil_iff.1 hd;omega
   obtain⟨n,rfl⟩:∃m,n=m+1:=⟨n - 1,by simp only [List.length_nil] at hn;omega⟩
   subst this
   rw [aO (hE _ _)];rfl
 | c::l,i,n,v,hd,hi',hn,h=>by
   have hc:L[i]? = some c:=by
     have:(L.drop i)[0]? = some c:=by rw [hd];rfl
     simpa using this
   obtain⟨hlt,hce⟩:=List.getElem?_eq_some_iff.1 hc
   obtain⟨n,rfl⟩:∃m,n=m+1:=⟨n - 1,by omega⟩
   have h1:=vP h (hl c (hce▸List.getElem_mem hlt))
   have h2:=h1
   unfold zX at h2;simp only at h2
   rw [aA (hS i c hc v.1 v.2),aD (by omega) (by omega),aD (by omega) (by omega)]
   exact tM hl hS hE l (i+1) n _ (by rw [←List.drop_drop,hd];rfl) (by omega) (by simp only [List.length_cons] at hn;omega) h1
section
variable {l : List (Int × Int)}
theorem aM3 {a:Int×Int} (h:okE a):pG a=true:=vN (a:=a.1) (b:=a.2) (by have:=h.1;omega) h.2.1 (by have:=h.2.2;omega)
theorem aAm (hn:l.length≤64):zX (0,0) l.length:=by unfold zX;simp only;omega
theorem bEw (hl:∀a∈l,okE a):sN l=0:=by
 have key:∀(m:List (Int×Int)) (i n:Nat),l.drop i=m→i≤l.length→m.length < n→aB (eJ l) n (i:Int)=0:=by
   intro m
   induction m with
   | nil =>
     intro i n hd hi hn
     have:i=l.length:=by have:=List.drop_eq_nil_iff.1 hd;omega
     obtain⟨n,rfl⟩:∃m,n=m+1:=⟨n - 1,by simp only [List.length_nil] at hn;omega⟩
     subst this
     refine aO ?_
     simp only [eJ]
     rw [cK (Int.lt_irrefl _),cond_false]
   | cons c m ih =>
     intro i n hd hi hn
     have hc:l[i]? = some c:=by
       have:(l.drop i)[0]? = some c:=by rw [hd];rfl
       simpa using this
     obtain⟨hlt,hce⟩:=List.getElem?_eq_some_iff.1 hc
     obtain⟨n,rfl⟩:∃m,n=m+1:=⟨n - 1,by omega⟩
     have hg:l.getD i default=c:=by rw [fO,hc];rfl
     have e:eJ l (i:Int)=.inl ((i+1:Nat):Int):=by
       simp only [eJ]
       rw [bW (show((i:Nat):Int) < (l.length:Nat) by omega),cond_true,uJ,hg,aM3 (hl c (hce▸List.getElem_mem hlt))];rfl
     rw [aA e]
     exact ih (i+1) n (by rw [←List.drop_drop,hd];rfl) (by omega) (by simp only [List.length_cons] at hn;omega)
 unfold sN
 exact key l 0 _ rfl (Nat.zero_le _) (by omega)
theorem bBq (hl:∀a∈l,okE a)(hn:l.length≤64):cH l=((iW l (0,0)).1,(iW l (0,0)).2,0):=by
 unfold cH
 rw [cK (by omega),cond_false,bEw hl]
 show aB _ _ (((0,0):Int×Int).1,((0,0):Int×Int).2,((0:Nat):Int))=_
 refine tM (G:=fun v=>(v.1,v.2,0)) hl (fun i a hi v1 v2=>?_) (fun v1 v2=>?_) l 0 _ (0,0) rfl (Nat.zero_le _) (by omega) (aAm hn)
 · obtain⟨hlt,hce⟩:=List.getElem?_eq_some_iff.1 hi
   have hg:l.getD i default=a:=by rw [fO,hi];rfl
   simp only [gN]
   rw [bW (show((i:Nat):Int) < (l.length:Nat) by omega),cond_true,uJ,hg];rfl
 · simp only [gN]
   rw [cK (Int.lt_irrefl _),cond_false]
theorem bBr (hl:∀a∈l,okE a)(hn:l.length≤64):cM l=((iW l (0,0)).1,(iW l (0,0)).2,0):=by
 unfold cM
 rw [cK (by omega),cond_false]
 show aB _ _ (((0,0):Int×Int).1,((0,0):Int×Int).2,((0:Nat):Int))=_
 refine tM (G:=fun v=>(v.1,v.2,0)) hl (fun i a hi v1 v2=>?_) (fun v1 v2=>?_) l 0 _ (0,0) rfl (Nat.zero_le _) (by omega) (aAm hn)
 · obtain⟨hlt,hce⟩:=List.getElem?_eq_some_iff.1 hi
   have hg:l.getD i default=a:=by rw [fO,hi];rfl
   simp only [fI]
   rw [bW (show((i:Nat):Int) < (l.length:Nat) by omega),cond_true,uJ,hg,show F51 a=true from aM3 (hl a (hce▸List.getElem_mem hlt))];rfl
 · simp only [fI]
   rw [cK (Int.lt_irrefl _),cond_false]
theorem aQx {v:Int×Int} {n:Int} (hn:n=1∨n=4∨n=16∨n=64)(h:zX v 0):-1099511627776≤v.1 / n∧v.1 / n≤-(-v.2 / n)∧-(-v.2 / n)≤1099511627776:=by
 unfold zX at h;rcases hn with rfl | rfl | rfl | rfl<;>omega
theorem aUx (hl:∀a∈l,okE a) {n:Int} (hn:n=1∨n=4∨n=16∨n=64)(hk:(l.length:Int)=n):iN l=(avg (iW l (0,0)) n,0):=by
 have h64:l.length≤64:=by omega
 have ho:=aGg hl (aAm h64)
 have hb:=aQx hn ho
 unfold zX at ho
 unfold iN
 rw [bBq hl h64,hk,beq_eq_false_iff_ne.2 (show n≠0 by omega),aX7 hn (by simp only;omega),bBa hn (by simp only;omega),aB5 hb.1 hb.2.1 hb.2.2];rfl
theorem aUy (hl:∀a∈l,okE a) {n:Int} (hn:n=1∨n=4∨n=16∨n=64)(hk:(l.length:Int)=n):jN l=(avg (iW l (0,0)) n,0):=by
 have h64:l.length≤64:=by omega
 have ho:=aGg hl (aAm h64)
 have hb:=aQx hn ho
 unfold zX at ho
 unfold jN
 rw [bBr hl h64,hk,beq_eq_false_iff_ne.2 (show n≠0 by omega),aX8 hn (by simp only;omega),bBb hn (by simp only;omega),aQl hb.1 hb.2.1 hb.2.2];rfl
end
theorem vR (lo hi:PN→Int):∀(l:List PN)(v:Int×Int),aDv lo hi l v=(v.1+(l.map lo).sum,v.2+(l.map hi).sum)
 | [],v=>by simp [aDv]
 | a::l,v=>by rw [aDv,vR lo hi l];simp only [List.map_cons,List.sum_cons,Int.add_assoc]
theorem aQy {p q:PN} {d:Int} (hp:vp p=0)(hd:0≤d∧d≤3):okE (hG p q d):=by
 have hb:=aYc (q:=q) hp hd
 have hk:=aQn (p:=p) hd
 have ho:=aAl hb hk
 have hs:(aDv (bLo d q) (sD (bX p d) d q) (aR d.toNat p) (0,0)).2≤536870913*(sc d*sc d):=by
   rw [vR,←mM hd p]
   simp only [Int.zero_add]
   have key:∀l:List PN,(∀c∈l,sD (bX p d) d q c≤536870913)→(l.map (sD (bX p d) d q)).sum≤536870913*(l.length:Nat):=by
     intro l
     induction l with
     | nil=>intro _;simp
     | cons c l ih =>
       intro h
       have h1:=h c List.mem_cons_self;have h2:=ih (fun c hc=>h c (List.mem_cons_of_mem _ hc))
       simp only [List.map_cons,List.sum_cons,List.length_cons];omega
   exact key _ (fun c hc=>(hb c hc).2.2)
 unfold hG okE avg
 unfold zX at ho
 have hn:=kP d
 generalize aDv (bLo d q) (sD (bX p d) d q) (aR d.toNat p) (0,0)=v at *
 simp only
 rcases hn with h | h | h | h<;>rw [h] at hs ⊢<;>omega
theorem foldl_map {α β:Type} (g:α→β):∀(l:List α)(a:List β),l.foldl (fun v x=>v++[g x]) a=a++l.map g
 | [],a=>by simp
 | x::l,a=>by rw [List.foldl_cons,foldl_map g l];simp
noncomputable def tN (p q:PN)(d:Int):List (Int×Int):=(aR d.toNat q).map fun b=>hG p b d
noncomputable def aGh (p q:PN)(d:Int):(Int×Int)×Int:=if pk p q d=0 then(avg (iW (tN p q d) (0,0)) (sc d*sc d),0) else((0,0),pk p q d)
theorem aM4 {p q:PN} {d:Int} (hp:vp p=0)(hd:0≤d∧d≤3):∀a∈tN p q d,okE a:=by
 intro a ha
 obtain⟨b,_,rfl⟩:=List.mem_map.1 ha
 exact aQy hp hd
theorem aCa {p q:PN} {d:Int} (hd:0≤d∧d≤3):(((tN p q d).length:Nat):Int)=sc d*sc d:=by
 unfold tN;rw [List.length_map];exact mM hd q
theorem aCb (p q:PN)(d:Int):pQ p q d=aGh p q d:=by
 unfold pQ aGh
 rw [aAk]
 by_cases h:pk p q d=0
 · obtain⟨h1,h2,h3⟩:=vL h
   have hd:0≤d∧d≤3:=by omega
   rw [if_pos h,h]
   have e:(aR d.toNat q).foldl (aEp p q d) []=tN p q d:=by
     have:=foldl_map (fun b=>F92 p b d) (aR d.toNat q) []
     rw [List.nil_append] at this
     refine Eq.trans this ?_
     unfold tN
     exact List.map_congr_left (fun b hb=>aQq h1 ((oP (gE h2).1 hd hb).mono (by omega)) hd)
   rw [e]
   show(iN (tN p q d))=_
   exact aUx (aM4 h1 hd) (kP d) (aCa hd)
 · rw [if_neg h,bne_iff_ne.2 h,cond_true]
theorem aQz (p q:PN)(d:Int):kX p q d=aGh p q d:=by
 unfold kX aGh
 rw [rG]
 by_cases h:pk p q d=0
 · obtain⟨h1,h2,h3⟩:=vL h
   have hd:0≤d∧d≤3:=by omega
   have hL:=bAw (gE h2).1 hd
   rw [if_pos h,h]
   have key:∀(m:List PN) (i n:Nat) (v:List (Int×Int)),(aR d.toNat q).drop i=m→i≤(aR d.toNat q).length→m.length < n →
       aB (kQ p q d) n (v,(i:Int))=jN (v++m.map fun b=>hG p b d):=by
     intro m
     induction m with
     | nil =>
       intro i n v hdr hi hn
       have:i=(aR d.toNat q).length:=by have:=List.drop_eq_nil_iff.1 hdr;omega
       obtain⟨n,rfl⟩:∃m,n=m+1:=⟨n - 1,by simp only [List.length_nil] at hn;omega⟩
       subst this
       refine aO ?_
       simp only [kQ]
       rw [hL,cK (Int.lt_irrefl _),cond_false,List.map_nil,List.append_nil]
     | cons c m ih =>
       intro i n v hdr hi hn
       have hc:(aR d.toNat q)[i]? = some c:=by
         have:((aR d.toNat q).drop i)[0]? = some c:=by rw [hdr];rfl
         simpa using this
       obtain⟨hlt,hce⟩:=List.getElem?_eq_some_iff.1 hc
       have hm:c∈aR d.toNat q:=hce▸List.getElem_mem hlt
       obtain⟨n,rfl⟩:∃m,n=m+1:=⟨n - 1,by omega⟩
       have hg:(aR d.toNat q).getD i default=c:=by rw [fO,hc];rfl
       have e:kQ p q d (v,(i:Int))=.inl (v++[hG p c d],((i+1:Nat):Int)):=by
         simp only [kQ]
         rw [hL,bW (show((i:Nat):Int) < ((aR d.toNat q).length:Nat) by omega),cond_true,uJ,hg,aWi h1 ((oP (gE h2).1 hd hm).mono (by omega)) hd];rfl
       rw [aA e,ih (i+1) n _ (by rw [←List.drop_drop,hdr];rfl) (by omega) (by simp only [List.length_cons] at hn;omega)]
       simp only [List.map_cons,List.append_assoc,List.singleton_append]
   show aB (kQ p q d) _ ([],((0:Nat):Int))=_
   rw [key (aR d.toNat q) 0 _ [] rfl (Nat.zero_le _) (by rw [hL];omega),List.nil_append]
   exact aUy (aM4 h1 hd) (kP d) (aCa hd)
 · rw [if_neg h,bne_iff_ne.2 h,cond_true]
end Go.Proofs.YtaeagjnpobdglaaGreat
namespace Go.Proofs.YtaeagjnpobdglaaGreat
open Go.Proofs Go.Aw Go.RowKit
set_option maxRecDepth 100000
def sE (a0:Int):Int :=
 (if(a0:Int) < (W (0 - a0)) then(W (0 - a0)) else a0)
theorem aYh (a0:Int):Con Tryz.prog 139 [(iv a0)] [] (iv (sE a0)) []:=by
 refine aJ Tryz.func139 (by kernel_rfl) fun cx hcx=>?_
 have e:=Eq.refl (sE a0);conv at e=>rhs;simp only [sE]
 rw [e]
 exact rt [] [] [] hcx (by kernel_rfl)
def oQ (a0:Zt)(a1:Int):Bool :=
 (bif (decide (((sE a0.1):Int)≤a1)) then
  (bif (decide (((sE a0.2.1):Int)≤a1)) then
   (bif (decide (((sE a0.2.2):Int)≤a1)) then
    (bif (decide ((a0.1:Int)≥(W (0 - a1)))) then
     (bif (decide ((a0.2.1:Int)≥(W (0 - a1)))) then
      (decide ((a0.2.2:Int)≥(W (0 - a1))))
     else
      false)
    else
     false)
   else
    false)
  else
   false)
 else
  false)
theorem bEx (a0:Zt)(a1:Int):Con Tryz.prog 111 [(.a (k3 a0)),(iv a1)] [] (.v (.bool (oQ a0 a1))) []:=by
 refine aJ Tryz.func111 (by kernel_rfl) fun cx hcx=>?_
 let t0:List (St Tryz.prog):=[.c [] (aYh a0.1)]
 cases h0:(decide (((sE a0.1):Int)≤a1)) with
 | true =>
  have q0:=bY h0
  let t1:List (St Tryz.prog):=(t0++[.d h0,.c [] (aYh a0.2.1)])
  cases h1:(decide (((sE a0.2.1):Int)≤a1)) with
  | true =>
   have q1:=bY h1
   let t2:List (St Tryz.prog):=(t1++[.d h1,.c [] (aYh a0.2.2)])
   cases h2:(decide (((sE a0.2.2):Int)≤a1)) with
   | true =>
    have q2:=bY h2
    let t3:List (St Tryz.prog):=(t2++[.d h2])
    cases h3:(decide ((a0.1:Int)≥(W (0 - a1)))) with
    | true =>
     have q3:=bY h3
     let t4:List (St Tryz.prog):=(t3++[.d h3])
     cases h4:(decide ((a0.2.1:Int)≥(W (0 - a1)))) with
     | true =>
      have q4:=bY h4
      have e:=Eq.refl (oQ a0 a1);conv at e=>rhs;simp only [oQ,h0,h1,h2,h3,h4,aH]
      rw [e]
      exact rt (t4++[.d h4]) [] [] hcx (by kernel_rfl)
     | false =>
      have q4:=cF h4
      have e:=Eq.refl (oQ a0 a1);conv at e=>rhs;simp only [oQ,h0,h1,h2,h3,h4,aH]
      rw [e]
      exact rt (t4++[.d h4]) [] [] hcx (by kernel_rfl)
    | false =>
     have q3:=cF h3
     have e:=Eq.refl (oQ a0 a1);conv at e=>rhs;simp only [oQ,h0,h1,h2,h3,aH]
     rw [e]
     exact rt (t3++[.d h3]) [] [] hcx (by kernel_rfl)
   | false =>
    have q2:=cF h2
    have e:=Eq.refl (oQ a0 a1);conv at e=>rhs;simp only [oQ,h0,h1,h2,aH]
    rw [e]
    exact rt (t2++[.d h2]) [] [] hcx (by kernel_rfl)
  | false =>
   have q1:=cF h1
   have e:=Eq.refl (oQ a0 a1);conv at e=>rhs;simp only [oQ,h0,h1,aH]
   rw [e]
   exact rt (t1++[.d h1]) [] [] hcx (by kernel_rfl)
 | false =>
  have q0:=cF h0
  have e:=Eq.refl (oQ a0 a1);conv at e=>rhs;simp only [oQ,h0,aH]
  rw [e]
  exact rt (t0++[.d h0]) [] [] hcx (by kernel_rfl)
def aOi (a0:Zt):Int :=
 (W ((W ((W (a0.1*a0.1))+(W (a0.2.1*a0.2.1))))+(W (a0.2.2*a0.2.2))))
theorem bEy (a0:Zt):Con Tryz.prog 112 [(.a (k3 a0))] [] (iv (aOi a0)) []:=by
 refine aJ Tryz.func112 (by kernel_rfl) fun cx hcx=>?_
 have e:=Eq.refl (aOi a0);conv at e=>rhs;simp only [aOi]
 rw [e]
 exact rt [] [] [] hcx (by kernel_rfl)
def aKu (a0:Zt)(a1:Zt):Zt :=
 ((W (a0.1 - a1.1)),(W (a0.2.1 - a1.2.1)),(W (a0.2.2 - a1.2.2)))
theorem bEz (a0:Zt)(a1:Zt):Con Tryz.prog 113 [(.a (k3 a0)),(.a (k3 a1))] [] (.a (k3 (aKu a0 a1))) []:=by
 refine aJ Tryz.func113 (by kernel_rfl) fun cx hcx=>?_
 have e:=Eq.refl (aKu a0 a1);conv at e=>rhs;simp only [aKu]
 rw [e]
 exact rt [] [] [] hcx (by kernel_rfl)
abbrev PU:=PN×Int×Int
noncomputable def pv (p:PU):Int:=if vp p.1=0 then(if(0≤p.2.1∧p.2.1≤1000)∧(-100≤p.2.2∧p.2.2≤100) then 0 else 1) else vp p.1
section
variable {n s t : Int}
end
end Go.Proofs.YtaeagjnpobdglaaGreat
namespace Go.Proofs.YtaeagjnpobdglaaGreat
open Go.Proofs Go.Aw Go.RowKit
set_option maxRecDepth 100000
def nJ {α β:Type} (g:α→β×Int):List α→List β→List β⊕Int
 | [],l=>.inl l
 | c::m,l=>if(g c).2=0 then nJ g m (l++[(g c).1]) else .inr (g c).2
def pO {β R:Type} (G:List β→R)(E:Int→R):List β⊕Int→R
 | .inl m=>G m
 | .inr e=>E e
theorem xJ {α β R:Type} [Inhabited R] {g:α→β×Int} {S:List β×Int→(List β×Int)⊕R} {G:List β→R} {E:Int→R} {L:List α}
   (hS:∀(i:Nat) (c:α),L[i]? = some c→∀l:List β,S (l,(i:Int))=bif ((g c).2 != 0) then .inr (E (g c).2) else .inl (l++[(g c).1],((i+1:Nat):Int)))
   (hE:∀l:List β,S (l,(L.length:Int))=.inr (G l)) :
   ∀(k:List α) (i n:Nat) (l:List β),L.drop i=k→i≤L.length→k.length < n→aB S n (l,(i:Int))=pO G E (nJ g k l)
 | [],i,n,l,hd,hi',hn=>by
   have:i=L.length:=by have:=List.drop_eq_nil_iff.1 hd;omega
   obtain⟨n,rfl⟩:∃m,n=m+1:=⟨n - 1,by simp only [List.length_nil] at hn;omega⟩
   subst this
   rw [aO (hE _)];rfl
 | c::k,i,n,l,hd,hi',hn=>by
   have hc:L[i]? = some c:=by
     have:(L.drop i)[0]? = some c:=by rw [hd];rfl
     simpa using this
   obtain⟨hlt,hce⟩:=List.getElem?_eq_some_iff.1 hc
   obtain⟨n,rfl⟩:∃m,n=m+1:=⟨n - 1,by omega⟩
   have h1:=hS i c hc l
   unfold nJ
   by_cases h:(g c).2=0
   · rw [h] at h1
     rw [aA h1,if_pos h]
     exact xJ hS hE k (i+1) n _ (by rw [←List.drop_drop,hd];rfl) (by omega) (by simp only [List.length_cons] at hn;omega)
   · rw [bne_iff_ne.2 h,cond_true] at h1
     rw [aO h1,if_neg h];rfl
theorem kY {α β:Type} {g:α→β×Int}:∀{k:List α} {l m:List β},nJ g k l=.inl m→m=l++k.map (fun c=>(g c).1)∧∀c∈k,(g c).2=0
 | [],l,m,h=>by simp only [nJ] at h;cases h;simp
 | c::k,l,m,h=>by
   unfold nJ at h
   split at h
   · rename_i h0
     obtain⟨h1,h2⟩:=kY h
     refine⟨by rw [h1];simp,fun x hx=>?_⟩
     rcases List.mem_cons.1 hx with rfl | hx
     · exact h0
     · exact h2 x hx
   · cases h
open Go.ChangeShapes Go.WideShapes Go.ChangeAt
section
variable {H : Type} {enc : TypeId × Value → H} {P : Program} {w : World}
def vS (w:World)(es:Nat)(v:Value)(nss:List (List Int)):Prop :=
 (∀ns∈nss,ns.length=es)∧nss.length≤9223372036854775807 ∧
 ((v=.slice none 0 0∧nss=[])∨∃b o cap,v=.slice (some ⟨b,o,none⟩) nss.length cap∧nss.length≤cap∧∀(i:Nat) (x:Value),((nss.flatten).map (Value.int .i64))[i]? = some x→w.cell? ⟨b,o+i,none⟩=some x)
theorem aCc {es b:Nat}:∀(nss:List (List Int))(o:Nat),(∀(j:Nat)(ns:List Int),nss[j]? = some ns→ns.length=es∧∀(q:Nat)(x:Value),(ns.map (Value.int .i64))[q]? = some x→w.cell? ⟨b,o+j*es+q,none⟩=some x) →
   ∀(i:Nat) (x:Value),((nss.flatten).map (Value.int .i64))[i]? = some x→w.cell? ⟨b,o+i,none⟩=some x
 | [],o,_,i,x,hi=>by simp at hi
 | ns::l,o,h,i,x,hi=>by
   obtain⟨h1,h2⟩:=h 0 ns rfl
   rw [List.flatten_cons,List.map_append] at hi
   by_cases hlt:i < ns.length
   · rw [List.getElem?_append_left (by simpa using hlt)] at hi
     have:=h2 i x hi
     simpa using this
   · rw [List.getElem?_append_right (by simpa using hlt)] at hi
     have:=aCc l (o+es) (fun j ms hj=>⟨(h (j+1) ms hj).1,fun q y hq=>by
       have:=(h (j+1) ms hj).2 q y hq
       rw [show o+es+j*es+q=o+(j+1)*es+q by rw [Nat.add_mul];omega];exact this⟩) (i - es) x (by simpa [h1] using hi)
     rw [show o+es+(i - es)=o+i by omega] at this;exact this
def rho (es:Nat):Value→Option (Nat×Nat×Nat)
 | .slice (some a) _ cap=>some (a.block,a.off,cap*es)
 | _=>none
theorem rJ {es:Nat} {v:Value} {nss:List (List Int)} {ρ:Env} {k:Nat} (h:vS w es v nss)(hk:ρ k=rho es v):Rel ρ (.s k 0 nss.length es) v:=by
 obtain⟨h1,h2,⟨rfl,rfl⟩ | ⟨b,o,cap,rfl,h3,h4⟩⟩:=h
 · simp only [Rel];exact .inl ⟨hk,rfl,trivial⟩
 · simp only [Rel];exact .inr ⟨b,o,cap*es,cap,0,hk,rfl,h3,by omega,fun _=>rfl⟩
theorem zB {es:Nat}:∀{nss:List (List Int)},(∀ns∈nss,ns.length=es)→nss.flatten.length=nss.length*es
 | [],_=>by simp
 | ns::l,h=>by
   rw [List.flatten_cons,List.length_append,zB (fun m hm=>h m (List.mem_cons_of_mem _ hm)),h ns List.mem_cons_self,List.length_cons,Nat.add_mul];omega
theorem aKv {es:Nat} {v:Value} {nss:List (List Int)} {ρ:Env} {k:Nat} {M:Nat→Prop} (h:vS w es v nss)(hk:ρ k=rho es v)(hM:∀b,M b→w.heap.size≤b):BRep ρ M w k (.live false true ((nss.flatten).map iv)):=by
 obtain⟨h1,h2,⟨rfl,rfl⟩ | ⟨b,o,cap,rfl,h3,h4⟩⟩:=h
 · exact .inl ⟨hk,rfl⟩
 · have hlen:=zB h1
   refine .inr ⟨b,o,cap*es,(nss.flatten).map (Value.int .i64),hk,⟨?_,fun hne hm=>?_⟩,aMy _,h4⟩
   · rw [List.length_map,hlen];exact Nat.mul_le_mul_right _ h3
   · have hb:=hM b hm
     obtain⟨x,hx⟩:=List.exists_mem_of_ne_nil _ hne
     obtain⟨i,hi⟩:=List.getElem?_of_mem hx
     have:=World.block_lt_of_cell? w ⟨b,o+i,none⟩ (h4 i x hi)
     exact absurd this (Nat.not_lt_of_le hb)
theorem vT {α:Type} {c:α→List SV} {f:List Int→α} {es:Nat} (hc:∀ns:List Int,ns.length=es→c (f ns)=ns.map iv):∀{nss:List (List Int)},(∀ns∈nss,ns.length=es)→flat c (nss.map f)=(nss.flatten).map iv
 | [],_=>rfl
 | ns::l,h=>by
   have:=vT hc (nss:=l) (fun m hm=>h m (List.mem_cons_of_mem _ hm))
   unfold flat at *
   rw [List.map_cons,List.flatMap_cons,this,hc ns (h ns List.mem_cons_self),List.flatten_cons,List.map_append]
end
theorem aEq:∀ns:List Int,Plain (ns.map iv)
 | []=>fun k hk=>by simp [SV.hasl] at hk
 | n::l=>fun k hk=>by
   simp only [List.map_cons,SV.hasl] at hk
   rcases hk with hk | hk
   · simp [iv,SV.has] at hk
   · exact aEq l k hk
theorem aKw {P:Program} {f:Nat} {args:List SV} {vs:List Value} {x:Value} {bs:List BK} (hc:Con P f args bs (.v x) []) (ρ:Env) {W:World} (hr:Rels ρ args vs)(hown:∀i,¬(bs.getD i .un).own)
   (hb:(∀b,(fM ρ W bs).mine b→W.heap.size≤b)→∀i,BRep ρ (fM ρ W bs).mine W i (bs.getD i .un)) (hpl:∀i,(bs.getD i .un).pl) (hnf:∀b,ρ.fz b=none) :
   Calls P f vs.toArray W fun e W'=>e=.returned x∧Below W.heap.size W W':=by
 have hM:∀b,(fM ρ W bs).mine b→W.heap.size≤b:=by
   rintro b (h | ⟨i,n,hi,_⟩)
   · exact h
   · exact absurd hi (hown i)
 refine(hc.2 ρ W vs hr (hb hM) hpl (fun i j b n b' n' _ h=>absurd h (hown i)) (fun b o h=>by rw [hnf b] at h;cases h)).mono fun e W' h=>?_
 obtain⟨ρ',v,rfl,_,hv,hk,_⟩:=h
 refine⟨by rw [show v=x from hv],hk.os,hk.tape,hk.output,hk.size,fun k hk'=>hk.block k hk' ?_⟩
 rintro ⟨i,n,hi,_⟩
 exact hown i hi
end Go.Proofs.YtaeagjnpobdglaaGreat
namespace Go.Proofs.YtaeagjnpobdglaaGreat
open Go.Proofs Go.Aw Go.RowKit
set_option maxRecDepth 100000
theorem aEr {α:Type} {c:α→List SV} {es:Nat} (hc:∀x,(c x).length=es)(l:List α):(flat c l).length=l.length*es:=pY hc l
def okw (v:Int×Int)(n:Nat):Prop:=(-4611686018427387904+1099511627776*n≤v.1∧v.1+1099511627776*n≤4611686018427387904)∧(-4611686018427387904+1099511627776*n≤v.2∧v.2+1099511627776*n≤4611686018427387904)
theorem aQ0 {v a:Int×Int} {n:Nat} (h:okw v (n+1))(ha:vs a):okw (v.1+a.1,v.2+a.2) n:=by unfold okw vs at *;simp only;omega
theorem bBs {v:Int×Int} {n:Nat} (h:okw v n):W v.1=v.1∧W v.2=v.2:=by unfold okw at h;exact⟨aD (by omega) (by omega),aD (by omega) (by omega)⟩
theorem aWk {n:Nat} (h:n≤10000):okw (0,0) n:=by unfold okw;simp only;omega
theorem aCd {R:Type} [Inhabited R] {S:Zt→Zt⊕R} {G:Int×Int→R} {L:List (Int×Int)} (hl:∀a∈L,vs a)
   (hS:∀(i:Nat) (a:Int×Int),L[i]? = some a→∀v1 v2:Int,S (v1,v2,(i:Int))=.inl (W (v1+a.1),W (v2+a.2),((i+1:Nat):Int)))
   (hE:∀v1 v2:Int,S (v1,v2,(L.length:Int))=.inr (G (v1,v2))) :
   ∀(l:List (Int×Int)) (i n:Nat) (v:Int×Int),L.drop i=l→i≤L.length→l.length < n→okw v l.length→aB S n (v.1,v.2,(i:Int))=G (iW l v):=by
 intro l
 induction l with
 | nil =>
   intro i n v hd hi' hn h
   have:i=L.length:=by have:=List.drop_eq_nil_iff.1 hd;omega
   obtain⟨n,rfl⟩:∃m,n=m+1:=⟨n - 1,by simp only [List.length_nil] at hn;omega⟩
   subst this
   rw [aO (hE _ _)];rfl
 | cons c l ih =>
   intro i n v hd hi' hn h
   have hc:L[i]? = some c:=by
     have:(L.drop i)[0]? = some c:=by rw [hd];rfl
     simpa using this
   obtain⟨hlt,hce⟩:=List.getElem?_eq_some_iff.1 hc
   obtain⟨n,rfl⟩:∃m,n=m+1:=⟨n - 1,by omega⟩
   have h1:okw (v.1+c.1,v.2+c.2) l.length:=aQ0 h (hl c (hce▸List.getElem_mem hlt))
   have hw:=bBs h1
   simp only at hw
   rw [aA (hS i c hc v.1 v.2),hw.1,hw.2]
   exact ih (i+1) n (v.1+c.1,v.2+c.2) (by rw [←List.drop_drop,hd];rfl) (by omega) (by simp only [List.length_cons] at hn;omega) h1
section
variable {l : List (Int × Int)}
theorem aQ1 {a:Int×Int} (h:vs a):pG a=true:=vN (a:=a.1) (b:=a.2) h.1 h.2.1 h.2.2
theorem bE0 (hl:∀a∈l,vs a):sN l=0:=by
 have key:∀(m:List (Int×Int)) (i n:Nat),l.drop i=m→i≤l.length→m.length < n→aB (eJ l) n (i:Int)=0:=by
   intro m
   induction m with
   | nil =>
     intro i n hd hi hn
     have:i=l.length:=by have:=List.drop_eq_nil_iff.1 hd;omega
     obtain⟨n,rfl⟩:∃m,n=m+1:=⟨n - 1,by simp only [List.length_nil] at hn;omega⟩
     subst this
     refine aO ?_
     simp only [eJ]
     rw [cK (Int.lt_irrefl _),cond_false]
   | cons c m ih =>
     intro i n hd hi hn
     have hc:l[i]? = some c:=by
       have:(l.drop i)[0]? = some c:=by rw [hd];rfl
       simpa using this
     obtain⟨hlt,hce⟩:=List.getElem?_eq_some_iff.1 hc
     obtain⟨n,rfl⟩:∃m,n=m+1:=⟨n - 1,by omega⟩
     have hg:l.getD i default=c:=by rw [fO,hc];rfl
     have e:eJ l (i:Int)=.inl ((i+1:Nat):Int):=by
       simp only [eJ]
       rw [bW (show((i:Nat):Int) < (l.length:Nat) by omega),cond_true,uJ,hg,aQ1 (hl c (hce▸List.getElem_mem hlt))];rfl
     rw [aA e]
     exact ih (i+1) n (by rw [←List.drop_drop,hd];rfl) (by omega) (by simp only [List.length_cons] at hn;omega)
 unfold sN
 exact key l 0 _ rfl (Nat.zero_le _) (by omega)
theorem aYi (hl:∀a∈l,vs a)(hn:l.length≤10000):cH l=((iW l (0,0)).1,(iW l (0,0)).2,0):=by
 unfold cH
 rw [cK (by omega),cond_false,bE0 hl]
 show aB _ _ (((0,0):Int×Int).1,((0,0):Int×Int).2,((0:Nat):Int))=_
 refine aCd (G:=fun v=>(v.1,v.2,0)) hl (fun i a hi v1 v2=>?_) (fun v1 v2=>?_) l 0 _ (0,0) rfl (Nat.zero_le _) (by omega) (aWk hn)
 · obtain⟨hlt,hce⟩:=List.getElem?_eq_some_iff.1 hi
   have hg:l.getD i default=a:=by rw [fO,hi];rfl
   simp only [gN]
   rw [bW (show((i:Nat):Int) < (l.length:Nat) by omega),cond_true,uJ,hg];rfl
 · simp only [gN]
   rw [cK (Int.lt_irrefl _),cond_false]
theorem aYj (hl:∀a∈l,vs a)(hn:l.length≤10000):cM l=((iW l (0,0)).1,(iW l (0,0)).2,0):=by
 unfold cM
 rw [cK (by omega),cond_false]
 show aB _ _ (((0,0):Int×Int).1,((0,0):Int×Int).2,((0:Nat):Int))=_
 refine aCd (G:=fun v=>(v.1,v.2,0)) hl (fun i a hi v1 v2=>?_) (fun v1 v2=>?_) l 0 _ (0,0) rfl (Nat.zero_le _) (by omega) (aWk hn)
 · obtain⟨hlt,hce⟩:=List.getElem?_eq_some_iff.1 hi
   have hg:l.getD i default=a:=by rw [fO,hi];rfl
   simp only [fI]
   rw [bW (show((i:Nat):Int) < (l.length:Nat) by omega),cond_true,uJ,hg,show F51 a=true from aQ1 (hl a (hce▸List.getElem_mem hlt))];rfl
 · simp only [fI]
   rw [cK (Int.lt_irrefl _),cond_false]
noncomputable def aKx (l:List (Int×Int)):(Int×Int)×Int:=qI (iW l (0,0)).1 (iW l (0,0)).2
theorem bBt (hl:∀a∈l,vs a)(hn:l.length≤10000):kM l=aKx l:=by
 unfold kM
 rw [aYi hl hn];rfl
theorem aWl (hl:∀a∈l,vs a)(hn:l.length≤10000):cZ l=aKx l:=by
 unfold cZ
 rw [aYj hl hn];rfl
end
theorem aQ2 {l:List (Int×Int)} (h:(aKx l).2=0):aKx l=(iW l (0,0),0)∧vs (iW l (0,0)):=by
 unfold aKx at *
 rcases rH (iW l (0,0)).1 (iW l (0,0)).2 with⟨h1,h2⟩ | h1
 · exact⟨h1,h2⟩
 · rw [h1] at h;exact absurd h (by decide)
theorem aIx {a:Int×Int} {n:Int} (h:(nW a n).2=0):vs (nW a n).1:=by
 have h0:=h
 unfold nW at h0
 cases h1:((kD a:Int) != 0) with
 | true=>rw [h1,cond_true] at h0;exact absurd h0 (bne_iff_ne.1 h1)
 | false =>
   rw [h1,cond_false] at h0
   cases h2:(!(F46 n)) with
   | true=>rw [h2,cond_true] at h0;exact absurd h0 (by decide)
   | false =>
     obtain⟨x,y,e⟩:∃x y,nW a n=qI x y:=⟨_,_,by unfold nW;rw [h1,cond_false,h2,cond_false]⟩
     rw [e] at h ⊢
     rcases rH x y with⟨e1,e2⟩ | e1
     · rw [e1];exact e2
     · rw [e1] at h;exact absurd h (by decide)
theorem rK {α β:Type} {g:α→β×Int}:∀{k:List α} {l:List β} {e:Int},nJ g k l=.inr e→e≠0
 | [],l,e,h=>by simp only [nJ] at h;cases h
 | c::k,l,e,h=>by
   unfold nJ at h
   split at h
   · exact rK h
   · rename_i h0;cases h;exact h0
end Go.Proofs.YtaeagjnpobdglaaGreat
namespace Go.Proofs.YtaeagjnpobdglaaGreat
open Go.Proofs Go.Aw Go.RowKit
set_option maxRecDepth 100000
theorem eN {α:Type} {c:α→List SV} {es:Nat} (hc:∀x,(c x).length=es) {L:List α} {i o:Nat} {xs:List SV} {d y:α} (hi:i < L.length)(ho:o+xs.length≤es)(hy:c y=splice (c (L.getD i d)) o xs) :
   splice (flat c L) (0+i*es+o) xs=flat c (L.set i y):=by
 induction L generalizing i with
 | nil=>simp at hi
 | cons x L ih =>
   cases i with
   | zero =>
     have hy':c y=splice (c x) o xs:=hy
     have hx:=hc x
     simp only [flat,List.flatMap_cons,List.set_cons_zero,hy']
     unfold splice
     simp only [Nat.zero_mul,Nat.zero_add]
     rw [List.take_append_of_le_length (by omega),List.drop_append_of_le_length (by omega)]
     simp [List.append_assoc]
   | succ i =>
     have h:=ih (i:=i) (by simpa using hi) hy
     have hx:=hc x
     simp only [flat,List.flatMap_cons,List.set_cons_succ] at h ⊢
     rw [←h]
     unfold splice
     have e1:0+(i+1)*es+o=(c x).length+(0+i*es+o):=by rw [hx,Nat.add_mul];omega
     rw [e1,List.take_length_add_append,show(c x).length+(0+i*es+o)+xs.length=(c x).length+(0+i*es+o+xs.length) by omega,List.drop_length_add_append]
     simp [List.append_assoc]
theorem jQ {α:Type} {c:α→List SV} {es:Nat} (hc:∀x,(c x).length=es) {L:List α} {i o n:Nat} (hi:i < L.length)(ho:o+n≤es):0+i*es+o+n≤(flat c L).length:=by
 rw [pY hc]
 have:=Nat.mul_le_mul_right es (show i+1≤L.length by omega)
 rw [Nat.add_mul] at this
 omega
open Go.ChangeShapes Go.WideShapes Go.ChangeAt
inductive CK where
 | i | b | s (es:Nat)
deriving DecidableEq
def xK (P:Program):Nat→TypeId→Option (List CK)
 | 0,_=>none
 | k+1,t=>match P.underlying t with
   | some (.int .i64)=>some [.i]
   | some .bool=>some [.b]
   | some (.slice e)=>bif zA P 6 e then some [.s (P.cellsOf e)] else none
   | some (.struct fs)=>fs.toList.foldr (fun f r o=>bif f.offset == o then match xK P k f.type with
       | some a=>bif a.length == P.cellsOf f.type then(r (o+P.cellsOf f.type)).map (a++·) else none
       | none=>none else none) (fun o=>bif o == P.cellsOf t then some [] else none) 0
   | _=>none
section
variable {H : Type} {enc : TypeId × Value → H} {P : Program} {w : World}
theorem aKy {e:TypeId} {t:TypeId} {v:Value} {fuel:Nat} {x:DataW H×List MemPlace} (ht:P.underlying t=some (.slice e))(hf:zA P 6 e=true)
   (hsp:∀a len cap,v=.slice (some a) len cap→a.spot=none) (hx:DataW.trod enc P w 0 (fun _=>true) true fuel t [v]=some x):∃nss,vS w (P.cellsOf e) v nss:=by
 rcases Go.Deep.open_slice ht hx with⟨hc,_⟩ | ⟨a',len',cap',m,n,D,Pl,hc,hb,hl,hm,hmm,_,hall⟩
 · simp only [List.cons.injEq,and_true] at hc
   exact⟨[],fun ns h=>by simp at h,by simp,.inl ⟨hc,rfl⟩⟩
 · simp only [List.cons.injEq,and_true] at hc
   subst hc
   have hsp:=hsp a' len' cap' rfl
   obtain⟨b,o,sp⟩:=a'
   simp only at hsp
   subst hsp
   simp only [if_true] at hmm
   obtain⟨N,hN⟩:=Go.Deep.choose_lt (α:=List Int) (p:=fun i ns=>ns.length=P.cellsOf e∧∀(q:Nat) (x:Value),(ns.map (Value.int .i64))[q]? = some x→w.cell? ⟨b,o+i*P.cellsOf e+q,none⟩=some x) (n:=len') (fun i hi=>by
     obtain⟨cs',h1,h2⟩:=hall i (by omega)
     obtain⟨_,ns,rfl⟩:=xI 6 e n cs' _ hf h2
     obtain⟨_,hlen,hcell⟩:=World.cells?_some h1
     refine⟨ns,by simpa using hlen,fun q x hq=>?_⟩
     have hq':=(List.getElem?_eq_some_iff.1 hq).1
     have:=hcell q (by rw [←hlen];omega)
     rw [Go.Aw.add_eq,Go.Aw.add_eq] at this
     rw [this,hq])
   refine⟨(List.range len').map N,fun ns h=>?_,?_,.inr ⟨b,o,cap',?_,?_,?_⟩⟩
   · obtain⟨i,hi,rfl⟩:=List.mem_map.1 h
     exact(hN i (by simpa using hi)).1
   · have:maxLen=9223372036854775807:=rfl
     simp;omega
   · simp
   · simpa using hl
   · refine aCc (es:=P.cellsOf e) _ o (fun j ns hj=>?_)
     have hjl:=(List.getElem?_eq_some_iff.1 hj).1
     simp only [List.length_map,List.length_range] at hjl
     have:N j=ns:=by simpa [hjl] using hj
     subst this
     exact hN j hjl
def aQ3 (w:World):CK→Value→Prop
 | .i,v=>∃n:Int,v=.int .i64 n
 | .b,v=>∃x:Bool,v=.bool x
 | .s es,v=>∃nss,vS w es v nss
def CellsAre (w:World):List CK→List Value→Prop
 | [],[]=>True
 | k::ks,v::vs=>aQ3 w k v∧CellsAre w ks vs
 | _,_=>False
theorem CellsAre.app:∀{ks ks':List CK} {vs vs':List Value},CellsAre w ks vs→CellsAre w ks' vs'→CellsAre w (ks++ks') (vs++vs')
 | [],_,[],_,_,h=>h
 | [],_,_::_,_,h,_=>h.elim
 | _::_,_,[],_,h,_=>h.elim
 | _::_,_,_::_,_,⟨h1,h2⟩,h=>⟨h1,CellsAre.app h2 h⟩
theorem aCe:∀(k:Nat)(t:TypeId)(ks:List CK)(fuel:Nat)(cs:List Value)(x:DataW H×List MemPlace),xK P k t=some ks →
   (∀v∈cs,∀a len cap,v=.slice (some a) len cap→a.spot=none)→DataW.trod enc P w 0 (fun _=>true) true fuel t cs=some x→CellsAre w ks cs
 | 0,_,_,_,_,_,h,_,_=>by simp [xK] at h
 | k+1,t,ks,fuel,cs,x,h,hsp,hx=>by
   unfold xK at h
   split at h
   · rename_i ht
     obtain⟨n,rfl,rfl,_⟩:=DataW.trod_int ht hx
     obtain rfl:[CK.i]=ks:=Option.some.inj h
     exact⟨⟨n,rfl⟩,trivial⟩
   · rename_i ht
     obtain⟨n,rfl,rfl⟩:=DataW.trod_bool ht hx
     obtain rfl:[CK.b]=ks:=Option.some.inj h
     exact⟨⟨n,rfl⟩,trivial⟩
   · rename_i e ht
     cases hf:zA P 6 e with
     | false=>rw [hf] at h;cases h
     | true =>
       rw [hf] at h
       obtain rfl:[CK.s (P.cellsOf e)]=ks:=Option.some.inj h
       have:∃v,cs=[v]:=by
         rcases Go.Deep.open_slice ht hx with⟨hc,_⟩ | ⟨a',len',cap',m,n,D,Pl,hc,_⟩<;>exact⟨_,hc⟩
       obtain⟨v,rfl⟩:=this
       exact⟨aKy ht hf (hsp v List.mem_cons_self) hx,trivial⟩
   · rename_i fs ht
     obtain⟨xs,m,rfl,rfl,hl,hlen,hF⟩:=DataW.trod_struct ht hx
     have key:∀(l:List Field) (o:Nat) (ks:List CK),
         l.foldr (fun f r o=>bif f.offset == o then match xK P k f.type with
           | some a=>bif a.length == P.cellsOf f.type then(r (o+P.cellsOf f.type)).map (a++·) else none
           | none=>none else none) (fun o=>bif o == P.cellsOf t then some [] else none) o=some ks →
         (∀f∈l,∃y,DataW.trod enc P w 0 (fun _=>true) true m f.type ((cs.drop f.offset).take (P.cellsOf f.type))=some y)→CellsAre w ks (cs.drop o):=by
       intro l
       induction l with
       | nil =>
         intro o ks h _
         simp only [List.foldr_nil] at h
         cases ho:o == P.cellsOf t with
         | false=>rw [ho] at h;cases h
         | true =>
           rw [ho] at h
           obtain rfl:[]=ks:=Option.some.inj h
           rw [beq_iff_eq.1 ho,←hl,List.drop_length];trivial
       | cons f l ih =>
         intro o ks h hy
         simp only [List.foldr_cons] at h
         cases ho:f.offset == o with
         | false=>rw [ho] at h;cases h
         | true =>
           rw [ho] at h
           simp only [cond_true] at h
           split at h
           · rename_i a ha
             cases hc:a.length == P.cellsOf f.type with
             | false=>rw [hc] at h;cases h
             | true =>
               rw [hc] at h
               simp only [cond_true,Option.map_eq_some_iff] at h
               obtain⟨ks',h1,rfl⟩:=h
               obtain⟨y,hy0⟩:=hy f List.mem_cons_self
               rw [beq_iff_eq.1 ho] at hy0
               have g1:=aCe k f.type a m _ y ha (fun v hv=>hsp v (List.mem_of_mem_drop (List.mem_of_mem_take hv))) hy0
               have g2:=ih _ _ h1 (fun f' hf'=>hy f' (List.mem_cons_of_mem _ hf'))
               have:=g1.app g2
               rwa [←List.drop_drop,List.take_append_drop] at this
           · cases h
     have:=key fs.toList 0 ks h (fun f hf=>by
       obtain⟨i,hi⟩:=List.getElem?_of_mem hf
       have:=hF i f (by simpa using hi)
       have hil:i < xs.length:=by rw [hlen];have:=(List.getElem?_eq_some_iff.1 hi).1;simpa using this
       rw [List.getElem?_eq_getElem hil] at this
       exact⟨_,this⟩)
     simpa using this
   · cases h
theorem aOj {r:Reach} {b0:Nat} {u:TypeId} {a:Addr} {len cap:Nat} (h:Cell.okWide P w r b0 u (.slice (some a) len cap)):a.spot=none:=by
 unfold Cell.okWide at h
 split at h<;>try (exact h.elim)
 all_goals try (simp_all;done)
 unfold Cell.ok at h
 split at h<;>simp_all [World.has]
theorem tO {r:Reach} {b0:Nat} {t:TypeId} {fs:Array Field} {v:Value} {d:DataW H} {ps:List MemPlace} (ks:List CK)(ht:P.underlying t=some (.struct fs))(hk:xK P 6 t=some ks)
   (hval:Value.okWide P w r b0 t v) (hd:DataW.Trod enc P w 0 (fun _=>true) true t v d ps):(∃cs,v=.agg cs.toArray∧CellsAre w ks cs)∧∀x∈ps,x.block < w.heap.size:=by
 obtain⟨fuel,hx⟩:=hd
 refine⟨?_,DataW.trod_lt fuel t _ _ hx⟩
 simp only [Value.okWide,ht] at hval
 obtain⟨cs,rfl,hs,ts,_,_,hall⟩:=hval
 refine⟨cs.toList,by simp,aCe 6 t ks fuel _ _ hk (fun v hv a len cap e=>?_) (by simpa [Value.cells] using hx)⟩
 obtain⟨i,hi⟩:=List.getElem?_of_mem hv
 obtain⟨u,_,hu⟩:=hall i v (by simpa using hi)
 subst e
 exact aOj hu
theorem eE {k:CK} {ks:List CK} {cs:List Value} (h:CellsAre w (k::ks) cs):∃v vs,cs=v::vs∧aQ3 w k v∧CellsAre w ks vs:=by
 cases cs with
 | nil=>exact h.elim
 | cons v vs=>exact⟨v,vs,rfl,h.1,h.2⟩
theorem xL {cs:List Value} (h:CellsAre w [] cs):cs=[]:=by
 cases cs with
 | nil=>rfl
 | cons v vs=>exact h.elim
end
def bBu (l:List (Nat×Value×List (List Int))):Env:=⟨fun k=>match l[k]? with
 | some x=>rho x.1 x.2.1
 | none=>none,fun _=>none⟩
theorem aKz {P:Program} {f:Nat} {args:List SV} {vs:List Value} {x:Value} {W:World} (l:List (Nat×Value×List (List Int)))
   (hc:Con P f args (l.map fun y=>.live false true ((y.2.2.flatten).map iv)) (.v x) []) (hs:∀y∈l,vS W y.1 y.2.1 y.2.2) (hr:Rels (bBu l) args vs) :
   Calls P f vs.toArray W fun e W'=>e=.returned x∧Below W.heap.size W W':=by
 have hget:∀i,((l.map fun y=>BK.live false true ((y.2.2.flatten).map iv)).getD i .un=.un)∨∃y,l[i]? = some y∧(l.map fun y=>BK.live false true ((y.2.2.flatten).map iv)).getD i .un=.live false true ((y.2.2.flatten).map iv):=by
   intro i
   rw [fO,List.getElem?_map]
   cases h:l[i]? with
   | none=>exact .inl rfl
   | some y=>exact .inr ⟨y,rfl,rfl⟩
 refine aKw hc _ hr (fun i=>?_) (fun hM i=>?_) (fun i=>?_) (fun _=>rfl)
 · rcases hget i with h | ⟨y,_,h⟩<;>rw [h]<;>simp [BK.own]
 · rcases hget i with h | ⟨y,h1,h⟩
   · rw [h];simp [BRep]
   · rw [h]
     exact aKv (hs y (List.mem_of_getElem? h1)) (by simp only [bBu,h1]) hM
 · rcases hget i with h | ⟨y,_,h⟩
   · rw [h];simp [BK.pl]
   · rw [h];exact aEq _
def iT {α σ R:Type} (f:σ→α→σ⊕R):List α→σ→σ⊕R
 | [],v=>.inl v
 | c::l,v=>match f v c with
   | .inl v'=>iT f l v'
   | .inr r=>.inr r
def aCf {σ R:Type} (G:σ→R):σ⊕R→R
 | .inl v=>G v
 | .inr r=>r
theorem aCg {α σ T R:Type} [Inhabited R] (pk:σ→Int→T) {S:T→T⊕R} (f:σ→α→σ⊕R)(G:σ→R) {L:List α} (I:Nat→σ→Prop)
   (hS:∀(i:Nat) (c:α),L[i]? = some c→∀v,I i v→S (pk v (i:Int))=match f v c with | .inl v'=>.inl (pk v' ((i+1:Nat):Int)) | .inr r=>.inr r)
   (hI:∀(i:Nat) (c:α),L[i]? = some c→∀v v',I i v→f v c=.inl v'→I (i+1) v')
   (hE:∀v,I L.length v→S (pk v (L.length:Int))=.inr (G v)) :
   ∀(k:List α) (i n:Nat) (v:σ),L.drop i=k→i≤L.length→k.length < n→I i v→aB S n (pk v (i:Int))=aCf G (iT f k v):=by
 intro k
 induction k with
 | nil =>
   intro i n v hd hi' hn hv
   have:i=L.length:=by have:=List.drop_eq_nil_iff.1 hd;omega
   obtain⟨n,rfl⟩:∃m,n=m+1:=⟨n - 1,by simp only [List.length_nil] at hn;omega⟩
   subst this
   rw [aO (hE _ hv)];rfl
 | cons c k ih =>
   intro i n v hd hi' hn hv
   have hc:L[i]? = some c:=by
     have:(L.drop i)[0]? = some c:=by rw [hd];rfl
     simpa using this
   obtain⟨hlt,hce⟩:=List.getElem?_eq_some_iff.1 hc
   obtain⟨n,rfl⟩:∃m,n=m+1:=⟨n - 1,by omega⟩
   have hs:=hS i c hc v hv
   unfold iT
   cases hf:f v c with
   | inl v' =>
     rw [hf] at hs
     rw [aA hs]
     exact ih (i+1) n v' (by rw [←List.drop_drop,hd];rfl) (by omega) (by simp only [List.length_cons] at hn;omega) (hI i c hc v v' hv hf)
   | inr r =>
     rw [hf] at hs
     rw [aO hs];rfl
theorem aZ {α σ T R:Type} [Inhabited R] (pk:σ→Int→T) {S:T→T⊕R} (f:σ→α→σ⊕R)(G:σ→R) {L:List α} (I:Nat→σ→Prop) {n:Nat} {v:σ}
   (hS:∀(i:Nat) (c:α),L[i]? = some c→∀v,I i v→S (pk v (i:Int))=match f v c with | .inl v'=>.inl (pk v' ((i+1:Nat):Int)) | .inr r=>.inr r)
   (hI:∀(i:Nat) (c:α),L[i]? = some c→∀v v',I i v→f v c=.inl v'→I (i+1) v')
   (hE:∀v,I L.length v→S (pk v (L.length:Int))=.inr (G v)) (hn:L.length < n) (hv:I 0 v):aB S n (pk v 0)=aCf G (iT f L v) :=
 aCg pk f G I hS hI hE L 0 n v rfl (Nat.zero_le _) hn hv
abbrev inF (n:Nat)(f:Zt):Prop:=(0≤f.1∧f.1 < (n:Int))∧(0≤f.2.1∧f.2.1 < (n:Int))∧0≤f.2.2∧f.2.2 < (n:Int)
def lZ (m:List Zt×List Zt)(k:Int):Prop:=∀i:Int,0≤i→i < k→inF m.1.length (m.2.getD (toNat i) default)
theorem kR {m:List Zt×List Zt}:lZ m 0:=fun i h1 h2=>absurd h1 (by omega)
theorem dL {m:List Zt×List Zt} {k:Int} (h:lZ m k)(hf:inF m.1.length (m.2.getD (toNat k) default)):lZ m (k+1):=fun i h1 h2=>by
 by_cases e:i=k
 · subst e;exact hf
 · exact h i h1 (by omega)
theorem gU {m:List Zt×List Zt} {k j:Int} (h:lZ m k)(hj:j≤k):lZ m j:=fun i h1 h2=>h i h1 (by omega)
theorem aIy {m:List Zt×List Zt} {k i:Int} (h:lZ m k)(h1:0≤i)(h2:i < k):inF m.1.length (m.2.getD (toNat i) default):=h i h1 h2
end Go.Proofs.YtaeagjnpobdglaaGreat
namespace Go.Proofs.YtaeagjnpobdglaaGreat
open Go.Proofs Go.Aw Go.RowKit
set_option maxRecDepth 100000
theorem hH {a b c:Int} (h:(!qF a b c)=false):b≤a∧a≤c:=by
 unfold qF at h
 by_cases h1:b≤a
 · by_cases h2:a≤c
   · exact⟨h1,h2⟩
   · rw [bW h1,cK h2] at h;simp at h
 · rw [cK h1] at h;simp at h
theorem aCh {a b c:Int} (h:(!F78 a b c)=false):b≤a∧a≤c:=by
 unfold F78 at h
 by_cases h1:b≤a
 · by_cases h2:a≤c
   · exact⟨h1,h2⟩
   · rw [bW (show a≥b from h1),cK h2] at h;simp at h
 · rw [cK (show ¬a≥b from h1)] at h;simp at h
theorem iU {n:Nat} {f:Zt} (hn:n≤64)(h0:(!qF f.1 0 (W ((n:Int) - 1)))=false)(h1:(!qF f.2.1 0 (W ((n:Int) - 1)))=false)(h2:(!qF f.2.2 0 (W ((n:Int) - 1)))=false):inF n f:=by
 have hw:W ((n:Int) - 1)=(n:Int) - 1:=aD (by omega) (by omega)
 have g0:=hH h0;have g1:=hH h1;have g2:=hH h2
 rw [hw] at g0 g1 g2
 exact⟨⟨g0.1,by omega⟩,⟨g1.1,by omega⟩,g2.1,by omega⟩
def eZ (x:Zt):List SV:=[(iv x.1),(iv x.2.1),(iv x.2.2)]
theorem aW (x:Zt):(eZ x).length=3:=rfl
def eO (a0:Zm)(a1:Zt):Zt×Zt×Zt :=
 ((a0.1.getD (toNat a1.1) default),(a0.1.getD (toNat a1.2.1) default),(a0.1.getD (toNat a1.2.2) default))
theorem bBv (a0:Zm)(a1:Zt)(l0_1:a0.1.length≤9223372036854775807)(l0_2:a0.2.length≤9223372036854775807)(hf:inF a0.1.length a1):Con Tryz.prog 101 [(.a [(.s 0 0 a0.1.length 3),(.s 1 0 a0.2.length 3)]),(.a (k3 a1))] [(.live false true (flat dT a0.1)),(.live false true (flat eZ a0.2))] (.a (k9 (eO a0 a1))) []:=by
 refine aJ Tryz.func101 (by kernel_rfl) fun cx hcx=>?_
 have e:=Eq.refl (eO a0 a1);conv at e=>rhs;simp only [eO]
 rw [e]
 exact rt [.i 0 3 (by decide),.i (a1.1) (a0.1.length),.L bL a0.1 a1.1 0 3,.i 1 3 (by decide),.i (a1.2.1) (a0.1.length),.L bL a0.1 a1.2.1 0 3,.i 2 3 (by decide),.i (a1.2.2) (a0.1.length),.L bL a0.1 a1.2.2 0 3] [] [] hcx (by kernel_rfl)
def F69 (a0:Zm)(a1:Zt):Int :=
 (bif (!(qF a1.1 0 (W ((a0.1.length:Int) - 1)))) then
  5
 else
  (bif (!(qF a1.2.1 0 (W ((a0.1.length:Int) - 1)))) then
   5
  else
   (bif (!(qF a1.2.2 0 (W ((a0.1.length:Int) - 1)))) then
    5
   else
    (bif ((((nR (eO (a0.1,a0.2) a1)).1:Int) == 0)&&((((nR (eO (a0.1,a0.2) a1)).2.1:Int) == 0)&&((((nR (eO (a0.1,a0.2) a1)).2.2:Int) == 0)&&true))) then
     6
    else
     0))))
theorem C69 (a0:Zm)(a1:Zt)(l0_1:a0.1.length≤9223372036854775807)(l0_2:a0.2.length≤9223372036854775807)(hn:a0.1.length≤64):Con Tryz.prog 69 [(.a [(.s 0 0 a0.1.length 3),(.s 1 0 a0.2.length 3)]),(.a (k3 a1))] [(.live false true (flat dT a0.1)),(.live false true (flat eZ a0.2))] (iv (F69 a0 a1)) []:=by
 refine aJ Tryz.func69 (by kernel_rfl) fun cx hcx=>?_
 try have hfi:=iU hn h0 h1 h2
 let t0:List (St Tryz.prog):=[.u 200,.T,.i 0 3 (by decide),.c [] (C43 a1.1 0 (W ((a0.1.length:Int) - 1)))]
 cases h0:(!(qF a1.1 0 (W ((a0.1.length:Int) - 1)))) with
 | true =>
  try have hfi:=iU hn h0 h1 h2
  have e:=Eq.refl (F69 a0 a1);conv at e=>rhs;simp only [F69,h0,aH]
  rw [e]
  exact rt (t0++[.d h0]) [] [] hcx (by kernel_rfl)
 | false =>
  try have hfi:=iU hn h0 h1 h2
  let t1:List (St Tryz.prog):=(t0++[.d h0,.u 0,.T,.i 1 3 (by decide),.c [] (C43 a1.2.1 0 (W ((a0.1.length:Int) - 1)))])
  cases h1:(!(qF a1.2.1 0 (W ((a0.1.length:Int) - 1)))) with
  | true =>
   try have hfi:=iU hn h0 h1 h2
   have e:=Eq.refl (F69 a0 a1);conv at e=>rhs;simp only [F69,h0,h1,aH]
   rw [e]
   exact rt (t1++[.d h1]) [] [] hcx (by kernel_rfl)
  | false =>
   try have hfi:=iU hn h0 h1 h2
   let t2:List (St Tryz.prog):=(t1++[.d h1,.u 0,.T,.i 2 3 (by decide),.c [] (C43 a1.2.2 0 (W ((a0.1.length:Int) - 1)))])
   cases h2:(!(qF a1.2.2 0 (W ((a0.1.length:Int) - 1)))) with
   | true =>
    try have hfi:=iU hn h0 h1 h2
    have e:=Eq.refl (F69 a0 a1);conv at e=>rhs;simp only [F69,h0,h1,h2,aH]
    rw [e]
    exact rt (t2++[.d h2]) [] [] hcx (by kernel_rfl)
   | false =>
    try have hfi:=iU hn h0 h1 h2
    let t3:List (St Tryz.prog):=(t2++[.d h2,.u 0,.F,.c [0,1] (bBv (a0.1,a0.2) a1 (by(try simp only [Lt]);omega) (by(try simp only [Lt]);omega) hfi),.c [] (bAg (eO (a0.1,a0.2) a1))])
    cases h3:((((nR (eO (a0.1,a0.2) a1)).1:Int) == 0)&&((((nR (eO (a0.1,a0.2) a1)).2.1:Int) == 0)&&((((nR (eO (a0.1,a0.2) a1)).2.2:Int) == 0)&&true))) with
    | true =>
     try have hfi:=iU hn h0 h1 h2
     have e:=Eq.refl (F69 a0 a1);conv at e=>rhs;simp only [F69,h0,h1,h2,h3,aH]
     rw [e]
     exact rt (t3++[.d h3]) [] [] hcx (by kernel_rfl)
    | false =>
     try have hfi:=iU hn h0 h1 h2
     have e:=Eq.refl (F69 a0 a1);conv at e=>rhs;simp only [F69,h0,h1,h2,h3,aH]
     rw [e]
     exact rt (t3++[.d h3]) [] [] hcx (by kernel_rfl)
theorem mN {m:List Zt×List Zt} {f:Zt} (h:(F69 m f != 0)=false)(hl:m.1.length≤64):inF m.1.length f:=by
 have hw:W ((m.1.length:Int) - 1)=(m.1.length:Int) - 1:=aD (by omega) (by omega)
 unfold F69 at h
 cases h0:(!qF f.1 0 (W ((m.1.length:Int) - 1))) with
 | true=>rw [h0,cond_true] at h;exact absurd h (by decide)
 | false =>
   cases h1:(!qF f.2.1 0 (W ((m.1.length:Int) - 1))) with
   | true=>rw [h0,h1,cond_false,cond_true] at h;exact absurd h (by decide)
   | false =>
     cases h2:(!qF f.2.2 0 (W ((m.1.length:Int) - 1))) with
     | true=>rw [h0,h1,h2,cond_false,cond_false,cond_true] at h;exact absurd h (by decide)
     | false =>
       have g0:=hH h0;have g1:=hH h1;have g2:=hH h2
       rw [hw] at g0 g1 g2
       exact⟨⟨g0.1,by omega⟩,⟨g1.1,by omega⟩,g2.1,by omega⟩
def aUz (x:Zt):SV:=.a (dT x)
theorem K30:KeyOK T0 30 aUz :=
 ⟨fun x=>by kernel_rfl,fun x y=>⟨(((x.1:Int) == y.1)&&(((x.2.1:Int) == y.2.1)&&(((x.2.2:Int) == y.2.2)&&true))),by kernel_rfl,by
     simp only [aUz,dT,iv,SV.a.injEq,List.cons.injEq,SV.v.injEq,Value.int.injEq,Bool.and_eq_true,beq_iff_eq,true_and,and_true]
     constructor<;>intro h<;>omega⟩,fun x y h=>by
     simp only [aUz,dT,iv,SV.a.injEq,List.cons.injEq,SV.v.injEq,Value.int.injEq,true_and,and_true] at h
     simp only [Prod.ext_iff];omega,fun x=>rfl⟩
noncomputable def aQ4:Code:=(aE [1,1,0,1] [] (aG Tryz.f68) []).1
noncomputable def aQ5:List K:=(aE [1,1,0,1] [] (aG Tryz.f68) []).2
def aK0 (a0:Zm)(v1:List (Zt×Bool))(v2:Int):LS:=⟨iH 25 [(3,(.m 2)),(8,(.s 0 0 a0.1.length 3)),(9,(iv (a0.1.length:Int))),(10,(iv v2))],[(.live false true (flat dT a0.1)),(.live false true (flat eZ a0.2)),(.map (cY aUz vB v1))]⟩
def eP (a0:Zm):(List (Zt×Bool))×Int→((List (Zt×Bool))×Int)⊕(Int)
 | (v1,v2) =>
  (bif (decide ((v2:Int) < (a0.1.length:Int))) then
   (bif (!(F36 (a0.1.getD (toNat v2) default) 64)) then
    (.inr 1)
   else
    (bif (aV v1 (a0.1.getD (toNat v2) default) false) then
     (.inr 1)
    else
     (.inl ((cI v1 (a0.1.getD (toNat v2) default) true),(v2+1)))))
  else
   (.inr 0))
theorem bBw (a0:Zm)(l0_1:a0.1.length≤9223372036854775807)(l0_2:a0.2.length≤9223372036854775807) {cx:Cx} (hcx:cx.base=2):∀(n:Nat)(v1:List (Zt×Bool))(v2:Int),0≤v2→toNat ((a0.1.length:Int) - v2) < n→Aw.Good Tryz.prog none 9 (bodyPost Tryz.prog Tryz.f68 (RR cx (iv (aB (eP a0) n (v1,v2))) [] [])) cx [] (.l aQ4 n::aQ5) (aK0 a0 v1 v2):=by
 intro n
 induction n with
 | zero=>intro v1 v2 hi hn;exact absurd hn (iG _)
 | succ n ih =>
   intro v1 v2 hi hn
   refine aI ?_
   cases h0:(decide ((v2:Int) < (a0.1.length:Int))) with
   | true =>
    have q0:=bY h0
    let t1:List (St Tryz.prog):=[.d h0,.i v2 (a0.1.length),.L bL a0.1 v2 0 3,.c [] (C36 (a0.1.getD (toNat v2) default) 64)]
    cases h1:(!(F36 (a0.1.getD (toNat v2) default) 64)) with
    | true =>
     have e:=Eq.refl (eP a0 (v1,v2));conv at e=>rhs;simp only [eP,h0,h1,aH]
     rw [aF,e]
     exact rt (t1++[.d h1]) [] [] hcx (by kernel_rfl)
    | false =>
     let t2:List (St Tryz.prog):=(t1++[.d h1,.mG K30 vB v1 (a0.1.getD (toNat v2) default) false])
     cases h2:(aV v1 (a0.1.getD (toNat v2) default) false) with
     | true =>
      have e:=Eq.refl (eP a0 (v1,v2));conv at e=>rhs;simp only [eP,h0,h1,h2,aH]
      rw [aF,e]
      exact rt (t2++[.d h2]) [] [] hcx (by kernel_rfl)
     | false =>
      have e:=Eq.refl (eP a0 (v1,v2));conv at e=>rhs;simp only [eP,h0,h1,h2,aH]
      rw [aA e]
      refine ba (t2++[.d h2,.mP K30 vB v1 (a0.1.getD (toNat v2) default) true]) [] [3,8,9,10] [2] hcx (m:=n) aQ4 (aQ5) (aK0 a0 (cI v1 (a0.1.getD (toNat v2) default) true) (W (v2+1))) (by kernel_rfl) ?_
      have z0:(W (v2+1))=(v2+1):=aD (by omega) (by omega)
      rw [z0]
      exact ih (cI v1 (a0.1.getD (toNat v2) default) true) (v2+1) (by(try simp only [Ls]);omega) (by(try simp only [Ls]);omega)
   | false =>
    have q0:=cF h0
    have e:=Eq.refl (eP a0 (v1,v2));conv at e=>rhs;simp only [eP,h0,aH]
    rw [aF,e]
    exact rt [.d h0] [] [] hcx (by kernel_rfl)
def F68 (a0:Zm):Int :=
 (aB (eP a0) (toNat ((a0.1.length:Int) - 0)+1) (([]:List (Zt×Bool)),0))
theorem C68 (a0:Zm)(l0_1:a0.1.length≤9223372036854775807)(l0_2:a0.2.length≤9223372036854775807):Con Tryz.prog 68 [(.a [(.s 0 0 a0.1.length 3),(.s 1 0 a0.2.length 3)])] [(.live false true (flat dT a0.1)),(.live false true (flat eZ a0.2))] (iv (F68 a0)) []:=by
 refine aJ Tryz.func68 (by kernel_rfl) fun cx hcx=>?_
 have e:=Eq.refl (F68 a0);conv at e=>rhs;simp only [F68]
 rw [e]
 refine en [] [] [3,8,9,10] [3] hcx aQ4 (aQ5) (aK0 a0 ([]:List (Zt×Bool)) 0) (toNat ((a0.1.length:Int) - 0)+1) (by kernel_rfl) ?_
 exact bBw a0 l0_1 l0_2 hcx (toNat ((a0.1.length:Int) - 0)+1) ([]:List (Zt×Bool)) 0 (by(try simp only [Ls]);omega) (by(try simp only [Ls]);omega)
def bR (a0:Zt):(Int×Int)×(Int×Int)×Int×Int :=
 ((a0.1,a0.2.1),a0.2,(a0.2.2,a0.1))
theorem C71 (a0:Zt):Con Tryz.prog 71 [(.a (k3 a0))] [] (.a [(iv (bR a0).1.1),(iv (bR a0).1.2),(iv (bR a0).2.1.1),(iv (bR a0).2.1.2),(iv (bR a0).2.2.1),(iv (bR a0).2.2.2)]) []:=by
 refine aJ Tryz.func71 (by kernel_rfl) fun cx hcx=>?_
 have e:=Eq.refl (bR a0);conv at e=>rhs;simp only [bR]
 rw [e]
 exact rt [.i 0 3 (by decide),.i 1 3 (by decide),.i 1 3 (by decide),.i 2 3 (by decide),.i 2 3 (by decide),.i 0 3 (by decide)] [] [] hcx (by kernel_rfl)
def aYk (x:Int×Int):List SV:=[(iv x.1),(iv x.2)]
def sP (x:Int×Int):SV:=.a (aYk x)
theorem tP:KeyOK T0 114 sP :=
 ⟨fun x=>by kernel_rfl,fun x y=>⟨(((x.1:Int) == y.1)&&(((x.2:Int) == y.2)&&true)),by kernel_rfl,by
     simp only [sP,aYk,iv,SV.a.injEq,List.cons.injEq,SV.v.injEq,Value.int.injEq,Bool.and_eq_true,beq_iff_eq,true_and,and_true]
     constructor<;>intro h<;>omega⟩,fun x y h=>by
     simp only [sP,aYk,iv,SV.a.injEq,List.cons.injEq,SV.v.injEq,Value.int.injEq,true_and,and_true] at h
     simp only [Prod.ext_iff];omega,fun x=>rfl⟩
noncomputable def aQ6:Code:=(aE [1,1,0,1] [] (aG Tryz.f70) []).1
noncomputable def aQ7:List K:=(aE [1,1,0,1] [] (aG Tryz.f70) []).2
def aK1 (a0:Zm)(v1:List ((Int×Int)×Int))(v2:Int):LS:=⟨iH 30 [(3,(.m 2)),(10,(.s 1 0 a0.2.length 3)),(11,(iv (a0.2.length:Int))),(12,(iv v2))],[(.live false true (flat dT a0.1)),(.live false true (flat eZ a0.2)),(.map (cY sP iv v1))]⟩
def zC (a0:Zm):(List ((Int×Int)×Int))×Int→((List ((Int×Int)×Int))×Int)⊕(List ((Int×Int)×Int))
 | (v1,v2) =>
  (bif (decide ((v2:Int) < (a0.2.length:Int))) then
   (.inl ((cI (cI (cI v1 ((bR (a0.2.getD (toNat v2) default)).1) (W ((aV v1 ((bR (a0.2.getD (toNat v2) default)).1) 0)+1))) ((bR (a0.2.getD (toNat v2) default)).2.1) (W ((aV (cI v1 ((bR (a0.2.getD (toNat v2) default)).1) (W ((aV v1 ((bR (a0.2.getD (toNat v2) default)).1) 0)+1))) ((bR (a0.2.getD (toNat v2) default)).2.1) 0)+1))) ((bR (a0.2.getD (toNat v2) default)).2.2) (W ((aV (cI (cI v1 ((bR (a0.2.getD (toNat v2) default)).1) (W ((aV v1 ((bR (a0.2.getD (toNat v2) default)).1) 0)+1))) ((bR (a0.2.getD (toNat v2) default)).2.1) (W ((aV (cI v1 ((bR (a0.2.getD (toNat v2) default)).1) (W ((aV v1 ((bR (a0.2.getD (toNat v2) default)).1) 0)+1))) ((bR (a0.2.getD (toNat v2) default)).2.1) 0)+1))) ((bR (a0.2.getD (toNat v2) default)).2.2) 0)+1))),(v2+1)))
  else
   (.inr v1))
theorem bBx (a0:Zm)(l0_1:a0.1.length≤9223372036854775807)(l0_2:a0.2.length≤9223372036854775807) {cx:Cx} (hcx:cx.base=2):∀(n:Nat)(v1:List ((Int×Int)×Int))(v2:Int),0≤v2→toNat ((a0.2.length:Int) - v2) < n→Aw.Good Tryz.prog none 9 (bodyPost Tryz.prog Tryz.f70 (RR cx (.m 2) [(.map (cY sP iv (aB (zC a0) n (v1,v2))))] [])) cx [] (.l aQ6 n::aQ7) (aK1 a0 v1 v2):=by
 intro n
 induction n with
 | zero=>intro v1 v2 hi hn;exact absurd hn (iG _)
 | succ n ih =>
   intro v1 v2 hi hn
   refine aI ?_
   cases h0:(decide ((v2:Int) < (a0.2.length:Int))) with
   | true =>
    have q0:=bY h0
    have e:=Eq.refl (zC a0 (v1,v2));conv at e=>rhs;simp only [zC,h0,aH]
    rw [aA e]
    refine ba [.d h0,.i v2 (a0.2.length),.L aW a0.2 v2 0 3,.c [] (C71 (a0.2.getD (toNat v2) default)),.u 200,.T,.i 0 3 (by decide),.mGa tP iv v1 ((bR (a0.2.getD (toNat v2) default)).1) 0 2,.mE tP iv v1 ((bR (a0.2.getD (toNat v2) default)).1) 0,.mS tP iv v1 ((bR (a0.2.getD (toNat v2) default)).1) 0 (W ((aV v1 ((bR (a0.2.getD (toNat v2) default)).1) 0)+1)),.mR sP iv v1 ((bR (a0.2.getD (toNat v2) default)).1) 0,.u 0,.T,.i 1 3 (by decide),.mGa tP iv (cI v1 ((bR (a0.2.getD (toNat v2) default)).1) (W ((aV v1 ((bR (a0.2.getD (toNat v2) default)).1) 0)+1))) ((bR (a0.2.getD (toNat v2) default)).2.1) 0 2,.mE tP iv (cI v1 ((bR (a0.2.getD (toNat v2) default)).1) (W ((aV v1 ((bR (a0.2.getD (toNat v2) default)).1) 0)+1))) ((bR (a0.2.getD (toNat v2) default)).2.1) 0,.mS tP iv (cI v1 ((bR (a0.2.getD (toNat v2) default)).1) (W ((aV v1 ((bR (a0.2.getD (toNat v2) default)).1) 0)+1))) ((bR (a0.2.getD (toNat v2) default)).2.1) 0 (W ((aV (cI v1 ((bR (a0.2.getD (toNat v2) default)).1) (W ((aV v1 ((bR (a0.2.getD (toNat v2) default)).1) 0)+1))) ((bR (a0.2.getD (toNat v2) default)).2.1) 0)+1)),.mR sP iv (cI v1 ((bR (a0.2.getD (toNat v2) default)).1) (W ((aV v1 ((bR (a0.2.getD (toNat v2) default)).1) 0)+1))) ((bR (a0.2.getD (toNat v2) default)).2.1) 0,.u 0,.T,.i 2 3 (by decide),.mGa tP iv (cI (cI v1 ((bR (a0.2.getD (toNat v2) default)).1) (W ((aV v1 ((bR (a0.2.getD (toNat v2) default)).1) 0)+1))) ((bR (a0.2.getD (toNat v2) default)).2.1) (W ((aV (cI v1 ((bR (a0.2.getD (toNat v2) default)).1) (W ((aV v1 ((bR (a0.2.getD (toNat v2) default)).1) 0)+1))) ((bR (a0.2.getD (toNat v2) default)).2.1) 0)+1))) ((bR (a0.2.getD (toNat v2) default)).2.2) 0 2,.mE tP iv (cI (cI v1 ((bR (a0.2.getD (toNat v2) default)).1) (W ((aV v1 ((bR (a0.2.getD (toNat v2) default)).1) 0)+1))) ((bR (a0.2.getD (toNat v2) default)).2.1) (W ((aV (cI v1 ((bR (a0.2.getD (toNat v2) default)).1) (W ((aV v1 ((bR (a0.2.getD (toNat v2) default)).1) 0)+1))) ((bR (a0.2.getD (toNat v2) default)).2.1) 0)+1))) ((bR (a0.2.getD (toNat v2) default)).2.2) 0,.mS tP iv (cI (cI v1 ((bR (a0.2.getD (toNat v2) default)).1) (W ((aV v1 ((bR (a0.2.getD (toNat v2) default)).1) 0)+1))) ((bR (a0.2.getD (toNat v2) default)).2.1) (W ((aV (cI v1 ((bR (a0.2.getD (toNat v2) default)).1) (W ((aV v1 ((bR (a0.2.getD (toNat v2) default)).1) 0)+1))) ((bR (a0.2.getD (toNat v2) default)).2.1) 0)+1))) ((bR (a0.2.getD (toNat v2) default)).2.2) 0 (W ((aV (cI (cI v1 ((bR (a0.2.getD (toNat v2) default)).1) (W ((aV v1 ((bR (a0.2.getD (toNat v2) default)).1) 0)+1))) ((bR (a0.2.getD (toNat v2) default)).2.1) (W ((aV (cI v1 ((bR (a0.2.getD (toNat v2) default)).1) (W ((aV v1 ((bR (a0.2.getD (toNat v2) default)).1) 0)+1))) ((bR (a0.2.getD (toNat v2) default)).2.1) 0)+1))) ((bR (a0.2.getD (toNat v2) default)).2.2) 0)+1)),.mR sP iv (cI (cI v1 ((bR (a0.2.getD (toNat v2) default)).1) (W ((aV v1 ((bR (a0.2.getD (toNat v2) default)).1) 0)+1))) ((bR (a0.2.getD (toNat v2) default)).2.1) (W ((aV (cI v1 ((bR (a0.2.getD (toNat v2) default)).1) (W ((aV v1 ((bR (a0.2.getD (toNat v2) default)).1) 0)+1))) ((bR (a0.2.getD (toNat v2) default)).2.1) 0)+1))) ((bR (a0.2.getD (toNat v2) default)).2.2) 0,.u 0,.F] [] [3,10,11,12] [2] hcx (m:=n) aQ6 (aQ7) (aK1 a0 (cI (cI (cI v1 ((bR (a0.2.getD (toNat v2) default)).1) (W ((aV v1 ((bR (a0.2.getD (toNat v2) default)).1) 0)+1))) ((bR (a0.2.getD (toNat v2) default)).2.1) (W ((aV (cI v1 ((bR (a0.2.getD (toNat v2) default)).1) (W ((aV v1 ((bR (a0.2.getD (toNat v2) default)).1) 0)+1))) ((bR (a0.2.getD (toNat v2) default)).2.1) 0)+1))) ((bR (a0.2.getD (toNat v2) default)).2.2) (W ((aV (cI (cI v1 ((bR (a0.2.getD (toNat v2) default)).1) (W ((aV v1 ((bR (a0.2.getD (toNat v2) default)).1) 0)+1))) ((bR (a0.2.getD (toNat v2) default)).2.1) (W ((aV (cI v1 ((bR (a0.2.getD (toNat v2) default)).1) (W ((aV v1 ((bR (a0.2.getD (toNat v2) default)).1) 0)+1))) ((bR (a0.2.getD (toNat v2) default)).2.1) 0)+1))) ((bR (a0.2.getD (toNat v2) default)).2.2) 0)+1))) (W (v2+1))) (by kernel_rfl) ?_
    have z0:(W (v2+1))=(v2+1):=aD (by omega) (by omega)
    rw [z0]
    exact ih (cI (cI (cI v1 ((bR (a0.2.getD (toNat v2) default)).1) (W ((aV v1 ((bR (a0.2.getD (toNat v2) default)).1) 0)+1))) ((bR (a0.2.getD (toNat v2) default)).2.1) (W ((aV (cI v1 ((bR (a0.2.getD (toNat v2) default)).1) (W ((aV v1 ((bR (a0.2.getD (toNat v2) default)).1) 0)+1))) ((bR (a0.2.getD (toNat v2) default)).2.1) 0)+1))) ((bR (a0.2.getD (toNat v2) default)).2.2) (W ((aV (cI (cI v1 ((bR (a0.2.getD (toNat v2) default)).1) (W ((aV v1 ((bR (a0.2.getD (toNat v2) default)).1) 0)+1))) ((bR (a0.2.getD (toNat v2) default)).2.1) (W ((aV (cI v1 ((bR (a0.2.getD (toNat v2) default)).1) (W ((aV v1 ((bR (a0.2.getD (toNat v2) default)).1) 0)+1))) ((bR (a0.2.getD (toNat v2) default)).2.1) 0)+1))) ((bR (a0.2.getD (toNat v2) default)).2.2) 0)+1))) (v2+1) (by(try simp only [Ls]);omega) (by(try simp only [Ls]);omega)
   | false =>
    have q0:=cF h0
    have e:=Eq.refl (zC a0 (v1,v2));conv at e=>rhs;simp only [zC,h0,aH]
    rw [aF,e]
    exact rt [.d h0] [] [2] hcx (by kernel_rfl)
def zD (a0:Zm):List ((Int×Int)×Int) :=
 (aB (zC a0) (toNat ((a0.2.length:Int) - 0)+1) (([]:List ((Int×Int)×Int)),0))
theorem C70 (a0:Zm)(l0_1:a0.1.length≤9223372036854775807)(l0_2:a0.2.length≤9223372036854775807):Con Tryz.prog 70 [(.a [(.s 0 0 a0.1.length 3),(.s 1 0 a0.2.length 3)])] [(.live false true (flat dT a0.1)),(.live false true (flat eZ a0.2))] (.m 2) [(.map (cY sP iv (zD a0)))]:=by
 refine aJ Tryz.func70 (by kernel_rfl) fun cx hcx=>?_
 have e:=Eq.refl (zD a0);conv at e=>rhs;simp only [zD]
 rw [e]
 refine en [] [] [3,10,11,12] [3] hcx aQ6 (aQ7) (aK1 a0 ([]:List ((Int×Int)×Int)) 0) (toNat ((a0.2.length:Int) - 0)+1) (by kernel_rfl) ?_
 exact bBx a0 l0_1 l0_2 hcx (toNat ((a0.2.length:Int) - 0)+1) ([]:List ((Int×Int)×Int)) 0 (by(try simp only [Ls]);omega) (by(try simp only [Ls]);omega)
noncomputable def aK2:Code:=(aE [1,1,0,1] [] (aG Tryz.f102) []).1
noncomputable def aK3:List K:=(aE [1,1,0,1] [] (aG Tryz.f102) []).2
def aGi (a0:Zm)(v2c:List SV)(v2n:Nat)(v3:Int):LS:=⟨iH 21 [(1,(.p 2 0)),(3,(.s 3 0 v2n 9)),(7,(.s 1 0 a0.2.length 3)),(8,(iv (a0.2.length:Int))),(9,(iv v3))],[(.live false true (flat dT a0.1)),(.live false true (flat eZ a0.2)),(.live true false [(.s 0 0 a0.1.length 3),(.s 1 0 a0.2.length 3)]),(.live true true v2c)]⟩
def oR (a0:Zm):(List (Zt×Zt×Zt))×Int→((List (Zt×Zt×Zt))×Int)⊕(List (Zt×Zt×Zt))
 | (v2,v3) =>
  (bif (decide ((v3:Int) < (a0.2.length:Int))) then
   (.inl ((v2++[(eO (a0.1,a0.2) (a0.2.getD (toNat v3) default))]),(v3+1)))
  else
   (.inr v2))
theorem aYl (a0:Zm)(l0_1:a0.1.length≤9223372036854775807)(l0_2:a0.2.length≤9223372036854775807)(hv:lZ a0 a0.2.length)(hn:a0.2.length≤96) {cx:Cx} (hcx:cx.base=2):∀(n:Nat)(v2:List (Zt×Zt×Zt))(v3:Int),(0≤v3)∧(v2.length=toNat v3)∧(v3≤a0.2.length)→toNat ((a0.2.length:Int) - v3) < n→Aw.Good Tryz.prog none 9 (bodyPost Tryz.prog Tryz.f102 (RR cx (.s 2 0 (aB (oR a0) n (v2,v3)).length 9) [(.live true true (flat dK (aB (oR a0) n (v2,v3))))] [])) cx [] (.l aK2 n::aK3) (aGi a0 (flat dK v2) v2.length v3):=by
 intro n
 induction n with
 | zero=>intro v2 v3 hi hn;exact absurd hn (iG _)
 | succ n ih =>
   intro v2 v3 hi hn
   refine aI ?_
   cases h0:(decide ((v3:Int) < (a0.2.length:Int))) with
   | true =>
    have q0:=bY h0
    have e:=Eq.refl (oR a0 (v2,v3));conv at e=>rhs;simp only [oR,h0,aH]
    rw [aA e]
    refine ba [.d h0,.i v3 (a0.2.length),.L aW a0.2 v3 0 3,.c [0,1] (bBv (a0.1,a0.2) (a0.2.getD (toNat v3) default) (by(try simp only [Lt]);omega) (by(try simp only [Lt]);omega) (aIy hv (by omega) (by omega))),.p (show((flat dK v2).length=v2.length*9∧v2.length+1≤2 ^ 40∧(v2.length+1)*72≤2 ^ 47) from gG cV (by omega) (by omega))] [] [1,3,7,8,9] [2,6] hcx (m:=n) aK2 (aK3) (aGi a0 (flat dK v2++(k9 (eO (a0.1,a0.2) (a0.2.getD (toNat v3) default)))) (v2.length+1) (W (v3+1))) (by kernel_rfl) ?_
    have z0:(W (v3+1))=(v3+1):=aD (by omega) (by omega)
    have z1:(flat dK v2++(k9 (eO (a0.1,a0.2) (a0.2.getD (toNat v3) default))))=(flat dK (v2++[(eO (a0.1,a0.2) (a0.2.getD (toNat v3) default))])):=(bN (c:=dK) (l:=v2) (m:=[(eO (a0.1,a0.2) (a0.2.getD (toNat v3) default))])).symm
    have z2:(v2.length+1)=(v2++[(eO (a0.1,a0.2) (a0.2.getD (toNat v3) default))]).length:=eH v2 [(eO (a0.1,a0.2) (a0.2.getD (toNat v3) default))] rfl
    rw [z0,z1,z2]
    exact ih (v2++[(eO (a0.1,a0.2) (a0.2.getD (toNat v3) default))]) (v3+1) (by refine⟨?_,?_,?_⟩<;>(try simp only [Ls])<;>first | omega | assumption | simp) (by(try simp only [Ls]);omega)
   | false =>
    have q0:=cF h0
    have e:=Eq.refl (oR a0 (v2,v3));conv at e=>rhs;simp only [oR,h0,aH]
    rw [aF,e]
    exact rt [.d h0] [] [3] hcx (by kernel_rfl)
def gA (a0:Zm):List (Zt×Zt×Zt) :=
 (aB (oR a0) (toNat ((a0.2.length:Int) - 0)+1) (([]:List (Zt×Zt×Zt)),0))
theorem bBy (a0:Zm)(l0_1:a0.1.length≤9223372036854775807)(l0_2:a0.2.length≤9223372036854775807)(hv:lZ a0 a0.2.length)(hn:a0.2.length≤96):Con Tryz.prog 102 [(.a [(.s 0 0 a0.1.length 3),(.s 1 0 a0.2.length 3)])] [(.live false true (flat dT a0.1)),(.live false true (flat eZ a0.2))] (.s 2 0 (gA a0).length 9) [(.live true true (flat dK (gA a0)))]:=by
 refine aJ Tryz.func102 (by kernel_rfl) fun cx hcx=>?_
 have e:=Eq.refl (gA a0);conv at e=>rhs;simp only [gA]
 rw [e]
 refine en [] [.slot 3 9] [1,3,7,8,9] [2,3] hcx aK2 (aK3) (aGi a0 (flat dK ([]:List (Zt×Zt×Zt))) 0 0) (toNat ((a0.2.length:Int) - 0)+1) (by kernel_rfl) ?_
 exact aYl a0 l0_1 l0_2 hv hn hcx (toNat ((a0.2.length:Int) - 0)+1) ([]:List (Zt×Zt×Zt)) 0 (by refine⟨?_,?_,?_⟩<;>(try simp only [Ls])<;>first | omega | assumption | simp) (by(try simp only [Ls]);omega)
theorem aGj (m:List Zt×List Zt):gA m=m.2.map (eO m):=by
 unfold gA
 rw [show(toNat ((m.2.length:Int) - 0)+1)=m.2.length+1 by omega]
 rw [aZ (fun v i=>(v,i)) (fun v c=>.inl (v++[eO m c])) (fun v=>v) (L:=m.2) (fun _ _=>True) ?_ (fun _ _ _ _ _ _ _=>trivial) ?_ (by omega) trivial]
 · have key:∀(l:List Zt) (v:List (Zt×Zt×Zt)),iT (σ:=List (Zt×Zt×Zt)) (R:=List (Zt×Zt×Zt)) (fun v c=>.inl (v++[eO m c])) l v=.inl (v++l.map (eO m)):=by
     intro l
     induction l with
     | nil=>intro v;simp [iT]
     | cons c l ih=>intro v;simp only [iT];rw [ih];simp
   rw [key];simp [aCf]
 · intro i c hc v _
   obtain⟨hlt,hce⟩:=List.getElem?_eq_some_iff.1 hc
   simp only [oR]
   rw [bW (by omega),cond_true,uJ,fO,hc]
   rfl
 · intro v _
   simp only [oR]
   rw [cK (by omega),cond_false]
theorem aU0 (m:List Zt×List Zt):(gA m).length=m.2.length:=by rw [aGj,List.length_map]
def aU1 (a0:Zt)(a1:Zt):Int :=
 (W ((W ((W (a0.1*a1.1))+(W (a0.2.1*a1.2.1))))+(W (a0.2.2*a1.2.2))))
theorem bE1 (a0:Zt)(a1:Zt):Con Tryz.prog 132 [(.a (k3 a0)),(.a (k3 a1))] [] (iv (aU1 a0 a1)) []:=by
 refine aJ Tryz.func132 (by kernel_rfl) fun cx hcx=>?_
 have e:=Eq.refl (aU1 a0 a1);conv at e=>rhs;simp only [aU1]
 rw [e]
 exact rt [] [] [] hcx (by kernel_rfl)
def aDw (a0:Zt×Zt×Zt):Int :=
 (aU1 a0.1 (aKc a0.2.1 a0.2.2))
theorem bE2 (a0:Zt×Zt×Zt):Con Tryz.prog 103 [(.a (k9 a0))] [] (iv (aDw a0)) []:=by
 refine aJ Tryz.func103 (by kernel_rfl) fun cx hcx=>?_
 have e:=Eq.refl (aDw a0);conv at e=>rhs;simp only [aDw]
 rw [e]
 exact rt [.c [] (bAf a0.2.1 a0.2.2),.c [] (bE1 a0.1 (aKc a0.2.1 a0.2.2))] [] [] hcx (by kernel_rfl)
noncomputable def aQ8:Code:=(aE [1,1,0,1] [] (aG Tryz.f73) []).1
noncomputable def aQ9:List K:=(aE [1,1,0,1] [] (aG Tryz.f73) []).2
def aK4 (a0:Zm)(v1 v2:Int):LS:=⟨iH 19 [(3,(iv v1)),(7,(.s 2 0 (gA (a0.1,a0.2)).length 9)),(8,(iv (((gA (a0.1,a0.2)).length:Nat):Int))),(9,(iv v2))],[(.live false true (flat dT a0.1)),(.live false true (flat eZ a0.2)),(.live true true (flat dK (gA (a0.1,a0.2))))]⟩
def zE (a0:Zm):Int×Int→(Int×Int)⊕(Int)
 | (v1,v2) =>
  (bif (decide ((v2:Int) < (((gA (a0.1,a0.2)).length:Nat):Int))) then
   (.inl ((W (v1+(aDw ((gA (a0.1,a0.2)).getD (toNat v2) default)))),(v2+1)))
  else
   (.inr v1))
theorem bBz (a0:Zm)(l0_1:a0.1.length≤9223372036854775807)(l0_2:a0.2.length≤9223372036854775807)(hv:lZ a0 a0.2.length)(hn:a0.2.length≤96) {cx:Cx} (hcx:cx.base=2):∀(n:Nat)(v1 v2:Int),0≤v2→toNat ((((gA (a0.1,a0.2)).length:Nat):Int) - v2) < n→Aw.Good Tryz.prog none 9 (bodyPost Tryz.prog Tryz.f73 (RR cx (iv (aB (zE a0) n (v1,v2))) [] [])) cx [] (.l aQ8 n::aQ9) (aK4 a0 v1 v2):=by
 intro n
 induction n with
 | zero=>intro v1 v2 hi hn;exact absurd hn (iG _)
 | succ n ih =>
   intro v1 v2 hi hn
   refine aI ?_
   have hpl:(gA (a0.1,a0.2)).length=a0.2.length:=aU0 a0
   cases h0:(decide ((v2:Int) < (((gA (a0.1,a0.2)).length:Nat):Int))) with
   | true =>
    have q0:=bY h0
    have e:=Eq.refl (zE a0 (v1,v2));conv at e=>rhs;simp only [zE,h0,aH]
    rw [aA e]
    refine ba [.d h0,.i v2 ((gA (a0.1,a0.2)).length),.L cV (gA (a0.1,a0.2)) v2 0 9,.c [] (bE2 ((gA (a0.1,a0.2)).getD (toNat v2) default))] [] [3,7,8,9] [2] hcx (m:=n) aQ8 (aQ9) (aK4 a0 (W (v1+(aDw ((gA (a0.1,a0.2)).getD (toNat v2) default)))) (W (v2+1))) (by kernel_rfl) ?_
    have z0:(W (v2+1))=(v2+1):=aD (by omega) (by omega)
    rw [z0]
    exact ih (W (v1+(aDw ((gA (a0.1,a0.2)).getD (toNat v2) default)))) (v2+1) (by(try simp only [Ls]);omega) (by(try simp only [Ls]);omega)
   | false =>
    have q0:=cF h0
    have e:=Eq.refl (zE a0 (v1,v2));conv at e=>rhs;simp only [zE,h0,aH]
    rw [aF,e]
    exact rt [.d h0] [] [] hcx (by kernel_rfl)
def F73 (a0:Zm):Int :=
 (aB (zE a0) (toNat ((((gA (a0.1,a0.2)).length:Nat):Int) - 0)+1) (0,0))
theorem C73 (a0:Zm)(l0_1:a0.1.length≤9223372036854775807)(l0_2:a0.2.length≤9223372036854775807)(hv:lZ a0 a0.2.length)(hn:a0.2.length≤96):Con Tryz.prog 73 [(.a [(.s 0 0 a0.1.length 3),(.s 1 0 a0.2.length 3)])] [(.live false true (flat dT a0.1)),(.live false true (flat eZ a0.2))] (iv (F73 a0)) []:=by
 refine aJ Tryz.func73 (by kernel_rfl) fun cx hcx=>?_
 have e:=Eq.refl (F73 a0);conv at e=>rhs;simp only [F73]
 rw [e]
 refine en [.c [0,1] (bBy (a0.1,a0.2) (by(try simp only [Lt]);omega) (by(try simp only [Lt]);omega) hv hn)] [] [3,7,8,9] [3] hcx aQ8 (aQ9) (aK4 a0 0 0) (toNat ((((gA (a0.1,a0.2)).length:Nat):Int) - 0)+1) (by kernel_rfl) ?_
 exact bBz a0 l0_1 l0_2 hv hn hcx (toNat ((((gA (a0.1,a0.2)).length:Nat):Int) - 0)+1) 0 0 (by(try simp only [Ls]);omega) (by(try simp only [Ls]);omega)
def c4 (x:Bool):List SV:=[(.v (.bool x))]
theorem eQ (x:Bool):(c4 x).length=1:=rfl
def F72 (a0:Int×Int):Int×Int :=
 (a0.2,a0.1)
theorem C72 (a0:Int×Int):Con Tryz.prog 72 [(.a [(iv a0.1),(iv a0.2)])] [] (.a (k2 (F72 a0))) []:=by
 refine aJ Tryz.func72 (by kernel_rfl) fun cx hcx=>?_
 have e:=Eq.refl (F72 a0);conv at e=>rhs;simp only [F72]
 rw [e]
 exact rt [.i 1 2 (by decide),.i 0 2 (by decide)] [] [] hcx (by kernel_rfl)
noncomputable def aRa:Code:=(aE [1,1,1,1,1,1,1,0,1] [] (aG Tryz.f35) []).1
noncomputable def aRb:List K:=(aE [1,1,1,1,1,1,1,0,1] [] (aG Tryz.f35) []).2
def aK5 (a0:Zm)(v8c:List SV)(v8n:Nat)(v9 v10:Int):LS:=⟨iH 98 [(1,(.p 2 0)),(86,(.s 3 0 v8n 1)),(87,(iv v9)),(88,(iv v10))],[(.live false true (flat dT a0.1)),(.live false true (flat eZ a0.2)),(.live true false [(.s 0 0 a0.1.length 3),(.s 1 0 a0.2.length 3)]),(.live true true v8c)]⟩
def kG (a0:Zm):List (Bool)×Int×Int→(List (Bool)×Int×Int)⊕(Int)
 | (v8,v9,v10) =>
  (bif (decide ((v10:Int) < v9)) then
   (bif (!(v8.getD (toNat v10) default)) then
    (.inr 5)
   else
    (.inl (v8,v9,(v10+1))))
  else
   (bif (decide (((F73 (a0.1,a0.2)):Int)≤0)) then
    (.inr 8)
   else
    (.inr 0)))
noncomputable def aRc:Code:=(aE [1,1,1,1,1,1,0,1] [] (aG Tryz.f35) []).1
noncomputable def aRd:List K:=(aE [1,1,1,1,1,1,0,1] [] (aG Tryz.f35) []).2
def aK6 (a0:Zm)(v4c:List SV)(v4n:Nat)(v5:Int):LS:=⟨iH 98 [(1,(.p 2 0)),(4,(.s 3 0 v4n 1)),(10,(.m 4)),(62,(.s 1 0 a0.2.length 3)),(63,(iv (a0.2.length:Int))),(64,(iv v5))],[(.live false true (flat dT a0.1)),(.live false true (flat eZ a0.2)),(.live true false [(.s 0 0 a0.1.length 3),(.s 1 0 a0.2.length 3)]),(.live true true v4c),(.map (cY sP iv (zD (a0.1,a0.2))))]⟩
def gQ (a0:Zm):List (Bool)×Int→(List (Bool)×Int)⊕(Int)
 | (v4,v5) =>
  (bif (decide ((v5:Int) < (a0.2.length:Int))) then
   (bif (((aV (zD (a0.1,a0.2)) ((bR (a0.2.getD (toNat v5) default)).1) 0):Int) != 1) then
    (.inr 7)
   else
    (bif (((aV (zD (a0.1,a0.2)) (F72 (bR (a0.2.getD (toNat v5) default)).1) 0):Int) != 1) then
     (.inr 7)
    else
     (bif (((aV (zD (a0.1,a0.2)) ((bR (a0.2.getD (toNat v5) default)).2.1) 0):Int) != 1) then
      (.inr 7)
     else
      (bif (((aV (zD (a0.1,a0.2)) (F72 (bR (a0.2.getD (toNat v5) default)).2.1) 0):Int) != 1) then
       (.inr 7)
      else
       (bif (((aV (zD (a0.1,a0.2)) ((bR (a0.2.getD (toNat v5) default)).2.2) 0):Int) != 1) then
        (.inr 7)
       else
        (bif (((aV (zD (a0.1,a0.2)) (F72 (bR (a0.2.getD (toNat v5) default)).2.2) 0):Int) != 1) then
         (.inr 7)
        else
         (.inl (v4,(v5+1)))))))))
  else
   (.inr (aB (kG a0) (toNat ((v4.length:Int) - 0)+1) (v4,(v4.length:Int),0))))
noncomputable def aRe:Code:=(aE [1,1,1,1,0,1] [] (aG Tryz.f35) []).1
noncomputable def aRf:List K:=(aE [1,1,1,1,0,1] [] (aG Tryz.f35) []).2
def aK7 (a0:Zm)(v1c:List SV)(v1n:Nat)(v2:Int):LS:=⟨iH 98 [(1,(.p 2 0)),(4,(.s 3 0 v1n 1)),(38,(.s 1 0 a0.2.length 3)),(39,(iv (a0.2.length:Int))),(40,(iv v2))],[(.live false true (flat dT a0.1)),(.live false true (flat eZ a0.2)),(.live true false [(.s 0 0 a0.1.length 3),(.s 1 0 a0.2.length 3)]),(.live true true v1c)]⟩
def kH (a0:Zm):List (Bool)×Int→(List (Bool)×Int)⊕(Int)
 | (v1,v2) =>
  (bif (decide ((v2:Int) < (a0.2.length:Int))) then
   (bif (((F69 (a0.1,a0.2) (a0.2.getD (toNat v2) default)):Int) != 0) then
    (.inr (F69 (a0.1,a0.2) (a0.2.getD (toNat v2) default)))
   else
    (.inl ((((v1.set (toNat (a0.2.getD (toNat v2) default).1) true).set (toNat (a0.2.getD (toNat v2) default).2.1) true).set (toNat (a0.2.getD (toNat v2) default).2.2) true),(v2+1))))
  else
   (.inr (aB (gQ a0) (toNat ((a0.2.length:Int) - 0)+1) (v1,0))))
theorem bB0 (a0:Zm)(l0_1:a0.1.length≤9223372036854775807)(l0_2:a0.2.length≤9223372036854775807) {cx:Cx} (hcx:cx.base=2):∀(n:Nat)(v8:List (Bool))(v9 v10:Int),(0≤v10)∧(lZ a0 a0.2.length)∧(a0.1.length≤64)∧(a0.2.length≤96)∧(v9=(v8.length:Int))∧(v8.length=a0.1.length)→toNat (v9 - v10) < n→Aw.Good Tryz.prog none 9 (bodyPost Tryz.prog Tryz.f35 (RR cx (iv (aB (kG a0) n (v8,v9,v10))) [] [])) cx [] (.l aRa n::aRb) (aK5 a0 (flat c4 v8) v8.length v9 v10):=by
 intro n
 induction n with
 | zero=>intro v8 v9 v10 hi hn;exact absurd hn (iG _)
 | succ n ih =>
   intro v8 v9 v10 hi hn
   refine aI ?_
   cases h0:(decide ((v10:Int) < v9)) with
   | true =>
    have q0:=bY h0
    let t1:List (St Tryz.prog):=[.d h0,.i v10 (v8.length),.L eQ v8 v10 0 1]
    cases h1:(!(v8.getD (toNat v10) default)) with
    | true =>
     have e:=Eq.refl (kG a0 (v8,v9,v10));conv at e=>rhs;simp only [kG,h0,h1,aH]
     rw [aF,e]
     exact rt (t1++[.d h1]) [] [] hcx (by kernel_rfl)
    | false =>
     have e:=Eq.refl (kG a0 (v8,v9,v10));conv at e=>rhs;simp only [kG,h0,h1,aH]
     rw [aA e]
     refine ba (t1++[.d h1]) [] [1,86,87,88] [2,3] hcx (m:=n) aRa (aRb) (aK5 a0 (flat c4 v8) (v8.length) v9 (W (v10+1))) (by kernel_rfl) ?_
     have z0:(W (v10+1))=(v10+1):=aD (by omega) (by omega)
     rw [z0]
     exact ih v8 v9 (v10+1) (by refine⟨?_,?_,?_,?_,?_,?_⟩<;>first | omega | assumption | exact kR | exact hi.2.1 | exact hi.2.2.1 | exact gU hi.2.2.1 (by omega) | exact dL hi.2.2.1 hfo | exact dL hi.2.2.1 (by refine⟨⟨?_,?_⟩,⟨?_,?_⟩,?_,?_⟩<;>omega) | (simp only [List.length_replicate,List.length_set];omega)) (by(try simp only [Ls]);omega)
   | false =>
    have q0:=cF h0
    let t1:List (St Tryz.prog):=[.d h0,.c [0,1] (C73 (a0.1,a0.2) (by(try simp only [Lt]);omega) (by(try simp only [Lt]);omega) hi.2.1 (by show a0.2.length≤96;omega))]
    cases h1:(decide (((F73 (a0.1,a0.2)):Int)≤0)) with
    | true =>
     have q1:=bY h1
     have e:=Eq.refl (kG a0 (v8,v9,v10));conv at e=>rhs;simp only [kG,h0,h1,aH]
     rw [aF,e]
     exact rt (t1++[.d h1]) [] [] hcx (by kernel_rfl)
    | false =>
     have q1:=cF h1
     have e:=Eq.refl (kG a0 (v8,v9,v10));conv at e=>rhs;simp only [kG,h0,h1,aH]
     rw [aF,e]
     exact rt (t1++[.d h1]) [] [] hcx (by kernel_rfl)
theorem bB1 (a0:Zm)(l0_1:a0.1.length≤9223372036854775807)(l0_2:a0.2.length≤9223372036854775807) {cx:Cx} (hcx:cx.base=2):∀(n:Nat)(v4:List (Bool))(v5:Int),(0≤v5)∧(lZ a0 a0.2.length)∧(a0.1.length≤64)∧(a0.2.length≤96)∧(v4.length=a0.1.length)→toNat ((a0.2.length:Int) - v5) < n→Aw.Good Tryz.prog none 9 (bodyPost Tryz.prog Tryz.f35 (RR cx (iv (aB (gQ a0) n (v4,v5))) [] [])) cx [] (.l aRc n::aRd) (aK6 a0 (flat c4 v4) v4.length v5):=by
 intro n
 induction n with
 | zero=>intro v4 v5 hi hn;exact absurd hn (iG _)
 | succ n ih =>
   intro v4 v5 hi hn
   refine aI ?_
   cases h0:(decide ((v5:Int) < (a0.2.length:Int))) with
   | true =>
    have q0:=bY h0
    let t1:List (St Tryz.prog):=[.d h0,.i v5 (a0.2.length),.L aW a0.2 v5 0 3,.c [] (C71 (a0.2.getD (toNat v5) default)),.u 200,.T,.i 0 3 (by decide),.mG tP iv (zD (a0.1,a0.2)) ((bR (a0.2.getD (toNat v5) default)).1) 0]
    cases h1:(((aV (zD (a0.1,a0.2)) ((bR (a0.2.getD (toNat v5) default)).1) 0):Int) != 1) with
    | true =>
     have q1:=bne_iff_ne.1 h1
     have e:=Eq.refl (gQ a0 (v4,v5));conv at e=>rhs;simp only [gQ,h0,h1,aH]
     rw [aF,e]
     exact rt (t1++[.d h1]) [] [] hcx (by kernel_rfl)
    | false =>
     have q1:=bne_eq_false_iff_eq.1 h1
     let t2:List (St Tryz.prog):=(t1++[.d h1,.c [] (C72 (bR (a0.2.getD (toNat v5) default)).1),.mG tP iv (zD (a0.1,a0.2)) (F72 (bR (a0.2.getD (toNat v5) default)).1) 0])
     cases h2:(((aV (zD (a0.1,a0.2)) (F72 (bR (a0.2.getD (toNat v5) default)).1) 0):Int) != 1) with
     | true =>
      have q2:=bne_iff_ne.1 h2
      have e:=Eq.refl (gQ a0 (v4,v5));conv at e=>rhs;simp only [gQ,h0,h1,h2,aH]
      rw [aF,e]
      exact rt (t2++[.d h2]) [] [] hcx (by kernel_rfl)
     | false =>
      have q2:=bne_eq_false_iff_eq.1 h2
      let t3:List (St Tryz.prog):=(t2++[.d h2,.u 0,.T,.i 1 3 (by decide),.mG tP iv (zD (a0.1,a0.2)) ((bR (a0.2.getD (toNat v5) default)).2.1) 0])
      cases h3:(((aV (zD (a0.1,a0.2)) ((bR (a0.2.getD (toNat v5) default)).2.1) 0):Int) != 1) with
      | true =>
       have q3:=bne_iff_ne.1 h3
       have e:=Eq.refl (gQ a0 (v4,v5));conv at e=>rhs;simp only [gQ,h0,h1,h2,h3,aH]
       rw [aF,e]
       exact rt (t3++[.d h3]) [] [] hcx (by kernel_rfl)
      | false =>
       have q3:=bne_eq_false_iff_eq.1 h3
       let t4:List (St Tryz.prog):=(t3++[.d h3,.c [] (C72 (bR (a0.2.getD (toNat v5) default)).2.1),.mG tP iv (zD (a0.1,a0.2)) (F72 (bR (a0.2.getD (toNat v5) default)).2.1) 0])
       cases h4:(((aV (zD (a0.1,a0.2)) (F72 (bR (a0.2.getD (toNat v5) default)).2.1) 0):Int) != 1) with
       | true =>
        have q4:=bne_iff_ne.1 h4
        have e:=Eq.refl (gQ a0 (v4,v5));conv at e=>rhs;simp only [gQ,h0,h1,h2,h3,h4,aH]
        rw [aF,e]
        exact rt (t4++[.d h4]) [] [] hcx (by kernel_rfl)
       | false =>
        have q4:=bne_eq_false_iff_eq.1 h4
        let t5:List (St Tryz.prog):=(t4++[.d h4,.u 0,.T,.i 2 3 (by decide),.mG tP iv (zD (a0.1,a0.2)) ((bR (a0.2.getD (toNat v5) default)).2.2) 0])
        cases h5:(((aV (zD (a0.1,a0.2)) ((bR (a0.2.getD (toNat v5) default)).2.2) 0):Int) != 1) with
        | true =>
         have q5:=bne_iff_ne.1 h5
         have e:=Eq.refl (gQ a0 (v4,v5));conv at e=>rhs;simp only [gQ,h0,h1,h2,h3,h4,h5,aH]
         rw [aF,e]
         exact rt (t5++[.d h5]) [] [] hcx (by kernel_rfl)
        | false =>
         have q5:=bne_eq_false_iff_eq.1 h5
         let t6:List (St Tryz.prog):=(t5++[.d h5,.c [] (C72 (bR (a0.2.getD (toNat v5) default)).2.2),.mG tP iv (zD (a0.1,a0.2)) (F72 (bR (a0.2.getD (toNat v5) default)).2.2) 0])
         cases h6:(((aV (zD (a0.1,a0.2)) (F72 (bR (a0.2.getD (toNat v5) default)).2.2) 0):Int) != 1) with
         | true =>
          have q6:=bne_iff_ne.1 h6
          have e:=Eq.refl (gQ a0 (v4,v5));conv at e=>rhs;simp only [gQ,h0,h1,h2,h3,h4,h5,h6,aH]
          rw [aF,e]
          exact rt (t6++[.d h6]) [] [] hcx (by kernel_rfl)
         | false =>
          have q6:=bne_eq_false_iff_eq.1 h6
          have e:=Eq.refl (gQ a0 (v4,v5));conv at e=>rhs;simp only [gQ,h0,h1,h2,h3,h4,h5,h6,aH]
          rw [aA e]
          refine ba (t6++[.d h6,.u 0,.F]) [] [1,4,10,62,63,64] [2,3,4] hcx (m:=n) aRc (aRd) (aK6 a0 (flat c4 v4) (v4.length) (W (v5+1))) (by kernel_rfl) ?_
          have z0:(W (v5+1))=(v5+1):=aD (by omega) (by omega)
          rw [z0]
          exact ih v4 (v5+1) (by refine⟨?_,?_,?_,?_,?_⟩<;>first | omega | assumption | exact kR | exact hi.2.1 | exact hi.2.2.1 | exact gU hi.2.2.1 (by omega) | exact dL hi.2.2.1 hfo | exact dL hi.2.2.1 (by refine⟨⟨?_,?_⟩,⟨?_,?_⟩,?_,?_⟩<;>omega) | (simp only [List.length_replicate,List.length_set];omega)) (by(try simp only [Ls]);omega)
   | false =>
    have q0:=cF h0
    have e:=Eq.refl (gQ a0 (v4,v5));conv at e=>rhs;simp only [gQ,h0,aH]
    rw [aF,e]
    refine en [.d h0] [] [1,86,87,88] [2,3] hcx aRa (aRb) (aK5 a0 (flat c4 v4) (v4.length) (v4.length:Int) 0) (toNat ((v4.length:Int) - 0)+1) (by kernel_rfl) ?_
    exact bB0 a0 l0_1 l0_2 hcx (toNat ((v4.length:Int) - 0)+1) v4 (v4.length:Int) 0 (by refine⟨?_,?_,?_,?_,?_,?_⟩<;>first | omega | assumption | exact kR | exact hi.2.1 | exact hi.2.2.1 | exact gU hi.2.2.1 (by omega) | exact dL hi.2.2.1 hfo | exact dL hi.2.2.1 (by refine⟨⟨?_,?_⟩,⟨?_,?_⟩,?_,?_⟩<;>omega) | (simp only [List.length_replicate,List.length_set];omega)) (by(try simp only [Ls]);omega)
theorem bB2 (a0:Zm)(l0_1:a0.1.length≤9223372036854775807)(l0_2:a0.2.length≤9223372036854775807) {cx:Cx} (hcx:cx.base=2):∀(n:Nat)(v1:List (Bool))(v2:Int),(0≤v2)∧(v1.length=a0.1.length)∧(lZ a0 v2)∧(v2≤a0.2.length)∧(a0.1.length≤64)∧(a0.2.length≤96)→toNat ((a0.2.length:Int) - v2) < n→Aw.Good Tryz.prog none 9 (bodyPost Tryz.prog Tryz.f35 (RR cx (iv (aB (kH a0) n (v1,v2))) [] [])) cx [] (.l aRe n::aRf) (aK7 a0 (flat c4 v1) v1.length v2):=by
 intro n
 induction n with
 | zero=>intro v1 v2 hi hn;exact absurd hn (iG _)
 | succ n ih =>
   intro v1 v2 hi hn
   refine aI ?_
   try have hfo:inF a0.1.length (a0.2.getD (toNat v2) default):=mN (m:=a0) h1 (by omega)
   try have hfo2:=hfo
   try obtain⟨⟨hf1,hf2⟩,⟨hf3,hf4⟩,hf5,hf6⟩:=hfo2
   cases h0:(decide ((v2:Int) < (a0.2.length:Int))) with
   | true =>
    have q0:=bY h0
    try have hfo:inF a0.1.length (a0.2.getD (toNat v2) default):=mN (m:=a0) h1 (by omega)
    let t1:List (St Tryz.prog):=[.d h0,.i v2 (a0.2.length),.L aW a0.2 v2 0 3,.c [0,1] (C69 (a0.1,a0.2) (a0.2.getD (toNat v2) default) (by(try simp only [Lt]);omega) (by(try simp only [Lt]);omega) (by(try simp only [Lt]);omega))]
    cases h1:(((F69 (a0.1,a0.2) (a0.2.getD (toNat v2) default)):Int) != 0) with
    | true =>
     have q1:=bne_iff_ne.1 h1
     try have hfo:inF a0.1.length (a0.2.getD (toNat v2) default):=mN (m:=a0) h1 (by omega)
     have e:=Eq.refl (kH a0 (v1,v2));conv at e=>rhs;simp only [kH,h0,h1,aH]
     rw [aF,e]
     exact rt (t1++[.d h1]) [] [] hcx (by kernel_rfl)
    | false =>
     have q1:=bne_eq_false_iff_eq.1 h1
     try have hfo:inF a0.1.length (a0.2.getD (toNat v2) default):=mN (m:=a0) h1 (by omega)
     have e:=Eq.refl (kH a0 (v1,v2));conv at e=>rhs;simp only [kH,h0,h1,aH]
     rw [aA e]
     refine ba (t1++[.d h1,.u 200,.T,.i 0 3 (by decide),.i ((a0.2.getD (toNat v2) default).1) (v1.length),.p (show((0+toNat (a0.2.getD (toNat v2) default).1*1)+1≤(flat c4 v1).length) from(jQ eQ (by first | omega | (simp only [Lt];omega)) (o:=0) (Nb rfl))),.u 0,.T,.i 1 3 (by decide),.i ((a0.2.getD (toNat v2) default).2.1) (v1.length),.p (show((0+toNat (a0.2.getD (toNat v2) default).2.1*1)+1≤(splice (flat c4 v1) (0+toNat (a0.2.getD (toNat v2) default).1*1) [(.v (.bool true))]).length) from(by rw [show(splice (flat c4 v1) (0+toNat (a0.2.getD (toNat v2) default).1*1) [(.v (.bool true))])=flat c4 (v1.set (toNat (a0.2.getD (toNat v2) default).1) true) from(eN eQ (by first | omega | (simp only [Lt];omega)) (o:=0) (d:=default) (Nb rfl) rfl)];exact jQ eQ (by first | omega | (simp only [Lt];omega)) (o:=0) (Nb rfl))),.u 0,.T,.i 2 3 (by decide),.i ((a0.2.getD (toNat v2) default).2.2) (v1.length),.p (show((0+toNat (a0.2.getD (toNat v2) default).2.2*1)+1≤(splice (splice (flat c4 v1) (0+toNat (a0.2.getD (toNat v2) default).1*1) [(.v (.bool true))]) (0+toNat (a0.2.getD (toNat v2) default).2.1*1) [(.v (.bool true))]).length) from(by rw [show(splice (splice (flat c4 v1) (0+toNat (a0.2.getD (toNat v2) default).1*1) [(.v (.bool true))]) (0+toNat (a0.2.getD (toNat v2) default).2.1*1) [(.v (.bool true))])=flat c4 ((v1.set (toNat (a0.2.getD (toNat v2) default).1) true).set (toNat (a0.2.getD (toNat v2) default).2.1) true) from(by rw [show(splice (flat c4 v1) (0+toNat (a0.2.getD (toNat v2) default).1*1) [(.v (.bool true))])=flat c4 (v1.set (toNat (a0.2.getD (toNat v2) default).1) true) from(eN eQ (by first | omega | (simp only [Lt];omega)) (o:=0) (d:=default) (Nb rfl) rfl)];exact eN eQ (by first | omega | (simp only [Lt];omega)) (o:=0) (d:=default) (Nb rfl) rfl)];exact jQ eQ (by first | omega | (simp only [Lt];omega)) (o:=0) (Nb rfl))),.u 0,.F]) [] [1,4,38,39,40] [2,3] hcx (m:=n) aRe (aRf) (aK7 a0 (splice (splice (splice (flat c4 v1) (0+toNat (a0.2.getD (toNat v2) default).1*1) [(.v (.bool true))]) (0+toNat (a0.2.getD (toNat v2) default).2.1*1) [(.v (.bool true))]) (0+toNat (a0.2.getD (toNat v2) default).2.2*1) [(.v (.bool true))]) (v1.length) (W (v2+1))) (by kernel_rfl) ?_
     have z0:(W (v2+1))=(v2+1):=aD (by omega) (by omega)
     have z1:(splice (splice (splice (flat c4 v1) (0+toNat (a0.2.getD (toNat v2) default).1*1) [(.v (.bool true))]) (0+toNat (a0.2.getD (toNat v2) default).2.1*1) [(.v (.bool true))]) (0+toNat (a0.2.getD (toNat v2) default).2.2*1) [(.v (.bool true))])=flat c4 (((v1.set (toNat (a0.2.getD (toNat v2) default).1) true).set (toNat (a0.2.getD (toNat v2) default).2.1) true).set (toNat (a0.2.getD (toNat v2) default).2.2) true):=(by rw [show(splice (splice (flat c4 v1) (0+toNat (a0.2.getD (toNat v2) default).1*1) [(.v (.bool true))]) (0+toNat (a0.2.getD (toNat v2) default).2.1*1) [(.v (.bool true))])=flat c4 ((v1.set (toNat (a0.2.getD (toNat v2) default).1) true).set (toNat (a0.2.getD (toNat v2) default).2.1) true) from(by rw [show(splice (flat c4 v1) (0+toNat (a0.2.getD (toNat v2) default).1*1) [(.v (.bool true))])=flat c4 (v1.set (toNat (a0.2.getD (toNat v2) default).1) true) from(eN eQ (by first | omega | (simp only [Lt];omega)) (o:=0) (d:=default) (Nb rfl) rfl)];exact eN eQ (by first | omega | (simp only [Lt];omega)) (o:=0) (d:=default) (Nb rfl) rfl)];exact eN eQ (by first | omega | (simp only [Lt];omega)) (o:=0) (d:=default) (Nb rfl) rfl)
     have z2:v1.length=(((v1.set (toNat (a0.2.getD (toNat v2) default).1) true).set (toNat (a0.2.getD (toNat v2) default).2.1) true).set (toNat (a0.2.getD (toNat v2) default).2.2) true).length:=by simp
     rw [z0,z1,z2]
     exact ih (((v1.set (toNat (a0.2.getD (toNat v2) default).1) true).set (toNat (a0.2.getD (toNat v2) default).2.1) true).set (toNat (a0.2.getD (toNat v2) default).2.2) true) (v2+1) (by refine⟨?_,?_,?_,?_,?_,?_⟩<;>first | omega | assumption | exact kR | exact hi.2.1 | exact hi.2.2.1 | exact gU hi.2.2.1 (by omega) | exact dL hi.2.2.1 hfo | exact dL hi.2.2.1 (by refine⟨⟨?_,?_⟩,⟨?_,?_⟩,?_,?_⟩<;>omega) | (simp only [List.length_replicate,List.length_set];omega)) (by(try simp only [Ls]);omega)
   | false =>
    have q0:=cF h0
    try have hfo:inF a0.1.length (a0.2.getD (toNat v2) default):=mN (m:=a0) h1 (by omega)
    have e:=Eq.refl (kH a0 (v1,v2));conv at e=>rhs;simp only [kH,h0,aH]
    rw [aF,e]
    refine en [.d h0,.c [0,1] (C70 (a0.1,a0.2) (by(try simp only [Lt]);omega) (by(try simp only [Lt]);omega))] [] [1,4,10,62,63,64] [2,3,4] hcx aRc (aRd) (aK6 a0 (flat c4 v1) (v1.length) 0) (toNat ((a0.2.length:Int) - 0)+1) (by kernel_rfl) ?_
    exact bB1 a0 l0_1 l0_2 hcx (toNat ((a0.2.length:Int) - 0)+1) v1 0 (by refine⟨?_,?_,?_,?_,?_⟩<;>first | omega | assumption | exact kR | exact hi.2.1 | exact hi.2.2.1 | exact gU hi.2.2.1 (by omega) | exact dL hi.2.2.1 hfo | exact dL hi.2.2.1 (by refine⟨⟨?_,?_⟩,⟨?_,?_⟩,?_,?_⟩<;>omega) | (simp only [List.length_replicate,List.length_set];omega)) (by(try simp only [Ls]);omega)
def fB (a0:Zm):Int :=
 (bif (decide (((a0.1.length:Int):Int) > 64)) then
  4
 else
  (bif (!(qF (a0.2.length:Int) 1 96)) then
   4
  else
   (bif (((F68 (a0.1,a0.2)):Int) != 0) then
    (F68 (a0.1,a0.2))
   else
    (aB (kH a0) (toNat ((a0.2.length:Int) - 0)+1) ((List.replicate (toNat (a0.1.length:Int)) false),0)))))
theorem C35 (a0:Zm)(l0_1:a0.1.length≤9223372036854775807)(l0_2:a0.2.length≤9223372036854775807):Con Tryz.prog 35 [(.a [(.s 0 0 a0.1.length 3),(.s 1 0 a0.2.length 3)])] [(.live false true (flat dT a0.1)),(.live false true (flat eZ a0.2))] (iv (fB a0)) []:=by
 refine aJ Tryz.func35 (by kernel_rfl) fun cx hcx=>?_
 try have hl96:=hH h1
 cases h0:(decide (((a0.1.length:Int):Int) > 64)) with
 | true =>
  have q0:=bY h0
  try have hl96:=hH h1
  have e:=Eq.refl (fB a0);conv at e=>rhs;simp only [fB,h0,aH]
  rw [e]
  exact rt [.d h0] [] [] hcx (by kernel_rfl)
 | false =>
  have q0:=cF h0
  try have hl96:=hH h1
  let t1:List (St Tryz.prog):=[.d h0,.c [] (C43 (a0.2.length:Int) 1 96)]
  cases h1:(!(qF (a0.2.length:Int) 1 96)) with
  | true =>
   try have hl96:=hH h1
   have e:=Eq.refl (fB a0);conv at e=>rhs;simp only [fB,h0,h1,aH]
   rw [e]
   exact rt (t1++[.d h1]) [] [] hcx (by kernel_rfl)
  | false =>
   try have hl96:=hH h1
   let t2:List (St Tryz.prog):=(t1++[.d h1,.c [0,1] (C68 (a0.1,a0.2) (by(try simp only [Lt]);omega) (by(try simp only [Lt]);omega))])
   cases h2:(((F68 (a0.1,a0.2)):Int) != 0) with
   | true =>
    have q2:=bne_iff_ne.1 h2
    try have hl96:=hH h1
    have e:=Eq.refl (fB a0);conv at e=>rhs;simp only [fB,h0,h1,h2,aH]
    rw [e]
    exact rt (t2++[.d h2]) [] [] hcx (by kernel_rfl)
   | false =>
    have q2:=bne_eq_false_iff_eq.1 h2
    try have hl96:=hH h1
    have e:=Eq.refl (fB a0);conv at e=>rhs;simp only [fB,h0,h1,h2,aH]
    rw [e]
    refine en (t2++[.d h2,.Z c4 false [(.v (.bool false))] (a0.1.length:Int) 1]) [] [1,4,38,39,40] [2,3] hcx aRe (aRf) (aK7 a0 (flat c4 (List.replicate (toNat (a0.1.length:Int)) false)) (toNat (a0.1.length:Int)) 0) (toNat ((a0.2.length:Int) - 0)+1) (by kernel_rfl) ?_
    have q:=bB2 a0 l0_1 l0_2 hcx (toNat ((a0.2.length:Int) - 0)+1) (List.replicate (toNat (a0.1.length:Int)) false) 0 (by refine⟨?_,?_,?_,?_,?_,?_⟩<;>first | omega | assumption | exact kR | exact hi.2.1 | exact hi.2.2.1 | exact gU hi.2.2.1 (by omega) | exact dL hi.2.2.1 hfo | exact dL hi.2.2.1 (by refine⟨⟨?_,?_⟩,⟨?_,?_⟩,?_,?_⟩<;>omega) | (simp only [List.length_replicate,List.length_set];omega)) (by(try simp only [Ls]);omega)
    simp only [List.length_replicate] at q
    exact q
def xM (a0:Zm)(a1:Int):Zt×Zt×Zt :=
 ((a0.1.getD (toNat (a0.2.getD (toNat a1) default).1) default),(a0.1.getD (toNat (a0.2.getD (toNat a1) default).2.1) default),(a0.1.getD (toNat (a0.2.getD (toNat a1) default).2.2) default))
theorem C81 (a0:Zm)(a1:Int)(l0_1:a0.1.length≤9223372036854775807)(l0_2:a0.2.length≤9223372036854775807)(hi:0≤a1∧a1 < (a0.2.length:Int))(hf:inF a0.1.length (a0.2.getD (toNat a1) default)):Con Tryz.prog 81 [(.a [(.s 0 0 a0.1.length 3),(.s 1 0 a0.2.length 3)]),(iv a1)] [(.live false true (flat dT a0.1)),(.live false true (flat eZ a0.2))] (.a (k9 (xM a0 a1))) []:=by
 refine aJ Tryz.func81 (by kernel_rfl) fun cx hcx=>?_
 have e:=Eq.refl (xM a0 a1);conv at e=>rhs;simp only [xM]
 rw [e]
 exact rt [.i a1 (a0.2.length),.L aW a0.2 a1 0 3,.i 0 3 (by decide),.i ((a0.2.getD (toNat a1) default).1) (a0.1.length),.L bL a0.1 (a0.2.getD (toNat a1) default).1 0 3,.i 1 3 (by decide),.i ((a0.2.getD (toNat a1) default).2.1) (a0.1.length),.L bL a0.1 (a0.2.getD (toNat a1) default).2.1 0 3,.i 2 3 (by decide),.i ((a0.2.getD (toNat a1) default).2.2) (a0.1.length),.L bL a0.1 (a0.2.getD (toNat a1) default).2.2 0 3] [] [] hcx (by kernel_rfl)
noncomputable def dX:Code:=(aE [1,1,0,1] [] (aG Tryz.f82) []).1
noncomputable def dY:List K:=(aE [1,1,0,1] [] (aG Tryz.f82) []).2
def cN (a0:Zm)(a1:Int)(a2:Int)(v1 v2:Int):LS:=⟨iH 46 [(1,(iv a1)),(2,(iv a2)),(3,(.p 2 0)),(7,(iv v1)),(8,(iv v2))],[(.live false true (flat dT a0.1)),(.live false true (flat eZ a0.2)),(.live true false [(.s 0 0 a0.1.length 3),(.s 1 0 a0.2.length 3)])]⟩
def bA (a0:Zm)(a1:Int)(a2:Int):Int×Int→(Int×Int)⊕(Int)
 | (v1,v2) =>
  (bif (decide ((v2:Int) < (a0.2.length:Int))) then
   (bif (((a0.2.getD (toNat v2) default).1:Int) == a1) then
    (bif (((a0.2.getD (toNat v2) default).2.1:Int) == a2) then
     (bif (((a0.2.getD (toNat v2) default).2.1:Int) == a1) then
      (bif (((a0.2.getD (toNat v2) default).2.2:Int) == a2) then
       (bif (((a0.2.getD (toNat v2) default).2.2:Int) == a1) then
        (bif (((a0.2.getD (toNat v2) default).1:Int) == a2) then
         (.inl ((W ((W ((W (v1+1))+1))+1)),(v2+1)))
        else
         (.inl ((W ((W (v1+1))+1)),(v2+1))))
       else
        (.inl ((W ((W (v1+1))+1)),(v2+1))))
      else
       (bif (((a0.2.getD (toNat v2) default).2.2:Int) == a1) then
        (bif (((a0.2.getD (toNat v2) default).1:Int) == a2) then
         (.inl ((W ((W (v1+1))+1)),(v2+1)))
        else
         (.inl ((W (v1+1)),(v2+1))))
       else
        (.inl ((W (v1+1)),(v2+1)))))
     else
      (bif (((a0.2.getD (toNat v2) default).2.2:Int) == a1) then
       (bif (((a0.2.getD (toNat v2) default).1:Int) == a2) then
        (.inl ((W ((W (v1+1))+1)),(v2+1)))
       else
        (.inl ((W (v1+1)),(v2+1))))
      else
       (.inl ((W (v1+1)),(v2+1)))))
    else
     (bif (((a0.2.getD (toNat v2) default).2.1:Int) == a1) then
      (bif (((a0.2.getD (toNat v2) default).2.2:Int) == a2) then
       (bif (((a0.2.getD (toNat v2) default).2.2:Int) == a1) then
        (bif (((a0.2.getD (toNat v2) default).1:Int) == a2) then
         (.inl ((W ((W (v1+1))+1)),(v2+1)))
        else
         (.inl ((W (v1+1)),(v2+1))))
       else
        (.inl ((W (v1+1)),(v2+1))))
      else
       (bif (((a0.2.getD (toNat v2) default).2.2:Int) == a1) then
        (bif (((a0.2.getD (toNat v2) default).1:Int) == a2) then
         (.inl ((W (v1+1)),(v2+1)))
        else
         (.inl (v1,(v2+1))))
       else
        (.inl (v1,(v2+1)))))
     else
      (bif (((a0.2.getD (toNat v2) default).2.2:Int) == a1) then
       (bif (((a0.2.getD (toNat v2) default).1:Int) == a2) then
        (.inl ((W (v1+1)),(v2+1)))
       else
        (.inl (v1,(v2+1))))
      else
       (.inl (v1,(v2+1))))))
   else
    (bif (((a0.2.getD (toNat v2) default).2.1:Int) == a1) then
     (bif (((a0.2.getD (toNat v2) default).2.2:Int) == a2) then
      (bif (((a0.2.getD (toNat v2) default).2.2:Int) == a1) then
       (bif (((a0.2.getD (toNat v2) default).1:Int) == a2) then
        (.inl ((W ((W (v1+1))+1)),(v2+1)))
       else
        (.inl ((W (v1+1)),(v2+1))))
      else
       (.inl ((W (v1+1)),(v2+1))))
     else
      (bif (((a0.2.getD (toNat v2) default).2.2:Int) == a1) then
       (bif (((a0.2.getD (toNat v2) default).1:Int) == a2) then
        (.inl ((W (v1+1)),(v2+1)))
       else
        (.inl (v1,(v2+1))))
      else
       (.inl (v1,(v2+1)))))
    else
     (bif (((a0.2.getD (toNat v2) default).2.2:Int) == a1) then
      (bif (((a0.2.getD (toNat v2) default).1:Int) == a2) then
       (.inl ((W (v1+1)),(v2+1)))
      else
       (.inl (v1,(v2+1))))
     else
      (.inl (v1,(v2+1))))))
  else
   (.inr v1))
theorem bB3 (a0:Zm)(a1:Int)(a2:Int)(l0_1:a0.1.length≤9223372036854775807)(l0_2:a0.2.length≤9223372036854775807) {cx:Cx} (hcx:cx.base=2):∀(n:Nat)(v1 v2:Int),0≤v2→toNat ((a0.2.length:Int) - v2) < n→Aw.Good Tryz.prog none 9 (bodyPost Tryz.prog Tryz.f82 (RR cx (iv (aB (bA a0 a1 a2) n (v1,v2))) [] [])) cx [] (.l dX n::dY) (cN a0 a1 a2 v1 v2):=by
 intro n
 induction n with
 | zero=>intro v1 v2 hi hn;exact absurd hn (iG _)
 | succ n ih =>
   intro v1 v2 hi hn
   refine aI ?_
   cases h0:(decide ((v2:Int) < (a0.2.length:Int))) with
   | true =>
    have q0:=bY h0
    let t1:List (St Tryz.prog):=[.d h0,.u 200,.T,.i v2 (a0.2.length),.i 0 3 (by decide),.L aW a0.2 v2 0 1]
    cases h1:(((a0.2.getD (toNat v2) default).1:Int) == a1) with
    | true =>
     have q1:=eq_of_beq h1
     let t2:List (St Tryz.prog):=(t1++[.d h1,.p (show(3:Int)≠0 from by decide),.i v2 (a0.2.length),.i 1 3 (by decide),.L aW a0.2 v2 1 1])
     cases h2:(((a0.2.getD (toNat v2) default).2.1:Int) == a2) with
     | true =>
      have q2:=eq_of_beq h2
      let t3:List (St Tryz.prog):=(t2++[.d h2,.u 0,.T,.i v2 (a0.2.length),.i 1 3 (by decide),.L aW a0.2 v2 1 1])
      cases h3:(((a0.2.getD (toNat v2) default).2.1:Int) == a1) with
      | true =>
       have q3:=eq_of_beq h3
       let t4:List (St Tryz.prog):=(t3++[.d h3,.p (show(3:Int)≠0 from by decide),.i v2 (a0.2.length),.i 2 3 (by decide),.L aW a0.2 v2 2 1])
       cases h4:(((a0.2.getD (toNat v2) default).2.2:Int) == a2) with
       | true =>
        have q4:=eq_of_beq h4
        let t5:List (St Tryz.prog):=(t4++[.d h4,.u 0,.T,.i v2 (a0.2.length),.i 2 3 (by decide),.L aW a0.2 v2 2 1])
        cases h5:(((a0.2.getD (toNat v2) default).2.2:Int) == a1) with
        | true =>
         have q5:=eq_of_beq h5
         let t6:List (St Tryz.prog):=(t5++[.d h5,.p (show(3:Int)≠0 from by decide),.i v2 (a0.2.length),.i 0 3 (by decide),.L aW a0.2 v2 0 1])
         cases h6:(((a0.2.getD (toNat v2) default).1:Int) == a2) with
         | true =>
          have q6:=eq_of_beq h6
          have e:=Eq.refl (bA a0 a1 a2 (v1,v2));conv at e=>rhs;simp only [bA,h0,h1,h2,h3,h4,h5,h6,aH]
          rw [aA e]
          refine ba (t6++[.d h6,.u 0,.F]) [] [1,2,3,7,8] [2] hcx (m:=n) dX (dY) (cN a0 a1 a2 (W ((W ((W (v1+1))+1))+1)) (W (v2+1))) (by kernel_rfl) ?_
          have z0:(W (v2+1))=(v2+1):=aD (by omega) (by omega)
          rw [z0]
          exact ih (W ((W ((W (v1+1))+1))+1)) (v2+1) (by(try simp only [Ls]);omega) (by(try simp only [Ls]);omega)
         | false =>
          have q6:=ne_of_beq_false h6
          have e:=Eq.refl (bA a0 a1 a2 (v1,v2));conv at e=>rhs;simp only [bA,h0,h1,h2,h3,h4,h5,h6,aH]
          rw [aA e]
          refine ba (t6++[.d h6,.u 0,.F]) [] [1,2,3,7,8] [2] hcx (m:=n) dX (dY) (cN a0 a1 a2 (W ((W (v1+1))+1)) (W (v2+1))) (by kernel_rfl) ?_
          have z0:(W (v2+1))=(v2+1):=aD (by omega) (by omega)
          rw [z0]
          exact ih (W ((W (v1+1))+1)) (v2+1) (by(try simp only [Ls]);omega) (by(try simp only [Ls]);omega)
        | false =>
         have q5:=ne_of_beq_false h5
         have e:=Eq.refl (bA a0 a1 a2 (v1,v2));conv at e=>rhs;simp only [bA,h0,h1,h2,h3,h4,h5,aH]
         rw [aA e]
         refine ba (t5++[.d h5,.u 0,.F]) [] [1,2,3,7,8] [2] hcx (m:=n) dX (dY) (cN a0 a1 a2 (W ((W (v1+1))+1)) (W (v2+1))) (by kernel_rfl) ?_
         have z0:(W (v2+1))=(v2+1):=aD (by omega) (by omega)
         rw [z0]
         exact ih (W ((W (v1+1))+1)) (v2+1) (by(try simp only [Ls]);omega) (by(try simp only [Ls]);omega)
       | false =>
        have q4:=ne_of_beq_false h4
        let t5:List (St Tryz.prog):=(t4++[.d h4,.u 0,.T,.i v2 (a0.2.length),.i 2 3 (by decide),.L aW a0.2 v2 2 1])
        cases h5:(((a0.2.getD (toNat v2) default).2.2:Int) == a1) with
        | true =>
         have q5:=eq_of_beq h5
         let t6:List (St Tryz.prog):=(t5++[.d h5,.p (show(3:Int)≠0 from by decide),.i v2 (a0.2.length),.i 0 3 (by decide),.L aW a0.2 v2 0 1])
         cases h6:(((a0.2.getD (toNat v2) default).1:Int) == a2) with
         | true =>
          have q6:=eq_of_beq h6
          have e:=Eq.refl (bA a0 a1 a2 (v1,v2));conv at e=>rhs;simp only [bA,h0,h1,h2,h3,h4,h5,h6,aH]
          rw [aA e]
          refine ba (t6++[.d h6,.u 0,.F]) [] [1,2,3,7,8] [2] hcx (m:=n) dX (dY) (cN a0 a1 a2 (W ((W (v1+1))+1)) (W (v2+1))) (by kernel_rfl) ?_
          have z0:(W (v2+1))=(v2+1):=aD (by omega) (by omega)
          rw [z0]
          exact ih (W ((W (v1+1))+1)) (v2+1) (by(try simp only [Ls]);omega) (by(try simp only [Ls]);omega)
         | false =>
          have q6:=ne_of_beq_false h6
          have e:=Eq.refl (bA a0 a1 a2 (v1,v2));conv at e=>rhs;simp only [bA,h0,h1,h2,h3,h4,h5,h6,aH]
          rw [aA e]
          refine ba (t6++[.d h6,.u 0,.F]) [] [1,2,3,7,8] [2] hcx (m:=n) dX (dY) (cN a0 a1 a2 (W (v1+1)) (W (v2+1))) (by kernel_rfl) ?_
          have z0:(W (v2+1))=(v2+1):=aD (by omega) (by omega)
          rw [z0]
          exact ih (W (v1+1)) (v2+1) (by(try simp only [Ls]);omega) (by(try simp only [Ls]);omega)
        | false =>
         have q5:=ne_of_beq_false h5
         have e:=Eq.refl (bA a0 a1 a2 (v1,v2));conv at e=>rhs;simp only [bA,h0,h1,h2,h3,h4,h5,aH]
         rw [aA e]
         refine ba (t5++[.d h5,.u 0,.F]) [] [1,2,3,7,8] [2] hcx (m:=n) dX (dY) (cN a0 a1 a2 (W (v1+1)) (W (v2+1))) (by kernel_rfl) ?_
         have z0:(W (v2+1))=(v2+1):=aD (by omega) (by omega)
         rw [z0]
         exact ih (W (v1+1)) (v2+1) (by(try simp only [Ls]);omega) (by(try simp only [Ls]);omega)
      | false =>
       have q3:=ne_of_beq_false h3
       let t4:List (St Tryz.prog):=(t3++[.d h3,.u 0,.T,.i v2 (a0.2.length),.i 2 3 (by decide),.L aW a0.2 v2 2 1])
       cases h4:(((a0.2.getD (toNat v2) default).2.2:Int) == a1) with
       | true =>
        have q4:=eq_of_beq h4
        let t5:List (St Tryz.prog):=(t4++[.d h4,.p (show(3:Int)≠0 from by decide),.i v2 (a0.2.length),.i 0 3 (by decide),.L aW a0.2 v2 0 1])
        cases h5:(((a0.2.getD (toNat v2) default).1:Int) == a2) with
        | true =>
         have q5:=eq_of_beq h5
         have e:=Eq.refl (bA a0 a1 a2 (v1,v2));conv at e=>rhs;simp only [bA,h0,h1,h2,h3,h4,h5,aH]
         rw [aA e]
         refine ba (t5++[.d h5,.u 0,.F]) [] [1,2,3,7,8] [2] hcx (m:=n) dX (dY) (cN a0 a1 a2 (W ((W (v1+1))+1)) (W (v2+1))) (by kernel_rfl) ?_
         have z0:(W (v2+1))=(v2+1):=aD (by omega) (by omega)
         rw [z0]
         exact ih (W ((W (v1+1))+1)) (v2+1) (by(try simp only [Ls]);omega) (by(try simp only [Ls]);omega)
        | false =>
         have q5:=ne_of_beq_false h5
         have e:=Eq.refl (bA a0 a1 a2 (v1,v2));conv at e=>rhs;simp only [bA,h0,h1,h2,h3,h4,h5,aH]
         rw [aA e]
         refine ba (t5++[.d h5,.u 0,.F]) [] [1,2,3,7,8] [2] hcx (m:=n) dX (dY) (cN a0 a1 a2 (W (v1+1)) (W (v2+1))) (by kernel_rfl) ?_
         have z0:(W (v2+1))=(v2+1):=aD (by omega) (by omega)
         rw [z0]
         exact ih (W (v1+1)) (v2+1) (by(try simp only [Ls]);omega) (by(try simp only [Ls]);omega)
       | false =>
        have q4:=ne_of_beq_false h4
        have e:=Eq.refl (bA a0 a1 a2 (v1,v2));conv at e=>rhs;simp only [bA,h0,h1,h2,h3,h4,aH]
        rw [aA e]
        refine ba (t4++[.d h4,.u 0,.F]) [] [1,2,3,7,8] [2] hcx (m:=n) dX (dY) (cN a0 a1 a2 (W (v1+1)) (W (v2+1))) (by kernel_rfl) ?_
        have z0:(W (v2+1))=(v2+1):=aD (by omega) (by omega)
        rw [z0]
        exact ih (W (v1+1)) (v2+1) (by(try simp only [Ls]);omega) (by(try simp only [Ls]);omega)
     | false =>
      have q2:=ne_of_beq_false h2
      let t3:List (St Tryz.prog):=(t2++[.d h2,.u 0,.T,.i v2 (a0.2.length),.i 1 3 (by decide),.L aW a0.2 v2 1 1])
      cases h3:(((a0.2.getD (toNat v2) default).2.1:Int) == a1) with
      | true =>
       have q3:=eq_of_beq h3
       let t4:List (St Tryz.prog):=(t3++[.d h3,.p (show(3:Int)≠0 from by decide),.i v2 (a0.2.length),.i 2 3 (by decide),.L aW a0.2 v2 2 1])
       cases h4:(((a0.2.getD (toNat v2) default).2.2:Int) == a2) with
       | true =>
        have q4:=eq_of_beq h4
        let t5:List (St Tryz.prog):=(t4++[.d h4,.u 0,.T,.i v2 (a0.2.length),.i 2 3 (by decide),.L aW a0.2 v2 2 1])
        cases h5:(((a0.2.getD (toNat v2) default).2.2:Int) == a1) with
        | true =>
         have q5:=eq_of_beq h5
         let t6:List (St Tryz.prog):=(t5++[.d h5,.p (show(3:Int)≠0 from by decide),.i v2 (a0.2.length),.i 0 3 (by decide),.L aW a0.2 v2 0 1])
         cases h6:(((a0.2.getD (toNat v2) default).1:Int) == a2) with
         | true =>
          have q6:=eq_of_beq h6
          have e:=Eq.refl (bA a0 a1 a2 (v1,v2));conv at e=>rhs;simp only [bA,h0,h1,h2,h3,h4,h5,h6,aH]
          rw [aA e]
          refine ba (t6++[.d h6,.u 0,.F]) [] [1,2,3,7,8] [2] hcx (m:=n) dX (dY) (cN a0 a1 a2 (W ((W (v1+1))+1)) (W (v2+1))) (by kernel_rfl) ?_
          have z0:(W (v2+1))=(v2+1):=aD (by omega) (by omega)
          rw [z0]
          exact ih (W ((W (v1+1))+1)) (v2+1) (by(try simp only [Ls]);omega) (by(try simp only [Ls]);omega)
         | false =>
          have q6:=ne_of_beq_false h6
          have e:=Eq.refl (bA a0 a1 a2 (v1,v2));conv at e=>rhs;simp only [bA,h0,h1,h2,h3,h4,h5,h6,aH]
          rw [aA e]
          refine ba (t6++[.d h6,.u 0,.F]) [] [1,2,3,7,8] [2] hcx (m:=n) dX (dY) (cN a0 a1 a2 (W (v1+1)) (W (v2+1))) (by kernel_rfl) ?_
          have z0:(W (v2+1))=(v2+1):=aD (by omega) (by omega)
          rw [z0]
          exact ih (W (v1+1)) (v2+1) (by(try simp only [Ls]);omega) (by(try simp only [Ls]);omega)
        | false =>
         have q5:=ne_of_beq_false h5
         have e:=Eq.refl (bA a0 a1 a2 (v1,v2));conv at e=>rhs;simp only [bA,h0,h1,h2,h3,h4,h5,aH]
         rw [aA e]
         refine ba (t5++[.d h5,.u 0,.F]) [] [1,2,3,7,8] [2] hcx (m:=n) dX (dY) (cN a0 a1 a2 (W (v1+1)) (W (v2+1))) (by kernel_rfl) ?_
         have z0:(W (v2+1))=(v2+1):=aD (by omega) (by omega)
         rw [z0]
         exact ih (W (v1+1)) (v2+1) (by(try simp only [Ls]);omega) (by(try simp only [Ls]);omega)
       | false =>
        have q4:=ne_of_beq_false h4
        let t5:List (St Tryz.prog):=(t4++[.d h4,.u 0,.T,.i v2 (a0.2.length),.i 2 3 (by decide),.L aW a0.2 v2 2 1])
        cases h5:(((a0.2.getD (toNat v2) default).2.2:Int) == a1) with
        | true =>
         have q5:=eq_of_beq h5
         let t6:List (St Tryz.prog):=(t5++[.d h5,.p (show(3:Int)≠0 from by decide),.i v2 (a0.2.length),.i 0 3 (by decide),.L aW a0.2 v2 0 1])
         cases h6:(((a0.2.getD (toNat v2) default).1:Int) == a2) with
         | true =>
          have q6:=eq_of_beq h6
          have e:=Eq.refl (bA a0 a1 a2 (v1,v2));conv at e=>rhs;simp only [bA,h0,h1,h2,h3,h4,h5,h6,aH]
          rw [aA e]
          refine ba (t6++[.d h6,.u 0,.F]) [] [1,2,3,7,8] [2] hcx (m:=n) dX (dY) (cN a0 a1 a2 (W (v1+1)) (W (v2+1))) (by kernel_rfl) ?_
          have z0:(W (v2+1))=(v2+1):=aD (by omega) (by omega)
          rw [z0]
          exact ih (W (v1+1)) (v2+1) (by(try simp only [Ls]);omega) (by(try simp only [Ls]);omega)
         | false =>
          have q6:=ne_of_beq_false h6
          have e:=Eq.refl (bA a0 a1 a2 (v1,v2));conv at e=>rhs;simp only [bA,h0,h1,h2,h3,h4,h5,h6,aH]
          rw [aA e]
          refine ba (t6++[.d h6,.u 0,.F]) [] [1,2,3,7,8] [2] hcx (m:=n) dX (dY) (cN a0 a1 a2 v1 (W (v2+1))) (by kernel_rfl) ?_
          have z0:(W (v2+1))=(v2+1):=aD (by omega) (by omega)
          rw [z0]
          exact ih v1 (v2+1) (by(try simp only [Ls]);omega) (by(try simp only [Ls]);omega)
        | false =>
         have q5:=ne_of_beq_false h5
         have e:=Eq.refl (bA a0 a1 a2 (v1,v2));conv at e=>rhs;simp only [bA,h0,h1,h2,h3,h4,h5,aH]
         rw [aA e]
         refine ba (t5++[.d h5,.u 0,.F]) [] [1,2,3,7,8] [2] hcx (m:=n) dX (dY) (cN a0 a1 a2 v1 (W (v2+1))) (by kernel_rfl) ?_
         have z0:(W (v2+1))=(v2+1):=aD (by omega) (by omega)
         rw [z0]
         exact ih v1 (v2+1) (by(try simp only [Ls]);omega) (by(try simp only [Ls]);omega)
      | false =>
       have q3:=ne_of_beq_false h3
       let t4:List (St Tryz.prog):=(t3++[.d h3,.u 0,.T,.i v2 (a0.2.length),.i 2 3 (by decide),.L aW a0.2 v2 2 1])
       cases h4:(((a0.2.getD (toNat v2) default).2.2:Int) == a1) with
       | true =>
        have q4:=eq_of_beq h4
        let t5:List (St Tryz.prog):=(t4++[.d h4,.p (show(3:Int)≠0 from by decide),.i v2 (a0.2.length),.i 0 3 (by decide),.L aW a0.2 v2 0 1])
        cases h5:(((a0.2.getD (toNat v2) default).1:Int) == a2) with
        | true =>
         have q5:=eq_of_beq h5
         have e:=Eq.refl (bA a0 a1 a2 (v1,v2));conv at e=>rhs;simp only [bA,h0,h1,h2,h3,h4,h5,aH]
         rw [aA e]
         refine ba (t5++[.d h5,.u 0,.F]) [] [1,2,3,7,8] [2] hcx (m:=n) dX (dY) (cN a0 a1 a2 (W (v1+1)) (W (v2+1))) (by kernel_rfl) ?_
         have z0:(W (v2+1))=(v2+1):=aD (by omega) (by omega)
         rw [z0]
         exact ih (W (v1+1)) (v2+1) (by(try simp only [Ls]);omega) (by(try simp only [Ls]);omega)
        | false =>
         have q5:=ne_of_beq_false h5
         have e:=Eq.refl (bA a0 a1 a2 (v1,v2));conv at e=>rhs;simp only [bA,h0,h1,h2,h3,h4,h5,aH]
         rw [aA e]
         refine ba (t5++[.d h5,.u 0,.F]) [] [1,2,3,7,8] [2] hcx (m:=n) dX (dY) (cN a0 a1 a2 v1 (W (v2+1))) (by kernel_rfl) ?_
         have z0:(W (v2+1))=(v2+1):=aD (by omega) (by omega)
         rw [z0]
         exact ih v1 (v2+1) (by(try simp only [Ls]);omega) (by(try simp only [Ls]);omega)
       | false =>
        have q4:=ne_of_beq_false h4
        have e:=Eq.refl (bA a0 a1 a2 (v1,v2));conv at e=>rhs;simp only [bA,h0,h1,h2,h3,h4,aH]
        rw [aA e]
        refine ba (t4++[.d h4,.u 0,.F]) [] [1,2,3,7,8] [2] hcx (m:=n) dX (dY) (cN a0 a1 a2 v1 (W (v2+1))) (by kernel_rfl) ?_
        have z0:(W (v2+1))=(v2+1):=aD (by omega) (by omega)
        rw [z0]
        exact ih v1 (v2+1) (by(try simp only [Ls]);omega) (by(try simp only [Ls]);omega)
    | false =>
     have q1:=ne_of_beq_false h1
     let t2:List (St Tryz.prog):=(t1++[.d h1,.u 0,.T,.i v2 (a0.2.length),.i 1 3 (by decide),.L aW a0.2 v2 1 1])
     cases h2:(((a0.2.getD (toNat v2) default).2.1:Int) == a1) with
     | true =>
      have q2:=eq_of_beq h2
      let t3:List (St Tryz.prog):=(t2++[.d h2,.p (show(3:Int)≠0 from by decide),.i v2 (a0.2.length),.i 2 3 (by decide),.L aW a0.2 v2 2 1])
      cases h3:(((a0.2.getD (toNat v2) default).2.2:Int) == a2) with
      | true =>
       have q3:=eq_of_beq h3
       let t4:List (St Tryz.prog):=(t3++[.d h3,.u 0,.T,.i v2 (a0.2.length),.i 2 3 (by decide),.L aW a0.2 v2 2 1])
       cases h4:(((a0.2.getD (toNat v2) default).2.2:Int) == a1) with
       | true =>
        have q4:=eq_of_beq h4
        let t5:List (St Tryz.prog):=(t4++[.d h4,.p (show(3:Int)≠0 from by decide),.i v2 (a0.2.length),.i 0 3 (by decide),.L aW a0.2 v2 0 1])
        cases h5:(((a0.2.getD (toNat v2) default).1:Int) == a2) with
        | true =>
         have q5:=eq_of_beq h5
         have e:=Eq.refl (bA a0 a1 a2 (v1,v2));conv at e=>rhs;simp only [bA,h0,h1,h2,h3,h4,h5,aH]
         rw [aA e]
         refine ba (t5++[.d h5,.u 0,.F]) [] [1,2,3,7,8] [2] hcx (m:=n) dX (dY) (cN a0 a1 a2 (W ((W (v1+1))+1)) (W (v2+1))) (by kernel_rfl) ?_
         have z0:(W (v2+1))=(v2+1):=aD (by omega) (by omega)
         rw [z0]
         exact ih (W ((W (v1+1))+1)) (v2+1) (by(try simp only [Ls]);omega) (by(try simp only [Ls]);omega)
        | false =>
         have q5:=ne_of_beq_false h5
         have e:=Eq.refl (bA a0 a1 a2 (v1,v2));conv at e=>rhs;simp only [bA,h0,h1,h2,h3,h4,h5,aH]
         rw [aA e]
         refine ba (t5++[.d h5,.u 0,.F]) [] [1,2,3,7,8] [2] hcx (m:=n) dX (dY) (cN a0 a1 a2 (W (v1+1)) (W (v2+1))) (by kernel_rfl) ?_
         have z0:(W (v2+1))=(v2+1):=aD (by omega) (by omega)
         rw [z0]
         exact ih (W (v1+1)) (v2+1) (by(try simp only [Ls]);omega) (by(try simp only [Ls]);omega)
       | false =>
        have q4:=ne_of_beq_false h4
        have e:=Eq.refl (bA a0 a1 a2 (v1,v2));conv at e=>rhs;simp only [bA,h0,h1,h2,h3,h4,aH]
        rw [aA e]
        refine ba (t4++[.d h4,.u 0,.F]) [] [1,2,3,7,8] [2] hcx (m:=n) dX (dY) (cN a0 a1 a2 (W (v1+1)) (W (v2+1))) (by kernel_rfl) ?_
        have z0:(W (v2+1))=(v2+1):=aD (by omega) (by omega)
        rw [z0]
        exact ih (W (v1+1)) (v2+1) (by(try simp only [Ls]);omega) (by(try simp only [Ls]);omega)
      | false =>
       have q3:=ne_of_beq_false h3
       let t4:List (St Tryz.prog):=(t3++[.d h3,.u 0,.T,.i v2 (a0.2.length),.i 2 3 (by decide),.L aW a0.2 v2 2 1])
       cases h4:(((a0.2.getD (toNat v2) default).2.2:Int) == a1) with
       | true =>
        have q4:=eq_of_beq h4
        let t5:List (St Tryz.prog):=(t4++[.d h4,.p (show(3:Int)≠0 from by decide),.i v2 (a0.2.length),.i 0 3 (by decide),.L aW a0.2 v2 0 1])
        cases h5:(((a0.2.getD (toNat v2) default).1:Int) == a2) with
        | true =>
         have q5:=eq_of_beq h5
         have e:=Eq.refl (bA a0 a1 a2 (v1,v2));conv at e=>rhs;simp only [bA,h0,h1,h2,h3,h4,h5,aH]
         rw [aA e]
         refine ba (t5++[.d h5,.u 0,.F]) [] [1,2,3,7,8] [2] hcx (m:=n) dX (dY) (cN a0 a1 a2 (W (v1+1)) (W (v2+1))) (by kernel_rfl) ?_
         have z0:(W (v2+1))=(v2+1):=aD (by omega) (by omega)
         rw [z0]
         exact ih (W (v1+1)) (v2+1) (by(try simp only [Ls]);omega) (by(try simp only [Ls]);omega)
        | false =>
         have q5:=ne_of_beq_false h5
         have e:=Eq.refl (bA a0 a1 a2 (v1,v2));conv at e=>rhs;simp only [bA,h0,h1,h2,h3,h4,h5,aH]
         rw [aA e]
         refine ba (t5++[.d h5,.u 0,.F]) [] [1,2,3,7,8] [2] hcx (m:=n) dX (dY) (cN a0 a1 a2 v1 (W (v2+1))) (by kernel_rfl) ?_
         have z0:(W (v2+1))=(v2+1):=aD (by omega) (by omega)
         rw [z0]
         exact ih v1 (v2+1) (by(try simp only [Ls]);omega) (by(try simp only [Ls]);omega)
       | false =>
        have q4:=ne_of_beq_false h4
        have e:=Eq.refl (bA a0 a1 a2 (v1,v2));conv at e=>rhs;simp only [bA,h0,h1,h2,h3,h4,aH]
        rw [aA e]
        refine ba (t4++[.d h4,.u 0,.F]) [] [1,2,3,7,8] [2] hcx (m:=n) dX (dY) (cN a0 a1 a2 v1 (W (v2+1))) (by kernel_rfl) ?_
        have z0:(W (v2+1))=(v2+1):=aD (by omega) (by omega)
        rw [z0]
        exact ih v1 (v2+1) (by(try simp only [Ls]);omega) (by(try simp only [Ls]);omega)
     | false =>
      have q2:=ne_of_beq_false h2
      let t3:List (St Tryz.prog):=(t2++[.d h2,.u 0,.T,.i v2 (a0.2.length),.i 2 3 (by decide),.L aW a0.2 v2 2 1])
      cases h3:(((a0.2.getD (toNat v2) default).2.2:Int) == a1) with
      | true =>
       have q3:=eq_of_beq h3
       let t4:List (St Tryz.prog):=(t3++[.d h3,.p (show(3:Int)≠0 from by decide),.i v2 (a0.2.length),.i 0 3 (by decide),.L aW a0.2 v2 0 1])
       cases h4:(((a0.2.getD (toNat v2) default).1:Int) == a2) with
       | true =>
        have q4:=eq_of_beq h4
        have e:=Eq.refl (bA a0 a1 a2 (v1,v2));conv at e=>rhs;simp only [bA,h0,h1,h2,h3,h4,aH]
        rw [aA e]
        refine ba (t4++[.d h4,.u 0,.F]) [] [1,2,3,7,8] [2] hcx (m:=n) dX (dY) (cN a0 a1 a2 (W (v1+1)) (W (v2+1))) (by kernel_rfl) ?_
        have z0:(W (v2+1))=(v2+1):=aD (by omega) (by omega)
        rw [z0]
        exact ih (W (v1+1)) (v2+1) (by(try simp only [Ls]);omega) (by(try simp only [Ls]);omega)
       | false =>
        have q4:=ne_of_beq_false h4
        have e:=Eq.refl (bA a0 a1 a2 (v1,v2));conv at e=>rhs;simp only [bA,h0,h1,h2,h3,h4,aH]
        rw [aA e]
        refine ba (t4++[.d h4,.u 0,.F]) [] [1,2,3,7,8] [2] hcx (m:=n) dX (dY) (cN a0 a1 a2 v1 (W (v2+1))) (by kernel_rfl) ?_
        have z0:(W (v2+1))=(v2+1):=aD (by omega) (by omega)
        rw [z0]
        exact ih v1 (v2+1) (by(try simp only [Ls]);omega) (by(try simp only [Ls]);omega)
      | false =>
       have q3:=ne_of_beq_false h3
       have e:=Eq.refl (bA a0 a1 a2 (v1,v2));conv at e=>rhs;simp only [bA,h0,h1,h2,h3,aH]
       rw [aA e]
       refine ba (t3++[.d h3,.u 0,.F]) [] [1,2,3,7,8] [2] hcx (m:=n) dX (dY) (cN a0 a1 a2 v1 (W (v2+1))) (by kernel_rfl) ?_
       have z0:(W (v2+1))=(v2+1):=aD (by omega) (by omega)
       rw [z0]
       exact ih v1 (v2+1) (by(try simp only [Ls]);omega) (by(try simp only [Ls]);omega)
   | false =>
    have q0:=cF h0
    have e:=Eq.refl (bA a0 a1 a2 (v1,v2));conv at e=>rhs;simp only [bA,h0,aH]
    rw [aF,e]
    exact rt [.d h0] [] [] hcx (by kernel_rfl)
def F82 (a0:Zm)(a1:Int)(a2:Int):Int :=
 (aB (bA a0 a1 a2) (toNat ((a0.2.length:Int) - 0)+1) (0,0))
theorem C82 (a0:Zm)(a1:Int)(a2:Int)(l0_1:a0.1.length≤9223372036854775807)(l0_2:a0.2.length≤9223372036854775807):Con Tryz.prog 82 [(.a [(.s 0 0 a0.1.length 3),(.s 1 0 a0.2.length 3)]),(iv a1),(iv a2)] [(.live false true (flat dT a0.1)),(.live false true (flat eZ a0.2))] (iv (F82 a0 a1 a2)) []:=by
 refine aJ Tryz.func82 (by kernel_rfl) fun cx hcx=>?_
 have e:=Eq.refl (F82 a0 a1 a2);conv at e=>rhs;simp only [F82]
 rw [e]
 refine en [] [] [1,2,3,7,8] [2] hcx dX (dY) (cN a0 a1 a2 0 0) (toNat ((a0.2.length:Int) - 0)+1) (by kernel_rfl) ?_
 exact bB3 a0 a1 a2 l0_1 l0_2 hcx (toNat ((a0.2.length:Int) - 0)+1) 0 0 (by(try simp only [Ls]);omega) (by(try simp only [Ls]);omega)
noncomputable def aRg:Code:=(aE [1,1,0,1] [] (aG Tryz.f83) []).1
noncomputable def aRh:List K:=(aE [1,1,0,1] [] (aG Tryz.f83) []).2
def aK8 (a0:Zm)(v1 v2:Int):LS:=⟨iH 27 [(1,(.p 2 0)),(3,(iv v1)),(4,(iv v2))],[(.live false true (flat dT a0.1)),(.live false true (flat eZ a0.2)),(.live true false [(.s 0 0 a0.1.length 3),(.s 1 0 a0.2.length 3)])]⟩
def zF (a0:Zm):Int×Int→(Int×Int)⊕(Int)
 | (v1,v2) =>
  (bif (decide ((v2:Int) < (a0.2.length:Int))) then
   (.inl ((W (v1+(cC (xM (a0.1,a0.2) v2).1 (aFw (xM (a0.1,a0.2) v2).2.1 (xM (a0.1,a0.2) v2).2.2)))),(v2+1)))
  else
   (.inr v1))
theorem bB4 (a0:Zm)(l0_1:a0.1.length≤9223372036854775807)(l0_2:a0.2.length≤9223372036854775807)(hv:lZ a0 a0.2.length)(hn:a0.2.length≤96) {cx:Cx} (hcx:cx.base=2):∀(n:Nat)(v1 v2:Int),0≤v2→toNat ((a0.2.length:Int) - v2) < n→Aw.Good Tryz.prog none 9 (bodyPost Tryz.prog Tryz.f83 (RR cx (iv (aB (zF a0) n (v1,v2))) [] [])) cx [] (.l aRg n::aRh) (aK8 a0 v1 v2):=by
 intro n
 induction n with
 | zero=>intro v1 v2 hi hn;exact absurd hn (iG _)
 | succ n ih =>
   intro v1 v2 hi hn
   refine aI ?_
   cases h0:(decide ((v2:Int) < (a0.2.length:Int))) with
   | true =>
    have q0:=bY h0
    have e:=Eq.refl (zF a0 (v1,v2));conv at e=>rhs;simp only [zF,h0,aH]
    rw [aA e]
    refine ba [.d h0,.c [0,1] (C81 (a0.1,a0.2) v2 (by(try simp only [Lt]);omega) (by(try simp only [Lt]);omega) (by show 0≤_∧_ < (a0.2.length:Int);omega) (aIy hv (by omega) (by omega))),.c [] (bAp (xM (a0.1,a0.2) v2).2.1 (xM (a0.1,a0.2) v2).2.2),.c [] (aFx (xM (a0.1,a0.2) v2).1 (aFw (xM (a0.1,a0.2) v2).2.1 (xM (a0.1,a0.2) v2).2.2))] [] [1,3,4] [2] hcx (m:=n) aRg (aRh) (aK8 a0 (W (v1+(cC (xM (a0.1,a0.2) v2).1 (aFw (xM (a0.1,a0.2) v2).2.1 (xM (a0.1,a0.2) v2).2.2)))) (W (v2+1))) (by kernel_rfl) ?_
    have z0:(W (v2+1))=(v2+1):=aD (by omega) (by omega)
    rw [z0]
    exact ih (W (v1+(cC (xM (a0.1,a0.2) v2).1 (aFw (xM (a0.1,a0.2) v2).2.1 (xM (a0.1,a0.2) v2).2.2)))) (v2+1) (by(try simp only [Ls]);omega) (by(try simp only [Ls]);omega)
   | false =>
    have q0:=cF h0
    have e:=Eq.refl (zF a0 (v1,v2));conv at e=>rhs;simp only [zF,h0,aH]
    rw [aF,e]
    exact rt [.d h0] [] [] hcx (by kernel_rfl)
def F83 (a0:Zm):Int :=
 (aB (zF a0) (toNat ((a0.2.length:Int) - 0)+1) (0,0))
theorem C83 (a0:Zm)(l0_1:a0.1.length≤9223372036854775807)(l0_2:a0.2.length≤9223372036854775807)(hv:lZ a0 a0.2.length)(hn:a0.2.length≤96):Con Tryz.prog 83 [(.a [(.s 0 0 a0.1.length 3),(.s 1 0 a0.2.length 3)])] [(.live false true (flat dT a0.1)),(.live false true (flat eZ a0.2))] (iv (F83 a0)) []:=by
 refine aJ Tryz.func83 (by kernel_rfl) fun cx hcx=>?_
 have e:=Eq.refl (F83 a0);conv at e=>rhs;simp only [F83]
 rw [e]
 refine en [] [] [1,3,4] [2] hcx aRg (aRh) (aK8 a0 0 0) (toNat ((a0.2.length:Int) - 0)+1) (by kernel_rfl) ?_
 exact bB4 a0 l0_1 l0_2 hv hn hcx (toNat ((a0.2.length:Int) - 0)+1) 0 0 (by(try simp only [Ls]);omega) (by(try simp only [Ls]);omega)
noncomputable def aRi:Code:=(aE [1,1,0,1,0,1,0,1,1] [0] (aG Tryz.f50) []).1
noncomputable def aRj (m0:Nat):List K:=(aE [1,1,0,1,0,1,0,1,1] [m0] (aG Tryz.f50) []).2
def aK9 (a0:Zm)(v3 v4:Int):LS:=⟨iH 148 [(1,(.p 2 0)),(3,(iv v3)),(4,(iv v4))],[(.live false true (flat dT a0.1)),(.live false true (flat eZ a0.2)),(.live true false [(.s 0 0 a0.1.length 3),(.s 1 0 a0.2.length 3)])]⟩
def kT (a0:Zm):Int×Int→(Int×Int)⊕((Int)⊕(Int))
 | (v3,v4) =>
  (bif (decide ((v4:Int) < v3)) then
   (bif ((((a0.1.getD (toNat v3) default).1:Int) == (a0.1.getD (toNat v4) default).1)&&((((a0.1.getD (toNat v3) default).2.1:Int) == (a0.1.getD (toNat v4) default).2.1)&&((((a0.1.getD (toNat v3) default).2.2:Int) == (a0.1.getD (toNat v4) default).2.2)&&true))) then
    (.inr (.inr 1))
   else
    (.inl (v3,(v4+1))))
  else
   (.inr (.inl (v3+1))))
noncomputable def aRk:Code:=(aE [1,1,1,1,1,1,0,1] [] (aG Tryz.f50) []).1
noncomputable def aRl:List K:=(aE [1,1,1,1,1,1,0,1] [] (aG Tryz.f50) []).2
def aLa (a0:Zm)(v11c:List SV)(v11n:Nat)(v12:Int):LS:=⟨iH 148 [(1,(.p 2 0)),(5,(.s 3 0 v11n 1)),(13,(iv v12))],[(.live false true (flat dT a0.1)),(.live false true (flat eZ a0.2)),(.live true false [(.s 0 0 a0.1.length 3),(.s 1 0 a0.2.length 3)]),(.live true true v11c)]⟩
def kI (a0:Zm):List (Bool)×Int→(List (Bool)×Int)⊕(Int)
 | (v11,v12) =>
  (bif (decide ((v12:Int) < (v11.length:Int))) then
   (bif (!(v11.getD (toNat v12) default)) then
    (.inr 5)
   else
    (.inl (v11,(v12+1))))
  else
   (bif (decide (((F83 (a0.1,a0.2)):Int)≤0)) then
    (.inr 8)
   else
    (.inr 0)))
noncomputable def aRm:Code:=(aE [1,1,1,1,1,0,1] [] (aG Tryz.f50) []).1
noncomputable def aRn:List K:=(aE [1,1,1,1,1,0,1] [] (aG Tryz.f50) []).2
def aLb (a0:Zm)(v8c:List SV)(v8n:Nat)(v9:Int):LS:=⟨iH 148 [(1,(.p 2 0)),(5,(.s 3 0 v8n 1)),(9,(iv v9))],[(.live false true (flat dT a0.1)),(.live false true (flat eZ a0.2)),(.live true false [(.s 0 0 a0.1.length 3),(.s 1 0 a0.2.length 3)]),(.live true true v8c)]⟩
def iA (a0:Zm):List (Bool)×Int→(List (Bool)×Int)⊕(Int)
 | (v8,v9) =>
  (bif (decide ((v9:Int) < (a0.2.length:Int))) then
   (bif (((F82 (a0.1,a0.2) (a0.2.getD (toNat v9) default).1 (a0.2.getD (toNat v9) default).2.1):Int) != 1) then
    (.inr 7)
   else
    (bif (((F82 (a0.1,a0.2) (a0.2.getD (toNat v9) default).2.1 (a0.2.getD (toNat v9) default).1):Int) != 1) then
     (.inr 7)
    else
     (bif (((F82 (a0.1,a0.2) (a0.2.getD (toNat v9) default).2.1 (a0.2.getD (toNat v9) default).2.2):Int) != 1) then
      (.inr 7)
     else
      (bif (((F82 (a0.1,a0.2) (a0.2.getD (toNat v9) default).2.2 (a0.2.getD (toNat v9) default).2.1):Int) != 1) then
       (.inr 7)
      else
       (bif (((F82 (a0.1,a0.2) (a0.2.getD (toNat v9) default).2.2 (a0.2.getD (toNat v9) default).1):Int) != 1) then
        (.inr 7)
       else
        (bif (((F82 (a0.1,a0.2) (a0.2.getD (toNat v9) default).1 (a0.2.getD (toNat v9) default).2.2):Int) != 1) then
         (.inr 7)
        else
         (.inl (v8,(v9+1)))))))))
  else
   (.inr (aB (kI a0) (toNat ((v8.length:Int) - 0)+1) (v8,0))))
noncomputable def aRo:Code:=(aE [1,1,1,1,0,1] [] (aG Tryz.f50) []).1
noncomputable def aRp:List K:=(aE [1,1,1,1,0,1] [] (aG Tryz.f50) []).2
def aLc (a0:Zm)(v5c:List SV)(v5n:Nat)(v6:Int):LS:=⟨iH 148 [(1,(.p 2 0)),(5,(.s 3 0 v5n 1)),(6,(iv v6))],[(.live false true (flat dT a0.1)),(.live false true (flat eZ a0.2)),(.live true false [(.s 0 0 a0.1.length 3),(.s 1 0 a0.2.length 3)]),(.live true true v5c)]⟩
def fJ (a0:Zm):List (Bool)×Int→(List (Bool)×Int)⊕(Int)
 | (v5,v6) =>
  (bif (decide ((v6:Int) < (a0.2.length:Int))) then
   (bif (decide (((a0.2.getD (toNat v6) default).1:Int) < 0)) then
    (.inr 5)
   else
    (bif (decide (((a0.2.getD (toNat v6) default).1:Int)≥(a0.1.length:Int))) then
     (.inr 5)
    else
     (bif (decide (((a0.2.getD (toNat v6) default).2.1:Int) < 0)) then
      (.inr 5)
     else
      (bif (decide (((a0.2.getD (toNat v6) default).2.1:Int)≥(a0.1.length:Int))) then
       (.inr 5)
      else
       (bif (decide (((a0.2.getD (toNat v6) default).2.2:Int) < 0)) then
        (.inr 5)
       else
        (bif (decide (((a0.2.getD (toNat v6) default).2.2:Int)≥(a0.1.length:Int))) then
         (.inr 5)
        else
         (bif ((((lF (xM (a0.1,a0.2) v6)).1:Int) == 0)&&((((lF (xM (a0.1,a0.2) v6)).2.1:Int) == 0)&&((((lF (xM (a0.1,a0.2) v6)).2.2:Int) == 0)&&true))) then
          (.inr 6)
         else
          (.inl ((((v5.set (toNat (a0.2.getD (toNat v6) default).1) true).set (toNat (a0.2.getD (toNat v6) default).2.1) true).set (toNat (a0.2.getD (toNat v6) default).2.2) true),(v6+1))))))))))
  else
   (.inr (aB (iA a0) (toNat ((a0.2.length:Int) - 0)+1) (v5,0))))
noncomputable def aM5:Code:=(aE [1,1,0,1] [] (aG Tryz.f50) []).1
noncomputable def aM6:List K:=(aE [1,1,0,1] [] (aG Tryz.f50) []).2
def aGk (a0:Zm)(v1:Int):LS:=⟨iH 148 [(1,(.p 2 0)),(3,(iv v1))],[(.live false true (flat dT a0.1)),(.live false true (flat eZ a0.2)),(.live true false [(.s 0 0 a0.1.length 3),(.s 1 0 a0.2.length 3)])]⟩
def iV (a0:Zm):Int→(Int)⊕(Int)
 | v1 =>
  (bif (decide ((v1:Int) < (a0.1.length:Int))) then
   (bif (!(F79 (a0.1.getD (toNat v1) default) 64)) then
    (.inr 1)
   else
    (aB (kT a0) (toNat (v1 - 0)+1) (v1,0)))
  else
   (.inr (aB (fJ a0) (toNat ((a0.2.length:Int) - 0)+1) ((List.replicate (toNat (a0.1.length:Int)) false),0))))
theorem bB5 (a0:Zm)(l0_1:a0.1.length≤9223372036854775807)(l0_2:a0.2.length≤9223372036854775807) {cx:Cx} (hcx:cx.base=2)
   (n0:Nat) (g0:∀(v1:Int),(0≤v1)∧(a0.1.length≤64)∧(a0.2.length≤96)→toNat ((a0.1.length:Int) - v1) < n0→Aw.Good Tryz.prog none 9 (bodyPost Tryz.prog Tryz.f50 (RR cx (iv (aB (iV a0) n0 v1)) [] [])) cx [] (.l aM5 n0::aM6) (aGk a0 v1)):∀(n:Nat) (v3 v4:Int),(0≤v4)∧((0≤v3))∧((a0.1.length≤64))∧((a0.2.length≤96))∧(v3 < (a0.1.length:Int))∧(toNat ((a0.1.length:Int) - v3) < n0+1)→toNat (v3 - v4) < n→Aw.Good Tryz.prog none 9 (bodyPost Tryz.prog Tryz.f50 (RR cx (iv (iY (iV a0) n0 (aB (kT a0) n (v3,v4)))) [] [])) cx [] (.l aRi n::aRj n0) (aK9 a0 v3 v4):=by
 intro n
 induction n with
 | zero=>intro v3 v4 hi hn;exact absurd hn (iG _)
 | succ n ih =>
   intro v3 v4 hi hn
   refine aI ?_
   cases h0:(decide ((v4:Int) < v3)) with
   | true =>
    have q0:=bY h0
    let t1:List (St Tryz.prog):=[.d h0,.i v3 (a0.1.length),.L bL a0.1 v3 0 3,.i v4 (a0.1.length),.L bL a0.1 v4 0 3]
    cases h1:((((a0.1.getD (toNat v3) default).1:Int) == (a0.1.getD (toNat v4) default).1)&&((((a0.1.getD (toNat v3) default).2.1:Int) == (a0.1.getD (toNat v4) default).2.1)&&((((a0.1.getD (toNat v3) default).2.2:Int) == (a0.1.getD (toNat v4) default).2.2)&&true))) with
    | true =>
     have e:=Eq.refl (kT a0 (v3,v4));conv at e=>rhs;simp only [kT,h0,h1,aH]
     rw [aF,e]
     exact rt (t1++[.d h1]) [] [] hcx (by kernel_rfl)
    | false =>
     have e:=Eq.refl (kT a0 (v3,v4));conv at e=>rhs;simp only [kT,h0,h1,aH]
     rw [aA e]
     refine ba (t1++[.d h1]) [] [1,3,4] [2] hcx (m:=n) aRi (aRj n0) (aK9 a0 v3 (W (v4+1))) (by kernel_rfl) ?_
     have z0:(W (v4+1))=(v4+1):=aD (by omega) (by omega)
     rw [z0]
     exact ih v3 (v4+1) (by refine⟨?_,?_,?_,?_,?_,?_⟩<;>(try simp only [Ls])<;>first | omega | assumption | exact hi.2.1 | exact hi.2.2.1 | exact hi.2.2.2.1 | exact hi.2.2.2.2.1 | exact hi.2.2.2.2.2.1 | simp) (by(try simp only [Ls]);omega)
   | false =>
    have q0:=cF h0
    have e:=Eq.refl (kT a0 (v3,v4));conv at e=>rhs;simp only [kT,h0,aH]
    rw [aF,e]
    refine ba [.d h0] [] [1,3] [2] hcx (m:=n0) aM5 (aM6) (aGk a0 (W (v3+1))) (by kernel_rfl) ?_
    have z0:(W (v3+1))=(v3+1):=aD (by omega) (by omega)
    rw [z0]
    exact g0 (v3+1) (by refine⟨?_,?_,?_⟩<;>(try simp only [Ls])<;>first | omega | assumption | simp) (by(try simp only [Ls]);omega)
theorem bB6 (a0:Zm)(l0_1:a0.1.length≤9223372036854775807)(l0_2:a0.2.length≤9223372036854775807) {cx:Cx} (hcx:cx.base=2):∀(n:Nat)(v11:List (Bool))(v12:Int),(0≤v12)∧(lZ a0 a0.2.length)∧(a0.1.length≤64)∧(a0.2.length≤96)∧(v11.length=a0.1.length)→toNat ((v11.length:Int) - v12) < n→Aw.Good Tryz.prog none 9 (bodyPost Tryz.prog Tryz.f50 (RR cx (iv (aB (kI a0) n (v11,v12))) [] [])) cx [] (.l aRk n::aRl) (aLa a0 (flat c4 v11) v11.length v12):=by
 intro n
 induction n with
 | zero=>intro v11 v12 hi hn;exact absurd hn (iG _)
 | succ n ih =>
   intro v11 v12 hi hn
   refine aI ?_
   cases h0:(decide ((v12:Int) < (v11.length:Int))) with
   | true =>
    have q0:=bY h0
    let t1:List (St Tryz.prog):=[.d h0,.i v12 (v11.length),.L eQ v11 v12 0 1]
    cases h1:(!(v11.getD (toNat v12) default)) with
    | true =>
     have e:=Eq.refl (kI a0 (v11,v12));conv at e=>rhs;simp only [kI,h0,h1,aH]
     rw [aF,e]
     exact rt (t1++[.d h1]) [] [] hcx (by kernel_rfl)
    | false =>
     have e:=Eq.refl (kI a0 (v11,v12));conv at e=>rhs;simp only [kI,h0,h1,aH]
     rw [aA e]
     refine ba (t1++[.d h1]) [] [1,5,13] [2,3] hcx (m:=n) aRk (aRl) (aLa a0 (flat c4 v11) (v11.length) (W (v12+1))) (by kernel_rfl) ?_
     have z0:(W (v12+1))=(v12+1):=aD (by omega) (by omega)
     rw [z0]
     exact ih v11 (v12+1) (by refine⟨?_,?_,?_,?_,?_⟩<;>first | omega | assumption | exact kR | exact hi.2.1 | exact hi.2.2.1 | exact gU hi.2.2.1 (by omega) | exact dL hi.2.2.1 hfo | exact dL hi.2.2.1 (by refine⟨⟨?_,?_⟩,⟨?_,?_⟩,?_,?_⟩<;>omega) | (simp only [List.length_replicate,List.length_set];omega)) (by(try simp only [Ls]);omega)
   | false =>
    have q0:=cF h0
    let t1:List (St Tryz.prog):=[.d h0,.c [0,1] (C83 (a0.1,a0.2) (by(try simp only [Lt]);omega) (by(try simp only [Lt]);omega) hi.2.1 (by show a0.2.length≤96;omega))]
    cases h1:(decide (((F83 (a0.1,a0.2)):Int)≤0)) with
    | true =>
     have q1:=bY h1
     have e:=Eq.refl (kI a0 (v11,v12));conv at e=>rhs;simp only [kI,h0,h1,aH]
     rw [aF,e]
     exact rt (t1++[.d h1]) [] [] hcx (by kernel_rfl)
    | false =>
     have q1:=cF h1
     have e:=Eq.refl (kI a0 (v11,v12));conv at e=>rhs;simp only [kI,h0,h1,aH]
     rw [aF,e]
     exact rt (t1++[.d h1]) [] [] hcx (by kernel_rfl)
theorem bB7 (a0:Zm)(l0_1:a0.1.length≤9223372036854775807)(l0_2:a0.2.length≤9223372036854775807) {cx:Cx} (hcx:cx.base=2):∀(n:Nat)(v8:List (Bool))(v9:Int),(0≤v9)∧(lZ a0 a0.2.length)∧(a0.1.length≤64)∧(a0.2.length≤96)∧(v8.length=a0.1.length)→toNat ((a0.2.length:Int) - v9) < n→Aw.Good Tryz.prog none 9 (bodyPost Tryz.prog Tryz.f50 (RR cx (iv (aB (iA a0) n (v8,v9))) [] [])) cx [] (.l aRm n::aRn) (aLb a0 (flat c4 v8) v8.length v9):=by
 intro n
 induction n with
 | zero=>intro v8 v9 hi hn;exact absurd hn (iG _)
 | succ n ih =>
   intro v8 v9 hi hn
   refine aI ?_
   cases h0:(decide ((v9:Int) < (a0.2.length:Int))) with
   | true =>
    have q0:=bY h0
    let t1:List (St Tryz.prog):=[.d h0,.u 200,.T,.i v9 (a0.2.length),.i 0 3 (by decide),.L aW a0.2 v9 0 1,.p (show(3:Int)≠0 from by decide),.i v9 (a0.2.length),.i 1 3 (by decide),.L aW a0.2 v9 1 1,.c [0,1] (C82 (a0.1,a0.2) (a0.2.getD (toNat v9) default).1 (a0.2.getD (toNat v9) default).2.1 (by(try simp only [Lt]);omega) (by(try simp only [Lt]);omega))]
    cases h1:(((F82 (a0.1,a0.2) (a0.2.getD (toNat v9) default).1 (a0.2.getD (toNat v9) default).2.1):Int) != 1) with
    | true =>
     have q1:=bne_iff_ne.1 h1
     have e:=Eq.refl (iA a0 (v8,v9));conv at e=>rhs;simp only [iA,h0,h1,aH]
     rw [aF,e]
     exact rt (t1++[.d h1]) [] [] hcx (by kernel_rfl)
    | false =>
     have q1:=bne_eq_false_iff_eq.1 h1
     let t2:List (St Tryz.prog):=(t1++[.d h1,.c [0,1] (C82 (a0.1,a0.2) (a0.2.getD (toNat v9) default).2.1 (a0.2.getD (toNat v9) default).1 (by(try simp only [Lt]);omega) (by(try simp only [Lt]);omega))])
     cases h2:(((F82 (a0.1,a0.2) (a0.2.getD (toNat v9) default).2.1 (a0.2.getD (toNat v9) default).1):Int) != 1) with
     | true =>
      have q2:=bne_iff_ne.1 h2
      have e:=Eq.refl (iA a0 (v8,v9));conv at e=>rhs;simp only [iA,h0,h1,h2,aH]
      rw [aF,e]
      exact rt (t2++[.d h2]) [] [] hcx (by kernel_rfl)
     | false =>
      have q2:=bne_eq_false_iff_eq.1 h2
      let t3:List (St Tryz.prog):=(t2++[.d h2,.u 0,.T,.i v9 (a0.2.length),.i 1 3 (by decide),.L aW a0.2 v9 1 1,.p (show(3:Int)≠0 from by decide),.i v9 (a0.2.length),.i 2 3 (by decide),.L aW a0.2 v9 2 1,.c [0,1] (C82 (a0.1,a0.2) (a0.2.getD (toNat v9) default).2.1 (a0.2.getD (toNat v9) default).2.2 (by(try simp only [Lt]);omega) (by(try simp only [Lt]);omega))])
      cases h3:(((F82 (a0.1,a0.2) (a0.2.getD (toNat v9) default).2.1 (a0.2.getD (toNat v9) default).2.2):Int) != 1) with
      | true =>
       have q3:=bne_iff_ne.1 h3
       have e:=Eq.refl (iA a0 (v8,v9));conv at e=>rhs;simp only [iA,h0,h1,h2,h3,aH]
       rw [aF,e]
       exact rt (t3++[.d h3]) [] [] hcx (by kernel_rfl)
      | false =>
       have q3:=bne_eq_false_iff_eq.1 h3
       let t4:List (St Tryz.prog):=(t3++[.d h3,.c [0,1] (C82 (a0.1,a0.2) (a0.2.getD (toNat v9) default).2.2 (a0.2.getD (toNat v9) default).2.1 (by(try simp only [Lt]);omega) (by(try simp only [Lt]);omega))])
       cases h4:(((F82 (a0.1,a0.2) (a0.2.getD (toNat v9) default).2.2 (a0.2.getD (toNat v9) default).2.1):Int) != 1) with
       | true =>
        have q4:=bne_iff_ne.1 h4
        have e:=Eq.refl (iA a0 (v8,v9));conv at e=>rhs;simp only [iA,h0,h1,h2,h3,h4,aH]
        rw [aF,e]
        exact rt (t4++[.d h4]) [] [] hcx (by kernel_rfl)
       | false =>
        have q4:=bne_eq_false_iff_eq.1 h4
        let t5:List (St Tryz.prog):=(t4++[.d h4,.u 0,.T,.i v9 (a0.2.length),.i 2 3 (by decide),.L aW a0.2 v9 2 1,.p (show(3:Int)≠0 from by decide),.i v9 (a0.2.length),.i 0 3 (by decide),.L aW a0.2 v9 0 1,.c [0,1] (C82 (a0.1,a0.2) (a0.2.getD (toNat v9) default).2.2 (a0.2.getD (toNat v9) default).1 (by(try simp only [Lt]);omega) (by(try simp only [Lt]);omega))])
        cases h5:(((F82 (a0.1,a0.2) (a0.2.getD (toNat v9) default).2.2 (a0.2.getD (toNat v9) default).1):Int) != 1) with
        | true =>
         have q5:=bne_iff_ne.1 h5
         have e:=Eq.refl (iA a0 (v8,v9));conv at e=>rhs;simp only [iA,h0,h1,h2,h3,h4,h5,aH]
         rw [aF,e]
         exact rt (t5++[.d h5]) [] [] hcx (by kernel_rfl)
        | false =>
         have q5:=bne_eq_false_iff_eq.1 h5
         let t6:List (St Tryz.prog):=(t5++[.d h5,.c [0,1] (C82 (a0.1,a0.2) (a0.2.getD (toNat v9) default).1 (a0.2.getD (toNat v9) default).2.2 (by(try simp only [Lt]);omega) (by(try simp only [Lt]);omega))])
         cases h6:(((F82 (a0.1,a0.2) (a0.2.getD (toNat v9) default).1 (a0.2.getD (toNat v9) default).2.2):Int) != 1) with
         | true =>
          have q6:=bne_iff_ne.1 h6
          have e:=Eq.refl (iA a0 (v8,v9));conv at e=>rhs;simp only [iA,h0,h1,h2,h3,h4,h5,h6,aH]
          rw [aF,e]
          exact rt (t6++[.d h6]) [] [] hcx (by kernel_rfl)
         | false =>
          have q6:=bne_eq_false_iff_eq.1 h6
          have e:=Eq.refl (iA a0 (v8,v9));conv at e=>rhs;simp only [iA,h0,h1,h2,h3,h4,h5,h6,aH]
          rw [aA e]
          refine ba (t6++[.d h6,.u 0,.F]) [] [1,5,9] [2,3] hcx (m:=n) aRm (aRn) (aLb a0 (flat c4 v8) (v8.length) (W (v9+1))) (by kernel_rfl) ?_
          have z0:(W (v9+1))=(v9+1):=aD (by omega) (by omega)
          rw [z0]
          exact ih v8 (v9+1) (by refine⟨?_,?_,?_,?_,?_⟩<;>first | omega | assumption | exact kR | exact hi.2.1 | exact hi.2.2.1 | exact gU hi.2.2.1 (by omega) | exact dL hi.2.2.1 hfo | exact dL hi.2.2.1 (by refine⟨⟨?_,?_⟩,⟨?_,?_⟩,?_,?_⟩<;>omega) | (simp only [List.length_replicate,List.length_set];omega)) (by(try simp only [Ls]);omega)
   | false =>
    have q0:=cF h0
    have e:=Eq.refl (iA a0 (v8,v9));conv at e=>rhs;simp only [iA,h0,aH]
    rw [aF,e]
    refine en [.d h0] [] [1,5,13] [2,3] hcx aRk (aRl) (aLa a0 (flat c4 v8) (v8.length) 0) (toNat ((v8.length:Int) - 0)+1) (by kernel_rfl) ?_
    exact bB6 a0 l0_1 l0_2 hcx (toNat ((v8.length:Int) - 0)+1) v8 0 (by refine⟨?_,?_,?_,?_,?_⟩<;>first | omega | assumption | exact kR | exact hi.2.1 | exact hi.2.2.1 | exact gU hi.2.2.1 (by omega) | exact dL hi.2.2.1 hfo | exact dL hi.2.2.1 (by refine⟨⟨?_,?_⟩,⟨?_,?_⟩,?_,?_⟩<;>omega) | (simp only [List.length_replicate,List.length_set];omega)) (by(try simp only [Ls]);omega)
theorem bB8 (a0:Zm)(l0_1:a0.1.length≤9223372036854775807)(l0_2:a0.2.length≤9223372036854775807) {cx:Cx} (hcx:cx.base=2):∀(n:Nat)(v5:List (Bool))(v6:Int),(0≤v6)∧(v5.length=a0.1.length)∧(lZ a0 v6)∧(v6≤a0.2.length)∧(a0.1.length≤64)∧(a0.2.length≤96)→toNat ((a0.2.length:Int) - v6) < n→Aw.Good Tryz.prog none 9 (bodyPost Tryz.prog Tryz.f50 (RR cx (iv (aB (fJ a0) n (v5,v6))) [] [])) cx [] (.l aRo n::aRp) (aLc a0 (flat c4 v5) v5.length v6):=by
 intro n
 induction n with
 | zero=>intro v5 v6 hi hn;exact absurd hn (iG _)
 | succ n ih =>
   intro v5 v6 hi hn
   refine aI ?_
   cases h0:(decide ((v6:Int) < (a0.2.length:Int))) with
   | true =>
    have q0:=bY h0
    let t1:List (St Tryz.prog):=[.d h0,.u 200,.T,.i v6 (a0.2.length),.i 0 3 (by decide),.L aW a0.2 v6 0 1]
    cases h1:(decide (((a0.2.getD (toNat v6) default).1:Int) < 0)) with
    | true =>
     have q1:=bY h1
     have e:=Eq.refl (fJ a0 (v5,v6));conv at e=>rhs;simp only [fJ,h0,h1,aH]
     rw [aF,e]
     exact rt (t1++[.d h1]) [] [] hcx (by kernel_rfl)
    | false =>
     have q1:=cF h1
     let t2:List (St Tryz.prog):=(t1++[.d h1])
     cases h2:(decide (((a0.2.getD (toNat v6) default).1:Int)≥(a0.1.length:Int))) with
     | true =>
      have q2:=bY h2
      have e:=Eq.refl (fJ a0 (v5,v6));conv at e=>rhs;simp only [fJ,h0,h1,h2,aH]
      rw [aF,e]
      exact rt (t2++[.d h2]) [] [] hcx (by kernel_rfl)
     | false =>
      have q2:=cF h2
      let t3:List (St Tryz.prog):=(t2++[.d h2,.i ((a0.2.getD (toNat v6) default).1) (v5.length),.p (show((0+toNat (a0.2.getD (toNat v6) default).1*1)+1≤(flat c4 v5).length) from(jQ eQ (by first | omega | (simp only [Lt];omega)) (o:=0) (Nb rfl))),.u 0,.T,.i v6 (a0.2.length),.i 1 3 (by decide),.L aW a0.2 v6 1 1])
      cases h3:(decide (((a0.2.getD (toNat v6) default).2.1:Int) < 0)) with
      | true =>
       have q3:=bY h3
       have e:=Eq.refl (fJ a0 (v5,v6));conv at e=>rhs;simp only [fJ,h0,h1,h2,h3,aH]
       rw [aF,e]
       exact rt (t3++[.d h3]) [] [] hcx (by kernel_rfl)
      | false =>
       have q3:=cF h3
       let t4:List (St Tryz.prog):=(t3++[.d h3])
       cases h4:(decide (((a0.2.getD (toNat v6) default).2.1:Int)≥(a0.1.length:Int))) with
       | true =>
        have q4:=bY h4
        have e:=Eq.refl (fJ a0 (v5,v6));conv at e=>rhs;simp only [fJ,h0,h1,h2,h3,h4,aH]
        rw [aF,e]
        exact rt (t4++[.d h4]) [] [] hcx (by kernel_rfl)
       | false =>
        have q4:=cF h4
        let t5:List (St Tryz.prog):=(t4++[.d h4,.i ((a0.2.getD (toNat v6) default).2.1) (v5.length),.p (show((0+toNat (a0.2.getD (toNat v6) default).2.1*1)+1≤(splice (flat c4 v5) (0+toNat (a0.2.getD (toNat v6) default).1*1) [(.v (.bool true))]).length) from(by rw [show(splice (flat c4 v5) (0+toNat (a0.2.getD (toNat v6) default).1*1) [(.v (.bool true))])=flat c4 (v5.set (toNat (a0.2.getD (toNat v6) default).1) true) from(eN eQ (by first | omega | (simp only [Lt];omega)) (o:=0) (d:=default) (Nb rfl) rfl)];exact jQ eQ (by first | omega | (simp only [Lt];omega)) (o:=0) (Nb rfl))),.u 0,.T,.i v6 (a0.2.length),.i 2 3 (by decide),.L aW a0.2 v6 2 1])
        cases h5:(decide (((a0.2.getD (toNat v6) default).2.2:Int) < 0)) with
        | true =>
         have q5:=bY h5
         have e:=Eq.refl (fJ a0 (v5,v6));conv at e=>rhs;simp only [fJ,h0,h1,h2,h3,h4,h5,aH]
         rw [aF,e]
         exact rt (t5++[.d h5]) [] [] hcx (by kernel_rfl)
        | false =>
         have q5:=cF h5
         let t6:List (St Tryz.prog):=(t5++[.d h5])
         cases h6:(decide (((a0.2.getD (toNat v6) default).2.2:Int)≥(a0.1.length:Int))) with
         | true =>
          have q6:=bY h6
          have e:=Eq.refl (fJ a0 (v5,v6));conv at e=>rhs;simp only [fJ,h0,h1,h2,h3,h4,h5,h6,aH]
          rw [aF,e]
          exact rt (t6++[.d h6]) [] [] hcx (by kernel_rfl)
         | false =>
          have q6:=cF h6
          let t7:List (St Tryz.prog):=(t6++[.d h6,.i ((a0.2.getD (toNat v6) default).2.2) (v5.length),.p (show((0+toNat (a0.2.getD (toNat v6) default).2.2*1)+1≤(splice (splice (flat c4 v5) (0+toNat (a0.2.getD (toNat v6) default).1*1) [(.v (.bool true))]) (0+toNat (a0.2.getD (toNat v6) default).2.1*1) [(.v (.bool true))]).length) from(by rw [show(splice (splice (flat c4 v5) (0+toNat (a0.2.getD (toNat v6) default).1*1) [(.v (.bool true))]) (0+toNat (a0.2.getD (toNat v6) default).2.1*1) [(.v (.bool true))])=flat c4 ((v5.set (toNat (a0.2.getD (toNat v6) default).1) true).set (toNat (a0.2.getD (toNat v6) default).2.1) true) from(by rw [show(splice (flat c4 v5) (0+toNat (a0.2.getD (toNat v6) default).1*1) [(.v (.bool true))])=flat c4 (v5.set (toNat (a0.2.getD (toNat v6) default).1) true) from(eN eQ (by first | omega | (simp only [Lt];omega)) (o:=0) (d:=default) (Nb rfl) rfl)];exact eN eQ (by first | omega | (simp only [Lt];omega)) (o:=0) (d:=default) (Nb rfl) rfl)];exact jQ eQ (by first | omega | (simp only [Lt];omega)) (o:=0) (Nb rfl))),.u 0,.F,.c [0,1] (C81 (a0.1,a0.2) v6 (by(try simp only [Lt]);omega) (by(try simp only [Lt]);omega) (by show 0≤_∧_ < (a0.2.length:Int);omega) (by show inF a0.1.length (a0.2.getD _ default);refine⟨⟨?_,?_⟩,⟨?_,?_⟩,?_,?_⟩<;>omega)),.c [] (C80 (xM (a0.1,a0.2) v6))])
          cases h7:((((lF (xM (a0.1,a0.2) v6)).1:Int) == 0)&&((((lF (xM (a0.1,a0.2) v6)).2.1:Int) == 0)&&((((lF (xM (a0.1,a0.2) v6)).2.2:Int) == 0)&&true))) with
          | true =>
           have e:=Eq.refl (fJ a0 (v5,v6));conv at e=>rhs;simp only [fJ,h0,h1,h2,h3,h4,h5,h6,h7,aH]
           rw [aF,e]
           exact rt (t7++[.d h7]) [] [] hcx (by kernel_rfl)
          | false =>
           have e:=Eq.refl (fJ a0 (v5,v6));conv at e=>rhs;simp only [fJ,h0,h1,h2,h3,h4,h5,h6,h7,aH]
           rw [aA e]
           refine ba (t7++[.d h7]) [] [1,5,6] [2,3] hcx (m:=n) aRo (aRp) (aLc a0 (splice (splice (splice (flat c4 v5) (0+toNat (a0.2.getD (toNat v6) default).1*1) [(.v (.bool true))]) (0+toNat (a0.2.getD (toNat v6) default).2.1*1) [(.v (.bool true))]) (0+toNat (a0.2.getD (toNat v6) default).2.2*1) [(.v (.bool true))]) (v5.length) (W (v6+1))) (by kernel_rfl) ?_
           have z0:(W (v6+1))=(v6+1):=aD (by omega) (by omega)
           have z1:(splice (splice (splice (flat c4 v5) (0+toNat (a0.2.getD (toNat v6) default).1*1) [(.v (.bool true))]) (0+toNat (a0.2.getD (toNat v6) default).2.1*1) [(.v (.bool true))]) (0+toNat (a0.2.getD (toNat v6) default).2.2*1) [(.v (.bool true))])=flat c4 (((v5.set (toNat (a0.2.getD (toNat v6) default).1) true).set (toNat (a0.2.getD (toNat v6) default).2.1) true).set (toNat (a0.2.getD (toNat v6) default).2.2) true):=(by rw [show(splice (splice (flat c4 v5) (0+toNat (a0.2.getD (toNat v6) default).1*1) [(.v (.bool true))]) (0+toNat (a0.2.getD (toNat v6) default).2.1*1) [(.v (.bool true))])=flat c4 ((v5.set (toNat (a0.2.getD (toNat v6) default).1) true).set (toNat (a0.2.getD (toNat v6) default).2.1) true) from(by rw [show(splice (flat c4 v5) (0+toNat (a0.2.getD (toNat v6) default).1*1) [(.v (.bool true))])=flat c4 (v5.set (toNat (a0.2.getD (toNat v6) default).1) true) from(eN eQ (by first | omega | (simp only [Lt];omega)) (o:=0) (d:=default) (Nb rfl) rfl)];exact eN eQ (by first | omega | (simp only [Lt];omega)) (o:=0) (d:=default) (Nb rfl) rfl)];exact eN eQ (by first | omega | (simp only [Lt];omega)) (o:=0) (d:=default) (Nb rfl) rfl)
           have z2:v5.length=(((v5.set (toNat (a0.2.getD (toNat v6) default).1) true).set (toNat (a0.2.getD (toNat v6) default).2.1) true).set (toNat (a0.2.getD (toNat v6) default).2.2) true).length:=by simp
           rw [z0,z1,z2]
           exact ih (((v5.set (toNat (a0.2.getD (toNat v6) default).1) true).set (toNat (a0.2.getD (toNat v6) default).2.1) true).set (toNat (a0.2.getD (toNat v6) default).2.2) true) (v6+1) (by refine⟨?_,?_,?_,?_,?_,?_⟩<;>first | omega | assumption | exact kR | exact hi.2.1 | exact hi.2.2.1 | exact gU hi.2.2.1 (by omega) | exact dL hi.2.2.1 hfo | exact dL hi.2.2.1 (by refine⟨⟨?_,?_⟩,⟨?_,?_⟩,?_,?_⟩<;>omega) | (simp only [List.length_replicate,List.length_set];omega)) (by(try simp only [Ls]);omega)
   | false =>
    have q0:=cF h0
    have e:=Eq.refl (fJ a0 (v5,v6));conv at e=>rhs;simp only [fJ,h0,aH]
    rw [aF,e]
    refine en [.d h0] [] [1,5,9] [2,3] hcx aRm (aRn) (aLb a0 (flat c4 v5) (v5.length) 0) (toNat ((a0.2.length:Int) - 0)+1) (by kernel_rfl) ?_
    exact bB7 a0 l0_1 l0_2 hcx (toNat ((a0.2.length:Int) - 0)+1) v5 0 (by refine⟨?_,?_,?_,?_,?_⟩<;>first | omega | assumption | exact kR | exact hi.2.1 | exact hi.2.2.1 | exact gU hi.2.2.1 (by omega) | exact dL hi.2.2.1 hfo | exact dL hi.2.2.1 (by refine⟨⟨?_,?_⟩,⟨?_,?_⟩,?_,?_⟩<;>omega) | (simp only [List.length_replicate,List.length_set];omega)) (by(try simp only [Ls]);omega)
theorem bB9 (a0:Zm)(l0_1:a0.1.length≤9223372036854775807)(l0_2:a0.2.length≤9223372036854775807) {cx:Cx} (hcx:cx.base=2):∀(n:Nat)(v1:Int),(0≤v1)∧(a0.1.length≤64)∧(a0.2.length≤96)→toNat ((a0.1.length:Int) - v1) < n→Aw.Good Tryz.prog none 9 (bodyPost Tryz.prog Tryz.f50 (RR cx (iv (aB (iV a0) n v1)) [] [])) cx [] (.l aM5 n::aM6) (aGk a0 v1):=by
 intro n
 induction n with
 | zero=>intro v1 hi hn;exact absurd hn (iG _)
 | succ n ih =>
   intro v1 hi hn
   refine aI ?_
   cases h0:(decide ((v1:Int) < (a0.1.length:Int))) with
   | true =>
    have q0:=bY h0
    let t1:List (St Tryz.prog):=[.d h0,.i v1 (a0.1.length),.L bL a0.1 v1 0 3,.c [] (C79 (a0.1.getD (toNat v1) default) 64)]
    cases h1:(!(F79 (a0.1.getD (toNat v1) default) 64)) with
    | true =>
     have e:=Eq.refl (iV a0 v1);conv at e=>rhs;simp only [iV,h0,h1,aH]
     rw [aF,e]
     exact rt (t1++[.d h1]) [] [] hcx (by kernel_rfl)
    | false =>
     have e:=Eq.refl (iV a0 v1);conv at e=>rhs;simp only [iV,h0,h1,aH]
     rw [aF,e]
     refine en (t1++[.d h1]) [] [1,3,4] [2] hcx aRi (aRj n) (aK9 a0 v1 0) (toNat (v1 - 0)+1) (by kernel_rfl) ?_
     exact bB5 a0 l0_1 l0_2 hcx n ih (toNat (v1 - 0)+1) v1 0 (by refine⟨?_,?_,?_,?_,?_,?_⟩<;>(try simp only [Ls])<;>first | omega | assumption | exact hi.2.1 | exact hi.2.2.1 | exact hi.2.2.2.1 | exact hi.2.2.2.2.1 | exact hi.2.2.2.2.2.1 | simp) (by(try simp only [Ls]);omega)
   | false =>
    have q0:=cF h0
    have e:=Eq.refl (iV a0 v1);conv at e=>rhs;simp only [iV,h0,aH]
    rw [aF,e]
    refine en [.d h0,.Z c4 false [(.v (.bool false))] (a0.1.length:Int) 1] [] [1,5,6] [2,3] hcx aRo (aRp) (aLc a0 (flat c4 (List.replicate (toNat (a0.1.length:Int)) false)) (toNat (a0.1.length:Int)) 0) (toNat ((a0.2.length:Int) - 0)+1) (by kernel_rfl) ?_
    have q:=bB8 a0 l0_1 l0_2 hcx (toNat ((a0.2.length:Int) - 0)+1) (List.replicate (toNat (a0.1.length:Int)) false) 0 (by refine⟨?_,?_,?_,?_,?_,?_⟩<;>first | omega | assumption | exact kR | exact hi.2.1 | exact hi.2.2.1 | exact gU hi.2.2.1 (by omega) | exact dL hi.2.2.1 hfo | exact dL hi.2.2.1 (by refine⟨⟨?_,?_⟩,⟨?_,?_⟩,?_,?_⟩<;>omega) | (simp only [List.length_replicate,List.length_set];omega)) (by(try simp only [Ls]);omega)
    simp only [List.length_replicate] at q
    exact q
def vU (a0:Zm):Int :=
 (bif (decide (((a0.1.length:Int):Int) > 64)) then
  4
 else
  (bif (!(F78 (a0.2.length:Int) 1 96)) then
   4
  else
   (aB (iV a0) (toNat ((a0.1.length:Int) - 0)+1) 0)))
theorem C50 (a0:Zm)(l0_1:a0.1.length≤9223372036854775807)(l0_2:a0.2.length≤9223372036854775807):Con Tryz.prog 50 [(.a [(.s 0 0 a0.1.length 3),(.s 1 0 a0.2.length 3)])] [(.live false true (flat dT a0.1)),(.live false true (flat eZ a0.2))] (iv (vU a0)) []:=by
 refine aJ Tryz.func50 (by kernel_rfl) fun cx hcx=>?_
 try have hl96:=aCh h1
 cases h0:(decide (((a0.1.length:Int):Int) > 64)) with
 | true =>
  have q0:=bY h0
  try have hl96:=aCh h1
  have e:=Eq.refl (vU a0);conv at e=>rhs;simp only [vU,h0,aH]
  rw [e]
  exact rt [.d h0] [] [] hcx (by kernel_rfl)
 | false =>
  have q0:=cF h0
  try have hl96:=aCh h1
  let t1:List (St Tryz.prog):=[.d h0,.c [] (C78 (a0.2.length:Int) 1 96)]
  cases h1:(!(F78 (a0.2.length:Int) 1 96)) with
  | true =>
   try have hl96:=aCh h1
   have e:=Eq.refl (vU a0);conv at e=>rhs;simp only [vU,h0,h1,aH]
   rw [e]
   exact rt (t1++[.d h1]) [] [] hcx (by kernel_rfl)
  | false =>
   try have hl96:=aCh h1
   have e:=Eq.refl (vU a0);conv at e=>rhs;simp only [vU,h0,h1,aH]
   rw [e]
   refine en (t1++[.d h1]) [] [1,3] [2] hcx aM5 (aM6) (aGk a0 0) (toNat ((a0.1.length:Int) - 0)+1) (by kernel_rfl) ?_
   exact bB9 a0 l0_1 l0_2 hcx (toNat ((a0.1.length:Int) - 0)+1) 0 (by refine⟨?_,?_,?_⟩<;>(try simp only [Ls])<;>first | omega | assumption | simp) (by(try simp only [Ls]);omega)
end Go.Proofs.YtaeagjnpobdglaaGreat
