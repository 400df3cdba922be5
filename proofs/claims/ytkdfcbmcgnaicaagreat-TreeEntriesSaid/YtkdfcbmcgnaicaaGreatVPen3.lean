/-
  Parts of the proofs of the laws: the executor, what functions of the program compute, and that it is what the statements ask. No premise.
-/
import Derived.Test.YtkdfcbmcgnaicaaGreatVPen2
import Derived.ProofKit
import Derived.OpenShut
import Derived.Deep.Slices
import Derived.RowKit
import Derived.Sort.AssemblyPlain
set_option linter.unusedVariables false
set_option linter.unusedSimpArgs false
set_option maxHeartbeats 4000000
open Int renaming toNat → tN
open Inhabited renaming default → dF
namespace Go.Proofs.YtkdfcbmcgnaicaaGreat
open Go.Proofs Go.Aw Go.RowKit
set_option maxRecDepth 100000
open Go.ChangeShapes Go.WideShapes Go.ChangeAt
def aGq (P:Program)(ok:TypeId->Bool)(n:Nat):List Field->Nat->Bool
 | [],o=>o == n
 | f::l,o=>f.offset == o&&ok f.type&&aGq P ok n l (o+P.cellsOf f.type)
def aCq (P:Program):Nat->TypeId->Bool
 | 0,_=>false
 | k+1,t=>match P.underlying t with
  | some (.int .i64)=>true
  | some (.struct fs)=>aGq P (aCq P k) (P.cellsOf t) fs.toList 0
  | some (.array n e)=>aCq P k e&&P.cellsOf t == n*P.cellsOf e
  | _=>false
section
variable {H : Type} {enc : TypeId × Value → H} {P : Program} {w : World} {base : Nat} {spare : Nat → Bool} {held : Bool}
theorem aCr {ok:TypeId->Bool} {n fuel:Nat} {cs:List Value}
 (hok:∀t cs x,ok t=true->DataW.trod enc P w base spare held fuel t cs=some x->x.2=[]/\∃ns:List Int,cs=ns.map (Value.int .i64)) (hn:cs.length=n) :
 ∀(l:List Field) (o:Nat) (ys:List (DataW H×List MemPlace)),aGq P ok n l o=true->ys.length=l.length ->
   (∀(j:Nat) (f:Field),l[j]? = some f->DataW.trod enc P w base spare held fuel f.type ((cs.drop f.offset).take (P.cellsOf f.type))=ys[j]?) ->
   (∀y∈ys,y.2=[])/\∃ns:List Int,cs.drop o=ns.map (Value.int .i64)
 | [],o,ys,hc,hl,_=>by
  have:ys=[]:=List.length_eq_zero_iff.1 hl
  subst this
  simp only [aGq,beq_iff_eq] at hc
  exact⟨fun y hy=>by simp at hy,[],by rw [hc,←hn,List.drop_length];rfl⟩
 | f::l,o,ys,hc,hl,hf=>by
  cases ys with
  | nil=>simp at hl
  | cons y ys =>
   simp only [aGq,Bool.and_eq_true,beq_iff_eq] at hc
   obtain⟨⟨h1,h2⟩,h3⟩:=hc
   have g0:=hf 0 f rfl
   rw [h1] at g0
   obtain⟨e1,n1,e2⟩:=hok f.type _ y h2 g0
   obtain⟨e3,n2,e4⟩:=aCr hok hn l _ ys h3 (by simpa using hl) (fun j g hg=>hf (j+1) g hg)
   refine⟨fun z hz=>?_,n1++n2,?_⟩
   ·rcases List.mem_cons.1 hz with rfl | hz
    ·exact e1
    ·exact e3 z hz
   ·rw [List.map_append,←e2,←e4,←List.drop_drop,List.take_append_drop]
theorem wU:∀(k:Nat) (t:TypeId) (fuel:Nat) (cs:List Value) (x:DataW H×List MemPlace),aCq P k t=true->DataW.trod enc P w base spare held fuel t cs=some x ->
 x.2=[]/\∃ns:List Int,cs=ns.map (Value.int .i64)
 | 0,_,_,_,_,h,_=>by simp [aCq] at h
 | k+1,t,fuel,cs,x,h,hx=>by
  unfold aCq at h
  split at h
  ·rename_i ht
   obtain⟨n,rfl,rfl,_⟩:=DataW.trod_int ht hx
   exact⟨rfl,[n],rfl⟩
  ·rename_i fs ht
   obtain⟨xs,m,rfl,rfl,hl,hlen,hf⟩:=DataW.trod_struct ht hx
   obtain⟨e1,ns,e2⟩:=aCr (fun t cs x h hx=>wU k t m cs x h hx) hl fs.toList 0 xs h (by simpa using hlen) (fun j f hj=>hf j f (by simpa using hj))
   refine⟨?_,ns,by simpa using e2⟩
   simp only
   induction xs with
   | nil=>rfl
   | cons y l _=>rw [List.flatMap_eq_nil_iff];exact e1
  ·rename_i n e ht
   simp only [Bool.and_eq_true,beq_iff_eq] at h
   obtain⟨xs,m,rfl,rfl,hl,hlen,hf⟩:=DataW.trod_array ht hx
   have hi:∀i,i < n->∃y,xs[i]? = some y/\y.2=[]/\∃ns:List Int,(cs.drop (i*P.cellsOf e)).take (P.cellsOf e)=ns.map (Value.int .i64):=fun i hi=>by
    have h1:=hf i hi
    have hil:i < xs.length:=by rw [hlen];exact hi
    rw [List.getElem?_eq_getElem hil] at h1
    obtain⟨e1,e2⟩:=wU k e m _ _ h.1 h1
    exact⟨_,List.getElem?_eq_getElem hil,e1,e2⟩
   refine⟨?_,?_⟩
   ·simp only
    rw [List.flatMap_eq_nil_iff]
    intro y hy
    obtain⟨i,hy⟩:=List.getElem?_of_mem hy
    have hil:=(List.getElem?_eq_some_iff.1 hy).1
    obtain⟨y',h1,h2,_⟩:=hi i (by rw [←hlen];exact hil)
    rw [h1] at hy
    exact Option.some.inj hy▸h2
   ·have key:∀j,j<=n->∃ns:List Int,cs.drop ((n - j)*P.cellsOf e)=ns.map (Value.int .i64):=by
     intro j
     induction j with
     | zero=>intro _;exact⟨[],by rw [Nat.sub_zero,←h.2,←hl,List.drop_length];rfl⟩
     | succ j ih =>
      intro hj
      obtain⟨n2,h2⟩:=ih (by omega)
      obtain⟨_,_,_,n1,h1⟩:=hi (n - (j+1)) (by omega)
      refine⟨n1++n2,?_⟩
      rw [List.map_append,←h1,←h2,show(n - j)*P.cellsOf e=(n - (j+1))*P.cellsOf e+P.cellsOf e by rw [show n - j=(n - (j+1))+1 by omega,Nat.add_mul,Nat.one_mul],←List.drop_drop,List.take_append_drop]
    obtain⟨ns,hns⟩:=key n (Nat.le_refl _)
    exact⟨ns,by simpa using hns⟩
  ·cases h
theorem aMg {r:Reach} {b0:Nat} {t:TypeId} {fs:Array Field} {v:Value} {d:DataW H} {ps:List MemPlace} (ht:P.underlying t=some (.struct fs))(hf:aCq P 6 t=true)
 (hval:Value.okWide P w r b0 t v) (hd:DataW.Trod enc P w base spare held t v d ps) :
 ps=[]/\∃ns:List Int,v=.agg (ns.map (Value.int .i64)).toArray/\ns.length=P.cellsOf t:=by
 obtain⟨cs,rfl,hs⟩:=okWide_struct ht hval
 obtain⟨fuel,hx⟩:=hd
 obtain⟨e1,ns,e2⟩:=wU 6 t fuel _ _ hf hx
 have e3:cs=(ns.map (Value.int .i64)).toArray:=by
  have:cs.toList=ns.map (Value.int .i64):=by simpa [Value.cells] using e2
  rw [←this]
 refine⟨e1,ns,by rw [e3],?_⟩
 rw [←hs,e3];simp
end
theorem aKm {ρ:Env}:∀ns:List Int,Rels ρ (ns.map iv) (ns.map (Value.int .i64))
 | []=>trivial
 | n::l=>⟨rfl,aKm l⟩
theorem aQr {ρ:Env} (ns:List Int):Rel ρ (.a (ns.map iv)) (.agg (ns.map (Value.int .i64)).toArray):=⟨_,rfl,aKm ns⟩
theorem aIl {H:Type} {enc:TypeId×Value->H} {P:Program} {f:Func} {s:ChangeSpec} {apart fresh handsOn:Bool} {W W':World} {args:Array Value} {v:Value} {ds gs:List (DataW H)} {before:List MemPlace}
 (hW:DataW.Whole enc P f.params.toList s.vars apart W args.toList ds gs before) (hb:Below W.heap.size W W')
 (hres:∀(b:Nat) (sp:Nat->Bool) (hd:Bool),DataW.TrodAll enc P W' b sp hd f.resultTypes.toList (v.resultList f.resultTypes.size) (s.fn H (ds++gs)).results [])
 (hargs:DataW.TrodAll enc P W' 0 (fun b=>decide (b < W.heap.size)) true f.params.toList args.toList (s.fn H (ds++gs)).args before)
 (hvars:DataW.TrodVars enc P W' (fun b=>decide (b < W.heap.size)) s.vars (s.fn H (ds++gs)).vars []) :
 s.post enc P f apart fresh handsOn false W args v W' :=
 ⟨ds,gs,before,[],before,[],hW,hres _ _ _,hargs,hvars,hb.frame _,fun h=>by cases h⟩
theorem aD2 {H:Type} {enc:TypeId×Value->H} {P:Program} {w:World} {base:Nat} {spare:Nat->Bool} {held:Bool} {t:TypeId} {ts:List TypeId} {v:Value} {vs:List Value} {d:DataW H} {ds:List (DataW H)} {p p':List MemPlace}
 (h:DataW.Trod enc P w base spare held t v d p) (h':DataW.TrodAll enc P w base spare held ts vs ds p'):DataW.TrodAll enc P w base spare held (t::ts) (v::vs) (d::ds) (p++p'):=⟨p,p',h,h',rfl⟩
theorem own:ownKnob Tryz.prog.godebug=none:=by kernel_rfl
theorem aD3:laidOutB Tryz.prog=true:=by kernel_rfl
end Go.Proofs.YtkdfcbmcgnaicaaGreat
namespace Go.Proofs.YtkdfcbmcgnaicaaGreat
open Go.Proofs Go.Aw Go.RowKit
set_option maxRecDepth 100000
theorem d4 {d:Int} (h:0<=d/\d<=3):d=0\/d=1\/d=2\/d=3:=by omega
theorem aUu {a b:Int} (h1:-1099511627776<=a)(h2:a<=b)(h3:b<=1099511627776):F58 a b=((a,b),0):=by
 unfold F58 F37
 rw [cI (show(a,b).1≥-1099511627776 from h1),cI (show(a,b).1<=(a,b).2 from h2),cI (show(a,b).2<=1099511627776 from h3)];rfl
theorem aTh {N n:Int} (hN:0<=N)(hn:1<=n):0<=N / n/\N / n<=N/\(N / n)*n<=N:=by
 have h1:0<=N / n:=Int.ediv_nonneg hN (by omega)
 have h2:(N / n)*n<=N:=Int.ediv_mul_le N (by omega)
 have h3:(N / n)*1<=(N / n)*n:=Int.mul_le_mul_of_nonneg_left hn h1
 omega
def fa (c:PN)(x:P3):Int:=mx (mx (mx 0 (ds c.1 x)) (ds c.2.1 x)) (ds c.2.2 x)
def ne (c:PN)(x:P3):Int:=nr (blo c) (bhi c) x x
noncomputable def acc (of:Int->Int×Int)(x:P3):List PN->Int×Int->(Int×Int)⊕((Int×Int)×Int)
 | [],v=>.inl v
 | c::l,v=>if ne c x=0 then .inr ((0,0),10) else acc of x l (v.1+(of (fa c x)).1,v.2+(of (ne c x)).2)
theorem aNs {a b:Int} (h1:-1099511627776<=a)(h2:a<=b)(h3:b<=1099511627776):F37 (a,b)=true:=by
 unfold F37
 rw [cI (show(a,b).1≥-1099511627776 from h1),cI (show(a,b).1<=(a,b).2 from h2),cI (show(a,b).2<=1099511627776 from h3)];rfl
section
variable {p : PN} {x : P3} {d : Int}
end
end Go.Proofs.YtkdfcbmcgnaicaaGreat
namespace Go.Proofs.YtkdfcbmcgnaicaaGreat
open Go.Proofs Go.Aw Go.RowKit
set_option maxRecDepth 100000
def aWz (T r:Int):Prop:=0<=r/\T<=r*r/\(r=0\/(r - 1)*(r - 1) < T)
section
variable {p q : PN} {d : Int}
end
end Go.Proofs.YtkdfcbmcgnaicaaGreat
namespace Go.Proofs.YtkdfcbmcgnaicaaGreat
open Go.Proofs Go.Aw Go.RowKit
set_option maxRecDepth 100000
def F56 (a0:Int):Bool :=
 (bif (decide ((a0:Int)≥(-1099511627776))) then
  (decide ((a0:Int)<=1099511627776))
 else
  false)
def F38 (a0:Int×Int)(a1:Int):(Int×Int)×Int :=
 (bif (((aKj a0):Int) != 0) then
  ((0,0),(aKj a0))
 else
  (bif (!(F56 a1)) then
   ((0,0),1)
  else
   ((F58 (if((F57 a0.2 a1):Int) < (F57 a0.1 a1) then(F57 a0.2 a1) else(F57 a0.1 a1)) (if((F57 a0.1 a1):Int) < (F57 a0.2 a1) then(F57 a0.2 a1) else(F57 a0.1 a1))).1,(F58 (if((F57 a0.2 a1):Int) < (F57 a0.1 a1) then(F57 a0.2 a1) else(F57 a0.1 a1)) (if((F57 a0.1 a1):Int) < (F57 a0.2 a1) then(F57 a0.2 a1) else(F57 a0.1 a1))).2)))
def F84 (a0:Int):Int :=
 (bif (decide ((a0:Int) < 0)) then
  (IntKind.wrap .u64 (W (0 - a0)))
 else
  (IntKind.wrap .u64 a0))
def F83 (a0:Int)(a1:Int):Int×Int :=
 ((IntKind.wrap .u64 ((IntKind.wrap .u64 ((IntKind.wrap .u64 ((Int.fdiv a0 (2 ^ (min (tN 32) 64)))*(Int.fdiv a1 (2 ^ (min (tN 32) 64)))))+(Int.fdiv (IntKind.wrap .u64 ((IntKind.wrap .u64 ((Int.fdiv a0 (2 ^ (min (tN 32) 64)))*(IntKind.wrap .u64 ((BitVec.ofInt 64 a1 &&& BitVec.ofInt 64 4294967295).toNat:Int))))+(Int.fdiv (IntKind.wrap .u64 ((IntKind.wrap .u64 ((BitVec.ofInt 64 a0 &&& BitVec.ofInt 64 4294967295).toNat:Int))*(IntKind.wrap .u64 ((BitVec.ofInt 64 a1 &&& BitVec.ofInt 64 4294967295).toNat:Int)))) (2 ^ (min (tN 32) 64))))) (2 ^ (min (tN 32) 64)))))+(Int.fdiv (IntKind.wrap .u64 ((IntKind.wrap .u64 ((BitVec.ofInt 64 (IntKind.wrap .u64 ((IntKind.wrap .u64 ((Int.fdiv a0 (2 ^ (min (tN 32) 64)))*(IntKind.wrap .u64 ((BitVec.ofInt 64 a1 &&& BitVec.ofInt 64 4294967295).toNat:Int))))+(Int.fdiv (IntKind.wrap .u64 ((IntKind.wrap .u64 ((BitVec.ofInt 64 a0 &&& BitVec.ofInt 64 4294967295).toNat:Int))*(IntKind.wrap .u64 ((BitVec.ofInt 64 a1 &&& BitVec.ofInt 64 4294967295).toNat:Int)))) (2 ^ (min (tN 32) 64))))) &&& BitVec.ofInt 64 4294967295).toNat:Int))+(IntKind.wrap .u64 ((IntKind.wrap .u64 ((BitVec.ofInt 64 a0 &&& BitVec.ofInt 64 4294967295).toNat:Int))*(Int.fdiv a1 (2 ^ (min (tN 32) 64))))))) (2 ^ (min (tN 32) 64))))),(IntKind.wrap .u64 (a0*a1)))
def F66 (a0:Int)(a1:Int):Int :=
 (bif (((F83 (F84 a0) (F84 a1)).1:Int) == 0) then
  (bif (decide (((F83 (F84 a0) (F84 a1)).2:Int)<=1099511627776)) then
   (bif (!((decide ((a0:Int) < 0)) == (decide ((a1:Int) < 0)))) then
    (W (0 - (W (F83 (F84 a0) (F84 a1)).2)))
   else
    (W (F83 (F84 a0) (F84 a1)).2))
  else
   (bif (!((decide ((a0:Int) < 0)) == (decide ((a1:Int) < 0)))) then
    (-1099511627777)
   else
    1099511627777))
 else
  (bif (!((decide ((a0:Int) < 0)) == (decide ((a1:Int) < 0)))) then
   (-1099511627777)
  else
   1099511627777))
def F45 (a0:Int×Int)(a1:Int):(Int×Int)×Int :=
 (bif (!(yY a0)) then
  ((0,0),1)
 else
  (bif (!(F64 a1 (-1099511627776) 1099511627776)) then
   ((0,0),1)
  else
   (bif (decide ((a1:Int) < 0)) then
    ((F65 (F66 a0.2 a1) (F66 a0.1 a1)).1,(F65 (F66 a0.2 a1) (F66 a0.1 a1)).2)
   else
    ((F65 (F66 a0.1 a1) (F66 a0.2 a1)).1,(F65 (F66 a0.1 a1) (F66 a0.2 a1)).2))))
theorem aNt (n:Int):IntKind.wrap .u64 n=n % 18446744073709551616:=by
 simp [IntKind.wrap,IntKind.bits,IntKind.signed]
theorem aTi (a:Int):Int.fdiv a (2 ^ (min (tN 32) 64))=a / 4294967296:=by
 rw [show(2:Int) ^ (min (tN 32) 64)=4294967296 from by kernel_rfl]
 exact Int.fdiv_eq_ediv_of_nonneg _ (by omega)
theorem aUv (a:Int):((BitVec.ofInt 64 a &&& BitVec.ofInt 64 4294967295).toNat:Int)=a % 4294967296:=by
 rw [BitVec.toNat_and,show(BitVec.ofInt 64 4294967295).toNat=2 ^ 32 - 1 from by kernel_rfl,Nat.and_two_pow_sub_one_eq_mod,BitVec.toNat_ofInt]
 have h0:=Int.emod_nonneg a (show(18446744073709551616:Int)≠0 by omega)
 rw [show((2 ^ 64:Nat):Int)=18446744073709551616 from by kernel_rfl]
 have h1:(((a % 18446744073709551616).toNat:Nat):Int)=a % 18446744073709551616:=Int.toNat_of_nonneg h0
 rw [Int.natCast_emod,h1]
 show a % 18446744073709551616 % 4294967296=_
 omega
theorem aUw {x y:Int} (hx:0<=x/\x<=1099511627776)(hy:0<=y/\y<=1099511627776):F83 x y=(x*y / 18446744073709551616,x*y % 18446744073709551616):=by
 unfold F83
 simp only [aNt,aTi,aUv]
 have e0:∀n:Int,n % 4294967296 % 18446744073709551616=n % 4294967296:=fun n=>by omega
 simp only [e0]
 have key:x*y=(x / 4294967296*(y / 4294967296))*18446744073709551616+(x / 4294967296*(y % 4294967296)+x % 4294967296*(y / 4294967296))*4294967296+x % 4294967296*(y % 4294967296):=by
  have h1:=Int.mul_ediv_add_emod x 4294967296
  have h2:=Int.mul_ediv_add_emod y 4294967296
  generalize x / 4294967296=x1 at *
  generalize x % 4294967296=x0 at *
  generalize y / 4294967296=y1 at *
  generalize y % 4294967296=y0 at *
  subst h1;subst h2;grind
 have b1:=nY (a:=256) (b:=256) (x:=x / 4294967296) (y:=y / 4294967296) (by omega) (by omega)
 have b2:=nY (a:=256) (b:=4294967295) (x:=x / 4294967296) (y:=y % 4294967296) (by omega) (by omega)
 have b3:=nY (a:=4294967295) (b:=256) (x:=x % 4294967296) (y:=y / 4294967296) (by omega) (by omega)
 have b4:=nY (a:=4294967295) (b:=4294967295) (x:=x % 4294967296) (y:=y % 4294967296) (by omega) (by omega)
 have n1:0<=x / 4294967296*(y / 4294967296):=Int.mul_nonneg (by omega) (by omega)
 have n2:0<=x / 4294967296*(y % 4294967296):=Int.mul_nonneg (by omega) (by omega)
 have n3:0<=x % 4294967296*(y / 4294967296):=Int.mul_nonneg (by omega) (by omega)
 have n4:0<=x % 4294967296*(y % 4294967296):=Int.mul_nonneg (by omega) (by omega)
 generalize x*y=m at *
 generalize x / 4294967296*(y / 4294967296)=d at *
 generalize x / 4294967296*(y % 4294967296)=b at *
 generalize x % 4294967296*(y / 4294967296)=c at *
 generalize x % 4294967296*(y % 4294967296)=a at *
 rw [eV]
 exact⟨by omega,rfl⟩
def sE (x n:Int):Int:=if 1099511627776 < x*n then 1099511627777 else if x*n < -1099511627776 then -1099511627777 else x*n
theorem aNu (x n:Int):(x*n=(if x < 0 then 0 - x else x)*(if n < 0 then 0 - n else n)/\((x < 0)=(n < 0)))\/(x*n=-((if x < 0 then 0 - x else x)*(if n < 0 then 0 - n else n))/\¬((x < 0)=(n < 0))):=by
 by_cases h1:x < 0
 ·by_cases h2:n < 0
  ·left;rw [if_pos h1,if_pos h2];exact⟨by grind,by simp [h1,h2]⟩
  ·right;rw [if_pos h1,if_neg h2];exact⟨by grind,by simp [h1,h2]⟩
 ·by_cases h2:n < 0
  ·right;rw [if_neg h1,if_pos h2];exact⟨by grind,by simp [h1,h2]⟩
  ·left;rw [if_neg h1,if_neg h2];exact⟨by grind,by simp [h1,h2]⟩
theorem aNv {x n:Int} (hx:-1099511627776<=x/\x<=1099511627776)(hn:-1099511627776<=n/\n<=1099511627776):F66 x n=sE x n:=by
 have hsz:∀z:Int,-1099511627776<=z/\z<=1099511627776->F84 z=if z < 0 then 0 - z else z:=by
  intro z hz
  unfold F84
  by_cases h:z < 0
  ·rw [cI h,cond_true,if_pos h,aR (by omega) (by omega),aNt];omega
  ·rw [dA h,cond_false,if_neg h,aNt];omega
 unfold F66 sE
 rw [hsz x hx,hsz n hn,aUw (by split<;>omega) (by split<;>omega)]
 have hm:=aNu x n
 have hnn:0<=(if x < 0 then 0 - x else x)*(if n < 0 then 0 - n else n):=Int.mul_nonneg (by split<;>omega) (by split<;>omega)
 generalize (if x < 0 then 0 - x else x)*(if n < 0 then 0 - n else n)=m at *
 have e:(!(decide (x < 0) == decide (n < 0)))=decide (x*n=-m/\¬((x < 0)=(n < 0))):=by
  by_cases h1:x < 0<;>by_cases h2:n < 0<;>simp [h1,h2] at hm ⊢<;>omega
 rw [e]
 simp only
 by_cases h1:m / 18446744073709551616=0
 ·rw [beq_iff_eq.2 h1,cond_true]
  have h2:m % 18446744073709551616=m:=by omega
  rw [h2]
  by_cases h3:m<=1099511627776
  ·rw [cI h3,cond_true,aR (n:=m) (by omega) (by omega),aR (n:=0 - m) (by omega) (by omega)]
   rcases hm with⟨qq1,qq2⟩ | ⟨qq1,qq2⟩
   ·rw [dA (fun h=>h.2 qq2),cond_false,qq1,if_neg (by omega),if_neg (by omega)]
   ·rw [cI ⟨qq1,qq2⟩,cond_true,qq1,if_neg (by omega),if_neg (by omega)];omega
  ·rw [dA h3,cond_false]
   rcases hm with⟨qq1,qq2⟩ | ⟨qq1,qq2⟩
   ·rw [dA (fun h=>h.2 qq2),cond_false,qq1,if_pos (by omega)]
   ·rw [cI ⟨qq1,qq2⟩,cond_true,qq1,if_neg (by omega),if_pos (by omega)]
 ·rw [beq_eq_false_iff_ne.2 h1,cond_false]
  rcases hm with⟨qq1,qq2⟩ | ⟨qq1,qq2⟩
  ·rw [dA (fun h=>h.2 qq2),cond_false,qq1,if_pos (by omega)]
  ·rw [cI ⟨qq1,qq2⟩,cond_true,qq1,if_neg (by omega),if_pos (by omega)]
theorem aNw {x n:Int} (hx:-1099511627776<=x/\x<=1099511627776)(hn:-1099511627776<=n/\n<=1099511627776):F57 x n=sE x n:=by
 have hm:=aNu x n
 have ha:∀z:Int,(-1099511627776<=z/\z<=1099511627776)->(if(z:Int) < (W (0 - z)) then(W (0 - z)) else z)=if z < 0 then 0 - z else z:=by
  intro z hz
  rw [aR (n:=0 - z) (by omega) (by omega)]
  (repeat' split)<;>omega
 unfold F57 sE
 rw [ha x hx,ha n hn]
 by_cases hx0:x=0
 ·subst hx0;simp [aR]
 by_cases hn0:n=0
 ·subst hn0;simp [aR]
 rw [bne_iff_ne.2 hx0,bne_iff_ne.2 hn0,cond_true,cond_true]
 have a1:1<=(if x < 0 then 0 - x else x)/\(if x < 0 then 0 - x else x)<=1099511627776:=by split<;>omega
 have a2:1<=(if n < 0 then 0 - n else n)/\(if n < 0 then 0 - n else n)<=1099511627776:=by split<;>omega
 have e:(!(decide (x < 0) == decide (n < 0)))=decide (x*n=-((if x < 0 then 0 - x else x)*(if n < 0 then 0 - n else n))/\¬((x < 0)=(n < 0))):=by
  by_cases h1:x < 0<;>by_cases h2:n < 0<;>simp [h1,h2] at hm ⊢<;>omega
 rw [e]
 generalize (if x < 0 then 0 - x else x)=ax at *
 generalize (if n < 0 then 0 - n else n)=an at *
 rw [Int.tdiv_eq_ediv_of_nonneg (by omega)]
 obtain⟨d1,d2,d3⟩:=aTh (N:=1099511627776) (n:=ax) (by omega) (by omega)
 have d4:=Int.mul_ediv_add_emod 1099511627776 ax
 have d5:=Int.emod_lt_of_pos 1099511627776 (show 0 < ax by omega)
 rw [aR (n:=1099511627776 / ax) (by omega) (by omega)]
 have hbig:an > 1099511627776 / ax↔1099511627776 < ax*an:=by
  constructor
  ·intro h
   have:=Int.mul_le_mul_of_nonneg_left (show 1099511627776 / ax+1<=an by omega) (show 0<=ax by omega)
   rw [Int.mul_add,Int.mul_one] at this;omega
  ·intro h
   rcases Int.lt_or_le (1099511627776 / ax) an with h' | h'
   ·exact h'
   ·have:=Int.mul_le_mul_of_nonneg_left h' (show 0<=ax by omega)
    rw [Int.mul_comm] at d3;omega
 by_cases hb:an > 1099511627776 / ax
 ·rw [cI hb,cond_true]
  have:=hbig.1 hb
  rcases hm with⟨qq1,qq2⟩ | ⟨qq1,qq2⟩
  ·rw [dA (fun h=>h.2 qq2),cond_false,qq1,if_pos (by omega)]
  ·rw [cI ⟨qq1,qq2⟩,cond_true,qq1,if_neg (by omega),if_pos (by omega)]
 ·rw [dA hb,cond_false]
  have h1:ax*an<=1099511627776:=by
   rcases Int.lt_or_le 1099511627776 (ax*an) with h | h
   ·exact absurd (hbig.2 h) hb
   ·exact h
  have h2:0<=ax*an:=Int.mul_nonneg (by omega) (by omega)
  rcases hm with⟨qq1,qq2⟩ | ⟨qq1,qq2⟩<;>rw [qq1,if_neg (by omega),if_neg (by omega)]<;>exact aR (by omega) (by omega)
theorem aNx {x y n:Int} (h:x<=y)(hn:0<=n):sE x n<=sE y n:=by
 have:=Int.mul_le_mul_of_nonneg_right h hn
 unfold sE;(repeat' split)<;>omega
theorem aNy {x y n:Int} (h:x<=y)(hn:n<=0):sE y n<=sE x n:=by
 have:=Int.mul_le_mul_of_nonpos_right h hn
 unfold sE;(repeat' split)<;>omega
def scl (a:Int×Int)(n:Int):Int×Int:=if n < 0 then(sE a.2 n,sE a.1 n) else(sE a.1 n,sE a.2 n)
def vs (a:Int×Int):Prop:=-1099511627776<=a.1/\a.1<=a.2/\a.2<=1099511627776
theorem aQs {a:Int×Int} {n:Int} (ha:vs a)(hn:-1099511627776<=n/\n<=1099511627776):F38 a n=F58 (scl a n).1 (scl a n).2:=by
 obtain⟨h1,h2,h3⟩:=ha
 unfold F38 aKj F56
 rw [aNs (a:=a.1) (b:=a.2) h1 h2 h3,cI (show n≥-1099511627776 from hn.1),cI hn.2,aNw (x:=a.1) (by omega) hn,aNw (x:=a.2) (by omega) hn]
 show((F58 _ _).1,(F58 _ _).2)=_
 unfold scl
 by_cases h:n < 0
 ·have:=aNy h2 (show n<=0 by omega)
  rw [if_pos h]
  simp only
  rw [show(if(sE a.2 n:Int) < sE a.1 n then sE a.2 n else sE a.1 n)=sE a.2 n by split<;>omega,show(if(sE a.1 n:Int) < sE a.2 n then sE a.2 n else sE a.1 n)=sE a.1 n by split<;>omega]
 ·have:=aNx h2 (show 0<=n by omega)
  rw [if_neg h]
  simp only
  rw [show(if(sE a.2 n:Int) < sE a.1 n then sE a.2 n else sE a.1 n)=sE a.1 n by split<;>omega,show(if(sE a.1 n:Int) < sE a.2 n then sE a.2 n else sE a.1 n)=sE a.2 n by split<;>omega]
theorem aUx {a b:Int} (h1:-1099511627776<=a)(h2:a<=b)(h3:b<=1099511627776):yY (a,b)=true:=aNs h1 h2 h3
theorem aKn (a b:Int):F65 a b=F58 a b:=rfl
theorem aQt {a:Int×Int} {n:Int} (ha:vs a)(hn:-1099511627776<=n/\n<=1099511627776):F45 a n=F58 (scl a n).1 (scl a n).2:=by
 obtain⟨h1,h2,h3⟩:=ha
 unfold F45
 rw [aUx (a:=a.1) (b:=a.2) h1 h2 h3,aIk,cI hn,aNv (x:=a.1) (by omega) hn,aNv (x:=a.2) (by omega) hn,aKn,aKn]
 unfold scl
 by_cases h:n < 0
 ·rw [if_pos h,cI h];rfl
 ·rw [if_neg h,dA h];rfl
theorem aMh (a b:Int):(F58 a b=((a,b),0)/\vs (a,b))\/F58 a b=((0,0),4):=by
 by_cases h:vs (a,b)
 ·exact Or.inl ⟨aUu h.1 h.2.1 h.2.2,h⟩
 ·right
  unfold F58
  have:F37 (a,b)=false:=by
   unfold F37
   by_cases h1:(a,b).1≥-1099511627776
   ·by_cases h2:(a,b).1<=(a,b).2
    ·rw [cI h1,cI h2,cond_true,cond_true];exact dA (fun h3=>h ⟨h1,h2,h3⟩)
    ·rw [cI h1,dA h2];rfl
   ·rw [dA h1];rfl
  rw [this];rfl
def ht (p:PN)(x:P3):Int:=dt (sb p.1 x) (cr (sb p.2.1 x) (sb p.2.2 x))
def aGr:List (Int×Int)->Int×Int->Int×Int
 | [],v=>v
 | a::l,v=>aGr l (v.1+a.1,v.2+a.2)
section
variable {l : List (Int × Int)}
end
end Go.Proofs.YtkdfcbmcgnaicaaGreat
namespace Go.Proofs.YtkdfcbmcgnaicaaGreat
open Go.Proofs Go.Aw Go.RowKit
set_option maxRecDepth 100000
def aAw (a0:Int):Int :=
 (if(a0:Int) < (W (0 - a0)) then(W (0 - a0)) else a0)
theorem aTj (a0:Int):Con Tryz.prog 135 [(iv a0)] [] (iv (aAw a0)) []:=by
 refine bA Tryz.func135 (by kernel_rfl) fun cx hcx=>?_
 have e:=Eq.refl (aAw a0);conv at e=>rhs;simp only [aAw]
 rw [e]
 exact rt [] [] [] hcx (by kernel_rfl)
def rJ (a0:Zt)(a1:Int):Bool :=
 (bif (decide (((aAw a0.1):Int)<=a1)) then
  (bif (decide (((aAw a0.2.1):Int)<=a1)) then
   (bif (decide (((aAw a0.2.2):Int)<=a1)) then
    (bif (decide ((a0.1:Int)≥(W (0 - a1)))) then
     (bif (decide ((a0.2.1:Int)≥(W (0 - a1)))) then
      (decide ((a0.2.2:Int)≥(W (0 - a1))))
     else
      false)
    else
     false)
   else
    false)
  else
   false)
 else
  false)
theorem aWh (a0:Zt)(a1:Int):Con Tryz.prog 133 [(.a (k3 a0)),(iv a1)] [] (.v (.bool (rJ a0 a1))) []:=by
 refine bA Tryz.func133 (by kernel_rfl) fun cx hcx=>?_
 let t0:List (St Tryz.prog):=[.c [] (aTj a0.1)]
 cases h0:(decide (((aAw a0.1):Int)<=a1)) with
 | true =>
  have q0:=cN h0
  let t1:List (St Tryz.prog):=(t0++[.d h0,.c [] (aTj a0.2.1)])
  cases h1:(decide (((aAw a0.2.1):Int)<=a1)) with
  | true =>
   have q1:=cN h1
   let t2:List (St Tryz.prog):=(t1++[.d h1,.c [] (aTj a0.2.2)])
   cases h2:(decide (((aAw a0.2.2):Int)<=a1)) with
   | true =>
    have q2:=cN h2
    let t3:List (St Tryz.prog):=(t2++[.d h2])
    cases h3:(decide ((a0.1:Int)≥(W (0 - a1)))) with
    | true =>
     have q3:=cN h3
     let t4:List (St Tryz.prog):=(t3++[.d h3])
     cases h4:(decide ((a0.2.1:Int)≥(W (0 - a1)))) with
     | true =>
      have q4:=cN h4
      have e:=Eq.refl (rJ a0 a1);conv at e=>rhs;simp only [rJ,h0,h1,h2,h3,h4,aW]
      rw [e]
      exact rt (t4++[.d h4]) [] [] hcx (by kernel_rfl)
     | false =>
      have q4:=cY h4
      have e:=Eq.refl (rJ a0 a1);conv at e=>rhs;simp only [rJ,h0,h1,h2,h3,h4,aW]
      rw [e]
      exact rt (t4++[.d h4]) [] [] hcx (by kernel_rfl)
    | false =>
     have q3:=cY h3
     have e:=Eq.refl (rJ a0 a1);conv at e=>rhs;simp only [rJ,h0,h1,h2,h3,aW]
     rw [e]
     exact rt (t3++[.d h3]) [] [] hcx (by kernel_rfl)
   | false =>
    have q2:=cY h2
    have e:=Eq.refl (rJ a0 a1);conv at e=>rhs;simp only [rJ,h0,h1,h2,aW]
    rw [e]
    exact rt (t2++[.d h2]) [] [] hcx (by kernel_rfl)
  | false =>
   have q1:=cY h1
   have e:=Eq.refl (rJ a0 a1);conv at e=>rhs;simp only [rJ,h0,h1,aW]
   rw [e]
   exact rt (t1++[.d h1]) [] [] hcx (by kernel_rfl)
 | false =>
  have q0:=cY h0
  have e:=Eq.refl (rJ a0 a1);conv at e=>rhs;simp only [rJ,h0,aW]
  rw [e]
  exact rt (t0++[.d h0]) [] [] hcx (by kernel_rfl)
def fV (a0:Zt):Int :=
 (W ((W ((W (a0.1*a0.1))+(W (a0.2.1*a0.2.1))))+(W (a0.2.2*a0.2.2))))
theorem aQu (a0:Zt):Con Tryz.prog 105 [(.a (k3 a0))] [] (iv (fV a0)) []:=by
 refine bA Tryz.func105 (by kernel_rfl) fun cx hcx=>?_
 have e:=Eq.refl (fV a0);conv at e=>rhs;simp only [fV]
 rw [e]
 exact rt [] [] [] hcx (by kernel_rfl)
def fM (a0:Zt)(a1:Zt):Zt :=
 ((W (a0.1 - a1.1)),(W (a0.2.1 - a1.2.1)),(W (a0.2.2 - a1.2.2)))
theorem aQv (a0:Zt)(a1:Zt):Con Tryz.prog 106 [(.a (k3 a0)),(.a (k3 a1))] [] (.a (k3 (fM a0 a1))) []:=by
 refine bA Tryz.func106 (by kernel_rfl) fun cx hcx=>?_
 have e:=Eq.refl (fM a0 a1);conv at e=>rhs;simp only [fM]
 rw [e]
 exact rt [] [] [] hcx (by kernel_rfl)
section
variable {n s t : Int}
end
end Go.Proofs.YtkdfcbmcgnaicaaGreat
namespace Go.Proofs.YtkdfcbmcgnaicaaGreat
open Go.Proofs Go.Aw Go.RowKit
set_option maxRecDepth 100000
open Go.ChangeShapes Go.WideShapes Go.ChangeAt
section
variable {H : Type} {enc : TypeId × Value → H} {P : Program} {w : World}
def rho (es:Nat):Value->Option (Nat×Nat×Nat)
 | .slice (some a) _ cap=>some (a.block,a.off,cap*es)
 | _=>none
end
end Go.Proofs.YtkdfcbmcgnaicaaGreat
namespace Go.Proofs.YtkdfcbmcgnaicaaGreat
open Go.Proofs Go.Aw Go.RowKit
set_option maxRecDepth 100000
theorem iJ {α:Type} {c:α->List SV} (hc:∀x,(c x).all SV.one=true) {l:List α}:(flat c l).all SV.one=true:=by
 rw [List.all_eq_true]
 intro x hx
 obtain⟨a,_,ha⟩:=List.mem_flatMap.1 hx
 exact List.all_eq_true.1 (hc a) x ha
theorem bW {α:Type} {c:α->List SV} {es:Nat} (hc:∀x,(c x).length=es)(l:List α):(flat c l).length=l.length*es:=rH hc l
def okw (v:Int×Int)(n:Nat):Prop:=(-4611686018427387904+1099511627776*n<=v.1/\v.1+1099511627776*n<=4611686018427387904)/\(-4611686018427387904+1099511627776*n<=v.2/\v.2+1099511627776*n<=4611686018427387904)
theorem aNz {v a:Int×Int} {n:Nat} (h:okw v (n+1))(ha:vs a):okw (v.1+a.1,v.2+a.2) n:=by unfold okw vs at *;simp only;omega
theorem aUy {v:Int×Int} {n:Nat} (h:okw v n):W v.1=v.1/\W v.2=v.2:=by unfold okw at h;exact⟨aR (by omega) (by omega),aR (by omega) (by omega)⟩
theorem aSi {n:Nat} (h:n<=10000):okw (0,0) n:=by unfold okw;simp only;omega
theorem aAx {R:Type} [Inhabited R] {S:Zt->Zt⊕R} {G:Int×Int->R} {L:List (Int×Int)} (hl:∀a∈L,vs a)
 (hS:∀(i:Nat) (a:Int×Int),L[i]? = some a->∀v1 v2:Int,S (v1,v2,(i:Int))=.inl (W (v1+a.1),W (v2+a.2),((i+1:Nat):Int)))
 (hE:∀v1 v2:Int,S (v1,v2,(L.length:Int))=.inr (G (v1,v2))) :
 ∀(l:List (Int×Int)) (i n:Nat) (v:Int×Int),L.drop i=l->i<=L.length->l.length < n->okw v l.length->aH S n (v.1,v.2,(i:Int))=G (aGr l v):=by
 intro l
 induction l with
 | nil =>
  intro i n v hd hi' hn h
  have:i=L.length:=by have:=List.drop_eq_nil_iff.1 hd;omega
  obtain⟨n,rfl⟩:∃m,n=m+1:=⟨n - 1,by simp only [List.length_nil] at hn;omega⟩
  subst this
  rw [aQ (hE _ _)];rfl
 | cons c l ih =>
  intro i n v hd hi' hn h
  have hc:L[i]? = some c:=by
   have:(L.drop i)[0]? = some c:=by rw [hd];rfl
   simpa using this
  obtain⟨hlt,hce⟩:=List.getElem?_eq_some_iff.1 hc
  obtain⟨n,rfl⟩:∃m,n=m+1:=⟨n - 1,by omega⟩
  have h1:okw (v.1+c.1,v.2+c.2) l.length:=aNz h (hl c (hce▸List.getElem_mem hlt))
  have hw:=aUy h1
  simp only at hw
  rw [aI (hS i c hc v.1 v.2),hw.1,hw.2]
  exact ih (i+1) n (v.1+c.1,v.2+c.2) (by rw [←List.drop_drop,hd];rfl) (by omega) (by simp only [List.length_cons] at hn;omega) h1
section
variable {l : List (Int × Int)}
theorem aN0 {a:Int×Int} (h:vs a):F37 a=true:=aNs (a:=a.1) (b:=a.2) h.1 h.2.1 h.2.2
theorem aWi (hl:∀a∈l,vs a):aKi l=0:=by
 have key:∀(m:List (Int×Int)) (i n:Nat),l.drop i=m->i<=l.length->m.length < n->aH (vB l) n (i:Int)=0:=by
  intro m
  induction m with
  | nil =>
   intro i n hd hi hn
   have:i=l.length:=by have:=List.drop_eq_nil_iff.1 hd;omega
   obtain⟨n,rfl⟩:∃m,n=m+1:=⟨n - 1,by simp only [List.length_nil] at hn;omega⟩
   subst this
   refine aQ ?_
   simp only [vB]
   rw [dA (Int.lt_irrefl _),cond_false]
  | cons c m ih =>
   intro i n hd hi hn
   have hc:l[i]? = some c:=by
    have:(l.drop i)[0]? = some c:=by rw [hd];rfl
    simpa using this
   obtain⟨hlt,hce⟩:=List.getElem?_eq_some_iff.1 hc
   obtain⟨n,rfl⟩:∃m,n=m+1:=⟨n - 1,by omega⟩
   have hg:l.getD i dF=c:=by rw [fP,hc];rfl
   have e:vB l (i:Int)=.inl ((i+1:Nat):Int):=by
    simp only [vB]
    rw [cI (show((i:Nat):Int) < (l.length:Nat) by omega),cond_true,fT,hg,aN0 (hl c (hce▸List.getElem_mem hlt))];rfl
   rw [aI e]
   exact ih (i+1) n (by rw [←List.drop_drop,hd];rfl) (by omega) (by simp only [List.length_cons] at hn;omega)
 unfold aKi
 exact key l 0 _ rfl (Nat.zero_le _) (by omega)
theorem aTk (hl:∀a∈l,vs a)(hn:l.length<=10000):yD l=((aGr l (0,0)).1,(aGr l (0,0)).2,0):=by
 unfold yD
 rw [dA (by omega),cond_false,aWi hl]
 show aH _ _ (((0,0):Int×Int).1,((0,0):Int×Int).2,((0:Nat):Int))=_
 refine aAx (G:=fun v=>(v.1,v.2,0)) hl (fun i a hi v1 v2=>?_) (fun v1 v2=>?_) l 0 _ (0,0) rfl (Nat.zero_le _) (by omega) (aSi hn)
 ·obtain⟨hlt,hce⟩:=List.getElem?_eq_some_iff.1 hi
  have hg:l.getD i dF=a:=by rw [fP,hi];rfl
  simp only [aDu]
  rw [cI (show((i:Nat):Int) < (l.length:Nat) by omega),cond_true,fT,hg];rfl
 ·simp only [aDu]
  rw [dA (Int.lt_irrefl _),cond_false]
theorem aTl (hl:∀a∈l,vs a)(hn:l.length<=10000):yE l=((aGr l (0,0)).1,(aGr l (0,0)).2,0):=by
 unfold yE
 rw [dA (by omega),cond_false]
 show aH _ _ (((0,0):Int×Int).1,((0,0):Int×Int).2,((0:Nat):Int))=_
 refine aAx (G:=fun v=>(v.1,v.2,0)) hl (fun i a hi v1 v2=>?_) (fun v1 v2=>?_) l 0 _ (0,0) rfl (Nat.zero_le _) (by omega) (aSi hn)
 ·obtain⟨hlt,hce⟩:=List.getElem?_eq_some_iff.1 hi
  have hg:l.getD i dF=a:=by rw [fP,hi];rfl
  simp only [aDy]
  rw [cI (show((i:Nat):Int) < (l.length:Nat) by omega),cond_true,fT,hg,show yY a=true from aN0 (hl a (hce▸List.getElem_mem hlt))];rfl
 ·simp only [aDy]
  rw [dA (Int.lt_irrefl _),cond_false]
noncomputable def aUz (l:List (Int×Int)):(Int×Int)×Int:=F58 (aGr l (0,0)).1 (aGr l (0,0)).2
theorem aU0 (hl:∀a∈l,vs a)(hn:l.length<=10000):aAs l=aUz l:=by
 unfold aAs
 rw [aTk hl hn];rfl
theorem aU1 (hl:∀a∈l,vs a)(hn:l.length<=10000):aAu l=aUz l:=by
 unfold aAu
 rw [aTl hl hn];rfl
end
theorem aN1 {a:Int×Int} {n:Int} (h:(F38 a n).2=0):vs (F38 a n).1:=by
 have h0:=h
 unfold F38 at h0
 cases h1:((aKj a:Int) != 0) with
 | true=>rw [h1,cond_true] at h0;exact absurd h0 (bne_iff_ne.1 h1)
 | false =>
  rw [h1,cond_false] at h0
  cases h2:(!(F56 n)) with
  | true=>rw [h2,cond_true] at h0;exact absurd h0 (by decide)
  | false =>
   obtain⟨x,y,e⟩:∃x y,F38 a n=F58 x y:=⟨_,_,by unfold F38;rw [h1,cond_false,h2,cond_false]⟩
   rw [e] at h ⊢
   rcases aMh x y with⟨e1,e2⟩ | e1
   ·rw [e1];exact e2
   ·rw [e1] at h;exact absurd h (by decide)
end Go.Proofs.YtkdfcbmcgnaicaaGreat
namespace Go.Proofs.YtkdfcbmcgnaicaaGreat
open Go.Proofs Go.Aw Go.RowKit
set_option maxRecDepth 100000
theorem vC {l:List (PN×Int)} (h:iY l=0):l.length<=96:=by
 rcases Nat.lt_or_ge 96 l.length with h' | h'
 ·exfalso
  unfold iY at h
  rw [cI (by omega),cond_true] at h
  exact absurd h (by decide)
 ·exact h'
theorem bB {α:Type} {c:α->List SV} {es:Nat} (hc:∀x,(c x).length=es) {L:List α} {i o:Nat} {xs:List SV} {d y:α} (hi:i < L.length)(ho:o+xs.length<=es)(hy:c y=splice (c (L.getD i d)) o xs) :
 splice (flat c L) (0+i*es+o) xs=flat c (L.set i y):=by
 induction L generalizing i with
 | nil=>simp at hi
 | cons x L ih =>
  cases i with
  | zero =>
   have hy':c y=splice (c x) o xs:=hy
   have hx:=hc x
   simp only [flat,List.flatMap_cons,List.set_cons_zero,hy']
   unfold splice
   simp only [Nat.zero_mul,Nat.zero_add]
   rw [List.take_append_of_le_length (by omega),List.drop_append_of_le_length (by omega)]
   simp [List.append_assoc]
  | succ i =>
   have h:=ih (i:=i) (by simpa using hi) hy
   have hx:=hc x
   simp only [flat,List.flatMap_cons,List.set_cons_succ] at h ⊢
   rw [←h]
   unfold splice
   have e1:0+(i+1)*es+o=(c x).length+(0+i*es+o):=by rw [hx,Nat.add_mul];omega
   rw [e1,List.take_length_add_append,show(c x).length+(0+i*es+o)+xs.length=(c x).length+(0+i*es+o+xs.length) by omega,List.drop_length_add_append]
   simp [List.append_assoc]
theorem dS {α:Type} {c:α->List SV} {es:Nat} (hc:∀x,(c x).length=es) {L:List α} {i o n:Nat} (hi:i < L.length)(ho:o+n<=es):0+i*es+o+n<=(flat c L).length:=by
 rw [rH hc]
 have:=Nat.mul_le_mul_right es (show i+1<=L.length by omega)
 rw [Nat.add_mul] at this
 omega
theorem aTm (w i es x:Nat):0+w*es+i*es+x=0+(w+i)*es+x:=by rw [Nat.add_mul];omega
theorem aP {α:Type} {c:α->List SV} {es:Nat} (hc:∀x,(c x).length=es) {L:List α} {w i o:Nat} {xs:List SV} {d y:α} (hi:w+i < L.length)(ho:o+xs.length<=es)(hy:c y=splice (c (L.getD (w+i) d)) o xs) :
 splice (flat c L) (0+w*es+i*es+o) xs=flat c (L.set (w+i) y):=by rw [aTm];exact bB hc hi ho hy
theorem aX {α:Type} {c:α->List SV} {es:Nat} (hc:∀x,(c x).length=es) {L:List α} {w i o n:Nat} (hi:w+i < L.length)(ho:o+n<=es):0+w*es+i*es+o+n<=(flat c L).length:=by rw [aTm];exact dS hc hi ho
theorem ldw {α:Type} [Inhabited α] {c:α->List SV} {es:Nat} (hc:∀x,(c x).length=es)(l:List α)(w:Nat)(i:Int)(o n:Nat)(h:w+i.toNat < l.length)(ho:o+n<=es) :
 ((flat c l).drop (0+w*es+i.toNat*es+o)).take n=((c (l.getD (w+i.toNat) dF)).drop o).take n:=by
 rw [aTm]
 have:=aKh hc l ((w+i.toNat:Nat):Int) o n ⟨by omega,by omega⟩ ho
 rw [fT] at this
 exact this
def cM {P:Program} {α:Type} [Inhabited α] {c:α->List SV} {es:Nat} (hc:∀x,(c x).length=es)(l:List α)(w:Nat)(i:Int)(o n:Nat)(h:w+i.toNat < l.length:=by first | omega | (simp only [Lt];omega)) (ho:o+n<=es:=by decide):St P :=
 St.l (l:=flat c l) (o:=0+w*es+i.toNat*es+o) (n:=n) (((c (l.getD (w+i.toNat) dF)).drop o).take n) (ldw hc l w i o n h ho)
def InR (n:Nat)(l:List Int):Prop:=∀x∈l,0<=x/\x < (n:Int)
theorem InR.at {n:Nat} {l:List Int} (h:InR n l) {i:Nat} (hi:i < l.length):0<=l.getD i dF/\l.getD i dF < (n:Int):=by
 rw [fP,List.getElem?_eq_getElem hi,Option.getD_some]
 exact h _ (List.getElem_mem hi)
theorem InR.set {n:Nat} {l:List Int} (h:InR n l) {i:Nat} {x:Int} (hx:0<=x/\x < (n:Int)):InR n (l.set i x):=fun y hy=>by
 rcases List.mem_or_eq_of_mem_set hy with hy | rfl
 ·exact h y hy
 ·exact hx
theorem InR.swap {n:Nat} {l:List Int} (h:InR n l) {i j p q:Nat} (hp:p < l.length)(hq:q < l.length):InR n ((l.set i (l.getD p dF)).set j (l.getD q dF)):=(h.set (h.at hp)).set (h.at hq)
def c3 (x:Int):List SV:=[(iv x)]
theorem aF (x:Int):(c3 x).length=1:=rfl
def bZ (x:Int×Int×Int×Int×Zt×Int):List SV:=[(iv x.1),(iv x.2.1),(iv x.2.2.1),(iv x.2.2.2.1),(iv x.2.2.2.2.1.1),(iv x.2.2.2.2.1.2.1),(iv x.2.2.2.2.1.2.2),(iv x.2.2.2.2.2)]
theorem bU (x:Int×Int×Int×Int×Zt×Int):(bZ x).length=8:=rfl
def rK (a0:bT×Int×List Int×bE)(a1:Int)(a2:Int):Int :=
 (bif ((a2:Int) == 0) then
  (W ((W ((a0.1.getD (tN a1) dF).1.1.1+(a0.1.getD (tN a1) dF).1.2.1.1))+(a0.1.getD (tN a1) dF).1.2.2.1))
 else
  (bif ((a2:Int) == 1) then
   (W ((W ((a0.1.getD (tN a1) dF).1.1.2.1+(a0.1.getD (tN a1) dF).1.2.1.2.1))+(a0.1.getD (tN a1) dF).1.2.2.2.1))
  else
   (W ((W ((a0.1.getD (tN a1) dF).1.1.2.2+(a0.1.getD (tN a1) dF).1.2.1.2.2))+(a0.1.getD (tN a1) dF).1.2.2.2.2))))
theorem C95 (a0:bT×Int×List Int×bE)(a1:Int)(a2:Int)(l0_1:a0.1.length<=2^63-1)(l0_2_2_1:a0.2.2.1.length<=2^63-1)(l0_2_2_2:a0.2.2.2.length<=2^63-1)(hi:0<=a1/\a1 < (a0.1.length:Int)):Con Tryz.prog 95 [(.p 0 0),(iv a1),(iv a2)] [(.live false false [(.s 1 0 a0.1.length 10),(iv a0.2.1),(.s 2 0 a0.2.2.1.length 1),(.s 3 0 a0.2.2.2.length 8)]),(.live false true (flat dI a0.1)),(.live false true (flat c3 a0.2.2.1)),(.live false true (flat bZ a0.2.2.2))] (iv (rK a0 a1 a2)) []:=by
 refine bA Tryz.func95 (by kernel_rfl) fun cx hcx=>?_
 let t0:List (St Tryz.prog):=[.i a1 (a0.1.length),.L eM a0.1 a1 0 9]
 cases h0:((a2:Int) == 0) with
 | true =>
  have q0:=eq_of_beq h0
  have e:=Eq.refl (rK a0 a1 a2);conv at e=>rhs;simp only [rK,h0,aW]
  rw [e]
  exact rt (t0++[.d h0]) [] [] hcx (by kernel_rfl)
 | false =>
  have q0:=ne_of_beq_false h0
  let t1:List (St Tryz.prog):=(t0++[.d h0])
  cases h1:((a2:Int) == 1) with
  | true =>
   have q1:=eq_of_beq h1
   have e:=Eq.refl (rK a0 a1 a2);conv at e=>rhs;simp only [rK,h0,h1,aW]
   rw [e]
   exact rt (t1++[.d h1]) [] [] hcx (by kernel_rfl)
  | false =>
   have q1:=ne_of_beq_false h1
   have e:=Eq.refl (rK a0 a1 a2);conv at e=>rhs;simp only [rK,h0,h1,aW]
   rw [e]
   exact rt (t1++[.d h1]) [] [] hcx (by kernel_rfl)
def aAy (a0:Int):Bool :=
 ((a0:Int) != a0)
theorem aU2 (a0:Int):Con Tryz.prog 119 [(iv a0)] [] (.v (.bool (aAy a0))) []:=by
 refine bA Tryz.func119 (by kernel_rfl) fun cx hcx=>?_
 have e:=Eq.refl (aAy a0);conv at e=>rhs;simp only [aAy]
 rw [e]
 exact rt [] [] [] hcx (by kernel_rfl)
def F97 (a0:Int)(a1:Int):Int :=
 (bif (aAy a0) then
  (bif (aAy a1) then
   0
  else
   (-1))
 else
  (bif (aAy a1) then
   1
  else
   (bif (decide ((a0:Int) < a1)) then
    (-1)
   else
    (bif (decide ((a0:Int) > a1)) then
     1
    else
     0))))
theorem C97 (a0:Int)(a1:Int):Con Tryz.prog 97 [(iv a0),(iv a1)] [] (iv (F97 a0 a1)) []:=by
 refine bA Tryz.func97 (by kernel_rfl) fun cx hcx=>?_
 let t0:List (St Tryz.prog):=[.c [] (aU2 a0),.c [] (aU2 a1)]
 cases h0:(aAy a0) with
 | true =>
  let t1:List (St Tryz.prog):=(t0++[.d h0])
  cases h1:(aAy a1) with
  | true =>
   have e:=Eq.refl (F97 a0 a1);conv at e=>rhs;simp only [F97,h0,h1,aW]
   rw [e]
   exact rt (t1++[.d h1]) [] [] hcx (by kernel_rfl)
  | false =>
   have e:=Eq.refl (F97 a0 a1);conv at e=>rhs;simp only [F97,h0,h1,aW]
   rw [e]
   exact rt (t1++[.d h1]) [] [] hcx (by kernel_rfl)
 | false =>
  let t1:List (St Tryz.prog):=(t0++[.d h0])
  cases h1:(aAy a1) with
  | true =>
   have e:=Eq.refl (F97 a0 a1);conv at e=>rhs;simp only [F97,h0,h1,aW]
   rw [e]
   exact rt (t1++[.d h1]) [] [] hcx (by kernel_rfl)
  | false =>
   let t2:List (St Tryz.prog):=(t1++[.d h1])
   cases h2:(decide ((a0:Int) < a1)) with
   | true =>
    have q2:=cN h2
    have e:=Eq.refl (F97 a0 a1);conv at e=>rhs;simp only [F97,h0,h1,h2,aW]
    rw [e]
    exact rt (t2++[.d h2]) [] [] hcx (by kernel_rfl)
   | false =>
    have q2:=cY h2
    let t3:List (St Tryz.prog):=(t2++[.d h2])
    cases h3:(decide ((a0:Int) > a1)) with
    | true =>
     have q3:=cN h3
     have e:=Eq.refl (F97 a0 a1);conv at e=>rhs;simp only [F97,h0,h1,h2,h3,aW]
     rw [e]
     exact rt (t3++[.d h3]) [] [] hcx (by kernel_rfl)
    | false =>
     have q3:=cY h3
     have e:=Eq.refl (F97 a0 a1);conv at e=>rhs;simp only [F97,h0,h1,h2,h3,aW]
     rw [e]
     exact rt (t3++[.d h3]) [] [] hcx (by kernel_rfl)
def sS (a0:(Int)×(Int)):Int :=
 (bif ((a0.1:Int) != 0) then
  a0.1
 else
  (bif ((a0.2:Int) != 0) then
   a0.2
  else
   0))
theorem aU3 (a0:(Int)×(Int)):Con Tryz.prog 96 [(.s 0 0 2 1)] [(.live false false [(iv a0.1),(iv a0.2)])] (iv (sS a0)) []:=by
 refine bA Tryz.func96 (by kernel_rfl) fun cx hcx=>?_
 let t0:List (St Tryz.prog):=[.u 200,.T,.i 0 2 (by decide)]
 cases h0:((a0.1:Int) != 0) with
 | true =>
  have q0:=bne_iff_ne.1 h0
  have e:=Eq.refl (sS a0);conv at e=>rhs;simp only [sS,h0,aW]
  rw [e]
  exact rt (t0++[.d h0]) [] [] hcx (by kernel_rfl)
 | false =>
  have q0:=bne_eq_false_iff_eq.1 h0
  let t1:List (St Tryz.prog):=(t0++[.d h0,.u 0,.T,.i 1 2 (by decide)])
  cases h1:((a0.2:Int) != 0) with
  | true =>
   have q1:=bne_iff_ne.1 h1
   have e:=Eq.refl (sS a0);conv at e=>rhs;simp only [sS,h0,h1,aW]
   rw [e]
   exact rt (t1++[.d h1]) [] [] hcx (by kernel_rfl)
  | false =>
   have q1:=bne_eq_false_iff_eq.1 h1
   have e:=Eq.refl (sS a0);conv at e=>rhs;simp only [sS,h0,h1,aW]
   rw [e]
   exact rt (t1++[.d h1,.u 0,.F]) [] [] hcx (by kernel_rfl)
def oY (a0:eK×Int)(a1:Int)(a2:Int):Int :=
 (sS ((F97 (rK (a0.1.1,a0.1.2.1,(a0.1.2.2.1,a0.1.2.2.2)) a1 a0.2) (rK (a0.1.1,a0.1.2.1,(a0.1.2.2.1,a0.1.2.2.2)) a2 a0.2)),(F97 a1 a2)))
theorem C75 (a0:eK×Int)(a1:Int)(a2:Int)(l0_1_1:a0.1.1.length<=2^63-1)(l0_1_2_2_1:a0.1.2.2.1.length<=2^63-1)(l0_1_2_2_2:a0.1.2.2.2.length<=2^63-1)(hi:0<=a1/\a1 < (a0.1.1.length:Int))(hk:0<=a2/\a2 < (a0.1.1.length:Int)):Con Tryz.prog 75 [(.a [(.p 0 0),(iv a0.2)]),(iv a1),(iv a2)] [(.live false false [(.s 1 0 a0.1.1.length 10),(iv a0.1.2.1),(.s 2 0 a0.1.2.2.1.length 1),(.s 3 0 a0.1.2.2.2.length 8)]),(.live false true (flat dI a0.1.1)),(.live false true (flat c3 a0.1.2.2.1)),(.live false true (flat bZ a0.1.2.2.2))] (iv (oY a0 a1 a2)) []:=by
 refine bA Tryz.func75 (by kernel_rfl) fun cx hcx=>?_
 have e:=Eq.refl (oY a0 a1 a2);conv at e=>rhs;simp only [oY]
 rw [e]
 exact rt [.c [0,1,2,3] (C95 (a0.1.1,a0.1.2.1,(a0.1.2.2.1,a0.1.2.2.2)) a1 a0.2 (by omega) (by omega) (by omega) (by first | exact hi | exact hk)),.c [0,1,2,3] (C95 (a0.1.1,a0.1.2.1,(a0.1.2.2.1,a0.1.2.2.2)) a2 a0.2 (by omega) (by omega) (by omega) (by first | exact hi | exact hk)),.c [] (C97 (rK (a0.1.1,a0.1.2.1,(a0.1.2.2.1,a0.1.2.2.2)) a1 a0.2) (rK (a0.1.1,a0.1.2.1,(a0.1.2.2.1,a0.1.2.2.2)) a2 a0.2)),.c [] (C97 a1 a2),.c [5] (aU3 ((F97 (rK (a0.1.1,a0.1.2.1,(a0.1.2.2.1,a0.1.2.2.2)) a1 a0.2) (rK (a0.1.1,a0.1.2.1,(a0.1.2.2.1,a0.1.2.2.2)) a2 a0.2)),(F97 a1 a2)))] [] [] hcx (by kernel_rfl)
noncomputable def pS:Code:=(aN [1,0,1,0,1] [0] (aL Tryz.f109) []).1
noncomputable def pT (m0:Nat):List K:=(aN [1,0,1,0,1] [m0] (aL Tryz.f109) []).2
def nZ (a0:List Int)(a0_o:Nat)(a0_n:Nat)(a1:Int)(a2:Int)(a3:eK×Int)(v5c:List SV)(v5n:Nat)(v6 v7:Int):LS:=⟨gO 53 [(0,(.s 0 (0+a0_o*1) a0_n 1)),(1,(iv a1)),(2,(iv a2)),(3,(.f 1000075 [(.a [(.p 1 0),(iv a3.2)])])),(8,(iv v6)),(9,(iv v7))],[(.live true true v5c),(.live false false [(.s 2 0 a3.1.1.length 10),(iv a3.1.2.1),(.s 0 0 v5n 1),(.s 3 0 a3.1.2.2.2.length 8)]),(.live false true (flat dI a3.1.1)),(.live false true (flat bZ a3.1.2.2.2))]⟩
def dE (a0:List Int)(a0_o:Nat)(a0_n:Nat)(a1:Int)(a2:Int)(a3:eK×Int):List Int×Int×Int->(List Int×Int×Int)⊕((List Int×Int)⊕(List Int))
 | (v5,v6,v7) =>
  (bif (decide ((v7:Int) > a1)) then
   (bif (decide (((oY ((a3.1.1,a3.1.2.1,(v5,a3.1.2.2.2)),a3.2) (v5.getD (a0_o+tN v7) dF) (v5.getD (a0_o+tN (W (v7 - 1))) dF)):Int) < 0)) then
    (.inl (((v5.set (a0_o+tN v7) (v5.getD (a0_o+tN (W (v7 - 1))) dF)).set (a0_o+tN (W (v7 - 1))) (v5.getD (a0_o+tN v7) dF)),v6,(W (v7 - 1))))
   else
    (.inr (.inl (v5,(v6+1)))))
  else
   (.inr (.inl (v5,(v6+1)))))
noncomputable def kB:Code:=(aN [1] [] (aL Tryz.f109) []).1
noncomputable def kC:List K:=(aN [1] [] (aL Tryz.f109) []).2
def jB (a0:List Int)(a0_o:Nat)(a0_n:Nat)(a1:Int)(a2:Int)(a3:eK×Int)(v3c:List SV)(v3n:Nat)(v4:Int):LS:=⟨gO 53 [(0,(.s 0 (0+a0_o*1) a0_n 1)),(1,(iv a1)),(2,(iv a2)),(3,(.f 1000075 [(.a [(.p 1 0),(iv a3.2)])])),(8,(iv v4))],[(.live true true v3c),(.live false false [(.s 2 0 a3.1.1.length 10),(iv a3.1.2.1),(.s 0 0 v3n 1),(.s 3 0 a3.1.2.2.2.length 8)]),(.live false true (flat dI a3.1.1)),(.live false true (flat bZ a3.1.2.2.2))]⟩
def dZ (a0:List Int)(a0_o:Nat)(a0_n:Nat)(a1:Int)(a2:Int)(a3:eK×Int):List Int×Int->(List Int×Int)⊕(List Int)
 | (v3,v4) =>
  (bif (decide ((v4:Int) < a2)) then
   (aH (dE a0 a0_o a0_n a1 a2 a3) (tN (v4 - a1)+1) (v3,v4,v4))
  else
   (.inr v3))
theorem aD4 (a0:List Int)(a0_o:Nat)(a0_n:Nat)(a1:Int)(a2:Int)(a3:eK×Int)(l0:a0.length<=2^63-1)(l3_1_1:a3.1.1.length<=2^63-1)(l3_1_2_2_1:a3.1.2.2.1.length<=2^63-1)(l3_1_2_2_2:a3.1.2.2.2.length<=2^63-1)(hw:a0_o+a0_n<=a0.length/\a0.length<=1048576)(hr:InR a3.1.1.length a0)(hab:0<=a1/\a1<=a2/\a2<=↑a0_n) {cx:Cx} (hcx:cx.base=4)
 (n0:Nat) (g0:∀(v3:List Int) (v4:Int),(0<=v4)/\(v3.length=a0.length)/\(InR a3.1.1.length v3)/\(a1 < v4)/\(v4<=a2+1)->tN (a2 - v4) < n0->Aw.Good Tryz.prog none 9 (bodyPost Tryz.prog Tryz.f109 (RR cx (.t []) [] [(.live true true (flat c3 (aH (dZ a0 a0_o a0_n a1 a2 a3) n0 (v3,v4)))),.un,.un,.un])) cx [] (.l kB n0::kC) (jB a0 a0_o a0_n a1 a2 a3 (flat c3 v3) v3.length v4)):∀(n:Nat) (v5:List Int) (v6 v7:Int),(v5.length=a0.length)/\(InR a3.1.1.length v5)/\(a1<=v7)/\(v7<=v6)/\(a1 < v6)/\(v6 < a2)/\((0<=v6))/\((v5.length=a0.length))/\((InR a3.1.1.length v5))/\((a1 < v6))/\((v6<=a2+1))/\(v6 < a2)/\(tN (a2 - v6) < n0+1)->tN (v7 - a1) < n->Aw.Good Tryz.prog none 9 (bodyPost Tryz.prog Tryz.f109 (RR cx (.t []) [] [(.live true true (flat c3 (aZ (dZ a0 a0_o a0_n a1 a2 a3) n0 (aH (dE a0 a0_o a0_n a1 a2 a3) n (v5,v6,v7))))),.un,.un,.un])) cx [] (.l pS n::pT n0) (nZ a0 a0_o a0_n a1 a2 a3 (flat c3 v5) v5.length v6 v7):=by
 intro n
 induction n with
 | zero=>intro v5 v6 v7 hi hn;exact absurd hn (eL _)
 | succ n ih =>
  intro v5 v6 v7 hi hn
  refine aS ?_
  have hw_s9m1:=aR (n:=v7 - 1) (by omega) (by omega)
  cases h0:(decide ((v7:Int) > a1)) with
  | true =>
   have q0:=cN h0
   let t1:List (St Tryz.prog):=[.d h0,.i v7 a0_n,cM aF v5 a0_o v7 0 1,.i (W (v7 - 1)) a0_n,cM aF v5 a0_o (W (v7 - 1)) 0 1,.c [1,2,0,3] (C75 ((a3.1.1,a3.1.2.1,(v5,a3.1.2.2.2)),a3.2) (v5.getD (a0_o+tN v7) dF) (v5.getD (a0_o+tN (W (v7 - 1))) dF) (by omega) (by(try simp only [Lt]);omega) (by omega) (hi.2.1.at (by omega)) (hi.2.1.at (by omega)))]
   cases h1:(decide (((oY ((a3.1.1,a3.1.2.1,(v5,a3.1.2.2.2)),a3.2) (v5.getD (a0_o+tN v7) dF) (v5.getD (a0_o+tN (W (v7 - 1))) dF)):Int) < 0)) with
   | true =>
    have q1:=cN h1
    have e:=Eq.refl (dE a0 a0_o a0_n a1 a2 a3 (v5,v6,v7));conv at e=>rhs;simp only [dE,h0,h1,aW]
    rw [aI e]
    refine ba (t1++[.d h1,.i (W (v7 - 1)) a0_n,cM aF v5 a0_o (W (v7 - 1)) 0 1,.i v7 a0_n,cM aF v5 a0_o v7 0 1,.i v7 a0_n,.p (show((0+a0_o*1+tN v7*1)+1<=(flat c3 v5).length) from(aX aF (by first | omega | (simp only [Lt];omega)) (o:=0) (Nb rfl))),.i (W (v7 - 1)) a0_n,.p (show((0+a0_o*1+tN (W (v7 - 1))*1)+1<=(splice (flat c3 v5) (0+a0_o*1+tN v7*1) [(iv (v5.getD (a0_o+tN (W (v7 - 1))) dF))]).length) from(by rw [show(splice (flat c3 v5) (0+a0_o*1+tN v7*1) [(iv (v5.getD (a0_o+tN (W (v7 - 1))) dF))])=flat c3 (v5.set (a0_o+tN v7) (v5.getD (a0_o+tN (W (v7 - 1))) dF)) from(aP aF (by first | omega | (simp only [Lt];omega)) (o:=0) (d:=dF) (Nb rfl) rfl)];exact aX aF (by first | omega | (simp only [Lt];omega)) (o:=0) (Nb rfl)))]) [] [0,1,2,3,8,9] [] hcx (m:=n) pS (pT n0) (nZ a0 a0_o a0_n a1 a2 a3 (splice (splice (flat c3 v5) (0+a0_o*1+tN v7*1) [(iv (v5.getD (a0_o+tN (W (v7 - 1))) dF))]) (0+a0_o*1+tN (W (v7 - 1))*1) [(iv (v5.getD (a0_o+tN v7) dF))]) (v5.length) v6 (W (v7 - 1))) (by kernel_rfl) ?_
    have z0:(splice (splice (flat c3 v5) (0+a0_o*1+tN v7*1) [(iv (v5.getD (a0_o+tN (W (v7 - 1))) dF))]) (0+a0_o*1+tN (W (v7 - 1))*1) [(iv (v5.getD (a0_o+tN v7) dF))])=flat c3 ((v5.set (a0_o+tN v7) (v5.getD (a0_o+tN (W (v7 - 1))) dF)).set (a0_o+tN (W (v7 - 1))) (v5.getD (a0_o+tN v7) dF)):=(by rw [show(splice (flat c3 v5) (0+a0_o*1+tN v7*1) [(iv (v5.getD (a0_o+tN (W (v7 - 1))) dF))])=flat c3 (v5.set (a0_o+tN v7) (v5.getD (a0_o+tN (W (v7 - 1))) dF)) from(aP aF (by first | omega | (simp only [Lt];omega)) (o:=0) (d:=dF) (Nb rfl) rfl)];exact aP aF (by first | omega | (simp only [Lt];omega)) (o:=0) (d:=dF) (Nb rfl) rfl)
    have z1:v5.length=((v5.set (a0_o+tN v7) (v5.getD (a0_o+tN (W (v7 - 1))) dF)).set (a0_o+tN (W (v7 - 1))) (v5.getD (a0_o+tN v7) dF)).length:=by simp
    rw [z0,z1]
    exact ih ((v5.set (a0_o+tN v7) (v5.getD (a0_o+tN (W (v7 - 1))) dF)).set (a0_o+tN (W (v7 - 1))) (v5.getD (a0_o+tN v7) dF)) v6 (W (v7 - 1)) (by refine⟨?_,?_,?_,?_,?_,?_,?_,?_,?_,?_,?_,?_,?_⟩<;>first | omega | assumption | exact hi.2.1 | exact hi.2.2.1 | (simp only [Lt];omega) | exact InR.swap hi.2.1 (by omega) (by omega)) (by omega)
   | false =>
    have q1:=cY h1
    have e:=Eq.refl (dE a0 a0_o a0_n a1 a2 a3 (v5,v6,v7));conv at e=>rhs;simp only [dE,h0,h1,aW]
    rw [aK,e]
    refine ba (t1++[.d h1]) [] [0,1,2,3,8] [] hcx (m:=n0) kB (kC) (jB a0 a0_o a0_n a1 a2 a3 (flat c3 v5) (v5.length) (W (v6+1))) (by kernel_rfl) ?_
    have z0:(W (v6+1))=(v6+1):=aR (by omega) (by omega)
    rw [z0]
    exact g0 v5 (v6+1) (by refine⟨?_,?_,?_,?_⟩<;>first | omega | assumption | exact hi.2.1 | exact hi.2.2.1 | (simp only [Lt];omega) | exact InR.swap hi.2.1 (by omega) (by omega)) (by omega)
  | false =>
   have q0:=cY h0
   have e:=Eq.refl (dE a0 a0_o a0_n a1 a2 a3 (v5,v6,v7));conv at e=>rhs;simp only [dE,h0,aW]
   rw [aK,e]
   refine ba [.d h0] [] [0,1,2,3,8] [] hcx (m:=n0) kB (kC) (jB a0 a0_o a0_n a1 a2 a3 (flat c3 v5) (v5.length) (W (v6+1))) (by kernel_rfl) ?_
   have z0:(W (v6+1))=(v6+1):=aR (by omega) (by omega)
   rw [z0]
   exact g0 v5 (v6+1) (by refine⟨?_,?_,?_,?_⟩<;>first | omega | assumption | exact hi.2.1 | exact hi.2.2.1 | (simp only [Lt];omega) | exact InR.swap hi.2.1 (by omega) (by omega)) (by omega)
theorem aD5 (a0:List Int)(a0_o:Nat)(a0_n:Nat)(a1:Int)(a2:Int)(a3:eK×Int)(l0:a0.length<=2^63-1)(l3_1_1:a3.1.1.length<=2^63-1)(l3_1_2_2_1:a3.1.2.2.1.length<=2^63-1)(l3_1_2_2_2:a3.1.2.2.2.length<=2^63-1)(hw:a0_o+a0_n<=a0.length/\a0.length<=1048576)(hr:InR a3.1.1.length a0)(hab:0<=a1/\a1<=a2/\a2<=↑a0_n) {cx:Cx} (hcx:cx.base=4):∀(n:Nat) (v3:List Int) (v4:Int),(0<=v4)/\(v3.length=a0.length)/\(InR a3.1.1.length v3)/\(a1 < v4)/\(v4<=a2+1)->tN (a2 - v4) < n->Aw.Good Tryz.prog none 9 (bodyPost Tryz.prog Tryz.f109 (RR cx (.t []) [] [(.live true true (flat c3 (aH (dZ a0 a0_o a0_n a1 a2 a3) n (v3,v4)))),.un,.un,.un])) cx [] (.l kB n::kC) (jB a0 a0_o a0_n a1 a2 a3 (flat c3 v3) v3.length v4):=by
 intro n
 induction n with
 | zero=>intro v3 v4 hi hn;exact absurd hn (eL _)
 | succ n ih =>
  intro v3 v4 hi hn
  refine aS ?_
  have hw_s8p1:=aR (n:=v4+1) (by omega) (by omega)
  cases h0:(decide ((v4:Int) < a2)) with
  | true =>
   have q0:=cN h0
   have e:=Eq.refl (dZ a0 a0_o a0_n a1 a2 a3 (v3,v4));conv at e=>rhs;simp only [dZ,h0,aW]
   rw [aK,e]
   refine en [.d h0] [] [0,1,2,3,8,9] [] hcx pS (pT n) (nZ a0 a0_o a0_n a1 a2 a3 (flat c3 v3) (v3.length) v4 v4) (tN (v4 - a1)+1) (by kernel_rfl) ?_
   exact aD4 a0 a0_o a0_n a1 a2 a3 l0 l3_1_1 l3_1_2_2_1 l3_1_2_2_2 hw hr hab hcx n ih (tN (v4 - a1)+1) v3 v4 v4 (by refine⟨?_,?_,?_,?_,?_,?_,?_,?_,?_,?_,?_,?_,?_⟩<;>first | omega | assumption | exact hi.2.1 | exact hi.2.2.1 | (simp only [Lt];omega) | exact InR.swap hi.2.1 (by omega) (by omega)) (by omega)
  | false =>
   have q0:=cY h0
   have e:=Eq.refl (dZ a0 a0_o a0_n a1 a2 a3 (v3,v4));conv at e=>rhs;simp only [dZ,h0,aW]
   rw [aK,e]
   try dsimp only [aZ]
   try dsimp only
   exact rtn [.d h0] [] [0] [] hcx (by kernel_rfl)
def gY (a0:List Int)(a0_o:Nat)(a0_n:Nat)(a1:Int)(a2:Int)(a3:eK×Int):List Int :=
 (aH (dZ a0 a0_o a0_n a1 a2 a3) (tN (a2 - (W (a1+1)))+1) (a0,(W (a1+1))))
theorem aIm (a0:List Int)(a0_o:Nat)(a0_n:Nat)(a1:Int)(a2:Int)(a3:eK×Int)(l0:a0.length<=2^63-1)(l3_1_1:a3.1.1.length<=2^63-1)(l3_1_2_2_1:a3.1.2.2.1.length<=2^63-1)(l3_1_2_2_2:a3.1.2.2.2.length<=2^63-1)(hw:a0_o+a0_n<=a0.length/\a0.length<=1048576)(hr:InR a3.1.1.length a0)(hab:0<=a1/\a1<=a2/\a2<=↑a0_n):Con Tryz.prog 109 [(.s 0 (0+a0_o*1) a0_n 1),(iv a1),(iv a2),(.f 1000075 [(.a [(.p 1 0),(iv a3.2)])])] [(.live true true (flat c3 a0)),(.live false false [(.s 2 0 a3.1.1.length 10),(iv a3.1.2.1),(.s 0 0 a0.length 1),(.s 3 0 a3.1.2.2.2.length 8)]),(.live false true (flat dI a3.1.1)),(.live false true (flat bZ a3.1.2.2.2))] (.t []) [] [(.live true true (flat c3 (gY a0 a0_o a0_n a1 a2 a3))),.un,.un,.un]:=by
 refine bA Tryz.func109 (by kernel_rfl) fun cx hcx=>?_
 have hw_a:=aR (n:=a1+1) (by omega) (by omega)
 have e:=Eq.refl (gY a0 a0_o a0_n a1 a2 a3);conv at e=>rhs;simp only [gY]
 rw [e]
 refine en [] [] [0,1,2,3,8] [] hcx kB (kC) (jB a0 a0_o a0_n a1 a2 a3 (flat c3 a0) (a0.length) (W (a1+1))) (tN (a2 - (W (a1+1)))+1) (by kernel_rfl) ?_
 exact aD5 a0 a0_o a0_n a1 a2 a3 l0 l3_1_1 l3_1_2_2_1 l3_1_2_2_2 hw hr hab hcx (tN (a2 - (W (a1+1)))+1) a0 (W (a1+1)) (by refine⟨?_,?_,?_,?_⟩<;>first | omega | assumption | exact hi.2.1 | exact hi.2.2.1 | (simp only [Lt];omega) | exact InR.swap hi.2.1 (by omega) (by omega)) (by omega)
noncomputable def pU:Code:=(aN [1,1] [] (aL Tryz.f113) []).1
noncomputable def pW:List K:=(aN [1,1] [] (aL Tryz.f113) []).2
def oA (a0:List Int)(a0_o:Nat)(a0_n:Nat)(a1:Int)(a2:Int)(a3:eK×Int)(v1c:List SV)(v1n:Nat)(v2 v3:Int):LS:=⟨gO 34 [(0,(.s 0 (0+a0_o*1) a0_n 1)),(8,(iv v2)),(9,(iv v3))],[(.live true true v1c),(.live false false [(.s 2 0 a3.1.1.length 10),(iv a3.1.2.1),(.s 0 0 v1n 1),(.s 3 0 a3.1.2.2.2.length 8)]),(.live false true (flat dI a3.1.1)),(.live false true (flat bZ a3.1.2.2.2))]⟩
def fA (a0:List Int)(a0_o:Nat)(a0_n:Nat)(a1:Int)(a2:Int)(a3:eK×Int):List Int×Int×Int->(List Int×Int×Int)⊕(List Int)
 | (v1,v2,v3) =>
  (bif (decide ((v2:Int) < v3)) then
   (.inl (((v1.set (a0_o+tN v2) (v1.getD (a0_o+tN v3) dF)).set (a0_o+tN v3) (v1.getD (a0_o+tN v2) dF)),(v2+1),(W (v3 - 1))))
  else
   (.inr v1))
theorem aD6 (a0:List Int)(a0_o:Nat)(a0_n:Nat)(a1:Int)(a2:Int)(a3:eK×Int)(l0:a0.length<=2^63-1)(l3_1_1:a3.1.1.length<=2^63-1)(l3_1_2_2_1:a3.1.2.2.1.length<=2^63-1)(l3_1_2_2_2:a3.1.2.2.2.length<=2^63-1)(hw:a0_o+a0_n<=a0.length/\a0.length<=1048576)(hr:InR a3.1.1.length a0)(hab:0<=a1/\a1<=a2/\a2<=↑a0_n) {cx:Cx} (hcx:cx.base=4):∀(n:Nat) (v1:List Int) (v2 v3:Int),(v1.length=a0.length)/\(InR a3.1.1.length v1)/\(a1<=v2)/\(-1<=v3)/\(v3 < a2)/\(v2<=a2)->tN (v3 - v2) < n->Aw.Good Tryz.prog none 9 (bodyPost Tryz.prog Tryz.f113 (RR cx (.t []) [] [(.live true true (flat c3 (aH (fA a0 a0_o a0_n a1 a2 a3) n (v1,v2,v3)))),.un,.un,.un])) cx [] (.l pU n::pW) (oA a0 a0_o a0_n a1 a2 a3 (flat c3 v1) v1.length v2 v3):=by
 intro n
 induction n with
 | zero=>intro v1 v2 v3 hi hn;exact absurd hn (eL _)
 | succ n ih =>
  intro v1 v2 v3 hi hn
  refine aS ?_
  have hw_0:W (v2+1)=v2+1:=(aR (n:=v2+1) (by omega) (by omega)).trans (by omega)
  have hw_1:W (v3 - 1)=v3 - 1:=(aR (n:=v3 - 1) (by omega) (by omega)).trans (by omega)
  cases h0:(decide ((v2:Int) < v3)) with
  | true =>
   have q0:=cN h0
   have e:=Eq.refl (fA a0 a0_o a0_n a1 a2 a3 (v1,v2,v3));conv at e=>rhs;simp only [fA,h0,aW]
   rw [aI e]
   refine ba [.d h0,.i v3 a0_n,cM aF v1 a0_o v3 0 1,.i v2 a0_n,cM aF v1 a0_o v2 0 1,.i v2 a0_n,.p (show((0+a0_o*1+tN v2*1)+1<=(flat c3 v1).length) from(aX aF (by first | omega | (simp only [Lt];omega)) (o:=0) (Nb rfl))),.i v3 a0_n,.p (show((0+a0_o*1+tN v3*1)+1<=(splice (flat c3 v1) (0+a0_o*1+tN v2*1) [(iv (v1.getD (a0_o+tN v3) dF))]).length) from(by rw [show(splice (flat c3 v1) (0+a0_o*1+tN v2*1) [(iv (v1.getD (a0_o+tN v3) dF))])=flat c3 (v1.set (a0_o+tN v2) (v1.getD (a0_o+tN v3) dF)) from(aP aF (by first | omega | (simp only [Lt];omega)) (o:=0) (d:=dF) (Nb rfl) rfl)];exact aX aF (by first | omega | (simp only [Lt];omega)) (o:=0) (Nb rfl)))] [] [0,8,9] [] hcx (m:=n) pU (pW) (oA a0 a0_o a0_n a1 a2 a3 (splice (splice (flat c3 v1) (0+a0_o*1+tN v2*1) [(iv (v1.getD (a0_o+tN v3) dF))]) (0+a0_o*1+tN v3*1) [(iv (v1.getD (a0_o+tN v2) dF))]) (v1.length) (W (v2+1)) (W (v3 - 1))) (by kernel_rfl) ?_
   have z0:(W (v2+1))=(v2+1):=aR (by omega) (by omega)
   have z1:(splice (splice (flat c3 v1) (0+a0_o*1+tN v2*1) [(iv (v1.getD (a0_o+tN v3) dF))]) (0+a0_o*1+tN v3*1) [(iv (v1.getD (a0_o+tN v2) dF))])=flat c3 ((v1.set (a0_o+tN v2) (v1.getD (a0_o+tN v3) dF)).set (a0_o+tN v3) (v1.getD (a0_o+tN v2) dF)):=(by rw [show(splice (flat c3 v1) (0+a0_o*1+tN v2*1) [(iv (v1.getD (a0_o+tN v3) dF))])=flat c3 (v1.set (a0_o+tN v2) (v1.getD (a0_o+tN v3) dF)) from(aP aF (by first | omega | (simp only [Lt];omega)) (o:=0) (d:=dF) (Nb rfl) rfl)];exact aP aF (by first | omega | (simp only [Lt];omega)) (o:=0) (d:=dF) (Nb rfl) rfl)
   have z2:v1.length=((v1.set (a0_o+tN v2) (v1.getD (a0_o+tN v3) dF)).set (a0_o+tN v3) (v1.getD (a0_o+tN v2) dF)).length:=by simp
   rw [z0,z1,z2]
   exact ih ((v1.set (a0_o+tN v2) (v1.getD (a0_o+tN v3) dF)).set (a0_o+tN v3) (v1.getD (a0_o+tN v2) dF)) (v2+1) (W (v3 - 1)) (by refine⟨?_,?_,?_,?_,?_,?_⟩<;>first | omega | assumption | exact hi.2.1 | exact hi.2.2.1 | (simp only [Lt];omega) | exact InR.swap hi.2.1 (by omega) (by omega)) (by omega)
  | false =>
   have q0:=cY h0
   have e:=Eq.refl (fA a0 a0_o a0_n a1 a2 a3 (v1,v2,v3));conv at e=>rhs;simp only [fA,h0,aW]
   rw [aK,e]
   try dsimp only [aZ]
   try dsimp only
   exact rtn [.d h0] [] [0] [] hcx (by kernel_rfl)
def eY (a0:List Int)(a0_o:Nat)(a0_n:Nat)(a1:Int)(a2:Int)(a3:eK×Int):List Int :=
 (aH (fA a0 a0_o a0_n a1 a2 a3) (tN ((W (a2 - 1)) - a1)+1) (a0,a1,(W (a2 - 1))))
theorem aIn (a0:List Int)(a0_o:Nat)(a0_n:Nat)(a1:Int)(a2:Int)(a3:eK×Int)(l0:a0.length<=2^63-1)(l3_1_1:a3.1.1.length<=2^63-1)(l3_1_2_2_1:a3.1.2.2.1.length<=2^63-1)(l3_1_2_2_2:a3.1.2.2.2.length<=2^63-1)(hw:a0_o+a0_n<=a0.length/\a0.length<=1048576)(hr:InR a3.1.1.length a0)(hab:0<=a1/\a1<=a2/\a2<=↑a0_n):Con Tryz.prog 113 [(.s 0 (0+a0_o*1) a0_n 1),(iv a1),(iv a2),(.f 1000075 [(.a [(.p 1 0),(iv a3.2)])])] [(.live true true (flat c3 a0)),(.live false false [(.s 2 0 a3.1.1.length 10),(iv a3.1.2.1),(.s 0 0 a0.length 1),(.s 3 0 a3.1.2.2.2.length 8)]),(.live false true (flat dI a3.1.1)),(.live false true (flat bZ a3.1.2.2.2))] (.t []) [] [(.live true true (flat c3 (eY a0 a0_o a0_n a1 a2 a3))),.un,.un,.un]:=by
 refine bA Tryz.func113 (by kernel_rfl) fun cx hcx=>?_
 have hw_0:W (a2 - 1)=a2 - 1:=(aR (n:=a2 - 1) (by omega) (by omega)).trans (by omega)
 have e:=Eq.refl (eY a0 a0_o a0_n a1 a2 a3);conv at e=>rhs;simp only [eY]
 rw [e]
 refine en [] [] [0,8,9] [] hcx pU (pW) (oA a0 a0_o a0_n a1 a2 a3 (flat c3 a0) (a0.length) a1 (W (a2 - 1))) (tN ((W (a2 - 1)) - a1)+1) (by kernel_rfl) ?_
 exact aD6 a0 a0_o a0_n a1 a2 a3 l0 l3_1_1 l3_1_2_2_1 l3_1_2_2_2 hw hr hab hcx (tN ((W (a2 - 1)) - a1)+1) a0 a1 (W (a2 - 1)) (by refine⟨?_,?_,?_,?_,?_,?_⟩<;>first | omega | assumption | exact hi.2.1 | exact hi.2.2.1 | (simp only [Lt];omega) | exact InR.swap hi.2.1 (by omega) (by omega)) (by omega)
noncomputable def kD:Code:=(aN [1] [] (aL Tryz.f128) []).1
noncomputable def kE:List K:=(aN [1] [] (aL Tryz.f128) []).2
def jC (a0:List Int)(a0_o:Nat)(a0_n:Nat)(a1:Int)(a2:Int)(a3:Int)(a4:eK×Int)(v1c:List SV)(v1n:Nat)(v2:Int):LS:=⟨gO 82 [(0,(.s 0 (0+a0_o*1) a0_n 1)),(2,(iv a2)),(3,(iv a3)),(4,(.f 1000075 [(.a [(.p 1 0),(iv a4.2)])])),(10,(iv v2))],[(.live true true v1c),(.live false false [(.s 2 0 a4.1.1.length 10),(iv a4.1.2.1),(.s 0 0 v1n 1),(.s 3 0 a4.1.2.2.2.length 8)]),(.live false true (flat dI a4.1.1)),(.live false true (flat bZ a4.1.2.2.2))]⟩
def bM (a0:List Int)(a0_o:Nat)(a0_n:Nat)(a1:Int)(a2:Int)(a3:Int)(a4:eK×Int):List Int×Int->(List Int×Int)⊕(List Int)
 | (v1,v2) =>
  (bif (decide (((W ((W (2*v2))+1)):Int)≥a2)) then
   (.inr v1)
  else
   (bif (decide (((W ((W ((W (2*v2))+1))+1)):Int) < a2)) then
    (bif (decide (((oY ((a4.1.1,a4.1.2.1,(v1,a4.1.2.2.2)),a4.2) (v1.getD (a0_o+tN (W (a3+(W ((W (2*v2))+1))))) dF) (v1.getD (a0_o+tN (W ((W (a3+(W ((W (2*v2))+1))))+1))) dF)):Int) < 0)) then
     (bif (!(decide (((oY ((a4.1.1,a4.1.2.1,(v1,a4.1.2.2.2)),a4.2) (v1.getD (a0_o+tN (W (a3+v2))) dF) (v1.getD (a0_o+tN (W (a3+(W ((W ((W (2*v2))+1))+1))))) dF)):Int) < 0))) then
      (.inr v1)
     else
      (.inl (((v1.set (a0_o+tN (W (a3+v2))) (v1.getD (a0_o+tN (W (a3+(W ((W ((W (2*v2))+1))+1))))) dF)).set (a0_o+tN (W (a3+(W ((W ((W (2*v2))+1))+1))))) (v1.getD (a0_o+tN (W (a3+v2))) dF)),(W ((W ((W (2*v2))+1))+1)))))
    else
     (bif (!(decide (((oY ((a4.1.1,a4.1.2.1,(v1,a4.1.2.2.2)),a4.2) (v1.getD (a0_o+tN (W (a3+v2))) dF) (v1.getD (a0_o+tN (W (a3+(W ((W (2*v2))+1))))) dF)):Int) < 0))) then
      (.inr v1)
     else
      (.inl (((v1.set (a0_o+tN (W (a3+v2))) (v1.getD (a0_o+tN (W (a3+(W ((W (2*v2))+1))))) dF)).set (a0_o+tN (W (a3+(W ((W (2*v2))+1))))) (v1.getD (a0_o+tN (W (a3+v2))) dF)),(W ((W (2*v2))+1))))))
   else
    (bif (!(decide (((oY ((a4.1.1,a4.1.2.1,(v1,a4.1.2.2.2)),a4.2) (v1.getD (a0_o+tN (W (a3+v2))) dF) (v1.getD (a0_o+tN (W (a3+(W ((W (2*v2))+1))))) dF)):Int) < 0))) then
     (.inr v1)
    else
     (.inl (((v1.set (a0_o+tN (W (a3+v2))) (v1.getD (a0_o+tN (W (a3+(W ((W (2*v2))+1))))) dF)).set (a0_o+tN (W (a3+(W ((W (2*v2))+1))))) (v1.getD (a0_o+tN (W (a3+v2))) dF)),(W ((W (2*v2))+1)))))))
theorem aD7 (a0:List Int)(a0_o:Nat)(a0_n:Nat)(a1:Int)(a2:Int)(a3:Int)(a4:eK×Int)(l0:a0.length<=2^63-1)(l4_1_1:a4.1.1.length<=2^63-1)(l4_1_2_2_1:a4.1.2.2.1.length<=2^63-1)(l4_1_2_2_2:a4.1.2.2.2.length<=2^63-1)(hw:a0_o+a0_n<=a0.length/\a0.length<=1048576)(hr:InR a4.1.1.length a0)(hab:0<=a1/\a1<=1048576/\0<=a3/\0<=a2/\a3+a2<=↑a0_n) {cx:Cx} (hcx:cx.base=4):∀(n:Nat) (v1:List Int) (v2:Int),(v1.length=a0.length)/\(InR a4.1.1.length v1)/\(0<=v2)/\(v2<=1048576)->tN (a2 - v2) < n->Aw.Good Tryz.prog none 9 (bodyPost Tryz.prog Tryz.f128 (RR cx (.t []) [] [(.live true true (flat c3 (aH (bM a0 a0_o a0_n a1 a2 a3 a4) n (v1,v2)))),.un,.un,.un])) cx [] (.l kD n::kE) (jC a0 a0_o a0_n a1 a2 a3 a4 (flat c3 v1) v1.length v2):=by
 intro n
 induction n with
 | zero=>intro v1 v2 hi hn;exact absurd hn (eL _)
 | succ n ih =>
  intro v1 v2 hi hn
  refine aS ?_
  have hw_0:W (2*v2)=2*v2:=(aR (n:=2*v2) (by omega) (by omega)).trans (by omega)
  have hw_1:W ((W (2*v2))+1)=2*v2+1:=(aR (n:=(W (2*v2))+1) (by omega) (by omega)).trans (by omega)
  have hw_2:W ((W ((W (2*v2))+1))+1)=2*v2+2:=(aR (n:=(W ((W (2*v2))+1))+1) (by omega) (by omega)).trans (by omega)
  have hw_3:W (a3+(W ((W (2*v2))+1)))=a3+2*v2+1:=(aR (n:=a3+(W ((W (2*v2))+1))) (by omega) (by omega)).trans (by omega)
  have hw_4:W ((W (a3+(W ((W (2*v2))+1))))+1)=a3+2*v2+2:=(aR (n:=(W (a3+(W ((W (2*v2))+1))))+1) (by omega) (by omega)).trans (by omega)
  have hw_5:W (a3+v2)=a3+v2:=(aR (n:=a3+v2) (by omega) (by omega)).trans (by omega)
  have hw_6:W (a3+(W ((W ((W (2*v2))+1))+1)))=a3+2*v2+2:=(aR (n:=a3+(W ((W ((W (2*v2))+1))+1))) (by omega) (by omega)).trans (by omega)
  cases h0:(decide (((W ((W (2*v2))+1)):Int)≥a2)) with
  | true =>
   have q0:=cN h0
   have e:=Eq.refl (bM a0 a0_o a0_n a1 a2 a3 a4 (v1,v2));conv at e=>rhs;simp only [bM,h0,aW]
   rw [aK,e]
   try dsimp only [aZ]
   try dsimp only
   exact rtn [.d h0] [] [0] [] hcx (by kernel_rfl)
  | false =>
   have q0:=cY h0
   let t1:List (St Tryz.prog):=[.d h0]
   cases h1:(decide (((W ((W ((W (2*v2))+1))+1)):Int) < a2)) with
   | true =>
    have q1:=cN h1
    let t2:List (St Tryz.prog):=(t1++[.d h1,.i (W (a3+(W ((W (2*v2))+1)))) a0_n,cM aF v1 a0_o (W (a3+(W ((W (2*v2))+1)))) 0 1,.i (W ((W (a3+(W ((W (2*v2))+1))))+1)) a0_n,cM aF v1 a0_o (W ((W (a3+(W ((W (2*v2))+1))))+1)) 0 1,.c [1,2,0,3] (C75 ((a4.1.1,a4.1.2.1,(v1,a4.1.2.2.2)),a4.2) (v1.getD (a0_o+tN (W (a3+(W ((W (2*v2))+1))))) dF) (v1.getD (a0_o+tN (W ((W (a3+(W ((W (2*v2))+1))))+1))) dF) (by omega) (by(try simp only [Lt]);omega) (by omega) (hi.2.1.at (by omega)) (hi.2.1.at (by omega)))])
    cases h2:(decide (((oY ((a4.1.1,a4.1.2.1,(v1,a4.1.2.2.2)),a4.2) (v1.getD (a0_o+tN (W (a3+(W ((W (2*v2))+1))))) dF) (v1.getD (a0_o+tN (W ((W (a3+(W ((W (2*v2))+1))))+1))) dF)):Int) < 0)) with
    | true =>
     have q2:=cN h2
     let t3:List (St Tryz.prog):=(t2++[.d h2,.i (W (a3+v2)) a0_n,cM aF v1 a0_o (W (a3+v2)) 0 1,.i (W (a3+(W ((W ((W (2*v2))+1))+1)))) a0_n,cM aF v1 a0_o (W (a3+(W ((W ((W (2*v2))+1))+1)))) 0 1,.c [1,2,0,3] (C75 ((a4.1.1,a4.1.2.1,(v1,a4.1.2.2.2)),a4.2) (v1.getD (a0_o+tN (W (a3+v2))) dF) (v1.getD (a0_o+tN (W (a3+(W ((W ((W (2*v2))+1))+1))))) dF) (by omega) (by(try simp only [Lt]);omega) (by omega) (hi.2.1.at (by omega)) (hi.2.1.at (by omega)))])
     cases h3:(!(decide (((oY ((a4.1.1,a4.1.2.1,(v1,a4.1.2.2.2)),a4.2) (v1.getD (a0_o+tN (W (a3+v2))) dF) (v1.getD (a0_o+tN (W (a3+(W ((W ((W (2*v2))+1))+1))))) dF)):Int) < 0))) with
     | true =>
      have e:=Eq.refl (bM a0 a0_o a0_n a1 a2 a3 a4 (v1,v2));conv at e=>rhs;simp only [bM,h0,h1,h2,h3,aW]
      rw [aK,e]
      try dsimp only [aZ]
      try dsimp only
      exact wG (t3++[.d h3]) [] [0] [] hcx (by kernel_rfl)
     | false =>
      have e:=Eq.refl (bM a0 a0_o a0_n a1 a2 a3 a4 (v1,v2));conv at e=>rhs;simp only [bM,h0,h1,h2,h3,aW]
      rw [aI e]
      refine ba (t3++[.d h3,.i (W (a3+(W ((W ((W (2*v2))+1))+1)))) a0_n,cM aF v1 a0_o (W (a3+(W ((W ((W (2*v2))+1))+1)))) 0 1,.i (W (a3+v2)) a0_n,cM aF v1 a0_o (W (a3+v2)) 0 1,.i (W (a3+v2)) a0_n,.p (show((0+a0_o*1+tN (W (a3+v2))*1)+1<=(flat c3 v1).length) from(aX aF (by first | omega | (simp only [Lt];omega)) (o:=0) (Nb rfl))),.i (W (a3+(W ((W ((W (2*v2))+1))+1)))) a0_n,.p (show((0+a0_o*1+tN (W (a3+(W ((W ((W (2*v2))+1))+1))))*1)+1<=(splice (flat c3 v1) (0+a0_o*1+tN (W (a3+v2))*1) [(iv (v1.getD (a0_o+tN (W (a3+(W ((W ((W (2*v2))+1))+1))))) dF))]).length) from(by rw [show(splice (flat c3 v1) (0+a0_o*1+tN (W (a3+v2))*1) [(iv (v1.getD (a0_o+tN (W (a3+(W ((W ((W (2*v2))+1))+1))))) dF))])=flat c3 (v1.set (a0_o+tN (W (a3+v2))) (v1.getD (a0_o+tN (W (a3+(W ((W ((W (2*v2))+1))+1))))) dF)) from(aP aF (by first | omega | (simp only [Lt];omega)) (o:=0) (d:=dF) (Nb rfl) rfl)];exact aX aF (by first | omega | (simp only [Lt];omega)) (o:=0) (Nb rfl)))]) [] [0,2,3,4,10] [] hcx (m:=n) kD (kE) (jC a0 a0_o a0_n a1 a2 a3 a4 (splice (splice (flat c3 v1) (0+a0_o*1+tN (W (a3+v2))*1) [(iv (v1.getD (a0_o+tN (W (a3+(W ((W ((W (2*v2))+1))+1))))) dF))]) (0+a0_o*1+tN (W (a3+(W ((W ((W (2*v2))+1))+1))))*1) [(iv (v1.getD (a0_o+tN (W (a3+v2))) dF))]) (v1.length) (W ((W ((W (2*v2))+1))+1))) (by kernel_rfl) ?_
      have z0:(splice (splice (flat c3 v1) (0+a0_o*1+tN (W (a3+v2))*1) [(iv (v1.getD (a0_o+tN (W (a3+(W ((W ((W (2*v2))+1))+1))))) dF))]) (0+a0_o*1+tN (W (a3+(W ((W ((W (2*v2))+1))+1))))*1) [(iv (v1.getD (a0_o+tN (W (a3+v2))) dF))])=flat c3 ((v1.set (a0_o+tN (W (a3+v2))) (v1.getD (a0_o+tN (W (a3+(W ((W ((W (2*v2))+1))+1))))) dF)).set (a0_o+tN (W (a3+(W ((W ((W (2*v2))+1))+1))))) (v1.getD (a0_o+tN (W (a3+v2))) dF)):=(by rw [show(splice (flat c3 v1) (0+a0_o*1+tN (W (a3+v2))*1) [(iv (v1.getD (a0_o+tN (W (a3+(W ((W ((W (2*v2))+1))+1))))) dF))])=flat c3 (v1.set (a0_o+tN (W (a3+v2))) (v1.getD (a0_o+tN (W (a3+(W ((W ((W (2*v2))+1))+1))))) dF)) from(aP aF (by first | omega | (simp only [Lt];omega)) (o:=0) (d:=dF) (Nb rfl) rfl)];exact aP aF (by first | omega | (simp only [Lt];omega)) (o:=0) (d:=dF) (Nb rfl) rfl)
      have z1:v1.length=((v1.set (a0_o+tN (W (a3+v2))) (v1.getD (a0_o+tN (W (a3+(W ((W ((W (2*v2))+1))+1))))) dF)).set (a0_o+tN (W (a3+(W ((W ((W (2*v2))+1))+1))))) (v1.getD (a0_o+tN (W (a3+v2))) dF)).length:=by simp
      rw [z0,z1]
      exact ih ((v1.set (a0_o+tN (W (a3+v2))) (v1.getD (a0_o+tN (W (a3+(W ((W ((W (2*v2))+1))+1))))) dF)).set (a0_o+tN (W (a3+(W ((W ((W (2*v2))+1))+1))))) (v1.getD (a0_o+tN (W (a3+v2))) dF)) (W ((W ((W (2*v2))+1))+1)) (by refine⟨?_,?_,?_,?_⟩<;>first | omega | assumption | exact hi.2.1 | exact hi.2.2.1 | (simp only [Lt];omega) | exact InR.swap hi.2.1 (by omega) (by omega)) (by omega)
    | false =>
     have q2:=cY h2
     let t3:List (St Tryz.prog):=(t2++[.d h2,.i (W (a3+v2)) a0_n,cM aF v1 a0_o (W (a3+v2)) 0 1,.i (W (a3+(W ((W (2*v2))+1)))) a0_n,cM aF v1 a0_o (W (a3+(W ((W (2*v2))+1)))) 0 1,.c [1,2,0,3] (C75 ((a4.1.1,a4.1.2.1,(v1,a4.1.2.2.2)),a4.2) (v1.getD (a0_o+tN (W (a3+v2))) dF) (v1.getD (a0_o+tN (W (a3+(W ((W (2*v2))+1))))) dF) (by omega) (by(try simp only [Lt]);omega) (by omega) (hi.2.1.at (by omega)) (hi.2.1.at (by omega)))])
     cases h3:(!(decide (((oY ((a4.1.1,a4.1.2.1,(v1,a4.1.2.2.2)),a4.2) (v1.getD (a0_o+tN (W (a3+v2))) dF) (v1.getD (a0_o+tN (W (a3+(W ((W (2*v2))+1))))) dF)):Int) < 0))) with
     | true =>
      have e:=Eq.refl (bM a0 a0_o a0_n a1 a2 a3 a4 (v1,v2));conv at e=>rhs;simp only [bM,h0,h1,h2,h3,aW]
      rw [aK,e]
      try dsimp only [aZ]
      try dsimp only
      exact wG (t3++[.d h3]) [] [0] [] hcx (by kernel_rfl)
     | false =>
      have e:=Eq.refl (bM a0 a0_o a0_n a1 a2 a3 a4 (v1,v2));conv at e=>rhs;simp only [bM,h0,h1,h2,h3,aW]
      rw [aI e]
      refine ba (t3++[.d h3,.i (W (a3+(W ((W (2*v2))+1)))) a0_n,cM aF v1 a0_o (W (a3+(W ((W (2*v2))+1)))) 0 1,.i (W (a3+v2)) a0_n,cM aF v1 a0_o (W (a3+v2)) 0 1,.i (W (a3+v2)) a0_n,.p (show((0+a0_o*1+tN (W (a3+v2))*1)+1<=(flat c3 v1).length) from(aX aF (by first | omega | (simp only [Lt];omega)) (o:=0) (Nb rfl))),.i (W (a3+(W ((W (2*v2))+1)))) a0_n,.p (show((0+a0_o*1+tN (W (a3+(W ((W (2*v2))+1))))*1)+1<=(splice (flat c3 v1) (0+a0_o*1+tN (W (a3+v2))*1) [(iv (v1.getD (a0_o+tN (W (a3+(W ((W (2*v2))+1))))) dF))]).length) from(by rw [show(splice (flat c3 v1) (0+a0_o*1+tN (W (a3+v2))*1) [(iv (v1.getD (a0_o+tN (W (a3+(W ((W (2*v2))+1))))) dF))])=flat c3 (v1.set (a0_o+tN (W (a3+v2))) (v1.getD (a0_o+tN (W (a3+(W ((W (2*v2))+1))))) dF)) from(aP aF (by first | omega | (simp only [Lt];omega)) (o:=0) (d:=dF) (Nb rfl) rfl)];exact aX aF (by first | omega | (simp only [Lt];omega)) (o:=0) (Nb rfl)))]) [] [0,2,3,4,10] [] hcx (m:=n) kD (kE) (jC a0 a0_o a0_n a1 a2 a3 a4 (splice (splice (flat c3 v1) (0+a0_o*1+tN (W (a3+v2))*1) [(iv (v1.getD (a0_o+tN (W (a3+(W ((W (2*v2))+1))))) dF))]) (0+a0_o*1+tN (W (a3+(W ((W (2*v2))+1))))*1) [(iv (v1.getD (a0_o+tN (W (a3+v2))) dF))]) (v1.length) (W ((W (2*v2))+1))) (by kernel_rfl) ?_
      have z0:(splice (splice (flat c3 v1) (0+a0_o*1+tN (W (a3+v2))*1) [(iv (v1.getD (a0_o+tN (W (a3+(W ((W (2*v2))+1))))) dF))]) (0+a0_o*1+tN (W (a3+(W ((W (2*v2))+1))))*1) [(iv (v1.getD (a0_o+tN (W (a3+v2))) dF))])=flat c3 ((v1.set (a0_o+tN (W (a3+v2))) (v1.getD (a0_o+tN (W (a3+(W ((W (2*v2))+1))))) dF)).set (a0_o+tN (W (a3+(W ((W (2*v2))+1))))) (v1.getD (a0_o+tN (W (a3+v2))) dF)):=(by rw [show(splice (flat c3 v1) (0+a0_o*1+tN (W (a3+v2))*1) [(iv (v1.getD (a0_o+tN (W (a3+(W ((W (2*v2))+1))))) dF))])=flat c3 (v1.set (a0_o+tN (W (a3+v2))) (v1.getD (a0_o+tN (W (a3+(W ((W (2*v2))+1))))) dF)) from(aP aF (by first | omega | (simp only [Lt];omega)) (o:=0) (d:=dF) (Nb rfl) rfl)];exact aP aF (by first | omega | (simp only [Lt];omega)) (o:=0) (d:=dF) (Nb rfl) rfl)
      have z1:v1.length=((v1.set (a0_o+tN (W (a3+v2))) (v1.getD (a0_o+tN (W (a3+(W ((W (2*v2))+1))))) dF)).set (a0_o+tN (W (a3+(W ((W (2*v2))+1))))) (v1.getD (a0_o+tN (W (a3+v2))) dF)).length:=by simp
      rw [z0,z1]
      exact ih ((v1.set (a0_o+tN (W (a3+v2))) (v1.getD (a0_o+tN (W (a3+(W ((W (2*v2))+1))))) dF)).set (a0_o+tN (W (a3+(W ((W (2*v2))+1))))) (v1.getD (a0_o+tN (W (a3+v2))) dF)) (W ((W (2*v2))+1)) (by refine⟨?_,?_,?_,?_⟩<;>first | omega | assumption | exact hi.2.1 | exact hi.2.2.1 | (simp only [Lt];omega) | exact InR.swap hi.2.1 (by omega) (by omega)) (by omega)
   | false =>
    have q1:=cY h1
    let t2:List (St Tryz.prog):=(t1++[.d h1,.i (W (a3+v2)) a0_n,cM aF v1 a0_o (W (a3+v2)) 0 1,.i (W (a3+(W ((W (2*v2))+1)))) a0_n,cM aF v1 a0_o (W (a3+(W ((W (2*v2))+1)))) 0 1,.c [1,2,0,3] (C75 ((a4.1.1,a4.1.2.1,(v1,a4.1.2.2.2)),a4.2) (v1.getD (a0_o+tN (W (a3+v2))) dF) (v1.getD (a0_o+tN (W (a3+(W ((W (2*v2))+1))))) dF) (by omega) (by(try simp only [Lt]);omega) (by omega) (hi.2.1.at (by omega)) (hi.2.1.at (by omega)))])
    cases h2:(!(decide (((oY ((a4.1.1,a4.1.2.1,(v1,a4.1.2.2.2)),a4.2) (v1.getD (a0_o+tN (W (a3+v2))) dF) (v1.getD (a0_o+tN (W (a3+(W ((W (2*v2))+1))))) dF)):Int) < 0))) with
    | true =>
     have e:=Eq.refl (bM a0 a0_o a0_n a1 a2 a3 a4 (v1,v2));conv at e=>rhs;simp only [bM,h0,h1,h2,aW]
     rw [aK,e]
     try dsimp only [aZ]
     try dsimp only
     exact wG (t2++[.d h2]) [] [0] [] hcx (by kernel_rfl)
    | false =>
     have e:=Eq.refl (bM a0 a0_o a0_n a1 a2 a3 a4 (v1,v2));conv at e=>rhs;simp only [bM,h0,h1,h2,aW]
     rw [aI e]
     refine ba (t2++[.d h2,.i (W (a3+(W ((W (2*v2))+1)))) a0_n,cM aF v1 a0_o (W (a3+(W ((W (2*v2))+1)))) 0 1,.i (W (a3+v2)) a0_n,cM aF v1 a0_o (W (a3+v2)) 0 1,.i (W (a3+v2)) a0_n,.p (show((0+a0_o*1+tN (W (a3+v2))*1)+1<=(flat c3 v1).length) from(aX aF (by first | omega | (simp only [Lt];omega)) (o:=0) (Nb rfl))),.i (W (a3+(W ((W (2*v2))+1)))) a0_n,.p (show((0+a0_o*1+tN (W (a3+(W ((W (2*v2))+1))))*1)+1<=(splice (flat c3 v1) (0+a0_o*1+tN (W (a3+v2))*1) [(iv (v1.getD (a0_o+tN (W (a3+(W ((W (2*v2))+1))))) dF))]).length) from(by rw [show(splice (flat c3 v1) (0+a0_o*1+tN (W (a3+v2))*1) [(iv (v1.getD (a0_o+tN (W (a3+(W ((W (2*v2))+1))))) dF))])=flat c3 (v1.set (a0_o+tN (W (a3+v2))) (v1.getD (a0_o+tN (W (a3+(W ((W (2*v2))+1))))) dF)) from(aP aF (by first | omega | (simp only [Lt];omega)) (o:=0) (d:=dF) (Nb rfl) rfl)];exact aX aF (by first | omega | (simp only [Lt];omega)) (o:=0) (Nb rfl)))]) [] [0,2,3,4,10] [] hcx (m:=n) kD (kE) (jC a0 a0_o a0_n a1 a2 a3 a4 (splice (splice (flat c3 v1) (0+a0_o*1+tN (W (a3+v2))*1) [(iv (v1.getD (a0_o+tN (W (a3+(W ((W (2*v2))+1))))) dF))]) (0+a0_o*1+tN (W (a3+(W ((W (2*v2))+1))))*1) [(iv (v1.getD (a0_o+tN (W (a3+v2))) dF))]) (v1.length) (W ((W (2*v2))+1))) (by kernel_rfl) ?_
     have z0:(splice (splice (flat c3 v1) (0+a0_o*1+tN (W (a3+v2))*1) [(iv (v1.getD (a0_o+tN (W (a3+(W ((W (2*v2))+1))))) dF))]) (0+a0_o*1+tN (W (a3+(W ((W (2*v2))+1))))*1) [(iv (v1.getD (a0_o+tN (W (a3+v2))) dF))])=flat c3 ((v1.set (a0_o+tN (W (a3+v2))) (v1.getD (a0_o+tN (W (a3+(W ((W (2*v2))+1))))) dF)).set (a0_o+tN (W (a3+(W ((W (2*v2))+1))))) (v1.getD (a0_o+tN (W (a3+v2))) dF)):=(by rw [show(splice (flat c3 v1) (0+a0_o*1+tN (W (a3+v2))*1) [(iv (v1.getD (a0_o+tN (W (a3+(W ((W (2*v2))+1))))) dF))])=flat c3 (v1.set (a0_o+tN (W (a3+v2))) (v1.getD (a0_o+tN (W (a3+(W ((W (2*v2))+1))))) dF)) from(aP aF (by first | omega | (simp only [Lt];omega)) (o:=0) (d:=dF) (Nb rfl) rfl)];exact aP aF (by first | omega | (simp only [Lt];omega)) (o:=0) (d:=dF) (Nb rfl) rfl)
     have z1:v1.length=((v1.set (a0_o+tN (W (a3+v2))) (v1.getD (a0_o+tN (W (a3+(W ((W (2*v2))+1))))) dF)).set (a0_o+tN (W (a3+(W ((W (2*v2))+1))))) (v1.getD (a0_o+tN (W (a3+v2))) dF)).length:=by simp
     rw [z0,z1]
     exact ih ((v1.set (a0_o+tN (W (a3+v2))) (v1.getD (a0_o+tN (W (a3+(W ((W (2*v2))+1))))) dF)).set (a0_o+tN (W (a3+(W ((W (2*v2))+1))))) (v1.getD (a0_o+tN (W (a3+v2))) dF)) (W ((W (2*v2))+1)) (by refine⟨?_,?_,?_,?_⟩<;>first | omega | assumption | exact hi.2.1 | exact hi.2.2.1 | (simp only [Lt];omega) | exact InR.swap hi.2.1 (by omega) (by omega)) (by omega)
def dB (a0:List Int)(a0_o:Nat)(a0_n:Nat)(a1:Int)(a2:Int)(a3:Int)(a4:eK×Int):List Int :=
 (aH (bM a0 a0_o a0_n a1 a2 a3 a4) (tN (a2 - a1)+1) (a0,a1))
theorem aAz (a0:List Int)(a0_o:Nat)(a0_n:Nat)(a1:Int)(a2:Int)(a3:Int)(a4:eK×Int)(l0:a0.length<=2^63-1)(l4_1_1:a4.1.1.length<=2^63-1)(l4_1_2_2_1:a4.1.2.2.1.length<=2^63-1)(l4_1_2_2_2:a4.1.2.2.2.length<=2^63-1)(hw:a0_o+a0_n<=a0.length/\a0.length<=1048576)(hr:InR a4.1.1.length a0)(hab:0<=a1/\a1<=1048576/\0<=a3/\0<=a2/\a3+a2<=↑a0_n):Con Tryz.prog 128 [(.s 0 (0+a0_o*1) a0_n 1),(iv a1),(iv a2),(iv a3),(.f 1000075 [(.a [(.p 1 0),(iv a4.2)])])] [(.live true true (flat c3 a0)),(.live false false [(.s 2 0 a4.1.1.length 10),(iv a4.1.2.1),(.s 0 0 a0.length 1),(.s 3 0 a4.1.2.2.2.length 8)]),(.live false true (flat dI a4.1.1)),(.live false true (flat bZ a4.1.2.2.2))] (.t []) [] [(.live true true (flat c3 (dB a0 a0_o a0_n a1 a2 a3 a4))),.un,.un,.un]:=by
 refine bA Tryz.func128 (by kernel_rfl) fun cx hcx=>?_
 have e:=Eq.refl (dB a0 a0_o a0_n a1 a2 a3 a4);conv at e=>rhs;simp only [dB]
 rw [e]
 refine en [] [] [0,2,3,4,10] [] hcx kD (kE) (jC a0 a0_o a0_n a1 a2 a3 a4 (flat c3 a0) (a0.length) a1) (tN (a2 - a1)+1) (by kernel_rfl) ?_
 exact aD7 a0 a0_o a0_n a1 a2 a3 a4 l0 l4_1_1 l4_1_2_2_1 l4_1_2_2_2 hw hr hab hcx (tN (a2 - a1)+1) a0 a1 (by refine⟨?_,?_,?_,?_⟩<;>first | omega | assumption | exact hi.2.1 | exact hi.2.2.1 | (simp only [Lt];omega) | exact InR.swap hi.2.1 (by omega) (by omega)) (by omega)
noncomputable def lZ:Code:=(aN [1,1,1,1,1,1,1,1,1,0,0,1,0] [0] (aL Tryz.f116) []).1
noncomputable def mA (m0:Nat):List K:=(aN [1,1,1,1,1,1,1,1,1,0,0,1,0] [m0] (aL Tryz.f116) []).2
def lD (a0:List Int)(a0_o:Nat)(a0_n:Nat)(a1:Int)(a2:Int)(a3:Int)(a4:eK×Int)(v13c:List SV)(v13n:Nat)(v14 v15:Int):LS:=⟨gO 178 [(0,(.s 0 (0+a0_o*1) a0_n 1)),(1,(iv a1)),(4,(.f 1000075 [(.a [(.p 1 0),(iv a4.2)])])),(12,(iv v14)),(13,(iv v15))],[(.live true true v13c),(.live false false [(.s 2 0 a4.1.1.length 10),(iv a4.1.2.1),(.s 0 0 v13n 1),(.s 3 0 a4.1.2.2.2.length 8)]),(.live false true (flat dI a4.1.1)),(.live false true (flat bZ a4.1.2.2.2))]⟩
def bQ (a0:List Int)(a0_o:Nat)(a0_n:Nat)(a1:Int)(a2:Int)(a3:Int)(a4:eK×Int):List Int×Int×Int->(List Int×Int×Int)⊕((List Int×Int×Int)⊕(Int×Bool×List Int))
 | (v13,v14,v15) =>
  (bif (decide ((v14:Int)<=v15)) then
   (bif (!(decide (((oY ((a4.1.1,a4.1.2.1,(v13,a4.1.2.2.2)),a4.2) (v13.getD (a0_o+tN v15) dF) (v13.getD (a0_o+tN a1) dF)):Int) < 0))) then
    (.inl (v13,v14,(W (v15 - 1))))
   else
    (bif (decide ((v14:Int) > v15)) then
     (.inr (.inr (v15,false,((v13.set (a0_o+tN v15) (v13.getD (a0_o+tN a1) dF)).set (a0_o+tN a1) (v13.getD (a0_o+tN v15) dF)))))
    else
     (.inr (.inl (((v13.set (a0_o+tN v14) (v13.getD (a0_o+tN v15) dF)).set (a0_o+tN v15) (v13.getD (a0_o+tN v14) dF)),(W (v14+1)),(W (v15 - 1)))))))
  else
   (bif (decide ((v14:Int) > v15)) then
    (.inr (.inr (v15,false,((v13.set (a0_o+tN v15) (v13.getD (a0_o+tN a1) dF)).set (a0_o+tN a1) (v13.getD (a0_o+tN v15) dF)))))
   else
    (.inr (.inl (((v13.set (a0_o+tN v14) (v13.getD (a0_o+tN v15) dF)).set (a0_o+tN v15) (v13.getD (a0_o+tN v14) dF)),(W (v14+1)),(W (v15 - 1)))))))
noncomputable def pX:Code:=(aN [1,1,1,1,1,1,1,1,1,0,0,0] [0] (aL Tryz.f116) []).1
noncomputable def pY (m0:Nat):List K:=(aN [1,1,1,1,1,1,1,1,1,0,0,0] [m0] (aL Tryz.f116) []).2
def oB (a0:List Int)(a0_o:Nat)(a0_n:Nat)(a1:Int)(a2:Int)(a3:Int)(a4:eK×Int)(v10c:List SV)(v10n:Nat)(v11 v12:Int):LS:=⟨gO 178 [(0,(.s 0 (0+a0_o*1) a0_n 1)),(1,(iv a1)),(4,(.f 1000075 [(.a [(.p 1 0),(iv a4.2)])])),(12,(iv v11)),(13,(iv v12))],[(.live true true v10c),(.live false false [(.s 2 0 a4.1.1.length 10),(iv a4.1.2.1),(.s 0 0 v10n 1),(.s 3 0 a4.1.2.2.2.length 8)]),(.live false true (flat dI a4.1.1)),(.live false true (flat bZ a4.1.2.2.2))]⟩
def cP (a0:List Int)(a0_o:Nat)(a0_n:Nat)(a1:Int)(a2:Int)(a3:Int)(a4:eK×Int):List Int×Int×Int->(List Int×Int×Int)⊕((List Int×Int×Int)⊕(Int×Bool×List Int))
 | (v10,v11,v12) =>
  (bif (decide ((v11:Int)<=v12)) then
   (bif (decide (((oY ((a4.1.1,a4.1.2.1,(v10,a4.1.2.2.2)),a4.2) (v10.getD (a0_o+tN v11) dF) (v10.getD (a0_o+tN a1) dF)):Int) < 0)) then
    (.inl (v10,(v11+1),v12))
   else
    (.inr (aH (bQ a0 a0_o a0_n a1 a2 a3 a4) (tN (v12+2 - v11)+1) (v10,v11,v12))))
  else
   (.inr (aH (bQ a0 a0_o a0_n a1 a2 a3 a4) (tN (v12+2 - v11)+1) (v10,v11,v12))))
noncomputable def gZ:Code:=(aN [1,1,1,1,1,1,1,1,1,0] [] (aL Tryz.f116) []).1
noncomputable def hG:List K:=(aN [1,1,1,1,1,1,1,1,1,0] [] (aL Tryz.f116) []).2
def gJ (a0:List Int)(a0_o:Nat)(a0_n:Nat)(a1:Int)(a2:Int)(a3:Int)(a4:eK×Int)(v7c:List SV)(v7n:Nat)(v8 v9:Int):LS:=⟨gO 178 [(0,(.s 0 (0+a0_o*1) a0_n 1)),(1,(iv a1)),(4,(.f 1000075 [(.a [(.p 1 0),(iv a4.2)])])),(12,(iv v8)),(13,(iv v9))],[(.live true true v7c),(.live false false [(.s 2 0 a4.1.1.length 10),(iv a4.1.2.1),(.s 0 0 v7n 1),(.s 3 0 a4.1.2.2.2.length 8)]),(.live false true (flat dI a4.1.1)),(.live false true (flat bZ a4.1.2.2.2))]⟩
def bR (a0:List Int)(a0_o:Nat)(a0_n:Nat)(a1:Int)(a2:Int)(a3:Int)(a4:eK×Int):List Int×Int×Int->(List Int×Int×Int)⊕(Int×Bool×List Int)
 | (v7,v8,v9) =>
  (aH (cP a0 a0_o a0_n a1 a2 a3 a4) (tN (v9+2 - v8)+1) (v7,v8,v9))
noncomputable def mB:Code:=(aN [1,1,1,1,0] [] (aL Tryz.f116) []).1
noncomputable def mC:List K:=(aN [1,1,1,1,0] [] (aL Tryz.f116) []).2
def lE (a0:List Int)(a0_o:Nat)(a0_n:Nat)(a1:Int)(a2:Int)(a3:Int)(a4:eK×Int)(v4c:List SV)(v4n:Nat)(v5 v6:Int):LS:=⟨gO 178 [(0,(.s 0 (0+a0_o*1) a0_n 1)),(1,(iv a1)),(4,(.f 1000075 [(.a [(.p 1 0),(iv a4.2)])])),(12,(iv v5)),(13,(iv v6))],[(.live true true v4c),(.live false false [(.s 2 0 a4.1.1.length 10),(iv a4.1.2.1),(.s 0 0 v4n 1),(.s 3 0 a4.1.2.2.2.length 8)]),(.live false true (flat dI a4.1.1)),(.live false true (flat bZ a4.1.2.2.2))]⟩
def bS (a0:List Int)(a0_o:Nat)(a0_n:Nat)(a1:Int)(a2:Int)(a3:Int)(a4:eK×Int):List Int×Int×Int->(List Int×Int×Int)⊕(Int×Bool×List Int)
 | (v4,v5,v6) =>
  (bif (decide ((v5:Int)<=v6)) then
   (bif (!(decide (((oY ((a4.1.1,a4.1.2.1,(v4,a4.1.2.2.2)),a4.2) (v4.getD (a0_o+tN v6) dF) (v4.getD (a0_o+tN a1) dF)):Int) < 0))) then
    (.inl (v4,v5,(W (v6 - 1))))
   else
    (bif (decide ((v5:Int) > v6)) then
     (.inr (v6,true,((v4.set (a0_o+tN v6) (v4.getD (a0_o+tN a1) dF)).set (a0_o+tN a1) (v4.getD (a0_o+tN v6) dF))))
    else
     (.inr (aH (bR a0 a0_o a0_n a1 a2 a3 a4) (tN ((W (v6 - 1))+2 - (W (v5+1)))+1) (((v4.set (a0_o+tN v5) (v4.getD (a0_o+tN v6) dF)).set (a0_o+tN v6) (v4.getD (a0_o+tN v5) dF)),(W (v5+1)),(W (v6 - 1)))))))
  else
   (bif (decide ((v5:Int) > v6)) then
    (.inr (v6,true,((v4.set (a0_o+tN v6) (v4.getD (a0_o+tN a1) dF)).set (a0_o+tN a1) (v4.getD (a0_o+tN v6) dF))))
   else
    (.inr (aH (bR a0 a0_o a0_n a1 a2 a3 a4) (tN ((W (v6 - 1))+2 - (W (v5+1)))+1) (((v4.set (a0_o+tN v5) (v4.getD (a0_o+tN v6) dF)).set (a0_o+tN v6) (v4.getD (a0_o+tN v5) dF)),(W (v5+1)),(W (v6 - 1)))))))
noncomputable def pZ:Code:=(aN [1,1,1,0] [] (aL Tryz.f116) []).1
noncomputable def qA:List K:=(aN [1,1,1,0] [] (aL Tryz.f116) []).2
def oC (a0:List Int)(a0_o:Nat)(a0_n:Nat)(a1:Int)(a2:Int)(a3:Int)(a4:eK×Int)(v1c:List SV)(v1n:Nat)(v2 v3:Int):LS:=⟨gO 178 [(0,(.s 0 (0+a0_o*1) a0_n 1)),(1,(iv a1)),(4,(.f 1000075 [(.a [(.p 1 0),(iv a4.2)])])),(12,(iv v2)),(13,(iv v3))],[(.live true true v1c),(.live false false [(.s 2 0 a4.1.1.length 10),(iv a4.1.2.1),(.s 0 0 v1n 1),(.s 3 0 a4.1.2.2.2.length 8)]),(.live false true (flat dI a4.1.1)),(.live false true (flat bZ a4.1.2.2.2))]⟩
def dG (a0:List Int)(a0_o:Nat)(a0_n:Nat)(a1:Int)(a2:Int)(a3:Int)(a4:eK×Int):List Int×Int×Int->(List Int×Int×Int)⊕(Int×Bool×List Int)
 | (v1,v2,v3) =>
  (bif (decide ((v2:Int)<=v3)) then
   (bif (decide (((oY ((a4.1.1,a4.1.2.1,(v1,a4.1.2.2.2)),a4.2) (v1.getD (a0_o+tN v2) dF) (v1.getD (a0_o+tN a1) dF)):Int) < 0)) then
    (.inl (v1,(v2+1),v3))
   else
    (.inr (aH (bS a0 a0_o a0_n a1 a2 a3 a4) (tN (v3+2 - v2)+1) (v1,v2,v3))))
  else
   (.inr (aH (bS a0 a0_o a0_n a1 a2 a3 a4) (tN (v3+2 - v2)+1) (v1,v2,v3))))
theorem vD (a0:List Int)(a0_o:Nat)(a0_n:Nat)(a1:Int)(a2:Int)(a3:Int)(a4:eK×Int)(l0:a0.length<=2^63-1)(l4_1_1:a4.1.1.length<=2^63-1)(l4_1_2_2_1:a4.1.2.2.1.length<=2^63-1)(l4_1_2_2_2:a4.1.2.2.2.length<=2^63-1)(hw:a0_o+a0_n<=a0.length/\a0.length<=1048576)(hr:InR a4.1.1.length a0)(hab:0<=a1/\a1<=a3/\a3 < a2/\a2<=↑a0_n) {cx:Cx} (hcx:cx.base=4)
 (n0:Nat) (g0:∀(v7:List Int) (v8 v9:Int),(v7.length=a0.length)/\(InR a4.1.1.length v7)/\(a1 < v8)/\(v8<=v9+2)/\(v9 < a2)/\(a1<=v9)->tN (v9+2 - v8) < n0->Aw.Good Tryz.prog none 9 (bodyPost Tryz.prog Tryz.f116 (RR cx (.t [(iv (aH (bR a0 a0_o a0_n a1 a2 a3 a4) n0 (v7,v8,v9)).1),(.v (.bool (aH (bR a0 a0_o a0_n a1 a2 a3 a4) n0 (v7,v8,v9)).2.1))]) [] [(.live true true (flat c3 (aH (bR a0 a0_o a0_n a1 a2 a3 a4) n0 (v7,v8,v9)).2.2)),.un,.un,.un])) cx [] (.l gZ n0::hG) (gJ a0 a0_o a0_n a1 a2 a3 a4 (flat c3 v7) v7.length v8 v9)):∀(n:Nat) (v13:List Int) (v14 v15:Int),(v13.length=a0.length)/\(InR a4.1.1.length v13)/\(a1 < v14)/\(v14<=v15+2)/\(v15 < a2)/\(a1<=v15)/\((v13.length=a0.length))/\((InR a4.1.1.length v13))/\((a1 < v14))/\((v14<=v15+2))/\((v15 < a2))/\((a1<=v15))/\(tN (v15+2 - v14) < n0+1)->tN (v15+2 - v14) < n->Aw.Good Tryz.prog none 9 (bodyPost Tryz.prog Tryz.f116 (RR cx (.t [(iv (aZ (bR a0 a0_o a0_n a1 a2 a3 a4) n0 (aH (bQ a0 a0_o a0_n a1 a2 a3 a4) n (v13,v14,v15))).1),(.v (.bool (aZ (bR a0 a0_o a0_n a1 a2 a3 a4) n0 (aH (bQ a0 a0_o a0_n a1 a2 a3 a4) n (v13,v14,v15))).2.1))]) [] [(.live true true (flat c3 (aZ (bR a0 a0_o a0_n a1 a2 a3 a4) n0 (aH (bQ a0 a0_o a0_n a1 a2 a3 a4) n (v13,v14,v15))).2.2)),.un,.un,.un])) cx [] (.l lZ n::mA n0) (lD a0 a0_o a0_n a1 a2 a3 a4 (flat c3 v13) v13.length v14 v15):=by
 intro n
 induction n with
 | zero=>intro v13 v14 v15 hi hn;exact absurd hn (eL _)
 | succ n ih =>
  intro v13 v14 v15 hi hn
  refine aS ?_
  have hw_0:W (v14+1)=v14+1:=(aR (n:=v14+1) (by omega) (by omega)).trans (by omega)
  have hw_1:W (v15 - 1)=v15 - 1:=(aR (n:=v15 - 1) (by omega) (by omega)).trans (by omega)
  cases h0:(decide ((v14:Int)<=v15)) with
  | true =>
   have q0:=cN h0
   let t1:List (St Tryz.prog):=[.d h0,.i v15 a0_n,cM aF v13 a0_o v15 0 1,.i a1 a0_n,cM aF v13 a0_o a1 0 1,.c [1,2,0,3] (C75 ((a4.1.1,a4.1.2.1,(v13,a4.1.2.2.2)),a4.2) (v13.getD (a0_o+tN v15) dF) (v13.getD (a0_o+tN a1) dF) (by omega) (by(try simp only [Lt]);omega) (by omega) (hi.2.1.at (by omega)) (hi.2.1.at (by omega)))]
   cases h1:(!(decide (((oY ((a4.1.1,a4.1.2.1,(v13,a4.1.2.2.2)),a4.2) (v13.getD (a0_o+tN v15) dF) (v13.getD (a0_o+tN a1) dF)):Int) < 0))) with
   | true =>
    have e:=Eq.refl (bQ a0 a0_o a0_n a1 a2 a3 a4 (v13,v14,v15));conv at e=>rhs;simp only [bQ,h0,h1,aW]
    rw [aI e]
    refine ba (t1++[.d h1]) [] [0,1,4,12,13] [] hcx (m:=n) lZ (mA n0) (lD a0 a0_o a0_n a1 a2 a3 a4 (flat c3 v13) (v13.length) v14 (W (v15 - 1))) (by kernel_rfl) ?_
    exact ih v13 v14 (W (v15 - 1)) (by refine⟨?_,?_,?_,?_,?_,?_,?_,?_,?_,?_,?_,?_,?_⟩<;>first | omega | assumption | exact hi.2.1 | exact hi.2.2.1 | (simp only [Lt];omega) | exact InR.swap hi.2.1 (by omega) (by omega) | exact InR.swap hr (by omega) (by omega)) (by omega)
   | false =>
    let t2:List (St Tryz.prog):=(t1++[.d h1])
    cases h2:(decide ((v14:Int) > v15)) with
    | true =>
     have q2:=cN h2
     have e:=Eq.refl (bQ a0 a0_o a0_n a1 a2 a3 a4 (v13,v14,v15));conv at e=>rhs;simp only [bQ,h0,h1,h2,aW]
     rw [aK,e]
     try dsimp only [aZ]
     try dsimp only
     rw [show flat c3 ((v13.set (a0_o+tN v15) (v13.getD (a0_o+tN a1) dF)).set (a0_o+tN a1) (v13.getD (a0_o+tN v15) dF))=(splice (splice (flat c3 v13) (0+a0_o*1+tN v15*1) [(iv (v13.getD (a0_o+tN a1) dF))]) (0+a0_o*1+tN a1*1) [(iv (v13.getD (a0_o+tN v15) dF))]) from Eq.symm (by rw [show(splice (flat c3 v13) (0+a0_o*1+tN v15*1) [(iv (v13.getD (a0_o+tN a1) dF))])=flat c3 (v13.set (a0_o+tN v15) (v13.getD (a0_o+tN a1) dF)) from(aP aF (by first | omega | (simp only [Lt];omega)) (o:=0) (d:=dF) (Nb rfl) rfl)];exact aP aF (by first | omega | (simp only [Lt];omega)) (o:=0) (d:=dF) (Nb rfl) rfl)]
     try rw [show List.length (α:=Int) ((v13.set (a0_o+tN v15) (v13.getD (a0_o+tN a1) dF)).set (a0_o+tN a1) (v13.getD (a0_o+tN v15) dF))=v13.length from by first | simp;done | omega]
     exact wG (t2++[.d h2,.i a1 a0_n,cM aF v13 a0_o a1 0 1,.i v15 a0_n,cM aF v13 a0_o v15 0 1,.i v15 a0_n,.p (show((0+a0_o*1+tN v15*1)+1<=(flat c3 v13).length) from(aX aF (by first | omega | (simp only [Lt];omega)) (o:=0) (Nb rfl))),.i a1 a0_n,.p (show((0+a0_o*1+tN a1*1)+1<=(splice (flat c3 v13) (0+a0_o*1+tN v15*1) [(iv (v13.getD (a0_o+tN a1) dF))]).length) from(by rw [show(splice (flat c3 v13) (0+a0_o*1+tN v15*1) [(iv (v13.getD (a0_o+tN a1) dF))])=flat c3 (v13.set (a0_o+tN v15) (v13.getD (a0_o+tN a1) dF)) from(aP aF (by first | omega | (simp only [Lt];omega)) (o:=0) (d:=dF) (Nb rfl) rfl)];exact aX aF (by first | omega | (simp only [Lt];omega)) (o:=0) (Nb rfl)))]) [] [0] [] hcx (by kernel_rfl)
    | false =>
     have q2:=cY h2
     have e:=Eq.refl (bQ a0 a0_o a0_n a1 a2 a3 a4 (v13,v14,v15));conv at e=>rhs;simp only [bQ,h0,h1,h2,aW]
     rw [aK,e]
     refine ba (t2++[.d h2,.i v15 a0_n,cM aF v13 a0_o v15 0 1,.i v14 a0_n,cM aF v13 a0_o v14 0 1,.i v14 a0_n,.p (show((0+a0_o*1+tN v14*1)+1<=(flat c3 v13).length) from(aX aF (by first | omega | (simp only [Lt];omega)) (o:=0) (Nb rfl))),.i v15 a0_n,.p (show((0+a0_o*1+tN v15*1)+1<=(splice (flat c3 v13) (0+a0_o*1+tN v14*1) [(iv (v13.getD (a0_o+tN v15) dF))]).length) from(by rw [show(splice (flat c3 v13) (0+a0_o*1+tN v14*1) [(iv (v13.getD (a0_o+tN v15) dF))])=flat c3 (v13.set (a0_o+tN v14) (v13.getD (a0_o+tN v15) dF)) from(aP aF (by first | omega | (simp only [Lt];omega)) (o:=0) (d:=dF) (Nb rfl) rfl)];exact aX aF (by first | omega | (simp only [Lt];omega)) (o:=0) (Nb rfl)))]) [] [0,1,4,12,13] [] hcx (m:=n0) gZ (hG) (gJ a0 a0_o a0_n a1 a2 a3 a4 (splice (splice (flat c3 v13) (0+a0_o*1+tN v14*1) [(iv (v13.getD (a0_o+tN v15) dF))]) (0+a0_o*1+tN v15*1) [(iv (v13.getD (a0_o+tN v14) dF))]) (v13.length) (W (v14+1)) (W (v15 - 1))) (by kernel_rfl) ?_
     have z0:(splice (splice (flat c3 v13) (0+a0_o*1+tN v14*1) [(iv (v13.getD (a0_o+tN v15) dF))]) (0+a0_o*1+tN v15*1) [(iv (v13.getD (a0_o+tN v14) dF))])=flat c3 ((v13.set (a0_o+tN v14) (v13.getD (a0_o+tN v15) dF)).set (a0_o+tN v15) (v13.getD (a0_o+tN v14) dF)):=(by rw [show(splice (flat c3 v13) (0+a0_o*1+tN v14*1) [(iv (v13.getD (a0_o+tN v15) dF))])=flat c3 (v13.set (a0_o+tN v14) (v13.getD (a0_o+tN v15) dF)) from(aP aF (by first | omega | (simp only [Lt];omega)) (o:=0) (d:=dF) (Nb rfl) rfl)];exact aP aF (by first | omega | (simp only [Lt];omega)) (o:=0) (d:=dF) (Nb rfl) rfl)
     have z1:v13.length=((v13.set (a0_o+tN v14) (v13.getD (a0_o+tN v15) dF)).set (a0_o+tN v15) (v13.getD (a0_o+tN v14) dF)).length:=by simp
     rw [z0,z1]
     exact g0 ((v13.set (a0_o+tN v14) (v13.getD (a0_o+tN v15) dF)).set (a0_o+tN v15) (v13.getD (a0_o+tN v14) dF)) (W (v14+1)) (W (v15 - 1)) (by refine⟨?_,?_,?_,?_,?_,?_⟩<;>first | omega | assumption | exact hi.2.1 | exact hi.2.2.1 | (simp only [Lt];omega) | exact InR.swap hi.2.1 (by omega) (by omega) | exact InR.swap hr (by omega) (by omega)) (by omega)
  | false =>
   have q0:=cY h0
   let t1:List (St Tryz.prog):=[.d h0]
   cases h1:(decide ((v14:Int) > v15)) with
   | true =>
    have q1:=cN h1
    have e:=Eq.refl (bQ a0 a0_o a0_n a1 a2 a3 a4 (v13,v14,v15));conv at e=>rhs;simp only [bQ,h0,h1,aW]
    rw [aK,e]
    try dsimp only [aZ]
    try dsimp only
    rw [show flat c3 ((v13.set (a0_o+tN v15) (v13.getD (a0_o+tN a1) dF)).set (a0_o+tN a1) (v13.getD (a0_o+tN v15) dF))=(splice (splice (flat c3 v13) (0+a0_o*1+tN v15*1) [(iv (v13.getD (a0_o+tN a1) dF))]) (0+a0_o*1+tN a1*1) [(iv (v13.getD (a0_o+tN v15) dF))]) from Eq.symm (by rw [show(splice (flat c3 v13) (0+a0_o*1+tN v15*1) [(iv (v13.getD (a0_o+tN a1) dF))])=flat c3 (v13.set (a0_o+tN v15) (v13.getD (a0_o+tN a1) dF)) from(aP aF (by first | omega | (simp only [Lt];omega)) (o:=0) (d:=dF) (Nb rfl) rfl)];exact aP aF (by first | omega | (simp only [Lt];omega)) (o:=0) (d:=dF) (Nb rfl) rfl)]
    try rw [show List.length (α:=Int) ((v13.set (a0_o+tN v15) (v13.getD (a0_o+tN a1) dF)).set (a0_o+tN a1) (v13.getD (a0_o+tN v15) dF))=v13.length from by first | simp;done | omega]
    exact wG (t1++[.d h1,.i a1 a0_n,cM aF v13 a0_o a1 0 1,.i v15 a0_n,cM aF v13 a0_o v15 0 1,.i v15 a0_n,.p (show((0+a0_o*1+tN v15*1)+1<=(flat c3 v13).length) from(aX aF (by first | omega | (simp only [Lt];omega)) (o:=0) (Nb rfl))),.i a1 a0_n,.p (show((0+a0_o*1+tN a1*1)+1<=(splice (flat c3 v13) (0+a0_o*1+tN v15*1) [(iv (v13.getD (a0_o+tN a1) dF))]).length) from(by rw [show(splice (flat c3 v13) (0+a0_o*1+tN v15*1) [(iv (v13.getD (a0_o+tN a1) dF))])=flat c3 (v13.set (a0_o+tN v15) (v13.getD (a0_o+tN a1) dF)) from(aP aF (by first | omega | (simp only [Lt];omega)) (o:=0) (d:=dF) (Nb rfl) rfl)];exact aX aF (by first | omega | (simp only [Lt];omega)) (o:=0) (Nb rfl)))]) [] [0] [] hcx (by kernel_rfl)
   | false =>
    have q1:=cY h1
    have e:=Eq.refl (bQ a0 a0_o a0_n a1 a2 a3 a4 (v13,v14,v15));conv at e=>rhs;simp only [bQ,h0,h1,aW]
    rw [aK,e]
    refine ba (t1++[.d h1,.i v15 a0_n,cM aF v13 a0_o v15 0 1,.i v14 a0_n,cM aF v13 a0_o v14 0 1,.i v14 a0_n,.p (show((0+a0_o*1+tN v14*1)+1<=(flat c3 v13).length) from(aX aF (by first | omega | (simp only [Lt];omega)) (o:=0) (Nb rfl))),.i v15 a0_n,.p (show((0+a0_o*1+tN v15*1)+1<=(splice (flat c3 v13) (0+a0_o*1+tN v14*1) [(iv (v13.getD (a0_o+tN v15) dF))]).length) from(by rw [show(splice (flat c3 v13) (0+a0_o*1+tN v14*1) [(iv (v13.getD (a0_o+tN v15) dF))])=flat c3 (v13.set (a0_o+tN v14) (v13.getD (a0_o+tN v15) dF)) from(aP aF (by first | omega | (simp only [Lt];omega)) (o:=0) (d:=dF) (Nb rfl) rfl)];exact aX aF (by first | omega | (simp only [Lt];omega)) (o:=0) (Nb rfl)))]) [] [0,1,4,12,13] [] hcx (m:=n0) gZ (hG) (gJ a0 a0_o a0_n a1 a2 a3 a4 (splice (splice (flat c3 v13) (0+a0_o*1+tN v14*1) [(iv (v13.getD (a0_o+tN v15) dF))]) (0+a0_o*1+tN v15*1) [(iv (v13.getD (a0_o+tN v14) dF))]) (v13.length) (W (v14+1)) (W (v15 - 1))) (by kernel_rfl) ?_
    have z0:(splice (splice (flat c3 v13) (0+a0_o*1+tN v14*1) [(iv (v13.getD (a0_o+tN v15) dF))]) (0+a0_o*1+tN v15*1) [(iv (v13.getD (a0_o+tN v14) dF))])=flat c3 ((v13.set (a0_o+tN v14) (v13.getD (a0_o+tN v15) dF)).set (a0_o+tN v15) (v13.getD (a0_o+tN v14) dF)):=(by rw [show(splice (flat c3 v13) (0+a0_o*1+tN v14*1) [(iv (v13.getD (a0_o+tN v15) dF))])=flat c3 (v13.set (a0_o+tN v14) (v13.getD (a0_o+tN v15) dF)) from(aP aF (by first | omega | (simp only [Lt];omega)) (o:=0) (d:=dF) (Nb rfl) rfl)];exact aP aF (by first | omega | (simp only [Lt];omega)) (o:=0) (d:=dF) (Nb rfl) rfl)
    have z1:v13.length=((v13.set (a0_o+tN v14) (v13.getD (a0_o+tN v15) dF)).set (a0_o+tN v15) (v13.getD (a0_o+tN v14) dF)).length:=by simp
    rw [z0,z1]
    exact g0 ((v13.set (a0_o+tN v14) (v13.getD (a0_o+tN v15) dF)).set (a0_o+tN v15) (v13.getD (a0_o+tN v14) dF)) (W (v14+1)) (W (v15 - 1)) (by refine⟨?_,?_,?_,?_,?_,?_⟩<;>first | omega | assumption | exact hi.2.1 | exact hi.2.2.1 | (simp only [Lt];omega) | exact InR.swap hi.2.1 (by omega) (by omega) | exact InR.swap hr (by omega) (by omega)) (by omega)
theorem aD8 (a0:List Int)(a0_o:Nat)(a0_n:Nat)(a1:Int)(a2:Int)(a3:Int)(a4:eK×Int)(l0:a0.length<=2^63-1)(l4_1_1:a4.1.1.length<=2^63-1)(l4_1_2_2_1:a4.1.2.2.1.length<=2^63-1)(l4_1_2_2_2:a4.1.2.2.2.length<=2^63-1)(hw:a0_o+a0_n<=a0.length/\a0.length<=1048576)(hr:InR a4.1.1.length a0)(hab:0<=a1/\a1<=a3/\a3 < a2/\a2<=↑a0_n) {cx:Cx} (hcx:cx.base=4)
 (n0:Nat) (g0:∀(v7:List Int) (v8 v9:Int),(v7.length=a0.length)/\(InR a4.1.1.length v7)/\(a1 < v8)/\(v8<=v9+2)/\(v9 < a2)/\(a1<=v9)->tN (v9+2 - v8) < n0->Aw.Good Tryz.prog none 9 (bodyPost Tryz.prog Tryz.f116 (RR cx (.t [(iv (aH (bR a0 a0_o a0_n a1 a2 a3 a4) n0 (v7,v8,v9)).1),(.v (.bool (aH (bR a0 a0_o a0_n a1 a2 a3 a4) n0 (v7,v8,v9)).2.1))]) [] [(.live true true (flat c3 (aH (bR a0 a0_o a0_n a1 a2 a3 a4) n0 (v7,v8,v9)).2.2)),.un,.un,.un])) cx [] (.l gZ n0::hG) (gJ a0 a0_o a0_n a1 a2 a3 a4 (flat c3 v7) v7.length v8 v9)):∀(n:Nat) (v10:List Int) (v11 v12:Int),(v10.length=a0.length)/\(InR a4.1.1.length v10)/\(a1 < v11)/\(v11<=v12+2)/\(v12 < a2)/\(a1<=v12)/\((v10.length=a0.length))/\((InR a4.1.1.length v10))/\((a1 < v11))/\((v11<=v12+2))/\((v12 < a2))/\((a1<=v12))/\(tN (v12+2 - v11) < n0+1)->tN (v12+2 - v11) < n->Aw.Good Tryz.prog none 9 (bodyPost Tryz.prog Tryz.f116 (RR cx (.t [(iv (aZ (bR a0 a0_o a0_n a1 a2 a3 a4) n0 (aH (cP a0 a0_o a0_n a1 a2 a3 a4) n (v10,v11,v12))).1),(.v (.bool (aZ (bR a0 a0_o a0_n a1 a2 a3 a4) n0 (aH (cP a0 a0_o a0_n a1 a2 a3 a4) n (v10,v11,v12))).2.1))]) [] [(.live true true (flat c3 (aZ (bR a0 a0_o a0_n a1 a2 a3 a4) n0 (aH (cP a0 a0_o a0_n a1 a2 a3 a4) n (v10,v11,v12))).2.2)),.un,.un,.un])) cx [] (.l pX n::pY n0) (oB a0 a0_o a0_n a1 a2 a3 a4 (flat c3 v10) v10.length v11 v12):=by
 intro n
 induction n with
 | zero=>intro v10 v11 v12 hi hn;exact absurd hn (eL _)
 | succ n ih =>
  intro v10 v11 v12 hi hn
  refine aS ?_
  have hw_0:W (v11+1)=v11+1:=(aR (n:=v11+1) (by omega) (by omega)).trans (by omega)
  have hw_1:W (v12 - 1)=v12 - 1:=(aR (n:=v12 - 1) (by omega) (by omega)).trans (by omega)
  cases h0:(decide ((v11:Int)<=v12)) with
  | true =>
   have q0:=cN h0
   let t1:List (St Tryz.prog):=[.d h0,.i v11 a0_n,cM aF v10 a0_o v11 0 1,.i a1 a0_n,cM aF v10 a0_o a1 0 1,.c [1,2,0,3] (C75 ((a4.1.1,a4.1.2.1,(v10,a4.1.2.2.2)),a4.2) (v10.getD (a0_o+tN v11) dF) (v10.getD (a0_o+tN a1) dF) (by omega) (by(try simp only [Lt]);omega) (by omega) (hi.2.1.at (by omega)) (hi.2.1.at (by omega)))]
   cases h1:(decide (((oY ((a4.1.1,a4.1.2.1,(v10,a4.1.2.2.2)),a4.2) (v10.getD (a0_o+tN v11) dF) (v10.getD (a0_o+tN a1) dF)):Int) < 0)) with
   | true =>
    have q1:=cN h1
    have e:=Eq.refl (cP a0 a0_o a0_n a1 a2 a3 a4 (v10,v11,v12));conv at e=>rhs;simp only [cP,h0,h1,aW]
    rw [aI e]
    refine ba (t1++[.d h1]) [] [0,1,4,12,13] [] hcx (m:=n) pX (pY n0) (oB a0 a0_o a0_n a1 a2 a3 a4 (flat c3 v10) (v10.length) (W (v11+1)) v12) (by kernel_rfl) ?_
    have z0:(W (v11+1))=(v11+1):=aR (by omega) (by omega)
    rw [z0]
    exact ih v10 (v11+1) v12 (by refine⟨?_,?_,?_,?_,?_,?_,?_,?_,?_,?_,?_,?_,?_⟩<;>first | omega | assumption | exact hi.2.1 | exact hi.2.2.1 | (simp only [Lt];omega) | exact InR.swap hi.2.1 (by omega) (by omega) | exact InR.swap hr (by omega) (by omega)) (by omega)
   | false =>
    have q1:=cY h1
    have e:=Eq.refl (cP a0 a0_o a0_n a1 a2 a3 a4 (v10,v11,v12));conv at e=>rhs;simp only [cP,h0,h1,aW]
    rw [aK,e]
    refine en (t1++[.d h1]) [] [0,1,4,12,13] [] hcx lZ (mA n0) (lD a0 a0_o a0_n a1 a2 a3 a4 (flat c3 v10) (v10.length) v11 v12) (tN (v12+2 - v11)+1) (by kernel_rfl) ?_
    exact vD a0 a0_o a0_n a1 a2 a3 a4 l0 l4_1_1 l4_1_2_2_1 l4_1_2_2_2 hw hr hab hcx n0 g0 (tN (v12+2 - v11)+1) v10 v11 v12 (by refine⟨?_,?_,?_,?_,?_,?_,?_,?_,?_,?_,?_,?_,?_⟩<;>first | omega | assumption | exact hi.2.1 | exact hi.2.2.1 | (simp only [Lt];omega) | exact InR.swap hi.2.1 (by omega) (by omega) | exact InR.swap hr (by omega) (by omega)) (by omega)
  | false =>
   have q0:=cY h0
   have e:=Eq.refl (cP a0 a0_o a0_n a1 a2 a3 a4 (v10,v11,v12));conv at e=>rhs;simp only [cP,h0,aW]
   rw [aK,e]
   refine en [.d h0] [] [0,1,4,12,13] [] hcx lZ (mA n0) (lD a0 a0_o a0_n a1 a2 a3 a4 (flat c3 v10) (v10.length) v11 v12) (tN (v12+2 - v11)+1) (by kernel_rfl) ?_
   exact vD a0 a0_o a0_n a1 a2 a3 a4 l0 l4_1_1 l4_1_2_2_1 l4_1_2_2_2 hw hr hab hcx n0 g0 (tN (v12+2 - v11)+1) v10 v11 v12 (by refine⟨?_,?_,?_,?_,?_,?_,?_,?_,?_,?_,?_,?_,?_⟩<;>first | omega | assumption | exact hi.2.1 | exact hi.2.2.1 | (simp only [Lt];omega) | exact InR.swap hi.2.1 (by omega) (by omega) | exact InR.swap hr (by omega) (by omega)) (by omega)
theorem vE (a0:List Int)(a0_o:Nat)(a0_n:Nat)(a1:Int)(a2:Int)(a3:Int)(a4:eK×Int)(l0:a0.length<=2^63-1)(l4_1_1:a4.1.1.length<=2^63-1)(l4_1_2_2_1:a4.1.2.2.1.length<=2^63-1)(l4_1_2_2_2:a4.1.2.2.2.length<=2^63-1)(hw:a0_o+a0_n<=a0.length/\a0.length<=1048576)(hr:InR a4.1.1.length a0)(hab:0<=a1/\a1<=a3/\a3 < a2/\a2<=↑a0_n) {cx:Cx} (hcx:cx.base=4):∀(n:Nat) (v7:List Int) (v8 v9:Int),(v7.length=a0.length)/\(InR a4.1.1.length v7)/\(a1 < v8)/\(v8<=v9+2)/\(v9 < a2)/\(a1<=v9)->tN (v9+2 - v8) < n->Aw.Good Tryz.prog none 9 (bodyPost Tryz.prog Tryz.f116 (RR cx (.t [(iv (aH (bR a0 a0_o a0_n a1 a2 a3 a4) n (v7,v8,v9)).1),(.v (.bool (aH (bR a0 a0_o a0_n a1 a2 a3 a4) n (v7,v8,v9)).2.1))]) [] [(.live true true (flat c3 (aH (bR a0 a0_o a0_n a1 a2 a3 a4) n (v7,v8,v9)).2.2)),.un,.un,.un])) cx [] (.l gZ n::hG) (gJ a0 a0_o a0_n a1 a2 a3 a4 (flat c3 v7) v7.length v8 v9):=by
 intro n
 induction n with
 | zero=>intro v7 v8 v9 hi hn;exact absurd hn (eL _)
 | succ n ih =>
  intro v7 v8 v9 hi hn
  refine aS ?_
  have hw_0:W (v8+1)=v8+1:=(aR (n:=v8+1) (by omega) (by omega)).trans (by omega)
  have hw_1:W (v9 - 1)=v9 - 1:=(aR (n:=v9 - 1) (by omega) (by omega)).trans (by omega)
  have e:=Eq.refl (bR a0 a0_o a0_n a1 a2 a3 a4 (v7,v8,v9));conv at e=>rhs;simp only [bR]
  rw [aK,e]
  refine en [] [] [0,1,4,12,13] [] hcx pX (pY n) (oB a0 a0_o a0_n a1 a2 a3 a4 (flat c3 v7) (v7.length) v8 v9) (tN (v9+2 - v8)+1) (by kernel_rfl) ?_
  exact aD8 a0 a0_o a0_n a1 a2 a3 a4 l0 l4_1_1 l4_1_2_2_1 l4_1_2_2_2 hw hr hab hcx n ih (tN (v9+2 - v8)+1) v7 v8 v9 (by refine⟨?_,?_,?_,?_,?_,?_,?_,?_,?_,?_,?_,?_,?_⟩<;>first | omega | assumption | exact hi.2.1 | exact hi.2.2.1 | (simp only [Lt];omega) | exact InR.swap hi.2.1 (by omega) (by omega) | exact InR.swap hr (by omega) (by omega)) (by omega)
theorem vF (a0:List Int)(a0_o:Nat)(a0_n:Nat)(a1:Int)(a2:Int)(a3:Int)(a4:eK×Int)(l0:a0.length<=2^63-1)(l4_1_1:a4.1.1.length<=2^63-1)(l4_1_2_2_1:a4.1.2.2.1.length<=2^63-1)(l4_1_2_2_2:a4.1.2.2.2.length<=2^63-1)(hw:a0_o+a0_n<=a0.length/\a0.length<=1048576)(hr:InR a4.1.1.length a0)(hab:0<=a1/\a1<=a3/\a3 < a2/\a2<=↑a0_n) {cx:Cx} (hcx:cx.base=4):∀(n:Nat) (v4:List Int) (v5 v6:Int),(v4.length=a0.length)/\(InR a4.1.1.length v4)/\(a1 < v5)/\(v5<=v6+1)/\(v6 < a2)->tN (v6+2 - v5) < n->Aw.Good Tryz.prog none 9 (bodyPost Tryz.prog Tryz.f116 (RR cx (.t [(iv (aH (bS a0 a0_o a0_n a1 a2 a3 a4) n (v4,v5,v6)).1),(.v (.bool (aH (bS a0 a0_o a0_n a1 a2 a3 a4) n (v4,v5,v6)).2.1))]) [] [(.live true true (flat c3 (aH (bS a0 a0_o a0_n a1 a2 a3 a4) n (v4,v5,v6)).2.2)),.un,.un,.un])) cx [] (.l mB n::mC) (lE a0 a0_o a0_n a1 a2 a3 a4 (flat c3 v4) v4.length v5 v6):=by
 intro n
 induction n with
 | zero=>intro v4 v5 v6 hi hn;exact absurd hn (eL _)
 | succ n ih =>
  intro v4 v5 v6 hi hn
  refine aS ?_
  have hw_0:W (v5+1)=v5+1:=(aR (n:=v5+1) (by omega) (by omega)).trans (by omega)
  have hw_1:W (v6 - 1)=v6 - 1:=(aR (n:=v6 - 1) (by omega) (by omega)).trans (by omega)
  cases h0:(decide ((v5:Int)<=v6)) with
  | true =>
   have q0:=cN h0
   let t1:List (St Tryz.prog):=[.d h0,.i v6 a0_n,cM aF v4 a0_o v6 0 1,.i a1 a0_n,cM aF v4 a0_o a1 0 1,.c [1,2,0,3] (C75 ((a4.1.1,a4.1.2.1,(v4,a4.1.2.2.2)),a4.2) (v4.getD (a0_o+tN v6) dF) (v4.getD (a0_o+tN a1) dF) (by omega) (by(try simp only [Lt]);omega) (by omega) (hi.2.1.at (by omega)) (hi.2.1.at (by omega)))]
   cases h1:(!(decide (((oY ((a4.1.1,a4.1.2.1,(v4,a4.1.2.2.2)),a4.2) (v4.getD (a0_o+tN v6) dF) (v4.getD (a0_o+tN a1) dF)):Int) < 0))) with
   | true =>
    have e:=Eq.refl (bS a0 a0_o a0_n a1 a2 a3 a4 (v4,v5,v6));conv at e=>rhs;simp only [bS,h0,h1,aW]
    rw [aI e]
    refine ba (t1++[.d h1]) [] [0,1,4,12,13] [] hcx (m:=n) mB (mC) (lE a0 a0_o a0_n a1 a2 a3 a4 (flat c3 v4) (v4.length) v5 (W (v6 - 1))) (by kernel_rfl) ?_
    exact ih v4 v5 (W (v6 - 1)) (by refine⟨?_,?_,?_,?_,?_⟩<;>first | omega | assumption | exact hi.2.1 | exact hi.2.2.1 | (simp only [Lt];omega) | exact InR.swap hi.2.1 (by omega) (by omega) | exact InR.swap hr (by omega) (by omega)) (by omega)
   | false =>
    let t2:List (St Tryz.prog):=(t1++[.d h1])
    cases h2:(decide ((v5:Int) > v6)) with
    | true =>
     have q2:=cN h2
     have e:=Eq.refl (bS a0 a0_o a0_n a1 a2 a3 a4 (v4,v5,v6));conv at e=>rhs;simp only [bS,h0,h1,h2,aW]
     rw [aK,e]
     try dsimp only [aZ]
     try dsimp only
     rw [show flat c3 ((v4.set (a0_o+tN v6) (v4.getD (a0_o+tN a1) dF)).set (a0_o+tN a1) (v4.getD (a0_o+tN v6) dF))=(splice (splice (flat c3 v4) (0+a0_o*1+tN v6*1) [(iv (v4.getD (a0_o+tN a1) dF))]) (0+a0_o*1+tN a1*1) [(iv (v4.getD (a0_o+tN v6) dF))]) from Eq.symm (by rw [show(splice (flat c3 v4) (0+a0_o*1+tN v6*1) [(iv (v4.getD (a0_o+tN a1) dF))])=flat c3 (v4.set (a0_o+tN v6) (v4.getD (a0_o+tN a1) dF)) from(aP aF (by first | omega | (simp only [Lt];omega)) (o:=0) (d:=dF) (Nb rfl) rfl)];exact aP aF (by first | omega | (simp only [Lt];omega)) (o:=0) (d:=dF) (Nb rfl) rfl)]
     try rw [show List.length (α:=Int) ((v4.set (a0_o+tN v6) (v4.getD (a0_o+tN a1) dF)).set (a0_o+tN a1) (v4.getD (a0_o+tN v6) dF))=v4.length from by first | simp;done | omega]
     exact wG (t2++[.d h2,.i a1 a0_n,cM aF v4 a0_o a1 0 1,.i v6 a0_n,cM aF v4 a0_o v6 0 1,.i v6 a0_n,.p (show((0+a0_o*1+tN v6*1)+1<=(flat c3 v4).length) from(aX aF (by first | omega | (simp only [Lt];omega)) (o:=0) (Nb rfl))),.i a1 a0_n,.p (show((0+a0_o*1+tN a1*1)+1<=(splice (flat c3 v4) (0+a0_o*1+tN v6*1) [(iv (v4.getD (a0_o+tN a1) dF))]).length) from(by rw [show(splice (flat c3 v4) (0+a0_o*1+tN v6*1) [(iv (v4.getD (a0_o+tN a1) dF))])=flat c3 (v4.set (a0_o+tN v6) (v4.getD (a0_o+tN a1) dF)) from(aP aF (by first | omega | (simp only [Lt];omega)) (o:=0) (d:=dF) (Nb rfl) rfl)];exact aX aF (by first | omega | (simp only [Lt];omega)) (o:=0) (Nb rfl)))]) [] [0] [] hcx (by kernel_rfl)
    | false =>
     have q2:=cY h2
     have e:=Eq.refl (bS a0 a0_o a0_n a1 a2 a3 a4 (v4,v5,v6));conv at e=>rhs;simp only [bS,h0,h1,h2,aW]
     rw [aK,e]
     refine en (t2++[.d h2,.i v6 a0_n,cM aF v4 a0_o v6 0 1,.i v5 a0_n,cM aF v4 a0_o v5 0 1,.i v5 a0_n,.p (show((0+a0_o*1+tN v5*1)+1<=(flat c3 v4).length) from(aX aF (by first | omega | (simp only [Lt];omega)) (o:=0) (Nb rfl))),.i v6 a0_n,.p (show((0+a0_o*1+tN v6*1)+1<=(splice (flat c3 v4) (0+a0_o*1+tN v5*1) [(iv (v4.getD (a0_o+tN v6) dF))]).length) from(by rw [show(splice (flat c3 v4) (0+a0_o*1+tN v5*1) [(iv (v4.getD (a0_o+tN v6) dF))])=flat c3 (v4.set (a0_o+tN v5) (v4.getD (a0_o+tN v6) dF)) from(aP aF (by first | omega | (simp only [Lt];omega)) (o:=0) (d:=dF) (Nb rfl) rfl)];exact aX aF (by first | omega | (simp only [Lt];omega)) (o:=0) (Nb rfl)))]) [] [0,1,4,12,13] [] hcx gZ (hG) (gJ a0 a0_o a0_n a1 a2 a3 a4 (splice (splice (flat c3 v4) (0+a0_o*1+tN v5*1) [(iv (v4.getD (a0_o+tN v6) dF))]) (0+a0_o*1+tN v6*1) [(iv (v4.getD (a0_o+tN v5) dF))]) (v4.length) (W (v5+1)) (W (v6 - 1))) (tN ((W (v6 - 1))+2 - (W (v5+1)))+1) (by kernel_rfl) ?_
     have z0:(splice (splice (flat c3 v4) (0+a0_o*1+tN v5*1) [(iv (v4.getD (a0_o+tN v6) dF))]) (0+a0_o*1+tN v6*1) [(iv (v4.getD (a0_o+tN v5) dF))])=flat c3 ((v4.set (a0_o+tN v5) (v4.getD (a0_o+tN v6) dF)).set (a0_o+tN v6) (v4.getD (a0_o+tN v5) dF)):=(by rw [show(splice (flat c3 v4) (0+a0_o*1+tN v5*1) [(iv (v4.getD (a0_o+tN v6) dF))])=flat c3 (v4.set (a0_o+tN v5) (v4.getD (a0_o+tN v6) dF)) from(aP aF (by first | omega | (simp only [Lt];omega)) (o:=0) (d:=dF) (Nb rfl) rfl)];exact aP aF (by first | omega | (simp only [Lt];omega)) (o:=0) (d:=dF) (Nb rfl) rfl)
     have z1:v4.length=((v4.set (a0_o+tN v5) (v4.getD (a0_o+tN v6) dF)).set (a0_o+tN v6) (v4.getD (a0_o+tN v5) dF)).length:=by simp
     rw [z0,z1]
     exact vE a0 a0_o a0_n a1 a2 a3 a4 l0 l4_1_1 l4_1_2_2_1 l4_1_2_2_2 hw hr hab hcx (tN ((W (v6 - 1))+2 - (W (v5+1)))+1) ((v4.set (a0_o+tN v5) (v4.getD (a0_o+tN v6) dF)).set (a0_o+tN v6) (v4.getD (a0_o+tN v5) dF)) (W (v5+1)) (W (v6 - 1)) (by refine⟨?_,?_,?_,?_,?_,?_⟩<;>first | omega | assumption | exact hi.2.1 | exact hi.2.2.1 | (simp only [Lt];omega) | exact InR.swap hi.2.1 (by omega) (by omega) | exact InR.swap hr (by omega) (by omega)) (by omega)
  | false =>
   have q0:=cY h0
   let t1:List (St Tryz.prog):=[.d h0]
   cases h1:(decide ((v5:Int) > v6)) with
   | true =>
    have q1:=cN h1
    have e:=Eq.refl (bS a0 a0_o a0_n a1 a2 a3 a4 (v4,v5,v6));conv at e=>rhs;simp only [bS,h0,h1,aW]
    rw [aK,e]
    try dsimp only [aZ]
    try dsimp only
    rw [show flat c3 ((v4.set (a0_o+tN v6) (v4.getD (a0_o+tN a1) dF)).set (a0_o+tN a1) (v4.getD (a0_o+tN v6) dF))=(splice (splice (flat c3 v4) (0+a0_o*1+tN v6*1) [(iv (v4.getD (a0_o+tN a1) dF))]) (0+a0_o*1+tN a1*1) [(iv (v4.getD (a0_o+tN v6) dF))]) from Eq.symm (by rw [show(splice (flat c3 v4) (0+a0_o*1+tN v6*1) [(iv (v4.getD (a0_o+tN a1) dF))])=flat c3 (v4.set (a0_o+tN v6) (v4.getD (a0_o+tN a1) dF)) from(aP aF (by first | omega | (simp only [Lt];omega)) (o:=0) (d:=dF) (Nb rfl) rfl)];exact aP aF (by first | omega | (simp only [Lt];omega)) (o:=0) (d:=dF) (Nb rfl) rfl)]
    try rw [show List.length (α:=Int) ((v4.set (a0_o+tN v6) (v4.getD (a0_o+tN a1) dF)).set (a0_o+tN a1) (v4.getD (a0_o+tN v6) dF))=v4.length from by first | simp;done | omega]
    exact wG (t1++[.d h1,.i a1 a0_n,cM aF v4 a0_o a1 0 1,.i v6 a0_n,cM aF v4 a0_o v6 0 1,.i v6 a0_n,.p (show((0+a0_o*1+tN v6*1)+1<=(flat c3 v4).length) from(aX aF (by first | omega | (simp only [Lt];omega)) (o:=0) (Nb rfl))),.i a1 a0_n,.p (show((0+a0_o*1+tN a1*1)+1<=(splice (flat c3 v4) (0+a0_o*1+tN v6*1) [(iv (v4.getD (a0_o+tN a1) dF))]).length) from(by rw [show(splice (flat c3 v4) (0+a0_o*1+tN v6*1) [(iv (v4.getD (a0_o+tN a1) dF))])=flat c3 (v4.set (a0_o+tN v6) (v4.getD (a0_o+tN a1) dF)) from(aP aF (by first | omega | (simp only [Lt];omega)) (o:=0) (d:=dF) (Nb rfl) rfl)];exact aX aF (by first | omega | (simp only [Lt];omega)) (o:=0) (Nb rfl)))]) [] [0] [] hcx (by kernel_rfl)
   | false =>
    have q1:=cY h1
    have e:=Eq.refl (bS a0 a0_o a0_n a1 a2 a3 a4 (v4,v5,v6));conv at e=>rhs;simp only [bS,h0,h1,aW]
    rw [aK,e]
    refine en (t1++[.d h1,.i v6 a0_n,cM aF v4 a0_o v6 0 1,.i v5 a0_n,cM aF v4 a0_o v5 0 1,.i v5 a0_n,.p (show((0+a0_o*1+tN v5*1)+1<=(flat c3 v4).length) from(aX aF (by first | omega | (simp only [Lt];omega)) (o:=0) (Nb rfl))),.i v6 a0_n,.p (show((0+a0_o*1+tN v6*1)+1<=(splice (flat c3 v4) (0+a0_o*1+tN v5*1) [(iv (v4.getD (a0_o+tN v6) dF))]).length) from(by rw [show(splice (flat c3 v4) (0+a0_o*1+tN v5*1) [(iv (v4.getD (a0_o+tN v6) dF))])=flat c3 (v4.set (a0_o+tN v5) (v4.getD (a0_o+tN v6) dF)) from(aP aF (by first | omega | (simp only [Lt];omega)) (o:=0) (d:=dF) (Nb rfl) rfl)];exact aX aF (by first | omega | (simp only [Lt];omega)) (o:=0) (Nb rfl)))]) [] [0,1,4,12,13] [] hcx gZ (hG) (gJ a0 a0_o a0_n a1 a2 a3 a4 (splice (splice (flat c3 v4) (0+a0_o*1+tN v5*1) [(iv (v4.getD (a0_o+tN v6) dF))]) (0+a0_o*1+tN v6*1) [(iv (v4.getD (a0_o+tN v5) dF))]) (v4.length) (W (v5+1)) (W (v6 - 1))) (tN ((W (v6 - 1))+2 - (W (v5+1)))+1) (by kernel_rfl) ?_
    have z0:(splice (splice (flat c3 v4) (0+a0_o*1+tN v5*1) [(iv (v4.getD (a0_o+tN v6) dF))]) (0+a0_o*1+tN v6*1) [(iv (v4.getD (a0_o+tN v5) dF))])=flat c3 ((v4.set (a0_o+tN v5) (v4.getD (a0_o+tN v6) dF)).set (a0_o+tN v6) (v4.getD (a0_o+tN v5) dF)):=(by rw [show(splice (flat c3 v4) (0+a0_o*1+tN v5*1) [(iv (v4.getD (a0_o+tN v6) dF))])=flat c3 (v4.set (a0_o+tN v5) (v4.getD (a0_o+tN v6) dF)) from(aP aF (by first | omega | (simp only [Lt];omega)) (o:=0) (d:=dF) (Nb rfl) rfl)];exact aP aF (by first | omega | (simp only [Lt];omega)) (o:=0) (d:=dF) (Nb rfl) rfl)
    have z1:v4.length=((v4.set (a0_o+tN v5) (v4.getD (a0_o+tN v6) dF)).set (a0_o+tN v6) (v4.getD (a0_o+tN v5) dF)).length:=by simp
    rw [z0,z1]
    exact vE a0 a0_o a0_n a1 a2 a3 a4 l0 l4_1_1 l4_1_2_2_1 l4_1_2_2_2 hw hr hab hcx (tN ((W (v6 - 1))+2 - (W (v5+1)))+1) ((v4.set (a0_o+tN v5) (v4.getD (a0_o+tN v6) dF)).set (a0_o+tN v6) (v4.getD (a0_o+tN v5) dF)) (W (v5+1)) (W (v6 - 1)) (by refine⟨?_,?_,?_,?_,?_,?_⟩<;>first | omega | assumption | exact hi.2.1 | exact hi.2.2.1 | (simp only [Lt];omega) | exact InR.swap hi.2.1 (by omega) (by omega) | exact InR.swap hr (by omega) (by omega)) (by omega)
theorem aD9 (a0:List Int)(a0_o:Nat)(a0_n:Nat)(a1:Int)(a2:Int)(a3:Int)(a4:eK×Int)(l0:a0.length<=2^63-1)(l4_1_1:a4.1.1.length<=2^63-1)(l4_1_2_2_1:a4.1.2.2.1.length<=2^63-1)(l4_1_2_2_2:a4.1.2.2.2.length<=2^63-1)(hw:a0_o+a0_n<=a0.length/\a0.length<=1048576)(hr:InR a4.1.1.length a0)(hab:0<=a1/\a1<=a3/\a3 < a2/\a2<=↑a0_n) {cx:Cx} (hcx:cx.base=4):∀(n:Nat) (v1:List Int) (v2 v3:Int),(v1.length=a0.length)/\(InR a4.1.1.length v1)/\(a1 < v2)/\(v2<=v3+1)/\(v3 < a2)->tN (v3+2 - v2) < n->Aw.Good Tryz.prog none 9 (bodyPost Tryz.prog Tryz.f116 (RR cx (.t [(iv (aH (dG a0 a0_o a0_n a1 a2 a3 a4) n (v1,v2,v3)).1),(.v (.bool (aH (dG a0 a0_o a0_n a1 a2 a3 a4) n (v1,v2,v3)).2.1))]) [] [(.live true true (flat c3 (aH (dG a0 a0_o a0_n a1 a2 a3 a4) n (v1,v2,v3)).2.2)),.un,.un,.un])) cx [] (.l pZ n::qA) (oC a0 a0_o a0_n a1 a2 a3 a4 (flat c3 v1) v1.length v2 v3):=by
 intro n
 induction n with
 | zero=>intro v1 v2 v3 hi hn;exact absurd hn (eL _)
 | succ n ih =>
  intro v1 v2 v3 hi hn
  refine aS ?_
  have hw_0:W (v2+1)=v2+1:=(aR (n:=v2+1) (by omega) (by omega)).trans (by omega)
  have hw_1:W (v3 - 1)=v3 - 1:=(aR (n:=v3 - 1) (by omega) (by omega)).trans (by omega)
  cases h0:(decide ((v2:Int)<=v3)) with
  | true =>
   have q0:=cN h0
   let t1:List (St Tryz.prog):=[.d h0,.i v2 a0_n,cM aF v1 a0_o v2 0 1,.i a1 a0_n,cM aF v1 a0_o a1 0 1,.c [1,2,0,3] (C75 ((a4.1.1,a4.1.2.1,(v1,a4.1.2.2.2)),a4.2) (v1.getD (a0_o+tN v2) dF) (v1.getD (a0_o+tN a1) dF) (by omega) (by(try simp only [Lt]);omega) (by omega) (hi.2.1.at (by omega)) (hi.2.1.at (by omega)))]
   cases h1:(decide (((oY ((a4.1.1,a4.1.2.1,(v1,a4.1.2.2.2)),a4.2) (v1.getD (a0_o+tN v2) dF) (v1.getD (a0_o+tN a1) dF)):Int) < 0)) with
   | true =>
    have q1:=cN h1
    have e:=Eq.refl (dG a0 a0_o a0_n a1 a2 a3 a4 (v1,v2,v3));conv at e=>rhs;simp only [dG,h0,h1,aW]
    rw [aI e]
    refine ba (t1++[.d h1]) [] [0,1,4,12,13] [] hcx (m:=n) pZ (qA) (oC a0 a0_o a0_n a1 a2 a3 a4 (flat c3 v1) (v1.length) (W (v2+1)) v3) (by kernel_rfl) ?_
    have z0:(W (v2+1))=(v2+1):=aR (by omega) (by omega)
    rw [z0]
    exact ih v1 (v2+1) v3 (by refine⟨?_,?_,?_,?_,?_⟩<;>first | omega | assumption | exact hi.2.1 | exact hi.2.2.1 | (simp only [Lt];omega) | exact InR.swap hi.2.1 (by omega) (by omega) | exact InR.swap hr (by omega) (by omega)) (by omega)
   | false =>
    have q1:=cY h1
    have e:=Eq.refl (dG a0 a0_o a0_n a1 a2 a3 a4 (v1,v2,v3));conv at e=>rhs;simp only [dG,h0,h1,aW]
    rw [aK,e]
    refine en (t1++[.d h1]) [] [0,1,4,12,13] [] hcx mB (mC) (lE a0 a0_o a0_n a1 a2 a3 a4 (flat c3 v1) (v1.length) v2 v3) (tN (v3+2 - v2)+1) (by kernel_rfl) ?_
    exact vF a0 a0_o a0_n a1 a2 a3 a4 l0 l4_1_1 l4_1_2_2_1 l4_1_2_2_2 hw hr hab hcx (tN (v3+2 - v2)+1) v1 v2 v3 (by refine⟨?_,?_,?_,?_,?_⟩<;>first | omega | assumption | exact hi.2.1 | exact hi.2.2.1 | (simp only [Lt];omega) | exact InR.swap hi.2.1 (by omega) (by omega) | exact InR.swap hr (by omega) (by omega)) (by omega)
  | false =>
   have q0:=cY h0
   have e:=Eq.refl (dG a0 a0_o a0_n a1 a2 a3 a4 (v1,v2,v3));conv at e=>rhs;simp only [dG,h0,aW]
   rw [aK,e]
   refine en [.d h0] [] [0,1,4,12,13] [] hcx mB (mC) (lE a0 a0_o a0_n a1 a2 a3 a4 (flat c3 v1) (v1.length) v2 v3) (tN (v3+2 - v2)+1) (by kernel_rfl) ?_
   exact vF a0 a0_o a0_n a1 a2 a3 a4 l0 l4_1_1 l4_1_2_2_1 l4_1_2_2_2 hw hr hab hcx (tN (v3+2 - v2)+1) v1 v2 v3 (by refine⟨?_,?_,?_,?_,?_⟩<;>first | omega | assumption | exact hi.2.1 | exact hi.2.2.1 | (simp only [Lt];omega) | exact InR.swap hi.2.1 (by omega) (by omega) | exact InR.swap hr (by omega) (by omega)) (by omega)
def aM (a0:List Int)(a0_o:Nat)(a0_n:Nat)(a1:Int)(a2:Int)(a3:Int)(a4:eK×Int):Int×Bool×List Int :=
 (aH (dG a0 a0_o a0_n a1 a2 a3 a4) (tN ((W (a2 - 1))+2 - (W (a1+1)))+1) (((a0.set (a0_o+tN a1) (a0.getD (a0_o+tN a3) dF)).set (a0_o+tN a3) (a0.getD (a0_o+tN a1) dF)),(W (a1+1)),(W (a2 - 1))))
theorem aIo (a0:List Int)(a0_o:Nat)(a0_n:Nat)(a1:Int)(a2:Int)(a3:Int)(a4:eK×Int)(l0:a0.length<=2^63-1)(l4_1_1:a4.1.1.length<=2^63-1)(l4_1_2_2_1:a4.1.2.2.1.length<=2^63-1)(l4_1_2_2_2:a4.1.2.2.2.length<=2^63-1)(hw:a0_o+a0_n<=a0.length/\a0.length<=1048576)(hr:InR a4.1.1.length a0)(hab:0<=a1/\a1<=a3/\a3 < a2/\a2<=↑a0_n):Con Tryz.prog 116 [(.s 0 (0+a0_o*1) a0_n 1),(iv a1),(iv a2),(iv a3),(.f 1000075 [(.a [(.p 1 0),(iv a4.2)])])] [(.live true true (flat c3 a0)),(.live false false [(.s 2 0 a4.1.1.length 10),(iv a4.1.2.1),(.s 0 0 a0.length 1),(.s 3 0 a4.1.2.2.2.length 8)]),(.live false true (flat dI a4.1.1)),(.live false true (flat bZ a4.1.2.2.2))] (.t [(iv (aM a0 a0_o a0_n a1 a2 a3 a4).1),(.v (.bool (aM a0 a0_o a0_n a1 a2 a3 a4).2.1))]) [] [(.live true true (flat c3 (aM a0 a0_o a0_n a1 a2 a3 a4).2.2)),.un,.un,.un]:=by
 refine bA Tryz.func116 (by kernel_rfl) fun cx hcx=>?_
 have hw_0:W (a1+1)=a1+1:=(aR (n:=a1+1) (by omega) (by omega)).trans (by omega)
 have hw_1:W (a2 - 1)=a2 - 1:=(aR (n:=a2 - 1) (by omega) (by omega)).trans (by omega)
 have e:=Eq.refl (aM a0 a0_o a0_n a1 a2 a3 a4);conv at e=>rhs;simp only [aM]
 rw [e]
 refine en [.i a3 a0_n,cM aF a0 a0_o a3 0 1,.i a1 a0_n,cM aF a0 a0_o a1 0 1,.i a1 a0_n,.p (show((0+a0_o*1+tN a1*1)+1<=(flat c3 a0).length) from(aX aF (by first | omega | (simp only [Lt];omega)) (o:=0) (Nb rfl))),.i a3 a0_n,.p (show((0+a0_o*1+tN a3*1)+1<=(splice (flat c3 a0) (0+a0_o*1+tN a1*1) [(iv (a0.getD (a0_o+tN a3) dF))]).length) from(by rw [show(splice (flat c3 a0) (0+a0_o*1+tN a1*1) [(iv (a0.getD (a0_o+tN a3) dF))])=flat c3 (a0.set (a0_o+tN a1) (a0.getD (a0_o+tN a3) dF)) from(aP aF (by first | omega | (simp only [Lt];omega)) (o:=0) (d:=dF) (Nb rfl) rfl)];exact aX aF (by first | omega | (simp only [Lt];omega)) (o:=0) (Nb rfl)))] [] [0,1,4,12,13] [] hcx pZ (qA) (oC a0 a0_o a0_n a1 a2 a3 a4 (splice (splice (flat c3 a0) (0+a0_o*1+tN a1*1) [(iv (a0.getD (a0_o+tN a3) dF))]) (0+a0_o*1+tN a3*1) [(iv (a0.getD (a0_o+tN a1) dF))]) (a0.length) (W (a1+1)) (W (a2 - 1))) (tN ((W (a2 - 1))+2 - (W (a1+1)))+1) (by kernel_rfl) ?_
 have z0:(splice (splice (flat c3 a0) (0+a0_o*1+tN a1*1) [(iv (a0.getD (a0_o+tN a3) dF))]) (0+a0_o*1+tN a3*1) [(iv (a0.getD (a0_o+tN a1) dF))])=flat c3 ((a0.set (a0_o+tN a1) (a0.getD (a0_o+tN a3) dF)).set (a0_o+tN a3) (a0.getD (a0_o+tN a1) dF)):=(by rw [show(splice (flat c3 a0) (0+a0_o*1+tN a1*1) [(iv (a0.getD (a0_o+tN a3) dF))])=flat c3 (a0.set (a0_o+tN a1) (a0.getD (a0_o+tN a3) dF)) from(aP aF (by first | omega | (simp only [Lt];omega)) (o:=0) (d:=dF) (Nb rfl) rfl)];exact aP aF (by first | omega | (simp only [Lt];omega)) (o:=0) (d:=dF) (Nb rfl) rfl)
 have z1:a0.length=((a0.set (a0_o+tN a1) (a0.getD (a0_o+tN a3) dF)).set (a0_o+tN a3) (a0.getD (a0_o+tN a1) dF)).length:=by simp
 rw [z0,z1]
 exact aD9 a0 a0_o a0_n a1 a2 a3 a4 l0 l4_1_1 l4_1_2_2_1 l4_1_2_2_2 hw hr hab hcx (tN ((W (a2 - 1))+2 - (W (a1+1)))+1) ((a0.set (a0_o+tN a1) (a0.getD (a0_o+tN a3) dF)).set (a0_o+tN a3) (a0.getD (a0_o+tN a1) dF)) (W (a1+1)) (W (a2 - 1)) (by refine⟨?_,?_,?_,?_,?_⟩<;>first | omega | assumption | exact hi.2.1 | exact hi.2.2.1 | (simp only [Lt];omega) | exact InR.swap hi.2.1 (by omega) (by omega) | exact InR.swap hr (by omega) (by omega)) (by omega)
noncomputable def mD:Code:=(aN [1,1,1,0,0,1,0] [0] (aL Tryz.f115) []).1
noncomputable def mE (m0:Nat):List K:=(aN [1,1,1,0,0,1,0] [m0] (aL Tryz.f115) []).2
def lF (a0:List Int)(a0_o:Nat)(a0_n:Nat)(a1:Int)(a2:Int)(a3:Int)(a4:eK×Int)(v7c:List SV)(v7n:Nat)(v8 v9:Int):LS:=⟨gO 90 [(0,(.s 0 (0+a0_o*1) a0_n 1)),(1,(iv a1)),(4,(.f 1000075 [(.a [(.p 1 0),(iv a4.2)])])),(11,(iv v8)),(12,(iv v9))],[(.live true true v7c),(.live false false [(.s 2 0 a4.1.1.length 10),(iv a4.1.2.1),(.s 0 0 v7n 1),(.s 3 0 a4.1.2.2.2.length 8)]),(.live false true (flat dI a4.1.1)),(.live false true (flat bZ a4.1.2.2.2))]⟩
def bV (a0:List Int)(a0_o:Nat)(a0_n:Nat)(a1:Int)(a2:Int)(a3:Int)(a4:eK×Int):List Int×Int×Int->(List Int×Int×Int)⊕((List Int×Int×Int)⊕(Int×List Int))
 | (v7,v8,v9) =>
  (bif (decide ((v8:Int)<=v9)) then
   (bif (decide (((oY ((a4.1.1,a4.1.2.1,(v7,a4.1.2.2.2)),a4.2) (v7.getD (a0_o+tN a1) dF) (v7.getD (a0_o+tN v9) dF)):Int) < 0)) then
    (.inl (v7,v8,(W (v9 - 1))))
   else
    (bif (decide ((v8:Int) > v9)) then
     (.inr (.inr (v8,v7)))
    else
     (.inr (.inl (((v7.set (a0_o+tN v8) (v7.getD (a0_o+tN v9) dF)).set (a0_o+tN v9) (v7.getD (a0_o+tN v8) dF)),(W (v8+1)),(W (v9 - 1)))))))
  else
   (bif (decide ((v8:Int) > v9)) then
    (.inr (.inr (v8,v7)))
   else
    (.inr (.inl (((v7.set (a0_o+tN v8) (v7.getD (a0_o+tN v9) dF)).set (a0_o+tN v9) (v7.getD (a0_o+tN v8) dF)),(W (v8+1)),(W (v9 - 1)))))))
noncomputable def qB:Code:=(aN [1,1,1,0,0,0] [0] (aL Tryz.f115) []).1
noncomputable def qC (m0:Nat):List K:=(aN [1,1,1,0,0,0] [m0] (aL Tryz.f115) []).2
def oD (a0:List Int)(a0_o:Nat)(a0_n:Nat)(a1:Int)(a2:Int)(a3:Int)(a4:eK×Int)(v4c:List SV)(v4n:Nat)(v5 v6:Int):LS:=⟨gO 90 [(0,(.s 0 (0+a0_o*1) a0_n 1)),(1,(iv a1)),(4,(.f 1000075 [(.a [(.p 1 0),(iv a4.2)])])),(11,(iv v5)),(12,(iv v6))],[(.live true true v4c),(.live false false [(.s 2 0 a4.1.1.length 10),(iv a4.1.2.1),(.s 0 0 v4n 1),(.s 3 0 a4.1.2.2.2.length 8)]),(.live false true (flat dI a4.1.1)),(.live false true (flat bZ a4.1.2.2.2))]⟩
def dH (a0:List Int)(a0_o:Nat)(a0_n:Nat)(a1:Int)(a2:Int)(a3:Int)(a4:eK×Int):List Int×Int×Int->(List Int×Int×Int)⊕((List Int×Int×Int)⊕(Int×List Int))
 | (v4,v5,v6) =>
  (bif (decide ((v5:Int)<=v6)) then
   (bif (!(decide (((oY ((a4.1.1,a4.1.2.1,(v4,a4.1.2.2.2)),a4.2) (v4.getD (a0_o+tN a1) dF) (v4.getD (a0_o+tN v5) dF)):Int) < 0))) then
    (.inl (v4,(v5+1),v6))
   else
    (.inr (aH (bV a0 a0_o a0_n a1 a2 a3 a4) (tN (v6+2 - v5)+1) (v4,v5,v6))))
  else
   (.inr (aH (bV a0 a0_o a0_n a1 a2 a3 a4) (tN (v6+2 - v5)+1) (v4,v5,v6))))
noncomputable def iN:Code:=(aN [1,1,1,0] [] (aL Tryz.f115) []).1
noncomputable def iO:List K:=(aN [1,1,1,0] [] (aL Tryz.f115) []).2
def iC (a0:List Int)(a0_o:Nat)(a0_n:Nat)(a1:Int)(a2:Int)(a3:Int)(a4:eK×Int)(v1c:List SV)(v1n:Nat)(v2 v3:Int):LS:=⟨gO 90 [(0,(.s 0 (0+a0_o*1) a0_n 1)),(1,(iv a1)),(4,(.f 1000075 [(.a [(.p 1 0),(iv a4.2)])])),(11,(iv v2)),(12,(iv v3))],[(.live true true v1c),(.live false false [(.s 2 0 a4.1.1.length 10),(iv a4.1.2.1),(.s 0 0 v1n 1),(.s 3 0 a4.1.2.2.2.length 8)]),(.live false true (flat dI a4.1.1)),(.live false true (flat bZ a4.1.2.2.2))]⟩
def cQ (a0:List Int)(a0_o:Nat)(a0_n:Nat)(a1:Int)(a2:Int)(a3:Int)(a4:eK×Int):List Int×Int×Int->(List Int×Int×Int)⊕(Int×List Int)
 | (v1,v2,v3) =>
  (aH (dH a0 a0_o a0_n a1 a2 a3 a4) (tN (v3+2 - v2)+1) (v1,v2,v3))
theorem vG (a0:List Int)(a0_o:Nat)(a0_n:Nat)(a1:Int)(a2:Int)(a3:Int)(a4:eK×Int)(l0:a0.length<=2^63-1)(l4_1_1:a4.1.1.length<=2^63-1)(l4_1_2_2_1:a4.1.2.2.1.length<=2^63-1)(l4_1_2_2_2:a4.1.2.2.2.length<=2^63-1)(hw:a0_o+a0_n<=a0.length/\a0.length<=1048576)(hr:InR a4.1.1.length a0)(hab:0<=a1/\a1<=a3/\a3 < a2/\a2<=↑a0_n) {cx:Cx} (hcx:cx.base=4)
 (n0:Nat) (g0:∀(v1:List Int) (v2 v3:Int),(v1.length=a0.length)/\(InR a4.1.1.length v1)/\(a1 < v2)/\(v2<=v3+2)/\(v3 < a2)/\(a1<=v3)->tN (v3+2 - v2) < n0->Aw.Good Tryz.prog none 9 (bodyPost Tryz.prog Tryz.f115 (RR cx (iv (aH (cQ a0 a0_o a0_n a1 a2 a3 a4) n0 (v1,v2,v3)).1) [] [(.live true true (flat c3 (aH (cQ a0 a0_o a0_n a1 a2 a3 a4) n0 (v1,v2,v3)).2)),.un,.un,.un])) cx [] (.l iN n0::iO) (iC a0 a0_o a0_n a1 a2 a3 a4 (flat c3 v1) v1.length v2 v3)):∀(n:Nat) (v7:List Int) (v8 v9:Int),(v7.length=a0.length)/\(InR a4.1.1.length v7)/\(a1 < v8)/\(v8<=v9+2)/\(v9 < a2)/\(a1<=v9)/\((v7.length=a0.length))/\((InR a4.1.1.length v7))/\((a1 < v8))/\((v8<=v9+2))/\((v9 < a2))/\((a1<=v9))/\(tN (v9+2 - v8) < n0+1)->tN (v9+2 - v8) < n->Aw.Good Tryz.prog none 9 (bodyPost Tryz.prog Tryz.f115 (RR cx (iv (aZ (cQ a0 a0_o a0_n a1 a2 a3 a4) n0 (aH (bV a0 a0_o a0_n a1 a2 a3 a4) n (v7,v8,v9))).1) [] [(.live true true (flat c3 (aZ (cQ a0 a0_o a0_n a1 a2 a3 a4) n0 (aH (bV a0 a0_o a0_n a1 a2 a3 a4) n (v7,v8,v9))).2)),.un,.un,.un])) cx [] (.l mD n::mE n0) (lF a0 a0_o a0_n a1 a2 a3 a4 (flat c3 v7) v7.length v8 v9):=by
 intro n
 induction n with
 | zero=>intro v7 v8 v9 hi hn;exact absurd hn (eL _)
 | succ n ih =>
  intro v7 v8 v9 hi hn
  refine aS ?_
  have hw_0:W (v8+1)=v8+1:=(aR (n:=v8+1) (by omega) (by omega)).trans (by omega)
  have hw_1:W (v9 - 1)=v9 - 1:=(aR (n:=v9 - 1) (by omega) (by omega)).trans (by omega)
  cases h0:(decide ((v8:Int)<=v9)) with
  | true =>
   have q0:=cN h0
   let t1:List (St Tryz.prog):=[.d h0,.i a1 a0_n,cM aF v7 a0_o a1 0 1,.i v9 a0_n,cM aF v7 a0_o v9 0 1,.c [1,2,0,3] (C75 ((a4.1.1,a4.1.2.1,(v7,a4.1.2.2.2)),a4.2) (v7.getD (a0_o+tN a1) dF) (v7.getD (a0_o+tN v9) dF) (by omega) (by(try simp only [Lt]);omega) (by omega) (hi.2.1.at (by omega)) (hi.2.1.at (by omega)))]
   cases h1:(decide (((oY ((a4.1.1,a4.1.2.1,(v7,a4.1.2.2.2)),a4.2) (v7.getD (a0_o+tN a1) dF) (v7.getD (a0_o+tN v9) dF)):Int) < 0)) with
   | true =>
    have q1:=cN h1
    have e:=Eq.refl (bV a0 a0_o a0_n a1 a2 a3 a4 (v7,v8,v9));conv at e=>rhs;simp only [bV,h0,h1,aW]
    rw [aI e]
    refine ba (t1++[.d h1]) [] [0,1,4,11,12] [] hcx (m:=n) mD (mE n0) (lF a0 a0_o a0_n a1 a2 a3 a4 (flat c3 v7) (v7.length) v8 (W (v9 - 1))) (by kernel_rfl) ?_
    exact ih v7 v8 (W (v9 - 1)) (by refine⟨?_,?_,?_,?_,?_,?_,?_,?_,?_,?_,?_,?_,?_⟩<;>first | omega | assumption | exact hi.2.1 | exact hi.2.2.1 | (simp only [Lt];omega) | exact InR.swap hi.2.1 (by omega) (by omega) | exact InR.swap hr (by omega) (by omega)) (by omega)
   | false =>
    have q1:=cY h1
    let t2:List (St Tryz.prog):=(t1++[.d h1])
    cases h2:(decide ((v8:Int) > v9)) with
    | true =>
     have q2:=cN h2
     have e:=Eq.refl (bV a0 a0_o a0_n a1 a2 a3 a4 (v7,v8,v9));conv at e=>rhs;simp only [bV,h0,h1,h2,aW]
     rw [aK,e]
     try dsimp only [aZ]
     try dsimp only
     exact wG (t2++[.d h2]) [] [0] [] hcx (by kernel_rfl)
    | false =>
     have q2:=cY h2
     have e:=Eq.refl (bV a0 a0_o a0_n a1 a2 a3 a4 (v7,v8,v9));conv at e=>rhs;simp only [bV,h0,h1,h2,aW]
     rw [aK,e]
     refine ba (t2++[.d h2,.i v9 a0_n,cM aF v7 a0_o v9 0 1,.i v8 a0_n,cM aF v7 a0_o v8 0 1,.i v8 a0_n,.p (show((0+a0_o*1+tN v8*1)+1<=(flat c3 v7).length) from(aX aF (by first | omega | (simp only [Lt];omega)) (o:=0) (Nb rfl))),.i v9 a0_n,.p (show((0+a0_o*1+tN v9*1)+1<=(splice (flat c3 v7) (0+a0_o*1+tN v8*1) [(iv (v7.getD (a0_o+tN v9) dF))]).length) from(by rw [show(splice (flat c3 v7) (0+a0_o*1+tN v8*1) [(iv (v7.getD (a0_o+tN v9) dF))])=flat c3 (v7.set (a0_o+tN v8) (v7.getD (a0_o+tN v9) dF)) from(aP aF (by first | omega | (simp only [Lt];omega)) (o:=0) (d:=dF) (Nb rfl) rfl)];exact aX aF (by first | omega | (simp only [Lt];omega)) (o:=0) (Nb rfl)))]) [] [0,1,4,11,12] [] hcx (m:=n0) iN (iO) (iC a0 a0_o a0_n a1 a2 a3 a4 (splice (splice (flat c3 v7) (0+a0_o*1+tN v8*1) [(iv (v7.getD (a0_o+tN v9) dF))]) (0+a0_o*1+tN v9*1) [(iv (v7.getD (a0_o+tN v8) dF))]) (v7.length) (W (v8+1)) (W (v9 - 1))) (by kernel_rfl) ?_
     have z0:(splice (splice (flat c3 v7) (0+a0_o*1+tN v8*1) [(iv (v7.getD (a0_o+tN v9) dF))]) (0+a0_o*1+tN v9*1) [(iv (v7.getD (a0_o+tN v8) dF))])=flat c3 ((v7.set (a0_o+tN v8) (v7.getD (a0_o+tN v9) dF)).set (a0_o+tN v9) (v7.getD (a0_o+tN v8) dF)):=(by rw [show(splice (flat c3 v7) (0+a0_o*1+tN v8*1) [(iv (v7.getD (a0_o+tN v9) dF))])=flat c3 (v7.set (a0_o+tN v8) (v7.getD (a0_o+tN v9) dF)) from(aP aF (by first | omega | (simp only [Lt];omega)) (o:=0) (d:=dF) (Nb rfl) rfl)];exact aP aF (by first | omega | (simp only [Lt];omega)) (o:=0) (d:=dF) (Nb rfl) rfl)
     have z1:v7.length=((v7.set (a0_o+tN v8) (v7.getD (a0_o+tN v9) dF)).set (a0_o+tN v9) (v7.getD (a0_o+tN v8) dF)).length:=by simp
     rw [z0,z1]
     exact g0 ((v7.set (a0_o+tN v8) (v7.getD (a0_o+tN v9) dF)).set (a0_o+tN v9) (v7.getD (a0_o+tN v8) dF)) (W (v8+1)) (W (v9 - 1)) (by refine⟨?_,?_,?_,?_,?_,?_⟩<;>first | omega | assumption | exact hi.2.1 | exact hi.2.2.1 | (simp only [Lt];omega) | exact InR.swap hi.2.1 (by omega) (by omega) | exact InR.swap hr (by omega) (by omega)) (by omega)
  | false =>
   have q0:=cY h0
   let t1:List (St Tryz.prog):=[.d h0]
   cases h1:(decide ((v8:Int) > v9)) with
   | true =>
    have q1:=cN h1
    have e:=Eq.refl (bV a0 a0_o a0_n a1 a2 a3 a4 (v7,v8,v9));conv at e=>rhs;simp only [bV,h0,h1,aW]
    rw [aK,e]
    try dsimp only [aZ]
    try dsimp only
    exact wG (t1++[.d h1]) [] [0] [] hcx (by kernel_rfl)
   | false =>
    have q1:=cY h1
    have e:=Eq.refl (bV a0 a0_o a0_n a1 a2 a3 a4 (v7,v8,v9));conv at e=>rhs;simp only [bV,h0,h1,aW]
    rw [aK,e]
    refine ba (t1++[.d h1,.i v9 a0_n,cM aF v7 a0_o v9 0 1,.i v8 a0_n,cM aF v7 a0_o v8 0 1,.i v8 a0_n,.p (show((0+a0_o*1+tN v8*1)+1<=(flat c3 v7).length) from(aX aF (by first | omega | (simp only [Lt];omega)) (o:=0) (Nb rfl))),.i v9 a0_n,.p (show((0+a0_o*1+tN v9*1)+1<=(splice (flat c3 v7) (0+a0_o*1+tN v8*1) [(iv (v7.getD (a0_o+tN v9) dF))]).length) from(by rw [show(splice (flat c3 v7) (0+a0_o*1+tN v8*1) [(iv (v7.getD (a0_o+tN v9) dF))])=flat c3 (v7.set (a0_o+tN v8) (v7.getD (a0_o+tN v9) dF)) from(aP aF (by first | omega | (simp only [Lt];omega)) (o:=0) (d:=dF) (Nb rfl) rfl)];exact aX aF (by first | omega | (simp only [Lt];omega)) (o:=0) (Nb rfl)))]) [] [0,1,4,11,12] [] hcx (m:=n0) iN (iO) (iC a0 a0_o a0_n a1 a2 a3 a4 (splice (splice (flat c3 v7) (0+a0_o*1+tN v8*1) [(iv (v7.getD (a0_o+tN v9) dF))]) (0+a0_o*1+tN v9*1) [(iv (v7.getD (a0_o+tN v8) dF))]) (v7.length) (W (v8+1)) (W (v9 - 1))) (by kernel_rfl) ?_
    have z0:(splice (splice (flat c3 v7) (0+a0_o*1+tN v8*1) [(iv (v7.getD (a0_o+tN v9) dF))]) (0+a0_o*1+tN v9*1) [(iv (v7.getD (a0_o+tN v8) dF))])=flat c3 ((v7.set (a0_o+tN v8) (v7.getD (a0_o+tN v9) dF)).set (a0_o+tN v9) (v7.getD (a0_o+tN v8) dF)):=(by rw [show(splice (flat c3 v7) (0+a0_o*1+tN v8*1) [(iv (v7.getD (a0_o+tN v9) dF))])=flat c3 (v7.set (a0_o+tN v8) (v7.getD (a0_o+tN v9) dF)) from(aP aF (by first | omega | (simp only [Lt];omega)) (o:=0) (d:=dF) (Nb rfl) rfl)];exact aP aF (by first | omega | (simp only [Lt];omega)) (o:=0) (d:=dF) (Nb rfl) rfl)
    have z1:v7.length=((v7.set (a0_o+tN v8) (v7.getD (a0_o+tN v9) dF)).set (a0_o+tN v9) (v7.getD (a0_o+tN v8) dF)).length:=by simp
    rw [z0,z1]
    exact g0 ((v7.set (a0_o+tN v8) (v7.getD (a0_o+tN v9) dF)).set (a0_o+tN v9) (v7.getD (a0_o+tN v8) dF)) (W (v8+1)) (W (v9 - 1)) (by refine⟨?_,?_,?_,?_,?_,?_⟩<;>first | omega | assumption | exact hi.2.1 | exact hi.2.2.1 | (simp only [Lt];omega) | exact InR.swap hi.2.1 (by omega) (by omega) | exact InR.swap hr (by omega) (by omega)) (by omega)
theorem aEa (a0:List Int)(a0_o:Nat)(a0_n:Nat)(a1:Int)(a2:Int)(a3:Int)(a4:eK×Int)(l0:a0.length<=2^63-1)(l4_1_1:a4.1.1.length<=2^63-1)(l4_1_2_2_1:a4.1.2.2.1.length<=2^63-1)(l4_1_2_2_2:a4.1.2.2.2.length<=2^63-1)(hw:a0_o+a0_n<=a0.length/\a0.length<=1048576)(hr:InR a4.1.1.length a0)(hab:0<=a1/\a1<=a3/\a3 < a2/\a2<=↑a0_n) {cx:Cx} (hcx:cx.base=4)
 (n0:Nat) (g0:∀(v1:List Int) (v2 v3:Int),(v1.length=a0.length)/\(InR a4.1.1.length v1)/\(a1 < v2)/\(v2<=v3+2)/\(v3 < a2)/\(a1<=v3)->tN (v3+2 - v2) < n0->Aw.Good Tryz.prog none 9 (bodyPost Tryz.prog Tryz.f115 (RR cx (iv (aH (cQ a0 a0_o a0_n a1 a2 a3 a4) n0 (v1,v2,v3)).1) [] [(.live true true (flat c3 (aH (cQ a0 a0_o a0_n a1 a2 a3 a4) n0 (v1,v2,v3)).2)),.un,.un,.un])) cx [] (.l iN n0::iO) (iC a0 a0_o a0_n a1 a2 a3 a4 (flat c3 v1) v1.length v2 v3)):∀(n:Nat) (v4:List Int) (v5 v6:Int),(v4.length=a0.length)/\(InR a4.1.1.length v4)/\(a1 < v5)/\(v5<=v6+2)/\(v6 < a2)/\(a1<=v6)/\((v4.length=a0.length))/\((InR a4.1.1.length v4))/\((a1 < v5))/\((v5<=v6+2))/\((v6 < a2))/\((a1<=v6))/\(tN (v6+2 - v5) < n0+1)->tN (v6+2 - v5) < n->Aw.Good Tryz.prog none 9 (bodyPost Tryz.prog Tryz.f115 (RR cx (iv (aZ (cQ a0 a0_o a0_n a1 a2 a3 a4) n0 (aH (dH a0 a0_o a0_n a1 a2 a3 a4) n (v4,v5,v6))).1) [] [(.live true true (flat c3 (aZ (cQ a0 a0_o a0_n a1 a2 a3 a4) n0 (aH (dH a0 a0_o a0_n a1 a2 a3 a4) n (v4,v5,v6))).2)),.un,.un,.un])) cx [] (.l qB n::qC n0) (oD a0 a0_o a0_n a1 a2 a3 a4 (flat c3 v4) v4.length v5 v6):=by
 intro n
 induction n with
 | zero=>intro v4 v5 v6 hi hn;exact absurd hn (eL _)
 | succ n ih =>
  intro v4 v5 v6 hi hn
  refine aS ?_
  have hw_0:W (v5+1)=v5+1:=(aR (n:=v5+1) (by omega) (by omega)).trans (by omega)
  have hw_1:W (v6 - 1)=v6 - 1:=(aR (n:=v6 - 1) (by omega) (by omega)).trans (by omega)
  cases h0:(decide ((v5:Int)<=v6)) with
  | true =>
   have q0:=cN h0
   let t1:List (St Tryz.prog):=[.d h0,.i a1 a0_n,cM aF v4 a0_o a1 0 1,.i v5 a0_n,cM aF v4 a0_o v5 0 1,.c [1,2,0,3] (C75 ((a4.1.1,a4.1.2.1,(v4,a4.1.2.2.2)),a4.2) (v4.getD (a0_o+tN a1) dF) (v4.getD (a0_o+tN v5) dF) (by omega) (by(try simp only [Lt]);omega) (by omega) (hi.2.1.at (by omega)) (hi.2.1.at (by omega)))]
   cases h1:(!(decide (((oY ((a4.1.1,a4.1.2.1,(v4,a4.1.2.2.2)),a4.2) (v4.getD (a0_o+tN a1) dF) (v4.getD (a0_o+tN v5) dF)):Int) < 0))) with
   | true =>
    have e:=Eq.refl (dH a0 a0_o a0_n a1 a2 a3 a4 (v4,v5,v6));conv at e=>rhs;simp only [dH,h0,h1,aW]
    rw [aI e]
    refine ba (t1++[.d h1]) [] [0,1,4,11,12] [] hcx (m:=n) qB (qC n0) (oD a0 a0_o a0_n a1 a2 a3 a4 (flat c3 v4) (v4.length) (W (v5+1)) v6) (by kernel_rfl) ?_
    have z0:(W (v5+1))=(v5+1):=aR (by omega) (by omega)
    rw [z0]
    exact ih v4 (v5+1) v6 (by refine⟨?_,?_,?_,?_,?_,?_,?_,?_,?_,?_,?_,?_,?_⟩<;>first | omega | assumption | exact hi.2.1 | exact hi.2.2.1 | (simp only [Lt];omega) | exact InR.swap hi.2.1 (by omega) (by omega) | exact InR.swap hr (by omega) (by omega)) (by omega)
   | false =>
    have e:=Eq.refl (dH a0 a0_o a0_n a1 a2 a3 a4 (v4,v5,v6));conv at e=>rhs;simp only [dH,h0,h1,aW]
    rw [aK,e]
    refine en (t1++[.d h1]) [] [0,1,4,11,12] [] hcx mD (mE n0) (lF a0 a0_o a0_n a1 a2 a3 a4 (flat c3 v4) (v4.length) v5 v6) (tN (v6+2 - v5)+1) (by kernel_rfl) ?_
    exact vG a0 a0_o a0_n a1 a2 a3 a4 l0 l4_1_1 l4_1_2_2_1 l4_1_2_2_2 hw hr hab hcx n0 g0 (tN (v6+2 - v5)+1) v4 v5 v6 (by refine⟨?_,?_,?_,?_,?_,?_,?_,?_,?_,?_,?_,?_,?_⟩<;>first | omega | assumption | exact hi.2.1 | exact hi.2.2.1 | (simp only [Lt];omega) | exact InR.swap hi.2.1 (by omega) (by omega) | exact InR.swap hr (by omega) (by omega)) (by omega)
  | false =>
   have q0:=cY h0
   have e:=Eq.refl (dH a0 a0_o a0_n a1 a2 a3 a4 (v4,v5,v6));conv at e=>rhs;simp only [dH,h0,aW]
   rw [aK,e]
   refine en [.d h0] [] [0,1,4,11,12] [] hcx mD (mE n0) (lF a0 a0_o a0_n a1 a2 a3 a4 (flat c3 v4) (v4.length) v5 v6) (tN (v6+2 - v5)+1) (by kernel_rfl) ?_
   exact vG a0 a0_o a0_n a1 a2 a3 a4 l0 l4_1_1 l4_1_2_2_1 l4_1_2_2_2 hw hr hab hcx n0 g0 (tN (v6+2 - v5)+1) v4 v5 v6 (by refine⟨?_,?_,?_,?_,?_,?_,?_,?_,?_,?_,?_,?_,?_⟩<;>first | omega | assumption | exact hi.2.1 | exact hi.2.2.1 | (simp only [Lt];omega) | exact InR.swap hi.2.1 (by omega) (by omega) | exact InR.swap hr (by omega) (by omega)) (by omega)
theorem aEb (a0:List Int)(a0_o:Nat)(a0_n:Nat)(a1:Int)(a2:Int)(a3:Int)(a4:eK×Int)(l0:a0.length<=2^63-1)(l4_1_1:a4.1.1.length<=2^63-1)(l4_1_2_2_1:a4.1.2.2.1.length<=2^63-1)(l4_1_2_2_2:a4.1.2.2.2.length<=2^63-1)(hw:a0_o+a0_n<=a0.length/\a0.length<=1048576)(hr:InR a4.1.1.length a0)(hab:0<=a1/\a1<=a3/\a3 < a2/\a2<=↑a0_n) {cx:Cx} (hcx:cx.base=4):∀(n:Nat) (v1:List Int) (v2 v3:Int),(v1.length=a0.length)/\(InR a4.1.1.length v1)/\(a1 < v2)/\(v2<=v3+2)/\(v3 < a2)/\(a1<=v3)->tN (v3+2 - v2) < n->Aw.Good Tryz.prog none 9 (bodyPost Tryz.prog Tryz.f115 (RR cx (iv (aH (cQ a0 a0_o a0_n a1 a2 a3 a4) n (v1,v2,v3)).1) [] [(.live true true (flat c3 (aH (cQ a0 a0_o a0_n a1 a2 a3 a4) n (v1,v2,v3)).2)),.un,.un,.un])) cx [] (.l iN n::iO) (iC a0 a0_o a0_n a1 a2 a3 a4 (flat c3 v1) v1.length v2 v3):=by
 intro n
 induction n with
 | zero=>intro v1 v2 v3 hi hn;exact absurd hn (eL _)
 | succ n ih =>
  intro v1 v2 v3 hi hn
  refine aS ?_
  have hw_0:W (v2+1)=v2+1:=(aR (n:=v2+1) (by omega) (by omega)).trans (by omega)
  have hw_1:W (v3 - 1)=v3 - 1:=(aR (n:=v3 - 1) (by omega) (by omega)).trans (by omega)
  have e:=Eq.refl (cQ a0 a0_o a0_n a1 a2 a3 a4 (v1,v2,v3));conv at e=>rhs;simp only [cQ]
  rw [aK,e]
  refine en [] [] [0,1,4,11,12] [] hcx qB (qC n) (oD a0 a0_o a0_n a1 a2 a3 a4 (flat c3 v1) (v1.length) v2 v3) (tN (v3+2 - v2)+1) (by kernel_rfl) ?_
  exact aEa a0 a0_o a0_n a1 a2 a3 a4 l0 l4_1_1 l4_1_2_2_1 l4_1_2_2_2 hw hr hab hcx n ih (tN (v3+2 - v2)+1) v1 v2 v3 (by refine⟨?_,?_,?_,?_,?_,?_,?_,?_,?_,?_,?_,?_,?_⟩<;>first | omega | assumption | exact hi.2.1 | exact hi.2.2.1 | (simp only [Lt];omega) | exact InR.swap hi.2.1 (by omega) (by omega) | exact InR.swap hr (by omega) (by omega)) (by omega)
def dC (a0:List Int)(a0_o:Nat)(a0_n:Nat)(a1:Int)(a2:Int)(a3:Int)(a4:eK×Int):Int×List Int :=
 (aH (cQ a0 a0_o a0_n a1 a2 a3 a4) (tN ((W (a2 - 1))+2 - (W (a1+1)))+1) (((a0.set (a0_o+tN a1) (a0.getD (a0_o+tN a3) dF)).set (a0_o+tN a3) (a0.getD (a0_o+tN a1) dF)),(W (a1+1)),(W (a2 - 1))))
theorem aIp (a0:List Int)(a0_o:Nat)(a0_n:Nat)(a1:Int)(a2:Int)(a3:Int)(a4:eK×Int)(l0:a0.length<=2^63-1)(l4_1_1:a4.1.1.length<=2^63-1)(l4_1_2_2_1:a4.1.2.2.1.length<=2^63-1)(l4_1_2_2_2:a4.1.2.2.2.length<=2^63-1)(hw:a0_o+a0_n<=a0.length/\a0.length<=1048576)(hr:InR a4.1.1.length a0)(hab:0<=a1/\a1<=a3/\a3 < a2/\a2<=↑a0_n):Con Tryz.prog 115 [(.s 0 (0+a0_o*1) a0_n 1),(iv a1),(iv a2),(iv a3),(.f 1000075 [(.a [(.p 1 0),(iv a4.2)])])] [(.live true true (flat c3 a0)),(.live false false [(.s 2 0 a4.1.1.length 10),(iv a4.1.2.1),(.s 0 0 a0.length 1),(.s 3 0 a4.1.2.2.2.length 8)]),(.live false true (flat dI a4.1.1)),(.live false true (flat bZ a4.1.2.2.2))] (iv (dC a0 a0_o a0_n a1 a2 a3 a4).1) [] [(.live true true (flat c3 (dC a0 a0_o a0_n a1 a2 a3 a4).2)),.un,.un,.un]:=by
 refine bA Tryz.func115 (by kernel_rfl) fun cx hcx=>?_
 have hw_0:W (a1+1)=a1+1:=(aR (n:=a1+1) (by omega) (by omega)).trans (by omega)
 have hw_1:W (a2 - 1)=a2 - 1:=(aR (n:=a2 - 1) (by omega) (by omega)).trans (by omega)
 have e:=Eq.refl (dC a0 a0_o a0_n a1 a2 a3 a4);conv at e=>rhs;simp only [dC]
 rw [e]
 refine en [.i a3 a0_n,cM aF a0 a0_o a3 0 1,.i a1 a0_n,cM aF a0 a0_o a1 0 1,.i a1 a0_n,.p (show((0+a0_o*1+tN a1*1)+1<=(flat c3 a0).length) from(aX aF (by first | omega | (simp only [Lt];omega)) (o:=0) (Nb rfl))),.i a3 a0_n,.p (show((0+a0_o*1+tN a3*1)+1<=(splice (flat c3 a0) (0+a0_o*1+tN a1*1) [(iv (a0.getD (a0_o+tN a3) dF))]).length) from(by rw [show(splice (flat c3 a0) (0+a0_o*1+tN a1*1) [(iv (a0.getD (a0_o+tN a3) dF))])=flat c3 (a0.set (a0_o+tN a1) (a0.getD (a0_o+tN a3) dF)) from(aP aF (by first | omega | (simp only [Lt];omega)) (o:=0) (d:=dF) (Nb rfl) rfl)];exact aX aF (by first | omega | (simp only [Lt];omega)) (o:=0) (Nb rfl)))] [] [0,1,4,11,12] [] hcx iN (iO) (iC a0 a0_o a0_n a1 a2 a3 a4 (splice (splice (flat c3 a0) (0+a0_o*1+tN a1*1) [(iv (a0.getD (a0_o+tN a3) dF))]) (0+a0_o*1+tN a3*1) [(iv (a0.getD (a0_o+tN a1) dF))]) (a0.length) (W (a1+1)) (W (a2 - 1))) (tN ((W (a2 - 1))+2 - (W (a1+1)))+1) (by kernel_rfl) ?_
 have z0:(splice (splice (flat c3 a0) (0+a0_o*1+tN a1*1) [(iv (a0.getD (a0_o+tN a3) dF))]) (0+a0_o*1+tN a3*1) [(iv (a0.getD (a0_o+tN a1) dF))])=flat c3 ((a0.set (a0_o+tN a1) (a0.getD (a0_o+tN a3) dF)).set (a0_o+tN a3) (a0.getD (a0_o+tN a1) dF)):=(by rw [show(splice (flat c3 a0) (0+a0_o*1+tN a1*1) [(iv (a0.getD (a0_o+tN a3) dF))])=flat c3 (a0.set (a0_o+tN a1) (a0.getD (a0_o+tN a3) dF)) from(aP aF (by first | omega | (simp only [Lt];omega)) (o:=0) (d:=dF) (Nb rfl) rfl)];exact aP aF (by first | omega | (simp only [Lt];omega)) (o:=0) (d:=dF) (Nb rfl) rfl)
 have z1:a0.length=((a0.set (a0_o+tN a1) (a0.getD (a0_o+tN a3) dF)).set (a0_o+tN a3) (a0.getD (a0_o+tN a1) dF)).length:=by simp
 rw [z0,z1]
 exact aEb a0 a0_o a0_n a1 a2 a3 a4 l0 l4_1_1 l4_1_2_2_1 l4_1_2_2_2 hw hr hab hcx (tN ((W (a2 - 1))+2 - (W (a1+1)))+1) ((a0.set (a0_o+tN a1) (a0.getD (a0_o+tN a3) dF)).set (a0_o+tN a3) (a0.getD (a0_o+tN a1) dF)) (W (a1+1)) (W (a2 - 1)) (by refine⟨?_,?_,?_,?_,?_,?_⟩<;>first | omega | assumption | exact hi.2.1 | exact hi.2.2.1 | (simp only [Lt];omega) | exact InR.swap hi.2.1 (by omega) (by omega) | exact InR.swap hr (by omega) (by omega)) (by omega)
noncomputable def iP:Code:=(aN [1,1,0,1,0,1,0,1,1,1,1,1,1,0,1] [0] (aL Tryz.f114) []).1
noncomputable def iQ (m0:Nat):List K:=(aN [1,1,0,1,0,1,0,1,1,1,1,1,1,0,1] [m0] (aL Tryz.f114) []).2
def iD (a0:List Int)(a0_o:Nat)(a0_n:Nat)(a1:Int)(a2:Int)(a3:eK×Int)(v11c:List SV)(v11n:Nat)(v12 v13 v14:Int):LS:=⟨gO 141 [(0,(.s 0 (0+a0_o*1) a0_n 1)),(1,(iv a1)),(2,(iv a2)),(3,(.f 1000075 [(.a [(.p 1 0),(iv a3.2)])])),(9,(iv v12)),(10,(iv v13)),(12,(iv v14))],[(.live true true v11c),(.live false false [(.s 2 0 a3.1.1.length 10),(iv a3.1.2.1),(.s 0 0 v11n 1),(.s 3 0 a3.1.2.2.2.length 8)]),(.live false true (flat dI a3.1.1)),(.live false true (flat bZ a3.1.2.2.2))]⟩
def cA (a0:List Int)(a0_o:Nat)(a0_n:Nat)(a1:Int)(a2:Int)(a3:eK×Int):List Int×Zt->(List Int×Zt)⊕((List Int×Int×Int)⊕(Bool×List Int))
 | (v11,v12,v13,v14) =>
  (bif (decide ((v14:Int) < a2)) then
   (bif (!(decide (((oY ((a3.1.1,a3.1.2.1,(v11,a3.1.2.2.2)),a3.2) (v11.getD (a0_o+tN v14) dF) (v11.getD (a0_o+tN (W (v14 - 1))) dF)):Int) < 0))) then
    (.inr (.inl (v11,v12,(v13+1))))
   else
    (.inl (((v11.set (a0_o+tN v14) (v11.getD (a0_o+tN (W (v14 - 1))) dF)).set (a0_o+tN (W (v14 - 1))) (v11.getD (a0_o+tN v14) dF)),v12,v13,(v14+1))))
  else
   (.inr (.inl (v11,v12,(v13+1)))))
noncomputable def mF:Code:=(aN [1,1,0,1,0,1,0,1,1,1,1,0,1,0,1] [0] (aL Tryz.f114) []).1
noncomputable def mG (m0:Nat):List K:=(aN [1,1,0,1,0,1,0,1,1,1,1,0,1,0,1] [m0] (aL Tryz.f114) []).2
def lG (a0:List Int)(a0_o:Nat)(a0_n:Nat)(a1:Int)(a2:Int)(a3:eK×Int)(v7c:List SV)(v7n:Nat)(v8 v9 v10:Int):LS:=⟨gO 141 [(0,(.s 0 (0+a0_o*1) a0_n 1)),(1,(iv a1)),(2,(iv a2)),(3,(.f 1000075 [(.a [(.p 1 0),(iv a3.2)])])),(9,(iv v8)),(10,(iv v9)),(11,(iv v10))],[(.live true true v7c),(.live false false [(.s 2 0 a3.1.1.length 10),(iv a3.1.2.1),(.s 0 0 v7n 1),(.s 3 0 a3.1.2.2.2.length 8)]),(.live false true (flat dI a3.1.1)),(.live false true (flat bZ a3.1.2.2.2))]⟩
def cB (a0:List Int)(a0_o:Nat)(a0_n:Nat)(a1:Int)(a2:Int)(a3:eK×Int):List Int×Zt->(List Int×Zt)⊕((List Int×Int×Int)⊕(Bool×List Int))
 | (v7,v8,v9,v10) =>
  (bif (decide ((v10:Int)≥1)) then
   (bif (!(decide (((oY ((a3.1.1,a3.1.2.1,(v7,a3.1.2.2.2)),a3.2) (v7.getD (a0_o+tN v10) dF) (v7.getD (a0_o+tN (W (v10 - 1))) dF)):Int) < 0))) then
    (bif (decide (((W (a2 - v8)):Int)≥2)) then
     (.inr (aH (cA a0 a0_o a0_n a1 a2 a3) (tN (a2 - (v8+1))+1) (v7,v8,v9,(v8+1))))
    else
     (.inr (.inl (v7,v8,(v9+1)))))
   else
    (.inl (((v7.set (a0_o+tN v10) (v7.getD (a0_o+tN (W (v10 - 1))) dF)).set (a0_o+tN (W (v10 - 1))) (v7.getD (a0_o+tN v10) dF)),v8,v9,(W (v10 - 1)))))
  else
   (bif (decide (((W (a2 - v8)):Int)≥2)) then
    (.inr (aH (cA a0 a0_o a0_n a1 a2 a3) (tN (a2 - (v8+1))+1) (v7,v8,v9,(v8+1))))
   else
    (.inr (.inl (v7,v8,(v9+1))))))
noncomputable def qD:Code:=(aN [1,1,0,1,0,1,0,0] [0] (aL Tryz.f114) []).1
noncomputable def qE (m0:Nat):List K:=(aN [1,1,0,1,0,1,0,0] [m0] (aL Tryz.f114) []).2
def oE (a0:List Int)(a0_o:Nat)(a0_n:Nat)(a1:Int)(a2:Int)(a3:eK×Int)(v4c:List SV)(v4n:Nat)(v5 v6:Int):LS:=⟨gO 141 [(0,(.s 0 (0+a0_o*1) a0_n 1)),(1,(iv a1)),(2,(iv a2)),(3,(.f 1000075 [(.a [(.p 1 0),(iv a3.2)])])),(9,(iv v5)),(10,(iv v6))],[(.live true true v4c),(.live false false [(.s 2 0 a3.1.1.length 10),(iv a3.1.2.1),(.s 0 0 v4n 1),(.s 3 0 a3.1.2.2.2.length 8)]),(.live false true (flat dI a3.1.1)),(.live false true (flat bZ a3.1.2.2.2))]⟩
def bC (a0:List Int)(a0_o:Nat)(a0_n:Nat)(a1:Int)(a2:Int)(a3:eK×Int):List Int×Int×Int->(List Int×Int×Int)⊕((List Int×Int×Int)⊕(Bool×List Int))
 | (v4,v5,v6) =>
  (bif (decide ((v5:Int) < a2)) then
   (bif (!(decide (((oY ((a3.1.1,a3.1.2.1,(v4,a3.1.2.2.2)),a3.2) (v4.getD (a0_o+tN v5) dF) (v4.getD (a0_o+tN (W (v5 - 1))) dF)):Int) < 0))) then
    (.inl (v4,(v5+1),v6))
   else
    (bif ((v5:Int) == a2) then
     (.inr (.inr (true,v4)))
    else
     (bif (decide (((W (a2 - a1)):Int) < 50)) then
      (.inr (.inr (false,v4)))
     else
      (bif (decide (((W (v5 - a1)):Int)≥2)) then
       (.inr (aH (cB a0 a0_o a0_n a1 a2 a3) (tN (W (v5 - 1))+1) (((v4.set (a0_o+tN v5) (v4.getD (a0_o+tN (W (v5 - 1))) dF)).set (a0_o+tN (W (v5 - 1))) (v4.getD (a0_o+tN v5) dF)),v5,v6,(W (v5 - 1)))))
      else
       (bif (decide (((W (a2 - v5)):Int)≥2)) then
        (.inr (aH (cA a0 a0_o a0_n a1 a2 a3) (tN (a2 - (v5+1))+1) (((v4.set (a0_o+tN v5) (v4.getD (a0_o+tN (W (v5 - 1))) dF)).set (a0_o+tN (W (v5 - 1))) (v4.getD (a0_o+tN v5) dF)),v5,v6,(v5+1))))
       else
        (.inr (.inl (((v4.set (a0_o+tN v5) (v4.getD (a0_o+tN (W (v5 - 1))) dF)).set (a0_o+tN (W (v5 - 1))) (v4.getD (a0_o+tN v5) dF)),v5,(v6+1)))))))))
  else
   (bif ((v5:Int) == a2) then
    (.inr (.inr (true,v4)))
   else
    (bif (decide (((W (a2 - a1)):Int) < 50)) then
     (.inr (.inr (false,v4)))
    else
     (bif (decide (((W (v5 - a1)):Int)≥2)) then
      (.inr (aH (cB a0 a0_o a0_n a1 a2 a3) (tN (W (v5 - 1))+1) (((v4.set (a0_o+tN v5) (v4.getD (a0_o+tN (W (v5 - 1))) dF)).set (a0_o+tN (W (v5 - 1))) (v4.getD (a0_o+tN v5) dF)),v5,v6,(W (v5 - 1)))))
     else
      (bif (decide (((W (a2 - v5)):Int)≥2)) then
       (.inr (aH (cA a0 a0_o a0_n a1 a2 a3) (tN (a2 - (v5+1))+1) (((v4.set (a0_o+tN v5) (v4.getD (a0_o+tN (W (v5 - 1))) dF)).set (a0_o+tN (W (v5 - 1))) (v4.getD (a0_o+tN v5) dF)),v5,v6,(v5+1))))
      else
       (.inr (.inl (((v4.set (a0_o+tN v5) (v4.getD (a0_o+tN (W (v5 - 1))) dF)).set (a0_o+tN (W (v5 - 1))) (v4.getD (a0_o+tN v5) dF)),v5,(v6+1)))))))))
noncomputable def eN:Code:=(aN [1,1,0,1] [] (aL Tryz.f114) []).1
noncomputable def eO:List K:=(aN [1,1,0,1] [] (aL Tryz.f114) []).2
def dU (a0:List Int)(a0_o:Nat)(a0_n:Nat)(a1:Int)(a2:Int)(a3:eK×Int)(v1c:List SV)(v1n:Nat)(v2 v3:Int):LS:=⟨gO 141 [(0,(.s 0 (0+a0_o*1) a0_n 1)),(1,(iv a1)),(2,(iv a2)),(3,(.f 1000075 [(.a [(.p 1 0),(iv a3.2)])])),(9,(iv v2)),(10,(iv v3))],[(.live true true v1c),(.live false false [(.s 2 0 a3.1.1.length 10),(iv a3.1.2.1),(.s 0 0 v1n 1),(.s 3 0 a3.1.2.2.2.length 8)]),(.live false true (flat dI a3.1.1)),(.live false true (flat bZ a3.1.2.2.2))]⟩
def bN (a0:List Int)(a0_o:Nat)(a0_n:Nat)(a1:Int)(a2:Int)(a3:eK×Int):List Int×Int×Int->(List Int×Int×Int)⊕(Bool×List Int)
 | (v1,v2,v3) =>
  (bif (decide ((v3:Int) < 5)) then
   (aH (bC a0 a0_o a0_n a1 a2 a3) (tN (a2 - v2)+1) (v1,v2,v3))
  else
   (.inr (false,v1)))
theorem mH (a0:List Int)(a0_o:Nat)(a0_n:Nat)(a1:Int)(a2:Int)(a3:eK×Int)(l0:a0.length<=2^63-1)(l3_1_1:a3.1.1.length<=2^63-1)(l3_1_2_2_1:a3.1.2.2.1.length<=2^63-1)(l3_1_2_2_2:a3.1.2.2.2.length<=2^63-1)(hw:a0_o+a0_n<=a0.length/\a0.length<=1048576)(hr:InR a3.1.1.length a0)(hab:0<=a1/\a1 < a2/\a2<=↑a0_n) {cx:Cx} (hcx:cx.base=4)
 (n0:Nat) (g0:∀(v1:List Int) (v2 v3:Int),(v1.length=a0.length)/\(InR a3.1.1.length v1)/\(a1 < v2)/\(v2<=a2)/\(0<=v3)/\(v3<=5)->tN (5 - v3) < n0->Aw.Good Tryz.prog none 9 (bodyPost Tryz.prog Tryz.f114 (RR cx (.v (.bool (aH (bN a0 a0_o a0_n a1 a2 a3) n0 (v1,v2,v3)).1)) [] [(.live true true (flat c3 (aH (bN a0 a0_o a0_n a1 a2 a3) n0 (v1,v2,v3)).2)),.un,.un,.un])) cx [] (.l eN n0::eO) (dU a0 a0_o a0_n a1 a2 a3 (flat c3 v1) v1.length v2 v3)):∀(n:Nat) (v11:List Int) (v12 v13 v14:Int),(v11.length=a0.length)/\(InR a3.1.1.length v11)/\(a1 < v12)/\(v12 < a2)/\(0<=v13)/\(v13 < 5)/\(a1 < v14)/\(v14<=a2)/\((v11.length=a0.length))/\((InR a3.1.1.length v11))/\((a1 < v12))/\((v12<=a2))/\((0<=v13))/\((v13<=5))/\(tN (5 - v13) < n0+1)->tN (a2 - v14) < n->Aw.Good Tryz.prog none 9 (bodyPost Tryz.prog Tryz.f114 (RR cx (.v (.bool (aZ (bN a0 a0_o a0_n a1 a2 a3) n0 (aH (cA a0 a0_o a0_n a1 a2 a3) n (v11,v12,v13,v14))).1)) [] [(.live true true (flat c3 (aZ (bN a0 a0_o a0_n a1 a2 a3) n0 (aH (cA a0 a0_o a0_n a1 a2 a3) n (v11,v12,v13,v14))).2)),.un,.un,.un])) cx [] (.l iP n::iQ n0) (iD a0 a0_o a0_n a1 a2 a3 (flat c3 v11) v11.length v12 v13 v14):=by
 intro n
 induction n with
 | zero=>intro v11 v12 v13 v14 hi hn;exact absurd hn (eL _)
 | succ n ih =>
  intro v11 v12 v13 v14 hi hn
  refine aS ?_
  have hw_0:W (v12 - 1)=v12 - 1:=(aR (n:=v12 - 1) (by omega) (by omega)).trans (by omega)
  have hw_1:W (v12+1)=v12+1:=(aR (n:=v12+1) (by omega) (by omega)).trans (by omega)
  have hw_2:W (v13+1)=v13+1:=(aR (n:=v13+1) (by omega) (by omega)).trans (by omega)
  have hw_3:W (a2 - a1)=a2 - a1:=(aR (n:=a2 - a1) (by omega) (by omega)).trans (by omega)
  have hw_4:W (v12 - a1)=v12 - a1:=(aR (n:=v12 - a1) (by omega) (by omega)).trans (by omega)
  have hw_5:W (a2 - v12)=a2 - v12:=(aR (n:=a2 - v12) (by omega) (by omega)).trans (by omega)
  have hw_6:W (v14 - 1)=v14 - 1:=(aR (n:=v14 - 1) (by omega) (by omega)).trans (by omega)
  have hw_7:W (v14+1)=v14+1:=(aR (n:=v14+1) (by omega) (by omega)).trans (by omega)
  cases h0:(decide ((v14:Int) < a2)) with
  | true =>
   have q0:=cN h0
   let t1:List (St Tryz.prog):=[.d h0,.i v14 a0_n,cM aF v11 a0_o v14 0 1,.i (W (v14 - 1)) a0_n,cM aF v11 a0_o (W (v14 - 1)) 0 1,.c [1,2,0,3] (C75 ((a3.1.1,a3.1.2.1,(v11,a3.1.2.2.2)),a3.2) (v11.getD (a0_o+tN v14) dF) (v11.getD (a0_o+tN (W (v14 - 1))) dF) (by omega) (by(try simp only [Lt]);omega) (by omega) (hi.2.1.at (by omega)) (hi.2.1.at (by omega)))]
   cases h1:(!(decide (((oY ((a3.1.1,a3.1.2.1,(v11,a3.1.2.2.2)),a3.2) (v11.getD (a0_o+tN v14) dF) (v11.getD (a0_o+tN (W (v14 - 1))) dF)):Int) < 0))) with
   | true =>
    have e:=Eq.refl (cA a0 a0_o a0_n a1 a2 a3 (v11,v12,v13,v14));conv at e=>rhs;simp only [cA,h0,h1,aW]
    rw [aK,e]
    refine ba (t1++[.d h1]) [] [0,1,2,3,9,10] [] hcx (m:=n0) eN (eO) (dU a0 a0_o a0_n a1 a2 a3 (flat c3 v11) (v11.length) v12 (W (v13+1))) (by kernel_rfl) ?_
    have z0:(W (v13+1))=(v13+1):=aR (by omega) (by omega)
    rw [z0]
    exact g0 v11 v12 (v13+1) (by and_intros<;>(try simp only [Lt])<;>first | omega | assumption | exact hi.2.1 | exact hi.2.2.1 | exact InR.swap hi.2.1 (by omega) (by omega) | exact InR.swap hr (by omega) (by omega)) (by omega)
   | false =>
    have e:=Eq.refl (cA a0 a0_o a0_n a1 a2 a3 (v11,v12,v13,v14));conv at e=>rhs;simp only [cA,h0,h1,aW]
    rw [aI e]
    refine ba (t1++[.d h1,.i (W (v14 - 1)) a0_n,cM aF v11 a0_o (W (v14 - 1)) 0 1,.i v14 a0_n,cM aF v11 a0_o v14 0 1,.i v14 a0_n,.p (show((0+a0_o*1+tN v14*1)+1<=(flat c3 v11).length) from(aX aF (by first | omega | (simp only [Lt];omega)) (o:=0) (Nb rfl))),.i (W (v14 - 1)) a0_n,.p (show((0+a0_o*1+tN (W (v14 - 1))*1)+1<=(splice (flat c3 v11) (0+a0_o*1+tN v14*1) [(iv (v11.getD (a0_o+tN (W (v14 - 1))) dF))]).length) from(by rw [show(splice (flat c3 v11) (0+a0_o*1+tN v14*1) [(iv (v11.getD (a0_o+tN (W (v14 - 1))) dF))])=flat c3 (v11.set (a0_o+tN v14) (v11.getD (a0_o+tN (W (v14 - 1))) dF)) from(aP aF (by first | omega | (simp only [Lt];omega)) (o:=0) (d:=dF) (Nb rfl) rfl)];exact aX aF (by first | omega | (simp only [Lt];omega)) (o:=0) (Nb rfl)))]) [] [0,1,2,3,9,10,12] [] hcx (m:=n) iP (iQ n0) (iD a0 a0_o a0_n a1 a2 a3 (splice (splice (flat c3 v11) (0+a0_o*1+tN v14*1) [(iv (v11.getD (a0_o+tN (W (v14 - 1))) dF))]) (0+a0_o*1+tN (W (v14 - 1))*1) [(iv (v11.getD (a0_o+tN v14) dF))]) (v11.length) v12 v13 (W (v14+1))) (by kernel_rfl) ?_
    have z0:(W (v14+1))=(v14+1):=aR (by omega) (by omega)
    have z1:(splice (splice (flat c3 v11) (0+a0_o*1+tN v14*1) [(iv (v11.getD (a0_o+tN (W (v14 - 1))) dF))]) (0+a0_o*1+tN (W (v14 - 1))*1) [(iv (v11.getD (a0_o+tN v14) dF))])=flat c3 ((v11.set (a0_o+tN v14) (v11.getD (a0_o+tN (W (v14 - 1))) dF)).set (a0_o+tN (W (v14 - 1))) (v11.getD (a0_o+tN v14) dF)):=(by rw [show(splice (flat c3 v11) (0+a0_o*1+tN v14*1) [(iv (v11.getD (a0_o+tN (W (v14 - 1))) dF))])=flat c3 (v11.set (a0_o+tN v14) (v11.getD (a0_o+tN (W (v14 - 1))) dF)) from(aP aF (by first | omega | (simp only [Lt];omega)) (o:=0) (d:=dF) (Nb rfl) rfl)];exact aP aF (by first | omega | (simp only [Lt];omega)) (o:=0) (d:=dF) (Nb rfl) rfl)
    have z2:v11.length=((v11.set (a0_o+tN v14) (v11.getD (a0_o+tN (W (v14 - 1))) dF)).set (a0_o+tN (W (v14 - 1))) (v11.getD (a0_o+tN v14) dF)).length:=by simp
    rw [z0,z1,z2]
    exact ih ((v11.set (a0_o+tN v14) (v11.getD (a0_o+tN (W (v14 - 1))) dF)).set (a0_o+tN (W (v14 - 1))) (v11.getD (a0_o+tN v14) dF)) v12 v13 (v14+1) (by and_intros<;>(try simp only [Lt])<;>first | omega | assumption | exact hi.2.1 | exact hi.2.2.1 | exact InR.swap hi.2.1 (by omega) (by omega) | exact InR.swap hr (by omega) (by omega)) (by omega)
  | false =>
   have q0:=cY h0
   have e:=Eq.refl (cA a0 a0_o a0_n a1 a2 a3 (v11,v12,v13,v14));conv at e=>rhs;simp only [cA,h0,aW]
   rw [aK,e]
   refine ba [.d h0] [] [0,1,2,3,9,10] [] hcx (m:=n0) eN (eO) (dU a0 a0_o a0_n a1 a2 a3 (flat c3 v11) (v11.length) v12 (W (v13+1))) (by kernel_rfl) ?_
   have z0:(W (v13+1))=(v13+1):=aR (by omega) (by omega)
   rw [z0]
   exact g0 v11 v12 (v13+1) (by and_intros<;>(try simp only [Lt])<;>first | omega | assumption | exact hi.2.1 | exact hi.2.2.1 | exact InR.swap hi.2.1 (by omega) (by omega) | exact InR.swap hr (by omega) (by omega)) (by omega)
theorem vH (a0:List Int)(a0_o:Nat)(a0_n:Nat)(a1:Int)(a2:Int)(a3:eK×Int)(l0:a0.length<=2^63-1)(l3_1_1:a3.1.1.length<=2^63-1)(l3_1_2_2_1:a3.1.2.2.1.length<=2^63-1)(l3_1_2_2_2:a3.1.2.2.2.length<=2^63-1)(hw:a0_o+a0_n<=a0.length/\a0.length<=1048576)(hr:InR a3.1.1.length a0)(hab:0<=a1/\a1 < a2/\a2<=↑a0_n) {cx:Cx} (hcx:cx.base=4)
 (n0:Nat) (g0:∀(v1:List Int) (v2 v3:Int),(v1.length=a0.length)/\(InR a3.1.1.length v1)/\(a1 < v2)/\(v2<=a2)/\(0<=v3)/\(v3<=5)->tN (5 - v3) < n0->Aw.Good Tryz.prog none 9 (bodyPost Tryz.prog Tryz.f114 (RR cx (.v (.bool (aH (bN a0 a0_o a0_n a1 a2 a3) n0 (v1,v2,v3)).1)) [] [(.live true true (flat c3 (aH (bN a0 a0_o a0_n a1 a2 a3) n0 (v1,v2,v3)).2)),.un,.un,.un])) cx [] (.l eN n0::eO) (dU a0 a0_o a0_n a1 a2 a3 (flat c3 v1) v1.length v2 v3)):∀(n:Nat) (v7:List Int) (v8 v9 v10:Int),(v7.length=a0.length)/\(InR a3.1.1.length v7)/\(a1 < v8)/\(v8 < a2)/\(0<=v9)/\(v9 < 5)/\(0<=v10)/\(v10 < v8)/\((v7.length=a0.length))/\((InR a3.1.1.length v7))/\((a1 < v8))/\((v8<=a2))/\((0<=v9))/\((v9<=5))/\(tN (5 - v9) < n0+1)->tN v10 < n->Aw.Good Tryz.prog none 9 (bodyPost Tryz.prog Tryz.f114 (RR cx (.v (.bool (aZ (bN a0 a0_o a0_n a1 a2 a3) n0 (aH (cB a0 a0_o a0_n a1 a2 a3) n (v7,v8,v9,v10))).1)) [] [(.live true true (flat c3 (aZ (bN a0 a0_o a0_n a1 a2 a3) n0 (aH (cB a0 a0_o a0_n a1 a2 a3) n (v7,v8,v9,v10))).2)),.un,.un,.un])) cx [] (.l mF n::mG n0) (lG a0 a0_o a0_n a1 a2 a3 (flat c3 v7) v7.length v8 v9 v10):=by
 intro n
 induction n with
 | zero=>intro v7 v8 v9 v10 hi hn;exact absurd hn (eL _)
 | succ n ih =>
  intro v7 v8 v9 v10 hi hn
  refine aS ?_
  have hw_0:W (v8 - 1)=v8 - 1:=(aR (n:=v8 - 1) (by omega) (by omega)).trans (by omega)
  have hw_1:W (v8+1)=v8+1:=(aR (n:=v8+1) (by omega) (by omega)).trans (by omega)
  have hw_2:W (v9+1)=v9+1:=(aR (n:=v9+1) (by omega) (by omega)).trans (by omega)
  have hw_3:W (a2 - a1)=a2 - a1:=(aR (n:=a2 - a1) (by omega) (by omega)).trans (by omega)
  have hw_4:W (v8 - a1)=v8 - a1:=(aR (n:=v8 - a1) (by omega) (by omega)).trans (by omega)
  have hw_5:W (a2 - v8)=a2 - v8:=(aR (n:=a2 - v8) (by omega) (by omega)).trans (by omega)
  have hw_6:W (v10 - 1)=v10 - 1:=(aR (n:=v10 - 1) (by omega) (by omega)).trans (by omega)
  cases h0:(decide ((v10:Int)≥1)) with
  | true =>
   have q0:=cN h0
   let t1:List (St Tryz.prog):=[.d h0,.i v10 a0_n,cM aF v7 a0_o v10 0 1,.i (W (v10 - 1)) a0_n,cM aF v7 a0_o (W (v10 - 1)) 0 1,.c [1,2,0,3] (C75 ((a3.1.1,a3.1.2.1,(v7,a3.1.2.2.2)),a3.2) (v7.getD (a0_o+tN v10) dF) (v7.getD (a0_o+tN (W (v10 - 1))) dF) (by omega) (by(try simp only [Lt]);omega) (by omega) (hi.2.1.at (by omega)) (hi.2.1.at (by omega)))]
   cases h1:(!(decide (((oY ((a3.1.1,a3.1.2.1,(v7,a3.1.2.2.2)),a3.2) (v7.getD (a0_o+tN v10) dF) (v7.getD (a0_o+tN (W (v10 - 1))) dF)):Int) < 0))) with
   | true =>
    let t2:List (St Tryz.prog):=(t1++[.d h1])
    cases h2:(decide (((W (a2 - v8)):Int)≥2)) with
    | true =>
     have q2:=cN h2
     have e:=Eq.refl (cB a0 a0_o a0_n a1 a2 a3 (v7,v8,v9,v10));conv at e=>rhs;simp only [cB,h0,h1,h2,aW]
     rw [aK,e]
     refine en (t2++[.d h2]) [] [0,1,2,3,9,10,12] [] hcx iP (iQ n0) (iD a0 a0_o a0_n a1 a2 a3 (flat c3 v7) (v7.length) v8 v9 (W (v8+1))) (tN (a2 - (v8+1))+1) (by kernel_rfl) ?_
     have z0:(W (v8+1))=(v8+1):=aR (by omega) (by omega)
     rw [z0]
     exact mH a0 a0_o a0_n a1 a2 a3 l0 l3_1_1 l3_1_2_2_1 l3_1_2_2_2 hw hr hab hcx n0 g0 (tN (a2 - (v8+1))+1) v7 v8 v9 (v8+1) (by and_intros<;>(try simp only [Lt])<;>first | omega | assumption | exact hi.2.1 | exact hi.2.2.1 | exact InR.swap hi.2.1 (by omega) (by omega) | exact InR.swap hr (by omega) (by omega)) (by omega)
    | false =>
     have q2:=cY h2
     have e:=Eq.refl (cB a0 a0_o a0_n a1 a2 a3 (v7,v8,v9,v10));conv at e=>rhs;simp only [cB,h0,h1,h2,aW]
     rw [aK,e]
     refine ba (t2++[.d h2]) [] [0,1,2,3,9,10] [] hcx (m:=n0) eN (eO) (dU a0 a0_o a0_n a1 a2 a3 (flat c3 v7) (v7.length) v8 (W (v9+1))) (by kernel_rfl) ?_
     have z0:(W (v9+1))=(v9+1):=aR (by omega) (by omega)
     rw [z0]
     exact g0 v7 v8 (v9+1) (by and_intros<;>(try simp only [Lt])<;>first | omega | assumption | exact hi.2.1 | exact hi.2.2.1 | exact InR.swap hi.2.1 (by omega) (by omega) | exact InR.swap hr (by omega) (by omega)) (by omega)
   | false =>
    have e:=Eq.refl (cB a0 a0_o a0_n a1 a2 a3 (v7,v8,v9,v10));conv at e=>rhs;simp only [cB,h0,h1,aW]
    rw [aI e]
    refine ba (t1++[.d h1,.i (W (v10 - 1)) a0_n,cM aF v7 a0_o (W (v10 - 1)) 0 1,.i v10 a0_n,cM aF v7 a0_o v10 0 1,.i v10 a0_n,.p (show((0+a0_o*1+tN v10*1)+1<=(flat c3 v7).length) from(aX aF (by first | omega | (simp only [Lt];omega)) (o:=0) (Nb rfl))),.i (W (v10 - 1)) a0_n,.p (show((0+a0_o*1+tN (W (v10 - 1))*1)+1<=(splice (flat c3 v7) (0+a0_o*1+tN v10*1) [(iv (v7.getD (a0_o+tN (W (v10 - 1))) dF))]).length) from(by rw [show(splice (flat c3 v7) (0+a0_o*1+tN v10*1) [(iv (v7.getD (a0_o+tN (W (v10 - 1))) dF))])=flat c3 (v7.set (a0_o+tN v10) (v7.getD (a0_o+tN (W (v10 - 1))) dF)) from(aP aF (by first | omega | (simp only [Lt];omega)) (o:=0) (d:=dF) (Nb rfl) rfl)];exact aX aF (by first | omega | (simp only [Lt];omega)) (o:=0) (Nb rfl)))]) [] [0,1,2,3,9,10,11] [] hcx (m:=n) mF (mG n0) (lG a0 a0_o a0_n a1 a2 a3 (splice (splice (flat c3 v7) (0+a0_o*1+tN v10*1) [(iv (v7.getD (a0_o+tN (W (v10 - 1))) dF))]) (0+a0_o*1+tN (W (v10 - 1))*1) [(iv (v7.getD (a0_o+tN v10) dF))]) (v7.length) v8 v9 (W (v10 - 1))) (by kernel_rfl) ?_
    have z0:(splice (splice (flat c3 v7) (0+a0_o*1+tN v10*1) [(iv (v7.getD (a0_o+tN (W (v10 - 1))) dF))]) (0+a0_o*1+tN (W (v10 - 1))*1) [(iv (v7.getD (a0_o+tN v10) dF))])=flat c3 ((v7.set (a0_o+tN v10) (v7.getD (a0_o+tN (W (v10 - 1))) dF)).set (a0_o+tN (W (v10 - 1))) (v7.getD (a0_o+tN v10) dF)):=(by rw [show(splice (flat c3 v7) (0+a0_o*1+tN v10*1) [(iv (v7.getD (a0_o+tN (W (v10 - 1))) dF))])=flat c3 (v7.set (a0_o+tN v10) (v7.getD (a0_o+tN (W (v10 - 1))) dF)) from(aP aF (by first | omega | (simp only [Lt];omega)) (o:=0) (d:=dF) (Nb rfl) rfl)];exact aP aF (by first | omega | (simp only [Lt];omega)) (o:=0) (d:=dF) (Nb rfl) rfl)
    have z1:v7.length=((v7.set (a0_o+tN v10) (v7.getD (a0_o+tN (W (v10 - 1))) dF)).set (a0_o+tN (W (v10 - 1))) (v7.getD (a0_o+tN v10) dF)).length:=by simp
    rw [z0,z1]
    exact ih ((v7.set (a0_o+tN v10) (v7.getD (a0_o+tN (W (v10 - 1))) dF)).set (a0_o+tN (W (v10 - 1))) (v7.getD (a0_o+tN v10) dF)) v8 v9 (W (v10 - 1)) (by and_intros<;>(try simp only [Lt])<;>first | omega | assumption | exact hi.2.1 | exact hi.2.2.1 | exact InR.swap hi.2.1 (by omega) (by omega) | exact InR.swap hr (by omega) (by omega)) (by omega)
  | false =>
   have q0:=cY h0
   let t1:List (St Tryz.prog):=[.d h0]
   cases h1:(decide (((W (a2 - v8)):Int)≥2)) with
   | true =>
    have q1:=cN h1
    have e:=Eq.refl (cB a0 a0_o a0_n a1 a2 a3 (v7,v8,v9,v10));conv at e=>rhs;simp only [cB,h0,h1,aW]
    rw [aK,e]
    refine en (t1++[.d h1]) [] [0,1,2,3,9,10,12] [] hcx iP (iQ n0) (iD a0 a0_o a0_n a1 a2 a3 (flat c3 v7) (v7.length) v8 v9 (W (v8+1))) (tN (a2 - (v8+1))+1) (by kernel_rfl) ?_
    have z0:(W (v8+1))=(v8+1):=aR (by omega) (by omega)
    rw [z0]
    exact mH a0 a0_o a0_n a1 a2 a3 l0 l3_1_1 l3_1_2_2_1 l3_1_2_2_2 hw hr hab hcx n0 g0 (tN (a2 - (v8+1))+1) v7 v8 v9 (v8+1) (by and_intros<;>(try simp only [Lt])<;>first | omega | assumption | exact hi.2.1 | exact hi.2.2.1 | exact InR.swap hi.2.1 (by omega) (by omega) | exact InR.swap hr (by omega) (by omega)) (by omega)
   | false =>
    have q1:=cY h1
    have e:=Eq.refl (cB a0 a0_o a0_n a1 a2 a3 (v7,v8,v9,v10));conv at e=>rhs;simp only [cB,h0,h1,aW]
    rw [aK,e]
    refine ba (t1++[.d h1]) [] [0,1,2,3,9,10] [] hcx (m:=n0) eN (eO) (dU a0 a0_o a0_n a1 a2 a3 (flat c3 v7) (v7.length) v8 (W (v9+1))) (by kernel_rfl) ?_
    have z0:(W (v9+1))=(v9+1):=aR (by omega) (by omega)
    rw [z0]
    exact g0 v7 v8 (v9+1) (by and_intros<;>(try simp only [Lt])<;>first | omega | assumption | exact hi.2.1 | exact hi.2.2.1 | exact InR.swap hi.2.1 (by omega) (by omega) | exact InR.swap hr (by omega) (by omega)) (by omega)
theorem aEc (a0:List Int)(a0_o:Nat)(a0_n:Nat)(a1:Int)(a2:Int)(a3:eK×Int)(l0:a0.length<=2^63-1)(l3_1_1:a3.1.1.length<=2^63-1)(l3_1_2_2_1:a3.1.2.2.1.length<=2^63-1)(l3_1_2_2_2:a3.1.2.2.2.length<=2^63-1)(hw:a0_o+a0_n<=a0.length/\a0.length<=1048576)(hr:InR a3.1.1.length a0)(hab:0<=a1/\a1 < a2/\a2<=↑a0_n) {cx:Cx} (hcx:cx.base=4)
 (n0:Nat) (g0:∀(v1:List Int) (v2 v3:Int),(v1.length=a0.length)/\(InR a3.1.1.length v1)/\(a1 < v2)/\(v2<=a2)/\(0<=v3)/\(v3<=5)->tN (5 - v3) < n0->Aw.Good Tryz.prog none 9 (bodyPost Tryz.prog Tryz.f114 (RR cx (.v (.bool (aH (bN a0 a0_o a0_n a1 a2 a3) n0 (v1,v2,v3)).1)) [] [(.live true true (flat c3 (aH (bN a0 a0_o a0_n a1 a2 a3) n0 (v1,v2,v3)).2)),.un,.un,.un])) cx [] (.l eN n0::eO) (dU a0 a0_o a0_n a1 a2 a3 (flat c3 v1) v1.length v2 v3)):∀(n:Nat) (v4:List Int) (v5 v6:Int),(v4.length=a0.length)/\(InR a3.1.1.length v4)/\(a1 < v5)/\(v5<=a2)/\(0<=v6)/\(v6 < 5)/\((v4.length=a0.length))/\((InR a3.1.1.length v4))/\((a1 < v5))/\((v5<=a2))/\((0<=v6))/\((v6<=5))/\(tN (5 - v6) < n0+1)->tN (a2 - v5) < n->Aw.Good Tryz.prog none 9 (bodyPost Tryz.prog Tryz.f114 (RR cx (.v (.bool (aZ (bN a0 a0_o a0_n a1 a2 a3) n0 (aH (bC a0 a0_o a0_n a1 a2 a3) n (v4,v5,v6))).1)) [] [(.live true true (flat c3 (aZ (bN a0 a0_o a0_n a1 a2 a3) n0 (aH (bC a0 a0_o a0_n a1 a2 a3) n (v4,v5,v6))).2)),.un,.un,.un])) cx [] (.l qD n::qE n0) (oE a0 a0_o a0_n a1 a2 a3 (flat c3 v4) v4.length v5 v6):=by
 intro n
 induction n with
 | zero=>intro v4 v5 v6 hi hn;exact absurd hn (eL _)
 | succ n ih =>
  intro v4 v5 v6 hi hn
  refine aS ?_
  have hw_0:W (v5 - 1)=v5 - 1:=(aR (n:=v5 - 1) (by omega) (by omega)).trans (by omega)
  have hw_1:W (v5+1)=v5+1:=(aR (n:=v5+1) (by omega) (by omega)).trans (by omega)
  have hw_2:W (v6+1)=v6+1:=(aR (n:=v6+1) (by omega) (by omega)).trans (by omega)
  have hw_3:W (a2 - a1)=a2 - a1:=(aR (n:=a2 - a1) (by omega) (by omega)).trans (by omega)
  have hw_4:W (v5 - a1)=v5 - a1:=(aR (n:=v5 - a1) (by omega) (by omega)).trans (by omega)
  have hw_5:W (a2 - v5)=a2 - v5:=(aR (n:=a2 - v5) (by omega) (by omega)).trans (by omega)
  cases h0:(decide ((v5:Int) < a2)) with
  | true =>
   have q0:=cN h0
   let t1:List (St Tryz.prog):=[.d h0,.i v5 a0_n,cM aF v4 a0_o v5 0 1,.i (W (v5 - 1)) a0_n,cM aF v4 a0_o (W (v5 - 1)) 0 1,.c [1,2,0,3] (C75 ((a3.1.1,a3.1.2.1,(v4,a3.1.2.2.2)),a3.2) (v4.getD (a0_o+tN v5) dF) (v4.getD (a0_o+tN (W (v5 - 1))) dF) (by omega) (by(try simp only [Lt]);omega) (by omega) (hi.2.1.at (by omega)) (hi.2.1.at (by omega)))]
   cases h1:(!(decide (((oY ((a3.1.1,a3.1.2.1,(v4,a3.1.2.2.2)),a3.2) (v4.getD (a0_o+tN v5) dF) (v4.getD (a0_o+tN (W (v5 - 1))) dF)):Int) < 0))) with
   | true =>
    have e:=Eq.refl (bC a0 a0_o a0_n a1 a2 a3 (v4,v5,v6));conv at e=>rhs;simp only [bC,h0,h1,aW]
    rw [aI e]
    refine ba (t1++[.d h1]) [] [0,1,2,3,9,10] [] hcx (m:=n) qD (qE n0) (oE a0 a0_o a0_n a1 a2 a3 (flat c3 v4) (v4.length) (W (v5+1)) v6) (by kernel_rfl) ?_
    have z0:(W (v5+1))=(v5+1):=aR (by omega) (by omega)
    rw [z0]
    exact ih v4 (v5+1) v6 (by and_intros<;>(try simp only [Lt])<;>first | omega | assumption | exact hi.2.1 | exact hi.2.2.1 | exact InR.swap hi.2.1 (by omega) (by omega) | exact InR.swap hr (by omega) (by omega)) (by omega)
   | false =>
    let t2:List (St Tryz.prog):=(t1++[.d h1])
    cases h2:((v5:Int) == a2) with
    | true =>
     have q2:=eq_of_beq h2
     have e:=Eq.refl (bC a0 a0_o a0_n a1 a2 a3 (v4,v5,v6));conv at e=>rhs;simp only [bC,h0,h1,h2,aW]
     rw [aK,e]
     try dsimp only [aZ]
     try dsimp only
     exact wG (t2++[.d h2]) [] [0] [] hcx (by kernel_rfl)
    | false =>
     have q2:=ne_of_beq_false h2
     let t3:List (St Tryz.prog):=(t2++[.d h2])
     cases h3:(decide (((W (a2 - a1)):Int) < 50)) with
     | true =>
      have q3:=cN h3
      have e:=Eq.refl (bC a0 a0_o a0_n a1 a2 a3 (v4,v5,v6));conv at e=>rhs;simp only [bC,h0,h1,h2,h3,aW]
      rw [aK,e]
      try dsimp only [aZ]
      try dsimp only
      exact wG (t3++[.d h3]) [] [0] [] hcx (by kernel_rfl)
     | false =>
      have q3:=cY h3
      let t4:List (St Tryz.prog):=(t3++[.d h3,.i (W (v5 - 1)) a0_n,cM aF v4 a0_o (W (v5 - 1)) 0 1,.i v5 a0_n,cM aF v4 a0_o v5 0 1,.i v5 a0_n,.p (show((0+a0_o*1+tN v5*1)+1<=(flat c3 v4).length) from(aX aF (by first | omega | (simp only [Lt];omega)) (o:=0) (Nb rfl))),.i (W (v5 - 1)) a0_n,.p (show((0+a0_o*1+tN (W (v5 - 1))*1)+1<=(splice (flat c3 v4) (0+a0_o*1+tN v5*1) [(iv (v4.getD (a0_o+tN (W (v5 - 1))) dF))]).length) from(by rw [show(splice (flat c3 v4) (0+a0_o*1+tN v5*1) [(iv (v4.getD (a0_o+tN (W (v5 - 1))) dF))])=flat c3 (v4.set (a0_o+tN v5) (v4.getD (a0_o+tN (W (v5 - 1))) dF)) from(aP aF (by first | omega | (simp only [Lt];omega)) (o:=0) (d:=dF) (Nb rfl) rfl)];exact aX aF (by first | omega | (simp only [Lt];omega)) (o:=0) (Nb rfl)))])
      cases h4:(decide (((W (v5 - a1)):Int)≥2)) with
      | true =>
       have q4:=cN h4
       have e:=Eq.refl (bC a0 a0_o a0_n a1 a2 a3 (v4,v5,v6));conv at e=>rhs;simp only [bC,h0,h1,h2,h3,h4,aW]
       rw [aK,e]
       refine en (t4++[.d h4]) [] [0,1,2,3,9,10,11] [] hcx mF (mG n0) (lG a0 a0_o a0_n a1 a2 a3 (splice (splice (flat c3 v4) (0+a0_o*1+tN v5*1) [(iv (v4.getD (a0_o+tN (W (v5 - 1))) dF))]) (0+a0_o*1+tN (W (v5 - 1))*1) [(iv (v4.getD (a0_o+tN v5) dF))]) (v4.length) v5 v6 (W (v5 - 1))) (tN (W (v5 - 1))+1) (by kernel_rfl) ?_
       have z0:(splice (splice (flat c3 v4) (0+a0_o*1+tN v5*1) [(iv (v4.getD (a0_o+tN (W (v5 - 1))) dF))]) (0+a0_o*1+tN (W (v5 - 1))*1) [(iv (v4.getD (a0_o+tN v5) dF))])=flat c3 ((v4.set (a0_o+tN v5) (v4.getD (a0_o+tN (W (v5 - 1))) dF)).set (a0_o+tN (W (v5 - 1))) (v4.getD (a0_o+tN v5) dF)):=(by rw [show(splice (flat c3 v4) (0+a0_o*1+tN v5*1) [(iv (v4.getD (a0_o+tN (W (v5 - 1))) dF))])=flat c3 (v4.set (a0_o+tN v5) (v4.getD (a0_o+tN (W (v5 - 1))) dF)) from(aP aF (by first | omega | (simp only [Lt];omega)) (o:=0) (d:=dF) (Nb rfl) rfl)];exact aP aF (by first | omega | (simp only [Lt];omega)) (o:=0) (d:=dF) (Nb rfl) rfl)
       have z1:v4.length=((v4.set (a0_o+tN v5) (v4.getD (a0_o+tN (W (v5 - 1))) dF)).set (a0_o+tN (W (v5 - 1))) (v4.getD (a0_o+tN v5) dF)).length:=by simp
       rw [z0,z1]
       exact vH a0 a0_o a0_n a1 a2 a3 l0 l3_1_1 l3_1_2_2_1 l3_1_2_2_2 hw hr hab hcx n0 g0 (tN (W (v5 - 1))+1) ((v4.set (a0_o+tN v5) (v4.getD (a0_o+tN (W (v5 - 1))) dF)).set (a0_o+tN (W (v5 - 1))) (v4.getD (a0_o+tN v5) dF)) v5 v6 (W (v5 - 1)) (by and_intros<;>(try simp only [Lt])<;>first | omega | assumption | exact hi.2.1 | exact hi.2.2.1 | exact InR.swap hi.2.1 (by omega) (by omega) | exact InR.swap hr (by omega) (by omega)) (by omega)
      | false =>
       have q4:=cY h4
       let t5:List (St Tryz.prog):=(t4++[.d h4])
       cases h5:(decide (((W (a2 - v5)):Int)≥2)) with
       | true =>
        have q5:=cN h5
        have e:=Eq.refl (bC a0 a0_o a0_n a1 a2 a3 (v4,v5,v6));conv at e=>rhs;simp only [bC,h0,h1,h2,h3,h4,h5,aW]
        rw [aK,e]
        refine en (t5++[.d h5]) [] [0,1,2,3,9,10,12] [] hcx iP (iQ n0) (iD a0 a0_o a0_n a1 a2 a3 (splice (splice (flat c3 v4) (0+a0_o*1+tN v5*1) [(iv (v4.getD (a0_o+tN (W (v5 - 1))) dF))]) (0+a0_o*1+tN (W (v5 - 1))*1) [(iv (v4.getD (a0_o+tN v5) dF))]) (v4.length) v5 v6 (W (v5+1))) (tN (a2 - (v5+1))+1) (by kernel_rfl) ?_
        have z0:(W (v5+1))=(v5+1):=aR (by omega) (by omega)
        have z1:(splice (splice (flat c3 v4) (0+a0_o*1+tN v5*1) [(iv (v4.getD (a0_o+tN (W (v5 - 1))) dF))]) (0+a0_o*1+tN (W (v5 - 1))*1) [(iv (v4.getD (a0_o+tN v5) dF))])=flat c3 ((v4.set (a0_o+tN v5) (v4.getD (a0_o+tN (W (v5 - 1))) dF)).set (a0_o+tN (W (v5 - 1))) (v4.getD (a0_o+tN v5) dF)):=(by rw [show(splice (flat c3 v4) (0+a0_o*1+tN v5*1) [(iv (v4.getD (a0_o+tN (W (v5 - 1))) dF))])=flat c3 (v4.set (a0_o+tN v5) (v4.getD (a0_o+tN (W (v5 - 1))) dF)) from(aP aF (by first | omega | (simp only [Lt];omega)) (o:=0) (d:=dF) (Nb rfl) rfl)];exact aP aF (by first | omega | (simp only [Lt];omega)) (o:=0) (d:=dF) (Nb rfl) rfl)
        have z2:v4.length=((v4.set (a0_o+tN v5) (v4.getD (a0_o+tN (W (v5 - 1))) dF)).set (a0_o+tN (W (v5 - 1))) (v4.getD (a0_o+tN v5) dF)).length:=by simp
        rw [z0,z1,z2]
        exact mH a0 a0_o a0_n a1 a2 a3 l0 l3_1_1 l3_1_2_2_1 l3_1_2_2_2 hw hr hab hcx n0 g0 (tN (a2 - (v5+1))+1) ((v4.set (a0_o+tN v5) (v4.getD (a0_o+tN (W (v5 - 1))) dF)).set (a0_o+tN (W (v5 - 1))) (v4.getD (a0_o+tN v5) dF)) v5 v6 (v5+1) (by and_intros<;>(try simp only [Lt])<;>first | omega | assumption | exact hi.2.1 | exact hi.2.2.1 | exact InR.swap hi.2.1 (by omega) (by omega) | exact InR.swap hr (by omega) (by omega)) (by omega)
       | false =>
        have q5:=cY h5
        have e:=Eq.refl (bC a0 a0_o a0_n a1 a2 a3 (v4,v5,v6));conv at e=>rhs;simp only [bC,h0,h1,h2,h3,h4,h5,aW]
        rw [aK,e]
        refine ba (t5++[.d h5]) [] [0,1,2,3,9,10] [] hcx (m:=n0) eN (eO) (dU a0 a0_o a0_n a1 a2 a3 (splice (splice (flat c3 v4) (0+a0_o*1+tN v5*1) [(iv (v4.getD (a0_o+tN (W (v5 - 1))) dF))]) (0+a0_o*1+tN (W (v5 - 1))*1) [(iv (v4.getD (a0_o+tN v5) dF))]) (v4.length) v5 (W (v6+1))) (by kernel_rfl) ?_
        have z0:(W (v6+1))=(v6+1):=aR (by omega) (by omega)
        have z1:(splice (splice (flat c3 v4) (0+a0_o*1+tN v5*1) [(iv (v4.getD (a0_o+tN (W (v5 - 1))) dF))]) (0+a0_o*1+tN (W (v5 - 1))*1) [(iv (v4.getD (a0_o+tN v5) dF))])=flat c3 ((v4.set (a0_o+tN v5) (v4.getD (a0_o+tN (W (v5 - 1))) dF)).set (a0_o+tN (W (v5 - 1))) (v4.getD (a0_o+tN v5) dF)):=(by rw [show(splice (flat c3 v4) (0+a0_o*1+tN v5*1) [(iv (v4.getD (a0_o+tN (W (v5 - 1))) dF))])=flat c3 (v4.set (a0_o+tN v5) (v4.getD (a0_o+tN (W (v5 - 1))) dF)) from(aP aF (by first | omega | (simp only [Lt];omega)) (o:=0) (d:=dF) (Nb rfl) rfl)];exact aP aF (by first | omega | (simp only [Lt];omega)) (o:=0) (d:=dF) (Nb rfl) rfl)
        have z2:v4.length=((v4.set (a0_o+tN v5) (v4.getD (a0_o+tN (W (v5 - 1))) dF)).set (a0_o+tN (W (v5 - 1))) (v4.getD (a0_o+tN v5) dF)).length:=by simp
        rw [z0,z1,z2]
        exact g0 ((v4.set (a0_o+tN v5) (v4.getD (a0_o+tN (W (v5 - 1))) dF)).set (a0_o+tN (W (v5 - 1))) (v4.getD (a0_o+tN v5) dF)) v5 (v6+1) (by and_intros<;>(try simp only [Lt])<;>first | omega | assumption | exact hi.2.1 | exact hi.2.2.1 | exact InR.swap hi.2.1 (by omega) (by omega) | exact InR.swap hr (by omega) (by omega)) (by omega)
  | false =>
   have q0:=cY h0
   let t1:List (St Tryz.prog):=[.d h0]
   cases h1:((v5:Int) == a2) with
   | true =>
    have q1:=eq_of_beq h1
    have e:=Eq.refl (bC a0 a0_o a0_n a1 a2 a3 (v4,v5,v6));conv at e=>rhs;simp only [bC,h0,h1,aW]
    rw [aK,e]
    try dsimp only [aZ]
    try dsimp only
    exact wG (t1++[.d h1]) [] [0] [] hcx (by kernel_rfl)
   | false =>
    have q1:=ne_of_beq_false h1
    let t2:List (St Tryz.prog):=(t1++[.d h1])
    cases h2:(decide (((W (a2 - a1)):Int) < 50)) with
    | true =>
     have q2:=cN h2
     have e:=Eq.refl (bC a0 a0_o a0_n a1 a2 a3 (v4,v5,v6));conv at e=>rhs;simp only [bC,h0,h1,h2,aW]
     rw [aK,e]
     try dsimp only [aZ]
     try dsimp only
     exact wG (t2++[.d h2]) [] [0] [] hcx (by kernel_rfl)
    | false =>
     have q2:=cY h2
     let t3:List (St Tryz.prog):=(t2++[.d h2,.i (W (v5 - 1)) a0_n,cM aF v4 a0_o (W (v5 - 1)) 0 1,.i v5 a0_n,cM aF v4 a0_o v5 0 1,.i v5 a0_n,.p (show((0+a0_o*1+tN v5*1)+1<=(flat c3 v4).length) from(aX aF (by first | omega | (simp only [Lt];omega)) (o:=0) (Nb rfl))),.i (W (v5 - 1)) a0_n,.p (show((0+a0_o*1+tN (W (v5 - 1))*1)+1<=(splice (flat c3 v4) (0+a0_o*1+tN v5*1) [(iv (v4.getD (a0_o+tN (W (v5 - 1))) dF))]).length) from(by rw [show(splice (flat c3 v4) (0+a0_o*1+tN v5*1) [(iv (v4.getD (a0_o+tN (W (v5 - 1))) dF))])=flat c3 (v4.set (a0_o+tN v5) (v4.getD (a0_o+tN (W (v5 - 1))) dF)) from(aP aF (by first | omega | (simp only [Lt];omega)) (o:=0) (d:=dF) (Nb rfl) rfl)];exact aX aF (by first | omega | (simp only [Lt];omega)) (o:=0) (Nb rfl)))])
     cases h3:(decide (((W (v5 - a1)):Int)≥2)) with
     | true =>
      have q3:=cN h3
      have e:=Eq.refl (bC a0 a0_o a0_n a1 a2 a3 (v4,v5,v6));conv at e=>rhs;simp only [bC,h0,h1,h2,h3,aW]
      rw [aK,e]
      refine en (t3++[.d h3]) [] [0,1,2,3,9,10,11] [] hcx mF (mG n0) (lG a0 a0_o a0_n a1 a2 a3 (splice (splice (flat c3 v4) (0+a0_o*1+tN v5*1) [(iv (v4.getD (a0_o+tN (W (v5 - 1))) dF))]) (0+a0_o*1+tN (W (v5 - 1))*1) [(iv (v4.getD (a0_o+tN v5) dF))]) (v4.length) v5 v6 (W (v5 - 1))) (tN (W (v5 - 1))+1) (by kernel_rfl) ?_
      have z0:(splice (splice (flat c3 v4) (0+a0_o*1+tN v5*1) [(iv (v4.getD (a0_o+tN (W (v5 - 1))) dF))]) (0+a0_o*1+tN (W (v5 - 1))*1) [(iv (v4.getD (a0_o+tN v5) dF))])=flat c3 ((v4.set (a0_o+tN v5) (v4.getD (a0_o+tN (W (v5 - 1))) dF)).set (a0_o+tN (W (v5 - 1))) (v4.getD (a0_o+tN v5) dF)):=(by rw [show(splice (flat c3 v4) (0+a0_o*1+tN v5*1) [(iv (v4.getD (a0_o+tN (W (v5 - 1))) dF))])=flat c3 (v4.set (a0_o+tN v5) (v4.getD (a0_o+tN (W (v5 - 1))) dF)) from(aP aF (by first | omega | (simp only [Lt];omega)) (o:=0) (d:=dF) (Nb rfl) rfl)];exact aP aF (by first | omega | (simp only [Lt];omega)) (o:=0) (d:=dF) (Nb rfl) rfl)
      have z1:v4.length=((v4.set (a0_o+tN v5) (v4.getD (a0_o+tN (W (v5 - 1))) dF)).set (a0_o+tN (W (v5 - 1))) (v4.getD (a0_o+tN v5) dF)).length:=by simp
      rw [z0,z1]
      exact vH a0 a0_o a0_n a1 a2 a3 l0 l3_1_1 l3_1_2_2_1 l3_1_2_2_2 hw hr hab hcx n0 g0 (tN (W (v5 - 1))+1) ((v4.set (a0_o+tN v5) (v4.getD (a0_o+tN (W (v5 - 1))) dF)).set (a0_o+tN (W (v5 - 1))) (v4.getD (a0_o+tN v5) dF)) v5 v6 (W (v5 - 1)) (by and_intros<;>(try simp only [Lt])<;>first | omega | assumption | exact hi.2.1 | exact hi.2.2.1 | exact InR.swap hi.2.1 (by omega) (by omega) | exact InR.swap hr (by omega) (by omega)) (by omega)
     | false =>
      have q3:=cY h3
      let t4:List (St Tryz.prog):=(t3++[.d h3])
      cases h4:(decide (((W (a2 - v5)):Int)≥2)) with
      | true =>
       have q4:=cN h4
       have e:=Eq.refl (bC a0 a0_o a0_n a1 a2 a3 (v4,v5,v6));conv at e=>rhs;simp only [bC,h0,h1,h2,h3,h4,aW]
       rw [aK,e]
       refine en (t4++[.d h4]) [] [0,1,2,3,9,10,12] [] hcx iP (iQ n0) (iD a0 a0_o a0_n a1 a2 a3 (splice (splice (flat c3 v4) (0+a0_o*1+tN v5*1) [(iv (v4.getD (a0_o+tN (W (v5 - 1))) dF))]) (0+a0_o*1+tN (W (v5 - 1))*1) [(iv (v4.getD (a0_o+tN v5) dF))]) (v4.length) v5 v6 (W (v5+1))) (tN (a2 - (v5+1))+1) (by kernel_rfl) ?_
       have z0:(W (v5+1))=(v5+1):=aR (by omega) (by omega)
       have z1:(splice (splice (flat c3 v4) (0+a0_o*1+tN v5*1) [(iv (v4.getD (a0_o+tN (W (v5 - 1))) dF))]) (0+a0_o*1+tN (W (v5 - 1))*1) [(iv (v4.getD (a0_o+tN v5) dF))])=flat c3 ((v4.set (a0_o+tN v5) (v4.getD (a0_o+tN (W (v5 - 1))) dF)).set (a0_o+tN (W (v5 - 1))) (v4.getD (a0_o+tN v5) dF)):=(by rw [show(splice (flat c3 v4) (0+a0_o*1+tN v5*1) [(iv (v4.getD (a0_o+tN (W (v5 - 1))) dF))])=flat c3 (v4.set (a0_o+tN v5) (v4.getD (a0_o+tN (W (v5 - 1))) dF)) from(aP aF (by first | omega | (simp only [Lt];omega)) (o:=0) (d:=dF) (Nb rfl) rfl)];exact aP aF (by first | omega | (simp only [Lt];omega)) (o:=0) (d:=dF) (Nb rfl) rfl)
       have z2:v4.length=((v4.set (a0_o+tN v5) (v4.getD (a0_o+tN (W (v5 - 1))) dF)).set (a0_o+tN (W (v5 - 1))) (v4.getD (a0_o+tN v5) dF)).length:=by simp
       rw [z0,z1,z2]
       exact mH a0 a0_o a0_n a1 a2 a3 l0 l3_1_1 l3_1_2_2_1 l3_1_2_2_2 hw hr hab hcx n0 g0 (tN (a2 - (v5+1))+1) ((v4.set (a0_o+tN v5) (v4.getD (a0_o+tN (W (v5 - 1))) dF)).set (a0_o+tN (W (v5 - 1))) (v4.getD (a0_o+tN v5) dF)) v5 v6 (v5+1) (by and_intros<;>(try simp only [Lt])<;>first | omega | assumption | exact hi.2.1 | exact hi.2.2.1 | exact InR.swap hi.2.1 (by omega) (by omega) | exact InR.swap hr (by omega) (by omega)) (by omega)
      | false =>
       have q4:=cY h4
       have e:=Eq.refl (bC a0 a0_o a0_n a1 a2 a3 (v4,v5,v6));conv at e=>rhs;simp only [bC,h0,h1,h2,h3,h4,aW]
       rw [aK,e]
       refine ba (t4++[.d h4]) [] [0,1,2,3,9,10] [] hcx (m:=n0) eN (eO) (dU a0 a0_o a0_n a1 a2 a3 (splice (splice (flat c3 v4) (0+a0_o*1+tN v5*1) [(iv (v4.getD (a0_o+tN (W (v5 - 1))) dF))]) (0+a0_o*1+tN (W (v5 - 1))*1) [(iv (v4.getD (a0_o+tN v5) dF))]) (v4.length) v5 (W (v6+1))) (by kernel_rfl) ?_
       have z0:(W (v6+1))=(v6+1):=aR (by omega) (by omega)
       have z1:(splice (splice (flat c3 v4) (0+a0_o*1+tN v5*1) [(iv (v4.getD (a0_o+tN (W (v5 - 1))) dF))]) (0+a0_o*1+tN (W (v5 - 1))*1) [(iv (v4.getD (a0_o+tN v5) dF))])=flat c3 ((v4.set (a0_o+tN v5) (v4.getD (a0_o+tN (W (v5 - 1))) dF)).set (a0_o+tN (W (v5 - 1))) (v4.getD (a0_o+tN v5) dF)):=(by rw [show(splice (flat c3 v4) (0+a0_o*1+tN v5*1) [(iv (v4.getD (a0_o+tN (W (v5 - 1))) dF))])=flat c3 (v4.set (a0_o+tN v5) (v4.getD (a0_o+tN (W (v5 - 1))) dF)) from(aP aF (by first | omega | (simp only [Lt];omega)) (o:=0) (d:=dF) (Nb rfl) rfl)];exact aP aF (by first | omega | (simp only [Lt];omega)) (o:=0) (d:=dF) (Nb rfl) rfl)
       have z2:v4.length=((v4.set (a0_o+tN v5) (v4.getD (a0_o+tN (W (v5 - 1))) dF)).set (a0_o+tN (W (v5 - 1))) (v4.getD (a0_o+tN v5) dF)).length:=by simp
       rw [z0,z1,z2]
       exact g0 ((v4.set (a0_o+tN v5) (v4.getD (a0_o+tN (W (v5 - 1))) dF)).set (a0_o+tN (W (v5 - 1))) (v4.getD (a0_o+tN v5) dF)) v5 (v6+1) (by and_intros<;>(try simp only [Lt])<;>first | omega | assumption | exact hi.2.1 | exact hi.2.2.1 | exact InR.swap hi.2.1 (by omega) (by omega) | exact InR.swap hr (by omega) (by omega)) (by omega)
theorem aEd (a0:List Int)(a0_o:Nat)(a0_n:Nat)(a1:Int)(a2:Int)(a3:eK×Int)(l0:a0.length<=2^63-1)(l3_1_1:a3.1.1.length<=2^63-1)(l3_1_2_2_1:a3.1.2.2.1.length<=2^63-1)(l3_1_2_2_2:a3.1.2.2.2.length<=2^63-1)(hw:a0_o+a0_n<=a0.length/\a0.length<=1048576)(hr:InR a3.1.1.length a0)(hab:0<=a1/\a1 < a2/\a2<=↑a0_n) {cx:Cx} (hcx:cx.base=4):∀(n:Nat) (v1:List Int) (v2 v3:Int),(v1.length=a0.length)/\(InR a3.1.1.length v1)/\(a1 < v2)/\(v2<=a2)/\(0<=v3)/\(v3<=5)->tN (5 - v3) < n->Aw.Good Tryz.prog none 9 (bodyPost Tryz.prog Tryz.f114 (RR cx (.v (.bool (aH (bN a0 a0_o a0_n a1 a2 a3) n (v1,v2,v3)).1)) [] [(.live true true (flat c3 (aH (bN a0 a0_o a0_n a1 a2 a3) n (v1,v2,v3)).2)),.un,.un,.un])) cx [] (.l eN n::eO) (dU a0 a0_o a0_n a1 a2 a3 (flat c3 v1) v1.length v2 v3):=by
 intro n
 induction n with
 | zero=>intro v1 v2 v3 hi hn;exact absurd hn (eL _)
 | succ n ih =>
  intro v1 v2 v3 hi hn
  refine aS ?_
  have hw_0:W (v2 - 1)=v2 - 1:=(aR (n:=v2 - 1) (by omega) (by omega)).trans (by omega)
  have hw_1:W (v2+1)=v2+1:=(aR (n:=v2+1) (by omega) (by omega)).trans (by omega)
  have hw_2:W (v3+1)=v3+1:=(aR (n:=v3+1) (by omega) (by omega)).trans (by omega)
  have hw_3:W (a2 - a1)=a2 - a1:=(aR (n:=a2 - a1) (by omega) (by omega)).trans (by omega)
  have hw_4:W (v2 - a1)=v2 - a1:=(aR (n:=v2 - a1) (by omega) (by omega)).trans (by omega)
  have hw_5:W (a2 - v2)=a2 - v2:=(aR (n:=a2 - v2) (by omega) (by omega)).trans (by omega)
  cases h0:(decide ((v3:Int) < 5)) with
  | true =>
   have q0:=cN h0
   have e:=Eq.refl (bN a0 a0_o a0_n a1 a2 a3 (v1,v2,v3));conv at e=>rhs;simp only [bN,h0,aW]
   rw [aK,e]
   refine en [.d h0] [] [0,1,2,3,9,10] [] hcx qD (qE n) (oE a0 a0_o a0_n a1 a2 a3 (flat c3 v1) (v1.length) v2 v3) (tN (a2 - v2)+1) (by kernel_rfl) ?_
   exact aEc a0 a0_o a0_n a1 a2 a3 l0 l3_1_1 l3_1_2_2_1 l3_1_2_2_2 hw hr hab hcx n ih (tN (a2 - v2)+1) v1 v2 v3 (by and_intros<;>(try simp only [Lt])<;>first | omega | assumption | exact hi.2.1 | exact hi.2.2.1 | exact InR.swap hi.2.1 (by omega) (by omega) | exact InR.swap hr (by omega) (by omega)) (by omega)
  | false =>
   have q0:=cY h0
   have e:=Eq.refl (bN a0 a0_o a0_n a1 a2 a3 (v1,v2,v3));conv at e=>rhs;simp only [bN,h0,aW]
   rw [aK,e]
   try dsimp only [aZ]
   try dsimp only
   exact wG [.d h0] [] [0] [] hcx (by kernel_rfl)
def cS (a0:List Int)(a0_o:Nat)(a0_n:Nat)(a1:Int)(a2:Int)(a3:eK×Int):Bool×List Int :=
 (aH (bN a0 a0_o a0_n a1 a2 a3) (tN (5 - 0)+1) (a0,(W (a1+1)),0))
theorem aIq (a0:List Int)(a0_o:Nat)(a0_n:Nat)(a1:Int)(a2:Int)(a3:eK×Int)(l0:a0.length<=2^63-1)(l3_1_1:a3.1.1.length<=2^63-1)(l3_1_2_2_1:a3.1.2.2.1.length<=2^63-1)(l3_1_2_2_2:a3.1.2.2.2.length<=2^63-1)(hw:a0_o+a0_n<=a0.length/\a0.length<=1048576)(hr:InR a3.1.1.length a0)(hab:0<=a1/\a1 < a2/\a2<=↑a0_n):Con Tryz.prog 114 [(.s 0 (0+a0_o*1) a0_n 1),(iv a1),(iv a2),(.f 1000075 [(.a [(.p 1 0),(iv a3.2)])])] [(.live true true (flat c3 a0)),(.live false false [(.s 2 0 a3.1.1.length 10),(iv a3.1.2.1),(.s 0 0 a0.length 1),(.s 3 0 a3.1.2.2.2.length 8)]),(.live false true (flat dI a3.1.1)),(.live false true (flat bZ a3.1.2.2.2))] (.v (.bool (cS a0 a0_o a0_n a1 a2 a3).1)) [] [(.live true true (flat c3 (cS a0 a0_o a0_n a1 a2 a3).2)),.un,.un,.un]:=by
 refine bA Tryz.func114 (by kernel_rfl) fun cx hcx=>?_
 have hw_0:W (a1+1)=a1+1:=(aR (n:=a1+1) (by omega) (by omega)).trans (by omega)
 have e:=Eq.refl (cS a0 a0_o a0_n a1 a2 a3);conv at e=>rhs;simp only [cS]
 rw [e]
 refine en [] [] [0,1,2,3,9,10] [] hcx eN (eO) (dU a0 a0_o a0_n a1 a2 a3 (flat c3 a0) (a0.length) (W (a1+1)) 0) (tN (5 - 0)+1) (by kernel_rfl) ?_
 exact aEd a0 a0_o a0_n a1 a2 a3 l0 l3_1_1 l3_1_2_2_1 l3_1_2_2_2 hw hr hab hcx (tN (5 - 0)+1) a0 (W (a1+1)) 0 (by and_intros<;>(try simp only [Lt])<;>first | omega | assumption | exact hi.2.1 | exact hi.2.2.1 | exact InR.swap hi.2.1 (by omega) (by omega) | exact InR.swap hr (by omega) (by omega)) (by omega)
def aT (a0:List Int)(a0_o:Nat)(a0_n:Nat)(a1:Int)(a2:Int)(a3:Int)(a4:eK×Int):Zt :=
 (bif (decide (((oY ((a4.1.1,a4.1.2.1,(a0,a4.1.2.2.2)),a4.2) (a0.getD (a0_o+tN a2) dF) (a0.getD (a0_o+tN a1) dF)):Int) < 0)) then
  (a2,a1,(W (a3+1)))
 else
  (a1,a2,a3))
theorem tT (a0:List Int)(a0_o:Nat)(a0_n:Nat)(a1:Int)(a2:Int)(a3:Int)(a4:eK×Int)(l0:a0.length<=2^63-1)(l4_1_1:a4.1.1.length<=2^63-1)(l4_1_2_2_1:a4.1.2.2.1.length<=2^63-1)(l4_1_2_2_2:a4.1.2.2.2.length<=2^63-1)(hw:a0_o+a0_n<=a0.length/\a0.length<=1048576)(hr:InR a4.1.1.length a0)(hab:0<=a1/\a1 < ↑a0_n/\0<=a2/\a2 < ↑a0_n):Con Tryz.prog 134 [(.s 0 (0+a0_o*1) a0_n 1),(iv a1),(iv a2),(.p 1 0),(.f 1000075 [(.a [(.p 2 0),(iv a4.2)])])] [(.live false true (flat c3 a0)),(.live true false [(iv a3)]),(.live false false [(.s 3 0 a4.1.1.length 10),(iv a4.1.2.1),(.s 0 0 a0.length 1),(.s 4 0 a4.1.2.2.2.length 8)]),(.live false true (flat dI a4.1.1)),(.live false true (flat bZ a4.1.2.2.2))] (.t [(iv (aT a0 a0_o a0_n a1 a2 a3 a4).1),(iv (aT a0 a0_o a0_n a1 a2 a3 a4).2.1)]) [] [.un,(.live true false [(iv (aT a0 a0_o a0_n a1 a2 a3 a4).2.2)]),.un,.un,.un]:=by
 refine bA Tryz.func134 (by kernel_rfl) fun cx hcx=>?_
 let t0:List (St Tryz.prog):=[.i a2 a0_n,cM aF a0 a0_o a2 0 1,.i a1 a0_n,cM aF a0 a0_o a1 0 1,.c [2,3,0,4] (C75 ((a4.1.1,a4.1.2.1,(a0,a4.1.2.2.2)),a4.2) (a0.getD (a0_o+tN a2) dF) (a0.getD (a0_o+tN a1) dF) (by omega) (by omega) (by omega) (hr.at (by omega)) (hr.at (by omega)))]
 cases h0:(decide (((oY ((a4.1.1,a4.1.2.1,(a0,a4.1.2.2.2)),a4.2) (a0.getD (a0_o+tN a2) dF) (a0.getD (a0_o+tN a1) dF)):Int) < 0)) with
 | true =>
  have q0:=cN h0
  have e:=Eq.refl (aT a0 a0_o a0_n a1 a2 a3 a4);conv at e=>rhs;simp only [aT,h0,aW]
  rw [e]
  try dsimp only [aZ]
  try dsimp only
  exact wG (t0++[.d h0]) [] [1] [] hcx (by kernel_rfl)
 | false =>
  have q0:=cY h0
  have e:=Eq.refl (aT a0 a0_o a0_n a1 a2 a3 a4);conv at e=>rhs;simp only [aT,h0,aW]
  rw [e]
  try dsimp only [aZ]
  try dsimp only
  exact wG (t0++[.d h0]) [] [1] [] hcx (by kernel_rfl)
abbrev qT:=eK×Int
def bK (c:qT)(x y:Int):Bool:=decide (oY c x y < 0)
theorem aKo (c:qT)(v:List Int)(x y:Int):oY ((c.1.1,c.1.2.1,(v,c.1.2.2.2)),c.2) x y=oY c x y:=rfl
theorem aKp (c:qT)(x y:Int):decide (oY c x y < 0)=bK c x y:=rfl
def wp (l:List Int)(o:Nat)(d:Array Int):List Int:=l.take o++d.toList++l.drop (o+d.size)
def kF (l:List Int)(o n:Nat):Array Int:=((l.drop o).take n).toArray
theorem fJ {l:List Int} {o n:Nat} (h:o+n<=l.length):(kF l o n).size=n:=by unfold kF;simp;omega
section
variable {l : List Int} {o : Nat} {d : Array Int}
theorem aA0 (h:o+d.size<=l.length):(wp l o d).length=l.length:=by unfold wp;simp;omega
theorem cU (h:o+d.size<=l.length) {i:Nat} (hi:i < d.size):(wp l o d).getD (o+i) dF=d[i]! := by
 unfold wp
 have h1:(l.take o++d.toList).length=o+d.size:=by simp;omega
 rw [fP,List.getElem?_append_left (by omega),List.getElem?_append_right (by simp;omega)]
 rw [show o+i - (l.take o).length=i by simp;omega]
 rw [getElem!_pos d i hi]
 simp [hi]
theorem aN2 (h:o+d.size<=l.length) {i:Nat} (hi:i < d.size)(x:Int):(wp l o d).set (o+i) x=wp l o (d.setIfInBounds i x):=by
 unfold wp
 have h0:(l.take o).length=o:=by simp;omega
 rw [List.append_assoc,List.set_append_right _ _ (by omega),h0,show o+i - o=i by omega,List.set_append_left _ _ (by simpa using hi),List.append_assoc,Array.toList_setIfInBounds,Array.size_setIfInBounds]
theorem gK (h:o+d.size<=l.length) {i j:Nat} (hi:i < d.size)(hj:j < d.size) :
 ((wp l o d).set (o+i) ((wp l o d).getD (o+j) dF)).set (o+j) ((wp l o d).getD (o+i) dF)=wp l o (Go.Sort.swp d i j):=by
 rw [cU h hi,cU h hj,aN2 h hi,aN2 (by simpa using h) (by simpa using hj)]
 rfl
theorem mV {n:Nat} (h:o+n<=l.length):wp l o (kF l o n)=l:=by
 unfold wp
 rw [fJ h]
 unfold kF
 have:(l.drop o).drop n=l.drop (o+n):=by rw [List.drop_drop]
 rw [←this,List.append_assoc]
 show l.take o++((l.drop o).take n++(l.drop o).drop n)=l
 rw [List.take_append_drop,List.take_append_drop]
theorem rL (d:Array Int)(i j:Nat):(Go.Sort.swp d i j).size=d.size:=by simp [Go.Sort.swp]
theorem wN {x:Int} {n:Nat} (h:x=(n:Int))(hn:n<=4611686018427387904):W x=(n:Int):=by rw [h];exact aR (by omega) (by omega)
end
end Go.Proofs.YtkdfcbmcgnaicaaGreat
namespace Go.Proofs.YtkdfcbmcgnaicaaGreat
open Go.Proofs Go.Aw Go.RowKit
set_option maxRecDepth 100000
section
variable {N o n hi first : Nat} {l l0 : List Int} {a1 : Int} {c : qT}
theorem aEe (hl:o+n<=l.length)(hfh:first+hi<=n)(hn:n<=1048576):∀(m:Nat) (d:Array Int) (root:Nat),d.size=n->root<=1048576->hi - root < m ->
 aH (bM l0 o n a1 (hi:Int) (first:Int) c) m (wp l o d,(root:Int))=wp l o (Go.Sort.siftDown (bK c) hi first root d)/\(InR N (wp l o d)->InR N (wp l o (Go.Sort.siftDown (bK c) hi first root d)))/\(Go.Sort.siftDown (bK c) hi first root d).size=n
 | 0,d,root,_,_,h=>absurd h (eL _)
 | m+1,d,root,hd,hr,hm=>by
  have e1:W ((W (2*(root:Int)))+1)=((2*root+1:Nat):Int):=by rw [wN (x:=2*(root:Int)) (n:=2*root) (by omega) (by omega)];exact wN (by omega) (by omega)
  have e2:W (((2*root+1:Nat):Int)+1)=((2*root+2:Nat):Int):=wN (by omega) (by omega)
  have e3:W ((first:Int)+(root:Int))=((first+root:Nat):Int):=wN (by omega) (by omega)
  have e4:W ((first:Int)+((2*root+1:Nat):Int))=((first+(2*root+1):Nat):Int):=wN (by omega) (by omega)
  have e5:W ((first:Int)+((2*root+2:Nat):Int))=((first+(2*root+2):Nat):Int):=wN (by omega) (by omega)
  have e6:W (((first+(2*root+1):Nat):Int)+1)=((first+(2*root+2):Nat):Int):=wN (by omega) (by omega)
  have hl':o+d.size<=l.length:=by omega
  rw [Go.Sort.siftDown]
  by_cases h1:2*root+1≥hi
  ·rw [dif_pos h1]
   refine⟨aQ ?_,id,hd⟩
   simp only [bM,e1]
   rw [cI (by omega),cond_true]
  ·rw [dif_neg h1]
   have g1:=cU hl' (i:=first+(2*root+1)) (by omega)
   have g0:=cU hl' (i:=first+root) (by omega)
   have one:∀k,k < hi->root < k->((bM l0 o n a1 (hi:Int) (first:Int) c (wp l o d,(root:Int))=(bif (!bK c d[first+root]! d[first+k]!) then .inr (wp l o d) else .inl (wp l o (Go.Sort.swp d (first+root) (first+k)),(k:Int)))) ->
    aH (bM l0 o n a1 (hi:Int) (first:Int) c) (m+1) (wp l o d,(root:Int))=wp l o (if !bK c d[first+root]! d[first+k]! then d else Go.Sort.siftDown (bK c) hi first k (Go.Sort.swp d (first+root) (first+k)))/\(InR N (wp l o d)->InR N (wp l o (if !bK c d[first+root]! d[first+k]! then d else Go.Sort.siftDown (bK c) hi first k (Go.Sort.swp d (first+root) (first+k)))))/\(if !bK c d[first+root]! d[first+k]! then d else Go.Sort.siftDown (bK c) hi first k (Go.Sort.swp d (first+root) (first+k))).size=n):=fun k hk hrk e=>by
    cases q:bK c d[first+root]! d[first+k]! with
    | false =>
     rw [q] at e
     exact⟨aQ e,id,hd⟩
    | true =>
     rw [q] at e
     have e':bM l0 o n a1 (hi:Int) (first:Int) c (wp l o d,(root:Int))=.inl (wp l o (Go.Sort.swp d (first+root) (first+k)),(k:Int)):=e
     rw [aI e']
     simp only [Bool.not_true,Bool.false_eq_true,if_false]
     have ih:=aEe hl hfh hn m (Go.Sort.swp d (first+root) (first+k)) k (by rw [rL];exact hd) (by omega) (by omega)
     refine⟨ih.1,fun hI=>ih.2.1 ?_,ih.2.2⟩
     rw [←gK hl' (by omega) (by omega)]
     exact hI.swap (by rw [aA0 hl'];omega) (by rw [aA0 hl'];omega)
   have big:bM l0 o n a1 (hi:Int) (first:Int) c (wp l o d,(root:Int)) =
    if 2*root+1+1 < hi&&bK c d[first+(2*root+1)]! d[first+(2*root+1)+1]! then(bif (!bK c d[first+root]! d[first+(2*root+2)]!) then .inr (wp l o d) else .inl (wp l o (Go.Sort.swp d (first+root) (first+(2*root+2))),((2*root+2:Nat):Int)))
    else(bif (!bK c d[first+root]! d[first+(2*root+1)]!) then .inr (wp l o d) else .inl (wp l o (Go.Sort.swp d (first+root) (first+(2*root+1))),((2*root+1:Nat):Int))):=by
    simp only [bM,e1,e2,e3,e4,e5,e6,fT,aKo,aKp,g1,g0]
    rw [dA (show ¬((2*root+1:Nat):Int)≥(hi:Int) by omega),cond_false,gK hl' (i:=first+root) (j:=first+(2*root+1)) (by omega) (by omega) |>.symm,g1,g0]
    by_cases h2:2*root+2 < hi
    ·have g2:=cU hl' (i:=first+(2*root+2)) (by omega)
     rw [cI (show((2*root+2:Nat):Int) < (hi:Int) by omega),cond_true,g2,cI (show 2*root+1+1 < hi from h2),Bool.true_and,gK hl' (i:=first+root) (j:=first+(2*root+2)) (by omega) (by omega) |>.symm,g2,g0]
     show _=if bK c d[first+(2*root+1)]! d[first+(2*root+2)]! = true then _ else _
     cases bK c d[first+(2*root+1)]! d[first+(2*root+2)]! <;> rfl
    ·rw [dA (show ¬((2*root+2:Nat):Int) < (hi:Int) by omega),cond_false,dA (show ¬2*root+1+1 < hi from h2),Bool.false_and]
     rfl
   by_cases h2:(2*root+1+1 < hi&&bK c d[first+(2*root+1)]! d[first+(2*root+1)+1]!)=true
   ·rw [if_pos h2] at big
    have hlt:2*root+2 < hi:=by simp at h2;omega
    rw [if_pos h2]
    simp only [hlt,dite_true]
    exact one _ hlt (by omega) big
   ·rw [if_neg h2] at big
    rw [if_neg h2]
    exact one _ (by omega) (by omega) big
theorem aU4 (hl:o+n<=l.length)(hn:n<=1048576)(lo:Int)(hlo:0<=lo/\lo<=1048576)(hif:(0:Int)<=hi/\first+hi<=n)(hI:InR N l) :
 dB l o n lo (hi:Int) (first:Int) c=wp l o (Go.Sort.siftDown (bK c) hi first lo.toNat (kF l o n))/\InR N (dB l o n lo (hi:Int) (first:Int) c)/\(Go.Sort.siftDown (bK c) hi first lo.toNat (kF l o n)).size=n:=by
 unfold dB
 have:=aEe (N:=N) (l:=l) (l0:=l) (o:=o) (n:=n) (a1:=lo) (hi:=hi) (first:=first) (c:=c) hl hif.2 hn (tN ((hi:Int) - lo)+1) (kF l o n) lo.toNat (fJ hl) (by omega) (by omega)
 rw [mV hl,Int.toNat_of_nonneg hlo.1] at this
 refine⟨this.1,?_,this.2.2⟩
 rw [this.1];exact this.2.1 hI
theorem aSj {d:Array Int} {lo:Nat} (hl:o+n<=l.length)(hn:n<=1048576)(hlo:lo<=1048576)(hf:first+hi<=n)(hd:d.size=n) :
 dB (wp l o d) o n (lo:Int) (hi:Int) (first:Int) c=wp l o (Go.Sort.siftDown (bK c) hi first lo d)/\(Go.Sort.siftDown (bK c) hi first lo d).size=n:=by
 unfold dB
 have:=aEe (N:=0) (l:=l) (l0:=wp l o d) (o:=o) (n:=n) (a1:=(lo:Int)) (hi:=hi) (first:=first) (c:=c) hl hf hn (tN ((hi:Int) - (lo:Int))+1) d lo hd hlo (by omega)
 exact⟨this.1,this.2.2⟩
end
theorem aSk {N o n:Nat} {l:List Int} {lo hi first:Int} {c:qT} (hl:o+n<=l.length)(hn:n<=1048576)(hlo:0<=lo/\lo<=1048576)(h0:0<=hi/\0<=first/\first+hi<=n)(hI:InR N l) :
 (dB l o n lo hi first c).length=l.length/\InR N (dB l o n lo hi first c):=by
 obtain⟨hi,rfl⟩:∃k:Nat,hi=k:=⟨hi.toNat,by omega⟩
 obtain⟨first,rfl⟩:∃k:Nat,first=k:=⟨first.toNat,by omega⟩
 have:=aU4 (c:=c) hl hn lo hlo (hi:=hi) (first:=first) (by omega) hI
 refine⟨?_,this.2.1⟩
 rw [this.1,aA0 (by rw [this.2.2];exact hl)]
theorem aN3 {n:Int} (h:0<=n/\n<=1048576):W (Int.tdiv (W (n - 1)) 2)=(n+1) / 2 - 1\/n=0/\W (Int.tdiv (W (n - 1)) 2)=0:=by
 by_cases h0:n=0
 ·subst h0;right;exact⟨rfl,by decide⟩
 ·left
  rw [aR (n:=n - 1) (by omega) (by omega),Int.tdiv_eq_ediv_of_nonneg (by omega),aR (by omega) (by omega)]
  omega
end Go.Proofs.YtkdfcbmcgnaicaaGreat
