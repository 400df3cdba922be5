/-
  Parts of the proofs of the laws: the executor, what functions of the program compute, and that it is what the statements ask. No premise.
-/
import Derived.Test.YtlckcjfbjnjfhaaGreatVPtb3
import Derived.Deep.Slices
import Derived.ProofKit
import Derived.RowKit
import Derived.Shelf.SlSortCmp.Xorshift
import Derived.Sort.AssemblyPlain
set_option linter.unusedVariables false
set_option linter.unusedSimpArgs false
set_option maxHeartbeats 4000000
open Int renaming toNat → tN
open Inhabited renaming default → dF
namespace Go.Proofs.YtlckcjfbjnjfhaaGreat
open Go.Proofs Go.Aw Go.RowKit
set_option maxRecDepth 100000
end Go.Proofs.YtlckcjfbjnjfhaaGreat
namespace Go.Proofs.YtlckcjfbjnjfhaaGreat
open Go.Proofs Go.Aw Go.RowKit
set_option maxRecDepth 100000
open Go.ChangeShapes Go.WideShapes Go.ChangeAt
section
variable {H : Type} {enc : TypeId × Value → H} {P : Program} {w : World}
def pI (w:World)(es:Nat)(v:Value)(nss:List (List Int)):Prop :=
 (∀ns∈nss,ns.length=es)/\nss.length<=2^63-1 /\
 ((v=.slice none 0 0/\nss=[])\/∃b o cap,v=.slice (some ⟨b,o,none⟩) nss.length cap/\nss.length<=cap/\∀(i:Nat) (x:Value),((nss.flatten).map (Value.int .i64))[i]? = some x->w.cell? ⟨b,o+i,none⟩=some x)
theorem uL {es b:Nat}:∀(nss:List (List Int)) (o:Nat),(∀(j:Nat) (ns:List Int),nss[j]? = some ns->ns.length=es/\∀(q:Nat) (x:Value),(ns.map (Value.int .i64))[q]? = some x->w.cell? ⟨b,o+j*es+q,none⟩=some x) ->
 ∀(i:Nat) (x:Value),((nss.flatten).map (Value.int .i64))[i]? = some x->w.cell? ⟨b,o+i,none⟩=some x
 | [],o,_,i,x,hi=>by simp at hi
 | ns::l,o,h,i,x,hi=>by
  obtain⟨h1,h2⟩:=h 0 ns rfl
  rw [List.flatten_cons,List.map_append] at hi
  by_cases hlt:i < ns.length
  ·rw [List.getElem?_append_left (by simpa using hlt)] at hi
   have:=h2 i x hi
   simpa using this
  ·rw [List.getElem?_append_right (by simpa using hlt)] at hi
   have:=uL l (o+es) (fun j ms hj=>⟨(h (j+1) ms hj).1,fun q y hq=>by
    have:=(h (j+1) ms hj).2 q y hq
    rw [show o+es+j*es+q=o+(j+1)*es+q by rw [Nat.add_mul];omega];exact this⟩) (i - es) x (by simpa [h1] using hi)
   rw [show o+es+(i - es)=o+i by omega] at this;exact this
theorem aPs {r:Reach} {b0:Nat} {t e:TypeId} {es:Nat} {v:Value} {d:DataW H} {ps:List MemPlace} (ht:P.underlying t=some (.slice e))(hf:tA P 6 e=true)(hes:P.cellsOf e=es)
 (hval:Value.okWide P w r b0 t v) (hd:DataW.Trod enc P w 0 (fun _=>true) true t v d ps):(∃nss,pI w es v nss)/\∀x∈ps,x.block < w.heap.size:=by
 obtain⟨fuel,hx⟩:=hd
 refine⟨?_,DataW.trod_lt fuel t _ _ hx⟩
 obtain⟨a,len,cap,rfl⟩:=okWide_slice ht hval
 rcases Go.Deep.open_slice ht hx with⟨hc,_⟩ | ⟨a',len',cap',m,n,D,Pl,hc,hb,hl,hm,hmm,_,hall⟩
 ·simp only [Value.cells,List.cons.injEq,and_true] at hc
  exact⟨[],fun ns h=>by simp at h,by simp,.inl ⟨hc,rfl⟩⟩
 ·simp only [Value.cells,List.cons.injEq,and_true,Value.slice.injEq] at hc
  obtain⟨rfl,rfl,rfl⟩:=hc
  simp only [Value.okWide,ht,Cell.okWide,Cell.ok,World.has] at hval
  have hsp:a'.spot=none:=hval.2.2.2.1
  obtain⟨b,o,sp⟩:=a'
  simp only at hsp
  subst hsp
  simp only [if_true] at hmm
  obtain⟨N,hN⟩:=Go.Deep.choose_lt (α:=List Int) (p:=fun i ns=>ns.length=es/\∀(q:Nat) (x:Value),(ns.map (Value.int .i64))[q]? = some x->w.cell? ⟨b,o+i*es+q,none⟩=some x) (n:=len) (fun i hi=>by
   obtain⟨cs',h1,h2⟩:=hall i (by omega)
   obtain⟨_,ns,rfl⟩:=oF 6 e n cs' _ hf h2
   obtain⟨_,hlen,hcell⟩:=World.cells?_some h1
   rw [hes] at hlen hcell
   refine⟨ns,by simpa using hlen,fun q x hq=>?_⟩
   have hq':=(List.getElem?_eq_some_iff.1 hq).1
   have:=hcell q (by omega)
   rw [Go.Aw.add_eq,Go.Aw.add_eq] at this
   rw [this,hq])
  refine⟨(List.range len).map N,fun ns h=>?_,?_,.inr ⟨b,o,cap,?_,?_,?_⟩⟩
  ·obtain⟨i,hi,rfl⟩:=List.mem_map.1 h
   exact(hN i (by simpa using hi)).1
  ·have:maxLen=9223372036854775807:=rfl
   simp;omega
  ·simp
  ·simpa using hl
  ·refine uL (es:=es) _ o (fun j ns hj=>?_)
   have hjl:=(List.getElem?_eq_some_iff.1 hj).1
   simp only [List.length_map,List.length_range] at hjl
   have:N j=ns:=by simpa [hjl] using hj
   subst this
   exact hN j hjl
def rho (es:Nat):Value->Option (Nat×Nat×Nat)
 | .slice (some a) _ cap=>some (a.block,a.off,cap*es)
 | _=>none
theorem aPt {es:Nat} {v:Value} {nss:List (List Int)} {ρ:Env} {k:Nat} (h:pI w es v nss)(hk:ρ k=rho es v):Rel ρ (.s k 0 nss.length es) v:=by
 obtain⟨h1,h2,⟨rfl,rfl⟩ | ⟨b,o,cap,rfl,h3,h4⟩⟩:=h
 ·simp only [Rel];exact .inl ⟨hk,rfl,trivial⟩
 ·simp only [Rel];exact .inr ⟨b,o,cap*es,cap,0,none,hk,rfl,h3,by omega,fun _=>⟨rfl,rfl⟩⟩
theorem zR {es:Nat}:∀{nss:List (List Int)},(∀ns∈nss,ns.length=es)->nss.flatten.length=nss.length*es
 | [],_=>by simp
 | ns::l,h=>by
  rw [List.flatten_cons,List.length_append,zR (fun m hm=>h m (List.mem_cons_of_mem _ hm)),h ns List.mem_cons_self,List.length_cons,Nat.add_mul];omega
theorem aCm {es:Nat} {v:Value} {nss:List (List Int)} {ρ:Env} {k:Nat} {M:Nat->Prop} (h:pI w es v nss)(hk:ρ k=rho es v)(hM:∀b,M b->w.heap.size<=b):BRep ρ M w k (.live false true ((nss.flatten).map iv)):=by
 obtain⟨h1,h2,⟨rfl,rfl⟩ | ⟨b,o,cap,rfl,h3,h4⟩⟩:=h
 ·exact .inl ⟨hk,rfl⟩
 ·have hlen:=zR h1
  refine .inr ⟨b,o,cap*es,(nss.flatten).map (Value.int .i64),hk,⟨?_,fun hne hm=>?_⟩,aGd _,h4⟩
  ·rw [List.length_map,hlen];exact Nat.mul_le_mul_right _ h3
  ·have hb:=hM b hm
   obtain⟨x,hx⟩:=List.exists_mem_of_ne_nil _ hne
   obtain⟨i,hi⟩:=List.getElem?_of_mem hx
   have:=World.block_lt_of_cell? w ⟨b,o+i,none⟩ (h4 i x hi)
   exact absurd this (Nat.not_lt_of_le hb)
theorem aNm {α:Type} {c:α->List SV} {f:List Int->α} {es:Nat} (hc:∀ns:List Int,ns.length=es->c (f ns)=ns.map iv):∀{nss:List (List Int)},(∀ns∈nss,ns.length=es)->flat c (nss.map f)=(nss.flatten).map iv
 | [],_=>rfl
 | ns::l,h=>by
  have:=aNm hc (nss:=l) (fun m hm=>h m (List.mem_cons_of_mem _ hm))
  unfold flat at *
  rw [List.map_cons,List.flatMap_cons,this,hc ns (h ns List.mem_cons_self),List.flatten_cons,List.map_append]
end
theorem xU:∀ns:List Int,Plain (ns.map iv)
 | []=>fun k hk=>by simp [SV.hasl] at hk
 | n::l=>fun k hk=>by
  simp only [List.map_cons,SV.hasl] at hk
  rcases hk with hk | hk
  ·simp [iv,SV.has] at hk
  ·exact xU l k hk
theorem aCn {P:Program} {f:Nat} {args:List SV} {vs:List Value} {x:Value} {bs:List BK} (hc:Con P f args bs (.v x) []) (ρ:Env) {W:World} (hr:Rels ρ args vs)(hown:∀i,¬(bs.getD i .un).own)
 (hb:(∀b,(aZ ρ W bs).mine b->W.heap.size<=b)->∀i,BRep ρ (aZ ρ W bs).mine W i (bs.getD i .un)) (hpl:∀i,(bs.getD i .un).pl) (hnf:∀b,ρ.fz b=none) :
 Calls P f vs.toArray W fun e W'=>e=.returned x/\Below W.heap.size W W':=by
 have hM:∀b,(aZ ρ W bs).mine b->W.heap.size<=b:=by
  rintro b (h | ⟨i,n,hi,_⟩)
  ·exact h
  ·exact absurd hi (hown i)
 refine(hc.2 ρ W vs hr (hb hM) hpl (fun i j b n b' n' _ h=>absurd h (hown i)) (fun b o h=>by rw [hnf b] at h;cases h)).mono fun e W' h=>?_
 obtain⟨ρ',v,rfl,_,hv,hk,_⟩:=h
 refine⟨by rw [show v=x from hv],hk.os,hk.tape,hk.output,hk.size,fun k hk'=>hk.block k hk' ?_⟩
 rintro ⟨i,n,hi,_⟩
 exact hown i hi
def bFc (e:Nat)(v:Value):Env:=⟨fun k=>if k=0 then rho e v else none,fun _=>none⟩
theorem aLf {P:Program} {f es0:Nat} {args:List SV} {vs:List Value} {x v0:Value} {nss0:List (List Int)} {W:World} (hc:Con P f args [.live false true ((nss0.flatten).map iv)] (.v x) [])
 (s0:pI W es0 v0 nss0) (hr:Rels (bFc es0 v0) args vs):Calls P f vs.toArray W fun e W'=>e=.returned x/\Below W.heap.size W W':=by
 refine aCn hc _ hr (fun i=>?_) (fun hM i=>?_) (fun i=>?_) (fun _=>rfl)
 ·rcases i with _ | i<;>simp [BK.own]
 ·rcases i with _ | i
  ·exact aCm s0 rfl hM
  ·simp [BRep]
 ·rcases i with _ | i
  ·exact xU _
  ·simp [BK.pl]
end Go.Proofs.YtlckcjfbjnjfhaaGreat
namespace Go.Proofs.YtlckcjfbjnjfhaaGreat
open Go.Proofs Go.Aw Go.RowKit
set_option maxRecDepth 100000
theorem aCo {α:Type} {c:α->List SV} (hc:∀x,(c x).all SV.one=true) {l:List α}:(flat c l).all SV.one=true:=by
 rw [List.all_eq_true]
 intro x hx
 obtain⟨a,_,ha⟩:=List.mem_flatMap.1 hx
 exact List.all_eq_true.1 (hc a) x ha
theorem eJ {α:Type} {c:α->List SV} {es:Nat} (hc:∀x,(c x).length=es)(l:List α):(flat c l).length=l.length*es:=qM hc l
def okw (v:Int×Int)(n:Nat):Prop:=(-4611686018427387904+1099511627776*n<=v.1/\v.1+1099511627776*n<=4611686018427387904)/\(-4611686018427387904+1099511627776*n<=v.2/\v.2+1099511627776*n<=4611686018427387904)
theorem aSd {v a:Int×Int} {n:Nat} (h:okw v (n+1))(ha:vs a):okw (v.1+a.1,v.2+a.2) n:=by unfold okw vs at *;simp only;omega
theorem bC4 {v:Int×Int} {n:Nat} (h:okw v n):W v.1=v.1/\W v.2=v.2:=by unfold okw at h;exact⟨aH (by omega) (by omega),aH (by omega) (by omega)⟩
theorem bC5 {n:Nat} (h:n<=10000):okw (0,0) n:=by unfold okw;simp only;omega
theorem aLg {R:Type} [Inhabited R] {S:Zt->Zt⊕R} {G:Int×Int->R} {L:List (Int×Int)} (hl:∀a∈L,vs a)
 (hS:∀(i:Nat) (a:Int×Int),L[i]? = some a->∀v1 v2:Int,S (v1,v2,(i:Int))=.inl (W (v1+a.1),W (v2+a.2),((i+1:Nat):Int)))
 (hE:∀v1 v2:Int,S (v1,v2,(L.length:Int))=.inr (G (v1,v2))) :
 ∀(l:List (Int×Int)) (i n:Nat) (v:Int×Int),L.drop i=l->i<=L.length->l.length < n->okw v l.length->aA S n (v.1,v.2,(i:Int))=G (iG l v):=by
 intro l
 induction l with
 | nil =>
  intro i n v hd hi' hn h
  have:i=L.length:=by have:=List.drop_eq_nil_iff.1 hd;omega
  obtain⟨n,rfl⟩:∃m,n=m+1:=⟨n - 1,by simp only [List.length_nil] at hn;omega⟩
  subst this
  rw [aC (hE _ _)];rfl
 | cons c l ih =>
  intro i n v hd hi' hn h
  have hc:L[i]? = some c:=by
   have:(L.drop i)[0]? = some c:=by rw [hd];rfl
   simpa using this
  obtain⟨hlt,hce⟩:=List.getElem?_eq_some_iff.1 hc
  obtain⟨n,rfl⟩:∃m,n=m+1:=⟨n - 1,by omega⟩
  have h1:okw (v.1+c.1,v.2+c.2) l.length:=aSd h (hl c (hce▸List.getElem_mem hlt))
  have hw:=bC4 h1
  simp only at hw
  rw [aB (hS i c hc v.1 v.2),hw.1,hw.2]
  exact ih (i+1) n (v.1+c.1,v.2+c.2) (by rw [←List.drop_drop,hd];rfl) (by omega) (by simp only [List.length_cons] at hn;omega) h1
section
variable {l : List (Int × Int)}
theorem aZz {a:Int×Int} (h:vs a):wU a=true:=aIt (a:=a.1) (b:=a.2) h.1 h.2.1 h.2.2
theorem bFd (hl:∀a∈l,vs a):zM l=0:=by
 have key:∀(m:List (Int×Int)) (i n:Nat),l.drop i=m->i<=l.length->m.length < n->aA (iE l) n (i:Int)=0:=by
  intro m
  induction m with
  | nil =>
   intro i n hd hi hn
   have:i=l.length:=by have:=List.drop_eq_nil_iff.1 hd;omega
   obtain⟨n,rfl⟩:∃m,n=m+1:=⟨n - 1,by simp only [List.length_nil] at hn;omega⟩
   subst this
   refine aC ?_
   simp only [iE]
   rw [cC (Int.lt_irrefl _),cond_false]
  | cons c m ih =>
   intro i n hd hi hn
   have hc:l[i]? = some c:=by
    have:(l.drop i)[0]? = some c:=by rw [hd];rfl
    simpa using this
   obtain⟨hlt,hce⟩:=List.getElem?_eq_some_iff.1 hc
   obtain⟨n,rfl⟩:∃m,n=m+1:=⟨n - 1,by omega⟩
   have hg:l.getD i dF=c:=by rw [cV,hc];rfl
   have e:iE l (i:Int)=.inl ((i+1:Nat):Int):=by
    simp only [iE]
    rw [bG (show((i:Nat):Int) < (l.length:Nat) by omega),cond_true,eX,hg,aZz (hl c (hce▸List.getElem_mem hlt))];rfl
   rw [aB e]
   exact ih (i+1) n (by rw [←List.drop_drop,hd];rfl) (by omega) (by simp only [List.length_cons] at hn;omega)
 unfold zM
 exact key l 0 _ rfl (Nat.zero_le _) (by omega)
theorem aZ0 (hl:∀a∈l,vs a)(hn:l.length<=10000):fZ l=((iG l (0,0)).1,(iG l (0,0)).2,0):=by
 unfold fZ
 rw [cC (by omega),cond_false,bFd hl]
 show aA _ _ (((0,0):Int×Int).1,((0,0):Int×Int).2,((0:Nat):Int))=_
 refine aLg (G:=fun v=>(v.1,v.2,0)) hl (fun i a hi v1 v2=>?_) (fun v1 v2=>?_) l 0 _ (0,0) rfl (Nat.zero_le _) (by omega) (bC5 hn)
 ·obtain⟨hlt,hce⟩:=List.getElem?_eq_some_iff.1 hi
  have hg:l.getD i dF=a:=by rw [cV,hi];rfl
  simp only [kI]
  rw [bG (show((i:Nat):Int) < (l.length:Nat) by omega),cond_true,eX,hg];rfl
 ·simp only [kI]
  rw [cC (Int.lt_irrefl _),cond_false]
noncomputable def aLh (l:List (Int×Int)):(Int×Int)×Int:=jQ (iG l (0,0)).1 (iG l (0,0)).2
theorem aX0 (hl:∀a∈l,vs a)(hn:l.length<=10000):iL l=aLh l:=by
 unfold iL
 rw [aZ0 hl hn];rfl
end
theorem aZ1 {l:List (Int×Int)} (h:(aLh l).2=0):aLh l=(iG l (0,0),0)/\vs (iG l (0,0)):=by
 unfold aLh at *
 rcases aE0 (iG l (0,0)).1 (iG l (0,0)).2 with⟨h1,h2⟩ | h1
 ·exact⟨h1,h2⟩
 ·rw [h1] at h;exact absurd h (by decide)
theorem aIw (l m:List (Int×Int)):iG (l++m) (0,0)=((iG l (0,0)).1+(iG m (0,0)).1,(iG l (0,0)).2+(iG m (0,0)).2):=by
 simp only [aNk,List.map_append,List.sum_append,Int.zero_add]
end Go.Proofs.YtlckcjfbjnjfhaaGreat
namespace Go.Proofs.YtlckcjfbjnjfhaaGreat
open Go.Proofs Go.Aw Go.RowKit
set_option maxRecDepth 100000
theorem jX {l:List (PN×Int)} (h:eU l=0):l.length<=96:=by
 rcases Nat.lt_or_ge 96 l.length with h' | h'
 ·exfalso
  unfold eU at h
  rw [bG (by omega),cond_true] at h
  exact absurd h (by decide)
 ·exact h'
theorem iY {α:Type} {c:α->List SV} {es:Nat} (hc:∀x,(c x).length=es) {L:List α} {i o:Nat} {xs:List SV} {d y:α} (hi:i < L.length)(ho:o+xs.length<=es)(hy:c y=splice (c (L.getD i d)) o xs) :
 splice (flat c L) (0+i*es+o) xs=flat c (L.set i y):=by
 induction L generalizing i with
 | nil=>simp at hi
 | cons x L ih =>
  cases i with
  | zero =>
   have hy':c y=splice (c x) o xs:=hy
   have hx:=hc x
   simp only [flat,List.flatMap_cons,List.set_cons_zero,hy']
   unfold splice
   simp only [Nat.zero_mul,Nat.zero_add]
   rw [List.take_append_of_le_length (by omega),List.drop_append_of_le_length (by omega)]
   simp [List.append_assoc]
  | succ i =>
   have h:=ih (i:=i) (by simpa using hi) hy
   have hx:=hc x
   simp only [flat,List.flatMap_cons,List.set_cons_succ] at h ⊢
   rw [←h]
   unfold splice
   have e1:0+(i+1)*es+o=(c x).length+(0+i*es+o):=by rw [hx,Nat.add_mul];omega
   rw [e1,List.take_length_add_append,show(c x).length+(0+i*es+o)+xs.length=(c x).length+(0+i*es+o+xs.length) by omega,List.drop_length_add_append]
   simp [List.append_assoc]
theorem oG {α:Type} {c:α->List SV} {es:Nat} (hc:∀x,(c x).length=es) {L:List α} {i o n:Nat} (hi:i < L.length)(ho:o+n<=es):0+i*es+o+n<=(flat c L).length:=by
 rw [qM hc]
 have:=Nat.mul_le_mul_right es (show i+1<=L.length by omega)
 rw [Nat.add_mul] at this
 omega
theorem aZ2 (w i es x:Nat):0+w*es+i*es+x=0+(w+i)*es+x:=by rw [Nat.add_mul];omega
theorem xV {α:Type} {c:α->List SV} {es:Nat} (hc:∀x,(c x).length=es) {L:List α} {w i o:Nat} {xs:List SV} {d y:α} (hi:w+i < L.length)(ho:o+xs.length<=es)(hy:c y=splice (c (L.getD (w+i) d)) o xs) :
 splice (flat c L) (0+w*es+i*es+o) xs=flat c (L.set (w+i) y):=by rw [aZ2];exact iY hc hi ho hy
theorem aCp {α:Type} {c:α->List SV} {es:Nat} (hc:∀x,(c x).length=es) {L:List α} {w i o n:Nat} (hi:w+i < L.length)(ho:o+n<=es):0+w*es+i*es+o+n<=(flat c L).length:=by rw [aZ2];exact oG hc hi ho
theorem ldw {α:Type} [Inhabited α] {c:α->List SV} {es:Nat} (hc:∀x,(c x).length=es)(l:List α)(w:Nat)(i:Int)(o n:Nat)(h:w+i.toNat < l.length)(ho:o+n<=es) :
 ((flat c l).drop (0+w*es+i.toNat*es+o)).take n=((c (l.getD (w+i.toNat) dF)).drop o).take n:=by
 rw [aZ2]
 have:=aM8 hc l ((w+i.toNat:Nat):Int) o n ⟨by omega,by omega⟩ ho
 rw [eX] at this
 exact this
def aPu {P:Program} {α:Type} [Inhabited α] {c:α->List SV} {es:Nat} (hc:∀x,(c x).length=es)(l:List α)(w:Nat)(i:Int)(o n:Nat)(h:w+i.toNat < l.length:=by first | omega | (simp only [Lt];omega)) (ho:o+n<=es:=by decide):St P :=
 St.l (l:=flat c l) (o:=0+w*es+i.toNat*es+o) (n:=n) (((c (l.getD (w+i.toNat) dF)).drop o).take n) (ldw hc l w i o n h ho)
def InR (n:Nat)(l:List Int):Prop:=∀x∈l,0<=x/\x < (n:Int)
theorem InR.at {n:Nat} {l:List Int} (h:InR n l) {i:Nat} (hi:i < l.length):0<=l.getD i dF/\l.getD i dF < (n:Int):=by
 rw [cV,List.getElem?_eq_getElem hi,Option.getD_some]
 exact h _ (List.getElem_mem hi)
theorem InR.set {n:Nat} {l:List Int} (h:InR n l) {i:Nat} {x:Int} (hx:0<=x/\x < (n:Int)):InR n (l.set i x):=fun y hy=>by
 rcases List.mem_or_eq_of_mem_set hy with hy | rfl
 ·exact h y hy
 ·exact hx
theorem InR.swap {n:Nat} {l:List Int} (h:InR n l) {i j p q:Nat} (hp:p < l.length)(hq:q < l.length):InR n ((l.set i (l.getD p dF)).set j (l.getD q dF)):=(h.set (h.at hp)).set (h.at hq)
def dM (x:Int×Int×Int×Int×Zt×Int):List SV:=[(iv x.1),(iv x.2.1),(iv x.2.2.1),(iv x.2.2.2.1),(iv x.2.2.2.2.1.1),(iv x.2.2.2.2.1.2.1),(iv x.2.2.2.2.1.2.2),(iv x.2.2.2.2.2)]
theorem dS (x:Int×Int×Int×Int×Zt×Int):(dM x).length=8:=rfl
def gI (a0:bE×Int×List Int×aY)(a1:Int)(a2:Int):Int :=
 (bif ((a2:Int) == 0) then
  (W ((W ((a0.1.getD (tN a1) dF).1.1.1+(a0.1.getD (tN a1) dF).1.2.1.1))+(a0.1.getD (tN a1) dF).1.2.2.1))
 else
  (bif ((a2:Int) == 1) then
   (W ((W ((a0.1.getD (tN a1) dF).1.1.2.1+(a0.1.getD (tN a1) dF).1.2.1.2.1))+(a0.1.getD (tN a1) dF).1.2.2.2.1))
  else
   (W ((W ((a0.1.getD (tN a1) dF).1.1.2.2+(a0.1.getD (tN a1) dF).1.2.1.2.2))+(a0.1.getD (tN a1) dF).1.2.2.2.2))))
theorem aPv (a0:bE×Int×List Int×aY)(a1:Int)(a2:Int)(l0_1:a0.1.length<=2^63-1)(l0_2_2_1:a0.2.2.1.length<=2^63-1)(l0_2_2_2:a0.2.2.2.length<=2^63-1)(hi:0<=a1/\a1 < (a0.1.length:Int)):Con Tryz.prog 151 [(.p 0 0),(iv a1),(iv a2)] [(.live false false [(.s 1 0 a0.1.length 10),(iv a0.2.1),(.s 2 0 a0.2.2.1.length 1),(.s 3 0 a0.2.2.2.length 8)]),(.live false true (flat fK a0.1)),(.live false true (flat c3 a0.2.2.1)),(.live false true (flat dM a0.2.2.2))] (iv (gI a0 a1 a2)) []:=by
 refine aU Tryz.func151 (by kernel_rfl) fun cx hcx=>?_
 let t0:List (St Tryz.prog):=[.i a1 (a0.1.length),.L eO a0.1 a1 0 9]
 cases h0:((a2:Int) == 0) with
 | true =>
  have q0:=eq_of_beq h0
  have e:=Eq.refl (gI a0 a1 a2);conv at e=>rhs;simp only [gI,h0,aW]
  rw [e]
  exact rt (t0++[.d h0]) [] [] hcx (by kernel_rfl)
 | false =>
  have q0:=ne_of_beq_false h0
  let t1:List (St Tryz.prog):=(t0++[.d h0])
  cases h1:((a2:Int) == 1) with
  | true =>
   have q1:=eq_of_beq h1
   have e:=Eq.refl (gI a0 a1 a2);conv at e=>rhs;simp only [gI,h0,h1,aW]
   rw [e]
   exact rt (t1++[.d h1]) [] [] hcx (by kernel_rfl)
  | false =>
   have q1:=ne_of_beq_false h1
   have e:=Eq.refl (gI a0 a1 a2);conv at e=>rhs;simp only [gI,h0,h1,aW]
   rw [e]
   exact rt (t1++[.d h1]) [] [] hcx (by kernel_rfl)
def aCq (a0:Int):Bool :=
 ((a0:Int) != a0)
theorem bC6 (a0:Int):Con Tryz.prog 192 [(iv a0)] [] (.v (.bool (aCq a0))) []:=by
 refine aU Tryz.func192 (by kernel_rfl) fun cx hcx=>?_
 have e:=Eq.refl (aCq a0);conv at e=>rhs;simp only [aCq]
 rw [e]
 exact rt [] [] [] hcx (by kernel_rfl)
def nJ (a0:Int)(a1:Int):Int :=
 (bif (aCq a0) then
  (bif (aCq a1) then
   0
  else
   (-1))
 else
  (bif (aCq a1) then
   1
  else
   (bif (decide ((a0:Int) < a1)) then
    (-1)
   else
    (bif (decide ((a0:Int) > a1)) then
     1
    else
     0))))
theorem bC7 (a0:Int)(a1:Int):Con Tryz.prog 153 [(iv a0),(iv a1)] [] (iv (nJ a0 a1)) []:=by
 refine aU Tryz.func153 (by kernel_rfl) fun cx hcx=>?_
 let t0:List (St Tryz.prog):=[.c [] (bC6 a0),.c [] (bC6 a1)]
 cases h0:(aCq a0) with
 | true =>
  let t1:List (St Tryz.prog):=(t0++[.d h0])
  cases h1:(aCq a1) with
  | true =>
   have e:=Eq.refl (nJ a0 a1);conv at e=>rhs;simp only [nJ,h0,h1,aW]
   rw [e]
   exact rt (t1++[.d h1]) [] [] hcx (by kernel_rfl)
  | false =>
   have e:=Eq.refl (nJ a0 a1);conv at e=>rhs;simp only [nJ,h0,h1,aW]
   rw [e]
   exact rt (t1++[.d h1]) [] [] hcx (by kernel_rfl)
 | false =>
  let t1:List (St Tryz.prog):=(t0++[.d h0])
  cases h1:(aCq a1) with
  | true =>
   have e:=Eq.refl (nJ a0 a1);conv at e=>rhs;simp only [nJ,h0,h1,aW]
   rw [e]
   exact rt (t1++[.d h1]) [] [] hcx (by kernel_rfl)
  | false =>
   let t2:List (St Tryz.prog):=(t1++[.d h1])
   cases h2:(decide ((a0:Int) < a1)) with
   | true =>
    have q2:=dL h2
    have e:=Eq.refl (nJ a0 a1);conv at e=>rhs;simp only [nJ,h0,h1,h2,aW]
    rw [e]
    exact rt (t2++[.d h2]) [] [] hcx (by kernel_rfl)
   | false =>
    have q2:=eH h2
    let t3:List (St Tryz.prog):=(t2++[.d h2])
    cases h3:(decide ((a0:Int) > a1)) with
    | true =>
     have q3:=dL h3
     have e:=Eq.refl (nJ a0 a1);conv at e=>rhs;simp only [nJ,h0,h1,h2,h3,aW]
     rw [e]
     exact rt (t3++[.d h3]) [] [] hcx (by kernel_rfl)
    | false =>
     have q3:=eH h3
     have e:=Eq.refl (nJ a0 a1);conv at e=>rhs;simp only [nJ,h0,h1,h2,h3,aW]
     rw [e]
     exact rt (t3++[.d h3]) [] [] hcx (by kernel_rfl)
def nK (a0:(Int)×(Int)):Int :=
 (bif ((a0.1:Int) != 0) then
  a0.1
 else
  (bif ((a0.2:Int) != 0) then
   a0.2
  else
   0))
theorem aZ3 (a0:(Int)×(Int)):Con Tryz.prog 152 [(.s 0 0 2 1)] [(.live false false [(iv a0.1),(iv a0.2)])] (iv (nK a0)) []:=by
 refine aU Tryz.func152 (by kernel_rfl) fun cx hcx=>?_
 let t0:List (St Tryz.prog):=[.u 200,.T,.i 0 2 (by decide)]
 cases h0:((a0.1:Int) != 0) with
 | true =>
  have q0:=bne_iff_ne.1 h0
  have e:=Eq.refl (nK a0);conv at e=>rhs;simp only [nK,h0,aW]
  rw [e]
  exact rt (t0++[.d h0]) [] [] hcx (by kernel_rfl)
 | false =>
  have q0:=bne_eq_false_iff_eq.1 h0
  let t1:List (St Tryz.prog):=(t0++[.d h0,.u 0,.T,.i 1 2 (by decide)])
  cases h1:((a0.2:Int) != 0) with
  | true =>
   have q1:=bne_iff_ne.1 h1
   have e:=Eq.refl (nK a0);conv at e=>rhs;simp only [nK,h0,h1,aW]
   rw [e]
   exact rt (t1++[.d h1]) [] [] hcx (by kernel_rfl)
  | false =>
   have q1:=bne_eq_false_iff_eq.1 h1
   have e:=Eq.refl (nK a0);conv at e=>rhs;simp only [nK,h0,h1,aW]
   rw [e]
   exact rt (t1++[.d h1,.u 0,.F]) [] [] hcx (by kernel_rfl)
def aEc (a0:TyB×Int)(a1:Int)(a2:Int):Int :=
 (nK ((nJ (gI (a0.1.1,a0.1.2.1,(a0.1.2.2.1,a0.1.2.2.2)) a1 a0.2) (gI (a0.1.1,a0.1.2.1,(a0.1.2.2.1,a0.1.2.2.2)) a2 a0.2)),(nJ a1 a2)))
theorem bFe (a0:TyB×Int)(a1:Int)(a2:Int)(l0_1_1:a0.1.1.length<=2^63-1)(l0_1_2_2_1:a0.1.2.2.1.length<=2^63-1)(l0_1_2_2_2:a0.1.2.2.2.length<=2^63-1)(hi:0<=a1/\a1 < (a0.1.1.length:Int))(hk:0<=a2/\a2 < (a0.1.1.length:Int)):Con Tryz.prog 104 [(.a [(.p 0 0),(iv a0.2)]),(iv a1),(iv a2)] [(.live false false [(.s 1 0 a0.1.1.length 10),(iv a0.1.2.1),(.s 2 0 a0.1.2.2.1.length 1),(.s 3 0 a0.1.2.2.2.length 8)]),(.live false true (flat fK a0.1.1)),(.live false true (flat c3 a0.1.2.2.1)),(.live false true (flat dM a0.1.2.2.2))] (iv (aEc a0 a1 a2)) []:=by
 refine aU Tryz.func104 (by kernel_rfl) fun cx hcx=>?_
 have e:=Eq.refl (aEc a0 a1 a2);conv at e=>rhs;simp only [aEc]
 rw [e]
 exact rt [.c [0,1,2,3] (aPv (a0.1.1,a0.1.2.1,(a0.1.2.2.1,a0.1.2.2.2)) a1 a0.2 (by(try simp only [Lt]);omega) (by(try simp only [Lt]);omega) (by(try simp only [Lt]);omega) (by first | exact hi | exact hk)),.c [0,1,2,3] (aPv (a0.1.1,a0.1.2.1,(a0.1.2.2.1,a0.1.2.2.2)) a2 a0.2 (by(try simp only [Lt]);omega) (by(try simp only [Lt]);omega) (by(try simp only [Lt]);omega) (by first | exact hi | exact hk)),.c [] (bC7 (gI (a0.1.1,a0.1.2.1,(a0.1.2.2.1,a0.1.2.2.2)) a1 a0.2) (gI (a0.1.1,a0.1.2.1,(a0.1.2.2.1,a0.1.2.2.2)) a2 a0.2)),.c [] (bC7 a1 a2),.c [5] (aZ3 ((nJ (gI (a0.1.1,a0.1.2.1,(a0.1.2.2.1,a0.1.2.2.2)) a1 a0.2) (gI (a0.1.1,a0.1.2.1,(a0.1.2.2.1,a0.1.2.2.2)) a2 a0.2)),(nJ a1 a2)))] [] [] hcx (by kernel_rfl)
noncomputable def nL:Code:=(aO [1,0,1,0,1] [0] (aI Tryz.f182) []).1
noncomputable def nM (m0:Nat):List K:=(aO [1,0,1,0,1] [m0] (aI Tryz.f182) []).2
def lW (a0:List Int)(a0_o:Nat)(a0_n:Nat)(a1:Int)(a2:Int)(a3:TyB×Int)(v5c:List SV)(v5n:Nat)(v6 v7:Int):LS:=⟨jH 53 [(0,(.s 0 (0+a0_o*1) a0_n 1)),(1,(iv a1)),(2,(iv a2)),(3,(.f 1000104 [(.a [(.p 1 0),(iv a3.2)])])),(8,(iv v6)),(9,(iv v7))],[(.live true true v5c),(.live false false [(.s 2 0 a3.1.1.length 10),(iv a3.1.2.1),(.s 0 0 v5n 1),(.s 3 0 a3.1.2.2.2.length 8)]),(.live false true (flat fK a3.1.1)),(.live false true (flat dM a3.1.2.2.2))]⟩
def cA (a0:List Int)(a0_o:Nat)(a0_n:Nat)(a1:Int)(a2:Int)(a3:TyB×Int):List Int×Int×Int->(List Int×Int×Int)⊕((List Int×Int)⊕(List Int))
 | (v5,v6,v7) =>
  (bif (decide ((v7:Int) > a1)) then
   (bif (decide (((aEc ((a3.1.1,a3.1.2.1,(v5,a3.1.2.2.2)),a3.2) (v5.getD (a0_o+tN v7) dF) (v5.getD (a0_o+tN (W (v7 - 1))) dF)):Int) < 0)) then
    (.inl (((v5.set (a0_o+tN v7) (v5.getD (a0_o+tN (W (v7 - 1))) dF)).set (a0_o+tN (W (v7 - 1))) (v5.getD (a0_o+tN v7) dF)),v6,(W (v7 - 1))))
   else
    (.inr (.inl (v5,(v6+1)))))
  else
   (.inr (.inl (v5,(v6+1)))))
noncomputable def hH:Code:=(aO [1] [] (aI Tryz.f182) []).1
noncomputable def hO:List K:=(aO [1] [] (aI Tryz.f182) []).2
def gL (a0:List Int)(a0_o:Nat)(a0_n:Nat)(a1:Int)(a2:Int)(a3:TyB×Int)(v3c:List SV)(v3n:Nat)(v4:Int):LS:=⟨jH 53 [(0,(.s 0 (0+a0_o*1) a0_n 1)),(1,(iv a1)),(2,(iv a2)),(3,(.f 1000104 [(.a [(.p 1 0),(iv a3.2)])])),(8,(iv v4))],[(.live true true v3c),(.live false false [(.s 2 0 a3.1.1.length 10),(iv a3.1.2.1),(.s 0 0 v3n 1),(.s 3 0 a3.1.2.2.2.length 8)]),(.live false true (flat fK a3.1.1)),(.live false true (flat dM a3.1.2.2.2))]⟩
def cQ (a0:List Int)(a0_o:Nat)(a0_n:Nat)(a1:Int)(a2:Int)(a3:TyB×Int):List Int×Int->(List Int×Int)⊕(List Int)
 | (v3,v4) =>
  (bif (decide ((v4:Int) < a2)) then
   (aA (cA a0 a0_o a0_n a1 a2 a3) (tN (v4 - a1)+1) (v3,v4,v4))
  else
   (.inr v3))
theorem aEd (a0:List Int)(a0_o:Nat)(a0_n:Nat)(a1:Int)(a2:Int)(a3:TyB×Int)(l0:a0.length<=2^63-1)(l3_1_1:a3.1.1.length<=2^63-1)(l3_1_2_2_1:a3.1.2.2.1.length<=2^63-1)(l3_1_2_2_2:a3.1.2.2.2.length<=2^63-1)(hw:a0_o+a0_n<=a0.length/\a0.length<=1048576)(hr:InR a3.1.1.length a0)(hab:0<=a1/\a1<=a2/\a2<=↑a0_n) {cx:Cx} (hcx:cx.base=4)
 (n0:Nat) (g0:∀(v3:List Int) (v4:Int),(0<=v4)/\(v3.length=a0.length)/\(InR a3.1.1.length v3)/\(a1 < v4)/\(v4<=a2+1)->tN (a2 - v4) < n0->Aw.Good Tryz.prog none 9 (bodyPost Tryz.prog Tryz.f182 (RR cx (.t []) [] [(.live true true (flat c3 (aA (cQ a0 a0_o a0_n a1 a2 a3) n0 (v3,v4)))),.un,.un,.un])) cx [] (.l hH n0::hO) (gL a0 a0_o a0_n a1 a2 a3 (flat c3 v3) v3.length v4)):∀(n:Nat) (v5:List Int) (v6 v7:Int),(v5.length=a0.length)/\(InR a3.1.1.length v5)/\(a1<=v7)/\(v7<=v6)/\(a1 < v6)/\(v6 < a2)/\((0<=v6))/\((v5.length=a0.length))/\((InR a3.1.1.length v5))/\((a1 < v6))/\((v6<=a2+1))/\(v6 < a2)/\(tN (a2 - v6) < n0+1)->tN (v7 - a1) < n->Aw.Good Tryz.prog none 9 (bodyPost Tryz.prog Tryz.f182 (RR cx (.t []) [] [(.live true true (flat c3 (bB (cQ a0 a0_o a0_n a1 a2 a3) n0 (aA (cA a0 a0_o a0_n a1 a2 a3) n (v5,v6,v7))))),.un,.un,.un])) cx [] (.l nL n::nM n0) (lW a0 a0_o a0_n a1 a2 a3 (flat c3 v5) v5.length v6 v7):=by
 intro n
 induction n with
 | zero=>intro v5 v6 v7 hi hn;exact absurd hn (fO _)
 | succ n ih =>
  intro v5 v6 v7 hi hn
  refine aT ?_
  have hw_s9m1:=aH (n:=v7 - 1) (by omega) (by omega)
  cases h0:(decide ((v7:Int) > a1)) with
  | true =>
   have q0:=dL h0
   let t1:List (St Tryz.prog):=[.d h0,.i v7 a0_n,aPu cZ v5 a0_o v7 0 1,.i (W (v7 - 1)) a0_n,aPu cZ v5 a0_o (W (v7 - 1)) 0 1,.c [1,2,0,3] (bFe ((a3.1.1,a3.1.2.1,(v5,a3.1.2.2.2)),a3.2) (v5.getD (a0_o+tN v7) dF) (v5.getD (a0_o+tN (W (v7 - 1))) dF) (by(try simp only [Lt]);omega) (by(try simp only [Lt]);omega) (by(try simp only [Lt]);omega) (hi.2.1.at (by omega)) (hi.2.1.at (by omega)))]
   cases h1:(decide (((aEc ((a3.1.1,a3.1.2.1,(v5,a3.1.2.2.2)),a3.2) (v5.getD (a0_o+tN v7) dF) (v5.getD (a0_o+tN (W (v7 - 1))) dF)):Int) < 0)) with
   | true =>
    have q1:=dL h1
    have e:=Eq.refl (cA a0 a0_o a0_n a1 a2 a3 (v5,v6,v7));conv at e=>rhs;simp only [cA,h0,h1,aW]
    rw [aB e]
    refine ba (t1++[.d h1,.i (W (v7 - 1)) a0_n,aPu cZ v5 a0_o (W (v7 - 1)) 0 1,.i v7 a0_n,aPu cZ v5 a0_o v7 0 1,.i v7 a0_n,.p (show((0+a0_o*1+tN v7*1)+1<=(flat c3 v5).length) from(aCp cZ (by first | omega | (simp only [Lt];omega)) (o:=0) (Nb rfl))),.i (W (v7 - 1)) a0_n,.p (show((0+a0_o*1+tN (W (v7 - 1))*1)+1<=(splice (flat c3 v5) (0+a0_o*1+tN v7*1) [(iv (v5.getD (a0_o+tN (W (v7 - 1))) dF))]).length) from(by rw [show(splice (flat c3 v5) (0+a0_o*1+tN v7*1) [(iv (v5.getD (a0_o+tN (W (v7 - 1))) dF))])=flat c3 (v5.set (a0_o+tN v7) (v5.getD (a0_o+tN (W (v7 - 1))) dF)) from(xV cZ (by first | omega | (simp only [Lt];omega)) (o:=0) (d:=dF) (Nb rfl) rfl)];exact aCp cZ (by first | omega | (simp only [Lt];omega)) (o:=0) (Nb rfl)))]) [] [0,1,2,3,8,9] [] hcx (m:=n) nL (nM n0) (lW a0 a0_o a0_n a1 a2 a3 (splice (splice (flat c3 v5) (0+a0_o*1+tN v7*1) [(iv (v5.getD (a0_o+tN (W (v7 - 1))) dF))]) (0+a0_o*1+tN (W (v7 - 1))*1) [(iv (v5.getD (a0_o+tN v7) dF))]) (v5.length) v6 (W (v7 - 1))) (by kernel_rfl) ?_
    have z0:(splice (splice (flat c3 v5) (0+a0_o*1+tN v7*1) [(iv (v5.getD (a0_o+tN (W (v7 - 1))) dF))]) (0+a0_o*1+tN (W (v7 - 1))*1) [(iv (v5.getD (a0_o+tN v7) dF))])=flat c3 ((v5.set (a0_o+tN v7) (v5.getD (a0_o+tN (W (v7 - 1))) dF)).set (a0_o+tN (W (v7 - 1))) (v5.getD (a0_o+tN v7) dF)):=(by rw [show(splice (flat c3 v5) (0+a0_o*1+tN v7*1) [(iv (v5.getD (a0_o+tN (W (v7 - 1))) dF))])=flat c3 (v5.set (a0_o+tN v7) (v5.getD (a0_o+tN (W (v7 - 1))) dF)) from(xV cZ (by first | omega | (simp only [Lt];omega)) (o:=0) (d:=dF) (Nb rfl) rfl)];exact xV cZ (by first | omega | (simp only [Lt];omega)) (o:=0) (d:=dF) (Nb rfl) rfl)
    have z1:v5.length=((v5.set (a0_o+tN v7) (v5.getD (a0_o+tN (W (v7 - 1))) dF)).set (a0_o+tN (W (v7 - 1))) (v5.getD (a0_o+tN v7) dF)).length:=by simp
    rw [z0,z1]
    exact ih ((v5.set (a0_o+tN v7) (v5.getD (a0_o+tN (W (v7 - 1))) dF)).set (a0_o+tN (W (v7 - 1))) (v5.getD (a0_o+tN v7) dF)) v6 (W (v7 - 1)) (by refine⟨?_,?_,?_,?_,?_,?_,?_,?_,?_,?_,?_,?_,?_⟩<;>first | omega | assumption | exact hi.2.1 | exact hi.2.2.1 | (simp only [Lt];omega) | exact InR.swap hi.2.1 (by omega) (by omega)) (by(try simp only [Ls]);omega)
   | false =>
    have q1:=eH h1
    have e:=Eq.refl (cA a0 a0_o a0_n a1 a2 a3 (v5,v6,v7));conv at e=>rhs;simp only [cA,h0,h1,aW]
    rw [aN,e]
    refine ba (t1++[.d h1]) [] [0,1,2,3,8] [] hcx (m:=n0) hH (hO) (gL a0 a0_o a0_n a1 a2 a3 (flat c3 v5) (v5.length) (W (v6+1))) (by kernel_rfl) ?_
    have z0:(W (v6+1))=(v6+1):=aH (by omega) (by omega)
    rw [z0]
    exact g0 v5 (v6+1) (by refine⟨?_,?_,?_,?_⟩<;>first | omega | assumption | exact hi.2.1 | exact hi.2.2.1 | (simp only [Lt];omega) | exact InR.swap hi.2.1 (by omega) (by omega)) (by(try simp only [Ls]);omega)
  | false =>
   have q0:=eH h0
   have e:=Eq.refl (cA a0 a0_o a0_n a1 a2 a3 (v5,v6,v7));conv at e=>rhs;simp only [cA,h0,aW]
   rw [aN,e]
   refine ba [.d h0] [] [0,1,2,3,8] [] hcx (m:=n0) hH (hO) (gL a0 a0_o a0_n a1 a2 a3 (flat c3 v5) (v5.length) (W (v6+1))) (by kernel_rfl) ?_
   have z0:(W (v6+1))=(v6+1):=aH (by omega) (by omega)
   rw [z0]
   exact g0 v5 (v6+1) (by refine⟨?_,?_,?_,?_⟩<;>first | omega | assumption | exact hi.2.1 | exact hi.2.2.1 | (simp only [Lt];omega) | exact InR.swap hi.2.1 (by omega) (by omega)) (by(try simp only [Ls]);omega)
theorem aEe (a0:List Int)(a0_o:Nat)(a0_n:Nat)(a1:Int)(a2:Int)(a3:TyB×Int)(l0:a0.length<=2^63-1)(l3_1_1:a3.1.1.length<=2^63-1)(l3_1_2_2_1:a3.1.2.2.1.length<=2^63-1)(l3_1_2_2_2:a3.1.2.2.2.length<=2^63-1)(hw:a0_o+a0_n<=a0.length/\a0.length<=1048576)(hr:InR a3.1.1.length a0)(hab:0<=a1/\a1<=a2/\a2<=↑a0_n) {cx:Cx} (hcx:cx.base=4):∀(n:Nat) (v3:List Int) (v4:Int),(0<=v4)/\(v3.length=a0.length)/\(InR a3.1.1.length v3)/\(a1 < v4)/\(v4<=a2+1)->tN (a2 - v4) < n->Aw.Good Tryz.prog none 9 (bodyPost Tryz.prog Tryz.f182 (RR cx (.t []) [] [(.live true true (flat c3 (aA (cQ a0 a0_o a0_n a1 a2 a3) n (v3,v4)))),.un,.un,.un])) cx [] (.l hH n::hO) (gL a0 a0_o a0_n a1 a2 a3 (flat c3 v3) v3.length v4):=by
 intro n
 induction n with
 | zero=>intro v3 v4 hi hn;exact absurd hn (fO _)
 | succ n ih =>
  intro v3 v4 hi hn
  refine aT ?_
  have hw_s8p1:=aH (n:=v4+1) (by omega) (by omega)
  cases h0:(decide ((v4:Int) < a2)) with
  | true =>
   have q0:=dL h0
   have e:=Eq.refl (cQ a0 a0_o a0_n a1 a2 a3 (v3,v4));conv at e=>rhs;simp only [cQ,h0,aW]
   rw [aN,e]
   refine en [.d h0] [] [0,1,2,3,8,9] [] hcx nL (nM n) (lW a0 a0_o a0_n a1 a2 a3 (flat c3 v3) (v3.length) v4 v4) (tN (v4 - a1)+1) (by kernel_rfl) ?_
   exact aEd a0 a0_o a0_n a1 a2 a3 l0 l3_1_1 l3_1_2_2_1 l3_1_2_2_2 hw hr hab hcx n ih (tN (v4 - a1)+1) v3 v4 v4 (by refine⟨?_,?_,?_,?_,?_,?_,?_,?_,?_,?_,?_,?_,?_⟩<;>first | omega | assumption | exact hi.2.1 | exact hi.2.2.1 | (simp only [Lt];omega) | exact InR.swap hi.2.1 (by omega) (by omega)) (by(try simp only [Ls]);omega)
  | false =>
   have q0:=eH h0
   have e:=Eq.refl (cQ a0 a0_o a0_n a1 a2 a3 (v3,v4));conv at e=>rhs;simp only [cQ,h0,aW]
   rw [aN,e]
   try dsimp only [bB]
   try dsimp only
   exact rtn [.d h0] [] [0] [] hcx (by kernel_rfl)
def eF (a0:List Int)(a0_o:Nat)(a0_n:Nat)(a1:Int)(a2:Int)(a3:TyB×Int):List Int :=
 (aA (cQ a0 a0_o a0_n a1 a2 a3) (tN (a2 - (W (a1+1)))+1) (a0,(W (a1+1))))
theorem aIx (a0:List Int)(a0_o:Nat)(a0_n:Nat)(a1:Int)(a2:Int)(a3:TyB×Int)(l0:a0.length<=2^63-1)(l3_1_1:a3.1.1.length<=2^63-1)(l3_1_2_2_1:a3.1.2.2.1.length<=2^63-1)(l3_1_2_2_2:a3.1.2.2.2.length<=2^63-1)(hw:a0_o+a0_n<=a0.length/\a0.length<=1048576)(hr:InR a3.1.1.length a0)(hab:0<=a1/\a1<=a2/\a2<=↑a0_n):Con Tryz.prog 182 [(.s 0 (0+a0_o*1) a0_n 1),(iv a1),(iv a2),(.f 1000104 [(.a [(.p 1 0),(iv a3.2)])])] [(.live true true (flat c3 a0)),(.live false false [(.s 2 0 a3.1.1.length 10),(iv a3.1.2.1),(.s 0 0 a0.length 1),(.s 3 0 a3.1.2.2.2.length 8)]),(.live false true (flat fK a3.1.1)),(.live false true (flat dM a3.1.2.2.2))] (.t []) [] [(.live true true (flat c3 (eF a0 a0_o a0_n a1 a2 a3))),.un,.un,.un]:=by
 refine aU Tryz.func182 (by kernel_rfl) fun cx hcx=>?_
 have hw_a:=aH (n:=a1+1) (by omega) (by omega)
 have e:=Eq.refl (eF a0 a0_o a0_n a1 a2 a3);conv at e=>rhs;simp only [eF]
 rw [e]
 refine en [] [] [0,1,2,3,8] [] hcx hH (hO) (gL a0 a0_o a0_n a1 a2 a3 (flat c3 a0) (a0.length) (W (a1+1))) (tN (a2 - (W (a1+1)))+1) (by kernel_rfl) ?_
 exact aEe a0 a0_o a0_n a1 a2 a3 l0 l3_1_1 l3_1_2_2_1 l3_1_2_2_2 hw hr hab hcx (tN (a2 - (W (a1+1)))+1) a0 (W (a1+1)) (by refine⟨?_,?_,?_,?_⟩<;>first | omega | assumption | exact hi.2.1 | exact hi.2.2.1 | (simp only [Lt];omega) | exact InR.swap hi.2.1 (by omega) (by omega)) (by(try simp only [Ls]);omega)
def zS:Go.Shelf.Ren:=⟨fun | 15=>150 | 28=>190 | 29=>191 | n=>n,fun | 39=>126 | 3=>3 | 53=>187 | 55=>173 | 4=>4 | 5=>5 | 9=>9 | n=>n,fun | n=>n⟩
theorem aVs:Go.Proofs.SlLaysF0.n15 Tryz.prog zS:={
 mixed:=by kernel_rfl
 f15:=Tryz.func150.trans (congrArg some (by kernel_rfl))
 f28:=Tryz.func190.trans (congrArg some (by kernel_rfl))
 f29:=Tryz.func191.trans (congrArg some (by kernel_rfl))
 t3:=Tryz.underlying3
 a3:=Tryz.isAgg3
 z3:=Tryz.sizeOf3
 v3:=Tryz.zeroValue3
 t4:=Tryz.underlying4
 a4:=Tryz.isAgg4
 z4:=Tryz.sizeOf4
 v4:=Tryz.zeroValue4
 t5:=Tryz.underlying5
 a5:=Tryz.isAgg5
 z5:=Tryz.sizeOf5
 v5:=Tryz.zeroValue5
 t9:=Tryz.underlying9
 a9:=Tryz.isAgg9
 z9:=Tryz.sizeOf9
 v9:=Tryz.zeroValue9
 t39:=Tryz.underlying126
 a39:=Tryz.isAgg126
 z39:=Tryz.sizeOf126
 v39:=Tryz.zeroValue126
 t53:=Tryz.underlying187
 a53:=Tryz.isAgg187
 z53:=Tryz.sizeOf187
 v53:=Tryz.zeroValue187
 t55:=Tryz.underlying173
 a55:=Tryz.isAgg173
 z55:=Tryz.sizeOf173
 v55:=Tryz.zeroValue173 }
def aVt (n:Int):Int:=(Lib.bitLen n.toNat:Nat)
theorem bFf (a0:Int)(hn:0<=a0/\a0<=18446744073709551615):Con Tryz.prog 150 [.v (.int .u64 a0)] [] (iv (aVt a0)) []:=by
 refine⟨ent Tryz.func150 (by kernel_rfl) rfl,fun ρ W vs hr hb hpl hap hfz=>?_⟩
 match vs,hr with
 | [],hr=>simp [Rels] at hr
 | _::_::_,hr=>simp [Rels] at hr
 | [v1],hr =>
 simp only [Rels,and_true,Rel] at hr
 subst hr
 have h:=Any.bits_Len (SlLaysF0.n15.bits (ρ:=zS) aVs) a0 W hn.1 hn.2
 refine h.mono fun e w' ⟨he,hw⟩=>?_
 subst hw
 have un1:∀m j,cI m ([]:List BK) [] j=.un:=fun m j=>by unfold cI;simp
 exact⟨ρ,_,he,fun _ _=>rfl,by simp only [iv,Rel];rfl,Kept.refl _ _,fun j=>by rw [un1];trivial,fun j=>by rw [un1];trivial,fun i j b n b' n' _ o1=>by rw [un1] at o1;exact o1.elim,ρ.le_refl,fun b o hb=>⟨(hfz b o hb).1,fun j m o1=>by rw [un1] at o1;exact o1.elim,.inl hb⟩⟩
noncomputable def tC:Code:=(aO [1,1] [] (aI Tryz.f149) []).1
noncomputable def tD:List K:=(aO [1,1] [] (aI Tryz.f149) []).2
def qW (a0:List Int)(a0_o:Nat)(a0_n:Nat)(a1:Int)(a2:Int)(a3:Int)(a4:TyB×Int):LS:=⟨jH 148 [(0,(.s 0 (0+a0_o*1) a0_n 1)),(1,(iv a1)),(2,(iv a2)),(3,(iv a3)),(4,(.f 1000104 [(.a [(.p 1 0),(iv a4.2)])])),(10,(.v (.bool true))),(11,(.v (.bool true)))],[(.live true true (flat c3 a0)),(.live false false [(.s 2 0 a4.1.1.length 10),(iv a4.1.2.1),(.s 0 0 a0.length 1),(.s 3 0 a4.1.2.2.2.length 8)]),(.live false true (flat fK a4.1.1)),(.live false true (flat dM a4.1.2.2.2))]⟩
def hZ (a0:List Int)(a0_o:Nat)(a0_n:Nat)(a1:Int)(a2:Int)(a3:Int)(a4:TyB×Int):Unit->(Unit)⊕(List Int)
 | () =>
  (bif (decide (((W (a2 - a1)):Int)<=12)) then
   (.inr (eF a0 a0_o a0_n a1 a2 ((a4.1.1,a4.1.2.1,(a0,a4.1.2.2.2)),a4.2)))
  else
   (.inr dF))
theorem aEf (a0:List Int)(a0_o:Nat)(a0_n:Nat)(a1:Int)(a2:Int)(a3:Int)(a4:TyB×Int)(l0:a0.length<=2^63-1)(l4_1_1:a4.1.1.length<=2^63-1)(l4_1_2_2_1:a4.1.2.2.1.length<=2^63-1)(l4_1_2_2_2:a4.1.2.2.2.length<=2^63-1)(hw:a0_o+a0_n<=a0.length/\a0.length<=1048576)(hr:InR a4.1.1.length a0)(hab:0<=a1/\a1<=a2/\a2<=↑a0_n)(h12:a2 - a1<=12) {cx:Cx} (hcx:cx.base=4):∀(n:Nat),True->0 < n->Aw.Good Tryz.prog none 9 (bodyPost Tryz.prog Tryz.f149 (RR cx (.t []) [] [(.live true true (flat c3 (aA (hZ a0 a0_o a0_n a1 a2 a3 a4) n ()))),.un,.un,.un])) cx [] (.l tC n::tD) (qW a0 a0_o a0_n a1 a2 a3 a4):=by
 intro n
 induction n with
 | zero=>intro hi hn;exact absurd hn (fO _)
 | succ n ih =>
  intro hi hn
  refine aT ?_
  cases h0:(decide (((W (a2 - a1)):Int)<=12)) with
  | true =>
   have q0:=dL h0
   have e:=Eq.refl (hZ a0 a0_o a0_n a1 a2 a3 a4 ());conv at e=>rhs;simp only [hZ,h0,aW]
   rw [aN,e]
   try dsimp only [bB]
   try dsimp only
   try rw [show List.length (α:=Int) (eF a0 a0_o a0_n a1 a2 ((a4.1.1,a4.1.2.1,(a0,a4.1.2.2.2)),a4.2))=a0.length from by first | simp;done | omega]
   exact rtm [.d h0,.c [0,1,2,3] (aIx a0 a0_o a0_n a1 a2 ((a4.1.1,a4.1.2.1,(a0,a4.1.2.2.2)),a4.2) (by(try simp only [Lt]);omega) (by(try simp only [Lt]);omega) (by(try simp only [Lt]);omega) (by(try simp only [Lt]);omega) hw hr hab)] [] [0] [] hcx (by kernel_rfl)
  | false =>
   have q0:=eH h0
   exfalso;have hw_l:=aH (n:=a2 - a1) (by omega) (by omega);omega
def iN (a0:List Int)(a0_o:Nat)(a0_n:Nat)(a1:Int)(a2:Int)(a3:Int)(a4:TyB×Int):List Int :=
 (aA (hZ a0 a0_o a0_n a1 a2 a3 a4) (0+1) ())
theorem aIy (a0:List Int)(a0_o:Nat)(a0_n:Nat)(a1:Int)(a2:Int)(a3:Int)(a4:TyB×Int)(l0:a0.length<=2^63-1)(l4_1_1:a4.1.1.length<=2^63-1)(l4_1_2_2_1:a4.1.2.2.1.length<=2^63-1)(l4_1_2_2_2:a4.1.2.2.2.length<=2^63-1)(hw:a0_o+a0_n<=a0.length/\a0.length<=1048576)(hr:InR a4.1.1.length a0)(hab:0<=a1/\a1<=a2/\a2<=↑a0_n)(h12:a2 - a1<=12):Con Tryz.prog 149 [(.s 0 (0+a0_o*1) a0_n 1),(iv a1),(iv a2),(iv a3),(.f 1000104 [(.a [(.p 1 0),(iv a4.2)])])] [(.live true true (flat c3 a0)),(.live false false [(.s 2 0 a4.1.1.length 10),(iv a4.1.2.1),(.s 0 0 a0.length 1),(.s 3 0 a4.1.2.2.2.length 8)]),(.live false true (flat fK a4.1.1)),(.live false true (flat dM a4.1.2.2.2))] (.t []) [] [(.live true true (flat c3 (iN a0 a0_o a0_n a1 a2 a3 a4))),.un,.un,.un]:=by
 refine aU Tryz.func149 (by kernel_rfl) fun cx hcx=>?_
 have e:=Eq.refl (iN a0 a0_o a0_n a1 a2 a3 a4);conv at e=>rhs;simp only [iN]
 rw [e]
 refine en [] [] [0,1,2,3,4,10,11] [] hcx tC (tD) (qW a0 a0_o a0_n a1 a2 a3 a4) (0+1) (by kernel_rfl) ?_
 exact aEf a0 a0_o a0_n a1 a2 a3 a4 l0 l4_1_1 l4_1_2_2_1 l4_1_2_2_2 hw hr hab h12 hcx (0+1) trivial (by(try simp only [Ls]);omega)
def eV (a0:List Int)(a0_o:Nat)(a0_n:Nat)(a1:TyB×Int):List Int :=
 (iN a0 a0_o a0_n 0 ((a0_n:Nat):Int) (aVt (IntKind.wrap .u64 ((a0_n:Nat):Int))) ((a1.1.1,a1.1.2.1,(a0,a1.1.2.2.2)),a1.2))
theorem aIz (a0:List Int)(a0_o:Nat)(a0_n:Nat)(a1:TyB×Int)(l0:a0.length<=2^63-1)(l1_1_1:a1.1.1.length<=2^63-1)(l1_1_2_2_1:a1.1.2.2.1.length<=2^63-1)(l1_1_2_2_2:a1.1.2.2.2.length<=2^63-1)(hw:a0_o+a0_n<=a0.length/\a0.length<=1048576)(hr:InR a1.1.1.length a0)(h12:a0_n<=12):Con Tryz.prog 102 [(.s 0 (0+a0_o*1) a0_n 1),(.f 1000104 [(.a [(.p 1 0),(iv a1.2)])])] [(.live true true (flat c3 a0)),(.live false false [(.s 2 0 a1.1.1.length 10),(iv a1.1.2.1),(.s 0 0 a0.length 1),(.s 3 0 a1.1.2.2.2.length 8)]),(.live false true (flat fK a1.1.1)),(.live false true (flat dM a1.1.2.2.2))] (.t []) [] [(.live true true (flat c3 (eV a0 a0_o a0_n a1))),.un,.un,.un]:=by
 refine aU Tryz.func102 (by kernel_rfl) fun cx hcx=>?_
 have e:=Eq.refl (eV a0 a0_o a0_n a1);conv at e=>rhs;simp only [eV]
 rw [e]
 try dsimp only [bB]
 try dsimp only
 try rw [show List.length (α:=Int) (iN a0 a0_o a0_n 0 ((a0_n:Nat):Int) (aVt (IntKind.wrap .u64 ((a0_n:Nat):Int))) ((a1.1.1,a1.1.2.1,(a0,a1.1.2.2.2)),a1.2))=a0.length from by first | simp;done | omega]
 exact rtn [.c [] (bFf (IntKind.wrap .u64 ((a0_n:Nat):Int))  (by rw [IntKind.wrap_u64];omega)),.c [0,1,2,3] (aIy a0 a0_o a0_n 0 ((a0_n:Nat):Int) (aVt (IntKind.wrap .u64 ((a0_n:Nat):Int))) ((a1.1.1,a1.1.2.1,(a0,a1.1.2.2.2)),a1.2) (by(try simp only [Lt]);omega) (by(try simp only [Lt]);omega) (by(try simp only [Lt]);omega) (by(try simp only [Lt]);omega) hw hr (by omega) (by omega))] [] [0] [] hcx (by kernel_rfl)
abbrev SBC:=TyB×Int
def sP (c:SBC)(x y:Int):Bool:=decide (aEc c x y < 0)
theorem aVu (c:SBC)(v:List Int)(x y:Int):aEc ((c.1.1,c.1.2.1,(v,c.1.2.2.2)),c.2) x y=aEc c x y:=rfl
theorem aVv (c:SBC)(x y:Int):decide (aEc c x y < 0)=sP c x y:=rfl
def wp (l:List Int)(o:Nat)(d:Array Int):List Int:=l.take o++d.toList++l.drop (o+d.size)
def sQ (l:List Int)(o n:Nat):Array Int:=((l.drop o).take n).toArray
theorem lH {l:List Int} {o n:Nat} (h:o+n<=l.length):(sQ l o n).size=n:=by unfold sQ;simp;omega
section
variable {l : List Int} {o : Nat} {d : Array Int}
theorem aSe (h:o+d.size<=l.length):(wp l o d).length=l.length:=by unfold wp;simp;omega
theorem xW (h:o+d.size<=l.length) {i:Nat} (hi:i < d.size):(wp l o d).getD (o+i) dF=d[i]! := by
 unfold wp
 have h1:(l.take o++d.toList).length=o+d.size:=by simp;omega
 rw [cV,List.getElem?_append_left (by omega),List.getElem?_append_right (by simp;omega)]
 rw [show o+i - (l.take o).length=i by simp;omega]
 rw [getElem!_pos d i hi]
 simp [hi]
theorem aSf (h:o+d.size<=l.length) {i:Nat} (hi:i < d.size)(x:Int):(wp l o d).set (o+i) x=wp l o (d.setIfInBounds i x):=by
 unfold wp
 have h0:(l.take o).length=o:=by simp;omega
 rw [List.append_assoc,List.set_append_right _ _ (by omega),h0,show o+i - o=i by omega,List.set_append_left _ _ (by simpa using hi),List.append_assoc,Array.toList_setIfInBounds,Array.size_setIfInBounds]
theorem aSg (h:o+d.size<=l.length) {i j:Nat} (hi:i < d.size)(hj:j < d.size) :
 ((wp l o d).set (o+i) ((wp l o d).getD (o+j) dF)).set (o+j) ((wp l o d).getD (o+i) dF)=wp l o (Go.Sort.swp d i j):=by
 rw [xW h hi,xW h hj,aSf h hi,aSf (by simpa using h) (by simpa using hj)]
 rfl
theorem aLi {n:Nat} (h:o+n<=l.length):wp l o (sQ l o n)=l:=by
 unfold wp
 rw [lH h]
 unfold sQ
 have:(l.drop o).drop n=l.drop (o+n):=by rw [List.drop_drop]
 rw [←this,List.append_assoc]
 show l.take o++((l.drop o).take n++(l.drop o).drop n)=l
 rw [List.take_append_drop,List.take_append_drop]
theorem aI0 (d:Array Int)(i j:Nat):(Go.Sort.swp d i j).size=d.size:=by simp [Go.Sort.swp]
theorem wN {x:Int} {n:Nat} (h:x=(n:Int))(hn:n<=4611686018427387904):W x=(n:Int):=by rw [h];exact aH (by omega) (by omega)
end
section
variable {o n : Nat} {l l0 : List Int} {c : SBC}
theorem nN (lt:Int->Int->Bool)(a:Nat):∀(j:Nat) (d:Array Int),(Go.Sort.insInner lt a j d).size=d.size
 | 0,d=>rfl
 | j+1,d=>by
  rw [Go.Sort.insInner]
  split
  ·rw [nN lt a j,aI0]
  ·rfl
theorem aNn (hl:o+n<=l.length)(hn:n<=1048576) {a:Nat} {a2:Int}:∀(m:Nat) (d:Array Int) (j:Nat) (w:Int),d.size=n->j < n->j - a < m ->
 aA (cA l0 o n (a:Int) a2 c) m (wp l o d,w,(j:Int))=.inl (wp l o (Go.Sort.insInner (sP c) a j d),w+1)
 | 0,_,_,_,_,_,h=>absurd h (fO _)
 | m+1,d,0,w,hd,hj,hm=>by
  refine aC ?_
  simp only [cA]
  rw [cC (by omega),cond_false];rfl
 | m+1,d,j+1,w,hd,hj,hm=>by
  have hl':o+d.size<=l.length:=by omega
  have e1:W (((j+1:Nat):Int) - 1)=((j:Nat):Int):=wN (by omega) (by omega)
  rw [Go.Sort.insInner]
  by_cases h1:j+1 > a
  ·have e:cA l0 o n (a:Int) a2 c (wp l o d,w,((j+1:Nat):Int))=bif sP c d[j+1]! d[j]! then .inl (wp l o (Go.Sort.swp d (j+1) j),w,(j:Int)) else .inr (.inl (wp l o d,w+1)):=by
    simp only [cA,e1,eX,aVu,aVv]
    rw [bG (by omega),cond_true,aSg hl' (i:=j+1) (j:=j) (by omega) (by omega),xW hl' (i:=j+1) (by omega),xW hl' (i:=j) (by omega)]
   rw [bG h1,Bool.true_and]
   cases q:sP c d[j+1]! d[j]! with
   | true =>
    rw [q,cond_true] at e
    rw [aB e]
    exact aNn hl hn m _ j w (by rw [aI0];exact hd) (by omega) (by omega)
   | false=>rw [q,cond_false] at e;exact aC e
  ·rw [cC h1,Bool.false_and]
   refine aC ?_
   simp only [cA]
   rw [cC (by omega),cond_false];rfl
theorem aNo (hl:o+n<=l.length)(hn:n<=1048576) {a b:Nat} (hb:b<=n):∀(m:Nat) (d:Array Int) (i:Nat),d.size=n->b - i < m ->
 aA (cQ l0 o n (a:Int) (b:Int) c) m (wp l o d,(i:Int))=wp l o (Go.Sort.insOuter (sP c) a b i d)
 | 0,_,_,_,h=>absurd h (fO _)
 | m+1,d,i,hd,hm=>by
  rw [Go.Sort.insOuter]
  by_cases h1:i < b
  ·rw [if_pos h1]
   have e:cQ l0 o n (a:Int) (b:Int) c (wp l o d,(i:Int))=aA (cA l0 o n (a:Int) (b:Int) c) (tN ((i:Int) - a)+1) (wp l o d,(i:Int),(i:Int)):=by
    simp only [cQ];rw [bG (by omega),cond_true]
   rw [aB (e.trans (aNn hl hn _ d i _ hd (by omega) (by omega)))]
   exact aNo hl hn hb m _ (i+1) (by rw [nN];exact hd) (by omega)
  ·rw [if_neg h1]
   refine aC ?_
   simp only [cQ];rw [cC (by omega),cond_false]
theorem aSh {d:Array Int} (hl:o+n<=l.length)(hn:n<=1048576) {a b:Nat} (hb:b<=n)(ha:a<=n)(hd:d.size=n):eF (wp l o d) o n (a:Int) (b:Int) c=wp l o (Go.Sort.insertionSort (sP c) d a b):=by
 unfold eF
 rw [wN (n:=a+1) (by omega) (by omega)]
 exact aNo hl hn hb _ d (a+1) hd (by omega)
end
section
open Go.Sort
theorem aNp (x y:Int):nJ x y=if x < y then -1 else if y < x then 1 else 0:=by
 have hn:∀z:Int,aCq z=false:=fun z=>by unfold aCq;simp
 unfold nJ
 rw [hn,hn,cond_false,cond_false]
 by_cases h:x < y
 ·rw [bG h,if_pos h];rfl
 ·rw [cC h,if_neg h,cond_false]
  by_cases h2:y < x
  ·rw [bG (show x > y from h2),if_pos h2];rfl
  ·rw [cC (show ¬x > y from h2),if_neg h2];rfl
def kk (c:SBC)(x:Int):Int:=gI c.1 x c.2
theorem aAw (c:SBC)(x y:Int):sP c x y=true↔kk c x < kk c y\/kk c x=kk c y/\x < y:=by
 have e:aEc c x y=nK (nJ (kk c x) (kk c y),nJ x y):=rfl
 unfold sP
 rw [decide_eq_true_iff,e,aNp,aNp]
 unfold nK
 by_cases h1:kk c x < kk c y
 ·simp [h1]
 ·by_cases h2:kk c y < kk c x
  ·simp [h1,h2];omega
  ·by_cases h3:x < y
   ·simp [h1,h2,h3];omega
   ·by_cases h4:y < x
    ·simp [h1,h2,h3,h4]
    ·simp [h1,h2,h3,h4]
theorem aI1 (c:SBC)(x y:Int):sP c x y=false↔¬(kk c x < kk c y\/kk c x=kk c y/\x < y):=by
 rw [←aAw];simp
theorem aAx (c:SBC):SWO (sP c) where
 irrefl x:=by rw [aI1];omega
 trans x y z h1 h2:=by rw [aAw] at *;omega
 ntrans x y z h1 h2:=by rw [aI1] at *;omega
theorem aVw (c:SBC)(x y:Int)(h1:sP c x y=false)(h2:sP c y x=false):x=y:=by
 rw [aI1] at *;omega
def Al (p:Int->Prop)(d:Array Int):Prop:=∀i,i < d.size->p d[i]!
variable {p : Int → Prop} {d d' : Array Int} {N o n : Nat} {l v : List Int} {c : SBC}
theorem Al.perm (h:Al p d) {a b:Nat} (hb:b<=d.size)(hp:PermIn a b d d'):Al p d':=fun k hk=>by
 by_cases hin:a<=k/\k < b
 ·exact permIn_all d d' a b p hb hp (fun i h1 h2=>h i (by omega)) k hin.1 hin.2
 ·rw [hp.2.1 k (by omega)];exact h k (by rw [←hp.1];exact hk)
theorem aZ4 (h:o+d.size<=l.length):InR N (wp l o d)↔(∀x∈l.take o++l.drop (o+d.size),0<=x/\x < (N:Int))/\Al (fun x=>0<=x/\x < (N:Int)) d:=by
 unfold InR wp Al
 constructor
 ·intro hx
  refine⟨fun x hm=>hx x ?_,fun i hi=>hx _ ?_⟩
  ·rcases List.mem_append.1 hm with hm | hm
   ·exact List.mem_append_left _ (List.mem_append_left _ hm)
   ·exact List.mem_append_right _ hm
  ·refine List.mem_append_left _ (List.mem_append_right _ ?_)
   rw [getElem!_pos d i hi]
   exact Array.mem_toList_iff.2 (Array.getElem_mem hi)
 ·rintro ⟨h1,h2⟩ x hm
  rcases List.mem_append.1 hm with hm | hm
  ·rcases List.mem_append.1 hm with hm | hm
   ·exact h1 x (List.mem_append_left _ hm)
   ·obtain⟨i,hi,rfl⟩:=List.getElem_of_mem hm
    have hi':i < d.size:=by simpa using hi
    have:=h2 i hi'
    rw [getElem!_pos d i hi'] at this
    simpa using this
  ·exact h1 x (List.mem_append_right _ hm)
theorem aZ5 (hl:o+n<=v.length)(hi:InR N v) {f:Array Int->Array Int} (hs:(f (sQ v o n)).size=n)(hf:∀p,Al p (sQ v o n)->Al p (f (sQ v o n))):(wp v o (f (sQ v o n))).length=v.length/\InR N (wp v o (f (sQ v o n))):=by
 refine⟨aSe (by omega),?_⟩
 have hz:(sQ v o n).size=n:=lH hl
 have h0:InR N (wp v o (sQ v o n)):=by rw [aLi hl];exact hi
 rw [aZ4 (by omega)] at h0 ⊢
 rw [hs];rw [hz] at h0
 exact⟨h0.1,hf _ h0.2⟩
theorem aSi (hl:o+n<=v.length)(hi:InR N v) {a b:Nat} (hb:b<=n)(hp:PermIn a b (sQ v o n) d'):(wp v o d').length=v.length/\InR N (wp v o d') :=
 aZ5 (f:=fun _=>d') hl hi (by rw [hp.1];exact lH hl) (fun p h=>h.perm (by rw [lH hl];exact hb) hp)
variable {a b q : Int}
theorem bC8 (hw:o+n<=v.length/\v.length<=1048576)(hi:InR N v)(h:0<=a/\a<=b/\b<=(n:Int)) :
 (eF v o n a b c).length=v.length/\InR N (eF v o n a b c):=by
 obtain⟨a,rfl⟩:∃k:Nat,a=k:=⟨a.toNat,by omega⟩
 obtain⟨b,rfl⟩:∃k:Nat,b=k:=⟨b.toNat,by omega⟩
 have hz:=lH hw.1
 have e:=aSh (l:=v) (c:=c) (d:=sQ v o n) hw.1 (by omega) (a:=a) (b:=b) (by omega) (by omega) hz
 rw [aLi hw.1] at e
 rw [e]
 exact aSi hw.1 hi (a:=a) (b:=b) (by omega) (insertionSort_holds (aAx c) _ a b (by omega) (by omega)).1
end
theorem aSj {o n:Nat} {v:List Int} {c:SBC} (h12:n<=12):eV v o n c=eF v o n ((0:Nat):Int) ((n:Nat):Int) ((c.1.1,c.1.2.1,(v,c.1.2.2.2)),c.2):=by
 unfold eV iN
 refine aC ?_
 simp only [hZ]
 rw [aH (n:=((n:Nat):Int) - 0) (by omega) (by omega),bG (show((n:Nat):Int) - 0<=12 by omega),cond_true]
 rfl
end Go.Proofs.YtlckcjfbjnjfhaaGreat
namespace Go.Proofs.YtlckcjfbjnjfhaaGreat
open Go.Proofs Go.Aw Go.RowKit
set_option maxRecDepth 100000
def dI (a0:Zt×Zt×Zt):Zt×Zt×Zt :=
 a0
theorem bFg (a0:Zt×Zt×Zt):Con Tryz.prog 144 [(.a (k9 a0))] [] (.a (k9 (dI a0))) []:=by
 refine aU Tryz.func144 (by kernel_rfl) fun cx hcx=>?_
 have e:=Eq.refl (dI a0);conv at e=>rhs;simp only [dI]
 rw [e]
 exact rt [] [] [] hcx (by kernel_rfl)
def aPw (a0:Int):Int :=
 (Int.fdiv a0 (2 ^ (min (tN 1) 64)))
theorem aZ6 (a0:Int):Con Tryz.prog 145 [(iv a0)] [] (iv (aPw a0)) []:=by
 refine aU Tryz.func145 (by kernel_rfl) fun cx hcx=>?_
 have e:=Eq.refl (aPw a0);conv at e=>rhs;simp only [aPw]
 rw [e]
 exact rt [.p (show 0<=(1:Int) from by decide)] [] [] hcx (by kernel_rfl)
noncomputable def xX:Code:=(aO [1,1,0,1] [] (aI Tryz.f99) []).1
noncomputable def xY:List K:=(aO [1,1,0,1] [] (aI Tryz.f99) []).2
def uM (a0:bE)(a1:List Int)(v2c:List SV)(v2n:Nat)(v3:Int):LS:=⟨jH 23 [(0,(.s 0 0 a0.length 10)),(5,(.s 2 0 v2n 10)),(8,(.s 1 0 a1.length 1)),(9,(iv (a1.length:Int))),(10,(iv v3))],[(.live false true (flat fK a0)),(.live false true (flat c3 a1)),(.live true true v2c)]⟩
def eS (a0:bE)(a1:List Int):bE×Int->(bE×Int)⊕bE
 | (v2,v3) =>
  (bif (decide ((v3:Int) < (a1.length:Int))) then
   (.inl ((v2++[(a0.getD (tN (a1.getD (tN v3) dF)) dF)]),(v3+1)))
  else
   (.inr v2))
theorem aPx (a0:bE)(a1:List Int)(l0:a0.length<=2^63-1)(l1:a1.length<=2^63-1)(hir:InR a0.length a1)(hl:a1.length<=1048576) {cx:Cx} (hcx:cx.base=2):∀(n:Nat) (v2:bE) (v3:Int),(0<=v3)/\(v2.length=tN v3)/\(v3<=a1.length)->tN ((a1.length:Int) - v3) < n->Aw.Good Tryz.prog none 9 (bodyPost Tryz.prog Tryz.f99 (RR cx (.s 2 0 (aA (eS a0 a1) n (v2,v3)).length 10) [(.live true true (flat fK (aA (eS a0 a1) n (v2,v3))))] [])) cx [] (.l xX n::xY) (uM a0 a1 (flat fK v2) v2.length v3):=by
 intro n
 induction n with
 | zero=>intro v2 v3 hi hn;exact absurd hn (fO _)
 | succ n ih =>
  intro v2 v3 hi hn
  refine aT ?_
  try have hr1:=hir.at (i:=tN v3) (by have _:=h0;omega)
  cases h0:(decide ((v3:Int) < (a1.length:Int))) with
  | true =>
   have q0:=dL h0
   try have hr1:=hir.at (i:=tN v3) (by have _:=h0;omega)
   have e:=Eq.refl (eS a0 a1 (v2,v3));conv at e=>rhs;simp only [eS,h0,aW]
   rw [aB e]
   refine ba [.d h0,.i v3 (a1.length),.L cZ a1 v3 0 1,.i (a1.getD (tN v3) dF) (a0.length),.L eO a0 (a1.getD (tN v3) dF) 0 10,.p (show((flat fK v2).length=v2.length*10/\v2.length+1<=2 ^ 40/\(v2.length+1)*80<=2 ^ 47) from lQ eO (by omega) (by omega))] [] [0,5,8,9,10] [4] hcx (m:=n) xX (xY) (uM a0 a1 (flat fK v2++[(iv (a0.getD (tN (a1.getD (tN v3) dF)) dF).1.1.1),(iv (a0.getD (tN (a1.getD (tN v3) dF)) dF).1.1.2.1),(iv (a0.getD (tN (a1.getD (tN v3) dF)) dF).1.1.2.2),(iv (a0.getD (tN (a1.getD (tN v3) dF)) dF).1.2.1.1),(iv (a0.getD (tN (a1.getD (tN v3) dF)) dF).1.2.1.2.1),(iv (a0.getD (tN (a1.getD (tN v3) dF)) dF).1.2.1.2.2),(iv (a0.getD (tN (a1.getD (tN v3) dF)) dF).1.2.2.1),(iv (a0.getD (tN (a1.getD (tN v3) dF)) dF).1.2.2.2.1),(iv (a0.getD (tN (a1.getD (tN v3) dF)) dF).1.2.2.2.2),(iv (a0.getD (tN (a1.getD (tN v3) dF)) dF).2)]) (v2.length+1) (W (v3+1))) (by kernel_rfl) ?_
   have z0:(W (v3+1))=(v3+1):=aH (by omega) (by omega)
   have z1:(flat fK v2++[(iv (a0.getD (tN (a1.getD (tN v3) dF)) dF).1.1.1),(iv (a0.getD (tN (a1.getD (tN v3) dF)) dF).1.1.2.1),(iv (a0.getD (tN (a1.getD (tN v3) dF)) dF).1.1.2.2),(iv (a0.getD (tN (a1.getD (tN v3) dF)) dF).1.2.1.1),(iv (a0.getD (tN (a1.getD (tN v3) dF)) dF).1.2.1.2.1),(iv (a0.getD (tN (a1.getD (tN v3) dF)) dF).1.2.1.2.2),(iv (a0.getD (tN (a1.getD (tN v3) dF)) dF).1.2.2.1),(iv (a0.getD (tN (a1.getD (tN v3) dF)) dF).1.2.2.2.1),(iv (a0.getD (tN (a1.getD (tN v3) dF)) dF).1.2.2.2.2),(iv (a0.getD (tN (a1.getD (tN v3) dF)) dF).2)])=(flat fK (v2++[(a0.getD (tN (a1.getD (tN v3) dF)) dF)])):=(cW (c:=fK) (l:=v2) (m:=[(a0.getD (tN (a1.getD (tN v3) dF)) dF)])).symm
   have z2:(v2.length+1)=(v2++[(a0.getD (tN (a1.getD (tN v3) dF)) dF)]).length:=kZ v2 [(a0.getD (tN (a1.getD (tN v3) dF)) dF)] rfl
   rw [z0,z1,z2]
   exact ih (v2++[(a0.getD (tN (a1.getD (tN v3) dF)) dF)]) (v3+1) (by refine⟨?_,?_,?_⟩<;>(try simp only [Ls])<;>first | omega | assumption | simp) (by(try simp only [Ls]);omega)
  | false =>
   have q0:=eH h0
   try have hr1:=hir.at (i:=tN v3) (by have _:=h0;omega)
   have e:=Eq.refl (eS a0 a1 (v2,v3));conv at e=>rhs;simp only [eS,h0,aW]
   rw [aN,e]
   exact rt [.d h0] [] [2] hcx (by kernel_rfl)
def fR (a0:bE)(a1:List Int):bE :=
 (aA (eS a0 a1) (tN ((a1.length:Int) - 0)+1) (([]:bE),0))
theorem aVx (a0:bE)(a1:List Int)(l0:a0.length<=2^63-1)(l1:a1.length<=2^63-1)(hir:InR a0.length a1)(hl:a1.length<=1048576):Con Tryz.prog 99 [(.s 0 0 a0.length 10),(.s 1 0 a1.length 1)] [(.live false true (flat fK a0)),(.live false true (flat c3 a1))] (.s 2 0 (fR a0 a1).length 10) [(.live true true (flat fK (fR a0 a1)))]:=by
 refine aU Tryz.func99 (by kernel_rfl) fun cx hcx=>?_
 have e:=Eq.refl (fR a0 a1);conv at e=>rhs;simp only [fR]
 rw [e]
 refine en [] [.slot 5 10] [0,5,8,9,10] [2] hcx xX (xY) (uM a0 a1 (flat fK ([]:bE)) 0 0) (tN ((a1.length:Int) - 0)+1) (by kernel_rfl) ?_
 exact aPx a0 a1 l0 l1 hir hl hcx (tN ((a1.length:Int) - 0)+1) ([]:bE) 0 (by refine⟨?_,?_,?_⟩<;>(try simp only [Ls])<;>first | omega | assumption | simp) (by(try simp only [Ls]);omega)
noncomputable def aCr:Code:=(aO [1,1,0,1] [] (aI Tryz.f100) []).1
noncomputable def aCs:List K:=(aO [1,1,0,1] [] (aI Tryz.f100) []).2
def xZ (a0:bE)(v1 v2 v3 v4 v5 v6 v7:Int):LS:=⟨jH 84 [(2,(.p 1 0)),(3,(.p 2 0)),(4,(.p 3 0)),(19,(.s 0 0 a0.length 10)),(20,(iv (a0.length:Int))),(21,(iv v1))],[(.live false true (flat fK a0)),(.live true false [(iv 0),(iv 0),(iv 0)]),(.live true false [(iv v2),(iv v3),(iv v4)]),(.live true false [(iv v5),(iv v6),(iv v7)])]⟩
def fL (a0:bE):Int×Int×Int×Int×Zt->(Int×Int×Int×Int×Zt)⊕Zt
 | (v1,v2,v3,v4,v5,v6,v7) =>
  (bif (decide ((v1:Int) < (a0.length:Int))) then
   (.inl ((v1+1),(bV (bV (bV v2 (dI (a0.getD (tN v1) dF).1).1.1) (dI (a0.getD (tN v1) dF).1).2.1.1) (dI (a0.getD (tN v1) dF).1).2.2.1),(bV (bV (bV v3 (dI (a0.getD (tN v1) dF).1).1.2.1) (dI (a0.getD (tN v1) dF).1).2.1.2.1) (dI (a0.getD (tN v1) dF).1).2.2.2.1),(bV (bV (bV v4 (dI (a0.getD (tN v1) dF).1).1.2.2) (dI (a0.getD (tN v1) dF).1).2.1.2.2) (dI (a0.getD (tN v1) dF).1).2.2.2.2),(eY (eY (eY v5 (dI (a0.getD (tN v1) dF).1).1.1) (dI (a0.getD (tN v1) dF).1).2.1.1) (dI (a0.getD (tN v1) dF).1).2.2.1),(eY (eY (eY v6 (dI (a0.getD (tN v1) dF).1).1.2.1) (dI (a0.getD (tN v1) dF).1).2.1.2.1) (dI (a0.getD (tN v1) dF).1).2.2.2.1),(eY (eY (eY v7 (dI (a0.getD (tN v1) dF).1).1.2.2) (dI (a0.getD (tN v1) dF).1).2.1.2.2) (dI (a0.getD (tN v1) dF).1).2.2.2.2)))
  else
   (.inr ((aPw (W (v2+v5))),(aPw (W (v3+v6))),(aPw (W (v4+v7))))))
theorem aSk (a0:bE)(l0:a0.length<=2^63-1)(hl:1<=a0.length/\a0.length<=1048576) {cx:Cx} (hcx:cx.base=1):∀(n:Nat) (v1 v2 v3 v4 v5 v6 v7:Int),(0<=v1)/\(v1<=a0.length)->tN ((a0.length:Int) - v1) < n->Aw.Good Tryz.prog none 9 (bodyPost Tryz.prog Tryz.f100 (RR cx (.a (k3 (aA (fL a0) n (v1,v2,v3,v4,v5,v6,v7)))) [] [])) cx [] (.l aCr n::aCs) (xZ a0 v1 v2 v3 v4 v5 v6 v7):=by
 intro n
 induction n with
 | zero=>intro v1 v2 v3 v4 v5 v6 v7 hi hn;exact absurd hn (fO _)
 | succ n ih =>
  intro v1 v2 v3 v4 v5 v6 v7 hi hn
  refine aT ?_
  cases h0:(decide ((v1:Int) < (a0.length:Int))) with
  | true =>
   have q0:=dL h0
   have e:=Eq.refl (fL a0 (v1,v2,v3,v4,v5,v6,v7));conv at e=>rhs;simp only [fL,h0,aW]
   rw [aB e]
   refine ba [.d h0,.i v1 (a0.length),.L eO a0 v1 0 10,.c [] (bFg (a0.getD (tN v1) dF).1),.u 200,.T,.i 0 3 (by decide),.u 0,.T,.i 1 3 (by decide),.u 0,.T,.i 2 3 (by decide),.u 0,.F] [] [2,3,4,19,20,21] [1,2,3] hcx (m:=n) aCr (aCs) (xZ a0 (W (v1+1)) (bV (bV (bV v2 (dI (a0.getD (tN v1) dF).1).1.1) (dI (a0.getD (tN v1) dF).1).2.1.1) (dI (a0.getD (tN v1) dF).1).2.2.1) (bV (bV (bV v3 (dI (a0.getD (tN v1) dF).1).1.2.1) (dI (a0.getD (tN v1) dF).1).2.1.2.1) (dI (a0.getD (tN v1) dF).1).2.2.2.1) (bV (bV (bV v4 (dI (a0.getD (tN v1) dF).1).1.2.2) (dI (a0.getD (tN v1) dF).1).2.1.2.2) (dI (a0.getD (tN v1) dF).1).2.2.2.2) (eY (eY (eY v5 (dI (a0.getD (tN v1) dF).1).1.1) (dI (a0.getD (tN v1) dF).1).2.1.1) (dI (a0.getD (tN v1) dF).1).2.2.1) (eY (eY (eY v6 (dI (a0.getD (tN v1) dF).1).1.2.1) (dI (a0.getD (tN v1) dF).1).2.1.2.1) (dI (a0.getD (tN v1) dF).1).2.2.2.1) (eY (eY (eY v7 (dI (a0.getD (tN v1) dF).1).1.2.2) (dI (a0.getD (tN v1) dF).1).2.1.2.2) (dI (a0.getD (tN v1) dF).1).2.2.2.2)) (by kernel_rfl) ?_
   have z0:(W (v1+1))=(v1+1):=aH (by omega) (by omega)
   rw [z0]
   exact ih (v1+1) (bV (bV (bV v2 (dI (a0.getD (tN v1) dF).1).1.1) (dI (a0.getD (tN v1) dF).1).2.1.1) (dI (a0.getD (tN v1) dF).1).2.2.1) (bV (bV (bV v3 (dI (a0.getD (tN v1) dF).1).1.2.1) (dI (a0.getD (tN v1) dF).1).2.1.2.1) (dI (a0.getD (tN v1) dF).1).2.2.2.1) (bV (bV (bV v4 (dI (a0.getD (tN v1) dF).1).1.2.2) (dI (a0.getD (tN v1) dF).1).2.1.2.2) (dI (a0.getD (tN v1) dF).1).2.2.2.2) (eY (eY (eY v5 (dI (a0.getD (tN v1) dF).1).1.1) (dI (a0.getD (tN v1) dF).1).2.1.1) (dI (a0.getD (tN v1) dF).1).2.2.1) (eY (eY (eY v6 (dI (a0.getD (tN v1) dF).1).1.2.1) (dI (a0.getD (tN v1) dF).1).2.1.2.1) (dI (a0.getD (tN v1) dF).1).2.2.2.1) (eY (eY (eY v7 (dI (a0.getD (tN v1) dF).1).1.2.2) (dI (a0.getD (tN v1) dF).1).2.1.2.2) (dI (a0.getD (tN v1) dF).1).2.2.2.2) (by refine⟨?_,?_⟩<;>(try simp only [Ls])<;>first | omega | assumption | simp) (by(try simp only [Ls]);omega)
  | false =>
   have q0:=eH h0
   have e:=Eq.refl (fL a0 (v1,v2,v3,v4,v5,v6,v7));conv at e=>rhs;simp only [fL,h0,aW]
   rw [aN,e]
   exact rt [.d h0,.c [] (aZ6 (W (v2+v5))),.c [] (aZ6 (W (v3+v6))),.c [] (aZ6 (W (v4+v7)))] [] [] hcx (by kernel_rfl)
def bS (a0:bE):Zt :=
 (aA (fL a0) (tN ((a0.length:Int) - 0)+1) (0,(a0.getD (tN 0) dF).1.1.1,(a0.getD (tN 0) dF).1.1.2.1,(a0.getD (tN 0) dF).1.1.2.2,(a0.getD (tN 0) dF).1.1.1,(a0.getD (tN 0) dF).1.1.2.1,(a0.getD (tN 0) dF).1.1.2.2))
theorem aZ7 (a0:bE)(l0:a0.length<=2^63-1)(hl:1<=a0.length/\a0.length<=1048576):Con Tryz.prog 100 [(.s 0 0 a0.length 10)] [(.live false true (flat fK a0))] (.a (k3 (bS a0))) []:=by
 refine aU Tryz.func100 (by kernel_rfl) fun cx hcx=>?_
 have e:=Eq.refl (bS a0);conv at e=>rhs;simp only [bS]
 rw [e]
 refine en [.i 0 (a0.length),.L eO a0 0 0 3,.i 0 (a0.length),.L eO a0 0 0 3] [] [2,3,4,19,20,21] [1,2,3] hcx aCr (aCs) (xZ a0 0 ((a0.getD (tN 0) dF).1.1.1) ((a0.getD (tN 0) dF).1.1.2.1) ((a0.getD (tN 0) dF).1.1.2.2) ((a0.getD (tN 0) dF).1.1.1) ((a0.getD (tN 0) dF).1.1.2.1) ((a0.getD (tN 0) dF).1.1.2.2)) (tN ((a0.length:Int) - 0)+1) (by kernel_rfl) ?_
 exact aSk a0 l0 hl hcx (tN ((a0.length:Int) - 0)+1) 0 ((a0.getD (tN 0) dF).1.1.1) ((a0.getD (tN 0) dF).1.1.2.1) ((a0.getD (tN 0) dF).1.1.2.2) ((a0.getD (tN 0) dF).1.1.1) ((a0.getD (tN 0) dF).1.1.2.1) ((a0.getD (tN 0) dF).1.1.2.2) (by refine⟨?_,?_⟩<;>(try simp only [Ls])<;>first | omega | assumption | simp) (by(try simp only [Ls]);omega)
def aCt (a0:Int)(a1:Int)(a2:Int):Bool :=
 (bif (decide ((a1:Int)<=a0)) then
  (decide ((a0:Int)<=a2))
 else
  false)
theorem aZ8 (a0:Int)(a1:Int)(a2:Int):Con Tryz.prog 199 [(iv a0),(iv a1),(iv a2)] [] (.v (.bool (aCt a0 a1 a2))) []:=by
 refine aU Tryz.func199 (by kernel_rfl) fun cx hcx=>?_
 cases h0:(decide ((a1:Int)<=a0)) with
 | true =>
  have q0:=dL h0
  have e:=Eq.refl (aCt a0 a1 a2);conv at e=>rhs;simp only [aCt,h0,aW]
  rw [e]
  exact rt [.d h0] [] [] hcx (by kernel_rfl)
 | false =>
  have q0:=eH h0
  have e:=Eq.refl (aCt a0 a1 a2);conv at e=>rhs;simp only [aCt,h0,aW]
  rw [e]
  exact rt [.d h0] [] [] hcx (by kernel_rfl)
def aCu (a0:Zt)(a1:Int):Bool :=
 (bif (aCt a0.1 (W (0 - a1)) a1) then
  (bif (aCt a0.2.1 (W (0 - a1)) a1) then
   (aCt a0.2.2 (W (0 - a1)) a1)
  else
   false)
 else
  false)
theorem bFh (a0:Zt)(a1:Int):Con Tryz.prog 181 [(.a (k3 a0)),(iv a1)] [] (.v (.bool (aCu a0 a1))) []:=by
 refine aU Tryz.func181 (by kernel_rfl) fun cx hcx=>?_
 let t0:List (St Tryz.prog):=[.c [] (aZ8 a0.1 (W (0 - a1)) a1)]
 cases h0:(aCt a0.1 (W (0 - a1)) a1) with
 | true =>
  let t1:List (St Tryz.prog):=(t0++[.d h0,.c [] (aZ8 a0.2.1 (W (0 - a1)) a1)])
  cases h1:(aCt a0.2.1 (W (0 - a1)) a1) with
  | true =>
   have e:=Eq.refl (aCu a0 a1);conv at e=>rhs;simp only [aCu,h0,h1,aW]
   rw [e]
   exact rt (t1++[.d h1,.c [] (aZ8 a0.2.2 (W (0 - a1)) a1)]) [] [] hcx (by kernel_rfl)
  | false =>
   have e:=Eq.refl (aCu a0 a1);conv at e=>rhs;simp only [aCu,h0,h1,aW]
   rw [e]
   exact rt (t1++[.d h1]) [] [] hcx (by kernel_rfl)
 | false =>
  have e:=Eq.refl (aCu a0 a1);conv at e=>rhs;simp only [aCu,h0,aW]
  rw [e]
  exact rt (t0++[.d h0]) [] [] hcx (by kernel_rfl)
def jS (a0:Zt)(a1:Zt):Zt :=
 ((W (a0.1 - a1.1)),(W (a0.2.1 - a1.2.1)),(W (a0.2.2 - a1.2.2)))
theorem aZ9 (a0:Zt)(a1:Zt):Con Tryz.prog 147 [(.a (k3 a0)),(.a (k3 a1))] [] (.a (k3 (jS a0 a1))) []:=by
 refine aU Tryz.func147 (by kernel_rfl) fun cx hcx=>?_
 have e:=Eq.refl (jS a0 a1);conv at e=>rhs;simp only [jS]
 rw [e]
 exact rt [] [] [] hcx (by kernel_rfl)
def aAl (a0:Zt)(a1:Zt):Int :=
 (W ((W ((W (a0.1*a1.1))+(W (a0.2.1*a1.2.1))))+(W (a0.2.2*a1.2.2))))
theorem bAa (a0:Zt)(a1:Zt):Con Tryz.prog 148 [(.a (k3 a0)),(.a (k3 a1))] [] (iv (aAl a0 a1)) []:=by
 refine aU Tryz.func148 (by kernel_rfl) fun cx hcx=>?_
 have e:=Eq.refl (aAl a0 a1);conv at e=>rhs;simp only [aAl]
 rw [e]
 exact rt [] [] [] hcx (by kernel_rfl)
def kS (a0:bE)(a1:Zt):Int :=
 (bif (((eU a0):Int) != 0) then
  (eU a0)
 else
  (bif (!(aCu a1 64)) then
   1
  else
   0))
theorem bAb (a0:bE)(a1:Zt)(l0:a0.length<=2^63-1):Con Tryz.prog 146 [(.s 0 0 a0.length 10),(.a (k3 a1))] [(.live false true (flat fK a0))] (iv (kS a0 a1)) []:=by
 refine aU Tryz.func146 (by kernel_rfl) fun cx hcx=>?_
 let t0:List (St Tryz.prog):=[.c [0] (aNd a0 (by omega))]
 cases h0:(((eU a0):Int) != 0) with
 | true =>
  have q0:=bne_iff_ne.1 h0
  have e:=Eq.refl (kS a0 a1);conv at e=>rhs;simp only [kS,h0,aW]
  rw [e]
  exact rt (t0++[.d h0]) [] [] hcx (by kernel_rfl)
 | false =>
  have q0:=bne_eq_false_iff_eq.1 h0
  let t1:List (St Tryz.prog):=(t0++[.d h0,.c [] (bFh a1 64)])
  cases h1:(!(aCu a1 64)) with
  | true =>
   have e:=Eq.refl (kS a0 a1);conv at e=>rhs;simp only [kS,h0,h1,aW]
   rw [e]
   exact rt (t1++[.d h1]) [] [] hcx (by kernel_rfl)
  | false =>
   have e:=Eq.refl (kS a0 a1);conv at e=>rhs;simp only [kS,h0,h1,aW]
   rw [e]
   exact rt (t1++[.d h1]) [] [] hcx (by kernel_rfl)
noncomputable def aCv:Code:=(aO [1,1,1,0,1] [] (aI Tryz.f101) []).1
noncomputable def aCw:List K:=(aO [1,1,1,0,1] [] (aI Tryz.f101) []).2
def yA (a0:bE)(a1:Zt)(v1 v2:Int):LS:=⟨jH 49 [(3,(.p 1 0)),(7,(iv v1)),(19,(.s 0 0 a0.length 10)),(20,(iv (a0.length:Int))),(21,(iv v2))],[(.live false true (flat fK a0)),(.live true false (k3 a1))]⟩
def lX (a0:bE)(a1:Zt):Int×Int->(Int×Int)⊕(Int×Int)
 | (v1,v2) =>
  (bif (decide ((v2:Int) < (a0.length:Int))) then
   (.inl ((eY (eY (eY v1 (aAl (jS (a0.getD (tN v2) dF).1.1 a1) (jS (a0.getD (tN v2) dF).1.1 a1))) (aAl (jS (a0.getD (tN v2) dF).1.2.1 a1) (jS (a0.getD (tN v2) dF).1.2.1 a1))) (aAl (jS (a0.getD (tN v2) dF).1.2.2 a1) (jS (a0.getD (tN v2) dF).1.2.2 a1))),(v2+1)))
  else
   (.inr (v1,0)))
theorem aSl (a0:bE)(a1:Zt)(l0:a0.length<=2^63-1)(hl:a0.length<=1048576) {cx:Cx} (hcx:cx.base=1):∀(n:Nat) (v1 v2:Int),(0<=v2)/\(v2<=a0.length)->tN ((a0.length:Int) - v2) < n->Aw.Good Tryz.prog none 9 (bodyPost Tryz.prog Tryz.f101 (RR cx (.t (k2 (aA (lX a0 a1) n (v1,v2)))) [] [])) cx [] (.l aCv n::aCw) (yA a0 a1 v1 v2):=by
 intro n
 induction n with
 | zero=>intro v1 v2 hi hn;exact absurd hn (fO _)
 | succ n ih =>
  intro v1 v2 hi hn
  refine aT ?_
  cases h0:(decide ((v2:Int) < (a0.length:Int))) with
  | true =>
   have q0:=dL h0
   have e:=Eq.refl (lX a0 a1 (v1,v2));conv at e=>rhs;simp only [lX,h0,aW]
   rw [aB e]
   refine ba [.d h0,.i v2 (a0.length),.L eO a0 v2 0 10,.u 200,.T,.i 0 3 (by decide),.c [] (aZ9 (a0.getD (tN v2) dF).1.1 a1),.c [] (bAa (jS (a0.getD (tN v2) dF).1.1 a1) (jS (a0.getD (tN v2) dF).1.1 a1)),.u 0,.T,.i 1 3 (by decide),.c [] (aZ9 (a0.getD (tN v2) dF).1.2.1 a1),.c [] (bAa (jS (a0.getD (tN v2) dF).1.2.1 a1) (jS (a0.getD (tN v2) dF).1.2.1 a1)),.u 0,.T,.i 2 3 (by decide),.c [] (aZ9 (a0.getD (tN v2) dF).1.2.2 a1),.c [] (bAa (jS (a0.getD (tN v2) dF).1.2.2 a1) (jS (a0.getD (tN v2) dF).1.2.2 a1)),.u 0,.F] [] [3,7,19,20,21] [1] hcx (m:=n) aCv (aCw) (yA a0 a1 (eY (eY (eY v1 (aAl (jS (a0.getD (tN v2) dF).1.1 a1) (jS (a0.getD (tN v2) dF).1.1 a1))) (aAl (jS (a0.getD (tN v2) dF).1.2.1 a1) (jS (a0.getD (tN v2) dF).1.2.1 a1))) (aAl (jS (a0.getD (tN v2) dF).1.2.2 a1) (jS (a0.getD (tN v2) dF).1.2.2 a1))) (W (v2+1))) (by kernel_rfl) ?_
   have z0:(W (v2+1))=(v2+1):=aH (by omega) (by omega)
   rw [z0]
   exact ih (eY (eY (eY v1 (aAl (jS (a0.getD (tN v2) dF).1.1 a1) (jS (a0.getD (tN v2) dF).1.1 a1))) (aAl (jS (a0.getD (tN v2) dF).1.2.1 a1) (jS (a0.getD (tN v2) dF).1.2.1 a1))) (aAl (jS (a0.getD (tN v2) dF).1.2.2 a1) (jS (a0.getD (tN v2) dF).1.2.2 a1))) (v2+1) (by refine⟨?_,?_⟩<;>(try simp only [Ls])<;>first | omega | assumption | simp) (by(try simp only [Ls]);omega)
  | false =>
   have q0:=eH h0
   have e:=Eq.refl (lX a0 a1 (v1,v2));conv at e=>rhs;simp only [lX,h0,aW]
   rw [aN,e]
   exact rt [.d h0] [] [] hcx (by kernel_rfl)
def qX (a0:bE)(a1:Zt):Int×Int :=
 (bif (((kS a0 a1):Int) != 0) then
  (0,(kS a0 a1))
 else
  (aA (lX a0 a1) (tN ((a0.length:Int) - 0)+1) (0,0)))
theorem bAc (a0:bE)(a1:Zt)(l0:a0.length<=2^63-1)(hl:a0.length<=1048576):Con Tryz.prog 101 [(.s 0 0 a0.length 10),(.a (k3 a1))] [(.live false true (flat fK a0))] (.t (k2 (qX a0 a1))) []:=by
 refine aU Tryz.func101 (by kernel_rfl) fun cx hcx=>?_
 let t0:List (St Tryz.prog):=[.c [0] (bAb a0 a1 (by omega))]
 cases h0:(((kS a0 a1):Int) != 0) with
 | true =>
  have q0:=bne_iff_ne.1 h0
  have e:=Eq.refl (qX a0 a1);conv at e=>rhs;simp only [qX,h0,aW]
  rw [e]
  exact rt (t0++[.d h0]) [] [] hcx (by kernel_rfl)
 | false =>
  have q0:=bne_eq_false_iff_eq.1 h0
  have e:=Eq.refl (qX a0 a1);conv at e=>rhs;simp only [qX,h0,aW]
  rw [e]
  refine en (t0++[.d h0]) [] [3,7,19,20,21] [1] hcx aCv (aCw) (yA a0 a1 0 0) (tN ((a0.length:Int) - 0)+1) (by kernel_rfl) ?_
  exact aSl a0 a1 l0 hl hcx (tN ((a0.length:Int) - 0)+1) 0 0 (by refine⟨?_,?_⟩<;>(try simp only [Ls])<;>first | omega | assumption | simp) (by(try simp only [Ls]);omega)
noncomputable def aCx:Code:=(aO [1,1,0,1,0,1,1,0,1,1,0,1] [0] (aI Tryz.f103) []).1
noncomputable def aCy (m0:Nat):List K:=(aO [1,1,0,1,0,1,1,0,1,1,0,1] [m0] (aI Tryz.f103) []).2
def yB (a0:bE×Int×List Int×aY)(a1:List Int)(v15 v16 v17 v18 v19 v20 v21:Int):LS:=⟨jH 59 [(0,(.p 0 0)),(1,(.s 4 0 a1.length 1)),(4,(.p 5 0)),(5,(iv v15)),(6,(iv v16)),(7,(iv v17)),(8,(iv v18)),(9,(iv v19)),(12,(iv v20)),(27,(.s 4 0 a1.length 1)),(28,(iv (a1.length:Int))),(29,(iv v21))],[(.live false false [(.s 1 0 a0.1.length 10),(iv a0.2.1),(.s 2 0 a0.2.2.1.length 1),(.s 3 0 a0.2.2.2.length 8)]),(.live false true (flat fK a0.1)),(.live false true (flat c3 a0.2.2.1)),(.live false true (flat dM a0.2.2.2)),(.live false true (flat c3 a1)),(.live true false [(.v (.pointer none)),(iv 0)])]⟩
def dY (a0:bE×Int×List Int×aY)(a1:List Int):Int×Int×Int×Int×Zt->(Int×Int×Int×Int×Zt)⊕(Zt⊕TyS)
 | (v15,v16,v17,v18,v19,v20,v21) =>
  (bif (decide ((v21:Int) < (a1.length:Int))) then
   (.inl (v15,v16,v17,(if((gI (a0.1,a0.2.1,(a0.2.2.1,a0.2.2.2)) (a1.getD (tN v21) dF) v17):Int) < v18 then(gI (a0.1,a0.2.1,(a0.2.2.1,a0.2.2.2)) (a1.getD (tN v21) dF) v17) else v18),(if(v19:Int) < (gI (a0.1,a0.2.1,(a0.2.2.1,a0.2.2.2)) (a1.getD (tN v21) dF) v17) then(gI (a0.1,a0.2.1,(a0.2.2.1,a0.2.2.2)) (a1.getD (tN v21) dF) v17) else v19),v20,(v21+1)))
  else
   (bif (decide (((W (v19 - v18)):Int) > v16)) then
    (.inr (.inl (v17,(W (v19 - v18)),(v20+1))))
   else
    (.inr (.inl (v15,v16,(v20+1))))))
noncomputable def qY:Code:=(aO [1,1,0,1] [] (aI Tryz.f103) []).1
noncomputable def qZ:List K:=(aO [1,1,0,1] [] (aI Tryz.f103) []).2
def oH (a0:bE×Int×List Int×aY)(a1:List Int)(v12 v13 v14:Int):LS:=⟨jH 59 [(0,(.p 0 0)),(1,(.s 4 0 a1.length 1)),(4,(.p 5 0)),(5,(iv v12)),(6,(iv v13)),(12,(iv v14))],[(.live false false [(.s 1 0 a0.1.length 10),(iv a0.2.1),(.s 2 0 a0.2.2.1.length 1),(.s 3 0 a0.2.2.2.length 8)]),(.live false true (flat fK a0.1)),(.live false true (flat c3 a0.2.2.1)),(.live false true (flat dM a0.2.2.2)),(.live false true (flat c3 a1)),(.live true false [(.v (.pointer none)),(iv 0)])]⟩
def fM (a0:bE×Int×List Int×aY)(a1:List Int):Zt->Zt⊕TyS
 | (v12,v13,v14) =>
  (bif (decide ((v14:Int) < 3)) then
   (aA (dY a0 a1) (tN ((a1.length:Int) - 0)+1) (v12,v13,v14,(gI (a0.1,a0.2.1,(a0.2.2.1,a0.2.2.2)) (a1.getD (tN 0) dF) v14),(gI (a0.1,a0.2.1,(a0.2.2.1,a0.2.2.2)) (a1.getD (tN 0) dF) v14),v14,0))
  else
   (.inr ((a0.1,a0.2.1,(a0.2.2.1,a0.2.2.2)),v12)))
theorem aSm (a0:bE×Int×List Int×aY)(a1:List Int)(l0_1:a0.1.length<=2^63-1)(l0_2_2_1:a0.2.2.1.length<=2^63-1)(l0_2_2_2:a0.2.2.2.length<=2^63-1)(l1:a1.length<=2^63-1)(hir:InR a0.1.length a1)(hl:1<=a1.length/\a1.length<=1048576) {cx:Cx} (hcx:cx.base=5)
 (n0:Nat) (g0:∀(v12 v13 v14:Int),(0<=v14)/\(v14<=3)->tN (3 - v14) < n0->Aw.Good Tryz.prog none 9 (bodyPost Tryz.prog Tryz.f103 (RR cx (.a [(.p 0 0),(iv (aA (fM a0 a1) n0 (v12,v13,v14)).2)]) [] [])) cx [] (.l qY n0::qZ) (oH a0 a1 v12 v13 v14)):∀(n:Nat) (v15 v16 v17 v18 v19 v20 v21:Int),(0<=v21)/\(v21<=a1.length)/\((0<=v20))/\((v20<=3))/\(v20 < 3)/\(tN (3 - v20) < n0+1)->tN ((a1.length:Int) - v21) < n->Aw.Good Tryz.prog none 9 (bodyPost Tryz.prog Tryz.f103 (RR cx (.a [(.p 0 0),(iv (bB (fM a0 a1) n0 (aA (dY a0 a1) n (v15,v16,v17,v18,v19,v20,v21))).2)]) [] [])) cx [] (.l aCx n::aCy n0) (yB a0 a1 v15 v16 v17 v18 v19 v20 v21):=by
 intro n
 induction n with
 | zero=>intro v15 v16 v17 v18 v19 v20 v21 hi hn;exact absurd hn (fO _)
 | succ n ih =>
  intro v15 v16 v17 v18 v19 v20 v21 hi hn
  refine aT ?_
  try have hr1:=hir.at (i:=tN v21) (by have _:=h0;omega)
  cases h0:(decide ((v21:Int) < (a1.length:Int))) with
  | true =>
   have q0:=dL h0
   try have hr1:=hir.at (i:=tN v21) (by have _:=h0;omega)
   have e:=Eq.refl (dY a0 a1 (v15,v16,v17,v18,v19,v20,v21));conv at e=>rhs;simp only [dY,h0,aW]
   rw [aB e]
   refine ba [.d h0,.i v21 (a1.length),.L cZ a1 v21 0 1,.c [0,1,2,3] (aPv (a0.1,a0.2.1,(a0.2.2.1,a0.2.2.2)) (a1.getD (tN v21) dF) v17 (by(try simp only [Lt]);omega) (by(try simp only [Lt]);omega) (by(try simp only [Lt]);omega) (by(try simp only [Lt]);omega)),.c [0,1,2,3] (aPv (a0.1,a0.2.1,(a0.2.2.1,a0.2.2.2)) (a1.getD (tN v21) dF) v17 (by(try simp only [Lt]);omega) (by(try simp only [Lt]);omega) (by(try simp only [Lt]);omega) (by(try simp only [Lt]);omega))] [] [0,1,4,5,6,7,8,9,12,27,28,29] [5] hcx (m:=n) aCx (aCy n0) (yB a0 a1 v15 v16 v17 (if((gI (a0.1,a0.2.1,(a0.2.2.1,a0.2.2.2)) (a1.getD (tN v21) dF) v17):Int) < v18 then(gI (a0.1,a0.2.1,(a0.2.2.1,a0.2.2.2)) (a1.getD (tN v21) dF) v17) else v18) (if(v19:Int) < (gI (a0.1,a0.2.1,(a0.2.2.1,a0.2.2.2)) (a1.getD (tN v21) dF) v17) then(gI (a0.1,a0.2.1,(a0.2.2.1,a0.2.2.2)) (a1.getD (tN v21) dF) v17) else v19) v20 (W (v21+1))) (by kernel_rfl) ?_
   have z0:(W (v21+1))=(v21+1):=aH (by omega) (by omega)
   rw [z0]
   exact ih v15 v16 v17 (if((gI (a0.1,a0.2.1,(a0.2.2.1,a0.2.2.2)) (a1.getD (tN v21) dF) v17):Int) < v18 then(gI (a0.1,a0.2.1,(a0.2.2.1,a0.2.2.2)) (a1.getD (tN v21) dF) v17) else v18) (if(v19:Int) < (gI (a0.1,a0.2.1,(a0.2.2.1,a0.2.2.2)) (a1.getD (tN v21) dF) v17) then(gI (a0.1,a0.2.1,(a0.2.2.1,a0.2.2.2)) (a1.getD (tN v21) dF) v17) else v19) v20 (v21+1) (by refine⟨?_,?_,?_,?_,?_,?_⟩<;>(try simp only [Ls])<;>first | omega | assumption | exact hi.2.1 | exact hi.2.2.1 | exact hi.2.2.2.1 | exact hi.2.2.2.2.1 | exact hi.2.2.2.2.2.1 | simp) (by(try simp only [Ls]);omega)
  | false =>
   have q0:=eH h0
   try have hr1:=hir.at (i:=tN v21) (by have _:=h0;omega)
   let t1:List (St Tryz.prog):=[.d h0]
   cases h1:(decide (((W (v19 - v18)):Int) > v16)) with
   | true =>
    have q1:=dL h1
    try have hr1:=hir.at (i:=tN v21) (by have _:=h0;omega)
    have e:=Eq.refl (dY a0 a1 (v15,v16,v17,v18,v19,v20,v21));conv at e=>rhs;simp only [dY,h0,h1,aW]
    rw [aN,e]
    refine ba (t1++[.d h1]) [] [0,1,4,5,6,12] [5] hcx (m:=n0) qY (qZ) (oH a0 a1 v17 (W (v19 - v18)) (W (v20+1))) (by kernel_rfl) ?_
    have z0:(W (v20+1))=(v20+1):=aH (by omega) (by omega)
    rw [z0]
    exact g0 v17 (W (v19 - v18)) (v20+1) (by refine⟨?_,?_⟩<;>(try simp only [Ls])<;>first | omega | assumption | simp) (by(try simp only [Ls]);omega)
   | false =>
    have q1:=eH h1
    try have hr1:=hir.at (i:=tN v21) (by have _:=h0;omega)
    have e:=Eq.refl (dY a0 a1 (v15,v16,v17,v18,v19,v20,v21));conv at e=>rhs;simp only [dY,h0,h1,aW]
    rw [aN,e]
    refine ba (t1++[.d h1]) [] [0,1,4,5,6,12] [5] hcx (m:=n0) qY (qZ) (oH a0 a1 v15 v16 (W (v20+1))) (by kernel_rfl) ?_
    have z0:(W (v20+1))=(v20+1):=aH (by omega) (by omega)
    rw [z0]
    exact g0 v15 v16 (v20+1) (by refine⟨?_,?_⟩<;>(try simp only [Ls])<;>first | omega | assumption | simp) (by(try simp only [Ls]);omega)
theorem aSn (a0:bE×Int×List Int×aY)(a1:List Int)(l0_1:a0.1.length<=2^63-1)(l0_2_2_1:a0.2.2.1.length<=2^63-1)(l0_2_2_2:a0.2.2.2.length<=2^63-1)(l1:a1.length<=2^63-1)(hir:InR a0.1.length a1)(hl:1<=a1.length/\a1.length<=1048576) {cx:Cx} (hcx:cx.base=5):∀(n:Nat) (v12 v13 v14:Int),(0<=v14)/\(v14<=3)->tN (3 - v14) < n->Aw.Good Tryz.prog none 9 (bodyPost Tryz.prog Tryz.f103 (RR cx (.a [(.p 0 0),(iv (aA (fM a0 a1) n (v12,v13,v14)).2)]) [] [])) cx [] (.l qY n::qZ) (oH a0 a1 v12 v13 v14):=by
 intro n
 induction n with
 | zero=>intro v12 v13 v14 hi hn;exact absurd hn (fO _)
 | succ n ih =>
  intro v12 v13 v14 hi hn
  refine aT ?_
  have hr0:=hir.at (i:=0) (by omega)
  cases h0:(decide ((v14:Int) < 3)) with
  | true =>
   have q0:=dL h0
   have e:=Eq.refl (fM a0 a1 (v12,v13,v14));conv at e=>rhs;simp only [fM,h0,aW]
   rw [aN,e]
   refine en [.d h0,.i 0 (a1.length),.L cZ a1 0 0 1,.c [0,1,2,3] (aPv (a0.1,a0.2.1,(a0.2.2.1,a0.2.2.2)) (a1.getD (tN 0) dF) v14 (by(try simp only [Lt]);omega) (by(try simp only [Lt]);omega) (by(try simp only [Lt]);omega) (by(try simp only [Lt]);omega)),.i 0 (a1.length),.L cZ a1 0 0 1,.c [0,1,2,3] (aPv (a0.1,a0.2.1,(a0.2.2.1,a0.2.2.2)) (a1.getD (tN 0) dF) v14 (by(try simp only [Lt]);omega) (by(try simp only [Lt]);omega) (by(try simp only [Lt]);omega) (by(try simp only [Lt]);omega))] [] [0,1,4,5,6,7,8,9,12,27,28,29] [5] hcx aCx (aCy n) (yB a0 a1 v12 v13 v14 (gI (a0.1,a0.2.1,(a0.2.2.1,a0.2.2.2)) (a1.getD (tN 0) dF) v14) (gI (a0.1,a0.2.1,(a0.2.2.1,a0.2.2.2)) (a1.getD (tN 0) dF) v14) v14 0) (tN ((a1.length:Int) - 0)+1) (by kernel_rfl) ?_
   exact aSm a0 a1 l0_1 l0_2_2_1 l0_2_2_2 l1 hir hl hcx n ih (tN ((a1.length:Int) - 0)+1) v12 v13 v14 (gI (a0.1,a0.2.1,(a0.2.2.1,a0.2.2.2)) (a1.getD (tN 0) dF) v14) (gI (a0.1,a0.2.1,(a0.2.2.1,a0.2.2.2)) (a1.getD (tN 0) dF) v14) v14 0 (by refine⟨?_,?_,?_,?_,?_,?_⟩<;>(try simp only [Ls])<;>first | omega | assumption | exact hi.2.1 | exact hi.2.2.1 | exact hi.2.2.2.1 | exact hi.2.2.2.2.1 | exact hi.2.2.2.2.2.1 | simp) (by(try simp only [Ls]);omega)
  | false =>
   have q0:=eH h0
   have e:=Eq.refl (fM a0 a1 (v12,v13,v14));conv at e=>rhs;simp only [fM,h0,aW]
   rw [aN,e]
   exact rt [.d h0] [] [] hcx (by kernel_rfl)
def aCz (a0:bE×Int×List Int×aY)(a1:List Int):TyB×Int :=
 (aA (fM a0 a1) (tN (3 - 0)+1) (0,(-1),0))
theorem bAd (a0:bE×Int×List Int×aY)(a1:List Int)(l0_1:a0.1.length<=2^63-1)(l0_2_2_1:a0.2.2.1.length<=2^63-1)(l0_2_2_2:a0.2.2.2.length<=2^63-1)(l1:a1.length<=2^63-1)(hir:InR a0.1.length a1)(hl:1<=a1.length/\a1.length<=1048576):Con Tryz.prog 103 [(.p 0 0),(.s 4 0 a1.length 1)] [(.live false false [(.s 1 0 a0.1.length 10),(iv a0.2.1),(.s 2 0 a0.2.2.1.length 1),(.s 3 0 a0.2.2.2.length 8)]),(.live false true (flat fK a0.1)),(.live false true (flat c3 a0.2.2.1)),(.live false true (flat dM a0.2.2.2)),(.live false true (flat c3 a1))] (.a [(.p 0 0),(iv (aCz a0 a1).2)]) []:=by
 refine aU Tryz.func103 (by kernel_rfl) fun cx hcx=>?_
 have e:=Eq.refl (aCz a0 a1);conv at e=>rhs;simp only [aCz]
 try rw [e]
 refine en [] [] [0,1,4,5,6,12] [5] hcx qY (qZ) (oH a0 a1 0 (-1) 0) (tN (3 - 0)+1) (by kernel_rfl) ?_
 exact aSn a0 a1 l0_1 l0_2_2_1 l0_2_2_2 l1 hir hl hcx (tN (3 - 0)+1) 0 (-1) 0 (by refine⟨?_,?_⟩<;>(try simp only [Ls])<;>first | omega | assumption | simp) (by(try simp only [Ls]);omega)
abbrev BU:=(List (((Zt×Zt×Zt)×Int)))×Int×List Int×aY
structure PADD (b:BU) (i k:Int):Prop where
 inr:InR b.1.length b.2.2.1
 rng:0<=i/\i < k/\k<=b.2.2.1.length/\b.2.2.1.length<=1048576
 nds:b.2.2.2.length+2*(k - i)<=4194304
 lf:1<=b.2.1
 sm:k - i<=12
theorem InR.part {n:Nat} {l:List Int} (h:InR n l)(a b:Int):InR n (Aw.part l a b):=fun x hx=>h x (List.mem_of_mem_drop (List.mem_of_mem_take hx))
theorem InR.atD {n:Nat} {l:List Int} (h:InR n l)(h0:0 < n)(i:Nat):0<=l.getD i dF/\l.getD i dF < (n:Int):=by
 by_cases hi:i < l.length
 ·exact h.at hi
 ·rw [cV,List.getElem?_eq_none (by omega)]
  exact⟨Int.le_refl _,by show(0:Int) < n;omega⟩
theorem aI2 {a0:bE} {a1:List Int}:∀(d i n:Nat) (m:bE),d=a1.length - i->i<=a1.length->d < n ->
 aA (eS a0 a1) n (m,(i:Int))=m++(a1.drop i).map (fun a=>a0.getD (tN a) dF)
 | 0,i,n,m,hd,hi,hn=>by
  obtain⟨n,rfl⟩:∃m,n=m+1:=⟨n - 1,by omega⟩
  have:i=a1.length:=by omega
  subst this
  have e:eS a0 a1 (m,(a1.length:Int))=.inr m:=by
   simp only [eS];rw [cC (Int.lt_irrefl _),cond_false]
  rw [aC e];simp
 | d+1,i,n,m,hd,hi,hn=>by
  obtain⟨n,rfl⟩:∃m,n=m+1:=⟨n - 1,by omega⟩
  have e:eS a0 a1 (m,(i:Int))=.inl (m++[a0.getD (tN (a1.getD i dF)) dF],((i+1:Nat):Int)):=by
   simp only [eS]
   rw [bG (show((i:Nat):Int) < (a1.length:Nat) by omega),cond_true,eX];rfl
  rw [aB e,aI2 d (i+1) n _ (by omega) (by omega) (by omega),List.drop_eq_getElem_cons (show i < a1.length by omega),List.map_cons]
  simp [cV,List.getElem?_eq_getElem (show i < a1.length by omega)]
theorem aLj (a0:bE)(a1:List Int):fR a0 a1=a1.map (fun a=>a0.getD (tN a) dF):=by
 have:=aI2 (a0:=a0) (a1:=a1) a1.length 0 (tN ((a1.length:Int) - 0)+1) [] (by omega) (by omega) (by omega)
 exact this
theorem aGm (a0:bE)(a1:List Int):(fR a0 a1).length=a1.length:=by rw [aLj];simp
theorem bAe {N:Nat} {l:List Int} {o m:Nat} {c:BU×Int} (hw:o+m<=l.length/\l.length<=1048576)(hi:InR N l)(h12:m<=12):(eV l o m c).length=l.length/\InR N (eV l o m c):=by
 rw [aSj h12]
 exact bC8 hw hi (by omega)
theorem aC0 {i k:Int} (h:0<=i/\i < k/\k<=1048576):(W (i+(W (Int.tdiv (W ((W (k - i))+1)) 2))))=i+(k - i+1) / 2:=by
 rw [aH (n:=k - i) (by omega) (by omega),aH (n:=k - i+1) (by omega) (by omega),Int.tdiv_eq_ediv_of_nonneg (by omega),aH (n:=(k - i+1) / 2) (by omega) (by omega),aH (by omega) (by omega)]
def cX (a0:bE×Int×List Int×aY)(a1:Int)(a2:Int):=(fR a0.1 (Aw.part (a0.2.2.1) a1 a2))
def fV (a0:bE×Int×List Int×aY)(a1:Int)(a2:Int):=(qX (cX a0 a1 a2) (bS (cX a0 a1 a2)))
def aI3 (a0:bE×Int×List Int×aY)(a1:Int)(a2:Int):=(aCz (a0.1,a0.2.1,(a0.2.2.1,(a0.2.2.2++[(a1,a2,(-1),(-1),(bS (cX a0 a1 a2)),(fV a0 a1 a2).1)]))) (Aw.part (a0.2.2.1) a1 a2))
def zT (a0:bE×Int×List Int×aY)(a1:Int)(a2:Int):=(eV (a0.2.2.1) (tN a1) (tN a2 - tN a1) ((a0.1,a0.2.1,(a0.2.2.1,(a0.2.2.2++[(a1,a2,(-1),(-1),(bS (cX a0 a1 a2)),(fV a0 a1 a2).1)]))),(aI3 a0 a1 a2).2))
def dQ (rr:TyB->(Int)->(Int)->Int×bE×Int×List Int×aY)(a0:bE×Int×List Int×aY)(a1:Int)(a2:Int):=(rr (a0.1,a0.2.1,((zT a0 a1 a2),(a0.2.2.2++[(a1,a2,(-1),(-1),(bS (cX a0 a1 a2)),(fV a0 a1 a2).1)]))) a1 (W (a1+(W (Int.tdiv (W ((W (a2 - a1))+1)) 2)))))
def aM (rr:TyB->(Int)->(Int)->Int×bE×Int×List Int×aY)(a0:bE×Int×List Int×aY)(a1:Int)(a2:Int):=(rr (a0.1,(dQ (rr) a0 a1 a2).2.2.1,((dQ (rr) a0 a1 a2).2.2.2.1,(dQ (rr) a0 a1 a2).2.2.2.2)) (W (a1+(W (Int.tdiv (W ((W (a2 - a1))+1)) 2)))) a2)
def bM:Nat->TyB->(Int)->(Int)->Int×bE×Int×List Int×aY
 | 0,_,_,_=>dF
 | nr+1,a0,a1,a2 =>
 (bif (decide (((W (a2 - a1)):Int) > a0.2.1)) then
  ((a0.2.2.2.length:Int),(a0.1,(aM (bM nr) a0 a1 a2).2.2.1,((aM (bM nr) a0 a1 a2).2.2.2.1,(((aM (bM nr) a0 a1 a2).2.2.2.2.set (tN (a0.2.2.2.length:Int)) (((aM (bM nr) a0 a1 a2).2.2.2.2.getD (tN (a0.2.2.2.length:Int)) dF).1,((aM (bM nr) a0 a1 a2).2.2.2.2.getD (tN (a0.2.2.2.length:Int)) dF).2.1,(dQ (bM nr) a0 a1 a2).1,((aM (bM nr) a0 a1 a2).2.2.2.2.getD (tN (a0.2.2.2.length:Int)) dF).2.2.2.1,((aM (bM nr) a0 a1 a2).2.2.2.2.getD (tN (a0.2.2.2.length:Int)) dF).2.2.2.2.1,((aM (bM nr) a0 a1 a2).2.2.2.2.getD (tN (a0.2.2.2.length:Int)) dF).2.2.2.2.2)).set (tN (a0.2.2.2.length:Int)) ((((aM (bM nr) a0 a1 a2).2.2.2.2.set (tN (a0.2.2.2.length:Int)) (((aM (bM nr) a0 a1 a2).2.2.2.2.getD (tN (a0.2.2.2.length:Int)) dF).1,((aM (bM nr) a0 a1 a2).2.2.2.2.getD (tN (a0.2.2.2.length:Int)) dF).2.1,(dQ (bM nr) a0 a1 a2).1,((aM (bM nr) a0 a1 a2).2.2.2.2.getD (tN (a0.2.2.2.length:Int)) dF).2.2.2.1,((aM (bM nr) a0 a1 a2).2.2.2.2.getD (tN (a0.2.2.2.length:Int)) dF).2.2.2.2.1,((aM (bM nr) a0 a1 a2).2.2.2.2.getD (tN (a0.2.2.2.length:Int)) dF).2.2.2.2.2)).getD (tN (a0.2.2.2.length:Int)) dF).1,(((aM (bM nr) a0 a1 a2).2.2.2.2.set (tN (a0.2.2.2.length:Int)) (((aM (bM nr) a0 a1 a2).2.2.2.2.getD (tN (a0.2.2.2.length:Int)) dF).1,((aM (bM nr) a0 a1 a2).2.2.2.2.getD (tN (a0.2.2.2.length:Int)) dF).2.1,(dQ (bM nr) a0 a1 a2).1,((aM (bM nr) a0 a1 a2).2.2.2.2.getD (tN (a0.2.2.2.length:Int)) dF).2.2.2.1,((aM (bM nr) a0 a1 a2).2.2.2.2.getD (tN (a0.2.2.2.length:Int)) dF).2.2.2.2.1,((aM (bM nr) a0 a1 a2).2.2.2.2.getD (tN (a0.2.2.2.length:Int)) dF).2.2.2.2.2)).getD (tN (a0.2.2.2.length:Int)) dF).2.1,(((aM (bM nr) a0 a1 a2).2.2.2.2.set (tN (a0.2.2.2.length:Int)) (((aM (bM nr) a0 a1 a2).2.2.2.2.getD (tN (a0.2.2.2.length:Int)) dF).1,((aM (bM nr) a0 a1 a2).2.2.2.2.getD (tN (a0.2.2.2.length:Int)) dF).2.1,(dQ (bM nr) a0 a1 a2).1,((aM (bM nr) a0 a1 a2).2.2.2.2.getD (tN (a0.2.2.2.length:Int)) dF).2.2.2.1,((aM (bM nr) a0 a1 a2).2.2.2.2.getD (tN (a0.2.2.2.length:Int)) dF).2.2.2.2.1,((aM (bM nr) a0 a1 a2).2.2.2.2.getD (tN (a0.2.2.2.length:Int)) dF).2.2.2.2.2)).getD (tN (a0.2.2.2.length:Int)) dF).2.2.1,(aM (bM nr) a0 a1 a2).1,(((aM (bM nr) a0 a1 a2).2.2.2.2.set (tN (a0.2.2.2.length:Int)) (((aM (bM nr) a0 a1 a2).2.2.2.2.getD (tN (a0.2.2.2.length:Int)) dF).1,((aM (bM nr) a0 a1 a2).2.2.2.2.getD (tN (a0.2.2.2.length:Int)) dF).2.1,(dQ (bM nr) a0 a1 a2).1,((aM (bM nr) a0 a1 a2).2.2.2.2.getD (tN (a0.2.2.2.length:Int)) dF).2.2.2.1,((aM (bM nr) a0 a1 a2).2.2.2.2.getD (tN (a0.2.2.2.length:Int)) dF).2.2.2.2.1,((aM (bM nr) a0 a1 a2).2.2.2.2.getD (tN (a0.2.2.2.length:Int)) dF).2.2.2.2.2)).getD (tN (a0.2.2.2.length:Int)) dF).2.2.2.2.1,(((aM (bM nr) a0 a1 a2).2.2.2.2.set (tN (a0.2.2.2.length:Int)) (((aM (bM nr) a0 a1 a2).2.2.2.2.getD (tN (a0.2.2.2.length:Int)) dF).1,((aM (bM nr) a0 a1 a2).2.2.2.2.getD (tN (a0.2.2.2.length:Int)) dF).2.1,(dQ (bM nr) a0 a1 a2).1,((aM (bM nr) a0 a1 a2).2.2.2.2.getD (tN (a0.2.2.2.length:Int)) dF).2.2.2.1,((aM (bM nr) a0 a1 a2).2.2.2.2.getD (tN (a0.2.2.2.length:Int)) dF).2.2.2.2.1,((aM (bM nr) a0 a1 a2).2.2.2.2.getD (tN (a0.2.2.2.length:Int)) dF).2.2.2.2.2)).getD (tN (a0.2.2.2.length:Int)) dF).2.2.2.2.2)))))
 else
  ((a0.2.2.2.length:Int),(a0.1,a0.2.1,(a0.2.2.1,(a0.2.2.2++[(a1,a2,(-1),(-1),(bS (cX a0 a1 a2)),(fV a0 a1 a2).1)])))))
def F60 (a0:bE×Int×List Int×aY)(a1:Int)(a2:Int):Int×bE×Int×List Int×aY:=bM (tN (a2 - a1)+1) a0 a1 a2
structure ADDR (b r:BU) (i k:Int):Prop where
 pan:r.1=b.1
 leaf:r.2.1=b.2.1
 ol:r.2.2.1.length=b.2.2.1.length
 oi:InR b.1.length r.2.2.1
 lo:b.2.2.2.length < r.2.2.2.length
 hi:r.2.2.2.length<=b.2.2.2.length+2*(k - i) - 1
section
variable {nr : Nat} {b : BU} {i k : Int} (hp : PADD b i k)
include hp
theorem pW:(zT b i k).length=b.2.2.1.length/\InR b.1.length (zT b i k) :=
 bAe (by have:=hp.rng;omega) hp.inr (by have:=hp.rng;have:=hp.sm;omega)
theorem aI4 {x:Int×Int×Int×Int×Zt×Int} (h2:2<=k - i):PADD (b.1,b.2.1,(zT b i k),b.2.2.2++[x]) i (W (i+(W (Int.tdiv (W ((W (k - i))+1)) 2)))):=by
 have h:=hp.rng;have hn:=hp.nds
 rw [aC0 ⟨h.1,h.2.1,by omega⟩]
 have h4:=pW hp
 exact⟨h4.2,⟨h.1,by omega,by rw [h4.1];omega,by rw [h4.1];omega⟩,by simp only [List.length_append,List.length_cons,List.length_nil];omega,hp.lf,by have:=hp.sm;omega⟩
end
theorem aLk {b r:BU} {i k:Int} {o:List Int} {x:Int×Int×Int×Int×Zt×Int} (hp:PADD b i k)(ho:o.length=b.2.2.1.length)(h2:2<=k - i)(hr:ADDR (b.1,b.2.1,o,b.2.2.2++[x]) r i (W (i+(W (Int.tdiv (W ((W (k - i))+1)) 2))))) :
 PADD (b.1,r.2.1,r.2.2.1,r.2.2.2) (W (i+(W (Int.tdiv (W ((W (k - i))+1)) 2)))) k:=by
 have h:=hp.rng;have hn:=hp.nds
 obtain⟨g1,g2,g3,g4,g5,g6⟩:=hr
 rw [aC0 ⟨h.1,h.2.1,by omega⟩] at g6 ⊢
 simp only [List.length_append,List.length_cons,List.length_nil] at g3 g5 g6 g2
 exact⟨g4,⟨by omega,by omega,by rw [g3];omega,by rw [g3];omega⟩,by simp only;omega,by rw [g2];exact hp.lf,by have:=hp.sm;omega⟩
theorem lB:∀(nr:Nat) (b:BU) (i k:Int),PADD b i k->tN (k - i) < nr->ADDR b (bM nr b i k).2 i k
 | 0,b,i,k,_,hn=>absurd hn (fO _)
 | nr+1,b,i,k,hp,hn=>by
  have h:=hp.rng;have hn2:=hp.nds;have hl:=hp.lf
  have hW:W (k - i)=k - i:=aH (by omega) (by omega)
  simp only [bM]
  by_cases h0:W (k - i) > b.2.1
  ·rw [bG h0,cond_true]
   have h2:2<=k - i:=by omega
   have hm:=aC0 ⟨h.1,h.2.1,by omega⟩
   have h5:ADDR _ (dQ (bM nr) b i k).2 i _:=lB nr _ _ _ (aI4 hp h2) (by rw [hm];omega)
   have h6:ADDR _ (aM (bM nr) b i k).2 _ k:=lB nr _ _ _ (aLk hp (pW hp).1 h2 h5) (by rw [hm];omega)
   have g3:=h5.ol;have g5:=h5.lo;have g6:=h5.hi;have f3:=h6.ol;have f5:=h6.lo;have f6:=h6.hi
   rw [hm] at g6 f6
   simp only [List.length_append,List.length_cons,List.length_nil] at g3 g5 g6 f3 f5 f6
   refine⟨rfl,h6.leaf.trans h5.leaf,?_,h6.oi,?_,?_⟩
   ·show(aM (bM nr) b i k).2.2.2.1.length=_
    rw [f3,g3];exact(pW hp).1
   ·simp only [List.length_set];omega
   ·simp only [List.length_set];omega
  ·rw [cC h0,cond_false]
   exact⟨rfl,rfl,rfl,hp.inr,by simp,by simp;omega⟩
theorem bFi:∀(nr:Nat) (a0:bE×Int×List Int×aY) (a1:Int) (a2:Int) (l0_1:a0.1.length<=2^63-1) (l0_2_2_1:a0.2.2.1.length<=2^63-1) (l0_2_2_2:a0.2.2.2.length<=2^63-1) (hp:PADD a0 a1 a2),tN (a2 - a1) < nr->Con Tryz.prog 60 [(.p 0 0),(iv a1),(iv a2)] [(.live true false [(.s 1 0 a0.1.length 10),(iv a0.2.1),(.s 2 0 a0.2.2.1.length 1),(.s 3 0 a0.2.2.2.length 8)]),(.live false true (flat fK a0.1)),(.live true true (flat c3 a0.2.2.1)),(.live true true (flat dM a0.2.2.2))] (iv (bM nr a0 a1 a2).1) [(.live true true (flat dM (bM nr a0 a1 a2).2.2.2.2))] [(.live true false [(.s 1 0 a0.1.length 10),(iv (bM nr a0 a1 a2).2.2.1),(.s 2 0 (bM nr a0 a1 a2).2.2.2.1.length 1),(.s 4 0 (bM nr a0 a1 a2).2.2.2.2.length 8)]),.un,(.live true true (flat c3 (bM nr a0 a1 a2).2.2.2.1)),.dead]:=by
 intro nr
 induction nr with
 | zero=>intro a0 a1 a2 l0_1 l0_2_2_1 l0_2_2_2 hp hlt;exact absurd hlt (fO _)
 | succ nr ihr =>
 intro a0 a1 a2 l0_1 l0_2_2_1 l0_2_2_2 hp hlt
 refine aU Tryz.func60 (by kernel_rfl) fun cx hcx=>?_
 have hps:=hp.sm
 have hpr:=hp.rng
 have hpn:=hp.nds
 have hpl:=hp.lf
 have hpt:=part_len (l:=a0.2.2.1) (a:=a1) (b:=a2) (by omega)
 have hm1:(cX a0 a1 a2).length=_:=aGm a0.1 (Aw.part a0.2.2.1 a1 a2)
 have hW:W (a2 - a1)=a2 - a1:=aH (by omega) (by omega)
 have hmid:=aC0 (i:=a1) (k:=a2) (by omega)
 have h4:=pW hp
 try have h2:2<=a2 - a1:=(fun _=>by omega) h0
 try have h5:ADDR _ (dQ (bM nr) a0 a1 a2).2 a1 _:=(fun _=>lB nr _ _ _ (aI4 hp h2) (by rw [hmid];omega)) h0
 try have h6:ADDR _ (aM (bM nr) a0 a1 a2).2 _ a2:=(fun _=>lB nr _ _ _ (aLk hp (pW hp).1 h2 h5) (by rw [hmid];omega)) h0
 try have g5:=(fun _=>h5.lo) h0
 try have g6:=(fun _=>h5.hi) h0
 try have g3:=(fun _=>h5.ol) h0
 try have f5:=(fun _=>h6.lo) h0
 try have f6:=(fun _=>h6.hi) h0
 try have f3:=(fun _=>h6.ol) h0
 try (have _:=h0;rw [hmid] at g6 f6;simp only [List.length_append,List.length_cons,List.length_nil] at g3 g5 g6 f3 f5 f6)
 let t0:List (St Tryz.prog):=[.sub a1 a2 (a0.2.2.1.length),.c [1,2] (show Con Tryz.prog 99 [(.s 0 0 a0.1.length 10),(.s 1 (0+tN a1*1) (tN a2 - tN a1) 1)] [(.live false true (flat fK a0.1)),(.live false true (flat c3 a0.2.2.1))] (.s 2 0 (cX a0 a1 a2).length 10) [(.live true true (flat fK (cX a0 a1 a2)))] from Con.part (l:=a0.2.2.1) (a:=a1) (b:=a2) (c:=c3) (pre:=[(.s 0 0 a0.1.length 10)]) (post:=[]) (bs1:=[(.live false true (flat fK a0.1))]) (bs2:=[]) 1 cZ (by omega) rfl (by rfl) (aVx a0.1 (Aw.part (a0.2.2.1) a1 a2) (by omega) (by(try simp only [Lt]);omega) (hp.inr.part a1 a2) (by omega))),.c [4] (aZ7 (cX a0 a1 a2) (by(try simp only [Lt]);omega) (by omega)),.c [4] (bAc (cX a0 a1 a2) (bS (cX a0 a1 a2)) (by(try simp only [Lt]);omega) (by omega)),.p (show((flat dM a0.2.2.2).length=a0.2.2.2.length*8/\a0.2.2.2.length+1<=2 ^ 40/\(a0.2.2.2.length+1)*64<=2 ^ 47) from lQ dS (by omega) (by omega))]
 cases h0:(decide (((W (a2 - a1)):Int) > a0.2.1)) with
 | true =>
  have q0:=dL h0
  have h4:=pW hp
  try have h2:2<=a2 - a1:=(fun _=>by omega) h0
  try have h5:ADDR _ (dQ (bM nr) a0 a1 a2).2 a1 _:=(fun _=>lB nr _ _ _ (aI4 hp h2) (by rw [hmid];omega)) h0
  try have h6:ADDR _ (aM (bM nr) a0 a1 a2).2 _ a2:=(fun _=>lB nr _ _ _ (aLk hp (pW hp).1 h2 h5) (by rw [hmid];omega)) h0
  try have g5:=(fun _=>h5.lo) h0
  try have g6:=(fun _=>h5.hi) h0
  try have g3:=(fun _=>h5.ol) h0
  try have f5:=(fun _=>h6.lo) h0
  try have f6:=(fun _=>h6.hi) h0
  try have f3:=(fun _=>h6.ol) h0
  try (have _:=h0;rw [hmid] at g6 f6;simp only [List.length_append,List.length_cons,List.length_nil] at g3 g5 g6 f3 f5 f6)
  have e:=Eq.refl (bM (nr+1) a0 a1 a2);conv at e=>rhs;simp only [bM,h0,aW]
  rw [e]
  try dsimp only [bB]
  try dsimp only
  rw [show flat dM (((aM (bM nr) a0 a1 a2).2.2.2.2.set (tN (a0.2.2.2.length:Int)) (((aM (bM nr) a0 a1 a2).2.2.2.2.getD (tN (a0.2.2.2.length:Int)) dF).1,((aM (bM nr) a0 a1 a2).2.2.2.2.getD (tN (a0.2.2.2.length:Int)) dF).2.1,(dQ (bM nr) a0 a1 a2).1,((aM (bM nr) a0 a1 a2).2.2.2.2.getD (tN (a0.2.2.2.length:Int)) dF).2.2.2.1,((aM (bM nr) a0 a1 a2).2.2.2.2.getD (tN (a0.2.2.2.length:Int)) dF).2.2.2.2.1,((aM (bM nr) a0 a1 a2).2.2.2.2.getD (tN (a0.2.2.2.length:Int)) dF).2.2.2.2.2)).set (tN (a0.2.2.2.length:Int)) ((((aM (bM nr) a0 a1 a2).2.2.2.2.set (tN (a0.2.2.2.length:Int)) (((aM (bM nr) a0 a1 a2).2.2.2.2.getD (tN (a0.2.2.2.length:Int)) dF).1,((aM (bM nr) a0 a1 a2).2.2.2.2.getD (tN (a0.2.2.2.length:Int)) dF).2.1,(dQ (bM nr) a0 a1 a2).1,((aM (bM nr) a0 a1 a2).2.2.2.2.getD (tN (a0.2.2.2.length:Int)) dF).2.2.2.1,((aM (bM nr) a0 a1 a2).2.2.2.2.getD (tN (a0.2.2.2.length:Int)) dF).2.2.2.2.1,((aM (bM nr) a0 a1 a2).2.2.2.2.getD (tN (a0.2.2.2.length:Int)) dF).2.2.2.2.2)).getD (tN (a0.2.2.2.length:Int)) dF).1,(((aM (bM nr) a0 a1 a2).2.2.2.2.set (tN (a0.2.2.2.length:Int)) (((aM (bM nr) a0 a1 a2).2.2.2.2.getD (tN (a0.2.2.2.length:Int)) dF).1,((aM (bM nr) a0 a1 a2).2.2.2.2.getD (tN (a0.2.2.2.length:Int)) dF).2.1,(dQ (bM nr) a0 a1 a2).1,((aM (bM nr) a0 a1 a2).2.2.2.2.getD (tN (a0.2.2.2.length:Int)) dF).2.2.2.1,((aM (bM nr) a0 a1 a2).2.2.2.2.getD (tN (a0.2.2.2.length:Int)) dF).2.2.2.2.1,((aM (bM nr) a0 a1 a2).2.2.2.2.getD (tN (a0.2.2.2.length:Int)) dF).2.2.2.2.2)).getD (tN (a0.2.2.2.length:Int)) dF).2.1,(((aM (bM nr) a0 a1 a2).2.2.2.2.set (tN (a0.2.2.2.length:Int)) (((aM (bM nr) a0 a1 a2).2.2.2.2.getD (tN (a0.2.2.2.length:Int)) dF).1,((aM (bM nr) a0 a1 a2).2.2.2.2.getD (tN (a0.2.2.2.length:Int)) dF).2.1,(dQ (bM nr) a0 a1 a2).1,((aM (bM nr) a0 a1 a2).2.2.2.2.getD (tN (a0.2.2.2.length:Int)) dF).2.2.2.1,((aM (bM nr) a0 a1 a2).2.2.2.2.getD (tN (a0.2.2.2.length:Int)) dF).2.2.2.2.1,((aM (bM nr) a0 a1 a2).2.2.2.2.getD (tN (a0.2.2.2.length:Int)) dF).2.2.2.2.2)).getD (tN (a0.2.2.2.length:Int)) dF).2.2.1,(aM (bM nr) a0 a1 a2).1,(((aM (bM nr) a0 a1 a2).2.2.2.2.set (tN (a0.2.2.2.length:Int)) (((aM (bM nr) a0 a1 a2).2.2.2.2.getD (tN (a0.2.2.2.length:Int)) dF).1,((aM (bM nr) a0 a1 a2).2.2.2.2.getD (tN (a0.2.2.2.length:Int)) dF).2.1,(dQ (bM nr) a0 a1 a2).1,((aM (bM nr) a0 a1 a2).2.2.2.2.getD (tN (a0.2.2.2.length:Int)) dF).2.2.2.1,((aM (bM nr) a0 a1 a2).2.2.2.2.getD (tN (a0.2.2.2.length:Int)) dF).2.2.2.2.1,((aM (bM nr) a0 a1 a2).2.2.2.2.getD (tN (a0.2.2.2.length:Int)) dF).2.2.2.2.2)).getD (tN (a0.2.2.2.length:Int)) dF).2.2.2.2.1,(((aM (bM nr) a0 a1 a2).2.2.2.2.set (tN (a0.2.2.2.length:Int)) (((aM (bM nr) a0 a1 a2).2.2.2.2.getD (tN (a0.2.2.2.length:Int)) dF).1,((aM (bM nr) a0 a1 a2).2.2.2.2.getD (tN (a0.2.2.2.length:Int)) dF).2.1,(dQ (bM nr) a0 a1 a2).1,((aM (bM nr) a0 a1 a2).2.2.2.2.getD (tN (a0.2.2.2.length:Int)) dF).2.2.2.1,((aM (bM nr) a0 a1 a2).2.2.2.2.getD (tN (a0.2.2.2.length:Int)) dF).2.2.2.2.1,((aM (bM nr) a0 a1 a2).2.2.2.2.getD (tN (a0.2.2.2.length:Int)) dF).2.2.2.2.2)).getD (tN (a0.2.2.2.length:Int)) dF).2.2.2.2.2))=(splice (splice (flat dM (aM (bM nr) a0 a1 a2).2.2.2.2) (0+tN (a0.2.2.2.length:Int)*8+2) [(iv (dQ (bM nr) a0 a1 a2).1)]) (0+tN (a0.2.2.2.length:Int)*8+3) [(iv (aM (bM nr) a0 a1 a2).1)]) from Eq.symm (by rw [show(splice (flat dM (aM (bM nr) a0 a1 a2).2.2.2.2) (0+tN (a0.2.2.2.length:Int)*8+2) [(iv (dQ (bM nr) a0 a1 a2).1)])=flat dM ((aM (bM nr) a0 a1 a2).2.2.2.2.set (tN (a0.2.2.2.length:Int)) (((aM (bM nr) a0 a1 a2).2.2.2.2.getD (tN (a0.2.2.2.length:Int)) dF).1,((aM (bM nr) a0 a1 a2).2.2.2.2.getD (tN (a0.2.2.2.length:Int)) dF).2.1,(dQ (bM nr) a0 a1 a2).1,((aM (bM nr) a0 a1 a2).2.2.2.2.getD (tN (a0.2.2.2.length:Int)) dF).2.2.2.1,((aM (bM nr) a0 a1 a2).2.2.2.2.getD (tN (a0.2.2.2.length:Int)) dF).2.2.2.2.1,((aM (bM nr) a0 a1 a2).2.2.2.2.getD (tN (a0.2.2.2.length:Int)) dF).2.2.2.2.2)) from(iY dS (by first | omega | (simp only [Lt];omega)) (o:=2) (d:=dF) (Nb rfl) rfl)];exact iY dS (by first | omega | (simp only [Lt];omega)) (o:=3) (d:=dF) (Nb rfl) rfl)]
  try rw [show List.length (α:=Int×Int×Int×Int×Zt×Int) (((aM (bM nr) a0 a1 a2).2.2.2.2.set (tN (a0.2.2.2.length:Int)) (((aM (bM nr) a0 a1 a2).2.2.2.2.getD (tN (a0.2.2.2.length:Int)) dF).1,((aM (bM nr) a0 a1 a2).2.2.2.2.getD (tN (a0.2.2.2.length:Int)) dF).2.1,(dQ (bM nr) a0 a1 a2).1,((aM (bM nr) a0 a1 a2).2.2.2.2.getD (tN (a0.2.2.2.length:Int)) dF).2.2.2.1,((aM (bM nr) a0 a1 a2).2.2.2.2.getD (tN (a0.2.2.2.length:Int)) dF).2.2.2.2.1,((aM (bM nr) a0 a1 a2).2.2.2.2.getD (tN (a0.2.2.2.length:Int)) dF).2.2.2.2.2)).set (tN (a0.2.2.2.length:Int)) ((((aM (bM nr) a0 a1 a2).2.2.2.2.set (tN (a0.2.2.2.length:Int)) (((aM (bM nr) a0 a1 a2).2.2.2.2.getD (tN (a0.2.2.2.length:Int)) dF).1,((aM (bM nr) a0 a1 a2).2.2.2.2.getD (tN (a0.2.2.2.length:Int)) dF).2.1,(dQ (bM nr) a0 a1 a2).1,((aM (bM nr) a0 a1 a2).2.2.2.2.getD (tN (a0.2.2.2.length:Int)) dF).2.2.2.1,((aM (bM nr) a0 a1 a2).2.2.2.2.getD (tN (a0.2.2.2.length:Int)) dF).2.2.2.2.1,((aM (bM nr) a0 a1 a2).2.2.2.2.getD (tN (a0.2.2.2.length:Int)) dF).2.2.2.2.2)).getD (tN (a0.2.2.2.length:Int)) dF).1,(((aM (bM nr) a0 a1 a2).2.2.2.2.set (tN (a0.2.2.2.length:Int)) (((aM (bM nr) a0 a1 a2).2.2.2.2.getD (tN (a0.2.2.2.length:Int)) dF).1,((aM (bM nr) a0 a1 a2).2.2.2.2.getD (tN (a0.2.2.2.length:Int)) dF).2.1,(dQ (bM nr) a0 a1 a2).1,((aM (bM nr) a0 a1 a2).2.2.2.2.getD (tN (a0.2.2.2.length:Int)) dF).2.2.2.1,((aM (bM nr) a0 a1 a2).2.2.2.2.getD (tN (a0.2.2.2.length:Int)) dF).2.2.2.2.1,((aM (bM nr) a0 a1 a2).2.2.2.2.getD (tN (a0.2.2.2.length:Int)) dF).2.2.2.2.2)).getD (tN (a0.2.2.2.length:Int)) dF).2.1,(((aM (bM nr) a0 a1 a2).2.2.2.2.set (tN (a0.2.2.2.length:Int)) (((aM (bM nr) a0 a1 a2).2.2.2.2.getD (tN (a0.2.2.2.length:Int)) dF).1,((aM (bM nr) a0 a1 a2).2.2.2.2.getD (tN (a0.2.2.2.length:Int)) dF).2.1,(dQ (bM nr) a0 a1 a2).1,((aM (bM nr) a0 a1 a2).2.2.2.2.getD (tN (a0.2.2.2.length:Int)) dF).2.2.2.1,((aM (bM nr) a0 a1 a2).2.2.2.2.getD (tN (a0.2.2.2.length:Int)) dF).2.2.2.2.1,((aM (bM nr) a0 a1 a2).2.2.2.2.getD (tN (a0.2.2.2.length:Int)) dF).2.2.2.2.2)).getD (tN (a0.2.2.2.length:Int)) dF).2.2.1,(aM (bM nr) a0 a1 a2).1,(((aM (bM nr) a0 a1 a2).2.2.2.2.set (tN (a0.2.2.2.length:Int)) (((aM (bM nr) a0 a1 a2).2.2.2.2.getD (tN (a0.2.2.2.length:Int)) dF).1,((aM (bM nr) a0 a1 a2).2.2.2.2.getD (tN (a0.2.2.2.length:Int)) dF).2.1,(dQ (bM nr) a0 a1 a2).1,((aM (bM nr) a0 a1 a2).2.2.2.2.getD (tN (a0.2.2.2.length:Int)) dF).2.2.2.1,((aM (bM nr) a0 a1 a2).2.2.2.2.getD (tN (a0.2.2.2.length:Int)) dF).2.2.2.2.1,((aM (bM nr) a0 a1 a2).2.2.2.2.getD (tN (a0.2.2.2.length:Int)) dF).2.2.2.2.2)).getD (tN (a0.2.2.2.length:Int)) dF).2.2.2.2.1,(((aM (bM nr) a0 a1 a2).2.2.2.2.set (tN (a0.2.2.2.length:Int)) (((aM (bM nr) a0 a1 a2).2.2.2.2.getD (tN (a0.2.2.2.length:Int)) dF).1,((aM (bM nr) a0 a1 a2).2.2.2.2.getD (tN (a0.2.2.2.length:Int)) dF).2.1,(dQ (bM nr) a0 a1 a2).1,((aM (bM nr) a0 a1 a2).2.2.2.2.getD (tN (a0.2.2.2.length:Int)) dF).2.2.2.1,((aM (bM nr) a0 a1 a2).2.2.2.2.getD (tN (a0.2.2.2.length:Int)) dF).2.2.2.2.1,((aM (bM nr) a0 a1 a2).2.2.2.2.getD (tN (a0.2.2.2.length:Int)) dF).2.2.2.2.2)).getD (tN (a0.2.2.2.length:Int)) dF).2.2.2.2.2))=(aM (bM nr) a0 a1 a2).2.2.2.2.length from by first | simp;done | omega]
  exact rtm (t0++[.d h0,.sub a1 a2 (a0.2.2.1.length),.sub a1 a2 (a0.2.2.1.length),.c [0,1,2,7] (show Con Tryz.prog 103 [(.p 0 0),(.s 2 (0+tN a1*1) (tN a2 - tN a1) 1)] [(.live false false [(.s 1 0 a0.1.length 10),(iv a0.2.1),(.s 2 0 a0.2.2.1.length 1),(.s 3 0 (a0.2.2.2.length+1) 8)]),(.live false true (flat fK a0.1)),(.live false true (flat c3 a0.2.2.1)),(.live false true (flat dM a0.2.2.2++[(iv a1),(iv a2),(iv (-1)),(iv (-1)),(iv (bS (cX a0 a1 a2)).1),(iv (bS (cX a0 a1 a2)).2.1),(iv (bS (cX a0 a1 a2)).2.2),(iv (fV a0 a1 a2).1)]))] (.a [(.p 0 0),(iv (aI3 a0 a1 a2).2)]) [] from Con.alias (l:=a0.2.2.1) (a:=a1) (b:=a2) (c:=c3) (pre:=[(.p 0 0)]) (post:=[]) (bs:=[(.live false false [(.s 1 0 a0.1.length 10),(iv a0.2.1),(.s 2 0 a0.2.2.1.length 1),(.s 3 0 (a0.2.2.2.length+1) 8)]),(.live false true (flat fK a0.1)),(.live false true (flat c3 a0.2.2.1)),(.live false true (flat dM a0.2.2.2++[(iv a1),(iv a2),(iv (-1)),(iv (-1)),(iv (bS (cX a0 a1 a2)).1),(iv (bS (cX a0 a1 a2)).2.1),(iv (bS (cX a0 a1 a2)).2.2),(iv (fV a0 a1 a2).1)]))]) 2 cZ (by omega) rfl (by rfl) (by have q:=(bAd (a0.1,a0.2.1,(a0.2.2.1,(a0.2.2.2++[(a1,a2,(-1),(-1),(bS (cX a0 a1 a2)),(fV a0 a1 a2).1)]))) (Aw.part (a0.2.2.1) a1 a2) (by(try simp only [Lt]);omega) (by(try simp only [Lt]);omega) (by(try simp only [Lt]);omega) (by(try simp only [Lt]);omega) (hp.inr.part a1 a2) (by omega));(try dsimp only at q);rw [show flat dM (a0.2.2.2++[(a1,a2,(-1),(-1),(bS (cX a0 a1 a2)),(fV a0 a1 a2).1)])=(flat dM a0.2.2.2++[(iv a1),(iv a2),(iv (-1)),(iv (-1)),(iv (bS (cX a0 a1 a2)).1),(iv (bS (cX a0 a1 a2)).2.1),(iv (bS (cX a0 a1 a2)).2.2),(iv (fV a0 a1 a2).1)]) from cW] at q;(try rw [show List.length (α:=Int×Int×Int×Int×Zt×Int) (a0.2.2.2++[(a1,a2,(-1),(-1),(bS (cX a0 a1 a2)),(fV a0 a1 a2).1)])=(a0.2.2.2.length+1) from by first | simp;done | omega] at q);exact q)),.c [2,0,1,7] (by have q:=(aIz (a0.2.2.1) (tN a1) (tN a2 - tN a1) ((a0.1,a0.2.1,(a0.2.2.1,(a0.2.2.2++[(a1,a2,(-1),(-1),(bS (cX a0 a1 a2)),(fV a0 a1 a2).1)]))),(aI3 a0 a1 a2).2) (by(try simp only [Lt]);omega) (by(try simp only [Lt]);omega) (by(try simp only [Lt]);omega) (by(try simp only [Lt]);omega) (by omega) hp.inr (by omega));(try dsimp only at q);rw [show flat dM (a0.2.2.2++[(a1,a2,(-1),(-1),(bS (cX a0 a1 a2)),(fV a0 a1 a2).1)])=(flat dM a0.2.2.2++[(iv a1),(iv a2),(iv (-1)),(iv (-1)),(iv (bS (cX a0 a1 a2)).1),(iv (bS (cX a0 a1 a2)).2.1),(iv (bS (cX a0 a1 a2)).2.2),(iv (fV a0 a1 a2).1)]) from cW] at q;(try rw [show List.length (α:=Int×Int×Int×Int×Zt×Int) (a0.2.2.2++[(a1,a2,(-1),(-1),(bS (cX a0 a1 a2)),(fV a0 a1 a2).1)])=(a0.2.2.2.length+1) from by first | simp;done | omega] at q);exact q),.p (show(2:Int)≠0 from by decide),.c [0,1,2,7] (by have q:=(ihr (a0.1,a0.2.1,((zT a0 a1 a2),(a0.2.2.2++[(a1,a2,(-1),(-1),(bS (cX a0 a1 a2)),(fV a0 a1 a2).1)]))) a1 (W (a1+(W (Int.tdiv (W ((W (a2 - a1))+1)) 2)))) (by(try simp only [Lt]);omega) (by(try simp only [Lt]);omega) (by(try simp only [Lt]);omega) (by first | exact aI4 hp h2 | exact aLk hp (pW hp).1 h2 h5) (by rw [hmid];omega));(try dsimp only at q);rw [show flat dM (a0.2.2.2++[(a1,a2,(-1),(-1),(bS (cX a0 a1 a2)),(fV a0 a1 a2).1)])=(flat dM a0.2.2.2++[(iv a1),(iv a2),(iv (-1)),(iv (-1)),(iv (bS (cX a0 a1 a2)).1),(iv (bS (cX a0 a1 a2)).2.1),(iv (bS (cX a0 a1 a2)).2.2),(iv (fV a0 a1 a2).1)]) from cW] at q;(try rw [show List.length (α:=Int) (zT a0 a1 a2)=a0.2.2.1.length from by first | simp;done | omega] at q);(try rw [show List.length (α:=Int×Int×Int×Int×Zt×Int) (a0.2.2.2++[(a1,a2,(-1),(-1),(bS (cX a0 a1 a2)),(fV a0 a1 a2).1)])=(a0.2.2.2.length+1) from by first | simp;done | omega] at q);exact q),.c [0,1,2,8] (ihr (a0.1,(dQ (bM nr) a0 a1 a2).2.2.1,((dQ (bM nr) a0 a1 a2).2.2.2.1,(dQ (bM nr) a0 a1 a2).2.2.2.2)) (W (a1+(W (Int.tdiv (W ((W (a2 - a1))+1)) 2)))) a2 (by(try simp only [Lt]);omega) (by(try simp only [Lt]);omega) (by(try simp only [Lt]);omega) (by first | exact aI4 hp h2 | exact aLk hp (pW hp).1 h2 h5) (by rw [hmid];omega)),.i (a0.2.2.2.length:Int) ((aM (bM nr) a0 a1 a2).2.2.2.2.length),.p (show((0+tN (a0.2.2.2.length:Int)*8+2)+1<=(flat dM (aM (bM nr) a0 a1 a2).2.2.2.2).length) from(oG dS (by first | omega | (simp only [Lt];omega)) (o:=2) (Nb rfl))),.i (a0.2.2.2.length:Int) ((aM (bM nr) a0 a1 a2).2.2.2.2.length),.p (show((0+tN (a0.2.2.2.length:Int)*8+3)+1<=(splice (flat dM (aM (bM nr) a0 a1 a2).2.2.2.2) (0+tN (a0.2.2.2.length:Int)*8+2) [(iv (dQ (bM nr) a0 a1 a2).1)]).length) from(by rw [show(splice (flat dM (aM (bM nr) a0 a1 a2).2.2.2.2) (0+tN (a0.2.2.2.length:Int)*8+2) [(iv (dQ (bM nr) a0 a1 a2).1)])=flat dM ((aM (bM nr) a0 a1 a2).2.2.2.2.set (tN (a0.2.2.2.length:Int)) (((aM (bM nr) a0 a1 a2).2.2.2.2.getD (tN (a0.2.2.2.length:Int)) dF).1,((aM (bM nr) a0 a1 a2).2.2.2.2.getD (tN (a0.2.2.2.length:Int)) dF).2.1,(dQ (bM nr) a0 a1 a2).1,((aM (bM nr) a0 a1 a2).2.2.2.2.getD (tN (a0.2.2.2.length:Int)) dF).2.2.2.1,((aM (bM nr) a0 a1 a2).2.2.2.2.getD (tN (a0.2.2.2.length:Int)) dF).2.2.2.2.1,((aM (bM nr) a0 a1 a2).2.2.2.2.getD (tN (a0.2.2.2.length:Int)) dF).2.2.2.2.2)) from(iY dS (by first | omega | (simp only [Lt];omega)) (o:=2) (d:=dF) (Nb rfl) rfl)];exact oG dS (by first | omega | (simp only [Lt];omega)) (o:=3) (Nb rfl)))]) [] [0,2,3] [9] hcx (by kernel_rfl)
 | false =>
  have q0:=eH h0
  have h4:=pW hp
  try have h2:2<=a2 - a1:=(fun _=>by omega) h0
  try have h5:ADDR _ (dQ (bM nr) a0 a1 a2).2 a1 _:=(fun _=>lB nr _ _ _ (aI4 hp h2) (by rw [hmid];omega)) h0
  try have h6:ADDR _ (aM (bM nr) a0 a1 a2).2 _ a2:=(fun _=>lB nr _ _ _ (aLk hp (pW hp).1 h2 h5) (by rw [hmid];omega)) h0
  try have g5:=(fun _=>h5.lo) h0
  try have g6:=(fun _=>h5.hi) h0
  try have g3:=(fun _=>h5.ol) h0
  try have f5:=(fun _=>h6.lo) h0
  try have f6:=(fun _=>h6.hi) h0
  try have f3:=(fun _=>h6.ol) h0
  try (have _:=h0;rw [hmid] at g6 f6;simp only [List.length_append,List.length_cons,List.length_nil] at g3 g5 g6 f3 f5 f6)
  have e:=Eq.refl (bM (nr+1) a0 a1 a2);conv at e=>rhs;simp only [bM,h0,aW]
  rw [e]
  try dsimp only [bB]
  try dsimp only
  rw [show flat dM (a0.2.2.2++[(a1,a2,(-1),(-1),(bS (cX a0 a1 a2)),(fV a0 a1 a2).1)])=(flat dM a0.2.2.2++[(iv a1),(iv a2),(iv (-1)),(iv (-1)),(iv (bS (cX a0 a1 a2)).1),(iv (bS (cX a0 a1 a2)).2.1),(iv (bS (cX a0 a1 a2)).2.2),(iv (fV a0 a1 a2).1)]) from cW]
  try rw [show List.length (α:=Int×Int×Int×Int×Zt×Int) (a0.2.2.2++[(a1,a2,(-1),(-1),(bS (cX a0 a1 a2)),(fV a0 a1 a2).1)])=(a0.2.2.2.length+1) from by first | simp;done | omega]
  exact rtm (t0++[.d h0]) [] [0,2,3] [7] hcx (by kernel_rfl)
theorem C60 (a0:bE×Int×List Int×aY)(a1:Int)(a2:Int)(l0_1:a0.1.length<=2^63-1)(l0_2_2_1:a0.2.2.1.length<=2^63-1)(l0_2_2_2:a0.2.2.2.length<=2^63-1)(hp:PADD a0 a1 a2):Con Tryz.prog 60 [(.p 0 0),(iv a1),(iv a2)] [(.live true false [(.s 1 0 a0.1.length 10),(iv a0.2.1),(.s 2 0 a0.2.2.1.length 1),(.s 3 0 a0.2.2.2.length 8)]),(.live false true (flat fK a0.1)),(.live true true (flat c3 a0.2.2.1)),(.live true true (flat dM a0.2.2.2))] (iv (F60 a0 a1 a2).1) [(.live true true (flat dM (F60 a0 a1 a2).2.2.2.2))] [(.live true false [(.s 1 0 a0.1.length 10),(iv (F60 a0 a1 a2).2.2.1),(.s 2 0 (F60 a0 a1 a2).2.2.2.1.length 1),(.s 4 0 (F60 a0 a1 a2).2.2.2.2.length 8)]),.un,(.live true true (flat c3 (F60 a0 a1 a2).2.2.2.1)),.dead]:=bFi (tN (a2 - a1)+1) a0 a1 a2 l0_1 l0_2_2_1 l0_2_2_2 hp (lss _)
end Go.Proofs.YtlckcjfbjnjfhaaGreat
namespace Go.Proofs.YtlckcjfbjnjfhaaGreat
open Go.Proofs Go.Aw Go.RowKit
set_option maxRecDepth 100000
theorem InR.add {n:Nat} {l:List Int} (h:InR n l) {x:Int} (hx:0<=x/\x < (n:Int)):InR n (l++[x]):=fun y hy=>by
 rcases List.mem_append.1 hy with hy | hy
 ·exact h y hy
 ·rw [List.mem_singleton.1 hy];exact hx
theorem InR.nil (n:Nat):InR n []:=fun y hy=>by simp at hy
noncomputable def aGn:Code:=(aO [1,1,0,1] [] (aI Tryz.f35) []).1
noncomputable def aGo:List K:=(aO [1,1,0,1] [] (aI Tryz.f35) []).2
def aC1 (a0:bE)(a1:Int)(v3c:List SV)(v3n:Nat)(v4c:List SV)(v4n:Nat)(v5:Int):LS:=⟨jH 40 [(0,(.s 0 0 a0.length 10)),(4,(.p 1 0)),(5,(.p 2 0)),(12,(iv (a0.length:Int))),(13,(iv v5))],[(.live false true (flat fK a0)),(.live true false [(.v (.slice none 0 0)),(.v (.slice none 0 0))]),(.live true false [(.s 0 0 a0.length 10),(iv a1),(.s 3 0 v3n 1),(.s 4 0 v4n 8)]),(.live true true v3c),(.live true true v4c)]⟩
def fS (a0:bE)(a1:Int):List Int×aY×Int->(List Int×aY×Int)⊕(List Int×aY)
 | (v3,v4,v5) =>
  (bif (decide ((v5:Int) < (a0.length:Int))) then
   (.inl ((v3++[v5]),v4,(v5+1)))
  else
   (bif (decide (((a0.length:Int):Int) > 0)) then
    (.inr ((F60 (a0,a1,(v3,v4)) 0 (a0.length:Int)).2.2.2.1,(F60 (a0,a1,(v3,v4)) 0 (a0.length:Int)).2.2.2.2))
   else
    (.inr (v3,v4))))
theorem aVy (a0:bE)(a1:Int)(l0:a0.length<=2^63-1)(hl:a0.length<=12)(hf:1<=a1) {cx:Cx} (hcx:cx.base=1):∀(n:Nat) (v3:List Int) (v4:aY) (v5:Int),(0<=v5)/\(v3.length=tN v5)/\(InR a0.length v3)/\(v4.length=0)/\(v5<=a0.length)/\(a0.length<=12)/\(1<=a1)->tN ((a0.length:Int) - v5) < n->Aw.Good Tryz.prog none 9 (bodyPost Tryz.prog Tryz.f35 (RR cx (.a [(.s 1 0 (aA (fS a0 a1) n (v3,v4,v5)).1.length 1),(.s 2 0 (aA (fS a0 a1) n (v3,v4,v5)).2.length 8)]) [(.live true true (flat c3 (aA (fS a0 a1) n (v3,v4,v5)).1)),(.live true true (flat dM (aA (fS a0 a1) n (v3,v4,v5)).2))] [])) cx [] (.l aGn n::aGo) (aC1 a0 a1 (flat c3 v3) v3.length (flat dM v4) v4.length v5):=by
 intro n
 induction n with
 | zero=>intro v3 v4 v5 hi hn;exact absurd hn (fO _)
 | succ n ih =>
  intro v3 v4 v5 hi hn
  refine aT ?_
  cases h0:(decide ((v5:Int) < (a0.length:Int))) with
  | true =>
   have q0:=dL h0
   have e:=Eq.refl (fS a0 a1 (v3,v4,v5));conv at e=>rhs;simp only [fS,h0,aW]
   rw [aB e]
   refine ba [.d h0,.p (show((flat c3 v3).length=v3.length*1/\v3.length+1<=2 ^ 40/\(v3.length+1)*8<=2 ^ 47) from lQ cZ (by omega) (by omega))] [] [0,4,5,12,13] [1,2,6,4] hcx (m:=n) aGn (aGo) (aC1 a0 a1 (flat c3 v3++[(iv v5)]) (v3.length+1) (flat dM v4) (v4.length) (W (v5+1))) (by kernel_rfl) ?_
   have z0:(W (v5+1))=(v5+1):=aH (by omega) (by omega)
   have z1:(flat c3 v3++[(iv v5)])=(flat c3 (v3++[v5])):=(cW (c:=c3) (l:=v3) (m:=[v5])).symm
   have z2:(v3.length+1)=(v3++[v5]).length:=kZ v3 [v5] rfl
   rw [z0,z1,z2]
   exact ih (v3++[v5]) v4 (v5+1) (by refine⟨?_,?_,?_,?_,?_,?_,?_⟩<;>first | omega | assumption | exact InR.nil _ | exact hi.2.2.1 | exact hi.2.2.1.add (by omega) | (simp only [Ls];omega) | simp) (by(try simp only [Ls]);omega)
  | false =>
   have q0:=eH h0
   let t1:List (St Tryz.prog):=[.d h0]
   cases h1:(decide (((a0.length:Int):Int) > 0)) with
   | true =>
    have q1:=dL h1
    have e:=Eq.refl (fS a0 a1 (v3,v4,v5));conv at e=>rhs;simp only [fS,h0,h1,aW]
    rw [aN,e]
    exact rt (t1++[.d h1,.c [2,0,3,4] (C60 (a0,a1,(v3,v4)) 0 (a0.length:Int) (by(try simp only [Lt]);omega) (by(try simp only [Lt]);omega) (by(try simp only [Lt]);omega) (by refine⟨?_,?_,?_,?_,?_⟩<;>first | exact hi.2.2.1 | (simp only [];omega) | omega))]) [] [3,5] hcx (by kernel_rfl)
   | false =>
    have q1:=eH h1
    have e:=Eq.refl (fS a0 a1 (v3,v4,v5));conv at e=>rhs;simp only [fS,h0,h1,aW]
    rw [aN,e]
    exact rt (t1++[.d h1]) [] [3,4] hcx (by kernel_rfl)
def kL (a0:bE)(a1:Int):List Int×aY :=
 (aA (fS a0 a1) (tN ((a0.length:Int) - 0)+1) (([]:List Int),([]:aY),0))
theorem aX1 (a0:bE)(a1:Int)(l0:a0.length<=2^63-1)(hl:a0.length<=12)(hf:1<=a1):Con Tryz.prog 35 [(.s 0 0 a0.length 10),(iv a1)] [(.live false true (flat fK a0))] (.a [(.s 1 0 (kL a0 a1).1.length 1),(.s 2 0 (kL a0 a1).2.length 8)]) [(.live true true (flat c3 (kL a0 a1).1)),(.live true true (flat dM (kL a0 a1).2))]:=by
 refine aU Tryz.func35 (by kernel_rfl) fun cx hcx=>?_
 have e:=Eq.refl (kL a0 a1);conv at e=>rhs;simp only [kL]
 rw [e]
 refine en [] [.cell 2 2 1,.cell 2 3 8] [0,4,5,12,13] [1,2,3,4] hcx aGn (aGo) (aC1 a0 a1 (flat c3 ([]:List Int)) 0 (flat dM ([]:aY)) 0 0) (tN ((a0.length:Int) - 0)+1) (by kernel_rfl) ?_
 exact aVy a0 a1 l0 hl hf hcx (tN ((a0.length:Int) - 0)+1) ([]:List Int) ([]:aY) 0 (by refine⟨?_,?_,?_,?_,?_,?_,?_⟩<;>first | omega | assumption | exact InR.nil _ | exact hi.2.2.1 | exact hi.2.2.1.add (by omega) | (simp only [Ls];omega) | simp) (by(try simp only [Ls]);omega)
def kM (a0:Int)(a1:Int)(a2:Int):Bool :=
 (bif (decide ((a0:Int)≥a1)) then
  (decide ((a0:Int)<=a2))
 else
  false)
theorem C34 (a0:Int)(a1:Int)(a2:Int):Con Tryz.prog 34 [(iv a0),(iv a1),(iv a2)] [] (.v (.bool (kM a0 a1 a2))) []:=by
 refine aU Tryz.func34 (by kernel_rfl) fun cx hcx=>?_
 cases h0:(decide ((a0:Int)≥a1)) with
 | true =>
  have q0:=dL h0
  have e:=Eq.refl (kM a0 a1 a2);conv at e=>rhs;simp only [kM,h0,aW]
  rw [e]
  exact rt [.d h0] [] [] hcx (by kernel_rfl)
 | false =>
  have q0:=eH h0
  have e:=Eq.refl (kM a0 a1 a2);conv at e=>rhs;simp only [kM,h0,aW]
  rw [e]
  exact rt [.d h0] [] [] hcx (by kernel_rfl)
theorem bC9 {n m k:Int} (h:(!(kM n k m))=false):k<=n:=by
 simp only [kM] at h
 by_cases h1:n≥k
 ·exact h1
 ·rw [cC h1] at h;simp at h
abbrev bL (l:List (PN×Int)):Prop:=Nonempty (PLift (l.length<=12\/96 < l.length))
theorem aLl {l:List (PN×Int)} [h:bL l] (h1:l.length<=96):l.length<=12:=by
 obtain⟨⟨h⟩⟩:=h
 omega
def aF (a0:bE)(a1:Int):(List Int×aY)×Int :=
 (bif (((eU a0):Int) != 0) then
  ((([]:List Int),([]:aY)),(eU a0))
 else
  (bif (!(kM a1 1 16)) then
   ((([]:List Int),([]:aY)),1)
  else
   (((kL a0 a1).1,(kL a0 a1).2),0)))
theorem bDa (a0:bE)(a1:Int)(l0:a0.length<=2^63-1) [h5:bL a0]:Con Tryz.prog 9 [(.s 0 0 a0.length 10),(iv a1)] [(.live false true (flat fK a0))] (.t [(.a [(.s 1 0 (aF a0 a1).1.1.length 1),(.s 2 0 (aF a0 a1).1.2.length 8)]),(iv (aF a0 a1).2)]) [(.live true true (flat c3 (aF a0 a1).1.1)),(.live true true (flat dM (aF a0 a1).1.2))]:=by
 refine aU Tryz.func9 (by kernel_rfl) fun cx hcx=>?_
 let t0:List (St Tryz.prog):=[.c [0] (aNd a0 (by omega))]
 cases h0:(((eU a0):Int) != 0) with
 | true =>
  have q0:=bne_iff_ne.1 h0
  have e:=Eq.refl (aF a0 a1);conv at e=>rhs;simp only [aF,h0,aW]
  rw [e]
  exact rt (t0++[.d h0]) [.cell 1 0 1,.cell 1 1 8] [2,3] hcx (by kernel_rfl)
 | false =>
  have q0:=bne_eq_false_iff_eq.1 h0
  let t1:List (St Tryz.prog):=(t0++[.d h0,.c [] (C34 a1 1 16)])
  cases h1:(!(kM a1 1 16)) with
  | true =>
   have e:=Eq.refl (aF a0 a1);conv at e=>rhs;simp only [aF,h0,h1,aW]
   rw [e]
   exact rt (t1++[.d h1]) [.cell 1 0 1,.cell 1 1 8] [2,3] hcx (by kernel_rfl)
  | false =>
   have e:=Eq.refl (aF a0 a1);conv at e=>rhs;simp only [aF,h0,h1,aW]
   rw [e]
   exact rt (t1++[.d h1,.c [0] (aX1 a0 a1 (by omega) (aLl (jX (l:=a0) (bne_eq_false_iff_eq.1 h0))) (bC9 h1))]) [] [2,3] hcx (by kernel_rfl)
theorem aVz (n lo hi:Int):F59 n lo hi=F82 n lo hi:=by
 unfold F59 F82
 by_cases h1:lo<=n<;>by_cases h2:n<=hi<;>simp [h1,h2]
theorem nO (l:List (PN×Int)):eU l=oE l:=by
 have e:eC l=aF6 l:=by
  funext v
  simp only [eC,aF6,aK0,aZi,aVz]
 unfold eU oE
 rw [e]
theorem aSo {l:List (PN×Int)} (h:oE l=0):l.length<=96:=jX (by rw [nO];exact h)
def eZ (a0:Zt)(a1:Int):Int :=
 (bif ((a1:Int) == 0) then
  a0.1
 else
  (bif ((a1:Int) == 1) then
   a0.2.1
  else
   a0.2.2))
def iS (a0:(Zt×Zt×Zt)×Int)(a1:Int):Int :=
 (W ((W ((eZ a0.1.1 a1)+(eZ a0.1.2.1 a1)))+(eZ a0.1.2.2 a1)))
def aLm (a0:Int)(a1:Int):Int :=
 (Int.fdiv (W (a0+a1)) (2 ^ (min (tN 1) 64)))
def cH (a0:bE)(a1:List Int)(a2:Int):Zt->Zt⊕(Int)
 | (v1,v2,v3) =>
  (bif (decide ((v3:Int) < (a1.length:Int))) then
   (.inl ((bV (bV (bV v1 (eZ (a0.getD (tN (a1.getD (tN v3) dF)) dF).1.1 a2)) (eZ (a0.getD (tN (a1.getD (tN v3) dF)) dF).1.2.1 a2)) (eZ (a0.getD (tN (a1.getD (tN v3) dF)) dF).1.2.2 a2)),(eY (eY (eY v2 (eZ (a0.getD (tN (a1.getD (tN v3) dF)) dF).1.1 a2)) (eZ (a0.getD (tN (a1.getD (tN v3) dF)) dF).1.2.1 a2)) (eZ (a0.getD (tN (a1.getD (tN v3) dF)) dF).1.2.2 a2)),(v3+1)))
  else
   (.inr (aLm v1 v2)))
def bC (a0:bE)(a1:List Int)(a2:Int):Int :=
 (aA (cH a0 a1 a2) (tN ((a1.length:Int) - 0)+1) (64,(-64),0))
def aLn (a0:bE)(a1:List Int):bE×Int->(bE×Int)⊕bE
 | (v2,v3) =>
  (bif (decide ((v3:Int) < (a1.length:Int))) then
   (.inl ((v2++[(a0.getD (tN (a1.getD (tN v3) dF)) dF)]),(v3+1)))
  else
   (.inr v2))
def cN (a0:bE)(a1:List Int):bE :=
 (aA (aLn a0 a1) (tN ((a1.length:Int) - 0)+1) (([]:bE),0))
def dC (a0:bE)(a1:List Int):Int×Int×Int×Zt->(Int×Int×Int×Zt)⊕(Zt⊕(Int))
 | (v14,v15,v16,v17,v18,v19) =>
  (bif (decide ((v19:Int) < (a1.length:Int))) then
   (.inl (v14,v15,v16,(bV v17 (iS (a0.getD (tN (a1.getD (tN v19) dF)) dF) v16)),(eY v18 (iS (a0.getD (tN (a1.getD (tN v19) dF)) dF) v16)),(v19+1)))
  else
   (bif (decide (((W (v18 - v17)):Int) > v15)) then
    (.inr (.inl (v16,(W (v18 - v17)),(v16+1))))
   else
    (.inr (.inl (v14,v15,(v16+1))))))
def fA (a0:bE)(a1:List Int):Zt->Zt⊕(Int)
 | (v11,v12,v13) =>
  (bif (decide ((v13:Int) < 3)) then
   (aA (dC a0 a1) (tN ((a1.length:Int) - 1)+1) (v11,v12,v13,(iS (a0.getD (tN (a1.getD (tN 0) dF)) dF) v13),(iS (a0.getD (tN (a1.getD (tN 0) dF)) dF) v13),1))
  else
   (.inr v11))
def aG (a0:bE)(a1:List Int):Int :=
 (aA (fA a0 a1) (tN (3 - 0)+1) (0,(-1),0))
def rC (a0:bE)(a1:Zt):Int :=
 (bif (((oE a0):Int) != 0) then
  (oE a0)
 else
  (bif (!(F86 a1 64)) then
   1
  else
   0))
def gM (a0:bE)(a1:Zt):Int×Int->(Int×Int)⊕(Int×Int)
 | (v1,v2) =>
  (bif (decide ((v2:Int) < (a0.length:Int))) then
   (.inl ((if((if((if(v1:Int) < (pG (pH (a0.getD (tN v2) dF).1.1 a1)) then(pG (pH (a0.getD (tN v2) dF).1.1 a1)) else v1):Int) < (pG (pH (a0.getD (tN v2) dF).1.2.1 a1)) then(pG (pH (a0.getD (tN v2) dF).1.2.1 a1)) else(if(v1:Int) < (pG (pH (a0.getD (tN v2) dF).1.1 a1)) then(pG (pH (a0.getD (tN v2) dF).1.1 a1)) else v1)):Int) < (pG (pH (a0.getD (tN v2) dF).1.2.2 a1)) then(pG (pH (a0.getD (tN v2) dF).1.2.2 a1)) else(if((if(v1:Int) < (pG (pH (a0.getD (tN v2) dF).1.1 a1)) then(pG (pH (a0.getD (tN v2) dF).1.1 a1)) else v1):Int) < (pG (pH (a0.getD (tN v2) dF).1.2.1 a1)) then(pG (pH (a0.getD (tN v2) dF).1.2.1 a1)) else(if(v1:Int) < (pG (pH (a0.getD (tN v2) dF).1.1 a1)) then(pG (pH (a0.getD (tN v2) dF).1.1 a1)) else v1))),(v2+1)))
  else
   (.inr (v1,0)))
def jT (a0:bE)(a1:Zt):Int×Int :=
 (bif (((rC a0 a1):Int) != 0) then
  (0,(rC a0 a1))
 else
  (aA (gM a0 a1) (tN ((a0.length:Int) - 0)+1) (0,0)))
def jU (a0:bE)(a1:List Int)(a2:Int):List Int×Int×Int->(List Int×Int×Int)⊕((List Int×Int)⊕(List Int))
 | (v5,v6,v7) =>
  (bif (decide ((v7:Int) > 0)) then
   (bif (decide (((iS (a0.getD (tN (v5.getD (tN v7) dF)) dF) a2):Int) < (iS (a0.getD (tN (v5.getD (tN (W (v7 - 1))) dF)) dF) a2))) then
    (.inl (((v5.set (tN v7) (v5.getD (tN (W (v7 - 1))) dF)).set (tN (W (v7 - 1))) (v5.getD (tN v7) dF)),v6,(W (v7 - 1))))
   else
    (bif (((iS (a0.getD (tN (v5.getD (tN v7) dF)) dF) a2):Int) == (iS (a0.getD (tN (v5.getD (tN (W (v7 - 1))) dF)) dF) a2)) then
     (bif (decide (((v5.getD (tN v7) dF):Int) < (v5.getD (tN (W (v7 - 1))) dF))) then
      (.inl (((v5.set (tN v7) (v5.getD (tN (W (v7 - 1))) dF)).set (tN (W (v7 - 1))) (v5.getD (tN v7) dF)),v6,(W (v7 - 1))))
     else
      (.inr (.inl (v5,(v6+1)))))
    else
     (.inr (.inl (v5,(v6+1))))))
  else
   (.inr (.inl (v5,(v6+1)))))
def lY (a0:bE)(a1:List Int)(a2:Int):List Int×Int->(List Int×Int)⊕(List Int)
 | (v3,v4) =>
  (bif (decide ((v4:Int) < (v3.length:Int))) then
   (aA (jU a0 a1 a2) (tN v4+1) (v3,v4,v4))
  else
   (.inr v3))
def bD (a0:bE)(a1:List Int)(a2:Int):List Int :=
 (aA (lY a0 a1 a2) (tN ((((([]:List Int)++a1).length:Nat):Int) - 1)+1) ((([]:List Int)++a1),1))
abbrev TR:=List Int×aY
abbrev bR:=bE
structure PGRW (l:bR) (t:TR) (ns:List Int) (leaf:Int):Prop where
 inr:InR l.length ns
 rng:1<=ns.length/\t.1.length+ns.length<=1048576
 nds:t.2.length+2*ns.length<=4194304
 lf:1<=leaf
def cOf (l:bR)(k:Int):SBC:=((l,0,[],[]),k)
theorem aGp (l:bR)(k:Int)(x:Int):iS (l.getD (tN x) dF) k=kk (cOf l k) x:=by
 unfold kk cOf iS gI eZ
 cases h0:(k == 0) with
 | true=>rfl
 | false =>
  cases h1:(k == 1) with
  | true=>rfl
  | false=>rfl
theorem aSp (l:bR)(k x y:Int):(decide (iS (l.getD (tN x) dF) k < iS (l.getD (tN y) dF) k) || ((iS (l.getD (tN x) dF) k == iS (l.getD (tN y) dF) k)&&decide (x < y)))=sP (cOf l k) x y:=by
 rw [aGp,aGp]
 cases h:sP (cOf l k) x y with
 | true=>rw [aAw] at h;simp;exact h
 | false=>rw [aI1] at h;simp;omega
section
open Go.Sort
variable {l : bR} {ns : List Int} {k : Int}
theorem aNq {n:Nat} (hn:n<=1048576)(hns:ns.length=n):∀(m:Nat) (d:Array Int) (j:Nat) (w:Int),d.size=n->j < n->j < m ->
 aA (jU l ns k) m (wp ns 0 d,w,(j:Int))=.inl (wp ns 0 (insInner (sP (cOf l k)) 0 j d),w+1)
 | 0,_,_,_,_,_,h=>absurd h (fO _)
 | m+1,d,0,w,hd,hj,hm=>by
  refine aC ?_
  simp only [jU]
  rw [cC (by omega),cond_false];rfl
 | m+1,d,j+1,w,hd,hj,hm=>by
  have hl':0+d.size<=ns.length:=by omega
  have e1:W (((j+1:Nat):Int) - 1)=((j:Nat):Int):=wN (by omega) (by omega)
  have g1:=xW hl' (i:=j+1) (by omega)
  have g0:=xW hl' (i:=j) (by omega)
  have gs:=aSg hl' (i:=j+1) (j:=j) (by omega) (by omega)
  rw [Nat.zero_add] at g1 g0
  rw [Nat.zero_add,Nat.zero_add] at gs
  rw [insInner,bG (show j+1 > 0 by omega),Bool.true_and]
  have e:jU l ns k (wp ns 0 d,w,((j+1:Nat):Int))=bif sP (cOf l k) d[j+1]! d[j]! then .inl (wp ns 0 (swp d (j+1) j),w,(j:Int)) else .inr (.inl (wp ns 0 d,w+1)):=by
   rw [←aSp]
   simp only [jU,e1,eX]
   rw [bG (show((j+1:Nat):Int) > 0 by omega),cond_true,gs,g1,g0]
   cases decide (iS (l.getD (tN d[j+1]!) dF) k < iS (l.getD (tN d[j]!) dF) k) with
   | true=>rfl
   | false =>
    cases (iS (l.getD (tN d[j+1]!) dF) k == iS (l.getD (tN d[j]!) dF) k) with
    | false=>rfl
    | true=>cases decide (d[j+1]! < d[j]!)<;>rfl
  cases q:sP (cOf l k) d[j+1]! d[j]! with
  | true =>
   rw [q,cond_true] at e
   rw [aB e]
   exact aNq hn hns m _ j w (by rw [Go.Sort.size_swp];exact hd) (by omega) (by omega)
  | false=>rw [q,cond_false] at e;exact aC e
theorem aNr {n:Nat} (hn:n<=1048576)(hns:ns.length=n):∀(m:Nat) (d:Array Int) (i:Nat),d.size=n->n - i < m ->
 aA (lY l ns k) m (wp ns 0 d,(i:Int))=wp ns 0 (insOuter (sP (cOf l k)) 0 n i d)
 | 0,_,_,_,h=>absurd h (fO _)
 | m+1,d,i,hd,hm=>by
  rw [insOuter]
  have hlen:(wp ns 0 d).length=n:=by rw [aSe (by omega),hns]
  by_cases h1:i < n
  ·rw [if_pos h1]
   have e:lY l ns k (wp ns 0 d,(i:Int))=aA (jU l ns k) (tN (i:Int)+1) (wp ns 0 d,(i:Int),(i:Int)):=by
    simp only [lY];rw [bG (by omega),cond_true]
   rw [aB (e.trans (aNq hn hns _ d i _ hd (by omega) (by omega)))]
   exact aNr hn hns m _ (i+1) (by rw [nN];exact hd) (by omega)
  ·rw [if_neg h1]
   refine aC ?_
   simp only [lY];rw [cC (by omega),cond_false]
def mM (l:bR)(k:Int)(ns:List Int):List Int:=ns.mergeSort (fun x y=>!sP (cOf l k) y x)
theorem jY (l:bR)(k:Int)(ns:List Int):(mM l k ns).length=ns.length:=(List.mergeSort_perm ns _).length_eq
theorem aNs {N:Nat} (h:InR N ns):InR N (mM l k ns):=fun x hx=>h x ((List.mergeSort_perm ns _).mem_iff.1 hx)
theorem aSq {n:Nat} (h:ns.length=n) {d:Array Int} (hd:d.size=n):wp ns 0 d=d.toList:=by unfold wp;rw [Nat.zero_add,hd,←h,List.drop_length];simp
theorem aV0 (c:SBC):sP c=sP (cOf c.1.1 c.2):=rfl
theorem aI5 {c:SBC} {d d':Array Int} (h1:PermIn 0 d.size d d')(h2:SortedIn (sP c) 0 d.size d'):d'.toList=mM c.1.1 c.2 d.toList:=by
 unfold mM
 rw [←aV0]
 exact sorted_unique_holds (lt:=sP c) (aAx c) (aVw c) d d' h1 h2
theorem aSr (h:ns.length<=1048576):bD l ns k=mM l k ns:=by
 unfold bD
 have hz:(ns.toArray).size=ns.length:=by simp
 have hw:wp ns 0 ns.toArray=ns:=by rw [aSq rfl hz]
 have h1:=insertionSort_holds (lt:=sP (cOf l k)) (aAx _) ns.toArray 0 ns.length (Nat.zero_le _) (by rw [hz];exact Nat.le_refl _)
 have h0:=aNr (l:=l) (k:=k) h rfl (tN ((((([]:List Int)++ns).length:Nat):Int) - 1)+1) ns.toArray 1 hz (by rw [List.nil_append];omega)
 have e:insOuter (sP (cOf l k)) 0 ns.length 1 ns.toArray=insertionSort (sP (cOf l k)) ns.toArray 0 ns.length:=rfl
 rw [hw,e,aSq (n:=ns.length) (d:=insertionSort (sP (cOf l k)) ns.toArray 0 ns.length) rfl (by rw [h1.1.1];exact hz),aI5 (c:=cOf l k) (by rw [hz];exact h1.1) (by rw [hz];exact h1.2)] at h0
 exact h0
theorem bAf {v:List Int} {o n:Nat} {c:SBC} (hw:o+n<=v.length/\v.length<=1048576)(h12:n<=12) :
 eV v o n c=v.take o++mM c.1.1 c.2 ((v.drop o).take n)++v.drop (o+n):=by
 have hz:=lH hw.1
 have h:=aSh (l:=v) (c:=((c.1.1,c.1.2.1,(v,c.1.2.2.2)),c.2)) (d:=sQ v o n) hw.1 (by omega) (a:=0) (b:=n) (Nat.le_refl _) (Nat.zero_le _) hz
 have hs:=insertionSort_holds (lt:=sP ((c.1.1,c.1.2.1,(v,c.1.2.2.2)),c.2)) (aAx _) (sQ v o n) 0 n (Nat.zero_le _) (by rw [hz];exact Nat.le_refl _)
 rw [aLi hw.1] at h
 rw [aSj h12,h]
 unfold wp
 rw [hs.1.1,hz,aI5 (c:=((c.1.1,c.1.2.1,(v,c.1.2.2.2)),c.2)) (d:=sQ v o n) (by rw [hz];exact hs.1) (by rw [hz];exact hs.2)]
 rfl
end
theorem aC2 {n:Nat} (h:n<=1048576):W (Int.tdiv (W (((n:Nat):Int)+1)) 2)=(((n+1) / 2:Nat):Int):=by
 rw [wN (x:=((n:Nat):Int)+1) (n:=n+1) (by omega) (by omega),Int.tdiv_eq_ediv_of_nonneg (by omega)];exact wN (by omega) (by omega)
end Go.Proofs.YtlckcjfbjnjfhaaGreat
namespace Go.Proofs.YtlckcjfbjnjfhaaGreat
open Go.Proofs Go.Aw Go.RowKit
set_option maxRecDepth 100000
structure GRR (t r:TR) (ns:List Int):Prop where
 ol:r.1.length=t.1.length+ns.length
 lo:t.2.length < r.2.length
 hi:r.2.length<=t.2.length+2*ns.length - 1
section
variable {l : bR} {t : TR} {ns : List Int} {leaf : Int} {x : Int × Int × Int × Int × Zt × Int}
theorem aC3 (hp:PGRW l t ns leaf)(k:Int):(bD l ns k).length=ns.length/\InR l.length (bD l ns k):=by
 rw [aSr (by have:=hp.rng;omega)]
 exact⟨jY _ _ _,aNs hp.inr⟩
theorem tE (hp:PGRW l t ns leaf)(k:Int)(h2:2<=ns.length):PGRW l (t.1,t.2++[x]) (Aw.part (bD l ns k) 0 (W (Int.tdiv (W ((((bD l ns k).length:Nat):Int)+1)) 2))) leaf:=by
 have hs:=aC3 hp k
 have h:=hp.rng;have hn:=hp.nds
 rw [aC2 (by omega),hs.1]
 have hpt:=part_len (l:=bD l ns k) (a:=0) (b:=(((ns.length+1) / 2:Nat):Int)) (by omega)
 refine⟨hs.2.part _ _,⟨by rw [hpt];omega,?_⟩,?_,hp.lf⟩
 ·rw [hpt];dsimp only;omega
 ·rw [hpt];simp only [List.length_append,List.length_cons,List.length_nil];omega
theorem aI6 {r:TR} (hp:PGRW l t ns leaf)(k:Int)(h2:2<=ns.length)(hr:GRR (t.1,t.2++[x]) r (Aw.part (bD l ns k) 0 (W (Int.tdiv (W ((((bD l ns k).length:Nat):Int)+1)) 2)))) :
 PGRW l (r.1,r.2) (Aw.part (bD l ns k) (W (Int.tdiv (W ((((bD l ns k).length:Nat):Int)+1)) 2)) (((bD l ns k).length:Nat):Int)) leaf:=by
 have hs:=aC3 hp k
 have h:=hp.rng;have hn:=hp.nds
 obtain⟨g1,g2,g3⟩:=hr
 rw [aC2 (by omega),hs.1] at g1 g3 ⊢
 have hpt1:=part_len (l:=bD l ns k) (a:=0) (b:=(((ns.length+1) / 2:Nat):Int)) (by omega)
 have hpt2:=part_len (l:=bD l ns k) (a:=(((ns.length+1) / 2:Nat):Int)) (b:=(ns.length:Int)) (by omega)
 rw [hpt1] at g1 g3
 simp only [List.length_append,List.length_cons,List.length_nil] at g1 g2 g3
 refine⟨hs.2.part _ _,⟨by rw [hpt2];omega,?_⟩,?_,hp.lf⟩
 ·rw [hpt2];dsimp only;omega
 ·rw [hpt2];dsimp only;omega
end
def tF (a0:bE)(a1:List Int×aY)(a2:List Int)(a3:Int):=(jT (cN a0 a2) ((bC a0 a2 0),(bC a0 a2 1),(bC a0 a2 2)))
def cB (rr:bE->(List Int×aY)->(List Int)->(Int)->List Int×aY)(a0:bE)(a1:List Int×aY)(a2:List Int)(a3:Int):=(rr a0 (a1.1,(a1.2++[((a1.1.length:Int),(W ((a1.1.length:Int)+(a2.length:Int))),(-1),(-1),((bC a0 a2 0),(bC a0 a2 1),(bC a0 a2 2)),(tF a0 a1 a2 a3).1)])) (Aw.part (bD a0 a2 (aG a0 a2)) 0 (W (Int.tdiv (W ((((bD a0 a2 (aG a0 a2)).length:Nat):Int)+1)) 2))) a3)
def aE (rr:bE->(List Int×aY)->(List Int)->(Int)->List Int×aY)(a0:bE)(a1:List Int×aY)(a2:List Int)(a3:Int):=(rr a0 ((cB (rr) a0 a1 a2 a3).1,(cB (rr) a0 a1 a2 a3).2) (Aw.part (bD a0 a2 (aG a0 a2)) (W (Int.tdiv (W ((((bD a0 a2 (aG a0 a2)).length:Nat):Int)+1)) 2)) (((bD a0 a2 (aG a0 a2)).length:Nat):Int)) a3)
def aD:Nat->bE->(List Int×aY)->(List Int)->(Int)->List Int×aY
 | 0,_,_,_,_=>dF
 | nr+1,a0,a1,a2,a3 =>
 (bif (decide (((a2.length:Int):Int)<=a3)) then
  ((a1.1++a2),(a1.2++[((a1.1.length:Int),(W ((a1.1.length:Int)+(a2.length:Int))),(-1),(-1),((bC a0 a2 0),(bC a0 a2 1),(bC a0 a2 2)),(tF a0 a1 a2 a3).1)]))
 else
  ((aE (aD nr) a0 a1 a2 a3).1,(((aE (aD nr) a0 a1 a2 a3).2.set (tN (a1.2.length:Int)) (((aE (aD nr) a0 a1 a2 a3).2.getD (tN (a1.2.length:Int)) dF).1,((aE (aD nr) a0 a1 a2 a3).2.getD (tN (a1.2.length:Int)) dF).2.1,(((a1.2.length+1):Nat):Int),((aE (aD nr) a0 a1 a2 a3).2.getD (tN (a1.2.length:Int)) dF).2.2.2.1,((aE (aD nr) a0 a1 a2 a3).2.getD (tN (a1.2.length:Int)) dF).2.2.2.2.1,((aE (aD nr) a0 a1 a2 a3).2.getD (tN (a1.2.length:Int)) dF).2.2.2.2.2)).set (tN (a1.2.length:Int)) ((((aE (aD nr) a0 a1 a2 a3).2.set (tN (a1.2.length:Int)) (((aE (aD nr) a0 a1 a2 a3).2.getD (tN (a1.2.length:Int)) dF).1,((aE (aD nr) a0 a1 a2 a3).2.getD (tN (a1.2.length:Int)) dF).2.1,(((a1.2.length+1):Nat):Int),((aE (aD nr) a0 a1 a2 a3).2.getD (tN (a1.2.length:Int)) dF).2.2.2.1,((aE (aD nr) a0 a1 a2 a3).2.getD (tN (a1.2.length:Int)) dF).2.2.2.2.1,((aE (aD nr) a0 a1 a2 a3).2.getD (tN (a1.2.length:Int)) dF).2.2.2.2.2)).getD (tN (a1.2.length:Int)) dF).1,(((aE (aD nr) a0 a1 a2 a3).2.set (tN (a1.2.length:Int)) (((aE (aD nr) a0 a1 a2 a3).2.getD (tN (a1.2.length:Int)) dF).1,((aE (aD nr) a0 a1 a2 a3).2.getD (tN (a1.2.length:Int)) dF).2.1,(((a1.2.length+1):Nat):Int),((aE (aD nr) a0 a1 a2 a3).2.getD (tN (a1.2.length:Int)) dF).2.2.2.1,((aE (aD nr) a0 a1 a2 a3).2.getD (tN (a1.2.length:Int)) dF).2.2.2.2.1,((aE (aD nr) a0 a1 a2 a3).2.getD (tN (a1.2.length:Int)) dF).2.2.2.2.2)).getD (tN (a1.2.length:Int)) dF).2.1,(((aE (aD nr) a0 a1 a2 a3).2.set (tN (a1.2.length:Int)) (((aE (aD nr) a0 a1 a2 a3).2.getD (tN (a1.2.length:Int)) dF).1,((aE (aD nr) a0 a1 a2 a3).2.getD (tN (a1.2.length:Int)) dF).2.1,(((a1.2.length+1):Nat):Int),((aE (aD nr) a0 a1 a2 a3).2.getD (tN (a1.2.length:Int)) dF).2.2.2.1,((aE (aD nr) a0 a1 a2 a3).2.getD (tN (a1.2.length:Int)) dF).2.2.2.2.1,((aE (aD nr) a0 a1 a2 a3).2.getD (tN (a1.2.length:Int)) dF).2.2.2.2.2)).getD (tN (a1.2.length:Int)) dF).2.2.1,(((cB (aD nr) a0 a1 a2 a3).2.length:Nat):Int),(((aE (aD nr) a0 a1 a2 a3).2.set (tN (a1.2.length:Int)) (((aE (aD nr) a0 a1 a2 a3).2.getD (tN (a1.2.length:Int)) dF).1,((aE (aD nr) a0 a1 a2 a3).2.getD (tN (a1.2.length:Int)) dF).2.1,(((a1.2.length+1):Nat):Int),((aE (aD nr) a0 a1 a2 a3).2.getD (tN (a1.2.length:Int)) dF).2.2.2.1,((aE (aD nr) a0 a1 a2 a3).2.getD (tN (a1.2.length:Int)) dF).2.2.2.2.1,((aE (aD nr) a0 a1 a2 a3).2.getD (tN (a1.2.length:Int)) dF).2.2.2.2.2)).getD (tN (a1.2.length:Int)) dF).2.2.2.2.1,(((aE (aD nr) a0 a1 a2 a3).2.set (tN (a1.2.length:Int)) (((aE (aD nr) a0 a1 a2 a3).2.getD (tN (a1.2.length:Int)) dF).1,((aE (aD nr) a0 a1 a2 a3).2.getD (tN (a1.2.length:Int)) dF).2.1,(((a1.2.length+1):Nat):Int),((aE (aD nr) a0 a1 a2 a3).2.getD (tN (a1.2.length:Int)) dF).2.2.2.1,((aE (aD nr) a0 a1 a2 a3).2.getD (tN (a1.2.length:Int)) dF).2.2.2.2.1,((aE (aD nr) a0 a1 a2 a3).2.getD (tN (a1.2.length:Int)) dF).2.2.2.2.2)).getD (tN (a1.2.length:Int)) dF).2.2.2.2.2))))
def gN (a0:bE)(a1:List Int×aY)(a2:List Int)(a3:Int):List Int×aY:=aD (a2.length+1) a0 a1 a2 a3
theorem rY:∀(nr:Nat) (l:bR) (t:TR) (ns:List Int) (leaf:Int),PGRW l t ns leaf->ns.length < nr->GRR t (aD nr l t ns leaf) ns
 | 0,_,_,_,_,_,h=>absurd h (fO _)
 | nr+1,l,t,ns,leaf,hp,hn=>by
  have h:=hp.rng;have hl:=hp.lf
  simp only [aD]
  by_cases h0:(ns.length:Int)<=leaf
  ·rw [bG h0,cond_true]
   exact⟨by simp,by simp,by simp;omega⟩
  ·rw [cC h0,cond_false]
   have h2:2<=ns.length:=by omega
   have hs:=aC3 hp (aG l ns)
   have hf:=aC2 (n:=ns.length) (by omega)
   have hpt1:=part_len (l:=bD l ns (aG l ns)) (a:=0) (b:=(((ns.length+1) / 2:Nat):Int)) (by omega)
   have hpt2:=part_len (l:=bD l ns (aG l ns)) (a:=(((ns.length+1) / 2:Nat):Int)) (b:=(ns.length:Int)) (by omega)
   have h5:GRR _ (cB (aD nr) l t ns leaf) _:=rY nr _ _ _ _ (tE hp _ h2) (by rw [hs.1,hf,hpt1];omega)
   have h6:GRR _ (aE (aD nr) l t ns leaf) _:=rY nr _ _ _ _ (aI6 hp _ h2 h5) (by rw [hs.1,hf,hpt2];omega)
   obtain⟨g1,g2,g3⟩:=h5
   obtain⟨f1,f2,f3⟩:=h6
   rw [hs.1,hf,hpt1] at g1 g3
   rw [hs.1,hf,hpt2] at f1 f3
   dsimp only at g1 g2 g3 f1 f2 f3
   simp only [List.length_append,List.length_cons,List.length_nil] at g1 g2 g3
   exact⟨by dsimp only;omega,by simp only [List.length_set];omega,by simp only [List.length_set];omega⟩
end Go.Proofs.YtlckcjfbjnjfhaaGreat
namespace Go.Proofs.YtlckcjfbjnjfhaaGreat
open Go.Proofs Go.Aw Go.RowKit
set_option maxRecDepth 100000
theorem rE:∀(n1 n2:Nat) (l:bR) (t:TR) (ns:List Int) (leaf:Int),PGRW l t ns leaf->ns.length < n1->ns.length < n2->aD n1 l t ns leaf=aD n2 l t ns leaf
 | 0,_,_,_,_,_,_,h,_=>absurd h (fO _)
 | _+1,0,_,_,_,_,_,_,h=>absurd h (fO _)
 | n1+1,n2+1,l,t,ns,leaf,hp,h1,h2=>by
  have h:=hp.rng;have hl:=hp.lf
  simp only [aD]
  by_cases h0:(ns.length:Int)<=leaf
  ·rw [bG h0];rfl
  ·rw [cC h0,cond_false,cond_false]
   have g2:2<=ns.length:=by omega
   have hs:=aC3 hp (aG l ns)
   have hf:=aC2 (n:=ns.length) (by omega)
   have hpt1:=part_len (l:=bD l ns (aG l ns)) (a:=0) (b:=(((ns.length+1) / 2:Nat):Int)) (by omega)
   have hpt2:=part_len (l:=bD l ns (aG l ns)) (a:=(((ns.length+1) / 2:Nat):Int)) (b:=(ns.length:Int)) (by omega)
   have h5:GRR _ (cB (aD n1) l t ns leaf) _:=rY n1 _ _ _ _ (tE hp _ g2) (by rw [hs.1,hf,hpt1];omega)
   have e2:cB (aD n1) l t ns leaf=cB (aD n2) l t ns leaf:=rE n1 n2 _ _ _ _ (tE hp _ g2) (by rw [hs.1,hf,hpt1];omega) (by rw [hs.1,hf,hpt1];omega)
   have e3:aE (aD n1) l t ns leaf=aE (aD n2) l t ns leaf:=by
    have:=rE n1 n2 _ _ _ _ (aI6 hp _ g2 h5) (by rw [hs.1,hf,hpt2];omega) (by rw [hs.1,hf,hpt2];omega)
    unfold aE
    rw [←e2]
    exact this
   rw [e3,e2]
def tG (a0:bE)(a1:List Int×aY)(a2:List Int)(a3:Int):=(jT (cN a0 a2) ((bC a0 a2 0),(bC a0 a2 1),(bC a0 a2 2)))
def jZ (rr:bE->(List Int×aY)->(List Int)->(Int)->List Int×aY)(a0:bE)(a1:List Int×aY)(a2:List Int)(a3:Int):=(rr a0 (([]:List Int),(a1.2++[(0,(W (0+(a2.length:Int))),(-1),(-1),((bC a0 a2 0),(bC a0 a2 1),(bC a0 a2 2)),(tG a0 a1 a2 a3).1)])) (Aw.part (bD a0 a2 (aG a0 a2)) 0 (W (Int.tdiv (W ((((bD a0 a2 (aG a0 a2)).length:Nat):Int)+1)) 2))) a3)
def aK (rr:bE->(List Int×aY)->(List Int)->(Int)->List Int×aY)(a0:bE)(a1:List Int×aY)(a2:List Int)(a3:Int):=(gN a0 ((jZ (rr) a0 a1 a2 a3).1,(jZ (rr) a0 a1 a2 a3).2) (Aw.part (bD a0 a2 (aG a0 a2)) (W (Int.tdiv (W ((((bD a0 a2 (aG a0 a2)).length:Nat):Int)+1)) 2)) (((bD a0 a2 (aG a0 a2)).length:Nat):Int)) a3)
def aP:Nat->bE->(List Int×aY)->(List Int)->(Int)->List Int×aY
 | 0,_,_,_,_=>dF
 | nr+1,a0,a1,a2,a3 =>
 (bif (decide (((a2.length:Int):Int)<=a3)) then
  (a2,(a1.2++[(0,(W (0+(a2.length:Int))),(-1),(-1),((bC a0 a2 0),(bC a0 a2 1),(bC a0 a2 2)),(tG a0 a1 a2 a3).1)]))
 else
  ((aK (aP nr) a0 a1 a2 a3).1,(((aK (aP nr) a0 a1 a2 a3).2.set (tN (a1.2.length:Int)) (((aK (aP nr) a0 a1 a2 a3).2.getD (tN (a1.2.length:Int)) dF).1,((aK (aP nr) a0 a1 a2 a3).2.getD (tN (a1.2.length:Int)) dF).2.1,(((a1.2.length+1):Nat):Int),((aK (aP nr) a0 a1 a2 a3).2.getD (tN (a1.2.length:Int)) dF).2.2.2.1,((aK (aP nr) a0 a1 a2 a3).2.getD (tN (a1.2.length:Int)) dF).2.2.2.2.1,((aK (aP nr) a0 a1 a2 a3).2.getD (tN (a1.2.length:Int)) dF).2.2.2.2.2)).set (tN (a1.2.length:Int)) ((((aK (aP nr) a0 a1 a2 a3).2.set (tN (a1.2.length:Int)) (((aK (aP nr) a0 a1 a2 a3).2.getD (tN (a1.2.length:Int)) dF).1,((aK (aP nr) a0 a1 a2 a3).2.getD (tN (a1.2.length:Int)) dF).2.1,(((a1.2.length+1):Nat):Int),((aK (aP nr) a0 a1 a2 a3).2.getD (tN (a1.2.length:Int)) dF).2.2.2.1,((aK (aP nr) a0 a1 a2 a3).2.getD (tN (a1.2.length:Int)) dF).2.2.2.2.1,((aK (aP nr) a0 a1 a2 a3).2.getD (tN (a1.2.length:Int)) dF).2.2.2.2.2)).getD (tN (a1.2.length:Int)) dF).1,(((aK (aP nr) a0 a1 a2 a3).2.set (tN (a1.2.length:Int)) (((aK (aP nr) a0 a1 a2 a3).2.getD (tN (a1.2.length:Int)) dF).1,((aK (aP nr) a0 a1 a2 a3).2.getD (tN (a1.2.length:Int)) dF).2.1,(((a1.2.length+1):Nat):Int),((aK (aP nr) a0 a1 a2 a3).2.getD (tN (a1.2.length:Int)) dF).2.2.2.1,((aK (aP nr) a0 a1 a2 a3).2.getD (tN (a1.2.length:Int)) dF).2.2.2.2.1,((aK (aP nr) a0 a1 a2 a3).2.getD (tN (a1.2.length:Int)) dF).2.2.2.2.2)).getD (tN (a1.2.length:Int)) dF).2.1,(((aK (aP nr) a0 a1 a2 a3).2.set (tN (a1.2.length:Int)) (((aK (aP nr) a0 a1 a2 a3).2.getD (tN (a1.2.length:Int)) dF).1,((aK (aP nr) a0 a1 a2 a3).2.getD (tN (a1.2.length:Int)) dF).2.1,(((a1.2.length+1):Nat):Int),((aK (aP nr) a0 a1 a2 a3).2.getD (tN (a1.2.length:Int)) dF).2.2.2.1,((aK (aP nr) a0 a1 a2 a3).2.getD (tN (a1.2.length:Int)) dF).2.2.2.2.1,((aK (aP nr) a0 a1 a2 a3).2.getD (tN (a1.2.length:Int)) dF).2.2.2.2.2)).getD (tN (a1.2.length:Int)) dF).2.2.1,(((jZ (aP nr) a0 a1 a2 a3).2.length:Nat):Int),(((aK (aP nr) a0 a1 a2 a3).2.set (tN (a1.2.length:Int)) (((aK (aP nr) a0 a1 a2 a3).2.getD (tN (a1.2.length:Int)) dF).1,((aK (aP nr) a0 a1 a2 a3).2.getD (tN (a1.2.length:Int)) dF).2.1,(((a1.2.length+1):Nat):Int),((aK (aP nr) a0 a1 a2 a3).2.getD (tN (a1.2.length:Int)) dF).2.2.2.1,((aK (aP nr) a0 a1 a2 a3).2.getD (tN (a1.2.length:Int)) dF).2.2.2.2.1,((aK (aP nr) a0 a1 a2 a3).2.getD (tN (a1.2.length:Int)) dF).2.2.2.2.2)).getD (tN (a1.2.length:Int)) dF).2.2.2.2.1,(((aK (aP nr) a0 a1 a2 a3).2.set (tN (a1.2.length:Int)) (((aK (aP nr) a0 a1 a2 a3).2.getD (tN (a1.2.length:Int)) dF).1,((aK (aP nr) a0 a1 a2 a3).2.getD (tN (a1.2.length:Int)) dF).2.1,(((a1.2.length+1):Nat):Int),((aK (aP nr) a0 a1 a2 a3).2.getD (tN (a1.2.length:Int)) dF).2.2.2.1,((aK (aP nr) a0 a1 a2 a3).2.getD (tN (a1.2.length:Int)) dF).2.2.2.2.1,((aK (aP nr) a0 a1 a2 a3).2.getD (tN (a1.2.length:Int)) dF).2.2.2.2.2)).getD (tN (a1.2.length:Int)) dF).2.2.2.2.2))))
def zU (a0:bE)(a1:List Int×aY)(a2:List Int)(a3:Int):List Int×aY:=aP (a2.length+1) a0 a1 a2 a3
theorem aX2:∀(nr:Nat) (l:bR) (t:TR) (ns:List Int) (leaf:Int),PGRW l ([],t.2) ns leaf->ns.length < nr->aP nr l t ns leaf=aD nr l ([],t.2) ns leaf
 | 0,_,_,_,_,_,h=>absurd h (fO _)
 | nr+1,l,t,ns,leaf,hp,hn=>by
  have h:=hp.rng;have hl:=hp.lf
  simp only [aP,aD]
  by_cases h0:(ns.length:Int)<=leaf
  ·rw [bG h0,cond_true,cond_true]
   rfl
  ·rw [cC h0,cond_false,cond_false]
   have g2:2<=ns.length:=by omega
   have hs:=aC3 hp (aG l ns)
   have hf:=aC2 (n:=ns.length) (by omega)
   have hpt1:=part_len (l:=bD l ns (aG l ns)) (a:=0) (b:=(((ns.length+1) / 2:Nat):Int)) (by omega)
   have hpt2:=part_len (l:=bD l ns (aG l ns)) (a:=(((ns.length+1) / 2:Nat):Int)) (b:=(ns.length:Int)) (by omega)
   have e2:jZ (aP nr) l t ns leaf=cB (aD nr) l ([],t.2) ns leaf:=aX2 nr _ ([],_) _ _ (tE hp _ g2) (by rw [hs.1,hf,hpt1];omega)
   have h5:GRR _ (cB (aD nr) l ([],t.2) ns leaf) _:=rY nr _ _ _ _ (tE hp _ g2) (by rw [hs.1,hf,hpt1];omega)
   have e3:aK (aP nr) l t ns leaf=aE (aD nr) l ([],t.2) ns leaf:=by
    unfold aK aE gN
    rw [e2]
    exact rE _ _ _ _ _ _ (aI6 hp _ g2 h5) (lss _) (by rw [hs.1,hf,hpt2];omega)
   rw [e3,e2]
def tH (a0:bE)(a1:List Int×aY)(a2:List Int)(a3:Int):=(jT (cN a0 a2) ((bC a0 a2 0),(bC a0 a2 1),(bC a0 a2 2)))
def iA (a0:bE)(a1:List Int×aY)(a2:List Int)(a3:Int):=(zU a0 (([]:List Int),([(0,(W (0+(a2.length:Int))),(-1),(-1),((bC a0 a2 0),(bC a0 a2 1),(bC a0 a2 2)),(tH a0 a1 a2 a3).1)]:aY)) (Aw.part (bD a0 a2 (aG a0 a2)) 0 (W (Int.tdiv (W ((((bD a0 a2 (aG a0 a2)).length:Nat):Int)+1)) 2))) a3)
def aL (a0:bE)(a1:List Int×aY)(a2:List Int)(a3:Int):=(gN a0 ((iA a0 a1 a2 a3).1,(iA a0 a1 a2 a3).2) (Aw.part (bD a0 a2 (aG a0 a2)) (W (Int.tdiv (W ((((bD a0 a2 (aG a0 a2)).length:Nat):Int)+1)) 2)) (((bD a0 a2 (aG a0 a2)).length:Nat):Int)) a3)
def zV:Nat->bE->(List Int×aY)->(List Int)->(Int)->List Int×aY
 | 0,_,_,_,_=>dF
 | nr+1,a0,a1,a2,a3 =>
 (bif (decide (((a2.length:Int):Int)<=a3)) then
  (a2,([(0,(W (0+(a2.length:Int))),(-1),(-1),((bC a0 a2 0),(bC a0 a2 1),(bC a0 a2 2)),(tH a0 a1 a2 a3).1)]:aY))
 else
  ((aL a0 a1 a2 a3).1,(((aL a0 a1 a2 a3).2.set (tN 0) (((aL a0 a1 a2 a3).2.getD (tN 0) dF).1,((aL a0 a1 a2 a3).2.getD (tN 0) dF).2.1,1,((aL a0 a1 a2 a3).2.getD (tN 0) dF).2.2.2.1,((aL a0 a1 a2 a3).2.getD (tN 0) dF).2.2.2.2.1,((aL a0 a1 a2 a3).2.getD (tN 0) dF).2.2.2.2.2)).set (tN 0) ((((aL a0 a1 a2 a3).2.set (tN 0) (((aL a0 a1 a2 a3).2.getD (tN 0) dF).1,((aL a0 a1 a2 a3).2.getD (tN 0) dF).2.1,1,((aL a0 a1 a2 a3).2.getD (tN 0) dF).2.2.2.1,((aL a0 a1 a2 a3).2.getD (tN 0) dF).2.2.2.2.1,((aL a0 a1 a2 a3).2.getD (tN 0) dF).2.2.2.2.2)).getD (tN 0) dF).1,(((aL a0 a1 a2 a3).2.set (tN 0) (((aL a0 a1 a2 a3).2.getD (tN 0) dF).1,((aL a0 a1 a2 a3).2.getD (tN 0) dF).2.1,1,((aL a0 a1 a2 a3).2.getD (tN 0) dF).2.2.2.1,((aL a0 a1 a2 a3).2.getD (tN 0) dF).2.2.2.2.1,((aL a0 a1 a2 a3).2.getD (tN 0) dF).2.2.2.2.2)).getD (tN 0) dF).2.1,(((aL a0 a1 a2 a3).2.set (tN 0) (((aL a0 a1 a2 a3).2.getD (tN 0) dF).1,((aL a0 a1 a2 a3).2.getD (tN 0) dF).2.1,1,((aL a0 a1 a2 a3).2.getD (tN 0) dF).2.2.2.1,((aL a0 a1 a2 a3).2.getD (tN 0) dF).2.2.2.2.1,((aL a0 a1 a2 a3).2.getD (tN 0) dF).2.2.2.2.2)).getD (tN 0) dF).2.2.1,(((iA a0 a1 a2 a3).2.length:Nat):Int),(((aL a0 a1 a2 a3).2.set (tN 0) (((aL a0 a1 a2 a3).2.getD (tN 0) dF).1,((aL a0 a1 a2 a3).2.getD (tN 0) dF).2.1,1,((aL a0 a1 a2 a3).2.getD (tN 0) dF).2.2.2.1,((aL a0 a1 a2 a3).2.getD (tN 0) dF).2.2.2.2.1,((aL a0 a1 a2 a3).2.getD (tN 0) dF).2.2.2.2.2)).getD (tN 0) dF).2.2.2.2.1,(((aL a0 a1 a2 a3).2.set (tN 0) (((aL a0 a1 a2 a3).2.getD (tN 0) dF).1,((aL a0 a1 a2 a3).2.getD (tN 0) dF).2.1,1,((aL a0 a1 a2 a3).2.getD (tN 0) dF).2.2.2.1,((aL a0 a1 a2 a3).2.getD (tN 0) dF).2.2.2.2.1,((aL a0 a1 a2 a3).2.getD (tN 0) dF).2.2.2.2.2)).getD (tN 0) dF).2.2.2.2.2))))
def mY (a0:bE)(a1:List Int×aY)(a2:List Int)(a3:Int):List Int×aY:=zV (a2.length+1) a0 a1 a2 a3
def vU (a0:bE)(a1:Int):List Int×Int->(List Int×Int)⊕(List Int×aY)
 | (v2,v3) =>
  (bif (decide ((v3:Int) < (a0.length:Int))) then
   (.inl ((v2++[v3]),(v3+1)))
  else
   (bif (((a0.length:Int):Int) == 0) then
    (.inr (([]:List Int),([]:aY)))
   else
    (.inr ((mY a0 (([]:List Int),([]:aY)) v2 a1).1,(mY a0 (([]:List Int),([]:aY)) v2 a1).2))))
def vV (a0:bE)(a1:Int):List Int×aY :=
 (aA (vU a0 a1) (tN ((a0.length:Int) - 0)+1) (([]:List Int),0))
def aI7 (a0:bE)(a1:Int):(List Int×aY)×Int :=
 (bif (((oE a0):Int) != 0) then
  ((([]:List Int),([]:aY)),(oE a0))
 else
  (bif (decide ((a1:Int) < 1)) then
   ((([]:List Int),([]:aY)),1)
  else
   (bif (decide ((a1:Int) > 16)) then
    ((([]:List Int),([]:aY)),1)
   else
    (((vV a0 a1).1,(vV a0 a1).2),0))))
def rZ (a0:List Int)(a1:List Int):Int->(Int)⊕(Bool)
 | v1 =>
  (bif (decide ((v1:Int) < (a0.length:Int))) then
   (bif (((a0.getD (tN v1) dF):Int) != (a1.getD (tN v1) dF)) then
    (.inr false)
   else
    (.inl (v1+1)))
  else
   (.inr true))
def mZ (a0:List Int)(a1:List Int):Bool :=
 (bif (((a0.length:Int):Int) != (a1.length:Int)) then
  false
 else
  (aA (rZ a0 a1) (tN ((a0.length:Int) - 0)+1) 0))
def aNt (a0:List Int×aY)(a1:List Int×aY):Int->(Int)⊕(Bool)
 | v1 =>
  (bif (decide ((v1:Int) < (a0.2.length:Int))) then
   (bif (!((((a0.2.getD (tN v1) dF).1:Int) == (a1.2.getD (tN v1) dF).1)&&((((a0.2.getD (tN v1) dF).2.1:Int) == (a1.2.getD (tN v1) dF).2.1)&&((((a0.2.getD (tN v1) dF).2.2.1:Int) == (a1.2.getD (tN v1) dF).2.2.1)&&((((a0.2.getD (tN v1) dF).2.2.2.1:Int) == (a1.2.getD (tN v1) dF).2.2.2.1)&&(((((a0.2.getD (tN v1) dF).2.2.2.2.1.1:Int) == (a1.2.getD (tN v1) dF).2.2.2.2.1.1)&&((((a0.2.getD (tN v1) dF).2.2.2.2.1.2.1:Int) == (a1.2.getD (tN v1) dF).2.2.2.2.1.2.1)&&((((a0.2.getD (tN v1) dF).2.2.2.2.1.2.2:Int) == (a1.2.getD (tN v1) dF).2.2.2.2.1.2.2)&&true)))&&((((a0.2.getD (tN v1) dF).2.2.2.2.2:Int) == (a1.2.getD (tN v1) dF).2.2.2.2.2)&&true))))))) then
    (.inr false)
   else
    (.inl (v1+1)))
  else
   (.inr true))
def F20 (a0:List Int×aY)(a1:List Int×aY):Bool :=
 (bif (!(mZ a0.1 a1.1)) then
  false
 else
  (bif (((a0.2.length:Int):Int) != (a1.2.length:Int)) then
   false
  else
   (aA (aNt a0 a1) (tN ((a0.2.length:Int) - 0)+1) 0)))
def sR (l:bR):Prop:=l.length<=96/\∀i,i < l.length->vp (l.getD i dF).1=0/\(-100<=(l.getD i dF).2/\(l.getD i dF).2<=100)
theorem aI8 {l:bR}:∀(d i n:Nat),d=l.length - i->i<=l.length->d < n->aA (eC l) n (i:Int)=0->∀j,i<=j->j < l.length->vp (l.getD j dF).1=0/\(-100<=(l.getD j dF).2/\(l.getD j dF).2<=100)
 | 0,i,n,hd,hi,hn,_,j,h1,h2=>absurd h2 (by omega)
 | d+1,i,n,hd,hi,hn,h,j,h1,h2=>by
  obtain⟨n,rfl⟩:∃m,n=m+1:=⟨n - 1,by omega⟩
  have e:eC l (i:Int)=bif (((uG (l.getD i dF).1):Int) != 0) then .inr (uG (l.getD i dF).1) else bif (!(F59 (l.getD i dF).2 (-100) 100)) then .inr 1 else .inl ((i+1:Nat):Int):=by
   simp only [eC,eX]
   rw [bG (show((i:Nat):Int) < (l.length:Int) by omega),cond_true];rfl
  cases hv:(((uG (l.getD i dF).1):Int) != 0) with
  | true =>
   rw [hv,cond_true] at e
   rw [aC e] at h
   rw [h] at hv;exact absurd hv (by decide)
  | false =>
   rw [hv,cond_false] at e
   cases hw:(!(F59 (l.getD i dF).2 (-100) 100)) with
   | true =>
    rw [hw,cond_true] at e
    rw [aC e] at h
    exact absurd h (by decide)
   | false =>
    rw [hw,cond_false] at e
    rw [aB e] at h
    by_cases hj:j=i
    ·subst hj
     refine⟨?_,?_⟩
     ·rw [←aK0];exact bne_eq_false_iff_eq.1 hv
     ·simp only [F59,Bool.not_eq_false'] at hw
      by_cases h3:(l.getD j dF).2≥-100
      ·rw [bG h3,cond_true] at hw;exact⟨h3,dL hw⟩
      ·rw [cC h3,cond_false] at hw;cases hw
    ·exact aI8 d (i+1) n (by omega) (by omega) (by omega) h j (by omega) h2
theorem aC4 {l:bR} (h:eU l=0):sR l:=by
 refine⟨jX h,fun i hi=>?_⟩
 have hl:=jX h
 unfold eU at h
 rw [cC (show ¬(l.length:Int) > 96 by omega),cond_false] at h
 exact aI8 l.length 0 _ (by omega) (by omega) (by omega) h i (Nat.zero_le _) hi
theorem aLo {l:bR} (h:sR l) {i:Nat} (hi:i < l.length):bdP 64 (l.getD i dF).1:=(mW (h.2 i hi).1).1
section
variable {l : bR} {ns : List Int}
theorem aI9 {i:Nat} (hi:i < ns.length):(fR l ns).getD i dF=l.getD (tN (ns.getD i dF)) dF:=by
 rw [aLj];simp [cV,hi]
theorem aJa (hl:ns.length<=1048576):∀(n i:Nat) (a1 a2 a3 b1 b2 b3:Int),ns.length - i < n ->
 aA (fL (fR l ns)) n ((i:Int),a1,a2,a3,b1,b2,b3) =
  (aA (cH l ns 0) n (a1,b1,(i:Int)),aA (cH l ns 1) n (a2,b2,(i:Int)),aA (cH l ns 2) n (a3,b3,(i:Int)))
 | 0,_,_,_,_,_,_,_,h=>absurd h (fO _)
 | n+1,i,a1,a2,a3,b1,b2,b3,h=>by
  have hm:(fR l ns).length=ns.length:=aGm l ns
  by_cases h1:i < ns.length
  ·have hg:=aI9 (l:=l) h1
   have e:fL (fR l ns) ((i:Int),a1,a2,a3,b1,b2,b3)=.inl (((i+1:Nat):Int),bV (bV (bV a1 (l.getD (tN (ns.getD i dF)) dF).1.1.1) (l.getD (tN (ns.getD i dF)) dF).1.2.1.1) (l.getD (tN (ns.getD i dF)) dF).1.2.2.1,bV (bV (bV a2 (l.getD (tN (ns.getD i dF)) dF).1.1.2.1) (l.getD (tN (ns.getD i dF)) dF).1.2.1.2.1) (l.getD (tN (ns.getD i dF)) dF).1.2.2.2.1,bV (bV (bV a3 (l.getD (tN (ns.getD i dF)) dF).1.1.2.2) (l.getD (tN (ns.getD i dF)) dF).1.2.1.2.2) (l.getD (tN (ns.getD i dF)) dF).1.2.2.2.2,
    eY (eY (eY b1 (l.getD (tN (ns.getD i dF)) dF).1.1.1) (l.getD (tN (ns.getD i dF)) dF).1.2.1.1) (l.getD (tN (ns.getD i dF)) dF).1.2.2.1,eY (eY (eY b2 (l.getD (tN (ns.getD i dF)) dF).1.1.2.1) (l.getD (tN (ns.getD i dF)) dF).1.2.1.2.1) (l.getD (tN (ns.getD i dF)) dF).1.2.2.2.1,eY (eY (eY b3 (l.getD (tN (ns.getD i dF)) dF).1.1.2.2) (l.getD (tN (ns.getD i dF)) dF).1.2.1.2.2) (l.getD (tN (ns.getD i dF)) dF).1.2.2.2.2):=by
    simp only [fL,eX,hg,hm]
    rw [bG (by omega),cond_true];rfl
   have r:∀k a b,cH l ns k (a,b,(i:Int))=.inl (bV (bV (bV a (eZ (l.getD (tN (ns.getD i dF)) dF).1.1 k)) (eZ (l.getD (tN (ns.getD i dF)) dF).1.2.1 k)) (eZ (l.getD (tN (ns.getD i dF)) dF).1.2.2 k),
    eY (eY (eY b (eZ (l.getD (tN (ns.getD i dF)) dF).1.1 k)) (eZ (l.getD (tN (ns.getD i dF)) dF).1.2.1 k)) (eZ (l.getD (tN (ns.getD i dF)) dF).1.2.2 k),((i+1:Nat):Int)):=fun k a b=>by
    simp only [cH,eX]
    rw [bG (by omega),cond_true];rfl
   rw [aB e,aB (r 0 a1 b1),aB (r 1 a2 b2),aB (r 2 a3 b3)]
   exact aJa hl n (i+1) _ _ _ _ _ _ (by omega)
  ·have e:fL (fR l ns) ((i:Int),a1,a2,a3,b1,b2,b3)=.inr (aLm a1 b1,aLm a2 b2,aLm a3 b3):=by
    simp only [fL,hm]
    rw [cC (by omega),cond_false];rfl
   have r:∀k a b,cH l ns k (a,b,(i:Int))=.inr (aLm a b):=fun k a b=>by
    simp only [cH]
    rw [cC (by omega),cond_false]
   rw [aC e,aC (r 0 a1 b1),aC (r 1 a2 b2),aC (r 2 a3 b3)]
theorem bAg (hv:sR l)(hi:InR l.length ns)(h1:1<=ns.length)(hl:ns.length<=1048576):bS (fR l ns)=(bC l ns 0,bC l ns 1,bC l ns 2):=by
 have hm:(fR l ns).length=ns.length:=aGm l ns
 have hg:=aI9 (l:=l) (ns:=ns) (i:=0) (by omega)
 have h0:=hi.at (i:=0) (by omega)
 have hb:=aLo hv (i:=tN (ns.getD 0 dF)) (by omega)
 unfold bS bC
 rw [hm,show(tN 0)=0 from rfl,hg]
 obtain⟨n,hn⟩:∃n,tN ((ns.length:Int) - 0)+1=n+1:=⟨_,rfl⟩
 rw [hn]
 have hnn:ns.length<=n:=by omega
 generalize hp:l.getD (tN (ns.getD 0 dF)) dF=p at hb hg ⊢
 -- the first round
 have e:fL (fR l ns) (0,p.1.1.1,p.1.1.2.1,p.1.1.2.2,p.1.1.1,p.1.1.2.1,p.1.1.2.2)=.inl (((1:Nat):Int),bV (bV (bV p.1.1.1 p.1.1.1) p.1.2.1.1) p.1.2.2.1,bV (bV (bV p.1.1.2.1 p.1.1.2.1) p.1.2.1.2.1) p.1.2.2.2.1,bV (bV (bV p.1.1.2.2 p.1.1.2.2) p.1.2.1.2.2) p.1.2.2.2.2,
  eY (eY (eY p.1.1.1 p.1.1.1) p.1.2.1.1) p.1.2.2.1,eY (eY (eY p.1.1.2.1 p.1.1.2.1) p.1.2.1.2.1) p.1.2.2.2.1,eY (eY (eY p.1.1.2.2 p.1.1.2.2) p.1.2.1.2.2) p.1.2.2.2.2):=by
  simp only [fL,show(tN 0)=0 from rfl,hg,hm]
  rw [bG (by omega),cond_true];rfl
 have r:∀k,cH l ns k (64,(-64),0)=.inl (bV (bV (bV 64 (eZ p.1.1 k)) (eZ p.1.2.1 k)) (eZ p.1.2.2 k),
  eY (eY (eY (-64) (eZ p.1.1 k)) (eZ p.1.2.1 k)) (eZ p.1.2.2 k),((1:Nat):Int)):=fun k=>by
  simp only [cH,show(tN 0)=0 from rfl,hp]
  rw [bG (by omega),cond_true];rfl
 have m1:∀x y z:Int,(-64<=x/\x<=64)->bV (bV (bV 64 x) y) z=bV (bV (bV x x) y) z:=fun x y z hx=>by
  congr 2;unfold bV;split<;>split<;>omega
 have m2:∀x y z:Int,(-64<=x/\x<=64)->eY (eY (eY (-64) x) y) z=eY (eY (eY x x) y) z:=fun x y z hx=>by
  congr 2;unfold eY;split<;>split<;>omega
 obtain⟨⟨hx,hy,hz⟩,_⟩:=hb
 rw [aB e,aB (r 0),aB (r 1),aB (r 2),aJa hl n 1 _ _ _ _ _ _ (by omega)]
 rw [m1 _ _ _ (show -64<=eZ p.1.1 0/\eZ p.1.1 0<=64 from hx),m2 _ _ _ (show -64<=eZ p.1.1 0/\eZ p.1.1 0<=64 from hx),
  m1 _ _ _ (show -64<=eZ p.1.1 1/\eZ p.1.1 1<=64 from hy),m2 _ _ _ (show -64<=eZ p.1.1 1/\eZ p.1.1 1<=64 from hy),
  m1 _ _ _ (show -64<=eZ p.1.1 2/\eZ p.1.1 2<=64 from hz),m2 _ _ _ (show -64<=eZ p.1.1 2/\eZ p.1.1 2<=64 from hz)]
 rfl
theorem aNu (hv:sR l)(hi:InR l.length ns)(k:Int):∀(n i:Nat) (a b:Int),ns.length - i < n->(-64<=a/\a<=64)->(-64<=b/\b<=64)->-64<=aA (cH l ns k) n (a,b,(i:Int))/\aA (cH l ns k) n (a,b,(i:Int))<=64
 | 0,_,_,_,h,_,_=>absurd h (fO _)
 | n+1,i,a,b,h,ha,hb=>by
  by_cases h1:i < ns.length
  ·have h0:=hi.at h1
   have hp:=aLo hv (i:=tN (ns.getD i dF)) (by omega)
   have r:cH l ns k (a,b,(i:Int))=.inl (bV (bV (bV a (eZ (l.getD (tN (ns.getD i dF)) dF).1.1 k)) (eZ (l.getD (tN (ns.getD i dF)) dF).1.2.1 k)) (eZ (l.getD (tN (ns.getD i dF)) dF).1.2.2 k),
    eY (eY (eY b (eZ (l.getD (tN (ns.getD i dF)) dF).1.1 k)) (eZ (l.getD (tN (ns.getD i dF)) dF).1.2.1 k)) (eZ (l.getD (tN (ns.getD i dF)) dF).1.2.2 k),((i+1:Nat):Int)):=by
    simp only [cH,eX]
    rw [bG (by omega),cond_true];rfl
   rw [aB r]
   have ax:∀p:Zt,bd 64 p->-64<=eZ p k/\eZ p k<=64:=fun p hp=>by
    unfold eZ
    rw [Bool.cond_eq_ite]
    split
    ·exact hp.1
    ·rw [Bool.cond_eq_ite]
     split
     ·exact hp.2.1
     ·exact hp.2.2
   have qa1:=ax _ hp.1;have qa2:=ax _ hp.2.1;have qa3:=ax _ hp.2.2
   have mn:∀x y:Int,(-64<=x/\x<=64)->(-64<=y/\y<=64)->-64<=bV x y/\bV x y<=64:=fun x y hx hy=>by unfold bV;split<;>assumption
   have mx:∀x y:Int,(-64<=x/\x<=64)->(-64<=y/\y<=64)->-64<=eY x y/\eY x y<=64:=fun x y hx hy=>by unfold eY;split<;>assumption
   exact aNu hv hi k n (i+1) _ _ (by omega) (mn _ _ (mn _ _ (mn _ _ ha qa1) qa2) qa3) (mx _ _ (mx _ _ (mx _ _ hb qa1) qa2) qa3)
  ·have r:cH l ns k (a,b,(i:Int))=.inr (aLm a b):=by
    simp only [cH]
    rw [cC (by omega),cond_false]
   rw [aC r]
   unfold aLm
   rw [aH (by omega) (by omega),show(2:Int) ^ (min (tN 1) 64)=2 from by decide,Int.fdiv_eq_ediv_of_nonneg _ (by decide)]
   omega
theorem pJ (hv:sR l)(hi:InR l.length ns)(k:Int):-64<=bC l ns k/\bC l ns k<=64 :=
 aNu hv hi k _ 0 64 (-64) (by omega) (by omega) (by omega)
theorem bAh (m:bR) {c:Zt} (hc:bd 64 c):qX m c=jT m c:=by
 obtain⟨h1,h2,h3⟩:=hc
 have hW:W (0 - 64)=-64:=by decide
 have e1:aCu c 64=true:=by
  unfold aCu aCt
  rw [hW,bG h1.1,bG h1.2,bG h2.1,bG h2.2,bG h3.1,bG h3.2];rfl
 have sz:∀x:Int,(-64<=x/\x<=64)->aAk x<=64:=fun x hx=>by
  unfold aAk
  rw [aH (n:=0 - x) (by omega) (by omega)]
  split<;>omega
 have e2:F86 c 64=true:=by
  unfold F86
  rw [hW,bG (sz _ h1),bG (sz _ h2),bG (sz _ h3),bG (show c.1≥-64 from h1.1),bG (show c.2.1≥-64 from h2.1),bG (show c.2.2≥-64 from h3.1)];rfl
 have e3:kS m c=rC m c:=by
  unfold kS rC
  rw [nO,e1,e2]
 have e4:lX m c=gM m c:=by
  funext ⟨v1,v2⟩
  rfl
 unfold qX jT
 rw [e3,e4]
def bDb (b:BU):Zt⊕Int->Zt⊕(BU×Int)
 | .inl s=>.inl s
 | .inr x=>.inr (b,x)
theorem aNv {b:BU} (hb:b.1=l) {k:Int}:∀(n i:Nat) (v15 v16 lo hi:Int),ns.length - i < n ->
 aA (dY b ns) n (v15,v16,k,lo,hi,k,(i:Int))=bDb b (aA (dC l ns) n (v15,v16,k,lo,hi,(i:Int)))
 | 0,_,_,_,_,_,h=>absurd h (fO _)
 | n+1,i,v15,v16,lo,hi,h=>by
  have hk:∀x:Int,gI (b.1,b.2.1,(b.2.2.1,b.2.2.2)) x k=iS (l.getD (tN x) dF) k:=fun x=>by
   rw [aGp,←hb];rfl
  by_cases h1:i < ns.length
  ·have e:dY b ns (v15,v16,k,lo,hi,k,(i:Int))=.inl (v15,v16,k,bV lo (iS (l.getD (tN (ns.getD i dF)) dF) k),eY hi (iS (l.getD (tN (ns.getD i dF)) dF) k),k,((i+1:Nat):Int)):=by
    simp only [dY,hk,eX]
    rw [bG (by omega),cond_true];rfl
   have r:dC l ns (v15,v16,k,lo,hi,(i:Int))=.inl (v15,v16,k,bV lo (iS (l.getD (tN (ns.getD i dF)) dF) k),eY hi (iS (l.getD (tN (ns.getD i dF)) dF) k),((i+1:Nat):Int)):=by
    simp only [dC,eX]
    rw [bG (by omega),cond_true];rfl
   rw [aB e,aB r]
   exact aNv hb n (i+1) _ _ _ _ (by omega)
  ·have e:dY b ns (v15,v16,k,lo,hi,k,(i:Int))=.inr (bDb b (bif (decide (((W (hi - lo)):Int) > v16)) then .inl (k,(W (hi - lo)),k+1) else .inl (v15,v16,k+1))):=by
    simp only [dY]
    rw [cC (by omega),cond_false]
    cases decide (((W (hi - lo)):Int) > v16)<;>rfl
   have r:dC l ns (v15,v16,k,lo,hi,(i:Int))=.inr (bif (decide (((W (hi - lo)):Int) > v16)) then .inl (k,(W (hi - lo)),k+1) else .inl (v15,v16,k+1)):=by
    simp only [dC]
    rw [cC (by omega),cond_false]
    cases decide (((W (hi - lo)):Int) > v16)<;>rfl
   rw [aC e,aC r]
theorem aNw {b:BU} (hb:b.1=l)(h1:1<=ns.length):∀(n:Nat) (v12 v13 k:Int),tN (3 - k) < n ->
 aA (fM b ns) n (v12,v13,k)=(b,aA (fA l ns) n (v12,v13,k))
 | 0,_,_,_,h=>absurd h (fO _)
 | n+1,v12,v13,k,h=>by
  have hk:∀x:Int,gI (b.1,b.2.1,(b.2.2.1,b.2.2.2)) x k=iS (l.getD (tN x) dF) k:=fun x=>by
   rw [aGp,←hb];rfl
  by_cases h3:k < 3
  ·generalize hK:iS (l.getD (tN (ns.getD (tN 0) dF)) dF) k=K
   have e0:fM b ns (v12,v13,k)=aA (dY b ns) (tN ((ns.length:Int) - 0)+1) (v12,v13,k,K,K,k,((0:Nat):Int)):=by
    simp only [fM,hk,hK]
    rw [bG h3,cond_true];rfl
   have r0:fA l ns (v12,v13,k)=aA (dC l ns) (tN ((ns.length:Int) - 1)+1) (v12,v13,k,K,K,((1:Nat):Int)):=by
    simp only [fA,hK]
    rw [bG h3,cond_true];rfl
   have f0:tN ((ns.length:Int) - 0)+1=(tN ((ns.length:Int) - 1)+1)+1:=by omega
   have e1:dY b ns (v12,v13,k,K,K,k,((0:Nat):Int))=.inl (v12,v13,k,K,K,k,((1:Nat):Int)):=by
    simp only [dY,hk,eX]
    rw [show(tN 0)=0 from rfl] at hK
    rw [bG (by omega),cond_true,hK,if_neg (by omega)];rfl
   rw [f0,aB e1,aNv hb _ 1 _ _ _ _ (by omega),←r0] at e0
   -- what a round brings
   have hr:∃x y,fA l ns (v12,v13,k)=.inl (x,y,k+1):=by
    rw [r0]
    have gen:∀(m i:Nat) (lo hi:Int),ns.length - i < m->∃x y,aA (dC l ns) m (v12,v13,k,lo,hi,(i:Int))=.inl (x,y,k+1):=by
     intro m
     induction m with
     | zero=>intro _ _ _ h;exact absurd h (fO _)
     | succ m ih =>
      intro i lo hi hm
      by_cases hi1:i < ns.length
      ·have r:dC l ns (v12,v13,k,lo,hi,(i:Int))=.inl (v12,v13,k,bV lo (iS (l.getD (tN (ns.getD i dF)) dF) k),eY hi (iS (l.getD (tN (ns.getD i dF)) dF) k),((i+1:Nat):Int)):=by
        simp only [dC,eX]
        rw [bG (by omega),cond_true];rfl
       rw [aB r]
       exact ih (i+1) _ _ (by omega)
      ·have r:dC l ns (v12,v13,k,lo,hi,(i:Int))=.inr (bif (decide (((W (hi - lo)):Int) > v13)) then .inl (k,(W (hi - lo)),k+1) else .inl (v12,v13,k+1)):=by
        simp only [dC]
        rw [cC (by omega),cond_false]
        cases decide (((W (hi - lo)):Int) > v13)<;>rfl
       rw [aC r]
       cases decide (((W (hi - lo)):Int) > v13)
       ·exact⟨_,_,rfl⟩
       ·exact⟨_,_,rfl⟩
    exact gen _ 1 K K (by omega)
   obtain⟨x,y,hr⟩:=hr
   rw [hr] at e0
   rw [aB (show _=Sum.inl (x,y,k+1) from e0),aB hr]
   exact aNw hb h1 n _ _ (k+1) (by omega)
  ·have e:fM b ns (v12,v13,k)=.inr (b,v12):=by
    simp only [fM]
    rw [cC h3,cond_false]
   have r:fA l ns (v12,v13,k)=.inr v12:=by
    simp only [fA]
    rw [cC h3,cond_false]
   rw [aC e,aC r]
theorem bAi {b:BU} (hb:b.1=l)(h1:1<=ns.length):aCz b ns=(b,aG l ns) :=
 aNw hb h1 _ _ _ _ (by omega)
end
end Go.Proofs.YtlckcjfbjnjfhaaGreat
namespace Go.Proofs.YtlckcjfbjnjfhaaGreat
open Go.Proofs Go.Aw Go.RowKit
set_option maxRecDepth 100000
abbrev NDE:=Int×Int×Int×Int×Zt×Int
def sS (l:bR)(ns:List Int):Zt:=(bC l ns 0,bC l ns 1,bC l ns 2)
def zW (l:bR)(ns:List Int)(fr lt rt:Int):NDE:=(fr,fr+ns.length,lt,rt,sS l ns,(jT (cN l ns) (sS l ns)).1)
def GT (l:bR)(leaf:Int):Nat->List Int->Int->Int->List Int×List NDE
 | 0,_,_,_=>([],[])
 | n+1,ns,fr,at_ =>
  if(ns.length:Int)<=leaf then(ns,[zW l ns fr (-1) (-1)]) else
   let s:=mM l (aG l ns) ns
   let h:=(ns.length+1) / 2
   let a:=GT l leaf n (s.take h) fr (at_+1)
   let b:=GT l leaf n (s.drop h) (fr+h) (at_+1+a.2.length)
   (a.1++b.1,zW l ns fr (at_+1) (at_+1+a.2.length)::(a.2++b.2))
theorem iZ {l:bR} {leaf:Int} {n:Nat} {ns:List Int} {fr a:Int} (h:(ns.length:Int)<=leaf):GT l leaf (n+1) ns fr a=(ns,[zW l ns fr (-1) (-1)]):=by
 rw [GT,if_pos h]
theorem jA {l:bR} {leaf:Int} {n:Nat} {ns:List Int} {fr a:Int} (h:¬(ns.length:Int)<=leaf):GT l leaf (n+1) ns fr a =
 ((GT l leaf n ((mM l (aG l ns) ns).take ((ns.length+1) / 2)) fr (a+1)).1++(GT l leaf n ((mM l (aG l ns) ns).drop ((ns.length+1) / 2)) (fr+((ns.length+1) / 2:Nat)) (a+1+(GT l leaf n ((mM l (aG l ns) ns).take ((ns.length+1) / 2)) fr (a+1)).2.length)).1,
   zW l ns fr (a+1) (a+1+(GT l leaf n ((mM l (aG l ns) ns).take ((ns.length+1) / 2)) fr (a+1)).2.length)::((GT l leaf n ((mM l (aG l ns) ns).take ((ns.length+1) / 2)) fr (a+1)).2++(GT l leaf n ((mM l (aG l ns) ns).drop ((ns.length+1) / 2)) (fr+((ns.length+1) / 2:Nat)) (a+1+(GT l leaf n ((mM l (aG l ns) ns).take ((ns.length+1) / 2)) fr (a+1)).2.length)).2)):=by
 rw [GT,if_neg h]
theorem aSs {α:Type} (pre post:List α)(x y:α):(pre++x::post).set pre.length y=pre++y::post:=by
 rw [List.set_append_right _ _ (Nat.le_refl _),Nat.sub_self];rfl
theorem aNx {α:Type} [Inhabited α] (pre post:List α)(x:α):(pre++x::post).getD pre.length dF=x:=by
 rw [cV,List.getElem?_append_right (Nat.le_refl _),Nat.sub_self];rfl
theorem aX3 {s:List Int} {h:Nat}:Aw.part s 0 (h:Int)=s.take h:=by unfold Aw.part;simp
theorem bDc {s:List Int} {h:Nat}:Aw.part s (h:Int) (s.length:Int)=s.drop h:=by
 unfold Aw.part
 rw [eX,eX]
 exact List.take_of_length_le (by rw [List.length_drop];exact Nat.le_refl _)
theorem aGq:∀(nr:Nat) (l:bR) (t:TR) (ns:List Int) (leaf:Int),PGRW l t ns leaf->ns.length < nr ->
 aD nr l t ns leaf=(t.1++(GT l leaf nr ns t.1.length t.2.length).1,t.2++(GT l leaf nr ns t.1.length t.2.length).2)
 | 0,_,_,_,_,_,h=>absurd h (fO _)
 | nr+1,l,t,ns,leaf,hp,hn=>by
  have h:=hp.rng;have hl:=hp.lf;have hnd:=hp.nds
  simp only [aD]
  have hW:W ((t.1.length:Int)+(ns.length:Int))=(t.1.length:Int)+ns.length:=aH (by omega) (by omega)
  by_cases h0:(ns.length:Int)<=leaf
  ·rw [bG h0,cond_true,iZ h0,hW]
   rfl
  ·rw [cC h0,cond_false,jA h0]
   have g2:2<=ns.length:=by omega
   have hs:=aC3 hp (aG l ns)
   have hf:=aC2 (n:=ns.length) (by omega)
   have hso:=aSr (l:=l) (k:=aG l ns) (ns:=ns) (by omega)
   have hsl:=jY l (aG l ns) ns
   have hpt1:=part_len (l:=bD l ns (aG l ns)) (a:=0) (b:=(((ns.length+1) / 2:Nat):Int)) (by omega)
   have hpt2:=part_len (l:=bD l ns (aG l ns)) (a:=(((ns.length+1) / 2:Nat):Int)) (b:=(ns.length:Int)) (by omega)
   have h5:GRR _ (cB (aD nr) l t ns leaf) _:=rY nr _ _ _ _ (tE hp _ g2) (by rw [hs.1,hf,hpt1];omega)
   have h5o:=h5.ol
   rw [hs.1,hf,hpt1] at h5o
   dsimp only at h5o
   have e2:cB (aD nr) l t ns leaf=_:=aGq nr _ _ _ _ (tE hp _ g2) (by rw [hs.1,hf,hpt1];omega)
   have e3:aE (aD nr) l t ns leaf=_:=aGq nr _ _ _ _ (aI6 hp _ g2 h5) (by rw [hs.1,hf,hpt2];omega)
   have hf':W (Int.tdiv (W ((((mM l (aG l ns) ns).length:Nat):Int)+1)) 2)=(((ns.length+1) / 2:Nat):Int):=by rw [hsl];exact hf
   rw [hso,hf',aX3] at e2
   rw [hso,hf',bDc] at e3
   rw [e2] at h5o e3
   simp only [List.length_append,List.length_cons,List.length_nil,Nat.zero_add,Int.natCast_add,Int.natCast_one] at e2 e3 h5o
   have ho1:(GT l leaf nr ((mM l (aG l ns) ns).take ((ns.length+1) / 2)) t.1.length (t.2.length+1)).1.length=(ns.length+1) / 2:=by omega
   rw [ho1] at e3
   rw [e3,e2]
   simp only [eX,List.append_assoc,List.cons_append,List.nil_append,aSs,aNx,hW,List.length_append,List.length_cons,Int.natCast_add,Int.natCast_one]
   rw [show(t.2.length:Int)+((GT l leaf nr ((mM l (aG l ns) ns).take ((ns.length+1) / 2)) t.1.length (t.2.length+1)).2.length+1)=t.2.length+1+(GT l leaf nr ((mM l (aG l ns) ns).take ((ns.length+1) / 2)) t.1.length (t.2.length+1)).2.length by omega]
   rfl
theorem yC (l:bR) {leaf:Int} (hl:1<=leaf):∀(n:Nat) (ns:List Int) (fr a:Int),ns.length < n->(GT l leaf n ns fr a).1.length=ns.length
 | 0,_,_,_,h=>absurd h (fO _)
 | n+1,ns,fr,a,h=>by
  by_cases h0:(ns.length:Int)<=leaf
  ·rw [iZ h0]
  ·rw [jA h0]
   have hsl:=jY l (aG l ns) ns
   simp only [List.length_append]
   rw [yC l hl n _ _ _ (by rw [List.length_take,hsl];omega),yC l hl n _ _ _ (by rw [List.length_drop,hsl];omega),List.length_take,List.length_drop,hsl]
   omega
theorem aNy (pre s post:List Int) {i k:Int} (h:Nat)(hi:i=pre.length)(hk:k=i+h)(hh:h<=s.length):Aw.part (pre++(s++post)) i k=s.take h:=by
 unfold Aw.part
 rw [hk,hi,show((pre.length:Int)+(h:Int)).toNat=pre.length+h by omega,eX,List.drop_append_of_le_length (Nat.le_refl _),List.drop_length,List.nil_append,show pre.length+h - pre.length=h by omega,List.take_append_of_le_length hh]
theorem aLp:∀(nr:Nat) (b:BU) (i k:Int),PADD b i k->sR b.1->tN (k - i) < nr ->
 bM nr b i k=((b.2.2.2.length:Int),b.1,b.2.1,b.2.2.1.take i.toNat++((GT b.1 b.2.1 nr (Aw.part b.2.2.1 i k) i b.2.2.2.length).1++b.2.2.1.drop k.toNat),b.2.2.2++(GT b.1 b.2.1 nr (Aw.part b.2.2.1 i k) i b.2.2.2.length).2)
 | 0,_,_,_,_,_,h=>absurd h (fO _)
 | nr+1,b,i,k,hp,hv,hn=>by
  have h:=hp.rng;have hn2:=hp.nds;have hl:=hp.lf
  have hW:W (k - i)=k - i:=aH (by omega) (by omega)
  have hpl:=part_len (l:=b.2.2.1) (a:=i) (b:=k) (by omega)
  have hir:=hp.inr.part i k
  have hcen:bS (cX b i k)=sS b.1 (Aw.part b.2.2.1 i k):=bAg hv hir (by rw [hpl];omega) (by rw [hpl];omega)
  have hrad:(fV b i k).1=(jT (cN b.1 (Aw.part b.2.2.1 i k)) (sS b.1 (Aw.part b.2.2.1 i k))).1:=by
   unfold fV
   rw [hcen,bAh _ ⟨pJ hv hir 0,pJ hv hir 1,pJ hv hir 2⟩]
   rfl
  have hnd:∀x y,((i,k,x,y,bS (cX b i k),(fV b i k).1):NDE)=zW b.1 (Aw.part b.2.2.1 i k) i x y:=fun x y=>by
   unfold zW
   rw [hcen,hrad,hpl,show i+((tN k - tN i:Nat):Int)=k by omega]
  simp only [bM]
  by_cases h0:W (k - i) > b.2.1
  ·rw [bG h0,cond_true,jA (by rw [hpl];omega)]
   have h2:2<=k - i:=by omega
   have hm:=aC0 ⟨h.1,h.2.1,by omega⟩
   have hax:(aI3 b i k).2=aG b.1 (Aw.part b.2.2.1 i k):=by
    unfold aI3
    exact congrArg Prod.snd (bAi (l:=b.1) (b:=(b.1,b.2.1,b.2.2.1,b.2.2.2++[(i,k,(-1),(-1),(bS (cX b i k)),(fV b i k).1)])) rfl (by rw [hpl];omega))
   have hor:zT b i k=b.2.2.1.take i.toNat++(mM b.1 (aG b.1 (Aw.part b.2.2.1 i k)) (Aw.part b.2.2.1 i k)++b.2.2.1.drop k.toNat):=by
    unfold zT
    rw [bAf (by omega) (by have:=hp.sm;omega),hax,List.append_assoc,show i.toNat+(k.toNat - i.toNat)=k.toNat by omega]
    rfl
   have h5:ADDR _ (dQ (bM nr) b i k).2 i _:=lB nr _ _ _ (aI4 hp h2) (by rw [hm];omega)
   have e5:dQ (bM nr) b i k=_:=aLp nr _ _ _ (aI4 hp h2) hv (by rw [hm];omega)
   have e6:aM (bM nr) b i k=_:=aLp nr _ _ _ (aLk hp (pW hp).1 h2 h5) hv (by rw [hm];omega)
   have hsl:=jY b.1 (aG b.1 (Aw.part b.2.2.1 i k)) (Aw.part b.2.2.1 i k)
   rw [hm,hnd] at e5
   generalize hs:mM b.1 (aG b.1 (Aw.part b.2.2.1 i k)) (Aw.part b.2.2.1 i k)=s at hor hsl e5 e6 ⊢
   generalize hh:((Aw.part b.2.2.1 i k).length+1) / 2=hf at e5 e6 ⊢
   have hfe:(i+(k - i+1) / 2)=i+(hf:Int):=by rw [←hh,hpl];omega
   have hsn:s.length=(k - i).toNat:=by rw [hsl,hpl];omega
   have hfs:hf<=s.length:=by rw [←hh,hpl,hsn];omega
   have htk:(b.2.2.1.take i.toNat).length=i.toNat:=by rw [List.length_take];omega
   dsimp only at e5
   have d1:(b.2.2.1.take i.toNat++(s++b.2.2.1.drop k.toNat)).take i.toNat=b.2.2.1.take i.toNat:=by
    rw [List.take_append_of_le_length (by rw [htk];exact Nat.le_refl _),List.take_of_length_le (by rw [htk];exact Nat.le_refl _)]
   have d2:(b.2.2.1.take i.toNat++(s++b.2.2.1.drop k.toNat)).drop (i+(hf:Int)).toNat=s.drop hf++b.2.2.1.drop k.toNat:=by
    rw [List.drop_append,List.drop_of_length_le (by rw [htk];omega),List.nil_append,htk,show(i+(hf:Int)).toNat - i.toNat=hf by omega,List.drop_append_of_le_length hfs]
   have g1:=yC b.1 hl nr (s.take hf) i (((b.2.2.2++[zW b.1 (Aw.part b.2.2.1 i k) i (-1) (-1)]).length:Nat):Int) (by rw [List.length_take,hsn];have:=hn;rw [←hh,hpl];omega)
   have g2:=yC b.1 hl nr (s.drop hf) (i+(hf:Int)) ((((b.2.2.2++[zW b.1 (Aw.part b.2.2.1 i k) i (-1) (-1)])++(GT b.1 b.2.1 nr (s.take hf) i (((b.2.2.2++[zW b.1 (Aw.part b.2.2.1 i k) i (-1) (-1)]).length:Nat):Int)).2).length:Nat):Int) (by rw [List.length_drop,hsn];have:=hn;rw [←hh,hpl];omega)
   rw [hor,hfe,aNy (b.2.2.1.take i.toNat) s (b.2.2.1.drop k.toNat) hf (by rw [htk];omega) rfl hfs,d1,d2] at e5
   rw [e5,hm,hfe] at e6
   dsimp only at e6
   rw [←List.append_assoc (List.take i.toNat b.2.2.1)] at e6
   have hl1:(b.2.2.1.take i.toNat++(GT b.1 b.2.1 nr (s.take hf) i (((b.2.2.2++[zW b.1 (Aw.part b.2.2.1 i k) i (-1) (-1)]).length:Nat):Int)).1).length=i.toNat+hf:=by
    rw [List.length_append,htk,g1,List.length_take];omega
   rw [aNy _ (s.drop hf) (b.2.2.1.drop k.toNat) (s.drop hf).length (by rw [hl1];omega) (by rw [List.length_drop,hsn];omega) (Nat.le_refl _),List.take_length] at e6
   have d3:∀x y z:List Int,x.length=i.toNat+hf->(x++(y++z)).take (i+(hf:Int)).toNat=x:=fun x y z hx=>by
    rw [show(i+(hf:Int)).toNat=x.length by omega,List.take_append_of_le_length (Nat.le_refl _),List.take_length]
   have d4:∀x y z:List Int,x.length=i.toNat+hf->y.length=s.length - hf->(x++(y++z)).drop k.toNat=z:=fun x y z hx hy=>by
    rw [←List.append_assoc,show k.toNat=(x++y).length by rw [List.length_append,hx,hy,hsn];omega,List.drop_append_of_le_length (Nat.le_refl _),List.drop_length,List.nil_append]
   rw [d3 _ _ _ hl1,d4 _ _ _ hl1 (by rw [List.length_drop])] at e6
   rw [e6,e5]
   simp only [eX,List.append_assoc,List.cons_append,List.nil_append,aSs,aNx,List.length_append,List.length_cons,List.length_nil,Nat.zero_add,Int.natCast_add,Int.natCast_one]
   rw [show(b.2.2.2.length:Int)+((GT b.1 b.2.1 nr (s.take hf) i ((b.2.2.2.length:Int)+1)).2.length+1)=b.2.2.2.length+1+(GT b.1 b.2.1 nr (s.take hf) i ((b.2.2.2.length:Int)+1)).2.length by omega]
   rfl
  ·rw [cC h0,cond_false,iZ (by rw [hpl];omega),hnd]
   dsimp only
   rw [←List.append_assoc,List.append_assoc]
   have:b.2.2.1.take i.toNat++(Aw.part b.2.2.1 i k++b.2.2.1.drop k.toNat)=b.2.2.1:=by
    unfold Aw.part
    have e:b.2.2.1.drop k.toNat=(b.2.2.1.drop i.toNat).drop (k.toNat - i.toNat):=by rw [List.drop_drop,show i.toNat+(k.toNat - i.toNat)=k.toNat by omega]
    rw [e,List.take_append_drop,List.take_append_drop]
   rw [this]
theorem bDd (l:bR)(t:TR)(ns:List Int)(leaf:Int)(hp:PGRW l ([],[]) ns leaf):mY l t ns leaf=gN l ([],[]) ns leaf:=by
 have h:=hp.rng;have hl:=hp.lf
 unfold mY gN
 simp only [zV,aD]
 by_cases h0:(ns.length:Int)<=leaf
 ·rw [bG h0,cond_true,cond_true]
  rfl
 ·rw [cC h0,cond_false,cond_false]
  have g2:2<=ns.length:=by omega
  have hs:=aC3 hp (aG l ns)
  have hf:=aC2 (n:=ns.length) (by omega)
  have hpt1:=part_len (l:=bD l ns (aG l ns)) (a:=0) (b:=(((ns.length+1) / 2:Nat):Int)) (by omega)
  have hpt2:=part_len (l:=bD l ns (aG l ns)) (a:=(((ns.length+1) / 2:Nat):Int)) (b:=(ns.length:Int)) (by omega)
  have e2:iA l t ns leaf=cB (aD ns.length) l ([],[]) ns leaf:=by
   unfold iA cB zU
   refine(aX2 _ l ([],_) _ leaf (tE (t:=([],[])) hp _ g2) (lss _)).trans ?_
   exact rE _ _ _ _ _ _ (tE hp _ g2) (lss _) (by rw [hs.1,hf,hpt1];omega)
  have h5:GRR _ (cB (aD ns.length) l ([],[]) ns leaf) _:=rY _ _ _ _ _ (tE hp _ g2) (by rw [hs.1,hf,hpt1];omega)
  have e3:aL l t ns leaf=aE (aD ns.length) l ([],[]) ns leaf:=by
   unfold aL aE gN
   rw [e2]
   exact rE _ _ _ _ _ _ (aI6 hp _ g2 h5) (lss _) (by rw [hs.1,hf,hpt2];omega)
  rw [e3,e2]
  rfl
def jF (n:Nat):List Int:=(List.range n).map (fun i:Nat=>(i:Int))
theorem dA (n:Nat):(jF n).length=n:=by simp [jF]
theorem aE1 (n:Nat):jF (n+1)=jF n++[(n:Int)]:=by simp [jF,List.range_succ]
theorem rG (n:Nat):InR n (jF n):=fun x hx=>by
 simp only [jF,List.mem_map,List.mem_range] at hx
 obtain⟨i,hi,rfl⟩:=hx
 omega
def BT (l:bR)(leaf:Int):List Int×List NDE:=if l.length=0 then([],[]) else GT l leaf (l.length+1) (jF l.length) 0 0
theorem aPy {l:bR} (h:1<=l.length)(hl:l.length<=96) {leaf:Int} (hf:1<=leaf):PGRW l ([],[]) (jF l.length) leaf :=
 ⟨rG _,by rw [dA];simp only [List.length_nil];omega,by rw [dA];simp only [List.length_nil];omega,hf⟩
theorem aC5 (l:bR)(hl:l.length<=96) {leaf:Int} (hf:1<=leaf):vV l leaf=BT l leaf:=by
 have lp:∀(n i:Nat),l.length - i < n->i<=l.length->aA (vU l leaf) n (jF i,(i:Int))=BT l leaf:=by
  intro n
  induction n with
  | zero=>intro i h;exact absurd h (fO _)
  | succ n ih =>
   intro i h hi
   by_cases h1:i < l.length
   ·have e:vU l leaf (jF i,(i:Int))=.inl (jF (i+1),((i+1:Nat):Int)):=by
     simp only [vU]
     rw [bG (by omega),cond_true,aE1];rfl
    rw [aB e]
    exact ih (i+1) (by omega) (by omega)
   ·obtain rfl:i=l.length:=by omega
    refine aC ?_
    simp only [vU]
    rw [cC (by omega),cond_false]
    unfold BT
    by_cases h0:l.length=0
    ·rw [if_pos h0,show(((l.length:Int):Int) == 0)=true by simp [h0],cond_true]
    ·have hp:=aPy (l:=l) (by omega) hl hf
     rw [if_neg h0,show(((l.length:Int):Int) == 0)=false by rw [beq_eq_false_iff_ne];omega,cond_false,bDd _ _ _ _ hp]
     unfold gN
     rw [aGq _ _ _ _ _ hp (lss _),dA]
     rfl
 exact lp (tN ((l.length:Int) - 0)+1) 0 (by omega) (Nat.zero_le _)
theorem aLq (l:bR) [bL l] (hv:sR l) {leaf:Int} (hf:1<=leaf):kL l leaf=BT l leaf:=by
 have hl:=hv.1
 have hs:=aLl hl
 have lp:∀(n i:Nat),l.length - i < n->i<=l.length->aA (fS l leaf) n (jF i,([]:List NDE),(i:Int))=BT l leaf:=by
  intro n
  induction n with
  | zero=>intro i h;exact absurd h (fO _)
  | succ n ih =>
   intro i h hi
   by_cases h1:i < l.length
   ·have e:fS l leaf (jF i,([]:List NDE),(i:Int))=.inl (jF (i+1),([]:List NDE),((i+1:Nat):Int)):=by
     simp only [fS]
     rw [bG (by omega),cond_true,aE1];rfl
    rw [aB e]
    exact ih (i+1) (by omega) (by omega)
   ·obtain rfl:i=l.length:=by omega
    refine aC ?_
    simp only [fS]
    rw [cC (by omega),cond_false]
    unfold BT
    by_cases h0:l.length=0
    ·rw [if_pos h0,cC (by omega),cond_false]
     have:jF l.length=[]:=by rw [h0];simp [jF]
     rw [this]
    ·have hp:PADD (l,leaf,(jF l.length,([]:List NDE))) 0 (l.length:Int):=⟨rG _,by dsimp only;rw [dA];omega,by dsimp only;simp only [List.length_nil];omega,hf,by omega⟩
     rw [if_neg h0,bG (by omega),cond_true]
     unfold F60
     rw [aLp _ _ _ _ hp hv (lss _)]
     dsimp only
     have hpt:Aw.part (jF l.length) 0 (l.length:Int)=jF l.length:=by rw [aX3,List.take_of_length_le (by rw [dA];exact Nat.le_refl _)]
     have hsub:tN ((l.length:Int) - 0)=l.length:=by omega
     rw [hpt,hsub,eX,List.drop_of_length_le (by rw [dA];exact Nat.le_refl _),List.append_nil]
     rfl
 exact lp (tN ((l.length:Int) - 0)+1) 0 (by omega) (Nat.zero_le _)
theorem aSt (l:bR) [bL l] (leaf:Int):aF l leaf=aI7 l leaf:=by
 unfold aF aI7
 rw [nO]
 cases h:((oE l:Int) != 0) with
 | true=>rfl
 | false =>
  have h0:eU l=0:=by rw [nO];exact bne_eq_false_iff_eq.1 h
  have hv:=aC4 h0
  rw [cond_false,cond_false]
  by_cases h1:leaf < 1
  ·rw [bG h1,cond_true,show kM leaf 1 16=false by unfold kM;rw [cC (show ¬leaf≥1 by omega)];rfl];rfl
  ·rw [cC h1,cond_false]
   by_cases h2:leaf > 16
   ·rw [bG h2,cond_true,show kM leaf 1 16=false by unfold kM;rw [bG (show leaf≥1 by omega),cC (show ¬leaf<=16 by omega)];rfl];rfl
   ·rw [cC h2,cond_false,show kM leaf 1 16=true by unfold kM;rw [bG (show leaf≥1 by omega),bG (show leaf<=16 by omega)];rfl]
    rw [aLq l hv (by omega),aC5 l hv.1 (by omega)]
    rfl
theorem aLr (l:bR) {leaf:Int} (hl:1<=leaf):∀(n:Nat) (ns:List Int) (fr a:Int),ns.length < n->1<=ns.length->(GT l leaf n ns fr a).2.length+1<=2*ns.length
 | 0,_,_,_,h,_=>absurd h (fO _)
 | n+1,ns,fr,a,h,h1=>by
  by_cases h0:(ns.length:Int)<=leaf
  ·rw [iZ h0];simp only [List.length_cons,List.length_nil];omega
  ·rw [jA h0]
   have hsl:=jY l (aG l ns) ns
   have g1:=aLr l hl n ((mM l (aG l ns) ns).take ((ns.length+1) / 2)) fr (a+1) (by rw [List.length_take,hsl];omega) (by rw [List.length_take,hsl];omega)
   have g2:=aLr l hl n ((mM l (aG l ns) ns).drop ((ns.length+1) / 2)) (fr+((ns.length+1) / 2:Nat)) (a+1+(GT l leaf n ((mM l (aG l ns) ns).take ((ns.length+1) / 2)) fr (a+1)).2.length) (by rw [List.length_drop,hsl];omega) (by rw [List.length_drop,hsl];omega)
   rw [List.length_take,hsl] at g1
   rw [List.length_drop,hsl] at g2
   simp only [List.length_cons,List.length_append]
   omega
theorem yD (l:bR)(hl:l.length<=96) {leaf:Int} (hf:1<=leaf):(BT l leaf).1.length=l.length/\(BT l leaf).2.length<=192:=by
 unfold BT
 by_cases h0:l.length=0
 ·rw [if_pos h0,h0];exact⟨rfl,Nat.zero_le _⟩
 ·rw [if_neg h0]
  have g1:=yC l hf (l.length+1) (jF l.length) 0 0 (by rw [dA];omega)
  have g2:=aLr l hf (l.length+1) (jF l.length) 0 0 (by rw [dA];omega) (by rw [dA];omega)
  rw [dA] at g1 g2
  exact⟨g1,by omega⟩
theorem aLs (l:bR)(leaf:Int):(aI7 l leaf).1.1.length<=96/\(aI7 l leaf).1.2.length<=192:=by
 unfold aI7
 cases h:((oE l:Int) != 0) with
 | true=>exact⟨Nat.zero_le _,Nat.zero_le _⟩
 | false =>
  have hl:=aSo (l:=l) (bne_eq_false_iff_eq.1 h)
  rw [cond_false]
  by_cases h1:leaf < 1
  ·rw [bG h1];exact⟨Nat.zero_le _,Nat.zero_le _⟩
  ·rw [cC h1,cond_false]
   by_cases h2:leaf > 16
   ·rw [bG h2];exact⟨Nat.zero_le _,Nat.zero_le _⟩
   ·rw [cC h2,cond_false,aC5 l hl (by omega)]
    have:=yD l hl (leaf:=leaf) (by omega)
    exact⟨by dsimp only;omega,this.2⟩
theorem fX (l:bR) [bL l] (leaf:Int):(aF l leaf).1.1.length<=96/\(aF l leaf).1.2.length<=192:=by rw [aSt];exact aLs l leaf
theorem aLt {S:Int->Int⊕Bool} {N:Nat} (h1:∀i:Nat,i < N->S (i:Int)=.inl ((i+1:Nat):Int))(h2:S (N:Int)=.inr true):∀(d i n:Nat),d=N - i->i<=N->d < n->aA S n (i:Int)=true
 | 0,i,n,hd,hi,hn=>by
  obtain⟨n,rfl⟩:∃m,n=m+1:=⟨n - 1,by omega⟩
  have:i=N:=by omega
  subst this
  exact aC h2
 | d+1,i,n,hd,hi,hn=>by
  obtain⟨n,rfl⟩:∃m,n=m+1:=⟨n - 1,by omega⟩
  rw [aB (h1 i (by omega))]
  exact aLt h1 h2 d (i+1) n (by omega) (by omega) (by omega)
theorem aPz (l:List Int):mZ l l=true:=by
 unfold mZ
 rw [show(((l.length:Int):Int) != (l.length:Int))=false by simp,cond_false]
 refine aLt (N:=l.length) (fun i hi=>?_) ?_ l.length 0 _ (by omega) (by omega) (by omega)
 ·simp only [rZ]
  rw [bG (show((i:Nat):Int) < (l.length:Nat) by omega),cond_true]
  simp
 ·simp only [rZ]
  rw [cC (Int.lt_irrefl _),cond_false]
theorem aLu (t:TR):F20 t t=true:=by
 unfold F20
 simp only [aPz]
 rw [show(((t.2.length:Int):Int) != (t.2.length:Int))=false by simp]
 refine aLt (N:=t.2.length) (fun i hi=>?_) ?_ t.2.length 0 _ (by omega) (by omega) (by omega)
 ·simp only [aNt]
  rw [bG (show((i:Nat):Int) < (t.2.length:Nat) by omega),cond_true]
  simp
 ·simp only [aNt]
  rw [cC (Int.lt_irrefl _),cond_false]
theorem aV1 {l:bR} [bL l] {leaf:Int} (h:eU l=0)(hf:1<=leaf):(kL l leaf).1.length<=96/\(kL l leaf).2.length<=192:=by
 have hv:=aC4 h
 rw [aLq l hv hf]
 have:=yD l hv.1 hf
 have:=hv.1
 omega
noncomputable def uN:Code:=(aO [1,1,0,1] [] (aI Tryz.f117) []).1
noncomputable def uO:List K:=(aO [1,1,0,1] [] (aI Tryz.f117) []).2
def rH (a0:List Int)(a1:List Int)(v1:Int):LS:=⟨jH 26 [(0,(.s 0 0 a0.length 1)),(1,(.s 1 0 a1.length 1)),(12,(iv (a0.length:Int))),(13,(iv v1))],[(.live false true (flat c3 a0)),(.live false true (flat c3 a1))]⟩
def gO (a0:List Int)(a1:List Int):Int->(Int)⊕(Bool)
 | v1 =>
  (bif (decide ((v1:Int) < (a0.length:Int))) then
   (bif (((a0.getD (tN v1) dF):Int) != (a1.getD (tN v1) dF)) then
    (.inr false)
   else
    (.inl (v1+1)))
  else
   (.inr true))
theorem aLv (a0:List Int)(a1:List Int)(l0:a0.length<=2^63-1)(l1:a1.length<=2^63-1) {cx:Cx} (hcx:cx.base=2):∀(n:Nat) (v1:Int),(0<=v1)/\(a0.length=a1.length)->tN ((a0.length:Int) - v1) < n->Aw.Good Tryz.prog none 9 (bodyPost Tryz.prog Tryz.f117 (RR cx (.v (.bool (aA (gO a0 a1) n v1))) [] [])) cx [] (.l uN n::uO) (rH a0 a1 v1):=by
 intro n
 induction n with
 | zero=>intro v1 hi hn;exact absurd hn (fO _)
 | succ n ih =>
  intro v1 hi hn
  refine aT ?_
  cases h0:(decide ((v1:Int) < (a0.length:Int))) with
  | true =>
   have q0:=dL h0
   let t1:List (St Tryz.prog):=[.d h0,.i v1 (a0.length),.L cZ a0 v1 0 1,.i v1 (a1.length),.L cZ a1 v1 0 1]
   cases h1:(((a0.getD (tN v1) dF):Int) != (a1.getD (tN v1) dF)) with
   | true =>
    have q1:=bne_iff_ne.1 h1
    have e:=Eq.refl (gO a0 a1 v1);conv at e=>rhs;simp only [gO,h0,h1,aW]
    rw [aN,e]
    exact rt (t1++[.d h1]) [] [] hcx (by kernel_rfl)
   | false =>
    have q1:=bne_eq_false_iff_eq.1 h1
    have e:=Eq.refl (gO a0 a1 v1);conv at e=>rhs;simp only [gO,h0,h1,aW]
    rw [aB e]
    refine ba (t1++[.d h1]) [] [0,1,12,13] [] hcx (m:=n) uN (uO) (rH a0 a1 (W (v1+1))) (by kernel_rfl) ?_
    have z0:(W (v1+1))=(v1+1):=aH (by omega) (by omega)
    rw [z0]
    exact ih (v1+1) (by refine⟨?_,?_⟩<;>(try simp only [Ls])<;>first | omega | assumption | simp) (by(try simp only [Ls]);omega)
  | false =>
   have q0:=eH h0
   have e:=Eq.refl (gO a0 a1 v1);conv at e=>rhs;simp only [gO,h0,aW]
   rw [aN,e]
   exact rt [.d h0] [] [] hcx (by kernel_rfl)
def kN (a0:List Int)(a1:List Int):Bool :=
 (bif (((a0.length:Int):Int) != (a1.length:Int)) then
  false
 else
  (aA (gO a0 a1) (tN ((a0.length:Int) - 0)+1) 0))
theorem aSu (a0:List Int)(a1:List Int)(l0:a0.length<=2^63-1)(l1:a1.length<=2^63-1):Con Tryz.prog 117 [(.s 0 0 a0.length 1),(.s 1 0 a1.length 1)] [(.live false true (flat c3 a0)),(.live false true (flat c3 a1))] (.v (.bool (kN a0 a1))) []:=by
 refine aU Tryz.func117 (by kernel_rfl) fun cx hcx=>?_
 cases h0:(((a0.length:Int):Int) != (a1.length:Int)) with
 | true =>
  have q0:=bne_iff_ne.1 h0
  have e:=Eq.refl (kN a0 a1);conv at e=>rhs;simp only [kN,h0,aW]
  rw [e]
  exact rt [.d h0] [] [] hcx (by kernel_rfl)
 | false =>
  have q0:=bne_eq_false_iff_eq.1 h0
  have e:=Eq.refl (kN a0 a1);conv at e=>rhs;simp only [kN,h0,aW]
  rw [e]
  refine en [.d h0] [] [0,1,12,13] [] hcx uN (uO) (rH a0 a1 0) (tN ((a0.length:Int) - 0)+1) (by kernel_rfl) ?_
  exact aLv a0 a1 l0 l1 hcx (tN ((a0.length:Int) - 0)+1) 0 (by refine⟨?_,?_⟩<;>(try simp only [Ls])<;>first | omega | assumption | simp) (by(try simp only [Ls]);omega)
noncomputable def uP:Code:=(aO [1,1,0,1] [] (aI Tryz.f118) []).1
noncomputable def uQ:List K:=(aO [1,1,0,1] [] (aI Tryz.f118) []).2
def rI (a0:aY)(a1:aY)(v1:Int):LS:=⟨jH 26 [(0,(.s 0 0 a0.length 8)),(1,(.s 1 0 a1.length 8)),(12,(iv (a0.length:Int))),(13,(iv v1))],[(.live false true (flat dM a0)),(.live false true (flat dM a1))]⟩
def gP (a0:aY)(a1:aY):Int->(Int)⊕(Bool)
 | v1 =>
  (bif (decide ((v1:Int) < (a0.length:Int))) then
   (bif (!((((a0.getD (tN v1) dF).1:Int) == (a1.getD (tN v1) dF).1)&&((((a0.getD (tN v1) dF).2.1:Int) == (a1.getD (tN v1) dF).2.1)&&((((a0.getD (tN v1) dF).2.2.1:Int) == (a1.getD (tN v1) dF).2.2.1)&&((((a0.getD (tN v1) dF).2.2.2.1:Int) == (a1.getD (tN v1) dF).2.2.2.1)&&(((((a0.getD (tN v1) dF).2.2.2.2.1.1:Int) == (a1.getD (tN v1) dF).2.2.2.2.1.1)&&((((a0.getD (tN v1) dF).2.2.2.2.1.2.1:Int) == (a1.getD (tN v1) dF).2.2.2.2.1.2.1)&&((((a0.getD (tN v1) dF).2.2.2.2.1.2.2:Int) == (a1.getD (tN v1) dF).2.2.2.2.1.2.2)&&true)))&&((((a0.getD (tN v1) dF).2.2.2.2.2:Int) == (a1.getD (tN v1) dF).2.2.2.2.2)&&true))))))) then
    (.inr false)
   else
    (.inl (v1+1)))
  else
   (.inr true))
theorem aLw (a0:aY)(a1:aY)(l0:a0.length<=2^63-1)(l1:a1.length<=2^63-1) {cx:Cx} (hcx:cx.base=2):∀(n:Nat) (v1:Int),(0<=v1)/\(a0.length=a1.length)->tN ((a0.length:Int) - v1) < n->Aw.Good Tryz.prog none 9 (bodyPost Tryz.prog Tryz.f118 (RR cx (.v (.bool (aA (gP a0 a1) n v1))) [] [])) cx [] (.l uP n::uQ) (rI a0 a1 v1):=by
 intro n
 induction n with
 | zero=>intro v1 hi hn;exact absurd hn (fO _)
 | succ n ih =>
  intro v1 hi hn
  refine aT ?_
  cases h0:(decide ((v1:Int) < (a0.length:Int))) with
  | true =>
   have q0:=dL h0
   let t1:List (St Tryz.prog):=[.d h0,.i v1 (a0.length),.L dS a0 v1 0 8,.i v1 (a1.length),.L dS a1 v1 0 8]
   cases h1:(!((((a0.getD (tN v1) dF).1:Int) == (a1.getD (tN v1) dF).1)&&((((a0.getD (tN v1) dF).2.1:Int) == (a1.getD (tN v1) dF).2.1)&&((((a0.getD (tN v1) dF).2.2.1:Int) == (a1.getD (tN v1) dF).2.2.1)&&((((a0.getD (tN v1) dF).2.2.2.1:Int) == (a1.getD (tN v1) dF).2.2.2.1)&&(((((a0.getD (tN v1) dF).2.2.2.2.1.1:Int) == (a1.getD (tN v1) dF).2.2.2.2.1.1)&&((((a0.getD (tN v1) dF).2.2.2.2.1.2.1:Int) == (a1.getD (tN v1) dF).2.2.2.2.1.2.1)&&((((a0.getD (tN v1) dF).2.2.2.2.1.2.2:Int) == (a1.getD (tN v1) dF).2.2.2.2.1.2.2)&&true)))&&((((a0.getD (tN v1) dF).2.2.2.2.2:Int) == (a1.getD (tN v1) dF).2.2.2.2.2)&&true))))))) with
   | true =>
    have e:=Eq.refl (gP a0 a1 v1);conv at e=>rhs;simp only [gP,h0,h1,aW]
    rw [aN,e]
    exact rt (t1++[.d h1]) [] [] hcx (by kernel_rfl)
   | false =>
    have e:=Eq.refl (gP a0 a1 v1);conv at e=>rhs;simp only [gP,h0,h1,aW]
    rw [aB e]
    refine ba (t1++[.d h1]) [] [0,1,12,13] [] hcx (m:=n) uP (uQ) (rI a0 a1 (W (v1+1))) (by kernel_rfl) ?_
    have z0:(W (v1+1))=(v1+1):=aH (by omega) (by omega)
    rw [z0]
    exact ih (v1+1) (by refine⟨?_,?_⟩<;>(try simp only [Ls])<;>first | omega | assumption | simp) (by(try simp only [Ls]);omega)
  | false =>
   have q0:=eH h0
   have e:=Eq.refl (gP a0 a1 v1);conv at e=>rhs;simp only [gP,h0,aW]
   rw [aN,e]
   exact rt [.d h0] [] [] hcx (by kernel_rfl)
def oI (a0:aY)(a1:aY):Bool :=
 (bif (((a0.length:Int):Int) != (a1.length:Int)) then
  false
 else
  (aA (gP a0 a1) (tN ((a0.length:Int) - 0)+1) 0))
theorem aSv (a0:aY)(a1:aY)(l0:a0.length<=2^63-1)(l1:a1.length<=2^63-1):Con Tryz.prog 118 [(.s 0 0 a0.length 8),(.s 1 0 a1.length 8)] [(.live false true (flat dM a0)),(.live false true (flat dM a1))] (.v (.bool (oI a0 a1))) []:=by
 refine aU Tryz.func118 (by kernel_rfl) fun cx hcx=>?_
 cases h0:(((a0.length:Int):Int) != (a1.length:Int)) with
 | true =>
  have q0:=bne_iff_ne.1 h0
  have e:=Eq.refl (oI a0 a1);conv at e=>rhs;simp only [oI,h0,aW]
  rw [e]
  exact rt [.d h0] [] [] hcx (by kernel_rfl)
 | false =>
  have q0:=bne_eq_false_iff_eq.1 h0
  have e:=Eq.refl (oI a0 a1);conv at e=>rhs;simp only [oI,h0,aW]
  rw [e]
  refine en [.d h0] [] [0,1,12,13] [] hcx uP (uQ) (rI a0 a1 0) (tN ((a0.length:Int) - 0)+1) (by kernel_rfl) ?_
  exact aLw a0 a1 l0 l1 hcx (tN ((a0.length:Int) - 0)+1) 0 (by refine⟨?_,?_⟩<;>(try simp only [Ls])<;>first | omega | assumption | simp) (by(try simp only [Ls]);omega)
def F79 (a0:List Int×aY)(a1:List Int×aY):Bool :=
 (bif (kN a0.1 a1.1) then
  (oI a0.2 a1.2)
 else
  false)
theorem C79 (a0:List Int×aY)(a1:List Int×aY)(l0_1:a0.1.length<=2^63-1)(l0_2:a0.2.length<=2^63-1)(l1_1:a1.1.length<=2^63-1)(l1_2:a1.2.length<=2^63-1):Con Tryz.prog 79 [(.a [(.s 0 0 a0.1.length 1),(.s 1 0 a0.2.length 8)]),(.a [(.s 2 0 a1.1.length 1),(.s 3 0 a1.2.length 8)])] [(.live false true (flat c3 a0.1)),(.live false true (flat dM a0.2)),(.live false true (flat c3 a1.1)),(.live false true (flat dM a1.2))] (.v (.bool (F79 a0 a1))) []:=by
 refine aU Tryz.func79 (by kernel_rfl) fun cx hcx=>?_
 let t0:List (St Tryz.prog):=[.c [0,2] (aSu a0.1 a1.1 (by omega) (by omega))]
 cases h0:(kN a0.1 a1.1) with
 | true =>
  have e:=Eq.refl (F79 a0 a1);conv at e=>rhs;simp only [F79,h0,aW]
  rw [e]
  exact rt (t0++[.d h0,.c [1,3] (aSv a0.2 a1.2 (by omega) (by omega))]) [] [] hcx (by kernel_rfl)
 | false =>
  have e:=Eq.refl (F79 a0 a1);conv at e=>rhs;simp only [F79,h0,aW]
  rw [e]
  exact rt (t0++[.d h0]) [] [] hcx (by kernel_rfl)
noncomputable def aGr:Code:=(aO [1,1,0,1] [] (aI Tryz.f46) []).1
noncomputable def aGs:List K:=(aO [1,1,0,1] [] (aI Tryz.f46) []).2
def aC6 (a0:bE)(a1:List Int×aY)(v1:Int):LS:=⟨jH 21 [(0,(.s 0 0 a0.length 10)),(3,(.p 3 0)),(6,(iv v1))],[(.live false true (flat fK a0)),(.live false true (flat c3 a1.1)),(.live false true (flat dM a1.2)),(.live true false [(.s 1 0 a1.1.length 1),(.s 2 0 a1.2.length 8)])]⟩
def jB (a0:bE)(a1:List Int×aY):Int->(Int)⊕(Int)
 | v1 =>
  (bif (decide ((v1:Int)<=16)) then
   (bif (F79 (a1.1,a1.2) ((kL a0 v1).1,(kL a0 v1).2)) then
    (.inr 0)
   else
    (.inl (v1+1)))
  else
   (.inr 1))
theorem aV2 (a0:bE)(a1:List Int×aY)(l0:a0.length<=2^63-1)(l1_1:a1.1.length<=2^63-1)(l1_2:a1.2.length<=2^63-1) [h5:bL a0] {cx:Cx} (hcx:cx.base=3):∀(n:Nat) (v1:Int),(0<=v1)/\(eU a0=0)/\(1<=v1)->tN (16 - v1+1) < n->Aw.Good Tryz.prog none 9 (bodyPost Tryz.prog Tryz.f46 (RR cx (iv (aA (jB a0 a1) n v1)) [] [])) cx [] (.l aGr n::aGs) (aC6 a0 a1 v1):=by
 intro n
 induction n with
 | zero=>intro v1 hi hn;exact absurd hn (fO _)
 | succ n ih =>
  intro v1 hi hn
  refine aT ?_
  have hbl:=aV1 (l:=a0) (leaf:=v1) hi.2.1 (by omega)
  cases h0:(decide ((v1:Int)<=16)) with
  | true =>
   have q0:=dL h0
   let t1:List (St Tryz.prog):=[.d h0,.c [0] (aX1 a0 v1 (by omega) (aLl (jX (l:=a0) hi.2.1)) (by omega)),.c [1,2,4,5] (C79 (a1.1,a1.2) ((kL a0 v1).1,(kL a0 v1).2) (by(try simp only [Lt]);omega) (by(try simp only [Lt]);omega) (by(try simp only [Lt]);omega) (by(try simp only [Lt]);omega))]
   cases h1:(F79 (a1.1,a1.2) ((kL a0 v1).1,(kL a0 v1).2)) with
   | true =>
    have e:=Eq.refl (jB a0 a1 v1);conv at e=>rhs;simp only [jB,h0,h1,aW]
    rw [aN,e]
    exact rt (t1++[.d h1]) [] [] hcx (by kernel_rfl)
   | false =>
    have e:=Eq.refl (jB a0 a1 v1);conv at e=>rhs;simp only [jB,h0,h1,aW]
    rw [aB e]
    refine ba (t1++[.d h1]) [] [0,3,6] [3] hcx (m:=n) aGr (aGs) (aC6 a0 a1 (W (v1+1))) (by kernel_rfl) ?_
    have z0:(W (v1+1))=(v1+1):=aH (by omega) (by omega)
    rw [z0]
    exact ih (v1+1) (by refine⟨?_,?_,?_⟩<;>(try simp only [Ls])<;>first | omega | assumption | simp) (by(try simp only [Ls]);omega)
  | false =>
   have q0:=eH h0
   have e:=Eq.refl (jB a0 a1 v1);conv at e=>rhs;simp only [jB,h0,aW]
   rw [aN,e]
   exact rt [.d h0] [] [] hcx (by kernel_rfl)
def fC (a0:bE)(a1:List Int×aY):Int :=
 (bif (((eU a0):Int) != 0) then
  (eU a0)
 else
  (aA (jB a0 a1) (tN (16 - 1+1)+1) 1))
theorem aSw (a0:bE)(a1:List Int×aY)(l0:a0.length<=2^63-1)(l1_1:a1.1.length<=2^63-1)(l1_2:a1.2.length<=2^63-1) [h5:bL a0]:Con Tryz.prog 46 [(.s 0 0 a0.length 10),(.a [(.s 1 0 a1.1.length 1),(.s 2 0 a1.2.length 8)])] [(.live false true (flat fK a0)),(.live false true (flat c3 a1.1)),(.live false true (flat dM a1.2))] (iv (fC a0 a1)) []:=by
 refine aU Tryz.func46 (by kernel_rfl) fun cx hcx=>?_
 let t0:List (St Tryz.prog):=[.c [0] (aNd a0 (by omega))]
 cases h0:(((eU a0):Int) != 0) with
 | true =>
  have q0:=bne_iff_ne.1 h0
  have e:=Eq.refl (fC a0 a1);conv at e=>rhs;simp only [fC,h0,aW]
  rw [e]
  exact rt (t0++[.d h0]) [] [] hcx (by kernel_rfl)
 | false =>
  have q0:=bne_eq_false_iff_eq.1 h0
  have e:=Eq.refl (fC a0 a1);conv at e=>rhs;simp only [fC,h0,aW]
  rw [e]
  refine en (t0++[.d h0]) [] [0,3,6] [3] hcx aGr (aGs) (aC6 a0 a1 1) (tN (16 - 1+1)+1) (by kernel_rfl) ?_
  exact aV2 a0 a1 l0 l1_1 l1_2 hcx (tN (16 - 1+1)+1) 1 (by refine⟨?_,?_,?_⟩<;>(try simp only [Ls])<;>first | omega | assumption | simp) (by(try simp only [Ls]);omega)
def eW (a0:bE)(a1:List Int×aY):Int->(Int)⊕(Int)
 | v1 =>
  (bif (decide ((v1:Int)<=16)) then
   (bif (F20 (a1.1,a1.2) ((vV a0 v1).1,(vV a0 v1).2)) then
    (.inr 0)
   else
    (.inl (v1+1)))
  else
   (.inr 1))
def eG (a0:bE)(a1:List Int×aY):Int :=
 (bif (((oE a0):Int) != 0) then
  (oE a0)
 else
  (aA (eW a0 a1) (tN (16 - 1+1)+1) 1))
end Go.Proofs.YtlckcjfbjnjfhaaGreat
