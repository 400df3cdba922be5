/-
  Parts of the proofs of the laws: the executor, what functions of the program compute, and that it is what the statements ask. No premise.
-/
import Derived.Test.YtlckcjfbjnjfhaaGreatVPag3
import Derived.Deep.Slices
import Derived.ProofKit
import Derived.RowKit
import Derived.Shelf.SlSortCmp.Xorshift
import Derived.Sort.AssemblyPlain
set_option linter.unusedVariables false
set_option linter.unusedSimpArgs false
set_option maxHeartbeats 4000000
open Int renaming toNat → tN
open Inhabited renaming default → dF
namespace Go.Proofs.YtlckcjfbjnjfhaaGreat
open Go.Proofs Go.Aw Go.RowKit
set_option maxRecDepth 100000
end Go.Proofs.YtlckcjfbjnjfhaaGreat
namespace Go.Proofs.YtlckcjfbjnjfhaaGreat
open Go.Proofs Go.Aw Go.RowKit
set_option maxRecDepth 100000
open Go.ChangeShapes Go.WideShapes Go.ChangeAt
section
variable {H : Type} {enc : TypeId × Value → H} {P : Program} {w : World}
def nX (w:World)(es:Nat)(v:Value)(nss:List (List Int)):Prop :=
 (∀ns∈nss,ns.length=es)/\nss.length<=2^63-1 /\
 ((v=.slice none 0 0/\nss=[])\/∃b o cap,v=.slice (some ⟨b,o,none⟩) nss.length cap/\nss.length<=cap/\∀(i:Nat) (x:Value),((nss.flatten).map (Value.int .i64))[i]? = some x->w.cell? ⟨b,o+i,none⟩=some x)
theorem sW {es b:Nat}:∀(nss:List (List Int)) (o:Nat),(∀(j:Nat) (ns:List Int),nss[j]? = some ns->ns.length=es/\∀(q:Nat) (x:Value),(ns.map (Value.int .i64))[q]? = some x->w.cell? ⟨b,o+j*es+q,none⟩=some x) ->
 ∀(i:Nat) (x:Value),((nss.flatten).map (Value.int .i64))[i]? = some x->w.cell? ⟨b,o+i,none⟩=some x
 | [],o,_,i,x,hi=>by simp at hi
 | ns::l,o,h,i,x,hi=>by
  obtain⟨h1,h2⟩:=h 0 ns rfl
  rw [List.flatten_cons,List.map_append] at hi
  by_cases hlt:i < ns.length
  ·rw [List.getElem?_append_left (by simpa using hlt)] at hi
   have:=h2 i x hi
   simpa using this
  ·rw [List.getElem?_append_right (by simpa using hlt)] at hi
   have:=sW l (o+es) (fun j ms hj=>⟨(h (j+1) ms hj).1,fun q y hq=>by
    have:=(h (j+1) ms hj).2 q y hq
    rw [show o+es+j*es+q=o+(j+1)*es+q by rw [Nat.add_mul];omega];exact this⟩) (i - es) x (by simpa [h1] using hi)
   rw [show o+es+(i - es)=o+i by omega] at this;exact this
theorem aNn {r:Reach} {b0:Nat} {t e:TypeId} {es:Nat} {v:Value} {d:DataW H} {ps:List MemPlace} (ht:P.underlying t=some (.slice e))(hf:rP P 6 e=true)(hes:P.cellsOf e=es)
 (hval:Value.okWide P w r b0 t v) (hd:DataW.Trod enc P w 0 (fun _=>true) true t v d ps):(∃nss,nX w es v nss)/\∀x∈ps,x.block < w.heap.size:=by
 obtain⟨fuel,hx⟩:=hd
 refine⟨?_,DataW.trod_lt fuel t _ _ hx⟩
 obtain⟨a,len,cap,rfl⟩:=okWide_slice ht hval
 rcases Go.Deep.open_slice ht hx with⟨hc,_⟩ | ⟨a',len',cap',m,n,D,Pl,hc,hb,hl,hm,hmm,_,hall⟩
 ·simp only [Value.cells,List.cons.injEq,and_true] at hc
  exact⟨[],fun ns h=>by simp at h,by simp,.inl ⟨hc,rfl⟩⟩
 ·simp only [Value.cells,List.cons.injEq,and_true,Value.slice.injEq] at hc
  obtain⟨rfl,rfl,rfl⟩:=hc
  simp only [Value.okWide,ht,Cell.okWide,Cell.ok,World.has] at hval
  have hsp:a'.spot=none:=hval.2.2.2.1
  obtain⟨b,o,sp⟩:=a'
  simp only at hsp
  subst hsp
  simp only [if_true] at hmm
  obtain⟨N,hN⟩:=Go.Deep.choose_lt (α:=List Int) (p:=fun i ns=>ns.length=es/\∀(q:Nat) (x:Value),(ns.map (Value.int .i64))[q]? = some x->w.cell? ⟨b,o+i*es+q,none⟩=some x) (n:=len) (fun i hi=>by
   obtain⟨cs',h1,h2⟩:=hall i (by omega)
   obtain⟨_,ns,rfl⟩:=nB 6 e n cs' _ hf h2
   obtain⟨_,hlen,hcell⟩:=World.cells?_some h1
   rw [hes] at hlen hcell
   refine⟨ns,by simpa using hlen,fun q x hq=>?_⟩
   have hq':=(List.getElem?_eq_some_iff.1 hq).1
   have:=hcell q (by omega)
   rw [Go.Aw.add_eq,Go.Aw.add_eq] at this
   rw [this,hq])
  refine⟨(List.range len).map N,fun ns h=>?_,?_,.inr ⟨b,o,cap,?_,?_,?_⟩⟩
  ·obtain⟨i,hi,rfl⟩:=List.mem_map.1 h
   exact(hN i (by simpa using hi)).1
  ·have:maxLen=9223372036854775807:=rfl
   simp;omega
  ·simp
  ·simpa using hl
  ·refine sW (es:=es) _ o (fun j ns hj=>?_)
   have hjl:=(List.getElem?_eq_some_iff.1 hj).1
   simp only [List.length_map,List.length_range] at hjl
   have:N j=ns:=by simpa [hjl] using hj
   subst this
   exact hN j hjl
def rho (es:Nat):Value->Option (Nat×Nat×Nat)
 | .slice (some a) _ cap=>some (a.block,a.off,cap*es)
 | _=>none
theorem aNo {es:Nat} {v:Value} {nss:List (List Int)} {ρ:Env} {k:Nat} (h:nX w es v nss)(hk:ρ k=rho es v):Rel ρ (.s k 0 nss.length es) v:=by
 obtain⟨h1,h2,⟨rfl,rfl⟩ | ⟨b,o,cap,rfl,h3,h4⟩⟩:=h
 ·simp only [Rel];exact .inl ⟨hk,rfl,trivial⟩
 ·simp only [Rel];exact .inr ⟨b,o,cap*es,cap,0,none,hk,rfl,h3,by omega,fun _=>⟨rfl,rfl⟩⟩
theorem yD {es:Nat}:∀{nss:List (List Int)},(∀ns∈nss,ns.length=es)->nss.flatten.length=nss.length*es
 | [],_=>by simp
 | ns::l,h=>by
  rw [List.flatten_cons,List.length_append,yD (fun m hm=>h m (List.mem_cons_of_mem _ hm)),h ns List.mem_cons_self,List.length_cons,Nat.add_mul];omega
theorem aBg {es:Nat} {v:Value} {nss:List (List Int)} {ρ:Env} {k:Nat} {M:Nat->Prop} (h:nX w es v nss)(hk:ρ k=rho es v)(hM:∀b,M b->w.heap.size<=b):BRep ρ M w k (.live false true ((nss.flatten).map iv)):=by
 obtain⟨h1,h2,⟨rfl,rfl⟩ | ⟨b,o,cap,rfl,h3,h4⟩⟩:=h
 ·exact .inl ⟨hk,rfl⟩
 ·have hlen:=yD h1
  refine .inr ⟨b,o,cap*es,(nss.flatten).map (Value.int .i64),hk,⟨?_,fun hne hm=>?_⟩,aEx _,h4⟩
  ·rw [List.length_map,hlen];exact Nat.mul_le_mul_right _ h3
  ·have hb:=hM b hm
   obtain⟨x,hx⟩:=List.exists_mem_of_ne_nil _ hne
   obtain⟨i,hi⟩:=List.getElem?_of_mem hx
   have:=World.block_lt_of_cell? w ⟨b,o+i,none⟩ (h4 i x hi)
   exact absurd this (Nat.not_lt_of_le hb)
theorem aLs {α:Type} {c:α->List SV} {f:List Int->α} {es:Nat} (hc:∀ns:List Int,ns.length=es->c (f ns)=ns.map iv):∀{nss:List (List Int)},(∀ns∈nss,ns.length=es)->flat c (nss.map f)=(nss.flatten).map iv
 | [],_=>rfl
 | ns::l,h=>by
  have:=aLs hc (nss:=l) (fun m hm=>h m (List.mem_cons_of_mem _ hm))
  unfold flat at *
  rw [List.map_cons,List.flatMap_cons,this,hc ns (h ns List.mem_cons_self),List.flatten_cons,List.map_append]
end
theorem wI:∀ns:List Int,Plain (ns.map iv)
 | []=>fun k hk=>by simp [SV.hasl] at hk
 | n::l=>fun k hk=>by
  simp only [List.map_cons,SV.hasl] at hk
  rcases hk with hk | hk
  ·simp [iv,SV.has] at hk
  ·exact wI l k hk
theorem aBh {P:Program} {f:Nat} {args:List SV} {vs:List Value} {x:Value} {bs:List BK} (hc:Con P f args bs (.v x) []) (ρ:Env) {W:World} (hr:Rels ρ args vs)(hown:∀i,¬(bs.getD i .un).own)
 (hb:(∀b,(aZ ρ W bs).mine b->W.heap.size<=b)->∀i,BRep ρ (aZ ρ W bs).mine W i (bs.getD i .un)) (hpl:∀i,(bs.getD i .un).pl) (hnf:∀b,ρ.fz b=none) :
 Calls P f vs.toArray W fun e W'=>e=.returned x/\Below W.heap.size W W':=by
 have hM:∀b,(aZ ρ W bs).mine b->W.heap.size<=b:=by
  rintro b (h | ⟨i,n,hi,_⟩)
  ·exact h
  ·exact absurd hi (hown i)
 refine(hc.2 ρ W vs hr (hb hM) hpl (fun i j b n b' n' _ h=>absurd h (hown i)) (fun b o h=>by rw [hnf b] at h;cases h)).mono fun e W' h=>?_
 obtain⟨ρ',v,rfl,_,hv,hk,_⟩:=h
 refine⟨by rw [show v=x from hv],hk.os,hk.tape,hk.output,hk.size,fun k hk'=>hk.block k hk' ?_⟩
 rintro ⟨i,n,hi,_⟩
 exact hown i hi
def bB1 (e:Nat)(v:Value):Env:=⟨fun k=>if k=0 then rho e v else none,fun _=>none⟩
theorem aJo {P:Program} {f es0:Nat} {args:List SV} {vs:List Value} {x v0:Value} {nss0:List (List Int)} {W:World} (hc:Con P f args [.live false true ((nss0.flatten).map iv)] (.v x) [])
 (s0:nX W es0 v0 nss0) (hr:Rels (bB1 es0 v0) args vs):Calls P f vs.toArray W fun e W'=>e=.returned x/\Below W.heap.size W W':=by
 refine aBh hc _ hr (fun i=>?_) (fun hM i=>?_) (fun i=>?_) (fun _=>rfl)
 ·rcases i with _ | i<;>simp [BK.own]
 ·rcases i with _ | i
  ·exact aBg s0 rfl hM
  ·simp [BRep]
 ·rcases i with _ | i
  ·exact wI _
  ·simp [BK.pl]
end Go.Proofs.YtlckcjfbjnjfhaaGreat
namespace Go.Proofs.YtlckcjfbjnjfhaaGreat
open Go.Proofs Go.Aw Go.RowKit
set_option maxRecDepth 100000
theorem aHd {α:Type} {c:α->List SV} (hc:∀x,(c x).all SV.one=true) {l:List α}:(flat c l).all SV.one=true:=by
 rw [List.all_eq_true]
 intro x hx
 obtain⟨a,_,ha⟩:=List.mem_flatMap.1 hx
 exact List.all_eq_true.1 (hc a) x ha
theorem eV {α:Type} {c:α->List SV} {es:Nat} (hc:∀x,(c x).length=es)(l:List α):(flat c l).length=l.length*es:=pI hc l
def okw (v:Int×Int)(n:Nat):Prop:=(-4611686018427387904+1099511627776*n<=v.1/\v.1+1099511627776*n<=4611686018427387904)/\(-4611686018427387904+1099511627776*n<=v.2/\v.2+1099511627776*n<=4611686018427387904)
theorem aPy {v a:Int×Int} {n:Nat} (h:okw v (n+1))(ha:vs a):okw (v.1+a.1,v.2+a.2) n:=by unfold okw vs at *;simp only;omega
theorem aZw {v:Int×Int} {n:Nat} (h:okw v n):W v.1=v.1/\W v.2=v.2:=by unfold okw at h;exact⟨aH (by omega) (by omega),aH (by omega) (by omega)⟩
theorem aZx {n:Nat} (h:n<=10000):okw (0,0) n:=by unfold okw;simp only;omega
theorem aJp {R:Type} [Inhabited R] {S:Zt->Zt⊕R} {G:Int×Int->R} {L:List (Int×Int)} (hl:∀a∈L,vs a)
 (hS:∀(i:Nat) (a:Int×Int),L[i]? = some a->∀v1 v2:Int,S (v1,v2,(i:Int))=.inl (W (v1+a.1),W (v2+a.2),((i+1:Nat):Int)))
 (hE:∀v1 v2:Int,S (v1,v2,(L.length:Int))=.inr (G (v1,v2))) :
 ∀(l:List (Int×Int)) (i n:Nat) (v:Int×Int),L.drop i=l->i<=L.length->l.length < n->okw v l.length->aA S n (v.1,v.2,(i:Int))=G (mF l v):=by
 intro l
 induction l with
 | nil =>
  intro i n v hd hi' hn h
  have:i=L.length:=by have:=List.drop_eq_nil_iff.1 hd;omega
  obtain⟨n,rfl⟩:∃m,n=m+1:=⟨n - 1,by simp only [List.length_nil] at hn;omega⟩
  subst this
  rw [aG (hE _ _)];rfl
 | cons c l ih =>
  intro i n v hd hi' hn h
  have hc:L[i]? = some c:=by
   have:(L.drop i)[0]? = some c:=by rw [hd];rfl
   simpa using this
  obtain⟨hlt,hce⟩:=List.getElem?_eq_some_iff.1 hc
  obtain⟨n,rfl⟩:∃m,n=m+1:=⟨n - 1,by omega⟩
  have h1:okw (v.1+c.1,v.2+c.2) l.length:=aPy h (hl c (hce▸List.getElem_mem hlt))
  have hw:=aZw h1
  simp only at hw
  rw [aB (hS i c hc v.1 v.2),hw.1,hw.2]
  exact ih (i+1) n (v.1+c.1,v.2+c.2) (by rw [←List.drop_drop,hd];rfl) (by omega) (by simp only [List.length_cons] at hn;omega) h1
section
variable {l : List (Int × Int)}
theorem aWu {a:Int×Int} (h:vs a):vI a=true:=aHa (a:=a.1) (b:=a.2) h.1 h.2.1 h.2.2
theorem bB2 (hl:∀a∈l,vs a):xX l=0:=by
 have key:∀(m:List (Int×Int)) (i n:Nat),l.drop i=m->i<=l.length->m.length < n->aA (gX l) n (i:Int)=0:=by
  intro m
  induction m with
  | nil =>
   intro i n hd hi hn
   have:i=l.length:=by have:=List.drop_eq_nil_iff.1 hd;omega
   obtain⟨n,rfl⟩:∃m,n=m+1:=⟨n - 1,by simp only [List.length_nil] at hn;omega⟩
   subst this
   refine aG ?_
   simp only [gX]
   rw [cG (Int.lt_irrefl _),cond_false]
  | cons c m ih =>
   intro i n hd hi hn
   have hc:l[i]? = some c:=by
    have:(l.drop i)[0]? = some c:=by rw [hd];rfl
    simpa using this
   obtain⟨hlt,hce⟩:=List.getElem?_eq_some_iff.1 hc
   obtain⟨n,rfl⟩:∃m,n=m+1:=⟨n - 1,by omega⟩
   have hg:l.getD i dF=c:=by rw [cY,hc];rfl
   have e:gX l (i:Int)=.inl ((i+1:Nat):Int):=by
    simp only [gX]
    rw [bQ (show((i:Nat):Int) < (l.length:Nat) by omega),cond_true,fW,hg,aWu (hl c (hce▸List.getElem_mem hlt))];rfl
   rw [aB e]
   exact ih (i+1) n (by rw [←List.drop_drop,hd];rfl) (by omega) (by simp only [List.length_cons] at hn;omega)
 unfold xX
 exact key l 0 _ rfl (Nat.zero_le _) (by omega)
theorem aWv (hl:∀a∈l,vs a)(hn:l.length<=10000):fO l=((mF l (0,0)).1,(mF l (0,0)).2,0):=by
 unfold fO
 rw [cG (by omega),cond_false,bB2 hl]
 show aA _ _ (((0,0):Int×Int).1,((0,0):Int×Int).2,((0:Nat):Int))=_
 refine aJp (G:=fun v=>(v.1,v.2,0)) hl (fun i a hi v1 v2=>?_) (fun v1 v2=>?_) l 0 _ (0,0) rfl (Nat.zero_le _) (by omega) (aZx hn)
 ·obtain⟨hlt,hce⟩:=List.getElem?_eq_some_iff.1 hi
  have hg:l.getD i dF=a:=by rw [cY,hi];rfl
  simp only [jP]
  rw [bQ (show((i:Nat):Int) < (l.length:Nat) by omega),cond_true,fW,hg];rfl
 ·simp only [jP]
  rw [cG (Int.lt_irrefl _),cond_false]
noncomputable def aPz (l:List (Int×Int)):(Int×Int)×Int:=iV (mF l (0,0)).1 (mF l (0,0)).2
theorem aZy (hl:∀a∈l,vs a)(hn:l.length<=10000):iB l=aPz l:=by
 unfold iB
 rw [aWv hl hn];rfl
end
theorem aWw {l:List (Int×Int)} (h:(aPz l).2=0):aPz l=(mF l (0,0),0)/\vs (mF l (0,0)):=by
 unfold aPz at *
 rcases aDi (mF l (0,0)).1 (mF l (0,0)).2 with⟨h1,h2⟩ | h1
 ·exact⟨h1,h2⟩
 ·rw [h1] at h;exact absurd h (by decide)
theorem aP0 (l m:List (Int×Int)):mF (l++m) (0,0)=((mF l (0,0)).1+(mF m (0,0)).1,(mF l (0,0)).2+(mF m (0,0)).2):=by
 simp only [aLq,List.map_append,List.sum_append,Int.zero_add]
end Go.Proofs.YtlckcjfbjnjfhaaGreat
namespace Go.Proofs.YtlckcjfbjnjfhaaGreat
open Go.Proofs Go.Aw Go.RowKit
set_option maxRecDepth 100000
theorem jE {l:List (PN×Int)} (h:eI l=0):l.length<=96:=by
 rcases Nat.lt_or_ge 96 l.length with h' | h'
 ·exfalso
  unfold eI at h
  rw [bQ (by omega),cond_true] at h
  exact absurd h (by decide)
 ·exact h'
theorem bE {α:Type} {c:α->List SV} {es:Nat} (hc:∀x,(c x).length=es) {L:List α} {i o:Nat} {xs:List SV} {d y:α} (hi:i < L.length)(ho:o+xs.length<=es)(hy:c y=splice (c (L.getD i d)) o xs) :
 splice (flat c L) (0+i*es+o) xs=flat c (L.set i y):=by
 induction L generalizing i with
 | nil=>simp at hi
 | cons x L ih =>
  cases i with
  | zero =>
   have hy':c y=splice (c x) o xs:=hy
   have hx:=hc x
   simp only [flat,List.flatMap_cons,List.set_cons_zero,hy']
   unfold splice
   simp only [Nat.zero_mul,Nat.zero_add]
   rw [List.take_append_of_le_length (by omega),List.drop_append_of_le_length (by omega)]
   simp [List.append_assoc]
  | succ i =>
   have h:=ih (i:=i) (by simpa using hi) hy
   have hx:=hc x
   simp only [flat,List.flatMap_cons,List.set_cons_succ] at h ⊢
   rw [←h]
   unfold splice
   have e1:0+(i+1)*es+o=(c x).length+(0+i*es+o):=by rw [hx,Nat.add_mul];omega
   rw [e1,List.take_length_add_append,show(c x).length+(0+i*es+o)+xs.length=(c x).length+(0+i*es+o+xs.length) by omega,List.drop_length_add_append]
   simp [List.append_assoc]
theorem iD {α:Type} {c:α->List SV} {es:Nat} (hc:∀x,(c x).length=es) {L:List α} {i o n:Nat} (hi:i < L.length)(ho:o+n<=es):0+i*es+o+n<=(flat c L).length:=by
 rw [pI hc]
 have:=Nat.mul_le_mul_right es (show i+1<=L.length by omega)
 rw [Nat.add_mul] at this
 omega
theorem aWx (w i es x:Nat):0+w*es+i*es+x=0+(w+i)*es+x:=by rw [Nat.add_mul];omega
theorem wJ {α:Type} {c:α->List SV} {es:Nat} (hc:∀x,(c x).length=es) {L:List α} {w i o:Nat} {xs:List SV} {d y:α} (hi:w+i < L.length)(ho:o+xs.length<=es)(hy:c y=splice (c (L.getD (w+i) d)) o xs) :
 splice (flat c L) (0+w*es+i*es+o) xs=flat c (L.set (w+i) y):=by rw [aWx];exact bE hc hi ho hy
theorem aBi {α:Type} {c:α->List SV} {es:Nat} (hc:∀x,(c x).length=es) {L:List α} {w i o n:Nat} (hi:w+i < L.length)(ho:o+n<=es):0+w*es+i*es+o+n<=(flat c L).length:=by rw [aWx];exact iD hc hi ho
theorem ldw {α:Type} [Inhabited α] {c:α->List SV} {es:Nat} (hc:∀x,(c x).length=es)(l:List α)(w:Nat)(i:Int)(o n:Nat)(h:w+i.toNat < l.length)(ho:o+n<=es) :
 ((flat c l).drop (0+w*es+i.toNat*es+o)).take n=((c (l.getD (w+i.toNat) dF)).drop o).take n:=by
 rw [aWx]
 have:=aLd hc l ((w+i.toNat:Nat):Int) o n ⟨by omega,by omega⟩ ho
 rw [fW] at this
 exact this
def aNp {P:Program} {α:Type} [Inhabited α] {c:α->List SV} {es:Nat} (hc:∀x,(c x).length=es)(l:List α)(w:Nat)(i:Int)(o n:Nat)(h:w+i.toNat < l.length:=by first | omega | (simp only [Lt];omega)) (ho:o+n<=es:=by decide):St P :=
 St.l (l:=flat c l) (o:=0+w*es+i.toNat*es+o) (n:=n) (((c (l.getD (w+i.toNat) dF)).drop o).take n) (ldw hc l w i o n h ho)
def InR (n:Nat)(l:List Int):Prop:=∀x∈l,0<=x/\x < (n:Int)
theorem InR.at {n:Nat} {l:List Int} (h:InR n l) {i:Nat} (hi:i < l.length):0<=l.getD i dF/\l.getD i dF < (n:Int):=by
 rw [cY,List.getElem?_eq_getElem hi,Option.getD_some]
 exact h _ (List.getElem_mem hi)
theorem InR.set {n:Nat} {l:List Int} (h:InR n l) {i:Nat} {x:Int} (hx:0<=x/\x < (n:Int)):InR n (l.set i x):=fun y hy=>by
 rcases List.mem_or_eq_of_mem_set hy with hy | rfl
 ·exact h y hy
 ·exact hx
theorem InR.swap {n:Nat} {l:List Int} (h:InR n l) {i j p q:Nat} (hp:p < l.length)(hq:q < l.length):InR n ((l.set i (l.getD p dF)).set j (l.getD q dF)):=(h.set (h.at hp)).set (h.at hq)
def dO (x:Int×Int×Int×Int×Zt×Int):List SV:=[(iv x.1),(iv x.2.1),(iv x.2.2.1),(iv x.2.2.2.1),(iv x.2.2.2.2.1.1),(iv x.2.2.2.2.1.2.1),(iv x.2.2.2.2.1.2.2),(iv x.2.2.2.2.2)]
theorem cZ (x:Int×Int×Int×Int×Zt×Int):(dO x).length=8:=rfl
def gC (a0:bK×Int×List Int×bB)(a1:Int)(a2:Int):Int :=
 (bif ((a2:Int) == 0) then
  (W ((W ((a0.1.getD (tN a1) dF).1.1.1+(a0.1.getD (tN a1) dF).1.2.1.1))+(a0.1.getD (tN a1) dF).1.2.2.1))
 else
  (bif ((a2:Int) == 1) then
   (W ((W ((a0.1.getD (tN a1) dF).1.1.2.1+(a0.1.getD (tN a1) dF).1.2.1.2.1))+(a0.1.getD (tN a1) dF).1.2.2.2.1))
  else
   (W ((W ((a0.1.getD (tN a1) dF).1.1.2.2+(a0.1.getD (tN a1) dF).1.2.1.2.2))+(a0.1.getD (tN a1) dF).1.2.2.2.2))))
theorem aNq (a0:bK×Int×List Int×bB)(a1:Int)(a2:Int)(l0_1:a0.1.length<=2^63-1)(l0_2_2_1:a0.2.2.1.length<=2^63-1)(l0_2_2_2:a0.2.2.2.length<=2^63-1)(hi:0<=a1/\a1 < (a0.1.length:Int)):Con Tryz.prog 151 [(.p 0 0),(iv a1),(iv a2)] [(.live false false [(.s 1 0 a0.1.length 10),(iv a0.2.1),(.s 2 0 a0.2.2.1.length 1),(.s 3 0 a0.2.2.2.length 8)]),(.live false true (flat gB a0.1)),(.live false true (flat c3 a0.2.2.1)),(.live false true (flat dO a0.2.2.2))] (iv (gC a0 a1 a2)) []:=by
 refine aT Tryz.func151 (by kernel_rfl) fun cx hcx=>?_
 let t0:List (St Tryz.prog):=[.i a1 (a0.1.length),.L fS a0.1 a1 0 9]
 cases h0:((a2:Int) == 0) with
 | true =>
  have q0:=eq_of_beq h0
  have e:=Eq.refl (gC a0 a1 a2);conv at e=>rhs;simp only [gC,h0,aX]
  rw [e]
  exact rt (t0++[.d h0]) [] [] hcx (by kernel_rfl)
 | false =>
  have q0:=ne_of_beq_false h0
  let t1:List (St Tryz.prog):=(t0++[.d h0])
  cases h1:((a2:Int) == 1) with
  | true =>
   have q1:=eq_of_beq h1
   have e:=Eq.refl (gC a0 a1 a2);conv at e=>rhs;simp only [gC,h0,h1,aX]
   rw [e]
   exact rt (t1++[.d h1]) [] [] hcx (by kernel_rfl)
  | false =>
   have q1:=ne_of_beq_false h1
   have e:=Eq.refl (gC a0 a1 a2);conv at e=>rhs;simp only [gC,h0,h1,aX]
   rw [e]
   exact rt (t1++[.d h1]) [] [] hcx (by kernel_rfl)
def aBj (a0:Int):Bool :=
 ((a0:Int) != a0)
theorem aZz (a0:Int):Con Tryz.prog 192 [(iv a0)] [] (.v (.bool (aBj a0))) []:=by
 refine aT Tryz.func192 (by kernel_rfl) fun cx hcx=>?_
 have e:=Eq.refl (aBj a0);conv at e=>rhs;simp only [aBj]
 rw [e]
 exact rt [] [] [] hcx (by kernel_rfl)
def mG (a0:Int)(a1:Int):Int :=
 (bif (aBj a0) then
  (bif (aBj a1) then
   0
  else
   (-1))
 else
  (bif (aBj a1) then
   1
  else
   (bif (decide ((a0:Int) < a1)) then
    (-1)
   else
    (bif (decide ((a0:Int) > a1)) then
     1
    else
     0))))
theorem aZ0 (a0:Int)(a1:Int):Con Tryz.prog 153 [(iv a0),(iv a1)] [] (iv (mG a0 a1)) []:=by
 refine aT Tryz.func153 (by kernel_rfl) fun cx hcx=>?_
 let t0:List (St Tryz.prog):=[.c [] (aZz a0),.c [] (aZz a1)]
 cases h0:(aBj a0) with
 | true =>
  let t1:List (St Tryz.prog):=(t0++[.d h0])
  cases h1:(aBj a1) with
  | true =>
   have e:=Eq.refl (mG a0 a1);conv at e=>rhs;simp only [mG,h0,h1,aX]
   rw [e]
   exact rt (t1++[.d h1]) [] [] hcx (by kernel_rfl)
  | false =>
   have e:=Eq.refl (mG a0 a1);conv at e=>rhs;simp only [mG,h0,h1,aX]
   rw [e]
   exact rt (t1++[.d h1]) [] [] hcx (by kernel_rfl)
 | false =>
  let t1:List (St Tryz.prog):=(t0++[.d h0])
  cases h1:(aBj a1) with
  | true =>
   have e:=Eq.refl (mG a0 a1);conv at e=>rhs;simp only [mG,h0,h1,aX]
   rw [e]
   exact rt (t1++[.d h1]) [] [] hcx (by kernel_rfl)
  | false =>
   let t2:List (St Tryz.prog):=(t1++[.d h1])
   cases h2:(decide ((a0:Int) < a1)) with
   | true =>
    have q2:=dB h2
    have e:=Eq.refl (mG a0 a1);conv at e=>rhs;simp only [mG,h0,h1,h2,aX]
    rw [e]
    exact rt (t2++[.d h2]) [] [] hcx (by kernel_rfl)
   | false =>
    have q2:=eC h2
    let t3:List (St Tryz.prog):=(t2++[.d h2])
    cases h3:(decide ((a0:Int) > a1)) with
    | true =>
     have q3:=dB h3
     have e:=Eq.refl (mG a0 a1);conv at e=>rhs;simp only [mG,h0,h1,h2,h3,aX]
     rw [e]
     exact rt (t3++[.d h3]) [] [] hcx (by kernel_rfl)
    | false =>
     have q3:=eC h3
     have e:=Eq.refl (mG a0 a1);conv at e=>rhs;simp only [mG,h0,h1,h2,h3,aX]
     rw [e]
     exact rt (t3++[.d h3]) [] [] hcx (by kernel_rfl)
def mH (a0:(Int)×(Int)):Int :=
 (bif ((a0.1:Int) != 0) then
  a0.1
 else
  (bif ((a0.2:Int) != 0) then
   a0.2
  else
   0))
theorem aWy (a0:(Int)×(Int)):Con Tryz.prog 152 [(.s 0 0 2 1)] [(.live false false [(iv a0.1),(iv a0.2)])] (iv (mH a0)) []:=by
 refine aT Tryz.func152 (by kernel_rfl) fun cx hcx=>?_
 let t0:List (St Tryz.prog):=[.u 200,.T,.i 0 2 (by decide)]
 cases h0:((a0.1:Int) != 0) with
 | true =>
  have q0:=bne_iff_ne.1 h0
  have e:=Eq.refl (mH a0);conv at e=>rhs;simp only [mH,h0,aX]
  rw [e]
  exact rt (t0++[.d h0]) [] [] hcx (by kernel_rfl)
 | false =>
  have q0:=bne_eq_false_iff_eq.1 h0
  let t1:List (St Tryz.prog):=(t0++[.d h0,.u 0,.T,.i 1 2 (by decide)])
  cases h1:((a0.2:Int) != 0) with
  | true =>
   have q1:=bne_iff_ne.1 h1
   have e:=Eq.refl (mH a0);conv at e=>rhs;simp only [mH,h0,h1,aX]
   rw [e]
   exact rt (t1++[.d h1]) [] [] hcx (by kernel_rfl)
  | false =>
   have q1:=bne_eq_false_iff_eq.1 h1
   have e:=Eq.refl (mH a0);conv at e=>rhs;simp only [mH,h0,h1,aX]
   rw [e]
   exact rt (t1++[.d h1,.u 0,.F]) [] [] hcx (by kernel_rfl)
def aCu (a0:zP×Int)(a1:Int)(a2:Int):Int :=
 (mH ((mG (gC (a0.1.1,a0.1.2.1,(a0.1.2.2.1,a0.1.2.2.2)) a1 a0.2) (gC (a0.1.1,a0.1.2.1,(a0.1.2.2.1,a0.1.2.2.2)) a2 a0.2)),(mG a1 a2)))
theorem bB3 (a0:zP×Int)(a1:Int)(a2:Int)(l0_1_1:a0.1.1.length<=2^63-1)(l0_1_2_2_1:a0.1.2.2.1.length<=2^63-1)(l0_1_2_2_2:a0.1.2.2.2.length<=2^63-1)(hi:0<=a1/\a1 < (a0.1.1.length:Int))(hk:0<=a2/\a2 < (a0.1.1.length:Int)):Con Tryz.prog 104 [(.a [(.p 0 0),(iv a0.2)]),(iv a1),(iv a2)] [(.live false false [(.s 1 0 a0.1.1.length 10),(iv a0.1.2.1),(.s 2 0 a0.1.2.2.1.length 1),(.s 3 0 a0.1.2.2.2.length 8)]),(.live false true (flat gB a0.1.1)),(.live false true (flat c3 a0.1.2.2.1)),(.live false true (flat dO a0.1.2.2.2))] (iv (aCu a0 a1 a2)) []:=by
 refine aT Tryz.func104 (by kernel_rfl) fun cx hcx=>?_
 have e:=Eq.refl (aCu a0 a1 a2);conv at e=>rhs;simp only [aCu]
 rw [e]
 exact rt [.c [0,1,2,3] (aNq (a0.1.1,a0.1.2.1,(a0.1.2.2.1,a0.1.2.2.2)) a1 a0.2 (by(try simp only [Lt]);omega) (by(try simp only [Lt]);omega) (by(try simp only [Lt]);omega) (by first | exact hi | exact hk)),.c [0,1,2,3] (aNq (a0.1.1,a0.1.2.1,(a0.1.2.2.1,a0.1.2.2.2)) a2 a0.2 (by(try simp only [Lt]);omega) (by(try simp only [Lt]);omega) (by(try simp only [Lt]);omega) (by first | exact hi | exact hk)),.c [] (aZ0 (gC (a0.1.1,a0.1.2.1,(a0.1.2.2.1,a0.1.2.2.2)) a1 a0.2) (gC (a0.1.1,a0.1.2.1,(a0.1.2.2.1,a0.1.2.2.2)) a2 a0.2)),.c [] (aZ0 a1 a2),.c [5] (aWy ((mG (gC (a0.1.1,a0.1.2.1,(a0.1.2.2.1,a0.1.2.2.2)) a1 a0.2) (gC (a0.1.1,a0.1.2.1,(a0.1.2.2.1,a0.1.2.2.2)) a2 a0.2)),(mG a1 a2)))] [] [] hcx (by kernel_rfl)
noncomputable def mI:Code:=(aP [1,0,1,0,1] [0] (aN Tryz.f182) []).1
noncomputable def mJ (m0:Nat):List K:=(aP [1,0,1,0,1] [m0] (aN Tryz.f182) []).2
def lD (a0:List Int)(a0_o:Nat)(a0_n:Nat)(a1:Int)(a2:Int)(a3:zP×Int)(v5c:List SV)(v5n:Nat)(v6 v7:Int):LS:=⟨kG 53 [(0,(.s 0 (0+a0_o*1) a0_n 1)),(1,(iv a1)),(2,(iv a2)),(3,(.f 1000104 [(.a [(.p 1 0),(iv a3.2)])])),(8,(iv v6)),(9,(iv v7))],[(.live true true v5c),(.live false false [(.s 2 0 a3.1.1.length 10),(iv a3.1.2.1),(.s 0 0 v5n 1),(.s 3 0 a3.1.2.2.2.length 8)]),(.live false true (flat gB a3.1.1)),(.live false true (flat dO a3.1.2.2.2))]⟩
def bV (a0:List Int)(a0_o:Nat)(a0_n:Nat)(a1:Int)(a2:Int)(a3:zP×Int):List Int×Int×Int->(List Int×Int×Int)⊕((List Int×Int)⊕(List Int))
 | (v5,v6,v7) =>
  (bif (decide ((v7:Int) > a1)) then
   (bif (decide (((aCu ((a3.1.1,a3.1.2.1,(v5,a3.1.2.2.2)),a3.2) (v5.getD (a0_o+tN v7) dF) (v5.getD (a0_o+tN (W (v7 - 1))) dF)):Int) < 0)) then
    (.inl (((v5.set (a0_o+tN v7) (v5.getD (a0_o+tN (W (v7 - 1))) dF)).set (a0_o+tN (W (v7 - 1))) (v5.getD (a0_o+tN v7) dF)),v6,(W (v7 - 1))))
   else
    (.inr (.inl (v5,(v6+1)))))
  else
   (.inr (.inl (v5,(v6+1)))))
noncomputable def gO:Code:=(aP [1] [] (aN Tryz.f182) []).1
noncomputable def gP:List K:=(aP [1] [] (aN Tryz.f182) []).2
def gD (a0:List Int)(a0_o:Nat)(a0_n:Nat)(a1:Int)(a2:Int)(a3:zP×Int)(v3c:List SV)(v3n:Nat)(v4:Int):LS:=⟨kG 53 [(0,(.s 0 (0+a0_o*1) a0_n 1)),(1,(iv a1)),(2,(iv a2)),(3,(.f 1000104 [(.a [(.p 1 0),(iv a3.2)])])),(8,(iv v4))],[(.live true true v3c),(.live false false [(.s 2 0 a3.1.1.length 10),(iv a3.1.2.1),(.s 0 0 v3n 1),(.s 3 0 a3.1.2.2.2.length 8)]),(.live false true (flat gB a3.1.1)),(.live false true (flat dO a3.1.2.2.2))]⟩
def cL (a0:List Int)(a0_o:Nat)(a0_n:Nat)(a1:Int)(a2:Int)(a3:zP×Int):List Int×Int->(List Int×Int)⊕(List Int)
 | (v3,v4) =>
  (bif (decide ((v4:Int) < a2)) then
   (aA (bV a0 a0_o a0_n a1 a2 a3) (tN (v4 - a1)+1) (v3,v4,v4))
  else
   (.inr v3))
theorem aCv (a0:List Int)(a0_o:Nat)(a0_n:Nat)(a1:Int)(a2:Int)(a3:zP×Int)(l0:a0.length<=2^63-1)(l3_1_1:a3.1.1.length<=2^63-1)(l3_1_2_2_1:a3.1.2.2.1.length<=2^63-1)(l3_1_2_2_2:a3.1.2.2.2.length<=2^63-1)(hw:a0_o+a0_n<=a0.length/\a0.length<=1048576)(hr:InR a3.1.1.length a0)(hab:0<=a1/\a1<=a2/\a2<=↑a0_n) {cx:Cx} (hcx:cx.base=4)
 (n0:Nat) (g0:∀(v3:List Int) (v4:Int),(0<=v4)/\(v3.length=a0.length)/\(InR a3.1.1.length v3)/\(a1 < v4)/\(v4<=a2+1)->tN (a2 - v4) < n0->Aw.Good Tryz.prog none 9 (bodyPost Tryz.prog Tryz.f182 (RR cx (.t []) [] [(.live true true (flat c3 (aA (cL a0 a0_o a0_n a1 a2 a3) n0 (v3,v4)))),.un,.un,.un])) cx [] (.l gO n0::gP) (gD a0 a0_o a0_n a1 a2 a3 (flat c3 v3) v3.length v4)):∀(n:Nat) (v5:List Int) (v6 v7:Int),(v5.length=a0.length)/\(InR a3.1.1.length v5)/\(a1<=v7)/\(v7<=v6)/\(a1 < v6)/\(v6 < a2)/\((0<=v6))/\((v5.length=a0.length))/\((InR a3.1.1.length v5))/\((a1 < v6))/\((v6<=a2+1))/\(v6 < a2)/\(tN (a2 - v6) < n0+1)->tN (v7 - a1) < n->Aw.Good Tryz.prog none 9 (bodyPost Tryz.prog Tryz.f182 (RR cx (.t []) [] [(.live true true (flat c3 (bD (cL a0 a0_o a0_n a1 a2 a3) n0 (aA (bV a0 a0_o a0_n a1 a2 a3) n (v5,v6,v7))))),.un,.un,.un])) cx [] (.l mI n::mJ n0) (lD a0 a0_o a0_n a1 a2 a3 (flat c3 v5) v5.length v6 v7):=by
 intro n
 induction n with
 | zero=>intro v5 v6 v7 hi hn;exact absurd hn (fJ _)
 | succ n ih =>
  intro v5 v6 v7 hi hn
  refine aU ?_
  have hw_s9m1:=aH (n:=v7 - 1) (by omega) (by omega)
  cases h0:(decide ((v7:Int) > a1)) with
  | true =>
   have q0:=dB h0
   let t1:List (St Tryz.prog):=[.d h0,.i v7 a0_n,aNp aW v5 a0_o v7 0 1,.i (W (v7 - 1)) a0_n,aNp aW v5 a0_o (W (v7 - 1)) 0 1,.c [1,2,0,3] (bB3 ((a3.1.1,a3.1.2.1,(v5,a3.1.2.2.2)),a3.2) (v5.getD (a0_o+tN v7) dF) (v5.getD (a0_o+tN (W (v7 - 1))) dF) (by(try simp only [Lt]);omega) (by(try simp only [Lt]);omega) (by(try simp only [Lt]);omega) (hi.2.1.at (by omega)) (hi.2.1.at (by omega)))]
   cases h1:(decide (((aCu ((a3.1.1,a3.1.2.1,(v5,a3.1.2.2.2)),a3.2) (v5.getD (a0_o+tN v7) dF) (v5.getD (a0_o+tN (W (v7 - 1))) dF)):Int) < 0)) with
   | true =>
    have q1:=dB h1
    have e:=Eq.refl (bV a0 a0_o a0_n a1 a2 a3 (v5,v6,v7));conv at e=>rhs;simp only [bV,h0,h1,aX]
    rw [aB e]
    refine ba (t1++[.d h1,.i (W (v7 - 1)) a0_n,aNp aW v5 a0_o (W (v7 - 1)) 0 1,.i v7 a0_n,aNp aW v5 a0_o v7 0 1,.i v7 a0_n,.p (show((0+a0_o*1+tN v7*1)+1<=(flat c3 v5).length) from(aBi aW (by first | omega | (simp only [Lt];omega)) (o:=0) (Nb rfl))),.i (W (v7 - 1)) a0_n,.p (show((0+a0_o*1+tN (W (v7 - 1))*1)+1<=(splice (flat c3 v5) (0+a0_o*1+tN v7*1) [(iv (v5.getD (a0_o+tN (W (v7 - 1))) dF))]).length) from(by rw [show(splice (flat c3 v5) (0+a0_o*1+tN v7*1) [(iv (v5.getD (a0_o+tN (W (v7 - 1))) dF))])=flat c3 (v5.set (a0_o+tN v7) (v5.getD (a0_o+tN (W (v7 - 1))) dF)) from(wJ aW (by first | omega | (simp only [Lt];omega)) (o:=0) (d:=dF) (Nb rfl) rfl)];exact aBi aW (by first | omega | (simp only [Lt];omega)) (o:=0) (Nb rfl)))]) [] [0,1,2,3,8,9] [] hcx (m:=n) mI (mJ n0) (lD a0 a0_o a0_n a1 a2 a3 (splice (splice (flat c3 v5) (0+a0_o*1+tN v7*1) [(iv (v5.getD (a0_o+tN (W (v7 - 1))) dF))]) (0+a0_o*1+tN (W (v7 - 1))*1) [(iv (v5.getD (a0_o+tN v7) dF))]) (v5.length) v6 (W (v7 - 1))) (by kernel_rfl) ?_
    have z0:(splice (splice (flat c3 v5) (0+a0_o*1+tN v7*1) [(iv (v5.getD (a0_o+tN (W (v7 - 1))) dF))]) (0+a0_o*1+tN (W (v7 - 1))*1) [(iv (v5.getD (a0_o+tN v7) dF))])=flat c3 ((v5.set (a0_o+tN v7) (v5.getD (a0_o+tN (W (v7 - 1))) dF)).set (a0_o+tN (W (v7 - 1))) (v5.getD (a0_o+tN v7) dF)):=(by rw [show(splice (flat c3 v5) (0+a0_o*1+tN v7*1) [(iv (v5.getD (a0_o+tN (W (v7 - 1))) dF))])=flat c3 (v5.set (a0_o+tN v7) (v5.getD (a0_o+tN (W (v7 - 1))) dF)) from(wJ aW (by first | omega | (simp only [Lt];omega)) (o:=0) (d:=dF) (Nb rfl) rfl)];exact wJ aW (by first | omega | (simp only [Lt];omega)) (o:=0) (d:=dF) (Nb rfl) rfl)
    have z1:v5.length=((v5.set (a0_o+tN v7) (v5.getD (a0_o+tN (W (v7 - 1))) dF)).set (a0_o+tN (W (v7 - 1))) (v5.getD (a0_o+tN v7) dF)).length:=by simp
    rw [z0,z1]
    exact ih ((v5.set (a0_o+tN v7) (v5.getD (a0_o+tN (W (v7 - 1))) dF)).set (a0_o+tN (W (v7 - 1))) (v5.getD (a0_o+tN v7) dF)) v6 (W (v7 - 1)) (by refine⟨?_,?_,?_,?_,?_,?_,?_,?_,?_,?_,?_,?_,?_⟩<;>first | omega | assumption | exact hi.2.1 | exact hi.2.2.1 | (simp only [Lt];omega) | exact InR.swap hi.2.1 (by omega) (by omega)) (by(try simp only [Ls]);omega)
   | false =>
    have q1:=eC h1
    have e:=Eq.refl (bV a0 a0_o a0_n a1 a2 a3 (v5,v6,v7));conv at e=>rhs;simp only [bV,h0,h1,aX]
    rw [aQ,e]
    refine ba (t1++[.d h1]) [] [0,1,2,3,8] [] hcx (m:=n0) gO (gP) (gD a0 a0_o a0_n a1 a2 a3 (flat c3 v5) (v5.length) (W (v6+1))) (by kernel_rfl) ?_
    have z0:(W (v6+1))=(v6+1):=aH (by omega) (by omega)
    rw [z0]
    exact g0 v5 (v6+1) (by refine⟨?_,?_,?_,?_⟩<;>first | omega | assumption | exact hi.2.1 | exact hi.2.2.1 | (simp only [Lt];omega) | exact InR.swap hi.2.1 (by omega) (by omega)) (by(try simp only [Ls]);omega)
  | false =>
   have q0:=eC h0
   have e:=Eq.refl (bV a0 a0_o a0_n a1 a2 a3 (v5,v6,v7));conv at e=>rhs;simp only [bV,h0,aX]
   rw [aQ,e]
   refine ba [.d h0] [] [0,1,2,3,8] [] hcx (m:=n0) gO (gP) (gD a0 a0_o a0_n a1 a2 a3 (flat c3 v5) (v5.length) (W (v6+1))) (by kernel_rfl) ?_
   have z0:(W (v6+1))=(v6+1):=aH (by omega) (by omega)
   rw [z0]
   exact g0 v5 (v6+1) (by refine⟨?_,?_,?_,?_⟩<;>first | omega | assumption | exact hi.2.1 | exact hi.2.2.1 | (simp only [Lt];omega) | exact InR.swap hi.2.1 (by omega) (by omega)) (by(try simp only [Ls]);omega)
theorem aCw (a0:List Int)(a0_o:Nat)(a0_n:Nat)(a1:Int)(a2:Int)(a3:zP×Int)(l0:a0.length<=2^63-1)(l3_1_1:a3.1.1.length<=2^63-1)(l3_1_2_2_1:a3.1.2.2.1.length<=2^63-1)(l3_1_2_2_2:a3.1.2.2.2.length<=2^63-1)(hw:a0_o+a0_n<=a0.length/\a0.length<=1048576)(hr:InR a3.1.1.length a0)(hab:0<=a1/\a1<=a2/\a2<=↑a0_n) {cx:Cx} (hcx:cx.base=4):∀(n:Nat) (v3:List Int) (v4:Int),(0<=v4)/\(v3.length=a0.length)/\(InR a3.1.1.length v3)/\(a1 < v4)/\(v4<=a2+1)->tN (a2 - v4) < n->Aw.Good Tryz.prog none 9 (bodyPost Tryz.prog Tryz.f182 (RR cx (.t []) [] [(.live true true (flat c3 (aA (cL a0 a0_o a0_n a1 a2 a3) n (v3,v4)))),.un,.un,.un])) cx [] (.l gO n::gP) (gD a0 a0_o a0_n a1 a2 a3 (flat c3 v3) v3.length v4):=by
 intro n
 induction n with
 | zero=>intro v3 v4 hi hn;exact absurd hn (fJ _)
 | succ n ih =>
  intro v3 v4 hi hn
  refine aU ?_
  have hw_s8p1:=aH (n:=v4+1) (by omega) (by omega)
  cases h0:(decide ((v4:Int) < a2)) with
  | true =>
   have q0:=dB h0
   have e:=Eq.refl (cL a0 a0_o a0_n a1 a2 a3 (v3,v4));conv at e=>rhs;simp only [cL,h0,aX]
   rw [aQ,e]
   refine en [.d h0] [] [0,1,2,3,8,9] [] hcx mI (mJ n) (lD a0 a0_o a0_n a1 a2 a3 (flat c3 v3) (v3.length) v4 v4) (tN (v4 - a1)+1) (by kernel_rfl) ?_
   exact aCv a0 a0_o a0_n a1 a2 a3 l0 l3_1_1 l3_1_2_2_1 l3_1_2_2_2 hw hr hab hcx n ih (tN (v4 - a1)+1) v3 v4 v4 (by refine⟨?_,?_,?_,?_,?_,?_,?_,?_,?_,?_,?_,?_,?_⟩<;>first | omega | assumption | exact hi.2.1 | exact hi.2.2.1 | (simp only [Lt];omega) | exact InR.swap hi.2.1 (by omega) (by omega)) (by(try simp only [Ls]);omega)
  | false =>
   have q0:=eC h0
   have e:=Eq.refl (cL a0 a0_o a0_n a1 a2 a3 (v3,v4));conv at e=>rhs;simp only [cL,h0,aX]
   rw [aQ,e]
   try dsimp only [bD]
   try dsimp only
   exact rtn [.d h0] [] [0] [] hcx (by kernel_rfl)
def dW (a0:List Int)(a0_o:Nat)(a0_n:Nat)(a1:Int)(a2:Int)(a3:zP×Int):List Int :=
 (aA (cL a0 a0_o a0_n a1 a2 a3) (tN (a2 - (W (a1+1)))+1) (a0,(W (a1+1))))
theorem aHe (a0:List Int)(a0_o:Nat)(a0_n:Nat)(a1:Int)(a2:Int)(a3:zP×Int)(l0:a0.length<=2^63-1)(l3_1_1:a3.1.1.length<=2^63-1)(l3_1_2_2_1:a3.1.2.2.1.length<=2^63-1)(l3_1_2_2_2:a3.1.2.2.2.length<=2^63-1)(hw:a0_o+a0_n<=a0.length/\a0.length<=1048576)(hr:InR a3.1.1.length a0)(hab:0<=a1/\a1<=a2/\a2<=↑a0_n):Con Tryz.prog 182 [(.s 0 (0+a0_o*1) a0_n 1),(iv a1),(iv a2),(.f 1000104 [(.a [(.p 1 0),(iv a3.2)])])] [(.live true true (flat c3 a0)),(.live false false [(.s 2 0 a3.1.1.length 10),(iv a3.1.2.1),(.s 0 0 a0.length 1),(.s 3 0 a3.1.2.2.2.length 8)]),(.live false true (flat gB a3.1.1)),(.live false true (flat dO a3.1.2.2.2))] (.t []) [] [(.live true true (flat c3 (dW a0 a0_o a0_n a1 a2 a3))),.un,.un,.un]:=by
 refine aT Tryz.func182 (by kernel_rfl) fun cx hcx=>?_
 have hw_a:=aH (n:=a1+1) (by omega) (by omega)
 have e:=Eq.refl (dW a0 a0_o a0_n a1 a2 a3);conv at e=>rhs;simp only [dW]
 rw [e]
 refine en [] [] [0,1,2,3,8] [] hcx gO (gP) (gD a0 a0_o a0_n a1 a2 a3 (flat c3 a0) (a0.length) (W (a1+1))) (tN (a2 - (W (a1+1)))+1) (by kernel_rfl) ?_
 exact aCw a0 a0_o a0_n a1 a2 a3 l0 l3_1_1 l3_1_2_2_1 l3_1_2_2_2 hw hr hab hcx (tN (a2 - (W (a1+1)))+1) a0 (W (a1+1)) (by refine⟨?_,?_,?_,?_⟩<;>first | omega | assumption | exact hi.2.1 | exact hi.2.2.1 | (simp only [Lt];omega) | exact InR.swap hi.2.1 (by omega) (by omega)) (by(try simp only [Ls]);omega)
def yE:Go.Shelf.Ren:=⟨fun | 15=>150 | 28=>190 | 29=>191 | n=>n,fun | 39=>126 | 3=>3 | 53=>187 | 55=>173 | 4=>4 | 5=>5 | 9=>9 | n=>n,fun | n=>n⟩
theorem aSx:Go.Proofs.SlLaysF0.n15 Tryz.prog yE:={
 mixed:=by kernel_rfl
 f15:=Tryz.func150.trans (congrArg some (by kernel_rfl))
 f28:=Tryz.func190.trans (congrArg some (by kernel_rfl))
 f29:=Tryz.func191.trans (congrArg some (by kernel_rfl))
 t3:=Tryz.underlying3
 a3:=Tryz.isAgg3
 z3:=Tryz.sizeOf3
 v3:=Tryz.zeroValue3
 t4:=Tryz.underlying4
 a4:=Tryz.isAgg4
 z4:=Tryz.sizeOf4
 v4:=Tryz.zeroValue4
 t5:=Tryz.underlying5
 a5:=Tryz.isAgg5
 z5:=Tryz.sizeOf5
 v5:=Tryz.zeroValue5
 t9:=Tryz.underlying9
 a9:=Tryz.isAgg9
 z9:=Tryz.sizeOf9
 v9:=Tryz.zeroValue9
 t39:=Tryz.underlying126
 a39:=Tryz.isAgg126
 z39:=Tryz.sizeOf126
 v39:=Tryz.zeroValue126
 t53:=Tryz.underlying187
 a53:=Tryz.isAgg187
 z53:=Tryz.sizeOf187
 v53:=Tryz.zeroValue187
 t55:=Tryz.underlying173
 a55:=Tryz.isAgg173
 z55:=Tryz.sizeOf173
 v55:=Tryz.zeroValue173 }
def aSy (n:Int):Int:=(Lib.bitLen n.toNat:Nat)
theorem bB4 (a0:Int)(hn:0<=a0/\a0<=18446744073709551615):Con Tryz.prog 150 [.v (.int .u64 a0)] [] (iv (aSy a0)) []:=by
 refine⟨ent Tryz.func150 (by kernel_rfl) rfl,fun ρ W vs hr hb hpl hap hfz=>?_⟩
 match vs,hr with
 | [],hr=>simp [Rels] at hr
 | _::_::_,hr=>simp [Rels] at hr
 | [v1],hr =>
 simp only [Rels,and_true,Rel] at hr
 subst hr
 have h:=Any.bits_Len (SlLaysF0.n15.bits (ρ:=yE) aSx) a0 W hn.1 hn.2
 refine h.mono fun e w' ⟨he,hw⟩=>?_
 subst hw
 have un1:∀m j,cA m ([]:List BK) [] j=.un:=fun m j=>by unfold cA;simp
 exact⟨ρ,_,he,fun _ _=>rfl,by simp only [iv,Rel];rfl,Kept.refl _ _,fun j=>by rw [un1];trivial,fun j=>by rw [un1];trivial,fun i j b n b' n' _ o1=>by rw [un1] at o1;exact o1.elim,ρ.le_refl,fun b o hb=>⟨(hfz b o hb).1,fun j m o1=>by rw [un1] at o1;exact o1.elim,.inl hb⟩⟩
noncomputable def rR:Code:=(aP [1,1] [] (aN Tryz.f149) []).1
noncomputable def rS:List K:=(aP [1,1] [] (aN Tryz.f149) []).2
def pS (a0:List Int)(a0_o:Nat)(a0_n:Nat)(a1:Int)(a2:Int)(a3:Int)(a4:zP×Int):LS:=⟨kG 148 [(0,(.s 0 (0+a0_o*1) a0_n 1)),(1,(iv a1)),(2,(iv a2)),(3,(iv a3)),(4,(.f 1000104 [(.a [(.p 1 0),(iv a4.2)])])),(10,(.v (.bool true))),(11,(.v (.bool true)))],[(.live true true (flat c3 a0)),(.live false false [(.s 2 0 a4.1.1.length 10),(iv a4.1.2.1),(.s 0 0 a0.length 1),(.s 3 0 a4.1.2.2.2.length 8)]),(.live false true (flat gB a4.1.1)),(.live false true (flat dO a4.1.2.2.2))]⟩
def gQ (a0:List Int)(a0_o:Nat)(a0_n:Nat)(a1:Int)(a2:Int)(a3:Int)(a4:zP×Int):Unit->(Unit)⊕(List Int)
 | () =>
  (bif (decide (((W (a2 - a1)):Int)<=12)) then
   (.inr (dW a0 a0_o a0_n a1 a2 ((a4.1.1,a4.1.2.1,(a0,a4.1.2.2.2)),a4.2)))
  else
   (.inr dF))
theorem aCx (a0:List Int)(a0_o:Nat)(a0_n:Nat)(a1:Int)(a2:Int)(a3:Int)(a4:zP×Int)(l0:a0.length<=2^63-1)(l4_1_1:a4.1.1.length<=2^63-1)(l4_1_2_2_1:a4.1.2.2.1.length<=2^63-1)(l4_1_2_2_2:a4.1.2.2.2.length<=2^63-1)(hw:a0_o+a0_n<=a0.length/\a0.length<=1048576)(hr:InR a4.1.1.length a0)(hab:0<=a1/\a1<=a2/\a2<=↑a0_n)(h12:a2 - a1<=12) {cx:Cx} (hcx:cx.base=4):∀(n:Nat),True->0 < n->Aw.Good Tryz.prog none 9 (bodyPost Tryz.prog Tryz.f149 (RR cx (.t []) [] [(.live true true (flat c3 (aA (gQ a0 a0_o a0_n a1 a2 a3 a4) n ()))),.un,.un,.un])) cx [] (.l rR n::rS) (pS a0 a0_o a0_n a1 a2 a3 a4):=by
 intro n
 induction n with
 | zero=>intro hi hn;exact absurd hn (fJ _)
 | succ n ih =>
  intro hi hn
  refine aU ?_
  cases h0:(decide (((W (a2 - a1)):Int)<=12)) with
  | true =>
   have q0:=dB h0
   have e:=Eq.refl (gQ a0 a0_o a0_n a1 a2 a3 a4 ());conv at e=>rhs;simp only [gQ,h0,aX]
   rw [aQ,e]
   try dsimp only [bD]
   try dsimp only
   try rw [show List.length (α:=Int) (dW a0 a0_o a0_n a1 a2 ((a4.1.1,a4.1.2.1,(a0,a4.1.2.2.2)),a4.2))=a0.length from by first | simp;done | omega]
   exact rtm [.d h0,.c [0,1,2,3] (aHe a0 a0_o a0_n a1 a2 ((a4.1.1,a4.1.2.1,(a0,a4.1.2.2.2)),a4.2) (by(try simp only [Lt]);omega) (by(try simp only [Lt]);omega) (by(try simp only [Lt]);omega) (by(try simp only [Lt]);omega) hw hr hab)] [] [0] [] hcx (by kernel_rfl)
  | false =>
   have q0:=eC h0
   exfalso;have hw_l:=aH (n:=a2 - a1) (by omega) (by omega);omega
def iE (a0:List Int)(a0_o:Nat)(a0_n:Nat)(a1:Int)(a2:Int)(a3:Int)(a4:zP×Int):List Int :=
 (aA (gQ a0 a0_o a0_n a1 a2 a3 a4) (0+1) ())
theorem aHf (a0:List Int)(a0_o:Nat)(a0_n:Nat)(a1:Int)(a2:Int)(a3:Int)(a4:zP×Int)(l0:a0.length<=2^63-1)(l4_1_1:a4.1.1.length<=2^63-1)(l4_1_2_2_1:a4.1.2.2.1.length<=2^63-1)(l4_1_2_2_2:a4.1.2.2.2.length<=2^63-1)(hw:a0_o+a0_n<=a0.length/\a0.length<=1048576)(hr:InR a4.1.1.length a0)(hab:0<=a1/\a1<=a2/\a2<=↑a0_n)(h12:a2 - a1<=12):Con Tryz.prog 149 [(.s 0 (0+a0_o*1) a0_n 1),(iv a1),(iv a2),(iv a3),(.f 1000104 [(.a [(.p 1 0),(iv a4.2)])])] [(.live true true (flat c3 a0)),(.live false false [(.s 2 0 a4.1.1.length 10),(iv a4.1.2.1),(.s 0 0 a0.length 1),(.s 3 0 a4.1.2.2.2.length 8)]),(.live false true (flat gB a4.1.1)),(.live false true (flat dO a4.1.2.2.2))] (.t []) [] [(.live true true (flat c3 (iE a0 a0_o a0_n a1 a2 a3 a4))),.un,.un,.un]:=by
 refine aT Tryz.func149 (by kernel_rfl) fun cx hcx=>?_
 have e:=Eq.refl (iE a0 a0_o a0_n a1 a2 a3 a4);conv at e=>rhs;simp only [iE]
 rw [e]
 refine en [] [] [0,1,2,3,4,10,11] [] hcx rR (rS) (pS a0 a0_o a0_n a1 a2 a3 a4) (0+1) (by kernel_rfl) ?_
 exact aCx a0 a0_o a0_n a1 a2 a3 a4 l0 l4_1_1 l4_1_2_2_1 l4_1_2_2_2 hw hr hab h12 hcx (0+1) trivial (by(try simp only [Ls]);omega)
def eJ (a0:List Int)(a0_o:Nat)(a0_n:Nat)(a1:zP×Int):List Int :=
 (iE a0 a0_o a0_n 0 ((a0_n:Nat):Int) (aSy (IntKind.wrap .u64 ((a0_n:Nat):Int))) ((a1.1.1,a1.1.2.1,(a0,a1.1.2.2.2)),a1.2))
theorem aHg (a0:List Int)(a0_o:Nat)(a0_n:Nat)(a1:zP×Int)(l0:a0.length<=2^63-1)(l1_1_1:a1.1.1.length<=2^63-1)(l1_1_2_2_1:a1.1.2.2.1.length<=2^63-1)(l1_1_2_2_2:a1.1.2.2.2.length<=2^63-1)(hw:a0_o+a0_n<=a0.length/\a0.length<=1048576)(hr:InR a1.1.1.length a0)(h12:a0_n<=12):Con Tryz.prog 102 [(.s 0 (0+a0_o*1) a0_n 1),(.f 1000104 [(.a [(.p 1 0),(iv a1.2)])])] [(.live true true (flat c3 a0)),(.live false false [(.s 2 0 a1.1.1.length 10),(iv a1.1.2.1),(.s 0 0 a0.length 1),(.s 3 0 a1.1.2.2.2.length 8)]),(.live false true (flat gB a1.1.1)),(.live false true (flat dO a1.1.2.2.2))] (.t []) [] [(.live true true (flat c3 (eJ a0 a0_o a0_n a1))),.un,.un,.un]:=by
 refine aT Tryz.func102 (by kernel_rfl) fun cx hcx=>?_
 have e:=Eq.refl (eJ a0 a0_o a0_n a1);conv at e=>rhs;simp only [eJ]
 rw [e]
 try dsimp only [bD]
 try dsimp only
 try rw [show List.length (α:=Int) (iE a0 a0_o a0_n 0 ((a0_n:Nat):Int) (aSy (IntKind.wrap .u64 ((a0_n:Nat):Int))) ((a1.1.1,a1.1.2.1,(a0,a1.1.2.2.2)),a1.2))=a0.length from by first | simp;done | omega]
 exact rtn [.c [] (bB4 (IntKind.wrap .u64 ((a0_n:Nat):Int))  (by rw [IntKind.wrap_u64];omega)),.c [0,1,2,3] (aHf a0 a0_o a0_n 0 ((a0_n:Nat):Int) (aSy (IntKind.wrap .u64 ((a0_n:Nat):Int))) ((a1.1.1,a1.1.2.1,(a0,a1.1.2.2.2)),a1.2) (by(try simp only [Lt]);omega) (by(try simp only [Lt]);omega) (by(try simp only [Lt]);omega) (by(try simp only [Lt]);omega) hw hr (by omega) (by omega))] [] [0] [] hcx (by kernel_rfl)
abbrev SBC:=zP×Int
def vJ (c:SBC)(x y:Int):Bool:=decide (aCu c x y < 0)
theorem aSz (c:SBC)(v:List Int)(x y:Int):aCu ((c.1.1,c.1.2.1,(v,c.1.2.2.2)),c.2) x y=aCu c x y:=rfl
theorem aS0 (c:SBC)(x y:Int):decide (aCu c x y < 0)=vJ c x y:=rfl
def wp (l:List Int)(o:Nat)(d:Array Int):List Int:=l.take o++d.toList++l.drop (o+d.size)
def rH (l:List Int)(o n:Nat):Array Int:=((l.drop o).take n).toArray
theorem kQ {l:List Int} {o n:Nat} (h:o+n<=l.length):(rH l o n).size=n:=by unfold rH;simp;omega
section
variable {l : List Int} {o : Nat} {d : Array Int}
theorem aP1 (h:o+d.size<=l.length):(wp l o d).length=l.length:=by unfold wp;simp;omega
theorem wK (h:o+d.size<=l.length) {i:Nat} (hi:i < d.size):(wp l o d).getD (o+i) dF=d[i]! := by
 unfold wp
 have h1:(l.take o++d.toList).length=o+d.size:=by simp;omega
 rw [cY,List.getElem?_append_left (by omega),List.getElem?_append_right (by simp;omega)]
 rw [show o+i - (l.take o).length=i by simp;omega]
 rw [getElem!_pos d i hi]
 simp [hi]
theorem aP2 (h:o+d.size<=l.length) {i:Nat} (hi:i < d.size)(x:Int):(wp l o d).set (o+i) x=wp l o (d.setIfInBounds i x):=by
 unfold wp
 have h0:(l.take o).length=o:=by simp;omega
 rw [List.append_assoc,List.set_append_right _ _ (by omega),h0,show o+i - o=i by omega,List.set_append_left _ _ (by simpa using hi),List.append_assoc,Array.toList_setIfInBounds,Array.size_setIfInBounds]
theorem aP3 (h:o+d.size<=l.length) {i j:Nat} (hi:i < d.size)(hj:j < d.size) :
 ((wp l o d).set (o+i) ((wp l o d).getD (o+j) dF)).set (o+j) ((wp l o d).getD (o+i) dF)=wp l o (Go.Sort.swp d i j):=by
 rw [wK h hi,wK h hj,aP2 h hi,aP2 (by simpa using h) (by simpa using hj)]
 rfl
theorem aJq {n:Nat} (h:o+n<=l.length):wp l o (rH l o n)=l:=by
 unfold wp
 rw [kQ h]
 unfold rH
 have:(l.drop o).drop n=l.drop (o+n):=by rw [List.drop_drop]
 rw [←this,List.append_assoc]
 show l.take o++((l.drop o).take n++(l.drop o).drop n)=l
 rw [List.take_append_drop,List.take_append_drop]
theorem aHh (d:Array Int)(i j:Nat):(Go.Sort.swp d i j).size=d.size:=by simp [Go.Sort.swp]
theorem wN {x:Int} {n:Nat} (h:x=(n:Int))(hn:n<=4611686018427387904):W x=(n:Int):=by rw [h];exact aH (by omega) (by omega)
end
section
variable {o n : Nat} {l l0 : List Int} {c : SBC}
theorem mK (lt:Int->Int->Bool)(a:Nat):∀(j:Nat) (d:Array Int),(Go.Sort.insInner lt a j d).size=d.size
 | 0,d=>rfl
 | j+1,d=>by
  rw [Go.Sort.insInner]
  split
  ·rw [mK lt a j,aHh]
  ·rfl
theorem aLt (hl:o+n<=l.length)(hn:n<=1048576) {a:Nat} {a2:Int}:∀(m:Nat) (d:Array Int) (j:Nat) (w:Int),d.size=n->j < n->j - a < m ->
 aA (bV l0 o n (a:Int) a2 c) m (wp l o d,w,(j:Int))=.inl (wp l o (Go.Sort.insInner (vJ c) a j d),w+1)
 | 0,_,_,_,_,_,h=>absurd h (fJ _)
 | m+1,d,0,w,hd,hj,hm=>by
  refine aG ?_
  simp only [bV]
  rw [cG (by omega),cond_false];rfl
 | m+1,d,j+1,w,hd,hj,hm=>by
  have hl':o+d.size<=l.length:=by omega
  have e1:W (((j+1:Nat):Int) - 1)=((j:Nat):Int):=wN (by omega) (by omega)
  rw [Go.Sort.insInner]
  by_cases h1:j+1 > a
  ·have e:bV l0 o n (a:Int) a2 c (wp l o d,w,((j+1:Nat):Int))=bif vJ c d[j+1]! d[j]! then .inl (wp l o (Go.Sort.swp d (j+1) j),w,(j:Int)) else .inr (.inl (wp l o d,w+1)):=by
    simp only [bV,e1,fW,aSz,aS0]
    rw [bQ (by omega),cond_true,aP3 hl' (i:=j+1) (j:=j) (by omega) (by omega),wK hl' (i:=j+1) (by omega),wK hl' (i:=j) (by omega)]
   rw [bQ h1,Bool.true_and]
   cases q:vJ c d[j+1]! d[j]! with
   | true =>
    rw [q,cond_true] at e
    rw [aB e]
    exact aLt hl hn m _ j w (by rw [aHh];exact hd) (by omega) (by omega)
   | false=>rw [q,cond_false] at e;exact aG e
  ·rw [cG h1,Bool.false_and]
   refine aG ?_
   simp only [bV]
   rw [cG (by omega),cond_false];rfl
theorem aLu (hl:o+n<=l.length)(hn:n<=1048576) {a b:Nat} (hb:b<=n):∀(m:Nat) (d:Array Int) (i:Nat),d.size=n->b - i < m ->
 aA (cL l0 o n (a:Int) (b:Int) c) m (wp l o d,(i:Int))=wp l o (Go.Sort.insOuter (vJ c) a b i d)
 | 0,_,_,_,h=>absurd h (fJ _)
 | m+1,d,i,hd,hm=>by
  rw [Go.Sort.insOuter]
  by_cases h1:i < b
  ·rw [if_pos h1]
   have e:cL l0 o n (a:Int) (b:Int) c (wp l o d,(i:Int))=aA (bV l0 o n (a:Int) (b:Int) c) (tN ((i:Int) - a)+1) (wp l o d,(i:Int),(i:Int)):=by
    simp only [cL];rw [bQ (by omega),cond_true]
   rw [aB (e.trans (aLt hl hn _ d i _ hd (by omega) (by omega)))]
   exact aLu hl hn hb m _ (i+1) (by rw [mK];exact hd) (by omega)
  ·rw [if_neg h1]
   refine aG ?_
   simp only [cL];rw [cG (by omega),cond_false]
theorem aP4 {d:Array Int} (hl:o+n<=l.length)(hn:n<=1048576) {a b:Nat} (hb:b<=n)(ha:a<=n)(hd:d.size=n):dW (wp l o d) o n (a:Int) (b:Int) c=wp l o (Go.Sort.insertionSort (vJ c) d a b):=by
 unfold dW
 rw [wN (n:=a+1) (by omega) (by omega)]
 exact aLu hl hn hb _ d (a+1) hd (by omega)
end
section
open Go.Sort
theorem aLv (x y:Int):mG x y=if x < y then -1 else if y < x then 1 else 0:=by
 have hn:∀z:Int,aBj z=false:=fun z=>by unfold aBj;simp
 unfold mG
 rw [hn,hn,cond_false,cond_false]
 by_cases h:x < y
 ·rw [bQ h,if_pos h];rfl
 ·rw [cG h,if_neg h,cond_false]
  by_cases h2:y < x
  ·rw [bQ (show x > y from h2),if_pos h2];rfl
  ·rw [cG (show ¬x > y from h2),if_neg h2];rfl
def kk (c:SBC)(x:Int):Int:=gC c.1 x c.2
theorem aE5 (c:SBC)(x y:Int):vJ c x y=true↔kk c x < kk c y\/kk c x=kk c y/\x < y:=by
 have e:aCu c x y=mH (mG (kk c x) (kk c y),mG x y):=rfl
 unfold vJ
 rw [decide_eq_true_iff,e,aLv,aLv]
 unfold mH
 by_cases h1:kk c x < kk c y
 ·simp [h1]
 ·by_cases h2:kk c y < kk c x
  ·simp [h1,h2];omega
  ·by_cases h3:x < y
   ·simp [h1,h2,h3];omega
   ·by_cases h4:y < x
    ·simp [h1,h2,h3,h4]
    ·simp [h1,h2,h3,h4]
theorem aLw (c:SBC)(x y:Int):vJ c x y=false↔¬(kk c x < kk c y\/kk c x=kk c y/\x < y):=by
 rw [←aE5];simp
theorem zG (c:SBC):SWO (vJ c) where
 irrefl x:=by rw [aLw];omega
 trans x y z h1 h2:=by rw [aE5] at *;omega
 ntrans x y z h1 h2:=by rw [aLw] at *;omega
theorem aS1 (c:SBC)(x y:Int)(h1:vJ c x y=false)(h2:vJ c y x=false):x=y:=by
 rw [aLw] at *;omega
def Al (p:Int->Prop)(d:Array Int):Prop:=∀i,i < d.size->p d[i]!
variable {p : Int → Prop} {d d' : Array Int} {N o n : Nat} {l v : List Int} {c : SBC}
theorem Al.perm (h:Al p d) {a b:Nat} (hb:b<=d.size)(hp:PermIn a b d d'):Al p d':=fun k hk=>by
 by_cases hin:a<=k/\k < b
 ·exact permIn_all d d' a b p hb hp (fun i h1 h2=>h i (by omega)) k hin.1 hin.2
 ·rw [hp.2.1 k (by omega)];exact h k (by rw [←hp.1];exact hk)
theorem aWz (h:o+d.size<=l.length):InR N (wp l o d)↔(∀x∈l.take o++l.drop (o+d.size),0<=x/\x < (N:Int))/\Al (fun x=>0<=x/\x < (N:Int)) d:=by
 unfold InR wp Al
 constructor
 ·intro hx
  refine⟨fun x hm=>hx x ?_,fun i hi=>hx _ ?_⟩
  ·rcases List.mem_append.1 hm with hm | hm
   ·exact List.mem_append_left _ (List.mem_append_left _ hm)
   ·exact List.mem_append_right _ hm
  ·refine List.mem_append_left _ (List.mem_append_right _ ?_)
   rw [getElem!_pos d i hi]
   exact Array.mem_toList_iff.2 (Array.getElem_mem hi)
 ·rintro ⟨h1,h2⟩ x hm
  rcases List.mem_append.1 hm with hm | hm
  ·rcases List.mem_append.1 hm with hm | hm
   ·exact h1 x (List.mem_append_left _ hm)
   ·obtain⟨i,hi,rfl⟩:=List.getElem_of_mem hm
    have hi':i < d.size:=by simpa using hi
    have:=h2 i hi'
    rw [getElem!_pos d i hi'] at this
    simpa using this
  ·exact h1 x (List.mem_append_right _ hm)
theorem aW0 (hl:o+n<=v.length)(hi:InR N v) {f:Array Int->Array Int} (hs:(f (rH v o n)).size=n)(hf:∀p,Al p (rH v o n)->Al p (f (rH v o n))):(wp v o (f (rH v o n))).length=v.length/\InR N (wp v o (f (rH v o n))):=by
 refine⟨aP1 (by omega),?_⟩
 have hz:(rH v o n).size=n:=kQ hl
 have h0:InR N (wp v o (rH v o n)):=by rw [aJq hl];exact hi
 rw [aWz (by omega)] at h0 ⊢
 rw [hs];rw [hz] at h0
 exact⟨h0.1,hf _ h0.2⟩
theorem aP5 (hl:o+n<=v.length)(hi:InR N v) {a b:Nat} (hb:b<=n)(hp:PermIn a b (rH v o n) d'):(wp v o d').length=v.length/\InR N (wp v o d') :=
 aW0 (f:=fun _=>d') hl hi (by rw [hp.1];exact kQ hl) (fun p h=>h.perm (by rw [kQ hl];exact hb) hp)
variable {a b q : Int}
theorem aZ1 (hw:o+n<=v.length/\v.length<=1048576)(hi:InR N v)(h:0<=a/\a<=b/\b<=(n:Int)) :
 (dW v o n a b c).length=v.length/\InR N (dW v o n a b c):=by
 obtain⟨a,rfl⟩:∃k:Nat,a=k:=⟨a.toNat,by omega⟩
 obtain⟨b,rfl⟩:∃k:Nat,b=k:=⟨b.toNat,by omega⟩
 have hz:=kQ hw.1
 have e:=aP4 (l:=v) (c:=c) (d:=rH v o n) hw.1 (by omega) (a:=a) (b:=b) (by omega) (by omega) hz
 rw [aJq hw.1] at e
 rw [e]
 exact aP5 hw.1 hi (a:=a) (b:=b) (by omega) (insertionSort_holds (zG c) _ a b (by omega) (by omega)).1
end
theorem aP6 {o n:Nat} {v:List Int} {c:SBC} (h12:n<=12):eJ v o n c=dW v o n ((0:Nat):Int) ((n:Nat):Int) ((c.1.1,c.1.2.1,(v,c.1.2.2.2)),c.2):=by
 unfold eJ iE
 refine aG ?_
 simp only [gQ]
 rw [aH (n:=((n:Nat):Int) - 0) (by omega) (by omega),bQ (show((n:Nat):Int) - 0<=12 by omega),cond_true]
 rfl
end Go.Proofs.YtlckcjfbjnjfhaaGreat
namespace Go.Proofs.YtlckcjfbjnjfhaaGreat
open Go.Proofs Go.Aw Go.RowKit
set_option maxRecDepth 100000
def dD (a0:Zt×Zt×Zt):Zt×Zt×Zt :=
 a0
theorem bB5 (a0:Zt×Zt×Zt):Con Tryz.prog 144 [(.a (k9 a0))] [] (.a (k9 (dD a0))) []:=by
 refine aT Tryz.func144 (by kernel_rfl) fun cx hcx=>?_
 have e:=Eq.refl (dD a0);conv at e=>rhs;simp only [dD]
 rw [e]
 exact rt [] [] [] hcx (by kernel_rfl)
def aNr (a0:Int):Int :=
 (Int.fdiv a0 (2 ^ (min (tN 1) 64)))
theorem aW1 (a0:Int):Con Tryz.prog 145 [(iv a0)] [] (iv (aNr a0)) []:=by
 refine aT Tryz.func145 (by kernel_rfl) fun cx hcx=>?_
 have e:=Eq.refl (aNr a0);conv at e=>rhs;simp only [aNr]
 rw [e]
 exact rt [.p (show 0<=(1:Int) from by decide)] [] [] hcx (by kernel_rfl)
noncomputable def wL:Code:=(aP [1,1,0,1] [] (aN Tryz.f99) []).1
noncomputable def wM:List K:=(aP [1,1,0,1] [] (aN Tryz.f99) []).2
def sX (a0:bK)(a1:List Int)(v2c:List SV)(v2n:Nat)(v3:Int):LS:=⟨kG 23 [(0,(.s 0 0 a0.length 10)),(5,(.s 2 0 v2n 10)),(8,(.s 1 0 a1.length 1)),(9,(iv (a1.length:Int))),(10,(iv v3))],[(.live false true (flat gB a0)),(.live false true (flat c3 a1)),(.live true true v2c)]⟩
def eG (a0:bK)(a1:List Int):bK×Int->(bK×Int)⊕bK
 | (v2,v3) =>
  (bif (decide ((v3:Int) < (a1.length:Int))) then
   (.inl ((v2++[(a0.getD (tN (a1.getD (tN v3) dF)) dF)]),(v3+1)))
  else
   (.inr v2))
theorem aNs (a0:bK)(a1:List Int)(l0:a0.length<=2^63-1)(l1:a1.length<=2^63-1)(hir:InR a0.length a1)(hl:a1.length<=1048576) {cx:Cx} (hcx:cx.base=2):∀(n:Nat) (v2:bK) (v3:Int),(0<=v3)/\(v2.length=tN v3)/\(v3<=a1.length)->tN ((a1.length:Int) - v3) < n->Aw.Good Tryz.prog none 9 (bodyPost Tryz.prog Tryz.f99 (RR cx (.s 2 0 (aA (eG a0 a1) n (v2,v3)).length 10) [(.live true true (flat gB (aA (eG a0 a1) n (v2,v3))))] [])) cx [] (.l wL n::wM) (sX a0 a1 (flat gB v2) v2.length v3):=by
 intro n
 induction n with
 | zero=>intro v2 v3 hi hn;exact absurd hn (fJ _)
 | succ n ih =>
  intro v2 v3 hi hn
  refine aU ?_
  try have hr1:=hir.at (i:=tN v3) (by have _:=h0;omega)
  cases h0:(decide ((v3:Int) < (a1.length:Int))) with
  | true =>
   have q0:=dB h0
   try have hr1:=hir.at (i:=tN v3) (by have _:=h0;omega)
   have e:=Eq.refl (eG a0 a1 (v2,v3));conv at e=>rhs;simp only [eG,h0,aX]
   rw [aB e]
   refine ba [.d h0,.i v3 (a1.length),.L aW a1 v3 0 1,.i (a1.getD (tN v3) dF) (a0.length),.L fS a0 (a1.getD (tN v3) dF) 0 10,.p (show((flat gB v2).length=v2.length*10/\v2.length+1<=2 ^ 40/\(v2.length+1)*80<=2 ^ 47) from jW fS (by omega) (by omega))] [] [0,5,8,9,10] [4] hcx (m:=n) wL (wM) (sX a0 a1 (flat gB v2++[(iv (a0.getD (tN (a1.getD (tN v3) dF)) dF).1.1.1),(iv (a0.getD (tN (a1.getD (tN v3) dF)) dF).1.1.2.1),(iv (a0.getD (tN (a1.getD (tN v3) dF)) dF).1.1.2.2),(iv (a0.getD (tN (a1.getD (tN v3) dF)) dF).1.2.1.1),(iv (a0.getD (tN (a1.getD (tN v3) dF)) dF).1.2.1.2.1),(iv (a0.getD (tN (a1.getD (tN v3) dF)) dF).1.2.1.2.2),(iv (a0.getD (tN (a1.getD (tN v3) dF)) dF).1.2.2.1),(iv (a0.getD (tN (a1.getD (tN v3) dF)) dF).1.2.2.2.1),(iv (a0.getD (tN (a1.getD (tN v3) dF)) dF).1.2.2.2.2),(iv (a0.getD (tN (a1.getD (tN v3) dF)) dF).2)]) (v2.length+1) (W (v3+1))) (by kernel_rfl) ?_
   have z0:(W (v3+1))=(v3+1):=aH (by omega) (by omega)
   have z1:(flat gB v2++[(iv (a0.getD (tN (a1.getD (tN v3) dF)) dF).1.1.1),(iv (a0.getD (tN (a1.getD (tN v3) dF)) dF).1.1.2.1),(iv (a0.getD (tN (a1.getD (tN v3) dF)) dF).1.1.2.2),(iv (a0.getD (tN (a1.getD (tN v3) dF)) dF).1.2.1.1),(iv (a0.getD (tN (a1.getD (tN v3) dF)) dF).1.2.1.2.1),(iv (a0.getD (tN (a1.getD (tN v3) dF)) dF).1.2.1.2.2),(iv (a0.getD (tN (a1.getD (tN v3) dF)) dF).1.2.2.1),(iv (a0.getD (tN (a1.getD (tN v3) dF)) dF).1.2.2.2.1),(iv (a0.getD (tN (a1.getD (tN v3) dF)) dF).1.2.2.2.2),(iv (a0.getD (tN (a1.getD (tN v3) dF)) dF).2)])=(flat gB (v2++[(a0.getD (tN (a1.getD (tN v3) dF)) dF)])):=(cJ (c:=gB) (l:=v2) (m:=[(a0.getD (tN (a1.getD (tN v3) dF)) dF)])).symm
   have z2:(v2.length+1)=(v2++[(a0.getD (tN (a1.getD (tN v3) dF)) dF)]).length:=jD v2 [(a0.getD (tN (a1.getD (tN v3) dF)) dF)] rfl
   rw [z0,z1,z2]
   exact ih (v2++[(a0.getD (tN (a1.getD (tN v3) dF)) dF)]) (v3+1) (by refine⟨?_,?_,?_⟩<;>(try simp only [Ls])<;>first | omega | assumption | simp) (by(try simp only [Ls]);omega)
  | false =>
   have q0:=eC h0
   try have hr1:=hir.at (i:=tN v3) (by have _:=h0;omega)
   have e:=Eq.refl (eG a0 a1 (v2,v3));conv at e=>rhs;simp only [eG,h0,aX]
   rw [aQ,e]
   exact rt [.d h0] [] [2] hcx (by kernel_rfl)
def fC (a0:bK)(a1:List Int):bK :=
 (aA (eG a0 a1) (tN ((a1.length:Int) - 0)+1) (([]:bK),0))
theorem aS2 (a0:bK)(a1:List Int)(l0:a0.length<=2^63-1)(l1:a1.length<=2^63-1)(hir:InR a0.length a1)(hl:a1.length<=1048576):Con Tryz.prog 99 [(.s 0 0 a0.length 10),(.s 1 0 a1.length 1)] [(.live false true (flat gB a0)),(.live false true (flat c3 a1))] (.s 2 0 (fC a0 a1).length 10) [(.live true true (flat gB (fC a0 a1)))]:=by
 refine aT Tryz.func99 (by kernel_rfl) fun cx hcx=>?_
 have e:=Eq.refl (fC a0 a1);conv at e=>rhs;simp only [fC]
 rw [e]
 refine en [] [.slot 5 10] [0,5,8,9,10] [2] hcx wL (wM) (sX a0 a1 (flat gB ([]:bK)) 0 0) (tN ((a1.length:Int) - 0)+1) (by kernel_rfl) ?_
 exact aNs a0 a1 l0 l1 hir hl hcx (tN ((a1.length:Int) - 0)+1) ([]:bK) 0 (by refine⟨?_,?_,?_⟩<;>(try simp only [Ls])<;>first | omega | assumption | simp) (by(try simp only [Ls]);omega)
noncomputable def aBk:Code:=(aP [1,1,0,1] [] (aN Tryz.f100) []).1
noncomputable def aBl:List K:=(aP [1,1,0,1] [] (aN Tryz.f100) []).2
def wO (a0:bK)(v1 v2 v3 v4 v5 v6 v7:Int):LS:=⟨kG 84 [(2,(.p 1 0)),(3,(.p 2 0)),(4,(.p 3 0)),(19,(.s 0 0 a0.length 10)),(20,(iv (a0.length:Int))),(21,(iv v1))],[(.live false true (flat gB a0)),(.live true false [(iv 0),(iv 0),(iv 0)]),(.live true false [(iv v2),(iv v3),(iv v4)]),(.live true false [(iv v5),(iv v6),(iv v7)])]⟩
def eW (a0:bK):Int×Int×Int×Int×Zt->(Int×Int×Int×Int×Zt)⊕Zt
 | (v1,v2,v3,v4,v5,v6,v7) =>
  (bif (decide ((v1:Int) < (a0.length:Int))) then
   (.inl ((v1+1),(fY (fY (fY v2 (dD (a0.getD (tN v1) dF).1).1.1) (dD (a0.getD (tN v1) dF).1).2.1.1) (dD (a0.getD (tN v1) dF).1).2.2.1),(fY (fY (fY v3 (dD (a0.getD (tN v1) dF).1).1.2.1) (dD (a0.getD (tN v1) dF).1).2.1.2.1) (dD (a0.getD (tN v1) dF).1).2.2.2.1),(fY (fY (fY v4 (dD (a0.getD (tN v1) dF).1).1.2.2) (dD (a0.getD (tN v1) dF).1).2.1.2.2) (dD (a0.getD (tN v1) dF).1).2.2.2.2),(cE (cE (cE v5 (dD (a0.getD (tN v1) dF).1).1.1) (dD (a0.getD (tN v1) dF).1).2.1.1) (dD (a0.getD (tN v1) dF).1).2.2.1),(cE (cE (cE v6 (dD (a0.getD (tN v1) dF).1).1.2.1) (dD (a0.getD (tN v1) dF).1).2.1.2.1) (dD (a0.getD (tN v1) dF).1).2.2.2.1),(cE (cE (cE v7 (dD (a0.getD (tN v1) dF).1).1.2.2) (dD (a0.getD (tN v1) dF).1).2.1.2.2) (dD (a0.getD (tN v1) dF).1).2.2.2.2)))
  else
   (.inr ((aNr (W (v2+v5))),(aNr (W (v3+v6))),(aNr (W (v4+v7))))))
theorem aP7 (a0:bK)(l0:a0.length<=2^63-1)(hl:1<=a0.length/\a0.length<=1048576) {cx:Cx} (hcx:cx.base=1):∀(n:Nat) (v1 v2 v3 v4 v5 v6 v7:Int),(0<=v1)/\(v1<=a0.length)->tN ((a0.length:Int) - v1) < n->Aw.Good Tryz.prog none 9 (bodyPost Tryz.prog Tryz.f100 (RR cx (.a (k3 (aA (eW a0) n (v1,v2,v3,v4,v5,v6,v7)))) [] [])) cx [] (.l aBk n::aBl) (wO a0 v1 v2 v3 v4 v5 v6 v7):=by
 intro n
 induction n with
 | zero=>intro v1 v2 v3 v4 v5 v6 v7 hi hn;exact absurd hn (fJ _)
 | succ n ih =>
  intro v1 v2 v3 v4 v5 v6 v7 hi hn
  refine aU ?_
  cases h0:(decide ((v1:Int) < (a0.length:Int))) with
  | true =>
   have q0:=dB h0
   have e:=Eq.refl (eW a0 (v1,v2,v3,v4,v5,v6,v7));conv at e=>rhs;simp only [eW,h0,aX]
   rw [aB e]
   refine ba [.d h0,.i v1 (a0.length),.L fS a0 v1 0 10,.c [] (bB5 (a0.getD (tN v1) dF).1),.u 200,.T,.i 0 3 (by decide),.u 0,.T,.i 1 3 (by decide),.u 0,.T,.i 2 3 (by decide),.u 0,.F] [] [2,3,4,19,20,21] [1,2,3] hcx (m:=n) aBk (aBl) (wO a0 (W (v1+1)) (fY (fY (fY v2 (dD (a0.getD (tN v1) dF).1).1.1) (dD (a0.getD (tN v1) dF).1).2.1.1) (dD (a0.getD (tN v1) dF).1).2.2.1) (fY (fY (fY v3 (dD (a0.getD (tN v1) dF).1).1.2.1) (dD (a0.getD (tN v1) dF).1).2.1.2.1) (dD (a0.getD (tN v1) dF).1).2.2.2.1) (fY (fY (fY v4 (dD (a0.getD (tN v1) dF).1).1.2.2) (dD (a0.getD (tN v1) dF).1).2.1.2.2) (dD (a0.getD (tN v1) dF).1).2.2.2.2) (cE (cE (cE v5 (dD (a0.getD (tN v1) dF).1).1.1) (dD (a0.getD (tN v1) dF).1).2.1.1) (dD (a0.getD (tN v1) dF).1).2.2.1) (cE (cE (cE v6 (dD (a0.getD (tN v1) dF).1).1.2.1) (dD (a0.getD (tN v1) dF).1).2.1.2.1) (dD (a0.getD (tN v1) dF).1).2.2.2.1) (cE (cE (cE v7 (dD (a0.getD (tN v1) dF).1).1.2.2) (dD (a0.getD (tN v1) dF).1).2.1.2.2) (dD (a0.getD (tN v1) dF).1).2.2.2.2)) (by kernel_rfl) ?_
   have z0:(W (v1+1))=(v1+1):=aH (by omega) (by omega)
   rw [z0]
   exact ih (v1+1) (fY (fY (fY v2 (dD (a0.getD (tN v1) dF).1).1.1) (dD (a0.getD (tN v1) dF).1).2.1.1) (dD (a0.getD (tN v1) dF).1).2.2.1) (fY (fY (fY v3 (dD (a0.getD (tN v1) dF).1).1.2.1) (dD (a0.getD (tN v1) dF).1).2.1.2.1) (dD (a0.getD (tN v1) dF).1).2.2.2.1) (fY (fY (fY v4 (dD (a0.getD (tN v1) dF).1).1.2.2) (dD (a0.getD (tN v1) dF).1).2.1.2.2) (dD (a0.getD (tN v1) dF).1).2.2.2.2) (cE (cE (cE v5 (dD (a0.getD (tN v1) dF).1).1.1) (dD (a0.getD (tN v1) dF).1).2.1.1) (dD (a0.getD (tN v1) dF).1).2.2.1) (cE (cE (cE v6 (dD (a0.getD (tN v1) dF).1).1.2.1) (dD (a0.getD (tN v1) dF).1).2.1.2.1) (dD (a0.getD (tN v1) dF).1).2.2.2.1) (cE (cE (cE v7 (dD (a0.getD (tN v1) dF).1).1.2.2) (dD (a0.getD (tN v1) dF).1).2.1.2.2) (dD (a0.getD (tN v1) dF).1).2.2.2.2) (by refine⟨?_,?_⟩<;>(try simp only [Ls])<;>first | omega | assumption | simp) (by(try simp only [Ls]);omega)
  | false =>
   have q0:=eC h0
   have e:=Eq.refl (eW a0 (v1,v2,v3,v4,v5,v6,v7));conv at e=>rhs;simp only [eW,h0,aX]
   rw [aQ,e]
   exact rt [.d h0,.c [] (aW1 (W (v2+v5))),.c [] (aW1 (W (v3+v6))),.c [] (aW1 (W (v4+v7)))] [] [] hcx (by kernel_rfl)
def bO (a0:bK):Zt :=
 (aA (eW a0) (tN ((a0.length:Int) - 0)+1) (0,(a0.getD (tN 0) dF).1.1.1,(a0.getD (tN 0) dF).1.1.2.1,(a0.getD (tN 0) dF).1.1.2.2,(a0.getD (tN 0) dF).1.1.1,(a0.getD (tN 0) dF).1.1.2.1,(a0.getD (tN 0) dF).1.1.2.2))
theorem aW2 (a0:bK)(l0:a0.length<=2^63-1)(hl:1<=a0.length/\a0.length<=1048576):Con Tryz.prog 100 [(.s 0 0 a0.length 10)] [(.live false true (flat gB a0))] (.a (k3 (bO a0))) []:=by
 refine aT Tryz.func100 (by kernel_rfl) fun cx hcx=>?_
 have e:=Eq.refl (bO a0);conv at e=>rhs;simp only [bO]
 rw [e]
 refine en [.i 0 (a0.length),.L fS a0 0 0 3,.i 0 (a0.length),.L fS a0 0 0 3] [] [2,3,4,19,20,21] [1,2,3] hcx aBk (aBl) (wO a0 0 ((a0.getD (tN 0) dF).1.1.1) ((a0.getD (tN 0) dF).1.1.2.1) ((a0.getD (tN 0) dF).1.1.2.2) ((a0.getD (tN 0) dF).1.1.1) ((a0.getD (tN 0) dF).1.1.2.1) ((a0.getD (tN 0) dF).1.1.2.2)) (tN ((a0.length:Int) - 0)+1) (by kernel_rfl) ?_
 exact aP7 a0 l0 hl hcx (tN ((a0.length:Int) - 0)+1) 0 ((a0.getD (tN 0) dF).1.1.1) ((a0.getD (tN 0) dF).1.1.2.1) ((a0.getD (tN 0) dF).1.1.2.2) ((a0.getD (tN 0) dF).1.1.1) ((a0.getD (tN 0) dF).1.1.2.1) ((a0.getD (tN 0) dF).1.1.2.2) (by refine⟨?_,?_⟩<;>(try simp only [Ls])<;>first | omega | assumption | simp) (by(try simp only [Ls]);omega)
def aBm (a0:Int)(a1:Int)(a2:Int):Bool :=
 (bif (decide ((a1:Int)<=a0)) then
  (decide ((a0:Int)<=a2))
 else
  false)
theorem aW3 (a0:Int)(a1:Int)(a2:Int):Con Tryz.prog 199 [(iv a0),(iv a1),(iv a2)] [] (.v (.bool (aBm a0 a1 a2))) []:=by
 refine aT Tryz.func199 (by kernel_rfl) fun cx hcx=>?_
 cases h0:(decide ((a1:Int)<=a0)) with
 | true =>
  have q0:=dB h0
  have e:=Eq.refl (aBm a0 a1 a2);conv at e=>rhs;simp only [aBm,h0,aX]
  rw [e]
  exact rt [.d h0] [] [] hcx (by kernel_rfl)
 | false =>
  have q0:=eC h0
  have e:=Eq.refl (aBm a0 a1 a2);conv at e=>rhs;simp only [aBm,h0,aX]
  rw [e]
  exact rt [.d h0] [] [] hcx (by kernel_rfl)
def aBn (a0:Zt)(a1:Int):Bool :=
 (bif (aBm a0.1 (W (0 - a1)) a1) then
  (bif (aBm a0.2.1 (W (0 - a1)) a1) then
   (aBm a0.2.2 (W (0 - a1)) a1)
  else
   false)
 else
  false)
theorem bB6 (a0:Zt)(a1:Int):Con Tryz.prog 181 [(.a (k3 a0)),(iv a1)] [] (.v (.bool (aBn a0 a1))) []:=by
 refine aT Tryz.func181 (by kernel_rfl) fun cx hcx=>?_
 let t0:List (St Tryz.prog):=[.c [] (aW3 a0.1 (W (0 - a1)) a1)]
 cases h0:(aBm a0.1 (W (0 - a1)) a1) with
 | true =>
  let t1:List (St Tryz.prog):=(t0++[.d h0,.c [] (aW3 a0.2.1 (W (0 - a1)) a1)])
  cases h1:(aBm a0.2.1 (W (0 - a1)) a1) with
  | true =>
   have e:=Eq.refl (aBn a0 a1);conv at e=>rhs;simp only [aBn,h0,h1,aX]
   rw [e]
   exact rt (t1++[.d h1,.c [] (aW3 a0.2.2 (W (0 - a1)) a1)]) [] [] hcx (by kernel_rfl)
  | false =>
   have e:=Eq.refl (aBn a0 a1);conv at e=>rhs;simp only [aBn,h0,h1,aX]
   rw [e]
   exact rt (t1++[.d h1]) [] [] hcx (by kernel_rfl)
 | false =>
  have e:=Eq.refl (aBn a0 a1);conv at e=>rhs;simp only [aBn,h0,aX]
  rw [e]
  exact rt (t0++[.d h0]) [] [] hcx (by kernel_rfl)
def iX (a0:Zt)(a1:Zt):Zt :=
 ((W (a0.1 - a1.1)),(W (a0.2.1 - a1.2.1)),(W (a0.2.2 - a1.2.2)))
theorem aW4 (a0:Zt)(a1:Zt):Con Tryz.prog 147 [(.a (k3 a0)),(.a (k3 a1))] [] (.a (k3 (iX a0 a1))) []:=by
 refine aT Tryz.func147 (by kernel_rfl) fun cx hcx=>?_
 have e:=Eq.refl (iX a0 a1);conv at e=>rhs;simp only [iX]
 rw [e]
 exact rt [] [] [] hcx (by kernel_rfl)
def yV (a0:Zt)(a1:Zt):Int :=
 (W ((W ((W (a0.1*a1.1))+(W (a0.2.1*a1.2.1))))+(W (a0.2.2*a1.2.2))))
theorem aW5 (a0:Zt)(a1:Zt):Con Tryz.prog 148 [(.a (k3 a0)),(.a (k3 a1))] [] (iv (yV a0 a1)) []:=by
 refine aT Tryz.func148 (by kernel_rfl) fun cx hcx=>?_
 have e:=Eq.refl (yV a0 a1);conv at e=>rhs;simp only [yV]
 rw [e]
 exact rt [] [] [] hcx (by kernel_rfl)
def jZ (a0:bK)(a1:Zt):Int :=
 (bif (((eI a0):Int) != 0) then
  (eI a0)
 else
  (bif (!(aBn a1 64)) then
   1
  else
   0))
theorem aW6 (a0:bK)(a1:Zt)(l0:a0.length<=2^63-1):Con Tryz.prog 146 [(.s 0 0 a0.length 10),(.a (k3 a1))] [(.live false true (flat gB a0))] (iv (jZ a0 a1)) []:=by
 refine aT Tryz.func146 (by kernel_rfl) fun cx hcx=>?_
 let t0:List (St Tryz.prog):=[.c [0] (aLj a0 (by omega))]
 cases h0:(((eI a0):Int) != 0) with
 | true =>
  have q0:=bne_iff_ne.1 h0
  have e:=Eq.refl (jZ a0 a1);conv at e=>rhs;simp only [jZ,h0,aX]
  rw [e]
  exact rt (t0++[.d h0]) [] [] hcx (by kernel_rfl)
 | false =>
  have q0:=bne_eq_false_iff_eq.1 h0
  let t1:List (St Tryz.prog):=(t0++[.d h0,.c [] (bB6 a1 64)])
  cases h1:(!(aBn a1 64)) with
  | true =>
   have e:=Eq.refl (jZ a0 a1);conv at e=>rhs;simp only [jZ,h0,h1,aX]
   rw [e]
   exact rt (t1++[.d h1]) [] [] hcx (by kernel_rfl)
  | false =>
   have e:=Eq.refl (jZ a0 a1);conv at e=>rhs;simp only [jZ,h0,h1,aX]
   rw [e]
   exact rt (t1++[.d h1]) [] [] hcx (by kernel_rfl)
noncomputable def aBo:Code:=(aP [1,1,1,0,1] [] (aN Tryz.f101) []).1
noncomputable def aBp:List K:=(aP [1,1,1,0,1] [] (aN Tryz.f101) []).2
def wP (a0:bK)(a1:Zt)(v1 v2:Int):LS:=⟨kG 49 [(3,(.p 1 0)),(7,(iv v1)),(19,(.s 0 0 a0.length 10)),(20,(iv (a0.length:Int))),(21,(iv v2))],[(.live false true (flat gB a0)),(.live true false (k3 a1))]⟩
def lE (a0:bK)(a1:Zt):Int×Int->(Int×Int)⊕(Int×Int)
 | (v1,v2) =>
  (bif (decide ((v2:Int) < (a0.length:Int))) then
   (.inl ((cE (cE (cE v1 (yV (iX (a0.getD (tN v2) dF).1.1 a1) (iX (a0.getD (tN v2) dF).1.1 a1))) (yV (iX (a0.getD (tN v2) dF).1.2.1 a1) (iX (a0.getD (tN v2) dF).1.2.1 a1))) (yV (iX (a0.getD (tN v2) dF).1.2.2 a1) (iX (a0.getD (tN v2) dF).1.2.2 a1))),(v2+1)))
  else
   (.inr (v1,0)))
theorem aP8 (a0:bK)(a1:Zt)(l0:a0.length<=2^63-1)(hl:a0.length<=1048576) {cx:Cx} (hcx:cx.base=1):∀(n:Nat) (v1 v2:Int),(0<=v2)/\(v2<=a0.length)->tN ((a0.length:Int) - v2) < n->Aw.Good Tryz.prog none 9 (bodyPost Tryz.prog Tryz.f101 (RR cx (.t (k2 (aA (lE a0 a1) n (v1,v2)))) [] [])) cx [] (.l aBo n::aBp) (wP a0 a1 v1 v2):=by
 intro n
 induction n with
 | zero=>intro v1 v2 hi hn;exact absurd hn (fJ _)
 | succ n ih =>
  intro v1 v2 hi hn
  refine aU ?_
  cases h0:(decide ((v2:Int) < (a0.length:Int))) with
  | true =>
   have q0:=dB h0
   have e:=Eq.refl (lE a0 a1 (v1,v2));conv at e=>rhs;simp only [lE,h0,aX]
   rw [aB e]
   refine ba [.d h0,.i v2 (a0.length),.L fS a0 v2 0 10,.u 200,.T,.i 0 3 (by decide),.c [] (aW4 (a0.getD (tN v2) dF).1.1 a1),.c [] (aW5 (iX (a0.getD (tN v2) dF).1.1 a1) (iX (a0.getD (tN v2) dF).1.1 a1)),.u 0,.T,.i 1 3 (by decide),.c [] (aW4 (a0.getD (tN v2) dF).1.2.1 a1),.c [] (aW5 (iX (a0.getD (tN v2) dF).1.2.1 a1) (iX (a0.getD (tN v2) dF).1.2.1 a1)),.u 0,.T,.i 2 3 (by decide),.c [] (aW4 (a0.getD (tN v2) dF).1.2.2 a1),.c [] (aW5 (iX (a0.getD (tN v2) dF).1.2.2 a1) (iX (a0.getD (tN v2) dF).1.2.2 a1)),.u 0,.F] [] [3,7,19,20,21] [1] hcx (m:=n) aBo (aBp) (wP a0 a1 (cE (cE (cE v1 (yV (iX (a0.getD (tN v2) dF).1.1 a1) (iX (a0.getD (tN v2) dF).1.1 a1))) (yV (iX (a0.getD (tN v2) dF).1.2.1 a1) (iX (a0.getD (tN v2) dF).1.2.1 a1))) (yV (iX (a0.getD (tN v2) dF).1.2.2 a1) (iX (a0.getD (tN v2) dF).1.2.2 a1))) (W (v2+1))) (by kernel_rfl) ?_
   have z0:(W (v2+1))=(v2+1):=aH (by omega) (by omega)
   rw [z0]
   exact ih (cE (cE (cE v1 (yV (iX (a0.getD (tN v2) dF).1.1 a1) (iX (a0.getD (tN v2) dF).1.1 a1))) (yV (iX (a0.getD (tN v2) dF).1.2.1 a1) (iX (a0.getD (tN v2) dF).1.2.1 a1))) (yV (iX (a0.getD (tN v2) dF).1.2.2 a1) (iX (a0.getD (tN v2) dF).1.2.2 a1))) (v2+1) (by refine⟨?_,?_⟩<;>(try simp only [Ls])<;>first | omega | assumption | simp) (by(try simp only [Ls]);omega)
  | false =>
   have q0:=eC h0
   have e:=Eq.refl (lE a0 a1 (v1,v2));conv at e=>rhs;simp only [lE,h0,aX]
   rw [aQ,e]
   exact rt [.d h0] [] [] hcx (by kernel_rfl)
def pT (a0:bK)(a1:Zt):Int×Int :=
 (bif (((jZ a0 a1):Int) != 0) then
  (0,(jZ a0 a1))
 else
  (aA (lE a0 a1) (tN ((a0.length:Int) - 0)+1) (0,0)))
theorem aW7 (a0:bK)(a1:Zt)(l0:a0.length<=2^63-1)(hl:a0.length<=1048576):Con Tryz.prog 101 [(.s 0 0 a0.length 10),(.a (k3 a1))] [(.live false true (flat gB a0))] (.t (k2 (pT a0 a1))) []:=by
 refine aT Tryz.func101 (by kernel_rfl) fun cx hcx=>?_
 let t0:List (St Tryz.prog):=[.c [0] (aW6 a0 a1 (by omega))]
 cases h0:(((jZ a0 a1):Int) != 0) with
 | true =>
  have q0:=bne_iff_ne.1 h0
  have e:=Eq.refl (pT a0 a1);conv at e=>rhs;simp only [pT,h0,aX]
  rw [e]
  exact rt (t0++[.d h0]) [] [] hcx (by kernel_rfl)
 | false =>
  have q0:=bne_eq_false_iff_eq.1 h0
  have e:=Eq.refl (pT a0 a1);conv at e=>rhs;simp only [pT,h0,aX]
  rw [e]
  refine en (t0++[.d h0]) [] [3,7,19,20,21] [1] hcx aBo (aBp) (wP a0 a1 0 0) (tN ((a0.length:Int) - 0)+1) (by kernel_rfl) ?_
  exact aP8 a0 a1 l0 hl hcx (tN ((a0.length:Int) - 0)+1) 0 0 (by refine⟨?_,?_⟩<;>(try simp only [Ls])<;>first | omega | assumption | simp) (by(try simp only [Ls]);omega)
noncomputable def aBq:Code:=(aP [1,1,0,1,0,1,1,0,1,1,0,1] [0] (aN Tryz.f103) []).1
noncomputable def aBr (m0:Nat):List K:=(aP [1,1,0,1,0,1,1,0,1,1,0,1] [m0] (aN Tryz.f103) []).2
def wQ (a0:bK×Int×List Int×bB)(a1:List Int)(v15 v16 v17 v18 v19 v20 v21:Int):LS:=⟨kG 59 [(0,(.p 0 0)),(1,(.s 4 0 a1.length 1)),(4,(.p 5 0)),(5,(iv v15)),(6,(iv v16)),(7,(iv v17)),(8,(iv v18)),(9,(iv v19)),(12,(iv v20)),(27,(.s 4 0 a1.length 1)),(28,(iv (a1.length:Int))),(29,(iv v21))],[(.live false false [(.s 1 0 a0.1.length 10),(iv a0.2.1),(.s 2 0 a0.2.2.1.length 1),(.s 3 0 a0.2.2.2.length 8)]),(.live false true (flat gB a0.1)),(.live false true (flat c3 a0.2.2.1)),(.live false true (flat dO a0.2.2.2)),(.live false true (flat c3 a1)),(.live true false [(.v (.pointer none)),(iv 0)])]⟩
def dT (a0:bK×Int×List Int×bB)(a1:List Int):Int×Int×Int×Int×Zt->(Int×Int×Int×Int×Zt)⊕(Zt⊕TyS)
 | (v15,v16,v17,v18,v19,v20,v21) =>
  (bif (decide ((v21:Int) < (a1.length:Int))) then
   (.inl (v15,v16,v17,(if((gC (a0.1,a0.2.1,(a0.2.2.1,a0.2.2.2)) (a1.getD (tN v21) dF) v17):Int) < v18 then(gC (a0.1,a0.2.1,(a0.2.2.1,a0.2.2.2)) (a1.getD (tN v21) dF) v17) else v18),(if(v19:Int) < (gC (a0.1,a0.2.1,(a0.2.2.1,a0.2.2.2)) (a1.getD (tN v21) dF) v17) then(gC (a0.1,a0.2.1,(a0.2.2.1,a0.2.2.2)) (a1.getD (tN v21) dF) v17) else v19),v20,(v21+1)))
  else
   (bif (decide (((W (v19 - v18)):Int) > v16)) then
    (.inr (.inl (v17,(W (v19 - v18)),(v20+1))))
   else
    (.inr (.inl (v15,v16,(v20+1))))))
noncomputable def pU:Code:=(aP [1,1,0,1] [] (aN Tryz.f103) []).1
noncomputable def pV:List K:=(aP [1,1,0,1] [] (aN Tryz.f103) []).2
def nC (a0:bK×Int×List Int×bB)(a1:List Int)(v12 v13 v14:Int):LS:=⟨kG 59 [(0,(.p 0 0)),(1,(.s 4 0 a1.length 1)),(4,(.p 5 0)),(5,(iv v12)),(6,(iv v13)),(12,(iv v14))],[(.live false false [(.s 1 0 a0.1.length 10),(iv a0.2.1),(.s 2 0 a0.2.2.1.length 1),(.s 3 0 a0.2.2.2.length 8)]),(.live false true (flat gB a0.1)),(.live false true (flat c3 a0.2.2.1)),(.live false true (flat dO a0.2.2.2)),(.live false true (flat c3 a1)),(.live true false [(.v (.pointer none)),(iv 0)])]⟩
def eX (a0:bK×Int×List Int×bB)(a1:List Int):Zt->Zt⊕TyS
 | (v12,v13,v14) =>
  (bif (decide ((v14:Int) < 3)) then
   (aA (dT a0 a1) (tN ((a1.length:Int) - 0)+1) (v12,v13,v14,(gC (a0.1,a0.2.1,(a0.2.2.1,a0.2.2.2)) (a1.getD (tN 0) dF) v14),(gC (a0.1,a0.2.1,(a0.2.2.1,a0.2.2.2)) (a1.getD (tN 0) dF) v14),v14,0))
  else
   (.inr ((a0.1,a0.2.1,(a0.2.2.1,a0.2.2.2)),v12)))
theorem aP9 (a0:bK×Int×List Int×bB)(a1:List Int)(l0_1:a0.1.length<=2^63-1)(l0_2_2_1:a0.2.2.1.length<=2^63-1)(l0_2_2_2:a0.2.2.2.length<=2^63-1)(l1:a1.length<=2^63-1)(hir:InR a0.1.length a1)(hl:1<=a1.length/\a1.length<=1048576) {cx:Cx} (hcx:cx.base=5)
 (n0:Nat) (g0:∀(v12 v13 v14:Int),(0<=v14)/\(v14<=3)->tN (3 - v14) < n0->Aw.Good Tryz.prog none 9 (bodyPost Tryz.prog Tryz.f103 (RR cx (.a [(.p 0 0),(iv (aA (eX a0 a1) n0 (v12,v13,v14)).2)]) [] [])) cx [] (.l pU n0::pV) (nC a0 a1 v12 v13 v14)):∀(n:Nat) (v15 v16 v17 v18 v19 v20 v21:Int),(0<=v21)/\(v21<=a1.length)/\((0<=v20))/\((v20<=3))/\(v20 < 3)/\(tN (3 - v20) < n0+1)->tN ((a1.length:Int) - v21) < n->Aw.Good Tryz.prog none 9 (bodyPost Tryz.prog Tryz.f103 (RR cx (.a [(.p 0 0),(iv (bD (eX a0 a1) n0 (aA (dT a0 a1) n (v15,v16,v17,v18,v19,v20,v21))).2)]) [] [])) cx [] (.l aBq n::aBr n0) (wQ a0 a1 v15 v16 v17 v18 v19 v20 v21):=by
 intro n
 induction n with
 | zero=>intro v15 v16 v17 v18 v19 v20 v21 hi hn;exact absurd hn (fJ _)
 | succ n ih =>
  intro v15 v16 v17 v18 v19 v20 v21 hi hn
  refine aU ?_
  try have hr1:=hir.at (i:=tN v21) (by have _:=h0;omega)
  cases h0:(decide ((v21:Int) < (a1.length:Int))) with
  | true =>
   have q0:=dB h0
   try have hr1:=hir.at (i:=tN v21) (by have _:=h0;omega)
   have e:=Eq.refl (dT a0 a1 (v15,v16,v17,v18,v19,v20,v21));conv at e=>rhs;simp only [dT,h0,aX]
   rw [aB e]
   refine ba [.d h0,.i v21 (a1.length),.L aW a1 v21 0 1,.c [0,1,2,3] (aNq (a0.1,a0.2.1,(a0.2.2.1,a0.2.2.2)) (a1.getD (tN v21) dF) v17 (by(try simp only [Lt]);omega) (by(try simp only [Lt]);omega) (by(try simp only [Lt]);omega) (by(try simp only [Lt]);omega)),.c [0,1,2,3] (aNq (a0.1,a0.2.1,(a0.2.2.1,a0.2.2.2)) (a1.getD (tN v21) dF) v17 (by(try simp only [Lt]);omega) (by(try simp only [Lt]);omega) (by(try simp only [Lt]);omega) (by(try simp only [Lt]);omega))] [] [0,1,4,5,6,7,8,9,12,27,28,29] [5] hcx (m:=n) aBq (aBr n0) (wQ a0 a1 v15 v16 v17 (if((gC (a0.1,a0.2.1,(a0.2.2.1,a0.2.2.2)) (a1.getD (tN v21) dF) v17):Int) < v18 then(gC (a0.1,a0.2.1,(a0.2.2.1,a0.2.2.2)) (a1.getD (tN v21) dF) v17) else v18) (if(v19:Int) < (gC (a0.1,a0.2.1,(a0.2.2.1,a0.2.2.2)) (a1.getD (tN v21) dF) v17) then(gC (a0.1,a0.2.1,(a0.2.2.1,a0.2.2.2)) (a1.getD (tN v21) dF) v17) else v19) v20 (W (v21+1))) (by kernel_rfl) ?_
   have z0:(W (v21+1))=(v21+1):=aH (by omega) (by omega)
   rw [z0]
   exact ih v15 v16 v17 (if((gC (a0.1,a0.2.1,(a0.2.2.1,a0.2.2.2)) (a1.getD (tN v21) dF) v17):Int) < v18 then(gC (a0.1,a0.2.1,(a0.2.2.1,a0.2.2.2)) (a1.getD (tN v21) dF) v17) else v18) (if(v19:Int) < (gC (a0.1,a0.2.1,(a0.2.2.1,a0.2.2.2)) (a1.getD (tN v21) dF) v17) then(gC (a0.1,a0.2.1,(a0.2.2.1,a0.2.2.2)) (a1.getD (tN v21) dF) v17) else v19) v20 (v21+1) (by refine⟨?_,?_,?_,?_,?_,?_⟩<;>(try simp only [Ls])<;>first | omega | assumption | exact hi.2.1 | exact hi.2.2.1 | exact hi.2.2.2.1 | exact hi.2.2.2.2.1 | exact hi.2.2.2.2.2.1 | simp) (by(try simp only [Ls]);omega)
  | false =>
   have q0:=eC h0
   try have hr1:=hir.at (i:=tN v21) (by have _:=h0;omega)
   let t1:List (St Tryz.prog):=[.d h0]
   cases h1:(decide (((W (v19 - v18)):Int) > v16)) with
   | true =>
    have q1:=dB h1
    try have hr1:=hir.at (i:=tN v21) (by have _:=h0;omega)
    have e:=Eq.refl (dT a0 a1 (v15,v16,v17,v18,v19,v20,v21));conv at e=>rhs;simp only [dT,h0,h1,aX]
    rw [aQ,e]
    refine ba (t1++[.d h1]) [] [0,1,4,5,6,12] [5] hcx (m:=n0) pU (pV) (nC a0 a1 v17 (W (v19 - v18)) (W (v20+1))) (by kernel_rfl) ?_
    have z0:(W (v20+1))=(v20+1):=aH (by omega) (by omega)
    rw [z0]
    exact g0 v17 (W (v19 - v18)) (v20+1) (by refine⟨?_,?_⟩<;>(try simp only [Ls])<;>first | omega | assumption | simp) (by(try simp only [Ls]);omega)
   | false =>
    have q1:=eC h1
    try have hr1:=hir.at (i:=tN v21) (by have _:=h0;omega)
    have e:=Eq.refl (dT a0 a1 (v15,v16,v17,v18,v19,v20,v21));conv at e=>rhs;simp only [dT,h0,h1,aX]
    rw [aQ,e]
    refine ba (t1++[.d h1]) [] [0,1,4,5,6,12] [5] hcx (m:=n0) pU (pV) (nC a0 a1 v15 v16 (W (v20+1))) (by kernel_rfl) ?_
    have z0:(W (v20+1))=(v20+1):=aH (by omega) (by omega)
    rw [z0]
    exact g0 v15 v16 (v20+1) (by refine⟨?_,?_⟩<;>(try simp only [Ls])<;>first | omega | assumption | simp) (by(try simp only [Ls]);omega)
theorem aQa (a0:bK×Int×List Int×bB)(a1:List Int)(l0_1:a0.1.length<=2^63-1)(l0_2_2_1:a0.2.2.1.length<=2^63-1)(l0_2_2_2:a0.2.2.2.length<=2^63-1)(l1:a1.length<=2^63-1)(hir:InR a0.1.length a1)(hl:1<=a1.length/\a1.length<=1048576) {cx:Cx} (hcx:cx.base=5):∀(n:Nat) (v12 v13 v14:Int),(0<=v14)/\(v14<=3)->tN (3 - v14) < n->Aw.Good Tryz.prog none 9 (bodyPost Tryz.prog Tryz.f103 (RR cx (.a [(.p 0 0),(iv (aA (eX a0 a1) n (v12,v13,v14)).2)]) [] [])) cx [] (.l pU n::pV) (nC a0 a1 v12 v13 v14):=by
 intro n
 induction n with
 | zero=>intro v12 v13 v14 hi hn;exact absurd hn (fJ _)
 | succ n ih =>
  intro v12 v13 v14 hi hn
  refine aU ?_
  have hr0:=hir.at (i:=0) (by omega)
  cases h0:(decide ((v14:Int) < 3)) with
  | true =>
   have q0:=dB h0
   have e:=Eq.refl (eX a0 a1 (v12,v13,v14));conv at e=>rhs;simp only [eX,h0,aX]
   rw [aQ,e]
   refine en [.d h0,.i 0 (a1.length),.L aW a1 0 0 1,.c [0,1,2,3] (aNq (a0.1,a0.2.1,(a0.2.2.1,a0.2.2.2)) (a1.getD (tN 0) dF) v14 (by(try simp only [Lt]);omega) (by(try simp only [Lt]);omega) (by(try simp only [Lt]);omega) (by(try simp only [Lt]);omega)),.i 0 (a1.length),.L aW a1 0 0 1,.c [0,1,2,3] (aNq (a0.1,a0.2.1,(a0.2.2.1,a0.2.2.2)) (a1.getD (tN 0) dF) v14 (by(try simp only [Lt]);omega) (by(try simp only [Lt]);omega) (by(try simp only [Lt]);omega) (by(try simp only [Lt]);omega))] [] [0,1,4,5,6,7,8,9,12,27,28,29] [5] hcx aBq (aBr n) (wQ a0 a1 v12 v13 v14 (gC (a0.1,a0.2.1,(a0.2.2.1,a0.2.2.2)) (a1.getD (tN 0) dF) v14) (gC (a0.1,a0.2.1,(a0.2.2.1,a0.2.2.2)) (a1.getD (tN 0) dF) v14) v14 0) (tN ((a1.length:Int) - 0)+1) (by kernel_rfl) ?_
   exact aP9 a0 a1 l0_1 l0_2_2_1 l0_2_2_2 l1 hir hl hcx n ih (tN ((a1.length:Int) - 0)+1) v12 v13 v14 (gC (a0.1,a0.2.1,(a0.2.2.1,a0.2.2.2)) (a1.getD (tN 0) dF) v14) (gC (a0.1,a0.2.1,(a0.2.2.1,a0.2.2.2)) (a1.getD (tN 0) dF) v14) v14 0 (by refine⟨?_,?_,?_,?_,?_,?_⟩<;>(try simp only [Ls])<;>first | omega | assumption | exact hi.2.1 | exact hi.2.2.1 | exact hi.2.2.2.1 | exact hi.2.2.2.2.1 | exact hi.2.2.2.2.2.1 | simp) (by(try simp only [Ls]);omega)
  | false =>
   have q0:=eC h0
   have e:=Eq.refl (eX a0 a1 (v12,v13,v14));conv at e=>rhs;simp only [eX,h0,aX]
   rw [aQ,e]
   exact rt [.d h0] [] [] hcx (by kernel_rfl)
def aBs (a0:bK×Int×List Int×bB)(a1:List Int):zP×Int :=
 (aA (eX a0 a1) (tN (3 - 0)+1) (0,(-1),0))
theorem aW8 (a0:bK×Int×List Int×bB)(a1:List Int)(l0_1:a0.1.length<=2^63-1)(l0_2_2_1:a0.2.2.1.length<=2^63-1)(l0_2_2_2:a0.2.2.2.length<=2^63-1)(l1:a1.length<=2^63-1)(hir:InR a0.1.length a1)(hl:1<=a1.length/\a1.length<=1048576):Con Tryz.prog 103 [(.p 0 0),(.s 4 0 a1.length 1)] [(.live false false [(.s 1 0 a0.1.length 10),(iv a0.2.1),(.s 2 0 a0.2.2.1.length 1),(.s 3 0 a0.2.2.2.length 8)]),(.live false true (flat gB a0.1)),(.live false true (flat c3 a0.2.2.1)),(.live false true (flat dO a0.2.2.2)),(.live false true (flat c3 a1))] (.a [(.p 0 0),(iv (aBs a0 a1).2)]) []:=by
 refine aT Tryz.func103 (by kernel_rfl) fun cx hcx=>?_
 have e:=Eq.refl (aBs a0 a1);conv at e=>rhs;simp only [aBs]
 try rw [e]
 refine en [] [] [0,1,4,5,6,12] [5] hcx pU (pV) (nC a0 a1 0 (-1) 0) (tN (3 - 0)+1) (by kernel_rfl) ?_
 exact aQa a0 a1 l0_1 l0_2_2_1 l0_2_2_2 l1 hir hl hcx (tN (3 - 0)+1) 0 (-1) 0 (by refine⟨?_,?_⟩<;>(try simp only [Ls])<;>first | omega | assumption | simp) (by(try simp only [Ls]);omega)
abbrev BU:=(List (((Zt×Zt×Zt)×Int)))×Int×List Int×bB
structure PADD (b:BU) (i k:Int):Prop where
 inr:InR b.1.length b.2.2.1
 rng:0<=i/\i < k/\k<=b.2.2.1.length/\b.2.2.1.length<=1048576
 nds:b.2.2.2.length+2*(k - i)<=4194304
 lf:1<=b.2.1
 sm:k - i<=12
theorem InR.part {n:Nat} {l:List Int} (h:InR n l)(a b:Int):InR n (Aw.part l a b):=fun x hx=>h x (List.mem_of_mem_drop (List.mem_of_mem_take hx))
theorem InR.atD {n:Nat} {l:List Int} (h:InR n l)(h0:0 < n)(i:Nat):0<=l.getD i dF/\l.getD i dF < (n:Int):=by
 by_cases hi:i < l.length
 ·exact h.at hi
 ·rw [cY,List.getElem?_eq_none (by omega)]
  exact⟨Int.le_refl _,by show(0:Int) < n;omega⟩
theorem aHi {a0:bK} {a1:List Int}:∀(d i n:Nat) (m:bK),d=a1.length - i->i<=a1.length->d < n ->
 aA (eG a0 a1) n (m,(i:Int))=m++(a1.drop i).map (fun a=>a0.getD (tN a) dF)
 | 0,i,n,m,hd,hi,hn=>by
  obtain⟨n,rfl⟩:∃m,n=m+1:=⟨n - 1,by omega⟩
  have:i=a1.length:=by omega
  subst this
  have e:eG a0 a1 (m,(a1.length:Int))=.inr m:=by
   simp only [eG];rw [cG (Int.lt_irrefl _),cond_false]
  rw [aG e];simp
 | d+1,i,n,m,hd,hi,hn=>by
  obtain⟨n,rfl⟩:∃m,n=m+1:=⟨n - 1,by omega⟩
  have e:eG a0 a1 (m,(i:Int))=.inl (m++[a0.getD (tN (a1.getD i dF)) dF],((i+1:Nat):Int)):=by
   simp only [eG]
   rw [bQ (show((i:Nat):Int) < (a1.length:Nat) by omega),cond_true,fW];rfl
  rw [aB e,aHi d (i+1) n _ (by omega) (by omega) (by omega),List.drop_eq_getElem_cons (show i < a1.length by omega),List.map_cons]
  simp [cY,List.getElem?_eq_getElem (show i < a1.length by omega)]
theorem aJr (a0:bK)(a1:List Int):fC a0 a1=a1.map (fun a=>a0.getD (tN a) dF):=by
 have:=aHi (a0:=a0) (a1:=a1) a1.length 0 (tN ((a1.length:Int) - 0)+1) [] (by omega) (by omega) (by omega)
 exact this
theorem aE6 (a0:bK)(a1:List Int):(fC a0 a1).length=a1.length:=by rw [aJr];simp
theorem aW9 {N:Nat} {l:List Int} {o m:Nat} {c:BU×Int} (hw:o+m<=l.length/\l.length<=1048576)(hi:InR N l)(h12:m<=12):(eJ l o m c).length=l.length/\InR N (eJ l o m c):=by
 rw [aP6 h12]
 exact aZ1 hw hi (by omega)
theorem aBt {i k:Int} (h:0<=i/\i < k/\k<=1048576):(W (i+(W (Int.tdiv (W ((W (k - i))+1)) 2))))=i+(k - i+1) / 2:=by
 rw [aH (n:=k - i) (by omega) (by omega),aH (n:=k - i+1) (by omega) (by omega),Int.tdiv_eq_ediv_of_nonneg (by omega),aH (n:=(k - i+1) / 2) (by omega) (by omega),aH (by omega) (by omega)]
def cS (a0:bK×Int×List Int×bB)(a1:Int)(a2:Int):=(fC a0.1 (Aw.part (a0.2.2.1) a1 a2))
def fM (a0:bK×Int×List Int×bB)(a1:Int)(a2:Int):=(pT (cS a0 a1 a2) (bO (cS a0 a1 a2)))
def aHj (a0:bK×Int×List Int×bB)(a1:Int)(a2:Int):=(aBs (a0.1,a0.2.1,(a0.2.2.1,(a0.2.2.2++[(a1,a2,(-1),(-1),(bO (cS a0 a1 a2)),(fM a0 a1 a2).1)]))) (Aw.part (a0.2.2.1) a1 a2))
def yF (a0:bK×Int×List Int×bB)(a1:Int)(a2:Int):=(eJ (a0.2.2.1) (tN a1) (tN a2 - tN a1) ((a0.1,a0.2.1,(a0.2.2.1,(a0.2.2.2++[(a1,a2,(-1),(-1),(bO (cS a0 a1 a2)),(fM a0 a1 a2).1)]))),(aHj a0 a1 a2).2))
def dK (rr:zP->(Int)->(Int)->Int×bK×Int×List Int×bB)(a0:bK×Int×List Int×bB)(a1:Int)(a2:Int):=(rr (a0.1,a0.2.1,((yF a0 a1 a2),(a0.2.2.2++[(a1,a2,(-1),(-1),(bO (cS a0 a1 a2)),(fM a0 a1 a2).1)]))) a1 (W (a1+(W (Int.tdiv (W ((W (a2 - a1))+1)) 2)))))
def aM (rr:zP->(Int)->(Int)->Int×bK×Int×List Int×bB)(a0:bK×Int×List Int×bB)(a1:Int)(a2:Int):=(rr (a0.1,(dK (rr) a0 a1 a2).2.2.1,((dK (rr) a0 a1 a2).2.2.2.1,(dK (rr) a0 a1 a2).2.2.2.2)) (W (a1+(W (Int.tdiv (W ((W (a2 - a1))+1)) 2)))) a2)
def bJ:Nat->zP->(Int)->(Int)->Int×bK×Int×List Int×bB
 | 0,_,_,_=>dF
 | nr+1,a0,a1,a2 =>
 (bif (decide (((W (a2 - a1)):Int) > a0.2.1)) then
  ((a0.2.2.2.length:Int),(a0.1,(aM (bJ nr) a0 a1 a2).2.2.1,((aM (bJ nr) a0 a1 a2).2.2.2.1,(((aM (bJ nr) a0 a1 a2).2.2.2.2.set (tN (a0.2.2.2.length:Int)) (((aM (bJ nr) a0 a1 a2).2.2.2.2.getD (tN (a0.2.2.2.length:Int)) dF).1,((aM (bJ nr) a0 a1 a2).2.2.2.2.getD (tN (a0.2.2.2.length:Int)) dF).2.1,(dK (bJ nr) a0 a1 a2).1,((aM (bJ nr) a0 a1 a2).2.2.2.2.getD (tN (a0.2.2.2.length:Int)) dF).2.2.2.1,((aM (bJ nr) a0 a1 a2).2.2.2.2.getD (tN (a0.2.2.2.length:Int)) dF).2.2.2.2.1,((aM (bJ nr) a0 a1 a2).2.2.2.2.getD (tN (a0.2.2.2.length:Int)) dF).2.2.2.2.2)).set (tN (a0.2.2.2.length:Int)) ((((aM (bJ nr) a0 a1 a2).2.2.2.2.set (tN (a0.2.2.2.length:Int)) (((aM (bJ nr) a0 a1 a2).2.2.2.2.getD (tN (a0.2.2.2.length:Int)) dF).1,((aM (bJ nr) a0 a1 a2).2.2.2.2.getD (tN (a0.2.2.2.length:Int)) dF).2.1,(dK (bJ nr) a0 a1 a2).1,((aM (bJ nr) a0 a1 a2).2.2.2.2.getD (tN (a0.2.2.2.length:Int)) dF).2.2.2.1,((aM (bJ nr) a0 a1 a2).2.2.2.2.getD (tN (a0.2.2.2.length:Int)) dF).2.2.2.2.1,((aM (bJ nr) a0 a1 a2).2.2.2.2.getD (tN (a0.2.2.2.length:Int)) dF).2.2.2.2.2)).getD (tN (a0.2.2.2.length:Int)) dF).1,(((aM (bJ nr) a0 a1 a2).2.2.2.2.set (tN (a0.2.2.2.length:Int)) (((aM (bJ nr) a0 a1 a2).2.2.2.2.getD (tN (a0.2.2.2.length:Int)) dF).1,((aM (bJ nr) a0 a1 a2).2.2.2.2.getD (tN (a0.2.2.2.length:Int)) dF).2.1,(dK (bJ nr) a0 a1 a2).1,((aM (bJ nr) a0 a1 a2).2.2.2.2.getD (tN (a0.2.2.2.length:Int)) dF).2.2.2.1,((aM (bJ nr) a0 a1 a2).2.2.2.2.getD (tN (a0.2.2.2.length:Int)) dF).2.2.2.2.1,((aM (bJ nr) a0 a1 a2).2.2.2.2.getD (tN (a0.2.2.2.length:Int)) dF).2.2.2.2.2)).getD (tN (a0.2.2.2.length:Int)) dF).2.1,(((aM (bJ nr) a0 a1 a2).2.2.2.2.set (tN (a0.2.2.2.length:Int)) (((aM (bJ nr) a0 a1 a2).2.2.2.2.getD (tN (a0.2.2.2.length:Int)) dF).1,((aM (bJ nr) a0 a1 a2).2.2.2.2.getD (tN (a0.2.2.2.length:Int)) dF).2.1,(dK (bJ nr) a0 a1 a2).1,((aM (bJ nr) a0 a1 a2).2.2.2.2.getD (tN (a0.2.2.2.length:Int)) dF).2.2.2.1,((aM (bJ nr) a0 a1 a2).2.2.2.2.getD (tN (a0.2.2.2.length:Int)) dF).2.2.2.2.1,((aM (bJ nr) a0 a1 a2).2.2.2.2.getD (tN (a0.2.2.2.length:Int)) dF).2.2.2.2.2)).getD (tN (a0.2.2.2.length:Int)) dF).2.2.1,(aM (bJ nr) a0 a1 a2).1,(((aM (bJ nr) a0 a1 a2).2.2.2.2.set (tN (a0.2.2.2.length:Int)) (((aM (bJ nr) a0 a1 a2).2.2.2.2.getD (tN (a0.2.2.2.length:Int)) dF).1,((aM (bJ nr) a0 a1 a2).2.2.2.2.getD (tN (a0.2.2.2.length:Int)) dF).2.1,(dK (bJ nr) a0 a1 a2).1,((aM (bJ nr) a0 a1 a2).2.2.2.2.getD (tN (a0.2.2.2.length:Int)) dF).2.2.2.1,((aM (bJ nr) a0 a1 a2).2.2.2.2.getD (tN (a0.2.2.2.length:Int)) dF).2.2.2.2.1,((aM (bJ nr) a0 a1 a2).2.2.2.2.getD (tN (a0.2.2.2.length:Int)) dF).2.2.2.2.2)).getD (tN (a0.2.2.2.length:Int)) dF).2.2.2.2.1,(((aM (bJ nr) a0 a1 a2).2.2.2.2.set (tN (a0.2.2.2.length:Int)) (((aM (bJ nr) a0 a1 a2).2.2.2.2.getD (tN (a0.2.2.2.length:Int)) dF).1,((aM (bJ nr) a0 a1 a2).2.2.2.2.getD (tN (a0.2.2.2.length:Int)) dF).2.1,(dK (bJ nr) a0 a1 a2).1,((aM (bJ nr) a0 a1 a2).2.2.2.2.getD (tN (a0.2.2.2.length:Int)) dF).2.2.2.1,((aM (bJ nr) a0 a1 a2).2.2.2.2.getD (tN (a0.2.2.2.length:Int)) dF).2.2.2.2.1,((aM (bJ nr) a0 a1 a2).2.2.2.2.getD (tN (a0.2.2.2.length:Int)) dF).2.2.2.2.2)).getD (tN (a0.2.2.2.length:Int)) dF).2.2.2.2.2)))))
 else
  ((a0.2.2.2.length:Int),(a0.1,a0.2.1,(a0.2.2.1,(a0.2.2.2++[(a1,a2,(-1),(-1),(bO (cS a0 a1 a2)),(fM a0 a1 a2).1)])))))
def F60 (a0:bK×Int×List Int×bB)(a1:Int)(a2:Int):Int×bK×Int×List Int×bB:=bJ (tN (a2 - a1)+1) a0 a1 a2
structure ADDR (b r:BU) (i k:Int):Prop where
 pan:r.1=b.1
 leaf:r.2.1=b.2.1
 ol:r.2.2.1.length=b.2.2.1.length
 oi:InR b.1.length r.2.2.1
 lo:b.2.2.2.length < r.2.2.2.length
 hi:r.2.2.2.length<=b.2.2.2.length+2*(k - i) - 1
section
variable {nr : Nat} {b : BU} {i k : Int} (hp : PADD b i k)
include hp
theorem oN:(yF b i k).length=b.2.2.1.length/\InR b.1.length (yF b i k) :=
 aW9 (by have:=hp.rng;omega) hp.inr (by have:=hp.rng;have:=hp.sm;omega)
theorem aHk {x:Int×Int×Int×Int×Zt×Int} (h2:2<=k - i):PADD (b.1,b.2.1,(yF b i k),b.2.2.2++[x]) i (W (i+(W (Int.tdiv (W ((W (k - i))+1)) 2)))):=by
 have h:=hp.rng;have hn:=hp.nds
 rw [aBt ⟨h.1,h.2.1,by omega⟩]
 have h4:=oN hp
 exact⟨h4.2,⟨h.1,by omega,by rw [h4.1];omega,by rw [h4.1];omega⟩,by simp only [List.length_append,List.length_cons,List.length_nil];omega,hp.lf,by have:=hp.sm;omega⟩
end
theorem aJs {b r:BU} {i k:Int} {o:List Int} {x:Int×Int×Int×Int×Zt×Int} (hp:PADD b i k)(ho:o.length=b.2.2.1.length)(h2:2<=k - i)(hr:ADDR (b.1,b.2.1,o,b.2.2.2++[x]) r i (W (i+(W (Int.tdiv (W ((W (k - i))+1)) 2))))) :
 PADD (b.1,r.2.1,r.2.2.1,r.2.2.2) (W (i+(W (Int.tdiv (W ((W (k - i))+1)) 2)))) k:=by
 have h:=hp.rng;have hn:=hp.nds
 obtain⟨g1,g2,g3,g4,g5,g6⟩:=hr
 rw [aBt ⟨h.1,h.2.1,by omega⟩] at g6 ⊢
 simp only [List.length_append,List.length_cons,List.length_nil] at g3 g5 g6 g2
 exact⟨g4,⟨by omega,by omega,by rw [g3];omega,by rw [g3];omega⟩,by simp only;omega,by rw [g2];exact hp.lf,by have:=hp.sm;omega⟩
theorem kI:∀(nr:Nat) (b:BU) (i k:Int),PADD b i k->tN (k - i) < nr->ADDR b (bJ nr b i k).2 i k
 | 0,b,i,k,_,hn=>absurd hn (fJ _)
 | nr+1,b,i,k,hp,hn=>by
  have h:=hp.rng;have hn2:=hp.nds;have hl:=hp.lf
  have hW:W (k - i)=k - i:=aH (by omega) (by omega)
  simp only [bJ]
  by_cases h0:W (k - i) > b.2.1
  ·rw [bQ h0,cond_true]
   have h2:2<=k - i:=by omega
   have hm:=aBt ⟨h.1,h.2.1,by omega⟩
   have h5:ADDR _ (dK (bJ nr) b i k).2 i _:=kI nr _ _ _ (aHk hp h2) (by rw [hm];omega)
   have h6:ADDR _ (aM (bJ nr) b i k).2 _ k:=kI nr _ _ _ (aJs hp (oN hp).1 h2 h5) (by rw [hm];omega)
   have g3:=h5.ol;have g5:=h5.lo;have g6:=h5.hi;have f3:=h6.ol;have f5:=h6.lo;have f6:=h6.hi
   rw [hm] at g6 f6
   simp only [List.length_append,List.length_cons,List.length_nil] at g3 g5 g6 f3 f5 f6
   refine⟨rfl,h6.leaf.trans h5.leaf,?_,h6.oi,?_,?_⟩
   ·show(aM (bJ nr) b i k).2.2.2.1.length=_
    rw [f3,g3];exact(oN hp).1
   ·simp only [List.length_set];omega
   ·simp only [List.length_set];omega
  ·rw [cG h0,cond_false]
   exact⟨rfl,rfl,rfl,hp.inr,by simp,by simp;omega⟩
theorem bB7:∀(nr:Nat) (a0:bK×Int×List Int×bB) (a1:Int) (a2:Int) (l0_1:a0.1.length<=2^63-1) (l0_2_2_1:a0.2.2.1.length<=2^63-1) (l0_2_2_2:a0.2.2.2.length<=2^63-1) (hp:PADD a0 a1 a2),tN (a2 - a1) < nr->Con Tryz.prog 60 [(.p 0 0),(iv a1),(iv a2)] [(.live true false [(.s 1 0 a0.1.length 10),(iv a0.2.1),(.s 2 0 a0.2.2.1.length 1),(.s 3 0 a0.2.2.2.length 8)]),(.live false true (flat gB a0.1)),(.live true true (flat c3 a0.2.2.1)),(.live true true (flat dO a0.2.2.2))] (iv (bJ nr a0 a1 a2).1) [(.live true true (flat dO (bJ nr a0 a1 a2).2.2.2.2))] [(.live true false [(.s 1 0 a0.1.length 10),(iv (bJ nr a0 a1 a2).2.2.1),(.s 2 0 (bJ nr a0 a1 a2).2.2.2.1.length 1),(.s 4 0 (bJ nr a0 a1 a2).2.2.2.2.length 8)]),.un,(.live true true (flat c3 (bJ nr a0 a1 a2).2.2.2.1)),.dead]:=by
 intro nr
 induction nr with
 | zero=>intro a0 a1 a2 l0_1 l0_2_2_1 l0_2_2_2 hp hlt;exact absurd hlt (fJ _)
 | succ nr ihr =>
 intro a0 a1 a2 l0_1 l0_2_2_1 l0_2_2_2 hp hlt
 refine aT Tryz.func60 (by kernel_rfl) fun cx hcx=>?_
 have hps:=hp.sm
 have hpr:=hp.rng
 have hpn:=hp.nds
 have hpl:=hp.lf
 have hpt:=part_len (l:=a0.2.2.1) (a:=a1) (b:=a2) (by omega)
 have hm1:(cS a0 a1 a2).length=_:=aE6 a0.1 (Aw.part a0.2.2.1 a1 a2)
 have hW:W (a2 - a1)=a2 - a1:=aH (by omega) (by omega)
 have hmid:=aBt (i:=a1) (k:=a2) (by omega)
 have h4:=oN hp
 try have h2:2<=a2 - a1:=(fun _=>by omega) h0
 try have h5:ADDR _ (dK (bJ nr) a0 a1 a2).2 a1 _:=(fun _=>kI nr _ _ _ (aHk hp h2) (by rw [hmid];omega)) h0
 try have h6:ADDR _ (aM (bJ nr) a0 a1 a2).2 _ a2:=(fun _=>kI nr _ _ _ (aJs hp (oN hp).1 h2 h5) (by rw [hmid];omega)) h0
 try have g5:=(fun _=>h5.lo) h0
 try have g6:=(fun _=>h5.hi) h0
 try have g3:=(fun _=>h5.ol) h0
 try have f5:=(fun _=>h6.lo) h0
 try have f6:=(fun _=>h6.hi) h0
 try have f3:=(fun _=>h6.ol) h0
 try (have _:=h0;rw [hmid] at g6 f6;simp only [List.length_append,List.length_cons,List.length_nil] at g3 g5 g6 f3 f5 f6)
 let t0:List (St Tryz.prog):=[.sub a1 a2 (a0.2.2.1.length),.c [1,2] (show Con Tryz.prog 99 [(.s 0 0 a0.1.length 10),(.s 1 (0+tN a1*1) (tN a2 - tN a1) 1)] [(.live false true (flat gB a0.1)),(.live false true (flat c3 a0.2.2.1))] (.s 2 0 (cS a0 a1 a2).length 10) [(.live true true (flat gB (cS a0 a1 a2)))] from Con.part (l:=a0.2.2.1) (a:=a1) (b:=a2) (c:=c3) (pre:=[(.s 0 0 a0.1.length 10)]) (post:=[]) (bs1:=[(.live false true (flat gB a0.1))]) (bs2:=[]) 1 aW (by omega) rfl (by rfl) (aS2 a0.1 (Aw.part (a0.2.2.1) a1 a2) (by omega) (by(try simp only [Lt]);omega) (hp.inr.part a1 a2) (by omega))),.c [4] (aW2 (cS a0 a1 a2) (by(try simp only [Lt]);omega) (by omega)),.c [4] (aW7 (cS a0 a1 a2) (bO (cS a0 a1 a2)) (by(try simp only [Lt]);omega) (by omega)),.p (show((flat dO a0.2.2.2).length=a0.2.2.2.length*8/\a0.2.2.2.length+1<=2 ^ 40/\(a0.2.2.2.length+1)*64<=2 ^ 47) from jW cZ (by omega) (by omega))]
 cases h0:(decide (((W (a2 - a1)):Int) > a0.2.1)) with
 | true =>
  have q0:=dB h0
  have h4:=oN hp
  try have h2:2<=a2 - a1:=(fun _=>by omega) h0
  try have h5:ADDR _ (dK (bJ nr) a0 a1 a2).2 a1 _:=(fun _=>kI nr _ _ _ (aHk hp h2) (by rw [hmid];omega)) h0
  try have h6:ADDR _ (aM (bJ nr) a0 a1 a2).2 _ a2:=(fun _=>kI nr _ _ _ (aJs hp (oN hp).1 h2 h5) (by rw [hmid];omega)) h0
  try have g5:=(fun _=>h5.lo) h0
  try have g6:=(fun _=>h5.hi) h0
  try have g3:=(fun _=>h5.ol) h0
  try have f5:=(fun _=>h6.lo) h0
  try have f6:=(fun _=>h6.hi) h0
  try have f3:=(fun _=>h6.ol) h0
  try (have _:=h0;rw [hmid] at g6 f6;simp only [List.length_append,List.length_cons,List.length_nil] at g3 g5 g6 f3 f5 f6)
  have e:=Eq.refl (bJ (nr+1) a0 a1 a2);conv at e=>rhs;simp only [bJ,h0,aX]
  rw [e]
  try dsimp only [bD]
  try dsimp only
  rw [show flat dO (((aM (bJ nr) a0 a1 a2).2.2.2.2.set (tN (a0.2.2.2.length:Int)) (((aM (bJ nr) a0 a1 a2).2.2.2.2.getD (tN (a0.2.2.2.length:Int)) dF).1,((aM (bJ nr) a0 a1 a2).2.2.2.2.getD (tN (a0.2.2.2.length:Int)) dF).2.1,(dK (bJ nr) a0 a1 a2).1,((aM (bJ nr) a0 a1 a2).2.2.2.2.getD (tN (a0.2.2.2.length:Int)) dF).2.2.2.1,((aM (bJ nr) a0 a1 a2).2.2.2.2.getD (tN (a0.2.2.2.length:Int)) dF).2.2.2.2.1,((aM (bJ nr) a0 a1 a2).2.2.2.2.getD (tN (a0.2.2.2.length:Int)) dF).2.2.2.2.2)).set (tN (a0.2.2.2.length:Int)) ((((aM (bJ nr) a0 a1 a2).2.2.2.2.set (tN (a0.2.2.2.length:Int)) (((aM (bJ nr) a0 a1 a2).2.2.2.2.getD (tN (a0.2.2.2.length:Int)) dF).1,((aM (bJ nr) a0 a1 a2).2.2.2.2.getD (tN (a0.2.2.2.length:Int)) dF).2.1,(dK (bJ nr) a0 a1 a2).1,((aM (bJ nr) a0 a1 a2).2.2.2.2.getD (tN (a0.2.2.2.length:Int)) dF).2.2.2.1,((aM (bJ nr) a0 a1 a2).2.2.2.2.getD (tN (a0.2.2.2.length:Int)) dF).2.2.2.2.1,((aM (bJ nr) a0 a1 a2).2.2.2.2.getD (tN (a0.2.2.2.length:Int)) dF).2.2.2.2.2)).getD (tN (a0.2.2.2.length:Int)) dF).1,(((aM (bJ nr) a0 a1 a2).2.2.2.2.set (tN (a0.2.2.2.length:Int)) (((aM (bJ nr) a0 a1 a2).2.2.2.2.getD (tN (a0.2.2.2.length:Int)) dF).1,((aM (bJ nr) a0 a1 a2).2.2.2.2.getD (tN (a0.2.2.2.length:Int)) dF).2.1,(dK (bJ nr) a0 a1 a2).1,((aM (bJ nr) a0 a1 a2).2.2.2.2.getD (tN (a0.2.2.2.length:Int)) dF).2.2.2.1,((aM (bJ nr) a0 a1 a2).2.2.2.2.getD (tN (a0.2.2.2.length:Int)) dF).2.2.2.2.1,((aM (bJ nr) a0 a1 a2).2.2.2.2.getD (tN (a0.2.2.2.length:Int)) dF).2.2.2.2.2)).getD (tN (a0.2.2.2.length:Int)) dF).2.1,(((aM (bJ nr) a0 a1 a2).2.2.2.2.set (tN (a0.2.2.2.length:Int)) (((aM (bJ nr) a0 a1 a2).2.2.2.2.getD (tN (a0.2.2.2.length:Int)) dF).1,((aM (bJ nr) a0 a1 a2).2.2.2.2.getD (tN (a0.2.2.2.length:Int)) dF).2.1,(dK (bJ nr) a0 a1 a2).1,((aM (bJ nr) a0 a1 a2).2.2.2.2.getD (tN (a0.2.2.2.length:Int)) dF).2.2.2.1,((aM (bJ nr) a0 a1 a2).2.2.2.2.getD (tN (a0.2.2.2.length:Int)) dF).2.2.2.2.1,((aM (bJ nr) a0 a1 a2).2.2.2.2.getD (tN (a0.2.2.2.length:Int)) dF).2.2.2.2.2)).getD (tN (a0.2.2.2.length:Int)) dF).2.2.1,(aM (bJ nr) a0 a1 a2).1,(((aM (bJ nr) a0 a1 a2).2.2.2.2.set (tN (a0.2.2.2.length:Int)) (((aM (bJ nr) a0 a1 a2).2.2.2.2.getD (tN (a0.2.2.2.length:Int)) dF).1,((aM (bJ nr) a0 a1 a2).2.2.2.2.getD (tN (a0.2.2.2.length:Int)) dF).2.1,(dK (bJ nr) a0 a1 a2).1,((aM (bJ nr) a0 a1 a2).2.2.2.2.getD (tN (a0.2.2.2.length:Int)) dF).2.2.2.1,((aM (bJ nr) a0 a1 a2).2.2.2.2.getD (tN (a0.2.2.2.length:Int)) dF).2.2.2.2.1,((aM (bJ nr) a0 a1 a2).2.2.2.2.getD (tN (a0.2.2.2.length:Int)) dF).2.2.2.2.2)).getD (tN (a0.2.2.2.length:Int)) dF).2.2.2.2.1,(((aM (bJ nr) a0 a1 a2).2.2.2.2.set (tN (a0.2.2.2.length:Int)) (((aM (bJ nr) a0 a1 a2).2.2.2.2.getD (tN (a0.2.2.2.length:Int)) dF).1,((aM (bJ nr) a0 a1 a2).2.2.2.2.getD (tN (a0.2.2.2.length:Int)) dF).2.1,(dK (bJ nr) a0 a1 a2).1,((aM (bJ nr) a0 a1 a2).2.2.2.2.getD (tN (a0.2.2.2.length:Int)) dF).2.2.2.1,((aM (bJ nr) a0 a1 a2).2.2.2.2.getD (tN (a0.2.2.2.length:Int)) dF).2.2.2.2.1,((aM (bJ nr) a0 a1 a2).2.2.2.2.getD (tN (a0.2.2.2.length:Int)) dF).2.2.2.2.2)).getD (tN (a0.2.2.2.length:Int)) dF).2.2.2.2.2))=(splice (splice (flat dO (aM (bJ nr) a0 a1 a2).2.2.2.2) (0+tN (a0.2.2.2.length:Int)*8+2) [(iv (dK (bJ nr) a0 a1 a2).1)]) (0+tN (a0.2.2.2.length:Int)*8+3) [(iv (aM (bJ nr) a0 a1 a2).1)]) from Eq.symm (by rw [show(splice (flat dO (aM (bJ nr) a0 a1 a2).2.2.2.2) (0+tN (a0.2.2.2.length:Int)*8+2) [(iv (dK (bJ nr) a0 a1 a2).1)])=flat dO ((aM (bJ nr) a0 a1 a2).2.2.2.2.set (tN (a0.2.2.2.length:Int)) (((aM (bJ nr) a0 a1 a2).2.2.2.2.getD (tN (a0.2.2.2.length:Int)) dF).1,((aM (bJ nr) a0 a1 a2).2.2.2.2.getD (tN (a0.2.2.2.length:Int)) dF).2.1,(dK (bJ nr) a0 a1 a2).1,((aM (bJ nr) a0 a1 a2).2.2.2.2.getD (tN (a0.2.2.2.length:Int)) dF).2.2.2.1,((aM (bJ nr) a0 a1 a2).2.2.2.2.getD (tN (a0.2.2.2.length:Int)) dF).2.2.2.2.1,((aM (bJ nr) a0 a1 a2).2.2.2.2.getD (tN (a0.2.2.2.length:Int)) dF).2.2.2.2.2)) from(bE cZ (by first | omega | (simp only [Lt];omega)) (o:=2) (d:=dF) (Nb rfl) rfl)];exact bE cZ (by first | omega | (simp only [Lt];omega)) (o:=3) (d:=dF) (Nb rfl) rfl)]
  try rw [show List.length (α:=Int×Int×Int×Int×Zt×Int) (((aM (bJ nr) a0 a1 a2).2.2.2.2.set (tN (a0.2.2.2.length:Int)) (((aM (bJ nr) a0 a1 a2).2.2.2.2.getD (tN (a0.2.2.2.length:Int)) dF).1,((aM (bJ nr) a0 a1 a2).2.2.2.2.getD (tN (a0.2.2.2.length:Int)) dF).2.1,(dK (bJ nr) a0 a1 a2).1,((aM (bJ nr) a0 a1 a2).2.2.2.2.getD (tN (a0.2.2.2.length:Int)) dF).2.2.2.1,((aM (bJ nr) a0 a1 a2).2.2.2.2.getD (tN (a0.2.2.2.length:Int)) dF).2.2.2.2.1,((aM (bJ nr) a0 a1 a2).2.2.2.2.getD (tN (a0.2.2.2.length:Int)) dF).2.2.2.2.2)).set (tN (a0.2.2.2.length:Int)) ((((aM (bJ nr) a0 a1 a2).2.2.2.2.set (tN (a0.2.2.2.length:Int)) (((aM (bJ nr) a0 a1 a2).2.2.2.2.getD (tN (a0.2.2.2.length:Int)) dF).1,((aM (bJ nr) a0 a1 a2).2.2.2.2.getD (tN (a0.2.2.2.length:Int)) dF).2.1,(dK (bJ nr) a0 a1 a2).1,((aM (bJ nr) a0 a1 a2).2.2.2.2.getD (tN (a0.2.2.2.length:Int)) dF).2.2.2.1,((aM (bJ nr) a0 a1 a2).2.2.2.2.getD (tN (a0.2.2.2.length:Int)) dF).2.2.2.2.1,((aM (bJ nr) a0 a1 a2).2.2.2.2.getD (tN (a0.2.2.2.length:Int)) dF).2.2.2.2.2)).getD (tN (a0.2.2.2.length:Int)) dF).1,(((aM (bJ nr) a0 a1 a2).2.2.2.2.set (tN (a0.2.2.2.length:Int)) (((aM (bJ nr) a0 a1 a2).2.2.2.2.getD (tN (a0.2.2.2.length:Int)) dF).1,((aM (bJ nr) a0 a1 a2).2.2.2.2.getD (tN (a0.2.2.2.length:Int)) dF).2.1,(dK (bJ nr) a0 a1 a2).1,((aM (bJ nr) a0 a1 a2).2.2.2.2.getD (tN (a0.2.2.2.length:Int)) dF).2.2.2.1,((aM (bJ nr) a0 a1 a2).2.2.2.2.getD (tN (a0.2.2.2.length:Int)) dF).2.2.2.2.1,((aM (bJ nr) a0 a1 a2).2.2.2.2.getD (tN (a0.2.2.2.length:Int)) dF).2.2.2.2.2)).getD (tN (a0.2.2.2.length:Int)) dF).2.1,(((aM (bJ nr) a0 a1 a2).2.2.2.2.set (tN (a0.2.2.2.length:Int)) (((aM (bJ nr) a0 a1 a2).2.2.2.2.getD (tN (a0.2.2.2.length:Int)) dF).1,((aM (bJ nr) a0 a1 a2).2.2.2.2.getD (tN (a0.2.2.2.length:Int)) dF).2.1,(dK (bJ nr) a0 a1 a2).1,((aM (bJ nr) a0 a1 a2).2.2.2.2.getD (tN (a0.2.2.2.length:Int)) dF).2.2.2.1,((aM (bJ nr) a0 a1 a2).2.2.2.2.getD (tN (a0.2.2.2.length:Int)) dF).2.2.2.2.1,((aM (bJ nr) a0 a1 a2).2.2.2.2.getD (tN (a0.2.2.2.length:Int)) dF).2.2.2.2.2)).getD (tN (a0.2.2.2.length:Int)) dF).2.2.1,(aM (bJ nr) a0 a1 a2).1,(((aM (bJ nr) a0 a1 a2).2.2.2.2.set (tN (a0.2.2.2.length:Int)) (((aM (bJ nr) a0 a1 a2).2.2.2.2.getD (tN (a0.2.2.2.length:Int)) dF).1,((aM (bJ nr) a0 a1 a2).2.2.2.2.getD (tN (a0.2.2.2.length:Int)) dF).2.1,(dK (bJ nr) a0 a1 a2).1,((aM (bJ nr) a0 a1 a2).2.2.2.2.getD (tN (a0.2.2.2.length:Int)) dF).2.2.2.1,((aM (bJ nr) a0 a1 a2).2.2.2.2.getD (tN (a0.2.2.2.length:Int)) dF).2.2.2.2.1,((aM (bJ nr) a0 a1 a2).2.2.2.2.getD (tN (a0.2.2.2.length:Int)) dF).2.2.2.2.2)).getD (tN (a0.2.2.2.length:Int)) dF).2.2.2.2.1,(((aM (bJ nr) a0 a1 a2).2.2.2.2.set (tN (a0.2.2.2.length:Int)) (((aM (bJ nr) a0 a1 a2).2.2.2.2.getD (tN (a0.2.2.2.length:Int)) dF).1,((aM (bJ nr) a0 a1 a2).2.2.2.2.getD (tN (a0.2.2.2.length:Int)) dF).2.1,(dK (bJ nr) a0 a1 a2).1,((aM (bJ nr) a0 a1 a2).2.2.2.2.getD (tN (a0.2.2.2.length:Int)) dF).2.2.2.1,((aM (bJ nr) a0 a1 a2).2.2.2.2.getD (tN (a0.2.2.2.length:Int)) dF).2.2.2.2.1,((aM (bJ nr) a0 a1 a2).2.2.2.2.getD (tN (a0.2.2.2.length:Int)) dF).2.2.2.2.2)).getD (tN (a0.2.2.2.length:Int)) dF).2.2.2.2.2))=(aM (bJ nr) a0 a1 a2).2.2.2.2.length from by first | simp;done | omega]
  exact rtm (t0++[.d h0,.sub a1 a2 (a0.2.2.1.length),.sub a1 a2 (a0.2.2.1.length),.c [0,1,2,7] (show Con Tryz.prog 103 [(.p 0 0),(.s 2 (0+tN a1*1) (tN a2 - tN a1) 1)] [(.live false false [(.s 1 0 a0.1.length 10),(iv a0.2.1),(.s 2 0 a0.2.2.1.length 1),(.s 3 0 (a0.2.2.2.length+1) 8)]),(.live false true (flat gB a0.1)),(.live false true (flat c3 a0.2.2.1)),(.live false true (flat dO a0.2.2.2++[(iv a1),(iv a2),(iv (-1)),(iv (-1)),(iv (bO (cS a0 a1 a2)).1),(iv (bO (cS a0 a1 a2)).2.1),(iv (bO (cS a0 a1 a2)).2.2),(iv (fM a0 a1 a2).1)]))] (.a [(.p 0 0),(iv (aHj a0 a1 a2).2)]) [] from Con.alias (l:=a0.2.2.1) (a:=a1) (b:=a2) (c:=c3) (pre:=[(.p 0 0)]) (post:=[]) (bs:=[(.live false false [(.s 1 0 a0.1.length 10),(iv a0.2.1),(.s 2 0 a0.2.2.1.length 1),(.s 3 0 (a0.2.2.2.length+1) 8)]),(.live false true (flat gB a0.1)),(.live false true (flat c3 a0.2.2.1)),(.live false true (flat dO a0.2.2.2++[(iv a1),(iv a2),(iv (-1)),(iv (-1)),(iv (bO (cS a0 a1 a2)).1),(iv (bO (cS a0 a1 a2)).2.1),(iv (bO (cS a0 a1 a2)).2.2),(iv (fM a0 a1 a2).1)]))]) 2 aW (by omega) rfl (by rfl) (by have q:=(aW8 (a0.1,a0.2.1,(a0.2.2.1,(a0.2.2.2++[(a1,a2,(-1),(-1),(bO (cS a0 a1 a2)),(fM a0 a1 a2).1)]))) (Aw.part (a0.2.2.1) a1 a2) (by(try simp only [Lt]);omega) (by(try simp only [Lt]);omega) (by(try simp only [Lt]);omega) (by(try simp only [Lt]);omega) (hp.inr.part a1 a2) (by omega));(try dsimp only at q);rw [show flat dO (a0.2.2.2++[(a1,a2,(-1),(-1),(bO (cS a0 a1 a2)),(fM a0 a1 a2).1)])=(flat dO a0.2.2.2++[(iv a1),(iv a2),(iv (-1)),(iv (-1)),(iv (bO (cS a0 a1 a2)).1),(iv (bO (cS a0 a1 a2)).2.1),(iv (bO (cS a0 a1 a2)).2.2),(iv (fM a0 a1 a2).1)]) from cJ] at q;(try rw [show List.length (α:=Int×Int×Int×Int×Zt×Int) (a0.2.2.2++[(a1,a2,(-1),(-1),(bO (cS a0 a1 a2)),(fM a0 a1 a2).1)])=(a0.2.2.2.length+1) from by first | simp;done | omega] at q);exact q)),.c [2,0,1,7] (by have q:=(aHg (a0.2.2.1) (tN a1) (tN a2 - tN a1) ((a0.1,a0.2.1,(a0.2.2.1,(a0.2.2.2++[(a1,a2,(-1),(-1),(bO (cS a0 a1 a2)),(fM a0 a1 a2).1)]))),(aHj a0 a1 a2).2) (by(try simp only [Lt]);omega) (by(try simp only [Lt]);omega) (by(try simp only [Lt]);omega) (by(try simp only [Lt]);omega) (by omega) hp.inr (by omega));(try dsimp only at q);rw [show flat dO (a0.2.2.2++[(a1,a2,(-1),(-1),(bO (cS a0 a1 a2)),(fM a0 a1 a2).1)])=(flat dO a0.2.2.2++[(iv a1),(iv a2),(iv (-1)),(iv (-1)),(iv (bO (cS a0 a1 a2)).1),(iv (bO (cS a0 a1 a2)).2.1),(iv (bO (cS a0 a1 a2)).2.2),(iv (fM a0 a1 a2).1)]) from cJ] at q;(try rw [show List.length (α:=Int×Int×Int×Int×Zt×Int) (a0.2.2.2++[(a1,a2,(-1),(-1),(bO (cS a0 a1 a2)),(fM a0 a1 a2).1)])=(a0.2.2.2.length+1) from by first | simp;done | omega] at q);exact q),.p (show(2:Int)≠0 from by decide),.c [0,1,2,7] (by have q:=(ihr (a0.1,a0.2.1,((yF a0 a1 a2),(a0.2.2.2++[(a1,a2,(-1),(-1),(bO (cS a0 a1 a2)),(fM a0 a1 a2).1)]))) a1 (W (a1+(W (Int.tdiv (W ((W (a2 - a1))+1)) 2)))) (by(try simp only [Lt]);omega) (by(try simp only [Lt]);omega) (by(try simp only [Lt]);omega) (by first | exact aHk hp h2 | exact aJs hp (oN hp).1 h2 h5) (by rw [hmid];omega));(try dsimp only at q);rw [show flat dO (a0.2.2.2++[(a1,a2,(-1),(-1),(bO (cS a0 a1 a2)),(fM a0 a1 a2).1)])=(flat dO a0.2.2.2++[(iv a1),(iv a2),(iv (-1)),(iv (-1)),(iv (bO (cS a0 a1 a2)).1),(iv (bO (cS a0 a1 a2)).2.1),(iv (bO (cS a0 a1 a2)).2.2),(iv (fM a0 a1 a2).1)]) from cJ] at q;(try rw [show List.length (α:=Int) (yF a0 a1 a2)=a0.2.2.1.length from by first | simp;done | omega] at q);(try rw [show List.length (α:=Int×Int×Int×Int×Zt×Int) (a0.2.2.2++[(a1,a2,(-1),(-1),(bO (cS a0 a1 a2)),(fM a0 a1 a2).1)])=(a0.2.2.2.length+1) from by first | simp;done | omega] at q);exact q),.c [0,1,2,8] (ihr (a0.1,(dK (bJ nr) a0 a1 a2).2.2.1,((dK (bJ nr) a0 a1 a2).2.2.2.1,(dK (bJ nr) a0 a1 a2).2.2.2.2)) (W (a1+(W (Int.tdiv (W ((W (a2 - a1))+1)) 2)))) a2 (by(try simp only [Lt]);omega) (by(try simp only [Lt]);omega) (by(try simp only [Lt]);omega) (by first | exact aHk hp h2 | exact aJs hp (oN hp).1 h2 h5) (by rw [hmid];omega)),.i (a0.2.2.2.length:Int) ((aM (bJ nr) a0 a1 a2).2.2.2.2.length),.p (show((0+tN (a0.2.2.2.length:Int)*8+2)+1<=(flat dO (aM (bJ nr) a0 a1 a2).2.2.2.2).length) from(iD cZ (by first | omega | (simp only [Lt];omega)) (o:=2) (Nb rfl))),.i (a0.2.2.2.length:Int) ((aM (bJ nr) a0 a1 a2).2.2.2.2.length),.p (show((0+tN (a0.2.2.2.length:Int)*8+3)+1<=(splice (flat dO (aM (bJ nr) a0 a1 a2).2.2.2.2) (0+tN (a0.2.2.2.length:Int)*8+2) [(iv (dK (bJ nr) a0 a1 a2).1)]).length) from(by rw [show(splice (flat dO (aM (bJ nr) a0 a1 a2).2.2.2.2) (0+tN (a0.2.2.2.length:Int)*8+2) [(iv (dK (bJ nr) a0 a1 a2).1)])=flat dO ((aM (bJ nr) a0 a1 a2).2.2.2.2.set (tN (a0.2.2.2.length:Int)) (((aM (bJ nr) a0 a1 a2).2.2.2.2.getD (tN (a0.2.2.2.length:Int)) dF).1,((aM (bJ nr) a0 a1 a2).2.2.2.2.getD (tN (a0.2.2.2.length:Int)) dF).2.1,(dK (bJ nr) a0 a1 a2).1,((aM (bJ nr) a0 a1 a2).2.2.2.2.getD (tN (a0.2.2.2.length:Int)) dF).2.2.2.1,((aM (bJ nr) a0 a1 a2).2.2.2.2.getD (tN (a0.2.2.2.length:Int)) dF).2.2.2.2.1,((aM (bJ nr) a0 a1 a2).2.2.2.2.getD (tN (a0.2.2.2.length:Int)) dF).2.2.2.2.2)) from(bE cZ (by first | omega | (simp only [Lt];omega)) (o:=2) (d:=dF) (Nb rfl) rfl)];exact iD cZ (by first | omega | (simp only [Lt];omega)) (o:=3) (Nb rfl)))]) [] [0,2,3] [9] hcx (by kernel_rfl)
 | false =>
  have q0:=eC h0
  have h4:=oN hp
  try have h2:2<=a2 - a1:=(fun _=>by omega) h0
  try have h5:ADDR _ (dK (bJ nr) a0 a1 a2).2 a1 _:=(fun _=>kI nr _ _ _ (aHk hp h2) (by rw [hmid];omega)) h0
  try have h6:ADDR _ (aM (bJ nr) a0 a1 a2).2 _ a2:=(fun _=>kI nr _ _ _ (aJs hp (oN hp).1 h2 h5) (by rw [hmid];omega)) h0
  try have g5:=(fun _=>h5.lo) h0
  try have g6:=(fun _=>h5.hi) h0
  try have g3:=(fun _=>h5.ol) h0
  try have f5:=(fun _=>h6.lo) h0
  try have f6:=(fun _=>h6.hi) h0
  try have f3:=(fun _=>h6.ol) h0
  try (have _:=h0;rw [hmid] at g6 f6;simp only [List.length_append,List.length_cons,List.length_nil] at g3 g5 g6 f3 f5 f6)
  have e:=Eq.refl (bJ (nr+1) a0 a1 a2);conv at e=>rhs;simp only [bJ,h0,aX]
  rw [e]
  try dsimp only [bD]
  try dsimp only
  rw [show flat dO (a0.2.2.2++[(a1,a2,(-1),(-1),(bO (cS a0 a1 a2)),(fM a0 a1 a2).1)])=(flat dO a0.2.2.2++[(iv a1),(iv a2),(iv (-1)),(iv (-1)),(iv (bO (cS a0 a1 a2)).1),(iv (bO (cS a0 a1 a2)).2.1),(iv (bO (cS a0 a1 a2)).2.2),(iv (fM a0 a1 a2).1)]) from cJ]
  try rw [show List.length (α:=Int×Int×Int×Int×Zt×Int) (a0.2.2.2++[(a1,a2,(-1),(-1),(bO (cS a0 a1 a2)),(fM a0 a1 a2).1)])=(a0.2.2.2.length+1) from by first | simp;done | omega]
  exact rtm (t0++[.d h0]) [] [0,2,3] [7] hcx (by kernel_rfl)
theorem C60 (a0:bK×Int×List Int×bB)(a1:Int)(a2:Int)(l0_1:a0.1.length<=2^63-1)(l0_2_2_1:a0.2.2.1.length<=2^63-1)(l0_2_2_2:a0.2.2.2.length<=2^63-1)(hp:PADD a0 a1 a2):Con Tryz.prog 60 [(.p 0 0),(iv a1),(iv a2)] [(.live true false [(.s 1 0 a0.1.length 10),(iv a0.2.1),(.s 2 0 a0.2.2.1.length 1),(.s 3 0 a0.2.2.2.length 8)]),(.live false true (flat gB a0.1)),(.live true true (flat c3 a0.2.2.1)),(.live true true (flat dO a0.2.2.2))] (iv (F60 a0 a1 a2).1) [(.live true true (flat dO (F60 a0 a1 a2).2.2.2.2))] [(.live true false [(.s 1 0 a0.1.length 10),(iv (F60 a0 a1 a2).2.2.1),(.s 2 0 (F60 a0 a1 a2).2.2.2.1.length 1),(.s 4 0 (F60 a0 a1 a2).2.2.2.2.length 8)]),.un,(.live true true (flat c3 (F60 a0 a1 a2).2.2.2.1)),.dead]:=bB7 (tN (a2 - a1)+1) a0 a1 a2 l0_1 l0_2_2_1 l0_2_2_2 hp (lss _)
end Go.Proofs.YtlckcjfbjnjfhaaGreat
namespace Go.Proofs.YtlckcjfbjnjfhaaGreat
open Go.Proofs Go.Aw Go.RowKit
set_option maxRecDepth 100000
theorem InR.add {n:Nat} {l:List Int} (h:InR n l) {x:Int} (hx:0<=x/\x < (n:Int)):InR n (l++[x]):=fun y hy=>by
 rcases List.mem_append.1 hy with hy | hy
 ·exact h y hy
 ·rw [List.mem_singleton.1 hy];exact hx
theorem InR.nil (n:Nat):InR n []:=fun y hy=>by simp at hy
noncomputable def aE7:Code:=(aP [1,1,0,1] [] (aN Tryz.f35) []).1
noncomputable def aE8:List K:=(aP [1,1,0,1] [] (aN Tryz.f35) []).2
def aBu (a0:bK)(a1:Int)(v3c:List SV)(v3n:Nat)(v4c:List SV)(v4n:Nat)(v5:Int):LS:=⟨kG 40 [(0,(.s 0 0 a0.length 10)),(4,(.p 1 0)),(5,(.p 2 0)),(12,(iv (a0.length:Int))),(13,(iv v5))],[(.live false true (flat gB a0)),(.live true false [(.v (.slice none 0 0)),(.v (.slice none 0 0))]),(.live true false [(.s 0 0 a0.length 10),(iv a1),(.s 3 0 v3n 1),(.s 4 0 v4n 8)]),(.live true true v3c),(.live true true v4c)]⟩
def fD (a0:bK)(a1:Int):List Int×bB×Int->(List Int×bB×Int)⊕(List Int×bB)
 | (v3,v4,v5) =>
  (bif (decide ((v5:Int) < (a0.length:Int))) then
   (.inl ((v3++[v5]),v4,(v5+1)))
  else
   (bif (decide (((a0.length:Int):Int) > 0)) then
    (.inr ((F60 (a0,a1,(v3,v4)) 0 (a0.length:Int)).2.2.2.1,(F60 (a0,a1,(v3,v4)) 0 (a0.length:Int)).2.2.2.2))
   else
    (.inr (v3,v4))))
theorem aS3 (a0:bK)(a1:Int)(l0:a0.length<=2^63-1)(hl:a0.length<=12)(hf:1<=a1) {cx:Cx} (hcx:cx.base=1):∀(n:Nat) (v3:List Int) (v4:bB) (v5:Int),(0<=v5)/\(v3.length=tN v5)/\(InR a0.length v3)/\(v4.length=0)/\(v5<=a0.length)/\(a0.length<=12)/\(1<=a1)->tN ((a0.length:Int) - v5) < n->Aw.Good Tryz.prog none 9 (bodyPost Tryz.prog Tryz.f35 (RR cx (.a [(.s 1 0 (aA (fD a0 a1) n (v3,v4,v5)).1.length 1),(.s 2 0 (aA (fD a0 a1) n (v3,v4,v5)).2.length 8)]) [(.live true true (flat c3 (aA (fD a0 a1) n (v3,v4,v5)).1)),(.live true true (flat dO (aA (fD a0 a1) n (v3,v4,v5)).2))] [])) cx [] (.l aE7 n::aE8) (aBu a0 a1 (flat c3 v3) v3.length (flat dO v4) v4.length v5):=by
 intro n
 induction n with
 | zero=>intro v3 v4 v5 hi hn;exact absurd hn (fJ _)
 | succ n ih =>
  intro v3 v4 v5 hi hn
  refine aU ?_
  cases h0:(decide ((v5:Int) < (a0.length:Int))) with
  | true =>
   have q0:=dB h0
   have e:=Eq.refl (fD a0 a1 (v3,v4,v5));conv at e=>rhs;simp only [fD,h0,aX]
   rw [aB e]
   refine ba [.d h0,.p (show((flat c3 v3).length=v3.length*1/\v3.length+1<=2 ^ 40/\(v3.length+1)*8<=2 ^ 47) from jW aW (by omega) (by omega))] [] [0,4,5,12,13] [1,2,6,4] hcx (m:=n) aE7 (aE8) (aBu a0 a1 (flat c3 v3++[(iv v5)]) (v3.length+1) (flat dO v4) (v4.length) (W (v5+1))) (by kernel_rfl) ?_
   have z0:(W (v5+1))=(v5+1):=aH (by omega) (by omega)
   have z1:(flat c3 v3++[(iv v5)])=(flat c3 (v3++[v5])):=(cJ (c:=c3) (l:=v3) (m:=[v5])).symm
   have z2:(v3.length+1)=(v3++[v5]).length:=jD v3 [v5] rfl
   rw [z0,z1,z2]
   exact ih (v3++[v5]) v4 (v5+1) (by refine⟨?_,?_,?_,?_,?_,?_,?_⟩<;>first | omega | assumption | exact InR.nil _ | exact hi.2.2.1 | exact hi.2.2.1.add (by omega) | (simp only [Ls];omega) | simp) (by(try simp only [Ls]);omega)
  | false =>
   have q0:=eC h0
   let t1:List (St Tryz.prog):=[.d h0]
   cases h1:(decide (((a0.length:Int):Int) > 0)) with
   | true =>
    have q1:=dB h1
    have e:=Eq.refl (fD a0 a1 (v3,v4,v5));conv at e=>rhs;simp only [fD,h0,h1,aX]
    rw [aQ,e]
    exact rt (t1++[.d h1,.c [2,0,3,4] (C60 (a0,a1,(v3,v4)) 0 (a0.length:Int) (by(try simp only [Lt]);omega) (by(try simp only [Lt]);omega) (by(try simp only [Lt]);omega) (by refine⟨?_,?_,?_,?_,?_⟩<;>first | exact hi.2.2.1 | (simp only [];omega) | omega))]) [] [3,5] hcx (by kernel_rfl)
   | false =>
    have q1:=eC h1
    have e:=Eq.refl (fD a0 a1 (v3,v4,v5));conv at e=>rhs;simp only [fD,h0,h1,aX]
    rw [aQ,e]
    exact rt (t1++[.d h1]) [] [3,4] hcx (by kernel_rfl)
def jS (a0:bK)(a1:Int):List Int×bB :=
 (aA (fD a0 a1) (tN ((a0.length:Int) - 0)+1) (([]:List Int),([]:bB),0))
theorem aUr (a0:bK)(a1:Int)(l0:a0.length<=2^63-1)(hl:a0.length<=12)(hf:1<=a1):Con Tryz.prog 35 [(.s 0 0 a0.length 10),(iv a1)] [(.live false true (flat gB a0))] (.a [(.s 1 0 (jS a0 a1).1.length 1),(.s 2 0 (jS a0 a1).2.length 8)]) [(.live true true (flat c3 (jS a0 a1).1)),(.live true true (flat dO (jS a0 a1).2))]:=by
 refine aT Tryz.func35 (by kernel_rfl) fun cx hcx=>?_
 have e:=Eq.refl (jS a0 a1);conv at e=>rhs;simp only [jS]
 rw [e]
 refine en [] [.cell 2 2 1,.cell 2 3 8] [0,4,5,12,13] [1,2,3,4] hcx aE7 (aE8) (aBu a0 a1 (flat c3 ([]:List Int)) 0 (flat dO ([]:bB)) 0 0) (tN ((a0.length:Int) - 0)+1) (by kernel_rfl) ?_
 exact aS3 a0 a1 l0 hl hf hcx (tN ((a0.length:Int) - 0)+1) ([]:List Int) ([]:bB) 0 (by refine⟨?_,?_,?_,?_,?_,?_,?_⟩<;>first | omega | assumption | exact InR.nil _ | exact hi.2.2.1 | exact hi.2.2.1.add (by omega) | (simp only [Ls];omega) | simp) (by(try simp only [Ls]);omega)
noncomputable def aLx:Code:=(aP [1,1,0,1] [] (aN Tryz.f32) []).1
noncomputable def aLy:List K:=(aP [1,1,0,1] [] (aN Tryz.f32) []).2
def aE9 (a0:List Int×bB)(v1 v2:Int):LS:=⟨kG 20 [(3,(iv v1)),(7,(.s 1 0 a0.2.length 8)),(8,(iv (a0.2.length:Int))),(9,(iv v2))],[(.live false true (flat c3 a0.1)),(.live false true (flat dO a0.2))]⟩
def yG (a0:List Int×bB):Int×Int->(Int×Int)⊕(Int)
 | (v1,v2) =>
  (bif (decide ((v2:Int) < (a0.2.length:Int))) then
   (bif (decide (((a0.2.getD (tN v2) dF).2.2.1:Int) < 0)) then
    (.inl ((W (v1+1)),(v2+1)))
   else
    (.inl (v1,(v2+1))))
  else
   (.inr v1))
theorem aZ2 (a0:List Int×bB)(l0_1:a0.1.length<=2^63-1)(l0_2:a0.2.length<=2^63-1)(hl:a0.2.length<=1048576) {cx:Cx} (hcx:cx.base=2):∀(n:Nat) (v1 v2:Int),0<=v2->tN ((a0.2.length:Int) - v2) < n->Aw.Good Tryz.prog none 9 (bodyPost Tryz.prog Tryz.f32 (RR cx (iv (aA (yG a0) n (v1,v2))) [] [])) cx [] (.l aLx n::aLy) (aE9 a0 v1 v2):=by
 intro n
 induction n with
 | zero=>intro v1 v2 hi hn;exact absurd hn (fJ _)
 | succ n ih =>
  intro v1 v2 hi hn
  refine aU ?_
  cases h0:(decide ((v2:Int) < (a0.2.length:Int))) with
  | true =>
   have q0:=dB h0
   let t1:List (St Tryz.prog):=[.d h0,.i v2 (a0.2.length),.L cZ a0.2 v2 0 8]
   cases h1:(decide (((a0.2.getD (tN v2) dF).2.2.1:Int) < 0)) with
   | true =>
    have q1:=dB h1
    have e:=Eq.refl (yG a0 (v1,v2));conv at e=>rhs;simp only [yG,h0,h1,aX]
    rw [aB e]
    refine ba (t1++[.d h1]) [] [3,7,8,9] [] hcx (m:=n) aLx (aLy) (aE9 a0 (W (v1+1)) (W (v2+1))) (by kernel_rfl) ?_
    have z0:(W (v2+1))=(v2+1):=aH (by omega) (by omega)
    rw [z0]
    exact ih (W (v1+1)) (v2+1) (by(try simp only [Ls]);omega) (by(try simp only [Ls]);omega)
   | false =>
    have q1:=eC h1
    have e:=Eq.refl (yG a0 (v1,v2));conv at e=>rhs;simp only [yG,h0,h1,aX]
    rw [aB e]
    refine ba (t1++[.d h1]) [] [3,7,8,9] [] hcx (m:=n) aLx (aLy) (aE9 a0 v1 (W (v2+1))) (by kernel_rfl) ?_
    have z0:(W (v2+1))=(v2+1):=aH (by omega) (by omega)
    rw [z0]
    exact ih v1 (v2+1) (by(try simp only [Ls]);omega) (by(try simp only [Ls]);omega)
  | false =>
   have q0:=eC h0
   have e:=Eq.refl (yG a0 (v1,v2));conv at e=>rhs;simp only [yG,h0,aX]
   rw [aQ,e]
   exact rt [.d h0] [] [] hcx (by kernel_rfl)
def F32 (a0:List Int×bB):Int :=
 (aA (yG a0) (tN ((a0.2.length:Int) - 0)+1) (0,0))
theorem C32 (a0:List Int×bB)(l0_1:a0.1.length<=2^63-1)(l0_2:a0.2.length<=2^63-1)(hl:a0.2.length<=1048576):Con Tryz.prog 32 [(.a [(.s 0 0 a0.1.length 1),(.s 1 0 a0.2.length 8)])] [(.live false true (flat c3 a0.1)),(.live false true (flat dO a0.2))] (iv (F32 a0)) []:=by
 refine aT Tryz.func32 (by kernel_rfl) fun cx hcx=>?_
 have e:=Eq.refl (F32 a0);conv at e=>rhs;simp only [F32]
 rw [e]
 refine en [] [] [3,7,8,9] [] hcx aLx (aLy) (aE9 a0 0 0) (tN ((a0.2.length:Int) - 0)+1) (by kernel_rfl) ?_
 exact aZ2 a0 l0_1 l0_2 hl hcx (tN ((a0.2.length:Int) - 0)+1) 0 0 (by(try simp only [Ls]);omega) (by(try simp only [Ls]);omega)
noncomputable def aQb:Code:=(aP [1,1,0,1] [] (aN Tryz.f30) []).1
noncomputable def aQc:List K:=(aP [1,1,0,1] [] (aN Tryz.f30) []).2
def aJt (v2c:List SV)(v2n:Nat)(v3:Int):LS:=⟨kG 23 [(1,(.s 0 0 v2n 10)),(2,(iv v3))],[(.live true true v2c)]⟩
def aBv:bK×Int->(bK×Int)⊕bK
 | (v2,v3) =>
  (bif (decide ((v3:Int) < 4)) then
   (.inl ((v2++[((((W (9*v3)),0,0),((W ((W (9*v3))+1)),0,0),((W (9*v3)),1,0)),1)]),(v3+1)))
  else
   (.inr v2))
theorem aZ3 {cx:Cx} (hcx:cx.base=0):∀(n:Nat) (v2:bK) (v3:Int),(0<=v3)/\(v2.length=tN v3)/\(v3<=4)->tN (4 - v3) < n->Aw.Good Tryz.prog none 9 (bodyPost Tryz.prog Tryz.f30 (RR cx (.s 0 0 (aA (aBv) n (v2,v3)).length 10) [(.live true true (flat gB (aA (aBv) n (v2,v3))))] [])) cx [] (.l aQb n::aQc) (aJt (flat gB v2) v2.length v3):=by
 intro n
 induction n with
 | zero=>intro v2 v3 hi hn;exact absurd hn (fJ _)
 | succ n ih =>
  intro v2 v3 hi hn
  refine aU ?_
  cases h0:(decide ((v3:Int) < 4)) with
  | true =>
   have q0:=dB h0
   have e:=Eq.refl (aBv (v2,v3));conv at e=>rhs;simp only [aBv,h0,aX]
   rw [aB e]
   refine ba [.d h0,.p (show((flat gB v2).length=v2.length*10/\v2.length+1<=2 ^ 40/\(v2.length+1)*80<=2 ^ 47) from jW fS (by omega) (by omega))] [] [1,2] [2] hcx (m:=n) aQb (aQc) (aJt (flat gB v2++[(iv (W (9*v3))),(iv 0),(iv 0),(iv (W ((W (9*v3))+1))),(iv 0),(iv 0),(iv (W (9*v3))),(iv 1),(iv 0),(iv 1)]) (v2.length+1) (W (v3+1))) (by kernel_rfl) ?_
   have z0:(W (v3+1))=(v3+1):=aH (by omega) (by omega)
   have z1:(flat gB v2++[(iv (W (9*v3))),(iv 0),(iv 0),(iv (W ((W (9*v3))+1))),(iv 0),(iv 0),(iv (W (9*v3))),(iv 1),(iv 0),(iv 1)])=(flat gB (v2++[((((W (9*v3)),0,0),((W ((W (9*v3))+1)),0,0),((W (9*v3)),1,0)),1)])):=(cJ (c:=gB) (l:=v2) (m:=[((((W (9*v3)),0,0),((W ((W (9*v3))+1)),0,0),((W (9*v3)),1,0)),1)])).symm
   have z2:(v2.length+1)=(v2++[((((W (9*v3)),0,0),((W ((W (9*v3))+1)),0,0),((W (9*v3)),1,0)),1)]).length:=jD v2 [((((W (9*v3)),0,0),((W ((W (9*v3))+1)),0,0),((W (9*v3)),1,0)),1)] rfl
   rw [z0,z1,z2]
   exact ih (v2++[((((W (9*v3)),0,0),((W ((W (9*v3))+1)),0,0),((W (9*v3)),1,0)),1)]) (v3+1) (by refine⟨?_,?_,?_⟩<;>(try simp only [Ls])<;>first | omega | assumption | simp) (by(try simp only [Ls]);omega)
  | false =>
   have q0:=eC h0
   have e:=Eq.refl (aBv (v2,v3));conv at e=>rhs;simp only [aBv,h0,aX]
   rw [aQ,e]
   exact rt [.d h0] [] [0] hcx (by kernel_rfl)
def mR:bK :=
 (aA (aBv) (tN (4 - 0)+1) (([]:bK),0))
theorem C30:Con Tryz.prog 30 [] [] (.s 0 0 mR.length 10) [(.live true true (flat gB mR))]:=by
 refine aT Tryz.func30 (by kernel_rfl) fun cx hcx=>?_
 have e:=Eq.refl mR;conv at e=>rhs;simp only [mR]
 rw [e]
 refine en [] [.slot 1 10] [1,2] [0] hcx aQb (aQc) (aJt (flat gB ([]:bK)) 0 0) (tN (4 - 0)+1) (by kernel_rfl) ?_
 exact aZ3 hcx (tN (4 - 0)+1) ([]:bK) 0 (by refine⟨?_,?_,?_⟩<;>(try simp only [Ls])<;>first | omega | assumption | simp) (by(try simp only [Ls]);omega)
def nY (a0:Int)(a1:Int)(a2:Int):Bool :=
 (bif (decide ((a0:Int)≥a1)) then
  (decide ((a0:Int)<=a2))
 else
  false)
theorem C34 (a0:Int)(a1:Int)(a2:Int):Con Tryz.prog 34 [(iv a0),(iv a1),(iv a2)] [] (.v (.bool (nY a0 a1 a2))) []:=by
 refine aT Tryz.func34 (by kernel_rfl) fun cx hcx=>?_
 cases h0:(decide ((a0:Int)≥a1)) with
 | true =>
  have q0:=dB h0
  have e:=Eq.refl (nY a0 a1 a2);conv at e=>rhs;simp only [nY,h0,aX]
  rw [e]
  exact rt [.d h0] [] [] hcx (by kernel_rfl)
 | false =>
  have q0:=eC h0
  have e:=Eq.refl (nY a0 a1 a2);conv at e=>rhs;simp only [nY,h0,aX]
  rw [e]
  exact rt [.d h0] [] [] hcx (by kernel_rfl)
theorem aZ4 {n m k:Int} (h:(!(nY n k m))=false):k<=n:=by
 simp only [nY] at h
 by_cases h1:n≥k
 ·exact h1
 ·rw [cG h1] at h;simp at h
abbrev dR (l:List (PN×Int)):Prop:=Nonempty (PLift (l.length<=12\/96 < l.length))
theorem aJu {l:List (PN×Int)} [h:dR l] (h1:l.length<=96):l.length<=12:=by
 obtain⟨⟨h⟩⟩:=h
 omega
def aC (a0:bK)(a1:Int):(List Int×bB)×Int :=
 (bif (((eI a0):Int) != 0) then
  ((([]:List Int),([]:bB)),(eI a0))
 else
  (bif (!(nY a1 1 16)) then
   ((([]:List Int),([]:bB)),1)
  else
   (((jS a0 a1).1,(jS a0 a1).2),0)))
theorem aZ5 (a0:bK)(a1:Int)(l0:a0.length<=2^63-1) [h5:dR a0]:Con Tryz.prog 9 [(.s 0 0 a0.length 10),(iv a1)] [(.live false true (flat gB a0))] (.t [(.a [(.s 1 0 (aC a0 a1).1.1.length 1),(.s 2 0 (aC a0 a1).1.2.length 8)]),(iv (aC a0 a1).2)]) [(.live true true (flat c3 (aC a0 a1).1.1)),(.live true true (flat dO (aC a0 a1).1.2))]:=by
 refine aT Tryz.func9 (by kernel_rfl) fun cx hcx=>?_
 let t0:List (St Tryz.prog):=[.c [0] (aLj a0 (by omega))]
 cases h0:(((eI a0):Int) != 0) with
 | true =>
  have q0:=bne_iff_ne.1 h0
  have e:=Eq.refl (aC a0 a1);conv at e=>rhs;simp only [aC,h0,aX]
  rw [e]
  exact rt (t0++[.d h0]) [.cell 1 0 1,.cell 1 1 8] [2,3] hcx (by kernel_rfl)
 | false =>
  have q0:=bne_eq_false_iff_eq.1 h0
  let t1:List (St Tryz.prog):=(t0++[.d h0,.c [] (C34 a1 1 16)])
  cases h1:(!(nY a1 1 16)) with
  | true =>
   have e:=Eq.refl (aC a0 a1);conv at e=>rhs;simp only [aC,h0,h1,aX]
   rw [e]
   exact rt (t1++[.d h1]) [.cell 1 0 1,.cell 1 1 8] [2,3] hcx (by kernel_rfl)
  | false =>
   have e:=Eq.refl (aC a0 a1);conv at e=>rhs;simp only [aC,h0,h1,aX]
   rw [e]
   exact rt (t1++[.d h1,.c [0] (aUr a0 a1 (by omega) (aJu (jE (l:=a0) (bne_eq_false_iff_eq.1 h0))) (aZ4 h1))]) [] [2,3] hcx (by kernel_rfl)
noncomputable def pW:Code:=(aP [1,1,0,1] [] (aN Tryz.f31) []).1
noncomputable def pX:List K:=(aP [1,1,0,1] [] (aN Tryz.f31) []).2
def lF (a0:List Int×bB)(v1c:List SV)(v1n:Nat)(v2:Int):LS:=⟨kG 69 [(1,(.p 2 0)),(3,(.s 3 0 v1n 1)),(4,(iv v2))],[(.live false true (flat c3 a0.1)),(.live false true (flat dO a0.2)),(.live true false [(.s 0 0 a0.1.length 1),(.s 1 0 a0.2.length 8)]),(.live true true v1c)]⟩
def fT (a0:List Int×bB):List Int×Int->(List Int×Int)⊕(Int)
 | (v1,v2) =>
  (bif (decide ((v2:Int)≥0)) then
   (bif (decide (((a0.2.getD (tN v2) dF).2.2.1:Int) > v2)) then
    (bif (decide (((a0.2.getD (tN v2) dF).2.2.1:Int) < (v1.length:Int))) then
     (bif (decide (((a0.2.getD (tN v2) dF).2.2.2.1:Int) > v2)) then
      (bif (decide (((a0.2.getD (tN v2) dF).2.2.2.1:Int) < (v1.length:Int))) then
       (.inl ((((v1.set (tN v2) 1).set (tN v2) (cE ((v1.set (tN v2) 1).getD (tN v2) dF) (W (((v1.set (tN v2) 1).getD (tN (a0.2.getD (tN v2) dF).2.2.1) dF)+1)))).set (tN v2) (cE (((v1.set (tN v2) 1).set (tN v2) (cE ((v1.set (tN v2) 1).getD (tN v2) dF) (W (((v1.set (tN v2) 1).getD (tN (a0.2.getD (tN v2) dF).2.2.1) dF)+1)))).getD (tN v2) dF) (W ((((v1.set (tN v2) 1).set (tN v2) (cE ((v1.set (tN v2) 1).getD (tN v2) dF) (W (((v1.set (tN v2) 1).getD (tN (a0.2.getD (tN v2) dF).2.2.1) dF)+1)))).getD (tN (a0.2.getD (tN v2) dF).2.2.2.1) dF)+1)))),(W (v2 - 1))))
      else
       (.inl (((v1.set (tN v2) 1).set (tN v2) (cE ((v1.set (tN v2) 1).getD (tN v2) dF) (W (((v1.set (tN v2) 1).getD (tN (a0.2.getD (tN v2) dF).2.2.1) dF)+1)))),(W (v2 - 1)))))
     else
      (.inl (((v1.set (tN v2) 1).set (tN v2) (cE ((v1.set (tN v2) 1).getD (tN v2) dF) (W (((v1.set (tN v2) 1).getD (tN (a0.2.getD (tN v2) dF).2.2.1) dF)+1)))),(W (v2 - 1)))))
    else
     (bif (decide (((a0.2.getD (tN v2) dF).2.2.2.1:Int) > v2)) then
      (bif (decide (((a0.2.getD (tN v2) dF).2.2.2.1:Int) < (v1.length:Int))) then
       (.inl (((v1.set (tN v2) 1).set (tN v2) (cE ((v1.set (tN v2) 1).getD (tN v2) dF) (W (((v1.set (tN v2) 1).getD (tN (a0.2.getD (tN v2) dF).2.2.2.1) dF)+1)))),(W (v2 - 1))))
      else
       (.inl ((v1.set (tN v2) 1),(W (v2 - 1)))))
     else
      (.inl ((v1.set (tN v2) 1),(W (v2 - 1))))))
   else
    (bif (decide (((a0.2.getD (tN v2) dF).2.2.2.1:Int) > v2)) then
     (bif (decide (((a0.2.getD (tN v2) dF).2.2.2.1:Int) < (v1.length:Int))) then
      (.inl (((v1.set (tN v2) 1).set (tN v2) (cE ((v1.set (tN v2) 1).getD (tN v2) dF) (W (((v1.set (tN v2) 1).getD (tN (a0.2.getD (tN v2) dF).2.2.2.1) dF)+1)))),(W (v2 - 1))))
     else
      (.inl ((v1.set (tN v2) 1),(W (v2 - 1)))))
    else
     (.inl ((v1.set (tN v2) 1),(W (v2 - 1))))))
  else
   (bif (((v1.length:Int):Int) == 0) then
    (.inr 0)
   else
    (.inr (v1.getD (tN 0) dF))))
theorem aZ6 (a0:List Int×bB)(l0_1:a0.1.length<=2^63-1)(l0_2:a0.2.length<=2^63-1)(hl:a0.2.length<=1048576) {cx:Cx} (hcx:cx.base=2):∀(n:Nat) (v1:List Int) (v2:Int),(v1.length=a0.2.length)/\(-1<=v2)/\(v2 < a0.2.length)->tN (v2+1) < n->Aw.Good Tryz.prog none 9 (bodyPost Tryz.prog Tryz.f31 (RR cx (iv (aA (fT a0) n (v1,v2))) [] [])) cx [] (.l pW n::pX) (lF a0 (flat c3 v1) v1.length v2):=by
 intro n
 induction n with
 | zero=>intro v1 v2 hi hn;exact absurd hn (fJ _)
 | succ n ih =>
  intro v1 v2 hi hn
  refine aU ?_
  have hw_i:=aH (n:=v2 - 1) (by omega) (by omega)
  cases h0:(decide ((v2:Int)≥0)) with
  | true =>
   have q0:=dB h0
   let t1:List (St Tryz.prog):=[.d h0,.i v2 (v1.length),.p (show((0+tN v2*1)+1<=(flat c3 v1).length) from(iD aW (by first | omega | (simp only [Lt];omega)) (o:=0) (Nb rfl))),.i v2 (a0.2.length),.L cZ a0.2 v2 2 1,.i v2 (a0.2.length),.L cZ a0.2 v2 3 1,.u 200,.T,.i 0 2 (by decide)]
   cases h1:(decide (((a0.2.getD (tN v2) dF).2.2.1:Int) > v2)) with
   | true =>
    have q1:=dB h1
    let t2:List (St Tryz.prog):=(t1++[.d h1])
    cases h2:(decide (((a0.2.getD (tN v2) dF).2.2.1:Int) < (v1.length:Int))) with
    | true =>
     have q2:=dB h2
     let t3:List (St Tryz.prog):=(t2++[.d h2,.i v2 (v1.length),.R aW (v1.set (tN v2) 1) v2 0 1 (show(splice (flat c3 v1) (0+tN v2*1) [(iv 1)])=flat c3 (v1.set (tN v2) 1) from(bE aW (by first | omega | (simp only [Lt];omega)) (o:=0) (d:=dF) (Nb rfl) rfl)),.i ((a0.2.getD (tN v2) dF).2.2.1) (v1.length),.R aW (v1.set (tN v2) 1) (a0.2.getD (tN v2) dF).2.2.1 0 1 (show(splice (flat c3 v1) (0+tN v2*1) [(iv 1)])=flat c3 (v1.set (tN v2) 1) from(bE aW (by first | omega | (simp only [Lt];omega)) (o:=0) (d:=dF) (Nb rfl) rfl)),.i v2 (v1.length),.p (show((0+tN v2*1)+1<=(splice (flat c3 v1) (0+tN v2*1) [(iv 1)]).length) from(by rw [show(splice (flat c3 v1) (0+tN v2*1) [(iv 1)])=flat c3 (v1.set (tN v2) 1) from(bE aW (by first | omega | (simp only [Lt];omega)) (o:=0) (d:=dF) (Nb rfl) rfl)];exact iD aW (by first | omega | (simp only [Lt];omega)) (o:=0) (Nb rfl))),.u 0,.T,.i 1 2 (by decide)])
     cases h3:(decide (((a0.2.getD (tN v2) dF).2.2.2.1:Int) > v2)) with
     | true =>
      have q3:=dB h3
      let t4:List (St Tryz.prog):=(t3++[.d h3])
      cases h4:(decide (((a0.2.getD (tN v2) dF).2.2.2.1:Int) < (v1.length:Int))) with
      | true =>
       have q4:=dB h4
       have e:=Eq.refl (fT a0 (v1,v2));conv at e=>rhs;simp only [fT,h0,h1,h2,h3,h4,aX]
       rw [aB e]
       refine ba (t4++[.d h4,.i v2 (v1.length),.R aW ((v1.set (tN v2) 1).set (tN v2) (cE ((v1.set (tN v2) 1).getD (tN v2) dF) (W (((v1.set (tN v2) 1).getD (tN (a0.2.getD (tN v2) dF).2.2.1) dF)+1)))) v2 0 1 (show(splice (splice (flat c3 v1) (0+tN v2*1) [(iv 1)]) (0+tN v2*1) [(iv (cE ((v1.set (tN v2) 1).getD (tN v2) dF) (W (((v1.set (tN v2) 1).getD (tN (a0.2.getD (tN v2) dF).2.2.1) dF)+1))))])=flat c3 ((v1.set (tN v2) 1).set (tN v2) (cE ((v1.set (tN v2) 1).getD (tN v2) dF) (W (((v1.set (tN v2) 1).getD (tN (a0.2.getD (tN v2) dF).2.2.1) dF)+1)))) from(by rw [show(splice (flat c3 v1) (0+tN v2*1) [(iv 1)])=flat c3 (v1.set (tN v2) 1) from(bE aW (by first | omega | (simp only [Lt];omega)) (o:=0) (d:=dF) (Nb rfl) rfl)];exact bE aW (by first | omega | (simp only [Lt];omega)) (o:=0) (d:=dF) (Nb rfl) rfl)),.i ((a0.2.getD (tN v2) dF).2.2.2.1) (v1.length),.R aW ((v1.set (tN v2) 1).set (tN v2) (cE ((v1.set (tN v2) 1).getD (tN v2) dF) (W (((v1.set (tN v2) 1).getD (tN (a0.2.getD (tN v2) dF).2.2.1) dF)+1)))) (a0.2.getD (tN v2) dF).2.2.2.1 0 1 (show(splice (splice (flat c3 v1) (0+tN v2*1) [(iv 1)]) (0+tN v2*1) [(iv (cE ((v1.set (tN v2) 1).getD (tN v2) dF) (W (((v1.set (tN v2) 1).getD (tN (a0.2.getD (tN v2) dF).2.2.1) dF)+1))))])=flat c3 ((v1.set (tN v2) 1).set (tN v2) (cE ((v1.set (tN v2) 1).getD (tN v2) dF) (W (((v1.set (tN v2) 1).getD (tN (a0.2.getD (tN v2) dF).2.2.1) dF)+1)))) from(by rw [show(splice (flat c3 v1) (0+tN v2*1) [(iv 1)])=flat c3 (v1.set (tN v2) 1) from(bE aW (by first | omega | (simp only [Lt];omega)) (o:=0) (d:=dF) (Nb rfl) rfl)];exact bE aW (by first | omega | (simp only [Lt];omega)) (o:=0) (d:=dF) (Nb rfl) rfl)),.i v2 (v1.length),.p (show((0+tN v2*1)+1<=(splice (splice (flat c3 v1) (0+tN v2*1) [(iv 1)]) (0+tN v2*1) [(iv (cE ((v1.set (tN v2) 1).getD (tN v2) dF) (W (((v1.set (tN v2) 1).getD (tN (a0.2.getD (tN v2) dF).2.2.1) dF)+1))))]).length) from(by rw [show(splice (splice (flat c3 v1) (0+tN v2*1) [(iv 1)]) (0+tN v2*1) [(iv (cE ((v1.set (tN v2) 1).getD (tN v2) dF) (W (((v1.set (tN v2) 1).getD (tN (a0.2.getD (tN v2) dF).2.2.1) dF)+1))))])=flat c3 ((v1.set (tN v2) 1).set (tN v2) (cE ((v1.set (tN v2) 1).getD (tN v2) dF) (W (((v1.set (tN v2) 1).getD (tN (a0.2.getD (tN v2) dF).2.2.1) dF)+1)))) from(by rw [show(splice (flat c3 v1) (0+tN v2*1) [(iv 1)])=flat c3 (v1.set (tN v2) 1) from(bE aW (by first | omega | (simp only [Lt];omega)) (o:=0) (d:=dF) (Nb rfl) rfl)];exact bE aW (by first | omega | (simp only [Lt];omega)) (o:=0) (d:=dF) (Nb rfl) rfl)];exact iD aW (by first | omega | (simp only [Lt];omega)) (o:=0) (Nb rfl))),.u 0,.F]) [] [1,3,4] [2,3] hcx (m:=n) pW (pX) (lF a0 (splice (splice (splice (flat c3 v1) (0+tN v2*1) [(iv 1)]) (0+tN v2*1) [(iv (cE ((v1.set (tN v2) 1).getD (tN v2) dF) (W (((v1.set (tN v2) 1).getD (tN (a0.2.getD (tN v2) dF).2.2.1) dF)+1))))]) (0+tN v2*1) [(iv (cE (((v1.set (tN v2) 1).set (tN v2) (cE ((v1.set (tN v2) 1).getD (tN v2) dF) (W (((v1.set (tN v2) 1).getD (tN (a0.2.getD (tN v2) dF).2.2.1) dF)+1)))).getD (tN v2) dF) (W ((((v1.set (tN v2) 1).set (tN v2) (cE ((v1.set (tN v2) 1).getD (tN v2) dF) (W (((v1.set (tN v2) 1).getD (tN (a0.2.getD (tN v2) dF).2.2.1) dF)+1)))).getD (tN (a0.2.getD (tN v2) dF).2.2.2.1) dF)+1))))]) (v1.length) (W (v2 - 1))) (by kernel_rfl) ?_
       have z0:(splice (splice (splice (flat c3 v1) (0+tN v2*1) [(iv 1)]) (0+tN v2*1) [(iv (cE ((v1.set (tN v2) 1).getD (tN v2) dF) (W (((v1.set (tN v2) 1).getD (tN (a0.2.getD (tN v2) dF).2.2.1) dF)+1))))]) (0+tN v2*1) [(iv (cE (((v1.set (tN v2) 1).set (tN v2) (cE ((v1.set (tN v2) 1).getD (tN v2) dF) (W (((v1.set (tN v2) 1).getD (tN (a0.2.getD (tN v2) dF).2.2.1) dF)+1)))).getD (tN v2) dF) (W ((((v1.set (tN v2) 1).set (tN v2) (cE ((v1.set (tN v2) 1).getD (tN v2) dF) (W (((v1.set (tN v2) 1).getD (tN (a0.2.getD (tN v2) dF).2.2.1) dF)+1)))).getD (tN (a0.2.getD (tN v2) dF).2.2.2.1) dF)+1))))])=flat c3 (((v1.set (tN v2) 1).set (tN v2) (cE ((v1.set (tN v2) 1).getD (tN v2) dF) (W (((v1.set (tN v2) 1).getD (tN (a0.2.getD (tN v2) dF).2.2.1) dF)+1)))).set (tN v2) (cE (((v1.set (tN v2) 1).set (tN v2) (cE ((v1.set (tN v2) 1).getD (tN v2) dF) (W (((v1.set (tN v2) 1).getD (tN (a0.2.getD (tN v2) dF).2.2.1) dF)+1)))).getD (tN v2) dF) (W ((((v1.set (tN v2) 1).set (tN v2) (cE ((v1.set (tN v2) 1).getD (tN v2) dF) (W (((v1.set (tN v2) 1).getD (tN (a0.2.getD (tN v2) dF).2.2.1) dF)+1)))).getD (tN (a0.2.getD (tN v2) dF).2.2.2.1) dF)+1)))):=(by rw [show(splice (splice (flat c3 v1) (0+tN v2*1) [(iv 1)]) (0+tN v2*1) [(iv (cE ((v1.set (tN v2) 1).getD (tN v2) dF) (W (((v1.set (tN v2) 1).getD (tN (a0.2.getD (tN v2) dF).2.2.1) dF)+1))))])=flat c3 ((v1.set (tN v2) 1).set (tN v2) (cE ((v1.set (tN v2) 1).getD (tN v2) dF) (W (((v1.set (tN v2) 1).getD (tN (a0.2.getD (tN v2) dF).2.2.1) dF)+1)))) from(by rw [show(splice (flat c3 v1) (0+tN v2*1) [(iv 1)])=flat c3 (v1.set (tN v2) 1) from(bE aW (by first | omega | (simp only [Lt];omega)) (o:=0) (d:=dF) (Nb rfl) rfl)];exact bE aW (by first | omega | (simp only [Lt];omega)) (o:=0) (d:=dF) (Nb rfl) rfl)];exact bE aW (by first | omega | (simp only [Lt];omega)) (o:=0) (d:=dF) (Nb rfl) rfl)
       have z1:v1.length=(((v1.set (tN v2) 1).set (tN v2) (cE ((v1.set (tN v2) 1).getD (tN v2) dF) (W (((v1.set (tN v2) 1).getD (tN (a0.2.getD (tN v2) dF).2.2.1) dF)+1)))).set (tN v2) (cE (((v1.set (tN v2) 1).set (tN v2) (cE ((v1.set (tN v2) 1).getD (tN v2) dF) (W (((v1.set (tN v2) 1).getD (tN (a0.2.getD (tN v2) dF).2.2.1) dF)+1)))).getD (tN v2) dF) (W ((((v1.set (tN v2) 1).set (tN v2) (cE ((v1.set (tN v2) 1).getD (tN v2) dF) (W (((v1.set (tN v2) 1).getD (tN (a0.2.getD (tN v2) dF).2.2.1) dF)+1)))).getD (tN (a0.2.getD (tN v2) dF).2.2.2.1) dF)+1)))).length:=by simp
       rw [z0,z1]
       exact ih (((v1.set (tN v2) 1).set (tN v2) (cE ((v1.set (tN v2) 1).getD (tN v2) dF) (W (((v1.set (tN v2) 1).getD (tN (a0.2.getD (tN v2) dF).2.2.1) dF)+1)))).set (tN v2) (cE (((v1.set (tN v2) 1).set (tN v2) (cE ((v1.set (tN v2) 1).getD (tN v2) dF) (W (((v1.set (tN v2) 1).getD (tN (a0.2.getD (tN v2) dF).2.2.1) dF)+1)))).getD (tN v2) dF) (W ((((v1.set (tN v2) 1).set (tN v2) (cE ((v1.set (tN v2) 1).getD (tN v2) dF) (W (((v1.set (tN v2) 1).getD (tN (a0.2.getD (tN v2) dF).2.2.1) dF)+1)))).getD (tN (a0.2.getD (tN v2) dF).2.2.2.1) dF)+1)))) (W (v2 - 1)) (by refine⟨?_,?_,?_⟩<;>(try simp only [Ls])<;>first | omega | assumption | simp) (by(try simp only [Ls]);omega)
      | false =>
       have q4:=eC h4
       have e:=Eq.refl (fT a0 (v1,v2));conv at e=>rhs;simp only [fT,h0,h1,h2,h3,h4,aX]
       rw [aB e]
       refine ba (t4++[.d h4,.u 0,.F]) [] [1,3,4] [2,3] hcx (m:=n) pW (pX) (lF a0 (splice (splice (flat c3 v1) (0+tN v2*1) [(iv 1)]) (0+tN v2*1) [(iv (cE ((v1.set (tN v2) 1).getD (tN v2) dF) (W (((v1.set (tN v2) 1).getD (tN (a0.2.getD (tN v2) dF).2.2.1) dF)+1))))]) (v1.length) (W (v2 - 1))) (by kernel_rfl) ?_
       have z0:(splice (splice (flat c3 v1) (0+tN v2*1) [(iv 1)]) (0+tN v2*1) [(iv (cE ((v1.set (tN v2) 1).getD (tN v2) dF) (W (((v1.set (tN v2) 1).getD (tN (a0.2.getD (tN v2) dF).2.2.1) dF)+1))))])=flat c3 ((v1.set (tN v2) 1).set (tN v2) (cE ((v1.set (tN v2) 1).getD (tN v2) dF) (W (((v1.set (tN v2) 1).getD (tN (a0.2.getD (tN v2) dF).2.2.1) dF)+1)))):=(by rw [show(splice (flat c3 v1) (0+tN v2*1) [(iv 1)])=flat c3 (v1.set (tN v2) 1) from(bE aW (by first | omega | (simp only [Lt];omega)) (o:=0) (d:=dF) (Nb rfl) rfl)];exact bE aW (by first | omega | (simp only [Lt];omega)) (o:=0) (d:=dF) (Nb rfl) rfl)
       have z1:v1.length=((v1.set (tN v2) 1).set (tN v2) (cE ((v1.set (tN v2) 1).getD (tN v2) dF) (W (((v1.set (tN v2) 1).getD (tN (a0.2.getD (tN v2) dF).2.2.1) dF)+1)))).length:=by simp
       rw [z0,z1]
       exact ih ((v1.set (tN v2) 1).set (tN v2) (cE ((v1.set (tN v2) 1).getD (tN v2) dF) (W (((v1.set (tN v2) 1).getD (tN (a0.2.getD (tN v2) dF).2.2.1) dF)+1)))) (W (v2 - 1)) (by refine⟨?_,?_,?_⟩<;>(try simp only [Ls])<;>first | omega | assumption | simp) (by(try simp only [Ls]);omega)
     | false =>
      have q3:=eC h3
      have e:=Eq.refl (fT a0 (v1,v2));conv at e=>rhs;simp only [fT,h0,h1,h2,h3,aX]
      rw [aB e]
      refine ba (t3++[.d h3,.u 0,.F]) [] [1,3,4] [2,3] hcx (m:=n) pW (pX) (lF a0 (splice (splice (flat c3 v1) (0+tN v2*1) [(iv 1)]) (0+tN v2*1) [(iv (cE ((v1.set (tN v2) 1).getD (tN v2) dF) (W (((v1.set (tN v2) 1).getD (tN (a0.2.getD (tN v2) dF).2.2.1) dF)+1))))]) (v1.length) (W (v2 - 1))) (by kernel_rfl) ?_
      have z0:(splice (splice (flat c3 v1) (0+tN v2*1) [(iv 1)]) (0+tN v2*1) [(iv (cE ((v1.set (tN v2) 1).getD (tN v2) dF) (W (((v1.set (tN v2) 1).getD (tN (a0.2.getD (tN v2) dF).2.2.1) dF)+1))))])=flat c3 ((v1.set (tN v2) 1).set (tN v2) (cE ((v1.set (tN v2) 1).getD (tN v2) dF) (W (((v1.set (tN v2) 1).getD (tN (a0.2.getD (tN v2) dF).2.2.1) dF)+1)))):=(by rw [show(splice (flat c3 v1) (0+tN v2*1) [(iv 1)])=flat c3 (v1.set (tN v2) 1) from(bE aW (by first | omega | (simp only [Lt];omega)) (o:=0) (d:=dF) (Nb rfl) rfl)];exact bE aW (by first | omega | (simp only [Lt];omega)) (o:=0) (d:=dF) (Nb rfl) rfl)
      have z1:v1.length=((v1.set (tN v2) 1).set (tN v2) (cE ((v1.set (tN v2) 1).getD (tN v2) dF) (W (((v1.set (tN v2) 1).getD (tN (a0.2.getD (tN v2) dF).2.2.1) dF)+1)))).length:=by simp
      rw [z0,z1]
      exact ih ((v1.set (tN v2) 1).set (tN v2) (cE ((v1.set (tN v2) 1).getD (tN v2) dF) (W (((v1.set (tN v2) 1).getD (tN (a0.2.getD (tN v2) dF).2.2.1) dF)+1)))) (W (v2 - 1)) (by refine⟨?_,?_,?_⟩<;>(try simp only [Ls])<;>first | omega | assumption | simp) (by(try simp only [Ls]);omega)
    | false =>
     have q2:=eC h2
     let t3:List (St Tryz.prog):=(t2++[.d h2,.u 0,.T,.i 1 2 (by decide)])
     cases h3:(decide (((a0.2.getD (tN v2) dF).2.2.2.1:Int) > v2)) with
     | true =>
      have q3:=dB h3
      let t4:List (St Tryz.prog):=(t3++[.d h3])
      cases h4:(decide (((a0.2.getD (tN v2) dF).2.2.2.1:Int) < (v1.length:Int))) with
      | true =>
       have q4:=dB h4
       have e:=Eq.refl (fT a0 (v1,v2));conv at e=>rhs;simp only [fT,h0,h1,h2,h3,h4,aX]
       rw [aB e]
       refine ba (t4++[.d h4,.i v2 (v1.length),.R aW (v1.set (tN v2) 1) v2 0 1 (show(splice (flat c3 v1) (0+tN v2*1) [(iv 1)])=flat c3 (v1.set (tN v2) 1) from(bE aW (by first | omega | (simp only [Lt];omega)) (o:=0) (d:=dF) (Nb rfl) rfl)),.i ((a0.2.getD (tN v2) dF).2.2.2.1) (v1.length),.R aW (v1.set (tN v2) 1) (a0.2.getD (tN v2) dF).2.2.2.1 0 1 (show(splice (flat c3 v1) (0+tN v2*1) [(iv 1)])=flat c3 (v1.set (tN v2) 1) from(bE aW (by first | omega | (simp only [Lt];omega)) (o:=0) (d:=dF) (Nb rfl) rfl)),.i v2 (v1.length),.p (show((0+tN v2*1)+1<=(splice (flat c3 v1) (0+tN v2*1) [(iv 1)]).length) from(by rw [show(splice (flat c3 v1) (0+tN v2*1) [(iv 1)])=flat c3 (v1.set (tN v2) 1) from(bE aW (by first | omega | (simp only [Lt];omega)) (o:=0) (d:=dF) (Nb rfl) rfl)];exact iD aW (by first | omega | (simp only [Lt];omega)) (o:=0) (Nb rfl))),.u 0,.F]) [] [1,3,4] [2,3] hcx (m:=n) pW (pX) (lF a0 (splice (splice (flat c3 v1) (0+tN v2*1) [(iv 1)]) (0+tN v2*1) [(iv (cE ((v1.set (tN v2) 1).getD (tN v2) dF) (W (((v1.set (tN v2) 1).getD (tN (a0.2.getD (tN v2) dF).2.2.2.1) dF)+1))))]) (v1.length) (W (v2 - 1))) (by kernel_rfl) ?_
       have z0:(splice (splice (flat c3 v1) (0+tN v2*1) [(iv 1)]) (0+tN v2*1) [(iv (cE ((v1.set (tN v2) 1).getD (tN v2) dF) (W (((v1.set (tN v2) 1).getD (tN (a0.2.getD (tN v2) dF).2.2.2.1) dF)+1))))])=flat c3 ((v1.set (tN v2) 1).set (tN v2) (cE ((v1.set (tN v2) 1).getD (tN v2) dF) (W (((v1.set (tN v2) 1).getD (tN (a0.2.getD (tN v2) dF).2.2.2.1) dF)+1)))):=(by rw [show(splice (flat c3 v1) (0+tN v2*1) [(iv 1)])=flat c3 (v1.set (tN v2) 1) from(bE aW (by first | omega | (simp only [Lt];omega)) (o:=0) (d:=dF) (Nb rfl) rfl)];exact bE aW (by first | omega | (simp only [Lt];omega)) (o:=0) (d:=dF) (Nb rfl) rfl)
       have z1:v1.length=((v1.set (tN v2) 1).set (tN v2) (cE ((v1.set (tN v2) 1).getD (tN v2) dF) (W (((v1.set (tN v2) 1).getD (tN (a0.2.getD (tN v2) dF).2.2.2.1) dF)+1)))).length:=by simp
       rw [z0,z1]
       exact ih ((v1.set (tN v2) 1).set (tN v2) (cE ((v1.set (tN v2) 1).getD (tN v2) dF) (W (((v1.set (tN v2) 1).getD (tN (a0.2.getD (tN v2) dF).2.2.2.1) dF)+1)))) (W (v2 - 1)) (by refine⟨?_,?_,?_⟩<;>(try simp only [Ls])<;>first | omega | assumption | simp) (by(try simp only [Ls]);omega)
      | false =>
       have q4:=eC h4
       have e:=Eq.refl (fT a0 (v1,v2));conv at e=>rhs;simp only [fT,h0,h1,h2,h3,h4,aX]
       rw [aB e]
       refine ba (t4++[.d h4,.u 0,.F]) [] [1,3,4] [2,3] hcx (m:=n) pW (pX) (lF a0 (splice (flat c3 v1) (0+tN v2*1) [(iv 1)]) (v1.length) (W (v2 - 1))) (by kernel_rfl) ?_
       have z0:(splice (flat c3 v1) (0+tN v2*1) [(iv 1)])=flat c3 (v1.set (tN v2) 1):=(bE aW (by first | omega | (simp only [Lt];omega)) (o:=0) (d:=dF) (Nb rfl) rfl)
       have z1:v1.length=(v1.set (tN v2) 1).length:=by simp
       rw [z0,z1]
       exact ih (v1.set (tN v2) 1) (W (v2 - 1)) (by refine⟨?_,?_,?_⟩<;>(try simp only [Ls])<;>first | omega | assumption | simp) (by(try simp only [Ls]);omega)
     | false =>
      have q3:=eC h3
      have e:=Eq.refl (fT a0 (v1,v2));conv at e=>rhs;simp only [fT,h0,h1,h2,h3,aX]
      rw [aB e]
      refine ba (t3++[.d h3,.u 0,.F]) [] [1,3,4] [2,3] hcx (m:=n) pW (pX) (lF a0 (splice (flat c3 v1) (0+tN v2*1) [(iv 1)]) (v1.length) (W (v2 - 1))) (by kernel_rfl) ?_
      have z0:(splice (flat c3 v1) (0+tN v2*1) [(iv 1)])=flat c3 (v1.set (tN v2) 1):=(bE aW (by first | omega | (simp only [Lt];omega)) (o:=0) (d:=dF) (Nb rfl) rfl)
      have z1:v1.length=(v1.set (tN v2) 1).length:=by simp
      rw [z0,z1]
      exact ih (v1.set (tN v2) 1) (W (v2 - 1)) (by refine⟨?_,?_,?_⟩<;>(try simp only [Ls])<;>first | omega | assumption | simp) (by(try simp only [Ls]);omega)
   | false =>
    have q1:=eC h1
    let t2:List (St Tryz.prog):=(t1++[.d h1,.u 0,.T,.i 1 2 (by decide)])
    cases h2:(decide (((a0.2.getD (tN v2) dF).2.2.2.1:Int) > v2)) with
    | true =>
     have q2:=dB h2
     let t3:List (St Tryz.prog):=(t2++[.d h2])
     cases h3:(decide (((a0.2.getD (tN v2) dF).2.2.2.1:Int) < (v1.length:Int))) with
     | true =>
      have q3:=dB h3
      have e:=Eq.refl (fT a0 (v1,v2));conv at e=>rhs;simp only [fT,h0,h1,h2,h3,aX]
      rw [aB e]
      refine ba (t3++[.d h3,.i v2 (v1.length),.R aW (v1.set (tN v2) 1) v2 0 1 (show(splice (flat c3 v1) (0+tN v2*1) [(iv 1)])=flat c3 (v1.set (tN v2) 1) from(bE aW (by first | omega | (simp only [Lt];omega)) (o:=0) (d:=dF) (Nb rfl) rfl)),.i ((a0.2.getD (tN v2) dF).2.2.2.1) (v1.length),.R aW (v1.set (tN v2) 1) (a0.2.getD (tN v2) dF).2.2.2.1 0 1 (show(splice (flat c3 v1) (0+tN v2*1) [(iv 1)])=flat c3 (v1.set (tN v2) 1) from(bE aW (by first | omega | (simp only [Lt];omega)) (o:=0) (d:=dF) (Nb rfl) rfl)),.i v2 (v1.length),.p (show((0+tN v2*1)+1<=(splice (flat c3 v1) (0+tN v2*1) [(iv 1)]).length) from(by rw [show(splice (flat c3 v1) (0+tN v2*1) [(iv 1)])=flat c3 (v1.set (tN v2) 1) from(bE aW (by first | omega | (simp only [Lt];omega)) (o:=0) (d:=dF) (Nb rfl) rfl)];exact iD aW (by first | omega | (simp only [Lt];omega)) (o:=0) (Nb rfl))),.u 0,.F]) [] [1,3,4] [2,3] hcx (m:=n) pW (pX) (lF a0 (splice (splice (flat c3 v1) (0+tN v2*1) [(iv 1)]) (0+tN v2*1) [(iv (cE ((v1.set (tN v2) 1).getD (tN v2) dF) (W (((v1.set (tN v2) 1).getD (tN (a0.2.getD (tN v2) dF).2.2.2.1) dF)+1))))]) (v1.length) (W (v2 - 1))) (by kernel_rfl) ?_
      have z0:(splice (splice (flat c3 v1) (0+tN v2*1) [(iv 1)]) (0+tN v2*1) [(iv (cE ((v1.set (tN v2) 1).getD (tN v2) dF) (W (((v1.set (tN v2) 1).getD (tN (a0.2.getD (tN v2) dF).2.2.2.1) dF)+1))))])=flat c3 ((v1.set (tN v2) 1).set (tN v2) (cE ((v1.set (tN v2) 1).getD (tN v2) dF) (W (((v1.set (tN v2) 1).getD (tN (a0.2.getD (tN v2) dF).2.2.2.1) dF)+1)))):=(by rw [show(splice (flat c3 v1) (0+tN v2*1) [(iv 1)])=flat c3 (v1.set (tN v2) 1) from(bE aW (by first | omega | (simp only [Lt];omega)) (o:=0) (d:=dF) (Nb rfl) rfl)];exact bE aW (by first | omega | (simp only [Lt];omega)) (o:=0) (d:=dF) (Nb rfl) rfl)
      have z1:v1.length=((v1.set (tN v2) 1).set (tN v2) (cE ((v1.set (tN v2) 1).getD (tN v2) dF) (W (((v1.set (tN v2) 1).getD (tN (a0.2.getD (tN v2) dF).2.2.2.1) dF)+1)))).length:=by simp
      rw [z0,z1]
      exact ih ((v1.set (tN v2) 1).set (tN v2) (cE ((v1.set (tN v2) 1).getD (tN v2) dF) (W (((v1.set (tN v2) 1).getD (tN (a0.2.getD (tN v2) dF).2.2.2.1) dF)+1)))) (W (v2 - 1)) (by refine⟨?_,?_,?_⟩<;>(try simp only [Ls])<;>first | omega | assumption | simp) (by(try simp only [Ls]);omega)
     | false =>
      have q3:=eC h3
      have e:=Eq.refl (fT a0 (v1,v2));conv at e=>rhs;simp only [fT,h0,h1,h2,h3,aX]
      rw [aB e]
      refine ba (t3++[.d h3,.u 0,.F]) [] [1,3,4] [2,3] hcx (m:=n) pW (pX) (lF a0 (splice (flat c3 v1) (0+tN v2*1) [(iv 1)]) (v1.length) (W (v2 - 1))) (by kernel_rfl) ?_
      have z0:(splice (flat c3 v1) (0+tN v2*1) [(iv 1)])=flat c3 (v1.set (tN v2) 1):=(bE aW (by first | omega | (simp only [Lt];omega)) (o:=0) (d:=dF) (Nb rfl) rfl)
      have z1:v1.length=(v1.set (tN v2) 1).length:=by simp
      rw [z0,z1]
      exact ih (v1.set (tN v2) 1) (W (v2 - 1)) (by refine⟨?_,?_,?_⟩<;>(try simp only [Ls])<;>first | omega | assumption | simp) (by(try simp only [Ls]);omega)
    | false =>
     have q2:=eC h2
     have e:=Eq.refl (fT a0 (v1,v2));conv at e=>rhs;simp only [fT,h0,h1,h2,aX]
     rw [aB e]
     refine ba (t2++[.d h2,.u 0,.F]) [] [1,3,4] [2,3] hcx (m:=n) pW (pX) (lF a0 (splice (flat c3 v1) (0+tN v2*1) [(iv 1)]) (v1.length) (W (v2 - 1))) (by kernel_rfl) ?_
     have z0:(splice (flat c3 v1) (0+tN v2*1) [(iv 1)])=flat c3 (v1.set (tN v2) 1):=(bE aW (by first | omega | (simp only [Lt];omega)) (o:=0) (d:=dF) (Nb rfl) rfl)
     have z1:v1.length=(v1.set (tN v2) 1).length:=by simp
     rw [z0,z1]
     exact ih (v1.set (tN v2) 1) (W (v2 - 1)) (by refine⟨?_,?_,?_⟩<;>(try simp only [Ls])<;>first | omega | assumption | simp) (by(try simp only [Ls]);omega)
  | false =>
   have q0:=eC h0
   let t1:List (St Tryz.prog):=[.d h0]
   cases h1:(((v1.length:Int):Int) == 0) with
   | true =>
    have q1:=eq_of_beq h1
    have e:=Eq.refl (fT a0 (v1,v2));conv at e=>rhs;simp only [fT,h0,h1,aX]
    rw [aQ,e]
    exact rt (t1++[.d h1]) [] [] hcx (by kernel_rfl)
   | false =>
    have q1:=ne_of_beq_false h1
    have e:=Eq.refl (fT a0 (v1,v2));conv at e=>rhs;simp only [fT,h0,h1,aX]
    rw [aQ,e]
    exact rt (t1++[.d h1,.i 0 (v1.length),.L aW v1 0 0 1]) [] [] hcx (by kernel_rfl)
def F31 (a0:List Int×bB):Int :=
 (aA (fT a0) (tN ((W ((a0.2.length:Int) - 1))+1)+1) ((List.replicate (tN (a0.2.length:Int)) 0),(W ((a0.2.length:Int) - 1))))
theorem C31 (a0:List Int×bB)(l0_1:a0.1.length<=2^63-1)(l0_2:a0.2.length<=2^63-1)(hl:a0.2.length<=1048576):Con Tryz.prog 31 [(.a [(.s 0 0 a0.1.length 1),(.s 1 0 a0.2.length 8)])] [(.live false true (flat c3 a0.1)),(.live false true (flat dO a0.2))] (iv (F31 a0)) []:=by
 refine aT Tryz.func31 (by kernel_rfl) fun cx hcx=>?_
 have hw_i:=aH (n:=(a0.2.length:Int) - 1) (by omega) (by omega)
 have e:=Eq.refl (F31 a0);conv at e=>rhs;simp only [F31]
 rw [e]
 refine en [.Z c3 0 [(iv 0)] (a0.2.length:Int) 8] [] [1,3,4] [2,3] hcx pW (pX) (lF a0 (flat c3 (List.replicate (tN (a0.2.length:Int)) 0)) (tN (a0.2.length:Int)) (W ((a0.2.length:Int) - 1))) (tN ((W ((a0.2.length:Int) - 1))+1)+1) (by kernel_rfl) ?_
 have q:=aZ6 a0 l0_1 l0_2 hl hcx (tN ((W ((a0.2.length:Int) - 1))+1)+1) (List.replicate (tN (a0.2.length:Int)) 0) (W ((a0.2.length:Int) - 1)) (by refine⟨?_,?_,?_⟩<;>(try simp only [Ls])<;>first | omega | assumption | simp) (by(try simp only [Ls]);omega)
 simp only [List.length_replicate] at q
 exact q
def F8:Bool :=
 (bif (((aC mR 1).2:Int) == 0) then
  (bif (((((aC mR 1).1.2.length:Nat):Int):Int) == 7) then
   (bif (((F31 ((aC mR 1).1.1,(aC mR 1).1.2)):Int) == 3) then
    (bif (((F32 ((aC mR 1).1.1,(aC mR 1).1.2)):Int) == 4) then
     (bif ((((aC mR 1).1.2.getD (tN 0) dF).2.2.1:Int) == 1) then
      ((((aC mR 1).1.2.getD (tN 0) dF).2.2.2.1:Int) == 4)
     else
      false)
    else
     false)
   else
    false)
  else
   false)
 else
  false)
theorem C8:Con Tryz.prog 8 [] [] (.v (.bool F8)) []:=by
 refine aT Tryz.func8 (by kernel_rfl) fun cx hcx=>?_
 have hrl:mR.length=4:=by kernel_rfl
 have h5r:dR mR:=⟨⟨Or.inl (by rw [hrl];decide)⟩⟩
 have hbl:(aC mR 1).1.2.length=7:=by kernel_rfl
 have hbo:(aC mR 1).1.1.length=4:=by kernel_rfl
 let t0:List (St Tryz.prog):=[.c [] (C30),.c [0] (aZ5 mR 1 (by omega))]
 cases h0:(((aC mR 1).2:Int) == 0) with
 | true =>
  have q0:=eq_of_beq h0
  have h5r:dR mR:=⟨⟨Or.inl (by rw [hrl];decide)⟩⟩
  let t1:List (St Tryz.prog):=(t0++[.d h0])
  cases h1:(((((aC mR 1).1.2.length:Nat):Int):Int) == 7) with
  | true =>
   have q1:=eq_of_beq h1
   have h5r:dR mR:=⟨⟨Or.inl (by rw [hrl];decide)⟩⟩
   let t2:List (St Tryz.prog):=(t1++[.d h1,.c [1,2] (C31 ((aC mR 1).1.1,(aC mR 1).1.2) (by(try simp only [Lt]);omega) (by(try simp only [Lt]);omega) (by(try simp only [Lt]);omega))])
   cases h2:(((F31 ((aC mR 1).1.1,(aC mR 1).1.2)):Int) == 3) with
   | true =>
    have q2:=eq_of_beq h2
    have h5r:dR mR:=⟨⟨Or.inl (by rw [hrl];decide)⟩⟩
    let t3:List (St Tryz.prog):=(t2++[.d h2,.c [1,2] (C32 ((aC mR 1).1.1,(aC mR 1).1.2) (by(try simp only [Lt]);omega) (by(try simp only [Lt]);omega) (by(try simp only [Lt]);omega))])
    cases h3:(((F32 ((aC mR 1).1.1,(aC mR 1).1.2)):Int) == 4) with
    | true =>
     have q3:=eq_of_beq h3
     have h5r:dR mR:=⟨⟨Or.inl (by rw [hrl];decide)⟩⟩
     let t4:List (St Tryz.prog):=(t3++[.d h3,.i 0 ((aC mR 1).1.2.length),.L cZ (aC mR 1).1.2 0 2 1])
     cases h4:((((aC mR 1).1.2.getD (tN 0) dF).2.2.1:Int) == 1) with
     | true =>
      have q4:=eq_of_beq h4
      have h5r:dR mR:=⟨⟨Or.inl (by rw [hrl];decide)⟩⟩
      have e:=Eq.refl F8;conv at e=>rhs;simp only [F8,h0,h1,h2,h3,h4,aX]
      rw [e]
      exact rt (t4++[.d h4,.i 0 ((aC mR 1).1.2.length),.L cZ (aC mR 1).1.2 0 3 1]) [] [] hcx (by kernel_rfl)
     | false =>
      have q4:=ne_of_beq_false h4
      have h5r:dR mR:=⟨⟨Or.inl (by rw [hrl];decide)⟩⟩
      have e:=Eq.refl F8;conv at e=>rhs;simp only [F8,h0,h1,h2,h3,h4,aX]
      rw [e]
      exact rt (t4++[.d h4]) [] [] hcx (by kernel_rfl)
    | false =>
     have q3:=ne_of_beq_false h3
     have h5r:dR mR:=⟨⟨Or.inl (by rw [hrl];decide)⟩⟩
     have e:=Eq.refl F8;conv at e=>rhs;simp only [F8,h0,h1,h2,h3,aX]
     rw [e]
     exact rt (t3++[.d h3]) [] [] hcx (by kernel_rfl)
   | false =>
    have q2:=ne_of_beq_false h2
    have h5r:dR mR:=⟨⟨Or.inl (by rw [hrl];decide)⟩⟩
    have e:=Eq.refl F8;conv at e=>rhs;simp only [F8,h0,h1,h2,aX]
    rw [e]
    exact rt (t2++[.d h2]) [] [] hcx (by kernel_rfl)
  | false =>
   have q1:=ne_of_beq_false h1
   have h5r:dR mR:=⟨⟨Or.inl (by rw [hrl];decide)⟩⟩
   have e:=Eq.refl F8;conv at e=>rhs;simp only [F8,h0,h1,aX]
   rw [e]
   exact rt (t1++[.d h1]) [] [] hcx (by kernel_rfl)
 | false =>
  have q0:=ne_of_beq_false h0
  have h5r:dR mR:=⟨⟨Or.inl (by rw [hrl];decide)⟩⟩
  have e:=Eq.refl F8;conv at e=>rhs;simp only [F8,h0,aX]
  rw [e]
  exact rt (t0++[.d h0]) [] [] hcx (by kernel_rfl)
theorem aQd:F8=true:=by kernel_rfl
theorem aS4 (n lo hi:Int):F59 n lo hi=F82 n lo hi:=by
 unfold F59 F82
 by_cases h1:lo<=n<;>by_cases h2:n<=hi<;>simp [h1,h2]
theorem pY (l:List (PN×Int)):eI l=nA l:=by
 have e:dV l=aEp l:=by
  funext v
  simp only [dV,aEp,aI9,aWc,aS4]
 unfold eI nA
 rw [e]
theorem aQe {l:List (PN×Int)} (h:nA l=0):l.length<=96:=jE (by rw [pY];exact h)
def eM (a0:Zt)(a1:Int):Int :=
 (bif ((a1:Int) == 0) then
  a0.1
 else
  (bif ((a1:Int) == 1) then
   a0.2.1
  else
   a0.2.2))
def iY (a0:(Zt×Zt×Zt)×Int)(a1:Int):Int :=
 (W ((W ((eM a0.1.1 a1)+(eM a0.1.2.1 a1)))+(eM a0.1.2.2 a1)))
def aJv (a0:Int)(a1:Int):Int :=
 (Int.fdiv (W (a0+a1)) (2 ^ (min (tN 1) 64)))
def cQ (a0:bK)(a1:List Int)(a2:Int):Zt->Zt⊕(Int)
 | (v1,v2,v3) =>
  (bif (decide ((v3:Int) < (a1.length:Int))) then
   (.inl ((fY (fY (fY v1 (eM (a0.getD (tN (a1.getD (tN v3) dF)) dF).1.1 a2)) (eM (a0.getD (tN (a1.getD (tN v3) dF)) dF).1.2.1 a2)) (eM (a0.getD (tN (a1.getD (tN v3) dF)) dF).1.2.2 a2)),(cE (cE (cE v2 (eM (a0.getD (tN (a1.getD (tN v3) dF)) dF).1.1 a2)) (eM (a0.getD (tN (a1.getD (tN v3) dF)) dF).1.2.1 a2)) (eM (a0.getD (tN (a1.getD (tN v3) dF)) dF).1.2.2 a2)),(v3+1)))
  else
   (.inr (aJv v1 v2)))
def bF (a0:bK)(a1:List Int)(a2:Int):Int :=
 (aA (cQ a0 a1 a2) (tN ((a1.length:Int) - 0)+1) (64,(-64),0))
def aJw (a0:bK)(a1:List Int):bK×Int->(bK×Int)⊕bK
 | (v2,v3) =>
  (bif (decide ((v3:Int) < (a1.length:Int))) then
   (.inl ((v2++[(a0.getD (tN (a1.getD (tN v3) dF)) dF)]),(v3+1)))
  else
   (.inr v2))
def gR (a0:bK)(a1:List Int):bK :=
 (aA (aJw a0 a1) (tN ((a1.length:Int) - 0)+1) (([]:bK),0))
def dS (a0:bK)(a1:List Int):Int×Int×Int×Zt->(Int×Int×Int×Zt)⊕(Zt⊕(Int))
 | (v14,v15,v16,v17,v18,v19) =>
  (bif (decide ((v19:Int) < (a1.length:Int))) then
   (.inl (v14,v15,v16,(fY v17 (iY (a0.getD (tN (a1.getD (tN v19) dF)) dF) v16)),(cE v18 (iY (a0.getD (tN (a1.getD (tN v19) dF)) dF) v16)),(v19+1)))
  else
   (bif (decide (((W (v18 - v17)):Int) > v15)) then
    (.inr (.inl (v16,(W (v18 - v17)),(v16+1))))
   else
    (.inr (.inl (v14,v15,(v16+1))))))
def gZ (a0:bK)(a1:List Int):Zt->Zt⊕(Int)
 | (v11,v12,v13) =>
  (bif (decide ((v13:Int) < 3)) then
   (aA (dS a0 a1) (tN ((a1.length:Int) - 1)+1) (v11,v12,v13,(iY (a0.getD (tN (a1.getD (tN 0) dF)) dF) v13),(iY (a0.getD (tN (a1.getD (tN 0) dF)) dF) v13),1))
  else
   (.inr v11))
def aF (a0:bK)(a1:List Int):Int :=
 (aA (gZ a0 a1) (tN (3 - 0)+1) (0,(-1),0))
def wR (a0:bK)(a1:Zt):Int :=
 (bif (((nA a0):Int) != 0) then
  (nA a0)
 else
  (bif (!(F86 a1 64)) then
   1
  else
   0))
def jT (a0:bK)(a1:Zt):Int×Int->(Int×Int)⊕(Int×Int)
 | (v1,v2) =>
  (bif (decide ((v2:Int) < (a0.length:Int))) then
   (.inl ((if((if((if(v1:Int) < (nV (nW (a0.getD (tN v2) dF).1.1 a1)) then(nV (nW (a0.getD (tN v2) dF).1.1 a1)) else v1):Int) < (nV (nW (a0.getD (tN v2) dF).1.2.1 a1)) then(nV (nW (a0.getD (tN v2) dF).1.2.1 a1)) else(if(v1:Int) < (nV (nW (a0.getD (tN v2) dF).1.1 a1)) then(nV (nW (a0.getD (tN v2) dF).1.1 a1)) else v1)):Int) < (nV (nW (a0.getD (tN v2) dF).1.2.2 a1)) then(nV (nW (a0.getD (tN v2) dF).1.2.2 a1)) else(if((if(v1:Int) < (nV (nW (a0.getD (tN v2) dF).1.1 a1)) then(nV (nW (a0.getD (tN v2) dF).1.1 a1)) else v1):Int) < (nV (nW (a0.getD (tN v2) dF).1.2.1 a1)) then(nV (nW (a0.getD (tN v2) dF).1.2.1 a1)) else(if(v1:Int) < (nV (nW (a0.getD (tN v2) dF).1.1 a1)) then(nV (nW (a0.getD (tN v2) dF).1.1 a1)) else v1))),(v2+1)))
  else
   (.inr (v1,0)))
def mL (a0:bK)(a1:Zt):Int×Int :=
 (bif (((wR a0 a1):Int) != 0) then
  (0,(wR a0 a1))
 else
  (aA (jT a0 a1) (tN ((a0.length:Int) - 0)+1) (0,0)))
def iZ (a0:bK)(a1:List Int)(a2:Int):List Int×Int×Int->(List Int×Int×Int)⊕((List Int×Int)⊕(List Int))
 | (v5,v6,v7) =>
  (bif (decide ((v7:Int) > 0)) then
   (bif (decide (((iY (a0.getD (tN (v5.getD (tN v7) dF)) dF) a2):Int) < (iY (a0.getD (tN (v5.getD (tN (W (v7 - 1))) dF)) dF) a2))) then
    (.inl (((v5.set (tN v7) (v5.getD (tN (W (v7 - 1))) dF)).set (tN (W (v7 - 1))) (v5.getD (tN v7) dF)),v6,(W (v7 - 1))))
   else
    (bif (((iY (a0.getD (tN (v5.getD (tN v7) dF)) dF) a2):Int) == (iY (a0.getD (tN (v5.getD (tN (W (v7 - 1))) dF)) dF) a2)) then
     (bif (decide (((v5.getD (tN v7) dF):Int) < (v5.getD (tN (W (v7 - 1))) dF))) then
      (.inl (((v5.set (tN v7) (v5.getD (tN (W (v7 - 1))) dF)).set (tN (W (v7 - 1))) (v5.getD (tN v7) dF)),v6,(W (v7 - 1))))
     else
      (.inr (.inl (v5,(v6+1)))))
    else
     (.inr (.inl (v5,(v6+1))))))
  else
   (.inr (.inl (v5,(v6+1)))))
def lG (a0:bK)(a1:List Int)(a2:Int):List Int×Int->(List Int×Int)⊕(List Int)
 | (v3,v4) =>
  (bif (decide ((v4:Int) < (v3.length:Int))) then
   (aA (iZ a0 a1 a2) (tN v4+1) (v3,v4,v4))
  else
   (.inr v3))
def bC (a0:bK)(a1:List Int)(a2:Int):List Int :=
 (aA (lG a0 a1 a2) (tN ((((([]:List Int)++a1).length:Nat):Int) - 1)+1) ((([]:List Int)++a1),1))
abbrev TR:=List Int×bB
abbrev cN:=bK
structure PGRW (l:cN) (t:TR) (ns:List Int) (leaf:Int):Prop where
 inr:InR l.length ns
 rng:1<=ns.length/\t.1.length+ns.length<=1048576
 nds:t.2.length+2*ns.length<=4194304
 lf:1<=leaf
def cOf (l:cN)(k:Int):SBC:=((l,0,[],[]),k)
theorem aFa (l:cN)(k:Int)(x:Int):iY (l.getD (tN x) dF) k=kk (cOf l k) x:=by
 unfold kk cOf iY gC eM
 cases h0:(k == 0) with
 | true=>rfl
 | false =>
  cases h1:(k == 1) with
  | true=>rfl
  | false=>rfl
theorem aQf (l:cN)(k x y:Int):(decide (iY (l.getD (tN x) dF) k < iY (l.getD (tN y) dF) k) || ((iY (l.getD (tN x) dF) k == iY (l.getD (tN y) dF) k)&&decide (x < y)))=vJ (cOf l k) x y:=by
 rw [aFa,aFa]
 cases h:vJ (cOf l k) x y with
 | true=>rw [aE5] at h;simp;exact h
 | false=>rw [aLw] at h;simp;omega
section
open Go.Sort
variable {l : cN} {ns : List Int} {k : Int}
theorem aLz {n:Nat} (hn:n<=1048576)(hns:ns.length=n):∀(m:Nat) (d:Array Int) (j:Nat) (w:Int),d.size=n->j < n->j < m ->
 aA (iZ l ns k) m (wp ns 0 d,w,(j:Int))=.inl (wp ns 0 (insInner (vJ (cOf l k)) 0 j d),w+1)
 | 0,_,_,_,_,_,h=>absurd h (fJ _)
 | m+1,d,0,w,hd,hj,hm=>by
  refine aG ?_
  simp only [iZ]
  rw [cG (by omega),cond_false];rfl
 | m+1,d,j+1,w,hd,hj,hm=>by
  have hl':0+d.size<=ns.length:=by omega
  have e1:W (((j+1:Nat):Int) - 1)=((j:Nat):Int):=wN (by omega) (by omega)
  have g1:=wK hl' (i:=j+1) (by omega)
  have g0:=wK hl' (i:=j) (by omega)
  have gs:=aP3 hl' (i:=j+1) (j:=j) (by omega) (by omega)
  rw [Nat.zero_add] at g1 g0
  rw [Nat.zero_add,Nat.zero_add] at gs
  rw [insInner,bQ (show j+1 > 0 by omega),Bool.true_and]
  have e:iZ l ns k (wp ns 0 d,w,((j+1:Nat):Int))=bif vJ (cOf l k) d[j+1]! d[j]! then .inl (wp ns 0 (swp d (j+1) j),w,(j:Int)) else .inr (.inl (wp ns 0 d,w+1)):=by
   rw [←aQf]
   simp only [iZ,e1,fW]
   rw [bQ (show((j+1:Nat):Int) > 0 by omega),cond_true,gs,g1,g0]
   cases decide (iY (l.getD (tN d[j+1]!) dF) k < iY (l.getD (tN d[j]!) dF) k) with
   | true=>rfl
   | false =>
    cases (iY (l.getD (tN d[j+1]!) dF) k == iY (l.getD (tN d[j]!) dF) k) with
    | false=>rfl
    | true=>cases decide (d[j+1]! < d[j]!)<;>rfl
  cases q:vJ (cOf l k) d[j+1]! d[j]! with
  | true =>
   rw [q,cond_true] at e
   rw [aB e]
   exact aLz hn hns m _ j w (by rw [Go.Sort.size_swp];exact hd) (by omega) (by omega)
  | false=>rw [q,cond_false] at e;exact aG e
theorem aL0 {n:Nat} (hn:n<=1048576)(hns:ns.length=n):∀(m:Nat) (d:Array Int) (i:Nat),d.size=n->n - i < m ->
 aA (lG l ns k) m (wp ns 0 d,(i:Int))=wp ns 0 (insOuter (vJ (cOf l k)) 0 n i d)
 | 0,_,_,_,h=>absurd h (fJ _)
 | m+1,d,i,hd,hm=>by
  rw [insOuter]
  have hlen:(wp ns 0 d).length=n:=by rw [aP1 (by omega),hns]
  by_cases h1:i < n
  ·rw [if_pos h1]
   have e:lG l ns k (wp ns 0 d,(i:Int))=aA (iZ l ns k) (tN (i:Int)+1) (wp ns 0 d,(i:Int),(i:Int)):=by
    simp only [lG];rw [bQ (by omega),cond_true]
   rw [aB (e.trans (aLz hn hns _ d i _ hd (by omega) (by omega)))]
   exact aL0 hn hns m _ (i+1) (by rw [mK];exact hd) (by omega)
  ·rw [if_neg h1]
   refine aG ?_
   simp only [lG];rw [cG (by omega),cond_false]
def nH (l:cN)(k:Int)(ns:List Int):List Int:=ns.mergeSort (fun x y=>!vJ (cOf l k) y x)
theorem kJ (l:cN)(k:Int)(ns:List Int):(nH l k ns).length=ns.length:=(List.mergeSort_perm ns _).length_eq
theorem aS5 {N:Nat} (h:InR N ns):InR N (nH l k ns):=fun x hx=>h x ((List.mergeSort_perm ns _).mem_iff.1 hx)
theorem aQg {n:Nat} (h:ns.length=n) {d:Array Int} (hd:d.size=n):wp ns 0 d=d.toList:=by unfold wp;rw [Nat.zero_add,hd,←h,List.drop_length];simp
theorem aS6 (c:SBC):vJ c=vJ (cOf c.1.1 c.2):=rfl
theorem aHl {c:SBC} {d d':Array Int} (h1:PermIn 0 d.size d d')(h2:SortedIn (vJ c) 0 d.size d'):d'.toList=nH c.1.1 c.2 d.toList:=by
 unfold nH
 rw [←aS6]
 exact sorted_unique_holds (lt:=vJ c) (zG c) (aS1 c) d d' h1 h2
theorem aQh (h:ns.length<=1048576):bC l ns k=nH l k ns:=by
 unfold bC
 have hz:(ns.toArray).size=ns.length:=by simp
 have hw:wp ns 0 ns.toArray=ns:=by rw [aQg rfl hz]
 have h1:=insertionSort_holds (lt:=vJ (cOf l k)) (zG _) ns.toArray 0 ns.length (Nat.zero_le _) (by rw [hz];exact Nat.le_refl _)
 have h0:=aL0 (l:=l) (k:=k) h rfl (tN ((((([]:List Int)++ns).length:Nat):Int) - 1)+1) ns.toArray 1 hz (by rw [List.nil_append];omega)
 have e:insOuter (vJ (cOf l k)) 0 ns.length 1 ns.toArray=insertionSort (vJ (cOf l k)) ns.toArray 0 ns.length:=rfl
 rw [hw,e,aQg (n:=ns.length) (d:=insertionSort (vJ (cOf l k)) ns.toArray 0 ns.length) rfl (by rw [h1.1.1];exact hz),aHl (c:=cOf l k) (by rw [hz];exact h1.1) (by rw [hz];exact h1.2)] at h0
 exact h0
theorem aXa {v:List Int} {o n:Nat} {c:SBC} (hw:o+n<=v.length/\v.length<=1048576)(h12:n<=12) :
 eJ v o n c=v.take o++nH c.1.1 c.2 ((v.drop o).take n)++v.drop (o+n):=by
 have hz:=kQ hw.1
 have h:=aP4 (l:=v) (c:=((c.1.1,c.1.2.1,(v,c.1.2.2.2)),c.2)) (d:=rH v o n) hw.1 (by omega) (a:=0) (b:=n) (Nat.le_refl _) (Nat.zero_le _) hz
 have hs:=insertionSort_holds (lt:=vJ ((c.1.1,c.1.2.1,(v,c.1.2.2.2)),c.2)) (zG _) (rH v o n) 0 n (Nat.zero_le _) (by rw [hz];exact Nat.le_refl _)
 rw [aJq hw.1] at h
 rw [aP6 h12,h]
 unfold wp
 rw [hs.1.1,hz,aHl (c:=((c.1.1,c.1.2.1,(v,c.1.2.2.2)),c.2)) (d:=rH v o n) (by rw [hz];exact hs.1) (by rw [hz];exact hs.2)]
 rfl
end
theorem aBw {n:Nat} (h:n<=1048576):W (Int.tdiv (W (((n:Nat):Int)+1)) 2)=(((n+1) / 2:Nat):Int):=by
 rw [wN (x:=((n:Nat):Int)+1) (n:=n+1) (by omega) (by omega),Int.tdiv_eq_ediv_of_nonneg (by omega)];exact wN (by omega) (by omega)
end Go.Proofs.YtlckcjfbjnjfhaaGreat
namespace Go.Proofs.YtlckcjfbjnjfhaaGreat
open Go.Proofs Go.Aw Go.RowKit
set_option maxRecDepth 100000
structure GRR (t r:TR) (ns:List Int):Prop where
 ol:r.1.length=t.1.length+ns.length
 lo:t.2.length < r.2.length
 hi:r.2.length<=t.2.length+2*ns.length - 1
section
variable {l : cN} {t : TR} {ns : List Int} {leaf : Int} {x : Int × Int × Int × Int × Zt × Int}
theorem aBx (hp:PGRW l t ns leaf)(k:Int):(bC l ns k).length=ns.length/\InR l.length (bC l ns k):=by
 rw [aQh (by have:=hp.rng;omega)]
 exact⟨kJ _ _ _,aS5 hp.inr⟩
theorem rT (hp:PGRW l t ns leaf)(k:Int)(h2:2<=ns.length):PGRW l (t.1,t.2++[x]) (Aw.part (bC l ns k) 0 (W (Int.tdiv (W ((((bC l ns k).length:Nat):Int)+1)) 2))) leaf:=by
 have hs:=aBx hp k
 have h:=hp.rng;have hn:=hp.nds
 rw [aBw (by omega),hs.1]
 have hpt:=part_len (l:=bC l ns k) (a:=0) (b:=(((ns.length+1) / 2:Nat):Int)) (by omega)
 refine⟨hs.2.part _ _,⟨by rw [hpt];omega,?_⟩,?_,hp.lf⟩
 ·rw [hpt];dsimp only;omega
 ·rw [hpt];simp only [List.length_append,List.length_cons,List.length_nil];omega
theorem aHm {r:TR} (hp:PGRW l t ns leaf)(k:Int)(h2:2<=ns.length)(hr:GRR (t.1,t.2++[x]) r (Aw.part (bC l ns k) 0 (W (Int.tdiv (W ((((bC l ns k).length:Nat):Int)+1)) 2)))) :
 PGRW l (r.1,r.2) (Aw.part (bC l ns k) (W (Int.tdiv (W ((((bC l ns k).length:Nat):Int)+1)) 2)) (((bC l ns k).length:Nat):Int)) leaf:=by
 have hs:=aBx hp k
 have h:=hp.rng;have hn:=hp.nds
 obtain⟨g1,g2,g3⟩:=hr
 rw [aBw (by omega),hs.1] at g1 g3 ⊢
 have hpt1:=part_len (l:=bC l ns k) (a:=0) (b:=(((ns.length+1) / 2:Nat):Int)) (by omega)
 have hpt2:=part_len (l:=bC l ns k) (a:=(((ns.length+1) / 2:Nat):Int)) (b:=(ns.length:Int)) (by omega)
 rw [hpt1] at g1 g3
 simp only [List.length_append,List.length_cons,List.length_nil] at g1 g2 g3
 refine⟨hs.2.part _ _,⟨by rw [hpt2];omega,?_⟩,?_,hp.lf⟩
 ·rw [hpt2];dsimp only;omega
 ·rw [hpt2];dsimp only;omega
end
def rU (a0:bK)(a1:List Int×bB)(a2:List Int)(a3:Int):=(mL (gR a0 a2) ((bF a0 a2 0),(bF a0 a2 1),(bF a0 a2 2)))
def bW (rr:bK->(List Int×bB)->(List Int)->(Int)->List Int×bB)(a0:bK)(a1:List Int×bB)(a2:List Int)(a3:Int):=(rr a0 (a1.1,(a1.2++[((a1.1.length:Int),(W ((a1.1.length:Int)+(a2.length:Int))),(-1),(-1),((bF a0 a2 0),(bF a0 a2 1),(bF a0 a2 2)),(rU a0 a1 a2 a3).1)])) (Aw.part (bC a0 a2 (aF a0 a2)) 0 (W (Int.tdiv (W ((((bC a0 a2 (aF a0 a2)).length:Nat):Int)+1)) 2))) a3)
def aE (rr:bK->(List Int×bB)->(List Int)->(Int)->List Int×bB)(a0:bK)(a1:List Int×bB)(a2:List Int)(a3:Int):=(rr a0 ((bW (rr) a0 a1 a2 a3).1,(bW (rr) a0 a1 a2 a3).2) (Aw.part (bC a0 a2 (aF a0 a2)) (W (Int.tdiv (W ((((bC a0 a2 (aF a0 a2)).length:Nat):Int)+1)) 2)) (((bC a0 a2 (aF a0 a2)).length:Nat):Int)) a3)
def aD:Nat->bK->(List Int×bB)->(List Int)->(Int)->List Int×bB
 | 0,_,_,_,_=>dF
 | nr+1,a0,a1,a2,a3 =>
 (bif (decide (((a2.length:Int):Int)<=a3)) then
  ((a1.1++a2),(a1.2++[((a1.1.length:Int),(W ((a1.1.length:Int)+(a2.length:Int))),(-1),(-1),((bF a0 a2 0),(bF a0 a2 1),(bF a0 a2 2)),(rU a0 a1 a2 a3).1)]))
 else
  ((aE (aD nr) a0 a1 a2 a3).1,(((aE (aD nr) a0 a1 a2 a3).2.set (tN (a1.2.length:Int)) (((aE (aD nr) a0 a1 a2 a3).2.getD (tN (a1.2.length:Int)) dF).1,((aE (aD nr) a0 a1 a2 a3).2.getD (tN (a1.2.length:Int)) dF).2.1,(((a1.2.length+1):Nat):Int),((aE (aD nr) a0 a1 a2 a3).2.getD (tN (a1.2.length:Int)) dF).2.2.2.1,((aE (aD nr) a0 a1 a2 a3).2.getD (tN (a1.2.length:Int)) dF).2.2.2.2.1,((aE (aD nr) a0 a1 a2 a3).2.getD (tN (a1.2.length:Int)) dF).2.2.2.2.2)).set (tN (a1.2.length:Int)) ((((aE (aD nr) a0 a1 a2 a3).2.set (tN (a1.2.length:Int)) (((aE (aD nr) a0 a1 a2 a3).2.getD (tN (a1.2.length:Int)) dF).1,((aE (aD nr) a0 a1 a2 a3).2.getD (tN (a1.2.length:Int)) dF).2.1,(((a1.2.length+1):Nat):Int),((aE (aD nr) a0 a1 a2 a3).2.getD (tN (a1.2.length:Int)) dF).2.2.2.1,((aE (aD nr) a0 a1 a2 a3).2.getD (tN (a1.2.length:Int)) dF).2.2.2.2.1,((aE (aD nr) a0 a1 a2 a3).2.getD (tN (a1.2.length:Int)) dF).2.2.2.2.2)).getD (tN (a1.2.length:Int)) dF).1,(((aE (aD nr) a0 a1 a2 a3).2.set (tN (a1.2.length:Int)) (((aE (aD nr) a0 a1 a2 a3).2.getD (tN (a1.2.length:Int)) dF).1,((aE (aD nr) a0 a1 a2 a3).2.getD (tN (a1.2.length:Int)) dF).2.1,(((a1.2.length+1):Nat):Int),((aE (aD nr) a0 a1 a2 a3).2.getD (tN (a1.2.length:Int)) dF).2.2.2.1,((aE (aD nr) a0 a1 a2 a3).2.getD (tN (a1.2.length:Int)) dF).2.2.2.2.1,((aE (aD nr) a0 a1 a2 a3).2.getD (tN (a1.2.length:Int)) dF).2.2.2.2.2)).getD (tN (a1.2.length:Int)) dF).2.1,(((aE (aD nr) a0 a1 a2 a3).2.set (tN (a1.2.length:Int)) (((aE (aD nr) a0 a1 a2 a3).2.getD (tN (a1.2.length:Int)) dF).1,((aE (aD nr) a0 a1 a2 a3).2.getD (tN (a1.2.length:Int)) dF).2.1,(((a1.2.length+1):Nat):Int),((aE (aD nr) a0 a1 a2 a3).2.getD (tN (a1.2.length:Int)) dF).2.2.2.1,((aE (aD nr) a0 a1 a2 a3).2.getD (tN (a1.2.length:Int)) dF).2.2.2.2.1,((aE (aD nr) a0 a1 a2 a3).2.getD (tN (a1.2.length:Int)) dF).2.2.2.2.2)).getD (tN (a1.2.length:Int)) dF).2.2.1,(((bW (aD nr) a0 a1 a2 a3).2.length:Nat):Int),(((aE (aD nr) a0 a1 a2 a3).2.set (tN (a1.2.length:Int)) (((aE (aD nr) a0 a1 a2 a3).2.getD (tN (a1.2.length:Int)) dF).1,((aE (aD nr) a0 a1 a2 a3).2.getD (tN (a1.2.length:Int)) dF).2.1,(((a1.2.length+1):Nat):Int),((aE (aD nr) a0 a1 a2 a3).2.getD (tN (a1.2.length:Int)) dF).2.2.2.1,((aE (aD nr) a0 a1 a2 a3).2.getD (tN (a1.2.length:Int)) dF).2.2.2.2.1,((aE (aD nr) a0 a1 a2 a3).2.getD (tN (a1.2.length:Int)) dF).2.2.2.2.2)).getD (tN (a1.2.length:Int)) dF).2.2.2.2.1,(((aE (aD nr) a0 a1 a2 a3).2.set (tN (a1.2.length:Int)) (((aE (aD nr) a0 a1 a2 a3).2.getD (tN (a1.2.length:Int)) dF).1,((aE (aD nr) a0 a1 a2 a3).2.getD (tN (a1.2.length:Int)) dF).2.1,(((a1.2.length+1):Nat):Int),((aE (aD nr) a0 a1 a2 a3).2.getD (tN (a1.2.length:Int)) dF).2.2.2.1,((aE (aD nr) a0 a1 a2 a3).2.getD (tN (a1.2.length:Int)) dF).2.2.2.2.1,((aE (aD nr) a0 a1 a2 a3).2.getD (tN (a1.2.length:Int)) dF).2.2.2.2.2)).getD (tN (a1.2.length:Int)) dF).2.2.2.2.2))))
def gE (a0:bK)(a1:List Int×bB)(a2:List Int)(a3:Int):List Int×bB:=aD (a2.length+1) a0 a1 a2 a3
theorem qP:∀(nr:Nat) (l:cN) (t:TR) (ns:List Int) (leaf:Int),PGRW l t ns leaf->ns.length < nr->GRR t (aD nr l t ns leaf) ns
 | 0,_,_,_,_,_,h=>absurd h (fJ _)
 | nr+1,l,t,ns,leaf,hp,hn=>by
  have h:=hp.rng;have hl:=hp.lf
  simp only [aD]
  by_cases h0:(ns.length:Int)<=leaf
  ·rw [bQ h0,cond_true]
   exact⟨by simp,by simp,by simp;omega⟩
  ·rw [cG h0,cond_false]
   have h2:2<=ns.length:=by omega
   have hs:=aBx hp (aF l ns)
   have hf:=aBw (n:=ns.length) (by omega)
   have hpt1:=part_len (l:=bC l ns (aF l ns)) (a:=0) (b:=(((ns.length+1) / 2:Nat):Int)) (by omega)
   have hpt2:=part_len (l:=bC l ns (aF l ns)) (a:=(((ns.length+1) / 2:Nat):Int)) (b:=(ns.length:Int)) (by omega)
   have h5:GRR _ (bW (aD nr) l t ns leaf) _:=qP nr _ _ _ _ (rT hp _ h2) (by rw [hs.1,hf,hpt1];omega)
   have h6:GRR _ (aE (aD nr) l t ns leaf) _:=qP nr _ _ _ _ (aHm hp _ h2 h5) (by rw [hs.1,hf,hpt2];omega)
   obtain⟨g1,g2,g3⟩:=h5
   obtain⟨f1,f2,f3⟩:=h6
   rw [hs.1,hf,hpt1] at g1 g3
   rw [hs.1,hf,hpt2] at f1 f3
   dsimp only at g1 g2 g3 f1 f2 f3
   simp only [List.length_append,List.length_cons,List.length_nil] at g1 g2 g3
   exact⟨by dsimp only;omega,by simp only [List.length_set];omega,by simp only [List.length_set];omega⟩
end Go.Proofs.YtlckcjfbjnjfhaaGreat
namespace Go.Proofs.YtlckcjfbjnjfhaaGreat
open Go.Proofs Go.Aw Go.RowKit
set_option maxRecDepth 100000
theorem pZ:∀(n1 n2:Nat) (l:cN) (t:TR) (ns:List Int) (leaf:Int),PGRW l t ns leaf->ns.length < n1->ns.length < n2->aD n1 l t ns leaf=aD n2 l t ns leaf
 | 0,_,_,_,_,_,_,h,_=>absurd h (fJ _)
 | _+1,0,_,_,_,_,_,_,h=>absurd h (fJ _)
 | n1+1,n2+1,l,t,ns,leaf,hp,h1,h2=>by
  have h:=hp.rng;have hl:=hp.lf
  simp only [aD]
  by_cases h0:(ns.length:Int)<=leaf
  ·rw [bQ h0];rfl
  ·rw [cG h0,cond_false,cond_false]
   have g2:2<=ns.length:=by omega
   have hs:=aBx hp (aF l ns)
   have hf:=aBw (n:=ns.length) (by omega)
   have hpt1:=part_len (l:=bC l ns (aF l ns)) (a:=0) (b:=(((ns.length+1) / 2:Nat):Int)) (by omega)
   have hpt2:=part_len (l:=bC l ns (aF l ns)) (a:=(((ns.length+1) / 2:Nat):Int)) (b:=(ns.length:Int)) (by omega)
   have h5:GRR _ (bW (aD n1) l t ns leaf) _:=qP n1 _ _ _ _ (rT hp _ g2) (by rw [hs.1,hf,hpt1];omega)
   have e2:bW (aD n1) l t ns leaf=bW (aD n2) l t ns leaf:=pZ n1 n2 _ _ _ _ (rT hp _ g2) (by rw [hs.1,hf,hpt1];omega) (by rw [hs.1,hf,hpt1];omega)
   have e3:aE (aD n1) l t ns leaf=aE (aD n2) l t ns leaf:=by
    have:=pZ n1 n2 _ _ _ _ (aHm hp _ g2 h5) (by rw [hs.1,hf,hpt2];omega) (by rw [hs.1,hf,hpt2];omega)
    unfold aE
    rw [←e2]
    exact this
   rw [e3,e2]
def rV (a0:bK)(a1:List Int×bB)(a2:List Int)(a3:Int):=(mL (gR a0 a2) ((bF a0 a2 0),(bF a0 a2 1),(bF a0 a2 2)))
def jF (rr:bK->(List Int×bB)->(List Int)->(Int)->List Int×bB)(a0:bK)(a1:List Int×bB)(a2:List Int)(a3:Int):=(rr a0 (([]:List Int),(a1.2++[(0,(W (0+(a2.length:Int))),(-1),(-1),((bF a0 a2 0),(bF a0 a2 1),(bF a0 a2 2)),(rV a0 a1 a2 a3).1)])) (Aw.part (bC a0 a2 (aF a0 a2)) 0 (W (Int.tdiv (W ((((bC a0 a2 (aF a0 a2)).length:Nat):Int)+1)) 2))) a3)
def aJ (rr:bK->(List Int×bB)->(List Int)->(Int)->List Int×bB)(a0:bK)(a1:List Int×bB)(a2:List Int)(a3:Int):=(gE a0 ((jF (rr) a0 a1 a2 a3).1,(jF (rr) a0 a1 a2 a3).2) (Aw.part (bC a0 a2 (aF a0 a2)) (W (Int.tdiv (W ((((bC a0 a2 (aF a0 a2)).length:Nat):Int)+1)) 2)) (((bC a0 a2 (aF a0 a2)).length:Nat):Int)) a3)
def aO:Nat->bK->(List Int×bB)->(List Int)->(Int)->List Int×bB
 | 0,_,_,_,_=>dF
 | nr+1,a0,a1,a2,a3 =>
 (bif (decide (((a2.length:Int):Int)<=a3)) then
  (a2,(a1.2++[(0,(W (0+(a2.length:Int))),(-1),(-1),((bF a0 a2 0),(bF a0 a2 1),(bF a0 a2 2)),(rV a0 a1 a2 a3).1)]))
 else
  ((aJ (aO nr) a0 a1 a2 a3).1,(((aJ (aO nr) a0 a1 a2 a3).2.set (tN (a1.2.length:Int)) (((aJ (aO nr) a0 a1 a2 a3).2.getD (tN (a1.2.length:Int)) dF).1,((aJ (aO nr) a0 a1 a2 a3).2.getD (tN (a1.2.length:Int)) dF).2.1,(((a1.2.length+1):Nat):Int),((aJ (aO nr) a0 a1 a2 a3).2.getD (tN (a1.2.length:Int)) dF).2.2.2.1,((aJ (aO nr) a0 a1 a2 a3).2.getD (tN (a1.2.length:Int)) dF).2.2.2.2.1,((aJ (aO nr) a0 a1 a2 a3).2.getD (tN (a1.2.length:Int)) dF).2.2.2.2.2)).set (tN (a1.2.length:Int)) ((((aJ (aO nr) a0 a1 a2 a3).2.set (tN (a1.2.length:Int)) (((aJ (aO nr) a0 a1 a2 a3).2.getD (tN (a1.2.length:Int)) dF).1,((aJ (aO nr) a0 a1 a2 a3).2.getD (tN (a1.2.length:Int)) dF).2.1,(((a1.2.length+1):Nat):Int),((aJ (aO nr) a0 a1 a2 a3).2.getD (tN (a1.2.length:Int)) dF).2.2.2.1,((aJ (aO nr) a0 a1 a2 a3).2.getD (tN (a1.2.length:Int)) dF).2.2.2.2.1,((aJ (aO nr) a0 a1 a2 a3).2.getD (tN (a1.2.length:Int)) dF).2.2.2.2.2)).getD (tN (a1.2.length:Int)) dF).1,(((aJ (aO nr) a0 a1 a2 a3).2.set (tN (a1.2.length:Int)) (((aJ (aO nr) a0 a1 a2 a3).2.getD (tN (a1.2.length:Int)) dF).1,((aJ (aO nr) a0 a1 a2 a3).2.getD (tN (a1.2.length:Int)) dF).2.1,(((a1.2.length+1):Nat):Int),((aJ (aO nr) a0 a1 a2 a3).2.getD (tN (a1.2.length:Int)) dF).2.2.2.1,((aJ (aO nr) a0 a1 a2 a3).2.getD (tN (a1.2.length:Int)) dF).2.2.2.2.1,((aJ (aO nr) a0 a1 a2 a3).2.getD (tN (a1.2.length:Int)) dF).2.2.2.2.2)).getD (tN (a1.2.length:Int)) dF).2.1,(((aJ (aO nr) a0 a1 a2 a3).2.set (tN (a1.2.length:Int)) (((aJ (aO nr) a0 a1 a2 a3).2.getD (tN (a1.2.length:Int)) dF).1,((aJ (aO nr) a0 a1 a2 a3).2.getD (tN (a1.2.length:Int)) dF).2.1,(((a1.2.length+1):Nat):Int),((aJ (aO nr) a0 a1 a2 a3).2.getD (tN (a1.2.length:Int)) dF).2.2.2.1,((aJ (aO nr) a0 a1 a2 a3).2.getD (tN (a1.2.length:Int)) dF).2.2.2.2.1,((aJ (aO nr) a0 a1 a2 a3).2.getD (tN (a1.2.length:Int)) dF).2.2.2.2.2)).getD (tN (a1.2.length:Int)) dF).2.2.1,(((jF (aO nr) a0 a1 a2 a3).2.length:Nat):Int),(((aJ (aO nr) a0 a1 a2 a3).2.set (tN (a1.2.length:Int)) (((aJ (aO nr) a0 a1 a2 a3).2.getD (tN (a1.2.length:Int)) dF).1,((aJ (aO nr) a0 a1 a2 a3).2.getD (tN (a1.2.length:Int)) dF).2.1,(((a1.2.length+1):Nat):Int),((aJ (aO nr) a0 a1 a2 a3).2.getD (tN (a1.2.length:Int)) dF).2.2.2.1,((aJ (aO nr) a0 a1 a2 a3).2.getD (tN (a1.2.length:Int)) dF).2.2.2.2.1,((aJ (aO nr) a0 a1 a2 a3).2.getD (tN (a1.2.length:Int)) dF).2.2.2.2.2)).getD (tN (a1.2.length:Int)) dF).2.2.2.2.1,(((aJ (aO nr) a0 a1 a2 a3).2.set (tN (a1.2.length:Int)) (((aJ (aO nr) a0 a1 a2 a3).2.getD (tN (a1.2.length:Int)) dF).1,((aJ (aO nr) a0 a1 a2 a3).2.getD (tN (a1.2.length:Int)) dF).2.1,(((a1.2.length+1):Nat):Int),((aJ (aO nr) a0 a1 a2 a3).2.getD (tN (a1.2.length:Int)) dF).2.2.2.1,((aJ (aO nr) a0 a1 a2 a3).2.getD (tN (a1.2.length:Int)) dF).2.2.2.2.1,((aJ (aO nr) a0 a1 a2 a3).2.getD (tN (a1.2.length:Int)) dF).2.2.2.2.2)).getD (tN (a1.2.length:Int)) dF).2.2.2.2.2))))
def yH (a0:bK)(a1:List Int×bB)(a2:List Int)(a3:Int):List Int×bB:=aO (a2.length+1) a0 a1 a2 a3
theorem aUs:∀(nr:Nat) (l:cN) (t:TR) (ns:List Int) (leaf:Int),PGRW l ([],t.2) ns leaf->ns.length < nr->aO nr l t ns leaf=aD nr l ([],t.2) ns leaf
 | 0,_,_,_,_,_,h=>absurd h (fJ _)
 | nr+1,l,t,ns,leaf,hp,hn=>by
  have h:=hp.rng;have hl:=hp.lf
  simp only [aO,aD]
  by_cases h0:(ns.length:Int)<=leaf
  ·rw [bQ h0,cond_true,cond_true]
   rfl
  ·rw [cG h0,cond_false,cond_false]
   have g2:2<=ns.length:=by omega
   have hs:=aBx hp (aF l ns)
   have hf:=aBw (n:=ns.length) (by omega)
   have hpt1:=part_len (l:=bC l ns (aF l ns)) (a:=0) (b:=(((ns.length+1) / 2:Nat):Int)) (by omega)
   have hpt2:=part_len (l:=bC l ns (aF l ns)) (a:=(((ns.length+1) / 2:Nat):Int)) (b:=(ns.length:Int)) (by omega)
   have e2:jF (aO nr) l t ns leaf=bW (aD nr) l ([],t.2) ns leaf:=aUs nr _ ([],_) _ _ (rT hp _ g2) (by rw [hs.1,hf,hpt1];omega)
   have h5:GRR _ (bW (aD nr) l ([],t.2) ns leaf) _:=qP nr _ _ _ _ (rT hp _ g2) (by rw [hs.1,hf,hpt1];omega)
   have e3:aJ (aO nr) l t ns leaf=aE (aD nr) l ([],t.2) ns leaf:=by
    unfold aJ aE gE
    rw [e2]
    exact pZ _ _ _ _ _ _ (aHm hp _ g2 h5) (lss _) (by rw [hs.1,hf,hpt2];omega)
   rw [e3,e2]
def rW (a0:bK)(a1:List Int×bB)(a2:List Int)(a3:Int):=(mL (gR a0 a2) ((bF a0 a2 0),(bF a0 a2 1),(bF a0 a2 2)))
def gS (a0:bK)(a1:List Int×bB)(a2:List Int)(a3:Int):=(yH a0 (([]:List Int),([(0,(W (0+(a2.length:Int))),(-1),(-1),((bF a0 a2 0),(bF a0 a2 1),(bF a0 a2 2)),(rW a0 a1 a2 a3).1)]:bB)) (Aw.part (bC a0 a2 (aF a0 a2)) 0 (W (Int.tdiv (W ((((bC a0 a2 (aF a0 a2)).length:Nat):Int)+1)) 2))) a3)
def aK (a0:bK)(a1:List Int×bB)(a2:List Int)(a3:Int):=(gE a0 ((gS a0 a1 a2 a3).1,(gS a0 a1 a2 a3).2) (Aw.part (bC a0 a2 (aF a0 a2)) (W (Int.tdiv (W ((((bC a0 a2 (aF a0 a2)).length:Nat):Int)+1)) 2)) (((bC a0 a2 (aF a0 a2)).length:Nat):Int)) a3)
def yI:Nat->bK->(List Int×bB)->(List Int)->(Int)->List Int×bB
 | 0,_,_,_,_=>dF
 | nr+1,a0,a1,a2,a3 =>
 (bif (decide (((a2.length:Int):Int)<=a3)) then
  (a2,([(0,(W (0+(a2.length:Int))),(-1),(-1),((bF a0 a2 0),(bF a0 a2 1),(bF a0 a2 2)),(rW a0 a1 a2 a3).1)]:bB))
 else
  ((aK a0 a1 a2 a3).1,(((aK a0 a1 a2 a3).2.set (tN 0) (((aK a0 a1 a2 a3).2.getD (tN 0) dF).1,((aK a0 a1 a2 a3).2.getD (tN 0) dF).2.1,1,((aK a0 a1 a2 a3).2.getD (tN 0) dF).2.2.2.1,((aK a0 a1 a2 a3).2.getD (tN 0) dF).2.2.2.2.1,((aK a0 a1 a2 a3).2.getD (tN 0) dF).2.2.2.2.2)).set (tN 0) ((((aK a0 a1 a2 a3).2.set (tN 0) (((aK a0 a1 a2 a3).2.getD (tN 0) dF).1,((aK a0 a1 a2 a3).2.getD (tN 0) dF).2.1,1,((aK a0 a1 a2 a3).2.getD (tN 0) dF).2.2.2.1,((aK a0 a1 a2 a3).2.getD (tN 0) dF).2.2.2.2.1,((aK a0 a1 a2 a3).2.getD (tN 0) dF).2.2.2.2.2)).getD (tN 0) dF).1,(((aK a0 a1 a2 a3).2.set (tN 0) (((aK a0 a1 a2 a3).2.getD (tN 0) dF).1,((aK a0 a1 a2 a3).2.getD (tN 0) dF).2.1,1,((aK a0 a1 a2 a3).2.getD (tN 0) dF).2.2.2.1,((aK a0 a1 a2 a3).2.getD (tN 0) dF).2.2.2.2.1,((aK a0 a1 a2 a3).2.getD (tN 0) dF).2.2.2.2.2)).getD (tN 0) dF).2.1,(((aK a0 a1 a2 a3).2.set (tN 0) (((aK a0 a1 a2 a3).2.getD (tN 0) dF).1,((aK a0 a1 a2 a3).2.getD (tN 0) dF).2.1,1,((aK a0 a1 a2 a3).2.getD (tN 0) dF).2.2.2.1,((aK a0 a1 a2 a3).2.getD (tN 0) dF).2.2.2.2.1,((aK a0 a1 a2 a3).2.getD (tN 0) dF).2.2.2.2.2)).getD (tN 0) dF).2.2.1,(((gS a0 a1 a2 a3).2.length:Nat):Int),(((aK a0 a1 a2 a3).2.set (tN 0) (((aK a0 a1 a2 a3).2.getD (tN 0) dF).1,((aK a0 a1 a2 a3).2.getD (tN 0) dF).2.1,1,((aK a0 a1 a2 a3).2.getD (tN 0) dF).2.2.2.1,((aK a0 a1 a2 a3).2.getD (tN 0) dF).2.2.2.2.1,((aK a0 a1 a2 a3).2.getD (tN 0) dF).2.2.2.2.2)).getD (tN 0) dF).2.2.2.2.1,(((aK a0 a1 a2 a3).2.set (tN 0) (((aK a0 a1 a2 a3).2.getD (tN 0) dF).1,((aK a0 a1 a2 a3).2.getD (tN 0) dF).2.1,1,((aK a0 a1 a2 a3).2.getD (tN 0) dF).2.2.2.1,((aK a0 a1 a2 a3).2.getD (tN 0) dF).2.2.2.2.1,((aK a0 a1 a2 a3).2.getD (tN 0) dF).2.2.2.2.2)).getD (tN 0) dF).2.2.2.2.2))))
def lX (a0:bK)(a1:List Int×bB)(a2:List Int)(a3:Int):List Int×bB:=yI (a2.length+1) a0 a1 a2 a3
def uG (a0:bK)(a1:Int):List Int×Int->(List Int×Int)⊕(List Int×bB)
 | (v2,v3) =>
  (bif (decide ((v3:Int) < (a0.length:Int))) then
   (.inl ((v2++[v3]),(v3+1)))
  else
   (bif (((a0.length:Int):Int) == 0) then
    (.inr (([]:List Int),([]:bB)))
   else
    (.inr ((lX a0 (([]:List Int),([]:bB)) v2 a1).1,(lX a0 (([]:List Int),([]:bB)) v2 a1).2))))
def aBy (a0:bK)(a1:Int):List Int×bB :=
 (aA (uG a0 a1) (tN ((a0.length:Int) - 0)+1) (([]:List Int),0))
def aHn (a0:bK)(a1:Int):(List Int×bB)×Int :=
 (bif (((nA a0):Int) != 0) then
  ((([]:List Int),([]:bB)),(nA a0))
 else
  (bif (decide ((a1:Int) < 1)) then
   ((([]:List Int),([]:bB)),1)
  else
   (bif (decide ((a1:Int) > 16)) then
    ((([]:List Int),([]:bB)),1)
   else
    (((aBy a0 a1).1,(aBy a0 a1).2),0))))
def aDj (a0:List Int)(a1:List Int):Int->(Int)⊕(Bool)
 | v1 =>
  (bif (decide ((v1:Int) < (a0.length:Int))) then
   (bif (((a0.getD (tN v1) dF):Int) != (a1.getD (tN v1) dF)) then
    (.inr false)
   else
    (.inl (v1+1)))
  else
   (.inr true))
def qQ (a0:List Int)(a1:List Int):Bool :=
 (bif (((a0.length:Int):Int) != (a1.length:Int)) then
  false
 else
  (aA (aDj a0 a1) (tN ((a0.length:Int) - 0)+1) 0))
def aUt (a0:List Int×bB)(a1:List Int×bB):Int->(Int)⊕(Bool)
 | v1 =>
  (bif (decide ((v1:Int) < (a0.2.length:Int))) then
   (bif (!((((a0.2.getD (tN v1) dF).1:Int) == (a1.2.getD (tN v1) dF).1)&&((((a0.2.getD (tN v1) dF).2.1:Int) == (a1.2.getD (tN v1) dF).2.1)&&((((a0.2.getD (tN v1) dF).2.2.1:Int) == (a1.2.getD (tN v1) dF).2.2.1)&&((((a0.2.getD (tN v1) dF).2.2.2.1:Int) == (a1.2.getD (tN v1) dF).2.2.2.1)&&(((((a0.2.getD (tN v1) dF).2.2.2.2.1.1:Int) == (a1.2.getD (tN v1) dF).2.2.2.2.1.1)&&((((a0.2.getD (tN v1) dF).2.2.2.2.1.2.1:Int) == (a1.2.getD (tN v1) dF).2.2.2.2.1.2.1)&&((((a0.2.getD (tN v1) dF).2.2.2.2.1.2.2:Int) == (a1.2.getD (tN v1) dF).2.2.2.2.1.2.2)&&true)))&&((((a0.2.getD (tN v1) dF).2.2.2.2.2:Int) == (a1.2.getD (tN v1) dF).2.2.2.2.2)&&true))))))) then
    (.inr false)
   else
    (.inl (v1+1)))
  else
   (.inr true))
def F20 (a0:List Int×bB)(a1:List Int×bB):Bool :=
 (bif (!(qQ a0.1 a1.1)) then
  false
 else
  (bif (((a0.2.length:Int):Int) != (a1.2.length:Int)) then
   false
  else
   (aA (aUt a0 a1) (tN ((a0.2.length:Int) - 0)+1) 0)))
end Go.Proofs.YtlckcjfbjnjfhaaGreat
