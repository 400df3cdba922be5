/-
  Parts of the proofs of the laws: the executor, what functions of the program compute, and that it is what the statements ask. No premise.
-/
import Derived.Test.YtaeagjnpobdglaaGreatVPna2
import Derived.Test.YtaeagjnpobdglaaGreatRows
import Derived.Shelf.Abstract
set_option linter.unusedVariables false
set_option linter.unusedSimpArgs false
set_option maxHeartbeats 4000000
open Int (toNat)
namespace Go.Aw
open Go.RowKit
def nU (a b:Int):Int:=if b < a then b else a
def iI (a b:Int):Int:=if a < b then b else a
theorem aBq {x:SV} (h:mO 0 x=true)(k:Nat):¬x.has k:=fun hk=>absurd (aEg h hk) (gP _)
def mapE {α β:Type} (kc:α->SV)(vc:β->SV)(l:List (α×β)):List (SV×SV):=l.map fun e=>(kc e.1,vc e.2)
def eL {α β:Type} [DecidableEq α] (k:α):List (α×β)->Option (Nat×β)
 | []=>none
 | e::l=>if e.1=k then some (0,e.2) else match eL k l with
   | some q=>some (q.1+1,q.2)
   | none=>none
def aV {α β:Type} [DecidableEq α] (l:List (α×β))(k:α)(d:β):β:=match eL k l with
 | some q=>q.2
 | none=>d
def cK {α β:Type} [DecidableEq α] (l:List (α×β))(k:α)(v:β):List (α×β):=match eL k l with
 | some q=>l.set q.1 (k,v)
 | none=>l++[(k,v)]
def pP {α β:Type} [DecidableEq α] (l:List (α×β))(k:α)(d:β):List (α×β):=match eL k l with
 | some _=>l
 | none=>l++[(k,d)]
def mix {α β:Type} [DecidableEq α] (l:List (α×β))(k:α):Nat:=match eL k l with
 | some q=>q.1
 | none=>l.length
structure KeyOK {α:Type} (T:Nat->Option TI) (kt:Nat) (kc:α->SV):Prop where
 hb:∀x,pO T kt (kc x)=true
 he:∀x y,∃b,eqC T 100 kt (kc x).cells (kc y).cells=some b/\(b=true↔kc y=kc x)
 inj:∀x y,kc x=kc y->x=y
 pl:∀x,mO 0 (kc x)=true
theorem vD {α β:Type} {kc:α->SV} {vc:β->SV} {l:List (α×β)} {i:Nat} {x:SV×SV} (h:(mapE kc vc l)[i]? = some x):∃e,l[i]? = some e/\x=(kc e.1,vc e.2):=by
 unfold mapE at h
 rw [List.getElem?_map] at h
 cases hl:l[i]? with
 | none=>rw [hl] at h;cases h
 | some e=>rw [hl] at h;simp at h;exact⟨e,rfl,h.symm⟩
theorem qH {α β:Type} {kc:α->SV} {vc:β->SV} {l:List (α×β)} {T:Nat->Option TI} {kt:Nat} {k:α} (hk:KeyOK T kt kc):kW T kt (mapE kc vc l) (kc k):=fun e he=>by
 obtain⟨i,hi⟩:=List.getElem?_of_mem he
 obtain⟨e',_,rfl⟩:=vD hi
 exact⟨hk.hb _,hk.he k e'.1⟩
theorem aKh {α β:Type} {kc:α->SV} {vc:β->SV} {l:List (α×β)} {T:Nat->Option TI} {kt:Nat} (hk:KeyOK T kt kc)(hv:∀v,mO 0 (vc v)=true):Plain (fT (mapE kc vc l)):=fun j hj=>by
 rw [cB] at hj
 obtain⟨x,hx,hj⟩:=hj
 unfold fT at hx
 obtain⟨e,he,hx⟩:=List.mem_flatMap.1 hx
 obtain⟨i,hi⟩:=List.getElem?_of_mem he
 obtain⟨e',_,rfl⟩:=vD hi
 simp only [List.mem_cons,List.not_mem_nil,or_false] at hx
 rcases hx with rfl | rfl
 · exact aBq (hk.pl _) j hj
 · exact aBq (hv _) j hj
section
variable {α β : Type} [DecidableEq α] {kc : α → SV} {vc : β → SV} {l : List (α × β)} {k : α} {T : Nat → Option TI} {kt : Nat}
theorem tJ:∀{l:List (α×β)} {q:Nat×β},eL k l=some q->l[q.1]? = some (k,q.2)/\∀j e,j < q.1->l[j]? = some e->e.1≠k
 | [],q,h=>by simp [eL] at h
 | e::l,q,h=>by
   simp only [eL] at h
   split at h
   · rename_i he
     simp only [Option.some.injEq] at h
     subst h
     exact⟨by rw [←he];rfl,fun j e hj=>absurd hj (gP _)⟩
   · rename_i he
     split at h
     · rename_i q' hq
       simp only [Option.some.injEq] at h
       subst h
       obtain⟨h1,h2⟩:=tJ hq
       refine⟨by simpa using h1,fun j e' hj hje=>?_⟩
       cases j with
       | zero=>simp at hje;rw [←hje];exact he
       | succ j=>exact h2 j e' (by omega) (by simpa using hje)
     · cases h
theorem aBr:∀{l:List (α×β)},eL k l=none->∀e∈l,e.1≠k
 | [],_,e,he=>by simp at he
 | e::l,h,e',he=>by
   simp only [eL] at h
   split at h
   · cases h
   · rename_i hne
     split at h
     · cases h
     · rename_i hn
       rcases List.mem_cons.1 he with rfl | he
       · exact hne
       · exact aBr hn e' he
theorem vE (hk:KeyOK T kt kc):aAv (mapE kc vc l) (kc k) ((eL k l).map fun q=>(q.1,vc q.2)):=by
 cases h:eL k l with
 | some q =>
   obtain⟨h1,h2⟩:=tJ h
   refine .inl ⟨q.1,vc q.2,by unfold mapE;rw [List.getElem?_map,h1];rfl,fun j e hj he=>?_,rfl⟩
   obtain⟨e',he',rfl⟩:=vD he
   exact fun hc=>h2 j e' hj he' (hk.inj _ _ hc)
 | none =>
   refine .inr ⟨fun e he hc=>?_,rfl⟩
   obtain⟨i,hi⟩:=List.getElem?_of_mem he
   obtain⟨e',he',rfl⟩:=vD hi
   exact aBr h e' (List.mem_of_getElem? he') (hk.inj _ _ hc)
theorem aBs (d:β):vc (aV l k d)=(((eL k l).map fun q=>(q.1,vc q.2)).map (·.2)).getD (vc d):=by
 unfold aV
 cases eL k l<;>rfl
theorem aEl:∀{l:List (α×β)} (d:β),eL k l=none->eL k (l++[(k,d)])=some (l.length,d)
 | [],d,_=>by simp [eL]
 | e::l,d,h=>by
   simp only [eL] at h
   split at h
   · cases h
   · rename_i hne
     split at h
     · cases h
     · rename_i hn
       simp only [List.cons_append,eL,if_neg hne,aEl d hn,List.length_cons]
theorem aOq (l:List (α×β))(k:α)(d:β):aV (pP l k d) k d=aV l k d:=by
 unfold pP aV
 cases h:eL k l with
 | some q=>simp only [h]
 | none=>simp only [aEl d h]
theorem aP5 (hk:KeyOK T kt kc)(d:β):∃q,aAv (mapE kc vc (pP l k d)) (kc k) q/\vc (aV l k d)=(q.map (·.2)).getD (vc d):=by
 rw [←aOq l k d]
 exact⟨_,vE hk,aBs d⟩
theorem aUv (hk:KeyOK T kt kc)(v:β):aUe (mapE kc vc l) (kc k) (vc v) (mapE kc vc (cK l k v)):=by
 refine⟨_,vE hk,?_⟩
 unfold cK
 cases h:eL k l with
 | some q=>simp [mapE,List.map_set]
 | none=>simp [mapE]
theorem aUw (hk:KeyOK T kt kc)(d:β):aUf (mapE kc vc l) (kc k) (vc d) (mapE kc vc (pP l k d)) (vc (aV l k d)) (mix l k):=by
 refine⟨_,vE hk,?_⟩
 unfold pP aV mix
 cases h:eL k l with
 | some q=>simp
 | none=>simp [mapE]
theorem aXu (v:β)(d:β):∃(j:Nat)(e:SV×SV),((mix l k:Nat):Int)=(j:Int)/\(mapE kc vc (pP l k d))[j]? = some e/\mapE kc vc (cK l k v)=(mapE kc vc (pP l k d)).set j (e.1,vc v):=by
 unfold pP mix cK
 cases h:eL k l with
 | some q =>
   refine⟨q.1,(kc k,vc q.2),rfl,?_,?_⟩
   · unfold mapE;rw [List.getElem?_map,(tJ h).1];rfl
   · simp [mapE,List.map_set]
 | none =>
   refine⟨l.length,(kc k,vc d),rfl,?_,?_⟩
   · simp [mapE]
   · simp [mapE]
variable {P : Program}
def St.z (id:Nat):St P:=⟨[.stop id],[],trivial⟩
def vB (b:Bool):SV:=.v (.bool b)
def St.mG (hk:KeyOK T kt kc)(vc:β->SV)(l:List (α×β))(k:α)(d:β):St P :=
 ⟨[.ld [vc (aV l k d)]],[.pr (kW T kt (mapE kc vc l) (kc k)),.pr (∃q,aAv (mapE kc vc l) (kc k) q/\vc (aV l k d)=(q.map (·.2)).getD (vc d))],qH hk,⟨_,vE hk,aBs d⟩,trivial⟩
def St.mGa (hk:KeyOK T kt kc)(vc:β->SV)(l:List (α×β))(k:α)(d:β)(b:Nat):St P :=
 ⟨[.alt b (.map (mapE kc vc (pP l k d))),.ld [vc (aV l k d)]],[.pr (kW T kt (mapE kc vc l) (kc k)),.pr (∃q,aAv (mapE kc vc l) (kc k) q/\vc (aV l k d)=(q.map (·.2)).getD (vc d)),
   .pr (kW T kt (mapE kc vc (pP l k d)) (kc k)),.pr (∃q,aAv (mapE kc vc (pP l k d)) (kc k) q/\vc (aV l k d)=(q.map (·.2)).getD (vc d)),.pr (({ val:=vc (aV l k d) }:Eff)={ val:=vc (aV l k d) })],
   qH hk,⟨_,vE hk,aBs d⟩,qH hk,aP5 hk d,rfl,trivial⟩
def St.mR (kc:α->SV)(vc:β->SV)(l:List (α×β))(k:α)(d:β):St P:=⟨[],[.pr (BK.map (mapE kc vc (pP l k d))=BK.map (mapE kc vc (pP l k d)))],rfl,trivial⟩
def St.mP (hk:KeyOK T kt kc)(vc:β->SV)(l:List (α×β))(k:α)(v:β)(hv:∀v,mO 0 (vc v)=true:=by exact fun _=>rfl):St P :=
 ⟨[.mp (mapE kc vc (cK l k v))],[.pr (kW T kt (mapE kc vc l) (kc k)),.pr (aUe (mapE kc vc l) (kc k) (vc v) (mapE kc vc (cK l k v))),.pr (Plain (fT (mapE kc vc (cK l k v))))],qH hk,aUv hk v,aKh hk hv,trivial⟩
def St.mE (hk:KeyOK T kt kc)(vc:β->SV)(l:List (α×β))(k:α)(d:β)(hv:∀v,mO 0 (vc v)=true:=by exact fun _=>rfl):St P :=
 ⟨[.mp (mapE kc vc (pP l k d)),.ld [vc (aV l k d),iv ((mix l k:Nat):Int)]],[.pr (kW T kt (mapE kc vc l) (kc k)),.pr (∃j:Nat,((mix l k:Nat):Int)=(j:Int)/\aUf (mapE kc vc l) (kc k) (vc d) (mapE kc vc (pP l k d)) (vc (aV l k d)) j),.pr (Plain (fT (mapE kc vc (pP l k d))))],qH hk,⟨_,rfl,aUw hk d⟩,aKh hk hv,trivial⟩
def St.mS (hk:KeyOK T kt kc)(vc:β->SV)(l:List (α×β))(k:α)(d v:β)(hv:∀v,mO 0 (vc v)=true:=by exact fun _=>rfl):St P :=
 ⟨[.mp (mapE kc vc (cK l k v))],[.pr (∃(j:Nat) (e:SV×SV),((mix l k:Nat):Int)=(j:Int)/\(mapE kc vc (pP l k d))[j]? = some e/\mapE kc vc (cK l k v)=(mapE kc vc (pP l k d)).set j (e.1,vc v)),.pr (Plain (fT (mapE kc vc (cK l k v))))],aXu v d,aKh hk hv,trivial⟩
end
def St.sub {P:Program} (a b:Int)(n:Nat)(h:0<=a/\a<=b/\b<=(n:Int):=by omega):St P:=⟨[.mp []],[.pr (0<=a/\a<=b/\b<=(n:Int))],h,trivial⟩
section
variable {P : Program}
theorem aAf {α:Type} {c:α->List SV} (hc:∀x,(c x).all SV.plain=true)(l:List α):Plain (flat c l):=fD hc
def St.D {α:Type} {c:α->List SV} {c2:List α->List SV} (es:Nat)(hc2:∀x,c2 x=[.d (flat c x) x.length es])(l:List (List α))(i:Int)(h:0<=i/\i < (l.length:Int):=by omega) (hc:∀x,(c x).all SV.plain=true:=by exact fun _=>rfl):St P :=
 ⟨[.ld [.d (flat c (l.getD i.toNat default)) (l.getD i.toNat default).length es]],[.pr (((flat c2 l).drop (0+i.toNat*1)).take 1=[.d (flat c (l.getD i.toNat default)) (l.getD i.toNat default).length es]),.pr (Plain (flat c (l.getD i.toNat default)))],
   by
     have h1:∀x,(c2 x).length=1:=fun x=>by rw [hc2];rfl
     have:=aP4 h1 l i 0 1 h (by decide)
     rw [Nat.add_zero] at this
     show _=_
     rw [this,hc2];rfl,aAf hc _,trivial⟩
theorem aP6 {α:Type} {c:α->List SV} {z:α} (n:Nat):flat c (List.replicate n z)=(List.replicate n (c z)).flatten:=by
 unfold flat
 rw [List.flatMap_def,List.map_replicate]
def St.Z {α:Type} (c:α->List SV)(z:α)(zs:List SV)(n:Int)(bytes:Nat)(h:0<=n/\n.toNat*bytes<=2 ^ 47/\n<=2 ^ 47:=by omega) (e:c z=zs:=by rfl):St P :=
 ⟨[.ld (flat c (List.replicate n.toNat z))],[.pr (0<=n/\n.toNat*bytes<=2 ^ 47/\n<=2 ^ 47),.pr (n=n),.pr (flat c (List.replicate n.toNat z)=(List.replicate n.toNat zs).flatten)],h,rfl,by rw [←e];exact aP6 _,trivial⟩
theorem aEm {α:Type} {c:α->List SV} {es:Nat} (hc:∀x,(c x).length=es):∀(l:List α)(n:Nat),(flat c l).drop (n*es)=flat c (l.drop n)
 | [],n=>by simp [flat]
 | x::l,0=>by simp
 | x::l,n+1=>by
   rw [iO,Nat.add_mul,Nat.one_mul,Nat.add_comm,←List.drop_drop,List.drop_left' (hc x),aEm hc l n];simp
theorem aEn {α:Type} {c:α->List SV} {es:Nat} (hc:∀x,(c x).length=es):∀(l:List α)(n:Nat),(flat c l).take (n*es)=flat c (l.take n)
 | [],n=>by simp [flat]
 | x::l,0=>by simp [flat]
 | x::l,n+1=>by
   rw [iO,Nat.add_mul,Nat.one_mul,Nat.add_comm,←hc x,List.take_length_add_append,hc x,aEn hc l n];simp [iO]
def part {α:Type} (l:List α)(a b:Int):List α:=(l.drop a.toNat).take (b.toNat - a.toNat)
def St.S {α:Type} {c:α->List SV} {es:Nat} (hc:∀x,(c x).length=es)(l:List α)(a b:Int)(n:Nat)(h:0<=a/\a<=b/\b<=(n:Int):=by omega):St P :=
 ⟨[.ld (flat c (part l a b))],[.pr (0<=a/\a<=b/\b<=(n:Int)),.pr (flat c (part l a b)=((flat c l).drop (0+a.toNat*es)).take ((b.toNat - a.toNat)*es))],h,by rw [Nat.zero_add,aEm hc,aEn hc];rfl,trivial⟩
end
end Go.Aw
namespace Go.Aw
open Go.RowKit
mutual
def SV.hasB (i:Nat):SV->Bool
 | .p j _=>j == i
 | .s j _ _ _=>j == i
 | .m j=>j == i
 | .f _ caps=>SV.hasBl i caps
 | .a l=>SV.hasBl i l
 | .t l=>SV.hasBl i l
 | _=>false
def SV.hasBl (i:Nat):List SV->Bool
 | []=>false
 | x::l=>SV.hasB i x || SV.hasBl i l
end
mutual
theorem bAz {i:Nat}:∀(x:SV),x.has i->x.hasB i=true
 | .u,h=>by simp [SV.has] at h
 | .b _,h=>by simp [SV.has] at h
 | .v _,h=>by simp [SV.has] at h
 | .d _ _ _,h=>by simp [SV.has] at h
 | .p j _,h=>by simp only [SV.has] at h;simp [SV.hasB,h]
 | .s j _ _ _,h=>by simp only [SV.has] at h;simp [SV.hasB,h]
 | .m j,h=>by simp only [SV.has] at h;simp [SV.hasB,h]
 | .f _ caps,h=>by simp only [SV.has] at h;simp only [SV.hasB];exact hasl_B caps h
 | .a l,h=>by simp only [SV.has] at h;simp only [SV.hasB];exact hasl_B l h
 | .t l,h=>by simp only [SV.has] at h;simp only [SV.hasB];exact hasl_B l h
theorem hasl_B {i:Nat}:∀(l:List SV),SV.hasl i l->SV.hasBl i l=true
 | [],h=>by simp [SV.hasl] at h
 | x::l,h=>by
   simp only [SV.hasl] at h
   simp only [SV.hasBl,Bool.or_eq_true]
   exact h.imp (bAz x) (hasl_B l)
end
def BK.hasB (i:Nat):BK->Bool
 | .live _ false cells=>SV.hasBl i cells
 | .map es=>SV.hasBl i (fT es)
 | _=>false
theorem bEx {i:Nat} {x:BK} (hpl:x.pl)(h:x.has i):x.hasB i=true:=by
 cases x with
 | un=>exact h.elim
 | dead=>exact h.elim
 | map es=>exact hasl_B _ h
 | live own sym cells =>
   cases sym with
   | true=>exact(hpl i h).elim
   | false=>exact hasl_B _ h
section
variable {P : Program} {ρ : Env} {W : World} {M : Nat → Prop}
theorem aEo {ρ ρ2:Env} {x y:SV}:∀{pre post:List SV} {vs:List Value},Rels ρ (pre++x::post) vs->ρ.le ρ2->(∀j,SV.hasl j pre\/SV.hasl j post->ρ2 j=ρ j)->(∃v,vs[pre.length]? = some v/\Rel ρ2 y v)->Rels ρ2 (pre++y::post) vs
 | [],post,[],h,_,_,_=>by simp [Rels] at h
 | [],post,v::vs,h,hf,hj,hx=>by
   simp only [List.nil_append,Rels] at h ⊢
   obtain⟨v',e,hx⟩:=hx
   simp only [List.length_nil,List.getElem?_cons_zero,Option.some.injEq] at e
   subst e
   exact⟨hx,Rels.congr hf _ _ (fun j hk=>hj j (.inr hk)) h.2⟩
 | z::pre,post,[],h,_,_,_=>by simp [Rels] at h
 | z::pre,post,v::vs,h,hf,hj,hx=>by
   simp only [List.cons_append,Rels] at h ⊢
   refine⟨Rel.congr hf _ _ (fun j hk=>hj j (.inl (by simp only [SV.hasl];exact .inl hk))) h.1,aEo h.2 hf (fun j hk=>hj j ?_) ?_⟩
   · rcases hk with hk | hk
     · exact .inl (by simp only [SV.hasl];exact .inr hk)
     · exact .inr hk
   · obtain⟨v',e,hx⟩:=hx
     exact⟨v',by simpa using e,hx⟩
theorem aMx {x:SV}:∀{pre post:List SV} {vs:List Value},Rels ρ (pre++x::post) vs->∃v,vs[pre.length]? = some v/\Rel ρ x v
 | [],_,[],h=>by simp [Rels] at h
 | [],_,v::_,h=>by simp only [List.nil_append,Rels] at h;exact⟨v,rfl,h.1⟩
 | _::_,_,[],h=>by simp [Rels] at h
 | _::pre,_,_::_,h=>by
   simp only [List.cons_append,Rels] at h
   obtain⟨v,e,hx⟩:=aMx h.2
   exact⟨v,by simpa using e,hx⟩
theorem aP7 {x:BK} {bs1 bs2:List BK} (j:Nat):(bs1++x::bs2).getD j .un=if j=bs1.length then x else if j < bs1.length then bs1.getD j .un else bs2.getD (j - bs1.length - 1) .un:=by
 simp only [eZ]
 by_cases h:j=bs1.length
 · subst h;simp
 · rw [if_neg h]
   by_cases h2:j < bs1.length
   · rw [if_pos h2,List.getElem?_append_left h2]
   · rw [if_neg h2,List.getElem?_append_right (by omega)]
     obtain⟨k,hk⟩:∃k,j - bs1.length=k+1:=⟨j - bs1.length - 1,by omega⟩
     rw [hk];simp
theorem lI {x:BK} {bs:List BK} (j:Nat):(bs++[x]).getD j .un=if j=bs.length then x else bs.getD j .un:=by
 rw [aP7 (bs2:=[])]
 by_cases h:j=bs.length
 · rw [if_pos h,if_pos h]
 · rw [if_neg h,if_neg h]
   by_cases h2:j < bs.length
   · rw [if_pos h2]
   · rw [if_neg h2]
     simp only [eZ]
     rw [List.getElem?_eq_none (by omega:bs.length<=j)];simp
end
end Go.Aw
namespace Go.Proofs.YtaeagjnpobdglaaGreat
open Go.Proofs Go.Aw Go.RowKit
set_option maxRecDepth 100000
noncomputable def T0:=conv Tryz.prog
theorem hT:lG Tryz.prog T0:=fun _ _ h=>h
theorem hm:Tryz.prog.follows .mixedOrders=true:=by kernel_rfl
def W (n:Int):Int:=IntKind.wrap .i64 n
theorem aMy (n:Int):W n=if n % 18446744073709551616≥9223372036854775808 then n % 18446744073709551616 - 18446744073709551616 else n % 18446744073709551616:=by
 unfold W IntKind.wrap
 simp [IntKind.bits,IntKind.signed]
theorem aE {n:Int} (h1:-9223372036854775808<=n)(h2:n < 9223372036854775808):W n=n:=by
 rw [aMy];split<;>omega
theorem aFn (x:Int)(k:Nat) {m:Nat} (hm:(2:Int) ^ (min (toNat k) 64)=m):Int.fdiv x (2 ^ (min (toNat k) 64))=x / m:=by
 rw [hm];exact Int.fdiv_eq_ediv_of_nonneg _ (by omega)
theorem aFo {a b:Int} (h:0<=a/\a<=b/\b<=2147483648):W (Int.tdiv (W ((W (a+b))+1)) 2)=(a+b+1) / 2:=by
 rw [aE (n:=a+b) (by omega) (by omega),aE (n:=a+b+1) (by omega) (by omega),Int.tdiv_eq_ediv_of_nonneg (by omega),aE (by omega) (by omega)]
theorem aFp {a b:Int} (h:0<=a/\a<=b/\b<=2147483648):W (Int.tdiv (W (a+b)) 2)=(a+b) / 2:=by
 rw [aE (n:=a+b) (by omega) (by omega),Int.tdiv_eq_ediv_of_nonneg (by omega),aE (by omega) (by omega)]
theorem aMz {a b:Int} (h:0<=a/\a<=b/\b<=2147483648):W ((W (Int.tdiv (W ((W (a+b))+1)) 2)) - 1)=(a+b+1) / 2 - 1:=by
 rw [aFo h,aE (by omega) (by omega)]
theorem aM0 {a b:Int} (h:0<=a/\a<=b/\b<=2147483648):W ((W (Int.tdiv (W (a+b)) 2))+1)=(a+b) / 2+1:=by
 rw [aFp h,aE (by omega) (by omega)]
theorem eE (n:Int):0<=IntKind.wrap .u64 n:=by
 simp only [IntKind.wrap,IntKind.bits,IntKind.signed]
 simp
 omega
def k9 (x:Zt×Zt×Zt):List SV:=[(iv x.1.1),(iv x.1.2.1),(iv x.1.2.2),(iv x.2.1.1),(iv x.2.1.2.1),(iv x.2.1.2.2),(iv x.2.2.1),(iv x.2.2.2.1),(iv x.2.2.2.2)]
def k3 (x:Zt):List SV:=[(iv x.1),(iv x.2.1),(iv x.2.2)]
def k2 (x:Int×Int):List SV:=[(iv x.1),(iv x.2)]
section
variable {cx : Cx} {k : List K} {s : LS} {base : Nat} {Q : Exit → Act → World → Prop}
theorem rt {fn:Func} (sts:List (St Tryz.prog))(ads:List Adj)(ks:List Nat)(hb:cx.base=base) {res:SV} {nb:List BK}
 (h:zA T0 fn.results.toList base [] ks (qA ads (run T0 5000 k s (stO sts)))=some (res,nb,[],stB sts)):Aw.Good Tryz.prog none 9 (bodyPost Tryz.prog fn (RR cx res nb [])) cx [] k s:=bAy hT hm sts ads ks hb h
theorem en (sts:List (St Tryz.prog))(ads:List Adj)(ts ks:List Nat)(hb:cx.base=base)(body:Code)(k':List K)(s':LS)(m:Nat)
 (h:aAc base ts ks (qA ads (run T0 5000 k s (stO sts)))=some (body,k',s',stB sts)) (hg:Aw.Good Tryz.prog none 9 Q cx [] (.l body m::k') s'):Aw.Good Tryz.prog none 9 Q cx [] k s:=aUu hT hm sts ads ts ks hb body k' s' m h hg
theorem ba {m:Nat} (sts:List (St Tryz.prog))(ads:List Adj)(ts ks:List Nat)(hb:cx.base=base)(body:Code)(k':List K)(s':LS)
 (h:aFj base ts ks (qA ads (run T0 5000 k s (stO sts)))=some (body,m,k',s',stB sts)) (hg:Aw.Good Tryz.prog none 9 Q cx [] (.l body m::k') s'):Aw.Good Tryz.prog none 9 Q cx [] k s:=aXt hT hm sts ads ts ks hb body k' s' h hg
theorem ga (sts:List (St Tryz.prog))(ads:List Adj)(ts ks:List Nat)(hb:cx.base=base)(x:Code)(k':List K)(s':LS)
 (h:aUs base ts ks (qA ads (run T0 5000 k s (stO sts)))=some (x,k',s',stB sts)) (hg:Aw.Good Tryz.prog none 9 Q cx [] (.c x::k') s'):Aw.Good Tryz.prog none 9 Q cx [] k s:=bEw hT hm sts ads ts ks hb x k' s' h hg
end
def sE (a0:Zt)(a1:Int):Zt :=
 ((W (a1*a0.1)),(W (a1*a0.2.1)),(W (a1*a0.2.2)))
theorem C93 (a0:Zt)(a1:Int):Con Tryz.prog 93 [(.a (k3 a0)),(iv a1)] [] (.a (k3 (sE a0 a1))) []:=by
 refine aJ Tryz.func93 (by kernel_rfl) fun cx hcx=>?_
 have e:=Eq.refl (sE a0 a1);conv at e=>rhs;simp only [sE]
 rw [e]
 exact rt [] [] [] hcx (by kernel_rfl)
def gS (a0:Zt)(a1:Zt):Zt :=
 ((W (a0.1+a1.1)),(W (a0.2.1+a1.2.1)),(W (a0.2.2+a1.2.2)))
theorem aXv (a0:Zt)(a1:Zt):Con Tryz.prog 125 [(.a (k3 a0)),(.a (k3 a1))] [] (.a (k3 (gS a0 a1))) []:=by
 refine aJ Tryz.func125 (by kernel_rfl) fun cx hcx=>?_
 have e:=Eq.refl (gS a0 a1);conv at e=>rhs;simp only [gS]
 rw [e]
 exact rt [] [] [] hcx (by kernel_rfl)
def cP (x:Zt×Zt×Zt):List SV:=[iv x.1.1,iv x.1.2.1,iv x.1.2.2,iv x.2.1.1,iv x.2.1.2.1,iv x.2.1.2.2,iv x.2.2.1,iv x.2.2.2.1,iv x.2.2.2.2]
def aDw (x:Zt×Zt×Zt):Value:=.agg #[.int .i64 x.1.1,.int .i64 x.1.2.1,.int .i64 x.1.2.2,.int .i64 x.2.1.1,.int .i64 x.2.1.2.1,.int .i64 x.2.1.2.2,.int .i64 x.2.2.1,.int .i64 x.2.2.2.1,.int .i64 x.2.2.2.2]
theorem aBt (ρ:Env)(x:Zt×Zt×Zt):Rel ρ (.a (cP x)) (aDw x):=by
 simp only [Rel];exact⟨_,rfl,by simp [cP,Rels,Rel,iv]⟩
theorem aP8 (x:Zt×Zt×Zt)(k:Nat):¬(SV.a (cP x)).has k:=by
 simp [cP,SV.has,SV.hasl,iv]
def yv (l:Nat):Value:=.func (.yield l) #[] #[]
def q1 (p:Zt×Zt×Zt):Zt×Zt×Zt:=(sE p.1 2,gS p.1 p.2.1,gS p.2.2 p.1)
def q2 (p:Zt×Zt×Zt):Zt×Zt×Zt:=(gS p.1 p.2.1,sE p.2.1 2,gS p.2.1 p.2.2)
def q3 (p:Zt×Zt×Zt):Zt×Zt×Zt:=(gS p.2.2 p.1,gS p.2.1 p.2.2,sE p.2.2 2)
def q4 (p:Zt×Zt×Zt):Zt×Zt×Zt:=(gS p.1 p.2.1,gS p.2.1 p.2.2,gS p.2.2 p.1)
def aR:Nat->Zt×Zt×Zt->List (Zt×Zt×Zt)
 | 0,p=>[p]
 | d+1,p=>aR d (q1 p)++(aR d (q2 p)++(aR d (q3 p)++aR d (q4 p)))
theorem zC:∀(d:Nat)(p:Zt×Zt×Zt),(aR d p).length=4 ^ d
 | 0,p=>rfl
 | d+1,p=>by simp only [aR,List.length_append,zC d,Nat.pow_succ];omega
def vF (l:Nat)(J:Nat->(Nat->Prop)->World->Prop)(Jx:(Nat->Prop)->World->Prop)(xs:List (Zt×Zt×Zt))(d:Nat):Prop :=
 ∀(p:Zt×Zt×Zt) (i:Nat) (S:Nat->Prop) (W:World) (ρ:Env) (vs:List Value),Rels ρ [.a (cP p),iv d,.p 0 0,.p 1 0] vs ->
   BRep ρ (fun b=>W.heap.size<=b) W 0 (.live false false [.v (yv l)])->BRep ρ (fun b=>W.heap.size<=b) W 1 (.live false false [.f 124 [.p 0 0,.p 1 0]]) ->
   (∀k,k < 2->∀b o n,ρ k=some (b,o,n)->¬S b)->J i S W->(∀j x,(aR d p)[j]? = some x->xs[i+j]? = some x) ->
   Calls Tryz.prog 124 vs.toArray W (VR J Jx (i+(aR d p).length) S W)
noncomputable def OY:Array Oper:=match (fE [1,0,1,0,0] [] (Tryz.f124.body.getD .skip)).1 with
 | .region _ ops _=>ops
 | _=>#[]
noncomputable def KY:List K:=(fE [1,0,1,0,0] [] (Tryz.f124.body.getD .skip)).2
noncomputable def OV:Array Oper:=match (fE [1,1,1,1,0,1,0,0,1,1,0,0,1,0] [0] (Tryz.f124.body.getD .skip)).1 with
 | .region _ ops _=>ops
 | _=>#[]
noncomputable def KV (m:Nat):List K:=(fE [1,1,1,1,0,1,0,0,1,1,0,0,1,0] [m] (Tryz.f124.body.getD .skip)).2
noncomputable def oY:Oper:=OY.toList.getD 2 default
noncomputable def oV:Oper:=OV.toList.getD 4 default
noncomputable def aKi (o:Oper):Array TypeId:=match o.op with
 | .call c=>c.argTypes
 | _=>#[]
theorem bA0:oY.op=.call { callee:=.value (.tmp 17),args:=#[.tmp 18],argTypes:=aKi oY }:=by kernel_rfl
theorem bA1:oV.op=.call { callee:=.value (.tmp 66),args:=#[.tmp 67,.tmp 69],argTypes:=aKi oV }:=by kernel_rfl
theorem aP9:OY.toList=OY.toList.take 2++oY::OY.toList.drop 3:=by kernel_rfl
theorem vG:OV.toList=OV.toList.take 4++oV::OV.toList.drop 5:=by kernel_rfl
theorem aQa:oJ Tryz.prog 124:=ent Tryz.func124 (by kernel_rfl) rfl
theorem aXw:oJ Tryz.prog 123:=ent Tryz.func123 (by kernel_rfl) rfl
def zY (l:Nat)(p:Zt×Zt×Zt):LS:=⟨[.u,.u,.p 0 0,.u,.p 2 0,.u,.u,.u,.u,.u,.u,.u,.u,.u,.u,.u,.u,.u,.u,.u,.u,.u,.u,.u,.u,.u,.u,.u,.u,.u,.u,.u,.u,.u,.u,.u,.u,.u,.u,.u,.u,.u,.u,.u,.u,.u,.u,.u,.u,.u,.u,.u,.u,.u,.u,.u,.u,.u,.u,.u,.u,.u,.u,.u,.u,.u,.u,.u,.u,.u,.u,.u,.u],[.live false false [.v (yv l)],.live false false [.f 124 [.p 0 0,.p 1 0]],.live true false (cP p)]⟩
def zY1 (l:Nat)(p:Zt×Zt×Zt):LS:=⟨[.u,.u,.p 0 0,.u,.p 2 0,.u,.u,.u,.u,.u,.u,.u,.u,.u,.u,.u,.u,.v (yv l),.a (cP p),.u,.u,.u,.u,.u,.u,.u,.u,.u,.u,.u,.u,.u,.u,.u,.u,.u,.u,.u,.u,.u,.u,.u,.u,.u,.u,.u,.u,.u,.u,.u,.u,.u,.u,.u,.u,.u,.u,.u,.u,.u,.u,.u,.u,.u,.u,.u,.u,.u,.u,.u,.u,.u,.u],[.live false false [.v (yv l)],.live false false [.f 124 [.p 0 0,.p 1 0]],.live true false (cP p)]⟩
def zY3 (l:Nat)(p:Zt×Zt×Zt)(b:Bool):LS:=⟨[.u,.u,.p 0 0,.u,.p 2 0,.u,.v (.bool b),.u,.u,.u,.u,.u,.u,.u,.u,.u,.u,.v (yv l),.a (cP p),.v (.bool b),.u,.u,.u,.u,.u,.u,.u,.u,.u,.u,.u,.u,.u,.u,.u,.u,.u,.u,.u,.u,.u,.u,.u,.u,.u,.u,.u,.u,.u,.u,.u,.u,.u,.u,.u,.u,.u,.u,.u,.u,.u,.u,.u,.u,.u,.u,.u,.u,.u,.u,.u,.u,.u],[.live false false [.v (yv l)],.live false false [.f 124 [.p 0 0,.p 1 0]],.live false false (cP p)]⟩
def zV1 (l:Nat)(p:Zt×Zt×Zt)(d:Int):LS:=⟨[.u,iv d,.u,.p 1 0,.u,.u,.u,.u,.u,.u,.u,.u,.u,.u,.p 3 0,.u,.u,.u,.u,.u,.u,.u,.u,.u,.u,.u,.u,.u,.u,.u,.u,.u,.u,.u,.u,.u,.u,.u,.u,.u,.u,.u,.u,.u,.u,.u,.u,.u,.u,.u,.u,.u,.u,.u,.u,.u,.u,.u,.u,.u,.s 2 0 4 9,iv 4,iv 0,.u,.u,.u,.u,.u,.u,.u,.u,.u,.u],[.live false false [.v (yv l)],.live false false [.f 124 [.p 0 0,.p 1 0]],.live true false (cP (q1 p)++(cP (q2 p)++(cP (q3 p)++cP (q4 p)))),.live true false (cP (q1 p))]⟩
def bEy (l:Nat)(p:Zt×Zt×Zt)(d:Int):LS:=⟨[.u,iv d,.u,.p 1 0,.u,.u,.u,.u,.u,.u,.u,.u,.u,.u,.p 3 0,.u,.u,.u,.u,.u,.u,.u,.u,.u,.u,.u,.u,.u,.u,.u,.u,.u,.u,.u,.u,.u,.u,.u,.u,.u,.u,.u,.u,.u,.u,.u,.u,.u,.u,.u,.u,.u,.u,.u,.u,.u,.u,.u,.u,.u,.s 2 0 4 9,iv 4,iv 0,.u,.u,.u,.f 124 [.p 0 0,.p 1 0],.a (cP (q1 p)),iv d,iv (W (d - 1)),.u,.u,.u],[.live false false [.v (yv l)],.live false false [.f 124 [.p 0 0,.p 1 0]],.live true false (cP (q1 p)++(cP (q2 p)++(cP (q3 p)++cP (q4 p)))),.live true false (cP (q1 p))]⟩
def bEz (l:Nat)(p:Zt×Zt×Zt)(d:Int)(b:Bool):LS:=⟨[.u,iv d,.u,.p 1 0,.u,.u,.u,.u,.u,.u,.u,.u,.u,.u,.p 3 0,.u,.u,.u,.u,.u,.u,.u,.u,.u,.u,.u,.u,.u,.u,.u,.u,.u,.u,.u,.u,.u,.u,.u,.u,.u,.u,.u,.u,.u,.u,.u,.u,.u,.u,.u,.u,.u,.u,.u,.u,.u,.u,.u,.u,.u,.s 2 0 4 9,iv 4,iv 0,.u,.u,.u,.f 124 [.p 0 0,.p 1 0],.a (cP (q1 p)),iv d,iv (W (d - 1)),.v (.bool b),.v (.bool (!b)),.u],[.live false false [.v (yv l)],.live false false [.f 124 [.p 0 0,.p 1 0]],.live false false (cP (q1 p)++(cP (q2 p)++(cP (q3 p)++cP (q4 p)))),.live false false (cP (q1 p))]⟩
def zV2 (l:Nat)(p:Zt×Zt×Zt)(d:Int):LS:=⟨[.u,iv d,.u,.p 1 0,.u,.u,.u,.u,.u,.u,.u,.u,.u,.u,.p 4 0,.u,.u,.u,.u,.u,.u,.u,.u,.u,.u,.u,.u,.u,.u,.u,.u,.u,.u,.u,.u,.u,.u,.u,.u,.u,.u,.u,.u,.u,.u,.u,.u,.u,.u,.u,.u,.u,.u,.u,.u,.u,.u,.u,.u,.u,.s 2 0 4 9,iv 4,iv 1,.u,.u,.u,.u,.u,.u,.u,.u,.u,.u],[.live false false [.v (yv l)],.live false false [.f 124 [.p 0 0,.p 1 0]],.live false false (cP (q1 p)++(cP (q2 p)++(cP (q3 p)++cP (q4 p)))),.live false false (cP (q1 p)),.live true false (cP (q2 p))]⟩
def bE0 (l:Nat)(p:Zt×Zt×Zt)(d:Int):LS:=⟨[.u,iv d,.u,.p 1 0,.u,.u,.u,.u,.u,.u,.u,.u,.u,.u,.p 4 0,.u,.u,.u,.u,.u,.u,.u,.u,.u,.u,.u,.u,.u,.u,.u,.u,.u,.u,.u,.u,.u,.u,.u,.u,.u,.u,.u,.u,.u,.u,.u,.u,.u,.u,.u,.u,.u,.u,.u,.u,.u,.u,.u,.u,.u,.s 2 0 4 9,iv 4,iv 1,.u,.u,.u,.f 124 [.p 0 0,.p 1 0],.a (cP (q2 p)),iv d,iv (W (d - 1)),.u,.u,.u],[.live false false [.v (yv l)],.live false false [.f 124 [.p 0 0,.p 1 0]],.live false false (cP (q1 p)++(cP (q2 p)++(cP (q3 p)++cP (q4 p)))),.live false false (cP (q1 p)),.live true false (cP (q2 p))]⟩
def bE1 (l:Nat)(p:Zt×Zt×Zt)(d:Int)(b:Bool):LS:=⟨[.u,iv d,.u,.p 1 0,.u,.u,.u,.u,.u,.u,.u,.u,.u,.u,.p 4 0,.u,.u,.u,.u,.u,.u,.u,.u,.u,.u,.u,.u,.u,.u,.u,.u,.u,.u,.u,.u,.u,.u,.u,.u,.u,.u,.u,.u,.u,.u,.u,.u,.u,.u,.u,.u,.u,.u,.u,.u,.u,.u,.u,.u,.u,.s 2 0 4 9,iv 4,iv 1,.u,.u,.u,.f 124 [.p 0 0,.p 1 0],.a (cP (q2 p)),iv d,iv (W (d - 1)),.v (.bool b),.v (.bool (!b)),.u],[.live false false [.v (yv l)],.live false false [.f 124 [.p 0 0,.p 1 0]],.live false false (cP (q1 p)++(cP (q2 p)++(cP (q3 p)++cP (q4 p)))),.live false false (cP (q1 p)),.live false false (cP (q2 p))]⟩
def zV3 (l:Nat)(p:Zt×Zt×Zt)(d:Int):LS:=⟨[.u,iv d,.u,.p 1 0,.u,.u,.u,.u,.u,.u,.u,.u,.u,.u,.p 5 0,.u,.u,.u,.u,.u,.u,.u,.u,.u,.u,.u,.u,.u,.u,.u,.u,.u,.u,.u,.u,.u,.u,.u,.u,.u,.u,.u,.u,.u,.u,.u,.u,.u,.u,.u,.u,.u,.u,.u,.u,.u,.u,.u,.u,.u,.s 2 0 4 9,iv 4,iv 2,.u,.u,.u,.u,.u,.u,.u,.u,.u,.u],[.live false false [.v (yv l)],.live false false [.f 124 [.p 0 0,.p 1 0]],.live false false (cP (q1 p)++(cP (q2 p)++(cP (q3 p)++cP (q4 p)))),.live false false (cP (q1 p)),.live false false (cP (q2 p)),.live true false (cP (q3 p))]⟩
def bE2 (l:Nat)(p:Zt×Zt×Zt)(d:Int):LS:=⟨[.u,iv d,.u,.p 1 0,.u,.u,.u,.u,.u,.u,.u,.u,.u,.u,.p 5 0,.u,.u,.u,.u,.u,.u,.u,.u,.u,.u,.u,.u,.u,.u,.u,.u,.u,.u,.u,.u,.u,.u,.u,.u,.u,.u,.u,.u,.u,.u,.u,.u,.u,.u,.u,.u,.u,.u,.u,.u,.u,.u,.u,.u,.u,.s 2 0 4 9,iv 4,iv 2,.u,.u,.u,.f 124 [.p 0 0,.p 1 0],.a (cP (q3 p)),iv d,iv (W (d - 1)),.u,.u,.u],[.live false false [.v (yv l)],.live false false [.f 124 [.p 0 0,.p 1 0]],.live false false (cP (q1 p)++(cP (q2 p)++(cP (q3 p)++cP (q4 p)))),.live false false (cP (q1 p)),.live false false (cP (q2 p)),.live true false (cP (q3 p))]⟩
def bE3 (l:Nat)(p:Zt×Zt×Zt)(d:Int)(b:Bool):LS:=⟨[.u,iv d,.u,.p 1 0,.u,.u,.u,.u,.u,.u,.u,.u,.u,.u,.p 5 0,.u,.u,.u,.u,.u,.u,.u,.u,.u,.u,.u,.u,.u,.u,.u,.u,.u,.u,.u,.u,.u,.u,.u,.u,.u,.u,.u,.u,.u,.u,.u,.u,.u,.u,.u,.u,.u,.u,.u,.u,.u,.u,.u,.u,.u,.s 2 0 4 9,iv 4,iv 2,.u,.u,.u,.f 124 [.p 0 0,.p 1 0],.a (cP (q3 p)),iv d,iv (W (d - 1)),.v (.bool b),.v (.bool (!b)),.u],[.live false false [.v (yv l)],.live false false [.f 124 [.p 0 0,.p 1 0]],.live false false (cP (q1 p)++(cP (q2 p)++(cP (q3 p)++cP (q4 p)))),.live false false (cP (q1 p)),.live false false (cP (q2 p)),.live false false (cP (q3 p))]⟩
def zV4 (l:Nat)(p:Zt×Zt×Zt)(d:Int):LS:=⟨[.u,iv d,.u,.p 1 0,.u,.u,.u,.u,.u,.u,.u,.u,.u,.u,.p 6 0,.u,.u,.u,.u,.u,.u,.u,.u,.u,.u,.u,.u,.u,.u,.u,.u,.u,.u,.u,.u,.u,.u,.u,.u,.u,.u,.u,.u,.u,.u,.u,.u,.u,.u,.u,.u,.u,.u,.u,.u,.u,.u,.u,.u,.u,.s 2 0 4 9,iv 4,iv 3,.u,.u,.u,.u,.u,.u,.u,.u,.u,.u],[.live false false [.v (yv l)],.live false false [.f 124 [.p 0 0,.p 1 0]],.live false false (cP (q1 p)++(cP (q2 p)++(cP (q3 p)++cP (q4 p)))),.live false false (cP (q1 p)),.live false false (cP (q2 p)),.live false false (cP (q3 p)),.live true false (cP (q4 p))]⟩
def bE4 (l:Nat)(p:Zt×Zt×Zt)(d:Int):LS:=⟨[.u,iv d,.u,.p 1 0,.u,.u,.u,.u,.u,.u,.u,.u,.u,.u,.p 6 0,.u,.u,.u,.u,.u,.u,.u,.u,.u,.u,.u,.u,.u,.u,.u,.u,.u,.u,.u,.u,.u,.u,.u,.u,.u,.u,.u,.u,.u,.u,.u,.u,.u,.u,.u,.u,.u,.u,.u,.u,.u,.u,.u,.u,.u,.s 2 0 4 9,iv 4,iv 3,.u,.u,.u,.f 124 [.p 0 0,.p 1 0],.a (cP (q4 p)),iv d,iv (W (d - 1)),.u,.u,.u],[.live false false [.v (yv l)],.live false false [.f 124 [.p 0 0,.p 1 0]],.live false false (cP (q1 p)++(cP (q2 p)++(cP (q3 p)++cP (q4 p)))),.live false false (cP (q1 p)),.live false false (cP (q2 p)),.live false false (cP (q3 p)),.live true false (cP (q4 p))]⟩
def bE5 (l:Nat)(p:Zt×Zt×Zt)(d:Int)(b:Bool):LS:=⟨[.u,iv d,.u,.p 1 0,.u,.u,.u,.u,.u,.u,.u,.u,.u,.u,.p 6 0,.u,.u,.u,.u,.u,.u,.u,.u,.u,.u,.u,.u,.u,.u,.u,.u,.u,.u,.u,.u,.u,.u,.u,.u,.u,.u,.u,.u,.u,.u,.u,.u,.u,.u,.u,.u,.u,.u,.u,.u,.u,.u,.u,.u,.u,.s 2 0 4 9,iv 4,iv 3,.u,.u,.u,.f 124 [.p 0 0,.p 1 0],.a (cP (q4 p)),iv d,iv (W (d - 1)),.v (.bool b),.v (.bool (!b)),.u],[.live false false [.v (yv l)],.live false false [.f 124 [.p 0 0,.p 1 0]],.live false false (cP (q1 p)++(cP (q2 p)++(cP (q3 p)++cP (q4 p)))),.live false false (cP (q1 p)),.live false false (cP (q2 p)),.live false false (cP (q3 p)),.live false false (cP (q4 p))]⟩
def vb:SV->Bool
 | .v _ | .b _=>true
 | _=>false
theorem aBu {ρ ρ':Env}:∀{l:List SV} {vs us:List Value},l.all vb=true->Rels ρ l vs->Rels ρ' l us->vs=us
 | [],[],[],_,_,_=>rfl
 | [],_::_,_,_,h,_=>by simp [Rels] at h
 | [],[],_::_,_,_,h=>by simp [Rels] at h
 | _::_,[],_,_,h,_=>by simp [Rels] at h
 | _::_,_::_,[],_,_,h=>by simp [Rels] at h
 | x::l,y::vs,z::us,hp,h1,h2=>by
   simp only [List.all_cons,Bool.and_eq_true] at hp
   simp only [Rels] at h1 h2
   rw [aBu hp.2 h1.2 h2.2]
   have:y=z:=by
     cases x<;>simp only [vb,Bool.false_eq_true,false_and] at hp
     · have a1:=h1.1;have a2:=h2.1;simp only [Rel] at a1 a2;rw [a1,a2]
     · have a1:=h1.1;have a2:=h2.1;simp only [Rel] at a1 a2;rw [a1,a2]
   rw [this]
theorem rH {ρ:Env} {x:SV} {l:List SV} {y:Value} {m:List Value} (h:Rel ρ x y)(h':Rels ρ l m):Rels ρ (x::l) (y::m):=by simp only [Rels];exact⟨h,h'⟩
theorem aFq {α:Type} {xs A B:List α} {i:Nat} (h:∀j x,(A++B)[j]? = some x->xs[i+j]? = some x):(∀j x,A[j]? = some x->xs[i+j]? = some x)/\(∀j x,B[j]? = some x->xs[i+A.length+j]? = some x) :=
 ⟨fun j x hj=>h j x (by rw [List.getElem?_append_left (List.getElem?_eq_some_iff.1 hj).1];exact hj),fun j x hj=>by
   have:=h (A.length+j) x (by rw [List.getElem?_append_right (by omega),Nat.add_sub_cancel_left];exact hj)
   rwa [←Nat.add_assoc] at this⟩
section
variable {l : Nat} {J : Nat → (Nat → Prop) → World → Prop} {Jx : (Nat → Prop) → World → Prop} {xs : List (Zt × Zt × Zt)}
theorem lJ (hJ:xE J)(hX:aFl Jx) {m m':Nat} {W0:World} {S:Nat->Prop} {cx:Cx} {b:Bool} (h1:b=true->∃Sc,Seg J W0 S m' cx Sc)(h2:b=false->SegX Jx W0 S cx)(hm:m'=m)(Wd:World)(hb:Below cx.w.heap.size cx.w Wd)(hd:cx.w.drawn<=Wd.drawn) :
   VR J Jx m S W0 (.returned (.bool b)) Wd:=by
 subst hm
 cases b with
 | true =>
   obtain⟨Sc,h⟩:=h1 rfl
   exact .inl ⟨rfl,Sc,hJ _ _ _ _ h.j hb hd,h.kept.grow hb hd,h.sub⟩
 | false =>
   have h:=h2 rfl
   obtain⟨Sc,hj⟩:=h.j
   exact .inr ⟨rfl,Sc,hX _ _ _ hj hb hd,h.kept.grow hb hd⟩
theorem aXx (hJ:xE J)(hX:aFl Jx)(hB:qE J)(hY:∀i x S W1,xs[i]? = some x->J i S W1->YieldAt (Fw none) 9 Tryz.prog l #[aDw x] W1 (YR J Jx i S W1)):vF l J Jx xs 0:=by
 intro p i S Wd ρ vs hargs hb0 hb1 hS hj hxs
 have hx:xs[i]? = some p:=by have:=hxs 0 p rfl;simpa using this
 refine nC (n:=9) (bs:=[.live false false [.v (yv l)],.live false false [.f 124 [.p 0 0,.p 1 0]]]) Tryz.func124 rfl (by show 4<=Tryz.f124.ntmps;decide) (by kernel_rfl) ⟨rfl,rfl,trivial⟩ (by kernel_rfl) (fun i=>by rcases i with _ | _ | i<;>simp [BK.own]) (by kernel_rfl) hargs (fun i=>by rcases i with _ | _ | i<;>first | exact hb0 | exact hb1 | simp [BRep]) (fun i=>by rcases i with _ | _ | i<;>simp [BK.pl]) (fun cx hbase hw hρ hfz hown=>?_)
 subst hw
 have hd:((((0:Nat):Int):Int) == 0)=true:=rfl
 refine uZ (T:=T0) hT hm (f:=5000) (orc:=[.d true,.stop 2]) [] [2,4] [2] hbase (x:=.region 2 OY false) (k':=KY) (s':=zY l p)
   (obs:=[.eq ((((0:Nat):Int):Int) == 0) true]) (by kernel_rfl) ⟨hd,trivial⟩ ?_
 have hseg:Seg J cx.w S i cx S:=⟨hj,Kept.refl _ _,fun b h=>.inl h,fun k b o n hk h=>hS k (by rw [hbase] at hk;exact hk) b o n ((hρ k).symm.trans h),hown,fun b o ho=>by rw [hfz b] at ho;cases ho⟩
 refine qF (Jx:=Jx) hT hJ hB (m:=i+1) hseg (OY.toList.take 2) oY (OY.toList.drop 3) aP9 (s1:=zY1 l p) (by kernel_rfl) (by kernel_rfl) 19 (by kernel_rfl) (bO (by kernel_rfl)) 2 hbase (by kernel_rfl) (by kernel_rfl)
   (fun ρ a W2 hrep hsafe hj2 K Q' hK=>?_) (zY3 l p) (fun b=>by kernel_rfl) (fun b cx' hb' h1 h2=>?_)
 · have e1:=hrep.sl 17
   have e2:=hrep.sl 18
   refine aP2 bA0 (l:=l) (vs:=#[aDw p]) ?_ ?_ (hY i p S W2 hx hj2) hK
   · exact e1
   · have:a.eval (.tmp 18)=aDw p:=by
       have e3:Rel ρ (.a (cP p)) (a.tmps.getD 18 undef):=e2
       simp only [Rel] at e3
       obtain⟨vs,hv,hr⟩:=e3
       have h':=aBt ρ p
       simp only [Rel] at h'
       obtain⟨us,hu,hr'⟩:=h'
       show a.tmps.getD 18 undef=aDw p
       rw [hv,hu]
       have:vs=us:=aBu (by simp [cP,vb,iv]) hr hr'
       rw [this]
     simp [this]
 · have hown':∀c,¬cx'.own c:=by
     cases b with
     | true=>obtain⟨Sc,h⟩:=h1 rfl;exact h.own
     | false=>exact(h2 rfl).own
   exact rG (T:=T0) hT hm (f:=5000) (orc:=[]) (b:=b) (obs:=[]) (by cases b<;>kernel_rfl) trivial hown' (fun Wd hW hWd=>lJ hJ hX h1 h2 rfl Wd hW hWd)
theorem aM1 {d:Nat} (ih:vF l J Jx xs d) {cx:Cx} {N:Nat} {D:List Deferred} {ρ:Env} {s:FS} {a:Act} {Wd:World} (hrep:Rep cx N D ρ s a Wd) {p:Zt×Zt×Zt} {i:Nat} {S:Nat->Prop}
   (hdl:d < 1000) (e1:s.sl 66=.f 124 [.p 0 0,.p 1 0]) (e2:s.sl 67=.a (cP p)) (e3:s.sl 69=iv (W (((d+1:Nat):Int) - 1))) (e4:s.bk 0=.live false false [.v (yv l)]) (e5:s.bk 1=.live false false [.f 124 [.p 0 0,.p 1 0]])
   (hS:∀k,k < 2->∀b o n,ρ k=some (b,o,n)->¬S b) (hj:J i S Wd) (hxs:∀j x,(aR d p)[j]? = some x->xs[i+j]? = some x)
   (K:Act->World->Prop) (Q:Exit->Act->World->Prop) (hK:∀e Wd',VR J Jx (i+(aR d p).length) S Wd e Wd'->∃v,e=.returned v/\K (a.put oV.dst v) Wd'):oV.wpIn (Fw none) 9 Tryz.prog a Wd K Q:=by
 have r1:=hrep.sl 66
 have r2:=hrep.sl 67
 have r3:=hrep.sl 69
 rw [e1] at r1;rw [e2] at r2;rw [e3] at r3
 have hw:W (((d+1:Nat):Int) - 1)=(d:Int):=by rw [aE]<;>omega
 rw [hw] at r3
 simp only [Rel] at r1
 obtain⟨vs,hv,hc⟩:=r1
 have b0:=hrep.bk 0
 have b1:=hrep.bk 1
 rw [e4] at b0;rw [e5] at b1
 refine aMw bA1 (g:=124) (caps:=vs) hv aQa (ih p i S Wd ρ _ ?_ b0.ro b1.ro hS hj hxs) hK
 exact rH r2 (rH r3 hc)
theorem aXy (hJ:xE J)(hX:aFl Jx)(hB:qE J) {d:Nat} (hdl:d < 1000)(ih:vF l J Jx xs d):vF l J Jx xs (d+1):=by
 intro p i S Wd ρ vs hargs hb0 hb1 hS hj hxs
 obtain⟨hx1,hr1⟩:=aFq hxs
 obtain⟨hx2,hr2⟩:=aFq hr1
 obtain⟨hx3,hx4⟩:=aFq hr2
 refine nC (n:=9) (bs:=[.live false false [.v (yv l)],.live false false [.f 124 [.p 0 0,.p 1 0]]]) Tryz.func124 rfl (by show 4<=Tryz.f124.ntmps;decide) (by kernel_rfl) ⟨rfl,rfl,trivial⟩ (by kernel_rfl) (fun i=>by rcases i with _ | _ | i<;>simp [BK.own]) (by kernel_rfl) hargs (fun i=>by rcases i with _ | _ | i<;>first | exact hb0 | exact hb1 | simp [BRep]) (fun i=>by rcases i with _ | _ | i<;>simp [BK.pl]) (fun cx hbase hw hρ hfz hown=>?_)
 subst hw
 have hd:((((d+1:Nat):Int):Int) == 0)=false:=by rw [beq_eq_false_iff_ne];omega
 have hseg:Seg J cx.w S i cx S:=⟨hj,Kept.refl _ _,fun b h=>.inl h,fun k b o n hk h=>hS k (by rw [hbase] at hk;exact hk) b o n ((hρ k).symm.trans h),hown,fun b o ho=>by rw [hfz b] at ho;cases ho⟩
 refine uZ (T:=T0) hT hm (f:=5000) (orc:=[.d false,.call [] (.a [(iv (sE p.1 2).1),(iv (sE p.1 2).2.1),(iv (sE p.1 2).2.2)]) [],.call [] (.a [(iv (sE p.2.1 2).1),(iv (sE p.2.1 2).2.1),(iv (sE p.2.1 2).2.2)]) [],.call [] (.a [(iv (sE p.2.2 2).1),(iv (sE p.2.2 2).2.1),(iv (sE p.2.2 2).2.2)]) [],.call [] (.a [(iv (gS p.1 p.2.1).1),(iv (gS p.1 p.2.1).2.1),(iv (gS p.1 p.2.1).2.2)]) [],.call [] (.a [(iv (gS p.2.1 p.2.2).1),(iv (gS p.2.1 p.2.2).2.1),(iv (gS p.2.1 p.2.2).2.2)]) [],.call [] (.a [(iv (gS p.2.2 p.1).1),(iv (gS p.2.2 p.1).2.1),(iv (gS p.2.2 p.1).2.2)]) [],.un 4,.d true,.stop 8]) [] [1,3,14,60,61,62] [9,10] hbase (x:=.region 8 OV false) (k':=KV 4) (s':=zV1 l p (d+1:Nat))
   (obs:=[.eq ((((d+1:Nat):Int):Int) == 0) false,.call 93 [(.a [(iv p.1.1),(iv p.1.2.1),(iv p.1.2.2)]),(iv 2)] [] (.a [(iv (sE p.1 2).1),(iv (sE p.1 2).2.1),(iv (sE p.1 2).2.2)]) [],.call 93 [(.a [(iv p.2.1.1),(iv p.2.1.2.1),(iv p.2.1.2.2)]),(iv 2)] [] (.a [(iv (sE p.2.1 2).1),(iv (sE p.2.1 2).2.1),(iv (sE p.2.1 2).2.2)]) [],.call 93 [(.a [(iv p.2.2.1),(iv p.2.2.2.1),(iv p.2.2.2.2)]),(iv 2)] [] (.a [(iv (sE p.2.2 2).1),(iv (sE p.2.2 2).2.1),(iv (sE p.2.2 2).2.2)]) [],.call 125 [(.a [(iv p.1.1),(iv p.1.2.1),(iv p.1.2.2)]),(.a [(iv p.2.1.1),(iv p.2.1.2.1),(iv p.2.1.2.2)])] [] (.a [(iv (gS p.1 p.2.1).1),(iv (gS p.1 p.2.1).2.1),(iv (gS p.1 p.2.1).2.2)]) [],.call 125 [(.a [(iv p.2.1.1),(iv p.2.1.2.1),(iv p.2.1.2.2)]),(.a [(iv p.2.2.1),(iv p.2.2.2.1),(iv p.2.2.2.2)])] [] (.a [(iv (gS p.2.1 p.2.2).1),(iv (gS p.2.1 p.2.2).2.1),(iv (gS p.2.1 p.2.2).2.2)]) [],.call 125 [(.a [(iv p.2.2.1),(iv p.2.2.2.1),(iv p.2.2.2.2)]),(.a [(iv p.1.1),(iv p.1.2.1),(iv p.1.2.2)])] [] (.a [(iv (gS p.2.2 p.1).1),(iv (gS p.2.2 p.1).2.1),(iv (gS p.2.2 p.1).2.2)]) [],.eq true true,.pr (0<=(0:Int)/\(0:Int) < ((4:Nat):Int))]) (by kernel_rfl) ⟨hd,(C93 p.1 2),(C93 p.2.1 2),(C93 p.2.2 2),(aXv p.1 p.2.1),(aXv p.2.1 p.2.2),(aXv p.2.2 p.1),rfl,(show 0<=(0:Int)/\(0:Int) < ((4:Nat):Int) from by decide),trivial⟩ ?_
 refine qF (Jx:=Jx) hT hJ hB (m:=i+(aR d (q1 p)).length) hseg (OV.toList.take 4) oV (OV.toList.drop 5) vG (s1:=bEy l p (d+1:Nat)) (by kernel_rfl) (by kernel_rfl) 70 (by kernel_rfl) (bO (by kernel_rfl)) 2 hbase (by kernel_rfl) (by kernel_rfl)
   (fun ρ a W2 hrep hsafe hj2 K Q' hK=>aM1 ih hrep hdl rfl rfl rfl rfl rfl (fun k hk b o n h=>(match k,hk,h with | 0,_,h=>hsafe 0 _ _ _ rfl b o n h | 1,_,h=>hsafe 1 _ _ _ rfl b o n h)) hj2 (fun j x hj=>hx1 j x hj) K Q' hK) (bEz l p (d+1:Nat)) (fun b=>by kernel_rfl) (fun b cx hbase h1 h2=>?_)
 cases b with
 | false =>
   exact rG (T:=T0) hT hm (f:=5000) (orc:=[.d true]) (b:=false) (obs:=[.eq (!false) true]) (by kernel_rfl) ⟨rfl,trivial⟩ (h2 rfl).own (fun W hW hWd=>lJ (m':=i+(aR (d+1) p).length) hJ hX (fun h=>by cases h) h2 rfl W hW hWd)
 | true =>
   obtain⟨Sc,hseg⟩:=h1 rfl
   refine uZ (T:=T0) hT hm (f:=5000) (orc:=[.d false,.un 0,.d true,.stop 8]) [] [1,3,14,60,61,62] [4] hbase (x:=.region 8 OV false) (k':=KV 3) (s':=zV2 l p (d+1:Nat))
     (obs:=[.eq (!true) false,.eq (decide ((1:Int) < 4)) true,.pr (0<=(1:Int)/\(1:Int) < ((4:Nat):Int))]) (by kernel_rfl) ⟨rfl,rfl,(show 0<=(1:Int)/\(1:Int) < ((4:Nat):Int) from by decide),trivial⟩ ?_
   refine qF (Jx:=Jx) hT hJ hB (m:=i+(aR d (q1 p)).length+(aR d (q2 p)).length) hseg (OV.toList.take 4) oV (OV.toList.drop 5) vG (s1:=bE0 l p (d+1:Nat)) (by kernel_rfl) (by kernel_rfl) 70 (by kernel_rfl) (bO (by kernel_rfl)) 4 hbase (by kernel_rfl) (by kernel_rfl)
     (fun ρ a W2 hrep hsafe hj2 K Q' hK=>aM1 ih hrep hdl rfl rfl rfl rfl rfl (fun k hk b o n h=>(match k,hk,h with | 0,_,h=>hsafe 0 _ _ _ rfl b o n h | 1,_,h=>hsafe 1 _ _ _ rfl b o n h)) hj2 (fun j x hj=>hx2 j x hj) K Q' hK) (bE1 l p (d+1:Nat)) (fun b=>by kernel_rfl) (fun b cx hbase h1 h2=>?_)
   cases b with
   | false =>
     exact rG (T:=T0) hT hm (f:=5000) (orc:=[.d true]) (b:=false) (obs:=[.eq (!false) true]) (by kernel_rfl) ⟨rfl,trivial⟩ (h2 rfl).own (fun W hW hWd=>lJ (m':=i+(aR (d+1) p).length) hJ hX (fun h=>by cases h) h2 rfl W hW hWd)
   | true =>
     obtain⟨Sc,hseg⟩:=h1 rfl
     refine uZ (T:=T0) hT hm (f:=5000) (orc:=[.d false,.un 0,.d true,.stop 8]) [] [1,3,14,60,61,62] [5] hbase (x:=.region 8 OV false) (k':=KV 2) (s':=zV3 l p (d+1:Nat))
       (obs:=[.eq (!true) false,.eq (decide ((2:Int) < 4)) true,.pr (0<=(2:Int)/\(2:Int) < ((4:Nat):Int))]) (by kernel_rfl) ⟨rfl,rfl,(show 0<=(2:Int)/\(2:Int) < ((4:Nat):Int) from by decide),trivial⟩ ?_
     refine qF (Jx:=Jx) hT hJ hB (m:=i+(aR d (q1 p)).length+(aR d (q2 p)).length+(aR d (q3 p)).length) hseg (OV.toList.take 4) oV (OV.toList.drop 5) vG (s1:=bE2 l p (d+1:Nat)) (by kernel_rfl) (by kernel_rfl) 70 (by kernel_rfl) (bO (by kernel_rfl)) 5 hbase (by kernel_rfl) (by kernel_rfl)
       (fun ρ a W2 hrep hsafe hj2 K Q' hK=>aM1 ih hrep hdl rfl rfl rfl rfl rfl (fun k hk b o n h=>(match k,hk,h with | 0,_,h=>hsafe 0 _ _ _ rfl b o n h | 1,_,h=>hsafe 1 _ _ _ rfl b o n h)) hj2 (fun j x hj=>hx3 j x hj) K Q' hK) (bE3 l p (d+1:Nat)) (fun b=>by kernel_rfl) (fun b cx hbase h1 h2=>?_)
     cases b with
     | false =>
       exact rG (T:=T0) hT hm (f:=5000) (orc:=[.d true]) (b:=false) (obs:=[.eq (!false) true]) (by kernel_rfl) ⟨rfl,trivial⟩ (h2 rfl).own (fun W hW hWd=>lJ (m':=i+(aR (d+1) p).length) hJ hX (fun h=>by cases h) h2 rfl W hW hWd)
     | true =>
       obtain⟨Sc,hseg⟩:=h1 rfl
       refine uZ (T:=T0) hT hm (f:=5000) (orc:=[.d false,.un 0,.d true,.stop 8]) [] [1,3,14,60,61,62] [6] hbase (x:=.region 8 OV false) (k':=KV 1) (s':=zV4 l p (d+1:Nat))
         (obs:=[.eq (!true) false,.eq (decide ((3:Int) < 4)) true,.pr (0<=(3:Int)/\(3:Int) < ((4:Nat):Int))]) (by kernel_rfl) ⟨rfl,rfl,(show 0<=(3:Int)/\(3:Int) < ((4:Nat):Int) from by decide),trivial⟩ ?_
       refine qF (Jx:=Jx) hT hJ hB (m:=i+(aR d (q1 p)).length+(aR d (q2 p)).length+(aR d (q3 p)).length+(aR d (q4 p)).length) hseg (OV.toList.take 4) oV (OV.toList.drop 5) vG (s1:=bE4 l p (d+1:Nat)) (by kernel_rfl) (by kernel_rfl) 70 (by kernel_rfl) (bO (by kernel_rfl)) 6 hbase (by kernel_rfl) (by kernel_rfl)
         (fun ρ a W2 hrep hsafe hj2 K Q' hK=>aM1 ih hrep hdl rfl rfl rfl rfl rfl (fun k hk b o n h=>(match k,hk,h with | 0,_,h=>hsafe 0 _ _ _ rfl b o n h | 1,_,h=>hsafe 1 _ _ _ rfl b o n h)) hj2 (fun j x hj=>hx4 j x hj) K Q' hK) (bE5 l p (d+1:Nat)) (fun b=>by kernel_rfl) (fun b cx hbase h1 h2=>?_)
       cases b with
       | false =>
         exact rG (T:=T0) hT hm (f:=5000) (orc:=[.d true]) (b:=false) (obs:=[.eq (!false) true]) (by kernel_rfl) ⟨rfl,trivial⟩ (h2 rfl).own (fun W hW hWd=>lJ (m':=i+(aR (d+1) p).length) hJ hX (fun h=>by cases h) h2 rfl W hW hWd)
       | true =>
         exact rG (T:=T0) hT hm (f:=5000) (orc:=[.d false,.un 0,.d false]) (b:=true) (obs:=[.eq (!true) false,.eq (decide ((4:Int) < 4)) false]) (by kernel_rfl) ⟨rfl,rfl,trivial⟩ (h1 rfl).choose_spec.own (fun W hW hWd=>lJ hJ hX h1 h2 (by simp only [aR,List.length_append];omega) W hW hWd)
theorem aEp (hJ:xE J)(hX:aFl Jx)(hB:qE J)(hY:∀i x S W1,xs[i]? = some x->J i S W1->YieldAt (Fw none) 9 Tryz.prog l #[aDw x] W1 (YR J Jx i S W1)):∀d,d < 1000->vF l J Jx xs d
 | 0,_=>aXx hJ hX hB hY
 | d+1,h=>aXy hJ hX hB (by omega) (aEp hJ hX hB hY d (by omega))
end
noncomputable def O2:Array Oper:=match (fE [1,1,1] [] (Tryz.f123.body.getD .skip)).1 with
 | .region _ ops _=>ops
 | _=>#[]
noncomputable def o2:Oper:=O2.toList.getD 3 default
theorem bA2:o2.op=.call { callee:=.value (.tmp 6),args:=#[.tmp 7,.tmp 8],argTypes:=aKi o2 }:=by kernel_rfl
theorem aQb:O2.toList=O2.toList.take 3++[o2]:=by kernel_rfl
def z2 (l:Nat)(p:Zt×Zt×Zt)(d:Int):LS:=⟨[.u,.p 0 0,.p 1 0,.u,.p 3 0,.u,.u,.u,.u,.u],[.live false false (cP p),.live false false [iv d],.live true false [.v (yv l)],.live true false [.f 124 [.p 2 0,.p 3 0]]]⟩
def z21 (l:Nat)(p:Zt×Zt×Zt)(d:Int):LS:=⟨[.u,.p 0 0,.p 1 0,.u,.p 3 0,.u,.f 124 [.p 2 0,.p 3 0],.a (cP p),iv d,.u],[.live false false (cP p),.live false false [iv d],.live true false [.v (yv l)],.live true false [.f 124 [.p 2 0,.p 3 0]]]⟩
theorem aQc (p:Zt×Zt×Zt)(d:Nat)(hd:d < 1000):aUq Tryz.prog 123 [.p 0 0,.p 1 0] [.live false false (cP p),.live false false [iv (d:Nat)]] aDw (aR d p):=by
 refine⟨aXw,fun ρ Wd lb hcaps hbs hpl l J Jx S0 hJ hX hB hY h0=>?_⟩
 have hcon:Calls Tryz.prog 123 ((Value.func (.yield l) #[] #[])::lb).toArray Wd fun e Wd'=>(∃v,e=.returned v)/\∃S',(J (aR d p).length S' Wd'\/Jx S' Wd')/\Kept Wd S0 Wd':=by
   refine nC (n:=9) (args:=[.v (yv l),.p 0 0,.p 1 0]) (bs:=[.live false false (cP p),.live false false [iv (d:Nat)]]) Tryz.func123 rfl (by show 3<=Tryz.f123.ntmps;decide) (by kernel_rfl) ⟨rfl,rfl,trivial⟩ (by kernel_rfl) (fun i=>by rcases i with _ | _ | i<;>simp [BK.own]) (by kernel_rfl) ⟨rfl,hcaps⟩ hbs hpl (fun cx hbase hw hρ hfz hown=>?_)
   subst hw
   refine uZ (T:=T0) hT hm (f:=5000) (orc:=[.stop 3]) [] [1,2,4] [2,3] hbase (x:=.region 3 O2 false) (k':=[]) (s':=z2 l p d)
     (obs:=[]) (by kernel_rfl) trivial ?_
   intro ρ a Wd hrep
   simp only [eG]
   refine wpIn_region ?_
   have hsz:O2.size=(O2.toList.take 3).length+(0+1):=by kernel_rfl
   have hget:∀j,O2[j]? = (O2.toList.take 3++[o2])[j]? := fun j=>by rw [←aQb,Array.getElem?_toList]
   rw [hsz,zB]
   refine aAe hT (O2.toList.take 3) 0 (z2 l p d) (z21 l p d) [] [] _ [] (vC (T:=T0) (obs:=[]) (by kernel_rfl)).choose_spec trivial (fun j o' hj=>?_) ρ a Wd hrep (fun ρ1 a1 W1 hrep1 hl1=>?_)
   · rw [hget,Nat.zero_add,List.getElem?_append_left (List.getElem?_eq_some_iff.1 hj).1];exact hj
   rw [wpOpsIn_cons]
   unfold wpOpIn
   have ho:O2[(O2.toList.take 3).length]? = some o2:=by rw [hget,List.getElem?_append_right (Nat.le_refl _)];simp
   rw [ho]
   have hw:Region.wanted o2 (yielded O2 a1.tmps)=true:=by
     have hg:o2.guard=none:=by kernel_rfl
     unfold Region.wanted;rw [hg]
   simp only [hw,if_true]
   have hbel:Below cx.w.heap.size cx.w W1:=by
     have:=hrep1.kept
     exact⟨this.os,this.tape,this.output,this.size,fun k hk=>this.block k hk (hown k)⟩
   have r1:=hrep1.sl 6
   have r2:=hrep1.sl 7
   have r3:=hrep1.sl 8
   have r1':Rel ρ1 (.f 124 [.p 2 0,.p 3 0]) (a1.tmps.getD 6 undef):=r1
   have r2':Rel ρ1 (.a (cP p)) (a1.tmps.getD 7 undef):=r2
   have r3':Rel ρ1 (iv (d:Nat)) (a1.tmps.getD 8 undef):=r3
   simp only [Rel] at r1'
   obtain⟨vs,hv,hc⟩:=r1'
   have own2:∀b,cx.mine b->cx.w.heap.size<=b:=fun b hb=>hb.elim id (fun h=>(hown b h).elim)
   have b2:=(uT (ks:=[2,3]) (i:=0) (m:=false) (x:=.live true false [.v (yv l)]) (y:=.live false false [.v (yv l)]) (M':=fun b=>W1.heap.size<=b) rfl rfl trivial (hrep1.bk 2) (fun _ h=>by cases h) (fun _ b hlt _ hM=>absurd hM (Nat.not_le_of_lt hlt))).1
   have b3:=(uT (ks:=[2,3]) (i:=1) (m:=false) (x:=.live true false [.f 124 [.p 2 0,.p 3 0]]) (y:=.live false false [.f 124 [.p 0 0,.p 1 0]]) (M':=fun b=>W1.heap.size<=b) rfl rfl trivial (hrep1.bk 3) (fun _ h=>by cases h) (fun _ b hlt _ hM=>absurd hM (Nat.not_le_of_lt hlt))).1
   have hS2:∀k,k < 2->∀b o n,fR ρ1 [2,3] k=some (b,o,n)->¬S0 b:=fun k hk b o n h hSb=>by
     have hlt:=hB _ _ _ h0 b hSb
     have own:∀j,(z21 l p d).fs.bk j≠.un->((z21 l p d).fs.bk j).own->ρ1 j=some (b,o,n)->False:=fun j _ hj hρ=>by
       have hb:=hrep1.bk j
       cases hx:(z21 l p d).fs.bk j with
       | un=>rw [hx] at hj;exact hj
       | dead=>rw [hx] at hj;exact hj
       | map es =>
         rw [hx] at hb
         obtain⟨b',n',arr,q1,q2,_⟩:=hb
         rw [hρ] at q1;cases q1
         have:=own2 b q2;omega
       | live ow sy cs=>cases ow with
         | false=>rw [hx] at hj;exact hj
         | true =>
           rw [hx] at hb
           rcases hb with⟨q,_⟩ | ⟨b',vs,rest,ty,q1,q2,_⟩
           · rw [hρ] at q;cases q
           · rw [hρ] at q1;cases q1
             have:=own2 b q2;omega
     match k,hk with
     | 0,_=>exact own 2 (by simp [z21,LS.fs]) (by trivial) h
     | 1,_=>exact own 3 (by simp [z21,LS.fs]) (by trivial) h
   refine aMw bA2 (g:=124) (caps:=vs) hv aQa ((aEp (l:=l) hJ hX hB hY d hd) p 0 S0 W1 (fR ρ1 [2,3]) (a1.tmps.getD 7 undef::a1.tmps.getD 8 undef::vs) ?_ b2 b3 hS2 (hJ _ _ _ _ h0 hbel hrep1.kept.drawn) (fun j x hj=>by rw [Nat.zero_add];exact hj)) (fun e Wd' hR=>?_)
   · exact rH (uS (ks:=[2,3]) (.a (cP p)) (.a (cP p)) _ rfl r2') (rH (uS (ks:=[2,3]) (iv (d:Nat)) (iv (d:Nat)) _ rfl r3') (renL_rel (ks:=[2,3]) [.p 2 0,.p 3 0] [.p 0 0,.p 1 0] vs rfl hc))
   · have fin:∀v:Bool,e=.returned (.bool v)->(∃S',(J (aR d p).length S' Wd'\/Jx S' Wd')/\Kept W1 S0 Wd')->∃v,e=.returned v/\wpOpsIn (Fw none) 9 Tryz.prog O2 (eG none 9 Tryz.prog (bodyPost Tryz.prog Tryz.f123 (fun e Wd'=>(∃v,e=.returned v)/\∃S',(J (aR d p).length S' Wd'\/Jx S' Wd')/\Kept cx.w S0 Wd')) []) (List.range' ((O2.toList.take 3).length+1) 0) (a1.put o2.dst v) Wd':=fun v he ⟨S',hj',hk'⟩=>by
       refine⟨_,he,?_⟩
       simp only [List.range'_zero,wpOpsIn,eG]
       refine⟨?_,_,aIs (by kernel_rfl),⟨_,rfl⟩,S',hj',?_⟩
       · exact hrep1.defs
       · exact(Kept.of_below S0 hbel hrep1.kept.drawn).trans hk' (fun b hb _=>hb)
     rcases hR with⟨he,S',hj',hk',_⟩ | ⟨he,S',hj',hk'⟩
     · exact fin true he ⟨S',.inl (by rwa [Nat.zero_add] at hj'),hk'⟩
     · exact fin false he ⟨S',.inr hj',hk'⟩
 have e:((Value.func (.yield l) #[] #[])::lb).toArray=#[.func (.yield l) #[] #[]]++lb.toArray:=by apply Array.ext';simp
 rw [←e];exact hcon
theorem aEq (p:Zt×Zt×Zt)(d:Int)(h:0<=d/\d<=3):aUq Tryz.prog 123 [.p 0 0,.p 1 0] [.live false false (cP p),.live false false [iv d]] aDw (aR (toNat d) p):=by
 have:=aQc p d.toNat (by omega)
 rwa [Int.toNat_of_nonneg h.1] at this
theorem aXz {p:Zt×Zt×Zt} {d:Int} (h:0<=d/\d<=3) {i:Nat} {x:Zt×Zt×Zt} (hx:(aR (toNat d) p)[i]? = some x):i < 64:=by
 have hl:=(List.getElem?_eq_some_iff.1 hx).1
 rw [zC] at hl
 have:toNat d<=3:=by omega
 have:4 ^ toNat d<=4 ^ 3:=Nat.pow_le_pow_right (by omega) this
 omega
end Go.Proofs.YtaeagjnpobdglaaGreat
namespace Go.Proofs.YtaeagjnpobdglaaGreat
open Go.Proofs Go.Aw Go.RowKit
set_option maxRecDepth 100000
def qI (a0:Int)(a1:Int)(a2:Int):Bool :=
 (bif (decide ((a1:Int)<=a0)) then
  (decide ((a0:Int)<=a2))
 else
  false)
theorem C43 (a0:Int)(a1:Int)(a2:Int):Con Tryz.prog 43 [(iv a0),(iv a1),(iv a2)] [] (.v (.bool (qI a0 a1 a2))) []:=by
 refine aJ Tryz.func43 (by kernel_rfl) fun cx hcx=>?_
 cases h0:(decide ((a1:Int)<=a0)) with
 | true =>
  have q0:=bO h0
  have e:=Eq.refl (qI a0 a1 a2);conv at e=>rhs;simp only [qI,h0,aI]
  rw [e]
  exact rt [.d h0] [] [] hcx (by kernel_rfl)
 | false =>
  have q0:=cA h0
  have e:=Eq.refl (qI a0 a1 a2);conv at e=>rhs;simp only [qI,h0,aI]
  rw [e]
  exact rt [.d h0] [] [] hcx (by kernel_rfl)
def F36 (a0:Zt)(a1:Int):Bool :=
 (bif (qI a0.1 (W (0 - a1)) a1) then
  (bif (qI a0.2.1 (W (0 - a1)) a1) then
   (qI a0.2.2 (W (0 - a1)) a1)
  else
   false)
 else
  false)
theorem C36 (a0:Zt)(a1:Int):Con Tryz.prog 36 [(.a (k3 a0)),(iv a1)] [] (.v (.bool (F36 a0 a1))) []:=by
 refine aJ Tryz.func36 (by kernel_rfl) fun cx hcx=>?_
 let t0:List (St Tryz.prog):=[.c [] (C43 a0.1 (W (0 - a1)) a1)]
 cases h0:(qI a0.1 (W (0 - a1)) a1) with
 | true =>
  let t1:List (St Tryz.prog):=(t0++[.d h0,.c [] (C43 a0.2.1 (W (0 - a1)) a1)])
  cases h1:(qI a0.2.1 (W (0 - a1)) a1) with
  | true =>
   have e:=Eq.refl (F36 a0 a1);conv at e=>rhs;simp only [F36,h0,h1,aI]
   rw [e]
   exact rt (t1++[.d h1,.c [] (C43 a0.2.2 (W (0 - a1)) a1)]) [] [] hcx (by kernel_rfl)
  | false =>
   have e:=Eq.refl (F36 a0 a1);conv at e=>rhs;simp only [F36,h0,h1,aI]
   rw [e]
   exact rt (t1++[.d h1]) [] [] hcx (by kernel_rfl)
 | false =>
  have e:=Eq.refl (F36 a0 a1);conv at e=>rhs;simp only [F36,h0,aI]
  rw [e]
  exact rt (t0++[.d h0]) [] [] hcx (by kernel_rfl)
def F39 (a0:Zt)(a1:Int)(a2:Zt):Zt :=
 ((W (a0.1+(W (a1*a2.1)))),(W (a0.2.1+(W (a1*a2.2.1)))),(W (a0.2.2+(W (a1*a2.2.2)))))
theorem C39 (a0:Zt)(a1:Int)(a2:Zt):Con Tryz.prog 39 [(.a (k3 a0)),(iv a1),(.a (k3 a2))] [] (.a (k3 (F39 a0 a1 a2))) []:=by
 refine aJ Tryz.func39 (by kernel_rfl) fun cx hcx=>?_
 have e:=Eq.refl (F39 a0 a1 a2);conv at e=>rhs;simp only [F39]
 rw [e]
 exact rt [] [] [] hcx (by kernel_rfl)
def aBv (a0:Zt)(a1:Zt):Zt :=
 (F39 a0 (-1) a1)
theorem bA3 (a0:Zt)(a1:Zt):Con Tryz.prog 131 [(.a (k3 a0)),(.a (k3 a1))] [] (.a (k3 (aBv a0 a1))) []:=by
 refine aJ Tryz.func131 (by kernel_rfl) fun cx hcx=>?_
 have e:=Eq.refl (aBv a0 a1);conv at e=>rhs;simp only [aBv]
 rw [e]
 exact rt [.c [] (C39 a0 (-1) a1)] [] [] hcx (by kernel_rfl)
def aKj (a0:Zt)(a1:Zt):Zt :=
 ((W ((W (a0.2.1*a1.2.2)) - (W (a0.2.2*a1.2.1)))),(W ((W (a0.2.2*a1.1)) - (W (a0.1*a1.2.2)))),(W ((W (a0.1*a1.2.1)) - (W (a0.2.1*a1.1)))))
theorem bA4 (a0:Zt)(a1:Zt):Con Tryz.prog 130 [(.a (k3 a0)),(.a (k3 a1))] [] (.a (k3 (aKj a0 a1))) []:=by
 refine aJ Tryz.func130 (by kernel_rfl) fun cx hcx=>?_
 have e:=Eq.refl (aKj a0 a1);conv at e=>rhs;simp only [aKj]
 rw [e]
 exact rt [] [] [] hcx (by kernel_rfl)
def nV (a0:Zt×Zt×Zt):Zt :=
 (aKj (aBv a0.2.1 a0.1) (aBv a0.2.2 a0.1))
theorem bA5 (a0:Zt×Zt×Zt):Con Tryz.prog 100 [(.a (k9 a0))] [] (.a (k3 (nV a0))) []:=by
 refine aJ Tryz.func100 (by kernel_rfl) fun cx hcx=>?_
 have e:=Eq.refl (nV a0);conv at e=>rhs;simp only [nV]
 rw [e]
 exact rt [.c [] (bA3 a0.2.1 a0.1),.c [] (bA3 a0.2.2 a0.1),.c [] (bA4 (aBv a0.2.1 a0.1) (aBv a0.2.2 a0.1))] [] [] hcx (by kernel_rfl)
def lX (a0:Zt×Zt×Zt):Int :=
 (bif (!(F36 a0.1 64)) then
  1
 else
  (bif (!(F36 a0.2.1 64)) then
   1
  else
   (bif (!(F36 a0.2.2 64)) then
    1
   else
    (bif ((((nV a0).1:Int) == 0)&&((((nV a0).2.1:Int) == 0)&&((((nV a0).2.2:Int) == 0)&&true))) then
     6
    else
     0))))
theorem bA6 (a0:Zt×Zt×Zt):Con Tryz.prog 115 [(.a (k9 a0))] [] (iv (lX a0)) []:=by
 refine aJ Tryz.func115 (by kernel_rfl) fun cx hcx=>?_
 let t0:List (St Tryz.prog):=[.c [] (C36 a0.1 64)]
 cases h0:(!(F36 a0.1 64)) with
 | true =>
  have e:=Eq.refl (lX a0);conv at e=>rhs;simp only [lX,h0,aI]
  rw [e]
  exact rt (t0++[.d h0]) [] [] hcx (by kernel_rfl)
 | false =>
  let t1:List (St Tryz.prog):=(t0++[.d h0,.c [] (C36 a0.2.1 64)])
  cases h1:(!(F36 a0.2.1 64)) with
  | true =>
   have e:=Eq.refl (lX a0);conv at e=>rhs;simp only [lX,h0,h1,aI]
   rw [e]
   exact rt (t1++[.d h1]) [] [] hcx (by kernel_rfl)
  | false =>
   let t2:List (St Tryz.prog):=(t1++[.d h1,.c [] (C36 a0.2.2 64)])
   cases h2:(!(F36 a0.2.2 64)) with
   | true =>
    have e:=Eq.refl (lX a0);conv at e=>rhs;simp only [lX,h0,h1,h2,aI]
    rw [e]
    exact rt (t2++[.d h2]) [] [] hcx (by kernel_rfl)
   | false =>
    let t3:List (St Tryz.prog):=(t2++[.d h2,.c [] (bA5 a0)])
    cases h3:((((nV a0).1:Int) == 0)&&((((nV a0).2.1:Int) == 0)&&((((nV a0).2.2:Int) == 0)&&true))) with
    | true =>
     have e:=Eq.refl (lX a0);conv at e=>rhs;simp only [lX,h0,h1,h2,h3,aI]
     rw [e]
     exact rt (t3++[.d h3]) [] [] hcx (by kernel_rfl)
    | false =>
     have e:=Eq.refl (lX a0);conv at e=>rhs;simp only [lX,h0,h1,h2,h3,aI]
     rw [e]
     exact rt (t3++[.d h3]) [] [] hcx (by kernel_rfl)
def aFr (a0:Int)(a1:Int)(a2:Int):Bool :=
 (bif (decide ((a0:Int)≥a1)) then
  (decide ((a0:Int)<=a2))
 else
  false)
theorem bE6 (a0:Int)(a1:Int)(a2:Int):Con Tryz.prog 116 [(iv a0),(iv a1),(iv a2)] [] (.v (.bool (aFr a0 a1 a2))) []:=by
 refine aJ Tryz.func116 (by kernel_rfl) fun cx hcx=>?_
 cases h0:(decide ((a0:Int)≥a1)) with
 | true =>
  have q0:=bO h0
  have e:=Eq.refl (aFr a0 a1 a2);conv at e=>rhs;simp only [aFr,h0,aI]
  rw [e]
  exact rt [.d h0] [] [] hcx (by kernel_rfl)
 | false =>
  have q0:=cA h0
  have e:=Eq.refl (aFr a0 a1 a2);conv at e=>rhs;simp only [aFr,h0,aI]
  rw [e]
  exact rt [.d h0] [] [] hcx (by kernel_rfl)
def xF (a0:Zt×Zt×Zt)(a1:Zt×Zt×Zt)(a2:Int):Int :=
 (bif (((lX a0):Int) != 0) then
  (lX a0)
 else
  (bif (((lX a1):Int) != 0) then
   (lX a1)
  else
   (bif (!(aFr a2 0 2)) then
    1
   else
    0)))
theorem C91 (a0:Zt×Zt×Zt)(a1:Zt×Zt×Zt)(a2:Int):Con Tryz.prog 91 [(.a (k9 a0)),(.a (k9 a1)),(iv a2)] [] (iv (xF a0 a1 a2)) []:=by
 refine aJ Tryz.func91 (by kernel_rfl) fun cx hcx=>?_
 let t0:List (St Tryz.prog):=[.c [] (bA6 a0)]
 cases h0:(((lX a0):Int) != 0) with
 | true =>
  have q0:=bne_iff_ne.1 h0
  have e:=Eq.refl (xF a0 a1 a2);conv at e=>rhs;simp only [xF,h0,aI]
  rw [e]
  exact rt (t0++[.d h0]) [] [] hcx (by kernel_rfl)
 | false =>
  have q0:=bne_eq_false_iff_eq.1 h0
  let t1:List (St Tryz.prog):=(t0++[.d h0,.c [] (bA6 a1)])
  cases h1:(((lX a1):Int) != 0) with
  | true =>
   have q1:=bne_iff_ne.1 h1
   have e:=Eq.refl (xF a0 a1 a2);conv at e=>rhs;simp only [xF,h0,h1,aI]
   rw [e]
   exact rt (t1++[.d h1]) [] [] hcx (by kernel_rfl)
  | false =>
   have q1:=bne_eq_false_iff_eq.1 h1
   let t2:List (St Tryz.prog):=(t1++[.d h1,.c [] (bE6 a2 0 2)])
   cases h2:(!(aFr a2 0 2)) with
   | true =>
    have e:=Eq.refl (xF a0 a1 a2);conv at e=>rhs;simp only [xF,h0,h1,h2,aI]
    rw [e]
    exact rt (t2++[.d h2]) [] [] hcx (by kernel_rfl)
   | false =>
    have e:=Eq.refl (xF a0 a1 a2);conv at e=>rhs;simp only [xF,h0,h1,h2,aI]
    rw [e]
    exact rt (t2++[.d h2]) [] [] hcx (by kernel_rfl)
noncomputable def aFs:Code:=(aD [1,1,0,1] [] (aG Tryz.f145) []).1
noncomputable def aFt:List K:=(aD [1,1,0,1] [] (aG Tryz.f145) []).2
def aAg (a0:Int)(v1 v2:Int):LS:=⟨iH 22 [(0,(iv a0)),(3,(iv v1)),(4,(iv v2))],[]⟩
def nD (a0:Int):Int×Int->(Int×Int)⊕(Int)
 | (v1,v2) =>
  (bif (decide ((v2:Int) > 0)) then
   (bif (decide (((W ((W (v1+v2))*(W (v1+v2)))):Int)<=a0)) then
    (.inl ((W (v1+v2)),(v2 / 2)))
   else
    (.inl (v1,(v2 / 2))))
  else
   (.inr v1))
theorem aX0 (a0:Int) {cx:Cx} (hcx:cx.base=0):∀(n:Nat)(v1 v2:Int),True->toNat v2 < n->Aw.Good Tryz.prog none 9 (bodyPost Tryz.prog Tryz.f145 (RR cx (iv (aB (nD a0) n (v1,v2))) [] [])) cx [] (.l aFs n::aFt) (aAg a0 v1 v2):=by
 intro n
 induction n with
 | zero=>intro v1 v2 hi hn;exact absurd hn (gP _)
 | succ n ih =>
   intro v1 v2 hi hn
   refine aH ?_
   cases h0:(decide ((v2:Int) > 0)) with
   | true =>
    have q0:=bO h0
    let t1:List (St Tryz.prog):=[.d h0]
    cases h1:(decide (((W ((W (v1+v2))*(W (v1+v2)))):Int)<=a0)) with
    | true =>
     have q1:=bO h1
     have e:=Eq.refl (nD a0 (v1,v2));conv at e=>rhs;simp only [nD,h0,h1,aI]
     rw [aA e]
     refine ba (t1++[.d h1,.p (show 0<=(1:Int) from by decide)]) [] [0,3,4] [] hcx (m:=n) aFs (aFt) (aAg a0 (W (v1+v2)) (Int.fdiv v2 (2 ^ (min (toNat 1) 64)))) (by kernel_rfl) ?_
     have z0:(Int.fdiv v2 (2 ^ (min (toNat 1) 64)))=(v2 / 2):=aFn _ 1 (by decide)
     rw [z0]
     exact ih (W (v1+v2)) (v2 / 2) trivial (by(try simp only [Ls]);omega)
    | false =>
     have q1:=cA h1
     have e:=Eq.refl (nD a0 (v1,v2));conv at e=>rhs;simp only [nD,h0,h1,aI]
     rw [aA e]
     refine ba (t1++[.d h1,.p (show 0<=(1:Int) from by decide)]) [] [0,3,4] [] hcx (m:=n) aFs (aFt) (aAg a0 v1 (Int.fdiv v2 (2 ^ (min (toNat 1) 64)))) (by kernel_rfl) ?_
     have z0:(Int.fdiv v2 (2 ^ (min (toNat 1) 64)))=(v2 / 2):=aFn _ 1 (by decide)
     rw [z0]
     exact ih v1 (v2 / 2) trivial (by(try simp only [Ls]);omega)
   | false =>
    have q0:=cA h0
    have e:=Eq.refl (nD a0 (v1,v2));conv at e=>rhs;simp only [nD,h0,aI]
    rw [aC,e]
    exact rt [.d h0] [] [] hcx (by kernel_rfl)
def lA (a0:Int):Int :=
 (aB (nD a0) (toNat 1073741824+1) (0,1073741824))
theorem bA7 (a0:Int):Con Tryz.prog 145 [(iv a0)] [] (iv (lA a0)) []:=by
 refine aJ Tryz.func145 (by kernel_rfl) fun cx hcx=>?_
 have e:=Eq.refl (lA a0);conv at e=>rhs;simp only [lA]
 rw [e]
 refine en [] [] [0,3,4] [] hcx aFs (aFt) (aAg a0 0 1073741824) (toNat 1073741824+1) (by kernel_rfl) ?_
 exact aX0 a0 hcx (toNat 1073741824+1) 0 1073741824 trivial (by(try simp only [Ls]);omega)
def aBw (a0:(Int)×(Int)×(Int)):Int :=
 (W ((W ((W (0+a0.1))+a0.2.1))+a0.2.2))
theorem aX1 (a0:(Int)×(Int)×(Int)):Con Tryz.prog 159 [(.s 0 0 3 1)] [(.live false false (k3 a0))] (iv (aBw a0)) []:=by
 refine aJ Tryz.func159 (by kernel_rfl) fun cx hcx=>?_
 have e:=Eq.refl (aBw a0);conv at e=>rhs;simp only [aBw]
 rw [e]
 exact rt [.u 200,.T,.i 0 3 (by decide),.u 0,.T,.i 1 3 (by decide),.u 0,.T,.i 2 3 (by decide),.u 0,.F] [] [] hcx (by kernel_rfl)
def jO (a0:Zt)(a1:Zt):Int :=
 (aBw ((W (a0.1*a1.1)),(W (a0.2.1*a1.2.1)),(W (a0.2.2*a1.2.2))))
theorem aX2 (a0:Zt)(a1:Zt):Con Tryz.prog 146 [(.a (k3 a0)),(.a (k3 a1))] [] (iv (jO a0 a1)) []:=by
 refine aJ Tryz.func146 (by kernel_rfl) fun cx hcx=>?_
 have e:=Eq.refl (jO a0 a1);conv at e=>rhs;simp only [jO]
 rw [e]
 exact rt [.c [2] (aX1 ((W (a0.1*a1.1)),(W (a0.2.1*a1.2.1)),(W (a0.2.2*a1.2.2))))] [] [] hcx (by kernel_rfl)
def bJ (a0:Zt)(a1:Zt):Zt :=
 ((W (a0.1 - a1.1)),(W (a0.2.1 - a1.2.1)),(W (a0.2.2 - a1.2.2)))
theorem aX3 (a0:Zt)(a1:Zt):Con Tryz.prog 144 [(.a (k3 a0)),(.a (k3 a1))] [] (.a (k3 (bJ a0 a1))) []:=by
 refine aJ Tryz.func144 (by kernel_rfl) fun cx hcx=>?_
 have e:=Eq.refl (bJ a0 a1);conv at e=>rhs;simp only [bJ]
 rw [e]
 exact rt [] [] [] hcx (by kernel_rfl)
def gM (a0:Zt)(a1:Zt):Zt :=
 ((W ((W (a0.2.1*a1.2.2)) - (W (a0.2.2*a1.2.1)))),(W ((W (a0.2.2*a1.1)) - (W (a0.1*a1.2.2)))),(W ((W (a0.1*a1.2.1)) - (W (a0.2.1*a1.1)))))
theorem bE7 (a0:Zt)(a1:Zt):Con Tryz.prog 143 [(.a (k3 a0)),(.a (k3 a1))] [] (.a (k3 (gM a0 a1))) []:=by
 refine aJ Tryz.func143 (by kernel_rfl) fun cx hcx=>?_
 have e:=Eq.refl (gM a0 a1);conv at e=>rhs;simp only [gM]
 rw [e]
 exact rt [] [] [] hcx (by kernel_rfl)
def aP (a0:Zt×Zt×Zt):Zt×Zt :=
 (((if(a0.2.2.1:Int) < (if(a0.2.1.1:Int) < (if(a0.1.1:Int) < a0.1.1 then a0.1.1 else a0.1.1) then a0.2.1.1 else(if(a0.1.1:Int) < a0.1.1 then a0.1.1 else a0.1.1)) then a0.2.2.1 else(if(a0.2.1.1:Int) < (if(a0.1.1:Int) < a0.1.1 then a0.1.1 else a0.1.1) then a0.2.1.1 else(if(a0.1.1:Int) < a0.1.1 then a0.1.1 else a0.1.1))),(if(a0.2.2.2.1:Int) < (if(a0.2.1.2.1:Int) < (if(a0.1.2.1:Int) < a0.1.2.1 then a0.1.2.1 else a0.1.2.1) then a0.2.1.2.1 else(if(a0.1.2.1:Int) < a0.1.2.1 then a0.1.2.1 else a0.1.2.1)) then a0.2.2.2.1 else(if(a0.2.1.2.1:Int) < (if(a0.1.2.1:Int) < a0.1.2.1 then a0.1.2.1 else a0.1.2.1) then a0.2.1.2.1 else(if(a0.1.2.1:Int) < a0.1.2.1 then a0.1.2.1 else a0.1.2.1))),(if(a0.2.2.2.2:Int) < (if(a0.2.1.2.2:Int) < (if(a0.1.2.2:Int) < a0.1.2.2 then a0.1.2.2 else a0.1.2.2) then a0.2.1.2.2 else(if(a0.1.2.2:Int) < a0.1.2.2 then a0.1.2.2 else a0.1.2.2)) then a0.2.2.2.2 else(if(a0.2.1.2.2:Int) < (if(a0.1.2.2:Int) < a0.1.2.2 then a0.1.2.2 else a0.1.2.2) then a0.2.1.2.2 else(if(a0.1.2.2:Int) < a0.1.2.2 then a0.1.2.2 else a0.1.2.2)))),((if((if((if(a0.1.1:Int) < a0.1.1 then a0.1.1 else a0.1.1):Int) < a0.2.1.1 then a0.2.1.1 else(if(a0.1.1:Int) < a0.1.1 then a0.1.1 else a0.1.1)):Int) < a0.2.2.1 then a0.2.2.1 else(if((if(a0.1.1:Int) < a0.1.1 then a0.1.1 else a0.1.1):Int) < a0.2.1.1 then a0.2.1.1 else(if(a0.1.1:Int) < a0.1.1 then a0.1.1 else a0.1.1))),(if((if((if(a0.1.2.1:Int) < a0.1.2.1 then a0.1.2.1 else a0.1.2.1):Int) < a0.2.1.2.1 then a0.2.1.2.1 else(if(a0.1.2.1:Int) < a0.1.2.1 then a0.1.2.1 else a0.1.2.1)):Int) < a0.2.2.2.1 then a0.2.2.2.1 else(if((if(a0.1.2.1:Int) < a0.1.2.1 then a0.1.2.1 else a0.1.2.1):Int) < a0.2.1.2.1 then a0.2.1.2.1 else(if(a0.1.2.1:Int) < a0.1.2.1 then a0.1.2.1 else a0.1.2.1))),(if((if((if(a0.1.2.2:Int) < a0.1.2.2 then a0.1.2.2 else a0.1.2.2):Int) < a0.2.1.2.2 then a0.2.1.2.2 else(if(a0.1.2.2:Int) < a0.1.2.2 then a0.1.2.2 else a0.1.2.2)):Int) < a0.2.2.2.2 then a0.2.2.2.2 else(if((if(a0.1.2.2:Int) < a0.1.2.2 then a0.1.2.2 else a0.1.2.2):Int) < a0.2.1.2.2 then a0.2.1.2.2 else(if(a0.1.2.2:Int) < a0.1.2.2 then a0.1.2.2 else a0.1.2.2)))))
theorem aQd (a0:Zt×Zt×Zt):Con Tryz.prog 148 [(.s 0 0 3 3)] [(.live false false (k9 a0))] (.t [(.a (k3 (aP a0).1)),(.a (k3 (aP a0).2))]) []:=by
 refine aJ Tryz.func148 (by kernel_rfl) fun cx hcx=>?_
 have e:=Eq.refl (aP a0);conv at e=>rhs;simp only [aP]
 rw [e]
 exact rt [.i 0 3 (by decide),.i 0 3 (by decide),.u 200,.T,.i 0 3 (by decide),.u 0,.T,.i 1 3 (by decide),.u 0,.T,.i 2 3 (by decide),.u 0,.F] [] [] hcx (by kernel_rfl)
def lY (a0:Int)(a1:Int)(a2:Int)(a3:Int):Int :=
 (if((if(0:Int) < (W (a2 - a1)) then(W (a2 - a1)) else 0):Int) < (W (a0 - a3)) then(W (a0 - a3)) else(if(0:Int) < (W (a2 - a1)) then(W (a2 - a1)) else 0))
theorem aX4 (a0:Int)(a1:Int)(a2:Int)(a3:Int):Con Tryz.prog 149 [(iv a0),(iv a1),(iv a2),(iv a3)] [] (iv (lY a0 a1 a2 a3)) []:=by
 refine aJ Tryz.func149 (by kernel_rfl) fun cx hcx=>?_
 have e:=Eq.refl (lY a0 a1 a2 a3);conv at e=>rhs;simp only [lY]
 rw [e]
 exact rt [] [] [] hcx (by kernel_rfl)
def bK (a0:Zt×Zt×Zt)(a1:Zt×Zt×Zt):Int :=
 (jO ((lY (aP a0).1.1 (aP a0).2.1 (aP a1).1.1 (aP a1).2.1),(lY (aP a0).1.2.1 (aP a0).2.2.1 (aP a1).1.2.1 (aP a1).2.2.1),(lY (aP a0).1.2.2 (aP a0).2.2.2 (aP a1).1.2.2 (aP a1).2.2.2)) ((lY (aP a0).1.1 (aP a0).2.1 (aP a1).1.1 (aP a1).2.1),(lY (aP a0).1.2.1 (aP a0).2.2.1 (aP a1).1.2.1 (aP a1).2.2.1),(lY (aP a0).1.2.2 (aP a0).2.2.2 (aP a1).1.2.2 (aP a1).2.2.2)))
theorem aIu (a0:Zt×Zt×Zt)(a1:Zt×Zt×Zt):Con Tryz.prog 121 [(.s 0 0 3 3),(.s 1 0 3 3)] [(.live false false (k9 a0)),(.live false false (k9 a1))] (iv (bK a0 a1)) []:=by
 refine aJ Tryz.func121 (by kernel_rfl) fun cx hcx=>?_
 have e:=Eq.refl (bK a0 a1);conv at e=>rhs;simp only [bK]
 rw [e]
 exact rt [.c [0] (aQd a0),.c [1] (aQd a1),.c [] (aX4 (aP a0).1.1 (aP a0).2.1 (aP a1).1.1 (aP a1).2.1),.c [] (aX4 (aP a0).1.2.1 (aP a0).2.2.1 (aP a1).1.2.1 (aP a1).2.2.1),.c [] (aX4 (aP a0).1.2.2 (aP a0).2.2.2 (aP a1).1.2.2 (aP a1).2.2.2),.c [] (aX2 ((lY (aP a0).1.1 (aP a0).2.1 (aP a1).1.1 (aP a1).2.1),(lY (aP a0).1.2.1 (aP a0).2.2.1 (aP a1).1.2.1 (aP a1).2.2.1),(lY (aP a0).1.2.2 (aP a0).2.2.2 (aP a1).1.2.2 (aP a1).2.2.2)) ((lY (aP a0).1.1 (aP a0).2.1 (aP a1).1.1 (aP a1).2.1),(lY (aP a0).1.2.1 (aP a0).2.2.1 (aP a1).1.2.1 (aP a1).2.2.1),(lY (aP a0).1.2.2 (aP a0).2.2.2 (aP a1).1.2.2 (aP a1).2.2.2)))] [] [] hcx (by kernel_rfl)
def dL (x:Zt):List SV:=[(iv x.1),(iv x.2.1),(iv x.2.2)]
theorem bM (x:Zt):(dL x).length=3:=rfl
noncomputable def tK:Code:=(aD [1,1,0,1,0,1,1,0,1,1] [0] (aG Tryz.f120) []).1
noncomputable def tL (m0:Nat):List K:=(aD [1,1,0,1,0,1,1,0,1,1] [m0] (aG Tryz.f120) []).2
def qJ (a0:List Zt)(a1:List Zt)(v5 v6 v7 v8 v9 v10:Int):LS:=⟨iH 34 [(1,(.s 1 0 a1.length 3)),(5,(iv v5)),(7,(.p 2 0)),(11,(.s 0 0 a0.length 3)),(12,(iv (a0.length:Int))),(13,(iv v6)),(17,(.s 1 0 a1.length 3)),(18,(iv (a1.length:Int))),(19,(iv v7))],[(.live false true (flat dL a0)),(.live false true (flat dL a1)),(.live true false [(iv v8),(iv v9),(iv v10)])]⟩
def jP (a0:List Zt)(a1:List Zt):Int×Int×Int×Zt->(Int×Int×Int×Zt)⊕((Int×Int)⊕(Int))
 | (v5,v6,v7,v8,v9,v10) =>
  (bif (decide ((v7:Int) < (a1.length:Int))) then
   (.inl ((if(v5:Int) < (jO (bJ (v8,v9,v10) (a1.getD (toNat v7) default)) (bJ (v8,v9,v10) (a1.getD (toNat v7) default))) then(jO (bJ (v8,v9,v10) (a1.getD (toNat v7) default)) (bJ (v8,v9,v10) (a1.getD (toNat v7) default))) else v5),v6,(v7+1),v8,v9,v10))
  else
   (.inr (.inl (v5,(v6+1)))))
noncomputable def oQ:Code:=(aD [1,1,0,1] [] (aG Tryz.f120) []).1
noncomputable def oR:List K:=(aD [1,1,0,1] [] (aG Tryz.f120) []).2
def mU (a0:List Zt)(a1:List Zt)(v3 v4:Int):LS:=⟨iH 34 [(1,(.s 1 0 a1.length 3)),(5,(iv v3)),(11,(.s 0 0 a0.length 3)),(12,(iv (a0.length:Int))),(13,(iv v4))],[(.live false true (flat dL a0)),(.live false true (flat dL a1))]⟩
def fW (a0:List Zt)(a1:List Zt):Int×Int->(Int×Int)⊕(Int)
 | (v3,v4) =>
  (bif (decide ((v4:Int) < (a0.length:Int))) then
   (aB (jP a0 a1) (toNat ((a1.length:Int) - 0)+1) (v3,v4,0,(a0.getD (toNat v4) default).1,(a0.getD (toNat v4) default).2.1,(a0.getD (toNat v4) default).2.2))
  else
   (.inr v3))
theorem aKk (a0:List Zt)(a1:List Zt)(l0:a0.length<=9223372036854775807)(l1:a1.length<=9223372036854775807) {cx:Cx} (hcx:cx.base=2)
   (n0:Nat) (g0:∀(v3 v4:Int),0<=v4->toNat ((a0.length:Int) - v4) < n0->Aw.Good Tryz.prog none 9 (bodyPost Tryz.prog Tryz.f120 (RR cx (iv (aB (fW a0 a1) n0 (v3,v4))) [] [])) cx [] (.l oQ n0::oR) (mU a0 a1 v3 v4)):∀(n:Nat) (v5 v6 v7 v8 v9 v10:Int),(0<=v7)/\((0<=v6))/\(v6 < (a0.length:Int))/\(toNat ((a0.length:Int) - v6) < n0+1)->toNat ((a1.length:Int) - v7) < n->Aw.Good Tryz.prog none 9 (bodyPost Tryz.prog Tryz.f120 (RR cx (iv (jE (fW a0 a1) n0 (aB (jP a0 a1) n (v5,v6,v7,v8,v9,v10)))) [] [])) cx [] (.l tK n::tL n0) (qJ a0 a1 v5 v6 v7 v8 v9 v10):=by
 intro n
 induction n with
 | zero=>intro v5 v6 v7 v8 v9 v10 hi hn;exact absurd hn (gP _)
 | succ n ih =>
   intro v5 v6 v7 v8 v9 v10 hi hn
   refine aH ?_
   cases h0:(decide ((v7:Int) < (a1.length:Int))) with
   | true =>
    have q0:=bO h0
    have e:=Eq.refl (jP a0 a1 (v5,v6,v7,v8,v9,v10));conv at e=>rhs;simp only [jP,h0,aI]
    rw [aA e]
    refine ba [.d h0,.i v7 (a1.length),.L bM a1 v7 0 3,.c [] (aX3 (v8,v9,v10) (a1.getD (toNat v7) default)),.c [] (aX2 (bJ (v8,v9,v10) (a1.getD (toNat v7) default)) (bJ (v8,v9,v10) (a1.getD (toNat v7) default)))] [] [1,5,7,11,12,13,17,18,19] [2] hcx (m:=n) tK (tL n0) (qJ a0 a1 (if(v5:Int) < (jO (bJ (v8,v9,v10) (a1.getD (toNat v7) default)) (bJ (v8,v9,v10) (a1.getD (toNat v7) default))) then(jO (bJ (v8,v9,v10) (a1.getD (toNat v7) default)) (bJ (v8,v9,v10) (a1.getD (toNat v7) default))) else v5) v6 (W (v7+1)) v8 v9 v10) (by kernel_rfl) ?_
    have z0:(W (v7+1))=(v7+1):=aE (by omega) (by omega)
    rw [z0]
    exact ih (if(v5:Int) < (jO (bJ (v8,v9,v10) (a1.getD (toNat v7) default)) (bJ (v8,v9,v10) (a1.getD (toNat v7) default))) then(jO (bJ (v8,v9,v10) (a1.getD (toNat v7) default)) (bJ (v8,v9,v10) (a1.getD (toNat v7) default))) else v5) v6 (v7+1) v8 v9 v10 (by refine⟨?_,?_,?_,?_⟩<;>(try simp only [Ls])<;>first | omega | assumption | simp) (by(try simp only [Ls]);omega)
   | false =>
    have q0:=cA h0
    have e:=Eq.refl (jP a0 a1 (v5,v6,v7,v8,v9,v10));conv at e=>rhs;simp only [jP,h0,aI]
    rw [aC,e]
    refine ba [.d h0] [] [1,5,11,12,13] [] hcx (m:=n0) oQ (oR) (mU a0 a1 v5 (W (v6+1))) (by kernel_rfl) ?_
    have z0:(W (v6+1))=(v6+1):=aE (by omega) (by omega)
    rw [z0]
    exact g0 v5 (v6+1) (by(try simp only [Ls]);omega) (by(try simp only [Ls]);omega)
theorem aKl (a0:List Zt)(a1:List Zt)(l0:a0.length<=9223372036854775807)(l1:a1.length<=9223372036854775807) {cx:Cx} (hcx:cx.base=2):∀(n:Nat)(v3 v4:Int),0<=v4->toNat ((a0.length:Int) - v4) < n->Aw.Good Tryz.prog none 9 (bodyPost Tryz.prog Tryz.f120 (RR cx (iv (aB (fW a0 a1) n (v3,v4))) [] [])) cx [] (.l oQ n::oR) (mU a0 a1 v3 v4):=by
 intro n
 induction n with
 | zero=>intro v3 v4 hi hn;exact absurd hn (gP _)
 | succ n ih =>
   intro v3 v4 hi hn
   refine aH ?_
   cases h0:(decide ((v4:Int) < (a0.length:Int))) with
   | true =>
    have q0:=bO h0
    have e:=Eq.refl (fW a0 a1 (v3,v4));conv at e=>rhs;simp only [fW,h0,aI]
    rw [aC,e]
    refine en [.d h0,.i v4 (a0.length),.L bM a0 v4 0 3] [] [1,5,7,11,12,13,17,18,19] [2] hcx tK (tL n) (qJ a0 a1 v3 v4 0 ((a0.getD (toNat v4) default).1) ((a0.getD (toNat v4) default).2.1) ((a0.getD (toNat v4) default).2.2)) (toNat ((a1.length:Int) - 0)+1) (by kernel_rfl) ?_
    exact aKk a0 a1 l0 l1 hcx n ih (toNat ((a1.length:Int) - 0)+1) v3 v4 0 ((a0.getD (toNat v4) default).1) ((a0.getD (toNat v4) default).2.1) ((a0.getD (toNat v4) default).2.2) (by refine⟨?_,?_,?_,?_⟩<;>(try simp only [Ls])<;>first | omega | assumption | simp) (by(try simp only [Ls]);omega)
   | false =>
    have q0:=cA h0
    have e:=Eq.refl (fW a0 a1 (v3,v4));conv at e=>rhs;simp only [fW,h0,aI]
    rw [aC,e]
    exact rt [.d h0] [] [] hcx (by kernel_rfl)
def bH (a0:List Zt)(a1:List Zt):Int :=
 (aB (fW a0 a1) (toNat ((a0.length:Int) - 0)+1) (0,0))
theorem aIv (a0:List Zt)(a1:List Zt)(l0:a0.length<=9223372036854775807)(l1:a1.length<=9223372036854775807):Con Tryz.prog 120 [(.s 0 0 a0.length 3),(.s 1 0 a1.length 3)] [(.live false true (flat dL a0)),(.live false true (flat dL a1))] (iv (bH a0 a1)) []:=by
 refine aJ Tryz.func120 (by kernel_rfl) fun cx hcx=>?_
 have e:=Eq.refl (bH a0 a1);conv at e=>rhs;simp only [bH]
 rw [e]
 refine en [] [] [1,5,11,12,13] [] hcx oQ (oR) (mU a0 a1 0 0) (toNat ((a0.length:Int) - 0)+1) (by kernel_rfl) ?_
 exact aKl a0 a1 l0 l1 hcx (toNat ((a0.length:Int) - 0)+1) 0 0 (by(try simp only [Ls]);omega) (by(try simp only [Ls]);omega)
noncomputable def aEr:Code:=match (fE [1] [] (aG Tryz.f89)).1 with
 | .scope c=>c
 | _=>.skip
noncomputable def aIw:List K:=(fE [1] [] (aG Tryz.f89)).2
noncomputable def bA8:Code:=(findLabel aEr 0).getD .skip
def aBx (a0:Int)(v1 v2:Int):LS:=⟨iH 22 [(0,(iv a0)),(3,(iv v1)),(4,(iv v2))],[]⟩
def qK (a0:Int):Int×Int->(Int×Int)⊕(Int)
 | (v1,v2) =>
  (bif ((v2:Int) == 0) then
   (.inr v1)
  else
   (bif (decide (((W ((W (v1+v2))*(W (v1+v2)))):Int)<=a0)) then
    (.inl ((W (v1+v2)),(v2 / 2)))
   else
    (.inl (v1,(v2 / 2)))))
theorem aWv (a0:Int) {cx:Cx} (hcx:cx.base=0):∀(n:Nat)(v1 v2:Int),0<=v2->toNat v2 < n->Aw.Good Tryz.prog none 9 (bodyPost Tryz.prog Tryz.f89 (RR cx (iv (aB (qK a0) n (v1,v2))) [] [])) cx [] (.c (.goto 0)::.s aEr n::aIw) (aBx a0 v1 v2):=by
 intro n
 induction n with
 | zero=>intro v1 v2 hi hn;exact absurd hn (gP _)
 | succ n ih =>
   intro v1 v2 hi hn
   refine aOn (rest:=bA8) (by kernel_rfl) ?_
   cases h0:((v2:Int) == 0) with
   | true =>
    have q0:=eq_of_beq h0
    have e:=Eq.refl (qK a0 (v1,v2));conv at e=>rhs;simp only [qK,h0,aI]
    rw [aC,e]
    exact rt [.d h0] [] [] hcx (by kernel_rfl)
   | false =>
    have q0:=ne_of_beq_false h0
    let t1:List (St Tryz.prog):=[.d h0]
    cases h1:(decide (((W ((W (v1+v2))*(W (v1+v2)))):Int)<=a0)) with
    | true =>
     have q1:=bO h1
     have e:=Eq.refl (qK a0 (v1,v2));conv at e=>rhs;simp only [qK,h0,h1,aI]
     rw [aA e]
     refine ga (t1++[.d h1,.p (show 0<=(1:Int) from by decide)]) [] [0,3,4] [] hcx (.goto 0) (.s aEr n::aIw) (aBx a0 (W (v1+v2)) (Int.fdiv v2 (2 ^ (min (toNat 1) 64)))) (by kernel_rfl) ?_
     have z0:(Int.fdiv v2 (2 ^ (min (toNat 1) 64)))=(v2 / 2):=aFn _ 1 (by decide)
     rw [z0]
     exact ih (W (v1+v2)) (v2 / 2) (by(try simp only [Ls]);omega) (by omega)
    | false =>
     have q1:=cA h1
     have e:=Eq.refl (qK a0 (v1,v2));conv at e=>rhs;simp only [qK,h0,h1,aI]
     rw [aA e]
     refine ga (t1++[.d h1,.p (show 0<=(1:Int) from by decide)]) [] [0,3,4] [] hcx (.goto 0) (.s aEr n::aIw) (aBx a0 v1 (Int.fdiv v2 (2 ^ (min (toNat 1) 64)))) (by kernel_rfl) ?_
     have z0:(Int.fdiv v2 (2 ^ (min (toNat 1) 64)))=(v2 / 2):=aFn _ 1 (by decide)
     rw [z0]
     exact ih v1 (v2 / 2) (by(try simp only [Ls]);omega) (by omega)
def iU (a0:Int):Int :=
 (bif (decide ((4611686018427387904:Int)<=a0)) then
  (aB (qK a0) (toNat 1073741824+1) (2147483648,1073741824))
 else
  (aB (qK a0) (toNat 1073741824+1) (0,1073741824)))
theorem C89 (a0:Int):Con Tryz.prog 89 [(iv a0)] [] (iv (iU a0)) []:=by
 refine aJ Tryz.func89 (by kernel_rfl) fun cx hcx=>?_
 cases h0:(decide ((4611686018427387904:Int)<=a0)) with
 | true =>
  have q0:=bO h0
  have e:=Eq.refl (iU a0);conv at e=>rhs;simp only [iU,h0,aI]
  rw [e]
  refine ga [.u (toNat 1073741824+1),.F,.d h0,.p (show 0<=(1:Int) from by decide)] [] [0,3,4] [] hcx (.goto 0) (.s aEr (toNat 1073741824+1)::aIw) (aBx a0 2147483648 1073741824) (by kernel_rfl) ?_
  exact aWv a0 hcx (toNat 1073741824+1) 2147483648 1073741824 (by(try simp only [Ls]);omega) (by omega)
 | false =>
  have q0:=cA h0
  have e:=Eq.refl (iU a0);conv at e=>rhs;simp only [iU,h0,aI]
  rw [e]
  refine ga [.u (toNat 1073741824+1),.F,.d h0,.p (show 0<=(1:Int) from by decide)] [] [0,3,4] [] hcx (.goto 0) (.s aEr (toNat 1073741824+1)::aIw) (aBx a0 0 1073741824) (by kernel_rfl) ?_
  exact aWv a0 hcx (toNat 1073741824+1) 0 1073741824 (by(try simp only [Ls]);omega) (by omega)
def pT (a0:Int×Int):Bool :=
 (bif (decide ((a0.1:Int)≥(-1099511627776))) then
  (bif (decide ((a0.1:Int)<=a0.2)) then
   (decide ((a0.2:Int)<=1099511627776))
  else
   false)
 else
  false)
theorem C76 (a0:Int×Int):Con Tryz.prog 76 [(.a [(iv a0.1),(iv a0.2)])] [] (.v (.bool (pT a0))) []:=by
 refine aJ Tryz.func76 (by kernel_rfl) fun cx hcx=>?_
 cases h0:(decide ((a0.1:Int)≥(-1099511627776))) with
 | true =>
  have q0:=bO h0
  let t1:List (St Tryz.prog):=[.d h0]
  cases h1:(decide ((a0.1:Int)<=a0.2)) with
  | true =>
   have q1:=bO h1
   have e:=Eq.refl (pT a0);conv at e=>rhs;simp only [pT,h0,h1,aI]
   rw [e]
   exact rt (t1++[.d h1]) [] [] hcx (by kernel_rfl)
  | false =>
   have q1:=cA h1
   have e:=Eq.refl (pT a0);conv at e=>rhs;simp only [pT,h0,h1,aI]
   rw [e]
   exact rt (t1++[.d h1]) [] [] hcx (by kernel_rfl)
 | false =>
  have q0:=cA h0
  have e:=Eq.refl (pT a0);conv at e=>rhs;simp only [pT,h0,aI]
  rw [e]
  exact rt [.d h0] [] [] hcx (by kernel_rfl)
def qL (a0:Int)(a1:Int):(Int×Int)×Int :=
 (bif (!(pT (a0,a1))) then
  ((0,0),4)
 else
  ((a0,a1),0))
theorem C48 (a0:Int)(a1:Int):Con Tryz.prog 48 [(iv a0),(iv a1)] [] (.t [(.a (k2 (qL a0 a1).1)),(iv (qL a0 a1).2)]) []:=by
 refine aJ Tryz.func48 (by kernel_rfl) fun cx hcx=>?_
 let t0:List (St Tryz.prog):=[.c [] (C76 (a0,a1))]
 cases h0:(!(pT (a0,a1))) with
 | true =>
  have e:=Eq.refl (qL a0 a1);conv at e=>rhs;simp only [qL,h0,aI]
  rw [e]
  exact rt (t0++[.d h0]) [] [] hcx (by kernel_rfl)
 | false =>
  have e:=Eq.refl (qL a0 a1);conv at e=>rhs;simp only [qL,h0,aI]
  rw [e]
  exact rt (t0++[.d h0]) [] [] hcx (by kernel_rfl)
def aDx (a0:Int)(a1:Int):(Int×Int)×Int :=
 (bif (((W ((W ((iU (W (Int.tdiv a0 a1)))*(iU (W (Int.tdiv a0 a1)))))*a1)):Int) == a0) then
  ((qL (iU (W (Int.tdiv a0 a1))) (iU (W (Int.tdiv a0 a1)))).1,(qL (iU (W (Int.tdiv a0 a1))) (iU (W (Int.tdiv a0 a1)))).2)
 else
  ((qL (iU (W (Int.tdiv a0 a1))) (W ((iU (W (Int.tdiv a0 a1)))+1))).1,(qL (iU (W (Int.tdiv a0 a1))) (W ((iU (W (Int.tdiv a0 a1)))+1))).2))
theorem bE8 (a0:Int)(a1:Int)(ha:a1≠0):Con Tryz.prog 147 [(iv a0),(iv a1)] [] (.t [(.a (k2 (aDx a0 a1).1)),(iv (aDx a0 a1).2)]) []:=by
 refine aJ Tryz.func147 (by kernel_rfl) fun cx hcx=>?_
 let t0:List (St Tryz.prog):=[.p (show(a1:Int)≠0 from by first | omega | (rw [aE]<;>omega) | exact eE _),.c [] (C89 (W (Int.tdiv a0 a1)))]
 cases h0:(((W ((W ((iU (W (Int.tdiv a0 a1)))*(iU (W (Int.tdiv a0 a1)))))*a1)):Int) == a0) with
 | true =>
  have q0:=eq_of_beq h0
  have e:=Eq.refl (aDx a0 a1);conv at e=>rhs;simp only [aDx,h0,aI]
  rw [e]
  exact rt (t0++[.d h0,.c [] (C48 (iU (W (Int.tdiv a0 a1))) (iU (W (Int.tdiv a0 a1))))]) [] [] hcx (by kernel_rfl)
 | false =>
  have q0:=ne_of_beq_false h0
  have e:=Eq.refl (aDx a0 a1);conv at e=>rhs;simp only [aDx,h0,aI]
  rw [e]
  exact rt (t0++[.d h0,.c [] (C48 (iU (W (Int.tdiv a0 a1))) (W ((iU (W (Int.tdiv a0 a1)))+1)))]) [] [] hcx (by kernel_rfl)
def fL (a0:Int)(a1:Int):(Int×Int)×Int :=
 (bif (decide ((a0:Int) < 1)) then
  ((0,0),1)
 else
  (bif (decide ((a0:Int) > 1099511627776)) then
   ((0,0),1)
  else
   (bif (decide ((a1:Int) < 1)) then
    ((0,0),1)
   else
    (bif (decide ((a1:Int) > 8)) then
     ((0,0),1)
    else
     ((aDx (W ((W (a1*a1))*2 ^ (min (toNat 40) 64))) a0).1,(aDx (W ((W (a1*a1))*2 ^ (min (toNat 40) 64))) a0).2)))))
theorem aX5 (a0:Int)(a1:Int):Con Tryz.prog 119 [(iv a0),(iv a1)] [] (.t [(.a (k2 (fL a0 a1).1)),(iv (fL a0 a1).2)]) []:=by
 refine aJ Tryz.func119 (by kernel_rfl) fun cx hcx=>?_
 cases h0:(decide ((a0:Int) < 1)) with
 | true =>
  have q0:=bO h0
  have e:=Eq.refl (fL a0 a1);conv at e=>rhs;simp only [fL,h0,aI]
  rw [e]
  exact rt [.d h0] [] [] hcx (by kernel_rfl)
 | false =>
  have q0:=cA h0
  let t1:List (St Tryz.prog):=[.d h0]
  cases h1:(decide ((a0:Int) > 1099511627776)) with
  | true =>
   have q1:=bO h1
   have e:=Eq.refl (fL a0 a1);conv at e=>rhs;simp only [fL,h0,h1,aI]
   rw [e]
   exact rt (t1++[.d h1]) [] [] hcx (by kernel_rfl)
  | false =>
   have q1:=cA h1
   let t2:List (St Tryz.prog):=(t1++[.d h1])
   cases h2:(decide ((a1:Int) < 1)) with
   | true =>
    have q2:=bO h2
    have e:=Eq.refl (fL a0 a1);conv at e=>rhs;simp only [fL,h0,h1,h2,aI]
    rw [e]
    exact rt (t2++[.d h2]) [] [] hcx (by kernel_rfl)
   | false =>
    have q2:=cA h2
    let t3:List (St Tryz.prog):=(t2++[.d h2])
    cases h3:(decide ((a1:Int) > 8)) with
    | true =>
     have q3:=bO h3
     have e:=Eq.refl (fL a0 a1);conv at e=>rhs;simp only [fL,h0,h1,h2,h3,aI]
     rw [e]
     exact rt (t3++[.d h3]) [] [] hcx (by kernel_rfl)
    | false =>
     have q3:=cA h3
     have e:=Eq.refl (fL a0 a1);conv at e=>rhs;simp only [fL,h0,h1,h2,h3,aI]
     rw [e]
     exact rt (t3++[.d h3,.p (show 0<=(40:Int) from by decide),.c [] (bE8 (W ((W (a1*a1))*2 ^ (min (toNat 40) 64))) a0  (by(try simp only [Lt]);omega))]) [] [] hcx (by kernel_rfl)
def kF (a0:Int×Int):Int :=
 (bif (!(pT a0)) then
  1
 else
  0)
theorem aWw (a0:Int×Int):Con Tryz.prog 45 [(.s 0 0 1 2)] [(.live false false [(iv a0.1),(iv a0.2)])] (iv (kF a0)) []:=by
 refine aJ Tryz.func45 (by kernel_rfl) fun cx hcx=>?_
 let t0:List (St Tryz.prog):=[.u 200,.T,.i 0 1 (by decide),.c [] (C76 a0)]
 cases h0:(!(pT a0)) with
 | true =>
  have e:=Eq.refl (kF a0);conv at e=>rhs;simp only [kF,h0,aI]
  rw [e]
  exact rt (t0++[.d h0]) [] [] hcx (by kernel_rfl)
 | false =>
  have e:=Eq.refl (kF a0);conv at e=>rhs;simp only [kF,h0,aI]
  rw [e]
  exact rt (t0++[.d h0,.u 0,.F]) [] [] hcx (by kernel_rfl)
def sF (a0:Int)(a1:Int):Int :=
 (bif (((Int.tmod a0 a1):Int) != 0) then
  (bif (!((decide ((a0:Int) < 0)) == (decide ((a1:Int) < 0)))) then
   (W ((W (Int.tdiv a0 a1)) - 1))
  else
   (W (Int.tdiv a0 a1)))
 else
  (W (Int.tdiv a0 a1)))
theorem aX6 (a0:Int)(a1:Int)(ha:a1≠0):Con Tryz.prog 127 [(iv a0),(iv a1)] [] (iv (sF a0 a1)) []:=by
 refine aJ Tryz.func127 (by kernel_rfl) fun cx hcx=>?_
 let t0:List (St Tryz.prog):=[.p (show(a1:Int)≠0 from by first | omega | (rw [aE]<;>omega) | exact eE _),.p (show(a1:Int)≠0 from by first | omega | (rw [aE]<;>omega) | exact eE _)]
 cases h0:(((Int.tmod a0 a1):Int) != 0) with
 | true =>
  have q0:=bne_iff_ne.1 h0
  let t1:List (St Tryz.prog):=(t0++[.d h0])
  cases h1:(!((decide ((a0:Int) < 0)) == (decide ((a1:Int) < 0)))) with
  | true =>
   have e:=Eq.refl (sF a0 a1);conv at e=>rhs;simp only [sF,h0,h1,aI]
   rw [e]
   exact rt (t1++[.d h1]) [] [] hcx (by kernel_rfl)
  | false =>
   have e:=Eq.refl (sF a0 a1);conv at e=>rhs;simp only [sF,h0,h1,aI]
   rw [e]
   exact rt (t1++[.d h1]) [] [] hcx (by kernel_rfl)
 | false =>
  have q0:=bne_eq_false_iff_eq.1 h0
  have e:=Eq.refl (sF a0 a1);conv at e=>rhs;simp only [sF,h0,aI]
  rw [e]
  exact rt (t0++[.d h0]) [] [] hcx (by kernel_rfl)
def aBy (a0:Int)(a1:Int):Int :=
 (W (0 - (sF (W (0 - a0)) a1)))
theorem bA9 (a0:Int)(a1:Int)(ha:a1≠0):Con Tryz.prog 128 [(iv a0),(iv a1)] [] (iv (aBy a0 a1)) []:=by
 refine aJ Tryz.func128 (by kernel_rfl) fun cx hcx=>?_
 have e:=Eq.refl (aBy a0 a1);conv at e=>rhs;simp only [aBy]
 rw [e]
 exact rt [.c [] (aX6 (W (0 - a0)) a1  (by(try simp only [Lt]);omega))] [] [] hcx (by kernel_rfl)
def zW (a0:Int×Int)(a1:Int):(Int×Int)×Int :=
 (bif (((kF a0):Int) != 0) then
  ((0,0),(kF a0))
 else
  (bif (decide ((a1:Int) < 1)) then
   ((0,0),1)
  else
   (bif (decide ((a1:Int) > 1099511627776)) then
    ((0,0),1)
   else
    ((qL (sF a0.1 a1) (aBy a0.2 a1)).1,(qL (sF a0.1 a1) (aBy a0.2 a1)).2))))
theorem bE9 (a0:Int×Int)(a1:Int):Con Tryz.prog 150 [(.a [(iv a0.1),(iv a0.2)]),(iv a1)] [] (.t [(.a (k2 (zW a0 a1).1)),(iv (zW a0 a1).2)]) []:=by
 refine aJ Tryz.func150 (by kernel_rfl) fun cx hcx=>?_
 let t0:List (St Tryz.prog):=[.c [2] (aWw a0)]
 cases h0:(((kF a0):Int) != 0) with
 | true =>
  have q0:=bne_iff_ne.1 h0
  have e:=Eq.refl (zW a0 a1);conv at e=>rhs;simp only [zW,h0,aI]
  rw [e]
  exact rt (t0++[.d h0]) [] [] hcx (by kernel_rfl)
 | false =>
  have q0:=bne_eq_false_iff_eq.1 h0
  let t1:List (St Tryz.prog):=(t0++[.d h0])
  cases h1:(decide ((a1:Int) < 1)) with
  | true =>
   have q1:=bO h1
   have e:=Eq.refl (zW a0 a1);conv at e=>rhs;simp only [zW,h0,h1,aI]
   rw [e]
   exact rt (t1++[.d h1]) [] [] hcx (by kernel_rfl)
  | false =>
   have q1:=cA h1
   let t2:List (St Tryz.prog):=(t1++[.d h1])
   cases h2:(decide ((a1:Int) > 1099511627776)) with
   | true =>
    have q2:=bO h2
    have e:=Eq.refl (zW a0 a1);conv at e=>rhs;simp only [zW,h0,h1,h2,aI]
    rw [e]
    exact rt (t2++[.d h2]) [] [] hcx (by kernel_rfl)
   | false =>
    have q2:=cA h2
    have e:=Eq.refl (zW a0 a1);conv at e=>rhs;simp only [zW,h0,h1,h2,aI]
    rw [e]
    exact rt (t2++[.d h2,.c [] (aX6 a0.1 a1  (by(try simp only [Lt]);omega)),.c [] (bA9 a0.2 a1  (by(try simp only [Lt]);omega)),.c [] (C48 (sF a0.1 a1) (aBy a0.2 a1))]) [] [] hcx (by kernel_rfl)
def cQ (x:Int×Int):List SV:=[(iv x.1),(iv x.2)]
theorem cC (x:Int×Int):(cQ x).length=2:=rfl
noncomputable def aFu:Code:=(aD [1,0,1] [] (aG Tryz.f45) []).1
noncomputable def aFv:List K:=(aD [1,0,1] [] (aG Tryz.f45) []).2
def aBz (a0:List (Int×Int))(v1:Int):LS:=⟨iH 15 [(5,(.s 0 0 a0.length 2)),(6,(iv (a0.length:Int))),(7,(iv v1))],[(.live false true (flat cQ a0))]⟩
def eJ (a0:List (Int×Int)):Int->(Int)⊕(Int)
 | v1 =>
  (bif (decide ((v1:Int) < (a0.length:Int))) then
   (bif (!(pT (a0.getD (toNat v1) default))) then
    (.inr 1)
   else
    (.inl (v1+1)))
  else
   (.inr 0))
theorem aUx (a0:List (Int×Int))(l0:a0.length<=9223372036854775807) {cx:Cx} (hcx:cx.base=1):∀(n:Nat)(v1:Int),0<=v1->toNat ((a0.length:Int) - v1) < n->Aw.Good Tryz.prog none 9 (bodyPost Tryz.prog Tryz.f45 (RR cx (iv (aB (eJ a0) n v1)) [] [])) cx [] (.l aFu n::aFv) (aBz a0 v1):=by
 intro n
 induction n with
 | zero=>intro v1 hi hn;exact absurd hn (gP _)
 | succ n ih =>
   intro v1 hi hn
   refine aH ?_
   cases h0:(decide ((v1:Int) < (a0.length:Int))) with
   | true =>
    have q0:=bO h0
    let t1:List (St Tryz.prog):=[.d h0,.i v1 (a0.length),.L cC a0 v1 0 2,.c [] (C76 (a0.getD (toNat v1) default))]
    cases h1:(!(pT (a0.getD (toNat v1) default))) with
    | true =>
     have e:=Eq.refl (eJ a0 v1);conv at e=>rhs;simp only [eJ,h0,h1,aI]
     rw [aC,e]
     exact rt (t1++[.d h1]) [] [] hcx (by kernel_rfl)
    | false =>
     have e:=Eq.refl (eJ a0 v1);conv at e=>rhs;simp only [eJ,h0,h1,aI]
     rw [aA e]
     refine ba (t1++[.d h1]) [] [5,6,7] [] hcx (m:=n) aFu (aFv) (aBz a0 (W (v1+1))) (by kernel_rfl) ?_
     have z0:(W (v1+1))=(v1+1):=aE (by omega) (by omega)
     rw [z0]
     exact ih (v1+1) (by(try simp only [Ls]);omega) (by(try simp only [Ls]);omega)
   | false =>
    have q0:=cA h0
    have e:=Eq.refl (eJ a0 v1);conv at e=>rhs;simp only [eJ,h0,aI]
    rw [aC,e]
    exact rt [.d h0] [] [] hcx (by kernel_rfl)
def sR (a0:List (Int×Int)):Int :=
 (aB (eJ a0) (toNat ((a0.length:Int) - 0)+1) 0)
theorem bBa (a0:List (Int×Int))(l0:a0.length<=9223372036854775807):Con Tryz.prog 45 [(.s 0 0 a0.length 2)] [(.live false true (flat cQ a0))] (iv (sR a0)) []:=by
 refine aJ Tryz.func45 (by kernel_rfl) fun cx hcx=>?_
 have e:=Eq.refl (sR a0);conv at e=>rhs;simp only [sR]
 rw [e]
 refine en [] [] [5,6,7] [] hcx aFu (aFv) (aBz a0 0) (toNat ((a0.length:Int) - 0)+1) (by kernel_rfl) ?_
 exact aUx a0 l0 hcx (toNat ((a0.length:Int) - 0)+1) 0 (by(try simp only [Ls]);omega) (by(try simp only [Ls]);omega)
noncomputable def aB0:Code:=(aD [1,1,1,0,1] [] (aG Tryz.f126) []).1
noncomputable def aB1:List K:=(aD [1,1,1,0,1] [] (aG Tryz.f126) []).2
def xG (a0:List (Int×Int))(v1 v2 v3:Int):LS:=⟨iH 33 [(2,(iv v1)),(3,(iv v2)),(16,(.s 0 0 a0.length 2)),(17,(iv (a0.length:Int))),(18,(iv v3))],[(.live false true (flat cQ a0))]⟩
def gT (a0:List (Int×Int)):Zt->Zt⊕Zt
 | (v1,v2,v3) =>
  (bif (decide ((v3:Int) < (a0.length:Int))) then
   (.inl ((W (v1+(a0.getD (toNat v3) default).1)),(W (v2+(a0.getD (toNat v3) default).2)),(v3+1)))
  else
   (.inr (v1,v2,0)))
theorem aQe (a0:List (Int×Int))(l0:a0.length<=9223372036854775807) {cx:Cx} (hcx:cx.base=1):∀(n:Nat)(v1 v2 v3:Int),0<=v3->toNat ((a0.length:Int) - v3) < n->Aw.Good Tryz.prog none 9 (bodyPost Tryz.prog Tryz.f126 (RR cx (.t (k3 (aB (gT a0) n (v1,v2,v3)))) [] [])) cx [] (.l aB0 n::aB1) (xG a0 v1 v2 v3):=by
 intro n
 induction n with
 | zero=>intro v1 v2 v3 hi hn;exact absurd hn (gP _)
 | succ n ih =>
   intro v1 v2 v3 hi hn
   refine aH ?_
   cases h0:(decide ((v3:Int) < (a0.length:Int))) with
   | true =>
    have q0:=bO h0
    have e:=Eq.refl (gT a0 (v1,v2,v3));conv at e=>rhs;simp only [gT,h0,aI]
    rw [aA e]
    refine ba [.d h0,.i v3 (a0.length),.L cC a0 v3 0 2] [] [2,3,16,17,18] [] hcx (m:=n) aB0 (aB1) (xG a0 (W (v1+(a0.getD (toNat v3) default).1)) (W (v2+(a0.getD (toNat v3) default).2)) (W (v3+1))) (by kernel_rfl) ?_
    have z0:(W (v3+1))=(v3+1):=aE (by omega) (by omega)
    rw [z0]
    exact ih (W (v1+(a0.getD (toNat v3) default).1)) (W (v2+(a0.getD (toNat v3) default).2)) (v3+1) (by(try simp only [Ls]);omega) (by(try simp only [Ls]);omega)
   | false =>
    have q0:=cA h0
    have e:=Eq.refl (gT a0 (v1,v2,v3));conv at e=>rhs;simp only [gT,h0,aI]
    rw [aC,e]
    exact rt [.d h0] [] [] hcx (by kernel_rfl)
def cI (a0:List (Int×Int)):Zt :=
 (bif (decide (((a0.length:Int):Int) > 10000)) then
  (0,0,4)
 else
  (bif (((sR a0):Int) != 0) then
   (0,0,(sR a0))
  else
   (aB (gT a0) (toNat ((a0.length:Int) - 0)+1) (0,0,0))))
theorem aQf (a0:List (Int×Int))(l0:a0.length<=9223372036854775807):Con Tryz.prog 126 [(.s 0 0 a0.length 2)] [(.live false true (flat cQ a0))] (.t (k3 (cI a0))) []:=by
 refine aJ Tryz.func126 (by kernel_rfl) fun cx hcx=>?_
 cases h0:(decide (((a0.length:Int):Int) > 10000)) with
 | true =>
  have q0:=bO h0
  have e:=Eq.refl (cI a0);conv at e=>rhs;simp only [cI,h0,aI]
  rw [e]
  exact rt [.d h0] [] [] hcx (by kernel_rfl)
 | false =>
  have q0:=cA h0
  let t1:List (St Tryz.prog):=[.d h0,.c [0] (bBa a0 (by omega))]
  cases h1:(((sR a0):Int) != 0) with
  | true =>
   have q1:=bne_iff_ne.1 h1
   have e:=Eq.refl (cI a0);conv at e=>rhs;simp only [cI,h0,h1,aI]
   rw [e]
   exact rt (t1++[.d h1]) [] [] hcx (by kernel_rfl)
  | false =>
   have q1:=bne_eq_false_iff_eq.1 h1
   have e:=Eq.refl (cI a0);conv at e=>rhs;simp only [cI,h0,h1,aI]
   rw [e]
   refine en (t1++[.d h1]) [] [2,3,16,17,18] [] hcx aB0 (aB1) (xG a0 0 0 0) (toNat ((a0.length:Int) - 0)+1) (by kernel_rfl) ?_
   exact aQe a0 l0 hcx (toNat ((a0.length:Int) - 0)+1) 0 0 0 (by(try simp only [Ls]);omega) (by(try simp only [Ls]);omega)
def kQ (a0:List (Int×Int)):(Int×Int)×Int :=
 (bif (((cI a0).2.2:Int) != 0) then
  ((0,0),(cI a0).2.2)
 else
  ((qL (cI a0).1 (cI a0).2.1).1,(qL (cI a0).1 (cI a0).2.1).2))
theorem aX7 (a0:List (Int×Int))(l0:a0.length<=9223372036854775807):Con Tryz.prog 129 [(.s 0 0 a0.length 2)] [(.live false true (flat cQ a0))] (.t [(.a (k2 (kQ a0).1)),(iv (kQ a0).2)]) []:=by
 refine aJ Tryz.func129 (by kernel_rfl) fun cx hcx=>?_
 let t0:List (St Tryz.prog):=[.c [0] (aQf a0 (by omega))]
 cases h0:(((cI a0).2.2:Int) != 0) with
 | true =>
  have q0:=bne_iff_ne.1 h0
  have e:=Eq.refl (kQ a0);conv at e=>rhs;simp only [kQ,h0,aI]
  rw [e]
  exact rt (t0++[.d h0]) [] [] hcx (by kernel_rfl)
 | false =>
  have q0:=bne_eq_false_iff_eq.1 h0
  have e:=Eq.refl (kQ a0);conv at e=>rhs;simp only [kQ,h0,aI]
  rw [e]
  exact rt (t0++[.d h0,.c [] (C48 (cI a0).1 (cI a0).2.1)]) [] [] hcx (by kernel_rfl)
def iW (a0:List (Int×Int)):(Int×Int)×Int :=
 (bif (((cI a0).2.2:Int) != 0) then
  ((0,0),(cI a0).2.2)
 else
  (bif (((a0.length:Int):Int) == 0) then
   ((0,0),1)
  else
   ((qL (sF (cI a0).1 (a0.length:Int)) (aBy (cI a0).2.1 (a0.length:Int))).1,(qL (sF (cI a0).1 (a0.length:Int)) (aBy (cI a0).2.1 (a0.length:Int))).2)))
theorem bBb (a0:List (Int×Int))(l0:a0.length<=9223372036854775807):Con Tryz.prog 95 [(.s 0 0 a0.length 2)] [(.live false true (flat cQ a0))] (.t [(.a (k2 (iW a0).1)),(iv (iW a0).2)]) []:=by
 refine aJ Tryz.func95 (by kernel_rfl) fun cx hcx=>?_
 let t0:List (St Tryz.prog):=[.c [0] (aQf a0 (by omega))]
 cases h0:(((cI a0).2.2:Int) != 0) with
 | true =>
  have q0:=bne_iff_ne.1 h0
  have e:=Eq.refl (iW a0);conv at e=>rhs;simp only [iW,h0,aI]
  rw [e]
  exact rt (t0++[.d h0]) [] [] hcx (by kernel_rfl)
 | false =>
  have q0:=bne_eq_false_iff_eq.1 h0
  let t1:List (St Tryz.prog):=(t0++[.d h0])
  cases h1:(((a0.length:Int):Int) == 0) with
  | true =>
   have q1:=eq_of_beq h1
   have e:=Eq.refl (iW a0);conv at e=>rhs;simp only [iW,h0,h1,aI]
   rw [e]
   exact rt (t1++[.d h1]) [] [] hcx (by kernel_rfl)
  | false =>
   have q1:=ne_of_beq_false h1
   have e:=Eq.refl (iW a0);conv at e=>rhs;simp only [iW,h0,h1,aI]
   rw [e]
   exact rt (t1++[.d h1,.c [] (aX6 (cI a0).1 (a0.length:Int)  (by(try simp only [Lt]);omega)),.c [] (bA9 (cI a0).2.1 (a0.length:Int)  (by(try simp only [Lt]);omega)),.c [] (C48 (sF (cI a0).1 (a0.length:Int)) (aBy (cI a0).2.1 (a0.length:Int)))]) [] [] hcx (by kernel_rfl)
def kG (a0:(Int×Int)×(Int×Int)):Int :=
 (bif (!(pT a0.1)) then
  1
 else
  (bif (!(pT a0.2)) then
   1
  else
   0))
theorem aWx (a0:(Int×Int)×(Int×Int)):Con Tryz.prog 45 [(.s 0 0 2 2)] [(.live false false [(iv a0.1.1),(iv a0.1.2),(iv a0.2.1),(iv a0.2.2)])] (iv (kG a0)) []:=by
 refine aJ Tryz.func45 (by kernel_rfl) fun cx hcx=>?_
 let t0:List (St Tryz.prog):=[.u 200,.T,.i 0 2 (by decide),.c [] (C76 a0.1)]
 cases h0:(!(pT a0.1)) with
 | true =>
  have e:=Eq.refl (kG a0);conv at e=>rhs;simp only [kG,h0,aI]
  rw [e]
  exact rt (t0++[.d h0]) [] [] hcx (by kernel_rfl)
 | false =>
  let t1:List (St Tryz.prog):=(t0++[.d h0,.u 0,.T,.i 1 2 (by decide),.c [] (C76 a0.2)])
  cases h1:(!(pT a0.2)) with
  | true =>
   have e:=Eq.refl (kG a0);conv at e=>rhs;simp only [kG,h0,h1,aI]
   rw [e]
   exact rt (t1++[.d h1]) [] [] hcx (by kernel_rfl)
  | false =>
   have e:=Eq.refl (kG a0);conv at e=>rhs;simp only [kG,h0,h1,aI]
   rw [e]
   exact rt (t1++[.d h1,.u 0,.F]) [] [] hcx (by kernel_rfl)
def F42 (a0:Int×Int)(a1:Int×Int):(Int×Int)×Bool×Int :=
 (bif (((kG (a0,a1)):Int) != 0) then
  ((0,0),false,(kG (a0,a1)))
 else
  (bif (decide (((if(a0.1:Int) < a1.1 then a1.1 else a0.1):Int) > (if(a1.2:Int) < a0.2 then a1.2 else a0.2))) then
   ((0,0),false,0)
  else
   (((if(a0.1:Int) < a1.1 then a1.1 else a0.1),(if(a1.2:Int) < a0.2 then a1.2 else a0.2)),true,0)))
theorem C42 (a0:Int×Int)(a1:Int×Int):Con Tryz.prog 42 [(.a [(iv a0.1),(iv a0.2)]),(.a [(iv a1.1),(iv a1.2)])] [] (.t [(.a (k2 (F42 a0 a1).1)),(.v (.bool (F42 a0 a1).2.1)),(iv (F42 a0 a1).2.2)]) []:=by
 refine aJ Tryz.func42 (by kernel_rfl) fun cx hcx=>?_
 let t0:List (St Tryz.prog):=[.c [3] (aWx (a0,a1))]
 cases h0:(((kG (a0,a1)):Int) != 0) with
 | true =>
  have q0:=bne_iff_ne.1 h0
  have e:=Eq.refl (F42 a0 a1);conv at e=>rhs;simp only [F42,h0,aI]
  rw [e]
  exact rt (t0++[.d h0]) [] [] hcx (by kernel_rfl)
 | false =>
  have q0:=bne_eq_false_iff_eq.1 h0
  let t1:List (St Tryz.prog):=(t0++[.d h0])
  cases h1:(decide (((if(a0.1:Int) < a1.1 then a1.1 else a0.1):Int) > (if(a1.2:Int) < a0.2 then a1.2 else a0.2))) with
  | true =>
   have q1:=bO h1
   have e:=Eq.refl (F42 a0 a1);conv at e=>rhs;simp only [F42,h0,h1,aI]
   rw [e]
   exact rt (t1++[.d h1]) [] [] hcx (by kernel_rfl)
  | false =>
   have q1:=cA h1
   have e:=Eq.refl (F42 a0 a1);conv at e=>rhs;simp only [F42,h0,h1,aI]
   rw [e]
   exact rt (t1++[.d h1]) [] [] hcx (by kernel_rfl)
def pQ (a0:Int)(a1:Int):Int :=
 (bif ((a0:Int) != 0) then
  (bif ((a1:Int) != 0) then
   (bif (decide (((if(a1:Int) < (W (0 - a1)) then(W (0 - a1)) else a1):Int) > (W (Int.tdiv 1099511627776 (if(a0:Int) < (W (0 - a0)) then(W (0 - a0)) else a0))))) then
    (bif (!((decide ((a0:Int) < 0)) == (decide ((a1:Int) < 0)))) then
     (-1099511627777)
    else
     1099511627777)
   else
    (W (a0*a1)))
  else
   (W (a0*a1)))
 else
  (W (a0*a1)))
theorem C47 (a0:Int)(a1:Int)(ha:-1099511627776<=a0/\a0<=1099511627776):Con Tryz.prog 47 [(iv a0),(iv a1)] [] (iv (pQ a0 a1)) []:=by
 refine aJ Tryz.func47 (by kernel_rfl) fun cx hcx=>?_
 cases h0:((a0:Int) != 0) with
 | true =>
  have q0:=bne_iff_ne.1 h0
  let t1:List (St Tryz.prog):=[.d h0]
  cases h1:((a1:Int) != 0) with
  | true =>
   have q1:=bne_iff_ne.1 h1
   let t2:List (St Tryz.prog):=(t1++[.d h1,.p (show((if(a0:Int) < (W (0 - a0)) then(W (0 - a0)) else a0):Int)≠0 from by(have hw:=aE (n:=0 - a0) (by omega) (by omega);rw [hw];split<;>omega))])
   cases h2:(decide (((if(a1:Int) < (W (0 - a1)) then(W (0 - a1)) else a1):Int) > (W (Int.tdiv 1099511627776 (if(a0:Int) < (W (0 - a0)) then(W (0 - a0)) else a0))))) with
   | true =>
    have q2:=bO h2
    let t3:List (St Tryz.prog):=(t2++[.d h2])
    cases h3:(!((decide ((a0:Int) < 0)) == (decide ((a1:Int) < 0)))) with
    | true =>
     have e:=Eq.refl (pQ a0 a1);conv at e=>rhs;simp only [pQ,h0,h1,h2,h3,aI]
     rw [e]
     exact rt (t3++[.d h3]) [] [] hcx (by kernel_rfl)
    | false =>
     have e:=Eq.refl (pQ a0 a1);conv at e=>rhs;simp only [pQ,h0,h1,h2,h3,aI]
     rw [e]
     exact rt (t3++[.d h3]) [] [] hcx (by kernel_rfl)
   | false =>
    have q2:=cA h2
    have e:=Eq.refl (pQ a0 a1);conv at e=>rhs;simp only [pQ,h0,h1,h2,aI]
    rw [e]
    exact rt (t2++[.d h2]) [] [] hcx (by kernel_rfl)
  | false =>
   have q1:=bne_eq_false_iff_eq.1 h1
   have e:=Eq.refl (pQ a0 a1);conv at e=>rhs;simp only [pQ,h0,h1,aI]
   rw [e]
   exact rt (t1++[.d h1]) [] [] hcx (by kernel_rfl)
 | false =>
  have q0:=bne_eq_false_iff_eq.1 h0
  have e:=Eq.refl (pQ a0 a1);conv at e=>rhs;simp only [pQ,h0,aI]
  rw [e]
  exact rt [.d h0] [] [] hcx (by kernel_rfl)
def nW (a0:Int)(a1:Int)(a2:Int):Bool :=
 (bif (decide ((a0:Int)≥a1)) then
  (decide ((a0:Int)<=a2))
 else
  false)
theorem aUy (a0:Int)(a1:Int)(a2:Int):Con Tryz.prog 140 [(iv a0),(iv a1),(iv a2)] [] (.v (.bool (nW a0 a1 a2))) []:=by
 refine aJ Tryz.func140 (by kernel_rfl) fun cx hcx=>?_
 cases h0:(decide ((a0:Int)≥a1)) with
 | true =>
  have q0:=bO h0
  have e:=Eq.refl (nW a0 a1 a2);conv at e=>rhs;simp only [nW,h0,aI]
  rw [e]
  exact rt [.d h0] [] [] hcx (by kernel_rfl)
 | false =>
  have q0:=cA h0
  have e:=Eq.refl (nW a0 a1 a2);conv at e=>rhs;simp only [nW,h0,aI]
  rw [e]
  exact rt [.d h0] [] [] hcx (by kernel_rfl)
def F51 (a0:Int×Int):Bool :=
 (bif (decide ((a0.1:Int)≥(-1099511627776))) then
  (bif (decide ((a0.1:Int)<=a0.2)) then
   (decide ((a0.2:Int)<=1099511627776))
  else
   false)
 else
  false)
theorem C51 (a0:Int×Int):Con Tryz.prog 51 [(.a [(iv a0.1),(iv a0.2)])] [] (.v (.bool (F51 a0))) []:=by
 refine aJ Tryz.func51 (by kernel_rfl) fun cx hcx=>?_
 cases h0:(decide ((a0.1:Int)≥(-1099511627776))) with
 | true =>
  have q0:=bO h0
  let t1:List (St Tryz.prog):=[.d h0]
  cases h1:(decide ((a0.1:Int)<=a0.2)) with
  | true =>
   have q1:=bO h1
   have e:=Eq.refl (F51 a0);conv at e=>rhs;simp only [F51,h0,h1,aI]
   rw [e]
   exact rt (t1++[.d h1]) [] [] hcx (by kernel_rfl)
  | false =>
   have q1:=cA h1
   have e:=Eq.refl (F51 a0);conv at e=>rhs;simp only [F51,h0,h1,aI]
   rw [e]
   exact rt (t1++[.d h1]) [] [] hcx (by kernel_rfl)
 | false =>
  have q0:=cA h0
  have e:=Eq.refl (F51 a0);conv at e=>rhs;simp only [F51,h0,aI]
  rw [e]
  exact rt [.d h0] [] [] hcx (by kernel_rfl)
def c3 (x:Int):List SV:=[(iv x)]
theorem fX (x:Int):(c3 x).length=1:=rfl
def bZ (a0:Zt×Zt×Zt)(a1:Int):List (Int) :=
 (bif ((a1:Int) == 0) then
  ([a0.1.1,a0.2.1.1,a0.2.2.1]:List (Int))
 else
  (bif ((a1:Int) == 1) then
   ([a0.1.2.1,a0.2.1.2.1,a0.2.2.2.1]:List (Int))
  else
   ([a0.1.2.2,a0.2.1.2.2,a0.2.2.2.2]:List (Int))))
theorem xH (a0:Zt×Zt×Zt)(a1:Int):Con Tryz.prog 173 [(.s 0 0 3 3),(iv a1)] [(.live false false (k9 a0))] (.s 1 0 (bZ a0 a1).length 1) [(.live true true (flat c3 (bZ a0 a1)))]:=by
 refine aJ Tryz.func173 (by kernel_rfl) fun cx hcx=>?_
 let t0:List (St Tryz.prog):=[.u 200,.T]
 cases h0:((a1:Int) == 0) with
 | true =>
  have q0:=eq_of_beq h0
  have e:=Eq.refl (bZ a0 a1);conv at e=>rhs;simp only [bZ,h0,aI]
  rw [e]
  exact rt (t0++[.d h0,.i 0 3 (by decide),.u 0,.T,.d h0,.i 1 3 (by decide),.u 0,.T,.d h0,.i 2 3 (by decide),.u 0,.F]) [.sym 6 true] [6] hcx (by kernel_rfl)
 | false =>
  have q0:=ne_of_beq_false h0
  let t1:List (St Tryz.prog):=(t0++[.d h0])
  cases h1:((a1:Int) == 1) with
  | true =>
   have q1:=eq_of_beq h1
   have e:=Eq.refl (bZ a0 a1);conv at e=>rhs;simp only [bZ,h0,h1,aI]
   rw [e]
   exact rt (t1++[.d h1,.i 0 3 (by decide),.u 0,.T,.d h0,.d h1,.i 1 3 (by decide),.u 0,.T,.d h0,.d h1,.i 2 3 (by decide),.u 0,.F]) [.sym 6 true] [6] hcx (by kernel_rfl)
  | false =>
   have q1:=ne_of_beq_false h1
   have e:=Eq.refl (bZ a0 a1);conv at e=>rhs;simp only [bZ,h0,h1,aI]
   rw [e]
   exact rt (t1++[.d h1,.i 0 3 (by decide),.u 0,.T,.d h0,.d h1,.i 1 3 (by decide),.u 0,.T,.d h0,.d h1,.i 2 3 (by decide),.u 0,.F]) [.sym 6 true] [6] hcx (by kernel_rfl)
def aQg (a0:Zt)(a1:Int):List (Int) :=
 (bif ((a1:Int) == 0) then
  ([a0.1]:List (Int))
 else
  (bif ((a1:Int) == 1) then
   ([a0.2.1]:List (Int))
  else
   ([a0.2.2]:List (Int))))
theorem aX8 {a b c:Int} (h:(!(nW a b c))=false)(hb:1<=b:=by omega):a≠0:=by
 unfold nW at h
 cases h1:decide ((a:Int)≥b) with
 | true=>have:=bO h1;omega
 | false=>simp [h1] at h
theorem kH (a:Zt×Zt×Zt)(k:Int):(bZ a k).length=3:=by
 unfold bZ
 cases ((k:Int) == 0)<;>cases ((k:Int) == 1)<;>rfl
theorem kI (a:Zt)(k:Int):(aQg a k).length=1:=by
 unfold aQg
 cases ((k:Int) == 0)<;>cases ((k:Int) == 1)<;>rfl
noncomputable def aFw:Code:=(aD [1,1,0] [] (aG Tryz.f174) []).1
noncomputable def aFx:List K:=(aD [1,1,0] [] (aG Tryz.f174) []).2
def aAh (a0:Int)(v2 v3:Int):LS:=⟨iH 23 [(0,(iv a0)),(3,(iv v2)),(4,(iv v3))],[]⟩
def nE (a0:Int):Int×Int->(Int×Int)⊕(Int)
 | (v2,v3) =>
  (bif (decide ((v2:Int) < v3)) then
   (bif (decide (((W ((W (Int.tdiv (W ((W (v2+v3))+1)) 2))*(W (Int.tdiv (W ((W (v2+v3))+1)) 2)))):Int)<=a0)) then
    (.inl ((W (Int.tdiv (W ((W (v2+v3))+1)) 2)),v3))
   else
    (.inl (v2,(W ((W (Int.tdiv (W ((W (v2+v3))+1)) 2)) - 1)))))
  else
   (.inr v2))
theorem aX9 (a0:Int) {cx:Cx} (hcx:cx.base=0):∀(n:Nat)(v2 v3:Int),(0<=v2)/\(0<=v2)/\(v2<=v3)/\(v3<=2147483648)->toNat (v3 - v2) < n->Aw.Good Tryz.prog none 9 (bodyPost Tryz.prog Tryz.f174 (RR cx (iv (aB (nE a0) n (v2,v3))) [] [])) cx [] (.l aFw n::aFx) (aAh a0 v2 v3):=by
 intro n
 induction n with
 | zero=>intro v2 v3 hi hn;exact absurd hn (gP _)
 | succ n ih =>
   intro v2 v3 hi hn
   refine aH ?_
   have hw:=aFo (a:=v2) (b:=v3) (by omega)
   have hw2:=aMz (a:=v2) (b:=v3) (by omega)
   cases h0:(decide ((v2:Int) < v3)) with
   | true =>
    have q0:=bO h0
    let t1:List (St Tryz.prog):=[.d h0,.p (show(2:Int)≠0 from by decide)]
    cases h1:(decide (((W ((W (Int.tdiv (W ((W (v2+v3))+1)) 2))*(W (Int.tdiv (W ((W (v2+v3))+1)) 2)))):Int)<=a0)) with
    | true =>
     have q1:=bO h1
     have e:=Eq.refl (nE a0 (v2,v3));conv at e=>rhs;simp only [nE,h0,h1,aI]
     rw [aA e]
     refine ba (t1++[.d h1]) [] [0,3,4] [] hcx (m:=n) aFw (aFx) (aAh a0 (W (Int.tdiv (W ((W (v2+v3))+1)) 2)) v3) (by kernel_rfl) ?_
     exact ih (W (Int.tdiv (W ((W (v2+v3))+1)) 2)) v3 (by refine⟨?_,?_,?_,?_⟩<;>(try simp only [Ls])<;>first | omega | assumption | simp) (by(try simp only [Ls]);omega)
    | false =>
     have q1:=cA h1
     have e:=Eq.refl (nE a0 (v2,v3));conv at e=>rhs;simp only [nE,h0,h1,aI]
     rw [aA e]
     refine ba (t1++[.d h1]) [] [0,3,4] [] hcx (m:=n) aFw (aFx) (aAh a0 v2 (W ((W (Int.tdiv (W ((W (v2+v3))+1)) 2)) - 1))) (by kernel_rfl) ?_
     exact ih v2 (W ((W (Int.tdiv (W ((W (v2+v3))+1)) 2)) - 1)) (by refine⟨?_,?_,?_,?_⟩<;>(try simp only [Ls])<;>first | omega | assumption | simp) (by(try simp only [Ls]);omega)
   | false =>
    have q0:=cA h0
    have e:=Eq.refl (nE a0 (v2,v3));conv at e=>rhs;simp only [nE,h0,aI]
    rw [aC,e]
    exact rt [.d h0] [] [] hcx (by kernel_rfl)
def iX (a0:Int):Int :=
 (aB (nE a0) (toNat (2147483648 - 0)+1) (0,2147483648))
theorem bBc (a0:Int):Con Tryz.prog 174 [(iv a0)] [] (iv (iX a0)) []:=by
 refine aJ Tryz.func174 (by kernel_rfl) fun cx hcx=>?_
 have e:=Eq.refl (iX a0);conv at e=>rhs;simp only [iX]
 rw [e]
 refine en [] [] [0,3,4] [] hcx aFw (aFx) (aAh a0 0 2147483648) (toNat (2147483648 - 0)+1) (by kernel_rfl) ?_
 exact aX9 a0 hcx (toNat (2147483648 - 0)+1) 0 2147483648 (by refine⟨?_,?_,?_,?_⟩<;>(try simp only [Ls])<;>first | omega | assumption | simp) (by(try simp only [Ls]);omega)
def iY (a0:Int)(a1:Int):(Int×Int)×Int :=
 (bif (!(F51 (a0,a1))) then
  ((0,0),4)
 else
  ((a0,a1),0))
theorem aDy (a0:Int)(a1:Int):Con Tryz.prog 142 [(iv a0),(iv a1)] [] (.t [(.a (k2 (iY a0 a1).1)),(iv (iY a0 a1).2)]) []:=by
 refine aJ Tryz.func142 (by kernel_rfl) fun cx hcx=>?_
 let t0:List (St Tryz.prog):=[.c [] (C51 (a0,a1))]
 cases h0:(!(F51 (a0,a1))) with
 | true =>
  have e:=Eq.refl (iY a0 a1);conv at e=>rhs;simp only [iY,h0,aI]
  rw [e]
  exact rt (t0++[.d h0]) [] [] hcx (by kernel_rfl)
 | false =>
  have e:=Eq.refl (iY a0 a1);conv at e=>rhs;simp only [iY,h0,aI]
  rw [e]
  exact rt (t0++[.d h0]) [] [] hcx (by kernel_rfl)
def zX (a0:Int)(a1:Int):(Int×Int)×Int :=
 (bif (((Int.tmod a0 a1):Int) == 0) then
  (bif (((W ((iX (W (Int.tdiv a0 a1)))*(iX (W (Int.tdiv a0 a1))))):Int) == (W (Int.tdiv a0 a1))) then
   ((iY (iX (W (Int.tdiv a0 a1))) (iX (W (Int.tdiv a0 a1)))).1,(iY (iX (W (Int.tdiv a0 a1))) (iX (W (Int.tdiv a0 a1)))).2)
  else
   ((iY (iX (W (Int.tdiv a0 a1))) (W ((iX (W (Int.tdiv a0 a1)))+1))).1,(iY (iX (W (Int.tdiv a0 a1))) (W ((iX (W (Int.tdiv a0 a1)))+1))).2))
 else
  ((iY (iX (W (Int.tdiv a0 a1))) (W ((iX (W (Int.tdiv a0 a1)))+1))).1,(iY (iX (W (Int.tdiv a0 a1))) (W ((iX (W (Int.tdiv a0 a1)))+1))).2))
theorem bFa (a0:Int)(a1:Int)(ha:a1≠0):Con Tryz.prog 171 [(iv a0),(iv a1)] [] (.t [(.a (k2 (zX a0 a1).1)),(iv (zX a0 a1).2)]) []:=by
 refine aJ Tryz.func171 (by kernel_rfl) fun cx hcx=>?_
 let t0:List (St Tryz.prog):=[.p (show(a1:Int)≠0 from by first | omega | (rw [aE]<;>omega) | exact eE _),.c [] (bBc (W (Int.tdiv a0 a1))),.p (show(a1:Int)≠0 from by first | omega | (rw [aE]<;>omega) | exact eE _)]
 cases h0:(((Int.tmod a0 a1):Int) == 0) with
 | true =>
  have q0:=eq_of_beq h0
  let t1:List (St Tryz.prog):=(t0++[.d h0,.p (show(a1:Int)≠0 from by first | omega | (rw [aE]<;>omega) | exact eE _)])
  cases h1:(((W ((iX (W (Int.tdiv a0 a1)))*(iX (W (Int.tdiv a0 a1))))):Int) == (W (Int.tdiv a0 a1))) with
  | true =>
   have q1:=eq_of_beq h1
   have e:=Eq.refl (zX a0 a1);conv at e=>rhs;simp only [zX,h0,h1,aI]
   rw [e]
   exact rt (t1++[.d h1,.c [] (aDy (iX (W (Int.tdiv a0 a1))) (iX (W (Int.tdiv a0 a1))))]) [] [] hcx (by kernel_rfl)
  | false =>
   have q1:=ne_of_beq_false h1
   have e:=Eq.refl (zX a0 a1);conv at e=>rhs;simp only [zX,h0,h1,aI]
   rw [e]
   exact rt (t1++[.d h1,.c [] (aDy (iX (W (Int.tdiv a0 a1))) (W ((iX (W (Int.tdiv a0 a1)))+1)))]) [] [] hcx (by kernel_rfl)
 | false =>
  have q0:=ne_of_beq_false h0
  have e:=Eq.refl (zX a0 a1);conv at e=>rhs;simp only [zX,h0,aI]
  rw [e]
  exact rt (t0++[.d h0,.c [] (aDy (iX (W (Int.tdiv a0 a1))) (W ((iX (W (Int.tdiv a0 a1)))+1)))]) [] [] hcx (by kernel_rfl)
def mK (a0:Int)(a1:Int):(Int×Int)×Int :=
 (bif (!(nW a0 1 1099511627776)) then
  ((0,0),1)
 else
  (bif (!(nW a1 1 8)) then
   ((0,0),1)
  else
   ((zX (W ((W ((W (1048576*a1))*1048576))*a1)) a0).1,(zX (W ((W ((W (1048576*a1))*1048576))*a1)) a0).2)))
theorem bBd (a0:Int)(a1:Int):Con Tryz.prog 163 [(iv a0),(iv a1)] [] (.t [(.a (k2 (mK a0 a1).1)),(iv (mK a0 a1).2)]) []:=by
 refine aJ Tryz.func163 (by kernel_rfl) fun cx hcx=>?_
 let t0:List (St Tryz.prog):=[.c [] (aUy a0 1 1099511627776)]
 cases h0:(!(nW a0 1 1099511627776)) with
 | true =>
  have e:=Eq.refl (mK a0 a1);conv at e=>rhs;simp only [mK,h0,aI]
  rw [e]
  exact rt (t0++[.d h0]) [] [] hcx (by kernel_rfl)
 | false =>
  let t1:List (St Tryz.prog):=(t0++[.d h0,.c [] (aUy a1 1 8)])
  cases h1:(!(nW a1 1 8)) with
  | true =>
   have e:=Eq.refl (mK a0 a1);conv at e=>rhs;simp only [mK,h0,h1,aI]
   rw [e]
   exact rt (t1++[.d h1]) [] [] hcx (by kernel_rfl)
  | false =>
   have e:=Eq.refl (mK a0 a1);conv at e=>rhs;simp only [mK,h0,h1,aI]
   rw [e]
   exact rt (t1++[.d h1,.c [] (bFa (W ((W ((W (1048576*a1))*1048576))*a1)) a0  (aX8 h0))]) [] [] hcx (by kernel_rfl)
def sG (a0:Int):Int :=
 (iX a0)
theorem bFb (a0:Int):Con Tryz.prog 170 [(iv a0)] [] (iv (sG a0)) []:=by
 refine aJ Tryz.func170 (by kernel_rfl) fun cx hcx=>?_
 have e:=Eq.refl (sG a0);conv at e=>rhs;simp only [sG]
 rw [e]
 exact rt [.c [] (bBc a0)] [] [] hcx (by kernel_rfl)
def aT (a0:Zt)(a1:Zt):Zt :=
 ((W (a0.1 - a1.1)),(W (a0.2.1 - a1.2.1)),(W (a0.2.2 - a1.2.2)))
theorem aFy (a0:Zt)(a1:Zt):Con Tryz.prog 105 [(.a (k3 a0)),(.a (k3 a1))] [] (.a (k3 (aT a0 a1))) []:=by
 refine aJ Tryz.func105 (by kernel_rfl) fun cx hcx=>?_
 have e:=Eq.refl (aT a0 a1);conv at e=>rhs;simp only [aT]
 rw [e]
 exact rt [] [] [] hcx (by kernel_rfl)
def aFz (a0:Zt)(a1:Zt):Zt :=
 ((W ((W (a0.2.1*a1.2.2)) - (W (a0.2.2*a1.2.1)))),(W ((W (a0.2.2*a1.1)) - (W (a0.1*a1.2.2)))),(W ((W (a0.1*a1.2.1)) - (W (a0.2.1*a1.1)))))
theorem bBe (a0:Zt)(a1:Zt):Con Tryz.prog 104 [(.a (k3 a0)),(.a (k3 a1))] [] (.a (k3 (aFz a0 a1))) []:=by
 refine aJ Tryz.func104 (by kernel_rfl) fun cx hcx=>?_
 have e:=Eq.refl (aFz a0 a1);conv at e=>rhs;simp only [aFz]
 rw [e]
 exact rt [] [] [] hcx (by kernel_rfl)
def lK (a0:Zt×Zt×Zt):Zt :=
 (aFz (aT a0.2.1 a0.1) (aT a0.2.2 a0.1))
theorem C80 (a0:Zt×Zt×Zt):Con Tryz.prog 80 [(.a (k9 a0))] [] (.a (k3 (lK a0))) []:=by
 refine aJ Tryz.func80 (by kernel_rfl) fun cx hcx=>?_
 have e:=Eq.refl (lK a0);conv at e=>rhs;simp only [lK]
 rw [e]
 exact rt [.c [] (aFy a0.2.1 a0.1),.c [] (aFy a0.2.2 a0.1),.c [] (bBe (aT a0.2.1 a0.1) (aT a0.2.2 a0.1))] [] [] hcx (by kernel_rfl)
def cE (a0:Zt)(a1:Zt):Int :=
 (W ((W ((W (a0.1*a1.1))+(W (a0.2.1*a1.2.1))))+(W (a0.2.2*a1.2.2))))
theorem aF0 (a0:Zt)(a1:Zt):Con Tryz.prog 106 [(.a (k3 a0)),(.a (k3 a1))] [] (iv (cE a0 a1)) []:=by
 refine aJ Tryz.func106 (by kernel_rfl) fun cx hcx=>?_
 have e:=Eq.refl (cE a0 a1);conv at e=>rhs;simp only [cE]
 rw [e]
 exact rt [] [] [] hcx (by kernel_rfl)
def F78 (a0:Int)(a1:Int)(a2:Int):Bool :=
 (bif (decide ((a0:Int)≥a1)) then
  (decide ((a0:Int)<=a2))
 else
  false)
theorem C78 (a0:Int)(a1:Int)(a2:Int):Con Tryz.prog 78 [(iv a0),(iv a1),(iv a2)] [] (.v (.bool (F78 a0 a1 a2))) []:=by
 refine aJ Tryz.func78 (by kernel_rfl) fun cx hcx=>?_
 cases h0:(decide ((a0:Int)≥a1)) with
 | true =>
  have q0:=bO h0
  have e:=Eq.refl (F78 a0 a1 a2);conv at e=>rhs;simp only [F78,h0,aI]
  rw [e]
  exact rt [.d h0] [] [] hcx (by kernel_rfl)
 | false =>
  have q0:=cA h0
  have e:=Eq.refl (F78 a0 a1 a2);conv at e=>rhs;simp only [F78,h0,aI]
  rw [e]
  exact rt [.d h0] [] [] hcx (by kernel_rfl)
def F79 (a0:Zt)(a1:Int):Bool :=
 (bif (F78 a0.1 (W (0 - a1)) a1) then
  (bif (F78 a0.2.1 (W (0 - a1)) a1) then
   (F78 a0.2.2 (W (0 - a1)) a1)
  else
   false)
 else
  false)
theorem C79 (a0:Zt)(a1:Int):Con Tryz.prog 79 [(.a (k3 a0)),(iv a1)] [] (.v (.bool (F79 a0 a1))) []:=by
 refine aJ Tryz.func79 (by kernel_rfl) fun cx hcx=>?_
 let t0:List (St Tryz.prog):=[.c [] (C78 a0.1 (W (0 - a1)) a1)]
 cases h0:(F78 a0.1 (W (0 - a1)) a1) with
 | true =>
  let t1:List (St Tryz.prog):=(t0++[.d h0,.c [] (C78 a0.2.1 (W (0 - a1)) a1)])
  cases h1:(F78 a0.2.1 (W (0 - a1)) a1) with
  | true =>
   have e:=Eq.refl (F79 a0 a1);conv at e=>rhs;simp only [F79,h0,h1,aI]
   rw [e]
   exact rt (t1++[.d h1,.c [] (C78 a0.2.2 (W (0 - a1)) a1)]) [] [] hcx (by kernel_rfl)
  | false =>
   have e:=Eq.refl (F79 a0 a1);conv at e=>rhs;simp only [F79,h0,h1,aI]
   rw [e]
   exact rt (t1++[.d h1]) [] [] hcx (by kernel_rfl)
 | false =>
  have e:=Eq.refl (F79 a0 a1);conv at e=>rhs;simp only [F79,h0,aI]
  rw [e]
  exact rt (t0++[.d h0]) [] [] hcx (by kernel_rfl)
def nX (a0:Zt×Zt×Zt):Int :=
 (bif (!(F79 a0.1 64)) then
  1
 else
  (bif (!(F79 a0.2.1 64)) then
   1
  else
   (bif (!(F79 a0.2.2 64)) then
    1
   else
    (bif ((((lK a0).1:Int) == 0)&&((((lK a0).2.1:Int) == 0)&&((((lK a0).2.2:Int) == 0)&&true))) then
     6
    else
     0))))
theorem bBf (a0:Zt×Zt×Zt):Con Tryz.prog 160 [(.a (k9 a0))] [] (iv (nX a0)) []:=by
 refine aJ Tryz.func160 (by kernel_rfl) fun cx hcx=>?_
 let t0:List (St Tryz.prog):=[.c [] (C79 a0.1 64)]
 cases h0:(!(F79 a0.1 64)) with
 | true =>
  have e:=Eq.refl (nX a0);conv at e=>rhs;simp only [nX,h0,aI]
  rw [e]
  exact rt (t0++[.d h0]) [] [] hcx (by kernel_rfl)
 | false =>
  let t1:List (St Tryz.prog):=(t0++[.d h0,.c [] (C79 a0.2.1 64)])
  cases h1:(!(F79 a0.2.1 64)) with
  | true =>
   have e:=Eq.refl (nX a0);conv at e=>rhs;simp only [nX,h0,h1,aI]
   rw [e]
   exact rt (t1++[.d h1]) [] [] hcx (by kernel_rfl)
  | false =>
   let t2:List (St Tryz.prog):=(t1++[.d h1,.c [] (C79 a0.2.2 64)])
   cases h2:(!(F79 a0.2.2 64)) with
   | true =>
    have e:=Eq.refl (nX a0);conv at e=>rhs;simp only [nX,h0,h1,h2,aI]
    rw [e]
    exact rt (t2++[.d h2]) [] [] hcx (by kernel_rfl)
   | false =>
    let t3:List (St Tryz.prog):=(t2++[.d h2,.c [] (C80 a0)])
    cases h3:((((lK a0).1:Int) == 0)&&((((lK a0).2.1:Int) == 0)&&((((lK a0).2.2:Int) == 0)&&true))) with
    | true =>
     have e:=Eq.refl (nX a0);conv at e=>rhs;simp only [nX,h0,h1,h2,h3,aI]
     rw [e]
     exact rt (t3++[.d h3]) [] [] hcx (by kernel_rfl)
    | false =>
     have e:=Eq.refl (nX a0);conv at e=>rhs;simp only [nX,h0,h1,h2,h3,aI]
     rw [e]
     exact rt (t3++[.d h3]) [] [] hcx (by kernel_rfl)
def aF1 (a0:Int)(a1:Int)(a2:Int):Bool :=
 (bif (decide ((a0:Int)≥a1)) then
  (decide ((a0:Int)<=a2))
 else
  false)
theorem bFc (a0:Int)(a1:Int)(a2:Int):Con Tryz.prog 161 [(iv a0),(iv a1),(iv a2)] [] (.v (.bool (aF1 a0 a1 a2))) []:=by
 refine aJ Tryz.func161 (by kernel_rfl) fun cx hcx=>?_
 cases h0:(decide ((a0:Int)≥a1)) with
 | true =>
  have q0:=bO h0
  have e:=Eq.refl (aF1 a0 a1 a2);conv at e=>rhs;simp only [aF1,h0,aI]
  rw [e]
  exact rt [.d h0] [] [] hcx (by kernel_rfl)
 | false =>
  have q0:=cA h0
  have e:=Eq.refl (aF1 a0 a1 a2);conv at e=>rhs;simp only [aF1,h0,aI]
  rw [e]
  exact rt [.d h0] [] [] hcx (by kernel_rfl)
def mL (a0:Zt×Zt×Zt)(a1:Zt×Zt×Zt)(a2:Int):Int :=
 (bif (((nX a0):Int) != 0) then
  (nX a0)
 else
  (bif (((nX a1):Int) != 0) then
   (nX a1)
  else
   (bif (!(aF1 a2 0 2)) then
    1
   else
    0)))
theorem bBg (a0:Zt×Zt×Zt)(a1:Zt×Zt×Zt)(a2:Int):Con Tryz.prog 152 [(.a (k9 a0)),(.a (k9 a1)),(iv a2)] [] (iv (mL a0 a1 a2)) []:=by
 refine aJ Tryz.func152 (by kernel_rfl) fun cx hcx=>?_
 let t0:List (St Tryz.prog):=[.c [] (bBf a0)]
 cases h0:(((nX a0):Int) != 0) with
 | true =>
  have q0:=bne_iff_ne.1 h0
  have e:=Eq.refl (mL a0 a1 a2);conv at e=>rhs;simp only [mL,h0,aI]
  rw [e]
  exact rt (t0++[.d h0]) [] [] hcx (by kernel_rfl)
 | false =>
  have q0:=bne_eq_false_iff_eq.1 h0
  let t1:List (St Tryz.prog):=(t0++[.d h0,.c [] (bBf a1)])
  cases h1:(((nX a1):Int) != 0) with
  | true =>
   have q1:=bne_iff_ne.1 h1
   have e:=Eq.refl (mL a0 a1 a2);conv at e=>rhs;simp only [mL,h0,h1,aI]
   rw [e]
   exact rt (t1++[.d h1]) [] [] hcx (by kernel_rfl)
  | false =>
   have q1:=bne_eq_false_iff_eq.1 h1
   let t2:List (St Tryz.prog):=(t1++[.d h1,.c [] (bFc a2 0 2)])
   cases h2:(!(aF1 a2 0 2)) with
   | true =>
    have e:=Eq.refl (mL a0 a1 a2);conv at e=>rhs;simp only [mL,h0,h1,h2,aI]
    rw [e]
    exact rt (t2++[.d h2]) [] [] hcx (by kernel_rfl)
   | false =>
    have e:=Eq.refl (mL a0 a1 a2);conv at e=>rhs;simp only [mL,h0,h1,h2,aI]
    rw [e]
    exact rt (t2++[.d h2]) [] [] hcx (by kernel_rfl)
def dM (x:Zt×Zt×Zt):List SV:=[(iv x.1.1),(iv x.1.2.1),(iv x.1.2.2),(iv x.2.1.1),(iv x.2.1.2.1),(iv x.2.1.2.2),(iv x.2.2.1),(iv x.2.2.2.1),(iv x.2.2.2.2)]
theorem cW (x:Zt×Zt×Zt):(dM x).length=9:=rfl
def aF (a0:Zt)(a1:Int):Zt :=
 ((W (a1*a0.1)),(W (a1*a0.2.1)),(W (a1*a0.2.2)))
theorem aOr (a0:Zt)(a1:Int):Con Tryz.prog 154 [(.a (k3 a0)),(iv a1)] [] (.a (k3 (aF a0 a1))) []:=by
 refine aJ Tryz.func154 (by kernel_rfl) fun cx hcx=>?_
 have e:=Eq.refl (aF a0 a1);conv at e=>rhs;simp only [aF]
 rw [e]
 exact rt [] [] [] hcx (by kernel_rfl)
def aQ (a0:Zt)(a1:Zt):Zt :=
 ((W (Int.tdiv (W (a0.1+a1.1)) 2)),(W (Int.tdiv (W (a0.2.1+a1.2.1)) 2)),(W (Int.tdiv (W (a0.2.2+a1.2.2)) 2)))
theorem aYa (a0:Zt)(a1:Zt):Con Tryz.prog 169 [(.a (k3 a0)),(.a (k3 a1))] [] (.a (k3 (aQ a0 a1))) []:=by
 refine aJ Tryz.func169 (by kernel_rfl) fun cx hcx=>?_
 have e:=Eq.refl (aQ a0 a1);conv at e=>rhs;simp only [aQ]
 rw [e]
 exact rt [.p (show(2:Int)≠0 from by decide),.p (show(2:Int)≠0 from by decide),.p (show(2:Int)≠0 from by decide)] [] [] hcx (by kernel_rfl)
noncomputable def aKm:Code:=(aD [1,1,0,1,0,1,0,1,0,1] [0] (aG Tryz.f157) []).1
noncomputable def aKn (m0:Nat):List K:=(aD [1,1,0,1,0,1,0,1,0,1] [m0] (aG Tryz.f157) []).2
def aF2 (a0:Zt×Zt×Zt)(a1:Int)(v13c:List SV)(v13n:Nat)(v14c:List SV)(v14n:Nat)(v15 v16:Int):LS:=⟨iH 76 [(1,(iv a1)),(5,(.s 0 0 v13n 9)),(6,(iv v15)),(7,(.s 1 0 v14n 9)),(8,(iv v16))],[(.live true true v13c),(.live true true v14c)]⟩
def kR (a0:Zt×Zt×Zt)(a1:Int):(List (Zt×Zt×Zt))×(List (Zt×Zt×Zt))×Int×Int->((List (Zt×Zt×Zt))×(List (Zt×Zt×Zt))×Int×Int)⊕(((List (Zt×Zt×Zt))×Int)⊕(List (Zt×Zt×Zt)))
 | (v13,v14,v15,v16) =>
  (bif (decide ((v16:Int) < (v13.length:Int))) then
   (.inl (v13,(v14++[((aF (v13.getD (toNat v16) default).1 2),(aQ (aF (v13.getD (toNat v16) default).1 2) (aF (v13.getD (toNat v16) default).2.1 2)),(aQ (aF (v13.getD (toNat v16) default).2.2 2) (aF (v13.getD (toNat v16) default).1 2))),((aQ (aF (v13.getD (toNat v16) default).1 2) (aF (v13.getD (toNat v16) default).2.1 2)),(aF (v13.getD (toNat v16) default).2.1 2),(aQ (aF (v13.getD (toNat v16) default).2.1 2) (aF (v13.getD (toNat v16) default).2.2 2))),((aQ (aF (v13.getD (toNat v16) default).2.2 2) (aF (v13.getD (toNat v16) default).1 2)),(aQ (aF (v13.getD (toNat v16) default).2.1 2) (aF (v13.getD (toNat v16) default).2.2 2)),(aF (v13.getD (toNat v16) default).2.2 2)),((aQ (aF (v13.getD (toNat v16) default).1 2) (aF (v13.getD (toNat v16) default).2.1 2)),(aQ (aF (v13.getD (toNat v16) default).2.1 2) (aF (v13.getD (toNat v16) default).2.2 2)),(aQ (aF (v13.getD (toNat v16) default).2.2 2) (aF (v13.getD (toNat v16) default).1 2)))]),v15,(v16+1)))
  else
   (.inr (.inl (v14,(v15+1)))))
noncomputable def aF3:Code:=(aD [1,1,0,1] [] (aG Tryz.f157) []).1
noncomputable def aF4:List K:=(aD [1,1,0,1] [] (aG Tryz.f157) []).2
def aAi (a0:Zt×Zt×Zt)(a1:Int)(v11c:List SV)(v11n:Nat)(v12:Int):LS:=⟨iH 76 [(1,(iv a1)),(5,(.s 0 0 v11n 9)),(6,(iv v12))],[(.live true true v11c)]⟩
def gN (a0:Zt×Zt×Zt)(a1:Int):(List (Zt×Zt×Zt))×Int->((List (Zt×Zt×Zt))×Int)⊕(List (Zt×Zt×Zt))
 | (v11,v12) =>
  (bif (decide ((v12:Int) < a1)) then
   (aB (kR a0 a1) (toNat ((v11.length:Int) - 0)+1) (v11,([]:List (Zt×Zt×Zt)),v12,0))
  else
   (.inr v11))
theorem aYb (a0:Zt×Zt×Zt)(a1:Int)(ha:0<=a1/\a1<=3) {cx:Cx} (hcx:cx.base=0)
   (n0:Nat) (g0:∀(v11:List (Zt×Zt×Zt)) (v12:Int),(0<=v12)/\(v12=0/\v11.length<=1\/v12=1/\v11.length<=4\/v12=2/\v11.length<=16\/3<=v12/\v11.length<=64)->toNat (a1 - v12) < n0->Aw.Good Tryz.prog none 9 (bodyPost Tryz.prog Tryz.f157 (RR cx (.s 0 0 (aB (gN a0 a1) n0 (v11,v12)).length 9) [(.live true true (flat dM (aB (gN a0 a1) n0 (v11,v12))))] [])) cx [] (.l aF3 n0::aF4) (aAi a0 a1 (flat dM v11) v11.length v12)):∀(n:Nat) (v13:List (Zt×Zt×Zt)) (v14:List (Zt×Zt×Zt)) (v15 v16:Int),(0<=v16)/\(v14.length=4*toNat v16)/\(v16<=v13.length)/\((0<=v15))/\((v15=0/\v13.length<=1\/v15=1/\v13.length<=4\/v15=2/\v13.length<=16\/3<=v15/\v13.length<=64))/\(v15 < a1)/\(toNat (a1 - v15) < n0+1)->toNat ((v13.length:Int) - v16) < n->Aw.Good Tryz.prog none 9 (bodyPost Tryz.prog Tryz.f157 (RR cx (.s 0 0 (jE (gN a0 a1) n0 (aB (kR a0 a1) n (v13,v14,v15,v16))).length 9) [(.live true true (flat dM (jE (gN a0 a1) n0 (aB (kR a0 a1) n (v13,v14,v15,v16)))))] [])) cx [] (.l aKm n::aKn n0) (aF2 a0 a1 (flat dM v13) v13.length (flat dM v14) v14.length v15 v16):=by
 intro n
 induction n with
 | zero=>intro v13 v14 v15 v16 hi hn;exact absurd hn (gP _)
 | succ n ih =>
   intro v13 v14 v15 v16 hi hn
   refine aH ?_
   cases h0:(decide ((v16:Int) < (v13.length:Int))) with
   | true =>
    have q0:=bO h0
    have e:=Eq.refl (kR a0 a1 (v13,v14,v15,v16));conv at e=>rhs;simp only [kR,h0,aI]
    rw [aA e]
    refine ba [.d h0,.i v16 (v13.length),.L cW v13 v16 0 3,.c [] (aOr (v13.getD (toNat v16) default).1 2),.i v16 (v13.length),.L cW v13 v16 3 3,.c [] (aOr (v13.getD (toNat v16) default).2.1 2),.i v16 (v13.length),.L cW v13 v16 6 3,.c [] (aOr (v13.getD (toNat v16) default).2.2 2),.c [] (aYa (aF (v13.getD (toNat v16) default).1 2) (aF (v13.getD (toNat v16) default).2.1 2)),.c [] (aYa (aF (v13.getD (toNat v16) default).2.1 2) (aF (v13.getD (toNat v16) default).2.2 2)),.c [] (aYa (aF (v13.getD (toNat v16) default).2.2 2) (aF (v13.getD (toNat v16) default).1 2)),.p (show((flat dM v14).length=v14.length*9/\v14.length+4<=2 ^ 40/\(v14.length+4)*72<=2 ^ 47) from gL cW (by omega) (by omega))] [] [1,5,6,7,8] [0,9] hcx (m:=n) aKm (aKn n0) (aF2 a0 a1 (flat dM v13) (v13.length) (flat dM v14++[(iv (aF (v13.getD (toNat v16) default).1 2).1),(iv (aF (v13.getD (toNat v16) default).1 2).2.1),(iv (aF (v13.getD (toNat v16) default).1 2).2.2),(iv (aQ (aF (v13.getD (toNat v16) default).1 2) (aF (v13.getD (toNat v16) default).2.1 2)).1),(iv (aQ (aF (v13.getD (toNat v16) default).1 2) (aF (v13.getD (toNat v16) default).2.1 2)).2.1),(iv (aQ (aF (v13.getD (toNat v16) default).1 2) (aF (v13.getD (toNat v16) default).2.1 2)).2.2),(iv (aQ (aF (v13.getD (toNat v16) default).2.2 2) (aF (v13.getD (toNat v16) default).1 2)).1),(iv (aQ (aF (v13.getD (toNat v16) default).2.2 2) (aF (v13.getD (toNat v16) default).1 2)).2.1),(iv (aQ (aF (v13.getD (toNat v16) default).2.2 2) (aF (v13.getD (toNat v16) default).1 2)).2.2),(iv (aQ (aF (v13.getD (toNat v16) default).1 2) (aF (v13.getD (toNat v16) default).2.1 2)).1),(iv (aQ (aF (v13.getD (toNat v16) default).1 2) (aF (v13.getD (toNat v16) default).2.1 2)).2.1),(iv (aQ (aF (v13.getD (toNat v16) default).1 2) (aF (v13.getD (toNat v16) default).2.1 2)).2.2),(iv (aF (v13.getD (toNat v16) default).2.1 2).1),(iv (aF (v13.getD (toNat v16) default).2.1 2).2.1),(iv (aF (v13.getD (toNat v16) default).2.1 2).2.2),(iv (aQ (aF (v13.getD (toNat v16) default).2.1 2) (aF (v13.getD (toNat v16) default).2.2 2)).1),(iv (aQ (aF (v13.getD (toNat v16) default).2.1 2) (aF (v13.getD (toNat v16) default).2.2 2)).2.1),(iv (aQ (aF (v13.getD (toNat v16) default).2.1 2) (aF (v13.getD (toNat v16) default).2.2 2)).2.2),(iv (aQ (aF (v13.getD (toNat v16) default).2.2 2) (aF (v13.getD (toNat v16) default).1 2)).1),(iv (aQ (aF (v13.getD (toNat v16) default).2.2 2) (aF (v13.getD (toNat v16) default).1 2)).2.1),(iv (aQ (aF (v13.getD (toNat v16) default).2.2 2) (aF (v13.getD (toNat v16) default).1 2)).2.2),(iv (aQ (aF (v13.getD (toNat v16) default).2.1 2) (aF (v13.getD (toNat v16) default).2.2 2)).1),(iv (aQ (aF (v13.getD (toNat v16) default).2.1 2) (aF (v13.getD (toNat v16) default).2.2 2)).2.1),(iv (aQ (aF (v13.getD (toNat v16) default).2.1 2) (aF (v13.getD (toNat v16) default).2.2 2)).2.2),(iv (aF (v13.getD (toNat v16) default).2.2 2).1),(iv (aF (v13.getD (toNat v16) default).2.2 2).2.1),(iv (aF (v13.getD (toNat v16) default).2.2 2).2.2),(iv (aQ (aF (v13.getD (toNat v16) default).1 2) (aF (v13.getD (toNat v16) default).2.1 2)).1),(iv (aQ (aF (v13.getD (toNat v16) default).1 2) (aF (v13.getD (toNat v16) default).2.1 2)).2.1),(iv (aQ (aF (v13.getD (toNat v16) default).1 2) (aF (v13.getD (toNat v16) default).2.1 2)).2.2),(iv (aQ (aF (v13.getD (toNat v16) default).2.1 2) (aF (v13.getD (toNat v16) default).2.2 2)).1),(iv (aQ (aF (v13.getD (toNat v16) default).2.1 2) (aF (v13.getD (toNat v16) default).2.2 2)).2.1),(iv (aQ (aF (v13.getD (toNat v16) default).2.1 2) (aF (v13.getD (toNat v16) default).2.2 2)).2.2),(iv (aQ (aF (v13.getD (toNat v16) default).2.2 2) (aF (v13.getD (toNat v16) default).1 2)).1),(iv (aQ (aF (v13.getD (toNat v16) default).2.2 2) (aF (v13.getD (toNat v16) default).1 2)).2.1),(iv (aQ (aF (v13.getD (toNat v16) default).2.2 2) (aF (v13.getD (toNat v16) default).1 2)).2.2)]) (v14.length+4) v15 (W (v16+1))) (by kernel_rfl) ?_
    have z0:(W (v16+1))=(v16+1):=aE (by omega) (by omega)
    have z1:(flat dM v14++[(iv (aF (v13.getD (toNat v16) default).1 2).1),(iv (aF (v13.getD (toNat v16) default).1 2).2.1),(iv (aF (v13.getD (toNat v16) default).1 2).2.2),(iv (aQ (aF (v13.getD (toNat v16) default).1 2) (aF (v13.getD (toNat v16) default).2.1 2)).1),(iv (aQ (aF (v13.getD (toNat v16) default).1 2) (aF (v13.getD (toNat v16) default).2.1 2)).2.1),(iv (aQ (aF (v13.getD (toNat v16) default).1 2) (aF (v13.getD (toNat v16) default).2.1 2)).2.2),(iv (aQ (aF (v13.getD (toNat v16) default).2.2 2) (aF (v13.getD (toNat v16) default).1 2)).1),(iv (aQ (aF (v13.getD (toNat v16) default).2.2 2) (aF (v13.getD (toNat v16) default).1 2)).2.1),(iv (aQ (aF (v13.getD (toNat v16) default).2.2 2) (aF (v13.getD (toNat v16) default).1 2)).2.2),(iv (aQ (aF (v13.getD (toNat v16) default).1 2) (aF (v13.getD (toNat v16) default).2.1 2)).1),(iv (aQ (aF (v13.getD (toNat v16) default).1 2) (aF (v13.getD (toNat v16) default).2.1 2)).2.1),(iv (aQ (aF (v13.getD (toNat v16) default).1 2) (aF (v13.getD (toNat v16) default).2.1 2)).2.2),(iv (aF (v13.getD (toNat v16) default).2.1 2).1),(iv (aF (v13.getD (toNat v16) default).2.1 2).2.1),(iv (aF (v13.getD (toNat v16) default).2.1 2).2.2),(iv (aQ (aF (v13.getD (toNat v16) default).2.1 2) (aF (v13.getD (toNat v16) default).2.2 2)).1),(iv (aQ (aF (v13.getD (toNat v16) default).2.1 2) (aF (v13.getD (toNat v16) default).2.2 2)).2.1),(iv (aQ (aF (v13.getD (toNat v16) default).2.1 2) (aF (v13.getD (toNat v16) default).2.2 2)).2.2),(iv (aQ (aF (v13.getD (toNat v16) default).2.2 2) (aF (v13.getD (toNat v16) default).1 2)).1),(iv (aQ (aF (v13.getD (toNat v16) default).2.2 2) (aF (v13.getD (toNat v16) default).1 2)).2.1),(iv (aQ (aF (v13.getD (toNat v16) default).2.2 2) (aF (v13.getD (toNat v16) default).1 2)).2.2),(iv (aQ (aF (v13.getD (toNat v16) default).2.1 2) (aF (v13.getD (toNat v16) default).2.2 2)).1),(iv (aQ (aF (v13.getD (toNat v16) default).2.1 2) (aF (v13.getD (toNat v16) default).2.2 2)).2.1),(iv (aQ (aF (v13.getD (toNat v16) default).2.1 2) (aF (v13.getD (toNat v16) default).2.2 2)).2.2),(iv (aF (v13.getD (toNat v16) default).2.2 2).1),(iv (aF (v13.getD (toNat v16) default).2.2 2).2.1),(iv (aF (v13.getD (toNat v16) default).2.2 2).2.2),(iv (aQ (aF (v13.getD (toNat v16) default).1 2) (aF (v13.getD (toNat v16) default).2.1 2)).1),(iv (aQ (aF (v13.getD (toNat v16) default).1 2) (aF (v13.getD (toNat v16) default).2.1 2)).2.1),(iv (aQ (aF (v13.getD (toNat v16) default).1 2) (aF (v13.getD (toNat v16) default).2.1 2)).2.2),(iv (aQ (aF (v13.getD (toNat v16) default).2.1 2) (aF (v13.getD (toNat v16) default).2.2 2)).1),(iv (aQ (aF (v13.getD (toNat v16) default).2.1 2) (aF (v13.getD (toNat v16) default).2.2 2)).2.1),(iv (aQ (aF (v13.getD (toNat v16) default).2.1 2) (aF (v13.getD (toNat v16) default).2.2 2)).2.2),(iv (aQ (aF (v13.getD (toNat v16) default).2.2 2) (aF (v13.getD (toNat v16) default).1 2)).1),(iv (aQ (aF (v13.getD (toNat v16) default).2.2 2) (aF (v13.getD (toNat v16) default).1 2)).2.1),(iv (aQ (aF (v13.getD (toNat v16) default).2.2 2) (aF (v13.getD (toNat v16) default).1 2)).2.2)])=(flat dM (v14++[((aF (v13.getD (toNat v16) default).1 2),(aQ (aF (v13.getD (toNat v16) default).1 2) (aF (v13.getD (toNat v16) default).2.1 2)),(aQ (aF (v13.getD (toNat v16) default).2.2 2) (aF (v13.getD (toNat v16) default).1 2))),((aQ (aF (v13.getD (toNat v16) default).1 2) (aF (v13.getD (toNat v16) default).2.1 2)),(aF (v13.getD (toNat v16) default).2.1 2),(aQ (aF (v13.getD (toNat v16) default).2.1 2) (aF (v13.getD (toNat v16) default).2.2 2))),((aQ (aF (v13.getD (toNat v16) default).2.2 2) (aF (v13.getD (toNat v16) default).1 2)),(aQ (aF (v13.getD (toNat v16) default).2.1 2) (aF (v13.getD (toNat v16) default).2.2 2)),(aF (v13.getD (toNat v16) default).2.2 2)),((aQ (aF (v13.getD (toNat v16) default).1 2) (aF (v13.getD (toNat v16) default).2.1 2)),(aQ (aF (v13.getD (toNat v16) default).2.1 2) (aF (v13.getD (toNat v16) default).2.2 2)),(aQ (aF (v13.getD (toNat v16) default).2.2 2) (aF (v13.getD (toNat v16) default).1 2)))])):=(bN (c:=dM) (l:=v14) (m:=[((aF (v13.getD (toNat v16) default).1 2),(aQ (aF (v13.getD (toNat v16) default).1 2) (aF (v13.getD (toNat v16) default).2.1 2)),(aQ (aF (v13.getD (toNat v16) default).2.2 2) (aF (v13.getD (toNat v16) default).1 2))),((aQ (aF (v13.getD (toNat v16) default).1 2) (aF (v13.getD (toNat v16) default).2.1 2)),(aF (v13.getD (toNat v16) default).2.1 2),(aQ (aF (v13.getD (toNat v16) default).2.1 2) (aF (v13.getD (toNat v16) default).2.2 2))),((aQ (aF (v13.getD (toNat v16) default).2.2 2) (aF (v13.getD (toNat v16) default).1 2)),(aQ (aF (v13.getD (toNat v16) default).2.1 2) (aF (v13.getD (toNat v16) default).2.2 2)),(aF (v13.getD (toNat v16) default).2.2 2)),((aQ (aF (v13.getD (toNat v16) default).1 2) (aF (v13.getD (toNat v16) default).2.1 2)),(aQ (aF (v13.getD (toNat v16) default).2.1 2) (aF (v13.getD (toNat v16) default).2.2 2)),(aQ (aF (v13.getD (toNat v16) default).2.2 2) (aF (v13.getD (toNat v16) default).1 2)))])).symm
    have z2:(v14.length+4)=(v14++[((aF (v13.getD (toNat v16) default).1 2),(aQ (aF (v13.getD (toNat v16) default).1 2) (aF (v13.getD (toNat v16) default).2.1 2)),(aQ (aF (v13.getD (toNat v16) default).2.2 2) (aF (v13.getD (toNat v16) default).1 2))),((aQ (aF (v13.getD (toNat v16) default).1 2) (aF (v13.getD (toNat v16) default).2.1 2)),(aF (v13.getD (toNat v16) default).2.1 2),(aQ (aF (v13.getD (toNat v16) default).2.1 2) (aF (v13.getD (toNat v16) default).2.2 2))),((aQ (aF (v13.getD (toNat v16) default).2.2 2) (aF (v13.getD (toNat v16) default).1 2)),(aQ (aF (v13.getD (toNat v16) default).2.1 2) (aF (v13.getD (toNat v16) default).2.2 2)),(aF (v13.getD (toNat v16) default).2.2 2)),((aQ (aF (v13.getD (toNat v16) default).1 2) (aF (v13.getD (toNat v16) default).2.1 2)),(aQ (aF (v13.getD (toNat v16) default).2.1 2) (aF (v13.getD (toNat v16) default).2.2 2)),(aQ (aF (v13.getD (toNat v16) default).2.2 2) (aF (v13.getD (toNat v16) default).1 2)))]).length:=eH v14 [((aF (v13.getD (toNat v16) default).1 2),(aQ (aF (v13.getD (toNat v16) default).1 2) (aF (v13.getD (toNat v16) default).2.1 2)),(aQ (aF (v13.getD (toNat v16) default).2.2 2) (aF (v13.getD (toNat v16) default).1 2))),((aQ (aF (v13.getD (toNat v16) default).1 2) (aF (v13.getD (toNat v16) default).2.1 2)),(aF (v13.getD (toNat v16) default).2.1 2),(aQ (aF (v13.getD (toNat v16) default).2.1 2) (aF (v13.getD (toNat v16) default).2.2 2))),((aQ (aF (v13.getD (toNat v16) default).2.2 2) (aF (v13.getD (toNat v16) default).1 2)),(aQ (aF (v13.getD (toNat v16) default).2.1 2) (aF (v13.getD (toNat v16) default).2.2 2)),(aF (v13.getD (toNat v16) default).2.2 2)),((aQ (aF (v13.getD (toNat v16) default).1 2) (aF (v13.getD (toNat v16) default).2.1 2)),(aQ (aF (v13.getD (toNat v16) default).2.1 2) (aF (v13.getD (toNat v16) default).2.2 2)),(aQ (aF (v13.getD (toNat v16) default).2.2 2) (aF (v13.getD (toNat v16) default).1 2)))] rfl
    rw [z0,z1,z2]
    exact ih v13 (v14++[((aF (v13.getD (toNat v16) default).1 2),(aQ (aF (v13.getD (toNat v16) default).1 2) (aF (v13.getD (toNat v16) default).2.1 2)),(aQ (aF (v13.getD (toNat v16) default).2.2 2) (aF (v13.getD (toNat v16) default).1 2))),((aQ (aF (v13.getD (toNat v16) default).1 2) (aF (v13.getD (toNat v16) default).2.1 2)),(aF (v13.getD (toNat v16) default).2.1 2),(aQ (aF (v13.getD (toNat v16) default).2.1 2) (aF (v13.getD (toNat v16) default).2.2 2))),((aQ (aF (v13.getD (toNat v16) default).2.2 2) (aF (v13.getD (toNat v16) default).1 2)),(aQ (aF (v13.getD (toNat v16) default).2.1 2) (aF (v13.getD (toNat v16) default).2.2 2)),(aF (v13.getD (toNat v16) default).2.2 2)),((aQ (aF (v13.getD (toNat v16) default).1 2) (aF (v13.getD (toNat v16) default).2.1 2)),(aQ (aF (v13.getD (toNat v16) default).2.1 2) (aF (v13.getD (toNat v16) default).2.2 2)),(aQ (aF (v13.getD (toNat v16) default).2.2 2) (aF (v13.getD (toNat v16) default).1 2)))]) v15 (v16+1) (by refine⟨?_,?_,?_,?_,?_,?_,?_⟩<;>(try simp only [Ls])<;>first | omega | assumption | exact hi.2.1 | exact hi.2.2.1 | exact hi.2.2.2.1 | exact hi.2.2.2.2.1 | exact hi.2.2.2.2.2.1 | exact hi.2.2.2.2.2.2.1 | simp) (by(try simp only [Ls]);omega)
   | false =>
    have q0:=cA h0
    have e:=Eq.refl (kR a0 a1 (v13,v14,v15,v16));conv at e=>rhs;simp only [kR,h0,aI]
    rw [aC,e]
    refine ba [.d h0] [] [1,5,6] [1] hcx (m:=n0) aF3 (aF4) (aAi a0 a1 (flat dM v14) (v14.length) (W (v15+1))) (by kernel_rfl) ?_
    have z0:(W (v15+1))=(v15+1):=aE (by omega) (by omega)
    rw [z0]
    exact g0 v14 (v15+1) (by refine⟨?_,?_⟩<;>(try simp only [Ls])<;>first | omega | assumption | simp) (by(try simp only [Ls]);omega)
theorem aYc (a0:Zt×Zt×Zt)(a1:Int)(ha:0<=a1/\a1<=3) {cx:Cx} (hcx:cx.base=0):∀(n:Nat)(v11:List (Zt×Zt×Zt))(v12:Int),(0<=v12)/\(v12=0/\v11.length<=1\/v12=1/\v11.length<=4\/v12=2/\v11.length<=16\/3<=v12/\v11.length<=64)->toNat (a1 - v12) < n->Aw.Good Tryz.prog none 9 (bodyPost Tryz.prog Tryz.f157 (RR cx (.s 0 0 (aB (gN a0 a1) n (v11,v12)).length 9) [(.live true true (flat dM (aB (gN a0 a1) n (v11,v12))))] [])) cx [] (.l aF3 n::aF4) (aAi a0 a1 (flat dM v11) v11.length v12):=by
 intro n
 induction n with
 | zero=>intro v11 v12 hi hn;exact absurd hn (gP _)
 | succ n ih =>
   intro v11 v12 hi hn
   refine aH ?_
   cases h0:(decide ((v12:Int) < a1)) with
   | true =>
    have q0:=bO h0
    have e:=Eq.refl (gN a0 a1 (v11,v12));conv at e=>rhs;simp only [gN,h0,aI]
    rw [aC,e]
    refine en [.d h0] [.slot 7 9] [1,5,6,7,8] [0,1] hcx aKm (aKn n) (aF2 a0 a1 (flat dM v11) (v11.length) (flat dM ([]:List (Zt×Zt×Zt))) 0 v12 0) (toNat ((v11.length:Int) - 0)+1) (by kernel_rfl) ?_
    exact aYb a0 a1 ha hcx n ih (toNat ((v11.length:Int) - 0)+1) v11 ([]:List (Zt×Zt×Zt)) v12 0 (by refine⟨?_,?_,?_,?_,?_,?_,?_⟩<;>(try simp only [Ls])<;>first | omega | assumption | exact hi.2.1 | exact hi.2.2.1 | exact hi.2.2.2.1 | exact hi.2.2.2.2.1 | exact hi.2.2.2.2.2.1 | exact hi.2.2.2.2.2.2.1 | simp) (by(try simp only [Ls]);omega)
   | false =>
    have q0:=cA h0
    have e:=Eq.refl (gN a0 a1 (v11,v12));conv at e=>rhs;simp only [gN,h0,aI]
    rw [aC,e]
    exact rt [.d h0] [] [0] hcx (by kernel_rfl)
def cG (a0:Zt×Zt×Zt)(a1:Int):List (Zt×Zt×Zt) :=
 (aB (gN a0 a1) (toNat (a1 - 0)+1) (([a0]:List (Zt×Zt×Zt)),0))
theorem bBh (a0:Zt×Zt×Zt)(a1:Int)(ha:0<=a1/\a1<=3):Con Tryz.prog 157 [(.a (k9 a0)),(iv a1)] [] (.s 0 0 (cG a0 a1).length 9) [(.live true true (flat dM (cG a0 a1)))]:=by
 refine aJ Tryz.func157 (by kernel_rfl) fun cx hcx=>?_
 have e:=Eq.refl (cG a0 a1);conv at e=>rhs;simp only [cG]
 rw [e]
 refine en [] [.sym 1 true] [1,5,6] [1] hcx aF3 (aF4) (aAi a0 a1 (flat dM ([a0]:List (Zt×Zt×Zt))) 1 0) (toNat (a1 - 0)+1) (by kernel_rfl) ?_
 exact aYc a0 a1 ha hcx (toNat (a1 - 0)+1) ([a0]:List (Zt×Zt×Zt)) 0 (by refine⟨?_,?_⟩<;>(try simp only [Ls])<;>first | omega | assumption | simp) (by(try simp only [Ls]);omega)
noncomputable def aB2:Code:=(aD [1,1,1,0,1] [] (aG Tryz.f156) []).1
noncomputable def aB3:List K:=(aD [1,1,1,0,1] [] (aG Tryz.f156) []).2
def xI (a0:List (Int×Int))(v1 v2 v3:Int):LS:=⟨iH 39 [(0,(.s 0 0 a0.length 2)),(5,(iv v1)),(6,(iv v2)),(7,(iv v3))],[(.live false true (flat cQ a0))]⟩
def fM (a0:List (Int×Int)):Zt->Zt⊕Zt
 | (v1,v2,v3) =>
  (bif (decide ((v3:Int) < (a0.length:Int))) then
   (bif (!(F51 (a0.getD (toNat v3) default))) then
    (.inr (0,0,1))
   else
    (.inl ((W (v1+(a0.getD (toNat v3) default).1)),(W (v2+(a0.getD (toNat v3) default).2)),(v3+1))))
  else
   (.inr (v1,v2,0)))
theorem aQh (a0:List (Int×Int))(l0:a0.length<=9223372036854775807) {cx:Cx} (hcx:cx.base=1):∀(n:Nat)(v1 v2 v3:Int),0<=v3->toNat ((a0.length:Int) - v3) < n->Aw.Good Tryz.prog none 9 (bodyPost Tryz.prog Tryz.f156 (RR cx (.t (k3 (aB (fM a0) n (v1,v2,v3)))) [] [])) cx [] (.l aB2 n::aB3) (xI a0 v1 v2 v3):=by
 intro n
 induction n with
 | zero=>intro v1 v2 v3 hi hn;exact absurd hn (gP _)
 | succ n ih =>
   intro v1 v2 v3 hi hn
   refine aH ?_
   cases h0:(decide ((v3:Int) < (a0.length:Int))) with
   | true =>
    have q0:=bO h0
    let t1:List (St Tryz.prog):=[.d h0,.i v3 (a0.length),.L cC a0 v3 0 2,.c [] (C51 (a0.getD (toNat v3) default))]
    cases h1:(!(F51 (a0.getD (toNat v3) default))) with
    | true =>
     have e:=Eq.refl (fM a0 (v1,v2,v3));conv at e=>rhs;simp only [fM,h0,h1,aI]
     rw [aC,e]
     exact rt (t1++[.d h1]) [] [] hcx (by kernel_rfl)
    | false =>
     have e:=Eq.refl (fM a0 (v1,v2,v3));conv at e=>rhs;simp only [fM,h0,h1,aI]
     rw [aA e]
     refine ba (t1++[.d h1,.i v3 (a0.length),.L cC a0 v3 0 1,.i v3 (a0.length),.L cC a0 v3 1 1]) [] [0,5,6,7] [] hcx (m:=n) aB2 (aB3) (xI a0 (W (v1+(a0.getD (toNat v3) default).1)) (W (v2+(a0.getD (toNat v3) default).2)) (W (v3+1))) (by kernel_rfl) ?_
     have z0:(W (v3+1))=(v3+1):=aE (by omega) (by omega)
     rw [z0]
     exact ih (W (v1+(a0.getD (toNat v3) default).1)) (W (v2+(a0.getD (toNat v3) default).2)) (v3+1) (by(try simp only [Ls]);omega) (by(try simp only [Ls]);omega)
   | false =>
    have q0:=cA h0
    have e:=Eq.refl (fM a0 (v1,v2,v3));conv at e=>rhs;simp only [fM,h0,aI]
    rw [aC,e]
    exact rt [.d h0] [] [] hcx (by kernel_rfl)
def cM (a0:List (Int×Int)):Zt :=
 (bif (decide (((a0.length:Int):Int) > 10000)) then
  (0,0,4)
 else
  (aB (fM a0) (toNat ((a0.length:Int) - 0)+1) (0,0,0)))
theorem aQi (a0:List (Int×Int))(l0:a0.length<=9223372036854775807):Con Tryz.prog 156 [(.s 0 0 a0.length 2)] [(.live false true (flat cQ a0))] (.t (k3 (cM a0))) []:=by
 refine aJ Tryz.func156 (by kernel_rfl) fun cx hcx=>?_
 cases h0:(decide (((a0.length:Int):Int) > 10000)) with
 | true =>
  have q0:=bO h0
  have e:=Eq.refl (cM a0);conv at e=>rhs;simp only [cM,h0,aI]
  rw [e]
  exact rt [.d h0] [] [] hcx (by kernel_rfl)
 | false =>
  have q0:=cA h0
  have e:=Eq.refl (cM a0);conv at e=>rhs;simp only [cM,h0,aI]
  rw [e]
  refine en [.d h0] [] [0,5,6,7] [] hcx aB2 (aB3) (xI a0 0 0 0) (toNat ((a0.length:Int) - 0)+1) (by kernel_rfl) ?_
  exact aQh a0 l0 hcx (toNat ((a0.length:Int) - 0)+1) 0 0 0 (by(try simp only [Ls]);omega) (by(try simp only [Ls]);omega)
def cZ (a0:List (Int×Int)):(Int×Int)×Int :=
 (bif (((cM a0).2.2:Int) != 0) then
  ((0,0),(cM a0).2.2)
 else
  ((iY (cM a0).1 (cM a0).2.1).1,(iY (cM a0).1 (cM a0).2.1).2))
theorem aQj (a0:List (Int×Int))(l0:a0.length<=9223372036854775807):Con Tryz.prog 137 [(.s 0 0 a0.length 2)] [(.live false true (flat cQ a0))] (.t [(.a (k2 (cZ a0).1)),(iv (cZ a0).2)]) []:=by
 refine aJ Tryz.func137 (by kernel_rfl) fun cx hcx=>?_
 let t0:List (St Tryz.prog):=[.c [0] (aQi a0 (by omega))]
 cases h0:(((cM a0).2.2:Int) != 0) with
 | true =>
  have q0:=bne_iff_ne.1 h0
  have e:=Eq.refl (cZ a0);conv at e=>rhs;simp only [cZ,h0,aI]
  rw [e]
  exact rt (t0++[.d h0]) [] [] hcx (by kernel_rfl)
 | false =>
  have q0:=bne_eq_false_iff_eq.1 h0
  have e:=Eq.refl (cZ a0);conv at e=>rhs;simp only [cZ,h0,aI]
  rw [e]
  exact rt (t0++[.d h0,.c [] (aDy (cM a0).1 (cM a0).2.1)]) [] [] hcx (by kernel_rfl)
def tM (a0:Int)(a1:Int):Int :=
 (bif (decide (((Int.tmod a0 a1):Int) < 0)) then
  (W ((W (Int.tdiv a0 a1)) - 1))
 else
  (W (Int.tdiv a0 a1)))
theorem aYd (a0:Int)(a1:Int)(ha:a1≠0):Con Tryz.prog 166 [(iv a0),(iv a1)] [] (iv (tM a0 a1)) []:=by
 refine aJ Tryz.func166 (by kernel_rfl) fun cx hcx=>?_
 let t0:List (St Tryz.prog):=[.p (show(a1:Int)≠0 from by first | omega | (rw [aE]<;>omega) | exact eE _),.p (show(a1:Int)≠0 from by first | omega | (rw [aE]<;>omega) | exact eE _)]
 cases h0:(decide (((Int.tmod a0 a1):Int) < 0)) with
 | true =>
  have q0:=bO h0
  have e:=Eq.refl (tM a0 a1);conv at e=>rhs;simp only [tM,h0,aI]
  rw [e]
  exact rt (t0++[.d h0]) [] [] hcx (by kernel_rfl)
 | false =>
  have q0:=cA h0
  have e:=Eq.refl (tM a0 a1);conv at e=>rhs;simp only [tM,h0,aI]
  rw [e]
  exact rt (t0++[.d h0]) [] [] hcx (by kernel_rfl)
def vH (a0:Int)(a1:Int):Int :=
 (W (0 - (tM (W (0 - a0)) a1)))
theorem aYe (a0:Int)(a1:Int)(ha:a1≠0):Con Tryz.prog 167 [(iv a0),(iv a1)] [] (iv (vH a0 a1)) []:=by
 refine aJ Tryz.func167 (by kernel_rfl) fun cx hcx=>?_
 have e:=Eq.refl (vH a0 a1);conv at e=>rhs;simp only [vH]
 rw [e]
 exact rt [.c [] (aYd (W (0 - a0)) a1  (by(try simp only [Lt,kH,kI]);omega))] [] [] hcx (by kernel_rfl)
def jQ (a0:List (Int×Int)):(Int×Int)×Int :=
 (bif (((cM a0).2.2:Int) != 0) then
  ((0,0),(cM a0).2.2)
 else
  (bif (((a0.length:Int):Int) == 0) then
   ((0,0),1)
  else
   ((iY (tM (cM a0).1 (a0.length:Int)) (vH (cM a0).2.1 (a0.length:Int))).1,(iY (tM (cM a0).1 (a0.length:Int)) (vH (cM a0).2.1 (a0.length:Int))).2)))
theorem aYf (a0:List (Int×Int))(l0:a0.length<=9223372036854775807):Con Tryz.prog 158 [(.s 0 0 a0.length 2)] [(.live false true (flat cQ a0))] (.t [(.a (k2 (jQ a0).1)),(iv (jQ a0).2)]) []:=by
 refine aJ Tryz.func158 (by kernel_rfl) fun cx hcx=>?_
 let t0:List (St Tryz.prog):=[.c [0] (aQi a0 (by omega))]
 cases h0:(((cM a0).2.2:Int) != 0) with
 | true =>
  have q0:=bne_iff_ne.1 h0
  have e:=Eq.refl (jQ a0);conv at e=>rhs;simp only [jQ,h0,aI]
  rw [e]
  exact rt (t0++[.d h0]) [] [] hcx (by kernel_rfl)
 | false =>
  have q0:=bne_eq_false_iff_eq.1 h0
  let t1:List (St Tryz.prog):=(t0++[.d h0])
  cases h1:(((a0.length:Int):Int) == 0) with
  | true =>
   have q1:=eq_of_beq h1
   have e:=Eq.refl (jQ a0);conv at e=>rhs;simp only [jQ,h0,h1,aI]
   rw [e]
   exact rt (t1++[.d h1]) [] [] hcx (by kernel_rfl)
  | false =>
   have q1:=ne_of_beq_false h1
   have e:=Eq.refl (jQ a0);conv at e=>rhs;simp only [jQ,h0,h1,aI]
   rw [e]
   exact rt (t1++[.d h1,.c [] (aYd (cM a0).1 (a0.length:Int)  (by(try simp only [Lt,kH,kI]);omega)),.c [] (aYe (cM a0).2.1 (a0.length:Int)  (by(try simp only [Lt,kH,kI]);omega)),.c [] (aDy (tM (cM a0).1 (a0.length:Int)) (vH (cM a0).2.1 (a0.length:Int)))]) [] [] hcx (by kernel_rfl)
noncomputable def gU:Code:=(aD [1,1,0,1] [] (aG Tryz.f164) []).1
noncomputable def gV:List K:=(aD [1,1,0,1] [] (aG Tryz.f164) []).2
def fP (a0:Zt×Zt×Zt)(a1:List Zt)(v1 v2:Int):LS:=⟨iH 44 [(1,(.s 0 0 a1.length 3)),(2,(.p 1 0)),(5,(iv v1)),(6,(iv v2))],[(.live false true (flat dL a1)),(.live true false (k9 a0))]⟩
def bR (a0:Zt×Zt×Zt)(a1:List Zt):Int×Int->(Int×Int)⊕(Int)
 | (v1,v2) =>
  (bif (decide ((v2:Int) < (a1.length:Int))) then
   (bif (decide (((cE (aT a0.1 (a1.getD (toNat v2) default)) (aT a0.1 (a1.getD (toNat v2) default))):Int) > v1)) then
    (bif (decide (((cE (aT a0.2.1 (a1.getD (toNat v2) default)) (aT a0.2.1 (a1.getD (toNat v2) default))):Int) > (cE (aT a0.1 (a1.getD (toNat v2) default)) (aT a0.1 (a1.getD (toNat v2) default))))) then
     (bif (decide (((cE (aT a0.2.2 (a1.getD (toNat v2) default)) (aT a0.2.2 (a1.getD (toNat v2) default))):Int) > (cE (aT a0.2.1 (a1.getD (toNat v2) default)) (aT a0.2.1 (a1.getD (toNat v2) default))))) then
      (.inl ((cE (aT a0.2.2 (a1.getD (toNat v2) default)) (aT a0.2.2 (a1.getD (toNat v2) default))),(v2+1)))
     else
      (.inl ((cE (aT a0.2.1 (a1.getD (toNat v2) default)) (aT a0.2.1 (a1.getD (toNat v2) default))),(v2+1))))
    else
     (bif (decide (((cE (aT a0.2.2 (a1.getD (toNat v2) default)) (aT a0.2.2 (a1.getD (toNat v2) default))):Int) > (cE (aT a0.1 (a1.getD (toNat v2) default)) (aT a0.1 (a1.getD (toNat v2) default))))) then
      (.inl ((cE (aT a0.2.2 (a1.getD (toNat v2) default)) (aT a0.2.2 (a1.getD (toNat v2) default))),(v2+1)))
     else
      (.inl ((cE (aT a0.1 (a1.getD (toNat v2) default)) (aT a0.1 (a1.getD (toNat v2) default))),(v2+1)))))
   else
    (bif (decide (((cE (aT a0.2.1 (a1.getD (toNat v2) default)) (aT a0.2.1 (a1.getD (toNat v2) default))):Int) > v1)) then
     (bif (decide (((cE (aT a0.2.2 (a1.getD (toNat v2) default)) (aT a0.2.2 (a1.getD (toNat v2) default))):Int) > (cE (aT a0.2.1 (a1.getD (toNat v2) default)) (aT a0.2.1 (a1.getD (toNat v2) default))))) then
      (.inl ((cE (aT a0.2.2 (a1.getD (toNat v2) default)) (aT a0.2.2 (a1.getD (toNat v2) default))),(v2+1)))
     else
      (.inl ((cE (aT a0.2.1 (a1.getD (toNat v2) default)) (aT a0.2.1 (a1.getD (toNat v2) default))),(v2+1))))
    else
     (bif (decide (((cE (aT a0.2.2 (a1.getD (toNat v2) default)) (aT a0.2.2 (a1.getD (toNat v2) default))):Int) > v1)) then
      (.inl ((cE (aT a0.2.2 (a1.getD (toNat v2) default)) (aT a0.2.2 (a1.getD (toNat v2) default))),(v2+1)))
     else
      (.inl (v1,(v2+1))))))
  else
   (.inr v1))
theorem aQk (a0:Zt×Zt×Zt)(a1:List Zt)(l1:a1.length<=9223372036854775807) {cx:Cx} (hcx:cx.base=1):∀(n:Nat)(v1 v2:Int),0<=v2->toNat ((a1.length:Int) - v2) < n->Aw.Good Tryz.prog none 9 (bodyPost Tryz.prog Tryz.f164 (RR cx (iv (aB (bR a0 a1) n (v1,v2))) [] [])) cx [] (.l gU n::gV) (fP a0 a1 v1 v2):=by
 intro n
 induction n with
 | zero=>intro v1 v2 hi hn;exact absurd hn (gP _)
 | succ n ih =>
   intro v1 v2 hi hn
   refine aH ?_
   cases h0:(decide ((v2:Int) < (a1.length:Int))) with
   | true =>
    have q0:=bO h0
    let t1:List (St Tryz.prog):=[.d h0,.u 200,.T,.i 0 3 (by decide),.i v2 (a1.length),.L bM a1 v2 0 3,.c [] (aFy a0.1 (a1.getD (toNat v2) default)),.c [] (aF0 (aT a0.1 (a1.getD (toNat v2) default)) (aT a0.1 (a1.getD (toNat v2) default)))]
    cases h1:(decide (((cE (aT a0.1 (a1.getD (toNat v2) default)) (aT a0.1 (a1.getD (toNat v2) default))):Int) > v1)) with
    | true =>
     have q1:=bO h1
     let t2:List (St Tryz.prog):=(t1++[.d h1,.u 0,.T,.i 1 3 (by decide),.i v2 (a1.length),.L bM a1 v2 0 3,.c [] (aFy a0.2.1 (a1.getD (toNat v2) default)),.c [] (aF0 (aT a0.2.1 (a1.getD (toNat v2) default)) (aT a0.2.1 (a1.getD (toNat v2) default)))])
     cases h2:(decide (((cE (aT a0.2.1 (a1.getD (toNat v2) default)) (aT a0.2.1 (a1.getD (toNat v2) default))):Int) > (cE (aT a0.1 (a1.getD (toNat v2) default)) (aT a0.1 (a1.getD (toNat v2) default))))) with
     | true =>
      have q2:=bO h2
      let t3:List (St Tryz.prog):=(t2++[.d h2,.u 0,.T,.i 2 3 (by decide),.i v2 (a1.length),.L bM a1 v2 0 3,.c [] (aFy a0.2.2 (a1.getD (toNat v2) default)),.c [] (aF0 (aT a0.2.2 (a1.getD (toNat v2) default)) (aT a0.2.2 (a1.getD (toNat v2) default)))])
      cases h3:(decide (((cE (aT a0.2.2 (a1.getD (toNat v2) default)) (aT a0.2.2 (a1.getD (toNat v2) default))):Int) > (cE (aT a0.2.1 (a1.getD (toNat v2) default)) (aT a0.2.1 (a1.getD (toNat v2) default))))) with
      | true =>
       have q3:=bO h3
       have e:=Eq.refl (bR a0 a1 (v1,v2));conv at e=>rhs;simp only [bR,h0,h1,h2,h3,aI]
       rw [aA e]
       refine ba (t3++[.d h3,.u 0,.F]) [] [1,2,5,6] [1] hcx (m:=n) gU (gV) (fP a0 a1 (cE (aT a0.2.2 (a1.getD (toNat v2) default)) (aT a0.2.2 (a1.getD (toNat v2) default))) (W (v2+1))) (by kernel_rfl) ?_
       have z0:(W (v2+1))=(v2+1):=aE (by omega) (by omega)
       rw [z0]
       exact ih (cE (aT a0.2.2 (a1.getD (toNat v2) default)) (aT a0.2.2 (a1.getD (toNat v2) default))) (v2+1) (by(try simp only [Ls]);omega) (by(try simp only [Ls]);omega)
      | false =>
       have q3:=cA h3
       have e:=Eq.refl (bR a0 a1 (v1,v2));conv at e=>rhs;simp only [bR,h0,h1,h2,h3,aI]
       rw [aA e]
       refine ba (t3++[.d h3,.u 0,.F]) [] [1,2,5,6] [1] hcx (m:=n) gU (gV) (fP a0 a1 (cE (aT a0.2.1 (a1.getD (toNat v2) default)) (aT a0.2.1 (a1.getD (toNat v2) default))) (W (v2+1))) (by kernel_rfl) ?_
       have z0:(W (v2+1))=(v2+1):=aE (by omega) (by omega)
       rw [z0]
       exact ih (cE (aT a0.2.1 (a1.getD (toNat v2) default)) (aT a0.2.1 (a1.getD (toNat v2) default))) (v2+1) (by(try simp only [Ls]);omega) (by(try simp only [Ls]);omega)
     | false =>
      have q2:=cA h2
      let t3:List (St Tryz.prog):=(t2++[.d h2,.u 0,.T,.i 2 3 (by decide),.i v2 (a1.length),.L bM a1 v2 0 3,.c [] (aFy a0.2.2 (a1.getD (toNat v2) default)),.c [] (aF0 (aT a0.2.2 (a1.getD (toNat v2) default)) (aT a0.2.2 (a1.getD (toNat v2) default)))])
      cases h3:(decide (((cE (aT a0.2.2 (a1.getD (toNat v2) default)) (aT a0.2.2 (a1.getD (toNat v2) default))):Int) > (cE (aT a0.1 (a1.getD (toNat v2) default)) (aT a0.1 (a1.getD (toNat v2) default))))) with
      | true =>
       have q3:=bO h3
       have e:=Eq.refl (bR a0 a1 (v1,v2));conv at e=>rhs;simp only [bR,h0,h1,h2,h3,aI]
       rw [aA e]
       refine ba (t3++[.d h3,.u 0,.F]) [] [1,2,5,6] [1] hcx (m:=n) gU (gV) (fP a0 a1 (cE (aT a0.2.2 (a1.getD (toNat v2) default)) (aT a0.2.2 (a1.getD (toNat v2) default))) (W (v2+1))) (by kernel_rfl) ?_
       have z0:(W (v2+1))=(v2+1):=aE (by omega) (by omega)
       rw [z0]
       exact ih (cE (aT a0.2.2 (a1.getD (toNat v2) default)) (aT a0.2.2 (a1.getD (toNat v2) default))) (v2+1) (by(try simp only [Ls]);omega) (by(try simp only [Ls]);omega)
      | false =>
       have q3:=cA h3
       have e:=Eq.refl (bR a0 a1 (v1,v2));conv at e=>rhs;simp only [bR,h0,h1,h2,h3,aI]
       rw [aA e]
       refine ba (t3++[.d h3,.u 0,.F]) [] [1,2,5,6] [1] hcx (m:=n) gU (gV) (fP a0 a1 (cE (aT a0.1 (a1.getD (toNat v2) default)) (aT a0.1 (a1.getD (toNat v2) default))) (W (v2+1))) (by kernel_rfl) ?_
       have z0:(W (v2+1))=(v2+1):=aE (by omega) (by omega)
       rw [z0]
       exact ih (cE (aT a0.1 (a1.getD (toNat v2) default)) (aT a0.1 (a1.getD (toNat v2) default))) (v2+1) (by(try simp only [Ls]);omega) (by(try simp only [Ls]);omega)
    | false =>
     have q1:=cA h1
     let t2:List (St Tryz.prog):=(t1++[.d h1,.u 0,.T,.i 1 3 (by decide),.i v2 (a1.length),.L bM a1 v2 0 3,.c [] (aFy a0.2.1 (a1.getD (toNat v2) default)),.c [] (aF0 (aT a0.2.1 (a1.getD (toNat v2) default)) (aT a0.2.1 (a1.getD (toNat v2) default)))])
     cases h2:(decide (((cE (aT a0.2.1 (a1.getD (toNat v2) default)) (aT a0.2.1 (a1.getD (toNat v2) default))):Int) > v1)) with
     | true =>
      have q2:=bO h2
      let t3:List (St Tryz.prog):=(t2++[.d h2,.u 0,.T,.i 2 3 (by decide),.i v2 (a1.length),.L bM a1 v2 0 3,.c [] (aFy a0.2.2 (a1.getD (toNat v2) default)),.c [] (aF0 (aT a0.2.2 (a1.getD (toNat v2) default)) (aT a0.2.2 (a1.getD (toNat v2) default)))])
      cases h3:(decide (((cE (aT a0.2.2 (a1.getD (toNat v2) default)) (aT a0.2.2 (a1.getD (toNat v2) default))):Int) > (cE (aT a0.2.1 (a1.getD (toNat v2) default)) (aT a0.2.1 (a1.getD (toNat v2) default))))) with
      | true =>
       have q3:=bO h3
       have e:=Eq.refl (bR a0 a1 (v1,v2));conv at e=>rhs;simp only [bR,h0,h1,h2,h3,aI]
       rw [aA e]
       refine ba (t3++[.d h3,.u 0,.F]) [] [1,2,5,6] [1] hcx (m:=n) gU (gV) (fP a0 a1 (cE (aT a0.2.2 (a1.getD (toNat v2) default)) (aT a0.2.2 (a1.getD (toNat v2) default))) (W (v2+1))) (by kernel_rfl) ?_
       have z0:(W (v2+1))=(v2+1):=aE (by omega) (by omega)
       rw [z0]
       exact ih (cE (aT a0.2.2 (a1.getD (toNat v2) default)) (aT a0.2.2 (a1.getD (toNat v2) default))) (v2+1) (by(try simp only [Ls]);omega) (by(try simp only [Ls]);omega)
      | false =>
       have q3:=cA h3
       have e:=Eq.refl (bR a0 a1 (v1,v2));conv at e=>rhs;simp only [bR,h0,h1,h2,h3,aI]
       rw [aA e]
       refine ba (t3++[.d h3,.u 0,.F]) [] [1,2,5,6] [1] hcx (m:=n) gU (gV) (fP a0 a1 (cE (aT a0.2.1 (a1.getD (toNat v2) default)) (aT a0.2.1 (a1.getD (toNat v2) default))) (W (v2+1))) (by kernel_rfl) ?_
       have z0:(W (v2+1))=(v2+1):=aE (by omega) (by omega)
       rw [z0]
       exact ih (cE (aT a0.2.1 (a1.getD (toNat v2) default)) (aT a0.2.1 (a1.getD (toNat v2) default))) (v2+1) (by(try simp only [Ls]);omega) (by(try simp only [Ls]);omega)
     | false =>
      have q2:=cA h2
      let t3:List (St Tryz.prog):=(t2++[.d h2,.u 0,.T,.i 2 3 (by decide),.i v2 (a1.length),.L bM a1 v2 0 3,.c [] (aFy a0.2.2 (a1.getD (toNat v2) default)),.c [] (aF0 (aT a0.2.2 (a1.getD (toNat v2) default)) (aT a0.2.2 (a1.getD (toNat v2) default)))])
      cases h3:(decide (((cE (aT a0.2.2 (a1.getD (toNat v2) default)) (aT a0.2.2 (a1.getD (toNat v2) default))):Int) > v1)) with
      | true =>
       have q3:=bO h3
       have e:=Eq.refl (bR a0 a1 (v1,v2));conv at e=>rhs;simp only [bR,h0,h1,h2,h3,aI]
       rw [aA e]
       refine ba (t3++[.d h3,.u 0,.F]) [] [1,2,5,6] [1] hcx (m:=n) gU (gV) (fP a0 a1 (cE (aT a0.2.2 (a1.getD (toNat v2) default)) (aT a0.2.2 (a1.getD (toNat v2) default))) (W (v2+1))) (by kernel_rfl) ?_
       have z0:(W (v2+1))=(v2+1):=aE (by omega) (by omega)
       rw [z0]
       exact ih (cE (aT a0.2.2 (a1.getD (toNat v2) default)) (aT a0.2.2 (a1.getD (toNat v2) default))) (v2+1) (by(try simp only [Ls]);omega) (by(try simp only [Ls]);omega)
      | false =>
       have q3:=cA h3
       have e:=Eq.refl (bR a0 a1 (v1,v2));conv at e=>rhs;simp only [bR,h0,h1,h2,h3,aI]
       rw [aA e]
       refine ba (t3++[.d h3,.u 0,.F]) [] [1,2,5,6] [1] hcx (m:=n) gU (gV) (fP a0 a1 v1 (W (v2+1))) (by kernel_rfl) ?_
       have z0:(W (v2+1))=(v2+1):=aE (by omega) (by omega)
       rw [z0]
       exact ih v1 (v2+1) (by(try simp only [Ls]);omega) (by(try simp only [Ls]);omega)
   | false =>
    have q0:=cA h0
    have e:=Eq.refl (bR a0 a1 (v1,v2));conv at e=>rhs;simp only [bR,h0,aI]
    rw [aC,e]
    exact rt [.d h0] [] [] hcx (by kernel_rfl)
def jR (a0:Zt×Zt×Zt)(a1:List Zt):Int :=
 (aB (bR a0 a1) (toNat ((a1.length:Int) - 0)+1) (0,0))
theorem aYg (a0:Zt×Zt×Zt)(a1:List Zt)(l1:a1.length<=9223372036854775807):Con Tryz.prog 164 [(.a (k9 a0)),(.s 0 0 a1.length 3)] [(.live false true (flat dL a1))] (iv (jR a0 a1)) []:=by
 refine aJ Tryz.func164 (by kernel_rfl) fun cx hcx=>?_
 have e:=Eq.refl (jR a0 a1);conv at e=>rhs;simp only [jR]
 rw [e]
 refine en [] [] [1,2,5,6] [1] hcx gU (gV) (fP a0 a1 0 0) (toNat ((a1.length:Int) - 0)+1) (by kernel_rfl) ?_
 exact aQk a0 a1 l1 hcx (toNat ((a1.length:Int) - 0)+1) 0 0 (by(try simp only [Ls]);omega) (by(try simp only [Ls]);omega)
noncomputable def aB4:Code:=(aD [1,1,0,1] [] (aG Tryz.f175) []).1
noncomputable def aB5:List K:=(aD [1,1,0,1] [] (aG Tryz.f175) []).2
def xJ (a0:List (Int))(v1 v2 v3:Int):LS:=⟨iH 33 [(0,(.s 0 0 a0.length 1)),(4,(iv v1)),(5,(iv v2)),(6,(iv v3))],[(.live false true (flat c3 a0))]⟩
def nY (a0:List (Int)):Zt->Zt⊕(Int×Int)
 | (v1,v2,v3) =>
  (bif (decide ((v3:Int) < (a0.length:Int))) then
   (.inl ((if((a0.getD (toNat v3) default):Int) < v1 then(a0.getD (toNat v3) default) else v1),(if(v2:Int) < (a0.getD (toNat v3) default) then(a0.getD (toNat v3) default) else v2),(v3+1)))
  else
   (.inr (v1,v2)))
theorem aQl (a0:List (Int))(l0:a0.length<=9223372036854775807)(hl:0 < a0.length) {cx:Cx} (hcx:cx.base=1):∀(n:Nat)(v1 v2 v3:Int),0<=v3->toNat ((a0.length:Int) - v3) < n->Aw.Good Tryz.prog none 9 (bodyPost Tryz.prog Tryz.f175 (RR cx (.t (k2 (aB (nY a0) n (v1,v2,v3)))) [] [])) cx [] (.l aB4 n::aB5) (xJ a0 v1 v2 v3):=by
 intro n
 induction n with
 | zero=>intro v1 v2 v3 hi hn;exact absurd hn (gP _)
 | succ n ih =>
   intro v1 v2 v3 hi hn
   refine aH ?_
   cases h0:(decide ((v3:Int) < (a0.length:Int))) with
   | true =>
    have q0:=bO h0
    have e:=Eq.refl (nY a0 (v1,v2,v3));conv at e=>rhs;simp only [nY,h0,aI]
    rw [aA e]
    refine ba [.d h0,.i v3 (a0.length),.L fX a0 v3 0 1,.i v3 (a0.length),.L fX a0 v3 0 1] [] [0,4,5,6] [] hcx (m:=n) aB4 (aB5) (xJ a0 (if((a0.getD (toNat v3) default):Int) < v1 then(a0.getD (toNat v3) default) else v1) (if(v2:Int) < (a0.getD (toNat v3) default) then(a0.getD (toNat v3) default) else v2) (W (v3+1))) (by kernel_rfl) ?_
    have z0:(W (v3+1))=(v3+1):=aE (by omega) (by omega)
    rw [z0]
    exact ih (if((a0.getD (toNat v3) default):Int) < v1 then(a0.getD (toNat v3) default) else v1) (if(v2:Int) < (a0.getD (toNat v3) default) then(a0.getD (toNat v3) default) else v2) (v3+1) (by(try simp only [Ls]);omega) (by(try simp only [Ls]);omega)
   | false =>
    have q0:=cA h0
    have e:=Eq.refl (nY a0 (v1,v2,v3));conv at e=>rhs;simp only [nY,h0,aI]
    rw [aC,e]
    exact rt [.d h0] [] [] hcx (by kernel_rfl)
def cL (a0:List (Int)):Int×Int :=
 (aB (nY a0) (toNat ((a0.length:Int) - 0)+1) ((a0.getD (toNat 0) default),(a0.getD (toNat 0) default),0))
theorem aQm (a0:List (Int))(l0:a0.length<=9223372036854775807)(hl:0 < a0.length):Con Tryz.prog 175 [(.s 0 0 a0.length 1)] [(.live false true (flat c3 a0))] (.t (k2 (cL a0))) []:=by
 refine aJ Tryz.func175 (by kernel_rfl) fun cx hcx=>?_
 have e:=Eq.refl (cL a0);conv at e=>rhs;simp only [cL]
 rw [e]
 refine en [.i 0 (a0.length),.L fX a0 0 0 1,.i 0 (a0.length),.L fX a0 0 0 1] [] [0,4,5,6] [] hcx aB4 (aB5) (xJ a0 (a0.getD (toNat 0) default) (a0.getD (toNat 0) default) 0) (toNat ((a0.length:Int) - 0)+1) (by kernel_rfl) ?_
 exact aQl a0 l0 hl hcx (toNat ((a0.length:Int) - 0)+1) (a0.getD (toNat 0) default) (a0.getD (toNat 0) default) 0 (by(try simp only [Ls]);omega) (by(try simp only [Ls]);omega)
def fY (a0:List (Int))(a1:List (Int)):Int :=
 (W ((if((if(0:Int) < (W ((cL a0).1 - (cL a1).2)) then(W ((cL a0).1 - (cL a1).2)) else 0):Int) < (W ((cL a1).1 - (cL a0).2)) then(W ((cL a1).1 - (cL a0).2)) else(if(0:Int) < (W ((cL a0).1 - (cL a1).2)) then(W ((cL a0).1 - (cL a1).2)) else 0))*(if((if(0:Int) < (W ((cL a0).1 - (cL a1).2)) then(W ((cL a0).1 - (cL a1).2)) else 0):Int) < (W ((cL a1).1 - (cL a0).2)) then(W ((cL a1).1 - (cL a0).2)) else(if(0:Int) < (W ((cL a0).1 - (cL a1).2)) then(W ((cL a0).1 - (cL a1).2)) else 0))))
theorem aB6 (a0:List (Int))(a1:List (Int))(l0:a0.length<=9223372036854775807)(l1:a1.length<=9223372036854775807)(h1:0 < a0.length)(h2:0 < a1.length):Con Tryz.prog 172 [(.s 0 0 a0.length 1),(.s 1 0 a1.length 1)] [(.live false true (flat c3 a0)),(.live false true (flat c3 a1))] (iv (fY a0 a1)) []:=by
 refine aJ Tryz.func172 (by kernel_rfl) fun cx hcx=>?_
 have e:=Eq.refl (fY a0 a1);conv at e=>rhs;simp only [fY]
 rw [e]
 exact rt [.c [0] (aQm a0 (by omega) (by(try simp only [Lt,kH,kI]);omega)),.c [1] (aQm a1 (by omega) (by(try simp only [Lt,kH,kI]);omega))] [] [] hcx (by kernel_rfl)
def iJ (a0:Zt×Zt×Zt)(a1:Zt×Zt×Zt):Int :=
 (W ((W ((fY (bZ a0 0) (bZ a1 0))+(fY (bZ a0 1) (bZ a1 1))))+(fY (bZ a0 2) (bZ a1 2))))
theorem aYh (a0:Zt×Zt×Zt)(a1:Zt×Zt×Zt):Con Tryz.prog 165 [(.a (k9 a0)),(.s 0 0 3 3)] [(.live false false (k9 a1))] (iv (iJ a0 a1)) []:=by
 refine aJ Tryz.func165 (by kernel_rfl) fun cx hcx=>?_
 have e:=Eq.refl (iJ a0 a1);conv at e=>rhs;simp only [iJ]
 rw [e]
 exact rt [.c [2] (xH a0 0),.c [0] (xH a1 0),.c [3,4] (aB6 (bZ a0 0) (bZ a1 0) (by(try simp only [Lt,kH,kI]);omega) (by(try simp only [Lt,kH,kI]);omega) (by(try simp only [Lt,kH,kI]);omega) (by(try simp only [Lt,kH,kI]);omega)),.c [2] (xH a0 1),.c [0] (xH a1 1),.c [5,6] (aB6 (bZ a0 1) (bZ a1 1) (by(try simp only [Lt,kH,kI]);omega) (by(try simp only [Lt,kH,kI]);omega) (by(try simp only [Lt,kH,kI]);omega) (by(try simp only [Lt,kH,kI]);omega)),.c [2] (xH a0 2),.c [0] (xH a1 2),.c [7,8] (aB6 (bZ a0 2) (bZ a1 2) (by(try simp only [Lt,kH,kI]);omega) (by(try simp only [Lt,kH,kI]);omega) (by(try simp only [Lt,kH,kI]);omega) (by(try simp only [Lt,kH,kI]);omega))] [] [] hcx (by kernel_rfl)
theorem aOs {n a b:Int} (ha:0<=a)(hb:0<=b)(h1:a*a<=n)(h2:n < (a+1)*(a+1))(h3:b*b<=n)(h4:n < (b+1)*(b+1)):a=b:=by
 rcases Int.lt_trichotomy a b with h | h | h
 · have:(a+1)*(a+1)<=b*b:=Int.mul_le_mul (by omega) (by omega) (by omega) hb
   omega
 · exact h
 · have:(b+1)*(b+1)<=a*a:=Int.mul_le_mul (by omega) (by omega) (by omega) ha
   omega
def IsRt (n r:Int):Prop:=0<=r/\r*r<=n/\n < (r+1)*(r+1)
theorem IsRt.eq {n a b:Int} (h:IsRt n a)(h':IsRt n b):a=b:=aOs h.1 h'.1 h.2.1 h.2.2 h'.2.1 h'.2.2
theorem IsRt.le {n r m:Int} (h:IsRt n r)(hm:0<=m)(hn:n < (m+1)*(m+1)):r<=m:=by
 rcases Int.lt_or_le m r with hlt | hle
 · have:(m+1)*(m+1)<=r*r:=Int.mul_le_mul (by omega) (by omega) (by omega) h.1
   have:=h.2.1;omega
 · exact hle
theorem IsRt.ge {n r m:Int} (h:IsRt n r)(hm:0<=m)(hn:m*m<=n):m<=r:=by
 rcases Int.lt_or_le r m with hlt | hle
 · have:(r+1)*(r+1)<=m*m:=Int.mul_le_mul (by omega) (by omega) (by have:=h.1;omega) hm
   have:=h.2.2;omega
 · exact hle
theorem IsRt.mono {n m a b:Int} (h:IsRt n a)(h':IsRt m b)(hnm:n<=m):a<=b:=h'.ge h.1 (Int.le_trans h.2.1 hnm)
theorem aEs {n:Int} {S:Int×Int->(Int×Int)⊕Int} (hS:∀k b,0<=k->0 < b->k+b<=2147483648->S (k,b)=if(k+b)*(k+b)<=n then .inl (k+b,b / 2) else .inl (k,b / 2))(h0:∀k,S (k,0)=.inr k) :
   ∀(j f:Nat) (k:Int),j+2<=f->0<=k->k+2*2 ^ j<=2147483648->k*k<=n->n < (k+2*2 ^ j)*(k+2*2 ^ j)->IsRt n (aB S f (k,2 ^ j)):=by
 intro j
 induction j with
 | zero =>
   intro f k hf hk hb h1 h2
   obtain⟨f,rfl⟩:∃g,f=g+2:=⟨f - 2,by omega⟩
   simp only [Int.pow_zero] at h2 hb ⊢
   have hs:=hS k 1 hk (by omega) (by omega)
   by_cases hc:(k+1)*(k+1)<=n
   · rw [if_pos hc] at hs
     rw [aA hs,show((1:Int) / 2)=0 by omega,aO (h0 _)]
     refine⟨by omega,hc,?_⟩
     rw [show k+1+1=k+2*1 by omega];exact h2
   · rw [if_neg hc] at hs
     rw [aA hs,show((1:Int) / 2)=0 by omega,aO (h0 _)]
     exact⟨hk,h1,by omega⟩
 | succ j ih =>
   intro f k hf hk hb h1 h2
   obtain⟨f,rfl⟩:∃g,f=g+1:=⟨f - 1,by omega⟩
   have hp:(0:Int) < 2 ^ j:=Int.pow_pos (by omega)
   rw [Int.pow_succ] at h2 hb ⊢
   have hs:=hS k (2 ^ j*2) hk (by omega) (by omega)
   have hd:(2:Int) ^ j*2 / 2=2 ^ j:=Int.mul_ediv_cancel _ (by omega)
   rw [hd] at hs
   by_cases hc:(k+2 ^ j*2)*(k+2 ^ j*2)<=n
   · rw [if_pos hc] at hs
     rw [aA hs]
     refine ih f _ (by omega) (by omega) (by omega) hc ?_
     rw [show k+2 ^ j*2+2*2 ^ j=k+2*((2:Int) ^ j*2) by omega];exact h2
   · rw [if_neg hc] at hs
     rw [aA hs]
     refine ih f _ (by omega) hk (by omega) h1 ?_
     rw [show k+2*(2:Int) ^ j=k+2 ^ j*2 by omega];omega
theorem aOt {n:Int} {S:Int×Int->(Int×Int)⊕Int} (hS:∀a b,0<=a->a < b->b<=2147483648->S (a,b)=if((a+b+1) / 2)*((a+b+1) / 2)<=n then .inl ((a+b+1) / 2,b) else .inl (a,(a+b+1) / 2 - 1))(h0:∀a,S (a,a)=.inr a) :
   ∀(f:Nat) (a b:Int),0<=a->a<=b->b<=2147483648->b - a < f->a*a<=n->n < (b+1)*(b+1)->IsRt n (aB S f (a,b)):=by
 intro f
 induction f with
 | zero=>intro a b _ h _ hf;omega
 | succ f ih =>
   intro a b ha hab hb hf h1 h2
   by_cases he:a=b
   · subst he
     rw [aO (h0 a)];exact⟨ha,h1,h2⟩
   · have hs:=hS a b ha (by omega) hb
     by_cases hc:((a+b+1) / 2)*((a+b+1) / 2)<=n
     · rw [if_pos hc] at hs
       rw [aA hs]
       exact ih _ _ (by omega) (by omega) hb (by omega) hc h2
     · rw [if_neg hc] at hs
       rw [aA hs]
       refine ih _ _ ha (by omega) (by omega) (by omega) h1 ?_
       rw [show(a+b+1) / 2 - 1+1=(a+b+1) / 2 by omega];omega
theorem aM2 {a:Int} (h:0<=a)(h':a<=2147483648):0<=a*a/\a*a<=4611686018427387904:=⟨Int.mul_nonneg h h,Int.le_trans (Int.mul_le_mul h' h' h (by omega)) (by omega)⟩
theorem aM3 {n:Int} (h0:0<=n)(h:n < 4611686018427387904):IsRt n (lA n):=by
 unfold lA
 refine aEs (n:=n) (fun k b hk hb hkb=>?_) (fun k=>?_) 30 _ 0 (by decide) (by omega) (by decide) (by omega) (by simpa using h)
 · have h2:decide (b > 0)=true:=by simpa using hb
   have hw:W (k+b)=k+b:=aE (by omega) (by omega)
   have hq:=aM2 (a:=k+b) (by omega) hkb
   have hw2:W ((k+b)*(k+b))=(k+b)*(k+b):=aE (by omega) (by omega)
   simp only [nD,h2,cond_true,hw,hw2]
   by_cases hc:(k+b)*(k+b)<=n<;>simp [hc]
 · simp [nD]
theorem xK {n:Int} (h0:0<=n)(h:n < 4611686018427387904):IsRt n (iU n):=by
 unfold iU
 rw [show decide ((4611686018427387904:Int)<=n)=false by simpa using h]
 simp only [cond_false]
 refine aEs (n:=n) (fun k b hk hb hkb=>?_) (fun k=>?_) 30 _ 0 (by decide) (by omega) (by decide) (by omega) (by simpa using h)
 · have h2:((b:Int) == 0)=false:=by rw [beq_eq_false_iff_ne];omega
   have hw:W (k+b)=k+b:=aE (by omega) (by omega)
   have hq:=aM2 (a:=k+b) (by omega) hkb
   have hw2:W ((k+b)*(k+b))=(k+b)*(k+b):=aE (by omega) (by omega)
   simp only [qK,h2,cond_false,hw,hw2]
   by_cases hc:(k+b)*(k+b)<=n<;>simp [hc]
 · simp [qK]
theorem aQn {n:Int} (h0:0<=n)(h:n < 4611686018427387904):IsRt n (iX n):=by
 unfold iX
 refine aOt (n:=n) (fun a b ha hab hb=>?_) (fun a=>?_) _ 0 2147483648 (by omega) (by omega) (by omega) (by decide) (by omega) (by omega)
 · have h2:decide (a < b)=true:=by simpa using hab
   have hw:=aFo (a:=a) (b:=b) (by omega)
   have hw3:=aMz (a:=a) (b:=b) (by omega)
   have hq:=aM2 (a:=(a+b+1) / 2) (by omega) (by omega)
   have hw2:W ((a+b+1) / 2*((a+b+1) / 2))=(a+b+1) / 2*((a+b+1) / 2):=aE (by omega) (by omega)
   have hw4:W ((a+b+1) / 2 - 1)=(a+b+1) / 2 - 1:=aE (by omega) (by omega)
   simp only [nE,h2,cond_true,hw,hw2,hw4]
   by_cases hc:(a+b+1) / 2*((a+b+1) / 2)<=n<;>simp [hc]
 · simp [nE]
abbrev P3:=Zt
abbrev PN:=P3×P3×P3
def bd (m:Int)(p:P3):Prop:=(-m<=p.1/\p.1<=m)/\(-m<=p.2.1/\p.2.1<=m)/\(-m<=p.2.2/\p.2.2<=m)
def bdP (m:Int)(p:PN):Prop:=bd m p.1/\bd m p.2.1/\bd m p.2.2
def sb (p q:P3):P3:=(p.1 - q.1,p.2.1 - q.2.1,p.2.2 - q.2.2)
def dt (p q:P3):Int:=p.1*q.1+p.2.1*q.2.1+p.2.2*q.2.2
def cr (p q:P3):P3:=(p.2.1*q.2.2 - p.2.2*q.2.1,p.2.2*q.1 - p.1*q.2.2,p.1*q.2.1 - p.2.1*q.1)
def lL (p:PN):P3:=cr (sb p.2.1 p.1) (sb p.2.2 p.1)
theorem bD {a b x y:Int} (hx:-a<=x/\x<=a)(hy:-b<=y/\y<=b):-(a*b)<=x*y/\x*y<=a*b:=by
 have h1:=Int.mul_nonneg (show 0<=a - x by omega) (show 0<=b - y by omega)
 have h2:=Int.mul_nonneg (show 0<=a+x by omega) (show 0<=b+y by omega)
 have h3:=Int.mul_nonneg (show 0<=a - x by omega) (show 0<=b+y by omega)
 have h4:=Int.mul_nonneg (show 0<=a+x by omega) (show 0<=b - y by omega)
 rw [Int.sub_mul,Int.mul_sub,Int.mul_sub] at h1
 rw [Int.add_mul,Int.mul_add,Int.mul_add] at h2
 rw [Int.sub_mul,Int.mul_add,Int.mul_add] at h3
 rw [Int.add_mul,Int.mul_sub,Int.mul_sub] at h4
 omega
theorem nZ {a b:Int} {p q:P3} (hp:bd a p)(hq:bd b q):bd (a+b) (sb p q):=by
 unfold bd at *;simp only [sb];omega
theorem jF (x:Int):0<=x*x:=by
 rcases Int.le_total 0 x with h | h
 · exact Int.mul_nonneg h h
 · exact Int.mul_nonneg_of_nonpos_of_nonpos h h
theorem vI (p:P3):0<=dt p p:=by
 have:=jF p.1;have:=jF p.2.1;have:=jF p.2.2
 simp only [dt];omega
theorem aYi {p:P3} (h:¬(p.1=0/\p.2.1=0/\p.2.2=0)):1<=dt p p:=by
 have:=jF p.1;have:=jF p.2.1;have:=jF p.2.2
 have key:∀x:Int,x≠0->1<=x*x:=fun x hx=>by
   have h0:=jF x
   have:x*x≠0:=Int.mul_ne_zero hx hx
   omega
 simp only [dt]
 by_cases h1:p.1=0
 · by_cases h2:p.2.1=0
   · have:=key p.2.2 (fun h3=>h ⟨h1,h2,h3⟩);omega
   · have:=key _ h2;omega
 · have:=key _ h1;omega
theorem aWy {a:Int} {p q:P3} (hp:bd a p)(hq:bd a q):-(3*(a*a))<=dt p q/\dt p q<=3*(a*a):=by
 have:=bD hp.1 hq.1;have:=bD hp.2.1 hq.2.1;have:=bD hp.2.2 hq.2.2
 simp only [dt];omega
theorem bBi {a:Int} {p q:P3} (hp:bd a p)(hq:bd a q):bd (2*(a*a)) (cr p q):=by
 have:=bD hp.2.1 hq.2.2;have:=bD hp.2.2 hq.2.1;have:=bD hp.2.2 hq.1;have:=bD hp.1 hq.2.2;have:=bD hp.1 hq.2.1;have:=bD hp.2.1 hq.1
 unfold bd;simp only [cr];omega
theorem fsb {p q:P3} (hp:bd 100000 p)(hq:bd 100000 q):bJ p q=sb p q:=by
 unfold bd at *;simp only [bJ,sb]
 rw [aE (by omega) (by omega),aE (by omega) (by omega),aE (by omega) (by omega)]
theorem fdt {p q:P3} (hp:bd 1000000000 p)(hq:bd 1000000000 q):jO p q=dt p q:=by
 have h1:=bD hp.1 hq.1;have h2:=bD hp.2.1 hq.2.1;have h3:=bD hp.2.2 hq.2.2
 simp only [jO,aBw,dt]
 rw [aE (n:=p.1*q.1) (by omega) (by omega),aE (n:=p.2.1*q.2.1) (by omega) (by omega),aE (n:=p.2.2*q.2.2) (by omega) (by omega),Int.zero_add,aE (n:=p.1*q.1) (by omega) (by omega),aE (n:=p.1*q.1+p.2.1*q.2.1) (by omega) (by omega),aE (by omega) (by omega)]
theorem rdt {p q:P3} (hp:bd 1000000000 p)(hq:bd 1000000000 q):cE p q=dt p q:=by
 have h1:=bD hp.1 hq.1;have h2:=bD hp.2.1 hq.2.1;have h3:=bD hp.2.2 hq.2.2
 simp only [cE,dt]
 rw [aE (n:=p.1*q.1) (by omega) (by omega),aE (n:=p.2.1*q.2.1) (by omega) (by omega),aE (n:=p.2.2*q.2.2) (by omega) (by omega),aE (n:=p.1*q.1+p.2.1*q.2.1) (by omega) (by omega),aE (by omega) (by omega)]
theorem rsb {p q:P3} (hp:bd 100000 p)(hq:bd 100000 q):aT p q=sb p q:=by
 unfold bd at *;simp only [aT,sb]
 rw [aE (by omega) (by omega),aE (by omega) (by omega),aE (by omega) (by omega)]
theorem aYj {p q:P3} (hp:bd 1000000000 p)(hq:bd 1000000000 q) :
   ((W ((W (p.2.1*q.2.2)) - (W (p.2.2*q.2.1)))),(W ((W (p.2.2*q.1)) - (W (p.1*q.2.2)))),(W ((W (p.1*q.2.1)) - (W (p.2.1*q.1)))))=cr p q:=by
 have h1:=bD hp.2.1 hq.2.2;have h2:=bD hp.2.2 hq.2.1;have h3:=bD hp.2.2 hq.1;have h4:=bD hp.1 hq.2.2;have h5:=bD hp.1 hq.2.1;have h6:=bD hp.2.1 hq.1
 simp only [cr]
 rw [aE (n:=p.2.1*q.2.2) (by omega) (by omega),aE (n:=p.2.2*q.2.1) (by omega) (by omega),aE (n:=p.2.2*q.1) (by omega) (by omega),aE (n:=p.1*q.2.2) (by omega) (by omega),aE (n:=p.1*q.2.1) (by omega) (by omega),aE (n:=p.2.1*q.1) (by omega) (by omega),
   aE (by omega) (by omega),aE (by omega) (by omega),aE (by omega) (by omega)]
theorem fcr {p q:P3} (hp:bd 1000000000 p)(hq:bd 1000000000 q):gM p q=cr p q:=aYj hp hq
theorem scr {p q:P3} (hp:bd 1000000000 p)(hq:bd 1000000000 q):aKj p q=cr p q:=aYj hp hq
theorem rcr {p q:P3} (hp:bd 1000000000 p)(hq:bd 1000000000 q):aFz p q=cr p q:=aYj hp hq
theorem ssb {p q:P3} (hp:bd 100000 p)(hq:bd 100000 q):aBv p q=sb p q:=by
 unfold bd at *;simp only [aBv,F39,sb]
 rw [aE (n:=-1*q.1) (by omega) (by omega),aE (n:=-1*q.2.1) (by omega) (by omega),aE (n:=-1*q.2.2) (by omega) (by omega),aE (by omega) (by omega),aE (by omega) (by omega),aE (by omega) (by omega)]
 refine Prod.ext (by simp only;omega) (Prod.ext (by simp only;omega) (by simp only;omega))
theorem bd.mono {a b:Int} {p:P3} (h:bd a p)(hab:a<=b):bd b p:=by unfold bd at *;omega
theorem bdP.mono {a b:Int} {p:PN} (h:bdP a p)(hab:a<=b):bdP b p:=⟨h.1.mono hab,h.2.1.mono hab,h.2.2.mono hab⟩
theorem aOu (n a b:Int):aFr n a b=decide (a<=n/\n<=b):=by
 unfold aFr
 by_cases h1:n≥a<;>by_cases h2:n<=b<;>simp [h1,h2]<;>omega
theorem aKo (n a b:Int):aF1 n a b=decide (a<=n/\n<=b):=by
 unfold aF1
 by_cases h1:n≥a<;>by_cases h2:n<=b<;>simp [h1,h2]<;>omega
theorem tN (n a b:Int):nW n a b=decide (a<=n/\n<=b):=by
 unfold nW
 by_cases h1:n≥a<;>by_cases h2:n<=b<;>simp [h1,h2]<;>omega
theorem tO (n a b:Int):F78 n a b=decide (a<=n/\n<=b):=by
 unfold F78
 by_cases h1:n≥a<;>by_cases h2:n<=b<;>simp [h1,h2]<;>omega
theorem aF5 (n a b:Int):qI n a b=decide (a<=n/\n<=b):=by
 unfold qI
 by_cases h1:a<=n<;>by_cases h2:n<=b<;>simp [h1,h2]
theorem bBj {a b c d:Prop} [Decidable a] [Decidable b] [Decidable c] [Decidable d] (h:(a/\b/\c)↔d):(bif decide a then(bif decide b then decide c else false) else false)=decide d:=by
 by_cases h1:a
 · by_cases h2:b
   · rw [bT h1,bT h2,cond_true,cond_true]
     by_cases h3:c
     · rw [bT h3,bT (h.1 ⟨h1,h2,h3⟩)]
     · rw [cJ h3,cJ (fun hd=>h3 (h.2 hd).2.2)]
   · rw [bT h1,cJ h2,cond_true,cond_false,cJ (fun hd=>h2 (h.2 hd).2.1)]
 · rw [cJ h1,cond_false,cJ (fun hd=>h1 (h.2 hd).1)]
theorem eq3 (x y z a b:Int):(bif (((x:Int) == 0)&&(((y:Int) == 0)&&(((z:Int) == 0)&&true))) then a else b)=if x=0/\y=0/\z=0 then a else b:=by
 have key:∀t:Int,(t == 0)=decide (t=0):=fun t=>by
   by_cases h:t=0
   · rw [bT h];simpa using h
   · rw [cJ h];simpa using h
 rw [key,key,key,Bool.and_true,←Bool.decide_and,←Bool.decide_and]
 by_cases h:x=0/\y=0/\z=0
 · rw [if_pos h,bT h,cond_true]
 · rw [if_neg h,cJ h,cond_false]
open Classical in
theorem lZ (p:P3):F36 p 64=decide (bd 64 p):=by
 unfold F36
 rw [aF5,aF5,aF5,aE (by omega) (by omega)]
 exact bBj (by unfold bd;omega)
open Classical in
theorem rI (p:P3):F79 p 64=decide (bd 64 p):=by
 unfold F79
 rw [tO,tO,tO,aE (by omega) (by omega)]
 exact bBj (by unfold bd;omega)
open Classical in
noncomputable def vp (p:PN):Int:=if bdP 64 p then(if(lL p).1=0/\(lL p).2.1=0/\(lL p).2.2=0 then 6 else 0) else 1
theorem aWz {p:PN} (h:bdP 64 p):nV p=lL p:=by
 have h1:=h.1.mono (show(64:Int)<=100000 by omega);have h2:=h.2.1.mono (show(64:Int)<=100000 by omega);have h3:=h.2.2.mono (show(64:Int)<=100000 by omega)
 unfold nV lL
 rw [ssb h2 h1,ssb h3 h1]
 exact scr ((nZ h.2.1 h.1).mono (by omega)) ((nZ h.2.2 h.1).mono (by omega))
theorem aQo {p:PN} (h:bdP 64 p):lK p=lL p:=by
 have h1:=h.1.mono (show(64:Int)<=100000 by omega);have h2:=h.2.1.mono (show(64:Int)<=100000 by omega);have h3:=h.2.2.mono (show(64:Int)<=100000 by omega)
 unfold lK lL
 rw [rsb h2 h1,rsb h3 h1]
 exact rcr ((nZ h.2.1 h.1).mono (by omega)) ((nZ h.2.2 h.1).mono (by omega))
theorem bBk {p:PN} (h:bdP 64 p):gM (bJ p.2.1 p.1) (bJ p.2.2 p.1)=lL p:=by
 have h1:=h.1.mono (show(64:Int)<=100000 by omega);have h2:=h.2.1.mono (show(64:Int)<=100000 by omega);have h3:=h.2.2.mono (show(64:Int)<=100000 by omega)
 unfold lL
 rw [fsb h2 h1,fsb h3 h1]
 exact fcr ((nZ h.2.1 h.1).mono (by omega)) ((nZ h.2.2 h.1).mono (by omega))
theorem aUz (p:PN):lX p=vp p:=by
 unfold lX vp
 rw [lZ,lZ,lZ]
 by_cases h1:bd 64 p.1
 · by_cases h2:bd 64 p.2.1
   · by_cases h3:bd 64 p.2.2
     · have hb:bdP 64 p:=⟨h1,h2,h3⟩
       rw [aWz hb,if_pos hb]
       rw [eq3];simp [h1,h2,h3]
     · simp [h1,h2,h3,bdP]
   · simp [h1,h2,bdP]
 · simp [h1,bdP]
theorem aU0 (p:PN):nX p=vp p:=by
 unfold nX vp
 rw [rI,rI,rI]
 by_cases h1:bd 64 p.1
 · by_cases h2:bd 64 p.2.1
   · by_cases h3:bd 64 p.2.2
     · have hb:bdP 64 p:=⟨h1,h2,h3⟩
       rw [aQo hb,if_pos hb]
       rw [eq3];simp [h1,h2,h3]
     · simp [h1,h2,h3,bdP]
   · simp [h1,h2,bdP]
 · simp [h1,bdP]
theorem gH {p:PN} (h:vp p=0):bdP 64 p/\1<=dt (lL p) (lL p):=by
 unfold vp at h
 split at h
 · rename_i hb
   split at h
   · cases h
   · rename_i hn;exact⟨hb,aYi hn⟩
 · cases h
theorem aQp {p:PN} (h:bdP 64 p):bd 32768 (lL p)/\dt (lL p) (lL p)<=3221225472:=by
 have hb:bd (2*(128*128)) (lL p):=bBi (nZ h.2.1 h.1) (nZ h.2.2 h.1)
 exact⟨hb.mono (by omega),by have:=(aWy hb hb).2;omega⟩
theorem aQq {p:PN} (h:vp p=0):∃k,lA (jO (gM (bJ p.2.1 p.1) (bJ p.2.2 p.1)) (gM (bJ p.2.1 p.1) (bJ p.2.2 p.1)))=k/\IsRt (dt (lL p) (lL p)) k/\1<=k/\k<=56755:=by
 obtain⟨hb,hd⟩:=gH h
 obtain⟨hn,hu⟩:=aQp hb
 rw [bBk hb,fdt (hn.mono (by omega)) (hn.mono (by omega))]
 have:=aM3 (n:=dt (lL p) (lL p)) (by omega) (by omega)
 exact⟨_,rfl,this,this.ge (by omega) (by omega),this.le (by omega) (by omega)⟩
theorem aQr {p:PN} (h:lX p=0):W (128*lA (jO (gM (bJ p.2.1 p.1) (bJ p.2.2 p.1)) (gM (bJ p.2.1 p.1) (bJ p.2.2 p.1))))≠0:=by
 rw [aUz] at h
 obtain⟨k,e,_,h1,h2⟩:=aQq h
 rw [e,aE (by omega) (by omega)];omega
theorem aU1 {p:PN} (h:nX p=0):W (128*sG (cE (lK p) (lK p)))≠0:=by
 rw [aU0] at h
 obtain⟨hb,hd⟩:=gH h
 obtain⟨hn,hu⟩:=aQp hb
 rw [aQo hb,rdt (hn.mono (by omega)) (hn.mono (by omega))]
 have:=aQn (n:=dt (lL p) (lL p)) (by omega) (by omega)
 have h1:=this.ge (m:=1) (by omega) (by omega)
 have h2:=this.le (m:=56755) (by omega) (by omega)
 unfold sG
 rw [aE (by omega) (by omega)];omega
end Go.Proofs.YtaeagjnpobdglaaGreat
namespace Go.Proofs.YtaeagjnpobdglaaGreat
open Go.Proofs Go.Aw Go.RowKit
set_option maxRecDepth 100000
def sS (x:PN):List PN :=
 [(aF x.1 2,aQ (aF x.1 2) (aF x.2.1 2),aQ (aF x.2.2 2) (aF x.1 2)),
  (aQ (aF x.1 2) (aF x.2.1 2),aF x.2.1 2,aQ (aF x.2.1 2) (aF x.2.2 2)),
  (aQ (aF x.2.2 2) (aF x.1 2),aQ (aF x.2.1 2) (aF x.2.2 2),aF x.2.2 2),
  (aQ (aF x.1 2) (aF x.2.1 2),aQ (aF x.2.1 2) (aF x.2.2 2),aQ (aF x.2.2 2) (aF x.1 2))]
def aDz:Nat->List PN->List PN
 | 0,l=>l
 | n+1,l=>aDz n (l.flatMap sS)
theorem zD:∀(n:Nat)(l:List PN),(aDz n l).length=4 ^ n*l.length
 | 0,l=>by simp [aDz]
 | n+1,l=>by
   have:(l.flatMap sS).length=4*l.length:=by
     induction l with
     | nil=>rfl
     | cons x l ih=>rw [List.flatMap_cons,List.length_append,ih];simp only [sS,List.length_cons,List.length_nil];omega
   rw [aDz,zD n,this,Nat.pow_succ]
   rw [←Nat.mul_assoc,Nat.mul_comm (4 ^ n) 4,Nat.mul_comm 4 (4 ^ n)]
theorem aYk (a0:PN)(a1:Int)(l:List PN):∀(f i:Nat)(nx:List PN)(d:Int),l.length - i < f->i<=l.length ->
   aB (kR a0 a1) f (l,nx,d,(i:Int))=.inl (nx++(l.drop i).flatMap sS,d+1):=by
 intro f
 induction f with
 | zero=>intro i nx d h;omega
 | succ f ih =>
   intro i nx d h hi
   by_cases hlt:i < l.length
   · have hs:kR a0 a1 (l,nx,d,(i:Int))=.inl (l,nx++sS (l.getD i default),d,((i+1:Nat):Int)):=by
       have:decide ((i:Int) < (l.length:Int))=true:=by simpa using hlt
       simp only [kR,this,cond_true,uM,sS]
       rfl
     rw [aA hs,ih _ _ _ (by omega) (by omega)]
     have hd:l.drop i=l.getD i default::l.drop (i+1):=by
       rw [List.drop_eq_getElem_cons hlt];simp [eZ,hlt]
     rw [hd,List.flatMap_cons,List.append_assoc]
   · have:decide ((i:Int) < (l.length:Int))=false:=by simpa using hlt
     have hs:kR a0 a1 (l,nx,d,(i:Int))=.inr (.inl (nx,d+1)):=by
       simp only [kR,this,cond_false]
     rw [aO hs,List.drop_of_length_le (by omega)];simp
theorem aU2 (a0:PN)(a1:Int):∀(f n:Nat)(l:List PN),n < f->aB (gN a0 a1) f (l,a1 - n)=aDz n l:=by
 intro f
 induction f with
 | zero=>intro n l h;omega
 | succ f ih =>
   intro n l h
   cases n with
   | zero =>
     have hs:gN a0 a1 (l,a1 - (0:Nat))=.inr l:=by
       have:decide (a1 - ((0:Nat):Int) < a1)=false:=by simp
       simp only [gN,this,cond_false]
     rw [aO hs];rfl
   | succ n =>
     have hs:gN a0 a1 (l,a1 - ((n+1:Nat):Int))=.inl (l.flatMap sS,a1 - (n:Nat)):=by
       have:decide (a1 - ((n+1:Nat):Int) < a1)=true:=by simp;omega
       simp only [gN,this,cond_true]
       have:=aYk a0 a1 l (toNat ((l.length:Int) - 0)+1) 0 [] (a1 - ((n+1:Nat):Int)) (by omega) (by omega)
       simp only [List.drop_zero,List.nil_append] at this
       rw [show((0:Nat):Int)=0 from rfl] at this
       rw [this,show a1 - ((n+1:Nat):Int)+1=a1 - (n:Nat) by omega]
     rw [aA hs,ih _ _ (by omega)];rfl
theorem aIx (p:PN) {d:Int} (h:0<=d):cG p d=aDz d.toNat [p]:=by
 unfold cG
 have:=aU2 p d (toNat (d - 0)+1) d.toNat [p] (by omega)
 rw [show d - (d.toNat:Int)=0 by omega] at this
 exact this
theorem aM4 (p:PN) {d:Int} (h:0<=d):(cG p d).length=4 ^ d.toNat:=by
 rw [aIx p h,zD];simp
theorem aQs {p:PN} {d:Int} (h:0<=d):((((cG p d).length:Nat)):Int)≠0:=by
 rw [aM4 p h]
 have:0 < 4 ^ d.toNat:=Nat.pow_pos (by omega)
 omega
theorem aQt {p:PN} {d:Int} (h:0<=d/\d<=3):(cG p d).length<=64:=by
 rw [aM4 p h.1]
 have:d.toNat<=3:=by omega
 calc 4 ^ d.toNat<=4 ^ 3:=Nat.pow_le_pow_right (by omega) this
   _=64:=rfl
def aB7 (x:PN):List PN:=[q1 x,q2 x,q3 x,q4 x]
theorem hG {p:P3} (h:bd 100000 p):sE p 2=(2*p.1,2*p.2.1,2*p.2.2):=by
 unfold bd at h;simp only [sE];rw [aE (by omega) (by omega),aE (by omega) (by omega),aE (by omega) (by omega)]
theorem vJ {p:P3} (h:bd 100000 p):aF p 2=(2*p.1,2*p.2.1,2*p.2.2):=by
 unfold bd at h;simp only [aF];rw [aE (by omega) (by omega),aE (by omega) (by omega),aE (by omega) (by omega)]
theorem pL {p q:P3} (hp:bd 100000 p)(hq:bd 100000 q):gS p q=(p.1+q.1,p.2.1+q.2.1,p.2.2+q.2.2):=by
 unfold bd at hp hq;simp only [gS];rw [aE (by omega) (by omega),aE (by omega) (by omega),aE (by omega) (by omega)]
theorem aQu {p q:P3} (hp:bd 100000 p)(hq:bd 100000 q):aQ (aF p 2) (aF q 2)=(p.1+q.1,p.2.1+q.2.1,p.2.2+q.2.2):=by
 rw [vJ hp,vJ hq]
 have key:∀a b:Int,(-100000<=a/\a<=100000)->(-100000<=b/\b<=100000)->W (Int.tdiv (W (2*a+2*b)) 2)=a+b:=fun a b h1 h2=>by
   rw [aE (n:=2*a+2*b) (by omega) (by omega),←Int.mul_add,Int.mul_tdiv_cancel_left _ (by omega),aE (by omega) (by omega)]
 simp only [aQ]
 rw [key _ _ hp.1 hq.1,key _ _ hp.2.1 hq.2.1,key _ _ hp.2.2 hq.2.2]
theorem aU3 {x:PN} (h:bdP 100000 x):sS x=aB7 x:=by
 unfold sS aB7 q1 q2 q3 q4
 rw [aQu h.1 h.2.1,aQu h.2.2 h.1,aQu h.2.1 h.2.2,pL h.1 h.2.1,pL h.2.2 h.1,pL h.2.1 h.2.2,vJ h.1,vJ h.2.1,vJ h.2.2,hG h.1,hG h.2.1,hG h.2.2]
theorem aU4 {m:Int} {x y:PN} (h:bdP m x)(hm:m<=100000)(hy:y∈aB7 x):bdP (2*m) y:=by
 have h1:=h.1.mono hm;have h2:=h.2.1.mono hm;have h3:=h.2.2.mono hm
 unfold aB7 q1 q2 q3 q4 at hy
 rw [pL h1 h2,pL h3 h1,pL h2 h3,hG h1,hG h2,hG h3] at hy
 have ha:=h.1;have hb:=h.2.1;have hc:=h.2.2
 unfold bd at ha hb hc
 simp only [List.mem_cons,List.mem_nil_iff,or_false] at hy
 unfold bdP bd
 rcases hy with rfl | rfl | rfl | rfl<;>simp only<;>omega
theorem gC:∀(d:Nat)(p:PN),aR (d+1) p=(aR d p).flatMap aB7
 | 0,p=>by simp [aR,aB7]
 | d+1,p=>by
   rw [show aR (d+1+1) p=aR (d+1) (q1 p)++(aR (d+1) (q2 p)++(aR (d+1) (q3 p)++aR (d+1) (q4 p))) from rfl]
   rw [gC d (q1 p),gC d (q2 p),gC d (q3 p),gC d (q4 p)]
   simp only [aR,List.flatMap_append]
theorem vK:∀(d:Nat) {m:Int} {p x:PN},bdP m p->m*2 ^ d<=100000->0<=m->x∈aR d p->bdP (m*2 ^ d) x
 | 0,m,p,x,h,_,_,hx=>by simp [aR] at hx;subst hx;simpa using h
 | d+1,m,p,x,h,hm,h0,hx=>by
   rw [gC,List.mem_flatMap] at hx
   obtain⟨y,hy,hx⟩:=hx
   have hp:(0:Int) < 2 ^ d:=Int.pow_pos (by omega)
   have hle:m*2 ^ d<=m*2 ^ (d+1):=Int.mul_le_mul_of_nonneg_left (by rw [Int.pow_succ];omega) h0
   have:=aU4 (vK d h (by omega) h0 hy) (by omega) hx
   rw [Int.pow_succ,←Int.mul_assoc,Int.mul_comm];exact this
theorem aB8 {α β:Type} {f g:α->List β}:∀{l:List α},(∀x∈l,f x=g x)->l.flatMap f=l.flatMap g
 | [],_=>rfl
 | x::l,h=>by rw [List.flatMap_cons,List.flatMap_cons,h x (by simp),aB8 (fun y hy=>h y (by simp [hy]))]
theorem aEt:∀(n:Nat)(l:List PN),aDz (n+1) l=(aDz n l).flatMap sS
 | 0,l=>rfl
 | n+1,l=>by rw [aDz,aEt n];rfl
theorem aQv {p:PN} (hp:bdP 64 p):∀d:Nat,d<=9->aDz d [p]=aR d p
 | 0,_=>rfl
 | d+1,h=>by
   rw [aEt,aQv hp d (by omega),gC]
   have hle:(64:Int)*2 ^ d<=100000:=by
     have h1:(2:Nat) ^ d<=2 ^ 9:=Nat.pow_le_pow_right (by omega) (by omega)
     have h2:(2:Int) ^ d=((2 ^ d:Nat):Int):=by simp
     omega
   exact aB8 (fun x hx=>aU3 ((vK d hp hle (by omega) hx).mono hle))
theorem bBl {p:PN} (hp:bdP 64 p) {d:Int} (h:0<=d/\d<=3):cG p d=aR d.toNat p:=by
 rw [aIx p h.1,aQv hp _ (by omega)]
theorem C94 (a0:Zt×Zt×Zt)(a1:Int):Con Tryz.prog 94 [(.a (k9 a0)),(iv a1)] [] (.f 123 [(.p 0 0),(.p 1 0)]) [(.live true false (k9 a0)),(.live true false [(iv a1)])]:=by
 refine aJ Tryz.func94 (by kernel_rfl) fun cx hcx=>?_
 exact rt [] [] [0,1] hcx (by kernel_rfl)
def bY (a0:Zt×Zt×Zt)(a1:Int):Int :=
 (bif (decide (((W ((W ((lA (W (Int.tdiv (W (3537128906555392*2 ^ (min (toNat (W (2*a1))) 64))) (W (128*(lA (jO (gM (bJ a0.2.1 a0.1) (bJ a0.2.2 a0.1)) (gM (bJ a0.2.1 a0.1) (bJ a0.2.2 a0.1)))))))))*(lA (W (Int.tdiv (W (3537128906555392*2 ^ (min (toNat (W (2*a1))) 64))) (W (128*(lA (jO (gM (bJ a0.2.1 a0.1) (bJ a0.2.2 a0.1)) (gM (bJ a0.2.1 a0.1) (bJ a0.2.2 a0.1)))))))))))*(W (128*(lA (jO (gM (bJ a0.2.1 a0.1) (bJ a0.2.2 a0.1)) (gM (bJ a0.2.1 a0.1) (bJ a0.2.2 a0.1)))))))):Int) < (W (3537128906555392*2 ^ (min (toNat (W (2*a1))) 64))))) then
  (W ((lA (W (Int.tdiv (W (3537128906555392*2 ^ (min (toNat (W (2*a1))) 64))) (W (128*(lA (jO (gM (bJ a0.2.1 a0.1) (bJ a0.2.2 a0.1)) (gM (bJ a0.2.1 a0.1) (bJ a0.2.2 a0.1)))))))))+1))
 else
  (lA (W (Int.tdiv (W (3537128906555392*2 ^ (min (toNat (W (2*a1))) 64))) (W (128*(lA (jO (gM (bJ a0.2.1 a0.1) (bJ a0.2.2 a0.1)) (gM (bJ a0.2.1 a0.1) (bJ a0.2.2 a0.1))))))))))
theorem bFd (a0:Zt×Zt×Zt)(a1:Int)(hp:lX a0=0)(ha:0<=a1/\a1<=3):Con Tryz.prog 117 [(.a (k9 a0)),(iv a1)] [] (iv (bY a0 a1)) []:=by
 refine aJ Tryz.func117 (by kernel_rfl) fun cx hcx=>?_
 let t0:List (St Tryz.prog):=[.c [] (aX3 a0.2.1 a0.1),.c [] (aX3 a0.2.2 a0.1),.c [] (bE7 (bJ a0.2.1 a0.1) (bJ a0.2.2 a0.1)),.c [] (aX2 (gM (bJ a0.2.1 a0.1) (bJ a0.2.2 a0.1)) (gM (bJ a0.2.1 a0.1) (bJ a0.2.2 a0.1))),.c [] (bA7 (jO (gM (bJ a0.2.1 a0.1) (bJ a0.2.2 a0.1)) (gM (bJ a0.2.1 a0.1) (bJ a0.2.2 a0.1)))),.p (show 0<=((W (2*a1)):Int) from by first | (rw [aE]<;>omega) | exact aQr hp),.p (show((W (128*(lA (jO (gM (bJ a0.2.1 a0.1) (bJ a0.2.2 a0.1)) (gM (bJ a0.2.1 a0.1) (bJ a0.2.2 a0.1)))))):Int)≠0 from by first | (rw [aE]<;>omega) | exact aQr hp),.c [] (bA7 (W (Int.tdiv (W (3537128906555392*2 ^ (min (toNat (W (2*a1))) 64))) (W (128*(lA (jO (gM (bJ a0.2.1 a0.1) (bJ a0.2.2 a0.1)) (gM (bJ a0.2.1 a0.1) (bJ a0.2.2 a0.1)))))))))]
 cases h0:(decide (((W ((W ((lA (W (Int.tdiv (W (3537128906555392*2 ^ (min (toNat (W (2*a1))) 64))) (W (128*(lA (jO (gM (bJ a0.2.1 a0.1) (bJ a0.2.2 a0.1)) (gM (bJ a0.2.1 a0.1) (bJ a0.2.2 a0.1)))))))))*(lA (W (Int.tdiv (W (3537128906555392*2 ^ (min (toNat (W (2*a1))) 64))) (W (128*(lA (jO (gM (bJ a0.2.1 a0.1) (bJ a0.2.2 a0.1)) (gM (bJ a0.2.1 a0.1) (bJ a0.2.2 a0.1)))))))))))*(W (128*(lA (jO (gM (bJ a0.2.1 a0.1) (bJ a0.2.2 a0.1)) (gM (bJ a0.2.1 a0.1) (bJ a0.2.2 a0.1)))))))):Int) < (W (3537128906555392*2 ^ (min (toNat (W (2*a1))) 64))))) with
 | true =>
  have q0:=bO h0
  have e:=Eq.refl (bY a0 a1);conv at e=>rhs;simp only [bY,h0,aI]
  rw [e]
  exact rt (t0++[.d h0]) [] [] hcx (by kernel_rfl)
 | false =>
  have q0:=cA h0
  have e:=Eq.refl (bY a0 a1);conv at e=>rhs;simp only [bY,h0,aI]
  rw [e]
  exact rt (t0++[.d h0]) [] [] hcx (by kernel_rfl)
def aK (a0:Zt×Zt×Zt):Zt×Zt×Zt :=
 a0
theorem aYl (a0:Zt×Zt×Zt):Con Tryz.prog 118 [(.a (k9 a0))] [] (.a (k9 (aK a0))) []:=by
 refine aJ Tryz.func118 (by kernel_rfl) fun cx hcx=>?_
 have e:=Eq.refl (aK a0);conv at e=>rhs;simp only [aK]
 rw [e]
 exact rt [] [] [] hcx (by kernel_rfl)
def aD0 (a0:Int)(a1:Int)(a2:Int):Int×Int :=
 (zW (a0,a1) a2).1
theorem bFe (a0:Int)(a1:Int)(a2:Int):Con Tryz.prog 122 [(iv a0),(iv a1),(iv a2)] [] (.a (k2 (aD0 a0 a1 a2))) []:=by
 refine aJ Tryz.func122 (by kernel_rfl) fun cx hcx=>?_
 have e:=Eq.refl (aD0 a0 a1 a2);conv at e=>rhs;simp only [aD0]
 rw [e]
 exact rt [.c [] (bE9 (a0,a1) a2)] [] [] hcx (by kernel_rfl)
noncomputable def bFf:Code:=match (fE [1,1,1,1,0,1,0] [] (Tryz.f92.body.getD .skip)).1 with
 | .rangeFunc _ _ a b=>a
 | _=>.skip
noncomputable def bFg:Code:=match (fE [1,1,1,1,0,1,0] [] (Tryz.f92.body.getD .skip)).1 with
 | .rangeFunc _ _ a b=>b
 | _=>.skip
noncomputable def bFh:List K:=(fE [1,1,1,1,0,1,0] [] (Tryz.f92.body.getD .skip)).2
def aYm (a0:Zt×Zt×Zt)(a1:Zt×Zt×Zt)(a2:Int):Int×Int->LS
 | (v1,v2)=>⟨[.u,.u,(iv a2),.u,.u,.u,(.p 0 0),(.p 1 0),(.p 2 0),(.p 3 0),(.p 4 0),(.p 5 0),.u,.u,.u,.u,.u,.u,.u,.u,.u,.u,.u,.u,.u,.u,.u,.u,.u,(.f 123 [(.p 6 0),(.p 7 0)]),.u,.u,.u,.u,.u,.u,.u,.u,.u,.u,.u,.u,.u,.u,.u,.u,.u,.u,.u,.u,.u,.u,.u,.u,.u,.u,.u,.u,.u,.u,.u,.u,.u,.u,.u,.u,.u,.u,.u,.u],[(.live true false [(iv 0),(iv 0)]),(.live true false [(iv (W (1*2 ^ (min (toNat a2) 64))))]),(.live true false [(iv (bY a0 a2))]),(.live true false (k9 (aK a1))),(.live true false [(iv v1)]),(.live true false [(iv v2)]),(.live true false (k9 a0)),(.live true false [(iv a2)])]⟩
def bBm (a0:Zt×Zt×Zt)(a1:Zt×Zt×Zt)(a2:Int):Int×Int->Zt×Zt×Zt->LS
 | (v1,v2),x=>⟨[.u,.u,.u,.u,.u,.u,.u,(.p 1 0),(.p 2 0),(.p 3 0),(.p 4 0),(.p 5 0),(.p 8 0),.u,.u,.u,.u,.u,.u,.u,.u,.u,.u,.u,.u,.u,.u,.u,.u,.u,.u,.u,.u,.u,.u,.u,.u,.u,.u,.u,.u,.u,.u,.u,.u,.u,.u,.u,.u,.u,.u,.u,.u,.u,.u,.u,.u,.u,.u,.u,.u,.u,.u,.u,.u,.u,.u,.u,.u,.u],[(.live true false [(iv 0),(iv 0)]),(.live true false [(iv (W (1*2 ^ (min (toNat a2) 64))))]),(.live true false [(iv (bY a0 a2))]),(.live true false (k9 (aK a1))),(.live true false [(iv v1)]),(.live true false [(iv v2)]),(.live true false (k9 a0)),(.live true false [(iv a2)]),(.live true false (k9 x))]⟩
def zE (a0:Zt×Zt×Zt)(a1:Zt×Zt×Zt)(a2:Int):Int×Int->Zt×Zt×Zt->Int×Int
 | (v1,v2),x =>
  (bif (decide (((bK (aK x) (aK a1)):Int) > 0)) then
   ((W (v1+(fL (bH ([(aK x).1,(aK x).2.1,(aK x).2.2]:List Zt) ([(aK a1).1,(aK a1).2.1,(aK a1).2.2]:List Zt)) (W (1*2 ^ (min (toNat a2) 64)))).1.1)),(W (v2+(if((fL (bK (aK x) (aK a1)) (W (1*2 ^ (min (toNat a2) 64)))).1.2:Int) < (bY a0 a2) then(fL (bK (aK x) (aK a1)) (W (1*2 ^ (min (toNat a2) 64)))).1.2 else(bY a0 a2)))))
  else
   ((W (v1+(fL (bH ([(aK x).1,(aK x).2.1,(aK x).2.2]:List Zt) ([(aK a1).1,(aK a1).2.1,(aK a1).2.2]:List Zt)) (W (1*2 ^ (min (toNat a2) 64)))).1.1)),(W (v2+(bY a0 a2)))))
def G92 (a0:Zt×Zt×Zt)(a1:Zt×Zt×Zt)(a2:Int):Int×Int->Int×Int
 | (v1,v2) =>
  (aD0 v1 v2 (W (1*2 ^ (min (toNat (W (2*a2))) 64))))
def F92 (a0:Zt×Zt×Zt)(a1:Zt×Zt×Zt)(a2:Int):Int×Int :=
 (G92 a0 a1 a2 ((aR (toNat a2) a0).foldl (zE a0 a1 a2) (0,0)))
theorem C92 (a0:Zt×Zt×Zt)(a1:Zt×Zt×Zt)(a2:Int)(hp:lX a0=0)(ha:0<=a2/\a2<=3):Con Tryz.prog 92 [(.a (k9 a0)),(.a (k9 a1)),(iv a2)] [] (.a (k2 (F92 a0 a1 a2))) []:=by
 have e:(F92 a0 a1 a2)=(G92 a0 a1 a2 ((aR (toNat a2) a0).foldl (zE a0 a1 a2) (0,0))):=by simp only [F92]
 rw [e]
 refine qD (n:=9) Tryz.func92 rfl (ent Tryz.func92 (by kernel_rfl) rfl) (by show 3<=Tryz.f92.ntmps;decide) (by kernel_rfl) trivial (fun cx hcx=>?_)
 refine uZ (T:=T0) hT hm (f:=5000) (orc:=[.call [] (iv (bY a0 a2)) [],.call [] (.a (k9 (aK a1))) [],.call [] (.f 123 [(.p 0 0),(.p 1 0)]) [(.live true false (k9 a0)),(.live true false [(iv a2)])]]) [] [2,6,7,8,9,10,11,29] [2,3,4,5,6,7,8,9] hcx (x:=.rangeFunc (.tmp 29) #[30] bFf bFg) (k':=bFh) (s':=aYm a0 a1 a2 (0,0))
   (obs:=[.pr (0<=(a2:Int)),.call 117 [(.a (k9 a0)),(iv a2)] [] (iv (bY a0 a2)) [],.call 118 [(.a (k9 a1))] [] (.a (k9 (aK a1))) [],.call 94 [(.a (k9 a0)),(iv a2)] [] (.f 123 [(.p 0 0),(.p 1 0)]) [(.live true false (k9 a0)),(.live true false [(iv a2)])]]) (by kernel_rfl) ⟨(show 0<=(a2:Int) from by first | omega | (rw [aE]<;>omega) | exact eE _),(bFd a0 a2  hp ha),(aYl a1),(C94 a0 a2),trivial⟩ ?_
 refine aIt (xs:=aR (toNat a2) a0) (enc:=aDw) (V:=Int×Int) (R':=Empty) hcx rfl (by decide) [6,7] [(.p 0 0),(.p 1 0)] [(.live false false (k9 a0)),(.live false false [(iv a2)])] rfl rfl (aEq a0 a2 (by first | omega | exact pair_le h0)) (fun x=>SV.a (cP x)) aBt aP8 8 (Nb rfl) (bO (by kernel_rfl))
   (aYm a0 a1 a2) (0,0) rfl (fun⟨v1,v2⟩=>(by kernel_rfl)) (by kernel_rfl) (fun v v'=>(cY (cY (cY (cY (cY (cY (cY (cY aEk))))))))) (fun⟨v1,v2⟩=>(by kernel_rfl)) (fun⟨v1,v2⟩=>(by kernel_rfl)) (fun⟨v1,v2⟩=>(Nat.le_of_ble_eq_true (by kernel_rfl)))
   (fun v x=>.inl (zE a0 a1 a2 v x)) (fun r=>r.elim) (fun v r=>r.elim) (fun r=>r.elim)
   (fun _ _=>True) trivial (bBm a0 a1 a2) (fun⟨v1,v2⟩ x=>(by kernel_rfl)) (fun⟨v1,v2⟩ x=>(by kernel_rfl)) (fun⟨v1,v2⟩ x=>(Nat.le_of_ble_eq_true (by kernel_rfl)))
   (fun cx' l i ⟨v1,v2⟩ x QA hcx' hx hinv hg=>vA (T:=T0) hT hm (f:=5000) (orc:=[]) [] [7,8,9,10,11,12] [8] hcx' (obs:=[]) (by kernel_rfl) trivial hg)
   (fun cx' l i ⟨v1,v2⟩ x QB hcx' hx hinv hb1 hb2=>?_) (fun cx' d ⟨v1,v2⟩ hh hv hinv=>?_) (fun cx' d r hh hv=>?_)
 · show Aw.Good _ _ _ _ _ _ _ (bBm a0 a1 a2 (v1,v2) x)
   cases h0:(decide (((bK (aK x) (aK a1)):Int) > 0)) with
   | true =>
     have q0:=bO h0
     have e:(Sum.inl (zE a0 a1 a2 (v1,v2) x):(Int×Int)⊕Empty)=.inl ((W (v1+(fL (bH ([(aK x).1,(aK x).2.1,(aK x).2.2]:List Zt) ([(aK a1).1,(aK a1).2.1,(aK a1).2.2]:List Zt)) (W (1*2 ^ (min (toNat a2) 64)))).1.1)),(W (v2+(if((fL (bK (aK x) (aK a1)) (W (1*2 ^ (min (toNat a2) 64)))).1.2:Int) < (bY a0 a2) then(fL (bK (aK x) (aK a1)) (W (1*2 ^ (min (toNat a2) 64)))).1.2 else(bY a0 a2))))):=by simp only [zE,h0,aI]
     refine vA (T:=T0) hT hm (f:=5000) (orc:=[.call [] (.a (k9 (aK x))) [],.call [9,3] (iv (bH ([(aK x).1,(aK x).2.1,(aK x).2.2]:List Zt) ([(aK a1).1,(aK a1).2.1,(aK a1).2.2]:List Zt))) [],.call [] (.t [(.a (k2 (fL (bH ([(aK x).1,(aK x).2.1,(aK x).2.2]:List Zt) ([(aK a1).1,(aK a1).2.1,(aK a1).2.2]:List Zt)) (W (1*2 ^ (min (toNat a2) 64)))).1)),(iv (fL (bH ([(aK x).1,(aK x).2.1,(aK x).2.2]:List Zt) ([(aK a1).1,(aK a1).2.1,(aK a1).2.2]:List Zt)) (W (1*2 ^ (min (toNat a2) 64)))).2)]) [],.call [9,3] (iv (bK (aK x) (aK a1))) [],.d true,.call [] (.t [(.a (k2 (fL (bK (aK x) (aK a1)) (W (1*2 ^ (min (toNat a2) 64)))).1)),(iv (fL (bK (aK x) (aK a1)) (W (1*2 ^ (min (toNat a2) 64)))).2)]) []]) [] [] [] hcx' (s':=⟨List.replicate 70 .u,[(.live true false [(iv 0),(iv 0)]),(.live true false [(iv (W (1*2 ^ (min (toNat a2) 64))))]),(.live true false [(iv (bY a0 a2))]),(.live true false (k9 (aK a1))),(.live true false [(iv (W (v1+(fL (bH ([(aK x).1,(aK x).2.1,(aK x).2.2]:List Zt) ([(aK a1).1,(aK a1).2.1,(aK a1).2.2]:List Zt)) (W (1*2 ^ (min (toNat a2) 64)))).1.1)))]),(.live true false [(iv (W (v2+(if((fL (bK (aK x) (aK a1)) (W (1*2 ^ (min (toNat a2) 64)))).1.2:Int) < (bY a0 a2) then(fL (bK (aK x) (aK a1)) (W (1*2 ^ (min (toNat a2) 64)))).1.2 else(bY a0 a2)))))]),(.live true false (k9 a0)),(.live true false [(iv a2)])]⟩)
       (obs:=[.call 118 [(.a (k9 x))] [] (.a (k9 (aK x))) [],.call 120 [(.s 0 0 3 3),(.s 1 0 3 3)] [(.live false false (k9 (aK x))),(.live false false (k9 (aK a1)))] (iv (bH ([(aK x).1,(aK x).2.1,(aK x).2.2]:List Zt) ([(aK a1).1,(aK a1).2.1,(aK a1).2.2]:List Zt))) [],.call 119 [(iv (bH ([(aK x).1,(aK x).2.1,(aK x).2.2]:List Zt) ([(aK a1).1,(aK a1).2.1,(aK a1).2.2]:List Zt))),(iv (W (1*2 ^ (min (toNat a2) 64))))] [] (.t [(.a (k2 (fL (bH ([(aK x).1,(aK x).2.1,(aK x).2.2]:List Zt) ([(aK a1).1,(aK a1).2.1,(aK a1).2.2]:List Zt)) (W (1*2 ^ (min (toNat a2) 64)))).1)),(iv (fL (bH ([(aK x).1,(aK x).2.1,(aK x).2.2]:List Zt) ([(aK a1).1,(aK a1).2.1,(aK a1).2.2]:List Zt)) (W (1*2 ^ (min (toNat a2) 64)))).2)]) [],.call 121 [(.s 0 0 3 3),(.s 1 0 3 3)] [(.live false false (k9 (aK x))),(.live false false (k9 (aK a1)))] (iv (bK (aK x) (aK a1))) [],.eq (decide (((bK (aK x) (aK a1)):Int) > 0)) true,.call 119 [(iv (bK (aK x) (aK a1))),(iv (W (1*2 ^ (min (toNat a2) 64))))] [] (.t [(.a (k2 (fL (bK (aK x) (aK a1)) (W (1*2 ^ (min (toNat a2) 64)))).1)),(iv (fL (bK (aK x) (aK a1)) (W (1*2 ^ (min (toNat a2) 64)))).2)]) []]) (by kernel_rfl) ⟨(aYl x),(Con.flags (bs':=[(.live false false (k9 (aK x))),(.live false false (k9 (aK a1)))]) (aIv ([(aK x).1,(aK x).2.1,(aK x).2.2]:List Zt) ([(aK a1).1,(aK a1).2.1,(aK a1).2.2]:List Zt) (by(try simp only [Lt]);omega) (by(try simp only [Lt]);omega)) rfl ⟨fD (fun _=>rfl),fD (fun _=>rfl),trivial⟩),(aX5 (bH ([(aK x).1,(aK x).2.1,(aK x).2.2]:List Zt) ([(aK a1).1,(aK a1).2.1,(aK a1).2.2]:List Zt)) (W (1*2 ^ (min (toNat a2) 64)))),(aIu (aK x) (aK a1)),h0,(aX5 (bK (aK x) (aK a1)) (W (1*2 ^ (min (toNat a2) 64)))),trivial⟩ ?_
     exact hb1 _ e trivial
   | false =>
     have q0:=cA h0
     have e:(Sum.inl (zE a0 a1 a2 (v1,v2) x):(Int×Int)⊕Empty)=.inl ((W (v1+(fL (bH ([(aK x).1,(aK x).2.1,(aK x).2.2]:List Zt) ([(aK a1).1,(aK a1).2.1,(aK a1).2.2]:List Zt)) (W (1*2 ^ (min (toNat a2) 64)))).1.1)),(W (v2+(bY a0 a2)))):=by simp only [zE,h0,aI]
     refine vA (T:=T0) hT hm (f:=5000) (orc:=[.call [] (.a (k9 (aK x))) [],.call [9,3] (iv (bH ([(aK x).1,(aK x).2.1,(aK x).2.2]:List Zt) ([(aK a1).1,(aK a1).2.1,(aK a1).2.2]:List Zt))) [],.call [] (.t [(.a (k2 (fL (bH ([(aK x).1,(aK x).2.1,(aK x).2.2]:List Zt) ([(aK a1).1,(aK a1).2.1,(aK a1).2.2]:List Zt)) (W (1*2 ^ (min (toNat a2) 64)))).1)),(iv (fL (bH ([(aK x).1,(aK x).2.1,(aK x).2.2]:List Zt) ([(aK a1).1,(aK a1).2.1,(aK a1).2.2]:List Zt)) (W (1*2 ^ (min (toNat a2) 64)))).2)]) [],.call [9,3] (iv (bK (aK x) (aK a1))) [],.d false]) [] [] [] hcx' (s':=⟨List.replicate 70 .u,[(.live true false [(iv 0),(iv 0)]),(.live true false [(iv (W (1*2 ^ (min (toNat a2) 64))))]),(.live true false [(iv (bY a0 a2))]),(.live true false (k9 (aK a1))),(.live true false [(iv (W (v1+(fL (bH ([(aK x).1,(aK x).2.1,(aK x).2.2]:List Zt) ([(aK a1).1,(aK a1).2.1,(aK a1).2.2]:List Zt)) (W (1*2 ^ (min (toNat a2) 64)))).1.1)))]),(.live true false [(iv (W (v2+(bY a0 a2))))]),(.live true false (k9 a0)),(.live true false [(iv a2)])]⟩)
       (obs:=[.call 118 [(.a (k9 x))] [] (.a (k9 (aK x))) [],.call 120 [(.s 0 0 3 3),(.s 1 0 3 3)] [(.live false false (k9 (aK x))),(.live false false (k9 (aK a1)))] (iv (bH ([(aK x).1,(aK x).2.1,(aK x).2.2]:List Zt) ([(aK a1).1,(aK a1).2.1,(aK a1).2.2]:List Zt))) [],.call 119 [(iv (bH ([(aK x).1,(aK x).2.1,(aK x).2.2]:List Zt) ([(aK a1).1,(aK a1).2.1,(aK a1).2.2]:List Zt))),(iv (W (1*2 ^ (min (toNat a2) 64))))] [] (.t [(.a (k2 (fL (bH ([(aK x).1,(aK x).2.1,(aK x).2.2]:List Zt) ([(aK a1).1,(aK a1).2.1,(aK a1).2.2]:List Zt)) (W (1*2 ^ (min (toNat a2) 64)))).1)),(iv (fL (bH ([(aK x).1,(aK x).2.1,(aK x).2.2]:List Zt) ([(aK a1).1,(aK a1).2.1,(aK a1).2.2]:List Zt)) (W (1*2 ^ (min (toNat a2) 64)))).2)]) [],.call 121 [(.s 0 0 3 3),(.s 1 0 3 3)] [(.live false false (k9 (aK x))),(.live false false (k9 (aK a1)))] (iv (bK (aK x) (aK a1))) [],.eq (decide (((bK (aK x) (aK a1)):Int) > 0)) false]) (by kernel_rfl) ⟨(aYl x),(Con.flags (bs':=[(.live false false (k9 (aK x))),(.live false false (k9 (aK a1)))]) (aIv ([(aK x).1,(aK x).2.1,(aK x).2.2]:List Zt) ([(aK a1).1,(aK a1).2.1,(aK a1).2.2]:List Zt) (by(try simp only [Lt]);omega) (by(try simp only [Lt]);omega)) rfl ⟨fD (fun _=>rfl),fD (fun _=>rfl),trivial⟩),(aX5 (bH ([(aK x).1,(aK x).2.1,(aK x).2.2]:List Zt) ([(aK a1).1,(aK a1).2.1,(aK a1).2.2]:List Zt)) (W (1*2 ^ (min (toNat a2) 64)))),(aIu (aK x) (aK a1)),h0,trivial⟩ ?_
     exact hb1 _ e trivial
 · rw [tI,Sum.inl.injEq] at hv;rw [hv]
   show Aw.Good _ _ _ _ _ _ _ (aYm a0 a1 a2 (v1,v2))
   have e:G92 a0 a1 a2 (v1,v2)=(aD0 v1 v2 (W (1*2 ^ (min (toNat (W (2*a2))) 64)))):=by simp only [G92]
   rw [e]
   exact aMv (T:=T0) hT hm (f:=5000) (orc:=[.call [] (.a (k2 (aD0 v1 v2 (W (1*2 ^ (min (toNat (W (2*a2))) 64)))))) []]) [] [] [] hh hcx
     (obs:=[.pr (0<=((W (2*a2)):Int)),.call 122 [(iv v1),(iv v2),(iv (W (1*2 ^ (min (toNat (W (2*a2))) 64))))] [] (.a (k2 (aD0 v1 v2 (W (1*2 ^ (min (toNat (W (2*a2))) 64)))))) []]) (by kernel_rfl) ⟨(show 0<=((W (2*a2)):Int) from by first | omega | (rw [aE]<;>omega) | exact eE _),(bFe v1 v2 (W (1*2 ^ (min (toNat (W (2*a2))) 64)))),trivial⟩
 · exact r.elim
noncomputable def aF6:Code:=(aD [1,1,1,1,1,1,0] [] (aG Tryz.f162) []).1
noncomputable def aF7:List K:=(aD [1,1,1,1,1,1,0] [] (aG Tryz.f162) []).2
def aAj (a0:Zt×Zt×Zt)(a1:Int)(v2 v3:Int):LS:=⟨iH 45 [(6,(iv (sG (cE (lK a0) (lK a0))))),(8,(iv (W ((W ((W (1099511627776*(W (1*2 ^ (min (toNat (IntKind.wrap .u64 a1)) 64)))))*(W (1*2 ^ (min (toNat (IntKind.wrap .u64 a1)) 64)))))*3217)))),(9,(iv v2)),(10,(iv v3))],[]⟩
def nF (a0:Zt×Zt×Zt)(a1:Int):Int×Int->(Int×Int)⊕(Int)
 | (v2,v3) =>
  (bif (decide ((v2:Int) < v3)) then
   (bif (decide (((W ((W (Int.tdiv (W (v2+v3)) 2))*(W (Int.tdiv (W (v2+v3)) 2)))):Int)≥(vH (W ((W ((W (1099511627776*(W (1*2 ^ (min (toNat (IntKind.wrap .u64 a1)) 64)))))*(W (1*2 ^ (min (toNat (IntKind.wrap .u64 a1)) 64)))))*3217)) (W (128*(sG (cE (lK a0) (lK a0)))))))) then
    (.inl (v2,(W (Int.tdiv (W (v2+v3)) 2))))
   else
    (.inl ((W ((W (Int.tdiv (W (v2+v3)) 2))+1)),v3)))
  else
   (.inr v2))
theorem aYn (a0:Zt×Zt×Zt)(a1:Int)(ha:0<=a1/\a1<=3)(hr:W (128*sG (cE (lK a0) (lK a0)))≠0) {cx:Cx} (hcx:cx.base=0):∀(n:Nat)(v2 v3:Int),(0<=v2)/\(0<=v2)/\(v2<=v3)/\(v3<=268435456)->toNat (v3 - v2) < n->Aw.Good Tryz.prog none 9 (bodyPost Tryz.prog Tryz.f162 (RR cx (iv (aB (nF a0 a1) n (v2,v3))) [] [])) cx [] (.l aF6 n::aF7) (aAj a0 a1 v2 v3):=by
 intro n
 induction n with
 | zero=>intro v2 v3 hi hn;exact absurd hn (gP _)
 | succ n ih =>
   intro v2 v3 hi hn
   refine aH ?_
   have hw:=aFp (a:=v2) (b:=v3) (by omega)
   have hw2:=aM0 (a:=v2) (b:=v3) (by omega)
   cases h0:(decide ((v2:Int) < v3)) with
   | true =>
    have q0:=bO h0
    let t1:List (St Tryz.prog):=[.d h0,.p (show(2:Int)≠0 from by decide),.c [] (aYe (W ((W ((W (1099511627776*(W (1*2 ^ (min (toNat (IntKind.wrap .u64 a1)) 64)))))*(W (1*2 ^ (min (toNat (IntKind.wrap .u64 a1)) 64)))))*3217)) (W (128*(sG (cE (lK a0) (lK a0)))))  (by(try simp only [Lt]);omega))]
    cases h1:(decide (((W ((W (Int.tdiv (W (v2+v3)) 2))*(W (Int.tdiv (W (v2+v3)) 2)))):Int)≥(vH (W ((W ((W (1099511627776*(W (1*2 ^ (min (toNat (IntKind.wrap .u64 a1)) 64)))))*(W (1*2 ^ (min (toNat (IntKind.wrap .u64 a1)) 64)))))*3217)) (W (128*(sG (cE (lK a0) (lK a0)))))))) with
    | true =>
     have q1:=bO h1
     have e:=Eq.refl (nF a0 a1 (v2,v3));conv at e=>rhs;simp only [nF,h0,h1,aI]
     rw [aA e]
     refine ba (t1++[.d h1]) [] [6,8,9,10] [] hcx (m:=n) aF6 (aF7) (aAj a0 a1 v2 (W (Int.tdiv (W (v2+v3)) 2))) (by kernel_rfl) ?_
     exact ih v2 (W (Int.tdiv (W (v2+v3)) 2)) (by refine⟨?_,?_,?_,?_⟩<;>(try simp only [Ls])<;>first | omega | assumption | simp) (by(try simp only [Ls]);omega)
    | false =>
     have q1:=cA h1
     have e:=Eq.refl (nF a0 a1 (v2,v3));conv at e=>rhs;simp only [nF,h0,h1,aI]
     rw [aA e]
     refine ba (t1++[.d h1]) [] [6,8,9,10] [] hcx (m:=n) aF6 (aF7) (aAj a0 a1 (W ((W (Int.tdiv (W (v2+v3)) 2))+1)) v3) (by kernel_rfl) ?_
     exact ih (W ((W (Int.tdiv (W (v2+v3)) 2))+1)) v3 (by refine⟨?_,?_,?_,?_⟩<;>(try simp only [Ls])<;>first | omega | assumption | simp) (by(try simp only [Ls]);omega)
   | false =>
    have q0:=cA h0
    have e:=Eq.refl (nF a0 a1 (v2,v3));conv at e=>rhs;simp only [nF,h0,aI]
    rw [aC,e]
    exact rt [.d h0] [] [] hcx (by kernel_rfl)
def tP (a0:Zt×Zt×Zt)(a1:Int):Int :=
 (aB (nF a0 a1) (toNat (268435456 - 0)+1) (0,268435456))
theorem bFi (a0:Zt×Zt×Zt)(a1:Int)(ha:0<=a1/\a1<=3)(hr:W (128*sG (cE (lK a0) (lK a0)))≠0):Con Tryz.prog 162 [(.a (k9 a0)),(iv a1)] [] (iv (tP a0 a1)) []:=by
 refine aJ Tryz.func162 (by kernel_rfl) fun cx hcx=>?_
 have e:=Eq.refl (tP a0 a1);conv at e=>rhs;simp only [tP]
 rw [e]
 refine en [.c [] (C80 a0),.c [] (aF0 (lK a0) (lK a0)),.c [] (bFb (cE (lK a0) (lK a0))),.p (show 0<=((IntKind.wrap .u64 a1):Int) from by first | omega | (rw [aE]<;>omega) | exact eE _)] [] [6,8,9,10] [] hcx aF6 (aF7) (aAj a0 a1 0 268435456) (toNat (268435456 - 0)+1) (by kernel_rfl) ?_
 exact aYn a0 a1 ha hr hcx (toNat (268435456 - 0)+1) 0 268435456 (by refine⟨?_,?_,?_,?_⟩<;>(try simp only [Ls])<;>first | omega | assumption | simp) (by(try simp only [Ls]);omega)
noncomputable def aF8:Code:=(aD [1,1,1,1,1,0,1] [] (aG Tryz.f153) []).1
noncomputable def aF9:List K:=(aD [1,1,1,1,1,0,1] [] (aG Tryz.f153) []).2
def aAk (a0:Zt×Zt×Zt)(a1:Int)(a2:Zt×Zt×Zt)(v1 v2 v3:Int):LS:=⟨iH 88 [(6,(.p 0 0)),(7,(.s 1 0 (cG a0 a1).length 9)),(8,(.s 2 0 3 3)),(9,(iv (W (1*2 ^ (min (toNat (IntKind.wrap .u64 a1)) 64))))),(10,(iv (tP a0 a1))),(11,(iv v1)),(12,(iv v2)),(13,(iv v3))],[(.live true false [(iv 0),(iv 0)]),(.live true true (flat dM (cG a0 a1))),(.live true false (k9 a2))]⟩
def mA (a0:Zt×Zt×Zt)(a1:Int)(a2:Zt×Zt×Zt):Zt->Zt⊕(Int×Int)
 | (v1,v2,v3) =>
  (bif (decide ((v3:Int) < (((cG a0 a1).length:Nat):Int))) then
   (bif (decide (((iJ ((cG a0 a1).getD (toNat v3) default) a2):Int) > 0)) then
    (.inl ((W (v1+(mK (jR ((cG a0 a1).getD (toNat v3) default) ([a2.1,a2.2.1,a2.2.2]:List Zt)) (W (1*2 ^ (min (toNat (IntKind.wrap .u64 a1)) 64)))).1.1)),(W (v2+(if((mK (iJ ((cG a0 a1).getD (toNat v3) default) a2) (W (1*2 ^ (min (toNat (IntKind.wrap .u64 a1)) 64)))).1.2:Int) < (tP a0 a1) then(mK (iJ ((cG a0 a1).getD (toNat v3) default) a2) (W (1*2 ^ (min (toNat (IntKind.wrap .u64 a1)) 64)))).1.2 else(tP a0 a1)))),(v3+1)))
   else
    (.inl ((W (v1+(mK (jR ((cG a0 a1).getD (toNat v3) default) ([a2.1,a2.2.1,a2.2.2]:List Zt)) (W (1*2 ^ (min (toNat (IntKind.wrap .u64 a1)) 64)))).1.1)),(W (v2+(tP a0 a1))),(v3+1))))
  else
   (.inr ((tM v1 (((cG a0 a1).length:Nat):Int)),(vH v2 (((cG a0 a1).length:Nat):Int)))))
theorem aYo (a0:Zt×Zt×Zt)(a1:Int)(a2:Zt×Zt×Zt)(ha:0<=a1/\a1<=3)(hr:W (128*sG (cE (lK a0) (lK a0)))≠0) {cx:Cx} (hcx:cx.base=0):∀(n:Nat)(v1 v2 v3:Int),0<=v3->toNat ((((cG a0 a1).length:Nat):Int) - v3) < n->Aw.Good Tryz.prog none 9 (bodyPost Tryz.prog Tryz.f153 (RR cx (.a (k2 (aB (mA a0 a1 a2) n (v1,v2,v3)))) [] [])) cx [] (.l aF8 n::aF9) (aAk a0 a1 a2 v1 v2 v3):=by
 intro n
 induction n with
 | zero=>intro v1 v2 v3 hi hn;exact absurd hn (gP _)
 | succ n ih =>
   intro v1 v2 v3 hi hn
   refine aH ?_
   have hcl:=aQt (p:=a0) ha
   cases h0:(decide ((v3:Int) < (((cG a0 a1).length:Nat):Int))) with
   | true =>
    have q0:=bO h0
    let t1:List (St Tryz.prog):=[.d h0,.i v3 ((cG a0 a1).length),.L cW (cG a0 a1) v3 0 9,.c [2] (Con.flags (bs':=[(.live false false (k9 a2))]) (aYg ((cG a0 a1).getD (toNat v3) default) ([a2.1,a2.2.1,a2.2.2]:List Zt) (by(try simp only [Lt]);omega)) rfl ⟨fD (fun _=>rfl),trivial⟩),.c [] (bBd (jR ((cG a0 a1).getD (toNat v3) default) ([a2.1,a2.2.1,a2.2.2]:List Zt)) (W (1*2 ^ (min (toNat (IntKind.wrap .u64 a1)) 64)))),.i v3 ((cG a0 a1).length),.L cW (cG a0 a1) v3 0 9,.c [2] (aYh ((cG a0 a1).getD (toNat v3) default) a2)]
    cases h1:(decide (((iJ ((cG a0 a1).getD (toNat v3) default) a2):Int) > 0)) with
    | true =>
     have q1:=bO h1
     have e:=Eq.refl (mA a0 a1 a2 (v1,v2,v3));conv at e=>rhs;simp only [mA,h0,h1,aI]
     rw [aA e]
     refine ba (t1++[.d h1,.c [] (bBd (iJ ((cG a0 a1).getD (toNat v3) default) a2) (W (1*2 ^ (min (toNat (IntKind.wrap .u64 a1)) 64))))]) [] [6,7,8,9,10,11,12,13] [0,1,2] hcx (m:=n) aF8 (aF9) (aAk a0 a1 a2 (W (v1+(mK (jR ((cG a0 a1).getD (toNat v3) default) ([a2.1,a2.2.1,a2.2.2]:List Zt)) (W (1*2 ^ (min (toNat (IntKind.wrap .u64 a1)) 64)))).1.1)) (W (v2+(if((mK (iJ ((cG a0 a1).getD (toNat v3) default) a2) (W (1*2 ^ (min (toNat (IntKind.wrap .u64 a1)) 64)))).1.2:Int) < (tP a0 a1) then(mK (iJ ((cG a0 a1).getD (toNat v3) default) a2) (W (1*2 ^ (min (toNat (IntKind.wrap .u64 a1)) 64)))).1.2 else(tP a0 a1)))) (W (v3+1))) (by kernel_rfl) ?_
     have z0:(W (v3+1))=(v3+1):=aE (by omega) (by omega)
     rw [z0]
     exact ih (W (v1+(mK (jR ((cG a0 a1).getD (toNat v3) default) ([a2.1,a2.2.1,a2.2.2]:List Zt)) (W (1*2 ^ (min (toNat (IntKind.wrap .u64 a1)) 64)))).1.1)) (W (v2+(if((mK (iJ ((cG a0 a1).getD (toNat v3) default) a2) (W (1*2 ^ (min (toNat (IntKind.wrap .u64 a1)) 64)))).1.2:Int) < (tP a0 a1) then(mK (iJ ((cG a0 a1).getD (toNat v3) default) a2) (W (1*2 ^ (min (toNat (IntKind.wrap .u64 a1)) 64)))).1.2 else(tP a0 a1)))) (v3+1) (by(try simp only [Ls]);omega) (by(try simp only [Ls]);omega)
    | false =>
     have q1:=cA h1
     have e:=Eq.refl (mA a0 a1 a2 (v1,v2,v3));conv at e=>rhs;simp only [mA,h0,h1,aI]
     rw [aA e]
     refine ba (t1++[.d h1]) [] [6,7,8,9,10,11,12,13] [0,1,2] hcx (m:=n) aF8 (aF9) (aAk a0 a1 a2 (W (v1+(mK (jR ((cG a0 a1).getD (toNat v3) default) ([a2.1,a2.2.1,a2.2.2]:List Zt)) (W (1*2 ^ (min (toNat (IntKind.wrap .u64 a1)) 64)))).1.1)) (W (v2+(tP a0 a1))) (W (v3+1))) (by kernel_rfl) ?_
     have z0:(W (v3+1))=(v3+1):=aE (by omega) (by omega)
     rw [z0]
     exact ih (W (v1+(mK (jR ((cG a0 a1).getD (toNat v3) default) ([a2.1,a2.2.1,a2.2.2]:List Zt)) (W (1*2 ^ (min (toNat (IntKind.wrap .u64 a1)) 64)))).1.1)) (W (v2+(tP a0 a1))) (v3+1) (by(try simp only [Ls]);omega) (by(try simp only [Ls]);omega)
   | false =>
    have q0:=cA h0
    have e:=Eq.refl (mA a0 a1 a2 (v1,v2,v3));conv at e=>rhs;simp only [mA,h0,aI]
    rw [aC,e]
    exact rt [.d h0,.c [] (aYd v1 (((cG a0 a1).length:Nat):Int)  (aQs (by omega))),.c [] (aYe v2 (((cG a0 a1).length:Nat):Int)  (aQs (by omega)))] [] [] hcx (by kernel_rfl)
def vL (a0:Zt×Zt×Zt)(a1:Int)(a2:Zt×Zt×Zt):Int×Int :=
 (aB (mA a0 a1 a2) (toNat ((((cG a0 a1).length:Nat):Int) - 0)+1) (0,0,0))
theorem bBn (a0:Zt×Zt×Zt)(a1:Int)(a2:Zt×Zt×Zt)(ha:0<=a1/\a1<=3)(hr:W (128*sG (cE (lK a0) (lK a0)))≠0):Con Tryz.prog 153 [(.a (k9 a0)),(iv a1),(.a (k9 a2))] [] (.a (k2 (vL a0 a1 a2))) []:=by
 refine aJ Tryz.func153 (by kernel_rfl) fun cx hcx=>?_
 have e:=Eq.refl (vL a0 a1 a2);conv at e=>rhs;simp only [vL]
 rw [e]
 refine en [.c [] (bBh a0 a1  (by(try simp only [Lt]);omega)),.p (show 0<=((IntKind.wrap .u64 a1):Int) from by first | omega | (rw [aE]<;>omega) | exact eE _),.c [] (bFi a0 a1  ha hr)] [] [6,7,8,9,10,11,12,13] [2,3,4] hcx aF8 (aF9) (aAk a0 a1 a2 0 0 0) (toNat ((((cG a0 a1).length:Nat):Int) - 0)+1) (by kernel_rfl) ?_
 exact aYo a0 a1 a2 ha hr hcx (toNat ((((cG a0 a1).length:Nat):Int) - 0)+1) 0 0 0 (by(try simp only [Ls]);omega) (by(try simp only [Ls]);omega)
def mx (a b:Int):Int:=if a < b then b else a
theorem qM {a b c:Int} (h:a<=c)(h':b<=c):mx a b<=c:=by unfold mx;split<;>assumption
theorem dG (a b:Int):a<=mx a b:=by unfold mx;split<;>omega
theorem kS (a b:Int):b<=mx a b:=by unfold mx;split<;>omega
def ds (p q:P3):Int:=dt (sb p q) (sb p q)
def fF (p q:P3):Int:=jO (bJ p q) (bJ p q)
theorem vM {p q:P3} (hp:bd 5000 p)(hq:bd 5000 q):fF p q=ds p q:=by
 unfold fF ds
 rw [fsb (hp.mono (by omega)) (hq.mono (by omega))]
 exact fdt ((nZ hp hq).mono (by omega)) ((nZ hp hq).mono (by omega))
def rF (p q:P3):Int:=cE (aT p q) (aT p q)
theorem vN {p q:P3} (hp:bd 5000 p)(hq:bd 5000 q):rF p q=ds p q:=by
 unfold rF ds
 rw [rsb (hp.mono (by omega)) (hq.mono (by omega))]
 exact rdt ((nZ hp hq).mono (by omega)) ((nZ hp hq).mono (by omega))
theorem bBo (c:PN)(x y z:P3):bH [c.1,c.2.1,c.2.2] [x,y,z] =
   mx (mx (mx (mx (mx (mx (mx (mx (mx 0 (fF c.1 x)) (fF c.1 y)) (fF c.1 z)) (fF c.2.1 x)) (fF c.2.1 y)) (fF c.2.1 z)) (fF c.2.2 x)) (fF c.2.2 y)) (fF c.2.2 z):=by
 rfl
theorem xL (c:PN)(l:List P3)(v:Int)(i:Nat)(h:i < l.length) :
   bR c l (v,(i:Int))=.inl (mx (mx (mx v (rF c.1 (l.getD i default))) (rF c.2.1 (l.getD i default))) (rF c.2.2 (l.getD i default)),((i+1:Nat):Int)):=by
 have h0:decide ((i:Int) < (l.length:Int))=true:=by simpa using h
 simp only [bR,h0,cond_true,uM]
 have key:∀q:P3,(bif decide (rF c.1 q > v) then bif decide (rF c.2.1 q > rF c.1 q) then bif decide (rF c.2.2 q > rF c.2.1 q) then Sum.inl (rF c.2.2 q,(i:Int)+1) else Sum.inl (rF c.2.1 q,(i:Int)+1) else bif decide (rF c.2.2 q > rF c.1 q) then Sum.inl (rF c.2.2 q,(i:Int)+1) else Sum.inl (rF c.1 q,(i:Int)+1)
   else bif decide (rF c.2.1 q > v) then bif decide (rF c.2.2 q > rF c.2.1 q) then Sum.inl (rF c.2.2 q,(i:Int)+1) else Sum.inl (rF c.2.1 q,(i:Int)+1) else bif decide (rF c.2.2 q > v) then Sum.inl (rF c.2.2 q,(i:Int)+1) else Sum.inl (v,(i:Int)+1))
   = (Sum.inl (mx (mx (mx v (rF c.1 q)) (rF c.2.1 q)) (rF c.2.2 q),((i:Int)+1)):(Int×Int)⊕Int):=by
   intro q
   generalize rF c.1 q=a1;generalize rF c.2.1 q=a2;generalize rF c.2.2 q=a3
   unfold mx
   by_cases h1:a1 > v
   · rw [bT h1,cond_true,if_pos h1]
     by_cases h2:a2 > a1
     · rw [bT h2,cond_true,if_pos h2]
       by_cases h3:a3 > a2
       · rw [bT h3,cond_true,if_pos h3]
       · rw [cJ h3,cond_false,if_neg h3]
     · rw [cJ h2,cond_false,if_neg h2]
       by_cases h3:a3 > a1
       · rw [bT h3,cond_true,if_pos h3]
       · rw [cJ h3,cond_false,if_neg h3]
   · rw [cJ h1,cond_false,if_neg h1]
     by_cases h2:a2 > v
     · rw [bT h2,cond_true,if_pos h2]
       by_cases h3:a3 > a2
       · rw [bT h3,cond_true,if_pos h3]
       · rw [cJ h3,cond_false,if_neg h3]
     · rw [cJ h2,cond_false,if_neg h2]
       by_cases h3:a3 > v
       · rw [bT h3,cond_true,if_pos h3]
       · rw [cJ h3,cond_false,if_neg h3]
 exact key (l.getD i default)
theorem aQw (c:PN)(l:List P3)(v:Int):bR c l (v,(l.length:Int))=.inr v:=by
 have h0:decide ((l.length:Int) < (l.length:Int))=false:=by simp
 simp only [bR,h0,cond_false]
theorem bBp (c:PN)(x y z:P3):jR c [x,y,z] =
   mx (mx (mx (mx (mx (mx (mx (mx (mx 0 (rF c.1 x)) (rF c.2.1 x)) (rF c.2.2 x)) (rF c.1 y)) (rF c.2.1 y)) (rF c.2.2 y)) (rF c.1 z)) (rF c.2.1 z)) (rF c.2.2 z):=by
 unfold jR
 have e0:=xL c [x,y,z] 0 0 (by simp)
 have e1:=xL c [x,y,z] (mx (mx (mx 0 (rF c.1 x)) (rF c.2.1 x)) (rF c.2.2 x)) 1 (by simp)
 have e2:=xL c [x,y,z] (mx (mx (mx (mx (mx (mx 0 (rF c.1 x)) (rF c.2.1 x)) (rF c.2.2 x)) (rF c.1 y)) (rF c.2.1 y)) (rF c.2.2 y)) 2 (by simp)
 have e3:=aQw c [x,y,z] (mx (mx (mx (mx (mx (mx (mx (mx (mx 0 (rF c.1 x)) (rF c.2.1 x)) (rF c.2.2 x)) (rF c.1 y)) (rF c.2.1 y)) (rF c.2.2 y)) (rF c.1 z)) (rF c.2.1 z)) (rF c.2.2 z))
 rw [show toNat ((([x,y,z]:List P3).length:Int) - 0)+1=4 from rfl,show((0,0):Int×Int)=(0,((0:Nat):Int)) from rfl,aA e0]
 refine(aA e1).trans ?_
 refine(aA e2).trans ?_
 exact aO e3
theorem aQx (a b c d e f g h i:Int):mx (mx (mx (mx (mx (mx (mx (mx (mx 0 a) b) c) d) e) f) g) h) i=mx (mx (mx (mx (mx (mx (mx (mx (mx 0 a) d) g) b) e) h) c) f) i:=by
 have key:∀a b c:Int,mx (mx a b) c=mx (mx a c) b:=fun a b c=>by unfold mx;repeat' split<;>omega
 rw [key _ c d,key _ b d,key _ f g,key _ e g,key _ c g,key _ b g]
 rw [key _ c e,key _ f h,key _ c h]
def zZ (a b c:Int):Int:=if c < (if b < (if a < a then a else a) then b else(if a < a then a else a)) then c else(if b < (if a < a then a else a) then b else(if a < a then a else a))
def hi3 (a b c:Int):Int:=if(if(if a < a then a else a) < b then b else(if a < a then a else a)) < c then c else(if(if a < a then a else a) < b then b else(if a < a then a else a))
theorem mB (a b c:Int):zZ a b c<=a/\zZ a b c<=b/\zZ a b c<=c:=by
 unfold zZ;simp only [Int.lt_irrefl,if_false];split<;>split at *<;>omega
theorem mC (a b c:Int):a<=hi3 a b c/\b<=hi3 a b c/\c<=hi3 a b c:=by
 unfold hi3;simp only [Int.lt_irrefl,if_false];split<;>split at *<;>omega
theorem aGa (a b c:Int):zZ a b c=a\/zZ a b c=b\/zZ a b c=c:=by
 unfold zZ;simp only [Int.lt_irrefl,if_false];split<;>split at *<;>omega
theorem aGb (a b c:Int):hi3 a b c=a\/hi3 a b c=b\/hi3 a b c=c:=by
 unfold hi3;simp only [Int.lt_irrefl,if_false];split<;>split at *<;>omega
def gp (a b c d:Int):Int:=mx (mx 0 (c - b)) (a - d)
theorem aB9 (a b c d:Int):0<=gp a b c d:=Int.le_trans (dG 0 _) (dG _ _)
theorem aU5 (a b c d:Int):gp c d a b=gp a b c d:=by unfold gp mx;repeat' split<;>omega
def nr (a b c d:P3):Int:=gp a.1 b.1 c.1 d.1*gp a.1 b.1 c.1 d.1+gp a.2.1 b.2.1 c.2.1 d.2.1*gp a.2.1 b.2.1 c.2.1 d.2.1+gp a.2.2 b.2.2 c.2.2 d.2.2*gp a.2.2 b.2.2 c.2.2 d.2.2
def oS (c:PN):P3:=(zZ c.1.1 c.2.1.1 c.2.2.1,zZ c.1.2.1 c.2.1.2.1 c.2.2.2.1,zZ c.1.2.2 c.2.1.2.2 c.2.2.2.2)
def oT (c:PN):P3:=(hi3 c.1.1 c.2.1.1 c.2.2.1,hi3 c.1.2.1 c.2.1.2.1 c.2.2.2.1,hi3 c.1.2.2 c.2.1.2.2 c.2.2.2.2)
theorem aGc {m:Int} {c:PN} (h:bdP m c):bd m (oS c):=by
 have h1:=aGa c.1.1 c.2.1.1 c.2.2.1;have h2:=aGa c.1.2.1 c.2.1.2.1 c.2.2.2.1;have h3:=aGa c.1.2.2 c.2.1.2.2 c.2.2.2.2
 have ha:=h.1;have hb:=h.2.1;have hc:=h.2.2
 unfold bd at *;simp only [oS];omega
theorem aGd {m:Int} {c:PN} (h:bdP m c):bd m (oT c):=by
 have h1:=aGb c.1.1 c.2.1.1 c.2.2.1;have h2:=aGb c.1.2.1 c.2.1.2.1 c.2.2.2.1;have h3:=aGb c.1.2.2 c.2.1.2.2 c.2.2.2.2
 have ha:=h.1;have hb:=h.2.1;have hc:=h.2.2
 unfold bd at *;simp only [oT];omega
theorem bBq (c:PN):aP c=(oS c,oT c):=rfl
theorem aQy {a b c d:Int} (ha:-5000<=a/\a<=5000)(hb:-5000<=b/\b<=5000)(hc:-5000<=c/\c<=5000)(hd:-5000<=d/\d<=5000):lY a b c d=gp a b c d:=by
 unfold lY
 rw [aE (n:=c - b) (by omega) (by omega),aE (n:=a - d) (by omega) (by omega)];rfl
theorem aCa {a b c d:Int} (ha:-5000<=a/\a<=5000)(hb:-5000<=b/\b<=5000)(hc:-5000<=c/\c<=5000)(hd:-5000<=d/\d<=5000):0<=gp a b c d/\gp a b c d<=10000 :=
 ⟨aB9 _ _ _ _,qM (qM (by omega) (by omega)) (by omega)⟩
theorem nrF {a b c d:P3} (ha:bd 5000 a)(hb:bd 5000 b)(hc:bd 5000 c)(hd:bd 5000 d) :
   jO (lY a.1 b.1 c.1 d.1,lY a.2.1 b.2.1 c.2.1 d.2.1,lY a.2.2 b.2.2 c.2.2 d.2.2) (lY a.1 b.1 c.1 d.1,lY a.2.1 b.2.1 c.2.1 d.2.1,lY a.2.2 b.2.2 c.2.2 d.2.2)=nr a b c d:=by
 rw [aQy ha.1 hb.1 hc.1 hd.1,aQy ha.2.1 hb.2.1 hc.2.1 hd.2.1,aQy ha.2.2 hb.2.2 hc.2.2 hd.2.2]
 have h1:=aCa ha.1 hb.1 hc.1 hd.1;have h2:=aCa ha.2.1 hb.2.1 hc.2.1 hd.2.1;have h3:=aCa ha.2.2 hb.2.2 hc.2.2 hd.2.2
 have hv:bd 1000000000 (gp a.1 b.1 c.1 d.1,gp a.2.1 b.2.1 c.2.1 d.2.1,gp a.2.2 b.2.2 c.2.2 d.2.2):=by unfold bd;simp only;omega
 rw [fdt hv hv];rfl
theorem aYp {c q:PN} (hc:bdP 5000 c)(hq:bdP 5000 q):bK c q=nr (oS c) (oT c) (oS q) (oT q):=by
 unfold bK
 rw [bBq,bBq]
 exact nrF (aGc hc) (aGd hc) (aGc hq) (aGd hq)
theorem rJ (a b c:Int):cL [a,b,c]=(zZ a b c,hi3 a b c):=rfl
theorem aQz {l m:List Int} {a b c d:Int} (hl:cL l=(a,b))(hm:cL m=(c,d))(ha:-5000<=a/\a<=5000)(hb:-5000<=b/\b<=5000)(hc:-5000<=c/\c<=5000)(hd:-5000<=d/\d<=5000) :
   fY l m=gp a b c d*gp a b c d:=by
 unfold fY
 rw [hl,hm]
 simp only
 rw [aE (n:=a - d) (by omega) (by omega),aE (n:=c - b) (by omega) (by omega)]
 have e:(if((if(0:Int) < a - d then a - d else 0):Int) < c - b then c - b else(if(0:Int) < a - d then a - d else 0))=gp a b c d:=aU5 a b c d
 rw [e]
 have h1:=aCa ha hb hc hd
 have h2:=bD (a:=10000) (b:=10000) (x:=gp a b c d) (y:=gp a b c d) (by omega) (by omega)
 exact aE (by omega) (by omega)
theorem bFj {a b c:Int} (ha:0<=a/\a<=100000000)(hb:0<=b/\b<=100000000)(hc:0<=c/\c<=100000000):W ((W (a+b))+c)=a+b+c:=by
 rw [aE (n:=a+b) (by omega) (by omega),aE (by omega) (by omega)]
theorem aYq {c q:PN} (hc:bdP 5000 c)(hq:bdP 5000 q):iJ c q=nr (oS c) (oT c) (oS q) (oT q):=by
 unfold iJ
 have hl:=aGc hc;have hh:=aGd hc;have kl:=aGc hq;have kh:=aGd hq
 have g1:=aQz (l:=bZ c 0) (m:=bZ q 0) (rJ c.1.1 c.2.1.1 c.2.2.1) (rJ q.1.1 q.2.1.1 q.2.2.1) hl.1 hh.1 kl.1 kh.1
 have g2:=aQz (l:=bZ c 1) (m:=bZ q 1) (rJ c.1.2.1 c.2.1.2.1 c.2.2.2.1) (rJ q.1.2.1 q.2.1.2.1 q.2.2.2.1) hl.2.1 hh.2.1 kl.2.1 kh.2.1
 have g3:=aQz (l:=bZ c 2) (m:=bZ q 2) (rJ c.1.2.2 c.2.1.2.2 c.2.2.2.2) (rJ q.1.2.2 q.2.1.2.2 q.2.2.2.2) hl.2.2 hh.2.2 kl.2.2 kh.2.2
 have b1:=aCa hl.1 hh.1 kl.1 kh.1;have b2:=aCa hl.2.1 hh.2.1 kl.2.1 kh.2.1;have b3:=aCa hl.2.2 hh.2.2 kl.2.2 kh.2.2
 have m1:=bD (a:=10000) (b:=10000) (by omega) (by omega) (x:=gp (oS c).1 (oT c).1 (oS q).1 (oT q).1) (y:=gp (oS c).1 (oT c).1 (oS q).1 (oT q).1)
 have m2:=bD (a:=10000) (b:=10000) (by omega) (by omega) (x:=gp (oS c).2.1 (oT c).2.1 (oS q).2.1 (oT q).2.1) (y:=gp (oS c).2.1 (oT c).2.1 (oS q).2.1 (oT q).2.1)
 have m3:=bD (a:=10000) (b:=10000) (by omega) (by omega) (x:=gp (oS c).2.2 (oT c).2.2 (oS q).2.2 (oT q).2.2) (y:=gp (oS c).2.2 (oT c).2.2 (oS q).2.2 (oT q).2.2)
 rw [show fY (bZ c 0) (bZ q 0)=_ from g1,show fY (bZ c 1) (bZ q 1)=_ from g2,show fY (bZ c 2) (bZ q 2)=_ from g3]
 exact bFj ⟨jF _,by have:=m1.2;exact this⟩ ⟨jF _,by have:=m2.2;exact this⟩ ⟨jF _,by have:=m3.2;exact this⟩
open Classical in
noncomputable def pk (p q:PN)(d:Int):Int:=if vp p=0 then(if vp q=0 then(if 0<=d/\d<=2 then 0 else 1) else vp q) else vp p
theorem aQ0 (v w:Int)(b:Prop) [Decidable b]:(bif (v != 0) then v else(bif (w != 0) then w else(bif (!(decide b)) then(1:Int) else 0)))=if v=0 then(if w=0 then(if b then 0 else 1) else w) else v:=by
 by_cases hv:v=0
 · subst hv
   by_cases hw:w=0
   · subst hw;by_cases hb:b<;>simp [hb]
   · rw [bne_iff_ne.2 hw,cond_true,if_neg hw];simp
 · rw [bne_iff_ne.2 hv,cond_true,if_neg hv]
theorem aAl (p q:PN)(d:Int):xF p q d=pk p q d:=by
 unfold xF pk
 rw [aUz,aUz,aOu,aQ0]
theorem rK (p q:PN)(d:Int):mL p q d=pk p q d:=by
 unfold mL pk
 rw [aU0,aU0,aKo,aQ0]
theorem vO {p q:PN} {d:Int} (h:pk p q d=0):vp p=0/\vp q=0/\0<=d/\d<=2:=by
 unfold pk at h
 split at h
 · rename_i h0
   split at h
   · rename_i h1
     split at h
     · rename_i h2;exact⟨h0,h1,h2⟩
     · cases h
   · rename_i h1;exact absurd h h1
 · rename_i h0;exact absurd h h0
theorem aM5 {p q:PN} {d:Int} (h:((xF p q d:Int) != 0)=false):vp p=0/\vp q=0/\0<=d/\d<=2 :=
 vO (by rw [←aAl];simpa using h)
theorem aM6 {p q:PN} {d:Int} (h:((xF p q d:Int) != 0)=false):lX p=0:=by
 rw [aUz];exact(aM5 h).1
theorem pair_le {p q:PN} {d:Int} (h:((xF p q d:Int) != 0)=false):0<=d/\d<=3:=by have:=aM5 h;omega
theorem xM {p q:PN} {d:Int} (h:((mL p q d:Int) != 0)=false):0<=d/\d<=3:=by
 have:=vO (p:=p) (q:=q) (d:=d) (by rw [←rK];simpa using h);omega
theorem aEu {p q:PN} {d:Int} (h:((mL p q d:Int) != 0)=false):W (128*sG (cE (lK p) (lK p)))≠0 :=
 aU1 (by rw [aU0];exact(vO (p:=p) (q:=q) (d:=d) (by rw [←rK];simpa using h)).1)
def uK (a0:Zt×Zt×Zt)(a1:Zt×Zt×Zt)(a2:Int):(Int×Int)×Int :=
 (bif (((xF a0 a1 a2):Int) != 0) then
  ((0,0),(xF a0 a1 a2))
 else
  ((F92 a0 ((sE a1.1 (W (1*2 ^ (min (toNat a2) 64)))),(sE a1.2.1 (W (1*2 ^ (min (toNat a2) 64)))),(sE a1.2.2 (W (1*2 ^ (min (toNat a2) 64))))) a2),0))
theorem C60 (a0:Zt×Zt×Zt)(a1:Zt×Zt×Zt)(a2:Int):Con Tryz.prog 60 [(.a (k9 a0)),(.a (k9 a1)),(iv a2)] [] (.t [(.a (k2 (uK a0 a1 a2).1)),(iv (uK a0 a1 a2).2)]) []:=by
 refine aJ Tryz.func60 (by kernel_rfl) fun cx hcx=>?_
 let t0:List (St Tryz.prog):=[.c [] (C91 a0 a1 a2)]
 cases h0:(((xF a0 a1 a2):Int) != 0) with
 | true =>
  have q0:=bne_iff_ne.1 h0
  have e:=Eq.refl (uK a0 a1 a2);conv at e=>rhs;simp only [uK,h0,aI]
  rw [e]
  exact rt (t0++[.d h0]) [] [] hcx (by kernel_rfl)
 | false =>
  have q0:=bne_eq_false_iff_eq.1 h0
  have e:=Eq.refl (uK a0 a1 a2);conv at e=>rhs;simp only [uK,h0,aI]
  rw [e]
  exact rt (t0++[.d h0,.p (show 0<=(a2:Int) from by exact(pair_le h0).1),.c [] (C93 a1.1 (W (1*2 ^ (min (toNat a2) 64)))),.c [] (C93 a1.2.1 (W (1*2 ^ (min (toNat a2) 64)))),.c [] (C93 a1.2.2 (W (1*2 ^ (min (toNat a2) 64)))),.c [] (C92 a0 ((sE a1.1 (W (1*2 ^ (min (toNat a2) 64)))),(sE a1.2.1 (W (1*2 ^ (min (toNat a2) 64)))),(sE a1.2.2 (W (1*2 ^ (min (toNat a2) 64))))) a2  (aM6 h0) (pair_le h0))]) [] [] hcx (by kernel_rfl)
def mD (a0:Zt×Zt×Zt)(a1:Zt×Zt×Zt)(a2:Int):(Int×Int)×Int :=
 (bif (((mL a0 a1 a2):Int) != 0) then
  ((0,0),(mL a0 a1 a2))
 else
  ((vL a0 a2 ((aF a1.1 (W (1*2 ^ (min (toNat (IntKind.wrap .u64 a2)) 64)))),(aF a1.2.1 (W (1*2 ^ (min (toNat (IntKind.wrap .u64 a2)) 64)))),(aF a1.2.2 (W (1*2 ^ (min (toNat (IntKind.wrap .u64 a2)) 64)))))),0))
theorem bFk (a0:Zt×Zt×Zt)(a1:Zt×Zt×Zt)(a2:Int):Con Tryz.prog 135 [(.a (k9 a0)),(.a (k9 a1)),(iv a2)] [] (.t [(.a (k2 (mD a0 a1 a2).1)),(iv (mD a0 a1 a2).2)]) []:=by
 refine aJ Tryz.func135 (by kernel_rfl) fun cx hcx=>?_
 let t0:List (St Tryz.prog):=[.c [] (bBg a0 a1 a2)]
 cases h0:(((mL a0 a1 a2):Int) != 0) with
 | true =>
  have q0:=bne_iff_ne.1 h0
  have e:=Eq.refl (mD a0 a1 a2);conv at e=>rhs;simp only [mD,h0,aI]
  rw [e]
  exact rt (t0++[.d h0]) [] [] hcx (by kernel_rfl)
 | false =>
  have q0:=bne_eq_false_iff_eq.1 h0
  have e:=Eq.refl (mD a0 a1 a2);conv at e=>rhs;simp only [mD,h0,aI]
  rw [e]
  exact rt (t0++[.d h0,.p (show 0<=((IntKind.wrap .u64 a2):Int) from by first | omega | (rw [aE]<;>omega) | exact eE _),.c [] (aOr a1.1 (W (1*2 ^ (min (toNat (IntKind.wrap .u64 a2)) 64)))),.c [] (aOr a1.2.1 (W (1*2 ^ (min (toNat (IntKind.wrap .u64 a2)) 64)))),.c [] (aOr a1.2.2 (W (1*2 ^ (min (toNat (IntKind.wrap .u64 a2)) 64)))),.c [] (bBn a0 a2 ((aF a1.1 (W (1*2 ^ (min (toNat (IntKind.wrap .u64 a2)) 64)))),(aF a1.2.1 (W (1*2 ^ (min (toNat (IntKind.wrap .u64 a2)) 64)))),(aF a1.2.2 (W (1*2 ^ (min (toNat (IntKind.wrap .u64 a2)) 64)))))  (xM h0) (aEu h0))]) [] [] hcx (by kernel_rfl)
end Go.Proofs.YtaeagjnpobdglaaGreat
