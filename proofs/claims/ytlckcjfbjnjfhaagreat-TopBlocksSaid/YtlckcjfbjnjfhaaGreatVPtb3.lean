/-
  Parts of the proofs of the laws: the executor, what functions of the program compute, and that it is what the statements ask. No premise.
-/
import Derived.Test.YtlckcjfbjnjfhaaGreatVPtb2
import Derived.Test.YtlckcjfbjnjfhaaGreatRows
import Derived.Shelf.Abstract
import Derived.ProofKit
import Derived.OpenShut
set_option linter.unusedVariables false
set_option linter.unusedSimpArgs false
set_option maxHeartbeats 4000000
open Int renaming toNat → tN
open Inhabited renaming default → dF
namespace Go.Aw
open Go.RowKit
mutual
def SV.hasB (i:Nat):SV->Bool
 | .p j _=>j == i
 | .s j _ _ _=>j == i
 | .m j=>j == i
 | .f _ caps=>SV.hasBl i caps
 | .a l=>SV.hasBl i l
 | .t l=>SV.hasBl i l
 | _=>false
def SV.hasBl (i:Nat):List SV->Bool
 | []=>false
 | x::l=>SV.hasB i x || SV.hasBl i l
end
mutual
theorem aXn {i:Nat}:∀(x:SV),x.has i->x.hasB i=true
 | .u,h=>by simp [SV.has] at h
 | .b _,h=>by simp [SV.has] at h
 | .v _,h=>by simp [SV.has] at h
 | .d _ _ _,h=>by simp [SV.has] at h
 | .p j _,h=>by simp only [SV.has] at h;simp [SV.hasB,h]
 | .s j _ _ _,h=>by simp only [SV.has] at h;simp [SV.hasB,h]
 | .m j,h=>by simp only [SV.has] at h;simp [SV.hasB,h]
 | .f _ caps,h=>by simp only [SV.has] at h;simp only [SV.hasB];exact hasl_B caps h
 | .a l,h=>by simp only [SV.has] at h;simp only [SV.hasB];exact hasl_B l h
 | .t l,h=>by simp only [SV.has] at h;simp only [SV.hasB];exact hasl_B l h
theorem hasl_B {i:Nat}:∀(l:List SV),SV.hasl i l->SV.hasBl i l=true
 | [],h=>by simp [SV.hasl] at h
 | x::l,h=>by
  simp only [SV.hasl] at h
  simp only [SV.hasBl,Bool.or_eq_true]
  exact h.imp (aXn x) (hasl_B l)
end
def BK.hasB (i:Nat):BK->Bool
 | .live _ false cells=>SV.hasBl i cells
 | .map es=>SV.hasBl i (jG es)
 | _=>false
theorem aY1 {i:Nat} {x:BK} (hpl:x.pl)(h:x.has i):x.hasB i=true:=by
 cases x with
 | un=>exact h.elim
 | dead=>exact h.elim
 | map es=>exact hasl_B _ h
 | live own sym cells =>
  cases sym with
  | true=>exact(hpl i h).elim
  | false=>exact hasl_B _ h
section
variable {P : Program} {ρ : Env} {W : World} {M : Nat → Prop}
theorem aIm {α:Type} {c:α->List SV} {es:Nat} (hc:∀x,(c x).length=es) {l:List α} {a b:Int} (hab:0<=a/\a<=b/\b<=l.length) {i:Nat} {y:Value}
 (hr:Rel ρ (.s i (0+a.toNat*es) (b.toNat - a.toNat) es) y) (hb:BRep ρ M W i (.live false true (flat c l))) (hpl:Plain (flat c l)) :
 ∃q,∀(k:Nat) (ρ2:Env),ρ2 k=q->ρ2.fz=ρ.fz->Rel ρ2 (.s k 0 (part l a b).length es) y/\BRep ρ2 M W k (.live false true (flat c (part l a b))):=by
 have hl:=part_len hab
 have hf:flat c (part l a b)=((flat c l).drop (a.toNat*es)).take ((b.toNat - a.toNat)*es):=by rw [oB hc,oC hc];rfl
 simp only [Rel] at hr
 rcases hr with⟨h1,h2,h3⟩ | ⟨b0,o,N,cap,off',sp,h1,h2,h3,h4,h5⟩
 ·refine⟨none,fun k ρ2 hq hfz=>⟨?_,.inl ⟨hq,?_⟩⟩⟩
  ·simp only [Rel];exact .inl ⟨hq,by omega,h3⟩
  ·rw [hf,h2];simp
 ·refine⟨some (b0,o+off',cap*es),fun k ρ2 hq hfz=>⟨?_,?_⟩⟩
  ·simp only [Rel]
   exact .inr ⟨b0,o+off',cap*es,cap,0,sp,hq,by rw [hl,Nat.add_zero];exact h2,by rw [hl];exact h3,by omega,fun hc=>⟨rfl,(h5 hc).2⟩⟩
  ·rcases hb with⟨e1,_⟩ | ⟨b1,o1,n1,vs,e1,⟨e2,e3⟩,e4,e5⟩
   ·rw [h1] at e1;cases e1
   ·rw [h1] at e1
    simp only [aX,dE] at e1
    obtain⟨rfl,rfl,rfl⟩:=e1
    have hle:(b.toNat - a.toNat)*es<=cap*es:=Nat.mul_le_mul_right _ h3
    refine .inr ⟨b0,o+off',cap*es,(vs.drop (a.toNat*es)).take ((b.toNat - a.toNat)*es),hq,⟨by rw [List.length_take];omega,fun hne hM=>?_⟩,?_,fun t x hx=>?_⟩
    ·rw [hfz]
     exact e3 (fun e=>hne (by rw [e];simp)) hM
    ·rw [hf]
     have hp2:Plain (((flat c l).drop (a.toNat*es)).take ((b.toNat - a.toNat)*es)):=fun j hj=>hpl j (iI (iH hj))
     exact Plain.congr (fun b o ho=>by rw [hfz];exact ho) hp2 (Rels.take _ (Rels.drop _ e4))
    ·have ht:=(List.getElem?_eq_some_iff.1 hx).1
     rw [List.length_take] at ht
     rw [List.getElem?_take_of_lt (by omega),List.getElem?_drop] at hx
     have hcap:cap≠0:=by
      intro e
      rw [e] at hle
      omega
     rw [(h5 hcap).1,show o+(0+a.toNat*es)+t=o+(a.toNat*es+t) by omega]
     exact e5 _ x hx
theorem xJ {ρ ρ2:Env} {x y:SV}:∀{pre post:List SV} {vs:List Value},Rels ρ (pre++x::post) vs->ρ.le ρ2->(∀j,SV.hasl j pre\/SV.hasl j post->ρ2 j=ρ j)->(∃v,vs[pre.length]? = some v/\Rel ρ2 y v)->Rels ρ2 (pre++y::post) vs
 | [],post,[],h,_,_,_=>by simp [Rels] at h
 | [],post,v::vs,h,hf,hj,hx=>by
  simp only [List.nil_append,Rels] at h ⊢
  obtain⟨v',e,hx⟩:=hx
  simp only [List.length_nil,List.getElem?_cons_zero,aX] at e
  subst e
  exact⟨hx,Rels.congr hf _ _ (fun j hk=>hj j (.inr hk)) h.2⟩
 | z::pre,post,[],h,_,_,_=>by simp [Rels] at h
 | z::pre,post,v::vs,h,hf,hj,hx=>by
  simp only [List.cons_append,Rels] at h ⊢
  refine⟨Rel.congr hf _ _ (fun j hk=>hj j (.inl (by simp only [SV.hasl];exact .inl hk))) h.1,xJ h.2 hf (fun j hk=>hj j ?_) ?_⟩
  ·rcases hk with hk | hk
   ·exact .inl (by simp only [SV.hasl];exact .inr hk)
   ·exact .inr hk
  ·obtain⟨v',e,hx⟩:=hx
   exact⟨v',by simpa using e,hx⟩
theorem aFu {x:SV}:∀{pre post:List SV} {vs:List Value},Rels ρ (pre++x::post) vs->∃v,vs[pre.length]? = some v/\Rel ρ x v
 | [],_,[],h=>by simp [Rels] at h
 | [],_,v::_,h=>by simp only [List.nil_append,Rels] at h;exact⟨v,rfl,h.1⟩
 | _::_,_,[],h=>by simp [Rels] at h
 | _::pre,_,_::_,h=>by
  simp only [List.cons_append,Rels] at h
  obtain⟨v,e,hx⟩:=aFu h.2
  exact⟨v,by simpa using e,hx⟩
theorem eT {x:BK} {bs1 bs2:List BK} (j:Nat):(bs1++x::bs2).getD j .un=if j=bs1.length then x else if j < bs1.length then bs1.getD j .un else bs2.getD (j - bs1.length - 1) .un:=by
 simp only [cV]
 by_cases h:j=bs1.length
 ·subst h;simp
 ·rw [if_neg h]
  by_cases h2:j < bs1.length
  ·rw [if_pos h2,List.getElem?_append_left h2]
  ·rw [if_neg h2,List.getElem?_append_right (by omega)]
   obtain⟨k,hk⟩:∃k,j - bs1.length=k+1:=⟨j - bs1.length - 1,by omega⟩
   rw [hk];simp
theorem Con.part {f:Nat} {pre post:List SV} {bs1 bs2 nb:List BK} {res:SV} {α:Type} {c:α->List SV} {es:Nat} {l:List α} {a b:Int} (i:Nat)(hc:∀x,(c x).length=es)(hab:0<=a/\a<=b/\b<=l.length)(hi:bs1.length=i)
 (hno:(!SV.hasBl i pre&&!SV.hasBl i post&&bs1.all (fun x=>!x.hasB i)&&bs2.all (fun x=>!x.hasB i)&&nb.all (fun x=>!x.hasB i)&&!res.hasB i)=true)
 (h:Con P f (pre++.s i 0 (Aw.part l a b).length es::post) (bs1++.live false true (flat c (Aw.part l a b))::bs2) res nb) :
 Con P f (pre++.s i (0+a.toNat*es) (b.toNat - a.toNat) es::post) (bs1++.live false true (flat c l)::bs2) res nb:=by
 subst hi
 simp only [Bool.and_eq_true,Bool.not_eq_true',List.all_eq_true] at hno
 obtain⟨⟨⟨⟨⟨n1,n2⟩,n3⟩,n4⟩,n5⟩,n6⟩:=hno
 refine⟨h.1,fun ρ W vs hr hb hpl hap hfz=>?_⟩
 obtain⟨y,hy,hry⟩:=aFu hr
 have hbi:=hb bs1.length
 have hpi:=hpl bs1.length
 rw [eT,if_pos rfl] at hbi hpi
 obtain⟨q,hq⟩:=aIm hc hab hry hbi hpi
 have hne:∀j,j≠bs1.length->(ρ.set bs1.length q) j=ρ j:=fun j hj=>by rw [Env.set_loc,if_neg hj]
 have hat:(ρ.set bs1.length q) bs1.length=q:=by rw [Env.set_loc,if_pos rfl]
 have hown:sW (ρ.set bs1.length q) (bs1++.live false true (flat c (Aw.part l a b))::bs2)=sW ρ (bs1++.live false true (flat c l)::bs2):=by
  funext b0
  apply propext
  unfold sW
  constructor
  ·rintro ⟨j,n,h1,h2⟩
   rw [eT] at h1
   by_cases hj:j=bs1.length
   ·rw [if_pos hj] at h1;exact h1.elim
   ·refine⟨j,n,?_,by rw [←hne j hj];exact h2⟩
    rw [eT,if_neg hj];rw [if_neg hj] at h1;exact h1
  ·rintro ⟨j,n,h1,h2⟩
   rw [eT] at h1
   by_cases hj:j=bs1.length
   ·rw [if_pos hj] at h1;exact h1.elim
   ·refine⟨j,n,?_,by rw [hne j hj];exact h2⟩
    rw [eT,if_neg hj];rw [if_neg hj] at h1;exact h1
 have hmine:(aZ (ρ.set bs1.length q) W (bs1++.live false true (flat c (Aw.part l a b))::bs2)).mine=(aZ ρ W (bs1++.live false true (flat c l)::bs2)).mine:=by
  funext b0
  unfold Cx.mine aZ
  simp only [hown]
 obtain⟨g1,g2⟩:=hq bs1.length (ρ.set bs1.length q) hat rfl
 have blk:∀j,j≠bs1.length->(bs1++BK.live false true (flat c (Aw.part l a b))::bs2).getD j .un=(bs1++BK.live false true (flat c l)::bs2).getD j .un:=fun j hj=>by rw [eT,eT,if_neg hj,if_neg hj]
 have nohas:∀j,j≠bs1.length->¬((bs1++BK.live false true (flat c l)::bs2).getD j .un).has bs1.length:=fun j hj hk=>by
  have hB:=aY1 (hpl j) hk
  rw [eT,if_neg hj] at hB
  split at hB
  ·rename_i hlt
   rw [cV,List.getElem?_eq_getElem hlt,Option.getD_some] at hB
   rw [n3 _ (List.getElem_mem hlt)] at hB;cases hB
  ·by_cases hlt:j - bs1.length - 1 < bs2.length
   ·rw [cV,List.getElem?_eq_getElem hlt,Option.getD_some] at hB
    rw [n4 _ (List.getElem_mem hlt)] at hB;cases hB
   ·rw [cV,List.getElem?_eq_none (by omega),Option.getD_none] at hB;cases hB
 have nol:∀{m:List SV},SV.hasBl bs1.length m=false->∀j,SV.hasl j m->j≠bs1.length:=fun hm j hj e=>by
  subst e;rw [hasl_B _ hj] at hm;cases hm
 have hcall:=h.2 (ρ.set bs1.length q) W vs ?_ ?_ ?_ ?_ ?_
 ·refine hcall.mono fun e W' hR=>?_
  obtain⟨ρ',v,r1,r2,r3,r4,r5,r6,r7,r8,r9⟩:=hR
  have hbase:(aZ (ρ.set bs1.length q) W (bs1++.live false true (flat c (Aw.part l a b))::bs2)).base=(aZ ρ W (bs1++.live false true (flat c l)::bs2)).base:=by simp [aZ]
  have hlt:bs1.length < (aZ ρ W (bs1++.live false true (flat c l)::bs2)).base:=by simp [aZ]
  rw [hbase] at r2 r5 r6 r7 r9
  rw [hmine] at r5 r9
  have hnb:∀j,¬(cI (aZ ρ W (bs1++.live false true (flat c l)::bs2)).base [] nb j).has bs1.length:=fun j hk=>by
   have hB:=aY1 (r6 j) hk
   unfold cI at hB
   split at hB
   ·simp [BK.hasB] at hB
   ·rename_i hge
    by_cases hl2:j - (aZ ρ W (bs1++.live false true (flat c l)::bs2)).base < nb.length
    ·rw [cV,List.getElem?_eq_getElem hl2,Option.getD_some] at hB
     rw [n5 _ (List.getElem_mem hl2)] at hB;cases hB
    ·rw [cV,List.getElem?_eq_none (by omega),Option.getD_none] at hB;cases hB
  have ho:∀j,(cI (aZ ρ W (bs1++.live false true (flat c l)::bs2)).base [] nb j).own->j≠bs1.length:=fun j hj e=>by
   subst e
   unfold cI at hj
   rw [if_pos hlt] at hj
   exact hj
  have hs:∀j,j≠bs1.length->(ρ'.set bs1.length (ρ bs1.length)) j=ρ' j:=fun j hj=>by rw [Env.set_loc,if_neg hj]
  refine⟨ρ'.set bs1.length (ρ bs1.length),v,r1,fun j hj=>?_,?_,?_,fun j=>?_,r6,fun j k b1 m1 b2 m2 hjk o1 o2 e1 e2=>?_,?_,fun b0 o0 hf0=>?_⟩
  ·by_cases hji:j=bs1.length
   ·subst hji;rw [Env.set_loc,if_pos rfl];rfl
   ·rw [hs j hji,r2 j hj];exact hne j hji
  ·exact Rel.congr (ρ'.le_set _ _) _ _ (fun j hk=>hs j (fun e=>by subst e;rw [aXn _ hk] at n6;cases n6)) r3
  ·have:(aZ (ρ.set bs1.length q) W (bs1++.live false true (flat c (Aw.part l a b))::bs2)).own=(aZ ρ W (bs1++.live false true (flat c l)::bs2)).own:=hown
   rw [this] at r4;exact r4
  ·by_cases hji:j=bs1.length
   ·subst hji
    unfold cI
    rw [if_pos hlt];trivial
   ·exact BRep.congr (ρ'.le_set _ _) (hs j hji) (fun k hk=>hs k (fun e=>by subst e;exact hnb j hk)) (r5 j)
  ·rw [hs j (ho j o1)] at e1
   rw [hs k (ho k o2)] at e2
   exact r7 j k b1 m1 b2 m2 hjk o1 o2 e1 e2
  ·exact r8
  ·obtain⟨t1,t2,t3⟩:=r9 b0 o0 hf0
   exact⟨t1,fun j n hj=>by rw [hs j (ho j hj)];exact t2 j n hj,t3⟩
 ·refine xJ hr (ρ.le_set _ _) (fun j hj=>hne j ?_) ⟨y,hy,g1⟩
  rcases hj with hj | hj
  ·exact nol n1 j hj
  ·exact nol n2 j hj
 ·intro j
  rw [hmine]
  by_cases hj:j=bs1.length
  ·rw [hj,eT,if_pos rfl];exact g2
  ·rw [blk j hj]
   exact BRep.congr (ρ.le_set _ _) (hne j hj) (fun k hk=>hne k (fun e=>by subst e;exact nohas j hj hk)) (hb j)
 ·intro j
  by_cases hj:j=bs1.length
  ·rw [hj,eT,if_pos rfl]
   show Plain _
   have hf:flat c (Aw.part l a b)=((flat c l).drop (a.toNat*es)).take ((b.toNat - a.toNat)*es):=by rw [oB hc,oC hc];rfl
   rw [hf]
   exact fun k hk=>hpi k (iI (iH hk))
  ·rw [blk j hj];exact hpl j
 ·intro j k b1 m1 b2 m2 hjk o1 o2 e1 e2
  have hj:j≠bs1.length:=fun e=>by rw [e,eT,if_pos rfl] at o1;exact o1
  have hk:k≠bs1.length:=fun e=>by rw [e,eT,if_pos rfl] at o2;exact o2
  rw [blk j hj] at o1
  rw [blk k hk] at o2
  rw [hne j hj] at e1
  rw [hne k hk] at e2
  exact hap j k b1 m1 b2 m2 hjk o1 o2 e1 e2
 ·intro b0 o0 hf0
  obtain⟨t1,t2⟩:=hfz b0 o0 hf0
  refine⟨t1,fun j n hj=>?_⟩
  have hji:j≠bs1.length:=fun e=>by rw [e,eT,if_pos rfl] at hj;exact hj
  rw [blk j hji] at hj
  rw [hne j hji]
  exact t2 j n hj
theorem lF {x:BK} {bs:List BK} (j:Nat):(bs++[x]).getD j .un=if j=bs.length then x else bs.getD j .un:=by
 rw [eT (bs2:=[])]
 by_cases h:j=bs.length
 ·rw [if_pos h,if_pos h]
 ·rw [if_neg h,if_neg h]
  by_cases h2:j < bs.length
  ·rw [if_pos h2]
  ·rw [if_neg h2]
   simp only [cV]
   rw [List.getElem?_eq_none (by omega:bs.length<=j)];simp
theorem Con.alias {f:Nat} {pre post:List SV} {bs:List BK} {res:SV} {α:Type} {c:α->List SV} {es:Nat} {l:List α} {a b:Int} (i:Nat)(hc:∀x,(c x).length=es)(hab:0<=a/\a<=b/\b<=l.length)
 (hi:bs[i]? = some (.live false true (flat c l)))
 (hno:(!SV.hasBl bs.length pre&&!SV.hasBl bs.length post&&bs.all (fun x=>!x.hasB bs.length)&&!res.hasB bs.length)=true)
 (h:Con P f (pre++.s bs.length 0 (Aw.part l a b).length es::post) (bs++[.live false true (flat c (Aw.part l a b))]) res []) :
 Con P f (pre++.s i (0+a.toNat*es) (b.toNat - a.toNat) es::post) bs res []:=by
 simp only [Bool.and_eq_true,Bool.not_eq_true',List.all_eq_true] at hno
 obtain⟨⟨⟨n1,n2⟩,n3⟩,n6⟩:=hno
 refine⟨h.1,fun ρ W vs hr hb hpl hap hfz=>?_⟩
 have hilt:=(List.getElem?_eq_some_iff.1 hi).1
 have hgi:bs.getD i .un=.live false true (flat c l):=by rw [cV,hi];rfl
 obtain⟨y,hy,hry⟩:=aFu hr
 have hbi:=hb i
 have hpi:=hpl i
 rw [hgi] at hbi hpi
 obtain⟨q,hq⟩:=aIm hc hab hry hbi hpi
 have hne:∀j,j≠bs.length->(ρ.set bs.length q) j=ρ j:=fun j hj=>by rw [Env.set_loc,if_neg hj]
 have hat:(ρ.set bs.length q) bs.length=q:=by rw [Env.set_loc,if_pos rfl]
 have hend:bs.getD bs.length .un=.un:=by rw [cV,List.getElem?_eq_none (Nat.le_refl _)];rfl
 have hown:sW (ρ.set bs.length q) (bs++[.live false true (flat c (Aw.part l a b))])=sW ρ bs:=by
  funext b0
  apply propext
  unfold sW
  constructor
  ·rintro ⟨j,n,h1,h2⟩
   rw [lF] at h1
   by_cases hj:j=bs.length
   ·rw [if_pos hj] at h1;exact h1.elim
   ·rw [if_neg hj] at h1
    exact⟨j,n,h1,by rw [←hne j hj];exact h2⟩
  ·rintro ⟨j,n,h1,h2⟩
   have hj:j≠bs.length:=fun e=>by rw [e,hend] at h1;exact h1
   exact⟨j,n,by rw [lF,if_neg hj];exact h1,by rw [hne j hj];exact h2⟩
 have hmine:(aZ (ρ.set bs.length q) W (bs++[.live false true (flat c (Aw.part l a b))])).mine=(aZ ρ W bs).mine:=by
  funext b0
  unfold Cx.mine aZ
  simp only [hown]
 obtain⟨g1,g2⟩:=hq bs.length (ρ.set bs.length q) hat rfl
 have nohas:∀j,¬(bs.getD j .un).has bs.length:=fun j hk=>by
  have hB:=aY1 (hpl j) hk
  by_cases hlt:j < bs.length
  ·rw [cV,List.getElem?_eq_getElem hlt,Option.getD_some] at hB
   rw [n3 _ (List.getElem_mem hlt)] at hB;cases hB
  ·rw [cV,List.getElem?_eq_none (by omega),Option.getD_none] at hB;cases hB
 have nol:∀{m:List SV},SV.hasBl bs.length m=false->∀j,SV.hasl j m->j≠bs.length:=fun hm j hj e=>by
  subst e;rw [hasl_B _ hj] at hm;cases hm
 have hcall:=h.2 (ρ.set bs.length q) W vs ?_ ?_ ?_ ?_ ?_
 ·refine hcall.mono fun e W' hR=>?_
  obtain⟨ρ',v,r1,r2,r3,r4,r5,r6,r7,r8,r9⟩:=hR
  have un1:∀j,cI (aZ ρ W bs).base [] [] j=.un:=fun j=>by unfold cI;simp
  have un2:∀j,cI (aZ (ρ.set bs.length q) W (bs++[.live false true (flat c (Aw.part l a b))])).base [] [] j=.un:=fun j=>by unfold cI;simp
  refine⟨ρ',v,r1,fun j hj=>?_,r3,?_,fun j=>?_,fun j=>?_,fun j k b1 m1 b2 m2 hjk o1 o2 e1 e2=>?_,r8,fun b0 o0 hf0=>?_⟩
  ·have hj':j < bs.length:=hj
   rw [r2 j (by simp [aZ];omega)];exact hne j (by omega)
  ·have:(aZ (ρ.set bs.length q) W (bs++[.live false true (flat c (Aw.part l a b))])).own=(aZ ρ W bs).own:=hown
   rw [this] at r4;exact r4
  ·rw [un1];trivial
  ·rw [un1];trivial
  ·rw [un1] at o1;exact o1.elim
  ·obtain⟨t1,t2,t3⟩:=r9 b0 o0 hf0
   rw [hmine] at t3
   exact⟨t1,fun j n hj=>by rw [un1] at hj;exact hj.elim,t3⟩
 ·refine xJ hr (ρ.le_set _ _) (fun j hj=>hne j ?_) ⟨y,hy,g1⟩
  rcases hj with hj | hj
  ·exact nol n1 j hj
  ·exact nol n2 j hj
 ·intro j
  rw [hmine,lF]
  by_cases hj:j=bs.length
  ·rw [if_pos hj,hj];exact g2
  ·rw [if_neg hj]
   exact BRep.congr (ρ.le_set _ _) (hne j hj) (fun k hk=>hne k (fun e=>by subst e;exact nohas j hk)) (hb j)
 ·intro j
  rw [lF]
  by_cases hj:j=bs.length
  ·rw [if_pos hj]
   show Plain _
   have hf:flat c (Aw.part l a b)=((flat c l).drop (a.toNat*es)).take ((b.toNat - a.toNat)*es):=by rw [oB hc,oC hc];rfl
   rw [hf]
   exact fun k hk=>hpi k (iI (iH hk))
  ·rw [if_neg hj];exact hpl j
 ·intro j k b1 m1 b2 m2 hjk o1 o2 e1 e2
  rw [lF] at o1 o2
  have hj:j≠bs.length:=fun e=>by rw [if_pos e] at o1;exact o1
  have hk:k≠bs.length:=fun e=>by rw [if_pos e] at o2;exact o2
  rw [if_neg hj] at o1
  rw [if_neg hk] at o2
  rw [hne j hj] at e1
  rw [hne k hk] at e2
  exact hap j k b1 m1 b2 m2 hjk o1 o2 e1 e2
 ·intro b0 o0 hf0
  obtain⟨t1,t2⟩:=hfz b0 o0 hf0
  refine⟨t1,fun j n hj=>?_⟩
  rw [lF] at hj
  have hji:j≠bs.length:=fun e=>by rw [if_pos e] at hj;exact hj
  rw [if_neg hji] at hj
  rw [hne j hji]
  exact t2 j n hj
end
def aKu (T:Nat->Option TI)(rv:List ResultVar)(base:Nat)(ms ks:List Nat):Option (Out×List Ob×List Or)->Option (SV×List BK×List BK×List Ob)
 | some (.norm s,obs,[])=>match fin T rv base ms ks s with
  | some (res,nb,mb)=>some (res,nb,mb,obs)
  | none=>none
 | _=>none
theorem aVd {P:Program} {T:Nat->Option TI} {cx:Cx} {n:Nat} (hT:kC P T)(hm:P.follows .mixedOrders=true) {fn:Func} {f:Nat} {k:List K} {s:LS} {orc:List Or} (ads:List Adj)(ms ks:List Nat) {base:Nat} (hb:cx.base=base) {res:SV} {nb mb:List BK} {obs:List Ob}
 (h:aKu T fn.results.toList base ms ks (mL ads (run T f k s orc))=some (res,nb,mb,obs)) (hob:Obs P obs):Good P none n (bodyPost P fn (RR cx res nb mb)) cx [] k s:=by
 subst hb
 unfold aKu at h
 split at h
 ·rename_i s' obs' hrun
  split at h
  ·rename_i res' nb' mb' hf
   simp only [aX,dE] at h
   obtain⟨rfl,rfl,rfl,rfl⟩:=h
   obtain⟨o',hr,hg⟩:=pA (P:=P) (r:=none) (n:=n) (Q:=bodyPost P fn (RR cx res' nb' mb')) (cx:=cx) (D:=[]) hrun
   exact eQ hT hm f k s orc _ _ _ hr hob (hg (fun ρ a W hrep=>aKo hT hf ρ a W hrep))
  ·cases h
 ·cases h
end Go.Aw
namespace Go.Proofs.YtlckcjfbjnjfhaaGreat
open Go.Proofs Go.Aw Go.RowKit
set_option maxRecDepth 100000
noncomputable def T0:=conv Tryz.prog
theorem hT:kC Tryz.prog T0:=fun _ _ h=>h
theorem hm:Tryz.prog.follows .mixedOrders=true:=by kernel_rfl
def W (n:Int):Int:=IntKind.wrap .i64 n
theorem bBz (n:Int):W n=if n % 18446744073709551616≥9223372036854775808 then n % 18446744073709551616 - 18446744073709551616 else n % 18446744073709551616:=by
 unfold W IntKind.wrap
 simp [IntKind.bits,IntKind.signed]
theorem aH {n:Int} (h1:-9223372036854775808<=n)(h2:n < 9223372036854775808):W n=n:=by
 rw [bBz];split<;>omega
theorem xK (x:Int)(k:Nat) {m:Nat} (hm:(2:Int) ^ (min (tN k) 64)=m):Int.fdiv x (2 ^ (min (tN k) 64))=x / m:=by
 rw [hm];exact Int.fdiv_eq_ediv_of_nonneg _ (by omega)
theorem aM9 {a b:Int} (h:0<=a/\a<=b/\b<=2147483648):W (Int.tdiv (W ((W (a+b))+1)) 2)=(a+b+1) / 2:=by
 rw [aH (n:=a+b) (by omega) (by omega),aH (n:=a+b+1) (by omega) (by omega),Int.tdiv_eq_ediv_of_nonneg (by omega),aH (by omega) (by omega)]
theorem aNa {a b:Int} (h:0<=a/\a<=b/\b<=2147483648):W (Int.tdiv (W (a+b)) 2)=(a+b) / 2:=by
 rw [aH (n:=a+b) (by omega) (by omega),Int.tdiv_eq_ediv_of_nonneg (by omega),aH (by omega) (by omega)]
theorem aVe {a b:Int} (h:0<=a/\a<=b/\b<=2147483648):W ((W (Int.tdiv (W ((W (a+b))+1)) 2)) - 1)=(a+b+1) / 2 - 1:=by
 rw [aM9 h,aH (by omega) (by omega)]
theorem aVf {a b:Int} (h:0<=a/\a<=b/\b<=2147483648):W ((W (Int.tdiv (W (a+b)) 2))+1)=(a+b) / 2+1:=by
 rw [aNa h,aH (by omega) (by omega)]
theorem pB (n:Int):0<=IntKind.wrap .u64 n:=by
 simp only [IntKind.wrap,IntKind.bits,IntKind.signed]
 simp
 omega
theorem aFv (b:Bool):b=true\/b=false:=by cases b<;>simp
def k9 (x:Zt×Zt×Zt):List SV:=[(iv x.1.1),(iv x.1.2.1),(iv x.1.2.2),(iv x.2.1.1),(iv x.2.1.2.1),(iv x.2.1.2.2),(iv x.2.2.1),(iv x.2.2.2.1),(iv x.2.2.2.2)]
def k3 (x:Zt):List SV:=[(iv x.1),(iv x.2.1),(iv x.2.2)]
def k2 (x:Int×Int):List SV:=[(iv x.1),(iv x.2)]
section
variable {cx : Cx} {k : List K} {s : LS} {base : Nat} {Q : Exit → Act → World → Prop}
theorem rt {fn:Func} (sts:List (St Tryz.prog))(ads:List Adj)(ks:List Nat)(hb:cx.base=base) {res:SV} {nb:List BK}
 (h:aBx T0 fn.results.toList base [] ks (mL ads (run T0 5000 k s (mH sts)))=some (res,nb,[],stB sts)):Aw.Good Tryz.prog none 9 (bodyPost Tryz.prog fn (RR cx res nb [])) cx [] k s:=bBy hT hm sts ads ks hb h
theorem rtm {fn:Func} (sts:List (St Tryz.prog))(ads:List Adj)(ms ks:List Nat)(hb:cx.base=base) {res:SV} {nb mb:List BK}
 (h:aBx T0 fn.results.toList base ms ks (mL ads (run T0 5000 k s (mH sts)))=some (res,nb,mb,stB sts)):Aw.Good Tryz.prog none 9 (bodyPost Tryz.prog fn (RR cx res nb mb)) cx [] k s:=aFr hT hm ads ms ks hb h (aB5 sts)
theorem rtn {fn:Func} (sts:List (St Tryz.prog))(ads:List Adj)(ms ks:List Nat)(hb:cx.base=base) {res:SV} {nb mb:List BK}
 (h:aKu T0 fn.results.toList base ms ks (mL ads (run T0 5000 k s (mH sts)))=some (res,nb,mb,stB sts)):Aw.Good Tryz.prog none 9 (bodyPost Tryz.prog fn (RR cx res nb mb)) cx [] k s:=aVd hT hm ads ms ks hb h (aB5 sts)
theorem en (sts:List (St Tryz.prog))(ads:List Adj)(ts ks:List Nat)(hb:cx.base=base)(body:Code)(k':List K)(s':LS)(m:Nat)
 (h:vH base ts ks (mL ads (run T0 5000 k s (mH sts)))=some (body,k',s',stB sts)) (hg:Aw.Good Tryz.prog none 9 Q cx [] (.l body m::k') s'):Aw.Good Tryz.prog none 9 Q cx [] k s:=aVc hT hm sts ads ts ks hb body k' s' m h hg
theorem ba {m:Nat} (sts:List (St Tryz.prog))(ads:List Adj)(ts ks:List Nat)(hb:cx.base=base)(body:Code)(k':List K)(s':LS)
 (h:aBy base ts ks (mL ads (run T0 5000 k s (mH sts)))=some (body,m,k',s',stB sts)) (hg:Aw.Good Tryz.prog none 9 Q cx [] (.l body m::k') s'):Aw.Good Tryz.prog none 9 Q cx [] k s:=aY0 hT hm sts ads ts ks hb body k' s' h hg
theorem ga (sts:List (St Tryz.prog))(ads:List Adj)(ts ks:List Nat)(hb:cx.base=base)(x:Code)(k':List K)(s':LS)
 (h:aQ4 base ts ks (mL ads (run T0 5000 k s (mH sts)))=some (x,k',s',stB sts)) (hg:Aw.Good Tryz.prog none 9 Q cx [] (.c x::k') s'):Aw.Good Tryz.prog none 9 Q cx [] k s:=bEl hT hm sts ads ts ks hb x k' s' h hg
end
def sO (a0:Zt)(a1:Int):Zt :=
 ((W (a1*a0.1)),(W (a1*a0.2.1)),(W (a1*a0.2.2)))
theorem C71 (a0:Zt)(a1:Int):Con Tryz.prog 71 [(.a (k3 a0)),(iv a1)] [] (.a (k3 (sO a0 a1))) []:=by
 refine aU Tryz.func71 (by kernel_rfl) fun cx hcx=>?_
 have e:=Eq.refl (sO a0 a1);conv at e=>rhs;simp only [sO]
 rw [e]
 exact rt [] [] [] hcx (by kernel_rfl)
def gJ (a0:Zt)(a1:Zt):Zt :=
 ((W (a0.1+a1.1)),(W (a0.2.1+a1.2.1)),(W (a0.2.2+a1.2.2)))
theorem aY2 (a0:Zt)(a1:Zt):Con Tryz.prog 160 [(.a (k3 a0)),(.a (k3 a1))] [] (.a (k3 (gJ a0 a1))) []:=by
 refine aU Tryz.func160 (by kernel_rfl) fun cx hcx=>?_
 have e:=Eq.refl (gJ a0 a1);conv at e=>rhs;simp only [gJ]
 rw [e]
 exact rt [] [] [] hcx (by kernel_rfl)
def cP (x:Zt×Zt×Zt):List SV:=[iv x.1.1,iv x.1.2.1,iv x.1.2.2,iv x.2.1.1,iv x.2.1.2.1,iv x.2.1.2.2,iv x.2.2.1,iv x.2.2.2.1,iv x.2.2.2.2]
def aFw (x:Zt×Zt×Zt):Value:=.agg #[.int .i64 x.1.1,.int .i64 x.1.2.1,.int .i64 x.1.2.2,.int .i64 x.2.1.1,.int .i64 x.2.1.2.1,.int .i64 x.2.1.2.2,.int .i64 x.2.2.1,.int .i64 x.2.2.2.1,.int .i64 x.2.2.2.2]
theorem aIn (ρ:Env)(x:Zt×Zt×Zt):Rel ρ (.a (cP x)) (aFw x):=by
 simp only [Rel];exact⟨_,rfl,by simp [cP,Rels,Rel,iv]⟩
theorem aY3 (x:Zt×Zt×Zt)(k:Nat):¬(SV.a (cP x)).has k:=by
 simp [cP,SV.has,SV.hasl,iv]
def yv (l:Nat):Value:=.func (.yield l) #[] #[]
def q1 (p:Zt×Zt×Zt):Zt×Zt×Zt:=(sO p.1 2,gJ p.1 p.2.1,gJ p.2.2 p.1)
def q2 (p:Zt×Zt×Zt):Zt×Zt×Zt:=(gJ p.1 p.2.1,sO p.2.1 2,gJ p.2.1 p.2.2)
def q3 (p:Zt×Zt×Zt):Zt×Zt×Zt:=(gJ p.2.2 p.1,gJ p.2.1 p.2.2,sO p.2.2 2)
def q4 (p:Zt×Zt×Zt):Zt×Zt×Zt:=(gJ p.1 p.2.1,gJ p.2.1 p.2.2,gJ p.2.2 p.1)
def bI:Nat->Zt×Zt×Zt->List (Zt×Zt×Zt)
 | 0,p=>[p]
 | d+1,p=>bI d (q1 p)++(bI d (q2 p)++(bI d (q3 p)++bI d (q4 p)))
def vJ (l:Nat)(J:Nat->(Nat->Prop)->World->Prop)(Jx:(Nat->Prop)->World->Prop)(xs:List (Zt×Zt×Zt))(d:Nat):Prop :=
 ∀(p:Zt×Zt×Zt) (i:Nat) (S:Nat->Prop) (W:World) (ρ:Env) (vs:List Value),Rels ρ [.a (cP p),iv d,.p 0 0,.p 1 0] vs ->
   BRep ρ (fun b=>W.heap.size<=b) W 0 (.live false false [.v (yv l)])->BRep ρ (fun b=>W.heap.size<=b) W 1 (.live false false [.f 159 [.p 0 0,.p 1 0]]) ->
   (∀k,k < 2->∀b o n,ρ k=some (b,o,n)->¬S b)->J i S W->(∀j x,(bI d p)[j]? = some x->xs[i+j]? = some x) ->
   Calls Tryz.prog 159 vs.toArray W (VR J Jx (i+(bI d p).length) S W)
noncomputable def OY:Array Oper:=match (bO [1,0,1,0,0] [] (Tryz.f159.body.getD .skip)).1 with
 | .region _ ops _=>ops
 | _=>#[]
noncomputable def KY:List K:=(bO [1,0,1,0,0] [] (Tryz.f159.body.getD .skip)).2
noncomputable def OV:Array Oper:=match (bO [1,1,1,1,0,1,0,0,1,1,0,0,1,0] [0] (Tryz.f159.body.getD .skip)).1 with
 | .region _ ops _=>ops
 | _=>#[]
noncomputable def KV (m:Nat):List K:=(bO [1,1,1,1,0,1,0,0,1,1,0,0,1,0] [m] (Tryz.f159.body.getD .skip)).2
noncomputable def oY:Oper:=OY.toList.getD 2 dF
noncomputable def oV:Oper:=OV.toList.getD 4 dF
noncomputable def aKv (o:Oper):Array TypeId:=match o.op with
 | .call c=>c.argTypes
 | _=>#[]
theorem bB0:oY.op=.call { callee:=.value (.tmp 17),args:=#[.tmp 18],argTypes:=aKv oY }:=by kernel_rfl
theorem bB1:oV.op=.call { callee:=.value (.tmp 66),args:=#[.tmp 67,.tmp 69],argTypes:=aKv oV }:=by kernel_rfl
theorem aRa:OY.toList=OY.toList.take 2++oY::OY.toList.drop 3:=by kernel_rfl
theorem vK:OV.toList=OV.toList.take 4++oV::OV.toList.drop 5:=by kernel_rfl
theorem aRb:nE Tryz.prog 159:=ent Tryz.func159 (by kernel_rfl) rfl
theorem aY4:nE Tryz.prog 158:=ent Tryz.func158 (by kernel_rfl) rfl
def zY (l:Nat)(p:Zt×Zt×Zt):LS:=⟨[.u,.u,.p 0 0,.u,.p 2 0,.u,.u,.u,.u,.u,.u,.u,.u,.u,.u,.u,.u,.u,.u,.u,.u,.u,.u,.u,.u,.u,.u,.u,.u,.u,.u,.u,.u,.u,.u,.u,.u,.u,.u,.u,.u,.u,.u,.u,.u,.u,.u,.u,.u,.u,.u,.u,.u,.u,.u,.u,.u,.u,.u,.u,.u,.u,.u,.u,.u,.u,.u,.u,.u,.u,.u,.u,.u],[.live false false [.v (yv l)],.live false false [.f 159 [.p 0 0,.p 1 0]],.live true false (cP p)]⟩
def zY1 (l:Nat)(p:Zt×Zt×Zt):LS:=⟨[.u,.u,.p 0 0,.u,.p 2 0,.u,.u,.u,.u,.u,.u,.u,.u,.u,.u,.u,.u,.v (yv l),.a (cP p),.u,.u,.u,.u,.u,.u,.u,.u,.u,.u,.u,.u,.u,.u,.u,.u,.u,.u,.u,.u,.u,.u,.u,.u,.u,.u,.u,.u,.u,.u,.u,.u,.u,.u,.u,.u,.u,.u,.u,.u,.u,.u,.u,.u,.u,.u,.u,.u,.u,.u,.u,.u,.u,.u],[.live false false [.v (yv l)],.live false false [.f 159 [.p 0 0,.p 1 0]],.live true false (cP p)]⟩
def zY3 (l:Nat)(p:Zt×Zt×Zt)(b:Bool):LS:=⟨[.u,.u,.p 0 0,.u,.p 2 0,.u,.v (.bool b),.u,.u,.u,.u,.u,.u,.u,.u,.u,.u,.v (yv l),.a (cP p),.v (.bool b),.u,.u,.u,.u,.u,.u,.u,.u,.u,.u,.u,.u,.u,.u,.u,.u,.u,.u,.u,.u,.u,.u,.u,.u,.u,.u,.u,.u,.u,.u,.u,.u,.u,.u,.u,.u,.u,.u,.u,.u,.u,.u,.u,.u,.u,.u,.u,.u,.u,.u,.u,.u,.u],[.live false false [.v (yv l)],.live false false [.f 159 [.p 0 0,.p 1 0]],.live false false (cP p)]⟩
def zV1 (l:Nat)(p:Zt×Zt×Zt)(d:Int):LS:=⟨[.u,iv d,.u,.p 1 0,.u,.u,.u,.u,.u,.u,.u,.u,.u,.u,.p 3 0,.u,.u,.u,.u,.u,.u,.u,.u,.u,.u,.u,.u,.u,.u,.u,.u,.u,.u,.u,.u,.u,.u,.u,.u,.u,.u,.u,.u,.u,.u,.u,.u,.u,.u,.u,.u,.u,.u,.u,.u,.u,.u,.u,.u,.u,.s 2 0 4 9,iv 4,iv 0,.u,.u,.u,.u,.u,.u,.u,.u,.u,.u],[.live false false [.v (yv l)],.live false false [.f 159 [.p 0 0,.p 1 0]],.live true false (cP (q1 p)++(cP (q2 p)++(cP (q3 p)++cP (q4 p)))),.live true false (cP (q1 p))]⟩
def bEm (l:Nat)(p:Zt×Zt×Zt)(d:Int):LS:=⟨[.u,iv d,.u,.p 1 0,.u,.u,.u,.u,.u,.u,.u,.u,.u,.u,.p 3 0,.u,.u,.u,.u,.u,.u,.u,.u,.u,.u,.u,.u,.u,.u,.u,.u,.u,.u,.u,.u,.u,.u,.u,.u,.u,.u,.u,.u,.u,.u,.u,.u,.u,.u,.u,.u,.u,.u,.u,.u,.u,.u,.u,.u,.u,.s 2 0 4 9,iv 4,iv 0,.u,.u,.u,.f 159 [.p 0 0,.p 1 0],.a (cP (q1 p)),iv d,iv (W (d - 1)),.u,.u,.u],[.live false false [.v (yv l)],.live false false [.f 159 [.p 0 0,.p 1 0]],.live true false (cP (q1 p)++(cP (q2 p)++(cP (q3 p)++cP (q4 p)))),.live true false (cP (q1 p))]⟩
def bEn (l:Nat)(p:Zt×Zt×Zt)(d:Int)(b:Bool):LS:=⟨[.u,iv d,.u,.p 1 0,.u,.u,.u,.u,.u,.u,.u,.u,.u,.u,.p 3 0,.u,.u,.u,.u,.u,.u,.u,.u,.u,.u,.u,.u,.u,.u,.u,.u,.u,.u,.u,.u,.u,.u,.u,.u,.u,.u,.u,.u,.u,.u,.u,.u,.u,.u,.u,.u,.u,.u,.u,.u,.u,.u,.u,.u,.u,.s 2 0 4 9,iv 4,iv 0,.u,.u,.u,.f 159 [.p 0 0,.p 1 0],.a (cP (q1 p)),iv d,iv (W (d - 1)),.v (.bool b),.v (.bool (!b)),.u],[.live false false [.v (yv l)],.live false false [.f 159 [.p 0 0,.p 1 0]],.live false false (cP (q1 p)++(cP (q2 p)++(cP (q3 p)++cP (q4 p)))),.live false false (cP (q1 p))]⟩
def zV2 (l:Nat)(p:Zt×Zt×Zt)(d:Int):LS:=⟨[.u,iv d,.u,.p 1 0,.u,.u,.u,.u,.u,.u,.u,.u,.u,.u,.p 4 0,.u,.u,.u,.u,.u,.u,.u,.u,.u,.u,.u,.u,.u,.u,.u,.u,.u,.u,.u,.u,.u,.u,.u,.u,.u,.u,.u,.u,.u,.u,.u,.u,.u,.u,.u,.u,.u,.u,.u,.u,.u,.u,.u,.u,.u,.s 2 0 4 9,iv 4,iv 1,.u,.u,.u,.u,.u,.u,.u,.u,.u,.u],[.live false false [.v (yv l)],.live false false [.f 159 [.p 0 0,.p 1 0]],.live false false (cP (q1 p)++(cP (q2 p)++(cP (q3 p)++cP (q4 p)))),.live false false (cP (q1 p)),.live true false (cP (q2 p))]⟩
def bEo (l:Nat)(p:Zt×Zt×Zt)(d:Int):LS:=⟨[.u,iv d,.u,.p 1 0,.u,.u,.u,.u,.u,.u,.u,.u,.u,.u,.p 4 0,.u,.u,.u,.u,.u,.u,.u,.u,.u,.u,.u,.u,.u,.u,.u,.u,.u,.u,.u,.u,.u,.u,.u,.u,.u,.u,.u,.u,.u,.u,.u,.u,.u,.u,.u,.u,.u,.u,.u,.u,.u,.u,.u,.u,.u,.s 2 0 4 9,iv 4,iv 1,.u,.u,.u,.f 159 [.p 0 0,.p 1 0],.a (cP (q2 p)),iv d,iv (W (d - 1)),.u,.u,.u],[.live false false [.v (yv l)],.live false false [.f 159 [.p 0 0,.p 1 0]],.live false false (cP (q1 p)++(cP (q2 p)++(cP (q3 p)++cP (q4 p)))),.live false false (cP (q1 p)),.live true false (cP (q2 p))]⟩
def bEp (l:Nat)(p:Zt×Zt×Zt)(d:Int)(b:Bool):LS:=⟨[.u,iv d,.u,.p 1 0,.u,.u,.u,.u,.u,.u,.u,.u,.u,.u,.p 4 0,.u,.u,.u,.u,.u,.u,.u,.u,.u,.u,.u,.u,.u,.u,.u,.u,.u,.u,.u,.u,.u,.u,.u,.u,.u,.u,.u,.u,.u,.u,.u,.u,.u,.u,.u,.u,.u,.u,.u,.u,.u,.u,.u,.u,.u,.s 2 0 4 9,iv 4,iv 1,.u,.u,.u,.f 159 [.p 0 0,.p 1 0],.a (cP (q2 p)),iv d,iv (W (d - 1)),.v (.bool b),.v (.bool (!b)),.u],[.live false false [.v (yv l)],.live false false [.f 159 [.p 0 0,.p 1 0]],.live false false (cP (q1 p)++(cP (q2 p)++(cP (q3 p)++cP (q4 p)))),.live false false (cP (q1 p)),.live false false (cP (q2 p))]⟩
def zV3 (l:Nat)(p:Zt×Zt×Zt)(d:Int):LS:=⟨[.u,iv d,.u,.p 1 0,.u,.u,.u,.u,.u,.u,.u,.u,.u,.u,.p 5 0,.u,.u,.u,.u,.u,.u,.u,.u,.u,.u,.u,.u,.u,.u,.u,.u,.u,.u,.u,.u,.u,.u,.u,.u,.u,.u,.u,.u,.u,.u,.u,.u,.u,.u,.u,.u,.u,.u,.u,.u,.u,.u,.u,.u,.u,.s 2 0 4 9,iv 4,iv 2,.u,.u,.u,.u,.u,.u,.u,.u,.u,.u],[.live false false [.v (yv l)],.live false false [.f 159 [.p 0 0,.p 1 0]],.live false false (cP (q1 p)++(cP (q2 p)++(cP (q3 p)++cP (q4 p)))),.live false false (cP (q1 p)),.live false false (cP (q2 p)),.live true false (cP (q3 p))]⟩
def bEq (l:Nat)(p:Zt×Zt×Zt)(d:Int):LS:=⟨[.u,iv d,.u,.p 1 0,.u,.u,.u,.u,.u,.u,.u,.u,.u,.u,.p 5 0,.u,.u,.u,.u,.u,.u,.u,.u,.u,.u,.u,.u,.u,.u,.u,.u,.u,.u,.u,.u,.u,.u,.u,.u,.u,.u,.u,.u,.u,.u,.u,.u,.u,.u,.u,.u,.u,.u,.u,.u,.u,.u,.u,.u,.u,.s 2 0 4 9,iv 4,iv 2,.u,.u,.u,.f 159 [.p 0 0,.p 1 0],.a (cP (q3 p)),iv d,iv (W (d - 1)),.u,.u,.u],[.live false false [.v (yv l)],.live false false [.f 159 [.p 0 0,.p 1 0]],.live false false (cP (q1 p)++(cP (q2 p)++(cP (q3 p)++cP (q4 p)))),.live false false (cP (q1 p)),.live false false (cP (q2 p)),.live true false (cP (q3 p))]⟩
def bEr (l:Nat)(p:Zt×Zt×Zt)(d:Int)(b:Bool):LS:=⟨[.u,iv d,.u,.p 1 0,.u,.u,.u,.u,.u,.u,.u,.u,.u,.u,.p 5 0,.u,.u,.u,.u,.u,.u,.u,.u,.u,.u,.u,.u,.u,.u,.u,.u,.u,.u,.u,.u,.u,.u,.u,.u,.u,.u,.u,.u,.u,.u,.u,.u,.u,.u,.u,.u,.u,.u,.u,.u,.u,.u,.u,.u,.u,.s 2 0 4 9,iv 4,iv 2,.u,.u,.u,.f 159 [.p 0 0,.p 1 0],.a (cP (q3 p)),iv d,iv (W (d - 1)),.v (.bool b),.v (.bool (!b)),.u],[.live false false [.v (yv l)],.live false false [.f 159 [.p 0 0,.p 1 0]],.live false false (cP (q1 p)++(cP (q2 p)++(cP (q3 p)++cP (q4 p)))),.live false false (cP (q1 p)),.live false false (cP (q2 p)),.live false false (cP (q3 p))]⟩
def zV4 (l:Nat)(p:Zt×Zt×Zt)(d:Int):LS:=⟨[.u,iv d,.u,.p 1 0,.u,.u,.u,.u,.u,.u,.u,.u,.u,.u,.p 6 0,.u,.u,.u,.u,.u,.u,.u,.u,.u,.u,.u,.u,.u,.u,.u,.u,.u,.u,.u,.u,.u,.u,.u,.u,.u,.u,.u,.u,.u,.u,.u,.u,.u,.u,.u,.u,.u,.u,.u,.u,.u,.u,.u,.u,.u,.s 2 0 4 9,iv 4,iv 3,.u,.u,.u,.u,.u,.u,.u,.u,.u,.u],[.live false false [.v (yv l)],.live false false [.f 159 [.p 0 0,.p 1 0]],.live false false (cP (q1 p)++(cP (q2 p)++(cP (q3 p)++cP (q4 p)))),.live false false (cP (q1 p)),.live false false (cP (q2 p)),.live false false (cP (q3 p)),.live true false (cP (q4 p))]⟩
def bEs (l:Nat)(p:Zt×Zt×Zt)(d:Int):LS:=⟨[.u,iv d,.u,.p 1 0,.u,.u,.u,.u,.u,.u,.u,.u,.u,.u,.p 6 0,.u,.u,.u,.u,.u,.u,.u,.u,.u,.u,.u,.u,.u,.u,.u,.u,.u,.u,.u,.u,.u,.u,.u,.u,.u,.u,.u,.u,.u,.u,.u,.u,.u,.u,.u,.u,.u,.u,.u,.u,.u,.u,.u,.u,.u,.s 2 0 4 9,iv 4,iv 3,.u,.u,.u,.f 159 [.p 0 0,.p 1 0],.a (cP (q4 p)),iv d,iv (W (d - 1)),.u,.u,.u],[.live false false [.v (yv l)],.live false false [.f 159 [.p 0 0,.p 1 0]],.live false false (cP (q1 p)++(cP (q2 p)++(cP (q3 p)++cP (q4 p)))),.live false false (cP (q1 p)),.live false false (cP (q2 p)),.live false false (cP (q3 p)),.live true false (cP (q4 p))]⟩
def bEt (l:Nat)(p:Zt×Zt×Zt)(d:Int)(b:Bool):LS:=⟨[.u,iv d,.u,.p 1 0,.u,.u,.u,.u,.u,.u,.u,.u,.u,.u,.p 6 0,.u,.u,.u,.u,.u,.u,.u,.u,.u,.u,.u,.u,.u,.u,.u,.u,.u,.u,.u,.u,.u,.u,.u,.u,.u,.u,.u,.u,.u,.u,.u,.u,.u,.u,.u,.u,.u,.u,.u,.u,.u,.u,.u,.u,.u,.s 2 0 4 9,iv 4,iv 3,.u,.u,.u,.f 159 [.p 0 0,.p 1 0],.a (cP (q4 p)),iv d,iv (W (d - 1)),.v (.bool b),.v (.bool (!b)),.u],[.live false false [.v (yv l)],.live false false [.f 159 [.p 0 0,.p 1 0]],.live false false (cP (q1 p)++(cP (q2 p)++(cP (q3 p)++cP (q4 p)))),.live false false (cP (q1 p)),.live false false (cP (q2 p)),.live false false (cP (q3 p)),.live false false (cP (q4 p))]⟩
def vb:SV->Bool
 | .v _ | .b _=>true
 | _=>false
theorem aB6 {ρ ρ':Env}:∀{l:List SV} {vs us:List Value},l.all vb=true->Rels ρ l vs->Rels ρ' l us->vs=us
 | [],[],[],_,_,_=>rfl
 | [],_::_,_,_,h,_=>by simp [Rels] at h
 | [],[],_::_,_,_,h=>by simp [Rels] at h
 | _::_,[],_,_,h,_=>by simp [Rels] at h
 | _::_,_::_,[],_,_,h=>by simp [Rels] at h
 | x::l,y::vs,z::us,hp,h1,h2=>by
  simp only [List.all_cons,Bool.and_eq_true] at hp
  simp only [Rels] at h1 h2
  rw [aB6 hp.2 h1.2 h2.2]
  have:y=z:=by
   cases x<;>simp only [vb,Bool.false_eq_true,false_and] at hp
   ·have a1:=h1.1;have a2:=h2.1;simp only [Rel] at a1 a2;rw [a1,a2]
   ·have a1:=h1.1;have a2:=h2.1;simp only [Rel] at a1 a2;rw [a1,a2]
  rw [this]
theorem rU {ρ:Env} {x:SV} {l:List SV} {y:Value} {m:List Value} (h:Rel ρ x y)(h':Rels ρ l m):Rels ρ (x::l) (y::m):=by simp only [Rels];exact⟨h,h'⟩
theorem aFx {α:Type} {xs A B:List α} {i:Nat} (h:∀j x,(A++B)[j]? = some x->xs[i+j]? = some x):(∀j x,A[j]? = some x->xs[i+j]? = some x)/\(∀j x,B[j]? = some x->xs[i+A.length+j]? = some x) :=
 ⟨fun j x hj=>h j x (by rw [List.getElem?_append_left (List.getElem?_eq_some_iff.1 hj).1];exact hj),fun j x hj=>by
  have:=h (A.length+j) x (by rw [List.getElem?_append_right (by omega),Nat.add_sub_cancel_left];exact hj)
  rwa [←Nat.add_assoc] at this⟩
section
variable {l : Nat} {J : Nat → (Nat → Prop) → World → Prop} {Jx : (Nat → Prop) → World → Prop} {xs : List (Zt × Zt × Zt)}
theorem lG (hJ:xI J)(hX:aFt Jx) {m m':Nat} {W0:World} {S:Nat->Prop} {cx:Cx} {b:Bool} (h1:b=true->∃Sc,Seg J W0 S m' cx Sc)(h2:b=false->SegX Jx W0 S cx)(hm:m'=m)(Wd:World)(hb:Below cx.w.heap.size cx.w Wd)(hd:cx.w.drawn<=Wd.drawn) :
 VR J Jx m S W0 (.returned (.bool b)) Wd:=by
 subst hm
 cases b with
 | true =>
  obtain⟨Sc,h⟩:=h1 rfl
  exact .inl ⟨rfl,Sc,hJ _ _ _ _ h.j hb hd,h.kept.grow hb hd,h.sub⟩
 | false =>
  have h:=h2 rfl
  obtain⟨Sc,hj⟩:=h.j
  exact .inr ⟨rfl,Sc,hX _ _ _ hj hb hd,h.kept.grow hb hd⟩
theorem aY5 (hJ:xI J)(hX:aFt Jx)(hB:qN J)(hY:∀i x S W1,xs[i]? = some x->J i S W1->YieldAt (Fw none) 9 Tryz.prog l #[aFw x] W1 (YR J Jx i S W1)):vJ l J Jx xs 0:=by
 intro p i S Wd ρ vs hargs hb0 hb1 hS hj hxs
 have hx:xs[i]? = some p:=by have:=hxs 0 p rfl;simpa using this
 refine nF (n:=9) (bs:=[.live false false [.v (yv l)],.live false false [.f 159 [.p 0 0,.p 1 0]]]) Tryz.func159 rfl (by show 4<=Tryz.f159.ntmps;decide) (by kernel_rfl) ⟨rfl,rfl,trivial⟩ (by kernel_rfl) (fun i=>by rcases i with _ | _ | i<;>simp [BK.own]) (by kernel_rfl) hargs (fun i=>by rcases i with _ | _ | i<;>first | exact hb0 | exact hb1 | simp [BRep]) (fun i=>by rcases i with _ | _ | i<;>simp [BK.pl]) (fun cx hbase hw hρ hfz hown=>?_)
 subst hw
 have hd:((((0:Nat):Int):Int) == 0)=true:=rfl
 refine zK (T:=T0) hT hm (f:=5000) (orc:=[.d true,.stop 2]) [] [2,4] [2] hbase (x:=.region 2 OY false) (k':=KY) (s':=zY l p)
  (obs:=[.eq ((((0:Nat):Int):Int) == 0) true]) (by kernel_rfl) ⟨hd,trivial⟩ ?_
 have hseg:Seg J cx.w S i cx S:=⟨hj,Kept.refl _ _,fun b h=>.inl h,fun k b o n hk h=>hS k (by rw [hbase] at hk;exact hk) b o n ((hρ k).symm.trans h),hown,fun b o ho=>by rw [hfz b] at ho;cases ho⟩
 refine qP (Jx:=Jx) hT hJ hB (m:=i+1) hseg (OY.toList.take 2) oY (OY.toList.drop 3) aRa (s1:=zY1 l p) (by kernel_rfl) (by kernel_rfl) 19 (by kernel_rfl) (dL (by kernel_rfl)) 2 hbase (by kernel_rfl) (by kernel_rfl)
  (fun ρ a W2 hrep hsafe hj2 K Q' hK=>?_) (zY3 l p) (fun b=>by kernel_rfl) (fun b cx' hb' h1 h2=>?_)
 ·have e1:=hrep.sl 17
  have e2:=hrep.sl 18
  refine aQ7 bB0 (l:=l) (vs:=#[aFw p]) ?_ ?_ (hY i p S W2 hx hj2) hK
  ·exact e1
  ·have:a.eval (.tmp 18)=aFw p:=by
    have e3:Rel ρ (.a (cP p)) (a.tmps.getD 18 undef):=e2
    simp only [Rel] at e3
    obtain⟨vs,hv,hr⟩:=e3
    have h':=aIn ρ p
    simp only [Rel] at h'
    obtain⟨us,hu,hr'⟩:=h'
    show a.tmps.getD 18 undef=aFw p
    rw [hv,hu]
    have:vs=us:=aB6 (by simp [cP,vb,iv]) hr hr'
    rw [this]
   simp [this]
 ·have hown':∀c,¬cx'.own c:=by
   cases b with
   | true=>obtain⟨Sc,h⟩:=h1 rfl;exact h.own
   | false=>exact(h2 rfl).own
  exact rT (T:=T0) hT hm (f:=5000) (orc:=[]) (b:=b) (obs:=[]) (by cases b<;>kernel_rfl) trivial hown' (fun Wd hW hWd=>lG hJ hX h1 h2 rfl Wd hW hWd)
theorem aNb {d:Nat} (ih:vJ l J Jx xs d) {cx:Cx} {N:Nat} {D:List Deferred} {ρ:Env} {s:FS} {a:Act} {Wd:World} (hrep:Rep cx N D ρ s a Wd) {p:Zt×Zt×Zt} {i:Nat} {S:Nat->Prop}
 (hdl:d < 1000) (e1:s.sl 66=.f 159 [.p 0 0,.p 1 0]) (e2:s.sl 67=.a (cP p)) (e3:s.sl 69=iv (W (((d+1:Nat):Int) - 1))) (e4:s.bk 0=.live false false [.v (yv l)]) (e5:s.bk 1=.live false false [.f 159 [.p 0 0,.p 1 0]])
 (hS:∀k,k < 2->∀b o n,ρ k=some (b,o,n)->¬S b) (hj:J i S Wd) (hxs:∀j x,(bI d p)[j]? = some x->xs[i+j]? = some x)
 (K:Act->World->Prop) (Q:Exit->Act->World->Prop) (hK:∀e Wd',VR J Jx (i+(bI d p).length) S Wd e Wd'->∃v,e=.returned v/\K (a.put oV.dst v) Wd'):oV.wpIn (Fw none) 9 Tryz.prog a Wd K Q:=by
 have r1:=hrep.sl 66
 have r2:=hrep.sl 67
 have r3:=hrep.sl 69
 rw [e1] at r1;rw [e2] at r2;rw [e3] at r3
 have hw:W (((d+1:Nat):Int) - 1)=(d:Int):=by rw [aH]<;>omega
 rw [hw] at r3
 simp only [Rel] at r1
 obtain⟨vs,hv,hc⟩:=r1
 have b0:=hrep.bk 0
 have b1:=hrep.bk 1
 rw [e4] at b0;rw [e5] at b1
 refine aM7 bB1 (g:=159) (caps:=vs) hv aRb (ih p i S Wd ρ _ ?_ b0.ro b1.ro hS hj hxs) hK
 exact rU r2 (rU r3 hc)
theorem aY6 (hJ:xI J)(hX:aFt Jx)(hB:qN J) {d:Nat} (hdl:d < 1000)(ih:vJ l J Jx xs d):vJ l J Jx xs (d+1):=by
 intro p i S Wd ρ vs hargs hb0 hb1 hS hj hxs
 obtain⟨hx1,hr1⟩:=aFx hxs
 obtain⟨hx2,hr2⟩:=aFx hr1
 obtain⟨hx3,hx4⟩:=aFx hr2
 refine nF (n:=9) (bs:=[.live false false [.v (yv l)],.live false false [.f 159 [.p 0 0,.p 1 0]]]) Tryz.func159 rfl (by show 4<=Tryz.f159.ntmps;decide) (by kernel_rfl) ⟨rfl,rfl,trivial⟩ (by kernel_rfl) (fun i=>by rcases i with _ | _ | i<;>simp [BK.own]) (by kernel_rfl) hargs (fun i=>by rcases i with _ | _ | i<;>first | exact hb0 | exact hb1 | simp [BRep]) (fun i=>by rcases i with _ | _ | i<;>simp [BK.pl]) (fun cx hbase hw hρ hfz hown=>?_)
 subst hw
 have hd:((((d+1:Nat):Int):Int) == 0)=false:=by rw [beq_eq_false_iff_ne];omega
 have hseg:Seg J cx.w S i cx S:=⟨hj,Kept.refl _ _,fun b h=>.inl h,fun k b o n hk h=>hS k (by rw [hbase] at hk;exact hk) b o n ((hρ k).symm.trans h),hown,fun b o ho=>by rw [hfz b] at ho;cases ho⟩
 refine zK (T:=T0) hT hm (f:=5000) (orc:=[.d false,.call [] (.a [(iv (sO p.1 2).1),(iv (sO p.1 2).2.1),(iv (sO p.1 2).2.2)]) [],.call [] (.a [(iv (sO p.2.1 2).1),(iv (sO p.2.1 2).2.1),(iv (sO p.2.1 2).2.2)]) [],.call [] (.a [(iv (sO p.2.2 2).1),(iv (sO p.2.2 2).2.1),(iv (sO p.2.2 2).2.2)]) [],.call [] (.a [(iv (gJ p.1 p.2.1).1),(iv (gJ p.1 p.2.1).2.1),(iv (gJ p.1 p.2.1).2.2)]) [],.call [] (.a [(iv (gJ p.2.1 p.2.2).1),(iv (gJ p.2.1 p.2.2).2.1),(iv (gJ p.2.1 p.2.2).2.2)]) [],.call [] (.a [(iv (gJ p.2.2 p.1).1),(iv (gJ p.2.2 p.1).2.1),(iv (gJ p.2.2 p.1).2.2)]) [],.un 4,.d true,.stop 8]) [] [1,3,14,60,61,62] [9,10] hbase (x:=.region 8 OV false) (k':=KV 4) (s':=zV1 l p (d+1:Nat))
  (obs:=[.eq ((((d+1:Nat):Int):Int) == 0) false,.call 71 [(.a [(iv p.1.1),(iv p.1.2.1),(iv p.1.2.2)]),(iv 2)] [] (.a [(iv (sO p.1 2).1),(iv (sO p.1 2).2.1),(iv (sO p.1 2).2.2)]) [],.call 71 [(.a [(iv p.2.1.1),(iv p.2.1.2.1),(iv p.2.1.2.2)]),(iv 2)] [] (.a [(iv (sO p.2.1 2).1),(iv (sO p.2.1 2).2.1),(iv (sO p.2.1 2).2.2)]) [],.call 71 [(.a [(iv p.2.2.1),(iv p.2.2.2.1),(iv p.2.2.2.2)]),(iv 2)] [] (.a [(iv (sO p.2.2 2).1),(iv (sO p.2.2 2).2.1),(iv (sO p.2.2 2).2.2)]) [],.call 160 [(.a [(iv p.1.1),(iv p.1.2.1),(iv p.1.2.2)]),(.a [(iv p.2.1.1),(iv p.2.1.2.1),(iv p.2.1.2.2)])] [] (.a [(iv (gJ p.1 p.2.1).1),(iv (gJ p.1 p.2.1).2.1),(iv (gJ p.1 p.2.1).2.2)]) [],.call 160 [(.a [(iv p.2.1.1),(iv p.2.1.2.1),(iv p.2.1.2.2)]),(.a [(iv p.2.2.1),(iv p.2.2.2.1),(iv p.2.2.2.2)])] [] (.a [(iv (gJ p.2.1 p.2.2).1),(iv (gJ p.2.1 p.2.2).2.1),(iv (gJ p.2.1 p.2.2).2.2)]) [],.call 160 [(.a [(iv p.2.2.1),(iv p.2.2.2.1),(iv p.2.2.2.2)]),(.a [(iv p.1.1),(iv p.1.2.1),(iv p.1.2.2)])] [] (.a [(iv (gJ p.2.2 p.1).1),(iv (gJ p.2.2 p.1).2.1),(iv (gJ p.2.2 p.1).2.2)]) [],.eq true true,.pr (0<=(0:Int)/\(0:Int) < ((4:Nat):Int))]) (by kernel_rfl) ⟨hd,(C71 p.1 2),(C71 p.2.1 2),(C71 p.2.2 2),(aY2 p.1 p.2.1),(aY2 p.2.1 p.2.2),(aY2 p.2.2 p.1),rfl,(show 0<=(0:Int)/\(0:Int) < ((4:Nat):Int) from by decide),trivial⟩ ?_
 refine qP (Jx:=Jx) hT hJ hB (m:=i+(bI d (q1 p)).length) hseg (OV.toList.take 4) oV (OV.toList.drop 5) vK (s1:=bEm l p (d+1:Nat)) (by kernel_rfl) (by kernel_rfl) 70 (by kernel_rfl) (dL (by kernel_rfl)) 2 hbase (by kernel_rfl) (by kernel_rfl)
  (fun ρ a W2 hrep hsafe hj2 K Q' hK=>aNb ih hrep hdl rfl rfl rfl rfl rfl (fun k hk b o n h=>(match k,hk,h with | 0,_,h=>hsafe 0 _ _ _ rfl b o n h | 1,_,h=>hsafe 1 _ _ _ rfl b o n h)) hj2 (fun j x hj=>hx1 j x hj) K Q' hK) (bEn l p (d+1:Nat)) (fun b=>by kernel_rfl) (fun b cx hbase h1 h2=>?_)
 cases b with
 | false =>
  exact rT (T:=T0) hT hm (f:=5000) (orc:=[.d true]) (b:=false) (obs:=[.eq (!false) true]) (by kernel_rfl) ⟨rfl,trivial⟩ (h2 rfl).own (fun W hW hWd=>lG (m':=i+(bI (d+1) p).length) hJ hX (fun h=>by cases h) h2 rfl W hW hWd)
 | true =>
  obtain⟨Sc,hseg⟩:=h1 rfl
  refine zK (T:=T0) hT hm (f:=5000) (orc:=[.d false,.un 0,.d true,.stop 8]) [] [1,3,14,60,61,62] [4] hbase (x:=.region 8 OV false) (k':=KV 3) (s':=zV2 l p (d+1:Nat))
   (obs:=[.eq (!true) false,.eq (decide ((1:Int) < 4)) true,.pr (0<=(1:Int)/\(1:Int) < ((4:Nat):Int))]) (by kernel_rfl) ⟨rfl,rfl,(show 0<=(1:Int)/\(1:Int) < ((4:Nat):Int) from by decide),trivial⟩ ?_
  refine qP (Jx:=Jx) hT hJ hB (m:=i+(bI d (q1 p)).length+(bI d (q2 p)).length) hseg (OV.toList.take 4) oV (OV.toList.drop 5) vK (s1:=bEo l p (d+1:Nat)) (by kernel_rfl) (by kernel_rfl) 70 (by kernel_rfl) (dL (by kernel_rfl)) 4 hbase (by kernel_rfl) (by kernel_rfl)
   (fun ρ a W2 hrep hsafe hj2 K Q' hK=>aNb ih hrep hdl rfl rfl rfl rfl rfl (fun k hk b o n h=>(match k,hk,h with | 0,_,h=>hsafe 0 _ _ _ rfl b o n h | 1,_,h=>hsafe 1 _ _ _ rfl b o n h)) hj2 (fun j x hj=>hx2 j x hj) K Q' hK) (bEp l p (d+1:Nat)) (fun b=>by kernel_rfl) (fun b cx hbase h1 h2=>?_)
  cases b with
  | false =>
   exact rT (T:=T0) hT hm (f:=5000) (orc:=[.d true]) (b:=false) (obs:=[.eq (!false) true]) (by kernel_rfl) ⟨rfl,trivial⟩ (h2 rfl).own (fun W hW hWd=>lG (m':=i+(bI (d+1) p).length) hJ hX (fun h=>by cases h) h2 rfl W hW hWd)
  | true =>
   obtain⟨Sc,hseg⟩:=h1 rfl
   refine zK (T:=T0) hT hm (f:=5000) (orc:=[.d false,.un 0,.d true,.stop 8]) [] [1,3,14,60,61,62] [5] hbase (x:=.region 8 OV false) (k':=KV 2) (s':=zV3 l p (d+1:Nat))
    (obs:=[.eq (!true) false,.eq (decide ((2:Int) < 4)) true,.pr (0<=(2:Int)/\(2:Int) < ((4:Nat):Int))]) (by kernel_rfl) ⟨rfl,rfl,(show 0<=(2:Int)/\(2:Int) < ((4:Nat):Int) from by decide),trivial⟩ ?_
   refine qP (Jx:=Jx) hT hJ hB (m:=i+(bI d (q1 p)).length+(bI d (q2 p)).length+(bI d (q3 p)).length) hseg (OV.toList.take 4) oV (OV.toList.drop 5) vK (s1:=bEq l p (d+1:Nat)) (by kernel_rfl) (by kernel_rfl) 70 (by kernel_rfl) (dL (by kernel_rfl)) 5 hbase (by kernel_rfl) (by kernel_rfl)
    (fun ρ a W2 hrep hsafe hj2 K Q' hK=>aNb ih hrep hdl rfl rfl rfl rfl rfl (fun k hk b o n h=>(match k,hk,h with | 0,_,h=>hsafe 0 _ _ _ rfl b o n h | 1,_,h=>hsafe 1 _ _ _ rfl b o n h)) hj2 (fun j x hj=>hx3 j x hj) K Q' hK) (bEr l p (d+1:Nat)) (fun b=>by kernel_rfl) (fun b cx hbase h1 h2=>?_)
   cases b with
   | false =>
    exact rT (T:=T0) hT hm (f:=5000) (orc:=[.d true]) (b:=false) (obs:=[.eq (!false) true]) (by kernel_rfl) ⟨rfl,trivial⟩ (h2 rfl).own (fun W hW hWd=>lG (m':=i+(bI (d+1) p).length) hJ hX (fun h=>by cases h) h2 rfl W hW hWd)
   | true =>
    obtain⟨Sc,hseg⟩:=h1 rfl
    refine zK (T:=T0) hT hm (f:=5000) (orc:=[.d false,.un 0,.d true,.stop 8]) [] [1,3,14,60,61,62] [6] hbase (x:=.region 8 OV false) (k':=KV 1) (s':=zV4 l p (d+1:Nat))
     (obs:=[.eq (!true) false,.eq (decide ((3:Int) < 4)) true,.pr (0<=(3:Int)/\(3:Int) < ((4:Nat):Int))]) (by kernel_rfl) ⟨rfl,rfl,(show 0<=(3:Int)/\(3:Int) < ((4:Nat):Int) from by decide),trivial⟩ ?_
    refine qP (Jx:=Jx) hT hJ hB (m:=i+(bI d (q1 p)).length+(bI d (q2 p)).length+(bI d (q3 p)).length+(bI d (q4 p)).length) hseg (OV.toList.take 4) oV (OV.toList.drop 5) vK (s1:=bEs l p (d+1:Nat)) (by kernel_rfl) (by kernel_rfl) 70 (by kernel_rfl) (dL (by kernel_rfl)) 6 hbase (by kernel_rfl) (by kernel_rfl)
     (fun ρ a W2 hrep hsafe hj2 K Q' hK=>aNb ih hrep hdl rfl rfl rfl rfl rfl (fun k hk b o n h=>(match k,hk,h with | 0,_,h=>hsafe 0 _ _ _ rfl b o n h | 1,_,h=>hsafe 1 _ _ _ rfl b o n h)) hj2 (fun j x hj=>hx4 j x hj) K Q' hK) (bEt l p (d+1:Nat)) (fun b=>by kernel_rfl) (fun b cx hbase h1 h2=>?_)
    cases b with
    | false =>
     exact rT (T:=T0) hT hm (f:=5000) (orc:=[.d true]) (b:=false) (obs:=[.eq (!false) true]) (by kernel_rfl) ⟨rfl,trivial⟩ (h2 rfl).own (fun W hW hWd=>lG (m':=i+(bI (d+1) p).length) hJ hX (fun h=>by cases h) h2 rfl W hW hWd)
    | true =>
     exact rT (T:=T0) hT hm (f:=5000) (orc:=[.d false,.un 0,.d false]) (b:=true) (obs:=[.eq (!true) false,.eq (decide ((4:Int) < 4)) false]) (by kernel_rfl) ⟨rfl,rfl,trivial⟩ (h1 rfl).choose_spec.own (fun W hW hWd=>lG hJ hX h1 h2 (by simp only [bI,List.length_append];omega) W hW hWd)
theorem aEw (hJ:xI J)(hX:aFt Jx)(hB:qN J)(hY:∀i x S W1,xs[i]? = some x->J i S W1->YieldAt (Fw none) 9 Tryz.prog l #[aFw x] W1 (YR J Jx i S W1)):∀d,d < 1000->vJ l J Jx xs d
 | 0,_=>aY5 hJ hX hB hY
 | d+1,h=>aY6 hJ hX hB (by omega) (aEw hJ hX hB hY d (by omega))
end
noncomputable def O2:Array Oper:=match (bO [1,1,1] [] (Tryz.f158.body.getD .skip)).1 with
 | .region _ ops _=>ops
 | _=>#[]
noncomputable def o2:Oper:=O2.toList.getD 3 dF
theorem bB2:o2.op=.call { callee:=.value (.tmp 6),args:=#[.tmp 7,.tmp 8],argTypes:=aKv o2 }:=by kernel_rfl
theorem aRc:O2.toList=O2.toList.take 3++[o2]:=by kernel_rfl
def z2 (l:Nat)(p:Zt×Zt×Zt)(d:Int):LS:=⟨[.u,.p 0 0,.p 1 0,.u,.p 3 0,.u,.u,.u,.u,.u],[.live false false (cP p),.live false false [iv d],.live true false [.v (yv l)],.live true false [.f 159 [.p 2 0,.p 3 0]]]⟩
def z21 (l:Nat)(p:Zt×Zt×Zt)(d:Int):LS:=⟨[.u,.p 0 0,.p 1 0,.u,.p 3 0,.u,.f 159 [.p 2 0,.p 3 0],.a (cP p),iv d,.u],[.live false false (cP p),.live false false [iv d],.live true false [.v (yv l)],.live true false [.f 159 [.p 2 0,.p 3 0]]]⟩
theorem aRd (p:Zt×Zt×Zt)(d:Nat)(hd:d < 1000):aVa Tryz.prog 158 [.p 0 0,.p 1 0] [.live false false (cP p),.live false false [iv (d:Nat)]] aFw (bI d p):=by
 refine⟨aY4,fun ρ Wd lb hcaps hbs hpl l J Jx S0 hJ hX hB hY h0=>?_⟩
 have hcon:Calls Tryz.prog 158 ((Value.func (.yield l) #[] #[])::lb).toArray Wd fun e Wd'=>(∃v,e=.returned v)/\∃S',(J (bI d p).length S' Wd'\/Jx S' Wd')/\Kept Wd S0 Wd':=by
  refine nF (n:=9) (args:=[.v (yv l),.p 0 0,.p 1 0]) (bs:=[.live false false (cP p),.live false false [iv (d:Nat)]]) Tryz.func158 rfl (by show 3<=Tryz.f158.ntmps;decide) (by kernel_rfl) ⟨rfl,rfl,trivial⟩ (by kernel_rfl) (fun i=>by rcases i with _ | _ | i<;>simp [BK.own]) (by kernel_rfl) ⟨rfl,hcaps⟩ hbs hpl (fun cx hbase hw hρ hfz hown=>?_)
  subst hw
  refine zK (T:=T0) hT hm (f:=5000) (orc:=[.stop 3]) [] [1,2,4] [2,3] hbase (x:=.region 3 O2 false) (k':=[]) (s':=z2 l p d)
   (obs:=[]) (by kernel_rfl) trivial ?_
  intro ρ a Wd hrep
  simp only [eL]
  refine wpIn_region ?_
  have hsz:O2.size=(O2.toList.take 3).length+(0+1):=by kernel_rfl
  have hget:∀j,O2[j]? = (O2.toList.take 3++[o2])[j]? := fun j=>by rw [←aRc,Array.getElem?_toList]
  rw [hsz,zL]
  refine rS hT (O2.toList.take 3) 0 (z2 l p d) (z21 l p d) [] [] _ [] (qO (T:=T0) (obs:=[]) (by kernel_rfl)).choose_spec trivial (fun j o' hj=>?_) ρ a Wd hrep (fun ρ1 a1 W1 hrep1 hl1=>?_)
  ·rw [hget,Nat.zero_add,List.getElem?_append_left (List.getElem?_eq_some_iff.1 hj).1];exact hj
  rw [wpOpsIn_cons]
  unfold wpOpIn
  have ho:O2[(O2.toList.take 3).length]? = some o2:=by rw [hget,List.getElem?_append_right (Nat.le_refl _)];simp
  rw [ho]
  have hw:Region.wanted o2 (yielded O2 a1.tmps)=true:=by
   have hg:o2.guard=none:=by kernel_rfl
   unfold Region.wanted;rw [hg]
  simp only [hw,if_true]
  have hbel:Below cx.w.heap.size cx.w W1:=by
   have:=hrep1.kept
   exact⟨this.os,this.tape,this.output,this.size,fun k hk=>this.block k hk (hown k)⟩
  have r1:=hrep1.sl 6
  have r2:=hrep1.sl 7
  have r3:=hrep1.sl 8
  have r1':Rel ρ1 (.f 159 [.p 2 0,.p 3 0]) (a1.tmps.getD 6 undef):=r1
  have r2':Rel ρ1 (.a (cP p)) (a1.tmps.getD 7 undef):=r2
  have r3':Rel ρ1 (iv (d:Nat)) (a1.tmps.getD 8 undef):=r3
  simp only [Rel] at r1'
  obtain⟨vs,hv,hc⟩:=r1'
  have own2:∀b,cx.mine b->cx.w.heap.size<=b:=fun b hb=>hb.elim id (fun h=>(hown b h).elim)
  have b2:=(vC (ks:=[2,3]) (i:=0) (m:=false) (x:=.live true false [.v (yv l)]) (y:=.live false false [.v (yv l)]) (M':=fun b=>W1.heap.size<=b) rfl rfl trivial (hrep1.bk 2) (fun _ h=>by cases h) (fun _ b hlt _ hM=>absurd hM (Nat.not_le_of_lt hlt))).1
  have b3:=(vC (ks:=[2,3]) (i:=1) (m:=false) (x:=.live true false [.f 159 [.p 2 0,.p 3 0]]) (y:=.live false false [.f 159 [.p 0 0,.p 1 0]]) (M':=fun b=>W1.heap.size<=b) rfl rfl trivial (hrep1.bk 3) (fun _ h=>by cases h) (fun _ b hlt _ hM=>absurd hM (Nat.not_le_of_lt hlt))).1
  have hS2:∀k,k < 2->∀b o n,gD ρ1 [2,3] k=some (b,o,n)->¬S0 b:=fun k hk b o n h hSb=>by
   have hlt:=hB _ _ _ h0 b hSb
   have own:∀j,(z21 l p d).fs.bk j≠.un->((z21 l p d).fs.bk j).own->ρ1 j=some (b,o,n)->False:=fun j _ hj hρ=>by
    have hb:=hrep1.bk j
    cases hx:(z21 l p d).fs.bk j with
    | un=>rw [hx] at hj;exact hj
    | dead=>rw [hx] at hj;exact hj
    | map es =>
     rw [hx] at hb
     obtain⟨b',n',arr,q1,q2,_⟩:=hb
     rw [hρ] at q1;cases q1
     have:=own2 b q2;omega
    | live ow sy cs=>cases ow with
     | false=>rw [hx] at hj;exact hj
     | true =>
      rw [hx] at hb
      rcases hb with⟨q,_⟩ | ⟨b',vs,rest,ty,q1,q2,_⟩
      ·rw [hρ] at q;cases q
      ·rw [hρ] at q1;cases q1
       have:=own2 b q2;omega
   match k,hk with
   | 0,_=>exact own 2 (by simp [z21,LS.fs]) (by trivial) h
   | 1,_=>exact own 3 (by simp [z21,LS.fs]) (by trivial) h
  refine aM7 bB2 (g:=159) (caps:=vs) hv aRb ((aEw (l:=l) hJ hX hB hY d hd) p 0 S0 W1 (gD ρ1 [2,3]) (a1.tmps.getD 7 undef::a1.tmps.getD 8 undef::vs) ?_ b2 b3 hS2 (hJ _ _ _ _ h0 hbel hrep1.kept.drawn) (fun j x hj=>by rw [Nat.zero_add];exact hj)) (fun e Wd' hR=>?_)
  ·exact rU (vB (ks:=[2,3]) (.a (cP p)) (.a (cP p)) _ rfl r2') (rU (vB (ks:=[2,3]) (iv (d:Nat)) (iv (d:Nat)) _ rfl r3') (renL_rel (ks:=[2,3]) [.p 2 0,.p 3 0] [.p 0 0,.p 1 0] vs rfl hc))
  ·have fin:∀v:Bool,e=.returned (.bool v)->(∃S',(J (bI d p).length S' Wd'\/Jx S' Wd')/\Kept W1 S0 Wd')->∃v,e=.returned v/\wpOpsIn (Fw none) 9 Tryz.prog O2 (eL none 9 Tryz.prog (bodyPost Tryz.prog Tryz.f158 (fun e Wd'=>(∃v,e=.returned v)/\∃S',(J (bI d p).length S' Wd'\/Jx S' Wd')/\Kept cx.w S0 Wd')) []) (List.range' ((O2.toList.take 3).length+1) 0) (a1.put o2.dst v) Wd':=fun v he ⟨S',hj',hk'⟩=>by
    refine⟨_,he,?_⟩
    simp only [List.range'_zero,wpOpsIn,eL]
    refine⟨?_,_,aIl (by kernel_rfl),⟨_,rfl⟩,S',hj',?_⟩
    ·exact hrep1.defs
    ·exact(Kept.of_below S0 hbel hrep1.kept.drawn).trans hk' (fun b hb _=>hb)
   rcases hR with⟨he,S',hj',hk',_⟩ | ⟨he,S',hj',hk'⟩
   ·exact fin true he ⟨S',.inl (by rwa [Nat.zero_add] at hj'),hk'⟩
   ·exact fin false he ⟨S',.inr hj',hk'⟩
 have e:((Value.func (.yield l) #[] #[])::lb).toArray=#[.func (.yield l) #[] #[]]++lb.toArray:=by apply Array.ext';simp
 rw [←e];exact hcon
theorem aPl (p:Zt×Zt×Zt)(d:Int)(h:0<=d/\d<=3):aVa Tryz.prog 158 [.p 0 0,.p 1 0] [.live false false (cP p),.live false false [iv d]] aFw (bI (tN d) p):=by
 have:=aRd p d.toNat (by omega)
 rwa [Int.toNat_of_nonneg h.1] at this
end Go.Proofs.YtlckcjfbjnjfhaaGreat
namespace Go.Proofs.YtlckcjfbjnjfhaaGreat
open Go.Proofs Go.Aw Go.RowKit
set_option maxRecDepth 100000
def aAh (a0:Int)(a1:Int)(a2:Int):Bool :=
 (bif (decide ((a1:Int)<=a0)) then
  (decide ((a0:Int)<=a2))
 else
  false)
theorem aY7 (a0:Int)(a1:Int)(a2:Int):Con Tryz.prog 141 [(iv a0),(iv a1),(iv a2)] [] (.v (.bool (aAh a0 a1 a2))) []:=by
 refine aU Tryz.func141 (by kernel_rfl) fun cx hcx=>?_
 cases h0:(decide ((a1:Int)<=a0)) with
 | true =>
  have q0:=dL h0
  have e:=Eq.refl (aAh a0 a1 a2);conv at e=>rhs;simp only [aAh,h0,aW]
  rw [e]
  exact rt [.d h0] [] [] hcx (by kernel_rfl)
 | false =>
  have q0:=eH h0
  have e:=Eq.refl (aAh a0 a1 a2);conv at e=>rhs;simp only [aAh,h0,aW]
  rw [e]
  exact rt [.d h0] [] [] hcx (by kernel_rfl)
def F97 (a0:Zt)(a1:Int):Bool :=
 (bif (aAh a0.1 (W (0 - a1)) a1) then
  (bif (aAh a0.2.1 (W (0 - a1)) a1) then
   (aAh a0.2.2 (W (0 - a1)) a1)
  else
   false)
 else
  false)
theorem C97 (a0:Zt)(a1:Int):Con Tryz.prog 97 [(.a (k3 a0)),(iv a1)] [] (.v (.bool (F97 a0 a1))) []:=by
 refine aU Tryz.func97 (by kernel_rfl) fun cx hcx=>?_
 let t0:List (St Tryz.prog):=[.c [] (aY7 a0.1 (W (0 - a1)) a1)]
 cases h0:(aAh a0.1 (W (0 - a1)) a1) with
 | true =>
  let t1:List (St Tryz.prog):=(t0++[.d h0,.c [] (aY7 a0.2.1 (W (0 - a1)) a1)])
  cases h1:(aAh a0.2.1 (W (0 - a1)) a1) with
  | true =>
   have e:=Eq.refl (F97 a0 a1);conv at e=>rhs;simp only [F97,h0,h1,aW]
   rw [e]
   exact rt (t1++[.d h1,.c [] (aY7 a0.2.2 (W (0 - a1)) a1)]) [] [] hcx (by kernel_rfl)
  | false =>
   have e:=Eq.refl (F97 a0 a1);conv at e=>rhs;simp only [F97,h0,h1,aW]
   rw [e]
   exact rt (t1++[.d h1]) [] [] hcx (by kernel_rfl)
 | false =>
  have e:=Eq.refl (F97 a0 a1);conv at e=>rhs;simp only [F97,h0,aW]
  rw [e]
  exact rt (t0++[.d h0]) [] [] hcx (by kernel_rfl)
def aRe (a0:Zt)(a1:Int)(a2:Zt):Zt :=
 ((W (a0.1+(W (a1*a2.1)))),(W (a0.2.1+(W (a1*a2.2.1)))),(W (a0.2.2+(W (a1*a2.2.2)))))
theorem bEu (a0:Zt)(a1:Int)(a2:Zt):Con Tryz.prog 180 [(.a (k3 a0)),(iv a1),(.a (k3 a2))] [] (.a (k3 (aRe a0 a1 a2))) []:=by
 refine aU Tryz.func180 (by kernel_rfl) fun cx hcx=>?_
 have e:=Eq.refl (aRe a0 a1 a2);conv at e=>rhs;simp only [aRe]
 rw [e]
 exact rt [] [] [] hcx (by kernel_rfl)
def aFy (a0:Zt)(a1:Zt):Zt :=
 (aRe a0 (-1) a1)
theorem bB3 (a0:Zt)(a1:Zt):Con Tryz.prog 143 [(.a (k3 a0)),(.a (k3 a1))] [] (.a (k3 (aFy a0 a1))) []:=by
 refine aU Tryz.func143 (by kernel_rfl) fun cx hcx=>?_
 have e:=Eq.refl (aFy a0 a1);conv at e=>rhs;simp only [aFy]
 rw [e]
 exact rt [.c [] (bEu a0 (-1) a1)] [] [] hcx (by kernel_rfl)
def aRf (a0:Zt)(a1:Zt):Zt :=
 ((W ((W (a0.2.1*a1.2.2)) - (W (a0.2.2*a1.2.1)))),(W ((W (a0.2.2*a1.1)) - (W (a0.1*a1.2.2)))),(W ((W (a0.1*a1.2.1)) - (W (a0.2.1*a1.1)))))
theorem bEv (a0:Zt)(a1:Zt):Con Tryz.prog 142 [(.a (k3 a0)),(.a (k3 a1))] [] (.a (k3 (aRf a0 a1))) []:=by
 refine aU Tryz.func142 (by kernel_rfl) fun cx hcx=>?_
 have e:=Eq.refl (aRf a0 a1);conv at e=>rhs;simp only [aRf]
 rw [e]
 exact rt [] [] [] hcx (by kernel_rfl)
def F98 (a0:Zt×Zt×Zt):Zt :=
 (aRf (aFy a0.2.1 a0.1) (aFy a0.2.2 a0.1))
theorem C98 (a0:Zt×Zt×Zt):Con Tryz.prog 98 [(.a (k9 a0))] [] (.a (k3 (F98 a0))) []:=by
 refine aU Tryz.func98 (by kernel_rfl) fun cx hcx=>?_
 have e:=Eq.refl (F98 a0);conv at e=>rhs;simp only [F98]
 rw [e]
 exact rt [.c [] (bB3 a0.2.1 a0.1),.c [] (bB3 a0.2.2 a0.1),.c [] (bEv (aFy a0.2.1 a0.1) (aFy a0.2.2 a0.1))] [] [] hcx (by kernel_rfl)
def uG (a0:Zt×Zt×Zt):Int :=
 (bif (!(F97 a0.1 64)) then
  1
 else
  (bif (!(F97 a0.2.1 64)) then
   1
  else
   (bif (!(F97 a0.2.2 64)) then
    1
   else
    (bif ((((F98 a0).1:Int) == 0)&&((((F98 a0).2.1:Int) == 0)&&((((F98 a0).2.2:Int) == 0)&&true))) then
     6
    else
     0))))
theorem C58 (a0:Zt×Zt×Zt):Con Tryz.prog 58 [(.a (k9 a0))] [] (iv (uG a0)) []:=by
 refine aU Tryz.func58 (by kernel_rfl) fun cx hcx=>?_
 let t0:List (St Tryz.prog):=[.c [] (C97 a0.1 64)]
 cases h0:(!(F97 a0.1 64)) with
 | true =>
  have e:=Eq.refl (uG a0);conv at e=>rhs;simp only [uG,h0,aW]
  rw [e]
  exact rt (t0++[.d h0]) [] [] hcx (by kernel_rfl)
 | false =>
  let t1:List (St Tryz.prog):=(t0++[.d h0,.c [] (C97 a0.2.1 64)])
  cases h1:(!(F97 a0.2.1 64)) with
  | true =>
   have e:=Eq.refl (uG a0);conv at e=>rhs;simp only [uG,h0,h1,aW]
   rw [e]
   exact rt (t1++[.d h1]) [] [] hcx (by kernel_rfl)
  | false =>
   let t2:List (St Tryz.prog):=(t1++[.d h1,.c [] (C97 a0.2.2 64)])
   cases h2:(!(F97 a0.2.2 64)) with
   | true =>
    have e:=Eq.refl (uG a0);conv at e=>rhs;simp only [uG,h0,h1,h2,aW]
    rw [e]
    exact rt (t2++[.d h2]) [] [] hcx (by kernel_rfl)
   | false =>
    let t3:List (St Tryz.prog):=(t2++[.d h2,.c [] (C98 a0)])
    cases h3:((((F98 a0).1:Int) == 0)&&((((F98 a0).2.1:Int) == 0)&&((((F98 a0).2.2:Int) == 0)&&true))) with
    | true =>
     have e:=Eq.refl (uG a0);conv at e=>rhs;simp only [uG,h0,h1,h2,h3,aW]
     rw [e]
     exact rt (t3++[.d h3]) [] [] hcx (by kernel_rfl)
    | false =>
     have e:=Eq.refl (uG a0);conv at e=>rhs;simp only [uG,h0,h1,h2,h3,aW]
     rw [e]
     exact rt (t3++[.d h3]) [] [] hcx (by kernel_rfl)
def F59 (a0:Int)(a1:Int)(a2:Int):Bool :=
 (bif (decide ((a0:Int)≥a1)) then
  (decide ((a0:Int)<=a2))
 else
  false)
theorem C59 (a0:Int)(a1:Int)(a2:Int):Con Tryz.prog 59 [(iv a0),(iv a1),(iv a2)] [] (.v (.bool (F59 a0 a1 a2))) []:=by
 refine aU Tryz.func59 (by kernel_rfl) fun cx hcx=>?_
 cases h0:(decide ((a0:Int)≥a1)) with
 | true =>
  have q0:=dL h0
  have e:=Eq.refl (F59 a0 a1 a2);conv at e=>rhs;simp only [F59,h0,aW]
  rw [e]
  exact rt [.d h0] [] [] hcx (by kernel_rfl)
 | false =>
  have q0:=eH h0
  have e:=Eq.refl (F59 a0 a1 a2);conv at e=>rhs;simp only [F59,h0,aW]
  rw [e]
  exact rt [.d h0] [] [] hcx (by kernel_rfl)
def F69 (a0:Zt×Zt×Zt)(a1:Zt×Zt×Zt)(a2:Int):Int :=
 (bif (((uG a0):Int) != 0) then
  (uG a0)
 else
  (bif (((uG a1):Int) != 0) then
   (uG a1)
  else
   (bif (!(F59 a2 0 2)) then
    1
   else
    0)))
theorem C69 (a0:Zt×Zt×Zt)(a1:Zt×Zt×Zt)(a2:Int):Con Tryz.prog 69 [(.a (k9 a0)),(.a (k9 a1)),(iv a2)] [] (iv (F69 a0 a1 a2)) []:=by
 refine aU Tryz.func69 (by kernel_rfl) fun cx hcx=>?_
 let t0:List (St Tryz.prog):=[.c [] (C58 a0)]
 cases h0:(((uG a0):Int) != 0) with
 | true =>
  have q0:=bne_iff_ne.1 h0
  have e:=Eq.refl (F69 a0 a1 a2);conv at e=>rhs;simp only [F69,h0,aW]
  rw [e]
  exact rt (t0++[.d h0]) [] [] hcx (by kernel_rfl)
 | false =>
  have q0:=bne_eq_false_iff_eq.1 h0
  let t1:List (St Tryz.prog):=(t0++[.d h0,.c [] (C58 a1)])
  cases h1:(((uG a1):Int) != 0) with
  | true =>
   have q1:=bne_iff_ne.1 h1
   have e:=Eq.refl (F69 a0 a1 a2);conv at e=>rhs;simp only [F69,h0,h1,aW]
   rw [e]
   exact rt (t1++[.d h1]) [] [] hcx (by kernel_rfl)
  | false =>
   have q1:=bne_eq_false_iff_eq.1 h1
   let t2:List (St Tryz.prog):=(t1++[.d h1,.c [] (C59 a2 0 2)])
   cases h2:(!(F59 a2 0 2)) with
   | true =>
    have e:=Eq.refl (F69 a0 a1 a2);conv at e=>rhs;simp only [F69,h0,h1,h2,aW]
    rw [e]
    exact rt (t2++[.d h2]) [] [] hcx (by kernel_rfl)
   | false =>
    have e:=Eq.refl (F69 a0 a1 a2);conv at e=>rhs;simp only [F69,h0,h1,h2,aW]
    rw [e]
    exact rt (t2++[.d h2]) [] [] hcx (by kernel_rfl)
noncomputable def aFz:Code:=(aO [1,1,0,1] [] (aI Tryz.f156) []).1
noncomputable def aF0:List K:=(aO [1,1,0,1] [] (aI Tryz.f156) []).2
def aAs (a0:Int)(v1 v2:Int):LS:=⟨jH 22 [(0,(iv a0)),(3,(iv v1)),(4,(iv v2))],[]⟩
def nG (a0:Int):Int×Int->(Int×Int)⊕(Int)
 | (v1,v2) =>
  (bif (decide ((v2:Int) > 0)) then
   (bif (decide (((W ((W (v1+v2))*(W (v1+v2)))):Int)<=a0)) then
    (.inl ((W (v1+v2)),(v2 / 2)))
   else
    (.inl (v1,(v2 / 2))))
  else
   (.inr v1))
theorem aY8 (a0:Int) {cx:Cx} (hcx:cx.base=0):∀(n:Nat) (v1 v2:Int),True->tN v2 < n->Aw.Good Tryz.prog none 9 (bodyPost Tryz.prog Tryz.f156 (RR cx (iv (aA (nG a0) n (v1,v2))) [] [])) cx [] (.l aFz n::aF0) (aAs a0 v1 v2):=by
 intro n
 induction n with
 | zero=>intro v1 v2 hi hn;exact absurd hn (fO _)
 | succ n ih =>
  intro v1 v2 hi hn
  refine aT ?_
  cases h0:(decide ((v2:Int) > 0)) with
  | true =>
   have q0:=dL h0
   let t1:List (St Tryz.prog):=[.d h0]
   cases h1:(decide (((W ((W (v1+v2))*(W (v1+v2)))):Int)<=a0)) with
   | true =>
    have q1:=dL h1
    have e:=Eq.refl (nG a0 (v1,v2));conv at e=>rhs;simp only [nG,h0,h1,aW]
    rw [aB e]
    refine ba (t1++[.d h1,.p (show 0<=(1:Int) from by decide)]) [] [0,3,4] [] hcx (m:=n) aFz (aF0) (aAs a0 (W (v1+v2)) (Int.fdiv v2 (2 ^ (min (tN 1) 64)))) (by kernel_rfl) ?_
    have z0:(Int.fdiv v2 (2 ^ (min (tN 1) 64)))=(v2 / 2):=xK _ 1 (by decide)
    rw [z0]
    exact ih (W (v1+v2)) (v2 / 2) trivial (by(try simp only [Ls]);omega)
   | false =>
    have q1:=eH h1
    have e:=Eq.refl (nG a0 (v1,v2));conv at e=>rhs;simp only [nG,h0,h1,aW]
    rw [aB e]
    refine ba (t1++[.d h1,.p (show 0<=(1:Int) from by decide)]) [] [0,3,4] [] hcx (m:=n) aFz (aF0) (aAs a0 v1 (Int.fdiv v2 (2 ^ (min (tN 1) 64)))) (by kernel_rfl) ?_
    have z0:(Int.fdiv v2 (2 ^ (min (tN 1) 64)))=(v2 / 2):=xK _ 1 (by decide)
    rw [z0]
    exact ih v1 (v2 / 2) trivial (by(try simp only [Ls]);omega)
  | false =>
   have q0:=eH h0
   have e:=Eq.refl (nG a0 (v1,v2));conv at e=>rhs;simp only [nG,h0,aW]
   rw [aN,e]
   exact rt [.d h0] [] [] hcx (by kernel_rfl)
def lA (a0:Int):Int :=
 (aA (nG a0) (tN 1073741824+1) (0,1073741824))
theorem bB4 (a0:Int):Con Tryz.prog 156 [(iv a0)] [] (iv (lA a0)) []:=by
 refine aU Tryz.func156 (by kernel_rfl) fun cx hcx=>?_
 have e:=Eq.refl (lA a0);conv at e=>rhs;simp only [lA]
 rw [e]
 refine en [] [] [0,3,4] [] hcx aFz (aF0) (aAs a0 0 1073741824) (tN 1073741824+1) (by kernel_rfl) ?_
 exact aY8 a0 hcx (tN 1073741824+1) 0 1073741824 trivial (by(try simp only [Ls]);omega)
def aB7 (a0:(Int)×(Int)×(Int)):Int :=
 (W ((W ((W (0+a0.1))+a0.2.1))+a0.2.2))
theorem aY9 (a0:(Int)×(Int)×(Int)):Con Tryz.prog 193 [(.s 0 0 3 1)] [(.live false false (k3 a0))] (iv (aB7 a0)) []:=by
 refine aU Tryz.func193 (by kernel_rfl) fun cx hcx=>?_
 have e:=Eq.refl (aB7 a0);conv at e=>rhs;simp only [aB7]
 rw [e]
 exact rt [.u 200,.T,.i 0 3 (by decide),.u 0,.T,.i 1 3 (by decide),.u 0,.T,.i 2 3 (by decide),.u 0,.F] [] [] hcx (by kernel_rfl)
def jO (a0:Zt)(a1:Zt):Int :=
 (aB7 ((W (a0.1*a1.1)),(W (a0.2.1*a1.2.1)),(W (a0.2.2*a1.2.2))))
theorem aZa (a0:Zt)(a1:Zt):Con Tryz.prog 157 [(.a (k3 a0)),(.a (k3 a1))] [] (iv (jO a0 a1)) []:=by
 refine aU Tryz.func157 (by kernel_rfl) fun cx hcx=>?_
 have e:=Eq.refl (jO a0 a1);conv at e=>rhs;simp only [jO]
 rw [e]
 exact rt [.c [2] (aY9 ((W (a0.1*a1.1)),(W (a0.2.1*a1.2.1)),(W (a0.2.2*a1.2.2))))] [] [] hcx (by kernel_rfl)
def cE (a0:Zt)(a1:Zt):Zt :=
 ((W (a0.1 - a1.1)),(W (a0.2.1 - a1.2.1)),(W (a0.2.2 - a1.2.2)))
theorem aZb (a0:Zt)(a1:Zt):Con Tryz.prog 155 [(.a (k3 a0)),(.a (k3 a1))] [] (.a (k3 (cE a0 a1))) []:=by
 refine aU Tryz.func155 (by kernel_rfl) fun cx hcx=>?_
 have e:=Eq.refl (cE a0 a1);conv at e=>rhs;simp only [cE]
 rw [e]
 exact rt [] [] [] hcx (by kernel_rfl)
def gY (a0:Zt)(a1:Zt):Zt :=
 ((W ((W (a0.2.1*a1.2.2)) - (W (a0.2.2*a1.2.1)))),(W ((W (a0.2.2*a1.1)) - (W (a0.1*a1.2.2)))),(W ((W (a0.1*a1.2.1)) - (W (a0.2.1*a1.1)))))
theorem bEw (a0:Zt)(a1:Zt):Con Tryz.prog 154 [(.a (k3 a0)),(.a (k3 a1))] [] (.a (k3 (gY a0 a1))) []:=by
 refine aU Tryz.func154 (by kernel_rfl) fun cx hcx=>?_
 have e:=Eq.refl (gY a0 a1);conv at e=>rhs;simp only [gY]
 rw [e]
 exact rt [] [] [] hcx (by kernel_rfl)
def bA (a0:Zt×Zt×Zt):Zt×Zt :=
 (((if(a0.2.2.1:Int) < (if(a0.2.1.1:Int) < (if(a0.1.1:Int) < a0.1.1 then a0.1.1 else a0.1.1) then a0.2.1.1 else(if(a0.1.1:Int) < a0.1.1 then a0.1.1 else a0.1.1)) then a0.2.2.1 else(if(a0.2.1.1:Int) < (if(a0.1.1:Int) < a0.1.1 then a0.1.1 else a0.1.1) then a0.2.1.1 else(if(a0.1.1:Int) < a0.1.1 then a0.1.1 else a0.1.1))),(if(a0.2.2.2.1:Int) < (if(a0.2.1.2.1:Int) < (if(a0.1.2.1:Int) < a0.1.2.1 then a0.1.2.1 else a0.1.2.1) then a0.2.1.2.1 else(if(a0.1.2.1:Int) < a0.1.2.1 then a0.1.2.1 else a0.1.2.1)) then a0.2.2.2.1 else(if(a0.2.1.2.1:Int) < (if(a0.1.2.1:Int) < a0.1.2.1 then a0.1.2.1 else a0.1.2.1) then a0.2.1.2.1 else(if(a0.1.2.1:Int) < a0.1.2.1 then a0.1.2.1 else a0.1.2.1))),(if(a0.2.2.2.2:Int) < (if(a0.2.1.2.2:Int) < (if(a0.1.2.2:Int) < a0.1.2.2 then a0.1.2.2 else a0.1.2.2) then a0.2.1.2.2 else(if(a0.1.2.2:Int) < a0.1.2.2 then a0.1.2.2 else a0.1.2.2)) then a0.2.2.2.2 else(if(a0.2.1.2.2:Int) < (if(a0.1.2.2:Int) < a0.1.2.2 then a0.1.2.2 else a0.1.2.2) then a0.2.1.2.2 else(if(a0.1.2.2:Int) < a0.1.2.2 then a0.1.2.2 else a0.1.2.2)))),((if((if((if(a0.1.1:Int) < a0.1.1 then a0.1.1 else a0.1.1):Int) < a0.2.1.1 then a0.2.1.1 else(if(a0.1.1:Int) < a0.1.1 then a0.1.1 else a0.1.1)):Int) < a0.2.2.1 then a0.2.2.1 else(if((if(a0.1.1:Int) < a0.1.1 then a0.1.1 else a0.1.1):Int) < a0.2.1.1 then a0.2.1.1 else(if(a0.1.1:Int) < a0.1.1 then a0.1.1 else a0.1.1))),(if((if((if(a0.1.2.1:Int) < a0.1.2.1 then a0.1.2.1 else a0.1.2.1):Int) < a0.2.1.2.1 then a0.2.1.2.1 else(if(a0.1.2.1:Int) < a0.1.2.1 then a0.1.2.1 else a0.1.2.1)):Int) < a0.2.2.2.1 then a0.2.2.2.1 else(if((if(a0.1.2.1:Int) < a0.1.2.1 then a0.1.2.1 else a0.1.2.1):Int) < a0.2.1.2.1 then a0.2.1.2.1 else(if(a0.1.2.1:Int) < a0.1.2.1 then a0.1.2.1 else a0.1.2.1))),(if((if((if(a0.1.2.2:Int) < a0.1.2.2 then a0.1.2.2 else a0.1.2.2):Int) < a0.2.1.2.2 then a0.2.1.2.2 else(if(a0.1.2.2:Int) < a0.1.2.2 then a0.1.2.2 else a0.1.2.2)):Int) < a0.2.2.2.2 then a0.2.2.2.2 else(if((if(a0.1.2.2:Int) < a0.1.2.2 then a0.1.2.2 else a0.1.2.2):Int) < a0.2.1.2.2 then a0.2.1.2.2 else(if(a0.1.2.2:Int) < a0.1.2.2 then a0.1.2.2 else a0.1.2.2)))))
theorem aRg (a0:Zt×Zt×Zt):Con Tryz.prog 162 [(.s 0 0 3 3)] [(.live false false (k9 a0))] (.t [(.a (k3 (bA a0).1)),(.a (k3 (bA a0).2))]) []:=by
 refine aU Tryz.func162 (by kernel_rfl) fun cx hcx=>?_
 have e:=Eq.refl (bA a0);conv at e=>rhs;simp only [bA]
 rw [e]
 exact rt [.i 0 3 (by decide),.i 0 3 (by decide),.u 200,.T,.i 0 3 (by decide),.u 0,.T,.i 1 3 (by decide),.u 0,.T,.i 2 3 (by decide),.u 0,.F] [] [] hcx (by kernel_rfl)
def lS (a0:Int)(a1:Int)(a2:Int)(a3:Int):Int :=
 (if((if(0:Int) < (W (a2 - a1)) then(W (a2 - a1)) else 0):Int) < (W (a0 - a3)) then(W (a0 - a3)) else(if(0:Int) < (W (a2 - a1)) then(W (a2 - a1)) else 0))
theorem aZc (a0:Int)(a1:Int)(a2:Int)(a3:Int):Con Tryz.prog 163 [(iv a0),(iv a1),(iv a2),(iv a3)] [] (iv (lS a0 a1 a2 a3)) []:=by
 refine aU Tryz.func163 (by kernel_rfl) fun cx hcx=>?_
 have e:=Eq.refl (lS a0 a1 a2 a3);conv at e=>rhs;simp only [lS]
 rw [e]
 exact rt [] [] [] hcx (by kernel_rfl)
def cF (a0:Zt×Zt×Zt)(a1:Zt×Zt×Zt):Int :=
 (jO ((lS (bA a0).1.1 (bA a0).2.1 (bA a1).1.1 (bA a1).2.1),(lS (bA a0).1.2.1 (bA a0).2.2.1 (bA a1).1.2.1 (bA a1).2.2.1),(lS (bA a0).1.2.2 (bA a0).2.2.2 (bA a1).1.2.2 (bA a1).2.2.2)) ((lS (bA a0).1.1 (bA a0).2.1 (bA a1).1.1 (bA a1).2.1),(lS (bA a0).1.2.1 (bA a0).2.2.1 (bA a1).1.2.1 (bA a1).2.2.1),(lS (bA a0).1.2.2 (bA a0).2.2.2 (bA a1).1.2.2 (bA a1).2.2.2)))
theorem aIo (a0:Zt×Zt×Zt)(a1:Zt×Zt×Zt):Con Tryz.prog 110 [(.s 0 0 3 3),(.s 1 0 3 3)] [(.live false false (k9 a0)),(.live false false (k9 a1))] (iv (cF a0 a1)) []:=by
 refine aU Tryz.func110 (by kernel_rfl) fun cx hcx=>?_
 have e:=Eq.refl (cF a0 a1);conv at e=>rhs;simp only [cF]
 rw [e]
 exact rt [.c [0] (aRg a0),.c [1] (aRg a1),.c [] (aZc (bA a0).1.1 (bA a0).2.1 (bA a1).1.1 (bA a1).2.1),.c [] (aZc (bA a0).1.2.1 (bA a0).2.2.1 (bA a1).1.2.1 (bA a1).2.2.1),.c [] (aZc (bA a0).1.2.2 (bA a0).2.2.2 (bA a1).1.2.2 (bA a1).2.2.2),.c [] (aZa ((lS (bA a0).1.1 (bA a0).2.1 (bA a1).1.1 (bA a1).2.1),(lS (bA a0).1.2.1 (bA a0).2.2.1 (bA a1).1.2.1 (bA a1).2.2.1),(lS (bA a0).1.2.2 (bA a0).2.2.2 (bA a1).1.2.2 (bA a1).2.2.2)) ((lS (bA a0).1.1 (bA a0).2.1 (bA a1).1.1 (bA a1).2.1),(lS (bA a0).1.2.1 (bA a0).2.2.1 (bA a1).1.2.1 (bA a1).2.2.1),(lS (bA a0).1.2.2 (bA a0).2.2.2 (bA a1).1.2.2 (bA a1).2.2.2)))] [] [] hcx (by kernel_rfl)
def c24 (x:Zt):List SV:=[(iv x.1),(iv x.2.1),(iv x.2.2)]
theorem aNc (x:Zt):(c24 x).length=3:=rfl
noncomputable def uH:Code:=(aO [1,1,0,1,0,1,1,0,1,1] [0] (aI Tryz.f109) []).1
noncomputable def uI (m0:Nat):List K:=(aO [1,1,0,1,0,1,1,0,1,1] [m0] (aI Tryz.f109) []).2
def qR (a0:List Zt)(a1:List Zt)(v5 v6 v7 v8 v9 v10:Int):LS:=⟨jH 34 [(1,(.s 1 0 a1.length 3)),(5,(iv v5)),(7,(.p 2 0)),(11,(.s 0 0 a0.length 3)),(12,(iv (a0.length:Int))),(13,(iv v6)),(17,(.s 1 0 a1.length 3)),(18,(iv (a1.length:Int))),(19,(iv v7))],[(.live false true (flat c24 a0)),(.live false true (flat c24 a1)),(.live true false [(iv v8),(iv v9),(iv v10)])]⟩
def jP (a0:List Zt)(a1:List Zt):Int×Int×Int×Zt->(Int×Int×Int×Zt)⊕((Int×Int)⊕(Int))
 | (v5,v6,v7,v8,v9,v10) =>
  (bif (decide ((v7:Int) < (a1.length:Int))) then
   (.inl ((if(v5:Int) < (jO (cE (v8,v9,v10) (a1.getD (tN v7) dF)) (cE (v8,v9,v10) (a1.getD (tN v7) dF))) then(jO (cE (v8,v9,v10) (a1.getD (tN v7) dF)) (cE (v8,v9,v10) (a1.getD (tN v7) dF))) else v5),v6,(v7+1),v8,v9,v10))
  else
   (.inr (.inl (v5,(v6+1)))))
noncomputable def pC:Code:=(aO [1,1,0,1] [] (aI Tryz.f109) []).1
noncomputable def pD:List K:=(aO [1,1,0,1] [] (aI Tryz.f109) []).2
def mU (a0:List Zt)(a1:List Zt)(v3 v4:Int):LS:=⟨jH 34 [(1,(.s 1 0 a1.length 3)),(5,(iv v3)),(11,(.s 0 0 a0.length 3)),(12,(iv (a0.length:Int))),(13,(iv v4))],[(.live false true (flat c24 a0)),(.live false true (flat c24 a1))]⟩
def gK (a0:List Zt)(a1:List Zt):Int×Int->(Int×Int)⊕(Int)
 | (v3,v4) =>
  (bif (decide ((v4:Int) < (a0.length:Int))) then
   (aA (jP a0 a1) (tN ((a1.length:Int) - 0)+1) (v3,v4,0,(a0.getD (tN v4) dF).1,(a0.getD (tN v4) dF).2.1,(a0.getD (tN v4) dF).2.2))
  else
   (.inr v3))
theorem aKw (a0:List Zt)(a1:List Zt)(l0:a0.length<=2^63-1)(l1:a1.length<=2^63-1) {cx:Cx} (hcx:cx.base=2)
 (n0:Nat) (g0:∀(v3 v4:Int),0<=v4->tN ((a0.length:Int) - v4) < n0->Aw.Good Tryz.prog none 9 (bodyPost Tryz.prog Tryz.f109 (RR cx (iv (aA (gK a0 a1) n0 (v3,v4))) [] [])) cx [] (.l pC n0::pD) (mU a0 a1 v3 v4)):∀(n:Nat) (v5 v6 v7 v8 v9 v10:Int),(0<=v7)/\((0<=v6))/\(v6 < (a0.length:Int))/\(tN ((a0.length:Int) - v6) < n0+1)->tN ((a1.length:Int) - v7) < n->Aw.Good Tryz.prog none 9 (bodyPost Tryz.prog Tryz.f109 (RR cx (iv (bB (gK a0 a1) n0 (aA (jP a0 a1) n (v5,v6,v7,v8,v9,v10)))) [] [])) cx [] (.l uH n::uI n0) (qR a0 a1 v5 v6 v7 v8 v9 v10):=by
 intro n
 induction n with
 | zero=>intro v5 v6 v7 v8 v9 v10 hi hn;exact absurd hn (fO _)
 | succ n ih =>
  intro v5 v6 v7 v8 v9 v10 hi hn
  refine aT ?_
  cases h0:(decide ((v7:Int) < (a1.length:Int))) with
  | true =>
   have q0:=dL h0
   have e:=Eq.refl (jP a0 a1 (v5,v6,v7,v8,v9,v10));conv at e=>rhs;simp only [jP,h0,aW]
   rw [aB e]
   refine ba [.d h0,.i v7 (a1.length),.L aNc a1 v7 0 3,.c [] (aZb (v8,v9,v10) (a1.getD (tN v7) dF)),.c [] (aZa (cE (v8,v9,v10) (a1.getD (tN v7) dF)) (cE (v8,v9,v10) (a1.getD (tN v7) dF)))] [] [1,5,7,11,12,13,17,18,19] [2] hcx (m:=n) uH (uI n0) (qR a0 a1 (if(v5:Int) < (jO (cE (v8,v9,v10) (a1.getD (tN v7) dF)) (cE (v8,v9,v10) (a1.getD (tN v7) dF))) then(jO (cE (v8,v9,v10) (a1.getD (tN v7) dF)) (cE (v8,v9,v10) (a1.getD (tN v7) dF))) else v5) v6 (W (v7+1)) v8 v9 v10) (by kernel_rfl) ?_
   have z0:(W (v7+1))=(v7+1):=aH (by omega) (by omega)
   rw [z0]
   exact ih (if(v5:Int) < (jO (cE (v8,v9,v10) (a1.getD (tN v7) dF)) (cE (v8,v9,v10) (a1.getD (tN v7) dF))) then(jO (cE (v8,v9,v10) (a1.getD (tN v7) dF)) (cE (v8,v9,v10) (a1.getD (tN v7) dF))) else v5) v6 (v7+1) v8 v9 v10 (by refine⟨?_,?_,?_,?_⟩<;>(try simp only [Ls])<;>first | omega | assumption | simp) (by(try simp only [Ls]);omega)
  | false =>
   have q0:=eH h0
   have e:=Eq.refl (jP a0 a1 (v5,v6,v7,v8,v9,v10));conv at e=>rhs;simp only [jP,h0,aW]
   rw [aN,e]
   refine ba [.d h0] [] [1,5,11,12,13] [] hcx (m:=n0) pC (pD) (mU a0 a1 v5 (W (v6+1))) (by kernel_rfl) ?_
   have z0:(W (v6+1))=(v6+1):=aH (by omega) (by omega)
   rw [z0]
   exact g0 v5 (v6+1) (by(try simp only [Ls]);omega) (by(try simp only [Ls]);omega)
theorem aKx (a0:List Zt)(a1:List Zt)(l0:a0.length<=2^63-1)(l1:a1.length<=2^63-1) {cx:Cx} (hcx:cx.base=2):∀(n:Nat) (v3 v4:Int),0<=v4->tN ((a0.length:Int) - v4) < n->Aw.Good Tryz.prog none 9 (bodyPost Tryz.prog Tryz.f109 (RR cx (iv (aA (gK a0 a1) n (v3,v4))) [] [])) cx [] (.l pC n::pD) (mU a0 a1 v3 v4):=by
 intro n
 induction n with
 | zero=>intro v3 v4 hi hn;exact absurd hn (fO _)
 | succ n ih =>
  intro v3 v4 hi hn
  refine aT ?_
  cases h0:(decide ((v4:Int) < (a0.length:Int))) with
  | true =>
   have q0:=dL h0
   have e:=Eq.refl (gK a0 a1 (v3,v4));conv at e=>rhs;simp only [gK,h0,aW]
   rw [aN,e]
   refine en [.d h0,.i v4 (a0.length),.L aNc a0 v4 0 3] [] [1,5,7,11,12,13,17,18,19] [2] hcx uH (uI n) (qR a0 a1 v3 v4 0 ((a0.getD (tN v4) dF).1) ((a0.getD (tN v4) dF).2.1) ((a0.getD (tN v4) dF).2.2)) (tN ((a1.length:Int) - 0)+1) (by kernel_rfl) ?_
   exact aKw a0 a1 l0 l1 hcx n ih (tN ((a1.length:Int) - 0)+1) v3 v4 0 ((a0.getD (tN v4) dF).1) ((a0.getD (tN v4) dF).2.1) ((a0.getD (tN v4) dF).2.2) (by refine⟨?_,?_,?_,?_⟩<;>(try simp only [Ls])<;>first | omega | assumption | simp) (by(try simp only [Ls]);omega)
  | false =>
   have q0:=eH h0
   have e:=Eq.refl (gK a0 a1 (v3,v4));conv at e=>rhs;simp only [gK,h0,aW]
   rw [aN,e]
   exact rt [.d h0] [] [] hcx (by kernel_rfl)
def bY (a0:List Zt)(a1:List Zt):Int :=
 (aA (gK a0 a1) (tN ((a0.length:Int) - 0)+1) (0,0))
theorem aIp (a0:List Zt)(a1:List Zt)(l0:a0.length<=2^63-1)(l1:a1.length<=2^63-1):Con Tryz.prog 109 [(.s 0 0 a0.length 3),(.s 1 0 a1.length 3)] [(.live false true (flat c24 a0)),(.live false true (flat c24 a1))] (iv (bY a0 a1)) []:=by
 refine aU Tryz.func109 (by kernel_rfl) fun cx hcx=>?_
 have e:=Eq.refl (bY a0 a1);conv at e=>rhs;simp only [bY]
 rw [e]
 refine en [] [] [1,5,11,12,13] [] hcx pC (pD) (mU a0 a1 0 0) (tN ((a0.length:Int) - 0)+1) (by kernel_rfl) ?_
 exact aKx a0 a1 l0 l1 hcx (tN ((a0.length:Int) - 0)+1) 0 0 (by(try simp only [Ls]);omega) (by(try simp only [Ls]);omega)
noncomputable def xL:Code:=match (bO [1] [] (aI Tryz.f194)).1 with
 | .scope c=>c
 | _=>.skip
noncomputable def aB8:List K:=(bO [1] [] (aI Tryz.f194)).2
noncomputable def aZd:Code:=(findLabel xL 0).getD .skip
def vL (a0:Int)(v1 v2:Int):LS:=⟨jH 22 [(0,(iv a0)),(3,(iv v1)),(4,(iv v2))],[]⟩
def lT (a0:Int):Int×Int->(Int×Int)⊕(Int)
 | (v1,v2) =>
  (bif ((v2:Int) == 0) then
   (.inr v1)
  else
   (bif (decide (((W ((W (v1+v2))*(W (v1+v2)))):Int)<=a0)) then
    (.inl ((W (v1+v2)),(v2 / 2)))
   else
    (.inl (v1,(v2 / 2)))))
theorem aRh (a0:Int) {cx:Cx} (hcx:cx.base=0):∀(n:Nat) (v1 v2:Int),0<=v2->tN v2 < n->Aw.Good Tryz.prog none 9 (bodyPost Tryz.prog Tryz.f194 (RR cx (iv (aA (lT a0) n (v1,v2))) [] [])) cx [] (.c (.goto 0)::.s xL n::aB8) (vL a0 v1 v2):=by
 intro n
 induction n with
 | zero=>intro v1 v2 hi hn;exact absurd hn (fO _)
 | succ n ih =>
  intro v1 v2 hi hn
  refine aPg (rest:=aZd) (by kernel_rfl) ?_
  cases h0:((v2:Int) == 0) with
  | true =>
   have q0:=eq_of_beq h0
   have e:=Eq.refl (lT a0 (v1,v2));conv at e=>rhs;simp only [lT,h0,aW]
   rw [aN,e]
   exact rt [.d h0] [] [] hcx (by kernel_rfl)
  | false =>
   have q0:=ne_of_beq_false h0
   let t1:List (St Tryz.prog):=[.d h0]
   cases h1:(decide (((W ((W (v1+v2))*(W (v1+v2)))):Int)<=a0)) with
   | true =>
    have q1:=dL h1
    have e:=Eq.refl (lT a0 (v1,v2));conv at e=>rhs;simp only [lT,h0,h1,aW]
    rw [aB e]
    refine ga (t1++[.d h1,.p (show 0<=(1:Int) from by decide)]) [] [0,3,4] [] hcx (.goto 0) (.s xL n::aB8) (vL a0 (W (v1+v2)) (Int.fdiv v2 (2 ^ (min (tN 1) 64)))) (by kernel_rfl) ?_
    have z0:(Int.fdiv v2 (2 ^ (min (tN 1) 64)))=(v2 / 2):=xK _ 1 (by decide)
    rw [z0]
    exact ih (W (v1+v2)) (v2 / 2) (by(try simp only [Ls]);omega) (by omega)
   | false =>
    have q1:=eH h1
    have e:=Eq.refl (lT a0 (v1,v2));conv at e=>rhs;simp only [lT,h0,h1,aW]
    rw [aB e]
    refine ga (t1++[.d h1,.p (show 0<=(1:Int) from by decide)]) [] [0,3,4] [] hcx (.goto 0) (.s xL n::aB8) (vL a0 v1 (Int.fdiv v2 (2 ^ (min (tN 1) 64)))) (by kernel_rfl) ?_
    have z0:(Int.fdiv v2 (2 ^ (min (tN 1) 64)))=(v2 / 2):=xK _ 1 (by decide)
    rw [z0]
    exact ih v1 (v2 / 2) (by(try simp only [Ls]);omega) (by omega)
def hG (a0:Int):Int :=
 (bif (decide ((4611686018427387904:Int)<=a0)) then
  (aA (lT a0) (tN 1073741824+1) (2147483648,1073741824))
 else
  (aA (lT a0) (tN 1073741824+1) (0,1073741824)))
theorem bEx (a0:Int):Con Tryz.prog 194 [(iv a0)] [] (iv (hG a0)) []:=by
 refine aU Tryz.func194 (by kernel_rfl) fun cx hcx=>?_
 cases h0:(decide ((4611686018427387904:Int)<=a0)) with
 | true =>
  have q0:=dL h0
  have e:=Eq.refl (hG a0);conv at e=>rhs;simp only [hG,h0,aW]
  rw [e]
  refine ga [.u (tN 1073741824+1),.F,.d h0,.p (show 0<=(1:Int) from by decide)] [] [0,3,4] [] hcx (.goto 0) (.s xL (tN 1073741824+1)::aB8) (vL a0 2147483648 1073741824) (by kernel_rfl) ?_
  exact aRh a0 hcx (tN 1073741824+1) 2147483648 1073741824 (by(try simp only [Ls]);omega) (by omega)
 | false =>
  have q0:=eH h0
  have e:=Eq.refl (hG a0);conv at e=>rhs;simp only [hG,h0,aW]
  rw [e]
  refine ga [.u (tN 1073741824+1),.F,.d h0,.p (show 0<=(1:Int) from by decide)] [] [0,3,4] [] hcx (.goto 0) (.s xL (tN 1073741824+1)::aB8) (vL a0 0 1073741824) (by kernel_rfl) ?_
  exact aRh a0 hcx (tN 1073741824+1) 0 1073741824 (by(try simp only [Ls]);omega) (by omega)
def wU (a0:Int×Int):Bool :=
 (bif (decide ((a0.1:Int)≥(-1099511627776))) then
  (bif (decide ((a0.1:Int)<=a0.2)) then
   (decide ((a0.2:Int)<=1099511627776))
  else
   false)
 else
  false)
theorem C76 (a0:Int×Int):Con Tryz.prog 76 [(.a [(iv a0.1),(iv a0.2)])] [] (.v (.bool (wU a0))) []:=by
 refine aU Tryz.func76 (by kernel_rfl) fun cx hcx=>?_
 cases h0:(decide ((a0.1:Int)≥(-1099511627776))) with
 | true =>
  have q0:=dL h0
  let t1:List (St Tryz.prog):=[.d h0]
  cases h1:(decide ((a0.1:Int)<=a0.2)) with
  | true =>
   have q1:=dL h1
   have e:=Eq.refl (wU a0);conv at e=>rhs;simp only [wU,h0,h1,aW]
   rw [e]
   exact rt (t1++[.d h1]) [] [] hcx (by kernel_rfl)
  | false =>
   have q1:=eH h1
   have e:=Eq.refl (wU a0);conv at e=>rhs;simp only [wU,h0,h1,aW]
   rw [e]
   exact rt (t1++[.d h1]) [] [] hcx (by kernel_rfl)
 | false =>
  have q0:=eH h0
  have e:=Eq.refl (wU a0);conv at e=>rhs;simp only [wU,h0,aW]
  rw [e]
  exact rt [.d h0] [] [] hcx (by kernel_rfl)
def jQ (a0:Int)(a1:Int):(Int×Int)×Int :=
 (bif (!(wU (a0,a1))) then
  ((0,0),4)
 else
  ((a0,a1),0))
theorem aRi (a0:Int)(a1:Int):Con Tryz.prog 115 [(iv a0),(iv a1)] [] (.t [(.a (k2 (jQ a0 a1).1)),(iv (jQ a0 a1).2)]) []:=by
 refine aU Tryz.func115 (by kernel_rfl) fun cx hcx=>?_
 let t0:List (St Tryz.prog):=[.c [] (C76 (a0,a1))]
 cases h0:(!(wU (a0,a1))) with
 | true =>
  have e:=Eq.refl (jQ a0 a1);conv at e=>rhs;simp only [jQ,h0,aW]
  rw [e]
  exact rt (t0++[.d h0]) [] [] hcx (by kernel_rfl)
 | false =>
  have e:=Eq.refl (jQ a0 a1);conv at e=>rhs;simp only [jQ,h0,aW]
  rw [e]
  exact rt (t0++[.d h0]) [] [] hcx (by kernel_rfl)
def aD9 (a0:Int)(a1:Int):(Int×Int)×Int :=
 (bif (((W ((W ((hG (W (Int.tdiv a0 a1)))*(hG (W (Int.tdiv a0 a1)))))*a1)):Int) == a0) then
  ((jQ (hG (W (Int.tdiv a0 a1))) (hG (W (Int.tdiv a0 a1)))).1,(jQ (hG (W (Int.tdiv a0 a1))) (hG (W (Int.tdiv a0 a1)))).2)
 else
  ((jQ (hG (W (Int.tdiv a0 a1))) (W ((hG (W (Int.tdiv a0 a1)))+1))).1,(jQ (hG (W (Int.tdiv a0 a1))) (W ((hG (W (Int.tdiv a0 a1)))+1))).2))
theorem bEy (a0:Int)(a1:Int)(ha:a1≠0):Con Tryz.prog 161 [(iv a0),(iv a1)] [] (.t [(.a (k2 (aD9 a0 a1).1)),(iv (aD9 a0 a1).2)]) []:=by
 refine aU Tryz.func161 (by kernel_rfl) fun cx hcx=>?_
 let t0:List (St Tryz.prog):=[.p (show(a1:Int)≠0 from by first | omega | (rw [aH]<;>omega) | exact pB _),.c [] (bEx (W (Int.tdiv a0 a1)))]
 cases h0:(((W ((W ((hG (W (Int.tdiv a0 a1)))*(hG (W (Int.tdiv a0 a1)))))*a1)):Int) == a0) with
 | true =>
  have q0:=eq_of_beq h0
  have e:=Eq.refl (aD9 a0 a1);conv at e=>rhs;simp only [aD9,h0,aW]
  rw [e]
  exact rt (t0++[.d h0,.c [] (aRi (hG (W (Int.tdiv a0 a1))) (hG (W (Int.tdiv a0 a1))))]) [] [] hcx (by kernel_rfl)
 | false =>
  have q0:=ne_of_beq_false h0
  have e:=Eq.refl (aD9 a0 a1);conv at e=>rhs;simp only [aD9,h0,aW]
  rw [e]
  exact rt (t0++[.d h0,.c [] (aRi (hG (W (Int.tdiv a0 a1))) (W ((hG (W (Int.tdiv a0 a1)))+1)))]) [] [] hcx (by kernel_rfl)
def fU (a0:Int)(a1:Int):(Int×Int)×Int :=
 (bif (decide ((a0:Int) < 1)) then
  ((0,0),1)
 else
  (bif (decide ((a0:Int) > 1099511627776)) then
   ((0,0),1)
  else
   (bif (decide ((a1:Int) < 1)) then
    ((0,0),1)
   else
    (bif (decide ((a1:Int) > 8)) then
     ((0,0),1)
    else
     ((aD9 (W ((W (a1*a1))*2 ^ (min (tN 40) 64))) a0).1,(aD9 (W ((W (a1*a1))*2 ^ (min (tN 40) 64))) a0).2)))))
theorem aZe (a0:Int)(a1:Int):Con Tryz.prog 108 [(iv a0),(iv a1)] [] (.t [(.a (k2 (fU a0 a1).1)),(iv (fU a0 a1).2)]) []:=by
 refine aU Tryz.func108 (by kernel_rfl) fun cx hcx=>?_
 cases h0:(decide ((a0:Int) < 1)) with
 | true =>
  have q0:=dL h0
  have e:=Eq.refl (fU a0 a1);conv at e=>rhs;simp only [fU,h0,aW]
  rw [e]
  exact rt [.d h0] [] [] hcx (by kernel_rfl)
 | false =>
  have q0:=eH h0
  let t1:List (St Tryz.prog):=[.d h0]
  cases h1:(decide ((a0:Int) > 1099511627776)) with
  | true =>
   have q1:=dL h1
   have e:=Eq.refl (fU a0 a1);conv at e=>rhs;simp only [fU,h0,h1,aW]
   rw [e]
   exact rt (t1++[.d h1]) [] [] hcx (by kernel_rfl)
  | false =>
   have q1:=eH h1
   let t2:List (St Tryz.prog):=(t1++[.d h1])
   cases h2:(decide ((a1:Int) < 1)) with
   | true =>
    have q2:=dL h2
    have e:=Eq.refl (fU a0 a1);conv at e=>rhs;simp only [fU,h0,h1,h2,aW]
    rw [e]
    exact rt (t2++[.d h2]) [] [] hcx (by kernel_rfl)
   | false =>
    have q2:=eH h2
    let t3:List (St Tryz.prog):=(t2++[.d h2])
    cases h3:(decide ((a1:Int) > 8)) with
    | true =>
     have q3:=dL h3
     have e:=Eq.refl (fU a0 a1);conv at e=>rhs;simp only [fU,h0,h1,h2,h3,aW]
     rw [e]
     exact rt (t3++[.d h3]) [] [] hcx (by kernel_rfl)
    | false =>
     have q3:=eH h3
     have e:=Eq.refl (fU a0 a1);conv at e=>rhs;simp only [fU,h0,h1,h2,h3,aW]
     rw [e]
     exact rt (t3++[.d h3,.p (show 0<=(40:Int) from by decide),.c [] (bEy (W ((W (a1*a1))*2 ^ (min (tN 40) 64))) a0  (by(try simp only [Lt]);omega))]) [] [] hcx (by kernel_rfl)
def kU (a0:Int×Int):Int :=
 (bif (!(wU a0)) then
  1
 else
  0)
theorem aXo (a0:Int×Int):Con Tryz.prog 45 [(.s 0 0 1 2)] [(.live false false [(iv a0.1),(iv a0.2)])] (iv (kU a0)) []:=by
 refine aU Tryz.func45 (by kernel_rfl) fun cx hcx=>?_
 let t0:List (St Tryz.prog):=[.u 200,.T,.i 0 1 (by decide),.c [] (C76 a0)]
 cases h0:(!(wU a0)) with
 | true =>
  have e:=Eq.refl (kU a0);conv at e=>rhs;simp only [kU,h0,aW]
  rw [e]
  exact rt (t0++[.d h0]) [] [] hcx (by kernel_rfl)
 | false =>
  have e:=Eq.refl (kU a0);conv at e=>rhs;simp only [kU,h0,aW]
  rw [e]
  exact rt (t0++[.d h0,.u 0,.F]) [] [] hcx (by kernel_rfl)
def xM (a0:Int)(a1:Int):Int :=
 (bif (((Int.tmod a0 a1):Int) != 0) then
  (bif (!((decide ((a0:Int) < 0)) == (decide ((a1:Int) < 0)))) then
   (W ((W (Int.tdiv a0 a1)) - 1))
  else
   (W (Int.tdiv a0 a1)))
 else
  (W (Int.tdiv a0 a1)))
theorem bB5 (a0:Int)(a1:Int)(ha:a1≠0):Con Tryz.prog 195 [(iv a0),(iv a1)] [] (iv (xM a0 a1)) []:=by
 refine aU Tryz.func195 (by kernel_rfl) fun cx hcx=>?_
 let t0:List (St Tryz.prog):=[.p (show(a1:Int)≠0 from by first | omega | (rw [aH]<;>omega) | exact pB _),.p (show(a1:Int)≠0 from by first | omega | (rw [aH]<;>omega) | exact pB _)]
 cases h0:(((Int.tmod a0 a1):Int) != 0) with
 | true =>
  have q0:=bne_iff_ne.1 h0
  let t1:List (St Tryz.prog):=(t0++[.d h0])
  cases h1:(!((decide ((a0:Int) < 0)) == (decide ((a1:Int) < 0)))) with
  | true =>
   have e:=Eq.refl (xM a0 a1);conv at e=>rhs;simp only [xM,h0,h1,aW]
   rw [e]
   exact rt (t1++[.d h1]) [] [] hcx (by kernel_rfl)
  | false =>
   have e:=Eq.refl (xM a0 a1);conv at e=>rhs;simp only [xM,h0,h1,aW]
   rw [e]
   exact rt (t1++[.d h1]) [] [] hcx (by kernel_rfl)
 | false =>
  have q0:=bne_eq_false_iff_eq.1 h0
  have e:=Eq.refl (xM a0 a1);conv at e=>rhs;simp only [xM,h0,aW]
  rw [e]
  exact rt (t0++[.d h0]) [] [] hcx (by kernel_rfl)
def aIq (a0:Int)(a1:Int):Int :=
 (W (0 - (xM (W (0 - a0)) a1)))
theorem bEz (a0:Int)(a1:Int)(ha:a1≠0):Con Tryz.prog 196 [(iv a0),(iv a1)] [] (iv (aIq a0 a1)) []:=by
 refine aU Tryz.func196 (by kernel_rfl) fun cx hcx=>?_
 have e:=Eq.refl (aIq a0 a1);conv at e=>rhs;simp only [aIq]
 rw [e]
 exact rt [.c [] (bB5 (W (0 - a0)) a1  (by(try simp only [Lt]);omega))] [] [] hcx (by kernel_rfl)
def aAi (a0:Int×Int)(a1:Int):(Int×Int)×Int :=
 (bif (((kU a0):Int) != 0) then
  ((0,0),(kU a0))
 else
  (bif (decide ((a1:Int) < 1)) then
   ((0,0),1)
  else
   (bif (decide ((a1:Int) > 1099511627776)) then
    ((0,0),1)
   else
    ((jQ (xM a0.1 a1) (aIq a0.2 a1)).1,(jQ (xM a0.1 a1) (aIq a0.2 a1)).2))))
theorem bE0 (a0:Int×Int)(a1:Int):Con Tryz.prog 164 [(.a [(iv a0.1),(iv a0.2)]),(iv a1)] [] (.t [(.a (k2 (aAi a0 a1).1)),(iv (aAi a0 a1).2)]) []:=by
 refine aU Tryz.func164 (by kernel_rfl) fun cx hcx=>?_
 let t0:List (St Tryz.prog):=[.c [2] (aXo a0)]
 cases h0:(((kU a0):Int) != 0) with
 | true =>
  have q0:=bne_iff_ne.1 h0
  have e:=Eq.refl (aAi a0 a1);conv at e=>rhs;simp only [aAi,h0,aW]
  rw [e]
  exact rt (t0++[.d h0]) [] [] hcx (by kernel_rfl)
 | false =>
  have q0:=bne_eq_false_iff_eq.1 h0
  let t1:List (St Tryz.prog):=(t0++[.d h0])
  cases h1:(decide ((a1:Int) < 1)) with
  | true =>
   have q1:=dL h1
   have e:=Eq.refl (aAi a0 a1);conv at e=>rhs;simp only [aAi,h0,h1,aW]
   rw [e]
   exact rt (t1++[.d h1]) [] [] hcx (by kernel_rfl)
  | false =>
   have q1:=eH h1
   let t2:List (St Tryz.prog):=(t1++[.d h1])
   cases h2:(decide ((a1:Int) > 1099511627776)) with
   | true =>
    have q2:=dL h2
    have e:=Eq.refl (aAi a0 a1);conv at e=>rhs;simp only [aAi,h0,h1,h2,aW]
    rw [e]
    exact rt (t2++[.d h2]) [] [] hcx (by kernel_rfl)
   | false =>
    have q2:=eH h2
    have e:=Eq.refl (aAi a0 a1);conv at e=>rhs;simp only [aAi,h0,h1,h2,aW]
    rw [e]
    exact rt (t2++[.d h2,.c [] (bB5 a0.1 a1  (by(try simp only [Lt]);omega)),.c [] (bEz a0.2 a1  (by(try simp only [Lt]);omega)),.c [] (aRi (xM a0.1 a1) (aIq a0.2 a1))]) [] [] hcx (by kernel_rfl)
def eP (x:Int×Int):List SV:=[(iv x.1),(iv x.2)]
theorem dZ (x:Int×Int):(eP x).length=2:=rfl
noncomputable def aF1:Code:=(aO [1,0,1] [] (aI Tryz.f45) []).1
noncomputable def aF2:List K:=(aO [1,0,1] [] (aI Tryz.f45) []).2
def aB9 (a0:List (Int×Int))(v1:Int):LS:=⟨jH 15 [(5,(.s 0 0 a0.length 2)),(6,(iv (a0.length:Int))),(7,(iv v1))],[(.live false true (flat eP a0))]⟩
def iE (a0:List (Int×Int)):Int->(Int)⊕(Int)
 | v1 =>
  (bif (decide ((v1:Int) < (a0.length:Int))) then
   (bif (!(wU (a0.getD (tN v1) dF))) then
    (.inr 1)
   else
    (.inl (v1+1)))
  else
   (.inr 0))
theorem aVg (a0:List (Int×Int))(l0:a0.length<=2^63-1) {cx:Cx} (hcx:cx.base=1):∀(n:Nat) (v1:Int),0<=v1->tN ((a0.length:Int) - v1) < n->Aw.Good Tryz.prog none 9 (bodyPost Tryz.prog Tryz.f45 (RR cx (iv (aA (iE a0) n v1)) [] [])) cx [] (.l aF1 n::aF2) (aB9 a0 v1):=by
 intro n
 induction n with
 | zero=>intro v1 hi hn;exact absurd hn (fO _)
 | succ n ih =>
  intro v1 hi hn
  refine aT ?_
  cases h0:(decide ((v1:Int) < (a0.length:Int))) with
  | true =>
   have q0:=dL h0
   let t1:List (St Tryz.prog):=[.d h0,.i v1 (a0.length),.L dZ a0 v1 0 2,.c [] (C76 (a0.getD (tN v1) dF))]
   cases h1:(!(wU (a0.getD (tN v1) dF))) with
   | true =>
    have e:=Eq.refl (iE a0 v1);conv at e=>rhs;simp only [iE,h0,h1,aW]
    rw [aN,e]
    exact rt (t1++[.d h1]) [] [] hcx (by kernel_rfl)
   | false =>
    have e:=Eq.refl (iE a0 v1);conv at e=>rhs;simp only [iE,h0,h1,aW]
    rw [aB e]
    refine ba (t1++[.d h1]) [] [5,6,7] [] hcx (m:=n) aF1 (aF2) (aB9 a0 (W (v1+1))) (by kernel_rfl) ?_
    have z0:(W (v1+1))=(v1+1):=aH (by omega) (by omega)
    rw [z0]
    exact ih (v1+1) (by(try simp only [Ls]);omega) (by(try simp only [Ls]);omega)
  | false =>
   have q0:=eH h0
   have e:=Eq.refl (iE a0 v1);conv at e=>rhs;simp only [iE,h0,aW]
   rw [aN,e]
   exact rt [.d h0] [] [] hcx (by kernel_rfl)
def zM (a0:List (Int×Int)):Int :=
 (aA (iE a0) (tN ((a0.length:Int) - 0)+1) 0)
theorem bB6 (a0:List (Int×Int))(l0:a0.length<=2^63-1):Con Tryz.prog 45 [(.s 0 0 a0.length 2)] [(.live false true (flat eP a0))] (iv (zM a0)) []:=by
 refine aU Tryz.func45 (by kernel_rfl) fun cx hcx=>?_
 have e:=Eq.refl (zM a0);conv at e=>rhs;simp only [zM]
 rw [e]
 refine en [] [] [5,6,7] [] hcx aF1 (aF2) (aB9 a0 0) (tN ((a0.length:Int) - 0)+1) (by kernel_rfl) ?_
 exact aVg a0 l0 hcx (tN ((a0.length:Int) - 0)+1) 0 (by(try simp only [Ls]);omega) (by(try simp only [Ls]);omega)
noncomputable def aCa:Code:=(aO [1,1,1,0,1] [] (aI Tryz.f116) []).1
noncomputable def aCb:List K:=(aO [1,1,1,0,1] [] (aI Tryz.f116) []).2
def xN (a0:List (Int×Int))(v1 v2 v3:Int):LS:=⟨jH 33 [(2,(iv v1)),(3,(iv v2)),(16,(.s 0 0 a0.length 2)),(17,(iv (a0.length:Int))),(18,(iv v3))],[(.live false true (flat eP a0))]⟩
def kI (a0:List (Int×Int)):Zt->Zt⊕Zt
 | (v1,v2,v3) =>
  (bif (decide ((v3:Int) < (a0.length:Int))) then
   (.inl ((W (v1+(a0.getD (tN v3) dF).1)),(W (v2+(a0.getD (tN v3) dF).2)),(v3+1)))
  else
   (.inr (v1,v2,0)))
theorem aRj (a0:List (Int×Int))(l0:a0.length<=2^63-1) {cx:Cx} (hcx:cx.base=1):∀(n:Nat) (v1 v2 v3:Int),0<=v3->tN ((a0.length:Int) - v3) < n->Aw.Good Tryz.prog none 9 (bodyPost Tryz.prog Tryz.f116 (RR cx (.t (k3 (aA (kI a0) n (v1,v2,v3)))) [] [])) cx [] (.l aCa n::aCb) (xN a0 v1 v2 v3):=by
 intro n
 induction n with
 | zero=>intro v1 v2 v3 hi hn;exact absurd hn (fO _)
 | succ n ih =>
  intro v1 v2 v3 hi hn
  refine aT ?_
  cases h0:(decide ((v3:Int) < (a0.length:Int))) with
  | true =>
   have q0:=dL h0
   have e:=Eq.refl (kI a0 (v1,v2,v3));conv at e=>rhs;simp only [kI,h0,aW]
   rw [aB e]
   refine ba [.d h0,.i v3 (a0.length),.L dZ a0 v3 0 2] [] [2,3,16,17,18] [] hcx (m:=n) aCa (aCb) (xN a0 (W (v1+(a0.getD (tN v3) dF).1)) (W (v2+(a0.getD (tN v3) dF).2)) (W (v3+1))) (by kernel_rfl) ?_
   have z0:(W (v3+1))=(v3+1):=aH (by omega) (by omega)
   rw [z0]
   exact ih (W (v1+(a0.getD (tN v3) dF).1)) (W (v2+(a0.getD (tN v3) dF).2)) (v3+1) (by(try simp only [Ls]);omega) (by(try simp only [Ls]);omega)
  | false =>
   have q0:=eH h0
   have e:=Eq.refl (kI a0 (v1,v2,v3));conv at e=>rhs;simp only [kI,h0,aW]
   rw [aN,e]
   exact rt [.d h0] [] [] hcx (by kernel_rfl)
def fZ (a0:List (Int×Int)):Zt :=
 (bif (decide (((a0.length:Int):Int) > 10000)) then
  (0,0,4)
 else
  (bif (((zM a0):Int) != 0) then
   (0,0,(zM a0))
  else
   (aA (kI a0) (tN ((a0.length:Int) - 0)+1) (0,0,0))))
theorem aZf (a0:List (Int×Int))(l0:a0.length<=2^63-1):Con Tryz.prog 116 [(.s 0 0 a0.length 2)] [(.live false true (flat eP a0))] (.t (k3 (fZ a0))) []:=by
 refine aU Tryz.func116 (by kernel_rfl) fun cx hcx=>?_
 cases h0:(decide (((a0.length:Int):Int) > 10000)) with
 | true =>
  have q0:=dL h0
  have e:=Eq.refl (fZ a0);conv at e=>rhs;simp only [fZ,h0,aW]
  rw [e]
  exact rt [.d h0] [] [] hcx (by kernel_rfl)
 | false =>
  have q0:=eH h0
  let t1:List (St Tryz.prog):=[.d h0,.c [0] (bB6 a0 (by omega))]
  cases h1:(((zM a0):Int) != 0) with
  | true =>
   have q1:=bne_iff_ne.1 h1
   have e:=Eq.refl (fZ a0);conv at e=>rhs;simp only [fZ,h0,h1,aW]
   rw [e]
   exact rt (t1++[.d h1]) [] [] hcx (by kernel_rfl)
  | false =>
   have q1:=bne_eq_false_iff_eq.1 h1
   have e:=Eq.refl (fZ a0);conv at e=>rhs;simp only [fZ,h0,h1,aW]
   rw [e]
   refine en (t1++[.d h1]) [] [2,3,16,17,18] [] hcx aCa (aCb) (xN a0 0 0 0) (tN ((a0.length:Int) - 0)+1) (by kernel_rfl) ?_
   exact aRj a0 l0 hcx (tN ((a0.length:Int) - 0)+1) 0 0 0 (by(try simp only [Ls]);omega) (by(try simp only [Ls]);omega)
def iL (a0:List (Int×Int)):(Int×Int)×Int :=
 (bif (((fZ a0).2.2:Int) != 0) then
  ((0,0),(fZ a0).2.2)
 else
  ((jQ (fZ a0).1 (fZ a0).2.1).1,(jQ (fZ a0).1 (fZ a0).2.1).2))
theorem bB7 (a0:List (Int×Int))(l0:a0.length<=2^63-1):Con Tryz.prog 78 [(.s 0 0 a0.length 2)] [(.live false true (flat eP a0))] (.t [(.a (k2 (iL a0).1)),(iv (iL a0).2)]) []:=by
 refine aU Tryz.func78 (by kernel_rfl) fun cx hcx=>?_
 let t0:List (St Tryz.prog):=[.c [0] (aZf a0 (by omega))]
 cases h0:(((fZ a0).2.2:Int) != 0) with
 | true =>
  have q0:=bne_iff_ne.1 h0
  have e:=Eq.refl (iL a0);conv at e=>rhs;simp only [iL,h0,aW]
  rw [e]
  exact rt (t0++[.d h0]) [] [] hcx (by kernel_rfl)
 | false =>
  have q0:=bne_eq_false_iff_eq.1 h0
  have e:=Eq.refl (iL a0);conv at e=>rhs;simp only [iL,h0,aW]
  rw [e]
  exact rt (t0++[.d h0,.c [] (aRi (fZ a0).1 (fZ a0).2.1)]) [] [] hcx (by kernel_rfl)
def qS (a0:(Int×Int)×(Int×Int)):Int :=
 (bif (!(wU a0.1)) then
  1
 else
  (bif (!(wU a0.2)) then
   1
  else
   0))
theorem bB8 (a0:(Int×Int)×(Int×Int)):Con Tryz.prog 45 [(.s 0 0 2 2)] [(.live false false [(iv a0.1.1),(iv a0.1.2),(iv a0.2.1),(iv a0.2.2)])] (iv (qS a0)) []:=by
 refine aU Tryz.func45 (by kernel_rfl) fun cx hcx=>?_
 let t0:List (St Tryz.prog):=[.u 200,.T,.i 0 2 (by decide),.c [] (C76 a0.1)]
 cases h0:(!(wU a0.1)) with
 | true =>
  have e:=Eq.refl (qS a0);conv at e=>rhs;simp only [qS,h0,aW]
  rw [e]
  exact rt (t0++[.d h0]) [] [] hcx (by kernel_rfl)
 | false =>
  let t1:List (St Tryz.prog):=(t0++[.d h0,.u 0,.T,.i 1 2 (by decide),.c [] (C76 a0.2)])
  cases h1:(!(wU a0.2)) with
  | true =>
   have e:=Eq.refl (qS a0);conv at e=>rhs;simp only [qS,h0,h1,aW]
   rw [e]
   exact rt (t1++[.d h1]) [] [] hcx (by kernel_rfl)
  | false =>
   have e:=Eq.refl (qS a0);conv at e=>rhs;simp only [qS,h0,h1,aW]
   rw [e]
   exact rt (t1++[.d h1,.u 0,.F]) [] [] hcx (by kernel_rfl)
def F13 (a0:Int×Int)(a1:Int×Int):(Int×Int)×Bool×Int :=
 (bif (((qS (a0,a1)):Int) != 0) then
  ((0,0),false,(qS (a0,a1)))
 else
  (bif (decide (((if(a0.1:Int) < a1.1 then a1.1 else a0.1):Int) > (if(a1.2:Int) < a0.2 then a1.2 else a0.2))) then
   ((0,0),false,0)
  else
   (((if(a0.1:Int) < a1.1 then a1.1 else a0.1),(if(a1.2:Int) < a0.2 then a1.2 else a0.2)),true,0)))
theorem C13 (a0:Int×Int)(a1:Int×Int):Con Tryz.prog 13 [(.a [(iv a0.1),(iv a0.2)]),(.a [(iv a1.1),(iv a1.2)])] [] (.t [(.a (k2 (F13 a0 a1).1)),(.v (.bool (F13 a0 a1).2.1)),(iv (F13 a0 a1).2.2)]) []:=by
 refine aU Tryz.func13 (by kernel_rfl) fun cx hcx=>?_
 let t0:List (St Tryz.prog):=[.c [3] (bB8 (a0,a1))]
 cases h0:(((qS (a0,a1)):Int) != 0) with
 | true =>
  have q0:=bne_iff_ne.1 h0
  have e:=Eq.refl (F13 a0 a1);conv at e=>rhs;simp only [F13,h0,aW]
  rw [e]
  exact rt (t0++[.d h0]) [] [] hcx (by kernel_rfl)
 | false =>
  have q0:=bne_eq_false_iff_eq.1 h0
  let t1:List (St Tryz.prog):=(t0++[.d h0])
  cases h1:(decide (((if(a0.1:Int) < a1.1 then a1.1 else a0.1):Int) > (if(a1.2:Int) < a0.2 then a1.2 else a0.2))) with
  | true =>
   have q1:=dL h1
   have e:=Eq.refl (F13 a0 a1);conv at e=>rhs;simp only [F13,h0,h1,aW]
   rw [e]
   exact rt (t1++[.d h1]) [] [] hcx (by kernel_rfl)
  | false =>
   have q1:=eH h1
   have e:=Eq.refl (F13 a0 a1);conv at e=>rhs;simp only [F13,h0,h1,aW]
   rw [e]
   exact rt (t1++[.d h1]) [] [] hcx (by kernel_rfl)
def gA (a0:Int)(a1:Int):Int :=
 (bif ((a0:Int) != 0) then
  (bif ((a1:Int) != 0) then
   (bif (decide (((if(a1:Int) < (W (0 - a1)) then(W (0 - a1)) else a1):Int) > (W (Int.tdiv 1099511627776 (if(a0:Int) < (W (0 - a0)) then(W (0 - a0)) else a0))))) then
    (bif (!((decide ((a0:Int) < 0)) == (decide ((a1:Int) < 0)))) then
     (-1099511627777)
    else
     1099511627777)
   else
    (W (a0*a1)))
  else
   (W (a0*a1)))
 else
  (W (a0*a1)))
theorem bB9 (a0:Int)(a1:Int)(ha:-1099511627776<=a0/\a0<=1099511627776):Con Tryz.prog 114 [(iv a0),(iv a1)] [] (iv (gA a0 a1)) []:=by
 refine aU Tryz.func114 (by kernel_rfl) fun cx hcx=>?_
 cases h0:((a0:Int) != 0) with
 | true =>
  have q0:=bne_iff_ne.1 h0
  let t1:List (St Tryz.prog):=[.d h0]
  cases h1:((a1:Int) != 0) with
  | true =>
   have q1:=bne_iff_ne.1 h1
   let t2:List (St Tryz.prog):=(t1++[.d h1,.p (show((if(a0:Int) < (W (0 - a0)) then(W (0 - a0)) else a0):Int)≠0 from by(have hw:=aH (n:=0 - a0) (by omega) (by omega);rw [hw];split<;>omega))])
   cases h2:(decide (((if(a1:Int) < (W (0 - a1)) then(W (0 - a1)) else a1):Int) > (W (Int.tdiv 1099511627776 (if(a0:Int) < (W (0 - a0)) then(W (0 - a0)) else a0))))) with
   | true =>
    have q2:=dL h2
    let t3:List (St Tryz.prog):=(t2++[.d h2])
    cases h3:(!((decide ((a0:Int) < 0)) == (decide ((a1:Int) < 0)))) with
    | true =>
     have e:=Eq.refl (gA a0 a1);conv at e=>rhs;simp only [gA,h0,h1,h2,h3,aW]
     rw [e]
     exact rt (t3++[.d h3]) [] [] hcx (by kernel_rfl)
    | false =>
     have e:=Eq.refl (gA a0 a1);conv at e=>rhs;simp only [gA,h0,h1,h2,h3,aW]
     rw [e]
     exact rt (t3++[.d h3]) [] [] hcx (by kernel_rfl)
   | false =>
    have q2:=eH h2
    have e:=Eq.refl (gA a0 a1);conv at e=>rhs;simp only [gA,h0,h1,h2,aW]
    rw [e]
    exact rt (t2++[.d h2]) [] [] hcx (by kernel_rfl)
  | false =>
   have q1:=bne_eq_false_iff_eq.1 h1
   have e:=Eq.refl (gA a0 a1);conv at e=>rhs;simp only [gA,h0,h1,aW]
   rw [e]
   exact rt (t1++[.d h1]) [] [] hcx (by kernel_rfl)
 | false =>
  have q0:=bne_eq_false_iff_eq.1 h0
  have e:=Eq.refl (gA a0 a1);conv at e=>rhs;simp only [gA,h0,aW]
  rw [e]
  exact rt [.d h0] [] [] hcx (by kernel_rfl)
def fK (x:(Zt×Zt×Zt)×Int):List SV:=[(iv x.1.1.1),(iv x.1.1.2.1),(iv x.1.1.2.2),(iv x.1.2.1.1),(iv x.1.2.1.2.1),(iv x.1.2.1.2.2),(iv x.1.2.2.1),(iv x.1.2.2.2.1),(iv x.1.2.2.2.2),(iv x.2)]
theorem eO (x:(Zt×Zt×Zt)×Int):(fK x).length=10:=rfl
noncomputable def aF3:Code:=(aO [1,1,0,1] [] (aI Tryz.f33) []).1
noncomputable def aF4:List K:=(aO [1,1,0,1] [] (aI Tryz.f33) []).2
def aCc (a0:bE)(v1:Int):LS:=⟨jH 26 [(9,(.s 0 0 a0.length 10)),(10,(iv (a0.length:Int))),(11,(iv v1))],[(.live false true (flat fK a0))]⟩
def eC (a0:bE):Int->(Int)⊕(Int)
 | v1 =>
  (bif (decide ((v1:Int) < (a0.length:Int))) then
   (bif (((uG (a0.getD (tN v1) dF).1):Int) != 0) then
    (.inr (uG (a0.getD (tN v1) dF).1))
   else
    (bif (!(F59 (a0.getD (tN v1) dF).2 (-100) 100)) then
     (.inr 1)
    else
     (.inl (v1+1))))
  else
   (.inr 0))
theorem aVh (a0:bE)(l0:a0.length<=2^63-1) {cx:Cx} (hcx:cx.base=1):∀(n:Nat) (v1:Int),0<=v1->tN ((a0.length:Int) - v1) < n->Aw.Good Tryz.prog none 9 (bodyPost Tryz.prog Tryz.f33 (RR cx (iv (aA (eC a0) n v1)) [] [])) cx [] (.l aF3 n::aF4) (aCc a0 v1):=by
 intro n
 induction n with
 | zero=>intro v1 hi hn;exact absurd hn (fO _)
 | succ n ih =>
  intro v1 hi hn
  refine aT ?_
  cases h0:(decide ((v1:Int) < (a0.length:Int))) with
  | true =>
   have q0:=dL h0
   let t1:List (St Tryz.prog):=[.d h0,.i v1 (a0.length),.L eO a0 v1 0 10,.c [] (C58 (a0.getD (tN v1) dF).1)]
   cases h1:(((uG (a0.getD (tN v1) dF).1):Int) != 0) with
   | true =>
    have q1:=bne_iff_ne.1 h1
    have e:=Eq.refl (eC a0 v1);conv at e=>rhs;simp only [eC,h0,h1,aW]
    rw [aN,e]
    exact rt (t1++[.d h1]) [] [] hcx (by kernel_rfl)
   | false =>
    have q1:=bne_eq_false_iff_eq.1 h1
    let t2:List (St Tryz.prog):=(t1++[.d h1,.c [] (C59 (a0.getD (tN v1) dF).2 (-100) 100)])
    cases h2:(!(F59 (a0.getD (tN v1) dF).2 (-100) 100)) with
    | true =>
     have e:=Eq.refl (eC a0 v1);conv at e=>rhs;simp only [eC,h0,h1,h2,aW]
     rw [aN,e]
     exact rt (t2++[.d h2]) [] [] hcx (by kernel_rfl)
    | false =>
     have e:=Eq.refl (eC a0 v1);conv at e=>rhs;simp only [eC,h0,h1,h2,aW]
     rw [aB e]
     refine ba (t2++[.d h2]) [] [9,10,11] [] hcx (m:=n) aF3 (aF4) (aCc a0 (W (v1+1))) (by kernel_rfl) ?_
     have z0:(W (v1+1))=(v1+1):=aH (by omega) (by omega)
     rw [z0]
     exact ih (v1+1) (by(try simp only [Ls]);omega) (by(try simp only [Ls]);omega)
  | false =>
   have q0:=eH h0
   have e:=Eq.refl (eC a0 v1);conv at e=>rhs;simp only [eC,h0,aW]
   rw [aN,e]
   exact rt [.d h0] [] [] hcx (by kernel_rfl)
def eU (a0:bE):Int :=
 (bif (decide (((a0.length:Int):Int) > 96)) then
  4
 else
  (aA (eC a0) (tN ((a0.length:Int) - 0)+1) 0))
theorem aNd (a0:bE)(l0:a0.length<=2^63-1):Con Tryz.prog 33 [(.s 0 0 a0.length 10)] [(.live false true (flat fK a0))] (iv (eU a0)) []:=by
 refine aU Tryz.func33 (by kernel_rfl) fun cx hcx=>?_
 cases h0:(decide (((a0.length:Int):Int) > 96)) with
 | true =>
  have q0:=dL h0
  have e:=Eq.refl (eU a0);conv at e=>rhs;simp only [eU,h0,aW]
  rw [e]
  exact rt [.d h0] [] [] hcx (by kernel_rfl)
 | false =>
  have q0:=eH h0
  have e:=Eq.refl (eU a0);conv at e=>rhs;simp only [eU,h0,aW]
  rw [e]
  refine en [.d h0] [] [9,10,11] [] hcx aF3 (aF4) (aCc a0 0) (tN ((a0.length:Int) - 0)+1) (by kernel_rfl) ?_
  exact aVh a0 l0 hcx (tN ((a0.length:Int) - 0)+1) 0 (by(try simp only [Ls]);omega) (by(try simp only [Ls]);omega)
def aRk (a0:Int)(a1:Int)(a2:Int):Bool :=
 (bif (decide ((a0:Int)≥a1)) then
  (decide ((a0:Int)<=a2))
 else
  false)
def F94 (a0:Int×Int):Bool :=
 (bif (decide ((a0.1:Int)≥(-1099511627776))) then
  (bif (decide ((a0.1:Int)<=a0.2)) then
   (decide ((a0.2:Int)<=1099511627776))
  else
   false)
 else
  false)
def c3 (x:Int):List SV:=[(iv x)]
theorem cZ (x:Int):(c3 x).length=1:=rfl
def gB (a0:Zt×Zt×Zt)(a1:Int):List Int :=
 (bif ((a1:Int) == 0) then
  ([a0.1.1,a0.2.1.1,a0.2.2.1]:List Int)
 else
  (bif ((a1:Int) == 1) then
   ([a0.1.2.1,a0.2.1.2.1,a0.2.2.2.1]:List Int)
  else
   ([a0.1.2.2,a0.2.1.2.2,a0.2.2.2.2]:List Int)))
def aKy (a0:Int):Int×Int->(Int×Int)⊕(Int)
 | (v2,v3) =>
  (bif (decide ((v2:Int) < v3)) then
   (bif (decide (((W ((W (Int.tdiv (W ((W (v2+v3))+1)) 2))*(W (Int.tdiv (W ((W (v2+v3))+1)) 2)))):Int)<=a0)) then
    (.inl ((W (Int.tdiv (W ((W (v2+v3))+1)) 2)),v3))
   else
    (.inl (v2,(W ((W (Int.tdiv (W ((W (v2+v3))+1)) 2)) - 1)))))
  else
   (.inr v2))
def pZ (a0:Int):Int :=
 (aA (aKy a0) (tN (2147483648 - 0)+1) (0,2147483648))
def aIr (a0:Int)(a1:Int):(Int×Int)×Int :=
 (bif (!(F94 (a0,a1))) then
  ((0,0),4)
 else
  ((a0,a1),0))
def aVi (a0:Int)(a1:Int):(Int×Int)×Int :=
 (bif (((Int.tmod a0 a1):Int) == 0) then
  (bif (((W ((pZ (W (Int.tdiv a0 a1)))*(pZ (W (Int.tdiv a0 a1))))):Int) == (W (Int.tdiv a0 a1))) then
   ((aIr (pZ (W (Int.tdiv a0 a1))) (pZ (W (Int.tdiv a0 a1)))).1,(aIr (pZ (W (Int.tdiv a0 a1))) (pZ (W (Int.tdiv a0 a1)))).2)
  else
   ((aIr (pZ (W (Int.tdiv a0 a1))) (W ((pZ (W (Int.tdiv a0 a1)))+1))).1,(aIr (pZ (W (Int.tdiv a0 a1))) (W ((pZ (W (Int.tdiv a0 a1)))+1))).2))
 else
  ((aIr (pZ (W (Int.tdiv a0 a1))) (W ((pZ (W (Int.tdiv a0 a1)))+1))).1,(aIr (pZ (W (Int.tdiv a0 a1))) (W ((pZ (W (Int.tdiv a0 a1)))+1))).2))
def aPm (a0:Int)(a1:Int):(Int×Int)×Int :=
 (bif (!(aRk a0 1 1099511627776)) then
  ((0,0),1)
 else
  (bif (!(aRk a1 1 8)) then
   ((0,0),1)
  else
   ((aVi (W ((W ((W (1048576*a1))*1048576))*a1)) a0).1,(aVi (W ((W ((W (1048576*a1))*1048576))*a1)) a0).2)))
def bCa (a0:Int):Int :=
 (pZ a0)
def fD (a0:Zt)(a1:Zt):Zt :=
 ((W (a0.1 - a1.1)),(W (a0.2.1 - a1.2.1)),(W (a0.2.2 - a1.2.2)))
def bCb (a0:Zt)(a1:Zt):Zt :=
 ((W ((W (a0.2.1*a1.2.2)) - (W (a0.2.2*a1.2.1)))),(W ((W (a0.2.2*a1.1)) - (W (a0.1*a1.2.2)))),(W ((W (a0.1*a1.2.1)) - (W (a0.2.1*a1.1)))))
def aF5 (a0:Zt×Zt×Zt):Zt :=
 (bCb (fD a0.2.1 a0.1) (fD a0.2.2 a0.1))
def lU (a0:Zt)(a1:Zt):Int :=
 (W ((W ((W (a0.1*a1.1))+(W (a0.2.1*a1.2.1))))+(W (a0.2.2*a1.2.2))))
def aRl (a0:Int)(a1:Int)(a2:Int):Bool :=
 (bif (decide ((a0:Int)≥a1)) then
  (decide ((a0:Int)<=a2))
 else
  false)
def aRm (a0:Zt)(a1:Int):Bool :=
 (bif (aRl a0.1 (W (0 - a1)) a1) then
  (bif (aRl a0.2.1 (W (0 - a1)) a1) then
   (aRl a0.2.2 (W (0 - a1)) a1)
  else
   false)
 else
  false)
def F81 (a0:Zt×Zt×Zt):Int :=
 (bif (!(aRm a0.1 64)) then
  1
 else
  (bif (!(aRm a0.2.1 64)) then
   1
  else
   (bif (!(aRm a0.2.2 64)) then
    1
   else
    (bif ((((aF5 a0).1:Int) == 0)&&((((aF5 a0).2.1:Int) == 0)&&((((aF5 a0).2.2:Int) == 0)&&true))) then
     6
    else
     0))))
def F82 (a0:Int)(a1:Int)(a2:Int):Bool :=
 (bif (decide ((a0:Int)≥a1)) then
  (decide ((a0:Int)<=a2))
 else
  false)
def F90 (a0:Zt×Zt×Zt)(a1:Zt×Zt×Zt)(a2:Int):Int :=
 (bif (((F81 a0):Int) != 0) then
  (F81 a0)
 else
  (bif (((F81 a1):Int) != 0) then
   (F81 a1)
  else
   (bif (!(F82 a2 0 2)) then
    1
   else
    0)))
def kV (a0:Zt)(a1:Int):Zt :=
 ((W (a1*a0.1)),(W (a1*a0.2.1)),(W (a1*a0.2.2)))
def oD (a0:Zt)(a1:Zt):Zt :=
 ((W (Int.tdiv (W (a0.1+a1.1)) 2)),(W (Int.tdiv (W (a0.2.1+a1.2.1)) 2)),(W (Int.tdiv (W (a0.2.2+a1.2.2)) 2)))
def xO (a0:Zt×Zt×Zt)(a1:Int):(List (Zt×Zt×Zt))×(List (Zt×Zt×Zt))×Int×Int->((List (Zt×Zt×Zt))×(List (Zt×Zt×Zt))×Int×Int)⊕(((List (Zt×Zt×Zt))×Int)⊕(List (Zt×Zt×Zt)))
 | (v13,v14,v15,v16) =>
  (bif (decide ((v16:Int) < (v13.length:Int))) then
   (.inl (v13,(v14++[((kV (v13.getD (tN v16) dF).1 2),(oD (kV (v13.getD (tN v16) dF).1 2) (kV (v13.getD (tN v16) dF).2.1 2)),(oD (kV (v13.getD (tN v16) dF).2.2 2) (kV (v13.getD (tN v16) dF).1 2))),((oD (kV (v13.getD (tN v16) dF).1 2) (kV (v13.getD (tN v16) dF).2.1 2)),(kV (v13.getD (tN v16) dF).2.1 2),(oD (kV (v13.getD (tN v16) dF).2.1 2) (kV (v13.getD (tN v16) dF).2.2 2))),((oD (kV (v13.getD (tN v16) dF).2.2 2) (kV (v13.getD (tN v16) dF).1 2)),(oD (kV (v13.getD (tN v16) dF).2.1 2) (kV (v13.getD (tN v16) dF).2.2 2)),(kV (v13.getD (tN v16) dF).2.2 2)),((oD (kV (v13.getD (tN v16) dF).1 2) (kV (v13.getD (tN v16) dF).2.1 2)),(oD (kV (v13.getD (tN v16) dF).2.1 2) (kV (v13.getD (tN v16) dF).2.2 2)),(oD (kV (v13.getD (tN v16) dF).2.2 2) (kV (v13.getD (tN v16) dF).1 2)))]),v15,(v16+1)))
  else
   (.inr (.inl (v14,(v15+1)))))
def xP (a0:Zt×Zt×Zt)(a1:Int):(List (Zt×Zt×Zt))×Int->((List (Zt×Zt×Zt))×Int)⊕(List (Zt×Zt×Zt))
 | (v11,v12) =>
  (bif (decide ((v12:Int) < a1)) then
   (aA (xO a0 a1) (tN ((v11.length:Int) - 0)+1) (v11,([]:List (Zt×Zt×Zt)),v12,0))
  else
   (.inr v11))
def aAj (a0:Zt×Zt×Zt)(a1:Int):List (Zt×Zt×Zt) :=
 (aA (xP a0 a1) (tN (a1 - 0)+1) (([a0]:List (Zt×Zt×Zt)),0))
def qT (a0:Zt×Zt×Zt)(a1:List Zt):Int×Int->(Int×Int)⊕(Int)
 | (v1,v2) =>
  (bif (decide ((v2:Int) < (a1.length:Int))) then
   (bif (decide (((lU (fD a0.1 (a1.getD (tN v2) dF)) (fD a0.1 (a1.getD (tN v2) dF))):Int) > v1)) then
    (bif (decide (((lU (fD a0.2.1 (a1.getD (tN v2) dF)) (fD a0.2.1 (a1.getD (tN v2) dF))):Int) > (lU (fD a0.1 (a1.getD (tN v2) dF)) (fD a0.1 (a1.getD (tN v2) dF))))) then
     (bif (decide (((lU (fD a0.2.2 (a1.getD (tN v2) dF)) (fD a0.2.2 (a1.getD (tN v2) dF))):Int) > (lU (fD a0.2.1 (a1.getD (tN v2) dF)) (fD a0.2.1 (a1.getD (tN v2) dF))))) then
      (.inl ((lU (fD a0.2.2 (a1.getD (tN v2) dF)) (fD a0.2.2 (a1.getD (tN v2) dF))),(v2+1)))
     else
      (.inl ((lU (fD a0.2.1 (a1.getD (tN v2) dF)) (fD a0.2.1 (a1.getD (tN v2) dF))),(v2+1))))
    else
     (bif (decide (((lU (fD a0.2.2 (a1.getD (tN v2) dF)) (fD a0.2.2 (a1.getD (tN v2) dF))):Int) > (lU (fD a0.1 (a1.getD (tN v2) dF)) (fD a0.1 (a1.getD (tN v2) dF))))) then
      (.inl ((lU (fD a0.2.2 (a1.getD (tN v2) dF)) (fD a0.2.2 (a1.getD (tN v2) dF))),(v2+1)))
     else
      (.inl ((lU (fD a0.1 (a1.getD (tN v2) dF)) (fD a0.1 (a1.getD (tN v2) dF))),(v2+1)))))
   else
    (bif (decide (((lU (fD a0.2.1 (a1.getD (tN v2) dF)) (fD a0.2.1 (a1.getD (tN v2) dF))):Int) > v1)) then
     (bif (decide (((lU (fD a0.2.2 (a1.getD (tN v2) dF)) (fD a0.2.2 (a1.getD (tN v2) dF))):Int) > (lU (fD a0.2.1 (a1.getD (tN v2) dF)) (fD a0.2.1 (a1.getD (tN v2) dF))))) then
      (.inl ((lU (fD a0.2.2 (a1.getD (tN v2) dF)) (fD a0.2.2 (a1.getD (tN v2) dF))),(v2+1)))
     else
      (.inl ((lU (fD a0.2.1 (a1.getD (tN v2) dF)) (fD a0.2.1 (a1.getD (tN v2) dF))),(v2+1))))
    else
     (bif (decide (((lU (fD a0.2.2 (a1.getD (tN v2) dF)) (fD a0.2.2 (a1.getD (tN v2) dF))):Int) > v1)) then
      (.inl ((lU (fD a0.2.2 (a1.getD (tN v2) dF)) (fD a0.2.2 (a1.getD (tN v2) dF))),(v2+1)))
     else
      (.inl (v1,(v2+1))))))
  else
   (.inr v1))
def aCd (a0:Zt×Zt×Zt)(a1:List Zt):Int :=
 (aA (qT a0 a1) (tN ((a1.length:Int) - 0)+1) (0,0))
def aRn (a0:List Int):Zt->Zt⊕(Int×Int)
 | (v1,v2,v3) =>
  (bif (decide ((v3:Int) < (a0.length:Int))) then
   (.inl ((if((a0.getD (tN v3) dF):Int) < v1 then(a0.getD (tN v3) dF) else v1),(if(v2:Int) < (a0.getD (tN v3) dF) then(a0.getD (tN v3) dF) else v2),(v3+1)))
  else
   (.inr (v1,v2)))
def dN (a0:List Int):Int×Int :=
 (aA (aRn a0) (tN ((a0.length:Int) - 0)+1) ((a0.getD (tN 0) dF),(a0.getD (tN 0) dF),0))
def kJ (a0:List Int)(a1:List Int):Int :=
 (W ((if((if(0:Int) < (W ((dN a0).1 - (dN a1).2)) then(W ((dN a0).1 - (dN a1).2)) else 0):Int) < (W ((dN a1).1 - (dN a0).2)) then(W ((dN a1).1 - (dN a0).2)) else(if(0:Int) < (W ((dN a0).1 - (dN a1).2)) then(W ((dN a0).1 - (dN a1).2)) else 0))*(if((if(0:Int) < (W ((dN a0).1 - (dN a1).2)) then(W ((dN a0).1 - (dN a1).2)) else 0):Int) < (W ((dN a1).1 - (dN a0).2)) then(W ((dN a1).1 - (dN a0).2)) else(if(0:Int) < (W ((dN a0).1 - (dN a1).2)) then(W ((dN a0).1 - (dN a1).2)) else 0))))
def xQ (a0:Zt×Zt×Zt)(a1:Zt×Zt×Zt):Int :=
 (W ((W ((kJ (gB a0 0) (gB a1 0))+(kJ (gB a0 1) (gB a1 1))))+(kJ (gB a0 2) (gB a1 2))))
def aF6 (a0:bE):Int->(Int)⊕(Int)
 | v1 =>
  (bif (decide ((v1:Int) < (a0.length:Int))) then
   (bif (((F81 (a0.getD (tN v1) dF).1):Int) != 0) then
    (.inr (F81 (a0.getD (tN v1) dF).1))
   else
    (bif (!(F82 (a0.getD (tN v1) dF).2 (-100) 100)) then
     (.inr 1)
    else
     (.inl (v1+1))))
  else
   (.inr 0))
def oE (a0:bE):Int :=
 (bif (decide (((a0.length:Int):Int) > 96)) then
  4
 else
  (aA (aF6 a0) (tN ((a0.length:Int) - 0)+1) 0))
theorem aPn {n a b:Int} (ha:0<=a)(hb:0<=b)(h1:a*a<=n)(h2:n < (a+1)*(a+1))(h3:b*b<=n)(h4:n < (b+1)*(b+1)):a=b:=by
 rcases Int.lt_trichotomy a b with h | h | h
 ·have:(a+1)*(a+1)<=b*b:=Int.mul_le_mul (by omega) (by omega) (by omega) hb
  omega
 ·exact h
 ·have:(b+1)*(b+1)<=a*a:=Int.mul_le_mul (by omega) (by omega) (by omega) ha
  omega
def IsRt (n r:Int):Prop:=0<=r/\r*r<=n/\n < (r+1)*(r+1)
theorem IsRt.eq {n a b:Int} (h:IsRt n a)(h':IsRt n b):a=b:=aPn h.1 h'.1 h.2.1 h.2.2 h'.2.1 h'.2.2
theorem IsRt.le {n r m:Int} (h:IsRt n r)(hm:0<=m)(hn:n < (m+1)*(m+1)):r<=m:=by
 rcases Int.lt_or_le m r with hlt | hle
 ·have:(m+1)*(m+1)<=r*r:=Int.mul_le_mul (by omega) (by omega) (by omega) h.1
  have:=h.2.1;omega
 ·exact hle
theorem IsRt.ge {n r m:Int} (h:IsRt n r)(hm:0<=m)(hn:m*m<=n):m<=r:=by
 rcases Int.lt_or_le r m with hlt | hle
 ·have:(r+1)*(r+1)<=m*m:=Int.mul_le_mul (by omega) (by omega) (by have:=h.1;omega) hm
  have:=h.2.2;omega
 ·exact hle
theorem IsRt.mono {n m a b:Int} (h:IsRt n a)(h':IsRt m b)(hnm:n<=m):a<=b:=h'.ge h.1 (Int.le_trans h.2.1 hnm)
theorem rV {n:Int} {S:Int×Int->(Int×Int)⊕Int} (hS:∀k b,0<=k->0 < b->k+b<=2147483648->S (k,b)=if(k+b)*(k+b)<=n then .inl (k+b,b / 2) else .inl (k,b / 2))(h0:∀k,S (k,0)=.inr k) :
 ∀(j f:Nat) (k:Int),j+2<=f->0<=k->k+2*2 ^ j<=2147483648->k*k<=n->n < (k+2*2 ^ j)*(k+2*2 ^ j)->IsRt n (aA S f (k,2 ^ j)):=by
 intro j
 induction j with
 | zero =>
  intro f k hf hk hb h1 h2
  obtain⟨f,rfl⟩:∃g,f=g+2:=⟨f - 2,by omega⟩
  simp only [Int.pow_zero] at h2 hb ⊢
  have hs:=hS k 1 hk (by omega) (by omega)
  by_cases hc:(k+1)*(k+1)<=n
  ·rw [if_pos hc] at hs
   rw [aB hs,show((1:Int) / 2)=0 by omega,aC (h0 _)]
   refine⟨by omega,hc,?_⟩
   rw [show k+1+1=k+2*1 by omega];exact h2
  ·rw [if_neg hc] at hs
   rw [aB hs,show((1:Int) / 2)=0 by omega,aC (h0 _)]
   exact⟨hk,h1,by omega⟩
 | succ j ih =>
  intro f k hf hk hb h1 h2
  obtain⟨f,rfl⟩:∃g,f=g+1:=⟨f - 1,by omega⟩
  have hp:(0:Int) < 2 ^ j:=Int.pow_pos (by omega)
  rw [Int.pow_succ] at h2 hb ⊢
  have hs:=hS k (2 ^ j*2) hk (by omega) (by omega)
  have hd:(2:Int) ^ j*2 / 2=2 ^ j:=Int.mul_ediv_cancel _ (by omega)
  rw [hd] at hs
  by_cases hc:(k+2 ^ j*2)*(k+2 ^ j*2)<=n
  ·rw [if_pos hc] at hs
   rw [aB hs]
   refine ih f _ (by omega) (by omega) (by omega) hc ?_
   rw [show k+2 ^ j*2+2*2 ^ j=k+2*((2:Int) ^ j*2) by omega];exact h2
  ·rw [if_neg hc] at hs
   rw [aB hs]
   refine ih f _ (by omega) hk (by omega) h1 ?_
   rw [show k+2*(2:Int) ^ j=k+2 ^ j*2 by omega];omega
theorem aPo {n:Int} {S:Int×Int->(Int×Int)⊕Int} (hS:∀a b,0<=a->a < b->b<=2147483648->S (a,b)=if((a+b+1) / 2)*((a+b+1) / 2)<=n then .inl ((a+b+1) / 2,b) else .inl (a,(a+b+1) / 2 - 1))(h0:∀a,S (a,a)=.inr a) :
 ∀(f:Nat) (a b:Int),0<=a->a<=b->b<=2147483648->b - a < f->a*a<=n->n < (b+1)*(b+1)->IsRt n (aA S f (a,b)):=by
 intro f
 induction f with
 | zero=>intro a b _ h _ hf;omega
 | succ f ih =>
  intro a b ha hab hb hf h1 h2
  by_cases he:a=b
  ·subst he
   rw [aC (h0 a)];exact⟨ha,h1,h2⟩
  ·have hs:=hS a b ha (by omega) hb
   by_cases hc:((a+b+1) / 2)*((a+b+1) / 2)<=n
   ·rw [if_pos hc] at hs
    rw [aB hs]
    exact ih _ _ (by omega) (by omega) hb (by omega) hc h2
   ·rw [if_neg hc] at hs
    rw [aB hs]
    refine ih _ _ ha (by omega) (by omega) (by omega) h1 ?_
    rw [show(a+b+1) / 2 - 1+1=(a+b+1) / 2 by omega];omega
theorem zN {a:Int} (h:0<=a)(h':a<=2147483648):0<=a*a/\a*a<=4611686018427387904:=⟨Int.mul_nonneg h h,Int.le_trans (Int.mul_le_mul h' h' h (by omega)) (by omega)⟩
theorem aNe {n:Int} (h0:0<=n)(h:n < 4611686018427387904):IsRt n (lA n):=by
 unfold lA
 refine rV (n:=n) (fun k b hk hb hkb=>?_) (fun k=>?_) 30 _ 0 (by decide) (by omega) (by decide) (by omega) (by simpa using h)
 ·have h2:decide (b > 0)=true:=by simpa using hb
  have hw:W (k+b)=k+b:=aH (by omega) (by omega)
  have hq:=zN (a:=k+b) (by omega) hkb
  have hw2:W ((k+b)*(k+b))=(k+b)*(k+b):=aH (by omega) (by omega)
  simp only [nG,h2,cond_true,hw,hw2]
  by_cases hc:(k+b)*(k+b)<=n<;>simp [hc]
 ·simp [nG]
theorem aF7 {n:Int} (h0:0<=n)(h:n < 4611686018427387904):IsRt n (hG n):=by
 unfold hG
 rw [show decide ((4611686018427387904:Int)<=n)=false by simpa using h]
 simp only [cond_false]
 refine rV (n:=n) (fun k b hk hb hkb=>?_) (fun k=>?_) 30 _ 0 (by decide) (by omega) (by decide) (by omega) (by simpa using h)
 ·have h2:((b:Int) == 0)=false:=by rw [beq_eq_false_iff_ne];omega
  have hw:W (k+b)=k+b:=aH (by omega) (by omega)
  have hq:=zN (a:=k+b) (by omega) hkb
  have hw2:W ((k+b)*(k+b))=(k+b)*(k+b):=aH (by omega) (by omega)
  simp only [lT,h2,cond_false,hw,hw2]
  by_cases hc:(k+b)*(k+b)<=n<;>simp [hc]
 ·simp [lT]
theorem aXp {n:Int} (h0:0<=n)(h:n < 4611686018427387904):IsRt n (pZ n):=by
 unfold pZ
 refine aPo (n:=n) (fun a b ha hab hb=>?_) (fun a=>?_) _ 0 2147483648 (by omega) (by omega) (by omega) (by decide) (by omega) (by omega)
 ·have h2:decide (a < b)=true:=by simpa using hab
  have hw:=aM9 (a:=a) (b:=b) (by omega)
  have hw3:=aVe (a:=a) (b:=b) (by omega)
  have hq:=zN (a:=(a+b+1) / 2) (by omega) (by omega)
  have hw2:W ((a+b+1) / 2*((a+b+1) / 2))=(a+b+1) / 2*((a+b+1) / 2):=aH (by omega) (by omega)
  have hw4:W ((a+b+1) / 2 - 1)=(a+b+1) / 2 - 1:=aH (by omega) (by omega)
  simp only [aKy,h2,cond_true,hw,hw2,hw4]
  by_cases hc:(a+b+1) / 2*((a+b+1) / 2)<=n<;>simp [hc]
 ·simp [aKy]
abbrev P3:=Zt
abbrev PN:=P3×P3×P3
def bd (m:Int)(p:P3):Prop:=(-m<=p.1/\p.1<=m)/\(-m<=p.2.1/\p.2.1<=m)/\(-m<=p.2.2/\p.2.2<=m)
def bdP (m:Int)(p:PN):Prop:=bd m p.1/\bd m p.2.1/\bd m p.2.2
def sb (p q:P3):P3:=(p.1 - q.1,p.2.1 - q.2.1,p.2.2 - q.2.2)
def dt (p q:P3):Int:=p.1*q.1+p.2.1*q.2.1+p.2.2*q.2.2
def cr (p q:P3):P3:=(p.2.1*q.2.2 - p.2.2*q.2.1,p.2.2*q.1 - p.1*q.2.2,p.1*q.2.1 - p.2.1*q.1)
def mI (p:PN):P3:=cr (sb p.2.1 p.1) (sb p.2.2 p.1)
theorem cL {a b x y:Int} (hx:-a<=x/\x<=a)(hy:-b<=y/\y<=b):-(a*b)<=x*y/\x*y<=a*b:=by
 have h1:=Int.mul_nonneg (show 0<=a - x by omega) (show 0<=b - y by omega)
 have h2:=Int.mul_nonneg (show 0<=a+x by omega) (show 0<=b+y by omega)
 have h3:=Int.mul_nonneg (show 0<=a - x by omega) (show 0<=b+y by omega)
 have h4:=Int.mul_nonneg (show 0<=a+x by omega) (show 0<=b - y by omega)
 rw [Int.sub_mul,Int.mul_sub,Int.mul_sub] at h1
 rw [Int.add_mul,Int.mul_add,Int.mul_add] at h2
 rw [Int.sub_mul,Int.mul_add,Int.mul_add] at h3
 rw [Int.add_mul,Int.mul_sub,Int.mul_sub] at h4
 omega
theorem kW {a b:Int} {p q:P3} (hp:bd a p)(hq:bd b q):bd (a+b) (sb p q):=by
 unfold bd at *;simp only [sb];omega
theorem dP (x:Int):0<=x*x:=by
 rcases Int.le_total 0 x with h | h
 ·exact Int.mul_nonneg h h
 ·exact Int.mul_nonneg_of_nonpos_of_nonpos h h
theorem mV (p:P3):0<=dt p p:=by
 have:=dP p.1;have:=dP p.2.1;have:=dP p.2.2
 simp only [dt];omega
theorem aZg {p:P3} (h:¬(p.1=0/\p.2.1=0/\p.2.2=0)):1<=dt p p:=by
 have:=dP p.1;have:=dP p.2.1;have:=dP p.2.2
 have key:∀x:Int,x≠0->1<=x*x:=fun x hx=>by
  have h0:=dP x
  have:x*x≠0:=Int.mul_ne_zero hx hx
  omega
 simp only [dt]
 by_cases h1:p.1=0
 ·by_cases h2:p.2.1=0
  ·have:=key p.2.2 (fun h3=>h ⟨h1,h2,h3⟩);omega
  ·have:=key _ h2;omega
 ·have:=key _ h1;omega
theorem aRo {a:Int} {p q:P3} (hp:bd a p)(hq:bd a q):-(3*(a*a))<=dt p q/\dt p q<=3*(a*a):=by
 have:=cL hp.1 hq.1;have:=cL hp.2.1 hq.2.1;have:=cL hp.2.2 hq.2.2
 simp only [dt];omega
theorem bCc {a:Int} {p q:P3} (hp:bd a p)(hq:bd a q):bd (2*(a*a)) (cr p q):=by
 have:=cL hp.2.1 hq.2.2;have:=cL hp.2.2 hq.2.1;have:=cL hp.2.2 hq.1;have:=cL hp.1 hq.2.2;have:=cL hp.1 hq.2.1;have:=cL hp.2.1 hq.1
 unfold bd;simp only [cr];omega
theorem fsb {p q:P3} (hp:bd 100000 p)(hq:bd 100000 q):cE p q=sb p q:=by
 unfold bd at *;simp only [cE,sb]
 rw [aH (by omega) (by omega),aH (by omega) (by omega),aH (by omega) (by omega)]
theorem fdt {p q:P3} (hp:bd 1000000000 p)(hq:bd 1000000000 q):jO p q=dt p q:=by
 have h1:=cL hp.1 hq.1;have h2:=cL hp.2.1 hq.2.1;have h3:=cL hp.2.2 hq.2.2
 simp only [jO,aB7,dt]
 rw [aH (n:=p.1*q.1) (by omega) (by omega),aH (n:=p.2.1*q.2.1) (by omega) (by omega),aH (n:=p.2.2*q.2.2) (by omega) (by omega),Int.zero_add,aH (n:=p.1*q.1) (by omega) (by omega),aH (n:=p.1*q.1+p.2.1*q.2.1) (by omega) (by omega),aH (by omega) (by omega)]
theorem rdt {p q:P3} (hp:bd 1000000000 p)(hq:bd 1000000000 q):lU p q=dt p q:=by
 have h1:=cL hp.1 hq.1;have h2:=cL hp.2.1 hq.2.1;have h3:=cL hp.2.2 hq.2.2
 simp only [lU,dt]
 rw [aH (n:=p.1*q.1) (by omega) (by omega),aH (n:=p.2.1*q.2.1) (by omega) (by omega),aH (n:=p.2.2*q.2.2) (by omega) (by omega),aH (n:=p.1*q.1+p.2.1*q.2.1) (by omega) (by omega),aH (by omega) (by omega)]
theorem rsb {p q:P3} (hp:bd 100000 p)(hq:bd 100000 q):fD p q=sb p q:=by
 unfold bd at *;simp only [fD,sb]
 rw [aH (by omega) (by omega),aH (by omega) (by omega),aH (by omega) (by omega)]
theorem aZh {p q:P3} (hp:bd 1000000000 p)(hq:bd 1000000000 q) :
 ((W ((W (p.2.1*q.2.2)) - (W (p.2.2*q.2.1)))),(W ((W (p.2.2*q.1)) - (W (p.1*q.2.2)))),(W ((W (p.1*q.2.1)) - (W (p.2.1*q.1)))))=cr p q:=by
 have h1:=cL hp.2.1 hq.2.2;have h2:=cL hp.2.2 hq.2.1;have h3:=cL hp.2.2 hq.1;have h4:=cL hp.1 hq.2.2;have h5:=cL hp.1 hq.2.1;have h6:=cL hp.2.1 hq.1
 simp only [cr]
 rw [aH (n:=p.2.1*q.2.2) (by omega) (by omega),aH (n:=p.2.2*q.2.1) (by omega) (by omega),aH (n:=p.2.2*q.1) (by omega) (by omega),aH (n:=p.1*q.2.2) (by omega) (by omega),aH (n:=p.1*q.2.1) (by omega) (by omega),aH (n:=p.2.1*q.1) (by omega) (by omega),
  aH (by omega) (by omega),aH (by omega) (by omega),aH (by omega) (by omega)]
theorem fcr {p q:P3} (hp:bd 1000000000 p)(hq:bd 1000000000 q):gY p q=cr p q:=aZh hp hq
theorem scr {p q:P3} (hp:bd 1000000000 p)(hq:bd 1000000000 q):aRf p q=cr p q:=aZh hp hq
theorem rcr {p q:P3} (hp:bd 1000000000 p)(hq:bd 1000000000 q):bCb p q=cr p q:=aZh hp hq
theorem ssb {p q:P3} (hp:bd 100000 p)(hq:bd 100000 q):aFy p q=sb p q:=by
 unfold bd at *;simp only [aFy,aRe,sb]
 rw [aH (n:=-1*q.1) (by omega) (by omega),aH (n:=-1*q.2.1) (by omega) (by omega),aH (n:=-1*q.2.2) (by omega) (by omega),aH (by omega) (by omega),aH (by omega) (by omega),aH (by omega) (by omega)]
 refine Prod.ext (by simp only;omega) (Prod.ext (by simp only;omega) (by simp only;omega))
theorem bd.mono {a b:Int} {p:P3} (h:bd a p)(hab:a<=b):bd b p:=by unfold bd at *;omega
theorem bdP.mono {a b:Int} {p:PN} (h:bdP a p)(hab:a<=b):bdP b p:=⟨h.1.mono hab,h.2.1.mono hab,h.2.2.mono hab⟩
theorem aEx (n a b:Int):F59 n a b=decide (a<=n/\n<=b):=by
 unfold F59
 by_cases h1:n≥a<;>by_cases h2:n<=b<;>simp [h1,h2]<;>omega
theorem aKz (n a b:Int):F82 n a b=decide (a<=n/\n<=b):=by
 unfold F82
 by_cases h1:n≥a<;>by_cases h2:n<=b<;>simp [h1,h2]<;>omega
theorem aCe (n a b:Int):aRk n a b=decide (a<=n/\n<=b):=by
 unfold aRk
 by_cases h1:n≥a<;>by_cases h2:n<=b<;>simp [h1,h2]<;>omega
theorem uJ (n a b:Int):aRl n a b=decide (a<=n/\n<=b):=by
 unfold aRl
 by_cases h1:n≥a<;>by_cases h2:n<=b<;>simp [h1,h2]<;>omega
theorem aF8 (n a b:Int):aAh n a b=decide (a<=n/\n<=b):=by
 unfold aAh
 by_cases h1:a<=n<;>by_cases h2:n<=b<;>simp [h1,h2]
theorem bCd {a b c d:Prop} [Decidable a] [Decidable b] [Decidable c] [Decidable d] (h:(a/\b/\c)↔d):(bif decide a then(bif decide b then decide c else false) else false)=decide d:=by
 by_cases h1:a
 ·by_cases h2:b
  ·rw [bG h1,bG h2,cond_true,cond_true]
   by_cases h3:c
   ·rw [bG h3,bG (h.1 ⟨h1,h2,h3⟩)]
   ·rw [cC h3,cC (fun hd=>h3 (h.2 hd).2.2)]
  ·rw [bG h1,cC h2,cond_true,cond_false,cC (fun hd=>h2 (h.2 hd).2.1)]
 ·rw [cC h1,cond_false,cC (fun hd=>h1 (h.2 hd).1)]
theorem eq3 (x y z a b:Int):(bif (((x:Int) == 0)&&(((y:Int) == 0)&&(((z:Int) == 0)&&true))) then a else b)=if x=0/\y=0/\z=0 then a else b:=by
 have key:∀t:Int,(t == 0)=decide (t=0):=fun t=>by
  by_cases h:t=0
  ·rw [bG h];simpa using h
  ·rw [cC h];simpa using h
 rw [key,key,key,Bool.and_true,←Bool.decide_and,←Bool.decide_and]
 by_cases h:x=0/\y=0/\z=0
 ·rw [if_pos h,bG h,cond_true]
 ·rw [if_neg h,cC h,cond_false]
open Classical in
theorem uK (p:P3):F97 p 64=decide (bd 64 p):=by
 unfold F97
 rw [aF8,aF8,aF8,aH (by omega) (by omega)]
 exact bCd (by unfold bd;omega)
open Classical in
theorem xR (p:P3):aRm p 64=decide (bd 64 p):=by
 unfold aRm
 rw [uJ,uJ,uJ,aH (by omega) (by omega)]
 exact bCd (by unfold bd;omega)
open Classical in
noncomputable def vp (p:PN):Int:=if bdP 64 p then(if(mI p).1=0/\(mI p).2.1=0/\(mI p).2.2=0 then 6 else 0) else 1
theorem bCe {p:PN} (h:bdP 64 p):F98 p=mI p:=by
 have h1:=h.1.mono (show(64:Int)<=100000 by omega);have h2:=h.2.1.mono (show(64:Int)<=100000 by omega);have h3:=h.2.2.mono (show(64:Int)<=100000 by omega)
 unfold F98 mI
 rw [ssb h2 h1,ssb h3 h1]
 exact scr ((kW h.2.1 h.1).mono (by omega)) ((kW h.2.2 h.1).mono (by omega))
theorem aXq {p:PN} (h:bdP 64 p):aF5 p=mI p:=by
 have h1:=h.1.mono (show(64:Int)<=100000 by omega);have h2:=h.2.1.mono (show(64:Int)<=100000 by omega);have h3:=h.2.2.mono (show(64:Int)<=100000 by omega)
 unfold aF5 mI
 rw [rsb h2 h1,rsb h3 h1]
 exact rcr ((kW h.2.1 h.1).mono (by omega)) ((kW h.2.2 h.1).mono (by omega))
theorem bCf {p:PN} (h:bdP 64 p):gY (cE p.2.1 p.1) (cE p.2.2 p.1)=mI p:=by
 have h1:=h.1.mono (show(64:Int)<=100000 by omega);have h2:=h.2.1.mono (show(64:Int)<=100000 by omega);have h3:=h.2.2.mono (show(64:Int)<=100000 by omega)
 unfold mI
 rw [fsb h2 h1,fsb h3 h1]
 exact fcr ((kW h.2.1 h.1).mono (by omega)) ((kW h.2.2 h.1).mono (by omega))
theorem aK0 (p:PN):uG p=vp p:=by
 unfold uG vp
 rw [uK,uK,uK]
 by_cases h1:bd 64 p.1
 ·by_cases h2:bd 64 p.2.1
  ·by_cases h3:bd 64 p.2.2
   ·have hb:bdP 64 p:=⟨h1,h2,h3⟩
    rw [bCe hb,if_pos hb]
    rw [eq3];simp [h1,h2,h3]
   ·simp [h1,h2,h3,bdP]
  ·simp [h1,h2,bdP]
 ·simp [h1,bdP]
theorem aZi (p:PN):F81 p=vp p:=by
 unfold F81 vp
 rw [xR,xR,xR]
 by_cases h1:bd 64 p.1
 ·by_cases h2:bd 64 p.2.1
  ·by_cases h3:bd 64 p.2.2
   ·have hb:bdP 64 p:=⟨h1,h2,h3⟩
    rw [aXq hb,if_pos hb]
    rw [eq3];simp [h1,h2,h3]
   ·simp [h1,h2,h3,bdP]
  ·simp [h1,h2,bdP]
 ·simp [h1,bdP]
theorem mW {p:PN} (h:vp p=0):bdP 64 p/\1<=dt (mI p) (mI p):=by
 unfold vp at h
 split at h
 ·rename_i hb
  split at h
  ·cases h
  ·rename_i hn;exact⟨hb,aZg hn⟩
 ·cases h
theorem aXr {p:PN} (h:bdP 64 p):bd 32768 (mI p)/\dt (mI p) (mI p)<=3221225472:=by
 have hb:bd (2*(128*128)) (mI p):=bCc (kW h.2.1 h.1) (kW h.2.2 h.1)
 exact⟨hb.mono (by omega),by have:=(aRo hb hb).2;omega⟩
theorem aRp {p:PN} (h:vp p=0):∃k,lA (jO (gY (cE p.2.1 p.1) (cE p.2.2 p.1)) (gY (cE p.2.1 p.1) (cE p.2.2 p.1)))=k/\IsRt (dt (mI p) (mI p)) k/\1<=k/\k<=56755:=by
 obtain⟨hb,hd⟩:=mW h
 obtain⟨hn,hu⟩:=aXr hb
 rw [bCf hb,fdt (hn.mono (by omega)) (hn.mono (by omega))]
 have:=aNe (n:=dt (mI p) (mI p)) (by omega) (by omega)
 exact⟨_,rfl,this,this.ge (by omega) (by omega),this.le (by omega) (by omega)⟩
theorem aRq {p:PN} (h:uG p=0):W (128*lA (jO (gY (cE p.2.1 p.1) (cE p.2.2 p.1)) (gY (cE p.2.1 p.1) (cE p.2.2 p.1))))≠0:=by
 rw [aK0] at h
 obtain⟨k,e,_,h1,h2⟩:=aRp h
 rw [e,aH (by omega) (by omega)];omega
end Go.Proofs.YtlckcjfbjnjfhaaGreat
namespace Go.Proofs.YtlckcjfbjnjfhaaGreat
open Go.Proofs Go.Aw Go.RowKit
set_option maxRecDepth 100000
def zO (x:PN):List PN :=
 [(kV x.1 2,oD (kV x.1 2) (kV x.2.1 2),oD (kV x.2.2 2) (kV x.1 2)),
  (oD (kV x.1 2) (kV x.2.1 2),kV x.2.1 2,oD (kV x.2.1 2) (kV x.2.2 2)),
  (oD (kV x.2.2 2) (kV x.1 2),oD (kV x.2.1 2) (kV x.2.2 2),kV x.2.2 2),
  (oD (kV x.1 2) (kV x.2.1 2),oD (kV x.2.1 2) (kV x.2.2 2),oD (kV x.2.2 2) (kV x.1 2))]
def aK1:Nat->List PN->List PN
 | 0,l=>l
 | n+1,l=>aK1 n (l.flatMap zO)
theorem aZj (a0:PN)(a1:Int)(l:List PN):∀(f i:Nat) (nx:List PN) (d:Int),l.length - i < f->i<=l.length ->
 aA (xO a0 a1) f (l,nx,d,(i:Int))=.inl (nx++(l.drop i).flatMap zO,d+1):=by
 intro f
 induction f with
 | zero=>intro i nx d h;omega
 | succ f ih =>
  intro i nx d h hi
  by_cases hlt:i < l.length
  ·have hs:xO a0 a1 (l,nx,d,(i:Int))=.inl (l,nx++zO (l.getD i dF),d,((i+1:Nat):Int)):=by
    have:decide ((i:Int) < (l.length:Int))=true:=by simpa using hlt
    simp only [xO,this,cond_true,eX,zO]
    rfl
   rw [aB hs,ih _ _ _ (by omega) (by omega)]
   have hd:l.drop i=l.getD i dF::l.drop (i+1):=by
    rw [List.drop_eq_getElem_cons hlt];simp [cV,hlt]
   rw [hd,List.flatMap_cons,List.append_assoc]
  ·have:decide ((i:Int) < (l.length:Int))=false:=by simpa using hlt
   have hs:xO a0 a1 (l,nx,d,(i:Int))=.inr (.inl (nx,d+1)):=by
    simp only [xO,this,cond_false]
   rw [aC hs,List.drop_of_length_le (by omega)];simp
theorem aVj (a0:PN)(a1:Int):∀(f n:Nat) (l:List PN),n < f->aA (xP a0 a1) f (l,a1 - n)=aK1 n l:=by
 intro f
 induction f with
 | zero=>intro n l h;omega
 | succ f ih =>
  intro n l h
  cases n with
  | zero =>
   have hs:xP a0 a1 (l,a1 - (0:Nat))=.inr l:=by
    have:decide (a1 - ((0:Nat):Int) < a1)=false:=by simp
    simp only [xP,this,cond_false]
   rw [aC hs];rfl
  | succ n =>
   have hs:xP a0 a1 (l,a1 - ((n+1:Nat):Int))=.inl (l.flatMap zO,a1 - (n:Nat)):=by
    have:decide (a1 - ((n+1:Nat):Int) < a1)=true:=by simp;omega
    simp only [xP,this,cond_true]
    have:=aZj a0 a1 l (tN ((l.length:Int) - 0)+1) 0 [] (a1 - ((n+1:Nat):Int)) (by omega) (by omega)
    simp only [List.drop_zero,List.nil_append] at this
    rw [show((0:Nat):Int)=0 from rfl] at this
    rw [this,show a1 - ((n+1:Nat):Int)+1=a1 - (n:Nat) by omega]
   rw [aB hs,ih _ _ (by omega)];rfl
theorem aRr (p:PN) {d:Int} (h:0<=d):aAj p d=aK1 d.toNat [p]:=by
 unfold aAj
 have:=aVj p d (tN (d - 0)+1) d.toNat [p] (by omega)
 rw [show d - (d.toNat:Int)=0 by omega] at this
 exact this
def nH (x:PN):List PN:=[q1 x,q2 x,q3 x,q4 x]
theorem fQ {p:P3} (h:bd 100000 p):sO p 2=(2*p.1,2*p.2.1,2*p.2.2):=by
 unfold bd at h;simp only [sO];rw [aH (by omega) (by omega),aH (by omega) (by omega),aH (by omega) (by omega)]
theorem vM {p:P3} (h:bd 100000 p):kV p 2=(2*p.1,2*p.2.1,2*p.2.2):=by
 unfold bd at h;simp only [kV];rw [aH (by omega) (by omega),aH (by omega) (by omega),aH (by omega) (by omega)]
theorem lV {p q:P3} (hp:bd 100000 p)(hq:bd 100000 q):gJ p q=(p.1+q.1,p.2.1+q.2.1,p.2.2+q.2.2):=by
 unfold bd at hp hq;simp only [gJ];rw [aH (by omega) (by omega),aH (by omega) (by omega),aH (by omega) (by omega)]
theorem aRs {p q:P3} (hp:bd 100000 p)(hq:bd 100000 q):oD (kV p 2) (kV q 2)=(p.1+q.1,p.2.1+q.2.1,p.2.2+q.2.2):=by
 rw [vM hp,vM hq]
 have key:∀a b:Int,(-100000<=a/\a<=100000)->(-100000<=b/\b<=100000)->W (Int.tdiv (W (2*a+2*b)) 2)=a+b:=fun a b h1 h2=>by
  rw [aH (n:=2*a+2*b) (by omega) (by omega),←Int.mul_add,Int.mul_tdiv_cancel_left _ (by omega),aH (by omega) (by omega)]
 simp only [oD]
 rw [key _ _ hp.1 hq.1,key _ _ hp.2.1 hq.2.1,key _ _ hp.2.2 hq.2.2]
theorem aVk {x:PN} (h:bdP 100000 x):zO x=nH x:=by
 unfold zO nH q1 q2 q3 q4
 rw [aRs h.1 h.2.1,aRs h.2.2 h.1,aRs h.2.1 h.2.2,lV h.1 h.2.1,lV h.2.2 h.1,lV h.2.1 h.2.2,vM h.1,vM h.2.1,vM h.2.2,fQ h.1,fQ h.2.1,fQ h.2.2]
theorem vN {m:Int} {x y:PN} (h:bdP m x)(hm:m<=100000)(hy:y∈nH x):bdP (2*m) y:=by
 have h1:=h.1.mono hm;have h2:=h.2.1.mono hm;have h3:=h.2.2.mono hm
 unfold nH q1 q2 q3 q4 at hy
 rw [lV h1 h2,lV h3 h1,lV h2 h3,fQ h1,fQ h2,fQ h3] at hy
 have ha:=h.1;have hb:=h.2.1;have hc:=h.2.2
 unfold bd at ha hb hc
 simp only [List.mem_cons,List.mem_nil_iff,or_false] at hy
 unfold bdP bd
 rcases hy with rfl | rfl | rfl | rfl<;>simp only<;>omega
theorem eR:∀(d:Nat) (p:PN),bI (d+1) p=(bI d p).flatMap nH
 | 0,p=>by simp [bI,nH]
 | d+1,p=>by
  rw [show bI (d+1+1) p=bI (d+1) (q1 p)++(bI (d+1) (q2 p)++(bI (d+1) (q3 p)++bI (d+1) (q4 p))) from rfl]
  rw [eR d (q1 p),eR d (q2 p),eR d (q3 p),eR d (q4 p)]
  simp only [bI,List.flatMap_append]
theorem rW:∀(d:Nat) {m:Int} {p x:PN},bdP m p->m*2 ^ d<=100000->0<=m->x∈bI d p->bdP (m*2 ^ d) x
 | 0,m,p,x,h,_,_,hx=>by simp [bI] at hx;subst hx;simpa using h
 | d+1,m,p,x,h,hm,h0,hx=>by
  rw [eR,List.mem_flatMap] at hx
  obtain⟨y,hy,hx⟩:=hx
  have hp:(0:Int) < 2 ^ d:=Int.pow_pos (by omega)
  have hle:m*2 ^ d<=m*2 ^ (d+1):=Int.mul_le_mul_of_nonneg_left (by rw [Int.pow_succ];omega) h0
  have:=vN (rW d h (by omega) h0 hy) (by omega) hx
  rw [Int.pow_succ,←Int.mul_assoc,Int.mul_comm];exact this
theorem aCf {α β:Type} {f g:α->List β}:∀{l:List α},(∀x∈l,f x=g x)->l.flatMap f=l.flatMap g
 | [],_=>rfl
 | x::l,h=>by rw [List.flatMap_cons,List.flatMap_cons,h x (by simp),aCf (fun y hy=>h y (by simp [hy]))]
theorem aEy:∀(n:Nat) (l:List PN),aK1 (n+1) l=(aK1 n l).flatMap zO
 | 0,l=>rfl
 | n+1,l=>by rw [aK1,aEy n];rfl
theorem aRt {p:PN} (hp:bdP 64 p):∀d:Nat,d<=9->aK1 d [p]=bI d p
 | 0,_=>rfl
 | d+1,h=>by
  rw [aEy,aRt hp d (by omega),eR]
  have hle:(64:Int)*2 ^ d<=100000:=by
   have h1:(2:Nat) ^ d<=2 ^ 9:=Nat.pow_le_pow_right (by omega) (by omega)
   have h2:(2:Int) ^ d=((2 ^ d:Nat):Int):=by simp
   omega
  exact aCf (fun x hx=>aVk ((rW d hp hle (by omega) hx).mono hle))
theorem bE1 {p:PN} (hp:bdP 64 p) {d:Int} (h:0<=d/\d<=3):aAj p d=bI d.toNat p:=by
 rw [aRr p h.1,aRt hp _ (by omega)]
theorem bE2 (a0:Zt×Zt×Zt)(a1:Int):Con Tryz.prog 107 [(.a (k9 a0)),(iv a1)] [] (.f 158 [(.p 0 0),(.p 1 0)]) [(.live true false (k9 a0)),(.live true false [(iv a1)])]:=by
 refine aU Tryz.func107 (by kernel_rfl) fun cx hcx=>?_
 exact rt [] [] [0,1] hcx (by kernel_rfl)
def fP (a0:Zt×Zt×Zt)(a1:Int):Int :=
 (bif (decide (((W ((W ((lA (W (Int.tdiv (W (3537128906555392*2 ^ (min (tN (W (2*a1))) 64))) (W (128*(lA (jO (gY (cE a0.2.1 a0.1) (cE a0.2.2 a0.1)) (gY (cE a0.2.1 a0.1) (cE a0.2.2 a0.1)))))))))*(lA (W (Int.tdiv (W (3537128906555392*2 ^ (min (tN (W (2*a1))) 64))) (W (128*(lA (jO (gY (cE a0.2.1 a0.1) (cE a0.2.2 a0.1)) (gY (cE a0.2.1 a0.1) (cE a0.2.2 a0.1)))))))))))*(W (128*(lA (jO (gY (cE a0.2.1 a0.1) (cE a0.2.2 a0.1)) (gY (cE a0.2.1 a0.1) (cE a0.2.2 a0.1)))))))):Int) < (W (3537128906555392*2 ^ (min (tN (W (2*a1))) 64))))) then
  (W ((lA (W (Int.tdiv (W (3537128906555392*2 ^ (min (tN (W (2*a1))) 64))) (W (128*(lA (jO (gY (cE a0.2.1 a0.1) (cE a0.2.2 a0.1)) (gY (cE a0.2.1 a0.1) (cE a0.2.2 a0.1)))))))))+1))
 else
  (lA (W (Int.tdiv (W (3537128906555392*2 ^ (min (tN (W (2*a1))) 64))) (W (128*(lA (jO (gY (cE a0.2.1 a0.1) (cE a0.2.2 a0.1)) (gY (cE a0.2.1 a0.1) (cE a0.2.2 a0.1))))))))))
theorem bE3 (a0:Zt×Zt×Zt)(a1:Int)(hp:uG a0=0)(ha:0<=a1/\a1<=3):Con Tryz.prog 105 [(.a (k9 a0)),(iv a1)] [] (iv (fP a0 a1)) []:=by
 refine aU Tryz.func105 (by kernel_rfl) fun cx hcx=>?_
 let t0:List (St Tryz.prog):=[.c [] (aZb a0.2.1 a0.1),.c [] (aZb a0.2.2 a0.1),.c [] (bEw (cE a0.2.1 a0.1) (cE a0.2.2 a0.1)),.c [] (aZa (gY (cE a0.2.1 a0.1) (cE a0.2.2 a0.1)) (gY (cE a0.2.1 a0.1) (cE a0.2.2 a0.1))),.c [] (bB4 (jO (gY (cE a0.2.1 a0.1) (cE a0.2.2 a0.1)) (gY (cE a0.2.1 a0.1) (cE a0.2.2 a0.1)))),.p (show 0<=((W (2*a1)):Int) from by first | (rw [aH]<;>omega) | exact aRq hp),.p (show((W (128*(lA (jO (gY (cE a0.2.1 a0.1) (cE a0.2.2 a0.1)) (gY (cE a0.2.1 a0.1) (cE a0.2.2 a0.1)))))):Int)≠0 from by first | (rw [aH]<;>omega) | exact aRq hp),.c [] (bB4 (W (Int.tdiv (W (3537128906555392*2 ^ (min (tN (W (2*a1))) 64))) (W (128*(lA (jO (gY (cE a0.2.1 a0.1) (cE a0.2.2 a0.1)) (gY (cE a0.2.1 a0.1) (cE a0.2.2 a0.1)))))))))]
 cases h0:(decide (((W ((W ((lA (W (Int.tdiv (W (3537128906555392*2 ^ (min (tN (W (2*a1))) 64))) (W (128*(lA (jO (gY (cE a0.2.1 a0.1) (cE a0.2.2 a0.1)) (gY (cE a0.2.1 a0.1) (cE a0.2.2 a0.1)))))))))*(lA (W (Int.tdiv (W (3537128906555392*2 ^ (min (tN (W (2*a1))) 64))) (W (128*(lA (jO (gY (cE a0.2.1 a0.1) (cE a0.2.2 a0.1)) (gY (cE a0.2.1 a0.1) (cE a0.2.2 a0.1)))))))))))*(W (128*(lA (jO (gY (cE a0.2.1 a0.1) (cE a0.2.2 a0.1)) (gY (cE a0.2.1 a0.1) (cE a0.2.2 a0.1)))))))):Int) < (W (3537128906555392*2 ^ (min (tN (W (2*a1))) 64))))) with
 | true =>
  have q0:=dL h0
  have e:=Eq.refl (fP a0 a1);conv at e=>rhs;simp only [fP,h0,aW]
  rw [e]
  exact rt (t0++[.d h0]) [] [] hcx (by kernel_rfl)
 | false =>
  have q0:=eH h0
  have e:=Eq.refl (fP a0 a1);conv at e=>rhs;simp only [fP,h0,aW]
  rw [e]
  exact rt (t0++[.d h0]) [] [] hcx (by kernel_rfl)
def aJ (a0:Zt×Zt×Zt):Zt×Zt×Zt :=
 a0
theorem aZk (a0:Zt×Zt×Zt):Con Tryz.prog 106 [(.a (k9 a0))] [] (.a (k9 (aJ a0))) []:=by
 refine aU Tryz.func106 (by kernel_rfl) fun cx hcx=>?_
 have e:=Eq.refl (aJ a0);conv at e=>rhs;simp only [aJ]
 rw [e]
 exact rt [] [] [] hcx (by kernel_rfl)
def aEa (a0:Int)(a1:Int)(a2:Int):Int×Int :=
 (aAi (a0,a1) a2).1
theorem bE4 (a0:Int)(a1:Int)(a2:Int):Con Tryz.prog 111 [(iv a0),(iv a1),(iv a2)] [] (.a (k2 (aEa a0 a1 a2))) []:=by
 refine aU Tryz.func111 (by kernel_rfl) fun cx hcx=>?_
 have e:=Eq.refl (aEa a0 a1 a2);conv at e=>rhs;simp only [aEa]
 rw [e]
 exact rt [.c [] (bE0 (a0,a1) a2)] [] [] hcx (by kernel_rfl)
noncomputable def bE5:Code:=match (bO [1,1,1,1,0,1,0] [] (Tryz.f70.body.getD .skip)).1 with
 | .rangeFunc _ _ a b=>a
 | _=>.skip
noncomputable def bE6:Code:=match (bO [1,1,1,1,0,1,0] [] (Tryz.f70.body.getD .skip)).1 with
 | .rangeFunc _ _ a b=>b
 | _=>.skip
noncomputable def bE7:List K:=(bO [1,1,1,1,0,1,0] [] (Tryz.f70.body.getD .skip)).2
def aZl (a0:Zt×Zt×Zt)(a1:Zt×Zt×Zt)(a2:Int):Int×Int->LS
 | (v1,v2)=>⟨[.u,.u,(iv a2),.u,.u,.u,(.p 0 0),(.p 1 0),(.p 2 0),(.p 3 0),(.p 4 0),(.p 5 0),.u,.u,.u,.u,.u,.u,.u,.u,.u,.u,.u,.u,.u,.u,.u,.u,.u,(.f 158 [(.p 6 0),(.p 7 0)]),.u,.u,.u,.u,.u,.u,.u,.u,.u,.u,.u,.u,.u,.u,.u,.u,.u,.u,.u,.u,.u,.u,.u,.u,.u,.u,.u,.u,.u,.u,.u,.u,.u,.u,.u,.u,.u,.u,.u,.u],[(.live true false [(iv 0),(iv 0)]),(.live true false [(iv (W (1*2 ^ (min (tN a2) 64))))]),(.live true false [(iv (fP a0 a2))]),(.live true false (k9 (aJ a1))),(.live true false [(iv v1)]),(.live true false [(iv v2)]),(.live true false (k9 a0)),(.live true false [(iv a2)])]⟩
def bCg (a0:Zt×Zt×Zt)(a1:Zt×Zt×Zt)(a2:Int):Int×Int->Zt×Zt×Zt->LS
 | (v1,v2),x=>⟨[.u,.u,.u,.u,.u,.u,.u,(.p 1 0),(.p 2 0),(.p 3 0),(.p 4 0),(.p 5 0),(.p 8 0),.u,.u,.u,.u,.u,.u,.u,.u,.u,.u,.u,.u,.u,.u,.u,.u,.u,.u,.u,.u,.u,.u,.u,.u,.u,.u,.u,.u,.u,.u,.u,.u,.u,.u,.u,.u,.u,.u,.u,.u,.u,.u,.u,.u,.u,.u,.u,.u,.u,.u,.u,.u,.u,.u,.u,.u,.u],[(.live true false [(iv 0),(iv 0)]),(.live true false [(iv (W (1*2 ^ (min (tN a2) 64))))]),(.live true false [(iv (fP a0 a2))]),(.live true false (k9 (aJ a1))),(.live true false [(iv v1)]),(.live true false [(iv v2)]),(.live true false (k9 a0)),(.live true false [(iv a2)]),(.live true false (k9 x))]⟩
def zP (a0:Zt×Zt×Zt)(a1:Zt×Zt×Zt)(a2:Int):Int×Int->Zt×Zt×Zt->Int×Int
 | (v1,v2),x =>
  (bif (decide (((cF (aJ x) (aJ a1)):Int) > 0)) then
   ((W (v1+(fU (bY ([(aJ x).1,(aJ x).2.1,(aJ x).2.2]:List Zt) ([(aJ a1).1,(aJ a1).2.1,(aJ a1).2.2]:List Zt)) (W (1*2 ^ (min (tN a2) 64)))).1.1)),(W (v2+(if((fU (cF (aJ x) (aJ a1)) (W (1*2 ^ (min (tN a2) 64)))).1.2:Int) < (fP a0 a2) then(fU (cF (aJ x) (aJ a1)) (W (1*2 ^ (min (tN a2) 64)))).1.2 else(fP a0 a2)))))
  else
   ((W (v1+(fU (bY ([(aJ x).1,(aJ x).2.1,(aJ x).2.2]:List Zt) ([(aJ a1).1,(aJ a1).2.1,(aJ a1).2.2]:List Zt)) (W (1*2 ^ (min (tN a2) 64)))).1.1)),(W (v2+(fP a0 a2)))))
def G70 (a0:Zt×Zt×Zt)(a1:Zt×Zt×Zt)(a2:Int):Int×Int->Int×Int
 | (v1,v2) =>
  (aEa v1 v2 (W (1*2 ^ (min (tN (W (2*a2))) 64))))
def F70 (a0:Zt×Zt×Zt)(a1:Zt×Zt×Zt)(a2:Int):Int×Int :=
 (G70 a0 a1 a2 ((bI (tN a2) a0).foldl (zP a0 a1 a2) (0,0)))
theorem C70 (a0:Zt×Zt×Zt)(a1:Zt×Zt×Zt)(a2:Int)(hp:uG a0=0)(ha:0<=a2/\a2<=3):Con Tryz.prog 70 [(.a (k9 a0)),(.a (k9 a1)),(iv a2)] [] (.a (k2 (F70 a0 a1 a2))) []:=by
 have e:(F70 a0 a1 a2)=(G70 a0 a1 a2 ((bI (tN a2) a0).foldl (zP a0 a1 a2) (0,0))):=by simp only [F70]
 rw [e]
 refine aIj (n:=9) Tryz.func70 rfl (ent Tryz.func70 (by kernel_rfl) rfl) (by show 3<=Tryz.f70.ntmps;decide) (by kernel_rfl) trivial (fun cx hcx=>?_)
 refine zK (T:=T0) hT hm (f:=5000) (orc:=[.call [] (iv (fP a0 a2)) [],.call [] (.a (k9 (aJ a1))) [],.call [] (.f 158 [(.p 0 0),(.p 1 0)]) [(.live true false (k9 a0)),(.live true false [(iv a2)])]]) [] [2,6,7,8,9,10,11,29] [2,3,4,5,6,7,8,9] hcx (x:=.rangeFunc (.tmp 29) #[30] bE5 bE6) (k':=bE7) (s':=aZl a0 a1 a2 (0,0))
  (obs:=[.pr (0<=(a2:Int)),.call 105 [(.a (k9 a0)),(iv a2)] [] (iv (fP a0 a2)) [],.call 106 [(.a (k9 a1))] [] (.a (k9 (aJ a1))) [],.call 107 [(.a (k9 a0)),(iv a2)] [] (.f 158 [(.p 0 0),(.p 1 0)]) [(.live true false (k9 a0)),(.live true false [(iv a2)])]]) (by kernel_rfl) ⟨(show 0<=(a2:Int) from by first | omega | (rw [aH]<;>omega) | exact pB _),(bE3 a0 a2  hp ha),(aZk a1),(bE2 a0 a2),trivial⟩ ?_
 refine aQ8 (xs:=bI (tN a2) a0) (enc:=aFw) (V:=Int×Int) (R':=Empty) hcx rfl (by decide) [6,7] [(.p 0 0),(.p 1 0)] [(.live false false (k9 a0)),(.live false false [(iv a2)])] rfl rfl (aPl a0 a2 (by first | omega | exact pair_le h0)) (fun x=>SV.a (cP x)) aIn aY3 8 (Nb rfl) (dL (by kernel_rfl))
  (aZl a0 a1 a2) (0,0) rfl (fun⟨v1,v2⟩=>(by kernel_rfl)) (by kernel_rfl) (fun v v'=>(iK (iK (iK (iK (iK (iK (iK (iK aPk))))))))) (fun⟨v1,v2⟩=>(by kernel_rfl)) (fun⟨v1,v2⟩=>(by kernel_rfl)) (fun⟨v1,v2⟩=>(Nat.le_of_ble_eq_true (by kernel_rfl)))
  (fun v x=>.inl (zP a0 a1 a2 v x)) (fun r=>r.elim) (fun v r=>r.elim) (fun r=>r.elim)
  (fun _ _=>True) trivial (bCg a0 a1 a2) (fun⟨v1,v2⟩ x=>(by kernel_rfl)) (fun⟨v1,v2⟩ x=>(by kernel_rfl)) (fun⟨v1,v2⟩ x=>(Nat.le_of_ble_eq_true (by kernel_rfl)))
  (fun cx' l i ⟨v1,v2⟩ x QA hcx' hx hinv hg=>aFs (T:=T0) hT hm (f:=5000) (orc:=[]) [] [7,8,9,10,11,12] [8] hcx' (obs:=[]) (by kernel_rfl) trivial hg)
  (fun cx' l i ⟨v1,v2⟩ x QB hcx' hx hinv hb1 hb2=>?_) (fun cx' d ⟨v1,v2⟩ hh hv hinv=>?_) (fun cx' d r hh hv=>?_)
 ·show Aw.Good _ _ _ _ _ _ _ (bCg a0 a1 a2 (v1,v2) x)
  cases h0:(decide (((cF (aJ x) (aJ a1)):Int) > 0)) with
  | true =>
   have q0:=dL h0
   have e:(Sum.inl (zP a0 a1 a2 (v1,v2) x):(Int×Int)⊕Empty)=.inl ((W (v1+(fU (bY ([(aJ x).1,(aJ x).2.1,(aJ x).2.2]:List Zt) ([(aJ a1).1,(aJ a1).2.1,(aJ a1).2.2]:List Zt)) (W (1*2 ^ (min (tN a2) 64)))).1.1)),(W (v2+(if((fU (cF (aJ x) (aJ a1)) (W (1*2 ^ (min (tN a2) 64)))).1.2:Int) < (fP a0 a2) then(fU (cF (aJ x) (aJ a1)) (W (1*2 ^ (min (tN a2) 64)))).1.2 else(fP a0 a2))))):=by simp only [zP,h0,aW]
   refine aFs (T:=T0) hT hm (f:=5000) (orc:=[.call [] (.a (k9 (aJ x))) [],.call [9,3] (iv (bY ([(aJ x).1,(aJ x).2.1,(aJ x).2.2]:List Zt) ([(aJ a1).1,(aJ a1).2.1,(aJ a1).2.2]:List Zt))) [],.call [] (.t [(.a (k2 (fU (bY ([(aJ x).1,(aJ x).2.1,(aJ x).2.2]:List Zt) ([(aJ a1).1,(aJ a1).2.1,(aJ a1).2.2]:List Zt)) (W (1*2 ^ (min (tN a2) 64)))).1)),(iv (fU (bY ([(aJ x).1,(aJ x).2.1,(aJ x).2.2]:List Zt) ([(aJ a1).1,(aJ a1).2.1,(aJ a1).2.2]:List Zt)) (W (1*2 ^ (min (tN a2) 64)))).2)]) [],.call [9,3] (iv (cF (aJ x) (aJ a1))) [],.d true,.call [] (.t [(.a (k2 (fU (cF (aJ x) (aJ a1)) (W (1*2 ^ (min (tN a2) 64)))).1)),(iv (fU (cF (aJ x) (aJ a1)) (W (1*2 ^ (min (tN a2) 64)))).2)]) []]) [] [] [] hcx' (s':=⟨List.replicate 70 .u,[(.live true false [(iv 0),(iv 0)]),(.live true false [(iv (W (1*2 ^ (min (tN a2) 64))))]),(.live true false [(iv (fP a0 a2))]),(.live true false (k9 (aJ a1))),(.live true false [(iv (W (v1+(fU (bY ([(aJ x).1,(aJ x).2.1,(aJ x).2.2]:List Zt) ([(aJ a1).1,(aJ a1).2.1,(aJ a1).2.2]:List Zt)) (W (1*2 ^ (min (tN a2) 64)))).1.1)))]),(.live true false [(iv (W (v2+(if((fU (cF (aJ x) (aJ a1)) (W (1*2 ^ (min (tN a2) 64)))).1.2:Int) < (fP a0 a2) then(fU (cF (aJ x) (aJ a1)) (W (1*2 ^ (min (tN a2) 64)))).1.2 else(fP a0 a2)))))]),(.live true false (k9 a0)),(.live true false [(iv a2)])]⟩)
    (obs:=[.call 106 [(.a (k9 x))] [] (.a (k9 (aJ x))) [],.call 109 [(.s 0 0 3 3),(.s 1 0 3 3)] [(.live false false (k9 (aJ x))),(.live false false (k9 (aJ a1)))] (iv (bY ([(aJ x).1,(aJ x).2.1,(aJ x).2.2]:List Zt) ([(aJ a1).1,(aJ a1).2.1,(aJ a1).2.2]:List Zt))) [],.call 108 [(iv (bY ([(aJ x).1,(aJ x).2.1,(aJ x).2.2]:List Zt) ([(aJ a1).1,(aJ a1).2.1,(aJ a1).2.2]:List Zt))),(iv (W (1*2 ^ (min (tN a2) 64))))] [] (.t [(.a (k2 (fU (bY ([(aJ x).1,(aJ x).2.1,(aJ x).2.2]:List Zt) ([(aJ a1).1,(aJ a1).2.1,(aJ a1).2.2]:List Zt)) (W (1*2 ^ (min (tN a2) 64)))).1)),(iv (fU (bY ([(aJ x).1,(aJ x).2.1,(aJ x).2.2]:List Zt) ([(aJ a1).1,(aJ a1).2.1,(aJ a1).2.2]:List Zt)) (W (1*2 ^ (min (tN a2) 64)))).2)]) [],.call 110 [(.s 0 0 3 3),(.s 1 0 3 3)] [(.live false false (k9 (aJ x))),(.live false false (k9 (aJ a1)))] (iv (cF (aJ x) (aJ a1))) [],.eq (decide (((cF (aJ x) (aJ a1)):Int) > 0)) true,.call 108 [(iv (cF (aJ x) (aJ a1))),(iv (W (1*2 ^ (min (tN a2) 64))))] [] (.t [(.a (k2 (fU (cF (aJ x) (aJ a1)) (W (1*2 ^ (min (tN a2) 64)))).1)),(iv (fU (cF (aJ x) (aJ a1)) (W (1*2 ^ (min (tN a2) 64)))).2)]) []]) (by kernel_rfl) ⟨(aZk x),(Con.flags (bs':=[(.live false false (k9 (aJ x))),(.live false false (k9 (aJ a1)))]) (aIp ([(aJ x).1,(aJ x).2.1,(aJ x).2.2]:List Zt) ([(aJ a1).1,(aJ a1).2.1,(aJ a1).2.2]:List Zt) (by(try simp only [Lt]);omega) (by(try simp only [Lt]);omega)) rfl ⟨jM (fun _=>rfl),jM (fun _=>rfl),trivial⟩),(aZe (bY ([(aJ x).1,(aJ x).2.1,(aJ x).2.2]:List Zt) ([(aJ a1).1,(aJ a1).2.1,(aJ a1).2.2]:List Zt)) (W (1*2 ^ (min (tN a2) 64)))),(aIo (aJ x) (aJ a1)),h0,(aZe (cF (aJ x) (aJ a1)) (W (1*2 ^ (min (tN a2) 64)))),trivial⟩ ?_
   exact hb1 _ e trivial
  | false =>
   have q0:=eH h0
   have e:(Sum.inl (zP a0 a1 a2 (v1,v2) x):(Int×Int)⊕Empty)=.inl ((W (v1+(fU (bY ([(aJ x).1,(aJ x).2.1,(aJ x).2.2]:List Zt) ([(aJ a1).1,(aJ a1).2.1,(aJ a1).2.2]:List Zt)) (W (1*2 ^ (min (tN a2) 64)))).1.1)),(W (v2+(fP a0 a2)))):=by simp only [zP,h0,aW]
   refine aFs (T:=T0) hT hm (f:=5000) (orc:=[.call [] (.a (k9 (aJ x))) [],.call [9,3] (iv (bY ([(aJ x).1,(aJ x).2.1,(aJ x).2.2]:List Zt) ([(aJ a1).1,(aJ a1).2.1,(aJ a1).2.2]:List Zt))) [],.call [] (.t [(.a (k2 (fU (bY ([(aJ x).1,(aJ x).2.1,(aJ x).2.2]:List Zt) ([(aJ a1).1,(aJ a1).2.1,(aJ a1).2.2]:List Zt)) (W (1*2 ^ (min (tN a2) 64)))).1)),(iv (fU (bY ([(aJ x).1,(aJ x).2.1,(aJ x).2.2]:List Zt) ([(aJ a1).1,(aJ a1).2.1,(aJ a1).2.2]:List Zt)) (W (1*2 ^ (min (tN a2) 64)))).2)]) [],.call [9,3] (iv (cF (aJ x) (aJ a1))) [],.d false]) [] [] [] hcx' (s':=⟨List.replicate 70 .u,[(.live true false [(iv 0),(iv 0)]),(.live true false [(iv (W (1*2 ^ (min (tN a2) 64))))]),(.live true false [(iv (fP a0 a2))]),(.live true false (k9 (aJ a1))),(.live true false [(iv (W (v1+(fU (bY ([(aJ x).1,(aJ x).2.1,(aJ x).2.2]:List Zt) ([(aJ a1).1,(aJ a1).2.1,(aJ a1).2.2]:List Zt)) (W (1*2 ^ (min (tN a2) 64)))).1.1)))]),(.live true false [(iv (W (v2+(fP a0 a2))))]),(.live true false (k9 a0)),(.live true false [(iv a2)])]⟩)
    (obs:=[.call 106 [(.a (k9 x))] [] (.a (k9 (aJ x))) [],.call 109 [(.s 0 0 3 3),(.s 1 0 3 3)] [(.live false false (k9 (aJ x))),(.live false false (k9 (aJ a1)))] (iv (bY ([(aJ x).1,(aJ x).2.1,(aJ x).2.2]:List Zt) ([(aJ a1).1,(aJ a1).2.1,(aJ a1).2.2]:List Zt))) [],.call 108 [(iv (bY ([(aJ x).1,(aJ x).2.1,(aJ x).2.2]:List Zt) ([(aJ a1).1,(aJ a1).2.1,(aJ a1).2.2]:List Zt))),(iv (W (1*2 ^ (min (tN a2) 64))))] [] (.t [(.a (k2 (fU (bY ([(aJ x).1,(aJ x).2.1,(aJ x).2.2]:List Zt) ([(aJ a1).1,(aJ a1).2.1,(aJ a1).2.2]:List Zt)) (W (1*2 ^ (min (tN a2) 64)))).1)),(iv (fU (bY ([(aJ x).1,(aJ x).2.1,(aJ x).2.2]:List Zt) ([(aJ a1).1,(aJ a1).2.1,(aJ a1).2.2]:List Zt)) (W (1*2 ^ (min (tN a2) 64)))).2)]) [],.call 110 [(.s 0 0 3 3),(.s 1 0 3 3)] [(.live false false (k9 (aJ x))),(.live false false (k9 (aJ a1)))] (iv (cF (aJ x) (aJ a1))) [],.eq (decide (((cF (aJ x) (aJ a1)):Int) > 0)) false]) (by kernel_rfl) ⟨(aZk x),(Con.flags (bs':=[(.live false false (k9 (aJ x))),(.live false false (k9 (aJ a1)))]) (aIp ([(aJ x).1,(aJ x).2.1,(aJ x).2.2]:List Zt) ([(aJ a1).1,(aJ a1).2.1,(aJ a1).2.2]:List Zt) (by(try simp only [Lt]);omega) (by(try simp only [Lt]);omega)) rfl ⟨jM (fun _=>rfl),jM (fun _=>rfl),trivial⟩),(aZe (bY ([(aJ x).1,(aJ x).2.1,(aJ x).2.2]:List Zt) ([(aJ a1).1,(aJ a1).2.1,(aJ a1).2.2]:List Zt)) (W (1*2 ^ (min (tN a2) 64)))),(aIo (aJ x) (aJ a1)),h0,trivial⟩ ?_
   exact hb1 _ e trivial
 ·rw [aB3,Sum.inl.injEq] at hv;rw [hv]
  show Aw.Good _ _ _ _ _ _ _ (aZl a0 a1 a2 (v1,v2))
  have e:G70 a0 a1 a2 (v1,v2)=(aEa v1 v2 (W (1*2 ^ (min (tN (W (2*a2))) 64)))):=by simp only [G70]
  rw [e]
  exact aVb (T:=T0) hT hm (f:=5000) (orc:=[.call [] (.a (k2 (aEa v1 v2 (W (1*2 ^ (min (tN (W (2*a2))) 64)))))) []]) [] [] [] hh hcx
   (obs:=[.pr (0<=((W (2*a2)):Int)),.call 111 [(iv v1),(iv v2),(iv (W (1*2 ^ (min (tN (W (2*a2))) 64))))] [] (.a (k2 (aEa v1 v2 (W (1*2 ^ (min (tN (W (2*a2))) 64)))))) []]) (by kernel_rfl) ⟨(show 0<=((W (2*a2)):Int) from by first | omega | (rw [aH]<;>omega) | exact pB _),(bE4 v1 v2 (W (1*2 ^ (min (tN (W (2*a2))) 64)))),trivial⟩
 ·exact r.elim
def aK2 (a0:Int)(a1:Int):Int :=
 (bif (decide (((Int.tmod a0 a1):Int) < 0)) then
  (W ((W (Int.tdiv a0 a1)) - 1))
 else
  (W (Int.tdiv a0 a1)))
def aK3 (a0:Int)(a1:Int):Int :=
 (W (0 - (aK2 (W (0 - a0)) a1)))
def aK4 (a0:Zt×Zt×Zt)(a1:Int):Int×Int->(Int×Int)⊕(Int)
 | (v2,v3) =>
  (bif (decide ((v2:Int) < v3)) then
   (bif (decide (((W ((W (Int.tdiv (W (v2+v3)) 2))*(W (Int.tdiv (W (v2+v3)) 2)))):Int)≥(aK3 (W ((W ((W (1099511627776*(W (1*2 ^ (min (tN (IntKind.wrap .u64 a1)) 64)))))*(W (1*2 ^ (min (tN (IntKind.wrap .u64 a1)) 64)))))*3217)) (W (128*(bCa (lU (aF5 a0) (aF5 a0)))))))) then
    (.inl (v2,(W (Int.tdiv (W (v2+v3)) 2))))
   else
    (.inl ((W ((W (Int.tdiv (W (v2+v3)) 2))+1)),v3)))
  else
   (.inr v2))
def aRu (a0:Zt×Zt×Zt)(a1:Int):Int :=
 (aA (aK4 a0 a1) (tN (268435456 - 0)+1) (0,268435456))
def aNf (a0:Zt×Zt×Zt)(a1:Int)(a2:Zt×Zt×Zt):Zt->Zt⊕(Int×Int)
 | (v1,v2,v3) =>
  (bif (decide ((v3:Int) < (((aAj a0 a1).length:Nat):Int))) then
   (bif (decide (((xQ ((aAj a0 a1).getD (tN v3) dF) a2):Int) > 0)) then
    (.inl ((W (v1+(aPm (aCd ((aAj a0 a1).getD (tN v3) dF) ([a2.1,a2.2.1,a2.2.2]:List Zt)) (W (1*2 ^ (min (tN (IntKind.wrap .u64 a1)) 64)))).1.1)),(W (v2+(if((aPm (xQ ((aAj a0 a1).getD (tN v3) dF) a2) (W (1*2 ^ (min (tN (IntKind.wrap .u64 a1)) 64)))).1.2:Int) < (aRu a0 a1) then(aPm (xQ ((aAj a0 a1).getD (tN v3) dF) a2) (W (1*2 ^ (min (tN (IntKind.wrap .u64 a1)) 64)))).1.2 else(aRu a0 a1)))),(v3+1)))
   else
    (.inl ((W (v1+(aPm (aCd ((aAj a0 a1).getD (tN v3) dF) ([a2.1,a2.2.1,a2.2.2]:List Zt)) (W (1*2 ^ (min (tN (IntKind.wrap .u64 a1)) 64)))).1.1)),(W (v2+(aRu a0 a1))),(v3+1))))
  else
   (.inr ((aK2 v1 (((aAj a0 a1).length:Nat):Int)),(aK3 v2 (((aAj a0 a1).length:Nat):Int)))))
def F91 (a0:Zt×Zt×Zt)(a1:Int)(a2:Zt×Zt×Zt):Int×Int :=
 (aA (aNf a0 a1 a2) (tN ((((aAj a0 a1).length:Nat):Int) - 0)+1) (0,0,0))
def mx (a b:Int):Int:=if a < b then b else a
theorem kK {a b c:Int} (h:a<=c)(h':b<=c):mx a b<=c:=by unfold mx;split<;>assumption
theorem dH (a b:Int):a<=mx a b:=by unfold mx;split<;>omega
theorem nI (a b:Int):b<=mx a b:=by unfold mx;split<;>omega
def ds (p q:P3):Int:=dt (sb p q) (sb p q)
def fF (p q:P3):Int:=jO (cE p q) (cE p q)
theorem vO {p q:P3} (hp:bd 5000 p)(hq:bd 5000 q):fF p q=ds p q:=by
 unfold fF ds
 rw [fsb (hp.mono (by omega)) (hq.mono (by omega))]
 exact fdt ((kW hp hq).mono (by omega)) ((kW hp hq).mono (by omega))
def rF (p q:P3):Int:=lU (fD p q) (fD p q)
theorem vP {p q:P3} (hp:bd 5000 p)(hq:bd 5000 q):rF p q=ds p q:=by
 unfold rF ds
 rw [rsb (hp.mono (by omega)) (hq.mono (by omega))]
 exact rdt ((kW hp hq).mono (by omega)) ((kW hp hq).mono (by omega))
theorem bCh (c:PN)(x y z:P3):bY [c.1,c.2.1,c.2.2] [x,y,z] =
 mx (mx (mx (mx (mx (mx (mx (mx (mx 0 (fF c.1 x)) (fF c.1 y)) (fF c.1 z)) (fF c.2.1 x)) (fF c.2.1 y)) (fF c.2.1 z)) (fF c.2.2 x)) (fF c.2.2 y)) (fF c.2.2 z):=by
 rfl
theorem xS (c:PN)(l:List P3)(v:Int)(i:Nat)(h:i < l.length) :
 qT c l (v,(i:Int))=.inl (mx (mx (mx v (rF c.1 (l.getD i dF))) (rF c.2.1 (l.getD i dF))) (rF c.2.2 (l.getD i dF)),((i+1:Nat):Int)):=by
 have h0:decide ((i:Int) < (l.length:Int))=true:=by simpa using h
 simp only [qT,h0,cond_true,eX]
 have key:∀q:P3,(bif decide (rF c.1 q > v) then bif decide (rF c.2.1 q > rF c.1 q) then bif decide (rF c.2.2 q > rF c.2.1 q) then Sum.inl (rF c.2.2 q,(i:Int)+1) else Sum.inl (rF c.2.1 q,(i:Int)+1) else bif decide (rF c.2.2 q > rF c.1 q) then Sum.inl (rF c.2.2 q,(i:Int)+1) else Sum.inl (rF c.1 q,(i:Int)+1)
  else bif decide (rF c.2.1 q > v) then bif decide (rF c.2.2 q > rF c.2.1 q) then Sum.inl (rF c.2.2 q,(i:Int)+1) else Sum.inl (rF c.2.1 q,(i:Int)+1) else bif decide (rF c.2.2 q > v) then Sum.inl (rF c.2.2 q,(i:Int)+1) else Sum.inl (v,(i:Int)+1))
  = (Sum.inl (mx (mx (mx v (rF c.1 q)) (rF c.2.1 q)) (rF c.2.2 q),((i:Int)+1)):(Int×Int)⊕Int):=by
  intro q
  generalize rF c.1 q=a1;generalize rF c.2.1 q=a2;generalize rF c.2.2 q=a3
  unfold mx
  by_cases h1:a1 > v
  ·rw [bG h1,cond_true,if_pos h1]
   by_cases h2:a2 > a1
   ·rw [bG h2,cond_true,if_pos h2]
    by_cases h3:a3 > a2
    ·rw [bG h3,cond_true,if_pos h3]
    ·rw [cC h3,cond_false,if_neg h3]
   ·rw [cC h2,cond_false,if_neg h2]
    by_cases h3:a3 > a1
    ·rw [bG h3,cond_true,if_pos h3]
    ·rw [cC h3,cond_false,if_neg h3]
  ·rw [cC h1,cond_false,if_neg h1]
   by_cases h2:a2 > v
   ·rw [bG h2,cond_true,if_pos h2]
    by_cases h3:a3 > a2
    ·rw [bG h3,cond_true,if_pos h3]
    ·rw [cC h3,cond_false,if_neg h3]
   ·rw [cC h2,cond_false,if_neg h2]
    by_cases h3:a3 > v
    ·rw [bG h3,cond_true,if_pos h3]
    ·rw [cC h3,cond_false,if_neg h3]
 exact key (l.getD i dF)
theorem aRv (c:PN)(l:List P3)(v:Int):qT c l (v,(l.length:Int))=.inr v:=by
 have h0:decide ((l.length:Int) < (l.length:Int))=false:=by simp
 simp only [qT,h0,cond_false]
theorem bCi (c:PN)(x y z:P3):aCd c [x,y,z] =
 mx (mx (mx (mx (mx (mx (mx (mx (mx 0 (rF c.1 x)) (rF c.2.1 x)) (rF c.2.2 x)) (rF c.1 y)) (rF c.2.1 y)) (rF c.2.2 y)) (rF c.1 z)) (rF c.2.1 z)) (rF c.2.2 z):=by
 unfold aCd
 have e0:=xS c [x,y,z] 0 0 (by simp)
 have e1:=xS c [x,y,z] (mx (mx (mx 0 (rF c.1 x)) (rF c.2.1 x)) (rF c.2.2 x)) 1 (by simp)
 have e2:=xS c [x,y,z] (mx (mx (mx (mx (mx (mx 0 (rF c.1 x)) (rF c.2.1 x)) (rF c.2.2 x)) (rF c.1 y)) (rF c.2.1 y)) (rF c.2.2 y)) 2 (by simp)
 have e3:=aRv c [x,y,z] (mx (mx (mx (mx (mx (mx (mx (mx (mx 0 (rF c.1 x)) (rF c.2.1 x)) (rF c.2.2 x)) (rF c.1 y)) (rF c.2.1 y)) (rF c.2.2 y)) (rF c.1 z)) (rF c.2.1 z)) (rF c.2.2 z))
 rw [show tN ((([x,y,z]:List P3).length:Int) - 0)+1=4 from rfl,show((0,0):Int×Int)=(0,((0:Nat):Int)) from rfl,aB e0]
 refine(aB e1).trans ?_
 refine(aB e2).trans ?_
 exact aC e3
theorem aRw (a b c d e f g h i:Int):mx (mx (mx (mx (mx (mx (mx (mx (mx 0 a) b) c) d) e) f) g) h) i=mx (mx (mx (mx (mx (mx (mx (mx (mx 0 a) d) g) b) e) h) c) f) i:=by
 have key:∀a b c:Int,mx (mx a b) c=mx (mx a c) b:=fun a b c=>by unfold mx;repeat' split<;>omega
 rw [key _ c d,key _ b d,key _ f g,key _ e g,key _ c g,key _ b g]
 rw [key _ c e,key _ f h,key _ c h]
def lo3 (a b c:Int):Int:=if c < (if b < (if a < a then a else a) then b else(if a < a then a else a)) then c else(if b < (if a < a then a else a) then b else(if a < a then a else a))
def hi3 (a b c:Int):Int:=if(if(if a < a then a else a) < b then b else(if a < a then a else a)) < c then c else(if(if a < a then a else a) < b then b else(if a < a then a else a))
theorem kQ (a b c:Int):lo3 a b c<=a/\lo3 a b c<=b/\lo3 a b c<=c:=by
 unfold lo3;simp only [Int.lt_irrefl,if_false];split<;>split at *<;>omega
theorem kR (a b c:Int):a<=hi3 a b c/\b<=hi3 a b c/\c<=hi3 a b c:=by
 unfold hi3;simp only [Int.lt_irrefl,if_false];split<;>split at *<;>omega
theorem aF9 (a b c:Int):lo3 a b c=a\/lo3 a b c=b\/lo3 a b c=c:=by
 unfold lo3;simp only [Int.lt_irrefl,if_false];split<;>split at *<;>omega
theorem aGa (a b c:Int):hi3 a b c=a\/hi3 a b c=b\/hi3 a b c=c:=by
 unfold hi3;simp only [Int.lt_irrefl,if_false];split<;>split at *<;>omega
def gp (a b c d:Int):Int:=mx (mx 0 (c - b)) (a - d)
theorem aCg (a b c d:Int):0<=gp a b c d:=Int.le_trans (dH 0 _) (dH _ _)
theorem aVl (a b c d:Int):gp c d a b=gp a b c d:=by unfold gp mx;repeat' split<;>omega
def nr (a b c d:P3):Int:=gp a.1 b.1 c.1 d.1*gp a.1 b.1 c.1 d.1+gp a.2.1 b.2.1 c.2.1 d.2.1*gp a.2.1 b.2.1 c.2.1 d.2.1+gp a.2.2 b.2.2 c.2.2 d.2.2*gp a.2.2 b.2.2 c.2.2 d.2.2
def qA (c:PN):P3:=(lo3 c.1.1 c.2.1.1 c.2.2.1,lo3 c.1.2.1 c.2.1.2.1 c.2.2.2.1,lo3 c.1.2.2 c.2.1.2.2 c.2.2.2.2)
def qB (c:PN):P3:=(hi3 c.1.1 c.2.1.1 c.2.2.1,hi3 c.1.2.1 c.2.1.2.1 c.2.2.2.1,hi3 c.1.2.2 c.2.1.2.2 c.2.2.2.2)
theorem aGb {m:Int} {c:PN} (h:bdP m c):bd m (qA c):=by
 have h1:=aF9 c.1.1 c.2.1.1 c.2.2.1;have h2:=aF9 c.1.2.1 c.2.1.2.1 c.2.2.2.1;have h3:=aF9 c.1.2.2 c.2.1.2.2 c.2.2.2.2
 have ha:=h.1;have hb:=h.2.1;have hc:=h.2.2
 unfold bd at *;simp only [qA];omega
theorem aGc {m:Int} {c:PN} (h:bdP m c):bd m (qB c):=by
 have h1:=aGa c.1.1 c.2.1.1 c.2.2.1;have h2:=aGa c.1.2.1 c.2.1.2.1 c.2.2.2.1;have h3:=aGa c.1.2.2 c.2.1.2.2 c.2.2.2.2
 have ha:=h.1;have hb:=h.2.1;have hc:=h.2.2
 unfold bd at *;simp only [qB];omega
theorem bCj (c:PN):bA c=(qA c,qB c):=rfl
theorem aRx {a b c d:Int} (ha:-5000<=a/\a<=5000)(hb:-5000<=b/\b<=5000)(hc:-5000<=c/\c<=5000)(hd:-5000<=d/\d<=5000):lS a b c d=gp a b c d:=by
 unfold lS
 rw [aH (n:=c - b) (by omega) (by omega),aH (n:=a - d) (by omega) (by omega)];rfl
theorem aCh {a b c d:Int} (ha:-5000<=a/\a<=5000)(hb:-5000<=b/\b<=5000)(hc:-5000<=c/\c<=5000)(hd:-5000<=d/\d<=5000):0<=gp a b c d/\gp a b c d<=10000 :=
 ⟨aCg _ _ _ _,kK (kK (by omega) (by omega)) (by omega)⟩
theorem nrF {a b c d:P3} (ha:bd 5000 a)(hb:bd 5000 b)(hc:bd 5000 c)(hd:bd 5000 d) :
 jO (lS a.1 b.1 c.1 d.1,lS a.2.1 b.2.1 c.2.1 d.2.1,lS a.2.2 b.2.2 c.2.2 d.2.2) (lS a.1 b.1 c.1 d.1,lS a.2.1 b.2.1 c.2.1 d.2.1,lS a.2.2 b.2.2 c.2.2 d.2.2)=nr a b c d:=by
 rw [aRx ha.1 hb.1 hc.1 hd.1,aRx ha.2.1 hb.2.1 hc.2.1 hd.2.1,aRx ha.2.2 hb.2.2 hc.2.2 hd.2.2]
 have h1:=aCh ha.1 hb.1 hc.1 hd.1;have h2:=aCh ha.2.1 hb.2.1 hc.2.1 hd.2.1;have h3:=aCh ha.2.2 hb.2.2 hc.2.2 hd.2.2
 have hv:bd 1000000000 (gp a.1 b.1 c.1 d.1,gp a.2.1 b.2.1 c.2.1 d.2.1,gp a.2.2 b.2.2 c.2.2 d.2.2):=by unfold bd;simp only;omega
 rw [fdt hv hv];rfl
theorem aZm {c q:PN} (hc:bdP 5000 c)(hq:bdP 5000 q):cF c q=nr (qA c) (qB c) (qA q) (qB q):=by
 unfold cF
 rw [bCj,bCj]
 exact nrF (aGb hc) (aGc hc) (aGb hq) (aGc hq)
theorem rX (a b c:Int):dN [a,b,c]=(lo3 a b c,hi3 a b c):=rfl
theorem aRy {l m:List Int} {a b c d:Int} (hl:dN l=(a,b))(hm:dN m=(c,d))(ha:-5000<=a/\a<=5000)(hb:-5000<=b/\b<=5000)(hc:-5000<=c/\c<=5000)(hd:-5000<=d/\d<=5000) :
 kJ l m=gp a b c d*gp a b c d:=by
 unfold kJ
 rw [hl,hm]
 simp only
 rw [aH (n:=a - d) (by omega) (by omega),aH (n:=c - b) (by omega) (by omega)]
 have e:(if((if(0:Int) < a - d then a - d else 0):Int) < c - b then c - b else(if(0:Int) < a - d then a - d else 0))=gp a b c d:=aVl a b c d
 rw [e]
 have h1:=aCh ha hb hc hd
 have h2:=cL (a:=10000) (b:=10000) (x:=gp a b c d) (y:=gp a b c d) (by omega) (by omega)
 exact aH (by omega) (by omega)
theorem aZn {a b c:Int} (ha:0<=a/\a<=100000000)(hb:0<=b/\b<=100000000)(hc:0<=c/\c<=100000000):W ((W (a+b))+c)=a+b+c:=by
 rw [aH (n:=a+b) (by omega) (by omega),aH (by omega) (by omega)]
theorem aZo {c q:PN} (hc:bdP 5000 c)(hq:bdP 5000 q):xQ c q=nr (qA c) (qB c) (qA q) (qB q):=by
 unfold xQ
 have hl:=aGb hc;have hh:=aGc hc;have kl:=aGb hq;have kh:=aGc hq
 have g1:=aRy (l:=gB c 0) (m:=gB q 0) (rX c.1.1 c.2.1.1 c.2.2.1) (rX q.1.1 q.2.1.1 q.2.2.1) hl.1 hh.1 kl.1 kh.1
 have g2:=aRy (l:=gB c 1) (m:=gB q 1) (rX c.1.2.1 c.2.1.2.1 c.2.2.2.1) (rX q.1.2.1 q.2.1.2.1 q.2.2.2.1) hl.2.1 hh.2.1 kl.2.1 kh.2.1
 have g3:=aRy (l:=gB c 2) (m:=gB q 2) (rX c.1.2.2 c.2.1.2.2 c.2.2.2.2) (rX q.1.2.2 q.2.1.2.2 q.2.2.2.2) hl.2.2 hh.2.2 kl.2.2 kh.2.2
 have b1:=aCh hl.1 hh.1 kl.1 kh.1;have b2:=aCh hl.2.1 hh.2.1 kl.2.1 kh.2.1;have b3:=aCh hl.2.2 hh.2.2 kl.2.2 kh.2.2
 have m1:=cL (a:=10000) (b:=10000) (by omega) (by omega) (x:=gp (qA c).1 (qB c).1 (qA q).1 (qB q).1) (y:=gp (qA c).1 (qB c).1 (qA q).1 (qB q).1)
 have m2:=cL (a:=10000) (b:=10000) (by omega) (by omega) (x:=gp (qA c).2.1 (qB c).2.1 (qA q).2.1 (qB q).2.1) (y:=gp (qA c).2.1 (qB c).2.1 (qA q).2.1 (qB q).2.1)
 have m3:=cL (a:=10000) (b:=10000) (by omega) (by omega) (x:=gp (qA c).2.2 (qB c).2.2 (qA q).2.2 (qB q).2.2) (y:=gp (qA c).2.2 (qB c).2.2 (qA q).2.2 (qB q).2.2)
 rw [show kJ (gB c 0) (gB q 0)=_ from g1,show kJ (gB c 1) (gB q 1)=_ from g2,show kJ (gB c 2) (gB q 2)=_ from g3]
 exact aZn ⟨dP _,by have:=m1.2;exact this⟩ ⟨dP _,by have:=m2.2;exact this⟩ ⟨dP _,by have:=m3.2;exact this⟩
open Classical in
noncomputable def pk (p q:PN)(d:Int):Int:=if vp p=0 then(if vp q=0 then(if 0<=d/\d<=2 then 0 else 1) else vp q) else vp p
theorem aRz (v w:Int)(b:Prop) [Decidable b]:(bif (v != 0) then v else(bif (w != 0) then w else(bif (!(decide b)) then(1:Int) else 0)))=if v=0 then(if w=0 then(if b then 0 else 1) else w) else v:=by
 by_cases hv:v=0
 ·subst hv
  by_cases hw:w=0
  ·subst hw;by_cases hb:b<;>simp [hb]
  ·rw [bne_iff_ne.2 hw,cond_true,if_neg hw];simp
 ·rw [bne_iff_ne.2 hv,cond_true,if_neg hv]
theorem aAt (p q:PN)(d:Int):F69 p q d=pk p q d:=by
 unfold F69 pk
 rw [aK0,aK0,aEx,aRz]
theorem aPp (p q:PN)(d:Int):F90 p q d=pk p q d:=by
 unfold F90 pk
 rw [aZi,aZi,aKz,aRz]
theorem aR0 {p q:PN} {d:Int} (h:pk p q d=0):vp p=0/\vp q=0/\0<=d/\d<=2:=by
 unfold pk at h
 split at h
 ·rename_i h0
  split at h
  ·rename_i h1
   split at h
   ·rename_i h2;exact⟨h0,h1,h2⟩
   ·cases h
  ·rename_i h1;exact absurd h h1
 ·rename_i h0;exact absurd h h0
theorem aNg {p q:PN} {d:Int} (h:((F69 p q d:Int) != 0)=false):vp p=0/\vp q=0/\0<=d/\d<=2 :=
 aR0 (by rw [←aAt];simpa using h)
theorem aVm {p q:PN} {d:Int} (h:((F69 p q d:Int) != 0)=false):uG p=0:=by
 rw [aK0];exact(aNg h).1
theorem pair_le {p q:PN} {d:Int} (h:((F69 p q d:Int) != 0)=false):0<=d/\d<=3:=by have:=aNg h;omega
def oQ (a0:Zt×Zt×Zt)(a1:Zt×Zt×Zt)(a2:Int):(Int×Int)×Int :=
 (bif (((F69 a0 a1 a2):Int) != 0) then
  ((0,0),(F69 a0 a1 a2))
 else
  ((F70 a0 ((sO a1.1 (W (1*2 ^ (min (tN a2) 64)))),(sO a1.2.1 (W (1*2 ^ (min (tN a2) 64)))),(sO a1.2.2 (W (1*2 ^ (min (tN a2) 64))))) a2),0))
theorem C40 (a0:Zt×Zt×Zt)(a1:Zt×Zt×Zt)(a2:Int):Con Tryz.prog 40 [(.a (k9 a0)),(.a (k9 a1)),(iv a2)] [] (.t [(.a (k2 (oQ a0 a1 a2).1)),(iv (oQ a0 a1 a2).2)]) []:=by
 refine aU Tryz.func40 (by kernel_rfl) fun cx hcx=>?_
 let t0:List (St Tryz.prog):=[.c [] (C69 a0 a1 a2)]
 cases h0:(((F69 a0 a1 a2):Int) != 0) with
 | true =>
  have q0:=bne_iff_ne.1 h0
  have e:=Eq.refl (oQ a0 a1 a2);conv at e=>rhs;simp only [oQ,h0,aW]
  rw [e]
  exact rt (t0++[.d h0]) [] [] hcx (by kernel_rfl)
 | false =>
  have q0:=bne_eq_false_iff_eq.1 h0
  have e:=Eq.refl (oQ a0 a1 a2);conv at e=>rhs;simp only [oQ,h0,aW]
  rw [e]
  exact rt (t0++[.d h0,.p (show 0<=(a2:Int) from by exact(pair_le h0).1),.c [] (C71 a1.1 (W (1*2 ^ (min (tN a2) 64)))),.c [] (C71 a1.2.1 (W (1*2 ^ (min (tN a2) 64)))),.c [] (C71 a1.2.2 (W (1*2 ^ (min (tN a2) 64)))),.c [] (C70 a0 ((sO a1.1 (W (1*2 ^ (min (tN a2) 64)))),(sO a1.2.1 (W (1*2 ^ (min (tN a2) 64)))),(sO a1.2.2 (W (1*2 ^ (min (tN a2) 64))))) a2  (aVm h0) (pair_le h0))]) [] [] hcx (by kernel_rfl)
def F53 (a0:Zt×Zt×Zt)(a1:Zt×Zt×Zt)(a2:Int):(Int×Int)×Int :=
 (bif (((F90 a0 a1 a2):Int) != 0) then
  ((0,0),(F90 a0 a1 a2))
 else
  ((F91 a0 a2 ((kV a1.1 (W (1*2 ^ (min (tN (IntKind.wrap .u64 a2)) 64)))),(kV a1.2.1 (W (1*2 ^ (min (tN (IntKind.wrap .u64 a2)) 64)))),(kV a1.2.2 (W (1*2 ^ (min (tN (IntKind.wrap .u64 a2)) 64)))))),0))
end Go.Proofs.YtlckcjfbjnjfhaaGreat
namespace Go.Proofs.YtlckcjfbjnjfhaaGreat
open Go.Proofs Go.Aw Go.RowKit
set_option maxRecDepth 100000
theorem vQ:∀(d:Nat) (p:PN),(bI d p).length=4 ^ d
 | 0,p=>rfl
 | d+1,p=>by
  rw [eR]
  have:∀l:List PN,(l.flatMap nH).length=4*l.length:=fun l=>by
   induction l with
   | nil=>rfl
   | cons x l ih=>rw [List.flatMap_cons,List.length_append,ih];show 4+_=_;simp only [List.length_cons];omega
  rw [this,vQ d p,Nat.pow_succ];omega
open Go.ChangeShapes Go.WideShapes Go.ChangeAt
def aIs (P:Program)(ok:TypeId->Bool)(n:Nat):List Field->Nat->Bool
 | [],o=>o == n
 | f::l,o=>f.offset == o&&ok f.type&&aIs P ok n l (o+P.cellsOf f.type)
def tA (P:Program):Nat->TypeId->Bool
 | 0,_=>false
 | k+1,t=>match P.underlying t with
  | some (.int .i64)=>true
  | some (.struct fs)=>aIs P (tA P k) (P.cellsOf t) fs.toList 0
  | some (.array n e)=>tA P k e&&P.cellsOf t == n*P.cellsOf e
  | _=>false
section
variable {H : Type} {enc : TypeId × Value → H} {P : Program} {w : World} {base : Nat} {spare : Nat → Bool} {held : Bool}
theorem aEz {ok:TypeId->Bool} {n fuel:Nat} {cs:List Value}
 (hok:∀t cs x,ok t=true->DataW.trod enc P w base spare held fuel t cs=some x->x.2=[]/\∃ns:List Int,cs=ns.map (Value.int .i64)) (hn:cs.length=n) :
 ∀(l:List Field) (o:Nat) (ys:List (DataW H×List MemPlace)),aIs P ok n l o=true->ys.length=l.length ->
   (∀(j:Nat) (f:Field),l[j]? = some f->DataW.trod enc P w base spare held fuel f.type ((cs.drop f.offset).take (P.cellsOf f.type))=ys[j]?) ->
   (∀y∈ys,y.2=[])/\∃ns:List Int,cs.drop o=ns.map (Value.int .i64)
 | [],o,ys,hc,hl,_=>by
  have:ys=[]:=List.length_eq_zero_iff.1 hl
  subst this
  simp only [aIs,beq_iff_eq] at hc
  exact⟨fun y hy=>by simp at hy,[],by rw [hc,←hn,List.drop_length];rfl⟩
 | f::l,o,ys,hc,hl,hf=>by
  cases ys with
  | nil=>simp at hl
  | cons y ys =>
   simp only [aIs,Bool.and_eq_true,beq_iff_eq] at hc
   obtain⟨⟨h1,h2⟩,h3⟩:=hc
   have g0:=hf 0 f rfl
   rw [h1] at g0
   obtain⟨e1,n1,e2⟩:=hok f.type _ y h2 g0
   obtain⟨e3,n2,e4⟩:=aEz hok hn l _ ys h3 (by simpa using hl) (fun j g hg=>hf (j+1) g hg)
   refine⟨fun z hz=>?_,n1++n2,?_⟩
   ·rcases List.mem_cons.1 hz with rfl | hz
    ·exact e1
    ·exact e3 z hz
   ·rw [List.map_append,←e2,←e4,←List.drop_drop,List.take_append_drop]
theorem oF:∀(k:Nat) (t:TypeId) (fuel:Nat) (cs:List Value) (x:DataW H×List MemPlace),tA P k t=true->DataW.trod enc P w base spare held fuel t cs=some x ->
 x.2=[]/\∃ns:List Int,cs=ns.map (Value.int .i64)
 | 0,_,_,_,_,h,_=>by simp [tA] at h
 | k+1,t,fuel,cs,x,h,hx=>by
  unfold tA at h
  split at h
  ·rename_i ht
   obtain⟨n,rfl,rfl,_⟩:=DataW.trod_int ht hx
   exact⟨rfl,[n],rfl⟩
  ·rename_i fs ht
   obtain⟨xs,m,rfl,rfl,hl,hlen,hf⟩:=DataW.trod_struct ht hx
   obtain⟨e1,ns,e2⟩:=aEz (fun t cs x h hx=>oF k t m cs x h hx) hl fs.toList 0 xs h (by simpa using hlen) (fun j f hj=>hf j f (by simpa using hj))
   refine⟨?_,ns,by simpa using e2⟩
   simp only
   induction xs with
   | nil=>rfl
   | cons y l _=>rw [List.flatMap_eq_nil_iff];exact e1
  ·rename_i n e ht
   simp only [Bool.and_eq_true,beq_iff_eq] at h
   obtain⟨xs,m,rfl,rfl,hl,hlen,hf⟩:=DataW.trod_array ht hx
   have hi:∀i,i < n->∃y,xs[i]? = some y/\y.2=[]/\∃ns:List Int,(cs.drop (i*P.cellsOf e)).take (P.cellsOf e)=ns.map (Value.int .i64):=fun i hi=>by
    have h1:=hf i hi
    have hil:i < xs.length:=by rw [hlen];exact hi
    rw [List.getElem?_eq_getElem hil] at h1
    obtain⟨e1,e2⟩:=oF k e m _ _ h.1 h1
    exact⟨_,List.getElem?_eq_getElem hil,e1,e2⟩
   refine⟨?_,?_⟩
   ·simp only
    rw [List.flatMap_eq_nil_iff]
    intro y hy
    obtain⟨i,hy⟩:=List.getElem?_of_mem hy
    have hil:=(List.getElem?_eq_some_iff.1 hy).1
    obtain⟨y',h1,h2,_⟩:=hi i (by rw [←hlen];exact hil)
    rw [h1] at hy
    exact Option.some.inj hy▸h2
   ·have key:∀j,j<=n->∃ns:List Int,cs.drop ((n - j)*P.cellsOf e)=ns.map (Value.int .i64):=by
     intro j
     induction j with
     | zero=>intro _;exact⟨[],by rw [Nat.sub_zero,←h.2,←hl,List.drop_length];rfl⟩
     | succ j ih =>
      intro hj
      obtain⟨n2,h2⟩:=ih (by omega)
      obtain⟨_,_,_,n1,h1⟩:=hi (n - (j+1)) (by omega)
      refine⟨n1++n2,?_⟩
      rw [List.map_append,←h1,←h2,show(n - j)*P.cellsOf e=(n - (j+1))*P.cellsOf e+P.cellsOf e by rw [show n - j=(n - (j+1))+1 by omega,Nat.add_mul,Nat.one_mul],←List.drop_drop,List.take_append_drop]
    obtain⟨ns,hns⟩:=key n (Nat.le_refl _)
    exact⟨ns,by simpa using hns⟩
  ·cases h
theorem aPq {r:Reach} {b0:Nat} {t:TypeId} {fs:Array Field} {v:Value} {d:DataW H} {ps:List MemPlace} (ht:P.underlying t=some (.struct fs))(hf:tA P 6 t=true)
 (hval:Value.okWide P w r b0 t v) (hd:DataW.Trod enc P w base spare held t v d ps) :
 ps=[]/\∃ns:List Int,v=.agg (ns.map (Value.int .i64)).toArray/\ns.length=P.cellsOf t:=by
 obtain⟨cs,rfl,hs⟩:=okWide_struct ht hval
 obtain⟨fuel,hx⟩:=hd
 obtain⟨e1,ns,e2⟩:=oF 6 t fuel _ _ hf hx
 have e3:cs=(ns.map (Value.int .i64)).toArray:=by
  have:cs.toList=ns.map (Value.int .i64):=by simpa [Value.cells] using e2
  rw [←this]
 refine⟨e1,ns,by rw [e3],?_⟩
 rw [←hs,e3];simp
end
theorem aGd {ρ:Env}:∀ns:List Int,Rels ρ (ns.map iv) (ns.map (Value.int .i64))
 | []=>trivial
 | n::l=>⟨rfl,aGd l⟩
theorem aVn {ρ:Env} (ns:List Int):Rel ρ (.a (ns.map iv)) (.agg (ns.map (Value.int .i64)).toArray):=⟨_,rfl,aGd ns⟩
theorem aK5 {H:Type} {enc:TypeId×Value->H} {P:Program} {f:Func} {s:ChangeSpec} {apart fresh handsOn:Bool} {W W':World} {args:Array Value} {v:Value} {ds gs:List (DataW H)} {before:List MemPlace}
 (hW:DataW.Whole enc P f.params.toList s.vars apart W args.toList ds gs before) (hb:Below W.heap.size W W')
 (hres:∀(b:Nat) (sp:Nat->Bool) (hd:Bool),DataW.TrodAll enc P W' b sp hd f.resultTypes.toList (v.resultList f.resultTypes.size) (s.fn H (ds++gs)).results [])
 (hargs:DataW.TrodAll enc P W' 0 (fun b=>decide (b < W.heap.size)) true f.params.toList args.toList (s.fn H (ds++gs)).args before)
 (hvars:DataW.TrodVars enc P W' (fun b=>decide (b < W.heap.size)) s.vars (s.fn H (ds++gs)).vars []) :
 s.post enc P f apart fresh handsOn false W args v W' :=
 ⟨ds,gs,before,[],before,[],hW,hres _ _ _,hargs,hvars,hb.frame _,fun h=>by cases h⟩
theorem aGe {H:Type} {enc:TypeId×Value->H} {P:Program} {w:World} {base:Nat} {spare:Nat->Bool} {held:Bool} {t:TypeId} {ts:List TypeId} {v:Value} {vs:List Value} {d:DataW H} {ds:List (DataW H)} {p p':List MemPlace}
 (h:DataW.Trod enc P w base spare held t v d p) (h':DataW.TrodAll enc P w base spare held ts vs ds p'):DataW.TrodAll enc P w base spare held (t::ts) (v::vs) (d::ds) (p++p'):=⟨p,p',h,h',rfl⟩
theorem own:ownKnob Tryz.prog.godebug=none:=by kernel_rfl
theorem aGf:laidOutB Tryz.prog=true:=by kernel_rfl
end Go.Proofs.YtlckcjfbjnjfhaaGreat
namespace Go.Proofs.YtlckcjfbjnjfhaaGreat
open Go.Proofs Go.Aw Go.RowKit
set_option maxRecDepth 100000
def sc (d:Int):Int:=if d=0 then 1 else if d=1 then 2 else if d=2 then 4 else 8
theorem d4 {d:Int} (h:0<=d/\d<=3):d=0\/d=1\/d=2\/d=3:=by omega
theorem aZp {d:Int} (h:0<=d/\d<=3):W (1*2 ^ (min (tN d) 64))=sc d:=by
 rcases d4 h with rfl | rfl | rfl | rfl<;>kernel_rfl
theorem bCk {d:Int} (h:0<=d/\d<=3):W (1*2 ^ (min (tN (IntKind.wrap .u64 d)) 64))=sc d:=by
 rcases d4 h with rfl | rfl | rfl | rfl<;>kernel_rfl
theorem bCl {d:Int} (h:0<=d/\d<=3):W (1*2 ^ (min (tN (W (2*d))) 64))=sc d*sc d:=by
 rcases d4 h with rfl | rfl | rfl | rfl<;>kernel_rfl
theorem aGg {d:Int} (h:0<=d/\d<=3)(p:PN):(((bI d.toNat p).length:Nat):Int)=sc d*sc d:=by
 rw [vQ];rcases d4 h with rfl | rfl | rfl | rfl<;>kernel_rfl
theorem zQ (d:Int):sc d=1\/sc d=2\/sc d=4\/sc d=8:=by unfold sc;(repeat' split)<;>simp
theorem aXs (d:Int):1<=sc d/\sc d<=8:=by have:=zQ d;omega
def tm (s:Int)(p:P3):P3:=(s*p.1,s*p.2.1,s*p.2.2)
theorem aNh {s m:Int} {p:P3} (hs:1<=s/\s<=8)(hm:0<=m)(hp:bd m p):bd (8*m) (tm s p):=by
 have h1:=cL (a:=8) (b:=m) (x:=s) (y:=p.1) (by omega) hp.1
 have h2:=cL (a:=8) (b:=m) (x:=s) (y:=p.2.1) (by omega) hp.2.1
 have h3:=cL (a:=8) (b:=m) (x:=s) (y:=p.2.2) (by omega) hp.2.2
 exact⟨h1,h2,h3⟩
theorem bCm {s:Int} {p:P3} (hs:1<=s/\s<=8)(hp:bd 4096 p):((W (s*p.1)),(W (s*p.2.1)),(W (s*p.2.2)))=tm s p:=by
 have h:=aNh hs (by omega) hp
 have h1:=h.1;have h2:=h.2.1;have h3:=h.2.2
 simp only [tm] at h1 h2 h3
 unfold tm
 rw [aH (n:=s*p.1) (by omega) (by omega),aH (n:=s*p.2.1) (by omega) (by omega),aH (n:=s*p.2.2) (by omega) (by omega)]
theorem aPr {s:Int} {p:P3} (hs:1<=s/\s<=8)(hp:bd 4096 p):sO p s=tm s p:=bCm hs hp
theorem aZq {s:Int} {p:P3} (hs:1<=s/\s<=8)(hp:bd 4096 p):kV p s=tm s p:=bCm hs hp
theorem aCi {a b:Int} (h1:-1099511627776<=a)(h2:a<=b)(h3:b<=1099511627776):jQ a b=((a,b),0):=by
 unfold jQ wU
 rw [bG (show(a,b).1≥-1099511627776 from h1),bG (show(a,b).1<=(a,b).2 from h2),bG (show(a,b).2<=1099511627776 from h3)];rfl
theorem aXt {a b:Int} (h1:-1099511627776<=a)(h2:a<=b)(h3:b<=1099511627776):aIr a b=((a,b),0):=by
 unfold aIr F94
 rw [bG (show(a,b).1≥-1099511627776 from h1),bG (show(a,b).1<=(a,b).2 from h2),bG (show(a,b).2<=1099511627776 from h3)];rfl
theorem bCn {n:Int} (h0:0<=n)(h:n < 4611686018427387904):pZ n=hG n:=(aXp h0 h).eq (aF7 h0 h)
noncomputable def inv (N n:Int):Int×Int :=
 (hG (N / n),if hG (N / n)*hG (N / n)*n=N then hG (N / n) else hG (N / n)+1)
theorem pE {N n:Int} (hN:0<=N)(hn:1<=n):0<=N / n/\N / n<=N/\(N / n)*n<=N:=by
 have h1:0<=N / n:=Int.ediv_nonneg hN (by omega)
 have h2:(N / n)*n<=N:=Int.ediv_mul_le N (by omega)
 have h3:(N / n)*1<=(N / n)*n:=Int.mul_le_mul_of_nonneg_left hn h1
 omega
theorem iM {N n:Int} (hN:0<=N/\N<=288230376151711744)(hn:1<=n) :
 ∃k,hG (N / n)=k/\IsRt (N / n) k/\0<=k/\k<=536870912/\0<=k*k/\k*k<=N / n/\0<=k*k*n/\k*k*n<=N:=by
 obtain⟨h1,h2,h3⟩:=pE hN.1 hn
 have h:=aF7 (n:=N / n) h1 (by omega)
 have h4:=h.le (m:=536870912) (by omega) (by omega)
 have h5:0<=hG (N / n)*hG (N / n):=Int.mul_nonneg h.1 h.1
 exact⟨_,rfl,h,h.1,h4,h5,h.2.1,Int.mul_nonneg h5 (by omega),Int.le_trans (Int.mul_le_mul_of_nonneg_right h.2.1 (by omega)) h3⟩
theorem bCo {N n:Int} (hN:0<=N/\N<=288230376151711744)(hn:1<=n):aD9 N n=(inv N n,0):=by
 obtain⟨k,hk,_,k0,k1,k2,k3,k4,k5⟩:=iM hN hn
 obtain⟨h1,h2,h3⟩:=pE hN.1 hn
 unfold aD9 inv
 rw [Int.tdiv_eq_ediv_of_nonneg hN.1,aH (n:=N / n) (by omega) (by omega),hk,aH (n:=k*k) (by omega) (by omega),aH (n:=k*k*n) (by omega) (by omega),aH (n:=k+1) (by omega) (by omega),
  aCi (by omega) (Int.le_refl k) (by omega),aCi (by omega) (by omega) (by omega)]
 by_cases h:k*k*n=N
 ·rw [if_pos h,beq_iff_eq.2 h];rfl
 ·rw [if_neg h,beq_eq_false_iff_ne.2 h];rfl
theorem bCp {N n:Int} (hN:0<=N/\N<=288230376151711744)(hn:1<=n):aVi N n=(inv N n,0):=by
 obtain⟨k,hk,_,k0,k1,k2,k3,k4,k5⟩:=iM hN hn
 obtain⟨h1,h2,h3⟩:=pE hN.1 hn
 unfold aVi inv
 rw [Int.tdiv_eq_ediv_of_nonneg hN.1,aH (n:=N / n) (by omega) (by omega),bCn h1 (by omega),hk,aH (n:=k*k) (by omega) (by omega),aH (n:=k+1) (by omega) (by omega),
  aXt (by omega) (Int.le_refl k) (by omega),aXt (by omega) (by omega) (by omega),Int.tmod_eq_emod_of_nonneg hN.1]
 have hdm:n*(N / n)+N % n=N:=Int.mul_ediv_add_emod N n
 by_cases h0:N % n=0
 ·rw [beq_iff_eq.2 h0,cond_true]
  by_cases h:k*k=N / n
  ·rw [beq_iff_eq.2 h,cond_true,if_pos (by rw [h,Int.mul_comm];omega)]
  ·rw [beq_eq_false_iff_ne.2 h,cond_false,if_neg]
   intro h'
   rw [h0,Int.add_zero,Int.mul_comm] at hdm
   exact h (Int.eq_of_mul_eq_mul_right (by omega) (h'.trans hdm.symm))
 ·rw [beq_eq_false_iff_ne.2 h0,cond_false,if_neg]
  intro h'
  rw [←h'] at h0
  exact h0 (Int.mul_emod_left _ _)
theorem aZr {N n:Int} (hN:0<=N/\N<=288230376151711744)(hn:1<=n):0<=(inv N n).1/\(inv N n).1<=(inv N n).2/\(inv N n).2<=536870913:=by
 obtain⟨k,hk,_,k0,k1,_⟩:=iM hN hn
 unfold inv
 rw [hk]
 simp only
 split<;>omega
theorem aR1 {N n m:Int} (hN:0<=N/\N<=288230376151711744)(hn:1<=n)(hm:n<=m):(inv N m).1<=(inv N n).1:=by
 obtain⟨h1,h2,h3⟩:=pE hN.1 hn
 obtain⟨g1,g2,g3⟩:=pE (n:=m) hN.1 (by omega)
 have h:N / m<=N / n:=by
  refine Int.le_ediv_of_mul_le (by omega) (Int.le_trans (Int.mul_le_mul_of_nonneg_left hm g1) g3)
 exact(aF7 g1 (by omega)).mono (aF7 h1 (by omega)) h
def NN (s:Int):Int:=s*s*1099511627776
theorem aCj {s:Int} (h:s=1\/s=2\/s=4\/s=8):0<=NN s/\NN s<=288230376151711744:=by rcases h with rfl | rfl | rfl | rfl<;>decide
noncomputable def qC (s n:Int):Int×Int:=if n < 1 then(0,0) else inv (NN s) n
theorem bE8 {s:Int} (h:s=1\/s=2\/s=4\/s=8):decide (s < 1)=false/\decide (s > 8)=false:=by
 rcases h with rfl | rfl | rfl | rfl<;>decide
theorem lt8 {s:Int} (h:s=1\/s=2\/s=4\/s=8):decide (s < 1)=false/\decide (s > 8)=false/\aRk s 1 8=true:=by
 rcases h with rfl | rfl | rfl | rfl<;>decide
theorem aXu {s n:Int} (hs:s=1\/s=2\/s=4\/s=8)(hn:n<=1000000000):(fU n s).1=qC s n:=by
 obtain⟨e1,e2⟩:=bE8 hs
 unfold fU qC
 by_cases h:n < 1
 ·rw [bG h,cond_true,if_pos h]
 ·have e:W ((W (s*s))*2 ^ (min (tN 40) 64))=NN s:=by rcases hs with rfl | rfl | rfl | rfl<;>kernel_rfl
  rw [cC h,cond_false,cC (show ¬n > 1099511627776 by omega),cond_false,e1,cond_false,e2,cond_false,if_neg h,e,bCo (aCj hs) (by omega)]
theorem aXv {s n:Int} (hs:s=1\/s=2\/s=4\/s=8)(hn:n<=1000000000):(aPm n s).1=qC s n:=by
 obtain⟨_,_,e3⟩:=lt8 hs
 unfold aPm qC
 by_cases h:n < 1
 ·rw [aCe,cC (show ¬(1<=n/\n<=1099511627776) by omega),if_pos h];rfl
 ·have e:W ((W ((W (1048576*s))*1048576))*s)=NN s:=by rcases hs with rfl | rfl | rfl | rfl<;>kernel_rfl
  rw [e3,aCe,bG (show(1<=n/\n<=1099511627776) by omega),if_neg h,e,bCp (aCj hs) (by omega)];rfl
structure OfOk (of:Int->Int×Int):Prop where
 lo:∀n,0<=(of n).1
 le:∀n,(of n).1<=(of n).2
 hi:∀n,(of n).2<=536870913
 mono:∀n m,1<=n->n<=m->(of m).1<=(of n).1
theorem aK6 {s:Int} (hs:s=1\/s=2\/s=4\/s=8):OfOk (qC s):=by
 have hb:∀n,0<=(qC s n).1/\(qC s n).1<=(qC s n).2/\(qC s n).2<=536870913:=by
  intro n
  unfold qC
  split
  ·simp
  ·exact aZr (aCj hs) (by omega)
 refine⟨fun n=>(hb n).1,fun n=>(hb n).2.1,fun n=>(hb n).2.2,fun n m h1 h2=>?_⟩
 unfold qC
 rw [if_neg (by omega),if_neg (by omega)]
 exact aR1 (aCj hs) h1 h2
def fa (c:PN)(x:P3):Int:=mx (mx (mx 0 (ds c.1 x)) (ds c.2.1 x)) (ds c.2.2 x)
def ne (c:PN)(x:P3):Int:=nr (qA c) (qB c) x x
theorem vR {p q:P3} (hp:bd 5000 p)(hq:bd 5000 q):0<=ds p q/\ds p q<=300000000:=by
 have h:=kW hp hq
 have:=aRo h h
 exact⟨mV _,by unfold ds;omega⟩
theorem aXw {a b:Int} (ha:0<=a)(h:a<=b\/a<=-b):a*a<=b*b:=by
 rcases h with h | h
 ·exact Int.mul_le_mul h h ha (by omega)
 ·have:=Int.mul_le_mul h h ha (by omega)
  rwa [Int.neg_mul_neg] at this
theorem aR2 {a b c x:Int} (h1:a<=c)(h2:c<=b):gp a b x x*gp a b x x<=(c - x)*(c - x):=by
 refine aXw (aCg _ _ _ _) ?_
 unfold gp mx
 (repeat' split)<;>omega
theorem aXx (a b c d:P3):0<=nr a b c d:=by
 have h1:=dP (gp a.1 b.1 c.1 d.1);have h2:=dP (gp a.2.1 b.2.1 c.2.1 d.2.1);have h3:=dP (gp a.2.2 b.2.2 c.2.2 d.2.2)
 unfold nr;omega
theorem bCq (c:PN)(x:P3):0<=ne c x/\ne c x<=fa c x:=by
 refine⟨aXx _ _ _ _,Int.le_trans ?_ (Int.le_trans (nI _ _) (Int.le_trans (dH _ (ds c.2.1 x)) (dH _ (ds c.2.2 x))))⟩
 have h1:=aR2 (x:=x.1) (kQ c.1.1 c.2.1.1 c.2.2.1).1 (kR c.1.1 c.2.1.1 c.2.2.1).1
 have h2:=aR2 (x:=x.2.1) (kQ c.1.2.1 c.2.1.2.1 c.2.2.2.1).1 (kR c.1.2.1 c.2.1.2.1 c.2.2.2.1).1
 have h3:=aR2 (x:=x.2.2) (kQ c.1.2.2 c.2.1.2.2 c.2.2.2.2).1 (kR c.1.2.2 c.2.1.2.2 c.2.2.2.2).1
 unfold ne nr ds dt sb
 simp only [qA,qB]
 omega
noncomputable def acc (of:Int->Int×Int)(x:P3):List PN->Int×Int->(Int×Int)⊕((Int×Int)×Int)
 | [],v=>.inl v
 | c::l,v=>if ne c x=0 then .inr ((0,0),10) else acc of x l (v.1+(of (fa c x)).1,v.2+(of (ne c x)).2)
def okv (v:Int×Int)(n:Nat):Prop:=0<=v.1/\v.1<=v.2/\v.2+536870913*n<=34359738432
theorem bCr {a n:Int} (hn:n=1\/n=4\/n=16\/n=64)(ha:-1099511627776<=a/\a<=1099511627776):xM a n=a / n:=by
 unfold xM
 have h0:∀b:Int,decide (n < 0)=false:=fun _=>cC (by omega)
 rw [h0 0]
 have key:(bif ((Int.tmod a n:Int) != 0) then(bif (!(decide (a < 0) == false)) then W (W (Int.tdiv a n) - 1) else W (Int.tdiv a n)) else W (Int.tdiv a n))=if Int.tmod a n≠0/\a < 0 then W (W (Int.tdiv a n) - 1) else W (Int.tdiv a n):=by
  by_cases h1:Int.tmod a n=0
  ·rw [h1];simp
  ·by_cases h2:a < 0
   ·rw [bne_iff_ne.2 h1,bG h2,if_pos ⟨h1,h2⟩];rfl
   ·rw [bne_iff_ne.2 h1,cC h2,if_neg (fun h=>h2 h.2)];rfl
 rw [key]
 rcases Int.lt_or_le a 0 with h | h
 ·obtain⟨b,rfl⟩:∃b:Int,a=-b:=⟨-a,by omega⟩
  have hb:0<=b:=by omega
  rw [Int.neg_tdiv,Int.neg_tmod,Int.tdiv_eq_ediv_of_nonneg hb,Int.tmod_eq_emod_of_nonneg hb]
  rcases hn with rfl | rfl | rfl | rfl <;>
  ·rw [aH (n:=-(b / _)) (by omega) (by omega)]
   split
   ·rw [aH (by omega) (by omega)];omega
   ·omega
 ·rw [if_neg (by omega),Int.tdiv_eq_ediv_of_nonneg h]
  rcases hn with rfl | rfl | rfl | rfl<;>exact aH (by omega) (by omega)
theorem bCs {a n:Int} (hn:n=1\/n=4\/n=16\/n=64)(ha:-1099511627776<=a/\a<=1099511627776):aK2 a n=a / n:=by
 unfold aK2
 rcases Int.lt_or_le a 0 with h | h
 ·obtain⟨b,rfl⟩:∃b:Int,a=-b:=⟨-a,by omega⟩
  have hb:0<=b:=by omega
  rw [Int.neg_tdiv,Int.neg_tmod,Int.tdiv_eq_ediv_of_nonneg hb,Int.tmod_eq_emod_of_nonneg hb]
  by_cases h1:-(b % n) < (0:Int)
  ·rw [bG h1,cond_true]
   rcases hn with rfl | rfl | rfl | rfl <;>
   ·rw [aH (n:=-(b / _)) (by omega) (by omega),aH (by omega) (by omega)];omega
  ·rw [cC h1,cond_false]
   rcases hn with rfl | rfl | rfl | rfl <;>
   ·rw [aH (n:=-(b / _)) (by omega) (by omega)];omega
 ·rw [Int.tdiv_eq_ediv_of_nonneg h,Int.tmod_eq_emod_of_nonneg h]
  have:¬a % n < 0:=by have:=Int.emod_nonneg a (show n≠0 by omega);omega
  rw [cC this,cond_false]
  rcases hn with rfl | rfl | rfl | rfl<;>exact aH (by omega) (by omega)
theorem bE9 {a n:Int} (hn:n=1\/n=4\/n=16\/n=64)(ha:-1099511627776<=a/\a<=1099511627776):aIq a n=-(-a / n):=by
 unfold aIq
 rw [aH (n:=0 - a) (by omega) (by omega),bCr hn (by omega),Int.zero_sub]
 rcases hn with rfl | rfl | rfl | rfl<;>exact(aH (by omega) (by omega)).trans (by omega)
theorem bFa {a n:Int} (hn:n=1\/n=4\/n=16\/n=64)(ha:-1099511627776<=a/\a<=1099511627776):aK3 a n=-(-a / n):=by
 unfold aK3
 rw [aH (n:=0 - a) (by omega) (by omega),bCs hn (by omega),Int.zero_sub]
 rcases hn with rfl | rfl | rfl | rfl<;>exact(aH (by omega) (by omega)).trans (by omega)
def avg (v:Int×Int)(n:Int):Int×Int:=(v.1 / n,-(-v.2 / n))
theorem aIt {a b:Int} (h1:-1099511627776<=a)(h2:a<=b)(h3:b<=1099511627776):wU (a,b)=true:=by
 unfold wU
 rw [bG (show(a,b).1≥-1099511627776 from h1),bG (show(a,b).1<=(a,b).2 from h2),bG (show(a,b).2<=1099511627776 from h3)];rfl
theorem bCt {v:Int×Int} {n:Int} (hn:n=1\/n=4\/n=16\/n=64)(h:okv v 0):aEa v.1 v.2 n=avg v n:=by
 unfold okv at h
 unfold aEa aAi kU
 rw [aIt (by omega) (by omega) (by omega)]
 simp only [Bool.not_true,cond_false,bne_self_eq_false]
 rw [cC (show ¬n < 1 by omega),cC (show ¬n > 1099511627776 by omega),cond_false,cond_false,bCr hn (by omega),bE9 hn (by omega)]
 have:v.1 / n<=-(-v.2 / n)/\-1099511627776<=v.1 / n/\-(-v.2 / n)<=1099511627776:=by
  rcases hn with rfl | rfl | rfl | rfl<;>omega
 rw [aCi this.2.1 this.1 this.2.2];rfl
theorem qU (d:Int):sc d*sc d=1\/sc d*sc d=4\/sc d*sc d=16\/sc d*sc d=64:=by
 rcases zQ d with h | h | h | h<;>rw [h]<;>decide
theorem aAu {p c:PN} {d:Int} (hp:bdP 64 p)(hd:0<=d/\d<=3)(hc:c∈bI d.toNat p):bdP 512 c:=by
 have key:∀k:Nat,k<=3->c∈bI k p->bdP 512 c:=by
  intro k hk hc
  have:k=0\/k=1\/k=2\/k=3:=by omega
  rcases this with rfl | rfl | rfl | rfl<;>exact(rW (m:=64) _ hp (by decide) (by decide) hc).mono (by decide)
 exact key _ (by omega) hc
theorem aR3 {p:PN} {d:Int} (hd:0<=d/\d<=3):okv (0,0) (bI d.toNat p).length:=by
 have h:=aGg hd p
 have h1:=qU d
 unfold okv;simp only;omega
section
variable {p : PN} {x : P3} {d : Int}
end
end Go.Proofs.YtlckcjfbjnjfhaaGreat
namespace Go.Proofs.YtlckcjfbjnjfhaaGreat
open Go.Proofs Go.Aw Go.RowKit
set_option maxRecDepth 100000
def IsUp (T r:Int):Prop:=0<=r/\T<=r*r/\(r=0\/(r - 1)*(r - 1) < T)
theorem IsUp.le {T r m:Int} (h:IsUp T r)(hm:0<=m)(h':T<=m*m):r<=m:=by
 rcases Int.lt_or_le m r with hlt | hle
 ·rcases h.2.2 with h0 | h0
  ·omega
  ·have:=Int.mul_le_mul (show m<=r - 1 by omega) (show m<=r - 1 by omega) hm (by omega)
   omega
 ·exact hle
theorem IsUp.eq {T a b:Int} (h:IsUp T a)(h':IsUp T b):a=b:=Int.le_antisymm (h.le h'.1 h'.2.1) (h'.le h.1 h.2.1)
theorem aK7 {T:Int} {S:Int×Int->(Int×Int)⊕Int} (hS:∀a b,0<=a->a < b->b<=268435456->S (a,b)=if T<=((a+b) / 2)*((a+b) / 2) then .inl (a,(a+b) / 2) else .inl ((a+b) / 2+1,b))(h0:∀a,S (a,a)=.inr a) :
 ∀(f:Nat) (a b:Int),0<=a->a<=b->b<=268435456->b - a < f->T<=b*b->(a=0\/(a - 1)*(a - 1) < T)->IsUp T (aA S f (a,b)):=by
 intro f
 induction f with
 | zero=>intro a b _ h _ hf;omega
 | succ f ih =>
  intro a b ha hab hb hf h1 h2
  by_cases he:a=b
  ·subst he
   rw [aC (h0 a)];exact⟨ha,h1,h2⟩
  ·have hs:=hS a b ha (by omega) hb
   by_cases hc:T<=((a+b) / 2)*((a+b) / 2)
   ·rw [if_pos hc] at hs
    rw [aB hs]
    exact ih _ _ ha (by omega) (by omega) (by omega) hc h2
   ·rw [if_neg hc] at hs
    rw [aB hs]
    refine ih _ _ (by omega) (by omega) hb (by omega) h1 (Or.inr ?_)
    rw [show(a+b) / 2+1 - 1=(a+b) / 2 by omega];omega
def tB (d:Int):Int:=3537128906555392*(sc d*sc d)
theorem bCu {d:Int} (h:0<=d/\d<=3):W (3537128906555392*2 ^ (min (tN (W (2*d))) 64))=tB d:=by
 rcases d4 h with rfl | rfl | rfl | rfl<;>kernel_rfl
theorem bCv {d:Int} (h:0<=d/\d<=3):W ((W ((W (1099511627776*(W (1*2 ^ (min (tN (IntKind.wrap .u64 d)) 64)))))*(W (1*2 ^ (min (tN (IntKind.wrap .u64 d)) 64)))))*3217)=tB d:=by
 rcases d4 h with rfl | rfl | rfl | rfl<;>kernel_rfl
theorem aR4 (d:Int):3537128906555392<=tB d/\tB d<=226376250019545088:=by
 unfold tB;have:=qU d;omega
def cq (t b:Int):Int:=-(-t / b)
theorem qV {t b:Int} (hb:1<=b):t<=cq t b*b/\(cq t b - 1)*b < t:=by
 have h1:=Int.mul_ediv_add_emod (-t) b
 have h2:=Int.emod_nonneg (-t) (show b≠0 by omega)
 have h3:=Int.emod_lt_of_pos (-t) (show 0 < b by omega)
 unfold cq
 have e:-(-t / b)*b=-(b*(-t / b)):=by rw [Int.neg_mul,Int.mul_comm]
 have e2:(-(-t / b) - 1)*b=-(b*(-t / b)) - b:=by rw [Int.sub_mul,e,Int.one_mul]
 omega
theorem aZs {a n:Int} (hn:1<=n)(ha:-1152921504606846976<=a/\a<=1152921504606846976):aK2 a n=a / n:=by
 unfold aK2
 rcases Int.lt_or_le a 0 with h | h
 ·obtain⟨b,rfl⟩:∃b:Int,a=-b:=⟨-a,by omega⟩
  have hb:0<=b:=by omega
  obtain⟨h1,h2,_⟩:=pE hb hn
  have hd:=Int.mul_ediv_add_emod b n
  have hm0:=Int.emod_nonneg b (show n≠0 by omega)
  have hm1:=Int.emod_lt_of_pos b (show 0 < n by omega)
  rw [Int.neg_tdiv,Int.neg_tmod,Int.tdiv_eq_ediv_of_nonneg hb,Int.tmod_eq_emod_of_nonneg hb,aH (n:=-(b / n)) (by omega) (by omega)]
  by_cases h3:-(b % n) < (0:Int)
  ·rw [bG h3,cond_true,aH (by omega) (by omega)]
   refine(((Int.ediv_emod_unique (a:=-b) (b:=n) (q:=-(b / n) - 1) (r:=n - b % n) (by omega)).2 ⟨?_,by omega,by omega⟩).1).symm
   rw [Int.mul_sub,Int.mul_neg,Int.mul_one];omega
  ·rw [cC h3,cond_false]
   refine(((Int.ediv_emod_unique (a:=-b) (b:=n) (q:=-(b / n)) (r:=0) (by omega)).2 ⟨?_,by omega,by omega⟩).1).symm
   rw [Int.mul_neg];omega
 ·rw [Int.tdiv_eq_ediv_of_nonneg h,Int.tmod_eq_emod_of_nonneg h]
  have:=Int.emod_nonneg a (show n≠0 by omega)
  rw [cC (by omega),cond_false]
  obtain⟨h1,h2,_⟩:=pE h hn
  exact aH (by omega) (by omega)
theorem aZt {a n:Int} (hn:1<=n)(ha:0<=a/\a<=1152921504606846976):aK3 a n=cq a n:=by
 unfold aK3 cq
 have h1:=qV (t:=a) hn
 rw [aH (n:=0 - a) (by omega) (by omega),aZs hn (by omega),Int.zero_sub,Int.zero_sub]
 have h2:0<=cq a n:=by
  rcases Int.lt_or_le (cq a n) 0 with h | h
  ·have:=Int.mul_le_mul_of_nonneg_right (show cq a n<=-1 by omega) (show 0<=n by omega);omega
  ·exact h
 have h3:cq a n<=a+1:=by
  rcases Int.lt_or_le (a+1) (cq a n) with h | h
  ·have:=Int.mul_le_mul_of_nonneg_left hn (show 0<=cq a n - 1 by omega);omega
  ·exact h
 unfold cq at h2 h3
 exact aH (by omega) (by omega)
theorem vS {p:PN} {d:Int} (hp:vp p=0)(hd:0<=d/\d<=3) :
 ∃r,IsRt (dt (mI p) (mI p)) r/\1<=r/\r<=56755/\IsUp (cq (tB d) (128*r)) (fP p d)/\fP p d<=67108864:=by
 obtain⟨r,e,hr,r1,r2⟩:=aRp hp
 have ht:=aR4 d
 obtain⟨q1,q2,q3⟩:=pE (N:=tB d) (n:=128*r) (by omega) (by omega)
 have hqb:tB d / (128*r)<=1768564453277696:=by
  rcases Int.lt_or_le 1768564453277696 (tB d / (128*r)) with h | h
  ·have:=Int.mul_le_mul_of_nonneg_left (show 128<=128*r by omega) q1;omega
  ·exact h
 have hk:=aNe (n:=tB d / (128*r)) q1 (by omega)
 have hkb:=hk.le (m:=42054304) (by omega) (by omega)
 obtain⟨u1,u2⟩:=qV (t:=tB d) (b:=128*r) (by omega)
 have hm:=Int.mul_ediv_add_emod (tB d) (128*r)
 have hm1:=Int.emod_lt_of_pos (tB d) (show 0 < 128*r by omega)
 refine⟨r,hr,r1,r2,?_⟩
 unfold fP
 rw [e,aH (n:=128*r) (by omega) (by omega),bCu hd,Int.tdiv_eq_ediv_of_nonneg (by omega),aH (n:=tB d / (128*r)) (by omega) (by omega)]
 generalize lA (tB d / (128*r))=k at *
 have k0:=hk.1;have k1:=hk.2.1;have k2:=hk.2.2
 have k3:0<=k*k:=Int.mul_nonneg k0 k0
 have k4:k*k*(128*r)<=tB d / (128*r)*(128*r):=Int.mul_le_mul_of_nonneg_right k1 (by omega)
 have k5:0<=k*k*(128*r):=Int.mul_nonneg k3 (by omega)
 rw [aH (n:=k*k) (by omega) (by omega),aH (n:=k*k*(128*r)) (by omega) (by omega),aH (n:=k+1) (by omega) (by omega)]
 generalize tB d / (128*r)=q at *
 generalize cq (tB d) (128*r)=T at *
 have hb:0 < 128*r:=by omega
 generalize 128*r=b at *
 have hqT:q<=T:=Int.le_of_mul_le_mul_right (Int.le_trans q3 u1) hb
 have hTq:T<=q+1:=by
  have:(T - 1)*b < (q+1)*b:=by rw [Int.add_mul,Int.mul_comm q b];omega
  have:=Int.lt_of_mul_lt_mul_right this (by omega);omega
 by_cases h:k*k*b < tB d
 ·rw [bG h,cond_true]
  refine⟨⟨by omega,by omega,Or.inr ?_⟩,by omega⟩
  rw [show k+1 - 1=k by omega]
  exact Int.lt_of_mul_lt_mul_right (Int.lt_of_lt_of_le h u1) (by omega)
 ·rw [cC h,cond_false]
  refine⟨⟨k0,?_,?_⟩,by omega⟩
  ·have:(T - 1)*b < k*k*b:=by omega
   have:=Int.lt_of_mul_lt_mul_right this (by omega);omega
  ·rcases Int.lt_or_le 0 k with h0 | h0
   ·right
    have:(k - 1)*(k - 1)<=(k - 1)*k:=Int.mul_le_mul_of_nonneg_left (by omega) (by omega)
    have e:(k - 1)*k=k*k - k:=by rw [Int.sub_mul,Int.one_mul]
    omega
   ·left;omega
theorem aZu {p:PN} {d:Int} (hp:vp p=0)(hd:0<=d/\d<=3):aRu p d=fP p d:=by
 obtain⟨r,hr,r1,r2,hu,hb⟩:=vS hp hd
 obtain⟨hb',hd'⟩:=mW hp
 obtain⟨hn,hn2⟩:=aXr hb'
 have ht:=aR4 d
 have er:bCa (lU (aF5 p) (aF5 p))=r:=by
  rw [aXq hb',rdt (hn.mono (by omega)) (hn.mono (by omega))]
  exact(aXp (n:=dt (mI p) (mI p)) (by omega) (by omega)).eq hr
 obtain⟨u1,u2⟩:=qV (t:=tB d) (b:=128*r) (by omega)
 have hT:cq (tB d) (128*r)<=1768564453277697:=by
  rcases Int.lt_or_le 1768564453277697 (cq (tB d) (128*r)) with h | h
  ·have:=Int.mul_le_mul_of_nonneg_left (show 128<=128*r by omega) (show 0<=cq (tB d) (128*r) - 1 by omega);omega
  ·exact h
 refine IsUp.eq ?_ hu
 unfold aRu
 refine aK7 (T:=cq (tB d) (128*r)) (fun a b ha hab hb=>?_) (fun a=>?_) _ 0 268435456 (by omega) (by omega) (by omega) (by decide) (by omega) (Or.inl rfl)
 ·have h2:decide (a < b)=true:=bG hab
  have hq:=zN (a:=(a+b) / 2) (by omega) (by omega)
  simp only [aK4]
  rw [h2,cond_true,bCv hd,er,aH (n:=128*r) (by omega) (by omega),aZt (by omega) (by omega),aVf (by omega),aNa (by omega),aH (n:=(a+b) / 2*((a+b) / 2)) (by omega) (by omega)]
  by_cases hc:cq (tB d) (128*r)<=(a+b) / 2*((a+b) / 2)
  ·rw [bG (show(a+b) / 2*((a+b) / 2)≥cq (tB d) (128*r) from hc),if_pos hc];rfl
  ·rw [cC (show ¬(a+b) / 2*((a+b) / 2)≥cq (tB d) (128*r) from hc),if_neg hc];rfl
 ·simp [aK4]
def fa3 (c q:PN):Int:=mx (mx (mx (mx (mx (mx (mx (mx (mx 0 (ds c.1 q.1)) (ds c.1 q.2.1)) (ds c.1 q.2.2)) (ds c.2.1 q.1)) (ds c.2.1 q.2.1)) (ds c.2.1 q.2.2)) (ds c.2.2 q.1)) (ds c.2.2 q.2.1)) (ds c.2.2 q.2.2)
def ne3 (c q:PN):Int:=nr (qA c) (qB c) (qA q) (qB q)
theorem bCw {c q:PN} (hc:bdP 5000 c)(hq:bdP 5000 q):bY [(aJ c).1,(aJ c).2.1,(aJ c).2.2] [(aJ q).1,(aJ q).2.1,(aJ q).2.2]=fa3 c q:=by
 refine(bCh c q.1 q.2.1 q.2.2).trans ?_
 rw [vO hc.1 hq.1,vO hc.1 hq.2.1,vO hc.1 hq.2.2,vO hc.2.1 hq.1,vO hc.2.1 hq.2.1,vO hc.2.1 hq.2.2,vO hc.2.2 hq.1,vO hc.2.2 hq.2.1,vO hc.2.2 hq.2.2];rfl
theorem bCx {c q:PN} (hc:bdP 5000 c)(hq:bdP 5000 q):aCd c [q.1,q.2.1,q.2.2]=fa3 c q:=by
 rw [bCi,vP hc.1 hq.1,vP hc.1 hq.2.1,vP hc.1 hq.2.2,vP hc.2.1 hq.1,vP hc.2.1 hq.2.1,vP hc.2.1 hq.2.2,vP hc.2.2 hq.1,vP hc.2.2 hq.2.1,vP hc.2.2 hq.2.2,aRw];rfl
theorem bCy {c q:PN} (hc:bdP 5000 c)(hq:bdP 5000 q):cF (aJ c) (aJ q)=ne3 c q:=aZm hc hq
theorem bCz {c q:PN} (hc:bdP 5000 c)(hq:bdP 5000 q):xQ c q=ne3 c q:=aZo hc hq
theorem aR5 {c q:PN} (hc:bdP 5000 c)(hq:bdP 5000 q):fa3 c q<=300000000 :=
 kK (kK (kK (kK (kK (kK (kK (kK (kK (by omega) (vR hc.1 hq.1).2) (vR hc.1 hq.2.1).2) (vR hc.1 hq.2.2).2) (vR hc.2.1 hq.1).2) (vR hc.2.1 hq.2.1).2) (vR hc.2.1 hq.2.2).2) (vR hc.2.2 hq.1).2) (vR hc.2.2 hq.2.1).2) (vR hc.2.2 hq.2.2).2
theorem aK8 (c q:PN):ds c.1 q.1<=fa3 c q/\ds c.2.1 q.1<=fa3 c q/\ds c.2.2 q.1<=fa3 c q:=by
 refine⟨?_,?_,?_⟩
 ·exact Int.le_trans (nI _ _) (Int.le_trans (dH _ _) (Int.le_trans (dH _ _) (Int.le_trans (dH _ _) (Int.le_trans (dH _ _) (Int.le_trans (dH _ _) (Int.le_trans (dH _ _) (Int.le_trans (dH _ _) (dH _ _))))))))
 ·exact Int.le_trans (nI _ _) (Int.le_trans (dH _ _) (Int.le_trans (dH _ _) (Int.le_trans (dH _ _) (Int.le_trans (dH _ _) (dH _ _)))))
 ·exact Int.le_trans (nI _ _) (Int.le_trans (dH _ _) (dH _ _))
theorem aK9 {a b c d x y:Int} (h1:a<=x)(h2:x<=b)(h3:c<=y)(h4:y<=d):gp a b c d*gp a b c d<=(x - y)*(x - y):=by
 refine aXw (aCg _ _ _ _) ?_
 unfold gp mx
 (repeat' split)<;>omega
theorem aLa (c q:PN):0<=ne3 c q/\ne3 c q<=fa3 c q:=by
 refine⟨aXx _ _ _ _,Int.le_trans ?_ (aK8 c q).1⟩
 have h1:=aK9 (kQ c.1.1 c.2.1.1 c.2.2.1).1 (kR c.1.1 c.2.1.1 c.2.2.1).1 (kQ q.1.1 q.2.1.1 q.2.2.1).1 (kR q.1.1 q.2.1.1 q.2.2.1).1
 have h2:=aK9 (kQ c.1.2.1 c.2.1.2.1 c.2.2.2.1).1 (kR c.1.2.1 c.2.1.2.1 c.2.2.2.1).1 (kQ q.1.2.1 q.2.1.2.1 q.2.2.2.1).1 (kR q.1.2.1 q.2.1.2.1 q.2.2.2.1).1
 have h3:=aK9 (kQ c.1.2.2 c.2.1.2.2 c.2.2.2.2).1 (kR c.1.2.2 c.2.1.2.2 c.2.2.2.2).1 (kQ q.1.2.2 q.2.1.2.2 q.2.2.2.2).1 (kR q.1.2.2 q.2.1.2.2 q.2.2.2.2).1
 unfold ne3 nr ds dt sb
 simp only [qA,qB]
 omega
theorem aR6 {x y:PN} (h:bdP 100000 x)(hy:y∈nH x):mI y=mI x:=by
 unfold nH q1 q2 q3 q4 at hy
 rw [lV h.1 h.2.1,lV h.2.2 h.1,lV h.2.1 h.2.2,fQ h.1,fQ h.2.1,fQ h.2.2] at hy
 simp only [List.mem_cons,List.mem_nil_iff,or_false] at hy
 unfold mI cr sb
 rcases hy with rfl | rfl | rfl | rfl<;>simp only [dE]<;>refine⟨?_,?_,?_⟩<;>grind
theorem aNi:∀(d:Nat) {m:Int} {p x:PN},bdP m p->m*2 ^ d<=100000->0<=m->x∈bI d p->mI x=mI p
 | 0,m,p,x,h,_,_,hx=>by simp [bI] at hx;subst hx;rfl
 | d+1,m,p,x,h,hm,h0,hx=>by
  rw [eR,List.mem_flatMap] at hx
  obtain⟨y,hy,hx⟩:=hx
  have hp:(0:Int) < 2 ^ d:=Int.pow_pos (by omega)
  have hle:m*2 ^ d<=m*2 ^ (d+1):=Int.mul_le_mul_of_nonneg_left (by rw [Int.pow_succ];omega) h0
  have hb:=rW d h (by omega) h0 hy
  rw [aR6 (hb.mono (by omega)) hx,aNi d h (by omega) h0 hy]
theorem aLb {p c:PN} {d:Int} (hp:bdP 64 p)(hd:0<=d/\d<=3)(hc:c∈bI d.toNat p):mI c=mI p:=by
 have:d.toNat=0\/d.toNat=1\/d.toNat=2\/d.toNat=3:=by omega
 rcases this with h | h | h | h<;>rw [h] at hc<;>exact aNi (m:=64) _ hp (by decide) (by decide) hc
theorem aR7 (c:PN)(x:P3) {R:Int} (h1:ds c.1 x<=R)(h2:ds c.2.1 x<=R)(h3:ds c.2.2 x<=R):dt (mI c) (mI c)<=(4*R)*(4*R):=by
 have lag:∀u v:P3,dt (cr u v) (cr u v)<=dt u u*dt v v:=by
  intro u v
  have h:=dP (dt u v)
  have e:dt (cr u v) (cr u v)+dt u v*dt u v=dt u u*dt v v:=by
   unfold dt cr;grind
  omega
 have par:∀a b:P3,dt (sb a b) (sb a b)<=2*ds a x+2*ds b x:=by
  intro a b
  have k:∀s t y:Int,(s - t)*(s - t)<=2*((s - y)*(s - y))+2*((t - y)*(t - y)):=by
   intro s t y
   have:=dP (s+t - 2*y)
   grind
  have k1:=k a.1 b.1 x.1;have k2:=k a.2.1 b.2.1 x.2.1;have k3:=k a.2.2 b.2.2 x.2.2
  unfold ds dt sb;simp only;omega
 have p1:=par c.2.1 c.1;have p2:=par c.2.2 c.1
 refine Int.le_trans (lag _ _) (Int.mul_le_mul (by omega) (by omega) (mV _) ?_)
 have:=mV (sb c.1 x)
 unfold ds at *;omega
theorem bC0 (d:Int):NN (sc d)=sc d*sc d*1099511627776:=rfl
theorem aVo {p c:PN} {d:Int} (hp:vp p=0)(hd:0<=d/\d<=3)(hc:c∈bI d.toNat p)(x:P3) {R:Int} (h1:ds c.1 x<=R)(h2:ds c.2.1 x<=R)(h3:ds c.2.2 x<=R):(qC (sc d) R).1<=fP p d:=by
 obtain⟨r,hr,r1,r2,hu,_⟩:=vS hp hd
 have hR:0<=R:=Int.le_trans (mV _) h1
 have hn:=aR7 c x h1 h2 h3
 rw [aLb (mW hp).1 hd hc] at hn
 have h4:r<=4*R:=by
  rcases Int.lt_or_le (4*R) r with h | h
  ·have:=Int.mul_le_mul (show 4*R+1<=r by omega) (show 4*R+1<=r by omega) (by omega) hr.1
   have e:(4*R+1)*(4*R+1)=(4*R)*(4*R)+8*R+1:=by grind
   have:=hr.2.1;omega
  ·exact h
 unfold qC
 rw [if_neg (by omega)]
 obtain⟨k,hk,_,k0,k1,k2,k3,k4,k5⟩:=iM (aCj (zQ d)) (show 1<=R by omega)
 unfold inv
 rw [hk]
 simp only
 rcases Int.lt_or_le (fP p d) k with h | h
 ·exfalso
  obtain⟨u1,_⟩:=qV (t:=tB d) (b:=128*r) (by omega)
  have v0:=hu.1;have v1:=hu.2.1
  generalize fP p d=m at *
  have e1:cq (tB d) (128*r)*(128*r)<=m*m*(128*r):=Int.mul_le_mul_of_nonneg_right v1 (by omega)
  have e2:m*m<=k*k:=Int.mul_le_mul (by omega) (by omega) v0 k0
  have e3:m*m*(128*r)<=k*k*(512*R):=Int.mul_le_mul e2 (by omega) (by omega) k2
  have e4:k*k*(512*R)=512*(k*k*R):=by grind
  rw [bC0] at k5
  have:=qU d
  unfold tB at *
  omega
 ·exact h
def aEb (lo hi:PN->Int):List PN->Int×Int->Int×Int
 | [],v=>v
 | c::l,v=>aEb lo hi l (v.1+lo c,v.2+hi c)
theorem aGh {lo hi:Int} {v:Int×Int} {n:Nat} (h:okv v (n+1))(h1:0<=lo/\lo<=hi/\hi<=536870913):okv (v.1+lo,v.2+hi) n:=by
 unfold okv at *;simp only;omega
theorem aAv {lo hi:PN->Int}:∀{l:List PN} {v:Int×Int},(∀c∈l,0<=lo c/\lo c<=hi c/\hi c<=536870913)->okv v l.length->okv (aEb lo hi l v) 0
 | [],v,_,h=>h
 | c::l,v,hl,h=>aAv (l:=l) (fun c hc=>hl c (List.mem_cons_of_mem _ hc)) (aGh h (hl c List.mem_cons_self))
theorem aCk {lo hi:PN->Int} {S:Int×Int->PN->Int×Int}:∀{l:List PN} {v:Int×Int},(∀c∈l,0<=lo c/\lo c<=hi c/\hi c<=536870913) ->
 (∀c∈l,∀v:Int×Int,S v c=(W (v.1+lo c),W (v.2+hi c)))->okv v l.length->l.foldl S v=aEb lo hi l v
 | [],v,_,_,_=>rfl
 | c::l,v,hl,hS,h=>by
  have h1:=aGh h (hl c List.mem_cons_self)
  have h2:=h1
  unfold okv at h2;simp only at h2
  rw [List.foldl_cons,hS c List.mem_cons_self v,aH (by omega) (by omega),aH (by omega) (by omega)]
  exact aCk (l:=l) (fun c hc=>hl c (List.mem_cons_of_mem _ hc)) (fun c hc=>hS c (List.mem_cons_of_mem _ hc)) h1
theorem aCl {lo hi:PN->Int} {S:Zt->Zt⊕(Int×Int)} {G:Int×Int->Int×Int} {L:List PN} (hl:∀c∈L,0<=lo c/\lo c<=hi c/\hi c<=536870913)
 (hS:∀(i:Nat) (c:PN),L[i]? = some c->∀v1 v2:Int,S (v1,v2,(i:Int))=.inl (W (v1+lo c),W (v2+hi c),((i+1:Nat):Int)))
 (hE:∀v1 v2:Int,S (v1,v2,(L.length:Int))=.inr (G (v1,v2))) :
 ∀(l:List PN) (i n:Nat) (v:Int×Int),L.drop i=l->i<=L.length->l.length < n->okv v l.length->aA S n (v.1,v.2,(i:Int))=G (aEb lo hi l v)
 | [],i,n,v,hd,hi',hn,h=>by
  have:i=L.length:=by have:=List.drop_eq_nil_iff.1 hd;omega
  obtain⟨n,rfl⟩:∃m,n=m+1:=⟨n - 1,by simp only [List.length_nil] at hn;omega⟩
  subst this
  rw [aC (hE _ _)];rfl
 | c::l,i,n,v,hd,hi',hn,h=>by
  have hc:L[i]? = some c:=by
   have:(L.drop i)[0]? = some c:=by rw [hd];rfl
   simpa using this
  obtain⟨hlt,hce⟩:=List.getElem?_eq_some_iff.1 hc
  obtain⟨n,rfl⟩:∃m,n=m+1:=⟨n - 1,by omega⟩
  have h1:=aGh h (hl c (hce▸List.getElem_mem hlt))
  have h2:=h1
  unfold okv at h2;simp only at h2
  rw [aB (hS i c hc v.1 v.2),aH (by omega) (by omega),aH (by omega) (by omega)]
  exact aCl hl hS hE l (i+1) n _ (by rw [←List.drop_drop,hd];rfl) (by omega) (by simp only [List.length_cons] at hn;omega) h1
noncomputable def bLo (d:Int)(q c:PN):Int:=(qC (sc d) (fa3 c q)).1
noncomputable def bHi (R d:Int)(q c:PN):Int:=if 0 < ne3 c q then(if(qC (sc d) (ne3 c q)).2 < R then(qC (sc d) (ne3 c q)).2 else R) else R
theorem aZv {p q:PN} {d:Int} (hp:vp p=0)(hd:0<=d/\d<=3):∀c∈bI d.toNat p,0<=bLo d q c/\bLo d q c<=bHi (fP p d) d q c/\bHi (fP p d) d q c<=536870913:=by
 intro c hc
 obtain⟨_,_,_,_,_,hub⟩:=vS hp hd
 have ho:=aK6 (zQ d)
 obtain⟨g1,g2,g3⟩:=aK8 c q
 have hl:=aVo hp hd hc q.1 g1 g2 g3
 have hn:=aLa c q
 have h0:=ho.lo (fa3 c q)
 unfold bLo bHi
 split
 ·rename_i hz
  have h1:=ho.mono (ne3 c q) (fa3 c q) (by omega) hn.2;have h2:=ho.le (ne3 c q)
  split<;>omega
 ·omega
noncomputable def aGi (p q:PN)(d:Int):Int×Int:=avg (aEb (bLo d q) (bHi (fP p d) d q) (bI d.toNat p) (0,0)) (sc d*sc d)
section
variable {p q : PN} {d : Int}
theorem aXy (hp:vp p=0)(hq:bdP 5000 q)(hd:0<=d/\d<=3):F70 p q d=aGi p q d:=by
 have hk:=aR3 (p:=p) hd
 have hb:=aZv (q:=q) hp hd
 unfold F70 aGi
 rw [aCk hb (fun c hc v=>?_) hk]
 ·show aEa _ _ _=_
  rw [bCl hd,bCt (qU d) (aAv hb hk)]
 ·have hcb:=(aAu (mW hp).1 hd hc).mono (show(512:Int)<=5000 by omega)
  obtain⟨v1,v2⟩:=v
  have h1:=aR5 hcb hq;have h2:=aLa c q
  simp only [zP]
  rw [aZp hd,bCy hcb hq,bCw hcb hq,aXu (zQ d) (by omega),aXu (zQ d) (by omega)]
  unfold bLo bHi
  by_cases h:0 < ne3 c q
  ·rw [if_pos h,bG (show ne3 c q > 0 from h),cond_true]
  ·rw [if_neg h,cC (show ¬ne3 c q > 0 from h),cond_false]
theorem bC1 (hp:vp p=0)(hq:bdP 5000 q)(hd:0<=d/\d<=3):F91 p d q=aGi p q d:=by
 have hk:=aR3 (p:=p) hd
 have hb:=aZv (q:=q) hp hd
 have hL:=bE1 (mW hp).1 hd
 have hl:=aGg hd p
 unfold F91 aGi
 rw [show((0,0,0):Zt)=(((0,0):Int×Int).1,((0,0):Int×Int).2,((0:Nat):Int)) from rfl,
  aCl hb (S:=aNf p d q) (G:=fun v=>(aK2 v.1 (sc d*sc d),aK3 v.2 (sc d*sc d))) (fun i c hi v1 v2=>?_) (fun v1 v2=>?_) (bI d.toNat p) 0 _ (0,0) rfl (Nat.zero_le _) (by rw [hL];omega) hk]
 ·have hu:=aAv hb hk
  unfold okv at hu
  rw [bCs (qU d) (by omega),bFa (qU d) (by omega)];rfl
 ·obtain⟨hlt,hc⟩:=List.getElem?_eq_some_iff.1 hi
  have hm:c∈bI d.toNat p:=hc▸List.getElem_mem hlt
  have hcb:=(aAu (mW hp).1 hd hm).mono (show(512:Int)<=5000 by omega)
  have hg:(bI d.toNat p).getD i dF=c:=by rw [cV,hi];rfl
  have h1:=aR5 hcb hq;have h2:=aLa c q
  simp only [aNf]
  rw [hL,bG (show((i:Nat):Int) < ((bI d.toNat p).length:Nat) by omega),cond_true,eX,hg,bCk hd,bCz hcb hq,bCx hcb hq,aXv (zQ d) (by omega),aXv (zQ d) (by omega),aZu hp hd]
  unfold bLo bHi
  by_cases h:0 < ne3 c q
  ·rw [if_pos h,bG (show ne3 c q > 0 from h),cond_true];rfl
  ·rw [if_neg h,cC (show ¬ne3 c q > 0 from h),cond_false];rfl
 ·simp only [aNf]
  rw [hL,cC (Int.lt_irrefl _),cond_false,hl]
end
def tmP (s:Int)(q:PN):PN:=(tm s q.1,tm s q.2.1,tm s q.2.2)
theorem aLc {q:PN} {s:Int} (hs:1<=s/\s<=8)(hq:bdP 64 q):bdP 5000 (tmP s q) :=
 ⟨(aNh hs (by omega) hq.1).mono (by omega),(aNh hs (by omega) hq.2.1).mono (by omega),(aNh hs (by omega) hq.2.2).mono (by omega)⟩
theorem pF (p q:PN)(d:Int):oQ p q d=F53 p q d:=by
 unfold oQ F53
 rw [aAt,aPp]
 by_cases h:pk p q d=0
 ·obtain⟨h1,h2,h3⟩:=aR0 h
  have hs:=aXs d
  have hq:=(mW h2).1
  have hq':=hq.mono (show(64:Int)<=4096 by omega)
  have hd:0<=d/\d<=3:=by omega
  rw [aZp hd,bCk hd,aPr hs hq'.1,aPr hs hq'.2.1,aPr hs hq'.2.2,aZq hs hq'.1,aZq hs hq'.2.1,aZq hs hq'.2.2]
  have e1:=aXy h1 (aLc hs hq) hd
  have e2:=bC1 h1 (aLc hs hq) hd
  unfold tmP at e1 e2
  rw [e1,e2]
 ·rw [bne_iff_ne.2 h,cond_true,cond_true]
end Go.Proofs.YtlckcjfbjnjfhaaGreat
namespace Go.Proofs.YtlckcjfbjnjfhaaGreat
open Go.Proofs Go.Aw Go.RowKit
set_option maxRecDepth 100000
theorem aXz {a:Int×Int} (h:((kU a:Int) != 0)=false):-1099511627776<=a.1/\a.1<=a.2/\a.2<=1099511627776:=by
 have h:kU a=0:=by simpa using h
 unfold kU at h
 cases h0:wU a with
 | false=>rw [h0] at h;cases h
 | true =>
  unfold wU at h0
  by_cases h1:a.1≥-1099511627776
  ·by_cases h2:a.1<=a.2
   ·rw [bG h1,cond_true,bG h2,cond_true] at h0
    exact⟨h1,h2,dL h0⟩
   ·rw [bG h1,cond_true,cC h2,cond_false] at h0;cases h0
  ·rw [cC h1,cond_false] at h0;cases h0
def aIu (a0:Int):Bool :=
 (bif (decide ((a0:Int)≥(-1099511627776))) then
  (decide ((a0:Int)<=1099511627776))
 else
  false)
theorem bFb (a0:Int):Con Tryz.prog 113 [(iv a0)] [] (.v (.bool (aIu a0))) []:=by
 refine aU Tryz.func113 (by kernel_rfl) fun cx hcx=>?_
 cases h0:(decide ((a0:Int)≥(-1099511627776))) with
 | true =>
  have q0:=dL h0
  have e:=Eq.refl (aIu a0);conv at e=>rhs;simp only [aIu,h0,aW]
  rw [e]
  exact rt [.d h0] [] [] hcx (by kernel_rfl)
 | false =>
  have q0:=eH h0
  have e:=Eq.refl (aIu a0);conv at e=>rhs;simp only [aIu,h0,aW]
  rw [e]
  exact rt [.d h0] [] [] hcx (by kernel_rfl)
def xT (a0:Int×Int)(a1:Int):(Int×Int)×Int :=
 (bif (((kU a0):Int) != 0) then
  ((0,0),(kU a0))
 else
  (bif (!(aIu a1)) then
   ((0,0),1)
  else
   ((jQ (if((gA a0.2 a1):Int) < (gA a0.1 a1) then(gA a0.2 a1) else(gA a0.1 a1)) (if((gA a0.1 a1):Int) < (gA a0.2 a1) then(gA a0.2 a1) else(gA a0.1 a1))).1,(jQ (if((gA a0.2 a1):Int) < (gA a0.1 a1) then(gA a0.2 a1) else(gA a0.1 a1)) (if((gA a0.1 a1):Int) < (gA a0.2 a1) then(gA a0.2 a1) else(gA a0.1 a1))).2)))
theorem C77 (a0:Int×Int)(a1:Int):Con Tryz.prog 77 [(.a [(iv a0.1),(iv a0.2)]),(iv a1)] [] (.t [(.a (k2 (xT a0 a1).1)),(iv (xT a0 a1).2)]) []:=by
 refine aU Tryz.func77 (by kernel_rfl) fun cx hcx=>?_
 let t0:List (St Tryz.prog):=[.c [2] (aXo a0)]
 cases h0:(((kU a0):Int) != 0) with
 | true =>
  have q0:=bne_iff_ne.1 h0
  have e:=Eq.refl (xT a0 a1);conv at e=>rhs;simp only [xT,h0,aW]
  rw [e]
  exact rt (t0++[.d h0]) [] [] hcx (by kernel_rfl)
 | false =>
  have q0:=bne_eq_false_iff_eq.1 h0
  let t1:List (St Tryz.prog):=(t0++[.d h0,.c [] (bFb a1)])
  cases h1:(!(aIu a1)) with
  | true =>
   have e:=Eq.refl (xT a0 a1);conv at e=>rhs;simp only [xT,h0,h1,aW]
   rw [e]
   exact rt (t1++[.d h1]) [] [] hcx (by kernel_rfl)
  | false =>
   have e:=Eq.refl (xT a0 a1);conv at e=>rhs;simp only [xT,h0,h1,aW]
   rw [e]
   exact rt (t1++[.d h1,.c [] (bB9 a0.1 a1  (by have:=aXz h0;omega)),.c [] (bB9 a0.2 a1  (by have:=aXz h0;omega)),.c [] (aRi (if((gA a0.2 a1):Int) < (gA a0.1 a1) then(gA a0.2 a1) else(gA a0.1 a1)) (if((gA a0.1 a1):Int) < (gA a0.2 a1) then(gA a0.2 a1) else(gA a0.1 a1)))]) [] [] hcx (by kernel_rfl)
def pV (x n:Int):Int:=if 1099511627776 < x*n then 1099511627777 else if x*n < -1099511627776 then -1099511627777 else x*n
theorem aZw (x n:Int):(x*n=(if x < 0 then 0 - x else x)*(if n < 0 then 0 - n else n)/\((x < 0)=(n < 0)))\/(x*n=-((if x < 0 then 0 - x else x)*(if n < 0 then 0 - n else n))/\¬((x < 0)=(n < 0))):=by
 by_cases h1:x < 0
 ·by_cases h2:n < 0
  ·left;rw [if_pos h1,if_pos h2];exact⟨by grind,by simp [h1,h2]⟩
  ·right;rw [if_pos h1,if_neg h2];exact⟨by grind,by simp [h1,h2]⟩
 ·by_cases h2:n < 0
  ·right;rw [if_neg h1,if_pos h2];exact⟨by grind,by simp [h1,h2]⟩
  ·left;rw [if_neg h1,if_neg h2];exact⟨by grind,by simp [h1,h2]⟩
theorem aR8 {x n:Int} (hx:-1099511627776<=x/\x<=1099511627776)(hn:-1099511627776<=n/\n<=1099511627776):gA x n=pV x n:=by
 have hm:=aZw x n
 have ha:∀z:Int,(-1099511627776<=z/\z<=1099511627776)->(if(z:Int) < (W (0 - z)) then(W (0 - z)) else z)=if z < 0 then 0 - z else z:=by
  intro z hz
  rw [aH (n:=0 - z) (by omega) (by omega)]
  (repeat' split)<;>omega
 unfold gA pV
 rw [ha x hx,ha n hn]
 by_cases hx0:x=0
 ·subst hx0;simp [aH]
 by_cases hn0:n=0
 ·subst hn0;simp [aH]
 rw [bne_iff_ne.2 hx0,bne_iff_ne.2 hn0,cond_true,cond_true]
 have a1:1<=(if x < 0 then 0 - x else x)/\(if x < 0 then 0 - x else x)<=1099511627776:=by split<;>omega
 have a2:1<=(if n < 0 then 0 - n else n)/\(if n < 0 then 0 - n else n)<=1099511627776:=by split<;>omega
 have e:(!(decide (x < 0) == decide (n < 0)))=decide (x*n=-((if x < 0 then 0 - x else x)*(if n < 0 then 0 - n else n))/\¬((x < 0)=(n < 0))):=by
  by_cases h1:x < 0<;>by_cases h2:n < 0<;>simp [h1,h2] at hm ⊢<;>omega
 rw [e]
 generalize (if x < 0 then 0 - x else x)=ax at *
 generalize (if n < 0 then 0 - n else n)=an at *
 rw [Int.tdiv_eq_ediv_of_nonneg (by omega)]
 obtain⟨d1,d2,d3⟩:=pE (N:=1099511627776) (n:=ax) (by omega) (by omega)
 have d4:=Int.mul_ediv_add_emod 1099511627776 ax
 have d5:=Int.emod_lt_of_pos 1099511627776 (show 0 < ax by omega)
 rw [aH (n:=1099511627776 / ax) (by omega) (by omega)]
 have hbig:an > 1099511627776 / ax↔1099511627776 < ax*an:=by
  constructor
  ·intro h
   have:=Int.mul_le_mul_of_nonneg_left (show 1099511627776 / ax+1<=an by omega) (show 0<=ax by omega)
   rw [Int.mul_add,Int.mul_one] at this;omega
  ·intro h
   rcases Int.lt_or_le (1099511627776 / ax) an with h' | h'
   ·exact h'
   ·have:=Int.mul_le_mul_of_nonneg_left h' (show 0<=ax by omega)
    rw [Int.mul_comm] at d3;omega
 by_cases hb:an > 1099511627776 / ax
 ·rw [bG hb,cond_true]
  have:=hbig.1 hb
  rcases hm with⟨qq1,qq2⟩ | ⟨qq1,qq2⟩
  ·rw [cC (fun h=>h.2 qq2),cond_false,qq1,if_pos (by omega)]
  ·rw [bG ⟨qq1,qq2⟩,cond_true,qq1,if_neg (by omega),if_pos (by omega)]
 ·rw [cC hb,cond_false]
  have h1:ax*an<=1099511627776:=by
   rcases Int.lt_or_le 1099511627776 (ax*an) with h | h
   ·exact absurd (hbig.2 h) hb
   ·exact h
  have h2:0<=ax*an:=Int.mul_nonneg (by omega) (by omega)
  rcases hm with⟨qq1,qq2⟩ | ⟨qq1,qq2⟩<;>rw [qq1,if_neg (by omega),if_neg (by omega)]<;>exact aH (by omega) (by omega)
theorem aR9 {x y n:Int} (h:x<=y)(hn:0<=n):pV x n<=pV y n:=by
 have:=Int.mul_le_mul_of_nonneg_right h hn
 unfold pV;(repeat' split)<;>omega
theorem aSa {x y n:Int} (h:x<=y)(hn:n<=0):pV y n<=pV x n:=by
 have:=Int.mul_le_mul_of_nonpos_right h hn
 unfold pV;(repeat' split)<;>omega
def scl (a:Int×Int)(n:Int):Int×Int:=if n < 0 then(pV a.2 n,pV a.1 n) else(pV a.1 n,pV a.2 n)
def vs (a:Int×Int):Prop:=-1099511627776<=a.1/\a.1<=a.2/\a.2<=1099511627776
theorem aNj {a:Int×Int} {n:Int} (ha:vs a)(hn:-1099511627776<=n/\n<=1099511627776):xT a n=jQ (scl a n).1 (scl a n).2:=by
 obtain⟨h1,h2,h3⟩:=ha
 unfold xT kU aIu
 rw [aIt (a:=a.1) (b:=a.2) h1 h2 h3,bG (show n≥-1099511627776 from hn.1),bG hn.2,aR8 (x:=a.1) (by omega) hn,aR8 (x:=a.2) (by omega) hn]
 show((jQ _ _).1,(jQ _ _).2)=_
 unfold scl
 by_cases h:n < 0
 ·have:=aSa h2 (show n<=0 by omega)
  rw [if_pos h]
  simp only
  rw [show(if(pV a.2 n:Int) < pV a.1 n then pV a.2 n else pV a.1 n)=pV a.2 n by split<;>omega,show(if(pV a.1 n:Int) < pV a.2 n then pV a.2 n else pV a.1 n)=pV a.1 n by split<;>omega]
 ·have:=aR9 h2 (show 0<=n by omega)
  rw [if_neg h]
  simp only
  rw [show(if(pV a.2 n:Int) < pV a.1 n then pV a.2 n else pV a.1 n)=pV a.1 n by split<;>omega,show(if(pV a.1 n:Int) < pV a.2 n then pV a.2 n else pV a.1 n)=pV a.2 n by split<;>omega]
theorem aE0 (a b:Int):(jQ a b=((a,b),0)/\vs (a,b))\/jQ a b=((0,0),4):=by
 by_cases h:vs (a,b)
 ·exact Or.inl ⟨aCi h.1 h.2.1 h.2.2,h⟩
 ·right
  unfold jQ
  have:wU (a,b)=false:=by
   unfold wU
   by_cases h1:(a,b).1≥-1099511627776
   ·by_cases h2:(a,b).1<=(a,b).2
    ·rw [bG h1,bG h2,cond_true,cond_true];exact cC (fun h3=>h ⟨h1,h2,h3⟩)
    ·rw [bG h1,cC h2];rfl
   ·rw [cC h1];rfl
  rw [this];rfl
def ht (p:PN)(x:P3):Int:=dt (sb p.1 x) (cr (sb p.2.1 x) (sb p.2.2 x))
def tBC (p:PN):PN:=(p.1,p.2.2,p.2.1)
def tAC (p:PN):PN:=(p.2.2,p.2.1,p.1)
def tAB (p:PN):PN:=(p.2.1,p.1,p.2.2)
theorem bZ (p q:P3):gJ p q=gJ q p:=by
 simp only [gJ,Int.add_comm]
def qD (g:PN->Int)(d:Nat)(p:PN):Int:=((bI d p).map g).sum
theorem jR (g:PN->Int)(d:Nat)(p:PN):qD g (d+1) p=qD g d (q1 p)+(qD g d (q2 p)+(qD g d (q3 p)+qD g d (q4 p))):=by
 unfold qD
 rw [show bI (d+1) p=bI d (q1 p)++(bI d (q2 p)++(bI d (q3 p)++bI d (q4 p))) from rfl]
 simp only [List.map_append,List.sum_append]
theorem aLd {g:PN->Int} (h1:∀p,g (tBC p)=g p)(h2:∀p,g (tAC p)=g p)(h3:∀p,g (tAB p)=g p) :
 ∀(d:Nat) (p:PN),qD g d (tBC p)=qD g d p/\qD g d (tAC p)=qD g d p/\qD g d (tAB p)=qD g d p
 | 0,p=>by
  have e:∀q,qD g 0 q=g q:=fun q=>by simp [qD,bI]
  rw [e,e,e,e];exact⟨h1 p,h2 p,h3 p⟩
 | d+1,p=>by
  have ih:=aLd h1 h2 h3 d
  refine⟨?_,?_,?_⟩
  ·rw [jR,jR]
   have e1:q1 (tBC p)=tBC (q1 p):=by unfold q1 tBC;simp only;rw [bZ p.1 p.2.2,bZ p.2.1 p.1]
   have e2:q2 (tBC p)=tBC (q3 p):=by unfold q2 q3 tBC;simp only;rw [bZ p.1 p.2.2,bZ p.2.2 p.2.1]
   have e3:q3 (tBC p)=tBC (q2 p):=by unfold q2 q3 tBC;simp only;rw [bZ p.2.1 p.1,bZ p.2.2 p.2.1]
   have e4:q4 (tBC p)=tAC (q4 p):=by unfold q4 tBC tAC;simp only;rw [bZ p.1 p.2.2,bZ p.2.2 p.2.1,bZ p.2.1 p.1]
   rw [e1,e2,e3,e4,(ih (q1 p)).1,(ih (q2 p)).1,(ih (q3 p)).1,(ih (q4 p)).2.1];omega
  ·rw [jR,jR]
   have e1:q1 (tAC p)=tAC (q3 p):=by unfold q1 q3 tAC;simp only;rw [bZ p.2.2 p.2.1,bZ p.1 p.2.2]
   have e2:q2 (tAC p)=tAC (q2 p):=by unfold q2 tAC;simp only;rw [bZ p.2.2 p.2.1,bZ p.2.1 p.1]
   have e3:q3 (tAC p)=tAC (q1 p):=by unfold q1 q3 tAC;simp only;rw [bZ p.1 p.2.2,bZ p.2.1 p.1]
   have e4:q4 (tAC p)=tAB (q4 p):=by unfold q4 tAC tAB;simp only;rw [bZ p.2.2 p.2.1,bZ p.2.1 p.1,bZ p.1 p.2.2]
   rw [e1,e2,e3,e4,(ih (q1 p)).2.1,(ih (q2 p)).2.1,(ih (q3 p)).2.1,(ih (q4 p)).2.2];omega
  ·rw [jR,jR]
   have e1:q1 (tAB p)=tAB (q2 p):=by unfold q1 q2 tAB;simp only;rw [bZ p.2.1 p.1,bZ p.2.2 p.2.1]
   have e2:q2 (tAB p)=tAB (q1 p):=by unfold q1 q2 tAB;simp only;rw [bZ p.2.1 p.1,bZ p.1 p.2.2]
   have e3:q3 (tAB p)=tAB (q3 p):=by unfold q3 tAB;simp only;rw [bZ p.2.2 p.2.1,bZ p.1 p.2.2]
   have e4:q4 (tAB p)=tBC (q4 p):=by unfold q4 tAB tBC;simp only;rw [bZ p.2.1 p.1,bZ p.1 p.2.2,bZ p.2.2 p.2.1]
   rw [e1,e2,e3,e4,(ih (q1 p)).2.2,(ih (q2 p)).2.2,(ih (q3 p)).2.2,(ih (q4 p)).1];omega
theorem aZx (c:PN)(x:P3):fa (tBC c) x=fa c x/\fa (tAC c) x=fa c x/\fa (tAB c) x=fa c x:=by
 unfold fa tBC tAC tAB
 simp only
 generalize ds c.1 x=a;generalize ds c.2.1 x=b;generalize ds c.2.2 x=e
 unfold mx
 refine⟨?_,?_,?_⟩<;>(repeat' split)<;>omega
theorem sq2 (s t:Int):(s+t)*(s+t)<=2*(s*s)+2*(t*t):=by
 have:=dP (s - t);grind
def ad (p q:P3):P3:=(p.1+q.1,p.2.1+q.2.1,p.2.2+q.2.2)
theorem aSb (a b x:P3):ds (ad a b) (tm 2 x)<=2*ds a x+2*ds b x:=by
 have h1:=sq2 (a.1 - x.1) (b.1 - x.1);have h2:=sq2 (a.2.1 - x.2.1) (b.2.1 - x.2.1);have h3:=sq2 (a.2.2 - x.2.2) (b.2.2 - x.2.2)
 have e1:a.1+b.1 - 2*x.1=a.1 - x.1+(b.1 - x.1):=by omega
 have e2:a.2.1+b.2.1 - 2*x.2.1=a.2.1 - x.2.1+(b.2.1 - x.2.1):=by omega
 have e3:a.2.2+b.2.2 - 2*x.2.2=a.2.2 - x.2.2+(b.2.2 - x.2.2):=by omega
 unfold ds dt sb ad tm;simp only;rw [e1,e2,e3];omega
theorem aGj {c y:PN} (h:bdP 100000 c)(hy:y∈nH c):∃a1 b1 a2 b2 a3 b3:P3,(a1=c.1\/a1=c.2.1\/a1=c.2.2)/\(b1=c.1\/b1=c.2.1\/b1=c.2.2)/\(a2=c.1\/a2=c.2.1\/a2=c.2.2)/\(b2=c.1\/b2=c.2.1\/b2=c.2.2)/\(a3=c.1\/a3=c.2.1\/a3=c.2.2)/\(b3=c.1\/b3=c.2.1\/b3=c.2.2)/\y=(ad a1 b1,ad a2 b2,ad a3 b3):=by
 unfold nH q1 q2 q3 q4 at hy
 rw [lV h.1 h.2.1,lV h.2.2 h.1,lV h.2.1 h.2.2,fQ h.1,fQ h.2.1,fQ h.2.2] at hy
 have e:∀p:P3,(2*p.1,2*p.2.1,2*p.2.2)=ad p p:=fun p=>by unfold ad;simp only [dE];omega
 rw [e,e,e] at hy
 simp only [List.mem_cons,List.mem_nil_iff,or_false] at hy
 rcases hy with rfl | rfl | rfl | rfl
 ·exact⟨c.1,c.1,c.1,c.2.1,c.2.2,c.1,by simp,by simp,by simp,by simp,by simp,by simp,rfl⟩
 ·exact⟨c.1,c.2.1,c.2.1,c.2.1,c.2.1,c.2.2,by simp,by simp,by simp,by simp,by simp,by simp,rfl⟩
 ·exact⟨c.2.2,c.1,c.2.1,c.2.2,c.2.2,c.2.2,by simp,by simp,by simp,by simp,by simp,by simp,rfl⟩
 ·exact⟨c.1,c.2.1,c.2.1,c.2.2,c.2.2,c.1,by simp,by simp,by simp,by simp,by simp,by simp,rfl⟩
theorem mX (c:PN)(x a:P3)(h:a=c.1\/a=c.2.1\/a=c.2.2):ds a x<=fa c x:=by
 rcases h with rfl | rfl | rfl
 ·exact Int.le_trans (nI _ _) (Int.le_trans (dH _ _) (dH _ _))
 ·exact Int.le_trans (nI _ _) (dH _ _)
 ·exact nI _ _
theorem aVp {c y:PN} {x:P3} (h:bdP 100000 c)(hy:y∈nH c):fa y (tm 2 x)<=4*fa c x:=by
 obtain⟨a1,b1,a2,b2,a3,b3,h1,k1,h2,k2,h3,k3,rfl⟩:=aGj h hy
 have g1:=mX c x a1 h1;have g2:=mX c x b1 k1;have g3:=mX c x a2 h2;have g4:=mX c x b2 k2;have g5:=mX c x a3 h3;have g6:=mX c x b3 k3
 have f1:=aSb a1 b1 x;have f2:=aSb a2 b2 x;have f3:=aSb a3 b3 x
 have g0:0<=fa c x:=Int.le_trans (mV _) (mX c x c.1 (Or.inl rfl))
 exact kK (kK (kK (by omega) (by simp only;omega)) (by simp only;omega)) (by simp only;omega)
theorem in3 {c:PN} {a:P3} (h:a=c.1\/a=c.2.1\/a=c.2.2):(qA c).1<=a.1/\a.1<=(qB c).1/\(qA c).2.1<=a.2.1/\a.2.1<=(qB c).2.1/\(qA c).2.2<=a.2.2/\a.2.2<=(qB c).2.2:=by
 have l1:=kQ c.1.1 c.2.1.1 c.2.2.1;have l2:=kQ c.1.2.1 c.2.1.2.1 c.2.2.2.1;have l3:=kQ c.1.2.2 c.2.1.2.2 c.2.2.2.2
 have m1:=kR c.1.1 c.2.1.1 c.2.2.1;have m2:=kR c.1.2.1 c.2.1.2.1 c.2.2.2.1;have m3:=kR c.1.2.2 c.2.1.2.2 c.2.2.2.2
 unfold qA qB
 rcases h with rfl | rfl | rfl
 ·exact⟨l1.1,m1.1,l2.1,m2.1,l3.1,m3.1⟩
 ·exact⟨l1.2.1,m1.2.1,l2.2.1,m2.2.1,l3.2.1,m3.2.1⟩
 ·exact⟨l1.2.2,m1.2.2,l2.2.2,m2.2.2,l3.2.2,m3.2.2⟩
theorem aLe {a b a' b' x:Int} (h1:2*a<=a')(h2:b'<=2*b):4*(gp a b x x*gp a b x x)<=gp a' b' (2*x) (2*x)*gp a' b' (2*x) (2*x):=by
 have h:2*gp a b x x<=gp a' b' (2*x) (2*x):=by
  unfold gp mx;(repeat' split)<;>omega
 have h0:=aCg a b x x
 have:=Int.mul_le_mul h h (by omega) (aCg _ _ _ _)
 have e:2*gp a b x x*(2*gp a b x x)=4*(gp a b x x*gp a b x x):=by grind
 omega
theorem aVq {c y:PN} {x:P3} (h:bdP 100000 c)(hy:y∈nH c):4*ne c x<=ne y (tm 2 x):=by
 obtain⟨a1,b1,a2,b2,a3,b3,h1,k1,h2,k2,h3,k3,rfl⟩:=aGj h hy
 have i1:=in3 h1;have i2:=in3 k1;have i3:=in3 h2;have i4:=in3 k2;have i5:=in3 h3;have i6:=in3 k3
 have key:∀u v w m:Int,m<=u->m<=v->m<=w->m<=lo3 u v w:=fun u v w m e1 e2 e3=>by rcases aF9 u v w with e | e | e<;>rw [e]<;>assumption
 have key2:∀u v w m:Int,u<=m->v<=m->w<=m->hi3 u v w<=m:=fun u v w m e1 e2 e3=>by rcases aGa u v w with e | e | e<;>rw [e]<;>assumption
 have g1:=aLe (a:=(qA c).1) (b:=(qB c).1) (x:=x.1) (key (a1.1+b1.1) (a2.1+b2.1) (a3.1+b3.1) _ (by omega) (by omega) (by omega)) (key2 (a1.1+b1.1) (a2.1+b2.1) (a3.1+b3.1) _ (by omega) (by omega) (by omega))
 have g2:=aLe (a:=(qA c).2.1) (b:=(qB c).2.1) (x:=x.2.1) (key (a1.2.1+b1.2.1) (a2.2.1+b2.2.1) (a3.2.1+b3.2.1) _ (by omega) (by omega) (by omega)) (key2 (a1.2.1+b1.2.1) (a2.2.1+b2.2.1) (a3.2.1+b3.2.1) _ (by omega) (by omega) (by omega))
 have g3:=aLe (a:=(qA c).2.2) (b:=(qB c).2.2) (x:=x.2.2) (key (a1.2.2+b1.2.2) (a2.2.2+b2.2.2) (a3.2.2+b3.2.2) _ (by omega) (by omega) (by omega)) (key2 (a1.2.2+b1.2.2) (a2.2.2+b2.2.2) (a3.2.2+b3.2.2) _ (by omega) (by omega) (by omega))
 show 4*(gp (qA c).1 (qB c).1 x.1 x.1*gp (qA c).1 (qB c).1 x.1 x.1+gp (qA c).2.1 (qB c).2.1 x.2.1 x.2.1*gp (qA c).2.1 (qB c).2.1 x.2.1 x.2.1+gp (qA c).2.2 (qB c).2.2 x.2.2 x.2.2*gp (qA c).2.2 (qB c).2.2 x.2.2 x.2.2)<=_
 refine Int.le_trans ?_ (Int.add_le_add (Int.add_le_add g1 g2) g3)
 omega
theorem aSc {N n:Int} (hN:1<=N/\N<=288230376151711744)(hn:1<=n):1<=(inv N n).2/\N<=(inv N n).2*(inv N n).2*n/\((inv N n).2 - 1)*((inv N n).2 - 1)*n < N:=by
 obtain⟨k,hk,hr,k0,k1,k2,k3,k4,k5⟩:=iM (N:=N) ⟨by omega,hN.2⟩ hn
 have h:=hr.2.2
 have hm:=Int.mul_ediv_add_emod N n
 have hm1:=Int.emod_lt_of_pos N (show 0 < n by omega)
 have h2:N < (k+1)*(k+1)*n:=by
  have:=Int.mul_le_mul_of_nonneg_right (show N / n+1<=(k+1)*(k+1) by omega) (show 0<=n by omega)
  rw [Int.add_mul,Int.one_mul,Int.mul_comm (N / n) n] at this;omega
 unfold inv
 rw [hk]
 simp only
 split
 ·rename_i he
  have h1:1<=k:=by
   rcases Int.lt_or_le k 1 with h | h
   ·have:k=0:=by omega
    subst this;simp at he;omega
   ·exact h
  refine⟨h1,by omega,?_⟩
  have e:(k - 1)*(k - 1)<=k*k - 1:=by
   have e1:(k - 1)*(k - 1)=k*k - 2*k+1:=by grind
   omega
  have e2:=Int.mul_le_mul_of_nonneg_right e (show 0<=n by omega)
  rw [show(k*k - 1)*n=k*k*n - n by rw [Int.sub_mul,Int.one_mul]] at e2;omega
 ·rename_i he
  refine⟨by omega,by omega,?_⟩
  rw [show k+1 - 1=k by omega];omega
theorem aIv {N n m:Int} (hN:1<=N/\N<=288230376151711744)(hn:1<=n)(hm:n<=m):(inv N m).2<=(inv N n).2:=by
 obtain⟨a1,a2,a3⟩:=aSc hN hn
 obtain⟨b1,b2,b3⟩:=aSc hN (show 1<=m by omega)
 rcases Int.lt_or_le (inv N n).2 (inv N m).2 with h | h
 ·exfalso
  have e:=Int.mul_le_mul (Int.mul_le_mul (show(inv N n).2<=(inv N m).2 - 1 by omega) (show(inv N n).2<=(inv N m).2 - 1 by omega) (by omega) (by omega)) hm (by omega) (Int.mul_nonneg (by omega) (by omega))
  omega
 ·exact h
theorem aVr {N n q:Int} (hq:0 < q):inv (q*N) (q*n)=inv N n:=by
 unfold inv
 rw [Int.mul_ediv_mul_of_pos _ _ hq]
 have e:∀k:Int,(k*k*(q*n)=q*N)↔(k*k*n=N):=by
  intro k
  rw [show k*k*(q*n)=q*(k*k*n) by grind]
  exact⟨fun h=>Int.eq_of_mul_eq_mul_left (by omega) h,fun h=>by rw [h]⟩
 simp only [e]
def iG:List (Int×Int)->Int×Int->Int×Int
 | [],v=>v
 | a::l,v=>iG l (v.1+a.1,v.2+a.2)
theorem aNk:∀(l:List (Int×Int)) (v:Int×Int),iG l v=(v.1+(l.map (·.1)).sum,v.2+(l.map (·.2)).sum)
 | [],v=>by simp [iG]
 | a::l,v=>by rw [iG,aNk l];simp only [List.map_cons,List.sum_cons,Int.add_assoc]
def okE (a:Int×Int):Prop:=0<=a.1/\a.1<=a.2/\a.2<=536870913
section
variable {l : List (Int × Int)}
end
theorem aGk (lo hi:PN->Int):∀(l:List PN) (v:Int×Int),aEb lo hi l v=(v.1+(l.map lo).sum,v.2+(l.map hi).sum)
 | [],v=>by simp [aEb]
 | a::l,v=>by rw [aEb,aGk lo hi l];simp only [List.map_cons,List.sum_cons,Int.add_assoc]
theorem aGl {p q:PN} {d:Int} (hp:vp p=0)(hd:0<=d/\d<=3):okE (aGi p q d):=by
 have hb:=aZv (q:=q) hp hd
 have hk:=aR3 (p:=p) hd
 have ho:=aAv hb hk
 have hs:(aEb (bLo d q) (bHi (fP p d) d q) (bI d.toNat p) (0,0)).2<=536870913*(sc d*sc d):=by
  rw [aGk,←aGg hd p]
  simp only [Int.zero_add]
  have key:∀l:List PN,(∀c∈l,bHi (fP p d) d q c<=536870913)->(l.map (bHi (fP p d) d q)).sum<=536870913*(l.length:Nat):=by
   intro l
   induction l with
   | nil=>intro _;simp
   | cons c l ih =>
    intro h
    have h1:=h c List.mem_cons_self;have h2:=ih (fun c hc=>h c (List.mem_cons_of_mem _ hc))
    simp only [List.map_cons,List.sum_cons,List.length_cons];omega
  exact key _ (fun c hc=>(hb c hc).2.2)
 unfold aGi okE avg
 unfold okv at ho
 have hn:=qU d
 generalize aEb (bLo d q) (bHi (fP p d) d q) (bI d.toNat p) (0,0)=v at *
 simp only
 rcases hn with h | h | h | h<;>rw [h] at hs ⊢<;>omega
end Go.Proofs.YtlckcjfbjnjfhaaGreat
namespace Go.Proofs.YtlckcjfbjnjfhaaGreat
open Go.Proofs Go.Aw Go.RowKit
set_option maxRecDepth 100000
def aAk (a0:Int):Int :=
 (if(a0:Int) < (W (0 - a0)) then(W (0 - a0)) else a0)
def F86 (a0:Zt)(a1:Int):Bool :=
 (bif (decide (((aAk a0.1):Int)<=a1)) then
  (bif (decide (((aAk a0.2.1):Int)<=a1)) then
   (bif (decide (((aAk a0.2.2):Int)<=a1)) then
    (bif (decide ((a0.1:Int)≥(W (0 - a1)))) then
     (bif (decide ((a0.2.1:Int)≥(W (0 - a1)))) then
      (decide ((a0.2.2:Int)≥(W (0 - a1))))
     else
      false)
    else
     false)
   else
    false)
  else
   false)
 else
  false)
def pG (a0:Zt):Int :=
 (W ((W ((W (a0.1*a0.1))+(W (a0.2.1*a0.2.1))))+(W (a0.2.2*a0.2.2))))
def pH (a0:Zt)(a1:Zt):Zt :=
 ((W (a0.1 - a1.1)),(W (a0.2.1 - a1.2.1)),(W (a0.2.2 - a1.2.2)))
theorem bC2 {v:P3} (h:bd 10000 v):pG v=dt v v:=by
 have h1:=cL h.1 h.1;have h2:=cL h.2.1 h.2.1;have h3:=cL h.2.2 h.2.2
 have n1:=dP v.1;have n2:=dP v.2.1;have n3:=dP v.2.2
 unfold pG
 rw [aH (n:=v.1*v.1) (by omega) (by omega),aH (n:=v.2.1*v.2.1) (by omega) (by omega),aH (n:=v.2.2*v.2.2) (by omega) (by omega),aZn (by omega) (by omega) (by omega)];rfl
theorem bC3 {p q:P3} (hp:bd 5000 p)(hq:bd 5000 q):pH p q=sb p q:=by
 unfold bd at hp hq
 unfold pH
 rw [aH (n:=p.1 - q.1) (by omega) (by omega),aH (n:=p.2.1 - q.2.1) (by omega) (by omega),aH (n:=p.2.2 - q.2.2) (by omega) (by omega)];rfl
theorem aZy {p q:P3} (hp:bd 5000 p)(hq:bd 5000 q):pG (pH p q)=ds p q:=by
 rw [bC3 hp hq,bC2 (kW hp hq)];rfl
theorem aNl (p q:P3):ds p q=ds q p:=by simp only [ds,dt,sb];grind
section
variable {n s t : Int}
end
end Go.Proofs.YtlckcjfbjnjfhaaGreat
