/-
  Parts of the proofs of the laws: the executor, what functions of the program compute, and that it is what the statements ask. No premise.
-/
import Derived.Test.YtmihafgemmgepaaGreatVPcm2
import Derived.Test.YtmihafgemmgepaaGreatRows
import Derived.Shelf.Abstract
import Derived.ProofKit
import Derived.OpenShut
set_option linter.unusedVariables false
set_option linter.unusedSimpArgs false
set_option maxHeartbeats 4000000
open Int (toNat)
namespace Go.Aw
open Go.RowKit
mutual
def SV.hasB (i:Nat):SV->Bool
 | .p j _=>j == i
 | .s j _ _ _=>j == i
 | .m j=>j == i
 | .f _ caps=>SV.hasBl i caps
 | .a l=>SV.hasBl i l
 | .t l=>SV.hasBl i l
 | _=>false
def SV.hasBl (i:Nat):List SV->Bool
 | []=>false
 | x::l=>SV.hasB i x || SV.hasBl i l
end
mutual
theorem aP1 {i:Nat}:∀(x:SV),x.has i->x.hasB i=true
 | .u,h=>by simp [SV.has] at h
 | .b _,h=>by simp [SV.has] at h
 | .v _,h=>by simp [SV.has] at h
 | .d _ _ _,h=>by simp [SV.has] at h
 | .p j _,h=>by simp only [SV.has] at h;simp [SV.hasB,h]
 | .s j _ _ _,h=>by simp only [SV.has] at h;simp [SV.hasB,h]
 | .m j,h=>by simp only [SV.has] at h;simp [SV.hasB,h]
 | .f _ caps,h=>by simp only [SV.has] at h;simp only [SV.hasB];exact hasl_B caps h
 | .a l,h=>by simp only [SV.has] at h;simp only [SV.hasB];exact hasl_B l h
 | .t l,h=>by simp only [SV.has] at h;simp only [SV.hasB];exact hasl_B l h
theorem hasl_B {i:Nat}:∀(l:List SV),SV.hasl i l->SV.hasBl i l=true
 | [],h=>by simp [SV.hasl] at h
 | x::l,h=>by
   simp only [SV.hasl] at h
   simp only [SV.hasBl,Bool.or_eq_true]
   exact h.imp (aP1 x) (hasl_B l)
end
def BK.hasB (i:Nat):BK->Bool
 | .live _ false cells=>SV.hasBl i cells
 | .map es=>SV.hasBl i (iN es)
 | _=>false
theorem aQl {i:Nat} {x:BK} (hpl:x.pl)(h:x.has i):x.hasB i=true:=by
 cases x with
 | un=>exact h.elim
 | dead=>exact h.elim
 | map es=>exact hasl_B _ h
 | live own sym cells =>
   cases sym with
   | true=>exact(hpl i h).elim
   | false=>exact hasl_B _ h
section
variable {P : Program} {ρ : Env} {W : World} {M : Nat → Prop}
theorem aEz {α:Type} {c:α->List SV} {es:Nat} (hc:∀x,(c x).length=es) {l:List α} {a b:Int} (hab:0<=a/\a<=b/\b<=l.length) {i:Nat} {y:Value}
   (hr:Rel ρ (.s i (0+a.toNat*es) (b.toNat - a.toNat) es) y) (hb:BRep ρ M W i (.live false true (flat c l))) (hpl:Plain (flat c l)) :
   ∃q,∀(k:Nat) (ρ2:Env),ρ2 k=q->ρ2.fz=ρ.fz->Rel ρ2 (.s k 0 (part l a b).length es) y/\BRep ρ2 M W k (.live false true (flat c (part l a b))):=by
 have hl:=part_len hab
 have hf:flat c (part l a b)=((flat c l).drop (a.toNat*es)).take ((b.toNat - a.toNat)*es):=by rw [mF hc,mG hc];rfl
 simp only [Rel] at hr
 rcases hr with⟨h1,h2,h3⟩ | ⟨b0,o,N,cap,off',sp,h1,h2,h3,h4,h5⟩
 · refine⟨none,fun k ρ2 hq hfz=>⟨?_,.inl ⟨hq,?_⟩⟩⟩
   · simp only [Rel];exact .inl ⟨hq,by omega,h3⟩
   · rw [hf,h2];simp
 · refine⟨some (b0,o+off',cap*es),fun k ρ2 hq hfz=>⟨?_,?_⟩⟩
   · simp only [Rel]
     exact .inr ⟨b0,o+off',cap*es,cap,0,sp,hq,by rw [hl,Nat.add_zero];exact h2,by rw [hl];exact h3,by omega,fun hc=>⟨rfl,(h5 hc).2⟩⟩
   · rcases hb with⟨e1,_⟩ | ⟨b1,o1,n1,vs,e1,⟨e2,e3⟩,e4,e5⟩
     · rw [h1] at e1;cases e1
     · rw [h1] at e1
       simp only [Option.some.injEq,Prod.mk.injEq] at e1
       obtain⟨rfl,rfl,rfl⟩:=e1
       have hle:(b.toNat - a.toNat)*es<=cap*es:=Nat.mul_le_mul_right _ h3
       refine .inr ⟨b0,o+off',cap*es,(vs.drop (a.toNat*es)).take ((b.toNat - a.toNat)*es),hq,⟨by rw [List.length_take];omega,fun hne hM=>?_⟩,?_,fun t x hx=>?_⟩
       · rw [hfz]
         exact e3 (fun e=>hne (by rw [e];simp)) hM
       · rw [hf]
         have hp2:Plain (((flat c l).drop (a.toNat*es)).take ((b.toNat - a.toNat)*es)):=fun j hj=>hpl j (gY (gX hj))
         exact Plain.congr (fun b o ho=>by rw [hfz];exact ho) hp2 (Rels.take _ (Rels.drop _ e4))
       · have ht:=(List.getElem?_eq_some_iff.1 hx).1
         rw [List.length_take] at ht
         rw [List.getElem?_take_of_lt (by omega),List.getElem?_drop] at hx
         have hcap:cap≠0:=by
           intro e
           rw [e] at hle
           omega
         rw [(h5 hcap).1,show o+(0+a.toNat*es)+t=o+(a.toNat*es+t) by omega]
         exact e5 _ x hx
theorem tX {ρ ρ2:Env} {x y:SV}:∀{pre post:List SV} {vs:List Value},Rels ρ (pre++x::post) vs->ρ.le ρ2->(∀j,SV.hasl j pre\/SV.hasl j post->ρ2 j=ρ j)->(∃v,vs[pre.length]? = some v/\Rel ρ2 y v)->Rels ρ2 (pre++y::post) vs
 | [],post,[],h,_,_,_=>by simp [Rels] at h
 | [],post,v::vs,h,hf,hj,hx=>by
   simp only [List.nil_append,Rels] at h ⊢
   obtain⟨v',e,hx⟩:=hx
   simp only [List.length_nil,List.getElem?_cons_zero,Option.some.injEq] at e
   subst e
   exact⟨hx,Rels.congr hf _ _ (fun j hk=>hj j (.inr hk)) h.2⟩
 | z::pre,post,[],h,_,_,_=>by simp [Rels] at h
 | z::pre,post,v::vs,h,hf,hj,hx=>by
   simp only [List.cons_append,Rels] at h ⊢
   refine⟨Rel.congr hf _ _ (fun j hk=>hj j (.inl (by simp only [SV.hasl];exact .inl hk))) h.1,tX h.2 hf (fun j hk=>hj j ?_) ?_⟩
   · rcases hk with hk | hk
     · exact .inl (by simp only [SV.hasl];exact .inr hk)
     · exact .inr hk
   · obtain⟨v',e,hx⟩:=hx
     exact⟨v',by simpa using e,hx⟩
theorem aB5 {x:SV}:∀{pre post:List SV} {vs:List Value},Rels ρ (pre++x::post) vs->∃v,vs[pre.length]? = some v/\Rel ρ x v
 | [],_,[],h=>by simp [Rels] at h
 | [],_,v::_,h=>by simp only [List.nil_append,Rels] at h;exact⟨v,rfl,h.1⟩
 | _::_,_,[],h=>by simp [Rels] at h
 | _::pre,_,_::_,h=>by
   simp only [List.cons_append,Rels] at h
   obtain⟨v,e,hx⟩:=aB5 h.2
   exact⟨v,by simpa using e,hx⟩
theorem eN {x:BK} {bs1 bs2:List BK} (j:Nat):(bs1++x::bs2).getD j .un=if j=bs1.length then x else if j < bs1.length then bs1.getD j .un else bs2.getD (j - bs1.length - 1) .un:=by
 simp only [eQ]
 by_cases h:j=bs1.length
 · subst h;simp
 · rw [if_neg h]
   by_cases h2:j < bs1.length
   · rw [if_pos h2,List.getElem?_append_left h2]
   · rw [if_neg h2,List.getElem?_append_right (by omega)]
     obtain⟨k,hk⟩:∃k,j - bs1.length=k+1:=⟨j - bs1.length - 1,by omega⟩
     rw [hk];simp
theorem Con.part {f:Nat} {pre post:List SV} {bs1 bs2 nb:List BK} {res:SV} {α:Type} {c:α->List SV} {es:Nat} {l:List α} {a b:Int} (i:Nat)(hc:∀x,(c x).length=es)(hab:0<=a/\a<=b/\b<=l.length)(hi:bs1.length=i)
   (hno:(!SV.hasBl i pre&&!SV.hasBl i post&&bs1.all (fun x=>!x.hasB i)&&bs2.all (fun x=>!x.hasB i)&&nb.all (fun x=>!x.hasB i)&&!res.hasB i)=true)
   (h:Con P f (pre++.s i 0 (Aw.part l a b).length es::post) (bs1++.live false true (flat c (Aw.part l a b))::bs2) res nb) :
   Con P f (pre++.s i (0+a.toNat*es) (b.toNat - a.toNat) es::post) (bs1++.live false true (flat c l)::bs2) res nb:=by
 subst hi
 simp only [Bool.and_eq_true,Bool.not_eq_true',List.all_eq_true] at hno
 obtain⟨⟨⟨⟨⟨n1,n2⟩,n3⟩,n4⟩,n5⟩,n6⟩:=hno
 refine⟨h.1,fun ρ W vs hr hb hpl hap hfz=>?_⟩
 obtain⟨y,hy,hry⟩:=aB5 hr
 have hbi:=hb bs1.length
 have hpi:=hpl bs1.length
 rw [eN,if_pos rfl] at hbi hpi
 obtain⟨q,hq⟩:=aEz hc hab hry hbi hpi
 have hne:∀j,j≠bs1.length->(ρ.set bs1.length q) j=ρ j:=fun j hj=>by rw [Env.set_loc,if_neg hj]
 have hat:(ρ.set bs1.length q) bs1.length=q:=by rw [Env.set_loc,if_pos rfl]
 have hown:pM (ρ.set bs1.length q) (bs1++.live false true (flat c (Aw.part l a b))::bs2)=pM ρ (bs1++.live false true (flat c l)::bs2):=by
   funext b0
   apply propext
   unfold pM
   constructor
   · rintro ⟨j,n,h1,h2⟩
     rw [eN] at h1
     by_cases hj:j=bs1.length
     · rw [if_pos hj] at h1;exact h1.elim
     · refine⟨j,n,?_,by rw [←hne j hj];exact h2⟩
       rw [eN,if_neg hj];rw [if_neg hj] at h1;exact h1
   · rintro ⟨j,n,h1,h2⟩
     rw [eN] at h1
     by_cases hj:j=bs1.length
     · rw [if_pos hj] at h1;exact h1.elim
     · refine⟨j,n,?_,by rw [hne j hj];exact h2⟩
       rw [eN,if_neg hj];rw [if_neg hj] at h1;exact h1
 have hmine:(bB (ρ.set bs1.length q) W (bs1++.live false true (flat c (Aw.part l a b))::bs2)).mine=(bB ρ W (bs1++.live false true (flat c l)::bs2)).mine:=by
   funext b0
   unfold Cx.mine bB
   simp only [hown]
 obtain⟨g1,g2⟩:=hq bs1.length (ρ.set bs1.length q) hat rfl
 have blk:∀j,j≠bs1.length->(bs1++BK.live false true (flat c (Aw.part l a b))::bs2).getD j .un=(bs1++BK.live false true (flat c l)::bs2).getD j .un:=fun j hj=>by rw [eN,eN,if_neg hj,if_neg hj]
 have nohas:∀j,j≠bs1.length->¬((bs1++BK.live false true (flat c l)::bs2).getD j .un).has bs1.length:=fun j hj hk=>by
   have hB:=aQl (hpl j) hk
   rw [eN,if_neg hj] at hB
   split at hB
   · rename_i hlt
     rw [eQ,List.getElem?_eq_getElem hlt,Option.getD_some] at hB
     rw [n3 _ (List.getElem_mem hlt)] at hB;cases hB
   · by_cases hlt:j - bs1.length - 1 < bs2.length
     · rw [eQ,List.getElem?_eq_getElem hlt,Option.getD_some] at hB
       rw [n4 _ (List.getElem_mem hlt)] at hB;cases hB
     · rw [eQ,List.getElem?_eq_none (by omega),Option.getD_none] at hB;cases hB
 have nol:∀{m:List SV},SV.hasBl bs1.length m=false->∀j,SV.hasl j m->j≠bs1.length:=fun hm j hj e=>by
   subst e;rw [hasl_B _ hj] at hm;cases hm
 have hcall:=h.2 (ρ.set bs1.length q) W vs ?_ ?_ ?_ ?_ ?_
 · refine hcall.mono fun e W' hR=>?_
   obtain⟨ρ',v,r1,r2,r3,r4,r5,r6,r7,r8,r9⟩:=hR
   have hbase:(bB (ρ.set bs1.length q) W (bs1++.live false true (flat c (Aw.part l a b))::bs2)).base=(bB ρ W (bs1++.live false true (flat c l)::bs2)).base:=by simp [bB]
   have hlt:bs1.length < (bB ρ W (bs1++.live false true (flat c l)::bs2)).base:=by simp [bB]
   rw [hbase] at r2 r5 r6 r7 r9
   rw [hmine] at r5 r9
   have hnb:∀j,¬(bX (bB ρ W (bs1++.live false true (flat c l)::bs2)).base [] nb j).has bs1.length:=fun j hk=>by
     have hB:=aQl (r6 j) hk
     unfold bX at hB
     split at hB
     · simp [BK.hasB] at hB
     · rename_i hge
       by_cases hl2:j - (bB ρ W (bs1++.live false true (flat c l)::bs2)).base < nb.length
       · rw [eQ,List.getElem?_eq_getElem hl2,Option.getD_some] at hB
         rw [n5 _ (List.getElem_mem hl2)] at hB;cases hB
       · rw [eQ,List.getElem?_eq_none (by omega),Option.getD_none] at hB;cases hB
   have ho:∀j,(bX (bB ρ W (bs1++.live false true (flat c l)::bs2)).base [] nb j).own->j≠bs1.length:=fun j hj e=>by
     subst e
     unfold bX at hj
     rw [if_pos hlt] at hj
     exact hj
   have hs:∀j,j≠bs1.length->(ρ'.set bs1.length (ρ bs1.length)) j=ρ' j:=fun j hj=>by rw [Env.set_loc,if_neg hj]
   refine⟨ρ'.set bs1.length (ρ bs1.length),v,r1,fun j hj=>?_,?_,?_,fun j=>?_,r6,fun j k b1 m1 b2 m2 hjk o1 o2 e1 e2=>?_,?_,fun b0 o0 hf0=>?_⟩
   · by_cases hji:j=bs1.length
     · subst hji;rw [Env.set_loc,if_pos rfl];rfl
     · rw [hs j hji,r2 j hj];exact hne j hji
   · exact Rel.congr (ρ'.le_set _ _) _ _ (fun j hk=>hs j (fun e=>by subst e;rw [aP1 _ hk] at n6;cases n6)) r3
   · have:(bB (ρ.set bs1.length q) W (bs1++.live false true (flat c (Aw.part l a b))::bs2)).own=(bB ρ W (bs1++.live false true (flat c l)::bs2)).own:=hown
     rw [this] at r4;exact r4
   · by_cases hji:j=bs1.length
     · subst hji
       unfold bX
       rw [if_pos hlt];trivial
     · exact BRep.congr (ρ'.le_set _ _) (hs j hji) (fun k hk=>hs k (fun e=>by subst e;exact hnb j hk)) (r5 j)
   · rw [hs j (ho j o1)] at e1
     rw [hs k (ho k o2)] at e2
     exact r7 j k b1 m1 b2 m2 hjk o1 o2 e1 e2
   · exact r8
   · obtain⟨t1,t2,t3⟩:=r9 b0 o0 hf0
     exact⟨t1,fun j n hj=>by rw [hs j (ho j hj)];exact t2 j n hj,t3⟩
 · refine tX hr (ρ.le_set _ _) (fun j hj=>hne j ?_) ⟨y,hy,g1⟩
   rcases hj with hj | hj
   · exact nol n1 j hj
   · exact nol n2 j hj
 · intro j
   rw [hmine]
   by_cases hj:j=bs1.length
   · rw [hj,eN,if_pos rfl];exact g2
   · rw [blk j hj]
     exact BRep.congr (ρ.le_set _ _) (hne j hj) (fun k hk=>hne k (fun e=>by subst e;exact nohas j hj hk)) (hb j)
 · intro j
   by_cases hj:j=bs1.length
   · rw [hj,eN,if_pos rfl]
     show Plain _
     have hf:flat c (Aw.part l a b)=((flat c l).drop (a.toNat*es)).take ((b.toNat - a.toNat)*es):=by rw [mF hc,mG hc];rfl
     rw [hf]
     exact fun k hk=>hpi k (gY (gX hk))
   · rw [blk j hj];exact hpl j
 · intro j k b1 m1 b2 m2 hjk o1 o2 e1 e2
   have hj:j≠bs1.length:=fun e=>by rw [e,eN,if_pos rfl] at o1;exact o1
   have hk:k≠bs1.length:=fun e=>by rw [e,eN,if_pos rfl] at o2;exact o2
   rw [blk j hj] at o1
   rw [blk k hk] at o2
   rw [hne j hj] at e1
   rw [hne k hk] at e2
   exact hap j k b1 m1 b2 m2 hjk o1 o2 e1 e2
 · intro b0 o0 hf0
   obtain⟨t1,t2⟩:=hfz b0 o0 hf0
   refine⟨t1,fun j n hj=>?_⟩
   have hji:j≠bs1.length:=fun e=>by rw [e,eN,if_pos rfl] at hj;exact hj
   rw [blk j hji] at hj
   rw [hne j hji]
   exact t2 j n hj
theorem kC {x:BK} {bs:List BK} (j:Nat):(bs++[x]).getD j .un=if j=bs.length then x else bs.getD j .un:=by
 rw [eN (bs2:=[])]
 by_cases h:j=bs.length
 · rw [if_pos h,if_pos h]
 · rw [if_neg h,if_neg h]
   by_cases h2:j < bs.length
   · rw [if_pos h2]
   · rw [if_neg h2]
     simp only [eQ]
     rw [List.getElem?_eq_none (by omega:bs.length<=j)];simp
theorem Con.alias {f:Nat} {pre post:List SV} {bs:List BK} {res:SV} {α:Type} {c:α->List SV} {es:Nat} {l:List α} {a b:Int} (i:Nat)(hc:∀x,(c x).length=es)(hab:0<=a/\a<=b/\b<=l.length)
   (hi:bs[i]? = some (.live false true (flat c l)))
   (hno:(!SV.hasBl bs.length pre&&!SV.hasBl bs.length post&&bs.all (fun x=>!x.hasB bs.length)&&!res.hasB bs.length)=true)
   (h:Con P f (pre++.s bs.length 0 (Aw.part l a b).length es::post) (bs++[.live false true (flat c (Aw.part l a b))]) res []) :
   Con P f (pre++.s i (0+a.toNat*es) (b.toNat - a.toNat) es::post) bs res []:=by
 simp only [Bool.and_eq_true,Bool.not_eq_true',List.all_eq_true] at hno
 obtain⟨⟨⟨n1,n2⟩,n3⟩,n6⟩:=hno
 refine⟨h.1,fun ρ W vs hr hb hpl hap hfz=>?_⟩
 have hilt:=(List.getElem?_eq_some_iff.1 hi).1
 have hgi:bs.getD i .un=.live false true (flat c l):=by rw [eQ,hi];rfl
 obtain⟨y,hy,hry⟩:=aB5 hr
 have hbi:=hb i
 have hpi:=hpl i
 rw [hgi] at hbi hpi
 obtain⟨q,hq⟩:=aEz hc hab hry hbi hpi
 have hne:∀j,j≠bs.length->(ρ.set bs.length q) j=ρ j:=fun j hj=>by rw [Env.set_loc,if_neg hj]
 have hat:(ρ.set bs.length q) bs.length=q:=by rw [Env.set_loc,if_pos rfl]
 have hend:bs.getD bs.length .un=.un:=by rw [eQ,List.getElem?_eq_none (Nat.le_refl _)];rfl
 have hown:pM (ρ.set bs.length q) (bs++[.live false true (flat c (Aw.part l a b))])=pM ρ bs:=by
   funext b0
   apply propext
   unfold pM
   constructor
   · rintro ⟨j,n,h1,h2⟩
     rw [kC] at h1
     by_cases hj:j=bs.length
     · rw [if_pos hj] at h1;exact h1.elim
     · rw [if_neg hj] at h1
       exact⟨j,n,h1,by rw [←hne j hj];exact h2⟩
   · rintro ⟨j,n,h1,h2⟩
     have hj:j≠bs.length:=fun e=>by rw [e,hend] at h1;exact h1
     exact⟨j,n,by rw [kC,if_neg hj];exact h1,by rw [hne j hj];exact h2⟩
 have hmine:(bB (ρ.set bs.length q) W (bs++[.live false true (flat c (Aw.part l a b))])).mine=(bB ρ W bs).mine:=by
   funext b0
   unfold Cx.mine bB
   simp only [hown]
 obtain⟨g1,g2⟩:=hq bs.length (ρ.set bs.length q) hat rfl
 have nohas:∀j,¬(bs.getD j .un).has bs.length:=fun j hk=>by
   have hB:=aQl (hpl j) hk
   by_cases hlt:j < bs.length
   · rw [eQ,List.getElem?_eq_getElem hlt,Option.getD_some] at hB
     rw [n3 _ (List.getElem_mem hlt)] at hB;cases hB
   · rw [eQ,List.getElem?_eq_none (by omega),Option.getD_none] at hB;cases hB
 have nol:∀{m:List SV},SV.hasBl bs.length m=false->∀j,SV.hasl j m->j≠bs.length:=fun hm j hj e=>by
   subst e;rw [hasl_B _ hj] at hm;cases hm
 have hcall:=h.2 (ρ.set bs.length q) W vs ?_ ?_ ?_ ?_ ?_
 · refine hcall.mono fun e W' hR=>?_
   obtain⟨ρ',v,r1,r2,r3,r4,r5,r6,r7,r8,r9⟩:=hR
   have un1:∀j,bX (bB ρ W bs).base [] [] j=.un:=fun j=>by unfold bX;simp
   have un2:∀j,bX (bB (ρ.set bs.length q) W (bs++[.live false true (flat c (Aw.part l a b))])).base [] [] j=.un:=fun j=>by unfold bX;simp
   refine⟨ρ',v,r1,fun j hj=>?_,r3,?_,fun j=>?_,fun j=>?_,fun j k b1 m1 b2 m2 hjk o1 o2 e1 e2=>?_,r8,fun b0 o0 hf0=>?_⟩
   · have hj':j < bs.length:=hj
     rw [r2 j (by simp [bB];omega)];exact hne j (by omega)
   · have:(bB (ρ.set bs.length q) W (bs++[.live false true (flat c (Aw.part l a b))])).own=(bB ρ W bs).own:=hown
     rw [this] at r4;exact r4
   · rw [un1];trivial
   · rw [un1];trivial
   · rw [un1] at o1;exact o1.elim
   · obtain⟨t1,t2,t3⟩:=r9 b0 o0 hf0
     rw [hmine] at t3
     exact⟨t1,fun j n hj=>by rw [un1] at hj;exact hj.elim,t3⟩
 · refine tX hr (ρ.le_set _ _) (fun j hj=>hne j ?_) ⟨y,hy,g1⟩
   rcases hj with hj | hj
   · exact nol n1 j hj
   · exact nol n2 j hj
 · intro j
   rw [hmine,kC]
   by_cases hj:j=bs.length
   · rw [if_pos hj,hj];exact g2
   · rw [if_neg hj]
     exact BRep.congr (ρ.le_set _ _) (hne j hj) (fun k hk=>hne k (fun e=>by subst e;exact nohas j hk)) (hb j)
 · intro j
   rw [kC]
   by_cases hj:j=bs.length
   · rw [if_pos hj]
     show Plain _
     have hf:flat c (Aw.part l a b)=((flat c l).drop (a.toNat*es)).take ((b.toNat - a.toNat)*es):=by rw [mF hc,mG hc];rfl
     rw [hf]
     exact fun k hk=>hpi k (gY (gX hk))
   · rw [if_neg hj];exact hpl j
 · intro j k b1 m1 b2 m2 hjk o1 o2 e1 e2
   rw [kC] at o1 o2
   have hj:j≠bs.length:=fun e=>by rw [if_pos e] at o1;exact o1
   have hk:k≠bs.length:=fun e=>by rw [if_pos e] at o2;exact o2
   rw [if_neg hj] at o1
   rw [if_neg hk] at o2
   rw [hne j hj] at e1
   rw [hne k hk] at e2
   exact hap j k b1 m1 b2 m2 hjk o1 o2 e1 e2
 · intro b0 o0 hf0
   obtain⟨t1,t2⟩:=hfz b0 o0 hf0
   refine⟨t1,fun j n hj=>?_⟩
   rw [kC] at hj
   have hji:j≠bs.length:=fun e=>by rw [if_pos e] at hj;exact hj
   rw [if_neg hji] at hj
   rw [hne j hji]
   exact t2 j n hj
end
def aGj (T:Nat->Option TI)(rv:List ResultVar)(base:Nat)(ms ks:List Nat):Option (Out×List Ob×List Or)->Option (SV×List BK×List BK×List Ob)
 | some (.norm s,obs,[])=>match fin T rv base ms ks s with
   | some (res,nb,mb)=>some (res,nb,mb,obs)
   | none=>none
 | _=>none
theorem aOf {P:Program} {T:Nat->Option TI} {cx:Cx} {n:Nat} (hT:kK P T)(hm:P.follows .mixedOrders=true) {fn:Func} {f:Nat} {k:List K} {s:LS} {orc:List Or} (ads:List Adj)(ms ks:List Nat) {base:Nat} (hb:cx.base=base) {res:SV} {nb mb:List BK} {obs:List Ob}
   (h:aGj T fn.results.toList base ms ks (mS ads (run T f k s orc))=some (res,nb,mb,obs)) (hob:Obs P obs):Good P none n (bodyPost P fn (RR cx res nb mb)) cx [] k s:=by
 subst hb
 unfold aGj at h
 split at h
 · rename_i s' obs' hrun
   split at h
   · rename_i res' nb' mb' hf
     simp only [Option.some.injEq,Prod.mk.injEq] at h
     obtain⟨rfl,rfl,rfl,rfl⟩:=h
     obtain⟨o',hr,hg⟩:=mT (P:=P) (r:=none) (n:=n) (Q:=bodyPost P fn (RR cx res' nb' mb')) (cx:=cx) (D:=[]) hrun
     exact eL hT hm f k s orc _ _ _ hr hob (hg (fun ρ a W hrep=>aGc hT hf ρ a W hrep))
   · cases h
 · cases h
end Go.Aw
namespace Go.Proofs.YtmihafgemmgepaaGreat
open Go.Proofs Go.Aw Go.RowKit
set_option maxRecDepth 100000
noncomputable def T0:=conv Tryz.prog
theorem hT:kK Tryz.prog T0:=fun _ _ h=>h
theorem hm:Tryz.prog.follows .mixedOrders=true:=by kernel_rfl
def W (n:Int):Int:=IntKind.wrap .i64 n
theorem aSz (n:Int):W n=if n % 18446744073709551616≥9223372036854775808 then n % 18446744073709551616 - 18446744073709551616 else n % 18446744073709551616:=by
 unfold W IntKind.wrap
 simp [IntKind.bits,IntKind.signed]
theorem aJ {n:Int} (h1:-9223372036854775808<=n)(h2:n < 9223372036854775808):W n=n:=by
 rw [aSz];split<;>omega
theorem tY (x:Int)(k:Nat) {m:Nat} (hm:(2:Int) ^ (min (toNat k) 64)=m):Int.fdiv x (2 ^ (min (toNat k) 64))=x / m:=by
 rw [hm];exact Int.fdiv_eq_ediv_of_nonneg _ (by omega)
theorem aB6 {a b:Int} (h:0<=a/\a<=b/\b<=2147483648):W (Int.tdiv (W ((W (a+b))+1)) 2)=(a+b+1) / 2:=by
 rw [aJ (n:=a+b) (by omega) (by omega),aJ (n:=a+b+1) (by omega) (by omega),Int.tdiv_eq_ediv_of_nonneg (by omega),aJ (by omega) (by omega)]
theorem aB7 {a b:Int} (h:0<=a/\a<=b/\b<=2147483648):W (Int.tdiv (W (a+b)) 2)=(a+b) / 2:=by
 rw [aJ (n:=a+b) (by omega) (by omega),Int.tdiv_eq_ediv_of_nonneg (by omega),aJ (by omega) (by omega)]
theorem aIe {a b:Int} (h:0<=a/\a<=b/\b<=2147483648):W ((W (Int.tdiv (W ((W (a+b))+1)) 2)) - 1)=(a+b+1) / 2 - 1:=by
 rw [aB6 h,aJ (by omega) (by omega)]
theorem aIf {a b:Int} (h:0<=a/\a<=b/\b<=2147483648):W ((W (Int.tdiv (W (a+b)) 2))+1)=(a+b) / 2+1:=by
 rw [aB7 h,aJ (by omega) (by omega)]
theorem fG (n:Int):0<=IntKind.wrap .u64 n:=by
 simp only [IntKind.wrap,IntKind.bits,IntKind.signed]
 simp
 omega
theorem aOg (b:Bool):b=true\/b=false:=by cases b<;>simp
def k9 (x:Zt×Zt×Zt):List SV:=[(iv x.1.1),(iv x.1.2.1),(iv x.1.2.2),(iv x.2.1.1),(iv x.2.1.2.1),(iv x.2.1.2.2),(iv x.2.2.1),(iv x.2.2.2.1),(iv x.2.2.2.2)]
def k3 (x:Zt):List SV:=[(iv x.1),(iv x.2.1),(iv x.2.2)]
def k2 (x:Int×Int):List SV:=[(iv x.1),(iv x.2)]
section
variable {cx : Cx} {k : List K} {s : LS} {base : Nat} {Q : Exit → Act → World → Prop}
theorem rt {fn:Func} (sts:List (St Tryz.prog))(ads:List Adj)(ks:List Nat)(hb:cx.base=base) {res:SV} {nb:List BK}
 (h:yF T0 fn.results.toList base [] ks (mS ads (run T0 5000 k s (stO sts)))=some (res,nb,[],stB sts)):Aw.Good Tryz.prog none 9 (bodyPost Tryz.prog fn (RR cx res nb [])) cx [] k s:=aSy hT hm sts ads ks hb h
theorem rtm {fn:Func} (sts:List (St Tryz.prog))(ads:List Adj)(ms ks:List Nat)(hb:cx.base=base) {res:SV} {nb mb:List BK}
 (h:yF T0 fn.results.toList base ms ks (mS ads (run T0 5000 k s (stO sts)))=some (res,nb,mb,stB sts)):Aw.Good Tryz.prog none 9 (bodyPost Tryz.prog fn (RR cx res nb mb)) cx [] k s:=aB1 hT hm ads ms ks hb h (aGi sts)
theorem rtn {fn:Func} (sts:List (St Tryz.prog))(ads:List Adj)(ms ks:List Nat)(hb:cx.base=base) {res:SV} {nb mb:List BK}
 (h:aGj T0 fn.results.toList base ms ks (mS ads (run T0 5000 k s (stO sts)))=some (res,nb,mb,stB sts)):Aw.Good Tryz.prog none 9 (bodyPost Tryz.prog fn (RR cx res nb mb)) cx [] k s:=aOf hT hm ads ms ks hb h (aGi sts)
theorem en (sts:List (St Tryz.prog))(ads:List Adj)(ts ks:List Nat)(hb:cx.base=base)(body:Code)(k':List K)(s':LS)(m:Nat)
 (h:wU base ts ks (mS ads (run T0 5000 k s (stO sts)))=some (body,k',s',stB sts)) (hg:Aw.Good Tryz.prog none 9 Q cx [] (.l body m::k') s'):Aw.Good Tryz.prog none 9 Q cx [] k s:=aOe hT hm sts ads ts ks hb body k' s' m h hg
theorem ba {m:Nat} (sts:List (St Tryz.prog))(ads:List Adj)(ts ks:List Nat)(hb:cx.base=base)(body:Code)(k':List K)(s':LS)
 (h:aBz base ts ks (mS ads (run T0 5000 k s (stO sts)))=some (body,m,k',s',stB sts)) (hg:Aw.Good Tryz.prog none 9 Q cx [] (.l body m::k') s'):Aw.Good Tryz.prog none 9 Q cx [] k s:=aQk hT hm sts ads ts ks hb body k' s' h hg
theorem ga (sts:List (St Tryz.prog))(ads:List Adj)(ts ks:List Nat)(hb:cx.base=base)(x:Code)(k':List K)(s':LS)
 (h:aOc base ts ks (mS ads (run T0 5000 k s (stO sts)))=some (x,k',s',stB sts)) (hg:Aw.Good Tryz.prog none 9 Q cx [] (.c x::k') s'):Aw.Good Tryz.prog none 9 Q cx [] k s:=aVd hT hm sts ads ts ks hb x k' s' h hg
end
def pF (a0:Zt)(a1:Int):Zt :=
 ((W (a1*a0.1)),(W (a1*a0.2.1)),(W (a1*a0.2.2)))
theorem C48 (a0:Zt)(a1:Int):Con Tryz.prog 48 [(.a (k3 a0)),(iv a1)] [] (.a (k3 (pF a0 a1))) []:=by
 refine aO Tryz.func48 (by kernel_rfl) fun cx hcx=>?_
 have e:=Eq.refl (pF a0 a1);conv at e=>rhs;simp only [pF]
 rw [e]
 exact rt [] [] [] hcx (by kernel_rfl)
def gO (a0:Zt)(a1:Zt):Zt :=
 ((W (a0.1+a1.1)),(W (a0.2.1+a1.2.1)),(W (a0.2.2+a1.2.2)))
theorem aQm (a0:Zt)(a1:Zt):Con Tryz.prog 110 [(.a (k3 a0)),(.a (k3 a1))] [] (.a (k3 (gO a0 a1))) []:=by
 refine aO Tryz.func110 (by kernel_rfl) fun cx hcx=>?_
 have e:=Eq.refl (gO a0 a1);conv at e=>rhs;simp only [gO]
 rw [e]
 exact rt [] [] [] hcx (by kernel_rfl)
def cP (x:Zt×Zt×Zt):List SV:=[iv x.1.1,iv x.1.2.1,iv x.1.2.2,iv x.2.1.1,iv x.2.1.2.1,iv x.2.1.2.2,iv x.2.2.1,iv x.2.2.2.1,iv x.2.2.2.2]
def aB8 (x:Zt×Zt×Zt):Value:=.agg #[.int .i64 x.1.1,.int .i64 x.1.2.1,.int .i64 x.1.2.2,.int .i64 x.2.1.1,.int .i64 x.2.1.2.1,.int .i64 x.2.1.2.2,.int .i64 x.2.2.1,.int .i64 x.2.2.2.1,.int .i64 x.2.2.2.2]
theorem aE0 (ρ:Env)(x:Zt×Zt×Zt):Rel ρ (.a (cP x)) (aB8 x):=by
 simp only [Rel];exact⟨_,rfl,by simp [cP,Rels,Rel,iv]⟩
theorem aQn (x:Zt×Zt×Zt)(k:Nat):¬(SV.a (cP x)).has k:=by
 simp [cP,SV.has,SV.hasl,iv]
def yv (l:Nat):Value:=.func (.yield l) #[] #[]
def q1 (p:Zt×Zt×Zt):Zt×Zt×Zt:=(pF p.1 2,gO p.1 p.2.1,gO p.2.2 p.1)
def q2 (p:Zt×Zt×Zt):Zt×Zt×Zt:=(gO p.1 p.2.1,pF p.2.1 2,gO p.2.1 p.2.2)
def q3 (p:Zt×Zt×Zt):Zt×Zt×Zt:=(gO p.2.2 p.1,gO p.2.1 p.2.2,pF p.2.2 2)
def q4 (p:Zt×Zt×Zt):Zt×Zt×Zt:=(gO p.1 p.2.1,gO p.2.1 p.2.2,gO p.2.2 p.1)
def dD:Nat->Zt×Zt×Zt->List (Zt×Zt×Zt)
 | 0,p=>[p]
 | d+1,p=>dD d (q1 p)++(dD d (q2 p)++(dD d (q3 p)++dD d (q4 p)))
def sF (l:Nat)(J:Nat->(Nat->Prop)->World->Prop)(Jx:(Nat->Prop)->World->Prop)(xs:List (Zt×Zt×Zt))(d:Nat):Prop :=
 ∀(p:Zt×Zt×Zt) (i:Nat) (S:Nat->Prop) (W:World) (ρ:Env) (vs:List Value),Rels ρ [.a (cP p),iv d,.p 0 0,.p 1 0] vs ->
   BRep ρ (fun b=>W.heap.size<=b) W 0 (.live false false [.v (yv l)])->BRep ρ (fun b=>W.heap.size<=b) W 1 (.live false false [.f 109 [.p 0 0,.p 1 0]]) ->
   (∀k,k < 2->∀b o n,ρ k=some (b,o,n)->¬S b)->J i S W->(∀j x,(dD d p)[j]? = some x->xs[i+j]? = some x) ->
   Calls Tryz.prog 109 vs.toArray W (VR J Jx (i+(dD d p).length) S W)
noncomputable def OY:Array Oper:=match (eB [1,0,1,0,0] [] (Tryz.f109.body.getD .skip)).1 with
 | .region _ ops _=>ops
 | _=>#[]
noncomputable def KY:List K:=(eB [1,0,1,0,0] [] (Tryz.f109.body.getD .skip)).2
noncomputable def OV:Array Oper:=match (eB [1,1,1,1,0,1,0,0,1,1,0,0,1,0] [0] (Tryz.f109.body.getD .skip)).1 with
 | .region _ ops _=>ops
 | _=>#[]
noncomputable def KV (m:Nat):List K:=(eB [1,1,1,1,0,1,0,0,1,1,0,0,1,0] [m] (Tryz.f109.body.getD .skip)).2
noncomputable def oY:Oper:=OY.toList.getD 2 default
noncomputable def oV:Oper:=OV.toList.getD 4 default
noncomputable def aGk (o:Oper):Array TypeId:=match o.op with
 | .call c=>c.argTypes
 | _=>#[]
theorem aS0:oY.op=.call { callee:=.value (.tmp 17),args:=#[.tmp 18],argTypes:=aGk oY }:=by kernel_rfl
theorem aS1:oV.op=.call { callee:=.value (.tmp 66),args:=#[.tmp 67,.tmp 69],argTypes:=aGk oV }:=by kernel_rfl
theorem aLs:OY.toList=OY.toList.take 2++oY::OY.toList.drop 3:=by kernel_rfl
theorem sG:OV.toList=OV.toList.take 4++oV::OV.toList.drop 5:=by kernel_rfl
theorem aLt:lO Tryz.prog 109:=ent Tryz.func109 (by kernel_rfl) rfl
theorem aQo:lO Tryz.prog 108:=ent Tryz.func108 (by kernel_rfl) rfl
def zY (l:Nat)(p:Zt×Zt×Zt):LS:=⟨[.u,.u,.p 0 0,.u,.p 2 0,.u,.u,.u,.u,.u,.u,.u,.u,.u,.u,.u,.u,.u,.u,.u,.u,.u,.u,.u,.u,.u,.u,.u,.u,.u,.u,.u,.u,.u,.u,.u,.u,.u,.u,.u,.u,.u,.u,.u,.u,.u,.u,.u,.u,.u,.u,.u,.u,.u,.u,.u,.u,.u,.u,.u,.u,.u,.u,.u,.u,.u,.u,.u,.u,.u,.u,.u,.u],[.live false false [.v (yv l)],.live false false [.f 109 [.p 0 0,.p 1 0]],.live true false (cP p)]⟩
def zY1 (l:Nat)(p:Zt×Zt×Zt):LS:=⟨[.u,.u,.p 0 0,.u,.p 2 0,.u,.u,.u,.u,.u,.u,.u,.u,.u,.u,.u,.u,.v (yv l),.a (cP p),.u,.u,.u,.u,.u,.u,.u,.u,.u,.u,.u,.u,.u,.u,.u,.u,.u,.u,.u,.u,.u,.u,.u,.u,.u,.u,.u,.u,.u,.u,.u,.u,.u,.u,.u,.u,.u,.u,.u,.u,.u,.u,.u,.u,.u,.u,.u,.u,.u,.u,.u,.u,.u,.u],[.live false false [.v (yv l)],.live false false [.f 109 [.p 0 0,.p 1 0]],.live true false (cP p)]⟩
def zY3 (l:Nat)(p:Zt×Zt×Zt)(b:Bool):LS:=⟨[.u,.u,.p 0 0,.u,.p 2 0,.u,.v (.bool b),.u,.u,.u,.u,.u,.u,.u,.u,.u,.u,.v (yv l),.a (cP p),.v (.bool b),.u,.u,.u,.u,.u,.u,.u,.u,.u,.u,.u,.u,.u,.u,.u,.u,.u,.u,.u,.u,.u,.u,.u,.u,.u,.u,.u,.u,.u,.u,.u,.u,.u,.u,.u,.u,.u,.u,.u,.u,.u,.u,.u,.u,.u,.u,.u,.u,.u,.u,.u,.u,.u],[.live false false [.v (yv l)],.live false false [.f 109 [.p 0 0,.p 1 0]],.live false false (cP p)]⟩
def zV1 (l:Nat)(p:Zt×Zt×Zt)(d:Int):LS:=⟨[.u,iv d,.u,.p 1 0,.u,.u,.u,.u,.u,.u,.u,.u,.u,.u,.p 3 0,.u,.u,.u,.u,.u,.u,.u,.u,.u,.u,.u,.u,.u,.u,.u,.u,.u,.u,.u,.u,.u,.u,.u,.u,.u,.u,.u,.u,.u,.u,.u,.u,.u,.u,.u,.u,.u,.u,.u,.u,.u,.u,.u,.u,.u,.s 2 0 4 9,iv 4,iv 0,.u,.u,.u,.u,.u,.u,.u,.u,.u,.u],[.live false false [.v (yv l)],.live false false [.f 109 [.p 0 0,.p 1 0]],.live true false (cP (q1 p)++(cP (q2 p)++(cP (q3 p)++cP (q4 p)))),.live true false (cP (q1 p))]⟩
def aVe (l:Nat)(p:Zt×Zt×Zt)(d:Int):LS:=⟨[.u,iv d,.u,.p 1 0,.u,.u,.u,.u,.u,.u,.u,.u,.u,.u,.p 3 0,.u,.u,.u,.u,.u,.u,.u,.u,.u,.u,.u,.u,.u,.u,.u,.u,.u,.u,.u,.u,.u,.u,.u,.u,.u,.u,.u,.u,.u,.u,.u,.u,.u,.u,.u,.u,.u,.u,.u,.u,.u,.u,.u,.u,.u,.s 2 0 4 9,iv 4,iv 0,.u,.u,.u,.f 109 [.p 0 0,.p 1 0],.a (cP (q1 p)),iv d,iv (W (d - 1)),.u,.u,.u],[.live false false [.v (yv l)],.live false false [.f 109 [.p 0 0,.p 1 0]],.live true false (cP (q1 p)++(cP (q2 p)++(cP (q3 p)++cP (q4 p)))),.live true false (cP (q1 p))]⟩
def aVf (l:Nat)(p:Zt×Zt×Zt)(d:Int)(b:Bool):LS:=⟨[.u,iv d,.u,.p 1 0,.u,.u,.u,.u,.u,.u,.u,.u,.u,.u,.p 3 0,.u,.u,.u,.u,.u,.u,.u,.u,.u,.u,.u,.u,.u,.u,.u,.u,.u,.u,.u,.u,.u,.u,.u,.u,.u,.u,.u,.u,.u,.u,.u,.u,.u,.u,.u,.u,.u,.u,.u,.u,.u,.u,.u,.u,.u,.s 2 0 4 9,iv 4,iv 0,.u,.u,.u,.f 109 [.p 0 0,.p 1 0],.a (cP (q1 p)),iv d,iv (W (d - 1)),.v (.bool b),.v (.bool (!b)),.u],[.live false false [.v (yv l)],.live false false [.f 109 [.p 0 0,.p 1 0]],.live false false (cP (q1 p)++(cP (q2 p)++(cP (q3 p)++cP (q4 p)))),.live false false (cP (q1 p))]⟩
def zV2 (l:Nat)(p:Zt×Zt×Zt)(d:Int):LS:=⟨[.u,iv d,.u,.p 1 0,.u,.u,.u,.u,.u,.u,.u,.u,.u,.u,.p 4 0,.u,.u,.u,.u,.u,.u,.u,.u,.u,.u,.u,.u,.u,.u,.u,.u,.u,.u,.u,.u,.u,.u,.u,.u,.u,.u,.u,.u,.u,.u,.u,.u,.u,.u,.u,.u,.u,.u,.u,.u,.u,.u,.u,.u,.u,.s 2 0 4 9,iv 4,iv 1,.u,.u,.u,.u,.u,.u,.u,.u,.u,.u],[.live false false [.v (yv l)],.live false false [.f 109 [.p 0 0,.p 1 0]],.live false false (cP (q1 p)++(cP (q2 p)++(cP (q3 p)++cP (q4 p)))),.live false false (cP (q1 p)),.live true false (cP (q2 p))]⟩
def aVg (l:Nat)(p:Zt×Zt×Zt)(d:Int):LS:=⟨[.u,iv d,.u,.p 1 0,.u,.u,.u,.u,.u,.u,.u,.u,.u,.u,.p 4 0,.u,.u,.u,.u,.u,.u,.u,.u,.u,.u,.u,.u,.u,.u,.u,.u,.u,.u,.u,.u,.u,.u,.u,.u,.u,.u,.u,.u,.u,.u,.u,.u,.u,.u,.u,.u,.u,.u,.u,.u,.u,.u,.u,.u,.u,.s 2 0 4 9,iv 4,iv 1,.u,.u,.u,.f 109 [.p 0 0,.p 1 0],.a (cP (q2 p)),iv d,iv (W (d - 1)),.u,.u,.u],[.live false false [.v (yv l)],.live false false [.f 109 [.p 0 0,.p 1 0]],.live false false (cP (q1 p)++(cP (q2 p)++(cP (q3 p)++cP (q4 p)))),.live false false (cP (q1 p)),.live true false (cP (q2 p))]⟩
def aVh (l:Nat)(p:Zt×Zt×Zt)(d:Int)(b:Bool):LS:=⟨[.u,iv d,.u,.p 1 0,.u,.u,.u,.u,.u,.u,.u,.u,.u,.u,.p 4 0,.u,.u,.u,.u,.u,.u,.u,.u,.u,.u,.u,.u,.u,.u,.u,.u,.u,.u,.u,.u,.u,.u,.u,.u,.u,.u,.u,.u,.u,.u,.u,.u,.u,.u,.u,.u,.u,.u,.u,.u,.u,.u,.u,.u,.u,.s 2 0 4 9,iv 4,iv 1,.u,.u,.u,.f 109 [.p 0 0,.p 1 0],.a (cP (q2 p)),iv d,iv (W (d - 1)),.v (.bool b),.v (.bool (!b)),.u],[.live false false [.v (yv l)],.live false false [.f 109 [.p 0 0,.p 1 0]],.live false false (cP (q1 p)++(cP (q2 p)++(cP (q3 p)++cP (q4 p)))),.live false false (cP (q1 p)),.live false false (cP (q2 p))]⟩
def zV3 (l:Nat)(p:Zt×Zt×Zt)(d:Int):LS:=⟨[.u,iv d,.u,.p 1 0,.u,.u,.u,.u,.u,.u,.u,.u,.u,.u,.p 5 0,.u,.u,.u,.u,.u,.u,.u,.u,.u,.u,.u,.u,.u,.u,.u,.u,.u,.u,.u,.u,.u,.u,.u,.u,.u,.u,.u,.u,.u,.u,.u,.u,.u,.u,.u,.u,.u,.u,.u,.u,.u,.u,.u,.u,.u,.s 2 0 4 9,iv 4,iv 2,.u,.u,.u,.u,.u,.u,.u,.u,.u,.u],[.live false false [.v (yv l)],.live false false [.f 109 [.p 0 0,.p 1 0]],.live false false (cP (q1 p)++(cP (q2 p)++(cP (q3 p)++cP (q4 p)))),.live false false (cP (q1 p)),.live false false (cP (q2 p)),.live true false (cP (q3 p))]⟩
def aVi (l:Nat)(p:Zt×Zt×Zt)(d:Int):LS:=⟨[.u,iv d,.u,.p 1 0,.u,.u,.u,.u,.u,.u,.u,.u,.u,.u,.p 5 0,.u,.u,.u,.u,.u,.u,.u,.u,.u,.u,.u,.u,.u,.u,.u,.u,.u,.u,.u,.u,.u,.u,.u,.u,.u,.u,.u,.u,.u,.u,.u,.u,.u,.u,.u,.u,.u,.u,.u,.u,.u,.u,.u,.u,.u,.s 2 0 4 9,iv 4,iv 2,.u,.u,.u,.f 109 [.p 0 0,.p 1 0],.a (cP (q3 p)),iv d,iv (W (d - 1)),.u,.u,.u],[.live false false [.v (yv l)],.live false false [.f 109 [.p 0 0,.p 1 0]],.live false false (cP (q1 p)++(cP (q2 p)++(cP (q3 p)++cP (q4 p)))),.live false false (cP (q1 p)),.live false false (cP (q2 p)),.live true false (cP (q3 p))]⟩
def aVj (l:Nat)(p:Zt×Zt×Zt)(d:Int)(b:Bool):LS:=⟨[.u,iv d,.u,.p 1 0,.u,.u,.u,.u,.u,.u,.u,.u,.u,.u,.p 5 0,.u,.u,.u,.u,.u,.u,.u,.u,.u,.u,.u,.u,.u,.u,.u,.u,.u,.u,.u,.u,.u,.u,.u,.u,.u,.u,.u,.u,.u,.u,.u,.u,.u,.u,.u,.u,.u,.u,.u,.u,.u,.u,.u,.u,.u,.s 2 0 4 9,iv 4,iv 2,.u,.u,.u,.f 109 [.p 0 0,.p 1 0],.a (cP (q3 p)),iv d,iv (W (d - 1)),.v (.bool b),.v (.bool (!b)),.u],[.live false false [.v (yv l)],.live false false [.f 109 [.p 0 0,.p 1 0]],.live false false (cP (q1 p)++(cP (q2 p)++(cP (q3 p)++cP (q4 p)))),.live false false (cP (q1 p)),.live false false (cP (q2 p)),.live false false (cP (q3 p))]⟩
def zV4 (l:Nat)(p:Zt×Zt×Zt)(d:Int):LS:=⟨[.u,iv d,.u,.p 1 0,.u,.u,.u,.u,.u,.u,.u,.u,.u,.u,.p 6 0,.u,.u,.u,.u,.u,.u,.u,.u,.u,.u,.u,.u,.u,.u,.u,.u,.u,.u,.u,.u,.u,.u,.u,.u,.u,.u,.u,.u,.u,.u,.u,.u,.u,.u,.u,.u,.u,.u,.u,.u,.u,.u,.u,.u,.u,.s 2 0 4 9,iv 4,iv 3,.u,.u,.u,.u,.u,.u,.u,.u,.u,.u],[.live false false [.v (yv l)],.live false false [.f 109 [.p 0 0,.p 1 0]],.live false false (cP (q1 p)++(cP (q2 p)++(cP (q3 p)++cP (q4 p)))),.live false false (cP (q1 p)),.live false false (cP (q2 p)),.live false false (cP (q3 p)),.live true false (cP (q4 p))]⟩
def aVk (l:Nat)(p:Zt×Zt×Zt)(d:Int):LS:=⟨[.u,iv d,.u,.p 1 0,.u,.u,.u,.u,.u,.u,.u,.u,.u,.u,.p 6 0,.u,.u,.u,.u,.u,.u,.u,.u,.u,.u,.u,.u,.u,.u,.u,.u,.u,.u,.u,.u,.u,.u,.u,.u,.u,.u,.u,.u,.u,.u,.u,.u,.u,.u,.u,.u,.u,.u,.u,.u,.u,.u,.u,.u,.u,.s 2 0 4 9,iv 4,iv 3,.u,.u,.u,.f 109 [.p 0 0,.p 1 0],.a (cP (q4 p)),iv d,iv (W (d - 1)),.u,.u,.u],[.live false false [.v (yv l)],.live false false [.f 109 [.p 0 0,.p 1 0]],.live false false (cP (q1 p)++(cP (q2 p)++(cP (q3 p)++cP (q4 p)))),.live false false (cP (q1 p)),.live false false (cP (q2 p)),.live false false (cP (q3 p)),.live true false (cP (q4 p))]⟩
def aVl (l:Nat)(p:Zt×Zt×Zt)(d:Int)(b:Bool):LS:=⟨[.u,iv d,.u,.p 1 0,.u,.u,.u,.u,.u,.u,.u,.u,.u,.u,.p 6 0,.u,.u,.u,.u,.u,.u,.u,.u,.u,.u,.u,.u,.u,.u,.u,.u,.u,.u,.u,.u,.u,.u,.u,.u,.u,.u,.u,.u,.u,.u,.u,.u,.u,.u,.u,.u,.u,.u,.u,.u,.u,.u,.u,.u,.u,.s 2 0 4 9,iv 4,iv 3,.u,.u,.u,.f 109 [.p 0 0,.p 1 0],.a (cP (q4 p)),iv d,iv (W (d - 1)),.v (.bool b),.v (.bool (!b)),.u],[.live false false [.v (yv l)],.live false false [.f 109 [.p 0 0,.p 1 0]],.live false false (cP (q1 p)++(cP (q2 p)++(cP (q3 p)++cP (q4 p)))),.live false false (cP (q1 p)),.live false false (cP (q2 p)),.live false false (cP (q3 p)),.live false false (cP (q4 p))]⟩
def vb:SV->Bool
 | .v _ | .b _=>true
 | _=>false
theorem yM {ρ ρ':Env}:∀{l:List SV} {vs us:List Value},l.all vb=true->Rels ρ l vs->Rels ρ' l us->vs=us
 | [],[],[],_,_,_=>rfl
 | [],_::_,_,_,h,_=>by simp [Rels] at h
 | [],[],_::_,_,_,h=>by simp [Rels] at h
 | _::_,[],_,_,h,_=>by simp [Rels] at h
 | _::_,_::_,[],_,_,h=>by simp [Rels] at h
 | x::l,y::vs,z::us,hp,h1,h2=>by
   simp only [List.all_cons,Bool.and_eq_true] at hp
   simp only [Rels] at h1 h2
   rw [yM hp.2 h1.2 h2.2]
   have:y=z:=by
     cases x<;>simp only [vb,Bool.false_eq_true,false_and] at hp
     · have a1:=h1.1;have a2:=h2.1;simp only [Rel] at a1 a2;rw [a1,a2]
     · have a1:=h1.1;have a2:=h2.1;simp only [Rel] at a1 a2;rw [a1,a2]
   rw [this]
theorem oP {ρ:Env} {x:SV} {l:List SV} {y:Value} {m:List Value} (h:Rel ρ x y)(h':Rels ρ l m):Rels ρ (x::l) (y::m):=by simp only [Rels];exact⟨h,h'⟩
theorem aB9 {α:Type} {xs A B:List α} {i:Nat} (h:∀j x,(A++B)[j]? = some x->xs[i+j]? = some x):(∀j x,A[j]? = some x->xs[i+j]? = some x)/\(∀j x,B[j]? = some x->xs[i+A.length+j]? = some x) :=
 ⟨fun j x hj=>h j x (by rw [List.getElem?_append_left (List.getElem?_eq_some_iff.1 hj).1];exact hj),fun j x hj=>by
   have:=h (A.length+j) x (by rw [List.getElem?_append_right (by omega),Nat.add_sub_cancel_left];exact hj)
   rwa [←Nat.add_assoc] at this⟩
section
variable {l : Nat} {J : Nat → (Nat → Prop) → World → Prop} {Jx : (Nat → Prop) → World → Prop} {xs : List (Zt × Zt × Zt)}
theorem kD (hJ:tW J)(hX:aB3 Jx) {m m':Nat} {W0:World} {S:Nat->Prop} {cx:Cx} {b:Bool} (h1:b=true->∃Sc,Seg J W0 S m' cx Sc)(h2:b=false->SegX Jx W0 S cx)(hm:m'=m)(Wd:World)(hb:Below cx.w.heap.size cx.w Wd)(hd:cx.w.drawn<=Wd.drawn) :
   VR J Jx m S W0 (.returned (.bool b)) Wd:=by
 subst hm
 cases b with
 | true =>
   obtain⟨Sc,h⟩:=h1 rfl
   exact .inl ⟨rfl,Sc,hJ _ _ _ _ h.j hb hd,h.kept.grow hb hd,h.sub⟩
 | false =>
   have h:=h2 rfl
   obtain⟨Sc,hj⟩:=h.j
   exact .inr ⟨rfl,Sc,hX _ _ _ hj hb hd,h.kept.grow hb hd⟩
theorem aQp (hJ:tW J)(hX:aB3 Jx)(hB:nU J)(hY:∀i x S W1,xs[i]? = some x->J i S W1->YieldAt (Fw none) 9 Tryz.prog l #[aB8 x] W1 (YR J Jx i S W1)):sF l J Jx xs 0:=by
 intro p i S Wd ρ vs hargs hb0 hb1 hS hj hxs
 have hx:xs[i]? = some p:=by have:=hxs 0 p rfl;simpa using this
 refine lP (n:=9) (bs:=[.live false false [.v (yv l)],.live false false [.f 109 [.p 0 0,.p 1 0]]]) Tryz.func109 rfl (by show 4<=Tryz.f109.ntmps;decide) (by kernel_rfl) ⟨rfl,rfl,trivial⟩ (by kernel_rfl) (fun i=>by rcases i with _ | _ | i<;>simp [BK.own]) (by kernel_rfl) hargs (fun i=>by rcases i with _ | _ | i<;>first | exact hb0 | exact hb1 | simp [BRep]) (fun i=>by rcases i with _ | _ | i<;>simp [BK.pl]) (fun cx hbase hw hρ hfz hown=>?_)
 subst hw
 have hd:((((0:Nat):Int):Int) == 0)=true:=rfl
 refine vT (T:=T0) hT hm (f:=5000) (orc:=[.d true,.stop 2]) [] [2,4] [2] hbase (x:=.region 2 OY false) (k':=KY) (s':=zY l p)
   (obs:=[.eq ((((0:Nat):Int):Int) == 0) true]) (by kernel_rfl) ⟨hd,trivial⟩ ?_
 have hseg:Seg J cx.w S i cx S:=⟨hj,Kept.refl _ _,fun b h=>.inl h,fun k b o n hk h=>hS k (by rw [hbase] at hk;exact hk) b o n ((hρ k).symm.trans h),hown,fun b o ho=>by rw [hfz b] at ho;cases ho⟩
 refine nV (Jx:=Jx) hT hJ hB (m:=i+1) hseg (OY.toList.take 2) oY (OY.toList.drop 3) aLs (s1:=zY1 l p) (by kernel_rfl) (by kernel_rfl) 19 (by kernel_rfl) (cA (by kernel_rfl)) 2 hbase (by kernel_rfl) (by kernel_rfl)
   (fun ρ a W2 hrep hsafe hj2 K Q' hK=>?_) (zY3 l p) (fun b=>by kernel_rfl) (fun b cx' hb' h1 h2=>?_)
 · have e1:=hrep.sl 17
   have e2:=hrep.sl 18
   refine aLp aS0 (l:=l) (vs:=#[aB8 p]) ?_ ?_ (hY i p S W2 hx hj2) hK
   · exact e1
   · have:a.eval (.tmp 18)=aB8 p:=by
       have e3:Rel ρ (.a (cP p)) (a.tmps.getD 18 undef):=e2
       simp only [Rel] at e3
       obtain⟨vs,hv,hr⟩:=e3
       have h':=aE0 ρ p
       simp only [Rel] at h'
       obtain⟨us,hu,hr'⟩:=h'
       show a.tmps.getD 18 undef=aB8 p
       rw [hv,hu]
       have:vs=us:=yM (by simp [cP,vb,iv]) hr hr'
       rw [this]
     simp [this]
 · have hown':∀c,¬cx'.own c:=by
     cases b with
     | true=>obtain⟨Sc,h⟩:=h1 rfl;exact h.own
     | false=>exact(h2 rfl).own
   exact oO (T:=T0) hT hm (f:=5000) (orc:=[]) (b:=b) (obs:=[]) (by cases b<;>kernel_rfl) trivial hown' (fun Wd hW hWd=>kD hJ hX h1 h2 rfl Wd hW hWd)
theorem aIg {d:Nat} (ih:sF l J Jx xs d) {cx:Cx} {N:Nat} {D:List Deferred} {ρ:Env} {s:FS} {a:Act} {Wd:World} (hrep:Rep cx N D ρ s a Wd) {p:Zt×Zt×Zt} {i:Nat} {S:Nat->Prop}
   (hdl:d < 1000) (e1:s.sl 66=.f 109 [.p 0 0,.p 1 0]) (e2:s.sl 67=.a (cP p)) (e3:s.sl 69=iv (W (((d+1:Nat):Int) - 1))) (e4:s.bk 0=.live false false [.v (yv l)]) (e5:s.bk 1=.live false false [.f 109 [.p 0 0,.p 1 0]])
   (hS:∀k,k < 2->∀b o n,ρ k=some (b,o,n)->¬S b) (hj:J i S Wd) (hxs:∀j x,(dD d p)[j]? = some x->xs[i+j]? = some x)
   (K:Act->World->Prop) (Q:Exit->Act->World->Prop) (hK:∀e Wd',VR J Jx (i+(dD d p).length) S Wd e Wd'->∃v,e=.returned v/\K (a.put oV.dst v) Wd'):oV.wpIn (Fw none) 9 Tryz.prog a Wd K Q:=by
 have r1:=hrep.sl 66
 have r2:=hrep.sl 67
 have r3:=hrep.sl 69
 rw [e1] at r1;rw [e2] at r2;rw [e3] at r3
 have hw:W (((d+1:Nat):Int) - 1)=(d:Int):=by rw [aJ]<;>omega
 rw [hw] at r3
 simp only [Rel] at r1
 obtain⟨vs,hv,hc⟩:=r1
 have b0:=hrep.bk 0
 have b1:=hrep.bk 1
 rw [e4] at b0;rw [e5] at b1
 refine aIc aS1 (g:=109) (caps:=vs) hv aLt (ih p i S Wd ρ _ ?_ b0.ro b1.ro hS hj hxs) hK
 exact oP r2 (oP r3 hc)
theorem aQq (hJ:tW J)(hX:aB3 Jx)(hB:nU J) {d:Nat} (hdl:d < 1000)(ih:sF l J Jx xs d):sF l J Jx xs (d+1):=by
 intro p i S Wd ρ vs hargs hb0 hb1 hS hj hxs
 obtain⟨hx1,hr1⟩:=aB9 hxs
 obtain⟨hx2,hr2⟩:=aB9 hr1
 obtain⟨hx3,hx4⟩:=aB9 hr2
 refine lP (n:=9) (bs:=[.live false false [.v (yv l)],.live false false [.f 109 [.p 0 0,.p 1 0]]]) Tryz.func109 rfl (by show 4<=Tryz.f109.ntmps;decide) (by kernel_rfl) ⟨rfl,rfl,trivial⟩ (by kernel_rfl) (fun i=>by rcases i with _ | _ | i<;>simp [BK.own]) (by kernel_rfl) hargs (fun i=>by rcases i with _ | _ | i<;>first | exact hb0 | exact hb1 | simp [BRep]) (fun i=>by rcases i with _ | _ | i<;>simp [BK.pl]) (fun cx hbase hw hρ hfz hown=>?_)
 subst hw
 have hd:((((d+1:Nat):Int):Int) == 0)=false:=by rw [beq_eq_false_iff_ne];omega
 have hseg:Seg J cx.w S i cx S:=⟨hj,Kept.refl _ _,fun b h=>.inl h,fun k b o n hk h=>hS k (by rw [hbase] at hk;exact hk) b o n ((hρ k).symm.trans h),hown,fun b o ho=>by rw [hfz b] at ho;cases ho⟩
 refine vT (T:=T0) hT hm (f:=5000) (orc:=[.d false,.call [] (.a [(iv (pF p.1 2).1),(iv (pF p.1 2).2.1),(iv (pF p.1 2).2.2)]) [],.call [] (.a [(iv (pF p.2.1 2).1),(iv (pF p.2.1 2).2.1),(iv (pF p.2.1 2).2.2)]) [],.call [] (.a [(iv (pF p.2.2 2).1),(iv (pF p.2.2 2).2.1),(iv (pF p.2.2 2).2.2)]) [],.call [] (.a [(iv (gO p.1 p.2.1).1),(iv (gO p.1 p.2.1).2.1),(iv (gO p.1 p.2.1).2.2)]) [],.call [] (.a [(iv (gO p.2.1 p.2.2).1),(iv (gO p.2.1 p.2.2).2.1),(iv (gO p.2.1 p.2.2).2.2)]) [],.call [] (.a [(iv (gO p.2.2 p.1).1),(iv (gO p.2.2 p.1).2.1),(iv (gO p.2.2 p.1).2.2)]) [],.un 4,.d true,.stop 8]) [] [1,3,14,60,61,62] [9,10] hbase (x:=.region 8 OV false) (k':=KV 4) (s':=zV1 l p (d+1:Nat))
   (obs:=[.eq ((((d+1:Nat):Int):Int) == 0) false,.call 48 [(.a [(iv p.1.1),(iv p.1.2.1),(iv p.1.2.2)]),(iv 2)] [] (.a [(iv (pF p.1 2).1),(iv (pF p.1 2).2.1),(iv (pF p.1 2).2.2)]) [],.call 48 [(.a [(iv p.2.1.1),(iv p.2.1.2.1),(iv p.2.1.2.2)]),(iv 2)] [] (.a [(iv (pF p.2.1 2).1),(iv (pF p.2.1 2).2.1),(iv (pF p.2.1 2).2.2)]) [],.call 48 [(.a [(iv p.2.2.1),(iv p.2.2.2.1),(iv p.2.2.2.2)]),(iv 2)] [] (.a [(iv (pF p.2.2 2).1),(iv (pF p.2.2 2).2.1),(iv (pF p.2.2 2).2.2)]) [],.call 110 [(.a [(iv p.1.1),(iv p.1.2.1),(iv p.1.2.2)]),(.a [(iv p.2.1.1),(iv p.2.1.2.1),(iv p.2.1.2.2)])] [] (.a [(iv (gO p.1 p.2.1).1),(iv (gO p.1 p.2.1).2.1),(iv (gO p.1 p.2.1).2.2)]) [],.call 110 [(.a [(iv p.2.1.1),(iv p.2.1.2.1),(iv p.2.1.2.2)]),(.a [(iv p.2.2.1),(iv p.2.2.2.1),(iv p.2.2.2.2)])] [] (.a [(iv (gO p.2.1 p.2.2).1),(iv (gO p.2.1 p.2.2).2.1),(iv (gO p.2.1 p.2.2).2.2)]) [],.call 110 [(.a [(iv p.2.2.1),(iv p.2.2.2.1),(iv p.2.2.2.2)]),(.a [(iv p.1.1),(iv p.1.2.1),(iv p.1.2.2)])] [] (.a [(iv (gO p.2.2 p.1).1),(iv (gO p.2.2 p.1).2.1),(iv (gO p.2.2 p.1).2.2)]) [],.eq true true,.pr (0<=(0:Int)/\(0:Int) < ((4:Nat):Int))]) (by kernel_rfl) ⟨hd,(C48 p.1 2),(C48 p.2.1 2),(C48 p.2.2 2),(aQm p.1 p.2.1),(aQm p.2.1 p.2.2),(aQm p.2.2 p.1),rfl,(show 0<=(0:Int)/\(0:Int) < ((4:Nat):Int) from by decide),trivial⟩ ?_
 refine nV (Jx:=Jx) hT hJ hB (m:=i+(dD d (q1 p)).length) hseg (OV.toList.take 4) oV (OV.toList.drop 5) sG (s1:=aVe l p (d+1:Nat)) (by kernel_rfl) (by kernel_rfl) 70 (by kernel_rfl) (cA (by kernel_rfl)) 2 hbase (by kernel_rfl) (by kernel_rfl)
   (fun ρ a W2 hrep hsafe hj2 K Q' hK=>aIg ih hrep hdl rfl rfl rfl rfl rfl (fun k hk b o n h=>(match k,hk,h with | 0,_,h=>hsafe 0 _ _ _ rfl b o n h | 1,_,h=>hsafe 1 _ _ _ rfl b o n h)) hj2 (fun j x hj=>hx1 j x hj) K Q' hK) (aVf l p (d+1:Nat)) (fun b=>by kernel_rfl) (fun b cx hbase h1 h2=>?_)
 cases b with
 | false =>
   exact oO (T:=T0) hT hm (f:=5000) (orc:=[.d true]) (b:=false) (obs:=[.eq (!false) true]) (by kernel_rfl) ⟨rfl,trivial⟩ (h2 rfl).own (fun W hW hWd=>kD (m':=i+(dD (d+1) p).length) hJ hX (fun h=>by cases h) h2 rfl W hW hWd)
 | true =>
   obtain⟨Sc,hseg⟩:=h1 rfl
   refine vT (T:=T0) hT hm (f:=5000) (orc:=[.d false,.un 0,.d true,.stop 8]) [] [1,3,14,60,61,62] [4] hbase (x:=.region 8 OV false) (k':=KV 3) (s':=zV2 l p (d+1:Nat))
     (obs:=[.eq (!true) false,.eq (decide ((1:Int) < 4)) true,.pr (0<=(1:Int)/\(1:Int) < ((4:Nat):Int))]) (by kernel_rfl) ⟨rfl,rfl,(show 0<=(1:Int)/\(1:Int) < ((4:Nat):Int) from by decide),trivial⟩ ?_
   refine nV (Jx:=Jx) hT hJ hB (m:=i+(dD d (q1 p)).length+(dD d (q2 p)).length) hseg (OV.toList.take 4) oV (OV.toList.drop 5) sG (s1:=aVg l p (d+1:Nat)) (by kernel_rfl) (by kernel_rfl) 70 (by kernel_rfl) (cA (by kernel_rfl)) 4 hbase (by kernel_rfl) (by kernel_rfl)
     (fun ρ a W2 hrep hsafe hj2 K Q' hK=>aIg ih hrep hdl rfl rfl rfl rfl rfl (fun k hk b o n h=>(match k,hk,h with | 0,_,h=>hsafe 0 _ _ _ rfl b o n h | 1,_,h=>hsafe 1 _ _ _ rfl b o n h)) hj2 (fun j x hj=>hx2 j x hj) K Q' hK) (aVh l p (d+1:Nat)) (fun b=>by kernel_rfl) (fun b cx hbase h1 h2=>?_)
   cases b with
   | false =>
     exact oO (T:=T0) hT hm (f:=5000) (orc:=[.d true]) (b:=false) (obs:=[.eq (!false) true]) (by kernel_rfl) ⟨rfl,trivial⟩ (h2 rfl).own (fun W hW hWd=>kD (m':=i+(dD (d+1) p).length) hJ hX (fun h=>by cases h) h2 rfl W hW hWd)
   | true =>
     obtain⟨Sc,hseg⟩:=h1 rfl
     refine vT (T:=T0) hT hm (f:=5000) (orc:=[.d false,.un 0,.d true,.stop 8]) [] [1,3,14,60,61,62] [5] hbase (x:=.region 8 OV false) (k':=KV 2) (s':=zV3 l p (d+1:Nat))
       (obs:=[.eq (!true) false,.eq (decide ((2:Int) < 4)) true,.pr (0<=(2:Int)/\(2:Int) < ((4:Nat):Int))]) (by kernel_rfl) ⟨rfl,rfl,(show 0<=(2:Int)/\(2:Int) < ((4:Nat):Int) from by decide),trivial⟩ ?_
     refine nV (Jx:=Jx) hT hJ hB (m:=i+(dD d (q1 p)).length+(dD d (q2 p)).length+(dD d (q3 p)).length) hseg (OV.toList.take 4) oV (OV.toList.drop 5) sG (s1:=aVi l p (d+1:Nat)) (by kernel_rfl) (by kernel_rfl) 70 (by kernel_rfl) (cA (by kernel_rfl)) 5 hbase (by kernel_rfl) (by kernel_rfl)
       (fun ρ a W2 hrep hsafe hj2 K Q' hK=>aIg ih hrep hdl rfl rfl rfl rfl rfl (fun k hk b o n h=>(match k,hk,h with | 0,_,h=>hsafe 0 _ _ _ rfl b o n h | 1,_,h=>hsafe 1 _ _ _ rfl b o n h)) hj2 (fun j x hj=>hx3 j x hj) K Q' hK) (aVj l p (d+1:Nat)) (fun b=>by kernel_rfl) (fun b cx hbase h1 h2=>?_)
     cases b with
     | false =>
       exact oO (T:=T0) hT hm (f:=5000) (orc:=[.d true]) (b:=false) (obs:=[.eq (!false) true]) (by kernel_rfl) ⟨rfl,trivial⟩ (h2 rfl).own (fun W hW hWd=>kD (m':=i+(dD (d+1) p).length) hJ hX (fun h=>by cases h) h2 rfl W hW hWd)
     | true =>
       obtain⟨Sc,hseg⟩:=h1 rfl
       refine vT (T:=T0) hT hm (f:=5000) (orc:=[.d false,.un 0,.d true,.stop 8]) [] [1,3,14,60,61,62] [6] hbase (x:=.region 8 OV false) (k':=KV 1) (s':=zV4 l p (d+1:Nat))
         (obs:=[.eq (!true) false,.eq (decide ((3:Int) < 4)) true,.pr (0<=(3:Int)/\(3:Int) < ((4:Nat):Int))]) (by kernel_rfl) ⟨rfl,rfl,(show 0<=(3:Int)/\(3:Int) < ((4:Nat):Int) from by decide),trivial⟩ ?_
       refine nV (Jx:=Jx) hT hJ hB (m:=i+(dD d (q1 p)).length+(dD d (q2 p)).length+(dD d (q3 p)).length+(dD d (q4 p)).length) hseg (OV.toList.take 4) oV (OV.toList.drop 5) sG (s1:=aVk l p (d+1:Nat)) (by kernel_rfl) (by kernel_rfl) 70 (by kernel_rfl) (cA (by kernel_rfl)) 6 hbase (by kernel_rfl) (by kernel_rfl)
         (fun ρ a W2 hrep hsafe hj2 K Q' hK=>aIg ih hrep hdl rfl rfl rfl rfl rfl (fun k hk b o n h=>(match k,hk,h with | 0,_,h=>hsafe 0 _ _ _ rfl b o n h | 1,_,h=>hsafe 1 _ _ _ rfl b o n h)) hj2 (fun j x hj=>hx4 j x hj) K Q' hK) (aVl l p (d+1:Nat)) (fun b=>by kernel_rfl) (fun b cx hbase h1 h2=>?_)
       cases b with
       | false =>
         exact oO (T:=T0) hT hm (f:=5000) (orc:=[.d true]) (b:=false) (obs:=[.eq (!false) true]) (by kernel_rfl) ⟨rfl,trivial⟩ (h2 rfl).own (fun W hW hWd=>kD (m':=i+(dD (d+1) p).length) hJ hX (fun h=>by cases h) h2 rfl W hW hWd)
       | true =>
         exact oO (T:=T0) hT hm (f:=5000) (orc:=[.d false,.un 0,.d false]) (b:=true) (obs:=[.eq (!true) false,.eq (decide ((4:Int) < 4)) false]) (by kernel_rfl) ⟨rfl,rfl,trivial⟩ (h1 rfl).choose_spec.own (fun W hW hWd=>kD hJ hX h1 h2 (by simp only [dD,List.length_append];omega) W hW hWd)
theorem aBc (hJ:tW J)(hX:aB3 Jx)(hB:nU J)(hY:∀i x S W1,xs[i]? = some x->J i S W1->YieldAt (Fw none) 9 Tryz.prog l #[aB8 x] W1 (YR J Jx i S W1)):∀d,d < 1000->sF l J Jx xs d
 | 0,_=>aQp hJ hX hB hY
 | d+1,h=>aQq hJ hX hB (by omega) (aBc hJ hX hB hY d (by omega))
end
noncomputable def O2:Array Oper:=match (eB [1,1,1] [] (Tryz.f108.body.getD .skip)).1 with
 | .region _ ops _=>ops
 | _=>#[]
noncomputable def o2:Oper:=O2.toList.getD 3 default
theorem aS2:o2.op=.call { callee:=.value (.tmp 6),args:=#[.tmp 7,.tmp 8],argTypes:=aGk o2 }:=by kernel_rfl
theorem aLu:O2.toList=O2.toList.take 3++[o2]:=by kernel_rfl
def z2 (l:Nat)(p:Zt×Zt×Zt)(d:Int):LS:=⟨[.u,.p 0 0,.p 1 0,.u,.p 3 0,.u,.u,.u,.u,.u],[.live false false (cP p),.live false false [iv d],.live true false [.v (yv l)],.live true false [.f 109 [.p 2 0,.p 3 0]]]⟩
def z21 (l:Nat)(p:Zt×Zt×Zt)(d:Int):LS:=⟨[.u,.p 0 0,.p 1 0,.u,.p 3 0,.u,.f 109 [.p 2 0,.p 3 0],.a (cP p),iv d,.u],[.live false false (cP p),.live false false [iv d],.live true false [.v (yv l)],.live true false [.f 109 [.p 2 0,.p 3 0]]]⟩
theorem aLv (p:Zt×Zt×Zt)(d:Nat)(hd:d < 1000):aOb Tryz.prog 108 [.p 0 0,.p 1 0] [.live false false (cP p),.live false false [iv (d:Nat)]] aB8 (dD d p):=by
 refine⟨aQo,fun ρ Wd lb hcaps hbs hpl l J Jx S0 hJ hX hB hY h0=>?_⟩
 have hcon:Calls Tryz.prog 108 ((Value.func (.yield l) #[] #[])::lb).toArray Wd fun e Wd'=>(∃v,e=.returned v)/\∃S',(J (dD d p).length S' Wd'\/Jx S' Wd')/\Kept Wd S0 Wd':=by
   refine lP (n:=9) (args:=[.v (yv l),.p 0 0,.p 1 0]) (bs:=[.live false false (cP p),.live false false [iv (d:Nat)]]) Tryz.func108 rfl (by show 3<=Tryz.f108.ntmps;decide) (by kernel_rfl) ⟨rfl,rfl,trivial⟩ (by kernel_rfl) (fun i=>by rcases i with _ | _ | i<;>simp [BK.own]) (by kernel_rfl) ⟨rfl,hcaps⟩ hbs hpl (fun cx hbase hw hρ hfz hown=>?_)
   subst hw
   refine vT (T:=T0) hT hm (f:=5000) (orc:=[.stop 3]) [] [1,2,4] [2,3] hbase (x:=.region 3 O2 false) (k':=[]) (s':=z2 l p d)
     (obs:=[]) (by kernel_rfl) trivial ?_
   intro ρ a Wd hrep
   simp only [eR]
   refine wpIn_region ?_
   have hsz:O2.size=(O2.toList.take 3).length+(0+1):=by kernel_rfl
   have hget:∀j,O2[j]? = (O2.toList.take 3++[o2])[j]? := fun j=>by rw [←aLu,Array.getElem?_toList]
   rw [hsz,vU]
   refine wV hT (O2.toList.take 3) 0 (z2 l p d) (z21 l p d) [] [] _ [] (sD (T:=T0) (obs:=[]) (by kernel_rfl)).choose_spec trivial (fun j o' hj=>?_) ρ a Wd hrep (fun ρ1 a1 W1 hrep1 hl1=>?_)
   · rw [hget,Nat.zero_add,List.getElem?_append_left (List.getElem?_eq_some_iff.1 hj).1];exact hj
   rw [wpOpsIn_cons]
   unfold wpOpIn
   have ho:O2[(O2.toList.take 3).length]? = some o2:=by rw [hget,List.getElem?_append_right (Nat.le_refl _)];simp
   rw [ho]
   have hw:Region.wanted o2 (yielded O2 a1.tmps)=true:=by
     have hg:o2.guard=none:=by kernel_rfl
     unfold Region.wanted;rw [hg]
   simp only [hw,if_true]
   have hbel:Below cx.w.heap.size cx.w W1:=by
     have:=hrep1.kept
     exact⟨this.os,this.tape,this.output,this.size,fun k hk=>this.block k hk (hown k)⟩
   have r1:=hrep1.sl 6
   have r2:=hrep1.sl 7
   have r3:=hrep1.sl 8
   have r1':Rel ρ1 (.f 109 [.p 2 0,.p 3 0]) (a1.tmps.getD 6 undef):=r1
   have r2':Rel ρ1 (.a (cP p)) (a1.tmps.getD 7 undef):=r2
   have r3':Rel ρ1 (iv (d:Nat)) (a1.tmps.getD 8 undef):=r3
   simp only [Rel] at r1'
   obtain⟨vs,hv,hc⟩:=r1'
   have own2:∀b,cx.mine b->cx.w.heap.size<=b:=fun b hb=>hb.elim id (fun h=>(hown b h).elim)
   have b2:=(rV (ks:=[2,3]) (i:=0) (m:=false) (x:=.live true false [.v (yv l)]) (y:=.live false false [.v (yv l)]) (M':=fun b=>W1.heap.size<=b) rfl rfl trivial (hrep1.bk 2) (fun _ h=>by cases h) (fun _ b hlt _ hM=>absurd hM (Nat.not_le_of_lt hlt))).1
   have b3:=(rV (ks:=[2,3]) (i:=1) (m:=false) (x:=.live true false [.f 109 [.p 2 0,.p 3 0]]) (y:=.live false false [.f 109 [.p 0 0,.p 1 0]]) (M':=fun b=>W1.heap.size<=b) rfl rfl trivial (hrep1.bk 3) (fun _ h=>by cases h) (fun _ b hlt _ hM=>absurd hM (Nat.not_le_of_lt hlt))).1
   have hS2:∀k,k < 2->∀b o n,fR ρ1 [2,3] k=some (b,o,n)->¬S0 b:=fun k hk b o n h hSb=>by
     have hlt:=hB _ _ _ h0 b hSb
     have own:∀j,(z21 l p d).fs.bk j≠.un->((z21 l p d).fs.bk j).own->ρ1 j=some (b,o,n)->False:=fun j _ hj hρ=>by
       have hb:=hrep1.bk j
       cases hx:(z21 l p d).fs.bk j with
       | un=>rw [hx] at hj;exact hj
       | dead=>rw [hx] at hj;exact hj
       | map es =>
         rw [hx] at hb
         obtain⟨b',n',arr,q1,q2,_⟩:=hb
         rw [hρ] at q1;cases q1
         have:=own2 b q2;omega
       | live ow sy cs=>cases ow with
         | false=>rw [hx] at hj;exact hj
         | true =>
           rw [hx] at hb
           rcases hb with⟨q,_⟩ | ⟨b',vs,rest,ty,q1,q2,_⟩
           · rw [hρ] at q;cases q
           · rw [hρ] at q1;cases q1
             have:=own2 b q2;omega
     match k,hk with
     | 0,_=>exact own 2 (by simp [z21,LS.fs]) (by trivial) h
     | 1,_=>exact own 3 (by simp [z21,LS.fs]) (by trivial) h
   refine aIc aS2 (g:=109) (caps:=vs) hv aLt ((aBc (l:=l) hJ hX hB hY d hd) p 0 S0 W1 (fR ρ1 [2,3]) (a1.tmps.getD 7 undef::a1.tmps.getD 8 undef::vs) ?_ b2 b3 hS2 (hJ _ _ _ _ h0 hbel hrep1.kept.drawn) (fun j x hj=>by rw [Nat.zero_add];exact hj)) (fun e Wd' hR=>?_)
   · exact oP (rU (ks:=[2,3]) (.a (cP p)) (.a (cP p)) _ rfl r2') (oP (rU (ks:=[2,3]) (iv (d:Nat)) (iv (d:Nat)) _ rfl r3') (renL_rel (ks:=[2,3]) [.p 2 0,.p 3 0] [.p 0 0,.p 1 0] vs rfl hc))
   · have fin:∀v:Bool,e=.returned (.bool v)->(∃S',(J (dD d p).length S' Wd'\/Jx S' Wd')/\Kept W1 S0 Wd')->∃v,e=.returned v/\wpOpsIn (Fw none) 9 Tryz.prog O2 (eR none 9 Tryz.prog (bodyPost Tryz.prog Tryz.f108 (fun e Wd'=>(∃v,e=.returned v)/\∃S',(J (dD d p).length S' Wd'\/Jx S' Wd')/\Kept cx.w S0 Wd')) []) (List.range' ((O2.toList.take 3).length+1) 0) (a1.put o2.dst v) Wd':=fun v he ⟨S',hj',hk'⟩=>by
       refine⟨_,he,?_⟩
       simp only [List.range'_zero,wpOpsIn,eR]
       refine⟨?_,_,aEy (by kernel_rfl),⟨_,rfl⟩,S',hj',?_⟩
       · exact hrep1.defs
       · exact(Kept.of_below S0 hbel hrep1.kept.drawn).trans hk' (fun b hb _=>hb)
     rcases hR with⟨he,S',hj',hk',_⟩ | ⟨he,S',hj',hk'⟩
     · exact fin true he ⟨S',.inl (by rwa [Nat.zero_add] at hj'),hk'⟩
     · exact fin false he ⟨S',.inr hj',hk'⟩
 have e:((Value.func (.yield l) #[] #[])::lb).toArray=#[.func (.yield l) #[] #[]]++lb.toArray:=by apply Array.ext';simp
 rw [←e];exact hcon
theorem aJ8 (p:Zt×Zt×Zt)(d:Int)(h:0<=d/\d<=3):aOb Tryz.prog 108 [.p 0 0,.p 1 0] [.live false false (cP p),.live false false [iv d]] aB8 (dD (toNat d) p):=by
 have:=aLv p d.toNat (by omega)
 rwa [Int.toNat_of_nonneg h.1] at this
end Go.Proofs.YtmihafgemmgepaaGreat
namespace Go.Proofs.YtmihafgemmgepaaGreat
open Go.Proofs Go.Aw Go.RowKit
set_option maxRecDepth 100000
def wO (a0:Int)(a1:Int)(a2:Int):Bool :=
 (bif (decide ((a1:Int)<=a0)) then
  (decide ((a0:Int)<=a2))
 else
  false)
theorem aQr (a0:Int)(a1:Int)(a2:Int):Con Tryz.prog 122 [(iv a0),(iv a1),(iv a2)] [] (.v (.bool (wO a0 a1 a2))) []:=by
 refine aO Tryz.func122 (by kernel_rfl) fun cx hcx=>?_
 cases h0:(decide ((a1:Int)<=a0)) with
 | true =>
  have q0:=cA h0
  have e:=Eq.refl (wO a0 a1 a2);conv at e=>rhs;simp only [wO,h0,aS]
  rw [e]
  exact rt [.d h0] [] [] hcx (by kernel_rfl)
 | false =>
  have q0:=cH h0
  have e:=Eq.refl (wO a0 a1 a2);conv at e=>rhs;simp only [wO,h0,aS]
  rw [e]
  exact rt [.d h0] [] [] hcx (by kernel_rfl)
def F87 (a0:Zt)(a1:Int):Bool :=
 (bif (wO a0.1 (W (0 - a1)) a1) then
  (bif (wO a0.2.1 (W (0 - a1)) a1) then
   (wO a0.2.2 (W (0 - a1)) a1)
  else
   false)
 else
  false)
theorem C87 (a0:Zt)(a1:Int):Con Tryz.prog 87 [(.a (k3 a0)),(iv a1)] [] (.v (.bool (F87 a0 a1))) []:=by
 refine aO Tryz.func87 (by kernel_rfl) fun cx hcx=>?_
 let t0:List (St Tryz.prog):=[.c [] (aQr a0.1 (W (0 - a1)) a1)]
 cases h0:(wO a0.1 (W (0 - a1)) a1) with
 | true =>
  let t1:List (St Tryz.prog):=(t0++[.d h0,.c [] (aQr a0.2.1 (W (0 - a1)) a1)])
  cases h1:(wO a0.2.1 (W (0 - a1)) a1) with
  | true =>
   have e:=Eq.refl (F87 a0 a1);conv at e=>rhs;simp only [F87,h0,h1,aS]
   rw [e]
   exact rt (t1++[.d h1,.c [] (aQr a0.2.2 (W (0 - a1)) a1)]) [] [] hcx (by kernel_rfl)
  | false =>
   have e:=Eq.refl (F87 a0 a1);conv at e=>rhs;simp only [F87,h0,h1,aS]
   rw [e]
   exact rt (t1++[.d h1]) [] [] hcx (by kernel_rfl)
 | false =>
  have e:=Eq.refl (F87 a0 a1);conv at e=>rhs;simp only [F87,h0,aS]
  rw [e]
  exact rt (t0++[.d h0]) [] [] hcx (by kernel_rfl)
def aLw (a0:Zt)(a1:Int)(a2:Zt):Zt :=
 ((W (a0.1+(W (a1*a2.1)))),(W (a0.2.1+(W (a1*a2.2.1)))),(W (a0.2.2+(W (a1*a2.2.2)))))
theorem aVm (a0:Zt)(a1:Int)(a2:Zt):Con Tryz.prog 144 [(.a (k3 a0)),(iv a1),(.a (k3 a2))] [] (.a (k3 (aLw a0 a1 a2))) []:=by
 refine aO Tryz.func144 (by kernel_rfl) fun cx hcx=>?_
 have e:=Eq.refl (aLw a0 a1 a2);conv at e=>rhs;simp only [aLw]
 rw [e]
 exact rt [] [] [] hcx (by kernel_rfl)
def aCa (a0:Zt)(a1:Zt):Zt :=
 (aLw a0 (-1) a1)
theorem aS3 (a0:Zt)(a1:Zt):Con Tryz.prog 124 [(.a (k3 a0)),(.a (k3 a1))] [] (.a (k3 (aCa a0 a1))) []:=by
 refine aO Tryz.func124 (by kernel_rfl) fun cx hcx=>?_
 have e:=Eq.refl (aCa a0 a1);conv at e=>rhs;simp only [aCa]
 rw [e]
 exact rt [.c [] (aVm a0 (-1) a1)] [] [] hcx (by kernel_rfl)
def aLx (a0:Zt)(a1:Zt):Zt :=
 ((W ((W (a0.2.1*a1.2.2)) - (W (a0.2.2*a1.2.1)))),(W ((W (a0.2.2*a1.1)) - (W (a0.1*a1.2.2)))),(W ((W (a0.1*a1.2.1)) - (W (a0.2.1*a1.1)))))
theorem aVn (a0:Zt)(a1:Zt):Con Tryz.prog 123 [(.a (k3 a0)),(.a (k3 a1))] [] (.a (k3 (aLx a0 a1))) []:=by
 refine aO Tryz.func123 (by kernel_rfl) fun cx hcx=>?_
 have e:=Eq.refl (aLx a0 a1);conv at e=>rhs;simp only [aLx]
 rw [e]
 exact rt [] [] [] hcx (by kernel_rfl)
def F88 (a0:Zt×Zt×Zt):Zt :=
 (aLx (aCa a0.2.1 a0.1) (aCa a0.2.2 a0.1))
theorem C88 (a0:Zt×Zt×Zt):Con Tryz.prog 88 [(.a (k9 a0))] [] (.a (k3 (F88 a0))) []:=by
 refine aO Tryz.func88 (by kernel_rfl) fun cx hcx=>?_
 have e:=Eq.refl (F88 a0);conv at e=>rhs;simp only [F88]
 rw [e]
 exact rt [.c [] (aS3 a0.2.1 a0.1),.c [] (aS3 a0.2.2 a0.1),.c [] (aVn (aCa a0.2.1 a0.1) (aCa a0.2.2 a0.1))] [] [] hcx (by kernel_rfl)
def sH (a0:Zt×Zt×Zt):Int :=
 (bif (!(F87 a0.1 64)) then
  1
 else
  (bif (!(F87 a0.2.1 64)) then
   1
  else
   (bif (!(F87 a0.2.2 64)) then
    1
   else
    (bif ((((F88 a0).1:Int) == 0)&&((((F88 a0).2.1:Int) == 0)&&((((F88 a0).2.2:Int) == 0)&&true))) then
     6
    else
     0))))
theorem C58 (a0:Zt×Zt×Zt):Con Tryz.prog 58 [(.a (k9 a0))] [] (iv (sH a0)) []:=by
 refine aO Tryz.func58 (by kernel_rfl) fun cx hcx=>?_
 let t0:List (St Tryz.prog):=[.c [] (C87 a0.1 64)]
 cases h0:(!(F87 a0.1 64)) with
 | true =>
  have e:=Eq.refl (sH a0);conv at e=>rhs;simp only [sH,h0,aS]
  rw [e]
  exact rt (t0++[.d h0]) [] [] hcx (by kernel_rfl)
 | false =>
  let t1:List (St Tryz.prog):=(t0++[.d h0,.c [] (C87 a0.2.1 64)])
  cases h1:(!(F87 a0.2.1 64)) with
  | true =>
   have e:=Eq.refl (sH a0);conv at e=>rhs;simp only [sH,h0,h1,aS]
   rw [e]
   exact rt (t1++[.d h1]) [] [] hcx (by kernel_rfl)
  | false =>
   let t2:List (St Tryz.prog):=(t1++[.d h1,.c [] (C87 a0.2.2 64)])
   cases h2:(!(F87 a0.2.2 64)) with
   | true =>
    have e:=Eq.refl (sH a0);conv at e=>rhs;simp only [sH,h0,h1,h2,aS]
    rw [e]
    exact rt (t2++[.d h2]) [] [] hcx (by kernel_rfl)
   | false =>
    let t3:List (St Tryz.prog):=(t2++[.d h2,.c [] (C88 a0)])
    cases h3:((((F88 a0).1:Int) == 0)&&((((F88 a0).2.1:Int) == 0)&&((((F88 a0).2.2:Int) == 0)&&true))) with
    | true =>
     have e:=Eq.refl (sH a0);conv at e=>rhs;simp only [sH,h0,h1,h2,h3,aS]
     rw [e]
     exact rt (t3++[.d h3]) [] [] hcx (by kernel_rfl)
    | false =>
     have e:=Eq.refl (sH a0);conv at e=>rhs;simp only [sH,h0,h1,h2,h3,aS]
     rw [e]
     exact rt (t3++[.d h3]) [] [] hcx (by kernel_rfl)
def F59 (a0:Int)(a1:Int)(a2:Int):Bool :=
 (bif (decide ((a0:Int)≥a1)) then
  (decide ((a0:Int)<=a2))
 else
  false)
theorem C59 (a0:Int)(a1:Int)(a2:Int):Con Tryz.prog 59 [(iv a0),(iv a1),(iv a2)] [] (.v (.bool (F59 a0 a1 a2))) []:=by
 refine aO Tryz.func59 (by kernel_rfl) fun cx hcx=>?_
 cases h0:(decide ((a0:Int)≥a1)) with
 | true =>
  have q0:=cA h0
  have e:=Eq.refl (F59 a0 a1 a2);conv at e=>rhs;simp only [F59,h0,aS]
  rw [e]
  exact rt [.d h0] [] [] hcx (by kernel_rfl)
 | false =>
  have q0:=cH h0
  have e:=Eq.refl (F59 a0 a1 a2);conv at e=>rhs;simp only [F59,h0,aS]
  rw [e]
  exact rt [.d h0] [] [] hcx (by kernel_rfl)
def F46 (a0:Zt×Zt×Zt)(a1:Zt×Zt×Zt)(a2:Int):Int :=
 (bif (((sH a0):Int) != 0) then
  (sH a0)
 else
  (bif (((sH a1):Int) != 0) then
   (sH a1)
  else
   (bif (!(F59 a2 0 2)) then
    1
   else
    0)))
theorem C46 (a0:Zt×Zt×Zt)(a1:Zt×Zt×Zt)(a2:Int):Con Tryz.prog 46 [(.a (k9 a0)),(.a (k9 a1)),(iv a2)] [] (iv (F46 a0 a1 a2)) []:=by
 refine aO Tryz.func46 (by kernel_rfl) fun cx hcx=>?_
 let t0:List (St Tryz.prog):=[.c [] (C58 a0)]
 cases h0:(((sH a0):Int) != 0) with
 | true =>
  have q0:=bne_iff_ne.1 h0
  have e:=Eq.refl (F46 a0 a1 a2);conv at e=>rhs;simp only [F46,h0,aS]
  rw [e]
  exact rt (t0++[.d h0]) [] [] hcx (by kernel_rfl)
 | false =>
  have q0:=bne_eq_false_iff_eq.1 h0
  let t1:List (St Tryz.prog):=(t0++[.d h0,.c [] (C58 a1)])
  cases h1:(((sH a1):Int) != 0) with
  | true =>
   have q1:=bne_iff_ne.1 h1
   have e:=Eq.refl (F46 a0 a1 a2);conv at e=>rhs;simp only [F46,h0,h1,aS]
   rw [e]
   exact rt (t1++[.d h1]) [] [] hcx (by kernel_rfl)
  | false =>
   have q1:=bne_eq_false_iff_eq.1 h1
   let t2:List (St Tryz.prog):=(t1++[.d h1,.c [] (C59 a2 0 2)])
   cases h2:(!(F59 a2 0 2)) with
   | true =>
    have e:=Eq.refl (F46 a0 a1 a2);conv at e=>rhs;simp only [F46,h0,h1,h2,aS]
    rw [e]
    exact rt (t2++[.d h2]) [] [] hcx (by kernel_rfl)
   | false =>
    have e:=Eq.refl (F46 a0 a1 a2);conv at e=>rhs;simp only [F46,h0,h1,h2,aS]
    rw [e]
    exact rt (t2++[.d h2]) [] [] hcx (by kernel_rfl)
noncomputable def aCb:Code:=(aI [1,1,0,1] [] (aL Tryz.f106) []).1
noncomputable def aCc:List K:=(aI [1,1,0,1] [] (aL Tryz.f106) []).2
def wW (a0:Int)(v1 v2:Int):LS:=⟨iM 22 [(0,(iv a0)),(3,(iv v1)),(4,(iv v2))],[]⟩
def lQ (a0:Int):Int×Int->(Int×Int)⊕(Int)
 | (v1,v2) =>
  (bif (decide ((v2:Int) > 0)) then
   (bif (decide (((W ((W (v1+v2))*(W (v1+v2)))):Int)<=a0)) then
    (.inl ((W (v1+v2)),(v2 / 2)))
   else
    (.inl (v1,(v2 / 2))))
  else
   (.inr v1))
theorem aQs (a0:Int) {cx:Cx} (hcx:cx.base=0):∀(n:Nat) (v1 v2:Int),True->toNat v2 < n->Aw.Good Tryz.prog none 9 (bodyPost Tryz.prog Tryz.f106 (RR cx (iv (aC (lQ a0) n (v1,v2))) [] [])) cx [] (.l aCb n::aCc) (wW a0 v1 v2):=by
 intro n
 induction n with
 | zero=>intro v1 v2 hi hn;exact absurd hn (eP _)
 | succ n ih =>
   intro v1 v2 hi hn
   refine aQ ?_
   cases h0:(decide ((v2:Int) > 0)) with
   | true =>
    have q0:=cA h0
    let t1:List (St Tryz.prog):=[.d h0]
    cases h1:(decide (((W ((W (v1+v2))*(W (v1+v2)))):Int)<=a0)) with
    | true =>
     have q1:=cA h1
     have e:=Eq.refl (lQ a0 (v1,v2));conv at e=>rhs;simp only [lQ,h0,h1,aS]
     rw [aE e]
     refine ba (t1++[.d h1,.p (show 0<=(1:Int) from by decide)]) [] [0,3,4] [] hcx (m:=n) aCb (aCc) (wW a0 (W (v1+v2)) (Int.fdiv v2 (2 ^ (min (toNat 1) 64)))) (by kernel_rfl) ?_
     have z0:(Int.fdiv v2 (2 ^ (min (toNat 1) 64)))=(v2 / 2):=tY _ 1 (by decide)
     rw [z0]
     exact ih (W (v1+v2)) (v2 / 2) trivial (by(try simp only [Ls]);omega)
    | false =>
     have q1:=cH h1
     have e:=Eq.refl (lQ a0 (v1,v2));conv at e=>rhs;simp only [lQ,h0,h1,aS]
     rw [aE e]
     refine ba (t1++[.d h1,.p (show 0<=(1:Int) from by decide)]) [] [0,3,4] [] hcx (m:=n) aCb (aCc) (wW a0 v1 (Int.fdiv v2 (2 ^ (min (toNat 1) 64)))) (by kernel_rfl) ?_
     have z0:(Int.fdiv v2 (2 ^ (min (toNat 1) 64)))=(v2 / 2):=tY _ 1 (by decide)
     rw [z0]
     exact ih v1 (v2 / 2) trivial (by(try simp only [Ls]);omega)
   | false =>
    have q0:=cH h0
    have e:=Eq.refl (lQ a0 (v1,v2));conv at e=>rhs;simp only [lQ,h0,aS]
    rw [aN,e]
    exact rt [.d h0] [] [] hcx (by kernel_rfl)
def jU (a0:Int):Int :=
 (aC (lQ a0) (toNat 1073741824+1) (0,1073741824))
theorem aS4 (a0:Int):Con Tryz.prog 106 [(iv a0)] [] (iv (jU a0)) []:=by
 refine aO Tryz.func106 (by kernel_rfl) fun cx hcx=>?_
 have e:=Eq.refl (jU a0);conv at e=>rhs;simp only [jU]
 rw [e]
 refine en [] [] [0,3,4] [] hcx aCb (aCc) (wW a0 0 1073741824) (toNat 1073741824+1) (by kernel_rfl) ?_
 exact aQs a0 hcx (toNat 1073741824+1) 0 1073741824 trivial (by(try simp only [Ls]);omega)
def yN (a0:(Int)×(Int)×(Int)):Int :=
 (W ((W ((W (0+a0.1))+a0.2.1))+a0.2.2))
theorem aQt (a0:(Int)×(Int)×(Int)):Con Tryz.prog 135 [(.s 0 0 3 1)] [(.live false false (k3 a0))] (iv (yN a0)) []:=by
 refine aO Tryz.func135 (by kernel_rfl) fun cx hcx=>?_
 have e:=Eq.refl (yN a0);conv at e=>rhs;simp only [yN]
 rw [e]
 exact rt [.u 200,.T,.i 0 3 (by decide),.u 0,.T,.i 1 3 (by decide),.u 0,.T,.i 2 3 (by decide),.u 0,.F] [] [] hcx (by kernel_rfl)
def iT (a0:Zt)(a1:Zt):Int :=
 (yN ((W (a0.1*a1.1)),(W (a0.2.1*a1.2.1)),(W (a0.2.2*a1.2.2))))
theorem aQu (a0:Zt)(a1:Zt):Con Tryz.prog 107 [(.a (k3 a0)),(.a (k3 a1))] [] (iv (iT a0 a1)) []:=by
 refine aO Tryz.func107 (by kernel_rfl) fun cx hcx=>?_
 have e:=Eq.refl (iT a0 a1);conv at e=>rhs;simp only [iT]
 rw [e]
 exact rt [.c [2] (aQt ((W (a0.1*a1.1)),(W (a0.2.1*a1.2.1)),(W (a0.2.2*a1.2.2))))] [] [] hcx (by kernel_rfl)
def bV (a0:Zt)(a1:Zt):Zt :=
 ((W (a0.1 - a1.1)),(W (a0.2.1 - a1.2.1)),(W (a0.2.2 - a1.2.2)))
theorem aQv (a0:Zt)(a1:Zt):Con Tryz.prog 105 [(.a (k3 a0)),(.a (k3 a1))] [] (.a (k3 (bV a0 a1))) []:=by
 refine aO Tryz.func105 (by kernel_rfl) fun cx hcx=>?_
 have e:=Eq.refl (bV a0 a1);conv at e=>rhs;simp only [bV]
 rw [e]
 exact rt [] [] [] hcx (by kernel_rfl)
def gL (a0:Zt)(a1:Zt):Zt :=
 ((W ((W (a0.2.1*a1.2.2)) - (W (a0.2.2*a1.2.1)))),(W ((W (a0.2.2*a1.1)) - (W (a0.1*a1.2.2)))),(W ((W (a0.1*a1.2.1)) - (W (a0.2.1*a1.1)))))
theorem aVo (a0:Zt)(a1:Zt):Con Tryz.prog 104 [(.a (k3 a0)),(.a (k3 a1))] [] (.a (k3 (gL a0 a1))) []:=by
 refine aO Tryz.func104 (by kernel_rfl) fun cx hcx=>?_
 have e:=Eq.refl (gL a0 a1);conv at e=>rhs;simp only [gL]
 rw [e]
 exact rt [] [] [] hcx (by kernel_rfl)
def bC (a0:Zt×Zt×Zt):Zt×Zt :=
 (((if(a0.2.2.1:Int) < (if(a0.2.1.1:Int) < (if(a0.1.1:Int) < a0.1.1 then a0.1.1 else a0.1.1) then a0.2.1.1 else(if(a0.1.1:Int) < a0.1.1 then a0.1.1 else a0.1.1)) then a0.2.2.1 else(if(a0.2.1.1:Int) < (if(a0.1.1:Int) < a0.1.1 then a0.1.1 else a0.1.1) then a0.2.1.1 else(if(a0.1.1:Int) < a0.1.1 then a0.1.1 else a0.1.1))),(if(a0.2.2.2.1:Int) < (if(a0.2.1.2.1:Int) < (if(a0.1.2.1:Int) < a0.1.2.1 then a0.1.2.1 else a0.1.2.1) then a0.2.1.2.1 else(if(a0.1.2.1:Int) < a0.1.2.1 then a0.1.2.1 else a0.1.2.1)) then a0.2.2.2.1 else(if(a0.2.1.2.1:Int) < (if(a0.1.2.1:Int) < a0.1.2.1 then a0.1.2.1 else a0.1.2.1) then a0.2.1.2.1 else(if(a0.1.2.1:Int) < a0.1.2.1 then a0.1.2.1 else a0.1.2.1))),(if(a0.2.2.2.2:Int) < (if(a0.2.1.2.2:Int) < (if(a0.1.2.2:Int) < a0.1.2.2 then a0.1.2.2 else a0.1.2.2) then a0.2.1.2.2 else(if(a0.1.2.2:Int) < a0.1.2.2 then a0.1.2.2 else a0.1.2.2)) then a0.2.2.2.2 else(if(a0.2.1.2.2:Int) < (if(a0.1.2.2:Int) < a0.1.2.2 then a0.1.2.2 else a0.1.2.2) then a0.2.1.2.2 else(if(a0.1.2.2:Int) < a0.1.2.2 then a0.1.2.2 else a0.1.2.2)))),((if((if((if(a0.1.1:Int) < a0.1.1 then a0.1.1 else a0.1.1):Int) < a0.2.1.1 then a0.2.1.1 else(if(a0.1.1:Int) < a0.1.1 then a0.1.1 else a0.1.1)):Int) < a0.2.2.1 then a0.2.2.1 else(if((if(a0.1.1:Int) < a0.1.1 then a0.1.1 else a0.1.1):Int) < a0.2.1.1 then a0.2.1.1 else(if(a0.1.1:Int) < a0.1.1 then a0.1.1 else a0.1.1))),(if((if((if(a0.1.2.1:Int) < a0.1.2.1 then a0.1.2.1 else a0.1.2.1):Int) < a0.2.1.2.1 then a0.2.1.2.1 else(if(a0.1.2.1:Int) < a0.1.2.1 then a0.1.2.1 else a0.1.2.1)):Int) < a0.2.2.2.1 then a0.2.2.2.1 else(if((if(a0.1.2.1:Int) < a0.1.2.1 then a0.1.2.1 else a0.1.2.1):Int) < a0.2.1.2.1 then a0.2.1.2.1 else(if(a0.1.2.1:Int) < a0.1.2.1 then a0.1.2.1 else a0.1.2.1))),(if((if((if(a0.1.2.2:Int) < a0.1.2.2 then a0.1.2.2 else a0.1.2.2):Int) < a0.2.1.2.2 then a0.2.1.2.2 else(if(a0.1.2.2:Int) < a0.1.2.2 then a0.1.2.2 else a0.1.2.2)):Int) < a0.2.2.2.2 then a0.2.2.2.2 else(if((if(a0.1.2.2:Int) < a0.1.2.2 then a0.1.2.2 else a0.1.2.2):Int) < a0.2.1.2.2 then a0.2.1.2.2 else(if(a0.1.2.2:Int) < a0.1.2.2 then a0.1.2.2 else a0.1.2.2)))))
theorem aLy (a0:Zt×Zt×Zt):Con Tryz.prog 112 [(.s 0 0 3 3)] [(.live false false (k9 a0))] (.t [(.a (k3 (bC a0).1)),(.a (k3 (bC a0).2))]) []:=by
 refine aO Tryz.func112 (by kernel_rfl) fun cx hcx=>?_
 have e:=Eq.refl (bC a0);conv at e=>rhs;simp only [bC]
 rw [e]
 exact rt [.i 0 3 (by decide),.i 0 3 (by decide),.u 200,.T,.i 0 3 (by decide),.u 0,.T,.i 1 3 (by decide),.u 0,.T,.i 2 3 (by decide),.u 0,.F] [] [] hcx (by kernel_rfl)
def kR (a0:Int)(a1:Int)(a2:Int)(a3:Int):Int :=
 (if((if(0:Int) < (W (a2 - a1)) then(W (a2 - a1)) else 0):Int) < (W (a0 - a3)) then(W (a0 - a3)) else(if(0:Int) < (W (a2 - a1)) then(W (a2 - a1)) else 0))
theorem aQw (a0:Int)(a1:Int)(a2:Int)(a3:Int):Con Tryz.prog 113 [(iv a0),(iv a1),(iv a2),(iv a3)] [] (iv (kR a0 a1 a2 a3)) []:=by
 refine aO Tryz.func113 (by kernel_rfl) fun cx hcx=>?_
 have e:=Eq.refl (kR a0 a1 a2 a3);conv at e=>rhs;simp only [kR]
 rw [e]
 exact rt [] [] [] hcx (by kernel_rfl)
def cO (a0:Zt×Zt×Zt)(a1:Zt×Zt×Zt):Int :=
 (iT ((kR (bC a0).1.1 (bC a0).2.1 (bC a1).1.1 (bC a1).2.1),(kR (bC a0).1.2.1 (bC a0).2.2.1 (bC a1).1.2.1 (bC a1).2.2.1),(kR (bC a0).1.2.2 (bC a0).2.2.2 (bC a1).1.2.2 (bC a1).2.2.2)) ((kR (bC a0).1.1 (bC a0).2.1 (bC a1).1.1 (bC a1).2.1),(kR (bC a0).1.2.1 (bC a0).2.2.1 (bC a1).1.2.1 (bC a1).2.2.1),(kR (bC a0).1.2.2 (bC a0).2.2.2 (bC a1).1.2.2 (bC a1).2.2.2)))
theorem aIh (a0:Zt×Zt×Zt)(a1:Zt×Zt×Zt):Con Tryz.prog 74 [(.s 0 0 3 3),(.s 1 0 3 3)] [(.live false false (k9 a0)),(.live false false (k9 a1))] (iv (cO a0 a1)) []:=by
 refine aO Tryz.func74 (by kernel_rfl) fun cx hcx=>?_
 have e:=Eq.refl (cO a0 a1);conv at e=>rhs;simp only [cO]
 rw [e]
 exact rt [.c [0] (aLy a0),.c [1] (aLy a1),.c [] (aQw (bC a0).1.1 (bC a0).2.1 (bC a1).1.1 (bC a1).2.1),.c [] (aQw (bC a0).1.2.1 (bC a0).2.2.1 (bC a1).1.2.1 (bC a1).2.2.1),.c [] (aQw (bC a0).1.2.2 (bC a0).2.2.2 (bC a1).1.2.2 (bC a1).2.2.2),.c [] (aQu ((kR (bC a0).1.1 (bC a0).2.1 (bC a1).1.1 (bC a1).2.1),(kR (bC a0).1.2.1 (bC a0).2.2.1 (bC a1).1.2.1 (bC a1).2.2.1),(kR (bC a0).1.2.2 (bC a0).2.2.2 (bC a1).1.2.2 (bC a1).2.2.2)) ((kR (bC a0).1.1 (bC a0).2.1 (bC a1).1.1 (bC a1).2.1),(kR (bC a0).1.2.1 (bC a0).2.2.1 (bC a1).1.2.1 (bC a1).2.2.1),(kR (bC a0).1.2.2 (bC a0).2.2.2 (bC a1).1.2.2 (bC a1).2.2.2)))] [] [] hcx (by kernel_rfl)
def c24 (x:Zt):List SV:=[(iv x.1),(iv x.2.1),(iv x.2.2)]
theorem jV (x:Zt):(c24 x).length=3:=rfl
noncomputable def tZ:Code:=(aI [1,1,0,1,0,1,1,0,1,1] [0] (aL Tryz.f73) []).1
noncomputable def uA (m0:Nat):List K:=(aI [1,1,0,1,0,1,1,0,1,1] [m0] (aL Tryz.f73) []).2
def qP (a0:List Zt)(a1:List Zt)(v5 v6 v7 v8 v9 v10:Int):LS:=⟨iM 34 [(1,(.s 1 0 a1.length 3)),(5,(iv v5)),(7,(.p 2 0)),(11,(.s 0 0 a0.length 3)),(12,(iv (a0.length:Int))),(13,(iv v6)),(17,(.s 1 0 a1.length 3)),(18,(iv (a1.length:Int))),(19,(iv v7))],[(.live false true (flat c24 a0)),(.live false true (flat c24 a1)),(.live true false [(iv v8),(iv v9),(iv v10)])]⟩
def kE (a0:List Zt)(a1:List Zt):Int×Int×Int×Zt->(Int×Int×Int×Zt)⊕((Int×Int)⊕(Int))
 | (v5,v6,v7,v8,v9,v10) =>
  (bif (decide ((v7:Int) < (a1.length:Int))) then
   (.inl ((if(v5:Int) < (iT (bV (v8,v9,v10) (a1.getD (toNat v7) default)) (bV (v8,v9,v10) (a1.getD (toNat v7) default))) then(iT (bV (v8,v9,v10) (a1.getD (toNat v7) default)) (bV (v8,v9,v10) (a1.getD (toNat v7) default))) else v5),v6,(v7+1),v8,v9,v10))
  else
   (.inr (.inl (v5,(v6+1)))))
noncomputable def oQ:Code:=(aI [1,1,0,1] [] (aL Tryz.f73) []).1
noncomputable def oR:List K:=(aI [1,1,0,1] [] (aL Tryz.f73) []).2
def mU (a0:List Zt)(a1:List Zt)(v3 v4:Int):LS:=⟨iM 34 [(1,(.s 1 0 a1.length 3)),(5,(iv v3)),(11,(.s 0 0 a0.length 3)),(12,(iv (a0.length:Int))),(13,(iv v4))],[(.live false true (flat c24 a0)),(.live false true (flat c24 a1))]⟩
def hH (a0:List Zt)(a1:List Zt):Int×Int->(Int×Int)⊕(Int)
 | (v3,v4) =>
  (bif (decide ((v4:Int) < (a0.length:Int))) then
   (aC (kE a0 a1) (toNat ((a1.length:Int) - 0)+1) (v3,v4,0,(a0.getD (toNat v4) default).1,(a0.getD (toNat v4) default).2.1,(a0.getD (toNat v4) default).2.2))
  else
   (.inr v3))
theorem aJ9 (a0:List Zt)(a1:List Zt)(l0:a0.length<=9223372036854775807)(l1:a1.length<=9223372036854775807) {cx:Cx} (hcx:cx.base=2)
   (n0:Nat) (g0:∀(v3 v4:Int),0<=v4->toNat ((a0.length:Int) - v4) < n0->Aw.Good Tryz.prog none 9 (bodyPost Tryz.prog Tryz.f73 (RR cx (iv (aC (hH a0 a1) n0 (v3,v4))) [] [])) cx [] (.l oQ n0::oR) (mU a0 a1 v3 v4)):∀(n:Nat) (v5 v6 v7 v8 v9 v10:Int),(0<=v7)/\((0<=v6))/\(v6 < (a0.length:Int))/\(toNat ((a0.length:Int) - v6) < n0+1)->toNat ((a1.length:Int) - v7) < n->Aw.Good Tryz.prog none 9 (bodyPost Tryz.prog Tryz.f73 (RR cx (iv (aT (hH a0 a1) n0 (aC (kE a0 a1) n (v5,v6,v7,v8,v9,v10)))) [] [])) cx [] (.l tZ n::uA n0) (qP a0 a1 v5 v6 v7 v8 v9 v10):=by
 intro n
 induction n with
 | zero=>intro v5 v6 v7 v8 v9 v10 hi hn;exact absurd hn (eP _)
 | succ n ih =>
   intro v5 v6 v7 v8 v9 v10 hi hn
   refine aQ ?_
   cases h0:(decide ((v7:Int) < (a1.length:Int))) with
   | true =>
    have q0:=cA h0
    have e:=Eq.refl (kE a0 a1 (v5,v6,v7,v8,v9,v10));conv at e=>rhs;simp only [kE,h0,aS]
    rw [aE e]
    refine ba [.d h0,.i v7 (a1.length),.L jV a1 v7 0 3,.c [] (aQv (v8,v9,v10) (a1.getD (toNat v7) default)),.c [] (aQu (bV (v8,v9,v10) (a1.getD (toNat v7) default)) (bV (v8,v9,v10) (a1.getD (toNat v7) default)))] [] [1,5,7,11,12,13,17,18,19] [2] hcx (m:=n) tZ (uA n0) (qP a0 a1 (if(v5:Int) < (iT (bV (v8,v9,v10) (a1.getD (toNat v7) default)) (bV (v8,v9,v10) (a1.getD (toNat v7) default))) then(iT (bV (v8,v9,v10) (a1.getD (toNat v7) default)) (bV (v8,v9,v10) (a1.getD (toNat v7) default))) else v5) v6 (W (v7+1)) v8 v9 v10) (by kernel_rfl) ?_
    have z0:(W (v7+1))=(v7+1):=aJ (by omega) (by omega)
    rw [z0]
    exact ih (if(v5:Int) < (iT (bV (v8,v9,v10) (a1.getD (toNat v7) default)) (bV (v8,v9,v10) (a1.getD (toNat v7) default))) then(iT (bV (v8,v9,v10) (a1.getD (toNat v7) default)) (bV (v8,v9,v10) (a1.getD (toNat v7) default))) else v5) v6 (v7+1) v8 v9 v10 (by refine⟨?_,?_,?_,?_⟩<;>(try simp only [Ls])<;>first | omega | assumption | simp) (by(try simp only [Ls]);omega)
   | false =>
    have q0:=cH h0
    have e:=Eq.refl (kE a0 a1 (v5,v6,v7,v8,v9,v10));conv at e=>rhs;simp only [kE,h0,aS]
    rw [aN,e]
    refine ba [.d h0] [] [1,5,11,12,13] [] hcx (m:=n0) oQ (oR) (mU a0 a1 v5 (W (v6+1))) (by kernel_rfl) ?_
    have z0:(W (v6+1))=(v6+1):=aJ (by omega) (by omega)
    rw [z0]
    exact g0 v5 (v6+1) (by(try simp only [Ls]);omega) (by(try simp only [Ls]);omega)
theorem aKa (a0:List Zt)(a1:List Zt)(l0:a0.length<=9223372036854775807)(l1:a1.length<=9223372036854775807) {cx:Cx} (hcx:cx.base=2):∀(n:Nat) (v3 v4:Int),0<=v4->toNat ((a0.length:Int) - v4) < n->Aw.Good Tryz.prog none 9 (bodyPost Tryz.prog Tryz.f73 (RR cx (iv (aC (hH a0 a1) n (v3,v4))) [] [])) cx [] (.l oQ n::oR) (mU a0 a1 v3 v4):=by
 intro n
 induction n with
 | zero=>intro v3 v4 hi hn;exact absurd hn (eP _)
 | succ n ih =>
   intro v3 v4 hi hn
   refine aQ ?_
   cases h0:(decide ((v4:Int) < (a0.length:Int))) with
   | true =>
    have q0:=cA h0
    have e:=Eq.refl (hH a0 a1 (v3,v4));conv at e=>rhs;simp only [hH,h0,aS]
    rw [aN,e]
    refine en [.d h0,.i v4 (a0.length),.L jV a0 v4 0 3] [] [1,5,7,11,12,13,17,18,19] [2] hcx tZ (uA n) (qP a0 a1 v3 v4 0 ((a0.getD (toNat v4) default).1) ((a0.getD (toNat v4) default).2.1) ((a0.getD (toNat v4) default).2.2)) (toNat ((a1.length:Int) - 0)+1) (by kernel_rfl) ?_
    exact aJ9 a0 a1 l0 l1 hcx n ih (toNat ((a1.length:Int) - 0)+1) v3 v4 0 ((a0.getD (toNat v4) default).1) ((a0.getD (toNat v4) default).2.1) ((a0.getD (toNat v4) default).2.2) (by refine⟨?_,?_,?_,?_⟩<;>(try simp only [Ls])<;>first | omega | assumption | simp) (by(try simp only [Ls]);omega)
   | false =>
    have q0:=cH h0
    have e:=Eq.refl (hH a0 a1 (v3,v4));conv at e=>rhs;simp only [hH,h0,aS]
    rw [aN,e]
    exact rt [.d h0] [] [] hcx (by kernel_rfl)
def cI (a0:List Zt)(a1:List Zt):Int :=
 (aC (hH a0 a1) (toNat ((a0.length:Int) - 0)+1) (0,0))
theorem aIi (a0:List Zt)(a1:List Zt)(l0:a0.length<=9223372036854775807)(l1:a1.length<=9223372036854775807):Con Tryz.prog 73 [(.s 0 0 a0.length 3),(.s 1 0 a1.length 3)] [(.live false true (flat c24 a0)),(.live false true (flat c24 a1))] (iv (cI a0 a1)) []:=by
 refine aO Tryz.func73 (by kernel_rfl) fun cx hcx=>?_
 have e:=Eq.refl (cI a0 a1);conv at e=>rhs;simp only [cI]
 rw [e]
 refine en [] [] [1,5,11,12,13] [] hcx oQ (oR) (mU a0 a1 0 0) (toNat ((a0.length:Int) - 0)+1) (by kernel_rfl) ?_
 exact aKa a0 a1 l0 l1 hcx (toNat ((a0.length:Int) - 0)+1) 0 0 (by(try simp only [Ls]);omega) (by(try simp only [Ls]);omega)
noncomputable def uB:Code:=match (eB [1] [] (aL Tryz.f136)).1 with
 | .scope c=>c
 | _=>.skip
noncomputable def yO:List K:=(eB [1] [] (aL Tryz.f136)).2
noncomputable def aQx:Code:=(findLabel uB 0).getD .skip
def sI (a0:Int)(v1 v2:Int):LS:=⟨iM 22 [(0,(iv a0)),(3,(iv v1)),(4,(iv v2))],[]⟩
def kS (a0:Int):Int×Int->(Int×Int)⊕(Int)
 | (v1,v2) =>
  (bif ((v2:Int) == 0) then
   (.inr v1)
  else
   (bif (decide (((W ((W (v1+v2))*(W (v1+v2)))):Int)<=a0)) then
    (.inl ((W (v1+v2)),(v2 / 2)))
   else
    (.inl (v1,(v2 / 2)))))
theorem aLz (a0:Int) {cx:Cx} (hcx:cx.base=0):∀(n:Nat) (v1 v2:Int),0<=v2->toNat v2 < n->Aw.Good Tryz.prog none 9 (bodyPost Tryz.prog Tryz.f136 (RR cx (iv (aC (kS a0) n (v1,v2))) [] [])) cx [] (.c (.goto 0)::.s uB n::yO) (sI a0 v1 v2):=by
 intro n
 induction n with
 | zero=>intro v1 v2 hi hn;exact absurd hn (eP _)
 | succ n ih =>
   intro v1 v2 hi hn
   refine aJ3 (rest:=aQx) (by kernel_rfl) ?_
   cases h0:((v2:Int) == 0) with
   | true =>
    have q0:=eq_of_beq h0
    have e:=Eq.refl (kS a0 (v1,v2));conv at e=>rhs;simp only [kS,h0,aS]
    rw [aN,e]
    exact rt [.d h0] [] [] hcx (by kernel_rfl)
   | false =>
    have q0:=ne_of_beq_false h0
    let t1:List (St Tryz.prog):=[.d h0]
    cases h1:(decide (((W ((W (v1+v2))*(W (v1+v2)))):Int)<=a0)) with
    | true =>
     have q1:=cA h1
     have e:=Eq.refl (kS a0 (v1,v2));conv at e=>rhs;simp only [kS,h0,h1,aS]
     rw [aE e]
     refine ga (t1++[.d h1,.p (show 0<=(1:Int) from by decide)]) [] [0,3,4] [] hcx (.goto 0) (.s uB n::yO) (sI a0 (W (v1+v2)) (Int.fdiv v2 (2 ^ (min (toNat 1) 64)))) (by kernel_rfl) ?_
     have z0:(Int.fdiv v2 (2 ^ (min (toNat 1) 64)))=(v2 / 2):=tY _ 1 (by decide)
     rw [z0]
     exact ih (W (v1+v2)) (v2 / 2) (by(try simp only [Ls]);omega) (by omega)
    | false =>
     have q1:=cH h1
     have e:=Eq.refl (kS a0 (v1,v2));conv at e=>rhs;simp only [kS,h0,h1,aS]
     rw [aE e]
     refine ga (t1++[.d h1,.p (show 0<=(1:Int) from by decide)]) [] [0,3,4] [] hcx (.goto 0) (.s uB n::yO) (sI a0 v1 (Int.fdiv v2 (2 ^ (min (toNat 1) 64)))) (by kernel_rfl) ?_
     have z0:(Int.fdiv v2 (2 ^ (min (toNat 1) 64)))=(v2 / 2):=tY _ 1 (by decide)
     rw [z0]
     exact ih v1 (v2 / 2) (by(try simp only [Ls]);omega) (by omega)
def gP (a0:Int):Int :=
 (bif (decide ((4611686018427387904:Int)<=a0)) then
  (aC (kS a0) (toNat 1073741824+1) (2147483648,1073741824))
 else
  (aC (kS a0) (toNat 1073741824+1) (0,1073741824)))
theorem aVp (a0:Int):Con Tryz.prog 136 [(iv a0)] [] (iv (gP a0)) []:=by
 refine aO Tryz.func136 (by kernel_rfl) fun cx hcx=>?_
 cases h0:(decide ((4611686018427387904:Int)<=a0)) with
 | true =>
  have q0:=cA h0
  have e:=Eq.refl (gP a0);conv at e=>rhs;simp only [gP,h0,aS]
  rw [e]
  refine ga [.u (toNat 1073741824+1),.F,.d h0,.p (show 0<=(1:Int) from by decide)] [] [0,3,4] [] hcx (.goto 0) (.s uB (toNat 1073741824+1)::yO) (sI a0 2147483648 1073741824) (by kernel_rfl) ?_
  exact aLz a0 hcx (toNat 1073741824+1) 2147483648 1073741824 (by(try simp only [Ls]);omega) (by omega)
 | false =>
  have q0:=cH h0
  have e:=Eq.refl (gP a0);conv at e=>rhs;simp only [gP,h0,aS]
  rw [e]
  refine ga [.u (toNat 1073741824+1),.F,.d h0,.p (show 0<=(1:Int) from by decide)] [] [0,3,4] [] hcx (.goto 0) (.s uB (toNat 1073741824+1)::yO) (sI a0 0 1073741824) (by kernel_rfl) ?_
  exact aLz a0 hcx (toNat 1073741824+1) 0 1073741824 (by(try simp only [Ls]);omega) (by omega)
def sJ (a0:Int×Int):Bool :=
 (bif (decide ((a0.1:Int)≥(-1099511627776))) then
  (bif (decide ((a0.1:Int)<=a0.2)) then
   (decide ((a0.2:Int)<=1099511627776))
  else
   false)
 else
  false)
theorem aS5 (a0:Int×Int):Con Tryz.prog 157 [(.a [(iv a0.1),(iv a0.2)])] [] (.v (.bool (sJ a0))) []:=by
 refine aO Tryz.func157 (by kernel_rfl) fun cx hcx=>?_
 cases h0:(decide ((a0.1:Int)≥(-1099511627776))) with
 | true =>
  have q0:=cA h0
  let t1:List (St Tryz.prog):=[.d h0]
  cases h1:(decide ((a0.1:Int)<=a0.2)) with
  | true =>
   have q1:=cA h1
   have e:=Eq.refl (sJ a0);conv at e=>rhs;simp only [sJ,h0,h1,aS]
   rw [e]
   exact rt (t1++[.d h1]) [] [] hcx (by kernel_rfl)
  | false =>
   have q1:=cH h1
   have e:=Eq.refl (sJ a0);conv at e=>rhs;simp only [sJ,h0,h1,aS]
   rw [e]
   exact rt (t1++[.d h1]) [] [] hcx (by kernel_rfl)
 | false =>
  have q0:=cH h0
  have e:=Eq.refl (sJ a0);conv at e=>rhs;simp only [sJ,h0,aS]
  rw [e]
  exact rt [.d h0] [] [] hcx (by kernel_rfl)
def sK (a0:Int)(a1:Int):(Int×Int)×Int :=
 (bif (!(sJ (a0,a1))) then
  ((0,0),4)
 else
  ((a0,a1),0))
theorem aQy (a0:Int)(a1:Int):Con Tryz.prog 137 [(iv a0),(iv a1)] [] (.t [(.a (k2 (sK a0 a1).1)),(iv (sK a0 a1).2)]) []:=by
 refine aO Tryz.func137 (by kernel_rfl) fun cx hcx=>?_
 let t0:List (St Tryz.prog):=[.c [] (aS5 (a0,a1))]
 cases h0:(!(sJ (a0,a1))) with
 | true =>
  have e:=Eq.refl (sK a0 a1);conv at e=>rhs;simp only [sK,h0,aS]
  rw [e]
  exact rt (t0++[.d h0]) [] [] hcx (by kernel_rfl)
 | false =>
  have e:=Eq.refl (sK a0 a1);conv at e=>rhs;simp only [sK,h0,aS]
  rw [e]
  exact rt (t0++[.d h0]) [] [] hcx (by kernel_rfl)
def aAv (a0:Int)(a1:Int):(Int×Int)×Int :=
 (bif (((W ((W ((gP (W (Int.tdiv a0 a1)))*(gP (W (Int.tdiv a0 a1)))))*a1)):Int) == a0) then
  ((sK (gP (W (Int.tdiv a0 a1))) (gP (W (Int.tdiv a0 a1)))).1,(sK (gP (W (Int.tdiv a0 a1))) (gP (W (Int.tdiv a0 a1)))).2)
 else
  ((sK (gP (W (Int.tdiv a0 a1))) (W ((gP (W (Int.tdiv a0 a1)))+1))).1,(sK (gP (W (Int.tdiv a0 a1))) (W ((gP (W (Int.tdiv a0 a1)))+1))).2))
theorem aVq (a0:Int)(a1:Int)(ha:a1≠0):Con Tryz.prog 111 [(iv a0),(iv a1)] [] (.t [(.a (k2 (aAv a0 a1).1)),(iv (aAv a0 a1).2)]) []:=by
 refine aO Tryz.func111 (by kernel_rfl) fun cx hcx=>?_
 let t0:List (St Tryz.prog):=[.p (show(a1:Int)≠0 from by first | omega | (rw [aJ]<;>omega) | exact fG _),.c [] (aVp (W (Int.tdiv a0 a1)))]
 cases h0:(((W ((W ((gP (W (Int.tdiv a0 a1)))*(gP (W (Int.tdiv a0 a1)))))*a1)):Int) == a0) with
 | true =>
  have q0:=eq_of_beq h0
  have e:=Eq.refl (aAv a0 a1);conv at e=>rhs;simp only [aAv,h0,aS]
  rw [e]
  exact rt (t0++[.d h0,.c [] (aQy (gP (W (Int.tdiv a0 a1))) (gP (W (Int.tdiv a0 a1))))]) [] [] hcx (by kernel_rfl)
 | false =>
  have q0:=ne_of_beq_false h0
  have e:=Eq.refl (aAv a0 a1);conv at e=>rhs;simp only [aAv,h0,aS]
  rw [e]
  exact rt (t0++[.d h0,.c [] (aQy (gP (W (Int.tdiv a0 a1))) (W ((gP (W (Int.tdiv a0 a1)))+1)))]) [] [] hcx (by kernel_rfl)
def nG (a0:Int)(a1:Int):(Int×Int)×Int :=
 (bif (decide ((a0:Int) < 1)) then
  ((0,0),1)
 else
  (bif (decide ((a0:Int) > 1099511627776)) then
   ((0,0),1)
  else
   (bif (decide ((a1:Int) < 1)) then
    ((0,0),1)
   else
    (bif (decide ((a1:Int) > 8)) then
     ((0,0),1)
    else
     ((aAv (W ((W (a1*a1))*2 ^ (min (toNat 40) 64))) a0).1,(aAv (W ((W (a1*a1))*2 ^ (min (toNat 40) 64))) a0).2)))))
theorem C72 (a0:Int)(a1:Int):Con Tryz.prog 72 [(iv a0),(iv a1)] [] (.t [(.a (k2 (nG a0 a1).1)),(iv (nG a0 a1).2)]) []:=by
 refine aO Tryz.func72 (by kernel_rfl) fun cx hcx=>?_
 cases h0:(decide ((a0:Int) < 1)) with
 | true =>
  have q0:=cA h0
  have e:=Eq.refl (nG a0 a1);conv at e=>rhs;simp only [nG,h0,aS]
  rw [e]
  exact rt [.d h0] [] [] hcx (by kernel_rfl)
 | false =>
  have q0:=cH h0
  let t1:List (St Tryz.prog):=[.d h0]
  cases h1:(decide ((a0:Int) > 1099511627776)) with
  | true =>
   have q1:=cA h1
   have e:=Eq.refl (nG a0 a1);conv at e=>rhs;simp only [nG,h0,h1,aS]
   rw [e]
   exact rt (t1++[.d h1]) [] [] hcx (by kernel_rfl)
  | false =>
   have q1:=cH h1
   let t2:List (St Tryz.prog):=(t1++[.d h1])
   cases h2:(decide ((a1:Int) < 1)) with
   | true =>
    have q2:=cA h2
    have e:=Eq.refl (nG a0 a1);conv at e=>rhs;simp only [nG,h0,h1,h2,aS]
    rw [e]
    exact rt (t2++[.d h2]) [] [] hcx (by kernel_rfl)
   | false =>
    have q2:=cH h2
    let t3:List (St Tryz.prog):=(t2++[.d h2])
    cases h3:(decide ((a1:Int) > 8)) with
    | true =>
     have q3:=cA h3
     have e:=Eq.refl (nG a0 a1);conv at e=>rhs;simp only [nG,h0,h1,h2,h3,aS]
     rw [e]
     exact rt (t3++[.d h3]) [] [] hcx (by kernel_rfl)
    | false =>
     have q3:=cH h3
     have e:=Eq.refl (nG a0 a1);conv at e=>rhs;simp only [nG,h0,h1,h2,h3,aS]
     rw [e]
     exact rt (t3++[.d h3,.p (show 0<=(40:Int) from by decide),.c [] (aVq (W ((W (a1*a1))*2 ^ (min (toNat 40) 64))) a0  (by(try simp only [Lt]);omega))]) [] [] hcx (by kernel_rfl)
def mV (a0:Int×Int):Int :=
 (bif (!(sJ a0)) then
  1
 else
  0)
theorem aQz (a0:Int×Int):Con Tryz.prog 138 [(.s 0 0 1 2)] [(.live false false [(iv a0.1),(iv a0.2)])] (iv (mV a0)) []:=by
 refine aO Tryz.func138 (by kernel_rfl) fun cx hcx=>?_
 let t0:List (St Tryz.prog):=[.u 200,.T,.i 0 1 (by decide),.c [] (aS5 a0)]
 cases h0:(!(sJ a0)) with
 | true =>
  have e:=Eq.refl (mV a0);conv at e=>rhs;simp only [mV,h0,aS]
  rw [e]
  exact rt (t0++[.d h0]) [] [] hcx (by kernel_rfl)
 | false =>
  have e:=Eq.refl (mV a0);conv at e=>rhs;simp only [mV,h0,aS]
  rw [e]
  exact rt (t0++[.d h0,.u 0,.F]) [] [] hcx (by kernel_rfl)
def uC (a0:Int)(a1:Int):Int :=
 (bif (((Int.tmod a0 a1):Int) != 0) then
  (bif (!((decide ((a0:Int) < 0)) == (decide ((a1:Int) < 0)))) then
   (W ((W (Int.tdiv a0 a1)) - 1))
  else
   (W (Int.tdiv a0 a1)))
 else
  (W (Int.tdiv a0 a1)))
theorem aS6 (a0:Int)(a1:Int)(ha:a1≠0):Con Tryz.prog 139 [(iv a0),(iv a1)] [] (iv (uC a0 a1)) []:=by
 refine aO Tryz.func139 (by kernel_rfl) fun cx hcx=>?_
 let t0:List (St Tryz.prog):=[.p (show(a1:Int)≠0 from by first | omega | (rw [aJ]<;>omega) | exact fG _),.p (show(a1:Int)≠0 from by first | omega | (rw [aJ]<;>omega) | exact fG _)]
 cases h0:(((Int.tmod a0 a1):Int) != 0) with
 | true =>
  have q0:=bne_iff_ne.1 h0
  let t1:List (St Tryz.prog):=(t0++[.d h0])
  cases h1:(!((decide ((a0:Int) < 0)) == (decide ((a1:Int) < 0)))) with
  | true =>
   have e:=Eq.refl (uC a0 a1);conv at e=>rhs;simp only [uC,h0,h1,aS]
   rw [e]
   exact rt (t1++[.d h1]) [] [] hcx (by kernel_rfl)
  | false =>
   have e:=Eq.refl (uC a0 a1);conv at e=>rhs;simp only [uC,h0,h1,aS]
   rw [e]
   exact rt (t1++[.d h1]) [] [] hcx (by kernel_rfl)
 | false =>
  have q0:=bne_eq_false_iff_eq.1 h0
  have e:=Eq.refl (uC a0 a1);conv at e=>rhs;simp only [uC,h0,aS]
  rw [e]
  exact rt (t0++[.d h0]) [] [] hcx (by kernel_rfl)
def aE1 (a0:Int)(a1:Int):Int :=
 (W (0 - (uC (W (0 - a0)) a1)))
theorem aVr (a0:Int)(a1:Int)(ha:a1≠0):Con Tryz.prog 140 [(iv a0),(iv a1)] [] (iv (aE1 a0 a1)) []:=by
 refine aO Tryz.func140 (by kernel_rfl) fun cx hcx=>?_
 have e:=Eq.refl (aE1 a0 a1);conv at e=>rhs;simp only [aE1]
 rw [e]
 exact rt [.c [] (aS6 (W (0 - a0)) a1  (by(try simp only [Lt]);omega))] [] [] hcx (by kernel_rfl)
def wP (a0:Int×Int)(a1:Int):(Int×Int)×Int :=
 (bif (((mV a0):Int) != 0) then
  ((0,0),(mV a0))
 else
  (bif (decide ((a1:Int) < 1)) then
   ((0,0),1)
  else
   (bif (decide ((a1:Int) > 1099511627776)) then
    ((0,0),1)
   else
    ((sK (uC a0.1 a1) (aE1 a0.2 a1)).1,(sK (uC a0.1 a1) (aE1 a0.2 a1)).2))))
theorem aVs (a0:Int×Int)(a1:Int):Con Tryz.prog 114 [(.a [(iv a0.1),(iv a0.2)]),(iv a1)] [] (.t [(.a (k2 (wP a0 a1).1)),(iv (wP a0 a1).2)]) []:=by
 refine aO Tryz.func114 (by kernel_rfl) fun cx hcx=>?_
 let t0:List (St Tryz.prog):=[.c [2] (aQz a0)]
 cases h0:(((mV a0):Int) != 0) with
 | true =>
  have q0:=bne_iff_ne.1 h0
  have e:=Eq.refl (wP a0 a1);conv at e=>rhs;simp only [wP,h0,aS]
  rw [e]
  exact rt (t0++[.d h0]) [] [] hcx (by kernel_rfl)
 | false =>
  have q0:=bne_eq_false_iff_eq.1 h0
  let t1:List (St Tryz.prog):=(t0++[.d h0])
  cases h1:(decide ((a1:Int) < 1)) with
  | true =>
   have q1:=cA h1
   have e:=Eq.refl (wP a0 a1);conv at e=>rhs;simp only [wP,h0,h1,aS]
   rw [e]
   exact rt (t1++[.d h1]) [] [] hcx (by kernel_rfl)
  | false =>
   have q1:=cH h1
   let t2:List (St Tryz.prog):=(t1++[.d h1])
   cases h2:(decide ((a1:Int) > 1099511627776)) with
   | true =>
    have q2:=cA h2
    have e:=Eq.refl (wP a0 a1);conv at e=>rhs;simp only [wP,h0,h1,h2,aS]
    rw [e]
    exact rt (t2++[.d h2]) [] [] hcx (by kernel_rfl)
   | false =>
    have q2:=cH h2
    have e:=Eq.refl (wP a0 a1);conv at e=>rhs;simp only [wP,h0,h1,h2,aS]
    rw [e]
    exact rt (t2++[.d h2,.c [] (aS6 a0.1 a1  (by(try simp only [Lt]);omega)),.c [] (aVr a0.2 a1  (by(try simp only [Lt]);omega)),.c [] (aQy (uC a0.1 a1) (aE1 a0.2 a1))]) [] [] hcx (by kernel_rfl)
def eF (x:(Zt×Zt×Zt)×Int):List SV:=[(iv x.1.1.1),(iv x.1.1.2.1),(iv x.1.1.2.2),(iv x.1.2.1.1),(iv x.1.2.1.2.1),(iv x.1.2.1.2.2),(iv x.1.2.2.1),(iv x.1.2.2.2.1),(iv x.1.2.2.2.2),(iv x.2)]
theorem cJ (x:(Zt×Zt×Zt)×Int):(eF x).length=10:=rfl
noncomputable def aCd:Code:=(aI [1,1,0,1] [] (aL Tryz.f32) []).1
noncomputable def aCe:List K:=(aI [1,1,0,1] [] (aL Tryz.f32) []).2
def yP (a0:bM)(v1:Int):LS:=⟨iM 26 [(9,(.s 0 0 a0.length 10)),(10,(iv (a0.length:Int))),(11,(iv v1))],[(.live false true (flat eF a0))]⟩
def fH (a0:bM):Int->(Int)⊕(Int)
 | v1 =>
  (bif (decide ((v1:Int) < (a0.length:Int))) then
   (bif (((sH (a0.getD (toNat v1) default).1):Int) != 0) then
    (.inr (sH (a0.getD (toNat v1) default).1))
   else
    (bif (!(F59 (a0.getD (toNat v1) default).2 (-100) 100)) then
     (.inr 1)
    else
     (.inl (v1+1))))
  else
   (.inr 0))
theorem aOh (a0:bM)(l0:a0.length<=9223372036854775807) {cx:Cx} (hcx:cx.base=1):∀(n:Nat) (v1:Int),0<=v1->toNat ((a0.length:Int) - v1) < n->Aw.Good Tryz.prog none 9 (bodyPost Tryz.prog Tryz.f32 (RR cx (iv (aC (fH a0) n v1)) [] [])) cx [] (.l aCd n::aCe) (yP a0 v1):=by
 intro n
 induction n with
 | zero=>intro v1 hi hn;exact absurd hn (eP _)
 | succ n ih =>
   intro v1 hi hn
   refine aQ ?_
   cases h0:(decide ((v1:Int) < (a0.length:Int))) with
   | true =>
    have q0:=cA h0
    let t1:List (St Tryz.prog):=[.d h0,.i v1 (a0.length),.L cJ a0 v1 0 10,.c [] (C58 (a0.getD (toNat v1) default).1)]
    cases h1:(((sH (a0.getD (toNat v1) default).1):Int) != 0) with
    | true =>
     have q1:=bne_iff_ne.1 h1
     have e:=Eq.refl (fH a0 v1);conv at e=>rhs;simp only [fH,h0,h1,aS]
     rw [aN,e]
     exact rt (t1++[.d h1]) [] [] hcx (by kernel_rfl)
    | false =>
     have q1:=bne_eq_false_iff_eq.1 h1
     let t2:List (St Tryz.prog):=(t1++[.d h1,.c [] (C59 (a0.getD (toNat v1) default).2 (-100) 100)])
     cases h2:(!(F59 (a0.getD (toNat v1) default).2 (-100) 100)) with
     | true =>
      have e:=Eq.refl (fH a0 v1);conv at e=>rhs;simp only [fH,h0,h1,h2,aS]
      rw [aN,e]
      exact rt (t2++[.d h2]) [] [] hcx (by kernel_rfl)
     | false =>
      have e:=Eq.refl (fH a0 v1);conv at e=>rhs;simp only [fH,h0,h1,h2,aS]
      rw [aE e]
      refine ba (t2++[.d h2]) [] [9,10,11] [] hcx (m:=n) aCd (aCe) (yP a0 (W (v1+1))) (by kernel_rfl) ?_
      have z0:(W (v1+1))=(v1+1):=aJ (by omega) (by omega)
      rw [z0]
      exact ih (v1+1) (by(try simp only [Ls]);omega) (by(try simp only [Ls]);omega)
   | false =>
    have q0:=cH h0
    have e:=Eq.refl (fH a0 v1);conv at e=>rhs;simp only [fH,h0,aS]
    rw [aN,e]
    exact rt [.d h0] [] [] hcx (by kernel_rfl)
def gH (a0:bM):Int :=
 (bif (decide (((a0.length:Int):Int) > 96)) then
  4
 else
  (aC (fH a0) (toNat ((a0.length:Int) - 0)+1) 0))
theorem aL0 (a0:bM)(l0:a0.length<=9223372036854775807):Con Tryz.prog 32 [(.s 0 0 a0.length 10)] [(.live false true (flat eF a0))] (iv (gH a0)) []:=by
 refine aO Tryz.func32 (by kernel_rfl) fun cx hcx=>?_
 cases h0:(decide (((a0.length:Int):Int) > 96)) with
 | true =>
  have q0:=cA h0
  have e:=Eq.refl (gH a0);conv at e=>rhs;simp only [gH,h0,aS]
  rw [e]
  exact rt [.d h0] [] [] hcx (by kernel_rfl)
 | false =>
  have q0:=cH h0
  have e:=Eq.refl (gH a0);conv at e=>rhs;simp only [gH,h0,aS]
  rw [e]
  refine en [.d h0] [] [9,10,11] [] hcx aCd (aCe) (yP a0 0) (toNat ((a0.length:Int) - 0)+1) (by kernel_rfl) ?_
  exact aOh a0 l0 hcx (toNat ((a0.length:Int) - 0)+1) 0 (by(try simp only [Ls]);omega) (by(try simp only [Ls]);omega)
def sL (a0:Int)(a1:Int)(a2:Int):Bool :=
 (bif (decide ((a0:Int)≥a1)) then
  (decide ((a0:Int)<=a2))
 else
  false)
theorem aS7 (a0:Int)(a1:Int)(a2:Int):Con Tryz.prog 118 [(iv a0),(iv a1),(iv a2)] [] (.v (.bool (sL a0 a1 a2))) []:=by
 refine aO Tryz.func118 (by kernel_rfl) fun cx hcx=>?_
 cases h0:(decide ((a0:Int)≥a1)) with
 | true =>
  have q0:=cA h0
  have e:=Eq.refl (sL a0 a1 a2);conv at e=>rhs;simp only [sL,h0,aS]
  rw [e]
  exact rt [.d h0] [] [] hcx (by kernel_rfl)
 | false =>
  have q0:=cH h0
  have e:=Eq.refl (sL a0 a1 a2);conv at e=>rhs;simp only [sL,h0,aS]
  rw [e]
  exact rt [.d h0] [] [] hcx (by kernel_rfl)
def aAw (a0:Int×Int):Bool :=
 (bif (decide ((a0.1:Int)≥(-1099511627776))) then
  (bif (decide ((a0.1:Int)<=a0.2)) then
   (decide ((a0.2:Int)<=1099511627776))
  else
   false)
 else
  false)
theorem aVt (a0:Int×Int):Con Tryz.prog 158 [(.a [(iv a0.1),(iv a0.2)])] [] (.v (.bool (aAw a0))) []:=by
 refine aO Tryz.func158 (by kernel_rfl) fun cx hcx=>?_
 cases h0:(decide ((a0.1:Int)≥(-1099511627776))) with
 | true =>
  have q0:=cA h0
  let t1:List (St Tryz.prog):=[.d h0]
  cases h1:(decide ((a0.1:Int)<=a0.2)) with
  | true =>
   have q1:=cA h1
   have e:=Eq.refl (aAw a0);conv at e=>rhs;simp only [aAw,h0,h1,aS]
   rw [e]
   exact rt (t1++[.d h1]) [] [] hcx (by kernel_rfl)
  | false =>
   have q1:=cH h1
   have e:=Eq.refl (aAw a0);conv at e=>rhs;simp only [aAw,h0,h1,aS]
   rw [e]
   exact rt (t1++[.d h1]) [] [] hcx (by kernel_rfl)
 | false =>
  have q0:=cH h0
  have e:=Eq.refl (aAw a0);conv at e=>rhs;simp only [aAw,h0,aS]
  rw [e]
  exact rt [.d h0] [] [] hcx (by kernel_rfl)
def c3 (x:Int):List SV:=[(iv x)]
theorem aM (x:Int):(c3 x).length=1:=rfl
def cK (a0:Zt×Zt×Zt)(a1:Int):List (Int) :=
 (bif ((a1:Int) == 0) then
  ([a0.1.1,a0.2.1.1,a0.2.2.1]:List (Int))
 else
  (bif ((a1:Int) == 1) then
   ([a0.1.2.1,a0.2.1.2.1,a0.2.2.2.1]:List (Int))
  else
   ([a0.1.2.2,a0.2.1.2.2,a0.2.2.2.2]:List (Int))))
theorem uD (a0:Zt×Zt×Zt)(a1:Int):Con Tryz.prog 121 [(.s 0 0 3 3),(iv a1)] [(.live false false (k9 a0))] (.s 1 0 (cK a0 a1).length 1) [(.live true true (flat c3 (cK a0 a1)))]:=by
 refine aO Tryz.func121 (by kernel_rfl) fun cx hcx=>?_
 let t0:List (St Tryz.prog):=[.u 200,.T]
 cases h0:((a1:Int) == 0) with
 | true =>
  have q0:=eq_of_beq h0
  have e:=Eq.refl (cK a0 a1);conv at e=>rhs;simp only [cK,h0,aS]
  rw [e]
  exact rt (t0++[.d h0,.i 0 3 (by decide),.u 0,.T,.d h0,.i 1 3 (by decide),.u 0,.T,.d h0,.i 2 3 (by decide),.u 0,.F]) [.sym 6 true] [6] hcx (by kernel_rfl)
 | false =>
  have q0:=ne_of_beq_false h0
  let t1:List (St Tryz.prog):=(t0++[.d h0])
  cases h1:((a1:Int) == 1) with
  | true =>
   have q1:=eq_of_beq h1
   have e:=Eq.refl (cK a0 a1);conv at e=>rhs;simp only [cK,h0,h1,aS]
   rw [e]
   exact rt (t1++[.d h1,.i 0 3 (by decide),.u 0,.T,.d h0,.d h1,.i 1 3 (by decide),.u 0,.T,.d h0,.d h1,.i 2 3 (by decide),.u 0,.F]) [.sym 6 true] [6] hcx (by kernel_rfl)
  | false =>
   have q1:=ne_of_beq_false h1
   have e:=Eq.refl (cK a0 a1);conv at e=>rhs;simp only [cK,h0,h1,aS]
   rw [e]
   exact rt (t1++[.d h1,.i 0 3 (by decide),.u 0,.T,.d h0,.d h1,.i 1 3 (by decide),.u 0,.T,.d h0,.d h1,.i 2 3 (by decide),.u 0,.F]) [.sym 6 true] [6] hcx (by kernel_rfl)
def aL1 (a0:Zt)(a1:Int):List (Int) :=
 (bif ((a1:Int) == 0) then
  ([a0.1]:List (Int))
 else
  (bif ((a1:Int) == 1) then
   ([a0.2.1]:List (Int))
  else
   ([a0.2.2]:List (Int))))
theorem aQ0 {a b c:Int} (h:(!(sL a b c))=false)(hb:1<=b:=by omega):a≠0:=by
 unfold sL at h
 cases h1:decide ((a:Int)≥b) with
 | true=>have:=cA h1;omega
 | false=>simp [h1] at h
theorem lD (a:Zt×Zt×Zt)(k:Int):(cK a k).length=3:=by
 unfold cK
 cases ((k:Int) == 0)<;>cases ((k:Int) == 1)<;>rfl
theorem lE (a:Zt)(k:Int):(aL1 a k).length=1:=by
 unfold aL1
 cases ((k:Int) == 0)<;>cases ((k:Int) == 1)<;>rfl
noncomputable def aCf:Code:=(aI [1,1,0] [] (aL Tryz.f141) []).1
noncomputable def aCg:List K:=(aI [1,1,0] [] (aL Tryz.f141) []).2
def wX (a0:Int)(v2 v3:Int):LS:=⟨iM 23 [(0,(iv a0)),(3,(iv v2)),(4,(iv v3))],[]⟩
def lR (a0:Int):Int×Int->(Int×Int)⊕(Int)
 | (v2,v3) =>
  (bif (decide ((v2:Int) < v3)) then
   (bif (decide (((W ((W (Int.tdiv (W ((W (v2+v3))+1)) 2))*(W (Int.tdiv (W ((W (v2+v3))+1)) 2)))):Int)<=a0)) then
    (.inl ((W (Int.tdiv (W ((W (v2+v3))+1)) 2)),v3))
   else
    (.inl (v2,(W ((W (Int.tdiv (W ((W (v2+v3))+1)) 2)) - 1)))))
  else
   (.inr v2))
theorem aQ1 (a0:Int) {cx:Cx} (hcx:cx.base=0):∀(n:Nat) (v2 v3:Int),(0<=v2)/\(0<=v2)/\(v2<=v3)/\(v3<=2147483648)->toNat (v3 - v2) < n->Aw.Good Tryz.prog none 9 (bodyPost Tryz.prog Tryz.f141 (RR cx (iv (aC (lR a0) n (v2,v3))) [] [])) cx [] (.l aCf n::aCg) (wX a0 v2 v3):=by
 intro n
 induction n with
 | zero=>intro v2 v3 hi hn;exact absurd hn (eP _)
 | succ n ih =>
   intro v2 v3 hi hn
   refine aQ ?_
   have hw:=aB6 (a:=v2) (b:=v3) (by omega)
   have hw2:=aIe (a:=v2) (b:=v3) (by omega)
   cases h0:(decide ((v2:Int) < v3)) with
   | true =>
    have q0:=cA h0
    let t1:List (St Tryz.prog):=[.d h0,.p (show(2:Int)≠0 from by decide)]
    cases h1:(decide (((W ((W (Int.tdiv (W ((W (v2+v3))+1)) 2))*(W (Int.tdiv (W ((W (v2+v3))+1)) 2)))):Int)<=a0)) with
    | true =>
     have q1:=cA h1
     have e:=Eq.refl (lR a0 (v2,v3));conv at e=>rhs;simp only [lR,h0,h1,aS]
     rw [aE e]
     refine ba (t1++[.d h1]) [] [0,3,4] [] hcx (m:=n) aCf (aCg) (wX a0 (W (Int.tdiv (W ((W (v2+v3))+1)) 2)) v3) (by kernel_rfl) ?_
     exact ih (W (Int.tdiv (W ((W (v2+v3))+1)) 2)) v3 (by refine⟨?_,?_,?_,?_⟩<;>(try simp only [Ls])<;>first | omega | assumption | simp) (by(try simp only [Ls]);omega)
    | false =>
     have q1:=cH h1
     have e:=Eq.refl (lR a0 (v2,v3));conv at e=>rhs;simp only [lR,h0,h1,aS]
     rw [aE e]
     refine ba (t1++[.d h1]) [] [0,3,4] [] hcx (m:=n) aCf (aCg) (wX a0 v2 (W ((W (Int.tdiv (W ((W (v2+v3))+1)) 2)) - 1))) (by kernel_rfl) ?_
     exact ih v2 (W ((W (Int.tdiv (W ((W (v2+v3))+1)) 2)) - 1)) (by refine⟨?_,?_,?_,?_⟩<;>(try simp only [Ls])<;>first | omega | assumption | simp) (by(try simp only [Ls]);omega)
   | false =>
    have q0:=cH h0
    have e:=Eq.refl (lR a0 (v2,v3));conv at e=>rhs;simp only [lR,h0,aS]
    rw [aN,e]
    exact rt [.d h0] [] [] hcx (by kernel_rfl)
def iB (a0:Int):Int :=
 (aC (lR a0) (toNat (2147483648 - 0)+1) (0,2147483648))
theorem aS8 (a0:Int):Con Tryz.prog 141 [(iv a0)] [] (iv (iB a0)) []:=by
 refine aO Tryz.func141 (by kernel_rfl) fun cx hcx=>?_
 have e:=Eq.refl (iB a0);conv at e=>rhs;simp only [iB]
 rw [e]
 refine en [] [] [0,3,4] [] hcx aCf (aCg) (wX a0 0 2147483648) (toNat (2147483648 - 0)+1) (by kernel_rfl) ?_
 exact aQ1 a0 hcx (toNat (2147483648 - 0)+1) 0 2147483648 (by refine⟨?_,?_,?_,?_⟩<;>(try simp only [Ls])<;>first | omega | assumption | simp) (by(try simp only [Ls]);omega)
def sM (a0:Int)(a1:Int):(Int×Int)×Int :=
 (bif (!(aAw (a0,a1))) then
  ((0,0),4)
 else
  ((a0,a1),0))
theorem aQ2 (a0:Int)(a1:Int):Con Tryz.prog 142 [(iv a0),(iv a1)] [] (.t [(.a (k2 (sM a0 a1).1)),(iv (sM a0 a1).2)]) []:=by
 refine aO Tryz.func142 (by kernel_rfl) fun cx hcx=>?_
 let t0:List (St Tryz.prog):=[.c [] (aVt (a0,a1))]
 cases h0:(!(aAw (a0,a1))) with
 | true =>
  have e:=Eq.refl (sM a0 a1);conv at e=>rhs;simp only [sM,h0,aS]
  rw [e]
  exact rt (t0++[.d h0]) [] [] hcx (by kernel_rfl)
 | false =>
  have e:=Eq.refl (sM a0 a1);conv at e=>rhs;simp only [sM,h0,aS]
  rw [e]
  exact rt (t0++[.d h0]) [] [] hcx (by kernel_rfl)
def wQ (a0:Int)(a1:Int):(Int×Int)×Int :=
 (bif (((Int.tmod a0 a1):Int) == 0) then
  (bif (((W ((iB (W (Int.tdiv a0 a1)))*(iB (W (Int.tdiv a0 a1))))):Int) == (W (Int.tdiv a0 a1))) then
   ((sM (iB (W (Int.tdiv a0 a1))) (iB (W (Int.tdiv a0 a1)))).1,(sM (iB (W (Int.tdiv a0 a1))) (iB (W (Int.tdiv a0 a1)))).2)
  else
   ((sM (iB (W (Int.tdiv a0 a1))) (W ((iB (W (Int.tdiv a0 a1)))+1))).1,(sM (iB (W (Int.tdiv a0 a1))) (W ((iB (W (Int.tdiv a0 a1)))+1))).2))
 else
  ((sM (iB (W (Int.tdiv a0 a1))) (W ((iB (W (Int.tdiv a0 a1)))+1))).1,(sM (iB (W (Int.tdiv a0 a1))) (W ((iB (W (Int.tdiv a0 a1)))+1))).2))
theorem aVu (a0:Int)(a1:Int)(ha:a1≠0):Con Tryz.prog 119 [(iv a0),(iv a1)] [] (.t [(.a (k2 (wQ a0 a1).1)),(iv (wQ a0 a1).2)]) []:=by
 refine aO Tryz.func119 (by kernel_rfl) fun cx hcx=>?_
 let t0:List (St Tryz.prog):=[.p (show(a1:Int)≠0 from by first | omega | (rw [aJ]<;>omega) | exact fG _),.c [] (aS8 (W (Int.tdiv a0 a1))),.p (show(a1:Int)≠0 from by first | omega | (rw [aJ]<;>omega) | exact fG _)]
 cases h0:(((Int.tmod a0 a1):Int) == 0) with
 | true =>
  have q0:=eq_of_beq h0
  let t1:List (St Tryz.prog):=(t0++[.d h0,.p (show(a1:Int)≠0 from by first | omega | (rw [aJ]<;>omega) | exact fG _)])
  cases h1:(((W ((iB (W (Int.tdiv a0 a1)))*(iB (W (Int.tdiv a0 a1))))):Int) == (W (Int.tdiv a0 a1))) with
  | true =>
   have q1:=eq_of_beq h1
   have e:=Eq.refl (wQ a0 a1);conv at e=>rhs;simp only [wQ,h0,h1,aS]
   rw [e]
   exact rt (t1++[.d h1,.c [] (aQ2 (iB (W (Int.tdiv a0 a1))) (iB (W (Int.tdiv a0 a1))))]) [] [] hcx (by kernel_rfl)
  | false =>
   have q1:=ne_of_beq_false h1
   have e:=Eq.refl (wQ a0 a1);conv at e=>rhs;simp only [wQ,h0,h1,aS]
   rw [e]
   exact rt (t1++[.d h1,.c [] (aQ2 (iB (W (Int.tdiv a0 a1))) (W ((iB (W (Int.tdiv a0 a1)))+1)))]) [] [] hcx (by kernel_rfl)
 | false =>
  have q0:=ne_of_beq_false h0
  have e:=Eq.refl (wQ a0 a1);conv at e=>rhs;simp only [wQ,h0,aS]
  rw [e]
  exact rt (t0++[.d h0,.c [] (aQ2 (iB (W (Int.tdiv a0 a1))) (W ((iB (W (Int.tdiv a0 a1)))+1)))]) [] [] hcx (by kernel_rfl)
def F82 (a0:Int)(a1:Int):(Int×Int)×Int :=
 (bif (!(sL a0 1 1099511627776)) then
  ((0,0),1)
 else
  (bif (!(sL a1 1 8)) then
   ((0,0),1)
  else
   ((wQ (W ((W ((W (1048576*a1))*1048576))*a1)) a0).1,(wQ (W ((W ((W (1048576*a1))*1048576))*a1)) a0).2)))
theorem C82 (a0:Int)(a1:Int):Con Tryz.prog 82 [(iv a0),(iv a1)] [] (.t [(.a (k2 (F82 a0 a1).1)),(iv (F82 a0 a1).2)]) []:=by
 refine aO Tryz.func82 (by kernel_rfl) fun cx hcx=>?_
 let t0:List (St Tryz.prog):=[.c [] (aS7 a0 1 1099511627776)]
 cases h0:(!(sL a0 1 1099511627776)) with
 | true =>
  have e:=Eq.refl (F82 a0 a1);conv at e=>rhs;simp only [F82,h0,aS]
  rw [e]
  exact rt (t0++[.d h0]) [] [] hcx (by kernel_rfl)
 | false =>
  let t1:List (St Tryz.prog):=(t0++[.d h0,.c [] (aS7 a1 1 8)])
  cases h1:(!(sL a1 1 8)) with
  | true =>
   have e:=Eq.refl (F82 a0 a1);conv at e=>rhs;simp only [F82,h0,h1,aS]
   rw [e]
   exact rt (t1++[.d h1]) [] [] hcx (by kernel_rfl)
  | false =>
   have e:=Eq.refl (F82 a0 a1);conv at e=>rhs;simp only [F82,h0,h1,aS]
   rw [e]
   exact rt (t1++[.d h1,.c [] (aVu (W ((W ((W (1048576*a1))*1048576))*a1)) a0  (aQ0 h0))]) [] [] hcx (by kernel_rfl)
def qQ (a0:Int):Int :=
 (iB a0)
theorem aVv (a0:Int):Con Tryz.prog 116 [(iv a0)] [] (iv (qQ a0)) []:=by
 refine aO Tryz.func116 (by kernel_rfl) fun cx hcx=>?_
 have e:=Eq.refl (qQ a0);conv at e=>rhs;simp only [qQ]
 rw [e]
 exact rt [.c [] (aS8 a0)] [] [] hcx (by kernel_rfl)
def dL (a0:Zt)(a1:Zt):Zt :=
 ((W (a0.1 - a1.1)),(W (a0.2.1 - a1.2.1)),(W (a0.2.2 - a1.2.2)))
theorem C97 (a0:Zt)(a1:Zt):Con Tryz.prog 97 [(.a (k3 a0)),(.a (k3 a1))] [] (.a (k3 (dL a0 a1))) []:=by
 refine aO Tryz.func97 (by kernel_rfl) fun cx hcx=>?_
 have e:=Eq.refl (dL a0 a1);conv at e=>rhs;simp only [dL]
 rw [e]
 exact rt [] [] [] hcx (by kernel_rfl)
def F96 (a0:Zt)(a1:Zt):Zt :=
 ((W ((W (a0.2.1*a1.2.2)) - (W (a0.2.2*a1.2.1)))),(W ((W (a0.2.2*a1.1)) - (W (a0.1*a1.2.2)))),(W ((W (a0.1*a1.2.1)) - (W (a0.2.1*a1.1)))))
theorem C96 (a0:Zt)(a1:Zt):Con Tryz.prog 96 [(.a (k3 a0)),(.a (k3 a1))] [] (.a (k3 (F96 a0 a1))) []:=by
 refine aO Tryz.func96 (by kernel_rfl) fun cx hcx=>?_
 have e:=Eq.refl (F96 a0 a1);conv at e=>rhs;simp only [F96]
 rw [e]
 exact rt [] [] [] hcx (by kernel_rfl)
def nL (a0:Zt×Zt×Zt):Zt :=
 (F96 (dL a0.2.1 a0.1) (dL a0.2.2 a0.1))
theorem C62 (a0:Zt×Zt×Zt):Con Tryz.prog 62 [(.a (k9 a0))] [] (.a (k3 (nL a0))) []:=by
 refine aO Tryz.func62 (by kernel_rfl) fun cx hcx=>?_
 have e:=Eq.refl (nL a0);conv at e=>rhs;simp only [nL]
 rw [e]
 exact rt [.c [] (C97 a0.2.1 a0.1),.c [] (C97 a0.2.2 a0.1),.c [] (C96 (dL a0.2.1 a0.1) (dL a0.2.2 a0.1))] [] [] hcx (by kernel_rfl)
def dB (a0:Zt)(a1:Zt):Int :=
 (W ((W ((W (a0.1*a1.1))+(W (a0.2.1*a1.2.1))))+(W (a0.2.2*a1.2.2))))
theorem aE2 (a0:Zt)(a1:Zt):Con Tryz.prog 117 [(.a (k3 a0)),(.a (k3 a1))] [] (iv (dB a0 a1)) []:=by
 refine aO Tryz.func117 (by kernel_rfl) fun cx hcx=>?_
 have e:=Eq.refl (dB a0 a1);conv at e=>rhs;simp only [dB]
 rw [e]
 exact rt [] [] [] hcx (by kernel_rfl)
def F95 (a0:Int)(a1:Int)(a2:Int):Bool :=
 (bif (decide ((a0:Int)≥a1)) then
  (decide ((a0:Int)<=a2))
 else
  false)
theorem C95 (a0:Int)(a1:Int)(a2:Int):Con Tryz.prog 95 [(iv a0),(iv a1),(iv a2)] [] (.v (.bool (F95 a0 a1 a2))) []:=by
 refine aO Tryz.func95 (by kernel_rfl) fun cx hcx=>?_
 cases h0:(decide ((a0:Int)≥a1)) with
 | true =>
  have q0:=cA h0
  have e:=Eq.refl (F95 a0 a1 a2);conv at e=>rhs;simp only [F95,h0,aS]
  rw [e]
  exact rt [.d h0] [] [] hcx (by kernel_rfl)
 | false =>
  have q0:=cH h0
  have e:=Eq.refl (F95 a0 a1 a2);conv at e=>rhs;simp only [F95,h0,aS]
  rw [e]
  exact rt [.d h0] [] [] hcx (by kernel_rfl)
def F61 (a0:Zt)(a1:Int):Bool :=
 (bif (F95 a0.1 (W (0 - a1)) a1) then
  (bif (F95 a0.2.1 (W (0 - a1)) a1) then
   (F95 a0.2.2 (W (0 - a1)) a1)
  else
   false)
 else
  false)
theorem C61 (a0:Zt)(a1:Int):Con Tryz.prog 61 [(.a (k3 a0)),(iv a1)] [] (.v (.bool (F61 a0 a1))) []:=by
 refine aO Tryz.func61 (by kernel_rfl) fun cx hcx=>?_
 let t0:List (St Tryz.prog):=[.c [] (C95 a0.1 (W (0 - a1)) a1)]
 cases h0:(F95 a0.1 (W (0 - a1)) a1) with
 | true =>
  let t1:List (St Tryz.prog):=(t0++[.d h0,.c [] (C95 a0.2.1 (W (0 - a1)) a1)])
  cases h1:(F95 a0.2.1 (W (0 - a1)) a1) with
  | true =>
   have e:=Eq.refl (F61 a0 a1);conv at e=>rhs;simp only [F61,h0,h1,aS]
   rw [e]
   exact rt (t1++[.d h1,.c [] (C95 a0.2.2 (W (0 - a1)) a1)]) [] [] hcx (by kernel_rfl)
  | false =>
   have e:=Eq.refl (F61 a0 a1);conv at e=>rhs;simp only [F61,h0,h1,aS]
   rw [e]
   exact rt (t1++[.d h1]) [] [] hcx (by kernel_rfl)
 | false =>
  have e:=Eq.refl (F61 a0 a1);conv at e=>rhs;simp only [F61,h0,aS]
  rw [e]
  exact rt (t0++[.d h0]) [] [] hcx (by kernel_rfl)
def yQ (a0:Zt×Zt×Zt):Int :=
 (bif (!(F61 a0.1 64)) then
  1
 else
  (bif (!(F61 a0.2.1 64)) then
   1
  else
   (bif (!(F61 a0.2.2 64)) then
    1
   else
    (bif ((((nL a0).1:Int) == 0)&&((((nL a0).2.1:Int) == 0)&&((((nL a0).2.2:Int) == 0)&&true))) then
     6
    else
     0))))
theorem C34 (a0:Zt×Zt×Zt):Con Tryz.prog 34 [(.a (k9 a0))] [] (iv (yQ a0)) []:=by
 refine aO Tryz.func34 (by kernel_rfl) fun cx hcx=>?_
 let t0:List (St Tryz.prog):=[.c [] (C61 a0.1 64)]
 cases h0:(!(F61 a0.1 64)) with
 | true =>
  have e:=Eq.refl (yQ a0);conv at e=>rhs;simp only [yQ,h0,aS]
  rw [e]
  exact rt (t0++[.d h0]) [] [] hcx (by kernel_rfl)
 | false =>
  let t1:List (St Tryz.prog):=(t0++[.d h0,.c [] (C61 a0.2.1 64)])
  cases h1:(!(F61 a0.2.1 64)) with
  | true =>
   have e:=Eq.refl (yQ a0);conv at e=>rhs;simp only [yQ,h0,h1,aS]
   rw [e]
   exact rt (t1++[.d h1]) [] [] hcx (by kernel_rfl)
  | false =>
   let t2:List (St Tryz.prog):=(t1++[.d h1,.c [] (C61 a0.2.2 64)])
   cases h2:(!(F61 a0.2.2 64)) with
   | true =>
    have e:=Eq.refl (yQ a0);conv at e=>rhs;simp only [yQ,h0,h1,h2,aS]
    rw [e]
    exact rt (t2++[.d h2]) [] [] hcx (by kernel_rfl)
   | false =>
    let t3:List (St Tryz.prog):=(t2++[.d h2,.c [] (C62 a0)])
    cases h3:((((nL a0).1:Int) == 0)&&((((nL a0).2.1:Int) == 0)&&((((nL a0).2.2:Int) == 0)&&true))) with
    | true =>
     have e:=Eq.refl (yQ a0);conv at e=>rhs;simp only [yQ,h0,h1,h2,h3,aS]
     rw [e]
     exact rt (t3++[.d h3]) [] [] hcx (by kernel_rfl)
    | false =>
     have e:=Eq.refl (yQ a0);conv at e=>rhs;simp only [yQ,h0,h1,h2,h3,aS]
     rw [e]
     exact rt (t3++[.d h3]) [] [] hcx (by kernel_rfl)
def F35 (a0:Int)(a1:Int)(a2:Int):Bool :=
 (bif (decide ((a0:Int)≥a1)) then
  (decide ((a0:Int)<=a2))
 else
  false)
theorem C35 (a0:Int)(a1:Int)(a2:Int):Con Tryz.prog 35 [(iv a0),(iv a1),(iv a2)] [] (.v (.bool (F35 a0 a1 a2))) []:=by
 refine aO Tryz.func35 (by kernel_rfl) fun cx hcx=>?_
 cases h0:(decide ((a0:Int)≥a1)) with
 | true =>
  have q0:=cA h0
  have e:=Eq.refl (F35 a0 a1 a2);conv at e=>rhs;simp only [F35,h0,aS]
  rw [e]
  exact rt [.d h0] [] [] hcx (by kernel_rfl)
 | false =>
  have q0:=cH h0
  have e:=Eq.refl (F35 a0 a1 a2);conv at e=>rhs;simp only [F35,h0,aS]
  rw [e]
  exact rt [.d h0] [] [] hcx (by kernel_rfl)
def F55 (a0:Zt×Zt×Zt)(a1:Zt×Zt×Zt)(a2:Int):Int :=
 (bif (((yQ a0):Int) != 0) then
  (yQ a0)
 else
  (bif (((yQ a1):Int) != 0) then
   (yQ a1)
  else
   (bif (!(F35 a2 0 2)) then
    1
   else
    0)))
theorem C55 (a0:Zt×Zt×Zt)(a1:Zt×Zt×Zt)(a2:Int):Con Tryz.prog 55 [(.a (k9 a0)),(.a (k9 a1)),(iv a2)] [] (iv (F55 a0 a1 a2)) []:=by
 refine aO Tryz.func55 (by kernel_rfl) fun cx hcx=>?_
 let t0:List (St Tryz.prog):=[.c [] (C34 a0)]
 cases h0:(((yQ a0):Int) != 0) with
 | true =>
  have q0:=bne_iff_ne.1 h0
  have e:=Eq.refl (F55 a0 a1 a2);conv at e=>rhs;simp only [F55,h0,aS]
  rw [e]
  exact rt (t0++[.d h0]) [] [] hcx (by kernel_rfl)
 | false =>
  have q0:=bne_eq_false_iff_eq.1 h0
  let t1:List (St Tryz.prog):=(t0++[.d h0,.c [] (C34 a1)])
  cases h1:(((yQ a1):Int) != 0) with
  | true =>
   have q1:=bne_iff_ne.1 h1
   have e:=Eq.refl (F55 a0 a1 a2);conv at e=>rhs;simp only [F55,h0,h1,aS]
   rw [e]
   exact rt (t1++[.d h1]) [] [] hcx (by kernel_rfl)
  | false =>
   have q1:=bne_eq_false_iff_eq.1 h1
   let t2:List (St Tryz.prog):=(t1++[.d h1,.c [] (C35 a2 0 2)])
   cases h2:(!(F35 a2 0 2)) with
   | true =>
    have e:=Eq.refl (F55 a0 a1 a2);conv at e=>rhs;simp only [F55,h0,h1,h2,aS]
    rw [e]
    exact rt (t2++[.d h2]) [] [] hcx (by kernel_rfl)
   | false =>
    have e:=Eq.refl (F55 a0 a1 a2);conv at e=>rhs;simp only [F55,h0,h1,h2,aS]
    rw [e]
    exact rt (t2++[.d h2]) [] [] hcx (by kernel_rfl)
def c70 (x:Zt×Zt×Zt):List SV:=[(iv x.1.1),(iv x.1.2.1),(iv x.1.2.2),(iv x.2.1.1),(iv x.2.1.2.1),(iv x.2.1.2.2),(iv x.2.2.1),(iv x.2.2.2.1),(iv x.2.2.2.2)]
theorem oS (x:Zt×Zt×Zt):(c70 x).length=9:=rfl
def aZ (a0:Zt)(a1:Int):Zt :=
 ((W (a1*a0.1)),(W (a1*a0.2.1)),(W (a1*a0.2.2)))
theorem C57 (a0:Zt)(a1:Int):Con Tryz.prog 57 [(.a (k3 a0)),(iv a1)] [] (.a (k3 (aZ a0 a1))) []:=by
 refine aO Tryz.func57 (by kernel_rfl) fun cx hcx=>?_
 have e:=Eq.refl (aZ a0 a1);conv at e=>rhs;simp only [aZ]
 rw [e]
 exact rt [] [] [] hcx (by kernel_rfl)
def bF (a0:Zt)(a1:Zt):Zt :=
 ((W (Int.tdiv (W (a0.1+a1.1)) 2)),(W (Int.tdiv (W (a0.2.1+a1.2.1)) 2)),(W (Int.tdiv (W (a0.2.2+a1.2.2)) 2)))
theorem aQ3 (a0:Zt)(a1:Zt):Con Tryz.prog 115 [(.a (k3 a0)),(.a (k3 a1))] [] (.a (k3 (bF a0 a1))) []:=by
 refine aO Tryz.func115 (by kernel_rfl) fun cx hcx=>?_
 have e:=Eq.refl (bF a0 a1);conv at e=>rhs;simp only [bF]
 rw [e]
 exact rt [.p (show(2:Int)≠0 from by decide),.p (show(2:Int)≠0 from by decide),.p (show(2:Int)≠0 from by decide)] [] [] hcx (by kernel_rfl)
noncomputable def aL2:Code:=(aI [1,1,0,1,0,1,0,1,0,1] [0] (aL Tryz.f80) []).1
noncomputable def aL3 (m0:Nat):List K:=(aI [1,1,0,1,0,1,0,1,0,1] [m0] (aL Tryz.f80) []).2
def aGl (a0:Zt×Zt×Zt)(a1:Int)(v13c:List SV)(v13n:Nat)(v14c:List SV)(v14n:Nat)(v15 v16:Int):LS:=⟨iM 76 [(1,(iv a1)),(5,(.s 0 0 v13n 9)),(6,(iv v15)),(7,(.s 1 0 v14n 9)),(8,(iv v16))],[(.live true true v13c),(.live true true v14c)]⟩
def nH (a0:Zt×Zt×Zt)(a1:Int):(List (Zt×Zt×Zt))×(List (Zt×Zt×Zt))×Int×Int->((List (Zt×Zt×Zt))×(List (Zt×Zt×Zt))×Int×Int)⊕(((List (Zt×Zt×Zt))×Int)⊕(List (Zt×Zt×Zt)))
 | (v13,v14,v15,v16) =>
  (bif (decide ((v16:Int) < (v13.length:Int))) then
   (.inl (v13,(v14++[((aZ (v13.getD (toNat v16) default).1 2),(bF (aZ (v13.getD (toNat v16) default).1 2) (aZ (v13.getD (toNat v16) default).2.1 2)),(bF (aZ (v13.getD (toNat v16) default).2.2 2) (aZ (v13.getD (toNat v16) default).1 2))),((bF (aZ (v13.getD (toNat v16) default).1 2) (aZ (v13.getD (toNat v16) default).2.1 2)),(aZ (v13.getD (toNat v16) default).2.1 2),(bF (aZ (v13.getD (toNat v16) default).2.1 2) (aZ (v13.getD (toNat v16) default).2.2 2))),((bF (aZ (v13.getD (toNat v16) default).2.2 2) (aZ (v13.getD (toNat v16) default).1 2)),(bF (aZ (v13.getD (toNat v16) default).2.1 2) (aZ (v13.getD (toNat v16) default).2.2 2)),(aZ (v13.getD (toNat v16) default).2.2 2)),((bF (aZ (v13.getD (toNat v16) default).1 2) (aZ (v13.getD (toNat v16) default).2.1 2)),(bF (aZ (v13.getD (toNat v16) default).2.1 2) (aZ (v13.getD (toNat v16) default).2.2 2)),(bF (aZ (v13.getD (toNat v16) default).2.2 2) (aZ (v13.getD (toNat v16) default).1 2)))]),v15,(v16+1)))
  else
   (.inr (.inl (v14,(v15+1)))))
noncomputable def aIj:Code:=(aI [1,1,0,1] [] (aL Tryz.f80) []).1
noncomputable def aIk:List K:=(aI [1,1,0,1] [] (aL Tryz.f80) []).2
def aCh (a0:Zt×Zt×Zt)(a1:Int)(v11c:List SV)(v11n:Nat)(v12:Int):LS:=⟨iM 76 [(1,(iv a1)),(5,(.s 0 0 v11n 9)),(6,(iv v12))],[(.live true true v11c)]⟩
def jP (a0:Zt×Zt×Zt)(a1:Int):(List (Zt×Zt×Zt))×Int->((List (Zt×Zt×Zt))×Int)⊕(List (Zt×Zt×Zt))
 | (v11,v12) =>
  (bif (decide ((v12:Int) < a1)) then
   (aC (nH a0 a1) (toNat ((v11.length:Int) - 0)+1) (v11,([]:List (Zt×Zt×Zt)),v12,0))
  else
   (.inr v11))
theorem aS9 (a0:Zt×Zt×Zt)(a1:Int)(ha:0<=a1/\a1<=3) {cx:Cx} (hcx:cx.base=0)
   (n0:Nat) (g0:∀(v11:List (Zt×Zt×Zt)) (v12:Int),(0<=v12)/\(v12=0/\v11.length<=1\/v12=1/\v11.length<=4\/v12=2/\v11.length<=16\/3<=v12/\v11.length<=64)->toNat (a1 - v12) < n0->Aw.Good Tryz.prog none 9 (bodyPost Tryz.prog Tryz.f80 (RR cx (.s 0 0 (aC (jP a0 a1) n0 (v11,v12)).length 9) [(.live true true (flat c70 (aC (jP a0 a1) n0 (v11,v12))))] [])) cx [] (.l aIj n0::aIk) (aCh a0 a1 (flat c70 v11) v11.length v12)):∀(n:Nat) (v13:List (Zt×Zt×Zt)) (v14:List (Zt×Zt×Zt)) (v15 v16:Int),(0<=v16)/\(v14.length=4*toNat v16)/\(v16<=v13.length)/\((0<=v15))/\((v15=0/\v13.length<=1\/v15=1/\v13.length<=4\/v15=2/\v13.length<=16\/3<=v15/\v13.length<=64))/\(v15 < a1)/\(toNat (a1 - v15) < n0+1)->toNat ((v13.length:Int) - v16) < n->Aw.Good Tryz.prog none 9 (bodyPost Tryz.prog Tryz.f80 (RR cx (.s 0 0 (aT (jP a0 a1) n0 (aC (nH a0 a1) n (v13,v14,v15,v16))).length 9) [(.live true true (flat c70 (aT (jP a0 a1) n0 (aC (nH a0 a1) n (v13,v14,v15,v16)))))] [])) cx [] (.l aL2 n::aL3 n0) (aGl a0 a1 (flat c70 v13) v13.length (flat c70 v14) v14.length v15 v16):=by
 intro n
 induction n with
 | zero=>intro v13 v14 v15 v16 hi hn;exact absurd hn (eP _)
 | succ n ih =>
   intro v13 v14 v15 v16 hi hn
   refine aQ ?_
   cases h0:(decide ((v16:Int) < (v13.length:Int))) with
   | true =>
    have q0:=cA h0
    have e:=Eq.refl (nH a0 a1 (v13,v14,v15,v16));conv at e=>rhs;simp only [nH,h0,aS]
    rw [aE e]
    refine ba [.d h0,.i v16 (v13.length),.L oS v13 v16 0 3,.c [] (C57 (v13.getD (toNat v16) default).1 2),.i v16 (v13.length),.L oS v13 v16 3 3,.c [] (C57 (v13.getD (toNat v16) default).2.1 2),.i v16 (v13.length),.L oS v13 v16 6 3,.c [] (C57 (v13.getD (toNat v16) default).2.2 2),.c [] (aQ3 (aZ (v13.getD (toNat v16) default).1 2) (aZ (v13.getD (toNat v16) default).2.1 2)),.c [] (aQ3 (aZ (v13.getD (toNat v16) default).2.1 2) (aZ (v13.getD (toNat v16) default).2.2 2)),.c [] (aQ3 (aZ (v13.getD (toNat v16) default).2.2 2) (aZ (v13.getD (toNat v16) default).1 2)),.p (show((flat c70 v14).length=v14.length*9/\v14.length+4<=2 ^ 40/\(v14.length+4)*72<=2 ^ 47) from gK oS (by omega) (by omega))] [] [1,5,6,7,8] [0,9] hcx (m:=n) aL2 (aL3 n0) (aGl a0 a1 (flat c70 v13) (v13.length) (flat c70 v14++[(iv (aZ (v13.getD (toNat v16) default).1 2).1),(iv (aZ (v13.getD (toNat v16) default).1 2).2.1),(iv (aZ (v13.getD (toNat v16) default).1 2).2.2),(iv (bF (aZ (v13.getD (toNat v16) default).1 2) (aZ (v13.getD (toNat v16) default).2.1 2)).1),(iv (bF (aZ (v13.getD (toNat v16) default).1 2) (aZ (v13.getD (toNat v16) default).2.1 2)).2.1),(iv (bF (aZ (v13.getD (toNat v16) default).1 2) (aZ (v13.getD (toNat v16) default).2.1 2)).2.2),(iv (bF (aZ (v13.getD (toNat v16) default).2.2 2) (aZ (v13.getD (toNat v16) default).1 2)).1),(iv (bF (aZ (v13.getD (toNat v16) default).2.2 2) (aZ (v13.getD (toNat v16) default).1 2)).2.1),(iv (bF (aZ (v13.getD (toNat v16) default).2.2 2) (aZ (v13.getD (toNat v16) default).1 2)).2.2),(iv (bF (aZ (v13.getD (toNat v16) default).1 2) (aZ (v13.getD (toNat v16) default).2.1 2)).1),(iv (bF (aZ (v13.getD (toNat v16) default).1 2) (aZ (v13.getD (toNat v16) default).2.1 2)).2.1),(iv (bF (aZ (v13.getD (toNat v16) default).1 2) (aZ (v13.getD (toNat v16) default).2.1 2)).2.2),(iv (aZ (v13.getD (toNat v16) default).2.1 2).1),(iv (aZ (v13.getD (toNat v16) default).2.1 2).2.1),(iv (aZ (v13.getD (toNat v16) default).2.1 2).2.2),(iv (bF (aZ (v13.getD (toNat v16) default).2.1 2) (aZ (v13.getD (toNat v16) default).2.2 2)).1),(iv (bF (aZ (v13.getD (toNat v16) default).2.1 2) (aZ (v13.getD (toNat v16) default).2.2 2)).2.1),(iv (bF (aZ (v13.getD (toNat v16) default).2.1 2) (aZ (v13.getD (toNat v16) default).2.2 2)).2.2),(iv (bF (aZ (v13.getD (toNat v16) default).2.2 2) (aZ (v13.getD (toNat v16) default).1 2)).1),(iv (bF (aZ (v13.getD (toNat v16) default).2.2 2) (aZ (v13.getD (toNat v16) default).1 2)).2.1),(iv (bF (aZ (v13.getD (toNat v16) default).2.2 2) (aZ (v13.getD (toNat v16) default).1 2)).2.2),(iv (bF (aZ (v13.getD (toNat v16) default).2.1 2) (aZ (v13.getD (toNat v16) default).2.2 2)).1),(iv (bF (aZ (v13.getD (toNat v16) default).2.1 2) (aZ (v13.getD (toNat v16) default).2.2 2)).2.1),(iv (bF (aZ (v13.getD (toNat v16) default).2.1 2) (aZ (v13.getD (toNat v16) default).2.2 2)).2.2),(iv (aZ (v13.getD (toNat v16) default).2.2 2).1),(iv (aZ (v13.getD (toNat v16) default).2.2 2).2.1),(iv (aZ (v13.getD (toNat v16) default).2.2 2).2.2),(iv (bF (aZ (v13.getD (toNat v16) default).1 2) (aZ (v13.getD (toNat v16) default).2.1 2)).1),(iv (bF (aZ (v13.getD (toNat v16) default).1 2) (aZ (v13.getD (toNat v16) default).2.1 2)).2.1),(iv (bF (aZ (v13.getD (toNat v16) default).1 2) (aZ (v13.getD (toNat v16) default).2.1 2)).2.2),(iv (bF (aZ (v13.getD (toNat v16) default).2.1 2) (aZ (v13.getD (toNat v16) default).2.2 2)).1),(iv (bF (aZ (v13.getD (toNat v16) default).2.1 2) (aZ (v13.getD (toNat v16) default).2.2 2)).2.1),(iv (bF (aZ (v13.getD (toNat v16) default).2.1 2) (aZ (v13.getD (toNat v16) default).2.2 2)).2.2),(iv (bF (aZ (v13.getD (toNat v16) default).2.2 2) (aZ (v13.getD (toNat v16) default).1 2)).1),(iv (bF (aZ (v13.getD (toNat v16) default).2.2 2) (aZ (v13.getD (toNat v16) default).1 2)).2.1),(iv (bF (aZ (v13.getD (toNat v16) default).2.2 2) (aZ (v13.getD (toNat v16) default).1 2)).2.2)]) (v14.length+4) v15 (W (v16+1))) (by kernel_rfl) ?_
    have z0:(W (v16+1))=(v16+1):=aJ (by omega) (by omega)
    have z1:(flat c70 v14++[(iv (aZ (v13.getD (toNat v16) default).1 2).1),(iv (aZ (v13.getD (toNat v16) default).1 2).2.1),(iv (aZ (v13.getD (toNat v16) default).1 2).2.2),(iv (bF (aZ (v13.getD (toNat v16) default).1 2) (aZ (v13.getD (toNat v16) default).2.1 2)).1),(iv (bF (aZ (v13.getD (toNat v16) default).1 2) (aZ (v13.getD (toNat v16) default).2.1 2)).2.1),(iv (bF (aZ (v13.getD (toNat v16) default).1 2) (aZ (v13.getD (toNat v16) default).2.1 2)).2.2),(iv (bF (aZ (v13.getD (toNat v16) default).2.2 2) (aZ (v13.getD (toNat v16) default).1 2)).1),(iv (bF (aZ (v13.getD (toNat v16) default).2.2 2) (aZ (v13.getD (toNat v16) default).1 2)).2.1),(iv (bF (aZ (v13.getD (toNat v16) default).2.2 2) (aZ (v13.getD (toNat v16) default).1 2)).2.2),(iv (bF (aZ (v13.getD (toNat v16) default).1 2) (aZ (v13.getD (toNat v16) default).2.1 2)).1),(iv (bF (aZ (v13.getD (toNat v16) default).1 2) (aZ (v13.getD (toNat v16) default).2.1 2)).2.1),(iv (bF (aZ (v13.getD (toNat v16) default).1 2) (aZ (v13.getD (toNat v16) default).2.1 2)).2.2),(iv (aZ (v13.getD (toNat v16) default).2.1 2).1),(iv (aZ (v13.getD (toNat v16) default).2.1 2).2.1),(iv (aZ (v13.getD (toNat v16) default).2.1 2).2.2),(iv (bF (aZ (v13.getD (toNat v16) default).2.1 2) (aZ (v13.getD (toNat v16) default).2.2 2)).1),(iv (bF (aZ (v13.getD (toNat v16) default).2.1 2) (aZ (v13.getD (toNat v16) default).2.2 2)).2.1),(iv (bF (aZ (v13.getD (toNat v16) default).2.1 2) (aZ (v13.getD (toNat v16) default).2.2 2)).2.2),(iv (bF (aZ (v13.getD (toNat v16) default).2.2 2) (aZ (v13.getD (toNat v16) default).1 2)).1),(iv (bF (aZ (v13.getD (toNat v16) default).2.2 2) (aZ (v13.getD (toNat v16) default).1 2)).2.1),(iv (bF (aZ (v13.getD (toNat v16) default).2.2 2) (aZ (v13.getD (toNat v16) default).1 2)).2.2),(iv (bF (aZ (v13.getD (toNat v16) default).2.1 2) (aZ (v13.getD (toNat v16) default).2.2 2)).1),(iv (bF (aZ (v13.getD (toNat v16) default).2.1 2) (aZ (v13.getD (toNat v16) default).2.2 2)).2.1),(iv (bF (aZ (v13.getD (toNat v16) default).2.1 2) (aZ (v13.getD (toNat v16) default).2.2 2)).2.2),(iv (aZ (v13.getD (toNat v16) default).2.2 2).1),(iv (aZ (v13.getD (toNat v16) default).2.2 2).2.1),(iv (aZ (v13.getD (toNat v16) default).2.2 2).2.2),(iv (bF (aZ (v13.getD (toNat v16) default).1 2) (aZ (v13.getD (toNat v16) default).2.1 2)).1),(iv (bF (aZ (v13.getD (toNat v16) default).1 2) (aZ (v13.getD (toNat v16) default).2.1 2)).2.1),(iv (bF (aZ (v13.getD (toNat v16) default).1 2) (aZ (v13.getD (toNat v16) default).2.1 2)).2.2),(iv (bF (aZ (v13.getD (toNat v16) default).2.1 2) (aZ (v13.getD (toNat v16) default).2.2 2)).1),(iv (bF (aZ (v13.getD (toNat v16) default).2.1 2) (aZ (v13.getD (toNat v16) default).2.2 2)).2.1),(iv (bF (aZ (v13.getD (toNat v16) default).2.1 2) (aZ (v13.getD (toNat v16) default).2.2 2)).2.2),(iv (bF (aZ (v13.getD (toNat v16) default).2.2 2) (aZ (v13.getD (toNat v16) default).1 2)).1),(iv (bF (aZ (v13.getD (toNat v16) default).2.2 2) (aZ (v13.getD (toNat v16) default).1 2)).2.1),(iv (bF (aZ (v13.getD (toNat v16) default).2.2 2) (aZ (v13.getD (toNat v16) default).1 2)).2.2)])=(flat c70 (v14++[((aZ (v13.getD (toNat v16) default).1 2),(bF (aZ (v13.getD (toNat v16) default).1 2) (aZ (v13.getD (toNat v16) default).2.1 2)),(bF (aZ (v13.getD (toNat v16) default).2.2 2) (aZ (v13.getD (toNat v16) default).1 2))),((bF (aZ (v13.getD (toNat v16) default).1 2) (aZ (v13.getD (toNat v16) default).2.1 2)),(aZ (v13.getD (toNat v16) default).2.1 2),(bF (aZ (v13.getD (toNat v16) default).2.1 2) (aZ (v13.getD (toNat v16) default).2.2 2))),((bF (aZ (v13.getD (toNat v16) default).2.2 2) (aZ (v13.getD (toNat v16) default).1 2)),(bF (aZ (v13.getD (toNat v16) default).2.1 2) (aZ (v13.getD (toNat v16) default).2.2 2)),(aZ (v13.getD (toNat v16) default).2.2 2)),((bF (aZ (v13.getD (toNat v16) default).1 2) (aZ (v13.getD (toNat v16) default).2.1 2)),(bF (aZ (v13.getD (toNat v16) default).2.1 2) (aZ (v13.getD (toNat v16) default).2.2 2)),(bF (aZ (v13.getD (toNat v16) default).2.2 2) (aZ (v13.getD (toNat v16) default).1 2)))])):=(bL (c:=c70) (l:=v14) (m:=[((aZ (v13.getD (toNat v16) default).1 2),(bF (aZ (v13.getD (toNat v16) default).1 2) (aZ (v13.getD (toNat v16) default).2.1 2)),(bF (aZ (v13.getD (toNat v16) default).2.2 2) (aZ (v13.getD (toNat v16) default).1 2))),((bF (aZ (v13.getD (toNat v16) default).1 2) (aZ (v13.getD (toNat v16) default).2.1 2)),(aZ (v13.getD (toNat v16) default).2.1 2),(bF (aZ (v13.getD (toNat v16) default).2.1 2) (aZ (v13.getD (toNat v16) default).2.2 2))),((bF (aZ (v13.getD (toNat v16) default).2.2 2) (aZ (v13.getD (toNat v16) default).1 2)),(bF (aZ (v13.getD (toNat v16) default).2.1 2) (aZ (v13.getD (toNat v16) default).2.2 2)),(aZ (v13.getD (toNat v16) default).2.2 2)),((bF (aZ (v13.getD (toNat v16) default).1 2) (aZ (v13.getD (toNat v16) default).2.1 2)),(bF (aZ (v13.getD (toNat v16) default).2.1 2) (aZ (v13.getD (toNat v16) default).2.2 2)),(bF (aZ (v13.getD (toNat v16) default).2.2 2) (aZ (v13.getD (toNat v16) default).1 2)))])).symm
    have z2:(v14.length+4)=(v14++[((aZ (v13.getD (toNat v16) default).1 2),(bF (aZ (v13.getD (toNat v16) default).1 2) (aZ (v13.getD (toNat v16) default).2.1 2)),(bF (aZ (v13.getD (toNat v16) default).2.2 2) (aZ (v13.getD (toNat v16) default).1 2))),((bF (aZ (v13.getD (toNat v16) default).1 2) (aZ (v13.getD (toNat v16) default).2.1 2)),(aZ (v13.getD (toNat v16) default).2.1 2),(bF (aZ (v13.getD (toNat v16) default).2.1 2) (aZ (v13.getD (toNat v16) default).2.2 2))),((bF (aZ (v13.getD (toNat v16) default).2.2 2) (aZ (v13.getD (toNat v16) default).1 2)),(bF (aZ (v13.getD (toNat v16) default).2.1 2) (aZ (v13.getD (toNat v16) default).2.2 2)),(aZ (v13.getD (toNat v16) default).2.2 2)),((bF (aZ (v13.getD (toNat v16) default).1 2) (aZ (v13.getD (toNat v16) default).2.1 2)),(bF (aZ (v13.getD (toNat v16) default).2.1 2) (aZ (v13.getD (toNat v16) default).2.2 2)),(bF (aZ (v13.getD (toNat v16) default).2.2 2) (aZ (v13.getD (toNat v16) default).1 2)))]).length:=gU v14 [((aZ (v13.getD (toNat v16) default).1 2),(bF (aZ (v13.getD (toNat v16) default).1 2) (aZ (v13.getD (toNat v16) default).2.1 2)),(bF (aZ (v13.getD (toNat v16) default).2.2 2) (aZ (v13.getD (toNat v16) default).1 2))),((bF (aZ (v13.getD (toNat v16) default).1 2) (aZ (v13.getD (toNat v16) default).2.1 2)),(aZ (v13.getD (toNat v16) default).2.1 2),(bF (aZ (v13.getD (toNat v16) default).2.1 2) (aZ (v13.getD (toNat v16) default).2.2 2))),((bF (aZ (v13.getD (toNat v16) default).2.2 2) (aZ (v13.getD (toNat v16) default).1 2)),(bF (aZ (v13.getD (toNat v16) default).2.1 2) (aZ (v13.getD (toNat v16) default).2.2 2)),(aZ (v13.getD (toNat v16) default).2.2 2)),((bF (aZ (v13.getD (toNat v16) default).1 2) (aZ (v13.getD (toNat v16) default).2.1 2)),(bF (aZ (v13.getD (toNat v16) default).2.1 2) (aZ (v13.getD (toNat v16) default).2.2 2)),(bF (aZ (v13.getD (toNat v16) default).2.2 2) (aZ (v13.getD (toNat v16) default).1 2)))] rfl
    rw [z0,z1,z2]
    exact ih v13 (v14++[((aZ (v13.getD (toNat v16) default).1 2),(bF (aZ (v13.getD (toNat v16) default).1 2) (aZ (v13.getD (toNat v16) default).2.1 2)),(bF (aZ (v13.getD (toNat v16) default).2.2 2) (aZ (v13.getD (toNat v16) default).1 2))),((bF (aZ (v13.getD (toNat v16) default).1 2) (aZ (v13.getD (toNat v16) default).2.1 2)),(aZ (v13.getD (toNat v16) default).2.1 2),(bF (aZ (v13.getD (toNat v16) default).2.1 2) (aZ (v13.getD (toNat v16) default).2.2 2))),((bF (aZ (v13.getD (toNat v16) default).2.2 2) (aZ (v13.getD (toNat v16) default).1 2)),(bF (aZ (v13.getD (toNat v16) default).2.1 2) (aZ (v13.getD (toNat v16) default).2.2 2)),(aZ (v13.getD (toNat v16) default).2.2 2)),((bF (aZ (v13.getD (toNat v16) default).1 2) (aZ (v13.getD (toNat v16) default).2.1 2)),(bF (aZ (v13.getD (toNat v16) default).2.1 2) (aZ (v13.getD (toNat v16) default).2.2 2)),(bF (aZ (v13.getD (toNat v16) default).2.2 2) (aZ (v13.getD (toNat v16) default).1 2)))]) v15 (v16+1) (by refine⟨?_,?_,?_,?_,?_,?_,?_⟩<;>(try simp only [Ls])<;>first | omega | assumption | exact hi.2.1 | exact hi.2.2.1 | exact hi.2.2.2.1 | exact hi.2.2.2.2.1 | exact hi.2.2.2.2.2.1 | exact hi.2.2.2.2.2.2.1 | simp) (by(try simp only [Ls]);omega)
   | false =>
    have q0:=cH h0
    have e:=Eq.refl (nH a0 a1 (v13,v14,v15,v16));conv at e=>rhs;simp only [nH,h0,aS]
    rw [aN,e]
    refine ba [.d h0] [] [1,5,6] [1] hcx (m:=n0) aIj (aIk) (aCh a0 a1 (flat c70 v14) (v14.length) (W (v15+1))) (by kernel_rfl) ?_
    have z0:(W (v15+1))=(v15+1):=aJ (by omega) (by omega)
    rw [z0]
    exact g0 v14 (v15+1) (by refine⟨?_,?_⟩<;>(try simp only [Ls])<;>first | omega | assumption | simp) (by(try simp only [Ls]);omega)
theorem aTa (a0:Zt×Zt×Zt)(a1:Int)(ha:0<=a1/\a1<=3) {cx:Cx} (hcx:cx.base=0):∀(n:Nat) (v11:List (Zt×Zt×Zt)) (v12:Int),(0<=v12)/\(v12=0/\v11.length<=1\/v12=1/\v11.length<=4\/v12=2/\v11.length<=16\/3<=v12/\v11.length<=64)->toNat (a1 - v12) < n->Aw.Good Tryz.prog none 9 (bodyPost Tryz.prog Tryz.f80 (RR cx (.s 0 0 (aC (jP a0 a1) n (v11,v12)).length 9) [(.live true true (flat c70 (aC (jP a0 a1) n (v11,v12))))] [])) cx [] (.l aIj n::aIk) (aCh a0 a1 (flat c70 v11) v11.length v12):=by
 intro n
 induction n with
 | zero=>intro v11 v12 hi hn;exact absurd hn (eP _)
 | succ n ih =>
   intro v11 v12 hi hn
   refine aQ ?_
   cases h0:(decide ((v12:Int) < a1)) with
   | true =>
    have q0:=cA h0
    have e:=Eq.refl (jP a0 a1 (v11,v12));conv at e=>rhs;simp only [jP,h0,aS]
    rw [aN,e]
    refine en [.d h0] [.slot 7 9] [1,5,6,7,8] [0,1] hcx aL2 (aL3 n) (aGl a0 a1 (flat c70 v11) (v11.length) (flat c70 ([]:List (Zt×Zt×Zt))) 0 v12 0) (toNat ((v11.length:Int) - 0)+1) (by kernel_rfl) ?_
    exact aS9 a0 a1 ha hcx n ih (toNat ((v11.length:Int) - 0)+1) v11 ([]:List (Zt×Zt×Zt)) v12 0 (by refine⟨?_,?_,?_,?_,?_,?_,?_⟩<;>(try simp only [Ls])<;>first | omega | assumption | exact hi.2.1 | exact hi.2.2.1 | exact hi.2.2.2.1 | exact hi.2.2.2.2.1 | exact hi.2.2.2.2.2.1 | exact hi.2.2.2.2.2.2.1 | simp) (by(try simp only [Ls]);omega)
   | false =>
    have q0:=cH h0
    have e:=Eq.refl (jP a0 a1 (v11,v12));conv at e=>rhs;simp only [jP,h0,aS]
    rw [aN,e]
    exact rt [.d h0] [] [0] hcx (by kernel_rfl)
def lF (a0:Zt×Zt×Zt)(a1:Int):List (Zt×Zt×Zt) :=
 (aC (jP a0 a1) (toNat (a1 - 0)+1) (([a0]:List (Zt×Zt×Zt)),0))
theorem C80 (a0:Zt×Zt×Zt)(a1:Int)(ha:0<=a1/\a1<=3):Con Tryz.prog 80 [(.a (k9 a0)),(iv a1)] [] (.s 0 0 (lF a0 a1).length 9) [(.live true true (flat c70 (lF a0 a1)))]:=by
 refine aO Tryz.func80 (by kernel_rfl) fun cx hcx=>?_
 have e:=Eq.refl (lF a0 a1);conv at e=>rhs;simp only [lF]
 rw [e]
 refine en [] [.sym 1 true] [1,5,6] [1] hcx aIj (aIk) (aCh a0 a1 (flat c70 ([a0]:List (Zt×Zt×Zt))) 1 0) (toNat (a1 - 0)+1) (by kernel_rfl) ?_
 exact aTa a0 a1 ha hcx (toNat (a1 - 0)+1) ([a0]:List (Zt×Zt×Zt)) 0 (by refine⟨?_,?_⟩<;>(try simp only [Ls])<;>first | omega | assumption | simp) (by(try simp only [Ls]);omega)
noncomputable def iZ:Code:=(aI [1,1,0,1] [] (aL Tryz.f83) []).1
noncomputable def jA:List K:=(aI [1,1,0,1] [] (aL Tryz.f83) []).2
def gQ (a0:Zt×Zt×Zt)(a1:List Zt)(v1 v2:Int):LS:=⟨iM 44 [(1,(.s 0 0 a1.length 3)),(2,(.p 1 0)),(5,(iv v1)),(6,(iv v2))],[(.live false true (flat c24 a1)),(.live true false (k9 a0))]⟩
def dA (a0:Zt×Zt×Zt)(a1:List Zt):Int×Int->(Int×Int)⊕(Int)
 | (v1,v2) =>
  (bif (decide ((v2:Int) < (a1.length:Int))) then
   (bif (decide (((dB (dL a0.1 (a1.getD (toNat v2) default)) (dL a0.1 (a1.getD (toNat v2) default))):Int) > v1)) then
    (bif (decide (((dB (dL a0.2.1 (a1.getD (toNat v2) default)) (dL a0.2.1 (a1.getD (toNat v2) default))):Int) > (dB (dL a0.1 (a1.getD (toNat v2) default)) (dL a0.1 (a1.getD (toNat v2) default))))) then
     (bif (decide (((dB (dL a0.2.2 (a1.getD (toNat v2) default)) (dL a0.2.2 (a1.getD (toNat v2) default))):Int) > (dB (dL a0.2.1 (a1.getD (toNat v2) default)) (dL a0.2.1 (a1.getD (toNat v2) default))))) then
      (.inl ((dB (dL a0.2.2 (a1.getD (toNat v2) default)) (dL a0.2.2 (a1.getD (toNat v2) default))),(v2+1)))
     else
      (.inl ((dB (dL a0.2.1 (a1.getD (toNat v2) default)) (dL a0.2.1 (a1.getD (toNat v2) default))),(v2+1))))
    else
     (bif (decide (((dB (dL a0.2.2 (a1.getD (toNat v2) default)) (dL a0.2.2 (a1.getD (toNat v2) default))):Int) > (dB (dL a0.1 (a1.getD (toNat v2) default)) (dL a0.1 (a1.getD (toNat v2) default))))) then
      (.inl ((dB (dL a0.2.2 (a1.getD (toNat v2) default)) (dL a0.2.2 (a1.getD (toNat v2) default))),(v2+1)))
     else
      (.inl ((dB (dL a0.1 (a1.getD (toNat v2) default)) (dL a0.1 (a1.getD (toNat v2) default))),(v2+1)))))
   else
    (bif (decide (((dB (dL a0.2.1 (a1.getD (toNat v2) default)) (dL a0.2.1 (a1.getD (toNat v2) default))):Int) > v1)) then
     (bif (decide (((dB (dL a0.2.2 (a1.getD (toNat v2) default)) (dL a0.2.2 (a1.getD (toNat v2) default))):Int) > (dB (dL a0.2.1 (a1.getD (toNat v2) default)) (dL a0.2.1 (a1.getD (toNat v2) default))))) then
      (.inl ((dB (dL a0.2.2 (a1.getD (toNat v2) default)) (dL a0.2.2 (a1.getD (toNat v2) default))),(v2+1)))
     else
      (.inl ((dB (dL a0.2.1 (a1.getD (toNat v2) default)) (dL a0.2.1 (a1.getD (toNat v2) default))),(v2+1))))
    else
     (bif (decide (((dB (dL a0.2.2 (a1.getD (toNat v2) default)) (dL a0.2.2 (a1.getD (toNat v2) default))):Int) > v1)) then
      (.inl ((dB (dL a0.2.2 (a1.getD (toNat v2) default)) (dL a0.2.2 (a1.getD (toNat v2) default))),(v2+1)))
     else
      (.inl (v1,(v2+1))))))
  else
   (.inr v1))
theorem aOi (a0:Zt×Zt×Zt)(a1:List Zt)(l1:a1.length<=9223372036854775807) {cx:Cx} (hcx:cx.base=1):∀(n:Nat) (v1 v2:Int),0<=v2->toNat ((a1.length:Int) - v2) < n->Aw.Good Tryz.prog none 9 (bodyPost Tryz.prog Tryz.f83 (RR cx (iv (aC (dA a0 a1) n (v1,v2))) [] [])) cx [] (.l iZ n::jA) (gQ a0 a1 v1 v2):=by
 intro n
 induction n with
 | zero=>intro v1 v2 hi hn;exact absurd hn (eP _)
 | succ n ih =>
   intro v1 v2 hi hn
   refine aQ ?_
   cases h0:(decide ((v2:Int) < (a1.length:Int))) with
   | true =>
    have q0:=cA h0
    let t1:List (St Tryz.prog):=[.d h0,.u 200,.T,.i 0 3 (by decide),.i v2 (a1.length),.L jV a1 v2 0 3,.c [] (C97 a0.1 (a1.getD (toNat v2) default)),.c [] (aE2 (dL a0.1 (a1.getD (toNat v2) default)) (dL a0.1 (a1.getD (toNat v2) default)))]
    cases h1:(decide (((dB (dL a0.1 (a1.getD (toNat v2) default)) (dL a0.1 (a1.getD (toNat v2) default))):Int) > v1)) with
    | true =>
     have q1:=cA h1
     let t2:List (St Tryz.prog):=(t1++[.d h1,.u 0,.T,.i 1 3 (by decide),.i v2 (a1.length),.L jV a1 v2 0 3,.c [] (C97 a0.2.1 (a1.getD (toNat v2) default)),.c [] (aE2 (dL a0.2.1 (a1.getD (toNat v2) default)) (dL a0.2.1 (a1.getD (toNat v2) default)))])
     cases h2:(decide (((dB (dL a0.2.1 (a1.getD (toNat v2) default)) (dL a0.2.1 (a1.getD (toNat v2) default))):Int) > (dB (dL a0.1 (a1.getD (toNat v2) default)) (dL a0.1 (a1.getD (toNat v2) default))))) with
     | true =>
      have q2:=cA h2
      let t3:List (St Tryz.prog):=(t2++[.d h2,.u 0,.T,.i 2 3 (by decide),.i v2 (a1.length),.L jV a1 v2 0 3,.c [] (C97 a0.2.2 (a1.getD (toNat v2) default)),.c [] (aE2 (dL a0.2.2 (a1.getD (toNat v2) default)) (dL a0.2.2 (a1.getD (toNat v2) default)))])
      cases h3:(decide (((dB (dL a0.2.2 (a1.getD (toNat v2) default)) (dL a0.2.2 (a1.getD (toNat v2) default))):Int) > (dB (dL a0.2.1 (a1.getD (toNat v2) default)) (dL a0.2.1 (a1.getD (toNat v2) default))))) with
      | true =>
       have q3:=cA h3
       have e:=Eq.refl (dA a0 a1 (v1,v2));conv at e=>rhs;simp only [dA,h0,h1,h2,h3,aS]
       rw [aE e]
       refine ba (t3++[.d h3,.u 0,.F]) [] [1,2,5,6] [1] hcx (m:=n) iZ (jA) (gQ a0 a1 (dB (dL a0.2.2 (a1.getD (toNat v2) default)) (dL a0.2.2 (a1.getD (toNat v2) default))) (W (v2+1))) (by kernel_rfl) ?_
       have z0:(W (v2+1))=(v2+1):=aJ (by omega) (by omega)
       rw [z0]
       exact ih (dB (dL a0.2.2 (a1.getD (toNat v2) default)) (dL a0.2.2 (a1.getD (toNat v2) default))) (v2+1) (by(try simp only [Ls]);omega) (by(try simp only [Ls]);omega)
      | false =>
       have q3:=cH h3
       have e:=Eq.refl (dA a0 a1 (v1,v2));conv at e=>rhs;simp only [dA,h0,h1,h2,h3,aS]
       rw [aE e]
       refine ba (t3++[.d h3,.u 0,.F]) [] [1,2,5,6] [1] hcx (m:=n) iZ (jA) (gQ a0 a1 (dB (dL a0.2.1 (a1.getD (toNat v2) default)) (dL a0.2.1 (a1.getD (toNat v2) default))) (W (v2+1))) (by kernel_rfl) ?_
       have z0:(W (v2+1))=(v2+1):=aJ (by omega) (by omega)
       rw [z0]
       exact ih (dB (dL a0.2.1 (a1.getD (toNat v2) default)) (dL a0.2.1 (a1.getD (toNat v2) default))) (v2+1) (by(try simp only [Ls]);omega) (by(try simp only [Ls]);omega)
     | false =>
      have q2:=cH h2
      let t3:List (St Tryz.prog):=(t2++[.d h2,.u 0,.T,.i 2 3 (by decide),.i v2 (a1.length),.L jV a1 v2 0 3,.c [] (C97 a0.2.2 (a1.getD (toNat v2) default)),.c [] (aE2 (dL a0.2.2 (a1.getD (toNat v2) default)) (dL a0.2.2 (a1.getD (toNat v2) default)))])
      cases h3:(decide (((dB (dL a0.2.2 (a1.getD (toNat v2) default)) (dL a0.2.2 (a1.getD (toNat v2) default))):Int) > (dB (dL a0.1 (a1.getD (toNat v2) default)) (dL a0.1 (a1.getD (toNat v2) default))))) with
      | true =>
       have q3:=cA h3
       have e:=Eq.refl (dA a0 a1 (v1,v2));conv at e=>rhs;simp only [dA,h0,h1,h2,h3,aS]
       rw [aE e]
       refine ba (t3++[.d h3,.u 0,.F]) [] [1,2,5,6] [1] hcx (m:=n) iZ (jA) (gQ a0 a1 (dB (dL a0.2.2 (a1.getD (toNat v2) default)) (dL a0.2.2 (a1.getD (toNat v2) default))) (W (v2+1))) (by kernel_rfl) ?_
       have z0:(W (v2+1))=(v2+1):=aJ (by omega) (by omega)
       rw [z0]
       exact ih (dB (dL a0.2.2 (a1.getD (toNat v2) default)) (dL a0.2.2 (a1.getD (toNat v2) default))) (v2+1) (by(try simp only [Ls]);omega) (by(try simp only [Ls]);omega)
      | false =>
       have q3:=cH h3
       have e:=Eq.refl (dA a0 a1 (v1,v2));conv at e=>rhs;simp only [dA,h0,h1,h2,h3,aS]
       rw [aE e]
       refine ba (t3++[.d h3,.u 0,.F]) [] [1,2,5,6] [1] hcx (m:=n) iZ (jA) (gQ a0 a1 (dB (dL a0.1 (a1.getD (toNat v2) default)) (dL a0.1 (a1.getD (toNat v2) default))) (W (v2+1))) (by kernel_rfl) ?_
       have z0:(W (v2+1))=(v2+1):=aJ (by omega) (by omega)
       rw [z0]
       exact ih (dB (dL a0.1 (a1.getD (toNat v2) default)) (dL a0.1 (a1.getD (toNat v2) default))) (v2+1) (by(try simp only [Ls]);omega) (by(try simp only [Ls]);omega)
    | false =>
     have q1:=cH h1
     let t2:List (St Tryz.prog):=(t1++[.d h1,.u 0,.T,.i 1 3 (by decide),.i v2 (a1.length),.L jV a1 v2 0 3,.c [] (C97 a0.2.1 (a1.getD (toNat v2) default)),.c [] (aE2 (dL a0.2.1 (a1.getD (toNat v2) default)) (dL a0.2.1 (a1.getD (toNat v2) default)))])
     cases h2:(decide (((dB (dL a0.2.1 (a1.getD (toNat v2) default)) (dL a0.2.1 (a1.getD (toNat v2) default))):Int) > v1)) with
     | true =>
      have q2:=cA h2
      let t3:List (St Tryz.prog):=(t2++[.d h2,.u 0,.T,.i 2 3 (by decide),.i v2 (a1.length),.L jV a1 v2 0 3,.c [] (C97 a0.2.2 (a1.getD (toNat v2) default)),.c [] (aE2 (dL a0.2.2 (a1.getD (toNat v2) default)) (dL a0.2.2 (a1.getD (toNat v2) default)))])
      cases h3:(decide (((dB (dL a0.2.2 (a1.getD (toNat v2) default)) (dL a0.2.2 (a1.getD (toNat v2) default))):Int) > (dB (dL a0.2.1 (a1.getD (toNat v2) default)) (dL a0.2.1 (a1.getD (toNat v2) default))))) with
      | true =>
       have q3:=cA h3
       have e:=Eq.refl (dA a0 a1 (v1,v2));conv at e=>rhs;simp only [dA,h0,h1,h2,h3,aS]
       rw [aE e]
       refine ba (t3++[.d h3,.u 0,.F]) [] [1,2,5,6] [1] hcx (m:=n) iZ (jA) (gQ a0 a1 (dB (dL a0.2.2 (a1.getD (toNat v2) default)) (dL a0.2.2 (a1.getD (toNat v2) default))) (W (v2+1))) (by kernel_rfl) ?_
       have z0:(W (v2+1))=(v2+1):=aJ (by omega) (by omega)
       rw [z0]
       exact ih (dB (dL a0.2.2 (a1.getD (toNat v2) default)) (dL a0.2.2 (a1.getD (toNat v2) default))) (v2+1) (by(try simp only [Ls]);omega) (by(try simp only [Ls]);omega)
      | false =>
       have q3:=cH h3
       have e:=Eq.refl (dA a0 a1 (v1,v2));conv at e=>rhs;simp only [dA,h0,h1,h2,h3,aS]
       rw [aE e]
       refine ba (t3++[.d h3,.u 0,.F]) [] [1,2,5,6] [1] hcx (m:=n) iZ (jA) (gQ a0 a1 (dB (dL a0.2.1 (a1.getD (toNat v2) default)) (dL a0.2.1 (a1.getD (toNat v2) default))) (W (v2+1))) (by kernel_rfl) ?_
       have z0:(W (v2+1))=(v2+1):=aJ (by omega) (by omega)
       rw [z0]
       exact ih (dB (dL a0.2.1 (a1.getD (toNat v2) default)) (dL a0.2.1 (a1.getD (toNat v2) default))) (v2+1) (by(try simp only [Ls]);omega) (by(try simp only [Ls]);omega)
     | false =>
      have q2:=cH h2
      let t3:List (St Tryz.prog):=(t2++[.d h2,.u 0,.T,.i 2 3 (by decide),.i v2 (a1.length),.L jV a1 v2 0 3,.c [] (C97 a0.2.2 (a1.getD (toNat v2) default)),.c [] (aE2 (dL a0.2.2 (a1.getD (toNat v2) default)) (dL a0.2.2 (a1.getD (toNat v2) default)))])
      cases h3:(decide (((dB (dL a0.2.2 (a1.getD (toNat v2) default)) (dL a0.2.2 (a1.getD (toNat v2) default))):Int) > v1)) with
      | true =>
       have q3:=cA h3
       have e:=Eq.refl (dA a0 a1 (v1,v2));conv at e=>rhs;simp only [dA,h0,h1,h2,h3,aS]
       rw [aE e]
       refine ba (t3++[.d h3,.u 0,.F]) [] [1,2,5,6] [1] hcx (m:=n) iZ (jA) (gQ a0 a1 (dB (dL a0.2.2 (a1.getD (toNat v2) default)) (dL a0.2.2 (a1.getD (toNat v2) default))) (W (v2+1))) (by kernel_rfl) ?_
       have z0:(W (v2+1))=(v2+1):=aJ (by omega) (by omega)
       rw [z0]
       exact ih (dB (dL a0.2.2 (a1.getD (toNat v2) default)) (dL a0.2.2 (a1.getD (toNat v2) default))) (v2+1) (by(try simp only [Ls]);omega) (by(try simp only [Ls]);omega)
      | false =>
       have q3:=cH h3
       have e:=Eq.refl (dA a0 a1 (v1,v2));conv at e=>rhs;simp only [dA,h0,h1,h2,h3,aS]
       rw [aE e]
       refine ba (t3++[.d h3,.u 0,.F]) [] [1,2,5,6] [1] hcx (m:=n) iZ (jA) (gQ a0 a1 v1 (W (v2+1))) (by kernel_rfl) ?_
       have z0:(W (v2+1))=(v2+1):=aJ (by omega) (by omega)
       rw [z0]
       exact ih v1 (v2+1) (by(try simp only [Ls]);omega) (by(try simp only [Ls]);omega)
   | false =>
    have q0:=cH h0
    have e:=Eq.refl (dA a0 a1 (v1,v2));conv at e=>rhs;simp only [dA,h0,aS]
    rw [aN,e]
    exact rt [.d h0] [] [] hcx (by kernel_rfl)
def mH (a0:Zt×Zt×Zt)(a1:List Zt):Int :=
 (aC (dA a0 a1) (toNat ((a1.length:Int) - 0)+1) (0,0))
theorem aTb (a0:Zt×Zt×Zt)(a1:List Zt)(l1:a1.length<=9223372036854775807):Con Tryz.prog 83 [(.a (k9 a0)),(.s 0 0 a1.length 3)] [(.live false true (flat c24 a1))] (iv (mH a0 a1)) []:=by
 refine aO Tryz.func83 (by kernel_rfl) fun cx hcx=>?_
 have e:=Eq.refl (mH a0 a1);conv at e=>rhs;simp only [mH]
 rw [e]
 refine en [] [] [1,2,5,6] [1] hcx iZ (jA) (gQ a0 a1 0 0) (toNat ((a1.length:Int) - 0)+1) (by kernel_rfl) ?_
 exact aOi a0 a1 l1 hcx (toNat ((a1.length:Int) - 0)+1) 0 0 (by(try simp only [Ls]);omega) (by(try simp only [Ls]);omega)
noncomputable def yR:Code:=(aI [1,1,0,1] [] (aL Tryz.f143) []).1
noncomputable def yS:List K:=(aI [1,1,0,1] [] (aL Tryz.f143) []).2
def uE (a0:List (Int))(v1 v2 v3:Int):LS:=⟨iM 33 [(0,(.s 0 0 a0.length 1)),(4,(iv v1)),(5,(iv v2)),(6,(iv v3))],[(.live false true (flat c3 a0))]⟩
def mI (a0:List (Int)):Zt->Zt⊕(Int×Int)
 | (v1,v2,v3) =>
  (bif (decide ((v3:Int) < (a0.length:Int))) then
   (.inl ((if((a0.getD (toNat v3) default):Int) < v1 then(a0.getD (toNat v3) default) else v1),(if(v2:Int) < (a0.getD (toNat v3) default) then(a0.getD (toNat v3) default) else v2),(v3+1)))
  else
   (.inr (v1,v2)))
theorem aL4 (a0:List (Int))(l0:a0.length<=9223372036854775807)(hl:0 < a0.length) {cx:Cx} (hcx:cx.base=1):∀(n:Nat) (v1 v2 v3:Int),0<=v3->toNat ((a0.length:Int) - v3) < n->Aw.Good Tryz.prog none 9 (bodyPost Tryz.prog Tryz.f143 (RR cx (.t (k2 (aC (mI a0) n (v1,v2,v3)))) [] [])) cx [] (.l yR n::yS) (uE a0 v1 v2 v3):=by
 intro n
 induction n with
 | zero=>intro v1 v2 v3 hi hn;exact absurd hn (eP _)
 | succ n ih =>
   intro v1 v2 v3 hi hn
   refine aQ ?_
   cases h0:(decide ((v3:Int) < (a0.length:Int))) with
   | true =>
    have q0:=cA h0
    have e:=Eq.refl (mI a0 (v1,v2,v3));conv at e=>rhs;simp only [mI,h0,aS]
    rw [aE e]
    refine ba [.d h0,.i v3 (a0.length),.L aM a0 v3 0 1,.i v3 (a0.length),.L aM a0 v3 0 1] [] [0,4,5,6] [] hcx (m:=n) yR (yS) (uE a0 (if((a0.getD (toNat v3) default):Int) < v1 then(a0.getD (toNat v3) default) else v1) (if(v2:Int) < (a0.getD (toNat v3) default) then(a0.getD (toNat v3) default) else v2) (W (v3+1))) (by kernel_rfl) ?_
    have z0:(W (v3+1))=(v3+1):=aJ (by omega) (by omega)
    rw [z0]
    exact ih (if((a0.getD (toNat v3) default):Int) < v1 then(a0.getD (toNat v3) default) else v1) (if(v2:Int) < (a0.getD (toNat v3) default) then(a0.getD (toNat v3) default) else v2) (v3+1) (by(try simp only [Ls]);omega) (by(try simp only [Ls]);omega)
   | false =>
    have q0:=cH h0
    have e:=Eq.refl (mI a0 (v1,v2,v3));conv at e=>rhs;simp only [mI,h0,aS]
    rw [aN,e]
    exact rt [.d h0] [] [] hcx (by kernel_rfl)
def dC (a0:List (Int)):Int×Int :=
 (aC (mI a0) (toNat ((a0.length:Int) - 0)+1) ((a0.getD (toNat 0) default),(a0.getD (toNat 0) default),0))
theorem aL5 (a0:List (Int))(l0:a0.length<=9223372036854775807)(hl:0 < a0.length):Con Tryz.prog 143 [(.s 0 0 a0.length 1)] [(.live false true (flat c3 a0))] (.t (k2 (dC a0))) []:=by
 refine aO Tryz.func143 (by kernel_rfl) fun cx hcx=>?_
 have e:=Eq.refl (dC a0);conv at e=>rhs;simp only [dC]
 rw [e]
 refine en [.i 0 (a0.length),.L aM a0 0 0 1,.i 0 (a0.length),.L aM a0 0 0 1] [] [0,4,5,6] [] hcx yR (yS) (uE a0 (a0.getD (toNat 0) default) (a0.getD (toNat 0) default) 0) (toNat ((a0.length:Int) - 0)+1) (by kernel_rfl) ?_
 exact aL4 a0 l0 hl hcx (toNat ((a0.length:Int) - 0)+1) (a0.getD (toNat 0) default) (a0.getD (toNat 0) default) 0 (by(try simp only [Ls]);omega) (by(try simp only [Ls]);omega)
def fV (a0:List (Int))(a1:List (Int)):Int :=
 (W ((if((if(0:Int) < (W ((dC a0).1 - (dC a1).2)) then(W ((dC a0).1 - (dC a1).2)) else 0):Int) < (W ((dC a1).1 - (dC a0).2)) then(W ((dC a1).1 - (dC a0).2)) else(if(0:Int) < (W ((dC a0).1 - (dC a1).2)) then(W ((dC a0).1 - (dC a1).2)) else 0))*(if((if(0:Int) < (W ((dC a0).1 - (dC a1).2)) then(W ((dC a0).1 - (dC a1).2)) else 0):Int) < (W ((dC a1).1 - (dC a0).2)) then(W ((dC a1).1 - (dC a0).2)) else(if(0:Int) < (W ((dC a0).1 - (dC a1).2)) then(W ((dC a0).1 - (dC a1).2)) else 0))))
theorem yT (a0:List (Int))(a1:List (Int))(l0:a0.length<=9223372036854775807)(l1:a1.length<=9223372036854775807)(h1:0 < a0.length)(h2:0 < a1.length):Con Tryz.prog 120 [(.s 0 0 a0.length 1),(.s 1 0 a1.length 1)] [(.live false true (flat c3 a0)),(.live false true (flat c3 a1))] (iv (fV a0 a1)) []:=by
 refine aO Tryz.func120 (by kernel_rfl) fun cx hcx=>?_
 have e:=Eq.refl (fV a0 a1);conv at e=>rhs;simp only [fV]
 rw [e]
 exact rt [.c [0] (aL5 a0 (by omega) (by(try simp only [Lt,lD,lE]);omega)),.c [1] (aL5 a1 (by omega) (by(try simp only [Lt,lD,lE]);omega))] [] [] hcx (by kernel_rfl)
def kT (a0:Zt×Zt×Zt)(a1:Zt×Zt×Zt):Int :=
 (W ((W ((fV (cK a0 0) (cK a1 0))+(fV (cK a0 1) (cK a1 1))))+(fV (cK a0 2) (cK a1 2))))
theorem aTc (a0:Zt×Zt×Zt)(a1:Zt×Zt×Zt):Con Tryz.prog 84 [(.a (k9 a0)),(.s 0 0 3 3)] [(.live false false (k9 a1))] (iv (kT a0 a1)) []:=by
 refine aO Tryz.func84 (by kernel_rfl) fun cx hcx=>?_
 have e:=Eq.refl (kT a0 a1);conv at e=>rhs;simp only [kT]
 rw [e]
 exact rt [.c [2] (uD a0 0),.c [0] (uD a1 0),.c [3,4] (yT (cK a0 0) (cK a1 0) (by(try simp only [Lt,lD,lE]);omega) (by(try simp only [Lt,lD,lE]);omega) (by(try simp only [Lt,lD,lE]);omega) (by(try simp only [Lt,lD,lE]);omega)),.c [2] (uD a0 1),.c [0] (uD a1 1),.c [5,6] (yT (cK a0 1) (cK a1 1) (by(try simp only [Lt,lD,lE]);omega) (by(try simp only [Lt,lD,lE]);omega) (by(try simp only [Lt,lD,lE]);omega) (by(try simp only [Lt,lD,lE]);omega)),.c [2] (uD a0 2),.c [0] (uD a1 2),.c [7,8] (yT (cK a0 2) (cK a1 2) (by(try simp only [Lt,lD,lE]);omega) (by(try simp only [Lt,lD,lE]);omega) (by(try simp only [Lt,lD,lE]);omega) (by(try simp only [Lt,lD,lE]);omega))] [] [] hcx (by kernel_rfl)
noncomputable def aCi:Code:=(aI [1,1,0,1] [] (aL Tryz.f18) []).1
noncomputable def aCj:List K:=(aI [1,1,0,1] [] (aL Tryz.f18) []).2
def yU (a0:bM)(v1:Int):LS:=⟨iM 30 [(0,(.s 0 0 a0.length 10)),(3,(iv v1))],[(.live false true (flat eF a0))]⟩
def gV (a0:bM):Int->(Int)⊕(Int)
 | v1 =>
  (bif (decide ((v1:Int) < (a0.length:Int))) then
   (bif (((yQ (a0.getD (toNat v1) default).1):Int) != 0) then
    (.inr (yQ (a0.getD (toNat v1) default).1))
   else
    (bif (!(F35 (a0.getD (toNat v1) default).2 (-100) 100)) then
     (.inr 1)
    else
     (.inl (v1+1))))
  else
   (.inr 0))
theorem aOj (a0:bM)(l0:a0.length<=9223372036854775807) {cx:Cx} (hcx:cx.base=1):∀(n:Nat) (v1:Int),0<=v1->toNat ((a0.length:Int) - v1) < n->Aw.Good Tryz.prog none 9 (bodyPost Tryz.prog Tryz.f18 (RR cx (iv (aC (gV a0) n v1)) [] [])) cx [] (.l aCi n::aCj) (yU a0 v1):=by
 intro n
 induction n with
 | zero=>intro v1 hi hn;exact absurd hn (eP _)
 | succ n ih =>
   intro v1 hi hn
   refine aQ ?_
   cases h0:(decide ((v1:Int) < (a0.length:Int))) with
   | true =>
    have q0:=cA h0
    let t1:List (St Tryz.prog):=[.d h0,.i v1 (a0.length),.L cJ a0 v1 0 9,.c [] (C34 (a0.getD (toNat v1) default).1)]
    cases h1:(((yQ (a0.getD (toNat v1) default).1):Int) != 0) with
    | true =>
     have q1:=bne_iff_ne.1 h1
     have e:=Eq.refl (gV a0 v1);conv at e=>rhs;simp only [gV,h0,h1,aS]
     rw [aN,e]
     exact rt (t1++[.d h1]) [] [] hcx (by kernel_rfl)
    | false =>
     have q1:=bne_eq_false_iff_eq.1 h1
     let t2:List (St Tryz.prog):=(t1++[.d h1,.i v1 (a0.length),.L cJ a0 v1 9 1,.c [] (C35 (a0.getD (toNat v1) default).2 (-100) 100)])
     cases h2:(!(F35 (a0.getD (toNat v1) default).2 (-100) 100)) with
     | true =>
      have e:=Eq.refl (gV a0 v1);conv at e=>rhs;simp only [gV,h0,h1,h2,aS]
      rw [aN,e]
      exact rt (t2++[.d h2]) [] [] hcx (by kernel_rfl)
     | false =>
      have e:=Eq.refl (gV a0 v1);conv at e=>rhs;simp only [gV,h0,h1,h2,aS]
      rw [aE e]
      refine ba (t2++[.d h2]) [] [0,3] [] hcx (m:=n) aCi (aCj) (yU a0 (W (v1+1))) (by kernel_rfl) ?_
      have z0:(W (v1+1))=(v1+1):=aJ (by omega) (by omega)
      rw [z0]
      exact ih (v1+1) (by(try simp only [Ls]);omega) (by(try simp only [Ls]);omega)
   | false =>
    have q0:=cH h0
    have e:=Eq.refl (gV a0 v1);conv at e=>rhs;simp only [gV,h0,aS]
    rw [aN,e]
    exact rt [.d h0] [] [] hcx (by kernel_rfl)
def gI (a0:bM):Int :=
 (bif (decide (((a0.length:Int):Int) > 96)) then
  4
 else
  (aC (gV a0) (toNat ((a0.length:Int) - 0)+1) 0))
theorem aL6 (a0:bM)(l0:a0.length<=9223372036854775807):Con Tryz.prog 18 [(.s 0 0 a0.length 10)] [(.live false true (flat eF a0))] (iv (gI a0)) []:=by
 refine aO Tryz.func18 (by kernel_rfl) fun cx hcx=>?_
 cases h0:(decide (((a0.length:Int):Int) > 96)) with
 | true =>
  have q0:=cA h0
  have e:=Eq.refl (gI a0);conv at e=>rhs;simp only [gI,h0,aS]
  rw [e]
  exact rt [.d h0] [] [] hcx (by kernel_rfl)
 | false =>
  have q0:=cH h0
  have e:=Eq.refl (gI a0);conv at e=>rhs;simp only [gI,h0,aS]
  rw [e]
  refine en [.d h0] [] [0,3] [] hcx aCi (aCj) (yU a0 0) (toNat ((a0.length:Int) - 0)+1) (by kernel_rfl) ?_
  exact aOj a0 l0 hcx (toNat ((a0.length:Int) - 0)+1) 0 (by(try simp only [Ls]);omega) (by(try simp only [Ls]);omega)
theorem aKb {n a b:Int} (ha:0<=a)(hb:0<=b)(h1:a*a<=n)(h2:n < (a+1)*(a+1))(h3:b*b<=n)(h4:n < (b+1)*(b+1)):a=b:=by
 rcases Int.lt_trichotomy a b with h | h | h
 · have:(a+1)*(a+1)<=b*b:=Int.mul_le_mul (by omega) (by omega) (by omega) hb
   omega
 · exact h
 · have:(b+1)*(b+1)<=a*a:=Int.mul_le_mul (by omega) (by omega) (by omega) ha
   omega
def IsRt (n r:Int):Prop:=0<=r/\r*r<=n/\n < (r+1)*(r+1)
theorem IsRt.eq {n a b:Int} (h:IsRt n a)(h':IsRt n b):a=b:=aKb h.1 h'.1 h.2.1 h.2.2 h'.2.1 h'.2.2
theorem IsRt.le {n r m:Int} (h:IsRt n r)(hm:0<=m)(hn:n < (m+1)*(m+1)):r<=m:=by
 rcases Int.lt_or_le m r with hlt | hle
 · have:(m+1)*(m+1)<=r*r:=Int.mul_le_mul (by omega) (by omega) (by omega) h.1
   have:=h.2.1;omega
 · exact hle
theorem IsRt.ge {n r m:Int} (h:IsRt n r)(hm:0<=m)(hn:m*m<=n):m<=r:=by
 rcases Int.lt_or_le r m with hlt | hle
 · have:(r+1)*(r+1)<=m*m:=Int.mul_le_mul (by omega) (by omega) (by have:=h.1;omega) hm
   have:=h.2.2;omega
 · exact hle
theorem IsRt.mono {n m a b:Int} (h:IsRt n a)(h':IsRt m b)(hnm:n<=m):a<=b:=h'.ge h.1 (Int.le_trans h.2.1 hnm)
theorem oT {n:Int} {S:Int×Int->(Int×Int)⊕Int} (hS:∀k b,0<=k->0 < b->k+b<=2147483648->S (k,b)=if(k+b)*(k+b)<=n then .inl (k+b,b / 2) else .inl (k,b / 2))(h0:∀k,S (k,0)=.inr k) :
   ∀(j f:Nat) (k:Int),j+2<=f->0<=k->k+2*2 ^ j<=2147483648->k*k<=n->n < (k+2*2 ^ j)*(k+2*2 ^ j)->IsRt n (aC S f (k,2 ^ j)):=by
 intro j
 induction j with
 | zero =>
   intro f k hf hk hb h1 h2
   obtain⟨f,rfl⟩:∃g,f=g+2:=⟨f - 2,by omega⟩
   simp only [Int.pow_zero] at h2 hb ⊢
   have hs:=hS k 1 hk (by omega) (by omega)
   by_cases hc:(k+1)*(k+1)<=n
   · rw [if_pos hc] at hs
     rw [aE hs,show((1:Int) / 2)=0 by omega,aY (h0 _)]
     refine⟨by omega,hc,?_⟩
     rw [show k+1+1=k+2*1 by omega];exact h2
   · rw [if_neg hc] at hs
     rw [aE hs,show((1:Int) / 2)=0 by omega,aY (h0 _)]
     exact⟨hk,h1,by omega⟩
 | succ j ih =>
   intro f k hf hk hb h1 h2
   obtain⟨f,rfl⟩:∃g,f=g+1:=⟨f - 1,by omega⟩
   have hp:(0:Int) < 2 ^ j:=Int.pow_pos (by omega)
   rw [Int.pow_succ] at h2 hb ⊢
   have hs:=hS k (2 ^ j*2) hk (by omega) (by omega)
   have hd:(2:Int) ^ j*2 / 2=2 ^ j:=Int.mul_ediv_cancel _ (by omega)
   rw [hd] at hs
   by_cases hc:(k+2 ^ j*2)*(k+2 ^ j*2)<=n
   · rw [if_pos hc] at hs
     rw [aE hs]
     refine ih f _ (by omega) (by omega) (by omega) hc ?_
     rw [show k+2 ^ j*2+2*2 ^ j=k+2*((2:Int) ^ j*2) by omega];exact h2
   · rw [if_neg hc] at hs
     rw [aE hs]
     refine ih f _ (by omega) hk (by omega) h1 ?_
     rw [show k+2*(2:Int) ^ j=k+2 ^ j*2 by omega];omega
theorem aKc {n:Int} {S:Int×Int->(Int×Int)⊕Int} (hS:∀a b,0<=a->a < b->b<=2147483648->S (a,b)=if((a+b+1) / 2)*((a+b+1) / 2)<=n then .inl ((a+b+1) / 2,b) else .inl (a,(a+b+1) / 2 - 1))(h0:∀a,S (a,a)=.inr a) :
   ∀(f:Nat) (a b:Int),0<=a->a<=b->b<=2147483648->b - a < f->a*a<=n->n < (b+1)*(b+1)->IsRt n (aC S f (a,b)):=by
 intro f
 induction f with
 | zero=>intro a b _ h _ hf;omega
 | succ f ih =>
   intro a b ha hab hb hf h1 h2
   by_cases he:a=b
   · subst he
     rw [aY (h0 a)];exact⟨ha,h1,h2⟩
   · have hs:=hS a b ha (by omega) hb
     by_cases hc:((a+b+1) / 2)*((a+b+1) / 2)<=n
     · rw [if_pos hc] at hs
       rw [aE hs]
       exact ih _ _ (by omega) (by omega) hb (by omega) hc h2
     · rw [if_neg hc] at hs
       rw [aE hs]
       refine ih _ _ ha (by omega) (by omega) (by omega) h1 ?_
       rw [show(a+b+1) / 2 - 1+1=(a+b+1) / 2 by omega];omega
theorem yV {a:Int} (h:0<=a)(h':a<=2147483648):0<=a*a/\a*a<=4611686018427387904:=⟨Int.mul_nonneg h h,Int.le_trans (Int.mul_le_mul h' h' h (by omega)) (by omega)⟩
theorem aIl {n:Int} (h0:0<=n)(h:n < 4611686018427387904):IsRt n (jU n):=by
 unfold jU
 refine oT (n:=n) (fun k b hk hb hkb=>?_) (fun k=>?_) 30 _ 0 (by decide) (by omega) (by decide) (by omega) (by simpa using h)
 · have h2:decide (b > 0)=true:=by simpa using hb
   have hw:W (k+b)=k+b:=aJ (by omega) (by omega)
   have hq:=yV (a:=k+b) (by omega) hkb
   have hw2:W ((k+b)*(k+b))=(k+b)*(k+b):=aJ (by omega) (by omega)
   simp only [lQ,h2,cond_true,hw,hw2]
   by_cases hc:(k+b)*(k+b)<=n<;>simp [hc]
 · simp [lQ]
theorem aCk {n:Int} (h0:0<=n)(h:n < 4611686018427387904):IsRt n (gP n):=by
 unfold gP
 rw [show decide ((4611686018427387904:Int)<=n)=false by simpa using h]
 simp only [cond_false]
 refine oT (n:=n) (fun k b hk hb hkb=>?_) (fun k=>?_) 30 _ 0 (by decide) (by omega) (by decide) (by omega) (by simpa using h)
 · have h2:((b:Int) == 0)=false:=by rw [beq_eq_false_iff_ne];omega
   have hw:W (k+b)=k+b:=aJ (by omega) (by omega)
   have hq:=yV (a:=k+b) (by omega) hkb
   have hw2:W ((k+b)*(k+b))=(k+b)*(k+b):=aJ (by omega) (by omega)
   simp only [kS,h2,cond_false,hw,hw2]
   by_cases hc:(k+b)*(k+b)<=n<;>simp [hc]
 · simp [kS]
theorem aL7 {n:Int} (h0:0<=n)(h:n < 4611686018427387904):IsRt n (iB n):=by
 unfold iB
 refine aKc (n:=n) (fun a b ha hab hb=>?_) (fun a=>?_) _ 0 2147483648 (by omega) (by omega) (by omega) (by decide) (by omega) (by omega)
 · have h2:decide (a < b)=true:=by simpa using hab
   have hw:=aB6 (a:=a) (b:=b) (by omega)
   have hw3:=aIe (a:=a) (b:=b) (by omega)
   have hq:=yV (a:=(a+b+1) / 2) (by omega) (by omega)
   have hw2:W ((a+b+1) / 2*((a+b+1) / 2))=(a+b+1) / 2*((a+b+1) / 2):=aJ (by omega) (by omega)
   have hw4:W ((a+b+1) / 2 - 1)=(a+b+1) / 2 - 1:=aJ (by omega) (by omega)
   simp only [lR,h2,cond_true,hw,hw2,hw4]
   by_cases hc:(a+b+1) / 2*((a+b+1) / 2)<=n<;>simp [hc]
 · simp [lR]
abbrev P3:=Zt
abbrev PN:=P3×P3×P3
def bd (m:Int)(p:P3):Prop:=(-m<=p.1/\p.1<=m)/\(-m<=p.2.1/\p.2.1<=m)/\(-m<=p.2.2/\p.2.2<=m)
def bdP (m:Int)(p:PN):Prop:=bd m p.1/\bd m p.2.1/\bd m p.2.2
def sb (p q:P3):P3:=(p.1 - q.1,p.2.1 - q.2.1,p.2.2 - q.2.2)
def dt (p q:P3):Int:=p.1*q.1+p.2.1*q.2.1+p.2.2*q.2.2
def cr (p q:P3):P3:=(p.2.1*q.2.2 - p.2.2*q.2.1,p.2.2*q.1 - p.1*q.2.2,p.1*q.2.1 - p.2.1*q.1)
def oU (p:PN):P3:=cr (sb p.2.1 p.1) (sb p.2.2 p.1)
theorem cL {a b x y:Int} (hx:-a<=x/\x<=a)(hy:-b<=y/\y<=b):-(a*b)<=x*y/\x*y<=a*b:=by
 have h1:=Int.mul_nonneg (show 0<=a - x by omega) (show 0<=b - y by omega)
 have h2:=Int.mul_nonneg (show 0<=a+x by omega) (show 0<=b+y by omega)
 have h3:=Int.mul_nonneg (show 0<=a - x by omega) (show 0<=b+y by omega)
 have h4:=Int.mul_nonneg (show 0<=a+x by omega) (show 0<=b - y by omega)
 rw [Int.sub_mul,Int.mul_sub,Int.mul_sub] at h1
 rw [Int.add_mul,Int.mul_add,Int.mul_add] at h2
 rw [Int.sub_mul,Int.mul_add,Int.mul_add] at h3
 rw [Int.add_mul,Int.mul_sub,Int.mul_sub] at h4
 omega
theorem kU {a b:Int} {p q:P3} (hp:bd a p)(hq:bd b q):bd (a+b) (sb p q):=by
 unfold bd at *;simp only [sb];omega
theorem gR (x:Int):0<=x*x:=by
 rcases Int.le_total 0 x with h | h
 · exact Int.mul_nonneg h h
 · exact Int.mul_nonneg_of_nonpos_of_nonpos h h
theorem wY (p:P3):0<=dt p p:=by
 have:=gR p.1;have:=gR p.2.1;have:=gR p.2.2
 simp only [dt];omega
theorem aQ4 {p:P3} (h:¬(p.1=0/\p.2.1=0/\p.2.2=0)):1<=dt p p:=by
 have:=gR p.1;have:=gR p.2.1;have:=gR p.2.2
 have key:∀x:Int,x≠0->1<=x*x:=fun x hx=>by
   have h0:=gR x
   have:x*x≠0:=Int.mul_ne_zero hx hx
   omega
 simp only [dt]
 by_cases h1:p.1=0
 · by_cases h2:p.2.1=0
   · have:=key p.2.2 (fun h3=>h ⟨h1,h2,h3⟩);omega
   · have:=key _ h2;omega
 · have:=key _ h1;omega
theorem aP2 {a:Int} {p q:P3} (hp:bd a p)(hq:bd a q):-(3*(a*a))<=dt p q/\dt p q<=3*(a*a):=by
 have:=cL hp.1 hq.1;have:=cL hp.2.1 hq.2.1;have:=cL hp.2.2 hq.2.2
 simp only [dt];omega
theorem aTd {a:Int} {p q:P3} (hp:bd a p)(hq:bd a q):bd (2*(a*a)) (cr p q):=by
 have:=cL hp.2.1 hq.2.2;have:=cL hp.2.2 hq.2.1;have:=cL hp.2.2 hq.1;have:=cL hp.1 hq.2.2;have:=cL hp.1 hq.2.1;have:=cL hp.2.1 hq.1
 unfold bd;simp only [cr];omega
theorem fsb {p q:P3} (hp:bd 100000 p)(hq:bd 100000 q):bV p q=sb p q:=by
 unfold bd at *;simp only [bV,sb]
 rw [aJ (by omega) (by omega),aJ (by omega) (by omega),aJ (by omega) (by omega)]
theorem fdt {p q:P3} (hp:bd 1000000000 p)(hq:bd 1000000000 q):iT p q=dt p q:=by
 have h1:=cL hp.1 hq.1;have h2:=cL hp.2.1 hq.2.1;have h3:=cL hp.2.2 hq.2.2
 simp only [iT,yN,dt]
 rw [aJ (n:=p.1*q.1) (by omega) (by omega),aJ (n:=p.2.1*q.2.1) (by omega) (by omega),aJ (n:=p.2.2*q.2.2) (by omega) (by omega),Int.zero_add,aJ (n:=p.1*q.1) (by omega) (by omega),aJ (n:=p.1*q.1+p.2.1*q.2.1) (by omega) (by omega),aJ (by omega) (by omega)]
theorem rdt {p q:P3} (hp:bd 1000000000 p)(hq:bd 1000000000 q):dB p q=dt p q:=by
 have h1:=cL hp.1 hq.1;have h2:=cL hp.2.1 hq.2.1;have h3:=cL hp.2.2 hq.2.2
 simp only [dB,dt]
 rw [aJ (n:=p.1*q.1) (by omega) (by omega),aJ (n:=p.2.1*q.2.1) (by omega) (by omega),aJ (n:=p.2.2*q.2.2) (by omega) (by omega),aJ (n:=p.1*q.1+p.2.1*q.2.1) (by omega) (by omega),aJ (by omega) (by omega)]
theorem rsb {p q:P3} (hp:bd 100000 p)(hq:bd 100000 q):dL p q=sb p q:=by
 unfold bd at *;simp only [dL,sb]
 rw [aJ (by omega) (by omega),aJ (by omega) (by omega),aJ (by omega) (by omega)]
theorem aQ5 {p q:P3} (hp:bd 1000000000 p)(hq:bd 1000000000 q) :
   ((W ((W (p.2.1*q.2.2)) - (W (p.2.2*q.2.1)))),(W ((W (p.2.2*q.1)) - (W (p.1*q.2.2)))),(W ((W (p.1*q.2.1)) - (W (p.2.1*q.1)))))=cr p q:=by
 have h1:=cL hp.2.1 hq.2.2;have h2:=cL hp.2.2 hq.2.1;have h3:=cL hp.2.2 hq.1;have h4:=cL hp.1 hq.2.2;have h5:=cL hp.1 hq.2.1;have h6:=cL hp.2.1 hq.1
 simp only [cr]
 rw [aJ (n:=p.2.1*q.2.2) (by omega) (by omega),aJ (n:=p.2.2*q.2.1) (by omega) (by omega),aJ (n:=p.2.2*q.1) (by omega) (by omega),aJ (n:=p.1*q.2.2) (by omega) (by omega),aJ (n:=p.1*q.2.1) (by omega) (by omega),aJ (n:=p.2.1*q.1) (by omega) (by omega),
   aJ (by omega) (by omega),aJ (by omega) (by omega),aJ (by omega) (by omega)]
theorem fcr {p q:P3} (hp:bd 1000000000 p)(hq:bd 1000000000 q):gL p q=cr p q:=aQ5 hp hq
theorem scr {p q:P3} (hp:bd 1000000000 p)(hq:bd 1000000000 q):aLx p q=cr p q:=aQ5 hp hq
theorem rcr {p q:P3} (hp:bd 1000000000 p)(hq:bd 1000000000 q):F96 p q=cr p q:=aQ5 hp hq
theorem ssb {p q:P3} (hp:bd 100000 p)(hq:bd 100000 q):aCa p q=sb p q:=by
 unfold bd at *;simp only [aCa,aLw,sb]
 rw [aJ (n:=-1*q.1) (by omega) (by omega),aJ (n:=-1*q.2.1) (by omega) (by omega),aJ (n:=-1*q.2.2) (by omega) (by omega),aJ (by omega) (by omega),aJ (by omega) (by omega),aJ (by omega) (by omega)]
 refine Prod.ext (by simp only;omega) (Prod.ext (by simp only;omega) (by simp only;omega))
theorem bd.mono {a b:Int} {p:P3} (h:bd a p)(hab:a<=b):bd b p:=by unfold bd at *;omega
theorem bdP.mono {a b:Int} {p:PN} (h:bdP a p)(hab:a<=b):bdP b p:=⟨h.1.mono hab,h.2.1.mono hab,h.2.2.mono hab⟩
theorem aKd (n a b:Int):F59 n a b=decide (a<=n/\n<=b):=by
 unfold F59
 by_cases h1:n≥a<;>by_cases h2:n<=b<;>simp [h1,h2]<;>omega
theorem aGm (n a b:Int):F35 n a b=decide (a<=n/\n<=b):=by
 unfold F35
 by_cases h1:n≥a<;>by_cases h2:n<=b<;>simp [h1,h2]<;>omega
theorem yW (n a b:Int):sL n a b=decide (a<=n/\n<=b):=by
 unfold sL
 by_cases h1:n≥a<;>by_cases h2:n<=b<;>simp [h1,h2]<;>omega
theorem qR (n a b:Int):F95 n a b=decide (a<=n/\n<=b):=by
 unfold F95
 by_cases h1:n≥a<;>by_cases h2:n<=b<;>simp [h1,h2]<;>omega
theorem aCl (n a b:Int):wO n a b=decide (a<=n/\n<=b):=by
 unfold wO
 by_cases h1:a<=n<;>by_cases h2:n<=b<;>simp [h1,h2]
theorem aTe {a b c d:Prop} [Decidable a] [Decidable b] [Decidable c] [Decidable d] (h:(a/\b/\c)↔d):(bif decide a then(bif decide b then decide c else false) else false)=decide d:=by
 by_cases h1:a
 · by_cases h2:b
   · rw [cN h1,cN h2,cond_true,cond_true]
     by_cases h3:c
     · rw [cN h3,cN (h.1 ⟨h1,h2,h3⟩)]
     · rw [dQ h3,dQ (fun hd=>h3 (h.2 hd).2.2)]
   · rw [cN h1,dQ h2,cond_true,cond_false,dQ (fun hd=>h2 (h.2 hd).2.1)]
 · rw [dQ h1,cond_false,dQ (fun hd=>h1 (h.2 hd).1)]
theorem eq3 (x y z a b:Int):(bif (((x:Int) == 0)&&(((y:Int) == 0)&&(((z:Int) == 0)&&true))) then a else b)=if x=0/\y=0/\z=0 then a else b:=by
 have key:∀t:Int,(t == 0)=decide (t=0):=fun t=>by
   by_cases h:t=0
   · rw [cN h];simpa using h
   · rw [dQ h];simpa using h
 rw [key,key,key,Bool.and_true,←Bool.decide_and,←Bool.decide_and]
 by_cases h:x=0/\y=0/\z=0
 · rw [if_pos h,cN h,cond_true]
 · rw [if_neg h,dQ h,cond_false]
open Classical in
theorem qS (p:P3):F87 p 64=decide (bd 64 p):=by
 unfold F87
 rw [aCl,aCl,aCl,aJ (by omega) (by omega)]
 exact aTe (by unfold bd;omega)
open Classical in
theorem uF (p:P3):F61 p 64=decide (bd 64 p):=by
 unfold F61
 rw [qR,qR,qR,aJ (by omega) (by omega)]
 exact aTe (by unfold bd;omega)
open Classical in
noncomputable def vp (p:PN):Int:=if bdP 64 p then(if(oU p).1=0/\(oU p).2.1=0/\(oU p).2.2=0 then 6 else 0) else 1
theorem aTf {p:PN} (h:bdP 64 p):F88 p=oU p:=by
 have h1:=h.1.mono (show(64:Int)<=100000 by omega);have h2:=h.2.1.mono (show(64:Int)<=100000 by omega);have h3:=h.2.2.mono (show(64:Int)<=100000 by omega)
 unfold F88 oU
 rw [ssb h2 h1,ssb h3 h1]
 exact scr ((kU h.2.1 h.1).mono (by omega)) ((kU h.2.2 h.1).mono (by omega))
theorem aL8 {p:PN} (h:bdP 64 p):nL p=oU p:=by
 have h1:=h.1.mono (show(64:Int)<=100000 by omega);have h2:=h.2.1.mono (show(64:Int)<=100000 by omega);have h3:=h.2.2.mono (show(64:Int)<=100000 by omega)
 unfold nL oU
 rw [rsb h2 h1,rsb h3 h1]
 exact rcr ((kU h.2.1 h.1).mono (by omega)) ((kU h.2.2 h.1).mono (by omega))
theorem aTg {p:PN} (h:bdP 64 p):gL (bV p.2.1 p.1) (bV p.2.2 p.1)=oU p:=by
 have h1:=h.1.mono (show(64:Int)<=100000 by omega);have h2:=h.2.1.mono (show(64:Int)<=100000 by omega);have h3:=h.2.2.mono (show(64:Int)<=100000 by omega)
 unfold oU
 rw [fsb h2 h1,fsb h3 h1]
 exact fcr ((kU h.2.1 h.1).mono (by omega)) ((kU h.2.2 h.1).mono (by omega))
theorem aKe (p:PN):sH p=vp p:=by
 unfold sH vp
 rw [qS,qS,qS]
 by_cases h1:bd 64 p.1
 · by_cases h2:bd 64 p.2.1
   · by_cases h3:bd 64 p.2.2
     · have hb:bdP 64 p:=⟨h1,h2,h3⟩
       rw [aTf hb,if_pos hb]
       rw [eq3];simp [h1,h2,h3]
     · simp [h1,h2,h3,bdP]
   · simp [h1,h2,bdP]
 · simp [h1,bdP]
theorem aL9 (p:PN):yQ p=vp p:=by
 unfold yQ vp
 rw [uF,uF,uF]
 by_cases h1:bd 64 p.1
 · by_cases h2:bd 64 p.2.1
   · by_cases h3:bd 64 p.2.2
     · have hb:bdP 64 p:=⟨h1,h2,h3⟩
       rw [aL8 hb,if_pos hb]
       rw [eq3];simp [h1,h2,h3]
     · simp [h1,h2,h3,bdP]
   · simp [h1,h2,bdP]
 · simp [h1,bdP]
theorem sN {p:PN} (h:vp p=0):bdP 64 p/\1<=dt (oU p) (oU p):=by
 unfold vp at h
 split at h
 · rename_i hb
   split at h
   · cases h
   · rename_i hn;exact⟨hb,aQ4 hn⟩
 · cases h
theorem aMa {p:PN} (h:bdP 64 p):bd 32768 (oU p)/\dt (oU p) (oU p)<=3221225472:=by
 have hb:bd (2*(128*128)) (oU p):=aTd (kU h.2.1 h.1) (kU h.2.2 h.1)
 exact⟨hb.mono (by omega),by have:=(aP2 hb hb).2;omega⟩
theorem aMb {p:PN} (h:vp p=0):∃k,jU (iT (gL (bV p.2.1 p.1) (bV p.2.2 p.1)) (gL (bV p.2.1 p.1) (bV p.2.2 p.1)))=k/\IsRt (dt (oU p) (oU p)) k/\1<=k/\k<=56755:=by
 obtain⟨hb,hd⟩:=sN h
 obtain⟨hn,hu⟩:=aMa hb
 rw [aTg hb,fdt (hn.mono (by omega)) (hn.mono (by omega))]
 have:=aIl (n:=dt (oU p) (oU p)) (by omega) (by omega)
 exact⟨_,rfl,this,this.ge (by omega) (by omega),this.le (by omega) (by omega)⟩
theorem aMc {p:PN} (h:sH p=0):W (128*jU (iT (gL (bV p.2.1 p.1) (bV p.2.2 p.1)) (gL (bV p.2.1 p.1) (bV p.2.2 p.1))))≠0:=by
 rw [aKe] at h
 obtain⟨k,e,_,h1,h2⟩:=aMb h
 rw [e,aJ (by omega) (by omega)];omega
theorem aOk {p:PN} (h:yQ p=0):W (128*qQ (dB (nL p) (nL p)))≠0:=by
 rw [aL9] at h
 obtain⟨hb,hd⟩:=sN h
 obtain⟨hn,hu⟩:=aMa hb
 rw [aL8 hb,rdt (hn.mono (by omega)) (hn.mono (by omega))]
 have:=aL7 (n:=dt (oU p) (oU p)) (by omega) (by omega)
 have h1:=this.ge (m:=1) (by omega) (by omega)
 have h2:=this.le (m:=56755) (by omega) (by omega)
 unfold qQ
 rw [aJ (by omega) (by omega)];omega
end Go.Proofs.YtmihafgemmgepaaGreat
namespace Go.Proofs.YtmihafgemmgepaaGreat
open Go.Proofs Go.Aw Go.RowKit
set_option maxRecDepth 100000
def pQ (x:PN):List PN :=
 [(aZ x.1 2,bF (aZ x.1 2) (aZ x.2.1 2),bF (aZ x.2.2 2) (aZ x.1 2)),
  (bF (aZ x.1 2) (aZ x.2.1 2),aZ x.2.1 2,bF (aZ x.2.1 2) (aZ x.2.2 2)),
  (bF (aZ x.2.2 2) (aZ x.1 2),bF (aZ x.2.1 2) (aZ x.2.2 2),aZ x.2.2 2),
  (bF (aZ x.1 2) (aZ x.2.1 2),bF (aZ x.2.1 2) (aZ x.2.2 2),bF (aZ x.2.2 2) (aZ x.1 2))]
def aAx:Nat->List PN->List PN
 | 0,l=>l
 | n+1,l=>aAx n (l.flatMap pQ)
theorem vV:∀(n:Nat) (l:List PN),(aAx n l).length=4 ^ n*l.length
 | 0,l=>by simp [aAx]
 | n+1,l=>by
   have:(l.flatMap pQ).length=4*l.length:=by
     induction l with
     | nil=>rfl
     | cons x l ih=>rw [List.flatMap_cons,List.length_append,ih];simp only [pQ,List.length_cons,List.length_nil];omega
   rw [aAx,vV n,this,Nat.pow_succ]
   rw [←Nat.mul_assoc,Nat.mul_comm (4 ^ n) 4,Nat.mul_comm 4 (4 ^ n)]
theorem aQ6 (a0:PN)(a1:Int)(l:List PN):∀(f i:Nat) (nx:List PN) (d:Int),l.length - i < f->i<=l.length ->
   aC (nH a0 a1) f (l,nx,d,(i:Int))=.inl (nx++(l.drop i).flatMap pQ,d+1):=by
 intro f
 induction f with
 | zero=>intro i nx d h;omega
 | succ f ih =>
   intro i nx d h hi
   by_cases hlt:i < l.length
   · have hs:nH a0 a1 (l,nx,d,(i:Int))=.inl (l,nx++pQ (l.getD i default),d,((i+1:Nat):Int)):=by
       have:decide ((i:Int) < (l.length:Int))=true:=by simpa using hlt
       simp only [nH,this,cond_true,jM,pQ]
       rfl
     rw [aE hs,ih _ _ _ (by omega) (by omega)]
     have hd:l.drop i=l.getD i default::l.drop (i+1):=by
       rw [List.drop_eq_getElem_cons hlt];simp [eQ,hlt]
     rw [hd,List.flatMap_cons,List.append_assoc]
   · have:decide ((i:Int) < (l.length:Int))=false:=by simpa using hlt
     have hs:nH a0 a1 (l,nx,d,(i:Int))=.inr (.inl (nx,d+1)):=by
       simp only [nH,this,cond_false]
     rw [aY hs,List.drop_of_length_le (by omega)];simp
theorem aOl (a0:PN)(a1:Int):∀(f n:Nat) (l:List PN),n < f->aC (jP a0 a1) f (l,a1 - n)=aAx n l:=by
 intro f
 induction f with
 | zero=>intro n l h;omega
 | succ f ih =>
   intro n l h
   cases n with
   | zero =>
     have hs:jP a0 a1 (l,a1 - (0:Nat))=.inr l:=by
       have:decide (a1 - ((0:Nat):Int) < a1)=false:=by simp
       simp only [jP,this,cond_false]
     rw [aY hs];rfl
   | succ n =>
     have hs:jP a0 a1 (l,a1 - ((n+1:Nat):Int))=.inl (l.flatMap pQ,a1 - (n:Nat)):=by
       have:decide (a1 - ((n+1:Nat):Int) < a1)=true:=by simp;omega
       simp only [jP,this,cond_true]
       have:=aQ6 a0 a1 l (toNat ((l.length:Int) - 0)+1) 0 [] (a1 - ((n+1:Nat):Int)) (by omega) (by omega)
       simp only [List.drop_zero,List.nil_append] at this
       rw [show((0:Nat):Int)=0 from rfl] at this
       rw [this,show a1 - ((n+1:Nat):Int)+1=a1 - (n:Nat) by omega]
     rw [aE hs,ih _ _ (by omega)];rfl
theorem aE3 (p:PN) {d:Int} (h:0<=d):lF p d=aAx d.toNat [p]:=by
 unfold lF
 have:=aOl p d (toNat (d - 0)+1) d.toNat [p] (by omega)
 rw [show d - (d.toNat:Int)=0 by omega] at this
 exact this
theorem aIm (p:PN) {d:Int} (h:0<=d):(lF p d).length=4 ^ d.toNat:=by
 rw [aE3 p h,vV];simp
theorem aMd {p:PN} {d:Int} (h:0<=d):((((lF p d).length:Nat)):Int)≠0:=by
 rw [aIm p h]
 have:0 < 4 ^ d.toNat:=Nat.pow_pos (by omega)
 omega
theorem aQ7 {p:PN} {d:Int} (h:0<=d/\d<=3):(lF p d).length<=64:=by
 rw [aIm p h.1]
 have:d.toNat<=3:=by omega
 calc 4 ^ d.toNat<=4 ^ 3:=Nat.pow_le_pow_right (by omega) this
   _=64:=rfl
def aCm (x:PN):List PN:=[q1 x,q2 x,q3 x,q4 x]
theorem jW {p:P3} (h:bd 100000 p):pF p 2=(2*p.1,2*p.2.1,2*p.2.2):=by
 unfold bd at h;simp only [pF];rw [aJ (by omega) (by omega),aJ (by omega) (by omega),aJ (by omega) (by omega)]
theorem sO {p:P3} (h:bd 100000 p):aZ p 2=(2*p.1,2*p.2.1,2*p.2.2):=by
 unfold bd at h;simp only [aZ];rw [aJ (by omega) (by omega),aJ (by omega) (by omega),aJ (by omega) (by omega)]
theorem sP {p q:P3} (hp:bd 100000 p)(hq:bd 100000 q):gO p q=(p.1+q.1,p.2.1+q.2.1,p.2.2+q.2.2):=by
 unfold bd at hp hq;simp only [gO];rw [aJ (by omega) (by omega),aJ (by omega) (by omega),aJ (by omega) (by omega)]
theorem aMe {p q:P3} (hp:bd 100000 p)(hq:bd 100000 q):bF (aZ p 2) (aZ q 2)=(p.1+q.1,p.2.1+q.2.1,p.2.2+q.2.2):=by
 rw [sO hp,sO hq]
 have key:∀a b:Int,(-100000<=a/\a<=100000)->(-100000<=b/\b<=100000)->W (Int.tdiv (W (2*a+2*b)) 2)=a+b:=fun a b h1 h2=>by
   rw [aJ (n:=2*a+2*b) (by omega) (by omega),←Int.mul_add,Int.mul_tdiv_cancel_left _ (by omega),aJ (by omega) (by omega)]
 simp only [bF]
 rw [key _ _ hp.1 hq.1,key _ _ hp.2.1 hq.2.1,key _ _ hp.2.2 hq.2.2]
theorem aOm {x:PN} (h:bdP 100000 x):pQ x=aCm x:=by
 unfold pQ aCm q1 q2 q3 q4
 rw [aMe h.1 h.2.1,aMe h.2.2 h.1,aMe h.2.1 h.2.2,sP h.1 h.2.1,sP h.2.2 h.1,sP h.2.1 h.2.2,sO h.1,sO h.2.1,sO h.2.2,jW h.1,jW h.2.1,jW h.2.2]
theorem aOn {m:Int} {x y:PN} (h:bdP m x)(hm:m<=100000)(hy:y∈aCm x):bdP (2*m) y:=by
 have h1:=h.1.mono hm;have h2:=h.2.1.mono hm;have h3:=h.2.2.mono hm
 unfold aCm q1 q2 q3 q4 at hy
 rw [sP h1 h2,sP h3 h1,sP h2 h3,jW h1,jW h2,jW h3] at hy
 have ha:=h.1;have hb:=h.2.1;have hc:=h.2.2
 unfold bd at ha hb hc
 simp only [List.mem_cons,List.mem_nil_iff,or_false] at hy
 unfold bdP bd
 rcases hy with rfl | rfl | rfl | rfl<;>simp only<;>omega
theorem hO:∀(d:Nat) (p:PN),dD (d+1) p=(dD d p).flatMap aCm
 | 0,p=>by simp [dD,aCm]
 | d+1,p=>by
   rw [show dD (d+1+1) p=dD (d+1) (q1 p)++(dD (d+1) (q2 p)++(dD (d+1) (q3 p)++dD (d+1) (q4 p))) from rfl]
   rw [hO d (q1 p),hO d (q2 p),hO d (q3 p),hO d (q4 p)]
   simp only [dD,List.flatMap_append]
theorem wZ:∀(d:Nat) {m:Int} {p x:PN},bdP m p->m*2 ^ d<=100000->0<=m->x∈dD d p->bdP (m*2 ^ d) x
 | 0,m,p,x,h,_,_,hx=>by simp [dD] at hx;subst hx;simpa using h
 | d+1,m,p,x,h,hm,h0,hx=>by
   rw [hO,List.mem_flatMap] at hx
   obtain⟨y,hy,hx⟩:=hx
   have hp:(0:Int) < 2 ^ d:=Int.pow_pos (by omega)
   have hle:m*2 ^ d<=m*2 ^ (d+1):=Int.mul_le_mul_of_nonneg_left (by rw [Int.pow_succ];omega) h0
   have:=aOn (wZ d h (by omega) h0 hy) (by omega) hx
   rw [Int.pow_succ,←Int.mul_assoc,Int.mul_comm];exact this
theorem yX {α β:Type} {f g:α->List β}:∀{l:List α},(∀x∈l,f x=g x)->l.flatMap f=l.flatMap g
 | [],_=>rfl
 | x::l,h=>by rw [List.flatMap_cons,List.flatMap_cons,h x (by simp),yX (fun y hy=>h y (by simp [hy]))]
theorem aBd:∀(n:Nat) (l:List PN),aAx (n+1) l=(aAx n l).flatMap pQ
 | 0,l=>rfl
 | n+1,l=>by rw [aAx,aBd n];rfl
theorem aMf {p:PN} (hp:bdP 64 p):∀d:Nat,d<=9->aAx d [p]=dD d p
 | 0,_=>rfl
 | d+1,h=>by
   rw [aBd,aMf hp d (by omega),hO]
   have hle:(64:Int)*2 ^ d<=100000:=by
     have h1:(2:Nat) ^ d<=2 ^ 9:=Nat.pow_le_pow_right (by omega) (by omega)
     have h2:(2:Int) ^ d=((2 ^ d:Nat):Int):=by simp
     omega
   exact yX (fun x hx=>aOm ((wZ d hp hle (by omega) hx).mono hle))
theorem aVw {p:PN} (hp:bdP 64 p) {d:Int} (h:0<=d/\d<=3):lF p d=dD d.toNat p:=by
 rw [aE3 p h.1,aMf hp _ (by omega)]
theorem C71 (a0:Zt×Zt×Zt)(a1:Int):Con Tryz.prog 71 [(.a (k9 a0)),(iv a1)] [] (.f 108 [(.p 0 0),(.p 1 0)]) [(.live true false (k9 a0)),(.live true false [(iv a1)])]:=by
 refine aO Tryz.func71 (by kernel_rfl) fun cx hcx=>?_
 exact rt [] [] [0,1] hcx (by kernel_rfl)
def rL (a0:Zt×Zt×Zt)(a1:Int):Int :=
 (bif (decide (((W ((W ((jU (W (Int.tdiv (W (3537128906555392*2 ^ (min (toNat (W (2*a1))) 64))) (W (128*(jU (iT (gL (bV a0.2.1 a0.1) (bV a0.2.2 a0.1)) (gL (bV a0.2.1 a0.1) (bV a0.2.2 a0.1)))))))))*(jU (W (Int.tdiv (W (3537128906555392*2 ^ (min (toNat (W (2*a1))) 64))) (W (128*(jU (iT (gL (bV a0.2.1 a0.1) (bV a0.2.2 a0.1)) (gL (bV a0.2.1 a0.1) (bV a0.2.2 a0.1)))))))))))*(W (128*(jU (iT (gL (bV a0.2.1 a0.1) (bV a0.2.2 a0.1)) (gL (bV a0.2.1 a0.1) (bV a0.2.2 a0.1)))))))):Int) < (W (3537128906555392*2 ^ (min (toNat (W (2*a1))) 64))))) then
  (W ((jU (W (Int.tdiv (W (3537128906555392*2 ^ (min (toNat (W (2*a1))) 64))) (W (128*(jU (iT (gL (bV a0.2.1 a0.1) (bV a0.2.2 a0.1)) (gL (bV a0.2.1 a0.1) (bV a0.2.2 a0.1)))))))))+1))
 else
  (jU (W (Int.tdiv (W (3537128906555392*2 ^ (min (toNat (W (2*a1))) 64))) (W (128*(jU (iT (gL (bV a0.2.1 a0.1) (bV a0.2.2 a0.1)) (gL (bV a0.2.1 a0.1) (bV a0.2.2 a0.1))))))))))
theorem C69 (a0:Zt×Zt×Zt)(a1:Int)(hp:sH a0=0)(ha:0<=a1/\a1<=3):Con Tryz.prog 69 [(.a (k9 a0)),(iv a1)] [] (iv (rL a0 a1)) []:=by
 refine aO Tryz.func69 (by kernel_rfl) fun cx hcx=>?_
 let t0:List (St Tryz.prog):=[.c [] (aQv a0.2.1 a0.1),.c [] (aQv a0.2.2 a0.1),.c [] (aVo (bV a0.2.1 a0.1) (bV a0.2.2 a0.1)),.c [] (aQu (gL (bV a0.2.1 a0.1) (bV a0.2.2 a0.1)) (gL (bV a0.2.1 a0.1) (bV a0.2.2 a0.1))),.c [] (aS4 (iT (gL (bV a0.2.1 a0.1) (bV a0.2.2 a0.1)) (gL (bV a0.2.1 a0.1) (bV a0.2.2 a0.1)))),.p (show 0<=((W (2*a1)):Int) from by first | (rw [aJ]<;>omega) | exact aMc hp),.p (show((W (128*(jU (iT (gL (bV a0.2.1 a0.1) (bV a0.2.2 a0.1)) (gL (bV a0.2.1 a0.1) (bV a0.2.2 a0.1)))))):Int)≠0 from by first | (rw [aJ]<;>omega) | exact aMc hp),.c [] (aS4 (W (Int.tdiv (W (3537128906555392*2 ^ (min (toNat (W (2*a1))) 64))) (W (128*(jU (iT (gL (bV a0.2.1 a0.1) (bV a0.2.2 a0.1)) (gL (bV a0.2.1 a0.1) (bV a0.2.2 a0.1)))))))))]
 cases h0:(decide (((W ((W ((jU (W (Int.tdiv (W (3537128906555392*2 ^ (min (toNat (W (2*a1))) 64))) (W (128*(jU (iT (gL (bV a0.2.1 a0.1) (bV a0.2.2 a0.1)) (gL (bV a0.2.1 a0.1) (bV a0.2.2 a0.1)))))))))*(jU (W (Int.tdiv (W (3537128906555392*2 ^ (min (toNat (W (2*a1))) 64))) (W (128*(jU (iT (gL (bV a0.2.1 a0.1) (bV a0.2.2 a0.1)) (gL (bV a0.2.1 a0.1) (bV a0.2.2 a0.1)))))))))))*(W (128*(jU (iT (gL (bV a0.2.1 a0.1) (bV a0.2.2 a0.1)) (gL (bV a0.2.1 a0.1) (bV a0.2.2 a0.1)))))))):Int) < (W (3537128906555392*2 ^ (min (toNat (W (2*a1))) 64))))) with
 | true =>
  have q0:=cA h0
  have e:=Eq.refl (rL a0 a1);conv at e=>rhs;simp only [rL,h0,aS]
  rw [e]
  exact rt (t0++[.d h0]) [] [] hcx (by kernel_rfl)
 | false =>
  have q0:=cH h0
  have e:=Eq.refl (rL a0 a1);conv at e=>rhs;simp only [rL,h0,aS]
  rw [e]
  exact rt (t0++[.d h0]) [] [] hcx (by kernel_rfl)
def bG (a0:Zt×Zt×Zt):Zt×Zt×Zt :=
 a0
theorem C70 (a0:Zt×Zt×Zt):Con Tryz.prog 70 [(.a (k9 a0))] [] (.a (k9 (bG a0))) []:=by
 refine aO Tryz.func70 (by kernel_rfl) fun cx hcx=>?_
 have e:=Eq.refl (bG a0);conv at e=>rhs;simp only [bG]
 rw [e]
 exact rt [] [] [] hcx (by kernel_rfl)
def F75 (a0:Int)(a1:Int)(a2:Int):Int×Int :=
 (wP (a0,a1) a2).1
theorem C75 (a0:Int)(a1:Int)(a2:Int):Con Tryz.prog 75 [(iv a0),(iv a1),(iv a2)] [] (.a (k2 (F75 a0 a1 a2))) []:=by
 refine aO Tryz.func75 (by kernel_rfl) fun cx hcx=>?_
 have e:=Eq.refl (F75 a0 a1 a2);conv at e=>rhs;simp only [F75]
 rw [e]
 exact rt [.c [] (aVs (a0,a1) a2)] [] [] hcx (by kernel_rfl)
noncomputable def aVx:Code:=match (eB [1,1,1,1,0,1,0] [] (Tryz.f47.body.getD .skip)).1 with
 | .rangeFunc _ _ a b=>a
 | _=>.skip
noncomputable def aVy:Code:=match (eB [1,1,1,1,0,1,0] [] (Tryz.f47.body.getD .skip)).1 with
 | .rangeFunc _ _ a b=>b
 | _=>.skip
noncomputable def aVz:List K:=(eB [1,1,1,1,0,1,0] [] (Tryz.f47.body.getD .skip)).2
def aQ8 (a0:Zt×Zt×Zt)(a1:Zt×Zt×Zt)(a2:Int):Int×Int->LS
 | (v1,v2)=>⟨[.u,.u,(iv a2),.u,.u,.u,(.p 0 0),(.p 1 0),(.p 2 0),(.p 3 0),(.p 4 0),(.p 5 0),.u,.u,.u,.u,.u,.u,.u,.u,.u,.u,.u,.u,.u,.u,.u,.u,.u,(.f 108 [(.p 6 0),(.p 7 0)]),.u,.u,.u,.u,.u,.u,.u,.u,.u,.u,.u,.u,.u,.u,.u,.u,.u,.u,.u,.u,.u,.u,.u,.u,.u,.u,.u,.u,.u,.u,.u,.u,.u,.u,.u,.u,.u,.u,.u,.u],[(.live true false [(iv 0),(iv 0)]),(.live true false [(iv (W (1*2 ^ (min (toNat a2) 64))))]),(.live true false [(iv (rL a0 a2))]),(.live true false (k9 (bG a1))),(.live true false [(iv v1)]),(.live true false [(iv v2)]),(.live true false (k9 a0)),(.live true false [(iv a2)])]⟩
def aTh (a0:Zt×Zt×Zt)(a1:Zt×Zt×Zt)(a2:Int):Int×Int->Zt×Zt×Zt->LS
 | (v1,v2),x=>⟨[.u,.u,.u,.u,.u,.u,.u,(.p 1 0),(.p 2 0),(.p 3 0),(.p 4 0),(.p 5 0),(.p 8 0),.u,.u,.u,.u,.u,.u,.u,.u,.u,.u,.u,.u,.u,.u,.u,.u,.u,.u,.u,.u,.u,.u,.u,.u,.u,.u,.u,.u,.u,.u,.u,.u,.u,.u,.u,.u,.u,.u,.u,.u,.u,.u,.u,.u,.u,.u,.u,.u,.u,.u,.u,.u,.u,.u,.u,.u,.u],[(.live true false [(iv 0),(iv 0)]),(.live true false [(iv (W (1*2 ^ (min (toNat a2) 64))))]),(.live true false [(iv (rL a0 a2))]),(.live true false (k9 (bG a1))),(.live true false [(iv v1)]),(.live true false [(iv v2)]),(.live true false (k9 a0)),(.live true false [(iv a2)]),(.live true false (k9 x))]⟩
def vW (a0:Zt×Zt×Zt)(a1:Zt×Zt×Zt)(a2:Int):Int×Int->Zt×Zt×Zt->Int×Int
 | (v1,v2),x =>
  (bif (decide (((cO (bG x) (bG a1)):Int) > 0)) then
   ((W (v1+(nG (cI ([(bG x).1,(bG x).2.1,(bG x).2.2]:List Zt) ([(bG a1).1,(bG a1).2.1,(bG a1).2.2]:List Zt)) (W (1*2 ^ (min (toNat a2) 64)))).1.1)),(W (v2+(if((nG (cO (bG x) (bG a1)) (W (1*2 ^ (min (toNat a2) 64)))).1.2:Int) < (rL a0 a2) then(nG (cO (bG x) (bG a1)) (W (1*2 ^ (min (toNat a2) 64)))).1.2 else(rL a0 a2)))))
  else
   ((W (v1+(nG (cI ([(bG x).1,(bG x).2.1,(bG x).2.2]:List Zt) ([(bG a1).1,(bG a1).2.1,(bG a1).2.2]:List Zt)) (W (1*2 ^ (min (toNat a2) 64)))).1.1)),(W (v2+(rL a0 a2)))))
def G47 (a0:Zt×Zt×Zt)(a1:Zt×Zt×Zt)(a2:Int):Int×Int->Int×Int
 | (v1,v2) =>
  (F75 v1 v2 (W (1*2 ^ (min (toNat (W (2*a2))) 64))))
def F47 (a0:Zt×Zt×Zt)(a1:Zt×Zt×Zt)(a2:Int):Int×Int :=
 (G47 a0 a1 a2 ((dD (toNat a2) a0).foldl (vW a0 a1 a2) (0,0)))
theorem C47 (a0:Zt×Zt×Zt)(a1:Zt×Zt×Zt)(a2:Int)(hp:sH a0=0)(ha:0<=a2/\a2<=3):Con Tryz.prog 47 [(.a (k9 a0)),(.a (k9 a1)),(iv a2)] [] (.a (k2 (F47 a0 a1 a2))) []:=by
 have e:(F47 a0 a1 a2)=(G47 a0 a1 a2 ((dD (toNat a2) a0).foldl (vW a0 a1 a2) (0,0))):=by simp only [F47]
 rw [e]
 refine aEw (n:=9) Tryz.func47 rfl (ent Tryz.func47 (by kernel_rfl) rfl) (by show 3<=Tryz.f47.ntmps;decide) (by kernel_rfl) trivial (fun cx hcx=>?_)
 refine vT (T:=T0) hT hm (f:=5000) (orc:=[.call [] (iv (rL a0 a2)) [],.call [] (.a (k9 (bG a1))) [],.call [] (.f 108 [(.p 0 0),(.p 1 0)]) [(.live true false (k9 a0)),(.live true false [(iv a2)])]]) [] [2,6,7,8,9,10,11,29] [2,3,4,5,6,7,8,9] hcx (x:=.rangeFunc (.tmp 29) #[30] aVx aVy) (k':=aVz) (s':=aQ8 a0 a1 a2 (0,0))
   (obs:=[.pr (0<=(a2:Int)),.call 69 [(.a (k9 a0)),(iv a2)] [] (iv (rL a0 a2)) [],.call 70 [(.a (k9 a1))] [] (.a (k9 (bG a1))) [],.call 71 [(.a (k9 a0)),(iv a2)] [] (.f 108 [(.p 0 0),(.p 1 0)]) [(.live true false (k9 a0)),(.live true false [(iv a2)])]]) (by kernel_rfl) ⟨(show 0<=(a2:Int) from by first | omega | (rw [aJ]<;>omega) | exact fG _),(C69 a0 a2  hp ha),(C70 a1),(C71 a0 a2),trivial⟩ ?_
 refine aLq (xs:=dD (toNat a2) a0) (enc:=aB8) (V:=Int×Int) (R':=Empty) hcx rfl (by decide) [6,7] [(.p 0 0),(.p 1 0)] [(.live false false (k9 a0)),(.live false false [(iv a2)])] rfl rfl (aJ8 a0 a2 (by first | omega | exact pair_le h0)) (fun x=>SV.a (cP x)) aE0 aQn 8 (Nb rfl) (cA (by kernel_rfl))
   (aQ8 a0 a1 a2) (0,0) rfl (fun⟨v1,v2⟩=>(by kernel_rfl)) (by kernel_rfl) (fun v v'=>(hG (hG (hG (hG (hG (hG (hG (hG aJ7))))))))) (fun⟨v1,v2⟩=>(by kernel_rfl)) (fun⟨v1,v2⟩=>(by kernel_rfl)) (fun⟨v1,v2⟩=>(Nat.le_of_ble_eq_true (by kernel_rfl)))
   (fun v x=>.inl (vW a0 a1 a2 v x)) (fun r=>r.elim) (fun v r=>r.elim) (fun r=>r.elim)
   (fun _ _=>True) trivial (aTh a0 a1 a2) (fun⟨v1,v2⟩ x=>(by kernel_rfl)) (fun⟨v1,v2⟩ x=>(by kernel_rfl)) (fun⟨v1,v2⟩ x=>(Nat.le_of_ble_eq_true (by kernel_rfl)))
   (fun cx' l i ⟨v1,v2⟩ x QA hcx' hx hinv hg=>aB2 (T:=T0) hT hm (f:=5000) (orc:=[]) [] [7,8,9,10,11,12] [8] hcx' (obs:=[]) (by kernel_rfl) trivial hg)
   (fun cx' l i ⟨v1,v2⟩ x QB hcx' hx hinv hb1 hb2=>?_) (fun cx' d ⟨v1,v2⟩ hh hv hinv=>?_) (fun cx' d r hh hv=>?_)
 · show Aw.Good _ _ _ _ _ _ _ (aTh a0 a1 a2 (v1,v2) x)
   cases h0:(decide (((cO (bG x) (bG a1)):Int) > 0)) with
   | true =>
     have q0:=cA h0
     have e:(Sum.inl (vW a0 a1 a2 (v1,v2) x):(Int×Int)⊕Empty)=.inl ((W (v1+(nG (cI ([(bG x).1,(bG x).2.1,(bG x).2.2]:List Zt) ([(bG a1).1,(bG a1).2.1,(bG a1).2.2]:List Zt)) (W (1*2 ^ (min (toNat a2) 64)))).1.1)),(W (v2+(if((nG (cO (bG x) (bG a1)) (W (1*2 ^ (min (toNat a2) 64)))).1.2:Int) < (rL a0 a2) then(nG (cO (bG x) (bG a1)) (W (1*2 ^ (min (toNat a2) 64)))).1.2 else(rL a0 a2))))):=by simp only [vW,h0,aS]
     refine aB2 (T:=T0) hT hm (f:=5000) (orc:=[.call [] (.a (k9 (bG x))) [],.call [9,3] (iv (cI ([(bG x).1,(bG x).2.1,(bG x).2.2]:List Zt) ([(bG a1).1,(bG a1).2.1,(bG a1).2.2]:List Zt))) [],.call [] (.t [(.a (k2 (nG (cI ([(bG x).1,(bG x).2.1,(bG x).2.2]:List Zt) ([(bG a1).1,(bG a1).2.1,(bG a1).2.2]:List Zt)) (W (1*2 ^ (min (toNat a2) 64)))).1)),(iv (nG (cI ([(bG x).1,(bG x).2.1,(bG x).2.2]:List Zt) ([(bG a1).1,(bG a1).2.1,(bG a1).2.2]:List Zt)) (W (1*2 ^ (min (toNat a2) 64)))).2)]) [],.call [9,3] (iv (cO (bG x) (bG a1))) [],.d true,.call [] (.t [(.a (k2 (nG (cO (bG x) (bG a1)) (W (1*2 ^ (min (toNat a2) 64)))).1)),(iv (nG (cO (bG x) (bG a1)) (W (1*2 ^ (min (toNat a2) 64)))).2)]) []]) [] [] [] hcx' (s':=⟨List.replicate 70 .u,[(.live true false [(iv 0),(iv 0)]),(.live true false [(iv (W (1*2 ^ (min (toNat a2) 64))))]),(.live true false [(iv (rL a0 a2))]),(.live true false (k9 (bG a1))),(.live true false [(iv (W (v1+(nG (cI ([(bG x).1,(bG x).2.1,(bG x).2.2]:List Zt) ([(bG a1).1,(bG a1).2.1,(bG a1).2.2]:List Zt)) (W (1*2 ^ (min (toNat a2) 64)))).1.1)))]),(.live true false [(iv (W (v2+(if((nG (cO (bG x) (bG a1)) (W (1*2 ^ (min (toNat a2) 64)))).1.2:Int) < (rL a0 a2) then(nG (cO (bG x) (bG a1)) (W (1*2 ^ (min (toNat a2) 64)))).1.2 else(rL a0 a2)))))]),(.live true false (k9 a0)),(.live true false [(iv a2)])]⟩)
       (obs:=[.call 70 [(.a (k9 x))] [] (.a (k9 (bG x))) [],.call 73 [(.s 0 0 3 3),(.s 1 0 3 3)] [(.live false false (k9 (bG x))),(.live false false (k9 (bG a1)))] (iv (cI ([(bG x).1,(bG x).2.1,(bG x).2.2]:List Zt) ([(bG a1).1,(bG a1).2.1,(bG a1).2.2]:List Zt))) [],.call 72 [(iv (cI ([(bG x).1,(bG x).2.1,(bG x).2.2]:List Zt) ([(bG a1).1,(bG a1).2.1,(bG a1).2.2]:List Zt))),(iv (W (1*2 ^ (min (toNat a2) 64))))] [] (.t [(.a (k2 (nG (cI ([(bG x).1,(bG x).2.1,(bG x).2.2]:List Zt) ([(bG a1).1,(bG a1).2.1,(bG a1).2.2]:List Zt)) (W (1*2 ^ (min (toNat a2) 64)))).1)),(iv (nG (cI ([(bG x).1,(bG x).2.1,(bG x).2.2]:List Zt) ([(bG a1).1,(bG a1).2.1,(bG a1).2.2]:List Zt)) (W (1*2 ^ (min (toNat a2) 64)))).2)]) [],.call 74 [(.s 0 0 3 3),(.s 1 0 3 3)] [(.live false false (k9 (bG x))),(.live false false (k9 (bG a1)))] (iv (cO (bG x) (bG a1))) [],.eq (decide (((cO (bG x) (bG a1)):Int) > 0)) true,.call 72 [(iv (cO (bG x) (bG a1))),(iv (W (1*2 ^ (min (toNat a2) 64))))] [] (.t [(.a (k2 (nG (cO (bG x) (bG a1)) (W (1*2 ^ (min (toNat a2) 64)))).1)),(iv (nG (cO (bG x) (bG a1)) (W (1*2 ^ (min (toNat a2) 64)))).2)]) []]) (by kernel_rfl) ⟨(C70 x),(Con.flags (bs':=[(.live false false (k9 (bG x))),(.live false false (k9 (bG a1)))]) (aIi ([(bG x).1,(bG x).2.1,(bG x).2.2]:List Zt) ([(bG a1).1,(bG a1).2.1,(bG a1).2.2]:List Zt) (by(try simp only [Lt]);omega) (by(try simp only [Lt]);omega)) rfl ⟨fD (fun _=>rfl),fD (fun _=>rfl),trivial⟩),(C72 (cI ([(bG x).1,(bG x).2.1,(bG x).2.2]:List Zt) ([(bG a1).1,(bG a1).2.1,(bG a1).2.2]:List Zt)) (W (1*2 ^ (min (toNat a2) 64)))),(aIh (bG x) (bG a1)),h0,(C72 (cO (bG x) (bG a1)) (W (1*2 ^ (min (toNat a2) 64)))),trivial⟩ ?_
     exact hb1 _ e trivial
   | false =>
     have q0:=cH h0
     have e:(Sum.inl (vW a0 a1 a2 (v1,v2) x):(Int×Int)⊕Empty)=.inl ((W (v1+(nG (cI ([(bG x).1,(bG x).2.1,(bG x).2.2]:List Zt) ([(bG a1).1,(bG a1).2.1,(bG a1).2.2]:List Zt)) (W (1*2 ^ (min (toNat a2) 64)))).1.1)),(W (v2+(rL a0 a2)))):=by simp only [vW,h0,aS]
     refine aB2 (T:=T0) hT hm (f:=5000) (orc:=[.call [] (.a (k9 (bG x))) [],.call [9,3] (iv (cI ([(bG x).1,(bG x).2.1,(bG x).2.2]:List Zt) ([(bG a1).1,(bG a1).2.1,(bG a1).2.2]:List Zt))) [],.call [] (.t [(.a (k2 (nG (cI ([(bG x).1,(bG x).2.1,(bG x).2.2]:List Zt) ([(bG a1).1,(bG a1).2.1,(bG a1).2.2]:List Zt)) (W (1*2 ^ (min (toNat a2) 64)))).1)),(iv (nG (cI ([(bG x).1,(bG x).2.1,(bG x).2.2]:List Zt) ([(bG a1).1,(bG a1).2.1,(bG a1).2.2]:List Zt)) (W (1*2 ^ (min (toNat a2) 64)))).2)]) [],.call [9,3] (iv (cO (bG x) (bG a1))) [],.d false]) [] [] [] hcx' (s':=⟨List.replicate 70 .u,[(.live true false [(iv 0),(iv 0)]),(.live true false [(iv (W (1*2 ^ (min (toNat a2) 64))))]),(.live true false [(iv (rL a0 a2))]),(.live true false (k9 (bG a1))),(.live true false [(iv (W (v1+(nG (cI ([(bG x).1,(bG x).2.1,(bG x).2.2]:List Zt) ([(bG a1).1,(bG a1).2.1,(bG a1).2.2]:List Zt)) (W (1*2 ^ (min (toNat a2) 64)))).1.1)))]),(.live true false [(iv (W (v2+(rL a0 a2))))]),(.live true false (k9 a0)),(.live true false [(iv a2)])]⟩)
       (obs:=[.call 70 [(.a (k9 x))] [] (.a (k9 (bG x))) [],.call 73 [(.s 0 0 3 3),(.s 1 0 3 3)] [(.live false false (k9 (bG x))),(.live false false (k9 (bG a1)))] (iv (cI ([(bG x).1,(bG x).2.1,(bG x).2.2]:List Zt) ([(bG a1).1,(bG a1).2.1,(bG a1).2.2]:List Zt))) [],.call 72 [(iv (cI ([(bG x).1,(bG x).2.1,(bG x).2.2]:List Zt) ([(bG a1).1,(bG a1).2.1,(bG a1).2.2]:List Zt))),(iv (W (1*2 ^ (min (toNat a2) 64))))] [] (.t [(.a (k2 (nG (cI ([(bG x).1,(bG x).2.1,(bG x).2.2]:List Zt) ([(bG a1).1,(bG a1).2.1,(bG a1).2.2]:List Zt)) (W (1*2 ^ (min (toNat a2) 64)))).1)),(iv (nG (cI ([(bG x).1,(bG x).2.1,(bG x).2.2]:List Zt) ([(bG a1).1,(bG a1).2.1,(bG a1).2.2]:List Zt)) (W (1*2 ^ (min (toNat a2) 64)))).2)]) [],.call 74 [(.s 0 0 3 3),(.s 1 0 3 3)] [(.live false false (k9 (bG x))),(.live false false (k9 (bG a1)))] (iv (cO (bG x) (bG a1))) [],.eq (decide (((cO (bG x) (bG a1)):Int) > 0)) false]) (by kernel_rfl) ⟨(C70 x),(Con.flags (bs':=[(.live false false (k9 (bG x))),(.live false false (k9 (bG a1)))]) (aIi ([(bG x).1,(bG x).2.1,(bG x).2.2]:List Zt) ([(bG a1).1,(bG a1).2.1,(bG a1).2.2]:List Zt) (by(try simp only [Lt]);omega) (by(try simp only [Lt]);omega)) rfl ⟨fD (fun _=>rfl),fD (fun _=>rfl),trivial⟩),(C72 (cI ([(bG x).1,(bG x).2.1,(bG x).2.2]:List Zt) ([(bG a1).1,(bG a1).2.1,(bG a1).2.2]:List Zt)) (W (1*2 ^ (min (toNat a2) 64)))),(aIh (bG x) (bG a1)),h0,trivial⟩ ?_
     exact hb1 _ e trivial
 · rw [yL,Sum.inl.injEq] at hv;rw [hv]
   show Aw.Good _ _ _ _ _ _ _ (aQ8 a0 a1 a2 (v1,v2))
   have e:G47 a0 a1 a2 (v1,v2)=(F75 v1 v2 (W (1*2 ^ (min (toNat (W (2*a2))) 64)))):=by simp only [G47]
   rw [e]
   exact aOd (T:=T0) hT hm (f:=5000) (orc:=[.call [] (.a (k2 (F75 v1 v2 (W (1*2 ^ (min (toNat (W (2*a2))) 64)))))) []]) [] [] [] hh hcx
     (obs:=[.pr (0<=((W (2*a2)):Int)),.call 75 [(iv v1),(iv v2),(iv (W (1*2 ^ (min (toNat (W (2*a2))) 64))))] [] (.a (k2 (F75 v1 v2 (W (1*2 ^ (min (toNat (W (2*a2))) 64)))))) []]) (by kernel_rfl) ⟨(show 0<=((W (2*a2)):Int) from by first | omega | (rw [aJ]<;>omega) | exact fG _),(C75 v1 v2 (W (1*2 ^ (min (toNat (W (2*a2))) 64)))),trivial⟩
 · exact r.elim
def F85 (a0:Int)(a1:Int):Int :=
 (bif (decide (((Int.tmod a0 a1):Int) < 0)) then
  (W ((W (Int.tdiv a0 a1)) - 1))
 else
  (W (Int.tdiv a0 a1)))
theorem C85 (a0:Int)(a1:Int)(ha:a1≠0):Con Tryz.prog 85 [(iv a0),(iv a1)] [] (iv (F85 a0 a1)) []:=by
 refine aO Tryz.func85 (by kernel_rfl) fun cx hcx=>?_
 let t0:List (St Tryz.prog):=[.p (show(a1:Int)≠0 from by first | omega | (rw [aJ]<;>omega) | exact fG _),.p (show(a1:Int)≠0 from by first | omega | (rw [aJ]<;>omega) | exact fG _)]
 cases h0:(decide (((Int.tmod a0 a1):Int) < 0)) with
 | true =>
  have q0:=cA h0
  have e:=Eq.refl (F85 a0 a1);conv at e=>rhs;simp only [F85,h0,aS]
  rw [e]
  exact rt (t0++[.d h0]) [] [] hcx (by kernel_rfl)
 | false =>
  have q0:=cH h0
  have e:=Eq.refl (F85 a0 a1);conv at e=>rhs;simp only [F85,h0,aS]
  rw [e]
  exact rt (t0++[.d h0]) [] [] hcx (by kernel_rfl)
def F86 (a0:Int)(a1:Int):Int :=
 (W (0 - (F85 (W (0 - a0)) a1)))
theorem C86 (a0:Int)(a1:Int)(ha:a1≠0):Con Tryz.prog 86 [(iv a0),(iv a1)] [] (iv (F86 a0 a1)) []:=by
 refine aO Tryz.func86 (by kernel_rfl) fun cx hcx=>?_
 have e:=Eq.refl (F86 a0 a1);conv at e=>rhs;simp only [F86]
 rw [e]
 exact rt [.c [] (C85 (W (0 - a0)) a1  (by(try simp only [Lt]);omega))] [] [] hcx (by kernel_rfl)
noncomputable def aIn:Code:=(aI [1,1,1,1,1,1,0] [] (aL Tryz.f81) []).1
noncomputable def aIo:List K:=(aI [1,1,1,1,1,1,0] [] (aL Tryz.f81) []).2
def aCn (a0:Zt×Zt×Zt)(a1:Int)(v2 v3:Int):LS:=⟨iM 45 [(6,(iv (qQ (dB (nL a0) (nL a0))))),(8,(iv (W ((W ((W (1099511627776*(W (1*2 ^ (min (toNat (IntKind.wrap .u64 a1)) 64)))))*(W (1*2 ^ (min (toNat (IntKind.wrap .u64 a1)) 64)))))*3217)))),(9,(iv v2)),(10,(iv v3))],[]⟩
def pR (a0:Zt×Zt×Zt)(a1:Int):Int×Int->(Int×Int)⊕(Int)
 | (v2,v3) =>
  (bif (decide ((v2:Int) < v3)) then
   (bif (decide (((W ((W (Int.tdiv (W (v2+v3)) 2))*(W (Int.tdiv (W (v2+v3)) 2)))):Int)≥(F86 (W ((W ((W (1099511627776*(W (1*2 ^ (min (toNat (IntKind.wrap .u64 a1)) 64)))))*(W (1*2 ^ (min (toNat (IntKind.wrap .u64 a1)) 64)))))*3217)) (W (128*(qQ (dB (nL a0) (nL a0)))))))) then
    (.inl (v2,(W (Int.tdiv (W (v2+v3)) 2))))
   else
    (.inl ((W ((W (Int.tdiv (W (v2+v3)) 2))+1)),v3)))
  else
   (.inr v2))
theorem aTi (a0:Zt×Zt×Zt)(a1:Int)(ha:0<=a1/\a1<=3)(hr:W (128*qQ (dB (nL a0) (nL a0)))≠0) {cx:Cx} (hcx:cx.base=0):∀(n:Nat) (v2 v3:Int),(0<=v2)/\(0<=v2)/\(v2<=v3)/\(v3<=268435456)->toNat (v3 - v2) < n->Aw.Good Tryz.prog none 9 (bodyPost Tryz.prog Tryz.f81 (RR cx (iv (aC (pR a0 a1) n (v2,v3))) [] [])) cx [] (.l aIn n::aIo) (aCn a0 a1 v2 v3):=by
 intro n
 induction n with
 | zero=>intro v2 v3 hi hn;exact absurd hn (eP _)
 | succ n ih =>
   intro v2 v3 hi hn
   refine aQ ?_
   have hw:=aB7 (a:=v2) (b:=v3) (by omega)
   have hw2:=aIf (a:=v2) (b:=v3) (by omega)
   cases h0:(decide ((v2:Int) < v3)) with
   | true =>
    have q0:=cA h0
    let t1:List (St Tryz.prog):=[.d h0,.p (show(2:Int)≠0 from by decide),.c [] (C86 (W ((W ((W (1099511627776*(W (1*2 ^ (min (toNat (IntKind.wrap .u64 a1)) 64)))))*(W (1*2 ^ (min (toNat (IntKind.wrap .u64 a1)) 64)))))*3217)) (W (128*(qQ (dB (nL a0) (nL a0)))))  (by(try simp only [Lt]);omega))]
    cases h1:(decide (((W ((W (Int.tdiv (W (v2+v3)) 2))*(W (Int.tdiv (W (v2+v3)) 2)))):Int)≥(F86 (W ((W ((W (1099511627776*(W (1*2 ^ (min (toNat (IntKind.wrap .u64 a1)) 64)))))*(W (1*2 ^ (min (toNat (IntKind.wrap .u64 a1)) 64)))))*3217)) (W (128*(qQ (dB (nL a0) (nL a0)))))))) with
    | true =>
     have q1:=cA h1
     have e:=Eq.refl (pR a0 a1 (v2,v3));conv at e=>rhs;simp only [pR,h0,h1,aS]
     rw [aE e]
     refine ba (t1++[.d h1]) [] [6,8,9,10] [] hcx (m:=n) aIn (aIo) (aCn a0 a1 v2 (W (Int.tdiv (W (v2+v3)) 2))) (by kernel_rfl) ?_
     exact ih v2 (W (Int.tdiv (W (v2+v3)) 2)) (by refine⟨?_,?_,?_,?_⟩<;>(try simp only [Ls])<;>first | omega | assumption | simp) (by(try simp only [Ls]);omega)
    | false =>
     have q1:=cH h1
     have e:=Eq.refl (pR a0 a1 (v2,v3));conv at e=>rhs;simp only [pR,h0,h1,aS]
     rw [aE e]
     refine ba (t1++[.d h1]) [] [6,8,9,10] [] hcx (m:=n) aIn (aIo) (aCn a0 a1 (W ((W (Int.tdiv (W (v2+v3)) 2))+1)) v3) (by kernel_rfl) ?_
     exact ih (W ((W (Int.tdiv (W (v2+v3)) 2))+1)) v3 (by refine⟨?_,?_,?_,?_⟩<;>(try simp only [Ls])<;>first | omega | assumption | simp) (by(try simp only [Ls]);omega)
   | false =>
    have q0:=cH h0
    have e:=Eq.refl (pR a0 a1 (v2,v3));conv at e=>rhs;simp only [pR,h0,aS]
    rw [aN,e]
    exact rt [.d h0] [] [] hcx (by kernel_rfl)
def F81 (a0:Zt×Zt×Zt)(a1:Int):Int :=
 (aC (pR a0 a1) (toNat (268435456 - 0)+1) (0,268435456))
theorem C81 (a0:Zt×Zt×Zt)(a1:Int)(ha:0<=a1/\a1<=3)(hr:W (128*qQ (dB (nL a0) (nL a0)))≠0):Con Tryz.prog 81 [(.a (k9 a0)),(iv a1)] [] (iv (F81 a0 a1)) []:=by
 refine aO Tryz.func81 (by kernel_rfl) fun cx hcx=>?_
 have e:=Eq.refl (F81 a0 a1);conv at e=>rhs;simp only [F81]
 rw [e]
 refine en [.c [] (C62 a0),.c [] (aE2 (nL a0) (nL a0)),.c [] (aVv (dB (nL a0) (nL a0))),.p (show 0<=((IntKind.wrap .u64 a1):Int) from by first | omega | (rw [aJ]<;>omega) | exact fG _)] [] [6,8,9,10] [] hcx aIn (aIo) (aCn a0 a1 0 268435456) (toNat (268435456 - 0)+1) (by kernel_rfl) ?_
 exact aTi a0 a1 ha hr hcx (toNat (268435456 - 0)+1) 0 268435456 (by refine⟨?_,?_,?_,?_⟩<;>(try simp only [Ls])<;>first | omega | assumption | simp) (by(try simp only [Ls]);omega)
noncomputable def aIp:Code:=(aI [1,1,1,1,1,0,1] [] (aL Tryz.f56) []).1
noncomputable def aIq:List K:=(aI [1,1,1,1,1,0,1] [] (aL Tryz.f56) []).2
def aCo (a0:Zt×Zt×Zt)(a1:Int)(a2:Zt×Zt×Zt)(v1 v2 v3:Int):LS:=⟨iM 88 [(6,(.p 0 0)),(7,(.s 1 0 (lF a0 a1).length 9)),(8,(.s 2 0 3 3)),(9,(iv (W (1*2 ^ (min (toNat (IntKind.wrap .u64 a1)) 64))))),(10,(iv (F81 a0 a1))),(11,(iv v1)),(12,(iv v2)),(13,(iv v3))],[(.live true false [(iv 0),(iv 0)]),(.live true true (flat c70 (lF a0 a1))),(.live true false (k9 a2))]⟩
def nX (a0:Zt×Zt×Zt)(a1:Int)(a2:Zt×Zt×Zt):Zt->Zt⊕(Int×Int)
 | (v1,v2,v3) =>
  (bif (decide ((v3:Int) < (((lF a0 a1).length:Nat):Int))) then
   (bif (decide (((kT ((lF a0 a1).getD (toNat v3) default) a2):Int) > 0)) then
    (.inl ((W (v1+(F82 (mH ((lF a0 a1).getD (toNat v3) default) ([a2.1,a2.2.1,a2.2.2]:List Zt)) (W (1*2 ^ (min (toNat (IntKind.wrap .u64 a1)) 64)))).1.1)),(W (v2+(if((F82 (kT ((lF a0 a1).getD (toNat v3) default) a2) (W (1*2 ^ (min (toNat (IntKind.wrap .u64 a1)) 64)))).1.2:Int) < (F81 a0 a1) then(F82 (kT ((lF a0 a1).getD (toNat v3) default) a2) (W (1*2 ^ (min (toNat (IntKind.wrap .u64 a1)) 64)))).1.2 else(F81 a0 a1)))),(v3+1)))
   else
    (.inl ((W (v1+(F82 (mH ((lF a0 a1).getD (toNat v3) default) ([a2.1,a2.2.1,a2.2.2]:List Zt)) (W (1*2 ^ (min (toNat (IntKind.wrap .u64 a1)) 64)))).1.1)),(W (v2+(F81 a0 a1))),(v3+1))))
  else
   (.inr ((F85 v1 (((lF a0 a1).length:Nat):Int)),(F86 v2 (((lF a0 a1).length:Nat):Int)))))
theorem aTj (a0:Zt×Zt×Zt)(a1:Int)(a2:Zt×Zt×Zt)(ha:0<=a1/\a1<=3)(hr:W (128*qQ (dB (nL a0) (nL a0)))≠0) {cx:Cx} (hcx:cx.base=0):∀(n:Nat) (v1 v2 v3:Int),0<=v3->toNat ((((lF a0 a1).length:Nat):Int) - v3) < n->Aw.Good Tryz.prog none 9 (bodyPost Tryz.prog Tryz.f56 (RR cx (.a (k2 (aC (nX a0 a1 a2) n (v1,v2,v3)))) [] [])) cx [] (.l aIp n::aIq) (aCo a0 a1 a2 v1 v2 v3):=by
 intro n
 induction n with
 | zero=>intro v1 v2 v3 hi hn;exact absurd hn (eP _)
 | succ n ih =>
   intro v1 v2 v3 hi hn
   refine aQ ?_
   have hcl:=aQ7 (p:=a0) ha
   cases h0:(decide ((v3:Int) < (((lF a0 a1).length:Nat):Int))) with
   | true =>
    have q0:=cA h0
    let t1:List (St Tryz.prog):=[.d h0,.i v3 ((lF a0 a1).length),.L oS (lF a0 a1) v3 0 9,.c [2] (Con.flags (bs':=[(.live false false (k9 a2))]) (aTb ((lF a0 a1).getD (toNat v3) default) ([a2.1,a2.2.1,a2.2.2]:List Zt) (by(try simp only [Lt]);omega)) rfl ⟨fD (fun _=>rfl),trivial⟩),.c [] (C82 (mH ((lF a0 a1).getD (toNat v3) default) ([a2.1,a2.2.1,a2.2.2]:List Zt)) (W (1*2 ^ (min (toNat (IntKind.wrap .u64 a1)) 64)))),.i v3 ((lF a0 a1).length),.L oS (lF a0 a1) v3 0 9,.c [2] (aTc ((lF a0 a1).getD (toNat v3) default) a2)]
    cases h1:(decide (((kT ((lF a0 a1).getD (toNat v3) default) a2):Int) > 0)) with
    | true =>
     have q1:=cA h1
     have e:=Eq.refl (nX a0 a1 a2 (v1,v2,v3));conv at e=>rhs;simp only [nX,h0,h1,aS]
     rw [aE e]
     refine ba (t1++[.d h1,.c [] (C82 (kT ((lF a0 a1).getD (toNat v3) default) a2) (W (1*2 ^ (min (toNat (IntKind.wrap .u64 a1)) 64))))]) [] [6,7,8,9,10,11,12,13] [0,1,2] hcx (m:=n) aIp (aIq) (aCo a0 a1 a2 (W (v1+(F82 (mH ((lF a0 a1).getD (toNat v3) default) ([a2.1,a2.2.1,a2.2.2]:List Zt)) (W (1*2 ^ (min (toNat (IntKind.wrap .u64 a1)) 64)))).1.1)) (W (v2+(if((F82 (kT ((lF a0 a1).getD (toNat v3) default) a2) (W (1*2 ^ (min (toNat (IntKind.wrap .u64 a1)) 64)))).1.2:Int) < (F81 a0 a1) then(F82 (kT ((lF a0 a1).getD (toNat v3) default) a2) (W (1*2 ^ (min (toNat (IntKind.wrap .u64 a1)) 64)))).1.2 else(F81 a0 a1)))) (W (v3+1))) (by kernel_rfl) ?_
     have z0:(W (v3+1))=(v3+1):=aJ (by omega) (by omega)
     rw [z0]
     exact ih (W (v1+(F82 (mH ((lF a0 a1).getD (toNat v3) default) ([a2.1,a2.2.1,a2.2.2]:List Zt)) (W (1*2 ^ (min (toNat (IntKind.wrap .u64 a1)) 64)))).1.1)) (W (v2+(if((F82 (kT ((lF a0 a1).getD (toNat v3) default) a2) (W (1*2 ^ (min (toNat (IntKind.wrap .u64 a1)) 64)))).1.2:Int) < (F81 a0 a1) then(F82 (kT ((lF a0 a1).getD (toNat v3) default) a2) (W (1*2 ^ (min (toNat (IntKind.wrap .u64 a1)) 64)))).1.2 else(F81 a0 a1)))) (v3+1) (by(try simp only [Ls]);omega) (by(try simp only [Ls]);omega)
    | false =>
     have q1:=cH h1
     have e:=Eq.refl (nX a0 a1 a2 (v1,v2,v3));conv at e=>rhs;simp only [nX,h0,h1,aS]
     rw [aE e]
     refine ba (t1++[.d h1]) [] [6,7,8,9,10,11,12,13] [0,1,2] hcx (m:=n) aIp (aIq) (aCo a0 a1 a2 (W (v1+(F82 (mH ((lF a0 a1).getD (toNat v3) default) ([a2.1,a2.2.1,a2.2.2]:List Zt)) (W (1*2 ^ (min (toNat (IntKind.wrap .u64 a1)) 64)))).1.1)) (W (v2+(F81 a0 a1))) (W (v3+1))) (by kernel_rfl) ?_
     have z0:(W (v3+1))=(v3+1):=aJ (by omega) (by omega)
     rw [z0]
     exact ih (W (v1+(F82 (mH ((lF a0 a1).getD (toNat v3) default) ([a2.1,a2.2.1,a2.2.2]:List Zt)) (W (1*2 ^ (min (toNat (IntKind.wrap .u64 a1)) 64)))).1.1)) (W (v2+(F81 a0 a1))) (v3+1) (by(try simp only [Ls]);omega) (by(try simp only [Ls]);omega)
   | false =>
    have q0:=cH h0
    have e:=Eq.refl (nX a0 a1 a2 (v1,v2,v3));conv at e=>rhs;simp only [nX,h0,aS]
    rw [aN,e]
    exact rt [.d h0,.c [] (C85 v1 (((lF a0 a1).length:Nat):Int)  (aMd (by omega))),.c [] (C86 v2 (((lF a0 a1).length:Nat):Int)  (aMd (by omega)))] [] [] hcx (by kernel_rfl)
def F56 (a0:Zt×Zt×Zt)(a1:Int)(a2:Zt×Zt×Zt):Int×Int :=
 (aC (nX a0 a1 a2) (toNat ((((lF a0 a1).length:Nat):Int) - 0)+1) (0,0,0))
theorem C56 (a0:Zt×Zt×Zt)(a1:Int)(a2:Zt×Zt×Zt)(ha:0<=a1/\a1<=3)(hr:W (128*qQ (dB (nL a0) (nL a0)))≠0):Con Tryz.prog 56 [(.a (k9 a0)),(iv a1),(.a (k9 a2))] [] (.a (k2 (F56 a0 a1 a2))) []:=by
 refine aO Tryz.func56 (by kernel_rfl) fun cx hcx=>?_
 have e:=Eq.refl (F56 a0 a1 a2);conv at e=>rhs;simp only [F56]
 rw [e]
 refine en [.c [] (C80 a0 a1  (by(try simp only [Lt]);omega)),.p (show 0<=((IntKind.wrap .u64 a1):Int) from by first | omega | (rw [aJ]<;>omega) | exact fG _),.c [] (C81 a0 a1  ha hr)] [] [6,7,8,9,10,11,12,13] [2,3,4] hcx aIp (aIq) (aCo a0 a1 a2 0 0 0) (toNat ((((lF a0 a1).length:Nat):Int) - 0)+1) (by kernel_rfl) ?_
 exact aTj a0 a1 a2 ha hr hcx (toNat ((((lF a0 a1).length:Nat):Int) - 0)+1) 0 0 0 (by(try simp only [Ls]);omega) (by(try simp only [Ls]);omega)
def mx (a b:Int):Int:=if a < b then b else a
theorem nY {a b c:Int} (h:a<=c)(h':b<=c):mx a b<=c:=by unfold mx;split<;>assumption
theorem fW (a b:Int):a<=mx a b:=by unfold mx;split<;>omega
theorem aGn (a b:Int):b<=mx a b:=by unfold mx;split<;>omega
def ds (p q:P3):Int:=dt (sb p q) (sb p q)
def fF (p q:P3):Int:=iT (bV p q) (bV p q)
theorem sQ {p q:P3} (hp:bd 5000 p)(hq:bd 5000 q):fF p q=ds p q:=by
 unfold fF ds
 rw [fsb (hp.mono (by omega)) (hq.mono (by omega))]
 exact fdt ((kU hp hq).mono (by omega)) ((kU hp hq).mono (by omega))
def rF (p q:P3):Int:=dB (dL p q) (dL p q)
theorem sR {p q:P3} (hp:bd 5000 p)(hq:bd 5000 q):rF p q=ds p q:=by
 unfold rF ds
 rw [rsb (hp.mono (by omega)) (hq.mono (by omega))]
 exact rdt ((kU hp hq).mono (by omega)) ((kU hp hq).mono (by omega))
theorem aTk (c:PN)(x y z:P3):cI [c.1,c.2.1,c.2.2] [x,y,z] =
   mx (mx (mx (mx (mx (mx (mx (mx (mx 0 (fF c.1 x)) (fF c.1 y)) (fF c.1 z)) (fF c.2.1 x)) (fF c.2.1 y)) (fF c.2.1 z)) (fF c.2.2 x)) (fF c.2.2 y)) (fF c.2.2 z):=by
 rfl
theorem uG (c:PN)(l:List P3)(v:Int)(i:Nat)(h:i < l.length) :
   dA c l (v,(i:Int))=.inl (mx (mx (mx v (rF c.1 (l.getD i default))) (rF c.2.1 (l.getD i default))) (rF c.2.2 (l.getD i default)),((i+1:Nat):Int)):=by
 have h0:decide ((i:Int) < (l.length:Int))=true:=by simpa using h
 simp only [dA,h0,cond_true,jM]
 have key:∀q:P3,(bif decide (rF c.1 q > v) then bif decide (rF c.2.1 q > rF c.1 q) then bif decide (rF c.2.2 q > rF c.2.1 q) then Sum.inl (rF c.2.2 q,(i:Int)+1) else Sum.inl (rF c.2.1 q,(i:Int)+1) else bif decide (rF c.2.2 q > rF c.1 q) then Sum.inl (rF c.2.2 q,(i:Int)+1) else Sum.inl (rF c.1 q,(i:Int)+1)
   else bif decide (rF c.2.1 q > v) then bif decide (rF c.2.2 q > rF c.2.1 q) then Sum.inl (rF c.2.2 q,(i:Int)+1) else Sum.inl (rF c.2.1 q,(i:Int)+1) else bif decide (rF c.2.2 q > v) then Sum.inl (rF c.2.2 q,(i:Int)+1) else Sum.inl (v,(i:Int)+1))
   = (Sum.inl (mx (mx (mx v (rF c.1 q)) (rF c.2.1 q)) (rF c.2.2 q),((i:Int)+1)):(Int×Int)⊕Int):=by
   intro q
   generalize rF c.1 q=a1;generalize rF c.2.1 q=a2;generalize rF c.2.2 q=a3
   unfold mx
   by_cases h1:a1 > v
   · rw [cN h1,cond_true,if_pos h1]
     by_cases h2:a2 > a1
     · rw [cN h2,cond_true,if_pos h2]
       by_cases h3:a3 > a2
       · rw [cN h3,cond_true,if_pos h3]
       · rw [dQ h3,cond_false,if_neg h3]
     · rw [dQ h2,cond_false,if_neg h2]
       by_cases h3:a3 > a1
       · rw [cN h3,cond_true,if_pos h3]
       · rw [dQ h3,cond_false,if_neg h3]
   · rw [dQ h1,cond_false,if_neg h1]
     by_cases h2:a2 > v
     · rw [cN h2,cond_true,if_pos h2]
       by_cases h3:a3 > a2
       · rw [cN h3,cond_true,if_pos h3]
       · rw [dQ h3,cond_false,if_neg h3]
     · rw [dQ h2,cond_false,if_neg h2]
       by_cases h3:a3 > v
       · rw [cN h3,cond_true,if_pos h3]
       · rw [dQ h3,cond_false,if_neg h3]
 exact key (l.getD i default)
theorem aMg (c:PN)(l:List P3)(v:Int):dA c l (v,(l.length:Int))=.inr v:=by
 have h0:decide ((l.length:Int) < (l.length:Int))=false:=by simp
 simp only [dA,h0,cond_false]
theorem aTl (c:PN)(x y z:P3):mH c [x,y,z] =
   mx (mx (mx (mx (mx (mx (mx (mx (mx 0 (rF c.1 x)) (rF c.2.1 x)) (rF c.2.2 x)) (rF c.1 y)) (rF c.2.1 y)) (rF c.2.2 y)) (rF c.1 z)) (rF c.2.1 z)) (rF c.2.2 z):=by
 unfold mH
 have e0:=uG c [x,y,z] 0 0 (by simp)
 have e1:=uG c [x,y,z] (mx (mx (mx 0 (rF c.1 x)) (rF c.2.1 x)) (rF c.2.2 x)) 1 (by simp)
 have e2:=uG c [x,y,z] (mx (mx (mx (mx (mx (mx 0 (rF c.1 x)) (rF c.2.1 x)) (rF c.2.2 x)) (rF c.1 y)) (rF c.2.1 y)) (rF c.2.2 y)) 2 (by simp)
 have e3:=aMg c [x,y,z] (mx (mx (mx (mx (mx (mx (mx (mx (mx 0 (rF c.1 x)) (rF c.2.1 x)) (rF c.2.2 x)) (rF c.1 y)) (rF c.2.1 y)) (rF c.2.2 y)) (rF c.1 z)) (rF c.2.1 z)) (rF c.2.2 z))
 rw [show toNat ((([x,y,z]:List P3).length:Int) - 0)+1=4 from rfl,show((0,0):Int×Int)=(0,((0:Nat):Int)) from rfl,aE e0]
 refine(aE e1).trans ?_
 refine(aE e2).trans ?_
 exact aY e3
theorem aMh (a b c d e f g h i:Int):mx (mx (mx (mx (mx (mx (mx (mx (mx 0 a) b) c) d) e) f) g) h) i=mx (mx (mx (mx (mx (mx (mx (mx (mx 0 a) d) g) b) e) h) c) f) i:=by
 have key:∀a b c:Int,mx (mx a b) c=mx (mx a c) b:=fun a b c=>by unfold mx;repeat' split<;>omega
 rw [key _ c d,key _ b d,key _ f g,key _ e g,key _ c g,key _ b g]
 rw [key _ c e,key _ f h,key _ c h]
def lo3 (a b c:Int):Int:=if c < (if b < (if a < a then a else a) then b else(if a < a then a else a)) then c else(if b < (if a < a then a else a) then b else(if a < a then a else a))
def hi3 (a b c:Int):Int:=if(if(if a < a then a else a) < b then b else(if a < a then a else a)) < c then c else(if(if a < a then a else a) < b then b else(if a < a then a else a))
theorem uH (a b c:Int):lo3 a b c<=a/\lo3 a b c<=b/\lo3 a b c<=c:=by
 unfold lo3;simp only [Int.lt_irrefl,if_false];split<;>split at *<;>omega
theorem uI (a b c:Int):a<=hi3 a b c/\b<=hi3 a b c/\c<=hi3 a b c:=by
 unfold hi3;simp only [Int.lt_irrefl,if_false];split<;>split at *<;>omega
theorem aGo (a b c:Int):lo3 a b c=a\/lo3 a b c=b\/lo3 a b c=c:=by
 unfold lo3;simp only [Int.lt_irrefl,if_false];split<;>split at *<;>omega
theorem aGp (a b c:Int):hi3 a b c=a\/hi3 a b c=b\/hi3 a b c=c:=by
 unfold hi3;simp only [Int.lt_irrefl,if_false];split<;>split at *<;>omega
def gp (a b c d:Int):Int:=mx (mx 0 (c - b)) (a - d)
theorem aP3 (a b c d:Int):0<=gp a b c d:=Int.le_trans (fW 0 _) (fW _ _)
theorem aOo (a b c d:Int):gp c d a b=gp a b c d:=by unfold gp mx;repeat' split<;>omega
def nr (a b c d:P3):Int:=gp a.1 b.1 c.1 d.1*gp a.1 b.1 c.1 d.1+gp a.2.1 b.2.1 c.2.1 d.2.1*gp a.2.1 b.2.1 c.2.1 d.2.1+gp a.2.2 b.2.2 c.2.2 d.2.2*gp a.2.2 b.2.2 c.2.2 d.2.2
def yY (c:PN):P3:=(lo3 c.1.1 c.2.1.1 c.2.2.1,lo3 c.1.2.1 c.2.1.2.1 c.2.2.2.1,lo3 c.1.2.2 c.2.1.2.2 c.2.2.2.2)
def yZ (c:PN):P3:=(hi3 c.1.1 c.2.1.1 c.2.2.1,hi3 c.1.2.1 c.2.1.2.1 c.2.2.2.1,hi3 c.1.2.2 c.2.1.2.2 c.2.2.2.2)
theorem aCp {m:Int} {c:PN} (h:bdP m c):bd m (yY c):=by
 have h1:=aGo c.1.1 c.2.1.1 c.2.2.1;have h2:=aGo c.1.2.1 c.2.1.2.1 c.2.2.2.1;have h3:=aGo c.1.2.2 c.2.1.2.2 c.2.2.2.2
 have ha:=h.1;have hb:=h.2.1;have hc:=h.2.2
 unfold bd at *;simp only [yY];omega
theorem aCq {m:Int} {c:PN} (h:bdP m c):bd m (yZ c):=by
 have h1:=aGp c.1.1 c.2.1.1 c.2.2.1;have h2:=aGp c.1.2.1 c.2.1.2.1 c.2.2.2.1;have h3:=aGp c.1.2.2 c.2.1.2.2 c.2.2.2.2
 have ha:=h.1;have hb:=h.2.1;have hc:=h.2.2
 unfold bd at *;simp only [yZ];omega
theorem aTm (c:PN):bC c=(yY c,yZ c):=rfl
theorem aMi {a b c d:Int} (ha:-5000<=a/\a<=5000)(hb:-5000<=b/\b<=5000)(hc:-5000<=c/\c<=5000)(hd:-5000<=d/\d<=5000):kR a b c d=gp a b c d:=by
 unfold kR
 rw [aJ (n:=c - b) (by omega) (by omega),aJ (n:=a - d) (by omega) (by omega)];rfl
theorem zA {a b c d:Int} (ha:-5000<=a/\a<=5000)(hb:-5000<=b/\b<=5000)(hc:-5000<=c/\c<=5000)(hd:-5000<=d/\d<=5000):0<=gp a b c d/\gp a b c d<=10000 :=
 ⟨aP3 _ _ _ _,nY (nY (by omega) (by omega)) (by omega)⟩
theorem nrF {a b c d:P3} (ha:bd 5000 a)(hb:bd 5000 b)(hc:bd 5000 c)(hd:bd 5000 d) :
   iT (kR a.1 b.1 c.1 d.1,kR a.2.1 b.2.1 c.2.1 d.2.1,kR a.2.2 b.2.2 c.2.2 d.2.2) (kR a.1 b.1 c.1 d.1,kR a.2.1 b.2.1 c.2.1 d.2.1,kR a.2.2 b.2.2 c.2.2 d.2.2)=nr a b c d:=by
 rw [aMi ha.1 hb.1 hc.1 hd.1,aMi ha.2.1 hb.2.1 hc.2.1 hd.2.1,aMi ha.2.2 hb.2.2 hc.2.2 hd.2.2]
 have h1:=zA ha.1 hb.1 hc.1 hd.1;have h2:=zA ha.2.1 hb.2.1 hc.2.1 hd.2.1;have h3:=zA ha.2.2 hb.2.2 hc.2.2 hd.2.2
 have hv:bd 1000000000 (gp a.1 b.1 c.1 d.1,gp a.2.1 b.2.1 c.2.1 d.2.1,gp a.2.2 b.2.2 c.2.2 d.2.2):=by unfold bd;simp only;omega
 rw [fdt hv hv];rfl
theorem aQ9 {c q:PN} (hc:bdP 5000 c)(hq:bdP 5000 q):cO c q=nr (yY c) (yZ c) (yY q) (yZ q):=by
 unfold cO
 rw [aTm,aTm]
 exact nrF (aCp hc) (aCq hc) (aCp hq) (aCq hq)
theorem oW (a b c:Int):dC [a,b,c]=(lo3 a b c,hi3 a b c):=rfl
theorem aMj {l m:List Int} {a b c d:Int} (hl:dC l=(a,b))(hm:dC m=(c,d))(ha:-5000<=a/\a<=5000)(hb:-5000<=b/\b<=5000)(hc:-5000<=c/\c<=5000)(hd:-5000<=d/\d<=5000) :
   fV l m=gp a b c d*gp a b c d:=by
 unfold fV
 rw [hl,hm]
 simp only
 rw [aJ (n:=a - d) (by omega) (by omega),aJ (n:=c - b) (by omega) (by omega)]
 have e:(if((if(0:Int) < a - d then a - d else 0):Int) < c - b then c - b else(if(0:Int) < a - d then a - d else 0))=gp a b c d:=aOo a b c d
 rw [e]
 have h1:=zA ha hb hc hd
 have h2:=cL (a:=10000) (b:=10000) (x:=gp a b c d) (y:=gp a b c d) (by omega) (by omega)
 exact aJ (by omega) (by omega)
theorem aRa {a b c:Int} (ha:0<=a/\a<=100000000)(hb:0<=b/\b<=100000000)(hc:0<=c/\c<=100000000):W ((W (a+b))+c)=a+b+c:=by
 rw [aJ (n:=a+b) (by omega) (by omega),aJ (by omega) (by omega)]
theorem aRb {c q:PN} (hc:bdP 5000 c)(hq:bdP 5000 q):kT c q=nr (yY c) (yZ c) (yY q) (yZ q):=by
 unfold kT
 have hl:=aCp hc;have hh:=aCq hc;have kl:=aCp hq;have kh:=aCq hq
 have g1:=aMj (l:=cK c 0) (m:=cK q 0) (oW c.1.1 c.2.1.1 c.2.2.1) (oW q.1.1 q.2.1.1 q.2.2.1) hl.1 hh.1 kl.1 kh.1
 have g2:=aMj (l:=cK c 1) (m:=cK q 1) (oW c.1.2.1 c.2.1.2.1 c.2.2.2.1) (oW q.1.2.1 q.2.1.2.1 q.2.2.2.1) hl.2.1 hh.2.1 kl.2.1 kh.2.1
 have g3:=aMj (l:=cK c 2) (m:=cK q 2) (oW c.1.2.2 c.2.1.2.2 c.2.2.2.2) (oW q.1.2.2 q.2.1.2.2 q.2.2.2.2) hl.2.2 hh.2.2 kl.2.2 kh.2.2
 have b1:=zA hl.1 hh.1 kl.1 kh.1;have b2:=zA hl.2.1 hh.2.1 kl.2.1 kh.2.1;have b3:=zA hl.2.2 hh.2.2 kl.2.2 kh.2.2
 have m1:=cL (a:=10000) (b:=10000) (by omega) (by omega) (x:=gp (yY c).1 (yZ c).1 (yY q).1 (yZ q).1) (y:=gp (yY c).1 (yZ c).1 (yY q).1 (yZ q).1)
 have m2:=cL (a:=10000) (b:=10000) (by omega) (by omega) (x:=gp (yY c).2.1 (yZ c).2.1 (yY q).2.1 (yZ q).2.1) (y:=gp (yY c).2.1 (yZ c).2.1 (yY q).2.1 (yZ q).2.1)
 have m3:=cL (a:=10000) (b:=10000) (by omega) (by omega) (x:=gp (yY c).2.2 (yZ c).2.2 (yY q).2.2 (yZ q).2.2) (y:=gp (yY c).2.2 (yZ c).2.2 (yY q).2.2 (yZ q).2.2)
 rw [show fV (cK c 0) (cK q 0)=_ from g1,show fV (cK c 1) (cK q 1)=_ from g2,show fV (cK c 2) (cK q 2)=_ from g3]
 exact aRa ⟨gR _,by have:=m1.2;exact this⟩ ⟨gR _,by have:=m2.2;exact this⟩ ⟨gR _,by have:=m3.2;exact this⟩
open Classical in
noncomputable def pk (p q:PN)(d:Int):Int:=if vp p=0 then(if vp q=0 then(if 0<=d/\d<=2 then 0 else 1) else vp q) else vp p
theorem aMk (v w:Int)(b:Prop) [Decidable b]:(bif (v != 0) then v else(bif (w != 0) then w else(bif (!(decide b)) then(1:Int) else 0)))=if v=0 then(if w=0 then(if b then 0 else 1) else w) else v:=by
 by_cases hv:v=0
 · subst hv
   by_cases hw:w=0
   · subst hw;by_cases hb:b<;>simp [hb]
   · rw [bne_iff_ne.2 hw,cond_true,if_neg hw];simp
 · rw [bne_iff_ne.2 hv,cond_true,if_neg hv]
theorem aIr (p q:PN)(d:Int):F46 p q d=pk p q d:=by
 unfold F46 pk
 rw [aKe,aKe,aKd,aMk]
theorem uJ (p q:PN)(d:Int):F55 p q d=pk p q d:=by
 unfold F55 pk
 rw [aL9,aL9,aGm,aMk]
theorem aIs {p q:PN} {d:Int} (h:pk p q d=0):vp p=0/\vp q=0/\0<=d/\d<=2:=by
 unfold pk at h
 split at h
 · rename_i h0
   split at h
   · rename_i h1
     split at h
     · rename_i h2;exact⟨h0,h1,h2⟩
     · cases h
   · rename_i h1;exact absurd h h1
 · rename_i h0;exact absurd h h0
theorem aIt {p q:PN} {d:Int} (h:((F46 p q d:Int) != 0)=false):vp p=0/\vp q=0/\0<=d/\d<=2 :=
 aIs (by rw [←aIr];simpa using h)
theorem aOp {p q:PN} {d:Int} (h:((F46 p q d:Int) != 0)=false):sH p=0:=by
 rw [aKe];exact(aIt h).1
theorem pair_le {p q:PN} {d:Int} (h:((F46 p q d:Int) != 0)=false):0<=d/\d<=3:=by have:=aIt h;omega
theorem aKf {p q:PN} {d:Int} (h:((F55 p q d:Int) != 0)=false):0<=d/\d<=3:=by
 have:=aIs (p:=p) (q:=q) (d:=d) (by rw [←uJ];simpa using h);omega
theorem aKg {p q:PN} {d:Int} (h:((F55 p q d:Int) != 0)=false):W (128*qQ (dB (nL p) (nL p)))≠0 :=
 aOk (by rw [aL9];exact(aIs (p:=p) (q:=q) (d:=d) (by rw [←uJ];simpa using h)).1)
def F25 (a0:Zt×Zt×Zt)(a1:Zt×Zt×Zt)(a2:Int):(Int×Int)×Int :=
 (bif (((F46 a0 a1 a2):Int) != 0) then
  ((0,0),(F46 a0 a1 a2))
 else
  ((F47 a0 ((pF a1.1 (W (1*2 ^ (min (toNat a2) 64)))),(pF a1.2.1 (W (1*2 ^ (min (toNat a2) 64)))),(pF a1.2.2 (W (1*2 ^ (min (toNat a2) 64))))) a2),0))
theorem C25 (a0:Zt×Zt×Zt)(a1:Zt×Zt×Zt)(a2:Int):Con Tryz.prog 25 [(.a (k9 a0)),(.a (k9 a1)),(iv a2)] [] (.t [(.a (k2 (F25 a0 a1 a2).1)),(iv (F25 a0 a1 a2).2)]) []:=by
 refine aO Tryz.func25 (by kernel_rfl) fun cx hcx=>?_
 let t0:List (St Tryz.prog):=[.c [] (C46 a0 a1 a2)]
 cases h0:(((F46 a0 a1 a2):Int) != 0) with
 | true =>
  have q0:=bne_iff_ne.1 h0
  have e:=Eq.refl (F25 a0 a1 a2);conv at e=>rhs;simp only [F25,h0,aS]
  rw [e]
  exact rt (t0++[.d h0]) [] [] hcx (by kernel_rfl)
 | false =>
  have q0:=bne_eq_false_iff_eq.1 h0
  have e:=Eq.refl (F25 a0 a1 a2);conv at e=>rhs;simp only [F25,h0,aS]
  rw [e]
  exact rt (t0++[.d h0,.p (show 0<=(a2:Int) from by exact(pair_le h0).1),.c [] (C48 a1.1 (W (1*2 ^ (min (toNat a2) 64)))),.c [] (C48 a1.2.1 (W (1*2 ^ (min (toNat a2) 64)))),.c [] (C48 a1.2.2 (W (1*2 ^ (min (toNat a2) 64)))),.c [] (C47 a0 ((pF a1.1 (W (1*2 ^ (min (toNat a2) 64)))),(pF a1.2.1 (W (1*2 ^ (min (toNat a2) 64)))),(pF a1.2.2 (W (1*2 ^ (min (toNat a2) 64))))) a2  (aOp h0) (pair_le h0))]) [] [] hcx (by kernel_rfl)
def F29 (a0:Zt×Zt×Zt)(a1:Zt×Zt×Zt)(a2:Int):(Int×Int)×Int :=
 (bif (((F55 a0 a1 a2):Int) != 0) then
  ((0,0),(F55 a0 a1 a2))
 else
  ((F56 a0 a2 ((aZ a1.1 (W (1*2 ^ (min (toNat (IntKind.wrap .u64 a2)) 64)))),(aZ a1.2.1 (W (1*2 ^ (min (toNat (IntKind.wrap .u64 a2)) 64)))),(aZ a1.2.2 (W (1*2 ^ (min (toNat (IntKind.wrap .u64 a2)) 64)))))),0))
theorem C29 (a0:Zt×Zt×Zt)(a1:Zt×Zt×Zt)(a2:Int):Con Tryz.prog 29 [(.a (k9 a0)),(.a (k9 a1)),(iv a2)] [] (.t [(.a (k2 (F29 a0 a1 a2).1)),(iv (F29 a0 a1 a2).2)]) []:=by
 refine aO Tryz.func29 (by kernel_rfl) fun cx hcx=>?_
 let t0:List (St Tryz.prog):=[.c [] (C55 a0 a1 a2)]
 cases h0:(((F55 a0 a1 a2):Int) != 0) with
 | true =>
  have q0:=bne_iff_ne.1 h0
  have e:=Eq.refl (F29 a0 a1 a2);conv at e=>rhs;simp only [F29,h0,aS]
  rw [e]
  exact rt (t0++[.d h0]) [] [] hcx (by kernel_rfl)
 | false =>
  have q0:=bne_eq_false_iff_eq.1 h0
  have e:=Eq.refl (F29 a0 a1 a2);conv at e=>rhs;simp only [F29,h0,aS]
  rw [e]
  exact rt (t0++[.d h0,.p (show 0<=((IntKind.wrap .u64 a2):Int) from by first | omega | (rw [aJ]<;>omega) | exact fG _),.c [] (C57 a1.1 (W (1*2 ^ (min (toNat (IntKind.wrap .u64 a2)) 64)))),.c [] (C57 a1.2.1 (W (1*2 ^ (min (toNat (IntKind.wrap .u64 a2)) 64)))),.c [] (C57 a1.2.2 (W (1*2 ^ (min (toNat (IntKind.wrap .u64 a2)) 64)))),.c [] (C56 a0 a2 ((aZ a1.1 (W (1*2 ^ (min (toNat (IntKind.wrap .u64 a2)) 64)))),(aZ a1.2.1 (W (1*2 ^ (min (toNat (IntKind.wrap .u64 a2)) 64)))),(aZ a1.2.2 (W (1*2 ^ (min (toNat (IntKind.wrap .u64 a2)) 64)))))  (aKf h0) (aKg h0))]) [] [] hcx (by kernel_rfl)
end Go.Proofs.YtmihafgemmgepaaGreat
namespace Go.Proofs.YtmihafgemmgepaaGreat
open Go.Proofs Go.Aw Go.RowKit
set_option maxRecDepth 100000
theorem aE4:∀(d:Nat) (p:PN),(dD d p).length=4 ^ d
 | 0,p=>rfl
 | d+1,p=>by
   rw [hO]
   have:∀l:List PN,(l.flatMap aCm).length=4*l.length:=fun l=>by
     induction l with
     | nil=>rfl
     | cons x l ih=>rw [List.flatMap_cons,List.length_append,ih];show 4+_=_;simp only [List.length_cons];omega
   rw [this,aE4 d p,Nat.pow_succ];omega
open Go.ChangeShapes Go.WideShapes Go.ChangeAt
def aE5 (P:Program)(ok:TypeId->Bool)(n:Nat):List Field->Nat->Bool
 | [],o=>o == n
 | f::l,o=>f.offset == o&&ok f.type&&aE5 P ok n l (o+P.cellsOf f.type)
def pS (P:Program):Nat->TypeId->Bool
 | 0,_=>false
 | k+1,t=>match P.underlying t with
   | some (.int .i64)=>true
   | some (.struct fs)=>aE5 P (pS P k) (P.cellsOf t) fs.toList 0
   | some (.array n e)=>pS P k e&&P.cellsOf t == n*P.cellsOf e
   | _=>false
section
variable {H : Type} {enc : TypeId × Value → H} {P : Program} {w : World} {base : Nat} {spare : Nat → Bool} {held : Bool}
theorem aBe {ok:TypeId->Bool} {n fuel:Nat} {cs:List Value}
   (hok:∀t cs x,ok t=true->DataW.trod enc P w base spare held fuel t cs=some x->x.2=[]/\∃ns:List Int,cs=ns.map (Value.int .i64)) (hn:cs.length=n) :
   ∀(l:List Field) (o:Nat) (ys:List (DataW H×List MemPlace)),aE5 P ok n l o=true->ys.length=l.length ->
     (∀(j:Nat) (f:Field),l[j]? = some f->DataW.trod enc P w base spare held fuel f.type ((cs.drop f.offset).take (P.cellsOf f.type))=ys[j]?) ->
     (∀y∈ys,y.2=[])/\∃ns:List Int,cs.drop o=ns.map (Value.int .i64)
 | [],o,ys,hc,hl,_=>by
   have:ys=[]:=List.length_eq_zero_iff.1 hl
   subst this
   simp only [aE5,beq_iff_eq] at hc
   exact⟨fun y hy=>by simp at hy,[],by rw [hc,←hn,List.drop_length];rfl⟩
 | f::l,o,ys,hc,hl,hf=>by
   cases ys with
   | nil=>simp at hl
   | cons y ys =>
     simp only [aE5,Bool.and_eq_true,beq_iff_eq] at hc
     obtain⟨⟨h1,h2⟩,h3⟩:=hc
     have g0:=hf 0 f rfl
     rw [h1] at g0
     obtain⟨e1,n1,e2⟩:=hok f.type _ y h2 g0
     obtain⟨e3,n2,e4⟩:=aBe hok hn l _ ys h3 (by simpa using hl) (fun j g hg=>hf (j+1) g hg)
     refine⟨fun z hz=>?_,n1++n2,?_⟩
     · rcases List.mem_cons.1 hz with rfl | hz
       · exact e1
       · exact e3 z hz
     · rw [List.map_append,←e2,←e4,←List.drop_drop,List.take_append_drop]
theorem mJ:∀(k:Nat) (t:TypeId) (fuel:Nat) (cs:List Value) (x:DataW H×List MemPlace),pS P k t=true->DataW.trod enc P w base spare held fuel t cs=some x ->
   x.2=[]/\∃ns:List Int,cs=ns.map (Value.int .i64)
 | 0,_,_,_,_,h,_=>by simp [pS] at h
 | k+1,t,fuel,cs,x,h,hx=>by
   unfold pS at h
   split at h
   · rename_i ht
     obtain⟨n,rfl,rfl,_⟩:=DataW.trod_int ht hx
     exact⟨rfl,[n],rfl⟩
   · rename_i fs ht
     obtain⟨xs,m,rfl,rfl,hl,hlen,hf⟩:=DataW.trod_struct ht hx
     obtain⟨e1,ns,e2⟩:=aBe (fun t cs x h hx=>mJ k t m cs x h hx) hl fs.toList 0 xs h (by simpa using hlen) (fun j f hj=>hf j f (by simpa using hj))
     refine⟨?_,ns,by simpa using e2⟩
     simp only
     induction xs with
     | nil=>rfl
     | cons y l _=>rw [List.flatMap_eq_nil_iff];exact e1
   · rename_i n e ht
     simp only [Bool.and_eq_true,beq_iff_eq] at h
     obtain⟨xs,m,rfl,rfl,hl,hlen,hf⟩:=DataW.trod_array ht hx
     have hi:∀i,i < n->∃y,xs[i]? = some y/\y.2=[]/\∃ns:List Int,(cs.drop (i*P.cellsOf e)).take (P.cellsOf e)=ns.map (Value.int .i64):=fun i hi=>by
       have h1:=hf i hi
       have hil:i < xs.length:=by rw [hlen];exact hi
       rw [List.getElem?_eq_getElem hil] at h1
       obtain⟨e1,e2⟩:=mJ k e m _ _ h.1 h1
       exact⟨_,List.getElem?_eq_getElem hil,e1,e2⟩
     refine⟨?_,?_⟩
     · simp only
       rw [List.flatMap_eq_nil_iff]
       intro y hy
       obtain⟨i,hy⟩:=List.getElem?_of_mem hy
       have hil:=(List.getElem?_eq_some_iff.1 hy).1
       obtain⟨y',h1,h2,_⟩:=hi i (by rw [←hlen];exact hil)
       rw [h1] at hy
       exact Option.some.inj hy▸h2
     · have key:∀j,j<=n->∃ns:List Int,cs.drop ((n - j)*P.cellsOf e)=ns.map (Value.int .i64):=by
         intro j
         induction j with
         | zero=>intro _;exact⟨[],by rw [Nat.sub_zero,←h.2,←hl,List.drop_length];rfl⟩
         | succ j ih =>
           intro hj
           obtain⟨n2,h2⟩:=ih (by omega)
           obtain⟨_,_,_,n1,h1⟩:=hi (n - (j+1)) (by omega)
           refine⟨n1++n2,?_⟩
           rw [List.map_append,←h1,←h2,show(n - j)*P.cellsOf e=(n - (j+1))*P.cellsOf e+P.cellsOf e by rw [show n - j=(n - (j+1))+1 by omega,Nat.add_mul,Nat.one_mul],←List.drop_drop,List.take_append_drop]
       obtain⟨ns,hns⟩:=key n (Nat.le_refl _)
       exact⟨ns,by simpa using hns⟩
   · cases h
theorem aKh {r:Reach} {b0:Nat} {t:TypeId} {fs:Array Field} {v:Value} {d:DataW H} {ps:List MemPlace} (ht:P.underlying t=some (.struct fs))(hf:pS P 6 t=true)
   (hval:Value.okWide P w r b0 t v) (hd:DataW.Trod enc P w base spare held t v d ps) :
   ps=[]/\∃ns:List Int,v=.agg (ns.map (Value.int .i64)).toArray/\ns.length=P.cellsOf t:=by
 obtain⟨cs,rfl,hs⟩:=okWide_struct ht hval
 obtain⟨fuel,hx⟩:=hd
 obtain⟨e1,ns,e2⟩:=mJ 6 t fuel _ _ hf hx
 have e3:cs=(ns.map (Value.int .i64)).toArray:=by
   have:cs.toList=ns.map (Value.int .i64):=by simpa [Value.cells] using e2
   rw [←this]
 refine⟨e1,ns,by rw [e3],?_⟩
 rw [←hs,e3];simp
end
theorem aCr {ρ:Env}:∀ns:List Int,Rels ρ (ns.map iv) (ns.map (Value.int .i64))
 | []=>trivial
 | n::l=>⟨rfl,aCr l⟩
theorem aOq {ρ:Env} (ns:List Int):Rel ρ (.a (ns.map iv)) (.agg (ns.map (Value.int .i64)).toArray):=⟨_,rfl,aCr ns⟩
theorem aGq {H:Type} {enc:TypeId×Value->H} {P:Program} {f:Func} {s:ChangeSpec} {apart fresh handsOn:Bool} {W W':World} {args:Array Value} {v:Value} {ds gs:List (DataW H)} {before:List MemPlace}
   (hW:DataW.Whole enc P f.params.toList s.vars apart W args.toList ds gs before) (hb:Below W.heap.size W W')
   (hres:∀(b:Nat) (sp:Nat->Bool) (hd:Bool),DataW.TrodAll enc P W' b sp hd f.resultTypes.toList (v.resultList f.resultTypes.size) (s.fn H (ds++gs)).results [])
   (hargs:DataW.TrodAll enc P W' 0 (fun b=>decide (b < W.heap.size)) true f.params.toList args.toList (s.fn H (ds++gs)).args before)
   (hvars:DataW.TrodVars enc P W' (fun b=>decide (b < W.heap.size)) s.vars (s.fn H (ds++gs)).vars []) :
   s.post enc P f apart fresh handsOn false W args v W' :=
 ⟨ds,gs,before,[],before,[],hW,hres _ _ _,hargs,hvars,hb.frame _,fun h=>by cases h⟩
theorem aGr {H:Type} {enc:TypeId×Value->H} {P:Program} {w:World} {base:Nat} {spare:Nat->Bool} {held:Bool} {t:TypeId} {ts:List TypeId} {v:Value} {vs:List Value} {d:DataW H} {ds:List (DataW H)} {p p':List MemPlace}
 (h:DataW.Trod enc P w base spare held t v d p) (h':DataW.TrodAll enc P w base spare held ts vs ds p'):DataW.TrodAll enc P w base spare held (t::ts) (v::vs) (d::ds) (p++p'):=⟨p,p',h,h',rfl⟩
theorem own:ownKnob Tryz.prog.godebug=none:=by kernel_rfl
theorem aIu:laidOutB Tryz.prog=true:=by kernel_rfl
end Go.Proofs.YtmihafgemmgepaaGreat
