/-
  TopBlocks: for every list of charged panels, every question and both ways the law returns true, and its arguments read behind the call as they read before. No condition.
-/
import Derived.Test.YtlckcjfbjnjfhaaGreatVPtb7
import Derived.ProofKit
import Derived.OpenShut
namespace Go.Proofs.YtlckcjfbjnjfhaaGreat
open Go.Proofs Go.Aw Go.RowKit
set_option maxRecDepth 100000
set_option linter.unusedVariables false
set_option linter.unusedSimpArgs false
/-! ### Arguments of mixed cells: numbers, truth values, slices of flat elements -/
open Go.ChangeShapes Go.WideShapes Go.ChangeAt
inductive CK where
 | i | b | s (es:Nat)
deriving DecidableEq
/-- what the cells of a type are -/
def yZ (P:Program):Nat->TypeId->Option (List CK)
 | 0,_=>none
 | k+1,t=>match P.underlying t with
  | some (.int .i64)=>some [.i]
  | some .bool=>some [.b]
  | some (.slice e)=>bif tA P 6 e then some [.s (P.cellsOf e)] else none
  | some (.struct fs)=>fs.toList.foldr (fun f r o=>bif f.offset == o then match yZ P k f.type with
   | some a=>bif a.length == P.cellsOf f.type then(r (o+P.cellsOf f.type)).map (a++·) else none
   | none=>none else none) (fun o=>bif o == P.cellsOf t then some [] else none) 0
  | _=>none
section
variable {H : Type} {enc : TypeId × Value → H} {P : Program} {w : World}
theorem aMp {e:TypeId} {t:TypeId} {v:Value} {fuel:Nat} {x:DataW H×List MemPlace} (ht:P.underlying t=some (.slice e))(hf:tA P 6 e=true)
 (hsp:∀a len cap,v=.slice (some a) len cap->a.spot=none) (hx:DataW.trod enc P w 0 (fun _=>true) true fuel t [v]=some x):∃nss,pI w (P.cellsOf e) v nss:=by
 rcases Go.Deep.open_slice ht hx with⟨hc,_⟩ | ⟨a',len',cap',m,n,D,Pl,hc,hb,hl,hm,hmm,_,hall⟩
 ·simp only [List.cons.injEq,and_true] at hc
  exact⟨[],fun ns h=>by simp at h,by simp,.inl ⟨hc,rfl⟩⟩
 ·simp only [List.cons.injEq,and_true] at hc
  subst hc
  have hsp:=hsp a' len' cap' rfl
  obtain⟨b,o,sp⟩:=a'
  simp only at hsp
  subst hsp
  simp only [if_true] at hmm
  obtain⟨N,hN⟩:=Go.Deep.choose_lt (α:=List Int) (p:=fun i ns=>ns.length=P.cellsOf e/\∀(q:Nat) (x:Value),(ns.map (Value.int .i64))[q]? = some x->w.cell? ⟨b,o+i*P.cellsOf e+q,none⟩=some x) (n:=len') (fun i hi=>by
   obtain⟨cs',h1,h2⟩:=hall i (by omega)
   obtain⟨_,ns,rfl⟩:=oF 6 e n cs' _ hf h2
   obtain⟨_,hlen,hcell⟩:=World.cells?_some h1
   refine⟨ns,by simpa using hlen,fun q x hq=>?_⟩
   have hq':=(List.getElem?_eq_some_iff.1 hq).1
   have:=hcell q (by rw [←hlen];omega)
   rw [Go.Aw.add_eq,Go.Aw.add_eq] at this
   rw [this,hq])
  refine⟨(List.range len').map N,fun ns h=>?_,?_,.inr ⟨b,o,cap',?_,?_,?_⟩⟩
  ·obtain⟨i,hi,rfl⟩:=List.mem_map.1 h
   exact(hN i (by simpa using hi)).1
  ·have:maxLen=9223372036854775807:=rfl
   simp;omega
  ·simp
  ·simpa using hl
  ·refine uL (es:=P.cellsOf e) _ o (fun j ns hj=>?_)
   have hjl:=(List.getElem?_eq_some_iff.1 hj).1
   simp only [List.length_map,List.length_range] at hjl
   have:N j=ns:=by simpa [hjl] using hj
   subst this
   exact hN j hjl
def aU0 (w:World):CK->Value->Prop
 | .i,v=>∃n:Int,v=.int .i64 n
 | .b,v=>∃x:Bool,v=.bool x
 | .s es,v=>∃nss,pI w es v nss
def CellsAre (w:World):List CK->List Value->Prop
 | [],[]=>True
 | k::ks,v::vs=>aU0 w k v/\CellsAre w ks vs
 | _,_=>False
theorem CellsAre.app:∀{ks ks':List CK} {vs vs':List Value},CellsAre w ks vs->CellsAre w ks' vs'->CellsAre w (ks++ks') (vs++vs')
 | [],_,[],_,_,h=>h
 | [],_,_::_,_,h,_=>h.elim
 | _::_,_,[],_,h,_=>h.elim
 | _::_,_,_::_,_,⟨h1,h2⟩,h=>⟨h1,CellsAre.app h2 h⟩
theorem aDw:∀(k:Nat) (t:TypeId) (ks:List CK) (fuel:Nat) (cs:List Value) (x:DataW H×List MemPlace),yZ P k t=some ks ->
 (∀v∈cs,∀a len cap,v=.slice (some a) len cap->a.spot=none)->DataW.trod enc P w 0 (fun _=>true) true fuel t cs=some x->CellsAre w ks cs
 | 0,_,_,_,_,_,h,_,_=>by simp [yZ] at h
 | k+1,t,ks,fuel,cs,x,h,hsp,hx=>by
  unfold yZ at h
  split at h
  ·rename_i ht
   obtain⟨n,rfl,rfl,_⟩:=DataW.trod_int ht hx
   obtain rfl:[CK.i]=ks:=Option.some.inj h
   exact⟨⟨n,rfl⟩,trivial⟩
  ·rename_i ht
   obtain⟨n,rfl,rfl⟩:=DataW.trod_bool ht hx
   obtain rfl:[CK.b]=ks:=Option.some.inj h
   exact⟨⟨n,rfl⟩,trivial⟩
  ·rename_i e ht
   cases hf:tA P 6 e with
   | false=>rw [hf] at h;cases h
   | true =>
    rw [hf] at h
    obtain rfl:[CK.s (P.cellsOf e)]=ks:=Option.some.inj h
    have:∃v,cs=[v]:=by
     rcases Go.Deep.open_slice ht hx with⟨hc,_⟩ | ⟨a',len',cap',m,n,D,Pl,hc,_⟩<;>exact⟨_,hc⟩
    obtain⟨v,rfl⟩:=this
    exact⟨aMp ht hf (hsp v List.mem_cons_self) hx,trivial⟩
  ·rename_i fs ht
   obtain⟨xs,m,rfl,rfl,hl,hlen,hF⟩:=DataW.trod_struct ht hx
   have key:∀(l:List Field) (o:Nat) (ks:List CK),
    l.foldr (fun f r o=>bif f.offset == o then match yZ P k f.type with
     | some a=>bif a.length == P.cellsOf f.type then(r (o+P.cellsOf f.type)).map (a++·) else none
     | none=>none else none) (fun o=>bif o == P.cellsOf t then some [] else none) o=some ks ->
    (∀f∈l,∃y,DataW.trod enc P w 0 (fun _=>true) true m f.type ((cs.drop f.offset).take (P.cellsOf f.type))=some y)->CellsAre w ks (cs.drop o):=by
    intro l
    induction l with
    | nil =>
     intro o ks h _
     simp only [List.foldr_nil] at h
     cases ho:o == P.cellsOf t with
     | false=>rw [ho] at h;cases h
     | true =>
      rw [ho] at h
      obtain rfl:[]=ks:=Option.some.inj h
      rw [beq_iff_eq.1 ho,←hl,List.drop_length];trivial
    | cons f l ih =>
     intro o ks h hy
     simp only [List.foldr_cons] at h
     cases ho:f.offset == o with
     | false=>rw [ho] at h;cases h
     | true =>
      rw [ho] at h
      simp only [cond_true] at h
      split at h
      ·rename_i a ha
       cases hc:a.length == P.cellsOf f.type with
       | false=>rw [hc] at h;cases h
       | true =>
        rw [hc] at h
        simp only [cond_true,Option.map_eq_some_iff] at h
        obtain⟨ks',h1,rfl⟩:=h
        obtain⟨y,hy0⟩:=hy f List.mem_cons_self
        rw [beq_iff_eq.1 ho] at hy0
        have g1:=aDw k f.type a m _ y ha (fun v hv=>hsp v (List.mem_of_mem_drop (List.mem_of_mem_take hv))) hy0
        have g2:=ih _ _ h1 (fun f' hf'=>hy f' (List.mem_cons_of_mem _ hf'))
        have:=g1.app g2
        rwa [←List.drop_drop,List.take_append_drop] at this
      ·cases h
   have:=key fs.toList 0 ks h (fun f hf=>by
    obtain⟨i,hi⟩:=List.getElem?_of_mem hf
    have:=hF i f (by simpa using hi)
    have hil:i < xs.length:=by rw [hlen];have:=(List.getElem?_eq_some_iff.1 hi).1;simpa using this
    rw [List.getElem?_eq_getElem hil] at this
    exact⟨_,this⟩)
   simpa using this
  ·cases h
theorem aQk {r:Reach} {b0:Nat} {u:TypeId} {a:Addr} {len cap:Nat} (h:Cell.okWide P w r b0 u (.slice (some a) len cap)):a.spot=none:=by
 unfold Cell.okWide at h
 split at h<;>try (exact h.elim)
 all_goals try (simp_all;done)
 unfold Cell.ok at h
 split at h<;>simp_all [World.has]
theorem bBn {r:Reach} {b0:Nat} {t:TypeId} {fs:Array Field} {v:Value} {d:DataW H} {ps:List MemPlace} (ks:List CK)(ht:P.underlying t=some (.struct fs))(hk:yZ P 6 t=some ks)
 (hval:Value.okWide P w r b0 t v) (hd:DataW.Trod enc P w 0 (fun _=>true) true t v d ps):(∃cs,v=.agg cs.toArray/\CellsAre w ks cs)/\∀x∈ps,x.block < w.heap.size:=by
 obtain⟨fuel,hx⟩:=hd
 refine⟨?_,DataW.trod_lt fuel t _ _ hx⟩
 simp only [Value.okWide,ht] at hval
 obtain⟨cs,rfl,hs,ts,_,_,hall⟩:=hval
 refine⟨cs.toList,by simp,aDw 6 t ks fuel _ _ hk (fun v hv a len cap e=>?_) (by simpa [Value.cells] using hx)⟩
 obtain⟨i,hi⟩:=List.getElem?_of_mem hv
 obtain⟨u,_,hu⟩:=hall i v (by simpa using hi)
 subst e
 exact aQk hu
theorem bBo {k:CK} {ks:List CK} {cs:List Value} (h:CellsAre w (k::ks) cs):∃v vs,cs=v::vs/\aU0 w k v/\CellsAre w ks vs:=by
 cases cs with
 | nil=>exact h.elim
 | cons v vs=>exact⟨v,vs,rfl,h.1,h.2⟩
theorem bBq {cs:List Value} (h:CellsAre w [] cs):cs=[]:=by
 cases cs with
 | nil=>rfl
 | cons v vs=>exact h.elim
end
/-- slices that are handed over: size of an element, value, what they hold -/
def bEk (l:List (Nat×Value×List (List Int))):Env:=⟨fun k=>match l[k]? with
 | some x=>rho x.1 x.2.1
 | none=>none,fun _=>none⟩
theorem bBp {P:Program} {f:Nat} {args:List SV} {vs:List Value} {x:Value} {W:World} (l:List (Nat×Value×List (List Int)))
 (hc:Con P f args (l.map fun y=>.live false true ((y.2.2.flatten).map iv)) (.v x) []) (hs:∀y∈l,pI W y.1 y.2.1 y.2.2) (hr:Rels (bEk l) args vs) :
 Calls P f vs.toArray W fun e W'=>e=.returned x/\Below W.heap.size W W':=by
 have hget:∀i,((l.map fun y=>BK.live false true ((y.2.2.flatten).map iv)).getD i .un=.un)\/∃y,l[i]? = some y/\(l.map fun y=>BK.live false true ((y.2.2.flatten).map iv)).getD i .un=.live false true ((y.2.2.flatten).map iv):=by
  intro i
  rw [List.getD_eq_getElem?_getD,List.getElem?_map]
  cases h:l[i]? with
  | none=>exact .inl rfl
  | some y=>exact .inr ⟨y,rfl,rfl⟩
 refine aCn hc _ hr (fun i=>?_) (fun hM i=>?_) (fun i=>?_) (fun _=>rfl)
 ·rcases hget i with h | ⟨y,_,h⟩<;>rw [h]<;>simp [BK.own]
 ·rcases hget i with h | ⟨y,h1,h⟩
  ·rw [h];simp [BRep]
  ·rw [h]
   exact aCm (hs y (List.mem_of_getElem? h1)) (by simp only [bEk,h1]) hM
 ·rcases hget i with h | ⟨y,_,h⟩
  ·rw [h];simp [BK.pl]
  ·rw [h];exact xU _
open Go.ChangeShapes Go.WideShapes Go.ChangeAt
theorem aDx {l:List Int} (h:l.length=7):∃a0 a1 a2 a3 a4 a5 a6,l=[a0,a1,a2,a3,a4,a5,a6]:=by
 match l,h with
 | [a0,a1,a2,a3,a4,a5,a6],_=>exact⟨a0,a1,a2,a3,a4,a5,a6,rfl⟩
theorem aAn {l:List Int} (h:l.length=10):∃a0 a1 a2 a3 a4 a5 a6 a7 a8 a9,l=[a0,a1,a2,a3,a4,a5,a6,a7,a8,a9]:=by
 match l,h with
 | [a0,a1,a2,a3,a4,a5,a6,a7,a8,a9],_=>exact⟨a0,a1,a2,a3,a4,a5,a6,a7,a8,a9,rfl⟩
def rM (ns:List Int):((Int×Int×Int)×(Int×Int×Int)×Int×Int×Int)×Int:=((((ns.getD 0 0),(ns.getD 1 0),(ns.getD 2 0)),((ns.getD 3 0),(ns.getD 4 0),(ns.getD 5 0)),((ns.getD 6 0),(ns.getD 7 0),(ns.getD 8 0))),(ns.getD 9 0))
theorem aAo (ns:List Int)(h:ns.length=10):fK (rM ns)=ns.map iv:=by
 obtain⟨a0,a1,a2,a3,a4,a5,a6,a7,a8,a9,rfl⟩:=aAn h
 rfl
set_option maxRecDepth 100000 in
theorem zA (os:Os)(started:os.Started)(H:Type)(enc:TypeId×Value->H) :
 ReturnsInHanded {} Tryz.checked os 4 .any (Rows.topBlocksSpec.pre6 enc Tryz.prog Tryz.f4 Rows.topBlocksRow.domain false) (Rows.topBlocksSpec.post enc Tryz.prog Tryz.f4 false true false false):=by
 refine returnsInHanded_of_change (C:=Tryz.checked) own started (by kernel_rfl) Tryz.func4
  (ChangeSpec.witness6 (enc:=enc) (C:=Tryz.checked) false ⟨#[],#[.slice none 0 0,.agg #[.int .i64 0,.int .i64 0,.int .i64 0,.int .i64 0,.int .i64 0,.int .i64 0,.int .i64 0],.bool false],[]⟩ 8 (by kernel_rfl) (by kernel_rfl) (by kernel_rfl) (by kernel_rfl)) ?_
 intro W base args ds gs before hval0 hW hcnd _
 have hval:∀(j:Nat) t v,Tryz.f4.params[j]? = some t->args[j]? = some v->Value.okWide Tryz.prog W .any base t v:=hval0
 have hW':=hW
 obtain⟨p,q,hA0,hV,rfl,hfz,hnd⟩:=hW
 have hA:DataW.TrodAll enc Tryz.prog W 0 (fun _=>true) true Tryz.f4.params.toList args.toList ds p:=hA0
 rw [Tryz.params4] at hA hval
 obtain⟨v0,vs0,d0,ds0,p0,q0,hargs,rfl,rfl,h0,r0⟩:=trodAll_cons hA
 obtain⟨v1,vs1,d1,ds1,p1,q1,rfl,rfl,rfl,h1,r1⟩:=trodAll_cons r0
 obtain⟨v2,vs2,d2,ds2,p2,q2,rfl,rfl,rfl,h2,r2⟩:=trodAll_cons r1
 obtain⟨rfl,rfl,rfl⟩:=trodAll_nil r2
 obtain rfl:args=#[v0,v1,v2]:=by cases args;simp_all
 obtain⟨rfl,rfl⟩:=trodVars_none hV
 obtain⟨⟨nss0,s0⟩,b0⟩:=aPs Tryz.underlying22 (by kernel_rfl) (show Tryz.prog.cellsOf 57=10 from by kernel_rfl) (hval 0 22 v0 rfl rfl) h0
 obtain⟨rfl,ns1,rfl,l1⟩:=aPq Tryz.underlying26 (by kernel_rfl) (hval 1 26 v1 rfl rfl) h1
 rw [show Tryz.prog.cellsOf 26=7 from by kernel_rfl] at l1
 obtain⟨x1_0,x1_1,x1_2,x1_3,x1_4,x1_5,x1_6,rfl⟩:=aDx l1
 obtain⟨x2,rfl,rfl,rfl⟩:=Go.RowKit.open_bool Tryz.underlying4 (hval 2 4 v2 rfl rfl) h2
 clear hA0 hval0 hval hA
 simp only [List.append_nil,List.nil_append] at hW'
 have hC:Con Tryz.prog 4 [.s 0 0 nss0.length 10,.a ([x1_0,x1_1,x1_2,x1_3,x1_4,x1_5,x1_6].map iv),.v (.bool x2)] [.live false true ((nss0.flatten).map iv)] (.v (.bool true)) []:=by
  have h:=bFr (nss0.map rM) (x1_0,(x1_1,x1_2,x1_3),x1_4,x1_5,x1_6) x2 (by rw [List.length_map];exact s0.2.1)
  rw [aJ7,aNm aAo s0.1] at h
  simp only [List.length_map] at h
  exact h
 refine(aLf (vs:=[v0,.agg ([x1_0,x1_1,x1_2,x1_3,x1_4,x1_5,x1_6].map (Value.int .i64)).toArray,.bool x2]) hC s0 ⟨aPt s0 rfl,aVn [x1_0,x1_1,x1_2,x1_3,x1_4,x1_5,x1_6],rfl,trivial⟩).mono fun e W' ⟨he,hb⟩=>?_
 subst he
 have hargs2:=(aGe (Below.trod aGf (by kernel_rfl) (of_decide_eq_true (by kernel_rfl)) h0 hb b0) (aGe (Below.trod aGf (by kernel_rfl) (of_decide_eq_true (by kernel_rfl)) h1 hb (fun x hx=>by cases hx)) (aGe (Below.trod aGf (by kernel_rfl) (of_decide_eq_true (by kernel_rfl)) h2 hb (fun x hx=>by cases hx)) trodAll_mk0)))
 simp only [List.append_nil,List.nil_append] at hargs2
 exact⟨_,rfl,aK5 hW' hb (fun _ _ _=>(aGe (shut_bool Tryz.underlying4 _) trodAll_mk0)) hargs2 rfl⟩
theorem aDy:Rows.topBlocksRow.holds Tryz.pinned (OpenSpec.ofChange Rows.topBlocksSpec) :=
 OpenClaim.holds_of_wide 4 Tryz.f4 rfl rfl rfl rfl rfl rfl rfl ⟨rfl,rfl,rfl,rfl,rfl⟩ rfl rfl rfl rfl rfl (by kernel_rfl) Tryz.func4 (by kernel_rfl)
  (of_decide_eq_true (by kernel_rfl)) (by unfold Func.isWrapper;first | (rw [if_pos (by decide +kernel)];kernel_rfl) | (rw [if_neg (by decide +kernel)];exact⟨rfl,rfl⟩))
  (fun os started H enc _=>zA os started H enc)
/-- THE STATEMENT -/
theorem topBlocks_proved:Rows.TopBlocksSaid :=
 aDy
end Go.Proofs.YtlckcjfbjnjfhaaGreat
