/-
  Parts of the proofs of the laws: the executor, what functions of the program compute, and that it is what the statements ask. No premise.
-/
import Derived.Below
import Derived.OrdersIn
import Derived.LoopNIn
import Derived.KernelRfl
import Derived.Laws.Sem
import Derived.Laws.StructEq
import Derived.WalkKit
import Derived.ChangeKeysEq
import Derived.Lib.SliceRun
import Derived.Laws.Cover3
import Derived.Laws.AppendOwn
import Derived.MapKept
import Derived.Laws.MakeOwn
set_option linter.unusedVariables false
set_option linter.unusedSimpArgs false
set_option maxHeartbeats 4000000
namespace Go.Aw
abbrev Zt:=Int×Int×Int
abbrev Zm:=List Zt×List Zt
abbrev Zs:=Int×Int
abbrev ZL:=List Int
abbrev jY:=Int×Int×Zt×Int×Int×Int×Zt
end Go.Aw
namespace Go.Aw
abbrev bV:=List (((Int×Int×Int)×(Int×Int×Int)×Int×Int×Int)×Int)
abbrev cV:=List (Int×Int×Int×Int×(Int×Int×Int)×Int)
abbrev eG:=bV×Int×List (Int)×cV
abbrev TyS:=eG×Int
theorem Ls:(∀{α:Type} {a b:List α},(a++b).length=a.length+b.length)/\(∀{α:Type} {a:α} {b:List α},(a::b).length=b.length+1)/\(∀{α:Type},([]:List α).length=0)/\Int.toNat 0=0:=⟨List.length_append,List.length_cons,List.length_nil,Int.toNat_zero⟩
theorem Lt:(∀{α:Type} {a b:List α},(a++b).length=a.length+b.length)/\(∀{α:Type} {a:α} {b:List α},(a::b).length=b.length+1)/\(∀{α:Type},([]:List α).length=0)/\Int.toNat 0=0/\(∀{α:Type} {a:List α} {i:Nat} {x:α},(a.set i x).length=a.length):=⟨List.length_append,List.length_cons,List.length_nil,Int.toNat_zero,List.length_set⟩
theorem iF {p:Prop} [i:Decidable p] (h:decide p=false):¬p:=of_decide_eq_false h
theorem eS {p:Prop} [i:Decidable p] (h:decide p=true):p:=of_decide_eq_true h
theorem bX {p:Prop} [i:Decidable p] (h:p):decide p=true:=decide_eq_true h
theorem cA {p:Prop} [i:Decidable p] (h:¬p):decide p=false:=decide_eq_false h
theorem vF:(∀{α:Type} {a b:α},(bif true then a else b)=a)/\(∀{α:Type} {a b:α},(bif false then a else b)=b):=⟨cond_true ..,cond_false ..⟩
theorem iB (n:Nat):Int.toNat (n:Int)=n:=Int.toNat_natCast n
theorem gS {α:Type} {l:List α} {i:Nat} {a:α}:l.getD i a=(l[i]?).getD a:=List.getD_eq_getElem?_getD ..
theorem lss (n:Nat):n < n+1:=Nat.lt_succ_self n
theorem bG {α:Type _} (a b:α):(some a=some b)=(a=b):=Option.some.injEq a b
theorem eA {α:Type _} {β:Type _} (a:α)(b:β)(c:α)(d:β):((a,b)=(c,d))=(a=c/\b=d):=Prod.mk.injEq a b c d
theorem dX (n:Nat):¬n < 0:=Nat.not_lt_zero n
theorem Nb {n m:Nat} (h:Nat.ble n m=true):n<=m:=Nat.le_of_ble_eq_true h
theorem oM {p:Prop} (h:p:=by omega):p:=h
theorem oL {p:Prop} (h:p:=by first | omega | (simp only [Lt];omega)):p:=h
theorem oR {p:Prop} (h:p:=by and_intros<;>(try simp only [Ls])<;>first | omega | assumption | simp):p:=h
theorem oK {p:Prop} (h:p:=by kernel_rfl):p:=h
end Go.Aw
open Int renaming toNat → tN
open Inhabited renaming default → dF
open Go.IntKind renaming wrap → iW
open BitVec renaming ofInt → bO
open Int renaming tdiv → tD
open Int renaming fdiv → fD
open Int renaming tmod → mD
namespace Go.Aw
open Go.RowKit
abbrev FC:=Array Value×TypeId×(Nat×Nat)
def FC.obj (o:FC):Obj:=.cells o.1 o.2.1 o.2.2
structure Env where
 loc:Nat->Option (Nat×Nat×Nat)
 fz:Nat->Option FC:=fun _=>none
instance:CoeFun Env (fun _=>Nat->Option (Nat×Nat×Nat)):=⟨Env.loc⟩
def Env.set (ρ:Env)(k:Nat)(v:Option (Nat×Nat×Nat)):Env:=⟨fun j=>if j=k then v else ρ j,ρ.fz⟩
def Env.bare (ρ:Env):Env:=⟨fun _=>none,ρ.fz⟩
@[simp] theorem Env.set_loc (ρ:Env) (k:Nat) (v:Option (Nat×Nat×Nat)) (j:Nat):(ρ.set k v).loc j=if j=k then v else ρ.loc j:=rfl
@[simp] theorem Env.set_fz (ρ:Env) (k:Nat) (v:Option (Nat×Nat×Nat)):(ρ.set k v).fz=ρ.fz:=rfl
@[simp] theorem Env.bare_loc (ρ:Env) (j:Nat):ρ.bare.loc j=none:=rfl
@[simp] theorem Env.bare_fz (ρ:Env):ρ.bare.fz=ρ.fz:=rfl
@[simp] theorem Env.mk_loc (f:Nat->Option (Nat×Nat×Nat)) (g:Nat->Option FC) (j:Nat):(Env.mk f g).loc j=f j:=rfl
inductive SV where
 | u
 | b (x:Bool)
 | v (x:Value)
 | p (k off:Nat)
 | s (k off len es:Nat)
 | d (cells:List SV) (len es:Nat)
 | m (k:Nat)
 | f (g:Nat) (caps:List SV)
 | a (l:List SV)
 | t (l:List SV)
def iv (n:Int):SV:=.v (.int .i64 n)
def fnV (g:Nat)(vs:List Value):Value:=if g < 1000000 then .func (.func g) #[] vs.toArray else .func (.func (g - 1000000)) vs.toArray #[]
theorem aLe {g:Nat} (h:g < 1000000)(vs:List Value):fnV g vs=.func (.func g) #[] vs.toArray:=if_pos h
theorem aX9 (g:Nat)(vs:List Value):fnV (g+1000000) vs=.func (.func g) vs.toArray #[]:=by
 unfold fnV;rw [if_neg oM,Nat.add_sub_cancel]
mutual
def Rel (ρ:Env):SV->Value->Prop | .u,_=>True | .b x,y=>y=.bool x | .v x,y=>y=x | .p k off,y=>∃b o n,ρ k=some (b,o,n)/\y=.pointer (some ⟨b,o+off,none⟩) | .s k off len es,y=>(ρ k=none/\len=0/\y=.slice none 0 0) \/ (∃b o n cap off' sp,ρ k=some (b,o,n)/\y=.slice (some ⟨b,o+off',sp⟩) len cap/\len<=cap/\off'+cap*es<=n/\(cap≠0->off'=off/\sp=none)) | .d cells len es,y=>(len=0/\cells=[]/\∃a:Option Addr,y=.slice a 0 0) \/ (∃(b o cap:Nat) (c:Array Value) (ty:TypeId) (fr:Nat×Nat) (vs:List Value),y=.slice (some ⟨b,o,none⟩) len cap/\len<=cap/\ρ.fz b=some (c,ty,fr)/\Rels ⟨fun _=>none,ρ.fz⟩ cells vs/\vs.length=len*es/\∀(i:Nat) (x:Value),vs[i]? = some x->c[o+i]? = some x) | .m k,y=>∃b o n,ρ k=some (b,o,n)/\y=.map (some b) | .f g caps,y=>∃vs:List Value,y=fnV g vs/\Rels ρ caps vs | .a l,y=>∃vs:List Value,y=.agg vs.toArray/\Rels ρ l vs | .t l,y=>∃vs:List Value,y=.tuple vs.toArray/\Rels ρ l vs
def Rels (ρ:Env):List SV->List Value->Prop | [],[]=>True | x::l,y::m=>Rel ρ x y/\Rels ρ l m | _,_=>False
end
mutual
def SV.has (k:Nat):SV->Prop | .p j _=>j=k | .s j _ _ _=>j=k | .m j=>j=k | .f _ caps=>SV.hasl k caps | .a l=>SV.hasl k l | .t l=>SV.hasl k l | _=>False
def SV.hasl (k:Nat):List SV->Prop | []=>False | x::l=>SV.has k x\/SV.hasl k l
end
theorem eP {k:Nat} {l:List SV}:SV.hasl k l↔∃x∈l,SV.has k x:=by
 induction l with
 | nil=>simp [SV.hasl]
 | cons x l ih=>simp [SV.hasl,ih]
mutual
theorem Rel.congr' {ρ ρ':Env}:∀(x:SV) (y:Value),(∀b o,ρ.fz b=some o->ρ'.fz b=some o)->(∀k,x.has k->ρ' k=ρ k)->Rel ρ x y->Rel ρ' x y
 | .u,_,_,_,_=>by simp [Rel]
 | .b x,y,_,_,h=>by simpa [Rel] using h
 | .v x,y,_,_,h=>by simpa [Rel] using h
 | .p k off,y,_,he,h=>by
  simp only [Rel] at h ⊢;rw [he k (by simp [SV.has])];exact h
 | .s k off len es,y,_,he,h=>by
  simp only [Rel] at h ⊢;rw [he k (by simp [SV.has])];exact h
 | .d cells len es,y,hf,he,h=>by
  simp only [Rel] at h ⊢;rcases h with h | ⟨b,o,cap,c,ty,fr,vs,h1,h2,h3,h4,h5⟩
  ·exact .inl h
  ·exact .inr ⟨b,o,cap,c,ty,fr,vs,h1,h2,hf _ _ h3,Rels.congr' (ρ:=⟨fun _=>none,ρ.fz⟩) (ρ':=⟨fun _=>none,ρ'.fz⟩) cells vs hf (fun _ _=>rfl) h4,h5⟩
 | .m k,y,_,he,h=>by
  simp only [Rel] at h ⊢;rw [he k (by simp [SV.has])];exact h
 | .f g caps,y,hf,he,h=>by
  simp only [Rel] at h ⊢;obtain⟨vs,hy,h⟩:=h;exact⟨vs,hy,Rels.congr' caps vs hf (fun k hk=>he k (by simpa [SV.has] using hk)) h⟩
 | .a l,y,hf,he,h=>by
  simp only [Rel] at h ⊢;obtain⟨vs,hy,h⟩:=h;exact⟨vs,hy,Rels.congr' l vs hf (fun k hk=>he k (by simpa [SV.has] using hk)) h⟩
 | .t l,y,hf,he,h=>by
  simp only [Rel] at h ⊢;obtain⟨vs,hy,h⟩:=h;exact⟨vs,hy,Rels.congr' l vs hf (fun k hk=>he k (by simpa [SV.has] using hk)) h⟩
theorem Rels.congr' {ρ ρ':Env}:∀(l:List SV) (m:List Value),(∀b o,ρ.fz b=some o->ρ'.fz b=some o)->(∀k,SV.hasl k l->ρ' k=ρ k)->Rels ρ l m->Rels ρ' l m
 | [],[],_,_,_=>by simp [Rels]
 | [],_::_,_,_,h=>by simp [Rels] at h
 | _::_,[],_,_,h=>by simp [Rels] at h
 | x::l,y::m,hf,he,h=>by
  simp only [Rels] at h ⊢;exact⟨Rel.congr' x y hf (fun k hk=>he k (by simp [SV.hasl,hk])) h.1,Rels.congr' l m hf (fun k hk=>he k (by simp [SV.hasl,hk])) h.2⟩
end
def Env.le (ρ ρ':Env):Prop:=∀b o,ρ.fz b=some o->ρ'.fz b=some o
theorem Env.le_refl (ρ:Env):ρ.le ρ:=fun _ _ h=>h
theorem Env.le_set (ρ:Env)(k:Nat)(v:Option (Nat×Nat×Nat)):ρ.le (ρ.set k v):=fun _ _ h=>h
theorem Rel.congr {ρ ρ':Env} (hf:ρ.le ρ')(x:SV)(y:Value)(he:∀k,x.has k->ρ' k=ρ k)(h:Rel ρ x y):Rel ρ' x y:=Rel.congr' x y hf he h
theorem Rels.congr {ρ ρ':Env} (hf:ρ.le ρ')(x:List SV)(y:List Value)(he:∀k,SV.hasl k x->ρ' k=ρ k)(h:Rels ρ x y):Rels ρ' x y:=Rels.congr' x y hf he h
theorem Rels.length {ρ:Env}:∀{l:List SV} {m:List Value},Rels ρ l m->l.length=m.length
 | [],[],_=>rfl
 | [],_::_,h=>by simp [Rels] at h
 | _::_,[],h=>by simp [Rels] at h
 | _::l,_::m,h=>by simp only [Rels] at h;simp [Rels.length h.2]
theorem Rels.get {ρ:Env}:∀{l:List SV} {m:List Value} (i:Nat) {x:SV},Rels ρ l m->l[i]? = some x->∃y,m[i]? = some y/\Rel ρ x y
 | [],_,i,_,_,hx=>by simp at hx
 | _::_,[],_,_,h,_=>by simp [Rels] at h
 | x::l,y::m,0,_,h,hx=>by
  simp only [Rels] at h;simp at hx;subst hx;exact⟨y,by simp,h.1⟩
 | x::l,y::m,i+1,_,h,hx=>by
  simp only [Rels] at h;simp at hx;obtain⟨y',hy,hr⟩:=Rels.get i h.2 hx;exact⟨y',by simpa using hy,hr⟩
theorem Rels.append {ρ:Env}:∀{l l':List SV} {m m':List Value},Rels ρ l m->Rels ρ l' m'->Rels ρ (l++l') (m++m')
 | [],_,[],_,_,h=>h
 | [],_,_::_,_,h,_=>by simp [Rels] at h
 | _::_,_,[],_,h,_=>by simp [Rels] at h
 | _::l,_,_::m,_,h,h'=>by
  simp only [Rels] at h;simp only [List.cons_append,Rels];exact⟨h.1,Rels.append h.2 h'⟩
theorem Rels.take {ρ:Env}:∀{l:List SV} {m:List Value} (n:Nat),Rels ρ l m->Rels ρ (l.take n) (m.take n)
 | [],[],n,_=>by simp [Rels]
 | [],_::_,_,h=>by simp [Rels] at h
 | _::_,[],_,h=>by simp [Rels] at h
 | _::_,_::_,0,_=>by simp [Rels]
 | _::l,_::m,n+1,h=>by
  simp only [Rels] at h;simp only [List.take_succ_cons,Rels];exact⟨h.1,Rels.take n h.2⟩
theorem Rels.drop {ρ:Env}:∀{l:List SV} {m:List Value} (n:Nat),Rels ρ l m->Rels ρ (l.drop n) (m.drop n)
 | [],[],n,_=>by simp [Rels]
 | [],_::_,_,h=>by simp [Rels] at h
 | _::_,[],_,h=>by simp [Rels] at h
 | _::_,_::_,0,h=>h
 | _::l,_::m,n+1,h=>by
  simp only [Rels] at h;simp only [List.drop_succ_cons];exact Rels.drop n h.2
theorem Rels.vals {ρ:Env}:∀(l:List Value),Rels ρ (l.map .v) l
 | []=>by simp [Rels]
 | x::l=>by simp only [List.map_cons,Rels,Rel];exact⟨trivial,Rels.vals l⟩
inductive BK where
 | un
 | dead
 | live (own sym:Bool) (cells:List SV)
 | map (es:List (SV×SV))
def kE (es:List (SV×SV)):List SV:=es.flatMap fun e=>[e.1,e.2]
def BK.has (k:Nat):BK->Prop | .live _ _ cells=>SV.hasl k cells | .map es=>SV.hasl k (kE es) | _=>False
def BK.own:BK->Prop | .live true _ _=>True | .map _=>True | _=>False
def Plain (l:List SV):Prop:=∀k,¬SV.hasl k l
def BK.pl:BK->Prop | .live _ true cells=>Plain cells | .map es=>Plain (kE es) | _=>True
theorem Plain.congr {ρ ρ':Env} {l:List SV} {m:List Value} (hf:ρ.le ρ')(h:Plain l)(hr:Rels ρ l m):Rels ρ' l m:=Rels.congr hf l m (fun k hk=>(h k hk).elim) hr
def MEs (ρ:Env):List (SV×SV)->List MapEntry->Nat->Prop | [],[],_=>True | x::l,e::m,i=>Rel ρ x.1 e.key/\Rel ρ x.2 e.val/\e.born=i/\MEs ρ l m (i+1) | _,_,_=>False
theorem MEs.congr {ρ ρ':Env} (hf:ρ.le ρ'):∀(l:List (SV×SV)) (m:List MapEntry) (i:Nat),(∀k,SV.hasl k (kE l)->ρ' k=ρ k)->MEs ρ l m i->MEs ρ' l m i
 | [],[],_,_,_=>by simp [MEs]
 | [],_::_,_,_,h=>by simp [MEs] at h
 | _::_,[],_,_,h=>by simp [MEs] at h
 | x::l,e::m,i,he,h=>by
  simp only [MEs] at h ⊢;have hx:∀k,SV.has k x.1\/SV.has k x.2\/SV.hasl k (kE l)->ρ' k=ρ k:=fun k hk=>he k (by
   simp only [kE,List.flatMap_cons,List.cons_append,List.nil_append,SV.hasl];exact hk)
  exact⟨Rel.congr hf _ _ (fun k hk=>hx k (.inl hk)) h.1,Rel.congr hf _ _ (fun k hk=>hx k (.inr (.inl hk))) h.2.1,h.2.2.1,MEs.congr hf l m (i+1) (fun k hk=>hx k (.inr (.inr hk))) h.2.2.2⟩
def BRep (ρ:Env)(M:Nat->Prop)(W:World)(k:Nat):BK->Prop | .un | .dead=>True | .live true _ cells=>(ρ k=none/\cells=[]) \/ ∃(b:Nat) (vs rest:List Value) (ty:TypeId),ρ k=some (b,0,(vs++rest).length)/\M b/\Rels ρ cells vs /\ W.heap[b]? = some (.cells (vs++rest).toArray ty (0,0)) | .live false _ cells=>(ρ k=none/\cells=[]) \/ ∃(b o n:Nat) (vs:List Value),ρ k=some (b,o,n)/\(vs.length<=n/\(vs≠[]->M b->∃ob,ρ.fz b=some ob))/\Rels ρ cells vs /\ ∀(i:Nat) (x:Value),vs[i]? = some x->W.cell? ⟨b,o+i,none⟩=some x | .map es=>∃(b n:Nat) (arr:Array MapEntry),ρ k=some (b,0,n)/\M b/\MEs ρ es arr.toList 0/\W.heap[b]? = some (.map arr arr.size)
structure FS where
 sl:Nat->SV
 bk:Nat->BK
structure Cx where
 w:World
 base:Nat
 ρ:Env
 own:Nat->Prop:=fun _=>False
def Cx.mine (cx:Cx)(b:Nat):Prop:=cx.w.heap.size<=b\/cx.own b
structure Kept (w:World) (own:Nat->Prop) (W:World):Prop where
 os:W.os=w.os
 tape:W.tape=w.tape
 output:W.output=w.output
 size:w.heap.size<=W.heap.size
 block:∀k,k < w.heap.size->¬own k->W.heap[k]? = w.heap[k]?
 drawn:w.drawn<=W.drawn
theorem Kept.refl (w:World)(own:Nat->Prop):Kept w own w:=⟨rfl,rfl,rfl,Nat.le_refl _,fun _ _ _=>rfl,Nat.le_refl _⟩
theorem Kept.grow {w W W':World} {own:Nat->Prop} (h:Kept w own W)(hb:Below W.heap.size W W')(hd:W.drawn<=W'.drawn):Kept w own W' :=
 ⟨hb.os.trans h.os,hb.tape.trans h.tape,hb.output.trans h.output,Nat.le_trans h.size hb.size,fun k hk ho=>(hb.block k (Nat.lt_of_lt_of_le hk h.size)).trans (h.block k hk ho),Nat.le_trans h.drawn hd⟩
theorem Kept.of_below {w W:World} (own:Nat->Prop)(h:Below w.heap.size w W)(hd:w.drawn<=W.drawn):Kept w own W:=⟨h.os,h.tape,h.output,h.size,fun k hk _=>h.block k hk,hd⟩
structure Rep (w0:Cx) (N:Nat) (D:List Deferred) (ρ:Env) (s:FS) (a:Act) (W:World):Prop where
 defs:a.defers=D
 size:a.tmps.size=N
 sl:∀t,Rel ρ (s.sl t) (a.tmps.getD t undef)
 bk:∀k,BRep ρ w0.mine W k (s.bk k)
 apart:∀k k' b n b' n',k≠k'->(s.bk k).own->(s.bk k').own->ρ k=some (b,0,n)->ρ k'=some (b',0,n')->b≠b'
 wf1:∀t k,(s.sl t).has k->s.bk k≠.un
 wf2:∀j k,(s.bk j).has k->s.bk k≠.un
 kept:Kept w0.w w0.own W
 pl:∀k,(s.bk k).pl
 old:∀i,i < w0.base->ρ i=w0.ρ i/\s.bk i≠.un
 fzn:∀b o,ρ.fz b=some o->W.heap[b]? = some o.obj/\(∀k n,(s.bk k).own->ρ k≠some (b,0,n))/\(w0.ρ.fz b=some o\/w0.mine b)
 fzo:w0.ρ.le ρ
structure Eff where
 val:SV
 ups:List (Nat×BK):=[]
def cN (f:Nat->BK):List (Nat×BK)->Nat->BK | []=>f | (k,x)::l=>cN (fun j=>if j=k then x else f j) l
def FS.app (s:FS)(dst:Option Nat)(e:Eff):FS :=
 {sl:=match dst with
   | some d=>fun t=>if t=d then e.val else s.sl t
   | none=>s.sl
  bk:=cN s.bk e.ups }
theorem aLf {n:Nat} {W W':World} (h:Below n W W') {b o:Nat} (hb:b < n):W'.cell? ⟨b,o,none⟩=W.cell? ⟨b,o,none⟩:=by
 simp only [World.cell?,h.block b hb]
theorem cF {W:World} {b:Nat} {o:Obj} (h:W.heap[b]? = some o):b < W.heap.size:=(Array.getElem?_eq_some_iff.1 h).1
theorem aGl {W:World} {b o:Nat} {x:Value} (h:W.cell? ⟨b,o,none⟩=some x):b < W.heap.size:=World.block_lt_of_cell? W ⟨b,o,none⟩ h
theorem BRep.grow {ρ:Env} {M:Nat->Prop} {W W':World} {k:Nat} {x:BK} (h:BRep ρ M W k x)(hb:Below W.heap.size W W'):BRep ρ M W' k x:=by
 cases x with
 | un=>trivial
 | dead=>trivial
 | live own sym cells =>
  cases own
  case true=>
   rcases h with h | ⟨b,vs,rest,ty,h1,h2,h3,h4⟩
   ·exact .inl h
   ·exact .inr ⟨b,vs,rest,ty,h1,h2,h3,by rw [hb.block b (cF h4)];exact h4⟩
  rcases h with h | ⟨b,o,n,vs,h1,h2,h3,h4⟩
  ·exact .inl h
  ·refine .inr ⟨b,o,n,vs,h1,h2,h3,fun i x hx=>?_⟩;rw [aLf hb (aGl (h4 i x hx))];exact h4 i x hx
 | map es =>
  obtain⟨b,n,arr,h1,h2,h3,h4⟩:=h;exact⟨b,n,arr,h1,h2,h3,by rw [hb.block b (cF h4)];exact h4⟩
theorem BRep.congr {ρ ρ':Env} (hf:ρ.le ρ') {M:Nat->Prop} {W:World} {k:Nat} {x:BK} (hk:ρ' k=ρ k)(hx:∀j,x.has j->ρ' j=ρ j)(h:BRep ρ M W k x):BRep ρ' M W k x:=by
 cases x with
 | un=>trivial
 | dead=>trivial
 | live own sym cells =>
  cases own
  case true=>
   rcases h with h | ⟨b,vs,rest,ty,h1,h2,h3,h4⟩
   ·exact .inl ⟨hk.trans h.1,h.2⟩
   ·exact .inr ⟨b,vs,rest,ty,hk.trans h1,h2,Rels.congr hf _ _ hx h3,h4⟩
  rcases h with h | ⟨b,o,n,vs,h1,h2,h3,h4⟩
  ·exact .inl ⟨hk.trans h.1,h.2⟩
  ·exact .inr ⟨b,o,n,vs,hk.trans h1,⟨h2.1,fun hne hM=>(h2.2 hne hM).imp fun o ho=>hf _ _ ho⟩,Rels.congr hf _ _ hx h3,h4⟩
 | map es =>
  obtain⟨b,n,arr,h1,h2,h3,h4⟩:=h;exact⟨b,n,arr,hk.trans h1,h2,MEs.congr hf _ _ _ hx h3,h4⟩
theorem Rep.size_le {w0:Cx} {N:Nat} {D:List Deferred} {ρ:Env} {s:FS} {a:Act} {W:World} (h:Rep w0 N D ρ s a W):w0.w.heap.size<=W.heap.size:=h.kept.size
theorem Rep.grow {w0:Cx} {N:Nat} {D:List Deferred} {ρ:Env} {s:FS} {a:Act} {W W':World} (h:Rep w0 N D ρ s a W)(hb:Below W.heap.size W W')(hd:W.drawn<=W'.drawn:=by exact Nat.le_refl _):Rep w0 N D ρ s a W' :=
 {h with bk:=fun k=>(h.bk k).grow hb,kept:=h.kept.grow hb hd,fzn:=fun b o ho=>⟨by rw [hb.block b (cF (h.fzn b o ho).1)];exact(h.fzn b o ho).1,(h.fzn b o ho).2⟩ }
theorem eO {k:Nat} {x:Value}:¬(SV.v x).has k:=by simp [SV.has]
theorem Rep.put {w0:Cx} {N:Nat} {D:List Deferred} {ρ:Env} {s:FS} {a:Act} {W:World} (h:Rep w0 N D ρ s a W)(dst:Option Nat)(hd:∀d,dst=some d->d < N)
 {x:SV} {y:Value} (hx:Rel ρ x y) (hw:∀k,x.has k->s.bk k≠.un):Rep w0 N D ρ (s.app dst { val:=x }) (a.put dst y) W:=by
 cases dst with
 | none=>exact h
 | some d =>
  have hdN:=hd d rfl;refine { defs:=h.defs,size:=by simp [Act.put,h.size],sl:=fun t=>?_,bk:=h.bk,apart:=h.apart,wf1:=fun t k hk=>?_,wf2:=h.wf2,kept:=h.kept,pl:=h.pl,old:=h.old,fzn:=h.fzn,fzo:=h.fzo }
  ·simp only [FS.app,Act.put];by_cases ht:t=d
   ·subst ht;have:t < a.tmps.size:=by rw [h.size];exact hdN
    simp [this,hx]
   ·rw [if_neg ht];have:(a.tmps.setIfInBounds d y).getD t undef=a.tmps.getD t undef:=by
     simp only [Array.getD_eq_getD_getElem?,Array.getElem?_setIfInBounds];rw [if_neg (fun e=>ht e.symm)]
    rw [this];exact h.sl t
  ·simp only [FS.app] at hk ⊢;by_cases ht:t=d
   ·rw [if_pos ht] at hk;exact hw k hk
   ·rw [if_neg ht] at hk;exact h.wf1 t k hk
theorem Rep.newB {w0:Cx} {N:Nat} {D:List Deferred} {ρ:Env} {s:FS} {a:Act} {W:World} (h:Rep w0 N D ρ s a W) {k:Nat} (hk:s.bk k=.un)(n:Nat)(o:Obj) {y:BK}
 (hy:BRep (ρ.set k (some (W.heap.size,0,n))) w0.mine { W with heap:=W.heap.push o } k y) (hyn:y≠.un) (hw:∀j,y.has j->s.bk j≠.un) (hpl:y.pl) :
 Rep w0 N D (ρ.set k (some (W.heap.size,0,n))) (s.app none { val:=.u,ups:=[(k,y)] }) a { W with heap:=W.heap.push o }:=by
 have hne:∀j,s.bk j≠.un->(ρ.set k (some (W.heap.size,0,n))) j=ρ j:=fun j hj=>by
  rw [Env.set_loc,if_neg (fun e:j=k=>hj (by rw [e];exact hk))]
 have hle:=ρ.le_set k (some (W.heap.size,0,n));have hbel:Below W.heap.size W { W with heap:=W.heap.push o } :=
  ⟨rfl,rfl,rfl,by simp,fun i hi=>by simp [Array.getElem?_push,Nat.ne_of_lt hi]⟩
 have h':=h.grow hbel;refine { defs:=h.defs,size:=h.size,sl:=fun t=>Rel.congr hle _ _ (fun j hj=>hne j (h.wf1 t j hj)) (h.sl t),bk:=fun j=>?_,apart:=?_,wf1:=fun t j hj=>?_,wf2:=fun i j hj=>?_,kept:=h'.kept,pl:=fun j=>(by simp only [FS.app,cN];split;exact hpl;exact h.pl j),old:=fun i hi=>⟨(hne i (h.old i hi).2).trans (h.old i hi).1,?_⟩,fzn:=fun b o ho=>⟨(h'.fzn b o ho).1,fun i n' hi e1=>?_,(h.fzn b o ho).2.2⟩,fzo:=h.fzo }
 ·simp only [FS.app,cN];by_cases hj:j=k
  ·subst hj;rw [if_pos rfl];exact hy
  ·rw [if_neg hj];exact BRep.congr hle (by simp [hj]) (fun i hi=>hne i (h.wf2 j i hi)) (h'.bk j)
 ·intro i j b n1 b' n' hij hi hj e1 e2;simp only [FS.app,cN] at hi hj;have lt:∀i b n,i≠k->(s.bk i).own->ρ i=some (b,0,n)->b < W.heap.size:=fun i b n hik hi e1=>by
   have:=h.bk i;cases hb:s.bk i with
   | un=>rw [hb] at hi;exact hi.elim
   | dead=>rw [hb] at hi;exact hi.elim
   | live own sy cs =>
    rw [hb] at hi this;cases own
    case false=>exact hi.elim
    rcases this with⟨e,_⟩ | ⟨b₁,vs₁,rest₁,ty₁,e,_,_,h4⟩
    ·rw [e1] at e;cases e
    ·rw [e1] at e;cases e;exact cF h4
   | map es =>
    rw [hb] at this;obtain⟨b₁,n₁,arr,e,_,_,h4⟩:=this;rw [e1] at e;cases e;exact cF h4
  simp only [Env.set_loc] at e1 e2;by_cases hik:i=k
  ·have hjk:j≠k:=fun e=>hij (hik.trans e.symm)
   rw [if_pos hik] at e1 hi;rw [if_neg hjk] at e2 hj;cases e1;exact Nat.ne_of_gt (lt j b' n' hjk hj e2)
  ·rw [if_neg hik] at e1 hi;by_cases hjk:j=k
   ·rw [if_pos hjk] at e2;cases e2;exact Nat.ne_of_lt (lt i b n1 hik hi e1)
   ·rw [if_neg hjk] at e2 hj;exact h.apart i j b n1 b' n' hij hi hj e1 e2
 ·simp only [FS.app,cN];by_cases hjk:j=k
  ·rw [if_pos hjk];exact hyn
  ·rw [if_neg hjk];exact h.wf1 t j hj
 ·simp only [FS.app,cN] at hj ⊢;have hj':s.bk j≠.un:=by
   by_cases hik:i=k
   ·rw [if_pos hik] at hj;exact hw j hj
   ·rw [if_neg hik] at hj;exact h.wf2 i j hj
  by_cases hjk:j=k
  ·rw [if_pos hjk];exact hyn
  ·rw [if_neg hjk];exact hj'
 ·simp only [FS.app,cN];by_cases hik:i=k
  ·rw [if_pos hik];exact hyn
  ·rw [if_neg hik];exact(h.old i hi).2
 ·simp only [FS.app,cN] at hi;simp only [Env.set_loc] at e1;by_cases hik:i=k
  ·rw [if_pos hik] at e1;simp only [bG,eA] at e1;have:=cF (h.fzn b o ho).1;omega
  ·rw [if_neg hik] at e1 hi;exact(h.fzn b o ho).2.1 i n' hi e1
theorem Rep.new {w0:Cx} {N:Nat} {D:List Deferred} {ρ:Env} {s:FS} {a:Act} {W:World} (h:Rep w0 N D ρ s a W) {k:Nat} (hk:s.bk k=.un)
 {cells:List SV} {vs rest:List Value} (sym:Bool) (ty:TypeId) (hc:Rels ρ cells vs) (hw:∀j,SV.hasl j cells->s.bk j≠.un) (hpl:(BK.live true sym cells).pl) :
 Rep w0 N D (ρ.set k (some (W.heap.size,0,(vs++rest).length))) (s.app none { val:=.u,ups:=[(k,.live true sym cells)] }) a
  {W with heap:=W.heap.push (.cells (vs++rest).toArray ty) }:=by
 have hne:∀j,s.bk j≠.un->(ρ.set k (some (W.heap.size,0,(vs++rest).length))) j=ρ j:=fun j hj=>by
  rw [Env.set_loc,if_neg (fun e:j=k=>hj (by rw [e];exact hk))]
 exact h.newB hk _ _ (.inr ⟨W.heap.size,vs,rest,ty,by simp,.inl h.size_le,Rels.congr (ρ.le_set _ _) _ _ (fun i hi=>hne i (hw i hi)) hc,by simp⟩) (by simp) hw hpl
theorem Rep.newM {w0:Cx} {N:Nat} {D:List Deferred} {ρ:Env} {s:FS} {a:Act} {W:World} (h:Rep w0 N D ρ s a W) {k:Nat} (hk:s.bk k=.un) :
 Rep w0 N D (ρ.set k (some (W.heap.size,0,0))) (s.app none { val:=.u,ups:=[(k,.map [])] }) a { W with heap:=W.heap.push (.map #[] 0) } :=
 h.newB hk _ _ ⟨W.heap.size,0,#[],by simp,.inl h.size_le,by simp [MEs],by simp⟩ (by simp) (fun j hj=>by simp [BK.has,kE,SV.hasl] at hj) (fun j hj=>by simp [kE,SV.hasl] at hj)
theorem Rep.named {w0:Cx} {N:Nat} {D:List Deferred} {ρ:Env} {s:FS} {a:Act} {W:World} (h:Rep w0 N D ρ s a W) {k:Nat} (hk:s.bk k=.un)(v:Option (Nat×Nat×Nat)) {cells:List SV}
 (hy:BRep (ρ.set k v) w0.mine W k (.live false true cells)) (hpl:Plain cells) :
 Rep w0 N D (ρ.set k v) (s.app none { val:=.u,ups:=[(k,.live false true cells)] }) a W:=by
 have hne:∀j,s.bk j≠.un->(ρ.set k v) j=ρ j:=fun j hj=>by
  rw [Env.set_loc,if_neg (fun e:j=k=>hj (by rw [e];exact hk))]
 have hle:=ρ.le_set k v;refine { defs:=h.defs,size:=h.size,sl:=fun t=>Rel.congr hle _ _ (fun j hj=>hne j (h.wf1 t j hj)) (h.sl t),bk:=fun j=>?_,apart:=fun i j b n1 b' n' hij hi hj e1 e2=>?_,wf1:=fun t j hj=>?_,wf2:=fun i j hj=>?_,kept:=h.kept,pl:=fun j=>(by simp only [FS.app,cN];split;exact hpl;exact h.pl j),old:=fun i hi=>⟨(hne i (h.old i hi).2).trans (h.old i hi).1,?_⟩,fzn:=fun b o ho=>⟨(h.fzn b o ho).1,fun i n' hi e1=>?_,(h.fzn b o ho).2.2⟩,fzo:=h.fzo }
 ·simp only [FS.app,cN];by_cases hj:j=k
  ·subst hj;rw [if_pos rfl];exact hy
  ·rw [if_neg hj];exact BRep.congr hle (by simp [hj]) (fun i hi=>hne i (h.wf2 j i hi)) (h.bk j)
 ·simp only [FS.app,cN] at hi hj;simp only [Env.set_loc] at e1 e2;by_cases hik:i=k
  ·rw [if_pos hik] at hi;exact hi.elim
  ·by_cases hjk:j=k
   ·rw [if_pos hjk] at hj;exact hj.elim
   ·rw [if_neg hik] at e1 hi;rw [if_neg hjk] at e2 hj;exact h.apart i j b n1 b' n' hij hi hj e1 e2
 ·simp only [FS.app,cN];by_cases hjk:j=k
  ·rw [if_pos hjk];simp
  ·rw [if_neg hjk];exact h.wf1 t j hj
 ·simp only [FS.app,cN] at hj ⊢;have hj':s.bk j≠.un:=by
   by_cases hik:i=k
   ·rw [if_pos hik] at hj;exact(hpl j hj).elim
   ·rw [if_neg hik] at hj;exact h.wf2 i j hj
  by_cases hjk:j=k
  ·rw [if_pos hjk];simp
  ·rw [if_neg hjk];exact hj'
 ·simp only [FS.app,cN];by_cases hik:i=k
  ·rw [if_pos hik];simp
  ·rw [if_neg hik];exact(h.old i hi).2
 ·simp only [FS.app,cN] at hi;simp only [Env.set_loc] at e1;by_cases hik:i=k
  ·rw [if_pos hik] at hi;exact hi.elim
  ·rw [if_neg hik] at e1 hi;exact(h.fzn b o ho).2.1 i n' hi e1
theorem Rep.frzB {w0:Cx} {N:Nat} {D:List Deferred} {ρ:Env} {s:FS} {a:Act} {W:World} (h:Rep w0 N D ρ s a W) {k b n:Nat} {o:FC} (hown:(s.bk k).own)(hρ:ρ k=some (b,0,n))(hm:w0.mine b)(ho:W.heap[b]? = some o.obj) :
 Rep w0 N D ⟨ρ.loc,fun c=>if c=b then some o else ρ.fz c⟩ (s.app none { val:=.u,ups:=[(k,.dead)] }) a W:=by
 have hle:ρ.le ⟨ρ.loc,fun c=>if c=b then some o else ρ.fz c⟩:=fun c o' hc=>by
  by_cases hcb:c=b
  ·subst hcb;exact((h.fzn _ _ hc).2.1 k n hown hρ).elim
  ·show(if c=b then some o else ρ.fz c)=some o';rw [if_neg hcb];exact hc
 have fix:∀i,((s.app none { val:=.u,ups:=[(k,.dead)] }).bk i).own->i≠k/\(s.bk i).own:=fun i hi=>by
  simp only [FS.app,cN] at hi;by_cases hik:i=k
  ·rw [if_pos hik] at hi;exact hi.elim
  ·rw [if_neg hik] at hi;exact⟨hik,hi⟩
 refine { defs:=h.defs,size:=h.size,sl:=fun t=>Rel.congr hle _ _ (fun _ _=>rfl) (h.sl t),bk:=fun j=>?_,apart:=fun i j b n1 b' n' hij hi hj e1 e2=>h.apart i j b n1 b' n' hij (fix i hi).2 (fix j hj).2 e1 e2,wf1:=fun t j hj=>?_,wf2:=fun i j hj=>?_,kept:=h.kept,pl:=fun j=>(by simp only [FS.app,cN];split;trivial;exact h.pl j),old:=fun i hi=>⟨(h.old i hi).1,?_⟩,fzn:=fun c o' hc=>?_,fzo:=fun c o' hc=>hle c o' (h.fzo c o' hc) }
 ·simp only [FS.app,cN];by_cases hj:j=k
  ·rw [if_pos hj];trivial
  ·rw [if_neg hj];exact BRep.congr hle rfl (fun _ _=>rfl) (h.bk j)
 ·simp only [FS.app,cN];by_cases hjk:j=k
  ·rw [if_pos hjk];simp
  ·rw [if_neg hjk];exact h.wf1 t j hj
 ·simp only [FS.app,cN] at hj ⊢;have hj':s.bk j≠.un:=by
   by_cases hik:i=k
   ·rw [if_pos hik] at hj;exact hj.elim
   ·rw [if_neg hik] at hj;exact h.wf2 i j hj
  by_cases hjk:j=k
  ·rw [if_pos hjk];simp
  ·rw [if_neg hjk];exact hj'
 ·simp only [FS.app,cN];by_cases hik:i=k
  ·rw [if_pos hik];simp
  ·rw [if_neg hik];exact(h.old i hi).2
 ·have hc':(if c=b then some o else ρ.fz c)=some o':=hc;by_cases hcb:c=b
  ·rw [if_pos hcb] at hc';simp only [bG] at hc';subst hc' hcb;exact⟨ho,fun i n' hi e1=>h.apart i k c n' c n (fix i hi).1 (fix i hi).2 hown e1 hρ rfl,.inr hm⟩
  ·rw [if_neg hcb] at hc';exact⟨(h.fzn c o' hc').1,fun i n' hi e1=>(h.fzn c o' hc').2.1 i n' (fix i hi).2 e1,(h.fzn c o' hc').2.2⟩
end Go.Aw
namespace Go.Aw
open Go.RowKit
theorem add_eq (b off i:Nat):(Addr.mk b off none).add i=⟨b,off+i,none⟩:=by
 unfold Addr.add;split<;>simp_all
def SV.known:SV->Bool | .u=>false | _=>true
def SV.one:SV->Bool | .u | .a _ | .t _=>false | .v x=>x.oneCell' | _=>true
def SV.cells:SV->List SV | .a l=>l | .v (.agg cs)=>cs.toList.map .v | x=>[x]
theorem Rel.cells {ρ:Env} {x:SV} {y:Value} (h:Rel ρ x y)(hk:x.known=true):Rels ρ x.cells y.cells.toList:=by
 cases x with
 | u=>simp [SV.known] at hk
 | b x=>simp only [Rel] at h;subst h;simp [SV.cells,Value.cells,Rels,Rel]
 | v x =>
  simp only [Rel] at h;subst h;cases y<;>first
   | (simp only [SV.cells,Value.cells];exact Rels.vals _)
   | simp [SV.cells,Value.cells,Rels,Rel]
 | p k off =>
  have h':=h;simp only [Rel] at h;obtain⟨b,o,n,h1,rfl⟩:=h;simp only [SV.cells,Value.cells,Rels];exact⟨h',trivial⟩
 | s k off len es =>
  have h':=h;simp only [Rel] at h;rcases h with⟨h1,h2,rfl⟩ | ⟨b,o,n,cap,off',sp,h1,rfl,h2⟩<;>(simp only [SV.cells,Value.cells,Rels];exact⟨h',trivial⟩)
 | d cells len es =>
  have h':=h;simp only [Rel] at h;rcases h with⟨_,_,_,rfl⟩ | ⟨b,o,cap,c,ty,fr,vs,rfl,_⟩<;>(simp only [SV.cells,Value.cells,Rels];exact⟨h',trivial⟩)
 | m k =>
  have h':=h;simp only [Rel] at h;obtain⟨b,o,n,h1,rfl⟩:=h;simp only [SV.cells,Value.cells,Rels];exact⟨h',trivial⟩
 | f g caps =>
  have h':=h;simp only [Rel] at h;obtain⟨vs,rfl,h⟩:=h;have e:(fnV g vs).cells.toList=[fnV g vs]:=by unfold fnV;split<;>rfl
  rw [e];simp only [SV.cells,Rels];exact⟨h',trivial⟩
 | a l=>simp only [Rel] at h;obtain⟨vs,rfl,h⟩:=h;simpa [SV.cells,Value.cells] using h
 | t l =>
  have h':=h;simp only [Rel] at h;obtain⟨vs,rfl,h⟩:=h;simp only [SV.cells,Value.cells,Rels];exact⟨h',trivial⟩
theorem Rel.one {ρ:Env} {x:SV} {y:Value} (h:Rel ρ x y)(hk:x.one=true):y.oneCell'=true:=by
 cases x<;>simp only [Rel] at h<;>simp only [SV.one] at hk
 case b x=>subst h;rfl
 case v x=>subst h;exact hk
 case p=>obtain⟨b,o,n,h1,rfl⟩:=h;rfl
 case s=>rcases h with⟨h1,h2,rfl⟩ | ⟨b,o,n,cap,off',sp,h1,rfl,h2⟩<;>rfl
 case d=>rcases h with⟨_,_,_,rfl⟩ | ⟨b,o,cap,c,ty,fr,vs,rfl,_⟩<;>rfl
 case m=>obtain⟨b,o,n,h1,rfl⟩:=h;rfl
 case f=>obtain⟨vs,rfl,h⟩:=h;unfold fnV;split<;>rfl
 all_goals cases hk
theorem Rels.ones {ρ:Env}:∀{l:List SV} {m:List Value},Rels ρ l m->l.all SV.one=true->∀v∈m,v.oneCell'=true
 | [],[],_,_=>by simp
 | [],_::_,h,_=>by simp [Rels] at h
 | _::_,[],h,_=>by simp [Rels] at h
 | x::l,y::m,h,ho=>by
  simp only [Rels] at h;simp only [List.all_cons,Bool.and_eq_true] at ho;intro v hv;rcases List.mem_cons.1 hv with rfl | hv
  ·exact Rel.one h.1 ho.1
  ·exact Rels.ones h.2 ho.2 v hv
theorem uD {k:Nat} {x:SV}:SV.hasl k x.cells->x.has k:=by
 cases x<;>simp only [SV.cells,SV.hasl,SV.has,or_false,imp_self]
 case v x =>
  intro h;cases x<;>simp only [SV.cells,SV.hasl,SV.has,or_false] at h;rw [eP] at h;obtain⟨z,hz,hk⟩:=h;obtain⟨q,_,rfl⟩:=List.mem_map.1 hz;exact(eO hk).elim
theorem BRep.read {ρ:Env} {M:Nat->Prop} {W:World} {k:Nat} {own sym:Bool} {cells:List SV} (h:BRep ρ M W k (.live own sym cells)) :
 (ρ k=none/\cells=[])\/∃(b o n:Nat) (vs:List Value),ρ k=some (b,o,n)/\(Rels ρ cells vs/\vs.length<=n)/\(own=true->o=0/\M b/\b < W.heap.size) /\
  ∀(i:Nat) (x:Value),vs[i]? = some x->W.cell? ⟨b,o+i,none⟩=some x:=by
 cases own
 case true=>
  rcases h with h | ⟨b,vs,rest,ty,h1,h2,h3,h4⟩
  ·exact .inl h
  ·refine .inr ⟨b,0,_,vs,h1,⟨h3,by simp⟩,fun _=>⟨rfl,h2,cF h4⟩,fun i x hx=>?_⟩;have hi:i < vs.length:=(List.getElem?_eq_some_iff.1 hx).1;simp [World.cell?,h4,List.getElem?_append_left hi,hx]
 rcases h with h | ⟨b,o,n,vs,h1,h2,h3,h4⟩
 ·exact .inl h
 ·exact .inr ⟨b,o,n,vs,h1,⟨h3,h2.1⟩,(fun h=>by cases h),h4⟩
theorem vG {P:Program} {W:World} {b o:Nat}:∀(vs:List Value) (i:Nat) (acc:Array Value),
 (∀(j:Nat) (x:Value),vs[j]? = some x->W.cell? ⟨b,o+(i+j),none⟩=some x)->(loadCellsFrom ⟨b,o,none⟩ i vs.length acc).run P W=.ok (acc++vs.toArray) W
 | [],i,acc,_=>by simp [loadCellsFrom]
 | v::vs,i,acc,h=>by
  have h0:=h 0 v (by simp);simp only [List.length_cons,loadCellsFrom,Sem.run_bind,run_load,add_eq];rw [show o+i=o+(i+0) by omega,h0];simp only [Result.andThen_ok];rw [vG vs (i+1) (acc.push v) (fun j x hx=>by
   have:=h (j+1) x (by simpa using hx);rw [show i+1+j=i+(j+1) by omega];exact this)]
  congr 1;apply Array.ext';simp
def splice {α:Type} (l:List α)(off:Nat)(m:List α):List α:=l.take off++m++l.drop (off+m.length)
structure Turned (W W':World) (b:Nat) (cells:List Value) (ty:TypeId):Prop where
 os:W'.os=W.os
 tape:W'.tape=W.tape
 output:W'.output=W.output
 size:W'.heap.size=W.heap.size
 other:∀j,j≠b->W'.heap[j]? = W.heap[j]?
 this:W'.heap[b]? = some (.cells cells.toArray ty (0,0))
 drawn:W'.drawn=W.drawn
theorem Turned.setCell {W:World} {b i:Nat} {cells:List Value} {ty:TypeId} {v:Value} (h:W.heap[b]? = some (.cells cells.toArray ty (0,0)))(hi:i < cells.length) :
 Turned W (W.setCell ⟨b,i,none⟩ v) b (cells.set i v) ty:=by
 refine⟨rfl,rfl,rfl,by simp [World.setCell],fun j hj=>?_,?_,rfl⟩
 ·simp only [World.setCell,Array.getElem?_modify];rw [if_neg (fun e=>hj e.symm)]
 ·simp only [World.setCell,Array.getElem?_modify,if_pos,h];simp
theorem nV {P:Program} {b o:Nat} {ty:TypeId}:∀(vs:List Value) (i:Nat) (W:World) (cells:List Value),W.heap[b]? = some (.cells cells.toArray ty (0,0)) ->
 (∀v∈vs,v.oneCell'=true)->o+i+vs.length<=cells.length ->
 ∃W',(storeCells ⟨b,o,none⟩ vs i).run P W=.ok () W'/\Turned W W' b (splice cells (o+i) vs) ty
 | [],i,W,cells,h,_,hl=>⟨W,by simp [storeCells],⟨rfl,rfl,rfl,rfl,fun _ _=>rfl,by rw [h];simp [splice],rfl⟩⟩
 | v::vs,i,W,cells,h,hv,hl=>by
  have hv0:v.oneCell'=true:=hv v (by simp);simp only [List.length_cons] at hl;have hi:o+i < cells.length:=by omega
  have hc:W.cell? ⟨b,o+i,none⟩=some cells[o+i]:=by simp [World.cell?,h,hi]
  have hf:W.frozen? ⟨b,o+i,none⟩=false:=by simp [World.frozen?,h]
  have ht:=Turned.setCell (v:=v) h hi;obtain⟨W',hr,h'⟩:=nV (P:=P) (b:=b) (o:=o) (ty:=ty) vs (i+1) (W.setCell ⟨b,o+i,none⟩ v) (cells.set (o+i) v) ht.this (fun x hx=>hv x (by simp [hx])) (by simp;omega);refine⟨W',?_,?_⟩
  ·simp only [storeCells,Sem.run_bind,add_eq,run_store _ _ _ _ _ hv0,hc,hf,Bool.false_eq_true,if_false,Result.andThen_ok];exact hr
  ·refine⟨h'.os.trans ht.os,h'.tape.trans ht.tape,h'.output.trans ht.output,h'.size.trans ht.size,fun j hj=>(h'.other j hj).trans (ht.other j hj),?_,h'.drawn.trans ht.drawn⟩;rw [h'.this];have:splice (cells.set (o+i) v) (o+(i+1)) vs=splice cells (o+i) (v::vs):=by
    unfold splice;rw [show o+(i+1)=(o+i)+1 by omega,List.take_add_one];simp only [List.take_set_of_le (Nat.le_refl _),List.getElem?_set_self hi,Option.toList_some,List.append_assoc,List.cons_append,List.nil_append,List.length_cons];rw [List.drop_set_of_lt oM];rw [show o+i+1+vs.length=o+i+(vs.length+1) by omega]
   rw [this]
theorem Rels.splice {ρ:Env} {l m:List SV} {l' m':List Value} (off:Nat)(h:Rels ρ l l')(h':Rels ρ m m'):Rels ρ (Aw.splice l off m) (Aw.splice l' off m'):=by
 unfold Aw.splice;rw [h'.length];exact Rels.append (Rels.append (Rels.take _ h) h') (Rels.drop _ h)
theorem aEz {α:Type} {l r:List α} {off:Nat} {m:List α} (h:off+m.length<=l.length):splice (l++r) off m=splice l off m++r:=by
 unfold splice;rw [List.take_append_of_le_length oM,List.drop_append_of_le_length h];simp [List.append_assoc]
theorem aE0 {α:Type} {l:List α} {off:Nat} {m:List α} (h:off+m.length<=l.length):(splice l off m).length=l.length:=by
 unfold splice;simp;omega
theorem Rep.turnB {w0:Cx} {N:Nat} {D:List Deferred} {ρ:Env} {s:FS} {a:Act} {W W':World} (h:Rep w0 N D ρ s a W) {k b n:Nat} (hown:(s.bk k).own)(hρ:ρ k=some (b,0,n))(hb0:w0.mine b)
 {y:BK} (hy:BRep ρ w0.mine W' k y) (hyn:y≠.un) (hw:∀j,y.has j->s.bk j≠.un) (hpl:y.pl)
 (tos:W'.os=W.os) (ttape:W'.tape=W.tape) (tout:W'.output=W.output) (tsize:W'.heap.size=W.heap.size) (tother:∀j,j≠b->W'.heap[j]? = W.heap[j]?) (td:W'.drawn=W.drawn:=by first | rfl | simp) :
 Rep w0 N D ρ (s.app none { val:=.u,ups:=[(k,y)] }) a W':=by
 refine { defs:=h.defs,size:=h.size,sl:=h.sl,bk:=fun j=>?_,apart:=fun i j b1 n1 b2 n2 hij hi hj=>?_,wf1:=fun t j hj=>?_,wf2:=fun i j hj=>?_,kept:=?_,pl:=fun j=>(by simp only [FS.app,cN];split;exact hpl;exact h.pl j),old:=fun i hi=>⟨(h.old i hi).1,?_⟩,fzn:=fun c o ho=>⟨?_,fun j m hj=>?_,(h.fzn c o ho).2.2⟩,fzo:=h.fzo }
 ·simp only [FS.app,cN];by_cases hj:j=k
  ·subst hj;rw [if_pos rfl];exact hy
  ·rw [if_neg hj];have hb:=h.bk j;cases hx:s.bk j with
   | un=>trivial
   | dead=>trivial
   | live own sy cs =>
    rw [hx] at hb;cases own
    case true=>
     rcases hb with hb | ⟨b₁,vs₁,rest₁,ty₁,e1,e2,e3,e4⟩
     ·exact .inl hb
     ·refine .inr ⟨b₁,vs₁,rest₁,ty₁,e1,e2,e3,?_⟩;rw [tother b₁ (h.apart j k b₁ _ b _ hj (by rw [hx];trivial) hown e1 hρ)];exact e4
    rcases hb with hb | ⟨b₁,o,n,vs₁,e1,e2,e3,e4⟩
    ·exact .inl hb
    ·refine .inr ⟨b₁,o,n,vs₁,e1,e2,e3,fun i x hx=>?_⟩;have hne:vs₁≠[]:=by rintro rfl;simp at hx
     have:=e4 i x hx;simp only [World.cell?] at this ⊢;rw [tother b₁ (fun e=>by
      subst e;obtain⟨ob,ho⟩:=e2.2 hne hb0;exact(h.fzn _ _ ho).2.1 k _ hown hρ)];exact this
   | map es =>
    rw [hx] at hb;obtain⟨b₁,n₁,arr,e1,e2,e3,e4⟩:=hb;refine⟨b₁,n₁,arr,e1,e2,e3,?_⟩;rw [tother b₁ (h.apart j k b₁ _ b _ hj (by rw [hx];trivial) hown e1 hρ)];exact e4
 ·simp only [FS.app,cN] at hi hj;have fix:∀i,(if i=k then y else s.bk i).own->(s.bk i).own:=fun i hi=>by
   by_cases hik:i=k
   ·subst hik;exact hown
   ·rwa [if_neg hik] at hi
  exact h.apart i j b1 n1 b2 n2 hij (fix i hi) (fix j hj)
 ·simp only [FS.app,cN];by_cases hjk:j=k
  ·rw [if_pos hjk];exact hyn
  ·rw [if_neg hjk];exact h.wf1 t j hj
 ·simp only [FS.app,cN] at hj ⊢;have hj':s.bk j≠.un:=by
   by_cases hik:i=k
   ·rw [if_pos hik] at hj;exact hw j hj
   ·rw [if_neg hik] at hj;exact h.wf2 i j hj
  by_cases hjk:j=k
  ·rw [if_pos hjk];exact hyn
  ·rw [if_neg hjk];exact hj'
 ·exact⟨tos.trans h.kept.os,ttape.trans h.kept.tape,tout.trans h.kept.output,by rw [tsize];exact h.kept.size,fun j hj ho=>(tother j (fun e=>(by rw [←e] at hb0;exact hb0.elim (Nat.not_le_of_lt hj) ho))).trans (h.kept.block j hj ho),by rw [td];exact h.kept.drawn⟩
 ·simp only [FS.app,cN];by_cases hik:i=k
  ·rw [if_pos hik];exact hyn
  ·rw [if_neg hik];exact(h.old i hi).2
 ·rw [tother c (fun e=>by subst e;exact(h.fzn _ _ ho).2.1 k _ hown hρ)];exact(h.fzn c o ho).1
 ·simp only [FS.app,cN] at hj;by_cases hjk:j=k
  ·subst hjk;exact(h.fzn c o ho).2.1 j m hown
  ·rw [if_neg hjk] at hj;exact(h.fzn c o ho).2.1 j m hj
theorem Rep.turn {w0:Cx} {N:Nat} {D:List Deferred} {ρ:Env} {s:FS} {a:Act} {W W':World} (h:Rep w0 N D ρ s a W) {k b:Nat} {sym:Bool} {cells cells':List SV}
 {vs' rest:List Value} {ty:TypeId} (hk:s.bk k=.live true sym cells) (hρ:ρ k=some (b,0,(vs'++rest).length)) (hb0:w0.mine b)
 (hc:Rels ρ cells' vs') (hw:∀j,SV.hasl j cells'->s.bk j≠.un) (hpl:(BK.live true sym cells').pl) (ht:Turned W W' b (vs'++rest) ty) :
 Rep w0 N D ρ (s.app none { val:=.u,ups:=[(k,.live true sym cells')] }) a W' :=
 h.turnB (by rw [hk];trivial) hρ hb0 (.inr ⟨b,vs',rest,ty,hρ,hb0,hc,ht.this⟩) (by simp) hw hpl ht.os ht.tape ht.output ht.size ht.other ht.drawn
theorem Rep.sub {cx:Cx} {N:Nat} {D:List Deferred} {ρ:Env} {s:FS} {a:Act} {W:World} (h:Rep cx N D ρ s a W)(s':FS)(hsl:∀t y,Rel ρ (s.sl t) y->Rel ρ (s'.sl t) y)(hbk:∀k,BRep ρ cx.mine W k (s.bk k)->BRep ρ cx.mine W k (s'.bk k))(hown:∀k,(s'.bk k).own->(s.bk k).own)
 (hun:∀k,s.bk k≠.un->s'.bk k≠.un) (hw1:∀t k,(s'.sl t).has k->s'.bk k≠.un) (hw2:∀j k,(s'.bk j).has k->s'.bk k≠.un) (hpl:∀k,(s'.bk k).pl):Rep cx N D ρ s' a W :=
 {pl:=hpl,defs:=h.defs,size:=h.size,sl:=fun t=>hsl t _ (h.sl t),bk:=fun k=>hbk k (h.bk k),apart:=fun i j b n b' n' hij hi hj=>h.apart i j b n b' n' hij (hown i hi) (hown j hj),wf1:=hw1,wf2:=hw2,kept:=h.kept,old:=fun i hi=>⟨(h.old i hi).1,hun i (h.old i hi).2⟩,
  fzn:=fun b o ho=>⟨(h.fzn b o ho).1,fun k n hk=>(h.fzn b o ho).2.1 k n (hown k hk),(h.fzn b o ho).2.2⟩,fzo:=h.fzo }
theorem Rep.frz {cx:Cx} {N:Nat} {D:List Deferred} {ρ:Env} {s:FS} {a:Act} {W:World} (h:Rep cx N D ρ s a W) {k fr n es:Nat} {sym:Bool} {kc:List SV} (hk:s.bk k=.live true sym kc)(hf:s.bk fr=.live true false [.s k 0 n es])
 (hne:k≠fr) (hlen:kc.length=n*es) (hpl:Plain kc):∃ρ',Rep cx N D ρ' (s.app none { val:=.u,ups:=[(k,.dead),(fr,.live true false [.d kc n es])] }) a W:=by
 have key:∀(ρ':Env) (s1:FS),Rep cx N D ρ' s1 a W->s1.sl=s.sl->(∀j,s1.bk j=if j=k then .dead else s.bk j)->(∀y,Rel ρ' (.s k 0 n es) y->Rel ρ' (.d kc n es) y) ->
  Rep cx N D ρ' (s.app none { val:=.u,ups:=[(k,.dead),(fr,.live true false [.d kc n es])] }) a W:=fun ρ' s1 h1 e1 e2 hrel=>by
  have hbk:∀j,(s.app none { val:=.u,ups:=[(k,.dead),(fr,.live true false [.d kc n es])] }).bk j=if j=fr then .live true false [.d kc n es] else if j=k then .dead else s.bk j:=fun j=>by simp [FS.app,cN]
  have hf1:s1.bk fr=.live true false [.s k 0 n es]:=by rw [e2,if_neg (Ne.symm hne),hf]
  have hoth:∀j,j≠fr->(s.app none { val:=.u,ups:=[(k,.dead),(fr,.live true false [.d kc n es])] }).bk j=s1.bk j:=fun j hj=>by rw [hbk,e2,if_neg hj]
  have hun:∀j,s1.bk j≠.un->(s.app none { val:=.u,ups:=[(k,.dead),(fr,.live true false [.d kc n es])] }).bk j≠.un:=fun j hj=>by
   by_cases hjf:j=fr
   ·rw [hbk,if_pos hjf];simp
   ·rw [hoth j hjf];exact hj
  refine h1.sub _ (fun t y hy=>by rw [e1] at hy;exact hy) (fun j hj=>?_) (fun j hj=>?_) hun (fun t j hj=>hun j (h1.wf1 t j (by rw [e1];exact hj))) (fun i j hj=>?_) (fun j=>?_)
  ·by_cases hjf:j=fr
   ·subst hjf;rw [hf1] at hj;rw [hbk,if_pos rfl];rcases hj with⟨q1,q2⟩ | ⟨b,vs,rest,ty,q1,q2,q3,q4⟩
    ·simp at q2
    ·refine .inr ⟨b,vs,rest,ty,q1,q2,?_,q4⟩
     match vs,q3 with
     | [y],q3=>simp only [Rels] at q3 ⊢;exact⟨hrel y q3.1,trivial⟩
     | [],q3=>simp [Rels] at q3
     | _::_::_,q3=>simp [Rels] at q3
   ·rw [hoth j hjf];exact hj
  ·by_cases hjf:j=fr
   ·subst hjf;rw [hf1];trivial
   ·rw [hoth j hjf] at hj;exact hj
  ·by_cases hif:i=fr
   ·rw [hbk,if_pos hif] at hj;simp [BK.has,SV.hasl,SV.has] at hj
   ·rw [hoth i hif] at hj;exact hun j (h1.wf2 i j hj)
  ·by_cases hjf:j=fr
   ·rw [hbk,if_pos hjf];trivial
   ·rw [hoth j hjf];exact h1.pl j
 have hb:=h.bk k;rw [hk] at hb;rcases hb with⟨q1,q2⟩ | ⟨b,vs,rest,ty,q1,q2,q3,q4⟩
 ·-- nothing lies there
  have hkill:Rep cx N D ρ (s.app none { val:=.u,ups:=[(k,.dead)] }) a W:=by
   refine h.sub _ (fun t y hy=>hy) (fun j hj=>?_) (fun j hj=>?_) (fun j hj=>?_) (fun t j hj=>?_) (fun i j hj=>?_) (fun j=>?_)
   all_goals simp only [FS.app,cN] at *
   ·split
    ·trivial
    ·exact hj
   ·split at hj
    ·exact hj.elim
    ·exact hj
   ·split
    ·simp
    ·exact hj
   ·split
    ·simp
    ·exact h.wf1 t j hj
   ·split
    ·simp
    ·split at hj
     ·exact hj.elim
     ·exact h.wf2 i j hj
   ·split
    ·trivial
    ·exact h.pl j
  refine⟨ρ,key ρ _ hkill rfl (fun j=>by simp [FS.app,cN]) (fun y hy=>?_)⟩;simp only [Rel] at hy ⊢;rcases hy with⟨_,rfl,rfl⟩ | ⟨b,o,m,cap,off',sp,e,_⟩
  ·exact .inl ⟨rfl,q2,none,rfl⟩
  ·rw [q1] at e;cases e
 ·refine⟨_,key _ _ (h.frzB (o:=((vs++rest).toArray,ty,(0,0))) (by rw [hk];trivial) q1 q2 q4) rfl (fun j=>by simp [FS.app,cN]) (fun y hy=>?_)⟩;simp only [Rel] at hy ⊢;have hvl:vs.length=n*es:=by rw [←q3.length];exact hlen
  rcases hy with⟨e,_⟩ | ⟨b',o,m,cap,off',sp,e,rfl,hle,hcap,hoff⟩
  ·exact absurd (e.symm.trans q1) (by simp)
  ·have e':=e.symm.trans q1;simp only [bG,eA] at e';obtain⟨rfl,rfl,rfl⟩:=e';by_cases hc1:cap=0
   ·have hn0:n=0:=by omega
    exact .inl ⟨hn0,List.eq_nil_of_length_eq_zero (by rw [hlen,hn0,Nat.zero_mul]),_,by rw [hn0,hc1]⟩
   obtain⟨_,rfl⟩:=hoff hc1;refine .inr ⟨b',0+off',cap,_,ty,(0,0),vs,rfl,hle,if_pos rfl,Plain.congr (fun c o' hc=>?_) hpl q3,hvl,fun i x hi=>?_⟩
   ·by_cases hcb:c=b'
    ·subst hcb;exact((h.fzn _ _ hc).2.1 k _ (by rw [hk];trivial) q1).elim
    ·show(if c=b' then some _ else ρ.fz c)=some o';rw [if_neg hcb];exact hc
   ·have hil:=(List.getElem?_eq_some_iff.1 hi).1;have hc0:cap≠0:=fun e=>by
     have:n=0:=by omega
     subst this;simp at hvl;subst hvl;simp at hil
    rw [(hoff hc0).1];simp only [Nat.zero_add,List.getElem?_toArray];rw [List.getElem?_append_left hil];exact hi
inductive TK where
 | int (k:IntKind) | bool | str
 | slice (e es bytes:Nat)
 | arr (n e es:Nat)
 | st (fs : List (Nat × Nat × Nat))     -- offset, type, size
 | map (k e:Nat)
 | other
structure TI where
 size:Nat
 bytes:Nat
 zero:List Value
 agg:Bool
 eqok:Bool
 kind:TK
 zv:Value:=undef
def dW:TypeDesc->Bool | .struct _ | .array _ _=>true | _=>false
def cH (P:Program):TypeDesc->TK | .int k=>.int k | .bool=>.bool | .string=>.str | .slice e=>.slice e (P.cellsOf e) (P.bytesOf e) | .array n e=>.arr n e (P.cellsOf e) | .struct fs=>.st (fs.toList.map fun f=>(f.offset,f.type,P.cellsOf f.type)) | .map k e=>.map k e | _=>.other
def aBh:TypeDesc->Bool
 | .struct fs => fs.toList.all fun f => f.name != "_"
 | _=>true
def conv (P:Program)(t:Nat):Option TI :=
 match P.info? t,P.underlying t with
 | some i,some d =>
  match i.zero with
  | some z=>some { size:=i.size,bytes:=i.bytes,zero:=z.cells.toList,agg:=dW d,eqok:=!P.stoodInHeld t&&!P.eqGuardType P.depth t&&aBh d,kind:=cH P d,zv:=z }
  | none=>none
 | _,_=>none
def nG (P:Program)(T:Nat->Option TI):Prop:=∀t i,T t=some i->conv P t=some i
theorem bF {P:Program} {t:Nat} {i:TI} (h:conv P t=some i):∃(n:TypeInfo) (d:TypeDesc) (z:Value),P.info? t=some n/\P.underlying t=some d/\n.zero=some z /\
 i={ size:=n.size,bytes:=n.bytes,zero:=z.cells.toList,agg:=dW d,eqok:=!P.stoodInHeld t&&!P.eqGuardType P.depth t&&aBh d,kind:=cH P d,zv:=z }:=by
 unfold conv at h
 split at h
 ·rename_i n d h1 h2;split at h
  ·rename_i z hz;simp only [bG] at h;exact⟨n,d,z,h1,h2,hz,h.symm⟩
  ·cases h
 ·cases h
theorem vH {P:Program} {t:Nat} {n:TypeInfo} (h:P.info? t=some n)(W:World):(typeInfo t).run P W=.ok n W:=by simp [typeInfo,h]
theorem bB {P:Program} {t:Nat} {d:TypeDesc} (h:P.underlying t=some d)(W:World):(underlying t).run P W=.ok d W:=by simp [underlying,h]
theorem mN {P:Program} {t:Nat} {n:TypeInfo} (h:P.info? t=some n)(W:World):(sizeOf t).run P W=.ok n.size W:=by simp [sizeOf,vH h]
theorem fW {P:Program} {t:Nat} {n:TypeInfo} {z:Value} (h:P.info? t=some n)(hz:n.zero=some z)(W:World):(zeroValue t).run P W=.ok z W:=by simp [zeroValue,vH h,hz]
theorem aB9 {P:Program} {t:Nat} {d:TypeDesc} (h:P.underlying t=some d)(W:World):(isAgg t).run P W=.ok (dW d) W:=by
 simp only [isAgg,Sem.run_bind,bB h,Result.andThen_ok];cases d<;>rfl
theorem fE {P:Program} {t:Nat} (h:P.cellsOf t≠0)(W:World):(sizeOf t).run P W=.ok (P.cellsOf t) W:=by
 unfold Program.cellsOf at h ⊢;cases hi:P.info? t with
 | none=>simp [hi] at h
 | some n=>simp [mN hi]
inductive Ob where
 | eq (b c:Bool)
 | pr (p:Prop)
 | call (f:Nat) (args:List SV) (bs:List BK) (res:SV) (nb:List BK) (mb:List BK:=[])
inductive Or where
 | d (b:Bool)
 | ld (cells:List SV)
 | mp (es:List (SV×SV))
 | call (ks:List Nat) (res:SV) (nb:List BK) (mb:List BK:=[])
 | un (m:Nat)
 | stop (id:Nat)
 | alt (k:Nat) (b:BK)
def ev (sl:Nat->SV):Operand->SV | .tmp t=>sl t | .const (.bool b)=>.b b | .const v=>.v v | .global g=>.v (.pointer (some ⟨g,0,none⟩)) | .func f=>.v (.func (.func f) #[] #[])
theorem bW {w0:Cx} {N:Nat} {D:List Deferred} {ρ:Env} {s:FS} {a:Act} {W:World} (h:Rep w0 N D ρ s a W)(x:Operand):Rel ρ (ev s.sl x) (a.eval x):=by
 cases x with
 | tmp t=>exact h.sl t
 | const v=>cases v<;>simp [ev,Rel,Act.eval]
 | global g=>simp [ev,Rel,Act.eval]
 | func f=>simp [ev,Rel,Act.eval]
theorem qE {w0:Cx} {N:Nat} {D:List Deferred} {ρ:Env} {s:FS} {a:Act} {W:World} (h:Rep w0 N D ρ s a W)(x:Operand)(k:Nat)(hk:(ev s.sl x).has k):s.bk k≠.un:=by
 cases x with
 | tmp t=>exact h.wf1 t k hk
 | const v=>cases v<;>simp [ev,SV.has] at hk
 | global g=>simp [ev,SV.has] at hk
 | func f=>simp [ev,SV.has] at hk
def aPj (op:BinOp)(k:IntKind)(a b:Int):Option (SV×List Ob) :=
 match op with
 | .add=>some (.v (.int k (k.wrap (a+b))),[])
 | .sub=>some (.v (.int k (k.wrap (a - b))),[])
 | .mul=>some (.v (.int k (k.wrap (a*b))),[])
 | .quo=>some (.v (.int k (k.wrap (a.tdiv b))),[.pr (b≠0)])
 | .rem=>some (.v (.int k (a.tmod b)),[.pr (b≠0)])
 | .eql=>some (.v (.bool (a == b)),[])
 | .neq=>some (.v (.bool (a != b)),[])
 | .lss=>some (.v (.bool (a < b)),[])
 | .leq=>some (.v (.bool (a<=b)),[])
 | .gtr=>some (.v (.bool (a > b)),[])
 | .geq=>some (.v (.bool (a≥b)),[])
 | .shl=>some (.v (.int k (k.wrap (a*2 ^ (min b.toNat k.bits)))),[.pr (0<=b)])
 | .shr=>some (.v (.int k (a.fdiv (2 ^ (min b.toNat k.bits)))),[.pr (0<=b)])
 | .and=>some (.v (.int k (k.wrap (bO k.bits a &&& bO k.bits b).toNat)),[])
 | .or=>some (.v (.int k (k.wrap (bO k.bits a ||| bO k.bits b).toNat)),[])
 | .xor=>some (.v (.int k (k.wrap (bO k.bits a ^^^ bO k.bits b).toNat)),[])
 | _=>none
def eqC (T:Nat->Option TI):Nat->Nat->List SV->List SV->Option Bool
 | 0,_,_,_=>none
 | d+1,t,xs,ys =>
  match T t with
  | none=>none
  | some i =>
   match i.kind with
   | .int _ =>
    match xs,ys with
    | [.v (.int k a)],[.v (.int k' b)]=>if k=k' then some (a == b) else none
    | _,_=>none
   | .bool =>
    match xs,ys with
    | [.v (.bool a)],[.v (.bool b)]=>some (a == b)
    | [.b a],[.v (.bool b)]=>some (a == b)
    | [.v (.bool a)],[.b b]=>some (a == b)
    | [.b a],[.b b]=>some (a == b)
    | _,_=>none
   | .st fs =>
    match i.eqok with
    | true=>fs.foldr (fun f r=>if((xs.drop f.1).take f.2.2).length=f.2.2/\((ys.drop f.1).take f.2.2).length=f.2.2/\f.2.2≠0 then
     match eqC T d f.2.1 ((xs.drop f.1).take f.2.2) ((ys.drop f.1).take f.2.2),r with
     | some x,some y=>some (x&&y)
     | _,_=>none
     else none) (some true)
    | false=>none
   | .arr n e es =>
    match T e with
    | none=>none
    | some ei=>if es≠0/\ei.size=es then(List.range n).foldr (fun j r=>if((xs.drop (j*es)).take es).length=es/\((ys.drop (j*es)).take es).length=es then
     match eqC T d e ((xs.drop (j*es)).take es) ((ys.drop (j*es)).take es),r with
     | some x,some y=>some (x&&y)
     | _,_=>none
     else none) (some true) else none
   | _=>none
def pA (place:Nat->Option (Nat×Nat)):List SV->List (Nat×SV)->Option (List SV)
 | cells,[]=>some cells
 | cells,(i,x)::rest =>
  match place i with
  | none=>none
  | some (off,size)=>if x.known&&x.cells.length == size&&decide (off+size<=cells.length) then pA place (splice cells off x.cells) rest else none
theorem xG (off:Nat):∀(vs:List Value) (j:Nat) (cs:Array Value),off+j+vs.length<=cs.size ->
 (vs.zipIdx j).foldl (fun cs (c,j)=>cs.setIfInBounds (off+j) c) cs=(splice cs.toList (off+j) vs).toArray
 | [],j,cs,_=>by simp [splice]
 | v::vs,j,cs,h=>by
  simp only [List.length_cons] at h;simp only [List.zipIdx_cons,List.foldl_cons];rw [xG off vs (j+1) _ (by simp;omega)];congr 1;unfold splice;rw [show off+(j+1)=(off+j)+1 by omega,List.take_add_one];simp only [Array.toList_setIfInBounds,List.take_set_of_le (Nat.le_refl _),List.length_cons];rw [List.getElem?_set_self (by simp;omega)];simp only [Option.toList_some,List.append_assoc,List.cons_append,List.nil_append];rw [List.drop_set_of_lt oM];rw [show off+j+1+vs.length=off+j+(vs.length+1) by omega]
theorem aBi {ρ:Env} {place:Nat->Option (Nat×Nat)}:∀(ps:List (Nat×SV)) (qs:List (Nat×Value)) (cells:List SV) (cs:List Value) (r:List SV),
 ps.map (·.1)=qs.map (·.1)->Rels ρ (ps.map (·.2)) (qs.map (·.2))->Rels ρ cells cs->pA place cells ps=some r ->
 ∃vs,Instr.fill place cs.toArray qs=some vs.toArray/\Rels ρ r vs
 | [],[],cells,cs,r,_,_,hc,h=>by simp only [pA,bG] at h;subst h;exact⟨cs,rfl,hc⟩
 | [],_::_,_,_,_,h,_,_,_=>by simp at h
 | _::_,[],_,_,_,h,_,_,_=>by simp at h
 | (i,x)::ps,(j,y)::qs,cells,cs,r,h,hr,hc,hf=>by
  simp only [List.map_cons,List.cons.injEq] at h;obtain⟨rfl,h⟩:=h;simp only [List.map_cons,Rels] at hr;simp only [pA] at hf;simp only [Instr.fill];cases hp:place i with
  | none=>rw [hp] at hf;cases hf
  | some os =>
   obtain⟨off,size⟩:=os;rw [hp] at hf;simp only at hf;split at hf
   ·rename_i hcond;simp only [Bool.and_eq_true,beq_iff_eq,decide_eq_true_eq] at hcond;obtain⟨⟨hk,hl⟩,ho⟩:=hcond;have hxc:=Rel.cells hr.1 hk;have hsz:y.cells.size=size:=by rw [←hl,hxc.length];simp
    have hlen:=hc.length;have:¬(y.cells.size≠size\/off+y.cells.size > cs.length):=by omega
    simp only [List.size_toArray,ne_eq,gt_iff_lt,decide_not,Bool.or_eq_true,Bool.not_eq_true',decide_eq_false_iff_not,decide_eq_true_eq];rw [if_neg oM];have hz:(y.cells.zipIdx.foldl (fun cs (c,j)=>cs.setIfInBounds (off+j) c) cs.toArray)=(splice cs off y.cells.toList).toArray:=by
     rw [←Array.foldl_toList,Array.toList_zipIdx];have:=xG off y.cells.toList 0 cs.toArray (by simp;omega);simpa using this
    rw [hz];exact aBi ps qs _ _ r h hr.2 (Rels.splice off hc hxc) hf
   ·cases hf
def SV.nb:SV->SV | .b x=>.v (.bool x) | y=>y
theorem aLg {ρ:Env} {y:SV} {v:Value} (h:Rel ρ y v):Rel ρ y.nb v:=by
 cases y<;>first | exact h | (simp only [SV.nb,Rel] at h ⊢;exact h)
theorem aYa {k:Nat} {y:SV} (h:y.nb.has k):y.has k:=by
 cases y<;>first | exact h | (simp only [SV.nb,SV.has] at h)
def jS (op:Op)(xs:List SV):List Nat :=
 match op,xs with
 | .load _ _,.p k _::_=>[k]
 | .store _ _ _,.p k _::_=>[k]
 | .slice _ _ _ _ _,.p k _::_=>[k]
 | .slice _ _ _ _ _,.s k _ _ _::_=>[k]
 | .buildSlice _ _ _,[.s k _ _ _]=>[k]
 | .lookup _ _ _ _,.m k::_=>[k]
 | .mapUpdate _ _ _ _,.m k::_=>[k]
 | .insert _ _ _ _,.m k::_=>[k]
 | .mapEntry _ _ _,.m k::_=>[k]
 | .entryStore _ _ _ _,.m k::_=>[k]
 | .call { callee:=.builtin .append,.. },[.s k _ _ _,.s j _ _ _]=>[k,j]
 | .call { callee:=.builtin .append,.. },[.v _,.s j _ _ _]=>[j]
 | _,_=>[]
def mkV (agg:Bool)(cells:List SV):Option SV :=
 match agg,cells with
 | true,l=>some (.a l)
 | false,[x]=>some x
 | false,_=>none
def aQo (k:IntKind):Int->List SV->Option SV | a,[]=>some (.v (.int k a)) | a,.v (.int _ b)::l=>aQo k (if b < a then b else a) l | _,_=>none
def aQp (k:IntKind):Int->List SV->Option SV | a,[]=>some (.v (.int k a)) | a,.v (.int _ b)::l=>aQp k (if a < b then b else a) l | _,_=>none
def aYb (T:Nat->Option TI)(t:Nat):SV->Option SV
 | .s _ _ len _=>match T t with
  | some i=>match i.kind with
   | .slice _ _ _=>some (iv len)
   | _=>none
  | none=>none
 | .v (.slice _ len _)=>match T t with
  | some i=>match i.kind with
   | .slice _ _ _=>some (iv len)
   | _=>none
  | none=>none
 | _=>none
def xH (T:Nat->Option TI)(b:Builtin)(ts:List Nat)(xs:List SV):Option SV :=
 match b,ts,xs with
 | .len,t::_,[x]=>aYb T t x
 | .min,_,.v (.int k a)::l=>aQo k a l
 | .max,_,.v (.int k a)::l=>aQp k a l
 | _,_,_=>none
def aQq (op:UnOp):SV->Option SV
 | .b d=>match op with
  | .not=>some (.b (!d))
  | _=>none
 | .v (.bool c)=>match op with
  | .not=>some (.v (.bool (!c)))
  | _=>none
 | .v (.int k n)=>match op with
  | .neg=>some (.v (.int k (k.wrap (0 - n))))
  | _=>none
 | _=>none
def asB:SV->Option Bool | .b x=>some x | .v (.bool x)=>some x | _=>none
def aGm (T:Nat->Option TI)(op:BinOp)(t:Nat)(x y:SV):Option (SV×List Ob) :=
 match asB x,asB y,T t with
 | some a,some b,some i=>match i.kind with
  | .bool=>match op with
   | .eql=>some (.v (.bool (a == b)),[])
   | .neq=>some (.v (.bool (!(a == b))),[])
   | _=>none
  | _=>none
 | _,_,_=>none
def aLh (T:Nat->Option TI)(op:BinOp)(t:Nat):SV->SV->Option (SV×List Ob)
 | .s _ _ n _,.v (.slice none 0 0)=>match T t with
  | some i=>match i.kind with
   | .slice _ _ _=>match op with
    | .eql=>some (.v (.bool false),[.pr (n≠0)])
    | .neq=>some (.v (.bool true),[.pr (n≠0)])
    | _=>none
   | _=>none
  | none=>none
 | .v (.slice a _ _),.v (.slice none 0 0)=>match T t with
  | some i=>match i.kind with
   | .slice _ _ _=>match op with
    | .eql=>some (.v (.bool a.isNone),[])
    | .neq=>some (.v (.bool (!a.isNone)),[])
    | _=>none
   | _=>none
  | none=>none
 | _,_=>none
def aLi (T:Nat->Option TI)(op:BinOp)(t:Nat):SV->SV->Option (SV×List Ob)
 | .v (.int k a),.v (.int k' b) =>
  match op with
  | .shl=>aPj .shl k a b
  | .shr=>aPj .shr k a b
  | op=>if k=k' then aPj op k a b else none
 | .a xs,.a ys =>
  match T t with
  | some i =>
   if i.eqok&&i.agg then
    match op,eqC T 100 t xs ys with
    | .eql,some r=>some (.v (.bool r),[])
    | .neq,some r=>some (.v (.bool (!r)),[])
    | _,_=>none
   else none
  | none=>none
 | x,y=>match aLh T op t x y with
  | some r=>some r
  | none=>aGm T op t x y
def pB (fs:List (Nat×Nat×Nat))(i:Nat):Option (Nat×Nat) :=
 match fs[i]? with
 | some f=>if f.2.2=0 then none else some (f.1,f.2.2)
 | none=>none
def xI:List Nat->List SV->List (Nat×SV):=List.zip
def SV.unb:SV->SV | .b x=>.v (.bool x) | y=>y
def SV.plain:SV->Bool | .v _=>true | .b _=>true | .d _ _ _=>true | _=>false
def aIy (es:List (SV×SV))(k:SV)(r:Option (Nat×SV)):Prop := (∃i v,es[i]? = some (k,v)/\(∀j e,j < i->es[j]? = some e->e.1≠k)/\r=some (i,v))\/((∀e∈es,e.1≠k)/\r=none)
def aUv (es:List (SV×SV))(k v:SV)(es':List (SV×SV)):Prop :=
 ∃q,aIy es k q/\es'=match q with
  | some (i,_)=>es.set i (k,v)
  | none=>es++[(k,v)]
def bA3 (es:List (SV×SV))(k z:SV)(es':List (SV×SV))(v:SV)(i:Nat):Prop :=
 ∃q,aIy es k q/\match q with
  | some (j,x)=>es'=es/\v=x/\i=j
  | none=>es'=es++[(k,z)]/\v=z/\i=es.length
def SV.prim:SV->Bool | .v (.int _ _)=>true | .v (.bool _)=>true | _=>false
def rB (T:Nat->Option TI)(t:Nat)(k:SV):Bool:=(eqC T 100 t k.cells k.cells).isSome&&k.cells.all SV.prim&&(match T t with
 | some i=>match i.agg,k with
  | true,.a _=>true
  | false,y=>y.prim
  | _,_=>false
 | none=>false)
def qF (T:Nat->Option TI)(t:Nat)(es:List (SV×SV))(k:SV):Prop := ∀e∈es,rB T t e.1=true/\∃b,eqC T 100 t k.cells e.1.cells=some b/\(b=true↔e.1=k)
def zH (i:TI):Option SV:=match i.agg,i.zv with
 | true,.agg cs=>some (.a (cs.toList.map .v))
 | false,z=>some (.v z)
 | _,_=>none
theorem lH {l:List SV} (h:l.all SV.plain=true):Plain l:=fun k hk=>by
 rw [eP] at hk;obtain⟨x,hx,hk⟩:=hk;have:=List.all_eq_true.1 h x hx;cases x<;>simp [SV.plain] at this<;>simp [SV.has] at hk
def zI (off n es:Nat):BK->Option (List SV) | .live _ false cells=>if((cells.drop off).take (n*es)).length=n*es then some ((cells.drop off).take (n*es))else none | _=>none
def qG (T:Nat->Option TI)(ts:List TypeId)(xs:List SV)(bs:List BK)(fr:Nat):Option (Eff×List Ob) :=
 match ts with
 | [t,t']=>if t'=t then
  match T t with
  | none=>none
  | some i=>match i.kind with
   | .slice e es _=>match T e with
    | none=>none
    | some ei =>
     if es≠0/\ei.size=es/\ei.zero.length=es then
      match xs,bs with
      | [.v (.slice none 0 0),.s j off n es'],[src]=>if es'=es/\n≠0/\n<=2 ^ 40/\n*ei.bytes<=2 ^ 47 then
       match zI off n es src with
       | some new=>if new.all SV.one then some ({ val:=.s fr 0 n es,ups:=[(fr,.live true false new)] },[]) else none
       | none=>none
       else none
      | [.s k 0 len es1,.s j off n es'],[.live true sym cells,src]=>if es'=es/\es1=es/\n≠0 then
       match zI off n es src with
       | some new=>if new.all SV.one then
        match sym with
        | false=>if cells.length=len*es/\len+n<=2 ^ 40/\(len+n)*ei.bytes<=2 ^ 47 then some ({ val:=.s fr 0 (len+n) es,ups:=[(k,.dead),(fr,.live true false (cells++new))] },[]) else none
        | true=>if new.all SV.plain=false then none else some ({ val:=.s fr 0 (len+n) es,ups:=[(k,.dead),(fr,.live true true (cells++new))] },[.pr (cells.length=len*es/\len+n<=2 ^ 40/\(len+n)*ei.bytes<=2 ^ 47)])
        else none
       | none=>none
       else none
      | _,_=>none
     else none
   | _=>none
  else none
 | _=>none
def nW (T:Nat->Option TI)(ts:List TypeId)(xs:List SV)(bs:List BK)(fr:Nat):Option (Eff×List Ob) :=
 match ts with
 | [t,t']=>if t'=t then
  match T t with
  | none=>none
  | some i=>match i.kind with
   | .slice e es _=>match T e with
    | none=>none
    | some ei =>
     if es≠0/\ei.size=es/\ei.zero.length=es then
      match xs,bs with
      | [.v (.slice none 0 0),.s j 0 n es'],[.live _ true new]=>if es'=es then
       some ({ val:=.s fr 0 n es,ups:=[(fr,.live true true new)] },[.pr (new.length=n*es/\new.all SV.one=true/\n<=2 ^ 40/\n*ei.bytes<=2 ^ 47)])
       else none
      | [.s k 0 len es1,.s j 0 n es'],[.live true sym cells,.live _ true new]=>if es'=es/\es1=es/\(sym || cells.all SV.plain)=true then
       some ({ val:=.s fr 0 (len+n) es,ups:=[(k,.dead),(fr,.live true true (cells++new))] },[.pr (cells.length=len*es/\new.length=n*es/\new.all SV.one=true/\len+n<=2 ^ 40/\(len+n)*ei.bytes<=2 ^ 47)])
       else none
      | [.s k 0 len es1,.v (.slice _ 0 _)],_=>if es1=es then some ({ val:=.s k 0 len es1,ups:=[(fr,.dead)] },[]) else none
      | _,_=>none
     else none
   | _=>none
  else none
 | _=>none
structure Vw where
 k:Nat
 off:Nat
 len:Nat
 es:Nat
 l:Int
 h:Int
def aNe (lo hi mx:Option Operand)(xs:List SV)(orc:List Or):Option (Vw×List SV×List Or) :=
 match orc with
 | .ld r::orc'=>match lo,hi,mx,xs with
  | none,none,none,[.s k off len es]=>some (⟨k,off,len,es,0,len⟩,r,orc')
  | some _,none,none,[.s k off len es,.v (.int _ l)]=>some (⟨k,off,len,es,l,len⟩,r,orc')
  | none,some _,none,[.s k off len es,.v (.int _ h)]=>some (⟨k,off,len,es,0,h⟩,r,orc')
  | some _,some _,none,[.s k off len es,.v (.int _ l),.v (.int _ h)]=>some (⟨k,off,len,es,l,h⟩,r,orc')
  | _,_,_,_=>none
 | _=>none
def aYc (lo hi mx:Option Operand)(xs:List SV)(orc:List Or):Option (Vw×List Or) :=
 match orc with
 | .mp []::orc'=>match aNe lo hi mx xs (.ld []::orc') with
  | some (v,_,o)=>some (v,o)
  | none=>none
 | _=>none
def SV.flatV:SV->Option Value | .v x=>some x | .b x=>some (.bool x) | _=>none
def SV.flatVs:List SV->Option (List Value)
 | []=>some []
 | x::l=>match SV.flatV x,SV.flatVs l with
  | some y,some ys=>some (y::ys)
  | _,_=>none
def SV.toV:SV->Option Value
 | .a l=>match SV.flatVs l with
  | some ys=>some (.agg ys.toArray)
  | none=>none
 | x=>SV.flatV x
def ofV:Value->SV | .agg l=>.a (l.toList.map .v) | x=>.v x
def aNf (T:Nat->Option TI)(op:Op)(xs:List SV)(bs:List BK)(fr:Nat)(orc:List Or):Option (Eff×List Ob×List Or) :=
 match op with
 | .move _ | .assign _=>match xs with
  | [x]=>some ({ val:=x },[],orc)
  | _=>none
 | .pick _ _ _=>match xs with
  | [.b d,x,y]=>some ({ val:=match d with | true=>x | false=>y },[],orc)
  | _=>none
 | .alloc t=>match T t with
  | some i=>some ({ val:=.p fr 0,ups:=[(fr,.live true false (i.zero.map .v))] },[],orc)
  | none=>none
 | .box t _=>match xs with
  | [x]=>if x.known then some ({ val:=.p fr 0,ups:=[(fr,.live true false x.cells)] },[],orc) else none
  | _=>none
 | .makeInterface t _=>match xs,T t with
  | [x],some i=>match i.kind,SV.toV x with
   | .st _,some v=>some ({ val:=.v (.iface t v) },[],orc)
   | _,_=>none
  | _,_=>none
 | .typeAssert _ _ t true=>match xs,T t with
  | [.v (.iface t' v)],some i=>match i.kind with
   | .st _=>if t'=t then some ({ val:=.t [ofV v,.b true] },[],orc) else some ({ val:=.t [ofV i.zv,.b false] },[],orc)
   | _=>none
  | _,_=>none
 | .build t parts=>match T t with
  | some i=>match i.kind with
   | .st fs=>match pA (pB fs) (i.zero.map .v) (xI (parts.toList.map (·.1)) xs) with
    | some cells=>if fs.all (fun f=>decide (f.2.2≠0)) then some ({ val:=.a (cells.map SV.unb) },[],orc) else none
    | none=>none
   | .arr n e es=>match pA (fun i=>some (i*es,es)) (i.zero.map .v) (xI (parts.toList.map (·.1)) xs) with
    | some cells=>if es=0 then none else some ({ val:=.a cells },[],orc)
    | none=>none
   | _=>none
  | none=>none
 | .buildSlice t len parts=>match T t with
  | some i=>match i.kind with
   | .slice e es _=>match T e with
    | some ei=>if es≠0/\len*es<=2 ^ 24/\ei.zero.length=es then
     match parts.toList.map (·.1),xs,bs with
     | [0],[.s k 0 n es'],[.live true sym kc]=>if len=1/\es=1/\(sym || kc.all SV.plain)=true then some ({ val:=.s fr 0 1 1,ups:=[(k,.dead),(fr,.live true false [.d kc n es'])] },[.pr (kc.length=n*es')],orc) else none
     | _,_,_ =>
     match pA (fun i=>some (i*es,es)) ((List.range (len*es)).map fun i=>.v (ei.zero.getD (i % es) undef)) (xI (parts.toList.map (·.1)) xs) with
     | some cells=>if cells.length=len*es then some ({ val:=.s fr 0 len es,ups:=[(fr,.live true false cells)] },[],orc) else none
     | none=>none
     else none
    | none=>none
   | _=>none
  | none=>none
 | .load t _=>match xs,bs,T t with
  | [.p k off],[.live own sym cells],some i =>
   match sym with
   | false=>if((cells.drop off).take i.size).length=i.size then
    match mkV i.agg ((cells.drop off).take i.size) with
    | some (.d dc len es)=>some ({ val:=.s fr 0 len es,ups:=[(fr,.live false true dc)] },[.pr (Plain dc)],orc)
    | some x=>some ({ val:=x },[],orc)
    | none=>none
    else none
   | true=>match orc with
    | .ld r::orc=>if r.length=i.size then
     match mkV i.agg r with
     | some (.d dc len es)=>some ({ val:=.s fr 0 len es,ups:=[(fr,.live false true dc)] },[.pr ((cells.drop off).take i.size=r),.pr (Plain dc)],orc)
     | some x=>some ({ val:=x },[.pr ((cells.drop off).take i.size=r)],orc)
     | none=>none
     else none
    | _=>none
  | _,_,_=>none
 | .store t _ _=>match xs,bs,T t with
  | [.p k off,x],[.live true sym cells],some i =>
   if x.known&&x.cells.length == i.size&&x.cells.all SV.one then
    match sym with
    | false=>if off+i.size<=cells.length then some ({ val:=.v undef,ups:=[(k,.live true false (splice cells off x.cells))] },[],orc) else none
    | true=>if x.nb.known&&x.nb.cells.length == i.size&&x.nb.cells.all SV.one&&x.nb.cells.all SV.plain then some ({ val:=.v undef,ups:=[(k,.live true true (splice cells off x.nb.cells))] },[.pr (off+i.size<=cells.length)],orc) else none
   else none
  | _,_,_=>none
 | .fieldAddr t _ f=>match xs,T t with
  | [.p k off],some i=>match i.kind with
   | .st fs=>match pB fs f with
    | some fd=>some ({ val:=.p k (off+fd.1) },[],orc)
    | none=>none
   | _=>none
  | _,_=>none
 | .indexAddr t _ _=>match xs,T t with
  | [.p k off,.v (.int _ n)],some i=>match i.kind with
   | .arr len e es=>if es=0 then none else some ({ val:=.p k (off+n.toNat*es) },[.pr (0<=n/\n < len)],orc)
   | _=>none
  | [.s k off len es',.v (.int _ n)],some i=>match i.kind with
   | .slice e es _=>if es=0 then none else some ({ val:=.p k (off+n.toNat*es) },[.pr (0<=n/\n < len)],orc)
   | _=>none
  | _,_=>none
 | .slice t _ lo hi mx=>match aNe lo hi mx xs orc with
  | some (v,r,orc')=>match bs,T t with
   | [.live own sym cells],some i=>match i.kind with
    | .slice e es _=>if es=v.es/\es≠0/\(sym || cells.all SV.plain)=true then
     some ({ val:=.s fr 0 (v.h.toNat - v.l.toNat) es,ups:=[(v.k,.live false true cells),(fr,.live false true r)] },[.pr (0<=v.l/\v.l<=v.h/\v.h<=v.len),.pr (r=(cells.drop (v.off+v.l.toNat*es)).take ((v.h.toNat - v.l.toNat)*es))],orc')
     else none
    | _=>none
   | _,_=>none
  | none=>match aYc lo hi mx xs orc with
  | some (v,orc')=>match T t with
   | some i=>match i.kind with
    | .slice e es _=>if es=v.es/\es≠0 then
     some ({ val:=.s v.k (v.off+v.l.toNat*es) (v.h.toNat - v.l.toNat) es },[.pr (0<=v.l/\v.l<=v.h/\v.h<=v.len)],orc')
     else none
    | _=>none
   | none=>none
  | none=>match lo,hi,mx,xs,bs,T t with
  | none,none,none,[.p k off],[.live own false cells],some i=>match i.kind with
   | .arr len e es=>if es≠0/\off+len*es<=cells.length then some ({ val:=.s k off len es },[],orc) else none
   | _=>none
  | some _,none,none,[.s k off len es',.v (.int _ n)],_,some i=>match i.kind with
   | .slice e es _=>if es=es'/\es≠0 then some ({ val:=.s k (off+n.toNat*es) (len - n.toNat) es },[.pr (0<=n/\n<=len)],orc) else none
   | _=>none
  | _,_,_,_,_,_=>none
 | .index t _ _=>match xs,T t with
  | [.a cells,.v (.int _ n)],some i=>match i.kind with
   | .arr len e es=>match T e with
    | some ei=>if es=0\/ei.size≠es then none else if((cells.drop (n.toNat*es)).take es).length=es then
     match mkV ei.agg ((cells.drop (n.toNat*es)).take es) with
     | some v=>some ({ val:=v },[.pr (0<=n/\n < len)],orc)
     | none=>none
     else none
    | none=>none
   | _=>none
  | _,_=>none
 | .binOp op t _ _ _=>match xs with
  | [x,y]=>match aLi T op t x y with
   | some (r,obs)=>some ({ val:=r },obs,orc)
   | none=>none
  | _=>none
 | .unOp op _ _=>match xs with
  | [x]=>match aQq op x with
   | some r=>some ({ val:=r },[],orc)
   | none=>none
  | _=>none
 | .convert src dst _=>match xs,T dst,T src with
  | [.v (.int k n)],some i,some j=>match i.kind,j.kind with
   | .int k',.int _=>some ({ val:=.v (.int k' (k'.wrap n)) },[],orc)
   | _,_=>none
  | _,_,_=>none
 | .extract _ i=>match xs with
  | [.t l]=>match l[i]? with
   | some x=>some ({ val:=x },[],orc)
   | none=>none
  | _=>none
 | .makeSlice t _ _=>match xs,T t,orc with
  | [.v (.int _ n),.v (.int _ m)],some i,.ld r::orc=>match i.kind with
   | .slice e es _=>match T e with
    | some ei=>if es≠0/\ei.size=es/\ei.zero.length=es then
     some ({ val:=.s fr 0 n.toNat es,ups:=[(fr,.live true true r)] },[.pr (0<=n/\n.toNat*ei.bytes<=2 ^ 47/\n<=2 ^ 47),.pr (m=n),.pr (r=(List.replicate n.toNat (ei.zero.map SV.v)).flatten)],orc)
     else none
    | none=>none
   | _=>none
  | _,_,_=>none
 | .makeMap t _=>match T t,xs with
  | some i,[]=>match i.kind with
   | .map _ _=>some ({ val:=.m fr,ups:=[(fr,.map [])] },[],orc)
   | _=>none
  | _,_=>none
 | .lookup t _ _ ok=>match xs,bs,T t,orc with
  | [.m k,x],[.map es],some i,.ld [v]::orc=>match i.kind with
   | .map kt et=>match T et with
    | some ei=>match zH ei with
     | some z=>if rB T kt x then match ok with
      | false=>some ({ val:=v },[.pr (qF T kt es x),.pr (∃q,aIy es x q/\v=(q.map (·.2)).getD z)],orc)
      | true=>match v with
       | .t [w,.v (.bool b)]=>some ({ val:=.t [w,.v (.bool b)] },[.pr (qF T kt es x),.pr (∃q,aIy es x q/\w=(q.map (·.2)).getD z/\b=q.isSome)],orc)
       | _=>none
      else none
     | none=>none
    | none=>none
   | _=>none
  | _,_,_,_=>none
 | .mapUpdate t _ _ _ | .insert t _ _ _=>match xs,bs,T t,orc with
  | [.m k,x,y],[.map es],some i,.mp es'::orc=>match i.kind with
   | .map kt et=>if rB T kt x&&y.nb.known then some ({ val:=.v undef,ups:=[(k,.map es')] },[.pr (qF T kt es x),.pr (aUv es x y.nb es'),.pr (Plain (kE es'))],orc) else none
   | _=>none
  | _,_,_,_=>none
 | .mapEntry t _ _=>match xs,bs,T t,orc with
  | [.m k,x],[.map es],some i,.mp es'::.ld [v,.v (.int .i64 n)]::orc=>match i.kind with
   | .map kt et=>match T et with
    | some ei=>match zH ei with
     | some z=>if rB T kt x then some ({ val:=.t [v,.v (.int .i64 n)],ups:=[(k,.map es')] },[.pr (qF T kt es x),.pr (∃j:Nat,n=(j:Int)/\bA3 es x z es' v j),.pr (Plain (kE es'))],orc) else none
     | none=>none
    | none=>none
   | _=>none
  | _,_,_,_=>none
 | .entryStore _ _ _ _=>match xs,bs,orc with
  | [.m k,.v (.int _ n),y],[.map es],.mp es'::orc=>if y.nb.known then some ({ val:=.v undef,ups:=[(k,.map es')] },[.pr (∃(j:Nat) (e:SV×SV),n=(j:Int)/\es[j]? = some e/\es'=es.set j (e.1,y.nb)),.pr (Plain (kE es'))],orc) else none
  | _,_,_=>none
 | .makeFunc (.func g) first captured=>if first.size=0/\g < 1000000 then some ({ val:=.f g xs },[],orc) else if captured.size=0 then some ({ val:=.f (g+1000000) xs },[],orc) else none
 | .nilCheck _=>match xs with
  | [.p k off]=>some ({ val:=.p k off },[],orc)
  | _=>none
 | .call { callee:=.builtin .append,args:=_,argTypes:=ts }=>match nW T ts.toList xs bs fr with
  | some (e,obs)=>some (e,obs,orc)
  | none=>match qG T ts.toList xs bs fr with
   | some (e,obs)=>some (e,obs,orc)
   | none=>none
 | .call { callee:=.builtin b,args:=_,argTypes:=ts }=>match xH T b ts.toList xs with
  | some r=>some ({ val:=r },[],orc)
  | none=>none
 | _=>none
def fQ (n:Nat)(mb nb:List BK)(j:Nat):BK:=if j < n then mb.getD j .un else nb.getD (j - n) .un
def vI (ρ:Env)(bs:List BK)(b:Nat):Prop:=∃i n,(bs.getD i .un).own/\ρ i=some (b,0,n)
def cO (ρ:Env)(W:World)(bs:List BK):Cx:={ w:=W,base:=bs.length,ρ:=ρ,own:=vI ρ bs }
def RR (cx:Cx)(res:SV)(nb mb:List BK)(e:Ending)(W':World):Prop := ∃(ρ':Env) (v:Value),e=.returned v/\(∀i,i < cx.base->ρ' i=cx.ρ i)/\Rel ρ' res v/\Kept cx.w cx.own W' /\ (∀j,BRep ρ' cx.mine W' j (fQ cx.base mb nb j))/\(∀j,(fQ cx.base mb nb j).pl) /\ (∀i j b n b' n',i≠j->(fQ cx.base mb nb i).own->(fQ cx.base mb nb j).own->ρ' i=some (b,0,n)->ρ' j=some (b',0,n')->b≠b') /\ cx.ρ.le ρ'/\(∀b o,ρ'.fz b=some o->W'.heap[b]? = some o.obj/\(∀j n,(fQ cx.base mb nb j).own->ρ' j≠some (b,0,n))/\(cx.ρ.fz b=some o\/cx.mine b))
def aUw (P:Program)(f:Nat)(args:List SV)(bs:List BK)(res:SV)(nb mb:List BK):Prop := ∀(ρ:Env) (W:World) (vs:List Value),Rels ρ args vs->(∀i,BRep ρ (cO ρ W bs).mine W i (bs.getD i .un))->(∀i,(bs.getD i .un).pl) -> (∀i j b n b' n',i≠j->(bs.getD i .un).own->(bs.getD j .un).own->ρ i=some (b,0,n)->ρ j=some (b',0,n')->b≠b') -> (∀b o,ρ.fz b=some o->W.heap[b]? = some o.obj/\∀i n,(bs.getD i .un).own->ρ i≠some (b,0,n)) -> Calls P f vs.toArray W (RR (cO ρ W bs) res nb mb)
def rC (P:Program)(g:Nat):Prop:=∀(args:Array Value) (w:World),(callFunc g args).run P w=.ok (.enter g args) w
def Con (P:Program)(f:Nat)(args:List SV)(bs:List BK)(res:SV)(nb:List BK)(mb:List BK:=[]):Prop:=rC P f/\aUw P f args bs res nb mb
def Ob.Holds (P:Program):Ob->Prop | .eq b c=>b=c | .pr p=>p | .call f args bs res nb mb=>Con P f args bs res nb mb
def Obs (P:Program):List Ob->Prop | []=>True | x::l=>x.Holds P/\Obs P l
theorem Obs.append {P:Program}:∀{l m:List Ob},Obs P (l++m)->Obs P l/\Obs P m
 | [],_,h=>⟨trivial,h⟩
 | _::_,_,h=>⟨⟨h.1,(Obs.append h.2).1⟩,(Obs.append h.2).2⟩
section
variable {P : Program} {T : Nat → Option TI} {w0 : Cx} {N : Nat} {D : List Deferred} {ρ : Env} {s : FS} {a : Act} {W : World}
def Does (P:Program)(w0:Cx)(N:Nat)(D:List Deferred)(s:FS)(a:Act)(W:World)(o:Oper)(e:Eff):Prop := ∃nx v W' ρ',(execOp a.eval o).run P W=.ok nx W'/\(nx=.value v\/(nx=.skip/\v=undef))/\Rep w0 N D ρ' (s.app o.dst e) (a.put o.dst v) W'
theorem fU (s:FS)(dst:Option Nat)(e:Eff):s.app dst e=(s.app none { val:=.u,ups:=e.ups }).app dst { val:=e.val }:=by
 cases dst<;>rfl
theorem Does.value {o:Oper} {x:SV} {y:Value} (h:Rep w0 N D ρ s a W)(hd:∀d,o.dst=some d->d < N)(hr:(execOp a.eval o).run P W=.ok (.value y) W)(hx:Rel ρ x y)(hw:∀k,x.has k->s.bk k≠.un) :
 Does P w0 N D s a W o { val:=x } :=
 ⟨_,y,W,ρ,hr,.inl rfl,h.put o.dst hd hx hw⟩
theorem Does.new {o:Oper} {x:SV} {y:Value} {fr:Nat} {cells:List SV} {vs rest:List Value} {ty:TypeId} (h:Rep w0 N D ρ s a W)(hd:∀d,o.dst=some d->d < N)(hfr:s.bk fr=.un)
 (hr:(execOp a.eval o).run P W=.ok (.value y) { W with heap:=W.heap.push (.cells (vs++rest).toArray ty) })
 (hc:Rels ρ cells vs) (hw:∀j,SV.hasl j cells->s.bk j≠.un)
 (hx:Rel (ρ.set fr (some (W.heap.size,0,(vs++rest).length))) x y) (hwx:∀k,x.has k->k=fr) :
 Does P w0 N D s a W o { val:=x,ups:=[(fr,.live true false cells)] }:=by
 have hn:=h.new hfr false ty hc hw trivial (rest:=rest);refine⟨_,y,_,ρ.set fr (some (W.heap.size,0,(vs++rest).length)),hr,.inl rfl,?_⟩;rw [fU];refine hn.put o.dst hd hx (fun k hk=>?_);rw [hwx k hk];simp [FS.app,cN]
theorem aGn {agg:Bool} {l:List SV} {m:List Value} {x:SV} (h:mkV agg l=some x)(hr:Rels ρ l m):Rel ρ x (if agg=true then .agg m.toArray else m.headD undef):=by
 cases agg
 case true=>simp only [mkV,bG] at h;subst h;simp only [if_true,Rel];exact⟨m,rfl,hr⟩
 match l,m,h,hr with
 | [x'],[y],h,hr =>
  simp only [mkV,bG] at h;subst h;simp only [Rels] at hr;simpa using hr.1
 | [],_,h,_=>simp [mkV] at h
 | [_],[],_,hr=>simp [Rels] at hr
 | [_],_::_::_,_,hr=>simp [Rels] at hr
 | _::_::_,_,h,_=>simp [mkV] at h
theorem aNg {agg:Bool} {l:List SV} {x:SV} {k:Nat} (h:mkV agg l=some x)(hk:x.has k):SV.hasl k l:=by
 cases agg
 case true=>simp only [mkV,bG] at h;subst h;simpa [SV.has] using hk
 match l,h with
 | [x'],h=>simp only [mkV,bG] at h;subst h;simp [SV.hasl,hk]
 | [],h=>simp [mkV] at h
 | _::_::_,h=>simp [mkV] at h
theorem aAp {t b o:Nat} {n:TypeInfo} {d:TypeDesc} (hi:P.info? t=some n)(hu:P.underlying t=some d) {vs:List Value} (hl:vs.length=n.size)
 (hone:dW d=false->vs≠[])
 (h:∀(j:Nat) (x:Value),vs[j]? = some x->W.cell? ⟨b,o+j,none⟩=some x) :
 (loadVar t ⟨b,o,none⟩).run P W=.ok (if dW d=true then .agg vs.toArray else vs.headD undef) W:=by
 simp only [loadVar,Sem.run_bind,aB9 hu,Result.andThen_ok];cases hd:dW d
 case true=>simp only [if_true,Sem.run_bind,mN hi,Result.andThen_ok,loadCells];rw [←hl,vG vs 0 #[] (fun j x hx=>by simpa using h j x hx)];simp
 match vs,hone hd with
 | y::rest,_ =>
  have:=h 0 y (by simp);simp only [Nat.add_zero] at this;simp [this]
 | [],hne=>exact(hne rfl).elim
theorem kF {k n:Nat} {l:List SV} (h:SV.hasl k (l.take n)):SV.hasl k l:=by
 rw [eP] at h ⊢;obtain⟨x,hx,hk⟩:=h;exact⟨x,List.mem_of_mem_take hx,hk⟩
theorem kG {k n:Nat} {l:List SV} (h:SV.hasl k (l.drop n)):SV.hasl k l:=by
 rw [eP] at h ⊢;obtain⟨x,hx,hk⟩:=h;exact⟨x,List.mem_of_mem_drop hx,hk⟩
theorem mO {k:Nat} {l m:List SV} (h:SV.hasl k (l++m)):SV.hasl k l\/SV.hasl k m:=by
 rw [eP] at h;obtain⟨x,hx,hk⟩:=h;rcases List.mem_append.1 hx with hx | hx
 ·exact .inl (eP.2 ⟨x,hx,hk⟩)
 ·exact .inr (eP.2 ⟨x,hx,hk⟩)
theorem sU {k off:Nat} {l m:List SV} (h:SV.hasl k (splice l off m)):SV.hasl k l\/SV.hasl k m:=by
 unfold splice at h;rcases mO h with h | h
 ·rcases mO h with h | h
  ·exact .inl (kF h)
  ·exact .inr h
 ·exact .inl (kG h)
theorem nR {k:Nat} {l:List Value}:¬SV.hasl k (l.map .v):=by
 rw [eP]
 rintro ⟨x,hx,hk⟩
 obtain⟨q,_,rfl⟩:=List.mem_map.1 hx;exact eO hk
theorem aIz (hrep:Rep w0 N D ρ s a W) {o:Oper} {t:TypeId} {x:Operand} (hop:o.op=.load t x) {k off:Nat} (hx:ev s.sl x=.p k off)
 {own sym:Bool} {cells r:List SV} (hb:s.bk k=.live own sym cells) {i:TI} (hc:conv P t=some i) (hr:(cells.drop off).take i.size=r) (hl:r.length=i.size) {v:SV} (hv:mkV i.agg r=some v) :
 ∃y,(execOp a.eval o).run P W=.ok (.value y) W/\Rel ρ v y/\∀j,v.has j->s.bk j≠.un:=by
 obtain⟨n,d,z,h1,h2,h3,rfl⟩:=bF hc;have hxr:=bW hrep x;rw [hx] at hxr;simp only [Rel] at hxr;obtain⟨b,o',m,hρ,hy⟩:=hxr;have hbk:=hrep.bk k;rw [hb] at hbk;rcases hbk.read with⟨he,_⟩ | ⟨b',o'',m',vs,e1,⟨e2,_⟩,_,e4⟩
 ·rw [hρ] at he;cases he
 rw [hρ] at e1;cases e1;have hrr:Rels ρ r ((vs.drop off).take n.size):=by rw [←hr];exact Rels.take _ (Rels.drop _ e2)
 have hlen:=hrr.length;refine⟨if dW d=true then .agg ((vs.drop off).take n.size).toArray else((vs.drop off).take n.size).headD undef,?_,aGn hv hrr,fun j hj=>?_⟩
 ·simp only [execOp,hop,hy];simp only [Instr.loadAt,Instr.sureAddr,Sem.run_bind,Sem.run_pure,Result.andThen_ok];rw [aAp h1 h2 (vs:=(vs.drop off).take n.size) (by rw [←hlen];exact hl) (fun hag hne=>?_) (fun j y hjy=>?_)]
  ·simp
  ·simp only at hv;rw [hag] at hv;rw [hne] at hlen;have:r=[]:=List.length_eq_zero_iff.1 (by simpa using hlen);rw [this] at hv;simp [mkV] at hv
  ·have hj:=(List.getElem?_eq_some_iff.1 hjy).1;rw [List.getElem?_take_of_lt (by simp at hj;omega),List.getElem?_drop] at hjy;have:=e4 (off+j) y hjy;rw [show o'+off+j=o'+(off+j) by omega];exact this
 ·have:=aNg hv hj;rw [←hr] at this;exact hrep.wf2 k j (by rw [hb];exact kG (kF this))
theorem aFq (hrep:Rep w0 N D ρ s a W) {o:Oper} {t:TypeId} {x:Operand} (hop:o.op=.load t x)(hd:∀d,o.dst=some d->d < N) {k off:Nat} (hx:ev s.sl x=.p k off)
 {own sym:Bool} {cells r:List SV} (hb:s.bk k=.live own sym cells) {i:TI} (hc:conv P t=some i) (hr:(cells.drop off).take i.size=r) (hl:r.length=i.size) {v:SV} (hv:mkV i.agg r=some v) :
 Does P w0 N D s a W o { val:=v }:=by
 obtain⟨y,h1,h2,h3⟩:=aIz hrep hop hx hb hc hr hl hv;exact Does.value hrep hd h1 h2 h3
theorem aCa (hrep:Rep w0 N D ρ s a W) {o:Oper} {t:TypeId} {x:Operand} (hop:o.op=.load t x)(hd:∀d,o.dst=some d->d < N) {k off:Nat} (hx:ev s.sl x=.p k off)
 {own sym:Bool} {cells r:List SV} (hb:s.bk k=.live own sym cells) {i:TI} (hc:conv P t=some i) (hr:(cells.drop off).take i.size=r) (hl:r.length=i.size) {dc:List SV} {len es fr:Nat} (hv:mkV i.agg r=some (.d dc len es))
 (hfr:s.bk fr=.un) (hpl:Plain dc) :
 Does P w0 N D s a W o { val:=.s fr 0 len es,ups:=[(fr,.live false true dc)] }:=by
 obtain⟨y,h1,h2,h3⟩:=aIz hrep hop hx hb hc hr hl hv;simp only [Rel] at h2;have hle:Env.le ⟨fun _=>none,ρ.fz⟩ (ρ.set fr none):=fun _ _ h=>h
 rcases h2 with⟨rfl,rfl,qa,rfl⟩ | ⟨b,o',cap,c,ty,fr',vs,rfl,hcap,hfz,hrel,hlen,hcell⟩
 ·have hn:=hrep.named hfr (qa.map fun q=>(q.block,q.off,0)) (cells:=[]) (match qa with
   | none=>.inl ⟨by simp,rfl⟩
   | some q=>.inr ⟨q.block,q.off,0,[],by simp,⟨by simp,fun hne=>absurd rfl hne⟩,trivial,fun i x hi=>by simp at hi⟩) hpl
  refine⟨_,_,W,ρ.set fr (qa.map fun q=>(q.block,q.off,0)),h1,.inl rfl,?_⟩;rw [fU];refine hn.put o.dst hd (match qa with
   | none=>by simp [Rel]
   | some q=>by simp only [Rel];exact .inr ⟨q.block,q.off,0,0,0,q.spot,by simp,rfl,Nat.le_refl _,by omega,fun h=>absurd rfl h⟩) (fun j hj=>?_)
  simp only [SV.has] at hj;subst hj;simp [FS.app,cN]
 ·have hheap:=(hrep.fzn b _ hfz).1;have hn:=hrep.named hfr (some (b,o',cap*es)) (cells:=dc) (.inr ⟨b,o',cap*es,vs,by simp,⟨by rw [hlen];exact Nat.mul_le_mul_right _ hcap,fun _ _=>⟨_,hfz⟩⟩,Plain.congr (ρ:=⟨fun _=>none,ρ.fz⟩) (fun _ _ h=>h) hpl hrel,fun i x hi=>by
   have:=hcell i x hi;simp [World.cell?,hheap,FC.obj,this]⟩) hpl
  refine⟨_,_,W,ρ.set fr (some (b,o',cap*es)),h1,.inl rfl,?_⟩;rw [fU];refine hn.put o.dst hd (by simp only [Rel];exact .inr ⟨b,o',cap*es,cap,0,none,by simp,rfl,hcap,by omega,fun _=>⟨rfl,rfl⟩⟩) (fun j hj=>?_);simp only [SV.has] at hj;subst hj;simp [FS.app,cN]
theorem aCb (hrep:Rep w0 N D ρ s a W) {o:Oper} {t:TypeId} {x y:Operand} (hop:o.op=.store t x y)(hd:∀d,o.dst=some d->d < N) {k off:Nat} (hx:ev s.sl x=.p k off)
 {sym:Bool} {cells:List SV} (hb:s.bk k=.live true sym cells) {i:TI} (hc:conv P t=some i) {v0 v:SV} (hv:ev s.sl y=v0) (hn:v0=v\/v0.nb=v) (hk:v.known=true) (hl:v.cells.length=i.size)
 (hone:v.cells.all SV.one=true) (hbd:off+i.size<=cells.length) (hpl:(BK.live true sym (splice cells off v.cells)).pl) :
 Does P w0 N D s a W o { val:=.v undef,ups:=[(k,.live true sym (splice cells off v.cells))] }:=by
 obtain⟨n,d,z,h1,h2,h3,rfl⟩:=bF hc;have hxr:=bW hrep x;rw [hx] at hxr;simp only [Rel] at hxr;obtain⟨b,o',m,hρ,hy⟩:=hxr;have hyr:Rel ρ v (a.eval y):=by
  have h:=bW hrep y;rw [hv] at h;rcases hn with rfl | rfl
  ·exact h
  ·exact aLg h
 have hcr:=Rel.cells hyr hk;have hbk:=hrep.bk k;rw [hb] at hbk;rcases hbk with⟨he,_⟩ | ⟨b',vs,rest,ty,e1,e2,e3,e4⟩
 ·rw [hρ] at he;cases he
 rw [hρ] at e1;simp only [bG,eA] at e1;obtain⟨rfl,rfl,rfl⟩:=e1;have hlen:=e3.length;have hlc:=hcr.length;simp only at hl hbd;obtain⟨W',hrun,ht⟩:=nV (P:=P) (b:=b) (o:=0+off) (ty:=ty) (a.eval y).cells.toList 0 W (vs++rest) e4 (Rels.ones hcr hone) (by simp only [List.length_append];omega);have hspl:splice (vs++rest) (0+off+0) (a.eval y).cells.toList=splice vs off (a.eval y).cells.toList++rest:=by
  rw [show 0+off+0=off by omega];exact aEz oM
 rw [hspl] at ht;have hlen2:(splice vs off (a.eval y).cells.toList++rest).length=(vs++rest).length:=by
  simp only [List.length_append];rw [aE0 oM]
 have hrep':=hrep.turn (k:=k) (vs':=splice vs off (a.eval y).cells.toList) (rest:=rest) hb (by rw [hlen2];exact hρ) e2 (Rels.splice off e3 hcr)
  (fun j hj=>by
   rcases sU hj with hj | hj
   ·exact hrep.wf2 k j (by rw [hb];exact hj)
   ·exact qE hrep y j (by
    rw [hv];rcases hn with rfl | rfl
    ·exact uD hj
    ·exact aYa (uD hj))) hpl ht
 refine⟨.skip,undef,W',ρ,?_,.inr ⟨rfl,rfl⟩,?_⟩
 ·simp only [execOp,hop,hy];simp only [Instr.storeAt,Instr.sureAddr,Sem.run_bind,Sem.run_pure,Result.andThen_ok,storeVar,mN h1];have hsz:(a.eval y).cells.size=n.size:=by rw [←hl,hlc];simp
  simp only [hsz,ne_eq,not_true_eq_false,if_false,Sem.run_pure,Result.andThen_ok];rw [hrun];simp
 ·rw [fU];exact hrep'.put o.dst hd (by simp [Rel]) (fun k hk=>(eO hk).elim)
theorem rD (t:TypeId)(cells:Array Value):(newRow t cells).run P W=.ok ⟨W.heap.size,0,none⟩ { W with heap:=W.heap.push (.cells cells t) }:=by
 simp [newRow]
theorem aLj (hrep:Rep w0 N D ρ s a W) {o:Oper} {t:TypeId} (hop:o.op=.alloc t)(hd:∀d,o.dst=some d->d < N) {i:TI} (hc:conv P t=some i) {fr:Nat} (hfr:s.bk fr=.un) :
 Does P w0 N D s a W o { val:=.p fr 0,ups:=[(fr,.live true false (i.zero.map .v))] }:=by
 obtain⟨n,d,z,h1,h2,h3,rfl⟩:=bF hc;refine Does.new (vs:=z.cells.toList) (rest:=[]) (ty:=t) (y:=.pointer (some ⟨W.heap.size,0,none⟩)) hrep hd hfr ?_ (Rels.vals _) (fun j hj=>(nR hj).elim) ?_ (by simp [SV.has])
 ·simp only [execOp,hop,Instr.alloc,Sem.run_bind,fW h1 h3,Result.andThen_ok];simp [newVar,rD]
 ·simp [Rel]
theorem aQr (hrep:Rep w0 N D ρ s a W) {o:Oper} {t:TypeId} {x:Operand} (hop:o.op=.box t x)(hd:∀d,o.dst=some d->d < N) {v:SV} (hv:ev s.sl x=v)(hk:v.known=true) {fr:Nat} (hfr:s.bk fr=.un) :
 Does P w0 N D s a W o { val:=.p fr 0,ups:=[(fr,.live true false v.cells)] }:=by
 have hxr:=bW hrep x;rw [hv] at hxr;refine Does.new (vs:=(a.eval x).cells.toList) (rest:=[]) (ty:=t) (y:=.pointer (some ⟨W.heap.size,0,none⟩)) hrep hd hfr ?_ (Rel.cells hxr hk)
  (fun j hj=>qE hrep x j (by rw [hv];exact uD hj)) ?_ (by simp [SV.has])
 ·simp only [execOp,hop,Instr.box,Sem.run_bind];simp [newVar,rD]
 ·simp [Rel]
end
end Go.Aw
namespace Go.Aw
open Go.RowKit
section
variable {P : Program} {T : Nat → Option TI} {w0 : Cx} {N : Nat} {D : List Deferred} {ρ : Env} {s : FS} {a : Act} {W : World}
theorem lW (h:Rep w0 N D ρ s a W):∀(l:List Operand),Rels ρ (l.map (ev s.sl)) (l.map a.eval)
 | []=>by simp [Rels]
 | x::l=>by simp only [List.map_cons,Rels];exact⟨bW h x,lW h l⟩
theorem vY (h:Rep w0 N D ρ s a W) {l:List Operand} {k:Nat} (hk:SV.hasl k (l.map (ev s.sl))):s.bk k≠.un:=by
 rw [eP] at hk;obtain⟨x,hx,hk⟩:=hk;obtain⟨y,_,rfl⟩:=List.mem_map.1 hx;exact qE h y k hk
theorem uE {place:Nat->Option (Nat×Nat)} {k:Nat}:∀(ps:List (Nat×SV)) (cells r:List SV),pA place cells ps=some r->SV.hasl k r->SV.hasl k cells\/SV.hasl k (ps.map (·.2))
 | [],cells,r,h,hk=>by simp only [pA,bG] at h;subst h;exact .inl hk
 | (i,x)::ps,cells,r,h,hk=>by
  simp only [pA] at h;split at h
  ·cases h
  ·split at h
   ·rcases uE ps _ r h hk with h' | h'
    ·rcases sU h' with h' | h'
     ·exact .inl h'
     ·exact .inr (by simp only [List.map_cons,SV.hasl];exact .inl (uD h'))
    ·exact .inr (by simp only [List.map_cons,SV.hasl];exact .inr h')
   ·cases h
theorem aCc (P:Program)(W:World):∀(fs:List Field),(∀f∈fs,P.cellsOf f.type≠0) ->
 ∀(acc:Array (Nat×Nat)),(fs.foldlM (fun(acc:Array (Nat×Nat)) f=>do pure (acc.push (f.offset,←sizeOf f.type))) acc:Sem _).run P W=.ok (acc++(fs.map fun f=>(f.offset,P.cellsOf f.type)).toArray) W
 | [],_,acc=>by simp
 | f::fs,h,acc=>by
  simp only [List.foldlM_cons,Sem.run_bind,fE (h f (by simp)),Result.andThen_ok,Sem.run_pure];rw [aCc P W fs (fun g hg=>h g (by simp [hg]))];simp
theorem aA9 (fs:Array Field)(h:∀f∈fs.toList,P.cellsOf f.type≠0) :
 (fs.mapM (fun f=>do pure (f.offset,←sizeOf f.type)):Sem (Array (Nat×Nat))).run P W=.ok (fs.toList.map fun f=>(f.offset,P.cellsOf f.type)).toArray W:=by
 rw [Array.mapM_eq_foldlM,←Array.foldlM_toList];have:=aCc P W fs.toList h #[];simp only [Array.empty_append,List.append_toArray,List.nil_append] at this;rw [←this];congr 1;congr 1
 funext acc f
 simp [bind_pure_comp]
theorem zJ (s:FS)(a:Act)(parts:Array (Nat×Operand)) :
 (xI (parts.toList.map (·.1)) ((parts.toList.map (·.2)).map (ev s.sl))).map (·.1)=(parts.map fun(i,x)=>(i,a.eval x)).toList.map (·.1):=by
 unfold xI;rw [List.map_fst_zip (by simp)];simp only [Array.toList_map,List.map_map];rfl
theorem lI (s:FS)(parts:Array (Nat×Operand)) :
 (xI (parts.toList.map (·.1)) ((parts.toList.map (·.2)).map (ev s.sl))).map (·.2)=(parts.toList.map (·.2)).map (ev s.sl):=by
 unfold xI;rw [List.map_snd_zip (by simp)]
theorem vZ (a:Act)(parts:Array (Nat×Operand)):(parts.map fun(i,x)=>(i,a.eval x)).toList.map (·.2)=(parts.toList.map (·.2)).map a.eval:=by
 simp only [Array.toList_map,List.map_map];rfl
theorem aI0 {ρ:Env}:∀{l:List SV} {m:List Value},Rels ρ l m->Rels ρ (l.map SV.unb) m
 | [],[],h=>h
 | [],_::_,h=>h
 | _::_,[],h=>by simp [Rels] at h
 | x::l,y::m,h=>by
  simp only [List.map_cons,Rels] at h ⊢;exact⟨by cases x<;>first | exact h.1 | simpa [SV.unb,Rel] using h.1,aI0 h.2⟩
theorem aQs {k:Nat} {l:List SV} (h:SV.hasl k (l.map SV.unb)):SV.hasl k l:=by
 rw [eP] at h ⊢;obtain⟨x,hx,hk⟩:=h;obtain⟨y,hy,rfl⟩:=List.mem_map.1 hx;exact⟨y,hy,by cases y<;>first | exact hk | simp [SV.unb,SV.has] at hk⟩
theorem aFr {ρ:Env} {x:SV} {y v:Value} (h:SV.flatV x=some v)(hr:Rel ρ x y):y=v:=by
 cases x<;>simp only [SV.flatV,bG,reduceCtorEq] at h<;>subst h<;>simpa [Rel] using hr
theorem aCd {ρ:Env}:∀{l:List SV} {vs m:List Value},SV.flatVs l=some m->Rels ρ l vs->vs=m
 | [],vs,m,h,hr=>by
  cases vs with
  | nil=>simp only [SV.flatVs,bG] at h;exact h
  | cons _ _=>simp [Rels] at hr
 | x::l,vs,m,h,hr=>by
  cases vs with
  | nil=>simp [Rels] at hr
  | cons y vs =>
   simp only [Rels] at hr;simp only [SV.flatVs] at h;split at h
   ·rename_i v k h1 h2;simp only [bG] at h;subst h;rw [aFr h1 hr.1,aCd h2 hr.2]
   ·cases h
theorem aUx {ρ:Env} {x:SV} {y v:Value} (h:SV.toV x=some v)(hr:Rel ρ x y):y=v:=by
 cases x with
 | a l =>
  simp only [SV.toV] at h;split at h
  ·rename_i m hm;simp only [bG] at h;subst h;simp only [Rel] at hr;obtain⟨vs,e,hs⟩:=hr;rw [e,aCd hm hs]
  ·cases h
 | _=>simp only [SV.toV] at h;exact aFr h hr
theorem aNh (ρ:Env)(v:Value):Rel ρ (ofV v) v:=by
 cases v<;>simp only [ofV,Rel];rename_i l;exact⟨l.toList,by simp,Rels.vals _⟩
theorem aNi {k:Nat} (v:Value):¬(ofV v).has k:=by
 cases v<;>simp only [ofV,SV.has,not_false_eq_true];exact fun h=>nR h
theorem aLk (hrep:Rep w0 N D ρ s a W) {o:Oper} {t:TypeId} {x:Operand} (hop:o.op=.makeInterface t x)(hd:∀d,o.dst=some d->d < N) {i:TI} (hc:conv P t=some i) {fs:List (Nat×Nat×Nat)} (hk:i.kind=.st fs) {v:Value} (hv:SV.toV (ev s.sl x)=some v) :
 Does P w0 N D s a W o { val:=.v (.iface t v) }:=by
 obtain⟨n,d,z,h1,h2,h3,rfl⟩:=bF hc;simp only at hk;have hy:=aUx hv (bW hrep x);cases d with
 | struct fields =>
  refine Does.value hrep hd (y:=.iface t v) ?_ (by simp only [Rel]) (fun k hk=>by simp only [SV.has] at hk);simp only [execOp,hop,Instr.makeInterface,Sem.run_bind,bB h2,Result.andThen_ok,hy,Sem.run_pure]
 | _=>simp [cH] at hk
theorem aI1 (hrep:Rep w0 N D ρ s a W) {o:Oper} {t xt:TypeId} {x:Operand} (hop:o.op=.typeAssert x xt t true)(hd:∀d,o.dst=some d->d < N) {i:TI} (hc:conv P t=some i) {fs:List (Nat×Nat×Nat)} (hk:i.kind=.st fs) {t':TypeId} {v:Value} (hv:ev s.sl x=.v (.iface t' v)) :
 Does P w0 N D s a W o { val:=if t'=t then .t [ofV v,.b true] else .t [ofV i.zv,.b false] }:=by
 obtain⟨n,d,z,h1,h2,h3,rfl⟩:=bF hc;simp only at hk;have hy:=bW hrep x;rw [hv] at hy;simp only [Rel] at hy;cases d with
 | struct fields =>
  by_cases he:t'=t
  ·rw [if_pos he];refine Does.value hrep hd (y:=.tuple #[v,.bool true]) ?_ ?_ (fun k hk=>?_)
   ·simp only [execOp,hop,Instr.typeAssert,Sem.run_bind,bB h2,Result.andThen_ok,hy,he,if_true,Sem.run_pure]
   ·simp only [Rel];exact⟨[v,.bool true],rfl,aNh ρ v,by simp only [Rel],trivial⟩
   ·simp only [SV.has,SV.hasl,or_false] at hk;exact(aNi v hk).elim
  ·rw [if_neg he];refine Does.value hrep hd (y:=.tuple #[z,.bool false]) ?_ ?_ (fun k hk=>?_)
   ·simp only [execOp,hop,Instr.typeAssert,Sem.run_bind,bB h2,Result.andThen_ok,hy,he,if_false,if_true,fW h1 h3,Sem.run_pure]
   ·simp only [Rel];exact⟨[z,.bool false],rfl,aNh ρ z,by simp only [Rel],trivial⟩
   ·simp only [SV.has,SV.hasl,or_false] at hk;exact(aNi z hk).elim
 | _=>simp [cH] at hk
theorem aE1 (hrep:Rep w0 N D ρ s a W) {o:Oper} {t:TypeId} {parts:Array (Nat×Operand)} (hop:o.op=.build t parts)(hd:∀d,o.dst=some d->d < N) {i:TI} (hc:conv P t=some i) {fs:List (Nat×Nat×Nat)}
 (hk:i.kind=.st fs) {cells:List SV}
 (hf:pA (pB fs) (i.zero.map .v) (xI (parts.toList.map (·.1)) ((parts.toList.map (·.2)).map (ev s.sl)))=some cells)
 (hall:fs.all (fun f=>decide (f.2.2≠0))=true) :
 Does P w0 N D s a W o { val:=.a (cells.map SV.unb) }:=by
 obtain⟨n,d,z,h1,h2,h3,rfl⟩:=bF hc;simp only at hk hf;cases d with
 | struct fields =>
  simp only [cH,TK.st.injEq] at hk;have hsz:∀f∈fields.toList,P.cellsOf f.type≠0:=fun f hf=>by
   rw [←hk,List.all_eq_true] at hall;have:=hall (f.offset,f.type,P.cellsOf f.type) (List.mem_map.2 ⟨f,hf,rfl⟩);simpa using this
  have hplace:∀j,pB fs j=((fields.toList.map fun f=>(f.offset,P.cellsOf f.type)).toArray[j]? : Option (Nat×Nat)):=fun j=>by
   rw [←hk];simp only [pB,List.getElem?_map,List.getElem?_toArray];cases hj:fields.toList[j]? with
   | none=>simp
   | some f =>
    have:=hsz f (List.mem_of_getElem? hj);simp [this]
  rw [funext hplace] at hf;have hrels:Rels ρ ((xI (parts.toList.map (·.1)) ((parts.toList.map (·.2)).map (ev s.sl))).map (·.2)) ((parts.map fun(i,x)=>(i,a.eval x)).toList.map (·.2)):=by
   rw [lI,vZ];exact lW hrep _
  obtain⟨vs,hfill,hr⟩:=aBi _ (parts.map fun(i,x)=>(i,a.eval x)).toList _ z.cells.toList _ (zJ s a parts) hrels (Rels.vals _) hf;refine Does.value hrep hd (y:=.agg vs.toArray) ?_ (by simp only [Rel];exact⟨vs,rfl,aI0 hr⟩) (fun k hk=>?_)
  ·simp only [execOp,hop,Instr.build,Sem.run_bind,fW h1 h3,Result.andThen_ok,bB h2,aA9 fields hsz];rw [show z.cells=z.cells.toList.toArray by simp];rw [hfill];simp
  ·simp only [SV.has] at hk;replace hk:=aQs hk;rcases uE _ _ _ hf hk with hk | hk
   ·exact(nR hk).elim
   ·rw [lI] at hk;exact vY hrep hk
 | _=>simp [cH] at hk
theorem aCe (hrep:Rep w0 N D ρ s a W) {o:Oper} {t:TypeId} {parts:Array (Nat×Operand)} (hop:o.op=.build t parts)(hd:∀d,o.dst=some d->d < N) {i:TI} (hc:conv P t=some i) {m e es:Nat}
 (hk:i.kind=.arr m e es) (hes:es≠0) {cells:List SV}
 (hf:pA (fun i=>some (i*es,es)) (i.zero.map .v) (xI (parts.toList.map (·.1)) ((parts.toList.map (·.2)).map (ev s.sl)))=some cells) :
 Does P w0 N D s a W o { val:=.a cells }:=by
 obtain⟨n,d,z,h1,h2,h3,rfl⟩:=bF hc;simp only at hk hf;cases d with
 | array m' e' =>
  simp only [cH,TK.arr.injEq] at hk;obtain⟨rfl,rfl,rfl⟩:=hk;have hrels:Rels ρ ((xI (parts.toList.map (·.1)) ((parts.toList.map (·.2)).map (ev s.sl))).map (·.2)) ((parts.map fun(i,x)=>(i,a.eval x)).toList.map (·.2)):=by
   rw [lI,vZ];exact lW hrep _
  obtain⟨vs,hfill,hr⟩:=aBi _ (parts.map fun(i,x)=>(i,a.eval x)).toList _ z.cells.toList _ (zJ s a parts) hrels (Rels.vals _) hf;refine Does.value hrep hd (y:=.agg vs.toArray) ?_ (by simp only [Rel];exact⟨vs,rfl,hr⟩) (fun k hk=>?_)
  ·simp only [execOp,hop,Instr.build,Sem.run_bind,fW h1 h3,Result.andThen_ok,bB h2,fE hes];rw [show z.cells=z.cells.toList.toArray by simp];rw [hfill];simp
  ·simp only [SV.has] at hk;rcases uE _ _ _ hf hk with hk | hk
   ·exact(nR hk).elim
   ·rw [lI] at hk;exact vY hrep hk
 | _=>simp [cH] at hk
theorem sG (hrep:Rep w0 N D ρ s a W) {o:Oper} {t:TypeId} {len:Nat} {parts:Array (Nat×Operand)} (hop:o.op=.buildSlice t len parts)(hd:∀d,o.dst=some d->d < N) {i ei:TI} (hc:conv P t=some i) {e es bytes:Nat}
 (hk:i.kind=.slice e es bytes) (hes:es≠0) (hce:conv P e=some ei) (hle:len*es<=2 ^ 24) (hz:ei.zero.length=es) {cells:List SV} {fr:Nat} (hfr:s.bk fr=.un)
 (hf:pA (fun i=>some (i*es,es)) ((List.range (len*es)).map fun i=>.v (ei.zero.getD (i % es) undef)) (xI (parts.toList.map (·.1)) ((parts.toList.map (·.2)).map (ev s.sl)))=some cells)
 (hlc:cells.length=len*es) :
 Does P w0 N D s a W o { val:=.s fr 0 len es,ups:=[(fr,.live true false cells)] }:=by
 obtain⟨n,d,z,h1,h2,h3,rfl⟩:=bF hc;obtain⟨ne,de,ze,g1,g2,g3,rfl⟩:=bF hce;simp only at hk hf hz;cases d with
 | slice e' =>
  simp only [cH,TK.slice.injEq] at hk;obtain⟨rfl,rfl,rfl⟩:=hk;have hrels:Rels ρ ((xI (parts.toList.map (·.1)) ((parts.toList.map (·.2)).map (ev s.sl))).map (·.2)) ((parts.map fun(i,x)=>(i,a.eval x)).toList.map (·.2)):=by
   rw [lI,vZ];exact lW hrep _
  have hz':ze.cells.size=P.cellsOf e':=by rw [←hz];simp
  have hzero:Rels ρ ((List.range (len*P.cellsOf e')).map fun i=>SV.v (ze.cells.toList.getD (i % P.cellsOf e') undef)) ((List.range (len*P.cellsOf e')).map fun i=>ze.cells[i % ze.cells.size]!):=by
   have:(List.range (len*P.cellsOf e')).map (fun i=>SV.v (ze.cells.toList.getD (i % P.cellsOf e') undef))=((List.range (len*P.cellsOf e')).map fun i=>ze.cells[i % ze.cells.size]!).map SV.v:=by
    simp only [List.map_map];refine List.map_congr_left fun i _=>?_
    simp only [Function.comp];have hlt:i % P.cellsOf e' < ze.cells.size:=by rw [hz'];exact Nat.mod_lt _ (Nat.pos_of_ne_zero hes)
    congr 1;rw [hz',Array.getElem!_eq_getD,Array.getD_eq_getD_getElem?,gS];simp [hlt]
   rw [this];exact Rels.vals _
  obtain⟨vs,hfill,hr⟩:=aBi _ (parts.map fun(i,x)=>(i,a.eval x)).toList _ _ _ (zJ s a parts) hrels hzero hf;have hvl:=hr.length;refine Does.new (vs:=vs) (rest:=[]) (ty:=e') (y:=.slice (some ⟨W.heap.size,0,none⟩) len len) hrep hd hfr ?_ hr (fun j hj=>?_) ?_ (by simp [SV.has])
  ·simp only [execOp,hop,Instr.buildSlice,Sem.run_bind,Result.andThen_ok,bB h2,fE hes];have hnz:¬len*P.cellsOf e' > 2 ^ 24:=by omega
   simp only [hnz,if_false];have hrun0:(do if len*P.cellsOf e'=0 then pure #[] else(do pure (←zeroValue e').cells):Sem (Array Value)).run P W=.ok (if len*P.cellsOf e'=0 then #[] else ze.cells) W:=by
    split<;>simp [fW g1 g3]
   by_cases h0:len*P.cellsOf e'=0
   ·simp only [h0,if_true,Sem.run_pure,Result.andThen_ok];simp only [h0] at hfill;simp only [Array.range,List.range_zero,List.map_nil] at hfill ⊢;have:(Array.ofFn (n:=0) fun i=>(i:Nat))=#[]:=by simp
    simp only [Array.ofFn_zero,Array.map_empty,hfill];simp [rD]
   ·simp only [h0,if_false,Sem.run_bind,fW g1 g3,Result.andThen_ok,Sem.run_pure];have hr2:(Array.range (len*P.cellsOf e')).map (fun i=>ze.cells[i % ze.cells.size]!)=((List.range (len*P.cellsOf e')).map fun i=>ze.cells[i % ze.cells.size]!).toArray:=by
     apply Array.ext';simp [Array.toList_range]
    rw [hr2,hfill];simp [rD]
  ·rcases uE _ _ _ hf hj with hj | hj
   ·rw [eP] at hj;obtain⟨x,hx,hk⟩:=hj;obtain⟨q,_,rfl⟩:=List.mem_map.1 hx;exact(eO hk).elim
   ·rw [lI] at hj;exact vY hrep hj
  ·simp only [Rel];refine .inr ⟨W.heap.size,0,(vs++[]).length,len,0,none,by simp,by simp,Nat.le_refl _,?_,fun _=>⟨rfl,rfl⟩⟩;simp only [List.append_nil];omega
 | _=>simp [cH] at hk
theorem aE2 (hrep:Rep w0 N D ρ s a W) {o:Oper} {t:TypeId} {parts:Array (Nat×Operand)} (hop:o.op=.buildSlice t 1 parts)(hd:∀d,o.dst=some d->d < N) {i ei:TI} (hc:conv P t=some i) {e bytes:Nat}
 (hk:i.kind=.slice e 1 bytes) (hce:conv P e=some ei) (hz:ei.zero.length=1) {fr k n es:Nat} {sym:Bool} {kc:List SV} (hfr:s.bk fr=.un) (hkb:s.bk k=.live true sym kc)
 (hp:parts.toList.map (·.1)=[0]) (hx:(parts.toList.map (·.2)).map (ev s.sl)=[.s k 0 n es]) (hlen:kc.length=n*es) (hpl:Plain kc) :
 Does P w0 N D s a W o { val:=.s fr 0 1 1,ups:=[(k,.dead),(fr,.live true false [.d kc n es])] }:=by
 have hkf:k≠fr:=fun e=>by rw [e,hfr] at hkb;cases hkb
 obtain⟨z,hz1⟩:∃z,ei.zero=[z]:=by
  match h:ei.zero,hz with
  | [z],_=>exact⟨z,rfl⟩
 obtain⟨nx,v,W',ρ',h1,h2,h3⟩:=sG hrep hop hd hc hk (by decide) hce (by decide) hz (cells:=[.s k 0 n es]) hfr (by
  rw [hp,hx,hz1];simp [xI,pA,SV.known,SV.cells,splice,List.range,List.range.loop]) rfl
 have hk3:(s.app o.dst { val:=.s fr 0 1 1,ups:=[(fr,.live true false [.s k 0 n es])] }).bk k=.live true sym kc:=by simp [FS.app,cN,hkf,hkb]
 have hf3:(s.app o.dst { val:=.s fr 0 1 1,ups:=[(fr,.live true false [.s k 0 n es])] }).bk fr=.live true false [.s k 0 n es]:=by simp [FS.app,cN]
 obtain⟨ρ'',h4⟩:=h3.frz hk3 hf3 hkf hlen hpl;refine⟨nx,v,W',ρ'',h1,h2,?_⟩;have e:((s.app o.dst { val:=.s fr 0 1 1,ups:=[(fr,.live true false [.s k 0 n es])] }).app none { val:=.u,ups:=[(k,.dead),(fr,.live true false [.d kc n es])] })=s.app o.dst { val:=.s fr 0 1 1,ups:=[(k,.dead),(fr,.live true false [.d kc n es])] }:=by
  simp only [FS.app,FS.mk.injEq];refine⟨trivial,?_⟩
  funext j
  simp only [cN];by_cases hjf:j=fr
  ·simp [hjf]
  ·by_cases hjk:j=k
   ·simp [hjk,hkf]
   ·simp [hjf,hjk]
 rw [←e];exact h4
end
end Go.Aw
namespace Go.Aw
open Go.RowKit
section
variable {P : Program} {T : Nat → Option TI} {w0 : Cx} {N : Nat} {D : List Deferred} {ρ : Env} {s : FS} {a : Act} {W : World}
def kH (agg:Bool)(vs:List Value):Value:=if agg=true then .agg vs.toArray else vs.headD undef
theorem aFs {ρ:Env} {x:SV} {vs:List Value} (h:Rels ρ [x] vs):∃y,vs=[y]/\Rel ρ x y:=by
 match vs,h with
 | [y],h=>simp only [Rels] at h;exact⟨y,rfl,h.1⟩
 | [],h=>simp [Rels] at h
 | _::_::_,h=>simp [Rels] at h
theorem nX {t:Nat} {n:TypeInfo} {d:TypeDesc} (h1:P.info? t=some n)(h2:P.underlying t=some d) {vs:List Value} {off:Nat} (hl:((vs.drop off).take n.size).length=n.size)(h0:dW d=false->n.size≠0) :
 (part t vs.toArray off).run P W=.ok (kH (dW d) ((vs.drop off).take n.size)) W:=by
 simp only [part,Sem.run_bind,aB9 h2,Result.andThen_ok];cases hd:dW d
 case true=>simp only [if_true,Sem.run_bind,mN h1,Result.andThen_ok,Sem.run_pure,kH];congr 2;apply Array.ext';simp [List.extract_eq_take_drop]
 have:=h0 hd;simp only [List.length_take,List.length_drop] at hl;have hlt:off < vs.length:=by omega
 have e1:(vs.toArray)[off]? = some vs[off]:=by simp [hlt]
 simp only [Bool.false_eq_true,if_false,e1,kH];have:(vs.drop off).take n.size=vs[off]::((vs.drop (off+1)).take (n.size - 1)):=by
  obtain⟨m,hn⟩:∃m,n.size=m+1:=⟨n.size - 1,by omega⟩;rw [hn,List.drop_eq_getElem_cons hlt,List.take_succ_cons];simp
 simp [this]
theorem aGo (hT:nG P T):∀(d t:Nat) (xs ys:List SV) (vs us:List Value) (r:Bool),eqC T d t xs ys=some r->Rels ρ xs vs->Rels ρ ys us ->
 ∀(i:TI),conv P t=some i->∀m,d<=m->(Op.equalIn m t (kH i.agg vs) (kH i.agg us)).run P W=.ok r W
 | 0,t,xs,ys,vs,us,r,h,_,_,_,_,_,_=>by simp [eqC] at h
 | d+1,t,xs,ys,vs,us,r,h,hx,hy,i,hi,m,hm=>by
  obtain⟨m',rfl⟩:∃m',m=m'+1:=⟨m - 1,by omega⟩;obtain⟨n,de,z,h1,h2,h3,hie⟩:=bF hi;simp only [eqC] at h;split at h
  ·cases h
  rename_i i0 hTt;have hii:i0=i:=by have:=(hT t _ hTt).symm.trans hi;simpa using this
  subst hii;split at h
  ·rename_i k hk;rw [hie] at hk;simp only at hk;cases de<;>simp [cH] at hk;subst hk;split at h
   ·rename_i k1 a1 k2 b1;split at h
    ·rename_i hkk;subst hkk;simp only [bG] at h;obtain⟨y1,rfl,e1⟩:=aFs hx;obtain⟨y2,rfl,e2⟩:=aFs hy;simp only [Rel] at e1 e2;subst e1 e2;rw [hie];simp only [kH,dW,Bool.false_eq_true,if_false,List.headD_cons];rw [run_equalIn_int W m' t _ _ a1 b1 h2,h]
    ·cases h
   ·cases h
  ·rename_i hk;rw [hie] at hk;simp only at hk;cases de<;>simp [cH] at hk;have key:∀(p q:Bool),vs=[.bool p]->us=[.bool q]->(p == q)=r->(Op.equalIn (m'+1) t (kH i0.agg vs) (kH i0.agg us)).run P W=.ok r W:=fun p q e1 e2 e3=>by
    subst e1 e2;rw [hie];simp only [kH,dW,Bool.false_eq_true,if_false,List.headD_cons];rw [run_equalIn_bool' W m' t p q h2,e3]
   split at h<;>first
    | (simp only [bG] at h
       obtain⟨y1,rfl,e1⟩:=aFs hx;obtain⟨y2,rfl,e2⟩:=aFs hy;simp only [Rel] at e1 e2;subst e1 e2;exact key _ _ rfl rfl h)
    | cases h
  ·rename_i fs hk;split at h
   ·rename_i hok;rw [hie] at hk hok;simp only at hk hok;cases de<;>simp [cH] at hk;rename_i fields;simp only [Bool.and_eq_true,Bool.not_eq_true'] at hok;obtain⟨⟨hok1,hok2⟩,hok3⟩:=hok;simp only [aBh,List.all_eq_true] at hok3;rw [hie];simp only [kH,dW,if_true];have hfo:P.fieldsOf t=fields:=by simp [Program.fieldsOf,h2]
    rw [run_equalIn_struct W m' t _ _ (by rw [hfo];exact h2) hok1,hfo]
    -- the fields, one after the other
    have go : ∀ (fl : List Field) (r : Bool), (∀ f ∈ fl, (f.name != "_") = true) →
     (fl.map fun f=>(f.offset,f.type,P.cellsOf f.type)).foldr (fun f r=>if((xs.drop f.1).take f.2.2).length=f.2.2/\((ys.drop f.1).take f.2.2).length=f.2.2/\f.2.2≠0 then
      match eqC T d f.2.1 ((xs.drop f.1).take f.2.2) ((ys.drop f.1).take f.2.2),r with
      | some x,some y=>some (x&&y)
      | _,_=>none
      else none) (some true)=some r ->
     (Op.eqFields m' vs.toArray us.toArray fl).run P W=.ok r W:=by
     intro fl
     induction fl with
     | nil=>intro r _ h;simp only [List.map_nil,List.foldr_nil,bG] at h;subst h;simp [Op.eqFields]
     | cons f fl ih =>
      intro r hn h;simp only [List.map_cons,List.foldr_cons] at h;have hne : f.name ≠ "_" := by have := hn f (by simp); simpa using this
      split at h
      ·rename_i hlens;obtain⟨hl1,hl2,hl3⟩:=hlens;split at h
       ·rename_i x y hx1 hy1;simp only [bG] at h;have ih':=ih y (fun g hg=>hn g (by simp [hg])) hy1
        -- the field's own type
        have hd0:∃i',conv P f.type=some i':=by
         cases d with
         | zero=>simp [eqC] at hx1
         | succ d' =>
          simp only [eqC] at hx1;split at hx1
          ·cases hx1
          ·rename_i i' hTf;exact⟨_,hT _ _ hTf⟩
        obtain⟨i',hi'⟩:=hd0;obtain⟨n',de',z',g1,g2,g3,hie'⟩:=bF hi';have hcs:P.cellsOf f.type=n'.size:=by simp [Program.cellsOf,g1]
        rw [hcs] at hl1 hl2 hl3 hx1;have rx:Rels ρ ((xs.drop f.offset).take n'.size) ((vs.drop f.offset).take n'.size):=Rels.take _ (Rels.drop _ hx);have ry:Rels ρ ((ys.drop f.offset).take n'.size) ((us.drop f.offset).take n'.size):=Rels.take _ (Rels.drop _ hy);have heq:=aGo hT d f.type _ _ _ _ x hx1 rx ry i' hi' m' oM;have px:=nX (P:=P) (W:=W) g1 g2 (vs:=vs) (off:=f.offset) (by rw [←rx.length];exact hl1) (fun _=>hl3);have py:=nX (P:=P) (W:=W) g1 g2 (vs:=us) (off:=f.offset) (by rw [←ry.length];exact hl2) (fun _=>hl3);rw [hie'] at heq;simp only at heq;simp only [Op.eqFields,hne,ne_eq,not_false_eq_true,if_true,Sem.run_bind,px,py,Result.andThen_ok,heq];cases x
        case false=>simp at h;subst h;simp
        simp at h;subst h;simp [ih']
       ·cases h
      ·cases h
    exact go fields.toList r (fun f hf=>hok3 f hf) (by rw [hk];exact h)
   ·cases h
  ·rename_i an ae aes hk;rw [hie] at hk;simp only at hk;cases de<;>simp [cH] at hk;rename_i alen aelem;obtain⟨e1,e2,hes'⟩:=hk;subst e1 e2;split at h
   ·cases h
   rename_i ei hTe;split at h
   ·rename_i hcond;obtain⟨hes,hsz⟩:=hcond;obtain⟨n',de',z',g1,g2,g3,hie'⟩:=bF (hT _ _ hTe);rw [hie'] at hsz;simp only at hsz;rw [hie];simp only [kH,dW,if_true];rw [run_equalIn_array W m' _ _ h2 g1];have hcs:P.cellsOf aelem=n'.size:=by simp only [Program.cellsOf,g1];rfl
    have go:∀(il:List Nat) (r:Bool),
     il.foldr (fun j r=>if((xs.drop (j*aes)).take aes).length=aes/\((ys.drop (j*aes)).take aes).length=aes then
      match eqC T d aelem ((xs.drop (j*aes)).take aes) ((ys.drop (j*aes)).take aes),r with
      | some x,some y=>some (x&&y)
      | _,_=>none
      else none) (some true)=some r ->
     (Op.eqItems m' aelem (P.cellsOf aelem) vs.toArray us.toArray il).run P W=.ok r W:=by
     intro il
     induction il with
     | nil=>intro r h;simp only [List.foldr_nil,bG] at h;subst h;simp [Op.eqItems]
     | cons j il ih =>
      intro r h;simp only [List.foldr_cons] at h;split at h
      ·rename_i hlens;obtain⟨hl1,hl2⟩:=hlens;split at h
       ·rename_i x y hx1 hy1;simp only [bG] at h;have ih':=ih y hy1;rw [←hsz] at hl1 hl2 hx1 hes;have rx:Rels ρ ((xs.drop (j*aes)).take n'.size) ((vs.drop (j*aes)).take n'.size):=Rels.take _ (Rels.drop _ hx);have ry:Rels ρ ((ys.drop (j*aes)).take n'.size) ((us.drop (j*aes)).take n'.size):=Rels.take _ (Rels.drop _ hy);rw [←hsz] at rx ry;have heq:=aGo hT d aelem _ _ _ _ x hx1 rx ry _ (hT _ _ hTe) m' oM;have px:=nX (P:=P) (W:=W) g1 g2 (vs:=vs) (off:=j*n'.size) (by rw [←rx.length];exact hl1) (fun _=>hes);have py:=nX (P:=P) (W:=W) g1 g2 (vs:=us) (off:=j*n'.size) (by rw [←ry.length];exact hl2) (fun _=>hes);rw [hie'] at heq;simp only at heq;rw [hcs] at ih' ⊢;simp only [Op.eqItems,Sem.run_bind,px,py,Result.andThen_ok,heq];cases x
        case false=>simp at h;subst h;simp
        simp at h;subst h;simp [ih']
       ·cases h
      ·cases h
    exact go _ r h
   ·cases h
  ·cases h
end
end Go.Aw
namespace Go.Aw
open Go.RowKit
section
variable {P : Program} {T : Nat → Option TI} {w0 : Cx} {N : Nat} {D : List Deferred} {ρ : Env} {s : FS} {a : Act} {W : World}
theorem aQt {op:BinOp} {t:TypeId} {k k':IntKind} {p q:Int} {r:SV} {obs:List Ob} (h:aPj op k p q=some (r,obs))(hk:op≠.shl->op≠.shr->k=k')(hob:Obs P obs) :
 ∃v,r=.v v/\(binOp op t (.int k p) (.int k' q)).run P W=.ok v W:=by
 cases op<;>simp only [aPj] at h<;>first
  | (cases h;done)
  | (simp only [bG,eA] at h
     obtain⟨rfl,rfl⟩:=h;obtain rfl:=hk (by simp) (by simp);simp only [Obs,Ob.Holds,and_true] at hob;refine⟨_,rfl,?_⟩;simp [binOp,Op.intArith,Op.intDiv,Op.intCmp,Op.intBits,Op.shift,hob]
     done)
  | (simp only [bG,eA] at h
     obtain⟨rfl,rfl⟩:=h;simp only [Obs,Ob.Holds,and_true] at hob;refine⟨_,rfl,?_⟩;have:¬q < 0:=by omega
     simp [binOp,Op.shift,this])
theorem zK (hrep:Rep w0 N D ρ s a W) {o:Oper} {op:BinOp} {t ty:TypeId} {x y:Operand} (hop:o.op=.binOp op t x y ty)(hd:∀d,o.dst=some d->d < N) {k k':IntKind} {p q:Int}
 (hx:ev s.sl x=.v (.int k p)) (hy:ev s.sl y=.v (.int k' q)) {r:SV} {obs:List Ob} (h:aPj op k p q=some (r,obs)) (hk:op≠.shl->op≠.shr->k=k') (hob:Obs P obs) :
 Does P w0 N D s a W o { val:=r }:=by
 have hxr:=bW hrep x;have hyr:=bW hrep y;rw [hx] at hxr;rw [hy] at hyr;simp only [Rel] at hxr hyr;have hg:(eqGuard op t x y (.int k p) (.int k' q)).run P W=.ok () W:=by cases op<;>simp [eqGuard]
 obtain⟨v,rfl,hr⟩:=aQt (P:=P) (W:=W) (t:=t) h hk hob;refine Does.value hrep hd (y:=v) ?_ (by simp only [Rel]) (fun j hj=>(eO hj).elim);simp only [execOp,hop,hxr,hyr,Sem.run_bind,hg,Result.andThen_ok,hr,Sem.run_pure]
theorem aNj (hrep:Rep w0 N D ρ s a W) {k:IntKind}:∀(xs:List SV) (vs:List Value) (p:Int) (r:SV),aQo k p xs=some r->Rels ρ xs vs ->
 ∃v,(vs.foldlM Builtin.min2 (.int k p)).run P W=.ok v W/\Rel ρ r v/\∀j,¬r.has j
 | [],vs,p,r,h,hr=>by
  simp only [aQo,bG] at h;subst h
  match vs,hr with
  | [],_=>exact⟨_,rfl,by simp [Rel],fun j hj=>eO hj⟩
  | _::_,hr=>simp [Rels] at hr
 | x::xs,vs,p,r,h,hr=>by
  match vs,hr with
  | [],hr=>simp [Rels] at hr
  | v::vs,hr =>
   simp only [Rels] at hr;unfold aQo at h;split at h
   ·rename_i heq;cases heq
   ·rename_i k' b l heq;simp only [List.cons.injEq] at heq;obtain⟨rfl,rfl⟩:=heq;have hv:=hr.1;simp only [Rel] at hv;subst hv;obtain⟨v,hv,hrel⟩:=aNj hrep xs vs _ r h hr.2;refine⟨v,?_,hrel⟩;simp only [List.foldlM_cons,Sem.run_bind,Builtin.min2,Sem.run_pure,Result.andThen_ok];exact hv
   ·cases h
theorem aNk (hrep:Rep w0 N D ρ s a W) {k:IntKind}:∀(xs:List SV) (vs:List Value) (p:Int) (r:SV),aQp k p xs=some r->Rels ρ xs vs ->
 ∃v,(vs.foldlM Builtin.max2 (.int k p)).run P W=.ok v W/\Rel ρ r v/\∀j,¬r.has j
 | [],vs,p,r,h,hr=>by
  simp only [aQp,bG] at h;subst h
  match vs,hr with
  | [],_=>exact⟨_,rfl,by simp [Rel],fun j hj=>eO hj⟩
  | _::_,hr=>simp [Rels] at hr
 | x::xs,vs,p,r,h,hr=>by
  match vs,hr with
  | [],hr=>simp [Rels] at hr
  | v::vs,hr =>
   simp only [Rels] at hr;unfold aQp at h;split at h
   ·rename_i heq;cases heq
   ·rename_i k' b l heq;simp only [List.cons.injEq] at heq;obtain⟨rfl,rfl⟩:=heq;have hv:=hr.1;simp only [Rel] at hv;subst hv;obtain⟨v,hv,hrel⟩:=aNk hrep xs vs _ r h hr.2;refine⟨v,?_,hrel⟩;simp only [List.foldlM_cons,Sem.run_bind,Builtin.max2,Sem.run_pure,Result.andThen_ok];exact hv
   ·cases h
theorem aUy (hT:nG P T) {t:Nat} {x r:SV} {y:Value} (h:aYb T t x=some r)(hr:Rel ρ x y):∃n d,P.underlying t=some (.slice d)/\(∃b c,y=.slice b n c)/\r=iv n:=by
 have key:∀i:TI,T t=some i->∀e es by',i.kind=.slice e es by'->∃d,P.underlying t=some (.slice d):=fun i hi e es by' hk=>by
  obtain⟨n,de,z,h1,h2,h3,hie⟩:=bF (hT t i hi);rw [hie] at hk;simp only at hk;cases de<;>simp [cH] at hk;exact⟨_,h2⟩
 unfold aYb at h;split at h
 ·rename_i k off len es;split at h
  ·rename_i i hi;split at h
   ·rename_i e es' by' hk
    obtain⟨d,hd⟩:=key i hi _ _ _ hk;simp only [bG] at h;simp only [Rel] at hr;rcases hr with⟨_,rfl,rfl⟩ | ⟨b,o,n,cap,off',sp,_,rfl,_⟩
    ·exact⟨0,d,hd,⟨_,_,rfl⟩,h.symm⟩
    ·exact⟨len,d,hd,⟨_,_,rfl⟩,h.symm⟩
   ·cases h
  ·cases h
 ·rename_i b len c;split at h
  ·rename_i i hi;split at h
   ·rename_i e es' by' hk
    obtain⟨d,hd⟩:=key i hi _ _ _ hk;simp only [bG] at h;simp only [Rel] at hr;exact⟨len,d,hd,⟨_,_,hr⟩,h.symm⟩
   ·cases h
  ·cases h
 ·cases h
theorem aGp (P:Program) {fields:Array Field} {f off size:Nat} (h:pB (fields.toList.map fun f=>(f.offset,f.type,P.cellsOf f.type)) f=some (off,size)) :
 ∃fd,fields[f]? = some fd/\off=fd.offset/\P.cellsOf fd.type≠0:=by
 unfold pB at h;simp only [List.getElem?_map] at h;cases hf:fields.toList[f]? with
 | none=>simp [hf] at h
 | some fd =>
  simp only [hf,Option.map_some] at h;split at h
  ·cases h
  ·rename_i hne;simp only [bG,eA] at h;exact⟨fd,by simpa using hf,h.1.symm,hne⟩
theorem aCf (hrep:Rep w0 N D ρ s a W) {o:Oper} {t f:Nat} {x:Operand} (hop:o.op=.fieldAddr t x f)(hd:∀d,o.dst=some d->d < N) {k off:Nat} (hx:ev s.sl x=.p k off) {i:TI} (hc:conv P t=some i)
 {fs:List (Nat×Nat×Nat)} (hk:i.kind=.st fs) {fd:Nat×Nat} (hf:pB fs f=some fd):Does P w0 N D s a W o { val:=.p k (off+fd.1) }:=by
 obtain⟨n,de,z,h1,h2,h3,rfl⟩:=bF hc;simp only at hk;cases de<;>simp [cH] at hk;rename_i fields;subst hk;obtain⟨fd,hfd,e1,e2⟩:=aGp P (off:=fd.1) (size:=fd.2) hf;have hxr:=bW hrep x;have hxw:=qE hrep x;rw [hx] at hxr hxw;simp only [Rel] at hxr;obtain⟨b,o',m,hρ,hy⟩:=hxr;refine Does.value hrep hd (y:=.pointer (some ⟨b,o'+off+fd.offset,none⟩)) ?_ ?_ (fun j hj=>hxw j (by simpa [SV.has] using hj))
 ·simp only [execOp,hop,hy,Instr.fieldAt,Sem.run_bind,bB h2,Result.andThen_ok,hfd,Instr.sureAddr,Sem.run_pure,fieldPlace,fE e2];simp only [e2,if_false,Sem.run_pure,Result.andThen_ok,add_eq]
 ·simp only [Rel];exact⟨b,o',m,hρ,by rw [e1];simp [Nat.add_assoc]⟩
theorem aE3 (hrep:Rep w0 N D ρ s a W) {o:Oper} {t:Nat} {x y:Operand} (hop:o.op=.indexAddr t x y)(hd:∀d,o.dst=some d->d < N) {k off:Nat} (hx:ev s.sl x=.p k off) {kk:IntKind} {n:Int} (hy:ev s.sl y=.v (.int kk n))
 {i:TI} (hc:conv P t=some i) {len e es:Nat} (hk:i.kind=.arr len e es) (hes:es≠0) (hn:0<=n/\n < len):Does P w0 N D s a W o { val:=.p k (off+n.toNat*es) }:=by
 obtain⟨m,de,z,h1,h2,h3,rfl⟩:=bF hc;simp only at hk;cases de<;>simp [cH] at hk;obtain⟨rfl,rfl,hes'⟩:=hk;have hso:∀W,(sizeOf _).run P W=.ok es W:=fun W=>by rw [←hes'];exact fE (by rw [hes'];exact hes) W
 have hxr:=bW hrep x;have hxw:=qE hrep x;have hyr:=bW hrep y;rw [hx] at hxr hxw;rw [hy] at hyr;simp only [Rel] at hxr hyr;obtain⟨b,o',m',hρ,hx'⟩:=hxr;refine Does.value hrep hd (y:=.pointer (some ⟨b,o'+off+n.toNat*es,none⟩)) ?_ ?_ (fun j hj=>hxw j (by simpa [SV.has] using hj))
 ·simp only [execOp,hop,hx',hyr,Instr.indexAt,Sem.run_bind,asIntOf,Sem.run_pure,Result.andThen_ok,bB h2,Instr.sureAddr];simp only [hn,and_self,if_true,Sem.run_bind,hso,Result.andThen_ok,Sem.run_pure,add_eq]
 ·simp only [Rel];exact⟨b,o',m',hρ,by simp [Nat.add_assoc]⟩
theorem aLl (hrep:Rep w0 N D ρ s a W) {o:Oper} {t:Nat} {x y:Operand} (hop:o.op=.index t x y)(hd:∀d,o.dst=some d->d < N) {cells:List SV} (hx:ev s.sl x=.a cells) {kk:IntKind} {n:Int} (hy:ev s.sl y=.v (.int kk n))
 {i:TI} (hc:conv P t=some i) {len e es:Nat} (hk:i.kind=.arr len e es) {ei:TI} (hce:conv P e=some ei) (hes:es≠0) (hsz:ei.size=es) (hl:((cells.drop (n.toNat*es)).take es).length=es) {v:SV} (hv:mkV ei.agg ((cells.drop (n.toNat*es)).take es)=some v) (hn:0<=n/\n < len) :
 Does P w0 N D s a W o { val:=v }:=by
 obtain⟨m,de,z,h1,h2,h3,rfl⟩:=bF hc;simp only at hk;cases de<;>simp [cH] at hk;obtain⟨rfl,rfl,hes'⟩:=hk;obtain⟨m',de',z',g1,g2,g3,rfl⟩:=bF hce;have hso:∀W,(sizeOf _).run P W=.ok es W:=fun W=>by rw [←hes'];exact fE (by rw [hes'];exact hes) W
 have hxr:=bW hrep x;have hxw:=qE hrep x;have hyr:=bW hrep y;rw [hx] at hxr hxw;rw [hy] at hyr;simp only [Rel] at hxr hyr;obtain⟨vs,hx',hrs⟩:=hxr;have hrr:Rels ρ ((cells.drop (n.toNat*es)).take es) ((vs.drop (n.toNat*es)).take es):=Rels.take _ (Rels.drop _ hrs);simp only at hsz;have hpl:((vs.drop (n.toNat*es)).take m'.size).length=m'.size:=by rw [hsz,←hrr.length];exact hl
 refine Does.value hrep hd (y:=kH (dW de') ((vs.drop (n.toNat*es)).take m'.size)) ?_ ?_ (fun j hj=>hxw j ?_)
 ·simp only [execOp,hop,hx',hyr,Instr.index,Sem.run_bind,asIntOf,Sem.run_pure,Result.andThen_ok,bB h2];simp only [hn,and_self,if_true,Sem.run_bind,hso,Result.andThen_ok,nX g1 g2 hpl (fun _=>by rw [hsz];exact hes)]
 ·rw [hsz];exact aGn hv hrr
 ·have:=aNg hv hj;simp only [SV.has];exact kG (kF this)
theorem aBa (hrep:Rep w0 N D ρ s a W) {o:Oper} {t:Nat} {x y:Operand} (hop:o.op=.indexAddr t x y)(hd:∀d,o.dst=some d->d < N) {k off len es':Nat} (hx:ev s.sl x=.s k off len es') {kk:IntKind} {n:Int} (hy:ev s.sl y=.v (.int kk n))
 {i:TI} (hc:conv P t=some i) {e es bytes:Nat} (hk:i.kind=.slice e es bytes) (hes:es≠0) (hn:0<=n/\n < len):Does P w0 N D s a W o { val:=.p k (off+n.toNat*es) }:=by
 obtain⟨m,de,z,h1,h2,h3,rfl⟩:=bF hc;simp only at hk;cases de<;>simp [cH] at hk;obtain⟨rfl,hes',_⟩:=hk;have hso:∀W,(sizeOf _).run P W=.ok es W:=fun W=>by rw [←hes'];exact fE (by rw [hes'];exact hes) W
 have hxr:=bW hrep x;have hxw:=qE hrep x;have hyr:=bW hrep y;rw [hx] at hxr hxw;rw [hy] at hyr;simp only [Rel] at hxr hyr;rcases hxr with⟨_,h0,_⟩ | ⟨b,o',m',cap,off',sp,hρ,hx',hcl,_,hoff⟩
 ·subst h0;omega
 obtain⟨ho1,rfl⟩:=hoff oM;rw [ho1] at hx';refine Does.value hrep hd (y:=.pointer (some ⟨b,o'+off+n.toNat*es,none⟩)) ?_ ?_ (fun j hj=>hxw j (by simpa [SV.has] using hj))
 ·simp only [execOp,hop,hx',hyr,Instr.indexAt,Sem.run_bind,asIntOf,Sem.run_pure,Result.andThen_ok,bB h2];simp only [hn,and_self,if_true,Sem.run_bind,hso,Result.andThen_ok,Sem.run_pure,add_eq]
 ·simp only [Rel];exact⟨b,o',m',hρ,by simp [Nat.add_assoc]⟩
theorem aE4 (hrep:Rep w0 N D ρ s a W) {o:Oper} {t:Nat} {x:Operand} (hop:o.op=.slice t x none none none)(hd:∀d,o.dst=some d->d < N) {k off:Nat} (hx:ev s.sl x=.p k off)
 {own:Bool} {cells:List SV} (hb:s.bk k=.live own false cells) {i:TI} (hc:conv P t=some i) {len e es:Nat} (hk:i.kind=.arr len e es) (hes:es≠0) (hl:off+len*es<=cells.length) :
 Does P w0 N D s a W o { val:=.s k off len es }:=by
 obtain⟨m,de,z,h1,h2,h3,rfl⟩:=bF hc;simp only at hk;cases de<;>simp [cH] at hk;rename_i len' e';obtain⟨rfl,rfl,hes'⟩:=hk;have hso:∀W,(sizeOf _).run P W=.ok es W:=fun W=>by rw [←hes'];exact fE (by rw [hes'];exact hes) W
 have hxr:=bW hrep x;have hxw:=qE hrep x;rw [hx] at hxr hxw;simp only [Rel] at hxr;obtain⟨b,o',m',hρ,hx'⟩:=hxr;have hbk:=hrep.bk k;rw [hb] at hbk;rcases hbk.read with⟨he,_⟩ | ⟨b',o'',m'',vs,e1,⟨e2,e2'⟩,_,_⟩
 ·rw [hρ] at he;cases he
 rw [hρ] at e1;cases e1;have hlen:=e2.length;refine Does.value hrep hd (y:=.slice (some ⟨b,o'+off,none⟩) len' len') ?_ ?_ (fun j hj=>hxw j (by simpa [SV.has] using hj))
 ·simp only [execOp,hop,hx',Instr.sliceAt,Option.map_none,Sem.run_bind,bB h2,Result.andThen_ok,Instr.sureAddr,Sem.run_pure,Instr.sliceBounds,hso];simp only [Nat.sub_zero];split
  ·rename_i h0;simp
  ·simp [add_eq]
 ·simp only [Rel];exact .inr ⟨b,o',_,_,off,none,hρ,rfl,Nat.le_refl _,by omega,fun _=>⟨rfl,rfl⟩⟩
theorem aBb (hrep:Rep w0 N D ρ s a W) {o:Oper} {t:Nat} {x y:Operand} (hop:o.op=.slice t x (some y) none none)(hd:∀d,o.dst=some d->d < N) {k off len es:Nat} (hx:ev s.sl x=.s k off len es) {kk:IntKind} {n:Int} (hy:ev s.sl y=.v (.int kk n))
 {i:TI} (hc:conv P t=some i) {e bytes:Nat} (hk:i.kind=.slice e es bytes) (hes:es≠0) (hn:0<=n/\n<=len):Does P w0 N D s a W o { val:=.s k (off+n.toNat*es) (len - n.toNat) es }:=by
 obtain⟨m,de,z,h1,h2,h3,rfl⟩:=bF hc;simp only at hk;cases de<;>simp [cH] at hk;obtain⟨rfl,hes',_⟩:=hk;have hso:∀W,(sizeOf _).run P W=.ok es W:=fun W=>by rw [←hes'];exact fE (by rw [hes'];exact hes) W
 have hxr:=bW hrep x;have hxw:=qE hrep x;have hyr:=bW hrep y;rw [hx] at hxr hxw;rw [hy] at hyr;simp only [Rel] at hxr hyr;rcases hxr with⟨e1,rfl,hx'⟩ | ⟨b,o',m',cap,off',sp,hρ,hx',hle,hcap,hoff⟩
 ·have hn0:n=0:=by omega
  subst hn0;refine Does.value hrep hd (y:=.slice none 0 0) ?_ ?_ (fun j hj=>hxw j (by simpa [SV.has] using hj))
  ·simp only [execOp,hop,hx',hyr,Instr.sliceAt,Option.map_none,Option.map_some,Sem.run_bind,bB h2,Result.andThen_ok,Instr.slice,Sem.run_pure,Instr.sliceBounds,Instr.sliceBound,asIntOf,hso];simp
  ·simp only [Rel];exact .inl ⟨e1,by simp,by first | trivial | rfl⟩
 ·have hnc:n.toNat<=cap:=by omega
  by_cases hc1:cap=0
  ·have hn0:n=0:=by omega
   subst hn0 hc1;refine Does.value hrep hd (y:=.slice (some ⟨b,o'+off',sp⟩) (len - 0) (0 - 0)) ?_ ?_ (fun j hj=>hxw j (by simpa [SV.has] using hj))
   ·simp only [execOp,hop,hx',hyr,Instr.sliceAt,Option.map_none,Option.map_some,Sem.run_bind,bB h2,Result.andThen_ok,Instr.slice,Sem.run_pure,Instr.sliceBounds,Instr.sliceBound,asIntOf,hso];simp
   ·simp only [Rel];exact .inr ⟨b,o',m',0 - 0,off',sp,hρ,by simp,by simp;omega,by simp;omega,fun h=>absurd rfl h⟩
  obtain⟨ho1,rfl⟩:=hoff hc1;refine Does.value hrep hd (y:=.slice (if cap=n.toNat then some ⟨b,o'+off',none⟩ else some ⟨b,o'+off'+n.toNat*es,none⟩) (len - n.toNat) (cap - n.toNat)) ?_ ?_ (fun j hj=>hxw j (by simpa [SV.has] using hj))
  ·simp only [execOp,hop,hx',hyr,Instr.sliceAt,Option.map_none,Option.map_some,Sem.run_bind,bB h2,Result.andThen_ok,Instr.slice,Sem.run_pure,Instr.sliceBounds,Instr.sliceBound,asIntOf,hso];simp only [hn,and_self,if_true,Sem.run_pure,Result.andThen_ok,hso,Sem.run_bind,Option.isSome_none,Bool.false_eq_true,if_false,Option.map_some,add_eq]
  ·simp only [Rel];have hmul:n.toNat*es+(cap - n.toNat)*es=cap*es:=by
    rw [←Nat.add_mul,Nat.add_sub_cancel' hnc]
   by_cases hcn:cap=n.toNat
   ·rw [if_pos hcn];exact .inr ⟨b,o',m',cap - n.toNat,off',none,hρ,rfl,by omega,by rw [hcn];simp;omega,fun h=>by omega⟩
   ·rw [if_neg hcn];refine .inr ⟨b,o',m',cap - n.toNat,off'+n.toNat*es,none,hρ,by simp [Nat.add_assoc],by omega,by omega,fun h=>⟨?_,rfl⟩⟩;rw [ho1]
theorem aNl {x:SV} {b:Bool} {y:Value} (h:asB x=some b)(hr:Rel ρ x y):y=.bool b:=by
 unfold asB at h;split at h
 ·simp only [bG] at h;subst h;simpa [Rel] using hr
 ·simp only [bG] at h;subst h;simpa [Rel] using hr
 ·cases h
theorem aGq (hT:nG P T)(hrep:Rep w0 N D ρ s a W) {o:Oper} {op:BinOp} {t ty:TypeId} {x y:Operand} (hop:o.op=.binOp op t x y ty)(hd:∀d,o.dst=some d->d < N)
 {r:SV} {obs:List Ob} (h:aGm T op t (ev s.sl x) (ev s.sl y)=some (r,obs)):Does P w0 N D s a W o { val:=r }:=by
 unfold aGm at h;split at h
 ·rename_i p q i hx hy hi;have hxv:=aNl hx (bW hrep x);have hyv:=aNl hy (bW hrep y);obtain⟨n,de,z,h1,h2,h3,hie⟩:=bF (hT t i hi);split at h
  ·rename_i hk;have hbool:P.underlying t=some .bool:=by
    rw [h2];rw [hie] at hk;simp only [cH] at hk;cases de<;>simp at hk ⊢
   have hg:(eqGuard op t x y (.bool p) (.bool q)).run P W=.ok () W:=by cases op<;>simp [eqGuard]
   split at h
   ·simp only [bG,eA] at h;obtain⟨rfl,rfl⟩:=h;refine Does.value hrep hd (y:=.bool (p == q)) ?_ (by simp only [Rel]) (fun j hj=>(eO hj).elim);simp only [execOp,hop,hxv,hyv,Sem.run_bind,hg,Result.andThen_ok,run_eql_bool W t p q hbool,Sem.run_pure]
   ·simp only [bG,eA] at h;obtain⟨rfl,rfl⟩:=h;refine Does.value hrep hd (y:=.bool (!(p == q))) ?_ (by simp only [Rel]) (fun j hj=>(eO hj).elim);simp only [execOp,hop,hxv,hyv,Sem.run_bind,hg,Result.andThen_ok,run_neq_bool W t p q hbool,Sem.run_pure]
   ·cases h
  ·cases h
 ·cases h
theorem aI2 (hT:nG P T)(hrep:Rep w0 N D ρ s a W) {o:Oper} {op:BinOp} {t ty:TypeId} {x y:Operand} (hop:o.op=.binOp op t x y ty)(hd:∀d,o.dst=some d->d < N)
 {r:SV} {obs:List Ob} (h:aLh T op t (ev s.sl x) (ev s.sl y)=some (r,obs)) (hob:Obs P obs):Does P w0 N D s a W o { val:=r }:=by
 have hslice:∀i,T t=some i->∀e es b,i.kind=.slice e es b->∃e',P.underlying t=some (.slice e'):=by
  intro i hi e es b hk;obtain⟨n,de,z,h1,h2,h3,hie⟩:=bF (hT t i hi);rw [hie] at hk;cases de with
  | slice e'=>exact⟨e',h2⟩
  | _=>simp [cH] at hk
 have run:∀(b:Option Addr) (n c:Nat) (e':TypeId),P.underlying t=some (.slice e')->a.eval x=.slice b n c->a.eval y=.slice none 0 0 ->
  (op=.eql->(execOp a.eval o).run P W=.ok (.value (.bool b.isNone)) W)/\(op=.neq->(execOp a.eval o).run P W=.ok (.value (.bool (!b.isNone))) W):=by
  intro b n c e' ht hx hy;have hg:(eqGuard op t x y (.slice b n c) (.slice none 0 0)).run P W=.ok () W:=by cases op<;>simp [eqGuard]
  refine⟨fun h=>?_,fun h=>?_⟩
  ·subst h;simp only [execOp,hop,hx,hy,Sem.run_bind,hg,Result.andThen_ok,Go.Lib.run_eql_slice_nil W t e' b n c 0 0 ht,Sem.run_pure]
  ·subst h;simp only [execOp,hop,hx,hy,Sem.run_bind,hg,Result.andThen_ok,run_neq_slice_nil W t e' b n c ht,Sem.run_pure]
 have hxr:=bW hrep x;have hyr:=bW hrep y;unfold aLh at h;split at h
 ·rename_i k off n es hx hy;rw [hx] at hxr;rw [hy] at hyr;simp only [Rel] at hyr;split at h
  ·rename_i i hi;split at h
   ·rename_i e es' b hk;obtain⟨e',ht⟩:=hslice i hi e es' b hk;have key:n≠0->∃b m c,a.eval x=.slice (some b) m c:=by
     intro hn;simp only [Rel] at hxr;rcases hxr with⟨_,h0,_⟩ | ⟨b,o,nn,cap,off',sp,_,h1,_⟩
     ·exact(hn h0).elim
     ·exact⟨_,_,_,h1⟩
    split at h
    ·simp only [bG,eA] at h;obtain⟨rfl,rfl⟩:=h;obtain⟨b,m,c,hv⟩:=key hob.1;refine Does.value hrep hd (y:=.bool false) ?_ (by simp only [Rel]) (fun j hj=>(eO hj).elim);simpa using (run (some b) m c e' ht hv hyr).1 rfl
    ·simp only [bG,eA] at h;obtain⟨rfl,rfl⟩:=h;obtain⟨b,m,c,hv⟩:=key hob.1;refine Does.value hrep hd (y:=.bool true) ?_ (by simp only [Rel]) (fun j hj=>(eO hj).elim);simpa using (run (some b) m c e' ht hv hyr).2 rfl
    ·cases h
   ·cases h
  ·cases h
 ·rename_i b n c hx hy;rw [hx] at hxr;rw [hy] at hyr;simp only [Rel] at hxr hyr;split at h
  ·rename_i i hi;split at h
   ·rename_i e es' b' hk;obtain⟨e',ht⟩:=hslice i hi e es' b' hk;split at h
    ·simp only [bG,eA] at h;obtain⟨rfl,rfl⟩:=h;exact Does.value hrep hd (y:=.bool b.isNone) ((run b n c e' ht hxr hyr).1 rfl) (by simp only [Rel]) (fun j hj=>(eO hj).elim)
    ·simp only [bG,eA] at h;obtain⟨rfl,rfl⟩:=h;exact Does.value hrep hd (y:=.bool (!b.isNone)) ((run b n c e' ht hxr hyr).2 rfl) (by simp only [Rel]) (fun j hj=>(eO hj).elim)
    ·cases h
   ·cases h
  ·cases h
 ·cases h
theorem aI3 (hT:nG P T)(hrep:Rep w0 N D ρ s a W) {o:Oper} {op:BinOp} {t ty:TypeId} {x y:Operand} (hop:o.op=.binOp op t x y ty)(hd:∀d,o.dst=some d->d < N)
 {r:SV} {obs:List Ob} (h:aLi T op t (ev s.sl x) (ev s.sl y)=some (r,obs)) (hob:Obs P obs):Does P w0 N D s a W o { val:=r }:=by
 unfold aLi at h;split at h
 ·rename_i k p k' q hx hy;split at h
  ·exact zK hrep hop hd hx hy h (fun h=>(h rfl).elim) hob
  ·exact zK hrep hop hd hx hy h (fun _ h=>(h rfl).elim) hob
  ·split at h
   ·rename_i hk;exact zK hrep hop hd hx hy h (fun _ _=>hk) hob
   ·cases h
 ·rename_i xs ys hx hy;split at h
  ·rename_i i hi;split at h
   ·rename_i hok;simp only [Bool.and_eq_true] at hok;have hci:=hT t i hi;obtain⟨n,de,z,h1,h2,h3,hie⟩:=bF hci;have hxr:=bW hrep x;have hyr:=bW hrep y;rw [hx] at hxr;rw [hy] at hyr;simp only [Rel] at hxr hyr;obtain⟨vs,hxv,hxs⟩:=hxr;obtain⟨us,hyv,hys⟩:=hyr;have hg:(eqGuard op t x y (.agg vs.toArray) (.agg us.toArray)).run P W=.ok () W:=by
     refine run_eqGuard_agg W op t x y _ _ ?_;have:=hok.1;rw [hie] at this;simp only [Bool.and_eq_true,Bool.not_eq_true'] at this;exact this.1.2
    have heq:∀r',eqC T 100 t xs ys=some r'->(Op.equalIn 10000 t (.agg vs.toArray) (.agg us.toArray)).run P W=.ok r' W:=fun r' hr'=>by
     have:=aGo (W:=W) hT 100 t xs ys vs us r' hr' hxs hys i hci 10000 oM;simpa [kH,hok.2] using this
    split at h
    ·rename_i r' hr';simp only [bG,eA] at h;obtain⟨rfl,rfl⟩:=h;refine Does.value hrep hd (y:=.bool r') ?_ (by simp only [Rel]) (fun j hj=>(eO hj).elim);simp only [execOp,hop,hxv,hyv,Sem.run_bind,hg,Result.andThen_ok,run_eql_struct,heq r' hr',Sem.run_pure]
    ·rename_i r' hr';simp only [bG,eA] at h;obtain⟨rfl,rfl⟩:=h;refine Does.value hrep hd (y:=.bool (!r')) ?_ (by simp only [Rel]) (fun j hj=>(eO hj).elim);simp only [execOp,hop,hxv,hyv,Sem.run_bind,hg,Result.andThen_ok,run_neq_struct,heq r' hr',Sem.run_pure]
    ·cases h
   ·cases h
  ·cases h
 ·split at h
  ·rename_i r' hr';simp only [bG] at h;subst h;exact aI2 hT hrep hop hd hr' hob
  ·exact aGq hT hrep hop hd h
theorem aLm (hrep:Rep w0 N D ρ s a W) {o:Oper} {op:UnOp} {t:TypeId} {x:Operand} (hop:o.op=.unOp op t x)(hd:∀d,o.dst=some d->d < N)
 {r:SV} (h:aQq op (ev s.sl x)=some r):Does P w0 N D s a W o { val:=r }:=by
 have hxr:=bW hrep x;unfold aQq at h;split at h
 ·rename_i d hx;rw [hx] at hxr;simp only [Rel] at hxr;split at h
  ·simp only [bG] at h;subst h;refine Does.value hrep hd (y:=.bool (!d)) ?_ (by simp only [Rel]) (fun j hj=>by simp [SV.has] at hj);simp [execOp,hop,hxr,Op.unary]
  ·cases h
 ·rename_i c hx;rw [hx] at hxr;simp only [Rel] at hxr;split at h
  ·simp only [bG] at h;subst h;refine Does.value hrep hd (y:=.bool (!c)) ?_ (by simp only [Rel]) (fun j hj=>(eO hj).elim);simp [execOp,hop,hxr,Op.unary]
  ·cases h
 ·rename_i k n hx;rw [hx] at hxr;simp only [Rel] at hxr;split at h
  ·simp only [bG] at h;subst h;refine Does.value hrep hd (y:=.int k (k.wrap (0 - n))) ?_ (by simp only [Rel]) (fun j hj=>(eO hj).elim);simp [execOp,hop,hxr,Op.unary,Op.intArith]
  ·cases h
 ·cases h
theorem aLn (hT:nG P T)(hrep:Rep w0 N D ρ s a W) {o:Oper} {b:Builtin} {args:Array Operand} {ts:Array TypeId} (hop:o.op=.call { callee:=.builtin b,args:=args,argTypes:=ts }) (hd:∀d,o.dst=some d->d < N)
 {r:SV} (h:xH T b ts.toList (args.toList.map (ev s.sl))=some r):Does P w0 N D s a W o { val:=r }:=by
 have hrels:=lW hrep args.toList;have hex:∀v,(builtin b ts o.type (args.map fun | .const _=>true | _=>false) (args.map a.eval)).run P W=.ok (.value v) W->(execOp a.eval o).run P W=.ok (.value v) W:=fun v hv=>by
  simp only [execOp,hop,resolve,Sem.run_bind,Sem.run_pure,Result.andThen_ok,invoke];exact hv
 unfold xH at h;split at h
 ·rename_i t rest x hts hxs;rw [hxs] at hrels;obtain⟨y,hy,hxy⟩:=aFs hrels;obtain⟨n,d,hu,⟨b',c',rfl⟩,rfl⟩:=aUy hT h hxy;refine Does.value hrep hd (y:=.int .i64 n) (hex _ ?_) (by simp [iv,Rel]) (fun j hj=>by simp [iv,SV.has] at hj);have ht0:ts[0]? = some t:=by
   have:ts.toList[0]? = some t:=by rw [hts];rfl
   simpa using this
  have hx0:(args.map a.eval)[0]? = some (.slice b' n c'):=by
   have:(args.toList.map a.eval)[0]? = some (.slice b' n c'):=by rw [hy];rfl
   simpa using this
  simp [builtin,Builtin.len_,ht0,hx0,bB hu,goInt]
 ·rename_i k p l hxs;rw [hxs] at hrels;obtain⟨y0,ys,hys,h0,hl⟩:∃y0 ys,args.toList.map a.eval=y0::ys/\Rel ρ (.v (.int k p)) y0/\Rels ρ l ys:=by
   match hm:args.toList.map a.eval,hrels with
   | [],hr=>simp [Rels] at hr
   | y0::ys,hr=>simp only [Rels] at hr;exact⟨y0,ys,rfl,hr.1,hr.2⟩
  simp only [Rel] at h0;subst h0;obtain⟨v,hv,hrel,hno⟩:=aNj (P:=P) hrep _ _ _ _ h hl;refine Does.value hrep hd (y:=v) (hex _ ?_) hrel (fun j hj=>(hno j hj).elim);have:(args.map a.eval).toList=.int k p::ys:=by simpa using hys
  simp only [builtin,Builtin.min_,this,Sem.run_bind,hv,Result.andThen_ok,Sem.run_pure]
 ·rename_i k p l hxs;rw [hxs] at hrels;obtain⟨y0,ys,hys,h0,hl⟩:∃y0 ys,args.toList.map a.eval=y0::ys/\Rel ρ (.v (.int k p)) y0/\Rels ρ l ys:=by
   match hm:args.toList.map a.eval,hrels with
   | [],hr=>simp [Rels] at hr
   | y0::ys,hr=>simp only [Rels] at hr;exact⟨y0,ys,rfl,hr.1,hr.2⟩
  simp only [Rel] at h0;subst h0;obtain⟨v,hv,hrel,hno⟩:=aNk (P:=P) hrep _ _ _ _ h hl;refine Does.value hrep hd (y:=v) (hex _ ?_) hrel (fun j hj=>(hno j hj).elim);have:(args.map a.eval).toList=.int k p::ys:=by simpa using hys
  simp only [builtin,Builtin.max_,this,Sem.run_bind,hv,Result.andThen_ok,Sem.run_pure]
 ·cases h
end
end Go.Aw
namespace Go.Aw
open Go.RowKit
section
variable {P : Program} {T : Nat → Option TI} {w0 : Cx} {N : Nat} {D : List Deferred} {ρ : Env} {s : FS} {a : Act} {W : World}
theorem Rep.inplace (h:Rep w0 N D ρ s a W) {k fr b nn:Nat} {sym sym':Bool} {cells cells':List SV} {vs' rest':List Value} {W':World} {ty:TypeId}
 (hk:s.bk k=.live true sym cells) (hfr:s.bk fr=.un) (hρ:ρ k=some (b,0,nn)) (hb0:w0.mine b) (hn:nn=(vs'++rest').length) (hc:Rels ρ cells' vs') (hw:∀j,SV.hasl j cells'->s.bk j≠.un) (hpl:(BK.live true sym' cells').pl)
 (ht:Turned W W' b (vs'++rest') ty) :
 Rep w0 N D (ρ.set fr (some (b,0,nn))) (s.app none { val:=.u,ups:=[(k,.dead),(fr,.live true sym' cells')] }) a W':=by
 have hkf:k≠fr:=fun e=>by rw [e,hfr] at hk;cases hk
 have hown:(s.bk k).own:=by rw [hk];trivial
 have hle:=ρ.le_set fr (some (b,0,nn));have hne:∀j,s.bk j≠.un->(ρ.set fr (some (b,0,nn))) j=ρ j:=fun j hj=>by
  rw [Env.set_loc,if_neg (fun e:j=fr=>hj (by rw [e];exact hfr))]
 have hbk:∀j,(s.app none { val:=.u,ups:=[(k,.dead),(fr,.live true sym' cells')] }).bk j=if j=fr then .live true sym' cells' else if j=k then .dead else s.bk j:=fun j=>by
  simp [FS.app,cN]
 have hnun:∀j,s.bk j≠.un->(s.app none { val:=.u,ups:=[(k,.dead),(fr,.live true sym' cells')] }).bk j≠.un:=fun j hj=>by
  rw [hbk];split
  ·simp
  ·split
   ·simp
   ·exact hj
 refine { defs:=h.defs,size:=h.size,sl:=fun t=>Rel.congr hle _ _ (fun j hj=>hne j (h.wf1 t j hj)) (h.sl t),bk:=fun j=>?_,apart:=fun i j b1 n1 b2 n2 hij hi hj e1 e2=>?_,wf1:=fun t j hj=>hnun j (h.wf1 t j hj),wf2:=fun i j hj=>?_,kept:=?_,pl:=fun j=>(by rw [hbk];split;exact hpl;split;trivial;exact h.pl j),old:=fun i hi=>⟨(hne i (h.old i hi).2).trans (h.old i hi).1,hnun i (h.old i hi).2⟩,fzn:=fun c o ho=>⟨?_,fun j m hj e1=>?_,(h.fzn c o ho).2.2⟩,fzo:=h.fzo }
 ·rw [hbk];by_cases hjf:j=fr
  ·subst hjf;rw [if_pos rfl];exact .inr ⟨b,vs',rest',ty,by simp [hn],hb0,Rels.congr hle _ _ (fun i hi=>hne i (hw i hi)) hc,ht.this⟩
  ·rw [if_neg hjf];by_cases hjk:j=k
   ·rw [if_pos hjk];trivial
   ·rw [if_neg hjk];have hb:=h.bk j;refine BRep.congr hle (by simp [hjf]) (fun i hi=>hne i (h.wf2 j i hi)) ?_;cases hx:s.bk j with
    | un=>trivial
    | dead=>trivial
    | live own sy cs =>
     rw [hx] at hb;cases own
     case true=>
      rcases hb with hb | ⟨b₁,vs₁,rest₁,ty₁,e1,e2,e3,e4⟩
      ·exact .inl hb
      ·refine .inr ⟨b₁,vs₁,rest₁,ty₁,e1,e2,e3,?_⟩;rw [ht.other b₁ (h.apart j k b₁ _ b _ hjk (by rw [hx];trivial) hown e1 hρ)];exact e4
     rcases hb with hb | ⟨b₁,o,n,vs₁,e1,e2,e3,e4⟩
     ·exact .inl hb
     ·refine .inr ⟨b₁,o,n,vs₁,e1,e2,e3,fun i x hx=>?_⟩;have hnv:vs₁≠[]:=by rintro rfl;simp at hx
      have:=e4 i x hx;simp only [World.cell?] at this ⊢;rw [ht.other b₁ (fun e=>by
       subst e;obtain⟨ob,ho⟩:=e2.2 hnv hb0;exact(h.fzn _ _ ho).2.1 k _ hown hρ)];exact this
    | map es =>
     rw [hx] at hb;obtain⟨b₁,n₁,arr,e1,e2,e3,e4⟩:=hb;refine⟨b₁,n₁,arr,e1,e2,e3,?_⟩;rw [ht.other b₁ (h.apart j k b₁ _ b _ hjk (by rw [hx];trivial) hown e1 hρ)];exact e4
 ·rw [hbk] at hi hj;simp only [Env.set_loc] at e1 e2;have fix:∀i b1 n1,(if i=fr then BK.live true sym' cells' else if i=k then BK.dead else s.bk i).own->(if i=fr then some (b,0,nn) else ρ i)=some (b1,0,n1)->∃i',(i'=if i=fr then k else i)/\(s.bk i').own/\ρ i'=some (b1,0,n1):=fun i b1 n1 hi e=>by
   by_cases hif:i=fr
   ·rw [if_pos hif] at e;cases e;exact⟨k,by simp [hif],hown,hρ⟩
   ·rw [if_neg hif] at hi e;by_cases hik:i=k
    ·rw [if_pos hik] at hi;exact hi.elim
    ·rw [if_neg hik] at hi;exact⟨i,by simp [hif],hi,e⟩
  have notk:∀i,(if i=fr then BK.live true sym' cells' else if i=k then BK.dead else s.bk i).own->i≠k:=fun i hi e=>by
   subst e;rw [if_neg hkf,if_pos rfl] at hi;exact hi.elim
  obtain⟨i',q1,q2,q3⟩:=fix i b1 n1 hi e1;obtain⟨j',r1,r2,r3⟩:=fix j b2 n2 hj e2;refine h.apart i' j' b1 n1 b2 n2 (fun e=>?_) q2 r2 q3 r3;have h1:=notk i hi;have h2:=notk j hj;rw [q1,r1] at e;by_cases hif:i=fr<;>by_cases hjf:j=fr<;>simp [hif,hjf] at e<;>omega
 ·rw [hbk] at hj;have hj':s.bk j≠.un:=by
   by_cases hif:i=fr
   ·rw [if_pos hif] at hj;exact hw j hj
   ·rw [if_neg hif] at hj;by_cases hik:i=k
    ·rw [if_pos hik] at hj;exact hj.elim
    ·rw [if_neg hik] at hj;exact h.wf2 i j hj
  exact hnun j hj'
 ·exact⟨ht.os.trans h.kept.os,ht.tape.trans h.kept.tape,ht.output.trans h.kept.output,by rw [ht.size];exact h.kept.size,fun j hj ho=>(ht.other j (fun e=>(by rw [←e] at hb0;exact hb0.elim (Nat.not_le_of_lt hj) ho))).trans (h.kept.block j hj ho),by rw [ht.drawn];exact h.kept.drawn⟩
 ·rw [ht.other c (fun e=>by subst e;exact(h.fzn _ _ ho).2.1 k _ hown hρ)];exact(h.fzn c o ho).1
 ·rw [hbk] at hj;simp only [Env.set_loc] at e1;by_cases hjf:j=fr
  ·rw [if_pos hjf] at e1;simp only [bG,eA] at e1;obtain⟨rfl,_⟩:=e1;exact(h.fzn _ _ ho).2.1 k _ hown hρ
  ·rw [if_neg hjf] at hj e1;by_cases hjk:j=k
   ·rw [if_pos hjk] at hj;exact hj.elim
   ·rw [if_neg hjk] at hj;exact(h.fzn _ _ ho).2.1 j m hj e1
theorem Rep.kill0 (h:Rep w0 N D ρ s a W)(k:Nat):Rep w0 N D ρ (s.app none { val:=.u,ups:=[(k,.dead)] }) a W:=by
 have hbk:∀j,(s.app none { val:=.u,ups:=[(k,.dead)] }).bk j=if j=k then .dead else s.bk j:=fun j=>by simp [FS.app,cN]
 have hnun:∀j,s.bk j≠.un->(s.app none { val:=.u,ups:=[(k,.dead)] }).bk j≠.un:=fun j hj=>by
  rw [hbk];split
  ·simp
  ·exact hj
 refine { h with bk:=fun j=>?_,apart:=fun i j b1 n1 b2 n2 hij hi hj e1 e2=>?_,wf1:=fun t j hj=>hnun j (h.wf1 t j hj),wf2:=fun i j hj=>?_,pl:=fun j=>(by rw [hbk];split;trivial;exact h.pl j),old:=fun i hi=>⟨(h.old i hi).1,hnun i (h.old i hi).2⟩,fzn:=fun c o ho=>⟨(h.fzn c o ho).1,fun j m hj=>(by
  rw [hbk] at hj;split at hj
  ·exact hj.elim
  ·exact(h.fzn c o ho).2.1 j m hj),(h.fzn c o ho).2.2⟩ }
 ·rw [hbk];split
  ·trivial
  ·exact h.bk j
 ·rw [hbk] at hi hj;have:∀i,(if i=k then BK.dead else s.bk i).own->(s.bk i).own:=fun i hi=>by
   split at hi
   ·exact hi.elim
   ·exact hi
  exact h.apart i j b1 n1 b2 n2 hij (this i hi) (this j hj) e1 e2
 ·rw [hbk] at hj;split at hj
  ·exact hj.elim
  ·exact hnun j (h.wf2 i j hj)
theorem Rep.kill (h:Rep w0 N D ρ s a W)(k:Nat)(hk:s.bk k≠.un):Rep w0 N D ρ (s.app none { val:=.u,ups:=[(k,.dead)] }) a W:=h.kill0 k
theorem aAq {off n es:Nat} {x:BK} {new:List SV} (h:zI off n es x=some new):∃own cells,x=.live own false cells/\new=(cells.drop off).take (n*es)/\new.length=n*es:=by
 unfold zI at h;split at h
 ·split at h
  ·rename_i own cells hl;simp only [bG] at h;subst h;exact⟨own,cells,rfl,rfl,hl⟩
  ·cases h
 ·cases h
theorem aFt (hrep:Rep w0 N D ρ s a W) {j off n es:Nat} {y:Value} (hy:Rel ρ (.s j off n es) y) {x:BK} (hx:s.bk j=x) {new:List SV} (hs:zI off n es x=some new)(hes:es≠0)(hn:n≠0) :
 ∃(b:Addr) (c:Nat) (us:List Value),y=.slice (some b) n c/\Rels ρ new us/\us.length=n*es/\∀(i:Nat) (u:Value),us[i]? = some u->W.cell? (b.add i)=some u:=by
 obtain⟨own,cells,rfl,rfl,hl⟩:=aAq hs;have hbk:=hrep.bk j;rw [hx] at hbk;simp only [Rel] at hy;rcases hy with⟨h1,h2,rfl⟩ | ⟨b,o,nn,cap,off',sp,hρ,rfl,hle,hcap,hoff⟩
 ·exact(hn h2).elim
 ·rcases hbk.read with⟨he,_⟩ | ⟨b',o',n',vs,e1,⟨e2,e2'⟩,_,e4⟩
  ·rw [hρ] at he;cases he
  rw [hρ] at e1;cases e1;obtain⟨ho1,rfl⟩:=hoff oM;have hrel:Rels ρ ((cells.drop off).take (n*es)) ((vs.drop off).take (n*es)):=Rels.take _ (Rels.drop _ e2);have hlen:=hrel.length;refine⟨_,cap,(vs.drop off).take (n*es),rfl,hrel,by rw [←hlen];exact hl,fun i x hi=>?_⟩;have hi':=(List.getElem?_eq_some_iff.1 hi).1;rw [ho1,add_eq];rw [List.getElem?_take_of_lt (by simp at hi';omega),List.getElem?_drop] at hi;have:=e4 (off+i) x hi;rw [show o+off+i=o+(off+i) by omega];exact this
theorem aNm {j off n es k:Nat} {x:BK} (hx:s.bk j=x) {new:List SV} (hs:zI off n es x=some new)(hw:∀i,x.has i->s.bk i≠.un)(h:SV.hasl k new):s.bk k≠.un:=by
 obtain⟨own,cells,rfl,rfl,hl⟩:=aAq hs;exact hw k (kG (kF h))
theorem lJ (s:FS)(dst:Option Nat)(v:SV)(ups:List (Nat×BK)):s.app dst { val:=v,ups:=ups }=(s.app none { val:=.u,ups:=ups }).app dst { val:=v }:=by
 cases dst<;>rfl
theorem aLo (W:World):Below W.heap.size W W.drew:=⟨rfl,rfl,rfl,Nat.le_refl _,fun _ _=>rfl⟩
theorem aPk (e need old:Nat)(z:Value)(es:Nat)(vs:List Value)(hz:z.cells.size=es)(hl:vs.length=need*es) :
 grownCap W need old e*es<=(vs++(Builtin.zeroCells z.cells (grownCap W need old e - need)).toList).length:=by
 have:=grownCap_ge W need old e;simp only [List.length_append,Array.length_toList,size_zeroCells,hz,hl];rw [←Nat.add_mul];exact Nat.mul_le_mul_right _ oM
theorem nH (hrep:Rep w0 N D ρ s a W) {o:Oper} (hd:∀d,o.dst=some d->d < N) {fr:Nat} (hfr:s.bk fr=.un)(sym:Bool) {cells:List SV} {us:List Value} {e need old es:Nat} {z:Value}
 (hz:z.cells.size=es) (hl:us.length=need*es) (hc:Rels ρ cells us) (hw:∀j,SV.hasl j cells->s.bk j≠.un) (hpl:(BK.live true sym cells).pl)
 (hr:(execOp a.eval o).run P W=.ok (.value (.slice (some ⟨W.heap.size,0,none⟩) need (grownCap W need old e))) (W.drew.alloc (.cells (us.toArray++Builtin.zeroCells z.cells (grownCap W need old e - need)) e))) :
 Does P w0 N D s a W o { val:=.s fr 0 need es,ups:=[(fr,.live true sym cells)] }:=by
 have hrep':Rep w0 N D ρ s a W.drew:=hrep.grow (aLo W) (Nat.le_succ _);have hnew:=hrep'.new hfr (cells:=cells) (vs:=us) (rest:=(Builtin.zeroCells z.cells (grownCap W need old e - need)).toList) sym e hc hw hpl;have hW:({ W.drew with heap:=W.drew.heap.push (.cells (us++(Builtin.zeroCells z.cells (grownCap W need old e - need)).toList).toArray e) }:World)=W.drew.alloc (.cells (us.toArray++Builtin.zeroCells z.cells (grownCap W need old e - need)) e):=by
  have:(us++(Builtin.zeroCells z.cells (grownCap W need old e - need)).toList).toArray=us.toArray++Builtin.zeroCells z.cells (grownCap W need old e - need):=by apply Array.ext';simp
  rw [this];rfl
 rw [hW] at hnew;refine⟨_,_,_,ρ.set fr (some (W.drew.heap.size,0,(us++(Builtin.zeroCells z.cells (grownCap W need old e - need)).toList).length)),hr,.inl rfl,?_⟩;rw [lJ];refine hnew.put o.dst hd ?_ (fun k hk=>?_)
 ·simp only [Rel];refine .inr ⟨W.heap.size,0,(us++(Builtin.zeroCells z.cells (grownCap W need old e - need)).toList).length,grownCap W need old e,0,none,(by rw [Env.set_loc,if_pos rfl];rfl),rfl,grownCap_ge W need old e,?_,fun _=>⟨rfl,rfl⟩⟩;have:=aPk (W:=W) e need old z es us hz hl;omega
 ·simp only [SV.has] at hk;subst hk;simp [FS.app,cN]
theorem Does.killed {o:Oper} {k fr:Nat} {x:BK} {v:SV} (hne:k≠fr)(h:Does P w0 N D (s.app none { val:=.u,ups:=[(k,.dead)] }) a W o { val:=v,ups:=[(fr,x)] }) :
 Does P w0 N D s a W o { val:=v,ups:=[(k,.dead),(fr,x)] }:=h
theorem Rep.empty (h:Rep w0 N D ρ s a W) {fr:Nat} (hfr:s.bk fr=.un):Rep w0 N D (ρ.set fr none) (s.app none { val:=.u,ups:=[(fr,.live true true [])] }) a W:=by
 have hle:=ρ.le_set fr none;have hne:∀j,s.bk j≠.un->(ρ.set fr none) j=ρ j:=fun j hj=>by
  rw [Env.set_loc,if_neg (fun e:j=fr=>hj (by rw [e];exact hfr))]
 have hbk:∀j,(s.app none { val:=.u,ups:=[(fr,.live true true [])] }).bk j=if j=fr then .live true true [] else s.bk j:=fun j=>by simp [FS.app,cN]
 have hnun:∀j,s.bk j≠.un->(s.app none { val:=.u,ups:=[(fr,.live true true [])] }).bk j≠.un:=fun j hj=>by
  rw [hbk];split
  ·simp
  ·exact hj
 refine { defs:=h.defs,size:=h.size,sl:=fun t=>Rel.congr hle _ _ (fun j hj=>hne j (h.wf1 t j hj)) (h.sl t),bk:=fun j=>?_,apart:=fun i j b1 n1 b2 n2 hij hi hj e1 e2=>?_,wf1:=fun t j hj=>hnun j (h.wf1 t j hj),wf2:=fun i j hj=>?_,kept:=h.kept,pl:=fun j=>(by rw [hbk];split;exact(fun k hk=>by simp [SV.hasl] at hk);exact h.pl j),old:=fun i hi=>⟨(hne i (h.old i hi).2).trans (h.old i hi).1,hnun i (h.old i hi).2⟩,fzn:=fun c o ho=>⟨(h.fzn c o ho).1,fun j m hj e1=>?_,(h.fzn c o ho).2.2⟩,fzo:=h.fzo }
 ·rw [hbk];by_cases hjf:j=fr
  ·subst hjf;rw [if_pos rfl];exact .inl ⟨by simp,rfl⟩
  ·rw [if_neg hjf];exact BRep.congr hle (by simp [hjf]) (fun i hi=>hne i (h.wf2 j i hi)) (h.bk j)
 ·rw [hbk] at hi hj;simp only [Env.set_loc] at e1 e2;by_cases hif:i=fr
  ·rw [if_pos hif] at e1;cases e1
  ·by_cases hjf:j=fr
   ·rw [if_pos hjf] at e2;cases e2
   ·rw [if_neg hif] at hi e1;rw [if_neg hjf] at hj e2;exact h.apart i j b1 n1 b2 n2 hij hi hj e1 e2
 ·rw [hbk] at hj;by_cases hif:i=fr
  ·rw [if_pos hif] at hj;simp [BK.has,SV.hasl] at hj
  ·rw [if_neg hif] at hj;exact hnun j (h.wf2 i j hj)
 ·rw [hbk] at hj;simp only [Env.set_loc] at e1;by_cases hjf:j=fr
  ·rw [if_pos hjf] at e1;cases e1
  ·rw [if_neg hjf] at hj e1;exact(h.fzn c o ho).2.1 j m hj e1
theorem aCg (hrep:Rep w0 N D ρ s a W) {o:Oper} {args:Array Operand} {t' e':TypeId} (hop:o.op=.call { callee:=.builtin .append,args:=args,argTypes:=#[t',t'] }) (hd:∀d,o.dst=some d->d < N)
 {fr:Nat} (hfr:s.bk fr=.un) {ne:TypeInfo} {ze:Value} {es1:Nat} (h2:P.underlying t'=some (.slice e')) (g1:P.info? e'=some ne) (g3:ne.zero=some ze) (hsz:ne.size=es1) (hz':ze.cells.size=es1)
 {k len n:Nat} {sym sym':Bool} {cells new:List SV} (hkb:s.bk k=.live true sym cells) (hkf:k≠fr) (hcl:cells.length=len*es1) (hn:n≠0) (hn1:len+n<=2 ^ 40) (hn2:(len+n)*ne.bytes<=2 ^ 47)
 {y1:Value} {b:Addr} {c:Nat} {us:List Value} (r1:Rel ρ (.s k 0 len es1) y1) (hargs:args.toList.map a.eval=[y1,.slice (some b) n c]) (hrl:Rels ρ new us) (hlen:us.length=n*es1)
 (hcell:∀(i:Nat) (u:Value),us[i]? = some u->W.cell? (b.add i)=some u) (hone:new.all SV.one=true) (hnewwf:∀i,SV.hasl i new->s.bk i≠.un) (hplc:(BK.live true sym' (cells++new)).pl) :
 Does P w0 N D s a W o { val:=.s fr 0 (len+n) es1,ups:=[(k,.dead),(fr,.live true sym' (cells++new))] }:=by
 have hcellwf:∀i,SV.hasl i (cells++new)->s.bk i≠.un:=fun i hi=>by
  rcases mO hi with hi | hi
  ·exact hrep.wf2 k i (by rw [hkb];exact hi)
  ·exact hnewwf i hi
 have hkill:=hrep.kill k (by rw [hkb];simp);have hfr':(s.app none { val:=.u,ups:=[(k,.dead)] }).bk fr=.un:=by simp [FS.app,cN,Ne.symm hkf,hfr]
 have hwf':∀i,SV.hasl i (cells++new)->(s.app none { val:=.u,ups:=[(k,.dead)] }).bk i≠.un:=fun i hi=>by
  simp only [FS.app,cN];split
  ·simp
  ·exact hcellwf i hi
 have hbk:=hrep.bk k;rw [hkb] at hbk;have hones:∀v∈us,v.oneCell'=true:=Rels.ones hrl hone;simp only [Rel] at r1;rcases r1 with⟨q1,rfl,rfl⟩ | ⟨b1,o1,nn1,cap,off',sp,q1,rfl,q3,q4,q5⟩
 ·-- nil after all
  have hcn:cells=[]:=List.eq_nil_of_length_eq_zero (by simpa using hcl);subst hcn;have hev:args.map a.eval=#[.slice none 0 0,.slice (some b) n c]:=by apply Array.ext';simpa using hargs
  simp only [Nat.zero_add,List.nil_append] at hn1 hn2 hwf' hplc ⊢;refine Does.killed hkf (nH hkill hd hfr' sym' (old:=0) (e:=e') (z:=ze) hz' hlen hrl hwf' hplc ?_);have hr:=run_append_nil (P:=P) W t' o.type e' ne ze h2 g1 g3 b n c us (by rw [hsz];exact hlen) hcell oM oM oM;simp only [execOp,hop,resolve,invoke,builtin,Sem.run_bind,Sem.run_pure,Result.andThen_ok,hev,hr]
 ·rcases hbk with⟨x1,_⟩ | ⟨b2,vs,rest,ty,x1,x2,x3,x4⟩
  ·rw [q1] at x1;cases x1
  rw [q1] at x1;cases x1;have hvl:vs.length=len*es1:=by rw [←x3.length];exact hcl
  have hev:args.map a.eval=#[.slice (some ⟨b1,0+off',sp⟩) len cap,.slice (some b) n c]:=by apply Array.ext';simpa using hargs
  by_cases hroom:len+n<=cap
  ·-- in place
   obtain⟨ho,rfl⟩:=q5 oM;subst ho;have hfit:len*es1+us.length<=(vs++rest).length:=by
    rw [hlen,←Nat.add_mul];have:=Nat.mul_le_mul_right es1 hroom;omega
   obtain⟨W',hst,hturn⟩:=nV (P:=P) (b:=b1) (o:=0+(0+len*es1)) (ty:=ty) us 0 W (vs++rest) x4 hones (by simpa using hfit);have hsp:splice (vs++rest) (0+(0+len*es1)+0) us=(vs++us)++rest.drop us.length:=by
    unfold splice;simp only [Nat.zero_add,Nat.add_zero];rw [←hvl,List.take_left,List.drop_append];simp
   rw [hsp] at hturn;have hrun:(execOp a.eval o).run P W=.ok (.value (.slice (some ⟨b1,0,none⟩) (len+n) cap)) W':=by
    have hfc:=run_firstCells_some (P:=P) W es1 n b n c us hlen hcell;simp only [execOp,hop,resolve,invoke,builtin,Sem.run_bind,Sem.run_pure,Result.andThen_ok,hev];simp only [Nat.zero_add] at hst;simp [Builtin.append_,run_underlying h2,sizeOf,typeInfo,g1,Builtin.lenOf,hroom,hfc,Addr.add_lit,hsz,hst]
   have hin:=hrep.inplace (cells':=cells++new) (vs':=vs++us) (rest':=rest.drop us.length) (sym':=sym') hkb hfr q1 x2 (by simp at hfit ⊢;omega) (Rels.append x3 hrl) hcellwf hplc hturn;refine⟨_,_,_,ρ.set fr (some (b1,0,(vs++rest).length)),hrun,.inl rfl,?_⟩;rw [lJ];refine hin.put o.dst hd ?_ (fun i hi=>?_)
   ·simp only [Rel];exact .inr ⟨b1,0,(vs++rest).length,cap,0,none,by simp,rfl,hroom,q4,fun _=>⟨rfl,rfl⟩⟩
   ·simp only [SV.has] at hi;subst hi;simp [FS.app,cN]
  ·-- it grows
   have hlen':(vs++us).length=(len+n)*es1:=by rw [List.length_append,hvl,hlen,Nat.add_mul]
   have holds:∀(i:Nat) (u:Value),vs[i]? = some u->W.cell? ((Addr.mk b1 (0+off') sp).add i)=some u:=fun i u hi=>by
    have hi':=(List.getElem?_eq_some_iff.1 hi).1;have hc0:cap≠0:=fun e=>by
     have:len=0:=by omega
     subst this;simp at hvl;subst hvl;simp at hi'
    obtain⟨q6,rfl⟩:=q5 hc0;rw [q6,add_eq];have hc1:W.cell? ⟨b1,i,none⟩=some u:=by
     have hg:(vs++rest)[i]? = some u:=by rw [List.getElem?_append_left hi',hi]
     simp [World.cell?,x4,hg]
    simpa using hc1
   refine Does.killed hkf (nH hkill hd hfr' sym' (old:=cap) (e:=e') (z:=ze) hz' hlen' (Rels.append x3 hrl) hwf' hplc ?_);have hr:=run_append_grow (P:=P) W t' o.type e' ne ze h2 g1 g3 ⟨b1,0+off',sp⟩ len cap vs (by rw [hsz];exact hvl) holds b n c us (by rw [hsz];exact hlen) hcell oM oM (growslice_fits oM oM);simp only [execOp,hop,resolve,invoke,builtin,Sem.run_bind,Sem.run_pure,Result.andThen_ok,hev,hr];simp
theorem aI4 (hT:nG P T)(hrep:Rep w0 N D ρ s a W) {o:Oper} {args:Array Operand} {ts:Array TypeId} (hop:o.op=.call { callee:=.builtin .append,args:=args,argTypes:=ts }) (hd:∀d,o.dst=some d->d < N)
 {fr:Nat} (hfr:s.bk fr=.un) {xs:List SV} (hxs:xs=args.toList.map (ev s.sl)) {bs:List BK} (hbs:bs=(jS o.op xs).map s.bk) {e:Eff} {obs:List Ob}
 (h:qG T ts.toList xs bs fr=some (e,obs)) (hob:Obs P obs):Does P w0 N D s a W o e:=by
 have hrels:Rels ρ xs (args.toList.map a.eval):=by rw [hxs];exact lW hrep _
 have hwfx:∀k,SV.hasl k xs->s.bk k≠.un:=fun k hk=>vY hrep (by rw [hxs] at hk;exact hk)
 unfold qG at h;split at h
 case h_2=>cases h
 rename_i t t' hts;split at h
 case isFalse=>cases h
 rename_i htt;subst htt;split at h
 ·cases h
 rename_i i hTi;split at h
 case h_2=>cases h
 rename_i el es by0 hk;split at h
 ·cases h
 rename_i ei hTe;split at h
 case isFalse=>cases h
 rename_i hes;obtain⟨hes,hsz,hzl⟩:=hes;obtain⟨nn,d,z0,h1,h2,h3,rfl⟩:=bF (hT _ _ hTi);obtain⟨ne,de,ze,g1,g2,g3,rfl⟩:=bF (hT _ _ hTe);simp only at hk hsz hzl h;have htsA:ts=#[t',t']:=by apply Array.ext';simpa using hts
 cases d with
 | slice e' =>
  simp only [cH,TK.slice.injEq] at hk;obtain⟨rfl,he,-⟩:=hk;clear he;have hz':ze.cells.size=es:=by rw [←hzl];simp
  split at h
  ·-- a nil slice
   rename_i j off n es' src;split at h
   case isFalse=>cases h
   rename_i hc;obtain⟨rfl,hn,hn1,hn2⟩:=hc;split at h
   case h_2=>cases h
   rename_i new hs;split at h
   case isFalse=>cases h
   rename_i hone;simp only [bG,eA] at h;obtain⟨rfl,rfl⟩:=h;obtain⟨y1,l1,hargs⟩:∃y1 l1,args.toList.map a.eval=y1::l1:=by
    cases hm:args.toList.map a.eval with
    | nil=>rw [hm] at hrels;simp [Rels] at hrels
    | cons y1 l1=>exact⟨y1,l1,rfl⟩
   rw [hargs] at hrels;simp only [Rels] at hrels;obtain⟨r1,r2⟩:=hrels;cases l1 with
   | nil=>simp [Rels] at r2
   | cons y2 l2 =>
   simp only [Rels] at r2;obtain⟨r2,r3⟩:=r2;cases l2 with
   | cons _ _=>simp [Rels] at r3
   | nil =>
   simp only [Rel] at r1;subst r1;have hsrc:s.bk j=src:=by rw [hop] at hbs;simpa [jS] using hbs.symm
   obtain⟨b,c,us,rfl,hrl,hlen,hcell⟩:=aFt hrep r2 hsrc hs hes hn;have hev:args.map a.eval=#[.slice none 0 0,.slice (some b) n c]:=by apply Array.ext';simpa using hargs
   refine nH hrep hd hfr false (old:=0) (e:=e') (z:=ze) hz' hlen hrl (fun k hk=>aNm hsrc hs (fun i hi=>hrep.wf2 j i (by rw [hsrc];exact hi)) hk) trivial ?_;have hr:=run_append_nil (P:=P) W t' o.type e' ne ze h2 g1 g3 b n c us (by rw [hsz];exact hlen) hcell oM oM oM;simp only [execOp,hop,resolve,invoke,builtin,Sem.run_bind,Sem.run_pure,Result.andThen_ok,hev,htsA,hr]
  ·-- an own block
   rename_i k len es1 j off n es' sym cells src;split at h
   case isFalse=>cases h
   rename_i hc;obtain⟨rfl,rfl,hn⟩:=hc;split at h
   case h_2=>cases h
   rename_i new hs;split at h
   case isFalse=>cases h
   rename_i hone;have hh:∃hfacts:(cells.length=len*es1/\len+n<=2 ^ 40/\(len+n)*ne.bytes<=2 ^ 47)/\(BK.live true sym new).pl,e={ val:=.s fr 0 (len+n) es1,ups:=[(k,.dead),(fr,.live true sym (cells++new))] }:=by
    cases sym
    case false=>
     simp only at h;split at h
     ·rename_i hf;simp only [bG,eA] at h;exact⟨⟨hf,trivial⟩,h.1.symm⟩
     ·cases h
    simp only at h;split at h
    ·cases h
    ·rename_i hpl;simp only [bG,eA] at h;obtain⟨rfl,rfl⟩:=h;exact⟨⟨hob.1,lH (by simpa using hpl)⟩,rfl⟩
   obtain⟨⟨⟨hcl,hn1,hn2⟩,hpln⟩,rfl⟩:=hh;clear h;obtain⟨y1,l1,hargs⟩:∃y1 l1,args.toList.map a.eval=y1::l1:=by
    cases hm:args.toList.map a.eval with
    | nil=>rw [hm] at hrels;simp [Rels] at hrels
    | cons y1 l1=>exact⟨y1,l1,rfl⟩
   rw [hargs] at hrels;simp only [Rels] at hrels;obtain⟨r1,r2⟩:=hrels;cases l1 with
   | nil=>simp [Rels] at r2
   | cons y2 l2 =>
   simp only [Rels] at r2;obtain⟨r2,r3⟩:=r2;cases l2 with
   | cons _ _=>simp [Rels] at r3
   | nil =>
   have hbs':s.bk k=.live true sym cells/\s.bk j=src:=by
    rw [hop] at hbs;simp only [jS,List.map_cons,List.map_nil,List.cons.injEq,and_true] at hbs;exact⟨hbs.1.symm,hbs.2.symm⟩
   obtain⟨hkb,hsrc⟩:=hbs';have hkf:k≠fr:=fun e=>by rw [e,hfr] at hkb;cases hkb
   obtain⟨b,c,us,rfl,hrl,hlen,hcell⟩:=aFt hrep r2 hsrc hs hes hn;have hnewwf:∀i,SV.hasl i new->s.bk i≠.un:=fun i hi=>aNm hsrc hs (fun i hi=>hrep.wf2 j i (by rw [hsrc];exact hi)) hi
   have hplc:(BK.live true sym (cells++new)).pl:=by
    have h1:=hrep.pl k;rw [hkb] at h1;cases sym
    case false=>trivial
    intro j hj;rcases mO hj with hj | hj
    ·exact h1 j hj
    ·exact hpln j hj
   exact aCg hrep (by rw [hop,htsA]) hd hfr h2 g1 g3 hsz hz' hkb hkf hcl hn hn1 hn2 r1 hargs hrl hlen hcell hone hnewwf hplc
  ·cases h
 | _=>simp [cH] at hk
theorem jZ (t ty e:TypeId)(i:TypeInfo)(ht:P.underlying t=some (.slice e))(hi:P.info? e=some i)(base:Option Addr)(len cap:Nat)(hle:len<=cap)(y:Value)(hy:(∃b c,y=.slice b 0 c)) :
 (Builtin.append_ #[t,t] ty #[.slice base len cap,y]).run P W=.ok (.slice base len cap) W:=by
 obtain⟨b,c,rfl⟩:=hy;have hf:(Builtin.firstCells i.size 0 (.slice b 0 c)).run P W=.ok #[] W:=by
  cases b with
  | none=>exact run_firstCells_none _ _ _ _ _
  | some b=>exact run_firstCells_some (P:=P) W i.size 0 b 0 c [] (by simp) (by simp)
 cases base with
 | none=>simp [Builtin.append_,run_underlying ht,sizeOf,typeInfo,hi,Builtin.lenOf,hle,hf]
 | some base=>simp [Builtin.append_,run_underlying ht,sizeOf,typeInfo,hi,Builtin.lenOf,hle,hf,storeCells]
theorem aGr (hT:nG P T)(hrep:Rep w0 N D ρ s a W) {o:Oper} {args:Array Operand} {ts:Array TypeId} (hop:o.op=.call { callee:=.builtin .append,args:=args,argTypes:=ts }) (hd:∀d,o.dst=some d->d < N)
 {fr:Nat} (hfr:s.bk fr=.un) {xs:List SV} (hxs:xs=args.toList.map (ev s.sl)) {bs:List BK} (hbs:bs=(jS o.op xs).map s.bk) {e:Eff} {obs:List Ob}
 (h:nW T ts.toList xs bs fr=some (e,obs)) (hob:Obs P obs):Does P w0 N D s a W o e:=by
 have hrels:Rels ρ xs (args.toList.map a.eval):=by rw [hxs];exact lW hrep _
 unfold nW at h;split at h
 case h_2=>cases h
 rename_i t t' hts;split at h
 case isFalse=>cases h
 rename_i htt;subst htt;split at h
 ·cases h
 rename_i i hTi;split at h
 case h_2=>cases h
 rename_i el es by0 hk;split at h
 ·cases h
 rename_i ei hTe;split at h
 case isFalse=>cases h
 rename_i hes;obtain⟨hes,hsz,hzl⟩:=hes;obtain⟨nn,d,z0,h1,h2,h3,rfl⟩:=bF (hT _ _ hTi);obtain⟨ne,de,ze,g1,g2,g3,rfl⟩:=bF (hT _ _ hTe);simp only at hk hsz hzl h;have htsA:ts=#[t',t']:=by apply Array.ext';simpa using hts
 cases d with
 | slice e' =>
  simp only [cH,TK.slice.injEq] at hk;obtain⟨rfl,he,-⟩:=hk;clear he;have hz':ze.cells.size=es:=by rw [←hzl];simp
  -- what is appended, if it is anything
  have src:∀{j n:Nat} {own:Bool} {new:List SV} {y:Value},Rel ρ (.s j 0 n es) y->s.bk j=.live own true new->new.length=n*es->n≠0 ->
   ∃(b:Addr) (c:Nat) (us:List Value),y=.slice (some b) n c/\Rels ρ new us/\us.length=n*es/\∀(i:Nat) (u:Value),us[i]? = some u->W.cell? (b.add i)=some u:=by
   intro j n own new y hy hx hl hn;have hbk:=hrep.bk j;rw [hx] at hbk;simp only [Rel] at hy;rcases hy with⟨h1,h2,rfl⟩ | ⟨b,o,nn,cap,off',sp,hρ,rfl,hle,hcap,hoff⟩
   ·exact(hn h2).elim
   ·rcases hbk.read with⟨he,_⟩ | ⟨b',o',n',vs,e1,⟨e2,e2'⟩,_,e4⟩
    ·rw [hρ] at he;cases he
    rw [hρ] at e1;cases e1;refine⟨_,cap,vs,rfl,e2,by rw [←e2.length];exact hl,fun i x hi=>?_⟩;obtain⟨ho1,rfl⟩:=hoff oM;rw [ho1,add_eq];simpa using e4 i x hi
  have srcwf:∀{j:Nat} {own:Bool} {new:List SV},s.bk j=.live own true new->∀i,SV.hasl i new->s.bk i≠.un:=fun hx i hi=>hrep.wf2 _ i (by rw [hx];exact hi)
  have srcpl:∀{j:Nat} {own:Bool} {new:List SV},s.bk j=.live own true new->Plain new:=fun {j own new} hx=>by
   have:=hrep.pl j;rw [hx] at this;exact this
  have none':∀{j es:Nat} {y:Value},Rel ρ (.s j 0 0 es) y->∃b c,y=.slice b 0 c:=by
   intro j es y hy;simp only [Rel] at hy;rcases hy with⟨h1,h2,rfl⟩ | ⟨b,o,nn,cap,off',sp,hρ,rfl,hle,hcap,hoff⟩
   ·exact⟨_,_,rfl⟩
   ·exact⟨_,_,rfl⟩
  split at h
  ·-- a nil slice
   rename_i j n es' own new;split at h
   case isFalse=>cases h
   rename_i hc;subst hc;simp only [bG,eA] at h;obtain⟨rfl,rfl⟩:=h;obtain⟨hnl,hone,hn1,hn2⟩:=hob.1;obtain⟨y1,l1,hargs⟩:∃y1 l1,args.toList.map a.eval=y1::l1:=by
    cases hm:args.toList.map a.eval with
    | nil=>rw [hm] at hrels;simp [Rels] at hrels
    | cons y1 l1=>exact⟨y1,l1,rfl⟩
   rw [hargs] at hrels;simp only [Rels] at hrels;obtain⟨r1,r2⟩:=hrels;cases l1 with
   | nil=>simp [Rels] at r2
   | cons y2 l2 =>
   simp only [Rels] at r2;obtain⟨r2,r3⟩:=r2;cases l2 with
   | cons _ _=>simp [Rels] at r3
   | nil =>
   simp only [Rel] at r1;subst r1;have hsrc:s.bk j=.live own true new:=by rw [hop] at hbs;simpa [jS] using hbs.symm
   by_cases hn:n=0
   ·subst hn;have hnil:new=[]:=List.eq_nil_of_length_eq_zero (by simpa using hnl);subst hnil;have hev:args.map a.eval=#[.slice none 0 0,y2]:=by apply Array.ext';simpa using hargs
    have hr:=jZ (P:=P) (W:=W) t' o.type e' ne h2 g1 none 0 0 (Nat.le_refl _) y2 (none' r2);refine⟨.value (.slice none 0 0),.slice none 0 0,W,ρ.set fr none,(by simp only [execOp,hop,resolve,invoke,builtin,Sem.run_bind,Sem.run_pure,Result.andThen_ok,hev,htsA,hr]),.inl rfl,?_⟩;rw [lJ];refine(hrep.empty hfr).put o.dst hd ?_ (fun i hi=>?_)
    ·simp only [Rel];exact .inl ⟨by simp,trivial,trivial⟩
    ·simp only [SV.has] at hi;subst hi;simp [FS.app,cN]
   ·obtain⟨b,c,us,rfl,hrl,hlen,hcell⟩:=src r2 hsrc hnl hn;have hev:args.map a.eval=#[.slice none 0 0,.slice (some b) n c]:=by apply Array.ext';simpa using hargs
    refine nH hrep hd hfr true (old:=0) (e:=e') (z:=ze) hz' hlen hrl (srcwf hsrc) (srcpl hsrc) ?_;have hr:=run_append_nil (P:=P) W t' o.type e' ne ze h2 g1 g3 b n c us (by rw [hsz];exact hlen) hcell oM oM oM;simp only [execOp,hop,resolve,invoke,builtin,Sem.run_bind,Sem.run_pure,Result.andThen_ok,hev,htsA,hr]
  ·-- an own block
   rename_i k len es1 j n es' sym cells own new;split at h
   case isFalse=>cases h
   rename_i hc;obtain⟨rfl,rfl,hpl0⟩:=hc;simp only [bG,eA] at h;obtain⟨rfl,rfl⟩:=h;obtain⟨hcl,hnl,hone,hn1,hn2⟩:=hob.1;obtain⟨y1,l1,hargs⟩:∃y1 l1,args.toList.map a.eval=y1::l1:=by
    cases hm:args.toList.map a.eval with
    | nil=>rw [hm] at hrels;simp [Rels] at hrels
    | cons y1 l1=>exact⟨y1,l1,rfl⟩
   rw [hargs] at hrels;simp only [Rels] at hrels;obtain⟨r1,r2⟩:=hrels;cases l1 with
   | nil=>simp [Rels] at r2
   | cons y2 l2 =>
   simp only [Rels] at r2;obtain⟨r2,r3⟩:=r2;cases l2 with
   | cons _ _=>simp [Rels] at r3
   | nil =>
   have hbs':s.bk k=.live true sym cells/\s.bk j=.live own true new:=by
    rw [hop] at hbs;simp only [jS,List.map_cons,List.map_nil,List.cons.injEq,and_true] at hbs;exact⟨hbs.1.symm,hbs.2.symm⟩
   obtain⟨hkb,hsrc⟩:=hbs';have hkf:k≠fr:=fun e=>by rw [e,hfr] at hkb;cases hkb
   have hplk:Plain cells:=by
    cases sym
    case true=>have:=hrep.pl k;rw [hkb] at this;exact this
    exact lH (by simpa using hpl0)
   have hplc:(BK.live true true (cells++new)).pl:=by
    intro i hi;rcases mO hi with hi | hi
    ·exact hplk i hi
    ·exact srcpl hsrc i hi
   by_cases hn:n=0
   ·subst hn;have hnil:new=[]:=List.eq_nil_of_length_eq_zero (by simpa using hnl);subst hnil;simp only [Rel] at r1;rcases r1 with⟨q1,rfl,rfl⟩ | ⟨b1,o1,nn1,cap,off',sp,q1,rfl,q3,q4,q5⟩
    ·have hcn:cells=[]:=List.eq_nil_of_length_eq_zero (by simpa using hcl);subst hcn;have hev:args.map a.eval=#[.slice none 0 0,y2]:=by apply Array.ext';simpa using hargs
     have hr:=jZ (P:=P) (W:=W) t' o.type e' ne h2 g1 none 0 0 (Nat.le_refl _) y2 (none' r2);have hfr':(s.app none { val:=.u,ups:=[(k,.dead)] }).bk fr=.un:=by simp [FS.app,cN,Ne.symm hkf,hfr]
     refine Does.killed hkf ⟨.value (.slice none 0 0),.slice none 0 0,W,ρ.set fr none,(by simp only [execOp,hop,resolve,invoke,builtin,Sem.run_bind,Sem.run_pure,Result.andThen_ok,hev,htsA,hr]),.inl rfl,?_⟩;rw [lJ];refine((hrep.kill k (by rw [hkb];simp)).empty hfr').put o.dst hd ?_ (fun i hi=>?_)
     ·simp only [Rel];exact .inl ⟨by simp,trivial,trivial⟩
     ·simp only [SV.has] at hi;subst hi;simp [FS.app,cN]
    ·have hbk:=hrep.bk k;rw [hkb] at hbk;rcases hbk with⟨x1,_⟩ | ⟨b2,vs,rest,ty,x1,x2,x3,x4⟩
     ·rw [q1] at x1;cases x1
     rw [q1] at x1;cases x1;have hev:args.map a.eval=#[.slice (some ⟨b1,0+off',sp⟩) len cap,y2]:=by apply Array.ext';simpa using hargs
     have hr:=jZ (P:=P) (W:=W) t' o.type e' ne h2 g1 (some ⟨b1,0+off',sp⟩) len cap q3 y2 (none' r2);have hturn:Turned W W b1 (vs++rest) ty:=⟨rfl,rfl,rfl,rfl,fun _ _=>rfl,x4,rfl⟩;have hin:=hrep.inplace (cells':=cells++[]) (vs':=vs) (rest':=rest) (sym':=true) hkb hfr q1 x2 rfl (by simpa using x3) (fun i hi=>hrep.wf2 k i (by rw [hkb];simp only [List.append_nil] at hi;exact hi)) hplc hturn;refine⟨.value (.slice (some ⟨b1,0+off',sp⟩) len cap),.slice (some ⟨b1,0+off',sp⟩) len cap,W,ρ.set fr (some (b1,0,(vs++rest).length)),(by simp only [execOp,hop,resolve,invoke,builtin,Sem.run_bind,Sem.run_pure,Result.andThen_ok,hev,htsA,hr]),.inl rfl,?_⟩;rw [lJ];refine hin.put o.dst hd ?_ (fun i hi=>?_)
     ·simp only [Rel];exact .inr ⟨b1,0,(vs++rest).length,cap,off',sp,by simp,rfl,by simpa using q3,q4,q5⟩
     ·simp only [SV.has] at hi;subst hi;simp [FS.app,cN]
   ·obtain⟨b,c,us,rfl,hrl,hlen,hcell⟩:=src r2 hsrc hnl hn;exact aCg hrep (by rw [hop,htsA]) hd hfr h2 g1 g3 hsz hz' hkb hkf hcl hn hn1 hn2 r1 hargs hrl hlen hcell hone (srcwf hsrc) hplc
  ·-- nothing is appended
   rename_i _ _ k len es1 b2 c2;split at h
   case isFalse=>cases h
   rename_i hc;subst hc;simp only [bG,eA] at h;obtain⟨rfl,rfl⟩:=h;obtain⟨y1,l1,hargs⟩:∃y1 l1,args.toList.map a.eval=y1::l1:=by
    cases hm:args.toList.map a.eval with
    | nil=>rw [hm] at hrels;simp [Rels] at hrels
    | cons y1 l1=>exact⟨y1,l1,rfl⟩
   rw [hargs] at hrels;simp only [Rels] at hrels;obtain⟨r1,r2⟩:=hrels;cases l1 with
   | nil=>simp [Rels] at r2
   | cons y2 l2 =>
   simp only [Rels] at r2;obtain⟨r2,r3⟩:=r2;cases l2 with
   | cons _ _=>simp [Rels] at r3
   | nil =>
   simp only [Rel] at r2;subst r2;have hkw:s.bk k≠.un:=vY (l:=args.toList) hrep (by rw [←hxs];simp [SV.hasl,SV.has]);have hy1:∃base cap,y1=.slice base len cap/\len<=cap:=by
    simp only [Rel] at r1;rcases r1 with⟨_,rfl,rfl⟩ | ⟨b,o,nn,cap,off',sp,_,rfl,hle,_⟩
    ·exact⟨none,0,rfl,Nat.le_refl _⟩
    ·exact⟨_,cap,rfl,hle⟩
   obtain⟨base,cap,rfl,hle⟩:=hy1;have hev:args.map a.eval=#[.slice base len cap,.slice b2 0 c2]:=by apply Array.ext';simpa using hargs
   have hr:=jZ (P:=P) (W:=W) t' o.type e' ne h2 g1 base len cap hle _ ⟨b2,c2,rfl⟩;refine⟨.value (.slice base len cap),.slice base len cap,W,ρ,(by simp only [execOp,hop,resolve,invoke,builtin,Sem.run_bind,Sem.run_pure,Result.andThen_ok,hev,htsA,hr]),.inl rfl,?_⟩;rw [lJ];refine(hrep.kill0 fr).put o.dst hd r1 (fun i hi=>?_);simp only [SV.has] at hi;subst hi;simp only [FS.app,cN];split
   ·simp
   ·exact hkw
  ·cases h
 | _=>simp [cH] at hk
end
end Go.Aw
namespace Go.Aw
open Go.RowKit
section
variable {P : Program} {T : Nat → Option TI} {w0 : Cx} {N : Nat} {D : List Deferred} {ρ : Env} {s : FS} {a : Act} {W : World}
theorem zL (hT:nG P T)(em:Bool):∀(d t:Nat) (xs ys:List SV) (vs:List Value) (r:Bool),eqC T d t xs ys=some r->Rels ρ xs vs ->
 ∀(i:TI),conv P t=some i->∀m,d<=m->(Instr.checkKey em m t (kH i.agg vs)).run P W=.ok () W
 | 0,t,xs,ys,vs,r,h,_,_,_,_,_=>by simp [eqC] at h
 | d+1,t,xs,ys,vs,r,h,hx,i,hi,m,hm=>by
  obtain⟨m',rfl⟩:∃m',m=m'+1:=⟨m - 1,by omega⟩;obtain⟨n,de,z,h1,h2,h3,hie⟩:=bF hi;simp only [eqC] at h;split at h
  ·cases h
  rename_i i0 hTt;have hii:i0=i:=by have:=(hT t _ hTt).symm.trans hi;simpa using this
  subst hii;rw [Instr.checkKey];simp only [Sem.run_bind,bB h2,Result.andThen_ok];split at h
  ·rename_i k hk;rw [hie] at hk;simp only at hk;cases de<;>simp [cH] at hk;simp
  ·rename_i hk;rw [hie] at hk;simp only at hk;cases de<;>simp [cH] at hk;simp
  ·rename_i fs hk;split at h
   ·rename_i hok;rw [hie] at hk hok;simp only at hk hok;cases de<;>simp [cH] at hk;rename_i fields;simp only [Bool.and_eq_true,Bool.not_eq_true'] at hok;obtain⟨⟨_,_⟩,hok3⟩:=hok;simp only [aBh,List.all_eq_true] at hok3;rw [hie];simp only [kH,dW,if_true];rw [←Array.forIn_toList];subst hk;generalize fields.toList=L at h hok3
    induction L generalizing r with
    | nil=>simp
    | cons f fl ih =>
     simp only [List.map_cons,List.foldr_cons] at h;have hne : f.name ≠ "_" := by have := hok3 f (by simp); simpa using this
     split at h
     ·rename_i hlens;obtain⟨hl1,hl2,hl3⟩:=hlens;split at h
      ·rename_i x y hx1 hy1;have hd0:∃i',conv P f.type=some i':=by
        cases d with
        | zero=>simp [eqC] at hx1
        | succ d' =>
         simp only [eqC] at hx1;split at hx1
         ·cases hx1
         ·rename_i i' hTf;exact⟨_,hT _ _ hTf⟩
       obtain⟨i',hi'⟩:=hd0;obtain⟨n',de',z',g1,g2,g3,hie'⟩:=bF hi';have hcs:P.cellsOf f.type=n'.size:=by simp [Program.cellsOf,g1]
       rw [hcs] at hl1 hl2 hl3 hx1;have rx:Rels ρ ((xs.drop f.offset).take n'.size) ((vs.drop f.offset).take n'.size):=Rels.take _ (Rels.drop _ hx);have heq:=zL hT em d f.type _ _ _ x hx1 rx i' hi' m' oM;have px:=nX (P:=P) (W:=W) g1 g2 (vs:=vs) (off:=f.offset) (by rw [←rx.length];exact hl1) (fun _=>hl3);rw [hie'] at heq;simp only at heq;simp only [List.forIn_cons,Sem.run_bind,hne,ne_eq,not_false_eq_true,if_true,Result.andThen_ok,px,heq,Sem.run_pure];have h9:=ih (r:=y) (by exact hy1) (fun g hg=>hok3 g (by simp [hg]));rw [Sem.run_bind] at h9;exact h9
      ·cases h
     ·cases h
   ·cases h
  ·rename_i an ae aes hk;rw [hie] at hk;simp only at hk;cases de<;>simp [cH] at hk;rename_i alen aelem;obtain⟨e1,e2,hes'⟩:=hk;subst e1 e2;split at h
   ·cases h
   rename_i ei hTe;split at h
   ·rename_i hcond;obtain⟨hes,hsz⟩:=hcond;obtain⟨n',de',z',g1,g2,g3,hie'⟩:=bF (hT _ _ hTe);rw [hie'] at hsz;simp only at hsz;rw [hie];simp only [kH,dW,if_true];simp only [Std.Legacy.Range.forIn_eq_forIn_range',Std.Legacy.Range.size,Nat.sub_zero,Nat.add_one_sub_one,Nat.div_one];rw [List.range_eq_range'] at h;generalize List.range' 0 alen=is at h
    induction is generalizing r with
    | nil=>simp
    | cons j il ih =>
     simp only [List.foldr_cons] at h;split at h
     ·rename_i hlens;obtain⟨hl1,hl2⟩:=hlens;split at h
      ·rename_i x y hx1 hy1;rw [←hsz] at hl1 hl2 hx1 hes;have rx:Rels ρ ((xs.drop (j*n'.size)).take n'.size) ((vs.drop (j*n'.size)).take n'.size):=Rels.take _ (Rels.drop _ hx);have heq:=zL hT em d aelem _ _ _ x hx1 rx _ (hT _ _ hTe) m' oM;have px:=nX (P:=P) (W:=W) g1 g2 (vs:=vs) (off:=j*n'.size) (by rw [←rx.length];exact hl1) (fun _=>hes);rw [hie'] at heq;simp only at heq;simp only [List.forIn_cons,Sem.run_bind,mN g1,Result.andThen_ok,px,heq,Sem.run_pure];have h9:=ih (r:=y) hy1;rw [Sem.run_bind] at h9;exact h9
      ·cases h
     ·cases h
   ·cases h
  ·cases h
structure KeyOf (P:Program) (T:Nat->Option TI) (ρ:Env) (kt:Nat) (x:SV) (v:Value) (i:TI) (d:TypeDesc) (vs:List Value):Prop where
 ti:conv P kt=some i
 und:P.underlying kt=some d
 agg:i.agg=dW d
 val:v=kH i.agg vs
 rel:Rels ρ x.cells vs
 prim:x.cells.all SV.prim=true
 self:∃r,eqC T 100 kt x.cells x.cells=some r
 one:i.agg=false->∃y,vs=[y]
theorem aNn {x:SV} {v:Value} (h:x.prim=true)(hr:Rel ρ x v):x=.v v:=by
 unfold SV.prim at h;split at h
 ·simp only [Rel] at hr;rw [hr]
 ·simp only [Rel] at hr;rw [hr]
 ·cases h
theorem qH:∀{l:List SV} {vs:List Value},l.all SV.prim=true->Rels ρ l vs->l=vs.map .v
 | [],[],_,_=>rfl
 | [],_::_,_,h=>by simp [Rels] at h
 | _::_,[],_,h=>by simp [Rels] at h
 | x::l,v::vs,hp,h=>by
  simp only [List.all_cons,Bool.and_eq_true] at hp;simp only [Rels] at h;rw [aNn hp.1 h.1,qH hp.2 h.2];rfl
theorem wA (hT:nG P T) {kt:Nat} {x:SV} {v:Value} (h:rB T kt x=true)(hr:Rel ρ x v):∃i d vs,KeyOf P T ρ kt x v i d vs:=by
 unfold rB at h;simp only [Bool.and_eq_true] at h;obtain⟨⟨h1,h2⟩,h3⟩:=h;have hself:∃r,eqC T 100 kt x.cells x.cells=some r:=Option.isSome_iff_exists.1 h1;split at h3
 ·rename_i i hi;obtain⟨n,d,z,g1,g2,g3,hie⟩:=bF (hT kt i hi);have hagg:i.agg=dW d:=by rw [hie]
  split at h3
  ·rename_i l hag;simp only [Rel] at hr;obtain⟨vs,rfl,hr⟩:=hr;exact⟨i,d,vs,hT kt i hi,g2,hagg,by simp [kH,hag],hr,h2,hself,fun h=>by rw [hag] at h;cases h⟩
  ·rename_i _ y hag;have hxv:=aNn h3 hr;subst hxv;have hc:(SV.v v).cells=[.v v]:=by
    cases v<;>simp [SV.prim] at h3<;>rfl
   refine⟨i,d,[v],hT kt i hi,g2,hagg,by simp [kH,hag],by rw [hc];simp only [Rels,Rel];exact⟨trivial,trivial⟩,h2,hself,fun _=>⟨v,rfl⟩⟩
  ·cases h3
 ·cases h3
theorem aFu:∀{l m:List Value},l.map SV.v=m.map SV.v->l=m
 | [],[],_=>rfl
 | [],_::_,h=>by simp at h
 | _::_,[],h=>by simp at h
 | x::l,y::m,h=>by
  simp only [List.map_cons,List.cons.injEq,SV.v.injEq] at h;rw [h.1,aFu h.2]
theorem aNo (hT:nG P T) {kt:Nat} {x:SV} {v u:Value} (h:rB T kt x=true)(hr:Rel ρ x v)(hu:Rel ρ x u):u=v:=by
 obtain⟨i,d,vs,k⟩:=wA hT h hr;obtain⟨i',d',us,k'⟩:=wA hT h hu;have e1:=qH k.prim k.rel;have e2:=qH k'.prim k'.rel;have hi:i'=i:=by have:=k'.ti.symm.trans k.ti;simpa using this
 have:us=vs:=by
  have:=e2.symm.trans e1;exact aFu this
 rw [k.val,k'.val,hi,this]
theorem zM (hT:nG P T) {kt:Nat} {x:SV} {v:Value} (h:rB T kt x=true)(hr:Rel ρ x v)(em:Bool):(Instr.checkKey em 10000 kt v).run P W=.ok () W:=by
 obtain⟨i,d,vs,k⟩:=wA hT h hr;obtain⟨r,hs⟩:=k.self;rw [k.val];exact zL hT em 100 kt _ _ _ r hs k.rel i k.ti 10000 oM
theorem aFv {m:Nat} {v:Value} (h:(SV.v v).prim=true):Instr.sameBits m v v=true:=by
 cases v<;>simp [SV.prim] at h<;>(cases m<;>simp [Instr.sameBits])
theorem aQu {m:Nat} {vs:List Value} (hp:∀y∈vs,(SV.v y).prim=true):Instr.sameBits (m+1) (.agg vs.toArray) (.agg vs.toArray)=true:=by
 simp only [Instr.sameBits,beq_self_eq_true,Bool.true_and,List.all_eq_true];intro q hq;have:q.1=q.2/\q.1∈vs:=by
  have hz:∀(l:List Value) (q:Value×Value),q∈l.zip l->q.1=q.2/\q.1∈l:=by
   intro l
   induction l with
   | nil=>intro q hq;simp at hq
   | cons y l ih =>
    intro q hq;rcases List.mem_cons.1 hq with rfl | hq
    ·exact⟨rfl,by simp⟩
    ·exact⟨(ih q hq).1,by simp [(ih q hq).2]⟩
  exact hz vs q (by simpa using hq)
 obtain⟨q1,q2⟩:=q;simp only at this;obtain⟨rfl,hm⟩:=this;exact aFv (hp _ hm)
theorem aFw (hT:nG P T) {kt:Nat} {x:SV} {v:Value} (h:rB T kt x=true)(hr:Rel ρ x v):(Instr.keyThatStays v v).run P W=.ok v W:=by
 obtain⟨i,d,vs,k⟩:=wA hT h hr;have e1:=qH k.prim k.rel;have hp:∀y∈vs,(SV.v y).prim=true:=fun y hy=>by
  have:=List.all_eq_true.1 k.prim (.v y) (by rw [e1];exact List.mem_map.2 ⟨y,hy,rfl⟩);exact this
 have hb:Instr.sameBits 10000 v v=true:=by
  rw [k.val];unfold kH;split
  ·exact aQu (m:=9999) hp
  ·rename_i hag;obtain⟨y,rfl⟩:=k.one (by simpa using hag);exact aFv (hp y (by simp))
 unfold Instr.keyThatStays;rw [if_pos hb];rfl
theorem aQv (hT:nG P T)(dd:Nat) {kt:Nat} {y1 y2:Value} {b:Bool} (he:eqC T (dd+1) kt [.v y1] [.v y2]=some b)(hxp:(SV.v y1).prim=true)(hyp:(SV.v y2).prim=true) {d0:TypeDesc} (hd:P.underlying kt=some d0)(hag:dW d0=false):Instr.sameNow d0 y1 y2=some b:=by
 simp only [eqC] at he;split at he
 ·cases he
 rename_i i0 hTt;obtain⟨n,de,z,g1,g2,g3,hie⟩:=bF (hT kt i0 hTt);have hdd:de=d0:=by have:=g2.symm.trans hd;simpa using this
 subst hdd;split at he
 ·rename_i kk hk;rw [hie] at hk;simp only at hk;cases de<;>simp [cH] at hk;cases y1<;>simp [SV.prim] at hxp<;>cases y2<;>simp [SV.prim] at hyp<;>simp at he;obtain⟨e1,e2⟩:=he;subst e1 e2;simp [Instr.sameNow]
 ·rename_i hk;rw [hie] at hk;simp only at hk;cases de<;>simp [cH] at hk;cases y1<;>simp [SV.prim] at hxp<;>cases y2<;>simp [SV.prim] at hyp<;>simp at he;subst he;simp [Instr.sameNow]
 ·rename_i fs hk;rw [hie] at hk;simp only at hk;cases de<;>simp [cH] at hk;simp [dW] at hag
 ·rename_i an ae aes hk;rw [hie] at hk;simp only at hk;cases de<;>simp [cH] at hk;simp [dW] at hag
 ·cases he
theorem zN (hT:nG P T) {kt:Nat} {x y:SV} {v u:Value} (h:rB T kt x=true)(hr:Rel ρ x v)(hy:rB T kt y=true)(hu:Rel ρ y u) {b:Bool} (he:eqC T 100 kt x.cells y.cells=some b) :
 (Op.equal kt v u).run P W=.ok b W/\(∀d,P.underlying kt=some d->Instr.sameNow d v u=some b\/((dW d=true)/\Instr.sameNow d v u=none)):=by
 obtain⟨i,d,vs,k⟩:=wA hT h hr;obtain⟨i',d',us,k'⟩:=wA hT hy hu;have hi:i'=i:=by have:=k'.ti.symm.trans k.ti;simpa using this
 subst hi;constructor
 ·rw [k.val,k'.val];exact aGo hT 100 kt _ _ _ _ b he k.rel k'.rel i' k.ti 10000 oM
 ·intro d0 hd0;have hdd:d0=d:=by have:=hd0.symm.trans k.und;simpa using this
  subst hdd;by_cases hag:dW d0=true
  ·right;refine⟨hag,?_⟩;cases d0<;>simp [dW] at hag<;>simp [Instr.sameNow]
  ·left;have hag':i'.agg=false:=by rw [k.agg];simpa using hag
   obtain⟨y1,hv1⟩:=k.one hag';obtain⟨y2,hu1⟩:=k'.one hag';have ex:=qH k.prim k.rel;have ey:=qH k'.prim k'.rel;rw [hv1] at ex;rw [hu1] at ey;have hv:v=y1:=by rw [k.val,hv1,hag'];rfl
   have hu':u=y2:=by rw [k'.val,hu1,hag'];rfl
   simp only [List.map_cons,List.map_nil] at ex ey;rw [ex,ey] at he;have hxp:=k.prim;have hyp:=k'.prim;rw [ex] at hxp;rw [ey] at hyp;simp only [List.all_cons,List.all_nil,Bool.and_true] at hxp hyp;rw [hv,hu'];exact aQv hT 99 he hxp hyp k.und (by simpa using hag)
def Hit (ρ:Env)(q:Option (Nat×SV))(r:Option (Nat×Value)):Prop := (q=none/\r=none)\/∃i x v,q=some (i,x)/\r=some (i,v)/\Rel ρ x v
theorem aI5 (hT:nG P T) {kt:Nat} {x:SV} {v:Value} (hkey:rB T kt x=true)(hr:Rel ρ x v):∀(es:List (SV×SV)) (l:List MapEntry) (n off:Nat) (q:Option (Nat×SV)),MEs ρ es l n->qF T kt es x ->
 ((∃i y,es[i]? = some (x,y)/\(∀j e,j < i->es[j]? = some e->e.1≠x)/\q=some (off+i,y))\/((∀e∈es,e.1≠x)/\q=none)) ->
 ∃r,(Instr.findAsking kt v l off).run P W=.ok r W/\Hit ρ q r
 | [],[],n,off,q,_,_,hq=>by
  rcases hq with⟨i,y,h,_⟩ | ⟨_,rfl⟩
  ·simp at h
  ·exact⟨none,by simp [Instr.findAsking],.inl ⟨rfl,rfl⟩⟩
 | [],_::_,_,_,_,h,_,_=>by simp [MEs] at h
 | _::_,[],_,_,_,h,_,_=>by simp [MEs] at h
 | e::es,m::l,n,off,q,hm,hk,hq=>by
  simp only [MEs] at hm;obtain⟨m1,m2,m3,m4⟩:=hm;obtain⟨hke,b,hb,hiff⟩:=hk e (by simp);have heq:=(zN (W:=W) hT hkey hr hke m1 hb).1;cases b
  case true=>
   have hex:=hiff.1 rfl;refine⟨some (off,m.val),by simp [Instr.findAsking,heq],?_⟩;rcases hq with⟨i,y,h1,h2,rfl⟩ | ⟨h1,_⟩
   ·cases i with
    | zero =>
     simp at h1;subst h1;exact .inr ⟨off,y,m.val,rfl,rfl,m2⟩
    | succ i=>exact(h2 0 e oM (by simp) hex).elim
   ·exact(h1 e (by simp) hex).elim
  have hne:e.1≠x:=fun h=>by have:=hiff.2 h;cases this
  obtain⟨r,hr1,hr2⟩:=aI5 hT hkey hr es l (n+1) (off+1) q m4 (fun e' he'=>hk e' (by simp [he'])) (by
   rcases hq with⟨i,y,h1,h2,rfl⟩ | ⟨h1,rfl⟩
   ·cases i with
    | zero=>simp at h1;subst h1;exact(hne rfl).elim
    | succ i=>exact .inl ⟨i,y,by simpa using h1,fun j e' hj he'=>h2 (j+1) e' oM (by simpa using he'),by rw [show off+(i+1)=off+1+i by omega]⟩
   ·exact .inr ⟨fun e' he'=>h1 e' (by simp [he']),rfl⟩)
  exact⟨r,by simp [Instr.findAsking,heq,hr1],hr2⟩
theorem aI6 (hT:nG P T) {kt:Nat} {d:TypeDesc} (hd:P.underlying kt=some d)(hag:dW d=false) {x:SV} {v:Value} (hkey:rB T kt x=true)(hr:Rel ρ x v):∀(es:List (SV×SV)) (l:List MapEntry) (n off:Nat) (q:Option (Nat×SV)),MEs ρ es l n->qF T kt es x ->
 ((∃i y,es[i]? = some (x,y)/\(∀j e,j < i->es[j]? = some e->e.1≠x)/\q=some (off+i,y))\/((∀e∈es,e.1≠x)/\q=none)) ->
 ∃r,Instr.findNow d v l off=some r/\Hit ρ q r
 | [],[],n,off,q,_,_,hq=>by
  rcases hq with⟨i,y,h,_⟩ | ⟨_,rfl⟩
  ·simp at h
  ·exact⟨none,by simp [Instr.findNow],.inl ⟨rfl,rfl⟩⟩
 | [],_::_,_,_,_,h,_,_=>by simp [MEs] at h
 | _::_,[],_,_,_,h,_,_=>by simp [MEs] at h
 | e::es,m::l,n,off,q,hm,hk,hq=>by
  simp only [MEs] at hm;obtain⟨m1,m2,m3,m4⟩:=hm;obtain⟨hke,b,hb,hiff⟩:=hk e (by simp);have heq:Instr.sameNow d v m.key=some b:=by
   rcases (zN (W:=dF) hT hkey hr hke m1 hb).2 d hd with h | ⟨h,_⟩
   ·exact h
   ·rw [hag] at h;cases h
  cases b
  case true=>
   have hex:=hiff.1 rfl;refine⟨some (off,m.val),by simp [Instr.findNow,heq],?_⟩;rcases hq with⟨i,y,h1,h2,rfl⟩ | ⟨h1,_⟩
   ·cases i with
    | zero =>
     simp at h1;subst h1;exact .inr ⟨off,y,m.val,rfl,rfl,m2⟩
    | succ i=>exact(h2 0 e oM (by simp) hex).elim
   ·exact(h1 e (by simp) hex).elim
  have hne:e.1≠x:=fun h=>by have:=hiff.2 h;cases this
  obtain⟨r,hr1,hr2⟩:=aI6 hT hd hag hkey hr es l (n+1) (off+1) q m4 (fun e' he'=>hk e' (by simp [he'])) (by
   rcases hq with⟨i,y,h1,h2,rfl⟩ | ⟨h1,rfl⟩
   ·cases i with
    | zero=>simp at h1;subst h1;exact(hne rfl).elim
    | succ i=>exact .inl ⟨i,y,by simpa using h1,fun j e' hj he'=>h2 (j+1) e' oM (by simpa using he'),by rw [show off+(i+1)=off+1+i by omega]⟩
   ·exact .inr ⟨fun e' he'=>h1 e' (by simp [he']),rfl⟩)
  exact⟨r,by simp [Instr.findNow,heq,hr1],hr2⟩
theorem aCh (hT:nG P T) {kt:Nat} {x:SV} {v:Value} (hkey:rB T kt x=true)(hr:Rel ρ x v) {es:List (SV×SV)} {l:List MapEntry} {q:Option (Nat×SV)} (hm:MEs ρ es l 0)(hk:qF T kt es x)(hq:aIy es x q) :
 ∃r,(Instr.findKey kt v l).run P W=.ok r W/\Hit ρ q r:=by
 have hq':(∃i y,es[i]? = some (x,y)/\(∀j e,j < i->es[j]? = some e->e.1≠x)/\q=some (0+i,y))\/((∀e∈es,e.1≠x)/\q=none):=by
  rcases hq with⟨i,y,h1,h2,h3⟩ | h
  ·exact .inl ⟨i,y,h1,h2,by rw [h3,Nat.zero_add]⟩
  ·exact .inr h
 obtain⟨i,d,vs,k⟩:=wA hT hkey hr;unfold Instr.findKey;simp only [Sem.run_bind,bB k.und,Result.andThen_ok];by_cases hag:dW d=true
 ·cases es with
  | nil =>
   cases l with
   | cons _ _=>simp [MEs] at hm
   | nil =>
    have hn:q=none:=by
     rcases hq' with⟨_,_,h,_⟩ | ⟨_,h⟩
     ·simp at h
     ·exact h
    refine⟨none,by simp [Instr.findNow],.inl ⟨hn,rfl⟩⟩
  | cons e es =>
   cases l with
   | nil=>simp [MEs] at hm
   | cons m l =>
    obtain⟨r,h1,h2⟩:=aI5 (W:=W) hT hkey hr (e::es) (m::l) 0 0 q hm hk hq';refine⟨r,?_,h2⟩;have hnone:Instr.findNow d v (m::l) 0=none:=by
     simp only [MEs] at hm;obtain⟨hke,b,hb,_⟩:=hk e (by simp);have:=(zN (W:=W) hT hkey hr hke hm.1 hb).2 d k.und;have hs:Instr.sameNow d v m.key=none:=by
      cases d<;>simp [dW] at hag<;>simp [Instr.sameNow]
     simp [Instr.findNow,hs]
    rw [hnone];exact h1
 ·obtain⟨r,h1,h2⟩:=aI6 hT k.und (by simpa using hag) hkey hr es l 0 0 q hm hk hq';exact⟨r,by rw [h1];rfl,h2⟩
theorem MEs.length:∀{es:List (SV×SV)} {l:List MapEntry} {n:Nat},MEs ρ es l n->es.length=l.length
 | [],[],_,_=>rfl
 | [],_::_,_,h=>by simp [MEs] at h
 | _::_,[],_,h=>by simp [MEs] at h
 | _::es,_::l,n,h=>by simp only [MEs] at h;simp [MEs.length h.2.2.2]
theorem MEs.get:∀{es:List (SV×SV)} {l:List MapEntry} {n i:Nat} {e:SV×SV},MEs ρ es l n->es[i]? = some e->∃m,l[i]? = some m/\Rel ρ e.1 m.key/\Rel ρ e.2 m.val/\m.born=n+i
 | [],_,_,_,_,_,h=>by simp at h
 | _::_,[],_,_,_,h,_=>by simp [MEs] at h
 | x::es,m::l,n,0,e,h,hi=>by
  simp only [MEs] at h;simp at hi;subst hi;exact⟨m,by simp,h.1,h.2.1,by omega⟩
 | x::es,m::l,n,i+1,e,h,hi=>by
  simp only [MEs] at h;simp at hi;obtain⟨m',h1,h2,h3,h4⟩:=MEs.get h.2.2.2 hi;exact⟨m',by simpa using h1,h2,h3,by omega⟩
theorem MEs.snoc:∀{es:List (SV×SV)} {l:List MapEntry} {n:Nat} {e:SV×SV} {m:MapEntry},MEs ρ es l n->Rel ρ e.1 m.key->Rel ρ e.2 m.val->m.born=n+l.length->MEs ρ (es++[e]) (l++[m]) n
 | [],[],n,e,m,_,h1,h2,h3=>by simp only [List.nil_append,MEs];exact⟨h1,h2,by simpa using h3,trivial⟩
 | [],_::_,_,_,_,h,_,_,_=>by simp [MEs] at h
 | _::_,[],_,_,_,h,_,_,_=>by simp [MEs] at h
 | x::es,y::l,n,e,m,h,h1,h2,h3=>by
  simp only [MEs] at h;simp only [List.cons_append,MEs];exact⟨h.1,h.2.1,h.2.2.1,MEs.snoc h.2.2.2 h1 h2 (by simp at h3;omega)⟩
theorem MEs.put:∀{es:List (SV×SV)} {l:List MapEntry} {n i:Nat} {e:SV×SV} {m m':MapEntry},MEs ρ es l n->l[i]? = some m->Rel ρ e.1 m'.key->Rel ρ e.2 m'.val->m'.born=m.born->MEs ρ (es.set i e) (l.set i m') n
 | [],[],_,_,_,_,_,_,h,_,_,_=>by simp at h
 | [],_::_,_,_,_,_,_,h,_,_,_,_=>by simp [MEs] at h
 | _::_,[],_,_,_,_,_,h,_,_,_,_=>by simp [MEs] at h
 | x::es,y::l,n,0,e,m,m',h,hi,h1,h2,h3=>by
  simp only [MEs] at h;simp at hi;subst hi;simp only [List.set_cons_zero,MEs];exact⟨h1,h2,by rw [h3];exact h.2.2.1,h.2.2.2⟩
 | x::es,y::l,n,i+1,e,m,m',h,hi,h1,h2,h3=>by
  simp only [MEs] at h;simp at hi;simp only [List.set_cons_succ,MEs];exact⟨h.1,h.2.1,h.2.2.1,MEs.put h.2.2.2 hi h1 h2 h3⟩
theorem aCi {t:Nat} {i:TI} {kt et:Nat} (hc:conv P t=some i)(hk:i.kind=.map kt et):P.underlying t=some (.map kt et):=by
 obtain⟨n,d,z,h1,h2,h3,rfl⟩:=bF hc;simp only at hk;cases d<;>simp [cH] at hk;obtain⟨rfl,rfl⟩:=hk;exact h2
theorem aGs (hrep:Rep w0 N D ρ s a W) {o:Oper} {t:TypeId} (hop:o.op=.makeMap t none)(hd:∀d,o.dst=some d->d < N) {fr:Nat} (hfr:s.bk fr=.un) :
 Does P w0 N D s a W o { val:=.m fr,ups:=[(fr,.map [])] }:=by
 have hn:=hrep.newM hfr;refine⟨.value (.map (some W.heap.size)),.map (some W.heap.size),{ W with heap:=W.heap.push (.map #[] 0) },ρ.set fr (some (W.heap.size,0,0)),?_,.inl rfl,?_⟩
 ·simp only [execOp,hop,Option.map_none,Instr.makeMap,Sem.run_bind];simp [newObj];rfl
 ·rw [fU];refine hn.put o.dst hd ?_ (fun j hj=>?_)
  ·simp only [Rel];exact⟨W.heap.size,0,0,by simp,rfl⟩
  ·simp only [SV.has] at hj;subst hj;simp [FS.app,cN]
theorem aGt (hrep:Rep w0 N D ρ s a W) {x:Operand} {k:Nat} {es:List (SV×SV)} (hx:ev s.sl x=.m k)(hb:s.bk k=.map es) :
 ∃b n arr,ρ k=some (b,0,n)/\w0.mine b/\MEs ρ es arr.toList 0/\W.heap[b]? = some (.map arr arr.size)/\a.eval x=.map (some b):=by
 have hxr:=bW hrep x;rw [hx] at hxr;simp only [Rel] at hxr;obtain⟨b,o',n,hρ,hy⟩:=hxr;have hbk:=hrep.bk k;rw [hb] at hbk;obtain⟨b',n',arr,e1,e2,e3,e4⟩:=hbk;rw [hρ] at e1;simp only [bG,eA] at e1;obtain⟨rfl,rfl,rfl⟩:=e1;exact⟨b,n,arr,hρ,e2,e3,e4,hy⟩
theorem aW2 (hrep:Rep w0 N D ρ s a W) {k:Nat} {es:List (SV×SV)} (hb:s.bk k=.map es) {j:Nat}:¬SV.hasl j (kE es):=by
 have:=hrep.pl k;rw [hb] at this;exact this j
theorem aFx {es:List (SV×SV)} {e:SV×SV} {x:SV} (he:e∈es)(hx:x=e.1\/x=e.2):x∈kE es:=by
 unfold kE;rw [List.mem_flatMap];exact⟨e,he,by rcases hx with rfl | rfl<;>simp⟩
theorem aI7 {et:Nat} {ei:TI} (hce:conv P et=some ei) {z:SV} (hz:zH ei=some z):∃u,(∀W,(zeroValue et).run P W=.ok u W)/\(∀ρ:Env,Rel ρ z u)/\∀k,¬z.has k:=by
 obtain⟨n,d,zv,h1,h2,h3,rfl⟩:=bF hce;refine⟨zv,fun W=>fW h1 h3 W,?_⟩;unfold zH at hz;simp only at hz;split at hz
 ·rename_i cs _;simp only [bG] at hz;subst hz;exact⟨fun ρ=>by simp only [Rel];exact⟨cs.toList,by simp,Rels.vals _⟩,fun k hk=>nR (by simpa only [SV.has] using hk)⟩
 ·simp only [bG] at hz;subst hz;exact⟨fun ρ=>by simp only [Rel],fun k hk=>eO hk⟩
 ·cases hz
theorem aUz {q:Option (Nat×SV)} {r:Option (Nat×Value)} (h:Hit ρ q r) {z:SV} {u:Value} (hz:Rel ρ z u):Rel ρ ((q.map (·.2)).getD z) ((r.map (·.2)).getD u)/\q.isSome=r.isSome:=by
 rcases h with⟨rfl,rfl⟩ | ⟨i,x,v,rfl,rfl,h⟩
 ·exact⟨hz,rfl⟩
 ·exact⟨h,rfl⟩
theorem aAr (hT:nG P T)(hrep:Rep w0 N D ρ s a W) {o:Oper} {t:TypeId} {x y:Operand} {ok:Bool} (hop:o.op=.lookup t x y ok)(hd:∀d,o.dst=some d->d < N) {k:Nat} (hx:ev s.sl x=.m k) {kv:SV} (hy:ev s.sl y=kv)
 {es:List (SV×SV)} (hb:s.bk k=.map es) {i ei:TI} (hc:conv P t=some i) {kt et:Nat} (hk:i.kind=.map kt et) (hce:conv P et=some ei) {z:SV} (hz:zH ei=some z) (hkey:rB T kt kv=true) (hke:qF T kt es kv)
 {q:Option (Nat×SV)} (hq:aIy es kv q) (c:Bool) (hcok:ok=c:=by rfl) :
 Does P w0 N D s a W o { val:=if c then .t [(q.map (·.2)).getD z,.v (.bool q.isSome)] else(q.map (·.2)).getD z }:=by
 subst hcok;obtain⟨b,n,arr,e1,e2,e3,e4,e5⟩:=aGt hrep hx hb;obtain⟨u,hu1,hu2,hu3⟩:=aI7 hce hz;have hyr:=bW hrep y;rw [hy] at hyr;obtain⟨r,hr1,hr2⟩:=aCh (W:=W) hT hkey hyr e3 hke hq;obtain⟨g1,g2⟩:=aUz hr2 (hu2 ρ);have hno:∀j,¬((q.map (·.2)).getD z).has j:=fun j hj=>by
  rcases hq with⟨i,v,h1,_,rfl⟩ | ⟨_,rfl⟩
  ·exact aW2 hrep hb (eP.2 ⟨v,aFx (List.mem_of_getElem? h1) (.inr rfl),hj⟩)
  ·exact hu3 j hj
 have hrun:(Instr.lookup t (a.eval x) (a.eval y) ok).run P W=.ok (if ok then .tuple #[(r.map (·.2)).getD u,.bool r.isSome] else(r.map (·.2)).getD u) W:=by
  unfold Instr.lookup;simp only [Sem.run_bind,bB (aCi hc hk),Result.andThen_ok,e5,MapKept.run_getObj_map e4,Sem.run_pure,zM hT hkey hyr,hr1];cases r with
  | none=>simp [hu1]
  | some r=>simp
 cases ok
 case false=>simp only [Bool.false_eq_true,if_false];exact Does.value hrep hd (y:=(r.map (·.2)).getD u) (by simp only [execOp,hop,Sem.run_bind,hrun,Result.andThen_ok];rfl) g1 (fun j hj=>(hno j hj).elim)
 refine Does.value hrep hd (y:=.tuple #[(r.map (·.2)).getD u,.bool r.isSome]) (by simp only [execOp,hop,Sem.run_bind,hrun,Result.andThen_ok];rfl) ?_ (fun j hj=>?_)
 ·simp only [if_true,Rel];exact⟨[_,_],rfl,by simp only [Rels,Rel];exact⟨g1,by rw [g2],trivial⟩⟩
 ·simp only [if_true,SV.has,SV.hasl,or_false] at hj;exact(hno j hj).elim
theorem aCj (hrep:Rep w0 N D ρ s a W) {k b n:Nat} {es es':List (SV×SV)} {arr arr':Array MapEntry} (hb:s.bk k=.map es)(hρ:ρ k=some (b,0,n))(hm:w0.mine b)(hh:W.heap[b]? = some (.map arr arr.size))(hms:MEs ρ es' arr'.toList 0)(hpl:Plain (kE es')) :
 Rep w0 N D ρ (s.app none { val:=.u,ups:=[(k,.map es')] }) a { W with heap:=W.heap.setIfInBounds b (.map arr' arr'.size) }:=by
 have hs:=MapKept.heap_set (o':=.map arr' arr'.size) hh;exact hrep.turnB (by rw [hb];trivial) hρ hm ⟨b,n,arr',hρ,hm,hms,hs.1⟩ (by simp) (fun j hj=>(hpl j hj).elim) hpl rfl rfl rfl (by simp) (fun j hj=>hs.2 j hj)
theorem wB {arr:Array MapEntry} {i:Nat} {m:MapEntry} (h:arr.toList[i]? = some m)(f:MapEntry->MapEntry):(arr.modify i f).toList=arr.toList.set i (f m):=by
 have hlt:=(List.getElem?_eq_some_iff.1 h);obtain⟨hlt,he⟩:=hlt;apply List.ext_getElem?;intro j;simp only [Array.getElem?_toList,Array.getElem?_modify,List.getElem?_set];by_cases hj:i=j
 ·subst hj;simp only [if_true];rw [←Array.getElem?_toList,h];simp only [Array.length_toList] at hlt;simp [hlt]
 ·simp [hj]
theorem sV (hT:nG P T)(hrep:Rep w0 N D ρ s a W) {o:Oper} {t:TypeId} {x y z:Operand} (hop:o.op=.mapUpdate t x y z\/o.op=.insert t x y z)(hd:∀d,o.dst=some d->d < N) {k:Nat} (hx:ev s.sl x=.m k) {kv v0 v:SV} (hy:ev s.sl y=kv)(hv0:ev s.sl z=v0)(hnb:v0.nb=v)
 {es es':List (SV×SV)} (hb:s.bk k=.map es) {i:TI} (hc:conv P t=some i) {kt et:Nat} (hk:i.kind=.map kt et) (hkey:rB T kt kv=true) (hkn:v.known=true) (hke:qF T kt es kv)
 (hset:aUv es kv v es') (hpl:Plain (kE es')):Does P w0 N D s a W o { val:=.v undef,ups:=[(k,.map es')] }:=by
 obtain⟨b,n,arr,e1,e2,e3,e4,e5⟩:=aGt hrep hx hb;have hyr:=bW hrep y;rw [hy] at hyr;have hvr:=aLg (bW hrep z);rw [hv0,hnb] at hvr;obtain⟨q,hq,hes⟩:=hset;obtain⟨r,hr1,hr2⟩:=aCh (W:=W) hT hkey hyr e3 hke hq;have fin:∀arr':Array MapEntry,MEs ρ es' arr'.toList 0->(Instr.mapUpdate t (a.eval x) (a.eval y) (a.eval z)).run P W=.ok () { W with heap:=W.heap.setIfInBounds b (.map arr' arr'.size) } ->
  Does P w0 N D s a W o { val:=.v undef,ups:=[(k,.map es')] }:=fun arr' hms hrun=>by
  have ht:=aCj hrep hb e1 e2 e4 hms hpl;refine⟨.skip,undef,{ W with heap:=W.heap.setIfInBounds b (.map arr' arr'.size) },ρ,?_,.inr ⟨rfl,rfl⟩,?_⟩
  ·rcases hop with hop | hop<;>(simp only [execOp,hop,Sem.run_bind,hrun,Result.andThen_ok];rfl)
  ·rw [fU];exact ht.put o.dst hd (by simp [Rel]) (fun j hj=>(eO hj).elim)
 have hbase:(Instr.mapUpdate t (a.eval x) (a.eval y) (a.eval z)).run P W=(match r with
  | some (i,_)=>(do
   let key ←Instr.keyThatStays (((arr[i]?).map (·.key)).getD (a.eval y)) (a.eval y)
   setObj b (.map (arr.modify i fun e=>{ e with key,val:=a.eval z }) arr.size):Sem Unit).run P W
  | none=>(setObj b (.map (arr.push { key:=a.eval y,val:=a.eval z,born:=arr.size }) (arr.size+1))).run P W):=by
  unfold Instr.mapUpdate;simp only [Sem.run_bind,bB (aCi hc hk),Result.andThen_ok,e5,MapKept.run_getObj_map e4,zM hT hkey hyr,hr1];cases r with
  | none=>rfl
  | some r=>obtain⟨j,w⟩:=r;simp only [Sem.run_bind]
 rcases hr2 with⟨rfl,rfl⟩ | ⟨j,w,u,rfl,rfl,hwu⟩
 ·simp only at hes hbase;subst hes;refine fin (arr.push { key:=a.eval y,val:=a.eval z,born:=arr.size }) ?_ ?_
  ·rw [Array.toList_push];exact e3.snoc hyr hvr (by simp)
  ·rw [hbase,MapKept.run_setObj_map _ e4];simp
 ·simp only at hes hbase;subst hes;rcases hq with⟨j',w',h1,_,h2⟩ | ⟨_,h2⟩
  ·simp only [bG,eA] at h2;obtain⟨rfl,rfl⟩:=h2;obtain⟨m,hm1,hm2,hm3,hm4⟩:=e3.get h1;have hkey2:m.key=a.eval y:=aNo hT hkey hyr hm2;have hmi:arr[j]? = some m:=by rw [←Array.getElem?_toList];exact hm1
   refine fin (arr.modify j fun e=>{ e with key:=a.eval y,val:=a.eval z }) ?_ ?_
   ·rw [wB hm1];exact e3.put hm1 hyr hvr rfl
   ·rw [hbase];simp only [Sem.run_bind,hmi,Option.map_some,Option.getD_some,hkey2,aFw hT hkey hyr,Result.andThen_ok];rw [MapKept.run_setObj_map _ e4];simp
  ·cases h2
theorem aE5 (hT:nG P T)(hrep:Rep w0 N D ρ s a W) {o:Oper} {t:TypeId} {x y:Operand} (hop:o.op=.mapEntry t x y)(hd:∀d,o.dst=some d->d < N) {k:Nat} (hx:ev s.sl x=.m k) {kv:SV} (hy:ev s.sl y=kv)
 {es es':List (SV×SV)} (hb:s.bk k=.map es) {i ei:TI} (hc:conv P t=some i) {kt et:Nat} (hk:i.kind=.map kt et) (hce:conv P et=some ei) {z:SV} (hz:zH ei=some z) (hkey:rB T kt kv=true) (hke:qF T kt es kv)
 {v:SV} {j:Nat} (hent:bA3 es kv z es' v j) (hpl:Plain (kE es')):Does P w0 N D s a W o { val:=.t [v,.v (.int .i64 j)],ups:=[(k,.map es')] }:=by
 obtain⟨b,n,arr,e1,e2,e3,e4,e5⟩:=aGt hrep hx hb;obtain⟨u,hu1,hu2,hu3⟩:=aI7 hce hz;have hyr:=bW hrep y;rw [hy] at hyr;obtain⟨q,hq,hes⟩:=hent;obtain⟨r,hr1,hr2⟩:=aCh (W:=W) hT hkey hyr e3 hke hq;have fin:∀(arr':Array MapEntry) (w:Value),MEs ρ es' arr'.toList 0->Rel ρ v w->(∀l,¬v.has l)->(Instr.mapEntry t (a.eval x) (a.eval y)).run P W=.ok (.tuple #[w,.int .i64 j]) { W with heap:=W.heap.setIfInBounds b (.map arr' arr'.size) } ->
  Does P w0 N D s a W o { val:=.t [v,.v (.int .i64 j)],ups:=[(k,.map es')] }:=fun arr' w hms hvw hno hrun=>by
  have ht:=aCj hrep hb e1 e2 e4 hms hpl;refine⟨.value _,_,_,ρ,(by simp only [execOp,hop,Sem.run_bind,hrun,Result.andThen_ok];rfl),.inl rfl,?_⟩;rw [fU];refine ht.put o.dst hd ?_ (fun l hl=>?_)
  ·simp only [Rel];exact⟨[w,.int .i64 j],rfl,by simp only [Rels,Rel];exact⟨hvw,trivial,trivial⟩⟩
  ·simp only [SV.has,SV.hasl,or_false] at hl;exact(hno l hl).elim
 have hbase:(Instr.mapEntry t (a.eval x) (a.eval y)).run P W=(match r with
  | some (i,v)=>(do
   let key ←Instr.keyThatStays (((arr[i]?).map (·.key)).getD (a.eval y)) (a.eval y)
   setObj b (.map (arr.modify i fun e=>{ e with key }) arr.size)
   pure (.tuple #[v,goInt (((arr[i]?).map (·.born)).getD 0)]):Sem Value).run P W
  | none=>(do
   let zero ←zeroValue et
   setObj b (.map (arr.push { key:=a.eval y,val:=zero,born:=arr.size }) (arr.size+1))
   pure (.tuple #[zero,goInt arr.size]):Sem Value).run P W):=by
  unfold Instr.mapEntry;simp only [Sem.run_bind,bB (aCi hc hk),Result.andThen_ok,e5,MapKept.run_getObj_map e4,zM hT hkey hyr,hr1];cases r with
  | none=>simp only [Sem.run_bind]
  | some r=>obtain⟨j,w⟩:=r;simp only [Sem.run_bind]
 rcases hr2 with⟨rfl,rfl⟩ | ⟨j',w,u',rfl,rfl,hwu⟩
 ·simp only at hes hbase;obtain⟨rfl,rfl,rfl⟩:=hes;refine fin (arr.push { key:=a.eval y,val:=u,born:=arr.size }) u ?_ (hu2 ρ) hu3 ?_
  ·rw [Array.toList_push];exact e3.snoc hyr (hu2 ρ) (by simp)
  ·rw [hbase];simp only [Sem.run_bind,hu1,Result.andThen_ok,MapKept.run_setObj_map _ e4,Sem.run_pure];rw [e3.length];simp [goInt]
 ·simp only at hes hbase;obtain⟨rfl,rfl,rfl⟩:=hes;rcases hq with⟨j',w',h1,_,h2⟩ | ⟨_,h2⟩
  ·simp only [bG,eA] at h2;obtain⟨rfl,rfl⟩:=h2;obtain⟨m,hm1,hm2,hm3,hm4⟩:=e3.get h1;have hkey2:m.key=a.eval y:=aNo hT hkey hyr hm2;have hmi:arr[j]? = some m:=by rw [←Array.getElem?_toList];exact hm1
   have hno:∀l,¬v.has l:=fun l hl=>aW2 hrep hb (eP.2 ⟨v,aFx (List.mem_of_getElem? h1) (.inr rfl),hl⟩)
   refine fin (arr.modify j fun e=>{ e with key:=a.eval y }) u' ?_ hwu hno ?_
   ·rw [wB hm1];have:=e3.put (e:=(kv,v)) (m':={ m with key:=a.eval y }) hm1 hyr hm3 rfl;rw [show es'.set j (kv,v)=es' from by
     obtain⟨hl,he⟩:=List.getElem?_eq_some_iff.1 h1;rw [←he,List.set_getElem_self]] at this
    exact this
   ·rw [hbase];simp only [Sem.run_bind,hmi,Option.map_some,Option.getD_some,hkey2,aFw hT hkey hyr,Result.andThen_ok,MapKept.run_setObj_map _ e4,Sem.run_pure,hm4];simp [goInt]
  ·cases h2
theorem aPl {es:List (SV×SV)} {arr:Array MapEntry} (h:MEs ρ es arr.toList 0) {j:Nat} (hj:j < es.length):arr.findIdx? (fun e=>(e.born:Int) == (j:Int))=some j:=by
 have hlen:=h.length;have hja:j < arr.size:=by simpa using (by omega:j < arr.toList.length)
 rw [Array.findIdx?_eq_some_iff_getElem];refine⟨hja,?_,fun i hi=>?_⟩
 ·obtain⟨m,h1,_,_,h4⟩:=h.get (List.getElem?_eq_getElem hj);have:arr[j]=m:=by
   rw [Array.getElem?_toList] at h1;rw [Array.getElem?_eq_getElem hja] at h1;simpa using h1
  rw [this,h4];simp
 ·have hie:i < es.length:=by omega
  have hia:i < arr.size:=by omega
  obtain⟨m,h1,_,_,h4⟩:=h.get (List.getElem?_eq_getElem hie);have:arr[i]=m:=by
   rw [Array.getElem?_toList] at h1;rw [Array.getElem?_eq_getElem hia] at h1;simpa using h1
  rw [this,h4];simp;omega
theorem aBc (hrep:Rep w0 N D ρ s a W) {o:Oper} {t:TypeId} {x y z:Operand} (hop:o.op=.entryStore t x y z)(hd:∀d,o.dst=some d->d < N) {k:Nat} (hx:ev s.sl x=.m k) {kk:IntKind} {j:Nat} {v0 v:SV} (hy:ev s.sl y=.v (.int kk j))(hv0:ev s.sl z=v0)(hnb:v0.nb=v)
 {es:List (SV×SV)} (hb:s.bk k=.map es) (hkn:v.known=true) {e:SV×SV} (he:es[j]? = some e) (hpl:Plain (kE (es.set j (e.1,v)))):Does P w0 N D s a W o { val:=.v undef,ups:=[(k,.map (es.set j (e.1,v)))] }:=by
 obtain⟨b,n,arr,e1,e2,e3,e4,e5⟩:=aGt hrep hx hb;have hyr:=bW hrep y;rw [hy] at hyr;simp only [Rel] at hyr;have hvr:=aLg (bW hrep z);rw [hv0,hnb] at hvr;obtain⟨m,hm1,hm2,hm3,hm4⟩:=e3.get he;have hmi:arr[j]? = some m:=by rw [←Array.getElem?_toList];exact hm1
 have ht:=aCj hrep hb e1 e2 e4 (es':=es.set j (e.1,v)) (arr':=arr.modify j fun e=>{ e with val:=a.eval z }) (by
  rw [wB hm1];exact e3.put hm1 hm2 hvr rfl) hpl
 have hrun:(Instr.entryStore t (a.eval x) (a.eval y) (a.eval z)).run P W=.ok () { W with heap:=W.heap.setIfInBounds b (.map (arr.modify j fun e=>{ e with val:=a.eval z }) (arr.modify j fun e=>{ e with val:=a.eval z }).size) }:=by
  unfold Instr.entryStore;simp only [e5,hyr,Sem.run_bind,MapKept.run_getObj_map e4,Result.andThen_ok,asInt,asIntOf,Sem.run_pure,aPl e3 (List.getElem?_eq_some_iff.1 he).1];rw [MapKept.run_setObj_map _ e4];simp
 refine⟨.skip,undef,_,ρ,(by simp only [execOp,hop,Sem.run_bind,hrun,Result.andThen_ok];rfl),.inr ⟨rfl,rfl⟩,?_⟩;rw [fU];exact ht.put o.dst hd (by simp [Rel]) (fun l hl=>(eO hl).elim)
end
end Go.Aw
namespace Go.Aw
open Go.RowKit
theorem sH {α:Type} (l:List α):∀(n i:Nat),i < n*l.length->((List.replicate n l).flatten)[i]? = l[i % l.length]?
 | 0,i,h=>by omega
 | n+1,i,h=>by
  rw [List.replicate_succ,List.flatten_cons];by_cases hi:i < l.length
  ·rw [List.getElem?_append_left hi,Nat.mod_eq_of_lt hi]
  ·rw [List.getElem?_append_right oM,sH l n (i - l.length) (by rw [Nat.add_mul] at h;omega)];congr 1
   conv=>rhs;rw [show i=(i - l.length)+l.length by omega,Nat.add_mod_right]
theorem aCk (z:Array Value)(k:Nat):(madeCells z (k*z.size)).toList=(List.replicate k z.toList).flatten:=by
 apply List.ext_getElem?;intro i;by_cases h:i < k*z.size
 ·have hz:0 < z.size:=by
   rcases Nat.eq_zero_or_pos z.size with h0 | h0
   ·rw [h0] at h;omega
   ·exact h0
  rw [sH _ _ _ (by simpa using h)];have hm:i % z.size < z.size:=Nat.mod_lt _ hz;simp [madeCells,h,hm,getElem!_pos]
 ·rw [List.getElem?_eq_none (by simp [size_madeCells];omega),List.getElem?_eq_none];simp;omega
section
variable {P : Program} {T : Nat → Option TI} {w0 : Cx} {N : Nat} {D : List Deferred} {ρ : Env} {s : FS} {a : Act} {W : World}
theorem aCl (hrep:Rep w0 N D ρ s a W) {o:Oper} {t:TypeId} {x y:Operand} (hop:o.op=.makeSlice t x y)(hd:∀d,o.dst=some d->d < N) {k1 k2:IntKind} {n:Int} (hx:ev s.sl x=.v (.int k1 n))(hy:ev s.sl y=.v (.int k2 n))
 {i ei:TI} (hc:conv P t=some i) {e es bytes:Nat} (hk:i.kind=.slice e es bytes) (hce:conv P e=some ei) (hes:es≠0) (hsz:ei.size=es) (hzl:ei.zero.length=es) (hn:0<=n/\n.toNat*ei.bytes<=2 ^ 47/\n<=2 ^ 47) {fr:Nat} (hfr:s.bk fr=.un) :
 Does P w0 N D s a W o { val:=.s fr 0 n.toNat es,ups:=[(fr,.live true true ((List.replicate n.toNat (ei.zero.map SV.v)).flatten))] }:=by
 obtain⟨m,de,z,h1,h2,h3,rfl⟩:=bF hc;obtain⟨m2,de2,z2,g1,g2,g3,rfl⟩:=bF hce;simp only at hk hsz hzl hn ⊢;cases de<;>simp [cH] at hk;rename_i e';obtain⟨rfl,hes',_⟩:=hk;have hxr:=bW hrep x;have hyr:=bW hrep y;rw [hx] at hxr;rw [hy] at hyr;simp only [Rel] at hxr hyr;have hsize:z2.cells.size=m2.size:=by rw [hsz,←hzl];simp
 have hb1:(m2.bytes:Int)*n<=281474976710656:=by
  have e1:(m2.bytes:Int)*n=((n.toNat*m2.bytes:Nat):Int):=by
   rw [Int.natCast_mul,Int.toNat_of_nonneg hn.1,Int.mul_comm]
  rw [e1];have:n.toNat*m2.bytes<=140737488355328:=hn.2.1;omega
 have hr:=run_make (P:=P) W t e' m2 z2 h2 g1 g3 k1 k2 n n hn.1 (Int.le_refl _) hb1 (by have:=hn.2.2;omega);have hcells:madeCells z2.cells (n.toNat*m2.size)=((List.replicate n.toNat z2.cells.toList).flatten++[]).toArray:=by
  apply Array.ext';rw [←hsize,aCk];simp
 rw [hcells] at hr;have hflat:(List.replicate n.toNat (z2.cells.toList.map SV.v)).flatten=((List.replicate n.toNat z2.cells.toList).flatten).map SV.v:=by
  rw [List.map_flatten,List.map_replicate]
 have hlen:((List.replicate n.toNat z2.cells.toList).flatten).length=n.toNat*es:=by
  rw [List.length_flatten,List.map_replicate,List.sum_replicate_nat,hzl]
 have hpl:Plain ((List.replicate n.toNat (z2.cells.toList.map SV.v)).flatten):=by
  rw [hflat];intro k hk;exact nR hk
 have hnew:=hrep.new hfr (cells:=(List.replicate n.toNat (z2.cells.toList.map SV.v)).flatten) (vs:=(List.replicate n.toNat z2.cells.toList).flatten) (rest:=[]) true e' (by rw [hflat];exact Rels.vals _) (fun j hj=>(hpl j hj).elim) hpl;refine⟨_,_,_,ρ.set fr (some (W.heap.size,0,((List.replicate n.toNat z2.cells.toList).flatten++[]).length)),by simp only [execOp,hop,hxr,hyr,Sem.run_bind,hr,Result.andThen_ok];rfl,.inl rfl,?_⟩;rw [fU];refine hnew.put o.dst hd ?_ (fun j hj=>?_)
 ·simp only [Rel];exact .inr ⟨W.heap.size,0,_,n.toNat,0,none,if_pos rfl,rfl,Nat.le_refl _,by rw [List.append_nil,hlen];omega,fun _=>⟨rfl,rfl⟩⟩
 ·simp only [SV.has] at hj;subst hj;simp [FS.app,cN]
theorem Rep.ro (h:Rep w0 N D ρ s a W) {k:Nat} (hk:s.bk k≠.un) {cells:List SV} (hy:BRep ρ w0.mine W k (.live false true cells))(hpl:Plain cells) :
 Rep w0 N D ρ (s.app none { val:=.u,ups:=[(k,.live false true cells)] }) a W:=by
 have fix:∀i,((s.app none { val:=.u,ups:=[(k,.live false true cells)] }).bk i).own->i≠k/\(s.bk i).own:=fun i hi=>by
  simp only [FS.app,cN] at hi;by_cases hik:i=k
  ·rw [if_pos hik] at hi;exact hi.elim
  ·rw [if_neg hik] at hi;exact⟨hik,hi⟩
 refine { defs:=h.defs,size:=h.size,sl:=h.sl,bk:=fun j=>?_,apart:=fun i j b n1 b' n' hij hi hj e1 e2=>h.apart i j b n1 b' n' hij (fix i hi).2 (fix j hj).2 e1 e2,wf1:=fun t j hj=>?_,wf2:=fun i j hj=>?_,kept:=h.kept,pl:=fun j=>(by simp only [FS.app,cN];split;exact hpl;exact h.pl j),old:=fun i hi=>⟨(h.old i hi).1,?_⟩,fzn:=fun b o ho=>⟨(h.fzn b o ho).1,fun i n hi e1=>(h.fzn b o ho).2.1 i n (fix i hi).2 e1,(h.fzn b o ho).2.2⟩,fzo:=h.fzo }
 ·simp only [FS.app,cN];by_cases hj:j=k
  ·subst hj;rw [if_pos rfl];exact hy
  ·rw [if_neg hj];exact h.bk j
 ·simp only [FS.app,cN];by_cases hjk:j=k
  ·rw [if_pos hjk];simp
  ·rw [if_neg hjk];exact h.wf1 t j hj
 ·simp only [FS.app,cN] at hj ⊢;have hj':s.bk j≠.un:=by
   by_cases hik:i=k
   ·rw [if_pos hik] at hj;exact(hpl j hj).elim
   ·rw [if_neg hik] at hj;exact h.wf2 i j hj
  by_cases hjk:j=k
  ·rw [if_pos hjk];simp
  ·rw [if_neg hjk];exact hj'
 ·simp only [FS.app,cN];by_cases hik:i=k
  ·rw [if_pos hik];simp
  ·rw [if_neg hik];exact(h.old i hi).2
theorem Rep.freezeL (h:Rep w0 N D ρ s a W) {k:Nat} {sym:Bool} {cells:List SV} (hb:s.bk k=.live true sym cells)(hpl:Plain cells) :
 ∃ρ',ρ'.loc=ρ.loc/\Rep w0 N D ρ' (s.app none { val:=.u,ups:=[(k,.live false true cells)] }) a W:=by
 have hbk:=h.bk k;rw [hb] at hbk;rcases hbk with⟨e1,rfl⟩ | ⟨b,vs,rest,ty,e1,hm,hr,hh⟩
 ·exact⟨ρ,rfl,h.ro (by rw [hb];simp) (.inl ⟨e1,rfl⟩) hpl⟩
 ·have hf:=h.frzB (k:=k) (b:=b) (n:=(vs++rest).length) (o:=((vs++rest).toArray,ty,(0,0))) (by rw [hb];trivial) e1 hm hh;have h2:=hf.ro (k:=k) (cells:=cells) (by simp [FS.app,cN]) (.inr ⟨b,0,(vs++rest).length,vs,e1,⟨by simp,fun _ _=>⟨_,if_pos rfl⟩⟩,Plain.congr (ρ:=ρ) (fun c o hc=>by
   show(if c=b then _ else ρ.fz c)=some o;by_cases hcb:c=b
   ·subst hcb;exact((h.fzn _ _ hc).2.1 k _ (by rw [hb];trivial) e1).elim
   ·rw [if_neg hcb];exact hc) hpl hr,fun i x hi=>by
    have hlt:i < vs.length:=(List.getElem?_eq_some_iff.1 hi).1;simp [World.cell?,hh,List.getElem?_append_left hlt,hi]⟩) hpl
  refine⟨⟨ρ.loc,fun c=>if c=b then some ((vs++rest).toArray,ty,(0,0)) else ρ.fz c⟩,rfl,?_⟩;have e:((s.app none { val:=.u,ups:=[(k,.dead)] }).app none { val:=.u,ups:=[(k,.live false true cells)] })=s.app none { val:=.u,ups:=[(k,.live false true cells)] }:=by
   simp only [FS.app,FS.mk.injEq];refine⟨trivial,?_⟩
   funext j
   simp only [cN];by_cases hj:j=k<;>simp [hj]
  rw [e] at h2;exact h2
theorem xJ {o:Oper} {t:TypeId} {x:Operand} {lo hi:Option Operand} (hop:o.op=.slice t x lo hi none) {A:Option Addr} {len cap es e:Nat} {l h:Int} (ha:a.eval x=.slice A len cap)(hu:P.underlying t=some (.slice e))(hso:∀W,(sizeOf e).run P W=.ok es W)
 (hlo:(lo=none/\l=0)\/∃y kk,lo=some y/\a.eval y=.int kk l) (hhi:(hi=none/\h=len)\/∃y kk,hi=some y/\a.eval y=.int kk h) (hn:0<=l/\l<=h/\h<=len) (hcap:len<=cap) :
 (execOp a.eval o).run P W=.ok (.value (.slice (if cap=l.toNat then A else A.map (·.add (l.toNat*es))) (h.toNat - l.toNat) (cap - l.toNat))) W:=by
 obtain⟨h1,h2,h3⟩:=hn;have c1:(0<=h/\h<=(cap:Int)):=⟨by omega,by omega⟩;have c2:(0<=l/\l<=((h.toNat:Nat):Int)):=⟨by omega,by omega⟩;have c3:(0<=l/\l<=(len:Int)):=⟨by omega,by omega⟩;rcases hlo with⟨rfl,rfl⟩ | ⟨y,kk,rfl,hy⟩<;>rcases hhi with⟨rfl,rfl⟩ | ⟨y2,kk2,rfl,hy2⟩
 ·simp only [execOp,hop,ha,Instr.sliceAt,Option.map_none,Option.map_some,Sem.run_bind,bB hu,Result.andThen_ok,Instr.slice,Sem.run_pure,Instr.sliceBounds,Instr.sliceBound,asIntOf,hso];simp
 ·simp only [execOp,hop,ha,hy2,Instr.sliceAt,Option.map_none,Option.map_some,Sem.run_bind,bB hu,Result.andThen_ok,Instr.slice,Sem.run_pure,Instr.sliceBounds,Instr.sliceBound,asIntOf,hso];simp [c1,hso]
 ·simp only [execOp,hop,ha,hy,Instr.sliceAt,Option.map_none,Option.map_some,Sem.run_bind,bB hu,Result.andThen_ok,Instr.slice,Sem.run_pure,Instr.sliceBounds,Instr.sliceBound,asIntOf,hso];simp [c3,hso]
 ·simp only [execOp,hop,ha,hy,hy2,Instr.sliceAt,Option.map_none,Option.map_some,Sem.run_bind,bB hu,Result.andThen_ok,Instr.slice,Sem.run_pure,Instr.sliceBounds,Instr.sliceBound,asIntOf,hso];simp only [c1,and_self,if_true,Sem.run_pure,Result.andThen_ok,Sem.run_bind];simp [c2,hso];intro hcon;exfalso;omega
theorem aQw (hrep:Rep w0 N D ρ s a W) {o:Oper} {t:TypeId} {x:Operand} {lo hi:Option Operand} (hop:o.op=.slice t x lo hi none)(hd:∀d,o.dst=some d->d < N) {k off len es:Nat} (hx:ev s.sl x=.s k off len es) {l h:Int}
 (hlo:(lo=none/\l=0)\/∃y kk,lo=some y/\ev s.sl y=.v (.int kk l)) (hhi:(hi=none/\h=len)\/∃y kk,hi=some y/\ev s.sl y=.v (.int kk h)) {i:TI} (hc:conv P t=some i) {e bytes:Nat} (hk:i.kind=.slice e es bytes) (hes:es≠0)
 (hn:0<=l/\l<=h/\h<=len):Does P w0 N D s a W o { val:=.s k (off+l.toNat*es) (h.toNat - l.toNat) es }:=by
 obtain⟨m,de,z,h1,h2,h3,rfl⟩:=bF hc;simp only at hk;cases de<;>simp [cH] at hk;obtain⟨rfl,hes',_⟩:=hk;have hso:∀W,(sizeOf _).run P W=.ok es W:=fun W=>by rw [←hes'];exact fE (by rw [hes'];exact hes) W
 have hxr:=bW hrep x;have hxw:=qE hrep x;have hlo':(lo=none/\l=0)\/∃y kk,lo=some y/\a.eval y=.int kk l:=by
  rcases hlo with h | ⟨y,kk,e1,e2⟩
  ·exact .inl h
  ·have hyr:=bW hrep y;rw [e2] at hyr;simp only [Rel] at hyr;exact .inr ⟨y,kk,e1,hyr⟩
 have hhi':(hi=none/\h=len)\/∃y kk,hi=some y/\a.eval y=.int kk h:=by
  rcases hhi with h | ⟨y,kk,e1,e2⟩
  ·exact .inl h
  ·have hyr:=bW hrep y;rw [e2] at hyr;simp only [Rel] at hyr;exact .inr ⟨y,kk,e1,hyr⟩
 rw [hx] at hxr hxw;simp only [Rel] at hxr;rcases hxr with⟨e1,rfl,hx'⟩ | ⟨b,o',m',cap,off',sp,hρ,hx',hle,hcap,hoff⟩
 ·have hl0:l=0:=by omega
  have hh0:h=0:=by omega
  subst hl0 hh0;have hrun:=xJ (P:=P) (W:=W) hop hx' h2 hso hlo' hhi' hn (Nat.le_refl _);refine Does.value hrep hd hrun ?_ (fun j hj=>hxw j (by simpa [SV.has] using hj));simp only [Rel];exact .inl ⟨e1,by simp,by simp⟩
 ·have hrun:=xJ (P:=P) (W:=W) hop hx' h2 hso hlo' hhi' hn hle;refine Does.value hrep hd hrun ?_ (fun j hj=>hxw j (by simpa [SV.has] using hj));have hnc:l.toNat<=cap:=by omega
  have hmul:l.toNat*es+(cap - l.toNat)*es=cap*es:=by
   rw [←Nat.add_mul,Nat.add_sub_cancel' hnc]
  simp only [Rel];by_cases hcn:cap=l.toNat
  ·rw [if_pos hcn];exact .inr ⟨b,o',m',cap - l.toNat,off',sp,hρ,rfl,by omega,by rw [hcn];simp;omega,fun h=>by omega⟩
  ·rw [if_neg hcn];obtain⟨ho1,rfl⟩:=hoff oM;refine .inr ⟨b,o',m',cap - l.toNat,off'+l.toNat*es,none,hρ,by simp [Nat.add_assoc,Addr.add],by omega,by omega,fun h=>⟨?_,rfl⟩⟩;rw [ho1]
theorem aPm (hrep:Rep w0 N D ρ s a W) {o:Oper} {t:TypeId} {x:Operand} {lo hi:Option Operand} (hop:o.op=.slice t x lo hi none)(hd:∀d,o.dst=some d->d < N) {k off len es:Nat} (hx:ev s.sl x=.s k off len es) {l h:Int}
 (hlo:(lo=none/\l=0)\/∃y kk,lo=some y/\ev s.sl y=.v (.int kk l)) (hhi:(hi=none/\h=len)\/∃y kk,hi=some y/\ev s.sl y=.v (.int kk h)) {i:TI} (hc:conv P t=some i) {e bytes:Nat} (hk:i.kind=.slice e es bytes) (hes:es≠0)
 (hn:0<=l/\l<=h/\h<=len) {own sym:Bool} {cells:List SV} (hb:s.bk k=.live own sym cells) (hpl:Plain cells) {fr:Nat} (hfr:s.bk fr=.un) {r:List SV} (hr:r=(cells.drop (off+l.toNat*es)).take ((h.toNat - l.toNat)*es)) :
 Does P w0 N D s a W o { val:=.s fr 0 (h.toNat - l.toNat) es,ups:=[(k,.live false true cells),(fr,.live false true r)] }:=by
 obtain⟨m,de,z,h1,h2,h3,rfl⟩:=bF hc;simp only at hk;cases de<;>simp [cH] at hk;obtain⟨rfl,hes',_⟩:=hk;have hso:∀W,(sizeOf _).run P W=.ok es W:=fun W=>by rw [←hes'];exact fE (by rw [hes'];exact hes) W
 have hkf:k≠fr:=fun e=>by rw [e,hfr] at hb;cases hb
 have hne:s.bk k≠.un:=by rw [hb];simp
 -- read alone
 obtain⟨ρ1,hl1,hrep1⟩:∃ρ',ρ'.loc=ρ.loc/\Rep w0 N D ρ' (s.app none { val:=.u,ups:=[(k,.live false true cells)] }) a W:=by
  cases own
  case true=>exact hrep.freezeL hb hpl
  refine⟨ρ,rfl,hrep.ro hne ?_ hpl⟩;have:=hrep.bk k;rw [hb] at this;exact this
 have hfr1:(s.app none { val:=.u,ups:=[(k,.live false true cells)] }).bk fr=.un:=by
  simp only [FS.app,cN];rw [if_neg (fun e=>hkf e.symm)];exact hfr
 have hxr:=bW hrep1 x;have hlo':(lo=none/\l=0)\/∃y kk,lo=some y/\a.eval y=.int kk l:=by
  rcases hlo with h | ⟨y,kk,e1,e2⟩
  ·exact .inl h
  ·have hyr:=bW hrep y;rw [e2] at hyr;simp only [Rel] at hyr;exact .inr ⟨y,kk,e1,hyr⟩
 have hhi':(hi=none/\h=len)\/∃y kk,hi=some y/\a.eval y=.int kk h:=by
  rcases hhi with h | ⟨y,kk,e1,e2⟩
  ·exact .inl h
  ·have hyr:=bW hrep y;rw [e2] at hyr;simp only [Rel] at hyr;exact .inr ⟨y,kk,e1,hyr⟩
 have hplr:Plain r:=fun j hj=>hpl j (by rw [hr] at hj;exact kG (kF hj))
 have hstate:((s.app none { val:=.u,ups:=[(k,.live false true cells)] }).app none { val:=.u,ups:=[(fr,.live false true r)] })=s.app none { val:=.u,ups:=[(k,.live false true cells),(fr,.live false true r)] }:=by
  simp only [FS.app,cN]
 have hxr0:Rel ρ1 (.s k off len es) (a.eval x):=by rw [←hx];exact hxr
 simp only [Rel] at hxr0;rcases hxr0 with⟨e1,rfl,hx'⟩ | ⟨b,o',m',cap,off',sp,hρ,hx',hle,hcap,hoff⟩
 ·have hl0:l=0:=by omega
  have hh0:h=0:=by omega
  subst hl0 hh0;have hr0:r=[]:=by rw [hr];simp
  have hrun:=xJ (P:=P) (W:=W) hop hx' h2 hso hlo' hhi' hn (Nat.le_refl _);have hn2:=hrep1.named hfr1 none (cells:=r) (.inl ⟨by simp,hr0⟩) hplr;rw [hstate] at hn2;refine⟨_,_,W,ρ1.set fr none,hrun,.inl rfl,?_⟩;rw [fU];refine hn2.put o.dst hd (by simp [Rel]) (fun j hj=>?_);simp only [SV.has] at hj;subst hj;simp [FS.app,cN]
 ·have hrun:=xJ (P:=P) (W:=W) hop hx' h2 hso hlo' hhi' hn hle;have hbk:=hrep1.bk k;have hk1:(s.app none { val:=.u,ups:=[(k,.live false true cells)] }).bk k=.live false true cells:=by simp [FS.app,cN]
  rw [hk1] at hbk;rcases hbk with⟨e1,_⟩ | ⟨b2,o2,n2,vs,e1,hfz,hrel,hcell⟩
  ·rw [hρ] at e1;cases e1
  rw [hρ] at e1;cases e1;have hmul:l.toNat*es+(cap - l.toNat)*es=cap*es:=by rw [←Nat.add_mul,Nat.add_sub_cancel' oM]
  have hr2:Rels ρ1 r ((vs.drop (off+l.toNat*es)).take ((h.toNat - l.toNat)*es)):=by rw [hr];exact Rels.take _ (Rels.drop _ hrel)
  have hne2:((vs.drop (off+l.toNat*es)).take ((h.toNat - l.toNat)*es))≠[]->vs≠[]:=fun h e=>h (by rw [e];simp)
  have hle2:((vs.drop (off+l.toNat*es)).take ((h.toNat - l.toNat)*es)).length<=(cap - l.toNat)*es:=by
   rw [List.length_take];exact Nat.le_trans (Nat.min_le_left _ _) (Nat.mul_le_mul_right _ oM)
  have hmem:∀(i:Nat) (y:Value),((vs.drop (off+l.toNat*es)).take ((h.toNat - l.toNat)*es))[i]? = some y->vs[off+l.toNat*es+i]? = some y/\i < (h.toNat - l.toNat)*es:=fun i y hi=>by
   rw [List.getElem?_take] at hi;split at hi
   ·rw [List.getElem?_drop] at hi;exact⟨hi,by assumption⟩
   ·cases hi
  by_cases hcl:cap=l.toNat
  ·rw [if_pos hcl] at hrun;have hz:(h.toNat - l.toNat)*es=0:=by rw [show h.toNat - l.toNat=0 by omega,Nat.zero_mul]
   have hn3:=hrep1.named hfr1 (some (b,o'+off',(cap - l.toNat)*es)) (cells:=r) (.inr ⟨b,o'+off',_,_,by simp,⟨hle2,fun hne hM=>hfz.2 (hne2 hne) hM⟩,Plain.congr (ρ:=ρ1) (fun _ _ h=>h) hplr hr2,fun i y hi=>by have:=(hmem i y hi).2;omega⟩) hplr;rw [hstate] at hn3;refine⟨_,_,W,ρ1.set fr (some (b,o'+off',(cap - l.toNat)*es)),hrun,.inl rfl,?_⟩;rw [fU];refine hn3.put o.dst hd (by simp only [Rel];exact .inr ⟨b,o'+off',(cap - l.toNat)*es,cap - l.toNat,0,sp,by simp,rfl,by omega,by omega,fun h=>by omega⟩) (fun j hj=>?_);simp only [SV.has] at hj;subst hj;simp [FS.app,cN]
  ·rw [if_neg hcl] at hrun;obtain⟨ho,rfl⟩:=hoff oM;subst ho;simp only [Option.map_some,add_eq] at hrun;have hn3:=hrep1.named hfr1 (some (b,o'+off'+l.toNat*es,(cap - l.toNat)*es)) (cells:=r) (.inr ⟨b,o'+off'+l.toNat*es,_,_,by simp,⟨hle2,fun hne hM=>hfz.2 (hne2 hne) hM⟩,Plain.congr (ρ:=ρ1) (fun _ _ h=>h) hplr hr2,fun i y hi=>by
    have:=hcell _ _ (hmem i y hi).1;rw [show o'+off'+l.toNat*es+i=o'+(off'+l.toNat*es+i) by omega];exact this⟩) hplr
   rw [hstate] at hn3;refine⟨_,_,W,ρ1.set fr (some (b,o'+off'+l.toNat*es,(cap - l.toNat)*es)),hrun,.inl rfl,?_⟩;rw [fU];refine hn3.put o.dst hd (by simp only [Rel];exact .inr ⟨b,o'+off'+l.toNat*es,(cap - l.toNat)*es,cap - l.toNat,0,none,by simp,rfl,by omega,by omega,fun _=>⟨rfl,rfl⟩⟩) (fun j hj=>?_);simp only [SV.has] at hj;subst hj;simp [FS.app,cN]
end
end Go.Aw
namespace Go.Aw
open Go.RowKit
section
variable {P : Program} {T : Nat → Option TI} {w0 : Cx} {N : Nat} {D : List Deferred} {ρ : Env} {s : FS} {a : Act} {W : World}
theorem uF (hrep:Rep w0 N D ρ s a W) {o:Oper} {x:Operand} (hd:∀d,o.dst=some d->d < N)(hr:(execOp a.eval o).run P W=.ok (.value (a.eval x)) W):Does P w0 N D s a W o { val:=ev s.sl x } :=
 Does.value hrep hd hr (bW hrep x) (qE hrep x)
theorem aE6 {ts:List TypeId} {xs:List SV} {bs:List BK} {fr:Nat} {e:Eff} {obs:List Ob} (h:qG T ts xs bs fr=some (e,obs)):∃u∈e.ups,u.1=fr:=by
 unfold qG at h
 repeat' split at h
 all_goals first | (cases h;done) | (simp only [bG,eA] at h;obtain⟨rfl,_⟩:=h;simp)
theorem aCm {ts:List TypeId} {xs:List SV} {bs:List BK} {fr:Nat} {e:Eff} {obs:List Ob} (h:nW T ts xs bs fr=some (e,obs)):∃u∈e.ups,u.1=fr:=by
 unfold nW at h
 repeat' split at h
 all_goals first | (cases h;done) | (simp only [bG,eA] at h;obtain⟨rfl,_⟩:=h;simp)
theorem aCn {t:TypeId} {x:Operand} {lo hi mx:Option Operand} {xs:List SV} {orc orc':List Or} {v:Vw} {r:List SV} (hxs:xs=(Op.slice t x lo hi mx).operands.toList.map (ev s.sl))(h:aNe lo hi mx xs orc=some (v,r,orc')) :
 mx=none/\ev s.sl x=.s v.k v.off v.len v.es/\((lo=none/\v.l=0)\/∃y kk,lo=some y/\ev s.sl y=.v (.int kk v.l))/\((hi=none/\v.h=v.len)\/∃y kk,hi=some y/\ev s.sl y=.v (.int kk v.h)):=by
 unfold aNe at h;split at h
 ·split at h
  ·simp only [Op.operands,Option.toArray_none,Option.toArray_some,Array.append_empty,List.map_cons,List.map_nil,List.cons.injEq,and_true] at hxs;simp only [bG,eA] at h;obtain⟨rfl,_,_⟩:=h;exact⟨rfl,hxs.symm,.inl ⟨rfl,rfl⟩,.inl ⟨rfl,rfl⟩⟩
  ·simp only [Op.operands,Option.toArray_none,Option.toArray_some,Array.append_empty,Array.toList_append,List.cons_append,List.nil_append,List.map_cons,List.map_nil,List.cons.injEq,and_true] at hxs;simp only [bG,eA] at h;obtain⟨rfl,_,_⟩:=h;exact⟨rfl,hxs.1.symm,.inr ⟨_,_,rfl,hxs.2.symm⟩,.inl ⟨rfl,rfl⟩⟩
  ·simp only [Op.operands,Option.toArray_none,Option.toArray_some,Array.append_empty,Array.toList_append,List.cons_append,List.nil_append,List.map_cons,List.map_nil,List.cons.injEq,and_true] at hxs;simp only [bG,eA] at h;obtain⟨rfl,_,_⟩:=h;exact⟨rfl,hxs.1.symm,.inl ⟨rfl,rfl⟩,.inr ⟨_,_,rfl,hxs.2.symm⟩⟩
  ·simp only [Op.operands,Option.toArray_none,Option.toArray_some,Array.append_empty,Array.toList_append,List.cons_append,List.nil_append,List.map_cons,List.map_nil,List.cons.injEq,and_true] at hxs;simp only [bG,eA] at h;obtain⟨rfl,_,_⟩:=h;exact⟨rfl,hxs.1.symm,.inr ⟨_,_,rfl,hxs.2.1.symm⟩,.inr ⟨_,_,rfl,hxs.2.2.symm⟩⟩
  ·cases h
 ·cases h
theorem aPn {t:TypeId} {x:Operand} {lo hi mx:Option Operand} {xs:List SV} {orc orc':List Or} {v:Vw} (hxs:xs=(Op.slice t x lo hi mx).operands.toList.map (ev s.sl))(h:aYc lo hi mx xs orc=some (v,orc')) :
 mx=none/\ev s.sl x=.s v.k v.off v.len v.es/\((lo=none/\v.l=0)\/∃y kk,lo=some y/\ev s.sl y=.v (.int kk v.l))/\((hi=none/\v.h=v.len)\/∃y kk,hi=some y/\ev s.sl y=.v (.int kk v.h)):=by
 unfold aYc at h;split at h
 ·split at h
  ·rename_i hv;simp only [bG,eA] at h;obtain⟨rfl,rfl⟩:=h;exact aCn (t:=t) (x:=x) hxs hv
  ·cases h
 ·cases h
set_option maxHeartbeats 1000000 in
theorem aQx (hT:nG P T) {o:Oper} {xs:List SV} {bs:List BK} {fr:Nat} {orc orc':List Or} {e:Eff} {obs:List Ob} (h:aNf T o.op xs bs fr orc=some (e,obs,orc'))(hob:Obs P obs)
 (hrep:Rep w0 N D ρ s a W) (hxs:xs=o.op.operands.toList.map (ev s.sl)) (hbs:bs=(jS o.op xs).map s.bk) (hfr:∀u∈e.ups,u.1=fr->s.bk fr=.un) (hd:∀d,o.dst=some d->d < N) :
 Does P w0 N D s a W o e:=by
 obtain⟨dst,op,type,pos,after,guard⟩:=o;simp only at h hxs hbs hd;cases op<;>simp only [aNf] at h<;>simp only [Op.operands] at hxs<;>try (cases h;done)
 case move x =>
  simp only [List.map_cons,List.map_nil] at hxs;subst hxs;simp only [bG,eA] at h;obtain⟨rfl,_,_⟩:=h;exact uF hrep hd (by simp [execOp])
 case assign x =>
  simp only [List.map_cons,List.map_nil] at hxs;subst hxs;simp only [bG,eA] at h;obtain⟨rfl,_,_⟩:=h;exact uF hrep hd (by simp [execOp])
 case pick c x y =>
  simp only [List.map_cons,List.map_nil] at hxs;subst hxs;split at h
  ·rename_i d x' y' heq;simp only [List.cons.injEq,and_true] at heq;obtain⟨hc,rfl,rfl⟩:=heq;simp only [bG,eA] at h;obtain⟨rfl,_,_⟩:=h;have hcr:=bW hrep c;rw [hc] at hcr;simp only [Rel] at hcr;cases d
   case true=>exact uF hrep hd (by simp [execOp,hcr,asBool])
   exact uF hrep hd (by simp [execOp,hcr,asBool])
  ·cases h
 case alloc t =>
  split at h
  ·rename_i i hi;simp only [bG,eA] at h;obtain⟨rfl,_,_⟩:=h;exact aLj hrep rfl hd (hT t i hi) (hfr _ List.mem_cons_self rfl)
  ·cases h
 case box t x =>
  simp only [List.map_cons,List.map_nil] at hxs;subst hxs;simp only at h;split at h
  ·rename_i hk;simp only [bG,eA] at h;obtain⟨rfl,_,_⟩:=h;exact aQr hrep rfl hd rfl hk (hfr _ List.mem_cons_self rfl)
  ·cases h
 case makeInterface t x =>
  simp only [List.map_cons,List.map_nil] at hxs;subst hxs;split at h
  ·rename_i x' i heq hi;simp only [List.cons.injEq,and_true] at heq;subst heq;split at h
   ·rename_i fs v hk hv;simp only [bG,eA] at h;obtain⟨rfl,_,_⟩:=h;exact aLk hrep rfl hd (hT t i hi) hk hv
   ·cases h
  ·cases h
 case typeAssert x xt t ok =>
  simp only [List.map_cons,List.map_nil] at hxs;subst hxs;cases ok
  case false=>simp only at h;cases h
  simp only at h;split at h
  ·rename_i t' v i heq hi;simp only [List.cons.injEq,and_true] at heq;split at h
   ·rename_i fs hk;have key:=aI1 hrep (o:=⟨dst,.typeAssert x xt t true,type,pos,after,guard⟩) rfl hd (hT t i hi) hk heq;split at h
    ·rename_i he;simp only [bG,eA] at h;obtain⟨rfl,_,_⟩:=h;rw [if_pos he] at key;exact key
    ·rename_i he;simp only [bG,eA] at h;obtain⟨rfl,_,_⟩:=h;rw [if_neg he] at key;exact key
   ·cases h
  ·cases h
 case build t parts =>
  subst hxs;split at h
  ·rename_i i hi;split at h
   ·rename_i fs hk;split at h
    ·rename_i cells hf;split at h
     ·rename_i hall;simp only [bG,eA] at h;obtain⟨rfl,_,_⟩:=h;exact aE1 hrep rfl hd (hT t i hi) hk hf hall
     ·cases h
    ·cases h
   ·rename_i n e' es hk;split at h
    ·rename_i cells hf;split at h
     ·cases h
     ·rename_i hes;simp only [bG,eA] at h;obtain⟨rfl,_,_⟩:=h;exact aCe hrep rfl hd (hT t i hi) hk hes hf
    ·cases h
   ·cases h
  ·cases h
 case buildSlice t len parts =>
  subst hxs;split at h
  ·rename_i i hi;split at h
   ·rename_i e' es bytes hk;split at h
    ·rename_i ei hei;split at h
     ·rename_i hcond;split at h
      ·rename_i k n es' sym kc hp0 hx0;split at h
       ·rename_i hq;obtain⟨rfl,rfl,hpp⟩:=hq;simp only [bG,eA] at h;obtain⟨rfl,rfl,_⟩:=h;simp only [Obs,Ob.Holds,and_true] at hob;rw [hx0] at hbs;simp only [jS,List.map_cons,List.map_nil,List.cons.injEq,and_true] at hbs;refine aE2 hrep rfl hd (hT t i hi) hk (hT e' ei hei) hcond.2.2 (hfr (fr,.live true false [.d kc n es']) (by simp) rfl) hbs.symm hp0 (by simpa using hx0) hob ?_;cases sym
        case true=>have:=hrep.pl k;rw [←hbs] at this;exact this
        exact lH (by simpa using hpp)
       ·cases h
      ·split at h
       ·rename_i cells hf;split at h
        ·rename_i hlc;simp only [bG,eA] at h;obtain⟨rfl,_,_⟩:=h;exact sG hrep rfl hd (hT t i hi) hk hcond.1 (hT e' ei hei) hcond.2.1 hcond.2.2 (hfr _ List.mem_cons_self rfl) hf hlc
        ·cases h
       ·cases h
     ·cases h
    ·cases h
   ·cases h
  ·cases h
 case load t x =>
  simp only [List.map_cons,List.map_nil] at hxs;subst hxs;split at h
  ·rename_i k off own sym cells i hx hi;simp only [List.cons.injEq,and_true] at hx;rw [hx] at hbs;simp only [jS,List.map_cons,List.map_nil,List.cons.injEq,and_true] at hbs;split at h
   ·split at h
    ·rename_i hl;split at h
     ·rename_i dc len es hv;simp only [bG,eA] at h;obtain⟨rfl,rfl,_⟩:=h;simp only [Obs,Ob.Holds,and_true] at hob;exact aCa hrep rfl hd hx hbs.symm (hT t i hi) rfl hl hv (hfr _ List.mem_cons_self rfl) hob
     ·rename_i v hnd hv;simp only [bG,eA] at h;obtain⟨rfl,_,_⟩:=h;exact aFq hrep rfl hd hx hbs.symm (hT t i hi) rfl hl hv
     ·cases h
    ·cases h
   ·split at h
    ·rename_i r orc2;split at h
     ·rename_i hl;split at h
      ·rename_i dc len es hv;simp only [bG,eA] at h;obtain⟨rfl,rfl,_⟩:=h;simp only [Obs,Ob.Holds,and_true] at hob;exact aCa hrep rfl hd hx hbs.symm (hT t i hi) hob.1 hl hv (hfr _ List.mem_cons_self rfl) hob.2
      ·rename_i v hnd hv;simp only [bG,eA] at h;obtain⟨rfl,rfl,_⟩:=h;simp only [Obs,Ob.Holds,and_true] at hob;exact aFq hrep rfl hd hx hbs.symm (hT t i hi) hob hl hv
      ·cases h
     ·cases h
    ·cases h
  ·cases h
 case store t x y =>
  simp only [List.map_cons,List.map_nil] at hxs;subst hxs;split at h
  ·rename_i k off v sym cells i hx hi;simp only [List.cons.injEq,and_true] at hx;obtain⟨hx,hy⟩:=hx;rw [hx] at hbs;simp only [jS,List.map_cons,List.map_nil,List.cons.injEq,and_true] at hbs;split at h
   ·rename_i hc;simp only [Bool.and_eq_true,beq_iff_eq] at hc;split at h
    ·split at h
     ·rename_i hl;simp only [bG,eA] at h;obtain⟨rfl,_,_⟩:=h;exact aCb hrep rfl hd hx hbs.symm (hT t i hi) hy (.inl rfl) hc.1.1 hc.1.2 hc.2 hl trivial
     ·cases h
    ·split at h
     ·rename_i hpl;simp only [bG,eA] at h;obtain⟨rfl,rfl,_⟩:=h;simp only [Obs,Ob.Holds,and_true] at hob;simp only [Bool.and_eq_true,beq_iff_eq] at hpl;refine aCb hrep rfl hd hx hbs.symm (hT t i hi) hy (.inr rfl) hpl.1.1.1 hpl.1.1.2 hpl.1.2 hob (fun j hj=>?_);rcases sU hj with hj | hj
      ·have:=hrep.pl k;rw [←hbs] at this;exact this j hj
      ·exact lH hpl.2 j hj
     ·cases h
   ·cases h
  ·cases h
 case fieldAddr t x f =>
  simp only [List.map_cons,List.map_nil] at hxs;subst hxs;split at h
  ·rename_i k off i hx hi;simp only [List.cons.injEq,and_true] at hx;split at h
   ·rename_i fs hk;split at h
    ·rename_i fd hf;simp only [bG,eA] at h;obtain⟨rfl,_,_⟩:=h;exact aCf hrep rfl hd hx (hT t i hi) hk hf
    ·cases h
   ·cases h
  ·cases h
 case indexAddr t x y =>
  simp only [List.map_cons,List.map_nil] at hxs;subst hxs;split at h
  ·rename_i k off kk n i hx hi;simp only [List.cons.injEq,and_true] at hx;split at h
   ·rename_i len e' es hk;split at h
    ·cases h
    ·rename_i hes;simp only [bG,eA] at h;obtain⟨rfl,rfl,_⟩:=h;simp only [Obs,Ob.Holds,and_true] at hob;exact aE3 hrep rfl hd hx.1 hx.2 (hT t i hi) hk hes hob
   ·cases h
  ·rename_i k off len es' kk n i hx hi;simp only [List.cons.injEq,and_true] at hx;split at h
   ·rename_i e' es bytes hk;split at h
    ·cases h
    ·rename_i hes;simp only [bG,eA] at h;obtain⟨rfl,rfl,_⟩:=h;simp only [Obs,Ob.Holds,and_true] at hob;exact aBa hrep rfl hd hx.1 hx.2 (hT t i hi) hk hes hob
   ·cases h
  ·cases h
 case index t x y =>
  simp only [List.map_cons,List.map_nil] at hxs;subst hxs;split at h
  ·rename_i cells kk n i hx hi;simp only [List.cons.injEq,and_true] at hx;split at h
   ·rename_i len e' es hk;split at h
    ·rename_i ei hei;split at h
     ·cases h
     ·rename_i hes;split at h
      ·rename_i hl;split at h
       ·rename_i v hv;simp only [bG,eA] at h;obtain⟨rfl,rfl,_⟩:=h;simp only [Obs,Ob.Holds,and_true] at hob;exact aLl hrep rfl hd hx.1 hx.2 (hT t i hi) hk (hT e' ei hei) (fun h=>hes (Or.inl h)) (Decidable.of_not_not fun h=>hes (Or.inr h)) hl hv hob
       ·cases h
      ·cases h
    ·cases h
   ·cases h
  ·cases h
 case slice t x lo hi mx =>
  split at h
  ·rename_i v r orc2 hv;obtain⟨rfl,hx,hlo,hhi⟩:=aCn (t:=t) (x:=x) hxs hv;have hblk:bs=[s.bk v.k]:=by
    rw [hbs,hxs];have:((Op.slice t x lo hi none).operands.toList.map (ev s.sl))=.s v.k v.off v.len v.es::(lo.toArray++hi.toArray).toList.map (ev s.sl):=by
     rw [←hx];simp [Op.operands]
    simp only [Op.operands] at this;rw [this];rfl
   split at h
   ·rename_i own sym cells i htt;simp only [List.cons.injEq,and_true] at hblk;split at h
    ·rename_i e' es bytes hk;split at h
     ·rename_i hc;obtain⟨rfl,hes,hp⟩:=hc;simp only [bG,eA] at h;obtain⟨rfl,rfl,_⟩:=h;simp only [Obs,Ob.Holds,and_true] at hob;have hpl:Plain cells:=by
       cases sym
       case true=>have:=hrep.pl v.k;rw [←hblk] at this;exact this
       exact lH (by simpa using hp)
      exact aPm hrep rfl hd hx hlo hhi (hT t i htt) hk hes hob.1 hblk.symm hpl (hfr _ (List.mem_cons_of_mem _ List.mem_cons_self) rfl) hob.2
     ·cases h
    ·cases h
   ·cases h
  split at h
  ·rename_i v orc2 hv;obtain⟨rfl,hx,hlo,hhi⟩:=aPn (t:=t) (x:=x) hxs hv;split at h
   ·rename_i i htt;split at h
    ·rename_i e' es bytes hk;split at h
     ·rename_i hc;obtain⟨rfl,hes⟩:=hc;simp only [bG,eA] at h;obtain⟨rfl,rfl,_⟩:=h;simp only [Obs,Ob.Holds,and_true] at hob;exact aQw hrep rfl hd hx hlo hhi (hT t i htt) hk hes hob
     ·cases h
    ·cases h
   ·cases h
  split at h
  ·rename_i k off own cells i htt hvw hsb;simp only [Option.toArray_none,Array.append_empty,List.map_cons,List.map_nil] at hxs;simp only [List.cons.injEq,and_true] at hxs;simp only [jS,List.map_cons,List.map_nil,List.cons.injEq,and_true] at hbs;split at h
   ·rename_i len e' es hk;split at h
    ·rename_i hc;simp only [bG,eA] at h;obtain⟨rfl,_,_⟩:=h;exact aE4 hrep rfl hd hxs.symm hbs.symm (hT t i htt) hk hc.1 hc.2
    ·cases h
   ·cases h
  ·rename_i y k off len es' kk n bs' i htt hvw hsb;simp only [Option.toArray_none,Array.append_empty,List.map_cons,List.map_nil,Option.toArray_some,Array.toList_append,List.cons_append,List.nil_append,List.cons.injEq,and_true] at hxs;split at h
   ·rename_i e' es bytes hk;split at h
    ·rename_i hc;obtain⟨rfl,hes⟩:=hc;simp only [bG,eA] at h;obtain⟨rfl,rfl,_⟩:=h;simp only [Obs,Ob.Holds,and_true] at hob;exact aBb hrep rfl hd hxs.1.symm hxs.2.symm (hT t i htt) hk hes hob
    ·cases h
   ·cases h
  ·cases h
 case binOp op t x y ty =>
  simp only [List.map_cons,List.map_nil] at hxs;subst hxs;simp only at h;split at h
  ·rename_i r obs' hs;simp only [bG,eA] at h;obtain⟨rfl,rfl,_⟩:=h;exact aI3 hT hrep rfl hd hs hob
  ·cases h
 case unOp op t x =>
  simp only [List.map_cons,List.map_nil] at hxs;subst hxs;simp only at h;split at h
  ·rename_i r hs;simp only [bG,eA] at h;obtain⟨rfl,_,_⟩:=h;exact aLm hrep rfl hd hs
  ·cases h
 case convert src dst' x =>
  simp only [List.map_cons,List.map_nil] at hxs;subst hxs;split at h
  ·rename_i k n i j hx hi hj;simp only [List.cons.injEq,and_true] at hx;split at h
   ·rename_i k' k2 hk hk2;simp only [bG,eA] at h;obtain⟨rfl,_,_⟩:=h;obtain⟨n1,d1,z1,_,u1,_,hi1⟩:=bF (hT _ i hi);obtain⟨n2,d2,z2,_,u2,_,hi2⟩:=bF (hT _ j hj);rw [hi1] at hk;rw [hi2] at hk2;simp only at hk hk2;cases d1<;>simp [cH] at hk;cases d2<;>simp [cH] at hk2;rename_i q1 q2;subst hk hk2;have hxr:=bW hrep x;rw [hx] at hxr;simp only [Rel] at hxr;refine Does.value hrep hd (y:=.int q1 (q1.wrap n)) ?_ (by simp only [Rel]) (fun j hj=>(eO hj).elim);simp only [execOp,hxr,convert,Sem.run_bind,bB u1,bB u2,Result.andThen_ok,Conv.intToInt,Sem.run_pure]
   ·cases h
  ·cases h
 case extract x i =>
  simp only [List.map_cons,List.map_nil] at hxs;subst hxs;split at h
  ·rename_i l hx;simp only [List.cons.injEq,and_true] at hx;split at h
   ·rename_i v hv;simp only [bG,eA] at h;obtain⟨rfl,_,_⟩:=h;have hxr:=bW hrep x;have hxw:=qE hrep x;rw [hx] at hxr hxw;simp only [Rel] at hxr;obtain⟨vs,hxv,hrs⟩:=hxr;obtain⟨y,hy,hyr⟩:=Rels.get i hrs hv;refine Does.value hrep hd (y:=y) ?_ hyr (fun j hj=>hxw j (by simp only [SV.has];rw [eP];exact⟨v,List.mem_of_getElem? hv,hj⟩));have:(vs.toArray)[i]? = some y:=by simpa using hy
    simp [execOp,hxv,Instr.extract,this]
   ·cases h
  ·cases h
 case makeSlice t x y =>
  simp only [List.map_cons,List.map_nil] at hxs;split at h
  ·rename_i k1 n k2 m i r orc2 hi;simp only [List.cons.injEq,and_true] at hxs;split at h
   ·rename_i e' es bytes hk;split at h
    ·rename_i ei hei;split at h
     ·rename_i hc;simp only [bG,eA] at h;obtain⟨rfl,rfl,_⟩:=h;simp only [Obs,Ob.Holds,and_true] at hob;obtain⟨hn,rfl,rfl⟩:=hob;exact aCl hrep rfl hd hxs.1.symm hxs.2.symm (hT t i hi) hk (hT e' ei hei) hc.1 hc.2.1 hc.2.2 hn (hfr _ List.mem_cons_self rfl)
     ·cases h
    ·cases h
   ·cases h
  ·cases h
 case makeMap t r =>
  split at h
  ·rename_i i hi;split at h
   ·rename_i kt et hk;simp only [bG,eA] at h;obtain⟨rfl,_,_⟩:=h;cases r with
    | some _=>simp at hxs
    | none=>exact aGs hrep rfl hd (hfr _ List.mem_cons_self rfl)
   ·cases h
  ·cases h
 case lookup t x y ok =>
  simp only [List.map_cons,List.map_nil] at hxs;split at h
  ·rename_i k x0 es i v orc2 hi;simp only [List.cons.injEq,and_true] at hxs;simp only [jS,List.map_cons,List.map_nil,List.cons.injEq,and_true] at hbs;split at h
   ·rename_i kt et hk;split at h
    ·rename_i ei hei;split at h
     ·rename_i z hz;split at h
      ·rename_i hkey;cases ok
       case false=>simp only [bG,eA] at h;obtain⟨rfl,rfl,_⟩:=h;simp only [Obs,Ob.Holds,and_true] at hob;obtain⟨hke,q,hq,rfl⟩:=hob;exact aAr hT hrep rfl hd hxs.1.symm hxs.2.symm hbs.symm (hT t i hi) hk (hT et ei hei) hz hkey hke hq false
       simp only at h;split at h
       ·simp only [bG,eA] at h;obtain⟨rfl,rfl,_⟩:=h;simp only [Obs,Ob.Holds,and_true] at hob;obtain⟨hke,q,hq,rfl,rfl⟩:=hob;exact aAr hT hrep rfl hd hxs.1.symm hxs.2.symm hbs.symm (hT t i hi) hk (hT et ei hei) hz hkey hke hq true
       ·cases h
      ·cases h
     ·cases h
    ·cases h
   ·cases h
  ·cases h
 case mapUpdate t x y z =>
  simp only [List.map_cons,List.map_nil] at hxs;split at h
  ·rename_i k x0 y0 es i es' orc2 hi;simp only [List.cons.injEq,and_true] at hxs;simp only [jS,List.map_cons,List.map_nil,List.cons.injEq,and_true] at hbs;split at h
   ·rename_i kt et hk;split at h
    ·rename_i hkey;simp only [Bool.and_eq_true] at hkey;simp only [bG,eA] at h;obtain⟨rfl,rfl,_⟩:=h;simp only [Obs,Ob.Holds,and_true] at hob;exact sV hT hrep (.inl rfl) hd hxs.1.symm hxs.2.1.symm hxs.2.2.symm rfl hbs.symm (hT t i hi) hk hkey.1 hkey.2 hob.1 hob.2.1 hob.2.2
    ·cases h
   ·cases h
  ·cases h
 case insert t x y z =>
  simp only [List.map_cons,List.map_nil] at hxs;split at h
  ·rename_i k x0 y0 es i es' orc2 hi;simp only [List.cons.injEq,and_true] at hxs;simp only [jS,List.map_cons,List.map_nil,List.cons.injEq,and_true] at hbs;split at h
   ·rename_i kt et hk;split at h
    ·rename_i hkey;simp only [Bool.and_eq_true] at hkey;simp only [bG,eA] at h;obtain⟨rfl,rfl,_⟩:=h;simp only [Obs,Ob.Holds,and_true] at hob;exact sV hT hrep (.inr rfl) hd hxs.1.symm hxs.2.1.symm hxs.2.2.symm rfl hbs.symm (hT t i hi) hk hkey.1 hkey.2 hob.1 hob.2.1 hob.2.2
    ·cases h
   ·cases h
  ·cases h
 case mapEntry t x y =>
  simp only [List.map_cons,List.map_nil] at hxs;split at h
  ·rename_i k x0 es i es' v n orc2 hi;simp only [List.cons.injEq,and_true] at hxs;simp only [jS,List.map_cons,List.map_nil,List.cons.injEq,and_true] at hbs;split at h
   ·rename_i kt et hk;split at h
    ·rename_i ei hei;split at h
     ·rename_i z hz;split at h
      ·rename_i hkey;simp only [bG,eA] at h;obtain⟨rfl,rfl,_⟩:=h;simp only [Obs,Ob.Holds,and_true] at hob;obtain⟨hke,⟨j,rfl,hm⟩,hpl⟩:=hob;exact aE5 hT hrep rfl hd hxs.1.symm hxs.2.symm hbs.symm (hT t i hi) hk (hT et ei hei) hz hkey hke hm hpl
      ·cases h
     ·cases h
    ·cases h
   ·cases h
  ·cases h
 case entryStore t x y z =>
  simp only [List.map_cons,List.map_nil] at hxs;split at h
  ·rename_i k kk n y0 es es' orc2;simp only [List.cons.injEq,and_true] at hxs;simp only [jS,List.map_cons,List.map_nil,List.cons.injEq,and_true] at hbs;split at h
   ·rename_i hkn;simp only [bG,eA] at h;obtain⟨rfl,rfl,_⟩:=h;simp only [Obs,Ob.Holds,and_true] at hob;obtain⟨⟨j,e,rfl,he,rfl⟩,hpl⟩:=hob;exact aBc hrep rfl hd hxs.1.symm hxs.2.1.symm hxs.2.2.symm rfl hbs.symm hkn he hpl
   ·cases h
  ·cases h
 case nilCheck x =>
  simp only [List.map_cons,List.map_nil] at hxs;subst hxs;split at h
  ·rename_i k off hx;simp only [List.cons.injEq,and_true] at hx;simp only [bG,eA] at h;obtain⟨rfl,_,_⟩:=h;have hxr:=bW hrep x;have hxw:=qE hrep x;rw [hx] at hxr hxw;have hxr':=hxr;simp only [Rel] at hxr';obtain⟨b,o',m,_,hy⟩:=hxr';refine Does.value hrep hd (y:=a.eval x) ?_ hxr hxw;simp only [execOp,hy];rfl
  ·cases h
 case makeFunc fn first captured =>
  cases fn with
  | func g =>
   simp only at h;split at h
   ·rename_i hf;obtain⟨hf,hg⟩:=hf;simp only [bG,eA] at h;obtain⟨rfl,_,_⟩:=h;have hf':first=#[]:=Array.eq_empty_of_size_eq_zero hf
    subst hf';simp only [Array.empty_append] at hxs;refine Does.value hrep hd (y:=.func (.func g) #[] (captured.map a.eval)) ?_ ?_ (fun j hj=>?_)
    ·simp [execOp,Instr.makeFunc]
    ·simp only [Rel];refine⟨captured.toList.map a.eval,by rw [aLe hg];congr 1;apply Array.ext';simp,?_⟩;rw [hxs];exact lW hrep _
    ·simp only [SV.has] at hj;rw [hxs] at hj;exact vY hrep hj
   ·split at h
    ·rename_i hc;simp only [bG,eA] at h;obtain⟨rfl,_,_⟩:=h;have hc':captured=#[]:=Array.eq_empty_of_size_eq_zero hc;subst hc';simp only [Array.append_empty] at hxs;refine Does.value hrep hd (y:=.func (.func g) (first.map a.eval) #[]) ?_ ?_ (fun j hj=>?_)
     ·simp [execOp,Instr.makeFunc]
     ·simp only [Rel];refine⟨first.toList.map a.eval,by rw [aX9];congr 1;apply Array.ext';simp,?_⟩;rw [hxs];exact lW hrep _
     ·simp only [SV.has] at hj;rw [hxs] at hj;exact vY hrep hj
    ·cases h
  | _=>simp at h
 case call c =>
  obtain⟨callee,args,ts⟩:=c;cases callee with
  | builtin b =>
   by_cases hb:b=.append
   ·subst hb;simp only at h;split at h
    ·rename_i e' obs' hs;simp only [bG,eA] at h;obtain⟨rfl,rfl,_⟩:=h;have hxs':xs=args.toList.map (ev s.sl):=by rw [hxs];simp [Call.operands]
     refine aGr hT hrep rfl hd (hfr:=?_) hxs' hbs hs hob;have hmem:∃u∈e'.ups,u.1=fr:=aCm hs;obtain⟨u,hu,hu1⟩:=hmem;exact hfr u hu hu1
    ·split at h
     ·rename_i e' obs' hs;simp only [bG,eA] at h;obtain⟨rfl,rfl,_⟩:=h;have hxs':xs=args.toList.map (ev s.sl):=by rw [hxs];simp [Call.operands]
      refine aI4 hT hrep rfl hd (hfr:=?_) hxs' hbs hs hob;have hmem:∃u∈e'.ups,u.1=fr:=aE6 hs;obtain⟨u,hu,hu1⟩:=hmem;exact hfr u hu hu1
     ·cases h
   have h:(match xH T b ts.toList xs with
    | some r=>some (({ val:=r }:Eff),([]:List Ob),orc)
    | none=>none)=some (e,obs,orc'):=by
    cases b<;>first | exact(hb rfl).elim | exact h
   split at h
   ·rename_i r hs;simp only [bG,eA] at h;obtain⟨rfl,_,_⟩:=h;refine aLn hT hrep rfl hd (b:=b) (args:=args) (ts:=ts) ?_;have:xs=args.toList.map (ev s.sl):=by rw [hxs];simp [Call.operands]
    rw [←this];exact hs
   ·cases h
  | _=>simp at h
end
end Go.Aw
